/-
  The operations one by one, continued: parts of slices and strings, new arrays, closures. Nothing here is trusted; no condition.
-/
import Derived.Test.YtgpkijnphchkpaaGreatA1
import Derived.Deep.AppendSrc
import Derived.Laws.MakeOwn
import Derived.Laws.StructEq
set_option linter.unusedSimpArgs false
set_option linter.unusedVariables false
namespace Go.Proofs.YtgpkijnphchkpaaGreat
variable {dV:Prop} [jY dV]
open Go.RowKit
structure Ctx.Gz(ks:List Nat)(c c':Ctx):Prop where
 heap: ∀b,c.M.S b→c'.w.heap[b]?=c.w.heap[b]?
 S: ∀b,c.M.S b→c'.M.S b
 D: ∀i,c.D i→ak i ks=false→c'.D i
 ν: ∀i,c.D i→ak i ks=false→c'.ν i=c.ν i
def GA(c:Ctx)(ks:List Nat):Prop:= ∀i,ak i ks=true→c.D i→ ∃a n m,c.ν i= .slice a n m
mutual theorem vO {ks:List Nat} {c c':Ctx} (hc:c.Gz ks c')(hb:GA c ks): ∀ {p:PV} {v:Value},ag c p v→ag c' (p.kill ks) v|.iv T x,v,h=>(by simp only[PV.kill,ag]at h⊢;exact⟨h.1,ig hc.heap hc.S h.1 h.2⟩)|.ref i off,v,h=>(by simp only[PV.kill,ag]at h⊢;obtain⟨hd,g,h1,h2⟩:=h;(have bY:ak i ks=false:=by cases hm:ak i ks with|false=>rfl|true=>obtain⟨a,n,m,e⟩:=hb i hm hd;rw[h1]at e;cases e);exact⟨hc.D _ hd bY,g,by rw[hc.ν _ hd bY];exact h1,h2⟩)|.lmap i,v,h=>(by simp only[PV.kill,ag]at h⊢;obtain⟨hd,h1,r,h2⟩:=h;(have bY:ak i ks=false:=by cases hm:ak i ks with|false=>rfl|true=>obtain⟨a,n,m,e⟩:=hb i hm hd;rw[h1,e]at h2;cases h2);exact⟨hc.D _ hd bY,by rw[hc.ν _ hd bY];exact h1,r,h2⟩)|.dU T x off,v,h=>(by simp only[PV.kill,ag]at h⊢;obtain⟨ho,g,o,cs,h1,h2,h3,h4,h5⟩:=h;exact⟨ho,g,o,cs,h1,hc.S _ h2,h3,h4.mono (hc.heap _ h2),aB hc.heap hc.S _ _ _ ho h5⟩)|.aF i,v,h=>(by simp only[PV.kill];cases hi:ak i ks;(·simp only[cond_false,ag]at h⊢;exact⟨hc.D _ h.1 hi,by rw[hc.ν _ h.1 hi];exact h.2.1,h.2.2⟩);·simp only[cond_true,ag])|.jI i sz off len,v,h=>(by simp only[PV.kill];cases hi:ak i ks;(·simp only[cond_false,ag]at h⊢;obtain⟨hd,a,n,cap,b,h1,h2⟩:=h;exact⟨hc.D _ hd hi,a,n,cap,b,by rw[hc.ν _ hd hi];exact h1,h2⟩);·simp only[cond_true,ag])|.gx i sz j off,v,h=>(by simp only[PV.kill];cases hi:ak i ks;(·simp only[cond_false,ag]at h⊢;obtain⟨hd,g,o,n,cap,h1,h2⟩:=h;exact⟨hc.D _ hd hi,g,o,n,cap,by rw[hc.ν _ hd hi];exact h1,h2⟩);·simp only[cond_true,ag])|.agg cs,v,h=>(by simp only[PV.kill,ag]at h⊢;obtain⟨vs,h1,h0,h2⟩:=h;exact⟨vs,h1,h0,fj hc hb h2⟩)|.bq cs,v,h=>(by simp only[PV.kill,ag]at h⊢;obtain⟨vs,h1,h2⟩:=h;exact⟨vs,h1,fj hc hb h2⟩)|.bI,v,h=>(by simp only[PV.kill,ag]at h⊢;exact h)|.dc,v,h=>(by simp only[PV.kill,ag]at h⊢;exact h)|.dP,v,h=>(by simp only[PV.kill,ag]at h⊢;exact h)|.jj i base T n j,v,h=>(by simp only[PV.kill,ag]at h⊢;obtain⟨hd,h0,hn,g,h1,h2⟩:=h;(have bY:ak i ks=false:=by cases hm:ak i ks with|false=>rfl|true=>obtain⟨a,n,m,e⟩:=hb i hm hd;rw[h1]at e;cases e);exact⟨hc.D _ hd bY,h0,hn,g,by rw[hc.ν _ hd bY];exact h1,h2⟩)|.yh f cs,v,h=>(by simp only[PV.kill,ag]at h⊢;obtain⟨vs,h1,h2⟩:=h;exact⟨vs,h1,fj hc hb h2⟩)|.pj f cs,v,h=>(by simp only[PV.kill,ag]at h⊢;obtain⟨vs,h1,h2⟩:=h;exact⟨vs,h1,fj hc hb h2⟩)|.cN hk i,v,h=>(by simp only[PV.kill,ag]at h⊢;obtain⟨hd,g,h1,h2⟩:=h;(have bY:ak i ks=false:=by cases hm:ak i ks with|false=>rfl|true=>obtain⟨a,n,m,e⟩:=hb i hm hd;rw[h1]at e;cases e);exact⟨hc.D _ hd bY,g,by rw[hc.ν _ hd bY];exact h1,h2⟩)|.clip T xs,v,h=>(by simp only[PV.kill,ag]at h⊢;exact⟨h.1,h.2.1,aB hc.heap hc.S (.sl T) _ _ h.1 h.2.2⟩)|.fn f cs,v,h=>(by simp only[PV.kill,ag]at h⊢;obtain⟨vs,h1,h2⟩:=h;exact⟨vs,h1,fj hc hb h2⟩)|.any,v,h=>by simp only[PV.kill,ag]theorem fj {ks:List Nat} {c c':Ctx} (hc:c.Gz ks c')(hb:GA c ks): ∀ {ps:List PV} {vs:List Value},ai c ps vs→ai c' (PV.cy ks ps) vs|[],vs,h=>(by simp only[PV.cy,ai]at h⊢;exact h)|p::ps,vs,h=>by simp only[PV.cy,ai]at h⊢;obtain⟨v,r,h1,h2,h3⟩:=h;exact⟨v,r,h1,vO hc hb h2,fj hc hb h3⟩end
theorem gV(f:PV→PV)(t:Nat): ∀l:List (Nat×PV),look t (mT f l)=(look t l).map f|[]=>rfl|p::r=>by simp only[mT,look];cases Nat.beq t p.1;(·simpa using gV f t r);·rfl
theorem nX(f:List PV→List PV)(t:Nat): ∀l:List (Nat×aO),look t (pB f l)=(look t l).map (aO.map f)|[]=>rfl|p::r=>by simp only[pB,look];cases Nat.beq t p.1;(·simpa using nX f t r);·rfl
theorem ff(ks:List Nat)(t:Nat): ∀l:List (Nat×aO),look t (cj ks l)=bif ak t ks then none else look t l|[]=>(by simp[cj,look])|p::r=>by simp only[cj];cases hm:ak p.1 ks with|true=>simp only[cond_true,look,ff ks t r];(cases hb:Nat.beq t p.1 with|true=>rw[Nat.eq_of_beq_eq_true hb,hm];rfl|false=>rfl)|false=>simp only[cond_false,look,ff ks t r];cases hb:Nat.beq t p.1 with|true=>rw[Nat.eq_of_beq_eq_true hb,hm];rfl|false=>rfl
theorem zx(s:St)(ks:List Nat)(t:Nat):(s.kill ks).get t=(s.get t).kill ks:=by simp only[St.get,St.kill,gV];cases look t s.sl<;>simp[PV.kill]
theorem qR(s:St)(ks:List Nat)(i:Nat):look i (s.kill ks).bl=(look i s.bl).map (aO.map (PV.cy ks)):=by simp only[St.kill,nX]
theorem CS {ks:List Nat} {c c':Ctx} (hc:c.Gz ks c')(V1:GA c ks)(hB:c'.M.O=c.M.O) {id:Nat} {b:aO} (cJ:c'.ν id=c.ν id)(hg: ∀g,aE (c.ν id)=some g→c'.w.heap[g]?=c.w.heap[g]?∧(¬c.M.S g→ ¬c'.M.S g))(h:lY c id b):lY c' id (b.map (PV.cy ks)):=by
 cases b with|box cs te=>obtain⟨jJ,g,vs,e,h1,h2,h3,h4,h0,h5⟩:=h;obtain⟨e1,e2⟩:=hg g (by rw[h1];rfl);exact⟨jJ.mV cJ fun g fu=>(hg g fu).1,g,vs,e,by rw[cJ];exact h1,by rw[hB];exact h2,e2 h3,by rw[e1];exact h4,h0,fj hc V1 h5⟩|arr T xs te=>obtain⟨jJ,ho,v,hv,h1,h2⟩:=h;injection hv with hv;refine⟨jJ.mV cJ fun g fu=>(hg g fu).1,ho,v,by rw[cJ,hv],h1,?_⟩;rcases h2 with h2|⟨g,o,cap,cur,e,rfl,h3,h4,h5,h6,h7,h8,h9⟩;(·exact .inl h2);(·obtain⟨e1,e2⟩:=hg g (by rw[hv];rfl);refine .inr ⟨g,o,cap,cur,e,rfl,h3,h4,e2 h5,by rw[hB];exact h6,by rw[e1];exact h7,h8,fun i y hy=>?_⟩;obtain⟨cs,hl,Ej,hr⟩:=h9 i y hy;exact⟨cs,hl,Ej.mono e1,aB hc.heap hc.S _ _ _ ho hr⟩)|mp K V es=>obtain⟨dg,tG,h0,r,ax,clock,h1,h2,h3,h4,h5,h6,h7⟩:=h;obtain⟨e1,e2⟩:=hg r (by rw[h1];rfl);refine⟨dg,tG,h0,r,ax,clock,by rw[cJ];exact h1,by rw[hB];exact h2,e2 h3,by rw[e1];exact h4,h5,h6,fun i y hy=>?_⟩;obtain⟨e,ca,cb,a1,a2,a3,a4,a5⟩:=h7 i y hy;exact⟨e,ca,cb,a1,a2,aB hc.heap hc.S _ _ _ dg a3,a4,aB hc.heap hc.S _ _ _ tG a5⟩|it src since seen=>obtain⟨g,m,h1,h2,h3,h4,h6⟩:=h;obtain⟨e1,e2⟩:=hg g (by rw[h1];rfl);exact⟨g,m,by rw[cJ];exact h1,by rw[hB];exact h2,e2 h3,by rw[e1];exact h4,fj hc V1 h6⟩|zd x pos=>obtain⟨g,h1,h2,h3,h4,h5⟩:=h;obtain⟨e1,e2⟩:=hg g (by rw[h1];rfl);exact⟨g,by rw[cJ];exact h1,by rw[hB];exact h2,e2 h3,by rw[e1];exact h4,h5⟩|gh o cs=>obtain⟨g,vs,h1,h2,h3,h4,h6⟩:=h;obtain⟨e1,e2⟩:=hg g (by rw[h1];rfl);exact⟨g,vs,by rw[cJ];exact h1,by rw[hB];exact h2,e2 h3,by rw[e1];exact h4,fj hc V1 h6⟩
theorem pO {i k:Nat} :ak i [k]=Nat.beq i k:=by simp only[ak];cases Nat.beq i k<;>rfl
theorem GB {i k:Nat} (h:i≠k):ak i [k]=false:=by rw[pO];cases hb:Nat.beq i k with|false=>rfl|true=>exact absurd (Nat.eq_of_beq_eq_true hb) h
theorem GC {i k:Nat} (h:ak i [k]=true):i=k:=by rw[pO]at h;exact Nat.eq_of_beq_eq_true h
section
variable {n:Nat} {w0:World} {S0:Cx} {s:St} {a:Act} {w:World} {ν:Nat→Value} {S:Nat→Prop}
theorem Full.app(h:Full n w0 S0 s a w ν S) {d id j:Nat} {T:Ty} {xs:List T.den} {te:Option Nat} {b':aO} {v':Value} {w':World} (hd:d<n)(hl:look id s.bl=some (.arr T xs te))(hj:j<P0)(NC:j=id∨look j s.bl=none)(hw:eN w w' (aE (ν id)))(hv: ∃a n cap,v'= .slice a n cap)(iI: ∀g,aE v'=some g→aE (ν id)=some g∨w.heap.size≤g)(hb: ∀D:Nat→Prop,lY ⟨fun i=>if i=j then v' else ν i,D,w',⟨S,aK w0 S0⟩⟩ j b'):Full n w0 S0 ⟨(d,.aF j)::(s.kill [id]).sl,(j,b')::cj [id] (s.kill [id]).bl⟩ (a.put (some d) v') w' (fun i=>if i=j then v' else ν i) S:=by
 (have jW: ∃a n m,ν id= .slice a n m:=by obtain⟨_,ho,v,hv,_,h2⟩:=h.W.cA id _ hl;injection hv with hv;simp only at hv;rw[hv];rcases h2 with⟨h2,_⟩|⟨g',o,cap,cur,e,h2,_⟩<;>subst h2<;>exact⟨_,_,_,rfl⟩)
 (have V1:GA ⟨ν,s.D,w,⟨S,aK w0 S0⟩⟩ [id]:=by intro i hi _;rw[GC hi];exact jW);(have GD: ∀i c,i≠j→look i (⟨(d,.aF j)::(s.kill [id]).sl,(j,b')::cj [id] (s.kill [id]).bl⟩:St).bl=some c→i≠id∧ ∃c0,look i s.bl=some c0∧c=c0.map (PV.cy [id]):=by intro i c fv hc;rw[aC _ _ fv,ff]at hc;cases hm:ak i [id]with|true=>rw[hm]at hc;cases hc|false=>rw[hm]at hc;simp only[cond_false]at hc;rw[qR]at hc;refine⟨fun e=>?_,?_⟩;(·subst e;rw[pO,Nat.beq_refl]at hm;cases hm);·cases JA:look i s.bl with|none=>rw[JA]at hc;cases hc|some c0=>rw[JA]at hc;injection hc with hc;exact⟨c0,rfl,hc.symm⟩)
 (have hD: ∀i,s.D i→i≠id→(⟨(d,.aF j)::(s.kill [id]).sl,(j,b')::cj [id] (s.kill [id]).bl⟩:St).D i:=by rintro i⟨c,hc⟩bY;by_cases fv:i=j;(·subst fv;exact⟨b',aM _ _ _⟩);·exact⟨c.map (PV.cy [id]),by rw[aC _ _ fv,ff,GB bY,cond_false,qR,hc];rfl⟩)
 (have bY: ∀i,s.D i→i≠id→i≠j:=by rintro i⟨c,hc⟩hi e;subst e;rcases NC with NC|NC;(·exact hi NC);·rw[NC]at hc;cases hc);have hS: ∀g,S g→w'.heap[g]?=w.heap[g]?:=fun g hg=>hw.block g (h.W.lt g hg) (fun e=>(h.iH hl e.symm).2.1 hg)
 (have hle:Ctx.Gz [id] ⟨ν,s.D,w,⟨S,aK w0 S0⟩⟩ ⟨fun i=>if i=j then v' else ν i,(⟨(d,.aF j)::(s.kill [id]).sl,(j,b')::cj [id] (s.kill [id]).bl⟩:St).D,w',⟨S,aK w0 S0⟩⟩:=by refine⟨hS,fun _ h=>h,fun i hi hm=>hD i hi ?_,fun i hi hm=>?_⟩;(·rintro rfl;rw[pO,Nat.beq_refl]at hm;cases hm);·(have:i≠id:=by rintro rfl;rw[pO,Nat.beq_refl]at hm;cases hm);simp[bY i hi this])
 refine⟨h.below.grown hw (fun g hg=>(h.iH hl hg).1),h.Cc,h.fresh,⟨fun g hg=>Nat.lt_of_lt_of_le (h.W.lt g hg) hw.size,fun g hg=>h.W.size g (Nat.le_trans hw.size hg),fun i c hc=>?_,fun i k c e Er hi hk g Jm zy=>?_⟩,?_,?_,?_,h.sj,fun i hi CR=>?_,h.Ep⟩
 (·by_cases hi:i=j;(·subst hi;rw[aM]at hc;injection hc with hc;subst hc;exact hb _);·obtain⟨Jz,c0,tL,rfl⟩:=GD i c hi hc;refine CS hle V1 rfl (by simp[hi]) (fun g hg=>?_) (h.W.cA i c0 tL);exact⟨hw.block g (h.iH tL hg).2.2 (fun e=>h.W.ne i id c0 _ Jz tL hl g hg e.symm),fun h=>h⟩)
 (·by_cases fv:i=j;(·subst fv;have pP:k≠i:=fun e=>Er e.symm;simp only[if_true]at Jm;simp only[pP,if_false]at zy;obtain⟨bp0,e',yk,_⟩:=GD k e pP hk;rcases iI g Jm with hf|hf;(·exact h.W.ne id k _ _ (fun e=>bp0 e.symm) hl yk g hf zy);·have:=(h.iH yk zy).2.2;omega);·simp only[fv,if_false]at Jm;obtain⟨bp1,c',iY,_⟩:=GD i c fv hi;by_cases hkj:k=j;(·subst hkj;simp only[if_true]at zy;rcases iI g zy with hf|hf;(·exact h.W.ne i id _ _ bp1 iY hl g Jm hf);·have:=(h.iH iY Jm).2.2;omega);·simp only[hkj,if_false]at zy;obtain⟨_,e',yk,_⟩:=GD k e hkj hk;exact h.W.ne i k _ _ Er iY yk g Jm zy)
 (·intro t;(have hlf:ag ⟨fun i=>if i=j then v' else ν i,(⟨(d,.aF j)::(s.kill [id]).sl,(j,b')::cj [id] (s.kill [id]).bl⟩:St).D,w',⟨S,aK w0 S0⟩⟩ (.aF j) v':=by simp only[ag];exact⟨⟨b',aM _ _ _⟩,by simp,hv⟩);refine vM (s:=s.kill [id]) (fun t=>?_) h.size hd (fun t=>?_) hlf t;(·rw[zx];exact vO hle V1 (h.fe t));·by_cases ht:t=d;(·subst ht;simp[St.get,aM]);·simp[St.get,aC _ _ ht,ht])
 (·rw[tK];exact h.size);(·rw[nW];exact h.defers);·(have fv:i≠j:=by omega);simp only[fv,if_false];obtain⟨c,hc⟩:=CR;obtain⟨_,c0,tL,_⟩:=GD i c fv hc;exact h.kept i hi ⟨c0,tL⟩
end
/-! ### append -/
theorem qS {T:Ty} {w:World} {M:Mem} {g o:Nat} : ∀(xs:List T.den),(∀i y,xs[i]?=some y→ ∃cs,cs.length=T.cells∧dQ w g (o+i*T.cells) cs∧aH T y w M cs)→ ∃vs:List Value,vs.length=xs.length*T.cells∧dQ w g o vs∧(∀u,u∈vs→u.oneCell'=true)∧ ∀i y,xs[i]?=some y→aH T y w M ((vs.drop (i*T.cells)).take T.cells):=by
 intro xs;induction xs generalizing o with|nil=>intro _;exact⟨[],by simp,fun j v h=>by simp at h,by simp,fun i y h=>by simp at h⟩|cons x xs ih=>intro h;obtain⟨cs,hl,hc,hr⟩:=h 0 x rfl;obtain⟨vs,Cd,hvc,hv1,V3⟩:=ih (o:=o+T.cells) (fun i y hy=>by obtain⟨jn,JA,iY,jX⟩:=h (i+1) y (by simpa using hy);refine⟨jn,JA,?_,jX⟩;(have e:o+(i+1)*T.cells=o+T.cells+i*T.cells:=by rw[Nat.add_mul];omega);rwa[e]at iY);refine⟨cs++vs,by simp[hl,Cd,Nat.add_mul];omega,fun j v hj=>?_,fun u hu=>?_,fun i y hy=>?_⟩;(·rcases Nat.lt_or_ge j T.cells with ND|ND;(·rw[List.getElem?_append_left (by omega)]at hj;have:=hc j v hj;simpa using this);·rw[List.getElem?_append_right (by omega)]at hj;have:=hvc _ v hj;rw[←this];congr 2;omega);(·rcases List.mem_append.1 hu with hu|hu;(·exact tE _ _ _ _ _ hr u hu);·exact hv1 u hu);·cases i with|zero=>simp at hy;subst hy;rw[Nat.zero_mul,List.drop_zero,←hl,List.take_left];exact hr|succ i=>have:=V3 i y (by simpa using hy);(have e:(i+1)*T.cells=cs.length+i*T.cells:=by rw[Nat.add_mul,hl];omega);rw[e,List.drop_append];simpa[List.drop_of_length_le]using this
theorem yD {T:Ty} {w:World} {M:Mem} {g o:Nat} {xs:List T.den} {vs:List Value} (hl:vs.length=xs.length*T.cells)(hc:dQ w g o vs)(hr: ∀i y,xs[i]?=some y→aH T y w M ((vs.drop (i*T.cells)).take T.cells)): ∀i y,xs[i]?=some y→ ∃cs,cs.length=T.cells∧dQ w g (o+i*T.cells) cs∧aH T y w M cs:=by
 intro i y hy;(have hi:i<xs.length:=by rcases Nat.lt_or_ge i xs.length with h|h;(·exact h);·rw[List.getElem?_eq_none h]at hy;cases hy);refine⟨_,bR _ _ _ _ _ (hr i y hy),fun j v hj=>?_,hr i y hy⟩
 (have BU:j<T.cells:=by rcases Nat.lt_or_ge j T.cells with h|h;(·exact h);·rw[List.getElem?_eq_none (by rw[bR _ _ _ _ _ (hr i y hy)];exact h)]at hj;cases hj);rw[List.getElem?_take,if_pos BU,List.getElem?_drop]at hj
 have:=hc _ v hj;rw[←this,Nat.add_assoc]
theorem sm {T : Ty} {w w' : World} {M : Mem} (hw : ∀ b, M.S b → w'.heap[b]? = w.heap[b]?) (ho : aR T = 0) {xs ys : List T.den} {us vs : List Value} (hu : us.length = xs.length * T.cells) (hr : ∀ i y, xs[i]? = some y → aH T y w M ((us.drop (i * T.cells)).take T.cells))
    (hs : ∀ i y, ys[i]? = some y → aH T y w M ((vs.drop (i * T.cells)).take T.cells)) : ∀ i y, (xs ++ ys)[i]? = some y → aH T y w' M (((us ++ vs).drop (i * T.cells)).take T.cells) := by
  intro i y hy
  refine aB hw (fun _ h => h) _ _ _ ho ?_
  rcases Nat.lt_or_ge i xs.length with hi | hi
  · rw [List.getElem?_append_left hi] at hy
    have h1 := hr i y hy
    have hle : i * T.cells + T.cells ≤ us.length := by
      rw [hu]
      calc i * T.cells + T.cells = (i + 1) * T.cells := by rw [Nat.add_mul]; omega
        _ ≤ xs.length * T.cells := Nat.mul_le_mul_right _ hi
    rw [List.drop_append_of_le_length (by omega), List.take_append_of_le_length (by rw [List.length_drop]; omega)]
    exact h1
  · rw [List.getElem?_append_right hi] at hy
    have h1 := hs _ y hy
    have e : i * T.cells = us.length + (i - xs.length) * T.cells := by
      rw [hu, ← Nat.add_mul]
      congr 1
      omega
    rw [e, List.drop_append]
    simpa [List.drop_of_length_le] using h1
end Go.Proofs.YtgpkijnphchkpaaGreat
namespace Go.Proofs.YtgpkijnphchkpaaGreat
variable {dV:Prop} [jY dV]
open Go.RowKit
theorem eP(g o n:Nat):(⟨g,o,none⟩:Addr).add n=⟨g,o+n,none⟩:=by unfold Addr.add;split<;>simp_all
theorem cI.elem {E:Env} (hE:aG E) {t:Nat} {T:Ty} (h:cI E t (.sl T)): ∃e,E.P.underlying t=some (.slice e)∧E.ty e=some T∧cI E e T∧T.val=true∧0<T.cells:=by
 obtain⟨d,hd,hs⟩:=h.rJ;(cases d<;>simp only[cU]at hs<;>first|cases hs|skip);rename_i e;simp only[Bool.and_eq_true,pN]at hs;obtain⟨⟨h1,h2⟩,h3⟩:=hs;split at h1;(·rename_i U hU;rw[Ty.dm h1]at hU;exact⟨e,hd,hU,hE.facts hU,h2,Nat.le_of_ble_eq_true h3⟩)
 ·cases h1
structure Source(w:World)(size:Nat)(a:Option Addr)(m:Nat)(news:List Value):Prop where
 len:news.length=m*size
 cells:m=0∨ ∃ad,a=some ad∧ ∀j u,news[j]?=some u→w.cell? (ad.add j)=some u
 one: ∀u,u∈news→u.oneCell'=true
theorem Source.first {P:Program} {w:World} {size:Nat} {a:Option Addr} {m:Nat} {news:List Value} (h:Source w size a m news)(c:Nat):(Builtin.firstCells size m (.slice a m c)).run P w= .ok news.toArray w:=by
 rcases h.cells with rfl|⟨ad,rfl,hc⟩;(·have hn:news=[]:=List.eq_nil_of_length_eq_zero (by simpa using h.len);subst hn;cases a with|none=>exact run_firstCells_none w _ _ _ _|some ad=>exact run_firstCells_some w size 0 ad _ c [] (by simp) (by simp))
 ·exact run_firstCells_some w size m ad _ c news h.len hc
theorem fV(w:World)(g:Nat)(cs:Array Value):eN w (w.setRow g cs) (some g):=⟨rfl,rfl,rfl,by simp,fun k _ hk=>setRow_other w g k _ (fun e=>hk (by rw[e])),fun _=>Nat.le_refl _⟩
theorem Source.src {P:Program} {w:World} {size:Nat} {a:Option Addr} {m:Nat} {news:List Value} (h:Source w size a m news) {tx e':TypeId} (hk:P.underlying tx=some (.slice e'))(c:Nat):Src P size tx (.slice a m c) m news w:=⟨.inl ⟨e',hk⟩,fun _=>rfl,h.first c,by have h':Source w.drew size a m news:=⟨h.len,h.cells,h.one⟩;exact h'.first c,h.len,h.one⟩
theorem vP {P:Program} {w:World} {t tx ty e:TypeId} {i:TypeInfo} (ht:P.underlying t=some (.slice e))(hi:P.info? e=some i) {g o n cap:Nat} {cur:Array Value} {e':TypeId} (hg:w.heap[g]?=some (.cells cur e' (0,0))) {x:Value} {m:Nat} {news:List Value} (hs:Src P i.size tx x m news w)(tM:n+m≤cap)(rK:o+n*i.size+news.length≤cur.size):(Builtin.append_ #[t,tx] ty #[.slice (some ⟨g,o,none⟩) n cap,x]).run P w= .ok (.slice (some ⟨g,o,none⟩) (n+m) cap) (w.setRow g (cur.toList.take (o+n*i.size)++news++cur.toList.drop (o+n*i.size+news.length)).toArray):=by
 have di:=run_storeCells_at (P:=P) g (o+n*i.size) e' news 0 cur w hg (by simpa using rK) hs.one;simp only[Nat.add_zero]at di;rcases hs.kind with⟨e2,hk⟩|hk<;>simp[Builtin.append_,run_underlying ht,run_underlying hk,sizeOf,typeInfo,hi,hs.len,tM,hs.cells,eP,di]
theorem LG(z:Array Value)(n:Nat):(Builtin.zeroCells z n).size=n*z.size:=by simp[Builtin.zeroCells]
theorem vQ {E:Env} {T:Ty} {w:World} {M:Mem} {zs:List T.den} {e:TypeId} {z:Value} (Jn:z.cells.size=T.cells)(ho:aR T=0)(dh: ∀b,M.S b→b<w.heap.size)(hB: ∀g,w.heap.size≤g→M.O g)(hlen:zs.length≤274877906944)(cs:List Value)(eZ:cs.length=zs.length*T.cells)(hcr: ∀i y,zs[i]?=some y→aH T y w M ((cs.drop (i*T.cells)).take T.cells))(kg:Nat):aH (.own T) zs (w.drew.alloc (.cells (cs.toArray++Builtin.zeroCells z.cells (grownCap w zs.length kg e-zs.length)) e)) M [.slice (some ⟨w.heap.size,0,none⟩) zs.length (grownCap w zs.length kg e)]:=by
 have JB:=grownCap_ge w zs.length kg e;have hcm:=grownCap_le_maxLen w zs.length kg e (by simp only[maxLen];omega);simp only[maxLen]at hcm;have hh:(w.drew.alloc (.cells (cs.toArray++Builtin.zeroCells z.cells (grownCap w zs.length kg e-zs.length)) e)).heap[w.heap.size]?=some (.cells (cs.toArray++Builtin.zeroCells z.cells (grownCap w zs.length kg e-zs.length)) e):=heap_alloc_new w.drew _
 refine⟨_,rfl,by omega,.inr ⟨w.heap.size,0,grownCap w zs.length kg e,_,e,rfl,JB,by omega,fun h=>absurd (dh _ h) (by omega),hB _ (Nat.le_refl _),hh,?_,?_⟩⟩;(·rw[Array.size_append,LG,Jn,List.size_toArray,eZ,Nat.zero_add,←Nat.add_mul];exact Nat.mul_le_mul_right _ (by omega))
 ·refine yD (vs:=cs) eZ (fun j u hj=>?_) (fun k y hy=>?_);(·rw[cell_of_row _ _ _ _ _ _ hh,Nat.zero_add,Array.getElem?_append_left (by simpa using(List.getElem?_eq_some_iff.1 hj).1)];simpa using hj);·exact aB (w:=w) (fun b hb=>Below.heap_alloc w.drew _ b (dh b hb)) (fun _ h=>h) _ _ _ ho (hcr k y hy)
theorem ki {E:Env} (hE:aG E) {t tx ty:Nat} {T:Ty} (ht:E.ty t=some (.sl T)) {w:World} {M:Mem} {a:Option Addr} {m:Nat} {xs ys:List T.den} (ho:aR T=0)(jW:aH (.sl T) xs w M [.slice a m m])(dh: ∀b,M.S b→b<w.heap.size)(hB: ∀g,w.heap.size≤g→M.O g) {x:Value} {news:List Value} (hs:Src E.P T.cells tx x ys.length news w)(hr: ∀i y,ys[i]?=some y→aH T y w M ((news.drop (i*T.cells)).take T.cells))(bY:ys≠ [])(hlen:xs.length+ys.length≤274877906944): ∃v' w',(Builtin.append_ #[t,tx] ty #[.slice a m m,x]).run E.P w= .ok v' w'∧aH (.own T) (xs++ys) w' M [v']∧eN w w' none∧(∃a n cap,v'= .slice a n cap)∧(∀g,aE v'=some g→w.heap.size≤g):=by
 obtain⟨e,hu,he,pQ,oX,oY⟩:=(hE.facts ht).elem hE;obtain⟨i,hi,de,hby,_,z,hz,Jn⟩:=pQ.info;rw[←de]at hs;(have V4: ∀k:Nat,k≤274877906944→k*i.bytes≤140737488355328:=fun k hk=>by calc k*i.bytes≤274877906944*512:=Nat.mul_le_mul hk hby
 _=140737488355328:=by decide);have hm:ys.length≠0:=fun h=>bY (List.eq_nil_of_length_eq_zero h);obtain⟨a',pL,hv,h1,h2,h3⟩:=jW;(obtain⟨rfl,rfl,rfl⟩:a'=a∧m=xs.length∧pL=m:=by injection hv with hv;injection hv with h1 h2 h3;exact⟨h1.symm,h2,h3.symm⟩)
 (obtain⟨us,Ce,hur,VE⟩: ∃us:List Value,us.length=xs.length*T.cells∧(∀i y,xs[i]?=some y→aH T y w M ((us.drop (i*T.cells)).take T.cells))∧(Builtin.firstCells i.size xs.length (.slice a' xs.length xs.length)).run E.P w.drew= .ok us.toArray w.drew:=by rcases h3 with rfl|⟨g,o,rfl,_,fw⟩;(·refine⟨[],by simp,fun i y hy=>by simp at hy,?_⟩;cases a' with|none=>exact run_firstCells_none _ _ _ _ _|some ad=>exact run_firstCells_some _ _ 0 ad _ _ [] (by simp) (by simp));·obtain⟨us,Ce,huc,Qi,hur⟩:=qS xs fw;exact⟨us,Ce,hur,run_firstCells_some w.drew i.size xs.length ⟨g,o,none⟩ _ _ us (by rw[Ce,de]) (fun j u hj=>by rw[eP];exact huc j u hj)⟩)
 have aU:=run_append_grow_src (P:=E.P) w t tx ty e i z hu hi hz a' xs.length xs.length us VE x ys.length news hs (by omega) (by omega) (growslice_fits (by omega) (V4 _ hlen))
 have hg:=vQ (E:=E) (e:=e) (zs:=xs++ys) Jn ho dh hB (by rw[List.length_append];exact hlen) (us++news) (by rw[List.length_append,List.length_append,Ce,hs.newsLen,de,Nat.add_mul]) (sm (fun _ _=>rfl) ho Ce hur hr) xs.length
 rw[List.length_append]at hg;exact⟨_,_,aU,hg,⟨rfl,rfl,rfl,by simp,fun k hk _=>Below.heap_alloc w.drew _ k hk,fun _=>Nat.le_succ _⟩,⟨_,_,_,rfl⟩,fun g hg=>by injection hg with hg;simp at hg;omega⟩
theorem lg {E:Env} (hE:aG E) {t tx ty:Nat} {T:Ty} (ht:E.ty t=some (.sl T)) {w:World} {M:Mem} {v:Value} {xs ys:List T.den} (ho:aR T=0)(mM:aH (.own T) xs w M [v])(dh: ∀b,M.S b→b<w.heap.size)(hB: ∀g,w.heap.size≤g→M.O g) {x:Value} {news:List Value} (hs:Src E.P T.cells tx x ys.length news w)(hr: ∀i y,ys[i]?=some y→aH T y w M ((news.drop (i*T.cells)).take T.cells))(hlen:xs.length+ys.length≤274877906944): ∃v' w',(Builtin.append_ #[t,tx] ty #[v,x]).run E.P w= .ok v' w'∧aH (.own T) (xs++ys) w' M [v']∧eN w w' (aE v)∧(∃a n cap,v'= .slice a n cap)∧(∀g,aE v'=some g→aE v=some g∨w.heap.size≤g)∧(∀e0,E.P.underlying t=some (.slice e0)→gz (some e0) w v→gz (some e0) w' v'):=by
 obtain⟨e,hu,he,pQ,oX,oY⟩:=(hE.facts ht).elem hE;obtain⟨i,hi,de,hby,_,z,hz,Jn⟩:=pQ.info;rw[←de]at hs;(have V4: ∀k:Nat,k≤274877906944→k*i.bytes≤140737488355328:=fun k hk=>by calc k*i.bytes≤274877906944*512:=Nat.mul_le_mul hk hby
 _=140737488355328:=by decide);obtain⟨u,hv,h1,h2⟩:=mM;injection hv with hv;subst hv;(have grown: ∀(cs:List Value),cs.length=(xs.length+ys.length)*T.cells→(∀i y,(xs++ys)[i]?=some y→aH T y w M ((cs.drop (i*T.cells)).take T.cells))→ ∀(kg:Nat),aH (.own T) (xs++ys) (w.drew.alloc (.cells (cs.toArray++Builtin.zeroCells z.cells (grownCap w (xs.length+ys.length) kg e-(xs.length+ys.length))) e)) M [.slice (some ⟨w.heap.size,0,none⟩) (xs.length+ys.length) (grownCap w (xs.length+ys.length) kg e)]:=by intro cs eZ hcr kg;have:=vQ (E:=E) (e:=e) (zs:=xs++ys) Jn ho dh hB (by rw[List.length_append];exact hlen) cs (by rw[eZ,List.length_append]) hcr kg;rwa[List.length_append]at this)
 rcases h2 with⟨rfl,rfl⟩|⟨g,o,cap,cur,e',rfl,h3,h4,h5,h6,h7,h8,h9⟩;(·by_cases hm:ys.length=0;(·have hn:news=[]:=List.eq_nil_of_length_eq_zero (by rw[hs.newsLen,hm,Nat.zero_mul]);have hy:ys=[]:=List.eq_nil_of_length_eq_zero hm;subst hy;refine⟨.slice none 0 0,w,?_,⟨_,rfl,by simp,.inl ⟨rfl,by simp⟩⟩,⟨rfl,rfl,rfl,Nat.le_refl _,fun _ _ _=>rfl,fun _=>Nat.le_refl _⟩,⟨_,_,_,rfl⟩,fun g hg=>(by cases hg),fun e0 _ _ t' _ g hg=>(by cases hg)⟩;have Cf:=hs.len;have tL:=hs.cells;simp only[List.length_nil]at Cf tL;rcases hs.kind with⟨e2,hk⟩|hk<;>simp[Builtin.append_,run_underlying hu,run_underlying hk,sizeOf,typeInfo,hi,Cf,tL]);·skip;·have hb:=V4 ys.length (by simpa using hlen);have aU:=run_append_grow_src (P:=E.P) w t tx ty e i z hu hi hz none 0 0 [] (run_firstCells_none _ _ _ _ _) x ys.length news hs (by omega) (by simp at hlen;omega) (growslice_fits (by omega) (by simpa using hb));simp only[Nat.zero_add,List.nil_append]at aU;have hg:=grown news (by rw[hs.newsLen,de];simp) (by simpa using hr) 0;simp only[List.length_nil,Nat.zero_add]at hg;exact⟨_,_,aU,hg,⟨rfl,rfl,rfl,by simp,fun k hk _=>Below.heap_alloc w.drew _ k hk,fun _=>Nat.le_succ _⟩,⟨_,_,_,rfl⟩,fun g hg=>.inr (by injection hg with hg;simp at hg;omega),fun e0 V5 _ t' NF g hg=>by obtain rfl:=Option.some.inj NF;(obtain rfl:e=e0:=by rw[hu]at V5;injection V5 with V5;injection V5);injection hg with hg;subst hg;exact⟨rfl,_,_,heap_alloc_new w.drew _⟩⟩)
 ·obtain⟨us,Ce,huc,Qi,hur⟩:=qS xs h9;by_cases tM:xs.length+ys.length≤cap;(·(have rK:o+xs.length*i.size+news.length≤cur.size:=by rw[hs.newsLen,Nat.add_assoc,←Nat.add_mul,de];exact Nat.le_trans (Nat.add_le_add_left (Nat.mul_le_mul_right _ tM) _) h8);have aU:=vP (P:=E.P) (ty:=ty) hu hi h7 hs tM rK;refine⟨_,_,aU,?_,?_,⟨_,_,_,rfl⟩,fun g hg=>.inl hg,fun e0 _ jJ=>(by exact jJ.zo rfl h7 (setRow_heap w g cur _ e' _ h7))⟩;(·have hh:=setRow_heap w g cur (cur.toList.take (o+xs.length*i.size)++news++cur.toList.drop (o+xs.length*i.size+news.length)).toArray e' _ h7;have hSg: ∀b,M.S b→(w.setRow g (cur.toList.take (o+xs.length*i.size)++news++cur.toList.drop (o+xs.length*i.size+news.length)).toArray).heap[b]?=w.heap[b]?:=fun b hb=>setRow_other w g b _ (fun e=>h5 (e▸hb));refine⟨_,rfl,by rw[List.length_append];omega,.inr ⟨g,o,cap,_,e',by rw[List.length_append],by rw[List.length_append];exact tM,h4,h5,h6,hh,?_,?_⟩⟩;(·simp only[List.size_toArray,List.length_append,List.length_take,List.length_drop,Array.length_toList];omega);·refine yD (vs:=us++news) (by rw[List.length_append,List.length_append,Ce,hs.newsLen,de,Nat.add_mul]) (fun j u hj=>?_) (sm hSg ho Ce hur hr);rw[cell_of_row _ _ _ _ _ _ hh];simp only[List.getElem?_toArray];rcases Nat.lt_or_ge j us.length with hju|hju;(·rw[List.getElem?_append_left hju]at hj;have fb:=huc j u hj;rw[cell_of_row _ _ _ _ _ _ h7]at fb;(have NG:o+j<o+xs.length*i.size:=by rw[de,←Ce];omega);rw[List.append_assoc,List.getElem?_append_left (by simp only[List.length_take,Array.length_toList];omega),List.getElem?_take,if_pos NG];simpa using fb);·rw[List.getElem?_append_right hju]at hj;have ND:j-us.length<news.length:=(List.getElem?_eq_some_iff.1 hj).1;(have BV:(cur.toList.take (o+xs.length*i.size)).length=o+xs.length*i.size:=by simp only[List.length_take,Array.length_toList];omega);rw[List.append_assoc,List.getElem?_append_right (by rw[BV,de,←Ce];omega),BV,List.getElem?_append_left (by rw[de,←Ce];omega)];rw[←hj];congr 1;rw[de,←Ce];omega);·exact fV w g _);·(have hm:ys.length≠0:=by omega);skip;·have aU:=run_append_grow_src (P:=E.P) w t tx ty e i z hu hi hz (some ⟨g,o,none⟩) xs.length cap us (run_firstCells_some w.drew i.size xs.length ⟨g,o,none⟩ xs.length cap us (by rw[Ce,de]) (fun j u hj=>by rw[eP];exact huc j u hj)) x ys.length news hs (by omega) (by omega) (growslice_fits (by omega) (V4 _ hlen));have hg:=grown (us++news) (by rw[List.length_append,Ce,hs.newsLen,de,Nat.add_mul]) (sm (fun _ _=>rfl) ho Ce hur hr) cap;exact⟨_,_,aU,hg,⟨rfl,rfl,rfl,by simp,fun k hk _=>Below.heap_alloc w.drew _ k hk,fun _=>Nat.le_succ _⟩,⟨_,_,_,rfl⟩,fun g hg=>.inr (by injection hg with hg;simp at hg;omega),fun e0 V5 _ t' NF g hg=>by obtain rfl:=Option.some.inj NF;(obtain rfl:e=e0:=by rw[hu]at V5;injection V5 with V5;injection V5);injection hg with hg;subst hg;exact⟨rfl,_,_,heap_alloc_new w.drew _⟩⟩
end Go.Proofs.YtgpkijnphchkpaaGreat
namespace Go.Proofs.YtgpkijnphchkpaaGreat
variable {dV:Prop} [jY dV]
open Go.RowKit
theorem cY {P:Program} {o:Oper} {a:Act} {w w':World} {v:Value} {K:Act→World→Prop} {Q:Exit→Act→World→Prop} (h:(execOp a.eval o).run P w= .ok (.value v) w')(hk:K (a.put o.dst v) w'):o.wp P a w K Q:=by
 unfold Oper.wp;rw[h];exact hk
theorem lh {P:Program} {o:Oper} {a:Act} {w w':World} {K:Act→World→Prop} {Q:Exit→Act→World→Prop} (h:(execOp a.eval o).run P w= .ok .skip w')(hk:K (a.put o.dst undef) w'):o.wp P a w K Q:=by
 unfold Oper.wp;rw[h];exact hk
theorem mh {P:Program} {o:Oper} {a:Act} {w w':World} {f:FuncId} {args:Array Value} {K:Act→World→Prop} {Q:Exit→Act→World→Prop} (h:(execOp a.eval o).run P w= .ok (.enter f args) w')(hk:Calls P f args w' fun e Jx=> ∃v,e= .returned v∧K (a.put o.dst v) Jx):o.wp P a w K Q:=by
 unfold Oper.wp;rw[h];refine hk.mono ?_;rintro e Jx⟨v,rfl,hv⟩;exact hv
section
variable {E:Env} {n:Nat} {w0:World} {S0:Cx} {s:St} {a:Act} {w:World} {ν:Nat→Value} {S:Nat→Prop} {F:dF} {o:Oper} {K:St→Prop} {Q:Exit→Act→World→Prop}
theorem bp(ho:bJ n o=true): ∀d,o.dst=some d→d<n:=by intro d hd;simp only[bJ,hd,Bool.and_eq_true]at ho;have:=ho.2;simp only[Nat.blt_eq]at this;exact this
theorem az(ho:bJ n o=true) {x:Operand} (hx:x∈o.op.operands):mg x=true:=by simp only[bJ,Bool.and_eq_true,List.all_eq_true]at ho;exact ho.1 x (Array.mem_toList_iff.2 hx)
theorem Full.val(h:Full n w0 S0 s a w ν S)(ho:bJ n o=true) {p:PV} {v:Value} (hr:(execOp a.eval o).run E.P w= .ok (.value v) w)(hp:ag h.c p v)(hK:K (s.fin o.dst (.val p))):o.wp E.P a w (fun a' w'=> ∃s',K s'∧Rel n w0 S0 s' a' w') Q:=cY hr ⟨_,hK,(h.put (bp ho) hp).rel⟩
theorem bf {c:Ctx} {k:IntKind} {x:Int} {v:Value} (h:ag c (.iv (.int k) x) v):v= .int k x∧k.min≤x∧x≤k.max:=by
 simp only[ag]at h;obtain⟨_,hv,h⟩:=h;injection hv with hv;exact⟨hv,h⟩
theorem bW {c:Ctx} {k:IntKind} {x:Int} (h:k.min≤x∧x≤k.max):ag c (.iv (.int k) x) (.int k x):=by simp only[ag];exact⟨rfl,rfl,h⟩
theorem jK {c:Ctx} {x:Bool} {v:Value} (h:ag c (.iv .bool x) v):v= .bool x:=by simp only[ag]at h;obtain⟨_,hv⟩:=h;injection hv
theorem bN {c:Ctx} {x:Bool} :ag c (.iv .bool x) (.bool x):=by simp only[ag];exact⟨rfl,rfl⟩
theorem ep {c:Ctx} {x:List UInt8} {v:Value} (h:ag c (.iv .str x) v):v= .string ⟨x.toArray⟩∧x.length≤9223372036854775807:=by
 simp only[ag]at h;obtain⟨_,hv,h⟩:=h;injection hv with hv;exact⟨hv,h⟩
theorem pR {c:Ctx} {x:List UInt8} (h:x.length≤9223372036854775807):ag c (.iv .str x) (.string ⟨x.toArray⟩):=by simp only[ag];exact⟨rfl,rfl,h⟩
theorem V6(h:Full n w0 S0 s a w ν S)(ho:bJ n o=true) {x:Operand} (aJ:o.op= .move x)(ab:br E (aj E F s o) (fun l=>K (s.fin o.dst l))):o.wp E.P a w (fun a' w'=> ∃s',K s'∧Rel n w0 S0 s' a' w') Q:=by
 simp only[aj,aJ,br]at ab;refine h.val ho ?_ (h.ev (az ho (by simp[aJ,Op.operands]))) ab;simp only[execOp,aJ,Sem.run_pure]
theorem NH(h:Full n w0 S0 s a w ν S)(ho:bJ n o=true) {x:Operand} (aJ:o.op= .assign x)(ab:br E (aj E F s o) (fun l=>K (s.fin o.dst l))):o.wp E.P a w (fun a' w'=> ∃s',K s'∧Rel n w0 S0 s' a' w') Q:=by
 simp only[aj,aJ,br]at ab;refine h.val ho ?_ (h.ev (az ho (by simp[aJ,Op.operands]))) ab;simp only[execOp,aJ,Sem.run_pure]
theorem GF(h:Full n w0 S0 s a w ν S)(ho:bJ n o=true) {x:Operand} (aJ:o.op= .nilCheck x)(ab:br E (aj E F s o) (fun l=>K (s.fin o.dst l))):o.wp E.P a w (fun a' w'=> ∃s',K s'∧Rel n w0 S0 s' a' w') Q:=by
 simp only[aj,aJ]at ab;have hx:=h.ev (az ho (x:=x) (by simp[aJ,Op.operands]));(have fin: ∀ {p:PV} {ad:Addr},ag h.c p (a.eval x)→a.eval x= .pointer (some ad)→K (s.fin o.dst (.val p))→o.wp E.P a w (fun a' w'=> ∃s',K s'∧Rel n w0 S0 s' a' w') Q:=by intro p ad hr he hk;rw[he]at hr;refine h.val ho ?_ hr hk;simp only[execOp,aJ,he,Sem.run_pure])
 split at ab;(·rename_i id off bQ;rw[bQ]at hx;have mY:=hx;simp only[ag]at mY;obtain⟨_,g,_,hv⟩:=mY;exact fin hx hv ab);(·rename_i U y off bQ;rw[bQ]at hx;have mY:=hx;simp only[ag]at mY;obtain⟨_,g,ob,cs,hv,_⟩:=mY;exact fin hx hv ab)
 (·rename_i id sz i off bQ;rw[bQ]at hx;have mY:=hx;simp only[ag]at mY;obtain⟨_,g,ob,n,cap,_,_,hv⟩:=mY;exact fin hx hv ab);(·rename_i U y bQ;rw[bQ]at hx;have mY:=hx;simp only[ag,oV,dt,aH]at mY;obtain⟨iW,g,ob,cs,hv,hS,hl,hc,hr⟩:=mY;simp only[List.cons.injEq,and_true]at hv;refine fin (p:=.dU U y 0) (ad:=⟨g,ob,none⟩) ?_ hv ab;simp only[ag];exact⟨iW,g,ob,cs,hv,hS,hl,hc,hr⟩)
 ·exact ab.elim
theorem JC: ∀ {T:Ty},ku T=true→aR T=0:=by
 intro T;induction T with|own t=>intro h;cases h|pair a b iG gP=>intro h;simp only[ku,Bool.and_eq_true]at h;simp only[aR,iG h.1,gP h.2]|bq a b iG gP=>intro h;simp only[ku,Bool.and_eq_true]at h;simp only[aR,iG h.1,gP h.2]|mp a b iG gP=>intro h;simp only[ku,Bool.and_eq_true]at h;simp only[aR,iG h.1,gP h.2]|st t ih=>exact ih|sl t ih=>exact ih|ptr t ih=>exact ih|eY f t ih=>exact ih|_=>intro _;rfl
theorem V7(h:Full n w0 S0 s a w ν S)(ho:bJ n o=true) {x y z:Operand} (aJ:o.op= .pick x y z)(ab:br E (aj E F s o) (fun l=>K (s.fin o.dst l))):o.wp E.P a w (fun a' w'=> ∃s',K s'∧Rel n w0 S0 s' a' w') Q:=by
 simp only[aj,aJ]at ab;have hx:=h.ev (az ho (x:=x) (by simp[aJ,Op.operands]));have hy:=h.ev (az ho (x:=y) (by simp[aJ,Op.operands]));have hz:=h.ev (az ho (x:=z) (by simp[aJ,Op.operands]))
 split at ab;(·rename_i b hb;rw[hb]at hx;have hv:=jK hx;cases b;(·refine h.val ho ?_ hz ab;simp[execOp,aJ,hv,asBool]);·refine h.val ho ?_ hy ab;simp[execOp,aJ,hv,asBool])
 ·exact ab.elim
theorem vR(hE:aG E)(h:Full n w0 S0 s a w ν S)(ho:bJ n o=true) {t:Nat} {x:Operand} (aJ:o.op= .makeInterface t x)(ab:br E (aj E F s o) (fun l=>K (s.fin o.dst l))):o.wp E.P a w (fun a' w'=> ∃s',K s'∧Rel n w0 S0 s' a' w') Q:=by
 simp only[aj,aJ]at ab;have hx:=h.ev (az ho (x:=x) (by simp[aJ,Op.operands]));split at ab;(·rename_i hc;have hc:=hE.Jk t hc;unfold V0 at hc;refine h.val ho (p:=.pj t [s.ev x]) (v:=.iface t (a.eval x)) ?_ (by simp only[ag,ai];exact⟨_,rfl,_,[],rfl,hx,rfl⟩) ab;cases hu:E.P.underlying t with|none=>rw[hu]at hc;cases hc|some d=>rw[hu]at hc;(have hi:(Instr.makeInterface t (a.eval x)).run E.P w= .ok (.iface t (a.eval x)) w:=by unfold Instr.makeInterface;simp only[Sem.run_bind,run_underlying hu,Result.andThen_ok];cases d<;>first|(cases hc;done)|rfl);simp only[execOp,aJ,Sem.run_bind,hi,Result.andThen_ok,Sem.run_pure])
 ·exact ab.elim
theorem Cg(hE:aG E)(h:Full n w0 S0 s a w ν S)(ho:bJ n o=true) {x:Operand} {xt u:Nat} {ok:Bool} (aJ:o.op= .typeAssert x xt u ok)(ab:br E (aj E F s o) (fun l=>K (s.fin o.dst l))):o.wp E.P a w (fun a' w'=> ∃s',K s'∧Rel n w0 S0 s' a' w') Q:=by
 simp only[aj,aJ]at ab;have hx:=h.ev (az ho (x:=x) (by simp[aJ,Op.operands]));split at ab;(·rename_i hc;have hc:=hE.Jk u hc;unfold V0 at hc;unfold Eh at ab;split at ab;(·rename_i t q bQ;rw[bQ]at hx;simp only[ag,ai]at hx;obtain⟨v,hv,v',r,V3,hq,hr⟩:=hx;subst hr;injection V3 with V3;subst V3;(have hi:Nat.beq t u=true→(Instr.typeAssert (a.eval x) xt u ok).run E.P w= .ok (if ok then .tuple #[v,.bool true]else v) w:=fun hb=>by have e:=Nat.eq_of_beq_eq_true hb;subst e;rw[hv];cases hu:E.P.underlying t with|none=>rw[hu]at hc;cases hc|some d=>rw[hu]at hc;unfold Instr.typeAssert;simp only[Sem.run_bind,run_underlying hu,Result.andThen_ok];cases d<;>first|(cases hc;done)|simp);split at ab;(·rename_i hb;refine h.val (v:=.tuple #[v,.bool true]) ho ?_ ?_ ab;(·have:=hi hb;simp only[execOp,aJ,Sem.run_bind,this,Result.andThen_ok,Sem.run_pure,if_true];try rfl);·simp only[ag,ai];exact⟨[v,.bool true],rfl,v,_,rfl,hq,.bool true,[],rfl,bN,rfl⟩);(·rename_i hb;refine h.val (v:=v) ho ?_ hq ab;have:=hi hb;simp only[execOp,aJ,Sem.run_bind,this,Result.andThen_ok,Sem.run_pure,Bool.false_eq_true,if_false];try rfl);·exact ab.elim);·exact ab.elim)
 ·exact ab.elim
theorem Full.Qj(h:Full n w0 S0 s a w ν S) {d:Nat} (hd:d<n)(hl:look d s.bl=none) {cs:List PV} {vs:List Value} {e:TypeId} {te:Option Nat} (hte: ∀t,te=some t→e=t)(h1: ∀u,u∈vs→u.oneCell'=true)(hp:ai h.c cs vs):Rel n w0 S0 ⟨(d,.ref d 0)::s.sl,(d,.box cs te)::s.bl⟩ (a.put (some d) (.pointer (some ⟨w.heap.size,0,none⟩))) (w.alloc (.cells vs.toArray e)):=by
 have hD:(⟨(d,.ref d 0)::s.sl,(d,.box cs te)::s.bl⟩:St).D d:=⟨_,aM _ _ _⟩;(have bY: ∀i,s.D i→i≠d∧(⟨(d,.ref d 0)::s.sl,(d,.box cs te)::s.bl⟩:St).D i:=by rintro i⟨c,hc⟩;(have bY:i≠d:=by rintro rfl;rw[hl]at hc;cases hc);exact⟨bY,c,by rw[aC _ _ bY];exact hc⟩)
 have hle:Ctx.Le h.c ⟨fun i=>if i=d then .pointer (some ⟨w.heap.size,0,none⟩)else ν i,(⟨(d,.ref d 0)::s.sl,(d,.box cs te)::s.bl⟩:St).D,w.alloc (.cells vs.toArray e),⟨S,aK w0 S0⟩⟩:=⟨fun g hg=>Below.heap_alloc w _ g (h.W.lt g hg),fun _ h=>h,fun i hi=>(bY i hi).2,fun i hi=>by simp[(bY i hi).1,Full.c]⟩
 refine(h.new (b:=.box cs te) (p:=.ref d 0) (v:=.pointer (some ⟨w.heap.size,0,none⟩)) (val:=.pointer (some ⟨w.heap.size,0,none⟩)) hd hl (dC w _ none) (fun g hg=>h.beyond (by injection hg with hg;simp at hg;omega)) ?_ ?_).rel
 (·exact⟨fun t ht g hg=>by simp only[if_true,aE,Option.some.injEq]at hg;subst hg;rw[←hte t ht];exact⟨by simp[a88],_,_,_root_.Go.heap_alloc_new w _⟩,w.heap.size,vs.toArray,e,by simp,h.W.size _ (Nat.le_refl _),fun hS=>absurd (h.W.lt _ hS) (by simp),_root_.Go.heap_alloc_new w _,by simpa using h1,by simpa using bM hle hp⟩)
 ·simp only[ag];exact⟨hD,w.heap.size,by simp,rfl⟩
theorem pS {c:Ctx} : ∀(T:Ty)(cs:List PV),zeroCells T=some cs→ ∃vs,dH T=some vs∧ai c cs vs∧ ∀u,u∈vs→u.oneCell'=true:=by
 intro T;induction T with|unit=>intro cs h;simp only[zeroCells,Option.some.injEq]at h;subst h;exact⟨[],rfl,by simp only[ai],by simp⟩|int k=>intro cs h;simp only[zeroCells,Option.some.injEq]at h;subst h;refine⟨[.int k 0],rfl,?_,by simp[Value.oneCell']⟩;simp only[ai];exact⟨_,[],rfl,bW (by cases k<;>decide),rfl⟩|bool=>intro cs h;simp only[zeroCells,Option.some.injEq]at h;subst h;exact⟨[.bool false],rfl,by simp only[ai];exact⟨_,[],rfl,bN,rfl⟩,by simp[Value.oneCell']⟩|str=>intro cs h;simp only[zeroCells,Option.some.injEq]at h;subst h;exact⟨[.string ⟨#[]⟩],rfl,by simp only[ai];exact⟨_,[],rfl,pR (by simp),rfl⟩,by simp[Value.oneCell']⟩|sl t=>intro cs h;simp only[zeroCells,Option.some.injEq]at h;subst h;exact⟨[.slice none 0 0],rfl,by simp only[ai,ag];exact⟨_,[],rfl,rfl,rfl⟩,by simp[Value.oneCell']⟩|own t=>intro cs h;simp[zeroCells]at h|bq a b=>intro cs h;simp[zeroCells]at h|ptr t=>intro cs h;simp only[zeroCells,Option.some.injEq]at h;subst h;exact⟨[.pointer none],rfl,by simp only[ai,ag];exact⟨_,[],rfl,rfl,rfl⟩,by simp[Value.oneCell']⟩|eY f t=>intro cs h;simp[zeroCells]at h|mp a b=>intro cs h;simp only[zeroCells]at h;split at h;(·rename_i hn;simp only[Option.some.injEq]at h;subst h;exact⟨[.map none],rfl,by simp only[ai,ag,oV,dt,aH];exact⟨_,[],rfl,⟨JC hn,by simp,.inl ⟨rfl,trivial⟩⟩,rfl⟩,by simp[Value.oneCell']⟩);(·simp only[Option.some.injEq]at h;subst h;exact⟨[.map none],rfl,by simp only[ai,ag];exact⟨_,[],rfl,trivial,rfl⟩,by simp[Value.oneCell']⟩)|aD=>intro cs h;simp only[zeroCells,Option.some.injEq]at h;subst h;exact⟨[.nilFunc],rfl,by simp only[ai,ag];exact⟨_,[],rfl,trivial,rfl⟩,by simp[Value.oneCell']⟩|st t ih=>intro cs h;exact ih cs h|pair a b iG gP=>intro cs h;simp only[zeroCells]at h;split at h;(·rename_i x y hx hy;simp only[Option.some.injEq]at h;subst h;obtain⟨va,ha,NA,h1a⟩:=iG x hx;obtain⟨vb,hb,hpb,h1b⟩:=gP y hy;refine⟨va++vb,by simp only[dH,ha,hb],cg NA hpb,fun u hu=>?_⟩;rcases List.mem_append.1 hu with hu|hu;(·exact h1a u hu);·exact h1b u hu);·cases h
theorem lj {T:Ty} {z:Value} {vs:List Value} (hz:pM (some z) T=true)(hv:dH T=some vs):z.cells.toList=vs:=by
 unfold pM at hz;rw[hv]at hz;simp only at hz;split at hz;(·split at hz;(·exact mf hz);·cases hz);·split at hz;(·rename_i u;have:=nV hz;subst this;unfold Gx at hz;split at hz<;>first|rfl|cases hz);·cases hz
theorem Qk(hE:aG E)(h:Full n w0 S0 s a w ν S)(ho:bJ n o=true) {t:Nat} (aJ:o.op= .alloc t)(ab:br E (aj E F s o) (fun l=>K (s.fin o.dst l))):o.wp E.P a w (fun a' w'=> ∃s',K s'∧Rel n w0 S0 s' a' w') Q:=by
 simp only[aj,aJ]at ab;split at ab;(·rename_i T d hT hd;split at ab;(·rename_i cs hl hz;simp only[br,St.fin,hd]at ab;obtain⟨vs,tk,hp,h1⟩:=pS (c:=h.c) T cs hz;obtain⟨i,hi,_,_,GG,z,hzz,_⟩:=(hE.facts hT).info;rw[hzz]at GG;have VF:=lj GG tk;(have hr:(execOp a.eval o).run E.P w= .ok (.value (.pointer (some ⟨w.heap.size,0,none⟩))) (w.alloc (.cells vs.toArray t)):=by simp only[execOp,aJ,Instr.alloc,Sem.run_bind,zeroValue,typeInfo,Sem.run_bind,run_program,Result.andThen_ok,hi,hzz,Sem.run_pure,newVar,newRow,run_newObj];rw[←VF];rfl);refine cY hr ⟨_,ab,?_⟩;rw[hd];exact h.Qj (bp ho d hd) hl (fun t' ht=>by cases hb:E.Ee t with|true=>(rw[hb]at ht;exact Option.some.inj ht)|false=>(rw[hb]at ht;cases ht)) h1 hp);·exact ab.elim)
 ·exact ab.elim
theorem aB5(h:Full n w0 S0 s a w ν S)(ho:bJ n o=true) {t:Nat} {x:Operand} (aJ:o.op= .box t x)(ab:br E (aj E F s o) (fun l=>K (s.fin o.dst l))):o.wp E.P a w (fun a' w'=> ∃s',K s'∧Rel n w0 S0 s' a' w') Q:=by
 simp only[aj,aJ]at ab;have hx:=h.ev (az ho (x:=x) (by simp[aJ,Op.operands]));split at ab;(·rename_i d cs hd Gd;split at ab;(·rename_i hl;simp only[br,St.fin,hd]at ab;obtain⟨hp,h1⟩:=ld hx Gd;(have hr:(execOp a.eval o).run E.P w= .ok (.value (.pointer (some ⟨w.heap.size,0,none⟩))) (w.alloc (.cells (a.eval x).cells.toList.toArray t)):=by simp only[execOp,aJ,Instr.box,Sem.run_bind,newVar,newRow,run_newObj,Result.andThen_ok,Sem.run_pure,Array.toArray_toList];rfl);refine cY hr ⟨_,ab,?_⟩;rw[hd];exact h.Qj (bp ho d hd) hl (fun t' ht=>by cases ht) h1 hp);·exact ab.elim)
 ·exact ab.elim
theorem Full.vS(h:Full n w0 S0 s a w ν S) {d:Nat} (hd:d<n)(hl:look d s.bl=none) {T:Ty} {te:Option Nat} {xs:List T.den} {v:Value} {w':World} (hT:aR T=0)(hw:eN w w' none)(hs: ∃a n c,v= .slice a n c)(iI: ∀g,aE v=some g→w.heap.size≤g)(hr:aH (.own T) xs w' ⟨S,aK w0 S0⟩ [v])(hte:gz te w' v):Rel n w0 S0 ⟨(d,.aF d)::s.sl,(d,.arr T xs te)::s.bl⟩ (a.put (some d) v) w':=by
 refine(h.new (b:=.arr T xs te) (p:=.aF d) (v:=v) (val:=v) hd hl hw (fun g hg=>h.beyond (iI g hg)) ?_ ?_).rel;(·exact⟨hte.mV (by simp) fun _ _=>rfl,hT,by simpa using hr⟩)
 ·simp only[ag];exact⟨⟨_,aM _ _ _⟩,by simp,hs⟩
theorem jo(s:St): ∀(l:List (Nat×Operand)),dB s l=l.map fun p=>(p.1,s.ev p.2)|[]=>rfl|p::l=>by simp[dB,jo s l]
theorem tN(s:St): ∀(l:List Operand),cz s l=l.map s.ev|[]=>rfl|p::l=>by simp[cz,tN s l]
theorem ik(h:Full n w0 S0 s a w ν S): ∀(l:List Operand),(∀x,x∈l→mg x=true)→ai h.c (cz s l) (l.map a.eval)|[],_=>(by simp only[cz,List.map_nil,ai])|x::l,hc=>by simp only[cz,List.map_cons,ai];exact⟨_,_,rfl,h.ev (hc x (by simp)),ik h l (fun y hy=>hc y (by simp[hy]))⟩
end
/-! ### Literals -/
theorem GH: ∀(vs:List Value)(k off:Nat)(cells:Array Value),off+k+vs.length≤cells.size→((vs.zipIdx k).foldl (fun cs p=>cs.setIfInBounds (off+p.2) p.1) cells).toList=cells.toList.take (off+k)++vs++cells.toList.drop (off+k+vs.length)|[],k,off,cells,h=>(by simp)|v::vs,k,off,cells,h=>by simp only[List.length_cons]at h;simp only[List.zipIdx_cons,List.foldl_cons];rw[GH vs (k+1) off _ (by simp;omega)];simp only[Array.toList_setIfInBounds];(have h1:(cells.toList.set (off+k) v).take (off+(k+1))=cells.toList.take (off+k)++ [v]:=by rw[show off+(k+1)=(off+k)+1 from by omega,List.take_succ_eq_append_getElem (by simp;omega)];rw[List.take_set_of_le (by omega),List.getElem_set_self]);(have h2:(cells.toList.set (off+k) v).drop (off+(k+1)+vs.length)=cells.toList.drop (off+k+(v::vs).length):=by rw[List.drop_set_of_lt (by omega)];congr 1;simp;omega);rw[h1,h2];simp
theorem GJ {place:Nat→Option (Nat×Nat)} {i off size:Nat} {v:Value} {cells:Array Value} {rest:List (Nat×Value)} (hp:place i=some (off,size))(hs:v.cells.size=size)(hf:off+v.cells.size≤cells.size):Instr.fill place cells ((i,v)::rest)=Instr.fill place (cells.toList.take off++v.cells.toList++cells.toList.drop (off+v.cells.size)).toArray rest:=by
 simp only[Instr.fill,hp];rw[if_neg (by simp[hs];omega)];congr 1;have:=GH v.cells.toList 0 off cells (by simpa using hf);simp only[Nat.add_zero]at this;(have e:(v.cells.zipIdx.foldl (fun cs x=>match x with|(c,j)=>cs.setIfInBounds (off+j) c) cells)=(v.cells.toList.zipIdx.foldl (fun cs p=>cs.setIfInBounds (off+p.2) p.1) cells):=by rw[←Array.foldl_toList,Array.toList_zipIdx])
 rw[e];apply Array.toList_inj.1;rw[this];simp
theorem GK {c:Ctx} {T:Ty} {place:Nat→Option (Nat×Nat)} (xp: ∀i,i<kb T→place i=some (kz T i,(oO T i).cells)): ∀(ps:List (Nat×PV))(vs:List (Nat×Value))(cs jn:List PV)(cells:Array Value),ps.length=vs.length→(∀(k:Nat)(p:Nat×PV)(v:Nat×Value),ps[k]?=some p→vs[k]?=some v→p.1=v.1∧ag c p.2 v.2)→ai c cs cells.toList→(∀u,u∈cells.toList→u.oneCell'=true)→CM T ps cs=some jn→ ∃out,Instr.fill place cells vs=some out∧ai c jn out.toList∧ ∀u,u∈out.toList→u.oneCell'=true|[],[],cs,jn,cells,_,_,hc,h1,h=>(by simp only[CM,Option.some.injEq]at h;subst h;exact⟨cells,rfl,hc,h1⟩)|[],_::_,_,_,_,hl,_,_,_,_=>(by cases hl)|_::_,[],_,_,_,hl,_,_,_,_=>(by cases hl)|p::ps,v::vs,cs,jn,cells,hl,hr,hc,h1,h=>by obtain⟨Jo,bF⟩:=hr 0 p v rfl rfl;simp only[CM]at h;split at h;(·rename_i us hus;obtain⟨a93,qT⟩:=ld bF hus;split at h;(·rename_i hle kj dh;(have hlen:us.length=(oO T p.1).cells:=by(have: ∀ {α:Type} (l:List α)(k:Nat),zi l k=true→l.length=k:=by intro α l;induction l with|nil=>intro k hk;(cases k<;>first|rfl|cases hk)|cons x l ih=>intro k hk;cases k with|zero=>cases hk|succ k=>simp[ih k hk]);exact this _ _ hle);(have Cd:us.length=v.2.cells.size:=by rw[du a93];simp);have eZ:=du hc;have ek:=Nat.le_of_ble_eq_true kj;(have NG:p.1<kb T:=by simpa[Nat.blt_eq]using dh);(have bp2:cs.length=cells.size:=by rw[eZ];simp);obtain⟨pi,pv⟩:=p;obtain⟨vi,vv⟩:=v;simp only at Jo NG hlen Cd ek;subst Jo;rw[GJ (xp pi NG) (by rw[←Cd,hlen]) (by rw[←Cd,←bp2];exact ek)];refine GK xp ps vs _ jn _ (by simpa using hl) (fun k p' v' NI Ql=>hr (k+1) p' v' NI Ql) ?_ ?_ h;(·simp only[Cd];exact cg (cg (dX _ hc) a93) (dW _ hc));·intro u hu;simp only[List.mem_append]at hu;rcases hu with(hu|hu)|hu;(·exact h1 u (List.mem_of_mem_take hu));(·exact qT u hu);·exact h1 u (List.mem_of_mem_drop hu));·cases h);·cases h
end Go.Proofs.YtgpkijnphchkpaaGreat
namespace Go.Proofs.YtgpkijnphchkpaaGreat
variable {dV:Prop} [jY dV]
open Go.RowKit
section
variable {E:Env} {n:Nat} {w0:World} {S0:Cx} {s:St} {a:Act} {w:World} {ν:Nat→Value} {S:Nat→Prop} {F:dF} {o:Oper} {K:St→Prop} {Q:Exit→Act→World→Prop}
theorem xq {ty:Nat→Option Ty} : ∀(fs:List Field)(R:Ty)(off:Nat),bT ty fs R off=true→ ∀(i:Nat),i<cu R→ ∃f,fs[i]?=some f∧f.offset=off+eM R i∧ty f.type=some (bE R i)∧1≤(bE R i).cells∧(bE R i).val=true∧f.name≠ "_" |[],R,off,h,i,hi=>(by cases h)|[f],R,off,h,i,hi=>(by simp only[bT,Bool.and_eq_true,pN]at h;obtain⟨⟨⟨⟨h1,h2⟩,h3⟩,h4⟩,h5⟩:=h;(have bY: ∀x y,R≠ .pair x y:=by rintro x y rfl;cases h4);(have eZ:cu R=1:=by cases R<;>first|rfl|exact absurd rfl (bY _ _));(have hi0:i=0:=by omega);subst hi0;(have VE:eM R 0=0:=by cases R<;>first|rfl|exact absurd rfl (bY _ _));(have JD:bE R 0=R:=by cases R<;>first|rfl|exact absurd rfl (bY _ _));split at h2;(·rename_i U hU;rw[Ty.dm h2]at hU;exact⟨f,rfl,by rw[VE,Nat.eq_of_beq_eq_true h1];omega,by rw[JD];exact hU,by rw[JD];exact Nat.le_of_ble_eq_true h3,by rw[JD];exact h4,by simpa using h5⟩);·cases h2)|f::g::gs,R,off,h,i,hi=>by cases R with|pair x y=>simp only[bT,Bool.and_eq_true,pN]at h;obtain⟨⟨⟨⟨⟨h1,h2⟩,h3⟩,h4⟩,h5⟩,h6⟩:=h;split at h2;(·rename_i U hU;rw[Ty.dm h2]at hU;cases i with|zero=>exact⟨f,rfl,by simp[eM,Nat.eq_of_beq_eq_true h1],hU,Nat.le_of_ble_eq_true h3,h4,by simpa using h5⟩|succ i=>obtain⟨f',e1,e2,e3⟩:=xq (g::gs) y (off+x.cells) (by unfold bT;exact h6) i (by simp[cu]at hi;omega);exact⟨f',by simpa using e1,by simp only[eM];omega,e3⟩);(·cases h2)|_=>simp only[bT]at h;cases h
theorem tO {ty:Nat→Option Ty} : ∀(fs:List Field)(R:Ty)(off:Nat),bT ty fs R off=true→fs.length=cu R|[],R,off,h=>(by cases h)|[f],R,off,h=>(by simp only[bT,Bool.and_eq_true]at h;have h4:=h.1.2;cases R<;>first|rfl|cases h4)|f::g::gs,R,off,h=>by cases R with|pair x y=>simp only[bT,Bool.and_eq_true]at h;have:=tO (g::gs) y (off+x.cells) (by unfold bT;exact h.2);simp only[List.length_cons]at this⊢;simp only[cu];omega|_=>simp only[bT]at h;cases h
theorem qU(V:Ty)(hV:V.val=true): ∀n,0<n→cu (rowOf V n)=n|0,h=>(by cases h)|1,_=>(by cases V<;>first|rfl|cases hV)|n+2,_=>by simp only[rowOf,cu];rw[qU V hV (n+1) (by omega)];omega
theorem mZ(V:Ty)(hV:V.val=true): ∀n i,i<n→eM (rowOf V n) i=i*V.cells∧bE (rowOf V n) i=V|0,i,h=>(by cases h)|1,i,h=>(by(have:i=0:=by omega);subst this;cases V<;>first|exact⟨by simp[rowOf,eM],rfl⟩|cases hV)|n+2,0,_=>(by simp[rowOf,eM,bE])|n+2,i+1,h=>by obtain⟨h1,h2⟩:=mZ V hV (n+1) i (by omega);simp only[rowOf,eM,bE];exact⟨by rw[h1,Nat.add_mul];omega,h2⟩
theorem pT(V:Ty): ∀n,(rowOf V n).cells=n*V.cells|0=>(by simp[rowOf,Ty.cells])|1=>(by simp[rowOf])|n+2=>by simp only[rowOf,Ty.cells];rw[pT V (n+1),Nat.add_mul (n+1) 1];omega
theorem cI.agg(hE:aG E) {t:Nat} {R:Ty} (h:cI E t (.st R)):(∃fs,E.P.underlying t=some (.struct fs)∧fs.size=cu R∧ ∀i,i<cu R→ ∃f,fs[i]?=some f∧f.offset=eM R i∧E.ty f.type=some (bE R i)∧1≤(bE R i).cells∧(bE R i).val=true∧f.name≠ "_")∨(∃m e V,E.P.underlying t=some (.array m e)∧E.ty e=some V∧R=rowOf V m∧V.val=true∧1≤V.cells∧2≤m):=by
 obtain⟨d,hd,hs⟩:=h.rJ;(cases d<;>simp only[cU]at hs<;>first|cases hs|skip);(·rename_i m e;split at hs;(·rename_i V hV;simp only[Bool.and_eq_true]at hs;exact .inr ⟨_,_,V,hd,hV,Ty.dm hs.1.1.1,hs.1.1.2,Nat.le_of_ble_eq_true hs.1.2,Nat.le_of_ble_eq_true hs.2⟩);·cases hs)
 ·rename_i fs;refine .inl ⟨fs,hd,by simpa using tO _ _ _ hs,fun i hi=>?_⟩;obtain⟨f,h1,h2,h3⟩:=xq fs.toList R 0 hs i hi;exact⟨f,by simpa using h1,by simpa using h2,h3⟩
theorem Qm(hE:aG E)(h:Full n w0 S0 s a w ν S)(ho:bJ n o=true) {t:Nat} {parts:Array (Nat×Operand)} (aJ:o.op= .build t parts)(ab:br E (aj E F s o) (fun l=>K (s.fin o.dst l))):o.wp E.P a w (fun a' w'=> ∃s',K s'∧Rel n w0 S0 s' a' w') Q:=by
 simp only[aj,aJ]at ab;split at ab;(·rename_i bp3 tP;have he:=hE.emp t bp3;unfold aB3 at he;split at he;(·rename_i i fs hi hu;simp only[Bool.and_eq_true]at he;obtain⟨h1,h2⟩:=he;split at h2;(·rename_i cs hz;have Gd:cs= #[]:=Array.toList_inj.1 (by simpa using h2);have hfs:fs= #[]:=Array.toList_inj.1 (by simpa using h1);have tn:parts= #[]:=Array.toList_inj.1 (by rw[tP]);subst Gd;subst hfs;subst tn;refine h.val ho (p:=.agg []) (v:=.agg #[]) ?_ (by simp only[ag,ai];exact⟨[],rfl,by simp,rfl⟩) ab;(have JE:(zeroValue t).run E.P w= .ok (.agg #[]) w:=by simp[zeroValue,typeInfo,hi,hz]);simp[execOp,aJ,Instr.build,JE,run_underlying hu,Value.cells,Instr.fill]);·cases h2);·cases he)
 simp only[zk]at ab;split at ab;(·rename_i R hT;split at ab;(·rename_i z hz;split at ab;(·rename_i cs a94;have hf:=hE.facts hT;obtain⟨vs,tk,hp,h1⟩:=pS (c:=h.c) (.st R) z hz;obtain⟨i,hi,de,_,GG,zv,hzz,_⟩:=hf.info;rw[hzz]at GG;have VF:=lj GG tk;(have JF: ∀(k:Nat)(p:Nat×PV)(v:Nat×Value),(dB s parts.toList)[k]?=some p→((parts.map fun x=>(x.1,a.eval x.2)).toList)[k]?=some v→p.1=v.1∧ag h.c p.2 v.2:=by intro k p v hk hv;rw[jo,List.getElem?_map]at hk;simp only[Array.toList_map,List.getElem?_map]at hv;cases hx:parts.toList[k]? with|none=>rw[hx]at hk;cases hk|some x=>rw[hx]at hk hv;simp only[Option.map_some,Option.some.injEq]at hk hv;subst hk;subst hv;refine⟨rfl,h.ev (az ho ?_)⟩;have hm:x∈parts:=Array.mem_toList_iff.1 (List.mem_of_getElem? hx);simp only[aJ,Op.operands,List.mem_toArray,List.mem_map];exact⟨x,Array.mem_toList_iff.2 hm,rfl⟩);(have hlen:(dB s parts.toList).length=((parts.map fun x=>(x.1,a.eval x.2)).toList).length:=by simp[jo]);(have main: ∀place:Nat→Option (Nat×Nat),(∀i,i<kb (.st R)→place i=some (kz (.st R) i,(oO (.st R) i).cells))→ ∃out,Instr.fill place zv.cells (parts.map fun x=>(x.1,a.eval x.2)).toList=some out∧ag h.c (.agg cs) (.agg out):=by intro place xp;obtain⟨out,h2,h3,h4⟩:=GK xp _ _ z cs zv.cells hlen JF (by rw[VF];exact hp) (by rw[VF];exact h1) a94;refine⟨out,h2,?_⟩;simp only[ag];exact⟨out.toList,by simp,h4,h3⟩);rcases hf.agg hE with⟨fs,hu,pb,hfa⟩|⟨m,e,V,hu,he,rfl,hV,hV1,hm⟩;(·(have V8: ∀(l:List Field),(∀f,f∈l→ ∃j,E.P.info? f.type=some j)→(l.mapM fun f=>do pure (f.offset,←sizeOf f.type):Sem (List (Nat×Nat))).run E.P w= .ok (l.map fun f=>(f.offset,E.P.cellsOf f.type)) w:=by intro l;induction l with|nil=>intro _;simp|cons f l ih=>intro hl;obtain⟨j,hj⟩:=hl f (by simp);have:=ih (fun g hg=>hl g (by simp[hg]));(have step:(do pure (f.offset,←sizeOf f.type):Sem (Nat×Nat)).run E.P w= .ok (f.offset,E.P.cellsOf f.type) w:=by simp[sizeOf,typeInfo,hj,Program.cellsOf]);rw[List.mapM_cons,Sem.run_bind,step];simp only[Result.andThen_ok];rw[Sem.run_bind,this];simp only[Result.andThen_ok,Sem.run_pure,List.map_cons]);(have a95: ∀f,f∈fs.toList→ ∃j,E.P.info? f.type=some j:=by intro f GL;obtain⟨k,hk⟩:=List.getElem?_of_mem GL;(have pc:k<cu R:=by rw[←pb];have:=(List.getElem?_eq_some_iff.1 hk).1;simpa using this);obtain⟨f',qT,_,h3',_⟩:=hfa k pc;(have:f=f':=by(have:fs.toList[k]?=some f':=by simpa using qT);rw[hk]at this;injection this);subst this;obtain⟨j,hj,_⟩:=(hE.facts h3').info;exact⟨j,hj⟩);have a96:=V8 fs.toList a95;obtain⟨out,VE,bF⟩:=main (fun i=>(fs.map fun f=>(f.offset,E.P.cellsOf f.type))[i]?) (fun i vN=>by obtain⟨f,qT,VG,h3',_⟩:=hfa i vN;obtain⟨j,hj,hjs,_⟩:=(hE.facts h3').info;simp only[Array.getElem?_map,qT,Option.map_some,kz,oO,Program.cellsOf,hj,Option.getD_some,hjs,VG]);refine h.val ho (v:=.agg out) ?_ bF ab;(have NJ:(fs.mapM fun f=>do pure (f.offset,←sizeOf f.type):Sem (Array (Nat×Nat))).run E.P w= .ok (fs.map fun f=>(f.offset,E.P.cellsOf f.type)) w:=by rw[Array.mapM_eq_mapM_toList,Sem.run_map,a96];simp only[Result.andThen_ok];congr 1;exact Array.toList_inj.1 (by simp));simp only[execOp,aJ,Instr.build,Sem.run_bind,zeroValue,typeInfo,run_program,Result.andThen_ok,hi,hzz,Sem.run_pure,run_underlying hu,NJ,VE]);·obtain⟨j,hj,hjs,_⟩:=(hE.facts he).info;obtain⟨out,VE,bF⟩:=main (fun i=>some (i*V.cells,V.cells)) (fun i vN=>by simp only[kb]at vN;rw[qU V hV m (by omega)]at vN;obtain⟨e1,e2⟩:=mZ V hV m i vN;simp only[kz,oO,e1,e2]);refine h.val ho (v:=.agg out) ?_ bF ab;simp only[execOp,aJ,Instr.build,Sem.run_bind,zeroValue,typeInfo,run_program,Result.andThen_ok,hi,hzz,Sem.run_pure,run_underlying hu,sizeOf,hj,hjs,VE]);·exact ab.elim);·exact ab.elim)
 ·exact ab.elim
end
end Go.Proofs.YtgpkijnphchkpaaGreat
namespace Go.Proofs.YtgpkijnphchkpaaGreat
variable {dV:Prop} [jY dV]
open Go.RowKit
theorem zz {F F':dF} {bl bl':List (Nat×aO)} : ∀(T:Ty)(ps:List PV)(r:T.den×List PV),PV.fa ps=false→PV.cO ps=[]→pk F bl T ps=some r→pk F' bl' T ps=some r∧PV.fa r.2=false∧PV.cO r.2=[]:=by
 (have cons: ∀(p:PV)(ps:List PV),PV.fa (p::ps)=false→PV.cO (p::ps)=[]→(PV.refs p=false∧PV.ka p=[])∧PV.fa ps=false∧PV.cO ps=[]:=by intro p ps h1 h2;simp only[PV.fa,Bool.or_eq_false_iff]at h1;simp only[PV.cO,List.append_eq_nil_iff]at h2;exact⟨⟨h1.1,h2.1⟩,h1.2,h2.2⟩)
 intro T;induction T with|unit=>intro ps r h1 h2 h;simp only[pk,Option.some.injEq]at h⊢;subst h;exact⟨rfl,h1,h2⟩|pair a b iG gP=>intro ps r h1 h2 h;simp only[pk]at h⊢;split at h;(·rename_i x r1 hx;obtain⟨e1,h3,h4⟩:=iG ps _ h1 h2 hx;split at h;(·rename_i y r2 hy;obtain⟨e2,h5,h6⟩:=gP r1 _ h3 h4 hy;simp only[Option.some.injEq]at h;subst h;simp only[e1,e2];exact⟨trivial,h5,h6⟩);·cases h);(·cases h)|st t ih=>intro ps r h1 h2 h;simp only[pk]at h⊢;exact ih ps r h1 h2 h|bq a b=>intro ps r h1 h2 h;simp only[pk]at h;cases h|int k=>intro ps r h1 h2 h;(cases ps with|nil=>simp only[pk]at h;cases h|cons p ps=>simp only[pk]at h⊢;obtain⟨x,r'⟩:=r;obtain⟨_,h3,h4⟩:=cons p ps h1 h2;obtain⟨_,rfl⟩:=aV h;exact⟨h,h3,h4⟩)|bool=>intro ps r h1 h2 h;(cases ps with|nil=>simp only[pk]at h;cases h|cons p ps=>simp only[pk]at h⊢;obtain⟨x,r'⟩:=r;obtain⟨_,h3,h4⟩:=cons p ps h1 h2;obtain⟨_,rfl⟩:=aV h;exact⟨h,h3,h4⟩)|str=>intro ps r h1 h2 h;(cases ps with|nil=>simp only[pk]at h;cases h|cons p ps=>simp only[pk]at h⊢;obtain⟨x,r'⟩:=r;obtain⟨_,h3,h4⟩:=cons p ps h1 h2;obtain⟨_,rfl⟩:=aV h;exact⟨h,h3,h4⟩)|sl t ih=>intro ps r h1 h2 h;(cases ps with|nil=>simp only[pk]at h;cases h|cons p ps=>simp only[pk]at h⊢;obtain⟨x,r'⟩:=r;obtain⟨⟨h5,h6⟩,h3,h4⟩:=cons p ps h1 h2;obtain⟨hx,rfl⟩:=aV h;refine⟨?_,h3,h4⟩;cases p<;>first|(simp[PV.ka]at h6;done)|exact h)|own t ih=>intro ps r h1 h2 h;(cases ps with|nil=>simp only[pk]at h;cases h|cons p ps=>simp only[pk]at h⊢;obtain⟨x,r'⟩:=r;obtain⟨⟨h5,h6⟩,h3,h4⟩:=cons p ps h1 h2;obtain⟨hx,rfl⟩:=aV h;refine⟨?_,h3,h4⟩;cases p<;>first|(simp[PV.ka]at h6;done)|exact h)|mp a b=>intro ps r h1 h2 h;(cases ps with|nil=>simp only[pk]at h;cases h|cons p ps=>simp only[pk]at h⊢;obtain⟨x,r'⟩:=r;obtain⟨⟨h5,h6⟩,h3,h4⟩:=cons p ps h1 h2;obtain⟨hx,rfl⟩:=aV h;refine⟨?_,h3,h4⟩;cases p<;>first|(simp[PV.ka]at h6;done)|exact h)|aD=>intro ps r h1 h2 h;(cases ps with|nil=>simp only[pk]at h;cases h|cons p ps=>simp only[pk]at h⊢;obtain⟨x,r'⟩:=r;obtain⟨_,h3,h4⟩:=cons p ps h1 h2;obtain⟨_,rfl⟩:=aV h;exact⟨h,h3,h4⟩)|ptr t ih=>intro ps r h1 h2 h;(cases ps with|nil=>simp only[pk]at h;cases h|cons p ps=>simp only[pk]at h⊢;obtain⟨x,r'⟩:=r;obtain⟨⟨h5,h6⟩,h3,h4⟩:=cons p ps h1 h2;cases p with|ref i off=>simp[PV.refs]at h5|iv U y=>obtain⟨_,rfl⟩:=aV h;exact⟨h,h3,h4⟩|dU U y off=>(cases off with|zero=>obtain⟨_,rfl⟩:=aV h;exact⟨h,h3,h4⟩|succ k=>cases h)|_=>cases h)|eY f t ih=>intro ps r h1 h2 h;cases ps with|nil=>simp only[pk]at h;cases h|cons p ps=>simp only[pk]at h⊢;obtain⟨x,r'⟩:=r;obtain⟨⟨h5,h6⟩,h3,h4⟩:=cons p ps h1 h2;cases p with|iv U y=>obtain⟨_,rfl⟩:=aV h;exact⟨h,h3,h4⟩|fn g dL=>(cases hb:Nat.beq f g with|false=>simp[hb]at h|true=>simp only[hb,cond_true]at h⊢;obtain⟨hx,rfl⟩:=aV h;obtain⟨e1,_⟩:=ih dL _ (by simpa[PV.refs]using h5) (by simpa[PV.ka]using h6) (dY hx);exact⟨by rw[e1];rfl,h3,h4⟩)|_=>cases h
theorem GN {F F':dF} {bl bl':List (Nat×aO)} {T:Ty} {p:PV} {x:T.den} (h1:PV.refs p=false)(h2:PV.ka p=[])(h:exp F bl T p=some x):exp F' bl' T p=some x:=by
 (have vT:PV.fa [p]=false:=by simp[PV.fa,h1]);(have tp:PV.cO [p]=[]:=by simp[PV.cO,h2]);cases T with|st t=>(cases p with|iv U y=>exact h|agg cs=>simp only[exp]at h⊢;rw[(zz (F':=F') (bl':=bl') t cs _ (by simpa[PV.refs]using h1) (by simpa[PV.ka]using h2) (dY h)).1];rfl|_=>simp only[exp]at h;cases h)|unit=>simp only[exp]at h;cases h|pair a b=>simp only[exp]at h;cases h|bq a b=>simp only[exp]at h;cases h|_=>simp only[exp]at h⊢;rw[(zz (F':=F') (bl':=bl') _ _ _ vT tp (dY h)).1];rfl
theorem dv {id:Nat} {b:aO} : ∀ {bl:List (Nat×aO)},look id bl=some b→ak id (keys bl)=true|[],h=>(by cases h)|p::r,h=>by simp only[look]at h;simp only[keys,List.map_cons,ak];cases hb:Nat.beq id p.1 with|true=>rfl|false=>simp only[hb,cond_false]at h⊢;exact dv h
theorem GO {T:Ty} {c:PV} {x:T.den} (h:pA T c=some x):c= .iv T x:=by
 (cases c<;>simp only[pA]at h<;>first|cases h|skip);rename_i U y;obtain⟨e,hx⟩:=Ty.bA h;subst e;simp only at hx;rw[hx]
theorem zJ {T:Ty} : ∀ {cs:List PV} {xs:List T.den},nR T cs=some xs→cs=xs.map (PV.iv T)|[],xs,h=>(by simp only[nR,Option.some.injEq]at h;subst h;rfl)|c::r,xs,h=>by simp only[nR]at h;split at h;(·rename_i x ys hx pe;simp only[Option.some.injEq]at h;subst h;rw[GO hx,zJ pe];rfl);·cases h
theorem vU {T:Ty} (h:Qa T=true)(c:PV):join T [c]=c∧T.cells=1∧T.val=true:=by cases T<;>first|(cases h;done)|exact⟨rfl,rfl,rfl⟩
theorem LH {T:Ty} {cs:List PV} {base m:Nat} {xs:List T.den} (h:nR T ((cs.drop base).take m)=some xs) {k:Nat} {x:T.den} (hx:xs[k]?=some x):(cs.drop (base+k)).take 1=[.iv T x]∧k<m∧base+k<cs.length:=by
 have hm:=zJ h;(have hk:((cs.drop base).take m)[k]?=some (.iv T x):=by rw[hm,List.getElem?_map,hx];rfl);(have hkm:k<m:=by rcases Nat.lt_or_ge k m with h'|h';(·exact h');·rw[List.getElem?_eq_none (by rw[List.length_take];omega)]at hk;cases hk)
 rw[List.getElem?_take,if_pos hkm,List.getElem?_drop]at hk;obtain⟨hl,e⟩:=List.getElem?_eq_some_iff.1 hk;refine⟨?_,hkm,hl⟩;rw[List.drop_eq_getElem_cons hl,e];rfl
section
variable {E:Env} {n:Nat} {w0:World} {S0:Cx} {s:St} {a:Act} {w:World} {ν:Nat→Value} {S:Nat→Prop} {F:dF} {o:Oper} {K:St→Prop} {Q:Exit→Act→World→Prop}
theorem Full.Qn(h:Full n w0 S0 s a w ν S) {T:Ty} {p:PV} {x:T.den} {v:Value} (ho:aR T=0)(h1:PV.refs p=false)(h2:PV.ka p=[])(hx:exp F s.bl T p=some x)(hp:ag h.c p v):dt T x w ⟨S,aK w0 S0⟩ v:=by
 have mY:=GN (F':=⟨keys s.bl,true⟩) (bl':=s.bl) h1 h2 hx;refine fB (s:=s) (c:=h.c) (M':=⟨S,aK w0 S0⟩) ⟨rfl,h.W.cA,fun _ h=>h,fun id hF hD g hg=>?_⟩ (.inl ho) mY hp
 obtain⟨b,hb⟩:=hD;rw[dv hb]at hF;cases hF
theorem JG(P:Program)(t:TypeId)(p:Addr)(w:World):(Instr.loadAt t (.pointer (some p))).run P w=(loadVar t p).run P w:=by simp[Instr.loadAt,Instr.sureAddr]
theorem dQ.part {w:World} {g o:Nat} {cs:List Value} (h:dQ w g o cs)(off k:Nat):dQ w g (o+off) ((cs.drop off).take k):=by
 intro j v hj;(have hjk:j<k:=by rcases Nat.lt_or_ge j k with h'|h';(·exact h');·rw[List.getElem?_eq_none (by rw[List.length_take];omega)]at hj;cases hj);rw[List.getElem?_take,if_pos hjk,List.getElem?_drop]at hj
 rw[Nat.add_assoc];exact h _ v hj
theorem qV {w:World} {g:Nat} {vs:Array Value} {e:TypeId} (h:w.heap[g]?=some (.cells vs e (0,0))):dQ w g 0 vs.toList:=by
 intro j v hj;rw[cell_of_row w g _ vs e (0,0) h,Nat.zero_add];simpa using hj
theorem V9(hE:aG E)(h:Full n w0 S0 s a w ν S)(ho:bJ n o=true) {t:Nat} {x:Operand} (aJ:o.op= .load t x)(ab:br E (aj E F s o) (fun l=>K (s.fin o.dst l))):o.wp E.P a w (fun a' w'=> ∃s',K s'∧Rel n w0 S0 s' a' w') Q:=by
 simp only[aj,aJ,me]at ab;have hx:=h.ev (az ho (x:=x) (by simp[aJ,Op.operands]));(have aU: ∀(p:Addr)(v:Value),a.eval x= .pointer (some p)→(loadVar t p).run E.P w= .ok v w→(execOp a.eval o).run E.P w= .ok (.value v) w:=by intro p v he hl;simp only[execOp,aJ,he,Sem.run_bind,JG,hl,Result.andThen_ok,Sem.run_pure])
 split at ab;(·rename_i T hT;have hf:=hE.facts hT;split at ab;(·rename_i id off bQ;split at ab;(·rename_i cs te hl;obtain⟨hl,_⟩:=cE hl;split at ab;(·rename_i ek;have ek:=Nat.le_of_ble_eq_true ek;rw[bQ]at hx;simp only[ag]at hx;obtain⟨hd,g,hg,hv⟩:=hx;obtain⟨jJ,g',vs,e,fu,hB,tH,hh,h1,bF⟩:=h.W.cA _ _ hl;simp only[Full.c]at hg;simp only at fu;rw[hg]at fu;(obtain rfl:g=g':=by injection fu with e1;injection e1 with e1;injection e1);have eZ:=du bF;have hc:=(qV hh).part off T.cells;rw[Nat.zero_add]at hc;refine h.val ho (aU _ _ hv (fU hf (by rw[List.length_take,List.length_drop];omega) hc)) ?_ ab;refine jM (by rw[List.length_take,List.length_drop];omega) hf.val (fun u hu=>h1 u (List.mem_of_mem_drop (List.mem_of_mem_take hu))) (dX _ (dW _ bF)));·exact ab.elim);·exact ab.elim);(·rename_i U y off bQ;split at ab;(·rename_i ek;have ek:=Nat.le_of_ble_eq_true ek;rw[bQ]at hx;simp only[ag]at hx;obtain⟨tF,g,ob,cs,hv,hS,eZ,hc,hr⟩:=hx;have iY:=hc.part off T.cells;refine h.val ho (aU _ _ hv (fU hf (by rw[List.length_take,List.length_drop];omega) iY)) ?_ ab;exact zr tF hf.val ek hr);·exact ab.elim);(·rename_i id sz i off bQ;split at ab;(·rename_i U xs te hl;obtain⟨hl,_⟩:=cE hl;split at ab;(·rename_i ek de;have ek:=Nat.le_of_ble_eq_true ek;have de:=Nat.eq_of_beq_eq_true de;obtain⟨y,hy,ab⟩:=ab;rw[bQ]at hx;simp only[ag]at hx;obtain⟨hd,g,ob,m,cap,cJ,him,hv⟩:=hx;obtain⟨jJ,tF,u,hu,Qo,dy⟩:=h.W.cA _ _ hl;simp only[Full.c]at cJ;simp only[List.cons.injEq,and_true]at hu;rw[cJ]at hu;subst hu;rcases dy with⟨hn,_⟩|⟨g',o',pL,cur,e,yl,hle,hcm,tH,hB,hh,rK,fw⟩;(·cases hn);·injection yl with e1 e2 e3;injection e1 with e1;injection e1 with e1 e4;subst e1;subst e4;subst e3;obtain⟨cs,eZ,hc,hr⟩:=fw i y hy;have iY:=hc.part off T.cells;rw[de]at hv;refine h.val ho (aU _ _ hv (fU hf (by rw[List.length_take,List.length_drop];omega) iY)) ?_ ab;exact zr tF hf.val ek hr);·exact ab.elim);·exact ab.elim);(·rename_i id base U m i bQ;split at ab;(·rename_i cs te hl;obtain⟨hl,_⟩:=cE hl;split at ab;(·rename_i xs Ge hb;simp only[Bool.and_eq_true]at hb;obtain⟨⟨JH,NK⟩,ek⟩:=hb;have JH:=Ty.dm JH;subst JH;have ek:=Nat.le_of_ble_eq_true ek;obtain⟨y,hy,ab⟩:=ab;rw[bQ]at hx;simp only[ag]at hx;obtain⟨hd,h0,hn,g,hg,hv⟩:=hx;obtain⟨jJ,g',vs,e,fu,hB,tH,hh,h1,bF⟩:=h.W.cA _ _ hl;simp only[Full.c]at hg;simp only at fu;rw[hg]at fu;(obtain rfl:g=g':=by injection fu with e1;injection e1 with e1;injection e1);have eZ:=du bF;obtain⟨e1,e2,e3⟩:=LH Ge hy;obtain⟨j1,j2,j3⟩:=vU NK (.iv T y);have hc:=(qV hh).part (base+i.toNat) T.cells;rw[Nat.zero_add]at hc;refine h.val ho (aU _ _ hv (fU hf (by rw[List.length_take,List.length_drop];omega) hc)) ?_ ab;have:=jM (T:=T) (c:=h.c) (by rw[List.length_take,List.length_drop];omega) hf.val (fun u hu=>h1 u (List.mem_of_mem_drop (List.mem_of_mem_take hu))) (dX T.cells (dW (base+i.toNat) bF));rw[j2,e1,j1]at this;rw[j2];exact this);·exact ab.elim);·exact ab.elim);·exact ab.elim)
 ·exact ab.elim
end
end Go.Proofs.YtgpkijnphchkpaaGreat
namespace Go.Proofs.YtgpkijnphchkpaaGreat
variable {dV:Prop} [jY dV]
open Go.RowKit
section
variable {E:Env} {n:Nat} {w0:World} {S0:Cx} {s:St} {a:Act} {w:World} {ν:Nat→Value} {S:Nat→Prop} {F:dF} {o:Oper} {K:St→Prop} {Q:Exit→Act→World→Prop}
theorem zK: ∀ {α:Type} {l:List α} {k:Nat},zi l k=true→l.length=k|_,[],0,_=>rfl|_,[],_+1,h=>(by cases h)|_,_::_,0,h=>(by cases h)|_,_::r,k+1,h=>by simp[zK (l:=r) (k:=k) h]
theorem mi {E:Env} {t:Nat} {T:Ty} (hf:cI E t T) {w:World} {g off:Nat} {v:Value} {cur:Array Value} {e:TypeId} (hg:w.heap[g]?=some (.cells cur e (0,0)))(hl:v.cells.size=T.cells)(rK:off+T.cells≤cur.size)(h1: ∀u,u∈v.cells.toList→u.oneCell'=true):(Instr.storeAt t (.pointer (some ⟨g,off,none⟩)) v).run E.P w= .ok () (w.setRow g (cur.toList.take off++v.cells.toList++cur.toList.drop (off+T.cells)).toArray):=by
 have di:=run_storeCells_at (P:=E.P) g off e v.cells.toList 0 cur w hg (by simpa[hl]using rK) h1;simp only[Nat.add_zero,Array.length_toList,hl]at di;simp only[Instr.storeAt,Instr.sureAddr,Sem.run_bind,Sem.run_pure,Result.andThen_ok,storeVar,hf.sizeOf w,Sem.run_ite,hl,ne_eq,not_true_eq_false,if_false]
 exact di
theorem JI {α:Type} (A ys B:List α)(i:Nat)(v:α)(hi:i<ys.length)(cs:List α)(h:cs=A++(ys++B)):A++ys.set i v++B=cs.take (A.length+i)++ [v]++cs.drop (A.length+i+1):=by
 subst h;(have h1:(A++(ys++B)).take (A.length+i)=A++ys.take i:=by rw[List.take_append,List.take_of_length_le (by omega),Nat.add_sub_cancel_left,List.take_append_of_le_length (by omega)])
 (have h2:(A++(ys++B)).drop (A.length+i+1)=ys.drop (i+1)++B:=by rw[List.drop_append,List.drop_of_length_le (by omega),show A.length+i+1-A.length=i+1 from by omega,List.nil_append,List.drop_append_of_le_length (by omega)])
 rw[h1,h2,List.set_eq_take_append_cons_drop,if_pos hi];simp[List.append_assoc]
theorem LJ {T:Ty} (i:Int)(y:T.den)(h0:0≤i): ∀(xs:List T.den)(j:Nat),Nt T i y j xs=if(j:Int)≤i then(xs.set (i.toNat-j) y).map (PV.iv T)else xs.map (PV.iv T)|[],j=>(by split<;>rfl)|x::r,j=>by simp only[Nt];rw[LJ i y h0 r (j+1)];by_cases h1:i=(j:Int);(·subst h1;rw[if_pos rfl,if_pos (Int.le_refl _),if_neg (by omega)];simp);·rw[if_neg h1];by_cases h2:(j:Int)≤i;(·rw[if_pos h2,if_pos (by omega)];(have e:i.toNat-j=(i.toNat-(j+1))+1:=by omega);rw[e];simp);·rw[if_neg h2,if_neg (by omega)];rfl
theorem pU {c:Ctx} {q:PV} {v:Value} (hq:ag c q v): ∀(U:Ty)(off:Nat)(f:U.den→U.den),Ca U off q=some f→ ∀(x:U.den)(cs:List Value),aH U x c.w c.M cs→off<cs.length∧aH U (f x) c.w c.M (cs.set off v)∧v.cells= #[v]|.bool,off,f,h,x,cs,hx=>(by simp only[Ca]at h;split at h;(·rename_i y;injection h with h;subst h;simp only[ag]at hq;have hv:[v]=[Value.bool y]:=hq.2;injection hv with hv;subst hv;have hx:cs=[.bool x]:=hx;subst hx;exact⟨by simp,rfl,rfl⟩);·cases h)|.int k,off,f,h,x,cs,hx=>(by simp only[Ca]at h;split at h;(·rename_i k' y;split at h;(·rename_i he;have he:=Ty.dm he;injection he with he;subst he;injection h with h;subst h;simp only[ag]at hq;have hv:[v]=[Value.int k y]∧_:=hq.2;obtain⟨hv,hb⟩:=hv;injection hv with hv;subst hv;have hx:cs=[.int k x]∧_:=hx;obtain⟨rfl,_⟩:=hx;exact⟨by simp,⟨rfl,hb⟩,rfl⟩);·cases h);·cases h)|.str,off,f,h,x,cs,hx=>(by simp only[Ca]at h;split at h;(·rename_i y;injection h with h;subst h;simp only[ag]at hq;have hv:[v]=[Value.string ⟨y.toArray⟩]∧_:=hq.2;obtain⟨hv,hb⟩:=hv;injection hv with hv;subst hv;have hx:cs=[.string ⟨x.toArray⟩]∧_:=hx;obtain⟨rfl,_⟩:=hx;exact⟨by simp,⟨rfl,hb⟩,rfl⟩);·cases h)|.st V,off,f,h,x,cs,hx=>pU hq V off f h x cs hx|.pair A B,off,f,h,x,cs,hx=>(by obtain⟨va,vb,rfl,ha,hb⟩:=hx;have ym:=bR _ _ _ _ _ ha;simp only[Ca]at h;split at h;(·rename_i dh;split at h;(·rename_i g hg;injection h with h;subst h;obtain⟨h1,h2,h3⟩:=pU hq A off g hg x.1 va ha;exact⟨by rw[List.length_append];omega,⟨_,_,List.set_append_left _ _ h1,h2,hb⟩,h3⟩);·cases h);·rename_i dh;(have JB:A.cells≤off:=by rcases Nat.lt_or_ge off A.cells with h'|h';(·simp only[Nat.blt]at dh;have:=Nat.ble_eq_true_of_le (Nat.succ_le_of_lt h');rw[this]at dh;cases dh);·exact h');split at h;(·rename_i g hg;injection h with h;subst h;obtain⟨h1,h2,h3⟩:=pU hq B _ g hg x.2 vb hb;exact⟨by rw[List.length_append];omega,⟨_,_,by rw[List.set_append_right _ _ (by omega),ym],ha,h2⟩,h3⟩);·cases h)|.unit,_,_,h,_,_,_=>nomatch h|.sl _,_,_,h,_,_,_=>nomatch h|.own _,_,_,h,_,_,_=>nomatch h|.bq _ _,_,_,h,_,_,_=>nomatch h|.ptr _,_,_,h,_,_,_=>nomatch h|.eY _ _,_,_,h,_,_,_=>nomatch h|.mp _ _,_,_,h,_,_,_=>nomatch h|.aD,_,_,h,_,_,_=>nomatch h
theorem CT (hE : aG E) (h : Full n w0 S0 s a w ν S) (ho : bJ n o = true) {t : Nat} {x y : Operand} (aJ : o.op = .store t x y) (so : o.dst = none) (ab : br E (pH E F s.bl t (s.ev x) (s.ev y)) (fun l => K (s.fin o.dst l))) : o.wp E.P a w (fun a' w' => ∃ s', K s' ∧ Rel n w0 S0 s' a' w') Q := by
  have hx := h.ev (az ho (x := x) (by simp [aJ, Op.operands]))
  have hy := h.ev (az ho (x := y) (by simp [aJ, Op.operands]))
  by_cases hT0 : True
  · simp only [pH] at ab
    split at ab
    · rename_i T hT
      have hf := hE.facts hT
      split at ab
      · rename_i us hus
        obtain ⟨Qp, h1u⟩ := ld hy hus
        split at ab
        · rename_i hle
          have Ce := zK hle
          have Cd : (a.eval y).cells.size = T.cells := by rw [← Ce, du Qp]; simp
          split at ab
          · rename_i id off bQ
            split at ab
            · rename_i cs te hl
              obtain ⟨hl, _⟩ := lf hl
              split at ab
              · rename_i ek
                have ek := Nat.le_of_ble_eq_true ek
                rw [bQ] at hx
                simp only [ag] at hx
                obtain ⟨hd, g, hg, hv⟩ := hx
                obtain ⟨jJ, g', vs, e, fu, hB, tH, hh, h1, bF⟩ := h.W.cA _ _ hl
                simp only [Full.c] at hg
                simp only at fu hh hB tH
                rw [hg] at fu
                obtain rfl : g = g' := by injection fu with e1; injection e1 with e1; injection e1
                have eZ := du bF
                have hr := mi hf (off := off) hh Cd (by rw [← Array.length_toList, ← eZ]; exact ek) h1u
                have aU : (execOp a.eval o).run E.P w = .ok .skip (w.setRow g (vs.toList.take off ++ (a.eval y).cells.toList ++ vs.toList.drop (off + T.cells)).toArray) := by
                  simp only [execOp, aJ, hv, Sem.run_bind, hr, Result.andThen_ok, Sem.run_pure]
                refine lh aU ⟨_, ab, ?_⟩
                rw [so]
                have ll := fV w g (vs.toList.take off ++ (a.eval y).cells.toList ++ vs.toList.drop (off + T.cells)).toArray
                have NL : aE (ν id) = some g := by rw [hg]; rfl
                have JJ : Ctx.Le h.c ⟨ν, s.D, w.setRow g (vs.toList.take off ++ (a.eval y).cells.toList ++ vs.toList.drop (off + T.cells)).toArray, ⟨S, aK w0 S0⟩⟩ :=
                  ⟨fun b hb => setRow_other w g b _ (fun e => (h.iH hl NL).2.1 (e ▸ hb)), fun _ h => h, fun _ h => h, fun _ _ => rfl⟩
                refine (h.upd hl (by rw [NL]; exact ll) (b' := .box (cs.take off ++ us ++ cs.drop (off + T.cells)) te) ⟨(by exact jJ.zo NL hh (setRow_heap w g vs _ e _ hh)), g, _, e, hg, hB, tH, setRow_heap w g vs _ e _ hh, ?_, ?_⟩).rel
                · intro u hu
                  simp only [List.mem_append] at hu
                  rcases hu with (hu | hu) | hu
                  · exact h1 u (List.mem_of_mem_take hu)
                  · exact h1u u hu
                  · exact h1 u (List.mem_of_mem_drop hu)
                · exact cg (cg (dX _ (bM JJ bF)) (bM JJ Qp)) (dW _ (bM JJ bF))
              · exact ab.elim
            · exact ab.elim
          · rename_i id sz i off bQ
            split at ab
            · rename_i U xs te hl
              obtain ⟨hl, _⟩ := lf hl
              split at ab
              · rename_i heq
                simp only [Bool.and_eq_true] at heq
                obtain ⟨heq, de⟩ := heq
                have JH := Ty.dm heq
                subst JH
                have de := Nat.eq_of_beq_eq_true de
                split at ab
                · rename_i z tq NM bp4
                  rw [bQ] at hx
                  simp only [ag] at hx
                  obtain ⟨hd, g, ob, m, cap, cJ, him, hv⟩ := hx
                  have PA := h.W.cA _ _ hl
                  obtain ⟨jJ, tF, u, hu, Qo, dy⟩ := PA
                  simp only [Full.c] at cJ
                  simp only [List.cons.injEq, and_true] at hu
                  rw [cJ] at hu
                  subst hu
                  rcases dy with ⟨hn, _⟩ | ⟨g', o', pL, cur, e, yl, aB6, hcm, tH, hB, hh, rK, fw⟩
                  · cases hn
                  · injection yl with e1 e2 e3
                    injection e1 with e1
                    injection e1 with e1 e4
                    subst e1; subst e4; subst e3; subst e2
                    rw [de, Nat.add_zero] at hv
                    have oY : i * T.cells + T.cells ≤ cap * T.cells := by
                      calc i * T.cells + T.cells = (i + 1) * T.cells := by rw [Nat.add_mul]; omega
                        _ ≤ cap * T.cells := Nat.mul_le_mul_right _ (by omega)
                    have hr := mi hf (off := ob + i * T.cells) hh Cd (by omega) h1u
                    have aU : (execOp a.eval o).run E.P w = .ok .skip (w.setRow g (cur.toList.take (ob + i * T.cells) ++ (a.eval y).cells.toList ++ cur.toList.drop (ob + i * T.cells + T.cells)).toArray) := by
                      simp only [execOp, aJ, hv, Sem.run_bind, hr, Result.andThen_ok, Sem.run_pure]
                    refine lh aU ⟨_, ab, ?_⟩
                    rw [so]
                    have ll := fV w g (cur.toList.take (ob + i * T.cells) ++ (a.eval y).cells.toList ++ cur.toList.drop (ob + i * T.cells + T.cells)).toArray
                    have NL : aE (ν id) = some g := by rw [cJ]; rfl
                    have a97 := h.Qn tF tq NM bp4 hy
                    have CU : ∀ b, S b → (w.setRow g (cur.toList.take (ob + i * T.cells) ++ (a.eval y).cells.toList ++ cur.toList.drop (ob + i * T.cells + T.cells)).toArray).heap[b]? = w.heap[b]? := fun b hb => setRow_other w g b _ (fun e => tH (e ▸ hb))
                    have CO := setRow_heap w g cur (cur.toList.take (ob + i * T.cells) ++ (a.eval y).cells.toList ++ cur.toList.drop (ob + i * T.cells + T.cells)).toArray e _ hh
                    generalize na : (cur.toList.take (ob + i * T.cells) ++ (a.eval y).cells.toList ++ cur.toList.drop (ob + i * T.cells + T.cells)).toArray = Qq at *
                    refine (h.upd (w' := w.setRow g Qq) hl (by rw [NL]; exact ll) (b' := .arr T (xs.set i z)) ⟨da _ _, tF, .slice (some ⟨g, ob, none⟩) xs.length cap, by simp only [cJ], by rw [List.length_set]; exact Qo, .inr ⟨g, ob, cap, Qq, e, by rw [List.length_set], by rw [List.length_set]; exact aB6, hcm, tH, hB, CO, ?_, ?_⟩⟩).rel
                    all_goals subst na
                    · simp only [List.size_toArray, List.length_append, List.length_take, List.length_drop, Array.length_toList, Cd]
                      omega
                    · intro j q hq
                      by_cases fv : i = j
                      · subst fv
                        rw [List.getElem?_set_self him] at hq
                        · injection hq with hq
                          subst hq
                          refine ⟨(a.eval y).cells.toList, by rw [Array.length_toList, Cd], fun k u hk => ?_, aB CU (fun _ h => h) _ _ _ tF (lb hf.val a97)⟩
                          rw [cell_of_row _ _ _ _ _ _ CO]
                          simp only [List.getElem?_toArray]
                          have pc : k < (a.eval y).cells.toList.length := (List.getElem?_eq_some_iff.1 hk).1
                          have BV : (cur.toList.take (ob + i * T.cells)).length = ob + i * T.cells := by simp only [List.length_take, Array.length_toList]; omega
                          rw [List.append_assoc, List.getElem?_append_right (by rw [BV]; omega), BV, List.getElem?_append_left (by omega)]
                          rw [← hk]
                          congr 1
                          omega
                      · rw [List.getElem?_set_ne fv] at hq
                        obtain ⟨cs, eZ, hc, JK⟩ := fw j q hq
                        refine ⟨cs, eZ, fun k u hk => ?_, aB CU (fun _ h => h) _ _ _ tF JK⟩
                        have pc : k < cs.length := (List.getElem?_eq_some_iff.1 hk).1
                        have fb := hc k u hk
                        rw [cell_of_row _ _ _ _ _ _ hh] at fb
                        rw [cell_of_row _ _ _ _ _ _ CO]
                        simp only [List.getElem?_toArray]
                        have BV : (cur.toList.take (ob + i * T.cells)).length = ob + i * T.cells := by simp only [List.length_take, Array.length_toList]; omega
                        rcases Nat.lt_or_gt_of_ne fv with dh | VH
                        · have hmul : i * T.cells + T.cells ≤ j * T.cells := by
                            calc i * T.cells + T.cells = (i + 1) * T.cells := by rw [Nat.add_mul]; omega
                              _ ≤ j * T.cells := Nat.mul_le_mul_right _ dh
                          rw [List.append_assoc, List.getElem?_append_right (by rw [BV]; omega), BV, List.getElem?_append_right (by rw [Array.length_toList, Cd]; omega), List.getElem?_drop, Array.length_toList, Cd]
                          rw [← fb]
                          simp only [Array.getElem?_toList]
                          congr 1
                          omega
                        · have hmul : j * T.cells + T.cells ≤ i * T.cells := by
                            calc j * T.cells + T.cells = (j + 1) * T.cells := by rw [Nat.add_mul]; omega
                              _ ≤ i * T.cells := Nat.mul_le_mul_right _ VH
                          rw [List.append_assoc, List.getElem?_append_left (by rw [BV]; omega), List.getElem?_take, if_pos (by omega)]
                          simpa using fb
                · exact ab.elim
              · rename_i off _ _ bY
                split at ab
                · rename_i f de LK
                  have de := Nat.eq_of_beq_eq_true de
                  rw [bQ] at hx
                  simp only [ag] at hx
                  obtain ⟨hd, g, ob, m, cap, cJ, him, hv⟩ := hx
                  have PA := h.W.cA _ _ hl
                  obtain ⟨jJ, tF, u, hu, Qo, dy⟩ := PA
                  simp only [Full.c] at cJ
                  simp only [List.cons.injEq, and_true] at hu
                  rw [cJ] at hu
                  subst hu
                  rcases dy with ⟨hn, _⟩ | ⟨g', o', pL, cur, e, yl, aB6, hcm, tH, hB, hh, rK, fw⟩
                  · cases hn
                  · injection yl with e1 e2 e3
                    injection e1 with e1
                    injection e1 with e1 e4
                    subst e1; subst e4; subst e3; subst e2
                    rw [de] at hv
                    have Qr : ∀ q, xs[i]? = some q → off < U.cells ∧ (a.eval y).cells = #[a.eval y] := fun q hq => by
                      obtain ⟨cs, eZ, _, JK⟩ := fw i q hq
                      obtain ⟨h1, _, h3⟩ := pU hy U off f LK q cs JK
                      exact ⟨by omega, h3⟩
                    obtain ⟨mL, hcv⟩ := Qr _ (List.getElem?_eq_getElem him)
                    have hT1 : T.cells = 1 := by rw [← Cd, hcv]; rfl
                    have oY : i * U.cells + U.cells ≤ cap * U.cells := by
                      calc i * U.cells + U.cells = (i + 1) * U.cells := by rw [Nat.add_mul]; omega
                        _ ≤ cap * U.cells := Nat.mul_le_mul_right _ (by omega)
                    have hr := mi hf (off := ob + i * U.cells + off) hh Cd (by omega) h1u
                    rw [hT1, hcv] at hr
                    have aU : (execOp a.eval o).run E.P w = .ok .skip (w.setRow g (cur.toList.take (ob + i * U.cells + off) ++ [a.eval y] ++ cur.toList.drop (ob + i * U.cells + off + 1)).toArray) := by
                      simp only [execOp, aJ, hv, Sem.run_bind, hr, Result.andThen_ok, Sem.run_pure]
                    refine lh aU ⟨_, ab, ?_⟩
                    rw [so]
                    have ll := fV w g (cur.toList.take (ob + i * U.cells + off) ++ [a.eval y] ++ cur.toList.drop (ob + i * U.cells + off + 1)).toArray
                    have NL : aE (ν id) = some g := by rw [cJ]; rfl
                    have CU : ∀ b, S b → (w.setRow g (cur.toList.take (ob + i * U.cells + off) ++ [a.eval y] ++ cur.toList.drop (ob + i * U.cells + off + 1)).toArray).heap[b]? = w.heap[b]? := fun b hb => setRow_other w g b _ (fun e => tH (e ▸ hb))
                    have CO := setRow_heap w g cur (cur.toList.take (ob + i * U.cells + off) ++ [a.eval y] ++ cur.toList.drop (ob + i * U.cells + off + 1)).toArray e _ hh
                    have Wa : (cur.toList.take (ob + i * U.cells + off) ++ [a.eval y] ++ cur.toList.drop (ob + i * U.cells + off + 1)).toArray = (cur.toList.set (ob + i * U.cells + off) (a.eval y)).toArray := by
                      rw [List.set_eq_take_append_cons_drop, if_pos (by rw [Array.length_toList]; omega)]
                      simp
                    rw [Wa] at ll CU CO ⊢
                    generalize na : (cur.toList.set (ob + i * U.cells + off) (a.eval y)).toArray = Qq at *
                    refine (h.upd (w' := w.setRow g Qq) hl (by rw [NL]; exact ll) (b' := .arr U (xs.modify i f)) ⟨da _ _, tF, .slice (some ⟨g, ob, none⟩) xs.length cap, by simp only [cJ], by rw [List.length_modify]; exact Qo, .inr ⟨g, ob, cap, Qq, e, by rw [List.length_modify], by rw [List.length_modify]; exact aB6, hcm, tH, hB, CO, ?_, ?_⟩⟩).rel
                    all_goals subst na
                    · simp only [List.size_toArray, List.length_set, Array.length_toList]
                      omega
                    · intro j q hq
                      by_cases fv : i = j
                      · subst fv
                        rw [List.getElem?_modify_eq] at hq
                        obtain ⟨q0, hq0, rfl⟩ := Option.map_eq_some_iff.1 (show (xs[i]?).map f = some q from hq)
                        obtain ⟨cs, eZ, hc, JK⟩ := fw i q0 hq0
                        obtain ⟨h1, h2, _⟩ := pU hy U off f LK q0 cs JK
                        refine ⟨cs.set off (a.eval y), by rw [List.length_set, eZ], fun k u hk => ?_, aB CU (fun _ h => h) _ _ _ tF h2⟩
                        rw [cell_of_row _ _ _ _ _ _ CO]
                        simp only [List.getElem?_toArray]
                        by_cases hko : off = k
                        · subst hko
                          rw [List.getElem?_set_self h1] at hk
                          rw [List.getElem?_set_self (by rw [Array.length_toList]; omega)]
                          exact hk
                        · rw [List.getElem?_set_ne hko] at hk
                          rw [List.getElem?_set_ne (by omega)]
                          have fb := hc k u hk
                          rw [cell_of_row _ _ _ _ _ _ hh] at fb
                          simpa using fb
                      · rw [List.getElem?_modify_ne _ _ fv] at hq
                        obtain ⟨cs, eZ, hc, JK⟩ := fw j q hq
                        refine ⟨cs, eZ, fun k u hk => ?_, aB CU (fun _ h => h) _ _ _ tF JK⟩
                        have pc : k < cs.length := (List.getElem?_eq_some_iff.1 hk).1
                        have fb := hc k u hk
                        rw [cell_of_row _ _ _ _ _ _ hh] at fb
                        rw [cell_of_row _ _ _ _ _ _ CO]
                        simp only [List.getElem?_toArray]
                        have bY : ob + i * U.cells + off ≠ ob + j * U.cells + k := by
                          rcases Nat.lt_or_gt_of_ne fv with dh | VH
                          · have hmul : i * U.cells + U.cells ≤ j * U.cells := by
                              calc i * U.cells + U.cells = (i + 1) * U.cells := by rw [Nat.add_mul]; omega
                                _ ≤ j * U.cells := Nat.mul_le_mul_right _ dh
                            omega
                          · have hmul : j * U.cells + U.cells ≤ i * U.cells := by
                              calc j * U.cells + U.cells = (j + 1) * U.cells := by rw [Nat.add_mul]; omega
                                _ ≤ i * U.cells := Nat.mul_le_mul_right _ VH
                            omega
                        rw [List.getElem?_set_ne bY]
                        simpa using fb
                · exact ab.elim
            · exact ab.elim
          · rename_i id base U m i bQ
            split at ab
            · rename_i cs te hl
              obtain ⟨hl, _⟩ := lf hl
              split at ab
              · rename_i xs z Ge hb hz
                simp only [Bool.and_eq_true] at hb
                obtain ⟨⟨JH, NK⟩, ek⟩ := hb
                have JH := Ty.dm JH
                subst JH
                have ek := Nat.le_of_ble_eq_true ek
                obtain ⟨j1, j2, j3⟩ := vU NK (.iv T z)
                have hq := GO hz
                rw [bQ] at hx
                simp only [ag] at hx
                obtain ⟨hd, h0, hn, g, hg, hv⟩ := hx
                obtain ⟨jJ, g', vs, e, fu, hB, tH, hh, h1, bF⟩ := h.W.cA _ _ hl
                simp only [Full.c] at hg
                simp only at fu hh hB tH
                rw [hg] at fu
                obtain rfl : g = g' := by injection fu with e1; injection e1 with e1; injection e1
                have eZ := du bF
                have bp5 : us = [.iv T z] := by
                  rw [hq] at hus
                  cases T <;> first | (cases NK; done) | (simp only [PV.cells, Ty.val, Option.some.injEq, cellsOf] at hus; exact hus.symm)
                have V8 := zJ Ge
                have zL : xs.length = m := by
                  have := congrArg List.length V8
                  rw [List.length_take, List.length_drop, List.length_map] at this
                  omega
                have him : i.toNat < m := by omega
                have Es : cs.take base ++ Nt T i z 0 xs ++ cs.drop (base + m) = cs.take (base + i.toNat) ++ us ++ cs.drop (base + i.toNat + T.cells) := by
                  have e0 := LJ i z h0 xs 0
                  simp only [Int.natCast_zero, Nat.sub_zero, if_pos h0] at e0
                  have Wa : cs = cs.take base ++ (xs.map (PV.iv T) ++ cs.drop (base + m)) := by
                    have := V8
                    rw [← this]
                    conv => lhs; rw [← List.take_append_drop base cs]
                    congr 1
                    conv => lhs; rw [← List.take_append_drop m (cs.drop base)]
                    rw [List.drop_drop]
                  have BV : (cs.take base).length = base := by rw [List.length_take]; omega
                  have hml : (xs.map (PV.iv T)).length = m := by rw [List.length_map]; exact zL
                  rw [e0, bp5, j2, List.map_set]
                  have hss := JI (cs.take base) (xs.map (PV.iv T)) (cs.drop (base + m)) i.toNat (.iv T z) (by omega) cs Wa
                  rw [BV] at hss
                  exact hss
                rw [Es] at ab
                have hr := mi hf (off := base + i.toNat) hh Cd (by rw [← Array.length_toList, ← eZ]; omega) h1u
                have aU : (execOp a.eval o).run E.P w = .ok .skip (w.setRow g (vs.toList.take (base + i.toNat) ++ (a.eval y).cells.toList ++ vs.toList.drop (base + i.toNat + T.cells)).toArray) := by
                  simp only [execOp, aJ, hv, Sem.run_bind, hr, Result.andThen_ok, Sem.run_pure]
                refine lh aU ⟨_, ab, ?_⟩
                rw [so]
                have ll := fV w g (vs.toList.take (base + i.toNat) ++ (a.eval y).cells.toList ++ vs.toList.drop (base + i.toNat + T.cells)).toArray
                have NL : aE (ν id) = some g := by rw [hg]; rfl
                have JJ : Ctx.Le h.c ⟨ν, s.D, w.setRow g (vs.toList.take (base + i.toNat) ++ (a.eval y).cells.toList ++ vs.toList.drop (base + i.toNat + T.cells)).toArray, ⟨S, aK w0 S0⟩⟩ :=
                  ⟨fun b hb => setRow_other w g b _ (fun e => (h.iH hl NL).2.1 (e ▸ hb)), fun _ h => h, fun _ h => h, fun _ _ => rfl⟩
                refine (h.upd hl (by rw [NL]; exact ll) (b' := .box (cs.take (base + i.toNat) ++ us ++ cs.drop (base + i.toNat + T.cells)) te) ⟨(by exact jJ.zo NL hh (setRow_heap w g vs _ e _ hh)), g, _, e, hg, hB, tH, setRow_heap w g vs _ e _ hh, ?_, ?_⟩).rel
                · intro u hu
                  simp only [List.mem_append] at hu
                  rcases hu with (hu | hu) | hu
                  · exact h1 u (List.mem_of_mem_take hu)
                  · exact h1u u hu
                  · exact h1 u (List.mem_of_mem_drop hu)
                · exact cg (cg (dX _ (bM JJ bF)) (bM JJ Qp)) (dW _ (bM JJ bF))
              · exact ab.elim
            · exact ab.elim
          · exact ab.elim
        · exact ab.elim
      · exact ab.elim
    · exact ab.elim
  · exact absurd trivial hT0
theorem cI.field {E:Env} (hE:aG E) {t:Nat} {T:Ty} (hf:cI E t T)(hs:E.str t=true) {i:Nat} (hi:i<kb T): ∃fs f,E.P.underlying t=some (.struct fs)∧fs[i]?=some f∧f.offset=kz T i∧cI E f.type (oO T i)∧1≤(oO T i).cells:=by
 (cases T<;>first|(simp[kb]at hi;done)|skip);rename_i R;rcases hf.agg hE with⟨fs,hu,pb,hfa⟩|⟨m,e,V,hu,he,rfl,hV,hV1,hm⟩;(·obtain⟨f,h1,h2,h3,h4,h5,h6⟩:=hfa i hi;exact⟨fs,f,hu,h1,h2,hE.facts h3,h4⟩)
 ·have:=hf.str _ _ rfl hu;simp only at this;rw[hs]at this;cases this
theorem cI.array {E:Env} (hE:aG E) {t:Nat} {R:Ty} (hf:cI E t (.st R))(hs:E.str t=false): ∃m e,E.P.underlying t=some (.array m e)∧cI E e (bE R 0)∧cu R=m∧ ∀i,i<m→eM R i=i*(bE R 0).cells:=by
 rcases hf.agg hE with⟨fs,hu,pb,hfa⟩|⟨m,e,V,hu,he,rfl,hV,hV1,hm⟩;(·have:=hf.str _ _ rfl hu;simp only at this;rw[hs]at this;cases this);·have h0:=(mZ V hV m 0 (by omega)).2;refine⟨m,e,hu,by rw[h0];exact hE.facts he,qU V hV m (by omega),fun i hi=>?_⟩;rw[h0];exact(mZ V hV m i hi).1
theorem Et(hE:aG E)(h:Full n w0 S0 s a w ν S)(ho:bJ n o=true) {t f:Nat} {x:Operand} (aJ:o.op= .fieldAddr t x f)(ab:br E (aj E F s o) (fun l=>K (s.fin o.dst l))):o.wp E.P a w (fun a' w'=> ∃s',K s'∧Rel n w0 S0 s' a' w') Q:=by
 simp only[aj,aJ]at ab;have hx:=h.ev (az ho (x:=x) (by simp[aJ,Op.operands]));split at ab;(·rename_i T hT;split at ab;(·rename_i hb;simp only[Bool.and_eq_true,Nat.blt_eq]at hb;obtain⟨fs,fd,hu,hfd,mL,JL,Jp⟩:=(hE.facts hT).field hE hb.2 hb.1;(have aU: ∀(g ob:Nat),a.eval x= .pointer (some ⟨g,ob,none⟩)→(execOp a.eval o).run E.P w= .ok (.value (.pointer (some ⟨g,ob+kz T f,none⟩))) w:=by intro g ob he;have de:=JL.sizeOf w;simp only[execOp,aJ,he,Instr.fieldAt,Sem.run_bind,run_underlying hu,Result.andThen_ok,hfd,Instr.sureAddr,Sem.run_pure,fieldPlace,de,Sem.run_ite];rw[if_neg (by omega)];simp only[Result.andThen_ok,mL,eP,Sem.run_pure]);split at ab;(·rename_i id off bQ;rw[bQ]at hx;simp only[ag]at hx;obtain⟨hd,g,hg,hv⟩:=hx;refine h.val ho (aU _ _ hv) ?_ ab;simp only[ag];exact⟨hd,g,hg,rfl⟩);(·rename_i U y off bQ;rw[bQ]at hx;simp only[ag]at hx;obtain⟨tF,g,ob,cs,hv,r⟩:=hx;refine h.val ho (aU _ _ hv) ?_ ab;simp only[ag];exact⟨tF,g,ob,cs,by rw[Nat.add_assoc],r⟩);(·rename_i id sz i off bQ;rw[bQ]at hx;simp only[ag]at hx;obtain⟨hd,g,ob,m,cap,cJ,him,hv⟩:=hx;refine h.val ho (aU _ _ hv) ?_ ab;simp only[ag];exact⟨hd,g,ob,m,cap,cJ,him,by rw[Nat.add_assoc]⟩);·exact ab.elim);·exact ab.elim)
 ·exact ab.elim
theorem jN {E:Env} {t:Nat} {T:Ty} (hf:cI E t T) {w:World} {cs:Array Value} {off:Nat} (hl:off+T.cells≤cs.size):(Go.part t cs off).run E.P w= .ok (valOf T ((cs.toList.drop off).take T.cells)) w:=by
 unfold Go.part;simp only[Sem.run_bind,hf.isAgg w,Result.andThen_ok];have hT:=hf.val;cases T with|st r=>simp only[Qg,if_true,Sem.run_bind,hf.sizeOf w,Result.andThen_ok,Sem.run_pure,valOf];congr 2;apply Array.toList_inj.1;simp[Array.toList_extract]|unit=>cases hT|pair a b=>cases hT|bq a b=>cases hT|_=>simp only[Ty.cells]at hl;simp only[Qg,Bool.false_eq_true,if_false,Ty.cells,valOf];rw[Array.getElem?_eq_getElem (by omega)];rw[List.drop_eq_getElem_cons (by simpa using(by omega:off<cs.size))];simp
theorem tQ {c:Ctx} {p:PV} {v:Value} {cs:List PV} (h:ag c p v)(hc:kU p=some cs):ai c cs v.cells.toList∧(∀u,u∈v.cells.toList→u.oneCell'=true)∧ ∃us,v= .agg us:=by
 cases p with|iv T x=>(cases T with|st R=>simp only[kU]at hc;(have iY:(PV.iv (.st R) x).cells=some cs:=by simp only[PV.cells,Ty.val];exact hc);obtain⟨h1,h2⟩:=ld h iY;simp only[ag]at h;obtain⟨_,vs,hv,_⟩:=h;exact⟨h1,h2,_,hv⟩|_=>simp only[kU]at hc;cases hc)|agg ps=>have iY:(PV.agg ps).cells=some cs:=hc;obtain⟨h1,h2⟩:=ld h iY;simp only[ag]at h;obtain⟨vs,hv,_⟩:=h;exact⟨h1,h2,_,hv⟩|_=>simp only[kU]at hc;cases hc
theorem Qs(hE:aG E)(h:Full n w0 S0 s a w ν S)(ho:bJ n o=true) {t f:Nat} {x:Operand} (aJ:o.op= .field t x f)(ab:br E (aj E F s o) (fun l=>K (s.fin o.dst l))):o.wp E.P a w (fun a' w'=> ∃s',K s'∧Rel n w0 S0 s' a' w') Q:=by
 simp only[aj,aJ]at ab;have hx:=h.ev (az ho (x:=x) (by simp[aJ,Op.operands]));split at ab;(·rename_i T cs hT Gd;split at ab;(·rename_i ek hb;simp only[Bool.and_eq_true,Nat.blt_eq]at hb;have ek:=Nat.le_of_ble_eq_true ek;obtain⟨fs,fd,hu,hfd,mL,JL,Jp⟩:=(hE.facts hT).field hE hb.2 hb.1;obtain⟨hp,h1,us,hv⟩:=tQ hx Gd;rw[hv]at hp h1;simp only[Value.cells]at hp h1;rw[du hp]at ek;have aU:=jN (E:=E) JL (w:=w) (cs:=us) (off:=kz T f) (by simpa using ek);refine h.val ho ?_ (jM (by rw[List.length_take,List.length_drop];omega) JL.val (fun u hu=>h1 u (List.mem_of_mem_drop (List.mem_of_mem_take hu))) (dX _ (dW _ hp))) ab;simp only[execOp,aJ,hv,Instr.field,Sem.run_bind,run_underlying hu,Result.andThen_ok,hfd,asAgg,Sem.run_pure,mL,aU]);·exact ab.elim)
 ·exact ab.elim
theorem Eu(hE:aG E)(h:Full n w0 S0 s a w ν S)(ho:bJ n o=true) {t:Nat} {x i:Operand} (aJ:o.op= .indexAddr t x i)(ab:br E (aj E F s o) (fun l=>K (s.fin o.dst l))):o.wp E.P a w (fun a' w'=> ∃s',K s'∧Rel n w0 S0 s' a' w') Q:=by
 simp only[aj,aJ]at ab;have hx:=h.ev (az ho (x:=x) (by simp[aJ,Op.operands]));have hi:=h.ev (az ho (x:=i) (by simp[aJ,Op.operands]));split at ab;(·rename_i k m Qt;rw[Qt]at hi;obtain⟨VI,_⟩:=bf hi;(have jW: ∀ {U:Ty} (hT:E.ty t=some (.sl U))(g ob len cap:Nat),a.eval x= .slice (some ⟨g,ob,none⟩) len cap→0≤m→m<len→(execOp a.eval o).run E.P w= .ok (.value (.pointer (some ⟨g,ob+m.toNat*U.cells,none⟩))) w:=by intro U hT g ob len cap he h0 h1;obtain⟨e,hu,hee,pQ,_⟩:=(hE.facts hT).elem hE;have de:=pQ.sizeOf w;simp only[execOp,aJ,he,VI,Instr.indexAt,asIntOf,Sem.run_bind,Sem.run_pure,Result.andThen_ok,run_underlying hu,Sem.run_ite];rw[if_pos ⟨h0,h1⟩];simp only[Sem.run_bind,de,Result.andThen_ok,Sem.run_pure,eP]);(have NM: ∀ {R:Ty} (hT:E.ty t=some (.st R))(hs:E.str t=false)(g ob:Nat),a.eval x= .pointer (some ⟨g,ob,none⟩)→0≤m→m<cu R→(execOp a.eval o).run E.P w= .ok (.value (.pointer (some ⟨g,ob+m.toNat*(bE R 0).cells,none⟩))) w:=by intro R hT hs g ob he h0 h1;obtain⟨l,e,hu,pQ,eZ,_⟩:=(hE.facts hT).array hE hs;have de:=pQ.sizeOf w;simp only[execOp,aJ,he,VI,Instr.indexAt,asIntOf,Sem.run_bind,Sem.run_pure,Result.andThen_ok,run_underlying hu,Instr.sureAddr,Sem.run_ite];rw[if_pos ⟨h0,by rw[←eZ];exact h1⟩];simp only[Sem.run_bind,de,Result.andThen_ok,Sem.run_pure,eP]);simp only[mJ]at ab;split at ab;(·rename_i T xs bQ;rw[bQ]at hx;split at ab;(·rename_i U hT;split at ab;(·rename_i heq;have JH:=Ty.dm heq;subst JH;obtain⟨h0,y,hy,ab⟩:=ab;simp only[ag]at hx;obtain⟨rI,aa,cap,hv,hle,rH,dy⟩:=hx;injection hv with hv;have dh:m.toNat<xs.length:=(List.getElem?_eq_some_iff.1 hy).1;rcases dy with rfl|⟨g,ob,rfl,hS,fw⟩;(·simp at dh);·obtain⟨cs,eZ,hc,hr⟩:=fw _ y hy;refine h.val ho (jW hT g ob xs.length cap hv h0 ((Int.toNat_lt h0).1 dh)) ?_ ab;simp only[ag];exact⟨by simpa[aR]using rI,g,ob+m.toNat*T.cells,cs,by rw[Nat.add_zero],hS,eZ,hc,hr⟩);·exact ab.elim);·exact ab.elim);(·rename_i id bQ;rw[bQ]at hx;split at ab;(·rename_i T xs te U hl hT;obtain⟨hl,_⟩:=cE hl;split at ab;(·rename_i heq;have JH:=Ty.dm heq;subst JH;obtain⟨⟨h0,h1⟩,ab⟩:=ab;simp only[ag]at hx;obtain⟨hd,cJ,_⟩:=hx;obtain⟨jJ,tF,u,hu,Qo,dy⟩:=h.W.cA _ _ hl;simp only[List.cons.injEq,and_true]at hu;simp only[Full.c]at cJ;rcases dy with⟨hn,rfl⟩|⟨g,ob,cap,cur,e,yl,_⟩;(·simp at h1;omega);·rw[yl]at hu;rw[hu]at cJ;refine h.val ho (jW hT g ob xs.length cap cJ h0 h1) ?_ ab;simp only[ag];exact⟨hd,g,ob,xs.length,cap,hu,by omega,by rw[Nat.add_zero]⟩);·exact ab.elim);·exact ab.elim);(·rename_i id sz off len bQ;rw[bQ]at hx;split at ab;(·rename_i U hT;split at ab;(·rename_i de;have de:=Nat.eq_of_beq_eq_true de;obtain⟨⟨h0,h1⟩,ab⟩:=ab;simp only[ag]at hx;obtain⟨hd,aa,m',cap,b,cJ,hn,rH,hv,hb⟩:=hx;obtain⟨g,ob,rfl,rfl⟩:=hb (by omega);refine h.val ho (jW hT g _ _ _ hv h0 h1) ?_ ab;simp only[ag];exact⟨hd,g,ob,m',cap,cJ,by omega,by rw[de,Nat.add_mul,Nat.add_zero,Nat.add_assoc]⟩);·exact ab.elim);·exact ab.elim);(·rename_i id off bQ;rw[bQ]at hx;split at ab;(·rename_i R hT hs;simp only[ag]at hx;obtain⟨hd,g,hg,hv⟩:=hx;split at ab;(·rename_i hb;simp only[Bool.and_eq_true]at hb;have Jp:=Nat.eq_of_beq_eq_true hb.2;obtain⟨⟨h0,h1⟩,ab⟩:=ab;refine h.val ho (NM hT hs g off hv h0 h1) ?_ ab;simp only[ag];exact⟨hd,h0,h1,g,hg,by rw[Jp,Nat.mul_one]⟩);·obtain⟨⟨h0,h1⟩,ab⟩:=ab;refine h.val ho (NM hT hs g off hv h0 h1) ?_ ab;simp only[ag];exact⟨hd,g,hg,rfl⟩);·exact ab.elim);(·rename_i U y off bQ;rw[bQ]at hx;split at ab;(·rename_i R hT hs;obtain⟨⟨h0,h1⟩,ab⟩:=ab;simp only[ag]at hx;obtain⟨tF,g,ob,cs,hv,r⟩:=hx;refine h.val ho (NM hT hs g _ hv h0 h1) ?_ ab;simp only[ag];exact⟨tF,g,ob,cs,by rw[Nat.add_assoc],r⟩);·exact ab.elim);·exact ab.elim)
 ·exact ab.elim
theorem Qu(hE:aG E)(h:Full n w0 S0 s a w ν S)(ho:bJ n o=true) {t:Nat} {x i:Operand} (aJ:o.op= .index t x i)(ab:br E (aj E F s o) (fun l=>K (s.fin o.dst l))):o.wp E.P a w (fun a' w'=> ∃s',K s'∧Rel n w0 S0 s' a' w') Q:=by
 simp only[aj,aJ]at ab;have hx:=h.ev (az ho (x:=x) (by simp[aJ,Op.operands]));have hi:=h.ev (az ho (x:=i) (by simp[aJ,Op.operands]));split at ab;(·rename_i xs k m pV Qt hT;obtain⟨d,hu,Gf⟩:=(hE.facts hT).rJ;(have hd:d= .string:=by cases d<;>first|rfl|cases Gf);subst hd;rw[Qt]at hi;rw[pV]at hx;obtain⟨VI,_⟩:=bf hi;obtain⟨Jq,_⟩:=ep hx;obtain⟨h0,c,⟨u,tr,rfl⟩,ab⟩:=ab;refine h.val ho (v:=.int .u8 u.toNat) ?_ (bW (by have:=u.toNat_lt;constructor<;>simp[IntKind.min,IntKind.max,IntKind.signed,IntKind.bits]<;>omega)) ab;simp only[execOp,aJ,Jq,VI,Instr.index,asIntOf,Sem.run_bind,Sem.run_pure,Result.andThen_ok,run_underlying hu];rw[if_pos h0];(have:(⟨xs.toArray⟩:ByteArray)[m.toNat]?=some u:=by have hl:m.toNat<xs.length:=(List.getElem?_eq_some_iff.1 tr).1;have hs:m.toNat<(⟨xs.toArray⟩:ByteArray).size:=hl;rw[getElem?_pos (⟨xs.toArray⟩:ByteArray) m.toNat hs];have:=(List.getElem?_eq_some_iff.1 tr).2;rw[←this];rfl);rw[this];rfl)
 (·exact ab.elim);(·rename_i k m R Qt hT _;split at ab;(·rename_i cs Gd Wb;split at ab;(·rename_i xs Ge NK;obtain⟨⟨h0,h1⟩,z,hz,ab⟩:=ab;rw[Qt]at hi;obtain⟨VI,_⟩:=bf hi;obtain⟨l,e,hu,pQ,eZ,_⟩:=(hE.facts hT).array hE Wb;obtain⟨bF,h1c,us,Jq⟩:=tQ hx Gd;obtain⟨j1,j2,j3⟩:=vU NK (.iv (bE R 0) z);have hlen:=du bF;rw[Jq]at bF hlen;simp only[Value.cells]at bF hlen;obtain⟨e1,e2,e3⟩:=LH (base:=0) (m:=cs.length) (by rw[List.drop_zero,List.take_length];exact Ge) hz;rw[Nat.zero_add]at e1 e3;(have hle:m.toNat*(bE R 0).cells+(bE R 0).cells≤us.size:=by rw[j2,Nat.mul_one,←Array.length_toList,←hlen];omega);have hp:=jN pQ (w:=w) (cs:=us) (off:=m.toNat*(bE R 0).cells) hle;refine h.val ho (v:=valOf (bE R 0) ((us.toList.drop (m.toNat*(bE R 0).cells)).take (bE R 0).cells)) ?_ ?_ ab;(·simp only[execOp,aJ,Jq,VI,Instr.index,asIntOf,Sem.run_bind,Sem.run_pure,Result.andThen_ok,run_underlying hu,Sem.run_ite];rw[if_pos ⟨h0,by rw[←eZ];exact h1⟩];simp only[Sem.run_bind,pQ.sizeOf w,Result.andThen_ok,hp,Sem.run_pure]);·(have nb: ∀u,u∈us.toList→u.oneCell'=true:=by intro u tr;rw[Jq]at h1c;exact h1c u tr);have hjr:=jM (T:=bE R 0) (c:=h.c) (vs:=(us.toList.drop m.toNat).take (bE R 0).cells) (by rw[List.length_take,List.length_drop,j2,←hlen];omega) pQ.val (fun u hu=>nb u (List.mem_of_mem_drop (List.mem_of_mem_take hu))) (dX (bE R 0).cells (dW m.toNat bF));rw[j2,e1,j1]at hjr;rw[j2,Nat.mul_one];exact hjr);·exact ab.elim);·exact ab.elim)
 ·exact ab.elim
end
end Go.Proofs.YtgpkijnphchkpaaGreat
namespace Go.Proofs.YtgpkijnphchkpaaGreat
variable {dV:Prop} [jY dV]
open Go.RowKit
theorem Ew {α:Type} (xs:List α)(lo hi:Option Int):cut xs lo hi=(xs.drop (cS lo)).take (ie xs.length hi-cS lo):=by
 cases lo<;>cases hi<;>simp[cut,cS,ie];exact(List.take_of_length_le (by simp)).symm
def tR:Option Int→Option Value→Prop|none,none=>True|some n,some v=> ∃k,v= .int k n|_,_=>False
theorem kl {P:Program} {w:World} {isSlice:Bool} {len cap:Nat} {lo hi:Option Int} {vl vh:Option Value} (PE:tR lo vl)(hhi:tR hi vh)(h:mc len lo hi)(hc:len≤cap):(Instr.sliceBounds isSlice len cap vl vh none).run P w= .ok (cS lo,ie len hi,cap) w:=by
 (have sb: ∀(k:IntKind)(n:Int)(y:Nat)(code:BoundsCode),0≤n→n≤y→(Instr.sliceBound (.int k n) y code).run P w= .ok n.toNat w:=by intro k n y code h0 h1;simp only[Instr.sliceBound,asIntOf,Sem.run_bind,Sem.run_pure,Result.andThen_ok,Sem.run_ite];rw[if_pos ⟨h0,h1⟩])
 cases lo with|none=>(cases vl with|some v=>exact PE.elim|none=>cases hi with|none=>(cases vh with|some v=>exact hhi.elim|none=>simp[Instr.sliceBounds,cS,ie])|some m=>cases vh with|none=>exact hhi.elim|some v=>obtain⟨k,rfl⟩:=hhi;obtain⟨h0,h1⟩:=h;cases isSlice<;>simp[Instr.sliceBounds,cS,ie,sb _ _ _ _ h0 (show m≤(cap:Int)by omega)])|some l=>cases vl with|none=>exact PE.elim|some v=>obtain⟨k,rfl⟩:=PE;cases hi with|none=>(cases vh with|some v=>exact hhi.elim|none=>obtain⟨h0,h1⟩:=h;simp[Instr.sliceBounds,cS,ie,sb _ _ _ _ h0 h1])|some m=>cases vh with|none=>exact hhi.elim|some v=>obtain⟨k',rfl⟩:=hhi;obtain⟨h0,h1,h2⟩:=h;have e1:(0:Int)≤m:=Int.le_trans h0 h1;cases isSlice<;>simp[Instr.sliceBounds,cS,ie,sb _ _ _ _ e1 (show m≤(cap:Int)by omega),sb _ _ _ _ h0 (show l≤(m.toNat:Int)by omega)]
theorem vV {P:Program} {w:World} {isSlice:Bool} {len cap:Nat} {lo:Option Int} {m:Int} {k k':IntKind} {vl:Option Value} (PE:tR lo vl)(h:mc len lo (some m))(hc:len≤cap):(Instr.sliceBounds isSlice len cap vl (some (.int k m)) (some (.int k' m))).run P w= .ok (cS lo,m.toNat,m.toNat) w:=by
 (have sb: ∀(k:IntKind)(n:Int)(y:Nat)(code:BoundsCode),0≤n→n≤y→(Instr.sliceBound (.int k n) y code).run P w= .ok n.toNat w:=by intro k n y code h0 h1;simp only[Instr.sliceBound,asIntOf,Sem.run_bind,Sem.run_pure,Result.andThen_ok,Sem.run_ite];rw[if_pos ⟨h0,h1⟩])
 cases lo with|none=>(cases vl with|some v=>exact PE.elim|none=>obtain⟨h0,h1⟩:=h;cases isSlice<;>simp[Instr.sliceBounds,cS,sb _ _ _ _ h0 (show m≤(cap:Int)by omega),sb _ _ _ _ h0 (show m≤(m.toNat:Int)by omega)])|some l=>cases vl with|none=>exact PE.elim|some v=>obtain⟨k,rfl⟩:=PE;obtain⟨h0,h1,h2⟩:=h;have e1:(0:Int)≤m:=Int.le_trans h0 h1;cases isSlice<;>simp[Instr.sliceBounds,cS,sb _ _ _ _ e1 (show m≤(cap:Int)by omega),sb _ _ _ _ e1 (show m≤(m.toNat:Int)by omega),sb _ _ _ _ h0 (show l≤(m.toNat:Int)by omega)]
theorem ln {n:Nat} {lo hi:Option Int} (h:mc n lo hi):cS lo≤ie n hi∧ie n hi≤n:=by cases lo<;>cases hi<;>simp only[mc,cS,ie]at* <;>omega
theorem GP {T:Ty} {w:World} {M:Mem} {a:Option Addr} {cap:Nat} (h:cap≤9223372036854775807):aH (.sl T) ([]:List T.den) w M [.slice a 0 cap]:=⟨a,cap,rfl,Nat.zero_le _,h,.inl rfl⟩
section
variable {E:Env} {n:Nat} {w0:World} {S0:Cx} {s:St} {a:Act} {w:World} {ν:Nat→Value} {S:Nat→Prop} {F:dF} {o:Oper} {K:St→Prop} {Q:Exit→Act→World→Prop}
theorem CV(h:Full n w0 S0 s a w ν S) {x:Option Operand} {b:Option Int} (hc: ∀y,x=some y→mg y=true)(hb:bound s x=some b):tR b (x.map a.eval):=by
 cases x with|none=>simp only[bound,Option.some.injEq]at hb;subst hb;trivial|some y=>simp only[bound]at hb;split at hb;(·rename_i k m bQ;simp only[Option.some.injEq]at hb;subst hb;have hy:=h.ev (hc y rfl);rw[bQ]at hy;exact⟨k,(bf hy).1⟩);·cases hb
theorem GQ(xs:List UInt8)(l h:Nat):(⟨xs.toArray⟩:ByteArray).extract l h=⟨((xs.drop l).take (h-l)).toArray⟩:=by
 apply ByteArray.ext;rw[ByteArray.data_extract];apply Array.toList_inj.1;simp[Array.toList_extract]
theorem GR {w:World} {M:Mem} : ∀(U:Ty)(x:U.den)(l:List Nat)(cs:List Value),nN U x=some l→aH U x w M cs→cs=l.map fun f=>Value.func (.func f) #[] #[]|.aD,x,l,cs,h,hr=>(by simp only[nN,Option.some.injEq]at h;subst h;exact hr)|.pair A B,x,l,cs,h,hr=>(by cases A with|aD=>simp only[nN]at h;split at h;(·rename_i l' hl;injection h with h;subst h;obtain⟨va,vb,rfl,ha,hb⟩:=hr;have ha:va=[.func (.func x.1) #[] #[]]:=ha;rw[GR B x.2 l' vb hl hb,ha];rfl);(·cases h)|_=>simp[nN]at h)|.unit,x,l,cs,h,hr=>(by simp[nN]at h)|.int _,x,l,cs,h,hr=>(by simp[nN]at h)|.bool,x,l,cs,h,hr=>(by simp[nN]at h)|.str,x,l,cs,h,hr=>(by simp[nN]at h)|.sl _,x,l,cs,h,hr=>(by simp[nN]at h)|.own _,x,l,cs,h,hr=>(by simp[nN]at h)|.st _,x,l,cs,h,hr=>(by simp[nN]at h)|.bq _ _,x,l,cs,h,hr=>(by simp[nN]at h)|.ptr _,x,l,cs,h,hr=>(by simp[nN]at h)|.eY _ _,x,l,cs,h,hr=>(by simp[nN]at h)|.mp _ _,x,l,cs,h,hr=>by simp[nN]at h
theorem Qv(hE:aG E)(h:Full n w0 S0 s a w ν S)(ho:bJ n o=true) {t:Nat} {x:Operand} {lo hi mx:Option Operand} (aJ:o.op= .slice t x lo hi mx)(ab:br E (aj E F s o) (fun l=>K (s.fin o.dst l))):o.wp E.P a w (fun a' w'=> ∃s',K s'∧Rel n w0 S0 s' a' w') Q:=by
 simp only[aj,aJ]at ab;have hx:=h.ev (az ho (x:=x) (by simp[aJ,Op.operands]));split at ab;(·rename_i bl bh T kj hbh hT;have hrl:=CV h (fun y hy=>az ho (by simp[aJ,Op.operands,hy])) kj;have hrh:=CV h (fun y hy=>az ho (by simp[aJ,Op.operands,hy])) hbh;have hf:=hE.facts hT;cases mx with|none=>simp only[nQ]at ab;split at ab;(·split at ab;(·rename_i y bQ;rw[bQ]at hx;obtain⟨hv,hl⟩:=ep hx;obtain⟨iZ,ab⟩:=ab;obtain⟨d,hu,Gf⟩:=hf.rJ;(have hd:d= .string:=by cases d<;>first|rfl|cases Gf);subst hd;have hb:=kl (P:=E.P) (w:=w) (isSlice:=false) (cap:=y.length) hrl hrh iZ (Nat.le_refl _);(have de:(⟨y.toArray⟩:ByteArray).size=y.length:=by simp[ByteArray.size]);refine h.val ho (v:=.string ⟨(cut y bl bh).toArray⟩) ?_ (pR (by rw[Ew];simp;omega)) ab;simp only[execOp,aJ,hv,Instr.sliceAt,Sem.run_bind,run_underlying hu,Result.andThen_ok,Instr.slice,Option.map_none,Option.isSome_none,Bool.false_eq_true,if_false,Sem.run_pure,de,hb,GQ,Ew]);·exact ab.elim);(·rename_i T;obtain⟨e,hu,hee,pQ,oX,oY⟩:=hf.elem hE;have de:=pQ.sizeOf w;(have aU: ∀(aa:Option Addr)(len cap:Nat),a.eval x= .slice aa len cap→mc len bl bh→len≤cap→(execOp a.eval o).run E.P w= .ok (.value (.slice (if cap=cS bl then aa else aa.map (·.add (cS bl*T.cells))) (ie len bh-cS bl) (cap-cS bl))) w:=by intro aa len cap he iZ hlc;have hb:=kl (P:=E.P) (w:=w) (isSlice:=true) hrl hrh iZ hlc;simp only[execOp,aJ,he,Instr.sliceAt,Sem.run_bind,run_underlying hu,Result.andThen_ok,Instr.slice,Option.map_none,hb,de,Sem.run_pure]);split at ab;(·rename_i U xs bQ;split at ab;(·rename_i xs' lp;obtain⟨e',mY⟩:=Ty.bA lp;injection e' with e';subst e';simp only at mY;subst mY;rw[bQ]at hx;simp only[ag]at hx;obtain⟨rI,dG⟩:=hx;obtain⟨iZ,ab⟩:=ab;have GU:aH (.sl U) xs w ⟨S,aK w0 S0⟩ [a.eval x]:=dG;obtain⟨aa,cap,hv,hle,rH,dy⟩:=dG;injection hv with hv;obtain⟨bg,bu⟩:=ln iZ;refine h.val ho (aU aa _ cap hv iZ hle) ?_ ab;simp only[ag];refine⟨rI,?_⟩;rw[Ew];rw[hv]at GU;rcases dy with rfl|⟨g,ob,rfl,_⟩;(·simp only[List.length_nil]at bu bg;(have h0:ie 0 bh=0:=by omega);(have h1:cS bl=0:=by omega);simp only[List.length_nil,h0,h1,List.drop_nil,List.take_nil];exact GP (by omega));·exact yC (off:=cS bl) (len:=ie xs.length bh-cS bl) GU (by omega) (fun dh=>⟨g,ob,rfl,by rw[if_neg (by omega)];simp[eP]⟩));·exact ab.elim);(·rename_i id bQ;split at ab;(·rename_i U xs te hl;obtain⟨hl,_⟩:=cE hl;split at ab;(·obtain⟨iZ,ab⟩:=ab;rw[bQ]at hx;simp only[ag]at hx;obtain⟨hd,cJ,_⟩:=hx;obtain⟨jJ,tF,u,tr,Qo,dy⟩:=h.W.cA _ _ hl;simp only[List.cons.injEq,and_true]at tr;simp only[Full.c]at cJ;obtain⟨bg,bu⟩:=ln iZ;rcases dy with⟨hn,rfl⟩|⟨g,ob,cap,cur,e',yl,hle,rH,_⟩;(·rw[hn]at tr;rw[tr]at cJ;simp only[List.length_nil]at bg bu;refine h.val ho (aU none 0 0 cJ iZ (Nat.le_refl _)) ?_ ab;simp only[ag];exact⟨hd,none,0,0,_,tr,by simp;omega,Nat.le_refl _,rfl,fun h=>by omega⟩);·rw[yl]at tr;rw[tr]at cJ;refine h.val ho (aU _ _ cap cJ iZ hle) ?_ ab;simp only[ag];exact⟨hd,_,xs.length,cap,_,tr,by omega,hle,rfl,fun dh=>⟨g,ob,rfl,by rw[if_neg (by omega)];simp[eP]⟩⟩);·exact ab.elim);·exact ab.elim);(·rename_i id sz off len bQ;split at ab;(·rename_i aB7;have aB7:=Nat.eq_of_beq_eq_true aB7;obtain⟨iZ,ab⟩:=ab;rw[bQ]at hx;simp only[ag]at hx;obtain⟨hd,aa,m',cap,b,cJ,hn,rH,hv,hb⟩:=hx;obtain⟨bg,bu⟩:=ln iZ;refine h.val ho (aU b len (cap-off) hv iZ (by omega)) ?_ ab;simp only[ag];refine⟨hd,aa,m',cap,_,cJ,by omega,rH,by rw[Nat.sub_sub],fun dh=>?_⟩;obtain⟨g,ob,h1,h2⟩:=hb (by omega);exact⟨g,ob,h1,by rw[if_neg (by omega),h2];simp[eP,aB7,Nat.add_mul,Nat.add_assoc]⟩);·exact ab.elim);(·rename_i bQ;obtain⟨iZ,ab⟩:=ab;rw[bQ]at hx;simp only[ag]at hx;obtain⟨bg,bu⟩:=ln (n:=0) iZ;(have h0:ie 0 bh=0:=by omega);(have h1:cS bl=0:=by omega);refine h.val ho (aU none 0 0 hx iZ (Nat.le_refl _)) ?_ ab;simp only[ag,h0,h1];rfl);·exact ab.elim);(·rename_i R;split at ab;(·rename_i U x0 bQ;rw[bQ]at hx;simp only[ag]at hx;obtain⟨_,g,ob,cs,nc,hg,eZ,Ch,dG⟩:=hx;split at ab;(·rename_i l hl;split at ab;(·rename_i CW;simp only[Bool.and_eq_true,Bool.not_eq_true']at CW;obtain⟨⟨⟨BW,vD⟩,Wb⟩,hd3⟩:=CW;have Jp:=Nat.eq_of_beq_eq_true BW;have hc2:=Ty.dm vD;have hc3:=Nat.le_of_ble_eq_true hd3;clear BW vD hd3;obtain⟨d,hu,Gf⟩:=hf.rJ;have vE:=hf.str R d rfl hu;cases d with|array m e=>simp only[cU]at Gf;split at Gf;(·rename_i V hV;simp only[Bool.and_eq_true]at Gf;obtain⟨⟨⟨hR,hVv⟩,_⟩,h2⟩:=Gf;have hR:=Ty.dm hR;have h2:=Nat.le_of_ble_eq_true h2;subst hR;rw[qU V hVv m (by omega)]at Jp;rw[(mZ V hVv m 0 (by omega)).2]at hc2;subst hc2;have de:=(hE.facts hV).sizeOf w;have hb:=kl (P:=E.P) (w:=w) (isSlice:=false) (len:=m) (cap:=m) hrl hrh trivial (Nat.le_refl _);have Gd:=GR U x0 l cs hl dG;refine h.val ho (v:=.slice (some ⟨g,ob,none⟩) m m) ?_ ?_ ab;(·simp only[execOp,aJ,nc,Nat.add_zero,Instr.sliceAt,Instr.sureAddr,Sem.run_bind,run_underlying hu,Result.andThen_ok,Option.map_none,hb,de,Sem.run_pure,cS,ie,Nat.sub_zero,Nat.zero_mul];rw[if_neg (by omega)];rfl);·simp only[ag];refine⟨rfl,some ⟨g,ob,none⟩,m,by rw[Jp],by omega,by omega,.inr ⟨g,ob,rfl,hg,fun i y hy=>⟨[.func (.func y) #[] #[]],rfl,fun j v hj=>?_,rfl⟩⟩⟩;(have h0:j=0:=by cases j with|zero=>rfl|succ j=>simp at hj);subst h0;simp only[List.getElem?_cons_zero,Option.some.injEq]at hj;have:=Ch i v (by rw[Gd,List.getElem?_map,hy];simpa using hj);simpa[Ty.cells]using this);(·cases Gf)|struct fs=>have vE:E.str t=true:=vE;rw[vE]at Wb;cases Wb|_=>simp[cU]at Gf);·exact ab.elim);·exact ab.elim);·exact ab.elim);(·exact ab.elim)|some m=>split at ab;(·rename_i hmx;cases hmx);·rename_i mm hmx;injection hmx with hmx;subst hmx;split at ab;(·rename_i km mv bp6;have hm:=h.ev (az ho (x:=m) (by simp[aJ,Op.operands]));rw[bp6]at hm;obtain⟨hvm,_⟩:=bf hm;simp only[qP]at ab;split at ab;(·rename_i T;obtain⟨e,hu,hee,pQ,oX,oY⟩:=hf.elem hE;have de:=pQ.sizeOf w;(have key: ∀(xs:List T.den)(hh:Int),bh=some hh→mc xs.length bl bh→mv=hh→aH (.sl T) xs w ⟨S,aK w0 S0⟩ [a.eval x]→(∃g' n',(execOp a.eval o).run E.P w= .ok (.value (.slice g' n' n')) w∧aH (.sl T) (cut xs bl bh) w ⟨S,aK w0 S0⟩ [.slice g' n' n']):=by intro xs hh bp7 iZ hmh dG;subst bp7 hmh;have GU:=dG;obtain⟨aa,cap,hv,hle,rH,dy⟩:=dG;injection hv with hv;(obtain⟨vh,kh,hvh⟩: ∃vh kh,hi=some vh∧a.eval vh= .int kh mv:=by cases hi with|none=>exact hrh.elim|some vh=>obtain⟨k,hk⟩:=hrh;exact⟨vh,k,rfl,hk⟩);obtain⟨rfl,hvh⟩:=hvh;have hb:=vV (P:=E.P) (w:=w) (isSlice:=true) (k:=kh) (k':=km) hrl iZ hle;obtain⟨bg,bu⟩:=ln iZ;simp only[ie]at bg bu;refine⟨if mv.toNat=cS bl then aa else aa.map (·.add (cS bl*T.cells)),mv.toNat-cS bl,?_,?_⟩;(·simp only[execOp,aJ,hv,Instr.sliceAt,Sem.run_bind,run_underlying hu,Result.andThen_ok,Instr.slice,Option.map_some,hvh,hvm,hb,de,Sem.run_pure]);·rw[Ew];simp only[ie];rw[hv]at GU;rcases dy with rfl|⟨g,ob,rfl,Qr⟩;(·simp only[List.length_nil]at bu bg;(have h0:mv.toNat=0:=by omega);(have h1:cS bl=0:=by omega);simp only[h0,h1,List.drop_nil,List.take_nil,Nat.sub_self];exact GP (by omega));·have h1:=yC (b:=some ⟨g,ob+cS bl*T.cells,none⟩) (off:=cS bl) (len:=mv.toNat-cS bl) GU (by omega) (fun dh=>⟨g,ob,rfl,rfl⟩);obtain⟨a',pL,e1,e2,e3,e4⟩:=h1;simp only[List.cons.injEq,Value.slice.injEq,and_true]at e1;obtain⟨e1,e1',bz9⟩:=e1;have hlen:((xs.drop (cS bl)).take (mv.toNat-cS bl)).length=mv.toNat-cS bl:=e1'.symm;refine⟨_,mv.toNat-cS bl,by rw[hlen],by rw[hlen];exact Nat.le_refl _,by omega,?_⟩;rcases e4 with e4|⟨g',o',e4,e5⟩;(·exact .inl e4);·by_cases hz:mv.toNat=cS bl;(·left;apply List.eq_nil_of_length_eq_zero;omega);·right;rw[←e1]at e4;refine⟨g',o',?_,e5⟩;rw[if_neg hz];simpa[eP]using e4);split at ab;(·rename_i U xs bQ;split at ab;(·rename_i xs' hh lp;obtain⟨e',mY⟩:=Ty.bA lp;injection e' with e';subst e';simp only at mY;subst mY;rw[bQ]at hx;simp only[ag]at hx;obtain⟨rI,dG⟩:=hx;obtain⟨⟨iZ,hmh⟩,ab⟩:=ab;obtain⟨g',n',JM,oQ⟩:=key xs hh rfl iZ hmh dG;refine h.val ho JM ?_ ab;simp only[ag];exact⟨rI,⟨g',n',rfl⟩,oQ⟩);·exact ab.elim);(·rename_i U xs bQ;split at ab;(·rename_i xs' hh lp;obtain⟨e',mY⟩:=Ty.bA lp;injection e' with e';subst e';simp only at mY;subst mY;rw[bQ]at hx;simp only[ag]at hx;obtain⟨rI,_,dG⟩:=hx;obtain⟨⟨iZ,hmh⟩,ab⟩:=ab;obtain⟨g',n',JM,oQ⟩:=key xs hh rfl iZ hmh dG;refine h.val ho JM ?_ ab;simp only[ag];exact⟨rI,⟨g',n',rfl⟩,oQ⟩);·exact ab.elim);·exact ab.elim);·exact ab.elim);·exact ab.elim)
 ·exact ab.elim
theorem GV(h:Full n w0 S0 s a w ν S)(ho:bJ n o=true) {f:Nat} {first dL:Array Operand} (aJ:o.op= .makeFunc (.func f) first dL)(ab:br E (aj E F s o) (fun l=>K (s.fin o.dst l))):o.wp E.P a w (fun a' w'=> ∃s',K s'∧Rel n w0 S0 s' a' w') Q:=by
 simp only[aj,aJ]at ab;split at ab;(·rename_i JN;(have hf:first= #[]:=by apply Array.toList_inj.1;simpa using JN);subst hf;have hc:=ik h dL.toList (fun x hx=>az ho (by simp only[aJ,Op.operands];simpa using hx));refine h.val ho (v:=.func (.func f) #[] (dL.map a.eval)) ?_ ?_ ab;(·simp only[execOp,aJ,Instr.makeFunc,Sem.run_bind,Sem.run_pure,Result.andThen_ok];rw[show(#[]:Array Operand).map a.eval= #[]from by simp]);·simp only[ag];exact⟨dL.toList.map a.eval,by congr 1;exact Array.toList_inj.1 (by simp),hc⟩)
 ·rename_i y r JN;split at ab;(·rename_i xr;(have hf:dL= #[]:=by apply Array.toList_inj.1;simpa using xr);subst hf;have hc:=ik h first.toList (fun x hx=>az ho (by simp only[aJ,Op.operands];simpa using hx));rw[←JN]at ab;refine h.val ho (v:=.func (.func f) (first.map a.eval) #[]) ?_ ?_ ab;(·simp only[execOp,aJ,Instr.makeFunc,Sem.run_bind,Sem.run_pure,Result.andThen_ok];rw[show(#[]:Array Operand).map a.eval= #[]from by simp]);·simp only[ag];exact⟨first.toList.map a.eval,by congr 1;exact Array.toList_inj.1 (by simp),hc⟩);·exact ab.elim
theorem CX {c:Ctx} : ∀(vs:List PV)(us:List Value)(i:Nat)(p:PV),ai c vs us→CN vs i=some p→ ∃v,us[i]?=some v∧ag c p v|[],us,i,p,h,hv=>(by simp[CN]at hv)|q::vs,us,0,p,h,hv=>(by simp only[ai]at h;obtain⟨u,r,rfl,h1,h2⟩:=h;simp[CN]at hv;subst hv;exact⟨u,rfl,h1⟩)|q::vs,us,i+1,p,h,hv=>by simp only[ai]at h;obtain⟨u,r,rfl,h1,h2⟩:=h;simpa using CX vs r i p h2 hv
theorem kL {T:Ty} {x:T.den} {w:World} {M:Mem} {v:Value} (h:dt T x w M v):oV T x w M v:=by cases T<;>first|exact h|exact h.elim
theorem Ex {c:Ctx} : ∀(T:Ty)(x:T.den)(us:List Value)(i:Nat)(p:PV),aR T=0→B7 T x c.w c.M us→kX T x i=some p→ ∃v,us[i]?=some v∧ag c p v:=by
 intro T;induction T with|bq a b iG gP=>intro x us i p ho h hv;simp[aR]at ho;obtain⟨u,r,rfl,h1,h2⟩:=h;(cases i with|zero=>simp only[kX,Option.some.injEq]at hv;subst hv;refine⟨u,rfl,?_⟩;simp only[ag];exact⟨ho.1,kL h1⟩|succ i=>simpa using gP _ _ _ _ ho.2 h2 hv)|_=>intro x us i p ho h hv;obtain⟨u,rfl,h1⟩:=h;cases i with|zero=>simp only[kX,Option.some.injEq]at hv;subst hv;refine⟨u,rfl,?_⟩;simp only[ag];exact⟨ho,kL h1⟩|succ i=>simp[kX]at hv
theorem JO(h:Full n w0 S0 s a w ν S)(ho:bJ n o=true) {x:Operand} {i:Nat} (aJ:o.op= .extract x i)(ab:br E (aj E F s o) (fun l=>K (s.fin o.dst l))):o.wp E.P a w (fun a' w'=> ∃s',K s'∧Rel n w0 S0 s' a' w') Q:=by
 simp only[aj,aJ]at ab;have hx:=h.ev (az ho (x:=x) (by simp[aJ,Op.operands]));split at ab;(·rename_i p hp;(have key: ∃us:List Value,a.eval x= .tuple us.toArray∧ ∃v,us[i]?=some v∧ag h.c p v:=by cases bQ:s.ev x with|bq vs=>rw[bQ]at hx hp;simp only[ag]at hx;obtain⟨us,hv,hr⟩:=hx;exact⟨us,hv,CX vs us i p hr hp⟩|iv T y=>rw[bQ]at hx hp;(cases T with|bq ta tb=>simp only[ag]at hx;obtain⟨iW,us,hv,hr⟩:=hx;exact⟨us,hv,Ex _ y us i p iW hr hp⟩|_=>simp only[tA]at hp;cases hp)|_=>rw[bQ]at hp;simp only[tA]at hp;cases hp);obtain⟨us,hv,v,VI,hr⟩:=key;refine h.val ho (v:=v) ?_ hr ab;simp[execOp,aJ,hv,Instr.extract,VI])
 ·exact ab.elim
end
end Go.Proofs.YtgpkijnphchkpaaGreat
