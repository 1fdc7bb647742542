/-
  The operations one by one, continued: parts of slices and strings, new arrays, closures. Nothing here is trusted; no condition.
-/
import Derived.Test.YtmgmonbmdkkhbaaGreatDoorA1
import Derived.Deep.AppendSrc
import Derived.Laws.MakeOwn
import Derived.Laws.StructEq
set_option linter.unusedSimpArgs false
set_option linter.unusedVariables false
namespace Go.Proofs.YtmgmonbmdkkhbaaGreatDoor
variable {c8:Prop} [hZ c8]
open Go.RowKit
structure Ctx.zu(ks:List Nat)(c c':Ctx):Prop where
 heap: ∀b,c.M.S b→c'.w.heap[b]?=c.w.heap[b]?
 S: ∀b,c.M.S b→c'.M.S b
 D: ∀i,c.D i→al i ks=false→c'.D i
 ν: ∀i,c.D i→al i ks=false→c'.ν i=c.ν i
def zw(c:Ctx)(ks:List Nat):Prop:= ∀i,al i ks=true→c.D i→ ∃a n m,c.ν i= .slice a n m
mutual theorem qE {ks:List Nat} {c c':Ctx} (hc:c.zu ks c')(hb:zw c ks): ∀ {p:PV} {v:Value},ag c p v→ag c' (p.kill ks) v|.iv T x,v,h=>(by simp only[PV.kill,ag]at h⊢;exact⟨h.1,eK hc.heap hc.S h.1 h.2⟩)|.ref i off,v,h=>(by simp only[PV.kill,ag]at h⊢;obtain⟨hd,g,h1,h2⟩:=h;(have cz:al i ks=false:=by cases hm:al i ks with|false=>rfl|true=>obtain⟨a,n,m,e⟩:=hb i hm hd;rw[h1]at e;cases e);exact⟨hc.D _ hd cz,g,by rw[hc.ν _ hd cz];exact h1,h2⟩)|.lmap i,v,h=>(by simp only[PV.kill,ag]at h⊢;obtain⟨hd,h1,r,h2⟩:=h;(have cz:al i ks=false:=by cases hm:al i ks with|false=>rfl|true=>obtain⟨a,n,m,e⟩:=hb i hm hd;rw[h1,e]at h2;cases h2);exact⟨hc.D _ hd cz,by rw[hc.ν _ hd cz];exact h1,r,h2⟩)|.di T x off,v,h=>(by simp only[PV.kill,ag]at h⊢;obtain⟨ho,g,o,cs,h1,h2,h3,h4,h5⟩:=h;exact⟨ho,g,o,cs,h1,hc.S _ h2,h3,h4.mono (hc.heap _ h2),au hc.heap hc.S _ _ _ ho h5⟩)|.aI i,v,h=>(by simp only[PV.kill];cases hi:al i ks;(·simp only[cond_false,ag]at h⊢;exact⟨hc.D _ h.1 hi,by rw[hc.ν _ h.1 hi];exact h.2.1,h.2.2⟩);·simp only[cond_true,ag])|.lz i sz off len,v,h=>(by simp only[PV.kill];cases hi:al i ks;(·simp only[cond_false,ag]at h⊢;obtain⟨hd,a,n,cap,b,h1,h2⟩:=h;exact⟨hc.D _ hd hi,a,n,cap,b,by rw[hc.ν _ hd hi];exact h1,h2⟩);·simp only[cond_true,ag])|.eX i sz j off,v,h=>(by simp only[PV.kill];cases hi:al i ks;(·simp only[cond_false,ag]at h⊢;obtain⟨hd,g,o,n,cap,h1,h2⟩:=h;exact⟨hc.D _ hd hi,g,o,n,cap,by rw[hc.ν _ hd hi];exact h1,h2⟩);·simp only[cond_true,ag])|.agg cs,v,h=>(by simp only[PV.kill,ag]at h⊢;obtain⟨vs,h1,h0,h2⟩:=h;exact⟨vs,h1,h0,dP hc hb h2⟩)|.aP cs,v,h=>(by simp only[PV.kill,ag]at h⊢;obtain⟨vs,h1,h2⟩:=h;exact⟨vs,h1,dP hc hb h2⟩)|.bE,v,h=>(by simp only[PV.kill,ag]at h⊢;exact h)|.bT,v,h=>(by simp only[PV.kill,ag]at h⊢;exact h)|.gl i base T n j,v,h=>(by simp only[PV.kill,ag]at h⊢;obtain⟨hd,h0,hn,g,h1,h2⟩:=h;(have cz:al i ks=false:=by cases hm:al i ks with|false=>rfl|true=>obtain⟨a,n,m,e⟩:=hb i hm hd;rw[h1]at e;cases e);exact⟨hc.D _ hd cz,h0,hn,g,by rw[hc.ν _ hd cz];exact h1,h2⟩)|.rW f cs,v,h=>(by simp only[PV.kill,ag]at h⊢;obtain⟨vs,h1,h2⟩:=h;exact⟨vs,h1,dP hc hb h2⟩)|.qz f cs,v,h=>(by simp only[PV.kill,ag]at h⊢;obtain⟨vs,h1,h2⟩:=h;exact⟨vs,h1,dP hc hb h2⟩)|.vx i,v,h=>(by simp only[PV.kill,ag]at h⊢;obtain⟨hd,g,h1,h2⟩:=h;(have cz:al i ks=false:=by cases hm:al i ks with|false=>rfl|true=>obtain⟨a,n,m,e⟩:=hb i hm hd;rw[h1]at e;cases e);exact⟨hc.D _ hd cz,g,by rw[hc.ν _ hd cz];exact h1,h2⟩)|.clip T xs,v,h=>(by simp only[PV.kill,ag]at h⊢;exact⟨h.1,h.2.1,au hc.heap hc.S (.sl T) _ _ h.1 h.2.2⟩)|.fn f cs,v,h=>(by simp only[PV.kill,ag]at h⊢;obtain⟨vs,h1,h2⟩:=h;exact⟨vs,h1,dP hc hb h2⟩)|.any,v,h=>by simp only[PV.kill,ag]theorem dP {ks:List Nat} {c c':Ctx} (hc:c.zu ks c')(hb:zw c ks): ∀ {ps:List PV} {vs:List Value},aj c ps vs→aj c' (PV.cB ks ps) vs|[],vs,h=>(by simp only[PV.cB,aj]at h⊢;exact h)|p::ps,vs,h=>by simp only[PV.cB,aj]at h⊢;obtain⟨v,r,h1,h2,h3⟩:=h;exact⟨v,r,h1,qE hc hb h2,dP hc hb h3⟩end
theorem fk(f:PV→PV)(t:Nat): ∀l:List (Nat×PV),look t (gC f l)=(look t l).map f|[]=>rfl|p::r=>by simp only[gC,look];cases Nat.beq t p.1;(·simpa using fk f t r);·rfl
theorem kG(f:List PV→List PV)(t:Nat): ∀l:List (Nat×aL),look t (oM f l)=(look t l).map (aL.map f)|[]=>rfl|p::r=>by simp only[oM,look];cases Nat.beq t p.1;(·simpa using kG f t r);·rfl
theorem dK(ks:List Nat)(t:Nat): ∀l:List (Nat×aL),look t (cy ks l)=bif al t ks then none else look t l|[]=>(by simp[cy,look])|p::r=>by simp only[cy];cases hm:al p.1 ks with|true=>simp only[cond_true,look,dK ks t r];(cases hb:Nat.beq t p.1 with|true=>rw[Nat.eq_of_beq_eq_true hb,hm];rfl|false=>rfl)|false=>simp only[cond_false,look,dK ks t r];cases hb:Nat.beq t p.1 with|true=>rw[Nat.eq_of_beq_eq_true hb,hm];rfl|false=>rfl
theorem tj(s:St)(ks:List Nat)(t:Nat):(s.kill ks).get t=(s.get t).kill ks:=by simp only[St.get,St.kill,fk];cases look t s.sl<;>simp[PV.kill]
theorem ir(s:St)(ks:List Nat)(i:Nat):look i (s.kill ks).bl=(look i s.bl).map (aL.map (PV.cB ks)):=by simp only[St.kill,kG]
theorem al1(s:St)(ks:List Nat):(s.kill ks).D=s.D:=by
 funext i;refine propext ⟨fun⟨c,hc⟩=>?_,fun⟨c,hc⟩=>?_⟩;(·rw[ir]at hc;cases hl:look i s.bl with|none=>rw[hl]at hc;cases hc|some b=>exact⟨b,hl⟩);·exact⟨c.map (PV.cB ks),by rw[ir,hc];rfl⟩
theorem wo {ks:List Nat} {c c':Ctx} (hc:c.zu ks c')(LC:zw c ks)(hB:c'.M.O=c.M.O) {id:Nat} {b:aL} (cj:c'.ν id=c.ν id)(hg: ∀g,aG (c.ν id)=some g→c'.w.heap[g]?=c.w.heap[g]?∧(¬c.M.S g→ ¬c'.M.S g))(h:iH c id b):iH c' id (b.map (PV.cB ks)):=by
 cases b with|box cs te=>obtain⟨gn,g,vs,e,h1,h2,h3,h4,h0,h5⟩:=h;obtain⟨e1,e2⟩:=hg g (by rw[h1];rfl);exact⟨gn.oQ cj fun g dM=>(hg g dM).1,g,vs,e,by rw[cj];exact h1,by rw[hB];exact h2,e2 h3,by rw[e1];exact h4,h0,dP hc LC h5⟩|arr T xs te=>obtain⟨gn,ho,v,hv,h1,h2⟩:=h;injection hv with hv;refine⟨gn.oQ cj fun g dM=>(hg g dM).1,ho,v,by rw[cj,hv],h1,?_⟩;rcases h2 with h2|⟨g,o,cap,cur,e,rfl,h3,h4,h5,h6,h7,h8,h9⟩;(·exact .inl h2);(·obtain⟨e1,e2⟩:=hg g (by rw[hv];rfl);refine .inr ⟨g,o,cap,cur,e,rfl,h3,h4,e2 h5,by rw[hB];exact h6,by rw[e1];exact h7,h8,fun i y hy=>?_⟩;obtain⟨cs,hl,Ff,hr⟩:=h9 i y hy;exact⟨cs,hl,Ff.mono e1,au hc.heap hc.S _ _ _ ho hr⟩)|mp K V es=>obtain⟨cP,oU,h0,r,aT,clock,h1,h2,h3,h4,h5,h6,h7⟩:=h;obtain⟨e1,e2⟩:=hg r (by rw[h1];rfl);refine⟨cP,oU,h0,r,aT,clock,by rw[cj];exact h1,by rw[hB];exact h2,e2 h3,by rw[e1];exact h4,h5,h6,fun i y hy=>?_⟩;obtain⟨e,ca,cb,a1,a2,a3,a4,a5⟩:=h7 i y hy;exact⟨e,ca,cb,a1,a2,au hc.heap hc.S _ _ _ cP a3,a4,au hc.heap hc.S _ _ _ oU a5⟩|it src since seen=>obtain⟨g,m,h1,h2,h3,h4,h6⟩:=h;obtain⟨e1,e2⟩:=hg g (by rw[h1];rfl);exact⟨g,m,by rw[cj];exact h1,by rw[hB];exact h2,e2 h3,by rw[e1];exact h4,dP hc LC h6⟩|sT x pos=>obtain⟨g,h1,h2,h3,h4,h5⟩:=h;obtain⟨e1,e2⟩:=hg g (by rw[h1];rfl);exact⟨g,by rw[cj];exact h1,by rw[hB];exact h2,e2 h3,by rw[e1];exact h4,h5⟩|gh o cs=>obtain⟨g,vs,h1,h2,h3,h4,h6⟩:=h;obtain⟨e1,e2⟩:=hg g (by rw[h1];rfl);exact⟨g,vs,by rw[cj];exact h1,by rw[hB];exact h2,e2 h3,by rw[e1];exact h4,dP hc LC h6⟩
theorem lT {i k:Nat} :al i [k]=Nat.beq i k:=by simp only[al];cases Nat.beq i k<;>rfl
theorem zx {i k:Nat} (h:i≠k):al i [k]=false:=by rw[lT];cases hb:Nat.beq i k with|false=>rfl|true=>exact absurd (Nat.eq_of_beq_eq_true hb) h
theorem zy {i k:Nat} (h:al i [k]=true):i=k:=by rw[lT]at h;exact Nat.eq_of_beq_eq_true h
section
variable {n:Nat} {w0:World} {S0:Cx} {s:St} {a:Act} {w:World} {ν:Nat→Value} {S:Nat→Prop}
theorem Full.app(h:Full n w0 S0 s a w ν S) {d id j:Nat} {T:Ty} {xs:List T.den} {te:Option Nat} {b':aL} {v':Value} {w':World} (hd:d<n)(hl:look id s.bl=some (.arr T xs te))(hj:j<P0)(Fi:j=id∨look j s.bl=none)(hw:dz w w' (aG (ν id)))(hv: ∃a n cap,v'= .slice a n cap)(fM: ∀g,aG v'=some g→aG (ν id)=some g∨w.heap.size≤g)(hb: ∀D:Nat→Prop,iH ⟨fun i=>if i=j then v' else ν i,D,w',⟨S,aB w0 S0⟩⟩ j b'):Full n w0 S0 ⟨(d,.aI j)::(s.kill [id]).sl,(j,b')::cy [id] (s.kill [id]).bl⟩ (a.put (some d) v') w' (fun i=>if i=j then v' else ν i) S:=by
 (have lB: ∃a n m,ν id= .slice a n m:=by obtain⟨_,ho,v,hv,_,h2⟩:=h.W.bM id _ hl;injection hv with hv;simp only at hv;rw[hv];rcases h2 with⟨h2,_⟩|⟨g',o,cap,cur,e,h2,_⟩<;>subst h2<;>exact⟨_,_,_,rfl⟩)
 (have LC:zw ⟨ν,s.D,w,⟨S,aB w0 S0⟩⟩ [id]:=by intro i hi _;rw[zy hi];exact lB);(have zz: ∀i c,i≠j→look i (⟨(d,.aI j)::(s.kill [id]).sl,(j,b')::cy [id] (s.kill [id]).bl⟩:St).bl=some c→i≠id∧ ∃c0,look i s.bl=some c0∧c=c0.map (PV.cB [id]):=by intro i c dG hc;rw[aM _ _ dG,dK]at hc;cases hm:al i [id]with|true=>rw[hm]at hc;cases hc|false=>rw[hm]at hc;simp only[cond_false]at hc;rw[ir]at hc;refine⟨fun e=>?_,?_⟩;(·subst e;rw[lT,Nat.beq_refl]at hm;cases hm);·cases La:look i s.bl with|none=>rw[La]at hc;cases hc|some c0=>rw[La]at hc;injection hc with hc;exact⟨c0,rfl,hc.symm⟩)
 (have hD: ∀i,s.D i→i≠id→(⟨(d,.aI j)::(s.kill [id]).sl,(j,b')::cy [id] (s.kill [id]).bl⟩:St).D i:=by rintro i⟨c,hc⟩cz;by_cases dG:i=j;(·subst dG;exact⟨b',aV _ _ _⟩);·exact⟨c.map (PV.cB [id]),by rw[aM _ _ dG,dK,zx cz,cond_false,ir,hc];rfl⟩)
 (have cz: ∀i,s.D i→i≠id→i≠j:=by rintro i⟨c,hc⟩hi e;subst e;rcases Fi with Fi|Fi;(·exact hi Fi);·rw[Fi]at hc;cases hc);have hS: ∀g,S g→w'.heap[g]?=w.heap[g]?:=fun g hg=>hw.block g (h.W.lt g hg) (fun e=>(h.fX hl e.symm).2.1 hg)
 (have hle:Ctx.zu [id] ⟨ν,s.D,w,⟨S,aB w0 S0⟩⟩ ⟨fun i=>if i=j then v' else ν i,(⟨(d,.aI j)::(s.kill [id]).sl,(j,b')::cy [id] (s.kill [id]).bl⟩:St).D,w',⟨S,aB w0 S0⟩⟩:=by refine⟨hS,fun _ h=>h,fun i hi hm=>hD i hi ?_,fun i hi hm=>?_⟩;(·rintro rfl;rw[lT,Nat.beq_refl]at hm;cases hm);·(have:i≠id:=by rintro rfl;rw[lT,Nat.beq_refl]at hm;cases hm);simp[cz i hi this])
 refine⟨h.below.grown hw (fun g hg=>(h.fX hl hg).1),h.zt,h.fresh,⟨fun g hg=>Nat.lt_of_lt_of_le (h.W.lt g hg) hw.size,fun g hg=>h.W.size g (Nat.le_trans hw.size hg),fun i c hc=>?_,fun i k c e zJ hi hk g BU LD=>?_⟩,?_,?_,?_,h.nV,fun i hi wm=>?_,h.BT⟩
 (·by_cases hi:i=j;(·subst hi;rw[aV]at hc;injection hc with hc;subst hc;exact hb _);·obtain⟨hid,c0,nK,rfl⟩:=zz i c hi hc;refine wo hle LC rfl (by simp[hi]) (fun g hg=>?_) (h.W.bM i c0 nK);exact⟨hw.block g (h.fX nK hg).2.2 (fun e=>h.W.ne i id c0 _ hid nK hl g hg e.symm),fun h=>h⟩)
 (·by_cases dG:i=j;(·subst dG;have lU:k≠i:=fun e=>zJ e.symm;simp only[if_true]at BU;simp only[lU,if_false]at LD;obtain⟨al2,e',BV,_⟩:=zz k e lU hk;rcases fM g BU with hf|hf;(·exact h.W.ne id k _ _ (fun e=>al2 e.symm) hl BV g hf LD);·have:=(h.fX BV LD).2.2;omega);·simp only[dG,if_false]at BU;obtain⟨al3,c',lj,_⟩:=zz i c dG hi;by_cases hkj:k=j;(·subst hkj;simp only[if_true]at LD;rcases fM g LD with hf|hf;(·exact h.W.ne i id _ _ al3 lj hl g BU hf);·have:=(h.fX lj BU).2.2;omega);·simp only[hkj,if_false]at LD;obtain⟨_,e',BV,_⟩:=zz k e hkj hk;exact h.W.ne i k _ _ zJ lj BV g BU LD)
 (·intro t;(have hlf:ag ⟨fun i=>if i=j then v' else ν i,(⟨(d,.aI j)::(s.kill [id]).sl,(j,b')::cy [id] (s.kill [id]).bl⟩:St).D,w',⟨S,aB w0 S0⟩⟩ (.aI j) v':=by simp only[ag];exact⟨⟨b',aV _ _ _⟩,by simp,hv⟩);refine qD (s:=s.kill [id]) (fun t=>?_) h.size hd (fun t=>?_) hlf t;(·rw[tj];exact qE hle LC (h.eV t));·by_cases ht:t=d;(·subst ht;simp[St.get,aV]);·simp[St.get,aM _ _ ht,ht])
 (·rw[oZ];exact h.size);(·rw[kF];exact h.defers);·(have dG:i≠j:=by omega);simp only[dG,if_false];obtain⟨c,hc⟩:=wm;obtain⟨_,c0,nK,_⟩:=zz i c dG hc;exact h.kept i hi ⟨c0,nK⟩
end
/-! ### append -/
theorem mT {T:Ty} {w:World} {M:Mem} {g o:Nat} : ∀(xs:List T.den),(∀i y,xs[i]?=some y→ ∃cs,cs.length=T.cells∧dh w g (o+i*T.cells) cs∧aA T y w M cs)→ ∃vs:List Value,vs.length=xs.length*T.cells∧dh w g o vs∧(∀u,u∈vs→u.oneCell'=true)∧ ∀i y,xs[i]?=some y→aA T y w M ((vs.drop (i*T.cells)).take T.cells):=by
 intro xs;induction xs generalizing o with|nil=>intro _;exact⟨[],by simp,fun j v h=>by simp at h,by simp,fun i y h=>by simp at h⟩|cons x xs ih=>intro h;obtain⟨cs,hl,hc,hr⟩:=h 0 x rfl;obtain⟨vs,vy,hvc,hv1,LF⟩:=ih (o:=o+T.cells) (fun i y hy=>by obtain⟨zK,La,lj,lV⟩:=h (i+1) y (by simpa using hy);refine⟨zK,La,?_,lV⟩;(have e:o+(i+1)*T.cells=o+T.cells+i*T.cells:=by rw[Nat.add_mul];omega);rwa[e]at lj);refine⟨cs++vs,by simp[hl,vy,Nat.add_mul];omega,fun j v hj=>?_,fun u hu=>?_,fun i y hy=>?_⟩;(·rcases Nat.lt_or_ge j T.cells with LG|LG;(·rw[List.getElem?_append_left (by omega)]at hj;have:=hc j v hj;simpa using this);·rw[List.getElem?_append_right (by omega)]at hj;have:=hvc _ v hj;rw[←this];congr 2;omega);(·rcases List.mem_append.1 hu with hu|hu;(·exact oR _ _ _ _ _ hr u hu);·exact hv1 u hu);·cases i with|zero=>simp at hy;subst hy;rw[Nat.zero_mul,List.drop_zero,←hl,List.take_left];exact hr|succ i=>have:=LF i y (by simpa using hy);(have e:(i+1)*T.cells=cs.length+i*T.cells:=by rw[Nat.add_mul,hl];omega);rw[e,List.drop_append];simpa[List.drop_of_length_le]using this
theorem sj {T:Ty} {w:World} {M:Mem} {g o:Nat} {xs:List T.den} {vs:List Value} (hl:vs.length=xs.length*T.cells)(hc:dh w g o vs)(hr: ∀i y,xs[i]?=some y→aA T y w M ((vs.drop (i*T.cells)).take T.cells)): ∀i y,xs[i]?=some y→ ∃cs,cs.length=T.cells∧dh w g (o+i*T.cells) cs∧aA T y w M cs:=by
 intro i y hy;(have hi:i<xs.length:=by rcases Nat.lt_or_ge i xs.length with h|h;(·exact h);·rw[List.getElem?_eq_none h]at hy;cases hy);refine⟨_,bn _ _ _ _ _ (hr i y hy),fun j v hj=>?_,hr i y hy⟩
 (have SN:j<T.cells:=by rcases Nat.lt_or_ge j T.cells with h|h;(·exact h);·rw[List.getElem?_eq_none (by rw[bn _ _ _ _ _ (hr i y hy)];exact h)]at hj;cases hj);rw[List.getElem?_take,if_pos SN,List.getElem?_drop]at hj
 have:=hc _ v hj;rw[←this,Nat.add_assoc]
theorem nW {T : Ty} {w w' : World} {M : Mem} (hw : ∀ b, M.S b → w'.heap[b]? = w.heap[b]?) (ho : aJ T = 0) {xs ys : List T.den} {us vs : List Value} (hu : us.length = xs.length * T.cells) (hr : ∀ i y, xs[i]? = some y → aA T y w M ((us.drop (i * T.cells)).take T.cells))
    (hs : ∀ i y, ys[i]? = some y → aA T y w M ((vs.drop (i * T.cells)).take T.cells)) : ∀ i y, (xs ++ ys)[i]? = some y → aA T y w' M (((us ++ vs).drop (i * T.cells)).take T.cells) := by
  intro i y hy
  refine au hw (fun _ h => h) _ _ _ ho ?_
  rcases Nat.lt_or_ge i xs.length with hi | hi
  · rw [List.getElem?_append_left hi] at hy
    have h1 := hr i y hy
    have hle : i * T.cells + T.cells ≤ us.length := by
      rw [hu]
      calc i * T.cells + T.cells = (i + 1) * T.cells := by rw [Nat.add_mul]; omega
        _ ≤ xs.length * T.cells := Nat.mul_le_mul_right _ hi
    rw [List.drop_append_of_le_length (by omega), List.take_append_of_le_length (by rw [List.length_drop]; omega)]
    exact h1
  · rw [List.getElem?_append_right hi] at hy
    have h1 := hs _ y hy
    have e : i * T.cells = us.length + (i - xs.length) * T.cells := by
      rw [hu, ← Nat.add_mul]
      congr 1
      omega
    rw [e, List.drop_append]
    simpa [List.drop_of_length_le] using h1
end Go.Proofs.YtmgmonbmdkkhbaaGreatDoor
namespace Go.Proofs.YtmgmonbmdkkhbaaGreatDoor
variable {c8:Prop} [hZ c8]
open Go.RowKit
theorem dj(g o n:Nat):(⟨g,o,none⟩:Addr).add n=⟨g,o+n,none⟩:=by unfold Addr.add;split<;>simp_all
theorem b5.elem {E:Env} (hE:aE E) {t:Nat} {T:Ty} (h:b5 E t (.sl T)): ∃e,E.P.underlying t=some (.slice e)∧E.ty e=some T∧b5 E e T∧T.val=true∧0<T.cells:=by
 obtain⟨d,hd,hs⟩:=h.nJ;(cases d<;>simp only[cu]at hs<;>first|cases hs|skip);rename_i e;simp only[Bool.and_eq_true,lS]at hs;obtain⟨⟨h1,h2⟩,h3⟩:=hs;split at h1;(·rename_i U hU;rw[Ty.ct h1]at hU;exact⟨e,hd,hU,hE.facts hU,h2,Nat.le_of_ble_eq_true h3⟩)
 ·cases h1
structure Source(w:World)(size:Nat)(a:Option Addr)(m:Nat)(news:List Value):Prop where
 len:news.length=m*size
 cells:m=0∨ ∃ad,a=some ad∧ ∀j u,news[j]?=some u→w.cell? (ad.add j)=some u
 one: ∀u,u∈news→u.oneCell'=true
theorem Source.first {P:Program} {w:World} {size:Nat} {a:Option Addr} {m:Nat} {news:List Value} (h:Source w size a m news)(c:Nat):(Builtin.firstCells size m (.slice a m c)).run P w= .ok news.toArray w:=by
 rcases h.cells with rfl|⟨ad,rfl,hc⟩;(·have hn:news=[]:=List.eq_nil_of_length_eq_zero (by simpa using h.len);subst hn;cases a with|none=>exact run_firstCells_none w _ _ _ _|some ad=>exact run_firstCells_some w size 0 ad _ c [] (by simp) (by simp))
 ·exact run_firstCells_some w size m ad _ c news h.len hc
theorem eB(w:World)(g:Nat)(cs:Array Value):dz w (w.setRow g cs) (some g):=⟨rfl,rfl,rfl,by simp,fun k _ hk=>setRow_other w g k _ (fun e=>hk (by rw[e])),fun _=>Nat.le_refl _⟩
theorem Source.src {P:Program} {w:World} {size:Nat} {a:Option Addr} {m:Nat} {news:List Value} (h:Source w size a m news) {tx e':TypeId} (hk:P.underlying tx=some (.slice e'))(c:Nat):Src P size tx (.slice a m c) m news w:=⟨.inl ⟨e',hk⟩,fun _=>rfl,h.first c,by have h':Source w.drew size a m news:=⟨h.len,h.cells,h.one⟩;exact h'.first c,h.len,h.one⟩
theorem qF {P:Program} {w:World} {t tx ty e:TypeId} {i:TypeInfo} (ht:P.underlying t=some (.slice e))(hi:P.info? e=some i) {g o n cap:Nat} {cur:Array Value} {e':TypeId} (hg:w.heap[g]?=some (.cells cur e' (0,0))) {x:Value} {m:Nat} {news:List Value} (hs:Src P i.size tx x m news w)(zL:n+m≤cap)(tk:o+n*i.size+news.length≤cur.size):(Builtin.append_ #[t,tx] ty #[.slice (some ⟨g,o,none⟩) n cap,x]).run P w= .ok (.slice (some ⟨g,o,none⟩) (n+m) cap) (w.setRow g (cur.toList.take (o+n*i.size)++news++cur.toList.drop (o+n*i.size+news.length)).toArray):=by
 have fW:=run_storeCells_at (P:=P) g (o+n*i.size) e' news 0 cur w hg (by simpa using tk) hs.one;simp only[Nat.add_zero]at fW;rcases hs.kind with⟨e2,hk⟩|hk<;>simp[Builtin.append_,run_underlying ht,run_underlying hk,sizeOf,typeInfo,hi,hs.len,zL,hs.cells,dj,fW]
theorem DX(z:Array Value)(n:Nat):(Builtin.zeroCells z n).size=n*z.size:=by simp[Builtin.zeroCells]
theorem qG {E:Env} {T:Ty} {w:World} {M:Mem} {zs:List T.den} {e:TypeId} {z:Value} (BW:z.cells.size=T.cells)(ho:aJ T=0)(cN: ∀b,M.S b→b<w.heap.size)(hB: ∀g,w.heap.size≤g→M.O g)(hlen:zs.length≤274877906944)(cs:List Value)(ep:cs.length=zs.length*T.cells)(hcr: ∀i y,zs[i]?=some y→aA T y w M ((cs.drop (i*T.cells)).take T.cells))(xH:Nat):aA (.own T) zs (w.drew.alloc (.cells (cs.toArray++Builtin.zeroCells z.cells (grownCap w zs.length xH e-zs.length)) e)) M [.slice (some ⟨w.heap.size,0,none⟩) zs.length (grownCap w zs.length xH e)]:=by
 have vG:=grownCap_ge w zs.length xH e;have Lb:=grownCap_le_maxLen w zs.length xH e (by simp only[maxLen];omega);simp only[maxLen]at Lb;have hh:(w.drew.alloc (.cells (cs.toArray++Builtin.zeroCells z.cells (grownCap w zs.length xH e-zs.length)) e)).heap[w.heap.size]?=some (.cells (cs.toArray++Builtin.zeroCells z.cells (grownCap w zs.length xH e-zs.length)) e):=heap_alloc_new w.drew _
 refine⟨_,rfl,by omega,.inr ⟨w.heap.size,0,grownCap w zs.length xH e,_,e,rfl,vG,by omega,fun h=>absurd (cN _ h) (by omega),hB _ (Nat.le_refl _),hh,?_,?_⟩⟩;(·rw[Array.size_append,DX,BW,List.size_toArray,ep,Nat.zero_add,←Nat.add_mul];exact Nat.mul_le_mul_right _ (by omega))
 ·refine sj (vs:=cs) ep (fun j u hj=>?_) (fun k y hy=>?_);(·rw[cell_of_row _ _ _ _ _ _ hh,Nat.zero_add,Array.getElem?_append_left (by simpa using(List.getElem?_eq_some_iff.1 hj).1)];simpa using hj);·exact au (w:=w) (fun b hb=>Below.heap_alloc w.drew _ b (cN b hb)) (fun _ h=>h) _ _ _ ho (hcr k y hy)
theorem gO {E:Env} (hE:aE E) {t tx ty:Nat} {T:Ty} (ht:E.ty t=some (.sl T)) {w:World} {M:Mem} {a:Option Addr} {m:Nat} {xs ys:List T.den} (ho:aJ T=0)(lB:aA (.sl T) xs w M [.slice a m m])(cN: ∀b,M.S b→b<w.heap.size)(hB: ∀g,w.heap.size≤g→M.O g) {x:Value} {news:List Value} (hs:Src E.P T.cells tx x ys.length news w)(hr: ∀i y,ys[i]?=some y→aA T y w M ((news.drop (i*T.cells)).take T.cells))(cz:ys≠ [])(hlen:xs.length+ys.length≤274877906944): ∃v' w',(Builtin.append_ #[t,tx] ty #[.slice a m m,x]).run E.P w= .ok v' w'∧aA (.own T) (xs++ys) w' M [v']∧dz w w' none∧(∃a n cap,v'= .slice a n cap)∧(∀g,aG v'=some g→w.heap.size≤g):=by
 obtain⟨e,hu,he,lW,jg,qH⟩:=(hE.facts ht).elem hE;obtain⟨i,hi,cM,RC,_,z,hz,BW⟩:=lW.info;rw[←cM]at hs;(have LH: ∀k:Nat,k≤274877906944→k*i.bytes≤140737488355328:=fun k hk=>by calc k*i.bytes≤274877906944*512:=Nat.mul_le_mul hk RC
 _=140737488355328:=by decide);have hm:ys.length≠0:=fun h=>cz (List.eq_nil_of_length_eq_zero h);obtain⟨a',lQ,hv,h1,h2,h3⟩:=lB;(obtain⟨rfl,rfl,rfl⟩:a'=a∧m=xs.length∧lQ=m:=by injection hv with hv;injection hv with h1 h2 h3;exact⟨h1.symm,h2,h3.symm⟩)
 (obtain⟨us,zM,X7,Lc⟩: ∃us:List Value,us.length=xs.length*T.cells∧(∀i y,xs[i]?=some y→aA T y w M ((us.drop (i*T.cells)).take T.cells))∧(Builtin.firstCells i.size xs.length (.slice a' xs.length xs.length)).run E.P w.drew= .ok us.toArray w.drew:=by rcases h3 with rfl|⟨g,o,rfl,_,fA⟩;(·refine⟨[],by simp,fun i y hy=>by simp at hy,?_⟩;cases a' with|none=>exact run_firstCells_none _ _ _ _ _|some ad=>exact run_firstCells_some _ _ 0 ad _ _ [] (by simp) (by simp));·obtain⟨us,zM,huc,LI,X7⟩:=mT xs fA;exact⟨us,zM,X7,run_firstCells_some w.drew i.size xs.length ⟨g,o,none⟩ _ _ us (by rw[zM,cM]) (fun j u hj=>by rw[dj];exact huc j u hj)⟩)
 have aX:=run_append_grow_src (P:=E.P) w t tx ty e i z hu hi hz a' xs.length xs.length us Lc x ys.length news hs (by omega) (by omega) (growslice_fits (by omega) (LH _ hlen))
 have hg:=qG (E:=E) (e:=e) (zs:=xs++ys) BW ho cN hB (by rw[List.length_append];exact hlen) (us++news) (by rw[List.length_append,List.length_append,zM,hs.newsLen,cM,Nat.add_mul]) (nW (fun _ _=>rfl) ho zM X7 hr) xs.length
 rw[List.length_append]at hg;exact⟨_,_,aX,hg,⟨rfl,rfl,rfl,by simp,fun k hk _=>Below.heap_alloc w.drew _ k hk,fun _=>Nat.le_succ _⟩,⟨_,_,_,rfl⟩,fun g hg=>by injection hg with hg;simp at hg;omega⟩
theorem lX {E:Env} (hE:aE E) {t tx ty:Nat} {T:Ty} (ht:E.ty t=some (.sl T)) {w:World} {M:Mem} {v:Value} {xs ys:List T.den} (ho:aJ T=0)(jQ:aA (.own T) xs w M [v])(cN: ∀b,M.S b→b<w.heap.size)(hB: ∀g,w.heap.size≤g→M.O g) {x:Value} {news:List Value} (hs:Src E.P T.cells tx x ys.length news w)(hr: ∀i y,ys[i]?=some y→aA T y w M ((news.drop (i*T.cells)).take T.cells))(hlen:xs.length+ys.length≤274877906944): ∃v' w',(Builtin.append_ #[t,tx] ty #[v,x]).run E.P w= .ok v' w'∧aA (.own T) (xs++ys) w' M [v']∧dz w w' (aG v)∧(∃a n cap,v'= .slice a n cap)∧(∀g,aG v'=some g→aG v=some g∨w.heap.size≤g)∧(∀e0,E.P.underlying t=some (.slice e0)→eZ (some e0) w v→eZ (some e0) w' v'):=by
 obtain⟨e,hu,he,lW,jg,qH⟩:=(hE.facts ht).elem hE;obtain⟨i,hi,cM,RC,_,z,hz,BW⟩:=lW.info;rw[←cM]at hs;(have LH: ∀k:Nat,k≤274877906944→k*i.bytes≤140737488355328:=fun k hk=>by calc k*i.bytes≤274877906944*512:=Nat.mul_le_mul hk RC
 _=140737488355328:=by decide);obtain⟨u,hv,h1,h2⟩:=jQ;injection hv with hv;subst hv;(have grown: ∀(cs:List Value),cs.length=(xs.length+ys.length)*T.cells→(∀i y,(xs++ys)[i]?=some y→aA T y w M ((cs.drop (i*T.cells)).take T.cells))→ ∀(xH:Nat),aA (.own T) (xs++ys) (w.drew.alloc (.cells (cs.toArray++Builtin.zeroCells z.cells (grownCap w (xs.length+ys.length) xH e-(xs.length+ys.length))) e)) M [.slice (some ⟨w.heap.size,0,none⟩) (xs.length+ys.length) (grownCap w (xs.length+ys.length) xH e)]:=by intro cs ep hcr xH;have:=qG (E:=E) (e:=e) (zs:=xs++ys) BW ho cN hB (by rw[List.length_append];exact hlen) cs (by rw[ep,List.length_append]) hcr xH;rwa[List.length_append]at this)
 rcases h2 with⟨rfl,rfl⟩|⟨g,o,cap,cur,e',rfl,h3,h4,h5,h6,h7,h8,h9⟩;(·by_cases hm:ys.length=0;(·have hn:news=[]:=List.eq_nil_of_length_eq_zero (by rw[hs.newsLen,hm,Nat.zero_mul]);have hy:ys=[]:=List.eq_nil_of_length_eq_zero hm;subst hy;refine⟨.slice none 0 0,w,?_,⟨_,rfl,by simp,.inl ⟨rfl,by simp⟩⟩,⟨rfl,rfl,rfl,Nat.le_refl _,fun _ _ _=>rfl,fun _=>Nat.le_refl _⟩,⟨_,_,_,rfl⟩,fun g hg=>(by cases hg),fun e0 _ _ t' _ g hg=>(by cases hg)⟩;have Fj:=hs.len;have nK:=hs.cells;simp only[List.length_nil]at Fj nK;rcases hs.kind with⟨e2,hk⟩|hk<;>simp[Builtin.append_,run_underlying hu,run_underlying hk,sizeOf,typeInfo,hi,Fj,nK]);·skip;·have hb:=LH ys.length (by simpa using hlen);have aX:=run_append_grow_src (P:=E.P) w t tx ty e i z hu hi hz none 0 0 [] (run_firstCells_none _ _ _ _ _) x ys.length news hs (by omega) (by simp at hlen;omega) (growslice_fits (by omega) (by simpa using hb));simp only[Nat.zero_add,List.nil_append]at aX;have hg:=grown news (by rw[hs.newsLen,cM];simp) (by simpa using hr) 0;simp only[List.length_nil,Nat.zero_add]at hg;exact⟨_,_,aX,hg,⟨rfl,rfl,rfl,by simp,fun k hk _=>Below.heap_alloc w.drew _ k hk,fun _=>Nat.le_succ _⟩,⟨_,_,_,rfl⟩,fun g hg=>.inr (by injection hg with hg;simp at hg;omega),fun e0 LJ _ t' LK g hg=>by obtain rfl:=Option.some.inj LK;(obtain rfl:e=e0:=by rw[hu]at LJ;injection LJ with LJ;injection LJ);injection hg with hg;subst hg;exact⟨rfl,_,_,heap_alloc_new w.drew _⟩⟩)
 ·obtain⟨us,zM,huc,LI,X7⟩:=mT xs h9;by_cases zL:xs.length+ys.length≤cap;(·(have tk:o+xs.length*i.size+news.length≤cur.size:=by rw[hs.newsLen,Nat.add_assoc,←Nat.add_mul,cM];exact Nat.le_trans (Nat.add_le_add_left (Nat.mul_le_mul_right _ zL) _) h8);have aX:=qF (P:=E.P) (ty:=ty) hu hi h7 hs zL tk;refine⟨_,_,aX,?_,?_,⟨_,_,_,rfl⟩,fun g hg=>.inl hg,fun e0 _ gn=>(by exact gn.Hg rfl h7 (setRow_heap w g cur _ e' _ h7))⟩;(·have hh:=setRow_heap w g cur (cur.toList.take (o+xs.length*i.size)++news++cur.toList.drop (o+xs.length*i.size+news.length)).toArray e' _ h7;have hSg: ∀b,M.S b→(w.setRow g (cur.toList.take (o+xs.length*i.size)++news++cur.toList.drop (o+xs.length*i.size+news.length)).toArray).heap[b]?=w.heap[b]?:=fun b hb=>setRow_other w g b _ (fun e=>h5 (e▸hb));refine⟨_,rfl,by rw[List.length_append];omega,.inr ⟨g,o,cap,_,e',by rw[List.length_append],by rw[List.length_append];exact zL,h4,h5,h6,hh,?_,?_⟩⟩;(·simp only[List.size_toArray,List.length_append,List.length_take,List.length_drop,Array.length_toList];omega);·refine sj (vs:=us++news) (by rw[List.length_append,List.length_append,zM,hs.newsLen,cM,Nat.add_mul]) (fun j u hj=>?_) (nW hSg ho zM X7 hr);rw[cell_of_row _ _ _ _ _ _ hh];simp only[List.getElem?_toArray];rcases Nat.lt_or_ge j us.length with SO|SO;(·rw[List.getElem?_append_left SO]at hj;have dJ:=huc j u hj;rw[cell_of_row _ _ _ _ _ _ h7]at dJ;(have Fk:o+j<o+xs.length*i.size:=by rw[cM,←zM];omega);rw[List.append_assoc,List.getElem?_append_left (by simp only[List.length_take,Array.length_toList];omega),List.getElem?_take,if_pos Fk];simpa using dJ);·rw[List.getElem?_append_right SO]at hj;have LG:j-us.length<news.length:=(List.getElem?_eq_some_iff.1 hj).1;(have vH:(cur.toList.take (o+xs.length*i.size)).length=o+xs.length*i.size:=by simp only[List.length_take,Array.length_toList];omega);rw[List.append_assoc,List.getElem?_append_right (by rw[vH,cM,←zM];omega),vH,List.getElem?_append_left (by rw[cM,←zM];omega)];rw[←hj];congr 1;rw[cM,←zM];omega);·exact eB w g _);·(have hm:ys.length≠0:=by omega);skip;·have aX:=run_append_grow_src (P:=E.P) w t tx ty e i z hu hi hz (some ⟨g,o,none⟩) xs.length cap us (run_firstCells_some w.drew i.size xs.length ⟨g,o,none⟩ xs.length cap us (by rw[zM,cM]) (fun j u hj=>by rw[dj];exact huc j u hj)) x ys.length news hs (by omega) (by omega) (growslice_fits (by omega) (LH _ hlen));have hg:=grown (us++news) (by rw[List.length_append,zM,hs.newsLen,cM,Nat.add_mul]) (nW (fun _ _=>rfl) ho zM X7 hr) cap;exact⟨_,_,aX,hg,⟨rfl,rfl,rfl,by simp,fun k hk _=>Below.heap_alloc w.drew _ k hk,fun _=>Nat.le_succ _⟩,⟨_,_,_,rfl⟩,fun g hg=>.inr (by injection hg with hg;simp at hg;omega),fun e0 LJ _ t' LK g hg=>by obtain rfl:=Option.some.inj LK;(obtain rfl:e=e0:=by rw[hu]at LJ;injection LJ with LJ;injection LJ);injection hg with hg;subst hg;exact⟨rfl,_,_,heap_alloc_new w.drew _⟩⟩
end Go.Proofs.YtmgmonbmdkkhbaaGreatDoor
namespace Go.Proofs.YtmgmonbmdkkhbaaGreatDoor
variable {c8:Prop} [hZ c8]
open Go.RowKit
theorem cf {P:Program} {o:Oper} {a:Act} {w w':World} {v:Value} {K:Act→World→Prop} {Q:Exit→Act→World→Prop} (h:(execOp a.eval o).run P w= .ok (.value v) w')(hk:K (a.put o.dst v) w'):o.wp P a w K Q:=by
 unfold Oper.wp;rw[h];exact hk
theorem iM {P:Program} {o:Oper} {a:Act} {w w':World} {K:Act→World→Prop} {Q:Exit→Act→World→Prop} (h:(execOp a.eval o).run P w= .ok .skip w')(hk:K (a.put o.dst undef) w'):o.wp P a w K Q:=by
 unfold Oper.wp;rw[h];exact hk
theorem jn {P:Program} {o:Oper} {a:Act} {w w':World} {f:FuncId} {args:Array Value} {K:Act→World→Prop} {Q:Exit→Act→World→Prop} (h:(execOp a.eval o).run P w= .ok (.enter f args) w')(hk:Calls P f args w' fun e DP=> ∃v,e= .returned v∧K (a.put o.dst v) DP):o.wp P a w K Q:=by
 unfold Oper.wp;rw[h];refine hk.mono ?_;rintro e DP⟨v,rfl,hv⟩;exact hv
section
variable {E:Env} {n:Nat} {w0:World} {S0:Cx} {s:St} {a:Act} {w:World} {ν:Nat→Value} {S:Nat→Prop} {F:cG} {o:Oper} {K:St→Prop} {Q:Exit→Act→World→Prop}
theorem bg(ho:bK n o=true): ∀d,o.dst=some d→d<n:=by intro d hd;simp only[bK,hd,Bool.and_eq_true]at ho;have:=ho.2;simp only[Nat.blt_eq]at this;exact this
theorem aC(ho:bK n o=true) {x:Operand} (hx:x∈o.op.operands):kE x=true:=by simp only[bK,Bool.and_eq_true,List.all_eq_true]at ho;exact ho.1 x (Array.mem_toList_iff.2 hx)
theorem Full.val(h:Full n w0 S0 s a w ν S)(ho:bK n o=true) {p:PV} {v:Value} (hr:(execOp a.eval o).run E.P w= .ok (.value v) w)(hp:ag h.c p v)(hK:K (s.fin o.dst (.val p))):o.wp E.P a w (fun a' w'=> ∃s',K s'∧Rel n w0 S0 s' a' w') Q:=cf hr ⟨_,hK,(h.put (bg ho) hp).rel⟩
theorem br {c:Ctx} {k:IntKind} {x:Int} {v:Value} (h:ag c (.iv (.int k) x) v):v= .int k x∧k.min≤x∧x≤k.max:=by
 simp only[ag]at h;obtain⟨_,hv,h⟩:=h;injection hv with hv;exact⟨hv,h⟩
theorem bZ {c:Ctx} {k:IntKind} {x:Int} (h:k.min≤x∧x≤k.max):ag c (.iv (.int k) x) (.int k x):=by simp only[ag];exact⟨rfl,rfl,h⟩
theorem gx {c:Ctx} {x:Bool} {v:Value} (h:ag c (.iv .bool x) v):v= .bool x:=by simp only[ag]at h;obtain⟨_,hv⟩:=h;injection hv
theorem bz {c:Ctx} {x:Bool} :ag c (.iv .bool x) (.bool x):=by simp only[ag];exact⟨rfl,rfl⟩
theorem dk {c:Ctx} {x:List UInt8} {v:Value} (h:ag c (.iv .str x) v):v= .string ⟨x.toArray⟩∧x.length≤9223372036854775807:=by
 simp only[ag]at h;obtain⟨_,hv,h⟩:=h;injection hv with hv;exact⟨hv,h⟩
theorem lY {c:Ctx} {x:List UInt8} (h:x.length≤9223372036854775807):ag c (.iv .str x) (.string ⟨x.toArray⟩):=by simp only[ag];exact⟨rfl,rfl,h⟩
theorem LL(h:Full n w0 S0 s a w ν S)(ho:bK n o=true) {x:Operand} (aK:o.op= .move x)(ab:aR E (ai E F s o) (fun l=>K (s.fin o.dst l))):o.wp E.P a w (fun a' w'=> ∃s',K s'∧Rel n w0 S0 s' a' w') Q:=by
 simp only[ai,aK,aR]at ab;refine h.val ho ?_ (h.ev (aC ho (by simp[aK,Op.operands]))) ab;simp only[execOp,aK,Sem.run_pure]
theorem Fl(h:Full n w0 S0 s a w ν S)(ho:bK n o=true) {x:Operand} (aK:o.op= .assign x)(ab:aR E (ai E F s o) (fun l=>K (s.fin o.dst l))):o.wp E.P a w (fun a' w'=> ∃s',K s'∧Rel n w0 S0 s' a' w') Q:=by
 simp only[ai,aK,aR]at ab;refine h.val ho ?_ (h.ev (aC ho (by simp[aK,Op.operands]))) ab;simp only[execOp,aK,Sem.run_pure]
theorem zN(h:Full n w0 S0 s a w ν S)(ho:bK n o=true) {x:Operand} (aK:o.op= .nilCheck x)(ab:aR E (ai E F s o) (fun l=>K (s.fin o.dst l))):o.wp E.P a w (fun a' w'=> ∃s',K s'∧Rel n w0 S0 s' a' w') Q:=by
 simp only[ai,aK]at ab;have hx:=h.ev (aC ho (x:=x) (by simp[aK,Op.operands]));(have fin: ∀ {p:PV} {ad:Addr},ag h.c p (a.eval x)→a.eval x= .pointer (some ad)→K (s.fin o.dst (.val p))→o.wp E.P a w (fun a' w'=> ∃s',K s'∧Rel n w0 S0 s' a' w') Q:=by intro p ad hr he hk;rw[he]at hr;refine h.val ho ?_ hr hk;simp only[execOp,aK,he,Sem.run_pure])
 split at ab;(·rename_i id off bx;rw[bx]at hx;have jH:=hx;simp only[ag]at jH;obtain⟨_,g,_,hv⟩:=jH;exact fin hx hv ab);(·rename_i U y off bx;rw[bx]at hx;have jH:=hx;simp only[ag]at jH;obtain⟨_,g,ob,cs,hv,_⟩:=jH;exact fin hx hv ab)
 (·rename_i id sz i off bx;rw[bx]at hx;have jH:=hx;simp only[ag]at jH;obtain⟨_,g,ob,n,cap,_,_,hv⟩:=jH;exact fin hx hv ab);(·rename_i U y bx;rw[bx]at hx;have jH:=hx;simp only[ag,jD,cw,aA]at jH;obtain⟨eu,g,ob,cs,hv,hS,hl,hc,hr⟩:=jH;simp only[List.cons.injEq,and_true]at hv;refine fin (p:=.di U y 0) (ad:=⟨g,ob,none⟩) ?_ hv ab;simp only[ag];exact⟨eu,g,ob,cs,hv,hS,hl,hc,hr⟩)
 ·exact ab.elim
theorem Cf: ∀ {T:Ty},gX T=true→aJ T=0:=by
 intro T;induction T with|own t=>intro h;cases h|pair a b fK fi=>intro h;simp only[gX,Bool.and_eq_true]at h;simp only[aJ,fK h.1,fi h.2]|aP a b fK fi=>intro h;simp only[gX,Bool.and_eq_true]at h;simp only[aJ,fK h.1,fi h.2]|mp a b fK fi=>intro h;simp only[gX,Bool.and_eq_true]at h;simp only[aJ,fK h.1,fi h.2]|st t ih=>exact ih|sl t ih=>exact ih|ptr t ih=>exact ih|fh f t ih=>exact ih|_=>intro _;rfl
theorem LM(h:Full n w0 S0 s a w ν S)(ho:bK n o=true) {x y z:Operand} (aK:o.op= .pick x y z)(ab:aR E (ai E F s o) (fun l=>K (s.fin o.dst l))):o.wp E.P a w (fun a' w'=> ∃s',K s'∧Rel n w0 S0 s' a' w') Q:=by
 simp only[ai,aK]at ab;have hx:=h.ev (aC ho (x:=x) (by simp[aK,Op.operands]));have hy:=h.ev (aC ho (x:=y) (by simp[aK,Op.operands]));have hz:=h.ev (aC ho (x:=z) (by simp[aK,Op.operands]))
 split at ab;(·rename_i b hb;rw[hb]at hx;have hv:=gx hx;cases b;(·refine h.val ho ?_ hz ab;simp[execOp,aK,hv,asBool]);·refine h.val ho ?_ hy ab;simp[execOp,aK,hv,asBool])
 ·exact ab.elim
theorem LN(w:World)(row:Option Nat):dz w w.drew row:=⟨rfl,rfl,rfl,Nat.le_refl _,fun _ _ _=>rfl,fun _=>Nat.le_succ _⟩
theorem qI(hE:aE E)(h:Full n w0 S0 s a w ν S)(ho:bK n o=true) {t:Nat} {x:Operand} (aK:o.op= .makeInterface t x)(ab:aR E (ai E F s o) (fun l=>K (s.fin o.dst l))):o.wp E.P a w (fun a' w'=> ∃s',K s'∧Rel n w0 S0 s' a' w') Q:=by
 simp only[ai,aK]at ab;have hx:=h.ev (aC ho (x:=x) (by simp[aK,Op.operands]));split at ab;(·rename_i hc;have hc:=hE.K7 t hc;unfold LB at hc;refine h.val ho (p:=.qz t [s.ev x]) (v:=.iface t (a.eval x)) ?_ (by simp only[ag,aj];exact⟨_,rfl,_,[],rfl,hx,rfl⟩) ab;cases hu:E.P.underlying t with|none=>rw[hu]at hc;cases hc|some d=>rw[hu]at hc;(have hi:(Instr.makeInterface t (a.eval x)).run E.P w= .ok (.iface t (a.eval x)) w:=by unfold Instr.makeInterface;simp only[Sem.run_bind,run_underlying hu,Result.andThen_ok];cases d<;>first|(cases hc;done)|rfl);simp only[execOp,aK,Sem.run_bind,hi,Result.andThen_ok,Sem.run_pure])
 ·exact ab.elim
theorem vI(hE:aE E)(h:Full n w0 S0 s a w ν S)(ho:bK n o=true) {x:Operand} {xt u:Nat} {ok:Bool} (aK:o.op= .typeAssert x xt u ok)(ab:aR E (ai E F s o) (fun l=>K (s.fin o.dst l))):o.wp E.P a w (fun a' w'=> ∃s',K s'∧Rel n w0 S0 s' a' w') Q:=by
 simp only[ai,aK]at ab;have hx:=h.ev (aC ho (x:=x) (by simp[aK,Op.operands]));split at ab;(·rename_i hc;have hc:=hE.K7 u hc;unfold LB at hc;unfold xA at ab;split at ab;(·rename_i t q bx;rw[bx]at hx;simp only[ag,aj]at hx;obtain⟨v,hv,v',r,LF,hq,hr⟩:=hx;subst hr;injection LF with LF;subst LF;(have hi:Nat.beq t u=true→(Instr.typeAssert (a.eval x) xt u ok).run E.P w= .ok (if ok then .tuple #[v,.bool true]else v) w:=fun hb=>by have e:=Nat.eq_of_beq_eq_true hb;subst e;rw[hv];cases hu:E.P.underlying t with|none=>rw[hu]at hc;cases hc|some d=>rw[hu]at hc;unfold Instr.typeAssert;simp only[Sem.run_bind,run_underlying hu,Result.andThen_ok];cases d<;>first|(cases hc;done)|simp);split at ab;(·rename_i hb;refine h.val (v:=.tuple #[v,.bool true]) ho ?_ ?_ ab;(·have:=hi hb;simp only[execOp,aK,Sem.run_bind,this,Result.andThen_ok,Sem.run_pure,if_true];try rfl);·simp only[ag,aj];exact⟨[v,.bool true],rfl,v,_,rfl,hq,.bool true,[],rfl,bz,rfl⟩);(·rename_i hb;refine h.val (v:=v) ho ?_ hq ab;have:=hi hb;simp only[execOp,aK,Sem.run_bind,this,Result.andThen_ok,Sem.run_pure,Bool.false_eq_true,if_false];try rfl);·exact ab.elim);·exact ab.elim)
 ·exact ab.elim
theorem Full.Hl(h:Full n w0 S0 s a w ν S) {d:Nat} (hd:d<n)(hl:look d s.bl=none) {cs:List PV} {vs:List Value} {e:TypeId} {te:Option Nat} (X8: ∀t,te=some t→e=t)(h1: ∀u,u∈vs→u.oneCell'=true)(hp:aj h.c cs vs):Rel n w0 S0 ⟨(d,.ref d 0)::s.sl,(d,.box cs te)::s.bl⟩ (a.put (some d) (.pointer (some ⟨w.heap.size,0,none⟩))) (w.alloc (.cells vs.toArray e)):=by
 have hD:(⟨(d,.ref d 0)::s.sl,(d,.box cs te)::s.bl⟩:St).D d:=⟨_,aV _ _ _⟩;(have cz: ∀i,s.D i→i≠d∧(⟨(d,.ref d 0)::s.sl,(d,.box cs te)::s.bl⟩:St).D i:=by rintro i⟨c,hc⟩;(have cz:i≠d:=by rintro rfl;rw[hl]at hc;cases hc);exact⟨cz,c,by rw[aM _ _ cz];exact hc⟩)
 have hle:Ctx.Le h.c ⟨fun i=>if i=d then .pointer (some ⟨w.heap.size,0,none⟩)else ν i,(⟨(d,.ref d 0)::s.sl,(d,.box cs te)::s.bl⟩:St).D,w.alloc (.cells vs.toArray e),⟨S,aB w0 S0⟩⟩:=⟨fun g hg=>Below.heap_alloc w _ g (h.W.lt g hg),fun _ h=>h,fun i hi=>(cz i hi).2,fun i hi=>by simp[(cz i hi).1,Full.c]⟩
 refine(h.new (b:=.box cs te) (p:=.ref d 0) (v:=.pointer (some ⟨w.heap.size,0,none⟩)) (val:=.pointer (some ⟨w.heap.size,0,none⟩)) hd hl (dN w _ none) (fun g hg=>h.beyond (by injection hg with hg;simp at hg;omega)) ?_ ?_).rel
 (·exact⟨fun t ht g hg=>by simp only[if_true,aG,Option.some.injEq]at hg;subst hg;rw[←X8 t ht];exact⟨by simp[Hf],_,_,_root_.Go.heap_alloc_new w _⟩,w.heap.size,vs.toArray,e,by simp,h.W.size _ (Nat.le_refl _),fun hS=>absurd (h.W.lt _ hS) (by simp),_root_.Go.heap_alloc_new w _,by simpa using h1,by simpa using bB hle hp⟩)
 ·simp only[ag];exact⟨hD,w.heap.size,by simp,rfl⟩
theorem lZ {c:Ctx} : ∀(T:Ty)(cs:List PV),zeroCells T=some cs→ ∃vs,cI T=some vs∧aj c cs vs∧ ∀u,u∈vs→u.oneCell'=true:=by
 intro T;induction T with|unit=>intro cs h;simp only[zeroCells,Option.some.injEq]at h;subst h;exact⟨[],rfl,by simp only[aj],by simp⟩|int k=>intro cs h;simp only[zeroCells,Option.some.injEq]at h;subst h;refine⟨[.int k 0],rfl,?_,by simp[Value.oneCell']⟩;simp only[aj];exact⟨_,[],rfl,bZ (by cases k<;>decide),rfl⟩|bool=>intro cs h;simp only[zeroCells,Option.some.injEq]at h;subst h;exact⟨[.bool false],rfl,by simp only[aj];exact⟨_,[],rfl,bz,rfl⟩,by simp[Value.oneCell']⟩|str=>intro cs h;simp only[zeroCells,Option.some.injEq]at h;subst h;exact⟨[.string ⟨#[]⟩],rfl,by simp only[aj];exact⟨_,[],rfl,lY (by simp),rfl⟩,by simp[Value.oneCell']⟩|sl t=>intro cs h;simp only[zeroCells,Option.some.injEq]at h;subst h;exact⟨[.slice none 0 0],rfl,by simp only[aj,ag];exact⟨_,[],rfl,rfl,rfl⟩,by simp[Value.oneCell']⟩|own t=>intro cs h;simp[zeroCells]at h|aP a b=>intro cs h;simp[zeroCells]at h|ptr t=>intro cs h;simp only[zeroCells,Option.some.injEq]at h;subst h;exact⟨[.pointer none],rfl,by simp only[aj,ag];exact⟨_,[],rfl,rfl,rfl⟩,by simp[Value.oneCell']⟩|fh f t=>intro cs h;simp[zeroCells]at h|mp a b=>intro cs h;simp only[zeroCells]at h;split at h;(·rename_i hn;simp only[Option.some.injEq]at h;subst h;exact⟨[.map none],rfl,by simp only[aj,ag,jD,cw,aA];exact⟨_,[],rfl,⟨Cf hn,by simp,.inl ⟨rfl,trivial⟩⟩,rfl⟩,by simp[Value.oneCell']⟩);(·simp only[Option.some.injEq]at h;subst h;exact⟨[.map none],rfl,by simp only[aj,ag];exact⟨_,[],rfl,trivial,rfl⟩,by simp[Value.oneCell']⟩)|aq=>intro cs h;simp only[zeroCells,Option.some.injEq]at h;subst h;exact⟨[.nilFunc],rfl,by simp only[aj,ag];exact⟨_,[],rfl,trivial,rfl⟩,by simp[Value.oneCell']⟩|st t ih=>intro cs h;exact ih cs h|pair a b fK fi=>intro cs h;simp only[zeroCells]at h;split at h;(·rename_i x y hx hy;simp only[Option.some.injEq]at h;subst h;obtain⟨va,ha,YC,h1a⟩:=fK x hx;obtain⟨vb,hb,hpb,h1b⟩:=fi y hy;refine⟨va++vb,by simp only[cI,ha,hb],bC YC hpb,fun u hu=>?_⟩;rcases List.mem_append.1 hu with hu|hu;(·exact h1a u hu);·exact h1b u hu);·cases h
theorem iN {T:Ty} {z:Value} {vs:List Value} (hz:lR (some z) T=true)(hv:cI T=some vs):z.cells.toList=vs:=by
 unfold lR at hz;rw[hv]at hz;simp only at hz;split at hz;(·split at hz;(·exact jm hz);·cases hz);·split at hz;(·rename_i u;have:=kD hz;subst this;unfold zq at hz;split at hz<;>first|rfl|cases hz);·cases hz
theorem Hm(hE:aE E)(h:Full n w0 S0 s a w ν S)(ho:bK n o=true) {t:Nat} (aK:o.op= .alloc t)(ab:aR E (ai E F s o) (fun l=>K (s.fin o.dst l))):o.wp E.P a w (fun a' w'=> ∃s',K s'∧Rel n w0 S0 s' a' w') Q:=by
 simp only[ai,aK]at ab;split at ab;(·rename_i T d hT hd;split at ab;(·rename_i cs hl hz;simp only[aR,St.fin,hd]at ab;obtain⟨vs,zO,hp,h1⟩:=lZ (c:=h.c) T cs hz;obtain⟨i,hi,_,_,zP,z,X9,_⟩:=(hE.facts hT).info;rw[X9]at zP;have Ld:=iN zP zO;(have hr:(execOp a.eval o).run E.P w= .ok (.value (.pointer (some ⟨w.heap.size,0,none⟩))) (w.alloc (.cells vs.toArray t)):=by simp only[execOp,aK,Instr.alloc,Sem.run_bind,zeroValue,typeInfo,Sem.run_bind,run_program,Result.andThen_ok,hi,X9,Sem.run_pure,newVar,newRow,run_newObj];rw[←Ld];rfl);refine cf hr ⟨_,ab,?_⟩;rw[hd];exact h.Hl (bg ho d hd) hl (fun t' ht=>by cases hb:E.G5 t with|true=>(rw[hb]at ht;exact Option.some.inj ht)|false=>(rw[hb]at ht;cases ht)) h1 hp);·exact ab.elim)
 ·exact ab.elim
theorem SP(h:Full n w0 S0 s a w ν S)(ho:bK n o=true) {t:Nat} {x:Operand} (aK:o.op= .box t x)(ab:aR E (ai E F s o) (fun l=>K (s.fin o.dst l))):o.wp E.P a w (fun a' w'=> ∃s',K s'∧Rel n w0 S0 s' a' w') Q:=by
 simp only[ai,aK]at ab;have hx:=h.ev (aC ho (x:=x) (by simp[aK,Op.operands]));split at ab;(·rename_i d cs hd xI;split at ab;(·rename_i hl;simp only[aR,St.fin,hd]at ab;obtain⟨hp,h1⟩:=iK hx xI;(have hr:(execOp a.eval o).run E.P w= .ok (.value (.pointer (some ⟨w.heap.size,0,none⟩))) (w.alloc (.cells (a.eval x).cells.toList.toArray t)):=by simp only[execOp,aK,Instr.box,Sem.run_bind,newVar,newRow,run_newObj,Result.andThen_ok,Sem.run_pure,Array.toArray_toList];rfl);refine cf hr ⟨_,ab,?_⟩;rw[hd];exact h.Hl (bg ho d hd) hl (fun t' ht=>by cases ht) h1 hp);·exact ab.elim)
 ·exact ab.elim
theorem Full.qJ(h:Full n w0 S0 s a w ν S) {d:Nat} (hd:d<n)(hl:look d s.bl=none) {T:Ty} {te:Option Nat} {xs:List T.den} {v:Value} {w':World} (hT:aJ T=0)(hw:dz w w' none)(hs: ∃a n c,v= .slice a n c)(fM: ∀g,aG v=some g→w.heap.size≤g)(hr:aA (.own T) xs w' ⟨S,aB w0 S0⟩ [v])(X8:eZ te w' v):Rel n w0 S0 ⟨(d,.aI d)::s.sl,(d,.arr T xs te)::s.bl⟩ (a.put (some d) v) w':=by
 refine(h.new (b:=.arr T xs te) (p:=.aI d) (v:=v) (val:=v) hd hl hw (fun g hg=>h.beyond (fM g hg)) ?_ ?_).rel;(·exact⟨X8.oQ (by simp) fun _ _=>rfl,hT,by simpa using hr⟩)
 ·simp only[ag];exact⟨⟨_,aV _ _ _⟩,by simp,hs⟩
theorem gp(s:St): ∀(l:List (Nat×Operand)),cE s l=l.map fun p=>(p.1,s.ev p.2)|[]=>rfl|p::l=>by simp[cE,gp s l]
theorem o0(s:St): ∀(l:List Operand),bJ s l=l.map s.ev|[]=>rfl|p::l=>by simp[bJ,o0 s l]
theorem fB(h:Full n w0 S0 s a w ν S): ∀(l:List Operand),(∀x,x∈l→kE x=true)→aj h.c (bJ s l) (l.map a.eval)|[],_=>(by simp only[bJ,List.map_nil,aj])|x::l,hc=>by simp only[bJ,List.map_cons,aj];exact⟨_,_,rfl,h.ev (hc x (by simp)),fB h l (fun y hy=>hc y (by simp[hy]))⟩
end
/-! ### Literals -/
theorem zQ: ∀(vs:List Value)(k off:Nat)(cells:Array Value),off+k+vs.length≤cells.size→((vs.zipIdx k).foldl (fun cs p=>cs.setIfInBounds (off+p.2) p.1) cells).toList=cells.toList.take (off+k)++vs++cells.toList.drop (off+k+vs.length)|[],k,off,cells,h=>(by simp)|v::vs,k,off,cells,h=>by simp only[List.length_cons]at h;simp only[List.zipIdx_cons,List.foldl_cons];rw[zQ vs (k+1) off _ (by simp;omega)];simp only[Array.toList_setIfInBounds];(have h1:(cells.toList.set (off+k) v).take (off+(k+1))=cells.toList.take (off+k)++ [v]:=by rw[show off+(k+1)=(off+k)+1 from by omega,List.take_succ_eq_append_getElem (by simp;omega)];rw[List.take_set_of_le (by omega),List.getElem_set_self]);(have h2:(cells.toList.set (off+k) v).drop (off+(k+1)+vs.length)=cells.toList.drop (off+k+(v::vs).length):=by rw[List.drop_set_of_lt (by omega)];congr 1;simp;omega);rw[h1,h2];simp
theorem zS {place:Nat→Option (Nat×Nat)} {i off size:Nat} {v:Value} {cells:Array Value} {rest:List (Nat×Value)} (hp:place i=some (off,size))(hs:v.cells.size=size)(hf:off+v.cells.size≤cells.size):Instr.fill place cells ((i,v)::rest)=Instr.fill place (cells.toList.take off++v.cells.toList++cells.toList.drop (off+v.cells.size)).toArray rest:=by
 simp only[Instr.fill,hp];rw[if_neg (by simp[hs];omega)];congr 1;have:=zQ v.cells.toList 0 off cells (by simpa using hf);simp only[Nat.add_zero]at this;(have e:(v.cells.zipIdx.foldl (fun cs x=>match x with|(c,j)=>cs.setIfInBounds (off+j) c) cells)=(v.cells.toList.zipIdx.foldl (fun cs p=>cs.setIfInBounds (off+p.2) p.1) cells):=by rw[←Array.foldl_toList,Array.toList_zipIdx])
 rw[e];apply Array.toList_inj.1;rw[this];simp
theorem zT {c:Ctx} {T:Ty} {place:Nat→Option (Nat×Nat)} (Hn: ∀i,i<gM T→place i=some (gZ T i,(lh T i).cells)): ∀(ps:List (Nat×PV))(vs:List (Nat×Value))(cs zK:List PV)(cells:Array Value),ps.length=vs.length→(∀(k:Nat)(p:Nat×PV)(v:Nat×Value),ps[k]?=some p→vs[k]?=some v→p.1=v.1∧ag c p.2 v.2)→aj c cs cells.toList→(∀u,u∈cells.toList→u.oneCell'=true)→wi T ps cs=some zK→ ∃out,Instr.fill place cells vs=some out∧aj c zK out.toList∧ ∀u,u∈out.toList→u.oneCell'=true|[],[],cs,zK,cells,_,_,hc,h1,h=>(by simp only[wi,Option.some.injEq]at h;subst h;exact⟨cells,rfl,hc,h1⟩)|[],_::_,_,_,_,hl,_,_,_,_=>(by cases hl)|_::_,[],_,_,_,hl,_,_,_,_=>(by cases hl)|p::ps,v::vs,cs,zK,cells,hl,hr,hc,h1,h=>by obtain⟨GM,aY⟩:=hr 0 p v rfl rfl;simp only[wi]at h;split at h;(·rename_i us RD;obtain⟨YE,Cg⟩:=iK aY RD;split at h;(·rename_i hle gP cN;(have hlen:us.length=(lh T p.1).cells:=by(have: ∀ {α:Type} (l:List α)(k:Nat),sX l k=true→l.length=k:=by intro α l;induction l with|nil=>intro k hk;(cases k<;>first|rfl|cases hk)|cons x l ih=>intro k hk;cases k with|zero=>cases hk|succ k=>simp[ih k hk]);exact this _ _ hle);(have vy:us.length=v.2.cells.size:=by rw[bS YE];simp);have ep:=bS hc;have db:=Nat.le_of_ble_eq_true gP;(have Fk:p.1<gM T:=by simpa[Nat.blt_eq]using cN);(have al4:cs.length=cells.size:=by rw[ep];simp);obtain⟨pi,pv⟩:=p;obtain⟨vi,vv⟩:=v;simp only at GM Fk hlen vy db;subst GM;rw[zS (Hn pi Fk) (by rw[←vy,hlen]) (by rw[←vy,←al4];exact db)];refine zT Hn ps vs _ zK _ (by simpa using hl) (fun k p' v' RE hv'=>hr (k+1) p' v' RE hv') ?_ ?_ h;(·simp only[vy];exact bC (bC (cR _ hc) YE) (cQ _ hc));·intro u hu;simp only[List.mem_append]at hu;rcases hu with(hu|hu)|hu;(·exact h1 u (List.mem_of_mem_take hu));(·exact Cg u hu);·exact h1 u (List.mem_of_mem_drop hu));·cases h);·cases h
end Go.Proofs.YtmgmonbmdkkhbaaGreatDoor
namespace Go.Proofs.YtmgmonbmdkkhbaaGreatDoor
variable {c8:Prop} [hZ c8]
open Go.RowKit
section
variable {E:Env} {n:Nat} {w0:World} {S0:Cx} {s:St} {a:Act} {w:World} {ν:Nat→Value} {S:Nat→Prop} {F:cG} {o:Oper} {K:St→Prop} {Q:Exit→Act→World→Prop}
theorem ru {ty:Nat→Option Ty} : ∀(fs:List Field)(R:Ty)(off:Nat),bp ty fs R off=true→ ∀(i:Nat),i<bL R→ ∃f,fs[i]?=some f∧f.offset=off+dy R i∧ty f.type=some (a8 R i)∧1≤(a8 R i).cells∧(a8 R i).val=true∧f.name≠ "_" |[],R,off,h,i,hi=>(by cases h)|[f],R,off,h,i,hi=>(by simp only[bp,Bool.and_eq_true,lS]at h;obtain⟨⟨⟨⟨h1,h2⟩,h3⟩,h4⟩,h5⟩:=h;(have cz: ∀x y,R≠ .pair x y:=by rintro x y rfl;cases h4);(have ep:bL R=1:=by cases R<;>first|rfl|exact absurd rfl (cz _ _));(have hi0:i=0:=by omega);subst hi0;(have Lc:dy R 0=0:=by cases R<;>first|rfl|exact absurd rfl (cz _ _));(have vz:a8 R 0=R:=by cases R<;>first|rfl|exact absurd rfl (cz _ _));split at h2;(·rename_i U hU;rw[Ty.ct h2]at hU;exact⟨f,rfl,by rw[Lc,Nat.eq_of_beq_eq_true h1];omega,by rw[vz];exact hU,by rw[vz];exact Nat.le_of_ble_eq_true h3,by rw[vz];exact h4,by simpa using h5⟩);·cases h2)|f::g::gs,R,off,h,i,hi=>by cases R with|pair x y=>simp only[bp,Bool.and_eq_true,lS]at h;obtain⟨⟨⟨⟨⟨h1,h2⟩,h3⟩,h4⟩,h5⟩,h6⟩:=h;split at h2;(·rename_i U hU;rw[Ty.ct h2]at hU;cases i with|zero=>exact⟨f,rfl,by simp[dy,Nat.eq_of_beq_eq_true h1],hU,Nat.le_of_ble_eq_true h3,h4,by simpa using h5⟩|succ i=>obtain⟨f',e1,e2,e3⟩:=ru (g::gs) y (off+x.cells) (by unfold bp;exact h6) i (by simp[bL]at hi;omega);exact⟨f',by simpa using e1,by simp only[dy];omega,e3⟩);(·cases h2)|_=>simp only[bp]at h;cases h
theorem o7 {ty:Nat→Option Ty} : ∀(fs:List Field)(R:Ty)(off:Nat),bp ty fs R off=true→fs.length=bL R|[],R,off,h=>(by cases h)|[f],R,off,h=>(by simp only[bp,Bool.and_eq_true]at h;have h4:=h.1.2;cases R<;>first|rfl|cases h4)|f::g::gs,R,off,h=>by cases R with|pair x y=>simp only[bp,Bool.and_eq_true]at h;have:=o7 (g::gs) y (off+x.cells) (by unfold bp;exact h.2);simp only[List.length_cons]at this⊢;simp only[bL];omega|_=>simp only[bp]at h;cases h
theorem mU(V:Ty)(hV:V.val=true): ∀n,0<n→bL (rowOf V n)=n|0,h=>(by cases h)|1,_=>(by cases V<;>first|rfl|cases hV)|n+2,_=>by simp only[rowOf,bL];rw[mU V hV (n+1) (by omega)];omega
theorem jR(V:Ty)(hV:V.val=true): ∀n i,i<n→dy (rowOf V n) i=i*V.cells∧a8 (rowOf V n) i=V|0,i,h=>(by cases h)|1,i,h=>(by(have:i=0:=by omega);subst this;cases V<;>first|exact⟨by simp[rowOf,dy],rfl⟩|cases hV)|n+2,0,_=>(by simp[rowOf,dy,a8])|n+2,i+1,h=>by obtain⟨h1,h2⟩:=jR V hV (n+1) i (by omega);simp only[rowOf,dy,a8];exact⟨by rw[h1,Nat.add_mul];omega,h2⟩
theorem l0(V:Ty): ∀n,(rowOf V n).cells=n*V.cells|0=>(by simp[rowOf,Ty.cells])|1=>(by simp[rowOf])|n+2=>by simp only[rowOf,Ty.cells];rw[l0 V (n+1),Nat.add_mul (n+1) 1];omega
theorem b5.agg(hE:aE E) {t:Nat} {R:Ty} (h:b5 E t (.st R)):(∃fs,E.P.underlying t=some (.struct fs)∧fs.size=bL R∧ ∀i,i<bL R→ ∃f,fs[i]?=some f∧f.offset=dy R i∧E.ty f.type=some (a8 R i)∧1≤(a8 R i).cells∧(a8 R i).val=true∧f.name≠ "_")∨(∃m e V,E.P.underlying t=some (.array m e)∧E.ty e=some V∧R=rowOf V m∧V.val=true∧1≤V.cells∧2≤m):=by
 obtain⟨d,hd,hs⟩:=h.nJ;(cases d<;>simp only[cu]at hs<;>first|cases hs|skip);(·rename_i m e;split at hs;(·rename_i V hV;simp only[Bool.and_eq_true]at hs;exact .inr ⟨_,_,V,hd,hV,Ty.ct hs.1.1.1,hs.1.1.2,Nat.le_of_ble_eq_true hs.1.2,Nat.le_of_ble_eq_true hs.2⟩);·cases hs)
 ·rename_i fs;refine .inl ⟨fs,hd,by simpa using o7 _ _ _ hs,fun i hi=>?_⟩;obtain⟨f,h1,h2,h3⟩:=ru fs.toList R 0 hs i hi;exact⟨f,by simpa using h1,by simpa using h2,h3⟩
theorem Ho(hE:aE E)(h:Full n w0 S0 s a w ν S)(ho:bK n o=true) {t:Nat} {parts:Array (Nat×Operand)} (aK:o.op= .build t parts)(ab:aR E (ai E F s o) (fun l=>K (s.fin o.dst l))):o.wp E.P a w (fun a' w'=> ∃s',K s'∧Rel n w0 S0 s' a' w') Q:=by
 simp only[ai,aK]at ab;split at ab;(·rename_i al5 tn;have he:=hE.emp t al5;unfold SL at he;split at he;(·rename_i i fs hi hu;simp only[Bool.and_eq_true]at he;obtain⟨h1,h2⟩:=he;split at h2;(·rename_i cs hz;have xI:cs= #[]:=Array.toList_inj.1 (by simpa using h2);have RF:fs= #[]:=Array.toList_inj.1 (by simpa using h1);have vJ:parts= #[]:=Array.toList_inj.1 (by rw[tn]);subst xI;subst RF;subst vJ;refine h.val ho (p:=.agg []) (v:=.agg #[]) ?_ (by simp only[ag,aj];exact⟨[],rfl,by simp,rfl⟩) ab;(have GN:(zeroValue t).run E.P w= .ok (.agg #[]) w:=by simp[zeroValue,typeInfo,hi,hz]);simp[execOp,aK,Instr.build,GN,run_underlying hu,Value.cells,Instr.fill]);·cases h2);·cases he)
 simp only[sZ]at ab;split at ab;(·rename_i R hT;split at ab;(·rename_i z hz;split at ab;(·rename_i cs YF;have hf:=hE.facts hT;obtain⟨vs,zO,hp,h1⟩:=lZ (c:=h.c) (.st R) z hz;obtain⟨i,hi,cM,_,zP,zv,X9,_⟩:=hf.info;rw[X9]at zP;have Ld:=iN zP zO;(have Ch: ∀(k:Nat)(p:Nat×PV)(v:Nat×Value),(cE s parts.toList)[k]?=some p→((parts.map fun x=>(x.1,a.eval x.2)).toList)[k]?=some v→p.1=v.1∧ag h.c p.2 v.2:=by intro k p v hk hv;rw[gp,List.getElem?_map]at hk;simp only[Array.toList_map,List.getElem?_map]at hv;cases hx:parts.toList[k]? with|none=>rw[hx]at hk;cases hk|some x=>rw[hx]at hk hv;simp only[Option.map_some,Option.some.injEq]at hk hv;subst hk;subst hv;refine⟨rfl,h.ev (aC ho ?_)⟩;have hm:x∈parts:=Array.mem_toList_iff.1 (List.mem_of_getElem? hx);simp only[aK,Op.operands,List.mem_toArray,List.mem_map];exact⟨x,Array.mem_toList_iff.2 hm,rfl⟩);(have hlen:(cE s parts.toList).length=((parts.map fun x=>(x.1,a.eval x.2)).toList).length:=by simp[gp]);(have main: ∀place:Nat→Option (Nat×Nat),(∀i,i<gM (.st R)→place i=some (gZ (.st R) i,(lh (.st R) i).cells))→ ∃out,Instr.fill place zv.cells (parts.map fun x=>(x.1,a.eval x.2)).toList=some out∧ag h.c (.agg cs) (.agg out):=by intro place Hn;obtain⟨out,h2,h3,h4⟩:=zT Hn _ _ z cs zv.cells hlen Ch (by rw[Ld];exact hp) (by rw[Ld];exact h1) YF;refine⟨out,h2,?_⟩;simp only[ag];exact⟨out.toList,by simp,h4,h3⟩);rcases hf.agg hE with⟨fs,hu,vK,YG⟩|⟨m,e,V,hu,he,rfl,hV,hV1,hm⟩;(·(have LO: ∀(l:List Field),(∀f,f∈l→ ∃j,E.P.info? f.type=some j)→(l.mapM fun f=>do pure (f.offset,←sizeOf f.type):Sem (List (Nat×Nat))).run E.P w= .ok (l.map fun f=>(f.offset,E.P.cellsOf f.type)) w:=by intro l;induction l with|nil=>intro _;simp|cons f l ih=>intro hl;obtain⟨j,hj⟩:=hl f (by simp);have:=ih (fun g hg=>hl g (by simp[hg]));(have step:(do pure (f.offset,←sizeOf f.type):Sem (Nat×Nat)).run E.P w= .ok (f.offset,E.P.cellsOf f.type) w:=by simp[sizeOf,typeInfo,hj,Program.cellsOf]);rw[List.mapM_cons,Sem.run_bind,step];simp only[Result.andThen_ok];rw[Sem.run_bind,this];simp only[Result.andThen_ok,Sem.run_pure,List.map_cons]);(have YH: ∀f,f∈fs.toList→ ∃j,E.P.info? f.type=some j:=by intro f RG;obtain⟨k,hk⟩:=List.getElem?_of_mem RG;(have tp:k<bL R:=by rw[←vK];have:=(List.getElem?_eq_some_iff.1 hk).1;simpa using this);obtain⟨f',Cg,_,RH,_⟩:=YG k tp;(have:f=f':=by(have:fs.toList[k]?=some f':=by simpa using Cg);rw[hk]at this;injection this);subst this;obtain⟨j,hj,_⟩:=(hE.facts RH).info;exact⟨j,hj⟩);have YI:=LO fs.toList YH;obtain⟨out,Lc,aY⟩:=main (fun i=>(fs.map fun f=>(f.offset,E.P.cellsOf f.type))[i]?) (fun i xG=>by obtain⟨f,Cg,YJ,RH,_⟩:=YG i xG;obtain⟨j,hj,hjs,_⟩:=(hE.facts RH).info;simp only[Array.getElem?_map,Cg,Option.map_some,gZ,lh,Program.cellsOf,hj,Option.getD_some,hjs,YJ]);refine h.val ho (v:=.agg out) ?_ aY ab;(have SQ:(fs.mapM fun f=>do pure (f.offset,←sizeOf f.type):Sem (Array (Nat×Nat))).run E.P w= .ok (fs.map fun f=>(f.offset,E.P.cellsOf f.type)) w:=by rw[Array.mapM_eq_mapM_toList,Sem.run_map,YI];simp only[Result.andThen_ok];congr 1;exact Array.toList_inj.1 (by simp));simp only[execOp,aK,Instr.build,Sem.run_bind,zeroValue,typeInfo,run_program,Result.andThen_ok,hi,X9,Sem.run_pure,run_underlying hu,SQ,Lc]);·obtain⟨j,hj,hjs,_⟩:=(hE.facts he).info;obtain⟨out,Lc,aY⟩:=main (fun i=>some (i*V.cells,V.cells)) (fun i xG=>by simp only[gM]at xG;rw[mU V hV m (by omega)]at xG;obtain⟨e1,e2⟩:=jR V hV m i xG;simp only[gZ,lh,e1,e2]);refine h.val ho (v:=.agg out) ?_ aY ab;simp only[execOp,aK,Instr.build,Sem.run_bind,zeroValue,typeInfo,run_program,Result.andThen_ok,hi,X9,Sem.run_pure,run_underlying hu,sizeOf,hj,hjs,Lc]);·exact ab.elim);·exact ab.elim)
 ·exact ab.elim
end
end Go.Proofs.YtmgmonbmdkkhbaaGreatDoor
namespace Go.Proofs.YtmgmonbmdkkhbaaGreatDoor
variable {c8:Prop} [hZ c8]
open Go.RowKit
theorem tq {F F':cG} {bl bl':List (Nat×aL)} : ∀(T:Ty)(ps:List PV)(r:T.den×List PV),PV.dI ps=false→PV.b7 ps=[]→pk F bl T ps=some r→pk F' bl' T ps=some r∧PV.dI r.2=false∧PV.b7 r.2=[]:=by
 (have cons: ∀(p:PV)(ps:List PV),PV.dI (p::ps)=false→PV.b7 (p::ps)=[]→(PV.refs p=false∧PV.gK p=[])∧PV.dI ps=false∧PV.b7 ps=[]:=by intro p ps h1 h2;simp only[PV.dI,Bool.or_eq_false_iff]at h1;simp only[PV.b7,List.append_eq_nil_iff]at h2;exact⟨⟨h1.1,h2.1⟩,h1.2,h2.2⟩)
 intro T;induction T with|unit=>intro ps r h1 h2 h;simp only[pk,Option.some.injEq]at h⊢;subst h;exact⟨rfl,h1,h2⟩|pair a b fK fi=>intro ps r h1 h2 h;simp only[pk]at h⊢;split at h;(·rename_i x r1 hx;obtain⟨e1,h3,h4⟩:=fK ps _ h1 h2 hx;split at h;(·rename_i y r2 hy;obtain⟨e2,h5,h6⟩:=fi r1 _ h3 h4 hy;simp only[Option.some.injEq]at h;subst h;simp only[e1,e2];exact⟨trivial,h5,h6⟩);·cases h);(·cases h)|st t ih=>intro ps r h1 h2 h;simp only[pk]at h⊢;exact ih ps r h1 h2 h|aP a b=>intro ps r h1 h2 h;simp only[pk]at h;cases h|int k=>intro ps r h1 h2 h;(cases ps with|nil=>simp only[pk]at h;cases h|cons p ps=>simp only[pk]at h⊢;obtain⟨x,r'⟩:=r;obtain⟨_,h3,h4⟩:=cons p ps h1 h2;obtain⟨_,rfl⟩:=aO h;exact⟨h,h3,h4⟩)|bool=>intro ps r h1 h2 h;(cases ps with|nil=>simp only[pk]at h;cases h|cons p ps=>simp only[pk]at h⊢;obtain⟨x,r'⟩:=r;obtain⟨_,h3,h4⟩:=cons p ps h1 h2;obtain⟨_,rfl⟩:=aO h;exact⟨h,h3,h4⟩)|str=>intro ps r h1 h2 h;(cases ps with|nil=>simp only[pk]at h;cases h|cons p ps=>simp only[pk]at h⊢;obtain⟨x,r'⟩:=r;obtain⟨_,h3,h4⟩:=cons p ps h1 h2;obtain⟨_,rfl⟩:=aO h;exact⟨h,h3,h4⟩)|sl t ih=>intro ps r h1 h2 h;(cases ps with|nil=>simp only[pk]at h;cases h|cons p ps=>simp only[pk]at h⊢;obtain⟨x,r'⟩:=r;obtain⟨⟨h5,h6⟩,h3,h4⟩:=cons p ps h1 h2;obtain⟨hx,rfl⟩:=aO h;refine⟨?_,h3,h4⟩;cases p<;>first|(simp[PV.gK]at h6;done)|exact h)|own t ih=>intro ps r h1 h2 h;(cases ps with|nil=>simp only[pk]at h;cases h|cons p ps=>simp only[pk]at h⊢;obtain⟨x,r'⟩:=r;obtain⟨⟨h5,h6⟩,h3,h4⟩:=cons p ps h1 h2;obtain⟨hx,rfl⟩:=aO h;refine⟨?_,h3,h4⟩;cases p<;>first|(simp[PV.gK]at h6;done)|exact h)|mp a b=>intro ps r h1 h2 h;(cases ps with|nil=>simp only[pk]at h;cases h|cons p ps=>simp only[pk]at h⊢;obtain⟨x,r'⟩:=r;obtain⟨⟨h5,h6⟩,h3,h4⟩:=cons p ps h1 h2;obtain⟨hx,rfl⟩:=aO h;refine⟨?_,h3,h4⟩;cases p<;>first|(simp[PV.gK]at h6;done)|exact h)|aq=>intro ps r h1 h2 h;(cases ps with|nil=>simp only[pk]at h;cases h|cons p ps=>simp only[pk]at h⊢;obtain⟨x,r'⟩:=r;obtain⟨_,h3,h4⟩:=cons p ps h1 h2;obtain⟨_,rfl⟩:=aO h;exact⟨h,h3,h4⟩)|ptr t ih=>intro ps r h1 h2 h;(cases ps with|nil=>simp only[pk]at h;cases h|cons p ps=>simp only[pk]at h⊢;obtain⟨x,r'⟩:=r;obtain⟨⟨h5,h6⟩,h3,h4⟩:=cons p ps h1 h2;cases p with|ref i off=>simp[PV.refs]at h5|iv U y=>obtain⟨_,rfl⟩:=aO h;exact⟨h,h3,h4⟩|di U y off=>(cases off with|zero=>obtain⟨_,rfl⟩:=aO h;exact⟨h,h3,h4⟩|succ k=>cases h)|_=>cases h)|fh f t ih=>intro ps r h1 h2 h;cases ps with|nil=>simp only[pk]at h;cases h|cons p ps=>simp only[pk]at h⊢;obtain⟨x,r'⟩:=r;obtain⟨⟨h5,h6⟩,h3,h4⟩:=cons p ps h1 h2;cases p with|iv U y=>obtain⟨_,rfl⟩:=aO h;exact⟨h,h3,h4⟩|fn g cL=>(cases hb:Nat.beq f g with|false=>simp[hb]at h|true=>simp only[hb,cond_true]at h⊢;obtain⟨hx,rfl⟩:=aO h;obtain⟨e1,_⟩:=ih cL _ (by simpa[PV.refs]using h5) (by simpa[PV.gK]using h6) (cS hx);exact⟨by rw[e1];rfl,h3,h4⟩)|_=>cases h
theorem zU {F F':cG} {bl bl':List (Nat×aL)} {T:Ty} {p:PV} {x:T.den} (h1:PV.refs p=false)(h2:PV.gK p=[])(h:exp F bl T p=some x):exp F' bl' T p=some x:=by
 (have BX:PV.dI [p]=false:=by simp[PV.dI,h1]);(have zV:PV.b7 [p]=[]:=by simp[PV.b7,h2]);cases T with|st t=>(cases p with|iv U y=>exact h|agg cs=>simp only[exp]at h⊢;rw[(tq (F':=F') (bl':=bl') t cs _ (by simpa[PV.refs]using h1) (by simpa[PV.gK]using h2) (cS h)).1];rfl|_=>simp only[exp]at h;cases h)|unit=>simp only[exp]at h;cases h|pair a b=>simp only[exp]at h;cases h|aP a b=>simp only[exp]at h;cases h|_=>simp only[exp]at h⊢;rw[(tq (F':=F') (bl':=bl') _ _ _ BX zV (cS h)).1];rfl
theorem cA {id:Nat} {b:aL} : ∀ {bl:List (Nat×aL)},look id bl=some b→al id (keys bl)=true|[],h=>(by cases h)|p::r,h=>by simp only[look]at h;simp only[keys,List.map_cons,al];cases hb:Nat.beq id p.1 with|true=>rfl|false=>simp only[hb,cond_false]at h⊢;exact cA h
theorem zW {T:Ty} {c:PV} {x:T.den} (h:lF T c=some x):c= .iv T x:=by
 (cases c<;>simp only[lF]at h<;>first|cases h|skip);rename_i U y;obtain⟨e,hx⟩:=Ty.aW h;subst e;simp only at hx;rw[hx]
theorem tr {T:Ty} : ∀ {cs:List PV} {xs:List T.den},ku T cs=some xs→cs=xs.map (PV.iv T)|[],xs,h=>(by simp only[ku,Option.some.injEq]at h;subst h;rfl)|c::r,xs,h=>by simp only[ku]at h;split at h;(·rename_i x ys hx kH;simp only[Option.some.injEq]at h;subst h;rw[zW hx,tr kH];rfl);·cases h
theorem qK {T:Ty} (h:Hc T=true)(c:PV):join T [c]=c∧T.cells=1∧T.val=true:=by cases T<;>first|(cases h;done)|exact⟨rfl,rfl,rfl⟩
theorem DY {T:Ty} {cs:List PV} {base m:Nat} {xs:List T.den} (h:ku T ((cs.drop base).take m)=some xs) {k:Nat} {x:T.den} (hx:xs[k]?=some x):(cs.drop (base+k)).take 1=[.iv T x]∧k<m∧base+k<cs.length:=by
 have hm:=tr h;(have hk:((cs.drop base).take m)[k]?=some (.iv T x):=by rw[hm,List.getElem?_map,hx];rfl);(have hkm:k<m:=by rcases Nat.lt_or_ge k m with h'|h';(·exact h');·rw[List.getElem?_eq_none (by rw[List.length_take];omega)]at hk;cases hk)
 rw[List.getElem?_take,if_pos hkm,List.getElem?_drop]at hk;obtain⟨hl,e⟩:=List.getElem?_eq_some_iff.1 hk;refine⟨?_,hkm,hl⟩;rw[List.drop_eq_getElem_cons hl,e];rfl
section
variable {E:Env} {n:Nat} {w0:World} {S0:Cx} {s:St} {a:Act} {w:World} {ν:Nat→Value} {S:Nat→Prop} {F:cG} {o:Oper} {K:St→Prop} {Q:Exit→Act→World→Prop}
theorem Full.Hp(h:Full n w0 S0 s a w ν S) {T:Ty} {p:PV} {x:T.den} {v:Value} (ho:aJ T=0)(h1:PV.refs p=false)(h2:PV.gK p=[])(hx:exp F s.bl T p=some x)(hp:ag h.c p v):cw T x w ⟨S,aB w0 S0⟩ v:=by
 have jH:=zU (F':=⟨keys s.bl,true⟩) (bl':=s.bl) h1 h2 hx;refine dX (s:=s) (c:=h.c) (M':=⟨S,aB w0 S0⟩) ⟨rfl,h.W.bM,fun _ h=>h,fun id hF hD g hg=>?_⟩ (.inl ho) jH hp
 obtain⟨b,hb⟩:=hD;rw[cA hb]at hF;cases hF
theorem Ci(P:Program)(t:TypeId)(p:Addr)(w:World):(Instr.loadAt t (.pointer (some p))).run P w=(loadVar t p).run P w:=by simp[Instr.loadAt,Instr.sureAddr]
theorem dh.part {w:World} {g o:Nat} {cs:List Value} (h:dh w g o cs)(off k:Nat):dh w g (o+off) ((cs.drop off).take k):=by
 intro j v hj;(have YK:j<k:=by rcases Nat.lt_or_ge j k with h'|h';(·exact h');·rw[List.getElem?_eq_none (by rw[List.length_take];omega)]at hj;cases hj);rw[List.getElem?_take,if_pos YK,List.getElem?_drop]at hj
 rw[Nat.add_assoc];exact h _ v hj
theorem mV {w:World} {g:Nat} {vs:Array Value} {e:TypeId} (h:w.heap[g]?=some (.cells vs e (0,0))):dh w g 0 vs.toList:=by
 intro j v hj;rw[cell_of_row w g _ vs e (0,0) h,Nat.zero_add];simpa using hj
theorem LP(hE:aE E)(h:Full n w0 S0 s a w ν S)(ho:bK n o=true) {t:Nat} {x:Operand} (aK:o.op= .load t x)(ab:aR E (ai E F s o) (fun l=>K (s.fin o.dst l))):o.wp E.P a w (fun a' w'=> ∃s',K s'∧Rel n w0 S0 s' a' w') Q:=by
 simp only[ai,aK,jk]at ab;have hx:=h.ev (aC ho (x:=x) (by simp[aK,Op.operands]));(have aX: ∀(p:Addr)(v:Value),a.eval x= .pointer (some p)→(loadVar t p).run E.P w= .ok v w→(execOp a.eval o).run E.P w= .ok (.value v) w:=by intro p v he hl;simp only[execOp,aK,he,Sem.run_bind,Ci,hl,Result.andThen_ok,Sem.run_pure])
 split at ab;(·rename_i T hT;have hf:=hE.facts hT;split at ab;(·rename_i id off bx;split at ab;(·rename_i cs te hl;obtain⟨hl,_⟩:=bW hl;split at ab;(·rename_i db;have db:=Nat.le_of_ble_eq_true db;rw[bx]at hx;simp only[ag]at hx;obtain⟨hd,g,hg,hv⟩:=hx;obtain⟨gn,g',vs,e,dM,hB,oV,hh,h1,aY⟩:=h.W.bM _ _ hl;simp only[Full.c]at hg;simp only at dM;rw[hg]at dM;(obtain rfl:g=g':=by injection dM with e1;injection e1 with e1;injection e1);have ep:=bS aY;have hc:=(mV hh).part off T.cells;rw[Nat.zero_add]at hc;refine h.val ho (aX _ _ hv (eA hf (by rw[List.length_take,List.length_drop];omega) hc)) ?_ ab;refine gD (by rw[List.length_take,List.length_drop];omega) hf.val (fun u hu=>h1 u (List.mem_of_mem_drop (List.mem_of_mem_take hu))) (cR _ (cQ _ aY)));·exact ab.elim);·exact ab.elim);(·rename_i U y off bx;split at ab;(·rename_i db;have db:=Nat.le_of_ble_eq_true db;rw[bx]at hx;simp only[ag]at hx;obtain⟨oS,g,ob,cs,hv,hS,ep,hc,hr⟩:=hx;have lj:=hc.part off T.cells;refine h.val ho (aX _ _ hv (eA hf (by rw[List.length_take,List.length_drop];omega) lj)) ?_ ab;exact tc oS hf.val db hr);·exact ab.elim);(·rename_i id sz i off bx;split at ab;(·rename_i U xs te hl;obtain⟨hl,_⟩:=bW hl;split at ab;(·rename_i db cM;have db:=Nat.le_of_ble_eq_true db;have cM:=Nat.eq_of_beq_eq_true cM;obtain⟨y,hy,ab⟩:=ab;rw[bx]at hx;simp only[ag]at hx;obtain⟨hd,g,ob,m,cap,cj,SR,hv⟩:=hx;obtain⟨gn,oS,u,hu,Hq,cm⟩:=h.W.bM _ _ hl;simp only[Full.c]at cj;simp only[List.cons.injEq,and_true]at hu;rw[cj]at hu;subst hu;rcases cm with⟨hn,_⟩|⟨g',o',lQ,cur,e,rY,hle,Lb,oV,hB,hh,tk,fA⟩;(·cases hn);·injection rY with e1 e2 e3;injection e1 with e1;injection e1 with e1 e4;subst e1;subst e4;subst e3;obtain⟨cs,ep,hc,hr⟩:=fA i y hy;have lj:=hc.part off T.cells;rw[cM]at hv;refine h.val ho (aX _ _ hv (eA hf (by rw[List.length_take,List.length_drop];omega) lj)) ?_ ab;exact tc oS hf.val db hr);·exact ab.elim);·exact ab.elim);(·rename_i id base U m i bx;split at ab;(·rename_i cs te hl;obtain⟨hl,_⟩:=bW hl;split at ab;(·rename_i xs Cj hb;simp only[Bool.and_eq_true]at hb;obtain⟨⟨Ck,Fm⟩,db⟩:=hb;have Ck:=Ty.ct Ck;subst Ck;have db:=Nat.le_of_ble_eq_true db;obtain⟨y,hy,ab⟩:=ab;rw[bx]at hx;simp only[ag]at hx;obtain⟨hd,h0,hn,g,hg,hv⟩:=hx;obtain⟨gn,g',vs,e,dM,hB,oV,hh,h1,aY⟩:=h.W.bM _ _ hl;simp only[Full.c]at hg;simp only at dM;rw[hg]at dM;(obtain rfl:g=g':=by injection dM with e1;injection e1 with e1;injection e1);have ep:=bS aY;obtain⟨e1,e2,e3⟩:=DY Cj hy;obtain⟨j1,j2,j3⟩:=qK Fm (.iv T y);have hc:=(mV hh).part (base+i.toNat) T.cells;rw[Nat.zero_add]at hc;refine h.val ho (aX _ _ hv (eA hf (by rw[List.length_take,List.length_drop];omega) hc)) ?_ ab;have:=gD (T:=T) (c:=h.c) (by rw[List.length_take,List.length_drop];omega) hf.val (fun u hu=>h1 u (List.mem_of_mem_drop (List.mem_of_mem_take hu))) (cR T.cells (cQ (base+i.toNat) aY));rw[j2,e1,j1]at this;rw[j2];exact this);·exact ab.elim);·exact ab.elim);·exact ab.elim)
 ·exact ab.elim
end
end Go.Proofs.YtmgmonbmdkkhbaaGreatDoor
namespace Go.Proofs.YtmgmonbmdkkhbaaGreatDoor
variable {c8:Prop} [hZ c8]
open Go.RowKit
section
variable {E:Env} {n:Nat} {w0:World} {S0:Cx} {s:St} {a:Act} {w:World} {ν:Nat→Value} {S:Nat→Prop} {F:cG} {o:Oper} {K:St→Prop} {Q:Exit→Act→World→Prop}
theorem tu: ∀ {α:Type} {l:List α} {k:Nat},sX l k=true→l.length=k|_,[],0,_=>rfl|_,[],_+1,h=>(by cases h)|_,_::_,0,h=>(by cases h)|_,_::r,k+1,h=>by simp[tu (l:=r) (k:=k) h]
theorem jo {E:Env} {t:Nat} {T:Ty} (hf:b5 E t T) {w:World} {g off:Nat} {v:Value} {cur:Array Value} {e:TypeId} (hg:w.heap[g]?=some (.cells cur e (0,0)))(hl:v.cells.size=T.cells)(tk:off+T.cells≤cur.size)(h1: ∀u,u∈v.cells.toList→u.oneCell'=true):(Instr.storeAt t (.pointer (some ⟨g,off,none⟩)) v).run E.P w= .ok () (w.setRow g (cur.toList.take off++v.cells.toList++cur.toList.drop (off+T.cells)).toArray):=by
 have fW:=run_storeCells_at (P:=E.P) g off e v.cells.toList 0 cur w hg (by simpa[hl]using tk) h1;simp only[Nat.add_zero,Array.length_toList,hl]at fW;simp only[Instr.storeAt,Instr.sureAddr,Sem.run_bind,Sem.run_pure,Result.andThen_ok,storeVar,hf.sizeOf w,Sem.run_ite,hl,ne_eq,not_true_eq_false,if_false]
 exact fW
theorem Cl {α:Type} (A ys B:List α)(i:Nat)(v:α)(hi:i<ys.length)(cs:List α)(h:cs=A++(ys++B)):A++ys.set i v++B=cs.take (A.length+i)++ [v]++cs.drop (A.length+i+1):=by
 subst h;(have h1:(A++(ys++B)).take (A.length+i)=A++ys.take i:=by rw[List.take_append,List.take_of_length_le (by omega),Nat.add_sub_cancel_left,List.take_append_of_le_length (by omega)])
 (have h2:(A++(ys++B)).drop (A.length+i+1)=ys.drop (i+1)++B:=by rw[List.drop_append,List.drop_of_length_le (by omega),show A.length+i+1-A.length=i+1 from by omega,List.nil_append,List.drop_append_of_le_length (by omega)])
 rw[h1,h2,List.set_eq_take_append_cons_drop,if_pos hi];simp[List.append_assoc]
theorem DZ {T:Ty} (i:Int)(y:T.den)(h0:0≤i): ∀(xs:List T.den)(j:Nat),Fa T i y j xs=if(j:Int)≤i then(xs.set (i.toNat-j) y).map (PV.iv T)else xs.map (PV.iv T)|[],j=>(by split<;>rfl)|x::r,j=>by simp only[Fa];rw[DZ i y h0 r (j+1)];by_cases h1:i=(j:Int);(·subst h1;rw[if_pos rfl,if_pos (Int.le_refl _),if_neg (by omega)];simp);·rw[if_neg h1];by_cases h2:(j:Int)≤i;(·rw[if_pos h2,if_pos (by omega)];(have e:i.toNat-j=(i.toNat-(j+1))+1:=by omega);rw[e];simp);·rw[if_neg h2,if_neg (by omega)];rfl
theorem l3 {c:Ctx} {q:PV} {v:Value} (hq:ag c q v): ∀(U:Ty)(off:Nat)(f:U.den→U.den),vF U off q=some f→ ∀(x:U.den)(cs:List Value),aA U x c.w c.M cs→off<cs.length∧aA U (f x) c.w c.M (cs.set off v)∧v.cells= #[v]|.bool,off,f,h,x,cs,hx=>(by simp only[vF]at h;split at h;(·rename_i y;injection h with h;subst h;simp only[ag]at hq;have hv:[v]=[Value.bool y]:=hq.2;injection hv with hv;subst hv;have hx:cs=[.bool x]:=hx;subst hx;exact⟨by simp,rfl,rfl⟩);·cases h)|.int k,off,f,h,x,cs,hx=>(by simp only[vF]at h;split at h;(·rename_i k' y;split at h;(·rename_i he;have he:=Ty.ct he;injection he with he;subst he;injection h with h;subst h;simp only[ag]at hq;have hv:[v]=[Value.int k y]∧_:=hq.2;obtain⟨hv,hb⟩:=hv;injection hv with hv;subst hv;have hx:cs=[.int k x]∧_:=hx;obtain⟨rfl,_⟩:=hx;exact⟨by simp,⟨rfl,hb⟩,rfl⟩);·cases h);·cases h)|.str,off,f,h,x,cs,hx=>(by simp only[vF]at h;split at h;(·rename_i y;injection h with h;subst h;simp only[ag]at hq;have hv:[v]=[Value.string ⟨y.toArray⟩]∧_:=hq.2;obtain⟨hv,hb⟩:=hv;injection hv with hv;subst hv;have hx:cs=[.string ⟨x.toArray⟩]∧_:=hx;obtain⟨rfl,_⟩:=hx;exact⟨by simp,⟨rfl,hb⟩,rfl⟩);·cases h)|.st V,off,f,h,x,cs,hx=>l3 hq V off f h x cs hx|.pair A B,off,f,h,x,cs,hx=>(by obtain⟨va,vb,rfl,ha,hb⟩:=hx;have rZ:=bn _ _ _ _ _ ha;simp only[vF]at h;split at h;(·rename_i cN;split at h;(·rename_i g hg;injection h with h;subst h;obtain⟨h1,h2,h3⟩:=l3 hq A off g hg x.1 va ha;exact⟨by rw[List.length_append];omega,⟨_,_,List.set_append_left _ _ h1,h2,hb⟩,h3⟩);·cases h);·rename_i cN;(have vG:A.cells≤off:=by rcases Nat.lt_or_ge off A.cells with h'|h';(·simp only[Nat.blt]at cN;have:=Nat.ble_eq_true_of_le (Nat.succ_le_of_lt h');rw[this]at cN;cases cN);·exact h');split at h;(·rename_i g hg;injection h with h;subst h;obtain⟨h1,h2,h3⟩:=l3 hq B _ g hg x.2 vb hb;exact⟨by rw[List.length_append];omega,⟨_,_,by rw[List.set_append_right _ _ (by omega),rZ],ha,h2⟩,h3⟩);·cases h)|.unit,_,_,h,_,_,_=>nomatch h|.sl _,_,_,h,_,_,_=>nomatch h|.own _,_,_,h,_,_,_=>nomatch h|.aP _ _,_,_,h,_,_,_=>nomatch h|.ptr _,_,_,h,_,_,_=>nomatch h|.fh _ _,_,_,h,_,_,_=>nomatch h|.mp _ _,_,_,h,_,_,_=>nomatch h|.aq,_,_,h,_,_,_=>nomatch h
theorem wq (hE : aE E) (h : Full n w0 S0 s a w ν S) (ho : bK n o = true) {t : Nat} {x y : Operand} (aK : o.op = .store t x y) (nX : o.dst = none) (ab : aR E (lL E F s.bl t (s.ev x) (s.ev y)) (fun l => K (s.fin o.dst l))) : o.wp E.P a w (fun a' w' => ∃ s', K s' ∧ Rel n w0 S0 s' a' w') Q := by
  have hx := h.ev (aC ho (x := x) (by simp [aK, Op.operands]))
  have hy := h.ev (aC ho (x := y) (by simp [aK, Op.operands]))
  by_cases YL : True
  · simp only [lL] at ab
    split at ab
    · rename_i T hT
      have hf := hE.facts hT
      split at ab
      · rename_i us RD
        obtain ⟨Hr, Ya⟩ := iK hy RD
        split at ab
        · rename_i hle
          have zM := tu hle
          have vy : (a.eval y).cells.size = T.cells := by rw [← zM, bS Hr]; simp
          split at ab
          · rename_i id off bx
            split at ab
            · rename_i cs te hl
              obtain ⟨hl, _⟩ := iL hl
              split at ab
              · rename_i db
                have db := Nat.le_of_ble_eq_true db
                rw [bx] at hx
                simp only [ag] at hx
                obtain ⟨hd, g, hg, hv⟩ := hx
                obtain ⟨gn, g', vs, e, dM, hB, oV, hh, h1, aY⟩ := h.W.bM _ _ hl
                simp only [Full.c] at hg
                simp only at dM hh hB oV
                rw [hg] at dM
                obtain rfl : g = g' := by injection dM with e1; injection e1 with e1; injection e1
                have ep := bS aY
                have hr := jo hf (off := off) hh vy (by rw [← Array.length_toList, ← ep]; exact db) Ya
                have aX : (execOp a.eval o).run E.P w = .ok .skip (w.setRow g (vs.toList.take off ++ (a.eval y).cells.toList ++ vs.toList.drop (off + T.cells)).toArray) := by
                  simp only [execOp, aK, hv, Sem.run_bind, hr, Result.andThen_ok, Sem.run_pure]
                refine iM aX ⟨_, ab, ?_⟩
                rw [nX]
                have iO := eB w g (vs.toList.take off ++ (a.eval y).cells.toList ++ vs.toList.drop (off + T.cells)).toArray
                have Fo : aG (ν id) = some g := by rw [hg]; rfl
                have Cm : Ctx.Le h.c ⟨ν, s.D, w.setRow g (vs.toList.take off ++ (a.eval y).cells.toList ++ vs.toList.drop (off + T.cells)).toArray, ⟨S, aB w0 S0⟩⟩ :=
                  ⟨fun b hb => setRow_other w g b _ (fun e => (h.fX hl Fo).2.1 (e ▸ hb)), fun _ h => h, fun _ h => h, fun _ _ => rfl⟩
                refine (h.nS hl (by rw [Fo]; exact iO) (b' := .box (cs.take off ++ us ++ cs.drop (off + T.cells)) te) ⟨(by exact gn.Hg Fo hh (setRow_heap w g vs _ e _ hh)), g, _, e, hg, hB, oV, setRow_heap w g vs _ e _ hh, ?_, ?_⟩).rel
                · intro u hu
                  simp only [List.mem_append] at hu
                  rcases hu with (hu | hu) | hu
                  · exact h1 u (List.mem_of_mem_take hu)
                  · exact Ya u hu
                  · exact h1 u (List.mem_of_mem_drop hu)
                · exact bC (bC (cR _ (bB Cm aY)) (bB Cm Hr)) (cQ _ (bB Cm aY))
              · exact ab.elim
            · exact ab.elim
          · rename_i id sz i off bx
            split at ab
            · rename_i U xs te hl
              obtain ⟨hl, _⟩ := iL hl
              split at ab
              · rename_i heq
                simp only [Bool.and_eq_true] at heq
                obtain ⟨heq, cM⟩ := heq
                have Ck := Ty.ct heq
                subst Ck
                have cM := Nat.eq_of_beq_eq_true cM
                split at ab
                · rename_i z oI Fp al6
                  rw [bx] at hx
                  simp only [ag] at hx
                  obtain ⟨hd, g, ob, m, cap, cj, SR, hv⟩ := hx
                  have GP := h.W.bM _ _ hl
                  obtain ⟨gn, oS, u, hu, Hq, cm⟩ := GP
                  simp only [Full.c] at cj
                  simp only [List.cons.injEq, and_true] at hu
                  rw [cj] at hu
                  subst hu
                  rcases cm with ⟨hn, _⟩ | ⟨g', o', lQ, cur, e, rY, SS, Lb, oV, hB, hh, tk, fA⟩
                  · cases hn
                  · injection rY with e1 e2 e3
                    injection e1 with e1
                    injection e1 with e1 e4
                    subst e1; subst e4; subst e3; subst e2
                    rw [cM, Nat.add_zero] at hv
                    have qH : i * T.cells + T.cells ≤ cap * T.cells := by
                      calc i * T.cells + T.cells = (i + 1) * T.cells := by rw [Nat.add_mul]; omega
                        _ ≤ cap * T.cells := Nat.mul_le_mul_right _ (by omega)
                    have hr := jo hf (off := ob + i * T.cells) hh vy (by omega) Ya
                    have aX : (execOp a.eval o).run E.P w = .ok .skip (w.setRow g (cur.toList.take (ob + i * T.cells) ++ (a.eval y).cells.toList ++ cur.toList.drop (ob + i * T.cells + T.cells)).toArray) := by
                      simp only [execOp, aK, hv, Sem.run_bind, hr, Result.andThen_ok, Sem.run_pure]
                    refine iM aX ⟨_, ab, ?_⟩
                    rw [nX]
                    have iO := eB w g (cur.toList.take (ob + i * T.cells) ++ (a.eval y).cells.toList ++ cur.toList.drop (ob + i * T.cells + T.cells)).toArray
                    have Fo : aG (ν id) = some g := by rw [cj]; rfl
                    have YM := h.Hp oS oI Fp al6 hy
                    have wu : ∀ b, S b → (w.setRow g (cur.toList.take (ob + i * T.cells) ++ (a.eval y).cells.toList ++ cur.toList.drop (ob + i * T.cells + T.cells)).toArray).heap[b]? = w.heap[b]? := fun b hb => setRow_other w g b _ (fun e => oV (e ▸ hb))
                    have GL := setRow_heap w g cur (cur.toList.take (ob + i * T.cells) ++ (a.eval y).cells.toList ++ cur.toList.drop (ob + i * T.cells + T.cells)).toArray e _ hh
                    generalize SU : (cur.toList.take (ob + i * T.cells) ++ (a.eval y).cells.toList ++ cur.toList.drop (ob + i * T.cells + T.cells)).toArray = Hs at *
                    refine (h.nS (w' := w.setRow g Hs) hl (by rw [Fo]; exact iO) (b' := .arr T (xs.set i z)) ⟨cl _ _, oS, .slice (some ⟨g, ob, none⟩) xs.length cap, by simp only [cj], by rw [List.length_set]; exact Hq, .inr ⟨g, ob, cap, Hs, e, by rw [List.length_set], by rw [List.length_set]; exact SS, Lb, oV, hB, GL, ?_, ?_⟩⟩).rel
                    all_goals subst SU
                    · simp only [List.size_toArray, List.length_append, List.length_take, List.length_drop, Array.length_toList, vy]
                      omega
                    · intro j q hq
                      by_cases dG : i = j
                      · subst dG
                        rw [List.getElem?_set_self SR] at hq
                        · injection hq with hq
                          subst hq
                          refine ⟨(a.eval y).cells.toList, by rw [Array.length_toList, vy], fun k u hk => ?_, au wu (fun _ h => h) _ _ _ oS (iJ hf.val YM)⟩
                          rw [cell_of_row _ _ _ _ _ _ GL]
                          simp only [List.getElem?_toArray]
                          have tp : k < (a.eval y).cells.toList.length := (List.getElem?_eq_some_iff.1 hk).1
                          have vH : (cur.toList.take (ob + i * T.cells)).length = ob + i * T.cells := by simp only [List.length_take, Array.length_toList]; omega
                          rw [List.append_assoc, List.getElem?_append_right (by rw [vH]; omega), vH, List.getElem?_append_left (by omega)]
                          rw [← hk]
                          congr 1
                          omega
                      · rw [List.getElem?_set_ne dG] at hq
                        obtain ⟨cs, ep, hc, xJ⟩ := fA j q hq
                        refine ⟨cs, ep, fun k u hk => ?_, au wu (fun _ h => h) _ _ _ oS xJ⟩
                        have tp : k < cs.length := (List.getElem?_eq_some_iff.1 hk).1
                        have dJ := hc k u hk
                        rw [cell_of_row _ _ _ _ _ _ hh] at dJ
                        rw [cell_of_row _ _ _ _ _ _ GL]
                        simp only [List.getElem?_toArray]
                        have vH : (cur.toList.take (ob + i * T.cells)).length = ob + i * T.cells := by simp only [List.length_take, Array.length_toList]; omega
                        rcases Nat.lt_or_gt_of_ne dG with cN | YN
                        · have hmul : i * T.cells + T.cells ≤ j * T.cells := by
                            calc i * T.cells + T.cells = (i + 1) * T.cells := by rw [Nat.add_mul]; omega
                              _ ≤ j * T.cells := Nat.mul_le_mul_right _ cN
                          rw [List.append_assoc, List.getElem?_append_right (by rw [vH]; omega), vH, List.getElem?_append_right (by rw [Array.length_toList, vy]; omega), List.getElem?_drop, Array.length_toList, vy]
                          rw [← dJ]
                          simp only [Array.getElem?_toList]
                          congr 1
                          omega
                        · have hmul : j * T.cells + T.cells ≤ i * T.cells := by
                            calc j * T.cells + T.cells = (j + 1) * T.cells := by rw [Nat.add_mul]; omega
                              _ ≤ i * T.cells := Nat.mul_le_mul_right _ YN
                          rw [List.append_assoc, List.getElem?_append_left (by rw [vH]; omega), List.getElem?_take, if_pos (by omega)]
                          simpa using dJ
                · exact ab.elim
              · rename_i off _ _ cz
                split at ab
                · rename_i f cM YO
                  have cM := Nat.eq_of_beq_eq_true cM
                  rw [bx] at hx
                  simp only [ag] at hx
                  obtain ⟨hd, g, ob, m, cap, cj, SR, hv⟩ := hx
                  have GP := h.W.bM _ _ hl
                  obtain ⟨gn, oS, u, hu, Hq, cm⟩ := GP
                  simp only [Full.c] at cj
                  simp only [List.cons.injEq, and_true] at hu
                  rw [cj] at hu
                  subst hu
                  rcases cm with ⟨hn, _⟩ | ⟨g', o', lQ, cur, e, rY, SS, Lb, oV, hB, hh, tk, fA⟩
                  · cases hn
                  · injection rY with e1 e2 e3
                    injection e1 with e1
                    injection e1 with e1 e4
                    subst e1; subst e4; subst e3; subst e2
                    rw [cM] at hv
                    have YP : ∀ q, xs[i]? = some q → off < U.cells ∧ (a.eval y).cells = #[a.eval y] := fun q hq => by
                      obtain ⟨cs, ep, _, xJ⟩ := fA i q hq
                      obtain ⟨h1, _, h3⟩ := l3 hy U off f YO q cs xJ
                      exact ⟨by omega, h3⟩
                    obtain ⟨kC, hcv⟩ := YP _ (List.getElem?_eq_getElem SR)
                    have SV : T.cells = 1 := by rw [← vy, hcv]; rfl
                    have qH : i * U.cells + U.cells ≤ cap * U.cells := by
                      calc i * U.cells + U.cells = (i + 1) * U.cells := by rw [Nat.add_mul]; omega
                        _ ≤ cap * U.cells := Nat.mul_le_mul_right _ (by omega)
                    have hr := jo hf (off := ob + i * U.cells + off) hh vy (by omega) Ya
                    rw [SV, hcv] at hr
                    have aX : (execOp a.eval o).run E.P w = .ok .skip (w.setRow g (cur.toList.take (ob + i * U.cells + off) ++ [a.eval y] ++ cur.toList.drop (ob + i * U.cells + off + 1)).toArray) := by
                      simp only [execOp, aK, hv, Sem.run_bind, hr, Result.andThen_ok, Sem.run_pure]
                    refine iM aX ⟨_, ab, ?_⟩
                    rw [nX]
                    have iO := eB w g (cur.toList.take (ob + i * U.cells + off) ++ [a.eval y] ++ cur.toList.drop (ob + i * U.cells + off + 1)).toArray
                    have Fo : aG (ν id) = some g := by rw [cj]; rfl
                    have wu : ∀ b, S b → (w.setRow g (cur.toList.take (ob + i * U.cells + off) ++ [a.eval y] ++ cur.toList.drop (ob + i * U.cells + off + 1)).toArray).heap[b]? = w.heap[b]? := fun b hb => setRow_other w g b _ (fun e => oV (e ▸ hb))
                    have GL := setRow_heap w g cur (cur.toList.take (ob + i * U.cells + off) ++ [a.eval y] ++ cur.toList.drop (ob + i * U.cells + off + 1)).toArray e _ hh
                    have hsp : (cur.toList.take (ob + i * U.cells + off) ++ [a.eval y] ++ cur.toList.drop (ob + i * U.cells + off + 1)).toArray = (cur.toList.set (ob + i * U.cells + off) (a.eval y)).toArray := by
                      rw [List.set_eq_take_append_cons_drop, if_pos (by rw [Array.length_toList]; omega)]
                      simp
                    rw [hsp] at iO wu GL ⊢
                    generalize SU : (cur.toList.set (ob + i * U.cells + off) (a.eval y)).toArray = Hs at *
                    refine (h.nS (w' := w.setRow g Hs) hl (by rw [Fo]; exact iO) (b' := .arr U (xs.modify i f)) ⟨cl _ _, oS, .slice (some ⟨g, ob, none⟩) xs.length cap, by simp only [cj], by rw [List.length_modify]; exact Hq, .inr ⟨g, ob, cap, Hs, e, by rw [List.length_modify], by rw [List.length_modify]; exact SS, Lb, oV, hB, GL, ?_, ?_⟩⟩).rel
                    all_goals subst SU
                    · simp only [List.size_toArray, List.length_set, Array.length_toList]
                      omega
                    · intro j q hq
                      by_cases dG : i = j
                      · subst dG
                        rw [List.getElem?_modify_eq] at hq
                        obtain ⟨q0, hq0, rfl⟩ := Option.map_eq_some_iff.1 (show (xs[i]?).map f = some q from hq)
                        obtain ⟨cs, ep, hc, xJ⟩ := fA i q0 hq0
                        obtain ⟨h1, h2, _⟩ := l3 hy U off f YO q0 cs xJ
                        refine ⟨cs.set off (a.eval y), by rw [List.length_set, ep], fun k u hk => ?_, au wu (fun _ h => h) _ _ _ oS h2⟩
                        rw [cell_of_row _ _ _ _ _ _ GL]
                        simp only [List.getElem?_toArray]
                        by_cases hko : off = k
                        · subst hko
                          rw [List.getElem?_set_self h1] at hk
                          rw [List.getElem?_set_self (by rw [Array.length_toList]; omega)]
                          exact hk
                        · rw [List.getElem?_set_ne hko] at hk
                          rw [List.getElem?_set_ne (by omega)]
                          have dJ := hc k u hk
                          rw [cell_of_row _ _ _ _ _ _ hh] at dJ
                          simpa using dJ
                      · rw [List.getElem?_modify_ne _ _ dG] at hq
                        obtain ⟨cs, ep, hc, xJ⟩ := fA j q hq
                        refine ⟨cs, ep, fun k u hk => ?_, au wu (fun _ h => h) _ _ _ oS xJ⟩
                        have tp : k < cs.length := (List.getElem?_eq_some_iff.1 hk).1
                        have dJ := hc k u hk
                        rw [cell_of_row _ _ _ _ _ _ hh] at dJ
                        rw [cell_of_row _ _ _ _ _ _ GL]
                        simp only [List.getElem?_toArray]
                        have cz : ob + i * U.cells + off ≠ ob + j * U.cells + k := by
                          rcases Nat.lt_or_gt_of_ne dG with cN | YN
                          · have hmul : i * U.cells + U.cells ≤ j * U.cells := by
                              calc i * U.cells + U.cells = (i + 1) * U.cells := by rw [Nat.add_mul]; omega
                                _ ≤ j * U.cells := Nat.mul_le_mul_right _ cN
                            omega
                          · have hmul : j * U.cells + U.cells ≤ i * U.cells := by
                              calc j * U.cells + U.cells = (j + 1) * U.cells := by rw [Nat.add_mul]; omega
                                _ ≤ i * U.cells := Nat.mul_le_mul_right _ YN
                            omega
                        rw [List.getElem?_set_ne cz]
                        simpa using dJ
                · exact ab.elim
            · exact ab.elim
          · rename_i id base U m i bx
            split at ab
            · rename_i cs te hl
              obtain ⟨hl, _⟩ := iL hl
              split at ab
              · rename_i xs z Cj hb hz
                simp only [Bool.and_eq_true] at hb
                obtain ⟨⟨Ck, Fm⟩, db⟩ := hb
                have Ck := Ty.ct Ck
                subst Ck
                have db := Nat.le_of_ble_eq_true db
                obtain ⟨j1, j2, j3⟩ := qK Fm (.iv T z)
                have hq := zW hz
                rw [bx] at hx
                simp only [ag] at hx
                obtain ⟨hd, h0, hn, g, hg, hv⟩ := hx
                obtain ⟨gn, g', vs, e, dM, hB, oV, hh, h1, aY⟩ := h.W.bM _ _ hl
                simp only [Full.c] at hg
                simp only at dM hh hB oV
                rw [hg] at dM
                obtain rfl : g = g' := by injection dM with e1; injection e1 with e1; injection e1
                have ep := bS aY
                have al7 : us = [.iv T z] := by
                  rw [hq] at RD
                  cases T <;> first | (cases Fm; done) | (simp only [PV.cells, Ty.val, Option.some.injEq, cellsOf] at RD; exact RD.symm)
                have LO := tr Cj
                have D0 : xs.length = m := by
                  have := congrArg List.length LO
                  rw [List.length_take, List.length_drop, List.length_map] at this
                  omega
                have SR : i.toNat < m := by omega
                have al8 : cs.take base ++ Fa T i z 0 xs ++ cs.drop (base + m) = cs.take (base + i.toNat) ++ us ++ cs.drop (base + i.toNat + T.cells) := by
                  have e0 := DZ i z h0 xs 0
                  simp only [Int.natCast_zero, Nat.sub_zero, if_pos h0] at e0
                  have hsp : cs = cs.take base ++ (xs.map (PV.iv T) ++ cs.drop (base + m)) := by
                    have := LO
                    rw [← this]
                    conv => lhs; rw [← List.take_append_drop base cs]
                    congr 1
                    conv => lhs; rw [← List.take_append_drop m (cs.drop base)]
                    rw [List.drop_drop]
                  have vH : (cs.take base).length = base := by rw [List.length_take]; omega
                  have hml : (xs.map (PV.iv T)).length = m := by rw [List.length_map]; exact D0
                  rw [e0, al7, j2, List.map_set]
                  have hss := Cl (cs.take base) (xs.map (PV.iv T)) (cs.drop (base + m)) i.toNat (.iv T z) (by omega) cs hsp
                  rw [vH] at hss
                  exact hss
                rw [al8] at ab
                have hr := jo hf (off := base + i.toNat) hh vy (by rw [← Array.length_toList, ← ep]; omega) Ya
                have aX : (execOp a.eval o).run E.P w = .ok .skip (w.setRow g (vs.toList.take (base + i.toNat) ++ (a.eval y).cells.toList ++ vs.toList.drop (base + i.toNat + T.cells)).toArray) := by
                  simp only [execOp, aK, hv, Sem.run_bind, hr, Result.andThen_ok, Sem.run_pure]
                refine iM aX ⟨_, ab, ?_⟩
                rw [nX]
                have iO := eB w g (vs.toList.take (base + i.toNat) ++ (a.eval y).cells.toList ++ vs.toList.drop (base + i.toNat + T.cells)).toArray
                have Fo : aG (ν id) = some g := by rw [hg]; rfl
                have Cm : Ctx.Le h.c ⟨ν, s.D, w.setRow g (vs.toList.take (base + i.toNat) ++ (a.eval y).cells.toList ++ vs.toList.drop (base + i.toNat + T.cells)).toArray, ⟨S, aB w0 S0⟩⟩ :=
                  ⟨fun b hb => setRow_other w g b _ (fun e => (h.fX hl Fo).2.1 (e ▸ hb)), fun _ h => h, fun _ h => h, fun _ _ => rfl⟩
                refine (h.nS hl (by rw [Fo]; exact iO) (b' := .box (cs.take (base + i.toNat) ++ us ++ cs.drop (base + i.toNat + T.cells)) te) ⟨(by exact gn.Hg Fo hh (setRow_heap w g vs _ e _ hh)), g, _, e, hg, hB, oV, setRow_heap w g vs _ e _ hh, ?_, ?_⟩).rel
                · intro u hu
                  simp only [List.mem_append] at hu
                  rcases hu with (hu | hu) | hu
                  · exact h1 u (List.mem_of_mem_take hu)
                  · exact Ya u hu
                  · exact h1 u (List.mem_of_mem_drop hu)
                · exact bC (bC (cR _ (bB Cm aY)) (bB Cm Hr)) (cQ _ (bB Cm aY))
              · exact ab.elim
            · exact ab.elim
          · exact ab.elim
        · exact ab.elim
      · exact ab.elim
    · exact ab.elim
  · exact absurd trivial YL
theorem b5.field {E:Env} (hE:aE E) {t:Nat} {T:Ty} (hf:b5 E t T)(hs:E.str t=true) {i:Nat} (hi:i<gM T): ∃fs f,E.P.underlying t=some (.struct fs)∧fs[i]?=some f∧f.offset=gZ T i∧b5 E f.type (lh T i)∧1≤(lh T i).cells:=by
 (cases T<;>first|(simp[gM]at hi;done)|skip);rename_i R;rcases hf.agg hE with⟨fs,hu,vK,YG⟩|⟨m,e,V,hu,he,rfl,hV,hV1,hm⟩;(·obtain⟨f,h1,h2,h3,h4,h5,h6⟩:=YG i hi;exact⟨fs,f,hu,h1,h2,hE.facts h3,h4⟩)
 ·have:=hf.str _ _ rfl hu;simp only at this;rw[hs]at this;cases this
theorem b5.array {E:Env} (hE:aE E) {t:Nat} {R:Ty} (hf:b5 E t (.st R))(hs:E.str t=false): ∃m e,E.P.underlying t=some (.array m e)∧b5 E e (a8 R 0)∧bL R=m∧ ∀i,i<m→dy R i=i*(a8 R 0).cells:=by
 rcases hf.agg hE with⟨fs,hu,vK,YG⟩|⟨m,e,V,hu,he,rfl,hV,hV1,hm⟩;(·have:=hf.str _ _ rfl hu;simp only at this;rw[hs]at this;cases this);·have h0:=(jR V hV m 0 (by omega)).2;refine⟨m,e,hu,by rw[h0];exact hE.facts he,mU V hV m (by omega),fun i hi=>?_⟩;rw[h0];exact(jR V hV m i hi).1
theorem xK(hE:aE E)(h:Full n w0 S0 s a w ν S)(ho:bK n o=true) {t f:Nat} {x:Operand} (aK:o.op= .fieldAddr t x f)(ab:aR E (ai E F s o) (fun l=>K (s.fin o.dst l))):o.wp E.P a w (fun a' w'=> ∃s',K s'∧Rel n w0 S0 s' a' w') Q:=by
 simp only[ai,aK]at ab;have hx:=h.ev (aC ho (x:=x) (by simp[aK,Op.operands]));split at ab;(·rename_i T hT;split at ab;(·rename_i hb;simp only[Bool.and_eq_true,Nat.blt_eq]at hb;obtain⟨fs,fd,hu,hfd,kC,Ht,GQ⟩:=(hE.facts hT).field hE hb.2 hb.1;(have aX: ∀(g ob:Nat),a.eval x= .pointer (some ⟨g,ob,none⟩)→(execOp a.eval o).run E.P w= .ok (.value (.pointer (some ⟨g,ob+gZ T f,none⟩))) w:=by intro g ob he;have cM:=Ht.sizeOf w;simp only[execOp,aK,he,Instr.fieldAt,Sem.run_bind,run_underlying hu,Result.andThen_ok,hfd,Instr.sureAddr,Sem.run_pure,fieldPlace,cM,Sem.run_ite];rw[if_neg (by omega)];simp only[Result.andThen_ok,kC,dj,Sem.run_pure]);split at ab;(·rename_i id off bx;rw[bx]at hx;simp only[ag]at hx;obtain⟨hd,g,hg,hv⟩:=hx;refine h.val ho (aX _ _ hv) ?_ ab;simp only[ag];exact⟨hd,g,hg,rfl⟩);(·rename_i U y off bx;rw[bx]at hx;simp only[ag]at hx;obtain⟨oS,g,ob,cs,hv,r⟩:=hx;refine h.val ho (aX _ _ hv) ?_ ab;simp only[ag];exact⟨oS,g,ob,cs,by rw[Nat.add_assoc],r⟩);(·rename_i id sz i off bx;rw[bx]at hx;simp only[ag]at hx;obtain⟨hd,g,ob,m,cap,cj,SR,hv⟩:=hx;refine h.val ho (aX _ _ hv) ?_ ab;simp only[ag];exact⟨hd,g,ob,m,cap,cj,SR,by rw[Nat.add_assoc]⟩);·exact ab.elim);·exact ab.elim)
 ·exact ab.elim
theorem gE {E:Env} {t:Nat} {T:Ty} (hf:b5 E t T) {w:World} {cs:Array Value} {off:Nat} (hl:off+T.cells≤cs.size):(Go.part t cs off).run E.P w= .ok (valOf T ((cs.toList.drop off).take T.cells)) w:=by
 unfold Go.part;simp only[Sem.run_bind,hf.isAgg w,Result.andThen_ok];have hT:=hf.val;cases T with|st r=>simp only[Hi,if_true,Sem.run_bind,hf.sizeOf w,Result.andThen_ok,Sem.run_pure,valOf];congr 2;apply Array.toList_inj.1;simp[Array.toList_extract]|unit=>cases hT|pair a b=>cases hT|aP a b=>cases hT|_=>simp only[Ty.cells]at hl;simp only[Hi,Bool.false_eq_true,if_false,Ty.cells,valOf];rw[Array.getElem?_eq_getElem (by omega)];rw[List.drop_eq_getElem_cons (by simpa using(by omega:off<cs.size))];simp
theorem o8 {c:Ctx} {p:PV} {v:Value} {cs:List PV} (h:ag c p v)(hc:iB p=some cs):aj c cs v.cells.toList∧(∀u,u∈v.cells.toList→u.oneCell'=true)∧ ∃us,v= .agg us:=by
 cases p with|iv T x=>(cases T with|st R=>simp only[iB]at hc;(have lj:(PV.iv (.st R) x).cells=some cs:=by simp only[PV.cells,Ty.val];exact hc);obtain⟨h1,h2⟩:=iK h lj;simp only[ag]at h;obtain⟨_,vs,hv,_⟩:=h;exact⟨h1,h2,_,hv⟩|_=>simp only[iB]at hc;cases hc)|agg ps=>have lj:(PV.agg ps).cells=some cs:=hc;obtain⟨h1,h2⟩:=iK h lj;simp only[ag]at h;obtain⟨vs,hv,_⟩:=h;exact⟨h1,h2,_,hv⟩|_=>simp only[iB]at hc;cases hc
theorem Hu(hE:aE E)(h:Full n w0 S0 s a w ν S)(ho:bK n o=true) {t f:Nat} {x:Operand} (aK:o.op= .field t x f)(ab:aR E (ai E F s o) (fun l=>K (s.fin o.dst l))):o.wp E.P a w (fun a' w'=> ∃s',K s'∧Rel n w0 S0 s' a' w') Q:=by
 simp only[ai,aK]at ab;have hx:=h.ev (aC ho (x:=x) (by simp[aK,Op.operands]));split at ab;(·rename_i T cs hT xI;split at ab;(·rename_i db hb;simp only[Bool.and_eq_true,Nat.blt_eq]at hb;have db:=Nat.le_of_ble_eq_true db;obtain⟨fs,fd,hu,hfd,kC,Ht,GQ⟩:=(hE.facts hT).field hE hb.2 hb.1;obtain⟨hp,h1,us,hv⟩:=o8 hx xI;rw[hv]at hp h1;simp only[Value.cells]at hp h1;rw[bS hp]at db;have aX:=gE (E:=E) Ht (w:=w) (cs:=us) (off:=gZ T f) (by simpa using db);refine h.val ho ?_ (gD (by rw[List.length_take,List.length_drop];omega) Ht.val (fun u hu=>h1 u (List.mem_of_mem_drop (List.mem_of_mem_take hu))) (cR _ (cQ _ hp))) ab;simp only[execOp,aK,hv,Instr.field,Sem.run_bind,run_underlying hu,Result.andThen_ok,hfd,asAgg,Sem.run_pure,kC,aX]);·exact ab.elim)
 ·exact ab.elim
theorem xL(hE:aE E)(h:Full n w0 S0 s a w ν S)(ho:bK n o=true) {t:Nat} {x i:Operand} (aK:o.op= .indexAddr t x i)(ab:aR E (ai E F s o) (fun l=>K (s.fin o.dst l))):o.wp E.P a w (fun a' w'=> ∃s',K s'∧Rel n w0 S0 s' a' w') Q:=by
 simp only[ai,aK]at ab;have hx:=h.ev (aC ho (x:=x) (by simp[aK,Op.operands]));have hi:=h.ev (aC ho (x:=i) (by simp[aK,Op.operands]));split at ab;(·rename_i k m Hv;rw[Hv]at hi;obtain⟨Lf,_⟩:=br hi;(have lB: ∀ {U:Ty} (hT:E.ty t=some (.sl U))(g ob len cap:Nat),a.eval x= .slice (some ⟨g,ob,none⟩) len cap→0≤m→m<len→(execOp a.eval o).run E.P w= .ok (.value (.pointer (some ⟨g,ob+m.toNat*U.cells,none⟩))) w:=by intro U hT g ob len cap he h0 h1;obtain⟨e,hu,hee,lW,_⟩:=(hE.facts hT).elem hE;have cM:=lW.sizeOf w;simp only[execOp,aK,he,Lf,Instr.indexAt,asIntOf,Sem.run_bind,Sem.run_pure,Result.andThen_ok,run_underlying hu,Sem.run_ite];rw[if_pos ⟨h0,h1⟩];simp only[Sem.run_bind,cM,Result.andThen_ok,Sem.run_pure,dj]);(have Fp: ∀ {R:Ty} (hT:E.ty t=some (.st R))(hs:E.str t=false)(g ob:Nat),a.eval x= .pointer (some ⟨g,ob,none⟩)→0≤m→m<bL R→(execOp a.eval o).run E.P w= .ok (.value (.pointer (some ⟨g,ob+m.toNat*(a8 R 0).cells,none⟩))) w:=by intro R hT hs g ob he h0 h1;obtain⟨l,e,hu,lW,ep,_⟩:=(hE.facts hT).array hE hs;have cM:=lW.sizeOf w;simp only[execOp,aK,he,Lf,Instr.indexAt,asIntOf,Sem.run_bind,Sem.run_pure,Result.andThen_ok,run_underlying hu,Instr.sureAddr,Sem.run_ite];rw[if_pos ⟨h0,by rw[←ep];exact h1⟩];simp only[Sem.run_bind,cM,Result.andThen_ok,Sem.run_pure,dj]);simp only[jF]at ab;split at ab;(·rename_i T xs bx;rw[bx]at hx;split at ab;(·rename_i U hT;split at ab;(·rename_i heq;have Ck:=Ty.ct heq;subst Ck;obtain⟨h0,y,hy,ab⟩:=ab;simp only[ag]at hx;obtain⟨mR,aa,cap,hv,hle,jP,cm⟩:=hx;injection hv with hv;have cN:m.toNat<xs.length:=(List.getElem?_eq_some_iff.1 hy).1;rcases cm with rfl|⟨g,ob,rfl,hS,fA⟩;(·simp at cN);·obtain⟨cs,ep,hc,hr⟩:=fA _ y hy;refine h.val ho (lB hT g ob xs.length cap hv h0 ((Int.toNat_lt h0).1 cN)) ?_ ab;simp only[ag];exact⟨by simpa[aJ]using mR,g,ob+m.toNat*T.cells,cs,by rw[Nat.add_zero],hS,ep,hc,hr⟩);·exact ab.elim);·exact ab.elim);(·rename_i id bx;rw[bx]at hx;split at ab;(·rename_i T xs te U hl hT;obtain⟨hl,_⟩:=bW hl;split at ab;(·rename_i heq;have Ck:=Ty.ct heq;subst Ck;obtain⟨⟨h0,h1⟩,ab⟩:=ab;simp only[ag]at hx;obtain⟨hd,cj,_⟩:=hx;obtain⟨gn,oS,u,hu,Hq,cm⟩:=h.W.bM _ _ hl;simp only[List.cons.injEq,and_true]at hu;simp only[Full.c]at cj;rcases cm with⟨hn,rfl⟩|⟨g,ob,cap,cur,e,rY,_⟩;(·simp at h1;omega);·rw[rY]at hu;rw[hu]at cj;refine h.val ho (lB hT g ob xs.length cap cj h0 h1) ?_ ab;simp only[ag];exact⟨hd,g,ob,xs.length,cap,hu,by omega,by rw[Nat.add_zero]⟩);·exact ab.elim);·exact ab.elim);(·rename_i id sz off len bx;rw[bx]at hx;split at ab;(·rename_i U hT;split at ab;(·rename_i cM;have cM:=Nat.eq_of_beq_eq_true cM;obtain⟨⟨h0,h1⟩,ab⟩:=ab;simp only[ag]at hx;obtain⟨hd,aa,m',cap,b,cj,hn,jP,hv,hb⟩:=hx;obtain⟨g,ob,rfl,rfl⟩:=hb (by omega);refine h.val ho (lB hT g _ _ _ hv h0 h1) ?_ ab;simp only[ag];exact⟨hd,g,ob,m',cap,cj,by omega,by rw[cM,Nat.add_mul,Nat.add_zero,Nat.add_assoc]⟩);·exact ab.elim);·exact ab.elim);(·rename_i id off bx;rw[bx]at hx;split at ab;(·rename_i R hT hs;simp only[ag]at hx;obtain⟨hd,g,hg,hv⟩:=hx;split at ab;(·rename_i hb;simp only[Bool.and_eq_true]at hb;have GQ:=Nat.eq_of_beq_eq_true hb.2;obtain⟨⟨h0,h1⟩,ab⟩:=ab;refine h.val ho (Fp hT hs g off hv h0 h1) ?_ ab;simp only[ag];exact⟨hd,h0,h1,g,hg,by rw[GQ,Nat.mul_one]⟩);·obtain⟨⟨h0,h1⟩,ab⟩:=ab;refine h.val ho (Fp hT hs g off hv h0 h1) ?_ ab;simp only[ag];exact⟨hd,g,hg,rfl⟩);·exact ab.elim);(·rename_i U y off bx;rw[bx]at hx;split at ab;(·rename_i R hT hs;obtain⟨⟨h0,h1⟩,ab⟩:=ab;simp only[ag]at hx;obtain⟨oS,g,ob,cs,hv,r⟩:=hx;refine h.val ho (Fp hT hs g _ hv h0 h1) ?_ ab;simp only[ag];exact⟨oS,g,ob,cs,by rw[Nat.add_assoc],r⟩);·exact ab.elim);·exact ab.elim)
 ·exact ab.elim
theorem Hw(hE:aE E)(h:Full n w0 S0 s a w ν S)(ho:bK n o=true) {t:Nat} {x i:Operand} (aK:o.op= .index t x i)(ab:aR E (ai E F s o) (fun l=>K (s.fin o.dst l))):o.wp E.P a w (fun a' w'=> ∃s',K s'∧Rel n w0 S0 s' a' w') Q:=by
 simp only[ai,aK]at ab;have hx:=h.ev (aC ho (x:=x) (by simp[aK,Op.operands]));have hi:=h.ev (aC ho (x:=i) (by simp[aK,Op.operands]));split at ab;(·rename_i xs k m tv Hv hT;obtain⟨d,hu,vA⟩:=(hE.facts hT).nJ;(have hd:d= .string:=by cases d<;>first|rfl|cases vA);subst hd;rw[Hv]at hi;rw[tv]at hx;obtain⟨Lf,_⟩:=br hi;obtain⟨BY,_⟩:=dk hx;obtain⟨h0,c,⟨u,mW,rfl⟩,ab⟩:=ab;refine h.val ho (v:=.int .u8 u.toNat) ?_ (bZ (by have:=u.toNat_lt;constructor<;>simp[IntKind.min,IntKind.max,IntKind.signed,IntKind.bits]<;>omega)) ab;simp only[execOp,aK,BY,Lf,Instr.index,asIntOf,Sem.run_bind,Sem.run_pure,Result.andThen_ok,run_underlying hu];rw[if_pos h0];(have:(⟨xs.toArray⟩:ByteArray)[m.toNat]?=some u:=by have hl:m.toNat<xs.length:=(List.getElem?_eq_some_iff.1 mW).1;have hs:m.toNat<(⟨xs.toArray⟩:ByteArray).size:=hl;rw[getElem?_pos (⟨xs.toArray⟩:ByteArray) m.toNat hs];have:=(List.getElem?_eq_some_iff.1 mW).2;rw[←this];rfl);rw[this];rfl)
 (·exact ab.elim);(·rename_i k m R Hv hT _;split at ab;(·rename_i cs xI LQ;split at ab;(·rename_i xs Cj Fm;obtain⟨⟨h0,h1⟩,z,hz,ab⟩:=ab;rw[Hv]at hi;obtain⟨Lf,_⟩:=br hi;obtain⟨l,e,hu,lW,ep,_⟩:=(hE.facts hT).array hE LQ;obtain⟨aY,h1c,us,BY⟩:=o8 hx xI;obtain⟨j1,j2,j3⟩:=qK Fm (.iv (a8 R 0) z);have hlen:=bS aY;rw[BY]at aY hlen;simp only[Value.cells]at aY hlen;obtain⟨e1,e2,e3⟩:=DY (base:=0) (m:=cs.length) (by rw[List.drop_zero,List.take_length];exact Cj) hz;rw[Nat.zero_add]at e1 e3;(have hle:m.toNat*(a8 R 0).cells+(a8 R 0).cells≤us.size:=by rw[j2,Nat.mul_one,←Array.length_toList,←hlen];omega);have hp:=gE lW (w:=w) (cs:=us) (off:=m.toNat*(a8 R 0).cells) hle;refine h.val ho (v:=valOf (a8 R 0) ((us.toList.drop (m.toNat*(a8 R 0).cells)).take (a8 R 0).cells)) ?_ ?_ ab;(·simp only[execOp,aK,BY,Lf,Instr.index,asIntOf,Sem.run_bind,Sem.run_pure,Result.andThen_ok,run_underlying hu,Sem.run_ite];rw[if_pos ⟨h0,by rw[←ep];exact h1⟩];simp only[Sem.run_bind,lW.sizeOf w,Result.andThen_ok,hp,Sem.run_pure]);·(have lr: ∀u,u∈us.toList→u.oneCell'=true:=by intro u mW;rw[BY]at h1c;exact h1c u mW);have hjr:=gD (T:=a8 R 0) (c:=h.c) (vs:=(us.toList.drop m.toNat).take (a8 R 0).cells) (by rw[List.length_take,List.length_drop,j2,←hlen];omega) lW.val (fun u hu=>lr u (List.mem_of_mem_drop (List.mem_of_mem_take hu))) (cR (a8 R 0).cells (cQ m.toNat aY));rw[j2,e1,j1]at hjr;rw[j2,Nat.mul_one];exact hjr);·exact ab.elim);·exact ab.elim)
 ·exact ab.elim
end
end Go.Proofs.YtmgmonbmdkkhbaaGreatDoor
namespace Go.Proofs.YtmgmonbmdkkhbaaGreatDoor
variable {c8:Prop} [hZ c8]
open Go.RowKit
theorem xM {α:Type} (xs:List α)(lo hi:Option Int):cut xs lo hi=(xs.drop (b9 lo)).take (fx xs.length hi-b9 lo):=by
 cases lo<;>cases hi<;>simp[cut,b9,fx];exact(List.take_of_length_le (by simp)).symm
def o9:Option Int→Option Value→Prop|none,none=>True|some n,some v=> ∃k,v= .int k n|_,_=>False
theorem gQ {P:Program} {w:World} {isSlice:Bool} {len cap:Nat} {lo hi:Option Int} {vl vh:Option Value} (Lg:o9 lo vl)(SW:o9 hi vh)(h:jj len lo hi)(hc:len≤cap):(Instr.sliceBounds isSlice len cap vl vh none).run P w= .ok (b9 lo,fx len hi,cap) w:=by
 (have sb: ∀(k:IntKind)(n:Int)(y:Nat)(code:BoundsCode),0≤n→n≤y→(Instr.sliceBound (.int k n) y code).run P w= .ok n.toNat w:=by intro k n y code h0 h1;simp only[Instr.sliceBound,asIntOf,Sem.run_bind,Sem.run_pure,Result.andThen_ok,Sem.run_ite];rw[if_pos ⟨h0,h1⟩])
 cases lo with|none=>(cases vl with|some v=>exact Lg.elim|none=>cases hi with|none=>(cases vh with|some v=>exact SW.elim|none=>simp[Instr.sliceBounds,b9,fx])|some m=>cases vh with|none=>exact SW.elim|some v=>obtain⟨k,rfl⟩:=SW;obtain⟨h0,h1⟩:=h;cases isSlice<;>simp[Instr.sliceBounds,b9,fx,sb _ _ _ _ h0 (show m≤(cap:Int)by omega)])|some l=>cases vl with|none=>exact Lg.elim|some v=>obtain⟨k,rfl⟩:=Lg;cases hi with|none=>(cases vh with|some v=>exact SW.elim|none=>obtain⟨h0,h1⟩:=h;simp[Instr.sliceBounds,b9,fx,sb _ _ _ _ h0 h1])|some m=>cases vh with|none=>exact SW.elim|some v=>obtain⟨k',rfl⟩:=SW;obtain⟨h0,h1,h2⟩:=h;have e1:(0:Int)≤m:=Int.le_trans h0 h1;cases isSlice<;>simp[Instr.sliceBounds,b9,fx,sb _ _ _ _ e1 (show m≤(cap:Int)by omega),sb _ _ _ _ h0 (show l≤(m.toNat:Int)by omega)]
theorem qL {P:Program} {w:World} {isSlice:Bool} {len cap:Nat} {lo:Option Int} {m:Int} {k k':IntKind} {vl:Option Value} (Lg:o9 lo vl)(h:jj len lo (some m))(hc:len≤cap):(Instr.sliceBounds isSlice len cap vl (some (.int k m)) (some (.int k' m))).run P w= .ok (b9 lo,m.toNat,m.toNat) w:=by
 (have sb: ∀(k:IntKind)(n:Int)(y:Nat)(code:BoundsCode),0≤n→n≤y→(Instr.sliceBound (.int k n) y code).run P w= .ok n.toNat w:=by intro k n y code h0 h1;simp only[Instr.sliceBound,asIntOf,Sem.run_bind,Sem.run_pure,Result.andThen_ok,Sem.run_ite];rw[if_pos ⟨h0,h1⟩])
 cases lo with|none=>(cases vl with|some v=>exact Lg.elim|none=>obtain⟨h0,h1⟩:=h;cases isSlice<;>simp[Instr.sliceBounds,b9,sb _ _ _ _ h0 (show m≤(cap:Int)by omega),sb _ _ _ _ h0 (show m≤(m.toNat:Int)by omega)])|some l=>cases vl with|none=>exact Lg.elim|some v=>obtain⟨k,rfl⟩:=Lg;obtain⟨h0,h1,h2⟩:=h;have e1:(0:Int)≤m:=Int.le_trans h0 h1;cases isSlice<;>simp[Instr.sliceBounds,b9,sb _ _ _ _ e1 (show m≤(cap:Int)by omega),sb _ _ _ _ e1 (show m≤(m.toNat:Int)by omega),sb _ _ _ _ h0 (show l≤(m.toNat:Int)by omega)]
theorem iP {n:Nat} {lo hi:Option Int} (h:jj n lo hi):b9 lo≤fx n hi∧fx n hi≤n:=by cases lo<;>cases hi<;>simp only[jj,b9,fx]at* <;>omega
theorem zX {T:Ty} {w:World} {M:Mem} {a:Option Addr} {cap:Nat} (h:cap≤9223372036854775807):aA (.sl T) ([]:List T.den) w M [.slice a 0 cap]:=⟨a,cap,rfl,Nat.zero_le _,h,.inl rfl⟩
section
variable {E:Env} {n:Nat} {w0:World} {S0:Cx} {s:St} {a:Act} {w:World} {ν:Nat→Value} {S:Nat→Prop} {F:cG} {o:Oper} {K:St→Prop} {Q:Exit→Act→World→Prop}
theorem wv(h:Full n w0 S0 s a w ν S) {x:Option Operand} {b:Option Int} (hc: ∀y,x=some y→kE y=true)(hb:bound s x=some b):o9 b (x.map a.eval):=by
 cases x with|none=>simp only[bound,Option.some.injEq]at hb;subst hb;trivial|some y=>simp only[bound]at hb;split at hb;(·rename_i k m bx;simp only[Option.some.injEq]at hb;subst hb;have hy:=h.ev (hc y rfl);rw[bx]at hy;exact⟨k,(br hy).1⟩);·cases hb
theorem zY(xs:List UInt8)(l h:Nat):(⟨xs.toArray⟩:ByteArray).extract l h=⟨((xs.drop l).take (h-l)).toArray⟩:=by
 apply ByteArray.ext;rw[ByteArray.data_extract];apply Array.toList_inj.1;simp[Array.toList_extract]
theorem zZ {w:World} {M:Mem} : ∀(U:Ty)(x:U.den)(l:List Nat)(cs:List Value),ko U x=some l→aA U x w M cs→cs=l.map fun f=>Value.func (.func f) #[] #[]|.aq,x,l,cs,h,hr=>(by simp only[ko,Option.some.injEq]at h;subst h;exact hr)|.pair A B,x,l,cs,h,hr=>(by cases A with|aq=>simp only[ko]at h;split at h;(·rename_i l' hl;injection h with h;subst h;obtain⟨va,vb,rfl,ha,hb⟩:=hr;have ha:va=[.func (.func x.1) #[] #[]]:=ha;rw[zZ B x.2 l' vb hl hb,ha];rfl);(·cases h)|_=>simp[ko]at h)|.unit,x,l,cs,h,hr=>(by simp[ko]at h)|.int _,x,l,cs,h,hr=>(by simp[ko]at h)|.bool,x,l,cs,h,hr=>(by simp[ko]at h)|.str,x,l,cs,h,hr=>(by simp[ko]at h)|.sl _,x,l,cs,h,hr=>(by simp[ko]at h)|.own _,x,l,cs,h,hr=>(by simp[ko]at h)|.st _,x,l,cs,h,hr=>(by simp[ko]at h)|.aP _ _,x,l,cs,h,hr=>(by simp[ko]at h)|.ptr _,x,l,cs,h,hr=>(by simp[ko]at h)|.fh _ _,x,l,cs,h,hr=>(by simp[ko]at h)|.mp _ _,x,l,cs,h,hr=>by simp[ko]at h
theorem Hx(hE:aE E)(h:Full n w0 S0 s a w ν S)(ho:bK n o=true) {t:Nat} {x:Operand} {lo hi mx:Option Operand} (aK:o.op= .slice t x lo hi mx)(ab:aR E (ai E F s o) (fun l=>K (s.fin o.dst l))):o.wp E.P a w (fun a' w'=> ∃s',K s'∧Rel n w0 S0 s' a' w') Q:=by
 simp only[ai,aK]at ab;have hx:=h.ev (aC ho (x:=x) (by simp[aK,Op.operands]));split at ab;(·rename_i bl bh T gP hbh hT;have hrl:=wv h (fun y hy=>aC ho (by simp[aK,Op.operands,hy])) gP;have YQ:=wv h (fun y hy=>aC ho (by simp[aK,Op.operands,hy])) hbh;have hf:=hE.facts hT;cases mx with|none=>simp only[kr]at ab;split at ab;(·split at ab;(·rename_i y bx;rw[bx]at hx;obtain⟨hv,hl⟩:=dk hx;obtain⟨iQ,ab⟩:=ab;obtain⟨d,hu,vA⟩:=hf.nJ;(have hd:d= .string:=by cases d<;>first|rfl|cases vA);subst hd;have hb:=gQ (P:=E.P) (w:=w) (isSlice:=false) (cap:=y.length) hrl YQ iQ (Nat.le_refl _);(have cM:(⟨y.toArray⟩:ByteArray).size=y.length:=by simp[ByteArray.size]);refine h.val ho (v:=.string ⟨(cut y bl bh).toArray⟩) ?_ (lY (by rw[xM];simp;omega)) ab;simp only[execOp,aK,hv,Instr.sliceAt,Sem.run_bind,run_underlying hu,Result.andThen_ok,Instr.slice,Option.map_none,Option.isSome_none,Bool.false_eq_true,if_false,Sem.run_pure,cM,hb,zY,xM]);·exact ab.elim);(·rename_i T;obtain⟨e,hu,hee,lW,jg,qH⟩:=hf.elem hE;have cM:=lW.sizeOf w;(have aX: ∀(aa:Option Addr)(len cap:Nat),a.eval x= .slice aa len cap→jj len bl bh→len≤cap→(execOp a.eval o).run E.P w= .ok (.value (.slice (if cap=b9 bl then aa else aa.map (·.add (b9 bl*T.cells))) (fx len bh-b9 bl) (cap-b9 bl))) w:=by intro aa len cap he iQ hlc;have hb:=gQ (P:=E.P) (w:=w) (isSlice:=true) hrl YQ iQ hlc;simp only[execOp,aK,he,Instr.sliceAt,Sem.run_bind,run_underlying hu,Result.andThen_ok,Instr.slice,Option.map_none,hb,cM,Sem.run_pure]);split at ab;(·rename_i U xs bx;split at ab;(·rename_i xs' iR;obtain⟨e',jH⟩:=Ty.aW iR;injection e' with e';subst e';simp only at jH;subst jH;rw[bx]at hx;simp only[ag]at hx;obtain⟨mR,bN⟩:=hx;obtain⟨iQ,ab⟩:=ab;have z7:aA (.sl U) xs w ⟨S,aB w0 S0⟩ [a.eval x]:=bN;obtain⟨aa,cap,hv,hle,jP,cm⟩:=bN;injection hv with hv;obtain⟨ck,cH⟩:=iP iQ;refine h.val ho (aX aa _ cap hv iQ hle) ?_ ab;simp only[ag];refine⟨mR,?_⟩;rw[xM];rw[hv]at z7;rcases cm with rfl|⟨g,ob,rfl,_⟩;(·simp only[List.length_nil]at cH ck;(have h0:fx 0 bh=0:=by omega);(have h1:b9 bl=0:=by omega);simp only[List.length_nil,h0,h1,List.drop_nil,List.take_nil];exact zX (by omega));·exact si (off:=b9 bl) (len:=fx xs.length bh-b9 bl) z7 (by omega) (fun cN=>⟨g,ob,rfl,by rw[if_neg (by omega)];simp[dj]⟩));·exact ab.elim);(·rename_i id bx;split at ab;(·rename_i U xs te hl;obtain⟨hl,_⟩:=bW hl;split at ab;(·obtain⟨iQ,ab⟩:=ab;rw[bx]at hx;simp only[ag]at hx;obtain⟨hd,cj,_⟩:=hx;obtain⟨gn,oS,u,mW,Hq,cm⟩:=h.W.bM _ _ hl;simp only[List.cons.injEq,and_true]at mW;simp only[Full.c]at cj;obtain⟨ck,cH⟩:=iP iQ;rcases cm with⟨hn,rfl⟩|⟨g,ob,cap,cur,e',rY,hle,jP,_⟩;(·rw[hn]at mW;rw[mW]at cj;simp only[List.length_nil]at ck cH;refine h.val ho (aX none 0 0 cj iQ (Nat.le_refl _)) ?_ ab;simp only[ag];exact⟨hd,none,0,0,_,mW,by simp;omega,Nat.le_refl _,rfl,fun h=>by omega⟩);·rw[rY]at mW;rw[mW]at cj;refine h.val ho (aX _ _ cap cj iQ hle) ?_ ab;simp only[ag];exact⟨hd,_,xs.length,cap,_,mW,by omega,hle,rfl,fun cN=>⟨g,ob,rfl,by rw[if_neg (by omega)];simp[dj]⟩⟩);·exact ab.elim);·exact ab.elim);(·rename_i id sz off len bx;split at ab;(·rename_i SX;have SX:=Nat.eq_of_beq_eq_true SX;obtain⟨iQ,ab⟩:=ab;rw[bx]at hx;simp only[ag]at hx;obtain⟨hd,aa,m',cap,b,cj,hn,jP,hv,hb⟩:=hx;obtain⟨ck,cH⟩:=iP iQ;refine h.val ho (aX b len (cap-off) hv iQ (by omega)) ?_ ab;simp only[ag];refine⟨hd,aa,m',cap,_,cj,by omega,jP,by rw[Nat.sub_sub],fun cN=>?_⟩;obtain⟨g,ob,h1,h2⟩:=hb (by omega);exact⟨g,ob,h1,by rw[if_neg (by omega),h2];simp[dj,SX,Nat.add_mul,Nat.add_assoc]⟩);·exact ab.elim);(·rename_i bx;obtain⟨iQ,ab⟩:=ab;rw[bx]at hx;simp only[ag]at hx;obtain⟨ck,cH⟩:=iP (n:=0) iQ;(have h0:fx 0 bh=0:=by omega);(have h1:b9 bl=0:=by omega);refine h.val ho (aX none 0 0 hx iQ (Nat.le_refl _)) ?_ ab;simp only[ag,h0,h1];rfl);·exact ab.elim);(·rename_i R;split at ab;(·rename_i U x0 bx;rw[bx]at hx;simp only[ag]at hx;obtain⟨_,g,ob,cs,YR,hg,ep,Aa,bN⟩:=hx;split at ab;(·rename_i l hl;split at ab;(·rename_i RI;simp only[Bool.and_eq_true,Bool.not_eq_true']at RI;obtain⟨⟨⟨y2,vB⟩,LQ⟩,BZ⟩:=RI;have GQ:=Nat.eq_of_beq_eq_true y2;have RJ:=Ty.ct vB;have hc3:=Nat.le_of_ble_eq_true BZ;clear y2 vB BZ;obtain⟨d,hu,vA⟩:=hf.nJ;have y3:=hf.str R d rfl hu;cases d with|array m e=>simp only[cu]at vA;split at vA;(·rename_i V hV;simp only[Bool.and_eq_true]at vA;obtain⟨⟨⟨hR,hVv⟩,_⟩,h2⟩:=vA;have hR:=Ty.ct hR;have h2:=Nat.le_of_ble_eq_true h2;subst hR;rw[mU V hVv m (by omega)]at GQ;rw[(jR V hVv m 0 (by omega)).2]at RJ;subst RJ;have cM:=(hE.facts hV).sizeOf w;have hb:=gQ (P:=E.P) (w:=w) (isSlice:=false) (len:=m) (cap:=m) hrl YQ trivial (Nat.le_refl _);have xI:=zZ U x0 l cs hl bN;refine h.val ho (v:=.slice (some ⟨g,ob,none⟩) m m) ?_ ?_ ab;(·simp only[execOp,aK,YR,Nat.add_zero,Instr.sliceAt,Instr.sureAddr,Sem.run_bind,run_underlying hu,Result.andThen_ok,Option.map_none,hb,cM,Sem.run_pure,b9,fx,Nat.sub_zero,Nat.zero_mul];rw[if_neg (by omega)];rfl);·simp only[ag];refine⟨rfl,some ⟨g,ob,none⟩,m,by rw[GQ],by omega,by omega,.inr ⟨g,ob,rfl,hg,fun i y hy=>⟨[.func (.func y) #[] #[]],rfl,fun j v hj=>?_,rfl⟩⟩⟩;(have h0:j=0:=by cases j with|zero=>rfl|succ j=>simp at hj);subst h0;simp only[List.getElem?_cons_zero,Option.some.injEq]at hj;have:=Aa i v (by rw[xI,List.getElem?_map,hy];simpa using hj);simpa[Ty.cells]using this);(·cases vA)|struct fs=>have y3:E.str t=true:=y3;rw[y3]at LQ;cases LQ|_=>simp[cu]at vA);·exact ab.elim);·exact ab.elim);·exact ab.elim);(·exact ab.elim)|some m=>split at ab;(·rename_i SY;cases SY);·rename_i mm SY;injection SY with SY;subst SY;split at ab;(·rename_i km mv al9;have hm:=h.ev (aC ho (x:=m) (by simp[aK,Op.operands]));rw[al9]at hm;obtain⟨hvm,_⟩:=br hm;simp only[mO]at ab;split at ab;(·rename_i T;obtain⟨e,hu,hee,lW,jg,qH⟩:=hf.elem hE;have cM:=lW.sizeOf w;(have key: ∀(xs:List T.den)(hh:Int),bh=some hh→jj xs.length bl bh→mv=hh→aA (.sl T) xs w ⟨S,aB w0 S0⟩ [a.eval x]→(∃g' n',(execOp a.eval o).run E.P w= .ok (.value (.slice g' n' n')) w∧aA (.sl T) (cut xs bl bh) w ⟨S,aB w0 S0⟩ [.slice g' n' n']):=by intro xs hh am0 iQ YS bN;subst am0 YS;have z7:=bN;obtain⟨aa,cap,hv,hle,jP,cm⟩:=bN;injection hv with hv;(obtain⟨vh,kh,hvh⟩: ∃vh kh,hi=some vh∧a.eval vh= .int kh mv:=by cases hi with|none=>exact YQ.elim|some vh=>obtain⟨k,hk⟩:=YQ;exact⟨vh,k,rfl,hk⟩);obtain⟨rfl,hvh⟩:=hvh;have hb:=qL (P:=E.P) (w:=w) (isSlice:=true) (k:=kh) (k':=km) hrl iQ hle;obtain⟨ck,cH⟩:=iP iQ;simp only[fx]at ck cH;refine⟨if mv.toNat=b9 bl then aa else aa.map (·.add (b9 bl*T.cells)),mv.toNat-b9 bl,?_,?_⟩;(·simp only[execOp,aK,hv,Instr.sliceAt,Sem.run_bind,run_underlying hu,Result.andThen_ok,Instr.slice,Option.map_some,hvh,hvm,hb,cM,Sem.run_pure]);·rw[xM];simp only[fx];rw[hv]at z7;rcases cm with rfl|⟨g,ob,rfl,YP⟩;(·simp only[List.length_nil]at cH ck;(have h0:mv.toNat=0:=by omega);(have h1:b9 bl=0:=by omega);simp only[h0,h1,List.drop_nil,List.take_nil,Nat.sub_self];exact zX (by omega));·have h1:=si (b:=some ⟨g,ob+b9 bl*T.cells,none⟩) (off:=b9 bl) (len:=mv.toNat-b9 bl) z7 (by omega) (fun cN=>⟨g,ob,rfl,rfl⟩);obtain⟨a',lQ,e1,e2,e3,e4⟩:=h1;simp only[List.cons.injEq,Value.slice.injEq,and_true]at e1;obtain⟨e1,e1',az2⟩:=e1;have hlen:((xs.drop (b9 bl)).take (mv.toNat-b9 bl)).length=mv.toNat-b9 bl:=e1'.symm;refine⟨_,mv.toNat-b9 bl,by rw[hlen],by rw[hlen];exact Nat.le_refl _,by omega,?_⟩;rcases e4 with e4|⟨g',o',e4,e5⟩;(·exact .inl e4);·by_cases hz:mv.toNat=b9 bl;(·left;apply List.eq_nil_of_length_eq_zero;omega);·right;rw[←e1]at e4;refine⟨g',o',?_,e5⟩;rw[if_neg hz];simpa[dj]using e4);split at ab;(·rename_i U xs bx;split at ab;(·rename_i xs' hh iR;obtain⟨e',jH⟩:=Ty.aW iR;injection e' with e';subst e';simp only at jH;subst jH;rw[bx]at hx;simp only[ag]at hx;obtain⟨mR,bN⟩:=hx;obtain⟨⟨iQ,YS⟩,ab⟩:=ab;obtain⟨g',n',hr1,D1⟩:=key xs hh rfl iQ YS bN;refine h.val ho hr1 ?_ ab;simp only[ag];exact⟨mR,⟨g',n',rfl⟩,D1⟩);·exact ab.elim);(·rename_i U xs bx;split at ab;(·rename_i xs' hh iR;obtain⟨e',jH⟩:=Ty.aW iR;injection e' with e';subst e';simp only at jH;subst jH;rw[bx]at hx;simp only[ag]at hx;obtain⟨mR,_,bN⟩:=hx;obtain⟨⟨iQ,YS⟩,ab⟩:=ab;obtain⟨g',n',hr1,D1⟩:=key xs hh rfl iQ YS bN;refine h.val ho hr1 ?_ ab;simp only[ag];exact⟨mR,⟨g',n',rfl⟩,D1⟩);·exact ab.elim);·exact ab.elim);·exact ab.elim);·exact ab.elim)
 ·exact ab.elim
theorem Ab(h:Full n w0 S0 s a w ν S)(ho:bK n o=true) {f:Nat} {first cL:Array Operand} (aK:o.op= .makeFunc (.func f) first cL)(ab:aR E (ai E F s o) (fun l=>K (s.fin o.dst l))):o.wp E.P a w (fun a' w'=> ∃s',K s'∧Rel n w0 S0 s' a' w') Q:=by
 simp only[ai,aK]at ab;split at ab;(·rename_i Cn;(have hf:first= #[]:=by apply Array.toList_inj.1;simpa using Cn);subst hf;have hc:=fB h cL.toList (fun x hx=>aC ho (by simp only[aK,Op.operands];simpa using hx));refine h.val ho (v:=.func (.func f) #[] (cL.map a.eval)) ?_ ?_ ab;(·simp only[execOp,aK,Instr.makeFunc,Sem.run_bind,Sem.run_pure,Result.andThen_ok];rw[show(#[]:Array Operand).map a.eval= #[]from by simp]);·simp only[ag];exact⟨cL.toList.map a.eval,by congr 1;exact Array.toList_inj.1 (by simp),hc⟩)
 ·rename_i y r Cn;split at ab;(·rename_i tw;(have hf:cL= #[]:=by apply Array.toList_inj.1;simpa using tw);subst hf;have hc:=fB h first.toList (fun x hx=>aC ho (by simp only[aK,Op.operands];simpa using hx));rw[←Cn]at ab;refine h.val ho (v:=.func (.func f) (first.map a.eval) #[]) ?_ ?_ ab;(·simp only[execOp,aK,Instr.makeFunc,Sem.run_bind,Sem.run_pure,Result.andThen_ok];rw[show(#[]:Array Operand).map a.eval= #[]from by simp]);·simp only[ag];exact⟨first.toList.map a.eval,by congr 1;exact Array.toList_inj.1 (by simp),hc⟩);·exact ab.elim
theorem wx {c:Ctx} : ∀(vs:List PV)(us:List Value)(i:Nat)(p:PV),aj c vs us→wj vs i=some p→ ∃v,us[i]?=some v∧ag c p v|[],us,i,p,h,hv=>(by simp[wj]at hv)|q::vs,us,0,p,h,hv=>(by simp only[aj]at h;obtain⟨u,r,rfl,h1,h2⟩:=h;simp[wj]at hv;subst hv;exact⟨u,rfl,h1⟩)|q::vs,us,i+1,p,h,hv=>by simp only[aj]at h;obtain⟨u,r,rfl,h1,h2⟩:=h;simpa using wx vs r i p h2 hv
theorem gq {T:Ty} {x:T.den} {w:World} {M:Mem} {v:Value} (h:cw T x w M v):jD T x w M v:=by cases T<;>first|exact h|exact h.elim
theorem xN {c:Ctx} : ∀(T:Ty)(x:T.den)(us:List Value)(i:Nat)(p:PV),aJ T=0→vC T x c.w c.M us→iF T x i=some p→ ∃v,us[i]?=some v∧ag c p v:=by
 intro T;induction T with|aP a b fK fi=>intro x us i p ho h hv;simp[aJ]at ho;obtain⟨u,r,rfl,h1,h2⟩:=h;(cases i with|zero=>simp only[iF,Option.some.injEq]at hv;subst hv;refine⟨u,rfl,?_⟩;simp only[ag];exact⟨ho.1,gq h1⟩|succ i=>simpa using fi _ _ _ _ ho.2 h2 hv)|_=>intro x us i p ho h hv;obtain⟨u,rfl,h1⟩:=h;cases i with|zero=>simp only[iF,Option.some.injEq]at hv;subst hv;refine⟨u,rfl,?_⟩;simp only[ag];exact⟨ho,gq h1⟩|succ i=>simp[iF]at hv
theorem Co(h:Full n w0 S0 s a w ν S)(ho:bK n o=true) {x:Operand} {i:Nat} (aK:o.op= .extract x i)(ab:aR E (ai E F s o) (fun l=>K (s.fin o.dst l))):o.wp E.P a w (fun a' w'=> ∃s',K s'∧Rel n w0 S0 s' a' w') Q:=by
 simp only[ai,aK]at ab;have hx:=h.ev (aC ho (x:=x) (by simp[aK,Op.operands]));split at ab;(·rename_i p hp;(have key: ∃us:List Value,a.eval x= .tuple us.toArray∧ ∃v,us[i]?=some v∧ag h.c p v:=by cases bx:s.ev x with|aP vs=>rw[bx]at hx hp;simp only[ag]at hx;obtain⟨us,hv,hr⟩:=hx;exact⟨us,hv,wx vs us i p hr hp⟩|iv T y=>rw[bx]at hx hp;(cases T with|aP ta tb=>simp only[ag]at hx;obtain⟨eu,us,hv,hr⟩:=hx;exact⟨us,hv,xN _ y us i p eu hr hp⟩|_=>simp only[oP]at hp;cases hp)|_=>rw[bx]at hp;simp only[oP]at hp;cases hp);obtain⟨us,hv,v,Lf,hr⟩:=key;refine h.val ho (v:=v) ?_ hr ab;simp[execOp,aK,hv,Instr.extract,Lf])
 ·exact ab.elim
end
end Go.Proofs.YtmgmonbmdkkhbaaGreatDoor
