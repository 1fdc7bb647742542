/-
  The operations one by one, continued: parts of slices and strings, new arrays, closures. Nothing here is trusted; no condition.
-/
import Derived.Test.YtgpkijnphchkpaaGreatA1
import Derived.Deep.AppendSrc
import Derived.Laws.MakeOwn
import Derived.Laws.StructEq
set_option linter.unusedSimpArgs false
set_option linter.unusedVariables false
namespace Go.Proofs.YtgpkijnphchkpaaGreat
variable {dM:Prop} [jN dM]
open Go.RowKit
structure Ctx.EP(ks:List Nat)(c c':Ctx):Prop where
 heap: ∀b,c.M.S b→c'.w.heap[b]?=c.w.heap[b]?
 S: ∀b,c.M.S b→c'.M.S b
 D: ∀i,c.D i→ak i ks=false→c'.D i
 ν: ∀i,c.D i→ak i ks=false→c'.ν i=c.ν i
def ER(c:Ctx)(ks:List Nat):Prop:= ∀i,ak i ks=true→c.D i→ ∃a n m,c.ν i= .slice a n m
mutual theorem uk {ks:List Nat} {c c':Ctx} (hc:c.EP ks c')(hb:ER c ks): ∀ {p:PV} {v:Value},ag c p v→ag c' (p.kill ks) v|.iv T x,v,h=>(by simp only[PV.kill,ag]at h⊢;exact⟨h.1,gW hc.heap hc.S h.1 h.2⟩)|.ref i off,v,h=>(by simp only[PV.kill,ag]at h⊢;obtain⟨hd,g,h1,h2⟩:=h;(have bW:ak i ks=false:=by cases hm:ak i ks with|false=>rfl|true=>obtain⟨a,n,m,e⟩:=hb i hm hd;rw[h1]at e;cases e);exact⟨hc.D _ hd bW,g,by rw[hc.ν _ hd bW];exact h1,h2⟩)|.lmap i,v,h=>(by simp only[PV.kill,ag]at h⊢;obtain⟨hd,h1,r,h2⟩:=h;(have bW:ak i ks=false:=by cases hm:ak i ks with|false=>rfl|true=>obtain⟨a,n,m,e⟩:=hb i hm hd;rw[h1,e]at h2;cases h2);exact⟨hc.D _ hd bW,by rw[hc.ν _ hd bW];exact h1,r,h2⟩)|.dL T x off,v,h=>(by simp only[PV.kill,ag]at h⊢;obtain⟨ho,g,o,cs,h1,h2,h3,h4,h5⟩:=h;exact⟨ho,g,o,cs,h1,hc.S _ h2,h3,h4.mono (hc.heap _ h2),aB hc.heap hc.S _ _ _ ho h5⟩)|.aF i,v,h=>(by simp only[PV.kill];cases hi:ak i ks;(·simp only[cond_false,ag]at h⊢;exact⟨hc.D _ h.1 hi,by rw[hc.ν _ h.1 hi];exact h.2.1,h.2.2⟩);·simp only[cond_true,ag])|.jx i sz off len,v,h=>(by simp only[PV.kill];cases hi:ak i ks;(·simp only[cond_false,ag]at h⊢;obtain⟨hd,a,n,cap,b,h1,h2⟩:=h;exact⟨hc.D _ hd hi,a,n,cap,b,by rw[hc.ν _ hd hi];exact h1,h2⟩);·simp only[cond_true,ag])|.gm i sz j off,v,h=>(by simp only[PV.kill];cases hi:ak i ks;(·simp only[cond_false,ag]at h⊢;obtain⟨hd,g,o,n,cap,h1,h2⟩:=h;exact⟨hc.D _ hd hi,g,o,n,cap,by rw[hc.ν _ hd hi];exact h1,h2⟩);·simp only[cond_true,ag])|.agg cs,v,h=>(by simp only[PV.kill,ag]at h⊢;obtain⟨vs,h1,h0,h2⟩:=h;exact⟨vs,h1,h0,eZ hc hb h2⟩)|.bn cs,v,h=>(by simp only[PV.kill,ag]at h⊢;obtain⟨vs,h1,h2⟩:=h;exact⟨vs,h1,eZ hc hb h2⟩)|.bF,v,h=>(by simp only[PV.kill,ag]at h⊢;exact h)|.cX,v,h=>(by simp only[PV.kill,ag]at h⊢;exact h)|.dG,v,h=>(by simp only[PV.kill,ag]at h⊢;exact h)|.iY i base T n j,v,h=>(by simp only[PV.kill,ag]at h⊢;obtain⟨hd,h0,hn,g,h1,h2⟩:=h;(have bW:ak i ks=false:=by cases hm:ak i ks with|false=>rfl|true=>obtain⟨a,n,m,e⟩:=hb i hm hd;rw[h1]at e;cases e);exact⟨hc.D _ hd bW,h0,hn,g,by rw[hc.ν _ hd bW];exact h1,h2⟩)|.wB f cs,v,h=>(by simp only[PV.kill,ag]at h⊢;obtain⟨vs,h1,h2⟩:=h;exact⟨vs,h1,eZ hc hb h2⟩)|.oh f cs,v,h=>(by simp only[PV.kill,ag]at h⊢;obtain⟨vs,h1,h2⟩:=h;exact⟨vs,h1,eZ hc hb h2⟩)|.cH hk i,v,h=>(by simp only[PV.kill,ag]at h⊢;obtain⟨hd,g,h1,h2⟩:=h;(have bW:ak i ks=false:=by cases hm:ak i ks with|false=>rfl|true=>obtain⟨a,n,m,e⟩:=hb i hm hd;rw[h1]at e;cases e);exact⟨hc.D _ hd bW,g,by rw[hc.ν _ hd bW];exact h1,h2⟩)|.clip T xs,v,h=>(by simp only[PV.kill,ag]at h⊢;exact⟨h.1,h.2.1,aB hc.heap hc.S (.sl T) _ _ h.1 h.2.2⟩)|.fn f cs,v,h=>(by simp only[PV.kill,ag]at h⊢;obtain⟨vs,h1,h2⟩:=h;exact⟨vs,h1,eZ hc hb h2⟩)|.any,v,h=>by simp only[PV.kill,ag]theorem eZ {ks:List Nat} {c c':Ctx} (hc:c.EP ks c')(hb:ER c ks): ∀ {ps:List PV} {vs:List Value},ai c ps vs→ai c' (PV.cr ks ps) vs|[],vs,h=>(by simp only[PV.cr,ai]at h⊢;exact h)|p::ps,vs,h=>by simp only[PV.cr,ai]at h⊢;obtain⟨v,r,h1,h2,h3⟩:=h;exact⟨v,r,h1,uk hc hb h2,eZ hc hb h3⟩end
theorem gK(f:PV→PV)(t:Nat): ∀l:List (Nat×PV),look t (mg f l)=(look t l).map f|[]=>rfl|p::r=>by simp only[mg,look];cases Nat.beq t p.1;(·simpa using gK f t r);·rfl
theorem nh(f:List PV→List PV)(t:Nat): ∀l:List (Nat×aO),look t (om f l)=(look t l).map (aO.map f)|[]=>rfl|p::r=>by simp only[om,look];cases Nat.beq t p.1;(·simpa using nh f t r);·rfl
theorem eV(ks:List Nat)(t:Nat): ∀l:List (Nat×aO),look t (b7 ks l)=bif ak t ks then none else look t l|[]=>(by simp[b7,look])|p::r=>by simp only[b7];cases hm:ak p.1 ks with|true=>simp only[cond_true,look,eV ks t r];(cases hb:Nat.beq t p.1 with|true=>rw[Nat.eq_of_beq_eq_true hb,hm];rfl|false=>rfl)|false=>simp only[cond_false,look,eV ks t r];cases hb:Nat.beq t p.1 with|true=>rw[Nat.eq_of_beq_eq_true hb,hm];rfl|false=>rfl
theorem xS(s:St)(ks:List Nat)(t:Nat):(s.kill ks).get t=(s.get t).kill ks:=by simp only[St.get,St.kill,gK];cases look t s.sl<;>simp[PV.kill]
theorem pS(s:St)(ks:List Nat)(i:Nat):look i (s.kill ks).bl=(look i s.bl).map (aO.map (PV.cr ks)):=by simp only[St.kill,nh]
theorem Be {ks:List Nat} {c c':Ctx} (hc:c.EP ks c')(UA:ER c ks)(hB:c'.M.O=c.M.O) {id:Nat} {b:aO} (cG:c'.ν id=c.ν id)(hg: ∀g,aE (c.ν id)=some g→c'.w.heap[g]?=c.w.heap[g]?∧(¬c.M.S g→ ¬c'.M.S g))(h:lB c id b):lB c' id (b.map (PV.cr ks)):=by
 cases b with|box cs te=>obtain⟨jy,g,vs,e,h1,h2,h3,h4,h0,h5⟩:=h;obtain⟨e1,e2⟩:=hg g (by rw[h1];rfl);exact⟨jy.mi cG fun g fh=>(hg g fh).1,g,vs,e,by rw[cG];exact h1,by rw[hB];exact h2,e2 h3,by rw[e1];exact h4,h0,eZ hc UA h5⟩|arr T xs te=>obtain⟨jy,ho,v,hv,h1,h2⟩:=h;injection hv with hv;refine⟨jy.mi cG fun g fh=>(hg g fh).1,ho,v,by rw[cG,hv],h1,?_⟩;rcases h2 with h2|⟨g,o,cap,cur,e,rfl,h3,h4,h5,h6,h7,h8,h9⟩;(·exact .inl h2);(·obtain⟨e1,e2⟩:=hg g (by rw[hv];rfl);refine .inr ⟨g,o,cap,cur,e,rfl,h3,h4,e2 h5,by rw[hB];exact h6,by rw[e1];exact h7,h8,fun i y hy=>?_⟩;obtain⟨cs,hl,CJ,hr⟩:=h9 i y hy;exact⟨cs,hl,CJ.mono e1,aB hc.heap hc.S _ _ _ ho hr⟩)|mp K V es=>obtain⟨cZ,se,h0,r,ax,clock,h1,h2,h3,h4,h5,h6,h7⟩:=h;obtain⟨e1,e2⟩:=hg r (by rw[h1];rfl);refine⟨cZ,se,h0,r,ax,clock,by rw[cG];exact h1,by rw[hB];exact h2,e2 h3,by rw[e1];exact h4,h5,h6,fun i y hy=>?_⟩;obtain⟨e,ca,cb,a1,a2,a3,a4,a5⟩:=h7 i y hy;exact⟨e,ca,cb,a1,a2,aB hc.heap hc.S _ _ _ cZ a3,a4,aB hc.heap hc.S _ _ _ se a5⟩|it src since seen=>obtain⟨g,m,h1,h2,h3,h4,h6⟩:=h;obtain⟨e1,e2⟩:=hg g (by rw[h1];rfl);exact⟨g,m,by rw[cG];exact h1,by rw[hB];exact h2,e2 h3,by rw[e1];exact h4,eZ hc UA h6⟩|xA x pos=>obtain⟨g,h1,h2,h3,h4,h5⟩:=h;obtain⟨e1,e2⟩:=hg g (by rw[h1];rfl);exact⟨g,by rw[cG];exact h1,by rw[hB];exact h2,e2 h3,by rw[e1];exact h4,h5⟩|gh o cs=>obtain⟨g,vs,h1,h2,h3,h4,h6⟩:=h;obtain⟨e1,e2⟩:=hg g (by rw[h1];rfl);exact⟨g,vs,by rw[cG];exact h1,by rw[hB];exact h2,e2 h3,by rw[e1];exact h4,eZ hc UA h6⟩
theorem oG {i k:Nat} :ak i [k]=Nat.beq i k:=by simp only[ak];cases Nat.beq i k<;>rfl
theorem ES {i k:Nat} (h:i≠k):ak i [k]=false:=by rw[oG];cases hb:Nat.beq i k with|false=>rfl|true=>exact absurd (Nat.eq_of_beq_eq_true hb) h
theorem ET {i k:Nat} (h:ak i [k]=true):i=k:=by rw[oG]at h;exact Nat.eq_of_beq_eq_true h
section
variable {n:Nat} {w0:World} {S0:Cx} {s:St} {a:Act} {w:World} {ν:Nat→Value} {S:Nat→Prop}
theorem Full.app(h:Full n w0 S0 s a w ν S) {d id j:Nat} {T:Ty} {xs:List T.den} {te:Option Nat} {b':aO} {v':Value} {w':World} (hd:d<n)(hl:look id s.bl=some (.arr T xs te))(hj:j<P0)(L3:j=id∨look j s.bl=none)(hw:eF w w' (aE (ν id)))(hv: ∃a n cap,v'= .slice a n cap)(iw: ∀g,aE v'=some g→aE (ν id)=some g∨w.heap.size≤g)(hb: ∀D:Nat→Prop,lB ⟨fun i=>if i=j then v' else ν i,D,w',⟨S,aL w0 S0⟩⟩ j b'):Full n w0 S0 ⟨(d,.aF j)::(s.kill [id]).sl,(j,b')::b7 [id] (s.kill [id]).bl⟩ (a.put (some d) v') w' (fun i=>if i=j then v' else ν i) S:=by
 (have jL: ∃a n m,ν id= .slice a n m:=by obtain⟨_,ho,v,hv,_,h2⟩:=h.W.cv id _ hl;injection hv with hv;simp only at hv;rw[hv];rcases h2 with⟨h2,_⟩|⟨g',o,cap,cur,e,h2,_⟩<;>subst h2<;>exact⟨_,_,_,rfl⟩)
 (have UA:ER ⟨ν,s.D,w,⟨S,aL w0 S0⟩⟩ [id]:=by intro i hi _;rw[ET hi];exact jL);(have EU: ∀i c,i≠j→look i (⟨(d,.aF j)::(s.kill [id]).sl,(j,b')::b7 [id] (s.kill [id]).bl⟩:St).bl=some c→i≠id∧ ∃c0,look i s.bl=some c0∧c=c0.map (PV.cr [id]):=by intro i c fi hc;rw[aC _ _ fi,eV]at hc;cases hm:ak i [id]with|true=>rw[hm]at hc;cases hc|false=>rw[hm]at hc;simp only[cond_false]at hc;rw[pS]at hc;refine⟨fun e=>?_,?_⟩;(·subst e;rw[oG,Nat.beq_refl]at hm;cases hm);·cases H0:look i s.bl with|none=>rw[H0]at hc;cases hc|some c0=>rw[H0]at hc;injection hc with hc;exact⟨c0,rfl,hc.symm⟩)
 (have hD: ∀i,s.D i→i≠id→(⟨(d,.aF j)::(s.kill [id]).sl,(j,b')::b7 [id] (s.kill [id]).bl⟩:St).D i:=by rintro i⟨c,hc⟩bW;by_cases fi:i=j;(·subst fi;exact⟨b',aM _ _ _⟩);·exact⟨c.map (PV.cr [id]),by rw[aC _ _ fi,eV,ES bW,cond_false,pS,hc];rfl⟩)
 (have bW: ∀i,s.D i→i≠id→i≠j:=by rintro i⟨c,hc⟩hi e;subst e;rcases L3 with L3|L3;(·exact hi L3);·rw[L3]at hc;cases hc);have hS: ∀g,S g→w'.heap[g]?=w.heap[g]?:=fun g hg=>hw.block g (h.W.lt g hg) (fun e=>(h.iu hl e.symm).2.1 hg)
 (have hle:Ctx.EP [id] ⟨ν,s.D,w,⟨S,aL w0 S0⟩⟩ ⟨fun i=>if i=j then v' else ν i,(⟨(d,.aF j)::(s.kill [id]).sl,(j,b')::b7 [id] (s.kill [id]).bl⟩:St).D,w',⟨S,aL w0 S0⟩⟩:=by refine⟨hS,fun _ h=>h,fun i hi hm=>hD i hi ?_,fun i hi hm=>?_⟩;(·rintro rfl;rw[oG,Nat.beq_refl]at hm;cases hm);·(have:i≠id:=by rintro rfl;rw[oG,Nat.beq_refl]at hm;cases hm);simp[bW i hi this])
 refine⟨h.below.grown hw (fun g hg=>(h.iu hl hg).1),h.Ay,h.fresh,⟨fun g hg=>Nat.lt_of_lt_of_le (h.W.lt g hg) hw.size,fun g hg=>h.W.size g (Nat.le_trans hw.size hg),fun i c hc=>?_,fun i k c e CP hi hk g HK xT=>?_⟩,?_,?_,?_,h.qV,fun i hi Bd=>?_,h.CO⟩
 (·by_cases hi:i=j;(·subst hi;rw[aM]at hc;injection hc with hc;subst hc;exact hb _);·obtain⟨HZ,c0,sm,rfl⟩:=EU i c hi hc;refine Be hle UA rfl (by simp[hi]) (fun g hg=>?_) (h.W.cv i c0 sm);exact⟨hw.block g (h.iu sm hg).2.2 (fun e=>h.W.ne i id c0 _ HZ sm hl g hg e.symm),fun h=>h⟩)
 (·by_cases fi:i=j;(·subst fi;have oH:k≠i:=fun e=>CP e.symm;simp only[if_true]at HK;simp only[oH,if_false]at xT;obtain⟨bg7,e',wE,_⟩:=EU k e oH hk;rcases iw g HK with hf|hf;(·exact h.W.ne id k _ _ (fun e=>bg7 e.symm) hl wE g hf xT);·have:=(h.iu wE xT).2.2;omega);·simp only[fi,if_false]at HK;obtain⟨bg8,c',iM,_⟩:=EU i c fi hi;by_cases hkj:k=j;(·subst hkj;simp only[if_true]at xT;rcases iw g xT with hf|hf;(·exact h.W.ne i id _ _ bg8 iM hl g HK hf);·have:=(h.iu iM HK).2.2;omega);·simp only[hkj,if_false]at xT;obtain⟨_,e',wE,_⟩:=EU k e hkj hk;exact h.W.ne i k _ _ CP iM wE g HK xT)
 (·intro t;(have hlf:ag ⟨fun i=>if i=j then v' else ν i,(⟨(d,.aF j)::(s.kill [id]).sl,(j,b')::b7 [id] (s.kill [id]).bl⟩:St).D,w',⟨S,aL w0 S0⟩⟩ (.aF j) v':=by simp only[ag];exact⟨⟨b',aM _ _ _⟩,by simp,hv⟩);refine ui (s:=s.kill [id]) (fun t=>?_) h.size hd (fun t=>?_) hlf t;(·rw[xS];exact uk hle UA (h.eU t));·by_cases ht:t=d;(·subst ht;simp[St.get,aM]);·simp[St.get,aC _ _ ht,ht])
 (·rw[sj];exact h.size);(·rw[ng];exact h.defers);·(have fi:i≠j:=by omega);simp only[fi,if_false];obtain⟨c,hc⟩:=Bd;obtain⟨_,c0,sm,_⟩:=EU i c fi hc;exact h.kept i hi ⟨c0,sm⟩
end
/-! ### append -/
theorem pT {T:Ty} {w:World} {M:Mem} {g o:Nat} : ∀(xs:List T.den),(∀i y,xs[i]?=some y→ ∃cs,cs.length=T.cells∧dH w g (o+i*T.cells) cs∧aH T y w M cs)→ ∃vs:List Value,vs.length=xs.length*T.cells∧dH w g o vs∧(∀u,u∈vs→u.oneCell'=true)∧ ∀i y,xs[i]?=some y→aH T y w M ((vs.drop (i*T.cells)).take T.cells):=by
 intro xs;induction xs generalizing o with|nil=>intro _;exact⟨[],by simp,fun j v h=>by simp at h,by simp,fun i y h=>by simp at h⟩|cons x xs ih=>intro h;obtain⟨cs,hl,hc,hr⟩:=h 0 x rfl;obtain⟨vs,Az,hvc,hv1,UB⟩:=ih (o:=o+T.cells) (fun i y hy=>by obtain⟨jc,H0,iM,jM⟩:=h (i+1) y (by simpa using hy);refine⟨jc,H0,?_,jM⟩;(have e:o+(i+1)*T.cells=o+T.cells+i*T.cells:=by rw[Nat.add_mul];omega);rwa[e]at iM);refine⟨cs++vs,by simp[hl,Az,Nat.add_mul];omega,fun j v hj=>?_,fun u hu=>?_,fun i y hy=>?_⟩;(·rcases Nat.lt_or_ge j T.cells with L4|L4;(·rw[List.getElem?_append_left (by omega)]at hj;have:=hc j v hj;simpa using this);·rw[List.getElem?_append_right (by omega)]at hj;have:=hvc _ v hj;rw[←this];congr 2;omega);(·rcases List.mem_append.1 hu with hu|hu;(·exact sc _ _ _ _ _ hr u hu);·exact hv1 u hu);·cases i with|zero=>simp at hy;subst hy;rw[Nat.zero_mul,List.drop_zero,←hl,List.take_left];exact hr|succ i=>have:=UB i y (by simpa using hy);(have e:(i+1)*T.cells=cs.length+i*T.cells:=by rw[Nat.add_mul,hl];omega);rw[e,List.drop_append];simpa[List.drop_of_length_le]using this
theorem wU {T:Ty} {w:World} {M:Mem} {g o:Nat} {xs:List T.den} {vs:List Value} (hl:vs.length=xs.length*T.cells)(hc:dH w g o vs)(hr: ∀i y,xs[i]?=some y→aH T y w M ((vs.drop (i*T.cells)).take T.cells)): ∀i y,xs[i]?=some y→ ∃cs,cs.length=T.cells∧dH w g (o+i*T.cells) cs∧aH T y w M cs:=by
 intro i y hy;(have hi:i<xs.length:=by rcases Nat.lt_or_ge i xs.length with h|h;(·exact h);·rw[List.getElem?_eq_none h]at hy;cases hy);refine⟨_,bO _ _ _ _ _ (hr i y hy),fun j v hj=>?_,hr i y hy⟩
 (have Aj:j<T.cells:=by rcases Nat.lt_or_ge j T.cells with h|h;(·exact h);·rw[List.getElem?_eq_none (by rw[bO _ _ _ _ _ (hr i y hy)];exact h)]at hj;cases hj);rw[List.getElem?_take,if_pos Aj,List.getElem?_drop]at hj
 have:=hc _ v hj;rw[←this,Nat.add_assoc]
theorem qW {T : Ty} {w w' : World} {M : Mem} (hw : ∀ b, M.S b → w'.heap[b]? = w.heap[b]?) (ho : aR T = 0) {xs ys : List T.den} {us vs : List Value} (hu : us.length = xs.length * T.cells) (hr : ∀ i y, xs[i]? = some y → aH T y w M ((us.drop (i * T.cells)).take T.cells))
    (hs : ∀ i y, ys[i]? = some y → aH T y w M ((vs.drop (i * T.cells)).take T.cells)) : ∀ i y, (xs ++ ys)[i]? = some y → aH T y w' M (((us ++ vs).drop (i * T.cells)).take T.cells) := by
  intro i y hy
  refine aB hw (fun _ h => h) _ _ _ ho ?_
  rcases Nat.lt_or_ge i xs.length with hi | hi
  · rw [List.getElem?_append_left hi] at hy
    have h1 := hr i y hy
    have hle : i * T.cells + T.cells ≤ us.length := by
      rw [hu]
      calc i * T.cells + T.cells = (i + 1) * T.cells := by rw [Nat.add_mul]; omega
        _ ≤ xs.length * T.cells := Nat.mul_le_mul_right _ hi
    rw [List.drop_append_of_le_length (by omega), List.take_append_of_le_length (by rw [List.length_drop]; omega)]
    exact h1
  · rw [List.getElem?_append_right hi] at hy
    have h1 := hs _ y hy
    have e : i * T.cells = us.length + (i - xs.length) * T.cells := by
      rw [hu, ← Nat.add_mul]
      congr 1
      omega
    rw [e, List.drop_append]
    simpa [List.drop_of_length_le] using h1
end Go.Proofs.YtgpkijnphchkpaaGreat
namespace Go.Proofs.YtgpkijnphchkpaaGreat
variable {dM:Prop} [jN dM]
open Go.RowKit
theorem eH(g o n:Nat):(⟨g,o,none⟩:Addr).add n=⟨g,o+n,none⟩:=by unfold Addr.add;split<;>simp_all
theorem cE.elem {E:Env} (hE:aG E) {t:Nat} {T:Ty} (h:cE E t (.sl T)): ∃e,E.P.underlying t=some (.slice e)∧E.ty e=some T∧cE E e T∧T.val=true∧0<T.cells:=by
 obtain⟨d,hd,hs⟩:=h.qw;(cases d<;>simp only[cP]at hs<;>first|cases hs|skip);rename_i e;simp only[Bool.and_eq_true,oF]at hs;obtain⟨⟨h1,h2⟩,h3⟩:=hs;split at h1;(·rename_i U hU;rw[Ty.db h1]at hU;exact⟨e,hd,hU,hE.facts hU,h2,Nat.le_of_ble_eq_true h3⟩)
 ·cases h1
structure Source(w:World)(size:Nat)(a:Option Addr)(m:Nat)(news:List Value):Prop where
 len:news.length=m*size
 cells:m=0∨ ∃ad,a=some ad∧ ∀j u,news[j]?=some u→w.cell? (ad.add j)=some u
 one: ∀u,u∈news→u.oneCell'=true
theorem Source.first {P:Program} {w:World} {size:Nat} {a:Option Addr} {m:Nat} {news:List Value} (h:Source w size a m news)(c:Nat):(Builtin.firstCells size m (.slice a m c)).run P w= .ok news.toArray w:=by
 rcases h.cells with rfl|⟨ad,rfl,hc⟩;(·have hn:news=[]:=List.eq_nil_of_length_eq_zero (by simpa using h.len);subst hn;cases a with|none=>exact run_firstCells_none w _ _ _ _|some ad=>exact run_firstCells_some w size 0 ad _ c [] (by simp) (by simp))
 ·exact run_firstCells_some w size m ad _ c news h.len hc
theorem fL(w:World)(g:Nat)(cs:Array Value):eF w (w.setRow g cs) (some g):=⟨rfl,rfl,rfl,by simp,fun k _ hk=>setRow_other w g k _ (fun e=>hk (by rw[e])),fun _=>Nat.le_refl _⟩
theorem Source.src {P:Program} {w:World} {size:Nat} {a:Option Addr} {m:Nat} {news:List Value} (h:Source w size a m news) {tx e':TypeId} (hk:P.underlying tx=some (.slice e'))(c:Nat):Src P size tx (.slice a m c) m news w:=⟨.inl ⟨e',hk⟩,fun _=>rfl,h.first c,by have h':Source w.drew size a m news:=⟨h.len,h.cells,h.one⟩;exact h'.first c,h.len,h.one⟩
theorem um {P:Program} {w:World} {t tx ty e:TypeId} {i:TypeInfo} (ht:P.underlying t=some (.slice e))(hi:P.info? e=some i) {g o n cap:Nat} {cur:Array Value} {e':TypeId} (hg:w.heap[g]?=some (.cells cur e' (0,0))) {x:Value} {m:Nat} {news:List Value} (hs:Src P i.size tx x m news w)(so:n+m≤cap)(qx:o+n*i.size+news.length≤cur.size):(Builtin.append_ #[t,tx] ty #[.slice (some ⟨g,o,none⟩) n cap,x]).run P w= .ok (.slice (some ⟨g,o,none⟩) (n+m) cap) (w.setRow g (cur.toList.take (o+n*i.size)++news++cur.toList.drop (o+n*i.size+news.length)).toArray):=by
 have c8:=run_storeCells_at (P:=P) g (o+n*i.size) e' news 0 cur w hg (by simpa using qx) hs.one;simp only[Nat.add_zero]at c8;rcases hs.kind with⟨e2,hk⟩|hk<;>simp[Builtin.append_,run_underlying ht,run_underlying hk,sizeOf,typeInfo,hi,hs.len,so,hs.cells,eH,c8]
theorem J8(z:Array Value)(n:Nat):(Builtin.zeroCells z n).size=n*z.size:=by simp[Builtin.zeroCells]
theorem uo {E:Env} {T:Ty} {w:World} {M:Mem} {zs:List T.den} {e:TypeId} {z:Value} (HL:z.cells.size=T.cells)(ho:aR T=0)(c7: ∀b,M.S b→b<w.heap.size)(hB: ∀g,w.heap.size≤g→M.O g)(hlen:zs.length≤274877906944)(cs:List Value)(eR:cs.length=zs.length*T.cells)(hcr: ∀i y,zs[i]?=some y→aH T y w M ((cs.drop (i*T.cells)).take T.cells))(jU:Nat):aH (.own T) zs (w.drew.alloc (.cells (cs.toArray++Builtin.zeroCells z.cells (grownCap w zs.length jU e-zs.length)) e)) M [.slice (some ⟨w.heap.size,0,none⟩) zs.length (grownCap w zs.length jU e)]:=by
 have H2:=grownCap_ge w zs.length jU e;have hcm:=grownCap_le_maxLen w zs.length jU e (by simp only[maxLen];omega);simp only[maxLen]at hcm;have hh:(w.drew.alloc (.cells (cs.toArray++Builtin.zeroCells z.cells (grownCap w zs.length jU e-zs.length)) e)).heap[w.heap.size]?=some (.cells (cs.toArray++Builtin.zeroCells z.cells (grownCap w zs.length jU e-zs.length)) e):=heap_alloc_new w.drew _
 refine⟨_,rfl,by omega,.inr ⟨w.heap.size,0,grownCap w zs.length jU e,_,e,rfl,H2,by omega,fun h=>absurd (c7 _ h) (by omega),hB _ (Nat.le_refl _),hh,?_,?_⟩⟩;(·rw[Array.size_append,J8,HL,List.size_toArray,eR,Nat.zero_add,←Nat.add_mul];exact Nat.mul_le_mul_right _ (by omega))
 ·refine wU (vs:=cs) eR (fun j u hj=>?_) (fun k y hy=>?_);(·rw[cell_of_row _ _ _ _ _ _ hh,Nat.zero_add,Array.getElem?_append_left (by simpa using(List.getElem?_eq_some_iff.1 hj).1)];simpa using hj);·exact aB (w:=w) (fun b hb=>Below.heap_alloc w.drew _ b (c7 b hb)) (fun _ h=>h) _ _ _ ho (hcr k y hy)
theorem jV {E:Env} (hE:aG E) {t tx ty:Nat} {T:Ty} (ht:E.ty t=some (.sl T)) {w:World} {M:Mem} {a:Option Addr} {m:Nat} {xs ys:List T.den} (ho:aR T=0)(jL:aH (.sl T) xs w M [.slice a m m])(c7: ∀b,M.S b→b<w.heap.size)(hB: ∀g,w.heap.size≤g→M.O g) {x:Value} {news:List Value} (hs:Src E.P T.cells tx x ys.length news w)(hr: ∀i y,ys[i]?=some y→aH T y w M ((news.drop (i*T.cells)).take T.cells))(bW:ys≠ [])(hlen:xs.length+ys.length≤274877906944): ∃v' w',(Builtin.append_ #[t,tx] ty #[.slice a m m,x]).run E.P w= .ok v' w'∧aH (.own T) (xs++ys) w' M [v']∧eF w w' none∧(∃a n cap,v'= .slice a n cap)∧(∀g,aE v'=some g→w.heap.size≤g):=by
 obtain⟨e,hu,he,oI,nZ,n5⟩:=(hE.facts ht).elem hE;obtain⟨i,hi,cY,hby,_,z,hz,HL⟩:=oI.info;rw[←cY]at hs;(have UC: ∀k:Nat,k≤274877906944→k*i.bytes≤140737488355328:=fun k hk=>by calc k*i.bytes≤274877906944*512:=Nat.mul_le_mul hk hby
 _=140737488355328:=by decide);have hm:ys.length≠0:=fun h=>bW (List.eq_nil_of_length_eq_zero h);obtain⟨a',oD,hv,h1,h2,h3⟩:=jL;(obtain⟨rfl,rfl,rfl⟩:a'=a∧m=xs.length∧oD=m:=by injection hv with hv;injection hv with h1 h2 h3;exact⟨h1.symm,h2,h3.symm⟩)
 (obtain⟨us,AA,hur,Ud⟩: ∃us:List Value,us.length=xs.length*T.cells∧(∀i y,xs[i]?=some y→aH T y w M ((us.drop (i*T.cells)).take T.cells))∧(Builtin.firstCells i.size xs.length (.slice a' xs.length xs.length)).run E.P w.drew= .ok us.toArray w.drew:=by rcases h3 with rfl|⟨g,o,rfl,_,fj⟩;(·refine⟨[],by simp,fun i y hy=>by simp at hy,?_⟩;cases a' with|none=>exact run_firstCells_none _ _ _ _ _|some ad=>exact run_firstCells_some _ _ 0 ad _ _ [] (by simp) (by simp));·obtain⟨us,AA,huc,Ow,hur⟩:=pT xs fj;exact⟨us,AA,hur,run_firstCells_some w.drew i.size xs.length ⟨g,o,none⟩ _ _ us (by rw[AA,cY]) (fun j u hj=>by rw[eH];exact huc j u hj)⟩)
 have aU:=run_append_grow_src (P:=E.P) w t tx ty e i z hu hi hz a' xs.length xs.length us Ud x ys.length news hs (by omega) (by omega) (growslice_fits (by omega) (UC _ hlen))
 have hg:=uo (E:=E) (e:=e) (zs:=xs++ys) HL ho c7 hB (by rw[List.length_append];exact hlen) (us++news) (by rw[List.length_append,List.length_append,AA,hs.newsLen,cY,Nat.add_mul]) (qW (fun _ _=>rfl) ho AA hur hr) xs.length
 rw[List.length_append]at hg;exact⟨_,_,aU,hg,⟨rfl,rfl,rfl,by simp,fun k hk _=>Below.heap_alloc w.drew _ k hk,fun _=>Nat.le_succ _⟩,⟨_,_,_,rfl⟩,fun g hg=>by injection hg with hg;simp at hg;omega⟩
theorem kK {E:Env} (hE:aG E) {t tx ty:Nat} {T:Ty} (ht:E.ty t=some (.sl T)) {w:World} {M:Mem} {v:Value} {xs ys:List T.den} (ho:aR T=0)(l8:aH (.own T) xs w M [v])(c7: ∀b,M.S b→b<w.heap.size)(hB: ∀g,w.heap.size≤g→M.O g) {x:Value} {news:List Value} (hs:Src E.P T.cells tx x ys.length news w)(hr: ∀i y,ys[i]?=some y→aH T y w M ((news.drop (i*T.cells)).take T.cells))(hlen:xs.length+ys.length≤274877906944): ∃v' w',(Builtin.append_ #[t,tx] ty #[v,x]).run E.P w= .ok v' w'∧aH (.own T) (xs++ys) w' M [v']∧eF w w' (aE v)∧(∃a n cap,v'= .slice a n cap)∧(∀g,aE v'=some g→aE v=some g∨w.heap.size≤g)∧(∀e0,E.P.underlying t=some (.slice e0)→gp (some e0) w v→gp (some e0) w' v'):=by
 obtain⟨e,hu,he,oI,nZ,n5⟩:=(hE.facts ht).elem hE;obtain⟨i,hi,cY,hby,_,z,hz,HL⟩:=oI.info;rw[←cY]at hs;(have UC: ∀k:Nat,k≤274877906944→k*i.bytes≤140737488355328:=fun k hk=>by calc k*i.bytes≤274877906944*512:=Nat.mul_le_mul hk hby
 _=140737488355328:=by decide);obtain⟨u,hv,h1,h2⟩:=l8;injection hv with hv;subst hv;(have grown: ∀(cs:List Value),cs.length=(xs.length+ys.length)*T.cells→(∀i y,(xs++ys)[i]?=some y→aH T y w M ((cs.drop (i*T.cells)).take T.cells))→ ∀(jU:Nat),aH (.own T) (xs++ys) (w.drew.alloc (.cells (cs.toArray++Builtin.zeroCells z.cells (grownCap w (xs.length+ys.length) jU e-(xs.length+ys.length))) e)) M [.slice (some ⟨w.heap.size,0,none⟩) (xs.length+ys.length) (grownCap w (xs.length+ys.length) jU e)]:=by intro cs eR hcr jU;have:=uo (E:=E) (e:=e) (zs:=xs++ys) HL ho c7 hB (by rw[List.length_append];exact hlen) cs (by rw[eR,List.length_append]) hcr jU;rwa[List.length_append]at this)
 rcases h2 with⟨rfl,rfl⟩|⟨g,o,cap,cur,e',rfl,h3,h4,h5,h6,h7,h8,h9⟩;(·by_cases hm:ys.length=0;(·have hn:news=[]:=List.eq_nil_of_length_eq_zero (by rw[hs.newsLen,hm,Nat.zero_mul]);have hy:ys=[]:=List.eq_nil_of_length_eq_zero hm;subst hy;refine⟨.slice none 0 0,w,?_,⟨_,rfl,by simp,.inl ⟨rfl,by simp⟩⟩,⟨rfl,rfl,rfl,Nat.le_refl _,fun _ _ _=>rfl,fun _=>Nat.le_refl _⟩,⟨_,_,_,rfl⟩,fun g hg=>(by cases hg),fun e0 _ _ t' _ g hg=>(by cases hg)⟩;have AD:=hs.len;have sm:=hs.cells;simp only[List.length_nil]at AD sm;rcases hs.kind with⟨e2,hk⟩|hk<;>simp[Builtin.append_,run_underlying hu,run_underlying hk,sizeOf,typeInfo,hi,AD,sm]);·skip;·have hb:=UC ys.length (by simpa using hlen);have aU:=run_append_grow_src (P:=E.P) w t tx ty e i z hu hi hz none 0 0 [] (run_firstCells_none _ _ _ _ _) x ys.length news hs (by omega) (by simp at hlen;omega) (growslice_fits (by omega) (by simpa using hb));simp only[Nat.zero_add,List.nil_append]at aU;have hg:=grown news (by rw[hs.newsLen,cY];simp) (by simpa using hr) 0;simp only[List.length_nil,Nat.zero_add]at hg;exact⟨_,_,aU,hg,⟨rfl,rfl,rfl,by simp,fun k hk _=>Below.heap_alloc w.drew _ k hk,fun _=>Nat.le_succ _⟩,⟨_,_,_,rfl⟩,fun g hg=>.inr (by injection hg with hg;simp at hg;omega),fun e0 UD _ t' L5 g hg=>by obtain rfl:=Option.some.inj L5;(obtain rfl:e=e0:=by rw[hu]at UD;injection UD with UD;injection UD);injection hg with hg;subst hg;exact⟨rfl,_,_,heap_alloc_new w.drew _⟩⟩)
 ·obtain⟨us,AA,huc,Ow,hur⟩:=pT xs h9;by_cases so:xs.length+ys.length≤cap;(·(have qx:o+xs.length*i.size+news.length≤cur.size:=by rw[hs.newsLen,Nat.add_assoc,←Nat.add_mul,cY];exact Nat.le_trans (Nat.add_le_add_left (Nat.mul_le_mul_right _ so) _) h8);have aU:=um (P:=E.P) (ty:=ty) hu hi h7 hs so qx;refine⟨_,_,aU,?_,?_,⟨_,_,_,rfl⟩,fun g hg=>.inl hg,fun e0 _ jy=>(by exact jy.xL rfl h7 (setRow_heap w g cur _ e' _ h7))⟩;(·have hh:=setRow_heap w g cur (cur.toList.take (o+xs.length*i.size)++news++cur.toList.drop (o+xs.length*i.size+news.length)).toArray e' _ h7;have hSg: ∀b,M.S b→(w.setRow g (cur.toList.take (o+xs.length*i.size)++news++cur.toList.drop (o+xs.length*i.size+news.length)).toArray).heap[b]?=w.heap[b]?:=fun b hb=>setRow_other w g b _ (fun e=>h5 (e▸hb));refine⟨_,rfl,by rw[List.length_append];omega,.inr ⟨g,o,cap,_,e',by rw[List.length_append],by rw[List.length_append];exact so,h4,h5,h6,hh,?_,?_⟩⟩;(·simp only[List.size_toArray,List.length_append,List.length_take,List.length_drop,Array.length_toList];omega);·refine wU (vs:=us++news) (by rw[List.length_append,List.length_append,AA,hs.newsLen,cY,Nat.add_mul]) (fun j u hj=>?_) (qW hSg ho AA hur hr);rw[cell_of_row _ _ _ _ _ _ hh];simp only[List.getElem?_toArray];rcases Nat.lt_or_ge j us.length with hju|hju;(·rw[List.getElem?_append_left hju]at hj;have eT:=huc j u hj;rw[cell_of_row _ _ _ _ _ _ h7]at eT;(have L6:o+j<o+xs.length*i.size:=by rw[cY,←AA];omega);rw[List.append_assoc,List.getElem?_append_left (by simp only[List.length_take,Array.length_toList];omega),List.getElem?_take,if_pos L6];simpa using eT);·rw[List.getElem?_append_right hju]at hj;have L4:j-us.length<news.length:=(List.getElem?_eq_some_iff.1 hj).1;(have Ak:(cur.toList.take (o+xs.length*i.size)).length=o+xs.length*i.size:=by simp only[List.length_take,Array.length_toList];omega);rw[List.append_assoc,List.getElem?_append_right (by rw[Ak,cY,←AA];omega),Ak,List.getElem?_append_left (by rw[cY,←AA];omega)];rw[←hj];congr 1;rw[cY,←AA];omega);·exact fL w g _);·(have hm:ys.length≠0:=by omega);skip;·have aU:=run_append_grow_src (P:=E.P) w t tx ty e i z hu hi hz (some ⟨g,o,none⟩) xs.length cap us (run_firstCells_some w.drew i.size xs.length ⟨g,o,none⟩ xs.length cap us (by rw[AA,cY]) (fun j u hj=>by rw[eH];exact huc j u hj)) x ys.length news hs (by omega) (by omega) (growslice_fits (by omega) (UC _ hlen));have hg:=grown (us++news) (by rw[List.length_append,AA,hs.newsLen,cY,Nat.add_mul]) (qW (fun _ _=>rfl) ho AA hur hr) cap;exact⟨_,_,aU,hg,⟨rfl,rfl,rfl,by simp,fun k hk _=>Below.heap_alloc w.drew _ k hk,fun _=>Nat.le_succ _⟩,⟨_,_,_,rfl⟩,fun g hg=>.inr (by injection hg with hg;simp at hg;omega),fun e0 UD _ t' L5 g hg=>by obtain rfl:=Option.some.inj L5;(obtain rfl:e=e0:=by rw[hu]at UD;injection UD with UD;injection UD);injection hg with hg;subst hg;exact⟨rfl,_,_,heap_alloc_new w.drew _⟩⟩
end Go.Proofs.YtgpkijnphchkpaaGreat
namespace Go.Proofs.YtgpkijnphchkpaaGreat
variable {dM:Prop} [jN dM]
open Go.RowKit
theorem cU {P:Program} {o:Oper} {a:Act} {w w':World} {v:Value} {K:Act→World→Prop} {Q:Exit→Act→World→Prop} (h:(execOp a.eval o).run P w= .ok (.value v) w')(hk:K (a.put o.dst v) w'):o.wp P a w K Q:=by
 unfold Oper.wp;rw[h];exact hk
theorem kL {P:Program} {o:Oper} {a:Act} {w w':World} {K:Act→World→Prop} {Q:Exit→Act→World→Prop} (h:(execOp a.eval o).run P w= .ok .skip w')(hk:K (a.put o.dst undef) w'):o.wp P a w K Q:=by
 unfold Oper.wp;rw[h];exact hk
theorem lJ {P:Program} {o:Oper} {a:Act} {w w':World} {f:FuncId} {args:Array Value} {K:Act→World→Prop} {Q:Exit→Act→World→Prop} (h:(execOp a.eval o).run P w= .ok (.enter f args) w')(hk:Calls P f args w' fun e HX=> ∃v,e= .returned v∧K (a.put o.dst v) HX):o.wp P a w K Q:=by
 unfold Oper.wp;rw[h];refine hk.mono ?_;rintro e HX⟨v,rfl,hv⟩;exact hv
section
variable {E:Env} {n:Nat} {w0:World} {S0:Cx} {s:St} {a:Act} {w:World} {ν:Nat→Value} {S:Nat→Prop} {F:dw} {o:Oper} {K:St→Prop} {Q:Exit→Act→World→Prop}
theorem bm(ho:bG n o=true): ∀d,o.dst=some d→d<n:=by intro d hd;simp only[bG,hd,Bool.and_eq_true]at ho;have:=ho.2;simp only[Nat.blt_eq]at this;exact this
theorem az(ho:bG n o=true) {x:Operand} (hx:x∈o.op.operands):lI x=true:=by simp only[bG,Bool.and_eq_true,List.all_eq_true]at ho;exact ho.1 x (Array.mem_toList_iff.2 hx)
theorem Full.val(h:Full n w0 S0 s a w ν S)(ho:bG n o=true) {p:PV} {v:Value} (hr:(execOp a.eval o).run E.P w= .ok (.value v) w)(hp:ag h.c p v)(hK:K (s.fin o.dst (.val p))):o.wp E.P a w (fun a' w'=> ∃s',K s'∧Rel n w0 S0 s' a' w') Q:=cU hr ⟨_,hK,(h.put (bm ho) hp).rel⟩
theorem a9 {c:Ctx} {k:IntKind} {x:Int} {v:Value} (h:ag c (.iv (.int k) x) v):v= .int k x∧k.min≤x∧x≤k.max:=by
 simp only[ag]at h;obtain⟨_,hv,h⟩:=h;injection hv with hv;exact⟨hv,h⟩
theorem bT {c:Ctx} {k:IntKind} {x:Int} (h:k.min≤x∧x≤k.max):ag c (.iv (.int k) x) (.int k x):=by simp only[ag];exact⟨rfl,rfl,h⟩
theorem jz {c:Ctx} {x:Bool} {v:Value} (h:ag c (.iv .bool x) v):v= .bool x:=by simp only[ag]at h;obtain⟨_,hv⟩:=h;injection hv
theorem bK {c:Ctx} {x:Bool} :ag c (.iv .bool x) (.bool x):=by simp only[ag];exact⟨rfl,rfl⟩
theorem ec {c:Ctx} {x:List UInt8} {v:Value} (h:ag c (.iv .str x) v):v= .string ⟨x.toArray⟩∧x.length≤9223372036854775807:=by
 simp only[ag]at h;obtain⟨_,hv,h⟩:=h;injection hv with hv;exact⟨hv,h⟩
theorem oJ {c:Ctx} {x:List UInt8} (h:x.length≤9223372036854775807):ag c (.iv .str x) (.string ⟨x.toArray⟩):=by simp only[ag];exact⟨rfl,rfl,h⟩
theorem UE(h:Full n w0 S0 s a w ν S)(ho:bG n o=true) {x:Operand} (aK:o.op= .move x)(ab:bo E (aj E F s o) (fun l=>K (s.fin o.dst l))):o.wp E.P a w (fun a' w'=> ∃s',K s'∧Rel n w0 S0 s' a' w') Q:=by
 simp only[aj,aK,bo]at ab;refine h.val ho ?_ (h.ev (az ho (by simp[aK,Op.operands]))) ab;simp only[execOp,aK,Sem.run_pure]
theorem L9(h:Full n w0 S0 s a w ν S)(ho:bG n o=true) {x:Operand} (aK:o.op= .assign x)(ab:bo E (aj E F s o) (fun l=>K (s.fin o.dst l))):o.wp E.P a w (fun a' w'=> ∃s',K s'∧Rel n w0 S0 s' a' w') Q:=by
 simp only[aj,aK,bo]at ab;refine h.val ho ?_ (h.ev (az ho (by simp[aK,Op.operands]))) ab;simp only[execOp,aK,Sem.run_pure]
theorem EV(h:Full n w0 S0 s a w ν S)(ho:bG n o=true) {x:Operand} (aK:o.op= .nilCheck x)(ab:bo E (aj E F s o) (fun l=>K (s.fin o.dst l))):o.wp E.P a w (fun a' w'=> ∃s',K s'∧Rel n w0 S0 s' a' w') Q:=by
 simp only[aj,aK]at ab;have hx:=h.ev (az ho (x:=x) (by simp[aK,Op.operands]));(have fin: ∀ {p:PV} {ad:Addr},ag h.c p (a.eval x)→a.eval x= .pointer (some ad)→K (s.fin o.dst (.val p))→o.wp E.P a w (fun a' w'=> ∃s',K s'∧Rel n w0 S0 s' a' w') Q:=by intro p ad hr he hk;rw[he]at hr;refine h.val ho ?_ hr hk;simp only[execOp,aK,he,Sem.run_pure])
 split at ab;(·rename_i id off bN;rw[bN]at hx;have mn:=hx;simp only[ag]at mn;obtain⟨_,g,_,hv⟩:=mn;exact fin hx hv ab);(·rename_i U y off bN;rw[bN]at hx;have mn:=hx;simp only[ag]at mn;obtain⟨_,g,ob,cs,hv,_⟩:=mn;exact fin hx hv ab)
 (·rename_i id sz i off bN;rw[bN]at hx;have mn:=hx;simp only[ag]at mn;obtain⟨_,g,ob,n,cap,_,_,hv⟩:=mn;exact fin hx hv ab);(·rename_i U y bN;rw[bN]at hx;have mn:=hx;simp only[ag,nX,de,aH]at mn;obtain⟨iK,g,ob,cs,hv,hS,hl,hc,hr⟩:=mn;simp only[List.cons.injEq,and_true]at hv;refine fin (p:=.dL U y 0) (ad:=⟨g,ob,none⟩) ?_ hv ab;simp only[ag];exact⟨iK,g,ob,cs,hv,hS,hl,hc,hr⟩)
 ·exact ab.elim
theorem H3: ∀ {T:Ty},j0 T=true→aR T=0:=by
 intro T;induction T with|own t=>intro h;cases h|pair a b ir gE=>intro h;simp only[j0,Bool.and_eq_true]at h;simp only[aR,ir h.1,gE h.2]|bn a b ir gE=>intro h;simp only[j0,Bool.and_eq_true]at h;simp only[aR,ir h.1,gE h.2]|mp a b ir gE=>intro h;simp only[j0,Bool.and_eq_true]at h;simp only[aR,ir h.1,gE h.2]|st t ih=>exact ih|sl t ih=>exact ih|ptr t ih=>exact ih|eQ f t ih=>exact ih|_=>intro _;rfl
theorem UF(h:Full n w0 S0 s a w ν S)(ho:bG n o=true) {x y z:Operand} (aK:o.op= .pick x y z)(ab:bo E (aj E F s o) (fun l=>K (s.fin o.dst l))):o.wp E.P a w (fun a' w'=> ∃s',K s'∧Rel n w0 S0 s' a' w') Q:=by
 simp only[aj,aK]at ab;have hx:=h.ev (az ho (x:=x) (by simp[aK,Op.operands]));have hy:=h.ev (az ho (x:=y) (by simp[aK,Op.operands]));have hz:=h.ev (az ho (x:=z) (by simp[aK,Op.operands]))
 split at ab;(·rename_i b hb;rw[hb]at hx;have hv:=jz hx;cases b;(·refine h.val ho ?_ hz ab;simp[execOp,aK,hv,asBool]);·refine h.val ho ?_ hy ab;simp[execOp,aK,hv,asBool])
 ·exact ab.elim
theorem uq(hE:aG E)(h:Full n w0 S0 s a w ν S)(ho:bG n o=true) {t:Nat} {x:Operand} (aK:o.op= .makeInterface t x)(ab:bo E (aj E F s o) (fun l=>K (s.fin o.dst l))):o.wp E.P a w (fun a' w'=> ∃s',K s'∧Rel n w0 S0 s' a' w') Q:=by
 simp only[aj,aK]at ab;have hx:=h.ev (az ho (x:=x) (by simp[aK,Op.operands]));split at ab;(·rename_i hc;have hc:=hE.HI t hc;unfold Uz at hc;refine h.val ho (p:=.oh t [s.ev x]) (v:=.iface t (a.eval x)) ?_ (by simp only[ag,ai];exact⟨_,rfl,_,[],rfl,hx,rfl⟩) ab;cases hu:E.P.underlying t with|none=>rw[hu]at hc;cases hc|some d=>rw[hu]at hc;(have hi:(Instr.makeInterface t (a.eval x)).run E.P w= .ok (.iface t (a.eval x)) w:=by unfold Instr.makeInterface;simp only[Sem.run_bind,run_underlying hu,Result.andThen_ok];cases d<;>first|(cases hc;done)|rfl);simp only[execOp,aK,Sem.run_bind,hi,Result.andThen_ok,Sem.run_pure])
 ·exact ab.elim
theorem AE(hE:aG E)(h:Full n w0 S0 s a w ν S)(ho:bG n o=true) {x:Operand} {xt u:Nat} {ok:Bool} (aK:o.op= .typeAssert x xt u ok)(ab:bo E (aj E F s o) (fun l=>K (s.fin o.dst l))):o.wp E.P a w (fun a' w'=> ∃s',K s'∧Rel n w0 S0 s' a' w') Q:=by
 simp only[aj,aK]at ab;have hx:=h.ev (az ho (x:=x) (by simp[aK,Op.operands]));split at ab;(·rename_i hc;have hc:=hE.HI u hc;unfold Uz at hc;unfold CH at ab;split at ab;(·rename_i t q bN;rw[bN]at hx;simp only[ag,ai]at hx;obtain⟨v,hv,v',r,UB,hq,hr⟩:=hx;subst hr;injection UB with UB;subst UB;(have hi:Nat.beq t u=true→(Instr.typeAssert (a.eval x) xt u ok).run E.P w= .ok (if ok then .tuple #[v,.bool true]else v) w:=fun hb=>by have e:=Nat.eq_of_beq_eq_true hb;subst e;rw[hv];cases hu:E.P.underlying t with|none=>rw[hu]at hc;cases hc|some d=>rw[hu]at hc;unfold Instr.typeAssert;simp only[Sem.run_bind,run_underlying hu,Result.andThen_ok];cases d<;>first|(cases hc;done)|simp);split at ab;(·rename_i hb;refine h.val (v:=.tuple #[v,.bool true]) ho ?_ ?_ ab;(·have:=hi hb;simp only[execOp,aK,Sem.run_bind,this,Result.andThen_ok,Sem.run_pure,if_true];try rfl);·simp only[ag,ai];exact⟨[v,.bool true],rfl,v,_,rfl,hq,.bool true,[],rfl,bK,rfl⟩);(·rename_i hb;refine h.val (v:=v) ho ?_ hq ab;have:=hi hb;simp only[execOp,aK,Sem.run_bind,this,Result.andThen_ok,Sem.run_pure,Bool.false_eq_true,if_false];try rfl);·exact ab.elim);·exact ab.elim)
 ·exact ab.elim
theorem Full.Ox(h:Full n w0 S0 s a w ν S) {d:Nat} (hd:d<n)(hl:look d s.bl=none) {cs:List PV} {vs:List Value} {e:TypeId} {te:Option Nat} (hte: ∀t,te=some t→e=t)(h1: ∀u,u∈vs→u.oneCell'=true)(hp:ai h.c cs vs):Rel n w0 S0 ⟨(d,.ref d 0)::s.sl,(d,.box cs te)::s.bl⟩ (a.put (some d) (.pointer (some ⟨w.heap.size,0,none⟩))) (w.alloc (.cells vs.toArray e)):=by
 have hD:(⟨(d,.ref d 0)::s.sl,(d,.box cs te)::s.bl⟩:St).D d:=⟨_,aM _ _ _⟩;(have bW: ∀i,s.D i→i≠d∧(⟨(d,.ref d 0)::s.sl,(d,.box cs te)::s.bl⟩:St).D i:=by rintro i⟨c,hc⟩;(have bW:i≠d:=by rintro rfl;rw[hl]at hc;cases hc);exact⟨bW,c,by rw[aC _ _ bW];exact hc⟩)
 have hle:Ctx.Le h.c ⟨fun i=>if i=d then .pointer (some ⟨w.heap.size,0,none⟩)else ν i,(⟨(d,.ref d 0)::s.sl,(d,.box cs te)::s.bl⟩:St).D,w.alloc (.cells vs.toArray e),⟨S,aL w0 S0⟩⟩:=⟨fun g hg=>Below.heap_alloc w _ g (h.W.lt g hg),fun _ h=>h,fun i hi=>(bW i hi).2,fun i hi=>by simp[(bW i hi).1,Full.c]⟩
 refine(h.new (b:=.box cs te) (p:=.ref d 0) (v:=.pointer (some ⟨w.heap.size,0,none⟩)) (val:=.pointer (some ⟨w.heap.size,0,none⟩)) hd hl (dt w _ none) (fun g hg=>h.beyond (by injection hg with hg;simp at hg;omega)) ?_ ?_).rel
 (·exact⟨fun t ht g hg=>by simp only[if_true,aE,Option.some.injEq]at hg;subst hg;rw[←hte t ht];exact⟨by simp[a03],_,_,_root_.Go.heap_alloc_new w _⟩,w.heap.size,vs.toArray,e,by simp,h.W.size _ (Nat.le_refl _),fun hS=>absurd (h.W.lt _ hS) (by simp),_root_.Go.heap_alloc_new w _,by simpa using h1,by simpa using bJ hle hp⟩)
 ·simp only[ag];exact⟨hD,w.heap.size,by simp,rfl⟩
theorem oK {c:Ctx} : ∀(T:Ty)(cs:List PV),zeroCells T=some cs→ ∃vs,dy T=some vs∧ai c cs vs∧ ∀u,u∈vs→u.oneCell'=true:=by
 intro T;induction T with|unit=>intro cs h;simp only[zeroCells,Option.some.injEq]at h;subst h;exact⟨[],rfl,by simp only[ai],by simp⟩|int k=>intro cs h;simp only[zeroCells,Option.some.injEq]at h;subst h;refine⟨[.int k 0],rfl,?_,by simp[Value.oneCell']⟩;simp only[ai];exact⟨_,[],rfl,bT (by cases k<;>decide),rfl⟩|bool=>intro cs h;simp only[zeroCells,Option.some.injEq]at h;subst h;exact⟨[.bool false],rfl,by simp only[ai];exact⟨_,[],rfl,bK,rfl⟩,by simp[Value.oneCell']⟩|str=>intro cs h;simp only[zeroCells,Option.some.injEq]at h;subst h;exact⟨[.string ⟨#[]⟩],rfl,by simp only[ai];exact⟨_,[],rfl,oJ (by simp),rfl⟩,by simp[Value.oneCell']⟩|sl t=>intro cs h;simp only[zeroCells,Option.some.injEq]at h;subst h;exact⟨[.slice none 0 0],rfl,by simp only[ai,ag];exact⟨_,[],rfl,rfl,rfl⟩,by simp[Value.oneCell']⟩|own t=>intro cs h;simp[zeroCells]at h|bn a b=>intro cs h;simp[zeroCells]at h|ptr t=>intro cs h;simp only[zeroCells,Option.some.injEq]at h;subst h;exact⟨[.pointer none],rfl,by simp only[ai,ag];exact⟨_,[],rfl,rfl,rfl⟩,by simp[Value.oneCell']⟩|eQ f t=>intro cs h;simp[zeroCells]at h|mp a b=>intro cs h;simp only[zeroCells]at h;split at h;(·rename_i hn;simp only[Option.some.injEq]at h;subst h;exact⟨[.map none],rfl,by simp only[ai,ag,nX,de,aH];exact⟨_,[],rfl,⟨H3 hn,by simp,.inl ⟨rfl,trivial⟩⟩,rfl⟩,by simp[Value.oneCell']⟩);(·simp only[Option.some.injEq]at h;subst h;exact⟨[.map none],rfl,by simp only[ai,ag];exact⟨_,[],rfl,trivial,rfl⟩,by simp[Value.oneCell']⟩)|aD=>intro cs h;simp only[zeroCells,Option.some.injEq]at h;subst h;exact⟨[.nilFunc],rfl,by simp only[ai,ag];exact⟨_,[],rfl,trivial,rfl⟩,by simp[Value.oneCell']⟩|st t ih=>intro cs h;exact ih cs h|pair a b ir gE=>intro cs h;simp only[zeroCells]at h;split at h;(·rename_i x y hx hy;simp only[Option.some.injEq]at h;subst h;obtain⟨va,ha,L2,h1a⟩:=ir x hx;obtain⟨vb,hb,hpb,h1b⟩:=gE y hy;refine⟨va++vb,by simp only[dy,ha,hb],bZ L2 hpb,fun u hu=>?_⟩;rcases List.mem_append.1 hu with hu|hu;(·exact h1a u hu);·exact h1b u hu);·cases h
theorem kM {T:Ty} {z:Value} {vs:List Value} (hz:oE (some z) T=true)(hv:dy T=some vs):z.cells.toList=vs:=by
 unfold oE at hz;rw[hv]at hz;simp only at hz;split at hz;(·split at hz;(·exact lH hz);·cases hz);·split at hz;(·rename_i u;have:=nf hz;subst this;unfold EN at hz;split at hz<;>first|rfl|cases hz);·cases hz
theorem Oy(hE:aG E)(h:Full n w0 S0 s a w ν S)(ho:bG n o=true) {t:Nat} (aK:o.op= .alloc t)(ab:bo E (aj E F s o) (fun l=>K (s.fin o.dst l))):o.wp E.P a w (fun a' w'=> ∃s',K s'∧Rel n w0 S0 s' a' w') Q:=by
 simp only[aj,aK]at ab;split at ab;(·rename_i T d hT hd;split at ab;(·rename_i cs hl hz;simp only[bo,St.fin,hd]at ab;obtain⟨vs,rW,hp,h1⟩:=oK (c:=h.c) T cs hz;obtain⟨i,hi,_,_,EW,z,hzz,_⟩:=(hE.facts hT).info;rw[hzz]at EW;have Ue:=kM EW rW;(have hr:(execOp a.eval o).run E.P w= .ok (.value (.pointer (some ⟨w.heap.size,0,none⟩))) (w.alloc (.cells vs.toArray t)):=by simp only[execOp,aK,Instr.alloc,Sem.run_bind,zeroValue,typeInfo,Sem.run_bind,run_program,Result.andThen_ok,hi,hzz,Sem.run_pure,newVar,newRow,run_newObj];rw[←Ue];rfl);refine cU hr ⟨_,ab,?_⟩;rw[hd];exact h.Ox (bm ho d hd) hl (fun t' ht=>by cases hb:E.CE t with|true=>(rw[hb]at ht;exact Option.some.inj ht)|false=>(rw[hb]at ht;cases ht)) h1 hp);·exact ab.elim)
 ·exact ab.elim
theorem as8(h:Full n w0 S0 s a w ν S)(ho:bG n o=true) {t:Nat} {x:Operand} (aK:o.op= .box t x)(ab:bo E (aj E F s o) (fun l=>K (s.fin o.dst l))):o.wp E.P a w (fun a' w'=> ∃s',K s'∧Rel n w0 S0 s' a' w') Q:=by
 simp only[aj,aK]at ab;have hx:=h.ev (az ho (x:=x) (by simp[aK,Op.operands]));split at ab;(·rename_i d cs hd Ew;split at ab;(·rename_i hl;simp only[bo,St.fin,hd]at ab;obtain⟨hp,h1⟩:=kI hx Ew;(have hr:(execOp a.eval o).run E.P w= .ok (.value (.pointer (some ⟨w.heap.size,0,none⟩))) (w.alloc (.cells (a.eval x).cells.toList.toArray t)):=by simp only[execOp,aK,Instr.box,Sem.run_bind,newVar,newRow,run_newObj,Result.andThen_ok,Sem.run_pure,Array.toArray_toList];rfl);refine cU hr ⟨_,ab,?_⟩;rw[hd];exact h.Ox (bm ho d hd) hl (fun t' ht=>by cases ht) h1 hp);·exact ab.elim)
 ·exact ab.elim
theorem Full.ur(h:Full n w0 S0 s a w ν S) {d:Nat} (hd:d<n)(hl:look d s.bl=none) {T:Ty} {te:Option Nat} {xs:List T.den} {v:Value} {w':World} (hT:aR T=0)(hw:eF w w' none)(hs: ∃a n c,v= .slice a n c)(iw: ∀g,aE v=some g→w.heap.size≤g)(hr:aH (.own T) xs w' ⟨S,aL w0 S0⟩ [v])(hte:gp te w' v):Rel n w0 S0 ⟨(d,.aF d)::s.sl,(d,.arr T xs te)::s.bl⟩ (a.put (some d) v) w':=by
 refine(h.new (b:=.arr T xs te) (p:=.aF d) (v:=v) (val:=v) hd hl hw (fun g hg=>h.beyond (iw g hg)) ?_ ?_).rel;(·exact⟨hte.mi (by simp) fun _ _=>rfl,hT,by simpa using hr⟩)
 ·simp only[ag];exact⟨⟨_,aM _ _ _⟩,by simp,hs⟩
theorem jd(s:St): ∀(l:List (Nat×Operand)),dp s l=l.map fun p=>(p.1,s.ev p.2)|[]=>rfl|p::l=>by simp[dp,jd s l]
theorem sq(s:St): ∀(l:List Operand),ct s l=l.map s.ev|[]=>rfl|p::l=>by simp[ct,sq s l]
theorem gY(h:Full n w0 S0 s a w ν S): ∀(l:List Operand),(∀x,x∈l→lI x=true)→ai h.c (ct s l) (l.map a.eval)|[],_=>(by simp only[ct,List.map_nil,ai])|x::l,hc=>by simp only[ct,List.map_cons,ai];exact⟨_,_,rfl,h.ev (hc x (by simp)),gY h l (fun y hy=>hc y (by simp[hy]))⟩
end
/-! ### Literals -/
theorem EX: ∀(vs:List Value)(k off:Nat)(cells:Array Value),off+k+vs.length≤cells.size→((vs.zipIdx k).foldl (fun cs p=>cs.setIfInBounds (off+p.2) p.1) cells).toList=cells.toList.take (off+k)++vs++cells.toList.drop (off+k+vs.length)|[],k,off,cells,h=>(by simp)|v::vs,k,off,cells,h=>by simp only[List.length_cons]at h;simp only[List.zipIdx_cons,List.foldl_cons];rw[EX vs (k+1) off _ (by simp;omega)];simp only[Array.toList_setIfInBounds];(have h1:(cells.toList.set (off+k) v).take (off+(k+1))=cells.toList.take (off+k)++ [v]:=by rw[show off+(k+1)=(off+k)+1 from by omega,List.take_succ_eq_append_getElem (by simp;omega)];rw[List.take_set_of_le (by omega),List.getElem_set_self]);(have h2:(cells.toList.set (off+k) v).drop (off+(k+1)+vs.length)=cells.toList.drop (off+k+(v::vs).length):=by rw[List.drop_set_of_lt (by omega)];congr 1;simp;omega);rw[h1,h2];simp
theorem EY {place:Nat→Option (Nat×Nat)} {i off size:Nat} {v:Value} {cells:Array Value} {rest:List (Nat×Value)} (hp:place i=some (off,size))(hs:v.cells.size=size)(hf:off+v.cells.size≤cells.size):Instr.fill place cells ((i,v)::rest)=Instr.fill place (cells.toList.take off++v.cells.toList++cells.toList.drop (off+v.cells.size)).toArray rest:=by
 simp only[Instr.fill,hp];rw[if_neg (by simp[hs];omega)];congr 1;have:=EX v.cells.toList 0 off cells (by simpa using hf);simp only[Nat.add_zero]at this;(have e:(v.cells.zipIdx.foldl (fun cs x=>match x with|(c,j)=>cs.setIfInBounds (off+j) c) cells)=(v.cells.toList.zipIdx.foldl (fun cs p=>cs.setIfInBounds (off+p.2) p.1) cells):=by rw[←Array.foldl_toList,Array.toList_zipIdx])
 rw[e];apply Array.toList_inj.1;rw[this];simp
theorem EZ {c:Ctx} {T:Ty} {place:Nat→Option (Nat×Nat)} (vJ: ∀i,i<jQ T→place i=some (j6 T i,(nR T i).cells)): ∀(ps:List (Nat×PV))(vs:List (Nat×Value))(cs jc:List PV)(cells:Array Value),ps.length=vs.length→(∀(k:Nat)(p:Nat×PV)(v:Nat×Value),ps[k]?=some p→vs[k]?=some v→p.1=v.1∧ag c p.2 v.2)→ai c cs cells.toList→(∀u,u∈cells.toList→u.oneCell'=true)→A8 T ps cs=some jc→ ∃out,Instr.fill place cells vs=some out∧ai c jc out.toList∧ ∀u,u∈out.toList→u.oneCell'=true|[],[],cs,jc,cells,_,_,hc,h1,h=>(by simp only[A8,Option.some.injEq]at h;subst h;exact⟨cells,rfl,hc,h1⟩)|[],_::_,_,_,_,hl,_,_,_,_=>(by cases hl)|_::_,[],_,_,_,hl,_,_,_,_=>(by cases hl)|p::ps,v::vs,cs,jc,cells,hl,hr,hc,h1,h=>by obtain⟨HM,bC⟩:=hr 0 p v rfl rfl;simp only[A8]at h;split at h;(·rename_i us hus;obtain⟨a08,pU⟩:=kI bC hus;split at h;(·rename_i hle jW c7;(have hlen:us.length=(nR T p.1).cells:=by(have: ∀ {α:Type} (l:List α)(k:Nat),xF l k=true→l.length=k:=by intro α l;induction l with|nil=>intro k hk;(cases k<;>first|rfl|cases hk)|cons x l ih=>intro k hk;cases k with|zero=>cases hk|succ k=>simp[ih k hk]);exact this _ _ hle);(have Az:us.length=v.2.cells.size:=by rw[dg a08];simp);have eR:=dg hc;have dZ:=Nat.le_of_ble_eq_true jW;(have L6:p.1<jQ T:=by simpa[Nat.blt_eq]using c7);(have bg9:cs.length=cells.size:=by rw[eR];simp);obtain⟨pi,pv⟩:=p;obtain⟨vi,vv⟩:=v;simp only at HM L6 hlen Az dZ;subst HM;rw[EY (vJ pi L6) (by rw[←Az,hlen]) (by rw[←Az,←bg9];exact dZ)];refine EZ vJ ps vs _ jc _ (by simpa using hl) (fun k p' v' Ma Oz=>hr (k+1) p' v' Ma Oz) ?_ ?_ h;(·simp only[Az];exact bZ (bZ (dO _ hc) a08) (dN _ hc));·intro u hu;simp only[List.mem_append]at hu;rcases hu with(hu|hu)|hu;(·exact h1 u (List.mem_of_mem_take hu));(·exact pU u hu);·exact h1 u (List.mem_of_mem_drop hu));·cases h);·cases h
end Go.Proofs.YtgpkijnphchkpaaGreat
namespace Go.Proofs.YtgpkijnphchkpaaGreat
variable {dM:Prop} [jN dM]
open Go.RowKit
section
variable {E:Env} {n:Nat} {w0:World} {S0:Cx} {s:St} {a:Act} {w:World} {ν:Nat→Value} {S:Nat→Prop} {F:dw} {o:Oper} {K:St→Prop} {Q:Exit→Act→World→Prop}
theorem vK {ty:Nat→Option Ty} : ∀(fs:List Field)(R:Ty)(off:Nat),bQ ty fs R off=true→ ∀(i:Nat),i<cj R→ ∃f,fs[i]?=some f∧f.offset=off+eD R i∧ty f.type=some (bB R i)∧1≤(bB R i).cells∧(bB R i).val=true∧f.name≠ "_" |[],R,off,h,i,hi=>(by cases h)|[f],R,off,h,i,hi=>(by simp only[bQ,Bool.and_eq_true,oF]at h;obtain⟨⟨⟨⟨h1,h2⟩,h3⟩,h4⟩,h5⟩:=h;(have bW: ∀x y,R≠ .pair x y:=by rintro x y rfl;cases h4);(have eR:cj R=1:=by cases R<;>first|rfl|exact absurd rfl (bW _ _));(have hi0:i=0:=by omega);subst hi0;(have Ud:eD R 0=0:=by cases R<;>first|rfl|exact absurd rfl (bW _ _));(have H4:bB R 0=R:=by cases R<;>first|rfl|exact absurd rfl (bW _ _));split at h2;(·rename_i U hU;rw[Ty.db h2]at hU;exact⟨f,rfl,by rw[Ud,Nat.eq_of_beq_eq_true h1];omega,by rw[H4];exact hU,by rw[H4];exact Nat.le_of_ble_eq_true h3,by rw[H4];exact h4,by simpa using h5⟩);·cases h2)|f::g::gs,R,off,h,i,hi=>by cases R with|pair x y=>simp only[bQ,Bool.and_eq_true,oF]at h;obtain⟨⟨⟨⟨⟨h1,h2⟩,h3⟩,h4⟩,h5⟩,h6⟩:=h;split at h2;(·rename_i U hU;rw[Ty.db h2]at hU;cases i with|zero=>exact⟨f,rfl,by simp[eD,Nat.eq_of_beq_eq_true h1],hU,Nat.le_of_ble_eq_true h3,h4,by simpa using h5⟩|succ i=>obtain⟨f',e1,e2,e3⟩:=vK (g::gs) y (off+x.cells) (by unfold bQ;exact h6) i (by simp[cj]at hi;omega);exact⟨f',by simpa using e1,by simp only[eD];omega,e3⟩);(·cases h2)|_=>simp only[bQ]at h;cases h
theorem sr {ty:Nat→Option Ty} : ∀(fs:List Field)(R:Ty)(off:Nat),bQ ty fs R off=true→fs.length=cj R|[],R,off,h=>(by cases h)|[f],R,off,h=>(by simp only[bQ,Bool.and_eq_true]at h;have h4:=h.1.2;cases R<;>first|rfl|cases h4)|f::g::gs,R,off,h=>by cases R with|pair x y=>simp only[bQ,Bool.and_eq_true]at h;have:=sr (g::gs) y (off+x.cells) (by unfold bQ;exact h.2);simp only[List.length_cons]at this⊢;simp only[cj];omega|_=>simp only[bQ]at h;cases h
theorem pV(V:Ty)(hV:V.val=true): ∀n,0<n→cj (rowOf V n)=n|0,h=>(by cases h)|1,_=>(by cases V<;>first|rfl|cases hV)|n+2,_=>by simp only[rowOf,cj];rw[pV V hV (n+1) (by omega)];omega
theorem mq(V:Ty)(hV:V.val=true): ∀n i,i<n→eD (rowOf V n) i=i*V.cells∧bB (rowOf V n) i=V|0,i,h=>(by cases h)|1,i,h=>(by(have:i=0:=by omega);subst this;cases V<;>first|exact⟨by simp[rowOf,eD],rfl⟩|cases hV)|n+2,0,_=>(by simp[rowOf,eD,bB])|n+2,i+1,h=>by obtain⟨h1,h2⟩:=mq V hV (n+1) i (by omega);simp only[rowOf,eD,bB];exact⟨by rw[h1,Nat.add_mul];omega,h2⟩
theorem oL(V:Ty): ∀n,(rowOf V n).cells=n*V.cells|0=>(by simp[rowOf,Ty.cells])|1=>(by simp[rowOf])|n+2=>by simp only[rowOf,Ty.cells];rw[oL V (n+1),Nat.add_mul (n+1) 1];omega
theorem cE.agg(hE:aG E) {t:Nat} {R:Ty} (h:cE E t (.st R)):(∃fs,E.P.underlying t=some (.struct fs)∧fs.size=cj R∧ ∀i,i<cj R→ ∃f,fs[i]?=some f∧f.offset=eD R i∧E.ty f.type=some (bB R i)∧1≤(bB R i).cells∧(bB R i).val=true∧f.name≠ "_")∨(∃m e V,E.P.underlying t=some (.array m e)∧E.ty e=some V∧R=rowOf V m∧V.val=true∧1≤V.cells∧2≤m):=by
 obtain⟨d,hd,hs⟩:=h.qw;(cases d<;>simp only[cP]at hs<;>first|cases hs|skip);(·rename_i m e;split at hs;(·rename_i V hV;simp only[Bool.and_eq_true]at hs;exact .inr ⟨_,_,V,hd,hV,Ty.db hs.1.1.1,hs.1.1.2,Nat.le_of_ble_eq_true hs.1.2,Nat.le_of_ble_eq_true hs.2⟩);·cases hs)
 ·rename_i fs;refine .inl ⟨fs,hd,by simpa using sr _ _ _ hs,fun i hi=>?_⟩;obtain⟨f,h1,h2,h3⟩:=vK fs.toList R 0 hs i hi;exact⟨f,by simpa using h1,by simpa using h2,h3⟩
theorem OA(hE:aG E)(h:Full n w0 S0 s a w ν S)(ho:bG n o=true) {t:Nat} {parts:Array (Nat×Operand)} (aK:o.op= .build t parts)(ab:bo E (aj E F s o) (fun l=>K (s.fin o.dst l))):o.wp E.P a w (fun a' w'=> ∃s',K s'∧Rel n w0 S0 s' a' w') Q:=by
 simp only[aj,aK]at ab;split at ab;(·rename_i bh0 su;have he:=hE.emp t bh0;unfold as6 at he;split at he;(·rename_i i fs hi hu;simp only[Bool.and_eq_true]at he;obtain⟨h1,h2⟩:=he;split at h2;(·rename_i cs hz;have Ew:cs= #[]:=Array.toList_inj.1 (by simpa using h2);have hfs:fs= #[]:=Array.toList_inj.1 (by simpa using h1);have rX:parts= #[]:=Array.toList_inj.1 (by rw[su]);subst Ew;subst hfs;subst rX;refine h.val ho (p:=.agg []) (v:=.agg #[]) ?_ (by simp only[ag,ai];exact⟨[],rfl,by simp,rfl⟩) ab;(have H5:(zeroValue t).run E.P w= .ok (.agg #[]) w:=by simp[zeroValue,typeInfo,hi,hz]);simp[execOp,aK,Instr.build,H5,run_underlying hu,Value.cells,Instr.fill]);·cases h2);·cases he)
 simp only[xH]at ab;split at ab;(·rename_i R hT;split at ab;(·rename_i z hz;split at ab;(·rename_i cs a09;have hf:=hE.facts hT;obtain⟨vs,rW,hp,h1⟩:=oK (c:=h.c) (.st R) z hz;obtain⟨i,hi,cY,_,EW,zv,hzz,_⟩:=hf.info;rw[hzz]at EW;have Ue:=kM EW rW;(have H6: ∀(k:Nat)(p:Nat×PV)(v:Nat×Value),(dp s parts.toList)[k]?=some p→((parts.map fun x=>(x.1,a.eval x.2)).toList)[k]?=some v→p.1=v.1∧ag h.c p.2 v.2:=by intro k p v hk hv;rw[jd,List.getElem?_map]at hk;simp only[Array.toList_map,List.getElem?_map]at hv;cases hx:parts.toList[k]? with|none=>rw[hx]at hk;cases hk|some x=>rw[hx]at hk hv;simp only[Option.map_some,Option.some.injEq]at hk hv;subst hk;subst hv;refine⟨rfl,h.ev (az ho ?_)⟩;have hm:x∈parts:=Array.mem_toList_iff.1 (List.mem_of_getElem? hx);simp only[aK,Op.operands,List.mem_toArray,List.mem_map];exact⟨x,Array.mem_toList_iff.2 hm,rfl⟩);(have hlen:(dp s parts.toList).length=((parts.map fun x=>(x.1,a.eval x.2)).toList).length:=by simp[jd]);(have main: ∀place:Nat→Option (Nat×Nat),(∀i,i<jQ (.st R)→place i=some (j6 (.st R) i,(nR (.st R) i).cells))→ ∃out,Instr.fill place zv.cells (parts.map fun x=>(x.1,a.eval x.2)).toList=some out∧ag h.c (.agg cs) (.agg out):=by intro place vJ;obtain⟨out,h2,h3,h4⟩:=EZ vJ _ _ z cs zv.cells hlen H6 (by rw[Ue];exact hp) (by rw[Ue];exact h1) a09;refine⟨out,h2,?_⟩;simp only[ag];exact⟨out.toList,by simp,h4,h3⟩);rcases hf.agg hE with⟨fs,hu,n9,hfa⟩|⟨m,e,V,hu,he,rfl,hV,hV1,hm⟩;(·(have UG: ∀(l:List Field),(∀f,f∈l→ ∃j,E.P.info? f.type=some j)→(l.mapM fun f=>do pure (f.offset,←sizeOf f.type):Sem (List (Nat×Nat))).run E.P w= .ok (l.map fun f=>(f.offset,E.P.cellsOf f.type)) w:=by intro l;induction l with|nil=>intro _;simp|cons f l ih=>intro hl;obtain⟨j,hj⟩:=hl f (by simp);have:=ih (fun g hg=>hl g (by simp[hg]));(have step:(do pure (f.offset,←sizeOf f.type):Sem (Nat×Nat)).run E.P w= .ok (f.offset,E.P.cellsOf f.type) w:=by simp[sizeOf,typeInfo,hj,Program.cellsOf]);rw[List.mapM_cons,Sem.run_bind,step];simp only[Result.andThen_ok];rw[Sem.run_bind,this];simp only[Result.andThen_ok,Sem.run_pure,List.map_cons]);(have a10: ∀f,f∈fs.toList→ ∃j,E.P.info? f.type=some j:=by intro f E1;obtain⟨k,hk⟩:=List.getElem?_of_mem E1;(have oa:k<cj R:=by rw[←n9];have:=(List.getElem?_eq_some_iff.1 hk).1;simpa using this);obtain⟨f',pU,_,h3',_⟩:=hfa k oa;(have:f=f':=by(have:fs.toList[k]?=some f':=by simpa using pU);rw[hk]at this;injection this);subst this;obtain⟨j,hj,_⟩:=(hE.facts h3').info;exact⟨j,hj⟩);have a11:=UG fs.toList a10;obtain⟨out,Ud,bC⟩:=main (fun i=>(fs.map fun f=>(f.offset,E.P.cellsOf f.type))[i]?) (fun i uj=>by obtain⟨f,pU,Uf,h3',_⟩:=hfa i uj;obtain⟨j,hj,hjs,_⟩:=(hE.facts h3').info;simp only[Array.getElem?_map,pU,Option.map_some,j6,nR,Program.cellsOf,hj,Option.getD_some,hjs,Uf]);refine h.val ho (v:=.agg out) ?_ bC ab;(have Mb:(fs.mapM fun f=>do pure (f.offset,←sizeOf f.type):Sem (Array (Nat×Nat))).run E.P w= .ok (fs.map fun f=>(f.offset,E.P.cellsOf f.type)) w:=by rw[Array.mapM_eq_mapM_toList,Sem.run_map,a11];simp only[Result.andThen_ok];congr 1;exact Array.toList_inj.1 (by simp));simp only[execOp,aK,Instr.build,Sem.run_bind,zeroValue,typeInfo,run_program,Result.andThen_ok,hi,hzz,Sem.run_pure,run_underlying hu,Mb,Ud]);·obtain⟨j,hj,hjs,_⟩:=(hE.facts he).info;obtain⟨out,Ud,bC⟩:=main (fun i=>some (i*V.cells,V.cells)) (fun i uj=>by simp only[jQ]at uj;rw[pV V hV m (by omega)]at uj;obtain⟨e1,e2⟩:=mq V hV m i uj;simp only[j6,nR,e1,e2]);refine h.val ho (v:=.agg out) ?_ bC ab;simp only[execOp,aK,Instr.build,Sem.run_bind,zeroValue,typeInfo,run_program,Result.andThen_ok,hi,hzz,Sem.run_pure,run_underlying hu,sizeOf,hj,hjs,Ud]);·exact ab.elim);·exact ab.elim)
 ·exact ab.elim
end
end Go.Proofs.YtgpkijnphchkpaaGreat
namespace Go.Proofs.YtgpkijnphchkpaaGreat
variable {dM:Prop} [jN dM]
open Go.RowKit
theorem xU {F F':dw} {bl bl':List (Nat×aO)} : ∀(T:Ty)(ps:List PV)(r:T.den×List PV),PV.eS ps=false→PV.cI ps=[]→pk F bl T ps=some r→pk F' bl' T ps=some r∧PV.eS r.2=false∧PV.cI r.2=[]:=by
 (have cons: ∀(p:PV)(ps:List PV),PV.eS (p::ps)=false→PV.cI (p::ps)=[]→(PV.refs p=false∧PV.jP p=[])∧PV.eS ps=false∧PV.cI ps=[]:=by intro p ps h1 h2;simp only[PV.eS,Bool.or_eq_false_iff]at h1;simp only[PV.cI,List.append_eq_nil_iff]at h2;exact⟨⟨h1.1,h2.1⟩,h1.2,h2.2⟩)
 intro T;induction T with|unit=>intro ps r h1 h2 h;simp only[pk,Option.some.injEq]at h⊢;subst h;exact⟨rfl,h1,h2⟩|pair a b ir gE=>intro ps r h1 h2 h;simp only[pk]at h⊢;split at h;(·rename_i x r1 hx;obtain⟨e1,h3,h4⟩:=ir ps _ h1 h2 hx;split at h;(·rename_i y r2 hy;obtain⟨e2,h5,h6⟩:=gE r1 _ h3 h4 hy;simp only[Option.some.injEq]at h;subst h;simp only[e1,e2];exact⟨trivial,h5,h6⟩);·cases h);(·cases h)|st t ih=>intro ps r h1 h2 h;simp only[pk]at h⊢;exact ih ps r h1 h2 h|bn a b=>intro ps r h1 h2 h;simp only[pk]at h;cases h|int k=>intro ps r h1 h2 h;(cases ps with|nil=>simp only[pk]at h;cases h|cons p ps=>simp only[pk]at h⊢;obtain⟨x,r'⟩:=r;obtain⟨_,h3,h4⟩:=cons p ps h1 h2;obtain⟨_,rfl⟩:=aV h;exact⟨h,h3,h4⟩)|bool=>intro ps r h1 h2 h;(cases ps with|nil=>simp only[pk]at h;cases h|cons p ps=>simp only[pk]at h⊢;obtain⟨x,r'⟩:=r;obtain⟨_,h3,h4⟩:=cons p ps h1 h2;obtain⟨_,rfl⟩:=aV h;exact⟨h,h3,h4⟩)|str=>intro ps r h1 h2 h;(cases ps with|nil=>simp only[pk]at h;cases h|cons p ps=>simp only[pk]at h⊢;obtain⟨x,r'⟩:=r;obtain⟨_,h3,h4⟩:=cons p ps h1 h2;obtain⟨_,rfl⟩:=aV h;exact⟨h,h3,h4⟩)|sl t ih=>intro ps r h1 h2 h;(cases ps with|nil=>simp only[pk]at h;cases h|cons p ps=>simp only[pk]at h⊢;obtain⟨x,r'⟩:=r;obtain⟨⟨h5,h6⟩,h3,h4⟩:=cons p ps h1 h2;obtain⟨hx,rfl⟩:=aV h;refine⟨?_,h3,h4⟩;cases p<;>first|(simp[PV.jP]at h6;done)|exact h)|own t ih=>intro ps r h1 h2 h;(cases ps with|nil=>simp only[pk]at h;cases h|cons p ps=>simp only[pk]at h⊢;obtain⟨x,r'⟩:=r;obtain⟨⟨h5,h6⟩,h3,h4⟩:=cons p ps h1 h2;obtain⟨hx,rfl⟩:=aV h;refine⟨?_,h3,h4⟩;cases p<;>first|(simp[PV.jP]at h6;done)|exact h)|mp a b=>intro ps r h1 h2 h;(cases ps with|nil=>simp only[pk]at h;cases h|cons p ps=>simp only[pk]at h⊢;obtain⟨x,r'⟩:=r;obtain⟨⟨h5,h6⟩,h3,h4⟩:=cons p ps h1 h2;obtain⟨hx,rfl⟩:=aV h;refine⟨?_,h3,h4⟩;cases p<;>first|(simp[PV.jP]at h6;done)|exact h)|aD=>intro ps r h1 h2 h;(cases ps with|nil=>simp only[pk]at h;cases h|cons p ps=>simp only[pk]at h⊢;obtain⟨x,r'⟩:=r;obtain⟨_,h3,h4⟩:=cons p ps h1 h2;obtain⟨_,rfl⟩:=aV h;exact⟨h,h3,h4⟩)|ptr t ih=>intro ps r h1 h2 h;(cases ps with|nil=>simp only[pk]at h;cases h|cons p ps=>simp only[pk]at h⊢;obtain⟨x,r'⟩:=r;obtain⟨⟨h5,h6⟩,h3,h4⟩:=cons p ps h1 h2;cases p with|ref i off=>simp[PV.refs]at h5|iv U y=>obtain⟨_,rfl⟩:=aV h;exact⟨h,h3,h4⟩|dL U y off=>(cases off with|zero=>obtain⟨_,rfl⟩:=aV h;exact⟨h,h3,h4⟩|succ k=>cases h)|_=>cases h)|eQ f t ih=>intro ps r h1 h2 h;cases ps with|nil=>simp only[pk]at h;cases h|cons p ps=>simp only[pk]at h⊢;obtain⟨x,r'⟩:=r;obtain⟨⟨h5,h6⟩,h3,h4⟩:=cons p ps h1 h2;cases p with|iv U y=>obtain⟨_,rfl⟩:=aV h;exact⟨h,h3,h4⟩|fn g dC=>(cases hb:Nat.beq f g with|false=>simp[hb]at h|true=>simp only[hb,cond_true]at h⊢;obtain⟨hx,rfl⟩:=aV h;obtain⟨e1,_⟩:=ih dC _ (by simpa[PV.refs]using h5) (by simpa[PV.jP]using h6) (dP hx);exact⟨by rw[e1];rfl,h3,h4⟩)|_=>cases h
theorem E3 {F F':dw} {bl bl':List (Nat×aO)} {T:Ty} {p:PV} {x:T.den} (h1:PV.refs p=false)(h2:PV.jP p=[])(h:exp F bl T p=some x):exp F' bl' T p=some x:=by
 (have uu:PV.eS [p]=false:=by simp[PV.eS,h1]);(have rY:PV.cI [p]=[]:=by simp[PV.cI,h2]);cases T with|st t=>(cases p with|iv U y=>exact h|agg cs=>simp only[exp]at h⊢;rw[(xU (F':=F') (bl':=bl') t cs _ (by simpa[PV.refs]using h1) (by simpa[PV.jP]using h2) (dP h)).1];rfl|_=>simp only[exp]at h;cases h)|unit=>simp only[exp]at h;cases h|pair a b=>simp only[exp]at h;cases h|bn a b=>simp only[exp]at h;cases h|_=>simp only[exp]at h⊢;rw[(xU (F':=F') (bl':=bl') _ _ _ uu rY (dP h)).1];rfl
theorem dh {id:Nat} {b:aO} : ∀ {bl:List (Nat×aO)},look id bl=some b→ak id (keys bl)=true|[],h=>(by cases h)|p::r,h=>by simp only[look]at h;simp only[keys,List.map_cons,ak];cases hb:Nat.beq id p.1 with|true=>rfl|false=>simp only[hb,cond_false]at h⊢;exact dh h
theorem E4 {T:Ty} {c:PV} {x:T.den} (h:oi T c=some x):c= .iv T x:=by
 (cases c<;>simp only[oi]at h<;>first|cases h|skip);rename_i U y;obtain⟨e,hx⟩:=Ty.bw h;subst e;simp only at hx;rw[hx]
theorem xV {T:Ty} : ∀ {cs:List PV} {xs:List T.den},m9 T cs=some xs→cs=xs.map (PV.iv T)|[],xs,h=>(by simp only[m9,Option.some.injEq]at h;subst h;rfl)|c::r,xs,h=>by simp only[m9]at h;split at h;(·rename_i x ys hx oc;simp only[Option.some.injEq]at h;subst h;rw[E4 hx,xV oc];rfl);·cases h
theorem uv {T:Ty} (h:Ol T=true)(c:PV):join T [c]=c∧T.cells=1∧T.val=true:=by cases T<;>first|(cases h;done)|exact⟨rfl,rfl,rfl⟩
theorem J9 {T:Ty} {cs:List PV} {base m:Nat} {xs:List T.den} (h:m9 T ((cs.drop base).take m)=some xs) {k:Nat} {x:T.den} (hx:xs[k]?=some x):(cs.drop (base+k)).take 1=[.iv T x]∧k<m∧base+k<cs.length:=by
 have hm:=xV h;(have hk:((cs.drop base).take m)[k]?=some (.iv T x):=by rw[hm,List.getElem?_map,hx];rfl);(have hkm:k<m:=by rcases Nat.lt_or_ge k m with h'|h';(·exact h');·rw[List.getElem?_eq_none (by rw[List.length_take];omega)]at hk;cases hk)
 rw[List.getElem?_take,if_pos hkm,List.getElem?_drop]at hk;obtain⟨hl,e⟩:=List.getElem?_eq_some_iff.1 hk;refine⟨?_,hkm,hl⟩;rw[List.drop_eq_getElem_cons hl,e];rfl
section
variable {E:Env} {n:Nat} {w0:World} {S0:Cx} {s:St} {a:Act} {w:World} {ν:Nat→Value} {S:Nat→Prop} {F:dw} {o:Oper} {K:St→Prop} {Q:Exit→Act→World→Prop}
theorem Full.OB(h:Full n w0 S0 s a w ν S) {T:Ty} {p:PV} {x:T.den} {v:Value} (ho:aR T=0)(h1:PV.refs p=false)(h2:PV.jP p=[])(hx:exp F s.bl T p=some x)(hp:ag h.c p v):de T x w ⟨S,aL w0 S0⟩ v:=by
 have mn:=E3 (F':=⟨keys s.bl,true⟩) (bl':=s.bl) h1 h2 hx;refine fo (s:=s) (c:=h.c) (M':=⟨S,aL w0 S0⟩) ⟨rfl,h.W.cv,fun _ h=>h,fun id hF hD g hg=>?_⟩ (.inl ho) mn hp
 obtain⟨b,hb⟩:=hD;rw[dh hb]at hF;cases hF
theorem H7(P:Program)(t:TypeId)(p:Addr)(w:World):(Instr.loadAt t (.pointer (some p))).run P w=(loadVar t p).run P w:=by simp[Instr.loadAt,Instr.sureAddr]
theorem dH.part {w:World} {g o:Nat} {cs:List Value} (h:dH w g o cs)(off k:Nat):dH w g (o+off) ((cs.drop off).take k):=by
 intro j v hj;(have hjk:j<k:=by rcases Nat.lt_or_ge j k with h'|h';(·exact h');·rw[List.getElem?_eq_none (by rw[List.length_take];omega)]at hj;cases hj);rw[List.getElem?_take,if_pos hjk,List.getElem?_drop]at hj
 rw[Nat.add_assoc];exact h _ v hj
theorem pW {w:World} {g:Nat} {vs:Array Value} {e:TypeId} (h:w.heap[g]?=some (.cells vs e (0,0))):dH w g 0 vs.toList:=by
 intro j v hj;rw[cell_of_row w g _ vs e (0,0) h,Nat.zero_add];simpa using hj
theorem UH(hE:aG E)(h:Full n w0 S0 s a w ν S)(ho:bG n o=true) {t:Nat} {x:Operand} (aK:o.op= .load t x)(ab:bo E (aj E F s o) (fun l=>K (s.fin o.dst l))):o.wp E.P a w (fun a' w'=> ∃s',K s'∧Rel n w0 S0 s' a' w') Q:=by
 simp only[aj,aK,lG]at ab;have hx:=h.ev (az ho (x:=x) (by simp[aK,Op.operands]));(have aU: ∀(p:Addr)(v:Value),a.eval x= .pointer (some p)→(loadVar t p).run E.P w= .ok v w→(execOp a.eval o).run E.P w= .ok (.value v) w:=by intro p v he hl;simp only[execOp,aK,he,Sem.run_bind,H7,hl,Result.andThen_ok,Sem.run_pure])
 split at ab;(·rename_i T hT;have hf:=hE.facts hT;split at ab;(·rename_i id off bN;split at ab;(·rename_i cs te hl;obtain⟨hl,_⟩:=cy hl;split at ab;(·rename_i dZ;have dZ:=Nat.le_of_ble_eq_true dZ;rw[bN]at hx;simp only[ag]at hx;obtain⟨hd,g,hg,hv⟩:=hx;obtain⟨jy,g',vs,e,fh,hB,sg,hh,h1,bC⟩:=h.W.cv _ _ hl;simp only[Full.c]at hg;simp only at fh;rw[hg]at fh;(obtain rfl:g=g':=by injection fh with e1;injection e1 with e1;injection e1);have eR:=dg bC;have hc:=(pW hh).part off T.cells;rw[Nat.zero_add]at hc;refine h.val ho (aU _ _ hv (fK hf (by rw[List.length_take,List.length_drop];omega) hc)) ?_ ab;refine jB (by rw[List.length_take,List.length_drop];omega) hf.val (fun u hu=>h1 u (List.mem_of_mem_drop (List.mem_of_mem_take hu))) (dO _ (dN _ bC)));·exact ab.elim);·exact ab.elim);(·rename_i U y off bN;split at ab;(·rename_i dZ;have dZ:=Nat.le_of_ble_eq_true dZ;rw[bN]at hx;simp only[ag]at hx;obtain⟨sd,g,ob,cs,hv,hS,eR,hc,hr⟩:=hx;have iM:=hc.part off T.cells;refine h.val ho (aU _ _ hv (fK hf (by rw[List.length_take,List.length_drop];omega) iM)) ?_ ab;exact xO sd hf.val dZ hr);·exact ab.elim);(·rename_i id sz i off bN;split at ab;(·rename_i U xs te hl;obtain⟨hl,_⟩:=cy hl;split at ab;(·rename_i dZ cY;have dZ:=Nat.le_of_ble_eq_true dZ;have cY:=Nat.eq_of_beq_eq_true cY;obtain⟨y,hy,ab⟩:=ab;rw[bN]at hx;simp only[ag]at hx;obtain⟨hd,g,ob,m,cap,cG,him,hv⟩:=hx;obtain⟨jy,sd,u,hu,OC,dj⟩:=h.W.cv _ _ hl;simp only[Full.c]at cG;simp only[List.cons.injEq,and_true]at hu;rw[cG]at hu;subst hu;rcases dj with⟨hn,_⟩|⟨g',o',oD,cur,e,wF,hle,hcm,sg,hB,hh,qx,fj⟩;(·cases hn);·injection wF with e1 e2 e3;injection e1 with e1;injection e1 with e1 e4;subst e1;subst e4;subst e3;obtain⟨cs,eR,hc,hr⟩:=fj i y hy;have iM:=hc.part off T.cells;rw[cY]at hv;refine h.val ho (aU _ _ hv (fK hf (by rw[List.length_take,List.length_drop];omega) iM)) ?_ ab;exact xO sd hf.val dZ hr);·exact ab.elim);·exact ab.elim);(·rename_i id base U m i bN;split at ab;(·rename_i cs te hl;obtain⟨hl,_⟩:=cy hl;split at ab;(·rename_i xs Ex hb;simp only[Bool.and_eq_true]at hb;obtain⟨⟨H8,Mc⟩,dZ⟩:=hb;have H8:=Ty.db H8;subst H8;have dZ:=Nat.le_of_ble_eq_true dZ;obtain⟨y,hy,ab⟩:=ab;rw[bN]at hx;simp only[ag]at hx;obtain⟨hd,h0,hn,g,hg,hv⟩:=hx;obtain⟨jy,g',vs,e,fh,hB,sg,hh,h1,bC⟩:=h.W.cv _ _ hl;simp only[Full.c]at hg;simp only at fh;rw[hg]at fh;(obtain rfl:g=g':=by injection fh with e1;injection e1 with e1;injection e1);have eR:=dg bC;obtain⟨e1,e2,e3⟩:=J9 Ex hy;obtain⟨j1,j2,j3⟩:=uv Mc (.iv T y);have hc:=(pW hh).part (base+i.toNat) T.cells;rw[Nat.zero_add]at hc;refine h.val ho (aU _ _ hv (fK hf (by rw[List.length_take,List.length_drop];omega) hc)) ?_ ab;have:=jB (T:=T) (c:=h.c) (by rw[List.length_take,List.length_drop];omega) hf.val (fun u hu=>h1 u (List.mem_of_mem_drop (List.mem_of_mem_take hu))) (dO T.cells (dN (base+i.toNat) bC));rw[j2,e1,j1]at this;rw[j2];exact this);·exact ab.elim);·exact ab.elim);·exact ab.elim)
 ·exact ab.elim
end
end Go.Proofs.YtgpkijnphchkpaaGreat
namespace Go.Proofs.YtgpkijnphchkpaaGreat
variable {dM:Prop} [jN dM]
open Go.RowKit
section
variable {E:Env} {n:Nat} {w0:World} {S0:Cx} {s:St} {a:Act} {w:World} {ν:Nat→Value} {S:Nat→Prop} {F:dw} {o:Oper} {K:St→Prop} {Q:Exit→Act→World→Prop}
theorem xW: ∀ {α:Type} {l:List α} {k:Nat},xF l k=true→l.length=k|_,[],0,_=>rfl|_,[],_+1,h=>(by cases h)|_,_::_,0,h=>(by cases h)|_,_::r,k+1,h=>by simp[xW (l:=r) (k:=k) h]
theorem lK {E:Env} {t:Nat} {T:Ty} (hf:cE E t T) {w:World} {g off:Nat} {v:Value} {cur:Array Value} {e:TypeId} (hg:w.heap[g]?=some (.cells cur e (0,0)))(hl:v.cells.size=T.cells)(qx:off+T.cells≤cur.size)(h1: ∀u,u∈v.cells.toList→u.oneCell'=true):(Instr.storeAt t (.pointer (some ⟨g,off,none⟩)) v).run E.P w= .ok () (w.setRow g (cur.toList.take off++v.cells.toList++cur.toList.drop (off+T.cells)).toArray):=by
 have c8:=run_storeCells_at (P:=E.P) g off e v.cells.toList 0 cur w hg (by simpa[hl]using qx) h1;simp only[Nat.add_zero,Array.length_toList,hl]at c8;simp only[Instr.storeAt,Instr.sureAddr,Sem.run_bind,Sem.run_pure,Result.andThen_ok,storeVar,hf.sizeOf w,Sem.run_ite,hl,ne_eq,not_true_eq_false,if_false]
 exact c8
theorem H9 {α:Type} (A ys B:List α)(i:Nat)(v:α)(hi:i<ys.length)(cs:List α)(h:cs=A++(ys++B)):A++ys.set i v++B=cs.take (A.length+i)++ [v]++cs.drop (A.length+i+1):=by
 subst h;(have h1:(A++(ys++B)).take (A.length+i)=A++ys.take i:=by rw[List.take_append,List.take_of_length_le (by omega),Nat.add_sub_cancel_left,List.take_append_of_le_length (by omega)])
 (have h2:(A++(ys++B)).drop (A.length+i+1)=ys.drop (i+1)++B:=by rw[List.drop_append,List.drop_of_length_le (by omega),show A.length+i+1-A.length=i+1 from by omega,List.nil_append,List.drop_append_of_le_length (by omega)])
 rw[h1,h2,List.set_eq_take_append_cons_drop,if_pos hi];simp[List.append_assoc]
theorem Ka {T:Ty} (i:Int)(y:T.den)(h0:0≤i): ∀(xs:List T.den)(j:Nat),LU T i y j xs=if(j:Int)≤i then(xs.set (i.toNat-j) y).map (PV.iv T)else xs.map (PV.iv T)|[],j=>(by split<;>rfl)|x::r,j=>by simp only[LU];rw[Ka i y h0 r (j+1)];by_cases h1:i=(j:Int);(·subst h1;rw[if_pos rfl,if_pos (Int.le_refl _),if_neg (by omega)];simp);·rw[if_neg h1];by_cases h2:(j:Int)≤i;(·rw[if_pos h2,if_pos (by omega)];(have e:i.toNat-j=(i.toNat-(j+1))+1:=by omega);rw[e];simp);·rw[if_neg h2,if_neg (by omega)];rfl
theorem oM {c:Ctx} {q:PV} {v:Value} (hq:ag c q v): ∀(U:Ty)(off:Nat)(f:U.den→U.den),Aw U off q=some f→ ∀(x:U.den)(cs:List Value),aH U x c.w c.M cs→off<cs.length∧aH U (f x) c.w c.M (cs.set off v)∧v.cells= #[v]|.bool,off,f,h,x,cs,hx=>(by simp only[Aw]at h;split at h;(·rename_i y;injection h with h;subst h;simp only[ag]at hq;have hv:[v]=[Value.bool y]:=hq.2;injection hv with hv;subst hv;have hx:cs=[.bool x]:=hx;subst hx;exact⟨by simp,rfl,rfl⟩);·cases h)|.int k,off,f,h,x,cs,hx=>(by simp only[Aw]at h;split at h;(·rename_i k' y;split at h;(·rename_i he;have he:=Ty.db he;injection he with he;subst he;injection h with h;subst h;simp only[ag]at hq;have hv:[v]=[Value.int k y]∧_:=hq.2;obtain⟨hv,hb⟩:=hv;injection hv with hv;subst hv;have hx:cs=[.int k x]∧_:=hx;obtain⟨rfl,_⟩:=hx;exact⟨by simp,⟨rfl,hb⟩,rfl⟩);·cases h);·cases h)|.str,off,f,h,x,cs,hx=>(by simp only[Aw]at h;split at h;(·rename_i y;injection h with h;subst h;simp only[ag]at hq;have hv:[v]=[Value.string ⟨y.toArray⟩]∧_:=hq.2;obtain⟨hv,hb⟩:=hv;injection hv with hv;subst hv;have hx:cs=[.string ⟨x.toArray⟩]∧_:=hx;obtain⟨rfl,_⟩:=hx;exact⟨by simp,⟨rfl,hb⟩,rfl⟩);·cases h)|.st V,off,f,h,x,cs,hx=>oM hq V off f h x cs hx|.pair A B,off,f,h,x,cs,hx=>(by obtain⟨va,vb,rfl,ha,hb⟩:=hx;have wG:=bO _ _ _ _ _ ha;simp only[Aw]at h;split at h;(·rename_i c7;split at h;(·rename_i g hg;injection h with h;subst h;obtain⟨h1,h2,h3⟩:=oM hq A off g hg x.1 va ha;exact⟨by rw[List.length_append];omega,⟨_,_,List.set_append_left _ _ h1,h2,hb⟩,h3⟩);·cases h);·rename_i c7;(have H2:A.cells≤off:=by rcases Nat.lt_or_ge off A.cells with h'|h';(·simp only[Nat.blt]at c7;have:=Nat.ble_eq_true_of_le (Nat.succ_le_of_lt h');rw[this]at c7;cases c7);·exact h');split at h;(·rename_i g hg;injection h with h;subst h;obtain⟨h1,h2,h3⟩:=oM hq B _ g hg x.2 vb hb;exact⟨by rw[List.length_append];omega,⟨_,_,by rw[List.set_append_right _ _ (by omega),wG],ha,h2⟩,h3⟩);·cases h)|.unit,_,_,h,_,_,_=>nomatch h|.sl _,_,_,h,_,_,_=>nomatch h|.own _,_,_,h,_,_,_=>nomatch h|.bn _ _,_,_,h,_,_,_=>nomatch h|.ptr _,_,_,h,_,_,_=>nomatch h|.eQ _ _,_,_,h,_,_,_=>nomatch h|.mp _ _,_,_,h,_,_,_=>nomatch h|.aD,_,_,h,_,_,_=>nomatch h
theorem Bf (hE : aG E) (h : Full n w0 S0 s a w ν S) (ho : bG n o = true) {t : Nat} {x y : Operand} (aK : o.op = .store t x y) (qX : o.dst = none) (ab : bo E (oz E F s.bl t (s.ev x) (s.ev y)) (fun l => K (s.fin o.dst l))) : o.wp E.P a w (fun a' w' => ∃ s', K s' ∧ Rel n w0 S0 s' a' w') Q := by
  have hx := h.ev (az ho (x := x) (by simp [aK, Op.operands]))
  have hy := h.ev (az ho (x := y) (by simp [aK, Op.operands]))
  by_cases hT0 : True
  · simp only [oz] at ab
    split at ab
    · rename_i T hT
      have hf := hE.facts hT
      split at ab
      · rename_i us hus
        obtain ⟨OD, h1u⟩ := kI hy hus
        split at ab
        · rename_i hle
          have AA := xW hle
          have Az : (a.eval y).cells.size = T.cells := by rw [← AA, dg OD]; simp
          split at ab
          · rename_i id off bN
            split at ab
            · rename_i cs te hl
              obtain ⟨hl, _⟩ := kJ hl
              split at ab
              · rename_i dZ
                have dZ := Nat.le_of_ble_eq_true dZ
                rw [bN] at hx
                simp only [ag] at hx
                obtain ⟨hd, g, hg, hv⟩ := hx
                obtain ⟨jy, g', vs, e, fh, hB, sg, hh, h1, bC⟩ := h.W.cv _ _ hl
                simp only [Full.c] at hg
                simp only at fh hh hB sg
                rw [hg] at fh
                obtain rfl : g = g' := by injection fh with e1; injection e1 with e1; injection e1
                have eR := dg bC
                have hr := lK hf (off := off) hh Az (by rw [← Array.length_toList, ← eR]; exact dZ) h1u
                have aU : (execOp a.eval o).run E.P w = .ok .skip (w.setRow g (vs.toList.take off ++ (a.eval y).cells.toList ++ vs.toList.drop (off + T.cells)).toArray) := by
                  simp only [execOp, aK, hv, Sem.run_bind, hr, Result.andThen_ok, Sem.run_pure]
                refine kL aU ⟨_, ab, ?_⟩
                rw [qX]
                have kN := fL w g (vs.toList.take off ++ (a.eval y).cells.toList ++ vs.toList.drop (off + T.cells)).toArray
                have Md : aE (ν id) = some g := by rw [hg]; rfl
                have Ia : Ctx.Le h.c ⟨ν, s.D, w.setRow g (vs.toList.take off ++ (a.eval y).cells.toList ++ vs.toList.drop (off + T.cells)).toArray, ⟨S, aL w0 S0⟩⟩ :=
                  ⟨fun b hb => setRow_other w g b _ (fun e => (h.iu hl Md).2.1 (e ▸ hb)), fun _ h => h, fun _ h => h, fun _ _ => rfl⟩
                refine (h.upd hl (by rw [Md]; exact kN) (b' := .box (cs.take off ++ us ++ cs.drop (off + T.cells)) te) ⟨(by exact jy.xL Md hh (setRow_heap w g vs _ e _ hh)), g, _, e, hg, hB, sg, setRow_heap w g vs _ e _ hh, ?_, ?_⟩).rel
                · intro u hu
                  simp only [List.mem_append] at hu
                  rcases hu with (hu | hu) | hu
                  · exact h1 u (List.mem_of_mem_take hu)
                  · exact h1u u hu
                  · exact h1 u (List.mem_of_mem_drop hu)
                · exact bZ (bZ (dO _ (bJ Ia bC)) (bJ Ia OD)) (dN _ (bJ Ia bC))
              · exact ab.elim
            · exact ab.elim
          · rename_i id sz i off bN
            split at ab
            · rename_i U xs te hl
              obtain ⟨hl, _⟩ := kJ hl
              split at ab
              · rename_i heq
                simp only [Bool.and_eq_true] at heq
                obtain ⟨heq, cY⟩ := heq
                have H8 := Ty.db heq
                subst H8
                have cY := Nat.eq_of_beq_eq_true cY
                split at ab
                · rename_i z rZ Me bh1
                  rw [bN] at hx
                  simp only [ag] at hx
                  obtain ⟨hd, g, ob, m, cap, cG, him, hv⟩ := hx
                  have NW := h.W.cv _ _ hl
                  obtain ⟨jy, sd, u, hu, OC, dj⟩ := NW
                  simp only [Full.c] at cG
                  simp only [List.cons.injEq, and_true] at hu
                  rw [cG] at hu
                  subst hu
                  rcases dj with ⟨hn, _⟩ | ⟨g', o', oD, cur, e, wF, as9, hcm, sg, hB, hh, qx, fj⟩
                  · cases hn
                  · injection wF with e1 e2 e3
                    injection e1 with e1
                    injection e1 with e1 e4
                    subst e1; subst e4; subst e3; subst e2
                    rw [cY, Nat.add_zero] at hv
                    have n5 : i * T.cells + T.cells ≤ cap * T.cells := by
                      calc i * T.cells + T.cells = (i + 1) * T.cells := by rw [Nat.add_mul]; omega
                        _ ≤ cap * T.cells := Nat.mul_le_mul_right _ (by omega)
                    have hr := lK hf (off := ob + i * T.cells) hh Az (by omega) h1u
                    have aU : (execOp a.eval o).run E.P w = .ok .skip (w.setRow g (cur.toList.take (ob + i * T.cells) ++ (a.eval y).cells.toList ++ cur.toList.drop (ob + i * T.cells + T.cells)).toArray) := by
                      simp only [execOp, aK, hv, Sem.run_bind, hr, Result.andThen_ok, Sem.run_pure]
                    refine kL aU ⟨_, ab, ?_⟩
                    rw [qX]
                    have kN := fL w g (cur.toList.take (ob + i * T.cells) ++ (a.eval y).cells.toList ++ cur.toList.drop (ob + i * T.cells + T.cells)).toArray
                    have Md : aE (ν id) = some g := by rw [cG]; rfl
                    have a12 := h.OB sd rZ Me bh1 hy
                    have Bg : ∀ b, S b → (w.setRow g (cur.toList.take (ob + i * T.cells) ++ (a.eval y).cells.toList ++ cur.toList.drop (ob + i * T.cells + T.cells)).toArray).heap[b]? = w.heap[b]? := fun b hb => setRow_other w g b _ (fun e => sg (e ▸ hb))
                    have Ba := setRow_heap w g cur (cur.toList.take (ob + i * T.cells) ++ (a.eval y).cells.toList ++ cur.toList.drop (ob + i * T.cells + T.cells)).toArray e _ hh
                    generalize mr : (cur.toList.take (ob + i * T.cells) ++ (a.eval y).cells.toList ++ cur.toList.drop (ob + i * T.cells + T.cells)).toArray = OE at *
                    refine (h.upd (w' := w.setRow g OE) hl (by rw [Md]; exact kN) (b' := .arr T (xs.set i z)) ⟨cW _ _, sd, .slice (some ⟨g, ob, none⟩) xs.length cap, by simp only [cG], by rw [List.length_set]; exact OC, .inr ⟨g, ob, cap, OE, e, by rw [List.length_set], by rw [List.length_set]; exact as9, hcm, sg, hB, Ba, ?_, ?_⟩⟩).rel
                    all_goals subst mr
                    · simp only [List.size_toArray, List.length_append, List.length_take, List.length_drop, Array.length_toList, Az]
                      omega
                    · intro j q hq
                      by_cases fi : i = j
                      · subst fi
                        rw [List.getElem?_set_self him] at hq
                        · injection hq with hq
                          subst hq
                          refine ⟨(a.eval y).cells.toList, by rw [Array.length_toList, Az], fun k u hk => ?_, aB Bg (fun _ h => h) _ _ _ sd (kH hf.val a12)⟩
                          rw [cell_of_row _ _ _ _ _ _ Ba]
                          simp only [List.getElem?_toArray]
                          have oa : k < (a.eval y).cells.toList.length := (List.getElem?_eq_some_iff.1 hk).1
                          have Ak : (cur.toList.take (ob + i * T.cells)).length = ob + i * T.cells := by simp only [List.length_take, Array.length_toList]; omega
                          rw [List.append_assoc, List.getElem?_append_right (by rw [Ak]; omega), Ak, List.getElem?_append_left (by omega)]
                          rw [← hk]
                          congr 1
                          omega
                      · rw [List.getElem?_set_ne fi] at hq
                        obtain ⟨cs, eR, hc, Ib⟩ := fj j q hq
                        refine ⟨cs, eR, fun k u hk => ?_, aB Bg (fun _ h => h) _ _ _ sd Ib⟩
                        have oa : k < cs.length := (List.getElem?_eq_some_iff.1 hk).1
                        have eT := hc k u hk
                        rw [cell_of_row _ _ _ _ _ _ hh] at eT
                        rw [cell_of_row _ _ _ _ _ _ Ba]
                        simp only [List.getElem?_toArray]
                        have Ak : (cur.toList.take (ob + i * T.cells)).length = ob + i * T.cells := by simp only [List.length_take, Array.length_toList]; omega
                        rcases Nat.lt_or_gt_of_ne fi with c7 | Ug
                        · have hmul : i * T.cells + T.cells ≤ j * T.cells := by
                            calc i * T.cells + T.cells = (i + 1) * T.cells := by rw [Nat.add_mul]; omega
                              _ ≤ j * T.cells := Nat.mul_le_mul_right _ c7
                          rw [List.append_assoc, List.getElem?_append_right (by rw [Ak]; omega), Ak, List.getElem?_append_right (by rw [Array.length_toList, Az]; omega), List.getElem?_drop, Array.length_toList, Az]
                          rw [← eT]
                          simp only [Array.getElem?_toList]
                          congr 1
                          omega
                        · have hmul : j * T.cells + T.cells ≤ i * T.cells := by
                            calc j * T.cells + T.cells = (j + 1) * T.cells := by rw [Nat.add_mul]; omega
                              _ ≤ i * T.cells := Nat.mul_le_mul_right _ Ug
                          rw [List.append_assoc, List.getElem?_append_left (by rw [Ak]; omega), List.getElem?_take, if_pos (by omega)]
                          simpa using eT
                · exact ab.elim
              · rename_i off _ _ bW
                split at ab
                · rename_i f cY Kb
                  have cY := Nat.eq_of_beq_eq_true cY
                  rw [bN] at hx
                  simp only [ag] at hx
                  obtain ⟨hd, g, ob, m, cap, cG, him, hv⟩ := hx
                  have NW := h.W.cv _ _ hl
                  obtain ⟨jy, sd, u, hu, OC, dj⟩ := NW
                  simp only [Full.c] at cG
                  simp only [List.cons.injEq, and_true] at hu
                  rw [cG] at hu
                  subst hu
                  rcases dj with ⟨hn, _⟩ | ⟨g', o', oD, cur, e, wF, as9, hcm, sg, hB, hh, qx, fj⟩
                  · cases hn
                  · injection wF with e1 e2 e3
                    injection e1 with e1
                    injection e1 with e1 e4
                    subst e1; subst e4; subst e3; subst e2
                    rw [cY] at hv
                    have OF : ∀ q, xs[i]? = some q → off < U.cells ∧ (a.eval y).cells = #[a.eval y] := fun q hq => by
                      obtain ⟨cs, eR, _, Ib⟩ := fj i q hq
                      obtain ⟨h1, _, h3⟩ := oM hy U off f Kb q cs Ib
                      exact ⟨by omega, h3⟩
                    obtain ⟨l7, hcv⟩ := OF _ (List.getElem?_eq_getElem him)
                    have hT1 : T.cells = 1 := by rw [← Az, hcv]; rfl
                    have n5 : i * U.cells + U.cells ≤ cap * U.cells := by
                      calc i * U.cells + U.cells = (i + 1) * U.cells := by rw [Nat.add_mul]; omega
                        _ ≤ cap * U.cells := Nat.mul_le_mul_right _ (by omega)
                    have hr := lK hf (off := ob + i * U.cells + off) hh Az (by omega) h1u
                    rw [hT1, hcv] at hr
                    have aU : (execOp a.eval o).run E.P w = .ok .skip (w.setRow g (cur.toList.take (ob + i * U.cells + off) ++ [a.eval y] ++ cur.toList.drop (ob + i * U.cells + off + 1)).toArray) := by
                      simp only [execOp, aK, hv, Sem.run_bind, hr, Result.andThen_ok, Sem.run_pure]
                    refine kL aU ⟨_, ab, ?_⟩
                    rw [qX]
                    have kN := fL w g (cur.toList.take (ob + i * U.cells + off) ++ [a.eval y] ++ cur.toList.drop (ob + i * U.cells + off + 1)).toArray
                    have Md : aE (ν id) = some g := by rw [cG]; rfl
                    have Bg : ∀ b, S b → (w.setRow g (cur.toList.take (ob + i * U.cells + off) ++ [a.eval y] ++ cur.toList.drop (ob + i * U.cells + off + 1)).toArray).heap[b]? = w.heap[b]? := fun b hb => setRow_other w g b _ (fun e => sg (e ▸ hb))
                    have Ba := setRow_heap w g cur (cur.toList.take (ob + i * U.cells + off) ++ [a.eval y] ++ cur.toList.drop (ob + i * U.cells + off + 1)).toArray e _ hh
                    have UI : (cur.toList.take (ob + i * U.cells + off) ++ [a.eval y] ++ cur.toList.drop (ob + i * U.cells + off + 1)).toArray = (cur.toList.set (ob + i * U.cells + off) (a.eval y)).toArray := by
                      rw [List.set_eq_take_append_cons_drop, if_pos (by rw [Array.length_toList]; omega)]
                      simp
                    rw [UI] at kN Bg Ba ⊢
                    generalize mr : (cur.toList.set (ob + i * U.cells + off) (a.eval y)).toArray = OE at *
                    refine (h.upd (w' := w.setRow g OE) hl (by rw [Md]; exact kN) (b' := .arr U (xs.modify i f)) ⟨cW _ _, sd, .slice (some ⟨g, ob, none⟩) xs.length cap, by simp only [cG], by rw [List.length_modify]; exact OC, .inr ⟨g, ob, cap, OE, e, by rw [List.length_modify], by rw [List.length_modify]; exact as9, hcm, sg, hB, Ba, ?_, ?_⟩⟩).rel
                    all_goals subst mr
                    · simp only [List.size_toArray, List.length_set, Array.length_toList]
                      omega
                    · intro j q hq
                      by_cases fi : i = j
                      · subst fi
                        rw [List.getElem?_modify_eq] at hq
                        obtain ⟨q0, hq0, rfl⟩ := Option.map_eq_some_iff.1 (show (xs[i]?).map f = some q from hq)
                        obtain ⟨cs, eR, hc, Ib⟩ := fj i q0 hq0
                        obtain ⟨h1, h2, _⟩ := oM hy U off f Kb q0 cs Ib
                        refine ⟨cs.set off (a.eval y), by rw [List.length_set, eR], fun k u hk => ?_, aB Bg (fun _ h => h) _ _ _ sd h2⟩
                        rw [cell_of_row _ _ _ _ _ _ Ba]
                        simp only [List.getElem?_toArray]
                        by_cases hko : off = k
                        · subst hko
                          rw [List.getElem?_set_self h1] at hk
                          rw [List.getElem?_set_self (by rw [Array.length_toList]; omega)]
                          exact hk
                        · rw [List.getElem?_set_ne hko] at hk
                          rw [List.getElem?_set_ne (by omega)]
                          have eT := hc k u hk
                          rw [cell_of_row _ _ _ _ _ _ hh] at eT
                          simpa using eT
                      · rw [List.getElem?_modify_ne _ _ fi] at hq
                        obtain ⟨cs, eR, hc, Ib⟩ := fj j q hq
                        refine ⟨cs, eR, fun k u hk => ?_, aB Bg (fun _ h => h) _ _ _ sd Ib⟩
                        have oa : k < cs.length := (List.getElem?_eq_some_iff.1 hk).1
                        have eT := hc k u hk
                        rw [cell_of_row _ _ _ _ _ _ hh] at eT
                        rw [cell_of_row _ _ _ _ _ _ Ba]
                        simp only [List.getElem?_toArray]
                        have bW : ob + i * U.cells + off ≠ ob + j * U.cells + k := by
                          rcases Nat.lt_or_gt_of_ne fi with c7 | Ug
                          · have hmul : i * U.cells + U.cells ≤ j * U.cells := by
                              calc i * U.cells + U.cells = (i + 1) * U.cells := by rw [Nat.add_mul]; omega
                                _ ≤ j * U.cells := Nat.mul_le_mul_right _ c7
                            omega
                          · have hmul : j * U.cells + U.cells ≤ i * U.cells := by
                              calc j * U.cells + U.cells = (j + 1) * U.cells := by rw [Nat.add_mul]; omega
                                _ ≤ i * U.cells := Nat.mul_le_mul_right _ Ug
                            omega
                        rw [List.getElem?_set_ne bW]
                        simpa using eT
                · exact ab.elim
            · exact ab.elim
          · rename_i id base U m i bN
            split at ab
            · rename_i cs te hl
              obtain ⟨hl, _⟩ := kJ hl
              split at ab
              · rename_i xs z Ex hb hz
                simp only [Bool.and_eq_true] at hb
                obtain ⟨⟨H8, Mc⟩, dZ⟩ := hb
                have H8 := Ty.db H8
                subst H8
                have dZ := Nat.le_of_ble_eq_true dZ
                obtain ⟨j1, j2, j3⟩ := uv Mc (.iv T z)
                have hq := E4 hz
                rw [bN] at hx
                simp only [ag] at hx
                obtain ⟨hd, h0, hn, g, hg, hv⟩ := hx
                obtain ⟨jy, g', vs, e, fh, hB, sg, hh, h1, bC⟩ := h.W.cv _ _ hl
                simp only [Full.c] at hg
                simp only at fh hh hB sg
                rw [hg] at fh
                obtain rfl : g = g' := by injection fh with e1; injection e1 with e1; injection e1
                have eR := dg bC
                have bh2 : us = [.iv T z] := by
                  rw [hq] at hus
                  cases T <;> first | (cases Mc; done) | (simp only [PV.cells, Ty.val, Option.some.injEq, cellsOf] at hus; exact hus.symm)
                have UG := xV Ex
                have xX : xs.length = m := by
                  have := congrArg List.length UG
                  rw [List.length_take, List.length_drop, List.length_map] at this
                  omega
                have him : i.toNat < m := by omega
                have CQ : cs.take base ++ LU T i z 0 xs ++ cs.drop (base + m) = cs.take (base + i.toNat) ++ us ++ cs.drop (base + i.toNat + T.cells) := by
                  have e0 := Ka i z h0 xs 0
                  simp only [Int.natCast_zero, Nat.sub_zero, if_pos h0] at e0
                  have UI : cs = cs.take base ++ (xs.map (PV.iv T) ++ cs.drop (base + m)) := by
                    have := UG
                    rw [← this]
                    conv => lhs; rw [← List.take_append_drop base cs]
                    congr 1
                    conv => lhs; rw [← List.take_append_drop m (cs.drop base)]
                    rw [List.drop_drop]
                  have Ak : (cs.take base).length = base := by rw [List.length_take]; omega
                  have hml : (xs.map (PV.iv T)).length = m := by rw [List.length_map]; exact xX
                  rw [e0, bh2, j2, List.map_set]
                  have hss := H9 (cs.take base) (xs.map (PV.iv T)) (cs.drop (base + m)) i.toNat (.iv T z) (by omega) cs UI
                  rw [Ak] at hss
                  exact hss
                rw [CQ] at ab
                have hr := lK hf (off := base + i.toNat) hh Az (by rw [← Array.length_toList, ← eR]; omega) h1u
                have aU : (execOp a.eval o).run E.P w = .ok .skip (w.setRow g (vs.toList.take (base + i.toNat) ++ (a.eval y).cells.toList ++ vs.toList.drop (base + i.toNat + T.cells)).toArray) := by
                  simp only [execOp, aK, hv, Sem.run_bind, hr, Result.andThen_ok, Sem.run_pure]
                refine kL aU ⟨_, ab, ?_⟩
                rw [qX]
                have kN := fL w g (vs.toList.take (base + i.toNat) ++ (a.eval y).cells.toList ++ vs.toList.drop (base + i.toNat + T.cells)).toArray
                have Md : aE (ν id) = some g := by rw [hg]; rfl
                have Ia : Ctx.Le h.c ⟨ν, s.D, w.setRow g (vs.toList.take (base + i.toNat) ++ (a.eval y).cells.toList ++ vs.toList.drop (base + i.toNat + T.cells)).toArray, ⟨S, aL w0 S0⟩⟩ :=
                  ⟨fun b hb => setRow_other w g b _ (fun e => (h.iu hl Md).2.1 (e ▸ hb)), fun _ h => h, fun _ h => h, fun _ _ => rfl⟩
                refine (h.upd hl (by rw [Md]; exact kN) (b' := .box (cs.take (base + i.toNat) ++ us ++ cs.drop (base + i.toNat + T.cells)) te) ⟨(by exact jy.xL Md hh (setRow_heap w g vs _ e _ hh)), g, _, e, hg, hB, sg, setRow_heap w g vs _ e _ hh, ?_, ?_⟩).rel
                · intro u hu
                  simp only [List.mem_append] at hu
                  rcases hu with (hu | hu) | hu
                  · exact h1 u (List.mem_of_mem_take hu)
                  · exact h1u u hu
                  · exact h1 u (List.mem_of_mem_drop hu)
                · exact bZ (bZ (dO _ (bJ Ia bC)) (bJ Ia OD)) (dN _ (bJ Ia bC))
              · exact ab.elim
            · exact ab.elim
          · exact ab.elim
        · exact ab.elim
      · exact ab.elim
    · exact ab.elim
  · exact absurd trivial hT0
theorem cE.field {E:Env} (hE:aG E) {t:Nat} {T:Ty} (hf:cE E t T)(hs:E.str t=true) {i:Nat} (hi:i<jQ T): ∃fs f,E.P.underlying t=some (.struct fs)∧fs[i]?=some f∧f.offset=j6 T i∧cE E f.type (nR T i)∧1≤(nR T i).cells:=by
 (cases T<;>first|(simp[jQ]at hi;done)|skip);rename_i R;rcases hf.agg hE with⟨fs,hu,n9,hfa⟩|⟨m,e,V,hu,he,rfl,hV,hV1,hm⟩;(·obtain⟨f,h1,h2,h3,h4,h5,h6⟩:=hfa i hi;exact⟨fs,f,hu,h1,h2,hE.facts h3,h4⟩)
 ·have:=hf.str _ _ rfl hu;simp only at this;rw[hs]at this;cases this
theorem cE.array {E:Env} (hE:aG E) {t:Nat} {R:Ty} (hf:cE E t (.st R))(hs:E.str t=false): ∃m e,E.P.underlying t=some (.array m e)∧cE E e (bB R 0)∧cj R=m∧ ∀i,i<m→eD R i=i*(bB R 0).cells:=by
 rcases hf.agg hE with⟨fs,hu,n9,hfa⟩|⟨m,e,V,hu,he,rfl,hV,hV1,hm⟩;(·have:=hf.str _ _ rfl hu;simp only at this;rw[hs]at this;cases this);·have h0:=(mq V hV m 0 (by omega)).2;refine⟨m,e,hu,by rw[h0];exact hE.facts he,pV V hV m (by omega),fun i hi=>?_⟩;rw[h0];exact(mq V hV m i hi).1
theorem CR(hE:aG E)(h:Full n w0 S0 s a w ν S)(ho:bG n o=true) {t f:Nat} {x:Operand} (aK:o.op= .fieldAddr t x f)(ab:bo E (aj E F s o) (fun l=>K (s.fin o.dst l))):o.wp E.P a w (fun a' w'=> ∃s',K s'∧Rel n w0 S0 s' a' w') Q:=by
 simp only[aj,aK]at ab;have hx:=h.ev (az ho (x:=x) (by simp[aK,Op.operands]));split at ab;(·rename_i T hT;split at ab;(·rename_i hb;simp only[Bool.and_eq_true,Nat.blt_eq]at hb;obtain⟨fs,fd,hu,hfd,l7,Ic,HO⟩:=(hE.facts hT).field hE hb.2 hb.1;(have aU: ∀(g ob:Nat),a.eval x= .pointer (some ⟨g,ob,none⟩)→(execOp a.eval o).run E.P w= .ok (.value (.pointer (some ⟨g,ob+j6 T f,none⟩))) w:=by intro g ob he;have cY:=Ic.sizeOf w;simp only[execOp,aK,he,Instr.fieldAt,Sem.run_bind,run_underlying hu,Result.andThen_ok,hfd,Instr.sureAddr,Sem.run_pure,fieldPlace,cY,Sem.run_ite];rw[if_neg (by omega)];simp only[Result.andThen_ok,l7,eH,Sem.run_pure]);split at ab;(·rename_i id off bN;rw[bN]at hx;simp only[ag]at hx;obtain⟨hd,g,hg,hv⟩:=hx;refine h.val ho (aU _ _ hv) ?_ ab;simp only[ag];exact⟨hd,g,hg,rfl⟩);(·rename_i U y off bN;rw[bN]at hx;simp only[ag]at hx;obtain⟨sd,g,ob,cs,hv,r⟩:=hx;refine h.val ho (aU _ _ hv) ?_ ab;simp only[ag];exact⟨sd,g,ob,cs,by rw[Nat.add_assoc],r⟩);(·rename_i id sz i off bN;rw[bN]at hx;simp only[ag]at hx;obtain⟨hd,g,ob,m,cap,cG,him,hv⟩:=hx;refine h.val ho (aU _ _ hv) ?_ ab;simp only[ag];exact⟨hd,g,ob,m,cap,cG,him,by rw[Nat.add_assoc]⟩);·exact ab.elim);·exact ab.elim)
 ·exact ab.elim
theorem jC {E:Env} {t:Nat} {T:Ty} (hf:cE E t T) {w:World} {cs:Array Value} {off:Nat} (hl:off+T.cells≤cs.size):(Go.part t cs off).run E.P w= .ok (valOf T ((cs.toList.drop off).take T.cells)) w:=by
 unfold Go.part;simp only[Sem.run_bind,hf.isAgg w,Result.andThen_ok];have hT:=hf.val;cases T with|st r=>simp only[Ou,if_true,Sem.run_bind,hf.sizeOf w,Result.andThen_ok,Sem.run_pure,valOf];congr 2;apply Array.toList_inj.1;simp[Array.toList_extract]|unit=>cases hT|pair a b=>cases hT|bn a b=>cases hT|_=>simp only[Ty.cells]at hl;simp only[Ou,Bool.false_eq_true,if_false,Ty.cells,valOf];rw[Array.getElem?_eq_getElem (by omega)];rw[List.drop_eq_getElem_cons (by simpa using(by omega:off<cs.size))];simp
theorem sv {c:Ctx} {p:PV} {v:Value} {cs:List PV} (h:ag c p v)(hc:kB p=some cs):ai c cs v.cells.toList∧(∀u,u∈v.cells.toList→u.oneCell'=true)∧ ∃us,v= .agg us:=by
 cases p with|iv T x=>(cases T with|st R=>simp only[kB]at hc;(have iM:(PV.iv (.st R) x).cells=some cs:=by simp only[PV.cells,Ty.val];exact hc);obtain⟨h1,h2⟩:=kI h iM;simp only[ag]at h;obtain⟨_,vs,hv,_⟩:=h;exact⟨h1,h2,_,hv⟩|_=>simp only[kB]at hc;cases hc)|agg ps=>have iM:(PV.agg ps).cells=some cs:=hc;obtain⟨h1,h2⟩:=kI h iM;simp only[ag]at h;obtain⟨vs,hv,_⟩:=h;exact⟨h1,h2,_,hv⟩|_=>simp only[kB]at hc;cases hc
theorem OG(hE:aG E)(h:Full n w0 S0 s a w ν S)(ho:bG n o=true) {t f:Nat} {x:Operand} (aK:o.op= .field t x f)(ab:bo E (aj E F s o) (fun l=>K (s.fin o.dst l))):o.wp E.P a w (fun a' w'=> ∃s',K s'∧Rel n w0 S0 s' a' w') Q:=by
 simp only[aj,aK]at ab;have hx:=h.ev (az ho (x:=x) (by simp[aK,Op.operands]));split at ab;(·rename_i T cs hT Ew;split at ab;(·rename_i dZ hb;simp only[Bool.and_eq_true,Nat.blt_eq]at hb;have dZ:=Nat.le_of_ble_eq_true dZ;obtain⟨fs,fd,hu,hfd,l7,Ic,HO⟩:=(hE.facts hT).field hE hb.2 hb.1;obtain⟨hp,h1,us,hv⟩:=sv hx Ew;rw[hv]at hp h1;simp only[Value.cells]at hp h1;rw[dg hp]at dZ;have aU:=jC (E:=E) Ic (w:=w) (cs:=us) (off:=j6 T f) (by simpa using dZ);refine h.val ho ?_ (jB (by rw[List.length_take,List.length_drop];omega) Ic.val (fun u hu=>h1 u (List.mem_of_mem_drop (List.mem_of_mem_take hu))) (dO _ (dN _ hp))) ab;simp only[execOp,aK,hv,Instr.field,Sem.run_bind,run_underlying hu,Result.andThen_ok,hfd,asAgg,Sem.run_pure,l7,aU]);·exact ab.elim)
 ·exact ab.elim
theorem CS(hE:aG E)(h:Full n w0 S0 s a w ν S)(ho:bG n o=true) {t:Nat} {x i:Operand} (aK:o.op= .indexAddr t x i)(ab:bo E (aj E F s o) (fun l=>K (s.fin o.dst l))):o.wp E.P a w (fun a' w'=> ∃s',K s'∧Rel n w0 S0 s' a' w') Q:=by
 simp only[aj,aK]at ab;have hx:=h.ev (az ho (x:=x) (by simp[aK,Op.operands]));have hi:=h.ev (az ho (x:=i) (by simp[aK,Op.operands]));split at ab;(·rename_i k m OH;rw[OH]at hi;obtain⟨Uh,_⟩:=a9 hi;(have jL: ∀ {U:Ty} (hT:E.ty t=some (.sl U))(g ob len cap:Nat),a.eval x= .slice (some ⟨g,ob,none⟩) len cap→0≤m→m<len→(execOp a.eval o).run E.P w= .ok (.value (.pointer (some ⟨g,ob+m.toNat*U.cells,none⟩))) w:=by intro U hT g ob len cap he h0 h1;obtain⟨e,hu,hee,oI,_⟩:=(hE.facts hT).elem hE;have cY:=oI.sizeOf w;simp only[execOp,aK,he,Uh,Instr.indexAt,asIntOf,Sem.run_bind,Sem.run_pure,Result.andThen_ok,run_underlying hu,Sem.run_ite];rw[if_pos ⟨h0,h1⟩];simp only[Sem.run_bind,cY,Result.andThen_ok,Sem.run_pure,eH]);(have Me: ∀ {R:Ty} (hT:E.ty t=some (.st R))(hs:E.str t=false)(g ob:Nat),a.eval x= .pointer (some ⟨g,ob,none⟩)→0≤m→m<cj R→(execOp a.eval o).run E.P w= .ok (.value (.pointer (some ⟨g,ob+m.toNat*(bB R 0).cells,none⟩))) w:=by intro R hT hs g ob he h0 h1;obtain⟨l,e,hu,oI,eR,_⟩:=(hE.facts hT).array hE hs;have cY:=oI.sizeOf w;simp only[execOp,aK,he,Uh,Instr.indexAt,asIntOf,Sem.run_bind,Sem.run_pure,Result.andThen_ok,run_underlying hu,Instr.sureAddr,Sem.run_ite];rw[if_pos ⟨h0,by rw[←eR];exact h1⟩];simp only[Sem.run_bind,cY,Result.andThen_ok,Sem.run_pure,eH]);simp only[l5]at ab;split at ab;(·rename_i T xs bN;rw[bN]at hx;split at ab;(·rename_i U hT;split at ab;(·rename_i heq;have H8:=Ty.db heq;subst H8;obtain⟨h0,y,hy,ab⟩:=ab;simp only[ag]at hx;obtain⟨qv,aa,cap,hv,hle,qu,dj⟩:=hx;injection hv with hv;have c7:m.toNat<xs.length:=(List.getElem?_eq_some_iff.1 hy).1;rcases dj with rfl|⟨g,ob,rfl,hS,fj⟩;(·simp at c7);·obtain⟨cs,eR,hc,hr⟩:=fj _ y hy;refine h.val ho (jL hT g ob xs.length cap hv h0 ((Int.toNat_lt h0).1 c7)) ?_ ab;simp only[ag];exact⟨by simpa[aR]using qv,g,ob+m.toNat*T.cells,cs,by rw[Nat.add_zero],hS,eR,hc,hr⟩);·exact ab.elim);·exact ab.elim);(·rename_i id bN;rw[bN]at hx;split at ab;(·rename_i T xs te U hl hT;obtain⟨hl,_⟩:=cy hl;split at ab;(·rename_i heq;have H8:=Ty.db heq;subst H8;obtain⟨⟨h0,h1⟩,ab⟩:=ab;simp only[ag]at hx;obtain⟨hd,cG,_⟩:=hx;obtain⟨jy,sd,u,hu,OC,dj⟩:=h.W.cv _ _ hl;simp only[List.cons.injEq,and_true]at hu;simp only[Full.c]at cG;rcases dj with⟨hn,rfl⟩|⟨g,ob,cap,cur,e,wF,_⟩;(·simp at h1;omega);·rw[wF]at hu;rw[hu]at cG;refine h.val ho (jL hT g ob xs.length cap cG h0 h1) ?_ ab;simp only[ag];exact⟨hd,g,ob,xs.length,cap,hu,by omega,by rw[Nat.add_zero]⟩);·exact ab.elim);·exact ab.elim);(·rename_i id sz off len bN;rw[bN]at hx;split at ab;(·rename_i U hT;split at ab;(·rename_i cY;have cY:=Nat.eq_of_beq_eq_true cY;obtain⟨⟨h0,h1⟩,ab⟩:=ab;simp only[ag]at hx;obtain⟨hd,aa,m',cap,b,cG,hn,qu,hv,hb⟩:=hx;obtain⟨g,ob,rfl,rfl⟩:=hb (by omega);refine h.val ho (jL hT g _ _ _ hv h0 h1) ?_ ab;simp only[ag];exact⟨hd,g,ob,m',cap,cG,by omega,by rw[cY,Nat.add_mul,Nat.add_zero,Nat.add_assoc]⟩);·exact ab.elim);·exact ab.elim);(·rename_i id off bN;rw[bN]at hx;split at ab;(·rename_i R hT hs;simp only[ag]at hx;obtain⟨hd,g,hg,hv⟩:=hx;split at ab;(·rename_i hb;simp only[Bool.and_eq_true]at hb;have HO:=Nat.eq_of_beq_eq_true hb.2;obtain⟨⟨h0,h1⟩,ab⟩:=ab;refine h.val ho (Me hT hs g off hv h0 h1) ?_ ab;simp only[ag];exact⟨hd,h0,h1,g,hg,by rw[HO,Nat.mul_one]⟩);·obtain⟨⟨h0,h1⟩,ab⟩:=ab;refine h.val ho (Me hT hs g off hv h0 h1) ?_ ab;simp only[ag];exact⟨hd,g,hg,rfl⟩);·exact ab.elim);(·rename_i U y off bN;rw[bN]at hx;split at ab;(·rename_i R hT hs;obtain⟨⟨h0,h1⟩,ab⟩:=ab;simp only[ag]at hx;obtain⟨sd,g,ob,cs,hv,r⟩:=hx;refine h.val ho (Me hT hs g _ hv h0 h1) ?_ ab;simp only[ag];exact⟨sd,g,ob,cs,by rw[Nat.add_assoc],r⟩);·exact ab.elim);·exact ab.elim)
 ·exact ab.elim
theorem OK(hE:aG E)(h:Full n w0 S0 s a w ν S)(ho:bG n o=true) {t:Nat} {x i:Operand} (aK:o.op= .index t x i)(ab:bo E (aj E F s o) (fun l=>K (s.fin o.dst l))):o.wp E.P a w (fun a' w'=> ∃s',K s'∧Rel n w0 S0 s' a' w') Q:=by
 simp only[aj,aK]at ab;have hx:=h.ev (az ho (x:=x) (by simp[aK,Op.operands]));have hi:=h.ev (az ho (x:=i) (by simp[aK,Op.operands]));split at ab;(·rename_i xs k m oN OH hT;obtain⟨d,hu,Ey⟩:=(hE.facts hT).qw;(have hd:d= .string:=by cases d<;>first|rfl|cases Ey);subst hd;rw[OH]at hi;rw[oN]at hx;obtain⟨Uh,_⟩:=a9 hi;obtain⟨HP,_⟩:=ec hx;obtain⟨h0,c,⟨u,r0,rfl⟩,ab⟩:=ab;refine h.val ho (v:=.int .u8 u.toNat) ?_ (bT (by have:=u.toNat_lt;constructor<;>simp[IntKind.min,IntKind.max,IntKind.signed,IntKind.bits]<;>omega)) ab;simp only[execOp,aK,HP,Uh,Instr.index,asIntOf,Sem.run_bind,Sem.run_pure,Result.andThen_ok,run_underlying hu];rw[if_pos h0];(have:(⟨xs.toArray⟩:ByteArray)[m.toNat]?=some u:=by have hl:m.toNat<xs.length:=(List.getElem?_eq_some_iff.1 r0).1;have hs:m.toNat<(⟨xs.toArray⟩:ByteArray).size:=hl;rw[getElem?_pos (⟨xs.toArray⟩:ByteArray) m.toNat hs];have:=(List.getElem?_eq_some_iff.1 r0).2;rw[←this];rfl);rw[this];rfl)
 (·exact ab.elim);(·rename_i k m R OH hT _;split at ab;(·rename_i cs Ew UJ;split at ab;(·rename_i xs Ex Mc;obtain⟨⟨h0,h1⟩,z,hz,ab⟩:=ab;rw[OH]at hi;obtain⟨Uh,_⟩:=a9 hi;obtain⟨l,e,hu,oI,eR,_⟩:=(hE.facts hT).array hE UJ;obtain⟨bC,h1c,us,HP⟩:=sv hx Ew;obtain⟨j1,j2,j3⟩:=uv Mc (.iv (bB R 0) z);have hlen:=dg bC;rw[HP]at bC hlen;simp only[Value.cells]at bC hlen;obtain⟨e1,e2,e3⟩:=J9 (base:=0) (m:=cs.length) (by rw[List.drop_zero,List.take_length];exact Ex) hz;rw[Nat.zero_add]at e1 e3;(have hle:m.toNat*(bB R 0).cells+(bB R 0).cells≤us.size:=by rw[j2,Nat.mul_one,←Array.length_toList,←hlen];omega);have hp:=jC oI (w:=w) (cs:=us) (off:=m.toNat*(bB R 0).cells) hle;refine h.val ho (v:=valOf (bB R 0) ((us.toList.drop (m.toNat*(bB R 0).cells)).take (bB R 0).cells)) ?_ ?_ ab;(·simp only[execOp,aK,HP,Uh,Instr.index,asIntOf,Sem.run_bind,Sem.run_pure,Result.andThen_ok,run_underlying hu,Sem.run_ite];rw[if_pos ⟨h0,by rw[←eR];exact h1⟩];simp only[Sem.run_bind,oI.sizeOf w,Result.andThen_ok,hp,Sem.run_pure]);·(have mu: ∀u,u∈us.toList→u.oneCell'=true:=by intro u r0;rw[HP]at h1c;exact h1c u r0);have hjr:=jB (T:=bB R 0) (c:=h.c) (vs:=(us.toList.drop m.toNat).take (bB R 0).cells) (by rw[List.length_take,List.length_drop,j2,←hlen];omega) oI.val (fun u hu=>mu u (List.mem_of_mem_drop (List.mem_of_mem_take hu))) (dO (bB R 0).cells (dN m.toNat bC));rw[j2,e1,j1]at hjr;rw[j2,Nat.mul_one];exact hjr);·exact ab.elim);·exact ab.elim)
 ·exact ab.elim
end
end Go.Proofs.YtgpkijnphchkpaaGreat
namespace Go.Proofs.YtgpkijnphchkpaaGreat
variable {dM:Prop} [jN dM]
open Go.RowKit
theorem CT {α:Type} (xs:List α)(lo hi:Option Int):cut xs lo hi=(xs.drop (cN lo)).take (gV xs.length hi-cN lo):=by
 cases lo<;>cases hi<;>simp[cut,cN,gV];exact(List.take_of_length_le (by simp)).symm
def sx:Option Int→Option Value→Prop|none,none=>True|some n,some v=> ∃k,v= .int k n|_,_=>False
theorem jX {P:Program} {w:World} {isSlice:Bool} {len cap:Nat} {lo hi:Option Int} {vl vh:Option Value} (NX:sx lo vl)(hhi:sx hi vh)(h:lF len lo hi)(hc:len≤cap):(Instr.sliceBounds isSlice len cap vl vh none).run P w= .ok (cN lo,gV len hi,cap) w:=by
 (have sb: ∀(k:IntKind)(n:Int)(y:Nat)(code:BoundsCode),0≤n→n≤y→(Instr.sliceBound (.int k n) y code).run P w= .ok n.toNat w:=by intro k n y code h0 h1;simp only[Instr.sliceBound,asIntOf,Sem.run_bind,Sem.run_pure,Result.andThen_ok,Sem.run_ite];rw[if_pos ⟨h0,h1⟩])
 cases lo with|none=>(cases vl with|some v=>exact NX.elim|none=>cases hi with|none=>(cases vh with|some v=>exact hhi.elim|none=>simp[Instr.sliceBounds,cN,gV])|some m=>cases vh with|none=>exact hhi.elim|some v=>obtain⟨k,rfl⟩:=hhi;obtain⟨h0,h1⟩:=h;cases isSlice<;>simp[Instr.sliceBounds,cN,gV,sb _ _ _ _ h0 (show m≤(cap:Int)by omega)])|some l=>cases vl with|none=>exact NX.elim|some v=>obtain⟨k,rfl⟩:=NX;cases hi with|none=>(cases vh with|some v=>exact hhi.elim|none=>obtain⟨h0,h1⟩:=h;simp[Instr.sliceBounds,cN,gV,sb _ _ _ _ h0 h1])|some m=>cases vh with|none=>exact hhi.elim|some v=>obtain⟨k',rfl⟩:=hhi;obtain⟨h0,h1,h2⟩:=h;have e1:(0:Int)≤m:=Int.le_trans h0 h1;cases isSlice<;>simp[Instr.sliceBounds,cN,gV,sb _ _ _ _ e1 (show m≤(cap:Int)by omega),sb _ _ _ _ h0 (show l≤(m.toNat:Int)by omega)]
theorem uw {P:Program} {w:World} {isSlice:Bool} {len cap:Nat} {lo:Option Int} {m:Int} {k k':IntKind} {vl:Option Value} (NX:sx lo vl)(h:lF len lo (some m))(hc:len≤cap):(Instr.sliceBounds isSlice len cap vl (some (.int k m)) (some (.int k' m))).run P w= .ok (cN lo,m.toNat,m.toNat) w:=by
 (have sb: ∀(k:IntKind)(n:Int)(y:Nat)(code:BoundsCode),0≤n→n≤y→(Instr.sliceBound (.int k n) y code).run P w= .ok n.toNat w:=by intro k n y code h0 h1;simp only[Instr.sliceBound,asIntOf,Sem.run_bind,Sem.run_pure,Result.andThen_ok,Sem.run_ite];rw[if_pos ⟨h0,h1⟩])
 cases lo with|none=>(cases vl with|some v=>exact NX.elim|none=>obtain⟨h0,h1⟩:=h;cases isSlice<;>simp[Instr.sliceBounds,cN,sb _ _ _ _ h0 (show m≤(cap:Int)by omega),sb _ _ _ _ h0 (show m≤(m.toNat:Int)by omega)])|some l=>cases vl with|none=>exact NX.elim|some v=>obtain⟨k,rfl⟩:=NX;obtain⟨h0,h1,h2⟩:=h;have e1:(0:Int)≤m:=Int.le_trans h0 h1;cases isSlice<;>simp[Instr.sliceBounds,cN,sb _ _ _ _ e1 (show m≤(cap:Int)by omega),sb _ _ _ _ e1 (show m≤(m.toNat:Int)by omega),sb _ _ _ _ h0 (show l≤(m.toNat:Int)by omega)]
theorem kO {n:Nat} {lo hi:Option Int} (h:lF n lo hi):cN lo≤gV n hi∧gV n hi≤n:=by cases lo<;>cases hi<;>simp only[lF,cN,gV]at* <;>omega
theorem E5 {T:Ty} {w:World} {M:Mem} {a:Option Addr} {cap:Nat} (h:cap≤9223372036854775807):aH (.sl T) ([]:List T.den) w M [.slice a 0 cap]:=⟨a,cap,rfl,Nat.zero_le _,h,.inl rfl⟩
section
variable {E:Env} {n:Nat} {w0:World} {S0:Cx} {s:St} {a:Act} {w:World} {ν:Nat→Value} {S:Nat→Prop} {F:dw} {o:Oper} {K:St→Prop} {Q:Exit→Act→World→Prop}
theorem Bh(h:Full n w0 S0 s a w ν S) {x:Option Operand} {b:Option Int} (hc: ∀y,x=some y→lI y=true)(hb:bound s x=some b):sx b (x.map a.eval):=by
 cases x with|none=>simp only[bound,Option.some.injEq]at hb;subst hb;trivial|some y=>simp only[bound]at hb;split at hb;(·rename_i k m bN;simp only[Option.some.injEq]at hb;subst hb;have hy:=h.ev (hc y rfl);rw[bN]at hy;exact⟨k,(a9 hy).1⟩);·cases hb
theorem E6(xs:List UInt8)(l h:Nat):(⟨xs.toArray⟩:ByteArray).extract l h=⟨((xs.drop l).take (h-l)).toArray⟩:=by
 apply ByteArray.ext;rw[ByteArray.data_extract];apply Array.toList_inj.1;simp[Array.toList_extract]
theorem E7 {w:World} {M:Mem} : ∀(U:Ty)(x:U.den)(l:List Nat)(cs:List Value),m5 U x=some l→aH U x w M cs→cs=l.map fun f=>Value.func (.func f) #[] #[]|.aD,x,l,cs,h,hr=>(by simp only[m5,Option.some.injEq]at h;subst h;exact hr)|.pair A B,x,l,cs,h,hr=>(by cases A with|aD=>simp only[m5]at h;split at h;(·rename_i l' hl;injection h with h;subst h;obtain⟨va,vb,rfl,ha,hb⟩:=hr;have ha:va=[.func (.func x.1) #[] #[]]:=ha;rw[E7 B x.2 l' vb hl hb,ha];rfl);(·cases h)|_=>simp[m5]at h)|.unit,x,l,cs,h,hr=>(by simp[m5]at h)|.int _,x,l,cs,h,hr=>(by simp[m5]at h)|.bool,x,l,cs,h,hr=>(by simp[m5]at h)|.str,x,l,cs,h,hr=>(by simp[m5]at h)|.sl _,x,l,cs,h,hr=>(by simp[m5]at h)|.own _,x,l,cs,h,hr=>(by simp[m5]at h)|.st _,x,l,cs,h,hr=>(by simp[m5]at h)|.bn _ _,x,l,cs,h,hr=>(by simp[m5]at h)|.ptr _,x,l,cs,h,hr=>(by simp[m5]at h)|.eQ _ _,x,l,cs,h,hr=>(by simp[m5]at h)|.mp _ _,x,l,cs,h,hr=>by simp[m5]at h
theorem OL(hE:aG E)(h:Full n w0 S0 s a w ν S)(ho:bG n o=true) {t:Nat} {x:Operand} {lo hi mx:Option Operand} (aK:o.op= .slice t x lo hi mx)(ab:bo E (aj E F s o) (fun l=>K (s.fin o.dst l))):o.wp E.P a w (fun a' w'=> ∃s',K s'∧Rel n w0 S0 s' a' w') Q:=by
 simp only[aj,aK]at ab;have hx:=h.ev (az ho (x:=x) (by simp[aK,Op.operands]));split at ab;(·rename_i bl bh T jW hbh hT;have hrl:=Bh h (fun y hy=>az ho (by simp[aK,Op.operands,hy])) jW;have hrh:=Bh h (fun y hy=>az ho (by simp[aK,Op.operands,hy])) hbh;have hf:=hE.facts hT;cases mx with|none=>simp only[m8]at ab;split at ab;(·split at ab;(·rename_i y bN;rw[bN]at hx;obtain⟨hv,hl⟩:=ec hx;obtain⟨iN,ab⟩:=ab;obtain⟨d,hu,Ey⟩:=hf.qw;(have hd:d= .string:=by cases d<;>first|rfl|cases Ey);subst hd;have hb:=jX (P:=E.P) (w:=w) (isSlice:=false) (cap:=y.length) hrl hrh iN (Nat.le_refl _);(have cY:(⟨y.toArray⟩:ByteArray).size=y.length:=by simp[ByteArray.size]);refine h.val ho (v:=.string ⟨(cut y bl bh).toArray⟩) ?_ (oJ (by rw[CT];simp;omega)) ab;simp only[execOp,aK,hv,Instr.sliceAt,Sem.run_bind,run_underlying hu,Result.andThen_ok,Instr.slice,Option.map_none,Option.isSome_none,Bool.false_eq_true,if_false,Sem.run_pure,cY,hb,E6,CT]);·exact ab.elim);(·rename_i T;obtain⟨e,hu,hee,oI,nZ,n5⟩:=hf.elem hE;have cY:=oI.sizeOf w;(have aU: ∀(aa:Option Addr)(len cap:Nat),a.eval x= .slice aa len cap→lF len bl bh→len≤cap→(execOp a.eval o).run E.P w= .ok (.value (.slice (if cap=cN bl then aa else aa.map (·.add (cN bl*T.cells))) (gV len bh-cN bl) (cap-cN bl))) w:=by intro aa len cap he iN hlc;have hb:=jX (P:=E.P) (w:=w) (isSlice:=true) hrl hrh iN hlc;simp only[execOp,aK,he,Instr.sliceAt,Sem.run_bind,run_underlying hu,Result.andThen_ok,Instr.slice,Option.map_none,hb,cY,Sem.run_pure]);split at ab;(·rename_i U xs bN;split at ab;(·rename_i xs' kP;obtain⟨e',mn⟩:=Ty.bw kP;injection e' with e';subst e';simp only at mn;subst mn;rw[bN]at hx;simp only[ag]at hx;obtain⟨qv,dx⟩:=hx;obtain⟨iN,ab⟩:=ab;have E8:aH (.sl U) xs w ⟨S,aL w0 S0⟩ [a.eval x]:=dx;obtain⟨aa,cap,hv,hle,qu,dj⟩:=dx;injection hv with hv;obtain⟨ba,bq⟩:=kO iN;refine h.val ho (aU aa _ cap hv iN hle) ?_ ab;simp only[ag];refine⟨qv,?_⟩;rw[CT];rw[hv]at E8;rcases dj with rfl|⟨g,ob,rfl,_⟩;(·simp only[List.length_nil]at bq ba;(have h0:gV 0 bh=0:=by omega);(have h1:cN bl=0:=by omega);simp only[List.length_nil,h0,h1,List.drop_nil,List.take_nil];exact E5 (by omega));·exact wT (off:=cN bl) (len:=gV xs.length bh-cN bl) E8 (by omega) (fun c7=>⟨g,ob,rfl,by rw[if_neg (by omega)];simp[eH]⟩));·exact ab.elim);(·rename_i id bN;split at ab;(·rename_i U xs te hl;obtain⟨hl,_⟩:=cy hl;split at ab;(·obtain⟨iN,ab⟩:=ab;rw[bN]at hx;simp only[ag]at hx;obtain⟨hd,cG,_⟩:=hx;obtain⟨jy,sd,u,r0,OC,dj⟩:=h.W.cv _ _ hl;simp only[List.cons.injEq,and_true]at r0;simp only[Full.c]at cG;obtain⟨ba,bq⟩:=kO iN;rcases dj with⟨hn,rfl⟩|⟨g,ob,cap,cur,e',wF,hle,qu,_⟩;(·rw[hn]at r0;rw[r0]at cG;simp only[List.length_nil]at ba bq;refine h.val ho (aU none 0 0 cG iN (Nat.le_refl _)) ?_ ab;simp only[ag];exact⟨hd,none,0,0,_,r0,by simp;omega,Nat.le_refl _,rfl,fun h=>by omega⟩);·rw[wF]at r0;rw[r0]at cG;refine h.val ho (aU _ _ cap cG iN hle) ?_ ab;simp only[ag];exact⟨hd,_,xs.length,cap,_,r0,by omega,hle,rfl,fun c7=>⟨g,ob,rfl,by rw[if_neg (by omega)];simp[eH]⟩⟩);·exact ab.elim);·exact ab.elim);(·rename_i id sz off len bN;split at ab;(·rename_i at2;have at2:=Nat.eq_of_beq_eq_true at2;obtain⟨iN,ab⟩:=ab;rw[bN]at hx;simp only[ag]at hx;obtain⟨hd,aa,m',cap,b,cG,hn,qu,hv,hb⟩:=hx;obtain⟨ba,bq⟩:=kO iN;refine h.val ho (aU b len (cap-off) hv iN (by omega)) ?_ ab;simp only[ag];refine⟨hd,aa,m',cap,_,cG,by omega,qu,by rw[Nat.sub_sub],fun c7=>?_⟩;obtain⟨g,ob,h1,h2⟩:=hb (by omega);exact⟨g,ob,h1,by rw[if_neg (by omega),h2];simp[eH,at2,Nat.add_mul,Nat.add_assoc]⟩);·exact ab.elim);(·rename_i bN;obtain⟨iN,ab⟩:=ab;rw[bN]at hx;simp only[ag]at hx;obtain⟨ba,bq⟩:=kO (n:=0) iN;(have h0:gV 0 bh=0:=by omega);(have h1:cN bl=0:=by omega);refine h.val ho (aU none 0 0 hx iN (Nat.le_refl _)) ?_ ab;simp only[ag,h0,h1];rfl);·exact ab.elim);(·rename_i R;split at ab;(·rename_i U x0 bN;rw[bN]at hx;simp only[ag]at hx;obtain⟨_,g,ob,cs,mw,hg,eR,AF,dx⟩:=hx;split at ab;(·rename_i l hl;split at ab;(·rename_i Bi;simp only[Bool.and_eq_true,Bool.not_eq_true']at Bi;obtain⟨⟨⟨Al,tX⟩,UJ⟩,hd3⟩:=Bi;have HO:=Nat.eq_of_beq_eq_true Al;have hc2:=Ty.db tX;have hc3:=Nat.le_of_ble_eq_true hd3;clear Al tX hd3;obtain⟨d,hu,Ey⟩:=hf.qw;have tY:=hf.str R d rfl hu;cases d with|array m e=>simp only[cP]at Ey;split at Ey;(·rename_i V hV;simp only[Bool.and_eq_true]at Ey;obtain⟨⟨⟨hR,hVv⟩,_⟩,h2⟩:=Ey;have hR:=Ty.db hR;have h2:=Nat.le_of_ble_eq_true h2;subst hR;rw[pV V hVv m (by omega)]at HO;rw[(mq V hVv m 0 (by omega)).2]at hc2;subst hc2;have cY:=(hE.facts hV).sizeOf w;have hb:=jX (P:=E.P) (w:=w) (isSlice:=false) (len:=m) (cap:=m) hrl hrh trivial (Nat.le_refl _);have Ew:=E7 U x0 l cs hl dx;refine h.val ho (v:=.slice (some ⟨g,ob,none⟩) m m) ?_ ?_ ab;(·simp only[execOp,aK,mw,Nat.add_zero,Instr.sliceAt,Instr.sureAddr,Sem.run_bind,run_underlying hu,Result.andThen_ok,Option.map_none,hb,cY,Sem.run_pure,cN,gV,Nat.sub_zero,Nat.zero_mul];rw[if_neg (by omega)];rfl);·simp only[ag];refine⟨rfl,some ⟨g,ob,none⟩,m,by rw[HO],by omega,by omega,.inr ⟨g,ob,rfl,hg,fun i y hy=>⟨[.func (.func y) #[] #[]],rfl,fun j v hj=>?_,rfl⟩⟩⟩;(have h0:j=0:=by cases j with|zero=>rfl|succ j=>simp at hj);subst h0;simp only[List.getElem?_cons_zero,Option.some.injEq]at hj;have:=AF i v (by rw[Ew,List.getElem?_map,hy];simpa using hj);simpa[Ty.cells]using this);(·cases Ey)|struct fs=>have tY:E.str t=true:=tY;rw[tY]at UJ;cases UJ|_=>simp[cP]at Ey);·exact ab.elim);·exact ab.elim);·exact ab.elim);(·exact ab.elim)|some m=>split at ab;(·rename_i hmx;cases hmx);·rename_i mm hmx;injection hmx with hmx;subst hmx;split at ab;(·rename_i km mv bh3;have hm:=h.ev (az ho (x:=m) (by simp[aK,Op.operands]));rw[bh3]at hm;obtain⟨hvm,_⟩:=a9 hm;simp only[pQ]at ab;split at ab;(·rename_i T;obtain⟨e,hu,hee,oI,nZ,n5⟩:=hf.elem hE;have cY:=oI.sizeOf w;(have key: ∀(xs:List T.den)(hh:Int),bh=some hh→lF xs.length bl bh→mv=hh→aH (.sl T) xs w ⟨S,aL w0 S0⟩ [a.eval x]→(∃g' n',(execOp a.eval o).run E.P w= .ok (.value (.slice g' n' n')) w∧aH (.sl T) (cut xs bl bh) w ⟨S,aL w0 S0⟩ [.slice g' n' n']):=by intro xs hh bh4 iN hmh dx;subst bh4 hmh;have E8:=dx;obtain⟨aa,cap,hv,hle,qu,dj⟩:=dx;injection hv with hv;(obtain⟨vh,kh,hvh⟩: ∃vh kh,hi=some vh∧a.eval vh= .int kh mv:=by cases hi with|none=>exact hrh.elim|some vh=>obtain⟨k,hk⟩:=hrh;exact⟨vh,k,rfl,hk⟩);obtain⟨rfl,hvh⟩:=hvh;have hb:=uw (P:=E.P) (w:=w) (isSlice:=true) (k:=kh) (k':=km) hrl iN hle;obtain⟨ba,bq⟩:=kO iN;simp only[gV]at ba bq;refine⟨if mv.toNat=cN bl then aa else aa.map (·.add (cN bl*T.cells)),mv.toNat-cN bl,?_,?_⟩;(·simp only[execOp,aK,hv,Instr.sliceAt,Sem.run_bind,run_underlying hu,Result.andThen_ok,Instr.slice,Option.map_some,hvh,hvm,hb,cY,Sem.run_pure]);·rw[CT];simp only[gV];rw[hv]at E8;rcases dj with rfl|⟨g,ob,rfl,OF⟩;(·simp only[List.length_nil]at bq ba;(have h0:mv.toNat=0:=by omega);(have h1:cN bl=0:=by omega);simp only[h0,h1,List.drop_nil,List.take_nil,Nat.sub_self];exact E5 (by omega));·have h1:=wT (b:=some ⟨g,ob+cN bl*T.cells,none⟩) (off:=cN bl) (len:=mv.toNat-cN bl) E8 (by omega) (fun c7=>⟨g,ob,rfl,rfl⟩);obtain⟨a',oD,e1,e2,e3,e4⟩:=h1;simp only[List.cons.injEq,Value.slice.injEq,and_true]at e1;obtain⟨e1,e1',bs4⟩:=e1;have hlen:((xs.drop (cN bl)).take (mv.toNat-cN bl)).length=mv.toNat-cN bl:=e1'.symm;refine⟨_,mv.toNat-cN bl,by rw[hlen],by rw[hlen];exact Nat.le_refl _,by omega,?_⟩;rcases e4 with e4|⟨g',o',e4,e5⟩;(·exact .inl e4);·by_cases hz:mv.toNat=cN bl;(·left;apply List.eq_nil_of_length_eq_zero;omega);·right;rw[←e1]at e4;refine⟨g',o',?_,e5⟩;rw[if_neg hz];simpa[eH]using e4);split at ab;(·rename_i U xs bN;split at ab;(·rename_i xs' hh kP;obtain⟨e',mn⟩:=Ty.bw kP;injection e' with e';subst e';simp only at mn;subst mn;rw[bN]at hx;simp only[ag]at hx;obtain⟨qv,dx⟩:=hx;obtain⟨⟨iN,hmh⟩,ab⟩:=ab;obtain⟨g',n',Ie,nT⟩:=key xs hh rfl iN hmh dx;refine h.val ho Ie ?_ ab;simp only[ag];exact⟨qv,⟨g',n',rfl⟩,nT⟩);·exact ab.elim);(·rename_i U xs bN;split at ab;(·rename_i xs' hh kP;obtain⟨e',mn⟩:=Ty.bw kP;injection e' with e';subst e';simp only at mn;subst mn;rw[bN]at hx;simp only[ag]at hx;obtain⟨qv,_,dx⟩:=hx;obtain⟨⟨iN,hmh⟩,ab⟩:=ab;obtain⟨g',n',Ie,nT⟩:=key xs hh rfl iN hmh dx;refine h.val ho Ie ?_ ab;simp only[ag];exact⟨qv,⟨g',n',rfl⟩,nT⟩);·exact ab.elim);·exact ab.elim);·exact ab.elim);·exact ab.elim)
 ·exact ab.elim
theorem E9(h:Full n w0 S0 s a w ν S)(ho:bG n o=true) {f:Nat} {first dC:Array Operand} (aK:o.op= .makeFunc (.func f) first dC)(ab:bo E (aj E F s o) (fun l=>K (s.fin o.dst l))):o.wp E.P a w (fun a' w'=> ∃s',K s'∧Rel n w0 S0 s' a' w') Q:=by
 simp only[aj,aK]at ab;split at ab;(·rename_i Ig;(have hf:first= #[]:=by apply Array.toList_inj.1;simpa using Ig);subst hf;have hc:=gY h dC.toList (fun x hx=>az ho (by simp only[aK,Op.operands];simpa using hx));refine h.val ho (v:=.func (.func f) #[] (dC.map a.eval)) ?_ ?_ ab;(·simp only[execOp,aK,Instr.makeFunc,Sem.run_bind,Sem.run_pure,Result.andThen_ok];rw[show(#[]:Array Operand).map a.eval= #[]from by simp]);·simp only[ag];exact⟨dC.toList.map a.eval,by congr 1;exact Array.toList_inj.1 (by simp),hc⟩)
 ·rename_i y r Ig;split at ab;(·rename_i vL;(have hf:dC= #[]:=by apply Array.toList_inj.1;simpa using vL);subst hf;have hc:=gY h first.toList (fun x hx=>az ho (by simp only[aK,Op.operands];simpa using hx));rw[←Ig]at ab;refine h.val ho (v:=.func (.func f) (first.map a.eval) #[]) ?_ ?_ ab;(·simp only[execOp,aK,Instr.makeFunc,Sem.run_bind,Sem.run_pure,Result.andThen_ok];rw[show(#[]:Array Operand).map a.eval= #[]from by simp]);·simp only[ag];exact⟨first.toList.map a.eval,by congr 1;exact Array.toList_inj.1 (by simp),hc⟩);·exact ab.elim
theorem Bj {c:Ctx} : ∀(vs:List PV)(us:List Value)(i:Nat)(p:PV),ai c vs us→A9 vs i=some p→ ∃v,us[i]?=some v∧ag c p v|[],us,i,p,h,hv=>(by simp[A9]at hv)|q::vs,us,0,p,h,hv=>(by simp only[ai]at h;obtain⟨u,r,rfl,h1,h2⟩:=h;simp[A9]at hv;subst hv;exact⟨u,rfl,h1⟩)|q::vs,us,i+1,p,h,hv=>by simp only[ai]at h;obtain⟨u,r,rfl,h1,h2⟩:=h;simpa using Bj vs r i p h2 hv
theorem kl {T:Ty} {x:T.den} {w:World} {M:Mem} {v:Value} (h:de T x w M v):nX T x w M v:=by cases T<;>first|exact h|exact h.elim
theorem CU {c:Ctx} : ∀(T:Ty)(x:T.den)(us:List Value)(i:Nat)(p:PV),aR T=0→At T x c.w c.M us→kE T x i=some p→ ∃v,us[i]?=some v∧ag c p v:=by
 intro T;induction T with|bn a b ir gE=>intro x us i p ho h hv;simp[aR]at ho;obtain⟨u,r,rfl,h1,h2⟩:=h;(cases i with|zero=>simp only[kE,Option.some.injEq]at hv;subst hv;refine⟨u,rfl,?_⟩;simp only[ag];exact⟨ho.1,kl h1⟩|succ i=>simpa using gE _ _ _ _ ho.2 h2 hv)|_=>intro x us i p ho h hv;obtain⟨u,rfl,h1⟩:=h;cases i with|zero=>simp only[kE,Option.some.injEq]at hv;subst hv;refine⟨u,rfl,?_⟩;simp only[ag];exact⟨ho,kl h1⟩|succ i=>simp[kE]at hv
theorem Ih(h:Full n w0 S0 s a w ν S)(ho:bG n o=true) {x:Operand} {i:Nat} (aK:o.op= .extract x i)(ab:bo E (aj E F s o) (fun l=>K (s.fin o.dst l))):o.wp E.P a w (fun a' w'=> ∃s',K s'∧Rel n w0 S0 s' a' w') Q:=by
 simp only[aj,aK]at ab;have hx:=h.ev (az ho (x:=x) (by simp[aK,Op.operands]));split at ab;(·rename_i p hp;(have key: ∃us:List Value,a.eval x= .tuple us.toArray∧ ∃v,us[i]?=some v∧ag h.c p v:=by cases bN:s.ev x with|bn vs=>rw[bN]at hx hp;simp only[ag]at hx;obtain⟨us,hv,hr⟩:=hx;exact⟨us,hv,Bj vs us i p hr hp⟩|iv T y=>rw[bN]at hx hp;(cases T with|bn ta tb=>simp only[ag]at hx;obtain⟨iK,us,hv,hr⟩:=hx;exact⟨us,hv,CU _ y us i p iK hr hp⟩|_=>simp only[r7]at hp;cases hp)|_=>rw[bN]at hp;simp only[r7]at hp;cases hp);obtain⟨us,hv,v,Uh,hr⟩:=key;refine h.val ho (v:=v) ?_ hr ab;simp[execOp,aK,hv,Instr.extract,Uh])
 ·exact ab.elim
end
end Go.Proofs.YtgpkijnphchkpaaGreat
