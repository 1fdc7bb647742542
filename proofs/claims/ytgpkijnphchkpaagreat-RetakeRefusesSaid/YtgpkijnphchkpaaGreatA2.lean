/-
  The operations one by one, continued: parts of slices and strings, new arrays, closures. Nothing here is trusted; no condition.
-/
import Derived.Test.YtgpkijnphchkpaaGreatA1
import Derived.Deep.AppendSrc
import Derived.Laws.MakeOwn
import Derived.Laws.StructEq
set_option linter.unusedSimpArgs false
set_option linter.unusedVariables false
namespace Go.Proofs.YtgpkijnphchkpaaGreat
open Go.RowKit
structure Ctx.ZL(ks:List Nat)(c c':Ctx):Prop where
 heap: ∀b,c.M.S b→c'.w.heap[b]?=c.w.heap[b]?
 S: ∀b,c.M.S b→c'.M.S b
 D: ∀i,c.D i→LS i ks=false→c'.D i
 ν: ∀i,c.D i→LS i ks=false→c'.ν i=c.ν i
def ZM(c:Ctx)(ks:List Nat):Prop:= ∀i,LS i ks=true→c.D i→ ∃a n m,c.ν i= .slice a n m
mutual theorem UO {ks:List Nat} {c c':Ctx} (hc:c.ZL ks c')(hb:ZM c ks): ∀ {p:PV} {v:Value},ep c p v→ep c' (p.kill ks) v|.iv T x,v,h=>(by simp only[PV.kill,ep]at h⊢;exact⟨h.1,O0 hc.heap hc.S h.1 h.2⟩)|.ref i off,v,h=>(by simp only[PV.kill,ep]at h⊢;obtain⟨hd,g,h1,h2⟩:=h;(have bf:LS i ks=false:=by cases hm:LS i ks with|false=>rfl|true=>obtain⟨a,n,m,e⟩:=hb i hm hd;rw[h1]at e;cases e);exact⟨hc.D _ hd bf,g,by rw[hc.ν _ hd bf];exact h1,h2⟩)|.lmap i,v,h=>(by simp only[PV.kill,ep]at h⊢;obtain⟨hd,h1,r,h2⟩:=h;(have bf:LS i ks=false:=by cases hm:LS i ks with|false=>rfl|true=>obtain⟨a,n,m,e⟩:=hb i hm hd;rw[h1,e]at h2;cases h2);exact⟨hc.D _ hd bf,by rw[hc.ν _ hd bf];exact h1,r,h2⟩)|.NF T x off,v,h=>(by simp only[PV.kill,ep]at h⊢;obtain⟨ho,g,o,cs,h1,h2,h3,h4,h5⟩:=h;exact⟨ho,g,o,cs,h1,hc.S _ h2,h3,h4.mono (hc.heap _ h2),LX hc.heap hc.S _ _ _ ho h5⟩)|.LV i,v,h=>(by simp only[PV.kill];cases hi:LS i ks;(·simp only[cond_false,ep]at h⊢;exact⟨hc.D _ h.1 hi,by rw[hc.ν _ h.1 hi];exact h.2.1,h.2.2⟩);·simp only[cond_true,ep])|.Ps i sz off len,v,h=>(by simp only[PV.kill];cases hi:LS i ks;(·simp only[cond_false,ep]at h⊢;obtain⟨hd,a,n,cap,b,h1,h2⟩:=h;exact⟨hc.D _ hd hi,a,n,cap,b,by rw[hc.ν _ hd hi];exact h1,h2⟩);·simp only[cond_true,ep])|.OG i sz j off,v,h=>(by simp only[PV.kill];cases hi:LS i ks;(·simp only[cond_false,ep]at h⊢;obtain⟨hd,g,o,n,cap,h1,h2⟩:=h;exact⟨hc.D _ hd hi,g,o,n,cap,by rw[hc.ν _ hd hi];exact h1,h2⟩);·simp only[cond_true,ep])|.agg cs,v,h=>(by simp only[PV.kill,ep]at h⊢;obtain⟨vs,h1,h0,h2⟩:=h;exact⟨vs,h1,h0,N7 hc hb h2⟩)|.Mj cs,v,h=>(by simp only[PV.kill,ep]at h⊢;obtain⟨vs,h1,h2⟩:=h;exact⟨vs,h1,N7 hc hb h2⟩)|.Ms,v,h=>(by simp only[PV.kill,ep]at h⊢;exact h)|.M0,v,h=>(by simp only[PV.kill,ep]at h⊢;exact h)|.Py i base T n j,v,h=>(by simp only[PV.kill,ep]at h⊢;obtain⟨hd,h0,hn,g,h1,h2⟩:=h;(have bf:LS i ks=false:=by cases hm:LS i ks with|false=>rfl|true=>obtain⟨a,n,m,e⟩:=hb i hm hd;rw[h1]at e;cases e);exact⟨hc.D _ hd bf,h0,hn,g,by rw[hc.ν _ hd bf];exact h1,h2⟩)|.VM f cs,v,h=>(by simp only[PV.kill,ep]at h⊢;obtain⟨vs,h1,h2⟩:=h;exact⟨vs,h1,N7 hc hb h2⟩)|.Sl f cs,v,h=>(by simp only[PV.kill,ep]at h⊢;obtain⟨vs,h1,h2⟩:=h;exact⟨vs,h1,N7 hc hb h2⟩)|.Wi i,v,h=>(by simp only[PV.kill,ep]at h⊢;obtain⟨hd,g,h1,h2⟩:=h;(have bf:LS i ks=false:=by cases hm:LS i ks with|false=>rfl|true=>obtain⟨a,n,m,e⟩:=hb i hm hd;rw[h1]at e;cases e);exact⟨hc.D _ hd bf,g,by rw[hc.ν _ hd bf];exact h1,h2⟩)|.clip T xs,v,h=>(by simp only[PV.kill,ep]at h⊢;exact⟨h.1,h.2.1,LX hc.heap hc.S (.sl T) _ _ h.1 h.2.2⟩)|.fn f cs,v,h=>(by simp only[PV.kill,ep]at h⊢;obtain⟨vs,h1,h2⟩:=h;exact⟨vs,h1,N7 hc hb h2⟩)|.any,v,h=>by simp only[PV.kill,ep]theorem N7 {ks:List Nat} {c c':Ctx} (hc:c.ZL ks c')(hb:ZM c ks): ∀ {ps:List PV} {vs:List Value},LO c ps vs→LO c' (PV.Nm ks ps) vs|[],vs,h=>(by simp only[PV.Nm,LO]at h⊢;exact h)|p::ps,vs,h=>by simp only[PV.Nm,LO]at h⊢;obtain⟨v,r,h1,h2,h3⟩:=h;exact⟨v,r,h1,UO hc hb h2,N7 hc hb h3⟩end
theorem OV(f:PV→PV)(t:Nat): ∀l:List (Nat×PV),look t (Rq f l)=(look t l).map f|[]=>rfl|p::r=>by simp only[Rq,look];cases Nat.beq t p.1;(·simpa using OV f t r);·rfl
theorem RT(f:List PV→List PV)(t:Nat): ∀l:List (Nat×L9),look t (TJ f l)=(look t l).map (L9.map f)|[]=>rfl|p::r=>by simp only[TJ,look];cases Nat.beq t p.1;(·simpa using RT f t r);·rfl
theorem N3(ks:List Nat)(t:Nat): ∀l:List (Nat×L9),look t (Ng ks l)=bif LS t ks then none else look t l|[]=>(by simp[Ng,look])|p::r=>by simp only[Ng];cases hm:LS p.1 ks with|true=>simp only[cond_true,look,N3 ks t r];(cases hb:Nat.beq t p.1 with|true=>rw[Nat.eq_of_beq_eq_true hb,hm];rfl|false=>rfl)|false=>simp only[cond_false,look,N3 ks t r];cases hb:Nat.beq t p.1 with|true=>rw[Nat.eq_of_beq_eq_true hb,hm];rfl|false=>rfl
theorem WA(s:St)(ks:List Nat)(t:Nat):(s.kill ks).get t=(s.get t).kill ks:=by simp only[St.get,St.kill,OV];cases look t s.sl<;>simp[PV.kill]
theorem Qt(s:St)(ks:List Nat)(i:Nat):look i (s.kill ks).bl=(look i s.bl).map (L9.map (PV.Nm ks)):=by simp only[St.kill,RT]
theorem X6 {ks:List Nat} {c c':Ctx} (hc:c.ZL ks c')(yj:ZM c ks)(hB:c'.M.O=c.M.O) {id:Nat} {b:L9} (br:c'.ν id=c.ν id)(hg: ∀g,LZ (c.ν id)=some g→c'.w.heap[g]?=c.w.heap[g]?∧(¬c.M.S g→ ¬c'.M.S g))(h:Q2 c id b):Q2 c' id (b.map (PV.Nm ks)):=by
 cases b with|box cs te=>obtain⟨dD,g,vs,e,h1,h2,h3,h4,h0,h5⟩:=h;obtain⟨e1,e2⟩:=hg g (by rw[h1];rfl);exact⟨dD.Qn br fun g b9=>(hg g b9).1,g,vs,e,by rw[br];exact h1,by rw[hB];exact h2,e2 h3,by rw[e1];exact h4,h0,N7 hc yj h5⟩|arr T xs te=>obtain⟨dD,ho,v,hv,h1,h2⟩:=h;injection hv with hv;refine⟨dD.Qn br fun g b9=>(hg g b9).1,ho,v,by rw[br,hv],h1,?_⟩;rcases h2 with h2|⟨g,o,cap,cur,e,rfl,h3,h4,h5,h6,h7,h8,h9⟩;(·exact .inl h2);(·obtain⟨e1,e2⟩:=hg g (by rw[hv];rfl);refine .inr ⟨g,o,cap,cur,e,rfl,h3,h4,e2 h5,by rw[hB];exact h6,by rw[e1];exact h7,h8,fun i y hy=>?_⟩;obtain⟨cs,hl,nD,hr⟩:=h9 i y hy;exact⟨cs,hl,nD.mono e1,LX hc.heap hc.S _ _ _ ho hr⟩)|mp K V es=>obtain⟨bm,iz,h0,r,ae,clock,h1,h2,h3,h4,h5,h6,h7⟩:=h;obtain⟨e1,e2⟩:=hg r (by rw[h1];rfl);refine⟨bm,iz,h0,r,ae,clock,by rw[br];exact h1,by rw[hB];exact h2,e2 h3,by rw[e1];exact h4,h5,h6,fun i y hy=>?_⟩;obtain⟨e,ca,cb,a1,a2,a3,a4,a5⟩:=h7 i y hy;exact⟨e,ca,cb,a1,a2,LX hc.heap hc.S _ _ _ bm a3,a4,LX hc.heap hc.S _ _ _ iz a5⟩|it src since seen=>obtain⟨g,m,h1,h2,h3,h4,h6⟩:=h;obtain⟨e1,e2⟩:=hg g (by rw[h1];rfl);exact⟨g,m,by rw[br];exact h1,by rw[hB];exact h2,e2 h3,by rw[e1];exact h4,N7 hc yj h6⟩|XJ x pos=>obtain⟨g,h1,h2,h3,h4,h5⟩:=h;obtain⟨e1,e2⟩:=hg g (by rw[h1];rfl);exact⟨g,by rw[br];exact h1,by rw[hB];exact h2,e2 h3,by rw[e1];exact h4,h5⟩|gh o cs=>obtain⟨g,vs,h1,h2,h3,h4,h6⟩:=h;obtain⟨e1,e2⟩:=hg g (by rw[h1];rfl);exact⟨g,vs,by rw[br];exact h1,by rw[hB];exact h2,e2 h3,by rw[e1];exact h4,N7 hc yj h6⟩
theorem SC {i k:Nat} :LS i [k]=Nat.beq i k:=by simp only[LS];cases Nat.beq i k<;>rfl
theorem ZN {i k:Nat} (h:i≠k):LS i [k]=false:=by rw[SC];cases hb:Nat.beq i k with|false=>rfl|true=>exact absurd (Nat.eq_of_beq_eq_true hb) h
theorem ZO {i k:Nat} (h:LS i [k]=true):i=k:=by rw[SC]at h;exact Nat.eq_of_beq_eq_true h
section
variable {n:Nat} {w0:World} {S0:Cx} {s:St} {a:Act} {w:World} {ν:Nat→Value} {S:Nat→Prop}
theorem Full.app(h:Full n w0 S0 s a w ν S) {d id j:Nat} {T:Ty} {xs:List T.den} {te:Option Nat} {b':L9} {v':Value} {w':World} (hd:d<n)(hl:look id s.bl=some (.arr T xs te))(hj:j<P0)(tz:j=id∨look j s.bl=none)(hw:NN w w' (LZ (ν id)))(hv: ∃a n cap,v'= .slice a n cap)(cR: ∀g,LZ v'=some g→LZ (ν id)=some g∨w.heap.size≤g)(hb: ∀D:Nat→Prop,Q2 ⟨fun i=>if i=j then v' else ν i,D,w',⟨S,L4 w0 S0⟩⟩ j b'):Full n w0 S0 ⟨(d,.LV j)::(s.kill [id]).sl,(j,b')::Ng [id] (s.kill [id]).bl⟩ (a.put (some d) v') w' (fun i=>if i=j then v' else ν i) S:=by
 (have cP: ∃a n m,ν id= .slice a n m:=by obtain⟨_,ho,v,hv,_,h2⟩:=h.W.MS id _ hl;injection hv with hv;simp only at hv;rw[hv];rcases h2 with⟨h2,_⟩|⟨g',o,cap,cur,e,h2,_⟩<;>subst h2<;>exact⟨_,_,_,rfl⟩)
 (have yj:ZM ⟨ν,s.D,w,⟨S,L4 w0 S0⟩⟩ [id]:=by intro i hi _;rw[ZO hi];exact cP);(have oL: ∀i c,i≠j→look i (⟨(d,.LV j)::(s.kill [id]).sl,(j,b')::Ng [id] (s.kill [id]).bl⟩:St).bl=some c→i≠id∧ ∃c0,look i s.bl=some c0∧c=c0.map (PV.Nm [id]):=by intro i c bT hc;rw[L1 _ _ bT,N3]at hc;cases hm:LS i [id]with|true=>rw[hm]at hc;cases hc|false=>rw[hm]at hc;simp only[cond_false]at hc;rw[Qt]at hc;refine⟨fun e=>?_,?_⟩;(·subst e;rw[SC,Nat.beq_refl]at hm;cases hm);·cases oM:look i s.bl with|none=>rw[oM]at hc;cases hc|some c0=>rw[oM]at hc;injection hc with hc;exact⟨c0,rfl,hc.symm⟩)
 (have hD: ∀i,s.D i→i≠id→(⟨(d,.LV j)::(s.kill [id]).sl,(j,b')::Ng [id] (s.kill [id]).bl⟩:St).D i:=by rintro i⟨c,hc⟩bf;by_cases bT:i=j;(·subst bT;exact⟨b',Mf _ _ _⟩);·exact⟨c.map (PV.Nm [id]),by rw[L1 _ _ bT,N3,ZN bf,cond_false,Qt,hc];rfl⟩)
 (have bf: ∀i,s.D i→i≠id→i≠j:=by rintro i⟨c,hc⟩hi e;subst e;rcases tz with tz|tz;(·exact hi tz);·rw[tz]at hc;cases hc);have hS: ∀g,S g→w'.heap[g]?=w.heap[g]?:=fun g hg=>hw.block g (h.W.lt g hg) (fun e=>(h.Pe hl e.symm).2.1 hg)
 (have hle:Ctx.ZL [id] ⟨ν,s.D,w,⟨S,L4 w0 S0⟩⟩ ⟨fun i=>if i=j then v' else ν i,(⟨(d,.LV j)::(s.kill [id]).sl,(j,b')::Ng [id] (s.kill [id]).bl⟩:St).D,w',⟨S,L4 w0 S0⟩⟩:=by refine⟨hS,fun _ h=>h,fun i hi hm=>hD i hi ?_,fun i hi hm=>?_⟩;(·rintro rfl;rw[SC,Nat.beq_refl]at hm;cases hm);·(have:i≠id:=by rintro rfl;rw[SC,Nat.beq_refl]at hm;cases hm);simp[bf i hi this])
 refine⟨h.below.grown hw (fun g hg=>(h.Pe hl hg).1),h.XQ,h.fresh,⟨fun g hg=>Nat.lt_of_lt_of_le (h.W.lt g hg) hw.size,fun g hg=>h.W.size g (Nat.le_trans hw.size hg),fun i c hc=>?_,fun i k c e oN hi hk g qM vr=>?_⟩,?_,?_,?_,h.TT,fun i hi mP=>?_,h.YS⟩
 (·by_cases hi:i=j;(·subst hi;rw[Mf]at hc;injection hc with hc;subst hc;exact hb _);·obtain⟨qT,c0,iB,rfl⟩:=oL i c hi hc;refine X6 hle yj rfl (by simp[hi]) (fun g hg=>?_) (h.W.MS i c0 iB);exact⟨hw.block g (h.Pe iB hg).2.2 (fun e=>h.W.ne i id c0 _ qT iB hl g hg e.symm),fun h=>h⟩)
 (·by_cases bT:i=j;(·subst bT;have fB:k≠i:=fun e=>oN e.symm;simp only[if_true]at qM;simp only[fB,if_false]at vr;obtain⟨FI,e',gC,_⟩:=oL k e fB hk;rcases cR g qM with hf|hf;(·exact h.W.ne id k _ _ (fun e=>FI e.symm) hl gC g hf vr);·have:=(h.Pe gC vr).2.2;omega);·simp only[bT,if_false]at qM;obtain⟨FJ,c',db,_⟩:=oL i c bT hi;by_cases FK:k=j;(·subst FK;simp only[if_true]at vr;rcases cR g vr with hf|hf;(·exact h.W.ne i id _ _ FJ db hl g qM hf);·have:=(h.Pe db qM).2.2;omega);·simp only[FK,if_false]at vr;obtain⟨_,e',gC,_⟩:=oL k e FK hk;exact h.W.ne i k _ _ oN db gC g qM vr)
 (·intro t;(have Jm:ep ⟨fun i=>if i=j then v' else ν i,(⟨(d,.LV j)::(s.kill [id]).sl,(j,b')::Ng [id] (s.kill [id]).bl⟩:St).D,w',⟨S,L4 w0 S0⟩⟩ (.LV j) v':=by simp only[ep];exact⟨⟨b',Mf _ _ _⟩,by simp,hv⟩);refine UN (s:=s.kill [id]) (fun t=>?_) h.size hd (fun t=>?_) Jm t;(·rw[WA];exact UO hle yj (h.N9 t));·by_cases ht:t=d;(·subst ht;simp[St.get,Mf]);·simp[St.get,L1 _ _ ht,ht])
 (·rw[TS];exact h.size);(·rw[RS];exact h.defers);·(have bT:i≠j:=by omega);simp only[bT,if_false];obtain⟨c,hc⟩:=mP;obtain⟨_,c0,iB,_⟩:=oL i c bT hc;exact h.kept i hi ⟨c0,iB⟩
end
/-! ### append -/
theorem SZ {T:Ty} {w:World} {M:Mem} {g o:Nat} : ∀(xs:List T.den),(∀i y,xs[i]?=some y→ ∃cs,cs.length=T.cells∧Nv w g (o+i*T.cells) cs∧L3 T y w M cs)→ ∃vs:List Value,vs.length=xs.length*T.cells∧Nv w g o vs∧(∀u,u∈vs→u.oneCell'=true)∧ ∀i y,xs[i]?=some y→L3 T y w M ((vs.drop (i*T.cells)).take T.cells):=by
 intro xs;induction xs generalizing o with|nil=>intro _;exact⟨[],by simp,fun j v h=>by simp at h,by simp,fun i y h=>by simp at h⟩|cons x xs ih=>intro h;obtain⟨cs,hl,hc,hr⟩:=h 0 x rfl;obtain⟨vs,mb,Jn,Jo,yk⟩:=ih (o:=o+T.cells) (fun i y hy=>by obtain⟨oO,oM,db,cm⟩:=h (i+1) y (by simpa using hy);refine⟨oO,oM,?_,cm⟩;(have e:o+(i+1)*T.cells=o+T.cells+i*T.cells:=by rw[Nat.add_mul];omega);rwa[e]at db);refine⟨cs++vs,by simp[hl,mb,Nat.add_mul];omega,fun j v hj=>?_,fun u hu=>?_,fun i y hy=>?_⟩;(·rcases Nat.lt_or_ge j T.cells with qN|qN;(·rw[List.getElem?_append_left (by omega)]at hj;have:=hc j v hj;simpa using this);·rw[List.getElem?_append_right (by omega)]at hj;have:=Jn _ v hj;rw[←this];congr 2;omega);(·rcases List.mem_append.1 hu with hu|hu;(·exact TO _ _ _ _ _ hr u hu);·exact Jo u hu);·cases i with|zero=>simp at hy;subst hy;rw[Nat.zero_mul,List.drop_zero,←hl,List.take_left];exact hr|succ i=>have:=yk i y (by simpa using hy);(have e:(i+1)*T.cells=cs.length+i*T.cells:=by rw[Nat.add_mul,hl];omega);rw[e,List.drop_append];simpa[List.drop_of_length_le]using this
theorem VV {T:Ty} {w:World} {M:Mem} {g o:Nat} {xs:List T.den} {vs:List Value} (hl:vs.length=xs.length*T.cells)(hc:Nv w g o vs)(hr: ∀i y,xs[i]?=some y→L3 T y w M ((vs.drop (i*T.cells)).take T.cells)): ∀i y,xs[i]?=some y→ ∃cs,cs.length=T.cells∧Nv w g (o+i*T.cells) cs∧L3 T y w M cs:=by
 intro i y hy;(have hi:i<xs.length:=by rcases Nat.lt_or_ge i xs.length with h|h;(·exact h);·rw[List.getElem?_eq_none h]at hy;cases hy);refine⟨_,MA _ _ _ _ _ (hr i y hy),fun j v hj=>?_,hr i y hy⟩
 (have kC:j<T.cells:=by rcases Nat.lt_or_ge j T.cells with h|h;(·exact h);·rw[List.getElem?_eq_none (by rw[MA _ _ _ _ _ (hr i y hy)];exact h)]at hj;cases hj);rw[List.getElem?_take,if_pos kC,List.getElem?_drop]at hj
 have:=hc _ v hj;rw[←this,Nat.add_assoc]
theorem Tu {T : Ty} {w w' : World} {M : Mem} (hw : ∀ b, M.S b → w'.heap[b]? = w.heap[b]?) (ho : Ma T = 0) {xs ys : List T.den} {us vs : List Value} (hu : us.length = xs.length * T.cells) (hr : ∀ i y, xs[i]? = some y → L3 T y w M ((us.drop (i * T.cells)).take T.cells))
    (hs : ∀ i y, ys[i]? = some y → L3 T y w M ((vs.drop (i * T.cells)).take T.cells)) : ∀ i y, (xs ++ ys)[i]? = some y → L3 T y w' M (((us ++ vs).drop (i * T.cells)).take T.cells) := by
  intro i y hy
  refine LX hw (fun _ h => h) _ _ _ ho ?_
  rcases Nat.lt_or_ge i xs.length with hi | hi
  · rw [List.getElem?_append_left hi] at hy
    have h1 := hr i y hy
    have hle : i * T.cells + T.cells ≤ us.length := by
      rw [hu]
      calc i * T.cells + T.cells = (i + 1) * T.cells := by rw [Nat.add_mul]; omega
        _ ≤ xs.length * T.cells := Nat.mul_le_mul_right _ hi
    rw [List.drop_append_of_le_length (by omega), List.take_append_of_le_length (by rw [List.length_drop]; omega)]
    exact h1
  · rw [List.getElem?_append_right hi] at hy
    have h1 := hs _ y hy
    have e : i * T.cells = us.length + (i - xs.length) * T.cells := by
      rw [hu, ← Nat.add_mul]
      congr 1
      omega
    rw [e, List.drop_append]
    simpa [List.drop_of_length_le] using h1
end Go.Proofs.YtgpkijnphchkpaaGreat
namespace Go.Proofs.YtgpkijnphchkpaaGreat
open Go.RowKit
theorem NX(g o n:Nat):(⟨g,o,none⟩:Addr).add n=⟨g,o+n,none⟩:=by unfold Addr.add;split<;>simp_all
theorem MZ.elem {E:Env} (hE:L6 E) {t:Nat} {T:Ty} (h:MZ E t (.sl T)): ∃e,E.P.underlying t=some (.slice e)∧E.ty e=some T∧MZ E e T∧T.val=true∧0<T.cells:=by
 obtain⟨d,hd,hs⟩:=h.To;(cases d<;>simp only[Nd]at hs<;>first|cases hs|skip);rename_i e;simp only[Bool.and_eq_true,SB]at hs;obtain⟨⟨h1,h2⟩,h3⟩:=hs;split at h1;(·rename_i U hU;rw[Ty.Nc h1]at hU;exact⟨e,hd,hU,hE.facts hU,h2,Nat.le_of_ble_eq_true h3⟩)
 ·cases h1
structure Source(w:World)(size:Nat)(a:Option Addr)(m:Nat)(news:List Value):Prop where
 len:news.length=m*size
 cells:m=0∨ ∃ad,a=some ad∧ ∀j u,news[j]?=some u→w.cell? (ad.add j)=some u
 one: ∀u,u∈news→u.oneCell'=true
theorem Source.first {P:Program} {w:World} {size:Nat} {a:Option Addr} {m:Nat} {news:List Value} (h:Source w size a m news)(c:Nat):(Builtin.firstCells size m (.slice a m c)).run P w= .ok news.toArray w:=by
 rcases h.cells with rfl|⟨ad,rfl,hc⟩;(·have hn:news=[]:=List.eq_nil_of_length_eq_zero (by simpa using h.len);subst hn;cases a with|none=>exact run_firstCells_none w _ _ _ _|some ad=>exact run_firstCells_some w size 0 ad _ c [] (by simp) (by simp))
 ·exact run_firstCells_some w size m ad _ c news h.len hc
theorem Oo(w:World)(g:Nat)(cs:Array Value):NN w (w.setRow g cs) (some g):=⟨rfl,rfl,rfl,by simp,fun k _ hk=>setRow_other w g k _ (fun e=>hk (by rw[e])),fun _=>Nat.le_refl _⟩
theorem Source.src {P:Program} {w:World} {size:Nat} {a:Option Addr} {m:Nat} {news:List Value} (h:Source w size a m news) {tx e':TypeId} (hk:P.underlying tx=some (.slice e'))(c:Nat):Src P size tx (.slice a m c) m news w:=⟨.inl ⟨e',hk⟩,fun _=>rfl,h.first c,by have h':Source w.drew size a m news:=⟨h.len,h.cells,h.one⟩;exact h'.first c,h.len,h.one⟩
theorem UP {P:Program} {w:World} {t tx ty e:TypeId} {i:TypeInfo} (ht:P.underlying t=some (.slice e))(hi:P.info? e=some i) {g o n cap:Nat} {cur:Array Value} {e':TypeId} (hg:w.heap[g]?=some (.cells cur e' (0,0))) {x:Value} {m:Nat} {news:List Value} (hs:Src P i.size tx x m news w)(oP:n+m≤cap)(gv:o+n*i.size+news.length≤cur.size):(Builtin.append_ #[t,tx] ty #[.slice (some ⟨g,o,none⟩) n cap,x]).run P w= .ok (.slice (some ⟨g,o,none⟩) (n+m) cap) (w.setRow g (cur.toList.take (o+n*i.size)++news++cur.toList.drop (o+n*i.size+news.length)).toArray):=by
 have cS:=run_storeCells_at (P:=P) g (o+n*i.size) e' news 0 cur w hg (by simpa using gv) hs.one;simp only[Nat.add_zero]at cS;rcases hs.kind with⟨e2,hk⟩|hk<;>simp[Builtin.append_,run_underlying ht,run_underlying hk,sizeOf,typeInfo,hi,hs.len,oP,hs.cells,NX,cS]
theorem al4(z:Array Value)(n:Nat):(Builtin.zeroCells z n).size=n*z.size:=by simp[Builtin.zeroCells]
theorem UQ {E:Env} {T:Ty} {w:World} {M:Mem} {zs:List T.den} {e:TypeId} {z:Value} (qO:z.cells.size=T.cells)(ho:Ma T=0)(bo: ∀b,M.S b→b<w.heap.size)(hB: ∀g,w.heap.size≤g→M.O g)(hlen:zs.length≤1099511627776)(cs:List Value)(cn:cs.length=zs.length*T.cells)(FL: ∀i y,zs[i]?=some y→L3 T y w M ((cs.drop (i*T.cells)).take T.cells))(TU:Nat):L3 (.own T) zs (w.drew.alloc (.cells (cs.toArray++Builtin.zeroCells z.cells (grownCap w zs.length TU e-zs.length)) e)) M [.slice (some ⟨w.heap.size,0,none⟩) zs.length (grownCap w zs.length TU e)]:=by
 have oA:=grownCap_ge w zs.length TU e;have Ab:=grownCap_le_maxLen w zs.length TU e (by simp only[maxLen];omega);simp only[maxLen]at Ab;have hh:(w.drew.alloc (.cells (cs.toArray++Builtin.zeroCells z.cells (grownCap w zs.length TU e-zs.length)) e)).heap[w.heap.size]?=some (.cells (cs.toArray++Builtin.zeroCells z.cells (grownCap w zs.length TU e-zs.length)) e):=heap_alloc_new w.drew _
 refine⟨_,rfl,by omega,.inr ⟨w.heap.size,0,grownCap w zs.length TU e,_,e,rfl,oA,by omega,fun h=>absurd (bo _ h) (by omega),hB _ (Nat.le_refl _),hh,?_,?_⟩⟩;(·rw[Array.size_append,al4,qO,List.size_toArray,cn,Nat.zero_add,←Nat.add_mul];exact Nat.mul_le_mul_right _ (by omega))
 ·refine VV (vs:=cs) cn (fun j u hj=>?_) (fun k y hy=>?_);(·rw[cell_of_row _ _ _ _ _ _ hh,Nat.zero_add,Array.getElem?_append_left (by simpa using(List.getElem?_eq_some_iff.1 hj).1)];simpa using hj);·exact LX (w:=w) (fun b hb=>Below.heap_alloc w.drew _ b (bo b hb)) (fun _ h=>h) _ _ _ ho (FL k y hy)
theorem Qd {E:Env} (hE:L6 E) {t tx ty:Nat} {T:Ty} (ht:E.ty t=some (.sl T)) {w:World} {M:Mem} {a:Option Addr} {m:Nat} {xs ys:List T.den} (ho:Ma T=0)(cP:L3 (.sl T) xs w M [.slice a m m])(bo: ∀b,M.S b→b<w.heap.size)(hB: ∀g,w.heap.size≤g→M.O g) {x:Value} {news:List Value} (hs:Src E.P T.cells tx x ys.length news w)(hr: ∀i y,ys[i]?=some y→L3 T y w M ((news.drop (i*T.cells)).take T.cells))(bf:ys≠ [])(hlen:xs.length+ys.length≤1099511627776): ∃v' w',(Builtin.append_ #[t,tx] ty #[.slice a m m,x]).run E.P w= .ok v' w'∧L3 (.own T) (xs++ys) w' M [v']∧NN w w' none∧(∃a n cap,v'= .slice a n cap)∧(∀g,LZ v'=some g→w.heap.size≤g):=by
 obtain⟨e,hu,he,ff,eu,iC⟩:=(hE.facts ht).elem hE;obtain⟨i,hi,bt,Ac,_,z,hz,qO⟩:=ff.info;rw[←bt]at hs;(have yl: ∀k:Nat,k≤1099511627776→k*i.bytes≤140737488355328:=fun k hk=>by calc k*i.bytes≤1099511627776*128:=Nat.mul_le_mul hk Ac
 _=140737488355328:=by decide);have hm:ys.length≠0:=fun h=>bf (List.eq_nil_of_length_eq_zero h);obtain⟨a',fG,hv,h1,h2,h3⟩:=cP;(obtain⟨rfl,rfl,rfl⟩:a'=a∧m=xs.length∧fG=m:=by injection hv with hv;injection hv with h1 h2 h3;exact⟨h1.symm,h2,h3.symm⟩)
 (obtain⟨us,mh,Cy,xV⟩: ∃us:List Value,us.length=xs.length*T.cells∧(∀i y,xs[i]?=some y→L3 T y w M ((us.drop (i*T.cells)).take T.cells))∧(Builtin.firstCells i.size xs.length (.slice a' xs.length xs.length)).run E.P w.drew= .ok us.toArray w.drew:=by rcases h3 with rfl|⟨g,o,rfl,_,cc⟩;(·refine⟨[],by simp,fun i y hy=>by simp at hy,?_⟩;cases a' with|none=>exact run_firstCells_none _ _ _ _ _|some ad=>exact run_firstCells_some _ _ 0 ad _ _ [] (by simp) (by simp));·obtain⟨us,mh,ES,vt,Cy⟩:=SZ xs cc;exact⟨us,mh,Cy,run_firstCells_some w.drew i.size xs.length ⟨g,o,none⟩ _ _ us (by rw[mh,bt]) (fun j u hj=>by rw[NX];exact ES j u hj)⟩)
 have aJ:=run_append_grow_src (P:=E.P) w t tx ty e i z hu hi hz a' xs.length xs.length us xV x ys.length news hs (by omega) (by omega) (growslice_fits (by omega) (yl _ hlen))
 have hg:=UQ (E:=E) (e:=e) (zs:=xs++ys) qO ho bo hB (by rw[List.length_append];exact hlen) (us++news) (by rw[List.length_append,List.length_append,mh,hs.newsLen,bt,Nat.add_mul]) (Tu (fun _ _=>rfl) ho mh Cy hr) xs.length
 rw[List.length_append]at hg;exact⟨_,_,aJ,hg,⟨rfl,rfl,rfl,by simp,fun k hk _=>Below.heap_alloc w.drew _ k hk,fun _=>Nat.le_succ _⟩,⟨_,_,_,rfl⟩,fun g hg=>by injection hg with hg;simp at hg;omega⟩
theorem QJ {E:Env} (hE:L6 E) {t tx ty:Nat} {T:Ty} (ht:E.ty t=some (.sl T)) {w:World} {M:Mem} {v:Value} {xs ys:List T.den} (ho:Ma T=0)(eK:L3 (.own T) xs w M [v])(bo: ∀b,M.S b→b<w.heap.size)(hB: ∀g,w.heap.size≤g→M.O g) {x:Value} {news:List Value} (hs:Src E.P T.cells tx x ys.length news w)(hr: ∀i y,ys[i]?=some y→L3 T y w M ((news.drop (i*T.cells)).take T.cells))(hlen:xs.length+ys.length≤1099511627776): ∃v' w',(Builtin.append_ #[t,tx] ty #[v,x]).run E.P w= .ok v' w'∧L3 (.own T) (xs++ys) w' M [v']∧NN w w' (LZ v)∧(∃a n cap,v'= .slice a n cap)∧(∀g,LZ v'=some g→LZ v=some g∨w.heap.size≤g)∧(∀e0,E.P.underlying t=some (.slice e0)→OK (some e0) w v→OK (some e0) w' v'):=by
 obtain⟨e,hu,he,ff,eu,iC⟩:=(hE.facts ht).elem hE;obtain⟨i,hi,bt,Ac,_,z,hz,qO⟩:=ff.info;rw[←bt]at hs;(have yl: ∀k:Nat,k≤1099511627776→k*i.bytes≤140737488355328:=fun k hk=>by calc k*i.bytes≤1099511627776*128:=Nat.mul_le_mul hk Ac
 _=140737488355328:=by decide);obtain⟨u,hv,h1,h2⟩:=eK;injection hv with hv;subst hv;(have grown: ∀(cs:List Value),cs.length=(xs.length+ys.length)*T.cells→(∀i y,(xs++ys)[i]?=some y→L3 T y w M ((cs.drop (i*T.cells)).take T.cells))→ ∀(TU:Nat),L3 (.own T) (xs++ys) (w.drew.alloc (.cells (cs.toArray++Builtin.zeroCells z.cells (grownCap w (xs.length+ys.length) TU e-(xs.length+ys.length))) e)) M [.slice (some ⟨w.heap.size,0,none⟩) (xs.length+ys.length) (grownCap w (xs.length+ys.length) TU e)]:=by intro cs cn FL TU;have:=UQ (E:=E) (e:=e) (zs:=xs++ys) qO ho bo hB (by rw[List.length_append];exact hlen) cs (by rw[cn,List.length_append]) FL TU;rwa[List.length_append]at this)
 rcases h2 with⟨rfl,rfl⟩|⟨g,o,cap,cur,e',rfl,h3,h4,h5,h6,h7,h8,h9⟩;(·by_cases hm:ys.length=0;(·have hn:news=[]:=List.eq_nil_of_length_eq_zero (by rw[hs.newsLen,hm,Nat.zero_mul]);have hy:ys=[]:=List.eq_nil_of_length_eq_zero hm;subst hy;refine⟨.slice none 0 0,w,?_,⟨_,rfl,by simp,.inl ⟨rfl,by simp⟩⟩,⟨rfl,rfl,rfl,Nat.le_refl _,fun _ _ _=>rfl,fun _=>Nat.le_refl _⟩,⟨_,_,_,rfl⟩,fun g hg=>(by cases hg),fun e0 _ _ t' _ g hg=>(by cases hg)⟩;have kb:=hs.len;have iB:=hs.cells;simp only[List.length_nil]at kb iB;rcases hs.kind with⟨e2,hk⟩|hk<;>simp[Builtin.append_,run_underlying hu,run_underlying hk,sizeOf,typeInfo,hi,kb,iB]);·skip;·have hb:=yl ys.length (by simpa using hlen);have aJ:=run_append_grow_src (P:=E.P) w t tx ty e i z hu hi hz none 0 0 [] (run_firstCells_none _ _ _ _ _) x ys.length news hs (by omega) (by simp at hlen;omega) (growslice_fits (by omega) (by simpa using hb));simp only[Nat.zero_add,List.nil_append]at aJ;have hg:=grown news (by rw[hs.newsLen,bt];simp) (by simpa using hr) 0;simp only[List.length_nil,Nat.zero_add]at hg;exact⟨_,_,aJ,hg,⟨rfl,rfl,rfl,by simp,fun k hk _=>Below.heap_alloc w.drew _ k hk,fun _=>Nat.le_succ _⟩,⟨_,_,_,rfl⟩,fun g hg=>.inr (by injection hg with hg;simp at hg;omega),fun e0 ym _ t' tA g hg=>by obtain rfl:=Option.some.inj tA;(obtain rfl:e=e0:=by rw[hu]at ym;injection ym with ym;injection ym);injection hg with hg;subst hg;exact⟨rfl,_,_,heap_alloc_new w.drew _⟩⟩)
 ·obtain⟨us,mh,ES,vt,Cy⟩:=SZ xs h9;by_cases oP:xs.length+ys.length≤cap;(·(have gv:o+xs.length*i.size+news.length≤cur.size:=by rw[hs.newsLen,Nat.add_assoc,←Nat.add_mul,bt];exact Nat.le_trans (Nat.add_le_add_left (Nat.mul_le_mul_right _ oP) _) h8);have aJ:=UP (P:=E.P) (ty:=ty) hu hi h7 hs oP gv;refine⟨_,_,aJ,?_,?_,⟨_,_,_,rfl⟩,fun g hg=>.inl hg,fun e0 _ dD=>(by exact dD.ax3 rfl h7 (setRow_heap w g cur _ e' _ h7))⟩;(·have hh:=setRow_heap w g cur (cur.toList.take (o+xs.length*i.size)++news++cur.toList.drop (o+xs.length*i.size+news.length)).toArray e' _ h7;have C7: ∀b,M.S b→(w.setRow g (cur.toList.take (o+xs.length*i.size)++news++cur.toList.drop (o+xs.length*i.size+news.length)).toArray).heap[b]?=w.heap[b]?:=fun b hb=>setRow_other w g b _ (fun e=>h5 (e▸hb));refine⟨_,rfl,by rw[List.length_append];omega,.inr ⟨g,o,cap,_,e',by rw[List.length_append],by rw[List.length_append];exact oP,h4,h5,h6,hh,?_,?_⟩⟩;(·simp only[List.size_toArray,List.length_append,List.length_take,List.length_drop,Array.length_toList];omega);·refine VV (vs:=us++news) (by rw[List.length_append,List.length_append,mh,hs.newsLen,bt,Nat.add_mul]) (fun j u hj=>?_) (Tu C7 ho mh Cy hr);rw[cell_of_row _ _ _ _ _ _ hh];simp only[List.getElem?_toArray];rcases Nat.lt_or_ge j us.length with AY|AY;(·rw[List.getElem?_append_left AY]at hj;have b7:=ES j u hj;rw[cell_of_row _ _ _ _ _ _ h7]at b7;(have tB:o+j<o+xs.length*i.size:=by rw[bt,←mh];omega);rw[List.append_assoc,List.getElem?_append_left (by simp only[List.length_take,Array.length_toList];omega),List.getElem?_take,if_pos tB];simpa using b7);·rw[List.getElem?_append_right AY]at hj;have qN:j-us.length<news.length:=(List.getElem?_eq_some_iff.1 hj).1;(have nE:(cur.toList.take (o+xs.length*i.size)).length=o+xs.length*i.size:=by simp only[List.length_take,Array.length_toList];omega);rw[List.append_assoc,List.getElem?_append_right (by rw[nE,bt,←mh];omega),nE,List.getElem?_append_left (by rw[bt,←mh];omega)];rw[←hj];congr 1;rw[bt,←mh];omega);·exact Oo w g _);·(have hm:ys.length≠0:=by omega);skip;·have aJ:=run_append_grow_src (P:=E.P) w t tx ty e i z hu hi hz (some ⟨g,o,none⟩) xs.length cap us (run_firstCells_some w.drew i.size xs.length ⟨g,o,none⟩ xs.length cap us (by rw[mh,bt]) (fun j u hj=>by rw[NX];exact ES j u hj)) x ys.length news hs (by omega) (by omega) (growslice_fits (by omega) (yl _ hlen));have hg:=grown (us++news) (by rw[List.length_append,mh,hs.newsLen,bt,Nat.add_mul]) (Tu (fun _ _=>rfl) ho mh Cy hr) cap;exact⟨_,_,aJ,hg,⟨rfl,rfl,rfl,by simp,fun k hk _=>Below.heap_alloc w.drew _ k hk,fun _=>Nat.le_succ _⟩,⟨_,_,_,rfl⟩,fun g hg=>.inr (by injection hg with hg;simp at hg;omega),fun e0 ym _ t' tA g hg=>by obtain rfl:=Option.some.inj tA;(obtain rfl:e=e0:=by rw[hu]at ym;injection ym with ym;injection ym);injection hg with hg;subst hg;exact⟨rfl,_,_,heap_alloc_new w.drew _⟩⟩
end Go.Proofs.YtgpkijnphchkpaaGreat
namespace Go.Proofs.YtgpkijnphchkpaaGreat
open Go.RowKit
theorem M8 {P:Program} {o:Oper} {a:Act} {w w':World} {v:Value} {K:Act→World→Prop} {Q:Exit→Act→World→Prop} (h:(execOp a.eval o).run P w= .ok (.value v) w')(hk:K (a.put o.dst v) w'):o.wp P a w K Q:=by
 unfold Oper.wp;rw[h];exact hk
theorem QK {P:Program} {o:Oper} {a:Act} {w w':World} {K:Act→World→Prop} {Q:Exit→Act→World→Prop} (h:(execOp a.eval o).run P w= .ok .skip w')(hk:K (a.put o.dst undef) w'):o.wp P a w K Q:=by
 unfold Oper.wp;rw[h];exact hk
theorem Q7 {P:Program} {o:Oper} {a:Act} {w w':World} {f:FuncId} {args:Array Value} {K:Act→World→Prop} {Q:Exit→Act→World→Prop} (h:(execOp a.eval o).run P w= .ok (.enter f args) w')(hk:Calls P f args w' fun e qS=> ∃v,e= .returned v∧K (a.put o.dst v) qS):o.wp P a w K Q:=by
 unfold Oper.wp;rw[h];refine hk.mono ?_;rintro e qS⟨v,rfl,hv⟩;exact hv
section
variable {E:Env} {n:Nat} {w0:World} {S0:Cx} {s:St} {a:Act} {w:World} {ν:Nat→Value} {S:Nat→Prop} {F:Np} {o:Oper} {K:St→Prop} {Q:Exit→Act→World→Prop}
theorem My(ho:MV n o=true): ∀d,o.dst=some d→d<n:=by intro d hd;simp only[MV,hd,Bool.and_eq_true]at ho;have:=ho.2;simp only[Nat.blt_eq]at this;exact this
theorem L5(ho:MV n o=true) {x:Operand} (hx:x∈o.op.operands):RR x=true:=by simp only[MV,Bool.and_eq_true,List.all_eq_true]at ho;exact ho.1 x (Array.mem_toList_iff.2 hx)
theorem Full.val(h:Full n w0 S0 s a w ν S)(ho:MV n o=true) {p:PV} {v:Value} (hr:(execOp a.eval o).run E.P w= .ok (.value v) w)(hp:ep h.c p v)(hK:K (s.fin o.dst (.val p))):o.wp E.P a w (fun a' w'=> ∃s',K s'∧Rel n w0 S0 s' a' w') Q:=M8 hr ⟨_,hK,(h.put (My ho) hp).rel⟩
theorem ME {c:Ctx} {k:IntKind} {x:Int} {v:Value} (h:ep c (.iv (.int k) x) v):v= .int k x∧k.min≤x∧x≤k.max:=by
 simp only[ep]at h;obtain⟨_,hv,h⟩:=h;injection hv with hv;exact⟨hv,h⟩
theorem MY {c:Ctx} {k:IntKind} {x:Int} (h:k.min≤x∧x≤k.max):ep c (.iv (.int k) x) (.int k x):=by simp only[ep];exact⟨rfl,rfl,h⟩
theorem P2 {c:Ctx} {x:Bool} {v:Value} (h:ep c (.iv .bool x) v):v= .bool x:=by simp only[ep]at h;obtain⟨_,hv⟩:=h;injection hv
theorem MI {c:Ctx} {x:Bool} :ep c (.iv .bool x) (.bool x):=by simp only[ep];exact⟨rfl,rfl⟩
theorem NK {c:Ctx} {x:List UInt8} {v:Value} (h:ep c (.iv .str x) v):v= .string ⟨x.toArray⟩∧x.length≤9223372036854775807:=by
 simp only[ep]at h;obtain⟨_,hv,h⟩:=h;injection hv with hv;exact⟨hv,h⟩
theorem SD {c:Ctx} {x:List UInt8} (h:x.length≤9223372036854775807):ep c (.iv .str x) (.string ⟨x.toArray⟩):=by simp only[ep];exact⟨rfl,rfl,h⟩
theorem aS0(h:Full n w0 S0 s a w ν S)(ho:MV n o=true) {x:Operand} (ak:o.op= .move x)(ab:Ml E (LM E F s o) (fun l=>K (s.fin o.dst l))):o.wp E.P a w (fun a' w'=> ∃s',K s'∧Rel n w0 S0 s' a' w') Q:=by
 simp only[LM,ak,Ml]at ab;refine h.val ho ?_ (h.ev (L5 ho (by simp[ak,Op.operands]))) ab;simp only[execOp,ak,Sem.run_pure]
theorem ar1(h:Full n w0 S0 s a w ν S)(ho:MV n o=true) {x:Operand} (ak:o.op= .assign x)(ab:Ml E (LM E F s o) (fun l=>K (s.fin o.dst l))):o.wp E.P a w (fun a' w'=> ∃s',K s'∧Rel n w0 S0 s' a' w') Q:=by
 simp only[LM,ak,Ml]at ab;refine h.val ho ?_ (h.ev (L5 ho (by simp[ak,Op.operands]))) ab;simp only[execOp,ak,Sem.run_pure]
theorem ZP(h:Full n w0 S0 s a w ν S)(ho:MV n o=true) {x:Operand} (ak:o.op= .nilCheck x)(ab:Ml E (LM E F s o) (fun l=>K (s.fin o.dst l))):o.wp E.P a w (fun a' w'=> ∃s',K s'∧Rel n w0 S0 s' a' w') Q:=by
 simp only[LM,ak]at ab;have hx:=h.ev (L5 ho (x:=x) (by simp[ak,Op.operands]));(have fin: ∀ {p:PV} {ad:Addr},ep h.c p (a.eval x)→a.eval x= .pointer (some ad)→K (s.fin o.dst (.val p))→o.wp E.P a w (fun a' w'=> ∃s',K s'∧Rel n w0 S0 s' a' w') Q:=by intro p ad hr he hk;rw[he]at hr;refine h.val ho ?_ hr hk;simp only[execOp,ak,he,Sem.run_pure])
 split at ab;(·rename_i id off aY;rw[aY]at hx;have er:=hx;simp only[ep]at er;obtain⟨_,g,_,hv⟩:=er;exact fin hx hv ab);(·rename_i U y off aY;rw[aY]at hx;have er:=hx;simp only[ep]at er;obtain⟨_,g,ob,cs,hv,_⟩:=er;exact fin hx hv ab)
 (·rename_i id sz i off aY;rw[aY]at hx;have er:=hx;simp only[ep]at er;obtain⟨_,g,ob,n,cap,_,_,hv⟩:=er;exact fin hx hv ab);(·rename_i U y aY;rw[aY]at hx;have er:=hx;simp only[ep,RF,Na,L3]at er;obtain⟨dh,g,ob,cs,hv,hS,hl,hc,hr⟩:=er;simp only[List.cons.injEq,and_true]at hv;refine fin (p:=.NF U y 0) (ad:=⟨g,ob,none⟩) ?_ hv ab;simp only[ep];exact⟨dh,g,ob,cs,hv,hS,hl,hc,hr⟩)
 ·exact ab.elim
theorem ag1: ∀ {T:Ty},Qi T=true→Ma T=0:=by
 intro T;induction T with|own t=>intro h;cases h|pair a b da cI=>intro h;simp only[Qi,Bool.and_eq_true]at h;simp only[Ma,da h.1,cI h.2]|Mj a b da cI=>intro h;simp only[Qi,Bool.and_eq_true]at h;simp only[Ma,da h.1,cI h.2]|mp a b da cI=>intro h;simp only[Qi,Bool.and_eq_true]at h;simp only[Ma,da h.1,cI h.2]|st t ih=>exact ih|sl t ih=>exact ih|ptr t ih=>exact ih|OM f t ih=>exact ih|_=>intro _;rfl
theorem aS1(h:Full n w0 S0 s a w ν S)(ho:MV n o=true) {x y z:Operand} (ak:o.op= .pick x y z)(ab:Ml E (LM E F s o) (fun l=>K (s.fin o.dst l))):o.wp E.P a w (fun a' w'=> ∃s',K s'∧Rel n w0 S0 s' a' w') Q:=by
 simp only[LM,ak]at ab;have hx:=h.ev (L5 ho (x:=x) (by simp[ak,Op.operands]));have hy:=h.ev (L5 ho (x:=y) (by simp[ak,Op.operands]));have hz:=h.ev (L5 ho (x:=z) (by simp[ak,Op.operands]))
 split at ab;(·rename_i b hb;rw[hb]at hx;have hv:=P2 hx;cases b;(·refine h.val ho ?_ hz ab;simp[execOp,ak,hv,asBool]);·refine h.val ho ?_ hy ab;simp[execOp,ak,hv,asBool])
 ·exact ab.elim
theorem UR(hE:L6 E)(h:Full n w0 S0 s a w ν S)(ho:MV n o=true) {t:Nat} {x:Operand} (ak:o.op= .makeInterface t x)(ab:Ml E (LM E F s o) (fun l=>K (s.fin o.dst l))):o.wp E.P a w (fun a' w'=> ∃s',K s'∧Rel n w0 S0 s' a' w') Q:=by
 simp only[LM,ak]at ab;have hx:=h.ev (L5 ho (x:=x) (by simp[ak,Op.operands]));split at ab;(·rename_i hc;have hc:=hE.YK t hc;unfold aR9 at hc;refine h.val ho (p:=.Sl t [s.ev x]) (v:=.iface t (a.eval x)) ?_ (by simp only[ep,LO];exact⟨_,rfl,_,[],rfl,hx,rfl⟩) ab;cases hu:E.P.underlying t with|none=>rw[hu]at hc;cases hc|some d=>rw[hu]at hc;(have hi:(Instr.makeInterface t (a.eval x)).run E.P w= .ok (.iface t (a.eval x)) w:=by unfold Instr.makeInterface;simp only[Sem.run_bind,run_underlying hu,Result.andThen_ok];cases d<;>first|(cases hc;done)|rfl);simp only[execOp,ak,Sem.run_bind,hi,Result.andThen_ok,Sem.run_pure])
 ·exact ab.elim
theorem XR(hE:L6 E)(h:Full n w0 S0 s a w ν S)(ho:MV n o=true) {x:Operand} {xt u:Nat} {ok:Bool} (ak:o.op= .typeAssert x xt u ok)(ab:Ml E (LM E F s o) (fun l=>K (s.fin o.dst l))):o.wp E.P a w (fun a' w'=> ∃s',K s'∧Rel n w0 S0 s' a' w') Q:=by
 simp only[LM,ak]at ab;have hx:=h.ev (L5 ho (x:=x) (by simp[ak,Op.operands]));split at ab;(·rename_i hc;have hc:=hE.YK u hc;unfold aR9 at hc;unfold YM at ab;split at ab;(·rename_i t q aY;rw[aY]at hx;simp only[ep,LO]at hx;obtain⟨v,hv,v',r,yk,hq,hr⟩:=hx;subst hr;injection yk with yk;subst yk;(have hi:Nat.beq t u=true→(Instr.typeAssert (a.eval x) xt u ok).run E.P w= .ok (if ok then .tuple #[v,.bool true]else v) w:=fun hb=>by have e:=Nat.eq_of_beq_eq_true hb;subst e;rw[hv];cases hu:E.P.underlying t with|none=>rw[hu]at hc;cases hc|some d=>rw[hu]at hc;unfold Instr.typeAssert;simp only[Sem.run_bind,run_underlying hu,Result.andThen_ok];cases d<;>first|(cases hc;done)|simp);split at ab;(·rename_i hb;refine h.val (v:=.tuple #[v,.bool true]) ho ?_ ?_ ab;(·have:=hi hb;simp only[execOp,ak,Sem.run_bind,this,Result.andThen_ok,Sem.run_pure,if_true];try rfl);·simp only[ep,LO];exact⟨[v,.bool true],rfl,v,_,rfl,hq,.bool true,[],rfl,MI,rfl⟩);(·rename_i hb;refine h.val (v:=v) ho ?_ hq ab;have:=hi hb;simp only[execOp,ak,Sem.run_bind,this,Result.andThen_ok,Sem.run_pure,Bool.false_eq_true,if_false];try rfl);·exact ab.elim);·exact ab.elim)
 ·exact ab.elim
theorem Full.ax7(h:Full n w0 S0 s a w ν S) {d:Nat} (hd:d<n)(hl:look d s.bl=none) {cs:List PV} {vs:List Value} {e:TypeId} {te:Option Nat} (Ad: ∀t,te=some t→e=t)(h1: ∀u,u∈vs→u.oneCell'=true)(hp:LO h.c cs vs):Rel n w0 S0 ⟨(d,.ref d 0)::s.sl,(d,.box cs te)::s.bl⟩ (a.put (some d) (.pointer (some ⟨w.heap.size,0,none⟩))) (w.alloc (.cells vs.toArray e)):=by
 have hD:(⟨(d,.ref d 0)::s.sl,(d,.box cs te)::s.bl⟩:St).D d:=⟨_,Mf _ _ _⟩;(have bf: ∀i,s.D i→i≠d∧(⟨(d,.ref d 0)::s.sl,(d,.box cs te)::s.bl⟩:St).D i:=by rintro i⟨c,hc⟩;(have bf:i≠d:=by rintro rfl;rw[hl]at hc;cases hc);exact⟨bf,c,by rw[L1 _ _ bf];exact hc⟩)
 have hle:Ctx.Le h.c ⟨fun i=>if i=d then .pointer (some ⟨w.heap.size,0,none⟩)else ν i,(⟨(d,.ref d 0)::s.sl,(d,.box cs te)::s.bl⟩:St).D,w.alloc (.cells vs.toArray e),⟨S,L4 w0 S0⟩⟩:=⟨fun g hg=>Below.heap_alloc w _ g (h.W.lt g hg),fun _ h=>h,fun i hi=>(bf i hi).2,fun i hi=>by simp[(bf i hi).1,Full.c]⟩
 refine(h.new (b:=.box cs te) (p:=.ref d 0) (v:=.pointer (some ⟨w.heap.size,0,none⟩)) (val:=.pointer (some ⟨w.heap.size,0,none⟩)) hd hl (NJ w _ none) (fun g hg=>h.beyond (by injection hg with hg;simp at hg;omega)) ?_ ?_).rel
 (·exact⟨fun t ht g hg=>by simp only[if_true,LZ,Option.some.injEq]at hg;subst hg;rw[←Ad t ht];exact⟨by simp[b01],_,_,_root_.Go.heap_alloc_new w _⟩,w.heap.size,vs.toArray,e,by simp,h.W.size _ (Nat.le_refl _),fun hS=>absurd (h.W.lt _ hS) (by simp),_root_.Go.heap_alloc_new w _,by simpa using h1,by simpa using MD hle hp⟩)
 ·simp only[ep];exact⟨hD,w.heap.size,by simp,rfl⟩
theorem SE {c:Ctx} : ∀(T:Ty)(cs:List PV),zeroCells T=some cs→ ∃vs,Nq T=some vs∧LO c cs vs∧ ∀u,u∈vs→u.oneCell'=true:=by
 intro T;induction T with|unit=>intro cs h;simp only[zeroCells,Option.some.injEq]at h;subst h;exact⟨[],rfl,by simp only[LO],by simp⟩|int k=>intro cs h;simp only[zeroCells,Option.some.injEq]at h;subst h;refine⟨[.int k 0],rfl,?_,by simp[Value.oneCell']⟩;simp only[LO];exact⟨_,[],rfl,MY (by cases k<;>decide),rfl⟩|bool=>intro cs h;simp only[zeroCells,Option.some.injEq]at h;subst h;exact⟨[.bool false],rfl,by simp only[LO];exact⟨_,[],rfl,MI,rfl⟩,by simp[Value.oneCell']⟩|str=>intro cs h;simp only[zeroCells,Option.some.injEq]at h;subst h;exact⟨[.string ⟨#[]⟩],rfl,by simp only[LO];exact⟨_,[],rfl,SD (by simp),rfl⟩,by simp[Value.oneCell']⟩|sl t=>intro cs h;simp only[zeroCells,Option.some.injEq]at h;subst h;exact⟨[.slice none 0 0],rfl,by simp only[LO,ep];exact⟨_,[],rfl,rfl,rfl⟩,by simp[Value.oneCell']⟩|own t=>intro cs h;simp[zeroCells]at h|Mj a b=>intro cs h;simp[zeroCells]at h|ptr t=>intro cs h;simp only[zeroCells,Option.some.injEq]at h;subst h;exact⟨[.pointer none],rfl,by simp only[LO,ep];exact⟨_,[],rfl,rfl,rfl⟩,by simp[Value.oneCell']⟩|OM f t=>intro cs h;simp[zeroCells]at h|mp a b=>intro cs h;simp only[zeroCells]at h;split at h;(·rename_i hn;simp only[Option.some.injEq]at h;subst h;exact⟨[.map none],rfl,by simp only[LO,ep,RF,Na,L3];exact⟨_,[],rfl,⟨ag1 hn,by simp,.inl ⟨rfl,trivial⟩⟩,rfl⟩,by simp[Value.oneCell']⟩);(·simp only[Option.some.injEq]at h;subst h;exact⟨[.map none],rfl,by simp only[LO,ep];exact⟨_,[],rfl,trivial,rfl⟩,by simp[Value.oneCell']⟩)|LY=>intro cs h;simp only[zeroCells,Option.some.injEq]at h;subst h;exact⟨[.nilFunc],rfl,by simp only[LO,ep];exact⟨_,[],rfl,trivial,rfl⟩,by simp[Value.oneCell']⟩|st t ih=>intro cs h;exact ih cs h|pair a b da cI=>intro cs h;simp only[zeroCells]at h;split at h;(·rename_i x y hx hy;simp only[Option.some.injEq]at h;subst h;obtain⟨va,ha,tw,Jp⟩:=da x hx;obtain⟨vb,hb,FG,Jq⟩:=cI y hy;refine⟨va++vb,by simp only[Nq,ha,hb],MJ tw FG,fun u hu=>?_⟩;rcases List.mem_append.1 hu with hu|hu;(·exact Jp u hu);·exact Jq u hu);·cases h
theorem QL {T:Ty} {z:Value} {vs:List Value} (hz:SA (some z) T=true)(hv:Nq T=some vs):z.cells.toList=vs:=by
 unfold SA at hz;rw[hv]at hz;simp only at hz;split at hz;(·split at hz;(·exact Q6 hz);·cases hz);·split at hz;(·rename_i u;have:=RQ hz;subst this;unfold ZJ at hz;split at hz<;>first|rfl|cases hz);·cases hz
theorem ax8(hE:L6 E)(h:Full n w0 S0 s a w ν S)(ho:MV n o=true) {t:Nat} (ak:o.op= .alloc t)(ab:Ml E (LM E F s o) (fun l=>K (s.fin o.dst l))):o.wp E.P a w (fun a' w'=> ∃s',K s'∧Rel n w0 S0 s' a' w') Q:=by
 simp only[LM,ak]at ab;split at ab;(·rename_i T d hT hd;split at ab;(·rename_i cs hl hz;simp only[Ml,St.fin,hd]at ab;obtain⟨vs,oQ,hp,h1⟩:=SE (c:=h.c) T cs hz;obtain⟨i,hi,_,_,oR,z,Cz,_⟩:=(hE.facts hT).info;rw[Cz]at oR;have xW:=QL oR oQ;(have hr:(execOp a.eval o).run E.P w= .ok (.value (.pointer (some ⟨w.heap.size,0,none⟩))) (w.alloc (.cells vs.toArray t)):=by simp only[execOp,ak,Instr.alloc,Sem.run_bind,zeroValue,typeInfo,Sem.run_bind,run_program,Result.andThen_ok,hi,Cz,Sem.run_pure,newVar,newRow,run_newObj];rw[←xW];rfl);refine M8 hr ⟨_,ab,?_⟩;rw[hd];exact h.ax7 (My ho d hd) hl (fun t' ht=>by cases hb:E.Wj t with|true=>(rw[hb]at ht;exact Option.some.inj ht)|false=>(rw[hb]at ht;cases ht)) h1 hp);·exact ab.elim)
 ·exact ab.elim
theorem by0(h:Full n w0 S0 s a w ν S)(ho:MV n o=true) {t:Nat} {x:Operand} (ak:o.op= .box t x)(ab:Ml E (LM E F s o) (fun l=>K (s.fin o.dst l))):o.wp E.P a w (fun a' w'=> ∃s',K s'∧Rel n w0 S0 s' a' w') Q:=by
 simp only[LM,ak]at ab;have hx:=h.ev (L5 ho (x:=x) (by simp[ak,Op.operands]));split at ab;(·rename_i d cs hd qU;split at ab;(·rename_i hl;simp only[Ml,St.fin,hd]at ab;obtain⟨hp,h1⟩:=QH hx qU;(have hr:(execOp a.eval o).run E.P w= .ok (.value (.pointer (some ⟨w.heap.size,0,none⟩))) (w.alloc (.cells (a.eval x).cells.toList.toArray t)):=by simp only[execOp,ak,Instr.box,Sem.run_bind,newVar,newRow,run_newObj,Result.andThen_ok,Sem.run_pure,Array.toArray_toList];rfl);refine M8 hr ⟨_,ab,?_⟩;rw[hd];exact h.ax7 (My ho d hd) hl (fun t' ht=>by cases ht) h1 hp);·exact ab.elim)
 ·exact ab.elim
theorem Full.US(h:Full n w0 S0 s a w ν S) {d:Nat} (hd:d<n)(hl:look d s.bl=none) {T:Ty} {te:Option Nat} {xs:List T.den} {v:Value} {w':World} (hT:Ma T=0)(hw:NN w w' none)(hs: ∃a n c,v= .slice a n c)(cR: ∀g,LZ v=some g→w.heap.size≤g)(hr:L3 (.own T) xs w' ⟨S,L4 w0 S0⟩ [v])(Ad:OK te w' v):Rel n w0 S0 ⟨(d,.LV d)::s.sl,(d,.arr T xs te)::s.bl⟩ (a.put (some d) v) w':=by
 refine(h.new (b:=.arr T xs te) (p:=.LV d) (v:=v) (val:=v) hd hl hw (fun g hg=>h.beyond (cR g hg)) ?_ ?_).rel;(·exact⟨Ad.Qn (by simp) fun _ _=>rfl,hT,by simpa using hr⟩)
 ·simp only[ep];exact⟨⟨_,Mf _ _ _⟩,by simp,hs⟩
theorem PG(s:St): ∀(l:List (Nat×Operand)),Nn s l=l.map fun p=>(p.1,s.ev p.2)|[]=>rfl|p::l=>by simp[Nn,PG s l]
theorem TV(s:St): ∀(l:List Operand),MP s l=l.map s.ev|[]=>rfl|p::l=>by simp[MP,TV s l]
theorem O2(h:Full n w0 S0 s a w ν S): ∀(l:List Operand),(∀x,x∈l→RR x=true)→LO h.c (MP s l) (l.map a.eval)|[],_=>(by simp only[MP,List.map_nil,LO])|x::l,hc=>by simp only[MP,List.map_cons,LO];exact⟨_,_,rfl,h.ev (hc x (by simp)),O2 h l (fun y hy=>hc y (by simp[hy]))⟩
end
/-! ### Literals -/
theorem ZQ: ∀(vs:List Value)(k off:Nat)(cells:Array Value),off+k+vs.length≤cells.size→((vs.zipIdx k).foldl (fun cs p=>cs.setIfInBounds (off+p.2) p.1) cells).toList=cells.toList.take (off+k)++vs++cells.toList.drop (off+k+vs.length)|[],k,off,cells,h=>(by simp)|v::vs,k,off,cells,h=>by simp only[List.length_cons]at h;simp only[List.zipIdx_cons,List.foldl_cons];rw[ZQ vs (k+1) off _ (by simp;omega)];simp only[Array.toList_setIfInBounds];(have h1:(cells.toList.set (off+k) v).take (off+(k+1))=cells.toList.take (off+k)++ [v]:=by rw[show off+(k+1)=(off+k)+1 from by omega,List.take_succ_eq_append_getElem (by simp;omega)];rw[List.take_set_of_le (by omega),List.getElem_set_self]);(have h2:(cells.toList.set (off+k) v).drop (off+(k+1)+vs.length)=cells.toList.drop (off+k+(v::vs).length):=by rw[List.drop_set_of_lt (by omega)];congr 1;simp;omega);rw[h1,h2];simp
theorem ZR {place:Nat→Option (Nat×Nat)} {i off size:Nat} {v:Value} {cells:Array Value} {rest:List (Nat×Value)} (hp:place i=some (off,size))(hs:v.cells.size=size)(hf:off+v.cells.size≤cells.size):Instr.fill place cells ((i,v)::rest)=Instr.fill place (cells.toList.take off++v.cells.toList++cells.toList.drop (off+v.cells.size)).toArray rest:=by
 simp only[Instr.fill,hp];rw[if_neg (by simp[hs];omega)];congr 1;have:=ZQ v.cells.toList 0 off cells (by simpa using hf);simp only[Nat.add_zero]at this;(have e:(v.cells.zipIdx.foldl (fun cs x=>match x with|(c,j)=>cs.setIfInBounds (off+j) c) cells)=(v.cells.toList.zipIdx.foldl (fun cs p=>cs.setIfInBounds (off+p.2) p.1) cells):=by rw[←Array.foldl_toList,Array.toList_zipIdx])
 rw[e];apply Array.toList_inj.1;rw[this];simp
theorem ZS {c:Ctx} {T:Ty} {place:Nat→Option (Nat×Nat)} (oB: ∀i,i<Qz T→place i=some (Ql T i,(Sb T i).cells)): ∀(ps:List (Nat×PV))(vs:List (Nat×Value))(cs oO:List PV)(cells:Array Value),ps.length=vs.length→(∀(k:Nat)(p:Nat×PV)(v:Nat×Value),ps[k]?=some p→vs[k]?=some v→p.1=v.1∧ep c p.2 v.2)→LO c cs cells.toList→(∀u,u∈cells.toList→u.oneCell'=true)→X4 T ps cs=some oO→ ∃out,Instr.fill place cells vs=some out∧LO c oO out.toList∧ ∀u,u∈out.toList→u.oneCell'=true|[],[],cs,oO,cells,_,_,hc,h1,h=>(by simp only[X4,Option.some.injEq]at h;subst h;exact⟨cells,rfl,hc,h1⟩)|[],_::_,_,_,_,hl,_,_,_,_=>(by cases hl)|_::_,[],_,_,_,hl,_,_,_,_=>(by cases hl)|p::ps,v::vs,cs,oO,cells,hl,hr,hc,h1,h=>by obtain⟨u3,aT⟩:=hr 0 p v rfl rfl;simp only[X4]at h;split at h;(·rename_i us Ae;obtain⟨C8,iD⟩:=QH aT Ae;split at h;(·rename_i hle dR bo;(have hlen:us.length=(Sb T p.1).cells:=by(have: ∀ {α:Type} (l:List α)(k:Nat),Wn l k=true→l.length=k:=by intro α l;induction l with|nil=>intro k hk;(cases k<;>first|rfl|cases hk)|cons x l ih=>intro k hk;cases k with|zero=>cases hk|succ k=>simp[ih k hk]);exact this _ _ hle);(have mb:us.length=v.2.cells.size:=by rw[Ni C8];simp);have cn:=Ni hc;have bN:=Nat.le_of_ble_eq_true dR;(have tB:p.1<Qz T:=by simpa[Nat.blt_eq]using bo);(have FM:cs.length=cells.size:=by rw[cn];simp);obtain⟨pi,pv⟩:=p;obtain⟨vi,vv⟩:=v;simp only at u3 tB hlen mb bN;subst u3;rw[ZR (oB pi tB) (by rw[←mb,hlen]) (by rw[←mb,←FM];exact bN)];refine ZS oB ps vs _ oO _ (by simpa using hl) (fun k p' v' tC vu=>hr (k+1) p' v' tC vu) ?_ ?_ h;(·simp only[mb];exact MJ (MJ (Nz _ hc) C8) (Ny _ hc));·intro u hu;simp only[List.mem_append]at hu;rcases hu with(hu|hu)|hu;(·exact h1 u (List.mem_of_mem_take hu));(·exact iD u hu);·exact h1 u (List.mem_of_mem_drop hu));·cases h);·cases h
end Go.Proofs.YtgpkijnphchkpaaGreat
namespace Go.Proofs.YtgpkijnphchkpaaGreat
open Go.RowKit
section
variable {E:Env} {n:Nat} {w0:World} {S0:Cx} {s:St} {a:Act} {w:World} {ν:Nat→Value} {S:Nat→Prop} {F:Np} {o:Oper} {K:St→Prop} {Q:Exit→Act→World→Prop}
theorem Vr {ty:Nat→Option Ty} : ∀(fs:List Field)(R:Ty)(off:Nat),MC ty fs R off=true→ ∀(i:Nat),i<MQ R→ ∃f,fs[i]?=some f∧f.offset=off+NU R i∧ty f.type=some (Mu R i)∧1≤(Mu R i).cells∧(Mu R i).val=true∧f.name≠ "_" |[],R,off,h,i,hi=>(by cases h)|[f],R,off,h,i,hi=>(by simp only[MC,Bool.and_eq_true,SB]at h;obtain⟨⟨⟨⟨h1,h2⟩,h3⟩,h4⟩,h5⟩:=h;(have bf: ∀x y,R≠ .pair x y:=by rintro x y rfl;cases h4);(have cn:MQ R=1:=by cases R<;>first|rfl|exact absurd rfl (bf _ _));(have Jr:i=0:=by omega);subst Jr;(have xV:NU R 0=0:=by cases R<;>first|rfl|exact absurd rfl (bf _ _));(have sr:Mu R 0=R:=by cases R<;>first|rfl|exact absurd rfl (bf _ _));split at h2;(·rename_i U hU;rw[Ty.Nc h2]at hU;exact⟨f,rfl,by rw[xV,Nat.eq_of_beq_eq_true h1];omega,by rw[sr];exact hU,by rw[sr];exact Nat.le_of_ble_eq_true h3,by rw[sr];exact h4,by simpa using h5⟩);·cases h2)|f::g::gs,R,off,h,i,hi=>by cases R with|pair x y=>simp only[MC,Bool.and_eq_true,SB]at h;obtain⟨⟨⟨⟨⟨h1,h2⟩,h3⟩,h4⟩,h5⟩,h6⟩:=h;split at h2;(·rename_i U hU;rw[Ty.Nc h2]at hU;cases i with|zero=>exact⟨f,rfl,by simp[NU,Nat.eq_of_beq_eq_true h1],hU,Nat.le_of_ble_eq_true h3,h4,by simpa using h5⟩|succ i=>obtain⟨f',e1,e2,e3⟩:=Vr (g::gs) y (off+x.cells) (by unfold MC;exact h6) i (by simp[MQ]at hi;omega);exact⟨f',by simpa using e1,by simp only[NU];omega,e3⟩);(·cases h2)|_=>simp only[MC]at h;cases h
theorem TW {ty:Nat→Option Ty} : ∀(fs:List Field)(R:Ty)(off:Nat),MC ty fs R off=true→fs.length=MQ R|[],R,off,h=>(by cases h)|[f],R,off,h=>(by simp only[MC,Bool.and_eq_true]at h;have h4:=h.1.2;cases R<;>first|rfl|cases h4)|f::g::gs,R,off,h=>by cases R with|pair x y=>simp only[MC,Bool.and_eq_true]at h;have:=TW (g::gs) y (off+x.cells) (by unfold MC;exact h.2);simp only[List.length_cons]at this⊢;simp only[MQ];omega|_=>simp only[MC]at h;cases h
theorem S2(V:Ty)(hV:V.val=true): ∀n,0<n→MQ (rowOf V n)=n|0,h=>(by cases h)|1,_=>(by cases V<;>first|rfl|cases hV)|n+2,_=>by simp only[rowOf,MQ];rw[S2 V hV (n+1) (by omega)];omega
theorem Rv(V:Ty)(hV:V.val=true): ∀n i,i<n→NU (rowOf V n) i=i*V.cells∧Mu (rowOf V n) i=V|0,i,h=>(by cases h)|1,i,h=>(by(have:i=0:=by omega);subst this;cases V<;>first|exact⟨by simp[rowOf,NU],rfl⟩|cases hV)|n+2,0,_=>(by simp[rowOf,NU,Mu])|n+2,i+1,h=>by obtain⟨h1,h2⟩:=Rv V hV (n+1) i (by omega);simp only[rowOf,NU,Mu];exact⟨by rw[h1,Nat.add_mul];omega,h2⟩
theorem SF(V:Ty): ∀n,(rowOf V n).cells=n*V.cells|0=>(by simp[rowOf,Ty.cells])|1=>(by simp[rowOf])|n+2=>by simp only[rowOf,Ty.cells];rw[SF V (n+1),Nat.add_mul (n+1) 1];omega
theorem MZ.agg(hE:L6 E) {t:Nat} {R:Ty} (h:MZ E t (.st R)):(∃fs,E.P.underlying t=some (.struct fs)∧fs.size=MQ R∧ ∀i,i<MQ R→ ∃f,fs[i]?=some f∧f.offset=NU R i∧E.ty f.type=some (Mu R i)∧1≤(Mu R i).cells∧(Mu R i).val=true∧f.name≠ "_")∨(∃m e V,E.P.underlying t=some (.array m e)∧E.ty e=some V∧R=rowOf V m∧V.val=true∧1≤V.cells∧2≤m):=by
 obtain⟨d,hd,hs⟩:=h.To;(cases d<;>simp only[Nd]at hs<;>first|cases hs|skip);(·rename_i m e;split at hs;(·rename_i V hV;simp only[Bool.and_eq_true]at hs;exact .inr ⟨_,_,V,hd,hV,Ty.Nc hs.1.1.1,hs.1.1.2,Nat.le_of_ble_eq_true hs.1.2,Nat.le_of_ble_eq_true hs.2⟩);·cases hs)
 ·rename_i fs;refine .inl ⟨fs,hd,by simpa using TW _ _ _ hs,fun i hi=>?_⟩;obtain⟨f,h1,h2,h3⟩:=Vr fs.toList R 0 hs i hi;exact⟨f,by simpa using h1,by simpa using h2,h3⟩
theorem ax9(hE:L6 E)(h:Full n w0 S0 s a w ν S)(ho:MV n o=true) {t:Nat} {parts:Array (Nat×Operand)} (ak:o.op= .build t parts)(ab:Ml E (LM E F s o) (fun l=>K (s.fin o.dst l))):o.wp E.P a w (fun a' w'=> ∃s',K s'∧Rel n w0 S0 s' a' w') Q:=by
 simp only[LM,ak]at ab;split at ab;(·rename_i FN iE;have he:=hE.emp t FN;unfold bx8 at he;split at he;(·rename_i i fs hi hu;simp only[Bool.and_eq_true]at he;obtain⟨h1,h2⟩:=he;split at h2;(·rename_i cs hz;have qU:cs= #[]:=Array.toList_inj.1 (by simpa using h2);have Js:fs= #[]:=Array.toList_inj.1 (by simpa using h1);have gD:parts= #[]:=Array.toList_inj.1 (by rw[iE]);subst qU;subst Js;subst gD;refine h.val ho (p:=.agg []) (v:=.agg #[]) ?_ (by simp only[ep,LO];exact⟨[],rfl,by simp,rfl⟩) ab;(have u4:(zeroValue t).run E.P w= .ok (.agg #[]) w:=by simp[zeroValue,typeInfo,hi,hz]);simp[execOp,ak,Instr.build,u4,run_underlying hu,Value.cells,Instr.fill]);·cases h2);·cases he)
 simp only[Wp]at ab;split at ab;(·rename_i R hT;split at ab;(·rename_i z hz;split at ab;(·rename_i cs C9;have hf:=hE.facts hT;obtain⟨vs,oQ,hp,h1⟩:=SE (c:=h.c) (.st R) z hz;obtain⟨i,hi,bt,_,oR,zv,Cz,_⟩:=hf.info;rw[Cz]at oR;have xW:=QL oR oQ;(have qV: ∀(k:Nat)(p:Nat×PV)(v:Nat×Value),(Nn s parts.toList)[k]?=some p→((parts.map fun x=>(x.1,a.eval x.2)).toList)[k]?=some v→p.1=v.1∧ep h.c p.2 v.2:=by intro k p v hk hv;rw[PG,List.getElem?_map]at hk;simp only[Array.toList_map,List.getElem?_map]at hv;cases hx:parts.toList[k]? with|none=>rw[hx]at hk;cases hk|some x=>rw[hx]at hk hv;simp only[Option.map_some,Option.some.injEq]at hk hv;subst hk;subst hv;refine⟨rfl,h.ev (L5 ho ?_)⟩;have hm:x∈parts:=Array.mem_toList_iff.1 (List.mem_of_getElem? hx);simp only[ak,Op.operands,List.mem_toArray,List.mem_map];exact⟨x,Array.mem_toList_iff.2 hm,rfl⟩);(have hlen:(Nn s parts.toList).length=((parts.map fun x=>(x.1,a.eval x.2)).toList).length:=by simp[PG]);(have main: ∀place:Nat→Option (Nat×Nat),(∀i,i<Qz (.st R)→place i=some (Ql (.st R) i,(Sb (.st R) i).cells))→ ∃out,Instr.fill place zv.cells (parts.map fun x=>(x.1,a.eval x.2)).toList=some out∧ep h.c (.agg cs) (.agg out):=by intro place oB;obtain⟨out,h2,h3,h4⟩:=ZS oB _ _ z cs zv.cells hlen qV (by rw[xW];exact hp) (by rw[xW];exact h1) C9;refine⟨out,h2,?_⟩;simp only[ep];exact⟨out.toList,by simp,h4,h3⟩);rcases hf.agg hE with⟨fs,hu,eQ,Da⟩|⟨m,e,V,hu,he,rfl,hV,FO,hm⟩;(·(have yn: ∀(l:List Field),(∀f,f∈l→ ∃j,E.P.info? f.type=some j)→(l.mapM fun f=>do pure (f.offset,←sizeOf f.type):Sem (List (Nat×Nat))).run E.P w= .ok (l.map fun f=>(f.offset,E.P.cellsOf f.type)) w:=by intro l;induction l with|nil=>intro _;simp|cons f l ih=>intro hl;obtain⟨j,hj⟩:=hl f (by simp);have:=ih (fun g hg=>hl g (by simp[hg]));(have step:(do pure (f.offset,←sizeOf f.type):Sem (Nat×Nat)).run E.P w= .ok (f.offset,E.P.cellsOf f.type) w:=by simp[sizeOf,typeInfo,hj,Program.cellsOf]);rw[List.mapM_cons,Sem.run_bind,step];simp only[Result.andThen_ok];rw[Sem.run_bind,this];simp only[Result.andThen_ok,Sem.run_pure,List.map_cons]);(have Db: ∀f,f∈fs.toList→ ∃j,E.P.info? f.type=some j:=by intro f Af;obtain⟨k,hk⟩:=List.getElem?_of_mem Af;(have fH:k<MQ R:=by rw[←eQ];have:=(List.getElem?_eq_some_iff.1 hk).1;simpa using this);obtain⟨f',iD,_,Ag,_⟩:=Da k fH;(have:f=f':=by(have:fs.toList[k]?=some f':=by simpa using iD);rw[hk]at this;injection this);subst this;obtain⟨j,hj,_⟩:=(hE.facts Ag).info;exact⟨j,hj⟩);have Dc:=yn fs.toList Db;obtain⟨out,xV,aT⟩:=main (fun i=>(fs.map fun f=>(f.offset,E.P.cellsOf f.type))[i]?) (fun i jR=>by obtain⟨f,iD,qP,Ag,_⟩:=Da i jR;obtain⟨j,hj,FP,_⟩:=(hE.facts Ag).info;simp only[Array.getElem?_map,iD,Option.map_some,Ql,Sb,Program.cellsOf,hj,Option.getD_some,FP,qP]);refine h.val ho (v:=.agg out) ?_ aT ab;(have tD:(fs.mapM fun f=>do pure (f.offset,←sizeOf f.type):Sem (Array (Nat×Nat))).run E.P w= .ok (fs.map fun f=>(f.offset,E.P.cellsOf f.type)) w:=by rw[Array.mapM_eq_mapM_toList,Sem.run_map,Dc];simp only[Result.andThen_ok];congr 1;exact Array.toList_inj.1 (by simp));simp only[execOp,ak,Instr.build,Sem.run_bind,zeroValue,typeInfo,run_program,Result.andThen_ok,hi,Cz,Sem.run_pure,run_underlying hu,tD,xV]);·obtain⟨j,hj,FP,_⟩:=(hE.facts he).info;obtain⟨out,xV,aT⟩:=main (fun i=>some (i*V.cells,V.cells)) (fun i jR=>by simp only[Qz]at jR;rw[S2 V hV m (by omega)]at jR;obtain⟨e1,e2⟩:=Rv V hV m i jR;simp only[Ql,Sb,e1,e2]);refine h.val ho (v:=.agg out) ?_ aT ab;simp only[execOp,ak,Instr.build,Sem.run_bind,zeroValue,typeInfo,run_program,Result.andThen_ok,hi,Cz,Sem.run_pure,run_underlying hu,sizeOf,hj,FP,xV]);·exact ab.elim);·exact ab.elim)
 ·exact ab.elim
end
end Go.Proofs.YtgpkijnphchkpaaGreat
namespace Go.Proofs.YtgpkijnphchkpaaGreat
open Go.RowKit
theorem WB {F F':Np} {bl bl':List (Nat×L9)} : ∀(T:Ty)(ps:List PV)(r:T.den×List PV),PV.N2 ps=false→PV.M1 ps=[]→pk F bl T ps=some r→pk F' bl' T ps=some r∧PV.N2 r.2=false∧PV.M1 r.2=[]:=by
 (have cons: ∀(p:PV)(ps:List PV),PV.N2 (p::ps)=false→PV.M1 (p::ps)=[]→(PV.refs p=false∧PV.Qb p=[])∧PV.N2 ps=false∧PV.M1 ps=[]:=by intro p ps h1 h2;simp only[PV.N2,Bool.or_eq_false_iff]at h1;simp only[PV.M1,List.append_eq_nil_iff]at h2;exact⟨⟨h1.1,h2.1⟩,h1.2,h2.2⟩)
 intro T;induction T with|unit=>intro ps r h1 h2 h;simp only[pk,Option.some.injEq]at h⊢;subst h;exact⟨rfl,h1,h2⟩|pair a b da cI=>intro ps r h1 h2 h;simp only[pk]at h⊢;split at h;(·rename_i x r1 hx;obtain⟨e1,h3,h4⟩:=da ps _ h1 h2 hx;split at h;(·rename_i y r2 hy;obtain⟨e2,h5,h6⟩:=cI r1 _ h3 h4 hy;simp only[Option.some.injEq]at h;subst h;simp only[e1,e2];exact⟨trivial,h5,h6⟩);·cases h);(·cases h)|st t ih=>intro ps r h1 h2 h;simp only[pk]at h⊢;exact ih ps r h1 h2 h|Mj a b=>intro ps r h1 h2 h;simp only[pk]at h;cases h|int k=>intro ps r h1 h2 h;(cases ps with|nil=>simp only[pk]at h;cases h|cons p ps=>simp only[pk]at h⊢;obtain⟨x,r'⟩:=r;obtain⟨_,h3,h4⟩:=cons p ps h1 h2;obtain⟨_,rfl⟩:=Md h;exact⟨h,h3,h4⟩)|bool=>intro ps r h1 h2 h;(cases ps with|nil=>simp only[pk]at h;cases h|cons p ps=>simp only[pk]at h⊢;obtain⟨x,r'⟩:=r;obtain⟨_,h3,h4⟩:=cons p ps h1 h2;obtain⟨_,rfl⟩:=Md h;exact⟨h,h3,h4⟩)|str=>intro ps r h1 h2 h;(cases ps with|nil=>simp only[pk]at h;cases h|cons p ps=>simp only[pk]at h⊢;obtain⟨x,r'⟩:=r;obtain⟨_,h3,h4⟩:=cons p ps h1 h2;obtain⟨_,rfl⟩:=Md h;exact⟨h,h3,h4⟩)|sl t ih=>intro ps r h1 h2 h;(cases ps with|nil=>simp only[pk]at h;cases h|cons p ps=>simp only[pk]at h⊢;obtain⟨x,r'⟩:=r;obtain⟨⟨h5,h6⟩,h3,h4⟩:=cons p ps h1 h2;obtain⟨hx,rfl⟩:=Md h;refine⟨?_,h3,h4⟩;cases p<;>first|(simp[PV.Qb]at h6;done)|exact h)|own t ih=>intro ps r h1 h2 h;(cases ps with|nil=>simp only[pk]at h;cases h|cons p ps=>simp only[pk]at h⊢;obtain⟨x,r'⟩:=r;obtain⟨⟨h5,h6⟩,h3,h4⟩:=cons p ps h1 h2;obtain⟨hx,rfl⟩:=Md h;refine⟨?_,h3,h4⟩;cases p<;>first|(simp[PV.Qb]at h6;done)|exact h)|mp a b=>intro ps r h1 h2 h;(cases ps with|nil=>simp only[pk]at h;cases h|cons p ps=>simp only[pk]at h⊢;obtain⟨x,r'⟩:=r;obtain⟨⟨h5,h6⟩,h3,h4⟩:=cons p ps h1 h2;obtain⟨hx,rfl⟩:=Md h;refine⟨?_,h3,h4⟩;cases p<;>first|(simp[PV.Qb]at h6;done)|exact h)|LY=>intro ps r h1 h2 h;(cases ps with|nil=>simp only[pk]at h;cases h|cons p ps=>simp only[pk]at h⊢;obtain⟨x,r'⟩:=r;obtain⟨_,h3,h4⟩:=cons p ps h1 h2;obtain⟨_,rfl⟩:=Md h;exact⟨h,h3,h4⟩)|ptr t ih=>intro ps r h1 h2 h;(cases ps with|nil=>simp only[pk]at h;cases h|cons p ps=>simp only[pk]at h⊢;obtain⟨x,r'⟩:=r;obtain⟨⟨h5,h6⟩,h3,h4⟩:=cons p ps h1 h2;cases p with|ref i off=>simp[PV.refs]at h5|iv U y=>obtain⟨_,rfl⟩:=Md h;exact⟨h,h3,h4⟩|NF U y off=>(cases off with|zero=>obtain⟨_,rfl⟩:=Md h;exact⟨h,h3,h4⟩|succ k=>cases h)|_=>cases h)|OM f t ih=>intro ps r h1 h2 h;cases ps with|nil=>simp only[pk]at h;cases h|cons p ps=>simp only[pk]at h⊢;obtain⟨x,r'⟩:=r;obtain⟨⟨h5,h6⟩,h3,h4⟩:=cons p ps h1 h2;cases p with|iv U y=>obtain⟨_,rfl⟩:=Md h;exact⟨h,h3,h4⟩|fn g bD=>(cases hb:Nat.beq f g with|false=>simp[hb]at h|true=>simp only[hb,cond_true]at h⊢;obtain⟨hx,rfl⟩:=Md h;obtain⟨e1,_⟩:=ih bD _ (by simpa[PV.refs]using h5) (by simpa[PV.Qb]using h6) (NA hx);exact⟨by rw[e1];rfl,h3,h4⟩)|_=>cases h
theorem ZT {F F':Np} {bl bl':List (Nat×L9)} {T:Ty} {p:PV} {x:T.den} (h1:PV.refs p=false)(h2:PV.Qb p=[])(h:exp F bl T p=some x):exp F' bl' T p=some x:=by
 (have jj:PV.N2 [p]=false:=by simp[PV.N2,h1]);(have gE:PV.M1 [p]=[]:=by simp[PV.M1,h2]);cases T with|st t=>(cases p with|iv U y=>exact h|agg cs=>simp only[exp]at h⊢;rw[(WB (F':=F') (bl':=bl') t cs _ (by simpa[PV.refs]using h1) (by simpa[PV.Qb]using h2) (NA h)).1];rfl|_=>simp only[exp]at h;cases h)|unit=>simp only[exp]at h;cases h|pair a b=>simp only[exp]at h;cases h|Mj a b=>simp only[exp]at h;cases h|_=>simp only[exp]at h⊢;rw[(WB (F':=F') (bl':=bl') _ _ _ jj gE (NA h)).1];rfl
theorem Nj {id:Nat} {b:L9} : ∀ {bl:List (Nat×L9)},look id bl=some b→LS id (keys bl)=true|[],h=>(by cases h)|p::r,h=>by simp only[look]at h;simp only[keys,List.map_cons,LS];cases hb:Nat.beq id p.1 with|true=>rfl|false=>simp only[hb,cond_false]at h⊢;exact Nj h
theorem ZU {T:Ty} {c:PV} {x:T.den} (h:Sn T c=some x):c= .iv T x:=by
 (cases c<;>simp only[Sn]at h<;>first|cases h|skip);rename_i U y;obtain⟨e,hx⟩:=Ty.Mo h;subst e;simp only at hx;rw[hx]
theorem WC {T:Ty} : ∀ {cs:List PV} {xs:List T.den},RK T cs=some xs→cs=xs.map (PV.iv T)|[],xs,h=>(by simp only[RK,Option.some.injEq]at h;subst h;rfl)|c::r,xs,h=>by simp only[RK]at h;split at h;(·rename_i x ys hx fF;simp only[Option.some.injEq]at h;subst h;rw[ZU hx,WC fF];rfl);·cases h
theorem UT {T:Ty} (h:ax0 T=true)(c:PV):join T [c]=c∧T.cells=1∧T.val=true:=by cases T<;>first|(cases h;done)|exact⟨rfl,rfl,rfl⟩
theorem al5 {T:Ty} {cs:List PV} {base m:Nat} {xs:List T.den} (h:RK T ((cs.drop base).take m)=some xs) {k:Nat} {x:T.den} (hx:xs[k]?=some x):(cs.drop (base+k)).take 1=[.iv T x]∧k<m∧base+k<cs.length:=by
 have hm:=WC h;(have hk:((cs.drop base).take m)[k]?=some (.iv T x):=by rw[hm,List.getElem?_map,hx];rfl);(have Ih:k<m:=by rcases Nat.lt_or_ge k m with h'|h';(·exact h');·rw[List.getElem?_eq_none (by rw[List.length_take];omega)]at hk;cases hk)
 rw[List.getElem?_take,if_pos Ih,List.getElem?_drop]at hk;obtain⟨hl,e⟩:=List.getElem?_eq_some_iff.1 hk;refine⟨?_,Ih,hl⟩;rw[List.drop_eq_getElem_cons hl,e];rfl
section
variable {E:Env} {n:Nat} {w0:World} {S0:Cx} {s:St} {a:Act} {w:World} {ν:Nat→Value} {S:Nat→Prop} {F:Np} {o:Oper} {K:St→Prop} {Q:Exit→Act→World→Prop}
theorem Full.ay0(h:Full n w0 S0 s a w ν S) {T:Ty} {p:PV} {x:T.den} {v:Value} (ho:Ma T=0)(h1:PV.refs p=false)(h2:PV.Qb p=[])(hx:exp F s.bl T p=some x)(hp:ep h.c p v):Na T x w ⟨S,L4 w0 S0⟩ v:=by
 have er:=ZT (F':=⟨keys s.bl,true⟩) (bl':=s.bl) h1 h2 hx;refine NW (s:=s) (c:=h.c) (M':=⟨S,L4 w0 S0⟩) ⟨rfl,h.W.MS,fun _ h=>h,fun id hF hD g hg=>?_⟩ (.inl ho) er hp
 obtain⟨b,hb⟩:=hD;rw[Nj hb]at hF;cases hF
theorem ag2(P:Program)(t:TypeId)(p:Addr)(w:World):(Instr.loadAt t (.pointer (some p))).run P w=(loadVar t p).run P w:=by simp[Instr.loadAt,Instr.sureAddr]
theorem Nv.part {w:World} {g o:Nat} {cs:List Value} (h:Nv w g o cs)(off k:Nat):Nv w g (o+off) ((cs.drop off).take k):=by
 intro j v hj;(have FQ:j<k:=by rcases Nat.lt_or_ge j k with h'|h';(·exact h');·rw[List.getElem?_eq_none (by rw[List.length_take];omega)]at hj;cases hj);rw[List.getElem?_take,if_pos FQ,List.getElem?_drop]at hj
 rw[Nat.add_assoc];exact h _ v hj
theorem S3 {w:World} {g:Nat} {vs:Array Value} {e:TypeId} (h:w.heap[g]?=some (.cells vs e (0,0))):Nv w g 0 vs.toList:=by
 intro j v hj;rw[cell_of_row w g _ vs e (0,0) h,Nat.zero_add];simpa using hj
theorem aS3(hE:L6 E)(h:Full n w0 S0 s a w ν S)(ho:MV n o=true) {t:Nat} {x:Operand} (ak:o.op= .load t x)(ab:Ml E (LM E F s o) (fun l=>K (s.fin o.dst l))):o.wp E.P a w (fun a' w'=> ∃s',K s'∧Rel n w0 S0 s' a' w') Q:=by
 simp only[LM,ak,Rr]at ab;have hx:=h.ev (L5 ho (x:=x) (by simp[ak,Op.operands]));(have aJ: ∀(p:Addr)(v:Value),a.eval x= .pointer (some p)→(loadVar t p).run E.P w= .ok v w→(execOp a.eval o).run E.P w= .ok (.value v) w:=by intro p v he hl;simp only[execOp,ak,he,Sem.run_bind,ag2,hl,Result.andThen_ok,Sem.run_pure])
 split at ab;(·rename_i T hT;have hf:=hE.facts hT;split at ab;(·rename_i id off aY;split at ab;(·rename_i cs te hl;obtain⟨hl,_⟩:=MW hl;split at ab;(·rename_i bN;have bN:=Nat.le_of_ble_eq_true bN;rw[aY]at hx;simp only[ep]at hx;obtain⟨hd,g,hg,hv⟩:=hx;obtain⟨dD,g',vs,e,b9,hB,iA,hh,h1,aT⟩:=h.W.MS _ _ hl;simp only[Full.c]at hg;simp only at b9;rw[hg]at b9;(obtain rfl:g=g':=by injection b9 with e1;injection e1 with e1;injection e1);have cn:=Ni aT;have hc:=(S3 hh).part off T.cells;rw[Nat.zero_add]at hc;refine h.val ho (aJ _ _ hv (On hf (by rw[List.length_take,List.length_drop];omega) hc)) ?_ ab;refine P6 (by rw[List.length_take,List.length_drop];omega) hf.val (fun u hu=>h1 u (List.mem_of_mem_drop (List.mem_of_mem_take hu))) (Nz _ (Ny _ aT)));·exact ab.elim);·exact ab.elim);(·rename_i U y off aY;split at ab;(·rename_i bN;have bN:=Nat.le_of_ble_eq_true bN;rw[aY]at hx;simp only[ep]at hx;obtain⟨iy,g,ob,cs,hv,hS,cn,hc,hr⟩:=hx;have db:=hc.part off T.cells;refine h.val ho (aJ _ _ hv (On hf (by rw[List.length_take,List.length_drop];omega) db)) ?_ ab;exact Wx iy hf.val bN hr);·exact ab.elim);(·rename_i id sz i off aY;split at ab;(·rename_i U xs te hl;obtain⟨hl,_⟩:=MW hl;split at ab;(·rename_i bN bt;have bN:=Nat.le_of_ble_eq_true bN;have bt:=Nat.eq_of_beq_eq_true bt;obtain⟨y,hy,ab⟩:=ab;rw[aY]at hx;simp only[ep]at hx;obtain⟨hd,g,ob,m,cap,br,AZ,hv⟩:=hx;obtain⟨dD,iy,u,hu,vw,bx⟩:=h.W.MS _ _ hl;simp only[Full.c]at br;simp only[List.cons.injEq,and_true]at hu;rw[br]at hu;subst hu;rcases bx with⟨hn,_⟩|⟨g',o',fG,cur,e,kc,hle,Ab,iA,hB,hh,gv,cc⟩;(·cases hn);·injection kc with e1 e2 e3;injection e1 with e1;injection e1 with e1 e4;subst e1;subst e4;subst e3;obtain⟨cs,cn,hc,hr⟩:=cc i y hy;have db:=hc.part off T.cells;rw[bt]at hv;refine h.val ho (aJ _ _ hv (On hf (by rw[List.length_take,List.length_drop];omega) db)) ?_ ab;exact Wx iy hf.val bN hr);·exact ab.elim);·exact ab.elim);(·rename_i id base U m i aY;split at ab;(·rename_i cs te hl;obtain⟨hl,_⟩:=MW hl;split at ab;(·rename_i xs qW hb;simp only[Bool.and_eq_true]at hb;obtain⟨⟨qX,tE⟩,bN⟩:=hb;have qX:=Ty.Nc qX;subst qX;have bN:=Nat.le_of_ble_eq_true bN;obtain⟨y,hy,ab⟩:=ab;rw[aY]at hx;simp only[ep]at hx;obtain⟨hd,h0,hn,g,hg,hv⟩:=hx;obtain⟨dD,g',vs,e,b9,hB,iA,hh,h1,aT⟩:=h.W.MS _ _ hl;simp only[Full.c]at hg;simp only at b9;rw[hg]at b9;(obtain rfl:g=g':=by injection b9 with e1;injection e1 with e1;injection e1);have cn:=Ni aT;obtain⟨e1,e2,e3⟩:=al5 qW hy;obtain⟨j1,j2,j3⟩:=UT tE (.iv T y);have hc:=(S3 hh).part (base+i.toNat) T.cells;rw[Nat.zero_add]at hc;refine h.val ho (aJ _ _ hv (On hf (by rw[List.length_take,List.length_drop];omega) hc)) ?_ ab;have:=P6 (T:=T) (c:=h.c) (by rw[List.length_take,List.length_drop];omega) hf.val (fun u hu=>h1 u (List.mem_of_mem_drop (List.mem_of_mem_take hu))) (Nz T.cells (Ny (base+i.toNat) aT));rw[j2,e1,j1]at this;rw[j2];exact this);·exact ab.elim);·exact ab.elim);·exact ab.elim)
 ·exact ab.elim
end
end Go.Proofs.YtgpkijnphchkpaaGreat
namespace Go.Proofs.YtgpkijnphchkpaaGreat
open Go.RowKit
section
variable {E:Env} {n:Nat} {w0:World} {S0:Cx} {s:St} {a:Act} {w:World} {ν:Nat→Value} {S:Nat→Prop} {F:Np} {o:Oper} {K:St→Prop} {Q:Exit→Act→World→Prop}
theorem WD: ∀ {α:Type} {l:List α} {k:Nat},Wn l k=true→l.length=k|_,[],0,_=>rfl|_,[],_+1,h=>(by cases h)|_,_::_,0,h=>(by cases h)|_,_::r,k+1,h=>by simp[WD (l:=r) (k:=k) h]
theorem Q8 {E:Env} {t:Nat} {T:Ty} (hf:MZ E t T) {w:World} {g off:Nat} {v:Value} {cur:Array Value} {e:TypeId} (hg:w.heap[g]?=some (.cells cur e (0,0)))(hl:v.cells.size=T.cells)(gv:off+T.cells≤cur.size)(h1: ∀u,u∈v.cells.toList→u.oneCell'=true):(Instr.storeAt t (.pointer (some ⟨g,off,none⟩)) v).run E.P w= .ok () (w.setRow g (cur.toList.take off++v.cells.toList++cur.toList.drop (off+T.cells)).toArray):=by
 have cS:=run_storeCells_at (P:=E.P) g off e v.cells.toList 0 cur w hg (by simpa[hl]using gv) h1;simp only[Nat.add_zero,Array.length_toList,hl]at cS;simp only[Instr.storeAt,Instr.sureAddr,Sem.run_bind,Sem.run_pure,Result.andThen_ok,storeVar,hf.sizeOf w,Sem.run_ite,hl,ne_eq,not_true_eq_false,if_false]
 exact cS
theorem ag3 {α:Type} (A ys B:List α)(i:Nat)(v:α)(hi:i<ys.length)(cs:List α)(h:cs=A++(ys++B)):A++ys.set i v++B=cs.take (A.length+i)++ [v]++cs.drop (A.length+i+1):=by
 subst h;(have h1:(A++(ys++B)).take (A.length+i)=A++ys.take i:=by rw[List.take_append,List.take_of_length_le (by omega),Nat.add_sub_cancel_left,List.take_append_of_le_length (by omega)])
 (have h2:(A++(ys++B)).drop (A.length+i+1)=ys.drop (i+1)++B:=by rw[List.drop_append,List.drop_of_length_le (by omega),show A.length+i+1-A.length=i+1 from by omega,List.nil_append,List.drop_append_of_le_length (by omega)])
 rw[h1,h2,List.set_eq_take_append_cons_drop,if_pos hi];simp[List.append_assoc]
theorem al6 {T:Ty} (i:Int)(y:T.den)(h0:0≤i): ∀(xs:List T.den)(j:Nat),aq5 T i y j xs=if(j:Int)≤i then(xs.set (i.toNat-j) y).map (PV.iv T)else xs.map (PV.iv T)|[],j=>(by split<;>rfl)|x::r,j=>by simp only[aq5];rw[al6 i y h0 r (j+1)];by_cases h1:i=(j:Int);(·subst h1;rw[if_pos rfl,if_pos (Int.le_refl _),if_neg (by omega)];simp);·rw[if_neg h1];by_cases h2:(j:Int)≤i;(·rw[if_pos h2,if_pos (by omega)];(have e:i.toNat-j=(i.toNat-(j+1))+1:=by omega);rw[e];simp);·rw[if_neg h2,if_neg (by omega)];rfl
theorem SG {c:Ctx} {q:PV} {v:Value} (hq:ep c q v): ∀(U:Ty)(off:Nat)(f:U.den→U.den),XP U off q=some f→ ∀(x:U.den)(cs:List Value),L3 U x c.w c.M cs→off<cs.length∧L3 U (f x) c.w c.M (cs.set off v)∧v.cells= #[v]|.bool,off,f,h,x,cs,hx=>(by simp only[XP]at h;split at h;(·rename_i y;injection h with h;subst h;simp only[ep]at hq;have hv:[v]=[Value.bool y]:=hq.2;injection hv with hv;subst hv;have hx:cs=[.bool x]:=hx;subst hx;exact⟨by simp,rfl,rfl⟩);·cases h)|.int k,off,f,h,x,cs,hx=>(by simp only[XP]at h;split at h;(·rename_i k' y;split at h;(·rename_i he;have he:=Ty.Nc he;injection he with he;subst he;injection h with h;subst h;simp only[ep]at hq;have hv:[v]=[Value.int k y]∧_:=hq.2;obtain⟨hv,hb⟩:=hv;injection hv with hv;subst hv;have hx:cs=[.int k x]∧_:=hx;obtain⟨rfl,_⟩:=hx;exact⟨by simp,⟨rfl,hb⟩,rfl⟩);·cases h);·cases h)|.str,off,f,h,x,cs,hx=>(by simp only[XP]at h;split at h;(·rename_i y;injection h with h;subst h;simp only[ep]at hq;have hv:[v]=[Value.string ⟨y.toArray⟩]∧_:=hq.2;obtain⟨hv,hb⟩:=hv;injection hv with hv;subst hv;have hx:cs=[.string ⟨x.toArray⟩]∧_:=hx;obtain⟨rfl,_⟩:=hx;exact⟨by simp,⟨rfl,hb⟩,rfl⟩);·cases h)|.st V,off,f,h,x,cs,hx=>SG hq V off f h x cs hx|.pair A B,off,f,h,x,cs,hx=>(by obtain⟨va,vb,rfl,ha,hb⟩:=hx;have jn:=MA _ _ _ _ _ ha;simp only[XP]at h;split at h;(·rename_i bo;split at h;(·rename_i g hg;injection h with h;subst h;obtain⟨h1,h2,h3⟩:=SG hq A off g hg x.1 va ha;exact⟨by rw[List.length_append];omega,⟨_,_,List.set_append_left _ _ h1,h2,hb⟩,h3⟩);·cases h);·rename_i bo;(have oA:A.cells≤off:=by rcases Nat.lt_or_ge off A.cells with h'|h';(·simp only[Nat.blt]at bo;have:=Nat.ble_eq_true_of_le (Nat.succ_le_of_lt h');rw[this]at bo;cases bo);·exact h');split at h;(·rename_i g hg;injection h with h;subst h;obtain⟨h1,h2,h3⟩:=SG hq B _ g hg x.2 vb hb;exact⟨by rw[List.length_append];omega,⟨_,_,by rw[List.set_append_right _ _ (by omega),jn],ha,h2⟩,h3⟩);·cases h)|.unit,_,_,h,_,_,_=>nomatch h|.sl _,_,_,h,_,_,_=>nomatch h|.own _,_,_,h,_,_,_=>nomatch h|.Mj _ _,_,_,h,_,_,_=>nomatch h|.ptr _,_,_,h,_,_,_=>nomatch h|.OM _ _,_,_,h,_,_,_=>nomatch h|.mp _ _,_,_,h,_,_,_=>nomatch h|.LY,_,_,h,_,_,_=>nomatch h
theorem X7 (hE : L6 E) (h : Full n w0 S0 s a w ν S) (ho : MV n o = true) {t : Nat} {x y : Operand} (ak : o.op = .store t x y) (gR : o.dst = none) (ab : Ml E (Sv E F s.bl t (s.ev x) (s.ev y)) (fun l => K (s.fin o.dst l))) : o.wp E.P a w (fun a' w' => ∃ s', K s' ∧ Rel n w0 S0 s' a' w') Q := by
  have hx := h.ev (L5 ho (x := x) (by simp [ak, Op.operands]))
  have hy := h.ev (L5 ho (x := y) (by simp [ak, Op.operands]))
  by_cases Dd : True
  · simp only [Sv] at ab
    split at ab
    · rename_i T hT
      have hf := hE.facts hT
      split at ab
      · rename_i us Ae
        obtain ⟨vy, CA⟩ := QH hy Ae
        split at ab
        · rename_i hle
          have mh := WD hle
          have mb : (a.eval y).cells.size = T.cells := by rw [← mh, Ni vy]; simp
          split at ab
          · rename_i id off aY
            split at ab
            · rename_i cs te hl
              obtain ⟨hl, _⟩ := QI hl
              split at ab
              · rename_i bN
                have bN := Nat.le_of_ble_eq_true bN
                rw [aY] at hx
                simp only [ep] at hx
                obtain ⟨hd, g, hg, hv⟩ := hx
                obtain ⟨dD, g', vs, e, b9, hB, iA, hh, h1, aT⟩ := h.W.MS _ _ hl
                simp only [Full.c] at hg
                simp only at b9 hh hB iA
                rw [hg] at b9
                obtain rfl : g = g' := by injection b9 with e1; injection e1 with e1; injection e1
                have cn := Ni aT
                have hr := Q8 hf (off := off) hh mb (by rw [← Array.length_toList, ← cn]; exact bN) CA
                have aJ : (execOp a.eval o).run E.P w = .ok .skip (w.setRow g (vs.toList.take off ++ (a.eval y).cells.toList ++ vs.toList.drop (off + T.cells)).toArray) := by
                  simp only [execOp, ak, hv, Sem.run_bind, hr, Result.andThen_ok, Sem.run_pure]
                refine QK aJ ⟨_, ab, ?_⟩
                rw [gR]
                have dS := Oo w g (vs.toList.take off ++ (a.eval y).cells.toList ++ vs.toList.drop (off + T.cells)).toArray
                have tF : LZ (ν id) = some g := by rw [hg]; rfl
                have qY : Ctx.Le h.c ⟨ν, s.D, w.setRow g (vs.toList.take off ++ (a.eval y).cells.toList ++ vs.toList.drop (off + T.cells)).toArray, ⟨S, L4 w0 S0⟩⟩ :=
                  ⟨fun b hb => setRow_other w g b _ (fun e => (h.Pe hl tF).2.1 (e ▸ hb)), fun _ h => h, fun _ h => h, fun _ _ => rfl⟩
                refine (h.Tr hl (by rw [tF]; exact dS) (b' := .box (cs.take off ++ us ++ cs.drop (off + T.cells)) te) ⟨(by exact dD.ax3 tF hh (setRow_heap w g vs _ e _ hh)), g, _, e, hg, hB, iA, setRow_heap w g vs _ e _ hh, ?_, ?_⟩).rel
                · intro u hu
                  simp only [List.mem_append] at hu
                  rcases hu with (hu | hu) | hu
                  · exact h1 u (List.mem_of_mem_take hu)
                  · exact CA u hu
                  · exact h1 u (List.mem_of_mem_drop hu)
                · exact MJ (MJ (Nz _ (MD qY aT)) (MD qY vy)) (Ny _ (MD qY aT))
              · exact ab.elim
            · exact ab.elim
          · rename_i id sz i off aY
            split at ab
            · rename_i U xs te hl
              obtain ⟨hl, _⟩ := QI hl
              split at ab
              · rename_i heq
                simp only [Bool.and_eq_true] at heq
                obtain ⟨heq, bt⟩ := heq
                have qX := Ty.Nc heq
                subst qX
                have bt := Nat.eq_of_beq_eq_true bt
                split at ab
                · rename_i z iu tG FR
                  rw [aY] at hx
                  simp only [ep] at hx
                  obtain ⟨hd, g, ob, m, cap, br, AZ, hv⟩ := hx
                  have u5 := h.W.MS _ _ hl
                  obtain ⟨dD, iy, u, hu, vw, bx⟩ := u5
                  simp only [Full.c] at br
                  simp only [List.cons.injEq, and_true] at hu
                  rw [br] at hu
                  subst hu
                  rcases bx with ⟨hn, _⟩ | ⟨g', o', fG, cur, e, kc, A0, Ab, iA, hB, hh, gv, cc⟩
                  · cases hn
                  · injection kc with e1 e2 e3
                    injection e1 with e1
                    injection e1 with e1 e4
                    subst e1; subst e4; subst e3; subst e2
                    rw [bt, Nat.add_zero] at hv
                    have iC : i * T.cells + T.cells ≤ cap * T.cells := by
                      calc i * T.cells + T.cells = (i + 1) * T.cells := by rw [Nat.add_mul]; omega
                        _ ≤ cap * T.cells := Nat.mul_le_mul_right _ (by omega)
                    have hr := Q8 hf (off := ob + i * T.cells) hh mb (by omega) CA
                    have aJ : (execOp a.eval o).run E.P w = .ok .skip (w.setRow g (cur.toList.take (ob + i * T.cells) ++ (a.eval y).cells.toList ++ cur.toList.drop (ob + i * T.cells + T.cells)).toArray) := by
                      simp only [execOp, ak, hv, Sem.run_bind, hr, Result.andThen_ok, Sem.run_pure]
                    refine QK aJ ⟨_, ab, ?_⟩
                    rw [gR]
                    have dS := Oo w g (cur.toList.take (ob + i * T.cells) ++ (a.eval y).cells.toList ++ cur.toList.drop (ob + i * T.cells + T.cells)).toArray
                    have tF : LZ (ν id) = some g := by rw [br]; rfl
                    have De := h.ay0 iy iu tG FR hy
                    have mQ : ∀ b, S b → (w.setRow g (cur.toList.take (ob + i * T.cells) ++ (a.eval y).cells.toList ++ cur.toList.drop (ob + i * T.cells + T.cells)).toArray).heap[b]? = w.heap[b]? := fun b hb => setRow_other w g b _ (fun e => iA (e ▸ hb))
                    have uZ := setRow_heap w g cur (cur.toList.take (ob + i * T.cells) ++ (a.eval y).cells.toList ++ cur.toList.drop (ob + i * T.cells + T.cells)).toArray e _ hh
                    generalize eR : (cur.toList.take (ob + i * T.cells) ++ (a.eval y).cells.toList ++ cur.toList.drop (ob + i * T.cells + T.cells)).toArray = vz at *
                    refine (h.Tr (w' := w.setRow g vz) hl (by rw [tF]; exact dS) (b' := .arr T (xs.set i z)) ⟨M9 _ _, iy, .slice (some ⟨g, ob, none⟩) xs.length cap, by simp only [br], by rw [List.length_set]; exact vw, .inr ⟨g, ob, cap, vz, e, by rw [List.length_set], by rw [List.length_set]; exact A0, Ab, iA, hB, uZ, ?_, ?_⟩⟩).rel
                    all_goals subst eR
                    · simp only [List.size_toArray, List.length_append, List.length_take, List.length_drop, Array.length_toList, mb]
                      omega
                    · intro j q hq
                      by_cases bT : i = j
                      · subst bT
                        rw [List.getElem?_set_self AZ] at hq
                        · injection hq with hq
                          subst hq
                          refine ⟨(a.eval y).cells.toList, by rw [Array.length_toList, mb], fun k u hk => ?_, LX mQ (fun _ h => h) _ _ _ iy (QG hf.val De)⟩
                          rw [cell_of_row _ _ _ _ _ _ uZ]
                          simp only [List.getElem?_toArray]
                          have fH : k < (a.eval y).cells.toList.length := (List.getElem?_eq_some_iff.1 hk).1
                          have nE : (cur.toList.take (ob + i * T.cells)).length = ob + i * T.cells := by simp only [List.length_take, Array.length_toList]; omega
                          rw [List.append_assoc, List.getElem?_append_right (by rw [nE]; omega), nE, List.getElem?_append_left (by omega)]
                          rw [← hk]
                          congr 1
                          omega
                      · rw [List.getElem?_set_ne bT] at hq
                        obtain ⟨cs, cn, hc, qZ⟩ := cc j q hq
                        refine ⟨cs, cn, fun k u hk => ?_, LX mQ (fun _ h => h) _ _ _ iy qZ⟩
                        have fH : k < cs.length := (List.getElem?_eq_some_iff.1 hk).1
                        have b7 := hc k u hk
                        rw [cell_of_row _ _ _ _ _ _ hh] at b7
                        rw [cell_of_row _ _ _ _ _ _ uZ]
                        simp only [List.getElem?_toArray]
                        have nE : (cur.toList.take (ob + i * T.cells)).length = ob + i * T.cells := by simp only [List.length_take, Array.length_toList]; omega
                        rcases Nat.lt_or_gt_of_ne bT with bo | Df
                        · have hmul : i * T.cells + T.cells ≤ j * T.cells := by
                            calc i * T.cells + T.cells = (i + 1) * T.cells := by rw [Nat.add_mul]; omega
                              _ ≤ j * T.cells := Nat.mul_le_mul_right _ bo
                          rw [List.append_assoc, List.getElem?_append_right (by rw [nE]; omega), nE, List.getElem?_append_right (by rw [Array.length_toList, mb]; omega), List.getElem?_drop, Array.length_toList, mb]
                          rw [← b7]
                          simp only [Array.getElem?_toList]
                          congr 1
                          omega
                        · have hmul : j * T.cells + T.cells ≤ i * T.cells := by
                            calc j * T.cells + T.cells = (j + 1) * T.cells := by rw [Nat.add_mul]; omega
                              _ ≤ i * T.cells := Nat.mul_le_mul_right _ Df
                          rw [List.append_assoc, List.getElem?_append_left (by rw [nE]; omega), List.getElem?_take, if_pos (by omega)]
                          simpa using b7
                · exact ab.elim
              · rename_i off _ _ bf
                split at ab
                · rename_i f bt Ii
                  have bt := Nat.eq_of_beq_eq_true bt
                  rw [aY] at hx
                  simp only [ep] at hx
                  obtain ⟨hd, g, ob, m, cap, br, AZ, hv⟩ := hx
                  have u5 := h.W.MS _ _ hl
                  obtain ⟨dD, iy, u, hu, vw, bx⟩ := u5
                  simp only [Full.c] at br
                  simp only [List.cons.injEq, and_true] at hu
                  rw [br] at hu
                  subst hu
                  rcases bx with ⟨hn, _⟩ | ⟨g', o', fG, cur, e, kc, A0, Ab, iA, hB, hh, gv, cc⟩
                  · cases hn
                  · injection kc with e1 e2 e3
                    injection e1 with e1
                    injection e1 with e1 e4
                    subst e1; subst e4; subst e3; subst e2
                    rw [bt] at hv
                    have vA : ∀ q, xs[i]? = some q → off < U.cells ∧ (a.eval y).cells = #[a.eval y] := fun q hq => by
                      obtain ⟨cs, cn, _, qZ⟩ := cc i q hq
                      obtain ⟨h1, _, h3⟩ := SG hy U off f Ii q cs qZ
                      exact ⟨by omega, h3⟩
                    obtain ⟨eJ, Ij⟩ := vA _ (List.getElem?_eq_getElem AZ)
                    have A1 : T.cells = 1 := by rw [← mb, Ij]; rfl
                    have iC : i * U.cells + U.cells ≤ cap * U.cells := by
                      calc i * U.cells + U.cells = (i + 1) * U.cells := by rw [Nat.add_mul]; omega
                        _ ≤ cap * U.cells := Nat.mul_le_mul_right _ (by omega)
                    have hr := Q8 hf (off := ob + i * U.cells + off) hh mb (by omega) CA
                    rw [A1, Ij] at hr
                    have aJ : (execOp a.eval o).run E.P w = .ok .skip (w.setRow g (cur.toList.take (ob + i * U.cells + off) ++ [a.eval y] ++ cur.toList.drop (ob + i * U.cells + off + 1)).toArray) := by
                      simp only [execOp, ak, hv, Sem.run_bind, hr, Result.andThen_ok, Sem.run_pure]
                    refine QK aJ ⟨_, ab, ?_⟩
                    rw [gR]
                    have dS := Oo w g (cur.toList.take (ob + i * U.cells + off) ++ [a.eval y] ++ cur.toList.drop (ob + i * U.cells + off + 1)).toArray
                    have tF : LZ (ν id) = some g := by rw [br]; rfl
                    have mQ : ∀ b, S b → (w.setRow g (cur.toList.take (ob + i * U.cells + off) ++ [a.eval y] ++ cur.toList.drop (ob + i * U.cells + off + 1)).toArray).heap[b]? = w.heap[b]? := fun b hb => setRow_other w g b _ (fun e => iA (e ▸ hb))
                    have uZ := setRow_heap w g cur (cur.toList.take (ob + i * U.cells + off) ++ [a.eval y] ++ cur.toList.drop (ob + i * U.cells + off + 1)).toArray e _ hh
                    have FT : (cur.toList.take (ob + i * U.cells + off) ++ [a.eval y] ++ cur.toList.drop (ob + i * U.cells + off + 1)).toArray = (cur.toList.set (ob + i * U.cells + off) (a.eval y)).toArray := by
                      rw [List.set_eq_take_append_cons_drop, if_pos (by rw [Array.length_toList]; omega)]
                      simp
                    rw [FT] at dS mQ uZ ⊢
                    generalize eR : (cur.toList.set (ob + i * U.cells + off) (a.eval y)).toArray = vz at *
                    refine (h.Tr (w' := w.setRow g vz) hl (by rw [tF]; exact dS) (b' := .arr U (xs.modify i f)) ⟨M9 _ _, iy, .slice (some ⟨g, ob, none⟩) xs.length cap, by simp only [br], by rw [List.length_modify]; exact vw, .inr ⟨g, ob, cap, vz, e, by rw [List.length_modify], by rw [List.length_modify]; exact A0, Ab, iA, hB, uZ, ?_, ?_⟩⟩).rel
                    all_goals subst eR
                    · simp only [List.size_toArray, List.length_set, Array.length_toList]
                      omega
                    · intro j q hq
                      by_cases bT : i = j
                      · subst bT
                        rw [List.getElem?_modify_eq] at hq
                        obtain ⟨q0, Jt, rfl⟩ := Option.map_eq_some_iff.1 (show (xs[i]?).map f = some q from hq)
                        obtain ⟨cs, cn, hc, qZ⟩ := cc i q0 Jt
                        obtain ⟨h1, h2, _⟩ := SG hy U off f Ii q0 cs qZ
                        refine ⟨cs.set off (a.eval y), by rw [List.length_set, cn], fun k u hk => ?_, LX mQ (fun _ h => h) _ _ _ iy h2⟩
                        rw [cell_of_row _ _ _ _ _ _ uZ]
                        simp only [List.getElem?_toArray]
                        by_cases Ik : off = k
                        · subst Ik
                          rw [List.getElem?_set_self h1] at hk
                          rw [List.getElem?_set_self (by rw [Array.length_toList]; omega)]
                          exact hk
                        · rw [List.getElem?_set_ne Ik] at hk
                          rw [List.getElem?_set_ne (by omega)]
                          have b7 := hc k u hk
                          rw [cell_of_row _ _ _ _ _ _ hh] at b7
                          simpa using b7
                      · rw [List.getElem?_modify_ne _ _ bT] at hq
                        obtain ⟨cs, cn, hc, qZ⟩ := cc j q hq
                        refine ⟨cs, cn, fun k u hk => ?_, LX mQ (fun _ h => h) _ _ _ iy qZ⟩
                        have fH : k < cs.length := (List.getElem?_eq_some_iff.1 hk).1
                        have b7 := hc k u hk
                        rw [cell_of_row _ _ _ _ _ _ hh] at b7
                        rw [cell_of_row _ _ _ _ _ _ uZ]
                        simp only [List.getElem?_toArray]
                        have bf : ob + i * U.cells + off ≠ ob + j * U.cells + k := by
                          rcases Nat.lt_or_gt_of_ne bT with bo | Df
                          · have hmul : i * U.cells + U.cells ≤ j * U.cells := by
                              calc i * U.cells + U.cells = (i + 1) * U.cells := by rw [Nat.add_mul]; omega
                                _ ≤ j * U.cells := Nat.mul_le_mul_right _ bo
                            omega
                          · have hmul : j * U.cells + U.cells ≤ i * U.cells := by
                              calc j * U.cells + U.cells = (j + 1) * U.cells := by rw [Nat.add_mul]; omega
                                _ ≤ i * U.cells := Nat.mul_le_mul_right _ Df
                            omega
                        rw [List.getElem?_set_ne bf]
                        simpa using b7
                · exact ab.elim
            · exact ab.elim
          · rename_i id base U m i aY
            split at ab
            · rename_i cs te hl
              obtain ⟨hl, _⟩ := QI hl
              split at ab
              · rename_i xs z qW hb hz
                simp only [Bool.and_eq_true] at hb
                obtain ⟨⟨qX, tE⟩, bN⟩ := hb
                have qX := Ty.Nc qX
                subst qX
                have bN := Nat.le_of_ble_eq_true bN
                obtain ⟨j1, j2, j3⟩ := UT tE (.iv T z)
                have hq := ZU hz
                rw [aY] at hx
                simp only [ep] at hx
                obtain ⟨hd, h0, hn, g, hg, hv⟩ := hx
                obtain ⟨dD, g', vs, e, b9, hB, iA, hh, h1, aT⟩ := h.W.MS _ _ hl
                simp only [Full.c] at hg
                simp only at b9 hh hB iA
                rw [hg] at b9
                obtain rfl : g = g' := by injection b9 with e1; injection e1 with e1; injection e1
                have cn := Ni aT
                have FU : us = [.iv T z] := by
                  rw [hq] at Ae
                  cases T <;> first | (cases tE; done) | (simp only [PV.cells, Ty.val, Option.some.injEq, cellsOf] at Ae; exact Ae.symm)
                have yn := WC qW
                have mc : xs.length = m := by
                  have := congrArg List.length yn
                  rw [List.length_take, List.length_drop, List.length_map] at this
                  omega
                have AZ : i.toNat < m := by omega
                have nF : cs.take base ++ aq5 T i z 0 xs ++ cs.drop (base + m) = cs.take (base + i.toNat) ++ us ++ cs.drop (base + i.toNat + T.cells) := by
                  have e0 := al6 i z h0 xs 0
                  simp only [Int.natCast_zero, Nat.sub_zero, if_pos h0] at e0
                  have FT : cs = cs.take base ++ (xs.map (PV.iv T) ++ cs.drop (base + m)) := by
                    have := yn
                    rw [← this]
                    conv => lhs; rw [← List.take_append_drop base cs]
                    congr 1
                    conv => lhs; rw [← List.take_append_drop m (cs.drop base)]
                    rw [List.drop_drop]
                  have nE : (cs.take base).length = base := by rw [List.length_take]; omega
                  have ET : (xs.map (PV.iv T)).length = m := by rw [List.length_map]; exact mc
                  rw [e0, FU, j2, List.map_set]
                  have EU := ag3 (cs.take base) (xs.map (PV.iv T)) (cs.drop (base + m)) i.toNat (.iv T z) (by omega) cs FT
                  rw [nE] at EU
                  exact EU
                rw [nF] at ab
                have hr := Q8 hf (off := base + i.toNat) hh mb (by rw [← Array.length_toList, ← cn]; omega) CA
                have aJ : (execOp a.eval o).run E.P w = .ok .skip (w.setRow g (vs.toList.take (base + i.toNat) ++ (a.eval y).cells.toList ++ vs.toList.drop (base + i.toNat + T.cells)).toArray) := by
                  simp only [execOp, ak, hv, Sem.run_bind, hr, Result.andThen_ok, Sem.run_pure]
                refine QK aJ ⟨_, ab, ?_⟩
                rw [gR]
                have dS := Oo w g (vs.toList.take (base + i.toNat) ++ (a.eval y).cells.toList ++ vs.toList.drop (base + i.toNat + T.cells)).toArray
                have tF : LZ (ν id) = some g := by rw [hg]; rfl
                have qY : Ctx.Le h.c ⟨ν, s.D, w.setRow g (vs.toList.take (base + i.toNat) ++ (a.eval y).cells.toList ++ vs.toList.drop (base + i.toNat + T.cells)).toArray, ⟨S, L4 w0 S0⟩⟩ :=
                  ⟨fun b hb => setRow_other w g b _ (fun e => (h.Pe hl tF).2.1 (e ▸ hb)), fun _ h => h, fun _ h => h, fun _ _ => rfl⟩
                refine (h.Tr hl (by rw [tF]; exact dS) (b' := .box (cs.take (base + i.toNat) ++ us ++ cs.drop (base + i.toNat + T.cells)) te) ⟨(by exact dD.ax3 tF hh (setRow_heap w g vs _ e _ hh)), g, _, e, hg, hB, iA, setRow_heap w g vs _ e _ hh, ?_, ?_⟩).rel
                · intro u hu
                  simp only [List.mem_append] at hu
                  rcases hu with (hu | hu) | hu
                  · exact h1 u (List.mem_of_mem_take hu)
                  · exact CA u hu
                  · exact h1 u (List.mem_of_mem_drop hu)
                · exact MJ (MJ (Nz _ (MD qY aT)) (MD qY vy)) (Ny _ (MD qY aT))
              · exact ab.elim
            · exact ab.elim
          · exact ab.elim
        · exact ab.elim
      · exact ab.elim
    · exact ab.elim
  · exact absurd trivial Dd
theorem MZ.field {E:Env} (hE:L6 E) {t:Nat} {T:Ty} (hf:MZ E t T)(hs:E.str t=true) {i:Nat} (hi:i<Qz T): ∃fs f,E.P.underlying t=some (.struct fs)∧fs[i]?=some f∧f.offset=Ql T i∧MZ E f.type (Sb T i)∧1≤(Sb T i).cells:=by
 (cases T<;>first|(simp[Qz]at hi;done)|skip);rename_i R;rcases hf.agg hE with⟨fs,hu,eQ,Da⟩|⟨m,e,V,hu,he,rfl,hV,FO,hm⟩;(·obtain⟨f,h1,h2,h3,h4,h5,h6⟩:=Da i hi;exact⟨fs,f,hu,h1,h2,hE.facts h3,h4⟩)
 ·have:=hf.str _ _ rfl hu;simp only at this;rw[hs]at this;cases this
theorem MZ.array {E:Env} (hE:L6 E) {t:Nat} {R:Ty} (hf:MZ E t (.st R))(hs:E.str t=false): ∃m e,E.P.underlying t=some (.array m e)∧MZ E e (Mu R 0)∧MQ R=m∧ ∀i,i<m→NU R i=i*(Mu R 0).cells:=by
 rcases hf.agg hE with⟨fs,hu,eQ,Da⟩|⟨m,e,V,hu,he,rfl,hV,FO,hm⟩;(·have:=hf.str _ _ rfl hu;simp only at this;rw[hs]at this;cases this);·have h0:=(Rv V hV m 0 (by omega)).2;refine⟨m,e,hu,by rw[h0];exact hE.facts he,S2 V hV m (by omega),fun i hi=>?_⟩;rw[h0];exact(Rv V hV m i hi).1
theorem YU(hE:L6 E)(h:Full n w0 S0 s a w ν S)(ho:MV n o=true) {t f:Nat} {x:Operand} (ak:o.op= .fieldAddr t x f)(ab:Ml E (LM E F s o) (fun l=>K (s.fin o.dst l))):o.wp E.P a w (fun a' w'=> ∃s',K s'∧Rel n w0 S0 s' a' w') Q:=by
 simp only[LM,ak]at ab;have hx:=h.ev (L5 ho (x:=x) (by simp[ak,Op.operands]));split at ab;(·rename_i T hT;split at ab;(·rename_i hb;simp only[Bool.and_eq_true,Nat.blt_eq]at hb;obtain⟨fs,fd,hu,A2,eJ,vB,qQ⟩:=(hE.facts hT).field hE hb.2 hb.1;(have aJ: ∀(g ob:Nat),a.eval x= .pointer (some ⟨g,ob,none⟩)→(execOp a.eval o).run E.P w= .ok (.value (.pointer (some ⟨g,ob+Ql T f,none⟩))) w:=by intro g ob he;have bt:=vB.sizeOf w;simp only[execOp,ak,he,Instr.fieldAt,Sem.run_bind,run_underlying hu,Result.andThen_ok,A2,Instr.sureAddr,Sem.run_pure,fieldPlace,bt,Sem.run_ite];rw[if_neg (by omega)];simp only[Result.andThen_ok,eJ,NX,Sem.run_pure]);split at ab;(·rename_i id off aY;rw[aY]at hx;simp only[ep]at hx;obtain⟨hd,g,hg,hv⟩:=hx;refine h.val ho (aJ _ _ hv) ?_ ab;simp only[ep];exact⟨hd,g,hg,rfl⟩);(·rename_i U y off aY;rw[aY]at hx;simp only[ep]at hx;obtain⟨iy,g,ob,cs,hv,r⟩:=hx;refine h.val ho (aJ _ _ hv) ?_ ab;simp only[ep];exact⟨iy,g,ob,cs,by rw[Nat.add_assoc],r⟩);(·rename_i id sz i off aY;rw[aY]at hx;simp only[ep]at hx;obtain⟨hd,g,ob,m,cap,br,AZ,hv⟩:=hx;refine h.val ho (aJ _ _ hv) ?_ ab;simp only[ep];exact⟨hd,g,ob,m,cap,br,AZ,by rw[Nat.add_assoc]⟩);·exact ab.elim);·exact ab.elim)
 ·exact ab.elim
theorem P7 {E:Env} {t:Nat} {T:Ty} (hf:MZ E t T) {w:World} {cs:Array Value} {off:Nat} (hl:off+T.cells≤cs.size):(Go.part t cs off).run E.P w= .ok (valOf T ((cs.toList.drop off).take T.cells)) w:=by
 unfold Go.part;simp only[Sem.run_bind,hf.isAgg w,Result.andThen_ok];have hT:=hf.val;cases T with|st r=>simp only[ax5,if_true,Sem.run_bind,hf.sizeOf w,Result.andThen_ok,Sem.run_pure,valOf];congr 2;apply Array.toList_inj.1;simp[Array.toList_extract]|unit=>cases hT|pair a b=>cases hT|Mj a b=>cases hT|_=>simp only[Ty.cells]at hl;simp only[ax5,Bool.false_eq_true,if_false,Ty.cells,valOf];rw[Array.getElem?_eq_getElem (by omega)];rw[List.drop_eq_getElem_cons (by simpa using(by omega:off<cs.size))];simp
theorem TX {c:Ctx} {p:PV} {v:Value} {cs:List PV} (h:ep c p v)(hc:Qy p=some cs):LO c cs v.cells.toList∧(∀u,u∈v.cells.toList→u.oneCell'=true)∧ ∃us,v= .agg us:=by
 cases p with|iv T x=>(cases T with|st R=>simp only[Qy]at hc;(have db:(PV.iv (.st R) x).cells=some cs:=by simp only[PV.cells,Ty.val];exact hc);obtain⟨h1,h2⟩:=QH h db;simp only[ep]at h;obtain⟨_,vs,hv,_⟩:=h;exact⟨h1,h2,_,hv⟩|_=>simp only[Qy]at hc;cases hc)|agg ps=>have db:(PV.agg ps).cells=some cs:=hc;obtain⟨h1,h2⟩:=QH h db;simp only[ep]at h;obtain⟨vs,hv,_⟩:=h;exact⟨h1,h2,_,hv⟩|_=>simp only[Qy]at hc;cases hc
theorem ay1(hE:L6 E)(h:Full n w0 S0 s a w ν S)(ho:MV n o=true) {t f:Nat} {x:Operand} (ak:o.op= .field t x f)(ab:Ml E (LM E F s o) (fun l=>K (s.fin o.dst l))):o.wp E.P a w (fun a' w'=> ∃s',K s'∧Rel n w0 S0 s' a' w') Q:=by
 simp only[LM,ak]at ab;have hx:=h.ev (L5 ho (x:=x) (by simp[ak,Op.operands]));split at ab;(·rename_i T cs hT qU;split at ab;(·rename_i bN hb;simp only[Bool.and_eq_true,Nat.blt_eq]at hb;have bN:=Nat.le_of_ble_eq_true bN;obtain⟨fs,fd,hu,A2,eJ,vB,qQ⟩:=(hE.facts hT).field hE hb.2 hb.1;obtain⟨hp,h1,us,hv⟩:=TX hx qU;rw[hv]at hp h1;simp only[Value.cells]at hp h1;rw[Ni hp]at bN;have aJ:=P7 (E:=E) vB (w:=w) (cs:=us) (off:=Ql T f) (by simpa using bN);refine h.val ho ?_ (P6 (by rw[List.length_take,List.length_drop];omega) vB.val (fun u hu=>h1 u (List.mem_of_mem_drop (List.mem_of_mem_take hu))) (Nz _ (Ny _ hp))) ab;simp only[execOp,ak,hv,Instr.field,Sem.run_bind,run_underlying hu,Result.andThen_ok,A2,asAgg,Sem.run_pure,eJ,aJ]);·exact ab.elim)
 ·exact ab.elim
theorem YV(hE:L6 E)(h:Full n w0 S0 s a w ν S)(ho:MV n o=true) {t:Nat} {x i:Operand} (ak:o.op= .indexAddr t x i)(ab:Ml E (LM E F s o) (fun l=>K (s.fin o.dst l))):o.wp E.P a w (fun a' w'=> ∃s',K s'∧Rel n w0 S0 s' a' w') Q:=by
 simp only[LM,ak]at ab;have hx:=h.ev (L5 ho (x:=x) (by simp[ak,Op.operands]));have hi:=h.ev (L5 ho (x:=i) (by simp[ak,Op.operands]));split at ab;(·rename_i k m vC;rw[vC]at hi;obtain⟨xX,_⟩:=ME hi;(have cP: ∀ {U:Ty} (hT:E.ty t=some (.sl U))(g ob len cap:Nat),a.eval x= .slice (some ⟨g,ob,none⟩) len cap→0≤m→m<len→(execOp a.eval o).run E.P w= .ok (.value (.pointer (some ⟨g,ob+m.toNat*U.cells,none⟩))) w:=by intro U hT g ob len cap he h0 h1;obtain⟨e,hu,Il,ff,_⟩:=(hE.facts hT).elem hE;have bt:=ff.sizeOf w;simp only[execOp,ak,he,xX,Instr.indexAt,asIntOf,Sem.run_bind,Sem.run_pure,Result.andThen_ok,run_underlying hu,Sem.run_ite];rw[if_pos ⟨h0,h1⟩];simp only[Sem.run_bind,bt,Result.andThen_ok,Sem.run_pure,NX]);(have tG: ∀ {R:Ty} (hT:E.ty t=some (.st R))(hs:E.str t=false)(g ob:Nat),a.eval x= .pointer (some ⟨g,ob,none⟩)→0≤m→m<MQ R→(execOp a.eval o).run E.P w= .ok (.value (.pointer (some ⟨g,ob+m.toNat*(Mu R 0).cells,none⟩))) w:=by intro R hT hs g ob he h0 h1;obtain⟨l,e,hu,ff,cn,_⟩:=(hE.facts hT).array hE hs;have bt:=ff.sizeOf w;simp only[execOp,ak,he,xX,Instr.indexAt,asIntOf,Sem.run_bind,Sem.run_pure,Result.andThen_ok,run_underlying hu,Instr.sureAddr,Sem.run_ite];rw[if_pos ⟨h0,by rw[←cn];exact h1⟩];simp only[Sem.run_bind,bt,Result.andThen_ok,Sem.run_pure,NX]);simp only[Rj]at ab;split at ab;(·rename_i T xs aY;rw[aY]at hx;split at ab;(·rename_i U hT;split at ab;(·rename_i heq;have qX:=Ty.Nc heq;subst qX;obtain⟨h0,y,hy,ab⟩:=ab;simp only[ep]at hx;obtain⟨gu,aa,cap,hv,hle,gQ,bx⟩:=hx;injection hv with hv;have bo:m.toNat<xs.length:=(List.getElem?_eq_some_iff.1 hy).1;rcases bx with rfl|⟨g,ob,rfl,hS,cc⟩;(·simp at bo);·obtain⟨cs,cn,hc,hr⟩:=cc _ y hy;refine h.val ho (cP hT g ob xs.length cap hv h0 ((Int.toNat_lt h0).1 bo)) ?_ ab;simp only[ep];exact⟨by simpa[Ma]using gu,g,ob+m.toNat*T.cells,cs,by rw[Nat.add_zero],hS,cn,hc,hr⟩);·exact ab.elim);·exact ab.elim);(·rename_i id aY;rw[aY]at hx;split at ab;(·rename_i T xs te U hl hT;obtain⟨hl,_⟩:=MW hl;split at ab;(·rename_i heq;have qX:=Ty.Nc heq;subst qX;obtain⟨⟨h0,h1⟩,ab⟩:=ab;simp only[ep]at hx;obtain⟨hd,br,_⟩:=hx;obtain⟨dD,iy,u,hu,vw,bx⟩:=h.W.MS _ _ hl;simp only[List.cons.injEq,and_true]at hu;simp only[Full.c]at br;rcases bx with⟨hn,rfl⟩|⟨g,ob,cap,cur,e,kc,_⟩;(·simp at h1;omega);·rw[kc]at hu;rw[hu]at br;refine h.val ho (cP hT g ob xs.length cap br h0 h1) ?_ ab;simp only[ep];exact⟨hd,g,ob,xs.length,cap,hu,by omega,by rw[Nat.add_zero]⟩);·exact ab.elim);·exact ab.elim);(·rename_i id sz off len aY;rw[aY]at hx;split at ab;(·rename_i U hT;split at ab;(·rename_i bt;have bt:=Nat.eq_of_beq_eq_true bt;obtain⟨⟨h0,h1⟩,ab⟩:=ab;simp only[ep]at hx;obtain⟨hd,aa,m',cap,b,br,hn,gQ,hv,hb⟩:=hx;obtain⟨g,ob,rfl,rfl⟩:=hb (by omega);refine h.val ho (cP hT g _ _ _ hv h0 h1) ?_ ab;simp only[ep];exact⟨hd,g,ob,m',cap,br,by omega,by rw[bt,Nat.add_mul,Nat.add_zero,Nat.add_assoc]⟩);·exact ab.elim);·exact ab.elim);(·rename_i id off aY;rw[aY]at hx;split at ab;(·rename_i R hT hs;simp only[ep]at hx;obtain⟨hd,g,hg,hv⟩:=hx;split at ab;(·rename_i hb;simp only[Bool.and_eq_true]at hb;have qQ:=Nat.eq_of_beq_eq_true hb.2;obtain⟨⟨h0,h1⟩,ab⟩:=ab;refine h.val ho (tG hT hs g off hv h0 h1) ?_ ab;simp only[ep];exact⟨hd,h0,h1,g,hg,by rw[qQ,Nat.mul_one]⟩);·obtain⟨⟨h0,h1⟩,ab⟩:=ab;refine h.val ho (tG hT hs g off hv h0 h1) ?_ ab;simp only[ep];exact⟨hd,g,hg,rfl⟩);·exact ab.elim);(·rename_i U y off aY;rw[aY]at hx;split at ab;(·rename_i R hT hs;obtain⟨⟨h0,h1⟩,ab⟩:=ab;simp only[ep]at hx;obtain⟨iy,g,ob,cs,hv,r⟩:=hx;refine h.val ho (tG hT hs g _ hv h0 h1) ?_ ab;simp only[ep];exact⟨iy,g,ob,cs,by rw[Nat.add_assoc],r⟩);·exact ab.elim);·exact ab.elim)
 ·exact ab.elim
theorem ay2(hE:L6 E)(h:Full n w0 S0 s a w ν S)(ho:MV n o=true) {t:Nat} {x i:Operand} (ak:o.op= .index t x i)(ab:Ml E (LM E F s o) (fun l=>K (s.fin o.dst l))):o.wp E.P a w (fun a' w'=> ∃s',K s'∧Rel n w0 S0 s' a' w') Q:=by
 simp only[LM,ak]at ab;have hx:=h.ev (L5 ho (x:=x) (by simp[ak,Op.operands]));have hi:=h.ev (L5 ho (x:=i) (by simp[ak,Op.operands]));split at ab;(·rename_i xs k m kD vC hT;obtain⟨d,hu,oC⟩:=(hE.facts hT).To;(have hd:d= .string:=by cases d<;>first|rfl|cases oC);subst hd;rw[vC]at hi;rw[kD]at hx;obtain⟨xX,_⟩:=ME hi;obtain⟨qR,_⟩:=NK hx;obtain⟨h0,c,⟨u,iw,rfl⟩,ab⟩:=ab;refine h.val ho (v:=.int .u8 u.toNat) ?_ (MY (by have:=u.toNat_lt;constructor<;>simp[IntKind.min,IntKind.max,IntKind.signed,IntKind.bits]<;>omega)) ab;simp only[execOp,ak,qR,xX,Instr.index,asIntOf,Sem.run_bind,Sem.run_pure,Result.andThen_ok,run_underlying hu];rw[if_pos h0];(have:(⟨xs.toArray⟩:ByteArray)[m.toNat]?=some u:=by have hl:m.toNat<xs.length:=(List.getElem?_eq_some_iff.1 iw).1;have hs:m.toNat<(⟨xs.toArray⟩:ByteArray).size:=hl;rw[getElem?_pos (⟨xs.toArray⟩:ByteArray) m.toNat hs];have:=(List.getElem?_eq_some_iff.1 iw).2;rw[←this];rfl);rw[this];rfl)
 (·exact ab.elim);(·rename_i k m R vC hT _;split at ab;(·rename_i cs qU yp;split at ab;(·rename_i xs qW tE;obtain⟨⟨h0,h1⟩,z,hz,ab⟩:=ab;rw[vC]at hi;obtain⟨xX,_⟩:=ME hi;obtain⟨l,e,hu,ff,cn,_⟩:=(hE.facts hT).array hE yp;obtain⟨aT,Im,us,qR⟩:=TX hx qU;obtain⟨j1,j2,j3⟩:=UT tE (.iv (Mu R 0) z);have hlen:=Ni aT;rw[qR]at aT hlen;simp only[Value.cells]at aT hlen;obtain⟨e1,e2,e3⟩:=al5 (base:=0) (m:=cs.length) (by rw[List.drop_zero,List.take_length];exact qW) hz;rw[Nat.zero_add]at e1 e3;(have hle:m.toNat*(Mu R 0).cells+(Mu R 0).cells≤us.size:=by rw[j2,Nat.mul_one,←Array.length_toList,←hlen];omega);have hp:=P7 ff (w:=w) (cs:=us) (off:=m.toNat*(Mu R 0).cells) hle;refine h.val ho (v:=valOf (Mu R 0) ((us.toList.drop (m.toNat*(Mu R 0).cells)).take (Mu R 0).cells)) ?_ ?_ ab;(·simp only[execOp,ak,qR,xX,Instr.index,asIntOf,Sem.run_bind,Sem.run_pure,Result.andThen_ok,run_underlying hu,Sem.run_ite];rw[if_pos ⟨h0,by rw[←cn];exact h1⟩];simp only[Sem.run_bind,ff.sizeOf w,Result.andThen_ok,hp,Sem.run_pure]);·(have eS: ∀u,u∈us.toList→u.oneCell'=true:=by intro u iw;rw[qR]at Im;exact Im u iw);have EV:=P6 (T:=Mu R 0) (c:=h.c) (vs:=(us.toList.drop m.toNat).take (Mu R 0).cells) (by rw[List.length_take,List.length_drop,j2,←hlen];omega) ff.val (fun u hu=>eS u (List.mem_of_mem_drop (List.mem_of_mem_take hu))) (Nz (Mu R 0).cells (Ny m.toNat aT));rw[j2,e1,j1]at EV;rw[j2,Nat.mul_one];exact EV);·exact ab.elim);·exact ab.elim)
 ·exact ab.elim
end
end Go.Proofs.YtgpkijnphchkpaaGreat
namespace Go.Proofs.YtgpkijnphchkpaaGreat
open Go.RowKit
theorem YW {α:Type} (xs:List α)(lo hi:Option Int):cut xs lo hi=(xs.drop (M5 lo)).take (OZ xs.length hi-M5 lo):=by
 cases lo<;>cases hi<;>simp[cut,M5,OZ];exact(List.take_of_length_le (by simp)).symm
def TY:Option Int→Option Value→Prop|none,none=>True|some n,some v=> ∃k,v= .int k n|_,_=>False
theorem Qe {P:Program} {w:World} {isSlice:Bool} {len cap:Nat} {lo hi:Option Int} {vl vh:Option Value} (u6:TY lo vl)(CB:TY hi vh)(h:Q5 len lo hi)(hc:len≤cap):(Instr.sliceBounds isSlice len cap vl vh none).run P w= .ok (M5 lo,OZ len hi,cap) w:=by
 (have sb: ∀(k:IntKind)(n:Int)(y:Nat)(code:BoundsCode),0≤n→n≤y→(Instr.sliceBound (.int k n) y code).run P w= .ok n.toNat w:=by intro k n y code h0 h1;simp only[Instr.sliceBound,asIntOf,Sem.run_bind,Sem.run_pure,Result.andThen_ok,Sem.run_ite];rw[if_pos ⟨h0,h1⟩])
 cases lo with|none=>(cases vl with|some v=>exact u6.elim|none=>cases hi with|none=>(cases vh with|some v=>exact CB.elim|none=>simp[Instr.sliceBounds,M5,OZ])|some m=>cases vh with|none=>exact CB.elim|some v=>obtain⟨k,rfl⟩:=CB;obtain⟨h0,h1⟩:=h;cases isSlice<;>simp[Instr.sliceBounds,M5,OZ,sb _ _ _ _ h0 (show m≤(cap:Int)by omega)])|some l=>cases vl with|none=>exact u6.elim|some v=>obtain⟨k,rfl⟩:=u6;cases hi with|none=>(cases vh with|some v=>exact CB.elim|none=>obtain⟨h0,h1⟩:=h;simp[Instr.sliceBounds,M5,OZ,sb _ _ _ _ h0 h1])|some m=>cases vh with|none=>exact CB.elim|some v=>obtain⟨k',rfl⟩:=CB;obtain⟨h0,h1,h2⟩:=h;have e1:(0:Int)≤m:=Int.le_trans h0 h1;cases isSlice<;>simp[Instr.sliceBounds,M5,OZ,sb _ _ _ _ e1 (show m≤(cap:Int)by omega),sb _ _ _ _ h0 (show l≤(m.toNat:Int)by omega)]
theorem UU {P:Program} {w:World} {isSlice:Bool} {len cap:Nat} {lo:Option Int} {m:Int} {k k':IntKind} {vl:Option Value} (u6:TY lo vl)(h:Q5 len lo (some m))(hc:len≤cap):(Instr.sliceBounds isSlice len cap vl (some (.int k m)) (some (.int k' m))).run P w= .ok (M5 lo,m.toNat,m.toNat) w:=by
 (have sb: ∀(k:IntKind)(n:Int)(y:Nat)(code:BoundsCode),0≤n→n≤y→(Instr.sliceBound (.int k n) y code).run P w= .ok n.toNat w:=by intro k n y code h0 h1;simp only[Instr.sliceBound,asIntOf,Sem.run_bind,Sem.run_pure,Result.andThen_ok,Sem.run_ite];rw[if_pos ⟨h0,h1⟩])
 cases lo with|none=>(cases vl with|some v=>exact u6.elim|none=>obtain⟨h0,h1⟩:=h;cases isSlice<;>simp[Instr.sliceBounds,M5,sb _ _ _ _ h0 (show m≤(cap:Int)by omega),sb _ _ _ _ h0 (show m≤(m.toNat:Int)by omega)])|some l=>cases vl with|none=>exact u6.elim|some v=>obtain⟨k,rfl⟩:=u6;obtain⟨h0,h1,h2⟩:=h;have e1:(0:Int)≤m:=Int.le_trans h0 h1;cases isSlice<;>simp[Instr.sliceBounds,M5,sb _ _ _ _ e1 (show m≤(cap:Int)by omega),sb _ _ _ _ e1 (show m≤(m.toNat:Int)by omega),sb _ _ _ _ h0 (show l≤(m.toNat:Int)by omega)]
theorem QM {n:Nat} {lo hi:Option Int} (h:Q5 n lo hi):M5 lo≤OZ n hi∧OZ n hi≤n:=by cases lo<;>cases hi<;>simp only[Q5,M5,OZ]at* <;>omega
theorem ZV {T:Ty} {w:World} {M:Mem} {a:Option Addr} {cap:Nat} (h:cap≤9223372036854775807):L3 (.sl T) ([]:List T.den) w M [.slice a 0 cap]:=⟨a,cap,rfl,Nat.zero_le _,h,.inl rfl⟩
section
variable {E:Env} {n:Nat} {w0:World} {S0:Cx} {s:St} {a:Act} {w:World} {ν:Nat→Value} {S:Nat→Prop} {F:Np} {o:Oper} {K:St→Prop} {Q:Exit→Act→World→Prop}
theorem X8(h:Full n w0 S0 s a w ν S) {x:Option Operand} {b:Option Int} (hc: ∀y,x=some y→RR y=true)(hb:bound s x=some b):TY b (x.map a.eval):=by
 cases x with|none=>simp only[bound,Option.some.injEq]at hb;subst hb;trivial|some y=>simp only[bound]at hb;split at hb;(·rename_i k m aY;simp only[Option.some.injEq]at hb;subst hb;have hy:=h.ev (hc y rfl);rw[aY]at hy;exact⟨k,(ME hy).1⟩);·cases hb
theorem ZW(xs:List UInt8)(l h:Nat):(⟨xs.toArray⟩:ByteArray).extract l h=⟨((xs.drop l).take (h-l)).toArray⟩:=by
 apply ByteArray.ext;rw[ByteArray.data_extract];apply Array.toList_inj.1;simp[Array.toList_extract]
theorem ZX {w:World} {M:Mem} : ∀(U:Ty)(x:U.den)(l:List Nat)(cs:List Value),RG U x=some l→L3 U x w M cs→cs=l.map fun f=>Value.func (.func f) #[] #[]|.LY,x,l,cs,h,hr=>(by simp only[RG,Option.some.injEq]at h;subst h;exact hr)|.pair A B,x,l,cs,h,hr=>(by cases A with|LY=>simp only[RG]at h;split at h;(·rename_i l' hl;injection h with h;subst h;obtain⟨va,vb,rfl,ha,hb⟩:=hr;have ha:va=[.func (.func x.1) #[] #[]]:=ha;rw[ZX B x.2 l' vb hl hb,ha];rfl);(·cases h)|_=>simp[RG]at h)|.unit,x,l,cs,h,hr=>(by simp[RG]at h)|.int _,x,l,cs,h,hr=>(by simp[RG]at h)|.bool,x,l,cs,h,hr=>(by simp[RG]at h)|.str,x,l,cs,h,hr=>(by simp[RG]at h)|.sl _,x,l,cs,h,hr=>(by simp[RG]at h)|.own _,x,l,cs,h,hr=>(by simp[RG]at h)|.st _,x,l,cs,h,hr=>(by simp[RG]at h)|.Mj _ _,x,l,cs,h,hr=>(by simp[RG]at h)|.ptr _,x,l,cs,h,hr=>(by simp[RG]at h)|.OM _ _,x,l,cs,h,hr=>(by simp[RG]at h)|.mp _ _,x,l,cs,h,hr=>by simp[RG]at h
theorem ay3(hE:L6 E)(h:Full n w0 S0 s a w ν S)(ho:MV n o=true) {t:Nat} {x:Operand} {lo hi mx:Option Operand} (ak:o.op= .slice t x lo hi mx)(ab:Ml E (LM E F s o) (fun l=>K (s.fin o.dst l))):o.wp E.P a w (fun a' w'=> ∃s',K s'∧Rel n w0 S0 s' a' w') Q:=by
 simp only[LM,ak]at ab;have hx:=h.ev (L5 ho (x:=x) (by simp[ak,Op.operands]));split at ab;(·rename_i bl bh T dR Ju hT;have EW:=X8 h (fun y hy=>L5 ho (by simp[ak,Op.operands,hy])) dR;have Dg:=X8 h (fun y hy=>L5 ho (by simp[ak,Op.operands,hy])) Ju;have hf:=hE.facts hT;cases mx with|none=>simp only[RJ]at ab;split at ab;(·split at ab;(·rename_i y aY;rw[aY]at hx;obtain⟨hv,hl⟩:=NK hx;obtain⟨cQ,ab⟩:=ab;obtain⟨d,hu,oC⟩:=hf.To;(have hd:d= .string:=by cases d<;>first|rfl|cases oC);subst hd;have hb:=Qe (P:=E.P) (w:=w) (isSlice:=false) (cap:=y.length) EW Dg cQ (Nat.le_refl _);(have bt:(⟨y.toArray⟩:ByteArray).size=y.length:=by simp[ByteArray.size]);refine h.val ho (v:=.string ⟨(cut y bl bh).toArray⟩) ?_ (SD (by rw[YW];simp;omega)) ab;simp only[execOp,ak,hv,Instr.sliceAt,Sem.run_bind,run_underlying hu,Result.andThen_ok,Instr.slice,Option.map_none,Option.isSome_none,Bool.false_eq_true,if_false,Sem.run_pure,bt,hb,ZW,YW]);·exact ab.elim);(·rename_i T;obtain⟨e,hu,Il,ff,eu,iC⟩:=hf.elem hE;have bt:=ff.sizeOf w;(have aJ: ∀(aa:Option Addr)(len cap:Nat),a.eval x= .slice aa len cap→Q5 len bl bh→len≤cap→(execOp a.eval o).run E.P w= .ok (.value (.slice (if cap=M5 bl then aa else aa.map (·.add (M5 bl*T.cells))) (OZ len bh-M5 bl) (cap-M5 bl))) w:=by intro aa len cap he cQ FV;have hb:=Qe (P:=E.P) (w:=w) (isSlice:=true) EW Dg cQ FV;simp only[execOp,ak,he,Instr.sliceAt,Sem.run_bind,run_underlying hu,Result.andThen_ok,Instr.slice,Option.map_none,hb,bt,Sem.run_pure]);split at ab;(·rename_i U xs aY;split at ab;(·rename_i Io dT;obtain⟨e',er⟩:=Ty.Mo dT;injection e' with e';subst e';simp only at er;subst er;rw[aY]at hx;simp only[ep]at hx;obtain⟨gu,bu⟩:=hx;obtain⟨cQ,ab⟩:=ab;have oS:L3 (.sl U) xs w ⟨S,L4 w0 S0⟩ [a.eval x]:=bu;obtain⟨aa,cap,hv,hle,gQ,bx⟩:=bu;injection hv with hv;obtain⟨ao,aq⟩:=QM cQ;refine h.val ho (aJ aa _ cap hv cQ hle) ?_ ab;simp only[ep];refine⟨gu,?_⟩;rw[YW];rw[hv]at oS;rcases bx with rfl|⟨g,ob,rfl,_⟩;(·simp only[List.length_nil]at aq ao;(have h0:OZ 0 bh=0:=by omega);(have h1:M5 bl=0:=by omega);simp only[List.length_nil,h0,h1,List.drop_nil,List.take_nil];exact ZV (by omega));·exact VS (off:=M5 bl) (len:=OZ xs.length bh-M5 bl) oS (by omega) (fun bo=>⟨g,ob,rfl,by rw[if_neg (by omega)];simp[NX]⟩));·exact ab.elim);(·rename_i id aY;split at ab;(·rename_i U xs te hl;obtain⟨hl,_⟩:=MW hl;split at ab;(·obtain⟨cQ,ab⟩:=ab;rw[aY]at hx;simp only[ep]at hx;obtain⟨hd,br,_⟩:=hx;obtain⟨dD,iy,u,iw,vw,bx⟩:=h.W.MS _ _ hl;simp only[List.cons.injEq,and_true]at iw;simp only[Full.c]at br;obtain⟨ao,aq⟩:=QM cQ;rcases bx with⟨hn,rfl⟩|⟨g,ob,cap,cur,e',kc,hle,gQ,_⟩;(·rw[hn]at iw;rw[iw]at br;simp only[List.length_nil]at ao aq;refine h.val ho (aJ none 0 0 br cQ (Nat.le_refl _)) ?_ ab;simp only[ep];exact⟨hd,none,0,0,_,iw,by simp;omega,Nat.le_refl _,rfl,fun h=>by omega⟩);·rw[kc]at iw;rw[iw]at br;refine h.val ho (aJ _ _ cap br cQ hle) ?_ ab;simp only[ep];exact⟨hd,_,xs.length,cap,_,iw,by omega,hle,rfl,fun bo=>⟨g,ob,rfl,by rw[if_neg (by omega)];simp[NX]⟩⟩);·exact ab.elim);·exact ab.elim);(·rename_i id sz off len aY;split at ab;(·rename_i A3;have A3:=Nat.eq_of_beq_eq_true A3;obtain⟨cQ,ab⟩:=ab;rw[aY]at hx;simp only[ep]at hx;obtain⟨hd,aa,m',cap,b,br,hn,gQ,hv,hb⟩:=hx;obtain⟨ao,aq⟩:=QM cQ;refine h.val ho (aJ b len (cap-off) hv cQ (by omega)) ?_ ab;simp only[ep];refine⟨hd,aa,m',cap,_,br,by omega,gQ,by rw[Nat.sub_sub],fun bo=>?_⟩;obtain⟨g,ob,h1,h2⟩:=hb (by omega);exact⟨g,ob,h1,by rw[if_neg (by omega),h2];simp[NX,A3,Nat.add_mul,Nat.add_assoc]⟩);·exact ab.elim);(·rename_i aY;obtain⟨cQ,ab⟩:=ab;rw[aY]at hx;simp only[ep]at hx;obtain⟨ao,aq⟩:=QM (n:=0) cQ;(have h0:OZ 0 bh=0:=by omega);(have h1:M5 bl=0:=by omega);refine h.val ho (aJ none 0 0 hx cQ (Nat.le_refl _)) ?_ ab;simp only[ep,h0,h1];rfl);·exact ab.elim);(·rename_i R;split at ab;(·rename_i U x0 aY;rw[aY]at hx;simp only[ep]at hx;obtain⟨_,g,ob,cs,Dh,hg,cn,ra,bu⟩:=hx;split at ab;(·rename_i l hl;split at ab;(·rename_i mR;simp only[Bool.and_eq_true,Bool.not_eq_true']at mR;obtain⟨⟨⟨me,ix⟩,yp⟩,CC⟩:=mR;have qQ:=Nat.eq_of_beq_eq_true me;have Ah:=Ty.Nc ix;have K8:=Nat.le_of_ble_eq_true CC;clear me ix CC;obtain⟨d,hu,oC⟩:=hf.To;have mi:=hf.str R d rfl hu;cases d with|array m e=>simp only[Nd]at oC;split at oC;(·rename_i V hV;simp only[Bool.and_eq_true]at oC;obtain⟨⟨⟨hR,A4⟩,_⟩,h2⟩:=oC;have hR:=Ty.Nc hR;have h2:=Nat.le_of_ble_eq_true h2;subst hR;rw[S2 V A4 m (by omega)]at qQ;rw[(Rv V A4 m 0 (by omega)).2]at Ah;subst Ah;have bt:=(hE.facts hV).sizeOf w;have hb:=Qe (P:=E.P) (w:=w) (isSlice:=false) (len:=m) (cap:=m) EW Dg trivial (Nat.le_refl _);have qU:=ZX U x0 l cs hl bu;refine h.val ho (v:=.slice (some ⟨g,ob,none⟩) m m) ?_ ?_ ab;(·simp only[execOp,ak,Dh,Nat.add_zero,Instr.sliceAt,Instr.sureAddr,Sem.run_bind,run_underlying hu,Result.andThen_ok,Option.map_none,hb,bt,Sem.run_pure,M5,OZ,Nat.sub_zero,Nat.zero_mul];rw[if_neg (by omega)];rfl);·simp only[ep];refine⟨rfl,some ⟨g,ob,none⟩,m,by rw[qQ],by omega,by omega,.inr ⟨g,ob,rfl,hg,fun i y hy=>⟨[.func (.func y) #[] #[]],rfl,fun j v hj=>?_,rfl⟩⟩⟩;(have h0:j=0:=by cases j with|zero=>rfl|succ j=>simp at hj);subst h0;simp only[List.getElem?_cons_zero,Option.some.injEq]at hj;have:=ra i v (by rw[qU,List.getElem?_map,hy];simpa using hj);simpa[Ty.cells]using this);(·cases oC)|struct fs=>have mi:E.str t=true:=mi;rw[mi]at yp;cases yp|_=>simp[Nd]at oC);·exact ab.elim);·exact ab.elim);·exact ab.elim);(·exact ab.elim)|some m=>split at ab;(·rename_i A5;cases A5);·rename_i mm A5;injection A5 with A5;subst A5;split at ab;(·rename_i km mv FW;have hm:=h.ev (L5 ho (x:=m) (by simp[ak,Op.operands]));rw[FW]at hm;obtain⟨Jv,_⟩:=ME hm;simp only[SX]at ab;split at ab;(·rename_i T;obtain⟨e,hu,Il,ff,eu,iC⟩:=hf.elem hE;have bt:=ff.sizeOf w;(have key: ∀(xs:List T.den)(hh:Int),bh=some hh→Q5 xs.length bl bh→mv=hh→L3 (.sl T) xs w ⟨S,L4 w0 S0⟩ [a.eval x]→(∃g' n',(execOp a.eval o).run E.P w= .ok (.value (.slice g' n' n')) w∧L3 (.sl T) (cut xs bl bh) w ⟨S,L4 w0 S0⟩ [.slice g' n' n']):=by intro xs hh FX cQ Di bu;subst FX Di;have oS:=bu;obtain⟨aa,cap,hv,hle,gQ,bx⟩:=bu;injection hv with hv;(obtain⟨vh,kh,FY⟩: ∃vh kh,hi=some vh∧a.eval vh= .int kh mv:=by cases hi with|none=>exact Dg.elim|some vh=>obtain⟨k,hk⟩:=Dg;exact⟨vh,k,rfl,hk⟩);obtain⟨rfl,FY⟩:=FY;have hb:=UU (P:=E.P) (w:=w) (isSlice:=true) (k:=kh) (k':=km) EW cQ hle;obtain⟨ao,aq⟩:=QM cQ;simp only[OZ]at ao aq;refine⟨if mv.toNat=M5 bl then aa else aa.map (·.add (M5 bl*T.cells)),mv.toNat-M5 bl,?_,?_⟩;(·simp only[execOp,ak,hv,Instr.sliceAt,Sem.run_bind,run_underlying hu,Result.andThen_ok,Instr.slice,Option.map_some,FY,Jv,hb,bt,Sem.run_pure]);·rw[YW];simp only[OZ];rw[hv]at oS;rcases bx with rfl|⟨g,ob,rfl,vA⟩;(·simp only[List.length_nil]at aq ao;(have h0:mv.toNat=0:=by omega);(have h1:M5 bl=0:=by omega);simp only[h0,h1,List.drop_nil,List.take_nil,Nat.sub_self];exact ZV (by omega));·have h1:=VS (b:=some ⟨g,ob+M5 bl*T.cells,none⟩) (off:=M5 bl) (len:=mv.toNat-M5 bl) oS (by omega) (fun bo=>⟨g,ob,rfl,rfl⟩);obtain⟨a',fG,e1,e2,e3,e4⟩:=h1;simp only[List.cons.injEq,Value.slice.injEq,and_true]at e1;obtain⟨e1,oU,Jw⟩:=e1;have hlen:((xs.drop (M5 bl)).take (mv.toNat-M5 bl)).length=mv.toNat-M5 bl:=oU.symm;refine⟨_,mv.toNat-M5 bl,by rw[hlen],by rw[hlen];exact Nat.le_refl _,by omega,?_⟩;rcases e4 with e4|⟨g',o',e4,e5⟩;(·exact .inl e4);·by_cases hz:mv.toNat=M5 bl;(·left;apply List.eq_nil_of_length_eq_zero;omega);·right;rw[←e1]at e4;refine⟨g',o',?_,e5⟩;rw[if_neg hz];simpa[NX]using e4);split at ab;(·rename_i U xs aY;split at ab;(·rename_i Io hh dT;obtain⟨e',er⟩:=Ty.Mo dT;injection e' with e';subst e';simp only at er;subst er;rw[aY]at hx;simp only[ep]at hx;obtain⟨gu,bu⟩:=hx;obtain⟨⟨cQ,Di⟩,ab⟩:=ab;obtain⟨g',n',xY,su⟩:=key xs hh rfl cQ Di bu;refine h.val ho xY ?_ ab;simp only[ep];exact⟨gu,⟨g',n',rfl⟩,su⟩);·exact ab.elim);(·rename_i U xs aY;split at ab;(·rename_i Io hh dT;obtain⟨e',er⟩:=Ty.Mo dT;injection e' with e';subst e';simp only at er;subst er;rw[aY]at hx;simp only[ep]at hx;obtain⟨gu,_,bu⟩:=hx;obtain⟨⟨cQ,Di⟩,ab⟩:=ab;obtain⟨g',n',xY,su⟩:=key xs hh rfl cQ Di bu;refine h.val ho xY ?_ ab;simp only[ep];exact⟨gu,⟨g',n',rfl⟩,su⟩);·exact ab.elim);·exact ab.elim);·exact ab.elim);·exact ab.elim)
 ·exact ab.elim
theorem ZY(h:Full n w0 S0 s a w ν S)(ho:MV n o=true) {f:Nat} {first bD:Array Operand} (ak:o.op= .makeFunc (.func f) first bD)(ab:Ml E (LM E F s o) (fun l=>K (s.fin o.dst l))):o.wp E.P a w (fun a' w'=> ∃s',K s'∧Rel n w0 S0 s' a' w') Q:=by
 simp only[LM,ak]at ab;split at ab;(·rename_i rb;(have hf:first= #[]:=by apply Array.toList_inj.1;simpa using rb);subst hf;have hc:=O2 h bD.toList (fun x hx=>L5 ho (by simp only[ak,Op.operands];simpa using hx));refine h.val ho (v:=.func (.func f) #[] (bD.map a.eval)) ?_ ?_ ab;(·simp only[execOp,ak,Instr.makeFunc,Sem.run_bind,Sem.run_pure,Result.andThen_ok];rw[show(#[]:Array Operand).map a.eval= #[]from by simp]);·simp only[ep];exact⟨bD.toList.map a.eval,by congr 1;exact Array.toList_inj.1 (by simp),hc⟩)
 ·rename_i y r rb;split at ab;(·rename_i kE;(have hf:bD= #[]:=by apply Array.toList_inj.1;simpa using kE);subst hf;have hc:=O2 h first.toList (fun x hx=>L5 ho (by simp only[ak,Op.operands];simpa using hx));rw[←rb]at ab;refine h.val ho (v:=.func (.func f) (first.map a.eval) #[]) ?_ ?_ ab;(·simp only[execOp,ak,Instr.makeFunc,Sem.run_bind,Sem.run_pure,Result.andThen_ok];rw[show(#[]:Array Operand).map a.eval= #[]from by simp]);·simp only[ep];exact⟨first.toList.map a.eval,by congr 1;exact Array.toList_inj.1 (by simp),hc⟩);·exact ab.elim
theorem X9 {c:Ctx} : ∀(vs:List PV)(us:List Value)(i:Nat)(p:PV),LO c vs us→X5 vs i=some p→ ∃v,us[i]?=some v∧ep c p v|[],us,i,p,h,hv=>(by simp[X5]at hv)|q::vs,us,0,p,h,hv=>(by simp only[LO]at h;obtain⟨u,r,rfl,h1,h2⟩:=h;simp[X5]at hv;subst hv;exact⟨u,rfl,h1⟩)|q::vs,us,i+1,p,h,hv=>by simp only[LO]at h;obtain⟨u,r,rfl,h1,h2⟩:=h;simpa using X9 vs r i p h2 hv
theorem PI {T:Ty} {x:T.den} {w:World} {M:Mem} {v:Value} (h:Na T x w M v):RF T x w M v:=by cases T<;>first|exact h|exact h.elim
theorem YX {c:Ctx} : ∀(T:Ty)(x:T.den)(us:List Value)(i:Nat)(p:PV),Ma T=0→XL T x c.w c.M us→QD T x i=some p→ ∃v,us[i]?=some v∧ep c p v:=by
 intro T;induction T with|Mj a b da cI=>intro x us i p ho h hv;simp[Ma]at ho;obtain⟨u,r,rfl,h1,h2⟩:=h;(cases i with|zero=>simp only[QD,Option.some.injEq]at hv;subst hv;refine⟨u,rfl,?_⟩;simp only[ep];exact⟨ho.1,PI h1⟩|succ i=>simpa using cI _ _ _ _ ho.2 h2 hv)|_=>intro x us i p ho h hv;obtain⟨u,rfl,h1⟩:=h;cases i with|zero=>simp only[QD,Option.some.injEq]at hv;subst hv;refine⟨u,rfl,?_⟩;simp only[ep];exact⟨ho,PI h1⟩|succ i=>simp[QD]at hv
theorem ag4(h:Full n w0 S0 s a w ν S)(ho:MV n o=true) {x:Operand} {i:Nat} (ak:o.op= .extract x i)(ab:Ml E (LM E F s o) (fun l=>K (s.fin o.dst l))):o.wp E.P a w (fun a' w'=> ∃s',K s'∧Rel n w0 S0 s' a' w') Q:=by
 simp only[LM,ak]at ab;have hx:=h.ev (L5 ho (x:=x) (by simp[ak,Op.operands]));split at ab;(·rename_i p hp;(have key: ∃us:List Value,a.eval x= .tuple us.toArray∧ ∃v,us[i]?=some v∧ep h.c p v:=by cases aY:s.ev x with|Mj vs=>rw[aY]at hx hp;simp only[ep]at hx;obtain⟨us,hv,hr⟩:=hx;exact⟨us,hv,X9 vs us i p hr hp⟩|iv T y=>rw[aY]at hx hp;(cases T with|Mj ta tb=>simp only[ep]at hx;obtain⟨dh,us,hv,hr⟩:=hx;exact⟨us,hv,YX _ y us i p dh hr hp⟩|_=>simp only[TM]at hp;cases hp)|_=>rw[aY]at hp;simp only[TM]at hp;cases hp);obtain⟨us,hv,v,xX,hr⟩:=key;refine h.val ho (v:=v) ?_ hr ab;simp[execOp,ak,hv,Instr.extract,xX])
 ·exact ab.elim
end
end Go.Proofs.YtgpkijnphchkpaaGreat
