/-
  The operations one by one, continued: parts of slices and strings, new arrays, closures. Nothing here is trusted; no condition.
-/
import Derived.Test.YtefpgfdemmllpaaA1
import Derived.Deep.AppendSrc
import Derived.Laws.MakeOwn
import Derived.Laws.StructEq
set_option linter.unusedSimpArgs false
set_option linter.unusedVariables false
namespace Go.Proofs.Ytefpgfdemmllpaa
open Go.RowKit
structure Ctx.BD(ks:List Nat)(c c':Ctx):Prop where
 heap: ∀b,c.M.S b→c'.w.heap[b]?=c.w.heap[b]?
 S: ∀b,c.M.S b→c'.M.S b
 D: ∀i,c.D i→aj i ks=false→c'.D i
 ν: ∀i,c.D i→aj i ks=false→c'.ν i=c.ν i
def BE(c:Ctx)(ks:List Nat):Prop:= ∀i,aj i ks=true→c.D i→ ∃a n m,c.ν i= .slice a n m
mutual theorem r5 {ks:List Nat} {c c':Ctx} (hc:c.BD ks c')(hb:BE c ks): ∀ {p:PV} {v:Value},ae c p v→ae c' (p.kill ks) v|.iv T x,v,h=>(by simp only[PV.kill,ae]at h⊢;exact⟨h.1,fL hc.heap hc.S h.1 h.2⟩)|.ref i off,v,h=>(by simp only[PV.kill,ae]at h⊢;obtain⟨hd,g,h1,h2⟩:=h;(have cu:aj i ks=false:=by cases hm:aj i ks with|false=>rfl|true=>obtain⟨a,n,m,e⟩:=hb i hm hd;rw[h1]at e;cases e);exact⟨hc.D _ hd cu,g,by rw[hc.ν _ hd cu];exact h1,h2⟩)|.lmap i,v,h=>(by simp only[PV.kill,ae]at h⊢;obtain⟨hd,h1,r,h2⟩:=h;(have cu:aj i ks=false:=by cases hm:aj i ks with|false=>rfl|true=>obtain⟨a,n,m,e⟩:=hb i hm hd;rw[h1,e]at h2;cases h2);exact⟨hc.D _ hd cu,by rw[hc.ν _ hd cu];exact h1,r,h2⟩)|.eh T x off,v,h=>(by simp only[PV.kill,ae]at h⊢;obtain⟨ho,g,o,cs,h1,h2,h3,h4,h5⟩:=h;exact⟨ho,g,o,cs,h1,hc.S _ h2,h3,h4.mono (hc.heap _ h2),au hc.heap hc.S _ _ _ ho h5⟩)|.aE i,v,h=>(by simp only[PV.kill];cases hi:aj i ks;(·simp only[cond_false,ae]at h⊢;exact⟨hc.D _ h.1 hi,by rw[hc.ν _ h.1 hi];exact h.2.1,h.2.2⟩);·simp only[cond_true,ae])|.iH i sz off len,v,h=>(by simp only[PV.kill];cases hi:aj i ks;(·simp only[cond_false,ae]at h⊢;obtain⟨hd,a,n,cap,b,h1,h2⟩:=h;exact⟨hc.D _ hd hi,a,n,cap,b,by rw[hc.ν _ hd hi];exact h1,h2⟩);·simp only[cond_true,ae])|.fu i sz j off,v,h=>(by simp only[PV.kill];cases hi:aj i ks;(·simp only[cond_false,ae]at h⊢;obtain⟨hd,g,o,n,cap,h1,h2⟩:=h;exact⟨hc.D _ hd hi,g,o,n,cap,by rw[hc.ν _ hd hi];exact h1,h2⟩);·simp only[cond_true,ae])|.agg cs,v,h=>(by simp only[PV.kill,ae]at h⊢;obtain⟨vs,h1,h0,h2⟩:=h;exact⟨vs,h1,h0,eW hc hb h2⟩)|.bk cs,v,h=>(by simp only[PV.kill,ae]at h⊢;obtain⟨vs,h1,h2⟩:=h;exact⟨vs,h1,eW hc hb h2⟩)|.bF,v,h=>(by simp only[PV.kill,ae]at h⊢;exact h)|.bT,v,h=>(by simp only[PV.kill,ae]at h⊢;exact h)|.gP i base T n j,v,h=>(by simp only[PV.kill,ae]at h⊢;obtain⟨hd,h0,hn,g,h1,h2⟩:=h;(have cu:aj i ks=false:=by cases hm:aj i ks with|false=>rfl|true=>obtain⟨a,n,m,e⟩:=hb i hm hd;rw[h1]at e;cases e);exact⟨hc.D _ hd cu,h0,hn,g,by rw[hc.ν _ hd cu];exact h1,h2⟩)|.tU f cs,v,h=>(by simp only[PV.kill,ae]at h⊢;obtain⟨vs,h1,h2⟩:=h;exact⟨vs,h1,eW hc hb h2⟩)|.mD f cs,v,h=>(by simp only[PV.kill,ae]at h⊢;obtain⟨vs,h1,h2⟩:=h;exact⟨vs,h1,eW hc hb h2⟩)|.clip T xs,v,h=>(by simp only[PV.kill,ae]at h⊢;exact⟨h.1,h.2.1,au hc.heap hc.S (.sl T) _ _ h.1 h.2.2⟩)|.fn f cs,v,h=>(by simp only[PV.kill,ae]at h⊢;obtain⟨vs,h1,h2⟩:=h;exact⟨vs,h1,eW hc hb h2⟩)|.any,v,h=>by simp only[PV.kill,ae]theorem eW {ks:List Nat} {c c':Ctx} (hc:c.BD ks c')(hb:BE c ks): ∀ {ps:List PV} {vs:List Value},ah c ps vs→ah c' (PV.gI ks ps) vs|[],vs,h=>(by simp only[PV.gI,ah]at h⊢;exact h)|p::ps,vs,h=>by simp only[PV.gI,ah]at h⊢;obtain⟨v,r,h1,h2,h3⟩:=h;exact⟨v,r,h1,r5 hc hb h2,eW hc hb h3⟩end
theorem jG(f:PV→PV)(t:Nat): ∀l:List (Nat×PV),look t (ou f l)=(look t l).map f|[]=>rfl|p::r=>by simp only[ou,look];cases Nat.beq t p.1;(·simpa using jG f t r);·rfl
theorem oO(f:List PV→List PV)(t:Nat): ∀l:List (Nat×aO),look t (s6 f l)=(look t l).map (aO.map f)|[]=>rfl|p::r=>by simp only[s6,look];cases Nat.beq t p.1;(·simpa using oO f t r);·rfl
theorem eX(ks:List Nat)(t:Nat): ∀l:List (Nat×aO),look t (dB ks l)=bif aj t ks then none else look t l|[]=>(by simp[dB,look])|p::r=>by simp only[dB];cases hm:aj p.1 ks with|true=>simp only[cond_true,look,eX ks t r];(cases hb:Nat.beq t p.1 with|true=>rw[Nat.eq_of_beq_eq_true hb,hm];rfl|false=>rfl)|false=>simp only[cond_false,look,eX ks t r];cases hb:Nat.beq t p.1 with|true=>rw[Nat.eq_of_beq_eq_true hb,hm];rfl|false=>rfl
theorem u6(s:St)(ks:List Nat)(t:Nat):(s.kill ks).get t=(s.get t).kill ks:=by simp only[St.get,St.kill,jG];cases look t s.sl<;>simp[PV.kill]
theorem jh(s:St)(ks:List Nat)(i:Nat):look i (s.kill ks).bl=(look i s.bl).map (aO.map (PV.gI ks)):=by simp only[St.kill,oO]
theorem ar1(s:St)(ks:List Nat):(s.kill ks).D=s.D:=by
 funext i;refine propext ⟨fun⟨c,hc⟩=>?_,fun⟨c,hc⟩=>?_⟩;(·rw[jh]at hc;cases hl:look i s.bl with|none=>rw[hl]at hc;cases hc|some b=>exact⟨b,hl⟩);·exact⟨c.map (PV.gI ks),by rw[jh,hc];rfl⟩
theorem yz {ks:List Nat} {c c':Ctx} (hc:c.BD ks c')(TQ:BE c ks)(hB:c'.M.O=c.M.O) {id:Nat} {b:aO} (cX:c'.ν id=c.ν id)(hg: ∀g,aq (c.ν id)=some g→c'.w.heap[g]?=c.w.heap[g]?∧(¬c.M.S g→ ¬c'.M.S g))(h:jB c id b):jB c' id (b.map (PV.gI ks)):=by
 cases b with|box cs te=>obtain⟨ik,g,vs,e,h1,h2,h3,h4,h0,h5⟩:=h;obtain⟨e1,e2⟩:=hg g (by rw[h1];rfl);exact⟨ik.iY cX fun g eg=>(hg g eg).1,g,vs,e,by rw[cX];exact h1,by rw[hB];exact h2,e2 h3,by rw[e1];exact h4,h0,eW hc TQ h5⟩|arr T xs te=>obtain⟨ik,ho,v,hv,h1,h2⟩:=h;injection hv with hv;refine⟨ik.iY cX fun g eg=>(hg g eg).1,ho,v,by rw[cX,hv],h1,?_⟩;rcases h2 with h2|⟨g,o,cap,cur,e,rfl,h3,h4,h5,h6,h7,h8,h9⟩;(·exact .inl h2);(·obtain⟨e1,e2⟩:=hg g (by rw[hv];rfl);refine .inr ⟨g,o,cap,cur,e,rfl,h3,h4,e2 h5,by rw[hB];exact h6,by rw[e1];exact h7,h8,fun i y hy=>?_⟩;obtain⟨cs,hl,zZ,hr⟩:=h9 i y hy;exact⟨cs,hl,zZ.mono e1,au hc.heap hc.S _ _ _ ho hr⟩)|mp K V es=>obtain⟨ck,p6,h0,r,ay,clock,h1,h2,h3,h4,h5,h6,h7⟩:=h;obtain⟨e1,e2⟩:=hg r (by rw[h1];rfl);refine⟨ck,p6,h0,r,ay,clock,by rw[cX];exact h1,by rw[hB];exact h2,e2 h3,by rw[e1];exact h4,h5,h6,fun i y hy=>?_⟩;obtain⟨e,ca,cb,a1,a2,a3,a4,a5⟩:=h7 i y hy;exact⟨e,ca,cb,a1,a2,au hc.heap hc.S _ _ _ ck a3,a4,au hc.heap hc.S _ _ _ p6 a5⟩|it src since seen=>obtain⟨g,m,h1,h2,h3,h4,h6⟩:=h;obtain⟨e1,e2⟩:=hg g (by rw[h1];rfl);exact⟨g,m,by rw[cX];exact h1,by rw[hB];exact h2,e2 h3,by rw[e1];exact h4,eW hc TQ h6⟩|xL x pos=>obtain⟨g,h1,h2,h3,h4,h5⟩:=h;obtain⟨e1,e2⟩:=hg g (by rw[h1];rfl);exact⟨g,by rw[cX];exact h1,by rw[hB];exact h2,e2 h3,by rw[e1];exact h4,h5⟩
theorem mO {i k:Nat} :aj i [k]=Nat.beq i k:=by simp only[aj];cases Nat.beq i k<;>rfl
theorem BF {i k:Nat} (h:i≠k):aj i [k]=false:=by rw[mO];cases hb:Nat.beq i k with|false=>rfl|true=>exact absurd (Nat.eq_of_beq_eq_true hb) h
theorem BG {i k:Nat} (h:aj i [k]=true):i=k:=by rw[mO]at h;exact Nat.eq_of_beq_eq_true h
section
variable {n:Nat} {w0:World} {S0:Cx} {s:St} {a:Act} {w:World} {ν:Nat→Value} {S:Nat→Prop}
theorem Full.app(h:Full n w0 S0 s a w ν S) {d id j:Nat} {T:Ty} {xs:List T.den} {te:Option Nat} {b':aO} {v':Value} {w':World} (hd:d<n)(hl:look id s.bl=some (.arr T xs te))(hj:j<P0)(Ep:j=id∨look j s.bl=none)(hw:dD w w' (aq (ν id)))(hv: ∃a n cap,v'= .slice a n cap)(gj: ∀g,aq v'=some g→aq (ν id)=some g∨w.heap.size≤g)(hb: ∀D:Nat→Prop,jB ⟨fun i=>if i=j then v' else ν i,D,w',⟨S,aF w0 S0⟩⟩ j b'):Full n w0 S0 ⟨(d,.aE j)::(s.kill [id]).sl,(j,b')::dB [id] (s.kill [id]).bl⟩ (a.put (some d) v') w' (fun i=>if i=j then v' else ν i) S:=by
 (have kQ: ∃a n m,ν id= .slice a n m:=by obtain⟨_,ho,v,hv,_,h2⟩:=h.W.cc id _ hl;injection hv with hv;simp only at hv;rw[hv];rcases h2 with⟨h2,_⟩|⟨g',o,cap,cur,e,h2,_⟩<;>subst h2<;>exact⟨_,_,_,rfl⟩)
 (have TQ:BE ⟨ν,s.D,w,⟨S,aF w0 S0⟩⟩ [id]:=by intro i hi _;rw[BG hi];exact kQ);(have BH: ∀i c,i≠j→look i (⟨(d,.aE j)::(s.kill [id]).sl,(j,b')::dB [id] (s.kill [id]).bl⟩:St).bl=some c→i≠id∧ ∃c0,look i s.bl=some c0∧c=c0.map (PV.gI [id]):=by intro i c eL hc;rw[aS _ _ eL,eX]at hc;cases hm:aj i [id]with|true=>rw[hm]at hc;cases hc|false=>rw[hm]at hc;simp only[cond_false]at hc;rw[jh]at hc;refine⟨fun e=>?_,?_⟩;(·subst e;rw[mO,Nat.beq_refl]at hm;cases hm);·cases BJ:look i s.bl with|none=>rw[BJ]at hc;cases hc|some c0=>rw[BJ]at hc;injection hc with hc;exact⟨c0,rfl,hc.symm⟩)
 (have hD: ∀i,s.D i→i≠id→(⟨(d,.aE j)::(s.kill [id]).sl,(j,b')::dB [id] (s.kill [id]).bl⟩:St).D i:=by rintro i⟨c,hc⟩cu;by_cases eL:i=j;(·subst eL;exact⟨b',aY _ _ _⟩);·exact⟨c.map (PV.gI [id]),by rw[aS _ _ eL,eX,BF cu,cond_false,jh,hc];rfl⟩)
 (have cu: ∀i,s.D i→i≠id→i≠j:=by rintro i⟨c,hc⟩hi e;subst e;rcases Ep with Ep|Ep;(·exact hi Ep);·rw[Ep]at hc;cases hc);have hS: ∀g,S g→w'.heap[g]?=w.heap[g]?:=fun g hg=>hw.block g (h.W.lt g hg) (fun e=>(h.gF hl e.symm).2.1 hg)
 (have hle:Ctx.BD [id] ⟨ν,s.D,w,⟨S,aF w0 S0⟩⟩ ⟨fun i=>if i=j then v' else ν i,(⟨(d,.aE j)::(s.kill [id]).sl,(j,b')::dB [id] (s.kill [id]).bl⟩:St).D,w',⟨S,aF w0 S0⟩⟩:=by refine⟨hS,fun _ h=>h,fun i hi hm=>hD i hi ?_,fun i hi hm=>?_⟩;(·rintro rfl;rw[mO,Nat.beq_refl]at hm;cases hm);·(have:i≠id:=by rintro rfl;rw[mO,Nat.beq_refl]at hm;cases hm);simp[cu i hi this])
 refine⟨h.below.grown hw (fun g hg=>(h.gF hl hg).1),h.BC,h.fresh,⟨fun g hg=>Nat.lt_of_lt_of_le (h.W.lt g hg) hw.size,fun g hg=>h.W.size g (Nat.le_trans hw.size hg),fun i c hc=>?_,fun i k c e BK hi hk g Ea Ka=>?_⟩,?_,?_,?_,h.Aa,fun i hi yx=>?_,h.D9⟩
 (·by_cases hi:i=j;(·subst hi;rw[aY]at hc;injection hc with hc;subst hc;exact hb _);·obtain⟨JG,c0,mn,rfl⟩:=BH i c hi hc;refine yz hle TQ rfl (by simp[hi]) (fun g hg=>?_) (h.W.cc i c0 mn);exact⟨hw.block g (h.gF mn hg).2.2 (fun e=>h.W.ne i id c0 _ JG mn hl g hg e.symm),fun h=>h⟩)
 (·by_cases eL:i=j;(·subst eL;have mq:k≠i:=fun e=>BK e.symm;simp only[if_true]at Ea;simp only[mq,if_false]at Ka;obtain⟨ar2,e',tX,_⟩:=BH k e mq hk;rcases gj g Ea with hf|hf;(·exact h.W.ne id k _ _ (fun e=>ar2 e.symm) hl tX g hf Ka);·have:=(h.gF tX Ka).2.2;omega);·simp only[eL,if_false]at Ea;obtain⟨ar3,c',iw,_⟩:=BH i c eL hi;by_cases hkj:k=j;(·subst hkj;simp only[if_true]at Ka;rcases gj g Ka with hf|hf;(·exact h.W.ne i id _ _ ar3 iw hl g Ea hf);·have:=(h.gF iw Ea).2.2;omega);·simp only[hkj,if_false]at Ka;obtain⟨_,e',tX,_⟩:=BH k e hkj hk;exact h.W.ne i k _ _ BK iw tX g Ea Ka)
 (·intro t;(have hlf:ae ⟨fun i=>if i=j then v' else ν i,(⟨(d,.aE j)::(s.kill [id]).sl,(j,b')::dB [id] (s.kill [id]).bl⟩:St).D,w',⟨S,aF w0 S0⟩⟩ (.aE j) v':=by simp only[ae];exact⟨⟨b',aY _ _ _⟩,by simp,hv⟩);refine r4 (s:=s.kill [id]) (fun t=>?_) h.size hd (fun t=>?_) hlf t;(·rw[u6];exact r5 hle TQ (h.fq t));·by_cases ht:t=d;(·subst ht;simp[St.get,aY]);·simp[St.get,aS _ _ ht,ht])
 (·rw[qa];exact h.size);(·rw[lN];exact h.defers);·(have eL:i≠j:=by omega);simp only[eL,if_false];obtain⟨c,hc⟩:=yx;obtain⟨_,c0,mn,_⟩:=BH i c eL hc;exact h.kept i hi ⟨c0,mn⟩
end
/-! ### append -/
theorem nF {T:Ty} {w:World} {M:Mem} {g o:Nat} : ∀(xs:List T.den),(∀i y,xs[i]?=some y→ ∃cs,cs.length=T.cells∧dc w g (o+i*T.cells) cs∧aB T y w M cs)→ ∃vs:List Value,vs.length=xs.length*T.cells∧dc w g o vs∧(∀u,u∈vs→u.oneCell'=true)∧ ∀i y,xs[i]?=some y→aB T y w M ((vs.drop (i*T.cells)).take T.cells):=by
 intro xs;induction xs generalizing o with|nil=>intro _;exact⟨[],by simp,fun j v h=>by simp at h,by simp,fun i y h=>by simp at h⟩|cons x xs ih=>intro h;obtain⟨cs,hl,hc,hr⟩:=h 0 x rfl;obtain⟨vs,xW,hvc,hv1,Oy⟩:=ih (o:=o+T.cells) (fun i y hy=>by obtain⟨BL,BJ,iw,gD⟩:=h (i+1) y (by simpa using hy);refine⟨BL,BJ,?_,gD⟩;(have e:o+(i+1)*T.cells=o+T.cells+i*T.cells:=by rw[Nat.add_mul];omega);rwa[e]at iw);refine⟨cs++vs,by simp[hl,xW,Nat.add_mul];omega,fun j v hj=>?_,fun u hu=>?_,fun i y hy=>?_⟩;(·rcases Nat.lt_or_ge j T.cells with N7|N7;(·rw[List.getElem?_append_left (by omega)]at hj;have:=hc j v hj;simpa using this);·rw[List.getElem?_append_right (by omega)]at hj;have:=hvc _ v hj;rw[←this];congr 2;omega);(·rcases List.mem_append.1 hu with hu|hu;(·exact pY _ _ _ _ _ hr u hu);·exact hv1 u hu);·cases i with|zero=>simp at hy;subst hy;rw[Nat.zero_mul,List.drop_zero,←hl,List.take_left];exact hr|succ i=>have:=Oy i y (by simpa using hy);(have e:(i+1)*T.cells=cs.length+i*T.cells:=by rw[Nat.add_mul,hl];omega);rw[e,List.drop_append];simpa[List.drop_of_length_le]using this
theorem uq {T:Ty} {w:World} {M:Mem} {g o:Nat} {xs:List T.den} {vs:List Value} (hl:vs.length=xs.length*T.cells)(hc:dc w g o vs)(hr: ∀i y,xs[i]?=some y→aB T y w M ((vs.drop (i*T.cells)).take T.cells)): ∀i y,xs[i]?=some y→ ∃cs,cs.length=T.cells∧dc w g (o+i*T.cells) cs∧aB T y w M cs:=by
 intro i y hy;(have hi:i<xs.length:=by rcases Nat.lt_or_ge i xs.length with h|h;(·exact h);·rw[List.getElem?_eq_none h]at hy;cases hy);refine⟨_,bx _ _ _ _ _ (hr i y hy),fun j v hj=>?_,hr i y hy⟩
 (have tW:j<T.cells:=by rcases Nat.lt_or_ge j T.cells with h|h;(·exact h);·rw[List.getElem?_eq_none (by rw[bx _ _ _ _ _ (hr i y hy)];exact h)]at hj;cases hj);rw[List.getElem?_take,if_pos tW,List.getElem?_drop]at hj
 have:=hc _ v hj;rw[←this,Nat.add_assoc]
theorem oP {T : Ty} {w w' : World} {M : Mem} (hw : ∀ b, M.S b → w'.heap[b]? = w.heap[b]?) (ho : aL T = 0) {xs ys : List T.den} {us vs : List Value} (hu : us.length = xs.length * T.cells) (hr : ∀ i y, xs[i]? = some y → aB T y w M ((us.drop (i * T.cells)).take T.cells))
    (hs : ∀ i y, ys[i]? = some y → aB T y w M ((vs.drop (i * T.cells)).take T.cells)) : ∀ i y, (xs ++ ys)[i]? = some y → aB T y w' M (((us ++ vs).drop (i * T.cells)).take T.cells) := by
  intro i y hy
  refine au hw (fun _ h => h) _ _ _ ho ?_
  rcases Nat.lt_or_ge i xs.length with hi | hi
  · rw [List.getElem?_append_left hi] at hy
    have h1 := hr i y hy
    have hle : i * T.cells + T.cells ≤ us.length := by
      rw [hu]
      calc i * T.cells + T.cells = (i + 1) * T.cells := by rw [Nat.add_mul]; omega
        _ ≤ xs.length * T.cells := Nat.mul_le_mul_right _ hi
    rw [List.drop_append_of_le_length (by omega), List.take_append_of_le_length (by rw [List.length_drop]; omega)]
    exact h1
  · rw [List.getElem?_append_right hi] at hy
    have h1 := hs _ y hy
    have e : i * T.cells = us.length + (i - xs.length) * T.cells := by
      rw [hu, ← Nat.add_mul]
      congr 1
      omega
    rw [e, List.drop_append]
    simpa [List.drop_of_length_le] using h1
end Go.Proofs.Ytefpgfdemmllpaa
namespace Go.Proofs.Ytefpgfdemmllpaa
open Go.RowKit
theorem dJ(g o n:Nat):(⟨g,o,none⟩:Addr).add n=⟨g,o+n,none⟩:=by unfold Addr.add;split<;>simp_all
theorem cq.elem {E:Env} (hE:aI E) {t:Nat} {T:Ty} (h:cq E t (.sl T)): ∃e,E.P.underlying t=some (.slice e)∧E.ty e=some T∧cq E e T∧T.val=true∧0<T.cells:=by
 obtain⟨d,hd,hs⟩:=h.ow;(cases d<;>simp only[cK]at hs<;>first|cases hs|skip);rename_i e;simp only[Bool.and_eq_true,mN]at hs;obtain⟨⟨h1,h2⟩,h3⟩:=hs;split at h1;(·rename_i U hU;rw[Ty.cJ h1]at hU;exact⟨e,hd,hU,hE.facts hU,h2,Nat.le_of_ble_eq_true h3⟩)
 ·cases h1
structure Source(w:World)(size:Nat)(a:Option Addr)(m:Nat)(news:List Value):Prop where
 len:news.length=m*size
 cells:m=0∨ ∃ad,a=some ad∧ ∀j u,news[j]?=some u→w.cell? (ad.add j)=some u
 one: ∀u,u∈news→u.oneCell'=true
theorem Source.first {P:Program} {w:World} {size:Nat} {a:Option Addr} {m:Nat} {news:List Value} (h:Source w size a m news)(c:Nat):(Builtin.firstCells size m (.slice a m c)).run P w= .ok news.toArray w:=by
 rcases h.cells with rfl|⟨ad,rfl,hc⟩;(·have hn:news=[]:=List.eq_nil_of_length_eq_zero (by simpa using h.len);subst hn;cases a with|none=>exact run_firstCells_none w _ _ _ _|some ad=>exact run_firstCells_some w size 0 ad _ c [] (by simp) (by simp))
 ·exact run_firstCells_some w size m ad _ c news h.len hc
theorem eY(w:World)(g:Nat)(cs:Array Value):dD w (w.setRow g cs) (some g):=⟨rfl,rfl,rfl,by simp,fun k _ hk=>setRow_other w g k _ (fun e=>hk (by rw[e])),fun _=>Nat.le_refl _⟩
theorem Source.src {P:Program} {w:World} {size:Nat} {a:Option Addr} {m:Nat} {news:List Value} (h:Source w size a m news) {tx e':TypeId} (hk:P.underlying tx=some (.slice e'))(c:Nat):Src P size tx (.slice a m c) m news w:=⟨.inl ⟨e',hk⟩,fun _=>rfl,h.first c,by have h':Source w.drew size a m news:=⟨h.len,h.cells,h.one⟩;exact h'.first c,h.len,h.one⟩
theorem r6 {P:Program} {w:World} {t tx ty e:TypeId} {i:TypeInfo} (ht:P.underlying t=some (.slice e))(hi:P.info? e=some i) {g o n cap:Nat} {cur:Array Value} {e':TypeId} (hg:w.heap[g]?=some (.cells cur e' (0,0))) {x:Value} {m:Nat} {news:List Value} (hs:Src P i.size tx x m news w)(BM:n+m≤cap)(gS:o+n*i.size+news.length≤cur.size):(Builtin.append_ #[t,tx] ty #[.slice (some ⟨g,o,none⟩) n cap,x]).run P w= .ok (.slice (some ⟨g,o,none⟩) (n+m) cap) (w.setRow g (cur.toList.take (o+n*i.size)++news++cur.toList.drop (o+n*i.size+news.length)).toArray):=by
 have gG:=run_storeCells_at (P:=P) g (o+n*i.size) e' news 0 cur w hg (by simpa using gS) hs.one;simp only[Nat.add_zero]at gG;rcases hs.kind with⟨e2,hk⟩|hk<;>simp[Builtin.append_,run_underlying ht,run_underlying hk,sizeOf,typeInfo,hi,hs.len,BM,hs.cells,dJ,gG]
theorem Gh(z:Array Value)(n:Nat):(Builtin.zeroCells z n).size=n*z.size:=by simp[Builtin.zeroCells]
theorem r7 {E:Env} {T:Ty} {w:World} {M:Mem} {zs:List T.den} {e:TypeId} {z:Value} (Eb:z.cells.size=T.cells)(ho:aL T=0)(cM: ∀b,M.S b→b<w.heap.size)(hB: ∀g,w.heap.size≤g→M.O g)(hlen:zs.length≤1099511627776)(cs:List Value)(fZ:cs.length=zs.length*T.cells)(hcr: ∀i y,zs[i]?=some y→aB T y w M ((cs.drop (i*T.cells)).take T.cells))(qb:Nat):aB (.own T) zs (w.drew.alloc (.cells (cs.toArray++Builtin.zeroCells z.cells (grownCap w zs.length qb e-zs.length)) e)) M [.slice (some ⟨w.heap.size,0,none⟩) zs.length (grownCap w zs.length qb e)]:=by
 have Er:=grownCap_ge w zs.length qb e;have TR:=grownCap_le_maxLen w zs.length qb e (by simp only[maxLen];omega);simp only[maxLen]at TR;have hh:(w.drew.alloc (.cells (cs.toArray++Builtin.zeroCells z.cells (grownCap w zs.length qb e-zs.length)) e)).heap[w.heap.size]?=some (.cells (cs.toArray++Builtin.zeroCells z.cells (grownCap w zs.length qb e-zs.length)) e):=heap_alloc_new w.drew _
 refine⟨_,rfl,by omega,.inr ⟨w.heap.size,0,grownCap w zs.length qb e,_,e,rfl,Er,by omega,fun h=>absurd (cM _ h) (by omega),hB _ (Nat.le_refl _),hh,?_,?_⟩⟩;(·rw[Array.size_append,Gh,Eb,List.size_toArray,fZ,Nat.zero_add,←Nat.add_mul];exact Nat.mul_le_mul_right _ (by omega))
 ·refine uq (vs:=cs) fZ (fun j u hj=>?_) (fun k y hy=>?_);(·rw[cell_of_row _ _ _ _ _ _ hh,Nat.zero_add,Array.getElem?_append_left (by simpa using(List.getElem?_eq_some_iff.1 hj).1)];simpa using hj);·exact au (w:=w) (fun b hb=>Below.heap_alloc w.drew _ b (cM b hb)) (fun _ h=>h) _ _ _ ho (hcr k y hy)
theorem iK {E:Env} (hE:aI E) {t tx ty:Nat} {T:Ty} (ht:E.ty t=some (.sl T)) {w:World} {M:Mem} {a:Option Addr} {m:Nat} {xs ys:List T.den} (ho:aL T=0)(kQ:aB (.sl T) xs w M [.slice a m m])(cM: ∀b,M.S b→b<w.heap.size)(hB: ∀g,w.heap.size≤g→M.O g) {x:Value} {news:List Value} (hs:Src E.P T.cells tx x ys.length news w)(hr: ∀i y,ys[i]?=some y→aB T y w M ((news.drop (i*T.cells)).take T.cells))(cu:ys≠ [])(hlen:xs.length+ys.length≤1099511627776): ∃v' w',(Builtin.append_ #[t,tx] ty #[.slice a m m,x]).run E.P w= .ok v' w'∧aB (.own T) (xs++ys) w' M [v']∧dD w w' none∧(∃a n cap,v'= .slice a n cap)∧(∀g,aq v'=some g→w.heap.size≤g):=by
 obtain⟨e,hu,he,mP,og,my⟩:=(hE.facts ht).elem hE;obtain⟨i,hi,cP,TS,_,z,hz,Eb⟩:=mP.info;rw[←cP]at hs;(have Oz: ∀k:Nat,k≤1099511627776→k*i.bytes≤140737488355328:=fun k hk=>by calc k*i.bytes≤1099511627776*128:=Nat.mul_le_mul hk TS
 _=140737488355328:=by decide);have hm:ys.length≠0:=fun h=>cu (List.eq_nil_of_length_eq_zero h);obtain⟨a',mL,hv,h1,h2,h3⟩:=kQ;(obtain⟨rfl,rfl,rfl⟩:a'=a∧m=xs.length∧mL=m:=by injection hv with hv;injection hv with h1 h2 h3;exact⟨h1.symm,h2,h3.symm⟩)
 (obtain⟨us,u7,Z2,N8⟩: ∃us:List Value,us.length=xs.length*T.cells∧(∀i y,xs[i]?=some y→aB T y w M ((us.drop (i*T.cells)).take T.cells))∧(Builtin.firstCells i.size xs.length (.slice a' xs.length xs.length)).run E.P w.drew= .ok us.toArray w.drew:=by rcases h3 with rfl|⟨g,o,rfl,_,eD⟩;(·refine⟨[],by simp,fun i y hy=>by simp at hy,?_⟩;cases a' with|none=>exact run_firstCells_none _ _ _ _ _|some ad=>exact run_firstCells_some _ _ 0 ad _ _ [] (by simp) (by simp));·obtain⟨us,u7,huc,OA,Z2⟩:=nF xs eD;exact⟨us,u7,Z2,run_firstCells_some w.drew i.size xs.length ⟨g,o,none⟩ _ _ us (by rw[u7,cP]) (fun j u hj=>by rw[dJ];exact huc j u hj)⟩)
 have aV:=run_append_grow_src (P:=E.P) w t tx ty e i z hu hi hz a' xs.length xs.length us N8 x ys.length news hs (by omega) (by omega) (growslice_fits (by omega) (Oz _ hlen))
 have hg:=r7 (E:=E) (e:=e) (zs:=xs++ys) Eb ho cM hB (by rw[List.length_append];exact hlen) (us++news) (by rw[List.length_append,List.length_append,u7,hs.newsLen,cP,Nat.add_mul]) (oP (fun _ _=>rfl) ho u7 Z2 hr) xs.length
 rw[List.length_append]at hg;exact⟨_,_,aV,hg,⟨rfl,rfl,rfl,by simp,fun k hk _=>Below.heap_alloc w.drew _ k hk,fun _=>Nat.le_succ _⟩,⟨_,_,_,rfl⟩,fun g hg=>by injection hg with hg;simp at hg;omega⟩
theorem jH {E:Env} (hE:aI E) {t tx ty:Nat} {T:Ty} (ht:E.ty t=some (.sl T)) {w:World} {M:Mem} {v:Value} {xs ys:List T.den} (ho:aL T=0)(ix:aB (.own T) xs w M [v])(cM: ∀b,M.S b→b<w.heap.size)(hB: ∀g,w.heap.size≤g→M.O g) {x:Value} {news:List Value} (hs:Src E.P T.cells tx x ys.length news w)(hr: ∀i y,ys[i]?=some y→aB T y w M ((news.drop (i*T.cells)).take T.cells))(hlen:xs.length+ys.length≤1099511627776): ∃v' w',(Builtin.append_ #[t,tx] ty #[v,x]).run E.P w= .ok v' w'∧aB (.own T) (xs++ys) w' M [v']∧dD w w' (aq v)∧(∃a n cap,v'= .slice a n cap)∧(∀g,aq v'=some g→aq v=some g∨w.heap.size≤g)∧(∀e0,E.P.underlying t=some (.slice e0)→fw (some e0) w v→fw (some e0) w' v'):=by
 obtain⟨e,hu,he,mP,og,my⟩:=(hE.facts ht).elem hE;obtain⟨i,hi,cP,TS,_,z,hz,Eb⟩:=mP.info;rw[←cP]at hs;(have Oz: ∀k:Nat,k≤1099511627776→k*i.bytes≤140737488355328:=fun k hk=>by calc k*i.bytes≤1099511627776*128:=Nat.mul_le_mul hk TS
 _=140737488355328:=by decide);obtain⟨u,hv,h1,h2⟩:=ix;injection hv with hv;subst hv;(have grown: ∀(cs:List Value),cs.length=(xs.length+ys.length)*T.cells→(∀i y,(xs++ys)[i]?=some y→aB T y w M ((cs.drop (i*T.cells)).take T.cells))→ ∀(qb:Nat),aB (.own T) (xs++ys) (w.drew.alloc (.cells (cs.toArray++Builtin.zeroCells z.cells (grownCap w (xs.length+ys.length) qb e-(xs.length+ys.length))) e)) M [.slice (some ⟨w.heap.size,0,none⟩) (xs.length+ys.length) (grownCap w (xs.length+ys.length) qb e)]:=by intro cs fZ hcr qb;have:=r7 (E:=E) (e:=e) (zs:=xs++ys) Eb ho cM hB (by rw[List.length_append];exact hlen) cs (by rw[fZ,List.length_append]) hcr qb;rwa[List.length_append]at this)
 rcases h2 with⟨rfl,rfl⟩|⟨g,o,cap,cur,e',rfl,h3,h4,h5,h6,h7,h8,h9⟩;(·by_cases hm:ys.length=0;(·have hn:news=[]:=List.eq_nil_of_length_eq_zero (by rw[hs.newsLen,hm,Nat.zero_mul]);have hy:ys=[]:=List.eq_nil_of_length_eq_zero hm;subst hy;refine⟨.slice none 0 0,w,?_,⟨_,rfl,by simp,.inl ⟨rfl,by simp⟩⟩,⟨rfl,rfl,rfl,Nat.le_refl _,fun _ _ _=>rfl,fun _=>Nat.le_refl _⟩,⟨_,_,_,rfl⟩,fun g hg=>(by cases hg),fun e0 _ _ t' _ g hg=>(by cases hg)⟩;have Ec:=hs.len;have mn:=hs.cells;simp only[List.length_nil]at Ec mn;rcases hs.kind with⟨e2,hk⟩|hk<;>simp[Builtin.append_,run_underlying hu,run_underlying hk,sizeOf,typeInfo,hi,Ec,mn]);·skip;·have hb:=Oz ys.length (by simpa using hlen);have aV:=run_append_grow_src (P:=E.P) w t tx ty e i z hu hi hz none 0 0 [] (run_firstCells_none _ _ _ _ _) x ys.length news hs (by omega) (by simp at hlen;omega) (growslice_fits (by omega) (by simpa using hb));simp only[Nat.zero_add,List.nil_append]at aV;have hg:=grown news (by rw[hs.newsLen,cP];simp) (by simpa using hr) 0;simp only[List.length_nil,Nat.zero_add]at hg;exact⟨_,_,aV,hg,⟨rfl,rfl,rfl,by simp,fun k hk _=>Below.heap_alloc w.drew _ k hk,fun _=>Nat.le_succ _⟩,⟨_,_,_,rfl⟩,fun g hg=>.inr (by injection hg with hg;simp at hg;omega),fun e0 Es _ t' Ac g hg=>by obtain rfl:=Option.some.inj Ac;(obtain rfl:e=e0:=by rw[hu]at Es;injection Es with Es;injection Es);injection hg with hg;subst hg;exact⟨rfl,_,_,heap_alloc_new w.drew _⟩⟩)
 ·obtain⟨us,u7,huc,OA,Z2⟩:=nF xs h9;by_cases BM:xs.length+ys.length≤cap;(·(have gS:o+xs.length*i.size+news.length≤cur.size:=by rw[hs.newsLen,Nat.add_assoc,←Nat.add_mul,cP];exact Nat.le_trans (Nat.add_le_add_left (Nat.mul_le_mul_right _ BM) _) h8);have aV:=r6 (P:=E.P) (ty:=ty) hu hi h7 hs BM gS;refine⟨_,_,aV,?_,?_,⟨_,_,_,rfl⟩,fun g hg=>.inl hg,fun e0 _ ik=>(by exact ik.U4 rfl h7 (setRow_heap w g cur _ e' _ h7))⟩;(·have hh:=setRow_heap w g cur (cur.toList.take (o+xs.length*i.size)++news++cur.toList.drop (o+xs.length*i.size+news.length)).toArray e' _ h7;have hSg: ∀b,M.S b→(w.setRow g (cur.toList.take (o+xs.length*i.size)++news++cur.toList.drop (o+xs.length*i.size+news.length)).toArray).heap[b]?=w.heap[b]?:=fun b hb=>setRow_other w g b _ (fun e=>h5 (e▸hb));refine⟨_,rfl,by rw[List.length_append];omega,.inr ⟨g,o,cap,_,e',by rw[List.length_append],by rw[List.length_append];exact BM,h4,h5,h6,hh,?_,?_⟩⟩;(·simp only[List.size_toArray,List.length_append,List.length_take,List.length_drop,Array.length_toList];omega);·refine uq (vs:=us++news) (by rw[List.length_append,List.length_append,u7,hs.newsLen,cP,Nat.add_mul]) (fun j u hj=>?_) (oP hSg ho u7 Z2 hr);rw[cell_of_row _ _ _ _ _ _ hh];simp only[List.getElem?_toArray];rcases Nat.lt_or_ge j us.length with Z3|Z3;(·rw[List.getElem?_append_left Z3]at hj;have dT:=huc j u hj;rw[cell_of_row _ _ _ _ _ _ h7]at dT;(have BN:o+j<o+xs.length*i.size:=by rw[cP,←u7];omega);rw[List.append_assoc,List.getElem?_append_left (by simp only[List.length_take,Array.length_toList];omega),List.getElem?_take,if_pos BN];simpa using dT);·rw[List.getElem?_append_right Z3]at hj;have N7:j-us.length<news.length:=(List.getElem?_eq_some_iff.1 hj).1;(have Ad:(cur.toList.take (o+xs.length*i.size)).length=o+xs.length*i.size:=by simp only[List.length_take,Array.length_toList];omega);rw[List.append_assoc,List.getElem?_append_right (by rw[Ad,cP,←u7];omega),Ad,List.getElem?_append_left (by rw[cP,←u7];omega)];rw[←hj];congr 1;rw[cP,←u7];omega);·exact eY w g _);·(have hm:ys.length≠0:=by omega);skip;·have aV:=run_append_grow_src (P:=E.P) w t tx ty e i z hu hi hz (some ⟨g,o,none⟩) xs.length cap us (run_firstCells_some w.drew i.size xs.length ⟨g,o,none⟩ xs.length cap us (by rw[u7,cP]) (fun j u hj=>by rw[dJ];exact huc j u hj)) x ys.length news hs (by omega) (by omega) (growslice_fits (by omega) (Oz _ hlen));have hg:=grown (us++news) (by rw[List.length_append,u7,hs.newsLen,cP,Nat.add_mul]) (oP (fun _ _=>rfl) ho u7 Z2 hr) cap;exact⟨_,_,aV,hg,⟨rfl,rfl,rfl,by simp,fun k hk _=>Below.heap_alloc w.drew _ k hk,fun _=>Nat.le_succ _⟩,⟨_,_,_,rfl⟩,fun g hg=>.inr (by injection hg with hg;simp at hg;omega),fun e0 Es _ t' Ac g hg=>by obtain rfl:=Option.some.inj Ac;(obtain rfl:e=e0:=by rw[hu]at Es;injection Es with Es;injection Es);injection hg with hg;subst hg;exact⟨rfl,_,_,heap_alloc_new w.drew _⟩⟩
end Go.Proofs.Ytefpgfdemmllpaa
namespace Go.Proofs.Ytefpgfdemmllpaa
open Go.RowKit
theorem cD {P:Program} {o:Oper} {a:Act} {w w':World} {v:Value} {K:Act→World→Prop} {Q:Exit→Act→World→Prop} (h:(execOp a.eval o).run P w= .ok (.value v) w')(hk:K (a.put o.dst v) w'):o.wp P a w K Q:=by
 unfold Oper.wp;rw[h];exact hk
theorem jI {P:Program} {o:Oper} {a:Act} {w w':World} {K:Act→World→Prop} {Q:Exit→Act→World→Prop} (h:(execOp a.eval o).run P w= .ok .skip w')(hk:K (a.put o.dst undef) w'):o.wp P a w K Q:=by
 unfold Oper.wp;rw[h];exact hk
theorem j7 {P:Program} {o:Oper} {a:Act} {w w':World} {f:FuncId} {args:Array Value} {K:Act→World→Prop} {Q:Exit→Act→World→Prop} (h:(execOp a.eval o).run P w= .ok (.enter f args) w')(hk:Calls P f args w' fun e Ov=> ∃v,e= .returned v∧K (a.put o.dst v) Ov):o.wp P a w K Q:=by
 unfold Oper.wp;rw[h];refine hk.mono ?_;rintro e Ov⟨v,rfl,hv⟩;exact hv
section
variable {E:Env} {n:Nat} {w0:World} {S0:Cx} {s:St} {a:Act} {w:World} {ν:Nat→Value} {S:Nat→Prop} {F:cT} {o:Oper} {K:St→Prop} {Q:Exit→Act→World→Prop}
theorem bq(ho:cd n o=true): ∀d,o.dst=some d→d<n:=by intro d hd;simp only[cd,hd,Bool.and_eq_true]at ho;have:=ho.2;simp only[Nat.blt_eq]at this;exact this
theorem aD(ho:cd n o=true) {x:Operand} (hx:x∈o.op.operands):lM x=true:=by simp only[cd,Bool.and_eq_true,List.all_eq_true]at ho;exact ho.1 x (Array.mem_toList_iff.2 hx)
theorem Full.val(h:Full n w0 S0 s a w ν S)(ho:cd n o=true) {p:PV} {v:Value} (hr:(execOp a.eval o).run E.P w= .ok (.value v) w)(hp:ae h.c p v)(hK:K (s.fin o.dst (.val p))):o.wp E.P a w (fun a' w'=> ∃s',K s'∧Rel n w0 S0 s' a' w') Q:=cD hr ⟨_,hK,(h.put (bq ho) hp).rel⟩
theorem bC {c:Ctx} {k:IntKind} {x:Int} {v:Value} (h:ae c (.iv (.int k) x) v):v= .int k x∧k.min≤x∧x≤k.max:=by
 simp only[ae]at h;obtain⟨_,hv,h⟩:=h;injection hv with hv;exact⟨hv,h⟩
theorem cm {c:Ctx} {k:IntKind} {x:Int} (h:k.min≤x∧x≤k.max):ae c (.iv (.int k) x) (.int k x):=by simp only[ae];exact⟨rfl,rfl,h⟩
theorem il {c:Ctx} {x:Bool} {v:Value} (h:ae c (.iv .bool x) v):v= .bool x:=by simp only[ae]at h;obtain⟨_,hv⟩:=h;injection hv
theorem bI {c:Ctx} {x:Bool} :ae c (.iv .bool x) (.bool x):=by simp only[ae];exact⟨rfl,rfl⟩
theorem dK {c:Ctx} {x:List UInt8} {v:Value} (h:ae c (.iv .str x) v):v= .string ⟨x.toArray⟩∧x.length≤9223372036854775807:=by
 simp only[ae]at h;obtain⟨_,hv,h⟩:=h;injection hv with hv;exact⟨hv,h⟩
theorem mQ {c:Ctx} {x:List UInt8} (h:x.length≤9223372036854775807):ae c (.iv .str x) (.string ⟨x.toArray⟩):=by simp only[ae];exact⟨rfl,rfl,h⟩
theorem OB(h:Full n w0 S0 s a w ν S)(ho:cd n o=true) {x:Operand} (aK:o.op= .move x)(ab:a8 E (ai E F s o) (fun l=>K (s.fin o.dst l))):o.wp E.P a w (fun a' w'=> ∃s',K s'∧Rel n w0 S0 s' a' w') Q:=by
 simp only[ai,aK,a8]at ab;refine h.val ho ?_ (h.ev (aD ho (by simp[aK,Op.operands]))) ab;simp only[execOp,aK,Sem.run_pure]
theorem HX(h:Full n w0 S0 s a w ν S)(ho:cd n o=true) {x:Operand} (aK:o.op= .assign x)(ab:a8 E (ai E F s o) (fun l=>K (s.fin o.dst l))):o.wp E.P a w (fun a' w'=> ∃s',K s'∧Rel n w0 S0 s' a' w') Q:=by
 simp only[ai,aK,a8]at ab;refine h.val ho ?_ (h.ev (aD ho (by simp[aK,Op.operands]))) ab;simp only[execOp,aK,Sem.run_pure]
theorem BO(h:Full n w0 S0 s a w ν S)(ho:cd n o=true) {x:Operand} (aK:o.op= .nilCheck x)(ab:a8 E (ai E F s o) (fun l=>K (s.fin o.dst l))):o.wp E.P a w (fun a' w'=> ∃s',K s'∧Rel n w0 S0 s' a' w') Q:=by
 simp only[ai,aK]at ab;have hx:=h.ev (aD ho (x:=x) (by simp[aK,Op.operands]));(have fin: ∀ {p:PV} {ad:Addr},ae h.c p (a.eval x)→a.eval x= .pointer (some ad)→K (s.fin o.dst (.val p))→o.wp E.P a w (fun a' w'=> ∃s',K s'∧Rel n w0 S0 s' a' w') Q:=by intro p ad hr he hk;rw[he]at hr;refine h.val ho ?_ hr hk;simp only[execOp,aK,he,Sem.run_pure])
 split at ab;(·rename_i id off bS;rw[bS]at hx;have kR:=hx;simp only[ae]at kR;obtain⟨_,g,_,hv⟩:=kR;exact fin hx hv ab);(·rename_i U y off bS;rw[bS]at hx;have kR:=hx;simp only[ae]at kR;obtain⟨_,g,ob,cs,hv,_⟩:=kR;exact fin hx hv ab)
 (·rename_i id sz i off bS;rw[bS]at hx;have kR:=hx;simp only[ae]at kR;obtain⟨_,g,ob,n,cap,_,_,hv⟩:=kR;exact fin hx hv ab);(·rename_i U y bS;rw[bS]at hx;have kR:=hx;simp only[ae,lz,cH,aB]at kR;obtain⟨iL,g,ob,cs,hv,hS,hl,hc,hr⟩:=kR;simp only[List.cons.injEq,and_true]at hv;refine fin (p:=.eh U y 0) (ad:=⟨g,ob,none⟩) ?_ hv ab;simp only[ae];exact⟨iL,g,ob,cs,hv,hS,hl,hc,hr⟩)
 ·exact ab.elim
theorem Et: ∀ {T:Ty},iR T=true→aL T=0:=by
 intro T;induction T with|own t=>intro h;cases h|pair a b gE fK=>intro h;simp only[iR,Bool.and_eq_true]at h;simp only[aL,gE h.1,fK h.2]|bk a b gE fK=>intro h;simp only[iR,Bool.and_eq_true]at h;simp only[aL,gE h.1,fK h.2]|mp a b gE fK=>intro h;simp only[iR,Bool.and_eq_true]at h;simp only[aL,gE h.1,fK h.2]|st t ih=>exact ih|sl t ih=>exact ih|ptr t ih=>exact ih|iF f t ih=>exact ih|_=>intro _;rfl
theorem OC(h:Full n w0 S0 s a w ν S)(ho:cd n o=true) {x y z:Operand} (aK:o.op= .pick x y z)(ab:a8 E (ai E F s o) (fun l=>K (s.fin o.dst l))):o.wp E.P a w (fun a' w'=> ∃s',K s'∧Rel n w0 S0 s' a' w') Q:=by
 simp only[ai,aK]at ab;have hx:=h.ev (aD ho (x:=x) (by simp[aK,Op.operands]));have hy:=h.ev (aD ho (x:=y) (by simp[aK,Op.operands]));have hz:=h.ev (aD ho (x:=z) (by simp[aK,Op.operands]))
 split at ab;(·rename_i b hb;rw[hb]at hx;have hv:=il hx;cases b;(·refine h.val ho ?_ hz ab;simp[execOp,aK,hv,asBool]);·refine h.val ho ?_ hy ab;simp[execOp,aK,hv,asBool])
 ·exact ab.elim
theorem OD(w:World)(row:Option Nat):dD w w.drew row:=⟨rfl,rfl,rfl,Nat.le_refl _,fun _ _ _=>rfl,fun _=>Nat.le_succ _⟩
theorem r8(hE:aI E)(h:Full n w0 S0 s a w ν S)(ho:cd n o=true) {t:Nat} {x:Operand} (aK:o.op= .makeInterface t x)(ab:a8 E (ai E F s o) (fun l=>K (s.fin o.dst l))):o.wp E.P a w (fun a' w'=> ∃s',K s'∧Rel n w0 S0 s' a' w') Q:=by
 simp only[ai,aK]at ab;have hx:=h.ev (aD ho (x:=x) (by simp[aK,Op.operands]));split at ab;(·rename_i hc;have hc:=hE.HK t hc;unfold Ox at hc;refine h.val ho (p:=.mD t [s.ev x]) (v:=.iface t (a.eval x)) ?_ (by simp only[ae,ah];exact⟨_,rfl,_,[],rfl,hx,rfl⟩) ab;cases hu:E.P.underlying t with|none=>rw[hu]at hc;cases hc|some d=>rw[hu]at hc;(have hi:(Instr.makeInterface t (a.eval x)).run E.P w= .ok (.iface t (a.eval x)) w:=by unfold Instr.makeInterface;simp only[Sem.run_bind,run_underlying hu,Result.andThen_ok];cases d<;>first|(cases hc;done)|rfl);simp only[execOp,aK,Sem.run_bind,hi,Result.andThen_ok,Sem.run_pure])
 ·exact ab.elim
theorem xX(hE:aI E)(h:Full n w0 S0 s a w ν S)(ho:cd n o=true) {x:Operand} {xt u:Nat} {ok:Bool} (aK:o.op= .typeAssert x xt u ok)(ab:a8 E (ai E F s o) (fun l=>K (s.fin o.dst l))):o.wp E.P a w (fun a' w'=> ∃s',K s'∧Rel n w0 S0 s' a' w') Q:=by
 simp only[ai,aK]at ab;have hx:=h.ev (aD ho (x:=x) (by simp[aK,Op.operands]));split at ab;(·rename_i hc;have hc:=hE.HK u hc;unfold Ox at hc;unfold zX at ab;split at ab;(·rename_i t q bS;rw[bS]at hx;simp only[ae,ah]at hx;obtain⟨v,hv,v',r,Oy,hq,hr⟩:=hx;subst hr;injection Oy with Oy;subst Oy;(have hi:Nat.beq t u=true→(Instr.typeAssert (a.eval x) xt u ok).run E.P w= .ok (if ok then .tuple #[v,.bool true]else v) w:=fun hb=>by have e:=Nat.eq_of_beq_eq_true hb;subst e;rw[hv];cases hu:E.P.underlying t with|none=>rw[hu]at hc;cases hc|some d=>rw[hu]at hc;unfold Instr.typeAssert;simp only[Sem.run_bind,run_underlying hu,Result.andThen_ok];cases d<;>first|(cases hc;done)|simp);split at ab;(·rename_i hb;refine h.val (v:=.tuple #[v,.bool true]) ho ?_ ?_ ab;(·have:=hi hb;simp only[execOp,aK,Sem.run_bind,this,Result.andThen_ok,Sem.run_pure,if_true];try rfl);·simp only[ae,ah];exact⟨[v,.bool true],rfl,v,_,rfl,hq,.bool true,[],rfl,bI,rfl⟩);(·rename_i hb;refine h.val (v:=v) ho ?_ hq ab;have:=hi hb;simp only[execOp,aK,Sem.run_bind,this,Result.andThen_ok,Sem.run_pure,Bool.false_eq_true,if_false];try rfl);·exact ab.elim);·exact ab.elim)
 ·exact ab.elim
theorem Full.Kb(h:Full n w0 S0 s a w ν S) {d:Nat} (hd:d<n)(hl:look d s.bl=none) {cs:List PV} {vs:List Value} {e:TypeId} {te:Option Nat} (TT: ∀t,te=some t→e=t)(h1: ∀u,u∈vs→u.oneCell'=true)(hp:ah h.c cs vs):Rel n w0 S0 ⟨(d,.ref d 0)::s.sl,(d,.box cs te)::s.bl⟩ (a.put (some d) (.pointer (some ⟨w.heap.size,0,none⟩))) (w.alloc (.cells vs.toArray e)):=by
 have hD:(⟨(d,.ref d 0)::s.sl,(d,.box cs te)::s.bl⟩:St).D d:=⟨_,aY _ _ _⟩;(have cu: ∀i,s.D i→i≠d∧(⟨(d,.ref d 0)::s.sl,(d,.box cs te)::s.bl⟩:St).D i:=by rintro i⟨c,hc⟩;(have cu:i≠d:=by rintro rfl;rw[hl]at hc;cases hc);exact⟨cu,c,by rw[aS _ _ cu];exact hc⟩)
 have hle:Ctx.Le h.c ⟨fun i=>if i=d then .pointer (some ⟨w.heap.size,0,none⟩)else ν i,(⟨(d,.ref d 0)::s.sl,(d,.box cs te)::s.bl⟩:St).D,w.alloc (.cells vs.toArray e),⟨S,aF w0 S0⟩⟩:=⟨fun g hg=>Below.heap_alloc w _ g (h.W.lt g hg),fun _ h=>h,fun i hi=>(cu i hi).2,fun i hi=>by simp[(cu i hi).1,Full.c]⟩
 refine(h.new (b:=.box cs te) (p:=.ref d 0) (v:=.pointer (some ⟨w.heap.size,0,none⟩)) (val:=.pointer (some ⟨w.heap.size,0,none⟩)) hd hl (ey w _ none) (fun g hg=>h.beyond (by injection hg with hg;simp at hg;omega)) ?_ ?_).rel
 (·exact⟨fun t ht g hg=>by simp only[if_true,aq,Option.some.injEq]at hg;subst hg;rw[←TT t ht];exact⟨by simp[J4],_,_,_root_.Go.heap_alloc_new w _⟩,w.heap.size,vs.toArray,e,by simp,h.W.size _ (Nat.le_refl _),fun hS=>absurd (h.W.lt _ hS) (by simp),_root_.Go.heap_alloc_new w _,by simpa using h1,by simpa using bZ hle hp⟩)
 ·simp only[ae];exact⟨hD,w.heap.size,by simp,rfl⟩
theorem mR {c:Ctx} : ∀(T:Ty)(cs:List PV),zeroCells T=some cs→ ∃vs,cU T=some vs∧ah c cs vs∧ ∀u,u∈vs→u.oneCell'=true:=by
 intro T;induction T with|unit=>intro cs h;simp only[zeroCells,Option.some.injEq]at h;subst h;exact⟨[],rfl,by simp only[ah],by simp⟩|int k=>intro cs h;simp only[zeroCells,Option.some.injEq]at h;subst h;refine⟨[.int k 0],rfl,?_,by simp[Value.oneCell']⟩;simp only[ah];exact⟨_,[],rfl,cm (by cases k<;>decide),rfl⟩|bool=>intro cs h;simp only[zeroCells,Option.some.injEq]at h;subst h;exact⟨[.bool false],rfl,by simp only[ah];exact⟨_,[],rfl,bI,rfl⟩,by simp[Value.oneCell']⟩|str=>intro cs h;simp only[zeroCells,Option.some.injEq]at h;subst h;exact⟨[.string ⟨#[]⟩],rfl,by simp only[ah];exact⟨_,[],rfl,mQ (by simp),rfl⟩,by simp[Value.oneCell']⟩|sl t=>intro cs h;simp only[zeroCells,Option.some.injEq]at h;subst h;exact⟨[.slice none 0 0],rfl,by simp only[ah,ae];exact⟨_,[],rfl,rfl,rfl⟩,by simp[Value.oneCell']⟩|own t=>intro cs h;simp[zeroCells]at h|bk a b=>intro cs h;simp[zeroCells]at h|ptr t=>intro cs h;simp only[zeroCells,Option.some.injEq]at h;subst h;exact⟨[.pointer none],rfl,by simp only[ah,ae];exact⟨_,[],rfl,rfl,rfl⟩,by simp[Value.oneCell']⟩|iF f t=>intro cs h;simp[zeroCells]at h|mp a b=>intro cs h;simp only[zeroCells]at h;split at h;(·rename_i hn;simp only[Option.some.injEq]at h;subst h;exact⟨[.map none],rfl,by simp only[ah,ae,lz,cH,aB];exact⟨_,[],rfl,⟨Et hn,by simp,.inl ⟨rfl,trivial⟩⟩,rfl⟩,by simp[Value.oneCell']⟩);(·simp only[Option.some.injEq]at h;subst h;exact⟨[.map none],rfl,by simp only[ah,ae];exact⟨_,[],rfl,trivial,rfl⟩,by simp[Value.oneCell']⟩)|ba=>intro cs h;simp only[zeroCells,Option.some.injEq]at h;subst h;exact⟨[.nilFunc],rfl,by simp only[ah,ae];exact⟨_,[],rfl,trivial,rfl⟩,by simp[Value.oneCell']⟩|st t ih=>intro cs h;exact ih cs h|pair a b gE fK=>intro cs h;simp only[zeroCells]at h;split at h;(·rename_i x y hx hy;simp only[Option.some.injEq]at h;subst h;obtain⟨va,ha,HW,h1a⟩:=gE x hx;obtain⟨vb,hb,hpb,h1b⟩:=fK y hy;refine⟨va++vb,by simp only[cU,ha,hb],bJ HW hpb,fun u hu=>?_⟩;rcases List.mem_append.1 hu with hu|hu;(·exact h1a u hu);·exact h1b u hu);·cases h
theorem jJ {T:Ty} {z:Value} {vs:List Value} (hz:mM (some z) T=true)(hv:cU T=some vs):z.cells.toList=vs:=by
 unfold mM at hz;rw[hv]at hz;simp only at hz;split at hz;(·split at hz;(·exact j6 hz);·cases hz);·split at hz;(·rename_i u;have:=lL hz;subst this;unfold BA at hz;split at hz<;>first|rfl|cases hz);·cases hz
theorem Kc(hE:aI E)(h:Full n w0 S0 s a w ν S)(ho:cd n o=true) {t:Nat} (aK:o.op= .alloc t)(ab:a8 E (ai E F s o) (fun l=>K (s.fin o.dst l))):o.wp E.P a w (fun a' w'=> ∃s',K s'∧Rel n w0 S0 s' a' w') Q:=by
 simp only[ai,aK]at ab;split at ab;(·rename_i T d hT hd;split at ab;(·rename_i cs hl hz;simp only[a8,St.fin,hd]at ab;obtain⟨vs,Ae,hp,h1⟩:=mR (c:=h.c) T cs hz;obtain⟨i,hi,_,_,BP,z,Z4,_⟩:=(hE.facts hT).info;rw[Z4]at BP;have N9:=jJ BP Ae;(have hr:(execOp a.eval o).run E.P w= .ok (.value (.pointer (some ⟨w.heap.size,0,none⟩))) (w.alloc (.cells vs.toArray t)):=by simp only[execOp,aK,Instr.alloc,Sem.run_bind,zeroValue,typeInfo,Sem.run_bind,run_program,Result.andThen_ok,hi,Z4,Sem.run_pure,newVar,newRow,run_newObj];rw[←N9];rfl);refine cD hr ⟨_,ab,?_⟩;rw[hd];exact h.Kb (bq ho d hd) hl (fun t' ht=>by cases hb:E.Eg t with|true=>(rw[hb]at ht;exact Option.some.inj ht)|false=>(rw[hb]at ht;cases ht)) h1 hp);·exact ab.elim)
 ·exact ab.elim
theorem Va(h:Full n w0 S0 s a w ν S)(ho:cd n o=true) {t:Nat} {x:Operand} (aK:o.op= .box t x)(ab:a8 E (ai E F s o) (fun l=>K (s.fin o.dst l))):o.wp E.P a w (fun a' w'=> ∃s',K s'∧Rel n w0 S0 s' a' w') Q:=by
 simp only[ai,aK]at ab;have hx:=h.ev (aD ho (x:=x) (by simp[aK,Op.operands]));split at ab;(·rename_i d cs hd BQ;split at ab;(·rename_i hl;simp only[a8,St.fin,hd]at ab;obtain⟨hp,h1⟩:=jD hx BQ;(have hr:(execOp a.eval o).run E.P w= .ok (.value (.pointer (some ⟨w.heap.size,0,none⟩))) (w.alloc (.cells (a.eval x).cells.toList.toArray t)):=by simp only[execOp,aK,Instr.box,Sem.run_bind,newVar,newRow,run_newObj,Result.andThen_ok,Sem.run_pure,Array.toArray_toList];rfl);refine cD hr ⟨_,ab,?_⟩;rw[hd];exact h.Kb (bq ho d hd) hl (fun t' ht=>by cases ht) h1 hp);·exact ab.elim)
 ·exact ab.elim
theorem Full.r9(h:Full n w0 S0 s a w ν S) {d:Nat} (hd:d<n)(hl:look d s.bl=none) {T:Ty} {te:Option Nat} {xs:List T.den} {v:Value} {w':World} (hT:aL T=0)(hw:dD w w' none)(hs: ∃a n c,v= .slice a n c)(gj: ∀g,aq v=some g→w.heap.size≤g)(hr:aB (.own T) xs w' ⟨S,aF w0 S0⟩ [v])(TT:fw te w' v):Rel n w0 S0 ⟨(d,.aE d)::s.sl,(d,.arr T xs te)::s.bl⟩ (a.put (some d) v) w':=by
 refine(h.new (b:=.arr T xs te) (p:=.aE d) (v:=v) (val:=v) hd hl hw (fun g hg=>h.beyond (gj g hg)) ?_ ?_).rel;(·exact⟨TT.iY (by simp) fun _ _=>rfl,hT,by simpa using hr⟩)
 ·simp only[ae];exact⟨⟨_,aY _ _ _⟩,by simp,hs⟩
theorem gT(s:St): ∀(l:List (Nat×Operand)),cS s l=l.map fun p=>(p.1,s.ev p.2)|[]=>rfl|p::l=>by simp[cS,gT s l]
theorem qc(s:St): ∀(l:List Operand),b7 s l=l.map s.ev|[]=>rfl|p::l=>by simp[b7,qc s l]
theorem fN(h:Full n w0 S0 s a w ν S): ∀(l:List Operand),(∀x,x∈l→lM x=true)→ah h.c (b7 s l) (l.map a.eval)|[],_=>(by simp only[b7,List.map_nil,ah])|x::l,hc=>by simp only[b7,List.map_cons,ah];exact⟨_,_,rfl,h.ev (hc x (by simp)),fN h l (fun y hy=>hc y (by simp[hy]))⟩
end
/-! ### Literals -/
theorem BR: ∀(vs:List Value)(k off:Nat)(cells:Array Value),off+k+vs.length≤cells.size→((vs.zipIdx k).foldl (fun cs p=>cs.setIfInBounds (off+p.2) p.1) cells).toList=cells.toList.take (off+k)++vs++cells.toList.drop (off+k+vs.length)|[],k,off,cells,h=>(by simp)|v::vs,k,off,cells,h=>by simp only[List.length_cons]at h;simp only[List.zipIdx_cons,List.foldl_cons];rw[BR vs (k+1) off _ (by simp;omega)];simp only[Array.toList_setIfInBounds];(have h1:(cells.toList.set (off+k) v).take (off+(k+1))=cells.toList.take (off+k)++ [v]:=by rw[show off+(k+1)=(off+k)+1 from by omega,List.take_succ_eq_append_getElem (by simp;omega)];rw[List.take_set_of_le (by omega),List.getElem_set_self]);(have h2:(cells.toList.set (off+k) v).drop (off+(k+1)+vs.length)=cells.toList.drop (off+k+(v::vs).length):=by rw[List.drop_set_of_lt (by omega)];congr 1;simp;omega);rw[h1,h2];simp
theorem BS {place:Nat→Option (Nat×Nat)} {i off size:Nat} {v:Value} {cells:Array Value} {rest:List (Nat×Value)} (hp:place i=some (off,size))(hs:v.cells.size=size)(hf:off+v.cells.size≤cells.size):Instr.fill place cells ((i,v)::rest)=Instr.fill place (cells.toList.take off++v.cells.toList++cells.toList.drop (off+v.cells.size)).toArray rest:=by
 simp only[Instr.fill,hp];rw[if_neg (by simp[hs];omega)];congr 1;have:=BR v.cells.toList 0 off cells (by simpa using hf);simp only[Nat.add_zero]at this;(have e:(v.cells.zipIdx.foldl (fun cs x=>match x with|(c,j)=>cs.setIfInBounds (off+j) c) cells)=(v.cells.toList.zipIdx.foldl (fun cs p=>cs.setIfInBounds (off+p.2) p.1) cells):=by rw[←Array.foldl_toList,Array.toList_zipIdx])
 rw[e];apply Array.toList_inj.1;rw[this];simp
theorem BT {c:Ctx} {T:Ty} {place:Nat→Option (Nat×Nat)} (xM: ∀i,i<kC T→place i=some (iU T i,(mh T i).cells)): ∀(ps:List (Nat×PV))(vs:List (Nat×Value))(cs BL:List PV)(cells:Array Value),ps.length=vs.length→(∀(k:Nat)(p:Nat×PV)(v:Nat×Value),ps[k]?=some p→vs[k]?=some v→p.1=v.1∧ae c p.2 v.2)→ah c cs cells.toList→(∀u,u∈cells.toList→u.oneCell'=true)→yu T ps cs=some BL→ ∃out,Instr.fill place cells vs=some out∧ah c BL out.toList∧ ∀u,u∈out.toList→u.oneCell'=true|[],[],cs,BL,cells,_,_,hc,h1,h=>(by simp only[yu,Option.some.injEq]at h;subst h;exact⟨cells,rfl,hc,h1⟩)|[],_::_,_,_,_,hl,_,_,_,_=>(by cases hl)|_::_,[],_,_,_,hl,_,_,_,_=>(by cases hl)|p::ps,v::vs,cs,BL,cells,hl,hr,hc,h1,h=>by obtain⟨JH,bf⟩:=hr 0 p v rfl rfl;simp only[yu]at h;split at h;(·rename_i us TU;obtain⟨ab0,qd⟩:=jD bf TU;split at h;(·rename_i hle ji cM;(have hlen:us.length=(mh T p.1).cells:=by(have: ∀ {α:Type} (l:List α)(k:Nat),uU l k=true→l.length=k:=by intro α l;induction l with|nil=>intro k hk;(cases k<;>first|rfl|cases hk)|cons x l ih=>intro k hk;cases k with|zero=>cases hk|succ k=>simp[ih k hk]);exact this _ _ hle);(have xW:us.length=v.2.cells.size:=by rw[cO ab0];simp);have fZ:=cO hc;have dE:=Nat.le_of_ble_eq_true ji;(have BN:p.1<kC T:=by simpa[Nat.blt_eq]using cM);(have ar4:cs.length=cells.size:=by rw[fZ];simp);obtain⟨pi,pv⟩:=p;obtain⟨vi,vv⟩:=v;simp only at JH BN hlen xW dE;subst JH;rw[BS (xM pi BN) (by rw[←xW,hlen]) (by rw[←xW,←ar4];exact dE)];refine BT xM ps vs _ BL _ (by simpa using hl) (fun k p' v' BU Kd=>hr (k+1) p' v' BU Kd) ?_ ?_ h;(·simp only[xW];exact bJ (bJ (dm _ hc) ab0) (dk _ hc));·intro u hu;simp only[List.mem_append]at hu;rcases hu with(hu|hu)|hu;(·exact h1 u (List.mem_of_mem_take hu));(·exact qd u hu);·exact h1 u (List.mem_of_mem_drop hu));·cases h);·cases h
end Go.Proofs.Ytefpgfdemmllpaa
namespace Go.Proofs.Ytefpgfdemmllpaa
open Go.RowKit
section
variable {E:Env} {n:Nat} {w0:World} {S0:Cx} {s:St} {a:Act} {w:World} {ν:Nat→Value} {S:Nat→Prop} {F:cT} {o:Oper} {K:St→Prop} {Q:Exit→Act→World→Prop}
theorem s9 {ty:Nat→Option Ty} : ∀(fs:List Field)(R:Ty)(off:Nat),bA ty fs R off=true→ ∀(i:Nat),i<bY R→ ∃f,fs[i]?=some f∧f.offset=off+dY R i∧ty f.type=some (bm R i)∧1≤(bm R i).cells∧(bm R i).val=true∧f.name≠ "_" |[],R,off,h,i,hi=>(by cases h)|[f],R,off,h,i,hi=>(by simp only[bA,Bool.and_eq_true,mN]at h;obtain⟨⟨⟨⟨h1,h2⟩,h3⟩,h4⟩,h5⟩:=h;(have cu: ∀x y,R≠ .pair x y:=by rintro x y rfl;cases h4);(have fZ:bY R=1:=by cases R<;>first|rfl|exact absurd rfl (cu _ _));(have hi0:i=0:=by omega);subst hi0;(have N8:dY R 0=0:=by cases R<;>first|rfl|exact absurd rfl (cu _ _));(have Bk:bm R 0=R:=by cases R<;>first|rfl|exact absurd rfl (cu _ _));split at h2;(·rename_i U hU;rw[Ty.cJ h2]at hU;exact⟨f,rfl,by rw[N8,Nat.eq_of_beq_eq_true h1];omega,by rw[Bk];exact hU,by rw[Bk];exact Nat.le_of_ble_eq_true h3,by rw[Bk];exact h4,by simpa using h5⟩);·cases h2)|f::g::gs,R,off,h,i,hi=>by cases R with|pair x y=>simp only[bA,Bool.and_eq_true,mN]at h;obtain⟨⟨⟨⟨⟨h1,h2⟩,h3⟩,h4⟩,h5⟩,h6⟩:=h;split at h2;(·rename_i U hU;rw[Ty.cJ h2]at hU;cases i with|zero=>exact⟨f,rfl,by simp[dY,Nat.eq_of_beq_eq_true h1],hU,Nat.le_of_ble_eq_true h3,h4,by simpa using h5⟩|succ i=>obtain⟨f',e1,e2,e3⟩:=s9 (g::gs) y (off+x.cells) (by unfold bA;exact h6) i (by simp[bY]at hi;omega);exact⟨f',by simpa using e1,by simp only[dY];omega,e3⟩);(·cases h2)|_=>simp only[bA]at h;cases h
theorem qe {ty:Nat→Option Ty} : ∀(fs:List Field)(R:Ty)(off:Nat),bA ty fs R off=true→fs.length=bY R|[],R,off,h=>(by cases h)|[f],R,off,h=>(by simp only[bA,Bool.and_eq_true]at h;have h4:=h.1.2;cases R<;>first|rfl|cases h4)|f::g::gs,R,off,h=>by cases R with|pair x y=>simp only[bA,Bool.and_eq_true]at h;have:=qe (g::gs) y (off+x.cells) (by unfold bA;exact h.2);simp only[List.length_cons]at this⊢;simp only[bY];omega|_=>simp only[bA]at h;cases h
theorem nG(V:Ty)(hV:V.val=true): ∀n,0<n→bY (rowOf V n)=n|0,h=>(by cases h)|1,_=>(by cases V<;>first|rfl|cases hV)|n+2,_=>by simp only[rowOf,bY];rw[nG V hV (n+1) (by omega)];omega
theorem kS(V:Ty)(hV:V.val=true): ∀n i,i<n→dY (rowOf V n) i=i*V.cells∧bm (rowOf V n) i=V|0,i,h=>(by cases h)|1,i,h=>(by(have:i=0:=by omega);subst this;cases V<;>first|exact⟨by simp[rowOf,dY],rfl⟩|cases hV)|n+2,0,_=>(by simp[rowOf,dY,bm])|n+2,i+1,h=>by obtain⟨h1,h2⟩:=kS V hV (n+1) i (by omega);simp only[rowOf,dY,bm];exact⟨by rw[h1,Nat.add_mul];omega,h2⟩
theorem mS(V:Ty): ∀n,(rowOf V n).cells=n*V.cells|0=>(by simp[rowOf,Ty.cells])|1=>(by simp[rowOf])|n+2=>by simp only[rowOf,Ty.cells];rw[mS V (n+1),Nat.add_mul (n+1) 1];omega
theorem cq.agg(hE:aI E) {t:Nat} {R:Ty} (h:cq E t (.st R)):(∃fs,E.P.underlying t=some (.struct fs)∧fs.size=bY R∧ ∀i,i<bY R→ ∃f,fs[i]?=some f∧f.offset=dY R i∧E.ty f.type=some (bm R i)∧1≤(bm R i).cells∧(bm R i).val=true∧f.name≠ "_")∨(∃m e V,E.P.underlying t=some (.array m e)∧E.ty e=some V∧R=rowOf V m∧V.val=true∧1≤V.cells∧2≤m):=by
 obtain⟨d,hd,hs⟩:=h.ow;(cases d<;>simp only[cK]at hs<;>first|cases hs|skip);(·rename_i m e;split at hs;(·rename_i V hV;simp only[Bool.and_eq_true]at hs;exact .inr ⟨_,_,V,hd,hV,Ty.cJ hs.1.1.1,hs.1.1.2,Nat.le_of_ble_eq_true hs.1.2,Nat.le_of_ble_eq_true hs.2⟩);·cases hs)
 ·rename_i fs;refine .inl ⟨fs,hd,by simpa using qe _ _ _ hs,fun i hi=>?_⟩;obtain⟨f,h1,h2,h3⟩:=s9 fs.toList R 0 hs i hi;exact⟨f,by simpa using h1,by simpa using h2,h3⟩
theorem Ke(hE:aI E)(h:Full n w0 S0 s a w ν S)(ho:cd n o=true) {t:Nat} {parts:Array (Nat×Operand)} (aK:o.op= .build t parts)(ab:a8 E (ai E F s o) (fun l=>K (s.fin o.dst l))):o.wp E.P a w (fun a' w'=> ∃s',K s'∧Rel n w0 S0 s' a' w') Q:=by
 simp only[ai,aK]at ab;split at ab;(·rename_i ar5 oh;have he:=hE.emp t ar5;unfold U8 at he;split at he;(·rename_i i fs hi hu;simp only[Bool.and_eq_true]at he;obtain⟨h1,h2⟩:=he;split at h2;(·rename_i cs hz;have BQ:cs= #[]:=Array.toList_inj.1 (by simpa using h2);have hfs:fs= #[]:=Array.toList_inj.1 (by simpa using h1);have rT:parts= #[]:=Array.toList_inj.1 (by rw[oh]);subst BQ;subst hfs;subst rT;refine h.val ho (p:=.agg []) (v:=.agg #[]) ?_ (by simp only[ae,ah];exact⟨[],rfl,by simp,rfl⟩) ab;(have JI:(zeroValue t).run E.P w= .ok (.agg #[]) w:=by simp[zeroValue,typeInfo,hi,hz]);simp[execOp,aK,Instr.build,JI,run_underlying hu,Value.cells,Instr.fill]);·cases h2);·cases he)
 simp only[uW]at ab;split at ab;(·rename_i R hT;split at ab;(·rename_i z hz;split at ab;(·rename_i cs Gi;have hf:=hE.facts hT;obtain⟨vs,Ae,hp,h1⟩:=mR (c:=h.c) (.st R) z hz;obtain⟨i,hi,cP,_,BP,zv,Z4,_⟩:=hf.info;rw[Z4]at BP;have N9:=jJ BP Ae;(have Eu: ∀(k:Nat)(p:Nat×PV)(v:Nat×Value),(cS s parts.toList)[k]?=some p→((parts.map fun x=>(x.1,a.eval x.2)).toList)[k]?=some v→p.1=v.1∧ae h.c p.2 v.2:=by intro k p v hk hv;rw[gT,List.getElem?_map]at hk;simp only[Array.toList_map,List.getElem?_map]at hv;cases hx:parts.toList[k]? with|none=>rw[hx]at hk;cases hk|some x=>rw[hx]at hk hv;simp only[Option.map_some,Option.some.injEq]at hk hv;subst hk;subst hv;refine⟨rfl,h.ev (aD ho ?_)⟩;have hm:x∈parts:=Array.mem_toList_iff.1 (List.mem_of_getElem? hx);simp only[aK,Op.operands,List.mem_toArray,List.mem_map];exact⟨x,Array.mem_toList_iff.2 hm,rfl⟩);(have hlen:(cS s parts.toList).length=((parts.map fun x=>(x.1,a.eval x.2)).toList).length:=by simp[gT]);(have main: ∀place:Nat→Option (Nat×Nat),(∀i,i<kC (.st R)→place i=some (iU (.st R) i,(mh (.st R) i).cells))→ ∃out,Instr.fill place zv.cells (parts.map fun x=>(x.1,a.eval x.2)).toList=some out∧ae h.c (.agg cs) (.agg out):=by intro place xM;obtain⟨out,h2,h3,h4⟩:=BT xM _ _ z cs zv.cells hlen Eu (by rw[N9];exact hp) (by rw[N9];exact h1) Gi;refine⟨out,h2,?_⟩;simp only[ae];exact⟨out.toList,by simp,h4,h3⟩);rcases hf.agg hE with⟨fs,hu,u9,hfa⟩|⟨m,e,V,hu,he,rfl,hV,hV1,hm⟩;(·(have OE: ∀(l:List Field),(∀f,f∈l→ ∃j,E.P.info? f.type=some j)→(l.mapM fun f=>do pure (f.offset,←sizeOf f.type):Sem (List (Nat×Nat))).run E.P w= .ok (l.map fun f=>(f.offset,E.P.cellsOf f.type)) w:=by intro l;induction l with|nil=>intro _;simp|cons f l ih=>intro hl;obtain⟨j,hj⟩:=hl f (by simp);have:=ih (fun g hg=>hl g (by simp[hg]));(have step:(do pure (f.offset,←sizeOf f.type):Sem (Nat×Nat)).run E.P w= .ok (f.offset,E.P.cellsOf f.type) w:=by simp[sizeOf,typeInfo,hj,Program.cellsOf]);rw[List.mapM_cons,Sem.run_bind,step];simp only[Result.andThen_ok];rw[Sem.run_bind,this];simp only[Result.andThen_ok,Sem.run_pure,List.map_cons]);(have ab1: ∀f,f∈fs.toList→ ∃j,E.P.info? f.type=some j:=by intro f Gj;obtain⟨k,hk⟩:=List.getElem?_of_mem Gj;(have Ed:k<bY R:=by rw[←u9];have:=(List.getElem?_eq_some_iff.1 hk).1;simpa using this);obtain⟨f',qd,_,Z5,_⟩:=hfa k Ed;(have:f=f':=by(have:fs.toList[k]?=some f':=by simpa using qd);rw[hk]at this;injection this);subst this;obtain⟨j,hj,_⟩:=(hE.facts Z5).info;exact⟨j,hj⟩);have ab2:=OE fs.toList ab1;obtain⟨out,N8,bf⟩:=main (fun i=>(fs.map fun f=>(f.offset,E.P.cellsOf f.type))[i]?) (fun i s8=>by obtain⟨f,qd,Bl,Z5,_⟩:=hfa i s8;obtain⟨j,hj,hjs,_⟩:=(hE.facts Z5).info;simp only[Array.getElem?_map,qd,Option.map_some,iU,mh,Program.cellsOf,hj,Option.getD_some,hjs,Bl]);refine h.val ho (v:=.agg out) ?_ bf ab;(have HY:(fs.mapM fun f=>do pure (f.offset,←sizeOf f.type):Sem (Array (Nat×Nat))).run E.P w= .ok (fs.map fun f=>(f.offset,E.P.cellsOf f.type)) w:=by rw[Array.mapM_eq_mapM_toList,Sem.run_map,ab2];simp only[Result.andThen_ok];congr 1;exact Array.toList_inj.1 (by simp));simp only[execOp,aK,Instr.build,Sem.run_bind,zeroValue,typeInfo,run_program,Result.andThen_ok,hi,Z4,Sem.run_pure,run_underlying hu,HY,N8]);·obtain⟨j,hj,hjs,_⟩:=(hE.facts he).info;obtain⟨out,N8,bf⟩:=main (fun i=>some (i*V.cells,V.cells)) (fun i s8=>by simp only[kC]at s8;rw[nG V hV m (by omega)]at s8;obtain⟨e1,e2⟩:=kS V hV m i s8;simp only[iU,mh,e1,e2]);refine h.val ho (v:=.agg out) ?_ bf ab;simp only[execOp,aK,Instr.build,Sem.run_bind,zeroValue,typeInfo,run_program,Result.andThen_ok,hi,Z4,Sem.run_pure,run_underlying hu,sizeOf,hj,hjs,N8]);·exact ab.elim);·exact ab.elim)
 ·exact ab.elim
end
end Go.Proofs.Ytefpgfdemmllpaa
namespace Go.Proofs.Ytefpgfdemmllpaa
open Go.RowKit
theorem vf {F F':cT} {bl bl':List (Nat×aO)} : ∀(T:Ty)(ps:List PV)(r:T.den×List PV),PV.en ps=false→PV.ct ps=[]→pk F bl T ps=some r→pk F' bl' T ps=some r∧PV.en r.2=false∧PV.ct r.2=[]:=by
 (have cons: ∀(p:PV)(ps:List PV),PV.en (p::ps)=false→PV.ct (p::ps)=[]→(PV.refs p=false∧PV.iI p=[])∧PV.en ps=false∧PV.ct ps=[]:=by intro p ps h1 h2;simp only[PV.en,Bool.or_eq_false_iff]at h1;simp only[PV.ct,List.append_eq_nil_iff]at h2;exact⟨⟨h1.1,h2.1⟩,h1.2,h2.2⟩)
 intro T;induction T with|unit=>intro ps r h1 h2 h;simp only[pk,Option.some.injEq]at h⊢;subst h;exact⟨rfl,h1,h2⟩|pair a b gE fK=>intro ps r h1 h2 h;simp only[pk]at h⊢;split at h;(·rename_i x r1 hx;obtain⟨e1,h3,h4⟩:=gE ps _ h1 h2 hx;split at h;(·rename_i y r2 hy;obtain⟨e2,h5,h6⟩:=fK r1 _ h3 h4 hy;simp only[Option.some.injEq]at h;subst h;simp only[e1,e2];exact⟨trivial,h5,h6⟩);·cases h);(·cases h)|st t ih=>intro ps r h1 h2 h;simp only[pk]at h⊢;exact ih ps r h1 h2 h|bk a b=>intro ps r h1 h2 h;simp only[pk]at h;cases h|int k=>intro ps r h1 h2 h;(cases ps with|nil=>simp only[pk]at h;cases h|cons p ps=>simp only[pk]at h⊢;obtain⟨x,r'⟩:=r;obtain⟨_,h3,h4⟩:=cons p ps h1 h2;obtain⟨_,rfl⟩:=aQ h;exact⟨h,h3,h4⟩)|bool=>intro ps r h1 h2 h;(cases ps with|nil=>simp only[pk]at h;cases h|cons p ps=>simp only[pk]at h⊢;obtain⟨x,r'⟩:=r;obtain⟨_,h3,h4⟩:=cons p ps h1 h2;obtain⟨_,rfl⟩:=aQ h;exact⟨h,h3,h4⟩)|str=>intro ps r h1 h2 h;(cases ps with|nil=>simp only[pk]at h;cases h|cons p ps=>simp only[pk]at h⊢;obtain⟨x,r'⟩:=r;obtain⟨_,h3,h4⟩:=cons p ps h1 h2;obtain⟨_,rfl⟩:=aQ h;exact⟨h,h3,h4⟩)|sl t ih=>intro ps r h1 h2 h;(cases ps with|nil=>simp only[pk]at h;cases h|cons p ps=>simp only[pk]at h⊢;obtain⟨x,r'⟩:=r;obtain⟨⟨h5,h6⟩,h3,h4⟩:=cons p ps h1 h2;obtain⟨hx,rfl⟩:=aQ h;refine⟨?_,h3,h4⟩;cases p<;>first|(simp[PV.iI]at h6;done)|exact h)|own t ih=>intro ps r h1 h2 h;(cases ps with|nil=>simp only[pk]at h;cases h|cons p ps=>simp only[pk]at h⊢;obtain⟨x,r'⟩:=r;obtain⟨⟨h5,h6⟩,h3,h4⟩:=cons p ps h1 h2;obtain⟨hx,rfl⟩:=aQ h;refine⟨?_,h3,h4⟩;cases p<;>first|(simp[PV.iI]at h6;done)|exact h)|mp a b=>intro ps r h1 h2 h;(cases ps with|nil=>simp only[pk]at h;cases h|cons p ps=>simp only[pk]at h⊢;obtain⟨x,r'⟩:=r;obtain⟨⟨h5,h6⟩,h3,h4⟩:=cons p ps h1 h2;obtain⟨hx,rfl⟩:=aQ h;refine⟨?_,h3,h4⟩;cases p<;>first|(simp[PV.iI]at h6;done)|exact h)|ba=>intro ps r h1 h2 h;(cases ps with|nil=>simp only[pk]at h;cases h|cons p ps=>simp only[pk]at h⊢;obtain⟨x,r'⟩:=r;obtain⟨_,h3,h4⟩:=cons p ps h1 h2;obtain⟨_,rfl⟩:=aQ h;exact⟨h,h3,h4⟩)|ptr t ih=>intro ps r h1 h2 h;(cases ps with|nil=>simp only[pk]at h;cases h|cons p ps=>simp only[pk]at h⊢;obtain⟨x,r'⟩:=r;obtain⟨⟨h5,h6⟩,h3,h4⟩:=cons p ps h1 h2;cases p with|ref i off=>simp[PV.refs]at h5|iv U y=>obtain⟨_,rfl⟩:=aQ h;exact⟨h,h3,h4⟩|eh U y off=>(cases off with|zero=>obtain⟨_,rfl⟩:=aQ h;exact⟨h,h3,h4⟩|succ k=>cases h)|_=>cases h)|iF f t ih=>intro ps r h1 h2 h;cases ps with|nil=>simp only[pk]at h;cases h|cons p ps=>simp only[pk]at h⊢;obtain⟨x,r'⟩:=r;obtain⟨⟨h5,h6⟩,h3,h4⟩:=cons p ps h1 h2;cases p with|iv U y=>obtain⟨_,rfl⟩:=aQ h;exact⟨h,h3,h4⟩|fn g c6=>(cases hb:Nat.beq f g with|false=>simp[hb]at h|true=>simp only[hb,cond_true]at h⊢;obtain⟨hx,rfl⟩:=aQ h;obtain⟨e1,_⟩:=ih c6 _ (by simpa[PV.refs]using h5) (by simpa[PV.iI]using h6) (dp hx);exact⟨by rw[e1];rfl,h3,h4⟩)|_=>cases h
theorem BV {F F':cT} {bl bl':List (Nat×aO)} {T:Ty} {p:PV} {x:T.den} (h1:PV.refs p=false)(h2:PV.iI p=[])(h:exp F bl T p=some x):exp F' bl' T p=some x:=by
 (have pP:PV.en [p]=false:=by simp[PV.en,h1]);(have tc:PV.ct [p]=[]:=by simp[PV.ct,h2]);cases T with|st t=>(cases p with|iv U y=>exact h|agg cs=>simp only[exp]at h⊢;rw[(vf (F':=F') (bl':=bl') t cs _ (by simpa[PV.refs]using h1) (by simpa[PV.iI]using h2) (dp h)).1];rfl|_=>simp only[exp]at h;cases h)|unit=>simp only[exp]at h;cases h|pair a b=>simp only[exp]at h;cases h|bk a b=>simp only[exp]at h;cases h|_=>simp only[exp]at h⊢;rw[(vf (F':=F') (bl':=bl') _ _ _ pP tc (dp h)).1];rfl
theorem cY {id:Nat} {b:aO} : ∀ {bl:List (Nat×aO)},look id bl=some b→aj id (keys bl)=true|[],h=>(by cases h)|p::r,h=>by simp only[look]at h;simp only[keys,List.map_cons,aj];cases hb:Nat.beq id p.1 with|true=>rfl|false=>simp only[hb,cond_false]at h⊢;exact cY h
theorem BW {T:Ty} {c:PV} {x:T.den} (h:mE T c=some x):c= .iv T x:=by
 (cases c<;>simp only[mE]at h<;>first|cases h|skip);rename_i U y;obtain⟨e,hx⟩:=Ty.aZ h;subst e;simp only at hx;rw[hx]
theorem vg {T:Ty} : ∀ {cs:List PV} {xs:List T.den},lF T cs=some xs→cs=xs.map (PV.iv T)|[],xs,h=>(by simp only[lF,Option.some.injEq]at h;subst h;rfl)|c::r,xs,h=>by simp only[lF]at h;split at h;(·rename_i x ys hx mB;simp only[Option.some.injEq]at h;subst h;rw[BW hx,vg mB];rfl);·cases h
theorem sa {T:Ty} (h:J1 T=true)(c:PV):join T [c]=c∧T.cells=1∧T.val=true:=by cases T<;>first|(cases h;done)|exact⟨rfl,rfl,rfl⟩
theorem Gk {T:Ty} {cs:List PV} {base m:Nat} {xs:List T.den} (h:lF T ((cs.drop base).take m)=some xs) {k:Nat} {x:T.den} (hx:xs[k]?=some x):(cs.drop (base+k)).take 1=[.iv T x]∧k<m∧base+k<cs.length:=by
 have hm:=vg h;(have hk:((cs.drop base).take m)[k]?=some (.iv T x):=by rw[hm,List.getElem?_map,hx];rfl);(have hkm:k<m:=by rcases Nat.lt_or_ge k m with h'|h';(·exact h');·rw[List.getElem?_eq_none (by rw[List.length_take];omega)]at hk;cases hk)
 rw[List.getElem?_take,if_pos hkm,List.getElem?_drop]at hk;obtain⟨hl,e⟩:=List.getElem?_eq_some_iff.1 hk;refine⟨?_,hkm,hl⟩;rw[List.drop_eq_getElem_cons hl,e];rfl
section
variable {E:Env} {n:Nat} {w0:World} {S0:Cx} {s:St} {a:Act} {w:World} {ν:Nat→Value} {S:Nat→Prop} {F:cT} {o:Oper} {K:St→Prop} {Q:Exit→Act→World→Prop}
theorem Full.Kf(h:Full n w0 S0 s a w ν S) {T:Ty} {p:PV} {x:T.den} {v:Value} (ho:aL T=0)(h1:PV.refs p=false)(h2:PV.iI p=[])(hx:exp F s.bl T p=some x)(hp:ae h.c p v):cH T x w ⟨S,aF w0 S0⟩ v:=by
 have kR:=BV (F':=⟨keys s.bl,true⟩) (bl':=s.bl) h1 h2 hx;refine dZ (s:=s) (c:=h.c) (M':=⟨S,aF w0 S0⟩) ⟨rfl,h.W.cc,fun _ h=>h,fun id hF hD g hg=>?_⟩ (.inl ho) kR hp
 obtain⟨b,hb⟩:=hD;rw[cY hb]at hF;cases hF
theorem Ev(P:Program)(t:TypeId)(p:Addr)(w:World):(Instr.loadAt t (.pointer (some p))).run P w=(loadVar t p).run P w:=by simp[Instr.loadAt,Instr.sureAddr]
theorem dc.part {w:World} {g o:Nat} {cs:List Value} (h:dc w g o cs)(off k:Nat):dc w g (o+off) ((cs.drop off).take k):=by
 intro j v hj;(have hjk:j<k:=by rcases Nat.lt_or_ge j k with h'|h';(·exact h');·rw[List.getElem?_eq_none (by rw[List.length_take];omega)]at hj;cases hj);rw[List.getElem?_take,if_pos hjk,List.getElem?_drop]at hj
 rw[Nat.add_assoc];exact h _ v hj
theorem nH {w:World} {g:Nat} {vs:Array Value} {e:TypeId} (h:w.heap[g]?=some (.cells vs e (0,0))):dc w g 0 vs.toList:=by
 intro j v hj;rw[cell_of_row w g _ vs e (0,0) h,Nat.zero_add];simpa using hj
theorem OF(hE:aI E)(h:Full n w0 S0 s a w ν S)(ho:cd n o=true) {t:Nat} {x:Operand} (aK:o.op= .load t x)(ab:a8 E (ai E F s o) (fun l=>K (s.fin o.dst l))):o.wp E.P a w (fun a' w'=> ∃s',K s'∧Rel n w0 S0 s' a' w') Q:=by
 simp only[ai,aK,mi]at ab;have hx:=h.ev (aD ho (x:=x) (by simp[aK,Op.operands]));(have aV: ∀(p:Addr)(v:Value),a.eval x= .pointer (some p)→(loadVar t p).run E.P w= .ok v w→(execOp a.eval o).run E.P w= .ok (.value v) w:=by intro p v he hl;simp only[execOp,aK,he,Sem.run_bind,Ev,hl,Result.andThen_ok,Sem.run_pure])
 split at ab;(·rename_i T hT;have hf:=hE.facts hT;split at ab;(·rename_i id off bS;split at ab;(·rename_i cs te hl;obtain⟨hl,_⟩:=cj hl;split at ab;(·rename_i dE;have dE:=Nat.le_of_ble_eq_true dE;rw[bS]at hx;simp only[ae]at hx;obtain⟨hd,g,hg,hv⟩:=hx;obtain⟨ik,g',vs,e,eg,hB,rS,hh,h1,bf⟩:=h.W.cc _ _ hl;simp only[Full.c]at hg;simp only at eg;rw[hg]at eg;(obtain rfl:g=g':=by injection eg with e1;injection e1 with e1;injection e1);have fZ:=cO bf;have hc:=(nH hh).part off T.cells;rw[Nat.zero_add]at hc;refine h.val ho (aV _ _ hv (eV hf (by rw[List.length_take,List.length_drop];omega) hc)) ?_ ab;refine iu (by rw[List.length_take,List.length_drop];omega) hf.val (fun u hu=>h1 u (List.mem_of_mem_drop (List.mem_of_mem_take hu))) (dm _ (dk _ bf)));·exact ab.elim);·exact ab.elim);(·rename_i U y off bS;split at ab;(·rename_i dE;have dE:=Nat.le_of_ble_eq_true dE;rw[bS]at hx;simp only[ae]at hx;obtain⟨pZ,g,ob,cs,hv,hS,fZ,hc,hr⟩:=hx;have iw:=hc.part off T.cells;refine h.val ho (aV _ _ hv (eV hf (by rw[List.length_take,List.length_drop];omega) iw)) ?_ ab;exact u3 pZ hf.val dE hr);·exact ab.elim);(·rename_i id sz i off bS;split at ab;(·rename_i U xs te hl;obtain⟨hl,_⟩:=cj hl;split at ab;(·rename_i dE cP;have dE:=Nat.le_of_ble_eq_true dE;have cP:=Nat.eq_of_beq_eq_true cP;obtain⟨y,hy,ab⟩:=ab;rw[bS]at hx;simp only[ae]at hx;obtain⟨hd,g,ob,m,cap,cX,Vb,hv⟩:=hx;obtain⟨ik,pZ,u,hu,JJ,cG⟩:=h.W.cc _ _ hl;simp only[Full.c]at cX;simp only[List.cons.injEq,and_true]at hu;rw[cX]at hu;subst hu;rcases cG with⟨hn,_⟩|⟨g',o',mL,cur,e,vj,hle,TR,rS,hB,hh,gS,eD⟩;(·cases hn);·injection vj with e1 e2 e3;injection e1 with e1;injection e1 with e1 e4;subst e1;subst e4;subst e3;obtain⟨cs,fZ,hc,hr⟩:=eD i y hy;have iw:=hc.part off T.cells;rw[cP]at hv;refine h.val ho (aV _ _ hv (eV hf (by rw[List.length_take,List.length_drop];omega) iw)) ?_ ab;exact u3 pZ hf.val dE hr);·exact ab.elim);·exact ab.elim);(·rename_i id base U m i bS;split at ab;(·rename_i cs te hl;obtain⟨hl,_⟩:=cj hl;split at ab;(·rename_i xs Ew hb;simp only[Bool.and_eq_true]at hb;obtain⟨⟨Ex,HZ⟩,dE⟩:=hb;have Ex:=Ty.cJ Ex;subst Ex;have dE:=Nat.le_of_ble_eq_true dE;obtain⟨y,hy,ab⟩:=ab;rw[bS]at hx;simp only[ae]at hx;obtain⟨hd,h0,hn,g,hg,hv⟩:=hx;obtain⟨ik,g',vs,e,eg,hB,rS,hh,h1,bf⟩:=h.W.cc _ _ hl;simp only[Full.c]at hg;simp only at eg;rw[hg]at eg;(obtain rfl:g=g':=by injection eg with e1;injection e1 with e1;injection e1);have fZ:=cO bf;obtain⟨e1,e2,e3⟩:=Gk Ew hy;obtain⟨j1,j2,j3⟩:=sa HZ (.iv T y);have hc:=(nH hh).part (base+i.toNat) T.cells;rw[Nat.zero_add]at hc;refine h.val ho (aV _ _ hv (eV hf (by rw[List.length_take,List.length_drop];omega) hc)) ?_ ab;have:=iu (T:=T) (c:=h.c) (by rw[List.length_take,List.length_drop];omega) hf.val (fun u hu=>h1 u (List.mem_of_mem_drop (List.mem_of_mem_take hu))) (dm T.cells (dk (base+i.toNat) bf));rw[j2,e1,j1]at this;rw[j2];exact this);·exact ab.elim);·exact ab.elim);·exact ab.elim)
 ·exact ab.elim
end
end Go.Proofs.Ytefpgfdemmllpaa
namespace Go.Proofs.Ytefpgfdemmllpaa
open Go.RowKit
section
variable {E:Env} {n:Nat} {w0:World} {S0:Cx} {s:St} {a:Act} {w:World} {ν:Nat→Value} {S:Nat→Prop} {F:cT} {o:Oper} {K:St→Prop} {Q:Exit→Act→World→Prop}
theorem vk: ∀ {α:Type} {l:List α} {k:Nat},uU l k=true→l.length=k|_,[],0,_=>rfl|_,[],_+1,h=>(by cases h)|_,_::_,0,h=>(by cases h)|_,_::r,k+1,h=>by simp[vk (l:=r) (k:=k) h]
theorem j8 {E:Env} {t:Nat} {T:Ty} (hf:cq E t T) {w:World} {g off:Nat} {v:Value} {cur:Array Value} {e:TypeId} (hg:w.heap[g]?=some (.cells cur e (0,0)))(hl:v.cells.size=T.cells)(gS:off+T.cells≤cur.size)(h1: ∀u,u∈v.cells.toList→u.oneCell'=true):(Instr.storeAt t (.pointer (some ⟨g,off,none⟩)) v).run E.P w= .ok () (w.setRow g (cur.toList.take off++v.cells.toList++cur.toList.drop (off+T.cells)).toArray):=by
 have gG:=run_storeCells_at (P:=E.P) g off e v.cells.toList 0 cur w hg (by simpa[hl]using gS) h1;simp only[Nat.add_zero,Array.length_toList,hl]at gG;simp only[Instr.storeAt,Instr.sureAddr,Sem.run_bind,Sem.run_pure,Result.andThen_ok,storeVar,hf.sizeOf w,Sem.run_ite,hl,ne_eq,not_true_eq_false,if_false]
 exact gG
theorem Ey {α:Type} (A ys B:List α)(i:Nat)(v:α)(hi:i<ys.length)(cs:List α)(h:cs=A++(ys++B)):A++ys.set i v++B=cs.take (A.length+i)++ [v]++cs.drop (A.length+i+1):=by
 subst h;(have h1:(A++(ys++B)).take (A.length+i)=A++ys.take i:=by rw[List.take_append,List.take_of_length_le (by omega),Nat.add_sub_cancel_left,List.take_append_of_le_length (by omega)])
 (have h2:(A++(ys++B)).drop (A.length+i+1)=ys.drop (i+1)++B:=by rw[List.drop_append,List.drop_of_length_le (by omega),show A.length+i+1-A.length=i+1 from by omega,List.nil_append,List.drop_append_of_le_length (by omega)])
 rw[h1,h2,List.set_eq_take_append_cons_drop,if_pos hi];simp[List.append_assoc]
theorem Gl {T:Ty} (i:Int)(y:T.den)(h0:0≤i): ∀(xs:List T.den)(j:Nat),HO T i y j xs=if(j:Int)≤i then(xs.set (i.toNat-j) y).map (PV.iv T)else xs.map (PV.iv T)|[],j=>(by split<;>rfl)|x::r,j=>by simp only[HO];rw[Gl i y h0 r (j+1)];by_cases h1:i=(j:Int);(·subst h1;rw[if_pos rfl,if_pos (Int.le_refl _),if_neg (by omega)];simp);·rw[if_neg h1];by_cases h2:(j:Int)≤i;(·rw[if_pos h2,if_pos (by omega)];(have e:i.toNat-j=(i.toNat-(j+1))+1:=by omega);rw[e];simp);·rw[if_neg h2,if_neg (by omega)];rfl
theorem mT {c:Ctx} {q:PV} {v:Value} (hq:ae c q v): ∀(U:Ty)(off:Nat)(f:U.den→U.den),xV U off q=some f→ ∀(x:U.den)(cs:List Value),aB U x c.w c.M cs→off<cs.length∧aB U (f x) c.w c.M (cs.set off v)∧v.cells= #[v]|.bool,off,f,h,x,cs,hx=>(by simp only[xV]at h;split at h;(·rename_i y;injection h with h;subst h;simp only[ae]at hq;have hv:[v]=[Value.bool y]:=hq.2;injection hv with hv;subst hv;have hx:cs=[.bool x]:=hx;subst hx;exact⟨by simp,rfl,rfl⟩);·cases h)|.int k,off,f,h,x,cs,hx=>(by simp only[xV]at h;split at h;(·rename_i k' y;split at h;(·rename_i he;have he:=Ty.cJ he;injection he with he;subst he;injection h with h;subst h;simp only[ae]at hq;have hv:[v]=[Value.int k y]∧_:=hq.2;obtain⟨hv,hb⟩:=hv;injection hv with hv;subst hv;have hx:cs=[.int k x]∧_:=hx;obtain⟨rfl,_⟩:=hx;exact⟨by simp,⟨rfl,hb⟩,rfl⟩);·cases h);·cases h)|.str,off,f,h,x,cs,hx=>(by simp only[xV]at h;split at h;(·rename_i y;injection h with h;subst h;simp only[ae]at hq;have hv:[v]=[Value.string ⟨y.toArray⟩]∧_:=hq.2;obtain⟨hv,hb⟩:=hv;injection hv with hv;subst hv;have hx:cs=[.string ⟨x.toArray⟩]∧_:=hx;obtain⟨rfl,_⟩:=hx;exact⟨by simp,⟨rfl,hb⟩,rfl⟩);·cases h)|.st V,off,f,h,x,cs,hx=>mT hq V off f h x cs hx|.pair A B,off,f,h,x,cs,hx=>(by obtain⟨va,vb,rfl,ha,hb⟩:=hx;have tg:=bx _ _ _ _ _ ha;simp only[xV]at h;split at h;(·rename_i cM;split at h;(·rename_i g hg;injection h with h;subst h;obtain⟨h1,h2,h3⟩:=mT hq A off g hg x.1 va ha;exact⟨by rw[List.length_append];omega,⟨_,_,List.set_append_left _ _ h1,h2,hb⟩,h3⟩);·cases h);·rename_i cM;(have Er:A.cells≤off:=by rcases Nat.lt_or_ge off A.cells with h'|h';(·simp only[Nat.blt]at cM;have:=Nat.ble_eq_true_of_le (Nat.succ_le_of_lt h');rw[this]at cM;cases cM);·exact h');split at h;(·rename_i g hg;injection h with h;subst h;obtain⟨h1,h2,h3⟩:=mT hq B _ g hg x.2 vb hb;exact⟨by rw[List.length_append];omega,⟨_,_,by rw[List.set_append_right _ _ (by omega),tg],ha,h2⟩,h3⟩);·cases h)|.unit,_,_,h,_,_,_=>nomatch h|.sl _,_,_,h,_,_,_=>nomatch h|.own _,_,_,h,_,_,_=>nomatch h|.bk _ _,_,_,h,_,_,_=>nomatch h|.ptr _,_,_,h,_,_,_=>nomatch h|.iF _ _,_,_,h,_,_,_=>nomatch h|.mp _ _,_,_,h,_,_,_=>nomatch h|.ba,_,_,h,_,_,_=>nomatch h
theorem yA (hE : aI E) (h : Full n w0 S0 s a w ν S) (ho : cd n o = true) {t : Nat} {x y : Operand} (aK : o.op = .store t x y) (oQ : o.dst = none) (ab : a8 E (mH E F s.bl t (s.ev x) (s.ev y)) (fun l => K (s.fin o.dst l))) : o.wp E.P a w (fun a' w' => ∃ s', K s' ∧ Rel n w0 S0 s' a' w') Q := by
  have hx := h.ev (aD ho (x := x) (by simp [aK, Op.operands]))
  have hy := h.ev (aD ho (x := y) (by simp [aK, Op.operands]))
  by_cases hT0 : True
  · simp only [mH] at ab
    split at ab
    · rename_i T hT
      have hf := hE.facts hT
      split at ab
      · rename_i us TU
        obtain ⟨Kg, Z6⟩ := jD hy TU
        split at ab
        · rename_i hle
          have u7 := vk hle
          have xW : (a.eval y).cells.size = T.cells := by rw [← u7, cO Kg]; simp
          split at ab
          · rename_i id off bS
            split at ab
            · rename_i cs te hl
              obtain ⟨hl, _⟩ := jE hl
              split at ab
              · rename_i dE
                have dE := Nat.le_of_ble_eq_true dE
                rw [bS] at hx
                simp only [ae] at hx
                obtain ⟨hd, g, hg, hv⟩ := hx
                obtain ⟨ik, g', vs, e, eg, hB, rS, hh, h1, bf⟩ := h.W.cc _ _ hl
                simp only [Full.c] at hg
                simp only at eg hh hB rS
                rw [hg] at eg
                obtain rfl : g = g' := by injection eg with e1; injection e1 with e1; injection e1
                have fZ := cO bf
                have hr := j8 hf (off := off) hh xW (by rw [← Array.length_toList, ← fZ]; exact dE) Z6
                have aV : (execOp a.eval o).run E.P w = .ok .skip (w.setRow g (vs.toList.take off ++ (a.eval y).cells.toList ++ vs.toList.drop (off + T.cells)).toArray) := by
                  simp only [execOp, aK, hv, Sem.run_bind, hr, Result.andThen_ok, Sem.run_pure]
                refine jI aV ⟨_, ab, ?_⟩
                rw [oQ]
                have jK := eY w g (vs.toList.take off ++ (a.eval y).cells.toList ++ vs.toList.drop (off + T.cells)).toArray
                have H0 : aq (ν id) = some g := by rw [hg]; rfl
                have Ez : Ctx.Le h.c ⟨ν, s.D, w.setRow g (vs.toList.take off ++ (a.eval y).cells.toList ++ vs.toList.drop (off + T.cells)).toArray, ⟨S, aF w0 S0⟩⟩ :=
                  ⟨fun b hb => setRow_other w g b _ (fun e => (h.gF hl H0).2.1 (e ▸ hb)), fun _ h => h, fun _ h => h, fun _ _ => rfl⟩
                refine (h.pO hl (by rw [H0]; exact jK) (b' := .box (cs.take off ++ us ++ cs.drop (off + T.cells)) te) ⟨(by exact ik.U4 H0 hh (setRow_heap w g vs _ e _ hh)), g, _, e, hg, hB, rS, setRow_heap w g vs _ e _ hh, ?_, ?_⟩).rel
                · intro u hu
                  simp only [List.mem_append] at hu
                  rcases hu with (hu | hu) | hu
                  · exact h1 u (List.mem_of_mem_take hu)
                  · exact Z6 u hu
                  · exact h1 u (List.mem_of_mem_drop hu)
                · exact bJ (bJ (dm _ (bZ Ez bf)) (bZ Ez Kg)) (dk _ (bZ Ez bf))
              · exact ab.elim
            · exact ab.elim
          · rename_i id sz i off bS
            split at ab
            · rename_i U xs te hl
              obtain ⟨hl, _⟩ := jE hl
              split at ab
              · rename_i heq
                simp only [Bool.and_eq_true] at heq
                obtain ⟨heq, cP⟩ := heq
                have Ex := Ty.cJ heq
                subst Ex
                have cP := Nat.eq_of_beq_eq_true cP
                split at ab
                · rename_i z Kh H2 ar6
                  rw [bS] at hx
                  simp only [ae] at hx
                  obtain ⟨hd, g, ob, m, cap, cX, Vb, hv⟩ := hx
                  have JK := h.W.cc _ _ hl
                  obtain ⟨ik, pZ, u, hu, JJ, cG⟩ := JK
                  simp only [Full.c] at cX
                  simp only [List.cons.injEq, and_true] at hu
                  rw [cX] at hu
                  subst hu
                  rcases cG with ⟨hn, _⟩ | ⟨g', o', mL, cur, e, vj, Vc, TR, rS, hB, hh, gS, eD⟩
                  · cases hn
                  · injection vj with e1 e2 e3
                    injection e1 with e1
                    injection e1 with e1 e4
                    subst e1; subst e4; subst e3; subst e2
                    rw [cP, Nat.add_zero] at hv
                    have my : i * T.cells + T.cells ≤ cap * T.cells := by
                      calc i * T.cells + T.cells = (i + 1) * T.cells := by rw [Nat.add_mul]; omega
                        _ ≤ cap * T.cells := Nat.mul_le_mul_right _ (by omega)
                    have hr := j8 hf (off := ob + i * T.cells) hh xW (by omega) Z6
                    have aV : (execOp a.eval o).run E.P w = .ok .skip (w.setRow g (cur.toList.take (ob + i * T.cells) ++ (a.eval y).cells.toList ++ cur.toList.drop (ob + i * T.cells + T.cells)).toArray) := by
                      simp only [execOp, aK, hv, Sem.run_bind, hr, Result.andThen_ok, Sem.run_pure]
                    refine jI aV ⟨_, ab, ?_⟩
                    rw [oQ]
                    have jK := eY w g (cur.toList.take (ob + i * T.cells) ++ (a.eval y).cells.toList ++ cur.toList.drop (ob + i * T.cells + T.cells)).toArray
                    have H0 : aq (ν id) = some g := by rw [cX]; rfl
                    have ab3 := h.Kf pZ Kh H2 ar6 hy
                    have yB : ∀ b, S b → (w.setRow g (cur.toList.take (ob + i * T.cells) ++ (a.eval y).cells.toList ++ cur.toList.drop (ob + i * T.cells + T.cells)).toArray).heap[b]? = w.heap[b]? := fun b hb => setRow_other w g b _ (fun e => rS (e ▸ hb))
                    have JD := setRow_heap w g cur (cur.toList.take (ob + i * T.cells) ++ (a.eval y).cells.toList ++ cur.toList.drop (ob + i * T.cells + T.cells)).toArray e _ hh
                    generalize kT : (cur.toList.take (ob + i * T.cells) ++ (a.eval y).cells.toList ++ cur.toList.drop (ob + i * T.cells + T.cells)).toArray = Ki at *
                    refine (h.pO (w' := w.setRow g Ki) hl (by rw [H0]; exact jK) (b' := .arr T (xs.set i z)) ⟨cF _ _, pZ, .slice (some ⟨g, ob, none⟩) xs.length cap, by simp only [cX], by rw [List.length_set]; exact JJ, .inr ⟨g, ob, cap, Ki, e, by rw [List.length_set], by rw [List.length_set]; exact Vc, TR, rS, hB, JD, ?_, ?_⟩⟩).rel
                    all_goals subst kT
                    · simp only [List.size_toArray, List.length_append, List.length_take, List.length_drop, Array.length_toList, xW]
                      omega
                    · intro j q hq
                      by_cases eL : i = j
                      · subst eL
                        rw [List.getElem?_set_self Vb] at hq
                        · injection hq with hq
                          subst hq
                          refine ⟨(a.eval y).cells.toList, by rw [Array.length_toList, xW], fun k u hk => ?_, au yB (fun _ h => h) _ _ _ pZ (jC hf.val ab3)⟩
                          rw [cell_of_row _ _ _ _ _ _ JD]
                          simp only [List.getElem?_toArray]
                          have Ed : k < (a.eval y).cells.toList.length := (List.getElem?_eq_some_iff.1 hk).1
                          have Ad : (cur.toList.take (ob + i * T.cells)).length = ob + i * T.cells := by simp only [List.length_take, Array.length_toList]; omega
                          rw [List.append_assoc, List.getElem?_append_right (by rw [Ad]; omega), Ad, List.getElem?_append_left (by omega)]
                          rw [← hk]
                          congr 1
                          omega
                      · rw [List.getElem?_set_ne eL] at hq
                        obtain ⟨cs, fZ, hc, EA⟩ := eD j q hq
                        refine ⟨cs, fZ, fun k u hk => ?_, au yB (fun _ h => h) _ _ _ pZ EA⟩
                        have Ed : k < cs.length := (List.getElem?_eq_some_iff.1 hk).1
                        have dT := hc k u hk
                        rw [cell_of_row _ _ _ _ _ _ hh] at dT
                        rw [cell_of_row _ _ _ _ _ _ JD]
                        simp only [List.getElem?_toArray]
                        have Ad : (cur.toList.take (ob + i * T.cells)).length = ob + i * T.cells := by simp only [List.length_take, Array.length_toList]; omega
                        rcases Nat.lt_or_gt_of_ne eL with cM | Z7
                        · have hmul : i * T.cells + T.cells ≤ j * T.cells := by
                            calc i * T.cells + T.cells = (i + 1) * T.cells := by rw [Nat.add_mul]; omega
                              _ ≤ j * T.cells := Nat.mul_le_mul_right _ cM
                          rw [List.append_assoc, List.getElem?_append_right (by rw [Ad]; omega), Ad, List.getElem?_append_right (by rw [Array.length_toList, xW]; omega), List.getElem?_drop, Array.length_toList, xW]
                          rw [← dT]
                          simp only [Array.getElem?_toList]
                          congr 1
                          omega
                        · have hmul : j * T.cells + T.cells ≤ i * T.cells := by
                            calc j * T.cells + T.cells = (j + 1) * T.cells := by rw [Nat.add_mul]; omega
                              _ ≤ i * T.cells := Nat.mul_le_mul_right _ Z7
                          rw [List.append_assoc, List.getElem?_append_left (by rw [Ad]; omega), List.getElem?_take, if_pos (by omega)]
                          simpa using dT
                · exact ab.elim
              · rename_i off _ _ cu
                split at ab
                · rename_i f cP hf2
                  have cP := Nat.eq_of_beq_eq_true cP
                  rw [bS] at hx
                  simp only [ae] at hx
                  obtain ⟨hd, g, ob, m, cap, cX, Vb, hv⟩ := hx
                  have JK := h.W.cc _ _ hl
                  obtain ⟨ik, pZ, u, hu, JJ, cG⟩ := JK
                  simp only [Full.c] at cX
                  simp only [List.cons.injEq, and_true] at hu
                  rw [cX] at hu
                  subst hu
                  rcases cG with ⟨hn, _⟩ | ⟨g', o', mL, cur, e, vj, Vc, TR, rS, hB, hh, gS, eD⟩
                  · cases hn
                  · injection vj with e1 e2 e3
                    injection e1 with e1
                    injection e1 with e1 e4
                    subst e1; subst e4; subst e3; subst e2
                    rw [cP] at hv
                    have Kj : ∀ q, xs[i]? = some q → off < U.cells ∧ (a.eval y).cells = #[a.eval y] := fun q hq => by
                      obtain ⟨cs, fZ, _, EA⟩ := eD i q hq
                      obtain ⟨h1, _, h3⟩ := mT hy U off f hf2 q cs EA
                      exact ⟨by omega, h3⟩
                    obtain ⟨kF, hcv⟩ := Kj _ (List.getElem?_eq_getElem Vb)
                    have Vd : T.cells = 1 := by rw [← xW, hcv]; rfl
                    have my : i * U.cells + U.cells ≤ cap * U.cells := by
                      calc i * U.cells + U.cells = (i + 1) * U.cells := by rw [Nat.add_mul]; omega
                        _ ≤ cap * U.cells := Nat.mul_le_mul_right _ (by omega)
                    have hr := j8 hf (off := ob + i * U.cells + off) hh xW (by omega) Z6
                    rw [Vd, hcv] at hr
                    have aV : (execOp a.eval o).run E.P w = .ok .skip (w.setRow g (cur.toList.take (ob + i * U.cells + off) ++ [a.eval y] ++ cur.toList.drop (ob + i * U.cells + off + 1)).toArray) := by
                      simp only [execOp, aK, hv, Sem.run_bind, hr, Result.andThen_ok, Sem.run_pure]
                    refine jI aV ⟨_, ab, ?_⟩
                    rw [oQ]
                    have jK := eY w g (cur.toList.take (ob + i * U.cells + off) ++ [a.eval y] ++ cur.toList.drop (ob + i * U.cells + off + 1)).toArray
                    have H0 : aq (ν id) = some g := by rw [cX]; rfl
                    have yB : ∀ b, S b → (w.setRow g (cur.toList.take (ob + i * U.cells + off) ++ [a.eval y] ++ cur.toList.drop (ob + i * U.cells + off + 1)).toArray).heap[b]? = w.heap[b]? := fun b hb => setRow_other w g b _ (fun e => rS (e ▸ hb))
                    have JD := setRow_heap w g cur (cur.toList.take (ob + i * U.cells + off) ++ [a.eval y] ++ cur.toList.drop (ob + i * U.cells + off + 1)).toArray e _ hh
                    have hsp : (cur.toList.take (ob + i * U.cells + off) ++ [a.eval y] ++ cur.toList.drop (ob + i * U.cells + off + 1)).toArray = (cur.toList.set (ob + i * U.cells + off) (a.eval y)).toArray := by
                      rw [List.set_eq_take_append_cons_drop, if_pos (by rw [Array.length_toList]; omega)]
                      simp
                    rw [hsp] at jK yB JD ⊢
                    generalize kT : (cur.toList.set (ob + i * U.cells + off) (a.eval y)).toArray = Ki at *
                    refine (h.pO (w' := w.setRow g Ki) hl (by rw [H0]; exact jK) (b' := .arr U (xs.modify i f)) ⟨cF _ _, pZ, .slice (some ⟨g, ob, none⟩) xs.length cap, by simp only [cX], by rw [List.length_modify]; exact JJ, .inr ⟨g, ob, cap, Ki, e, by rw [List.length_modify], by rw [List.length_modify]; exact Vc, TR, rS, hB, JD, ?_, ?_⟩⟩).rel
                    all_goals subst kT
                    · simp only [List.size_toArray, List.length_set, Array.length_toList]
                      omega
                    · intro j q hq
                      by_cases eL : i = j
                      · subst eL
                        rw [List.getElem?_modify_eq] at hq
                        obtain ⟨q0, hq0, rfl⟩ := Option.map_eq_some_iff.1 (show (xs[i]?).map f = some q from hq)
                        obtain ⟨cs, fZ, hc, EA⟩ := eD i q0 hq0
                        obtain ⟨h1, h2, _⟩ := mT hy U off f hf2 q0 cs EA
                        refine ⟨cs.set off (a.eval y), by rw [List.length_set, fZ], fun k u hk => ?_, au yB (fun _ h => h) _ _ _ pZ h2⟩
                        rw [cell_of_row _ _ _ _ _ _ JD]
                        simp only [List.getElem?_toArray]
                        by_cases hko : off = k
                        · subst hko
                          rw [List.getElem?_set_self h1] at hk
                          rw [List.getElem?_set_self (by rw [Array.length_toList]; omega)]
                          exact hk
                        · rw [List.getElem?_set_ne hko] at hk
                          rw [List.getElem?_set_ne (by omega)]
                          have dT := hc k u hk
                          rw [cell_of_row _ _ _ _ _ _ hh] at dT
                          simpa using dT
                      · rw [List.getElem?_modify_ne _ _ eL] at hq
                        obtain ⟨cs, fZ, hc, EA⟩ := eD j q hq
                        refine ⟨cs, fZ, fun k u hk => ?_, au yB (fun _ h => h) _ _ _ pZ EA⟩
                        have Ed : k < cs.length := (List.getElem?_eq_some_iff.1 hk).1
                        have dT := hc k u hk
                        rw [cell_of_row _ _ _ _ _ _ hh] at dT
                        rw [cell_of_row _ _ _ _ _ _ JD]
                        simp only [List.getElem?_toArray]
                        have cu : ob + i * U.cells + off ≠ ob + j * U.cells + k := by
                          rcases Nat.lt_or_gt_of_ne eL with cM | Z7
                          · have hmul : i * U.cells + U.cells ≤ j * U.cells := by
                              calc i * U.cells + U.cells = (i + 1) * U.cells := by rw [Nat.add_mul]; omega
                                _ ≤ j * U.cells := Nat.mul_le_mul_right _ cM
                            omega
                          · have hmul : j * U.cells + U.cells ≤ i * U.cells := by
                              calc j * U.cells + U.cells = (j + 1) * U.cells := by rw [Nat.add_mul]; omega
                                _ ≤ i * U.cells := Nat.mul_le_mul_right _ Z7
                            omega
                        rw [List.getElem?_set_ne cu]
                        simpa using dT
                · exact ab.elim
            · exact ab.elim
          · rename_i id base U m i bS
            split at ab
            · rename_i cs te hl
              obtain ⟨hl, _⟩ := jE hl
              split at ab
              · rename_i xs z Ew hb hz
                simp only [Bool.and_eq_true] at hb
                obtain ⟨⟨Ex, HZ⟩, dE⟩ := hb
                have Ex := Ty.cJ Ex
                subst Ex
                have dE := Nat.le_of_ble_eq_true dE
                obtain ⟨j1, j2, j3⟩ := sa HZ (.iv T z)
                have hq := BW hz
                rw [bS] at hx
                simp only [ae] at hx
                obtain ⟨hd, h0, hn, g, hg, hv⟩ := hx
                obtain ⟨ik, g', vs, e, eg, hB, rS, hh, h1, bf⟩ := h.W.cc _ _ hl
                simp only [Full.c] at hg
                simp only at eg hh hB rS
                rw [hg] at eg
                obtain rfl : g = g' := by injection eg with e1; injection e1 with e1; injection e1
                have fZ := cO bf
                have ar7 : us = [.iv T z] := by
                  rw [hq] at TU
                  cases T <;> first | (cases HZ; done) | (simp only [PV.cells, Ty.val, Option.some.injEq, cellsOf] at TU; exact TU.symm)
                have OE := vg Ew
                have yC : xs.length = m := by
                  have := congrArg List.length OE
                  rw [List.length_take, List.length_drop, List.length_map] at this
                  omega
                have Vb : i.toNat < m := by omega
                have Af : cs.take base ++ HO T i z 0 xs ++ cs.drop (base + m) = cs.take (base + i.toNat) ++ us ++ cs.drop (base + i.toNat + T.cells) := by
                  have e0 := Gl i z h0 xs 0
                  simp only [Int.natCast_zero, Nat.sub_zero, if_pos h0] at e0
                  have hsp : cs = cs.take base ++ (xs.map (PV.iv T) ++ cs.drop (base + m)) := by
                    have := OE
                    rw [← this]
                    conv => lhs; rw [← List.take_append_drop base cs]
                    congr 1
                    conv => lhs; rw [← List.take_append_drop m (cs.drop base)]
                    rw [List.drop_drop]
                  have Ad : (cs.take base).length = base := by rw [List.length_take]; omega
                  have hml : (xs.map (PV.iv T)).length = m := by rw [List.length_map]; exact yC
                  rw [e0, ar7, j2, List.map_set]
                  have hss := Ey (cs.take base) (xs.map (PV.iv T)) (cs.drop (base + m)) i.toNat (.iv T z) (by omega) cs hsp
                  rw [Ad] at hss
                  exact hss
                rw [Af] at ab
                have hr := j8 hf (off := base + i.toNat) hh xW (by rw [← Array.length_toList, ← fZ]; omega) Z6
                have aV : (execOp a.eval o).run E.P w = .ok .skip (w.setRow g (vs.toList.take (base + i.toNat) ++ (a.eval y).cells.toList ++ vs.toList.drop (base + i.toNat + T.cells)).toArray) := by
                  simp only [execOp, aK, hv, Sem.run_bind, hr, Result.andThen_ok, Sem.run_pure]
                refine jI aV ⟨_, ab, ?_⟩
                rw [oQ]
                have jK := eY w g (vs.toList.take (base + i.toNat) ++ (a.eval y).cells.toList ++ vs.toList.drop (base + i.toNat + T.cells)).toArray
                have H0 : aq (ν id) = some g := by rw [hg]; rfl
                have Ez : Ctx.Le h.c ⟨ν, s.D, w.setRow g (vs.toList.take (base + i.toNat) ++ (a.eval y).cells.toList ++ vs.toList.drop (base + i.toNat + T.cells)).toArray, ⟨S, aF w0 S0⟩⟩ :=
                  ⟨fun b hb => setRow_other w g b _ (fun e => (h.gF hl H0).2.1 (e ▸ hb)), fun _ h => h, fun _ h => h, fun _ _ => rfl⟩
                refine (h.pO hl (by rw [H0]; exact jK) (b' := .box (cs.take (base + i.toNat) ++ us ++ cs.drop (base + i.toNat + T.cells)) te) ⟨(by exact ik.U4 H0 hh (setRow_heap w g vs _ e _ hh)), g, _, e, hg, hB, rS, setRow_heap w g vs _ e _ hh, ?_, ?_⟩).rel
                · intro u hu
                  simp only [List.mem_append] at hu
                  rcases hu with (hu | hu) | hu
                  · exact h1 u (List.mem_of_mem_take hu)
                  · exact Z6 u hu
                  · exact h1 u (List.mem_of_mem_drop hu)
                · exact bJ (bJ (dm _ (bZ Ez bf)) (bZ Ez Kg)) (dk _ (bZ Ez bf))
              · exact ab.elim
            · exact ab.elim
          · exact ab.elim
        · exact ab.elim
      · exact ab.elim
    · exact ab.elim
  · exact absurd trivial hT0
theorem cq.field {E:Env} (hE:aI E) {t:Nat} {T:Ty} (hf:cq E t T)(hs:E.str t=true) {i:Nat} (hi:i<kC T): ∃fs f,E.P.underlying t=some (.struct fs)∧fs[i]?=some f∧f.offset=iU T i∧cq E f.type (mh T i)∧1≤(mh T i).cells:=by
 (cases T<;>first|(simp[kC]at hi;done)|skip);rename_i R;rcases hf.agg hE with⟨fs,hu,u9,hfa⟩|⟨m,e,V,hu,he,rfl,hV,hV1,hm⟩;(·obtain⟨f,h1,h2,h3,h4,h5,h6⟩:=hfa i hi;exact⟨fs,f,hu,h1,h2,hE.facts h3,h4⟩)
 ·have:=hf.str _ _ rfl hu;simp only at this;rw[hs]at this;cases this
theorem cq.array {E:Env} (hE:aI E) {t:Nat} {R:Ty} (hf:cq E t (.st R))(hs:E.str t=false): ∃m e,E.P.underlying t=some (.array m e)∧cq E e (bm R 0)∧bY R=m∧ ∀i,i<m→dY R i=i*(bm R 0).cells:=by
 rcases hf.agg hE with⟨fs,hu,u9,hfa⟩|⟨m,e,V,hu,he,rfl,hV,hV1,hm⟩;(·have:=hf.str _ _ rfl hu;simp only at this;rw[hs]at this;cases this);·have h0:=(kS V hV m 0 (by omega)).2;refine⟨m,e,hu,by rw[h0];exact hE.facts he,nG V hV m (by omega),fun i hi=>?_⟩;rw[h0];exact(kS V hV m i hi).1
theorem Ag(hE:aI E)(h:Full n w0 S0 s a w ν S)(ho:cd n o=true) {t f:Nat} {x:Operand} (aK:o.op= .fieldAddr t x f)(ab:a8 E (ai E F s o) (fun l=>K (s.fin o.dst l))):o.wp E.P a w (fun a' w'=> ∃s',K s'∧Rel n w0 S0 s' a' w') Q:=by
 simp only[ai,aK]at ab;have hx:=h.ev (aD ho (x:=x) (by simp[aK,Op.operands]));split at ab;(·rename_i T hT;split at ab;(·rename_i hb;simp only[Bool.and_eq_true,Nat.blt_eq]at hb;obtain⟨fs,fd,hu,hfd,kF,Kk,Bm⟩:=(hE.facts hT).field hE hb.2 hb.1;(have aV: ∀(g ob:Nat),a.eval x= .pointer (some ⟨g,ob,none⟩)→(execOp a.eval o).run E.P w= .ok (.value (.pointer (some ⟨g,ob+iU T f,none⟩))) w:=by intro g ob he;have cP:=Kk.sizeOf w;simp only[execOp,aK,he,Instr.fieldAt,Sem.run_bind,run_underlying hu,Result.andThen_ok,hfd,Instr.sureAddr,Sem.run_pure,fieldPlace,cP,Sem.run_ite];rw[if_neg (by omega)];simp only[Result.andThen_ok,kF,dJ,Sem.run_pure]);split at ab;(·rename_i id off bS;rw[bS]at hx;simp only[ae]at hx;obtain⟨hd,g,hg,hv⟩:=hx;refine h.val ho (aV _ _ hv) ?_ ab;simp only[ae];exact⟨hd,g,hg,rfl⟩);(·rename_i U y off bS;rw[bS]at hx;simp only[ae]at hx;obtain⟨pZ,g,ob,cs,hv,r⟩:=hx;refine h.val ho (aV _ _ hv) ?_ ab;simp only[ae];exact⟨pZ,g,ob,cs,by rw[Nat.add_assoc],r⟩);(·rename_i id sz i off bS;rw[bS]at hx;simp only[ae]at hx;obtain⟨hd,g,ob,m,cap,cX,Vb,hv⟩:=hx;refine h.val ho (aV _ _ hv) ?_ ab;simp only[ae];exact⟨hd,g,ob,m,cap,cX,Vb,by rw[Nat.add_assoc]⟩);·exact ab.elim);·exact ab.elim)
 ·exact ab.elim
theorem iy {E:Env} {t:Nat} {T:Ty} (hf:cq E t T) {w:World} {cs:Array Value} {off:Nat} (hl:off+T.cells≤cs.size):(Go.part t cs off).run E.P w= .ok (valOf T ((cs.toList.drop off).take T.cells)) w:=by
 unfold Go.part;simp only[Sem.run_bind,hf.isAgg w,Result.andThen_ok];have hT:=hf.val;cases T with|st r=>simp only[J8,if_true,Sem.run_bind,hf.sizeOf w,Result.andThen_ok,Sem.run_pure,valOf];congr 2;apply Array.toList_inj.1;simp[Array.toList_extract]|unit=>cases hT|pair a b=>cases hT|bk a b=>cases hT|_=>simp only[Ty.cells]at hl;simp only[J8,Bool.false_eq_true,if_false,Ty.cells,valOf];rw[Array.getElem?_eq_getElem (by omega)];rw[List.drop_eq_getElem_cons (by simpa using(by omega:off<cs.size))];simp
theorem qf {c:Ctx} {p:PV} {v:Value} {cs:List PV} (h:ae c p v)(hc:ju p=some cs):ah c cs v.cells.toList∧(∀u,u∈v.cells.toList→u.oneCell'=true)∧ ∃us,v= .agg us:=by
 cases p with|iv T x=>(cases T with|st R=>simp only[ju]at hc;(have iw:(PV.iv (.st R) x).cells=some cs:=by simp only[PV.cells,Ty.val];exact hc);obtain⟨h1,h2⟩:=jD h iw;simp only[ae]at h;obtain⟨_,vs,hv,_⟩:=h;exact⟨h1,h2,_,hv⟩|_=>simp only[ju]at hc;cases hc)|agg ps=>have iw:(PV.agg ps).cells=some cs:=hc;obtain⟨h1,h2⟩:=jD h iw;simp only[ae]at h;obtain⟨vs,hv,_⟩:=h;exact⟨h1,h2,_,hv⟩|_=>simp only[ju]at hc;cases hc
theorem Km(hE:aI E)(h:Full n w0 S0 s a w ν S)(ho:cd n o=true) {t f:Nat} {x:Operand} (aK:o.op= .field t x f)(ab:a8 E (ai E F s o) (fun l=>K (s.fin o.dst l))):o.wp E.P a w (fun a' w'=> ∃s',K s'∧Rel n w0 S0 s' a' w') Q:=by
 simp only[ai,aK]at ab;have hx:=h.ev (aD ho (x:=x) (by simp[aK,Op.operands]));split at ab;(·rename_i T cs hT BQ;split at ab;(·rename_i dE hb;simp only[Bool.and_eq_true,Nat.blt_eq]at hb;have dE:=Nat.le_of_ble_eq_true dE;obtain⟨fs,fd,hu,hfd,kF,Kk,Bm⟩:=(hE.facts hT).field hE hb.2 hb.1;obtain⟨hp,h1,us,hv⟩:=qf hx BQ;rw[hv]at hp h1;simp only[Value.cells]at hp h1;rw[cO hp]at dE;have aV:=iy (E:=E) Kk (w:=w) (cs:=us) (off:=iU T f) (by simpa using dE);refine h.val ho ?_ (iu (by rw[List.length_take,List.length_drop];omega) Kk.val (fun u hu=>h1 u (List.mem_of_mem_drop (List.mem_of_mem_take hu))) (dm _ (dk _ hp))) ab;simp only[execOp,aK,hv,Instr.field,Sem.run_bind,run_underlying hu,Result.andThen_ok,hfd,asAgg,Sem.run_pure,kF,aV]);·exact ab.elim)
 ·exact ab.elim
theorem Ah(hE:aI E)(h:Full n w0 S0 s a w ν S)(ho:cd n o=true) {t:Nat} {x i:Operand} (aK:o.op= .indexAddr t x i)(ab:a8 E (ai E F s o) (fun l=>K (s.fin o.dst l))):o.wp E.P a w (fun a' w'=> ∃s',K s'∧Rel n w0 S0 s' a' w') Q:=by
 simp only[ai,aK]at ab;have hx:=h.ev (aD ho (x:=x) (by simp[aK,Op.operands]));have hi:=h.ev (aD ho (x:=i) (by simp[aK,Op.operands]));split at ab;(·rename_i k m Kn;rw[Kn]at hi;obtain⟨Oa,_⟩:=bC hi;(have kQ: ∀ {U:Ty} (hT:E.ty t=some (.sl U))(g ob len cap:Nat),a.eval x= .slice (some ⟨g,ob,none⟩) len cap→0≤m→m<len→(execOp a.eval o).run E.P w= .ok (.value (.pointer (some ⟨g,ob+m.toNat*U.cells,none⟩))) w:=by intro U hT g ob len cap he h0 h1;obtain⟨e,hu,hee,mP,_⟩:=(hE.facts hT).elem hE;have cP:=mP.sizeOf w;simp only[execOp,aK,he,Oa,Instr.indexAt,asIntOf,Sem.run_bind,Sem.run_pure,Result.andThen_ok,run_underlying hu,Sem.run_ite];rw[if_pos ⟨h0,h1⟩];simp only[Sem.run_bind,cP,Result.andThen_ok,Sem.run_pure,dJ]);(have H2: ∀ {R:Ty} (hT:E.ty t=some (.st R))(hs:E.str t=false)(g ob:Nat),a.eval x= .pointer (some ⟨g,ob,none⟩)→0≤m→m<bY R→(execOp a.eval o).run E.P w= .ok (.value (.pointer (some ⟨g,ob+m.toNat*(bm R 0).cells,none⟩))) w:=by intro R hT hs g ob he h0 h1;obtain⟨l,e,hu,mP,fZ,_⟩:=(hE.facts hT).array hE hs;have cP:=mP.sizeOf w;simp only[execOp,aK,he,Oa,Instr.indexAt,asIntOf,Sem.run_bind,Sem.run_pure,Result.andThen_ok,run_underlying hu,Instr.sureAddr,Sem.run_ite];rw[if_pos ⟨h0,by rw[←fZ];exact h1⟩];simp only[Sem.run_bind,cP,Result.andThen_ok,Sem.run_pure,dJ]);simp only[kD]at ab;split at ab;(·rename_i T xs bS;rw[bS]at hx;split at ab;(·rename_i U hT;split at ab;(·rename_i heq;have Ex:=Ty.cJ heq;subst Ex;obtain⟨h0,y,hy,ab⟩:=ab;simp only[ae]at hx;obtain⟨nD,aa,cap,hv,hle,oN,cG⟩:=hx;injection hv with hv;have cM:m.toNat<xs.length:=(List.getElem?_eq_some_iff.1 hy).1;rcases cG with rfl|⟨g,ob,rfl,hS,eD⟩;(·simp at cM);·obtain⟨cs,fZ,hc,hr⟩:=eD _ y hy;refine h.val ho (kQ hT g ob xs.length cap hv h0 ((Int.toNat_lt h0).1 cM)) ?_ ab;simp only[ae];exact⟨by simpa[aL]using nD,g,ob+m.toNat*T.cells,cs,by rw[Nat.add_zero],hS,fZ,hc,hr⟩);·exact ab.elim);·exact ab.elim);(·rename_i id bS;rw[bS]at hx;split at ab;(·rename_i T xs te U hl hT;obtain⟨hl,_⟩:=cj hl;split at ab;(·rename_i heq;have Ex:=Ty.cJ heq;subst Ex;obtain⟨⟨h0,h1⟩,ab⟩:=ab;simp only[ae]at hx;obtain⟨hd,cX,_⟩:=hx;obtain⟨ik,pZ,u,hu,JJ,cG⟩:=h.W.cc _ _ hl;simp only[List.cons.injEq,and_true]at hu;simp only[Full.c]at cX;rcases cG with⟨hn,rfl⟩|⟨g,ob,cap,cur,e,vj,_⟩;(·simp at h1;omega);·rw[vj]at hu;rw[hu]at cX;refine h.val ho (kQ hT g ob xs.length cap cX h0 h1) ?_ ab;simp only[ae];exact⟨hd,g,ob,xs.length,cap,hu,by omega,by rw[Nat.add_zero]⟩);·exact ab.elim);·exact ab.elim);(·rename_i id sz off len bS;rw[bS]at hx;split at ab;(·rename_i U hT;split at ab;(·rename_i cP;have cP:=Nat.eq_of_beq_eq_true cP;obtain⟨⟨h0,h1⟩,ab⟩:=ab;simp only[ae]at hx;obtain⟨hd,aa,m',cap,b,cX,hn,oN,hv,hb⟩:=hx;obtain⟨g,ob,rfl,rfl⟩:=hb (by omega);refine h.val ho (kQ hT g _ _ _ hv h0 h1) ?_ ab;simp only[ae];exact⟨hd,g,ob,m',cap,cX,by omega,by rw[cP,Nat.add_mul,Nat.add_zero,Nat.add_assoc]⟩);·exact ab.elim);·exact ab.elim);(·rename_i id off bS;rw[bS]at hx;split at ab;(·rename_i R hT hs;simp only[ae]at hx;obtain⟨hd,g,hg,hv⟩:=hx;split at ab;(·rename_i hb;simp only[Bool.and_eq_true]at hb;have Bm:=Nat.eq_of_beq_eq_true hb.2;obtain⟨⟨h0,h1⟩,ab⟩:=ab;refine h.val ho (H2 hT hs g off hv h0 h1) ?_ ab;simp only[ae];exact⟨hd,h0,h1,g,hg,by rw[Bm,Nat.mul_one]⟩);·obtain⟨⟨h0,h1⟩,ab⟩:=ab;refine h.val ho (H2 hT hs g off hv h0 h1) ?_ ab;simp only[ae];exact⟨hd,g,hg,rfl⟩);·exact ab.elim);(·rename_i U y off bS;rw[bS]at hx;split at ab;(·rename_i R hT hs;obtain⟨⟨h0,h1⟩,ab⟩:=ab;simp only[ae]at hx;obtain⟨pZ,g,ob,cs,hv,r⟩:=hx;refine h.val ho (H2 hT hs g _ hv h0 h1) ?_ ab;simp only[ae];exact⟨pZ,g,ob,cs,by rw[Nat.add_assoc],r⟩);·exact ab.elim);·exact ab.elim)
 ·exact ab.elim
theorem Ko(hE:aI E)(h:Full n w0 S0 s a w ν S)(ho:cd n o=true) {t:Nat} {x i:Operand} (aK:o.op= .index t x i)(ab:a8 E (ai E F s o) (fun l=>K (s.fin o.dst l))):o.wp E.P a w (fun a' w'=> ∃s',K s'∧Rel n w0 S0 s' a' w') Q:=by
 simp only[ai,aK]at ab;have hx:=h.ev (aD ho (x:=x) (by simp[aK,Op.operands]));have hi:=h.ev (aD ho (x:=i) (by simp[aK,Op.operands]));split at ab;(·rename_i xs k m vm Kn hT;obtain⟨d,hu,Bn⟩:=(hE.facts hT).ow;(have hd:d= .string:=by cases d<;>first|rfl|cases Bn);subst hd;rw[Kn]at hi;rw[vm]at hx;obtain⟨Oa,_⟩:=bC hi;obtain⟨Ee,_⟩:=dK hx;obtain⟨h0,c,⟨u,nI,rfl⟩,ab⟩:=ab;refine h.val ho (v:=.int .u8 u.toNat) ?_ (cm (by have:=u.toNat_lt;constructor<;>simp[IntKind.min,IntKind.max,IntKind.signed,IntKind.bits]<;>omega)) ab;simp only[execOp,aK,Ee,Oa,Instr.index,asIntOf,Sem.run_bind,Sem.run_pure,Result.andThen_ok,run_underlying hu];rw[if_pos h0];(have:(⟨xs.toArray⟩:ByteArray)[m.toNat]?=some u:=by have hl:m.toNat<xs.length:=(List.getElem?_eq_some_iff.1 nI).1;have hs:m.toNat<(⟨xs.toArray⟩:ByteArray).size:=hl;rw[getElem?_pos (⟨xs.toArray⟩:ByteArray) m.toNat hs];have:=(List.getElem?_eq_some_iff.1 nI).2;rw[←this];rfl);rw[this];rfl)
 (·exact ab.elim);(·rename_i k m R Kn hT _;split at ab;(·rename_i cs BQ OG;split at ab;(·rename_i xs Ew HZ;obtain⟨⟨h0,h1⟩,z,hz,ab⟩:=ab;rw[Kn]at hi;obtain⟨Oa,_⟩:=bC hi;obtain⟨l,e,hu,mP,fZ,_⟩:=(hE.facts hT).array hE OG;obtain⟨bf,h1c,us,Ee⟩:=qf hx BQ;obtain⟨j1,j2,j3⟩:=sa HZ (.iv (bm R 0) z);have hlen:=cO bf;rw[Ee]at bf hlen;simp only[Value.cells]at bf hlen;obtain⟨e1,e2,e3⟩:=Gk (base:=0) (m:=cs.length) (by rw[List.drop_zero,List.take_length];exact Ew) hz;rw[Nat.zero_add]at e1 e3;(have hle:m.toNat*(bm R 0).cells+(bm R 0).cells≤us.size:=by rw[j2,Nat.mul_one,←Array.length_toList,←hlen];omega);have hp:=iy mP (w:=w) (cs:=us) (off:=m.toNat*(bm R 0).cells) hle;refine h.val ho (v:=valOf (bm R 0) ((us.toList.drop (m.toNat*(bm R 0).cells)).take (bm R 0).cells)) ?_ ?_ ab;(·simp only[execOp,aK,Ee,Oa,Instr.index,asIntOf,Sem.run_bind,Sem.run_pure,Result.andThen_ok,run_underlying hu,Sem.run_ite];rw[if_pos ⟨h0,by rw[←fZ];exact h1⟩];simp only[Sem.run_bind,mP.sizeOf w,Result.andThen_ok,hp,Sem.run_pure]);·(have kU: ∀u,u∈us.toList→u.oneCell'=true:=by intro u nI;rw[Ee]at h1c;exact h1c u nI);have Z8:=iu (T:=bm R 0) (c:=h.c) (vs:=(us.toList.drop m.toNat).take (bm R 0).cells) (by rw[List.length_take,List.length_drop,j2,←hlen];omega) mP.val (fun u hu=>kU u (List.mem_of_mem_drop (List.mem_of_mem_take hu))) (dm (bm R 0).cells (dk m.toNat bf));rw[j2,e1,j1]at Z8;rw[j2,Nat.mul_one];exact Z8);·exact ab.elim);·exact ab.elim)
 ·exact ab.elim
end
end Go.Proofs.Ytefpgfdemmllpaa
namespace Go.Proofs.Ytefpgfdemmllpaa
open Go.RowKit
theorem Ai {α:Type} (xs:List α)(lo hi:Option Int):cut xs lo hi=(xs.drop (cy lo)).take (fJ xs.length hi-cy lo):=by
 cases lo<;>cases hi<;>simp[cut,cy,fJ];exact(List.take_of_length_le (by simp)).symm
def qg:Option Int→Option Value→Prop|none,none=>True|some n,some v=> ∃k,v= .int k n|_,_=>False
theorem iM {P:Program} {w:World} {isSlice:Bool} {len cap:Nat} {lo hi:Option Int} {vl vh:Option Value} (Gm:qg lo vl)(Z9:qg hi vh)(h:j4 len lo hi)(hc:len≤cap):(Instr.sliceBounds isSlice len cap vl vh none).run P w= .ok (cy lo,fJ len hi,cap) w:=by
 (have sb: ∀(k:IntKind)(n:Int)(y:Nat)(code:BoundsCode),0≤n→n≤y→(Instr.sliceBound (.int k n) y code).run P w= .ok n.toNat w:=by intro k n y code h0 h1;simp only[Instr.sliceBound,asIntOf,Sem.run_bind,Sem.run_pure,Result.andThen_ok,Sem.run_ite];rw[if_pos ⟨h0,h1⟩])
 cases lo with|none=>(cases vl with|some v=>exact Gm.elim|none=>cases hi with|none=>(cases vh with|some v=>exact Z9.elim|none=>simp[Instr.sliceBounds,cy,fJ])|some m=>cases vh with|none=>exact Z9.elim|some v=>obtain⟨k,rfl⟩:=Z9;obtain⟨h0,h1⟩:=h;cases isSlice<;>simp[Instr.sliceBounds,cy,fJ,sb _ _ _ _ h0 (show m≤(cap:Int)by omega)])|some l=>cases vl with|none=>exact Gm.elim|some v=>obtain⟨k,rfl⟩:=Gm;cases hi with|none=>(cases vh with|some v=>exact Z9.elim|none=>obtain⟨h0,h1⟩:=h;simp[Instr.sliceBounds,cy,fJ,sb _ _ _ _ h0 h1])|some m=>cases vh with|none=>exact Z9.elim|some v=>obtain⟨k',rfl⟩:=Z9;obtain⟨h0,h1,h2⟩:=h;have e1:(0:Int)≤m:=Int.le_trans h0 h1;cases isSlice<;>simp[Instr.sliceBounds,cy,fJ,sb _ _ _ _ e1 (show m≤(cap:Int)by omega),sb _ _ _ _ h0 (show l≤(m.toNat:Int)by omega)]
theorem sc {P:Program} {w:World} {isSlice:Bool} {len cap:Nat} {lo:Option Int} {m:Int} {k k':IntKind} {vl:Option Value} (Gm:qg lo vl)(h:j4 len lo (some m))(hc:len≤cap):(Instr.sliceBounds isSlice len cap vl (some (.int k m)) (some (.int k' m))).run P w= .ok (cy lo,m.toNat,m.toNat) w:=by
 (have sb: ∀(k:IntKind)(n:Int)(y:Nat)(code:BoundsCode),0≤n→n≤y→(Instr.sliceBound (.int k n) y code).run P w= .ok n.toNat w:=by intro k n y code h0 h1;simp only[Instr.sliceBound,asIntOf,Sem.run_bind,Sem.run_pure,Result.andThen_ok,Sem.run_ite];rw[if_pos ⟨h0,h1⟩])
 cases lo with|none=>(cases vl with|some v=>exact Gm.elim|none=>obtain⟨h0,h1⟩:=h;cases isSlice<;>simp[Instr.sliceBounds,cy,sb _ _ _ _ h0 (show m≤(cap:Int)by omega),sb _ _ _ _ h0 (show m≤(m.toNat:Int)by omega)])|some l=>cases vl with|none=>exact Gm.elim|some v=>obtain⟨k,rfl⟩:=Gm;obtain⟨h0,h1,h2⟩:=h;have e1:(0:Int)≤m:=Int.le_trans h0 h1;cases isSlice<;>simp[Instr.sliceBounds,cy,sb _ _ _ _ e1 (show m≤(cap:Int)by omega),sb _ _ _ _ e1 (show m≤(m.toNat:Int)by omega),sb _ _ _ _ h0 (show l≤(m.toNat:Int)by omega)]
theorem jL {n:Nat} {lo hi:Option Int} (h:j4 n lo hi):cy lo≤fJ n hi∧fJ n hi≤n:=by cases lo<;>cases hi<;>simp only[j4,cy,fJ]at* <;>omega
theorem BX {T:Ty} {w:World} {M:Mem} {a:Option Addr} {cap:Nat} (h:cap≤9223372036854775807):aB (.sl T) ([]:List T.den) w M [.slice a 0 cap]:=⟨a,cap,rfl,Nat.zero_le _,h,.inl rfl⟩
section
variable {E:Env} {n:Nat} {w0:World} {S0:Cx} {s:St} {a:Act} {w:World} {ν:Nat→Value} {S:Nat→Prop} {F:cT} {o:Oper} {K:St→Prop} {Q:Exit→Act→World→Prop}
theorem yD(h:Full n w0 S0 s a w ν S) {x:Option Operand} {b:Option Int} (hc: ∀y,x=some y→lM y=true)(hb:bound s x=some b):qg b (x.map a.eval):=by
 cases x with|none=>simp only[bound,Option.some.injEq]at hb;subst hb;trivial|some y=>simp only[bound]at hb;split at hb;(·rename_i k m bS;simp only[Option.some.injEq]at hb;subst hb;have hy:=h.ev (hc y rfl);rw[bS]at hy;exact⟨k,(bC hy).1⟩);·cases hb
theorem BY(xs:List UInt8)(l h:Nat):(⟨xs.toArray⟩:ByteArray).extract l h=⟨((xs.drop l).take (h-l)).toArray⟩:=by
 apply ByteArray.ext;rw[ByteArray.data_extract];apply Array.toList_inj.1;simp[Array.toList_extract]
theorem BZ {w:World} {M:Mem} : ∀(U:Ty)(x:U.den)(l:List Nat)(cs:List Value),lA U x=some l→aB U x w M cs→cs=l.map fun f=>Value.func (.func f) #[] #[]|.ba,x,l,cs,h,hr=>(by simp only[lA,Option.some.injEq]at h;subst h;exact hr)|.pair A B,x,l,cs,h,hr=>(by cases A with|ba=>simp only[lA]at h;split at h;(·rename_i l' hl;injection h with h;subst h;obtain⟨va,vb,rfl,ha,hb⟩:=hr;have ha:va=[.func (.func x.1) #[] #[]]:=ha;rw[BZ B x.2 l' vb hl hb,ha];rfl);(·cases h)|_=>simp[lA]at h)|.unit,x,l,cs,h,hr=>(by simp[lA]at h)|.int _,x,l,cs,h,hr=>(by simp[lA]at h)|.bool,x,l,cs,h,hr=>(by simp[lA]at h)|.str,x,l,cs,h,hr=>(by simp[lA]at h)|.sl _,x,l,cs,h,hr=>(by simp[lA]at h)|.own _,x,l,cs,h,hr=>(by simp[lA]at h)|.st _,x,l,cs,h,hr=>(by simp[lA]at h)|.bk _ _,x,l,cs,h,hr=>(by simp[lA]at h)|.ptr _,x,l,cs,h,hr=>(by simp[lA]at h)|.iF _ _,x,l,cs,h,hr=>(by simp[lA]at h)|.mp _ _,x,l,cs,h,hr=>by simp[lA]at h
theorem Kp(hE:aI E)(h:Full n w0 S0 s a w ν S)(ho:cd n o=true) {t:Nat} {x:Operand} {lo hi mx:Option Operand} (aK:o.op= .slice t x lo hi mx)(ab:a8 E (ai E F s o) (fun l=>K (s.fin o.dst l))):o.wp E.P a w (fun a' w'=> ∃s',K s'∧Rel n w0 S0 s' a' w') Q:=by
 simp only[ai,aK]at ab;have hx:=h.ev (aD ho (x:=x) (by simp[aK,Op.operands]));split at ab;(·rename_i bl bh T ji hbh hT;have hrl:=yD h (fun y hy=>aD ho (by simp[aK,Op.operands,hy])) ji;have hrh:=yD h (fun y hy=>aD ho (by simp[aK,Op.operands,hy])) hbh;have hf:=hE.facts hT;cases mx with|none=>simp only[lE]at ab;split at ab;(·split at ab;(·rename_i y bS;rw[bS]at hx;obtain⟨hv,hl⟩:=dK hx;obtain⟨jk,ab⟩:=ab;obtain⟨d,hu,Bn⟩:=hf.ow;(have hd:d= .string:=by cases d<;>first|rfl|cases Bn);subst hd;have hb:=iM (P:=E.P) (w:=w) (isSlice:=false) (cap:=y.length) hrl hrh jk (Nat.le_refl _);(have cP:(⟨y.toArray⟩:ByteArray).size=y.length:=by simp[ByteArray.size]);refine h.val ho (v:=.string ⟨(cut y bl bh).toArray⟩) ?_ (mQ (by rw[Ai];simp;omega)) ab;simp only[execOp,aK,hv,Instr.sliceAt,Sem.run_bind,run_underlying hu,Result.andThen_ok,Instr.slice,Option.map_none,Option.isSome_none,Bool.false_eq_true,if_false,Sem.run_pure,cP,hb,BY,Ai]);·exact ab.elim);(·rename_i T;obtain⟨e,hu,hee,mP,og,my⟩:=hf.elem hE;have cP:=mP.sizeOf w;(have aV: ∀(aa:Option Addr)(len cap:Nat),a.eval x= .slice aa len cap→j4 len bl bh→len≤cap→(execOp a.eval o).run E.P w= .ok (.value (.slice (if cap=cy bl then aa else aa.map (·.add (cy bl*T.cells))) (fJ len bh-cy bl) (cap-cy bl))) w:=by intro aa len cap he jk hlc;have hb:=iM (P:=E.P) (w:=w) (isSlice:=true) hrl hrh jk hlc;simp only[execOp,aK,he,Instr.sliceAt,Sem.run_bind,run_underlying hu,Result.andThen_ok,Instr.slice,Option.map_none,hb,cP,Sem.run_pure]);split at ab;(·rename_i U xs bS;split at ab;(·rename_i xs' jM;obtain⟨e',kR⟩:=Ty.aZ jM;injection e' with e';subst e';simp only at kR;subst kR;rw[bS]at hx;simp only[ae]at hx;obtain⟨nD,cE⟩:=hx;obtain⟨jk,ab⟩:=ab;have B0:aB (.sl U) xs w ⟨S,aF w0 S0⟩ [a.eval x]:=cE;obtain⟨aa,cap,hv,hle,oN,cG⟩:=cE;injection hv with hv;obtain⟨bo,bp⟩:=jL jk;refine h.val ho (aV aa _ cap hv jk hle) ?_ ab;simp only[ae];refine⟨nD,?_⟩;rw[Ai];rw[hv]at B0;rcases cG with rfl|⟨g,ob,rfl,_⟩;(·simp only[List.length_nil]at bp bo;(have h0:fJ 0 bh=0:=by omega);(have h1:cy bl=0:=by omega);simp only[List.length_nil,h0,h1,List.drop_nil,List.take_nil];exact BX (by omega));·exact uo (off:=cy bl) (len:=fJ xs.length bh-cy bl) B0 (by omega) (fun cM=>⟨g,ob,rfl,by rw[if_neg (by omega)];simp[dJ]⟩));·exact ab.elim);(·rename_i id bS;split at ab;(·rename_i U xs te hl;obtain⟨hl,_⟩:=cj hl;split at ab;(·obtain⟨jk,ab⟩:=ab;rw[bS]at hx;simp only[ae]at hx;obtain⟨hd,cX,_⟩:=hx;obtain⟨ik,pZ,u,nI,JJ,cG⟩:=h.W.cc _ _ hl;simp only[List.cons.injEq,and_true]at nI;simp only[Full.c]at cX;obtain⟨bo,bp⟩:=jL jk;rcases cG with⟨hn,rfl⟩|⟨g,ob,cap,cur,e',vj,hle,oN,_⟩;(·rw[hn]at nI;rw[nI]at cX;simp only[List.length_nil]at bo bp;refine h.val ho (aV none 0 0 cX jk (Nat.le_refl _)) ?_ ab;simp only[ae];exact⟨hd,none,0,0,_,nI,by simp;omega,Nat.le_refl _,rfl,fun h=>by omega⟩);·rw[vj]at nI;rw[nI]at cX;refine h.val ho (aV _ _ cap cX jk hle) ?_ ab;simp only[ae];exact⟨hd,_,xs.length,cap,_,nI,by omega,hle,rfl,fun cM=>⟨g,ob,rfl,by rw[if_neg (by omega)];simp[dJ]⟩⟩);·exact ab.elim);·exact ab.elim);(·rename_i id sz off len bS;split at ab;(·rename_i Ve;have Ve:=Nat.eq_of_beq_eq_true Ve;obtain⟨jk,ab⟩:=ab;rw[bS]at hx;simp only[ae]at hx;obtain⟨hd,aa,m',cap,b,cX,hn,oN,hv,hb⟩:=hx;obtain⟨bo,bp⟩:=jL jk;refine h.val ho (aV b len (cap-off) hv jk (by omega)) ?_ ab;simp only[ae];refine⟨hd,aa,m',cap,_,cX,by omega,oN,by rw[Nat.sub_sub],fun cM=>?_⟩;obtain⟨g,ob,h1,h2⟩:=hb (by omega);exact⟨g,ob,h1,by rw[if_neg (by omega),h2];simp[dJ,Ve,Nat.add_mul,Nat.add_assoc]⟩);·exact ab.elim);(·rename_i bS;obtain⟨jk,ab⟩:=ab;rw[bS]at hx;simp only[ae]at hx;obtain⟨bo,bp⟩:=jL (n:=0) jk;(have h0:fJ 0 bh=0:=by omega);(have h1:cy bl=0:=by omega);refine h.val ho (aV none 0 0 hx jk (Nat.le_refl _)) ?_ ab;simp only[ae,h0,h1];rfl);·exact ab.elim);(·rename_i R;split at ab;(·rename_i U x0 bS;rw[bS]at hx;simp only[ae]at hx;obtain⟨_,g,ob,cs,hxv,hg,fZ,JL,cE⟩:=hx;split at ab;(·rename_i l hl;split at ab;(·rename_i yE;simp only[Bool.and_eq_true,Bool.not_eq_true']at yE;obtain⟨⟨⟨xN,th⟩,OG⟩,hd3⟩:=yE;have Bm:=Nat.eq_of_beq_eq_true xN;have TV:=Ty.cJ th;have hc3:=Nat.le_of_ble_eq_true hd3;clear xN th hd3;obtain⟨d,hu,Bn⟩:=hf.ow;have xY:=hf.str R d rfl hu;cases d with|array m e=>simp only[cK]at Bn;split at Bn;(·rename_i V hV;simp only[Bool.and_eq_true]at Bn;obtain⟨⟨⟨hR,hVv⟩,_⟩,h2⟩:=Bn;have hR:=Ty.cJ hR;have h2:=Nat.le_of_ble_eq_true h2;subst hR;rw[nG V hVv m (by omega)]at Bm;rw[(kS V hVv m 0 (by omega)).2]at TV;subst TV;have cP:=(hE.facts hV).sizeOf w;have hb:=iM (P:=E.P) (w:=w) (isSlice:=false) (len:=m) (cap:=m) hrl hrh trivial (Nat.le_refl _);have BQ:=BZ U x0 l cs hl cE;refine h.val ho (v:=.slice (some ⟨g,ob,none⟩) m m) ?_ ?_ ab;(·simp only[execOp,aK,hxv,Nat.add_zero,Instr.sliceAt,Instr.sureAddr,Sem.run_bind,run_underlying hu,Result.andThen_ok,Option.map_none,hb,cP,Sem.run_pure,cy,fJ,Nat.sub_zero,Nat.zero_mul];rw[if_neg (by omega)];rfl);·simp only[ae];refine⟨rfl,some ⟨g,ob,none⟩,m,by rw[Bm],by omega,by omega,.inr ⟨g,ob,rfl,hg,fun i y hy=>⟨[.func (.func y) #[] #[]],rfl,fun j v hj=>?_,rfl⟩⟩⟩;(have h0:j=0:=by cases j with|zero=>rfl|succ j=>simp at hj);subst h0;simp only[List.getElem?_cons_zero,Option.some.injEq]at hj;have:=JL i v (by rw[BQ,List.getElem?_map,hy];simpa using hj);simpa[Ty.cells]using this);(·cases Bn)|struct fs=>have xY:E.str t=true:=xY;rw[xY]at OG;cases OG|_=>simp[cK]at Bn);·exact ab.elim);·exact ab.elim);·exact ab.elim);(·exact ab.elim)|some m=>split at ab;(·rename_i Vf;cases Vf);·rename_i mm Vf;injection Vf with Vf;subst Vf;split at ab;(·rename_i km mv ar8;have hm:=h.ev (aD ho (x:=m) (by simp[aK,Op.operands]));rw[ar8]at hm;obtain⟨hvm,_⟩:=bC hm;simp only[nB]at ab;split at ab;(·rename_i T;obtain⟨e,hu,hee,mP,og,my⟩:=hf.elem hE;have cP:=mP.sizeOf w;(have key: ∀(xs:List T.den)(hh:Int),bh=some hh→j4 xs.length bl bh→mv=hh→aB (.sl T) xs w ⟨S,aF w0 S0⟩ [a.eval x]→(∃g' n',(execOp a.eval o).run E.P w= .ok (.value (.slice g' n' n')) w∧aB (.sl T) (cut xs bl bh) w ⟨S,aF w0 S0⟩ [.slice g' n' n']):=by intro xs hh ar9 jk hmh cE;subst ar9 hmh;have B0:=cE;obtain⟨aa,cap,hv,hle,oN,cG⟩:=cE;injection hv with hv;(obtain⟨vh,kh,hvh⟩: ∃vh kh,hi=some vh∧a.eval vh= .int kh mv:=by cases hi with|none=>exact hrh.elim|some vh=>obtain⟨k,hk⟩:=hrh;exact⟨vh,k,rfl,hk⟩);obtain⟨rfl,hvh⟩:=hvh;have hb:=sc (P:=E.P) (w:=w) (isSlice:=true) (k:=kh) (k':=km) hrl jk hle;obtain⟨bo,bp⟩:=jL jk;simp only[fJ]at bo bp;refine⟨if mv.toNat=cy bl then aa else aa.map (·.add (cy bl*T.cells)),mv.toNat-cy bl,?_,?_⟩;(·simp only[execOp,aK,hv,Instr.sliceAt,Sem.run_bind,run_underlying hu,Result.andThen_ok,Instr.slice,Option.map_some,hvh,hvm,hb,cP,Sem.run_pure]);·rw[Ai];simp only[fJ];rw[hv]at B0;rcases cG with rfl|⟨g,ob,rfl,Kj⟩;(·simp only[List.length_nil]at bp bo;(have h0:mv.toNat=0:=by omega);(have h1:cy bl=0:=by omega);simp only[h0,h1,List.drop_nil,List.take_nil,Nat.sub_self];exact BX (by omega));·have h1:=uo (b:=some ⟨g,ob+cy bl*T.cells,none⟩) (off:=cy bl) (len:=mv.toNat-cy bl) B0 (by omega) (fun cM=>⟨g,ob,rfl,rfl⟩);obtain⟨a',mL,e1,e2,e3,e4⟩:=h1;simp only[List.cons.injEq,Value.slice.injEq,and_true]at e1;obtain⟨e1,e1',aC5⟩:=e1;have hlen:((xs.drop (cy bl)).take (mv.toNat-cy bl)).length=mv.toNat-cy bl:=e1'.symm;refine⟨_,mv.toNat-cy bl,by rw[hlen],by rw[hlen];exact Nat.le_refl _,by omega,?_⟩;rcases e4 with e4|⟨g',o',e4,e5⟩;(·exact .inl e4);·by_cases hz:mv.toNat=cy bl;(·left;apply List.eq_nil_of_length_eq_zero;omega);·right;rw[←e1]at e4;refine⟨g',o',?_,e5⟩;rw[if_neg hz];simpa[dJ]using e4);split at ab;(·rename_i U xs bS;split at ab;(·rename_i xs' hh jM;obtain⟨e',kR⟩:=Ty.aZ jM;injection e' with e';subst e';simp only at kR;subst kR;rw[bS]at hx;simp only[ae]at hx;obtain⟨nD,cE⟩:=hx;obtain⟨⟨jk,hmh⟩,ab⟩:=ab;obtain⟨g',n',Gn,Gp⟩:=key xs hh rfl jk hmh cE;refine h.val ho Gn ?_ ab;simp only[ae];exact⟨nD,⟨g',n',rfl⟩,Gp⟩);·exact ab.elim);(·rename_i U xs bS;split at ab;(·rename_i xs' hh jM;obtain⟨e',kR⟩:=Ty.aZ jM;injection e' with e';subst e';simp only at kR;subst kR;rw[bS]at hx;simp only[ae]at hx;obtain⟨nD,_,cE⟩:=hx;obtain⟨⟨jk,hmh⟩,ab⟩:=ab;obtain⟨g',n',Gn,Gp⟩:=key xs hh rfl jk hmh cE;refine h.val ho Gn ?_ ab;simp only[ae];exact⟨nD,⟨g',n',rfl⟩,Gp⟩);·exact ab.elim);·exact ab.elim);·exact ab.elim);·exact ab.elim)
 ·exact ab.elim
theorem B1(h:Full n w0 S0 s a w ν S)(ho:cd n o=true) {f:Nat} {first c6:Array Operand} (aK:o.op= .makeFunc (.func f) first c6)(ab:a8 E (ai E F s o) (fun l=>K (s.fin o.dst l))):o.wp E.P a w (fun a' w'=> ∃s',K s'∧Rel n w0 S0 s' a' w') Q:=by
 simp only[ai,aK]at ab;split at ab;(·rename_i EB;(have hf:first= #[]:=by apply Array.toList_inj.1;simpa using EB);subst hf;have hc:=fN h c6.toList (fun x hx=>aD ho (by simp only[aK,Op.operands];simpa using hx));refine h.val ho (v:=.func (.func f) #[] (c6.map a.eval)) ?_ ?_ ab;(·simp only[execOp,aK,Instr.makeFunc,Sem.run_bind,Sem.run_pure,Result.andThen_ok];rw[show(#[]:Array Operand).map a.eval= #[]from by simp]);·simp only[ae];exact⟨c6.toList.map a.eval,by congr 1;exact Array.toList_inj.1 (by simp),hc⟩)
 ·rename_i y r EB;split at ab;(·rename_i vo;(have hf:c6= #[]:=by apply Array.toList_inj.1;simpa using vo);subst hf;have hc:=fN h first.toList (fun x hx=>aD ho (by simp only[aK,Op.operands];simpa using hx));rw[←EB]at ab;refine h.val ho (v:=.func (.func f) (first.map a.eval) #[]) ?_ ?_ ab;(·simp only[execOp,aK,Instr.makeFunc,Sem.run_bind,Sem.run_pure,Result.andThen_ok];rw[show(#[]:Array Operand).map a.eval= #[]from by simp]);·simp only[ae];exact⟨first.toList.map a.eval,by congr 1;exact Array.toList_inj.1 (by simp),hc⟩);·exact ab.elim
theorem yF {c:Ctx} : ∀(vs:List PV)(us:List Value)(i:Nat)(p:PV),ah c vs us→yv vs i=some p→ ∃v,us[i]?=some v∧ae c p v|[],us,i,p,h,hv=>(by simp[yv]at hv)|q::vs,us,0,p,h,hv=>(by simp only[ah]at h;obtain⟨u,r,rfl,h1,h2⟩:=h;simp[yv]at hv;subst hv;exact⟨u,rfl,h1⟩)|q::vs,us,i+1,p,h,hv=>by simp only[ah]at h;obtain⟨u,r,rfl,h1,h2⟩:=h;simpa using yF vs r i p h2 hv
theorem gU {T:Ty} {x:T.den} {w:World} {M:Mem} {v:Value} (h:cH T x w M v):lz T x w M v:=by cases T<;>first|exact h|exact h.elim
theorem Aj {c:Ctx} : ∀(T:Ty)(x:T.den)(us:List Value)(i:Nat)(p:PV),aL T=0→xQ T x c.w c.M us→jz T x i=some p→ ∃v,us[i]?=some v∧ae c p v:=by
 intro T;induction T with|bk a b gE fK=>intro x us i p ho h hv;simp[aL]at ho;obtain⟨u,r,rfl,h1,h2⟩:=h;(cases i with|zero=>simp only[jz,Option.some.injEq]at hv;subst hv;refine⟨u,rfl,?_⟩;simp only[ae];exact⟨ho.1,gU h1⟩|succ i=>simpa using fK _ _ _ _ ho.2 h2 hv)|_=>intro x us i p ho h hv;obtain⟨u,rfl,h1⟩:=h;cases i with|zero=>simp only[jz,Option.some.injEq]at hv;subst hv;refine⟨u,rfl,?_⟩;simp only[ae];exact⟨ho,gU h1⟩|succ i=>simp[jz]at hv
theorem EC(h:Full n w0 S0 s a w ν S)(ho:cd n o=true) {x:Operand} {i:Nat} (aK:o.op= .extract x i)(ab:a8 E (ai E F s o) (fun l=>K (s.fin o.dst l))):o.wp E.P a w (fun a' w'=> ∃s',K s'∧Rel n w0 S0 s' a' w') Q:=by
 simp only[ai,aK]at ab;have hx:=h.ev (aD ho (x:=x) (by simp[aK,Op.operands]));split at ab;(·rename_i p hp;(have key: ∃us:List Value,a.eval x= .tuple us.toArray∧ ∃v,us[i]?=some v∧ae h.c p v:=by cases bS:s.ev x with|bk vs=>rw[bS]at hx hp;simp only[ae]at hx;obtain⟨us,hv,hr⟩:=hx;exact⟨us,hv,yF vs us i p hr hp⟩|iv T y=>rw[bS]at hx hp;(cases T with|bk ta tb=>simp only[ae]at hx;obtain⟨iL,us,hv,hr⟩:=hx;exact⟨us,hv,Aj _ y us i p iL hr hp⟩|_=>simp only[pW]at hp;cases hp)|_=>rw[bS]at hp;simp only[pW]at hp;cases hp);obtain⟨us,hv,v,Oa,hr⟩:=key;refine h.val ho (v:=v) ?_ hr ab;simp[execOp,aK,hv,Instr.extract,Oa])
 ·exact ab.elim
end
end Go.Proofs.Ytefpgfdemmllpaa
