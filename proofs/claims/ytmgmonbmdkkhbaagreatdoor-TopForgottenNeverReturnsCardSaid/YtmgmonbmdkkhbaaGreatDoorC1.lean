/- The law's fixed examples. Nothing here is trusted; no condition. -/
import Derived.Test.YtmgmonbmdkkhbaaGreatDoorB6
set_option linter.unusedSimpArgs false
set_option linter.unusedVariables false
open Nat renaming reduceBEq→zA,reduceAdd→zB,reduceSub→zC,reduceMul→zD,reduceLeDiff→zE
open Int renaming reduceLT→zF,reduceLE→zG,reduceToNat→zH,reduceNeg→zI
namespace Go.Proofs.YtmgmonbmdkkhbaaGreatDoor
attribute[local go_sem←]Bool.decide_and Bool.decide_or decide_not
set_option maxHeartbeats 4000000
set_option maxRecDepth 100000
theorem Rs(v k:Int)(h0:0≤v):PC env 101 [⟨.int .i64,v⟩,⟨.int .i64,k⟩] (.int .i64) (C9 v k):=by
 refine PC.ao (m:=2000) ah W7 rfl rfl rfl rfl (by kernel_rfl) ?_;intro hx;simp only[Tryz.f101];simp only[go_sem,zA,↓reduceIte,↓reduceDIte,zB,zC,zD,zE,zF,zG,zH,zI]
 unfold C9;refine⟨fun h1=>⟨fun h2=>?_,fun h2=>⟨⟨h0,by omega,by first|omega|(simp only[IntKind.bits];omega)⟩,?_⟩⟩,fun h1=>?_⟩;(·rw[if_pos (.inr h2)]);(·rw[if_neg (by omega)])
 ·rw[if_pos (.inl h1)]
theorem ax0(t:Int×Int)(e:Int)(h0:0≤t.2)(h1:0≤t.1)(h2:t.1≤10000):PC env 60 [⟨om,t⟩,⟨.int .i64,e⟩] (.aP (.int .i64) (.int .i64)) (Yj t e):=by
 refine PC.ao (m:=2000) ah ad9 rfl rfl rfl rfl (by kernel_rfl) ?_;intro hx;simp only[Tryz.f60];simp only[go_sem,zA,↓reduceIte,↓reduceDIte,zB,zC,zD,zE,zF,zG,zH,zI]
 unfold Yj;refine⟨fun h3=>⟨fun h4=>?_,fun h4=>⟨aH (by omega) (by omega),_,Rs _ _ h0,fun _=>?_⟩⟩,fun h3=>?_⟩;(·rw[if_pos (.inr h4)]);(·rw[if_neg (by omega)]);·rw[if_pos (.inl h3)]
theorem Rt(u:cn)(w:List UInt8)(e:Int)(ht:Ga u.1):PC env 21 [⟨az,u⟩,⟨.str,w⟩,⟨.int .i64,e⟩] (.int .i64) (e9 u.1 w e):=by
 refine PC.ao (m:=2000) ah Sc rfl rfl rfl rfl (by kernel_rfl) ?_;intro hx;simp only[Tryz.f21];simp only[go_sem,zA,↓reduceIte,↓reduceDIte,zB,zC,zD,zE,zF,zG,zH,zI]
 have hlen:=ht.1;refine av.jA (X:=Nat) (fun k=>⟨[(14,.iv (.int .i64) (k:Int)),(13,.iv (.int .i64) (u.1.length:Int)),(12,.iv (.sl ae) u.1),(7,.iv (.int .i64) (e9 (u.1.take k) w e)),(1,.iv .str w),(2,.iv (.int .i64) e)],[]⟩) (fun k=>k≤u.1.length) (fun k=>u.1.length-k) 0 (by refine⟨?_,?_,rfl,rfl⟩<;>repeat' (first|exact trivial|exact Or.inl rfl|exact Or.inr rfl|apply cV|apply cW|apply cX|apply cY|exact⟨(by show(_:Nat)<1000000000;omega),rfl,rfl⟩|rfl|(refine And.intro (Or.inl ?_) ?_)|(refine And.intro ?_ ?_))) (Nat.zero_le _) ?_
 intro k hk back;refine ay ah ⟨_,Sc,rfl⟩ 2000 _ _ (by kernel_rfl) ?_;simp only[go_sem,zA,↓reduceIte,↓reduceDIte,zB,zC,zD,zE,zF,zG,zH,zI];refine⟨fun h=>?_,fun h=>?_⟩
 (·obtain⟨x,cJ⟩: ∃x,u.1[k]?=some x:=ax (by omega);have hs:=A8 (w:=w) (e:=e) cJ;have Bc:=ht.2 x (List.mem_of_getElem? cJ);have hb:=Gb (l:=u.1.take k) (w:=w) (e:=e) (fun r hr=>(ht.2 r (List.mem_of_mem_take hr)).2.2);(have gP:(u.1.take k).length≤1000:=by rw[List.length_take];omega);have hv:=EL (w:=w) (e:=e) Bc.2.2.1;refine⟨Int.natCast_nonneg k,x,cJ,?_⟩;refine⟨fun c=>?_,fun c=>⟨fun d=>⟨_,ax0 (x.2.2.1,x.2.2.2.2.2) e Bc.2.2.1 Bc.1 Bc.2.1,fun _=>?_⟩,fun d=>?_⟩⟩;(·(have hz:ou w e x=0:=by unfold ou;rw[if_neg c]);refine⟨aH (by omega) (by omega),back _ (k+1) ⟨⟨Or.inl rfl,Or.inl rfl,Or.inl rfl,Or.inl ?_,Or.inl rfl,Or.inl rfl,trivial⟩,trivial,rfl,rfl⟩ (by omega) (by omega)⟩;rw[hs,hz,Int.add_zero];rfl);(·(have hz:ou w e x=(Yj (x.2.2.1,x.2.2.2.2.2) e).1:=by unfold ou A7;rw[if_pos c,if_pos d]);rw[hz]at hs hv;refine⟨aH (by omega) (by omega),aH (by omega) (by omega),back _ (k+1) ⟨⟨Or.inl rfl,Or.inl rfl,Or.inl rfl,Or.inl ?_,Or.inl rfl,Or.inl rfl,trivial⟩,trivial,rfl,rfl⟩ (by omega) (by omega)⟩;rw[hs];rfl);·(have hz:ou w e x=x.2.2.2.2.2:=by unfold ou A7;rw[if_pos c,if_neg d]);rw[hz]at hs hv;refine⟨aH (by omega) (by omega),aH (by omega) (by omega),back _ (k+1) ⟨⟨Or.inl rfl,Or.inl rfl,Or.inl rfl,Or.inl ?_,Or.inl rfl,Or.inl rfl,trivial⟩,trivial,rfl,rfl⟩ (by omega) (by omega)⟩;rw[hs];rfl)
 ·rw[List.take_of_length_le (by omega)]
end Go.Proofs.YtmgmonbmdkkhbaaGreatDoor
namespace Go.Proofs.YtmgmonbmdkkhbaaGreatDoor
open Go.Lib
set_option maxHeartbeats 1000000
set_option maxRecDepth 100000
abbrev wc:=cn×cn×cn
def tg(t:wc):Nat→cn|0=>t.1|1=>t.2.1|_=>t.2.2
def DE(t:wc)(i:Nat)(u:cn):wc:=match i with|0=>(u,t.2.1,t.2.2)|1=>(t.1,u,t.2.2)|_=>(t.1,t.2.1,u)
theorem eH {t:wc} {i j:Nat} {u:cn} (hi:i<3)(hj:j<3):tg (DE t i u) j=if j=i then u else tg t j:=by
 (have h1:i=0∨i=1∨i=2:=by omega);(have h2:j=0∨j=1∨j=2:=by omega);rcases h1 with rfl|rfl|rfl<;>rcases h2 with rfl|rfl|rfl<;>rfl
theorem yZ {α:Type} : ∀ {l G:List α},l.Nodup→(∀x,x∈l→x∈G)→l.length≤G.length|[],_,_,_=>Nat.zero_le _|x::l,G,hn,hs=>by obtain⟨A,B,rfl⟩:=List.append_of_mem (hs x List.mem_cons_self);obtain⟨h1,h2⟩:=List.nodup_cons.1 hn;have:=yZ (l:=l) (G:=A++B) h2 (fun y hy=>by have hm:=hs y (List.mem_cons_of_mem _ hy);simp only[List.mem_append,List.mem_cons]at hm⊢;rcases hm with h|h|h;(·exact .inl h);(·exact absurd (h▸hy) h1);·exact .inr h);simp only[List.length_append,List.length_cons]at this⊢;omega
theorem xp {α:Type} {pl:α→Int×Int} {l:List α} (h:lD pl l):l.Nodup:=List.Pairwise.imp (fun {a b} nL e=>by subst e;rw[gI]at nL;cases nL) h
structure TI(n:Nat)(t:wc)(GR:List Rec)(GO:List aS):Prop where
 len:GR.length+GO.length≤n
 vu: ∀i,i<3→VU (tg t i)
 sr: ∀i,i<3→ ∀r,r∈(tg t i).1→r∈GR
 so: ∀i,i<3→ ∀o,o∈(tg t i).2.1→o∈GO
 rr: ∀x y,x∈GR→y∈GR→a7 x=a7 y→x=y
 oo: ∀x y,x∈GO→y∈GO→dU x=dU y→x=y
 ro: ∀x y,x∈GR→y∈GO→a7 x≠dU y
 dr: ∀x,x∈GR→ ∃d:Nat,d<3∧x.1=d∧x.2.1≤aw (tg t d).2.2 x.1
 Yt: ∀x,x∈GO→ ∃d:Nat,d<3∧x.1=d∧x.2.1≤aw (tg t d).2.2 x.1
 last: ∀i,i<3→ ∀d:Int,0≤d→d≤7→aw (tg t i).2.2 d≤n
theorem aj5:TI 0 (zf,zf,zf) [] []:=by
 (have h: ∀i,i<3→tg (zf,zf,zf) i=zf:=fun i hi=>by(have h1:i=0∨i=1∨i=2:=by omega);rcases h1 with rfl|rfl|rfl<;>rfl);refine⟨Nat.le_refl _,fun i hi=>by rw[h i hi];exact yT,fun i hi r hr=>by rw[h i hi]at hr;exact hr,fun i hi r hr=>by rw[h i hi]at hr;exact hr,fun _ _ hx=>(List.not_mem_nil hx).elim,fun _ _ hx=>(List.not_mem_nil hx).elim,fun _ _ hx=>(List.not_mem_nil hx).elim,fun _ hx=>(List.not_mem_nil hx).elim,fun _ hx=>(List.not_mem_nil hx).elim,fun i hi d h0 h7=>?_⟩
 rw[h i hi];exact(uT.2.2 d h0 h7).2
theorem aj6 {GR:List Rec} {GO:List aS} (rr: ∀x y,x∈GR→y∈GR→a7 x=a7 y→x=y)(oo: ∀x y,x∈GO→y∈GO→dU x=dU y→x=y)(ro: ∀x y,x∈GR→y∈GO→a7 x≠dU y) {u v:cn} (u1: ∀r,r∈u.1→r∈GR)(u2: ∀o,o∈u.2.1→o∈GO)(v1: ∀r,r∈v.1→r∈GR)(v2: ∀o,o∈v.2.1→o∈GO):EZ u v:=⟨fun x y hx hy=>rr x y (u1 x hx) (v1 y hy),fun x y hx hy=>oo x y (u2 x hx) (v2 y hy),fun x y hx hy=>ro x y (u1 x hx) (v2 y hy),fun x y hx hy=>ro x y (v1 x hx) (u2 y hy)⟩
theorem TI.ax1 {n:Nat} {t:wc} {GR:List Rec} {GO:List aS} (h:TI n t GR GO) {i:Nat} (hi:i<3):(tg t i).1.length≤n:=Nat.le_trans (yZ (xp (h.vu i hi).sR) (h.sr i hi)) (by have:=h.len;omega)
theorem TI.rX {n:Nat} {t:wc} {GR:List Rec} {GO:List aS} (h:TI n t GR GO) {i:Nat} (hi:i<3):(tg t i).2.1.length≤n:=Nat.le_trans (yZ (xp (h.vu i hi).sO) (h.so i hi)) (by have:=h.len;omega)
theorem aj7 {n:Nat} {t:wc} {GR:List Rec} {GO:List aS} (h:TI n t GR GO)(hn:n<400) {i:Nat} (hi:i<3) {r:Rec} (hr:aD (r.1,1,r.2.2)=true)(hd:r.1=i): ∃q,TI (n+1) (DE t i (bY (tg t i) r).1) (q::GR) GO:=by
 have hv:=h.vu i hi;have h1:=h.ax1 hi;obtain⟨d0,d7⟩:=ft hr;have hl:=h.last i hi r.1 d0 d7;have X0:=uP hv hr (by omega) (by omega);refine⟨(r.1,aw (tg t i).2.2 r.1+1,r.2.2),?_⟩
 (have r9: ∀x,x∈(bY (tg t i) r).1.1→x=(r.1,aw (tg t i).2.2 r.1+1,r.2.2)∨x∈(tg t i).1:=fun x hx=>by rw[jZ hr (by omega) (by omega)]at hx;dsimp only at hx;split at hx;(·exact .inr hx);·exact bF.1 hx)
 (have nH:(bY (tg t i) r).1.2.1=(tg t i).2.1:=by rw[jZ hr (by omega) (by omega)];dsimp only;split<;>rfl);(have fb:(bY (tg t i) r).1.2.2=fq (tg t i).2.2 r.1 (aw (tg t i).2.2 r.1+1):=by rw[jZ hr (by omega) (by omega)];dsimp only;split<;>rfl)
 generalize(bY (tg t i) r).1=u' at*;(have G2: ∀d,d<3→ ∀x:Int,0≤x→x≤7→aw (tg t d).2.2 x≤aw (tg (DE t i u') d).2.2 x:=fun d BZ x x0 x7=>by rw[eH hi BZ];split;(·rename_i e;subst e;rw[fb];exact il _ x0 x7);·exact Int.le_refl _)
 (have fY: ∀(y:Int×Int)(d:Nat),d<3→y.1=d→y.2≤aw (tg t d).2.2 y.1→y≠a7 (r.1,aw (tg t i).2.2 r.1+1,r.2.2):=fun y d BZ e1 e2 e=>by have e3:y.1=r.1:=congrArg Prod.fst e;have e4:y.2=aw (tg t i).2.2 r.1+1:=congrArg Prod.snd e;(have e5:d=i:=by omega);subst e5;rw[e3]at e2;omega)
 refine⟨by have:=h.len;simp only[List.length_cons];omega,fun j hj=>?_,fun j hj x hx=>?_,fun j hj x hx=>?_,fun x y hx hy e=>?_,h.oo,fun x y hx hy e=>?_,fun x hx=>?_,fun x hx=>?_,fun j hj d G3 G4=>?_⟩
 (·rw[eH hi hj];split;(·exact X0);·exact h.vu j hj);(·rw[eH hi hj]at hx;split at hx;(·rcases r9 x hx with rfl|hx;(·exact List.mem_cons_self);·exact List.mem_cons_of_mem _ (h.sr i hi x hx));·exact List.mem_cons_of_mem _ (h.sr j hj x hx))
 (·rw[eH hi hj]at hx;split at hx;(·rw[nH]at hx;exact h.so i hi x hx);·exact h.so j hj x hx);(·rcases List.mem_cons.1 hx with rfl|hx<;>rcases List.mem_cons.1 hy with rfl|hy;(·rfl);(·obtain⟨d,a,b,c⟩:=h.dr y hy;exact absurd e.symm (fY (a7 y) d a b c));(·obtain⟨d,a,b,c⟩:=h.dr x hx;exact absurd e (fY (a7 x) d a b c));·exact h.rr x y hx hy e)
 (·rcases List.mem_cons.1 hx with rfl|hx;(·obtain⟨d,a,b,c⟩:=h.Yt y hy;exact absurd e.symm (fY (dU y) d a b c));·exact h.ro x y hx hy e);(·rcases List.mem_cons.1 hx with rfl|hx;(·refine⟨i,hi,hd,?_⟩;rw[eH hi hi,if_pos rfl,fb];dsimp only;rw[dR _ _ d0 d7];exact Int.le_refl _);·obtain⟨d,a,b,c⟩:=h.dr x hx;exact⟨d,a,b,Int.le_trans c (G2 d a _ (by omega) (by omega))⟩)
 (·obtain⟨d,a,b,c⟩:=h.Yt x hx;exact⟨d,a,b,Int.le_trans c (G2 d a _ (by omega) (by omega))⟩);·rw[eH hi hj];split;(·rw[fb];by_cases e:d=r.1;(·subst e;rw[dR _ _ d0 d7];push_cast;omega);·rw[eE _ _ G3 G4 e];have:=h.last i hi d G3 G4;push_cast;omega);·have:=h.last j hj d G3 G4;push_cast;omega
theorem Yu {n:Nat} {t:wc} {GR:List Rec} {GO:List aS} (h:TI n t GR GO)(hn:n<400) {i:Nat} (hi:i<3) {r:aS} (hr:aZ (r.1,1,r.2.2)=true)(hd:r.1=i):TI (n+1) (DE t i (bQ (tg t i) r).1) GR ((r.1,aw (tg t i).2.2 r.1+1,r.2.2)::GO)∧(bQ (tg t i) r).2=0∧(r.1,aw (tg t i).2.2 r.1+1,r.2.2)∈(bQ (tg t i) r).1.2.1∧aw (bQ (tg t i) r).1.2.2 r.1=aw (tg t i).2.2 r.1+1:=by
 have hv:=h.vu i hi;have h1:=h.rX hi;obtain⟨d0,d7⟩:=eF hr;have hl:=h.last i hi r.1 d0 d7;have X0:=xc hv hr (by omega) (by omega);have heq:=kX (u:=tg t i) hr (by omega) (by omega)
 (have r9: ∀x,x∈(bQ (tg t i) r).1.1→x∈(tg t i).1:=fun x hx=>by rw[heq]at hx;exact(List.mem_filter.1 hx).1);(have nH: ∀x,x∈(bQ (tg t i) r).1.2.1↔x=(r.1,aw (tg t i).2.2 r.1+1,r.2.2)∨x∈(tg t i).2.1:=fun x=>by rw[heq];exact bF)
 (have fb:(bQ (tg t i) r).1.2.2=fq (tg t i).2.2 r.1 (aw (tg t i).2.2 r.1+1):=by rw[heq]);(have hz:(bQ (tg t i) r).2=0:=by rw[heq]);refine⟨?_,hz,(nH _).2 (.inl rfl),by rw[fb,dR _ _ d0 d7]⟩
 generalize(bQ (tg t i) r).1=u' at*;(have G2: ∀d,d<3→ ∀x:Int,0≤x→x≤7→aw (tg t d).2.2 x≤aw (tg (DE t i u') d).2.2 x:=fun d BZ x x0 x7=>by rw[eH hi BZ];split;(·rename_i e;subst e;rw[fb];exact il _ x0 x7);·exact Int.le_refl _)
 (have fY: ∀(y:Int×Int)(d:Nat),d<3→y.1=d→y.2≤aw (tg t d).2.2 y.1→y≠dU (r.1,aw (tg t i).2.2 r.1+1,r.2.2):=fun y d BZ e1 e2 e=>by have e3:y.1=r.1:=congrArg Prod.fst e;have e4:y.2=aw (tg t i).2.2 r.1+1:=congrArg Prod.snd e;(have e5:d=i:=by omega);subst e5;rw[e3]at e2;omega)
 refine⟨by have:=h.len;simp only[List.length_cons];omega,fun j hj=>?_,fun j hj x hx=>?_,fun j hj x hx=>?_,h.rr,fun x y hx hy e=>?_,fun x y hx hy e=>?_,fun x hx=>?_,fun x hx=>?_,fun j hj d G3 G4=>?_⟩
 (·rw[eH hi hj];split;(·exact X0);·exact h.vu j hj);(·rw[eH hi hj]at hx;split at hx;(·exact h.sr i hi x (r9 x hx));·exact h.sr j hj x hx);(·rw[eH hi hj]at hx;split at hx;(·rcases(nH x).1 hx with rfl|hx;(·exact List.mem_cons_self);·exact List.mem_cons_of_mem _ (h.so i hi x hx));·exact List.mem_cons_of_mem _ (h.so j hj x hx))
 (·rcases List.mem_cons.1 hx with rfl|hx<;>rcases List.mem_cons.1 hy with rfl|hy;(·rfl);(·obtain⟨d,a,b,c⟩:=h.Yt y hy;exact absurd e.symm (fY (dU y) d a b c));(·obtain⟨d,a,b,c⟩:=h.Yt x hx;exact absurd e (fY (dU x) d a b c));·exact h.oo x y hx hy e)
 (·rcases List.mem_cons.1 hy with rfl|hy;(·obtain⟨d,a,b,c⟩:=h.dr x hx;exact absurd e (fY (a7 x) d a b c));·exact h.ro x y hx hy e);(·obtain⟨d,a,b,c⟩:=h.dr x hx;exact⟨d,a,b,Int.le_trans c (G2 d a _ (by omega) (by omega))⟩)
 (·rcases List.mem_cons.1 hx with rfl|hx;(·refine⟨i,hi,hd,?_⟩;rw[eH hi hi,if_pos rfl,fb];dsimp only;rw[dR _ _ d0 d7];exact Int.le_refl _);·obtain⟨d,a,b,c⟩:=h.Yt x hx;exact⟨d,a,b,Int.le_trans c (G2 d a _ (by omega) (by omega))⟩)
 ·rw[eH hi hj];split;(·rw[fb];by_cases e:d=r.1;(·subst e;rw[dR _ _ d0 d7];push_cast;omega);·rw[eE _ _ G3 G4 e];have:=h.last i hi d G3 G4;push_cast;omega);·have:=h.last j hj d G3 G4;push_cast;omega
theorem aj8 {n:Nat} {t:wc} {GR:List Rec} {GO:List aS} (h:TI n t GR GO) {i k:Nat} (hi:i<3)(hk:k<3) {w:cn} (hw:rl (tg t i) (tg t k) w):TI n (DE t i w) GR GO:=by
 (have G2: ∀d,d<3→ ∀x:Int,0≤x→x≤7→aw (tg t d).2.2 x≤aw (tg (DE t i w) d).2.2 x:=fun d BZ x x0 x7=>by rw[eH hi BZ];split;(·rename_i e;subst e;rw[hw.E0,get_max _ _ x0 x7];omega);·exact Int.le_refl _)
 refine⟨h.len,fun j hj=>?_,fun j hj x hx=>?_,fun j hj x hx=>?_,h.rr,h.oo,h.ro,fun x hx=>?_,fun x hx=>?_,fun j hj d G3 G4=>?_⟩;(·rw[eH hi hj];split;(·exact hw.vu);·exact h.vu j hj)
 (·rw[eH hi hj]at hx;split at hx;(·rcases((hw.XP x).1 hx).1 with hx|hx;(·exact h.sr i hi x hx);·exact h.sr k hk x hx);·exact h.sr j hj x hx);(·rw[eH hi hj]at hx;split at hx;(·rcases(hw.XQ x).1 hx with hx|hx;(·exact h.so i hi x hx);·exact h.so k hk x hx);·exact h.so j hj x hx)
 (·obtain⟨d,a,b,c⟩:=h.dr x hx;exact⟨d,a,b,Int.le_trans c (G2 d a _ (by omega) (by omega))⟩);(·obtain⟨d,a,b,c⟩:=h.Yt x hx;exact⟨d,a,b,Int.le_trans c (G2 d a _ (by omega) (by omega))⟩)
 ·rw[eH hi hj];split;(·rw[hw.E0,get_max _ _ G3 G4];have a:=h.last i hi d G3 G4;have b:=h.last k hk d G3 G4;omega);·exact h.last j hj d G3 G4
theorem DF {u v w x:cn} (h1:rl u v w)(h2:rl u v x):w=x:=by
 (have eo:w.2.1=x.2.1:=ql (lt:=fun x y=>bI (dU x) (dU y)) (fun _=>gI) (fun _ _ _ a b=>dv a b) h1.vu.sO h2.vu.sO fun o=>by rw[h1.XQ,h2.XQ]);(have er:w.1=x.1:=yU h1.vu.sR h2.vu.sR fun r=>by rw[h1.XP,h2.XP,eo])
 (have el:w.2.2=x.2.2:=by rw[h1.E0,h2.E0]);obtain⟨a,b,c⟩:=w;obtain⟨a',b',c'⟩:=x;dsimp only at eo er el;rw[eo,er,el]
end Go.Proofs.YtmgmonbmdkkhbaaGreatDoor
namespace Go.Proofs.YtmgmonbmdkkhbaaGreatDoor
attribute[local go_sem←]Bool.decide_and Bool.decide_or decide_not
attribute[local go_sem]bO u3 oF nT dw Int.reduceEq not_true_eq_false not_false_eq_true false_implies
open Go.Lib
set_option maxHeartbeats 4000000
set_option maxRecDepth 100000
theorem DG {u:cn} (hu:VU u):EZ u u:=⟨fun x y hx hy e=>ki hu.sR hx hy e,fun x y hx hy e=>ki hu.sO hx hy e,fun x y hx hy e=>(hu.sH x hx).2.2.1 (List.mem_map.2 ⟨y,hy,e.symm⟩),fun x y hx hy e=>(hu.sH x hx).2.2.1 (List.mem_map.2 ⟨y,hy,e.symm⟩)⟩
theorem BQ {u:cn} (hu:VU u):rl u u u:=⟨hu,fun r=>⟨fun h=>⟨.inl h,(hu.sH r h).2.2.2⟩,fun h=>by rcases h.1 with h|h<;>exact h⟩,fun o=>by simp,KA fun i h0 h7=>by rw[get_max _ _ h0 h7];omega⟩
theorem DH {u:cn} (hu:VU u)(h1:u.1.length≤200)(h2:u.2.1.length≤200):yQ u u=(u,0):=by
 obtain⟨w,w1,w2⟩:=Dq hu hu (DG hu) (by omega) (by omega);unfold yQ;rw[w1,DF w2 (BQ hu)]
abbrev rQ:Rec:=(0,1,3,[65],0,4)
abbrev uQ:cn:=([rQ],[],(1,0,0,0,0,0,0,0))
theorem KV:aD rQ=true:=by decide
theorem E6:bY zf (0,0,3,[65],0,4)=(uQ,1,0):=by
 unfold bY;rw[if_pos (by decide),if_neg (by decide)];(have e: ∀p,nr a7 ([]:List Rec) p=0:=fun p=>by have:=gU a7 ([]:List Rec) p;simpa using this);dsimp only;rw[if_neg (by decide),e]
 rfl
theorem SF:VU uQ:=by have:=uP (u:=zf) (r:=(0,0,3,[65],0,4)) yT (by decide) (by decide) (by decide);rw[E6]at this;exact this
theorem it0:itoa 0=[48]:=by rw[eG (by decide)];exact dZ (by decide)
theorem it1:itoa 1=[49]:=by rw[eG (by decide)];exact dZ (by decide)
theorem it3:itoa 3=[51]:=by rw[eG (by decide)];exact dZ (by decide)
theorem it4:itoa 4=[52]:=by rw[eG (by decide)];exact dZ (by decide)
abbrev sQ:bq:=[48,32,49,32,51,32,65,32,48,32,52]
theorem Ru:c9 rQ=sQ:=by unfold c9;rw[it0,it1,it3,it4];rfl
theorem KW:Jn.jK sQ=true:=by decide
theorem X1:Jn.gj ((Jn.b6 sQ).length+1) (Jn.b6 sQ)=([sQ],21):=by
 have:=Jn.rq [sQ] (Jn.b6 sQ).length ((Jn.b6 sQ).length+1) (fun l hl=>by rw[List.mem_singleton.1 hl];exact KW) (by rw[Jn.ea];decide);(have e:Jn.eT [sQ]=Jn.b6 sQ:=by unfold Jn.eT;simp)
 rw[e,List.take_length]at this;rw[this];(have h:Jn.cr [sQ] (Jn.b6 sQ).length=1:=by rw[Jn.ea];rfl);rw[h];unfold Jn.ends;rw[show[sQ].take 1=[sQ]from rfl,e,Jn.ea];rfl
theorem DI:PC env 5 [] .bool true:=by
 refine PC.ao (m:=2000) ah ap7 rfl rfl rfl rfl (by kernel_rfl) ?_;intro hx;simp only[Tryz.f5];simp only[go_sem,zA,↓reduceIte,↓reduceDIte,zB,zC,zD,zE,zF,zG,zH,zI]
 have k1:=EK zf (0,0,3,[65],0,4);rw[E6]at k1;have k2:=Rc uQ uQ (by decide) (by decide);rw[DH SF (by decide) (by decide)]at k2;have k3:=yM rQ KV;rw[Ru]at k3;(have k4:PC env 8 [⟨.sl (.int .u8),[]⟩,⟨.str,sQ⟩] (.aP (.sl (.int .u8)) (.int .i64)) (im (Jn.b6 sQ),0):=by have:=SE [] sQ (by decide);unfold Ro at this;rw[if_pos KW]at this;exact this)
 have k5:=KS (Jn.b6 sQ) (by rw[Jn.ea];decide);rw[X1]at k5;have k6:=Xp uQ uQ;rw[J2 rfl]at k6;have k7:=Rt uQ [65] 4 SF.Ga;(have k8:e9 uQ.1 [65] 4=2:=by decide);rw[k8]at k7
 refine⟨_,k1,fun _=>⟨_,k2,fun _=>⟨_,k3,fun _=>⟨_,k4,fun _=>⟨_,k5,fun _=>⟨fun _=>⟨fun _=>⟨fun _=>⟨_,k6,?_⟩,fun h=>absurd rfl h⟩,fun h=>absurd rfl h⟩,fun h=>absurd rfl h⟩⟩⟩⟩⟩⟩
 simp only[go_sem,zA,↓reduceIte,↓reduceDIte,zB,zC,zD,zE,zF,zG,zH,zI];exact⟨_,k7,fun _=>⟨fun _=>⟨sQ,rfl,rfl⟩,fun h=>absurd rfl h⟩⟩
end Go.Proofs.YtmgmonbmdkkhbaaGreatDoor
