/- Plain facts: a torn backup restores its whole entries. Nothing here is trusted; no condition. -/
import Derived.Test.YtmgmonbmdkkhbaaGreatDoorB5
import Derived.Lib.BytesEntry
import Derived.WalkKit
import Derived.Lib.Walk
set_option linter.unusedSimpArgs false
set_option linter.unusedVariables false
open Nat renaming reduceBEq→zA,reduceAdd→zB,reduceSub→zC,reduceMul→zD,reduceLeDiff→zE
open Int renaming reduceLT→zF,reduceLE→zG,reduceToNat→zH,reduceNeg→zI
namespace Go.Proofs.YtmgmonbmdkkhbaaGreatDoor
open Go.Lib
set_option maxHeartbeats 1000000
set_option maxRecDepth 100000
def B4(l:List bq):bq:=(l.map fun x=>x++ [10]).flatten
theorem BD {n:Nat} {x t:bq} {l:List Rec} (h:(10:UInt8)∉x):fU (n+1) (x++10::t) l=(match mG x with|none=>([],(l.length:Int))|some q=>fU n t (l++ [q])):=by
 rw[fU,if_neg (by simp),sK h];rfl
theorem vp: ∀(xs:List (bq×Rec))(n:Nat)(l:List Rec),(∀p,p∈xs→(10:UInt8)∉p.1∧mG p.1=some p.2)→xs.length<n→fU n (B4 (xs.map (·.1))) l=(l++xs.map (·.2),-1)|[],n,l,_,hn=>(by obtain⟨m,rfl⟩: ∃m,n=m+1:=⟨n-1,by simp only[List.length_nil]at hn;omega⟩;rw[fU,if_pos (show B4 (List.map (fun x:bq×Rec=>x.1) [])=[]from rfl)];simp)|p::xs,n,l,h,hn=>by obtain⟨m,rfl⟩: ∃m,n=m+1:=⟨n-1,by simp only[List.length_cons]at hn;omega⟩;obtain⟨h1,h2⟩:=h p (List.mem_cons_self ..);(have e:B4 ((p::xs).map (·.1))=p.1++10::B4 (xs.map (·.1)):=by simp[B4]);rw[e,BD h1,h2];dsimp only;rw[vp xs m (l++ [p.2]) (fun q hq=>h q (List.mem_cons_of_mem _ hq)) (by simp only[List.length_cons]at hn;omega)];simp
theorem Rh(l:List bq):l.length≤(B4 l).length:=by
 induction l with|nil=>simp|cons a l ih=>(have:B4 (a::l)=a++10::B4 l:=by simp[B4]);rw[this];simp only[List.length_append,List.length_cons];omega
theorem vq(xs:List (bq×Rec))(h: ∀p,p∈xs→(10:UInt8)∉p.1∧mG p.1=some p.2):fv (B4 (xs.map (·.1)))=(xs.map (·.2),-1):=by
 unfold fv;rw[vp xs _ [] h (by have:=Rh (xs.map (·.1));rw[List.length_map]at this;omega)];rfl
theorem BE(c d:UInt8)(hcd:d≠c): ∀(l:List bq),(∀x,x∈l→d∉x)→d∉fR c l|[],_=>(by simp[fR])|[x],h=>(by simpa[fR]using h x (by simp))|x::y::l,h=>by rw[oB c x (by simp)];have ih:=BE c d hcd (y::l) (fun z hz=>h z (List.mem_cons_of_mem _ hz));simp only[List.mem_append,List.mem_cons,not_or];exact⟨h x (by simp),hcd,ih⟩
theorem xl {r:Rec} (h:aD r=true):(10:UInt8)∉c9 r:=by
 obtain⟨h1,h2,h3,h4,h5,h6⟩:=dS h;refine BE 32 10 (by decide) _ (fun x hx=>?_);simp only[List.mem_cons,List.not_mem_nil,or_false]at hx;rcases hx with rfl|rfl|rfl|rfl|rfl|rfl
 (·exact kf _ (by omega));(·exact kf _ (by omega));(·exact kf _ (by omega));(·exact j7 Sw (mI h4));(·exact kf _ (by omega));·exact kf _ (by omega)
theorem GC {w:bq} {n:Int} (h:ej w=true)(h0:0≤n):(10:UInt8)∉rT w n:=by unfold rT;simp only[List.mem_append,List.mem_cons,not_or];exact⟨j7 Sw (mI h),by decide,kf _ h0⟩
def E3(p:Int×Int):Rec:=(0,0,0,sa p.1,0,1+p.2)
theorem BF {l:List Rec} (h: ∀r,r∈l→aD r=true):fv (dV l)=(l,-1):=by
 have:=vq (l.map fun r=>(c9 r,r)) (fun p hp=>by obtain⟨r,hr,rfl⟩:=List.mem_map.1 hp;exact⟨xl (h r hr),vk (h r hr)⟩);rw[List.map_map,List.map_map]at this;(have e:l.map ((fun x=>x.2)∘fun r=>(c9 r,r))=l:=by(conv=>rhs;rw[←List.map_id l]);rfl)
 rw[e]at this;rw[←this];congr 1;unfold dV B4;rw[List.map_map];rfl
theorem XV {m:List fZ} {l:List (Int×Int)} (h: ∀x,x∈m→dE.ok x)(hl: ∀p,p∈l→0≤p.2∧p.2≤255):fv (KI m++Sy l)=(m.map BB++l.map E3,-1):=by
 have:=vq ((m.map fun x=>(c9 (BB x),BB x))++l.map fun p=>(rT (sa p.1) (1+p.2),E3 p)) (fun p hp=>by rcases List.mem_append.1 hp with hp|hp;(·obtain⟨r,hr,rfl⟩:=List.mem_map.1 hp;exact⟨xl (rV (h r hr)),vk (rV (h r hr))⟩);·obtain⟨r,hr,rfl⟩:=List.mem_map.1 hp;have:=hl r hr;exact⟨GC (sJ _) (by omega),Du (sJ _) (by omega) (by omega)⟩)
 rw[List.map_append,List.map_append,List.map_map,List.map_map,List.map_map,List.map_map]at this;refine Eq.trans ?_ this;congr 1;unfold KI Sy B4;rw[List.map_append,List.flatten_append,List.map_map,List.map_map]
 rfl
theorem ki {α:Type} {pl:α→Int×Int} {l:List α} (h:lD pl l) {x y:α} (hx:x∈l)(hy:y∈l)(he:pl x=pl y):x=y:=by
 obtain⟨i,hi⟩:=List.getElem?_of_mem hx;obtain⟨j,hj⟩:=List.getElem?_of_mem hy;rcases Nat.lt_trichotomy i j with h1|h1|h1;(·have:=nt h hi hj h1;rw[he,gI]at this;cases this)
 (·subst h1;rw[hi]at hj;exact Option.some.inj hj);·have:=nt h hj hi h1;rw[he,gI]at this;cases this
theorem oG {u:cn} {r:Rec} (h:u.2.1.any (fun o=>bd o r)=true):fT u r=(u,0):=if_pos h
theorem vr {u:cn} {r:Rec} (hs:lD a7 u.1)(h:r∈u.1):fT u r=(u,0):=by
 unfold fT;split;(·rfl);·have hh:=(p9 hs (a7 r)).2 (List.mem_map_of_mem h);obtain⟨x,hx1,hx2⟩:=Br hh;have:x=r:=ki hs (List.mem_of_getElem? hx1) h (rh.1 hx2);rw[if_pos (by rw[hx1,this])]
theorem BG {o:aS} {r:Rec} :gW o r=true↔dU o=a7 r:=by unfold gW dU a7;rw[decide_eq_true_eq,Prod.mk.injEq]
theorem qo {u:cn} {r:Rec} (hs:lD a7 u.1)(hm:u.2.1.any (fun o=>bd o r)=false)(hn:a7 r∉u.1.map a7)(ho:a7 r∉u.2.1.map dU)(hl:u.1.length<400):fT u r=((cd u.1 (gJ a7 u.1 (a7 r)) r,u.2.1,fq u.2.2 r.1 (max (aw u.2.2 r.1) r.2.1)),0):=by
 have h1:gi a7 u.1 (a7 r) (nr a7 u.1 (a7 r))=false:=Bool.eq_false_iff.2 fun hh=>hn ((p9 hs _).1 hh);(have h2:u.2.1.any (fun o=>gW o r)=false:=Bool.eq_false_iff.2 fun hh=>by obtain⟨o,ho',hm'⟩:=List.any_eq_true.1 hh;exact ho (by rw[←BG.1 hm'];exact List.mem_map_of_mem ho'))
 unfold fT;rw[if_neg (by rw[hm];decide),if_neg (Kt h1),h1,h2,if_neg (by decide),if_neg (by omega),kW hs]
theorem BH {L:L8} {d s:Int} (h0:0≤d)(h7:d≤7) {b:Int} (hs:s≤b)(h: ∀i:Int,0≤i→i≤7→0≤aw L i∧aw L i≤b): ∀i:Int,0≤i→i≤7→aw L i≤aw (fq L d (max (aw L d) s)) i∧aw (fq L d (max (aw L d) s)) i≤b:=by
 intro i hi hi7;have:=h i hi hi7;by_cases e:i=d;(·subst e;rw[dR L _ hi hi7];omega);·rw[eE L _ hi hi7 e];omega
theorem Dy {l:List aS} {r:Rec} (h:l.any (fun o=>bd o r)=false) {o:aS} (ho:o∈l):bd o r=false:=by rw[List.any_eq_false]at h;simpa using h o ho
theorem Dz {u:cn} {r:Rec} (hu:VU u)(hr:aD r=true)(hm:u.2.1.any (fun o=>bd o r)=false)(hn:a7 r∉u.1.map a7)(ho:a7 r∉u.2.1.map dU)(hl:u.1.length<400):VU (cd u.1 (gJ a7 u.1 (a7 r)) r,u.2.1,fq u.2.2 r.1 (max (aw u.2.2 r.1) r.2.1)):=by
 obtain⟨d0,d7⟩:=fQ hr;have hnum:=(dS hr).2.1;have hx:=BH (L:=u.2.2) (s:=r.2.1) d0 d7 hnum.2 hu.last;have hlen:(cd u.1 (gJ a7 u.1 (a7 r)) r).length=u.1.length+1:=dY (p8 _ _ _)
 refine⟨by dsimp only;omega,hu.l2,fun i h0 h7=>⟨by have:=(hx i h0 h7).1;have:=(hu.last i h0 h7).1;dsimp only;omega,(hx i h0 h7).2⟩,fun o ho'=>?_,hu.sO,qa hu.sR hn,fun q hq=>?_⟩
 (·obtain⟨k1,k2⟩:=hu.ord o ho';obtain⟨e0,e7⟩:=qc k1;exact⟨k1,Int.le_trans k2 (hx _ e0 e7).1⟩);·rcases bF.1 hq with rfl|hq;(·refine⟨hr,?_,ho,fun o ho'=>?_⟩;(·dsimp only;rw[dR _ _ d0 d7];omega);·have:bd o q=false:=Dy hm ho';rw[dc (hu.ord o ho').1 hr]at this;exact this);·obtain⟨k1,k2,k3,k4⟩:=hu.sH q hq;obtain⟨e0,e7⟩:=fQ k1;exact⟨k1,Int.le_trans k2 (hx _ e0 e7).1,k3,k4⟩
theorem ak8 {u:cn} {r:Rec} (hu:VU u)(hr:aD r=true):VU (fT u r).1:=by
 by_cases hm:u.2.1.any (fun o=>bd o r)=true;(·rw[oG hm];exact hu);have hm':=Bool.eq_false_iff.2 hm;by_cases hn:a7 r∈u.1.map a7;(·unfold fT;have h1:=(p9 hu.sR (a7 r)).2 hn;rw[if_neg hm,h1];split;(·exact hu);·exact hu)
 by_cases ho:a7 r∈u.2.1.map dU;(·obtain⟨o,ho1,ho2⟩:=List.mem_map.1 ho;unfold fT;rw[if_neg hm];split;(·exact hu);·rw[if_pos (by rw[List.any_eq_true.2 ⟨o,ho1,BG.2 ho2⟩,Bool.or_true])];exact hu)
 by_cases hl:u.1.length<400;(·rw[qo hu.sR hm' hn ho hl];exact Dz hu hr hm' hn ho hl);·unfold fT;(repeat' split);all_goals first|exact hu|(exfalso;omega)
theorem aj2 {k:Nat} {u:cn} {r:Rec} (hf:nV k u)(hr:aD r=true)(h9:r.2.1≤9):nV (max (k+1) 9) (fT u r).1:=by
 have hup:nV (max (k+1) 9) u:=Bt hf (by omega);unfold fT;(repeat' split);(all_goals first|exact hup|skip);obtain⟨d0,d7⟩:=fQ hr;have hx:=BH (L:=u.2.2) (s:=r.2.1) d0 d7 (b:=((max (k+1) 9:Nat):Int)) (by omega) hup.2.2
 refine⟨?_,hup.2.1,fun i h0 h7=>⟨by have:=(hx i h0 h7).1;have:=(hf.2.2 i h0 h7).1;dsimp only;omega,(hx i h0 h7).2⟩⟩;have:=hf.1;dsimp only;rw[dY (gU _ _ _)];omega
theorem BI {d e:Int} {u:cn} {l:List Rec} (P:Nat→cn→Prop)(h: ∀i v r,l[i]?=some r→P i v→(lp d e v r).2=0∧P (i+1) (lp d e v r).1): ∀(n k:Nat)(v:cn),l.length-k=n→k≤l.length→P k v→ ∃w,P l.length w∧se d e u k v (l.drop k)=(w,(w.1.length:Int)-(u.1.length:Int),0)|0,k,v,hn,hk,hp=>(by(have e:k=l.length:=by omega);subst e;exact⟨v,hp,by rw[List.drop_of_length_le (Nat.le_refl _),se]⟩)|n+1,k,v,hn,hk,hp=>by obtain⟨r,hr⟩:=ax (xs:=l) (i:=k) (by omega);obtain⟨h1,h2⟩:=h k v r hr hp;rw[drop_cons hr,se,if_pos h1];exact BI P h n (k+1) _ (by omega) (by omega) h2
theorem qp {d e:Int} {u v:cn} {l:List Rec} (P:Nat→cn→Prop)(h0:P 0 v)(h: ∀i v r,l[i]?=some r→P i v→(lp d e v r).2=0∧P (i+1) (lp d e v r).1): ∃w,P l.length w∧se d e u 0 v l=(w,(w.1.length:Int)-(u.1.length:Int),0):=by
 have:=BI (u:=u) P h l.length 0 v (by omega) (Nat.zero_le _) h0;simpa using this
theorem kl {d e:Int} {v:cn} {r:Rec} (h:aD r=true):lp d e v r=fT v r:=by have:=(dS h).2.1;exact if_neg (by omega)
theorem mK {u:cn} {l:List Rec} {d e:Int} (h: ∀r,r∈l→aD r=true)(hd:0≤d∧d<8)(he:0≤e∧e≤10000):gA u (dV l) d e=se d e u 0 u l:=by
 unfold gA;rw[if_neg (by omega),BF h,if_neg (show¬(0:Int)≤ -1 by decide)]
theorem ak9 {l:List aS} {r:Rec} (ho: ∀o,o∈l→aZ o=true)(hr:aD r=true)(h: ∀o,o∈l→bf o r=false):l.any (fun o=>bd o r)=false:=by
 rw[Bool.eq_false_iff];intro hh;obtain⟨o,h1,h2⟩:=List.any_eq_true.1 hh;rw[dc (ho o h1) hr,h o h1]at h2;cases h2
end Go.Proofs.YtmgmonbmdkkhbaaGreatDoor
namespace Go.Proofs.YtmgmonbmdkkhbaaGreatDoor
open Go.Lib
set_option maxHeartbeats 1000000
set_option maxRecDepth 100000
abbrev z8:L8:=(0,0,0,0,0,0,0,0)
abbrev zf:cn:=([],[],z8)
theorem yT:VU zf:=yA
theorem yU {l m:List Rec} (h1:lD a7 l)(h2:lD a7 m)(h: ∀x,x∈l↔x∈m):l=m:=ql (lt:=fun x y=>bI (a7 x) (a7 y)) (fun _=>gI) (fun _ _ _ a b=>dv a b) h1 h2 h
theorem oH {l:List Rec} (h:lD a7 l) {i:Nat} {r:Rec} (hr:(bR l)[i]?=some r):r∉(bR l).take i:=fun hm=>by obtain⟨j,hj⟩:=List.getElem?_of_mem hm;rw[List.getElem?_take]at hj;split at hj;(·rename_i hlt;have:=KJ (vo h) hj hr hlt;rw[E1]at this;cases this);·cases hj
theorem gB {α:Type} {l:List α} {i:Nat} {r x:α} (h:l[i]?=some r):x∈l.take (i+1)↔x=r∨x∈l.take i:=by rw[bA h,List.mem_append,List.mem_singleton,or_comm]
theorem Lt {u:cn} (hu:VU u) {d e:Int} (hd:0≤d∧d<8)(he:0≤e∧e≤10000): ∃w,gA zf (dV (bR u.1)) d e=(w,(u.1.length:Int),0)∧w.1=u.1∧VU w:=by
 have hR: ∀r,r∈bR u.1→aD r=true:=fun r h=>(hu.sH r (cK.1 h)).1;rw[mK hR hd he];have hlen:=kg u.1;have h400:=hu.l1;obtain⟨w,⟨w1,w2,w3,w4⟩,hw⟩:=qp (d:=d) (e:=e) (u:=zf) (v:=zf) (l:=bR u.1) (fun i v=>v.2.1=[]∧VU v∧v.1.length=i∧ ∀r,r∈v.1↔r∈(bR u.1).take i) ⟨rfl,yT,rfl,fun r=>by simp⟩ (fun i v r hr⟨p1,p2,p3,p4⟩=>by have hrm:=List.mem_of_getElem? hr;have hi:i<(bR u.1).length:=(List.getElem?_eq_some_iff.1 hr).1;have hrr:=hR r hrm;(have hm:v.2.1.any (fun o=>bd o r)=false:=by rw[p1];rfl);(have ho:a7 r∉v.2.1.map dU:=by rw[p1];exact List.not_mem_nil);(have hn:a7 r∉v.1.map a7:=fun hh=>by obtain⟨q,hq,hqe⟩:=List.mem_map.1 hh;have hq':=(p4 q).1 hq;have hqm:q∈u.1:=cK.1 (List.mem_of_mem_take hq');have:q=r:=ki hu.sR hqm (cK.1 hrm) hqe;subst this;exact oH hu.sR hr hq');rw[kl hrr,qo p2.sR hm hn ho (by omega)];refine⟨rfl,p1,Dz p2 hrr hm hn ho (by omega),?_,fun x=>?_⟩;(·dsimp only;rw[dY (p8 _ _ _),p3]);·dsimp only;rw[bF,gB hr,p4])
 refine⟨w,?_,?_,w2⟩;(·rw[hw,w3,hlen];simp);·refine yU w2.sR hu.sR fun x=>?_;rw[w4,List.take_length,cK]
theorem Lu {u:cn} (hu:VU u) {d e:Int} (hd:0≤d∧d<8)(he:0≤e∧e≤10000):gA u (dV (bR u.1)) d e=(u,0,0):=by
 have hR: ∀r,r∈bR u.1→aD r=true:=fun r h=>(hu.sH r (cK.1 h)).1;rw[mK hR hd he];obtain⟨w,w1,hw⟩:=qp (d:=d) (e:=e) (u:=u) (v:=u) (l:=bR u.1) (fun _ v=>v=u) rfl (fun i v r hr hv=>by subst hv;have hrm:=List.mem_of_getElem? hr;rw[kl (hR r hrm),vr hu.sR (cK.1 hrm)];exact⟨rfl,rfl⟩)
 rw[hw,w1,Int.sub_self]
structure Left(u v:cn):Prop where
 vu:VU u
 vv:VU v
 mem: ∀r,r∈v.1↔r∈u.1∧ ∀o,o∈v.2.1→bf o r=false
 last: ∀i:Int,0≤i→i≤7→aw u.2.2 i≤aw v.2.2 i
 places: ∀r,r∈u.1→a7 r∉v.2.1.map dU
theorem Yr {u:cn} (hu:VU u):Left u u:=⟨hu,hu,fun r=>⟨fun h=>⟨h,(hu.sH r h).2.2.2⟩,fun h=>h.1⟩,fun _ _ _=>Int.le_refl _,fun r h=>(hu.sH r h).2.2.1⟩
theorem SA {u v:cn} {o:aS} {k:Nat} (h:Left u v)(hf:nV k v)(hk:k<400)(hr:aZ (o.1,1,o.2.2)=true):Left u (bQ v o).1∧nV (k+1) (bQ v o).1∧(bQ v o).2=0:=by
 obtain⟨⟨g1,g2⟩,g3⟩:=mB ⟨h.vv,hf⟩ hk hr;refine⟨?_,g2,g3⟩;obtain⟨d0,d7⟩:=eF hr;have hl:=hf.2.2 _ d0 d7;have hlen:=hf.2.1;rw[kX hr (by omega) (by omega)]at g1⊢;dsimp only at g1⊢
 refine⟨h.vu,g1,fun r=>?_,fun i h0 h7=>?_,fun r hr' hm=>?_⟩;(·dsimp only;rw[List.mem_filter,h.mem,Bool.not_eq_true'];constructor;(·rintro⟨⟨a,b⟩,c⟩;refine⟨a,fun o' ho'=>?_⟩;rcases bF.1 ho' with rfl|ho';(·exact c);·exact b o' ho');·rintro⟨a,b⟩;exact⟨⟨a,fun o' ho'=>b o' (bF.2 (.inr ho'))⟩,b _ (bF.2 (.inl rfl))⟩)
 (·exact Int.le_trans (h.last i h0 h7) (il _ h0 h7));·obtain⟨o',ho',he⟩:=List.mem_map.1 hm;rcases bF.1 ho' with rfl|ho';(·have h1:=(h.vu.sH r hr').2.1;have e1:o.1=r.1:=congrArg Prod.fst he;have e2:aw v.2.2 o.1+1=r.2.1:=congrArg Prod.snd he;have h2:=h.last r.1 (by omega) (by omega);rw[e1]at e2;omega);·exact h.places r hr' (List.mem_map.2 ⟨o',ho',he⟩)
theorem Ri {u v:cn} (h:Left u v) {d e:Int} (hd:0≤d∧d<8)(he:0≤e∧e≤10000):gA v (dV (bR u.1)) d e=(v,0,0):=by
 have hR: ∀r,r∈bR u.1→aD r=true:=fun r hr=>(h.vu.sH r (cK.1 hr)).1;rw[mK hR hd he];obtain⟨w,w1,hw⟩:=qp (d:=d) (e:=e) (u:=v) (v:=v) (l:=bR u.1) (fun _ x=>x=v) rfl (fun i x r hr hx=>by subst hx;have hrm:=List.mem_of_getElem? hr;rw[kl (hR r hrm)];cases hm:x.2.1.any (fun o=>bd o r);(·have:r∈x.1:=(h.mem r).2 ⟨cK.1 hrm,fun o ho=>by rw[←dc (h.vv.ord o ho).1 (hR r hrm)];exact Dy hm ho⟩;rw[vr h.vv.sR this];exact⟨rfl,rfl⟩);·rw[oG hm];exact⟨rfl,rfl⟩)
 rw[hw,w1,Int.sub_self]
theorem GD {L:L8} {d s:Int} (h0:0≤d)(h7:d≤7)(h:s≤aw L d):fq L d (max (aw L d) s)=L:=by
 (have e:max (aw L d) s=aw L d:=by omega);rw[e];obtain⟨a,b,c,d',e',f,g,i⟩:=L;(have h8:d=0∨d=1∨d=2∨d=3∨d=4∨d=5∨d=6∨d=7:=by omega);rcases h8 with rfl|rfl|rfl|rfl|rfl|rfl|rfl|rfl<;>rfl
theorem Rj {u v:cn} (h:Left u v) {d e:Int} (hd:0≤d∧d<8)(he:0≤e∧e≤10000): ∃n,gA ([],v.2.1,v.2.2) (dV (bR u.1)) d e=(v,n,0):=by
 have hR: ∀r,r∈bR u.1→aD r=true:=fun r hr=>(h.vu.sH r (cK.1 hr)).1;rw[mK hR hd he];have hlen:=kg u.1;have h400:=h.vu.l1;obtain⟨w,⟨w1,w2,w3,w4⟩,hw⟩:=qp (d:=d) (e:=e) (u:=([],v.2.1,v.2.2)) (v:=([],v.2.1,v.2.2)) (l:=bR u.1) (fun i x=>x.2=v.2∧lD a7 x.1∧x.1.length≤i∧ ∀r,r∈x.1↔r∈(bR u.1).take i∧ ∀o,o∈v.2.1→bf o r=false) ⟨rfl,List.Pairwise.nil,Nat.le_refl _,fun r=>by simp⟩ (fun i x r hr⟨p1,p2,p3,p4⟩=>by have hrm:=List.mem_of_getElem? hr;have hi:i<(bR u.1).length:=(List.getElem?_eq_some_iff.1 hr).1;have hrr:=hR r hrm;have hru:=cK.1 hrm;obtain⟨k1,k2,_⟩:=h.vu.sH r hru;obtain⟨d0,d7⟩:=fQ k1;rw[kl hrr];cases hm:x.2.1.any (fun o=>bd o r);(·(have hno: ∀o,o∈v.2.1→bf o r=false:=fun o ho=>by rw[←dc (h.vv.ord o ho).1 hrr];rw[p1]at hm;exact Dy hm ho);(have hn:a7 r∉x.1.map a7:=fun hh=>by obtain⟨q,hq,hqe⟩:=List.mem_map.1 hh;have hq':=((p4 q).1 hq).1;have:q=r:=ki h.vu.sR (cK.1 (List.mem_of_mem_take hq')) hru hqe;subst this;exact oH h.vu.sR hr hq');(have ho:a7 r∉x.2.1.map dU:=by rw[p1];exact h.places r hru);rw[qo p2 hm hn ho (by omega)];refine⟨rfl,?_,qa p2 hn,?_,fun y=>?_⟩;(·dsimp only;rw[p1,GD d0 d7 (Int.le_trans k2 (h.last _ d0 d7))]);(·dsimp only;rw[dY (p8 _ _ _)];omega);·dsimp only;rw[bF,gB hr,p4];constructor;(·rintro(rfl|⟨a,b⟩);(·exact⟨.inl rfl,hno⟩);·exact⟨.inr a,b⟩);·rintro⟨rfl|a,b⟩;(·exact .inl rfl);·exact .inr ⟨a,b⟩);·rw[oG hm];refine⟨rfl,p1,p2,Nat.le_succ_of_le p3,fun y=>?_⟩;rw[gB hr,p4];constructor;(·rintro⟨a,b⟩;exact⟨.inr a,b⟩);·rintro⟨rfl|a,b⟩;(·exfalso;obtain⟨o,ho,hh⟩:=List.any_eq_true.1 hm;rw[p1]at ho;rw[dc (h.vv.ord o ho).1 hrr,b o ho]at hh;cases hh);·exact⟨a,b⟩)
 rw[hw];(have e:w=v:=by(have e1:w.1=v.1:=yU w2 h.vv.sR fun x=>by rw[w4,List.take_length,cK,h.mem]);obtain⟨a,b⟩:=w;obtain⟨a',b'⟩:=v;dsimp only at w1 e1;rw[w1,e1])
 rw[e];exact⟨_,rfl⟩
theorem Ys {l:List bq} (h: ∀x,x∈l→(10:UInt8)∉x):(B4 l).countP (fun c=>c==10)=l.length:=by
 induction l with|nil=>rfl|cons a l ih=>(have e:B4 (a::l)=a++10::B4 l:=by simp[B4]);rw[e,List.countP_append,List.countP_cons,ih fun x hx=>h x (List.mem_cons_of_mem _ hx)];(have:a.countP (fun c=>c==10)=0:=List.countP_eq_zero.2 fun c hc=>by intro hh;(have:c=10:=by simpa using hh);exact h a (List.mem_cons_self ..) (this▸hc));rw[this];simp
end Go.Proofs.YtmgmonbmdkkhbaaGreatDoor
namespace Go.Proofs.YtmgmonbmdkkhbaaGreatDoor.Jn
set_option maxHeartbeats 1000000
abbrev Bs:=List UInt8
def rp(c:UInt8):Bool:=decide (32≤c.toNat∧c.toNat≤126)
def jK(s:Bs):Bool:=decide (s.length≤200)&&s.all rp
def GF(n:Nat):UInt8:=([48,49,50,51,52,53,54,55,56,57,97,98,99,100,101,102]:Bs).getD (n%16) 0
def DA(n:Nat):Bs:=[GF (n/4096),GF (n/256),GF (n/16),GF n]
def wa:Bs→Nat×Nat→Nat×Nat|[],p=>p|c::s,(a,b)=>wa s ((a+c.toNat)%65521,(b+(a+c.toNat)%65521)%65521)
def ly(s:Bs):Bs:=DA (wa s (1,0)).2++DA (wa s (1,0)).1
def b6(s:Bs):Bs:=ly s++ [32]++s++ [10]
def mL(c:UInt8):Bs→Nat→Option Nat|[],_=>none|x::r,i=>if x=c then some i else mL c r (i+1)
def fV(b:Bs):Option (Bs×Nat):=match mL 10 (b.take 210) 0 with|none=>none|some e=>if e<9∨b[8]?≠some 32 then none else if jK ((b.take e).drop 9)=true∧b.take 8=ly ((b.take e).drop 9)then some ((b.take e).drop 9,e+1)else none
theorem al0(n:Nat):(DA n).length=4:=rfl
theorem nC(s:Bs):(ly s).length=8:=rfl
theorem ea(s:Bs):(b6 s).length=s.length+10:=by unfold b6;simp only[List.length_append,nC,List.length_cons,List.length_nil];omega
theorem XW(n:Nat):GF n≠10:=by
 (have: ∀k:Fin 16,([48,49,50,51,52,53,54,55,56,57,97,98,99,100,101,102]:Bs).getD k.val 0≠10:=by decide);exact this ⟨n%16,Nat.mod_lt _ (by decide)⟩
theorem KN(s:Bs): ∀c,c∈ly s→c≠10:=by
 intro c hc;unfold ly DA at hc;simp only[List.cons_append,List.nil_append,List.mem_cons,List.not_mem_nil,or_false]at hc;rcases hc with rfl|rfl|rfl|rfl|rfl|rfl|rfl|rfl<;>exact XW _
theorem KO {s:Bs} (h:jK s=true): ∀c,c∈s→c≠10:=by
 intro c hc;unfold jK at h;rw[Bool.and_eq_true]at h;have:=List.all_eq_true.1 h.2 c hc;unfold rp at this;rw[decide_eq_true_eq]at this;rintro rfl;exact absurd this.1 (by decide)
theorem BJ {c:UInt8} : ∀ {s:Bs} {i:Nat},(∀x,x∈s→x≠c)→mL c s i=none|[],_,_=>rfl|x::r,i,h=>by unfold mL;rw[if_neg (h x List.mem_cons_self)];exact BJ fun y hy=>h y (List.mem_cons_of_mem _ hy)
theorem KP {c:UInt8} : ∀ {s t:Bs} {i:Nat},(∀x,x∈s→x≠c)→mL c (s++c::t) i=some (i+s.length)|[],_,i,_=>(by simp[mL])|x::r,t,i,h=>by rw[List.cons_append];unfold mL;rw[if_neg (h x List.mem_cons_self),KP fun y hy=>h y (List.mem_cons_of_mem _ hy),List.length_cons];congr 1;omega
theorem BK {s t:Bs} (h:jK s=true):fV (b6 s++t)=some (s,s.length+10):=by
 (have hl:s.length≤200:=by unfold jK at h;rw[Bool.and_eq_true,decide_eq_true_eq]at h;exact h.1);(have hbody: ∀x,x∈ly s++ [32]++s→x≠10:=fun x hx=>by rcases List.mem_append.1 hx with hx|hx;(·rcases List.mem_append.1 hx with hx|hx;(·exact KN s x hx);·rw[List.mem_singleton.1 hx];decide);·exact KO h x hx)
 (have hlen:(ly s++ [32]++s).length=s.length+9:=by simp only[List.length_append,nC,List.length_cons,List.length_nil];omega);(have e0:b6 s++t=(ly s++ [32]++s)++10::t:=by unfold b6;simp)
 (have htake:(b6 s++t).take 210=(ly s++ [32]++s)++10::t.take (210-(s.length+10)):=by rw[e0,List.take_append,hlen,List.take_of_length_le (by rw[hlen];omega)];obtain⟨k,hk⟩: ∃k,210-(s.length+9)=k+1:=⟨210-(s.length+10),by omega⟩;rw[hk,List.take_succ_cons,show 210-(s.length+10)=k by omega])
 unfold fV;rw[htake,KP hbody,Nat.zero_add,hlen];dsimp only;(have h8:(b6 s++t)[8]?=some 32:=by unfold b6 ly DA;rfl);(have ht8:(b6 s++t).take 8=ly s:=by unfold b6;rw[List.append_assoc,List.append_assoc,List.append_assoc,List.take_left' (nC s)])
 (have hd:((b6 s++t).take (s.length+9)).drop 9=s:=by rw[e0,List.take_left' hlen];(have:(ly s++ [32]).length=9:=by simp only[List.length_append,nC,List.length_cons,List.length_nil]);rw[List.drop_left' this])
 rw[if_neg (by rw[h8];rintro(h|h);(·omega);·exact h rfl),hd,if_pos ⟨h,ht8⟩]
theorem DB {s:Bs} (h:jK s=true) {k:Nat} (hk:k<s.length+10):fV ((b6 s).take k)=none:=by
 (have hbody: ∀x,x∈ly s++ [32]++s→x≠10:=fun x hx=>by rcases List.mem_append.1 hx with hx|hx;(·rcases List.mem_append.1 hx with hx|hx;(·exact KN s x hx);·rw[List.mem_singleton.1 hx];decide);·exact KO h x hx)
 (have hlen:(ly s++ [32]++s).length=s.length+9:=by simp only[List.length_append,nC,List.length_cons,List.length_nil];omega);unfold fV;rw[BJ];intro x hx;have hx:=List.mem_of_mem_take hx
 unfold b6 at hx;(have e0:k-(ly s++ [32]++s).length=0:=by rw[hlen];omega);rw[List.take_append,e0,List.take_zero,List.append_nil]at hx;exact hbody x (List.mem_of_mem_take hx)
def gj:Nat→Bs→List Bs×Nat|0,_=>([],0)|f+1,b=>match fV b with|none=>([],0)|some (l,n)=>(l::(gj f (b.drop n)).1,n+(gj f (b.drop n)).2)
def eT(ls:List Bs):Bs:=(ls.map b6).flatten
def ends(ls:List Bs)(k:Nat):Nat:=(eT (ls.take k)).length
theorem all_cons(l:Bs)(ls:List Bs):eT (l::ls)=b6 l++eT ls:=rfl
def cr:List Bs→Nat→Nat|[],_=>0|l::ls,n=>if l.length+10≤n then cr ls (n-(l.length+10))+1 else 0
theorem BL: ∀(ls:List Bs)(n:Nat),cr ls n≤ls.length|[],_=>Nat.le_refl _|l::ls,n=>by unfold cr;split;(·have:=BL ls (n-(l.length+10));rw[List.length_cons];omega);·omega
theorem nD(l:Bs)(ls:List Bs)(k:Nat):ends (l::ls) (k+1)=(l.length+10)+ends ls k:=by unfold ends;rw[List.take_succ_cons,all_cons,List.length_append,ea]
theorem vt: ∀(ls:List Bs)(n:Nat),ends ls (cr ls n)≤n∧ ∀k,k≤ls.length→ends ls k≤n→k≤cr ls n|[],n=>⟨Nat.zero_le _,fun k hk _=>hk⟩|l::ls,n=>by unfold cr;split;(·rename_i h;obtain⟨h1,h2⟩:=vt ls (n-(l.length+10));refine⟨by rw[nD];omega,fun k hk hn=>?_⟩;cases k with|zero=>exact Nat.zero_le _|succ k=>rw[nD]at hn;rw[List.length_cons]at hk;have:=h2 k (by omega) (by omega);omega);·rename_i h;refine⟨Nat.zero_le _,fun k hk hn=>?_⟩;cases k with|zero=>exact Nat.le_refl _|succ k=>rw[nD]at hn;omega
theorem rq: ∀(ls:List Bs)(n f:Nat),(∀l,l∈ls→jK l=true)→ls.length<f→gj f ((eT ls).take n)=(ls.take (cr ls n),ends ls (cr ls n))|[],n,f+1,_,_=>(by(have:fV ((eT []).take n)=none:=by unfold eT fV;simp[mL]);unfold gj;rw[this];rfl)|l::ls,n,f+1,h,hf=>by have hl:=h l List.mem_cons_self;rw[List.length_cons]at hf;unfold gj cr;rw[all_cons];by_cases hn:l.length+10≤n;(·(have e:(b6 l++eT ls).take n=b6 l++(eT ls).take (n-(l.length+10)):=by rw[List.take_append,ea,List.take_of_length_le (by rw[ea];omega)]);rw[e,BK hl,if_pos hn];dsimp only;rw[List.drop_left' (ea l),rq ls (n-(l.length+10)) f (fun x hx=>h x (List.mem_cons_of_mem _ hx)) (by omega),nD,List.take_succ_cons]);·(have e:(b6 l++eT ls).take n=(b6 l).take n:=by rw[List.take_append,ea,show n-(l.length+10)=0 by omega,List.take_zero,List.append_nil]);rw[e,DB hl (by omega),if_neg hn];rfl
end Go.Proofs.YtmgmonbmdkkhbaaGreatDoor.Jn
namespace Go.Proofs.YtmgmonbmdkkhbaaGreatDoor
open Go.RowKit Go.Lib Go.Shelf
set_option maxHeartbeats 1000000
set_option maxRecDepth 100000
def yV:Go.Shelf.Ren:=⟨fun|187=>72|255=>121|n=>n,fun|37=>32|3=>3|5=>5|n=>n,fun|n=>n⟩
theorem BM : Go.Proofs.Lays.n187 Tryz.prog yV := {
  mixed := by kernel_rfl
  f187 := Tryz.func72.trans (congrArg some (by kernel_rfl))
  f255 := Tryz.func121.trans (congrArg some (by kernel_rfl))
  t3 := Tryz.underlying3
  a3 := Tryz.isAgg3
  z3 := Tryz.sizeOf3
  v3 := Tryz.zeroValue3
  t5 := Tryz.underlying5
  a5 := Tryz.isAgg5
  z5 := Tryz.sizeOf5
  v5 := Tryz.zeroValue5
  t37 := Tryz.underlying32
  a37 := Tryz.isAgg32
  z37 := Tryz.sizeOf32
  v37 := Tryz.zeroValue32 }
def vw(bs:bq)(c:UInt8):Int:=match Jn.mL c bs 0 with|some i=>(i:Int)|none=> -1
theorem KR(c:UInt8): ∀(bs:bq)(i:Nat),Jn.mL c bs i=(if Lib.indexByte bs c= -1 then none else some (i+(Lib.indexByte bs c).toNat))|[],_=>(by simp[Jn.mL,Lib.indexByte])|x::r,i=>by unfold Jn.mL Lib.indexByte;have hge:=Lib.indexByte_ge r c;by_cases h:x=c;(·simp[h]);·(have hb:(x==c)=false:=by simp[h]);rw[if_neg h,KR c r (i+1),hb];simp only[Bool.false_eq_true,if_false,beq_iff_eq];by_cases h1:Lib.indexByte r c= -1;(·simp[h1]);·rw[if_neg h1,if_neg h1,if_neg (by omega)];congr 1;omega
theorem Rk(bs:bq)(c:UInt8):Lib.indexByte bs c=vw bs c:=by
 unfold vw;rw[KR];have hge:=Lib.indexByte_ge bs c;by_cases h:Lib.indexByte bs c= -1;(·rw[if_pos h];exact h);·rw[if_neg h];dsimp only;omega
theorem GG(bs:bq):Lib.bytesOf (im bs)=bs:=yJ bs
theorem Rl {P : Program} (w : World) (a : Option Addr) (c : Nat) (cv : Int) : (Extern.BytealgIndexByte.indexByte #[.slice a 0 c, .int .u8 cv]).run P w = .ok (.int .i64 (-1)) w := by
  cases a with
  | none => exact Lib.run_indexByteNil w 0 c cv
  | some ad =>
    have hl := Lib.run_loadBytesX (P := P) w [] ad .empty (fun j x hj => by simp at hj)
    have hs := Lib.run_indexByteString (P := P) .empty cv w
    have he : (⟨ByteArray.empty.data ++ (Lib.bytesOf []).toArray⟩ : ByteArray) = .empty := by
      apply ByteArray.ext
      rfl
    rw [he] at hl
    change Sem.run P (do
      let b ← Extern.Bytes.bytesOf (.slice (some ad) 0 c)
      let c ← Extern.Bytes.asByte (.int .u8 cv)
      match (List.range b.size).find? fun i => b[i]! == c with
      | some i => pure (goInt i)
      | none => pure (goInt (-1))) w = _
    change Sem.run P (do
      let b ← Extern.Bytes.bytesOf (.string .empty)
      let c ← Extern.Bytes.asByte (.int .u8 cv)
      match (List.range b.size).find? fun i => b[i]! == c with
      | some i => pure (goInt i)
      | none => pure (goInt (-1))) w = _ at hs
    change (Extern.Bytes.loadBytes ad 0 .empty).run P w = _ at hl
    simp only [Extern.Bytes.bytesOf, Sem.run_bind, Sem.run_pure, hl, Result.andThen] at hs ⊢
    exact hs
theorem yW {P:Program} {ρ:Ren} (L:Go.Proofs.Lays.n187 P ρ)(a:Option Addr)(c:Nat)(cv:Int)(w:World):Calls P (ρ.f 187) #[.slice a 0 c,.int .u8 cv] w fun e w'=>e= .returned (.int .i64 (-1))∧w'=w:=by
 have t3:=L.t3;have t5:=L.t5;have t37:=L.t37;have a3:=L.a3;have a5:=L.a5;have a37:=L.a37;have mixed:=L.mixed;have z3:=L.z3;have v3:=L.v3;have z5:=L.z5;have v5:=L.v5
 have z37:=L.z37;have v37:=L.v37;go_enter L.f187,Body.n187_ntmps ρ;go_wp2;rw[run_callFunc_extern L.f255 (by kernel_rfl) (by kernel_rfl) (by kernel_rfl) (e:=Extern.BytealgIndexByte.indexByte) (by kernel_rfl),Rl w a c cv]
 simp only[Result.andThen];rw[Oper.upon_value];go_wp2;go_ret;exact⟨rfl,rfl⟩
theorem sS(c:UInt8): ∀(bs:bq)(i j:Nat),Jn.mL c bs i=some j→i≤j∧j<i+bs.length|[],_,_,h=>(by cases h)|x::r,i,j,h=>by unfold Jn.mL at h;rw[List.length_cons];split at h;(·injection h with h;omega);·have:=sS c r (i+1) j h;omega
theorem BN(bs:bq)(c:UInt8):PC env 72 [⟨.sl (.int .u8),im bs⟩,⟨.int .u8,(c.toNat:Int)⟩] (.int .i64) (vw bs c):=by
 intro w S vs hS hT hrep;obtain⟨v,r,rfl,_,hv,v2,r2,rfl,_,hv2,hr⟩:=hrep;simp only[iI]at hr;subst hr;obtain⟨e2,_,_⟩:=hv2;injection e2 with e2;subst e2;obtain⟨a,cap,hv,hcap,hcap2,hx⟩:=hv
 injection hv with hv;subst hv;(have hlen:(im bs).length=bs.length:=by simp[im]);(have hidx: -1≤vw bs c∧vw bs c≤9223372036854775807:=by unfold vw;cases h:Jn.mL c bs 0 with|none=>exact⟨by decide,by decide⟩|some j=>have:=sS c bs 0 j h;have h9:=Nat.le_trans hcap hcap2;rw[hlen]at h9;dsimp only;omega)
 have hfin:Ly w S (.int .i64) (vw bs c) (.int .i64 (vw bs c)) w:=j8 (Below.refl _ _) (fun _=>Nat.le_refl _) hS ⟨rfl,aH (by omega) (by omega)⟩;(have hcv:((c.toNat:Int)).toNat.toUInt8=c:=by rw[Int.toNat_natCast];exact UInt8.ofNat_toNat)
 (have hcells: ∀g o,a=some ⟨g,o,none⟩→(∀i y,(im bs)[i]?=some y→ ∃cs,cs.length=(Ty.int .u8).cells∧dh w g (o+i*(Ty.int .u8).cells) cs∧aA (.int .u8) y w ⟨S,fun g=>w.heap.size≤g⟩ cs)→Calls Tryz.prog 72 #[.slice a (im bs).length cap,.int .u8 (c.toNat:Int)] w fun e w'=>e= .returned (.int .i64 (vw bs c))∧w'=w:=by rintro g o rfl hx;have:=Any.bytes_IndexByte BM g o (im bs).length cap (im bs) (c.toNat:Int) w rfl (fun i hi=>by obtain⟨cs,h1,h2,h3⟩:=hx i _ (List.getElem?_eq_getElem hi);obtain⟨rfl,_⟩:=h3;have:=h2 0 _ rfl;simpa[Ty.cells,List.getD_eq_getElem?_getD,List.getElem?_eq_getElem hi]using this);rw[GG,hcv,Rk]at this;exact this)
 (have hgo:Calls Tryz.prog 72 #[.slice a (im bs).length cap,.int .u8 (c.toNat:Int)] w fun e w'=>e= .returned (.int .i64 (vw bs c))∧w'=w:=by rcases hx with hx|⟨g,o,rfl,hg,hx⟩;(·(have hb:bs=[]:=by cases bs with|nil=>rfl|cons x r=>cases hx);subst hb;exact yW BM a cap (c.toNat:Int) w);·exact hcells g o rfl hx)
 refine hgo.mono ?_;rintro e w'⟨rfl,rfl⟩;exact⟨_,rfl,hfin⟩
end Go.Proofs.YtmgmonbmdkkhbaaGreatDoor
namespace Go.Proofs.YtmgmonbmdkkhbaaGreatDoor
attribute[local go_sem←]Bool.decide_and Bool.decide_or decide_not
attribute[local go_sem]Int.reduceEq not_true_eq_false not_false_eq_true false_implies
set_option maxHeartbeats 4000000
set_option maxRecDepth 100000
theorem XX {s:bq} {i:Nat} {x:UInt8} (h:s[i]?=some x):if x.toNat<128 then Utf8.decode ⟨s.toArray⟩ i=(x.toNat,1)else 128≤(Utf8.decode ⟨s.toArray⟩ i).1:=by
 (have hg:((⟨s.toArray⟩:ByteArray).get! (i+0)).toNat=x.toNat:=by obtain⟨hi,e⟩:=List.getElem?_eq_some_iff.1 h;show(s.toArray.getD i default).toNat=_;rw[Array.getD_eq_getD_getElem?];simp[h])
 unfold Utf8.decode;simp only[hg];split;(·rfl);·(repeat' split);all_goals first|(simp only[Utf8.runeError];omega)|(rename_i h';simp only[ge_iff_le,Bool.and_eq_true,decide_eq_true_eq]at h';omega)
theorem DC {s:bq} {i:Nat} {x:UInt8} (h:s[i]?=some x)(hx:Jn.rp x=false):false=Jn.jK s:=by unfold Jn.jK;rw[C6 h hx,Bool.and_false]
theorem SB(s:bq):PC env 32 [⟨.str,s⟩] .bool (Jn.jK s):=by
 refine PC.ao (m:=2000) ah Sh rfl rfl rfl rfl (by kernel_rfl) ?_;intro hx;simp only[Tryz.f32];simp only[go_sem,zA,↓reduceIte,↓reduceDIte,zB,zC,zD,zE,zF,zG,zH,zI]
 refine⟨fun h=>?_,fun h=>?_⟩;(·unfold Jn.jK;rw[decide_eq_false (by omega)];rfl);·refine av.cU (X:=Nat) (fun(i:Nat)=>[]) (fun(i:Nat)=>[(9,.sT s i)]) (fun(i:Nat)=>i≤s.length∧(s.take i).all Jn.rp=true) (fun(i:Nat)=>s.length-i) 0 ?_;intro b1 b2 hb1 hb2;simp(config:= {maxSteps:=4000000})only[go_sem,zA,↓reduceIte,↓reduceDIte,zB,zC,zD,zE,zF,zG,zH,zI]at hb1 hb2;subst hb1;subst hb2;refine⟨(by refine⟨?_,?_,rfl,rfl⟩<;>repeat' (first|exact trivial|exact Or.inl rfl|exact Or.inr rfl|apply cV|apply cW|apply cX|apply cY|exact⟨(by show(_:Nat)<1000000000;omega),rfl,rfl⟩|rfl|(refine And.intro (Or.inl ?_) ?_)|(refine And.intro ?_ ?_))),?_,?_⟩;(·exact⟨Nat.zero_le _,rfl⟩);intro i⟨hi,hb⟩back;refine ay ah ⟨_,Sh,rfl⟩ 2000 _ _ (by kernel_rfl) ?_;simp only[go_sem,zA,↓reduceIte,↓reduceDIte,zB,zC,zD,zE,zF,zG,zH,zI];refine⟨fun h=>?_,fun h=>?_⟩;(·obtain⟨x,hxi⟩: ∃x,s[i]?=some x:=ax (by omega);have hd:=XX hxi;split at hd;(·rw[hd];refine⟨fun h1=>⟨fun h2=>DC hxi (by simp[Jn.rp];omega),fun h2=>back _ (i+1) (by refine⟨?_,?_,rfl,rfl⟩<;>repeat' (first|exact trivial|exact Or.inl rfl|exact Or.inr rfl|apply cV|apply cW|apply cX|apply cY|exact⟨(by show(_:Nat)<1000000000;omega),rfl,rfl⟩|rfl|(refine And.intro (Or.inl ?_) ?_)|(refine And.intro ?_ ?_))) ⟨by omega,?_⟩ (by omega)⟩,fun h1=>DC hxi (by simp[Jn.rp];omega)⟩;rw[mq hxi,hb];simp[Jn.rp];omega);·exact⟨fun h1=>⟨fun h2=>DC hxi (by simp[Jn.rp];omega),fun h2=>by omega⟩,fun h1=>by omega⟩);·rw[List.take_of_length_le (by omega)]at hb;unfold Jn.jK;rw[hb,decide_eq_true (by omega)];rfl
theorem yX(m:Nat):(bytesOf ⟨#[48,49,50,51,52,53,54,55,56,57,97,98,99,100,101,102]⟩)[m &&& 15]?=some (Jn.GF m):=by
 have h:m &&& 15=m%16:=Nat.and_two_pow_sub_one_eq_mod m 4;rw[h];(have: ∀k:Fin 16,(bytesOf ⟨#[48,49,50,51,52,53,54,55,56,57,97,98,99,100,101,102]⟩)[k.val]?=some (([48,49,50,51,52,53,54,55,56,57,97,98,99,100,101,102]:bq).getD k.val 0):=by decide)
 exact this ⟨m%16,Nat.mod_lt _ (by decide)⟩
theorem Rm(u:UInt8):UInt8.ofNat ((u.toNat:Int)).toNat=u:=by rw[Int.toNat_natCast];exact UInt8.ofNat_toNat
theorem yY {n:Int} (h:0≤n)(k:Nat):(n/2^k).toNat=n.toNat/2^k:=by
 obtain⟨m,rfl⟩:=Int.eq_ofNat_of_zero_le h;rw[Int.toNat_natCast];(have:((m:Int)/2^k)=((m/2^k:Nat):Int):=by rw[Int.natCast_ediv];push_cast;rfl);rw[this,Int.toNat_natCast]
theorem SC(n:Int)(h:0≤n):PC env 69 [⟨.int .i64,n⟩] .str (Jn.DA n.toNat):=by
 refine PC.ao (m:=2000) ah ae7 rfl rfl rfl rfl (by kernel_rfl) ?_;intro hx;simp only[Tryz.f69];simp only[go_sem,zA,↓reduceIte,↓reduceDIte,zB,zC,zD,zE,zF,zG,zH,zI]
 rw[yY h,yY h,yY h];refine⟨h,Int.ediv_nonneg h (by decide),Int.natCast_nonneg _,_,⟨_,yX _,rfl⟩,h,Int.ediv_nonneg h (by decide),Int.natCast_nonneg _,_,⟨_,yX _,rfl⟩,h,Int.ediv_nonneg h (by decide),Int.natCast_nonneg _,_,⟨_,yX _,rfl⟩,h,Int.natCast_nonneg _,_,⟨_,yX _,rfl⟩,?_⟩
 simp only[List.map_cons,List.map_nil,Rm];rfl
theorem XY: ∀(s:bq)(p:Nat×Nat),p.1<65521→p.2<65521→(Jn.wa s p).1<65521∧(Jn.wa s p).2<65521|[],_,h1,h2=>⟨h1,h2⟩|c::s,(a,b),_,_=>by unfold Jn.wa;exact XY s _ (Nat.mod_lt _ (by decide)) (Nat.mod_lt _ (by decide))
theorem SD(s:bq):PC env 33 [⟨.str,s⟩] .str (Jn.ly s):=by
 refine PC.ao (m:=2000) ah Si rfl rfl rfl rfl (by kernel_rfl) ?_;intro hx;simp only[Tryz.f33];simp only[go_sem,zA,↓reduceIte,↓reduceDIte,zB,zC,zD,zE,zF,zG,zH,zI]
 refine av.cU (X:=Nat×(Nat×Nat)) (fun(z:Nat×(Nat×Nat))=>[(8,.iv (.int .i64) (z.1:Int)),(3,.iv (.int .i64) (z.2.1:Int)),(4,.iv (.int .i64) (z.2.2:Int))]) (fun(z:Nat×(Nat×Nat))=>[]) (fun(z:Nat×(Nat×Nat))=>z.1≤s.length∧Jn.wa (s.drop z.1) z.2=Jn.wa s (1,0)∧z.2.1<65521∧z.2.2<65521) (fun(z:Nat×(Nat×Nat))=>s.length-z.1) (0,(1,0)) ?_
 intro b1 b2 hb1 hb2;simp(config:= {maxSteps:=4000000})only[go_sem,zA,↓reduceIte,↓reduceDIte,zB,zC,zD,zE,zF,zG,zH,zI]at hb1 hb2;subst hb1;subst hb2;refine⟨(by refine⟨?_,?_,rfl,rfl⟩<;>repeat' (first|exact trivial|exact Or.inl rfl|exact Or.inr rfl|apply cV|apply cW|apply cX|apply cY|exact⟨(by show(_:Nat)<1000000000;omega),rfl,rfl⟩|rfl|(refine And.intro (Or.inl ?_) ?_)|(refine And.intro ?_ ?_))),?_,?_⟩
 (·exact⟨Nat.zero_le _,rfl,by decide,by decide⟩);intro⟨i,a,b⟩⟨hi,hb,h1,h2⟩back;dsimp only at hi hb h1 h2;refine ay ah ⟨_,Si,rfl⟩ 2000 _ _ (by kernel_rfl) ?_;simp only[go_sem,zA,↓reduceIte,↓reduceDIte,zB,zC,zD,zE,zF,zG,zH,zI]
 have hlen:s.length≤9223372036854775807:=hx.1;refine⟨fun h=>?_,fun h=>?_⟩;(·obtain⟨u,hu⟩: ∃x,s[i]?=some x:=ax (by omega);have hu9:=u.toNat_lt;(have e1:((a:Int)+(u.toNat:Int)).tmod 65521=(((a+u.toNat)%65521:Nat):Int):=by rw[Int.tmod_eq_emod_of_nonneg (by omega)];omega);(have e2:((b:Int)+(((a+u.toNat)%65521:Nat):Int)).tmod 65521=(((b+(a+u.toNat)%65521)%65521:Nat):Int):=by rw[Int.tmod_eq_emod_of_nonneg (by omega)];omega);have h9:(a+u.toNat)%65521<65521:=Nat.mod_lt _ (by decide);have h8:(b+(a+u.toNat)%65521)%65521<65521:=Nat.mod_lt _ (by decide);refine⟨Int.natCast_nonneg _,_,⟨u,hu,rfl⟩,?_⟩;rw[e1,e2];refine⟨⟨by omega,by omega⟩,⟨by omega,by omega⟩,⟨by omega,by omega⟩,back _ (i+1,((a+u.toNat)%65521,(b+(a+u.toNat)%65521)%65521)) (by refine⟨?_,?_,rfl,rfl⟩<;>repeat' (first|exact trivial|exact Or.inl rfl|exact Or.inr rfl|apply cV|apply cW|apply cX|apply cY|exact⟨(by show(_:Nat)<1000000000;omega),rfl,rfl⟩|rfl|(refine And.intro (Or.inl ?_) ?_)|(refine And.intro ?_ ?_))) ⟨by dsimp only;omega,?_,h9,h8⟩ (by dsimp only;omega)⟩;rw[drop_cons hu,Jn.wa]at hb;exact hb)
 ·rw[List.drop_of_length_le (by omega)]at hb;have hb':(a,b)=Jn.wa s (1,0):=hb;have k1:=SC (b:Int) (by omega);have k2:=SC (a:Int) (by omega);rw[Int.toNat_natCast]at k1 k2;refine⟨_,k1,fun _=>⟨_,k2,fun _=>⟨by simp[Jn.DA],?_⟩⟩⟩;unfold Jn.ly;rw[←hb']
def DD(bs:bq):bq×Int×Bool:=match Jn.fV bs with|some (l,n)=>(l,(n:Int),true)|none=>([],0,false)
theorem qq(bs:bq)(k:Nat):(im bs).take k=im (bs.take k):=by simp[im,List.map_take]
theorem BO(bs:bq)(k:Nat):(im bs).drop k=im (bs.drop k):=by simp[im,List.map_drop]
theorem lg(bs:bq):(im bs).length=bs.length:=by simp[im]
theorem XZ {bs:bq} {i:Nat} {x:UInt8} (h:bs[i]?=some x):(im bs)[i]?=some (x.toNat:Int):=by simp[im,h]
theorem E4(bs:bq):List.map (fun n:Int=>UInt8.ofNat n.toNat) (im bs)=bs:=yJ bs
theorem Rn(bs:bq):PC env 36 [⟨.sl (.int .u8),im bs⟩] (.aP .str (.aP (.int .i64) .bool)) (DD bs):=by
 refine PC.ao (m:=2000) ah ac6 rfl rfl rfl rfl (by kernel_rfl) ?_;intro hx;simp only[Tryz.f36];simp only[go_sem,zA,↓reduceIte,↓reduceDIte,zB,zC,zD,zE,zF,zG,zH,zI]
 rw[lg];(have e0:List.take (min (bs.length:Int) 210).toNat (im bs)=im (bs.take 210):=by rw[qq];congr 1;by_cases h:bs.length≤210;(·rw[List.take_of_length_le (i:=210) h,List.take_of_length_le (by omega)]);·congr 1;omega)
 rw[e0];have k1:=BN (bs.take 210) 10;refine⟨⟨by omega,by omega⟩,_,k1,fun hr=>?_⟩;unfold DD Jn.fV vw;(have hlt:(bs.take 210).length≤bs.length∧(bs.take 210).length≤210:=by rw[List.length_take];omega)
 cases hI:Jn.mL 10 (bs.take 210) 0 with|none=>dsimp only;refine⟨fun h=>absurd (show(-1:Int)<9 by decide) h,fun _=>rfl⟩|some e=>have he:=sS 10 _ 0 e hI;dsimp only;refine⟨fun h9=>?_,fun h9=>?_⟩;(·(have h9': ¬e<9:=by omega);obtain⟨x,hx8⟩: ∃x,bs[8]?=some x:=ax (by omega);(have e2:List.map (fun n:Int=>UInt8.ofNat n.toNat) (List.take (Int.toNat (e:Int)-9) (List.drop 9 (im bs)))=(bs.take e).drop 9:=by rw[BO,qq,E4,Int.toNat_natCast,List.drop_take]);refine⟨_,XZ hx8,fun hx=>?_,fun hx=>?_⟩;(·rw[if_pos (.inr fun h=>hx (by rw[hx8]at h;injection h with h;subst h;rfl))];rfl);·(have hx':x=32:=by apply UInt8.toNat_inj.1;have:(x.toNat:Int)=32:=hx;show x.toNat=32;omega);subst hx';rw[if_neg (by rw[hx8];rintro(h|h);(·exact h9' h);·exact h rfl),e2];refine⟨⟨by omega,by omega⟩,?_⟩;have k2:=SB ((bs.take e).drop 9);have k3:=SD ((bs.take e).drop 9);cases hf:Jn.jK ((bs.take e).drop 9);(·rw[hf]at k2;refine⟨_,k2,?_⟩;simp only[go_sem,zA,↓reduceIte,↓reduceDIte,zB,zC,zD,zE,zF,zG,zH,zI];rfl);·rw[hf]at k2;refine⟨_,k2,?_⟩;simp only[go_sem,zA,↓reduceIte,↓reduceDIte,zB,zC,zD,zE,zF,zG,zH,zI];refine⟨by rw[lg];omega,_,k3,fun _=>?_⟩;rw[qq,E4];refine⟨fun h=>?_,fun h=>⟨⟨by omega,by omega⟩,?_⟩⟩;(·rw[if_neg h];rfl);·rw[if_pos h];push_cast;rfl);·rw[if_pos (.inl (by omega))];rfl
def Ro(bs l:bq):List Int×Int:=if Jn.jK l=true then(im (bs++Jn.b6 l),0)else([],3)
theorem SE(bs l:bq)(hb:bs.length≤1000000):PC env 8 [⟨.sl (.int .u8),im bs⟩,⟨.str,l⟩] (.aP (.sl (.int .u8)) (.int .i64)) (Ro bs l):=by
 refine PC.ao (m:=2000) ah ap8 rfl rfl rfl rfl (by kernel_rfl) ?_;intro hx;simp only[Tryz.f8];simp only[go_sem,zA,↓reduceIte,↓reduceDIte,zB,zC,zD,zE,zF,zG,zH,zI]
 have k2:=SB l;have k3:=SD l;unfold Ro;cases hf:Jn.jK l;(·rw[hf]at k2;refine⟨_,k2,?_⟩;simp only[go_sem,zA,↓reduceIte,↓reduceDIte,zB,zC,zD,zE,zF,zG,zH,zI];rfl);·rw[hf]at k2;refine⟨_,k2,?_⟩;simp only[go_sem,zA,↓reduceIte,↓reduceDIte,zB,zC,zD,zE,zF,zG,zH,zI];(have hl2:l.length≤200:=by unfold Jn.jK at hf;rw[Bool.and_eq_true,decide_eq_true_eq]at hf;exact hf.1);have e1:(bytesOf ⟨#[32]⟩)=([32]:bq):=rfl;have e2:(bytesOf ⟨#[10]⟩)=([10]:bq):=rfl;rw[e1,e2];have hs8:=Jn.nC l;refine⟨Int.natCast_nonneg _,_,k3,fun _=>?_⟩;(have hlen:(Jn.ly l++ [32]++l++ [10]).length=l.length+10:=by simp only[List.length_append,hs8,List.length_cons,List.length_nil];omega);refine⟨by simp only[List.length_cons,List.length_nil];omega,by simp only[List.length_append,List.length_cons,List.length_nil];omega,by simp only[List.length_append,List.length_cons,List.length_nil];omega,fun h=>?_,fun _=>⟨?_,?_⟩⟩;(·rw[List.map_eq_nil_iff]at h;rw[h]at hlen;simp at hlen);(·rw[List.take_length,lg,List.length_map,hlen];omega);·rw[List.take_length];simp[im,Jn.b6]
theorem xm {b l:bq} {n:Nat} (h:Jn.fV b=some (l,n)):10≤n∧n≤b.length∧l.length≤n:=by
 unfold Jn.fV at h;cases hI:Jn.mL 10 (b.take 210) 0 with|none=>rw[hI]at h;cases h|some e=>rw[hI]at h;have he:=sS 10 _ 0 e hI;rw[List.length_take]at he;dsimp only at h;split at h;(·cases h);·rename_i h1;split at h;(·injection h with h;injection h with h2 h3;subst h3;refine⟨by omega,by omega,?_⟩;rw[←h2,List.length_drop,List.length_take];omega);·cases h
theorem KS(bs:bq)(hb:bs.length≤1000000):PC env 10 [⟨.sl (.int .u8),im bs⟩] (.aP (.sl .str) (.int .i64)) ((Jn.gj (bs.length+1) bs).1,((Jn.gj (bs.length+1) bs).2:Nat)):=by
 refine PC.ao (m:=2000) ah R8 rfl rfl rfl rfl (by kernel_rfl) ?_;intro hx;simp only[Tryz.f10];simp only[go_sem,zA,↓reduceIte,↓reduceDIte,zB,zC,zD,zE,zF,zG,zH,zI]
 refine av.cU (X:=Nat×List bq) (fun(z:Nat×List bq)=>[(5,.iv (.int .i64) (z.1:Int)),(4,.aI 24)]) (fun(z:Nat×List bq)=>[(24,.arr .str z.2)]) (fun(z:Nat×List bq)=>z.1≤bs.length∧z.2.length≤z.1∧ ∃f,(bs.drop z.1).length<f∧Jn.gj (bs.length+1) bs=(z.2++(Jn.gj f (bs.drop z.1)).1,z.1+(Jn.gj f (bs.drop z.1)).2)) (fun(z:Nat×List bq)=>bs.length-z.1) (0,[]) ?_
 intro b1 b2 hb1 hb2;simp(config:= {maxSteps:=4000000})only[go_sem,zA,↓reduceIte,↓reduceDIte,zB,zC,zD,zE,zF,zG,zH,zI]at hb1 hb2;subst hb1;subst hb2;refine⟨(by refine⟨?_,?_,rfl,rfl⟩<;>repeat' (first|exact trivial|exact Or.inl rfl|exact Or.inr rfl|apply cV|apply cW|apply cX|apply cY|exact⟨(by show(_:Nat)<1000000000;omega),rfl,rfl⟩|rfl|(refine And.intro (Or.inl ?_) ?_)|(refine And.intro ?_ ?_))),?_,?_⟩
 (·exact⟨Nat.zero_le _,Nat.le_refl _,bs.length+1,by simp,by simp⟩);intro⟨i,l⟩⟨hi,hl,f,hf,hr⟩back;dsimp only at hi hl hf hr;refine ay ah ⟨_,R8,rfl⟩ 2000 _ _ (by kernel_rfl) ?_
 simp only[go_sem,zA,↓reduceIte,↓reduceDIte,zB,zC,zD,zE,zF,zG,zH,zI];rw[BO,lg];obtain⟨m,rfl⟩: ∃m,f=m+1:=⟨f-1,by omega⟩;have hm: ∀b,Jn.gj (m+1) b=match Jn.fV b with|none=>([],0)|some (l,n)=>(l::(Jn.gj m (b.drop n)).1,n+(Jn.gj m (b.drop n)).2):=fun _=>rfl
 rw[hm]at hr;have k:=Rn (bs.drop i);unfold DD at k;refine⟨⟨by omega,by omega⟩,?_⟩;cases hF:Jn.fV (bs.drop i)with|none=>rw[hF]at k hr;refine⟨_,k,fun _=>?_⟩;simp only[go_sem,zA,↓reduceIte,↓reduceDIte,zB,zC,zD,zE,zF,zG,zH,zI];rw[hr];simp|some p=>obtain⟨x,n⟩:=p;rw[hF]at k hr;dsimp only at k hr;obtain⟨r1,r2,r3⟩:=xm hF;rw[List.length_drop]at r2 hf;refine⟨_,k,fun _=>?_⟩;simp only[go_sem,zA,↓reduceIte,↓reduceDIte,zB,zC,zD,zE,zF,zG,zH,zI];refine⟨by omega,⟨by omega,by omega⟩,back _ (i+n,l++ [x]) (by refine⟨?_,?_,rfl,rfl⟩<;>repeat' (first|exact trivial|exact Or.inl rfl|exact Or.inr rfl|apply cV|apply cW|apply cX|apply cY|exact⟨(by show(_:Nat)<1000000000;omega),rfl,rfl⟩|rfl|(refine And.intro (Or.inl ?_) ?_)|(refine And.intro ?_ ?_))) ⟨by dsimp only;omega,by simp only[List.length_append,List.length_cons,List.length_nil];omega,m,by rw[List.length_drop];dsimp only;omega,?_⟩ (by dsimp only;omega)⟩;rw[hr];dsimp only;rw[List.drop_drop];simp[Nat.add_assoc]
end Go.Proofs.YtmgmonbmdkkhbaaGreatDoor
namespace Go.Proofs.YtmgmonbmdkkhbaaGreatDoor
open Go.Lib
set_option maxHeartbeats 1000000
set_option maxRecDepth 100000
theorem wb {u:cn} (hu:VU u)(k:Nat) {d e:Int} (hd:0≤d∧d<8)(he:0≤e∧e≤10000): ∃w,gA zf (dV ((bR u.1).take k)) d e=(w,(((bR u.1).take k).length:Int),0)∧VU w∧bR w.1=(bR u.1).take k:=by
 have hR: ∀r,r∈(bR u.1).take k→aD r=true:=fun r h=>(hu.sH r (cK.1 (List.mem_of_mem_take h))).1;rw[mK hR hd he];have hlen:=kg u.1;have h400:=hu.l1;(have hle:((bR u.1).take k).length≤(bR u.1).length:=by rw[List.length_take];omega)
 (have hnd: ∀ {i:Nat} {r:Rec},((bR u.1).take k)[i]?=some r→r∉((bR u.1).take k).take i:=fun {i r} hr hm=>by rw[List.take_take]at hm;rw[List.getElem?_take]at hr;split at hr;(·rename_i hlt;rw[Nat.min_eq_left (by omega)]at hm;exact oH hu.sR hr hm);·cases hr)
 obtain⟨w,⟨w1,w2,w3,w4⟩,hw⟩:=qp (d:=d) (e:=e) (u:=zf) (v:=zf) (l:=(bR u.1).take k) (fun i v=>v.2.1=[]∧VU v∧v.1.length=i∧ ∀r,r∈v.1↔r∈((bR u.1).take k).take i) ⟨rfl,yT,rfl,fun r=>by simp⟩ (fun i v r hr⟨p1,p2,p3,p4⟩=>by have hrm:=List.mem_of_getElem? hr;have hi:i<((bR u.1).take k).length:=(List.getElem?_eq_some_iff.1 hr).1;have hrr:=hR r hrm;(have hm:v.2.1.any (fun o=>bd o r)=false:=by rw[p1];rfl);(have ho:a7 r∉v.2.1.map dU:=by rw[p1];exact List.not_mem_nil);(have hn:a7 r∉v.1.map a7:=fun hh=>by obtain⟨q,hq,hqe⟩:=List.mem_map.1 hh;have hq':=(p4 q).1 hq;have hqm:q∈u.1:=cK.1 (List.mem_of_mem_take (List.mem_of_mem_take hq'));have:q=r:=ki hu.sR hqm (cK.1 (List.mem_of_mem_take hrm)) hqe;subst this;exact hnd hr hq');rw[kl hrr,qo p2.sR hm hn ho (by omega)];refine⟨rfl,p1,Dz p2 hrr hm hn ho (by omega),?_,fun x=>?_⟩;(·dsimp only;rw[dY (p8 _ _ _),p3]);·dsimp only;rw[bF,gB hr,p4])
 refine⟨w,?_,w2,?_⟩;(·rw[hw,w3];simp);·refine(KL w2.sR (List.Pairwise.sublist (List.take_sublist _ _) (vo hu.sR)) fun x=>?_).symm;rw[w4,List.take_of_length_le (Nat.le_refl _)]
theorem xn(c:UInt8) {p:UInt8→Bool} (hc:p c=true): ∀(l:List bq),(∀x,x∈l→x.all p=true)→(fR c l).all p=true|[],_=>(by simp[fR])|[x],h=>(by simpa[fR]using h x (by simp))|x::y::l,h=>by rw[oB c x (by simp)];have ih:=xn c hc (y::l) (fun z hz=>h z (List.mem_cons_of_mem _ hz));rw[List.all_append,List.all_cons,h x (by simp),hc,ih];rfl
theorem E5 {p q:UInt8→Bool} (h: ∀u,p u=true→q u=true) {s:bq} (hs:s.all p=true):s.all q=true:=List.all_eq_true.2 fun x hx=>h x (List.all_eq_true.1 hs x hx)
theorem Rp(u:UInt8)(h:sL u=true):Jn.rp u=true:=by unfold sL at h;rw[decide_eq_true_eq]at h;unfold Jn.rp;rw[decide_eq_true_eq];omega
theorem Rq(u:UInt8)(h:ze u=true):Jn.rp u=true:=by
 unfold ze uL at h;rw[decide_eq_true_eq]at h;unfold Jn.rp;rw[decide_eq_true_eq];by_cases h1:(97:Int)≤u.toNat∧(u.toNat:Int)≤122;(·omega);·rw[if_neg h1]at h;by_cases h2:(65:Int)≤u.toNat∧(u.toNat:Int)≤90;(·omega);·rw[if_neg h2]at h;by_cases h3:(48:Int)≤u.toNat∧(u.toNat:Int)≤57;(·omega);·rw[if_neg h3]at h;exact absurd rfl h
theorem BP {r:Rec} (h:aD r=true):Jn.jK (c9 r)=true:=by
 obtain⟨h1,h2,h3,h4,h5,h6⟩:=dS h;(have hn: ∀n:Int,0≤n→(itoa n).all Jn.rp=true:=fun n h0=>by rw[eG h0];exact E5 Rp (sM _));unfold Jn.jK;rw[decide_eq_true (by have:=je h;omega)]
 refine xn 32 (by decide) _ (fun x hx=>?_);simp only[List.mem_cons,List.not_mem_nil,or_false]at hx;rcases hx with rfl|rfl|rfl|rfl|rfl|rfl;(·exact hn _ (by omega))
 (·exact hn _ (by omega));(·exact hn _ (by omega));(·exact E5 Rq (mI h4));(·exact hn _ (by omega));·exact hn _ (by omega)
def bc(l:List Rec):List bq:=l.map c9
theorem KT {l:List Rec} (h: ∀r,r∈l→aD r=true): ∀x,x∈bc l→Jn.jK x=true:=by intro x hx;obtain⟨r,hr,rfl⟩:=List.mem_map.1 hx;exact BP (h r hr)
theorem KU(ls:List bq)(k:Nat) {x:bq} (h:ls[k]?=some x):Jn.eT (ls.take (k+1))=Jn.eT (ls.take k)++Jn.b6 x:=by unfold Jn.eT;rw[bA h,List.map_append,List.flatten_append];simp
theorem GH(ls:List bq) {j k:Nat} (h:j≤k):Jn.ends ls j≤Jn.ends ls k:=by
 unfold Jn.ends;(have e:ls.take k=ls.take j++(ls.take k).drop j:=by have:=(List.take_append_drop j (ls.take k)).symm;rw[List.take_take,Nat.min_eq_left h]at this;exact this)
 rw[e];unfold Jn.eT;rw[List.map_append,List.flatten_append,List.length_append];omega
theorem Rr(ls:List bq)(h: ∀x,x∈ls→x.length≤60):(Jn.eT ls).length≤70*ls.length:=by
 unfold Jn.eT;induction ls with|nil=>simp|cons x r ih=>have h1:=h x List.mem_cons_self;have h2:=ih fun y hy=>h y (List.mem_cons_of_mem _ hy);rw[List.map_cons,List.flatten_cons,List.length_append,Jn.ea,List.length_cons];omega
end Go.Proofs.YtmgmonbmdkkhbaaGreatDoor
