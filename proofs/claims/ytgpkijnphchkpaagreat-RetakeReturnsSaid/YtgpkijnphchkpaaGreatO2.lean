/- Package output: what Cost answers, plainly. Nothing here is trusted; no condition. -/
import Derived.Test.YtgpkijnphchkpaaGreatO1
set_option linter.unusedSimpArgs false
set_option linter.unusedVariables false
open Nat renaming reduceBEq→zA,reduceAdd→zB,reduceSub→zC,reduceMul→zD,reduceLeDiff→zE
open Int renaming reduceLT→zF,reduceLE→zG,reduceToNat→zH,reduceNeg→zI
namespace Go.Proofs.YtgpkijnphchkpaaGreat
attribute[local go_sem←]Bool.decide_and Bool.decide_or decide_not
attribute[local go_sem]fg bz ne_eq not_false_eq_true
set_option maxHeartbeats 4000000
set_option maxRecDepth 100000
theorem NR(s:cB)(hs:ij s)(Kf: ∀m,¬NQ s.2.2 cq m m):HC env 142 [.iv al s] [] .bF []:=by
 have hR:=z9 s hs;have hL:=LD s hs;have hr:=vD hs;have hl:=z8 hs;have hF:=Hv s hs;obtain⟨n,a,rs⟩:=s;have Uu:=hs.n8;have hn1:=hs.n1;dsimp only at Uu hn1 Kf;refine HC.ay (m:=2000) ae SA rfl rfl rfl rfl (by kernel_rfl) ?_
 intro hx jW;simp only[Tryz.f142];simp only[go_sem,zA,↓reduceIte,↓reduceDIte,zB,zC,zD,zE,zF,zG,zH,zI];refine⟨_,hR,fun _=>⟨_,hL,fun _=>⟨⟨hr.1,hl.1⟩,?_⟩⟩⟩;(have hX0:(0:Int)≤(((iI (n,a,rs)).toNat &&& (ka (n,a,rs)).toNat:Nat):Int)∧(((iI (n,a,rs)).toNat &&& (ka (n,a,rs)).toNat:Nat):Int)≤255:=by have:(iI (n,a,rs)).toNat &&& (ka (n,a,rs)).toNat≤(iI (n,a,rs)).toNat:=Nat.and_le_left;omega)
 generalize hX:(((iI (n,a,rs)).toNat &&& (ka (n,a,rs)).toNat:Nat):Int)=X at*;refine ah.bE (X:=Nat) (fun(z:Nat)=>[(14,.iv (.int .i64) (z:Int)),(4,.bF),(5,.any),(6,.any)]) (fun(z:Nat)=>[]) (fun(z:Nat)=>z≤n.toNat) (fun(z:Nat)=>n.toNat-z) 0 ?_
 intro b1 b2 ba bq;simp(config:= {maxSteps:=4000000})only[go_sem,zA,↓reduceIte,↓reduceDIte,zB,zC,zD,zE,zF,zG,zH,zI]at ba bq;subst ba;subst bq;refine⟨(by refine⟨?_,?_,rfl,rfl⟩<;>repeat' (first|exact trivial|exact Or.inl rfl|exact Or.inr rfl|apply br|apply bt|apply bu|apply bA|exact⟨(by show(_:Nat)<1000000000;omega),rfl,rfl⟩|rfl|(refine And.intro (Or.inl ?_) ?_)|(refine And.intro ?_ ?_))),?_,?_⟩
 (·exact Nat.zero_le _);intro z hz back;refine av ae ⟨_,SA,rfl⟩ 2000 _ _ (by kernel_rfl) ?_;simp only[go_sem,zA,↓reduceIte,↓reduceDIte,zB,zC,zD,zE,zF,zG,zH,zI];refine⟨fun g1=>?_,fun g1=>?_⟩
 (·have hz8:0≤(z:Int)∧(z:Int)<8:=⟨Int.natCast_nonneg _,by omega⟩;refine⟨_,wv X (z:Int) hX0 hz8,?_⟩;cases hb:hasB X (z:Int);(·simp only[go_sem,zA,↓reduceIte,↓reduceDIte,zB,zC,zD,zE,zF,zG,zH,zI];exact⟨aw (by omega) (by omega),back _ (z+1) (by refine⟨?_,?_,rfl,rfl⟩<;>repeat' (first|exact trivial|exact Or.inl rfl|exact Or.inr rfl|apply br|apply bt|apply bu|apply bA|exact⟨(by show(_:Nat)<1000000000;omega),rfl,rfl⟩|rfl|(refine And.intro (Or.inl ?_) ?_)|(refine And.intro ?_ ?_))) (by omega) (by omega)⟩);·simp only[go_sem,zA,↓reduceIte,↓reduceDIte,zB,zC,zD,zE,zF,zG,zH,zI];refine⟨_,wu (z:Int) hz8,fun _=>?_⟩;refine⟨_,_,_,_,Hv (n,a,rs) hs (z:Int) (qA (z:Int)) hz8 (nN hz8),fun r hr=>?_⟩;(have hr0:r=[]:=by by_cases e:r=[];(·exact e);·obtain⟨to,h1,h2,h3,h4⟩:=hr e;rw[xr _ _ hz8.1 h1]at h3;rw[←of_decide_eq_true h3]at h4;exact absurd h4 (Kf _));subst hr0;refine⟨rfl,fun _ _=>?_⟩;simp only[TR];simp only[go_sem,zA,↓reduceIte,↓reduceDIte,zB,zC,zD,zE,zF,zG,zH,zI];exact⟨aw (by omega) (by omega),back _ (z+1) (by refine⟨?_,?_,rfl,rfl⟩<;>repeat' (first|exact trivial|exact Or.inl rfl|exact Or.inr rfl|apply br|apply bt|apply bu|apply bA|exact⟨(by show(_:Nat)<1000000000;omega),rfl,rfl⟩|rfl|(refine And.intro (Or.inl ?_) ?_)|(refine And.intro ?_ ?_))) (by omega) (by omega)⟩)
 ·trivial
def pK(s:cB):Int:=if(eP s).2≠0 then 20 else if hasB (ka s) 0=false then 50 else if((iI s).toNat &&& (2^8-1-(ka s).toNat):Nat)≠0 then 40 else 0
theorem al9(s:cB)(Kf: ∀m,¬NQ s.2.2 cq m m):PC env 110 [⟨al,s⟩] (.int .i64) (pK s):=by
 obtain⟨n,a,rs⟩:=s;refine PC.ay (m:=2000) ae aR2 rfl rfl rfl rfl (by kernel_rfl) ?_;intro hx;simp only[Tryz.f110];simp only[go_sem,zA,↓reduceIte,↓reduceDIte,zB,zC,zD,zE,zF,zG,zH,zI]
 refine⟨_,(K6 _).dec,?_⟩;by_cases hc:(eP (n,a,rs)).2=0;(·have hs:=SV hc;have hr:=vD hs;have hl:=z8 hs;have hR:=z9 _ hs;have hL:=LD _ hs;have hE:=NR _ hs Kf;(have hT:pK (n,a,rs)=if hasB (ka (n,a,rs)) 0=false then 50 else if((iI (n,a,rs)).toNat &&& (2^8-1-(ka (n,a,rs)).toNat):Nat)≠0 then 40 else 0:=by unfold pK;rw[hc];simp);rw[hT];clear hT;simp only[hc,decide_true,Bool.not_true];simp only[go_sem,zA,↓reduceIte,↓reduceDIte,zB,zC,zD,zE,zF,zG,zH,zI];refine⟨_,hL,fun _=>⟨_,wv _ 0 hl ⟨by decide,by decide⟩,?_⟩⟩;generalize iI (n,a,rs)=R at*;generalize ka (n,a,rs)=Lv at*;cases hb:hasB Lv 0;(·simp only[go_sem,zA,↓reduceIte,↓reduceDIte,zB,zC,zD,zE,zF,zG,zH,zI]);·simp only[go_sem,zA,↓reduceIte,↓reduceDIte,zB,zC,zD,zE,zF,zG,zH,zI];refine⟨_,hR,fun _=>⟨_,hL,fun _=>⟨hl.1,fun g=>?_,fun g=>?_⟩⟩⟩;(·have g: ¬(R.toNat &&& 2^8-1-Lv.toNat:Nat)=0:=fun e=>g (by rw[e];rfl);rw[if_neg (by decide),if_pos g]);·(have g:(R.toNat &&& 2^8-1-Lv.toNat:Nat)=0:=by omega);refine⟨_,_,hE,rfl,?_⟩;simp only[g];intro _ _;simp only[go_sem,zA,↓reduceIte,↓reduceDIte,zB,zC,zD,zE,zF,zG,zH,zI];rfl)
 ·(have hT:pK (n,a,rs)=20:=by unfold pK;rw[if_pos hc]);rw[hT];simp only[hc,decide_false,Bool.not_false];simp only[go_sem,zA,↓reduceIte,↓reduceDIte,zB,zC,zD,zE,zF,zG,zH,zI];exact⟨fun _=>trivial,fun h=>by cases h⟩
end Go.Proofs.YtgpkijnphchkpaaGreat
namespace Go.Proofs.YtgpkijnphchkpaaGreat
set_option maxHeartbeats 1000000
theorem pL {f:Int→Rl→Int} {I:Int→Prop} : ∀ {rs:List Rl} {l:Int},(∀r,r∈rs→ ∀l,I l→I (f l r))→I l→I (rs.foldl f l)|[],_,_,h=>h|r::rs,l,hf,h=>pL (rs:=rs) (fun x hx=>hf x (List.mem_cons_of_mem _ hx)) (hf r (List.mem_cons_self ..) l h)
theorem Aa {f:Int→Rl→Int} {I:Int→Prop} {rs:List Rl} (hf: ∀r,r∈rs→ ∀l,I l→I (f l r)): ∀ {n:Nat} {l:Int},I l→I (lz f rs n l)|0,_,h=>h|n+1,_,h=>Aa hf (n:=n) (pL hf h)
theorem qp {n k:Int} (hk:0≤k) {r:Rl} (hr:okM n r) {l:Int} (h:hasB l k=true):hasB (n7 l r) k=true:=by unfold n7;split;(·rw[nO _ _ _ hr.1 hk,h];rfl);·exact h
theorem am0 {n:Int} {rs:List Rl} (KA: ∀r,r∈rs→okM n r) {r:Rl} (hr:r∈rs) {l:Int} (h:hasB l r.2.1=true):hasB (rs.foldl n7 l) r.1=true:=by
 obtain⟨a,b,rfl⟩:=List.append_of_mem hr;rw[List.foldl_append,List.foldl_cons];have h0:=KA r hr;have h1:hasB (a.foldl n7 l) r.2.1=true:=pL (I:=fun l=>hasB l r.2.1=true) (fun x hx l hl=>qp h0.2.2.1 (KA x (List.mem_append_left _ hx)) hl) h
 refine pL (I:=fun l=>hasB l r.1=true) (fun x hx l hl=>qp h0.1 (KA x (List.mem_append_right _ (List.mem_cons_of_mem _ hx))) hl) ?_;generalize a.foldl n7 l=y at h1⊢
 unfold n7;rw[if_pos h1,nO _ _ _ h0.1 h0.1];simp
theorem JT {s:cB} (hs:ij s)(ha:hasB s.2.1 0=true)(hb: ∀m,0<m→m<s.1→ ∃r,r∈s.2.2∧r.1=m∧r.2.1=0):pK s=0:=by
 have hM:=hs.wq;have hn1:=hs.n1;have Uu:=hs.n8;(have hn:s.1.toNat=(s.1.toNat-1)+1:=by omega);(have hL: ∀m,0≤m→m<s.1→hasB (ka s) m=true:=fun m h0 h1=>by unfold ka;rw[hn];unfold lz;refine Aa (I:=fun l=>hasB l m=true) (fun x hx l hl=>qp h0 (hM x hx) hl) ?_;by_cases e:m=0;(·subst e;exact pL (I:=fun l=>hasB l 0=true) (fun x hx l hl=>qp (Int.le_refl _) (hM x hx) hl) ha);·obtain⟨r,hr,e1,e2⟩:=hb m (by omega) h1;rw[←e1];exact am0 hM hr (by rw[e2];exact ha))
 (have hR: ∀m,0≤m→hasB (iI s) m=true→m<s.1:=by refine Aa (I:=fun l=> ∀m,0≤m→hasB l m=true→m<s.1) (fun r hr l hl m h0 hm=>?_) (fun m h0 hm=>?_);(·unfold vC at hm;split at hm;(·rw[nO _ _ _ (hM r hr).2.2.1 h0,Bool.or_eq_true]at hm;rcases hm with hm|hm;(·exact hl m h0 hm);·rw[←of_decide_eq_true hm];exact(hM r hr).2.2.2);·exact hl m h0 hm);·have h1:=xr 0 m (Int.le_refl _) h0;have e:qA 0=1:=rfl;rw[e,hm]at h1;have:=of_decide_eq_true h1.symm;omega)
 unfold pK;have hd:=TP (vD hs) (z8 hs) (fun m h0 h8 hm=>hL m h0 (hR m h0 hm));(have tX:((iI s).toNat &&& (2^8-1-(ka s).toNat):Nat)=0:=by omega);rw[if_neg (by rw[zu hs];simp),if_neg (by rw[hL 0 (Int.le_refl _) (by omega)];simp),if_neg (by rw[tX];simp)]
theorem Ej {rs:List Rl} {h:Int→Nat} (hr: ∀r,r∈rs→cq r=true→h r.1<h r.2.1)(m:Int): ¬NQ rs cq m m:=by
 (have key: ∀a b,NQ rs cq a b→h a<h b:=fun a b hc=>by induction hc with|one hm hs=>exact hr _ hm hs|snoc _ hm hs ih=>exact Nat.lt_trans ih (hr _ hm hs));exact fun hc=>Nat.lt_irrefl _ (key m m hc)
end Go.Proofs.YtgpkijnphchkpaaGreat
namespace Go.Proofs.YtgpkijnphchkpaaGreat
set_option maxHeartbeats 1000000
def LF(m:Int):Nat:=if m=1 then 1 else 0
theorem NS(x:AU):(fA x).1≤2:=by show(bI x.1).1≤2;have:=(qi x.1).1;omega
theorem Ab(x:AU): ∀r,r∈(fA x).2.2→cq r=true→LF r.1<LF r.2.1:=by
 intro r hr hs;have h1:=(List.mem_filter.1 hr).2;have h2:=NS x;have h3:=(z3 x).1.wq r hr;unfold jI at h1;have h4:=of_decide_eq_true h1;unfold cq at hs;obtain⟨a,b,c,d⟩:=h3
 (have h5:r.1<r.2.1:=by rcases h4 with h4|h4;(·exact absurd (by simpa using hs) h4);·exact h4);unfold LF;rw[if_neg (by omega),if_pos (by omega)];decide
theorem wx(n:Int) {r:Rl} : ∀(xs:List v5)(out:List Rl),r∈out→r∈ep n xs out|[],_,h=>h|y::ys,out,h=>wx n ys _ (by unfold ia;split;(·exact List.mem_append_left _ h);·exact h)
theorem NT(k:Int)(m:Int)(h0:0<m)(h1:m<(bI k).1): ∃r,r∈(bI k).2.2.drop 1∧r.1=m∧r.2.1=0∧r.2.2.1≠ []:=by
 unfold bI at h1⊢;split at h1;(·dsimp only at h1;omega);split at h1;(·dsimp only at h1;omega);split at h1;(·rename_i g1 g2 g3;rw[if_neg g1,if_neg g2,if_pos g3];dsimp only at h1;(have e:m=1:=by omega);subst e;exact⟨bx (1,0) [97] [65],by simp,rfl,rfl,by simp[bx]⟩)
 split at h1;(·dsimp only at h1;omega);split at h1;(·dsimp only at h1;omega);·dsimp only at h1;omega
theorem Hx(x:AU):pK (fA x)=0:=by
 refine JT (z3 x).1 ?_ fun m h0 h1=>?_;(·have:(fA x).2.1=1:=(qi x.1).2.1;rw[this];rfl);·obtain⟨r,hr,e1,e2,e3⟩:=NT x.1 m h0 h1;refine⟨r,List.mem_filter.2 ⟨wx _ _ _ ?_,?_⟩,e1,e2⟩;(·(have hd:x.2.1%2=0∨x.2.1%2=1:=by omega);rcases hd with h|h<;>rw[h];(·exact List.mem_of_mem_drop hr);·exact hr);·unfold jI;exact decide_eq_true (.inl e3)
end Go.Proofs.YtgpkijnphchkpaaGreat
namespace Go.Proofs.YtgpkijnphchkpaaGreat.Op
set_option maxHeartbeats 1000000
structure Wk(K:Type)where
 eq:K→K→Bool
 rs:List Rl
 mode:K→Int
 step:K→Rl→K×Bool
variable {K:Type} (W:Wk K)
def Wk.jK(M:List (K×Int))(k:K)(c:Int):Bool:=match aJ W.eq M k with|some jU=>decide (c<jU)|none=>true
def Wk.fS(M:List (K×Int))(k:K)(c:Int):List (K×Int):=match aJ W.eq M k with|some jU=>if c<jU then cO W.eq M k c else M|none=>cO W.eq M k c
structure Wk.Ok(h:Int→Nat):Prop where
 he: ∀x y,W.eq x y=true↔x=y
 to: ∀k r k',r∈W.rs→r.1=W.mode k→W.step k r=(k',true)→W.mode k'=r.2.1
 top: ∀m,h m≤8
variable {W} {h:Int→Nat} {M:List (K×Int)} {k k':K} {c:Int}
theorem Wk.Ok.pM(hb:W.jK M k c=false):W.fS M k c=M:=by
 unfold Wk.fS;unfold Wk.jK at hb;cases hf:aJ W.eq M k with|none=>rw[hf]at hb;cases hb|some jU=>rw[hf]at hb;dsimp only at hb⊢;rw[if_neg (by simpa using hb)]
theorem Wk.Ok.El(hb:W.jK M k c=true):W.fS M k c=cO W.eq M k c:=by
 unfold Wk.fS;unfold Wk.jK at hb;cases hf:aJ W.eq M k with|none=>rfl|some jU=>rw[hf]at hb;dsimp only at hb⊢;rw[if_pos (by simpa using hb)]
theorem Wk.Ok.pN(hW:W.Ok h)(hb:W.jK M k c=true):aJ W.eq (W.fS M k c) k=some c:=by rw[Wk.Ok.El hb,jq hW.he]
theorem Wk.Ok.ju(hW:W.Ok h) {k1:K} (bW:k1≠k):aJ W.eq (W.fS M k c) k1=aJ W.eq M k1:=by cases hb:W.jK M k c;(·rw[Wk.Ok.pM hb]);·rw[Wk.Ok.El hb,jH hW.he _ bW]
theorem Wk.Ok.LG(hb:W.jK M k c=true) {jU:Int} (hf:aJ W.eq M k=some jU):c<jU:=by unfold Wk.jK at hb;rw[hf]at hb;exact of_decide_eq_true hb
theorem Wk.Ok.TT(hb:W.jK M k c=false): ∃jU,jU≤c∧aJ W.eq M k=some jU:=by
 unfold Wk.jK at hb;cases hf:aJ W.eq M k with|none=>rw[hf]at hb;cases hb|some jU=>rw[hf]at hb;have hb:=of_decide_eq_false hb;exact⟨jU,by omega,rfl⟩
theorem Wk.Ok.Ac(hW:W.Ok h) {k1:K} {c1:Int} (h1:aJ W.eq M k1=some c1): ∃c2,c2≤c1∧aJ W.eq (W.fS M k c) k1=some c2:=by
 cases hb:W.jK M k c;(·rw[Wk.Ok.pM hb];exact⟨c1,Int.le_refl _,h1⟩);·by_cases e:k1=k;(·subst e;have:=Wk.Ok.LG hb h1;exact⟨c,by omega,hW.pN hb⟩);·rw[hW.ju e];exact⟨c1,Int.le_refl _,h1⟩
theorem Wk.Ok.Em(hW:W.Ok h): ∃c2,c2≤c∧aJ W.eq (W.fS M k c) k=some c2:=by cases hb:W.jK M k c;(·rw[Wk.Ok.pM hb];exact Wk.Ok.TT hb);·exact⟨c,Int.le_refl _,hW.pN hb⟩
theorem Wk.Ok.pO(hW:W.Ok h)(hn:(M.map (·.1)).Nodup):((W.fS M k c).map (·.1)).Nodup:=by unfold Wk.fS;split;(·split;(·exact nM hW.he hn);·exact hn);·exact nM hW.he hn
theorem Wk.Ok.LH(hW:W.Ok h):M.length≤(W.fS M k c).length∧(W.fS M k c).length≤M.length+1:=by
 (have key:M.length≤(cO W.eq M k c).length:=by rcases ln hW.he k c M with⟨_,e⟩|⟨_,e⟩;(·have:=congrArg List.length e;simp at this;omega);·have:=congrArg List.length e;simp at this;omega)
 have:=mQ hW.he k c M;unfold Wk.fS;split;(·split<;>omega);·omega
def vF:List (K×Int)→Nat|[]=>0|p::r=>p.2.toNat+vF r
theorem Cy(hW:W.Ok h) {jU:Int} (hc:0≤c∧c<jU): ∀ {M:List (K×Int)},aJ W.eq M k=some jU→vF (cO W.eq M k c)+1≤vF M∧(cO W.eq M k c).length=M.length|[],hf=>(by cases hf)|p::M,hf=>by simp only[aJ]at hf;simp only[cO];cases hq:W.eq k p.1;(·rw[hq]at hf;simp only[cond_false]at hf⊢;obtain⟨h1,h2⟩:=Cy hW hc (M:=M) hf;simp only[vF,List.length_cons];omega);·rw[hq]at hf;simp only[cond_true,Option.some.injEq]at hf⊢;simp only[vF,List.length_cons];have hf:p.2=jU:=hf;refine⟨?_,trivial⟩;(have h1:c.toNat<p.2.toNat:=by omega);omega
theorem qQ {W:Wk K} (hc:0≤c): ∀ {M:List (K×Int)},aJ W.eq M k=none→vF (cO W.eq M k c)=vF M+c.toNat∧(cO W.eq M k c).length=M.length+1|[],_=>(by simp[cO,vF])|p::M,hf=>by simp only[aJ]at hf;simp only[cO];cases hq:W.eq k p.1;(·rw[hq]at hf;simp only[cond_false]at hf⊢;obtain⟨h1,h2⟩:=qQ hc (M:=M) hf;simp only[vF,List.length_cons];omega);·rw[hq]at hf;simp only[cond_true,reduceCtorEq]at hf
def Ap(N C:Nat)(M:List (K×Int)):Nat:=(N-M.length)*(C+1)+vF M
theorem Wk.Ok.am1(hW:W.Ok h) {N C:Nat} (hN:M.length<N)(hc:0≤c∧c≤C)(hb:W.jK M k c=true):Ap N C (W.fS M k c)+1≤Ap N C M:=by
 rw[Wk.Ok.El hb];unfold Ap;cases hf:aJ W.eq M k with|none=>obtain⟨h1,h2⟩:=qQ (W:=W) hc.1 hf;rw[h1,h2];obtain⟨d,hd⟩: ∃d,N=M.length+1+d:=⟨N-(M.length+1),by omega⟩;subst hd;rw[show M.length+1+d-(M.length+1)=d from by omega,show M.length+1+d-M.length=d+1 from by omega,Nat.add_mul];omega|some jU=>have c7:=Wk.Ok.LG hb hf;obtain⟨h1,h2⟩:=Cy hW ⟨hc.1,c7⟩ hf;rw[h2];omega
def Wk.eQ(W:Wk K)(M:List (K×Int))(k:K)(l:List Rl):Prop:= ∀r,r∈l→cq r=true→r.1=W.mode k→ ∀k',W.step k r=(k',true)→ ∀c,aJ W.eq M k=some c→ ∃c',c'≤c+r.2.2.2.2∧aJ W.eq M k'=some c'
theorem Wk.Ok.LJ(hW:W.Ok h) {l:List Rl} {k1:K} (bW:k1≠k)(hc:W.eQ M k1 l):W.eQ (W.fS M k c) k1 l:=by
 intro r hr hs hm k2 c8 c1 h1;rw[hW.ju bW]at h1;obtain⟨c2,h2,h3⟩:=hc r hr hs hm k2 c8 c1 h1;obtain⟨c4,h4,h5⟩:=hW.Ac (k:=k) (c:=c) h3;exact⟨c4,by omega,h5⟩
structure Wk.Place(W:Wk K)(h:Int→Nat)(B:Nat)(G:K→Int→Prop):Prop where
 go: ∀k c r k',G k c→r∈W.rs→cq r=true→r.1=W.mode k→W.step k r=(k',true)→G k' (c+r.2.2.2.2)
 kA: ∀k c,G k c→0≤c∧c≤(B:Int)+1000*(h (W.mode k):Int)
 up: ∀k c r,G k c→r∈W.rs→cq r=true→r.1=W.mode k→h (W.mode k)<h r.2.1
structure Wk.SI(W:Wk K)(G:K→Int→Prop)(M0:List (K×Int))(most:Nat)(todo:List K)(j:Nat)(P:Nat)(C:Nat)(M:List (K×Int))(news:List K):Prop where
 once:(M.map (·.1)).Nodup
 len:M.length≤most
 gi: ∀k c,aJ W.eq M k=some c→G k c
 cover: ∀k c,aJ W.eq M0 k=some c→ ∃c',c'≤c∧aJ W.eq M k=some c'
 td: ∀k,k∈todo→ ∃c,aJ W.eq M k=some c
 nw: ∀k,k∈news→ ∃c,aJ W.eq M k=some c
 TU: ∀k c,aJ W.eq M k=some c→k∈todo.drop j∨k∈news∨W.eQ M k W.rs
 low:Ap (most+1) C M+news.length≤P
structure Wk.am2(W:Wk K)(G:K→Int→Prop)(M0:List (K×Int))(most:Nat)(r:Bool×List (K×Int)):Prop where
 ok:r.1=decide (r.2.length≤most)
 qV:r.2.length≤most+1
 once:(r.2.map (·.1)).Nodup
 gi: ∀k c,aJ W.eq r.2 k=some c→G k c
 cover: ∀k c,aJ W.eq M0 k=some c→ ∃c',c'≤c∧aJ W.eq r.2 k=some c'
 shut:r.1=true→ ∀k c,aJ W.eq r.2 k=some c→W.eQ r.2 k W.rs
variable {G:K→Int→Prop} {M0:List (K×Int)} {most j P C B:Nat} {todo news:List K}
theorem LK {C:Nat} : ∀ {M:List (K×Int)},(∀p,p∈M→p.2≤(C:Int))→vF M≤M.length*C|[],_=>Nat.zero_le _|p::M,h=>by have h1:=h p (List.mem_cons_self ..);have h2:=LK (C:=C) (M:=M) fun q hq=>h q (List.mem_cons_of_mem _ hq);simp only[vF,List.length_cons,Nat.add_mul,Nat.one_mul];omega
theorem Wk.SI.DV(hW:W.Ok h)(hG:W.Place h B G)(hC:B+8000≤C)(hI:W.SI G M0 most todo j P C M news):Ap (most+1) C M≤(most+1)*(C+1):=by
 (have h1:vF M≤M.length*C:=LK fun p hp=>by have:=hG.kA p.1 p.2 (hI.gi p.1 p.2 ((gb hW.he hI.once).1 hp));have:=hW.top (W.mode p.1);omega);have h2:=hI.len;unfold Ap
 obtain⟨d,hd⟩: ∃d,most+1=M.length+d:=⟨most+1-M.length,by omega⟩;rw[hd,show M.length+d-M.length=d from by omega,Nat.add_mul M.length d,Nat.mul_add M.length C 1];omega
theorem Wk.SI.rel(hW:W.Ok h)(hG:W.Place h B G)(hC:B+8000≤C)(hI:W.SI G M0 most todo j P C M news) {r:Rl} {c:Int} (hj:todo[j]?=some k)(hk:aJ W.eq M k=some c)(hr:r∈W.rs)(hs:cq r=true)(hm:r.1=W.mode k)(c8:W.step k r=(k',true)) {l:List Rl} (eR:W.eQ M k l):((W.fS M k' (c+r.2.2.2.2)).length≤most→W.SI G M0 most todo j P C (W.fS M k' (c+r.2.2.2.2)) (if W.jK M k' (c+r.2.2.2.2)=true then news++ [k']else news))∧W.eQ (W.fS M k' (c+r.2.2.2.2)) k (l++ [r])∧(most<(W.fS M k' (c+r.2.2.2.2)).length→W.am2 G M0 most (false,W.fS M k' (c+r.2.2.2.2))):=by
 (have bW:k≠k':=by rintro rfl;have:=hW.to _ _ _ hr hm c8;have h2:=hG.up k c r (hI.gi k c hk) hr hs hm;rw[←this]at h2;omega);have xT:=hI.gi k c hk;have am3:=hG.go k c r k' xT hr hs hm c8
 have bq5:=hG.kA k' _ am3;have A2:=hW.top (W.mode k');have hlen:=hW.LH (M:=M) (k:=k') (c:=c+r.2.2.2.2);(have qR: ∀k1 c1,aJ W.eq (W.fS M k' (c+r.2.2.2.2)) k1=some c1→G k1 c1:=by intro k1 c1 h1;cases hb:W.jK M k' (c+r.2.2.2.2);(·rw[Wk.Ok.pM hb]at h1;exact hI.gi k1 c1 h1);·by_cases e:k1=k';(·subst e;rw[hW.pN hb]at h1;injection h1 with h1;rw[←h1];exact am3);·rw[hW.ju e]at h1;exact hI.gi k1 c1 h1)
 (have TV: ∀k1 c1,aJ W.eq M0 k1=some c1→ ∃c',c'≤c1∧aJ W.eq (W.fS M k' (c+r.2.2.2.2)) k1=some c':=by intro k1 c1 h1;obtain⟨c2,h2,h3⟩:=hI.cover k1 c1 h1;obtain⟨c4,h4,h5⟩:=hW.Ac (k:=k') (c:=c+r.2.2.2.2) h3;exact⟨c4,by omega,h5⟩)
 refine⟨fun hle=>?_,?_,fun Ug=>?_⟩;(·refine⟨hW.pO hI.once,hle,qR,TV,fun k1 h1=>?_,fun k1 h1=>?_,fun k1 c1 h1=>?_,?_⟩;(·obtain⟨c1,h2⟩:=hI.td k1 h1;obtain⟨c4,_,h5⟩:=hW.Ac (k:=k') (c:=c+r.2.2.2.2) h2;exact⟨c4,h5⟩);(·(have hk1:k1∈news∨k1=k':=by split at h1;(·rcases List.mem_append.1 h1 with h|h;(·exact .inl h);·exact .inr (List.mem_singleton.1 h));·exact .inl h1);rcases hk1 with h2|rfl;(·obtain⟨c1,h2⟩:=hI.nw k1 h2;obtain⟨c4,_,h5⟩:=hW.Ac (k:=k') (c:=c+r.2.2.2.2) h2;exact⟨c4,h5⟩);·obtain⟨c4,_,h5⟩:=hW.Em (M:=M) (k:=k1) (c:=c+r.2.2.2.2);exact⟨c4,h5⟩);(·by_cases hb:W.jK M k' (c+r.2.2.2.2)=true;(·rw[if_pos hb];by_cases e:k1=k';(·exact .inr (.inl (List.mem_append.2 (.inr (List.mem_singleton.2 e)))));·rw[hW.ju e]at h1;rcases hI.TU k1 c1 h1 with h2|h2|h2;(·exact .inl h2);(·exact .inr (.inl (List.mem_append.2 (.inl h2))));·exact .inr (.inr (hW.LJ e h2)));·(have ja:W.jK M k' (c+r.2.2.2.2)=false:=by simpa using hb);rw[if_neg hb,Wk.Ok.pM ja]at*;exact hI.TU k1 c1 h1);·have JU:=hI.low;by_cases hb:W.jK M k' (c+r.2.2.2.2)=true;(·rw[if_pos hb,List.length_append];have:=hW.am1 (N:=most+1) (C:=C) (by have:=hI.len;omega) ⟨bq5.1,by omega⟩ hb;simp only[List.length_cons,List.length_nil];omega);·(have ja:W.jK M k' (c+r.2.2.2.2)=false:=by simpa using hb);rw[if_neg hb,Wk.Ok.pM ja];exact JU)
 (·intro r2 nT tY hm2 k2 lC c2 h2;rcases List.mem_append.1 nT with nT|nT;(·exact hW.LJ bW eR r2 nT tY hm2 k2 lC c2 h2);·rw[List.mem_singleton]at nT;subst nT;rw[c8]at lC;injection lC with e _;subst e;rw[hW.ju bW,hk]at h2;injection h2 with h2;subst h2;exact hW.Em)
 ·exact⟨by simp;omega,by have:=hI.len;dsimp only;omega,hW.pO hI.once,qR,TV,fun e=>by cases e⟩
theorem Wk.SI.next(hI:W.SI G M0 most todo j P C M news)(hj:todo[j]?=some k)(eR:W.eQ M k W.rs):W.SI G M0 most todo (j+1) P C M news:=by
 refine⟨hI.once,hI.len,hI.gi,hI.cover,hI.td,hI.nw,fun k1 c1 h1=>?_,hI.low⟩;rcases hI.TU k1 c1 h1 with h2|h2|h2;(·have c7:j<todo.length:=(List.getElem?_eq_some_iff.1 hj).1;rw[List.drop_eq_getElem_cons c7]at h2;rcases List.mem_cons.1 h2 with h2|h2;(·have e:todo[j]=k:=(List.getElem?_eq_some_iff.1 hj).2;rw[h2,e];exact .inr (.inr eR));·exact .inl h2)
 (·exact .inr (.inl h2));·exact .inr (.inr h2)
theorem Wk.SI.xL(hI:W.SI G M0 most todo j P C M news)(hj:todo.length≤j):W.SI G M0 most news 0 (Ap (most+1) C M) C M []:=by
 refine⟨hI.once,hI.len,hI.gi,hI.cover,hI.nw,fun k hk=>(List.not_mem_nil hk).elim,fun k1 c1 h1=>?_,by simp⟩;rcases hI.TU k1 c1 h1 with h2|h2|h2;(·rw[List.drop_of_length_le hj]at h2;exact(List.not_mem_nil h2).elim)
 (·exact .inl h2);·exact .inr (.inr h2)
theorem Wk.SI.done(hI:W.SI G M0 most [] 0 P C M []):W.am2 G M0 most (true,M):=by
 refine⟨by have:=hI.len;simp[this],by have:=hI.len;dsimp only;omega,hI.once,hI.gi,hI.cover,fun _ k1 c1 h1=>?_⟩;rcases hI.TU k1 c1 h1 with h2|h2|h2;(·simp at h2)
 (·simp at h2);·exact h2
end Go.Proofs.YtgpkijnphchkpaaGreat.Op
namespace Go.Proofs.YtgpkijnphchkpaaGreat.Op
set_option maxHeartbeats 1000000
variable {K:Type}
inductive Rt(W:Wk K)(inp:aI)(k0:K):Nat→K→Int→Prop|start:Rt W inp k0 0 k0 0|sil {p:Nat} {k:K} {c:Int} {r:Rl} {k':K} :Rt W inp k0 p k c→r∈W.rs→cq r=true→r.1=W.mode k→W.step k r=(k',true)→Rt W inp k0 p k' (c+r.2.2.2.2)|take {p:Nat} {k:K} {c:Int} {r:Rl} {k':K} :Rt W inp k0 p k c→r∈W.rs→cq r=false→r.1=W.mode k→r.2.2.1.isPrefixOf (inp.drop p)=true→W.step k r=(k',true)→Rt W inp k0 (p+r.2.2.1.length) k' (c+r.2.2.2.2)
def Arr(W:Wk K)(inp:aI)(k0:K)(i p:Nat)(k:K)(c:Int):Prop:=(p=0∧k=k0∧c=0)∨ ∃(p1:Nat)(k1:K)(c1:Int)(r:Rl),p1<i∧Rt W inp k0 p1 k1 c1∧r∈W.rs∧cq r=false∧r.1=W.mode k1∧r.2.2.1.isPrefixOf (inp.drop p1)=true∧W.step k1 r=(k,true)∧p=p1+r.2.2.1.length∧c=c1+r.2.2.2.2
def Ad(W:Wk K)(M:List (K×Int))(k:K)(c:Int):Prop:= ∃c',c'≤c∧aJ W.eq M k=some c'
variable {W:Wk K} {inp:aI} {k0:K} {h:Int→Nat} {G:K→Int→Prop} {most B:Nat}
theorem Ad.le {M:List (K×Int)} {k:K} {c c':Int} (hd:Ad W M k c)(hc:c≤c'):Ad W M k c':=by obtain⟨c1,h1,h2⟩:=hd;exact⟨c1,by omega,h2⟩
theorem Ad.rel(hW:W.Ok h) {M:List (K×Int)} {k k':K} {c c':Int} (hd:Ad W M k c):Ad W (W.fS M k' c') k c:=by
 obtain⟨c1,h1,h2⟩:=hd;obtain⟨c2,h3,h4⟩:=hW.Ac (k:=k') (c:=c') h2;exact⟨c2,by omega,h4⟩
theorem xw {r:Rl} (h:cq r=false):0<r.2.2.1.length:=by unfold cq at h;cases hi:r.2.2.1 with|nil=>rw[hi]at h;simp at h|cons a l=>simp
theorem Hy(hW:W.Ok h) {P:K→Int→Prop} {M:List (K×Int)} {k':K} {c':Int} (hM: ∀k c,aJ W.eq M k=some c→P k c)(hP:P k' c'): ∀k c,aJ W.eq (W.fS M k' c') k=some c→P k c:=by
 intro k c hk;cases hb:W.jK M k' c';(·rw[Wk.Ok.pM hb]at hk;exact hM k c hk);·by_cases e2:k=k';(·subst e2;rw[hW.pN hb]at hk;injection hk with hk;rw[←hk];exact hP);·rw[hW.ju e2]at hk;exact hM k c hk
theorem settled {i:Nat} {M M':List (K×Int)} (je: ∀k c,Arr W inp k0 i i k c→Ad W M k c)(hS:W.am2 G M most (true,M')): ∀k c,Rt W inp k0 i k c→Ad W M' k c:=by
 (have key: ∀p k c,Rt W inp k0 p k c→p=i→Ad W M' k c:=by intro p k c hR;(have cov: ∀k c,Ad W M k c→Ad W M' k c:=fun k c hd=>by obtain⟨c1,h1,h2⟩:=hd;obtain⟨c2,h3,h4⟩:=hS.cover k c1 h2;exact⟨c2,by omega,h4⟩);induction hR with|start=>intro e;subst e;exact cov _ _ (je _ _ (.inl ⟨rfl,rfl,rfl⟩))| @sil p k c r k' hR hr hs hm c8 ih=>intro e;obtain⟨c1,h1,h2⟩:=ih e;obtain⟨c2,h3,h4⟩:=hS.shut rfl k c1 h2 r hr hs hm k' c8 c1 h2;exact⟨c2,by omega,h4⟩| @take p k c r k' hR hr hs hm hp c8 ih=>intro e;have:=xw hs;exact cov _ _ (je _ _ (.inr ⟨p,k,c,r,by omega,hR,hr,hs,hm,hp,c8,e.symm,rfl⟩)))
 exact fun k c hR=>key i k c hR rfl
structure Good(W:Wk K)(inp:aI)(k0:K)(h:Int→Nat)(G:Nat→K→Int→Prop):Prop where
 start:G 0 k0 0
 place: ∀p,W.Place h (9000*p) (G p)
 take: ∀p k c r k',G p k c→r∈W.rs→cq r=false→r.1=W.mode k→r.2.2.1.isPrefixOf (inp.drop p)=true→W.step k r=(k',true)→G (p+r.2.2.1.length) k' (c+r.2.2.2.2)
def Few(W:Wk K)(inp:aI)(k0:K)(most p:Nat):Prop:= ∀L:List K,L.Nodup→(∀k,k∈L→ ∃c,Rt W inp k0 p k c)→L.length≤most
theorem qS {α:Type} : ∀(l m:List α),l.Nodup→(∀x,x∈l→x∈m)→l.length≤m.length|[],_,_,_=>Nat.zero_le _|x::l,m,hn,h=>by obtain⟨a,b,rfl⟩:=List.append_of_mem (h x (List.mem_cons_self ..));(have:=qS l (a++b) (List.nodup_cons.1 hn).2 fun y hy=>by have h1:=h y (List.mem_cons_of_mem _ hy);have bW:y≠x:=fun e=>(List.nodup_cons.1 hn).1 (e▸hy);simp only[List.mem_append,List.mem_cons]at h1⊢;rcases h1 with h1|h1|h1;(·exact .inl h1);(·exact absurd h1 bW);·exact .inr h1);simp only[List.length_append,List.length_cons]at this⊢;omega
theorem aZ4 {M':List (K×Int)} {p:Nat} (he: ∀x y,W.eq x y=true↔x=y)(hl:M'.length≤most)(hd: ∀k c,Rt W inp k0 p k c→Ad W M' k c):Few W inp k0 most p:=by
 intro L hn hL;(have:=qS L (M'.map (·.1)) hn fun k hk=>by obtain⟨c,hR⟩:=hL k hk;obtain⟨c',_,hf⟩:=hd k c hR;exact List.mem_map.2 ⟨(k,c'),kx he hf,rfl⟩);rw[List.length_map]at this
 omega
structure RI(W:Wk K)(inp:aI)(k0:K)(G:Nat→K→Int→Prop)(most i:Nat)(m:Int→List (K×Int))(l:List Int):Prop where
 nodup:l.Nodup
 kA: ∀p,p∈l→(i:Int)≤p∧p≤(inp.length:Int)
 once: ∀p,p∈l→((m p).map (·.1)).Nodup
 len: ∀p,p∈l→(m p).length≤most
 gi: ∀p,p∈l→ ∀k c,aJ W.eq (m p) k=some c→G p.toNat k c
 arr: ∀p:Nat,i≤p→ ∀k c,Arr W inp k0 i p k c→(p:Int)∈l∧Ad W (m (p:Int)) k c
 qV: ∀p,p<i→Few W inp k0 most p
def Fits(W:Wk K)(inp:aI)(i:Nat)(k:K)(r:Rl)(p:Nat)(k':K):Prop:=cq r=false∧r.1=W.mode k∧r.2.2.1.isPrefixOf (inp.drop i)=true∧W.step k r=(k',true)∧p=i+r.2.2.1.length
structure RJ(W:Wk K)(inp:aI)(k0:K)(G:Nat→K→Int→Prop)(most i:Nat)(Mi:List (K×Int))(seen:List Nat)(kc:K×Int)(done:List Rl)(m:Int→List (K×Int))(l:List Int):Prop where
 nodup:l.Nodup
 kA: ∀p,p∈l→(i:Int)<p∧p≤(inp.length:Int)
 once: ∀p,p∈l→((m p).map (·.1)).Nodup
 len: ∀p,p∈l→(m p).length≤most
 gi: ∀p,p∈l→ ∀k c,aJ W.eq (m p) k=some c→G p.toNat k c
 arr: ∀p:Nat,i<p→ ∀k c,Arr W inp k0 i p k c→(p:Int)∈l∧Ad W (m (p:Int)) k c
 jU: ∀j,j∈seen→ ∀e,Mi[j]?=some e→ ∀r,r∈W.rs→ ∀p k',Fits W inp i e.1 r p k'→(p:Int)∈l∧Ad W (m (p:Int)) k' (e.2+r.2.2.2.2)
 cur: ∀r,r∈done→ ∀p k',Fits W inp i kc.1 r p k'→(p:Int)∈l∧Ad W (m (p:Int)) k' (kc.2+r.2.2.2.2)
 qV: ∀p,p<i→Few W inp k0 most p
variable {Gp:Nat→K→Int→Prop} {i:Nat} {m:Int→List (K×Int)} {l:List Int} {Mi:List (K×Int)} {seen:List Nat} {kc:K×Int} {done:List Rl}
theorem RI.open_(hI:RI W inp k0 Gp most i m l)(kc:K×Int):RJ W inp k0 Gp most i Mi [] kc [] m (l.filter fun p=>decide (p≠(i:Int))):=by
 refine⟨hI.nodup.filter _,fun p hp=>?_,fun p hp=>hI.once p (List.mem_filter.1 hp).1,fun p hp=>hI.len p (List.mem_filter.1 hp).1,fun p hp=>hI.gi p (List.mem_filter.1 hp).1,fun p hp k c ha=>?_,fun j hj=>(List.not_mem_nil hj).elim,fun r hr=>(List.not_mem_nil hr).elim,hI.qV⟩
 (·obtain⟨h1,h2⟩:=List.mem_filter.1 hp;have:=hI.kA p h1;have h2:=of_decide_eq_true h2;omega);·obtain⟨h1,h2⟩:=hI.arr p (by omega) k c ha;exact⟨List.mem_filter.2 ⟨h1,by simp;omega⟩,h2⟩
theorem RJ.pick(hJ:RJ W inp k0 Gp most i Mi seen kc [] m l)(kc':K×Int):RJ W inp k0 Gp most i Mi seen kc' [] m l:=⟨hJ.nodup,hJ.kA,hJ.once,hJ.len,hJ.gi,hJ.arr,hJ.jU,fun r hr=>(List.not_mem_nil hr).elim,hJ.qV⟩
theorem RJ.skip(hJ:RJ W inp k0 Gp most i Mi seen kc done m l) {r:Rl} (hn: ∀p k',¬Fits W inp i kc.1 r p k'):RJ W inp k0 Gp most i Mi seen kc (done++ [r]) m l:=by
 refine⟨hJ.nodup,hJ.kA,hJ.once,hJ.len,hJ.gi,hJ.arr,hJ.jU,fun r2 nT p k' hf=>?_,hJ.qV⟩;rcases List.mem_append.1 nT with h|h;(·exact hJ.cur r2 h p k' hf);·rw[List.mem_singleton]at h;subst h;exact absurd hf (hn p k')
def upd(m:Int→List (K×Int))(p:Int)(M:List (K×Int)):Int→List (K×Int):=fun q=>if q=p then M else m q
theorem RJ.step(hW:W.Ok h)(hG:Good W inp k0 h Gp)(hJ:RJ W inp k0 Gp most i Mi seen kc done m l) {r:Rl} {k':K} (hr:r∈W.rs)(xT:Gp i kc.1 kc.2)(hf:Fits W inp i kc.1 r (i+r.2.2.1.length) k') {M:List (K×Int)} {l':List Int} (hM:((i+r.2.2.1.length:Nat):Int)∈l∧M=m ((i+r.2.2.1.length:Nat):Int)∧l'=l∨((i+r.2.2.1.length:Nat):Int)∉l∧M=[]∧l'=l++ [((i+r.2.2.1.length:Nat):Int)])(hlen:(W.fS M k' (kc.2+r.2.2.2.2)).length≤most):RJ W inp k0 Gp most i Mi seen kc (done++ [r]) (upd m ((i+r.2.2.1.length:Nat):Int) (W.fS M k' (kc.2+r.2.2.2.2))) l':=by
 obtain⟨hs,hm,hp,c8,_⟩:=hf;have n5:=xw hs;have am3:=hG.take i kc.1 kc.2 r k' xT hr hs hm hp c8;(have vJ:i+r.2.2.1.length≤inp.length:=by have:=(List.isPrefixOf_iff_prefix.1 hp).length_le;rw[List.length_drop]at this;omega)
 generalize hto:i+r.2.2.1.length=to at*;(have uN: ∀p,p∈l→p∈l':=fun p hp=>by rcases hM with⟨_,_,rfl⟩|⟨_,_,rfl⟩;(·exact hp);·exact List.mem_append_left _ hp);(have fw:(to:Int)∈l':=by rcases hM with⟨h,_,rfl⟩|⟨_,_,rfl⟩;(·exact h);·exact List.mem_append_right _ (List.mem_singleton.2 rfl))
 (have zJ: ∀p,p∈l'→p≠(to:Int)→p∈l:=fun p hp bW=>by rcases hM with⟨_,_,rfl⟩|⟨_,_,rfl⟩;(·exact hp);·rcases List.mem_append.1 hp with h|h;(·exact h);·exact absurd (List.mem_singleton.1 h) bW)
 (have bg1:(M.map (·.1)).Nodup:=by rcases hM with⟨h,rfl,_⟩|⟨_,rfl,_⟩;(·exact hJ.once _ h);·exact List.nodup_nil);(have qR: ∀k c,aJ W.eq M k=some c→Gp to k c:=fun k c hk=>by rcases hM with⟨h,rfl,_⟩|⟨_,rfl,_⟩;(·have:=hJ.gi _ h k c hk;rwa[Int.toNat_natCast]at this);·cases hk)
 (have Tq: ∀p k c,(p:Int)∈l→Ad W (m p) k c→p∈l'∧Ad W (upd m (to:Int) (W.fS M k' (kc.2+r.2.2.2.2)) p) k c:=fun p k c hp hd=>by refine⟨uN p hp,?_⟩;unfold upd;by_cases e:p=(to:Int);(·rw[if_pos e];rcases hM with⟨_,rfl,_⟩|⟨hn,_,_⟩;(·rw[e]at hd;exact hd.rel hW);·exact absurd (e▸hp) hn);·rw[if_neg e];exact hd)
 refine⟨?_,fun p hp=>?_,fun p hp=>?_,fun p hp=>?_,fun p hp k c hk=>?_,fun p hp k c ha=>?_,fun j hj e he r2 nT p k2 Kb=>?_,fun r2 nT p k2 Kb=>?_,hJ.qV⟩;(·rcases hM with⟨_,_,rfl⟩|⟨hn,_,rfl⟩;(·exact hJ.nodup);·refine List.nodup_append.2 ⟨hJ.nodup,by simp,fun a ha b hb=>?_⟩;rw[List.mem_singleton]at hb;subst hb;rintro rfl;exact hn ha)
 (·by_cases e:p=(to:Int);(·subst e;omega);·exact hJ.kA p (zJ p hp e));(·unfold upd;by_cases e:p=(to:Int);(·rw[if_pos e];exact hW.pO bg1);·rw[if_neg e];exact hJ.once p (zJ p hp e))
 (·unfold upd;by_cases e:p=(to:Int);(·rw[if_pos e];exact hlen);·rw[if_neg e];exact hJ.len p (zJ p hp e));(·unfold upd at hk;by_cases e:p=(to:Int);(·rw[if_pos e]at hk;subst e;rw[Int.toNat_natCast];cases hb:W.jK M k' (kc.2+r.2.2.2.2);(·rw[Wk.Ok.pM hb]at hk;exact qR k c hk);·by_cases e2:k=k';(·subst e2;rw[hW.pN hb]at hk;injection hk with hk;rw[←hk];exact am3);·rw[hW.ju e2]at hk;exact qR k c hk);·rw[if_neg e]at hk;exact hJ.gi p (zJ p hp e) k c hk)
 (·obtain⟨h1,h2⟩:=hJ.arr p hp k c ha;exact Tq _ k c h1 h2);(·obtain⟨h1,h2⟩:=hJ.jU j hj e he r2 nT p k2 Kb;exact Tq _ _ _ h1 h2);·rcases List.mem_append.1 nT with h|h;(·obtain⟨h1,h2⟩:=hJ.cur r2 h p k2 Kb;exact Tq _ _ _ h1 h2);·rw[List.mem_singleton]at h;subst h;obtain⟨_,_,_,lC,Pc⟩:=Kb;rw[c8]at lC;injection lC with e2 _;subst e2;rw[hto]at Pc;subst Pc;refine⟨fw,?_⟩;unfold upd;rw[if_pos rfl];exact hW.Em
theorem RJ.next(hJ:RJ W inp k0 Gp most i Mi seen kc W.rs m l) {j:Nat} (hj:Mi[j]?=some kc)(kc':K×Int):RJ W inp k0 Gp most i Mi (seen++ [j]) kc' [] m l:=by
 refine⟨hJ.nodup,hJ.kA,hJ.once,hJ.len,hJ.gi,hJ.arr,fun j2 hj2 e he r hr p k' hf=>?_,fun r hr=>(List.not_mem_nil hr).elim,hJ.qV⟩;rcases List.mem_append.1 hj2 with h|h
 (·exact hJ.jU j2 h e he r hr p k' hf);·rw[List.mem_singleton]at h;subst h;rw[hj]at he;injection he with he;subst he;exact hJ.cur r hr p k' hf
theorem RJ.close(he: ∀x y,W.eq x y=true↔x=y)(hJ:RJ W inp k0 Gp most i Mi seen kc [] m l)(bk: ∀j,j<Mi.length→j∈seen)(hl:Mi.length≤most)(hd: ∀k c,Rt W inp k0 i k c→Ad W Mi k c):RI W inp k0 Gp most (i+1) m l:=by
 refine⟨hJ.nodup,fun p hp=>?_,hJ.once,hJ.len,hJ.gi,fun p hp k c ha=>?_,fun p hp=>?_⟩;(·have:=hJ.kA p hp;omega);(·rcases ha with⟨h1,_⟩|⟨p1,k1,c1,r,h1,hR,hr,hs,hm,hpf,c8,e1,e2⟩;(·omega);·by_cases c7:p1<i;(·exact hJ.arr p (by omega) k c (.inr ⟨p1,k1,c1,r,c7,hR,hr,hs,hm,hpf,c8,e1,e2⟩));·(have e:p1=i:=by omega);subst e;obtain⟨c2,h2,h3⟩:=hd k1 c1 hR;obtain⟨j,hj⟩:=List.getElem?_of_mem (kx he h3);obtain⟨h4,h5⟩:=hJ.jU j (bk j (List.getElem?_eq_some_iff.1 hj).1) _ hj r hr p k ⟨hs,hm,hpf,c8,e1⟩;exact⟨h4,h5.le (by dsimp only;omega)⟩)
 ·by_cases c7:p<i;(·exact hJ.qV p c7);·(have e:p=i:=by omega);subst e;exact aZ4 he hl hd
end Go.Proofs.YtgpkijnphchkpaaGreat.Op
namespace Go.Proofs.YtgpkijnphchkpaaGreat
attribute[local go_sem←]Bool.decide_and Bool.decide_or decide_not
attribute[local go_sem]fg bz ne_eq not_false_eq_true
set_option maxHeartbeats 4000000
set_option maxRecDepth 100000
theorem aZ5(s p:aI):PC env 112 [⟨.str,s⟩,⟨.str,p⟩] .bool (p.isPrefixOf s):=by
 refine PC.ay (m:=2000) ae Su rfl rfl rfl rfl (by kernel_rfl) ?_;intro hx;simp only[Tryz.f112];simp only[go_sem,zA,↓reduceIte,↓reduceDIte,zB,zC,zD,zE,zF,zG,zH,zI]
 refine⟨fun g=>⟨⟨Int.natCast_nonneg _,g⟩,?_⟩,fun g=>?_⟩;(·rw[Bool.eq_iff_iff,decide_eq_true_eq,List.isPrefixOf_iff_prefix,List.prefix_iff_eq_take];exact eq_comm)
 ·cases h:p.isPrefixOf s with|false=>rfl|true=>have:=(List.isPrefixOf_iff_prefix.1 h).length_le;omega
theorem as0(s p:aI):PC env 65 [⟨.str,s⟩,⟨.str,p⟩] .bool (p.isPrefixOf s):=by
 refine PC.ay (m:=2000) ae aq4 rfl rfl rfl rfl (by kernel_rfl) ?_;intro hx;simp only[Tryz.f65];simp only[go_sem,zA,↓reduceIte,↓reduceDIte,zB,zC,zD,zE,zF,zG,zH,zI]
 exact⟨_,aZ5 s p,rfl⟩
abbrev Os:=Int×Int
def qT(out:aI)(k:Os)(r:Rl):Os×Bool:=((r.2.1,k.2+(r.2.2.2.1.length:Int)),r.2.2.2.1.isPrefixOf (out.drop k.2.toNat))
theorem LL(k:Os):PC env 63 [⟨aA,k⟩] (.int .i64) k.1:=by
 obtain⟨m,a⟩:=k;refine PC.ay (m:=2000) ae bb2 rfl rfl rfl rfl (by kernel_rfl) ?_;intro hx;simp only[Tryz.f63];simp only[go_sem,zA,↓reduceIte,↓reduceDIte,zB,zC,zD,zE,zF,zG,zH,zI]
theorem LM(out:aI)(k:Os)(r:Rl)(hk:0≤k.2∧k.2≤out.length)(hl:out.length≤1000)(hr:r.2.2.2.1.length≤4):PC env 64 [⟨aA,k⟩,⟨bg,r⟩,⟨.ptr .str,out⟩] (.bn aA .bool) (qT out k r):=by
 obtain⟨m,a⟩:=k;obtain⟨f,t,i,o,c⟩:=r;dsimp only at hk hr;refine PC.ay (m:=2000) ae bb3 rfl rfl rfl rfl (by kernel_rfl) ?_;intro hx;simp only[Tryz.f64];simp only[go_sem,zA,↓reduceIte,↓reduceDIte,zB,zC,zD,zE,zF,zG,zH,zI]
 exact⟨aw (by omega) (by omega),hk,_,as0 _ _,rfl⟩
theorem JV: ∀x y:aA.den,gv aA x y=true↔x=y:=fun x y=>wV aA x y rfl
def jv(rs:List Rl)(out:aI):Op.Wk Os:=⟨gv aA,rs,fun k=>k.1,qT out⟩
theorem Ae(rs:List Rl)(out:aI)(M:List (Os×Int))(hl:M.length≤1000000)(k:Os)(c:Int):HC env 114 [.lmap 1000000000,.iv aA k,.iv (.int .i64) c] [(1000000000,.mp aA (.int .i64) M)] (.iv .bool ((jv rs out).jK M k c)) [(1000000000,.mp aA (.int .i64) ((jv rs out).fS M k c))]:=by
 obtain⟨m,a⟩:=k;refine HC.ay (m:=2000) ae aR3 rfl rfl rfl rfl (by kernel_rfl) ?_;intro hx jW;simp only[Tryz.f114];simp only[go_sem,zA,↓reduceIte,↓reduceDIte,zB,zC,zD,zE,zF,zG,zH,zI]
 have hlen:(cO (gv aA) M (m,a) c).length≤M.length+1:=mQ JV (m,a) c M;have hb:cO (gv aA) M (m,a) c=cO (jv rs out).eq M (m,a) c:=rfl;have hm:aJ (gv aA) M (m,a)=aJ (jv rs out).eq M (m,a):=rfl
 unfold Op.Wk.jK Op.Wk.fS;rw[←hb,←hm];refine⟨fun x hx=>⟨fun g=>?_,fun g=>⟨by omega,?_⟩⟩,fun hn=>⟨by omega,?_⟩⟩;(·have g:(x:Int)≤c:=g;rw[hx];simp[show¬c<x by omega])
 (·have g: ¬(x:Int)≤c:=g;rw[hx];simp[show c<x by omega]);·rw[hn];simp
end Go.Proofs.YtgpkijnphchkpaaGreat
namespace Go.Proofs.YtgpkijnphchkpaaGreat
set_option maxHeartbeats 1000000
def gr(a:Int)(out:aI)(k:Os):Prop:=k.2=out.length∧mI a k.1=true
theorem lA {out:aI} {k k':Os} {r:Rl} (h:qT out k r=(k',true)):k'=(r.2.1,k.2+(r.2.2.2.1.length:Int))∧r.2.2.2.1.isPrefixOf (out.drop k.2.toNat)=true:=by
 unfold qT at h;injection h with h1 h2;exact⟨h1.symm,h2⟩
theorem Hz {out:aI} {k k':Os} {r:Rl} (h:qT out k r=(k',true))(hk:0≤k.2∧k.2≤out.length):0≤k'.2∧k'.2≤out.length:=by
 obtain⟨rfl,h2⟩:=lA h;have:=(List.isPrefixOf_iff_prefix.1 h2).length_le;rw[List.length_drop]at this;dsimp only;omega
theorem aZ6 {rs : List Rl} {out : aI} {h : Int → Nat} (ht : ∀ m, h m ≤ 8) : (jv rs out).Ok h where
  he := JV
  to := fun k r k' _ _ c8 => by
    obtain ⟨rfl, _⟩ := lA (out := out) c8
    rfl
  top := ht
def GS(rs:List Rl)(out inp:aI)(h:Int→Nat)(p:Nat)(k:Os)(c:Int):Prop:=(0≤k.1∧k.1<8)∧(0≤k.2∧k.2≤out.length)∧(0≤c∧c≤9000*(p:Int)+1000*(h k.1:Int))∧Op.Rt (jv rs out) inp (0,0) p k c
theorem HA {rs:List Rl} {out inp:aI} {A:Int→Prop} (hA0:A 0)(hA: ∀r,r∈rs→A r.1→A r.2.1) {p:Nat} {k:Os} {c:Int} (hR:Op.Rt (jv rs out) inp (0,0) p k c):A k.1:=by
 induction hR with|start=>exact hA0| @sil p k c r k' _ hm _ hf c8 ih=>obtain⟨rfl,_⟩:=lA (out:=out) c8;have E1:r.1=k.1:=hf;exact hA r hm (E1▸ih)| @take p k c r k' _ hm _ hf _ c8 ih=>obtain⟨rfl,_⟩:=lA (out:=out) c8;have E1:r.1=k.1:=hf;exact hA r hm (E1▸ih)
theorem am4 {rs : List Rl} {out inp : aI} {h : Int → Nat} {n : Int} (hn : n ≤ 8) (hR : ∀ r, r ∈ rs → cS n r = true) {A : Int → Prop} (hA0 : A 0) (hA : ∀ r, r ∈ rs → A r.1 → A r.2.1) (hr : ∀ r, r ∈ rs → A r.1 → cq r = true → h r.1 < h r.2.1) (ht : ∀ m, h m ≤ 8) : Op.Good (jv rs out) inp (0, 0) h (GS rs out inp h) where
  start := ⟨⟨Int.le_refl _, by decide⟩, ⟨Int.le_refl _, Int.natCast_nonneg _⟩, ⟨Int.le_refl _, by dsimp only; omega⟩, .start⟩
  place := fun p => ⟨fun k c r k' hg hm hs hf c8 => by
      obtain ⟨_, h2, h3, h4⟩ := hg
      have h5 := Hz (out := out) c8 h2
      have h6 := bH (hR r hm)
      have E1 : r.1 = k.1 := hf
      have h7 := hr r hm (E1 ▸ HA hA0 hA h4) hs
      refine ⟨?_, h5, ?_, .sil h4 hm hs hf c8⟩
      · obtain ⟨rfl, _⟩ := lA (out := out) c8
        dsimp only
        omega
      · obtain ⟨rfl, _⟩ := lA (out := out) c8
        dsimp only
        rw [E1] at h7
        omega, fun k c hg => by
      obtain ⟨_, _, h3, _⟩ := hg
      have : (jv rs out).mode k = k.1 := rfl
      rw [this]
      omega, fun k c r hg hm hs hf => by
      obtain ⟨_, _, _, h4⟩ := hg
      have E1 : r.1 = k.1 := hf
      have h7 := hr r hm (E1 ▸ HA hA0 hA h4) hs
      rw [← hf]
      exact h7⟩
  take := fun p k c r k' hg hm hs hf hp c8 => by
    obtain ⟨_, h2, h3, h4⟩ := hg
    have h5 := Hz (out := out) c8 h2
    have h6 := bH (hR r hm)
    have h7 := Op.xw hs
    have h8 := ht k.1
    refine ⟨?_, h5, ?_, .take h4 hm hs hf hp c8⟩
    · obtain ⟨rfl, _⟩ := lA (out := out) c8
      dsimp only
      omega
    · omega
theorem aZ7 {rs:List Rl} {out inp:aI} {h:Int→Nat} (p:Nat)(L:List Os)(hL:L.Nodup)(hG: ∀k,k∈L→ ∃c,GS rs out inp h p k c):L.length≤(out.length+1)*8:=by
 (have h1:(L.map fun k:Os=>k.1+8*k.2).Nodup:=by rw[List.Nodup,List.pairwise_map];refine List.Pairwise.imp_of_mem (fun {a b} ha hb bW he=>bW ?_) hL;obtain⟨_,UR,US,_⟩:=hG a ha;obtain⟨_,ba,bq,_⟩:=hG b hb;obtain⟨a1,a2⟩:=a;obtain⟨b1,b2⟩:=b;dsimp only at UR US ba bq he;exact Prod.ext (by dsimp only;omega) (by dsimp only;omega))
 have h2:=mG ((out.length+1)*8) _ h1 (fun x hx=>by obtain⟨k,hk,rfl⟩:=List.mem_map.1 hx;obtain⟨_,h1,h2,_⟩:=hG k hk;omega);rwa[List.length_map]at h2
def Af(rs:List Rl)(a:Int)(inp out:aI)(r:Int):Prop:=(r= -1∧ ∀k c,Op.Rt (jv rs out) inp (0,0) inp.length k c→ ¬gr a out k)∨(0≤r∧(∃k,Op.Rt (jv rs out) inp (0,0) inp.length k r∧gr a out k)∧ ∀k c,Op.Rt (jv rs out) inp (0,0) inp.length k c→gr a out k→r≤c)
structure LI(rs:List Rl)(a:Int)(inp out:aI)(M:List (Os×Int))(seen:List Nat)(least:Int):Prop where
 no:least= -1∨0≤least∧ ∃k,Op.Rt (jv rs out) inp (0,0) inp.length k least∧gr a out k
 le: ∀j,j∈seen→ ∀e,M[j]?=some e→gr a out e.1→0≤least∧least≤e.2
theorem LI.next {rs:List Rl} {a:Int} {inp out:aI} {M:List (Os×Int)} {seen:List Nat} {least:Int} (hI:LI rs a inp out M seen least) {j:Nat} {e:Os×Int} (he:M[j]?=some e)(hn: ¬(gr a out e.1∧(least<0∨e.2<least))):LI rs a inp out M (seen++ [j]) least:=by
 refine⟨hI.no,fun i hi f hf hw=>?_⟩;rcases List.mem_append.1 hi with hi|hi;(·exact hI.le i hi f hf hw);·rw[List.mem_singleton.1 hi,he]at hf;injection hf with hf;subst hf;have: ¬(least<0∨e.2<least):=fun h=>hn ⟨hw,h⟩;omega
theorem LI.take {rs:List Rl} {a:Int} {inp out:aI} {M:List (Os×Int)} {seen:List Nat} {least:Int} (hI:LI rs a inp out M seen least) {j:Nat} {e:Os×Int} (he:M[j]?=some e)(hw:gr a out e.1)(hl:least<0∨e.2<least)(h0:0≤e.2)(hR:Op.Rt (jv rs out) inp (0,0) inp.length e.1 e.2):LI rs a inp out M (seen++ [j]) e.2:=by
 refine⟨.inr ⟨h0,e.1,hR,hw⟩,fun i hi f hf hw'=>?_⟩;rcases List.mem_append.1 hi with hi|hi;(·have:=hI.le i hi f hf hw';omega);·rw[List.mem_singleton.1 hi,he]at hf;injection hf with hf;subst hf;omega
theorem LI.done {rs:List Rl} {a:Int} {inp out:aI} {M:List (Os×Int)} {seen:List Nat} {least:Int} (hI:LI rs a inp out M seen least)(bk: ∀j,j<M.length→j∈seen)(hd: ∀k c,Op.Rt (jv rs out) inp (0,0) inp.length k c→Op.Ad (jv rs out) M k c):Af rs a inp out least:=by
 (have key: ∀k c,Op.Rt (jv rs out) inp (0,0) inp.length k c→gr a out k→0≤least∧least≤c:=fun k c hR hw=>by obtain⟨c',h1,h2⟩:=hd k c hR;have hm:=kx JV h2;obtain⟨i,hi⟩:=List.getElem?_of_mem hm;have:=hI.le i (bk i (List.getElem?_eq_some_iff.1 hi).1) _ hi hw;dsimp only at this;omega)
 rcases hI.no with h|⟨h0,hk⟩;(·exact .inl ⟨h,fun k c hR hw=>by have:=key k c hR hw;omega⟩);·exact .inr ⟨h0,hk,fun k c hR hw=>(key k c hR hw).2⟩
end Go.Proofs.YtgpkijnphchkpaaGreat
