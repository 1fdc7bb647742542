/- Package output: what Cost answers, plainly. Nothing here is trusted; no condition. -/
import Derived.Test.YtgpkijnphchkpaaGreatO1
set_option linter.unusedSimpArgs false
set_option linter.unusedVariables false
open Nat renaming reduceBEq→zA,reduceAdd→zB,reduceSub→zC,reduceMul→zD,reduceLeDiff→zE
open Int renaming reduceLT→zF,reduceLE→zG,reduceToNat→zH,reduceNeg→zI
namespace Go.Proofs.YtgpkijnphchkpaaGreat
attribute[local go_sem←]Bool.decide_and Bool.decide_or decide_not
attribute[local go_sem]ft bC ne_eq not_false_eq_true
set_option maxHeartbeats 4000000
set_option maxRecDepth 100000
theorem Pv(s:db)(hs:iB s)(LO: ∀m,¬Pu s.2.2 cw m m):HC env 142 [.iv al s] [] .bI []:=by
 have hR:=BK s hs;have hL:=Nf s hs;have hr:=xg hs;have hl:=BJ hs;have hF:=I8 s hs;obtain⟨n,a,rs⟩:=s;have VV:=hs.n8;have hn1:=hs.n1;dsimp only at VV hn1 LO;refine HC.ay (m:=2000) ae Uc rfl rfl rfl rfl (by kernel_rfl) ?_
 intro hx kj;simp only[Tryz.f142];simp only[go_sem,zA,↓reduceIte,↓reduceDIte,zB,zC,zD,zE,zF,zG,zH,zI];refine⟨_,hR,fun _=>⟨_,hL,fun _=>⟨⟨hr.1,hl.1⟩,?_⟩⟩⟩;(have hX0:(0:Int)≤(((iU (n,a,rs)).toNat &&& (kD (n,a,rs)).toNat:Nat):Int)∧(((iU (n,a,rs)).toNat &&& (kD (n,a,rs)).toNat:Nat):Int)≤255:=by have:(iU (n,a,rs)).toNat &&& (kD (n,a,rs)).toNat≤(iU (n,a,rs)).toNat:=Nat.and_le_left;omega)
 generalize hX:(((iU (n,a,rs)).toNat &&& (kD (n,a,rs)).toNat:Nat):Int)=X at*;refine ah.bH (X:=Nat) (fun(z:Nat)=>[(14,.iv (.int .i64) (z:Int)),(4,.bI),(5,.any),(6,.any)]) (fun(z:Nat)=>[]) (fun(z:Nat)=>z≤n.toNat) (fun(z:Nat)=>n.toNat-z) 0 ?_
 intro b1 b2 bg bu;simp(config:= {maxSteps:=4000000})only[go_sem,zA,↓reduceIte,↓reduceDIte,zB,zC,zD,zE,zF,zG,zH,zI]at bg bu;subst bg;subst bu;refine⟨(by refine⟨?_,?_,rfl,rfl⟩<;>repeat' (first|exact trivial|exact Or.inl rfl|exact Or.inr rfl|apply bw|apply bx|apply bz|apply bD|exact⟨(by show(_:Nat)<1000000000;omega),rfl,rfl⟩|rfl|(refine And.intro (Or.inl ?_) ?_)|(refine And.intro ?_ ?_))),?_,?_⟩
 (·exact Nat.zero_le _);intro z hz back;refine av ae ⟨_,Uc,rfl⟩ 2000 _ _ (by kernel_rfl) ?_;simp only[go_sem,zA,↓reduceIte,↓reduceDIte,zB,zC,zD,zE,zF,zG,zH,zI];refine⟨fun g1=>?_,fun g1=>?_⟩
 (·have hz8:0≤(z:Int)∧(z:Int)<8:=⟨Int.natCast_nonneg _,by omega⟩;refine⟨_,yc X (z:Int) hX0 hz8,?_⟩;cases hb:hasB X (z:Int);(·simp only[go_sem,zA,↓reduceIte,↓reduceDIte,zB,zC,zD,zE,zF,zG,zH,zI];exact⟨aw (by omega) (by omega),back _ (z+1) (by refine⟨?_,?_,rfl,rfl⟩<;>repeat' (first|exact trivial|exact Or.inl rfl|exact Or.inr rfl|apply bw|apply bx|apply bz|apply bD|exact⟨(by show(_:Nat)<1000000000;omega),rfl,rfl⟩|rfl|(refine And.intro (Or.inl ?_) ?_)|(refine And.intro ?_ ?_))) (by omega) (by omega)⟩);·simp only[go_sem,zA,↓reduceIte,↓reduceDIte,zB,zC,zD,zE,zF,zG,zH,zI];refine⟨_,yb (z:Int) hz8,fun _=>?_⟩;refine⟨_,_,_,_,I8 (n,a,rs) hs (z:Int) (rN (z:Int)) hz8 (oK hz8),fun r hr=>?_⟩;(have hr0:r=[]:=by by_cases e:r=[];(·exact e);·obtain⟨to,h1,h2,h3,h4⟩:=hr e;rw[yV _ _ hz8.1 h1]at h3;rw[←of_decide_eq_true h3]at h4;exact absurd h4 (LO _));subst hr0;refine⟨rfl,fun _ _=>?_⟩;simp only[Vm];simp only[go_sem,zA,↓reduceIte,↓reduceDIte,zB,zC,zD,zE,zF,zG,zH,zI];exact⟨aw (by omega) (by omega),back _ (z+1) (by refine⟨?_,?_,rfl,rfl⟩<;>repeat' (first|exact trivial|exact Or.inl rfl|exact Or.inr rfl|apply bw|apply bx|apply bz|apply bD|exact⟨(by show(_:Nat)<1000000000;omega),rfl,rfl⟩|rfl|(refine And.intro (Or.inl ?_) ?_)|(refine And.intro ?_ ?_))) (by omega) (by omega)⟩)
 ·trivial
def qJ(s:db):Int:=if(eX s).2≠0 then 20 else if hasB (kD s) 0=false then 50 else if((iU s).toNat &&& (2^8-1-(kD s).toNat):Nat)≠0 then 40 else 0
theorem au7(s:db)(LO: ∀m,¬Pu s.2.2 cw m m):PC env 110 [⟨al,s⟩] (.int .i64) (qJ s):=by
 obtain⟨n,a,rs⟩:=s;refine PC.ay (m:=2000) ae aZ7 rfl rfl rfl rfl (by kernel_rfl) ?_;intro hx;simp only[Tryz.f110];simp only[go_sem,zA,↓reduceIte,↓reduceDIte,zB,zC,zD,zE,zF,zG,zH,zI]
 refine⟨_,(MI _).dec,?_⟩;by_cases hc:(eX (n,a,rs)).2=0;(·have hs:=Ux hc;have hr:=xg hs;have hl:=BJ hs;have hR:=BK _ hs;have hL:=Nf _ hs;have hE:=Pv _ hs LO;(have hT:qJ (n,a,rs)=if hasB (kD (n,a,rs)) 0=false then 50 else if((iU (n,a,rs)).toNat &&& (2^8-1-(kD (n,a,rs)).toNat):Nat)≠0 then 40 else 0:=by unfold qJ;rw[hc];simp);rw[hT];clear hT;simp only[hc,decide_true,Bool.not_true];simp only[go_sem,zA,↓reduceIte,↓reduceDIte,zB,zC,zD,zE,zF,zG,zH,zI];refine⟨_,hL,fun _=>⟨_,yc _ 0 hl ⟨by decide,by decide⟩,?_⟩⟩;generalize iU (n,a,rs)=R at*;generalize kD (n,a,rs)=Lv at*;cases hb:hasB Lv 0;(·simp only[go_sem,zA,↓reduceIte,↓reduceDIte,zB,zC,zD,zE,zF,zG,zH,zI]);·simp only[go_sem,zA,↓reduceIte,↓reduceDIte,zB,zC,zD,zE,zF,zG,zH,zI];refine⟨_,hR,fun _=>⟨_,hL,fun _=>⟨hl.1,fun g=>?_,fun g=>?_⟩⟩⟩;(·have g: ¬(R.toNat &&& 2^8-1-Lv.toNat:Nat)=0:=fun e=>g (by rw[e];rfl);rw[if_neg (by decide),if_pos g]);·(have g:(R.toNat &&& 2^8-1-Lv.toNat:Nat)=0:=by omega);refine⟨_,_,hE,rfl,?_⟩;simp only[g];intro _ _;simp only[go_sem,zA,↓reduceIte,↓reduceDIte,zB,zC,zD,zE,zF,zG,zH,zI];rfl)
 ·(have hT:qJ (n,a,rs)=20:=by unfold qJ;rw[if_pos hc]);rw[hT];simp only[hc,decide_false,Bool.not_false];simp only[go_sem,zA,↓reduceIte,↓reduceDIte,zB,zC,zD,zE,zF,zG,zH,zI];exact⟨fun _=>trivial,fun h=>by cases h⟩
end Go.Proofs.YtgpkijnphchkpaaGreat
namespace Go.Proofs.YtgpkijnphchkpaaGreat
set_option maxHeartbeats 1000000
theorem qK {f:Int→Rl→Int} {I:Int→Prop} : ∀ {rs:List Rl} {l:Int},(∀r,r∈rs→ ∀l,I l→I (f l r))→I l→I (rs.foldl f l)|[],_,_,h=>h|r::rs,l,hf,h=>qK (rs:=rs) (fun x hx=>hf x (List.mem_cons_of_mem _ hx)) (hf r (List.mem_cons_self ..) l h)
theorem BL {f:Int→Rl→Int} {I:Int→Prop} {rs:List Rl} (hf: ∀r,r∈rs→ ∀l,I l→I (f l r)): ∀ {n:Nat} {l:Int},I l→I (lW f rs n l)|0,_,h=>h|n+1,_,h=>BL hf (n:=n) (qK hf h)
theorem rF {n k:Int} (hk:0≤k) {r:Rl} (hr:okM n r) {l:Int} (h:hasB l k=true):hasB (pa l r) k=true:=by unfold pa;split;(·rw[oL _ _ _ hr.1 hk,h];rfl);·exact h
theorem au8 {n:Int} {rs:List Rl} (Mc: ∀r,r∈rs→okM n r) {r:Rl} (hr:r∈rs) {l:Int} (h:hasB l r.2.1=true):hasB (rs.foldl pa l) r.1=true:=by
 obtain⟨a,b,rfl⟩:=List.append_of_mem hr;rw[List.foldl_append,List.foldl_cons];have h0:=Mc r hr;have h1:hasB (a.foldl pa l) r.2.1=true:=qK (I:=fun l=>hasB l r.2.1=true) (fun x hx l hl=>rF h0.2.2.1 (Mc x (List.mem_append_left _ hx)) hl) h
 refine qK (I:=fun l=>hasB l r.1=true) (fun x hx l hl=>rF h0.1 (Mc x (List.mem_append_right _ (List.mem_cons_of_mem _ hx))) hl) ?_;generalize a.foldl pa l=y at h1⊢
 unfold pa;rw[if_pos h1,oL _ _ _ h0.1 h0.1];simp
theorem Lp {s:db} (hs:iB s)(ha:hasB s.2.1 0=true)(hb: ∀m,0<m→m<s.1→ ∃r,r∈s.2.2∧r.1=m∧r.2.1=0):qJ s=0:=by
 have hM:=hs.ya;have hn1:=hs.n1;have VV:=hs.n8;(have hn:s.1.toNat=(s.1.toNat-1)+1:=by omega);(have hL: ∀m,0≤m→m<s.1→hasB (kD s) m=true:=fun m h0 h1=>by unfold kD;rw[hn];unfold lW;refine BL (I:=fun l=>hasB l m=true) (fun x hx l hl=>rF h0 (hM x hx) hl) ?_;by_cases e:m=0;(·subst e;exact qK (I:=fun l=>hasB l 0=true) (fun x hx l hl=>rF (Int.le_refl _) (hM x hx) hl) ha);·obtain⟨r,hr,e1,e2⟩:=hb m (by omega) h1;rw[←e1];exact au8 hM hr (by rw[e2];exact ha))
 (have hR: ∀m,0≤m→hasB (iU s) m=true→m<s.1:=by refine BL (I:=fun l=> ∀m,0≤m→hasB l m=true→m<s.1) (fun r hr l hl m h0 hm=>?_) (fun m h0 hm=>?_);(·unfold xe at hm;split at hm;(·rw[oL _ _ _ (hM r hr).2.2.1 h0,Bool.or_eq_true]at hm;rcases hm with hm|hm;(·exact hl m h0 hm);·rw[←of_decide_eq_true hm];exact(hM r hr).2.2.2);·exact hl m h0 hm);·have h1:=yV 0 m (Int.le_refl _) h0;have e:rN 0=1:=rfl;rw[e,hm]at h1;have:=of_decide_eq_true h1.symm;omega)
 unfold qJ;have hd:=Vk (xg hs) (BJ hs) (fun m h0 h8 hm=>hL m h0 (hR m h0 hm));(have vD:((iU s).toNat &&& (2^8-1-(kD s).toNat):Nat)=0:=by omega);rw[if_neg (by rw[Bc hs];simp),if_neg (by rw[hL 0 (Int.le_refl _) (by omega)];simp),if_neg (by rw[vD];simp)]
theorem FZ {rs:List Rl} {h:Int→Nat} (hr: ∀r,r∈rs→cw r=true→h r.1<h r.2.1)(m:Int): ¬Pu rs cw m m:=by
 (have key: ∀a b,Pu rs cw a b→h a<h b:=fun a b hc=>by induction hc with|one hm hs=>exact hr _ hm hs|snoc _ hm hs ih=>exact Nat.lt_trans ih (hr _ hm hs));exact fun hc=>Nat.lt_irrefl _ (key m m hc)
end Go.Proofs.YtgpkijnphchkpaaGreat
namespace Go.Proofs.YtgpkijnphchkpaaGreat
set_option maxHeartbeats 1000000
def Ng(m:Int):Nat:=if m=1 then 1 else 0
theorem Pw(x:Cy):(fK x).1≤2:=by show(bL x.1).1≤2;have:=(ry x.1).1;omega
theorem BM(x:Cy): ∀r,r∈(fK x).2.2→cw r=true→Ng r.1<Ng r.2.1:=by
 intro r hr hs;have h1:=(List.mem_filter.1 hr).2;have h2:=Pw x;have h3:=(BC x).1.ya r hr;unfold jT at h1;have h4:=of_decide_eq_true h1;unfold cw at hs;obtain⟨a,b,c,d⟩:=h3
 (have h5:r.1<r.2.1:=by rcases h4 with h4|h4;(·exact absurd (by simpa using hs) h4);·exact h4);unfold Ng;rw[if_neg (by omega),if_pos (by omega)];decide
theorem yd(n:Int) {r:Rl} : ∀(xs:List xL)(out:List Rl),r∈out→r∈eD n xs out|[],_,h=>h|y::ys,out,h=>yd n ys _ (by unfold iw;split;(·exact List.mem_append_left _ h);·exact h)
theorem Px(k:Int)(m:Int)(h0:0<m)(h1:m<(bL k).1): ∃r,r∈(bL k).2.2.drop 1∧r.1=m∧r.2.1=0∧r.2.2.1≠ []:=by
 unfold bL at h1⊢;split at h1;(·dsimp only at h1;omega);split at h1;(·dsimp only at h1;omega);split at h1;(·rename_i g1 g2 g3;rw[if_neg g1,if_neg g2,if_pos g3];dsimp only at h1;(have e:m=1:=by omega);subst e;exact⟨bB (1,0) [97] [65],by simp,rfl,rfl,by simp[bB]⟩)
 split at h1;(·dsimp only at h1;omega);split at h1;(·dsimp only at h1;omega);·dsimp only at h1;omega
theorem Ja(x:Cy):qJ (fK x)=0:=by
 refine Lp (BC x).1 ?_ fun m h0 h1=>?_;(·have:(fK x).2.1=1:=(ry x.1).2.1;rw[this];rfl);·obtain⟨r,hr,e1,e2,e3⟩:=Px x.1 m h0 h1;refine⟨r,List.mem_filter.2 ⟨yd _ _ _ ?_,?_⟩,e1,e2⟩;(·(have hd:x.2.1%2=0∨x.2.1%2=1:=by omega);rcases hd with h|h<;>rw[h];(·exact List.mem_of_mem_drop hr);·exact hr);·unfold jT;exact decide_eq_true (.inl e3)
end Go.Proofs.YtgpkijnphchkpaaGreat
namespace Go.Proofs.YtgpkijnphchkpaaGreat.Op
set_option maxHeartbeats 1000000
structure Wk(K:Type)where
 eq:K→K→Bool
 rs:List Rl
 mode:K→Int
 step:K→Rl→K×Bool
variable {K:Type} (W:Wk K)
def Wk.jV(M:List (K×Int))(k:K)(c:Int):Bool:=match aL W.eq M k with|some kg=>decide (c<kg)|none=>true
def Wk.gb(M:List (K×Int))(k:K)(c:Int):List (K×Int):=match aL W.eq M k with|some kg=>if c<kg then cT W.eq M k c else M|none=>cT W.eq M k c
structure Wk.Ok(h:Int→Nat):Prop where
 he: ∀x y,W.eq x y=true↔x=y
 to: ∀k r k',r∈W.rs→r.1=W.mode k→W.step k r=(k',true)→W.mode k'=r.2.1
 top: ∀m,h m≤8
variable {W} {h:Int→Nat} {M:List (K×Int)} {k k':K} {c:Int}
theorem Wk.Ok.qL(hb:W.jV M k c=false):W.gb M k c=M:=by
 unfold Wk.gb;unfold Wk.jV at hb;cases hf:aL W.eq M k with|none=>rw[hf]at hb;cases hb|some kg=>rw[hf]at hb;dsimp only at hb⊢;rw[if_neg (by simpa using hb)]
theorem Wk.Ok.F0(hb:W.jV M k c=true):W.gb M k c=cT W.eq M k c:=by
 unfold Wk.gb;unfold Wk.jV at hb;cases hf:aL W.eq M k with|none=>rfl|some kg=>rw[hf]at hb;dsimp only at hb⊢;rw[if_pos (by simpa using hb)]
theorem Wk.Ok.qM(hW:W.Ok h)(hb:W.jV M k c=true):aL W.eq (W.gb M k c) k=some c:=by rw[Wk.Ok.F0 hb,jD hW.he]
theorem Wk.Ok.jG(hW:W.Ok h) {k1:K} (bY:k1≠k):aL W.eq (W.gb M k c) k1=aL W.eq M k1:=by cases hb:W.jV M k c;(·rw[Wk.Ok.qL hb]);·rw[Wk.Ok.F0 hb,jS hW.he _ bY]
theorem Wk.Ok.Nh(hb:W.jV M k c=true) {kg:Int} (hf:aL W.eq M k=some kg):c<kg:=by unfold Wk.jV at hb;rw[hf]at hb;exact of_decide_eq_true hb
theorem Wk.Ok.Vo(hb:W.jV M k c=false): ∃kg,kg≤c∧aL W.eq M k=some kg:=by
 unfold Wk.jV at hb;cases hf:aL W.eq M k with|none=>rw[hf]at hb;cases hb|some kg=>rw[hf]at hb;have hb:=of_decide_eq_false hb;exact⟨kg,by omega,rfl⟩
theorem Wk.Ok.BN(hW:W.Ok h) {k1:K} {c1:Int} (h1:aL W.eq M k1=some c1): ∃c2,c2≤c1∧aL W.eq (W.gb M k c) k1=some c2:=by
 cases hb:W.jV M k c;(·rw[Wk.Ok.qL hb];exact⟨c1,Int.le_refl _,h1⟩);·by_cases e:k1=k;(·subst e;have:=Wk.Ok.Nh hb h1;exact⟨c,by omega,hW.qM hb⟩);·rw[hW.jG e];exact⟨c1,Int.le_refl _,h1⟩
theorem Wk.Ok.F6(hW:W.Ok h): ∃c2,c2≤c∧aL W.eq (W.gb M k c) k=some c2:=by cases hb:W.jV M k c;(·rw[Wk.Ok.qL hb];exact Wk.Ok.Vo hb);·exact⟨c,Int.le_refl _,hW.qM hb⟩
theorem Wk.Ok.qN(hW:W.Ok h)(hn:(M.map (·.1)).Nodup):((W.gb M k c).map (·.1)).Nodup:=by unfold Wk.gb;split;(·split;(·exact oJ hW.he hn);·exact hn);·exact oJ hW.he hn
theorem Wk.Ok.Ni(hW:W.Ok h):M.length≤(W.gb M k c).length∧(W.gb M k c).length≤M.length+1:=by
 (have key:M.length≤(cT W.eq M k c).length:=by rcases lP hW.he k c M with⟨_,e⟩|⟨_,e⟩;(·have:=congrArg List.length e;simp at this;omega);·have:=congrArg List.length e;simp at this;omega)
 have:=nB hW.he k c M;unfold Wk.gb;split;(·split<;>omega);·omega
def xj:List (K×Int)→Nat|[]=>0|p::r=>p.2.toNat+xj r
theorem D8(hW:W.Ok h) {kg:Int} (hc:0≤c∧c<kg): ∀ {M:List (K×Int)},aL W.eq M k=some kg→xj (cT W.eq M k c)+1≤xj M∧(cT W.eq M k c).length=M.length|[],hf=>(by cases hf)|p::M,hf=>by simp only[aL]at hf;simp only[cT];cases hq:W.eq k p.1;(·rw[hq]at hf;simp only[cond_false]at hf⊢;obtain⟨h1,h2⟩:=D8 hW hc (M:=M) hf;simp only[xj,List.length_cons];omega);·rw[hq]at hf;simp only[cond_true,Option.some.injEq]at hf⊢;simp only[xj,List.length_cons];have hf:p.2=kg:=hf;refine⟨?_,trivial⟩;(have h1:c.toNat<p.2.toNat:=by omega);omega
theorem sd {W:Wk K} (hc:0≤c): ∀ {M:List (K×Int)},aL W.eq M k=none→xj (cT W.eq M k c)=xj M+c.toNat∧(cT W.eq M k c).length=M.length+1|[],_=>(by simp[cT,xj])|p::M,hf=>by simp only[aL]at hf;simp only[cT];cases hq:W.eq k p.1;(·rw[hq]at hf;simp only[cond_false]at hf⊢;obtain⟨h1,h2⟩:=sd hc (M:=M) hf;simp only[xj,List.length_cons];omega);·rw[hq]at hf;simp only[cond_true,reduceCtorEq]at hf
def B0(N C:Nat)(M:List (K×Int)):Nat:=(N-M.length)*(C+1)+xj M
theorem Wk.Ok.au9(hW:W.Ok h) {N C:Nat} (hN:M.length<N)(hc:0≤c∧c≤C)(hb:W.jV M k c=true):B0 N C (W.gb M k c)+1≤B0 N C M:=by
 rw[Wk.Ok.F0 hb];unfold B0;cases hf:aL W.eq M k with|none=>obtain⟨h1,h2⟩:=sd (W:=W) hc.1 hf;rw[h1,h2];obtain⟨d,hd⟩: ∃d,N=M.length+1+d:=⟨N-(M.length+1),by omega⟩;subst hd;rw[show M.length+1+d-(M.length+1)=d from by omega,show M.length+1+d-M.length=d+1 from by omega,Nat.add_mul];omega|some kg=>have dh:=Wk.Ok.Nh hb hf;obtain⟨h1,h2⟩:=D8 hW ⟨hc.1,dh⟩ hf;rw[h2];omega
def Wk.eY(W:Wk K)(M:List (K×Int))(k:K)(l:List Rl):Prop:= ∀r,r∈l→cw r=true→r.1=W.mode k→ ∀k',W.step k r=(k',true)→ ∀c,aL W.eq M k=some c→ ∃c',c'≤c+r.2.2.2.2∧aL W.eq M k'=some c'
theorem Wk.Ok.Nj(hW:W.Ok h) {l:List Rl} {k1:K} (bY:k1≠k)(hc:W.eY M k1 l):W.eY (W.gb M k c) k1 l:=by
 intro r hr hs hm k2 di c1 h1;rw[hW.jG bY]at h1;obtain⟨c2,h2,h3⟩:=hc r hr hs hm k2 di c1 h1;obtain⟨c4,h4,h5⟩:=hW.BN (k:=k) (c:=c) h3;exact⟨c4,by omega,h5⟩
structure Wk.Place(W:Wk K)(h:Int→Nat)(B:Nat)(G:K→Int→Prop):Prop where
 go: ∀k c r k',G k c→r∈W.rs→cw r=true→r.1=W.mode k→W.step k r=(k',true)→G k' (c+r.2.2.2.2)
 kT: ∀k c,G k c→0≤c∧c≤(B:Int)+1000*(h (W.mode k):Int)
 up: ∀k c r,G k c→r∈W.rs→cw r=true→r.1=W.mode k→h (W.mode k)<h r.2.1
structure Wk.SI(W:Wk K)(G:K→Int→Prop)(M0:List (K×Int))(most:Nat)(todo:List K)(j:Nat)(P:Nat)(C:Nat)(M:List (K×Int))(news:List K):Prop where
 once:(M.map (·.1)).Nodup
 len:M.length≤most
 gC: ∀k c,aL W.eq M k=some c→G k c
 cover: ∀k c,aL W.eq M0 k=some c→ ∃c',c'≤c∧aL W.eq M k=some c'
 td: ∀k,k∈todo→ ∃c,aL W.eq M k=some c
 nw: ∀k,k∈news→ ∃c,aL W.eq M k=some c
 Vp: ∀k c,aL W.eq M k=some c→k∈todo.drop j∨k∈news∨W.eY M k W.rs
 low:B0 (most+1) C M+news.length≤P
structure Wk.av0(W:Wk K)(G:K→Int→Prop)(M0:List (K×Int))(most:Nat)(r:Bool×List (K×Int)):Prop where
 ok:r.1=decide (r.2.length≤most)
 sj:r.2.length≤most+1
 once:(r.2.map (·.1)).Nodup
 gC: ∀k c,aL W.eq r.2 k=some c→G k c
 cover: ∀k c,aL W.eq M0 k=some c→ ∃c',c'≤c∧aL W.eq r.2 k=some c'
 shut:r.1=true→ ∀k c,aL W.eq r.2 k=some c→W.eY r.2 k W.rs
variable {G:K→Int→Prop} {M0:List (K×Int)} {most j P C B:Nat} {todo news:List K}
theorem Nk {C:Nat} : ∀ {M:List (K×Int)},(∀p,p∈M→p.2≤(C:Int))→xj M≤M.length*C|[],_=>Nat.zero_le _|p::M,h=>by have h1:=h p (List.mem_cons_self ..);have h2:=Nk (C:=C) (M:=M) fun q hq=>h q (List.mem_cons_of_mem _ hq);simp only[xj,List.length_cons,Nat.add_mul,Nat.one_mul];omega
theorem Wk.SI.FB(hW:W.Ok h)(hG:W.Place h B G)(hC:B+8000≤C)(hI:W.SI G M0 most todo j P C M news):B0 (most+1) C M≤(most+1)*(C+1):=by
 (have h1:xj M≤M.length*C:=Nk fun p hp=>by have:=hG.kT p.1 p.2 (hI.gC p.1 p.2 ((gr hW.he hI.once).1 hp));have:=hW.top (W.mode p.1);omega);have h2:=hI.len;unfold B0
 obtain⟨d,hd⟩: ∃d,most+1=M.length+d:=⟨most+1-M.length,by omega⟩;rw[hd,show M.length+d-M.length=d from by omega,Nat.add_mul M.length d,Nat.mul_add M.length C 1];omega
theorem Wk.SI.rel(hW:W.Ok h)(hG:W.Place h B G)(hC:B+8000≤C)(hI:W.SI G M0 most todo j P C M news) {r:Rl} {c:Int} (hj:todo[j]?=some k)(hk:aL W.eq M k=some c)(hr:r∈W.rs)(hs:cw r=true)(hm:r.1=W.mode k)(di:W.step k r=(k',true)) {l:List Rl} (eZ:W.eY M k l):((W.gb M k' (c+r.2.2.2.2)).length≤most→W.SI G M0 most todo j P C (W.gb M k' (c+r.2.2.2.2)) (if W.jV M k' (c+r.2.2.2.2)=true then news++ [k']else news))∧W.eY (W.gb M k' (c+r.2.2.2.2)) k (l++ [r])∧(most<(W.gb M k' (c+r.2.2.2.2)).length→W.av0 G M0 most (false,W.gb M k' (c+r.2.2.2.2))):=by
 (have bY:k≠k':=by rintro rfl;have:=hW.to _ _ _ hr hm di;have h2:=hG.up k c r (hI.gC k c hk) hr hs hm;rw[←this]at h2;omega);have zy:=hI.gC k c hk;have av1:=hG.go k c r k' zy hr hs hm di
 have by9:=hG.kT k' _ av1;have CG:=hW.top (W.mode k');have hlen:=hW.Ni (M:=M) (k:=k') (c:=c+r.2.2.2.2);(have se: ∀k1 c1,aL W.eq (W.gb M k' (c+r.2.2.2.2)) k1=some c1→G k1 c1:=by intro k1 c1 h1;cases hb:W.jV M k' (c+r.2.2.2.2);(·rw[Wk.Ok.qL hb]at h1;exact hI.gC k1 c1 h1);·by_cases e:k1=k';(·subst e;rw[hW.qM hb]at h1;injection h1 with h1;rw[←h1];exact av1);·rw[hW.jG e]at h1;exact hI.gC k1 c1 h1)
 (have Vq: ∀k1 c1,aL W.eq M0 k1=some c1→ ∃c',c'≤c1∧aL W.eq (W.gb M k' (c+r.2.2.2.2)) k1=some c':=by intro k1 c1 h1;obtain⟨c2,h2,h3⟩:=hI.cover k1 c1 h1;obtain⟨c4,h4,h5⟩:=hW.BN (k:=k') (c:=c+r.2.2.2.2) h3;exact⟨c4,by omega,h5⟩)
 refine⟨fun hle=>?_,?_,fun VH=>?_⟩;(·refine⟨hW.qN hI.once,hle,se,Vq,fun k1 h1=>?_,fun k1 h1=>?_,fun k1 c1 h1=>?_,?_⟩;(·obtain⟨c1,h2⟩:=hI.td k1 h1;obtain⟨c4,_,h5⟩:=hW.BN (k:=k') (c:=c+r.2.2.2.2) h2;exact⟨c4,h5⟩);(·(have hk1:k1∈news∨k1=k':=by split at h1;(·rcases List.mem_append.1 h1 with h|h;(·exact .inl h);·exact .inr (List.mem_singleton.1 h));·exact .inl h1);rcases hk1 with h2|rfl;(·obtain⟨c1,h2⟩:=hI.nw k1 h2;obtain⟨c4,_,h5⟩:=hW.BN (k:=k') (c:=c+r.2.2.2.2) h2;exact⟨c4,h5⟩);·obtain⟨c4,_,h5⟩:=hW.F6 (M:=M) (k:=k1) (c:=c+r.2.2.2.2);exact⟨c4,h5⟩);(·by_cases hb:W.jV M k' (c+r.2.2.2.2)=true;(·rw[if_pos hb];by_cases e:k1=k';(·exact .inr (.inl (List.mem_append.2 (.inr (List.mem_singleton.2 e)))));·rw[hW.jG e]at h1;rcases hI.Vp k1 c1 h1 with h2|h2|h2;(·exact .inl h2);(·exact .inr (.inl (List.mem_append.2 (.inl h2))));·exact .inr (.inr (hW.Nj e h2)));·(have jl:W.jV M k' (c+r.2.2.2.2)=false:=by simpa using hb);rw[if_neg hb,Wk.Ok.qL jl]at*;exact hI.Vp k1 c1 h1);·have Lq:=hI.low;by_cases hb:W.jV M k' (c+r.2.2.2.2)=true;(·rw[if_pos hb,List.length_append];have:=hW.au9 (N:=most+1) (C:=C) (by have:=hI.len;omega) ⟨by9.1,by omega⟩ hb;simp only[List.length_cons,List.length_nil];omega);·(have jl:W.jV M k' (c+r.2.2.2.2)=false:=by simpa using hb);rw[if_neg hb,Wk.Ok.qL jl];exact Lq)
 (·intro r2 oQ vE hm2 k2 lZ c2 h2;rcases List.mem_append.1 oQ with oQ|oQ;(·exact hW.Nj bY eZ r2 oQ vE hm2 k2 lZ c2 h2);·rw[List.mem_singleton]at oQ;subst oQ;rw[di]at lZ;injection lZ with e _;subst e;rw[hW.jG bY,hk]at h2;injection h2 with h2;subst h2;exact hW.F6)
 ·exact⟨by simp;omega,by have:=hI.len;dsimp only;omega,hW.qN hI.once,se,Vq,fun e=>by cases e⟩
theorem Wk.SI.next(hI:W.SI G M0 most todo j P C M news)(hj:todo[j]?=some k)(eZ:W.eY M k W.rs):W.SI G M0 most todo (j+1) P C M news:=by
 refine⟨hI.once,hI.len,hI.gC,hI.cover,hI.td,hI.nw,fun k1 c1 h1=>?_,hI.low⟩;rcases hI.Vp k1 c1 h1 with h2|h2|h2;(·have dh:j<todo.length:=(List.getElem?_eq_some_iff.1 hj).1;rw[List.drop_eq_getElem_cons dh]at h2;rcases List.mem_cons.1 h2 with h2|h2;(·have e:todo[j]=k:=(List.getElem?_eq_some_iff.1 hj).2;rw[h2,e];exact .inr (.inr eZ));·exact .inl h2)
 (·exact .inr (.inl h2));·exact .inr (.inr h2)
theorem Wk.SI.zo(hI:W.SI G M0 most todo j P C M news)(hj:todo.length≤j):W.SI G M0 most news 0 (B0 (most+1) C M) C M []:=by
 refine⟨hI.once,hI.len,hI.gC,hI.cover,hI.nw,fun k hk=>(List.not_mem_nil hk).elim,fun k1 c1 h1=>?_,by simp⟩;rcases hI.Vp k1 c1 h1 with h2|h2|h2;(·rw[List.drop_of_length_le hj]at h2;exact(List.not_mem_nil h2).elim)
 (·exact .inl h2);·exact .inr (.inr h2)
theorem Wk.SI.done(hI:W.SI G M0 most [] 0 P C M []):W.av0 G M0 most (true,M):=by
 refine⟨by have:=hI.len;simp[this],by have:=hI.len;dsimp only;omega,hI.once,hI.gC,hI.cover,fun _ k1 c1 h1=>?_⟩;rcases hI.Vp k1 c1 h1 with h2|h2|h2;(·simp at h2)
 (·simp at h2);·exact h2
end Go.Proofs.YtgpkijnphchkpaaGreat.Op
namespace Go.Proofs.YtgpkijnphchkpaaGreat.Op
set_option maxHeartbeats 1000000
variable {K:Type}
inductive Rt(W:Wk K)(inp:aI)(k0:K):Nat→K→Int→Prop|start:Rt W inp k0 0 k0 0|sil {p:Nat} {k:K} {c:Int} {r:Rl} {k':K} :Rt W inp k0 p k c→r∈W.rs→cw r=true→r.1=W.mode k→W.step k r=(k',true)→Rt W inp k0 p k' (c+r.2.2.2.2)|take {p:Nat} {k:K} {c:Int} {r:Rl} {k':K} :Rt W inp k0 p k c→r∈W.rs→cw r=false→r.1=W.mode k→r.2.2.1.isPrefixOf (inp.drop p)=true→W.step k r=(k',true)→Rt W inp k0 (p+r.2.2.1.length) k' (c+r.2.2.2.2)
def Arr(W:Wk K)(inp:aI)(k0:K)(i p:Nat)(k:K)(c:Int):Prop:=(p=0∧k=k0∧c=0)∨ ∃(p1:Nat)(k1:K)(c1:Int)(r:Rl),p1<i∧Rt W inp k0 p1 k1 c1∧r∈W.rs∧cw r=false∧r.1=W.mode k1∧r.2.2.1.isPrefixOf (inp.drop p1)=true∧W.step k1 r=(k,true)∧p=p1+r.2.2.1.length∧c=c1+r.2.2.2.2
def BO(W:Wk K)(M:List (K×Int))(k:K)(c:Int):Prop:= ∃c',c'≤c∧aL W.eq M k=some c'
variable {W:Wk K} {inp:aI} {k0:K} {h:Int→Nat} {G:K→Int→Prop} {most B:Nat}
theorem BO.le {M:List (K×Int)} {k:K} {c c':Int} (hd:BO W M k c)(hc:c≤c'):BO W M k c':=by obtain⟨c1,h1,h2⟩:=hd;exact⟨c1,by omega,h2⟩
theorem BO.rel(hW:W.Ok h) {M:List (K×Int)} {k k':K} {c c':Int} (hd:BO W M k c):BO W (W.gb M k' c') k c:=by
 obtain⟨c1,h1,h2⟩:=hd;obtain⟨c2,h3,h4⟩:=hW.BN (k:=k') (c:=c') h2;exact⟨c2,by omega,h4⟩
theorem yX {r:Rl} (h:cw r=false):0<r.2.2.1.length:=by unfold cw at h;cases hi:r.2.2.1 with|nil=>rw[hi]at h;simp at h|cons a l=>simp
theorem Jb(hW:W.Ok h) {P:K→Int→Prop} {M:List (K×Int)} {k':K} {c':Int} (hM: ∀k c,aL W.eq M k=some c→P k c)(hP:P k' c'): ∀k c,aL W.eq (W.gb M k' c') k=some c→P k c:=by
 intro k c hk;cases hb:W.jV M k' c';(·rw[Wk.Ok.qL hb]at hk;exact hM k c hk);·by_cases e2:k=k';(·subst e2;rw[hW.qM hb]at hk;injection hk with hk;rw[←hk];exact hP);·rw[hW.jG e2]at hk;exact hM k c hk
theorem settled {i:Nat} {M M':List (K×Int)} (jq: ∀k c,Arr W inp k0 i i k c→BO W M k c)(hS:W.av0 G M most (true,M')): ∀k c,Rt W inp k0 i k c→BO W M' k c:=by
 (have key: ∀p k c,Rt W inp k0 p k c→p=i→BO W M' k c:=by intro p k c hR;(have cov: ∀k c,BO W M k c→BO W M' k c:=fun k c hd=>by obtain⟨c1,h1,h2⟩:=hd;obtain⟨c2,h3,h4⟩:=hS.cover k c1 h2;exact⟨c2,by omega,h4⟩);induction hR with|start=>intro e;subst e;exact cov _ _ (jq _ _ (.inl ⟨rfl,rfl,rfl⟩))| @sil p k c r k' hR hr hs hm di ih=>intro e;obtain⟨c1,h1,h2⟩:=ih e;obtain⟨c2,h3,h4⟩:=hS.shut rfl k c1 h2 r hr hs hm k' di c1 h2;exact⟨c2,by omega,h4⟩| @take p k c r k' hR hr hs hm hp di ih=>intro e;have:=yX hs;exact cov _ _ (jq _ _ (.inr ⟨p,k,c,r,by omega,hR,hr,hs,hm,hp,di,e.symm,rfl⟩)))
 exact fun k c hR=>key i k c hR rfl
structure Good(W:Wk K)(inp:aI)(k0:K)(h:Int→Nat)(G:Nat→K→Int→Prop):Prop where
 start:G 0 k0 0
 place: ∀p,W.Place h (9000*p) (G p)
 take: ∀p k c r k',G p k c→r∈W.rs→cw r=false→r.1=W.mode k→r.2.2.1.isPrefixOf (inp.drop p)=true→W.step k r=(k',true)→G (p+r.2.2.1.length) k' (c+r.2.2.2.2)
def Few(W:Wk K)(inp:aI)(k0:K)(most p:Nat):Prop:= ∀L:List K,L.Nodup→(∀k,k∈L→ ∃c,Rt W inp k0 p k c)→L.length≤most
theorem sg {α:Type} : ∀(l m:List α),l.Nodup→(∀x,x∈l→x∈m)→l.length≤m.length|[],_,_,_=>Nat.zero_le _|x::l,m,hn,h=>by obtain⟨a,b,rfl⟩:=List.append_of_mem (h x (List.mem_cons_self ..));(have:=sg l (a++b) (List.nodup_cons.1 hn).2 fun y hy=>by have h1:=h y (List.mem_cons_of_mem _ hy);have bY:y≠x:=fun e=>(List.nodup_cons.1 hn).1 (e▸hy);simp only[List.mem_append,List.mem_cons]at h1⊢;rcases h1 with h1|h1|h1;(·exact .inl h1);(·exact absurd h1 bY);·exact .inr h1);simp only[List.length_append,List.length_cons]at this⊢;omega
theorem a79 {M':List (K×Int)} {p:Nat} (he: ∀x y,W.eq x y=true↔x=y)(hl:M'.length≤most)(hd: ∀k c,Rt W inp k0 p k c→BO W M' k c):Few W inp k0 most p:=by
 intro L hn hL;(have:=sg L (M'.map (·.1)) hn fun k hk=>by obtain⟨c,hR⟩:=hL k hk;obtain⟨c',_,hf⟩:=hd k c hR;exact List.mem_map.2 ⟨(k,c'),kQ he hf,rfl⟩);rw[List.length_map]at this
 omega
structure RI(W:Wk K)(inp:aI)(k0:K)(G:Nat→K→Int→Prop)(most i:Nat)(m:Int→List (K×Int))(l:List Int):Prop where
 nodup:l.Nodup
 kT: ∀p,p∈l→(i:Int)≤p∧p≤(inp.length:Int)
 once: ∀p,p∈l→((m p).map (·.1)).Nodup
 len: ∀p,p∈l→(m p).length≤most
 gC: ∀p,p∈l→ ∀k c,aL W.eq (m p) k=some c→G p.toNat k c
 arr: ∀p:Nat,i≤p→ ∀k c,Arr W inp k0 i p k c→(p:Int)∈l∧BO W (m (p:Int)) k c
 sj: ∀p,p<i→Few W inp k0 most p
def Fits(W:Wk K)(inp:aI)(i:Nat)(k:K)(r:Rl)(p:Nat)(k':K):Prop:=cw r=false∧r.1=W.mode k∧r.2.2.1.isPrefixOf (inp.drop i)=true∧W.step k r=(k',true)∧p=i+r.2.2.1.length
structure RJ(W:Wk K)(inp:aI)(k0:K)(G:Nat→K→Int→Prop)(most i:Nat)(Mi:List (K×Int))(seen:List Nat)(kc:K×Int)(done:List Rl)(m:Int→List (K×Int))(l:List Int):Prop where
 nodup:l.Nodup
 kT: ∀p,p∈l→(i:Int)<p∧p≤(inp.length:Int)
 once: ∀p,p∈l→((m p).map (·.1)).Nodup
 len: ∀p,p∈l→(m p).length≤most
 gC: ∀p,p∈l→ ∀k c,aL W.eq (m p) k=some c→G p.toNat k c
 arr: ∀p:Nat,i<p→ ∀k c,Arr W inp k0 i p k c→(p:Int)∈l∧BO W (m (p:Int)) k c
 kg: ∀j,j∈seen→ ∀e,Mi[j]?=some e→ ∀r,r∈W.rs→ ∀p k',Fits W inp i e.1 r p k'→(p:Int)∈l∧BO W (m (p:Int)) k' (e.2+r.2.2.2.2)
 cur: ∀r,r∈done→ ∀p k',Fits W inp i kc.1 r p k'→(p:Int)∈l∧BO W (m (p:Int)) k' (kc.2+r.2.2.2.2)
 sj: ∀p,p<i→Few W inp k0 most p
variable {Gp:Nat→K→Int→Prop} {i:Nat} {m:Int→List (K×Int)} {l:List Int} {Mi:List (K×Int)} {seen:List Nat} {kc:K×Int} {done:List Rl}
theorem RI.open_(hI:RI W inp k0 Gp most i m l)(kc:K×Int):RJ W inp k0 Gp most i Mi [] kc [] m (l.filter fun p=>decide (p≠(i:Int))):=by
 refine⟨hI.nodup.filter _,fun p hp=>?_,fun p hp=>hI.once p (List.mem_filter.1 hp).1,fun p hp=>hI.len p (List.mem_filter.1 hp).1,fun p hp=>hI.gC p (List.mem_filter.1 hp).1,fun p hp k c ha=>?_,fun j hj=>(List.not_mem_nil hj).elim,fun r hr=>(List.not_mem_nil hr).elim,hI.sj⟩
 (·obtain⟨h1,h2⟩:=List.mem_filter.1 hp;have:=hI.kT p h1;have h2:=of_decide_eq_true h2;omega);·obtain⟨h1,h2⟩:=hI.arr p (by omega) k c ha;exact⟨List.mem_filter.2 ⟨h1,by simp;omega⟩,h2⟩
theorem RJ.pick(hJ:RJ W inp k0 Gp most i Mi seen kc [] m l)(kc':K×Int):RJ W inp k0 Gp most i Mi seen kc' [] m l:=⟨hJ.nodup,hJ.kT,hJ.once,hJ.len,hJ.gC,hJ.arr,hJ.kg,fun r hr=>(List.not_mem_nil hr).elim,hJ.sj⟩
theorem RJ.skip(hJ:RJ W inp k0 Gp most i Mi seen kc done m l) {r:Rl} (hn: ∀p k',¬Fits W inp i kc.1 r p k'):RJ W inp k0 Gp most i Mi seen kc (done++ [r]) m l:=by
 refine⟨hJ.nodup,hJ.kT,hJ.once,hJ.len,hJ.gC,hJ.arr,hJ.kg,fun r2 oQ p k' hf=>?_,hJ.sj⟩;rcases List.mem_append.1 oQ with h|h;(·exact hJ.cur r2 h p k' hf);·rw[List.mem_singleton]at h;subst h;exact absurd hf (hn p k')
def upd(m:Int→List (K×Int))(p:Int)(M:List (K×Int)):Int→List (K×Int):=fun q=>if q=p then M else m q
theorem RJ.step(hW:W.Ok h)(hG:Good W inp k0 h Gp)(hJ:RJ W inp k0 Gp most i Mi seen kc done m l) {r:Rl} {k':K} (hr:r∈W.rs)(zy:Gp i kc.1 kc.2)(hf:Fits W inp i kc.1 r (i+r.2.2.1.length) k') {M:List (K×Int)} {l':List Int} (hM:((i+r.2.2.1.length:Nat):Int)∈l∧M=m ((i+r.2.2.1.length:Nat):Int)∧l'=l∨((i+r.2.2.1.length:Nat):Int)∉l∧M=[]∧l'=l++ [((i+r.2.2.1.length:Nat):Int)])(hlen:(W.gb M k' (kc.2+r.2.2.2.2)).length≤most):RJ W inp k0 Gp most i Mi seen kc (done++ [r]) (upd m ((i+r.2.2.1.length:Nat):Int) (W.gb M k' (kc.2+r.2.2.2.2))) l':=by
 obtain⟨hs,hm,hp,di,_⟩:=hf;have oY:=yX hs;have av1:=hG.take i kc.1 kc.2 r k' zy hr hs hm hp di;(have xp:i+r.2.2.1.length≤inp.length:=by have:=(List.isPrefixOf_iff_prefix.1 hp).length_le;rw[List.length_drop]at this;omega)
 generalize hto:i+r.2.2.1.length=to at*;(have wq: ∀p,p∈l→p∈l':=fun p hp=>by rcases hM with⟨_,_,rfl⟩|⟨_,_,rfl⟩;(·exact hp);·exact List.mem_append_left _ hp);(have fH:(to:Int)∈l':=by rcases hM with⟨h,_,rfl⟩|⟨_,_,rfl⟩;(·exact h);·exact List.mem_append_right _ (List.mem_singleton.2 rfl))
 (have Bh: ∀p,p∈l'→p≠(to:Int)→p∈l:=fun p hp bY=>by rcases hM with⟨_,_,rfl⟩|⟨_,_,rfl⟩;(·exact hp);·rcases List.mem_append.1 hp with h|h;(·exact h);·exact absurd (List.mem_singleton.1 h) bY)
 (have bo4:(M.map (·.1)).Nodup:=by rcases hM with⟨h,rfl,_⟩|⟨_,rfl,_⟩;(·exact hJ.once _ h);·exact List.nodup_nil);(have se: ∀k c,aL W.eq M k=some c→Gp to k c:=fun k c hk=>by rcases hM with⟨h,rfl,_⟩|⟨_,rfl,_⟩;(·have:=hJ.gC _ h k c hk;rwa[Int.toNat_natCast]at this);·cases hk)
 (have UY: ∀p k c,(p:Int)∈l→BO W (m p) k c→p∈l'∧BO W (upd m (to:Int) (W.gb M k' (kc.2+r.2.2.2.2)) p) k c:=fun p k c hp hd=>by refine⟨wq p hp,?_⟩;unfold upd;by_cases e:p=(to:Int);(·rw[if_pos e];rcases hM with⟨_,rfl,_⟩|⟨hn,_,_⟩;(·rw[e]at hd;exact hd.rel hW);·exact absurd (e▸hp) hn);·rw[if_neg e];exact hd)
 refine⟨?_,fun p hp=>?_,fun p hp=>?_,fun p hp=>?_,fun p hp k c hk=>?_,fun p hp k c ha=>?_,fun j hj e he r2 oQ p k2 LK=>?_,fun r2 oQ p k2 LK=>?_,hJ.sj⟩;(·rcases hM with⟨_,_,rfl⟩|⟨hn,_,rfl⟩;(·exact hJ.nodup);·refine List.nodup_append.2 ⟨hJ.nodup,by simp,fun a ha b hb=>?_⟩;rw[List.mem_singleton]at hb;subst hb;rintro rfl;exact hn ha)
 (·by_cases e:p=(to:Int);(·subst e;omega);·exact hJ.kT p (Bh p hp e));(·unfold upd;by_cases e:p=(to:Int);(·rw[if_pos e];exact hW.qN bo4);·rw[if_neg e];exact hJ.once p (Bh p hp e))
 (·unfold upd;by_cases e:p=(to:Int);(·rw[if_pos e];exact hlen);·rw[if_neg e];exact hJ.len p (Bh p hp e));(·unfold upd at hk;by_cases e:p=(to:Int);(·rw[if_pos e]at hk;subst e;rw[Int.toNat_natCast];cases hb:W.jV M k' (kc.2+r.2.2.2.2);(·rw[Wk.Ok.qL hb]at hk;exact se k c hk);·by_cases e2:k=k';(·subst e2;rw[hW.qM hb]at hk;injection hk with hk;rw[←hk];exact av1);·rw[hW.jG e2]at hk;exact se k c hk);·rw[if_neg e]at hk;exact hJ.gC p (Bh p hp e) k c hk)
 (·obtain⟨h1,h2⟩:=hJ.arr p hp k c ha;exact UY _ k c h1 h2);(·obtain⟨h1,h2⟩:=hJ.kg j hj e he r2 oQ p k2 LK;exact UY _ _ _ h1 h2);·rcases List.mem_append.1 oQ with h|h;(·obtain⟨h1,h2⟩:=hJ.cur r2 h p k2 LK;exact UY _ _ _ h1 h2);·rw[List.mem_singleton]at h;subst h;obtain⟨_,_,_,lZ,QV⟩:=LK;rw[di]at lZ;injection lZ with e2 _;subst e2;rw[hto]at QV;subst QV;refine⟨fH,?_⟩;unfold upd;rw[if_pos rfl];exact hW.F6
theorem RJ.next(hJ:RJ W inp k0 Gp most i Mi seen kc W.rs m l) {j:Nat} (hj:Mi[j]?=some kc)(kc':K×Int):RJ W inp k0 Gp most i Mi (seen++ [j]) kc' [] m l:=by
 refine⟨hJ.nodup,hJ.kT,hJ.once,hJ.len,hJ.gC,hJ.arr,fun j2 hj2 e he r hr p k' hf=>?_,fun r hr=>(List.not_mem_nil hr).elim,hJ.sj⟩;rcases List.mem_append.1 hj2 with h|h
 (·exact hJ.kg j2 h e he r hr p k' hf);·rw[List.mem_singleton]at h;subst h;rw[hj]at he;injection he with he;subst he;exact hJ.cur r hr p k' hf
theorem RJ.close(he: ∀x y,W.eq x y=true↔x=y)(hJ:RJ W inp k0 Gp most i Mi seen kc [] m l)(bo: ∀j,j<Mi.length→j∈seen)(hl:Mi.length≤most)(hd: ∀k c,Rt W inp k0 i k c→BO W Mi k c):RI W inp k0 Gp most (i+1) m l:=by
 refine⟨hJ.nodup,fun p hp=>?_,hJ.once,hJ.len,hJ.gC,fun p hp k c ha=>?_,fun p hp=>?_⟩;(·have:=hJ.kT p hp;omega);(·rcases ha with⟨h1,_⟩|⟨p1,k1,c1,r,h1,hR,hr,hs,hm,hpf,di,e1,e2⟩;(·omega);·by_cases dh:p1<i;(·exact hJ.arr p (by omega) k c (.inr ⟨p1,k1,c1,r,dh,hR,hr,hs,hm,hpf,di,e1,e2⟩));·(have e:p1=i:=by omega);subst e;obtain⟨c2,h2,h3⟩:=hd k1 c1 hR;obtain⟨j,hj⟩:=List.getElem?_of_mem (kQ he h3);obtain⟨h4,h5⟩:=hJ.kg j (bo j (List.getElem?_eq_some_iff.1 hj).1) _ hj r hr p k ⟨hs,hm,hpf,di,e1⟩;exact⟨h4,h5.le (by dsimp only;omega)⟩)
 ·by_cases dh:p<i;(·exact hJ.sj p dh);·(have e:p=i:=by omega);subst e;exact a79 he hl hd
end Go.Proofs.YtgpkijnphchkpaaGreat.Op
namespace Go.Proofs.YtgpkijnphchkpaaGreat
attribute[local go_sem←]Bool.decide_and Bool.decide_or decide_not
attribute[local go_sem]ft bC ne_eq not_false_eq_true
set_option maxHeartbeats 4000000
set_option maxRecDepth 100000
theorem a80(s p:aI):PC env 112 [⟨.str,s⟩,⟨.str,p⟩] .bool (p.isPrefixOf s):=by
 refine PC.ay (m:=2000) ae T6 rfl rfl rfl rfl (by kernel_rfl) ?_;intro hx;simp only[Tryz.f112];simp only[go_sem,zA,↓reduceIte,↓reduceDIte,zB,zC,zD,zE,zF,zG,zH,zI]
 refine⟨fun g=>⟨⟨Int.natCast_nonneg _,g⟩,?_⟩,fun g=>?_⟩;(·rw[Bool.eq_iff_iff,decide_eq_true_eq,List.isPrefixOf_iff_prefix,List.prefix_iff_eq_take];exact eq_comm)
 ·cases h:p.isPrefixOf s with|false=>rfl|true=>have:=(List.isPrefixOf_iff_prefix.1 h).length_le;omega
theorem aA7(s p:aI):PC env 65 [⟨.str,s⟩,⟨.str,p⟩] .bool (p.isPrefixOf s):=by
 refine PC.ay (m:=2000) ae az2 rfl rfl rfl rfl (by kernel_rfl) ?_;intro hx;simp only[Tryz.f65];simp only[go_sem,zA,↓reduceIte,↓reduceDIte,zB,zC,zD,zE,zF,zG,zH,zI]
 exact⟨_,a80 s p,rfl⟩
abbrev Os:=Int×Int
def sh(out:aI)(k:Os)(r:Rl):Os×Bool:=((r.2.1,k.2+(r.2.2.2.1.length:Int)),r.2.2.2.1.isPrefixOf (out.drop k.2.toNat))
theorem Nl(k:Os):PC env 63 [⟨aA,k⟩] (.int .i64) k.1:=by
 obtain⟨m,a⟩:=k;refine PC.ay (m:=2000) ae bj7 rfl rfl rfl rfl (by kernel_rfl) ?_;intro hx;simp only[Tryz.f63];simp only[go_sem,zA,↓reduceIte,↓reduceDIte,zB,zC,zD,zE,zF,zG,zH,zI]
theorem Nm(out:aI)(k:Os)(r:Rl)(hk:0≤k.2∧k.2≤out.length)(hl:out.length≤1000)(hr:r.2.2.2.1.length≤4):PC env 64 [⟨aA,k⟩,⟨bn,r⟩,⟨.ptr .str,out⟩] (.bq aA .bool) (sh out k r):=by
 obtain⟨m,a⟩:=k;obtain⟨f,t,i,o,c⟩:=r;dsimp only at hk hr;refine PC.ay (m:=2000) ae bj8 rfl rfl rfl rfl (by kernel_rfl) ?_;intro hx;simp only[Tryz.f64];simp only[go_sem,zA,↓reduceIte,↓reduceDIte,zB,zC,zD,zE,zF,zG,zH,zI]
 exact⟨aw (by omega) (by omega),hk,_,aA7 _ _,rfl⟩
theorem Lr: ∀x y:aA.den,gF aA x y=true↔x=y:=fun x y=>yE aA x y rfl
def jH(rs:List Rl)(out:aI):Op.Wk Os:=⟨gF aA,rs,fun k=>k.1,sh out⟩
theorem BP(rs:List Rl)(out:aI)(M:List (Os×Int))(hl:M.length≤1000000)(k:Os)(c:Int):HC env 114 [.lmap 1000000000,.iv aA k,.iv (.int .i64) c] [(1000000000,.mp aA (.int .i64) M)] (.iv .bool ((jH rs out).jV M k c)) [(1000000000,.mp aA (.int .i64) ((jH rs out).gb M k c))]:=by
 obtain⟨m,a⟩:=k;refine HC.ay (m:=2000) ae aZ8 rfl rfl rfl rfl (by kernel_rfl) ?_;intro hx kj;simp only[Tryz.f114];simp only[go_sem,zA,↓reduceIte,↓reduceDIte,zB,zC,zD,zE,zF,zG,zH,zI]
 have hlen:(cT (gF aA) M (m,a) c).length≤M.length+1:=nB Lr (m,a) c M;have hb:cT (gF aA) M (m,a) c=cT (jH rs out).eq M (m,a) c:=rfl;have hm:aL (gF aA) M (m,a)=aL (jH rs out).eq M (m,a):=rfl
 unfold Op.Wk.jV Op.Wk.gb;rw[←hb,←hm];refine⟨fun x hx=>⟨fun g=>?_,fun g=>⟨by omega,?_⟩⟩,fun hn=>⟨by omega,?_⟩⟩;(·have g:(x:Int)≤c:=g;rw[hx];simp[show¬c<x by omega])
 (·have g: ¬(x:Int)≤c:=g;rw[hx];simp[show c<x by omega]);·rw[hn];simp
end Go.Proofs.YtgpkijnphchkpaaGreat
namespace Go.Proofs.YtgpkijnphchkpaaGreat
set_option maxHeartbeats 1000000
def gB(a:Int)(out:aI)(k:Os):Prop:=k.2=out.length∧qk a k.1=true
theorem lX {out:aI} {k k':Os} {r:Rl} (h:sh out k r=(k',true)):k'=(r.2.1,k.2+(r.2.2.2.1.length:Int))∧r.2.2.2.1.isPrefixOf (out.drop k.2.toNat)=true:=by
 unfold sh at h;injection h with h1 h2;exact⟨h1.symm,h2⟩
theorem Jc {out:aI} {k k':Os} {r:Rl} (h:sh out k r=(k',true))(hk:0≤k.2∧k.2≤out.length):0≤k'.2∧k'.2≤out.length:=by
 obtain⟨rfl,h2⟩:=lX h;have:=(List.isPrefixOf_iff_prefix.1 h2).length_le;rw[List.length_drop]at this;dsimp only;omega
theorem a81 {rs : List Rl} {out : aI} {h : Int → Nat} (ht : ∀ m, h m ≤ 8) : (jH rs out).Ok h where
  he := Lr
  to := fun k r k' _ _ di => by
    obtain ⟨rfl, _⟩ := lX (out := out) di
    rfl
  top := ht
def GS(rs:List Rl)(out inp:aI)(h:Int→Nat)(p:Nat)(k:Os)(c:Int):Prop:=(0≤k.1∧k.1<8)∧(0≤k.2∧k.2≤out.length)∧(0≤c∧c≤9000*(p:Int)+1000*(h k.1:Int))∧Op.Rt (jH rs out) inp (0,0) p k c
theorem Jd {rs:List Rl} {out inp:aI} {A:Int→Prop} (hA0:A 0)(hA: ∀r,r∈rs→A r.1→A r.2.1) {p:Nat} {k:Os} {c:Int} (hR:Op.Rt (jH rs out) inp (0,0) p k c):A k.1:=by
 induction hR with|start=>exact hA0| @sil p k c r k' _ hm _ hf di ih=>obtain⟨rfl,_⟩:=lX (out:=out) di;have GL:r.1=k.1:=hf;exact hA r hm (GL▸ih)| @take p k c r k' _ hm _ hf _ di ih=>obtain⟨rfl,_⟩:=lX (out:=out) di;have GL:r.1=k.1:=hf;exact hA r hm (GL▸ih)
theorem av2 {rs : List Rl} {out inp : aI} {h : Int → Nat} {n : Int} (hn : n ≤ 8) (hR : ∀ r, r ∈ rs → dx n r = true) {A : Int → Prop} (hA0 : A 0) (hA : ∀ r, r ∈ rs → A r.1 → A r.2.1) (hr : ∀ r, r ∈ rs → A r.1 → cw r = true → h r.1 < h r.2.1) (ht : ∀ m, h m ≤ 8) : Op.Good (jH rs out) inp (0, 0) h (GS rs out inp h) where
  start := ⟨⟨Int.le_refl _, by decide⟩, ⟨Int.le_refl _, Int.natCast_nonneg _⟩, ⟨Int.le_refl _, by dsimp only; omega⟩, .start⟩
  place := fun p => ⟨fun k c r k' hg hm hs hf di => by
      obtain ⟨_, h2, h3, h4⟩ := hg
      have h5 := Jc (out := out) di h2
      have h6 := bK (hR r hm)
      have GL : r.1 = k.1 := hf
      have h7 := hr r hm (GL ▸ Jd hA0 hA h4) hs
      refine ⟨?_, h5, ?_, .sil h4 hm hs hf di⟩
      · obtain ⟨rfl, _⟩ := lX (out := out) di
        dsimp only
        omega
      · obtain ⟨rfl, _⟩ := lX (out := out) di
        dsimp only
        rw [GL] at h7
        omega, fun k c hg => by
      obtain ⟨_, _, h3, _⟩ := hg
      have : (jH rs out).mode k = k.1 := rfl
      rw [this]
      omega, fun k c r hg hm hs hf => by
      obtain ⟨_, _, _, h4⟩ := hg
      have GL : r.1 = k.1 := hf
      have h7 := hr r hm (GL ▸ Jd hA0 hA h4) hs
      rw [← hf]
      exact h7⟩
  take := fun p k c r k' hg hm hs hf hp di => by
    obtain ⟨_, h2, h3, h4⟩ := hg
    have h5 := Jc (out := out) di h2
    have h6 := bK (hR r hm)
    have h7 := Op.yX hs
    have h8 := ht k.1
    refine ⟨?_, h5, ?_, .take h4 hm hs hf hp di⟩
    · obtain ⟨rfl, _⟩ := lX (out := out) di
      dsimp only
      omega
    · omega
theorem a82 {rs:List Rl} {out inp:aI} {h:Int→Nat} (p:Nat)(L:List Os)(hL:L.Nodup)(hG: ∀k,k∈L→ ∃c,GS rs out inp h p k c):L.length≤(out.length+1)*8:=by
 (have h1:(L.map fun k:Os=>k.1+8*k.2).Nodup:=by rw[List.Nodup,List.pairwise_map];refine List.Pairwise.imp_of_mem (fun {a b} ha hb bY he=>bY ?_) hL;obtain⟨_,Wj,Wl,_⟩:=hG a ha;obtain⟨_,bg,bu,_⟩:=hG b hb;obtain⟨a1,a2⟩:=a;obtain⟨b1,b2⟩:=b;dsimp only at Wj Wl bg bu he;exact Prod.ext (by dsimp only;omega) (by dsimp only;omega))
 have h2:=np ((out.length+1)*8) _ h1 (fun x hx=>by obtain⟨k,hk,rfl⟩:=List.mem_map.1 hx;obtain⟨_,h1,h2,_⟩:=hG k hk;omega);rwa[List.length_map]at h2
def BQ(rs:List Rl)(a:Int)(inp out:aI)(r:Int):Prop:=(r= -1∧ ∀k c,Op.Rt (jH rs out) inp (0,0) inp.length k c→ ¬gB a out k)∨(0≤r∧(∃k,Op.Rt (jH rs out) inp (0,0) inp.length k r∧gB a out k)∧ ∀k c,Op.Rt (jH rs out) inp (0,0) inp.length k c→gB a out k→r≤c)
structure LI(rs:List Rl)(a:Int)(inp out:aI)(M:List (Os×Int))(seen:List Nat)(least:Int):Prop where
 no:least= -1∨0≤least∧ ∃k,Op.Rt (jH rs out) inp (0,0) inp.length k least∧gB a out k
 le: ∀j,j∈seen→ ∀e,M[j]?=some e→gB a out e.1→0≤least∧least≤e.2
theorem LI.next {rs:List Rl} {a:Int} {inp out:aI} {M:List (Os×Int)} {seen:List Nat} {least:Int} (hI:LI rs a inp out M seen least) {j:Nat} {e:Os×Int} (he:M[j]?=some e)(hn: ¬(gB a out e.1∧(least<0∨e.2<least))):LI rs a inp out M (seen++ [j]) least:=by
 refine⟨hI.no,fun i hi f hf hw=>?_⟩;rcases List.mem_append.1 hi with hi|hi;(·exact hI.le i hi f hf hw);·rw[List.mem_singleton.1 hi,he]at hf;injection hf with hf;subst hf;have: ¬(least<0∨e.2<least):=fun h=>hn ⟨hw,h⟩;omega
theorem LI.take {rs:List Rl} {a:Int} {inp out:aI} {M:List (Os×Int)} {seen:List Nat} {least:Int} (hI:LI rs a inp out M seen least) {j:Nat} {e:Os×Int} (he:M[j]?=some e)(hw:gB a out e.1)(hl:least<0∨e.2<least)(h0:0≤e.2)(hR:Op.Rt (jH rs out) inp (0,0) inp.length e.1 e.2):LI rs a inp out M (seen++ [j]) e.2:=by
 refine⟨.inr ⟨h0,e.1,hR,hw⟩,fun i hi f hf hw'=>?_⟩;rcases List.mem_append.1 hi with hi|hi;(·have:=hI.le i hi f hf hw';omega);·rw[List.mem_singleton.1 hi,he]at hf;injection hf with hf;subst hf;omega
theorem LI.done {rs:List Rl} {a:Int} {inp out:aI} {M:List (Os×Int)} {seen:List Nat} {least:Int} (hI:LI rs a inp out M seen least)(bo: ∀j,j<M.length→j∈seen)(hd: ∀k c,Op.Rt (jH rs out) inp (0,0) inp.length k c→Op.BO (jH rs out) M k c):BQ rs a inp out least:=by
 (have key: ∀k c,Op.Rt (jH rs out) inp (0,0) inp.length k c→gB a out k→0≤least∧least≤c:=fun k c hR hw=>by obtain⟨c',h1,h2⟩:=hd k c hR;have hm:=kQ Lr h2;obtain⟨i,hi⟩:=List.getElem?_of_mem hm;have:=hI.le i (bo i (List.getElem?_eq_some_iff.1 hi).1) _ hi hw;dsimp only at this;omega)
 rcases hI.no with h|⟨h0,hk⟩;(·exact .inl ⟨h,fun k c hR hw=>by have:=key k c hR hw;omega⟩);·exact .inr ⟨h0,hk,fun k c hR hw=>(key k c hR hw).2⟩
end Go.Proofs.YtgpkijnphchkpaaGreat
