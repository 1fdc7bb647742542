/- Contracts: the reference's Best, Pair, Input. Nothing here is trusted; no condition. -/
import Derived.Test.YtgpkijnphchkpaaGreatD4
set_option linter.unusedSimpArgs false
set_option linter.unusedVariables false
open Nat renaming reduceBEq→zA,reduceAdd→zB,reduceSub→zC,reduceMul→zD,reduceLeDiff→zE
open Int renaming reduceLT→zF,reduceLE→zG,reduceToNat→zH,reduceNeg→zI
namespace Go.Proofs.YtgpkijnphchkpaaGreat
attribute[local go_sem←]Bool.decide_and Bool.decide_or decide_not
attribute[local go_sem]fg bz ne_eq not_false_eq_true
set_option maxHeartbeats 4000000
set_option maxRecDepth 100000
def jI(r:Rl):Bool:=decide (r.2.2.1≠ []∨r.1<r.2.1)
def fA(x:AU):cB:=((fP x).1,(fP x).2.1,(fP x).2.2.filter jI)
theorem z3(x:AU):ij (fA x)∧Rev.aW3 (fA x).2.2∧(fA x).2.2.length≤9:=by
 obtain⟨h,_,_,h9⟩:=Gk x;have uN:((fP x).2.2.filter jI).Sublist (fP x).2.2:=List.filter_sublist;refine⟨⟨h.n1,h.n8,h.a1,h.a2,Nat.le_trans uN.length_le h.len,fun r hr=>h.right r (uN.subset hr),h.nodup.sublist uN⟩,fun r hr=>?_,Nat.le_trans uN.length_le h9⟩
 have:=(List.mem_filter.1 hr).2;unfold jI at this;exact of_decide_eq_true this
theorem ak1(x:AU):PC env 10 [⟨lg,x⟩] al (fA x):=by
 have hM:=ah6 x;have cZ:=(Gk x).1.len;have hE:fA x=((fP x).1,(fP x).2.1,(fP x).2.2.filter jI):=rfl;rw[hE];generalize fP x=m at*;obtain⟨n,a,rs⟩:=m;dsimp only at cZ⊢
 have iO:bytesOf ⟨#[]⟩=([]:aI):=rfl;refine PC.ay (m:=2000) ae ap4 rfl rfl rfl rfl (by kernel_rfl) ?_;intro hx;simp only[Tryz.f10];simp only[go_sem,zA,↓reduceIte,↓reduceDIte,zB,zC,zD,zE,zF,zG,zH,zI]
 refine⟨_,hM,fun _=>?_⟩;dsimp only;refine ah.bE (X:=Nat×List Rl) (fun(z:Nat×List Rl)=>[(5,.iv (.int .i64) (z.1:Int))]) (fun(z:Nat×List Rl)=>[(4,.box [.iv (.int .i64) n,.iv (.int .u8) a,.aF 50]),(50,.arr bg z.2)]) (fun(z:Nat×List Rl)=>z.1≤rs.length∧z.2=(rs.take z.1).filter jI) (fun(z:Nat×List Rl)=>rs.length-z.1) (0,[]) ?_
 intro b1 b2 ba bq;simp(config:= {maxSteps:=4000000})only[go_sem,zA,↓reduceIte,↓reduceDIte,zB,zC,zD,zE,zF,zG,zH,zI]at ba bq;subst ba;subst bq;refine⟨(by refine⟨?_,?_,rfl,rfl⟩<;>repeat' (first|exact trivial|exact Or.inl rfl|exact Or.inr rfl|apply br|apply bt|apply bu|apply bA|exact⟨(by show(_:Nat)<1000000000;omega),rfl,rfl⟩|rfl|(refine And.intro (Or.inl ?_) ?_)|(refine And.intro ?_ ?_))),?_,?_⟩
 (·exact⟨Nat.zero_le _,rfl⟩);intro⟨k,L⟩⟨hk,hL⟩back;dsimp only at hk hL;(have hLl:L.length≤64:=by rw[hL];exact Nat.le_trans (List.length_filter_le _ _) (by rw[List.length_take];omega))
 refine av ae ⟨_,ap4,rfl⟩ 2000 _ _ (by kernel_rfl) ?_;simp only[go_sem,zA,↓reduceIte,↓reduceDIte,zB,zC,zD,zE,zF,zG,zH,zI];refine⟨fun g=>?_,fun g=>?_⟩;(·obtain⟨r,hr⟩: ∃r,rs[k]?=some r:=an (by omega);(have ar8:(rs.take (k+1)).filter jI=(rs.take k).filter jI++(if jI r=true then[r]else[]):=by rw[aY hr,List.filter_append,List.filter_cons,List.filter_nil]);(have M5:jI r=true→(L++ [(r.1,r.2.1,r.2.2.1,r.2.2.2.1,r.2.2.2.2)])=(rs.take (k+1)).filter jI:=fun h=>by rw[ar8,if_pos h,hL]);(have n6: ¬jI r=true→L=(rs.take (k+1)).filter jI:=fun h=>by rw[ar8,if_neg h,List.append_nil,hL]);refine⟨Int.natCast_nonneg _,r,hr,fun h1=>?_,fun h1=>?_⟩;(·rw[iO]at h1;refine⟨Int.natCast_nonneg _,r,hr,Int.natCast_nonneg _,r,hr,fun h2=>?_,fun h2=>?_⟩;(·refine⟨Int.natCast_nonneg _,r,hr,by omega,aw (by omega) (by omega),back _ (k+1,L++ [(r.1,r.2.1,r.2.2.1,r.2.2.2.1,r.2.2.2.2)]) (by refine⟨?_,?_,rfl,rfl⟩<;>repeat' (first|exact trivial|exact Or.inl rfl|exact Or.inr rfl|apply br|apply bt|apply bu|apply bA|exact⟨(by show(_:Nat)<1000000000;omega),rfl,rfl⟩|rfl|(refine And.intro (Or.inl ?_) ?_)|(refine And.intro ?_ ?_))) ⟨by omega,M5 ?_⟩ (by dsimp only;omega)⟩;unfold jI;exact decide_eq_true (.inr h2));·refine⟨aw (by omega) (by omega),back _ (k+1,L) (by refine⟨?_,?_,rfl,rfl⟩<;>repeat' (first|exact trivial|exact Or.inl rfl|exact Or.inr rfl|apply br|apply bt|apply bu|apply bA|exact⟨(by show(_:Nat)<1000000000;omega),rfl,rfl⟩|rfl|(refine And.intro (Or.inl ?_) ?_)|(refine And.intro ?_ ?_))) ⟨by omega,n6 ?_⟩ (by dsimp only;omega)⟩;unfold jI;simp only[decide_eq_true_eq];rintro(h|h);(·exact h h1);·exact h2 h);·rw[iO]at h1;refine⟨Int.natCast_nonneg _,r,hr,by omega,aw (by omega) (by omega),back _ (k+1,L++ [(r.1,r.2.1,r.2.2.1,r.2.2.2.1,r.2.2.2.2)]) (by refine⟨?_,?_,rfl,rfl⟩<;>repeat' (first|exact trivial|exact Or.inl rfl|exact Or.inr rfl|apply br|apply bt|apply bu|apply bA|exact⟨(by show(_:Nat)<1000000000;omega),rfl,rfl⟩|rfl|(refine And.intro (Or.inl ?_) ?_)|(refine And.intro ?_ ?_))) ⟨by omega,M5 ?_⟩ (by dsimp only;omega)⟩;unfold jI;exact decide_eq_true (.inl h1))
 ·rw[List.take_of_length_le (by omega)]at hL;rw[hL]
end Go.Proofs.YtgpkijnphchkpaaGreat
namespace Go.Proofs.YtgpkijnphchkpaaGreat
attribute[local go_sem←]Bool.decide_and Bool.decide_or decide_not
attribute[local go_sem]fg bz ne_eq not_false_eq_true
set_option maxHeartbeats 4000000
set_option maxRecDepth 100000
def bf6(c:Int):UInt8:=([97,65,98,66,99,49]:aI).getD (c%6).toNat 0
def iG(l:List Int)(n:Nat):aI:=(l.take n).map bf6
theorem bp1: ∀k:Fin 6,(([97,65,98,66,99,49]:aI).drop k.val).take 1=[([97,65,98,66,99,49]:aI).getD k.val 0]:=by decide
theorem vy(l:List Int)(n:Nat):(iG l n).length≤n:=by unfold iG;rw[List.length_map,List.length_take];omega
theorem NG(l:List Int)(n:Nat):(iG l n).all ze=true:=by
 (have: ∀k:Fin 6,ze (([97,65,98,66,99,49]:aI).getD k.val 0)=true:=by decide);unfold iG;rw[List.all_map,List.all_eq_true];intro c _;have:=this ⟨(c%6).toNat,by omega⟩
 exact this
theorem Tw(l:List Int)(n:Nat)(hn:n≤20):gd (iG l n)=true:=by unfold gd;have:=vy l n;rw[NG,decide_eq_true (by omega)];rfl
theorem JK {l:List Int} {k:Nat} {c:Int} (h:l[k]?=some c):iG l (k+1)=iG l k++ [bf6 c]:=by unfold iG;rw[aY h,List.map_append];rfl
theorem ak2(l:List Int)(n:Int)(hn:0≤n∧n≤20):PC env 30 [⟨.sl (.int .u8),l⟩,⟨.int .i64,n⟩] .str (iG l n.toNat):=by
 refine PC.ay (m:=2000) ae ap8 rfl rfl rfl rfl (by kernel_rfl) ?_;intro hx;simp only[Tryz.f30];simp only[go_sem,zA,↓reduceIte,↓reduceDIte,zB,zC,zD,zE,zF,zG,zH,zI]
 have hu:=hx.1.2;have hlen:l.length≤9223372036854775807:=hx.1.1;refine ah.bE (X:=Nat) (fun(k:Nat)=>[(6,.iv (.int .i64) (k:Int)),(5,.iv .str (iG l k))]) (fun(k:Nat)=>[]) (fun(k:Nat)=>k≤l.length∧(k:Int)≤n) (fun(k:Nat)=>l.length-k) 0 ?_
 intro b1 b2 ba bq;simp(config:= {maxSteps:=4000000})only[go_sem,zA,↓reduceIte,↓reduceDIte,zB,zC,zD,zE,zF,zG,zH,zI]at ba bq;subst ba;subst bq;refine⟨(by refine⟨?_,?_,rfl,rfl⟩<;>repeat' (first|exact trivial|exact Or.inl rfl|exact Or.inr rfl|apply br|apply bt|apply bu|apply bA|exact⟨(by show(_:Nat)<1000000000;omega),rfl,rfl⟩|rfl|(refine And.intro (Or.inl ?_) ?_)|(refine And.intro ?_ ?_))),?_,?_⟩
 (·exact⟨Nat.zero_le _,by omega⟩);intro k⟨hk,hkn⟩back;refine av ae ⟨_,ap8,rfl⟩ 2000 _ _ (by kernel_rfl) ?_;simp only[go_sem,zA,↓reduceIte,↓reduceDIte,zB,zC,zD,zE,zF,zG,zH,zI]
 refine⟨fun h1=>⟨fun h2=>?_,fun h2=>?_⟩,fun h1=>?_⟩;(·obtain⟨x,dv⟩: ∃x,l[k]?=some x:=an (by omega);have hxr:0≤x∧x≤255:=lV (hu x (List.mem_of_getElem? dv));have hm:Int.tmod x 6=x%6:=Int.tmod_eq_emod_of_nonneg hxr.1;have IJ:=bp1 ⟨(x%6).toNat,by omega⟩;dsimp only at IJ;(have hd:(x%6+1).toNat-(x%6).toNat=1:=by omega);have hl6:(bytesOf { data:= #[97,65,98,66,99,49] }).length=6:=rfl;have Uq:bytesOf { data:= #[97,65,98,66,99,49] } =[97,65,98,66,99,49]:=rfl;have c7:=vy l k;refine⟨Int.natCast_nonneg _,x,dv,Int.natCast_nonneg _,x,dv,by omega,by omega,?_,aw (by omega) (by omega),?_⟩;(·rw[hm,hd,Uq,IJ];simp only[List.length_cons,List.length_nil];omega);·have hs6:iG l k++ [([97,65,98,66,99,49]:aI).getD (x%6).toNat 0]=iG l (k+1):=(JK dv).symm;rw[hm,hd,Uq,IJ,hs6];exact back _ (k+1) (by refine⟨?_,?_,rfl,rfl⟩<;>repeat' (first|exact trivial|exact Or.inl rfl|exact Or.inr rfl|apply br|apply bt|apply bu|apply bA|exact⟨(by show(_:Nat)<1000000000;omega),rfl,rfl⟩|rfl|(refine And.intro (Or.inl ?_) ?_)|(refine And.intro ?_ ?_))) ⟨by omega,by omega⟩ (by omega))
 (·(have:k=n.toNat:=by omega);rw[this]);·unfold iG;rw[List.take_of_length_le (by omega),List.take_of_length_le (by omega)]
end Go.Proofs.YtgpkijnphchkpaaGreat
namespace Go.Proofs.YtgpkijnphchkpaaGreat.Rev
set_option maxHeartbeats 1000000
structure OkQ(out:aI)(p:cD):Prop where
 at0:0≤p.1
 at1:p.1≤out.length
 md:p.2.1=0∨p.2.1=1
 sn:p.2.2=1∨p.2.2=2∨p.2.2=3
end Go.Proofs.YtgpkijnphchkpaaGreat.Rev
namespace Go.Proofs.YtgpkijnphchkpaaGreat
attribute[local go_sem←]Bool.decide_and Bool.decide_or decide_not
attribute[local go_sem]fg bz ne_eq not_false_eq_true St.dV aS
set_option maxHeartbeats 4000000
set_option maxRecDepth 100000
abbrev fnB(s:cB)(out:aI)(f:List Rev.dB):List (Nat×aO):=[(1000000000,.box [.iv (.int .i64) s.1,.iv (.int .u8) s.2.1,.iv (.sl bg) s.2.2,.iv .str out,.aF 1000000001]),(1000000001,.arr dc f)]
abbrev aX9(s:cB)(out:aI)(f:List Rev.dB):List (Nat×aO):=[(1000000000,.box [.iv (.int .i64) s.1,.iv (.int .u8) s.2.1,.iv (.sl bg) s.2.2,.iv .str out,.aF 52]),(52,.arr dc f)]
abbrev bp2(s:cB)(out:aI):List (Nat×aO):=[(1000000000,.box [.iv (.int .i64) s.1,.iv (.int .u8) s.2.1,.iv (.sl bg) s.2.2,.iv .str out,.bF])]
end Go.Proofs.YtgpkijnphchkpaaGreat
namespace Go.Proofs.YtgpkijnphchkpaaGreat
attribute[local go_sem←]Bool.decide_and Bool.decide_or decide_not
attribute[local go_sem]fg bz ne_eq not_false_eq_true St.dV aS fnB aX9
set_option maxHeartbeats 4000000
set_option maxRecDepth 100000
theorem z4:kj.P=env.P:=rfl
theorem tJ {t:Nat} :kj.ty t=env.ty t:=rfl
theorem pg {t:Nat} :kj.str t=env.str t:=rfl
theorem ph {t:Nat} :kj.cmp t=env.cmp t:=rfl
theorem tK {f:Nat} :kj.fn f=env.fn f:=rfl
theorem pj {f:Nat} :kj.dA f=env.dA f:=rfl
theorem jJ {t:Nat} :kj.mapKey t=env.mapKey t:=rfl
theorem tL:kj.tm=env.tm:=rfl
theorem mS {t:Nat} :kj.CE t=env.CE t:=rfl
theorem pA {t:Nat} :kj.CF t=env.CF t:=rfl
theorem tM {f:Nat} :kj.nd f=env.nd f:=rfl
theorem pB {t:Nat} :kj.HI t=env.HI t:=rfl
theorem tN {f:Nat} :kj.px f=env.px f:=rfl
theorem tO {f i:Nat} :kj.fl f i=env.fl f i:=rfl
theorem pC {t:Nat} :kj.emp t=env.emp t:=rfl
theorem pD {f i:Nat} :kj.wC f i=env.wC f i:=rfl
theorem mT {t:Nat} {m:String} :kj.m3 t m=env.m3 t m:=rfl
theorem tP {d t:Nat} :kj.ro d t=bif Nat.beq d 1101 then false else env.ro d t:=rfl
attribute[local go_sem]fnB aX9
end Go.Proofs.YtgpkijnphchkpaaGreat
namespace Go.Proofs.YtgpkijnphchkpaaGreat
attribute[local go_sem←]Bool.decide_and Bool.decide_or decide_not
attribute[local go_sem]fg bz ne_eq not_false_eq_true St.dV aS fnB aX9 bp2
set_option maxHeartbeats 4000000
set_option maxRecDepth 100000
end Go.Proofs.YtgpkijnphchkpaaGreat
namespace Go.Proofs.YtgpkijnphchkpaaGreat
attribute[local go_sem←]Bool.decide_and Bool.decide_or decide_not
attribute[local go_sem]fg bz ne_eq not_false_eq_true St.dV aS
set_option maxHeartbeats 4000000
set_option maxRecDepth 100000
end Go.Proofs.YtgpkijnphchkpaaGreat
