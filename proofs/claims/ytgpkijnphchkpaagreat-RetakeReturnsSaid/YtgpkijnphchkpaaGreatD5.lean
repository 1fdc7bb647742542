/- Contracts: the reference's Best, Pair, Input. Nothing here is trusted; no condition. -/
import Derived.Test.YtgpkijnphchkpaaGreatD4
set_option linter.unusedSimpArgs false
set_option linter.unusedVariables false
open Nat renaming reduceBEq→zA,reduceAdd→zB,reduceSub→zC,reduceMul→zD,reduceLeDiff→zE
open Int renaming reduceLT→zF,reduceLE→zG,reduceToNat→zH,reduceNeg→zI
namespace Go.Proofs.YtgpkijnphchkpaaGreat
attribute[local go_sem←]Bool.decide_and Bool.decide_or decide_not
attribute[local go_sem]ft bC ne_eq not_false_eq_true
set_option maxHeartbeats 4000000
set_option maxRecDepth 100000
def jT(r:Rl):Bool:=decide (r.2.2.1≠ []∨r.1<r.2.1)
def fK(x:Cy):db:=((fZ x).1,(fZ x).2.1,(fZ x).2.2.filter jT)
theorem BC(x:Cy):iB (fK x)∧Rev.a48 (fK x).2.2∧(fK x).2.2.length≤9:=by
 obtain⟨h,_,_,h9⟩:=HZ x;have wq:((fZ x).2.2.filter jT).Sublist (fZ x).2.2:=List.filter_sublist;refine⟨⟨h.n1,h.n8,h.a1,h.a2,Nat.le_trans wq.length_le h.len,fun r hr=>h.right r (wq.subset hr),h.nodup.sublist wq⟩,fun r hr=>?_,Nat.le_trans wq.length_le h9⟩
 have:=(List.mem_filter.1 hr).2;unfold jT at this;exact of_decide_eq_true this
theorem as7(x:Cy):PC env 10 [⟨lL,x⟩] al (fK x):=by
 have hM:=aq2 x;have dg:=(HZ x).1.len;have hE:fK x=((fZ x).1,(fZ x).2.1,(fZ x).2.2.filter jT):=rfl;rw[hE];generalize fZ x=m at*;obtain⟨n,a,rs⟩:=m;dsimp only at dg⊢
 have ja:bytesOf ⟨#[]⟩=([]:aI):=rfl;refine PC.ay (m:=2000) ae ay2 rfl rfl rfl rfl (by kernel_rfl) ?_;intro hx;simp only[Tryz.f10];simp only[go_sem,zA,↓reduceIte,↓reduceDIte,zB,zC,zD,zE,zF,zG,zH,zI]
 refine⟨_,hM,fun _=>?_⟩;dsimp only;refine ah.bH (X:=Nat×List Rl) (fun(z:Nat×List Rl)=>[(5,.iv (.int .i64) (z.1:Int))]) (fun(z:Nat×List Rl)=>[(4,.box [.iv (.int .i64) n,.iv (.int .u8) a,.aF 50]),(50,.arr bn z.2)]) (fun(z:Nat×List Rl)=>z.1≤rs.length∧z.2=(rs.take z.1).filter jT) (fun(z:Nat×List Rl)=>rs.length-z.1) (0,[]) ?_
 intro b1 b2 bg bu;simp(config:= {maxSteps:=4000000})only[go_sem,zA,↓reduceIte,↓reduceDIte,zB,zC,zD,zE,zF,zG,zH,zI]at bg bu;subst bg;subst bu;refine⟨(by refine⟨?_,?_,rfl,rfl⟩<;>repeat' (first|exact trivial|exact Or.inl rfl|exact Or.inr rfl|apply bw|apply bx|apply bz|apply bD|exact⟨(by show(_:Nat)<1000000000;omega),rfl,rfl⟩|rfl|(refine And.intro (Or.inl ?_) ?_)|(refine And.intro ?_ ?_))),?_,?_⟩
 (·exact⟨Nat.zero_le _,rfl⟩);intro⟨k,L⟩⟨hk,hL⟩back;dsimp only at hk hL;(have hLl:L.length≤64:=by rw[hL];exact Nat.le_trans (List.length_filter_le _ _) (by rw[List.length_take];omega))
 refine av ae ⟨_,ay2,rfl⟩ 2000 _ _ (by kernel_rfl) ?_;simp only[go_sem,zA,↓reduceIte,↓reduceDIte,zB,zC,zD,zE,zF,zG,zH,zI];refine⟨fun g=>?_,fun g=>?_⟩;(·obtain⟨r,hr⟩: ∃r,rs[k]?=some r:=an (by omega);(have aA5:(rs.take (k+1)).filter jT=(rs.take k).filter jT++(if jT r=true then[r]else[]):=by rw[aY hr,List.filter_append,List.filter_cons,List.filter_nil]);(have OH:jT r=true→(L++ [(r.1,r.2.1,r.2.2.1,r.2.2.2.1,r.2.2.2.2)])=(rs.take (k+1)).filter jT:=fun h=>by rw[aA5,if_pos h,hL]);(have oZ: ¬jT r=true→L=(rs.take (k+1)).filter jT:=fun h=>by rw[aA5,if_neg h,List.append_nil,hL]);refine⟨Int.natCast_nonneg _,r,hr,fun h1=>?_,fun h1=>?_⟩;(·rw[ja]at h1;refine⟨Int.natCast_nonneg _,r,hr,Int.natCast_nonneg _,r,hr,fun h2=>?_,fun h2=>?_⟩;(·refine⟨Int.natCast_nonneg _,r,hr,by omega,aw (by omega) (by omega),back _ (k+1,L++ [(r.1,r.2.1,r.2.2.1,r.2.2.2.1,r.2.2.2.2)]) (by refine⟨?_,?_,rfl,rfl⟩<;>repeat' (first|exact trivial|exact Or.inl rfl|exact Or.inr rfl|apply bw|apply bx|apply bz|apply bD|exact⟨(by show(_:Nat)<1000000000;omega),rfl,rfl⟩|rfl|(refine And.intro (Or.inl ?_) ?_)|(refine And.intro ?_ ?_))) ⟨by omega,OH ?_⟩ (by dsimp only;omega)⟩;unfold jT;exact decide_eq_true (.inr h2));·refine⟨aw (by omega) (by omega),back _ (k+1,L) (by refine⟨?_,?_,rfl,rfl⟩<;>repeat' (first|exact trivial|exact Or.inl rfl|exact Or.inr rfl|apply bw|apply bx|apply bz|apply bD|exact⟨(by show(_:Nat)<1000000000;omega),rfl,rfl⟩|rfl|(refine And.intro (Or.inl ?_) ?_)|(refine And.intro ?_ ?_))) ⟨by omega,oZ ?_⟩ (by dsimp only;omega)⟩;unfold jT;simp only[decide_eq_true_eq];rintro(h|h);(·exact h h1);·exact h2 h);·rw[ja]at h1;refine⟨Int.natCast_nonneg _,r,hr,by omega,aw (by omega) (by omega),back _ (k+1,L++ [(r.1,r.2.1,r.2.2.1,r.2.2.2.1,r.2.2.2.2)]) (by refine⟨?_,?_,rfl,rfl⟩<;>repeat' (first|exact trivial|exact Or.inl rfl|exact Or.inr rfl|apply bw|apply bx|apply bz|apply bD|exact⟨(by show(_:Nat)<1000000000;omega),rfl,rfl⟩|rfl|(refine And.intro (Or.inl ?_) ?_)|(refine And.intro ?_ ?_))) ⟨by omega,OH ?_⟩ (by dsimp only;omega)⟩;unfold jT;exact decide_eq_true (.inl h1))
 ·rw[List.take_of_length_le (by omega)]at hL;rw[hL]
end Go.Proofs.YtgpkijnphchkpaaGreat
namespace Go.Proofs.YtgpkijnphchkpaaGreat
attribute[local go_sem←]Bool.decide_and Bool.decide_or decide_not
attribute[local go_sem]ft bC ne_eq not_false_eq_true
set_option maxHeartbeats 4000000
set_option maxRecDepth 100000
def bn9(c:Int):UInt8:=([97,65,98,66,99,49]:aI).getD (c%6).toNat 0
def iS(l:List Int)(n:Nat):aI:=(l.take n).map bn9
theorem bx5: ∀k:Fin 6,(([97,65,98,66,99,49]:aI).drop k.val).take 1=[([97,65,98,66,99,49]:aI).getD k.val 0]:=by decide
theorem wY(l:List Int)(n:Nat):(iS l n).length≤n:=by unfold iS;rw[List.length_map,List.length_take];omega
theorem Pj(l:List Int)(n:Nat):(iS l n).all AX=true:=by
 (have: ∀k:Fin 6,AX (([97,65,98,66,99,49]:aI).getD k.val 0)=true:=by decide);unfold iS;rw[List.all_map,List.all_eq_true];intro c _;have:=this ⟨(c%6).toNat,by omega⟩
 exact this
theorem U3(l:List Int)(n:Nat)(hn:n≤20):gu (iS l n)=true:=by unfold gu;have:=wY l n;rw[Pj,decide_eq_true (by omega)];rfl
theorem Lf {l:List Int} {k:Nat} {c:Int} (h:l[k]?=some c):iS l (k+1)=iS l k++ [bn9 c]:=by unfold iS;rw[aY h,List.map_append];rfl
theorem as8(l:List Int)(n:Int)(hn:0≤n∧n≤20):PC env 30 [⟨.sl (.int .u8),l⟩,⟨.int .i64,n⟩] .str (iS l n.toNat):=by
 refine PC.ay (m:=2000) ae ay6 rfl rfl rfl rfl (by kernel_rfl) ?_;intro hx;simp only[Tryz.f30];simp only[go_sem,zA,↓reduceIte,↓reduceDIte,zB,zC,zD,zE,zF,zG,zH,zI]
 have hu:=hx.1.2;have hlen:l.length≤9223372036854775807:=hx.1.1;refine ah.bH (X:=Nat) (fun(k:Nat)=>[(6,.iv (.int .i64) (k:Int)),(5,.iv .str (iS l k))]) (fun(k:Nat)=>[]) (fun(k:Nat)=>k≤l.length∧(k:Int)≤n) (fun(k:Nat)=>l.length-k) 0 ?_
 intro b1 b2 bg bu;simp(config:= {maxSteps:=4000000})only[go_sem,zA,↓reduceIte,↓reduceDIte,zB,zC,zD,zE,zF,zG,zH,zI]at bg bu;subst bg;subst bu;refine⟨(by refine⟨?_,?_,rfl,rfl⟩<;>repeat' (first|exact trivial|exact Or.inl rfl|exact Or.inr rfl|apply bw|apply bx|apply bz|apply bD|exact⟨(by show(_:Nat)<1000000000;omega),rfl,rfl⟩|rfl|(refine And.intro (Or.inl ?_) ?_)|(refine And.intro ?_ ?_))),?_,?_⟩
 (·exact⟨Nat.zero_le _,by omega⟩);intro k⟨hk,hkn⟩back;refine av ae ⟨_,ay6,rfl⟩ 2000 _ _ (by kernel_rfl) ?_;simp only[go_sem,zA,↓reduceIte,↓reduceDIte,zB,zC,zD,zE,zF,zG,zH,zI]
 refine⟨fun h1=>⟨fun h2=>?_,fun h2=>?_⟩,fun h1=>?_⟩;(·obtain⟨x,dE⟩: ∃x,l[k]?=some x:=an (by omega);have hxr:0≤x∧x≤255:=mB (hu x (List.mem_of_getElem? dE));have hm:Int.tmod x 6=x%6:=Int.tmod_eq_emod_of_nonneg hxr.1;have Kf:=bx5 ⟨(x%6).toNat,by omega⟩;dsimp only at Kf;(have hd:(x%6+1).toNat-(x%6).toNat=1:=by omega);have hl6:(bytesOf { data:= #[97,65,98,66,99,49] }).length=6:=rfl;have VR:bytesOf { data:= #[97,65,98,66,99,49] } =[97,65,98,66,99,49]:=rfl;have dh:=wY l k;refine⟨Int.natCast_nonneg _,x,dE,Int.natCast_nonneg _,x,dE,by omega,by omega,?_,aw (by omega) (by omega),?_⟩;(·rw[hm,hd,VR,Kf];simp only[List.length_cons,List.length_nil];omega);·have hs6:iS l k++ [([97,65,98,66,99,49]:aI).getD (x%6).toNat 0]=iS l (k+1):=(Lf dE).symm;rw[hm,hd,VR,Kf,hs6];exact back _ (k+1) (by refine⟨?_,?_,rfl,rfl⟩<;>repeat' (first|exact trivial|exact Or.inl rfl|exact Or.inr rfl|apply bw|apply bx|apply bz|apply bD|exact⟨(by show(_:Nat)<1000000000;omega),rfl,rfl⟩|rfl|(refine And.intro (Or.inl ?_) ?_)|(refine And.intro ?_ ?_))) ⟨by omega,by omega⟩ (by omega))
 (·(have:k=n.toNat:=by omega);rw[this]);·unfold iS;rw[List.take_of_length_le (by omega),List.take_of_length_le (by omega)]
end Go.Proofs.YtgpkijnphchkpaaGreat
namespace Go.Proofs.YtgpkijnphchkpaaGreat.Rev
set_option maxHeartbeats 1000000
end Go.Proofs.YtgpkijnphchkpaaGreat.Rev
namespace Go.Proofs.YtgpkijnphchkpaaGreat
attribute[local go_sem←]Bool.decide_and Bool.decide_or decide_not
attribute[local go_sem]ft bC ne_eq not_false_eq_true St.ef aS
set_option maxHeartbeats 4000000
set_option maxRecDepth 100000
abbrev fnB(s:db)(out:aI)(f:List Rev.dK):List (Nat×aO):=[(1000000000,.box [.iv (.int .i64) s.1,.iv (.int .u8) s.2.1,.iv (.sl bn) s.2.2,.iv .str out,.aF 1000000001]),(1000000001,.arr dp f)]
abbrev a64(s:db)(out:aI)(f:List Rev.dK):List (Nat×aO):=[(1000000000,.box [.iv (.int .i64) s.1,.iv (.int .u8) s.2.1,.iv (.sl bn) s.2.2,.iv .str out,.aF 52]),(52,.arr dp f)]
abbrev bx6(s:db)(out:aI):List (Nat×aO):=[(1000000000,.box [.iv (.int .i64) s.1,.iv (.int .u8) s.2.1,.iv (.sl bn) s.2.2,.iv .str out,.bI])]
end Go.Proofs.YtgpkijnphchkpaaGreat
namespace Go.Proofs.YtgpkijnphchkpaaGreat
attribute[local go_sem←]Bool.decide_and Bool.decide_or decide_not
attribute[local go_sem]ft bC ne_eq not_false_eq_true St.ef aS fnB a64
set_option maxHeartbeats 4000000
set_option maxRecDepth 100000
noncomputable def kr:Env:= { env with ro:=fun d t=>bif Nat.beq d 1101 then false else env.ro d t }
theorem BD:kr.P=env.P:=rfl
theorem vj {t:Nat} :kr.ty t=env.ty t:=rfl
theorem qw {t:Nat} :kr.str t=env.str t:=rfl
theorem qx {t:Nat} :kr.cmp t=env.cmp t:=rfl
theorem vk {f:Nat} :kr.fn f=env.fn f:=rfl
theorem qy {f:Nat} :kr.dJ f=env.dJ f:=rfl
theorem jU {t:Nat} :kr.mapKey t=env.mapKey t:=rfl
theorem vm:kr.tm=env.tm:=rfl
theorem nD {t:Nat} :kr.Ee t=env.Ee t:=rfl
theorem qz {t:Nat} :kr.Ef t=env.Ef t:=rfl
theorem vo {f:Nat} :kr.nd f=env.nd f:=rfl
theorem qA {t:Nat} :kr.Jk t=env.Jk t:=rfl
theorem vp {f:Nat} :kr.px f=env.px f:=rfl
theorem vq {f i:Nat} :kr.fl f i=env.fl f i:=rfl
theorem qB {t:Nat} :kr.emp t=env.emp t:=rfl
theorem qC {f i:Nat} :kr.yi f i=env.yi f i:=rfl
theorem nE {t:Nat} {m:String} :kr.nL t m=env.nL t m:=rfl
theorem vr {d t:Nat} :kr.ro d t=bif Nat.beq d 1101 then false else env.ro d t:=rfl
attribute[local go_sem]fnB a64
end Go.Proofs.YtgpkijnphchkpaaGreat
namespace Go.Proofs.YtgpkijnphchkpaaGreat
attribute[local go_sem←]Bool.decide_and Bool.decide_or decide_not
attribute[local go_sem]ft bC ne_eq not_false_eq_true St.ef aS fnB a64 bx6
set_option maxHeartbeats 4000000
set_option maxRecDepth 100000
end Go.Proofs.YtgpkijnphchkpaaGreat
namespace Go.Proofs.YtgpkijnphchkpaaGreat
attribute[local go_sem←]Bool.decide_and Bool.decide_or decide_not
attribute[local go_sem]ft bC ne_eq not_false_eq_true St.ef aS
set_option maxHeartbeats 4000000
set_option maxRecDepth 100000
end Go.Proofs.YtgpkijnphchkpaaGreat
