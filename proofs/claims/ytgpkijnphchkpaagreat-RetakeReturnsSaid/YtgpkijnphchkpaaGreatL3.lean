/- Plain facts: insertion and filters in ordered lists; all records that were learnt. Nothing here is trusted; no condition. -/
import Derived.Test.YtgpkijnphchkpaaGreatL2
set_option linter.unusedSimpArgs false
set_option linter.unusedVariables false
open Nat renaming reduceBEq→zA,reduceAdd→zB,reduceSub→zC,reduceMul→zD,reduceLeDiff→zE
open Int renaming reduceLT→zF,reduceLE→zG,reduceToNat→zH,reduceNeg→zI
namespace Go.Proofs.YtgpkijnphchkpaaGreat.Ln
set_option maxHeartbeats 1000000
def at8(x y:Int×Int):Bool:=decide (x.1<y.1∨x.1=y.1∧x.2<y.2)
/-! Lists that are ordered by places. -/
/-! The binary search's index. -/
def at9 {α:Type} (pl:α→Int×Int)(l:List α)(p:Int×Int):Nat:=(l.takeWhile (fun x=>at8 (pl x) p)).length
theorem wZ {α:Type} {q:α→Bool} : ∀ {l:List α} {k:Nat},k≤l.length→(∀i x,i<k→l[i]?=some x→q x=true)→(∀x,l[k]?=some x→q x=false)→(l.takeWhile q).length=k|[],k,hk,_,_=>(by simp at hk;subst hk;rfl)|a::r,0,_,_,h=>(by simp[List.takeWhile,h a rfl])|a::r,k+1,hk,h1,h2=>by have ha:=h1 0 a (by omega) rfl;have:=wZ (l:=r) (k:=k) (by simpa using hk) (fun i x hi hx=>h1 (i+1) x (by omega) hx) (fun x hx=>h2 x hx);simp[List.takeWhile,ha,this]
end Go.Proofs.YtgpkijnphchkpaaGreat.Ln
namespace Go.Proofs.YtgpkijnphchkpaaGreat.Ln
attribute[local go_sem←]Bool.decide_and Bool.decide_or decide_not
attribute[local go_sem]ee
set_option maxHeartbeats 4000000
set_option maxRecDepth 100000
theorem PC.dec {E:Env} {f:Nat} {xs:List (Sigma Ty.den)} {b:Bool} (h:PC E f xs .bool b):PC E f xs .bool (decide (b=true)):=by cases b<;>exact h
theorem uK(r:Rec):PC env 68 [⟨aq,r⟩] .bool (dx r):=by
 refine PC.ay (m:=2000) ae bk0 rfl rfl rfl rfl (by kernel_rfl) ?_;intro hx;simp only[Tryz.f68];simp only[go_sem,zA,↓reduceIte,↓reduceDIte,zB,zC,zD,zE,zF,zG,zH,zI]
 unfold dx;(repeat' (first|(with_reducible intro _)|(with_reducible apply And.intro)|(with_reducible refine⟨_,as9 _ _ _,?_⟩;try simp only[go_sem,zA,↓reduceIte,↓reduceDIte,zB,zC,zD,zE,zF,zG,zH,zI])|(with_reducible refine⟨_,PC.dec (M5 _),?_⟩;try simp only[go_sem,zA,↓reduceIte,↓reduceDIte,zB,zC,zD,zE,zF,zG,zH,zI])|fail))
 all_goals first|(symm;simp_all;done)|(clear hx;simp_all;done)|(symm;simp;omega)|exact⟨_,as9 _ _ _,by clear hx;simp_all⟩
theorem FP(o:eF):PC env 82 [⟨au,o⟩] .bool (gD o):=by
 refine PC.ay (m:=2000) ae bk2 rfl rfl rfl rfl (by kernel_rfl) ?_;intro hx;simp only[Tryz.f82];simp only[go_sem,zA,↓reduceIte,↓reduceDIte,zB,zC,zD,zE,zF,zG,zH,zI]
 unfold gD rk rk1 rk2 rk4 rk5;(repeat' (first|(with_reducible intro _)|(with_reducible apply And.intro)|(with_reducible refine⟨_,as9 _ _ _,?_⟩;try simp only[go_sem,zA,↓reduceIte,↓reduceDIte,zB,zC,zD,zE,zF,zG,zH,zI])|(with_reducible refine⟨_,PC.dec (M5 _),?_⟩;try simp only[go_sem,zA,↓reduceIte,↓reduceDIte,zB,zC,zD,zE,zF,zG,zH,zI])|fail))
 all_goals first|(symm;simp_all;done)|(clear hx;simp_all;done)|(symm;simp;omega)|exact⟨_,as9 _ _ _,by clear hx;simp_all⟩|(clear hx;simp_all;omega)
end Go.Proofs.YtgpkijnphchkpaaGreat.Ln
namespace Go.Proofs.YtgpkijnphchkpaaGreat.Ln
attribute[local go_sem←]Bool.decide_and Bool.decide_or decide_not
set_option maxHeartbeats 4000000
set_option maxRecDepth 100000
theorem Vb(x y:Int×Int):PC env 117 [⟨cd,x⟩,⟨cd,y⟩] .bool (at8 x y):=by
 refine PC.ay (m:=2000) ae a01 rfl rfl rfl rfl (by kernel_rfl) ?_;intro hx;simp only[Tryz.f117];simp only[go_sem,zA,↓reduceIte,↓reduceDIte,zB,zC,zD,zE,zF,zG,zH,zI]
 unfold at8;refine⟨fun h=>⟨fun h2=>?_,fun h2=>?_⟩,fun h=>?_⟩;(·simp[h,h2]);(·simp[h,h2]);·simp[h]
end Go.Proofs.YtgpkijnphchkpaaGreat.Ln
namespace Go.Proofs.YtgpkijnphchkpaaGreat.Ln
set_option maxHeartbeats 1000000
theorem Lj {r:Rec} {n:Int} (h:dx (r.1,n,r.2.2)=true):0≤r.1∧r.1≤7:=by unfold dx at h;simp only[Bool.and_eq_true,decide_eq_true_eq]at h;exact h.1.1
/-! The reference's steps. -/
def xa(o:eF)(r:Rec):Bool:=gD o&&dx r&&cD o r
def FQ(u:yx)(r:Rec):yx×Int×Int:=if dx (r.1,1,r.2.2)=true then if u.1.length=400∨cM u.2.2 r.1=1000000 then(u,0,2)else(if u.2.1.any (fun o=>xa o (r.1,cM u.2.2 r.1+1,r.2.2))then(u.1,u.2.1,mR u.2.2 r.1 (cM u.2.2 r.1+1))else(vu u.1 (at9 plR u.1 (r.1,cM u.2.2 r.1+1)) (r.1,cM u.2.2 r.1+1,r.2.2),u.2.1,mR u.2.2 r.1 (cM u.2.2 r.1+1)),cM u.2.2 r.1+1,0)else(u,0,240)
end Go.Proofs.YtgpkijnphchkpaaGreat.Ln
namespace Go.Proofs.YtgpkijnphchkpaaGreat.Ln
attribute[local go_sem←]Bool.decide_and Bool.decide_or decide_not
attribute[local go_sem]ee
set_option maxHeartbeats 4000000
set_option maxRecDepth 100000
theorem IW {o:eF} (h:gD o=true):o.2.2.2.1=1∨o.2.2.2.1=2∨o.2.2.2.1=3∨o.2.2.2.1=4∨o.2.2.2.1=5:=by
 unfold gD rk at h;simp only[Bool.and_eq_true]at h;have h2:=h.2;(repeat' split at h2);all_goals first|(simp_all;done)|cases h2
theorem Vc(o:eF)(r:Rec):PC env 116 [⟨au,o⟩,⟨aq,r⟩] .bool (xa o r):=by
 refine PC.ay (m:=2000) ae a00 rfl rfl rfl rfl (by kernel_rfl) ?_;intro hx;simp only[Tryz.f116];simp only[go_sem,zA,↓reduceIte,↓reduceDIte,zB,zC,zD,zE,zF,zG,zH,zI]
 unfold xa cD qD;have hk:=IW (o:=o);(repeat' (first|(with_reducible intro _)|(with_reducible apply And.intro)|(with_reducible refine⟨_,(PC.dec (FP o)),?_⟩;try simp only[go_sem,zA,↓reduceIte,↓reduceDIte,zB,zC,zD,zE,zF,zG,zH,zI])|(with_reducible refine⟨_,(PC.dec (uK r)),?_⟩;try simp only[go_sem,zA,↓reduceIte,↓reduceDIte,zB,zC,zD,zE,zF,zG,zH,zI])|fail))
 all_goals first|(symm;clear hx;simp_all;done)|(clear hx;simp_all;done)|(clear hx;simp_all;omega)
theorem au0(l:List eF)(r:Rec):PC env 69 [⟨.sl au,l⟩,⟨aq,r⟩] .bool (l.any (fun o=>xa o r)):=by
 refine PC.ay (m:=2000) ae az3 rfl rfl rfl rfl (by kernel_rfl) ?_;intro hx;simp only[Tryz.f69];simp only[go_sem,zA,↓reduceIte,↓reduceDIte,zB,zC,zD,zE,zF,zG,zH,zI]
 refine ah.bH (X:=Nat) (fun(k:Nat)=>[(5,.iv (.int .i64) (k:Int))]) (fun(k:Nat)=>[]) (fun(k:Nat)=>k≤l.length∧(l.take k).any (fun o=>xa o r)=false) (fun(k:Nat)=>l.length-k) 0 ?_
 intro b1 b2 bg bu;simp(config:= {maxSteps:=4000000})only[go_sem,zA,↓reduceIte,↓reduceDIte,zB,zC,zD,zE,zF,zG,zH,zI]at bg bu;subst bg;subst bu;refine⟨(by refine⟨?_,?_,rfl,rfl⟩<;>repeat' (first|exact trivial|exact Or.inl rfl|exact Or.inr rfl|apply bw|apply bx|apply bz|apply bD|exact⟨(by show(_:Nat)<1000000000;omega),rfl,rfl⟩|rfl|(refine And.intro (Or.inl ?_) ?_)|(refine And.intro ?_ ?_))),?_,?_⟩
 (·exact⟨Nat.zero_le _,rfl⟩);have hll:l.length≤9223372036854775807:=hx.1.1;intro k⟨hk,he⟩back;refine av ae ⟨_,az3,rfl⟩ 2000 _ _ (by kernel_rfl) ?_;simp only[go_sem,zA,↓reduceIte,↓reduceDIte,zB,zC,zD,zE,zF,zG,zH,zI]
 refine⟨fun h2=>?_,fun h2=>?_⟩;(·obtain⟨x,dE⟩: ∃x,l[k]?=some x:=an (by omega);refine⟨Int.natCast_nonneg _,x,dE,_,(PC.dec (Vc x r)),?_⟩;simp only[go_sem,zA,↓reduceIte,↓reduceDIte,zB,zC,zD,zE,zF,zG,zH,zI];refine⟨fun h=>?_,fun h=>?_⟩;(·symm;exact List.any_eq_true.2 ⟨x,List.mem_of_getElem? dE,h⟩);·exact⟨aw (by omega) (by omega),back _ (k+1) (by refine⟨?_,?_,rfl,rfl⟩<;>repeat' (first|exact trivial|exact Or.inl rfl|exact Or.inr rfl|apply bw|apply bx|apply bz|apply bD|exact⟨(by show(_:Nat)<1000000000;omega),rfl,rfl⟩|rfl|(refine And.intro (Or.inl ?_) ?_)|(refine And.intro ?_ ?_))) ⟨by omega,by rw[IU dE,he];exact Bool.eq_false_iff.2 h⟩ (by omega)⟩)
 ·have e1:l.take k=l:=List.take_of_length_le (by omega);rw[e1]at he;rw[he]
end Go.Proofs.YtgpkijnphchkpaaGreat.Ln
namespace Go.Proofs.YtgpkijnphchkpaaGreat.Ln
attribute[local go_sem←]Bool.decide_and Bool.decide_or decide_not
set_option maxHeartbeats 4000000
set_option maxRecDepth 100000
theorem Vd(l:List Rec)(r:Rec)(hl:l.length≤1000000):PC env 70 [⟨.sl aq,l⟩,⟨aq,r⟩] (.sl aq) (vu l (at9 plR l (plR r)) r):=by
 refine PC.ay (m:=2000) ae az4 rfl rfl rfl rfl (by kernel_rfl) ?_;intro hx;simp only[Tryz.f70];simp only[go_sem,zA,↓reduceIte,↓reduceDIte,zB,zC,zD,zE,zF,zG,zH,zI]
 refine ah.bH (X:=Nat) (fun(k:Nat)=>[(5,.iv (.int .i64) (k:Int))]) (fun(k:Nat)=>[]) (fun(k:Nat)=>k≤l.length∧ ∀i x,i<k→l[i]?=some x→at8 (plR x) (plR r)=true) (fun(k:Nat)=>l.length-k) 0 ?_
 intro b1 b2 bg bu;simp(config:= {maxSteps:=4000000})only[go_sem,zA,↓reduceIte,↓reduceDIte,zB,zC,zD,zE,zF,zG,zH,zI]at bg bu;subst bg;subst bu;refine⟨(by refine⟨?_,?_,rfl,rfl⟩<;>repeat' (first|exact trivial|exact Or.inl rfl|exact Or.inr rfl|apply bw|apply bx|apply bz|apply bD|exact⟨(by show(_:Nat)<1000000000;omega),rfl,rfl⟩|rfl|(refine And.intro (Or.inl ?_) ?_)|(refine And.intro ?_ ?_))),?_,?_⟩
 (·exact⟨Nat.zero_le _,fun i x h=>absurd h (Nat.not_lt_zero i)⟩);intro k⟨hk,he⟩back;refine av ae ⟨_,az4,rfl⟩ 2000 _ _ (by kernel_rfl) ?_;simp only[go_sem,zA,↓reduceIte,↓reduceDIte,zB,zC,zD,zE,zF,zG,zH,zI]
 refine⟨fun h2=>?_,fun h2=>?_⟩;(·obtain⟨x,dE⟩: ∃x,l[k]?=some x:=an (by omega);refine⟨Int.natCast_nonneg _,x,dE,Int.natCast_nonneg _,x,dE,_,(PC.dec (Vb _ _)),?_⟩;simp only[go_sem,zA,↓reduceIte,↓reduceDIte,zB,zC,zD,zE,zF,zG,zH,zI];refine⟨fun h=>?_,fun h=>?_⟩;(·refine⟨aw (by omega) (by omega),back _ (k+1) (by refine⟨?_,?_,rfl,rfl⟩<;>repeat' (first|exact trivial|exact Or.inl rfl|exact Or.inr rfl|apply bw|apply bx|apply bz|apply bD|exact⟨(by show(_:Nat)<1000000000;omega),rfl,rfl⟩|rfl|(refine And.intro (Or.inl ?_) ?_)|(refine And.intro ?_ ?_))) ⟨by omega,fun i y hi hy=>?_⟩ (by omega)⟩;rcases Nat.lt_succ_iff_lt_or_eq.1 hi with hi|rfl;(·exact he i y hi hy);·rw[dE]at hy;injection hy with hy;subst hy;exact h);·have a68:at9 plR l (plR r)=k:=wZ hk he (fun y hy=>by rw[dE]at hy;injection hy with hy;subst hy;exact Bool.eq_false_iff.2 h);rw[a68];(have h1:(l.take k).length≤k:=by rw[List.length_take];omega);(have h2:(l.drop k).length≤l.length:=by rw[List.length_drop];omega);refine⟨⟨by omega,by omega⟩,by omega,by omega,⟨by omega,by omega⟩,?_,?_⟩;(·rw[List.length_append];simp only[List.length_cons,List.length_nil];omega);·simp[vu])
 ·have a68:at9 plR l (plR r)=k:=wZ hk he (fun y hy=>by have:=(List.getElem?_eq_some_iff.1 hy).1;omega);rw[a68];(have h1:(l.take k).length≤k:=by rw[List.length_take];omega);(have h3:(l.drop k).length≤l.length:=by rw[List.length_drop];omega);refine⟨⟨by omega,by omega⟩,by omega,by omega,⟨by omega,by omega⟩,?_,?_⟩;(·rw[List.length_append];simp only[List.length_cons,List.length_nil];omega);·simp[vu]
end Go.Proofs.YtgpkijnphchkpaaGreat.Ln
namespace Go.Proofs.YtgpkijnphchkpaaGreat.Ln
attribute[local go_sem←]Bool.decide_and Bool.decide_or decide_not
set_option maxHeartbeats 4000000
set_option maxRecDepth 100000
theorem Ve(u:yx)(r:Rec)(hu:u.1.length≤1000000)(hl: ∀i:Int,0≤i→i≤7→cM u.2.2 i≤1000000):PC env 33 [⟨cr,u⟩,⟨aq,r⟩] oA (FQ u r):=by
 refine PC.ay (m:=2000) ae bi6 rfl rfl rfl rfl (by kernel_rfl) ?_;intro hx;simp only[Tryz.f33];simp only[go_sem,zA,↓reduceIte,↓reduceDIte,zB,zC,zD,zE,zF,zG,zH,zI]
 refine⟨_,uK (r.1,1,r.2.2),?_⟩;unfold FQ;cases hr:dx (r.1,1,r.2.2);(·simp only[go_sem,zA,↓reduceIte,↓reduceDIte,zB,zC,zD,zE,zF,zG,zH,zI];rfl);obtain⟨Gm,VU⟩:=Lj hr
 simp only[go_sem,zA,↓reduceIte,↓reduceDIte,zB,zC,zD,zE,zF,zG,zH,zI];refine⟨fun h1=>⟨⟨Gm,by omega⟩,cM u.2.2 r.1,BF u.2.2 Gm VU,fun h2=>?_,fun h2=>?_⟩,fun h1=>?_⟩
 (·rw[if_pos (.inr h2)]);(·rw[if_neg (by omega)];have hL: -9223372036854775808≤cM u.2.2 r.1:=M8 hx.1.2.2 Gm VU;have hL2:=hl _ Gm VU;refine⟨⟨Gm,by omega⟩,cM u.2.2 r.1,BF u.2.2 Gm VU,aw (by omega) (by omega),⟨Gm,by omega⟩,⟨Gm,by omega⟩,cM u.2.2 r.1+1,U9 u.2.2 _ Gm VU,_,au0 u.2.1 (r.1,cM u.2.2 r.1+1,r.2.2),?_⟩;cases hm:u.2.1.any (fun o=>xa o (r.1,cM u.2.2 r.1+1,r.2.2));(·simp only[go_sem,zA,↓reduceIte,↓reduceDIte,zB,zC,zD,zE,zF,zG,zH,zI];exact⟨_,Vd u.1 _ hu,fun _=>rfl⟩);·simp only[go_sem,zA,↓reduceIte,↓reduceDIte,zB,zC,zD,zE,zF,zG,zH,zI];rfl)
 ·rw[if_pos (.inl (by omega))]
end Go.Proofs.YtgpkijnphchkpaaGreat.Ln
namespace Go.Proofs.YtgpkijnphchkpaaGreat.Ln
attribute[local go_sem←]Bool.decide_and Bool.decide_or decide_not
set_option maxHeartbeats 4000000
set_option maxRecDepth 100000
end Go.Proofs.YtgpkijnphchkpaaGreat.Ln
namespace Go.Proofs.YtgpkijnphchkpaaGreat.Ln
set_option maxHeartbeats 1000000
end Go.Proofs.YtgpkijnphchkpaaGreat.Ln
