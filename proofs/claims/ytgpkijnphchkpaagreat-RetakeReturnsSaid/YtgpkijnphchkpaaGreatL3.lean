/- Plain facts: insertion and filters in ordered lists; all records that were learnt. Nothing here is trusted; no condition. -/
import Derived.Test.YtgpkijnphchkpaaGreatL2
set_option linter.unusedSimpArgs false
set_option linter.unusedVariables false
open Nat renaming reduceBEq→zA,reduceAdd→zB,reduceSub→zC,reduceMul→zD,reduceLeDiff→zE
open Int renaming reduceLT→zF,reduceLE→zG,reduceToNat→zH,reduceNeg→zI
namespace Go.Proofs.YtgpkijnphchkpaaGreat.Ln
set_option maxHeartbeats 1000000
def al0(x y:Int×Int):Bool:=decide (x.1<y.1∨x.1=y.1∧x.2<y.2)
/-! Lists that are ordered by places. -/
/-! The binary search's index. -/
def al1 {α:Type} (pl:α→Int×Int)(l:List α)(p:Int×Int):Nat:=(l.takeWhile (fun x=>al0 (pl x) p)).length
theorem vA {α:Type} {q:α→Bool} : ∀ {l:List α} {k:Nat},k≤l.length→(∀i x,i<k→l[i]?=some x→q x=true)→(∀x,l[k]?=some x→q x=false)→(l.takeWhile q).length=k|[],k,hk,_,_=>(by simp at hk;subst hk;rfl)|a::r,0,_,_,h=>(by simp[List.takeWhile,h a rfl])|a::r,k+1,hk,h1,h2=>by have ha:=h1 0 a (by omega) rfl;have:=vA (l:=r) (k:=k) (by simpa using hk) (fun i x hi hx=>h1 (i+1) x (by omega) hx) (fun x hx=>h2 x hx);simp[List.takeWhile,ha,this]
end Go.Proofs.YtgpkijnphchkpaaGreat.Ln
namespace Go.Proofs.YtgpkijnphchkpaaGreat.Ln
attribute[local go_sem←]Bool.decide_and Bool.decide_or decide_not
attribute[local go_sem]dU
set_option maxHeartbeats 4000000
set_option maxRecDepth 100000
theorem PC.dec {E:Env} {f:Nat} {xs:List (Sigma Ty.den)} {b:Bool} (h:PC E f xs .bool b):PC E f xs .bool (decide (b=true)):=by cases b<;>exact h
theorem tk(r:Rec):PC env 68 [⟨aq,r⟩] .bool (cS r):=by
 refine PC.ay (m:=2000) ae bb5 rfl rfl rfl rfl (by kernel_rfl) ?_;intro hx;simp only[Tryz.f68];simp only[go_sem,zA,↓reduceIte,↓reduceDIte,zB,zC,zD,zE,zF,zG,zH,zI]
 unfold cS;(repeat' (first|(with_reducible intro _)|(with_reducible apply And.intro)|(with_reducible refine⟨_,ak3 _ _ _,?_⟩;try simp only[go_sem,zA,↓reduceIte,↓reduceDIte,zB,zC,zD,zE,zF,zG,zH,zI])|(with_reducible refine⟨_,PC.dec (Lt _),?_⟩;try simp only[go_sem,zA,↓reduceIte,↓reduceDIte,zB,zC,zD,zE,zF,zG,zH,zI])|fail))
 all_goals first|(symm;simp_all;done)|(clear hx;simp_all;done)|(symm;simp;omega)|exact⟨_,ak3 _ _ _,by clear hx;simp_all⟩
theorem Ea(o:er):PC env 82 [⟨au,o⟩] .bool (fR o):=by
 refine PC.ay (m:=2000) ae bb7 rfl rfl rfl rfl (by kernel_rfl) ?_;intro hx;simp only[Tryz.f82];simp only[go_sem,zA,↓reduceIte,↓reduceDIte,zB,zC,zD,zE,zF,zG,zH,zI]
 unfold fR rk rk1 rk2 rk4 rk5;(repeat' (first|(with_reducible intro _)|(with_reducible apply And.intro)|(with_reducible refine⟨_,ak3 _ _ _,?_⟩;try simp only[go_sem,zA,↓reduceIte,↓reduceDIte,zB,zC,zD,zE,zF,zG,zH,zI])|(with_reducible refine⟨_,PC.dec (Lt _),?_⟩;try simp only[go_sem,zA,↓reduceIte,↓reduceDIte,zB,zC,zD,zE,zF,zG,zH,zI])|fail))
 all_goals first|(symm;simp_all;done)|(clear hx;simp_all;done)|(symm;simp;omega)|exact⟨_,ak3 _ _ _,by clear hx;simp_all⟩|(clear hx;simp_all;omega)
end Go.Proofs.YtgpkijnphchkpaaGreat.Ln
namespace Go.Proofs.YtgpkijnphchkpaaGreat.Ln
attribute[local go_sem←]Bool.decide_and Bool.decide_or decide_not
set_option maxHeartbeats 4000000
set_option maxRecDepth 100000
theorem TF(x y:Int×Int):PC env 117 [⟨bY,x⟩,⟨bY,y⟩] .bool (al0 x y):=by
 refine PC.ay (m:=2000) ae aR6 rfl rfl rfl rfl (by kernel_rfl) ?_;intro hx;simp only[Tryz.f117];simp only[go_sem,zA,↓reduceIte,↓reduceDIte,zB,zC,zD,zE,zF,zG,zH,zI]
 unfold al0;refine⟨fun h=>⟨fun h2=>?_,fun h2=>?_⟩,fun h=>?_⟩;(·simp[h,h2]);(·simp[h,h2]);·simp[h]
end Go.Proofs.YtgpkijnphchkpaaGreat.Ln
namespace Go.Proofs.YtgpkijnphchkpaaGreat.Ln
set_option maxHeartbeats 1000000
structure VU(u:vz):Prop where
 l1:u.1.length≤400
 l2:u.2.1.length≤400
 last: ∀i:Int,0≤i→i≤7→0≤cu u.2.2 i∧cu u.2.2 i≤1000000
 ord: ∀o,o∈u.2.1→fR o=true∧o.2.1≤cu u.2.2 o.1
 sO:Srt wP u.2.1
 sR:Srt Oc u.1
 rcd: ∀r,r∈u.1→cS r=true∧r.2.1≤cu u.2.2 r.1∧Oc r∉u.2.1.map wP∧ ∀o,o∈u.2.1→cn o r=false
theorem JO {r:Rec} {n:Int} (h:cS (r.1,n,r.2.2)=true):0≤r.1∧r.1≤7:=by unfold cS at h;simp only[Bool.and_eq_true,decide_eq_true_eq]at h;exact h.1.1
/-! The reference's steps. -/
def vB(o:er)(r:Rec):Bool:=fR o&&cS r&&cn o r
def Eb(u:vz)(r:Rec):vz×Int×Int:=if cS (r.1,1,r.2.2)=true then if u.1.length=400∨cu u.2.2 r.1=1000000 then(u,0,2)else(if u.2.1.any (fun o=>vB o (r.1,cu u.2.2 r.1+1,r.2.2))then(u.1,u.2.1,me u.2.2 r.1 (cu u.2.2 r.1+1))else(tQ u.1 (al1 Oc u.1 (r.1,cu u.2.2 r.1+1)) (r.1,cu u.2.2 r.1+1,r.2.2),u.2.1,me u.2.2 r.1 (cu u.2.2 r.1+1)),cu u.2.2 r.1+1,0)else(u,0,240)
end Go.Proofs.YtgpkijnphchkpaaGreat.Ln
namespace Go.Proofs.YtgpkijnphchkpaaGreat.Ln
attribute[local go_sem←]Bool.decide_and Bool.decide_or decide_not
attribute[local go_sem]dU
set_option maxHeartbeats 4000000
set_option maxRecDepth 100000
theorem Hj {o:er} (h:fR o=true):o.2.2.2.1=1∨o.2.2.2.1=2∨o.2.2.2.1=3∨o.2.2.2.1=4∨o.2.2.2.1=5:=by
 unfold fR rk at h;simp only[Bool.and_eq_true]at h;have h2:=h.2;(repeat' split at h2);all_goals first|(simp_all;done)|cases h2
theorem TG(o:er)(r:Rec):PC env 116 [⟨au,o⟩,⟨aq,r⟩] .bool (vB o r):=by
 refine PC.ay (m:=2000) ae aR5 rfl rfl rfl rfl (by kernel_rfl) ?_;intro hx;simp only[Tryz.f116];simp only[go_sem,zA,↓reduceIte,↓reduceDIte,zB,zC,zD,zE,zF,zG,zH,zI]
 unfold vB cn pE;have hk:=Hj (o:=o);(repeat' (first|(with_reducible intro _)|(with_reducible apply And.intro)|(with_reducible refine⟨_,(PC.dec (Ea o)),?_⟩;try simp only[go_sem,zA,↓reduceIte,↓reduceDIte,zB,zC,zD,zE,zF,zG,zH,zI])|(with_reducible refine⟨_,(PC.dec (tk r)),?_⟩;try simp only[go_sem,zA,↓reduceIte,↓reduceDIte,zB,zC,zD,zE,zF,zG,zH,zI])|fail))
 all_goals first|(symm;clear hx;simp_all;done)|(clear hx;simp_all;done)|(clear hx;simp_all;omega)
theorem al2(l:List er)(r:Rec):PC env 69 [⟨.sl au,l⟩,⟨aq,r⟩] .bool (l.any (fun o=>vB o r)):=by
 refine PC.ay (m:=2000) ae aq5 rfl rfl rfl rfl (by kernel_rfl) ?_;intro hx;simp only[Tryz.f69];simp only[go_sem,zA,↓reduceIte,↓reduceDIte,zB,zC,zD,zE,zF,zG,zH,zI]
 refine ah.bE (X:=Nat) (fun(k:Nat)=>[(5,.iv (.int .i64) (k:Int))]) (fun(k:Nat)=>[]) (fun(k:Nat)=>k≤l.length∧(l.take k).any (fun o=>vB o r)=false) (fun(k:Nat)=>l.length-k) 0 ?_
 intro b1 b2 ba bq;simp(config:= {maxSteps:=4000000})only[go_sem,zA,↓reduceIte,↓reduceDIte,zB,zC,zD,zE,zF,zG,zH,zI]at ba bq;subst ba;subst bq;refine⟨(by refine⟨?_,?_,rfl,rfl⟩<;>repeat' (first|exact trivial|exact Or.inl rfl|exact Or.inr rfl|apply br|apply bt|apply bu|apply bA|exact⟨(by show(_:Nat)<1000000000;omega),rfl,rfl⟩|rfl|(refine And.intro (Or.inl ?_) ?_)|(refine And.intro ?_ ?_))),?_,?_⟩
 (·exact⟨Nat.zero_le _,rfl⟩);have hll:l.length≤9223372036854775807:=hx.1.1;intro k⟨hk,he⟩back;refine av ae ⟨_,aq5,rfl⟩ 2000 _ _ (by kernel_rfl) ?_;simp only[go_sem,zA,↓reduceIte,↓reduceDIte,zB,zC,zD,zE,zF,zG,zH,zI]
 refine⟨fun h2=>?_,fun h2=>?_⟩;(·obtain⟨x,dv⟩: ∃x,l[k]?=some x:=an (by omega);refine⟨Int.natCast_nonneg _,x,dv,_,(PC.dec (TG x r)),?_⟩;simp only[go_sem,zA,↓reduceIte,↓reduceDIte,zB,zC,zD,zE,zF,zG,zH,zI];refine⟨fun h=>?_,fun h=>?_⟩;(·symm;exact List.any_eq_true.2 ⟨x,List.mem_of_getElem? dv,h⟩);·exact⟨aw (by omega) (by omega),back _ (k+1) (by refine⟨?_,?_,rfl,rfl⟩<;>repeat' (first|exact trivial|exact Or.inl rfl|exact Or.inr rfl|apply br|apply bt|apply bu|apply bA|exact⟨(by show(_:Nat)<1000000000;omega),rfl,rfl⟩|rfl|(refine And.intro (Or.inl ?_) ?_)|(refine And.intro ?_ ?_))) ⟨by omega,by rw[Hh dv,he];exact Bool.eq_false_iff.2 h⟩ (by omega)⟩)
 ·have e1:l.take k=l:=List.take_of_length_le (by omega);rw[e1]at he;rw[he]
end Go.Proofs.YtgpkijnphchkpaaGreat.Ln
namespace Go.Proofs.YtgpkijnphchkpaaGreat.Ln
attribute[local go_sem←]Bool.decide_and Bool.decide_or decide_not
set_option maxHeartbeats 4000000
set_option maxRecDepth 100000
theorem TH(l:List Rec)(r:Rec)(hl:l.length≤1000000):PC env 70 [⟨.sl aq,l⟩,⟨aq,r⟩] (.sl aq) (tQ l (al1 Oc l (Oc r)) r):=by
 refine PC.ay (m:=2000) ae aq6 rfl rfl rfl rfl (by kernel_rfl) ?_;intro hx;simp only[Tryz.f70];simp only[go_sem,zA,↓reduceIte,↓reduceDIte,zB,zC,zD,zE,zF,zG,zH,zI]
 refine ah.bE (X:=Nat) (fun(k:Nat)=>[(5,.iv (.int .i64) (k:Int))]) (fun(k:Nat)=>[]) (fun(k:Nat)=>k≤l.length∧ ∀i x,i<k→l[i]?=some x→al0 (Oc x) (Oc r)=true) (fun(k:Nat)=>l.length-k) 0 ?_
 intro b1 b2 ba bq;simp(config:= {maxSteps:=4000000})only[go_sem,zA,↓reduceIte,↓reduceDIte,zB,zC,zD,zE,zF,zG,zH,zI]at ba bq;subst ba;subst bq;refine⟨(by refine⟨?_,?_,rfl,rfl⟩<;>repeat' (first|exact trivial|exact Or.inl rfl|exact Or.inr rfl|apply br|apply bt|apply bu|apply bA|exact⟨(by show(_:Nat)<1000000000;omega),rfl,rfl⟩|rfl|(refine And.intro (Or.inl ?_) ?_)|(refine And.intro ?_ ?_))),?_,?_⟩
 (·exact⟨Nat.zero_le _,fun i x h=>absurd h (Nat.not_lt_zero i)⟩);intro k⟨hk,he⟩back;refine av ae ⟨_,aq6,rfl⟩ 2000 _ _ (by kernel_rfl) ?_;simp only[go_sem,zA,↓reduceIte,↓reduceDIte,zB,zC,zD,zE,zF,zG,zH,zI]
 refine⟨fun h2=>?_,fun h2=>?_⟩;(·obtain⟨x,dv⟩: ∃x,l[k]?=some x:=an (by omega);refine⟨Int.natCast_nonneg _,x,dv,Int.natCast_nonneg _,x,dv,_,(PC.dec (TF _ _)),?_⟩;simp only[go_sem,zA,↓reduceIte,↓reduceDIte,zB,zC,zD,zE,zF,zG,zH,zI];refine⟨fun h=>?_,fun h=>?_⟩;(·refine⟨aw (by omega) (by omega),back _ (k+1) (by refine⟨?_,?_,rfl,rfl⟩<;>repeat' (first|exact trivial|exact Or.inl rfl|exact Or.inr rfl|apply br|apply bt|apply bu|apply bA|exact⟨(by show(_:Nat)<1000000000;omega),rfl,rfl⟩|rfl|(refine And.intro (Or.inl ?_) ?_)|(refine And.intro ?_ ?_))) ⟨by omega,fun i y hi hy=>?_⟩ (by omega)⟩;rcases Nat.lt_succ_iff_lt_or_eq.1 hi with hi|rfl;(·exact he i y hi hy);·rw[dv]at hy;injection hy with hy;subst hy;exact h);·have aY3:al1 Oc l (Oc r)=k:=vA hk he (fun y hy=>by rw[dv]at hy;injection hy with hy;subst hy;exact Bool.eq_false_iff.2 h);rw[aY3];(have h1:(l.take k).length≤k:=by rw[List.length_take];omega);(have h2:(l.drop k).length≤l.length:=by rw[List.length_drop];omega);refine⟨⟨by omega,by omega⟩,by omega,by omega,⟨by omega,by omega⟩,?_,?_⟩;(·rw[List.length_append];simp only[List.length_cons,List.length_nil];omega);·simp[tQ])
 ·have aY3:al1 Oc l (Oc r)=k:=vA hk he (fun y hy=>by have:=(List.getElem?_eq_some_iff.1 hy).1;omega);rw[aY3];(have h1:(l.take k).length≤k:=by rw[List.length_take];omega);(have h3:(l.drop k).length≤l.length:=by rw[List.length_drop];omega);refine⟨⟨by omega,by omega⟩,by omega,by omega,⟨by omega,by omega⟩,?_,?_⟩;(·rw[List.length_append];simp only[List.length_cons,List.length_nil];omega);·simp[tQ]
end Go.Proofs.YtgpkijnphchkpaaGreat.Ln
namespace Go.Proofs.YtgpkijnphchkpaaGreat.Ln
attribute[local go_sem←]Bool.decide_and Bool.decide_or decide_not
set_option maxHeartbeats 4000000
set_option maxRecDepth 100000
theorem TJ(u:vz)(r:Rec)(hu:u.1.length≤1000000)(hl: ∀i:Int,0≤i→i≤7→cu u.2.2 i≤1000000):PC env 33 [⟨cd,u⟩,⟨aq,r⟩] nD (Eb u r):=by
 refine PC.ay (m:=2000) ae ba1 rfl rfl rfl rfl (by kernel_rfl) ?_;intro hx;simp only[Tryz.f33];simp only[go_sem,zA,↓reduceIte,↓reduceDIte,zB,zC,zD,zE,zF,zG,zH,zI]
 refine⟨_,tk (r.1,1,r.2.2),?_⟩;unfold Eb;cases hr:cS (r.1,1,r.2.2);(·simp only[go_sem,zA,↓reduceIte,↓reduceDIte,zB,zC,zD,zE,zF,zG,zH,zI];rfl);obtain⟨EF,Ut⟩:=JO hr
 simp only[go_sem,zA,↓reduceIte,↓reduceDIte,zB,zC,zD,zE,zF,zG,zH,zI];refine⟨fun h1=>⟨⟨EF,by omega⟩,cu u.2.2 r.1,z5 u.2.2 EF Ut,fun h2=>?_,fun h2=>?_⟩,fun h1=>?_⟩
 (·rw[if_pos (.inr h2)]);(·rw[if_neg (by omega)];have hL: -9223372036854775808≤cu u.2.2 r.1:=Lx hx.1.2.2 EF Ut;have hL2:=hl _ EF Ut;refine⟨⟨EF,by omega⟩,cu u.2.2 r.1,z5 u.2.2 EF Ut,aw (by omega) (by omega),⟨EF,by omega⟩,⟨EF,by omega⟩,cu u.2.2 r.1+1,TD u.2.2 _ EF Ut,_,al2 u.2.1 (r.1,cu u.2.2 r.1+1,r.2.2),?_⟩;cases hm:u.2.1.any (fun o=>vB o (r.1,cu u.2.2 r.1+1,r.2.2));(·simp only[go_sem,zA,↓reduceIte,↓reduceDIte,zB,zC,zD,zE,zF,zG,zH,zI];exact⟨_,TH u.1 _ hu,fun _=>rfl⟩);·simp only[go_sem,zA,↓reduceIte,↓reduceDIte,zB,zC,zD,zE,zF,zG,zH,zI];rfl)
 ·rw[if_pos (.inl (by omega))]
end Go.Proofs.YtgpkijnphchkpaaGreat.Ln
namespace Go.Proofs.YtgpkijnphchkpaaGreat.Ln
attribute[local go_sem←]Bool.decide_and Bool.decide_or decide_not
set_option maxHeartbeats 4000000
set_option maxRecDepth 100000
end Go.Proofs.YtgpkijnphchkpaaGreat.Ln
namespace Go.Proofs.YtgpkijnphchkpaaGreat.Ln
set_option maxHeartbeats 1000000
structure br7(k:Nat)(u:vz)(all:List Rec):Prop where
 gi:br8 k u
 len:all.length≤k
 Ur:Srt Oc all
 right: ∀r,r∈all→cS r=true∧r.2.1≤cu u.2.2 r.1
 kept:u.1=br9 all u.2.1
end Go.Proofs.YtgpkijnphchkpaaGreat.Ln
