/- Contract: the fixed examples. Nothing here is trusted; no condition. -/
import Derived.Test.YtgpkijnphchkpaaGreatR2
set_option linter.unusedSimpArgs false
set_option linter.unusedVariables false
open Nat renaming reduceBEq→zA,reduceAdd→zB,reduceSub→zC,reduceMul→zD,reduceLeDiff→zE
open Int renaming reduceLT→zF,reduceLE→zG,reduceToNat→zH,reduceNeg→zI
namespace Go.Proofs.YtgpkijnphchkpaaGreat
attribute[local go_sem←]Bool.decide_and Bool.decide_or decide_not
attribute[local go_sem]ft bC St.fin pdI St.ef aS
set_option maxHeartbeats 4000000
set_option maxRecDepth 100000
end Go.Proofs.YtgpkijnphchkpaaGreat
namespace Go.Proofs.YtgpkijnphchkpaaGreat
attribute[local go_sem←]Bool.decide_and Bool.decide_or decide_not
set_option maxHeartbeats 4000000
set_option maxRecDepth 100000
abbrev bo2(a b:Nb):Prop:=a.1.map Lm=b.1.map Lm∧a.2.1=b.2.1∧a.2.2.1=b.2.2.1∧a.2.2.2.1=b.2.2.2.1∧a.2.2.2.2=b.2.2.2.2
theorem BH {α:Type} {a b:List α} (h:a.length=b.length) {k:Nat} (hk: ¬k<a.length)(e:a.take k=b.take k):a=b:=by rwa[List.take_of_length_le (by omega),List.take_of_length_le (by omega)]at e
theorem I6(a b:Nb):PC env 20 [⟨gK,a⟩,⟨gK,b⟩] .bool (decide (bo2 a b)):=by
 obtain⟨E,S,c,P,h⟩:=a;obtain⟨E',S',c',P',h'⟩:=b;refine PC.ay (m:=2000) ae Mu rfl rfl rfl rfl (by kernel_rfl) ?_;intro hx;simp only[Tryz.f20];simp only[go_sem,zA,↓reduceIte,↓reduceDIte,zB,zC,zD,zE,zF,zG,zH,zI]
 refine⟨_,PC.dec (vz E E'),?_⟩;simp only[go_sem,zA,↓reduceIte,↓reduceDIte,zB,zC,zD,zE,zF,zG,zH,zI];refine⟨fun hE=>⟨fun hS=>⟨fun hc=>⟨fun hP=>⟨fun hh=>?_,fun hh=>?_⟩,fun hn=>?_⟩,fun hn=>?_⟩,fun hn=>?_⟩,fun hn=>?_⟩
 (·symm;exact decide_eq_false fun hs=>hh hs.2.2.2.2);(·(have hSl:S.length=S'.length:=by omega);(have hPl:P.length=P'.length:=by omega);refine ah.bH (X:=Nat) (fun(k:Nat)=>[(5,.iv (.int .i64) (k:Int))]) (fun(k:Nat)=>[]) (fun(k:Nat)=>k≤S.length∧S.take k=S'.take k) (fun(k:Nat)=>S.length-k) 0 ?_;intro b1 b2 bg bu;simp(config:= {maxSteps:=4000000})only[go_sem,zA,↓reduceIte,↓reduceDIte,zB,zC,zD,zE,zF,zG,zH,zI]at bg bu;subst bg;subst bu;refine⟨(by refine⟨?_,?_,rfl,rfl⟩<;>repeat' (first|exact trivial|exact Or.inl rfl|exact Or.inr rfl|apply bw|apply bx|apply bz|apply bD|exact⟨(by show(_:Nat)<1000000000;omega),rfl,rfl⟩|rfl|(refine And.intro (Or.inl ?_) ?_)|(refine And.intro ?_ ?_))),?_,?_⟩;(·exact⟨Nat.zero_le _,rfl⟩);·intro k⟨hk,he⟩back;refine av ae ⟨_,Mu,rfl⟩ 2000 _ _ (by kernel_rfl) ?_;simp only[go_sem,zA,↓reduceIte,↓reduceDIte,zB,zC,zD,zE,zF,zG,zH,zI];refine⟨fun h2=>?_,fun h2=>?_⟩;(·obtain⟨x,dE⟩: ∃x,S[k]?=some x:=an (by omega);obtain⟨y,hyi⟩: ∃y,S'[k]?=some y:=an (by omega);refine⟨Int.natCast_nonneg _,x,dE,Int.natCast_nonneg _,y,hyi,?_⟩;refine⟨fun hn=>?_,fun hl=>?_⟩;(·symm;refine decide_eq_false fun hs=>hn ?_;(have h3:S[k]?=S'[k]?:=by rw[show S=S' from hs.2.1]);rw[dE,hyi]at h3;rw[Option.some.inj h3]);·(have zL:x.length=y.length:=by omega);refine ah.bH (X:=Nat) (fun(j:Nat)=>[(6,.iv (.int .i64) (j:Int))]) (fun(j:Nat)=>[]) (fun(j:Nat)=>j≤x.length∧x.take j=y.take j) (fun(j:Nat)=>x.length-j) 0 ?_;intro b1 b2 bg bu;simp(config:= {maxSteps:=4000000})only[go_sem,zA,↓reduceIte,↓reduceDIte,zB,zC,zD,zE,zF,zG,zH,zI]at bg bu;subst bg;subst bu;refine⟨(by refine⟨?_,?_,rfl,rfl⟩<;>repeat' (first|exact trivial|exact Or.inl rfl|exact Or.inr rfl|apply bw|apply bx|apply bz|apply bD|exact⟨(by show(_:Nat)<1000000000;omega),rfl,rfl⟩|rfl|(refine And.intro (Or.inl ?_) ?_)|(refine And.intro ?_ ?_))),?_,?_⟩;(·exact⟨Nat.zero_le _,rfl⟩);·intro j⟨hj,hej⟩cB;refine av ae ⟨_,Mu,rfl⟩ 2000 _ _ (by kernel_rfl) ?_;simp only[go_sem,zA,↓reduceIte,↓reduceDIte,zB,zC,zD,zE,zF,zG,zH,zI];refine⟨Int.natCast_nonneg _,x,dE,fun h4=>?_,fun h4=>?_⟩;(·obtain⟨u,hu⟩: ∃u,x[j]?=some u:=an (by omega);obtain⟨v,hv⟩: ∃v,y[j]?=some v:=an (by omega);refine⟨Int.natCast_nonneg _,x,dE,Int.natCast_nonneg _,u,hu,Int.natCast_nonneg _,y,hyi,Int.natCast_nonneg _,v,hv,fun hn=>?_,fun⟨e1,e2⟩=>?_⟩;(·symm;refine decide_eq_false fun hs=>hn ?_;(have h5:S[k]?=S'[k]?:=by rw[show S=S' from hs.2.1]);rw[dE,hyi]at h5;(have h6:x[j]?=y[j]?:=by rw[Option.some.inj h5]);rw[hu,hv]at h6;rw[Option.some.inj h6];exact⟨rfl,rfl⟩);·have huv:u=v:=Prod.ext e1 e2;have bA6:x.length≤9223372036854775807:=(hx.1.2.1.2 x (List.mem_of_getElem? dE)).1;exact⟨aw (by omega) (by omega),cB _ (j+1) (by refine⟨?_,?_,rfl,rfl⟩<;>repeat' (first|exact trivial|exact Or.inl rfl|exact Or.inr rfl|apply bw|apply bx|apply bz|apply bD|exact⟨(by show(_:Nat)<1000000000;omega),rfl,rfl⟩|rfl|(refine And.intro (Or.inl ?_) ?_)|(refine And.intro ?_ ?_))) ⟨by omega,by rw[aY hu,aY hv,hej,huv]⟩ (by omega)⟩);·have hxy:=BH zL (by omega) hej;have bA7:S.length≤9223372036854775807:=hx.1.2.1.1;exact⟨aw (by omega) (by omega),back _ (k+1) (by refine⟨?_,?_,rfl,rfl⟩<;>repeat' (first|exact trivial|exact Or.inl rfl|exact Or.inr rfl|apply bw|apply bx|apply bz|apply bD|exact⟨(by show(_:Nat)<1000000000;omega),rfl,rfl⟩|rfl|(refine And.intro (Or.inl ?_) ?_)|(refine And.intro ?_ ?_))) ⟨by omega,by rw[aY dE,aY hyi,he,hxy]⟩ (by omega)⟩);·have hSS:=BH hSl (by omega) he;refine ah.bH (X:=Nat) (fun(j:Nat)=>[(7,.iv (.int .i64) (j:Int))]) (fun(j:Nat)=>[]) (fun(j:Nat)=>j≤P.length∧P.take j=P'.take j) (fun(j:Nat)=>P.length-j) 0 ?_;intro b1 b2 bg bu;simp(config:= {maxSteps:=4000000})only[go_sem,zA,↓reduceIte,↓reduceDIte,zB,zC,zD,zE,zF,zG,zH,zI]at bg bu;subst bg;subst bu;refine⟨(by refine⟨?_,?_,rfl,rfl⟩<;>repeat' (first|exact trivial|exact Or.inl rfl|exact Or.inr rfl|apply bw|apply bx|apply bz|apply bD|exact⟨(by show(_:Nat)<1000000000;omega),rfl,rfl⟩|rfl|(refine And.intro (Or.inl ?_) ?_)|(refine And.intro ?_ ?_))),?_,?_⟩;(·exact⟨Nat.zero_le _,rfl⟩);·intro j⟨hj,hej⟩cB;refine av ae ⟨_,Mu,rfl⟩ 2000 _ _ (by kernel_rfl) ?_;simp only[go_sem,zA,↓reduceIte,↓reduceDIte,zB,zC,zD,zE,zF,zG,zH,zI];refine⟨fun h4=>?_,fun h4=>?_⟩;(·obtain⟨u,hu⟩: ∃u,P[j]?=some u:=an (by omega);obtain⟨v,hv⟩: ∃v,P'[j]?=some v:=an (by omega);refine⟨Int.natCast_nonneg _,u,hu,Int.natCast_nonneg _,v,hv,fun hn=>?_,fun⟨e1,e2,e3⟩=>?_⟩;(·symm;refine decide_eq_false fun hs=>hn ?_;(have h6:P[j]?=P'[j]?:=by rw[show P=P' from hs.2.2.2.1]);rw[hu,hv]at h6;rw[Option.some.inj h6];exact⟨rfl,rfl,rfl⟩);·have huv:u=v:=Prod.ext e1 (Prod.ext e2 e3);have bA8:P.length≤9223372036854775807:=hx.1.2.2.2.1.1;exact⟨aw (by omega) (by omega),cB _ (j+1) (by refine⟨?_,?_,rfl,rfl⟩<;>repeat' (first|exact trivial|exact Or.inl rfl|exact Or.inr rfl|apply bw|apply bx|apply bz|apply bD|exact⟨(by show(_:Nat)<1000000000;omega),rfl,rfl⟩|rfl|(refine And.intro (Or.inl ?_) ?_)|(refine And.intro ?_ ?_))) ⟨by omega,by rw[aY hu,aY hv,hej,huv]⟩ (by omega)⟩);·have hxy:=BH hPl (by omega) hej;symm;exact decide_eq_true ⟨hE,hSS,hc,hxy,hh⟩)
 (·symm;exact decide_eq_false fun hs=>hn (congrArg (fun l:List Pin=>(l.length:Int)) hs.2.2.2.1));(·symm;exact decide_eq_false fun hs=>hn hs.2.2.1);(·symm;exact decide_eq_false fun hs=>hn (congrArg (fun l:List Slot=>(l.length:Int)) hs.2.1))
 ·symm;exact decide_eq_false fun hs=>hn hs.1
end Go.Proofs.YtgpkijnphchkpaaGreat
namespace Go.Proofs.YtgpkijnphchkpaaGreat
attribute[local go_sem←]Bool.decide_and Bool.decide_or decide_not
attribute[local go_sem]ft bC
set_option maxHeartbeats 4000000
set_option maxRecDepth 100000
set_option synthInstance.maxHeartbeats 400000
set_option synthInstance.maxSize 2000
theorem nG:iB jF:=⟨by decide,by decide,by decide,by decide,by decide,by decide,by decide⟩
theorem vB:(eX jF).2=0:=by rw[Bc nG]
theorem a71:xZ jF [65,66]=([ib 97,ib 98],0):=by decide+kernel
theorem a72:I2 jF [[65,66],[65]]=(([ib 97,ib 98,ib 97],[[(97,0)],[(98,0)],[(97,0)]],3,[(0,2,-1),(2,3,-1)],0),0):=by decide+kernel
theorem a73:I2 jF [[65,66],[67]]=(D4,50):=by decide+kernel
theorem a74:xZ jF []=([],90):=by decide+kernel
theorem a75:I2 jF []=(D4,0):=by decide+kernel
def aA6:Ln.yx:=([],[],0,0,0,0,0,0,0,0)
def bo3:Ln.Rec:=(0,0,0,[65],0,1)
def lV:Ln.yx:=([(0,1,0,[65],0,1)],[],1,0,0,0,0,0,0,0)
theorem a76:Ln.FQ aA6 bo3=(lV,1,0):=by rw[Ln.FQ];kernel_rfl
theorem a77:(fR Ln.fq lV 0 0 [0,1] lV).2=0∧(fR Ln.fq lV 0 0 [0,1] lV).1.1.length=0∧(fR Ln.fq lV 0 0 [0,1] lV).1.2.1.length=1:=by decide+kernel
theorem a78:(fR Ln.fq lV 0 0 [-1] lV).2=240:=by decide+kernel
namespace Sa
noncomputable def kr:Env:= { env with ro:=fun d t=>bif(Nat.beq d 72&&Nat.beq t 63)then true else env.ro d t }
theorem BD:kr.P=env.P:=rfl
theorem vj {t:Nat} :kr.ty t=env.ty t:=rfl
theorem qw {t:Nat} :kr.str t=env.str t:=rfl
theorem qx {t:Nat} :kr.cmp t=env.cmp t:=rfl
theorem vk {f:Nat} :kr.fn f=env.fn f:=rfl
theorem qy {f:Nat} :kr.dJ f=env.dJ f:=rfl
theorem jU {t:Nat} :kr.mapKey t=env.mapKey t:=rfl
theorem vm:kr.tm=env.tm:=rfl
theorem nD {t:Nat} :kr.Ee t=env.Ee t:=rfl
theorem qz {t:Nat} :kr.Ef t=env.Ef t:=rfl
theorem vo {f:Nat} :kr.nd f=env.nd f:=rfl
theorem qA {t:Nat} :kr.Jk t=env.Jk t:=rfl
theorem vp {f:Nat} :kr.px f=env.px f:=rfl
theorem vq {f i:Nat} :kr.fl f i=env.fl f i:=rfl
theorem qB {t:Nat} :kr.emp t=env.emp t:=rfl
theorem qC {f i:Nat} :kr.yi f i=env.yi f i:=rfl
theorem nE {t:Nat} {m:String} :kr.nL t m=env.nL t m:=rfl
theorem vr {d t:Nat} :kr.ro d t=bif(Nat.beq d 72&&Nat.beq t 63)then true else env.ro d t:=rfl
theorem au4:aG kr:=by have h:=ae;exact⟨h.ty,h.fn,h.res,h.dJ,h.cmp,h.mapKey,h.mixed,h.Ef,h.Jk,h.emp,h.nL⟩
theorem Vj {f:Nat} {xs:List (Sigma Ty.den)} {T:Ty} {r:T.den} (h:PC env f xs T r):PC kr f xs T r:=h
theorem th:PC kr 9 [] .bool true:=by
 have h1:=Vj (a71▸qG jF nG vB [65,66]);have h2:=Vj (a72▸Ll jF nG vB [[65,66],[65]] (by decide));have h3:=Vj (a73▸Ll jF nG vB [[65,66],[67]] (by decide));have h4:=Vj (a74▸qG jF nG vB [])
 have h5:=Vj (a75▸Ll jF nG vB [] (by decide));have h6:=a76▸Ln.Ve aA6 bo3 (by decide) (fun i h0 h7=>by(have h:i=0∨i=1∨i=2∨i=3∨i=4∨i=5∨i=6∨i=7:=by omega);rcases h with rfl|rfl|rfl|rfl|rfl|rfl|rfl|rfl<;>decide)
 have h7:=Vj (D6 lV 0 0 [0,1] (by decide));have h8:=Vj (D6 lV 0 0 [-1] (by decide));obtain⟨⟨R7,O7,L7⟩,e7,hf7⟩: ∃a e,fR Ln.fq lV 0 0 [0,1] lV=(a,e):=⟨_,_,rfl⟩;obtain⟨u8,e8,hf8⟩: ∃a e,fR Ln.fq lV 0 0 [-1] lV=(a,e):=⟨_,_,rfl⟩
 have g7:=a77;have g8:=a78;rw[hf7]at h7 g7;rw[hf8]at h8 g8;obtain⟨g1,g2,g3⟩:=g7;dsimp only at g1 g2 g3 g8;subst g1;subst g8;refine PC.ay (m:=2000) au4 bu6 rfl rfl rfl rfl (by kernel_rfl) ?_
 intro hx;simp only[Tryz.f9];simp only[go_sem,zA,↓reduceIte,↓reduceDIte,zB,zC,zD,zE,zF,zG,zH,zI,BD,vj,qw,qx,vk,qy,jU,vm,nD,qz,vo,qA,vp,vq,qB,qC,nE,vr];refine⟨_,vA,fun _=>⟨_,h1,fun _=>⟨_,vA,fun _=>⟨_,h2,fun _=>⟨_,vA,fun _=>⟨_,h3,fun _=>⟨_,vA,fun _=>⟨_,h4,fun _=>⟨_,vA,fun _=>⟨_,h5,fun _=>⟨_,Vj h6,fun _=>⟨_,h7,fun _=>⟨_,h8,fun _=>?_⟩⟩⟩⟩⟩⟩⟩⟩⟩⟩⟩⟩⟩
 simp only[go_sem,zA,↓reduceIte,↓reduceDIte,zB,zC,zD,zE,zF,zG,zH,zI,BD,vj,qw,qx,vk,qy,jU,vm,nD,qz,vo,qA,vp,vq,qB,qC,nE,vr];have p1:PC kr 16 [⟨.sl bP,[ib 97,ib 98]⟩,⟨.sl bP,[ib 97,ib 98]⟩] .bool true:=Vj (vz [ib 97,ib 98] [ib 97,ib 98])
 have p2:PC kr 20 [⟨gK,([ib 97,ib 98,ib 97],[[(97,0)],[(98,0)],[(97,0)]],3,[(0,2,-1),(2,3,-1)],0)⟩,⟨gK,([ib 97,ib 98,ib 97],[[(97,0)],[(98,0)],[(97,0)]],3,[(0,2,-1),(2,3,-1)],0)⟩] .bool true:=Vj (I6 _ _)
 have p3:PC kr 20 [⟨gK,D4⟩,⟨gK,D4⟩] .bool true:=Vj (I6 _ _);refine⟨⟨_,p1,?_⟩,fun h=>absurd trivial h⟩;simp only[go_sem,zA,↓reduceIte,↓reduceDIte,zB,zC,zD,zE,zF,zG,zH,zI,BD,vj,qw,qx,vk,qy,jU,vm,nD,qz,vo,qA,vp,vq,qB,qC,nE,vr]
 refine⟨_,p2,?_⟩;simp only[go_sem,zA,↓reduceIte,↓reduceDIte,zB,zC,zD,zE,zF,zG,zH,zI,BD,vj,qw,qx,vk,qy,jU,vm,nD,qz,vo,qA,vp,vq,qB,qC,nE,vr];refine⟨_,p3,?_⟩;simp only[go_sem,zA,↓reduceIte,↓reduceDIte,zB,zC,zD,zE,zF,zG,zH,zI,BD,vj,qw,qx,vk,qy,jU,vm,nD,qz,vo,qA,vp,vq,qB,qC,nE,vr]
 exact⟨fun _=>⟨fun _=>trivial,fun h=>absurd (by omega) h⟩,fun h=>absurd (by omega) h⟩
end Sa
theorem th:PC env 9 [] .bool true:=Sa.th
end Go.Proofs.YtgpkijnphchkpaaGreat
