/- Contract: the fixed examples. Nothing here is trusted; no condition. -/
import Derived.Test.YtgpkijnphchkpaaGreatR2
set_option linter.unusedSimpArgs false
set_option linter.unusedVariables false
open Nat renaming reduceBEq→zA,reduceAdd→zB,reduceSub→zC,reduceMul→zD,reduceLeDiff→zE
open Int renaming reduceLT→zF,reduceLE→zG,reduceToNat→zH,reduceNeg→zI
namespace Go.Proofs.YtgpkijnphchkpaaGreat
attribute[local go_sem←]Bool.decide_and Bool.decide_or decide_not
attribute[local go_sem]fg bz St.fin pdI St.dV aS
set_option maxHeartbeats 4000000
set_option maxRecDepth 100000
end Go.Proofs.YtgpkijnphchkpaaGreat
namespace Go.Proofs.YtgpkijnphchkpaaGreat
attribute[local go_sem←]Bool.decide_and Bool.decide_or decide_not
set_option maxHeartbeats 4000000
set_option maxRecDepth 100000
abbrev bf9(a b:LA):Prop:=a.1.map JR=b.1.map JR∧a.2.1=b.2.1∧a.2.2.1=b.2.2.1∧a.2.2.2.1=b.2.2.2.1∧a.2.2.2.2=b.2.2.2.2
theorem z7 {α:Type} {a b:List α} (h:a.length=b.length) {k:Nat} (hk: ¬k<a.length)(e:a.take k=b.take k):a=b:=by rwa[List.take_of_length_le (by omega),List.take_of_length_le (by omega)]at e
theorem Ht(a b:LA):PC env 20 [⟨gA,a⟩,⟨gA,b⟩] .bool (decide (bf9 a b)):=by
 obtain⟨E,S,c,P,h⟩:=a;obtain⟨E',S',c',P',h'⟩:=b;refine PC.ay (m:=2000) ae KR rfl rfl rfl rfl (by kernel_rfl) ?_;intro hx;simp only[Tryz.f20];simp only[go_sem,zA,↓reduceIte,↓reduceDIte,zB,zC,zD,zE,zF,zG,zH,zI]
 refine⟨_,PC.dec (tT E E'),?_⟩;simp only[go_sem,zA,↓reduceIte,↓reduceDIte,zB,zC,zD,zE,zF,zG,zH,zI];refine⟨fun hE=>⟨fun hS=>⟨fun hc=>⟨fun hP=>⟨fun hh=>?_,fun hh=>?_⟩,fun hn=>?_⟩,fun hn=>?_⟩,fun hn=>?_⟩,fun hn=>?_⟩
 (·symm;exact decide_eq_false fun hs=>hh hs.2.2.2.2);(·(have hSl:S.length=S'.length:=by omega);(have hPl:P.length=P'.length:=by omega);refine ah.bE (X:=Nat) (fun(k:Nat)=>[(5,.iv (.int .i64) (k:Int))]) (fun(k:Nat)=>[]) (fun(k:Nat)=>k≤S.length∧S.take k=S'.take k) (fun(k:Nat)=>S.length-k) 0 ?_;intro b1 b2 ba bq;simp(config:= {maxSteps:=4000000})only[go_sem,zA,↓reduceIte,↓reduceDIte,zB,zC,zD,zE,zF,zG,zH,zI]at ba bq;subst ba;subst bq;refine⟨(by refine⟨?_,?_,rfl,rfl⟩<;>repeat' (first|exact trivial|exact Or.inl rfl|exact Or.inr rfl|apply br|apply bt|apply bu|apply bA|exact⟨(by show(_:Nat)<1000000000;omega),rfl,rfl⟩|rfl|(refine And.intro (Or.inl ?_) ?_)|(refine And.intro ?_ ?_))),?_,?_⟩;(·exact⟨Nat.zero_le _,rfl⟩);·intro k⟨hk,he⟩back;refine av ae ⟨_,KR,rfl⟩ 2000 _ _ (by kernel_rfl) ?_;simp only[go_sem,zA,↓reduceIte,↓reduceDIte,zB,zC,zD,zE,zF,zG,zH,zI];refine⟨fun h2=>?_,fun h2=>?_⟩;(·obtain⟨x,dv⟩: ∃x,S[k]?=some x:=an (by omega);obtain⟨y,hyi⟩: ∃y,S'[k]?=some y:=an (by omega);refine⟨Int.natCast_nonneg _,x,dv,Int.natCast_nonneg _,y,hyi,?_⟩;refine⟨fun hn=>?_,fun hl=>?_⟩;(·symm;refine decide_eq_false fun hs=>hn ?_;(have h3:S[k]?=S'[k]?:=by rw[show S=S' from hs.2.1]);rw[dv,hyi]at h3;rw[Option.some.inj h3]);·(have xX:x.length=y.length:=by omega);refine ah.bE (X:=Nat) (fun(j:Nat)=>[(6,.iv (.int .i64) (j:Int))]) (fun(j:Nat)=>[]) (fun(j:Nat)=>j≤x.length∧x.take j=y.take j) (fun(j:Nat)=>x.length-j) 0 ?_;intro b1 b2 ba bq;simp(config:= {maxSteps:=4000000})only[go_sem,zA,↓reduceIte,↓reduceDIte,zB,zC,zD,zE,zF,zG,zH,zI]at ba bq;subst ba;subst bq;refine⟨(by refine⟨?_,?_,rfl,rfl⟩<;>repeat' (first|exact trivial|exact Or.inl rfl|exact Or.inr rfl|apply br|apply bt|apply bu|apply bA|exact⟨(by show(_:Nat)<1000000000;omega),rfl,rfl⟩|rfl|(refine And.intro (Or.inl ?_) ?_)|(refine And.intro ?_ ?_))),?_,?_⟩;(·exact⟨Nat.zero_le _,rfl⟩);·intro j⟨hj,hej⟩cw;refine av ae ⟨_,KR,rfl⟩ 2000 _ _ (by kernel_rfl) ?_;simp only[go_sem,zA,↓reduceIte,↓reduceDIte,zB,zC,zD,zE,zF,zG,zH,zI];refine⟨Int.natCast_nonneg _,x,dv,fun h4=>?_,fun h4=>?_⟩;(·obtain⟨u,hu⟩: ∃u,x[j]?=some u:=an (by omega);obtain⟨v,hv⟩: ∃v,y[j]?=some v:=an (by omega);refine⟨Int.natCast_nonneg _,x,dv,Int.natCast_nonneg _,u,hu,Int.natCast_nonneg _,y,hyi,Int.natCast_nonneg _,v,hv,fun hn=>?_,fun⟨e1,e2⟩=>?_⟩;(·symm;refine decide_eq_false fun hs=>hn ?_;(have h5:S[k]?=S'[k]?:=by rw[show S=S' from hs.2.1]);rw[dv,hyi]at h5;(have h6:x[j]?=y[j]?:=by rw[Option.some.inj h5]);rw[hu,hv]at h6;rw[Option.some.inj h6];exact⟨rfl,rfl⟩);·have huv:u=v:=Prod.ext e1 e2;have bt4:x.length≤9223372036854775807:=(hx.1.2.1.2 x (List.mem_of_getElem? dv)).1;exact⟨aw (by omega) (by omega),cw _ (j+1) (by refine⟨?_,?_,rfl,rfl⟩<;>repeat' (first|exact trivial|exact Or.inl rfl|exact Or.inr rfl|apply br|apply bt|apply bu|apply bA|exact⟨(by show(_:Nat)<1000000000;omega),rfl,rfl⟩|rfl|(refine And.intro (Or.inl ?_) ?_)|(refine And.intro ?_ ?_))) ⟨by omega,by rw[aY hu,aY hv,hej,huv]⟩ (by omega)⟩);·have hxy:=z7 xX (by omega) hej;have bt5:S.length≤9223372036854775807:=hx.1.2.1.1;exact⟨aw (by omega) (by omega),back _ (k+1) (by refine⟨?_,?_,rfl,rfl⟩<;>repeat' (first|exact trivial|exact Or.inl rfl|exact Or.inr rfl|apply br|apply bt|apply bu|apply bA|exact⟨(by show(_:Nat)<1000000000;omega),rfl,rfl⟩|rfl|(refine And.intro (Or.inl ?_) ?_)|(refine And.intro ?_ ?_))) ⟨by omega,by rw[aY dv,aY hyi,he,hxy]⟩ (by omega)⟩);·have hSS:=z7 hSl (by omega) he;refine ah.bE (X:=Nat) (fun(j:Nat)=>[(7,.iv (.int .i64) (j:Int))]) (fun(j:Nat)=>[]) (fun(j:Nat)=>j≤P.length∧P.take j=P'.take j) (fun(j:Nat)=>P.length-j) 0 ?_;intro b1 b2 ba bq;simp(config:= {maxSteps:=4000000})only[go_sem,zA,↓reduceIte,↓reduceDIte,zB,zC,zD,zE,zF,zG,zH,zI]at ba bq;subst ba;subst bq;refine⟨(by refine⟨?_,?_,rfl,rfl⟩<;>repeat' (first|exact trivial|exact Or.inl rfl|exact Or.inr rfl|apply br|apply bt|apply bu|apply bA|exact⟨(by show(_:Nat)<1000000000;omega),rfl,rfl⟩|rfl|(refine And.intro (Or.inl ?_) ?_)|(refine And.intro ?_ ?_))),?_,?_⟩;(·exact⟨Nat.zero_le _,rfl⟩);·intro j⟨hj,hej⟩cw;refine av ae ⟨_,KR,rfl⟩ 2000 _ _ (by kernel_rfl) ?_;simp only[go_sem,zA,↓reduceIte,↓reduceDIte,zB,zC,zD,zE,zF,zG,zH,zI];refine⟨fun h4=>?_,fun h4=>?_⟩;(·obtain⟨u,hu⟩: ∃u,P[j]?=some u:=an (by omega);obtain⟨v,hv⟩: ∃v,P'[j]?=some v:=an (by omega);refine⟨Int.natCast_nonneg _,u,hu,Int.natCast_nonneg _,v,hv,fun hn=>?_,fun⟨e1,e2,e3⟩=>?_⟩;(·symm;refine decide_eq_false fun hs=>hn ?_;(have h6:P[j]?=P'[j]?:=by rw[show P=P' from hs.2.2.2.1]);rw[hu,hv]at h6;rw[Option.some.inj h6];exact⟨rfl,rfl,rfl⟩);·have huv:u=v:=Prod.ext e1 (Prod.ext e2 e3);have bt6:P.length≤9223372036854775807:=hx.1.2.2.2.1.1;exact⟨aw (by omega) (by omega),cw _ (j+1) (by refine⟨?_,?_,rfl,rfl⟩<;>repeat' (first|exact trivial|exact Or.inl rfl|exact Or.inr rfl|apply br|apply bt|apply bu|apply bA|exact⟨(by show(_:Nat)<1000000000;omega),rfl,rfl⟩|rfl|(refine And.intro (Or.inl ?_) ?_)|(refine And.intro ?_ ?_))) ⟨by omega,by rw[aY hu,aY hv,hej,huv]⟩ (by omega)⟩);·have hxy:=z7 hPl (by omega) hej;symm;exact decide_eq_true ⟨hE,hSS,hc,hxy,hh⟩)
 (·symm;exact decide_eq_false fun hs=>hn (congrArg (fun l:List Pin=>(l.length:Int)) hs.2.2.2.1));(·symm;exact decide_eq_false fun hs=>hn hs.2.2.1);(·symm;exact decide_eq_false fun hs=>hn (congrArg (fun l:List Slot=>(l.length:Int)) hs.2.1))
 ·symm;exact decide_eq_false fun hs=>hn hs.1
end Go.Proofs.YtgpkijnphchkpaaGreat
namespace Go.Proofs.YtgpkijnphchkpaaGreat
attribute[local go_sem←]Bool.decide_and Bool.decide_or decide_not
attribute[local go_sem]fg bz
set_option maxHeartbeats 4000000
set_option maxRecDepth 100000
set_option synthInstance.maxHeartbeats 400000
set_option synthInstance.maxSize 2000
theorem mV:ij jt:=⟨by decide,by decide,by decide,by decide,by decide,by decide,by decide⟩
theorem tV:(eP jt).2=0:=by rw[zu mV]
theorem aY6:wo jt [65,66]=([gT 97,gT 98],0):=by decide+kernel
theorem aY7:Hp jt [[65,66],[65]]=(([gT 97,gT 98,gT 97],[[(97,0)],[(98,0)],[(97,0)]],3,[(0,2,-1),(2,3,-1)],0),0):=by decide+kernel
theorem aY8:Hp jt [[65,66],[67]]=(Cu,50):=by decide+kernel
theorem aY9:wo jt []=([],90):=by decide+kernel
theorem aZ0:Hp jt []=(Cu,0):=by decide+kernel
def ar9:Ln.vz:=([],[],0,0,0,0,0,0,0,0)
def bg0:Ln.Rec:=(0,0,0,[65],0,1)
def ly:Ln.vz:=([(0,1,0,[65],0,1)],[],1,0,0,0,0,0,0,0)
theorem aZ1:Ln.Eb ar9 bg0=(ly,1,0):=by rw[Ln.Eb];kernel_rfl
theorem aZ2:(fH Ln.ff ly 0 0 [0,1] ly).2=0∧(fH Ln.ff ly 0 0 [0,1] ly).1.1.length=0∧(fH Ln.ff ly 0 0 [0,1] ly).1.2.1.length=1:=by decide+kernel
theorem aZ3:(fH Ln.ff ly 0 0 [-1] ly).2=240:=by decide+kernel
namespace Sa
noncomputable def kj:Env:= { env with ro:=fun d t=>bif(Nat.beq d 72&&Nat.beq t 63)then true else env.ro d t }
theorem al6:aG kj:=by have h:=ae;exact⟨h.ty,h.fn,h.res,h.dA,h.cmp,h.mapKey,h.mixed,h.CF,h.HI,h.emp,h.m3⟩
theorem TO {f:Nat} {xs:List (Sigma Ty.den)} {T:Ty} {r:T.den} (h:PC env f xs T r):PC kj f xs T r:=h
theorem rT:PC kj 9 [] .bool true:=by
 have h1:=TO (aY6▸pH jt mV tV [65,66]);have h2:=TO (aY7▸JQ jt mV tV [[65,66],[65]] (by decide));have h3:=TO (aY8▸JQ jt mV tV [[65,66],[67]] (by decide));have h4:=TO (aY9▸pH jt mV tV [])
 have h5:=TO (aZ0▸JQ jt mV tV [] (by decide));have h6:=aZ1▸Ln.TJ ar9 bg0 (by decide) (fun i h0 h7=>by(have h:i=0∨i=1∨i=2∨i=3∨i=4∨i=5∨i=6∨i=7:=by omega);rcases h with rfl|rfl|rfl|rfl|rfl|rfl|rfl|rfl<;>decide)
 have h7:=TO (Cv ly 0 0 [0,1] (by decide));have h8:=TO (Cv ly 0 0 [-1] (by decide));obtain⟨⟨R7,O7,L7⟩,e7,hf7⟩: ∃a e,fH Ln.ff ly 0 0 [0,1] ly=(a,e):=⟨_,_,rfl⟩;obtain⟨u8,e8,hf8⟩: ∃a e,fH Ln.ff ly 0 0 [-1] ly=(a,e):=⟨_,_,rfl⟩
 have g7:=aZ2;have g8:=aZ3;rw[hf7]at h7 g7;rw[hf8]at h8 g8;obtain⟨g1,g2,g3⟩:=g7;dsimp only at g1 g2 g3 g8;subst g1;subst g8;refine PC.ay (m:=2000) al6 bm0 rfl rfl rfl rfl (by kernel_rfl) ?_
 intro hx;simp only[Tryz.f9];simp only[go_sem,zA,↓reduceIte,↓reduceDIte,zB,zC,zD,zE,zF,zG,zH,zI,z4,tJ,pg,ph,tK,pj,jJ,tL,mS,pA,tM,pB,tN,tO,pC,pD,mT,tP];refine⟨_,tU,fun _=>⟨_,h1,fun _=>⟨_,tU,fun _=>⟨_,h2,fun _=>⟨_,tU,fun _=>⟨_,h3,fun _=>⟨_,tU,fun _=>⟨_,h4,fun _=>⟨_,tU,fun _=>⟨_,h5,fun _=>⟨_,TO h6,fun _=>⟨_,h7,fun _=>⟨_,h8,fun _=>?_⟩⟩⟩⟩⟩⟩⟩⟩⟩⟩⟩⟩⟩
 simp only[go_sem,zA,↓reduceIte,↓reduceDIte,zB,zC,zD,zE,zF,zG,zH,zI,z4,tJ,pg,ph,tK,pj,jJ,tL,mS,pA,tM,pB,tN,tO,pC,pD,mT,tP];have p1:PC kj 16 [⟨.sl bM,[gT 97,gT 98]⟩,⟨.sl bM,[gT 97,gT 98]⟩] .bool true:=TO (tT [gT 97,gT 98] [gT 97,gT 98])
 have p2:PC kj 20 [⟨gA,([gT 97,gT 98,gT 97],[[(97,0)],[(98,0)],[(97,0)]],3,[(0,2,-1),(2,3,-1)],0)⟩,⟨gA,([gT 97,gT 98,gT 97],[[(97,0)],[(98,0)],[(97,0)]],3,[(0,2,-1),(2,3,-1)],0)⟩] .bool true:=TO (Ht _ _)
 have p3:PC kj 20 [⟨gA,Cu⟩,⟨gA,Cu⟩] .bool true:=TO (Ht _ _);refine⟨⟨_,p1,?_⟩,fun h=>absurd trivial h⟩;simp only[go_sem,zA,↓reduceIte,↓reduceDIte,zB,zC,zD,zE,zF,zG,zH,zI,z4,tJ,pg,ph,tK,pj,jJ,tL,mS,pA,tM,pB,tN,tO,pC,pD,mT,tP]
 refine⟨_,p2,?_⟩;simp only[go_sem,zA,↓reduceIte,↓reduceDIte,zB,zC,zD,zE,zF,zG,zH,zI,z4,tJ,pg,ph,tK,pj,jJ,tL,mS,pA,tM,pB,tN,tO,pC,pD,mT,tP];refine⟨_,p3,?_⟩;simp only[go_sem,zA,↓reduceIte,↓reduceDIte,zB,zC,zD,zE,zF,zG,zH,zI,z4,tJ,pg,ph,tK,pj,jJ,tL,mS,pA,tM,pB,tN,tO,pC,pD,mT,tP]
 exact⟨fun _=>⟨fun _=>trivial,fun h=>absurd (by omega) h⟩,fun h=>absurd (by omega) h⟩
end Sa
theorem rT:PC env 9 [] .bool true:=Sa.rT
end Go.Proofs.YtgpkijnphchkpaaGreat
