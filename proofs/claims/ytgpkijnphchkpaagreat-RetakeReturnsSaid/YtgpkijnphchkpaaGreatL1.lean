/- Contracts: lists by places, of records. Nothing here is trusted; no condition. -/
import Derived.Test.YtgpkijnphchkpaaGreatD5
set_option linter.unusedSimpArgs false
set_option linter.unusedVariables false
open Nat renaming reduceBEq→zA,reduceAdd→zB,reduceSub→zC,reduceMul→zD,reduceLeDiff→zE
open Int renaming reduceLT→zF,reduceLE→zG,reduceToNat→zH,reduceNeg→zI
namespace Go.Proofs.YtgpkijnphchkpaaGreat.Ln
attribute[local go_sem←]Bool.decide_and Bool.decide_or decide_not
set_option maxHeartbeats 4000000
set_option maxRecDepth 100000
theorem aw {x:Int} (h: -9223372036854775808≤x)(h':x≤9223372036854775807):IntKind.i64.min≤x∧x≤IntKind.i64.max:=⟨h,h'⟩
theorem drop_cons {α:Type} {xs:List α} {i:Nat} {x:α} (h:xs[i]?=some x):xs.drop i=x::xs.drop (i+1):=by obtain⟨hi,e⟩:=List.getElem?_eq_some_iff.1 h;rw[List.drop_eq_getElem_cons hi,e]
theorem aY {α:Type} {xs:List α} {i:Nat} {x:α} (h:xs[i]?=some x):xs.take (i+1)=xs.take i++ [x]:=by rw[List.take_add_one,h];rfl
theorem an {α:Type} {xs:List α} {i:Nat} (h:i<xs.length): ∃x,xs[i]?=some x:=⟨_,List.getElem?_eq_getElem h⟩
theorem Lr(a:Int):PC env 158 [⟨.int .i64,a⟩] .bool false:=by
 refine PC.ay (m:=2000) ae aT1 rfl rfl rfl rfl (by kernel_rfl) ?_;intro hx;simp only[Tryz.f158];simp only[go_sem,zA,↓reduceIte,↓reduceDIte,zB,zC,zD,zE,zF,zG,zH,zI]
def JL(a b:Int):Int:=if a<b then-1 else if b<a then 1 else 0
theorem Cq(a b:Int):PC env 137 [⟨.int .i64,a⟩,⟨.int .i64,b⟩] (.int .i64) (JL a b):=by
 refine PC.ay (m:=2000) ae aS1 rfl rfl rfl rfl (by kernel_rfl) ?_;intro hx;simp only[Tryz.f137];simp only[go_sem,zA,↓reduceIte,↓reduceDIte,zB,zC,zD,zE,zF,zG,zH,zI]
 refine⟨_,Lr a,?_⟩;simp only[go_sem,zA,↓reduceIte,↓reduceDIte,zB,zC,zD,zE,zF,zG,zH,zI];refine⟨_,Lr b,?_⟩;simp only[go_sem,zA,↓reduceIte,↓reduceDIte,zB,zC,zD,zE,zF,zG,zH,zI]
 unfold JL;refine⟨fun h=>?_,fun h=>⟨fun h'=>?_,fun h'=>?_⟩⟩;(·rw[if_pos h]);(·rw[if_neg h,if_pos h']);·rw[if_neg h,if_neg h']
theorem bp3(xs:List Int):PC env 136 [⟨.sl (.int .i64),xs⟩] (.int .i64) ((xs.find? (·≠0)).getD 0):=by
 refine PC.ay (m:=2000) ae Sz rfl rfl rfl rfl (by kernel_rfl) ?_;intro hx;simp only[Tryz.f136];simp only[go_sem,zA,↓reduceIte,↓reduceDIte,zB,zC,zD,zE,zF,zG,zH,zI]
 refine ah.qG (X:=Nat) (fun i=>⟨[(8,.iv (.int .i64) (i:Int)),(7,.iv (.int .i64) (xs.length:Int)),(6,.iv (.sl (.int .i64)) xs),(3,.iv (.int .i64) (0:Int))],[]⟩) (fun i=>i≤xs.length∧(xs.take i).find? (·≠0)=none) (fun i=>xs.length-i) 0 (by refine⟨?_,?_,rfl,rfl⟩<;>repeat' (first|exact trivial|exact Or.inl rfl|exact Or.inr rfl|apply br|apply bt|apply bu|apply bA|exact⟨(by show(_:Nat)<1000000000;omega),rfl,rfl⟩|rfl|(refine And.intro (Or.inl ?_) ?_)|(refine And.intro ?_ ?_))) ⟨Nat.zero_le _,rfl⟩ ?_
 intro i⟨hi,hb⟩back;refine av ae ⟨_,Sz,rfl⟩ 2000 _ _ (by kernel_rfl) ?_;simp only[go_sem,zA,↓reduceIte,↓reduceDIte,zB,zC,zD,zE,zF,zG,zH,zI];refine⟨fun h=>?_,fun h=>?_⟩
 (·obtain⟨x,dv⟩: ∃x,xs[i]?=some x:=an (by omega);refine⟨by omega,x,dv,fun h'=>?_,fun h'=>⟨?_,?_⟩⟩;(·(have:xs.find? (·≠0)=some x:=by rw[←List.take_append_drop i xs,List.find?_append,hb,drop_cons dv];simp[h']);rw[this];rfl);(·simp only[oks,Ty.ok]at hx;exact aw (by omega) (by omega));·refine back _ (i+1) (by refine⟨?_,?_,rfl,rfl⟩<;>repeat' (first|exact trivial|exact Or.inl rfl|exact Or.inr rfl|apply br|apply bt|apply bu|apply bA|exact⟨(by show(_:Nat)<1000000000;omega),rfl,rfl⟩|rfl|(refine And.intro (Or.inl ?_) ?_)|(refine And.intro ?_ ?_))) ⟨by omega,?_⟩ (by omega);rw[List.take_add_one,List.find?_append,hb,dv];simp[h'])
 ·have e:xs.take i=xs:=List.take_of_length_le (by omega);rw[e]at hb;rw[hb];rfl
def NH(x y:Int×Int):Int:=if JL x.1 y.1≠0 then JL x.1 y.1 else JL x.2 y.2
theorem aY0(x y:Int×Int):PC env 100 [⟨bY,x⟩,⟨bY,y⟩] (.int .i64) (NH x y):=by
 refine PC.ay (m:=2000) ae aR0 rfl rfl rfl rfl (by kernel_rfl) ?_;intro hx;simp only[Tryz.f100];simp only[go_sem,zA,↓reduceIte,↓reduceDIte,zB,zC,zD,zE,zF,zG,zH,zI]
 refine⟨_,Cq _ _,fun _=>⟨_,Cq _ _,fun _=>⟨_,bp3 _,fun _=>?_⟩⟩⟩;unfold NH;by_cases h:JL x.1 y.1=0<;>by_cases h':JL x.2 y.2=0<;>simp[h,h']
abbrev Rec:=Int×Int×Int×List UInt8×Int×Int
abbrev er:=Int×Int×Int×Int×List UInt8×Int×Int
abbrev L8:=Int×Int×Int×Int×Int×Int×Int×Int
abbrev vz:=List Rec×List er×L8
theorem Tx(o:er):PC env 51 [⟨au,o⟩] bY (o.1,o.2.1):=by
 refine PC.ay (m:=2000) ae ba8 rfl rfl rfl rfl (by kernel_rfl) ?_;intro hx;simp only[Tryz.f51];simp only[go_sem,zA,↓reduceIte,↓reduceDIte,zB,zC,zD,zE,zF,zG,zH,zI]
theorem gC(v a b:Int):PC env 48 [⟨.int .i64,v⟩,⟨.int .i64,a⟩,⟨.int .i64,b⟩] .bool (decide (a≤v∧v≤b)):=by
 refine PC.ay (m:=2000) ae ba6 rfl rfl rfl rfl (by kernel_rfl) ?_;intro hx;simp only[Tryz.f48];simp only[go_sem,zA,↓reduceIte,↓reduceDIte,zB,zC,zD,zE,zF,zG,zH,zI]
 refine⟨fun h=>?_,fun h=>?_⟩;(·congr 1;simp[h]);·symm;simp;omega
theorem ak3(v a b:Int):PC env 115 [⟨.int .i64,v⟩,⟨.int .i64,a⟩,⟨.int .i64,b⟩] .bool (decide (a≤v∧v≤b)):=by
 refine PC.ay (m:=2000) ae aR4 rfl rfl rfl rfl (by kernel_rfl) ?_;intro hx;simp only[Tryz.f115];simp only[go_sem,zA,↓reduceIte,↓reduceDIte,zB,zC,zD,zE,zF,zG,zH,zI]
 refine⟨fun h=>?_,fun h=>?_⟩;(·congr 1;simp;omega);·symm;simp;omega
theorem SH(v a b:Int):PC env 55 [⟨.int .i64,v⟩,⟨.int .i64,a⟩,⟨.int .i64,b⟩] .bool (decide (a≤v∧v≤b)):=by
 refine PC.ay (m:=2000) ae aq2 rfl rfl rfl rfl (by kernel_rfl) ?_;intro hx;simp only[Tryz.f55];simp only[go_sem,zA,↓reduceIte,↓reduceDIte,zB,zC,zD,zE,zF,zG,zH,zI]
 refine⟨fun h=>?_,fun h=>?_⟩;(·congr 1;simp;omega);·symm;simp;omega
theorem aY1(p:Int×Int)(e:Int):PC env 85 [⟨bY,p⟩,⟨.int .i64,e⟩] .bool (decide ((0≤p.1∧p.1≤7)∧(1≤p.2∧p.2≤1000000)∧(0≤e∧e≤10000))):=by
 refine PC.ay (m:=2000) ae bb8 rfl rfl rfl rfl (by kernel_rfl) ?_;intro hx;simp only[Tryz.f85];simp only[go_sem,zA,↓reduceIte,↓reduceDIte,zB,zC,zD,zE,zF,zG,zH,zI]
 (repeat' (first|(with_reducible intro _)|(with_reducible apply And.intro)|(with_reducible refine⟨_,gC _ _ _,?_⟩;try simp only[go_sem,zA,↓reduceIte,↓reduceDIte,zB,zC,zD,zE,zF,zG,zH,zI])|fail))
 all_goals first|(symm;simp;omega)|exact⟨_,gC _ _ _,by simp_all⟩|(simp_all;done)|(clear hx;simp_all;omega)|trace_state
end Go.Proofs.YtgpkijnphchkpaaGreat.Ln
namespace Go.Proofs.YtgpkijnphchkpaaGreat.Ln
attribute[local go_sem←]Bool.decide_and Bool.decide_or decide_not
set_option maxHeartbeats 4000000
set_option maxRecDepth 100000
def D9(c:Int):Int:=if 97≤c∧c≤122 then 1 else if 65≤c∧c≤90 then 2 else if 48≤c∧c≤57 then 3 else 0
theorem xj(c:Int):PC env 119 [⟨.int .u8,c⟩] (.int .i64) (D9 c):=by
 refine PC.ay (m:=2000) ae Sv rfl rfl rfl rfl (by kernel_rfl) ?_;intro hx;simp only[Tryz.f119];simp only[go_sem,zA,↓reduceIte,↓reduceDIte,zB,zC,zD,zE,zF,zG,zH,zI]
 unfold D9;(repeat' (first|(with_reducible intro _)|(with_reducible apply And.intro)));all_goals(repeat' split)<;>first|rfl|omega
def NI(u:UInt8):Bool:=decide (D9 u.toNat≠0)
theorem lh {α:Type} {xs:List α} {i:Nat} {x:α} {p:α→Bool} (h:xs[i]?=some x):(xs.take (i+1)).all p=((xs.take i).all p&&p x):=by rw[aY h,List.all_append];simp
theorem rF {α:Type} {xs:List α} {i:Nat} {x:α} {p:α→Bool} (h:xs[i]?=some x)(hp:p x=false):xs.all p=false:=by rw[List.all_eq_false];exact⟨x,List.mem_of_getElem? h,by simp[hp]⟩
theorem Ls(s:List UInt8):PC env 75 [⟨.str,s⟩] .bool (s.all NI):=by
 refine PC.ay (m:=2000) ae KT rfl rfl rfl rfl (by kernel_rfl) ?_;intro hx;simp only[Tryz.f75];simp only[go_sem,zA,↓reduceIte,↓reduceDIte,zB,zC,zD,zE,zF,zG,zH,zI]
 refine ah.qG (X:=Nat) (fun i=>⟨[(6,.iv (.int .i64) (i:Int)),(5,.iv (.int .i64) (s.length:Int)),(0,.iv .str s)],[]⟩) (fun i=>i≤s.length∧(s.take i).all NI=true) (fun i=>s.length-i) 0 (by refine⟨?_,?_,rfl,rfl⟩<;>repeat' (first|exact trivial|exact Or.inl rfl|exact Or.inr rfl|apply br|apply bt|apply bu|apply bA|exact⟨(by show(_:Nat)<1000000000;omega),rfl,rfl⟩|rfl|(refine And.intro (Or.inl ?_) ?_)|(refine And.intro ?_ ?_))) ⟨Nat.zero_le _,rfl⟩ ?_
 intro i⟨hi,hb⟩back;refine av ae ⟨_,KT,rfl⟩ 2000 _ _ (by kernel_rfl) ?_;simp only[go_sem,zA,↓reduceIte,↓reduceDIte,zB,zC,zD,zE,zF,zG,zH,zI];refine⟨fun h=>?_,fun h=>?_⟩
 (·obtain⟨x,dv⟩: ∃x,s[i]?=some x:=an (by omega);have hlen:s.length≤9223372036854775807:=hx.1;refine⟨Int.natCast_nonneg i,_,⟨x,dv,rfl⟩,_,xj _,fun _=>⟨fun h'=>?_,fun h'=>⟨?_,?_⟩⟩⟩;(·exact(rF (p:=NI) dv (by simp[NI,h'])).symm);(·exact aw (by omega) (by omega));·refine back _ (i+1) (by refine⟨?_,?_,rfl,rfl⟩<;>repeat' (first|exact trivial|exact Or.inl rfl|exact Or.inr rfl|apply br|apply bt|apply bu|apply bA|exact⟨(by show(_:Nat)<1000000000;omega),rfl,rfl⟩|rfl|(refine And.intro (Or.inl ?_) ?_)|(refine And.intro ?_ ?_))) ⟨by omega,?_⟩ (by omega);rw[lh dv,hb];simp[NI,h'])
 ·have e:s.take i=s:=List.take_of_length_le (by omega);rw[e]at hb;rw[hb]
def ll(s:List UInt8):Bool:=decide (1≤s.length∧s.length≤20)&&s.all NI
theorem DP(s:List UInt8):PC env 36 [⟨.str,s⟩] .bool (ll s):=by
 refine PC.ay (m:=2000) ae aq0 rfl rfl rfl rfl (by kernel_rfl) ?_;intro hx;simp only[Tryz.f36];simp only[go_sem,zA,↓reduceIte,↓reduceDIte,zB,zC,zD,zE,zF,zG,zH,zI]
 unfold ll;(repeat' (first|(with_reducible intro _)|(with_reducible apply And.intro)|(with_reducible refine⟨_,Ls _,?_⟩;try simp only[go_sem,zA,↓reduceIte,↓reduceDIte,zB,zC,zD,zE,zF,zG,zH,zI])|fail))
 all_goals first|exact⟨_,Ls _,by simp_all;omega⟩|(symm;simp;omega)
theorem Tz(u:UInt8):NI u=true↔ ¬((((u.toNat:Int)<97∨(122:Int)<u.toNat)∧((u.toNat:Int)<65∨(90:Int)<u.toNat))∧((u.toNat:Int)<48∨(57:Int)<u.toNat)):=by
 unfold NI D9;rw[decide_eq_true_eq];(repeat' split);all_goals omega
theorem xg(s:List UInt8):PC env 56 [⟨.str,s⟩] .bool (s.all NI):=by
 refine PC.ay (m:=2000) ae KS rfl rfl rfl rfl (by kernel_rfl) ?_;intro hx;simp only[Tryz.f56];simp only[go_sem,zA,↓reduceIte,↓reduceDIte,zB,zC,zD,zE,zF,zG,zH,zI]
 refine ah.qG (X:=Nat) (fun i=>⟨[(3,.iv (.int .i64) (i:Int)),(0,.iv .str s)],[]⟩) (fun i=>i≤s.length∧(s.take i).all NI=true) (fun i=>s.length-i) 0 (by refine⟨?_,?_,rfl,rfl⟩<;>repeat' (first|exact trivial|exact Or.inl rfl|exact Or.inr rfl|apply br|apply bt|apply bu|apply bA|exact⟨(by show(_:Nat)<1000000000;omega),rfl,rfl⟩|rfl|(refine And.intro (Or.inl ?_) ?_)|(refine And.intro ?_ ?_))) ⟨Nat.zero_le _,rfl⟩ ?_
 intro i⟨hi,hb⟩back;refine av ae ⟨_,KS,rfl⟩ 2000 _ _ (by kernel_rfl) ?_;simp only[go_sem,zA,↓reduceIte,↓reduceDIte,zB,zC,zD,zE,zF,zG,zH,zI];have hlen:s.length≤9223372036854775807:=hx.1
 refine⟨fun h=>?_,fun h=>?_⟩;(·obtain⟨x,dv⟩: ∃x,s[i]?=some x:=an (by omega);have mX:=Tz x;refine⟨Int.natCast_nonneg i,_,⟨x,dv,rfl⟩,?_⟩;cases hp:NI x with|false=>have n6:s.all NI=false:=rF (p:=NI) dv hp;rw[hp]at mX;simp only[Bool.false_eq_true,false_iff,Decidable.not_not]at mX;(repeat' (first|(with_reducible intro _)|(with_reducible apply And.intro)|fail));(all_goals first|exact n6.symm|(exfalso;omega))|true=>rw[hp]at mX;simp only[true_iff]at mX;(repeat' (first|(with_reducible intro _)|(with_reducible apply And.intro)|fail));all_goals first|omega|exact aw (by omega) (by omega)|exact back _ (i+1) (by refine⟨?_,?_,rfl,rfl⟩<;>repeat' (first|exact trivial|exact Or.inl rfl|exact Or.inr rfl|apply br|apply bt|apply bu|apply bA|exact⟨(by show(_:Nat)<1000000000;omega),rfl,rfl⟩|rfl|(refine And.intro (Or.inl ?_) ?_)|(refine And.intro ?_ ?_))) ⟨by omega,by rw[lh dv,hb,hp];rfl⟩ (by omega))
 ·have e:s.take i=s:=List.take_of_length_le (by omega);rw[e]at hb;rw[hb]
theorem Lt(s:List UInt8):PC env 27 [⟨.str,s⟩] .bool (ll s):=by
 refine PC.ay (m:=2000) ae a98 rfl rfl rfl rfl (by kernel_rfl) ?_;intro hx;simp only[Tryz.f27];simp only[go_sem,zA,↓reduceIte,↓reduceDIte,zB,zC,zD,zE,zF,zG,zH,zI]
 unfold ll;refine⟨_,SH _ _ _,?_⟩;simp only[go_sem,zA,↓reduceIte,↓reduceDIte,zB,zC,zD,zE,zF,zG,zH,zI];(repeat' (first|(with_reducible intro _)|(with_reducible apply And.intro)|(with_reducible refine⟨_,xg _,?_⟩;try simp only[go_sem,zA,↓reduceIte,↓reduceDIte,zB,zC,zD,zE,zF,zG,zH,zI])|fail))
 all_goals first|exact⟨_,xg _,by simp_all;omega⟩|(symm;simp;omega)
end Go.Proofs.YtgpkijnphchkpaaGreat.Ln
namespace Go.Proofs.YtgpkijnphchkpaaGreat.Ln
attribute[local go_sem←]Bool.decide_and Bool.decide_or decide_not
set_option maxHeartbeats 4000000
set_option maxRecDepth 100000
def iH:List (Int×(Nat×Nat)):=[(1,(88,89)),(2,(90,91)),(3,(92,93)),(4,(94,95)),(5,(96,97))]
theorem ak4:PC env 45 [] (.mp (.int .i64) fO) iH:=by
 refine PC.ay (m:=2000) ae ba5 rfl rfl rfl rfl (by kernel_rfl) ?_;intro hx;simp only[Tryz.f45];simp only[go_sem,zA,↓reduceIte,↓reduceDIte,zB,zC,zD,zE,zF,zG,zH,zI,dU]
 simp[cO,gv,iH]
def rk1(o:er):Bool:=decide ((ll o.2.2.2.2.1=true∧o.2.2.2.2.2.1=0)∧o.2.2.2.2.2.2=0)
theorem bp4(o:er):PC env 88 [⟨au,o⟩] .bool (rk1 o):=by
 refine PC.ay (m:=2000) ae bc1 rfl rfl rfl rfl (by kernel_rfl) ?_;intro hx;simp only[Tryz.f88];simp only[go_sem,zA,↓reduceIte,↓reduceDIte,zB,zC,zD,zE,zF,zG,zH,zI,dU]
 unfold rk1;refine⟨_,DP _,?_⟩;cases h:ll o.2.2.2.2.1;(·simp only[go_sem,zA,↓reduceIte,↓reduceDIte,zB,zC,zD,zE,zF,zG,zH,zI,dU];simp[h]);·simp only[go_sem,zA,↓reduceIte,↓reduceDIte,zB,zC,zD,zE,zF,zG,zH,zI,dU];(repeat' (first|(with_reducible intro _)|(with_reducible apply And.intro)|fail));all_goals(clear hx;simp_all)
theorem bp5(o:er)(r:Rec):PC env 89 [⟨au,o⟩,⟨aq,r⟩] .bool (decide (r.2.2.2.1=o.2.2.2.2.1)):=by
 refine PC.ay (m:=2000) ae bc2 rfl rfl rfl rfl (by kernel_rfl) ?_;intro hx;simp only[Tryz.f89];simp only[go_sem,zA,↓reduceIte,↓reduceDIte,zB,zC,zD,zE,zF,zG,zH,zI,dU]
def rk2(o:er):Bool:=decide ((o.2.2.2.2.1=[]∧(0≤o.2.2.2.2.2.1∧o.2.2.2.2.2.1≤7))∧o.2.2.2.2.2.2=0)
theorem bp6(o:er):PC env 90 [⟨au,o⟩] .bool (rk2 o):=by
 refine PC.ay (m:=2000) ae bc3 rfl rfl rfl rfl (by kernel_rfl) ?_;intro hx;simp only[Tryz.f90];simp only[go_sem,zA,↓reduceIte,↓reduceDIte,zB,zC,zD,zE,zF,zG,zH,zI,dU]
 unfold rk2;(repeat' (first|(with_reducible intro _)|(with_reducible apply And.intro)|(with_reducible refine⟨_,gC _ _ _,?_⟩;try simp only[go_sem,zA,↓reduceIte,↓reduceDIte,zB,zC,zD,zE,zF,zG,zH,zI,dU])|fail))
 all_goals first|(symm;simp;omega)|(clear hx;simp_all;done)|exact⟨_,gC _ _ _,by clear hx;simp_all⟩
theorem bp7(o:er)(r:Rec):PC env 91 [⟨au,o⟩,⟨aq,r⟩] .bool (decide (r.2.2.2.2.1=o.2.2.2.2.2.1)):=by
 refine PC.ay (m:=2000) ae bc4 rfl rfl rfl rfl (by kernel_rfl) ?_;intro hx;simp only[Tryz.f91];simp only[go_sem,zA,↓reduceIte,↓reduceDIte,zB,zC,zD,zE,zF,zG,zH,zI,dU]
theorem bp8(o:er):PC env 92 [⟨au,o⟩] .bool (rk2 o):=by
 refine PC.ay (m:=2000) ae bc5 rfl rfl rfl rfl (by kernel_rfl) ?_;intro hx;simp only[Tryz.f92];simp only[go_sem,zA,↓reduceIte,↓reduceDIte,zB,zC,zD,zE,zF,zG,zH,zI,dU]
 unfold rk2;(repeat' (first|(with_reducible intro _)|(with_reducible apply And.intro)|(with_reducible refine⟨_,gC _ _ _,?_⟩;try simp only[go_sem,zA,↓reduceIte,↓reduceDIte,zB,zC,zD,zE,zF,zG,zH,zI,dU])|fail))
 all_goals first|(symm;simp;omega)|(clear hx;simp_all;done)|exact⟨_,gC _ _ _,by clear hx;simp_all⟩
theorem bp9(o:er)(r:Rec):PC env 93 [⟨au,o⟩,⟨aq,r⟩] .bool (decide (r.1=o.2.2.2.2.2.1)):=by
 refine PC.ay (m:=2000) ae bc6 rfl rfl rfl rfl (by kernel_rfl) ?_;intro hx;simp only[Tryz.f93];simp only[go_sem,zA,↓reduceIte,↓reduceDIte,zB,zC,zD,zE,zF,zG,zH,zI,dU]
def rk4(o:er):Bool:=decide ((o.2.2.2.2.1=[]∧(0≤o.2.2.2.2.2.1∧o.2.2.2.2.2.1≤o.2.2.1))∧o.2.2.2.2.2.2=0)
theorem bq0(o:er):PC env 94 [⟨au,o⟩] .bool (rk4 o):=by
 refine PC.ay (m:=2000) ae bc7 rfl rfl rfl rfl (by kernel_rfl) ?_;intro hx;simp only[Tryz.f94];simp only[go_sem,zA,↓reduceIte,↓reduceDIte,zB,zC,zD,zE,zF,zG,zH,zI,dU]
 unfold rk4;(repeat' (first|(with_reducible intro _)|(with_reducible apply And.intro)|(with_reducible refine⟨_,gC _ _ _,?_⟩;try simp only[go_sem,zA,↓reduceIte,↓reduceDIte,zB,zC,zD,zE,zF,zG,zH,zI,dU])|fail))
 all_goals first|(symm;simp;omega)|(clear hx;simp_all;done)|exact⟨_,gC _ _ _,by clear hx;simp_all⟩
theorem bq1(o:er)(r:Rec):PC env 95 [⟨au,o⟩,⟨aq,r⟩] .bool (decide (o.2.2.2.2.2.1≤r.2.2.1)):=by
 refine PC.ay (m:=2000) ae bc8 rfl rfl rfl rfl (by kernel_rfl) ?_;intro hx;simp only[Tryz.f95];simp only[go_sem,zA,↓reduceIte,↓reduceDIte,zB,zC,zD,zE,zF,zG,zH,zI,dU]
def rk5(o:er):Bool:=decide ((o.2.2.2.2.1=[]∧(1≤o.2.2.2.2.2.1∧o.2.2.2.2.2.1≤1000000))∧(0≤o.2.2.2.2.2.2∧o.2.2.2.2.2.2≤7))
theorem bq2(o:er):PC env 96 [⟨au,o⟩] .bool (rk5 o):=by
 refine PC.ay (m:=2000) ae bc9 rfl rfl rfl rfl (by kernel_rfl) ?_;intro hx;simp only[Tryz.f96];simp only[go_sem,zA,↓reduceIte,↓reduceDIte,zB,zC,zD,zE,zF,zG,zH,zI,dU]
 unfold rk5;(repeat' (first|(with_reducible intro _)|(with_reducible apply And.intro)|(with_reducible refine⟨_,gC _ _ _,?_⟩;try simp only[go_sem,zA,↓reduceIte,↓reduceDIte,zB,zC,zD,zE,zF,zG,zH,zI,dU])|fail))
 all_goals first|(symm;simp;omega)|(clear hx;simp_all;done)|exact⟨_,gC _ _ _,by clear hx;simp_all⟩
theorem bq3(o:er)(r:Rec):PC env 97 [⟨au,o⟩,⟨aq,r⟩] .bool (decide (r.1=o.2.2.2.2.2.2∧r.2.1=o.2.2.2.2.2.1)):=by
 refine PC.ay (m:=2000) ae bd0 rfl rfl rfl rfl (by kernel_rfl) ?_;intro hx;simp only[Tryz.f97];simp only[go_sem,zA,↓reduceIte,↓reduceDIte,zB,zC,zD,zE,zF,zG,zH,zI,dU]
 (repeat' (first|(with_reducible intro _)|(with_reducible apply And.intro)|fail));all_goals(clear hx;simp_all)
def rk(o:er):Bool:=if o.2.2.2.1=1 then rk1 o else if o.2.2.2.1=2 then rk2 o else if o.2.2.2.1=3 then rk2 o else if o.2.2.2.1=4 then rk4 o else if o.2.2.2.1=5 then rk5 o else false
def pE(o:er)(r:Rec):Bool:=if o.2.2.2.1=1 then decide (r.2.2.2.1=o.2.2.2.2.1)else if o.2.2.2.1=2 then decide (r.2.2.2.2.1=o.2.2.2.2.2.1)else if o.2.2.2.1=3 then decide (r.1=o.2.2.2.2.2.1)else if o.2.2.2.1=4 then decide (o.2.2.2.2.2.1≤r.2.2.1)else if o.2.2.2.1=5 then decide (r.1=o.2.2.2.2.2.2∧r.2.1=o.2.2.2.2.2.1)else false
def fR(o:er):Bool:=decide ((0≤o.1∧o.1≤7)∧(1≤o.2.1∧o.2.1≤1000000)∧(0≤o.2.2.1∧o.2.2.1≤10000))&&rk o
def cS(r:Rec):Bool:=decide ((0≤r.1∧r.1≤7)∧(1≤r.2.1∧r.2.1≤1000000)∧(0≤r.2.2.1∧r.2.2.1≤10000))&&(ll r.2.2.2.1&&decide ((0≤r.2.2.2.2.1∧r.2.2.2.2.1≤7)∧(1≤r.2.2.2.2.2∧r.2.2.2.2.2≤1000)))
def cn(o:er)(r:Rec):Bool:=decide (r.2.2.1≤o.2.2.1)&&pE o r
theorem Hf {k:Int} {v:Nat×Nat} (h:aJ (gv (.int .i64)) iH k=some v):(k=1∧v=(88,89))∨(k=2∧v=(90,91))∨(k=3∧v=(92,93))∨(k=4∧v=(94,95))∨(k=5∧v=(96,97)):=by
 unfold iH at h;simp only[aJ,gv,cond_eq_ite,decide_eq_true_eq]at h;(repeat' split at h);all_goals first|(cases h;done)|(injection h with h;subst h;simp_all)
theorem Hg {k:Int} (h:aJ (gv (.int .i64)) iH k=none):k≠1∧k≠2∧k≠3∧k≠4∧k≠5:=by
 unfold iH at h;simp only[aJ,gv,cond_eq_ite,decide_eq_true_eq]at h;(repeat' split at h);all_goals first|(cases h;done)|simp_all
theorem TA(o:er):PC env 49 [⟨.mp (.int .i64) fO,iH⟩,⟨au,o⟩] .bool (fR o):=by
 refine PC.ay (m:=2000) ae ba7 rfl rfl rfl rfl (by kernel_rfl) ?_;intro hx;simp only[Tryz.f49];simp only[go_sem,zA,↓reduceIte,↓reduceDIte,zB,zC,zD,zE,zF,zG,zH,zI,dU]
 refine⟨_,Tx o,fun _=>⟨_,aY1 _ _,?_⟩⟩;simp only[go_sem,zA,↓reduceIte,↓reduceDIte,zB,zC,zD,zE,zF,zG,zH,zI,dU];refine⟨fun h=>?_,fun h=>⟨fun v hv=>?_,fun hn=>?_⟩⟩;(·simp[fR,h])
 (·rcases Hf hv with⟨k,rfl⟩|⟨k,rfl⟩|⟨k,rfl⟩|⟨k,rfl⟩|⟨k,rfl⟩<;>simp only[go_sem,zA,↓reduceIte,↓reduceDIte,zB,zC,zD,zE,zF,zG,zH,zI,dU];(·exact⟨_,bp4 o,by simp[fR,rk,k,h]⟩);(·exact⟨_,bp6 o,by simp[fR,rk,k,h]⟩);(·exact⟨_,bp8 o,by simp[fR,rk,k,h]⟩);(·exact⟨_,bq0 o,by simp[fR,rk,k,h]⟩);·exact⟨_,bq2 o,by simp[fR,rk,k,h]⟩)
 ·have:=Hg hn;simp[fR,rk,this]
theorem TB(o:er)(r:Rec):PC env 87 [⟨au,o⟩,⟨.ptr (.mp (.int .i64) fO),iH⟩,⟨.ptr aq,r⟩] .bool (cn o r):=by
 refine PC.ay (m:=2000) ae bc0 rfl rfl rfl rfl (by kernel_rfl) ?_;intro hx;simp only[Tryz.f87];simp only[go_sem,zA,↓reduceIte,↓reduceDIte,zB,zC,zD,zE,zF,zG,zH,zI,dU]
 refine⟨fun v hv=>?_,fun hn=>?_⟩;(·rcases Hf hv with⟨k,rfl⟩|⟨k,rfl⟩|⟨k,rfl⟩|⟨k,rfl⟩|⟨k,rfl⟩<;>simp only[go_sem,zA,↓reduceIte,↓reduceDIte,zB,zC,zD,zE,zF,zG,zH,zI,dU];(·exact⟨fun hl=>⟨_,bp5 o r,by simp[cn,pE,k,hl]⟩,fun hl=>by simp[cn,hl]⟩);(·exact⟨fun hl=>⟨_,bp7 o r,by simp[cn,pE,k,hl]⟩,fun hl=>by simp[cn,hl]⟩);(·exact⟨fun hl=>⟨_,bp9 o r,by simp[cn,pE,k,hl]⟩,fun hl=>by simp[cn,hl]⟩);(·exact⟨fun hl=>⟨_,bq1 o r,by simp[cn,pE,k,hl]⟩,fun hl=>by simp[cn,hl]⟩);·exact⟨fun hl=>⟨_,bq3 o r,by simp[cn,pE,k,hl]⟩,fun hl=>by simp[cn,hl]⟩)
 ·have:=Hg hn;simp[cn,pE,this]
end Go.Proofs.YtgpkijnphchkpaaGreat.Ln
namespace Go.Proofs.YtgpkijnphchkpaaGreat.Ln
attribute[local go_sem←]Bool.decide_and Bool.decide_or decide_not
set_option maxHeartbeats 4000000
set_option maxRecDepth 100000
abbrev MpT:Ty:=.mp (.int .i64) fO
abbrev bf7:Ty:=.eQ 87 (.pair (.ptr (.mp (.int .i64) fO)) (.ptr aq))
def TC {α:Type} (p:α→Bool)(l:List α):Int:=if l.any p then(l.findIdx p:Int)else-1
theorem Hh {α:Type} {xs:List α} {i:Nat} {x:α} {p:α→Bool} (h:xs[i]?=some x):(xs.take (i+1)).any p=((xs.take i).any p||p x):=by rw[aY h,List.any_append];simp
theorem ak5 {α:Type} {p:α→Bool} {l:List α} {i:Nat} {x:α} (h:l[i]?=some x)(hb:(l.take i).any p=false)(hp:p x=true):TC p l=(i:Int):=by
 have bq4:l.any p=true:=List.any_eq_true.2 ⟨x,List.mem_of_getElem? h,hp⟩;unfold TC;rw[if_pos bq4];obtain⟨hi,e⟩:=List.getElem?_eq_some_iff.1 h;(have:l.findIdx p=i:=by rw[List.findIdx_eq hi];refine⟨by rw[e];exact hp,fun j hj=>?_⟩;rw[List.any_eq_false]at hb;have:=hb l[j] (by rw[List.mem_take_iff_getElem];exact⟨j,by omega,rfl⟩);simpa using this)
 rw[this]
theorem DO(l:List er)(r:Rec):PC env 132 [⟨.sl au,l⟩,⟨bf7,(iH,r)⟩] (.int .i64) (TC (fun o=>cn o r) l):=by
 refine PC.ay (m:=2000) ae Sy rfl rfl rfl rfl (by kernel_rfl) ?_;intro hx;simp only[Tryz.f132];simp only[go_sem,zA,↓reduceIte,↓reduceDIte,zB,zC,zD,zE,zF,zG,zH,zI]
 refine ah.qG (X:=Nat) (fun i=>⟨[(8,.iv (.int .i64) (i:Int)),(7,.iv (.int .i64) (l.length:Int)),(0,.iv (.sl au) l),(1,.fn 87 [.dL MpT iH 0,.dL aq r 0])],[]⟩) (fun i=>i≤l.length∧(l.take i).any (fun o=>cn o r)=false) (fun i=>l.length-i) 0 (by refine⟨?_,?_,rfl,rfl⟩<;>repeat' (first|exact trivial|exact Or.inl rfl|exact Or.inr rfl|apply br|apply bt|apply bu|apply bA|exact⟨(by show(_:Nat)<1000000000;omega),rfl,rfl⟩|rfl|(refine And.intro (Or.inl ?_) ?_)|(refine And.intro ?_ ?_))) ⟨Nat.zero_le _,rfl⟩ ?_
 intro i⟨hi,hb⟩back;refine av ae ⟨_,Sy,rfl⟩ 2000 _ _ (by kernel_rfl) ?_;simp only[go_sem,zA,↓reduceIte,↓reduceDIte,zB,zC,zD,zE,zF,zG,zH,zI];have hlen:l.length≤9223372036854775807:=hx.1.1
 refine⟨fun h=>?_,fun h=>?_⟩;(·obtain⟨x,dv⟩: ∃x,l[i]?=some x:=an (by omega);refine⟨Int.natCast_nonneg i,x,dv,_,TB x r,?_⟩;cases hm:cn x r;(·simp only[go_sem,zA,↓reduceIte,↓reduceDIte,zB,zC,zD,zE,zF,zG,zH,zI];refine⟨aw (by omega) (by omega),back _ (i+1) (by refine⟨?_,?_,rfl,rfl⟩<;>repeat' (first|exact trivial|exact Or.inl rfl|exact Or.inr rfl|apply br|apply bt|apply bu|apply bA|exact⟨(by show(_:Nat)<1000000000;omega),rfl,rfl⟩|rfl|(refine And.intro (Or.inl ?_) ?_)|(refine And.intro ?_ ?_))) ⟨by omega,by rw[Hh dv,hb,hm];rfl⟩ (by omega)⟩);·simp only[go_sem,zA,↓reduceIte,↓reduceDIte,zB,zC,zD,zE,zF,zG,zH,zI];exact(ak5 dv hb hm).symm)
 ·have e:l.take i=l:=List.take_of_length_le (by omega);rw[e]at hb;unfold TC;rw[hb];rfl
theorem rN(l:List er)(r:Rec):PC env 86 [⟨.sl au,l⟩,⟨bf7,(iH,r)⟩] .bool (l.any (fun o=>cn o r)):=by
 refine PC.ay (m:=2000) ae bb9 rfl rfl rfl rfl (by kernel_rfl) ?_;intro hx;simp only[Tryz.f86];simp only[go_sem,zA,↓reduceIte,↓reduceDIte,zB,zC,zD,zE,zF,zG,zH,zI]
 refine⟨_,DO l r,fun _=>?_⟩;unfold TC;cases h:l.any (fun o=>cn o r);(·rfl);·simp
theorem Lu(l:List er)(r:Rec):PC env 44 [⟨MpT,iH⟩,⟨.sl au,l⟩,⟨aq,r⟩] .bool (l.any (fun o=>cn o r)):=by
 refine PC.ay (m:=2000) ae ba4 rfl rfl rfl rfl (by kernel_rfl) ?_;intro hx;simp only[Tryz.f44];simp only[go_sem,zA,↓reduceIte,↓reduceDIte,zB,zC,zD,zE,zF,zG,zH,zI]
 exact⟨_,rN l r,rfl⟩
def bsF(lt:Nat→Bool)(i j:Nat):Nat:=if i<j then(if lt ((i+j)/2)then bsF lt ((i+j)/2+1) j else bsF lt i ((i+j)/2))else i termination_by j-i
theorem JM(lt:Nat→Bool)(i j:Nat)(h:i≤j):i≤bsF lt i j∧bsF lt i j≤j:=by
 unfold bsF;split;(·split;(·have:=JM lt ((i+j)/2+1) j (by omega);omega);·have:=JM lt i ((i+j)/2) (by omega);omega);·omega termination_by j-i
def ak6 {α:Type} (pl:α→Int×Int)(l:List α)(p:Int×Int)(h:Nat):Bool:=match l[h]? with|some x=>decide (NH (pl x) p<0)|none=>false
def NJ {α:Type} (pl:α→Int×Int)(l:List α)(p:Int×Int):Nat:=bsF (ak6 pl l p) 0 l.length
def Lw {α:Type} (pl:α→Int×Int)(l:List α)(p:Int×Int)(i:Nat):Bool:=match l[i]? with|some x=>decide (NH (pl x) p=0)|none=>false
theorem JN {α:Type} (pl:α→Int×Int)(l:List α)(p:Int×Int):NJ pl l p≤l.length:=(JM _ 0 l.length (Nat.zero_le _)).2
def wP(o:er):Int×Int:=(o.1,o.2.1)
def Oc(r:Rec):Int×Int:=(r.1,r.2.1)
theorem NK {i j:Nat} (h:(i:Int)+j≤2000000):IntKind.i64.wrap (IntKind.u64.wrap ((i:Int)+j)/2^1)=(((i+j)/2:Nat):Int):=by
 have e1:IntKind.u64.wrap ((i:Int)+j)=(i:Int)+j:=fV _ ⟨by simp only[Du];omega,by simp only[Dv];omega⟩;rw[e1];(have e2:((i:Int)+j)/2^1=(((i+j)/2:Nat):Int):=by rw[Int.natCast_ediv];norm_cast)
 rw[e2];exact fV _ ⟨by simp only[KL];omega,by simp only[max_i64];omega⟩
def gS {α:Type} (ls:List (List α)):Nat:=(ls.map List.length).sum
theorem pF {α:Type} {ls:List (List α)} {k:Nat} {x:List α} (h:ls[k]?=some x):gS (ls.take (k+1))=gS (ls.take k)+x.length:=by unfold gS;rw[aY h,List.map_append,List.sum_append];simp
theorem pG {α:Type} (ls:List (List α))(k:Nat):gS (ls.take k)≤gS ls:=by unfold gS;(conv=>rhs;rw[←List.take_append_drop k ls]);rw[List.map_append,List.sum_append];omega
def tQ {α:Type} (l:List α)(i:Nat)(x:α):List α:=l.take i++x::l.drop i
end Go.Proofs.YtgpkijnphchkpaaGreat.Ln
namespace Go.Proofs.YtgpkijnphchkpaaGreat.Ln
attribute[local go_sem←]Bool.decide_and Bool.decide_or decide_not
attribute[local go_sem]fg bz
set_option maxHeartbeats 4000000
set_option maxRecDepth 100000
theorem Hi(o:er)(p:Int×Int):PC env 102 [⟨au,o⟩,⟨bY,p⟩,⟨.ptr .aD,(51:Nat)⟩] (.int .i64) (NH (wP o) p):=by
 refine PC.ay (m:=2000) ae aR1 rfl rfl rfl rfl (by kernel_rfl) ?_;intro hx;simp only[Tryz.f102];simp only[go_sem,zA,↓reduceIte,↓reduceDIte,zB,zC,zD,zE,zF,zG,zH,zI]
 exact⟨_,Tx o,fun _=>⟨_,aY0 _ _,fun _=>rfl⟩⟩
theorem bf8(l:List er)(p:Int×Int)(hl:l.length≤1000000):PC env 101 [⟨.sl au,l⟩,⟨bY,p⟩,⟨.eQ 102 (.ptr .aD),(51:Nat)⟩] (.bn (.int .i64) .bool) (((NJ wP l p:Nat):Int),Lw wP l p (NJ wP l p)):=by
 refine PC.ay (m:=2000) ae Sr rfl rfl rfl rfl (by kernel_rfl) ?_;intro hx;simp only[Tryz.f101];simp only[go_sem,zA,↓reduceIte,↓reduceDIte,zB,zC,zD,zE,zF,zG,zH,zI]
 refine ah.qG (X:=Nat×Nat) (fun z=>⟨[(9,.iv (.int .i64) (z.1:Int)),(10,.iv (.int .i64) (z.2:Int)),(8,.iv (.int .i64) (l.length:Int)),(0,.iv (.sl au) l),(2,.fn 102 [.dL .aD (51:Nat) 0]),(4,.ref 4 0)],[(4,.box [.iv (.int .i64) p.1,.iv (.int .i64) p.2])]⟩) (fun z=>z.1≤z.2∧z.2≤l.length∧bsF (ak6 wP l p) z.1 z.2=NJ wP l p) (fun z=>z.2-z.1) (0,l.length) (by refine⟨?_,?_,rfl,rfl⟩<;>repeat' (first|exact trivial|exact Or.inl rfl|exact Or.inr rfl|apply br|apply bt|apply bu|apply bA|exact⟨(by show(_:Nat)<1000000000;omega),rfl,rfl⟩|rfl|(refine And.intro (Or.inl ?_) ?_)|(refine And.intro ?_ ?_))) ⟨Nat.zero_le _,Nat.le_refl _,rfl⟩ ?_
 intro⟨i,j⟩⟨fi,hj,hb⟩back;dsimp only at fi hj hb;refine av ae ⟨_,Sr,rfl⟩ 2000 _ _ (by kernel_rfl) ?_;simp only[go_sem,zA,↓reduceIte,↓reduceDIte,zB,zC,zD,zE,zF,zG,zH,zI]
 have hw:=NK (i:=i) (j:=j) (by omega);have hu:IntKind.u64.wrap ((i:Int)+j)=(i:Int)+j:=fV _ ⟨by simp only[Du];omega,by simp only[Dv];omega⟩;refine⟨fun h=>?_,fun h=>?_⟩
 (·obtain⟨x,dv⟩: ∃x,l[(i+j)/2]?=some x:=an (by omega);rw[hw,hu,Int.toNat_natCast];unfold bsF at hb;rw[if_pos (by omega)]at hb;(have c7:ak6 wP l p ((i+j)/2)=decide (NH (wP x) p<0):=by unfold ak6;rw[dv]);refine⟨aw (by omega) (by omega),by omega,x,dv,_,Hi x p,fun _=>⟨fun c=>⟨aw (by omega) (by omega),?_⟩,fun c=>?_⟩⟩;(·rw[c7,decide_eq_true c,if_pos rfl]at hb;exact back _ ((i+j)/2+1,j) (by refine⟨?_,?_,rfl,rfl⟩<;>repeat' (first|exact trivial|exact Or.inl rfl|exact Or.inr rfl|apply br|apply bt|apply bu|apply bA|exact⟨(by show(_:Nat)<1000000000;omega),rfl,rfl⟩|rfl|(refine And.intro (Or.inl ?_) ?_)|(refine And.intro ?_ ?_))) ⟨by dsimp only;omega,hj,hb⟩ (by dsimp only;omega));·rw[c7,decide_eq_false c,if_neg (by decide)]at hb;exact back _ (i,(i+j)/2) (by refine⟨?_,?_,rfl,rfl⟩<;>repeat' (first|exact trivial|exact Or.inl rfl|exact Or.inr rfl|apply br|apply bt|apply bu|apply bA|exact⟨(by show(_:Nat)<1000000000;omega),rfl,rfl⟩|rfl|(refine And.intro (Or.inl ?_) ?_)|(refine And.intro ?_ ?_))) ⟨by dsimp only;omega,by dsimp only;omega,hb⟩ (by dsimp only;omega))
 ·unfold bsF at hb;rw[if_neg (by omega)]at hb;rw[←hb];refine⟨fun c=>?_,fun c=>?_⟩;(·obtain⟨x,dv⟩: ∃x,l[i]?=some x:=an (by omega);refine⟨Int.natCast_nonneg i,x,dv,_,Hi x p,fun _=>?_⟩;unfold Lw;rw[dv]);·unfold Lw;rw[List.getElem?_eq_none (by omega)]
theorem ak7(l:List er)(p:Int×Int)(hl:l.length≤1000000):PC env 53 [⟨.sl au,l⟩,⟨.aD,(51:Nat)⟩,⟨bY,p⟩] (.bn (.int .i64) .bool) (((NJ wP l p:Nat):Int),Lw wP l p (NJ wP l p)):=by
 refine PC.ay (m:=2000) ae ba9 rfl rfl rfl rfl (by kernel_rfl) ?_;intro hx;simp only[Tryz.f53];simp only[go_sem,zA,↓reduceIte,↓reduceDIte,zB,zC,zD,zE,zF,zG,zH,zI]
 exact⟨_,bf8 l p hl,fun _=>rfl⟩
theorem ak8(n:Int)(h0:0<n)(h1:n≤1000000):HC env 157 [.bF,.iv (.int .i64) n] [] (.jx 22 7 0 0) [(22,.arr au (List.replicate n.toNat (dm au)))]:=by
 refine HC.ay (m:=2000) ae aT0 rfl rfl rfl rfl (by kernel_rfl) ?_;intro hx jW;simp only[Tryz.f157];simp only[go_sem,zA,↓reduceIte,↓reduceDIte,zB,zC,zD,zE,zF,zG,zH,zI]
 refine⟨fun h=>absurd h (by omega),fun _=>?_⟩;simp only[Int.sub_self,Int.sub_zero];exact⟨⟨by decide,by decide⟩,⟨by omega,by omega⟩,fun _=>⟨⟨h0,Int.le_trans h1 (by decide)⟩,Int.natCast_nonneg _,trivial⟩,fun h=>absurd h0 h⟩
theorem NL(ls:List (List er))(h0:0<gS ls)(h1:gS ls≤1000000)(hn:ls.length≤1000000):PC env 131 [⟨.sl (.sl au),ls⟩] (.sl au) ls.flatten:=by
 refine PC.ay (m:=2000) ae DF rfl rfl rfl rfl (by kernel_rfl) ?_;intro hx;simp only[Tryz.f131];simp only[go_sem,zA,↓reduceIte,↓reduceDIte,zB,zC,zD,zE,zF,zG,zH,zI]
 refine ah.qG (X:=Nat) (fun k=>⟨[(11,.iv (.int .i64) (k:Int)),(10,.iv (.int .i64) (ls.length:Int)),(9,.iv (.sl (.sl au)) ls),(0,.iv (.sl (.sl au)) ls),(3,.iv (.int .i64) (gS (ls.take k):Int))],[]⟩) (fun k=>k≤ls.length) (fun k=>ls.length-k) 0 (by refine⟨?_,?_,rfl,rfl⟩<;>repeat' (first|exact trivial|exact Or.inl rfl|exact Or.inr rfl|apply br|apply bt|apply bu|apply bA|exact⟨(by show(_:Nat)<1000000000;omega),rfl,rfl⟩|rfl|(refine And.intro (Or.inl ?_) ?_)|(refine And.intro ?_ ?_))) (Nat.zero_le _) ?_
 intro k hk back;refine av ae ⟨_,DF,rfl⟩ 2000 _ _ (by kernel_rfl) ?_;simp only[go_sem,zA,↓reduceIte,↓reduceDIte,zB,zC,zD,zE,zF,zG,zH,zI];refine⟨fun h=>?_,fun h=>?_⟩
 (·obtain⟨x,dv⟩: ∃x,ls[k]?=some x:=an (by omega);have hs:=pF dv;have ht:=pG ls (k+1);refine⟨Int.natCast_nonneg k,x,dv,aw (by omega) (by omega),fun h'=>absurd h' (by omega),fun _=>⟨aw (by omega) (by omega),?_⟩⟩;refine back _ (k+1) ⟨⟨Or.inl rfl,Or.inl rfl,Or.inl rfl,Or.inl rfl,Or.inl ?_,trivial⟩,trivial,rfl,rfl⟩ (by omega) (by omega);rw[hs];rfl)
 ·have e:ls.take k=ls:=List.take_of_length_le (by omega);rw[e];refine⟨_,_,ak8 _ (by omega) (by omega),?_⟩;simp only[go_sem,zA,↓reduceIte,↓reduceDIte,zB,zC,zD,zE,zF,zG,zH,zI];intro _;refine ah.qG (X:=Nat) (fun k=>⟨[(27,.iv (.int .i64) (k:Int)),(26,.iv (.int .i64) (ls.length:Int)),(25,.iv (.sl (.sl au)) ls),(6,match k with|0=>.jx 2500022 7 0 0|_+1=>.aF 2500022)],[(2500022,.arr au (match k with|0=>List.replicate (gS ls) (dm au)|_+1=>(ls.take k).flatten))]⟩) (fun k=>k≤ls.length) (fun k=>ls.length-k) 0 (by refine⟨?_,?_,rfl,rfl⟩<;>repeat' (first|exact trivial|exact Or.inl rfl|exact Or.inr rfl|apply br|apply bt|apply bu|apply bA|exact⟨(by show(_:Nat)<1000000000;omega),rfl,rfl⟩|rfl|(refine And.intro (Or.inl ?_) ?_)|(refine And.intro ?_ ?_))) (Nat.zero_le _) ?_;intro k hk cw;cases k with|zero=>refine av ae ⟨_,DF,rfl⟩ 2000 _ _ (by kernel_rfl) ?_;simp only[go_sem,zA,↓reduceIte,↓reduceDIte,zB,zC,zD,zE,zF,zG,zH,zI];refine⟨fun h=>?_,fun h=>?_⟩;(·obtain⟨x,dv⟩: ∃x,ls[0]?=some x:=an (by omega);have hs:gS (ls.take 1)=gS (ls.take 0)+x.length:=pF dv;have ht:=pG ls 1;refine⟨x,dv,⟨by rw[List.length_replicate];exact .inl h0,by omega⟩,⟨by decide,by decide⟩,cw _ 1 ⟨⟨Or.inl rfl,Or.inl rfl,Or.inl rfl,Or.inl rfl,trivial⟩,⟨?_,trivial⟩,rfl,rfl⟩ (by omega) (by omega)⟩;refine congrArg (aO.arr au) ?_;rw[show(1:Nat)=0+1 from rfl,aY dv];simp);(·exfalso;have AD:ls=[]:=List.length_eq_zero_iff.mp (by omega);subst AD;exact absurd h0 (by decide))|succ k=>refine av ae ⟨_,DF,rfl⟩ 2000 _ _ (by kernel_rfl) ?_;simp only[go_sem,zA,↓reduceIte,↓reduceDIte,zB,zC,zD,zE,zF,zG,zH,zI];refine⟨fun h=>?_,fun h=>?_⟩;(·obtain⟨x,dv⟩: ∃x,ls[k+1]?=some x:=an (by omega);have hs:=pF dv;have ht:=pG ls (k+1+1);(have hf:(ls.take (k+1)).flatten.length=gS (ls.take (k+1)):=by rw[List.length_flatten];rfl);refine⟨Int.natCast_nonneg _,x,dv,by omega,aw (by omega) (by omega),cw _ (k+1+1) ⟨⟨Or.inl rfl,Or.inl rfl,Or.inl rfl,Or.inl rfl,trivial⟩,⟨?_,trivial⟩,rfl,rfl⟩ (by omega) (by omega)⟩;refine congrArg (aO.arr au) ?_;rw[aY dv];simp);·have e2:ls.take (k+1)=ls:=List.take_of_length_le (by omega);rw[e2]
theorem aY2(l:List er)(o:er)(hl:l.length≤100000):PC env 81 [⟨.sl au,l⟩,⟨.aD,(51:Nat)⟩,⟨au,o⟩] (.sl au) (tQ l (NJ wP l (wP o)) o):=by
 refine PC.ay (m:=2000) ae bb6 rfl rfl rfl rfl (by kernel_rfl) ?_;intro hx;simp only[Tryz.f81];simp only[go_sem,zA,↓reduceIte,↓reduceDIte,zB,zC,zD,zE,zF,zG,zH,zI]
 have hb:=JN wP l (wP o);refine⟨_,Tx o,fun _=>⟨_,ak7 l _ (by omega),fun _=>?_⟩⟩;simp only[go_sem,zA,↓reduceIte,↓reduceDIte,zB,zC,zD,zE,zF,zG,zH,zI];(have hn:(NJ wP l (o.1,o.2.1):Int)≤(l.length:Int):=by have:=JN wP l (o.1,o.2.1);omega)
 (have hs:gS [l.take (NJ wP l (o.1,o.2.1)),[o],l.drop (NJ wP l (o.1,o.2.1))]=l.length+1:=by have:=JN wP l (o.1,o.2.1);simp[gS];omega);refine⟨⟨Int.natCast_nonneg _,hn⟩,⟨Int.natCast_nonneg _,hn⟩,_,NL _ (by rw[hs];omega) (by rw[hs];omega) (by simp),fun _=>?_⟩
 simp only[tQ,List.flatten_cons,List.flatten_nil,List.append_nil,List.singleton_append];rfl
end Go.Proofs.YtgpkijnphchkpaaGreat.Ln
namespace Go.Proofs.YtgpkijnphchkpaaGreat.Ln
attribute[local go_sem←]Bool.decide_and Bool.decide_or decide_not
attribute[local go_sem]fg bz
set_option maxHeartbeats 4000000
set_option maxRecDepth 100000
end Go.Proofs.YtgpkijnphchkpaaGreat.Ln
