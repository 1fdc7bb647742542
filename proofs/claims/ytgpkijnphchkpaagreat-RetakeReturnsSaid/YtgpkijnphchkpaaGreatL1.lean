/- Contracts: lists by places, of records. Nothing here is trusted; no condition. -/
import Derived.Test.YtgpkijnphchkpaaGreatD5
set_option linter.unusedSimpArgs false
set_option linter.unusedVariables false
open Nat renaming reduceBEq→zA,reduceAdd→zB,reduceSub→zC,reduceMul→zD,reduceLeDiff→zE
open Int renaming reduceLT→zF,reduceLE→zG,reduceToNat→zH,reduceNeg→zI
namespace Go.Proofs.YtgpkijnphchkpaaGreat.Ln
attribute[local go_sem←]Bool.decide_and Bool.decide_or decide_not
set_option maxHeartbeats 4000000
set_option maxRecDepth 100000
theorem aw {x:Int} (h: -9223372036854775808≤x)(h':x≤9223372036854775807):IntKind.i64.min≤x∧x≤IntKind.i64.max:=⟨h,h'⟩
theorem a33 {x:Int} (h:IntKind.i64.min≤x∧x≤IntKind.i64.max): -9223372036854775808≤x∧x≤9223372036854775807:=h
theorem mB {x:Int} (h:IntKind.u8.min≤x∧x≤IntKind.u8.max):0≤x∧x≤255:=h
theorem drop_cons {α:Type} {xs:List α} {i:Nat} {x:α} (h:xs[i]?=some x):xs.drop i=x::xs.drop (i+1):=by obtain⟨hi,e⟩:=List.getElem?_eq_some_iff.1 h;rw[List.drop_eq_getElem_cons hi,e]
theorem aY {α:Type} {xs:List α} {i:Nat} {x:α} (h:xs[i]?=some x):xs.take (i+1)=xs.take i++ [x]:=by rw[List.take_add_one,h];rfl
theorem an {α:Type} {xs:List α} {i:Nat} (h:i<xs.length): ∃x,xs[i]?=some x:=⟨_,List.getElem?_eq_getElem h⟩
theorem M3(a:Int):PC env 158 [⟨.int .i64,a⟩] .bool false:=by
 refine PC.ay (m:=2000) ae a16 rfl rfl rfl rfl (by kernel_rfl) ?_;intro hx;simp only[Tryz.f158];simp only[go_sem,zA,↓reduceIte,↓reduceDIte,zB,zC,zD,zE,zF,zG,zH,zI]
def Lg(a b:Int):Int:=if a<b then-1 else if b<a then 1 else 0
theorem DZ(a b:Int):PC env 137 [⟨.int .i64,a⟩,⟨.int .i64,b⟩] (.int .i64) (Lg a b):=by
 refine PC.ay (m:=2000) ae a06 rfl rfl rfl rfl (by kernel_rfl) ?_;intro hx;simp only[Tryz.f137];simp only[go_sem,zA,↓reduceIte,↓reduceDIte,zB,zC,zD,zE,zF,zG,zH,zI]
 refine⟨_,M3 a,?_⟩;simp only[go_sem,zA,↓reduceIte,↓reduceDIte,zB,zC,zD,zE,zF,zG,zH,zI];refine⟨_,M3 b,?_⟩;simp only[go_sem,zA,↓reduceIte,↓reduceDIte,zB,zC,zD,zE,zF,zG,zH,zI]
 unfold Lg;refine⟨fun h=>?_,fun h=>⟨fun h'=>?_,fun h'=>?_⟩⟩;(·rw[if_pos h]);(·rw[if_neg h,if_pos h']);·rw[if_neg h,if_neg h']
theorem bx7(xs:List Int):PC env 136 [⟨.sl (.int .i64),xs⟩] (.int .i64) ((xs.find? (·≠0)).getD 0):=by
 refine PC.ay (m:=2000) ae Ub rfl rfl rfl rfl (by kernel_rfl) ?_;intro hx;simp only[Tryz.f136];simp only[go_sem,zA,↓reduceIte,↓reduceDIte,zB,zC,zD,zE,zF,zG,zH,zI]
 refine ah.rT (X:=Nat) (fun i=>⟨[(8,.iv (.int .i64) (i:Int)),(7,.iv (.int .i64) (xs.length:Int)),(6,.iv (.sl (.int .i64)) xs),(3,.iv (.int .i64) (0:Int))],[]⟩) (fun i=>i≤xs.length∧(xs.take i).find? (·≠0)=none) (fun i=>xs.length-i) 0 (by refine⟨?_,?_,rfl,rfl⟩<;>repeat' (first|exact trivial|exact Or.inl rfl|exact Or.inr rfl|apply bw|apply bx|apply bz|apply bD|exact⟨(by show(_:Nat)<1000000000;omega),rfl,rfl⟩|rfl|(refine And.intro (Or.inl ?_) ?_)|(refine And.intro ?_ ?_))) ⟨Nat.zero_le _,rfl⟩ ?_
 intro i⟨hi,hb⟩back;refine av ae ⟨_,Ub,rfl⟩ 2000 _ _ (by kernel_rfl) ?_;simp only[go_sem,zA,↓reduceIte,↓reduceDIte,zB,zC,zD,zE,zF,zG,zH,zI];refine⟨fun h=>?_,fun h=>?_⟩
 (·obtain⟨x,dE⟩: ∃x,xs[i]?=some x:=an (by omega);refine⟨by omega,x,dE,fun h'=>?_,fun h'=>⟨?_,?_⟩⟩;(·(have:xs.find? (·≠0)=some x:=by rw[←List.take_append_drop i xs,List.find?_append,hb,drop_cons dE];simp[h']);rw[this];rfl);(·simp only[oks,Ty.ok]at hx;exact aw (by omega) (by omega));·refine back _ (i+1) (by refine⟨?_,?_,rfl,rfl⟩<;>repeat' (first|exact trivial|exact Or.inl rfl|exact Or.inr rfl|apply bw|apply bx|apply bz|apply bD|exact⟨(by show(_:Nat)<1000000000;omega),rfl,rfl⟩|rfl|(refine And.intro (Or.inl ?_) ?_)|(refine And.intro ?_ ?_))) ⟨by omega,?_⟩ (by omega);rw[List.take_add_one,List.find?_append,hb,dE];simp[h'])
 ·have e:xs.take i=xs:=List.take_of_length_le (by omega);rw[e]at hb;rw[hb];rfl
def Pl(x y:Int×Int):Int:=if Lg x.1 y.1≠0 then Lg x.1 y.1 else Lg x.2 y.2
theorem a65(x y:Int×Int):PC env 100 [⟨cd,x⟩,⟨cd,y⟩] (.int .i64) (Pl x y):=by
 refine PC.ay (m:=2000) ae aZ5 rfl rfl rfl rfl (by kernel_rfl) ?_;intro hx;simp only[Tryz.f100];simp only[go_sem,zA,↓reduceIte,↓reduceDIte,zB,zC,zD,zE,zF,zG,zH,zI]
 refine⟨_,DZ _ _,fun _=>⟨_,DZ _ _,fun _=>⟨_,bx7 _,fun _=>?_⟩⟩⟩;unfold Pl;by_cases h:Lg x.1 y.1=0<;>by_cases h':Lg x.2 y.2=0<;>simp[h,h']
abbrev Rec:=Int×Int×Int×List UInt8×Int×Int
abbrev eF:=Int×Int×Int×Int×List UInt8×Int×Int
abbrev L8:=Int×Int×Int×Int×Int×Int×Int×Int
abbrev yx:=List Rec×List eF×L8
theorem U4(o:eF):PC env 51 [⟨au,o⟩] cd (o.1,o.2.1):=by
 refine PC.ay (m:=2000) ae bj3 rfl rfl rfl rfl (by kernel_rfl) ?_;intro hx;simp only[Tryz.f51];simp only[go_sem,zA,↓reduceIte,↓reduceDIte,zB,zC,zD,zE,zF,zG,zH,zI]
theorem gN(v a b:Int):PC env 48 [⟨.int .i64,v⟩,⟨.int .i64,a⟩,⟨.int .i64,b⟩] .bool (decide (a≤v∧v≤b)):=by
 refine PC.ay (m:=2000) ae bj1 rfl rfl rfl rfl (by kernel_rfl) ?_;intro hx;simp only[Tryz.f48];simp only[go_sem,zA,↓reduceIte,↓reduceDIte,zB,zC,zD,zE,zF,zG,zH,zI]
 refine⟨fun h=>?_,fun h=>?_⟩;(·congr 1;simp[h]);·symm;simp;omega
theorem as9(v a b:Int):PC env 115 [⟨.int .i64,v⟩,⟨.int .i64,a⟩,⟨.int .i64,b⟩] .bool (decide (a≤v∧v≤b)):=by
 refine PC.ay (m:=2000) ae aZ9 rfl rfl rfl rfl (by kernel_rfl) ?_;intro hx;simp only[Tryz.f115];simp only[go_sem,zA,↓reduceIte,↓reduceDIte,zB,zC,zD,zE,zF,zG,zH,zI]
 refine⟨fun h=>?_,fun h=>?_⟩;(·congr 1;simp;omega);·symm;simp;omega
theorem Uj(v a b:Int):PC env 55 [⟨.int .i64,v⟩,⟨.int .i64,a⟩,⟨.int .i64,b⟩] .bool (decide (a≤v∧v≤b)):=by
 refine PC.ay (m:=2000) ae az0 rfl rfl rfl rfl (by kernel_rfl) ?_;intro hx;simp only[Tryz.f55];simp only[go_sem,zA,↓reduceIte,↓reduceDIte,zB,zC,zD,zE,zF,zG,zH,zI]
 refine⟨fun h=>?_,fun h=>?_⟩;(·congr 1;simp;omega);·symm;simp;omega
theorem a66(p:Int×Int)(e:Int):PC env 85 [⟨cd,p⟩,⟨.int .i64,e⟩] .bool (decide ((0≤p.1∧p.1≤7)∧(1≤p.2∧p.2≤1000000)∧(0≤e∧e≤10000))):=by
 refine PC.ay (m:=2000) ae bk3 rfl rfl rfl rfl (by kernel_rfl) ?_;intro hx;simp only[Tryz.f85];simp only[go_sem,zA,↓reduceIte,↓reduceDIte,zB,zC,zD,zE,zF,zG,zH,zI]
 (repeat' (first|(with_reducible intro _)|(with_reducible apply And.intro)|(with_reducible refine⟨_,gN _ _ _,?_⟩;try simp only[go_sem,zA,↓reduceIte,↓reduceDIte,zB,zC,zD,zE,zF,zG,zH,zI])|fail))
 all_goals first|(symm;simp;omega)|exact⟨_,gN _ _ _,by simp_all⟩|(simp_all;done)|(clear hx;simp_all;omega)|trace_state
end Go.Proofs.YtgpkijnphchkpaaGreat.Ln
namespace Go.Proofs.YtgpkijnphchkpaaGreat.Ln
attribute[local go_sem←]Bool.decide_and Bool.decide_or decide_not
set_option maxHeartbeats 4000000
set_option maxRecDepth 100000
def FO(c:Int):Int:=if 97≤c∧c≤122 then 1 else if 65≤c∧c≤90 then 2 else if 48≤c∧c≤57 then 3 else 0
theorem yP(c:Int):PC env 119 [⟨.int .u8,c⟩] (.int .i64) (FO c):=by
 refine PC.ay (m:=2000) ae T7 rfl rfl rfl rfl (by kernel_rfl) ?_;intro hx;simp only[Tryz.f119];simp only[go_sem,zA,↓reduceIte,↓reduceDIte,zB,zC,zD,zE,zF,zG,zH,zI]
 unfold FO;(repeat' (first|(with_reducible intro _)|(with_reducible apply And.intro)));all_goals(repeat' split)<;>first|rfl|omega
def Pm(u:UInt8):Bool:=decide (FO u.toNat≠0)
theorem lM {α:Type} {xs:List α} {i:Nat} {x:α} {p:α→Bool} (h:xs[i]?=some x):(xs.take (i+1)).all p=((xs.take i).all p&&p x):=by rw[aY h,List.all_append];simp
theorem sO {α:Type} {xs:List α} {i:Nat} {x:α} {p:α→Bool} (h:xs[i]?=some x)(hp:p x=false):xs.all p=false:=by rw[List.all_eq_false];exact⟨x,List.mem_of_getElem? h,by simp[hp]⟩
theorem M4(s:List UInt8):PC env 75 [⟨.str,s⟩] .bool (s.all Pm):=by
 refine PC.ay (m:=2000) ae Mw rfl rfl rfl rfl (by kernel_rfl) ?_;intro hx;simp only[Tryz.f75];simp only[go_sem,zA,↓reduceIte,↓reduceDIte,zB,zC,zD,zE,zF,zG,zH,zI]
 refine ah.rT (X:=Nat) (fun i=>⟨[(6,.iv (.int .i64) (i:Int)),(5,.iv (.int .i64) (s.length:Int)),(0,.iv .str s)],[]⟩) (fun i=>i≤s.length∧(s.take i).all Pm=true) (fun i=>s.length-i) 0 (by refine⟨?_,?_,rfl,rfl⟩<;>repeat' (first|exact trivial|exact Or.inl rfl|exact Or.inr rfl|apply bw|apply bx|apply bz|apply bD|exact⟨(by show(_:Nat)<1000000000;omega),rfl,rfl⟩|rfl|(refine And.intro (Or.inl ?_) ?_)|(refine And.intro ?_ ?_))) ⟨Nat.zero_le _,rfl⟩ ?_
 intro i⟨hi,hb⟩back;refine av ae ⟨_,Mw,rfl⟩ 2000 _ _ (by kernel_rfl) ?_;simp only[go_sem,zA,↓reduceIte,↓reduceDIte,zB,zC,zD,zE,zF,zG,zH,zI];refine⟨fun h=>?_,fun h=>?_⟩
 (·obtain⟨x,dE⟩: ∃x,s[i]?=some x:=an (by omega);have hlen:s.length≤9223372036854775807:=hx.1;refine⟨Int.natCast_nonneg i,_,⟨x,dE,rfl⟩,_,yP _,fun _=>⟨fun h'=>?_,fun h'=>⟨?_,?_⟩⟩⟩;(·exact(sO (p:=Pm) dE (by simp[Pm,h'])).symm);(·exact aw (by omega) (by omega));·refine back _ (i+1) (by refine⟨?_,?_,rfl,rfl⟩<;>repeat' (first|exact trivial|exact Or.inl rfl|exact Or.inr rfl|apply bw|apply bx|apply bz|apply bD|exact⟨(by show(_:Nat)<1000000000;omega),rfl,rfl⟩|rfl|(refine And.intro (Or.inl ?_) ?_)|(refine And.intro ?_ ?_))) ⟨by omega,?_⟩ (by omega);rw[lM dE,hb];simp[Pm,h'])
 ·have e:s.take i=s:=List.take_of_length_le (by omega);rw[e]at hb;rw[hb]
def lO(s:List UInt8):Bool:=decide (1≤s.length∧s.length≤20)&&s.all Pm
theorem Fv(s:List UInt8):PC env 36 [⟨.str,s⟩] .bool (lO s):=by
 refine PC.ay (m:=2000) ae ay8 rfl rfl rfl rfl (by kernel_rfl) ?_;intro hx;simp only[Tryz.f36];simp only[go_sem,zA,↓reduceIte,↓reduceDIte,zB,zC,zD,zE,zF,zG,zH,zI]
 unfold lO;(repeat' (first|(with_reducible intro _)|(with_reducible apply And.intro)|(with_reducible refine⟨_,M4 _,?_⟩;try simp only[go_sem,zA,↓reduceIte,↓reduceDIte,zB,zC,zD,zE,zF,zG,zH,zI])|fail))
 all_goals first|exact⟨_,M4 _,by simp_all;omega⟩|(symm;simp;omega)
theorem U5(u:UInt8):Pm u=true↔ ¬((((u.toNat:Int)<97∨(122:Int)<u.toNat)∧((u.toNat:Int)<65∨(90:Int)<u.toNat))∧((u.toNat:Int)<48∨(57:Int)<u.toNat)):=by
 unfold Pm FO;rw[decide_eq_true_eq];(repeat' split);all_goals omega
theorem yN(s:List UInt8):PC env 56 [⟨.str,s⟩] .bool (s.all Pm):=by
 refine PC.ay (m:=2000) ae Mv rfl rfl rfl rfl (by kernel_rfl) ?_;intro hx;simp only[Tryz.f56];simp only[go_sem,zA,↓reduceIte,↓reduceDIte,zB,zC,zD,zE,zF,zG,zH,zI]
 refine ah.rT (X:=Nat) (fun i=>⟨[(3,.iv (.int .i64) (i:Int)),(0,.iv .str s)],[]⟩) (fun i=>i≤s.length∧(s.take i).all Pm=true) (fun i=>s.length-i) 0 (by refine⟨?_,?_,rfl,rfl⟩<;>repeat' (first|exact trivial|exact Or.inl rfl|exact Or.inr rfl|apply bw|apply bx|apply bz|apply bD|exact⟨(by show(_:Nat)<1000000000;omega),rfl,rfl⟩|rfl|(refine And.intro (Or.inl ?_) ?_)|(refine And.intro ?_ ?_))) ⟨Nat.zero_le _,rfl⟩ ?_
 intro i⟨hi,hb⟩back;refine av ae ⟨_,Mv,rfl⟩ 2000 _ _ (by kernel_rfl) ?_;simp only[go_sem,zA,↓reduceIte,↓reduceDIte,zB,zC,zD,zE,zF,zG,zH,zI];have hlen:s.length≤9223372036854775807:=hx.1
 refine⟨fun h=>?_,fun h=>?_⟩;(·obtain⟨x,dE⟩: ∃x,s[i]?=some x:=an (by omega);have nI:=U5 x;refine⟨Int.natCast_nonneg i,_,⟨x,dE,rfl⟩,?_⟩;cases hp:Pm x with|false=>have oZ:s.all Pm=false:=sO (p:=Pm) dE hp;rw[hp]at nI;simp only[Bool.false_eq_true,false_iff,Decidable.not_not]at nI;(repeat' (first|(with_reducible intro _)|(with_reducible apply And.intro)|fail));(all_goals first|exact oZ.symm|(exfalso;omega))|true=>rw[hp]at nI;simp only[true_iff]at nI;(repeat' (first|(with_reducible intro _)|(with_reducible apply And.intro)|fail));all_goals first|omega|exact aw (by omega) (by omega)|exact back _ (i+1) (by refine⟨?_,?_,rfl,rfl⟩<;>repeat' (first|exact trivial|exact Or.inl rfl|exact Or.inr rfl|apply bw|apply bx|apply bz|apply bD|exact⟨(by show(_:Nat)<1000000000;omega),rfl,rfl⟩|rfl|(refine And.intro (Or.inl ?_) ?_)|(refine And.intro ?_ ?_))) ⟨by omega,by rw[lM dE,hb,hp];rfl⟩ (by omega))
 ·have e:s.take i=s:=List.take_of_length_le (by omega);rw[e]at hb;rw[hb]
theorem M5(s:List UInt8):PC env 27 [⟨.str,s⟩] .bool (lO s):=by
 refine PC.ay (m:=2000) ae bi3 rfl rfl rfl rfl (by kernel_rfl) ?_;intro hx;simp only[Tryz.f27];simp only[go_sem,zA,↓reduceIte,↓reduceDIte,zB,zC,zD,zE,zF,zG,zH,zI]
 unfold lO;refine⟨_,Uj _ _ _,?_⟩;simp only[go_sem,zA,↓reduceIte,↓reduceDIte,zB,zC,zD,zE,zF,zG,zH,zI];(repeat' (first|(with_reducible intro _)|(with_reducible apply And.intro)|(with_reducible refine⟨_,yN _,?_⟩;try simp only[go_sem,zA,↓reduceIte,↓reduceDIte,zB,zC,zD,zE,zF,zG,zH,zI])|fail))
 all_goals first|exact⟨_,yN _,by simp_all;omega⟩|(symm;simp;omega)
end Go.Proofs.YtgpkijnphchkpaaGreat.Ln
namespace Go.Proofs.YtgpkijnphchkpaaGreat.Ln
attribute[local go_sem←]Bool.decide_and Bool.decide_or decide_not
set_option maxHeartbeats 4000000
set_option maxRecDepth 100000
theorem ee:bytesOf ⟨#[]⟩=[]:=rfl
def iT:List (Int×(Nat×Nat)):=[(1,(88,89)),(2,(90,91)),(3,(92,93)),(4,(94,95)),(5,(96,97))]
theorem at2:PC env 45 [] (.mp (.int .i64) fY) iT:=by
 refine PC.ay (m:=2000) ae bj0 rfl rfl rfl rfl (by kernel_rfl) ?_;intro hx;simp only[Tryz.f45];simp only[go_sem,zA,↓reduceIte,↓reduceDIte,zB,zC,zD,zE,zF,zG,zH,zI,ee]
 simp[cT,gF,iT]
def rk1(o:eF):Bool:=decide ((lO o.2.2.2.2.1=true∧o.2.2.2.2.2.1=0)∧o.2.2.2.2.2.2=0)
theorem bx8(o:eF):PC env 88 [⟨au,o⟩] .bool (rk1 o):=by
 refine PC.ay (m:=2000) ae bk6 rfl rfl rfl rfl (by kernel_rfl) ?_;intro hx;simp only[Tryz.f88];simp only[go_sem,zA,↓reduceIte,↓reduceDIte,zB,zC,zD,zE,zF,zG,zH,zI,ee]
 unfold rk1;refine⟨_,Fv _,?_⟩;cases h:lO o.2.2.2.2.1;(·simp only[go_sem,zA,↓reduceIte,↓reduceDIte,zB,zC,zD,zE,zF,zG,zH,zI,ee];simp[h]);·simp only[go_sem,zA,↓reduceIte,↓reduceDIte,zB,zC,zD,zE,zF,zG,zH,zI,ee];(repeat' (first|(with_reducible intro _)|(with_reducible apply And.intro)|fail));all_goals(clear hx;simp_all)
theorem bx9(o:eF)(r:Rec):PC env 89 [⟨au,o⟩,⟨aq,r⟩] .bool (decide (r.2.2.2.1=o.2.2.2.2.1)):=by
 refine PC.ay (m:=2000) ae bk7 rfl rfl rfl rfl (by kernel_rfl) ?_;intro hx;simp only[Tryz.f89];simp only[go_sem,zA,↓reduceIte,↓reduceDIte,zB,zC,zD,zE,zF,zG,zH,zI,ee]
def rk2(o:eF):Bool:=decide ((o.2.2.2.2.1=[]∧(0≤o.2.2.2.2.2.1∧o.2.2.2.2.2.1≤7))∧o.2.2.2.2.2.2=0)
theorem by0(o:eF):PC env 90 [⟨au,o⟩] .bool (rk2 o):=by
 refine PC.ay (m:=2000) ae bk8 rfl rfl rfl rfl (by kernel_rfl) ?_;intro hx;simp only[Tryz.f90];simp only[go_sem,zA,↓reduceIte,↓reduceDIte,zB,zC,zD,zE,zF,zG,zH,zI,ee]
 unfold rk2;(repeat' (first|(with_reducible intro _)|(with_reducible apply And.intro)|(with_reducible refine⟨_,gN _ _ _,?_⟩;try simp only[go_sem,zA,↓reduceIte,↓reduceDIte,zB,zC,zD,zE,zF,zG,zH,zI,ee])|fail))
 all_goals first|(symm;simp;omega)|(clear hx;simp_all;done)|exact⟨_,gN _ _ _,by clear hx;simp_all⟩
theorem by1(o:eF)(r:Rec):PC env 91 [⟨au,o⟩,⟨aq,r⟩] .bool (decide (r.2.2.2.2.1=o.2.2.2.2.2.1)):=by
 refine PC.ay (m:=2000) ae bk9 rfl rfl rfl rfl (by kernel_rfl) ?_;intro hx;simp only[Tryz.f91];simp only[go_sem,zA,↓reduceIte,↓reduceDIte,zB,zC,zD,zE,zF,zG,zH,zI,ee]
theorem by2(o:eF):PC env 92 [⟨au,o⟩] .bool (rk2 o):=by
 refine PC.ay (m:=2000) ae bl0 rfl rfl rfl rfl (by kernel_rfl) ?_;intro hx;simp only[Tryz.f92];simp only[go_sem,zA,↓reduceIte,↓reduceDIte,zB,zC,zD,zE,zF,zG,zH,zI,ee]
 unfold rk2;(repeat' (first|(with_reducible intro _)|(with_reducible apply And.intro)|(with_reducible refine⟨_,gN _ _ _,?_⟩;try simp only[go_sem,zA,↓reduceIte,↓reduceDIte,zB,zC,zD,zE,zF,zG,zH,zI,ee])|fail))
 all_goals first|(symm;simp;omega)|(clear hx;simp_all;done)|exact⟨_,gN _ _ _,by clear hx;simp_all⟩
theorem by3(o:eF)(r:Rec):PC env 93 [⟨au,o⟩,⟨aq,r⟩] .bool (decide (r.1=o.2.2.2.2.2.1)):=by
 refine PC.ay (m:=2000) ae bl1 rfl rfl rfl rfl (by kernel_rfl) ?_;intro hx;simp only[Tryz.f93];simp only[go_sem,zA,↓reduceIte,↓reduceDIte,zB,zC,zD,zE,zF,zG,zH,zI,ee]
def rk4(o:eF):Bool:=decide ((o.2.2.2.2.1=[]∧(0≤o.2.2.2.2.2.1∧o.2.2.2.2.2.1≤o.2.2.1))∧o.2.2.2.2.2.2=0)
theorem by4(o:eF):PC env 94 [⟨au,o⟩] .bool (rk4 o):=by
 refine PC.ay (m:=2000) ae bl2 rfl rfl rfl rfl (by kernel_rfl) ?_;intro hx;simp only[Tryz.f94];simp only[go_sem,zA,↓reduceIte,↓reduceDIte,zB,zC,zD,zE,zF,zG,zH,zI,ee]
 unfold rk4;(repeat' (first|(with_reducible intro _)|(with_reducible apply And.intro)|(with_reducible refine⟨_,gN _ _ _,?_⟩;try simp only[go_sem,zA,↓reduceIte,↓reduceDIte,zB,zC,zD,zE,zF,zG,zH,zI,ee])|fail))
 all_goals first|(symm;simp;omega)|(clear hx;simp_all;done)|exact⟨_,gN _ _ _,by clear hx;simp_all⟩
theorem by5(o:eF)(r:Rec):PC env 95 [⟨au,o⟩,⟨aq,r⟩] .bool (decide (o.2.2.2.2.2.1≤r.2.2.1)):=by
 refine PC.ay (m:=2000) ae bl3 rfl rfl rfl rfl (by kernel_rfl) ?_;intro hx;simp only[Tryz.f95];simp only[go_sem,zA,↓reduceIte,↓reduceDIte,zB,zC,zD,zE,zF,zG,zH,zI,ee]
def rk5(o:eF):Bool:=decide ((o.2.2.2.2.1=[]∧(1≤o.2.2.2.2.2.1∧o.2.2.2.2.2.1≤1000000))∧(0≤o.2.2.2.2.2.2∧o.2.2.2.2.2.2≤7))
theorem by6(o:eF):PC env 96 [⟨au,o⟩] .bool (rk5 o):=by
 refine PC.ay (m:=2000) ae bl4 rfl rfl rfl rfl (by kernel_rfl) ?_;intro hx;simp only[Tryz.f96];simp only[go_sem,zA,↓reduceIte,↓reduceDIte,zB,zC,zD,zE,zF,zG,zH,zI,ee]
 unfold rk5;(repeat' (first|(with_reducible intro _)|(with_reducible apply And.intro)|(with_reducible refine⟨_,gN _ _ _,?_⟩;try simp only[go_sem,zA,↓reduceIte,↓reduceDIte,zB,zC,zD,zE,zF,zG,zH,zI,ee])|fail))
 all_goals first|(symm;simp;omega)|(clear hx;simp_all;done)|exact⟨_,gN _ _ _,by clear hx;simp_all⟩
theorem by7(o:eF)(r:Rec):PC env 97 [⟨au,o⟩,⟨aq,r⟩] .bool (decide (r.1=o.2.2.2.2.2.2∧r.2.1=o.2.2.2.2.2.1)):=by
 refine PC.ay (m:=2000) ae bl5 rfl rfl rfl rfl (by kernel_rfl) ?_;intro hx;simp only[Tryz.f97];simp only[go_sem,zA,↓reduceIte,↓reduceDIte,zB,zC,zD,zE,zF,zG,zH,zI,ee]
 (repeat' (first|(with_reducible intro _)|(with_reducible apply And.intro)|fail));all_goals(clear hx;simp_all)
def rk(o:eF):Bool:=if o.2.2.2.1=1 then rk1 o else if o.2.2.2.1=2 then rk2 o else if o.2.2.2.1=3 then rk2 o else if o.2.2.2.1=4 then rk4 o else if o.2.2.2.1=5 then rk5 o else false
def qD(o:eF)(r:Rec):Bool:=if o.2.2.2.1=1 then decide (r.2.2.2.1=o.2.2.2.2.1)else if o.2.2.2.1=2 then decide (r.2.2.2.2.1=o.2.2.2.2.2.1)else if o.2.2.2.1=3 then decide (r.1=o.2.2.2.2.2.1)else if o.2.2.2.1=4 then decide (o.2.2.2.2.2.1≤r.2.2.1)else if o.2.2.2.1=5 then decide (r.1=o.2.2.2.2.2.2∧r.2.1=o.2.2.2.2.2.1)else false
def gD(o:eF):Bool:=decide ((0≤o.1∧o.1≤7)∧(1≤o.2.1∧o.2.1≤1000000)∧(0≤o.2.2.1∧o.2.2.1≤10000))&&rk o
def dx(r:Rec):Bool:=decide ((0≤r.1∧r.1≤7)∧(1≤r.2.1∧r.2.1≤1000000)∧(0≤r.2.2.1∧r.2.2.1≤10000))&&(lO r.2.2.2.1&&decide ((0≤r.2.2.2.2.1∧r.2.2.2.2.1≤7)∧(1≤r.2.2.2.2.2∧r.2.2.2.2.2≤1000)))
def cD(o:eF)(r:Rec):Bool:=decide (r.2.2.1≤o.2.2.1)&&qD o r
theorem IQ {k:Int} {v:Nat×Nat} (h:aL (gF (.int .i64)) iT k=some v):(k=1∧v=(88,89))∨(k=2∧v=(90,91))∨(k=3∧v=(92,93))∨(k=4∧v=(94,95))∨(k=5∧v=(96,97)):=by
 unfold iT at h;simp only[aL,gF,cond_eq_ite,decide_eq_true_eq]at h;(repeat' split at h);all_goals first|(cases h;done)|(injection h with h;subst h;simp_all)
theorem IS {k:Int} (h:aL (gF (.int .i64)) iT k=none):k≠1∧k≠2∧k≠3∧k≠4∧k≠5:=by
 unfold iT at h;simp only[aL,gF,cond_eq_ite,decide_eq_true_eq]at h;(repeat' split at h);all_goals first|(cases h;done)|simp_all
theorem U6(o:eF):PC env 49 [⟨.mp (.int .i64) fY,iT⟩,⟨au,o⟩] .bool (gD o):=by
 refine PC.ay (m:=2000) ae bj2 rfl rfl rfl rfl (by kernel_rfl) ?_;intro hx;simp only[Tryz.f49];simp only[go_sem,zA,↓reduceIte,↓reduceDIte,zB,zC,zD,zE,zF,zG,zH,zI,ee]
 refine⟨_,U4 o,fun _=>⟨_,a66 _ _,?_⟩⟩;simp only[go_sem,zA,↓reduceIte,↓reduceDIte,zB,zC,zD,zE,zF,zG,zH,zI,ee];refine⟨fun h=>?_,fun h=>⟨fun v hv=>?_,fun hn=>?_⟩⟩;(·simp[gD,h])
 (·rcases IQ hv with⟨k,rfl⟩|⟨k,rfl⟩|⟨k,rfl⟩|⟨k,rfl⟩|⟨k,rfl⟩<;>simp only[go_sem,zA,↓reduceIte,↓reduceDIte,zB,zC,zD,zE,zF,zG,zH,zI,ee];(·exact⟨_,bx8 o,by simp[gD,rk,k,h]⟩);(·exact⟨_,by0 o,by simp[gD,rk,k,h]⟩);(·exact⟨_,by2 o,by simp[gD,rk,k,h]⟩);(·exact⟨_,by4 o,by simp[gD,rk,k,h]⟩);·exact⟨_,by6 o,by simp[gD,rk,k,h]⟩)
 ·have:=IS hn;simp[gD,rk,this]
theorem U7(o:eF)(r:Rec):PC env 87 [⟨au,o⟩,⟨.ptr (.mp (.int .i64) fY),iT⟩,⟨.ptr aq,r⟩] .bool (cD o r):=by
 refine PC.ay (m:=2000) ae bk5 rfl rfl rfl rfl (by kernel_rfl) ?_;intro hx;simp only[Tryz.f87];simp only[go_sem,zA,↓reduceIte,↓reduceDIte,zB,zC,zD,zE,zF,zG,zH,zI,ee]
 refine⟨fun v hv=>?_,fun hn=>?_⟩;(·rcases IQ hv with⟨k,rfl⟩|⟨k,rfl⟩|⟨k,rfl⟩|⟨k,rfl⟩|⟨k,rfl⟩<;>simp only[go_sem,zA,↓reduceIte,↓reduceDIte,zB,zC,zD,zE,zF,zG,zH,zI,ee];(·exact⟨fun hl=>⟨_,bx9 o r,by simp[cD,qD,k,hl]⟩,fun hl=>by simp[cD,hl]⟩);(·exact⟨fun hl=>⟨_,by1 o r,by simp[cD,qD,k,hl]⟩,fun hl=>by simp[cD,hl]⟩);(·exact⟨fun hl=>⟨_,by3 o r,by simp[cD,qD,k,hl]⟩,fun hl=>by simp[cD,hl]⟩);(·exact⟨fun hl=>⟨_,by5 o r,by simp[cD,qD,k,hl]⟩,fun hl=>by simp[cD,hl]⟩);·exact⟨fun hl=>⟨_,by7 o r,by simp[cD,qD,k,hl]⟩,fun hl=>by simp[cD,hl]⟩)
 ·have:=IS hn;simp[cD,qD,this]
end Go.Proofs.YtgpkijnphchkpaaGreat.Ln
namespace Go.Proofs.YtgpkijnphchkpaaGreat.Ln
attribute[local go_sem←]Bool.decide_and Bool.decide_or decide_not
set_option maxHeartbeats 4000000
set_option maxRecDepth 100000
abbrev MpT:Ty:=.mp (.int .i64) fY
abbrev bo0:Ty:=.eY 87 (.pair (.ptr (.mp (.int .i64) fY)) (.ptr aq))
def U8 {α:Type} (p:α→Bool)(l:List α):Int:=if l.any p then(l.findIdx p:Int)else-1
theorem IU {α:Type} {xs:List α} {i:Nat} {x:α} {p:α→Bool} (h:xs[i]?=some x):(xs.take (i+1)).any p=((xs.take i).any p||p x):=by rw[aY h,List.any_append];simp
theorem at3 {α:Type} {p:α→Bool} {l:List α} {i:Nat} {x:α} (h:l[i]?=some x)(hb:(l.take i).any p=false)(hp:p x=true):U8 p l=(i:Int):=by
 have by8:l.any p=true:=List.any_eq_true.2 ⟨x,List.mem_of_getElem? h,hp⟩;unfold U8;rw[if_pos by8];obtain⟨hi,e⟩:=List.getElem?_eq_some_iff.1 h;(have:l.findIdx p=i:=by rw[List.findIdx_eq hi];refine⟨by rw[e];exact hp,fun j hj=>?_⟩;rw[List.any_eq_false]at hb;have:=hb l[j] (by rw[List.mem_take_iff_getElem];exact⟨j,by omega,rfl⟩);simpa using this)
 rw[this]
theorem Fu(l:List eF)(r:Rec):PC env 132 [⟨.sl au,l⟩,⟨bo0,(iT,r)⟩] (.int .i64) (U8 (fun o=>cD o r) l):=by
 refine PC.ay (m:=2000) ae Ua rfl rfl rfl rfl (by kernel_rfl) ?_;intro hx;simp only[Tryz.f132];simp only[go_sem,zA,↓reduceIte,↓reduceDIte,zB,zC,zD,zE,zF,zG,zH,zI]
 refine ah.rT (X:=Nat) (fun i=>⟨[(8,.iv (.int .i64) (i:Int)),(7,.iv (.int .i64) (l.length:Int)),(0,.iv (.sl au) l),(1,.fn 87 [.dU MpT iT 0,.dU aq r 0])],[]⟩) (fun i=>i≤l.length∧(l.take i).any (fun o=>cD o r)=false) (fun i=>l.length-i) 0 (by refine⟨?_,?_,rfl,rfl⟩<;>repeat' (first|exact trivial|exact Or.inl rfl|exact Or.inr rfl|apply bw|apply bx|apply bz|apply bD|exact⟨(by show(_:Nat)<1000000000;omega),rfl,rfl⟩|rfl|(refine And.intro (Or.inl ?_) ?_)|(refine And.intro ?_ ?_))) ⟨Nat.zero_le _,rfl⟩ ?_
 intro i⟨hi,hb⟩back;refine av ae ⟨_,Ua,rfl⟩ 2000 _ _ (by kernel_rfl) ?_;simp only[go_sem,zA,↓reduceIte,↓reduceDIte,zB,zC,zD,zE,zF,zG,zH,zI];have hlen:l.length≤9223372036854775807:=hx.1.1
 refine⟨fun h=>?_,fun h=>?_⟩;(·obtain⟨x,dE⟩: ∃x,l[i]?=some x:=an (by omega);refine⟨Int.natCast_nonneg i,x,dE,_,U7 x r,?_⟩;cases hm:cD x r;(·simp only[go_sem,zA,↓reduceIte,↓reduceDIte,zB,zC,zD,zE,zF,zG,zH,zI];refine⟨aw (by omega) (by omega),back _ (i+1) (by refine⟨?_,?_,rfl,rfl⟩<;>repeat' (first|exact trivial|exact Or.inl rfl|exact Or.inr rfl|apply bw|apply bx|apply bz|apply bD|exact⟨(by show(_:Nat)<1000000000;omega),rfl,rfl⟩|rfl|(refine And.intro (Or.inl ?_) ?_)|(refine And.intro ?_ ?_))) ⟨by omega,by rw[IU dE,hb,hm];rfl⟩ (by omega)⟩);·simp only[go_sem,zA,↓reduceIte,↓reduceDIte,zB,zC,zD,zE,zF,zG,zH,zI];exact(at3 dE hb hm).symm)
 ·have e:l.take i=l:=List.take_of_length_le (by omega);rw[e]at hb;unfold U8;rw[hb];rfl
theorem sW(l:List eF)(r:Rec):PC env 86 [⟨.sl au,l⟩,⟨bo0,(iT,r)⟩] .bool (l.any (fun o=>cD o r)):=by
 refine PC.ay (m:=2000) ae bk4 rfl rfl rfl rfl (by kernel_rfl) ?_;intro hx;simp only[Tryz.f86];simp only[go_sem,zA,↓reduceIte,↓reduceDIte,zB,zC,zD,zE,zF,zG,zH,zI]
 refine⟨_,Fu l r,fun _=>?_⟩;unfold U8;cases h:l.any (fun o=>cD o r);(·rfl);·simp
theorem M6(l:List eF)(r:Rec):PC env 44 [⟨MpT,iT⟩,⟨.sl au,l⟩,⟨aq,r⟩] .bool (l.any (fun o=>cD o r)):=by
 refine PC.ay (m:=2000) ae bi9 rfl rfl rfl rfl (by kernel_rfl) ?_;intro hx;simp only[Tryz.f44];simp only[go_sem,zA,↓reduceIte,↓reduceDIte,zB,zC,zD,zE,zF,zG,zH,zI]
 exact⟨_,sW l r,rfl⟩
def bsF(lt:Nat→Bool)(i j:Nat):Nat:=if i<j then(if lt ((i+j)/2)then bsF lt ((i+j)/2+1) j else bsF lt i ((i+j)/2))else i termination_by j-i
theorem Lh(lt:Nat→Bool)(i j:Nat)(h:i≤j):i≤bsF lt i j∧bsF lt i j≤j:=by
 unfold bsF;split;(·split;(·have:=Lh lt ((i+j)/2+1) j (by omega);omega);·have:=Lh lt i ((i+j)/2) (by omega);omega);·omega termination_by j-i
def at4 {α:Type} (pl:α→Int×Int)(l:List α)(p:Int×Int)(h:Nat):Bool:=match l[h]? with|some x=>decide (Pl (pl x) p<0)|none=>false
def Pn {α:Type} (pl:α→Int×Int)(l:List α)(p:Int×Int):Nat:=bsF (at4 pl l p) 0 l.length
def M7 {α:Type} (pl:α→Int×Int)(l:List α)(p:Int×Int)(i:Nat):Bool:=match l[i]? with|some x=>decide (Pl (pl x) p=0)|none=>false
theorem Li {α:Type} (pl:α→Int×Int)(l:List α)(p:Int×Int):Pn pl l p≤l.length:=(Lh _ 0 l.length (Nat.zero_le _)).2
def BE(o:eF):Int×Int:=(o.1,o.2.1)
def plR(r:Rec):Int×Int:=(r.1,r.2.1)
theorem Po {i j:Nat} (h:(i:Int)+j≤2000000):IntKind.i64.wrap (IntKind.u64.wrap ((i:Int)+j)/2^1)=(((i+j)/2:Nat):Int):=by
 have e1:IntKind.u64.wrap ((i:Int)+j)=(i:Int)+j:=gj _ ⟨by simp only[E9];omega,by simp only[Fa];omega⟩;rw[e1];(have e2:((i:Int)+j)/2^1=(((i+j)/2:Nat):Int):=by rw[Int.natCast_ediv];norm_cast)
 rw[e2];exact gj _ ⟨by simp only[Mo];omega,by simp only[max_i64];omega⟩
def ia {α:Type} (ls:List (List α)):Nat:=(ls.map List.length).sum
theorem qE {α:Type} {ls:List (List α)} {k:Nat} {x:List α} (h:ls[k]?=some x):ia (ls.take (k+1))=ia (ls.take k)+x.length:=by unfold ia;rw[aY h,List.map_append,List.sum_append];simp
theorem qF {α:Type} (ls:List (List α))(k:Nat):ia (ls.take k)≤ia ls:=by unfold ia;(conv=>rhs;rw[←List.take_append_drop k ls]);rw[List.map_append,List.sum_append];omega
def vu {α:Type} (l:List α)(i:Nat)(x:α):List α:=l.take i++x::l.drop i
end Go.Proofs.YtgpkijnphchkpaaGreat.Ln
namespace Go.Proofs.YtgpkijnphchkpaaGreat.Ln
attribute[local go_sem←]Bool.decide_and Bool.decide_or decide_not
attribute[local go_sem]ft bC
set_option maxHeartbeats 4000000
set_option maxRecDepth 100000
theorem IV(o:eF)(p:Int×Int):PC env 102 [⟨au,o⟩,⟨cd,p⟩,⟨.ptr .aD,(51:Nat)⟩] (.int .i64) (Pl (BE o) p):=by
 refine PC.ay (m:=2000) ae aZ6 rfl rfl rfl rfl (by kernel_rfl) ?_;intro hx;simp only[Tryz.f102];simp only[go_sem,zA,↓reduceIte,↓reduceDIte,zB,zC,zD,zE,zF,zG,zH,zI]
 exact⟨_,U4 o,fun _=>⟨_,a65 _ _,fun _=>rfl⟩⟩
theorem bo1(l:List eF)(p:Int×Int)(hl:l.length≤1000000):PC env 101 [⟨.sl au,l⟩,⟨cd,p⟩,⟨.eY 102 (.ptr .aD),(51:Nat)⟩] (.bq (.int .i64) .bool) (((Pn BE l p:Nat):Int),M7 BE l p (Pn BE l p)):=by
 refine PC.ay (m:=2000) ae T0 rfl rfl rfl rfl (by kernel_rfl) ?_;intro hx;simp only[Tryz.f101];simp only[go_sem,zA,↓reduceIte,↓reduceDIte,zB,zC,zD,zE,zF,zG,zH,zI]
 refine ah.rT (X:=Nat×Nat) (fun z=>⟨[(9,.iv (.int .i64) (z.1:Int)),(10,.iv (.int .i64) (z.2:Int)),(8,.iv (.int .i64) (l.length:Int)),(0,.iv (.sl au) l),(2,.fn 102 [.dU .aD (51:Nat) 0]),(4,.ref 4 0)],[(4,.box [.iv (.int .i64) p.1,.iv (.int .i64) p.2])]⟩) (fun z=>z.1≤z.2∧z.2≤l.length∧bsF (at4 BE l p) z.1 z.2=Pn BE l p) (fun z=>z.2-z.1) (0,l.length) (by refine⟨?_,?_,rfl,rfl⟩<;>repeat' (first|exact trivial|exact Or.inl rfl|exact Or.inr rfl|apply bw|apply bx|apply bz|apply bD|exact⟨(by show(_:Nat)<1000000000;omega),rfl,rfl⟩|rfl|(refine And.intro (Or.inl ?_) ?_)|(refine And.intro ?_ ?_))) ⟨Nat.zero_le _,Nat.le_refl _,rfl⟩ ?_
 intro⟨i,j⟩⟨fv,hj,hb⟩back;dsimp only at fv hj hb;refine av ae ⟨_,T0,rfl⟩ 2000 _ _ (by kernel_rfl) ?_;simp only[go_sem,zA,↓reduceIte,↓reduceDIte,zB,zC,zD,zE,zF,zG,zH,zI]
 have hw:=Po (i:=i) (j:=j) (by omega);have hu:IntKind.u64.wrap ((i:Int)+j)=(i:Int)+j:=gj _ ⟨by simp only[E9];omega,by simp only[Fa];omega⟩;refine⟨fun h=>?_,fun h=>?_⟩
 (·obtain⟨x,dE⟩: ∃x,l[(i+j)/2]?=some x:=an (by omega);rw[hw,hu,Int.toNat_natCast];unfold bsF at hb;rw[if_pos (by omega)]at hb;(have dh:at4 BE l p ((i+j)/2)=decide (Pl (BE x) p<0):=by unfold at4;rw[dE]);refine⟨aw (by omega) (by omega),by omega,x,dE,_,IV x p,fun _=>⟨fun c=>⟨aw (by omega) (by omega),?_⟩,fun c=>?_⟩⟩;(·rw[dh,decide_eq_true c,if_pos rfl]at hb;exact back _ ((i+j)/2+1,j) (by refine⟨?_,?_,rfl,rfl⟩<;>repeat' (first|exact trivial|exact Or.inl rfl|exact Or.inr rfl|apply bw|apply bx|apply bz|apply bD|exact⟨(by show(_:Nat)<1000000000;omega),rfl,rfl⟩|rfl|(refine And.intro (Or.inl ?_) ?_)|(refine And.intro ?_ ?_))) ⟨by dsimp only;omega,hj,hb⟩ (by dsimp only;omega));·rw[dh,decide_eq_false c,if_neg (by decide)]at hb;exact back _ (i,(i+j)/2) (by refine⟨?_,?_,rfl,rfl⟩<;>repeat' (first|exact trivial|exact Or.inl rfl|exact Or.inr rfl|apply bw|apply bx|apply bz|apply bD|exact⟨(by show(_:Nat)<1000000000;omega),rfl,rfl⟩|rfl|(refine And.intro (Or.inl ?_) ?_)|(refine And.intro ?_ ?_))) ⟨by dsimp only;omega,by dsimp only;omega,hb⟩ (by dsimp only;omega))
 ·unfold bsF at hb;rw[if_neg (by omega)]at hb;rw[←hb];refine⟨fun c=>?_,fun c=>?_⟩;(·obtain⟨x,dE⟩: ∃x,l[i]?=some x:=an (by omega);refine⟨Int.natCast_nonneg i,x,dE,_,IV x p,fun _=>?_⟩;unfold M7;rw[dE]);·unfold M7;rw[List.getElem?_eq_none (by omega)]
theorem at5(l:List eF)(p:Int×Int)(hl:l.length≤1000000):PC env 53 [⟨.sl au,l⟩,⟨.aD,(51:Nat)⟩,⟨cd,p⟩] (.bq (.int .i64) .bool) (((Pn BE l p:Nat):Int),M7 BE l p (Pn BE l p)):=by
 refine PC.ay (m:=2000) ae bj4 rfl rfl rfl rfl (by kernel_rfl) ?_;intro hx;simp only[Tryz.f53];simp only[go_sem,zA,↓reduceIte,↓reduceDIte,zB,zC,zD,zE,zF,zG,zH,zI]
 exact⟨_,bo1 l p hl,fun _=>rfl⟩
theorem at6(n:Int)(h0:0<n)(h1:n≤1000000):HC env 157 [.bI,.iv (.int .i64) n] [] (.jI 22 7 0 0) [(22,.arr au (List.replicate n.toNat (dA au)))]:=by
 refine HC.ay (m:=2000) ae a15 rfl rfl rfl rfl (by kernel_rfl) ?_;intro hx kj;simp only[Tryz.f157];simp only[go_sem,zA,↓reduceIte,↓reduceDIte,zB,zC,zD,zE,zF,zG,zH,zI]
 refine⟨fun h=>absurd h (by omega),fun _=>?_⟩;simp only[Int.sub_self,Int.sub_zero];exact⟨⟨by decide,by decide⟩,⟨by omega,by omega⟩,fun _=>⟨⟨h0,Int.le_trans h1 (by decide)⟩,Int.natCast_nonneg _,trivial⟩,fun h=>absurd h0 h⟩
theorem Pp(ls:List (List eF))(h0:0<ia ls)(h1:ia ls≤1000000)(hn:ls.length≤1000000):PC env 131 [⟨.sl (.sl au),ls⟩] (.sl au) ls.flatten:=by
 refine PC.ay (m:=2000) ae Fj rfl rfl rfl rfl (by kernel_rfl) ?_;intro hx;simp only[Tryz.f131];simp only[go_sem,zA,↓reduceIte,↓reduceDIte,zB,zC,zD,zE,zF,zG,zH,zI]
 refine ah.rT (X:=Nat) (fun k=>⟨[(11,.iv (.int .i64) (k:Int)),(10,.iv (.int .i64) (ls.length:Int)),(9,.iv (.sl (.sl au)) ls),(0,.iv (.sl (.sl au)) ls),(3,.iv (.int .i64) (ia (ls.take k):Int))],[]⟩) (fun k=>k≤ls.length) (fun k=>ls.length-k) 0 (by refine⟨?_,?_,rfl,rfl⟩<;>repeat' (first|exact trivial|exact Or.inl rfl|exact Or.inr rfl|apply bw|apply bx|apply bz|apply bD|exact⟨(by show(_:Nat)<1000000000;omega),rfl,rfl⟩|rfl|(refine And.intro (Or.inl ?_) ?_)|(refine And.intro ?_ ?_))) (Nat.zero_le _) ?_
 intro k hk back;refine av ae ⟨_,Fj,rfl⟩ 2000 _ _ (by kernel_rfl) ?_;simp only[go_sem,zA,↓reduceIte,↓reduceDIte,zB,zC,zD,zE,zF,zG,zH,zI];refine⟨fun h=>?_,fun h=>?_⟩
 (·obtain⟨x,dE⟩: ∃x,ls[k]?=some x:=an (by omega);have hs:=qE dE;have ht:=qF ls (k+1);refine⟨Int.natCast_nonneg k,x,dE,aw (by omega) (by omega),fun h'=>absurd h' (by omega),fun _=>⟨aw (by omega) (by omega),?_⟩⟩;refine back _ (k+1) ⟨⟨Or.inl rfl,Or.inl rfl,Or.inl rfl,Or.inl rfl,Or.inl ?_,trivial⟩,trivial,rfl,rfl⟩ (by omega) (by omega);rw[hs];rfl)
 ·have e:ls.take k=ls:=List.take_of_length_le (by omega);rw[e];refine⟨_,_,at6 _ (by omega) (by omega),?_⟩;simp only[go_sem,zA,↓reduceIte,↓reduceDIte,zB,zC,zD,zE,zF,zG,zH,zI];intro _;refine ah.rT (X:=Nat) (fun k=>⟨[(27,.iv (.int .i64) (k:Int)),(26,.iv (.int .i64) (ls.length:Int)),(25,.iv (.sl (.sl au)) ls),(6,match k with|0=>.jI 2500022 7 0 0|_+1=>.aF 2500022)],[(2500022,.arr au (match k with|0=>List.replicate (ia ls) (dA au)|_+1=>(ls.take k).flatten))]⟩) (fun k=>k≤ls.length) (fun k=>ls.length-k) 0 (by refine⟨?_,?_,rfl,rfl⟩<;>repeat' (first|exact trivial|exact Or.inl rfl|exact Or.inr rfl|apply bw|apply bx|apply bz|apply bD|exact⟨(by show(_:Nat)<1000000000;omega),rfl,rfl⟩|rfl|(refine And.intro (Or.inl ?_) ?_)|(refine And.intro ?_ ?_))) (Nat.zero_le _) ?_;intro k hk cB;cases k with|zero=>refine av ae ⟨_,Fj,rfl⟩ 2000 _ _ (by kernel_rfl) ?_;simp only[go_sem,zA,↓reduceIte,↓reduceDIte,zB,zC,zD,zE,zF,zG,zH,zI];refine⟨fun h=>?_,fun h=>?_⟩;(·obtain⟨x,dE⟩: ∃x,ls[0]?=some x:=an (by omega);have hs:ia (ls.take 1)=ia (ls.take 0)+x.length:=qE dE;have ht:=qF ls 1;refine⟨x,dE,⟨by rw[List.length_replicate];exact .inl h0,by omega⟩,⟨by decide,by decide⟩,cB _ 1 ⟨⟨Or.inl rfl,Or.inl rfl,Or.inl rfl,Or.inl rfl,trivial⟩,⟨?_,trivial⟩,rfl,rfl⟩ (by omega) (by omega)⟩;refine congrArg (aO.arr au) ?_;rw[show(1:Nat)=0+1 from rfl,aY dE];simp);(·exfalso;have Cf:ls=[]:=List.length_eq_zero_iff.mp (by omega);subst Cf;exact absurd h0 (by decide))|succ k=>refine av ae ⟨_,Fj,rfl⟩ 2000 _ _ (by kernel_rfl) ?_;simp only[go_sem,zA,↓reduceIte,↓reduceDIte,zB,zC,zD,zE,zF,zG,zH,zI];refine⟨fun h=>?_,fun h=>?_⟩;(·obtain⟨x,dE⟩: ∃x,ls[k+1]?=some x:=an (by omega);have hs:=qE dE;have ht:=qF ls (k+1+1);(have hf:(ls.take (k+1)).flatten.length=ia (ls.take (k+1)):=by rw[List.length_flatten];rfl);refine⟨Int.natCast_nonneg _,x,dE,by omega,aw (by omega) (by omega),cB _ (k+1+1) ⟨⟨Or.inl rfl,Or.inl rfl,Or.inl rfl,Or.inl rfl,trivial⟩,⟨?_,trivial⟩,rfl,rfl⟩ (by omega) (by omega)⟩;refine congrArg (aO.arr au) ?_;rw[aY dE];simp);·have e2:ls.take (k+1)=ls:=List.take_of_length_le (by omega);rw[e2]
theorem a67(l:List eF)(o:eF)(hl:l.length≤100000):PC env 81 [⟨.sl au,l⟩,⟨.aD,(51:Nat)⟩,⟨au,o⟩] (.sl au) (vu l (Pn BE l (BE o)) o):=by
 refine PC.ay (m:=2000) ae bk1 rfl rfl rfl rfl (by kernel_rfl) ?_;intro hx;simp only[Tryz.f81];simp only[go_sem,zA,↓reduceIte,↓reduceDIte,zB,zC,zD,zE,zF,zG,zH,zI]
 have hb:=Li BE l (BE o);refine⟨_,U4 o,fun _=>⟨_,at5 l _ (by omega),fun _=>?_⟩⟩;simp only[go_sem,zA,↓reduceIte,↓reduceDIte,zB,zC,zD,zE,zF,zG,zH,zI];(have hn:(Pn BE l (o.1,o.2.1):Int)≤(l.length:Int):=by have:=Li BE l (o.1,o.2.1);omega)
 (have hs:ia [l.take (Pn BE l (o.1,o.2.1)),[o],l.drop (Pn BE l (o.1,o.2.1))]=l.length+1:=by have:=Li BE l (o.1,o.2.1);simp[ia];omega);refine⟨⟨Int.natCast_nonneg _,hn⟩,⟨Int.natCast_nonneg _,hn⟩,_,Pp _ (by rw[hs];omega) (by rw[hs];omega) (by simp),fun _=>?_⟩
 simp only[vu,List.flatten_cons,List.flatten_nil,List.append_nil,List.singleton_append];rfl
end Go.Proofs.YtgpkijnphchkpaaGreat.Ln
namespace Go.Proofs.YtgpkijnphchkpaaGreat.Ln
attribute[local go_sem←]Bool.decide_and Bool.decide_or decide_not
attribute[local go_sem]ft bC
set_option maxHeartbeats 4000000
set_option maxRecDepth 100000
end Go.Proofs.YtgpkijnphchkpaaGreat.Ln
