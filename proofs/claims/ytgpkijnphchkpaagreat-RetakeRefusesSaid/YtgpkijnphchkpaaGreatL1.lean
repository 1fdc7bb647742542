/- Contracts: lists by places, of records. Nothing here is trusted; no condition. -/
import Derived.Test.YtgpkijnphchkpaaGreatD5
set_option linter.unusedSimpArgs false
set_option linter.unusedVariables false
open Nat renaming reduceBEq→zA,reduceAdd→zB,reduceSub→zC,reduceMul→zD,reduceLeDiff→zE
open Int renaming reduceLT→zF,reduceLE→zG,reduceToNat→zH,reduceNeg→zI
namespace Go.Proofs.YtgpkijnphchkpaaGreat.Ln
attribute[local go_sem←]Bool.decide_and Bool.decide_or decide_not
set_option maxHeartbeats 4000000
set_option maxRecDepth 100000
theorem LN {x:Int} (h: -9223372036854775808≤x)(h':x≤9223372036854775807):IntKind.i64.min≤x∧x≤IntKind.i64.max:=⟨h,h'⟩
theorem aP4 {x:Int} (h:IntKind.i64.min≤x∧x≤IntKind.i64.max): -9223372036854775808≤x∧x≤9223372036854775807:=h
theorem Ou {x:Int} (h:IntKind.u8.min≤x∧x≤IntKind.u8.max):0≤x∧x≤255:=h
theorem drop_cons {α:Type} {xs:List α} {i:Nat} {x:α} (h:xs[i]?=some x):xs.drop i=x::xs.drop (i+1):=by obtain⟨hi,e⟩:=List.getElem?_eq_some_iff.1 h;rw[List.drop_eq_getElem_cons hi,e]
theorem LW {α:Type} {xs:List α} {i:Nat} {x:α} (h:xs[i]?=some x):xs.take (i+1)=xs.take i++ [x]:=by rw[List.take_add_one,h];rfl
theorem r3 {α:Type} {xs:List α} {i:Nat} (h:i<xs.length): ∃x,xs[i]?=some x:=⟨_,List.getElem?_eq_getElem h⟩
theorem ap5(a:Int):PC env 158 [⟨.int .i64,a⟩] .bool false:=by
 refine PC.LU (m:=2000) av bV7 rfl rfl rfl rfl (by kernel_rfl) ?_;intro hx;simp only[Tryz.f158];simp only[go_sem,zA,↓reduceIte,↓reduceDIte,zB,zC,zD,zE,zF,zG,zH,zI]
def XE(a b:Int):Int:=if a<b then-1 else if b<a then 1 else 0
theorem YE(a b:Int):PC env 137 [⟨.int .i64,a⟩,⟨.int .i64,b⟩] (.int .i64) (XE a b):=by
 refine PC.LU (m:=2000) av bU7 rfl rfl rfl rfl (by kernel_rfl) ?_;intro hx;simp only[Tryz.f137];simp only[go_sem,zA,↓reduceIte,↓reduceDIte,zB,zC,zD,zE,zF,zG,zH,zI]
 refine⟨_,ap5 a,?_⟩;simp only[go_sem,zA,↓reduceIte,↓reduceDIte,zB,zC,zD,zE,zF,zG,zH,zI];refine⟨_,ap5 b,?_⟩;simp only[go_sem,zA,↓reduceIte,↓reduceDIte,zB,zC,zD,zE,zF,zG,zH,zI]
 unfold XE;refine⟨fun h=>?_,fun h=>⟨fun h'=>?_,fun h'=>?_⟩⟩;(·rw[if_pos h]);(·rw[if_neg h,if_pos h']);·rw[if_neg h,if_neg h']
theorem cg6(xs:List Int):PC env 136 [⟨.sl (.int .i64),xs⟩] (.int .i64) ((xs.find? (·≠0)).getD 0):=by
 refine PC.LU (m:=2000) av aO6 rfl rfl rfl rfl (by kernel_rfl) ?_;intro hx;simp only[Tryz.f136];simp only[go_sem,zA,↓reduceIte,↓reduceDIte,zB,zC,zD,zE,zF,zG,zH,zI]
 refine u1.Pv (X:=Nat) (fun i=>⟨[(8,.iv (.int .i64) (i:Int)),(7,.iv (.int .i64) (xs.length:Int)),(6,.iv (.sl (.int .i64)) xs),(3,.iv (.int .i64) (0:Int))],[]⟩) (fun i=>i≤xs.length∧(xs.take i).find? (·≠0)=none) (fun i=>xs.length-i) 0 (by refine⟨?_,?_,rfl,rfl⟩<;>repeat' (first|exact trivial|exact Or.inl rfl|exact Or.inr rfl|apply aw|apply ax|apply ay|apply az|exact⟨(by show(_:Nat)<1000000000;omega),rfl,rfl⟩|rfl|(refine And.intro (Or.inl ?_) ?_)|(refine And.intro ?_ ?_))) ⟨Nat.zero_le _,rfl⟩ ?_
 intro i⟨hi,hb⟩back;refine LP av ⟨_,aO6,rfl⟩ 2000 _ _ (by kernel_rfl) ?_;simp only[go_sem,zA,↓reduceIte,↓reduceDIte,zB,zC,zD,zE,zF,zG,zH,zI];refine⟨fun h=>?_,fun h=>?_⟩
 (·obtain⟨x,aK⟩: ∃x,xs[i]?=some x:=r3 (by omega);refine⟨by omega,x,aK,fun h'=>?_,fun h'=>⟨?_,?_⟩⟩;(·(have:xs.find? (·≠0)=some x:=by rw[←List.take_append_drop i xs,List.find?_append,hb,drop_cons aK];simp[h']);rw[this];rfl);(·simp only[oks,Ty.ok]at hx;exact LN (by omega) (by omega));·refine back _ (i+1) (by refine⟨?_,?_,rfl,rfl⟩<;>repeat' (first|exact trivial|exact Or.inl rfl|exact Or.inr rfl|apply aw|apply ax|apply ay|apply az|exact⟨(by show(_:Nat)<1000000000;omega),rfl,rfl⟩|rfl|(refine And.intro (Or.inl ?_) ?_)|(refine And.intro ?_ ?_))) ⟨by omega,?_⟩ (by omega);rw[List.take_add_one,List.find?_append,hb,aK];simp[h'])
 ·have e:xs.take i=xs:=List.take_of_length_le (by omega);rw[e]at hb;rw[hb];rfl
def TF(x y:Int×Int):Int:=if XE x.1 y.1≠0 then XE x.1 y.1 else XE x.2 y.2
theorem Zx(x y:Int×Int):PC env 100 [⟨Mr,x⟩,⟨Mr,y⟩] (.int .i64) (TF x y):=by
 refine PC.LU (m:=2000) av bT3 rfl rfl rfl rfl (by kernel_rfl) ?_;intro hx;simp only[Tryz.f100];simp only[go_sem,zA,↓reduceIte,↓reduceDIte,zB,zC,zD,zE,zF,zG,zH,zI]
 refine⟨_,YE _ _,fun _=>⟨_,YE _ _,fun _=>⟨_,cg6 _,fun _=>?_⟩⟩⟩;unfold TF;by_cases h:XE x.1 y.1=0<;>by_cases h':XE x.2 y.2=0<;>simp[h,h']
abbrev Rec:=Int×Int×Int×List UInt8×Int×Int
abbrev MR:=Int×Int×Int×Int×List UInt8×Int×Int
abbrev L8:=Int×Int×Int×Int×Int×Int×Int×Int
abbrev Oc:=List Rec×List MR×L8
theorem YF(r:Rec):PC env 47 [⟨Fg,r⟩] Mr (r.1,r.2.1):=by
 refine PC.LU (m:=2000) av b68 rfl rfl rfl rfl (by kernel_rfl) ?_;intro hx;simp only[Tryz.f47];simp only[go_sem,zA,↓reduceIte,↓reduceDIte,zB,zC,zD,zE,zF,zG,zH,zI]
theorem ad9(o:MR):PC env 51 [⟨LR,o⟩] Mr (o.1,o.2.1):=by
 refine PC.LU (m:=2000) av b71 rfl rfl rfl rfl (by kernel_rfl) ?_;intro hx;simp only[Tryz.f51];simp only[go_sem,zA,↓reduceIte,↓reduceDIte,zB,zC,zD,zE,zF,zG,zH,zI]
theorem N0(v a b:Int):PC env 48 [⟨.int .i64,v⟩,⟨.int .i64,a⟩,⟨.int .i64,b⟩] .bool (decide (a≤v∧v≤b)):=by
 refine PC.LU (m:=2000) av b69 rfl rfl rfl rfl (by kernel_rfl) ?_;intro hx;simp only[Tryz.f48];simp only[go_sem,zA,↓reduceIte,↓reduceDIte,zB,zC,zD,zE,zF,zG,zH,zI]
 refine⟨fun h=>?_,fun h=>?_⟩;(·congr 1;simp[h]);·symm;simp;omega
theorem bs0(v a b:Int):PC env 115 [⟨.int .i64,v⟩,⟨.int .i64,a⟩,⟨.int .i64,b⟩] .bool (decide (a≤v∧v≤b)):=by
 refine PC.LU (m:=2000) av bT7 rfl rfl rfl rfl (by kernel_rfl) ?_;intro hx;simp only[Tryz.f115];simp only[go_sem,zA,↓reduceIte,↓reduceDIte,zB,zC,zD,zE,zF,zG,zH,zI]
 refine⟨fun h=>?_,fun h=>?_⟩;(·congr 1;simp;omega);·symm;simp;omega
theorem au9(v a b:Int):PC env 55 [⟨.int .i64,v⟩,⟨.int .i64,a⟩,⟨.int .i64,b⟩] .bool (decide (a≤v∧v≤b)):=by
 refine PC.LU (m:=2000) av bw0 rfl rfl rfl rfl (by kernel_rfl) ?_;intro hx;simp only[Tryz.f55];simp only[go_sem,zA,↓reduceIte,↓reduceDIte,zB,zC,zD,zE,zF,zG,zH,zI]
 refine⟨fun h=>?_,fun h=>?_⟩;(·congr 1;simp;omega);·symm;simp;omega
theorem aQ5(p:Int×Int)(e:Int):PC env 85 [⟨Mr,p⟩,⟨.int .i64,e⟩] .bool (decide ((0≤p.1∧p.1≤7)∧(1≤p.2∧p.2≤1000000)∧(0≤e∧e≤10000))):=by
 refine PC.LU (m:=2000) av b83 rfl rfl rfl rfl (by kernel_rfl) ?_;intro hx;simp only[Tryz.f85];simp only[go_sem,zA,↓reduceIte,↓reduceDIte,zB,zC,zD,zE,zF,zG,zH,zI]
 (repeat' (first|(with_reducible intro _)|(with_reducible apply And.intro)|(with_reducible refine⟨_,N0 _ _ _,?_⟩;try simp only[go_sem,zA,↓reduceIte,↓reduceDIte,zB,zC,zD,zE,zF,zG,zH,zI])|fail))
 all_goals first|(symm;simp;omega)|exact⟨_,N0 _ _ _,by simp_all⟩|(simp_all;done)|(clear hx;simp_all;omega)|trace_state
end Go.Proofs.YtgpkijnphchkpaaGreat.Ln
namespace Go.Proofs.YtgpkijnphchkpaaGreat.Ln
attribute[local go_sem←]Bool.decide_and Bool.decide_or decide_not
set_option maxHeartbeats 4000000
set_option maxRecDepth 100000
def Zy(c:Int):Int:=if 97≤c∧c≤122 then 1 else if 65≤c∧c≤90 then 2 else if 48≤c∧c≤57 then 3 else 0
theorem Wa(c:Int):PC env 119 [⟨.int .u8,c⟩] (.int .i64) (Zy c):=by
 refine PC.LU (m:=2000) av aO1 rfl rfl rfl rfl (by kernel_rfl) ?_;intro hx;simp only[Tryz.f119];simp only[go_sem,zA,↓reduceIte,↓reduceDIte,zB,zC,zD,zE,zF,zG,zH,zI]
 unfold Zy;(repeat' (first|(with_reducible intro _)|(with_reducible apply And.intro)));all_goals(repeat' split)<;>first|rfl|omega
def okU(u:UInt8):Bool:=decide (Zy u.toNat≠0)
theorem OQ {α:Type} {xs:List α} {i:Nat} {x:α} {p:α→Bool} (h:xs[i]?=some x):(xs.take (i+1)).all p=((xs.take i).all p&&p x):=by rw[LW h,List.all_append];simp
theorem QX {α:Type} {xs:List α} {i:Nat} {x:α} {p:α→Bool} (h:xs[i]?=some x)(hp:p x=false):xs.all p=false:=by rw[List.all_eq_false];exact⟨x,List.mem_of_getElem? h,by simp[hp]⟩
theorem ap6(s:List UInt8):PC env 75 [⟨.str,s⟩] .bool (s.all okU):=by
 refine PC.LU (m:=2000) av ao5 rfl rfl rfl rfl (by kernel_rfl) ?_;intro hx;simp only[Tryz.f75];simp only[go_sem,zA,↓reduceIte,↓reduceDIte,zB,zC,zD,zE,zF,zG,zH,zI]
 refine u1.Pv (X:=Nat) (fun i=>⟨[(6,.iv (.int .i64) (i:Int)),(5,.iv (.int .i64) (s.length:Int)),(0,.iv .str s)],[]⟩) (fun i=>i≤s.length∧(s.take i).all okU=true) (fun i=>s.length-i) 0 (by refine⟨?_,?_,rfl,rfl⟩<;>repeat' (first|exact trivial|exact Or.inl rfl|exact Or.inr rfl|apply aw|apply ax|apply ay|apply az|exact⟨(by show(_:Nat)<1000000000;omega),rfl,rfl⟩|rfl|(refine And.intro (Or.inl ?_) ?_)|(refine And.intro ?_ ?_))) ⟨Nat.zero_le _,rfl⟩ ?_
 intro i⟨hi,hb⟩back;refine LP av ⟨_,ao5,rfl⟩ 2000 _ _ (by kernel_rfl) ?_;simp only[go_sem,zA,↓reduceIte,↓reduceDIte,zB,zC,zD,zE,zF,zG,zH,zI];refine⟨fun h=>?_,fun h=>?_⟩
 (·obtain⟨x,aK⟩: ∃x,s[i]?=some x:=r3 (by omega);have hlen:s.length≤9223372036854775807:=hx.1;refine⟨Int.natCast_nonneg i,_,⟨x,aK,rfl⟩,_,Wa _,fun _=>⟨fun h'=>?_,fun h'=>⟨?_,?_⟩⟩⟩;(·exact(QX (p:=okU) aK (by simp[okU,h'])).symm);(·exact LN (by omega) (by omega));·refine back _ (i+1) (by refine⟨?_,?_,rfl,rfl⟩<;>repeat' (first|exact trivial|exact Or.inl rfl|exact Or.inr rfl|apply aw|apply ax|apply ay|apply az|exact⟨(by show(_:Nat)<1000000000;omega),rfl,rfl⟩|rfl|(refine And.intro (Or.inl ?_) ?_)|(refine And.intro ?_ ?_))) ⟨by omega,?_⟩ (by omega);rw[OQ aK,hb];simp[okU,h'])
 ·have e:s.take i=s:=List.take_of_length_le (by omega);rw[e]at hb;rw[hb]
def Ov(s:List UInt8):Bool:=decide (1≤s.length∧s.length≤20)&&s.all okU
theorem XB(s:List UInt8):PC env 36 [⟨.str,s⟩] .bool (Ov s):=by
 refine PC.LU (m:=2000) av bv5 rfl rfl rfl rfl (by kernel_rfl) ?_;intro hx;simp only[Tryz.f36];simp only[go_sem,zA,↓reduceIte,↓reduceDIte,zB,zC,zD,zE,zF,zG,zH,zI]
 unfold Ov;(repeat' (first|(with_reducible intro _)|(with_reducible apply And.intro)|(with_reducible refine⟨_,ap6 _,?_⟩;try simp only[go_sem,zA,↓reduceIte,↓reduceDIte,zB,zC,zD,zE,zF,zG,zH,zI])|fail))
 all_goals first|exact⟨_,ap6 _,by simp_all;omega⟩|(symm;simp;omega)
theorem aQ6(u:UInt8):okU u=true↔ ¬((((u.toNat:Int)<97∨(122:Int)<u.toNat)∧((u.toNat:Int)<65∨(90:Int)<u.toNat))∧((u.toNat:Int)<48∨(57:Int)<u.toNat)):=by
 unfold okU Zy;rw[decide_eq_true_eq];(repeat' split);all_goals omega
theorem Ti(s:List UInt8):PC env 56 [⟨.str,s⟩] .bool (s.all okU):=by
 refine PC.LU (m:=2000) av ao4 rfl rfl rfl rfl (by kernel_rfl) ?_;intro hx;simp only[Tryz.f56];simp only[go_sem,zA,↓reduceIte,↓reduceDIte,zB,zC,zD,zE,zF,zG,zH,zI]
 refine u1.Pv (X:=Nat) (fun i=>⟨[(3,.iv (.int .i64) (i:Int)),(0,.iv .str s)],[]⟩) (fun i=>i≤s.length∧(s.take i).all okU=true) (fun i=>s.length-i) 0 (by refine⟨?_,?_,rfl,rfl⟩<;>repeat' (first|exact trivial|exact Or.inl rfl|exact Or.inr rfl|apply aw|apply ax|apply ay|apply az|exact⟨(by show(_:Nat)<1000000000;omega),rfl,rfl⟩|rfl|(refine And.intro (Or.inl ?_) ?_)|(refine And.intro ?_ ?_))) ⟨Nat.zero_le _,rfl⟩ ?_
 intro i⟨hi,hb⟩back;refine LP av ⟨_,ao4,rfl⟩ 2000 _ _ (by kernel_rfl) ?_;simp only[go_sem,zA,↓reduceIte,↓reduceDIte,zB,zC,zD,zE,zF,zG,zH,zI];have hlen:s.length≤9223372036854775807:=hx.1
 refine⟨fun h=>?_,fun h=>?_⟩;(·obtain⟨x,aK⟩: ∃x,s[i]?=some x:=r3 (by omega);have fJ:=aQ6 x;refine⟨Int.natCast_nonneg i,_,⟨x,aK,rfl⟩,?_⟩;cases hp:okU x with|false=>have dc:s.all okU=false:=QX (p:=okU) aK hp;rw[hp]at fJ;simp only[Bool.false_eq_true,false_iff,Decidable.not_not]at fJ;(repeat' (first|(with_reducible intro _)|(with_reducible apply And.intro)|fail));(all_goals first|exact dc.symm|(exfalso;omega))|true=>rw[hp]at fJ;simp only[true_iff]at fJ;(repeat' (first|(with_reducible intro _)|(with_reducible apply And.intro)|fail));all_goals first|omega|exact LN (by omega) (by omega)|exact back _ (i+1) (by refine⟨?_,?_,rfl,rfl⟩<;>repeat' (first|exact trivial|exact Or.inl rfl|exact Or.inr rfl|apply aw|apply ax|apply ay|apply az|exact⟨(by show(_:Nat)<1000000000;omega),rfl,rfl⟩|rfl|(refine And.intro (Or.inl ?_) ?_)|(refine And.intro ?_ ?_))) ⟨by omega,by rw[OQ aK,hb,hp];rfl⟩ (by omega))
 ·have e:s.take i=s:=List.take_of_length_le (by omega);rw[e]at hb;rw[hb]
theorem UD(s:List UInt8):PC env 27 [⟨.str,s⟩] .bool (Ov s):=by
 refine PC.LU (m:=2000) av bv3 rfl rfl rfl rfl (by kernel_rfl) ?_;intro hx;simp only[Tryz.f27];simp only[go_sem,zA,↓reduceIte,↓reduceDIte,zB,zC,zD,zE,zF,zG,zH,zI]
 unfold Ov;refine⟨_,au9 _ _ _,?_⟩;simp only[go_sem,zA,↓reduceIte,↓reduceDIte,zB,zC,zD,zE,zF,zG,zH,zI];(repeat' (first|(with_reducible intro _)|(with_reducible apply And.intro)|(with_reducible refine⟨_,Ti _,?_⟩;try simp only[go_sem,zA,↓reduceIte,↓reduceDIte,zB,zC,zD,zE,zF,zG,zH,zI])|fail))
 all_goals first|exact⟨_,Ti _,by simp_all;omega⟩|(symm;simp;omega)
end Go.Proofs.YtgpkijnphchkpaaGreat.Ln
namespace Go.Proofs.YtgpkijnphchkpaaGreat.Ln
attribute[local go_sem←]Bool.decide_and Bool.decide_or decide_not
set_option maxHeartbeats 4000000
set_option maxRecDepth 100000
theorem Nl:bytesOf ⟨#[]⟩=[]:=rfl
def Ow:List (Int×(Nat×Nat)):=[(1,(88,89)),(2,(90,91)),(3,(92,93)),(4,(94,95)),(5,(96,97))]
theorem Zz:PC env 45 [] (.mp (.int .i64) Ot) Ow:=by
 refine PC.LU (m:=2000) av b66 rfl rfl rfl rfl (by kernel_rfl) ?_;intro hx;simp only[Tryz.f45];simp only[go_sem,zA,↓reduceIte,↓reduceDIte,zB,zC,zD,zE,zF,zG,zH,zI,Nl]
 simp[Nh,Pp,Ow]
def rk1(o:MR):Bool:=decide ((Ov o.2.2.2.2.1=true∧o.2.2.2.2.2.1=0)∧o.2.2.2.2.2.2=0)
theorem cg7(o:MR):PC env 88 [⟨LR,o⟩] .bool (rk1 o):=by
 refine PC.LU (m:=2000) av b86 rfl rfl rfl rfl (by kernel_rfl) ?_;intro hx;simp only[Tryz.f88];simp only[go_sem,zA,↓reduceIte,↓reduceDIte,zB,zC,zD,zE,zF,zG,zH,zI,Nl]
 unfold rk1;refine⟨_,XB _,?_⟩;cases h:Ov o.2.2.2.2.1;(·simp only[go_sem,zA,↓reduceIte,↓reduceDIte,zB,zC,zD,zE,zF,zG,zH,zI,Nl];simp[h]);·simp only[go_sem,zA,↓reduceIte,↓reduceDIte,zB,zC,zD,zE,zF,zG,zH,zI,Nl];(repeat' (first|(with_reducible intro _)|(with_reducible apply And.intro)|fail));all_goals(clear hx;simp_all)
theorem cg8(o:MR)(r:Rec):PC env 89 [⟨LR,o⟩,⟨Fg,r⟩] .bool (decide (r.2.2.2.1=o.2.2.2.2.1)):=by
 refine PC.LU (m:=2000) av b87 rfl rfl rfl rfl (by kernel_rfl) ?_;intro hx;simp only[Tryz.f89];simp only[go_sem,zA,↓reduceIte,↓reduceDIte,zB,zC,zD,zE,zF,zG,zH,zI,Nl]
def rk2(o:MR):Bool:=decide ((o.2.2.2.2.1=[]∧(0≤o.2.2.2.2.2.1∧o.2.2.2.2.2.1≤7))∧o.2.2.2.2.2.2=0)
theorem cg9(o:MR):PC env 90 [⟨LR,o⟩] .bool (rk2 o):=by
 refine PC.LU (m:=2000) av b88 rfl rfl rfl rfl (by kernel_rfl) ?_;intro hx;simp only[Tryz.f90];simp only[go_sem,zA,↓reduceIte,↓reduceDIte,zB,zC,zD,zE,zF,zG,zH,zI,Nl]
 unfold rk2;(repeat' (first|(with_reducible intro _)|(with_reducible apply And.intro)|(with_reducible refine⟨_,N0 _ _ _,?_⟩;try simp only[go_sem,zA,↓reduceIte,↓reduceDIte,zB,zC,zD,zE,zF,zG,zH,zI,Nl])|fail))
 all_goals first|(symm;simp;omega)|(clear hx;simp_all;done)|exact⟨_,N0 _ _ _,by clear hx;simp_all⟩
theorem ch0(o:MR)(r:Rec):PC env 91 [⟨LR,o⟩,⟨Fg,r⟩] .bool (decide (r.2.2.2.2.1=o.2.2.2.2.2.1)):=by
 refine PC.LU (m:=2000) av b89 rfl rfl rfl rfl (by kernel_rfl) ?_;intro hx;simp only[Tryz.f91];simp only[go_sem,zA,↓reduceIte,↓reduceDIte,zB,zC,zD,zE,zF,zG,zH,zI,Nl]
theorem ch1(o:MR):PC env 92 [⟨LR,o⟩] .bool (rk2 o):=by
 refine PC.LU (m:=2000) av b90 rfl rfl rfl rfl (by kernel_rfl) ?_;intro hx;simp only[Tryz.f92];simp only[go_sem,zA,↓reduceIte,↓reduceDIte,zB,zC,zD,zE,zF,zG,zH,zI,Nl]
 unfold rk2;(repeat' (first|(with_reducible intro _)|(with_reducible apply And.intro)|(with_reducible refine⟨_,N0 _ _ _,?_⟩;try simp only[go_sem,zA,↓reduceIte,↓reduceDIte,zB,zC,zD,zE,zF,zG,zH,zI,Nl])|fail))
 all_goals first|(symm;simp;omega)|(clear hx;simp_all;done)|exact⟨_,N0 _ _ _,by clear hx;simp_all⟩
theorem ch2(o:MR)(r:Rec):PC env 93 [⟨LR,o⟩,⟨Fg,r⟩] .bool (decide (r.1=o.2.2.2.2.2.1)):=by
 refine PC.LU (m:=2000) av b91 rfl rfl rfl rfl (by kernel_rfl) ?_;intro hx;simp only[Tryz.f93];simp only[go_sem,zA,↓reduceIte,↓reduceDIte,zB,zC,zD,zE,zF,zG,zH,zI,Nl]
def rk4(o:MR):Bool:=decide ((o.2.2.2.2.1=[]∧(0≤o.2.2.2.2.2.1∧o.2.2.2.2.2.1≤o.2.2.1))∧o.2.2.2.2.2.2=0)
theorem ch3(o:MR):PC env 94 [⟨LR,o⟩] .bool (rk4 o):=by
 refine PC.LU (m:=2000) av b92 rfl rfl rfl rfl (by kernel_rfl) ?_;intro hx;simp only[Tryz.f94];simp only[go_sem,zA,↓reduceIte,↓reduceDIte,zB,zC,zD,zE,zF,zG,zH,zI,Nl]
 unfold rk4;(repeat' (first|(with_reducible intro _)|(with_reducible apply And.intro)|(with_reducible refine⟨_,N0 _ _ _,?_⟩;try simp only[go_sem,zA,↓reduceIte,↓reduceDIte,zB,zC,zD,zE,zF,zG,zH,zI,Nl])|fail))
 all_goals first|(symm;simp;omega)|(clear hx;simp_all;done)|exact⟨_,N0 _ _ _,by clear hx;simp_all⟩
theorem ch4(o:MR)(r:Rec):PC env 95 [⟨LR,o⟩,⟨Fg,r⟩] .bool (decide (o.2.2.2.2.2.1≤r.2.2.1)):=by
 refine PC.LU (m:=2000) av b93 rfl rfl rfl rfl (by kernel_rfl) ?_;intro hx;simp only[Tryz.f95];simp only[go_sem,zA,↓reduceIte,↓reduceDIte,zB,zC,zD,zE,zF,zG,zH,zI,Nl]
def rk5(o:MR):Bool:=decide ((o.2.2.2.2.1=[]∧(1≤o.2.2.2.2.2.1∧o.2.2.2.2.2.1≤1000000))∧(0≤o.2.2.2.2.2.2∧o.2.2.2.2.2.2≤7))
theorem ch5(o:MR):PC env 96 [⟨LR,o⟩] .bool (rk5 o):=by
 refine PC.LU (m:=2000) av b94 rfl rfl rfl rfl (by kernel_rfl) ?_;intro hx;simp only[Tryz.f96];simp only[go_sem,zA,↓reduceIte,↓reduceDIte,zB,zC,zD,zE,zF,zG,zH,zI,Nl]
 unfold rk5;(repeat' (first|(with_reducible intro _)|(with_reducible apply And.intro)|(with_reducible refine⟨_,N0 _ _ _,?_⟩;try simp only[go_sem,zA,↓reduceIte,↓reduceDIte,zB,zC,zD,zE,zF,zG,zH,zI,Nl])|fail))
 all_goals first|(symm;simp;omega)|(clear hx;simp_all;done)|exact⟨_,N0 _ _ _,by clear hx;simp_all⟩
theorem ch6(o:MR)(r:Rec):PC env 97 [⟨LR,o⟩,⟨Fg,r⟩] .bool (decide (r.1=o.2.2.2.2.2.2∧r.2.1=o.2.2.2.2.2.1)):=by
 refine PC.LU (m:=2000) av b95 rfl rfl rfl rfl (by kernel_rfl) ?_;intro hx;simp only[Tryz.f97];simp only[go_sem,zA,↓reduceIte,↓reduceDIte,zB,zC,zD,zE,zF,zG,zH,zI,Nl]
 (repeat' (first|(with_reducible intro _)|(with_reducible apply And.intro)|fail));all_goals(clear hx;simp_all)
def rk(o:MR):Bool:=if o.2.2.2.1=1 then rk1 o else if o.2.2.2.1=2 then rk2 o else if o.2.2.2.1=3 then rk2 o else if o.2.2.2.1=4 then rk4 o else if o.2.2.2.1=5 then rk5 o else false
def SV(o:MR)(r:Rec):Bool:=if o.2.2.2.1=1 then decide (r.2.2.2.1=o.2.2.2.2.1)else if o.2.2.2.1=2 then decide (r.2.2.2.2.1=o.2.2.2.2.2.1)else if o.2.2.2.1=3 then decide (r.1=o.2.2.2.2.2.1)else if o.2.2.2.1=4 then decide (o.2.2.2.2.2.1≤r.2.2.1)else if o.2.2.2.1=5 then decide (r.1=o.2.2.2.2.2.2∧r.2.1=o.2.2.2.2.2.1)else false
def Mw(o:MR):Bool:=decide ((0≤o.1∧o.1≤7)∧(1≤o.2.1∧o.2.1≤1000000)∧(0≤o.2.2.1∧o.2.2.1≤10000))&&rk o
def Mk(r:Rec):Bool:=decide ((0≤r.1∧r.1≤7)∧(1≤r.2.1∧r.2.1≤1000000)∧(0≤r.2.2.1∧r.2.2.1≤10000))&&(Ov r.2.2.2.1&&decide ((0≤r.2.2.2.2.1∧r.2.2.2.2.1≤7)∧(1≤r.2.2.2.2.2∧r.2.2.2.2.2≤1000)))
def Mx(o:MR)(r:Rec):Bool:=decide (r.2.2.1≤o.2.2.1)&&SV o r
theorem ae0 {k:Int} {v:Nat×Nat} (h:Mg (Pp (.int .i64)) Ow k=some v):(k=1∧v=(88,89))∨(k=2∧v=(90,91))∨(k=3∧v=(92,93))∨(k=4∧v=(94,95))∨(k=5∧v=(96,97)):=by
 unfold Ow at h;simp only[Mg,Pp,cond_eq_ite,decide_eq_true_eq]at h;(repeat' split at h);all_goals first|(cases h;done)|(injection h with h;subst h;simp_all)
theorem ae1 {k:Int} (h:Mg (Pp (.int .i64)) Ow k=none):k≠1∧k≠2∧k≠3∧k≠4∧k≠5:=by
 unfold Ow at h;simp only[Mg,Pp,cond_eq_ite,decide_eq_true_eq]at h;(repeat' split at h);all_goals first|(cases h;done)|simp_all
theorem ae2(o:MR):PC env 49 [⟨.mp (.int .i64) Ot,Ow⟩,⟨LR,o⟩] .bool (Mw o):=by
 refine PC.LU (m:=2000) av b70 rfl rfl rfl rfl (by kernel_rfl) ?_;intro hx;simp only[Tryz.f49];simp only[go_sem,zA,↓reduceIte,↓reduceDIte,zB,zC,zD,zE,zF,zG,zH,zI,Nl]
 refine⟨_,ad9 o,fun _=>⟨_,aQ5 _ _,?_⟩⟩;simp only[go_sem,zA,↓reduceIte,↓reduceDIte,zB,zC,zD,zE,zF,zG,zH,zI,Nl];refine⟨fun h=>?_,fun h=>⟨fun v hv=>?_,fun hn=>?_⟩⟩
 (·simp[Mw,h]);(·rcases ae0 hv with⟨k,rfl⟩|⟨k,rfl⟩|⟨k,rfl⟩|⟨k,rfl⟩|⟨k,rfl⟩<;>simp only[go_sem,zA,↓reduceIte,↓reduceDIte,zB,zC,zD,zE,zF,zG,zH,zI,Nl];(·exact⟨_,cg7 o,by simp[Mw,rk,k,h]⟩);(·exact⟨_,cg9 o,by simp[Mw,rk,k,h]⟩);(·exact⟨_,ch1 o,by simp[Mw,rk,k,h]⟩);(·exact⟨_,ch3 o,by simp[Mw,rk,k,h]⟩);·exact⟨_,ch5 o,by simp[Mw,rk,k,h]⟩)
 ·have:=ae1 hn;simp[Mw,rk,this]
theorem ae3(r:Rec):PC env 43 [⟨Fg,r⟩] .bool (Mk r):=by
 refine PC.LU (m:=2000) av b64 rfl rfl rfl rfl (by kernel_rfl) ?_;intro hx;simp only[Tryz.f43];simp only[go_sem,zA,↓reduceIte,↓reduceDIte,zB,zC,zD,zE,zF,zG,zH,zI,Nl]
 refine⟨_,YF r,fun _=>⟨_,aQ5 _ _,?_⟩⟩;simp only[go_sem,zA,↓reduceIte,↓reduceDIte,zB,zC,zD,zE,zF,zG,zH,zI,Nl];unfold Mk;refine⟨fun h=>⟨_,XB _,?_⟩,fun h=>?_⟩;(·cases hw:Ov r.2.2.2.1;(·simp only[go_sem,zA,↓reduceIte,↓reduceDIte,zB,zC,zD,zE,zF,zG,zH,zI,Nl];try simp[hw]);·simp only[go_sem,zA,↓reduceIte,↓reduceDIte,zB,zC,zD,zE,zF,zG,zH,zI,Nl];(repeat' (first|(with_reducible intro _)|(with_reducible apply And.intro)|(with_reducible refine⟨_,N0 _ _ _,?_⟩;try simp only[go_sem,zA,↓reduceIte,↓reduceDIte,zB,zC,zD,zE,zF,zG,zH,zI,Nl])|fail));all_goals first|(symm;simp;omega)|(clear hx;simp_all;done)|exact⟨_,N0 _ _ _,by clear hx;simp_all⟩)
 ·simp[h]
theorem aQ7(o:MR)(r:Rec):PC env 87 [⟨LR,o⟩,⟨.ptr (.mp (.int .i64) Ot),Ow⟩,⟨.ptr Fg,r⟩] .bool (Mx o r):=by
 refine PC.LU (m:=2000) av b85 rfl rfl rfl rfl (by kernel_rfl) ?_;intro hx;simp only[Tryz.f87];simp only[go_sem,zA,↓reduceIte,↓reduceDIte,zB,zC,zD,zE,zF,zG,zH,zI,Nl]
 refine⟨fun v hv=>?_,fun hn=>?_⟩;(·rcases ae0 hv with⟨k,rfl⟩|⟨k,rfl⟩|⟨k,rfl⟩|⟨k,rfl⟩|⟨k,rfl⟩<;>simp only[go_sem,zA,↓reduceIte,↓reduceDIte,zB,zC,zD,zE,zF,zG,zH,zI,Nl];(·exact⟨fun hl=>⟨_,cg8 o r,by simp[Mx,SV,k,hl]⟩,fun hl=>by simp[Mx,hl]⟩);(·exact⟨fun hl=>⟨_,ch0 o r,by simp[Mx,SV,k,hl]⟩,fun hl=>by simp[Mx,hl]⟩);(·exact⟨fun hl=>⟨_,ch2 o r,by simp[Mx,SV,k,hl]⟩,fun hl=>by simp[Mx,hl]⟩);(·exact⟨fun hl=>⟨_,ch4 o r,by simp[Mx,SV,k,hl]⟩,fun hl=>by simp[Mx,hl]⟩);·exact⟨fun hl=>⟨_,ch6 o r,by simp[Mx,SV,k,hl]⟩,fun hl=>by simp[Mx,hl]⟩)
 ·have:=ae1 hn;simp[Mx,SV,this]
end Go.Proofs.YtgpkijnphchkpaaGreat.Ln
namespace Go.Proofs.YtgpkijnphchkpaaGreat.Ln
attribute[local go_sem←]Bool.decide_and Bool.decide_or decide_not
set_option maxHeartbeats 4000000
set_option maxRecDepth 100000
abbrev MpT:Ty:=.mp (.int .i64) Ot
abbrev cb0:Ty:=.OM 87 (.pair (.ptr (.mp (.int .i64) Ot)) (.ptr Fg))
def aQ8 {α:Type} (p:α→Bool)(l:List α):Int:=if l.any p then(l.findIdx p:Int)else-1
theorem ae4 {α:Type} {xs:List α} {i:Nat} {x:α} {p:α→Bool} (h:xs[i]?=some x):(xs.take (i+1)).any p=((xs.take i).any p||p x):=by rw[LW h,List.any_append];simp
theorem bs1 {α:Type} {p:α→Bool} {l:List α} {i:Nat} {x:α} (h:l[i]?=some x)(hb:(l.take i).any p=false)(hp:p x=true):aQ8 p l=(i:Int):=by
 have HZ:l.any p=true:=List.any_eq_true.2 ⟨x,List.mem_of_getElem? h,hp⟩;unfold aQ8;rw[if_pos HZ];obtain⟨hi,e⟩:=List.getElem?_eq_some_iff.1 h;(have:l.findIdx p=i:=by rw[List.findIdx_eq hi];refine⟨by rw[e];exact hp,fun j hj=>?_⟩;rw[List.any_eq_false]at hb;have:=hb l[j] (by rw[List.mem_take_iff_getElem];exact⟨j,by omega,rfl⟩);simpa using this)
 rw[this]
theorem Zw(l:List MR)(r:Rec):PC env 132 [⟨.sl LR,l⟩,⟨cb0,(Ow,r)⟩] (.int .i64) (aQ8 (fun o=>Mx o r) l):=by
 refine PC.LU (m:=2000) av aO4 rfl rfl rfl rfl (by kernel_rfl) ?_;intro hx;simp only[Tryz.f132];simp only[go_sem,zA,↓reduceIte,↓reduceDIte,zB,zC,zD,zE,zF,zG,zH,zI]
 refine u1.Pv (X:=Nat) (fun i=>⟨[(8,.iv (.int .i64) (i:Int)),(7,.iv (.int .i64) (l.length:Int)),(0,.iv (.sl LR) l),(1,.fn 87 [.NF MpT Ow 0,.NF Fg r 0])],[]⟩) (fun i=>i≤l.length∧(l.take i).any (fun o=>Mx o r)=false) (fun i=>l.length-i) 0 (by refine⟨?_,?_,rfl,rfl⟩<;>repeat' (first|exact trivial|exact Or.inl rfl|exact Or.inr rfl|apply aw|apply ax|apply ay|apply az|exact⟨(by show(_:Nat)<1000000000;omega),rfl,rfl⟩|rfl|(refine And.intro (Or.inl ?_) ?_)|(refine And.intro ?_ ?_))) ⟨Nat.zero_le _,rfl⟩ ?_
 intro i⟨hi,hb⟩back;refine LP av ⟨_,aO4,rfl⟩ 2000 _ _ (by kernel_rfl) ?_;simp only[go_sem,zA,↓reduceIte,↓reduceDIte,zB,zC,zD,zE,zF,zG,zH,zI];have hlen:l.length≤9223372036854775807:=hx.1.1
 refine⟨fun h=>?_,fun h=>?_⟩;(·obtain⟨x,aK⟩: ∃x,l[i]?=some x:=r3 (by omega);refine⟨Int.natCast_nonneg i,x,aK,_,aQ7 x r,?_⟩;cases hm:Mx x r;(·simp only[go_sem,zA,↓reduceIte,↓reduceDIte,zB,zC,zD,zE,zF,zG,zH,zI];refine⟨LN (by omega) (by omega),back _ (i+1) (by refine⟨?_,?_,rfl,rfl⟩<;>repeat' (first|exact trivial|exact Or.inl rfl|exact Or.inr rfl|apply aw|apply ax|apply ay|apply az|exact⟨(by show(_:Nat)<1000000000;omega),rfl,rfl⟩|rfl|(refine And.intro (Or.inl ?_) ?_)|(refine And.intro ?_ ?_))) ⟨by omega,by rw[ae4 aK,hb,hm];rfl⟩ (by omega)⟩);·simp only[go_sem,zA,↓reduceIte,↓reduceDIte,zB,zC,zD,zE,zF,zG,zH,zI];exact(bs1 aK hb hm).symm)
 ·have e:l.take i=l:=List.take_of_length_le (by omega);rw[e]at hb;unfold aQ8;rw[hb];rfl
theorem TE(l:List MR)(r:Rec):PC env 86 [⟨.sl LR,l⟩,⟨cb0,(Ow,r)⟩] .bool (l.any (fun o=>Mx o r)):=by
 refine PC.LU (m:=2000) av b84 rfl rfl rfl rfl (by kernel_rfl) ?_;intro hx;simp only[Tryz.f86];simp only[go_sem,zA,↓reduceIte,↓reduceDIte,zB,zC,zD,zE,zF,zG,zH,zI]
 refine⟨_,Zw l r,fun _=>?_⟩;unfold aQ8;cases h:l.any (fun o=>Mx o r);(·rfl);·simp
theorem Wc(l:List MR)(r:Rec):PC env 44 [⟨MpT,Ow⟩,⟨.sl LR,l⟩,⟨Fg,r⟩] .bool (l.any (fun o=>Mx o r)):=by
 refine PC.LU (m:=2000) av b65 rfl rfl rfl rfl (by kernel_rfl) ?_;intro hx;simp only[Tryz.f44];simp only[go_sem,zA,↓reduceIte,↓reduceDIte,zB,zC,zD,zE,zF,zG,zH,zI]
 exact⟨_,TE l r,rfl⟩
def bsF(lt:Nat→Bool)(i j:Nat):Nat:=if i<j then(if lt ((i+j)/2)then bsF lt ((i+j)/2+1) j else bsF lt i ((i+j)/2))else i termination_by j-i
theorem ak4(lt:Nat→Bool)(i j:Nat)(h:i≤j):i≤bsF lt i j∧bsF lt i j≤j:=by
 unfold bsF;split;(·split;(·have:=ak4 lt ((i+j)/2+1) j (by omega);omega);·have:=ak4 lt i ((i+j)/2) (by omega);omega);·omega termination_by j-i
def X0 {α:Type} (pl:α→Int×Int)(l:List α)(p:Int×Int)(h:Nat):Bool:=match l[h]? with|some x=>decide (TF (pl x) p<0)|none=>false
def Tq {α:Type} (pl:α→Int×Int)(l:List α)(p:Int×Int):Nat:=bsF (X0 pl l p) 0 l.length
def QY {α:Type} (pl:α→Int×Int)(l:List α)(p:Int×Int)(i:Nat):Bool:=match l[i]? with|some x=>decide (TF (pl x) p=0)|none=>false
theorem Ro {α:Type} (pl:α→Int×Int)(l:List α)(p:Int×Int):Tq pl l p≤l.length:=(ak4 _ 0 l.length (Nat.zero_le _)).2
def Pq(o:MR):Int×Int:=(o.1,o.2.1)
def P5(r:Rec):Int×Int:=(r.1,r.2.1)
theorem YG {i j:Nat} (h:(i:Int)+j≤2000000):IntKind.i64.wrap (IntKind.u64.wrap ((i:Int)+j)/2^1)=(((i+j)/2:Nat):Int):=by
 have e1:IntKind.u64.wrap ((i:Int)+j)=(i:Int)+j:=OS _ ⟨by simp only[V7];omega,by simp only[V8];omega⟩;rw[e1];(have e2:((i:Int)+j)/2^1=(((i+j)/2:Nat):Int):=by rw[Int.natCast_ediv];norm_cast)
 rw[e2];exact OS _ ⟨by simp only[ao1];omega,by simp only[max_i64];omega⟩
def Nw {α:Type} (ls:List (List α)):Nat:=(ls.map List.length).sum
theorem O8 {α:Type} {ls:List (List α)} {k:Nat} {x:List α} (h:ls[k]?=some x):Nw (ls.take (k+1))=Nw (ls.take k)+x.length:=by unfold Nw;rw[LW h,List.map_append,List.sum_append];simp
theorem O9 {α:Type} (ls:List (List α))(k:Nat):Nw (ls.take k)≤Nw ls:=by unfold Nw;(conv=>rhs;rw[←List.take_append_drop k ls]);rw[List.map_append,List.sum_append];omega
def Nr {α:Type} (l:List α)(i:Nat)(x:α):List α:=l.take i++x::l.drop i
def ZA {α:Type} (pl:α→Int×Int)(l:List α)(j:Nat):Bool:=match l[j]?,l[j+1]? with|some x,some y=>decide (TF (pl x) (pl y)<0)|_,_=>true
def Pn {α:Type} (pl:α→Int×Int)(l:List α):Bool:=(List.range (l.length-1)).all (ZA pl l)
end Go.Proofs.YtgpkijnphchkpaaGreat.Ln
namespace Go.Proofs.YtgpkijnphchkpaaGreat.Ln
attribute[local go_sem←]Bool.decide_and Bool.decide_or decide_not
attribute[local go_sem]PA ML
set_option maxHeartbeats 4000000
set_option maxRecDepth 100000
theorem ae5(o:MR)(p:Int×Int):PC env 102 [⟨LR,o⟩,⟨Mr,p⟩,⟨.ptr .LY,(51:Nat)⟩] (.int .i64) (TF (Pq o) p):=by
 refine PC.LU (m:=2000) av bT4 rfl rfl rfl rfl (by kernel_rfl) ?_;intro hx;simp only[Tryz.f102];simp only[go_sem,zA,↓reduceIte,↓reduceDIte,zB,zC,zD,zE,zF,zG,zH,zI]
 exact⟨_,ad9 o,fun _=>⟨_,Zx _ _,fun _=>rfl⟩⟩
theorem cb1(l:List MR)(p:Int×Int)(hl:l.length≤1000000):PC env 101 [⟨.sl LR,l⟩,⟨Mr,p⟩,⟨.OM 102 (.ptr .LY),(51:Nat)⟩] (.Mj (.int .i64) .bool) (((Tq Pq l p:Nat):Int),QY Pq l p (Tq Pq l p)):=by
 refine PC.LU (m:=2000) av aN9 rfl rfl rfl rfl (by kernel_rfl) ?_;intro hx;simp only[Tryz.f101];simp only[go_sem,zA,↓reduceIte,↓reduceDIte,zB,zC,zD,zE,zF,zG,zH,zI]
 refine u1.Pv (X:=Nat×Nat) (fun z=>⟨[(9,.iv (.int .i64) (z.1:Int)),(10,.iv (.int .i64) (z.2:Int)),(8,.iv (.int .i64) (l.length:Int)),(0,.iv (.sl LR) l),(2,.fn 102 [.NF .LY (51:Nat) 0]),(4,.ref 4 0)],[(4,.box [.iv (.int .i64) p.1,.iv (.int .i64) p.2])]⟩) (fun z=>z.1≤z.2∧z.2≤l.length∧bsF (X0 Pq l p) z.1 z.2=Tq Pq l p) (fun z=>z.2-z.1) (0,l.length) (by refine⟨?_,?_,rfl,rfl⟩<;>repeat' (first|exact trivial|exact Or.inl rfl|exact Or.inr rfl|apply aw|apply ax|apply ay|apply az|exact⟨(by show(_:Nat)<1000000000;omega),rfl,rfl⟩|rfl|(refine And.intro (Or.inl ?_) ?_)|(refine And.intro ?_ ?_))) ⟨Nat.zero_le _,Nat.le_refl _,rfl⟩ ?_
 intro⟨i,j⟩⟨bT,hj,hb⟩back;dsimp only at bT hj hb;refine LP av ⟨_,aN9,rfl⟩ 2000 _ _ (by kernel_rfl) ?_;simp only[go_sem,zA,↓reduceIte,↓reduceDIte,zB,zC,zD,zE,zF,zG,zH,zI]
 have hw:=YG (i:=i) (j:=j) (by omega);have hu:IntKind.u64.wrap ((i:Int)+j)=(i:Int)+j:=OS _ ⟨by simp only[V7];omega,by simp only[V8];omega⟩;refine⟨fun h=>?_,fun h=>?_⟩
 (·obtain⟨x,aK⟩: ∃x,l[(i+j)/2]?=some x:=r3 (by omega);rw[hw,hu,Int.toNat_natCast];unfold bsF at hb;rw[if_pos (by omega)]at hb;(have bo:X0 Pq l p ((i+j)/2)=decide (TF (Pq x) p<0):=by unfold X0;rw[aK]);refine⟨LN (by omega) (by omega),by omega,x,aK,_,ae5 x p,fun _=>⟨fun c=>⟨LN (by omega) (by omega),?_⟩,fun c=>?_⟩⟩;(·rw[bo,decide_eq_true c,if_pos rfl]at hb;exact back _ ((i+j)/2+1,j) (by refine⟨?_,?_,rfl,rfl⟩<;>repeat' (first|exact trivial|exact Or.inl rfl|exact Or.inr rfl|apply aw|apply ax|apply ay|apply az|exact⟨(by show(_:Nat)<1000000000;omega),rfl,rfl⟩|rfl|(refine And.intro (Or.inl ?_) ?_)|(refine And.intro ?_ ?_))) ⟨by dsimp only;omega,hj,hb⟩ (by dsimp only;omega));·rw[bo,decide_eq_false c,if_neg (by decide)]at hb;exact back _ (i,(i+j)/2) (by refine⟨?_,?_,rfl,rfl⟩<;>repeat' (first|exact trivial|exact Or.inl rfl|exact Or.inr rfl|apply aw|apply ax|apply ay|apply az|exact⟨(by show(_:Nat)<1000000000;omega),rfl,rfl⟩|rfl|(refine And.intro (Or.inl ?_) ?_)|(refine And.intro ?_ ?_))) ⟨by dsimp only;omega,by dsimp only;omega,hb⟩ (by dsimp only;omega))
 ·unfold bsF at hb;rw[if_neg (by omega)]at hb;rw[←hb];refine⟨fun c=>?_,fun c=>?_⟩;(·obtain⟨x,aK⟩: ∃x,l[i]?=some x:=r3 (by omega);refine⟨Int.natCast_nonneg i,x,aK,_,ae5 x p,fun _=>?_⟩;unfold QY;rw[aK]);·unfold QY;rw[List.getElem?_eq_none (by omega)]
theorem ap7(l:List MR)(p:Int×Int)(hl:l.length≤1000000):PC env 53 [⟨.sl LR,l⟩,⟨.LY,(51:Nat)⟩,⟨Mr,p⟩] (.Mj (.int .i64) .bool) (((Tq Pq l p:Nat):Int),QY Pq l p (Tq Pq l p)):=by
 refine PC.LU (m:=2000) av b72 rfl rfl rfl rfl (by kernel_rfl) ?_;intro hx;simp only[Tryz.f53];simp only[go_sem,zA,↓reduceIte,↓reduceDIte,zB,zC,zD,zE,zF,zG,zH,zI]
 exact⟨_,cb1 l p hl,fun _=>rfl⟩
theorem bs2(n:Int)(h0:0<n)(h1:n≤1000000):HC env 157 [.Ms,.iv (.int .i64) n] [] (.Ps 22 7 0 0) [(22,.arr LR (List.replicate n.toNat (M3 LR)))]:=by
 refine HC.LU (m:=2000) av bV6 rfl rfl rfl rfl (by kernel_rfl) ?_;intro hx dR;simp only[Tryz.f157];simp only[go_sem,zA,↓reduceIte,↓reduceDIte,zB,zC,zD,zE,zF,zG,zH,zI]
 refine⟨fun h=>absurd h (by omega),fun _=>?_⟩;simp only[Int.sub_self,Int.sub_zero];exact⟨⟨by decide,by decide⟩,⟨by omega,by omega⟩,fun _=>⟨⟨h0,Int.le_trans h1 (by decide)⟩,Int.natCast_nonneg _,trivial⟩,fun h=>absurd h0 h⟩
theorem av5(ls:List (List MR))(h0:0<Nw ls)(h1:Nw ls≤1000000)(hn:ls.length≤1000000):PC env 131 [⟨.sl (.sl LR),ls⟩] (.sl LR) ls.flatten:=by
 refine PC.LU (m:=2000) av Zt rfl rfl rfl rfl (by kernel_rfl) ?_;intro hx;simp only[Tryz.f131];simp only[go_sem,zA,↓reduceIte,↓reduceDIte,zB,zC,zD,zE,zF,zG,zH,zI]
 refine u1.Pv (X:=Nat) (fun k=>⟨[(11,.iv (.int .i64) (k:Int)),(10,.iv (.int .i64) (ls.length:Int)),(9,.iv (.sl (.sl LR)) ls),(0,.iv (.sl (.sl LR)) ls),(3,.iv (.int .i64) (Nw (ls.take k):Int))],[]⟩) (fun k=>k≤ls.length) (fun k=>ls.length-k) 0 (by refine⟨?_,?_,rfl,rfl⟩<;>repeat' (first|exact trivial|exact Or.inl rfl|exact Or.inr rfl|apply aw|apply ax|apply ay|apply az|exact⟨(by show(_:Nat)<1000000000;omega),rfl,rfl⟩|rfl|(refine And.intro (Or.inl ?_) ?_)|(refine And.intro ?_ ?_))) (Nat.zero_le _) ?_
 intro k hk back;refine LP av ⟨_,Zt,rfl⟩ 2000 _ _ (by kernel_rfl) ?_;simp only[go_sem,zA,↓reduceIte,↓reduceDIte,zB,zC,zD,zE,zF,zG,zH,zI];refine⟨fun h=>?_,fun h=>?_⟩
 (·obtain⟨x,aK⟩: ∃x,ls[k]?=some x:=r3 (by omega);have hs:=O8 aK;have ht:=O9 ls (k+1);refine⟨Int.natCast_nonneg k,x,aK,LN (by omega) (by omega),fun h'=>absurd h' (by omega),fun _=>⟨LN (by omega) (by omega),?_⟩⟩;refine back _ (k+1) ⟨⟨Or.inl rfl,Or.inl rfl,Or.inl rfl,Or.inl rfl,Or.inl ?_,trivial⟩,trivial,rfl,rfl⟩ (by omega) (by omega);rw[hs];rfl)
 ·have e:ls.take k=ls:=List.take_of_length_le (by omega);rw[e];refine⟨_,_,bs2 _ (by omega) (by omega),?_⟩;simp only[go_sem,zA,↓reduceIte,↓reduceDIte,zB,zC,zD,zE,zF,zG,zH,zI];intro _;refine u1.Pv (X:=Nat) (fun k=>⟨[(27,.iv (.int .i64) (k:Int)),(26,.iv (.int .i64) (ls.length:Int)),(25,.iv (.sl (.sl LR)) ls),(6,match k with|0=>.Ps 2500022 7 0 0|_+1=>.LV 2500022)],[(2500022,.arr LR (match k with|0=>List.replicate (Nw ls) (M3 LR)|_+1=>(ls.take k).flatten))]⟩) (fun k=>k≤ls.length) (fun k=>ls.length-k) 0 (by refine⟨?_,?_,rfl,rfl⟩<;>repeat' (first|exact trivial|exact Or.inl rfl|exact Or.inr rfl|apply aw|apply ax|apply ay|apply az|exact⟨(by show(_:Nat)<1000000000;omega),rfl,rfl⟩|rfl|(refine And.intro (Or.inl ?_) ?_)|(refine And.intro ?_ ?_))) (Nat.zero_le _) ?_;intro k hk bn;cases k with|zero=>refine LP av ⟨_,Zt,rfl⟩ 2000 _ _ (by kernel_rfl) ?_;simp only[go_sem,zA,↓reduceIte,↓reduceDIte,zB,zC,zD,zE,zF,zG,zH,zI];refine⟨fun h=>?_,fun h=>?_⟩;(·obtain⟨x,aK⟩: ∃x,ls[0]?=some x:=r3 (by omega);have hs:Nw (ls.take 1)=Nw (ls.take 0)+x.length:=O8 aK;have ht:=O9 ls 1;refine⟨x,aK,⟨by rw[List.length_replicate];exact .inl h0,by omega⟩,⟨by decide,by decide⟩,bn _ 1 ⟨⟨Or.inl rfl,Or.inl rfl,Or.inl rfl,Or.inl rfl,trivial⟩,⟨?_,trivial⟩,rfl,rfl⟩ (by omega) (by omega)⟩;refine congrArg (L9.arr LR) ?_;rw[show(1:Nat)=0+1 from rfl,LW aK];simp);(·exfalso;have kb:ls=[]:=List.length_eq_zero_iff.mp (by omega);subst kb;exact absurd h0 (by decide))|succ k=>refine LP av ⟨_,Zt,rfl⟩ 2000 _ _ (by kernel_rfl) ?_;simp only[go_sem,zA,↓reduceIte,↓reduceDIte,zB,zC,zD,zE,zF,zG,zH,zI];refine⟨fun h=>?_,fun h=>?_⟩;(·obtain⟨x,aK⟩: ∃x,ls[k+1]?=some x:=r3 (by omega);have hs:=O8 aK;have ht:=O9 ls (k+1+1);(have hf:(ls.take (k+1)).flatten.length=Nw (ls.take (k+1)):=by rw[List.length_flatten];rfl);refine⟨Int.natCast_nonneg _,x,aK,by omega,LN (by omega) (by omega),bn _ (k+1+1) ⟨⟨Or.inl rfl,Or.inl rfl,Or.inl rfl,Or.inl rfl,trivial⟩,⟨?_,trivial⟩,rfl,rfl⟩ (by omega) (by omega)⟩;refine congrArg (L9.arr LR) ?_;rw[LW aK];simp);·have e2:ls.take (k+1)=ls:=List.take_of_length_le (by omega);rw[e2]
theorem bY3(l:List MR)(o:MR)(hl:l.length≤100000):PC env 81 [⟨.sl LR,l⟩,⟨.LY,(51:Nat)⟩,⟨LR,o⟩] (.sl LR) (Nr l (Tq Pq l (Pq o)) o):=by
 refine PC.LU (m:=2000) av b81 rfl rfl rfl rfl (by kernel_rfl) ?_;intro hx;simp only[Tryz.f81];simp only[go_sem,zA,↓reduceIte,↓reduceDIte,zB,zC,zD,zE,zF,zG,zH,zI]
 have hb:=Ro Pq l (Pq o);refine⟨_,ad9 o,fun _=>⟨_,ap7 l _ (by omega),fun _=>?_⟩⟩;simp only[go_sem,zA,↓reduceIte,↓reduceDIte,zB,zC,zD,zE,zF,zG,zH,zI];(have hn:(Tq Pq l (o.1,o.2.1):Int)≤(l.length:Int):=by have:=Ro Pq l (o.1,o.2.1);omega)
 (have hs:Nw [l.take (Tq Pq l (o.1,o.2.1)),[o],l.drop (Tq Pq l (o.1,o.2.1))]=l.length+1:=by have:=Ro Pq l (o.1,o.2.1);simp[Nw];omega);refine⟨⟨Int.natCast_nonneg _,hn⟩,⟨Int.natCast_nonneg _,hn⟩,_,av5 _ (by rw[hs];omega) (by rw[hs];omega) (by simp),fun _=>?_⟩
 simp only[Nr,List.flatten_cons,List.flatten_nil,List.append_nil,List.singleton_append];rfl
theorem bY4(l:List MR):PC env 50 [⟨.sl LR,l⟩,⟨.LY,(51:Nat)⟩] .bool (Pn Pq l):=by
 refine PC.LU (m:=2000) av bv8 rfl rfl rfl rfl (by kernel_rfl) ?_;intro hx;simp only[Tryz.f50];simp only[go_sem,zA,↓reduceIte,↓reduceDIte,zB,zC,zD,zE,zF,zG,zH,zI]
 have hlen:l.length≤9223372036854775807:=hx.1.1;refine u1.Pv (X:=Nat) (fun i=>⟨[(5,.iv (.int .i64) (i:Int)),(0,.iv (.sl LR) l),(1,.iv .LY (51:Nat))],[]⟩) (fun i=>1≤i∧(i≤l.length∨i=1)∧(List.range (i-1)).all (ZA Pq l)=true) (fun i=>l.length-i) 1 (by refine⟨?_,?_,rfl,rfl⟩<;>repeat' (first|exact trivial|exact Or.inl rfl|exact Or.inr rfl|apply aw|apply ax|apply ay|apply az|exact⟨(by show(_:Nat)<1000000000;omega),rfl,rfl⟩|rfl|(refine And.intro (Or.inl ?_) ?_)|(refine And.intro ?_ ?_))) ⟨Nat.le_refl _,.inr rfl,rfl⟩ ?_
 intro i⟨hi,yb,hb⟩back;refine LP av ⟨_,bv8,rfl⟩ 2000 _ _ (by kernel_rfl) ?_;simp only[go_sem,zA,↓reduceIte,↓reduceDIte,zB,zC,zD,zE,zF,zG,zH,zI];refine⟨fun h=>?_,fun h=>?_⟩
 (·obtain⟨y,hy⟩: ∃y,l[i]?=some y:=r3 (by omega);obtain⟨x,aK⟩: ∃x,l[i-1]?=some x:=r3 (by omega);(have e1:((i:Int)-1).toNat=i-1:=by omega);(have bm:ZA Pq l (i-1)=decide (TF (Pq x) (Pq y)<0):=by unfold ZA;rw[aK,show i-1+1=i from by omega,hy]);rw[e1];refine⟨LN (by omega) (by omega),by omega,x,aK,_,ad9 x,fun _=>⟨Int.natCast_nonneg i,y,hy,_,ad9 y,fun _=>⟨_,Zx _ _,fun _=>⟨fun c=>?_,fun c=>⟨LN (by omega) (by omega),?_⟩⟩⟩⟩⟩;(·symm;unfold Pn;rw[List.all_eq_false];refine⟨i-1,List.mem_range.2 (by omega),?_⟩;rw[bm];exact fun e=>absurd (of_decide_eq_true e) (Int.not_lt.2 c));·refine back _ (i+1) (by refine⟨?_,?_,rfl,rfl⟩<;>repeat' (first|exact trivial|exact Or.inl rfl|exact Or.inr rfl|apply aw|apply ax|apply ay|apply az|exact⟨(by show(_:Nat)<1000000000;omega),rfl,rfl⟩|rfl|(refine And.intro (Or.inl ?_) ?_)|(refine And.intro ?_ ?_))) ⟨by omega,by omega,?_⟩ (by omega);rw[show i+1-1=(i-1)+1 from by omega,List.range_succ,List.all_append,hb];simp only[List.all_cons,List.all_nil,Bool.and_true,Bool.true_and];rw[bm];exact decide_eq_true (Int.not_le.1 c))
 ·unfold Pn;rcases yb with h2|h2;(·rw[show l.length-1=i-1 from by omega,hb]);·subst h2;rw[show l.length-1=0 from by omega];rfl
end Go.Proofs.YtgpkijnphchkpaaGreat.Ln
namespace Go.Proofs.YtgpkijnphchkpaaGreat.Ln
attribute[local go_sem←]Bool.decide_and Bool.decide_or decide_not
attribute[local go_sem]PA ML
set_option maxHeartbeats 4000000
set_option maxRecDepth 100000
theorem ae6(o:Rec)(p:Int×Int):PC env 134 [⟨Fg,o⟩,⟨Mr,p⟩,⟨.ptr .LY,(47:Nat)⟩] (.int .i64) (TF (P5 o) p):=by
 refine PC.LU (m:=2000) av bU5 rfl rfl rfl rfl (by kernel_rfl) ?_;intro hx;simp only[Tryz.f134];simp only[go_sem,zA,↓reduceIte,↓reduceDIte,zB,zC,zD,zE,zF,zG,zH,zI]
 exact⟨_,YF o,fun _=>⟨_,Zx _ _,fun _=>rfl⟩⟩
theorem cb2(l:List Rec)(p:Int×Int)(hl:l.length≤1000000):PC env 133 [⟨.sl Fg,l⟩,⟨Mr,p⟩,⟨.OM 134 (.ptr .LY),(47:Nat)⟩] (.Mj (.int .i64) .bool) (((Tq P5 l p:Nat):Int),QY P5 l p (Tq P5 l p)):=by
 refine PC.LU (m:=2000) av aO5 rfl rfl rfl rfl (by kernel_rfl) ?_;intro hx;simp only[Tryz.f133];simp only[go_sem,zA,↓reduceIte,↓reduceDIte,zB,zC,zD,zE,zF,zG,zH,zI]
 refine u1.Pv (X:=Nat×Nat) (fun z=>⟨[(9,.iv (.int .i64) (z.1:Int)),(10,.iv (.int .i64) (z.2:Int)),(8,.iv (.int .i64) (l.length:Int)),(0,.iv (.sl Fg) l),(2,.fn 134 [.NF .LY (47:Nat) 0]),(4,.ref 4 0)],[(4,.box [.iv (.int .i64) p.1,.iv (.int .i64) p.2])]⟩) (fun z=>z.1≤z.2∧z.2≤l.length∧bsF (X0 P5 l p) z.1 z.2=Tq P5 l p) (fun z=>z.2-z.1) (0,l.length) (by refine⟨?_,?_,rfl,rfl⟩<;>repeat' (first|exact trivial|exact Or.inl rfl|exact Or.inr rfl|apply aw|apply ax|apply ay|apply az|exact⟨(by show(_:Nat)<1000000000;omega),rfl,rfl⟩|rfl|(refine And.intro (Or.inl ?_) ?_)|(refine And.intro ?_ ?_))) ⟨Nat.zero_le _,Nat.le_refl _,rfl⟩ ?_
 intro⟨i,j⟩⟨bT,hj,hb⟩back;dsimp only at bT hj hb;refine LP av ⟨_,aO5,rfl⟩ 2000 _ _ (by kernel_rfl) ?_;simp only[go_sem,zA,↓reduceIte,↓reduceDIte,zB,zC,zD,zE,zF,zG,zH,zI]
 have hw:=YG (i:=i) (j:=j) (by omega);have hu:IntKind.u64.wrap ((i:Int)+j)=(i:Int)+j:=OS _ ⟨by simp only[V7];omega,by simp only[V8];omega⟩;refine⟨fun h=>?_,fun h=>?_⟩
 (·obtain⟨x,aK⟩: ∃x,l[(i+j)/2]?=some x:=r3 (by omega);rw[hw,hu,Int.toNat_natCast];unfold bsF at hb;rw[if_pos (by omega)]at hb;(have bo:X0 P5 l p ((i+j)/2)=decide (TF (P5 x) p<0):=by unfold X0;rw[aK]);refine⟨LN (by omega) (by omega),by omega,x,aK,_,ae6 x p,fun _=>⟨fun c=>⟨LN (by omega) (by omega),?_⟩,fun c=>?_⟩⟩;(·rw[bo,decide_eq_true c,if_pos rfl]at hb;exact back _ ((i+j)/2+1,j) (by refine⟨?_,?_,rfl,rfl⟩<;>repeat' (first|exact trivial|exact Or.inl rfl|exact Or.inr rfl|apply aw|apply ax|apply ay|apply az|exact⟨(by show(_:Nat)<1000000000;omega),rfl,rfl⟩|rfl|(refine And.intro (Or.inl ?_) ?_)|(refine And.intro ?_ ?_))) ⟨by dsimp only;omega,hj,hb⟩ (by dsimp only;omega));·rw[bo,decide_eq_false c,if_neg (by decide)]at hb;exact back _ (i,(i+j)/2) (by refine⟨?_,?_,rfl,rfl⟩<;>repeat' (first|exact trivial|exact Or.inl rfl|exact Or.inr rfl|apply aw|apply ax|apply ay|apply az|exact⟨(by show(_:Nat)<1000000000;omega),rfl,rfl⟩|rfl|(refine And.intro (Or.inl ?_) ?_)|(refine And.intro ?_ ?_))) ⟨by dsimp only;omega,by dsimp only;omega,hb⟩ (by dsimp only;omega))
 ·unfold bsF at hb;rw[if_neg (by omega)]at hb;rw[←hb];refine⟨fun c=>?_,fun c=>?_⟩;(·obtain⟨x,aK⟩: ∃x,l[i]?=some x:=r3 (by omega);refine⟨Int.natCast_nonneg i,x,aK,_,ae6 x p,fun _=>?_⟩;unfold QY;rw[aK]);·unfold QY;rw[List.getElem?_eq_none (by omega)]
theorem bs3(l:List Rec)(p:Int×Int)(hl:l.length≤1000000):PC env 98 [⟨.sl Fg,l⟩,⟨.LY,(47:Nat)⟩,⟨Mr,p⟩] (.Mj (.int .i64) .bool) (((Tq P5 l p:Nat):Int),QY P5 l p (Tq P5 l p)):=by
 refine PC.LU (m:=2000) av b96 rfl rfl rfl rfl (by kernel_rfl) ?_;intro hx;simp only[Tryz.f98];simp only[go_sem,zA,↓reduceIte,↓reduceDIte,zB,zC,zD,zE,zF,zG,zH,zI]
 exact⟨_,cb2 l p hl,fun _=>rfl⟩
theorem bs4(n:Int)(h0:0<n)(h1:n≤1000000):HC env 135 [.Ms,.iv (.int .i64) n] [] (.Ps 22 6 0 0) [(22,.arr Fg (List.replicate n.toNat (M3 Fg)))]:=by
 refine HC.LU (m:=2000) av bU6 rfl rfl rfl rfl (by kernel_rfl) ?_;intro hx dR;simp only[Tryz.f135];simp only[go_sem,zA,↓reduceIte,↓reduceDIte,zB,zC,zD,zE,zF,zG,zH,zI]
 refine⟨fun h=>absurd h (by omega),fun _=>?_⟩;simp only[Int.sub_self,Int.sub_zero];exact⟨⟨by decide,by decide⟩,⟨by omega,by omega⟩,fun _=>⟨⟨h0,Int.le_trans h1 (by decide)⟩,Int.natCast_nonneg _,trivial⟩,fun h=>absurd h0 h⟩
theorem av6(ls:List (List Rec))(h0:0<Nw ls)(h1:Nw ls≤1000000)(hn:ls.length≤1000000):PC env 99 [⟨.sl (.sl Fg),ls⟩] (.sl Fg) ls.flatten:=by
 refine PC.LU (m:=2000) av ao6 rfl rfl rfl rfl (by kernel_rfl) ?_;intro hx;simp only[Tryz.f99];simp only[go_sem,zA,↓reduceIte,↓reduceDIte,zB,zC,zD,zE,zF,zG,zH,zI]
 refine u1.Pv (X:=Nat) (fun k=>⟨[(11,.iv (.int .i64) (k:Int)),(10,.iv (.int .i64) (ls.length:Int)),(9,.iv (.sl (.sl Fg)) ls),(0,.iv (.sl (.sl Fg)) ls),(3,.iv (.int .i64) (Nw (ls.take k):Int))],[]⟩) (fun k=>k≤ls.length) (fun k=>ls.length-k) 0 (by refine⟨?_,?_,rfl,rfl⟩<;>repeat' (first|exact trivial|exact Or.inl rfl|exact Or.inr rfl|apply aw|apply ax|apply ay|apply az|exact⟨(by show(_:Nat)<1000000000;omega),rfl,rfl⟩|rfl|(refine And.intro (Or.inl ?_) ?_)|(refine And.intro ?_ ?_))) (Nat.zero_le _) ?_
 intro k hk back;refine LP av ⟨_,ao6,rfl⟩ 2000 _ _ (by kernel_rfl) ?_;simp only[go_sem,zA,↓reduceIte,↓reduceDIte,zB,zC,zD,zE,zF,zG,zH,zI];refine⟨fun h=>?_,fun h=>?_⟩
 (·obtain⟨x,aK⟩: ∃x,ls[k]?=some x:=r3 (by omega);have hs:=O8 aK;have ht:=O9 ls (k+1);refine⟨Int.natCast_nonneg k,x,aK,LN (by omega) (by omega),fun h'=>absurd h' (by omega),fun _=>⟨LN (by omega) (by omega),?_⟩⟩;refine back _ (k+1) ⟨⟨Or.inl rfl,Or.inl rfl,Or.inl rfl,Or.inl rfl,Or.inl ?_,trivial⟩,trivial,rfl,rfl⟩ (by omega) (by omega);rw[hs];rfl)
 ·have e:ls.take k=ls:=List.take_of_length_le (by omega);rw[e];refine⟨_,_,bs4 _ (by omega) (by omega),?_⟩;simp only[go_sem,zA,↓reduceIte,↓reduceDIte,zB,zC,zD,zE,zF,zG,zH,zI];intro _;refine u1.Pv (X:=Nat) (fun k=>⟨[(27,.iv (.int .i64) (k:Int)),(26,.iv (.int .i64) (ls.length:Int)),(25,.iv (.sl (.sl Fg)) ls),(6,match k with|0=>.Ps 2500022 6 0 0|_+1=>.LV 2500022)],[(2500022,.arr Fg (match k with|0=>List.replicate (Nw ls) (M3 Fg)|_+1=>(ls.take k).flatten))]⟩) (fun k=>k≤ls.length) (fun k=>ls.length-k) 0 (by refine⟨?_,?_,rfl,rfl⟩<;>repeat' (first|exact trivial|exact Or.inl rfl|exact Or.inr rfl|apply aw|apply ax|apply ay|apply az|exact⟨(by show(_:Nat)<1000000000;omega),rfl,rfl⟩|rfl|(refine And.intro (Or.inl ?_) ?_)|(refine And.intro ?_ ?_))) (Nat.zero_le _) ?_;intro k hk bn;cases k with|zero=>refine LP av ⟨_,ao6,rfl⟩ 2000 _ _ (by kernel_rfl) ?_;simp only[go_sem,zA,↓reduceIte,↓reduceDIte,zB,zC,zD,zE,zF,zG,zH,zI];refine⟨fun h=>?_,fun h=>?_⟩;(·obtain⟨x,aK⟩: ∃x,ls[0]?=some x:=r3 (by omega);have hs:Nw (ls.take 1)=Nw (ls.take 0)+x.length:=O8 aK;have ht:=O9 ls 1;refine⟨x,aK,⟨by rw[List.length_replicate];exact .inl h0,by omega⟩,⟨by decide,by decide⟩,bn _ 1 ⟨⟨Or.inl rfl,Or.inl rfl,Or.inl rfl,Or.inl rfl,trivial⟩,⟨?_,trivial⟩,rfl,rfl⟩ (by omega) (by omega)⟩;refine congrArg (L9.arr Fg) ?_;rw[show(1:Nat)=0+1 from rfl,LW aK];simp);(·exfalso;have kb:ls=[]:=List.length_eq_zero_iff.mp (by omega);subst kb;exact absurd h0 (by decide))|succ k=>refine LP av ⟨_,ao6,rfl⟩ 2000 _ _ (by kernel_rfl) ?_;simp only[go_sem,zA,↓reduceIte,↓reduceDIte,zB,zC,zD,zE,zF,zG,zH,zI];refine⟨fun h=>?_,fun h=>?_⟩;(·obtain⟨x,aK⟩: ∃x,ls[k+1]?=some x:=r3 (by omega);have hs:=O8 aK;have ht:=O9 ls (k+1+1);(have hf:(ls.take (k+1)).flatten.length=Nw (ls.take (k+1)):=by rw[List.length_flatten];rfl);refine⟨Int.natCast_nonneg _,x,aK,by omega,LN (by omega) (by omega),bn _ (k+1+1) ⟨⟨Or.inl rfl,Or.inl rfl,Or.inl rfl,Or.inl rfl,trivial⟩,⟨?_,trivial⟩,rfl,rfl⟩ (by omega) (by omega)⟩;refine congrArg (L9.arr Fg) ?_;rw[LW aK];simp);·have e2:ls.take (k+1)=ls:=List.take_of_length_le (by omega);rw[e2]
theorem bY5(l:List Rec)(o:Rec)(hl:l.length≤100000):PC env 46 [⟨.sl Fg,l⟩,⟨.LY,(47:Nat)⟩,⟨Fg,o⟩] (.sl Fg) (Nr l (Tq P5 l (P5 o)) o):=by
 refine PC.LU (m:=2000) av b67 rfl rfl rfl rfl (by kernel_rfl) ?_;intro hx;simp only[Tryz.f46];simp only[go_sem,zA,↓reduceIte,↓reduceDIte,zB,zC,zD,zE,zF,zG,zH,zI]
 have hb:=Ro P5 l (P5 o);refine⟨_,YF o,fun _=>⟨_,bs3 l _ (by omega),fun _=>?_⟩⟩;simp only[go_sem,zA,↓reduceIte,↓reduceDIte,zB,zC,zD,zE,zF,zG,zH,zI];(have hn:(Tq P5 l (o.1,o.2.1):Int)≤(l.length:Int):=by have:=Ro P5 l (o.1,o.2.1);omega)
 (have hs:Nw [l.take (Tq P5 l (o.1,o.2.1)),[o],l.drop (Tq P5 l (o.1,o.2.1))]=l.length+1:=by have:=Ro P5 l (o.1,o.2.1);simp[Nw];omega);refine⟨⟨Int.natCast_nonneg _,hn⟩,⟨Int.natCast_nonneg _,hn⟩,_,av6 _ (by rw[hs];omega) (by rw[hs];omega) (by simp),fun _=>?_⟩
 simp only[Nr,List.flatten_cons,List.flatten_nil,List.append_nil,List.singleton_append];rfl
theorem bY6(l:List Rec):PC env 52 [⟨.sl Fg,l⟩,⟨.LY,(47:Nat)⟩] .bool (Pn P5 l):=by
 refine PC.LU (m:=2000) av bv9 rfl rfl rfl rfl (by kernel_rfl) ?_;intro hx;simp only[Tryz.f52];simp only[go_sem,zA,↓reduceIte,↓reduceDIte,zB,zC,zD,zE,zF,zG,zH,zI]
 have hlen:l.length≤9223372036854775807:=hx.1.1;refine u1.Pv (X:=Nat) (fun i=>⟨[(5,.iv (.int .i64) (i:Int)),(0,.iv (.sl Fg) l),(1,.iv .LY (47:Nat))],[]⟩) (fun i=>1≤i∧(i≤l.length∨i=1)∧(List.range (i-1)).all (ZA P5 l)=true) (fun i=>l.length-i) 1 (by refine⟨?_,?_,rfl,rfl⟩<;>repeat' (first|exact trivial|exact Or.inl rfl|exact Or.inr rfl|apply aw|apply ax|apply ay|apply az|exact⟨(by show(_:Nat)<1000000000;omega),rfl,rfl⟩|rfl|(refine And.intro (Or.inl ?_) ?_)|(refine And.intro ?_ ?_))) ⟨Nat.le_refl _,.inr rfl,rfl⟩ ?_
 intro i⟨hi,yb,hb⟩back;refine LP av ⟨_,bv9,rfl⟩ 2000 _ _ (by kernel_rfl) ?_;simp only[go_sem,zA,↓reduceIte,↓reduceDIte,zB,zC,zD,zE,zF,zG,zH,zI];refine⟨fun h=>?_,fun h=>?_⟩
 (·obtain⟨y,hy⟩: ∃y,l[i]?=some y:=r3 (by omega);obtain⟨x,aK⟩: ∃x,l[i-1]?=some x:=r3 (by omega);(have e1:((i:Int)-1).toNat=i-1:=by omega);(have bm:ZA P5 l (i-1)=decide (TF (P5 x) (P5 y)<0):=by unfold ZA;rw[aK,show i-1+1=i from by omega,hy]);rw[e1];refine⟨LN (by omega) (by omega),by omega,x,aK,_,YF x,fun _=>⟨Int.natCast_nonneg i,y,hy,_,YF y,fun _=>⟨_,Zx _ _,fun _=>⟨fun c=>?_,fun c=>⟨LN (by omega) (by omega),?_⟩⟩⟩⟩⟩;(·symm;unfold Pn;rw[List.all_eq_false];refine⟨i-1,List.mem_range.2 (by omega),?_⟩;rw[bm];exact fun e=>absurd (of_decide_eq_true e) (Int.not_lt.2 c));·refine back _ (i+1) (by refine⟨?_,?_,rfl,rfl⟩<;>repeat' (first|exact trivial|exact Or.inl rfl|exact Or.inr rfl|apply aw|apply ax|apply ay|apply az|exact⟨(by show(_:Nat)<1000000000;omega),rfl,rfl⟩|rfl|(refine And.intro (Or.inl ?_) ?_)|(refine And.intro ?_ ?_))) ⟨by omega,by omega,?_⟩ (by omega);rw[show i+1-1=(i-1)+1 from by omega,List.range_succ,List.all_append,hb];simp only[List.all_cons,List.all_nil,Bool.and_true,Bool.true_and];rw[bm];exact decide_eq_true (Int.not_le.1 c))
 ·unfold Pn;rcases yb with h2|h2;(·rw[show l.length-1=i-1 from by omega,hb]);·subst h2;rw[show l.length-1=0 from by omega];rfl
end Go.Proofs.YtgpkijnphchkpaaGreat.Ln
