/- The law RetakeRefuses holds for every input. No condition. -/
import Derived.Test.YtgpkijnphchkpaaGreatR3
import Derived.Test.YtgpkijnphchkpaaGreatRows
set_option linter.unusedSimpArgs false
set_option linter.unusedVariables false
open Nat renaming reduceBEq→zA,reduceAdd→zB,reduceSub→zC,reduceMul→zD,reduceLeDiff→zE
open Int renaming reduceLT→zF,reduceLE→zG,reduceToNat→zH,reduceNeg→zI
namespace Go.Proofs.YtgpkijnphchkpaaGreat
set_option maxRecDepth 100000
theorem ce2:env.P.funcs[106]?=some Tryz.f106:=rfl
theorem ce1:env.P.funcs[105]?=some Tryz.f105:=rfl
theorem ce9:env.P.funcs[138]?=some Tryz.f138:=rfl
theorem ce0:env.P.funcs[104]?=some Tryz.f104:=rfl
theorem ci4:env.P.funcs[57]?=some Tryz.f57:=rfl
theorem ce3:env.P.funcs[107]?=some Tryz.f107:=rfl
theorem ci5:env.P.funcs[58]?=some Tryz.f58:=rfl
theorem ci6:env.P.funcs[59]?=some Tryz.f59:=rfl
theorem ci2:env.P.funcs[29]?=some Tryz.f29:=rfl
theorem cj8:env.P.funcs[7]?=some Tryz.f7:=rfl
end Go.Proofs.YtgpkijnphchkpaaGreat
namespace Go.Proofs.YtgpkijnphchkpaaGreat.cp3
attribute[local go_sem←]Bool.decide_and Bool.decide_or decide_not
attribute[local go_sem]PA ML
set_option maxHeartbeats 4000000
set_option maxRecDepth 100000
noncomputable def fnS(f:Nat):Option (List Ty×Ty):=if f=104 then some ([.sl (.sl MT),.LY],.bool)else if f=138 then some ([.sl (.sl MT),.LY],.int .i64)else env.fn f
noncomputable def bI:Env:= { env with fn:=fnS }
theorem a9:bI.P=env.P:=rfl
theorem aM {t:Nat} :bI.ty t=env.ty t:=rfl
theorem aA {t:Nat} :bI.str t=env.str t:=rfl
theorem aB {t:Nat} :bI.cmp t=env.cmp t:=rfl
theorem aN {f:Nat} :bI.fn f=fnS f:=rfl
theorem aC {f:Nat} :bI.Nt f=env.Nt f:=rfl
theorem ah {t:Nat} :bI.mapKey t=env.mapKey t:=rfl
theorem aO:bI.tm=env.tm:=rfl
theorem al {t:Nat} :bI.Wj t=env.Wj t:=rfl
theorem aD {t:Nat} :bI.XK t=env.XK t:=rfl
theorem aP {f:Nat} :bI.nd f=env.nd f:=rfl
theorem aE {t:Nat} :bI.YK t=env.YK t:=rfl
theorem aQ {f:Nat} :bI.px f=env.px f:=rfl
theorem aR {f i:Nat} :bI.fl f i=env.fl f i:=rfl
theorem aF {t:Nat} :bI.emp t=env.emp t:=rfl
theorem aG {f i:Nat} :bI.UI f i=env.UI f i:=rfl
theorem an {t:Nat} {m:String} :bI.Q1 t m=env.Q1 t m:=rfl
theorem aS {d t:Nat} :bI.ro d t=env.ro d t:=rfl
theorem cp8:fnS 104=some ([.sl (.sl MT),.LY],.bool):=rfl
theorem cp9:fnS 138=some ([.sl (.sl MT),.LY],.int .i64):=rfl
theorem cq0:fnS 105=env.fn 105:=rfl
theorem cq1:fnS 106=env.fn 106:=rfl
theorem gn:L6 bI:=by
 have h:=av;refine⟨h.ty,fun f As T hf=>?_,fun f As T hf=>?_,h.Nt,h.cmp,h.mapKey,h.mixed,h.XK,h.YK,h.emp,h.Q1⟩;all_goals rw[aN]at hf;unfold fnS at hf;by_cases h0:f=104;(·subst h0;injection hf with hf;injection hf with h1 h2;subst h1;subst h2;kernel_rfl);·by_cases h1:f=138;(·subst h1;injection hf with hf;injection hf with h1 h2;subst h1;subst h2;kernel_rfl);·rw[if_neg h0,if_neg h1]at hf;first|exact h.fn _ _ _ hf|exact h.res _ _ _ hf
theorem qq {f:Nat} {xs:List (Sigma Ty.den)} {T:Ty} {r:T.den} (h:PC env f xs T r):PC bI f xs T r:=h
def cq3(l:Slot):Prop:= ∃u:UInt8,l=[((u.toNat:Int),0)]∧97≤u.toNat∧u.toNat≤122
theorem cq7(u:UInt8)(hu:97≤u.toNat∧u.toNat≤122):PC bI 106 [⟨.sl MT,[((u.toNat:Int),0)]⟩] .bool true:=by
 refine PC.LU (m:=2000) gn ce2 rfl rfl rfl rfl (by kernel_rfl) ?_;intro hx;simp only[Tryz.f106];simp only[go_sem,zA,↓reduceIte,↓reduceDIte,zB,zC,zD,zE,zF,zG,zH,zI,cp8,cp9,cq0,cq1,a9,aM,aA,aB,aN,aC,ah,aO,al,aD,aP,aE,aQ,aR,aF,aG,an,aS]
 refine u1.Mp (X:=Nat) (fun(k:Nat)=>[(15,.iv (.int .i64) (k:Int)),(3,.any),(4,.any)]) (fun(k:Nat)=>[]) (fun(k:Nat)=>k≤1) (fun(k:Nat)=>1-k) 0 ?_;intro b1 b2 ao aq
 simp(config:= {maxSteps:=4000000})only[go_sem,zA,↓reduceIte,↓reduceDIte,zB,zC,zD,zE,zF,zG,zH,zI,cp8,cp9,cq0,cq1,a9,aM,aA,aB,aN,aC,ah,aO,al,aD,aP,aE,aQ,aR,aF,aG,an,aS]at ao aq
 subst ao;subst aq;refine⟨(by refine⟨?_,?_,rfl,rfl⟩<;>repeat' (first|exact trivial|exact Or.inl rfl|exact Or.inr rfl|apply aw|apply ax|apply ay|apply az|exact⟨(by show(_:Nat)<1000000000;omega),rfl,rfl⟩|rfl|(refine And.intro (Or.inl ?_) ?_)|(refine And.intro ?_ ?_))),?_,?_⟩
 (·exact Nat.zero_le _);intro k hk back;refine LP gn ⟨_,ce2,rfl⟩ 2000 _ _ (by kernel_rfl) ?_;simp only[go_sem,zA,↓reduceIte,↓reduceDIte,zB,zC,zD,zE,zF,zG,zH,zI,cp8,cp9,cq0,cq1,a9,aM,aA,aB,aN,aC,ah,aO,al,aD,aP,aE,aQ,aR,aF,aG,an,aS]
 refine⟨fun h=>?_,fun _=>trivial⟩;(have H4:k=0:=by omega);subst H4;refine⟨Int.natCast_nonneg 0,((u.toNat:Int),0),rfl,fun _=>⟨fun _=>⟨fun _=>⟨fun a=>absurd a (by dsimp only;omega),fun _=>⟨fun a=>absurd a (by omega),fun _=>?_⟩⟩,fun a=>absurd a (by dsimp only;omega)⟩,fun a=>absurd a (by dsimp only;omega)⟩,fun a=>absurd a (by dsimp only;omega)⟩
 exact⟨LN (by omega) (by omega),back _ 1 (by refine⟨?_,?_,rfl,rfl⟩<;>repeat' (first|exact trivial|exact Or.inl rfl|exact Or.inr rfl|apply aw|apply ax|apply ay|apply az|exact⟨(by show(_:Nat)<1000000000;omega),rfl,rfl⟩|rfl|(refine And.intro (Or.inl ?_) ?_)|(refine And.intro ?_ ?_))) (by omega) (by omega)⟩
theorem cr2(u:UInt8)(hu:97≤u.toNat∧u.toNat≤122):PC bI 105 [⟨.sl MT,[((u.toNat:Int),0)]⟩] .bool false:=by
 refine PC.LU (m:=2000) gn ce1 rfl rfl rfl rfl (by kernel_rfl) ?_;intro hx;simp only[Tryz.f105];simp only[go_sem,zA,↓reduceIte,↓reduceDIte,zB,zC,zD,zE,zF,zG,zH,zI,cp8,cp9,cq0,cq1,a9,aM,aA,aB,aN,aC,ah,aO,al,aD,aP,aE,aQ,aR,aF,aG,an,aS]
 exact⟨_,cq7 u hu,rfl⟩
theorem cq8(S:List Slot)(hS: ∀l,l∈S→cq3 l):PC bI 138 [⟨.sl (.sl MT),S⟩,⟨.LY,(105:Nat)⟩] (.int .i64) (-1):=by
 refine PC.LU (m:=2000) gn ce9 rfl rfl rfl rfl (by kernel_rfl) ?_;intro hx;simp only[Tryz.f138];simp only[go_sem,zA,↓reduceIte,↓reduceDIte,zB,zC,zD,zE,zF,zG,zH,zI,cp8,cp9,cq0,cq1,a9,aM,aA,aB,aN,aC,ah,aO,al,aD,aP,aE,aQ,aR,aF,aG,an,aS]
 refine u1.Mp (X:=Nat) (fun(k:Nat)=>[(8,.iv (.int .i64) (k:Int))]) (fun(k:Nat)=>[]) (fun(k:Nat)=>k≤S.length) (fun(k:Nat)=>S.length-k) 0 ?_;intro b1 b2 ao aq;simp(config:= {maxSteps:=4000000})only[go_sem,zA,↓reduceIte,↓reduceDIte,zB,zC,zD,zE,zF,zG,zH,zI,cp8,cp9,cq0,cq1,a9,aM,aA,aB,aN,aC,ah,aO,al,aD,aP,aE,aQ,aR,aF,aG,an,aS]at ao aq
 subst ao;subst aq;refine⟨(by refine⟨?_,?_,rfl,rfl⟩<;>repeat' (first|exact trivial|exact Or.inl rfl|exact Or.inr rfl|apply aw|apply ax|apply ay|apply az|exact⟨(by show(_:Nat)<1000000000;omega),rfl,rfl⟩|rfl|(refine And.intro (Or.inl ?_) ?_)|(refine And.intro ?_ ?_))),?_,?_⟩
 (·exact Nat.zero_le _);intro k hk back;refine LP gn ⟨_,ce9,rfl⟩ 2000 _ _ (by kernel_rfl) ?_;simp only[go_sem,zA,↓reduceIte,↓reduceDIte,zB,zC,zD,zE,zF,zG,zH,zI,cp8,cp9,cq0,cq1,a9,aM,aA,aB,aN,aC,ah,aO,al,aD,aP,aE,aQ,aR,aF,aG,an,aS]
 have hlen:S.length≤9223372036854775807:=hx.1.1;refine⟨fun h=>?_,fun h=>trivial⟩;obtain⟨l,hl⟩: ∃x,S[k]?=some x:=r3 (by omega);obtain⟨u,rfl,hu⟩:=hS l (List.mem_of_getElem? hl)
 refine⟨Int.natCast_nonneg k,_,hl,_,cr2 u hu,?_⟩;simp only[go_sem,zA,↓reduceIte,↓reduceDIte,zB,zC,zD,zE,zF,zG,zH,zI,cp8,cp9,cq0,cq1,a9,aM,aA,aB,aN,aC,ah,aO,al,aD,aP,aE,aQ,aR,aF,aG,an,aS]
 exact⟨LN (by omega) (by omega),back _ (k+1) (by refine⟨?_,?_,rfl,rfl⟩<;>repeat' (first|exact trivial|exact Or.inl rfl|exact Or.inr rfl|apply aw|apply ax|apply ay|apply az|exact⟨(by show(_:Nat)<1000000000;omega),rfl,rfl⟩|rfl|(refine And.intro (Or.inl ?_) ?_)|(refine And.intro ?_ ?_))) (by omega) (by omega)⟩
theorem cq4(S:List Slot)(hS: ∀l,l∈S→cq3 l):PC bI 104 [⟨.sl (.sl MT),S⟩,⟨.LY,(105:Nat)⟩] .bool false:=by
 refine PC.LU (m:=2000) gn ce0 rfl rfl rfl rfl (by kernel_rfl) ?_;intro hx;simp only[Tryz.f104];simp only[go_sem,zA,↓reduceIte,↓reduceDIte,zB,zC,zD,zE,zF,zG,zH,zI,cp8,cp9,cq0,cq1,a9,aM,aA,aB,aN,aC,ah,aO,al,aD,aP,aE,aQ,aR,aF,aG,an,aS]
 exact⟨_,cq8 S hS,fun _=>by decide⟩
theorem cp7(S:List Slot)(hS: ∀l,l∈S→cq3 l)(CU:S.length≤40):PC bI 57 [⟨.sl (.sl MT),S⟩] .bool true:=by
 refine PC.LU (m:=2000) gn ci4 rfl rfl rfl rfl (by kernel_rfl) ?_;intro hx;simp only[Tryz.f57];simp only[go_sem,zA,↓reduceIte,↓reduceDIte,zB,zC,zD,zE,zF,zG,zH,zI,cp8,cp9,cq0,cq1,a9,aM,aA,aB,aN,aC,ah,aO,al,aD,aP,aE,aQ,aR,aF,aG,an,aS]
 refine⟨fun h=>absurd h (by omega),fun _=>⟨_,cq4 S hS,?_⟩⟩;simp only[go_sem,zA,↓reduceIte,↓reduceDIte,zB,zC,zD,zE,zF,zG,zH,zI,cp8,cp9,cq0,cq1,a9,aM,aA,aB,aN,aC,ah,aO,al,aD,aP,aE,aQ,aR,aF,aG,an,aS]
end Go.Proofs.YtgpkijnphchkpaaGreat.cp3
namespace Go.Proofs.YtgpkijnphchkpaaGreat
theorem cp7(S:List Slot)(hS: ∀l,l∈S→ ∃u:UInt8,l=[((u.toNat:Int),0)]∧97≤u.toNat∧u.toNat≤122)(CU:S.length≤40):PC env 57 [⟨.sl (.sl MT),S⟩] .bool true:=cp3.cp7 S hS CU
end Go.Proofs.YtgpkijnphchkpaaGreat
namespace Go.Proofs.YtgpkijnphchkpaaGreat
attribute[local go_sem←]Bool.decide_and Bool.decide_or decide_not
attribute[local go_sem]PA ML
set_option maxHeartbeats 4000000
set_option maxRecDepth 100000
theorem cr8 {s:ag} {i:Nat} {x:UInt8} (h:s[i]?=some x):if x.toNat<128 then Utf8.decode ⟨s.toArray⟩ i=(x.toNat,1)else 128≤(Utf8.decode ⟨s.toArray⟩ i).1:=by
 (have hg:((⟨s.toArray⟩:ByteArray).get! (i+0)).toNat=x.toNat:=by obtain⟨hi,e⟩:=List.getElem?_eq_some_iff.1 h;show(s.toArray.getD i default).toNat=_;rw[Array.getD_eq_getD_getElem?];simp[h])
 unfold Utf8.decode;simp only[hg];split;(·rfl);·(repeat' split);all_goals first|(simp only[Utf8.runeError];omega)|(rename_i h';simp only[ge_iff_le,Bool.and_eq_true,decide_eq_true_eq]at h';omega)
theorem cr5(u:UInt8)(hu:97≤u.toNat∧u.toNat≤122):PC env 107 [⟨.str,[u]⟩] .bool true:=by
 refine PC.LU (m:=2000) av ce3 rfl rfl rfl rfl (by kernel_rfl) ?_;intro hx;simp only[Tryz.f107];simp only[go_sem,zA,↓reduceIte,↓reduceDIte,zB,zC,zD,zE,zF,zG,zH,zI]
 refine u1.Mp (X:=Nat) (fun(i:Nat)=>[]) (fun(i:Nat)=>[(6,.XJ [u] i)]) (fun(i:Nat)=>i≤1) (fun(i:Nat)=>1-i) 0 ?_;intro b1 b2 ao aq;simp(config:= {maxSteps:=4000000})only[go_sem,zA,↓reduceIte,↓reduceDIte,zB,zC,zD,zE,zF,zG,zH,zI]at ao aq
 subst ao;subst aq;refine⟨(by refine⟨?_,?_,rfl,rfl⟩<;>repeat' (first|exact trivial|exact Or.inl rfl|exact Or.inr rfl|apply aw|apply ax|apply ay|apply az|exact⟨(by show(_:Nat)<1000000000;omega),rfl,rfl⟩|rfl|(refine And.intro (Or.inl ?_) ?_)|(refine And.intro ?_ ?_))),?_,?_⟩
 (·exact Nat.zero_le _);intro i hi back;refine LP av ⟨_,ce3,rfl⟩ 2000 _ _ (by kernel_rfl) ?_;simp only[go_sem,zA,↓reduceIte,↓reduceDIte,zB,zC,zD,zE,zF,zG,zH,zI]
 refine⟨fun h=>?_,fun h=>trivial⟩;(have Jr:i=0:=by omega);subst Jr;have hd:=cr8 (s:=[u]) (i:=0) (x:=u) rfl;rw[if_pos (by omega)]at hd;rw[hd];exact⟨fun h1=>⟨fun h2=>absurd h2 (by dsimp only;omega),fun h2=>back _ 1 (by refine⟨?_,?_,rfl,rfl⟩<;>repeat' (first|exact trivial|exact Or.inl rfl|exact Or.inr rfl|apply aw|apply ax|apply ay|apply az|exact⟨(by show(_:Nat)<1000000000;omega),rfl,rfl⟩|rfl|(refine And.intro (Or.inl ?_) ?_)|(refine And.intro ?_ ?_))) (by omega) (by omega)⟩,fun h1=>absurd h1 (by dsimp only;omega)⟩
theorem cr6(u:UInt8)(hu:97≤u.toNat∧u.toNat≤122):PC env 58 [⟨Mv,cA u⟩] .bool true:=by
 unfold cA;refine PC.LU (m:=2000) av ci5 rfl rfl rfl rfl (by kernel_rfl) ?_;intro hx;simp only[Tryz.f58];simp only[go_sem,zA,↓reduceIte,↓reduceDIte,zB,zC,zD,zE,zF,zG,zH,zI]
 refine⟨_,cr5 u hu,?_⟩;simp only[go_sem,zA,↓reduceIte,↓reduceDIte,zB,zC,zD,zE,zF,zG,zH,zI];exact⟨fun _=>trivial,fun h=>absurd rfl h⟩
def cq2(n:Int):Int→List oi→Prop|_,[]=>True|e,p::P=>(e≤p.1∧p.1<p.2.1∧p.2.1≤n∧p.2.2= -1)∧cq2 n p.2.1 P
theorem cr3(P:List oi)(n:Int)(hn:0≤n∧n≤40)(hP:cq2 n 0 P):PC env 59 [⟨.sl Uy,P⟩,⟨.int .i64,n⟩] .bool true:=by
 refine PC.LU (m:=2000) av ci6 rfl rfl rfl rfl (by kernel_rfl) ?_;intro hx;simp only[Tryz.f59];simp only[go_sem,zA,↓reduceIte,↓reduceDIte,zB,zC,zD,zE,zF,zG,zH,zI]
 refine⟨fun _=>⟨fun a=>absurd a (by omega),fun _=>?_⟩,fun a=>absurd a (by omega)⟩;refine u1.Mp (X:=Nat×Int) (fun(z:Nat×Int)=>[(16,.iv (.int .i64) (z.1:Int)),(5,.iv (.int .i64) z.2),(6,.any),(7,.any)]) (fun(z:Nat×Int)=>[]) (fun(z:Nat×Int)=>z.1≤P.length∧cq2 n z.2 (P.drop z.1)) (fun(z:Nat×Int)=>P.length-z.1) (0,0) ?_
 intro b1 b2 ao aq;simp(config:= {maxSteps:=4000000})only[go_sem,zA,↓reduceIte,↓reduceDIte,zB,zC,zD,zE,zF,zG,zH,zI]at ao aq;subst ao;subst aq;refine⟨(by refine⟨?_,?_,rfl,rfl⟩<;>repeat' (first|exact trivial|exact Or.inl rfl|exact Or.inr rfl|apply aw|apply ax|apply ay|apply az|exact⟨(by show(_:Nat)<1000000000;omega),rfl,rfl⟩|rfl|(refine And.intro (Or.inl ?_) ?_)|(refine And.intro ?_ ?_))),?_,?_⟩
 (·exact⟨Nat.zero_le _,hP⟩);intro⟨k,e⟩⟨hk,hg⟩back;dsimp only at hk hg;refine LP av ⟨_,ci6,rfl⟩ 2000 _ _ (by kernel_rfl) ?_;simp only[go_sem,zA,↓reduceIte,↓reduceDIte,zB,zC,zD,zE,zF,zG,zH,zI]
 refine⟨fun h=>?_,fun h=>trivial⟩;obtain⟨p,hp⟩: ∃x,P[k]?=some x:=r3 (by omega);have EM:P.length≤9223372036854775807:=hx.1.1;rw[drop_cons hp]at hg;obtain⟨⟨g1,g2,g3,g4⟩,g5⟩:=hg
 refine⟨Int.natCast_nonneg k,p,hp,fun _=>⟨fun _=>⟨fun a=>absurd a (by omega),fun _=>⟨fun _=>⟨fun a=>absurd a (by omega),fun _=>?_⟩,fun a=>absurd a (by omega)⟩⟩,fun a=>absurd a (by omega)⟩,fun a=>absurd a (by omega)⟩
 exact⟨LN (by omega) (by omega),back _ (k+1,p.2.1) (by refine⟨?_,?_,rfl,rfl⟩<;>repeat' (first|exact trivial|exact Or.inl rfl|exact Or.inr rfl|apply aw|apply ax|apply ay|apply az|exact⟨(by show(_:Nat)<1000000000;omega),rfl,rfl⟩|rfl|(refine And.intro (Or.inl ?_) ?_)|(refine And.intro ?_ ?_))) ⟨by dsimp only;omega,g5⟩ (by dsimp only;omega)⟩
theorem cq9(E:List Ev)(S:List Slot)(P:List oi)(hE: ∀e,e∈E→ ∃u:UInt8,e=cA u∧97≤u.toNat∧u.toNat≤122)(hS: ∀l,l∈S→ ∃u:UInt8,l=[((u.toNat:Int),0)]∧97≤u.toNat∧u.toNat≤122)(hl:S.length=E.length)(CU:E.length≤40)(hP:cq2 (E.length:Int) 0 P):PC env 29 [⟨Ok,(E,S,(E.length:Int),P,0)⟩] .bool true:=by
 have u3:=cr3 P (S.length:Int) (by omega) (by rw[hl];exact hP);refine PC.LU (m:=2000) av ci2 rfl rfl rfl rfl (by kernel_rfl) ?_;intro hx;simp only[Tryz.f29];simp only[go_sem,zA,↓reduceIte,↓reduceDIte,zB,zC,zD,zE,zF,zG,zH,zI]
 refine⟨fun _=>⟨fun _=>⟨_,cp7 S hS (by omega),?_⟩,fun a=>absurd (by omega) a⟩,fun a=>absurd a (by omega)⟩;simp only[go_sem,zA,↓reduceIte,↓reduceDIte,zB,zC,zD,zE,zF,zG,zH,zI]
 refine u1.Mp (X:=Nat) (fun(k:Nat)=>[(27,.iv (.int .i64) (k:Int)),(4,.any),(5,.any)]) (fun(k:Nat)=>[]) (fun(k:Nat)=>k≤E.length) (fun(k:Nat)=>E.length-k) 0 ?_;intro b1 b2 ao aq
 simp(config:= {maxSteps:=4000000})only[go_sem,zA,↓reduceIte,↓reduceDIte,zB,zC,zD,zE,zF,zG,zH,zI]at ao aq;subst ao;subst aq;refine⟨(by refine⟨?_,?_,rfl,rfl⟩<;>repeat' (first|exact trivial|exact Or.inl rfl|exact Or.inr rfl|apply aw|apply ax|apply ay|apply az|exact⟨(by show(_:Nat)<1000000000;omega),rfl,rfl⟩|rfl|(refine And.intro (Or.inl ?_) ?_)|(refine And.intro ?_ ?_))),?_,?_⟩
 (·exact Nat.zero_le _);intro k hk back;refine LP av ⟨_,ci2,rfl⟩ 2000 _ _ (by kernel_rfl) ?_;simp only[go_sem,zA,↓reduceIte,↓reduceDIte,zB,zC,zD,zE,zF,zG,zH,zI]
 refine⟨fun h=>?_,fun h=>?_⟩;(·obtain⟨e,he⟩: ∃x,E[k]?=some x:=r3 (by omega);obtain⟨u,rfl,hu⟩:=hE e (List.mem_of_getElem? he);refine⟨Int.natCast_nonneg k,_,he,?_⟩;have hv:=cr6 u hu;refine⟨fun _=>⟨fun _=>⟨_,hv,?_⟩,fun a=>absurd a (by show¬(4:Int)<1;decide)⟩,fun a=>absurd a (by show¬(1:Int)<1;decide)⟩;simp only[go_sem,zA,↓reduceIte,↓reduceDIte,zB,zC,zD,zE,zF,zG,zH,zI];exact⟨LN (by omega) (by omega),back _ (k+1) (by refine⟨?_,?_,rfl,rfl⟩<;>repeat' (first|exact trivial|exact Or.inl rfl|exact Or.inr rfl|apply aw|apply ax|apply ay|apply az|exact⟨(by show(_:Nat)<1000000000;omega),rfl,rfl⟩|rfl|(refine And.intro (Or.inl ?_) ?_)|(refine And.intro ?_ ?_))) (by omega) (by omega)⟩)
 ·refine⟨fun _=>⟨fun _=>⟨_,u3,?_⟩,fun a=>absurd (by omega) a⟩,fun a=>absurd (by omega) a⟩;simp only[go_sem,zA,↓reduceIte,↓reduceDIte,zB,zC,zD,zE,zF,zG,zH,zI]
end Go.Proofs.YtgpkijnphchkpaaGreat
namespace Go.Proofs.YtgpkijnphchkpaaGreat
attribute[local go_sem←]Bool.decide_and Bool.decide_or decide_not
attribute[local go_sem]PA ML
set_option maxHeartbeats 4000000
set_option maxRecDepth 100000
set_option synthInstance.maxHeartbeats 400000
set_option synthInstance.maxSize 2000
def cr4(n:Int):Int→List oi→Bool|_,[]=>true|e,p::P=>decide (e≤p.1∧p.1<p.2.1∧p.2.1≤n∧p.2.2= -1)&&cr4 n p.2.1 P
theorem cr0 {n:Int} : ∀ {e:Int} {P:List oi},cr4 n e P=true→cq2 n e P|_,[],_=>trivial|e,p::P,h=>by unfold cr4 at h;rw[Bool.and_eq_true,decide_eq_true_eq]at h;exact⟨h.1,cr0 h.2⟩
def abB(m:Nat)(r:ka×Int):Bool:=if 20<m then decide (r.2=2)else decide (r.2=0)&&decide (r.1.2.1.length=r.1.1.length∧r.1.2.2.1=r.1.1.length∧r.1.2.2.2.2=0∧r.1.1.length=2*m∧r.1.2.2.2.1.length=m)&&r.1.1.all (fun e=>decide (e=cA 97)||decide (e=cA 98))&&r.1.2.1.all (fun l=>decide (l=[(97,0)])||decide (l=[(98,0)]))&&cr4 r.1.1.length 0 r.1.2.2.2.1
theorem cr9:(List.range 25).all (fun m=>abB m (bB dy (List.replicate m [65,66])))=true:=by decide+kernel
theorem cr7(s:a8)(w:ag):((cH s w).2=90)↔Ov w=false:=by unfold cH;by_cases h:Ov w=true;(·rw[if_pos h,h];split<;>simp);·rw[if_neg h];simp at h;simp[h]
theorem cq6(x:my)(t:ag)(n:Int):PC env 7 [⟨QW,x⟩,⟨.str,t⟩,⟨.int .u8,n⟩] .bool true:=by
 refine PC.LU (m:=2000) av cj8 rfl rfl rfl rfl (by kernel_rfl) ?_;intro hx;simp only[Tryz.f7];simp only[go_sem,zA,↓reduceIte,↓reduceDIte,zB,zC,zD,zE,zF,zG,zH,zI]
 obtain⟨bm,BM,h9⟩:=lQ x;(have hv:(ck (bL x)).2=0:=by rw[iQ bm]);have hE:=fa (bL x) bm hv;refine⟨_,dz,_,oe x,fun _=>?_⟩;have he:=cr7 (bL x);generalize bL x=s at*
 have hn:0≤n∧n≤255:=hx.2.2.1;refine⟨⟨by omega,by omega⟩,?_⟩;generalize t.take (min (t.length:Int) 24).toNat=v;(have heq: ∀w,(decide ((cH s w).2=90)==Ov w)=false:=fun w=>by cases hw:Ov w;(·rw[decide_eq_true ((he w).2 hw)];rfl);·rw[decide_eq_false (fun h=>by rw[(he w).1 h]at hw;cases hw)];rfl)
 have oE:Int.tmod n 25=n%25:=Int.tmod_eq_emod_of_nonneg hn.1;have fC:=cr9;rw[List.all_eq_true]at fC;have hB:=fun m(hm:m≤24)=>jP dy fc jg (List.replicate m [65,66]) (by rw[List.length_replicate];omega)
 have fC:=fun m(hm:m≤24)=>fC m (List.mem_range.2 (by omega));refine⟨fun h1=>⟨_,PC.dec (UD v),?_⟩,fun h1=>?_⟩;simp only[go_sem,zA,↓reduceIte,↓reduceDIte,zB,zC,zD,zE,zF,zG,zH,zI]
 refine⟨fun _=>⟨by omega,_,hE (v.take 4),fun _=>⟨_,UD _,?_⟩⟩,fun _=>⟨_,hE v,fun _=>⟨_,UD _,?_⟩⟩⟩;rotate_left 2;refine⟨_,hE v,fun _=>⟨_,UD _,?_⟩⟩;all_goals rw[heq];simp only[go_sem,zA,↓reduceIte,↓reduceDIte,zB,zC,zD,zE,zF,zG,zH,zI];refine u1.Mp (X:=Nat) (fun(i:Nat)=>[(12,.iv (.int .i64) (i:Int)),(11,.LV 43),(43,.any)]) (fun(i:Nat)=>[(43,.arr .str (List.replicate i [65,66]))]) (fun(i:Nat)=>i≤24∧(i:Int)≤n%25) (fun(i:Nat)=>24-i) 0 ?_;intro b1 b2 ao aq;simp(config:= {maxSteps:=4000000})only[go_sem,zA,↓reduceIte,↓reduceDIte,zB,zC,zD,zE,zF,zG,zH,zI]at ao aq;subst ao;subst aq;refine⟨(by refine⟨?_,?_,rfl,rfl⟩<;>repeat' (first|exact trivial|exact Or.inl rfl|exact Or.inr rfl|apply aw|apply ax|apply ay|apply az|exact⟨(by show(_:Nat)<1000000000;omega),rfl,rfl⟩|rfl|(refine And.intro (Or.inl ?_) ?_)|(refine And.intro ?_ ?_))),?_,?_⟩;(·exact⟨Nat.zero_le _,by omega⟩);intro i⟨hi,cQ⟩back;refine LP av ⟨_,cj8,rfl⟩ 2000 _ _ (by kernel_rfl) ?_;simp only[go_sem,zA,↓reduceIte,↓reduceDIte,zB,zC,zD,zE,zF,zG,zH,zI];rw[oE];refine⟨fun h2=>?_,fun h2=>?_⟩;(·refine⟨Nat.le_trans (show(List.replicate i ([65,66]:ag)).length≤24 by rw[List.length_replicate];exact hi) (by decide),LN (by omega) (by omega),?_⟩;have cp4:List.replicate i ([65,66]:ag)++ [bytesOf { data:= #[65,66] }]=List.replicate (i+1) [65,66]:=(List.replicate_succ' ..).symm;rw[cp4];exact back _ (i+1) (by refine⟨?_,?_,rfl,rfl⟩<;>repeat' (first|exact trivial|exact Or.inl rfl|exact Or.inr rfl|apply aw|apply ax|apply ay|apply az|exact⟨(by show(_:Nat)<1000000000;omega),rfl,rfl⟩|rfl|(refine And.intro (Or.inl ?_) ?_)|(refine And.intro ?_ ?_))) ⟨by omega,by omega⟩ (by omega));·have hBi:=hB i hi;have hai:=fC i hi;generalize bB dy (List.replicate i [65,66])=r at hBi hai;obtain⟨⟨E,S,c,P,ch⟩,e⟩:=r;refine⟨_,jf,fun _=>⟨_,hBi,fun _=>?_⟩⟩;unfold abB at hai;dsimp only at hai⊢;rw[List.length_replicate];by_cases h20:20<i;(·rw[if_pos h20,decide_eq_true_eq]at hai;exact⟨fun _=>⟨fun _=>trivial,fun a=>absurd hai a⟩,fun a=>absurd (by omega) a⟩);·rw[if_neg h20]at hai;simp only[Bool.and_eq_true,decide_eq_true_eq,List.all_eq_true,Bool.or_eq_true]at hai;obtain⟨⟨⟨⟨a0,a1,a2,a3,a4,a5⟩,a6⟩,cp5⟩,cp6⟩:=hai;subst a0;subst a2;subst a3;have Ij:=cq9 E S P (fun e he=>by rcases a6 e he with h|h;(·exact⟨97,h,by decide,by decide⟩);·exact⟨98,h,by decide,by decide⟩) (fun l hl=>by rcases cp5 l hl with h|h;(·exact⟨97,h,by decide,by decide⟩);·exact⟨98,h,by decide,by decide⟩) a1 (by omega) (cr0 cp6);refine⟨fun a=>absurd a (by omega),fun _=>⟨fun _=>⟨LN (by omega) (by omega),fun _=>⟨fun _=>⟨_,Ij,?_⟩,fun a=>absurd (by omega) a⟩,fun a=>absurd (by omega) a⟩,fun a=>absurd rfl a⟩⟩;simp only[go_sem,zA,↓reduceIte,↓reduceDIte,zB,zC,zD,zE,zF,zG,zH,zI]
end Go.Proofs.YtgpkijnphchkpaaGreat
namespace Go.Proofs.YtgpkijnphchkpaaGreat
open Go.ChangeShapes Go.WideShapes Go.ChangeAt Go.RowKit
theorem jh:ownKnob Tryz.prog.godebug=none:=by kernel_rfl
theorem ji:laidOutB env.P=true:=by kernel_rfl
theorem cr1(xs:List (Sigma Ty.den))(h:xs.map (·.1)=[QW,.str,.int .u8]):PC env 7 xs .bool true:=by
 match xs,h with|[⟨_,y0⟩,⟨_,y1⟩,⟨_,y2⟩],h=>injection h with h1 h;injection h with h2 h;injection h with h3 h;dsimp only at h1 h2 h3;subst h1 h2 h3;exact cq6 y0 y1 y2
set_option maxRecDepth 100000 in theorem cq5(os:Os)(started:os.Started)(H:Type)(enc:TypeId×Value→H):ReturnsInHanded {} Tryz.checked os 7 .any (Rows.retakeRefusesSpec.pre6 enc Tryz.prog Tryz.f7 Rows.retakeRefusesRow.domain false) (Rows.retakeRefusesSpec.post enc Tryz.prog Tryz.f7 false true false false):=by
 refine returnsInHanded_of_change (C:=Tryz.checked) jh started (by kernel_rfl) cj8 (ChangeSpec.witness6 (enc:=enc) (C:=Tryz.checked) false ⟨#[],#[.agg #[.int .u8 0,.int .u8 0,.slice none 0 0],.string ⟨#[]⟩,.int .u8 0],[]⟩ 8 (by kernel_rfl) (by kernel_rfl) (by kernel_rfl) (by kernel_rfl)) ?_
 intro W base args ds gs before eu hW _ _;refine fZ (E:=env) (b0:=base) (Ts:=[QW,.str,.int .u8]) (tb:=4) av ji (of_decide_eq_true (by kernel_rfl)) rfl rfl rfl (by kernel_rfl) rfl ?_ cr1 (fun g hg=>by cases hg) eu hW
 intro ds Cv;match ds,Cv with|[d0,d1,d2],_=>rfl
theorem refuses_holds:Rows.RetakeRefusesSaid:=OpenClaim.holds_of_wide 7 Tryz.f7 rfl rfl rfl rfl rfl rfl rfl ⟨rfl,rfl,rfl,rfl,rfl⟩ rfl rfl rfl rfl rfl (by kernel_rfl) cj8 (by kernel_rfl) (of_decide_eq_true (by kernel_rfl)) (by unfold Func.isWrapper;first|(rw[if_pos (by decide+kernel)];kernel_rfl)|(rw[if_neg (by decide+kernel)];exact⟨rfl,rfl⟩)) (fun os started H enc _=>cq5 os started H enc)
end Go.Proofs.YtgpkijnphchkpaaGreat
