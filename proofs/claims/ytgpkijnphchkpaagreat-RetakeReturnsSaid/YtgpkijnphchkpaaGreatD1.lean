/- Plain facts: the first of the cheapest routes between an input and a text. Nothing here is trusted; no condition. -/
import Derived.Test.YtgpkijnphchkpaaGreatC5
set_option linter.unusedSimpArgs false
set_option linter.unusedVariables false
open Nat renaming reduceBEq→zA,reduceAdd→zB,reduceSub→zC,reduceMul→zD,reduceLeDiff→zE
open Int renaming reduceLT→zF,reduceLE→zG,reduceToNat→zH,reduceNeg→zI
namespace Go.Proofs.YtgpkijnphchkpaaGreat
attribute[local go_sem←]Bool.decide_and Bool.decide_or decide_not
attribute[local go_sem]fg bz ne_eq not_false_eq_true
set_option maxHeartbeats 4000000
set_option maxRecDepth 100000
def zp(s:cB):Bool:=u5 s.1 1 8&&u5 s.2.1 1 (2^s.1.toNat-1)&&decide (s.2.2.length≤64)
def zq(n:Int)(l:List Rl):Nat→Nat→Int×Int|0,_=>((l.length:Int),0)|k+1,i=>if eB n l i=true then zq n l k (i+1)else((i:Int),20)
def eP(s:cB):Int×Int:=if zp s=true then zq s.1 s.2.2 s.2.2.length 0 else(-1,20)
theorem K1 {n:Int} {l:List Rl} : ∀ {k i:Nat},(zq n l k i).2=0→ ∀j,i≤j→j<i+k→eB n l j=true|0,i,_,j,h1,h2=>(by omega)|k+1,i,h,j,h1,h2=>by unfold zq at h;split at h;(·rename_i hr;by_cases hj:j=i;(·subst hj;exact hr);·exact K1 h j (by omega) (by omega));·simp at h
theorem we {n:Int} {l:List Rl} {i:Nat} (h:eB n l i=true): ∃r,l[i]?=some r∧r∉l.take i∧cS n r=true:=by
 unfold eB at h;split at h;(·rename_i r hr;rw[Bool.and_eq_true,decide_eq_true_eq]at h;exact⟨r,hr,h⟩);·cases h
theorem SV {s:cB} (h:(eP s).2=0):ij s:=by
 unfold eP at h;split at h;(·rename_i hh;simp only[zp,u5,Bool.and_eq_true,decide_eq_true_eq]at hh;have bk: ∀j,j<s.2.2.length→eB s.1 s.2.2 j=true:=fun j hj=>K1 h j (Nat.zero_le _) (by omega);refine⟨hh.1.1.1,hh.1.1.2,hh.1.2.1,hh.1.2.2,hh.2,fun r hr=>?_,?_⟩;(·obtain⟨j,hj⟩:=List.getElem?_of_mem hr;obtain⟨r',h1,_,h2⟩:=we (bk j (List.getElem?_eq_some_iff.1 hj).1);rw[hj]at h1;injection h1 with h1;rw[h1];exact h2);·refine List.pairwise_iff_getElem.2 fun i j hi hj fi he=>?_;obtain⟨r,h1,h2,_⟩:=we (bk j hj);refine h2 ?_;rw[List.getElem?_eq_getElem hj]at h1;injection h1 with h1;rw[←h1,←he];exact List.mem_of_getElem? (i:=i) (by rw[List.getElem?_take_of_lt fi];exact List.getElem?_eq_getElem hi))
 ·simp at h
theorem aV8: ∀m:Nat,m<9→(2:Int)^m≤256:=by decide
def Ni(c:Int):Int:=if 97≤c∧c≤122 then 1 else if 65≤c∧c≤90 then 2 else if 48≤c∧c≤57 then 3 else 0
theorem xj(c:Int):PC env 119 [⟨.int .u8,c⟩] (.int .i64) (Ni c):=by
 refine PC.ay (m:=2000) ae Sv rfl rfl rfl rfl (by kernel_rfl) ?_;intro hx;simp only[Tryz.f119];simp only[go_sem,zA,↓reduceIte,↓reduceDIte,zB,zC,zD,zE,zF,zG,zH,zI]
 unfold Ni;(repeat' (first|(with_reducible intro _)|(with_reducible apply And.intro)));all_goals(split<;>first|rfl|omega|(split<;>first|rfl|omega|(split<;>first|rfl|omega)))
theorem K3(u:UInt8):(Ni u.toNat=1)↔low u=true:=by
 unfold Ni low;rw[decide_eq_true_eq];split;(·rename_i h;exact⟨fun _=>by omega,fun _=>rfl⟩);·rename_i h;split;(·exact⟨fun h=>by simp at h,fun h2=>by omega⟩);·split;(·exact⟨fun h=>by simp at h,fun h2=>by omega⟩);·exact⟨fun h=>by simp at h,fun h2=>by omega⟩
theorem K4(u:UInt8):(Ni u.toNat=0)↔ze u=false:=by
 unfold Ni ze;rw[decide_eq_false_iff_not];split;(·rename_i h;exact⟨fun h=>by simp at h,fun h2=>absurd (by omega) h2⟩);·split;(·rename_i h;exact⟨fun h=>by simp at h,fun h2=>absurd (by omega) h2⟩);·split;(·rename_i h;exact⟨fun h=>by simp at h,fun h2=>absurd (by omega) h2⟩);·exact⟨fun _=>by omega,fun _=>rfl⟩
theorem zr(s:aI):PC env 111 [⟨.str,s⟩] .bool (s.all low):=by
 refine PC.ay (m:=2000) ae Ss rfl rfl rfl rfl (by kernel_rfl) ?_;intro hx;simp only[Tryz.f111];simp only[go_sem,zA,↓reduceIte,↓reduceDIte,zB,zC,zD,zE,zF,zG,zH,zI]
 have hlen:s.length≤9223372036854775807:=hx.1;refine ah.bE (X:=Nat) (fun(i:Nat)=>[(6,.iv (.int .i64) (i:Int)),(3,.any)]) (fun(i:Nat)=>[]) (fun(i:Nat)=>i≤s.length∧(s.take i).all low=true) (fun(i:Nat)=>s.length-i) 0 ?_
 intro b1 b2 ba bq;simp(config:= {maxSteps:=4000000})only[go_sem,zA,↓reduceIte,↓reduceDIte,zB,zC,zD,zE,zF,zG,zH,zI]at ba bq;subst ba;subst bq;refine⟨(by refine⟨?_,?_,rfl,rfl⟩<;>repeat' (first|exact trivial|exact Or.inl rfl|exact Or.inr rfl|apply br|apply bt|apply bu|apply bA|exact⟨(by show(_:Nat)<1000000000;omega),rfl,rfl⟩|rfl|(refine And.intro (Or.inl ?_) ?_)|(refine And.intro ?_ ?_))),?_,?_⟩
 (·exact⟨Nat.zero_le _,rfl⟩);intro i⟨hi,hb⟩back;refine av ae ⟨_,Ss,rfl⟩ 2000 _ _ (by kernel_rfl) ?_;simp only[go_sem,zA,↓reduceIte,↓reduceDIte,zB,zC,zD,zE,zF,zG,zH,zI]
 refine⟨fun h=>?_,fun h=>?_⟩;(·obtain⟨x,dv⟩: ∃x,s[i]?=some x:=an (by omega);refine⟨Int.natCast_nonneg _,_,⟨x,dv,rfl⟩,_,xj x.toNat,fun _=>⟨fun g=>?_,fun g=>?_⟩⟩;(·rw[rF dv (by cases hl:low x with|false=>rfl|true=>exact absurd ((K3 x).2 hl) g)]);·exact⟨aw (by omega) (by omega),back _ (i+1) (by refine⟨?_,?_,rfl,rfl⟩<;>repeat' (first|exact trivial|exact Or.inl rfl|exact Or.inr rfl|apply br|apply bt|apply bu|apply bA|exact⟨(by show(_:Nat)<1000000000;omega),rfl,rfl⟩|rfl|(refine And.intro (Or.inl ?_) ?_)|(refine And.intro ?_ ?_))) ⟨by omega,by rw[lh dv,hb,(K3 x).1 (by omega)];rfl⟩ (by omega)⟩)
 ·rw[List.take_of_length_le (by omega)]at hb;rw[hb]
theorem zt(s:aI):PC env 75 [⟨.str,s⟩] .bool (s.all ze):=by
 refine PC.ay (m:=2000) ae KT rfl rfl rfl rfl (by kernel_rfl) ?_;intro hx;simp only[Tryz.f75];simp only[go_sem,zA,↓reduceIte,↓reduceDIte,zB,zC,zD,zE,zF,zG,zH,zI]
 have hlen:s.length≤9223372036854775807:=hx.1;refine ah.bE (X:=Nat) (fun(i:Nat)=>[(6,.iv (.int .i64) (i:Int)),(3,.any)]) (fun(i:Nat)=>[]) (fun(i:Nat)=>i≤s.length∧(s.take i).all ze=true) (fun(i:Nat)=>s.length-i) 0 ?_
 intro b1 b2 ba bq;simp(config:= {maxSteps:=4000000})only[go_sem,zA,↓reduceIte,↓reduceDIte,zB,zC,zD,zE,zF,zG,zH,zI]at ba bq;subst ba;subst bq;refine⟨(by refine⟨?_,?_,rfl,rfl⟩<;>repeat' (first|exact trivial|exact Or.inl rfl|exact Or.inr rfl|apply br|apply bt|apply bu|apply bA|exact⟨(by show(_:Nat)<1000000000;omega),rfl,rfl⟩|rfl|(refine And.intro (Or.inl ?_) ?_)|(refine And.intro ?_ ?_))),?_,?_⟩
 (·exact⟨Nat.zero_le _,rfl⟩);intro i⟨hi,hb⟩back;refine av ae ⟨_,KT,rfl⟩ 2000 _ _ (by kernel_rfl) ?_;simp only[go_sem,zA,↓reduceIte,↓reduceDIte,zB,zC,zD,zE,zF,zG,zH,zI]
 refine⟨fun h=>?_,fun h=>?_⟩;(·obtain⟨x,dv⟩: ∃x,s[i]?=some x:=an (by omega);refine⟨Int.natCast_nonneg _,_,⟨x,dv,rfl⟩,_,xj x.toNat,fun _=>⟨fun g=>?_,fun g=>?_⟩⟩;(·rw[rF dv ((K4 x).1 g)]);·exact⟨aw (by omega) (by omega),back _ (i+1) (by refine⟨?_,?_,rfl,rfl⟩<;>repeat' (first|exact trivial|exact Or.inl rfl|exact Or.inr rfl|apply br|apply bt|apply bu|apply bA|exact⟨(by show(_:Nat)<1000000000;omega),rfl,rfl⟩|rfl|(refine And.intro (Or.inl ?_) ?_)|(refine And.intro ?_ ?_))) ⟨by omega,by rw[lh dv,hb];cases hl:ze x with|true=>rfl|false=>exact absurd ((K4 x).2 hl) g⟩ (by omega)⟩)
 ·rw[List.take_of_length_le (by omega)]at hb;rw[hb]
theorem ai2(n:Int)(r:Rl):PC env 163 [⟨.int .i64,n⟩,⟨bg,r⟩] .bool (cS n r):=by
 obtain⟨f,t,i,o,c⟩:=r;refine PC.ay (m:=2000) ae aT4 rfl rfl rfl rfl (by kernel_rfl) ?_;intro hx;simp only[Tryz.f163];simp only[go_sem,zA,↓reduceIte,↓reduceDIte,zB,zC,zD,zE,zF,zG,zH,zI]
 have d3:=(zr i).dec;have d4:=(zt o).dec;have hR:cS n (f,t,i,o,c)=(u5 f 0 (n-1)&&u5 t 0 (n-1)&&decide (i.length≤4)&&i.all low&&decide (o.length≤4)&&o.all ze&&u5 c 0 1000):=rfl
 rw[hR];generalize i.all low=b3 at*;generalize o.all ze=b4 at*;(repeat' (first|(with_reducible intro _)|(with_reducible apply And.intro)|(with_reducible refine⟨_,d3,?_⟩;try simp only[go_sem,zA,↓reduceIte,↓reduceDIte,zB,zC,zD,zE,zF,zG,zH,zI])|(with_reducible refine⟨_,d4,?_⟩;try simp only[go_sem,zA,↓reduceIte,↓reduceDIte,zB,zC,zD,zE,zF,zG,zH,zI])|fail))
 all_goals first|omega|(simp_all[u5];try omega)
def ixL:List Rl→Rl→Nat→Int|[],_,_=> -1|x::l,r,i=>if r=x then(i:Int)else ixL l r (i+1)
theorem K5 {r:Rl} : ∀ {l:List Rl} {i:Nat},(0≤ixL l r i)↔r∈l|[],i=>(by simp[ixL])|x::l,i=>by unfold ixL;split;(·rename_i h;subst h;simp);·rename_i h;rw[K5];simp[h]
theorem DO(l:List Rl)(r:Rl):PC env 178 [⟨.sl bg,l⟩,⟨bg,r⟩] (.int .i64) (ixL l r 0):=by
 refine PC.ay (m:=2000) ae SG rfl rfl rfl rfl (by kernel_rfl) ?_;intro hx;simp only[Tryz.f178];simp only[go_sem,zA,↓reduceIte,↓reduceDIte,zB,zC,zD,zE,zF,zG,zH,zI]
 have hlen:l.length≤9223372036854775807:=hx.1.1;obtain⟨T,hT⟩: ∃T,T=ixL l r 0:=⟨_,rfl⟩;rw[←hT];refine ah.bE (X:=Nat) (fun(i:Nat)=>[(8,.iv (.int .i64) (i:Int)),(5,.any)]) (fun(i:Nat)=>[]) (fun(i:Nat)=>i≤l.length∧ixL (l.drop i) r i=T) (fun(i:Nat)=>l.length-i) 0 ?_
 intro b1 b2 ba bq;simp(config:= {maxSteps:=4000000})only[go_sem,zA,↓reduceIte,↓reduceDIte,zB,zC,zD,zE,zF,zG,zH,zI]at ba bq;subst ba;subst bq;refine⟨(by refine⟨?_,?_,rfl,rfl⟩<;>repeat' (first|exact trivial|exact Or.inl rfl|exact Or.inr rfl|apply br|apply bt|apply bu|apply bA|exact⟨(by show(_:Nat)<1000000000;omega),rfl,rfl⟩|rfl|(refine And.intro (Or.inl ?_) ?_)|(refine And.intro ?_ ?_))),?_,?_⟩
 (·exact⟨Nat.zero_le _,hT.symm⟩);clear hT;intro i⟨hi,hT⟩back;refine av ae ⟨_,SG,rfl⟩ 2000 _ _ (by kernel_rfl) ?_;simp only[go_sem,zA,↓reduceIte,↓reduceDIte,zB,zC,zD,zE,zF,zG,zH,zI]
 refine⟨fun h=>?_,fun h=>?_⟩;(·obtain⟨x,dv⟩: ∃x,l[i]?=some x:=an (by omega);rw[drop_cons dv,ixL]at hT;refine⟨Int.natCast_nonneg _,x,dv,fun g=>?_,fun g=>?_⟩;(·rw[if_pos (by obtain⟨e1,e2,e3,e4,e5⟩:=g;exact Prod.ext e1 (Prod.ext e2 (Prod.ext e3 (Prod.ext e4 e5))))]at hT;exact hT);·rw[if_neg (fun e=>g (by subst e;exact⟨rfl,rfl,rfl,rfl,rfl⟩))]at hT;exact⟨aw (by omega) (by omega),back _ (i+1) (by refine⟨?_,?_,rfl,rfl⟩<;>repeat' (first|exact trivial|exact Or.inl rfl|exact Or.inr rfl|apply br|apply bt|apply bu|apply bA|exact⟨(by show(_:Nat)<1000000000;omega),rfl,rfl⟩|rfl|(refine And.intro (Or.inl ?_) ?_)|(refine And.intro ?_ ?_))) ⟨by omega,hT⟩ (by omega)⟩)
 ·rw[List.drop_of_length_le (by omega)]at hT;exact hT
theorem rN(l:List Rl)(r:Rl):PC env 164 [⟨.sl bg,l⟩,⟨bg,r⟩] .bool (decide (r∈l)):=by
 refine PC.ay (m:=2000) ae aT5 rfl rfl rfl rfl (by kernel_rfl) ?_;intro hx;simp only[Tryz.f164];simp only[go_sem,zA,↓reduceIte,↓reduceDIte,zB,zC,zD,zE,zF,zG,zH,zI]
 refine⟨_,DO l r,fun _=>?_⟩;exact decide_eq_decide.2 K5
theorem ai3(s:cB):PC env 143 [⟨al,s⟩] (.bn (.int .i64) (.int .i64)) (eP s):=by
 obtain⟨n,a,rs⟩:=s;refine PC.ay (m:=2000) ae SB rfl rfl rfl rfl (by kernel_rfl) ?_;intro hx;simp only[Tryz.f143];simp only[go_sem,zA,↓reduceIte,↓reduceDIte,zB,zC,zD,zE,zF,zG,zH,zI]
 (have n6:zp (n,a,rs)=false→((-1:Int),(20:Int))=eP (n,a,rs):=fun h=>by unfold eP;rw[h];rfl);have hd:zp (n,a,rs)=(u5 n 1 8&&u5 a 1 (2^n.toNat-1)&&decide (rs.length≤64)):=rfl
 refine⟨fun g1=>⟨fun g2=>⟨fun g3=>n6 ?_,fun g3=>⟨fun g4=>?_,fun g4=>n6 ?_⟩⟩,fun g2=>n6 ?_⟩,fun g1=>n6 ?_⟩;(·rw[hd];simp;omega);(·have bt1:(2:Int)^n.toNat≤256:=aV8 _ (by omega);have br2:(0:Int)<2^n.toNat:=Int.pow_pos (by decide);refine⟨⟨by omega,by omega⟩,aw (by omega) (by omega),fun g5=>n6 ?_,fun g5=>?_⟩;(·rw[hd];simp[u5];omega);·(have hh:zp (n,a,rs)=true:=by rw[hd];simp[u5];omega);(have hE:eP (n,a,rs)=zq n rs rs.length 0:=by simp[eP,hh]);rw[hE];obtain⟨T,hT⟩: ∃T,T=zq n rs rs.length 0:=⟨_,rfl⟩;rw[←hT];clear n6 hd hh hE;refine ah.bE (X:=Nat) (fun(z:Nat)=>[(35,.iv (.int .i64) (z:Int)),(4,.any),(5,.any)]) (fun(z:Nat)=>[]) (fun(z:Nat)=>z≤rs.length∧zq n rs (rs.length-z) z=T) (fun(z:Nat)=>rs.length-z) 0 ?_;intro b1 b2 ba bq;simp(config:= {maxSteps:=4000000})only[go_sem,zA,↓reduceIte,↓reduceDIte,zB,zC,zD,zE,zF,zG,zH,zI]at ba bq;subst ba;subst bq;refine⟨(by refine⟨?_,?_,rfl,rfl⟩<;>repeat' (first|exact trivial|exact Or.inl rfl|exact Or.inr rfl|apply br|apply bt|apply bu|apply bA|exact⟨(by show(_:Nat)<1000000000;omega),rfl,rfl⟩|rfl|(refine And.intro (Or.inl ?_) ?_)|(refine And.intro ?_ ?_))),?_,?_⟩;(·exact⟨Nat.zero_le _,hT.symm⟩);clear hT;intro i⟨hi,hT⟩back;refine av ae ⟨_,SB,rfl⟩ 2000 _ _ (by kernel_rfl) ?_;simp only[go_sem,zA,↓reduceIte,↓reduceDIte,zB,zC,zD,zE,zF,zG,zH,zI];refine⟨fun g6=>?_,fun g6=>?_⟩;(·obtain⟨r,hr⟩: ∃r,rs[i]?=some r:=an (by omega);(have e:rs.length-i=(rs.length-(i+1))+1:=by omega);rw[e,zq]at hT;(have AF:eB n rs i=(decide (r∉rs.take i)&&cS n r):=by unfold eB;rw[hr]);rw[AF]at hT;refine⟨Int.natCast_nonneg _,r,hr,_,ai2 n r,?_⟩;cases hq:cS n r;(·rw[hq,Bool.and_false]at hT;refine K0 (b':=true) rfl ?_;simp only[go_sem,zA,↓reduceIte,↓reduceDIte,zB,zC,zD,zE,zF,zG,zH,zI];exact hT);·rw[hq,Bool.and_true]at hT;refine K0 (b':=false) rfl ?_;simp only[go_sem,zA,↓reduceIte,↓reduceDIte,zB,zC,zD,zE,zF,zG,zH,zI];refine⟨⟨by omega,by omega⟩,_,rN (rs.take i) r,?_⟩;simp only[go_sem,zA,↓reduceIte,↓reduceDIte,zB,zC,zD,zE,zF,zG,zH,zI];refine⟨fun g=>?_,fun g=>?_⟩;(·rw[decide_eq_false (by simpa using g)]at hT;exact hT);·rw[decide_eq_true g]at hT;exact⟨aw (by omega) (by omega),back _ (i+1) (by refine⟨?_,?_,rfl,rfl⟩<;>repeat' (first|exact trivial|exact Or.inl rfl|exact Or.inr rfl|apply br|apply bt|apply bu|apply bA|exact⟨(by show(_:Nat)<1000000000;omega),rfl,rfl⟩|rfl|(refine And.intro (Or.inl ?_) ?_)|(refine And.intro ?_ ?_))) ⟨by omega,hT⟩ (by omega)⟩);·(have e:rs.length-i=0:=by omega);rw[e,zq]at hT;exact hT)
 (·rw[hd];simp[u5];omega);(·rw[hd];simp[u5];omega);·rw[hd];simp[u5];omega
theorem K6(s:cB):PC env 121 [⟨al,s⟩] .bool (decide ((eP s).2=0)):=by
 refine PC.ay (m:=2000) ae aR9 rfl rfl rfl rfl (by kernel_rfl) ?_;intro hx;simp only[Tryz.f121];simp only[go_sem,zA,↓reduceIte,↓reduceDIte,zB,zC,zD,zE,zF,zG,zH,zI]
 refine⟨_,ai3 s,fun _=>?_⟩;rfl
def Gz(s:aI):Bool:=decide (s.length≤40)&&s.all low
def ll(s:aI):Bool:=decide (1≤s.length∧s.length≤20)&&s.all ze
theorem Nj(s:aI):PC env 62 [⟨.str,s⟩] .bool (Gz s):=by
 refine PC.ay (m:=2000) ae bb1 rfl rfl rfl rfl (by kernel_rfl) ?_;intro hx;simp only[Tryz.f62];simp only[go_sem,zA,↓reduceIte,↓reduceDIte,zB,zC,zD,zE,zF,zG,zH,zI]
 have d:=(zr s).dec;unfold Gz;generalize s.all low=b at*;(repeat' (first|(with_reducible intro _)|(with_reducible apply And.intro)|(with_reducible refine⟨_,d,?_⟩;try simp only[go_sem,zA,↓reduceIte,↓reduceDIte,zB,zC,zD,zE,zF,zG,zH,zI])|fail))
 all_goals first|omega|(simp_all;try omega)
theorem Jt(s:aI):PC env 31 [⟨.str,s⟩] .bool (Gz s):=by
 refine PC.ay (m:=2000) ae ba0 rfl rfl rfl rfl (by kernel_rfl) ?_;intro hx;simp only[Tryz.f31];simp only[go_sem,zA,↓reduceIte,↓reduceDIte,zB,zC,zD,zE,zF,zG,zH,zI]
 have d:=(KV s).dec;unfold Gz;generalize s.all low=b at*;(repeat' (first|(with_reducible intro _)|(with_reducible apply And.intro)|(with_reducible refine⟨_,d,?_⟩;try simp only[go_sem,zA,↓reduceIte,↓reduceDIte,zB,zC,zD,zE,zF,zG,zH,zI])|fail))
 all_goals first|omega|(simp_all;try omega)
theorem DP(s:aI):PC env 36 [⟨.str,s⟩] .bool (ll s):=by
 refine PC.ay (m:=2000) ae aq0 rfl rfl rfl rfl (by kernel_rfl) ?_;intro hx;simp only[Tryz.f36];simp only[go_sem,zA,↓reduceIte,↓reduceDIte,zB,zC,zD,zE,zF,zG,zH,zI]
 have d:=(zt s).dec;unfold ll;generalize s.all ze=b at*;(repeat' (first|(with_reducible intro _)|(with_reducible apply And.intro)|(with_reducible refine⟨_,d,?_⟩;try simp only[go_sem,zA,↓reduceIte,↓reduceDIte,zB,zC,zD,zE,zF,zG,zH,zI])|fail))
 all_goals first|omega|(simp_all;try omega)
theorem Ju {s:cB} (hs:ij s) {i:Nat} (hi:i<s.2.2.length):eB s.1 s.2.2 i=true:=by
 obtain⟨r,hr⟩: ∃r,s.2.2[i]?=some r:=an hi;unfold eB;rw[hr];dsimp only;rw[Bool.and_eq_true,decide_eq_true_eq];refine⟨fun hm=>?_,hs.right r (List.mem_of_getElem? hr)⟩
 obtain⟨j,hj⟩:=List.getElem?_of_mem hm;(have An:j<i:=by have:=(List.getElem?_eq_some_iff.1 hj).1;rw[List.length_take]at this;omega);rw[List.getElem?_take_of_lt An]at hj
 obtain⟨h1,e1⟩:=List.getElem?_eq_some_iff.1 hj;obtain⟨h2,e2⟩:=List.getElem?_eq_some_iff.1 hr;exact List.pairwise_iff_getElem.1 hs.nodup j i h1 h2 An (by rw[e1,e2])
theorem GA {n:Int} {l:List Rl} : ∀ {k i:Nat},(∀j,i≤j→j<i+k→eB n l j=true)→zq n l k i=((l.length:Int),0)|0,i,_=>rfl|k+1,i,h=>by unfold zq;rw[if_pos (h i (Nat.le_refl _) (by omega))];exact GA fun j h1 h2=>h j (by omega) (by omega)
theorem ai4 {s:cB} (hs:ij s):zp s=true:=by simp only[zp,u5,Bool.and_eq_true,decide_eq_true_eq];exact⟨⟨⟨hs.n1,hs.n8⟩,hs.a1,hs.a2⟩,hs.len⟩
theorem zu {s:cB} (hs:ij s):eP s=((s.2.2.length:Int),0):=by unfold eP;rw[if_pos (ai4 hs)];exact GA fun j _ h=>Ju hs (by omega)
end Go.Proofs.YtgpkijnphchkpaaGreat
namespace Go.Proofs.YtgpkijnphchkpaaGreat.Rev
set_option maxHeartbeats 1000000
abbrev aI:=List UInt8
abbrev Rl:=Int×Int×aI×aI×Int
abbrev cD:=Int×Int×Int
abbrev aZ:=Int×Int
def fy(s m:Int):Bool:=decide (s.toNat/2^m.toNat%2=1)
def mM(m:Int):Int:=((2^m.toNat:Nat):Int)
def da(out:aI)(p:cD)(r:Rl):Option cD:=if r.1=p.2.1∧r.2.2.2.1.isPrefixOf (out.drop p.1.toNat)=true then if r.2.2.2.1≠ []then some (p.1+(r.2.2.2.1.length:Int),r.2.1,mM r.2.1)else if fy p.2.2 r.2.1=false then some (p.1,r.2.1,p.2.2+mM r.2.1)else none else none
structure qz(rs:List Rl):Prop where
 mode: ∀r,r∈rs→0≤r.2.1∧r.2.1<8
 cost: ∀r,r∈rs→0≤r.2.2.2.2∧r.2.2.2.2≤1000
 nQ: ∀r,r∈rs→r.2.2.1.length≤4
structure Ca(out:aI)(p:cD):Prop where
 at0:0≤p.1
 at1:p.1≤out.length
 seen:0≤p.2.2∧p.2.2<256
def ms(out:aI)(p:cD):Nat:=(out.length-p.1.toNat)*256+(255-p.2.2.toNat)
theorem K7(m:Int):1≤mM m:=by unfold mM;have:0<2^m.toNat:=Nat.pos_of_ne_zero (by simp);omega
theorem SW {m:Int} (h:m<8):mM m≤128:=by unfold mM;(have h1:m.toNat≤7:=by omega);have:2^m.toNat≤2^7:=Nat.pow_le_pow_right (by decide) h1;(have e:2^7=128:=by decide);omega
theorem Jv {s:Nat} (hs:s<256): ∀m:Nat,m<8→s/2^m%2=0→s+2^m<256:=by
 intro m hm h;(have h8:m=0∨m=1∨m=2∨m=3∨m=4∨m=5∨m=6∨m=7:=by omega);rcases h8 with rfl|rfl|rfl|rfl|rfl|rfl|rfl|rfl<;>simp only[Nat.reducePow]at h⊢ <;>omega
theorem fk {out:aI} {p q:cD} {r:Rl} (hp:Ca out p)(hm:0≤r.2.1∧r.2.1<8)(h:da out p r=some q):Ca out q∧ms out q<ms out p∧q.2.1=r.2.1:=by
 obtain⟨a0,a1,s0,s1⟩:=hp;unfold da at h;split at h;(case isFalse=>cases h);rename_i h1;obtain⟨h1,h2⟩:=h1;split at h;(·rename_i h3;injection h with h;subst h;have hb:=K7 r.2.1;have bq:=SW hm.2;have je:=List.isPrefixOf_iff_prefix.1 h2;have hl:=je.length_le;rw[List.length_drop]at hl;have bW:0<r.2.2.2.1.length:=List.length_pos_iff.2 h3;refine⟨⟨by dsimp only;omega,by dsimp only;omega,by dsimp only;omega,by dsimp only;omega⟩,?_,rfl⟩;unfold ms;dsimp only;(have e:(p.1+(r.2.2.2.1.length:Int)).toNat=p.1.toNat+r.2.2.2.1.length:=by omega);rw[e];(have e2:out.length-p.1.toNat=(out.length-(p.1.toNat+r.2.2.2.1.length))+r.2.2.2.1.length:=by omega);rw[e2,Nat.add_mul];have:1*256≤r.2.2.2.1.length*256:=Nat.mul_le_mul_right _ bW;omega)
 ·split at h;(·rename_i h3 h4;injection h with h;subst h;have hb:=K7 r.2.1;unfold fy at h4;have h4':=of_decide_eq_false h4;have c7:=Jv (s:=p.2.2.toNat) (by omega) r.2.1.toNat (by omega) (by omega);have Uk:mM r.2.1=((2^r.2.1.toNat:Nat):Int):=rfl;refine⟨⟨a0,a1,by dsimp only;omega,by dsimp only;omega⟩,?_,rfl⟩;unfold ms;dsimp only;omega);·cases h
def ic(acc:Int)(out:aI)(p:cD):Bool:=decide (p.1=out.length)&&fy acc p.2.1
inductive Path(rs:List Rl)(acc:Int)(out:aI):cD→aI→Int→Prop where|done {p:cD} (h:ic acc out p=true):Path rs acc out p [] 0|step {p q:cD} {r:Rl} {x:aI} {c:Int} (hr:r∈rs)(h:da out p r=some q)(hp:Path rs acc out q x c):Path rs acc out p (r.2.2.1++x) (r.2.2.2.2+c)
inductive mb(rs:List Rl)(out:aI):aI→cD→aI→Int→Prop where|start:mb rs out [] (0,0,1) [] 0|wN {x:aI} {p q:cD} {r:Rl} {c:Int} (ht:mb rs out x p [] c)(hr:r∈rs)(h:da out p r=some q):mb rs out x q r.2.2.1 (c+r.2.2.2.2)|SX {x:aI} {p:cD} {a:UInt8} {m:aI} {c:Int} (ht:mb rs out x p (a::m) c):mb rs out (x++ [a]) p m c
def Ao(rs:List Rl)(acc:Int)(out:aI)(x:aI)(c:Int):Prop:=Path rs acc out (0,0,1) x c
variable {rs:List Rl} {acc:Int} {out:aI}
theorem GB(out:aI):Ca out (0,0,1):=⟨by decide,by show(0:Int)≤(out.length:Int);omega,by decide,by decide⟩
theorem nI(h:qz rs) {x m:aI} {p:cD} {c:Int} (ht:mb rs out x p m c):Ca out p:=by induction ht with|start=>exact GB out|wN _ hr ha ih=>exact(fk ih (h.mode _ hr) ha).1|SX _ ih=>exact ih
theorem GC(h:qz rs) {x m:aI} {p:cD} {c:Int} (ht:mb rs out x p m c):0≤c:=by induction ht with|start=>exact Int.le_refl _|wN _ hr _ ih=>have:=(h.cost _ hr).1;omega|SX _ ih=>exact ih
theorem vo(h:qz rs) {p:cD} {x:aI} {c:Int} (hp:Path rs acc out p x c):0≤c:=by induction hp with|done=>exact Int.le_refl _|step hr _ _ ih=>have:=(h.cost _ hr).1;omega
theorem GD {x m:aI} {p:cD} {c:Int} (ht:mb rs out x p m c): ∀ {y:aI} {d:Int},Path rs acc out p y d→Ao rs acc out (x++m++y) (c+d):=by
 induction ht with|start=>intro y d h;simpa[Ao]using h| @wN x p q r c _ hr ha ih=>intro y d h;have:=ih (Path.step hr ha h);rw[List.append_nil]at this;rw[List.append_assoc,Int.add_assoc];exact this| @SX x p a m c _ ih=>intro y d h;have:=ih h;simpa using this
theorem ai5 {x:aI} {p:cD} : ∀ {m:aI} {c:Int},mb rs out x p m c→mb rs out (x++m) p [] c|m,c,h=>by induction m generalizing x with|nil=>simpa using h|cons a m ih=>have:=ih h.SX;simpa using this
theorem SY {z x:aI} {p:cD} {c d:Int} (hp:Path rs acc out p z d): ∀ {x0:aI},mb rs out x0 p [] c→ ∀ {x1 y:aI},z=x1++y→ ∃q m e f y',mb rs out (x0++x1) q m e∧Path rs acc out q y' f∧y=m++y'∧e+f=c+d:=by
 induction hp generalizing c with| @done p h=>intro x0 ht x1 y hz;obtain⟨rfl,rfl⟩:=List.append_eq_nil_iff.1 hz.symm;exact⟨p,[],c,0,[],by simpa using ht,.done h,rfl,rfl⟩| @step p q r x c' hr ha _ ih=>intro x0 ht x1 y hz;rename_i hq;have L5:=mb.wN ht hr ha;rcases List.append_eq_append_iff.1 hz with⟨t,h1,h2⟩|⟨t,h1,h2⟩;(·have:=ih (ai5 L5) h2;obtain⟨q',m,e,f,y',k1,k2,k3,k4⟩:=this;refine⟨q',m,e,f,y',?_,k2,k3,by omega⟩;rw[h1,←List.append_assoc];exact k1);·(have hth: ∀(x1 t:aI)(x0:aI),mb rs out x0 q (x1++t) (c+r.2.2.2.2)→mb rs out (x0++x1) q t (c+r.2.2.2.2):=by intro x1;induction x1 with|nil=>intro t x0 h;simpa using h|cons a x1 ih2=>intro t x0 h;have:=ih2 t (x0++ [a]) h.SX;simpa using this);rw[h1]at L5;exact⟨q,t,c+r.2.2.2.2,c',x,hth x1 t x0 L5,hq,h2,by omega⟩
theorem DQ {x y:aI} {c:Int} (h:Ao rs acc out (x++y) c): ∃q m e f y',mb rs out x q m e∧Path rs acc out q y' f∧y=m++y'∧e+f=c:=by
 obtain⟨q,m,e,f,y',h1,h2,h3,h4⟩:=SY (x:=x) h mb.start (x1:=x) (y:=y) rfl;exact⟨q,m,e,f,y',by simpa using h1,h2,h3,by omega⟩
end Go.Proofs.YtgpkijnphchkpaaGreat.Rev
namespace Go.Proofs.YtgpkijnphchkpaaGreat.Rev
set_option maxHeartbeats 1000000
def ew(p q:aZ):Bool:=decide (p.1<q.1∨p.1=q.1∧p.2<q.2)
def lX(p q:aZ):aZ:=(p.1+q.1,p.2+q.2)
theorem ql {p q:aZ} :ew p q=true↔(p.1<q.1∨p.1=q.1∧p.2<q.2):=by simp[ew]
theorem cT {p q:aZ} :ew p q=false↔ ¬(p.1<q.1∨p.1=q.1∧p.2<q.2):=by simp[ew]
theorem jm(p:aZ):ew p p=false:=by rw[cT];omega
def bV(S:aZ→Prop)(o:Option aZ):Prop:=match o with|none=> ∀p,¬S p|some m=>S m∧ ∀p,S p→ew p m=false
theorem pb {S:aZ→Prop} {a b:Option aZ} (ha:bV S a)(hb:bV S b):a=b:=by
 cases a with|none=>(cases b with|none=>rfl|some m=>exact absurd hb.1 (ha m))|some m=>cases b with|none=>exact absurd ha.1 (hb m)|some k=>have h1:=cT.1 (ha.2 k hb.1);have h2:=cT.1 (hb.2 m ha.1);congr 1;exact Prod.ext (by omega) (by omega)
theorem ie {S T:aZ→Prop} {o:Option aZ} (h: ∀p,S p↔T p)(ho:bV S o):bV T o:=by
 cases o with|none=>exact fun p hp=>ho p ((h p).2 hp)|some m=>exact⟨(h m).1 ho.1,fun p hp=>ho.2 p ((h p).2 hp)⟩
def better(bo0 g:Option aZ):Option aZ:=match g,bo0 with|none,b=>b|some x,none=>some x|some x,some b=>if ew x b=true then some x else some b
theorem zw {S T:aZ→Prop} {a b:Option aZ} (ha:bV S a)(hb:bV T b):bV (fun p=>S p∨T p) (better a b):=by
 cases b with|none=>(cases a with|none=>exact fun p hp=>hp.elim (ha p) (hb p)|some m=>exact⟨.inl ha.1,fun p hp=>hp.elim (ha.2 p) (fun h=>absurd h (hb p))⟩)|some k=>cases a with|none=>exact⟨.inr hb.1,fun p hp=>hp.elim (fun h=>absurd h (ha p)) (hb.2 p)⟩|some m=>unfold better;dsimp only;split;(·rename_i h;rw[ql]at h;refine⟨.inr hb.1,fun p hp=>?_⟩;rcases hp with h1|h1;(·have:=cT.1 (ha.2 p h1);rw[cT];omega);·exact hb.2 p h1);·rename_i h;have h:=cT.1 (Bool.eq_false_iff.2 h);refine⟨.inl ha.1,fun p hp=>?_⟩;rcases hp with h1|h1;(·exact ha.2 p h1);·have:=cT.1 (hb.2 p h1);rw[cT];omega
theorem tz {α:Type} {f:α→Option aZ} {S:α→aZ→Prop} : ∀(l:List α) {T:aZ→Prop} {b:Option aZ},bV T b→(∀r,r∈l→bV (S r) (f r))→bV (fun p=>T p∨ ∃r,r∈l∧S r p) (l.foldl (fun b r=>better b (f r)) b)|[],T,b,hb,_=>ie (fun p=>by simp) hb|r::l,T,b,hb,h=>by rw[List.foldl_cons];refine ie (fun p=>?_) (tz l (zw hb (h r (List.mem_cons_self ..))) (fun q hq=>h q (List.mem_cons_of_mem _ hq)));constructor;(·rintro((h1|h1)|⟨q,h1,h2⟩);(·exact .inl h1);(·exact .inr ⟨r,List.mem_cons_self ..,h1⟩);·exact .inr ⟨q,List.mem_cons_of_mem _ h1,h2⟩);·rintro(h1|⟨q,h1,h2⟩);(·exact .inl (.inl h1));·rcases List.mem_cons.1 h1 with rfl|h1;(·exact .inl (.inr h2));·exact .inr ⟨q,h1,h2⟩
def GF(g:Option aZ)(p:aZ):Option aZ:=match g with|none=>none|some x=>some (lX x p)
theorem GG {S:aZ→Prop} {g:Option aZ} (h:bV S g)(p:aZ):bV (fun q=> ∃s,S s∧q=lX s p) (GF g p):=by
 cases g with|none=>rintro q⟨s,hs,_⟩;exact h s hs|some m=>refine⟨⟨m,h.1,rfl⟩,?_⟩;rintro q⟨s,hs,rfl⟩;have:=cT.1 (h.2 s hs);rw[cT];unfold lX;dsimp only;omega
def wO(out:aI)(goal:cD→Int→Option aZ)(p:cD)(L:Int)(r:Rl):Option aZ:=match da out p r with|none=>none|some q=>GF (goal q (L-(r.2.2.1.length:Int))) (r.2.2.2.2,(r.2.2.1.length:Int))
def wg(rs:List Rl)(acc:Int)(out:aI):Nat→cD→Int→Option aZ|0,_,_=>none|n+1,p,L=>if L<0 then none else if ic acc out p=true then some (0,0)else rs.foldl (fun b r=>better b (wO out (wg rs acc out n) p L r)) none
def K8(rs:List Rl)(acc:Int)(out:aI)(p:cD)(L:Int)(pr:aZ):Prop:= ∃x c,Path rs acc out p x c∧(x.length:Int)≤L∧pr=(c,(x.length:Int))
variable {rs:List Rl} {acc:Int} {out:aI}
theorem GH(h:qz rs): ∀(n:Nat)(p:cD)(L:Int),Ca out p→ms out p<n→bV (K8 rs acc out p L) (wg rs acc out n p L):=by
 intro n;induction n with|zero=>intro _ _ _ hn;exact absurd hn (Nat.not_lt_zero _)|succ n ih=>intro p L hp hn;rw[wg];split;(·rintro pr⟨x,c,_,hl,_⟩;omega);·rename_i hL;split;(·rename_i he;refine⟨⟨[],0,.done he,by simp;omega,by simp⟩,?_⟩;rintro pr⟨x,c,L2,hl,rfl⟩;have:=vo h L2;rw[cT];dsimp only;omega);·rename_i he;(have hv: ∀r,r∈rs→bV (fun pr=> ∃q,da out p r=some q∧ ∃s,K8 rs acc out q (L-(r.2.2.1.length:Int)) s∧pr=lX s (r.2.2.2.2,(r.2.2.1.length:Int))) (wO out (wg rs acc out n) p L r):=fun r hr=>by unfold wO;cases ha:da out p r with|none=>rintro pr⟨q,hq,_⟩;cases hq|some q=>obtain⟨k1,k2,_⟩:=fk hp (h.mode r hr) ha;refine ie (fun pr=>?_) (GG (ih q (L-(r.2.2.1.length:Int)) k1 (by omega)) (r.2.2.2.2,(r.2.2.1.length:Int)));constructor;(·intro hh;exact⟨q,rfl,hh⟩);·rintro⟨q',hq',hh⟩;injection hq' with hq';subst hq';exact hh);have hf:=tz rs (T:=fun _=>False) (b:=none) (fun p hp=>hp) hv;refine ie (fun pr=>?_) hf;constructor;(·rintro(h1|⟨r,hr,q,ha,s,⟨x,c,L2,hl,rfl⟩,rfl⟩);(·exact h1.elim);·refine⟨r.2.2.1++x,r.2.2.2.2+c,.step hr ha L2,by rw[List.length_append];omega,?_⟩;unfold lX;rw[List.length_append];refine Prod.ext ?_ ?_<;>dsimp only<;>omega);·rintro⟨x,c,L2,hl,rfl⟩;cases L2 with|done hd=>exact absurd hd he| @step _ q r x c hr ha L2=>rw[List.length_append]at hl;refine .inr ⟨r,hr,q,ha,(c,(x.length:Int)),⟨x,c,L2,by omega,rfl⟩,?_⟩;unfold lX;rw[List.length_append];refine Prod.ext ?_ ?_<;>dsimp only<;>omega
def iB(rs:List Rl)(acc:Int)(out:aI)(p:cD)(L:Int):Option aZ:=wg rs acc out (ms out p+1) p L
theorem vp(h:qz rs) {p:cD} (L:Int)(hp:Ca out p):bV (K8 rs acc out p L) (iB rs acc out p L):=GH h _ p L hp (Nat.lt_succ_self _)
theorem ai6(h:qz rs) {n:Nat} {p:cD} (L:Int)(hp:Ca out p)(hn:ms out p<n):wg rs acc out n p L=iB rs acc out p L:=pb (GH h n p L hp hn) (vp h L hp)
theorem Nk {g g':cD→Int→Option aZ} {p:cD} {L:Int} {r:Rl} (h: ∀q,da out p r=some q→g q (L-(r.2.2.1.length:Int))=g' q (L-(r.2.2.1.length:Int))):wO out g p L r=wO out g' p L r:=by
 unfold wO;cases ha:da out p r with|none=>rfl|some q=>dsimp only;rw[h q ha]
theorem fold_congr {α β:Type} {f g:β→α→β} : ∀(l:List α)(b:β),(∀b r,r∈l→f b r=g b r)→l.foldl f b=l.foldl g b|[],_,_=>rfl|r::l,b,h=>by rw[List.foldl_cons,List.foldl_cons,h b r (List.mem_cons_self ..)];exact fold_congr l _ fun b q hq=>h b q (List.mem_cons_of_mem _ hq)
theorem Nl(h:qz rs) {p:cD} (L:Int)(hp:Ca out p):iB rs acc out p L=if L<0 then none else if ic acc out p=true then some (0,0)else rs.foldl (fun b r=>better b (wO out (iB rs acc out) p L r)) none:=by
 (conv=>lhs;unfold iB;rw[wg]);split;(·rfl);·split;(·rfl);·refine fold_congr rs none fun b r hr=>?_;rw[Nk (g:=wg rs acc out (ms out p)) (g':=iB rs acc out) fun q ha=>?_];obtain⟨k1,k2,_⟩:=fk hp (h.mode r hr) ha;exact ai6 h _ k1 k2
end Go.Proofs.YtgpkijnphchkpaaGreat.Rev
namespace Go.Proofs.YtgpkijnphchkpaaGreat.Rev
set_option maxHeartbeats 1000000
abbrev Thread:=cD×aI
structure nJ(rs:List Rl)(out x:aI)(E:List (Thread×Int)):Prop where
 sound: ∀p m c,((p,m),c)∈E→mb rs out x p m c
 all: ∀p m c,mb rs out x p m c→ ∃c',c'≤c∧((p,m),c')∈E
def iC(rs:List Rl)(acc:Int)(out x:aI)(pr:aZ):Prop:= ∃y c,Ao rs acc out (x++y) c∧(x++y).length≤40∧pr=(c,((x++y).length:Int))
def gr(rs:List Rl)(acc:Int)(out x:aI)(pr:aZ):Prop:= ∃c,Ao rs acc out x c∧pr=(c,(x.length:Int))
variable {rs:List Rl} {acc:Int} {out:aI}
def tA(rs:List Rl)(acc:Int)(out x:aI)(t:Thread×Int):Option aZ:=GF (iB rs acc out t.1.1 (40-(x.length:Int)-(t.1.2.length:Int))) (t.2,(x.length:Int)+(t.1.2.length:Int))
def qm(rs:List Rl)(acc:Int)(out x:aI)(t:Thread×Int)(pr:aZ):Prop:= ∃s,K8 rs acc out t.1.1 (40-(x.length:Int)-(t.1.2.length:Int)) s∧pr=lX s (t.2,(x.length:Int)+(t.1.2.length:Int))
theorem zx(h:qz rs) {x:aI} {t:Thread×Int} (ht:Ca out t.1.1):bV (qm rs acc out x t) (tA rs acc out x t):=GG (vp h _ ht) _
theorem qL(h:qz rs) {x:aI} {E:List (Thread×Int)} (hE:nJ rs out x E) {o:Option aZ} (ho:bV (fun pr=> ∃t,t∈E∧qm rs acc out x t pr) o):bV (iC rs acc out x) o:=by
 cases o with|none=>rintro pr⟨y,c,hi,hl,rfl⟩;obtain⟨q,m,e,f,y',h1,h2,rfl,rfl⟩:=DQ hi;obtain⟨e',he,hm⟩:=hE.all q m e h1;rw[List.length_append,List.length_append]at hl;exact ho _ ⟨((q,m),e'),hm,_,⟨y',f,h2,by dsimp only;omega,rfl⟩,rfl⟩|some k=>refine⟨?_,?_⟩;(·obtain⟨⟨⟨p,m⟩,c⟩,ht,s,⟨y,f,hp,hl,rfl⟩,he⟩:=ho.1;have hth:=hE.sound p m c ht;have:=GD hth hp;refine⟨m++y,c+f,by rwa[←List.append_assoc],?_,?_⟩;(·dsimp only at hl;rw[List.length_append,List.length_append];omega);·rw[he];unfold lX;dsimp only;rw[List.length_append,List.length_append];refine Prod.ext ?_ ?_<;>dsimp only<;>omega);·rintro pr⟨y,c,hi,hl,rfl⟩;obtain⟨q,m,e,f,y',h1,h2,rfl,rfl⟩:=DQ hi;obtain⟨e',he,hm⟩:=hE.all q m e h1;rw[List.length_append,List.length_append]at hl;have:=cT.1 (ho.2 _ ⟨((q,m),e'),hm,_,⟨y',f,h2,by dsimp only;omega,rfl⟩,rfl⟩);rw[cT];unfold lX at this;dsimp only at this⊢;rw[List.length_append,List.length_append];omega
def GJ(acc:Int)(out x:aI)(t:Thread×Int):Option aZ:=if t.1.2=[]∧ic acc out t.1.1=true then some (t.2,(x.length:Int))else none
def SZ(acc:Int)(out x:aI)(t:Thread×Int)(pr:aZ):Prop:=(t.1.2=[]∧ic acc out t.1.1=true)∧pr=(t.2,(x.length:Int))
theorem tB {x:aI} {t:Thread×Int} :bV (SZ acc out x t) (GJ acc out x t):=by
 unfold GJ;split;(·rename_i h;exact⟨⟨h,rfl⟩,fun p hp=>by rw[hp.2];exact jm _⟩);·rename_i h;exact fun p hp=>h hp.1
theorem AW {p:cD} {y:aI} {c:Int} (hp:Path rs acc out p y c): ∀ {x:aI} {e:Int},mb rs out x p [] e→y=[]→ ∃q f,mb rs out x q [] f∧ic acc out q=true∧f=e+c:=by
 induction hp with| @done p h=>intro x e ht _;exact⟨p,e,ht,h,by omega⟩| @step p q r y c hr ha _ ih=>intro x e ht hy;obtain⟨h1,h2⟩:=List.append_eq_nil_iff.1 hy;have h3:=mb.wN ht hr ha;rw[h1]at h3;obtain⟨q',f,k1,k2,k3⟩:=ih h3 h2;exact⟨q',f,k1,k2,by omega⟩
theorem AX {x:aI} {E:List (Thread×Int)} (hE:nJ rs out x E) {o:Option aZ} (ho:bV (fun pr=> ∃t,t∈E∧SZ acc out x t pr) o):bV (gr rs acc out x) o:=by
 (have down: ∀c,Ao rs acc out x c→ ∃q f,mb rs out x q [] f∧ic acc out q=true∧f=c:=fun c hi=>by(have uj:Ao rs acc out (x++ []) c:=by simpa using hi);obtain⟨q,m,e,f,y',h1,h2,h3,h4⟩:=DQ uj;obtain⟨rfl,rfl⟩:=List.append_eq_nil_iff.1 h3.symm;obtain⟨q',f',k1,k2,k3⟩:=AW h2 h1 rfl;exact⟨q',f',k1,k2,by omega⟩)
 (have up: ∀q f,mb rs out x q [] f→ic acc out q=true→Ao rs acc out x f:=fun q f h1 h2=>by have:=GD h1 (Path.done h2);simpa using this);cases o with|none=>rintro pr⟨c,hi,rfl⟩;obtain⟨q,f,h1,h2,rfl⟩:=down c hi;obtain⟨e',he,hm⟩:=hE.all q [] _ h1;exact ho _ ⟨((q,[]),e'),hm,⟨rfl,h2⟩,rfl⟩|some k=>refine⟨?_,?_⟩;(·obtain⟨⟨⟨p,m⟩,c⟩,ht,⟨h1,h2⟩,he⟩:=ho.1;dsimp only at h1 h2 he;subst h1;exact⟨c,up p c (hE.sound p [] c ht) h2,he⟩);·rintro pr⟨c,hi,rfl⟩;obtain⟨q,f,h1,h2,rfl⟩:=down c hi;obtain⟨e',he,hm⟩:=hE.all q [] _ h1;have:=cT.1 (ho.2 _ ⟨((q,[]),e'),hm,⟨rfl,h2⟩,rfl⟩);rw[cT];dsimp only at this⊢;omega
structure K9(rs:List Rl)(out x:aI)(B:cD→aI→Int→Prop)(V:Thread→Option Int)(todo:List Thread):Prop where
 sound: ∀p m c,V (p,m)=some c→mb rs out x p m c
 base: ∀p m c,B p m c→ ∃c',c'≤c∧V (p,m)=some c'
 step: ∀p c,V (p,[])=some c→(p,[])∈todo∨ ∀r q,r∈rs→da out p r=some q→ ∃c',c'≤c+r.2.2.2.2∧V (q,r.2.2.1)=some c'
 br3: ∀t,t∈todo→t.2=[]∧ ∃c,V t=some c
def Comes(rs:List Rl)(out x:aI)(B:cD→aI→Int→Prop):Prop:= ∀p m c,mb rs out x p m c→B p m c∨ ∃p0 c0 r,mb rs out x p0 [] c0∧r∈rs∧da out p0 r=some p∧m=r.2.2.1∧c=c0+r.2.2.2.2
theorem GK:Comes rs out [] (fun p m c=>p=(0,0,1)∧m=[]∧c=0):=by
 intro p m c h;generalize hx:([]:aI)=x at h;cases h with|start=>exact .inl ⟨rfl,rfl,rfl⟩| @wN _ p0 _ r c0 ht hr ha=>subst hx;exact .inr ⟨p0,c0,r,ht,hr,ha,rfl,rfl⟩|SX=>exact absurd hx (by simp)
theorem Cb {x:aI} {a:UInt8} :Comes rs out (x++ [a]) (fun p m c=>mb rs out x p (a::m) c):=by
 intro p m c h;generalize hx:x++ [a]=z at h;cases h with|start=>exact absurd hx (by simp)| @wN _ p0 _ r c0 ht hr ha=>subst hx;exact .inr ⟨p0,c0,r,ht,hr,ha,rfl,rfl⟩| @SX x' _ a' _ _ ht=>obtain⟨h1,h2⟩:=List.append_inj' hx rfl;injection h2 with h2;subst h1 h2;exact .inl ht
theorem La {p:cD} :ms out p≤out.length*256+255:=by unfold ms;omega
theorem S4(h:qz rs) {x:aI} {B:cD→aI→Int→Prop} (hB:Comes rs out x B) {V:Thread→Option Int} (hI:K9 rs out x B V []): ∀(n:Nat)(p:cD)(m:aI)(c:Int),out.length*256+255-ms out p≤n→mb rs out x p m c→ ∃c',c'≤c∧V (p,m)=some c':=by
 intro n;induction n with|zero=>intro p m c hn ht;rcases hB p m c ht with hb|⟨p0,c0,r,h1,h2,h3,rfl,rfl⟩;(·exact hI.base p m c hb);(·exfalso;have h4:=(fk (nI h h1) (h.mode r h2) h3).2.1;have:=La (out:=out) (p:=p0);omega)|succ n ih=>intro p m c hn ht;rcases hB p m c ht with hb|⟨p0,c0,r,h1,h2,h3,rfl,rfl⟩;(·exact hI.base p m c hb);·have h4:=(fk (nI h h1) (h.mode r h2) h3).2.1;have:=La (out:=out) (p:=p0);obtain⟨c',iM,hv⟩:=ih p0 [] c0 (by omega) h1;rcases hI.step p0 c' hv with hm|hs;(·exact absurd hm (List.not_mem_nil));·obtain⟨d,hd,UW⟩:=hs r p h2 h3;exact⟨d,by omega,UW⟩
theorem Nm(h:qz rs) {x:aI} {B:cD→aI→Int→Prop} (hB:Comes rs out x B) {V:Thread→Option Int} (hI:K9 rs out x B V []) {E:List (Thread×Int)} (hE: ∀t c,(t,c)∈E↔V t=some c):nJ rs out x E:=by
 refine⟨fun p m c hm=>hI.sound p m c ((hE _ _).1 hm),fun p m c ht=>?_⟩;obtain⟨c',h1,h2⟩:=S4 h hB hI _ p m c (Nat.le_refl _) ht;exact⟨c',h1,(hE _ _).2 h2⟩
end Go.Proofs.YtgpkijnphchkpaaGreat.Rev
namespace Go.Proofs.YtgpkijnphchkpaaGreat.Rev
set_option maxHeartbeats 1000000
def bytesLess:aI→aI→Bool|_,[]=>false|[],_::_=>true|a::x,b::y=>decide (a<b)||(a==b&&bytesLess x y)
theorem be3 {a b:UInt8} :a<b↔a.toNat<b.toNat:=UInt8.lt_iff_toNat_lt
theorem nK {a b:UInt8} {x y:aI} :bytesLess (a::x) (b::y)=true↔(a.toNat<b.toNat∨a=b∧bytesLess x y=true):=by simp[bytesLess,be3]
theorem rO: ∀x:aI,bytesLess x x=false|[]=>rfl|a::x=>by rw[Bool.eq_false_iff];intro h;rcases nK.1 h with h|h;(·omega);·rw[rO x]at h;cases h.2
theorem tC: ∀ {x y z:aI},bytesLess x y=true→bytesLess y z=true→bytesLess x z=true|x,y,[],_,h=>(by cases y<;>cases h)|x,[],c::z,h,_=>(by cases x<;>cases h)|[],b::y,c::z,_,_=>rfl|a::x,b::y,c::z,h,h'=>by rw[nK]at h h'⊢;rcases h with h|⟨rfl,h⟩<;>rcases h' with h'|⟨rfl,h'⟩;(·exact .inl (by omega));(·exact .inl h);(·exact .inl h');·exact .inr ⟨rfl,tC h h'⟩
theorem tD: ∀ {x y:aI},x≠y→bytesLess x y=false→bytesLess y x=true|[],[],h,_=>absurd rfl h|[],b::y,_,h=>(by cases h)|a::x,[],_,_=>rfl|a::x,b::y,h,h'=>by rw[nK];have h2:=fun hh=>Bool.eq_false_iff.1 h' (nK.2 hh);by_cases e:a=b;(·subst e;refine .inr ⟨rfl,tD (fun e=>h (by rw[e])) (Bool.eq_false_iff.2 fun hh=>h2 (.inr ⟨rfl,hh⟩))⟩);·have: ¬a.toNat=b.toNat:=fun e'=>e (UInt8.toNat_inj.1 e');have: ¬a.toNat<b.toNat:=fun e'=>h2 (.inl e');exact .inl (by omega)
theorem Cc: ∀ {x a z:aI},bytesLess x a=true→a <+: z→bytesLess x z=true|x,[],z,h,_=>(by cases x<;>cases h)|x,b::a,[],_,h=>(by obtain⟨t,ht⟩:=h;cases ht)|[],b::a,c::z,_,_=>rfl|d::x,b::a,c::z,h,h'=>by rw[List.cons_prefix_cons]at h';obtain⟨rfl,h'⟩:=h';rw[nK]at h⊢;rcases h with h|⟨rfl,h⟩;(·exact .inl h);·exact .inr ⟨rfl,Cc h h'⟩
abbrev FE:=aI×Bool×aZ
def ez(a b:FE):Bool:=if a.2.2=b.2.2 then(if a.1=b.1 then a.2.1&& !b.2.1 else bytesLess a.1 b.1)else ew a.2.2 b.2.2
abbrev dB:=aI×Int
def fG(a b:dB):Bool:=decide (a.2<b.2)||(decide (a.2=b.2)&&(decide (a.1.length<b.1.length)||(decide (a.1.length=b.1.length)&&bytesLess a.1 b.1)))
theorem mN {a b:dB} :fG a b=true↔(a.2<b.2∨a.2=b.2∧(a.1.length<b.1.length∨a.1.length=b.1.length∧bytesLess a.1 b.1=true)):=by simp[fG]
theorem mO(a:dB):fG a a=false:=by rw[Bool.eq_false_iff];intro h;rcases mN.1 h with h|⟨_,h|⟨_,h⟩⟩;(·omega);(·omega);·rw[rO]at h;cases h
theorem lY {a b c:dB} (h:fG a b=true)(h':fG b c=true):fG a c=true:=by
 rw[mN]at*;rcases h with h|⟨h1,h|⟨h2,h⟩⟩<;>rcases h' with h'|⟨pU,h'|⟨Uf,h'⟩⟩;(·exact .inl (by omega));(·exact .inl (by omega));(·exact .inl (by omega));(·exact .inl (by omega))
 (·exact .inr ⟨by omega,.inl (by omega)⟩);(·exact .inr ⟨by omega,.inl (by omega)⟩);(·exact .inl (by omega));(·exact .inr ⟨by omega,.inl (by omega)⟩);·exact .inr ⟨by omega,.inr ⟨by omega,tC h h'⟩⟩
def b8(e:FE)(z:aI):Prop:=if e.2.1=true then e.1=z else e.1 <+: z
def Nn(rs:List Rl)(acc:Int)(out x:aI)(d:Int):Prop:=Ao rs acc out x d∧ ∀c,Ao rs acc out x c→d≤c
structure iD(rs:List Rl)(acc:Int)(out:aI)(H:List FE)(R:List dB):Prop where
 live: ∀e,e∈H→e.2.1=false→bV (iC rs acc out e.1) (some e.2.2)
 done: ∀e,e∈H→e.2.1=true→bV (gr rs acc out e.1) (some e.2.2)∧e.1.length≤40
 cov: ∀z c,Ao rs acc out z c→z.length≤40→(∃d,(z,d)∈R)∨ ∃e,e∈H∧b8 e z
 Up:H.Pairwise (fun a b=> ∀z,b8 a z→b8 b z→False)
 res: ∀x d,(x,d)∈R→Nn rs acc out x d∧x.length≤40∧ ∀e,e∈H→ ¬b8 e x
 ord: ∀x d,(x,d)∈R→ ∀z c,Ao rs acc out z c→z.length≤40→(∃e,e∈H∧b8 e z)→fG (x,d) (z,c)=true
 Ur:R.Pairwise (fun a b=>fG a b=true)
structure Cd(rs:List Rl)(acc:Int)(out:aI)(L:List dB):Prop where
 Ur:L.Pairwise (fun a b=>fG a b=true)
 mem: ∀x d,(x,d)∈L↔Nn rs acc out x d∧x.length≤40
variable {rs:List Rl} {acc:Int} {out:aI}
theorem No {x:aI} {m:aZ} (h:bV (gr rs acc out x) (some m)):Nn rs acc out x m.1∧m.2=(x.length:Int):=by
 obtain⟨⟨c,hc,he⟩,h2⟩:=h;subst he;refine⟨⟨hc,fun c' iM=>?_⟩,rfl⟩;have:=cT.1 (h2 _ ⟨c',iM,rfl⟩);dsimp only at this⊢;omega
theorem zy {H H':List FE} {R:List dB} (h:iD rs acc out H R)(hp:H.Perm H'):iD rs acc out H' R:=by
 refine⟨fun e he=>h.live e (hp.mem_iff.2 he),fun e he=>h.done e (hp.mem_iff.2 he),fun z c hi hl=>?_,?_,fun x d hm=>?_,fun x d hm z c hi hl⟨e,he,hc⟩=>h.ord x d hm z c hi hl ⟨e,hp.mem_iff.2 he,hc⟩,h.Ur⟩
 (·rcases h.cov z c hi hl with h1|⟨e,he,hc⟩;(·exact .inl h1);·exact .inr ⟨e,hp.mem_iff.1 he,hc⟩);(·exact(hp.pairwise_iff (fun {a b} nU z h1 h2=>nU z h2 h1)).1 h.Up)
 ·obtain⟨k1,k2,k3⟩:=h.res x d hm;exact⟨k1,k2,fun e he=>k3 e (hp.mem_iff.2 he)⟩
theorem GL {H:List FE} {R:List dB} (h:iD rs acc out H R) {e:FE} (he:e∈H) {z:aI} {c:Int} (hi:Ao rs acc out z c)(hl:z.length≤40)(hc:b8 e z):ew (c,(z.length:Int)) e.2.2=false:=by
 unfold b8 at hc;split at hc;(·rename_i hd;subst hc;exact(h.done e he hd).1.2 _ ⟨c,hi,rfl⟩);·rename_i hd;obtain⟨y,rfl⟩:=hc;exact(h.live e he (by simpa using hd)).2 _ ⟨y,c,hi,hl,rfl⟩
theorem Jw {H:List FE} {R:List dB} {e:FE} (h:iD rs acc out (e::H) R)(hd:e.2.1=true)(zz: ∀e',e'∈H→ez e' e=false):iD rs acc out H (R++ [(e.1,e.2.2.1)]):=by
 obtain⟨hw,h40⟩:=h.done e (List.mem_cons_self ..) hd;obtain⟨hm,hlen⟩:=No hw;(have Am:b8 e e.1:=by unfold b8;rw[if_pos hd]);obtain⟨Al,tX⟩:=List.pairwise_cons.1 h.Up
 have n6: ∀e',e'∈H→ ¬b8 e' e.1:=fun e' wE hc=>Al e' wE e.1 Am hc;refine⟨fun a ha=>h.live a (List.mem_cons_of_mem _ ha),fun a ha=>h.done a (List.mem_cons_of_mem _ ha),fun z c hi hl=>?_,tX,fun x d fw=>?_,fun x d fw z c hi hl hc=>?_,?_⟩
 (·rcases h.cov z c hi hl with⟨d,h1⟩|⟨a,ha,hc⟩;(·exact .inl ⟨d,List.mem_append_left _ h1⟩);·rcases List.mem_cons.1 ha with rfl|ha;(·unfold b8 at hc;rw[if_pos hd]at hc;subst hc;exact .inl ⟨_,List.mem_append_right _ (List.mem_cons_self ..)⟩);·exact .inr ⟨a,ha,hc⟩)
 (·rcases List.mem_append.1 fw with h1|h1;(·obtain⟨k1,k2,k3⟩:=h.res x d h1;exact⟨k1,k2,fun a ha=>k3 a (List.mem_cons_of_mem _ ha)⟩);·obtain⟨rfl,rfl⟩:=Prod.mk.inj (List.mem_singleton.1 h1);exact⟨hm,h40,n6⟩)
 (·rcases List.mem_append.1 fw with h1|h1;(·obtain⟨a,ha,CJ⟩:=hc;exact h.ord x d h1 z c hi hl ⟨a,List.mem_cons_of_mem _ ha,CJ⟩);·obtain⟨rfl,rfl⟩:=Prod.mk.inj (List.mem_singleton.1 h1);obtain⟨a,ha,CJ⟩:=hc;have EE:=cT.1 (GL h (List.mem_cons_of_mem _ ha) hi hl CJ);have hle:=zz a ha;rw[mN];dsimp only at EE⊢;unfold ez at hle;split at hle;(·rename_i heq;rw[heq]at EE;split at hle;(·rename_i hx;exfalso;refine n6 a ha ?_;unfold b8;rw[hx];split;(·rfl);·exact List.prefix_refl _);·rename_i hx;have h1:=tD hx hle;(have h2:bytesLess e.1 z=true:=by unfold b8 at CJ;split at CJ;(·rw[←CJ];exact h1);·exact Cc h1 CJ);by_cases k1:e.2.2.1<c;(·exact .inl k1);·by_cases k2:e.1.length<z.length;(·exact .inr ⟨by omega,.inl k2⟩);·exact .inr ⟨by omega,.inr ⟨by omega,h2⟩⟩);·rename_i bW;have hle:=cT.1 hle;have bt2: ¬(a.2.2.1=e.2.2.1∧a.2.2.2=e.2.2.2):=fun hh=>bW (Prod.ext hh.1 hh.2);by_cases k1:e.2.2.1<c;(·exact .inl k1);·exact .inr ⟨by omega,.inl (by omega)⟩)
 ·rw[List.pairwise_append];refine⟨h.Ur,List.pairwise_singleton ..,fun a ha b hb=>?_⟩;rw[List.mem_singleton.1 hb];exact h.ord a.1 a.2 ha e.1 e.2.2.1 hm.1 h40 ⟨e,List.mem_cons_self ..,Am⟩
theorem Jx {H C:List FE} {R:List dB} {e:FE} (h:iD rs acc out (e::H) R)(hd:e.2.1=false)(GN: ∀a,a∈C→a.2.1=false→bV (iC rs acc out a.1) (some a.2.2))(gk: ∀a,a∈C→a.2.1=true→bV (gr rs acc out a.1) (some a.2.2)∧a.1.length≤40)(bo1: ∀z c,Ao rs acc out z c→z.length≤40→e.1 <+: z→ ∃a,a∈C∧b8 a z)(zJ: ∀a,a∈C→ ∀z,b8 a z→e.1 <+: z)(bo2:C.Pairwise (fun a b=> ∀z,b8 a z→b8 b z→False)):iD rs acc out (H++C) R:=by
 (have Am: ∀z,b8 e z↔e.1 <+: z:=fun z=>by unfold b8;rw[if_neg (by rw[hd];decide)]);obtain⟨Al,tX⟩:=List.pairwise_cons.1 h.Up;(have up: ∀a,a∈H++C→ ∀z,b8 a z→ ∃b,b∈e::H∧b8 b z:=fun a ha z hc=>by rcases List.mem_append.1 ha with ha|ha;(·exact⟨a,List.mem_cons_of_mem _ ha,hc⟩);·exact⟨e,List.mem_cons_self ..,(Am z).2 (zJ a ha z hc)⟩)
 refine⟨fun a ha hf=>?_,fun a ha hf=>?_,fun z c hi hl=>?_,?_,fun x d hm=>?_,fun x d hm z c hi hl⟨a,ha,hc⟩=>h.ord x d hm z c hi hl (up a ha z hc),h.Ur⟩;(·rcases List.mem_append.1 ha with ha|ha;(·exact h.live a (List.mem_cons_of_mem _ ha) hf);·exact GN a ha hf)
 (·rcases List.mem_append.1 ha with ha|ha;(·exact h.done a (List.mem_cons_of_mem _ ha) hf);·exact gk a ha hf);(·rcases h.cov z c hi hl with h1|⟨a,ha,hc⟩;(·exact .inl h1);·rcases List.mem_cons.1 ha with rfl|ha;(·obtain⟨b,hb,hcb⟩:=bo1 z c hi hl ((Am z).1 hc);exact .inr ⟨b,List.mem_append_right _ hb,hcb⟩);·exact .inr ⟨a,List.mem_append_left _ ha,hc⟩)
 (·rw[List.pairwise_append];exact⟨tX,bo2,fun a ha b hb z h1 h2=>Al a ha z ((Am z).2 (zJ b hb z h2)) h1⟩);·obtain⟨k1,k2,k3⟩:=h.res x d hm;refine⟨k1,k2,fun a ha hc=>?_⟩;obtain⟨b,hb,hcb⟩:=up a ha x hc;exact k3 b hb hcb
theorem wh {o:Option aZ} (ho:bV (iC rs acc out []) o):iD rs acc out (match o with|some l=>[([],false,l)]|none=>[]) []:=by
 cases o with|none=>refine⟨fun e he=>absurd he List.not_mem_nil,fun e he=>absurd he List.not_mem_nil,fun z c hi hl=>?_,List.Pairwise.nil,fun x d hm=>absurd hm List.not_mem_nil,fun x d hm=>absurd hm List.not_mem_nil,List.Pairwise.nil⟩;exact absurd ⟨z,c,by simpa using hi,by simpa using hl,rfl⟩ (ho _)|some l=>refine⟨fun e he _=>?_,fun e he hd=>?_,fun z c hi hl=>.inr ⟨_,List.mem_cons_self ..,?_⟩,List.pairwise_singleton ..,fun x d hm=>absurd hm List.not_mem_nil,fun x d hm=>absurd hm List.not_mem_nil,List.Pairwise.nil⟩;(·rw[List.mem_singleton.1 he];exact ho);(·rw[List.mem_singleton.1 he]at hd;cases hd);·unfold b8;rw[if_neg (show¬(false=true)by decide)];exact List.nil_prefix
theorem zK: ∀ {R L:List dB},R.Pairwise (fun a b=>fG a b=true)→L.Pairwise (fun a b=>fG a b=true)→(∀a,a∈R→a∈L)→(∀a,a∈R→ ∀b,b∈L→b∉R→fG a b=true)→R=L.take R.length|[],L,_,_,_,_=>(by simp)|a::R,[],_,_,h,_=>absurd (h a (List.mem_cons_self ..)) List.not_mem_nil|a::R,b::L,h1,h2,h3,h4=>by obtain⟨p1,q1⟩:=List.pairwise_cons.1 h1;obtain⟨p2,q2⟩:=List.pairwise_cons.1 h2;(have e:a=b:=by rcases List.mem_cons.1 (h3 a (List.mem_cons_self ..))with e|ha;(·exact e);·exfalso;have hba:=p2 a ha;by_cases hb:b∈a::R;(·rcases List.mem_cons.1 hb with rfl|hb;(·rw[mO]at hba;cases hba);·have:=lY (p1 b hb) hba;rw[mO]at this;cases this);·have:=lY (h4 a (List.mem_cons_self ..) b (List.mem_cons_self ..) hb) hba;rw[mO]at this;cases this);subst e;(have hna: ∀x,x∈R→x≠a:=fun x hx e=>by have:=p1 x hx;rw[e,mO]at this;cases this);(have hnl: ∀x,x∈L→x≠a:=fun x hx e=>by have:=p2 x hx;rw[e,mO]at this;cases this);rw[List.length_cons,List.take_succ_cons];congr 1;refine zK q1 q2 (fun x hx=>?_) fun x hx y hy hn=>h4 x (List.mem_cons_of_mem _ hx) y (List.mem_cons_of_mem _ hy) fun hh=>?_;(·rcases List.mem_cons.1 (h3 x (List.mem_cons_of_mem _ hx))with e|h;(·exact absurd e (hna x hx));·exact h);·rcases List.mem_cons.1 hh with e|h;(·exact hnl y hy e);·exact hn h
theorem qM {x:aI} {c d:Int} (h:Nn rs acc out x c)(h':Nn rs acc out x d):c=d:=by have:=h.2 d h'.1;have:=h'.2 c h.1;omega
theorem zL {H:List FE} {R L:List dB} (h:iD rs acc out H R)(hL:Cd rs acc out L):R=L.take R.length:=by
 refine zK h.Ur hL.Ur (fun a ha=>?_) fun a ha b hb hn=>?_;(·obtain⟨k1,k2,_⟩:=h.res a.1 a.2 ha;exact(hL.mem a.1 a.2).2 ⟨k1,k2⟩);·obtain⟨k1,k2⟩:=(hL.mem b.1 b.2).1 hb;rcases h.cov b.1 b.2 k1.1 k2 with⟨d,hd⟩|hc;(·have:=qM k1 (h.res b.1 d hd).1;exact absurd (by rw[←this]at hd;exact hd) hn);·exact h.ord a.1 a.2 ha b.1 b.2 k1.1 k2 hc
theorem Ce {R L:List dB} (h:iD rs acc out [] R)(hL:Cd rs acc out L):R=L:=by
 have h1:=zL h hL;(have h2: ∀b,b∈L→b∈R:=fun b hb=>by obtain⟨k1,k2⟩:=(hL.mem b.1 b.2).1 hb;rcases h.cov b.1 b.2 k1.1 k2 with⟨d,hd⟩|⟨e,he,_⟩;(·have:=qM k1 (h.res b.1 d hd).1;rw[←this]at hd;exact hd);·exact absurd he List.not_mem_nil)
 have h3:=zK hL.Ur h.Ur h2 fun a ha b hb hn=>absurd ((hL.mem b.1 b.2).2 ⟨(h.res b.1 b.2 hb).1,(h.res b.1 b.2 hb).2.1⟩) hn;have l1:=congrArg List.length h1;have l2:=congrArg List.length h3
 rw[List.length_take]at l1 l2;rw[h1,List.take_of_length_le (by omega)]
end Go.Proofs.YtgpkijnphchkpaaGreat.Rev
namespace Go.Proofs.YtgpkijnphchkpaaGreat.Rev
set_option maxHeartbeats 1000000
section
variable {α:Type} (less:α→α→Bool)
def bS(xs:List α)(i j:Nat):List α:=match xs[i]?,xs[j]? with|some a,some b=>(xs.set i b).set j a|_,_=>xs
def ue(xs:List α)(j:Nat):List α:=if h:j=0 then xs else match xs[j]?,xs[(j-1)/2]? with|some a,some b=>if less a b=true then ue (bS xs ((j-1)/2) j) ((j-1)/2)else xs|_,_=>xs termination_by j decreasing_by omega
def dF(xs:List α)(i n:Nat):Nat:=match xs[2*i+2]?,xs[2*i+1]? with|some a,some b=>if 2*i+2<n∧less a b=true then 2*i+2 else 2*i+1|_,_=>2*i+1
theorem ku(xs:List α)(i n:Nat):i<dF less xs i n∧(dF less xs i n=2*i+1∨dF less xs i n=2*i+2):=by unfold dF;split;(·split<;>omega);·omega
def eg(xs:List α)(i n:Nat):List α:=if h:n≤2*i+1 then xs else match xs[dF less xs i n]?,xs[i]? with|some a,some b=>if less a b=true then eg (bS xs i (dF less xs i n)) (dF less xs i n) n else xs|_,_=>xs termination_by n-i decreasing_by have:=(ku less xs i n).1;omega
end
section
variable {α:Type} {less:α→α→Bool}
theorem dT(xs:List α)(i j:Nat):(bS xs i j).length=xs.length:=by unfold bS;split<;>simp
theorem swap_perm(xs:List α)(i j:Nat):(bS xs i j).Perm xs:=by
 unfold bS;split;(·rename_i a b ha hb;obtain⟨h1,rfl⟩:=List.getElem?_eq_some_iff.1 ha;obtain⟨h2,rfl⟩:=List.getElem?_eq_some_iff.1 hb;exact List.set_set_perm h1 h2)
 ·exact List.Perm.refl _
theorem xk {xs:List α} {i j:Nat} {a b:α} (ha:xs[i]?=some a)(hb:xs[j]?=some b)(k:Nat):(bS xs i j)[k]?=if k=j then some a else if k=i then some b else xs[k]?:=by
 have h1:=(List.getElem?_eq_some_iff.1 ha).1;have h2:=(List.getElem?_eq_some_iff.1 hb).1;unfold bS;rw[ha,hb];dsimp only;by_cases e1:k=j;(·rw[if_pos e1,e1,List.getElem?_set_self (by simpa using h2)])
 ·rw[if_neg e1,List.getElem?_set_ne (Ne.symm e1)];by_cases e2:k=i;(·rw[if_pos e2,e2,List.getElem?_set_self h1]);·rw[if_neg e2,List.getElem?_set_ne (Ne.symm e2)]
def AY(less:α→α→Bool)(xs:List α)(a b:Nat):Prop:= ∀x y,xs[a]?=some x→xs[b]?=some y→less y x=false
structure GO(less:α→α→Bool):Prop where
 irr: ∀a,less a a=false
 S5: ∀a b,less a b=true→less b a=false
 trans: ∀a b c,less b a=false→less c b=false→less c a=false
def iE(less:α→α→Bool)(xs:List α)(n:Nat):Prop:= ∀k,0<k→k<n→AY less xs ((k-1)/2) k
theorem GP(ho:GO less) {xs:List α} {a b c:Nat} (hb:b<xs.length)(h1:AY less xs a b)(h2:AY less xs b c):AY less xs a c:=fun x y hx hy=>ho.trans _ _ _ (h1 x _ hx (List.getElem?_eq_getElem hb)) (h2 _ y (List.getElem?_eq_getElem hb) hy)
theorem vq(xs:List α)(j:Nat):(ue less xs j).length=xs.length:=by
 induction j using Nat.strongRecOn generalizing xs with|_ j ih=>unfold ue;split;(·rfl);·split;(·split;(·rw[ih _ (by omega),dT]);·rfl);·rfl
theorem DR(xs:List α)(j:Nat):(ue less xs j).Perm xs:=by
 induction j using Nat.strongRecOn generalizing xs with|_ j ih=>unfold ue;split;(·exact List.Perm.refl _);·split;(·split;(·exact(ih _ (by omega) _).trans (swap_perm ..));·exact List.Perm.refl _);·exact List.Perm.refl _
theorem ai7(ho:GO less)(n:Nat)(j:Nat): ∀(xs:List α),xs.length=n→j<n→(∀k,0<k→k<n→k≠j→AY less xs ((k-1)/2) k)→(∀k,0<k→k<n→(k-1)/2=j→0<j→AY less xs ((j-1)/2) k)→iE less (ue less xs j) n:=by
 induction j using Nat.strongRecOn with|_ j ih=>intro xs hn hj hA hB;unfold ue;split;(·rename_i h0;intro k h1 h2;exact hA k h1 h2 (by omega));·rename_i h0;obtain⟨a,ha⟩: ∃a,xs[j]?=some a:=⟨_,List.getElem?_eq_getElem (by omega)⟩;obtain⟨b,hb⟩: ∃b,xs[(j-1)/2]?=some b:=⟨_,List.getElem?_eq_getElem (by omega)⟩;rw[ha,hb];dsimp only;split;(·rename_i hl;have sw:=xk hb ha;refine ih _ (by omega) _ (by rw[dT];exact hn) (by omega) (fun k k0 kn kne x y hx hy=>?_) (fun k k0 kn kp ip x y hx hy=>?_);(·rw[sw]at hx hy;by_cases k1:k=j;(·subst k1;rw[if_pos rfl]at hy;rw[if_neg (by omega),if_pos rfl]at hx;injection hx with hx;injection hy with hy;subst hx hy;exact ho.S5 _ _ hl);·rw[if_neg k1,if_neg kne]at hy;by_cases k2:(k-1)/2=j;(·rw[if_pos k2]at hx;injection hx with hx;subst hx;exact hB k k0 kn k2 (by omega) _ y hb hy);·rw[if_neg k2]at hx;by_cases k3:(k-1)/2=(j-1)/2;(·rw[if_pos k3]at hx;injection hx with hx;subst hx;refine ho.trans _ _ _ (ho.S5 _ _ hl) (hA k k0 kn k1 b y (by rw[k3];exact hb) hy));·rw[if_neg k3]at hx;exact hA k k0 kn k1 x y hx hy);·rw[sw]at hx hy;rw[if_neg (by omega),if_neg (by omega)]at hx;by_cases k1:k=j;(·rw[if_pos k1]at hy;injection hy with hy;subst hy;exact hA _ ip (by omega) (by omega) x _ hx hb);·rw[if_neg k1,if_neg (by omega)]at hy;refine ho.trans _ _ _ (hA _ ip (by omega) (by omega) x _ hx hb) (hA k k0 kn k1 b y (by rw[kp];exact hb) hy));·rename_i hl;intro k k0 kn;by_cases k1:k=j;(·subst k1;intro x y hx hy;rw[hb]at hx;rw[ha]at hy;injection hx with hx;injection hy with hy;subst hx hy;simpa using hl);·exact hA k k0 kn k1
theorem vr(ho:GO less) {xs:List α} {b:α} (h:iE less xs xs.length):iE less (ue less (xs++ [b]) xs.length) (xs.length+1):=by
 refine ai7 ho (xs.length+1) xs.length (xs++ [b]) (by simp) (by omega) (fun k k0 kn kne x y hx hy=>?_) (fun k k0 kn kp _=>by omega);rw[List.getElem?_append_left (by omega)]at hx hy
 exact h k k0 (by omega) x y hx hy
theorem GQ(n:Nat): ∀(m i:Nat)(xs:List α),n-i≤m→(eg less xs i n).length=xs.length:=by
 intro m;induction m with|zero=>intro i xs h;unfold eg;rw[dif_pos (by omega)]|succ m ih=>intro i xs h;unfold eg;split;(·rfl);·have:=(ku less xs i n).1;split;(·split;(·rw[ih _ _ (by omega),dT]);·rfl);·rfl
theorem Np(n:Nat): ∀(m i:Nat)(xs:List α),n-i≤m→(eg less xs i n).Perm xs:=by
 intro m;induction m with|zero=>intro i xs h;unfold eg;rw[dif_pos (by omega)]|succ m ih=>intro i xs h;unfold eg;split;(·exact List.Perm.refl _);·have:=(ku less xs i n).1;split;(·split;(·exact(ih _ _ (by omega)).trans (swap_perm ..));·exact List.Perm.refl _);·exact List.Perm.refl _
theorem zM {xs:List α} {i n:Nat} (h: ¬n≤2*i+1):dF less xs i n<n:=by unfold dF;split;(·split<;>omega);·omega
theorem Nq(n:Nat): ∀(m i:Nat)(xs:List α),n-i≤m→i<n→ ∀k,n≤k→(eg less xs i n)[k]?=xs[k]?:=by
 intro m;induction m with|zero=>intro i xs h hi;omega|succ m ih=>intro i xs h hi k hk;unfold eg;split;(·rfl);·rename_i hn;have hc:=(ku less xs i n).1;have hcn:=zM (less:=less) (xs:=xs) hn;split;(·rename_i a b ha hb;split;(·rw[ih _ _ (by omega) hcn k hk,xk hb ha,if_neg (by omega),if_neg (by omega)]);·rfl);·rfl
theorem Nr(ho:GO less)(n:Nat): ∀(m i:Nat)(xs:List α),n-i≤m→n≤xs.length→i<n→(∀k,0<k→k<n→(k-1)/2≠i→AY less xs ((k-1)/2) k)→(∀k,0<k→k<n→(k-1)/2=i→0<i→AY less xs ((i-1)/2) k)→iE less (eg less xs i n) n:=by
 intro m;induction m with|zero=>intro i xs h _ hi;omega|succ m ih=>intro i xs h hnl hi hC hD;unfold eg;split;(·rename_i h0;intro k k0 kn;exact hC k k0 kn (by omega));·rename_i h0;have hc:=ku less xs i n;have hcn:=zM (less:=less) (xs:=xs) h0;(have zz: ∀k,0<k→k<n→(k-1)/2=i→AY less xs (dF less xs i n) k:=fun k k0 kn kp x y hx hy=>by(have k2:k=2*i+1∨k=2*i+2:=by omega);obtain⟨c1,HO⟩: ∃a,xs[2*i+1]?=some a:=⟨_,List.getElem?_eq_getElem (by omega)⟩;unfold dF at hx;rw[HO]at hx;cases h2:xs[2*i+2]? with|none=>rw[h2]at hx;dsimp only at hx;rcases k2 with rfl|rfl;(·rw[HO]at hx hy;injection hx with hx;injection hy with hy;subst hx hy;exact ho.irr _);(·rw[h2]at hy;cases hy)|some c2=>rw[h2]at hx;dsimp only at hx;split at hx;(·rename_i Bi;rw[h2]at hx;injection hx with hx;subst hx;rcases k2 with rfl|rfl;(·rw[HO]at hy;injection hy with hy;subst hy;exact ho.S5 _ _ Bi.2);·rw[h2]at hy;injection hy with hy;subst hy;exact ho.irr _);·rename_i Bi;rw[HO]at hx;injection hx with hx;subst hx;rcases k2 with rfl|rfl;(·rw[HO]at hy;injection hy with hy;subst hy;exact ho.irr _);·rw[h2]at hy;injection hy with hy;subst hy;rw[Bool.eq_false_iff];intro hh;exact Bi ⟨kn,hh⟩);(have hpc:(dF less xs i n-1)/2=i:=by omega);obtain⟨a,ha⟩: ∃a,xs[dF less xs i n]?=some a:=⟨_,List.getElem?_eq_getElem (by omega)⟩;obtain⟨b,hb⟩: ∃b,xs[i]?=some b:=⟨_,List.getElem?_eq_getElem (by omega)⟩;rw[ha,hb];dsimp only;generalize dF less xs i n=j at*;split;(·rename_i hl;have sw:=xk hb ha;refine ih _ _ (by omega) (by rw[dT];exact hnl) hcn (fun k k0 kn kne x y hx hy=>?_) (fun k k0 kn kp jp x y hx hy=>?_);(·rw[sw]at hx hy;rw[if_neg kne]at hx;by_cases k1:(k-1)/2=i;(·rw[if_pos k1]at hx;injection hx with hx;subst hx;by_cases k2:k=j;(·rw[if_pos k2]at hy;injection hy with hy;subst hy;exact ho.S5 _ _ hl);·rw[if_neg k2,if_neg (by omega)]at hy;exact zz k k0 kn k1 _ y ha hy);·rw[if_neg k1]at hx;have k3:k≠j:=fun e=>k1 (by rw[e];exact hpc);rw[if_neg k3]at hy;by_cases k2:k=i;(·rw[if_pos k2]at hy;injection hy with hy;subst hy;subst k2;exact hD j (by omega) hcn hpc k0 x _ hx ha);·rw[if_neg k2]at hy;exact hC k k0 kn k1 x y hx hy);·rw[sw]at hx hy;rw[hpc,if_neg (by omega),if_pos rfl]at hx;injection hx with hx;subst hx;rw[if_neg (by omega),if_neg (by omega)]at hy;exact hC k k0 kn (by omega) _ y (by rw[kp];exact ha) hy);·rename_i hl;have hl:less a b=false:=Bool.eq_false_iff.2 hl;intro k k0 kn;by_cases k1:(k-1)/2=i;(·intro x y hx hy;rw[k1,hb]at hx;injection hx with hx;subst hx;exact ho.trans _ _ _ hl (zz k k0 kn k1 a y ha hy));·exact hC k k0 kn k1
theorem Jy(ho:GO less) {xs:List α} {n:Nat} (h:iE less xs n)(hn:n≤xs.length): ∀k,k<n→AY less xs 0 k:=by
 intro k;induction k using Nat.strongRecOn with|_ k ih=>intro hk;cases k with|zero=>intro x y hx hy;rw[hx]at hy;injection hy with hy;subst hy;exact ho.irr _|succ k=>exact GP ho (by omega) (ih ((k+1-1)/2) (by omega) (by omega)) (h (k+1) (by omega) hk)
def rP(less:α→α→Bool)(xs:List α):List α:=eg less (bS xs 0 (xs.length-1)) 0 (xs.length-1)
theorem S6(ho:GO less) {xs:List α} {e:α} (he:xs[0]?=some e)(h:iE less xs xs.length): ∃ys,rP less xs=ys++ [e]∧(e::ys).Perm xs∧iE less ys ys.length∧ ∀a,a∈ys→less a e=false:=by
 have hlen:=(List.getElem?_eq_some_iff.1 he).1;obtain⟨l,hl⟩: ∃l,xs[xs.length-1]?=some l:=⟨_,List.getElem?_eq_getElem (by omega)⟩;have sw:=xk he hl;have be4:=Jy ho h (Nat.le_refl _)
 (have bo3:(rP less xs).length=xs.length:=by unfold rP;rw[GQ _ _ _ _ (Nat.le_refl _),dT]);(have be5:(rP less xs).Perm xs:=by unfold rP;exact(Np _ _ _ _ (Nat.le_refl _)).trans (swap_perm ..))
 (have be6:(rP less xs)[xs.length-1]?=some e:=by unfold rP;by_cases h1:xs.length=1;(·unfold eg;rw[dif_pos (by omega),sw,if_pos rfl]);·rw[Nq _ _ _ _ (Nat.le_refl _) (by omega) _ (Nat.le_refl _),sw,if_pos rfl])
 (have be7:iE less (rP less xs) (xs.length-1):=by unfold rP;by_cases h1:xs.length=1;(·intro k k0 kn;omega);·refine Nr ho _ _ _ _ (Nat.le_refl _) (by rw[dT];omega) (by omega) (fun k k0 kn kne x y hx hy=>?_) (fun k k0 kn kp i0=>by omega);rw[sw,if_neg (by omega),if_neg kne]at hx;rw[sw,if_neg (by omega),if_neg (by omega)]at hy;exact h k k0 (by omega) x y hx hy)
 (have S7:rP less xs=(rP less xs).take (xs.length-1)++ [e]:=by(conv=>lhs;rw[←List.take_append_drop (xs.length-1) (rP less xs)]);congr 1;(have:(rP less xs).drop (xs.length-1)=e::(rP less xs).drop (xs.length-1+1):=by obtain⟨h1,h2⟩:=List.getElem?_eq_some_iff.1 be6;rw[List.drop_eq_getElem_cons h1,h2]);rw[this,List.drop_of_length_le (by omega)])
 (have hp:(e::(rP less xs).take (xs.length-1)).Perm xs:=by refine List.Perm.trans ?_ be5;(conv=>rhs;rw[S7]);exact(List.perm_append_singleton e _).symm);refine⟨_,S7,hp,?_,fun a ha=>?_⟩
 (·rw[List.length_take,bo3,Nat.min_eq_left (by omega)];intro k k0 kn x y hx hy;rw[List.getElem?_take,if_pos (by omega)]at hx hy;exact be7 k k0 kn x y hx hy);·obtain⟨k,hk⟩:=List.getElem?_of_mem (hp.mem_iff.1 (List.mem_cons_of_mem _ ha));exact be4 k (List.getElem?_eq_some_iff.1 hk).1 e a he hk
end
end Go.Proofs.YtgpkijnphchkpaaGreat.Rev
namespace Go.Proofs.YtgpkijnphchkpaaGreat.Rev
set_option maxHeartbeats 1000000
abbrev Place:=Int×Int
def vu:List dB→aI→Int→List dB|[],x,c=>[(x,c)]|r::f,x,c=>if r.1=x then(r.1,min r.2 c)::f else r::vu f x c
def xl(out:aI)(at_:Int)(part:aI):Bool:=part.isPrefixOf (out.drop at_.toNat)
def findF(rs:List Rl)(acc:Int)(out:aI):Nat→List Place→Place→aI→Int→List dB→List dB|0,_,_,_,_,f=>f|n+1,l,p,x,c,f=>rs.foldl (fun f r=>if r.1=p.1∧xl out p.2 r.2.2.2.1=true∧(r.2.1,p.2+(r.2.2.2.1.length:Int))∉l then findF rs acc out n (l++ [(r.2.1,p.2+(r.2.2.2.1.length:Int))]) (r.2.1,p.2+(r.2.2.2.1.length:Int)) (x++r.2.2.1) (c+r.2.2.2.2) f else f) (if p.2=(out.length:Int)∧fy acc p.1=true∧x.length≤40 then vu f x c else f)
structure nL(f:List dB)(S:aI→Int→Prop):Prop where
 nodup:(f.map (·.1)).Nodup
 sound: ∀x d,(x,d)∈f→S x d∧ ∀c,S x c→d≤c
 all: ∀x c,S x c→ ∃d,(x,d)∈f
theorem Lb {x:aI} {c:Int} : ∀ {f:List dB} {y:aI} {d:Int},(f.map (·.1)).Nodup→((y,d)∈vu f x c↔(y≠x∧(y,d)∈f)∨(y=x∧((∃e,(x,e)∈f∧d=min e c)∨((∀e,(x,e)∉f)∧d=c))))|[],y,d,_=>(by simp[vu])|r::f,y,d,hn=>by obtain⟨h1,h2⟩:=List.nodup_cons.1 hn;unfold vu;split;(·rename_i hx;have n6: ∀e,(x,e)∉f:=fun e he=>h1 (by show r.1∈_;rw[hx];exact List.mem_map_of_mem (f:=(·.1)) he);constructor;(·intro h;rcases List.mem_cons.1 h with h|h;(·obtain⟨rfl,rfl⟩:=Prod.mk.inj h;exact .inr ⟨hx,.inl ⟨r.2,by rw[←hx];exact List.mem_cons_self ..,rfl⟩⟩);·by_cases hy:y=x;(·subst hy;exact absurd h (n6 d));·exact .inl ⟨hy,List.mem_cons_of_mem _ h⟩);·rintro(⟨hy,h⟩|⟨rfl,⟨e,he,rfl⟩|⟨h,rfl⟩⟩);(·rcases List.mem_cons.1 h with h|h;(·exact absurd (by rw[←hx,←h]) hy);·exact List.mem_cons_of_mem _ h);(·rcases List.mem_cons.1 he with h|h;(·rw[←h];exact List.mem_cons_self ..);·exact absurd h (n6 e));·exact absurd (List.mem_cons_self ..) (by have:=h r.2;rw[←hx]at this;exact this));·rename_i hx;have ih:=Lb (x:=x) (c:=c) (f:=f) (y:=y) (d:=d) h2;rw[List.mem_cons,ih];constructor;(·rintro(h|⟨hy,h⟩|⟨hy,⟨e,he,hd⟩|⟨h,hd⟩⟩);(·exact .inl ⟨fun e=>hx (by rw[←h,e]),by rw[h];exact List.mem_cons_self ..⟩);(·exact .inl ⟨hy,List.mem_cons_of_mem _ h⟩);(·exact .inr ⟨hy,.inl ⟨e,List.mem_cons_of_mem _ he,hd⟩⟩);·refine .inr ⟨hy,.inr ⟨fun e he=>?_,hd⟩⟩;rcases List.mem_cons.1 he with he|he;(·exact hx (by rw[←he]));·exact h e he);·rintro(⟨hy,h⟩|⟨hy,⟨e,he,hd⟩|⟨h,hd⟩⟩);(·rcases List.mem_cons.1 h with h|h;(·exact .inl h);·exact .inr (.inl ⟨hy,h⟩));(·rcases List.mem_cons.1 he with he|he;(·exact absurd (by rw[←he]) hx);·exact .inr (.inr ⟨hy,.inl ⟨e,he,hd⟩⟩));·exact .inr (.inr ⟨hy,.inr ⟨fun e he=>h e (List.mem_cons_of_mem _ he),hd⟩⟩)
theorem GR {x:aI} {c:Int} : ∀ {f:List dB} {y:aI},y∈(vu f x c).map (·.1)↔y∈f.map (·.1)∨y=x|[],y=>(by simp[vu])|r::f,y=>by unfold vu;split;(·rename_i hx;simp only[List.map_cons,List.mem_cons];constructor;(·exact .inl);·rintro(h|h);(·exact h);·exact .inl (by rw[h,hx]));·simp only[List.map_cons,List.mem_cons,GR (f:=f),or_assoc]
theorem Cf {x:aI} {c:Int} : ∀ {f:List dB},(f.map (·.1)).Nodup→((vu f x c).map (·.1)).Nodup|[],_=>(by simp[vu])|r::f,hn=>by obtain⟨h1,h2⟩:=List.nodup_cons.1 hn;unfold vu;split;(·exact hn);·rename_i hx;rw[List.map_cons,List.nodup_cons];refine⟨fun h=>?_,Cf h2⟩;rcases GR.1 h with h|h;(·exact h1 h);·exact hx h
theorem Jz {f:List dB} {S:aI→Int→Prop} {x:aI} {c:Int} (h:nL f S):nL (vu f x c) (fun y d=>S y d∨(y=x∧d=c)):=by
 have hm:=fun y d=>Lb (x:=x) (c:=c) (f:=f) (y:=y) (d:=d) h.nodup;refine⟨Cf h.nodup,fun y d hd=>?_,fun y d hd=>?_⟩;(·rcases(hm y d).1 hd with⟨hy,h1⟩|⟨rfl,⟨e,h1,rfl⟩|⟨h1,rfl⟩⟩;(·obtain⟨k1,k2⟩:=h.sound y d h1;exact⟨.inl k1,fun c' iM=>iM.elim (k2 c') fun hh=>absurd hh.1 hy⟩);(·obtain⟨k1,k2⟩:=h.sound y e h1;refine⟨?_,fun c' iM=>?_⟩;(·by_cases hle:e≤c;(·rw[Int.min_eq_left hle];exact .inl k1);·rw[Int.min_eq_right (by omega)];exact .inr ⟨rfl,rfl⟩);·rcases iM with iM|⟨_,rfl⟩;(·have:=k2 c' iM;omega);·omega);·refine⟨.inr ⟨rfl,rfl⟩,fun c' iM=>?_⟩;rcases iM with iM|⟨_,rfl⟩;(·obtain⟨e,he⟩:=h.all y c' iM;exact absurd he (h1 e));·omega)
 ·rcases hd with hd|⟨rfl,rfl⟩;(·obtain⟨e,he⟩:=h.all y d hd;by_cases hy:y=x;(·subst hy;exact⟨min e c,(hm y _).2 (.inr ⟨rfl,.inl ⟨e,he,rfl⟩⟩)⟩);·exact⟨e,(hm y e).2 (.inl ⟨hy,he⟩)⟩);·by_cases hh: ∃e,(y,e)∈f;(·obtain⟨e,he⟩:=hh;exact⟨min e d,(hm y _).2 (.inr ⟨rfl,.inl ⟨e,he,rfl⟩⟩)⟩);·exact⟨d,(hm y d).2 (.inr ⟨rfl,.inr ⟨fun e he=>hh ⟨e,he⟩,rfl⟩⟩)⟩
theorem fe {f:List dB} {S T:aI→Int→Prop} (h: ∀x c,S x c↔T x c)(hf:nL f S):nL f T:=⟨hf.nodup,fun x d hd=>⟨(h x d).1 (hf.sound x d hd).1,fun c hc=>(hf.sound x d hd).2 c ((h x c).2 hc)⟩,fun x c hc=>hf.all x c ((h x c).2 hc)⟩
theorem Lc {s:Nat} (hs:s<256) {i m:Nat} (hi:i<8)(hm:m<8)(h:s/2^i%2=0):(s+2^i)/2^m%2=1↔(s/2^m%2=1∨m=i):=by
 (have hi8:i=0∨i=1∨i=2∨i=3∨i=4∨i=5∨i=6∨i=7:=by omega);(have hm8:m=0∨m=1∨m=2∨m=3∨m=4∨m=5∨m=6∨m=7:=by omega);rcases hi8 with rfl|rfl|rfl|rfl|rfl|rfl|rfl|rfl<;>rcases hm8 with rfl|rfl|rfl|rfl|rfl|rfl|rfl|rfl<;>simp only[Nat.reducePow]at h⊢ <;>first|omega|(constructor<;>intro _<;>first|omega|exact .inr trivial)
theorem Ld {i m:Nat} (hi:i<8)(hm:m<8):2^i/2^m%2=1↔m=i:=by have:=Lc (s:=0) (by omega) hi hm (by simp);rw[Nat.zero_add]at this;rw[this];simp
structure DS(l:List Place)(p:cD):Prop where
 bits: ∀m:Int,0≤m→m<8→(fy p.2.2 m=true↔(m,p.1)∈l)
 le: ∀q,q∈l→q.2≤p.1
theorem tE {s m:Int} :fy s m=true↔s.toNat/2^m.toNat%2=1:=by simp[fy]
theorem DT:DS [(0,0)] (0,0,1):=by
 refine⟨fun m h0 h8=>?_,fun q hq=>by rw[List.mem_singleton.1 hq];exact Int.le_refl _⟩;rw[tE];have:=Ld (i:=0) (m:=m.toNat) (by decide) (by omega);simp only[Nat.pow_zero]at this
 rw[show((0,0,1):cD).2.2.toNat=1 from rfl,this];simp only[List.mem_singleton,Prod.mk.injEq,and_true];omega
variable {rs:List Rl} {acc:Int} {out:aI}
theorem DU {l:List Place} {p:cD} {r:Rl} (hv:DS l p)(hp:Ca out p)(hm:0≤r.2.1∧r.2.1<8):((r.1=p.2.1∧xl out p.1 r.2.2.2.1=true∧(r.2.1,p.1+(r.2.2.2.1.length:Int))∉l)↔ ∃q,da out p r=some q)∧ ∀q,da out p r=some q→q.1=p.1+(r.2.2.2.1.length:Int)∧q.2.1=r.2.1∧DS (l++ [(r.2.1,p.1+(r.2.2.2.1.length:Int))]) q:=by
 unfold xl da;by_cases ho:r.2.2.2.1=[];(·(have AD:(r.2.2.2.1.length:Int)=0:=by rw[ho];rfl);rw[AD,Int.add_zero];have hb:=hv.bits r.2.1 hm.1 hm.2;constructor;(·constructor;(·rintro⟨h1,h2,h3⟩;rw[if_pos ⟨h1,h2⟩,if_neg (by rw[ho];exact fun h=>h rfl),if_pos (Bool.eq_false_iff.2 fun hh=>h3 (hb.1 hh))];exact⟨_,rfl⟩);·rintro⟨q,hq⟩;split at hq;(·rename_i h1;rw[if_neg (by rw[ho];exact fun h=>h rfl)]at hq;split at hq;(·rename_i h3;exact⟨h1.1,h1.2,fun hh=>by rw[hb.2 hh]at h3;cases h3⟩);·cases hq);·cases hq);·intro q hq;split at hq;(·rw[if_neg (by rw[ho];exact fun h=>h rfl)]at hq;split at hq;(·rename_i h3;injection hq with hq;subst hq;refine⟨rfl,rfl,fun m h0 h8=>?_,fun x hx=>?_⟩;(·dsimp only;(have eR:p.2.2.toNat/2^r.2.1.toNat%2=0:=by have:=Bool.eq_false_iff.1 h3;rw[ne_eq,tE]at this;omega);have h2:=Lc (s:=p.2.2.toNat) (by have:=hp.seen;omega) (i:=r.2.1.toNat) (m:=m.toNat) (by omega) (by omega) eR;(have e:(p.2.2+mM r.2.1).toNat=p.2.2.toNat+2^r.2.1.toNat:=by have:=hp.seen;have hb:mM r.2.1=((2^r.2.1.toNat:Nat):Int):=rfl;rw[hb];generalize 2^r.2.1.toNat=z;omega);rw[tE,e,h2,List.mem_append,List.mem_singleton,←tE,hv.bits m h0 h8,Prod.mk.injEq];constructor;(·rintro(h|h);(·exact .inl h);·exact .inr ⟨by omega,rfl⟩);·rintro(h|h);(·exact .inl h);·exact .inr (by omega));·dsimp only;rcases List.mem_append.1 hx with hx|hx;(·exact hv.le x hx);·rw[List.mem_singleton.1 hx];exact Int.le_refl _);·cases hq);·cases hq)
 ·have AD:0<r.2.2.2.1.length:=List.length_pos_iff.2 ho;(have cK:(r.2.1,p.1+(r.2.2.2.1.length:Int))∉l:=fun hh=>by have:=hv.le _ hh;dsimp only at this;omega);constructor;(·constructor;(·rintro⟨h1,h2,_⟩;rw[if_pos ⟨h1,h2⟩,if_pos ho];exact⟨_,rfl⟩);·rintro⟨q,hq⟩;split at hq;(·rename_i h1;exact⟨h1.1,h1.2,cK⟩);·cases hq);·intro q hq;split at hq;(·injection hq with hq;subst hq;refine⟨rfl,rfl,fun m h0 h8=>?_,fun x hx=>?_⟩;(·dsimp only;have e:(mM r.2.1).toNat=2^r.2.1.toNat:=Int.toNat_natCast _;rw[tE,e,Ld (by omega) (by omega),List.mem_append,List.mem_singleton,Prod.mk.injEq];constructor;(·intro h;exact .inr ⟨by omega,rfl⟩);·rintro(h|h);(·have:=hv.le _ h;dsimp only at this;omega);·omega);·dsimp only;rcases List.mem_append.1 hx with hx|hx;(·have:=hv.le x hx;omega);·rw[List.mem_singleton.1 hx];exact Int.le_refl _);·cases hq
def JA(rs:List Rl)(acc:Int)(out:aI)(p:cD)(x:aI)(c:Int)(z:aI)(d:Int):Prop:= ∃y e,Path rs acc out p y e∧z=x++y∧d=c+e∧z.length≤40
theorem GU(h:qz rs): ∀(n:Nat)(l:List Place)(p:cD)(x:aI)(c:Int)(f:List dB)(S:aI→Int→Prop),Ca out p→ms out p<n→DS l p→nL f S→nL (findF rs acc out n l (p.2.1,p.1) x c f) (fun z d=>S z d∨JA rs acc out p x c z d):=by
 intro n;induction n with|zero=>intro _ _ _ _ _ _ _ hn;exact absurd hn (Nat.not_lt_zero _)|succ n ih=>intro l p x c f S hp hn hv hf;rw[findF];(have aV9:nL (if(p.2.1,p.1).2=(out.length:Int)∧fy acc (p.2.1,p.1).1=true∧x.length≤40 then vu f x c else f) (fun z d=>S z d∨(ic acc out p=true∧x.length≤40∧z=x∧d=c)):=by split;(·rename_i hc;refine fe (fun z d=>?_) (Jz hf);(have he:ic acc out p=true:=by unfold ic;rw[Bool.and_eq_true,decide_eq_true_eq];exact⟨hc.1,hc.2.1⟩);constructor;(·rintro(h1|⟨h1,h2⟩);(·exact .inl h1);·exact .inr ⟨he,hc.2.2,h1,h2⟩);·rintro(h1|⟨_,_,h1,h2⟩);(·exact .inl h1);·exact .inr ⟨h1,h2⟩);·rename_i hc;refine fe (fun z d=>?_) hf;constructor;(·exact .inl);·rintro(h1|⟨h1,h2,_⟩);(·exact h1);·unfold ic at h1;rw[Bool.and_eq_true,decide_eq_true_eq]at h1;exact absurd ⟨h1.1,h1.2,h2⟩ hc);(have ig: ∀(l2:List Rl)(f:List dB)(S:aI→Int→Prop),(∀r,r∈l2→r∈rs)→nL f S→nL (l2.foldl (fun f r=>if r.1=(p.2.1,p.1).1∧xl out (p.2.1,p.1).2 r.2.2.2.1=true∧(r.2.1,(p.2.1,p.1).2+(r.2.2.2.1.length:Int))∉l then findF rs acc out n (l++ [(r.2.1,(p.2.1,p.1).2+(r.2.2.2.1.length:Int))]) (r.2.1,(p.2.1,p.1).2+(r.2.2.2.1.length:Int)) (x++r.2.2.1) (c+r.2.2.2.2) f else f) f) (fun z d=>S z d∨ ∃r q,r∈l2∧da out p r=some q∧JA rs acc out q (x++r.2.2.1) (c+r.2.2.2.2) z d):=by intro l2;induction l2 with|nil=>intro f S _ hf;exact fe (fun z d=>by simp) hf|cons r l2 ih2=>intro f S rY hf;rw[List.foldl_cons];have hr:=rY r (List.mem_cons_self ..);obtain⟨v1,v2⟩:=DU (out:=out) hv hp (h.mode r hr);dsimp only;split;(·rename_i hc;obtain⟨q,hq⟩:=v1.1 hc;obtain⟨k1,k2,k3⟩:=v2 q hq;obtain⟨o1,o2,_⟩:=fk hp (h.mode r hr) hq;have:=ih (l++ [(r.2.1,p.1+(r.2.2.2.1.length:Int))]) q (x++r.2.2.1) (c+r.2.2.2.2) f S o1 (by omega) k3 hf;rw[k1,k2]at this;refine fe (fun z d=>?_) (ih2 _ _ (fun a ha=>rY a (List.mem_cons_of_mem _ ha)) this);constructor;(·rintro((h1|h1)|⟨r',q',h1,h2,h3⟩);(·exact .inl h1);(·exact .inr ⟨r,q,List.mem_cons_self ..,hq,h1⟩);·exact .inr ⟨r',q',List.mem_cons_of_mem _ h1,h2,h3⟩);·rintro(h1|⟨r',q',h1,h2,h3⟩);(·exact .inl (.inl h1));·rcases List.mem_cons.1 h1 with rfl|h1;(·rw[hq]at h2;injection h2 with h2;subst h2;exact .inl (.inr h3));·exact .inr ⟨r',q',h1,h2,h3⟩);·rename_i hc;refine fe (fun z d=>?_) (ih2 _ _ (fun a ha=>rY a (List.mem_cons_of_mem _ ha)) hf);constructor;(·rintro(h1|⟨r',q',h1,h2,h3⟩);(·exact .inl h1);·exact .inr ⟨r',q',List.mem_cons_of_mem _ h1,h2,h3⟩);·rintro(h1|⟨r',q',h1,h2,h3⟩);(·exact .inl h1);·rcases List.mem_cons.1 h1 with rfl|h1;(·exact absurd (v1.2 ⟨q',h2⟩) hc);·exact .inr ⟨r',q',h1,h2,h3⟩);refine fe (fun z d=>?_) (ig rs _ _ (fun r hr=>hr) aV9);constructor;(·rintro((h1|⟨h1,h2,rfl,rfl⟩)|⟨r,q,hr,hq,y,e,h1,rfl,rfl,h4⟩);(·exact .inl h1);(·exact .inr ⟨[],0,.done h1,by simp,by omega,h2⟩);·exact .inr ⟨r.2.2.1++y,r.2.2.2.2+e,.step hr hq h1,by rw[List.append_assoc],by omega,h4⟩);·rintro(h1|⟨y,e,h1,rfl,rfl,h4⟩);(·exact .inl (.inl h1));·cases h1 with|done he=>exact .inl (.inr ⟨he,by simpa using h4,by simp,by omega⟩)| @step _ q r y e hr hq Ma=>exact .inr ⟨r,q,hr,hq,y,e,Ma,by rw[List.append_assoc],by omega,h4⟩
def GV(l:List dB)(x:dB):List dB:=l.takeWhile (fun y=>fG y x)++x::l.dropWhile (fun y=>fG y x)
def aW0(rs:List Rl)(acc:Int)(out:aI):List dB:=(findF rs acc out (out.length*256+256) [(0,0)] (0,0) [] 0 []).foldl GV []
theorem GW {a b:dB} (h:a.1≠b.1)(h':fG a b=false):fG b a=true:=by
 have h2:=fun hh=>Bool.eq_false_iff.1 h' (mN.2 hh);rw[mN];by_cases k1:b.2<a.2;(·exact .inl k1);·(have k2:a.2=b.2:=by by_cases k:a.2<b.2;(·exact absurd (.inl k) h2);·omega);by_cases k3:b.1.length<a.1.length;(·exact .inr ⟨k2.symm,.inl k3⟩);·(have k4:a.1.length=b.1.length:=by by_cases k:a.1.length<b.1.length;(·exact absurd (.inr ⟨k2,.inl k⟩) h2);·omega);exact .inr ⟨k2.symm,.inr ⟨k4.symm,tD h (Bool.eq_false_iff.2 fun hh=>h2 (.inr ⟨k2,.inr ⟨k4,hh⟩⟩))⟩⟩
theorem GX: ∀ {l:List dB} {x:dB},l.Pairwise (fun a b=>fG a b=true)→(∀a,a∈l→a.1≠x.1)→ ∀a,a∈l.dropWhile (fun y=>fG y x)→fG x a=true|[],_,_,_,a,ha=>(by cases ha)|b::l,x,hs,hn,a,ha=>by obtain⟨p,q⟩:=List.pairwise_cons.1 hs;rw[List.dropWhile_cons]at ha;split at ha;(·exact GX q (fun c hc=>hn c (List.mem_cons_of_mem _ hc)) a ha);·rename_i hb;have hxb:=GW (hn b (List.mem_cons_self ..)) (Bool.eq_false_iff.2 hb);rcases List.mem_cons.1 ha with rfl|ha;(·exact hxb);·exact lY hxb (p a ha)
theorem qN {α:Type} {p:α→Bool} : ∀ {l:List α} {a:α},a∈l.takeWhile p→p a=true|[],_,h=>(by cases h)|b::l,a,h=>by rw[List.takeWhile_cons]at h;split at h;(·rename_i hb;rcases List.mem_cons.1 h with rfl|h;(·exact hb);·exact qN h);·cases h
theorem ai8 {l:List dB} {x:dB} (hs:l.Pairwise (fun a b=>fG a b=true))(hn: ∀a,a∈l→a.1≠x.1):(GV l x).Pairwise (fun a b=>fG a b=true):=by
 unfold GV;rw[List.pairwise_append];have hd:=GX hs hn;refine⟨hs.sublist (List.takeWhile_sublist _),List.Pairwise.cons hd (hs.sublist (List.dropWhile_sublist _)),fun a ha b hb=>?_⟩
 have ha':=qN ha;rcases List.mem_cons.1 hb with rfl|hb;(·exact ha');·exact lY ha' (hd b hb)
theorem Lf {l:List dB} {x y:dB} :y∈GV l x↔y=x∨y∈l:=by
 unfold GV;rw[List.mem_append,List.mem_cons];(conv=>rhs;rw[←List.takeWhile_append_dropWhile (p:=fun y=>fG y x) (l:=l),List.mem_append]);constructor;(·rintro(h|h|h);(·exact .inr (.inl h));(·exact .inl h);·exact .inr (.inr h))
 ·rintro(h|h|h);(·exact .inr (.inl h));(·exact .inl h);·exact .inr (.inr h)
theorem GY: ∀(f l:List dB),l.Pairwise (fun a b=>fG a b=true)→(f.map (·.1)).Nodup→(∀a,a∈l→a.1∉f.map (·.1))→(f.foldl GV l).Pairwise (fun a b=>fG a b=true)∧ ∀y,y∈f.foldl GV l↔y∈l∨y∈f|[],l,hs,_,_=>⟨hs,fun y=>by simp⟩|x::f,l,hs,hn,hd=>by obtain⟨n1,n2⟩:=List.nodup_cons.1 hn;have hx: ∀a,a∈l→a.1≠x.1:=fun a ha e=>hd a ha (by rw[e];exact List.mem_cons_self ..);(obtain⟨k1,k2⟩:=GY f (GV l x) (ai8 hs hx) n2 fun a ha=>by rcases Lf.1 ha with rfl|ha;(·exact n1);·exact fun hh=>hd a ha (List.mem_cons_of_mem _ hh));refine⟨k1,fun y=>?_⟩;rw[List.foldl_cons,k2,Lf,List.mem_cons];constructor;(·rintro((h|h)|h);(·exact .inr (.inl h));(·exact .inl h);·exact .inr (.inr h));·rintro(h|h|h);(·exact .inl (.inr h));(·exact .inl (.inl h));·exact .inr h
theorem ai9(h:qz rs):Cd rs acc out (aW0 rs acc out):=by
 have hs:=GU (acc:=acc) (out:=out) h (out.length*256+256) [(0,0)] (0,0,1) [] 0 [] (fun _ _=>False) (GB out) (by have:=La (out:=out) (p:=(0,0,1));omega) DT ⟨List.nodup_nil,fun x d hd=>absurd hd List.not_mem_nil,fun x c hc=>hc.elim⟩
 (have hS: ∀z d,(False∨JA rs acc out (0,0,1) [] 0 z d)↔Ao rs acc out z d∧z.length≤40:=fun z d=>by constructor;(·rintro(h1|⟨y,e,h1,rfl,rfl,h4⟩);(·exact h1.elim);·exact⟨by simpa[Ao]using h1,h4⟩);·rintro⟨h1,h2⟩;exact .inr ⟨z,d,h1,by simp,by omega,h2⟩)
 have tY:=fe hS hs;obtain⟨k1,k2⟩:=GY _ [] List.Pairwise.nil tY.nodup fun a ha=>absurd ha List.not_mem_nil;refine⟨k1,fun x d=>?_⟩;unfold aW0;rw[k2];constructor;(·rintro(h1|h1);(·exact absurd h1 List.not_mem_nil);·obtain⟨q1,q2⟩:=tY.sound x d h1;exact⟨⟨q1.1,fun c hc=>q2 c ⟨hc,q1.2⟩⟩,q1.2⟩)
 ·rintro⟨⟨h1,h2⟩,h3⟩;obtain⟨e,he⟩:=tY.all x d ⟨h1,h3⟩;obtain⟨q1,q2⟩:=tY.sound x e he;have h4:=q2 d ⟨h1,h3⟩;have h5:=h2 e q1.1;(have e1:e=d:=by omega);subst e1;exact .inr he
end Go.Proofs.YtgpkijnphchkpaaGreat.Rev
namespace Go.Proofs.YtgpkijnphchkpaaGreat.Rev
set_option maxHeartbeats 1000000
variable {rs:List Rl} {acc:Int} {out:aI}
def isLet(u:UInt8):Prop:=97≤u.toNat∧u.toNat≤122
def aj0(rs:List Rl):Prop:= ∀r,r∈rs→ ∀u,u∈r.2.2.1→isLet u
theorem GZ(h:aj0 rs) {p:cD} {x:aI} {c:Int} (hp:Path rs acc out p x c): ∀u,u∈x→isLet u:=by
 induction hp with|done=>intro u hu;cases hu|step hr _ _ ih=>intro u hu;rcases List.mem_append.1 hu with hu|hu;(·exact h _ hr u hu);·exact ih u hu
def wi:Nat→Nat→List UInt8|0,_=>[]|n+1,k=>UInt8.ofNat (97+k)::wi n (k+1)
def dW:List UInt8:=wi 26 0
theorem zN:dW=[97,98,99,100,101,102,103,104,105,106,107,108,109,110,111,112,113,114,115,116,117,118,119,120,121,122]:=by decide
theorem wj {u:UInt8} :u∈dW↔isLet u:=by
 rw[zN];unfold isLet;constructor;(·intro h;simp only[List.mem_cons,List.not_mem_nil,or_false]at h;rcases h with rfl|rfl|rfl|rfl|rfl|rfl|rfl|rfl|rfl|rfl|rfl|rfl|rfl|rfl|rfl|rfl|rfl|rfl|rfl|rfl|rfl|rfl|rfl|rfl|rfl|rfl<;>decide)
 ·intro h;(have hu:u=UInt8.ofNat u.toNat:=by simp);obtain⟨h1,h2⟩:=h;generalize u.toNat=n at hu h1 h2;(have:n=97∨n=98∨n=99∨n=100∨n=101∨n=102∨n=103∨n=104∨n=105∨n=106∨n=107∨n=108∨n=109∨n=110∨n=111∨n=112∨n=113∨n=114∨n=115∨n=116∨n=117∨n=118∨n=119∨n=120∨n=121∨n=122:=by omega);rcases this with rfl|rfl|rfl|rfl|rfl|rfl|rfl|rfl|rfl|rfl|rfl|rfl|rfl|rfl|rfl|rfl|rfl|rfl|rfl|rfl|rfl|rfl|rfl|rfl|rfl|rfl<;>(rw[hu];decide)
theorem AZ:dW.Nodup:=by rw[zN];decide
def tF(x:aI)(o:Option aZ):List FE:=match o with|some w=>[(x,true,w)]|none=>[]
def mP(x:aI)(g:UInt8→Option aZ)(l:List UInt8):List FE:=l.filterMap fun a=>match g a with|some w=>some (x++ [a],false,w)|none=>none
theorem jn {x:aI} {o:Option aZ} {a:FE} :a∈tF x o↔ ∃w,o=some w∧a=(x,true,w):=by unfold tF;cases o with|none=>simp|some w=>simp
theorem jo {x:aI} {g:UInt8→Option aZ} {l:List UInt8} {a:FE} :a∈mP x g l↔ ∃u w,u∈l∧g u=some w∧a=(x++ [u],false,w):=by
 unfold mP;rw[List.mem_filterMap];constructor;(·rintro⟨u,hu,h⟩;cases hg:g u with|none=>rw[hg]at h;cases h|some w=>rw[hg]at h;exact⟨u,w,hu,hg,(Option.some.inj h).symm⟩)
 ·rintro⟨u,w,hu,hg,rfl⟩;exact⟨u,hu,by rw[hg]⟩
theorem tG {x:aI} {u:UInt8} {w:aZ} {z:aI} (h:b8 (x++ [u],false,w) z): ∃t,z=x++u::t:=by
 unfold b8 at h;rw[if_neg (show¬(false=true)by decide)]at h;obtain⟨t,ht⟩:=h;exact⟨t,by rw[←ht];simp⟩
theorem JB(h:qz rs)(Ns:aj0 rs) {H:List FE} {R:List dB} {e:FE} (hf:iD rs acc out (e::H) R)(hd:e.2.1=false) {o:Option aZ} (ho:bV (gr rs acc out e.1) o) {g:UInt8→Option aZ} (hg: ∀a,a∈dW→bV (iC rs acc out (e.1++ [a])) (g a)):iD rs acc out (H++(tF e.1 o++mP e.1 g dW)) R:=by
 (have h40:e.1.length≤40:=by obtain⟨y,c,_,hl,_⟩:=(hf.live e (List.mem_cons_self ..) hd).1;rw[List.length_append]at hl;omega);refine Jx hf hd (fun a ha hf=>?_) (fun a ha ht=>?_) (fun z c hi hl hp=>?_) (fun a ha z hc=>?_) ?_
 (·rcases List.mem_append.1 ha with ha|ha;(·obtain⟨w,_,rfl⟩:=jn.1 ha;cases hf);·obtain⟨u,w,hu,hw,rfl⟩:=jo.1 ha;have:=hg u hu;rw[hw]at this;exact this);(·rcases List.mem_append.1 ha with ha|ha;(·obtain⟨w,rfl,rfl⟩:=jn.1 ha;exact⟨ho,h40⟩);·obtain⟨u,w,hu,hw,rfl⟩:=jo.1 ha;cases ht)
 (·obtain⟨t,rfl⟩:=hp;cases t with|nil=>rw[List.append_nil]at hi;(cases o with|none=>exact absurd ⟨c,hi,rfl⟩ (ho _)|some w=>refine⟨_,List.mem_append_left _ (jn.2 ⟨w,rfl,rfl⟩),?_⟩;unfold b8;rw[if_pos rfl,List.append_nil])|cons u t=>have hu:u∈dW:=wj.2 (GZ Ns hi u (by simp));have hm:=hg u hu;(have e2:e.1++u::t=e.1++ [u]++t:=by simp);rw[e2]at hi hl;cases hgu:g u with|none=>rw[hgu]at hm;exact absurd ⟨t,c,hi,hl,rfl⟩ (hm _)|some w=>refine⟨_,List.mem_append_right _ (jo.2 ⟨u,w,hu,hgu,rfl⟩),?_⟩;unfold b8;rw[if_neg (show¬(false=true)by decide),e2];exact List.prefix_append ..)
 (·rcases List.mem_append.1 ha with ha|ha;(·obtain⟨w,_,rfl⟩:=jn.1 ha;unfold b8 at hc;rw[if_pos rfl]at hc;rw[←hc];exact List.prefix_refl _);·obtain⟨u,w,hu,hw,rfl⟩:=jo.1 ha;obtain⟨t,rfl⟩:=tG hc;exact List.prefix_append ..)
 ·rw[List.pairwise_append];refine⟨?_,?_,fun a ha b hb z h1 h2=>?_⟩;(·unfold tF;cases o with|none=>exact List.Pairwise.nil|some w=>exact List.pairwise_singleton ..);(·unfold mP;rw[List.pairwise_filterMap];refine List.Pairwise.imp ?_ AZ;intro a b nU a' ha' b' ja z h1 h2;cases hga:g a with|none=>rw[hga]at ha';cases ha'|some w=>cases Ub:g b with|none=>rw[Ub]at ja;cases ja|some w'=>rw[hga]at ha';rw[Ub]at ja;obtain rfl:=Option.some.inj ha';obtain rfl:=Option.some.inj ja;obtain⟨t,rfl⟩:=tG h1;obtain⟨t',L5⟩:=tG h2;have:=List.append_cancel_left L5;injection this with h3 _;exact nU h3);·obtain⟨w,_,rfl⟩:=jn.1 ha;obtain⟨u,w',hu,hw,rfl⟩:=jo.1 hb;obtain⟨t,rfl⟩:=tG h2;unfold b8 at h1;rw[if_pos rfl]at h1;have:=congrArg List.length h1;simp at this
theorem Nt {K:List Rl} {R L:Int→Prop} (hK: ∀r,r∈rs→R r.1→L r.2.1→r∈K)(hR: ∀r,r∈rs→R r.1→R r.2.1)(aW1: ∀m,fy acc m=true→L m)(hL: ∀r,r∈rs→L r.2.1→L r.1) {p:cD} {x:aI} {c:Int} (hp:Path rs acc out p x c):R p.2.1→Path K acc out p x c∧L p.2.1:=by
 induction hp with| @done p h=>intro _;refine⟨.done h,aW1 _ ?_⟩;unfold ic at h;rw[Bool.and_eq_true]at h;exact h.2| @step p q r x c hr ha _ ih=>intro hRp;(have S8:r.1=p.2.1:=by unfold da at ha;split at ha;(·rename_i h;exact h.1);·cases ha);(have hto:q.2.1=r.2.1:=by unfold da at ha;split at ha;(·split at ha;(·injection ha with ha;subst ha;rfl);·split at ha;(·injection ha with ha;subst ha;rfl);·cases ha);·cases ha);have h1:=hR r hr (by rw[S8];exact hRp);obtain⟨k1,k2⟩:=ih (by rw[hto];exact h1);rw[hto]at k2;exact⟨.step (hK r hr (by rw[S8];exact hRp) k2) ha k1,by rw[←S8];exact hL r hr k2⟩
theorem Nu {K:List Rl} (hK: ∀r,r∈K→r∈rs) {p:cD} {x:aI} {c:Int} (hp:Path K acc out p x c):Path rs acc out p x c:=by
 induction hp with|done h=>exact .done h|step hr ha _ ih=>exact .step (hK _ hr) ha ih
theorem G0 {K:List Rl} (h: ∀x c,Ao K acc out x c↔Ao rs acc out x c) {L:List dB} (hL:Cd K acc out L):Cd rs acc out L:=⟨hL.Ur,fun x d=>by rw[hL.mem];unfold Nn;rw[h];constructor;(·rintro⟨⟨a,b⟩,c⟩;exact⟨⟨a,fun e he=>b e ((h x e).2 he)⟩,c⟩);·rintro⟨⟨a,b⟩,c⟩;exact⟨⟨a,fun e he=>b e ((h x e).1 he)⟩,c⟩⟩
def Ap(U:List Thread)(B:Nat)(V:Thread→Option Int):Nat:=(U.map fun t=>match V t with|some c=>c.toNat|none=>B).sum
theorem DV {U:List Thread} {B:Nat} {V W:Thread→Option Int} (h: ∀t,t∈U→(match W t with|some c=>c.toNat|none=>B)≤(match V t with|some c=>c.toNat|none=>B)):Ap U B W≤Ap U B V:=by
 unfold Ap;induction U with|nil=>exact Nat.le_refl _|cons t U ih=>have h1:=h t (List.mem_cons_self ..);have h2:=ih fun u hu=>h u (List.mem_cons_of_mem _ hu);simp only[List.map_cons,List.sum_cons];omega
theorem aW2 {U:List Thread} {B:Nat} {V W:Thread→Option Int} {k:Thread} (hk:k∈U)(h: ∀t,t∈U→(match W t with|some c=>c.toNat|none=>B)≤(match V t with|some c=>c.toNat|none=>B))(c7:(match W k with|some c=>c.toNat|none=>B)<(match V k with|some c=>c.toNat|none=>B)):Ap U B W<Ap U B V:=by
 unfold Ap;induction U with|nil=>cases hk|cons t U ih=>have h1:=h t (List.mem_cons_self ..);simp only[List.map_cons,List.sum_cons];rcases List.mem_cons.1 hk with rfl|hk;(·have h2:=DV (U:=U) (B:=B) (V:=V) (W:=W) fun u hu=>h u (List.mem_cons_of_mem _ hu);unfold Ap at h2;omega);·have h2:=ih hk fun u hu=>h u (List.mem_cons_of_mem _ hu);omega
def zO(n:Nat):List cD:=(List.range (n+1)).flatMap fun(a:Nat)=>(List.range 8).flatMap fun(m:Nat)=>(List.range 256).map fun(s:Nat)=>((a:Int),(m:Int),(s:Int))
theorem Cg {n:Nat} {p:cD} (h1:0≤p.1∧p.1≤n)(h2:0≤p.2.1∧p.2.1<8)(h3:0≤p.2.2∧p.2.2<256):p∈zO n:=by
 unfold zO;refine List.mem_flatMap.2 ⟨p.1.toNat,List.mem_range.2 (by omega),List.mem_flatMap.2 ⟨p.2.1.toNat,List.mem_range.2 (by omega),List.mem_map.2 ⟨p.2.2.toNat,List.mem_range.2 (by omega),?_⟩⟩⟩
 exact Prod.ext (by dsimp only;omega) (Prod.ext (by dsimp only;omega) (by dsimp only;omega))
theorem Nv(h:qz rs) {x m:aI} {p:cD} {c:Int} (ht:mb rs out x p m c):c+1000*(ms out p:Int)≤1000*((out.length*256+255:Nat):Int):=by
 induction ht with|start=>have:=La (out:=out) (p:=(0,0,1));omega| @wN x p q r c ht hr ha ih=>have:=(fk (nI h ht) (h.mode r hr) ha).2.1;have:=(h.cost r hr).2;omega|SX _ ih=>exact ih
end Go.Proofs.YtgpkijnphchkpaaGreat.Rev
namespace Go.Proofs.YtgpkijnphchkpaaGreat.Rev
set_option maxHeartbeats 1000000
inductive Way(rs:List Rl)(acc:Int)(inp out:aI):Pl→List Int→Int→Prop where|done {p:Pl} (h:br4 acc inp out p=true):Way rs acc inp out p [] 0|step {p q:Pl} {k:Nat} {r:Rl} {l:List Int} {c:Int} (hr:rs[k]?=some r)(h:br5 inp out p r=some q)(hw:Way rs acc inp out q l c):Way rs acc inp out p ((k:Int)::l) (r.2.2.2.2+c)
def aW3(rs:List Rl):Prop:= ∀r,r∈rs→r.2.2.1≠ []∨r.1<r.2.1
structure OkL(inp out:aI)(p:Pl):Prop where
 i0:0≤p.1∧p.1≤inp.length
 o0:0≤p.2.1∧p.2.1≤out.length
 m0:0≤p.2.2∧p.2.2<8
variable {rs:List Rl} {acc:Int} {inp out:aI}
structure br6(rs:List Rl)(acc:Int)(inp out:aI)(V:Pl→Option aZ):Prop where
 min: ∀p,OkL inp out p→bV (bt3 rs acc inp out p) (V p)
end Go.Proofs.YtgpkijnphchkpaaGreat.Rev
