/- Plain facts: the first of the cheapest routes between an input and a text. Nothing here is trusted; no condition. -/
import Derived.Test.YtgpkijnphchkpaaGreatC5
set_option linter.unusedSimpArgs false
set_option linter.unusedVariables false
open Nat renaming reduceBEq→zA,reduceAdd→zB,reduceSub→zC,reduceMul→zD,reduceLeDiff→zE
open Int renaming reduceLT→zF,reduceLE→zG,reduceToNat→zH,reduceNeg→zI
namespace Go.Proofs.YtgpkijnphchkpaaGreat
attribute[local go_sem←]Bool.decide_and Bool.decide_or decide_not
attribute[local go_sem]ft bC ne_eq not_false_eq_true
set_option maxHeartbeats 4000000
set_option maxRecDepth 100000
def A8(s:db):Bool:=wJ s.1 1 8&&wJ s.2.1 1 (2^s.1.toNat-1)&&decide (s.2.2.length≤64)
def A9(n:Int)(l:List Rl):Nat→Nat→Int×Int|0,_=>((l.length:Int),0)|k+1,i=>if eK n l i=true then A9 n l k (i+1)else((i:Int),20)
def eX(s:db):Int×Int:=if A8 s=true then A9 s.1 s.2.2 s.2.2.length 0 else(-1,20)
theorem ME {n:Int} {l:List Rl} : ∀ {k i:Nat},(A9 n l k i).2=0→ ∀j,i≤j→j<i+k→eK n l j=true|0,i,_,j,h1,h2=>(by omega)|k+1,i,h,j,h1,h2=>by unfold A9 at h;split at h;(·rename_i hr;by_cases hj:j=i;(·subst hj;exact hr);·exact ME h j (by omega) (by omega));·simp at h
theorem xS {n:Int} {l:List Rl} {i:Nat} (h:eK n l i=true): ∃r,l[i]?=some r∧r∉l.take i∧dx n r=true:=by
 unfold eK at h;split at h;(·rename_i r hr;rw[Bool.and_eq_true,decide_eq_true_eq]at h;exact⟨r,hr,h⟩);·cases h
theorem Ux {s:db} (h:(eX s).2=0):iB s:=by
 unfold eX at h;split at h;(·rename_i hh;simp only[A8,wJ,Bool.and_eq_true,decide_eq_true_eq]at hh;have bo: ∀j,j<s.2.2.length→eK s.1 s.2.2 j=true:=fun j hj=>ME h j (Nat.zero_le _) (by omega);refine⟨hh.1.1.1,hh.1.1.2,hh.1.2.1,hh.1.2.2,hh.2,fun r hr=>?_,?_⟩;(·obtain⟨j,hj⟩:=List.getElem?_of_mem hr;obtain⟨r',h1,_,h2⟩:=xS (bo j (List.getElem?_eq_some_iff.1 hj).1);rw[hj]at h1;injection h1 with h1;rw[h1];exact h2);·refine List.pairwise_iff_getElem.2 fun i j hi hj fv he=>?_;obtain⟨r,h1,h2,_⟩:=xS (bo j hj);refine h2 ?_;rw[List.getElem?_eq_getElem hj]at h1;injection h1 with h1;rw[←h1,←he];exact List.mem_of_getElem? (i:=i) (by rw[List.getElem?_take_of_lt fv];exact List.getElem?_eq_getElem hi))
 ·simp at h
theorem a43: ∀m:Nat,m<9→(2:Int)^m≤256:=by decide
def OV(c:Int):Int:=if 97≤c∧c≤122 then 1 else if 65≤c∧c≤90 then 2 else if 48≤c∧c≤57 then 3 else 0
theorem yP(c:Int):PC env 119 [⟨.int .u8,c⟩] (.int .i64) (OV c):=by
 refine PC.ay (m:=2000) ae T7 rfl rfl rfl rfl (by kernel_rfl) ?_;intro hx;simp only[Tryz.f119];simp only[go_sem,zA,↓reduceIte,↓reduceDIte,zB,zC,zD,zE,zF,zG,zH,zI]
 unfold OV;(repeat' (first|(with_reducible intro _)|(with_reducible apply And.intro)));all_goals(split<;>first|rfl|omega|(split<;>first|rfl|omega|(split<;>first|rfl|omega)))
theorem MF(u:UInt8):(OV u.toNat=1)↔low u=true:=by
 unfold OV low;rw[decide_eq_true_eq];split;(·rename_i h;exact⟨fun _=>by omega,fun _=>rfl⟩);·rename_i h;split;(·exact⟨fun h=>by simp at h,fun h2=>by omega⟩);·split;(·exact⟨fun h=>by simp at h,fun h2=>by omega⟩);·exact⟨fun h=>by simp at h,fun h2=>by omega⟩
theorem MG(u:UInt8):(OV u.toNat=0)↔AX u=false:=by
 unfold OV AX;rw[decide_eq_false_iff_not];split;(·rename_i h;exact⟨fun h=>by simp at h,fun h2=>absurd (by omega) h2⟩);·split;(·rename_i h;exact⟨fun h=>by simp at h,fun h2=>absurd (by omega) h2⟩);·split;(·rename_i h;exact⟨fun h=>by simp at h,fun h2=>absurd (by omega) h2⟩);·exact⟨fun _=>by omega,fun _=>rfl⟩
theorem Ba(s:aI):PC env 111 [⟨.str,s⟩] .bool (s.all low):=by
 refine PC.ay (m:=2000) ae T5 rfl rfl rfl rfl (by kernel_rfl) ?_;intro hx;simp only[Tryz.f111];simp only[go_sem,zA,↓reduceIte,↓reduceDIte,zB,zC,zD,zE,zF,zG,zH,zI]
 have hlen:s.length≤9223372036854775807:=hx.1;refine ah.bH (X:=Nat) (fun(i:Nat)=>[(6,.iv (.int .i64) (i:Int)),(3,.any)]) (fun(i:Nat)=>[]) (fun(i:Nat)=>i≤s.length∧(s.take i).all low=true) (fun(i:Nat)=>s.length-i) 0 ?_
 intro b1 b2 bg bu;simp(config:= {maxSteps:=4000000})only[go_sem,zA,↓reduceIte,↓reduceDIte,zB,zC,zD,zE,zF,zG,zH,zI]at bg bu;subst bg;subst bu;refine⟨(by refine⟨?_,?_,rfl,rfl⟩<;>repeat' (first|exact trivial|exact Or.inl rfl|exact Or.inr rfl|apply bw|apply bx|apply bz|apply bD|exact⟨(by show(_:Nat)<1000000000;omega),rfl,rfl⟩|rfl|(refine And.intro (Or.inl ?_) ?_)|(refine And.intro ?_ ?_))),?_,?_⟩
 (·exact⟨Nat.zero_le _,rfl⟩);intro i⟨hi,hb⟩back;refine av ae ⟨_,T5,rfl⟩ 2000 _ _ (by kernel_rfl) ?_;simp only[go_sem,zA,↓reduceIte,↓reduceDIte,zB,zC,zD,zE,zF,zG,zH,zI]
 refine⟨fun h=>?_,fun h=>?_⟩;(·obtain⟨x,dE⟩: ∃x,s[i]?=some x:=an (by omega);refine⟨Int.natCast_nonneg _,_,⟨x,dE,rfl⟩,_,yP x.toNat,fun _=>⟨fun g=>?_,fun g=>?_⟩⟩;(·rw[sO dE (by cases hl:low x with|false=>rfl|true=>exact absurd ((MF x).2 hl) g)]);·exact⟨aw (by omega) (by omega),back _ (i+1) (by refine⟨?_,?_,rfl,rfl⟩<;>repeat' (first|exact trivial|exact Or.inl rfl|exact Or.inr rfl|apply bw|apply bx|apply bz|apply bD|exact⟨(by show(_:Nat)<1000000000;omega),rfl,rfl⟩|rfl|(refine And.intro (Or.inl ?_) ?_)|(refine And.intro ?_ ?_))) ⟨by omega,by rw[lM dE,hb,(MF x).1 (by omega)];rfl⟩ (by omega)⟩)
 ·rw[List.take_of_length_le (by omega)]at hb;rw[hb]
theorem Bb(s:aI):PC env 75 [⟨.str,s⟩] .bool (s.all AX):=by
 refine PC.ay (m:=2000) ae Mw rfl rfl rfl rfl (by kernel_rfl) ?_;intro hx;simp only[Tryz.f75];simp only[go_sem,zA,↓reduceIte,↓reduceDIte,zB,zC,zD,zE,zF,zG,zH,zI]
 have hlen:s.length≤9223372036854775807:=hx.1;refine ah.bH (X:=Nat) (fun(i:Nat)=>[(6,.iv (.int .i64) (i:Int)),(3,.any)]) (fun(i:Nat)=>[]) (fun(i:Nat)=>i≤s.length∧(s.take i).all AX=true) (fun(i:Nat)=>s.length-i) 0 ?_
 intro b1 b2 bg bu;simp(config:= {maxSteps:=4000000})only[go_sem,zA,↓reduceIte,↓reduceDIte,zB,zC,zD,zE,zF,zG,zH,zI]at bg bu;subst bg;subst bu;refine⟨(by refine⟨?_,?_,rfl,rfl⟩<;>repeat' (first|exact trivial|exact Or.inl rfl|exact Or.inr rfl|apply bw|apply bx|apply bz|apply bD|exact⟨(by show(_:Nat)<1000000000;omega),rfl,rfl⟩|rfl|(refine And.intro (Or.inl ?_) ?_)|(refine And.intro ?_ ?_))),?_,?_⟩
 (·exact⟨Nat.zero_le _,rfl⟩);intro i⟨hi,hb⟩back;refine av ae ⟨_,Mw,rfl⟩ 2000 _ _ (by kernel_rfl) ?_;simp only[go_sem,zA,↓reduceIte,↓reduceDIte,zB,zC,zD,zE,zF,zG,zH,zI]
 refine⟨fun h=>?_,fun h=>?_⟩;(·obtain⟨x,dE⟩: ∃x,s[i]?=some x:=an (by omega);refine⟨Int.natCast_nonneg _,_,⟨x,dE,rfl⟩,_,yP x.toNat,fun _=>⟨fun g=>?_,fun g=>?_⟩⟩;(·rw[sO dE ((MG x).1 g)]);·exact⟨aw (by omega) (by omega),back _ (i+1) (by refine⟨?_,?_,rfl,rfl⟩<;>repeat' (first|exact trivial|exact Or.inl rfl|exact Or.inr rfl|apply bw|apply bx|apply bz|apply bD|exact⟨(by show(_:Nat)<1000000000;omega),rfl,rfl⟩|rfl|(refine And.intro (Or.inl ?_) ?_)|(refine And.intro ?_ ?_))) ⟨by omega,by rw[lM dE,hb];cases hl:AX x with|true=>rfl|false=>exact absurd ((MG x).2 hl) g⟩ (by omega)⟩)
 ·rw[List.take_of_length_le (by omega)]at hb;rw[hb]
theorem aq8(n:Int)(r:Rl):PC env 163 [⟨.int .i64,n⟩,⟨bn,r⟩] .bool (dx n r):=by
 obtain⟨f,t,i,o,c⟩:=r;refine PC.ay (m:=2000) ae a19 rfl rfl rfl rfl (by kernel_rfl) ?_;intro hx;simp only[Tryz.f163];simp only[go_sem,zA,↓reduceIte,↓reduceDIte,zB,zC,zD,zE,zF,zG,zH,zI]
 have d3:=(Ba i).dec;have d4:=(Bb o).dec;have hR:dx n (f,t,i,o,c)=(wJ f 0 (n-1)&&wJ t 0 (n-1)&&decide (i.length≤4)&&i.all low&&decide (o.length≤4)&&o.all AX&&wJ c 0 1000):=rfl
 rw[hR];generalize i.all low=b3 at*;generalize o.all AX=b4 at*;(repeat' (first|(with_reducible intro _)|(with_reducible apply And.intro)|(with_reducible refine⟨_,d3,?_⟩;try simp only[go_sem,zA,↓reduceIte,↓reduceDIte,zB,zC,zD,zE,zF,zG,zH,zI])|(with_reducible refine⟨_,d4,?_⟩;try simp only[go_sem,zA,↓reduceIte,↓reduceDIte,zB,zC,zD,zE,zF,zG,zH,zI])|fail))
 all_goals first|omega|(simp_all[wJ];try omega)
def ixL:List Rl→Rl→Nat→Int|[],_,_=> -1|x::l,r,i=>if r=x then(i:Int)else ixL l r (i+1)
theorem MH {r:Rl} : ∀ {l:List Rl} {i:Nat},(0≤ixL l r i)↔r∈l|[],i=>(by simp[ixL])|x::l,i=>by unfold ixL;split;(·rename_i h;subst h;simp);·rename_i h;rw[MH];simp[h]
theorem Fu(l:List Rl)(r:Rl):PC env 178 [⟨.sl bn,l⟩,⟨bn,r⟩] (.int .i64) (ixL l r 0):=by
 refine PC.ay (m:=2000) ae Ui rfl rfl rfl rfl (by kernel_rfl) ?_;intro hx;simp only[Tryz.f178];simp only[go_sem,zA,↓reduceIte,↓reduceDIte,zB,zC,zD,zE,zF,zG,zH,zI]
 have hlen:l.length≤9223372036854775807:=hx.1.1;obtain⟨T,hT⟩: ∃T,T=ixL l r 0:=⟨_,rfl⟩;rw[←hT];refine ah.bH (X:=Nat) (fun(i:Nat)=>[(8,.iv (.int .i64) (i:Int)),(5,.any)]) (fun(i:Nat)=>[]) (fun(i:Nat)=>i≤l.length∧ixL (l.drop i) r i=T) (fun(i:Nat)=>l.length-i) 0 ?_
 intro b1 b2 bg bu;simp(config:= {maxSteps:=4000000})only[go_sem,zA,↓reduceIte,↓reduceDIte,zB,zC,zD,zE,zF,zG,zH,zI]at bg bu;subst bg;subst bu;refine⟨(by refine⟨?_,?_,rfl,rfl⟩<;>repeat' (first|exact trivial|exact Or.inl rfl|exact Or.inr rfl|apply bw|apply bx|apply bz|apply bD|exact⟨(by show(_:Nat)<1000000000;omega),rfl,rfl⟩|rfl|(refine And.intro (Or.inl ?_) ?_)|(refine And.intro ?_ ?_))),?_,?_⟩
 (·exact⟨Nat.zero_le _,hT.symm⟩);clear hT;intro i⟨hi,hT⟩back;refine av ae ⟨_,Ui,rfl⟩ 2000 _ _ (by kernel_rfl) ?_;simp only[go_sem,zA,↓reduceIte,↓reduceDIte,zB,zC,zD,zE,zF,zG,zH,zI]
 refine⟨fun h=>?_,fun h=>?_⟩;(·obtain⟨x,dE⟩: ∃x,l[i]?=some x:=an (by omega);rw[drop_cons dE,ixL]at hT;refine⟨Int.natCast_nonneg _,x,dE,fun g=>?_,fun g=>?_⟩;(·rw[if_pos (by obtain⟨e1,e2,e3,e4,e5⟩:=g;exact Prod.ext e1 (Prod.ext e2 (Prod.ext e3 (Prod.ext e4 e5))))]at hT;exact hT);·rw[if_neg (fun e=>g (by subst e;exact⟨rfl,rfl,rfl,rfl,rfl⟩))]at hT;exact⟨aw (by omega) (by omega),back _ (i+1) (by refine⟨?_,?_,rfl,rfl⟩<;>repeat' (first|exact trivial|exact Or.inl rfl|exact Or.inr rfl|apply bw|apply bx|apply bz|apply bD|exact⟨(by show(_:Nat)<1000000000;omega),rfl,rfl⟩|rfl|(refine And.intro (Or.inl ?_) ?_)|(refine And.intro ?_ ?_))) ⟨by omega,hT⟩ (by omega)⟩)
 ·rw[List.drop_of_length_le (by omega)]at hT;exact hT
theorem sW(l:List Rl)(r:Rl):PC env 164 [⟨.sl bn,l⟩,⟨bn,r⟩] .bool (decide (r∈l)):=by
 refine PC.ay (m:=2000) ae a20 rfl rfl rfl rfl (by kernel_rfl) ?_;intro hx;simp only[Tryz.f164];simp only[go_sem,zA,↓reduceIte,↓reduceDIte,zB,zC,zD,zE,zF,zG,zH,zI]
 refine⟨_,Fu l r,fun _=>?_⟩;exact decide_eq_decide.2 MH
theorem aq9(s:db):PC env 143 [⟨al,s⟩] (.bq (.int .i64) (.int .i64)) (eX s):=by
 obtain⟨n,a,rs⟩:=s;refine PC.ay (m:=2000) ae Ud rfl rfl rfl rfl (by kernel_rfl) ?_;intro hx;simp only[Tryz.f143];simp only[go_sem,zA,↓reduceIte,↓reduceDIte,zB,zC,zD,zE,zF,zG,zH,zI]
 (have oZ:A8 (n,a,rs)=false→((-1:Int),(20:Int))=eX (n,a,rs):=fun h=>by unfold eX;rw[h];rfl);have hd:A8 (n,a,rs)=(wJ n 1 8&&wJ a 1 (2^n.toNat-1)&&decide (rs.length≤64)):=rfl
 refine⟨fun g1=>⟨fun g2=>⟨fun g3=>oZ ?_,fun g3=>⟨fun g4=>?_,fun g4=>oZ ?_⟩⟩,fun g2=>oZ ?_⟩,fun g1=>oZ ?_⟩;(·rw[hd];simp;omega);(·have bA4:(2:Int)^n.toNat≤256:=a43 _ (by omega);have bz6:(0:Int)<2^n.toNat:=Int.pow_pos (by decide);refine⟨⟨by omega,by omega⟩,aw (by omega) (by omega),fun g5=>oZ ?_,fun g5=>?_⟩;(·rw[hd];simp[wJ];omega);·(have hh:A8 (n,a,rs)=true:=by rw[hd];simp[wJ];omega);(have hE:eX (n,a,rs)=A9 n rs rs.length 0:=by simp[eX,hh]);rw[hE];obtain⟨T,hT⟩: ∃T,T=A9 n rs rs.length 0:=⟨_,rfl⟩;rw[←hT];clear oZ hd hh hE;refine ah.bH (X:=Nat) (fun(z:Nat)=>[(35,.iv (.int .i64) (z:Int)),(4,.any),(5,.any)]) (fun(z:Nat)=>[]) (fun(z:Nat)=>z≤rs.length∧A9 n rs (rs.length-z) z=T) (fun(z:Nat)=>rs.length-z) 0 ?_;intro b1 b2 bg bu;simp(config:= {maxSteps:=4000000})only[go_sem,zA,↓reduceIte,↓reduceDIte,zB,zC,zD,zE,zF,zG,zH,zI]at bg bu;subst bg;subst bu;refine⟨(by refine⟨?_,?_,rfl,rfl⟩<;>repeat' (first|exact trivial|exact Or.inl rfl|exact Or.inr rfl|apply bw|apply bx|apply bz|apply bD|exact⟨(by show(_:Nat)<1000000000;omega),rfl,rfl⟩|rfl|(refine And.intro (Or.inl ?_) ?_)|(refine And.intro ?_ ?_))),?_,?_⟩;(·exact⟨Nat.zero_le _,hT.symm⟩);clear hT;intro i⟨hi,hT⟩back;refine av ae ⟨_,Ud,rfl⟩ 2000 _ _ (by kernel_rfl) ?_;simp only[go_sem,zA,↓reduceIte,↓reduceDIte,zB,zC,zD,zE,zF,zG,zH,zI];refine⟨fun g6=>?_,fun g6=>?_⟩;(·obtain⟨r,hr⟩: ∃r,rs[i]?=some r:=an (by omega);(have e:rs.length-i=(rs.length-(i+1))+1:=by omega);rw[e,A9]at hT;(have Ch:eK n rs i=(decide (r∉rs.take i)&&dx n r):=by unfold eK;rw[hr]);rw[Ch]at hT;refine⟨Int.natCast_nonneg _,r,hr,_,aq8 n r,?_⟩;cases hq:dx n r;(·rw[hq,Bool.and_false]at hT;refine MD (b':=true) rfl ?_;simp only[go_sem,zA,↓reduceIte,↓reduceDIte,zB,zC,zD,zE,zF,zG,zH,zI];exact hT);·rw[hq,Bool.and_true]at hT;refine MD (b':=false) rfl ?_;simp only[go_sem,zA,↓reduceIte,↓reduceDIte,zB,zC,zD,zE,zF,zG,zH,zI];refine⟨⟨by omega,by omega⟩,_,sW (rs.take i) r,?_⟩;simp only[go_sem,zA,↓reduceIte,↓reduceDIte,zB,zC,zD,zE,zF,zG,zH,zI];refine⟨fun g=>?_,fun g=>?_⟩;(·rw[decide_eq_false (by simpa using g)]at hT;exact hT);·rw[decide_eq_true g]at hT;exact⟨aw (by omega) (by omega),back _ (i+1) (by refine⟨?_,?_,rfl,rfl⟩<;>repeat' (first|exact trivial|exact Or.inl rfl|exact Or.inr rfl|apply bw|apply bx|apply bz|apply bD|exact⟨(by show(_:Nat)<1000000000;omega),rfl,rfl⟩|rfl|(refine And.intro (Or.inl ?_) ?_)|(refine And.intro ?_ ?_))) ⟨by omega,hT⟩ (by omega)⟩);·(have e:rs.length-i=0:=by omega);rw[e,A9]at hT;exact hT)
 (·rw[hd];simp[wJ];omega);(·rw[hd];simp[wJ];omega);·rw[hd];simp[wJ];omega
theorem MI(s:db):PC env 121 [⟨al,s⟩] .bool (decide ((eX s).2=0)):=by
 refine PC.ay (m:=2000) ae a04 rfl rfl rfl rfl (by kernel_rfl) ?_;intro hx;simp only[Tryz.f121];simp only[go_sem,zA,↓reduceIte,↓reduceDIte,zB,zC,zD,zE,zF,zG,zH,zI]
 refine⟨_,aq9 s,fun _=>?_⟩;rfl
def Ib(s:aI):Bool:=decide (s.length≤40)&&s.all low
def lO(s:aI):Bool:=decide (1≤s.length∧s.length≤20)&&s.all AX
theorem OW(s:aI):PC env 62 [⟨.str,s⟩] .bool (Ib s):=by
 refine PC.ay (m:=2000) ae bj6 rfl rfl rfl rfl (by kernel_rfl) ?_;intro hx;simp only[Tryz.f62];simp only[go_sem,zA,↓reduceIte,↓reduceDIte,zB,zC,zD,zE,zF,zG,zH,zI]
 have d:=(Ba s).dec;unfold Ib;generalize s.all low=b at*;(repeat' (first|(with_reducible intro _)|(with_reducible apply And.intro)|(with_reducible refine⟨_,d,?_⟩;try simp only[go_sem,zA,↓reduceIte,↓reduceDIte,zB,zC,zD,zE,zF,zG,zH,zI])|fail))
 all_goals first|omega|(simp_all;try omega)
theorem KW(s:aI):PC env 31 [⟨.str,s⟩] .bool (Ib s):=by
 refine PC.ay (m:=2000) ae bi5 rfl rfl rfl rfl (by kernel_rfl) ?_;intro hx;simp only[Tryz.f31];simp only[go_sem,zA,↓reduceIte,↓reduceDIte,zB,zC,zD,zE,zF,zG,zH,zI]
 have d:=(My s).dec;unfold Ib;generalize s.all low=b at*;(repeat' (first|(with_reducible intro _)|(with_reducible apply And.intro)|(with_reducible refine⟨_,d,?_⟩;try simp only[go_sem,zA,↓reduceIte,↓reduceDIte,zB,zC,zD,zE,zF,zG,zH,zI])|fail))
 all_goals first|omega|(simp_all;try omega)
theorem Fv(s:aI):PC env 36 [⟨.str,s⟩] .bool (lO s):=by
 refine PC.ay (m:=2000) ae ay8 rfl rfl rfl rfl (by kernel_rfl) ?_;intro hx;simp only[Tryz.f36];simp only[go_sem,zA,↓reduceIte,↓reduceDIte,zB,zC,zD,zE,zF,zG,zH,zI]
 have d:=(Bb s).dec;unfold lO;generalize s.all AX=b at*;(repeat' (first|(with_reducible intro _)|(with_reducible apply And.intro)|(with_reducible refine⟨_,d,?_⟩;try simp only[go_sem,zA,↓reduceIte,↓reduceDIte,zB,zC,zD,zE,zF,zG,zH,zI])|fail))
 all_goals first|omega|(simp_all;try omega)
theorem KX {s:db} (hs:iB s) {i:Nat} (hi:i<s.2.2.length):eK s.1 s.2.2 i=true:=by
 obtain⟨r,hr⟩: ∃r,s.2.2[i]?=some r:=an hi;unfold eK;rw[hr];dsimp only;rw[Bool.and_eq_true,decide_eq_true_eq];refine⟨fun hm=>?_,hs.right r (List.mem_of_getElem? hr)⟩
 obtain⟨j,hj⟩:=List.getElem?_of_mem hm;(have BY:j<i:=by have:=(List.getElem?_eq_some_iff.1 hj).1;rw[List.length_take]at this;omega);rw[List.getElem?_take_of_lt BY]at hj
 obtain⟨h1,e1⟩:=List.getElem?_eq_some_iff.1 hj;obtain⟨h2,e2⟩:=List.getElem?_eq_some_iff.1 hr;exact List.pairwise_iff_getElem.1 hs.nodup j i h1 h2 BY (by rw[e1,e2])
theorem Ic {n:Int} {l:List Rl} : ∀ {k i:Nat},(∀j,i≤j→j<i+k→eK n l j=true)→A9 n l k i=((l.length:Int),0)|0,i,_=>rfl|k+1,i,h=>by unfold A9;rw[if_pos (h i (Nat.le_refl _) (by omega))];exact Ic fun j h1 h2=>h j (by omega) (by omega)
theorem ar0 {s:db} (hs:iB s):A8 s=true:=by simp only[A8,wJ,Bool.and_eq_true,decide_eq_true_eq];exact⟨⟨⟨hs.n1,hs.n8⟩,hs.a1,hs.a2⟩,hs.len⟩
theorem Bc {s:db} (hs:iB s):eX s=((s.2.2.length:Int),0):=by unfold eX;rw[if_pos (ar0 hs)];exact Ic fun j _ h=>KX hs (by omega)
end Go.Proofs.YtgpkijnphchkpaaGreat
namespace Go.Proofs.YtgpkijnphchkpaaGreat.Rev
set_option maxHeartbeats 1000000
abbrev aI:=List UInt8
abbrev Rl:=Int×Int×aI×aI×Int
abbrev cK:=Int×Int×Int
abbrev aZ:=Int×Int
def fJ(s m:Int):Bool:=decide (s.toNat/2^m.toNat%2=1)
def nv(m:Int):Int:=((2^m.toNat:Nat):Int)
def dk(out:aI)(p:cK)(r:Rl):Option cK:=if r.1=p.2.1∧r.2.2.2.1.isPrefixOf (out.drop p.1.toNat)=true then if r.2.2.2.1≠ []then some (p.1+(r.2.2.2.1.length:Int),r.2.1,nv r.2.1)else if fJ p.2.2 r.2.1=false then some (p.1,r.2.1,p.2.2+nv r.2.1)else none else none
structure rM(rs:List Rl):Prop where
 mode: ∀r,r∈rs→0≤r.2.1∧r.2.1<8
 cost: ∀r,r∈rs→0≤r.2.2.2.2∧r.2.2.2.2≤1000
 oN: ∀r,r∈rs→r.2.2.1.length≤4
structure DK(out:aI)(p:cK):Prop where
 at0:0≤p.1
 at1:p.1≤out.length
 seen:0≤p.2.2∧p.2.2<256
def ms(out:aI)(p:cK):Nat:=(out.length-p.1.toNat)*256+(255-p.2.2.toNat)
theorem MJ(m:Int):1≤nv m:=by unfold nv;have:0<2^m.toNat:=Nat.pos_of_ne_zero (by simp);omega
theorem Uy {m:Int} (h:m<8):nv m≤128:=by unfold nv;(have h1:m.toNat≤7:=by omega);have:2^m.toNat≤2^7:=Nat.pow_le_pow_right (by decide) h1;(have e:2^7=128:=by decide);omega
theorem KY {s:Nat} (hs:s<256): ∀m:Nat,m<8→s/2^m%2=0→s+2^m<256:=by
 intro m hm h;(have h8:m=0∨m=1∨m=2∨m=3∨m=4∨m=5∨m=6∨m=7:=by omega);rcases h8 with rfl|rfl|rfl|rfl|rfl|rfl|rfl|rfl<;>simp only[Nat.reducePow]at h⊢ <;>omega
theorem fx {out:aI} {p q:cK} {r:Rl} (hp:DK out p)(hm:0≤r.2.1∧r.2.1<8)(h:dk out p r=some q):DK out q∧ms out q<ms out p∧q.2.1=r.2.1:=by
 obtain⟨a0,a1,s0,s1⟩:=hp;unfold dk at h;split at h;(case isFalse=>cases h);rename_i h1;obtain⟨h1,h2⟩:=h1;split at h;(·rename_i h3;injection h with h;subst h;have hb:=MJ r.2.1;have bu:=Uy hm.2;have jq:=List.isPrefixOf_iff_prefix.1 h2;have hl:=jq.length_le;rw[List.length_drop]at hl;have bY:0<r.2.2.2.1.length:=List.length_pos_iff.2 h3;refine⟨⟨by dsimp only;omega,by dsimp only;omega,by dsimp only;omega,by dsimp only;omega⟩,?_,rfl⟩;unfold ms;dsimp only;(have e:(p.1+(r.2.2.2.1.length:Int)).toNat=p.1.toNat+r.2.2.2.1.length:=by omega);rw[e];(have e2:out.length-p.1.toNat=(out.length-(p.1.toNat+r.2.2.2.1.length))+r.2.2.2.1.length:=by omega);rw[e2,Nat.add_mul];have:1*256≤r.2.2.2.1.length*256:=Nat.mul_le_mul_right _ bY;omega)
 ·split at h;(·rename_i h3 h4;injection h with h;subst h;have hb:=MJ r.2.1;unfold fJ at h4;have h4':=of_decide_eq_false h4;have dh:=KY (s:=p.2.2.toNat) (by omega) r.2.1.toNat (by omega) (by omega);have VL:nv r.2.1=((2^r.2.1.toNat:Nat):Int):=rfl;refine⟨⟨a0,a1,by dsimp only;omega,by dsimp only;omega⟩,?_,rfl⟩;unfold ms;dsimp only;omega);·cases h
def iy(acc:Int)(out:aI)(p:cK):Bool:=decide (p.1=out.length)&&fJ acc p.2.1
inductive Path(rs:List Rl)(acc:Int)(out:aI):cK→aI→Int→Prop where|done {p:cK} (h:iy acc out p=true):Path rs acc out p [] 0|step {p q:cK} {r:Rl} {x:aI} {c:Int} (hr:r∈rs)(h:dk out p r=some q)(hp:Path rs acc out q x c):Path rs acc out p (r.2.2.1++x) (r.2.2.2.2+c)
inductive mP(rs:List Rl)(out:aI):aI→cK→aI→Int→Prop where|start:mP rs out [] (0,0,1) [] 0|yv {x:aI} {p q:cK} {r:Rl} {c:Int} (ht:mP rs out x p [] c)(hr:r∈rs)(h:dk out p r=some q):mP rs out x q r.2.2.1 (c+r.2.2.2.2)|Uz {x:aI} {p:cK} {a:UInt8} {m:aI} {c:Int} (ht:mP rs out x p (a::m) c):mP rs out (x++ [a]) p m c
def BZ(rs:List Rl)(acc:Int)(out:aI)(x:aI)(c:Int):Prop:=Path rs acc out (0,0,1) x c
variable {rs:List Rl} {acc:Int} {out:aI}
theorem Ie(out:aI):DK out (0,0,1):=⟨by decide,by show(0:Int)≤(out.length:Int);omega,by decide,by decide⟩
theorem oF(h:rM rs) {x m:aI} {p:cK} {c:Int} (ht:mP rs out x p m c):DK out p:=by induction ht with|start=>exact Ie out|yv _ hr ha ih=>exact(fx ih (h.mode _ hr) ha).1|Uz _ ih=>exact ih
theorem Ig(h:rM rs) {x m:aI} {p:cK} {c:Int} (ht:mP rs out x p m c):0≤c:=by induction ht with|start=>exact Int.le_refl _|yv _ hr _ ih=>have:=(h.cost _ hr).1;omega|Uz _ ih=>exact ih
theorem wS(h:rM rs) {p:cK} {x:aI} {c:Int} (hp:Path rs acc out p x c):0≤c:=by induction hp with|done=>exact Int.le_refl _|step hr _ _ ih=>have:=(h.cost _ hr).1;omega
theorem Ih {x m:aI} {p:cK} {c:Int} (ht:mP rs out x p m c): ∀ {y:aI} {d:Int},Path rs acc out p y d→BZ rs acc out (x++m++y) (c+d):=by
 induction ht with|start=>intro y d h;simpa[BZ]using h| @yv x p q r c _ hr ha ih=>intro y d h;have:=ih (Path.step hr ha h);rw[List.append_nil]at this;rw[List.append_assoc,Int.add_assoc];exact this| @Uz x p a m c _ ih=>intro y d h;have:=ih h;simpa using this
theorem ar1 {x:aI} {p:cK} : ∀ {m:aI} {c:Int},mP rs out x p m c→mP rs out (x++m) p [] c|m,c,h=>by induction m generalizing x with|nil=>simpa using h|cons a m ih=>have:=ih h.Uz;simpa using this
theorem UA {z x:aI} {p:cK} {c d:Int} (hp:Path rs acc out p z d): ∀ {x0:aI},mP rs out x0 p [] c→ ∀ {x1 y:aI},z=x1++y→ ∃q m e f y',mP rs out (x0++x1) q m e∧Path rs acc out q y' f∧y=m++y'∧e+f=c+d:=by
 induction hp generalizing c with| @done p h=>intro x0 ht x1 y hz;obtain⟨rfl,rfl⟩:=List.append_eq_nil_iff.1 hz.symm;exact⟨p,[],c,0,[],by simpa using ht,.done h,rfl,rfl⟩| @step p q r x c' hr ha _ ih=>intro x0 ht x1 y hz;rename_i hq;have NF:=mP.yv ht hr ha;rcases List.append_eq_append_iff.1 hz with⟨t,h1,h2⟩|⟨t,h1,h2⟩;(·have:=ih (ar1 NF) h2;obtain⟨q',m,e,f,y',k1,k2,k3,k4⟩:=this;refine⟨q',m,e,f,y',?_,k2,k3,by omega⟩;rw[h1,←List.append_assoc];exact k1);·(have hth: ∀(x1 t:aI)(x0:aI),mP rs out x0 q (x1++t) (c+r.2.2.2.2)→mP rs out (x0++x1) q t (c+r.2.2.2.2):=by intro x1;induction x1 with|nil=>intro t x0 h;simpa using h|cons a x1 ih2=>intro t x0 h;have:=ih2 t (x0++ [a]) h.Uz;simpa using this);rw[h1]at NF;exact⟨q,t,c+r.2.2.2.2,c',x,hth x1 t x0 NF,hq,h2,by omega⟩
theorem Fw {x y:aI} {c:Int} (h:BZ rs acc out (x++y) c): ∃q m e f y',mP rs out x q m e∧Path rs acc out q y' f∧y=m++y'∧e+f=c:=by
 obtain⟨q,m,e,f,y',h1,h2,h3,h4⟩:=UA (x:=x) h mP.start (x1:=x) (y:=y) rfl;exact⟨q,m,e,f,y',by simpa using h1,h2,h3,by omega⟩
end Go.Proofs.YtgpkijnphchkpaaGreat.Rev
namespace Go.Proofs.YtgpkijnphchkpaaGreat.Rev
set_option maxHeartbeats 1000000
def fy(p q:aZ):Bool:=decide (p.1<q.1∨p.1=q.1∧p.2<q.2)
def mD(p q:aZ):aZ:=(p.1+q.1,p.2+q.2)
theorem rB {p q:aZ} :fy p q=true↔(p.1<q.1∨p.1=q.1∧p.2<q.2):=by simp[fy]
theorem cX {p q:aZ} :fy p q=false↔ ¬(p.1<q.1∨p.1=q.1∧p.2<q.2):=by simp[fy]
theorem jA(p:aZ):fy p p=false:=by rw[cX];omega
def bZ(S:aZ→Prop)(o:Option aZ):Prop:=match o with|none=> ∀p,¬S p|some m=>S m∧ ∀p,S p→fy p m=false
theorem qp {S:aZ→Prop} {a b:Option aZ} (ha:bZ S a)(hb:bZ S b):a=b:=by
 cases a with|none=>(cases b with|none=>rfl|some m=>exact absurd hb.1 (ha m))|some m=>cases b with|none=>exact absurd ha.1 (hb m)|some k=>have h1:=cX.1 (ha.2 k hb.1);have h2:=cX.1 (hb.2 m ha.1);congr 1;exact Prod.ext (by omega) (by omega)
theorem iz {S T:aZ→Prop} {o:Option aZ} (h: ∀p,S p↔T p)(ho:bZ S o):bZ T o:=by
 cases o with|none=>exact fun p hp=>ho p ((h p).2 hp)|some m=>exact⟨(h m).1 ho.1,fun p hp=>ho.2 p ((h p).2 hp)⟩
def better(bw4 g:Option aZ):Option aZ:=match g,bw4 with|none,b=>b|some x,none=>some x|some x,some b=>if fy x b=true then some x else some b
theorem Bd {S T:aZ→Prop} {a b:Option aZ} (ha:bZ S a)(hb:bZ T b):bZ (fun p=>S p∨T p) (better a b):=by
 cases b with|none=>(cases a with|none=>exact fun p hp=>hp.elim (ha p) (hb p)|some m=>exact⟨.inl ha.1,fun p hp=>hp.elim (ha.2 p) (fun h=>absurd h (hb p))⟩)|some k=>cases a with|none=>exact⟨.inr hb.1,fun p hp=>hp.elim (fun h=>absurd h (ha p)) (hb.2 p)⟩|some m=>unfold better;dsimp only;split;(·rename_i h;rw[rB]at h;refine⟨.inr hb.1,fun p hp=>?_⟩;rcases hp with h1|h1;(·have:=cX.1 (ha.2 p h1);rw[cX];omega);·exact hb.2 p h1);·rename_i h;have h:=cX.1 (Bool.eq_false_iff.2 h);refine⟨.inl ha.1,fun p hp=>?_⟩;rcases hp with h1|h1;(·exact ha.2 p h1);·have:=cX.1 (hb.2 p h1);rw[cX];omega
theorem uS {α:Type} {f:α→Option aZ} {S:α→aZ→Prop} : ∀(l:List α) {T:aZ→Prop} {b:Option aZ},bZ T b→(∀r,r∈l→bZ (S r) (f r))→bZ (fun p=>T p∨ ∃r,r∈l∧S r p) (l.foldl (fun b r=>better b (f r)) b)|[],T,b,hb,_=>iz (fun p=>by simp) hb|r::l,T,b,hb,h=>by rw[List.foldl_cons];refine iz (fun p=>?_) (uS l (Bd hb (h r (List.mem_cons_self ..))) (fun q hq=>h q (List.mem_cons_of_mem _ hq)));constructor;(·rintro((h1|h1)|⟨q,h1,h2⟩);(·exact .inl h1);(·exact .inr ⟨r,List.mem_cons_self ..,h1⟩);·exact .inr ⟨q,List.mem_cons_of_mem _ h1,h2⟩);·rintro(h1|⟨q,h1,h2⟩);(·exact .inl (.inl h1));·rcases List.mem_cons.1 h1 with rfl|h1;(·exact .inl (.inr h2));·exact .inr ⟨q,h1,h2⟩
def Ii(g:Option aZ)(p:aZ):Option aZ:=match g with|none=>none|some x=>some (mD x p)
theorem Ij {S:aZ→Prop} {g:Option aZ} (h:bZ S g)(p:aZ):bZ (fun q=> ∃s,S s∧q=mD s p) (Ii g p):=by
 cases g with|none=>rintro q⟨s,hs,_⟩;exact h s hs|some m=>refine⟨⟨m,h.1,rfl⟩,?_⟩;rintro q⟨s,hs,rfl⟩;have:=cX.1 (h.2 s hs);rw[cX];unfold mD;dsimp only;omega
def yw(out:aI)(goal:cK→Int→Option aZ)(p:cK)(L:Int)(r:Rl):Option aZ:=match dk out p r with|none=>none|some q=>Ii (goal q (L-(r.2.2.1.length:Int))) (r.2.2.2.2,(r.2.2.1.length:Int))
def xT(rs:List Rl)(acc:Int)(out:aI):Nat→cK→Int→Option aZ|0,_,_=>none|n+1,p,L=>if L<0 then none else if iy acc out p=true then some (0,0)else rs.foldl (fun b r=>better b (yw out (xT rs acc out n) p L r)) none
def MK(rs:List Rl)(acc:Int)(out:aI)(p:cK)(L:Int)(pr:aZ):Prop:= ∃x c,Path rs acc out p x c∧(x.length:Int)≤L∧pr=(c,(x.length:Int))
variable {rs:List Rl} {acc:Int} {out:aI}
theorem Ik(h:rM rs): ∀(n:Nat)(p:cK)(L:Int),DK out p→ms out p<n→bZ (MK rs acc out p L) (xT rs acc out n p L):=by
 intro n;induction n with|zero=>intro _ _ _ hn;exact absurd hn (Nat.not_lt_zero _)|succ n ih=>intro p L hp hn;rw[xT];split;(·rintro pr⟨x,c,_,hl,_⟩;omega);·rename_i hL;split;(·rename_i he;refine⟨⟨[],0,.done he,by simp;omega,by simp⟩,?_⟩;rintro pr⟨x,c,NA,hl,rfl⟩;have:=wS h NA;rw[cX];dsimp only;omega);·rename_i he;(have hv: ∀r,r∈rs→bZ (fun pr=> ∃q,dk out p r=some q∧ ∃s,MK rs acc out q (L-(r.2.2.1.length:Int)) s∧pr=mD s (r.2.2.2.2,(r.2.2.1.length:Int))) (yw out (xT rs acc out n) p L r):=fun r hr=>by unfold yw;cases ha:dk out p r with|none=>rintro pr⟨q,hq,_⟩;cases hq|some q=>obtain⟨k1,k2,_⟩:=fx hp (h.mode r hr) ha;refine iz (fun pr=>?_) (Ij (ih q (L-(r.2.2.1.length:Int)) k1 (by omega)) (r.2.2.2.2,(r.2.2.1.length:Int)));constructor;(·intro hh;exact⟨q,rfl,hh⟩);·rintro⟨q',hq',hh⟩;injection hq' with hq';subst hq';exact hh);have hf:=uS rs (T:=fun _=>False) (b:=none) (fun p hp=>hp) hv;refine iz (fun pr=>?_) hf;constructor;(·rintro(h1|⟨r,hr,q,ha,s,⟨x,c,NA,hl,rfl⟩,rfl⟩);(·exact h1.elim);·refine⟨r.2.2.1++x,r.2.2.2.2+c,.step hr ha NA,by rw[List.length_append];omega,?_⟩;unfold mD;rw[List.length_append];refine Prod.ext ?_ ?_<;>dsimp only<;>omega);·rintro⟨x,c,NA,hl,rfl⟩;cases NA with|done hd=>exact absurd hd he| @step _ q r x c hr ha NA=>rw[List.length_append]at hl;refine .inr ⟨r,hr,q,ha,(c,(x.length:Int)),⟨x,c,NA,by omega,rfl⟩,?_⟩;unfold mD;rw[List.length_append];refine Prod.ext ?_ ?_<;>dsimp only<;>omega
def iN(rs:List Rl)(acc:Int)(out:aI)(p:cK)(L:Int):Option aZ:=xT rs acc out (ms out p+1) p L
theorem wT(h:rM rs) {p:cK} (L:Int)(hp:DK out p):bZ (MK rs acc out p L) (iN rs acc out p L):=Ik h _ p L hp (Nat.lt_succ_self _)
theorem ar2(h:rM rs) {n:Nat} {p:cK} (L:Int)(hp:DK out p)(hn:ms out p<n):xT rs acc out n p L=iN rs acc out p L:=qp (Ik h n p L hp hn) (wT h L hp)
theorem OX {g g':cK→Int→Option aZ} {p:cK} {L:Int} {r:Rl} (h: ∀q,dk out p r=some q→g q (L-(r.2.2.1.length:Int))=g' q (L-(r.2.2.1.length:Int))):yw out g p L r=yw out g' p L r:=by
 unfold yw;cases ha:dk out p r with|none=>rfl|some q=>dsimp only;rw[h q ha]
theorem fold_congr {α β:Type} {f g:β→α→β} : ∀(l:List α)(b:β),(∀b r,r∈l→f b r=g b r)→l.foldl f b=l.foldl g b|[],_,_=>rfl|r::l,b,h=>by rw[List.foldl_cons,List.foldl_cons,h b r (List.mem_cons_self ..)];exact fold_congr l _ fun b q hq=>h b q (List.mem_cons_of_mem _ hq)
theorem OY(h:rM rs) {p:cK} (L:Int)(hp:DK out p):iN rs acc out p L=if L<0 then none else if iy acc out p=true then some (0,0)else rs.foldl (fun b r=>better b (yw out (iN rs acc out) p L r)) none:=by
 (conv=>lhs;unfold iN;rw[xT]);split;(·rfl);·split;(·rfl);·refine fold_congr rs none fun b r hr=>?_;rw[OX (g:=xT rs acc out (ms out p)) (g':=iN rs acc out) fun q ha=>?_];obtain⟨k1,k2,_⟩:=fx hp (h.mode r hr) ha;exact ar2 h _ k1 k2
end Go.Proofs.YtgpkijnphchkpaaGreat.Rev
namespace Go.Proofs.YtgpkijnphchkpaaGreat.Rev
set_option maxHeartbeats 1000000
abbrev Thread:=cK×aI
structure oG(rs:List Rl)(out x:aI)(E:List (Thread×Int)):Prop where
 sound: ∀p m c,((p,m),c)∈E→mP rs out x p m c
 all: ∀p m c,mP rs out x p m c→ ∃c',c'≤c∧((p,m),c')∈E
def iO(rs:List Rl)(acc:Int)(out x:aI)(pr:aZ):Prop:= ∃y c,BZ rs acc out (x++y) c∧(x++y).length≤40∧pr=(c,((x++y).length:Int))
def gB(rs:List Rl)(acc:Int)(out x:aI)(pr:aZ):Prop:= ∃c,BZ rs acc out x c∧pr=(c,(x.length:Int))
variable {rs:List Rl} {acc:Int} {out:aI}
def uT(rs:List Rl)(acc:Int)(out x:aI)(t:Thread×Int):Option aZ:=Ii (iN rs acc out t.1.1 (40-(x.length:Int)-(t.1.2.length:Int))) (t.2,(x.length:Int)+(t.1.2.length:Int))
def rC(rs:List Rl)(acc:Int)(out x:aI)(t:Thread×Int)(pr:aZ):Prop:= ∃s,MK rs acc out t.1.1 (40-(x.length:Int)-(t.1.2.length:Int)) s∧pr=mD s (t.2,(x.length:Int)+(t.1.2.length:Int))
theorem Be(h:rM rs) {x:aI} {t:Thread×Int} (ht:DK out t.1.1):bZ (rC rs acc out x t) (uT rs acc out x t):=Ij (wT h _ ht) _
theorem rX(h:rM rs) {x:aI} {E:List (Thread×Int)} (hE:oG rs out x E) {o:Option aZ} (ho:bZ (fun pr=> ∃t,t∈E∧rC rs acc out x t pr) o):bZ (iO rs acc out x) o:=by
 cases o with|none=>rintro pr⟨y,c,hi,hl,rfl⟩;obtain⟨q,m,e,f,y',h1,h2,rfl,rfl⟩:=Fw hi;obtain⟨e',he,hm⟩:=hE.all q m e h1;rw[List.length_append,List.length_append]at hl;exact ho _ ⟨((q,m),e'),hm,_,⟨y',f,h2,by dsimp only;omega,rfl⟩,rfl⟩|some k=>refine⟨?_,?_⟩;(·obtain⟨⟨⟨p,m⟩,c⟩,ht,s,⟨y,f,hp,hl,rfl⟩,he⟩:=ho.1;have hth:=hE.sound p m c ht;have:=Ih hth hp;refine⟨m++y,c+f,by rwa[←List.append_assoc],?_,?_⟩;(·dsimp only at hl;rw[List.length_append,List.length_append];omega);·rw[he];unfold mD;dsimp only;rw[List.length_append,List.length_append];refine Prod.ext ?_ ?_<;>dsimp only<;>omega);·rintro pr⟨y,c,hi,hl,rfl⟩;obtain⟨q,m,e,f,y',h1,h2,rfl,rfl⟩:=Fw hi;obtain⟨e',he,hm⟩:=hE.all q m e h1;rw[List.length_append,List.length_append]at hl;have:=cX.1 (ho.2 _ ⟨((q,m),e'),hm,_,⟨y',f,h2,by dsimp only;omega,rfl⟩,rfl⟩);rw[cX];unfold mD at this;dsimp only at this⊢;rw[List.length_append,List.length_append];omega
def Il(acc:Int)(out x:aI)(t:Thread×Int):Option aZ:=if t.1.2=[]∧iy acc out t.1.1=true then some (t.2,(x.length:Int))else none
def UB(acc:Int)(out x:aI)(t:Thread×Int)(pr:aZ):Prop:=(t.1.2=[]∧iy acc out t.1.1=true)∧pr=(t.2,(x.length:Int))
theorem uU {x:aI} {t:Thread×Int} :bZ (UB acc out x t) (Il acc out x t):=by
 unfold Il;split;(·rename_i h;exact⟨⟨h,rfl⟩,fun p hp=>by rw[hp.2];exact jA _⟩);·rename_i h;exact fun p hp=>h hp.1
theorem CA {p:cK} {y:aI} {c:Int} (hp:Path rs acc out p y c): ∀ {x:aI} {e:Int},mP rs out x p [] e→y=[]→ ∃q f,mP rs out x q [] f∧iy acc out q=true∧f=e+c:=by
 induction hp with| @done p h=>intro x e ht _;exact⟨p,e,ht,h,by omega⟩| @step p q r y c hr ha _ ih=>intro x e ht hy;obtain⟨h1,h2⟩:=List.append_eq_nil_iff.1 hy;have h3:=mP.yv ht hr ha;rw[h1]at h3;obtain⟨q',f,k1,k2,k3⟩:=ih h3 h2;exact⟨q',f,k1,k2,by omega⟩
theorem CB {x:aI} {E:List (Thread×Int)} (hE:oG rs out x E) {o:Option aZ} (ho:bZ (fun pr=> ∃t,t∈E∧UB acc out x t pr) o):bZ (gB rs acc out x) o:=by
 (have down: ∀c,BZ rs acc out x c→ ∃q f,mP rs out x q [] f∧iy acc out q=true∧f=c:=fun c hi=>by(have vN:BZ rs acc out (x++ []) c:=by simpa using hi);obtain⟨q,m,e,f,y',h1,h2,h3,h4⟩:=Fw vN;obtain⟨rfl,rfl⟩:=List.append_eq_nil_iff.1 h3.symm;obtain⟨q',f',k1,k2,k3⟩:=CA h2 h1 rfl;exact⟨q',f',k1,k2,by omega⟩)
 (have up: ∀q f,mP rs out x q [] f→iy acc out q=true→BZ rs acc out x f:=fun q f h1 h2=>by have:=Ih h1 (Path.done h2);simpa using this);cases o with|none=>rintro pr⟨c,hi,rfl⟩;obtain⟨q,f,h1,h2,rfl⟩:=down c hi;obtain⟨e',he,hm⟩:=hE.all q [] _ h1;exact ho _ ⟨((q,[]),e'),hm,⟨rfl,h2⟩,rfl⟩|some k=>refine⟨?_,?_⟩;(·obtain⟨⟨⟨p,m⟩,c⟩,ht,⟨h1,h2⟩,he⟩:=ho.1;dsimp only at h1 h2 he;subst h1;exact⟨c,up p c (hE.sound p [] c ht) h2,he⟩);·rintro pr⟨c,hi,rfl⟩;obtain⟨q,f,h1,h2,rfl⟩:=down c hi;obtain⟨e',he,hm⟩:=hE.all q [] _ h1;have:=cX.1 (ho.2 _ ⟨((q,[]),e'),hm,⟨rfl,h2⟩,rfl⟩);rw[cX];dsimp only at this⊢;omega
structure ML(rs:List Rl)(out x:aI)(B:cK→aI→Int→Prop)(V:Thread→Option Int)(todo:List Thread):Prop where
 sound: ∀p m c,V (p,m)=some c→mP rs out x p m c
 base: ∀p m c,B p m c→ ∃c',c'≤c∧V (p,m)=some c'
 step: ∀p c,V (p,[])=some c→(p,[])∈todo∨ ∀r q,r∈rs→dk out p r=some q→ ∃c',c'≤c+r.2.2.2.2∧V (q,r.2.2.1)=some c'
 bz7: ∀t,t∈todo→t.2=[]∧ ∃c,V t=some c
def Comes(rs:List Rl)(out x:aI)(B:cK→aI→Int→Prop):Prop:= ∀p m c,mP rs out x p m c→B p m c∨ ∃p0 c0 r,mP rs out x p0 [] c0∧r∈rs∧dk out p0 r=some p∧m=r.2.2.1∧c=c0+r.2.2.2.2
theorem Im:Comes rs out [] (fun p m c=>p=(0,0,1)∧m=[]∧c=0):=by
 intro p m c h;generalize hx:([]:aI)=x at h;cases h with|start=>exact .inl ⟨rfl,rfl,rfl⟩| @yv _ p0 _ r c0 ht hr ha=>subst hx;exact .inr ⟨p0,c0,r,ht,hr,ha,rfl,rfl⟩|Uz=>exact absurd hx (by simp)
theorem DL {x:aI} {a:UInt8} :Comes rs out (x++ [a]) (fun p m c=>mP rs out x p (a::m) c):=by
 intro p m c h;generalize hx:x++ [a]=z at h;cases h with|start=>exact absurd hx (by simp)| @yv _ p0 _ r c0 ht hr ha=>subst hx;exact .inr ⟨p0,c0,r,ht,hr,ha,rfl,rfl⟩| @Uz x' _ a' _ _ ht=>obtain⟨h1,h2⟩:=List.append_inj' hx rfl;injection h2 with h2;subst h1 h2;exact .inl ht
theorem MM {p:cK} :ms out p≤out.length*256+255:=by unfold ms;omega
theorem UC(h:rM rs) {x:aI} {B:cK→aI→Int→Prop} (hB:Comes rs out x B) {V:Thread→Option Int} (hI:ML rs out x B V []): ∀(n:Nat)(p:cK)(m:aI)(c:Int),out.length*256+255-ms out p≤n→mP rs out x p m c→ ∃c',c'≤c∧V (p,m)=some c':=by
 intro n;induction n with|zero=>intro p m c hn ht;rcases hB p m c ht with hb|⟨p0,c0,r,h1,h2,h3,rfl,rfl⟩;(·exact hI.base p m c hb);(·exfalso;have h4:=(fx (oF h h1) (h.mode r h2) h3).2.1;have:=MM (out:=out) (p:=p0);omega)|succ n ih=>intro p m c hn ht;rcases hB p m c ht with hb|⟨p0,c0,r,h1,h2,h3,rfl,rfl⟩;(·exact hI.base p m c hb);·have h4:=(fx (oF h h1) (h.mode r h2) h3).2.1;have:=MM (out:=out) (p:=p0);obtain⟨c',iY,hv⟩:=ih p0 [] c0 (by omega) h1;rcases hI.step p0 c' hv with hm|hs;(·exact absurd hm (List.not_mem_nil));·obtain⟨d,hd,Wo⟩:=hs r p h2 h3;exact⟨d,by omega,Wo⟩
theorem OZ(h:rM rs) {x:aI} {B:cK→aI→Int→Prop} (hB:Comes rs out x B) {V:Thread→Option Int} (hI:ML rs out x B V []) {E:List (Thread×Int)} (hE: ∀t c,(t,c)∈E↔V t=some c):oG rs out x E:=by
 refine⟨fun p m c hm=>hI.sound p m c ((hE _ _).1 hm),fun p m c ht=>?_⟩;obtain⟨c',h1,h2⟩:=UC h hB hI _ p m c (Nat.le_refl _) ht;exact⟨c',h1,(hE _ _).2 h2⟩
end Go.Proofs.YtgpkijnphchkpaaGreat.Rev
namespace Go.Proofs.YtgpkijnphchkpaaGreat.Rev
set_option maxHeartbeats 1000000
def bytesLess:aI→aI→Bool|_,[]=>false|[],_::_=>true|a::x,b::y=>decide (a<b)||(a==b&&bytesLess x y)
theorem bm6 {a b:UInt8} :a<b↔a.toNat<b.toNat:=UInt8.lt_iff_toNat_lt
theorem oH {a b:UInt8} {x y:aI} :bytesLess (a::x) (b::y)=true↔(a.toNat<b.toNat∨a=b∧bytesLess x y=true):=by simp[bytesLess,bm6]
theorem sX: ∀x:aI,bytesLess x x=false|[]=>rfl|a::x=>by rw[Bool.eq_false_iff];intro h;rcases oH.1 h with h|h;(·omega);·rw[sX x]at h;cases h.2
theorem uV: ∀ {x y z:aI},bytesLess x y=true→bytesLess y z=true→bytesLess x z=true|x,y,[],_,h=>(by cases y<;>cases h)|x,[],c::z,h,_=>(by cases x<;>cases h)|[],b::y,c::z,_,_=>rfl|a::x,b::y,c::z,h,h'=>by rw[oH]at h h'⊢;rcases h with h|⟨rfl,h⟩<;>rcases h' with h'|⟨rfl,h'⟩;(·exact .inl (by omega));(·exact .inl h);(·exact .inl h');·exact .inr ⟨rfl,uV h h'⟩
theorem uW: ∀ {x y:aI},x≠y→bytesLess x y=false→bytesLess y x=true|[],[],h,_=>absurd rfl h|[],b::y,_,h=>(by cases h)|a::x,[],_,_=>rfl|a::x,b::y,h,h'=>by rw[oH];have h2:=fun hh=>Bool.eq_false_iff.1 h' (oH.2 hh);by_cases e:a=b;(·subst e;refine .inr ⟨rfl,uW (fun e=>h (by rw[e])) (Bool.eq_false_iff.2 fun hh=>h2 (.inr ⟨rfl,hh⟩))⟩);·have: ¬a.toNat=b.toNat:=fun e'=>e (UInt8.toNat_inj.1 e');have: ¬a.toNat<b.toNat:=fun e'=>h2 (.inl e');exact .inl (by omega)
theorem DM: ∀ {x a z:aI},bytesLess x a=true→a <+: z→bytesLess x z=true|x,[],z,h,_=>(by cases x<;>cases h)|x,b::a,[],_,h=>(by obtain⟨t,ht⟩:=h;cases ht)|[],b::a,c::z,_,_=>rfl|d::x,b::a,c::z,h,h'=>by rw[List.cons_prefix_cons]at h';obtain⟨rfl,h'⟩:=h';rw[oH]at h⊢;rcases h with h|⟨rfl,h⟩;(·exact .inl h);·exact .inr ⟨rfl,DM h h'⟩
abbrev FE:=aI×Bool×aZ
def eI(a b:FE):Bool:=if a.2.2=b.2.2 then(if a.1=b.1 then a.2.1&& !b.2.1 else bytesLess a.1 b.1)else fy a.2.2 b.2.2
abbrev dK:=aI×Int
def fQ(a b:dK):Bool:=decide (a.2<b.2)||(decide (a.2=b.2)&&(decide (a.1.length<b.1.length)||(decide (a.1.length=b.1.length)&&bytesLess a.1 b.1)))
theorem ny {a b:dK} :fQ a b=true↔(a.2<b.2∨a.2=b.2∧(a.1.length<b.1.length∨a.1.length=b.1.length∧bytesLess a.1 b.1=true)):=by simp[fQ]
theorem nz(a:dK):fQ a a=false:=by rw[Bool.eq_false_iff];intro h;rcases ny.1 h with h|⟨_,h|⟨_,h⟩⟩;(·omega);(·omega);·rw[sX]at h;cases h
theorem mE {a b c:dK} (h:fQ a b=true)(h':fQ b c=true):fQ a c=true:=by
 rw[ny]at*;rcases h with h|⟨h1,h|⟨h2,h⟩⟩<;>rcases h' with h'|⟨qT,h'|⟨VG,h'⟩⟩;(·exact .inl (by omega));(·exact .inl (by omega));(·exact .inl (by omega));(·exact .inl (by omega))
 (·exact .inr ⟨by omega,.inl (by omega)⟩);(·exact .inr ⟨by omega,.inl (by omega)⟩);(·exact .inl (by omega));(·exact .inr ⟨by omega,.inl (by omega)⟩);·exact .inr ⟨by omega,.inr ⟨by omega,uV h h'⟩⟩
def cm(e:FE)(z:aI):Prop:=if e.2.1=true then e.1=z else e.1 <+: z
def O0(rs:List Rl)(acc:Int)(out x:aI)(d:Int):Prop:=BZ rs acc out x d∧ ∀c,BZ rs acc out x c→d≤c
structure iP(rs:List Rl)(acc:Int)(out:aI)(H:List FE)(R:List dK):Prop where
 live: ∀e,e∈H→e.2.1=false→bZ (iO rs acc out e.1) (some e.2.2)
 done: ∀e,e∈H→e.2.1=true→bZ (gB rs acc out e.1) (some e.2.2)∧e.1.length≤40
 cov: ∀z c,BZ rs acc out z c→z.length≤40→(∃d,(z,d)∈R)∨ ∃e,e∈H∧cm e z
 VQ:H.Pairwise (fun a b=> ∀z,cm a z→cm b z→False)
 res: ∀x d,(x,d)∈R→O0 rs acc out x d∧x.length≤40∧ ∀e,e∈H→ ¬cm e x
 ord: ∀x d,(x,d)∈R→ ∀z c,BZ rs acc out z c→z.length≤40→(∃e,e∈H∧cm e z)→fQ (x,d) (z,c)=true
 srt:R.Pairwise (fun a b=>fQ a b=true)
structure DN(rs:List Rl)(acc:Int)(out:aI)(L:List dK):Prop where
 srt:L.Pairwise (fun a b=>fQ a b=true)
 mem: ∀x d,(x,d)∈L↔O0 rs acc out x d∧x.length≤40
variable {rs:List Rl} {acc:Int} {out:aI}
theorem O1 {x:aI} {m:aZ} (h:bZ (gB rs acc out x) (some m)):O0 rs acc out x m.1∧m.2=(x.length:Int):=by
 obtain⟨⟨c,hc,he⟩,h2⟩:=h;subst he;refine⟨⟨hc,fun c' iY=>?_⟩,rfl⟩;have:=cX.1 (h2 _ ⟨c',iY,rfl⟩);dsimp only at this⊢;omega
theorem Bf {H H':List FE} {R:List dK} (h:iP rs acc out H R)(hp:H.Perm H'):iP rs acc out H' R:=by
 refine⟨fun e he=>h.live e (hp.mem_iff.2 he),fun e he=>h.done e (hp.mem_iff.2 he),fun z c hi hl=>?_,?_,fun x d hm=>?_,fun x d hm z c hi hl⟨e,he,hc⟩=>h.ord x d hm z c hi hl ⟨e,hp.mem_iff.2 he,hc⟩,h.srt⟩
 (·rcases h.cov z c hi hl with h1|⟨e,he,hc⟩;(·exact .inl h1);·exact .inr ⟨e,hp.mem_iff.1 he,hc⟩);(·exact(hp.pairwise_iff (fun {a b} oR z h1 h2=>oR z h2 h1)).1 h.VQ)
 ·obtain⟨k1,k2,k3⟩:=h.res x d hm;exact⟨k1,k2,fun e he=>k3 e (hp.mem_iff.2 he)⟩
theorem Io {H:List FE} {R:List dK} (h:iP rs acc out H R) {e:FE} (he:e∈H) {z:aI} {c:Int} (hi:BZ rs acc out z c)(hl:z.length≤40)(hc:cm e z):fy (c,(z.length:Int)) e.2.2=false:=by
 unfold cm at hc;split at hc;(·rename_i hd;subst hc;exact(h.done e he hd).1.2 _ ⟨c,hi,rfl⟩);·rename_i hd;obtain⟨y,rfl⟩:=hc;exact(h.live e he (by simpa using hd)).2 _ ⟨y,c,hi,hl,rfl⟩
theorem KZ {H:List FE} {R:List dK} {e:FE} (h:iP rs acc out (e::H) R)(hd:e.2.1=true)(Bg: ∀e',e'∈H→eI e' e=false):iP rs acc out H (R++ [(e.1,e.2.2.1)]):=by
 obtain⟨hw,h40⟩:=h.done e (List.mem_cons_self ..) hd;obtain⟨hm,hlen⟩:=O1 hw;(have BX:cm e e.1:=by unfold cm;rw[if_pos hd]);obtain⟨BW,vD⟩:=List.pairwise_cons.1 h.VQ
 have oZ: ∀e',e'∈H→ ¬cm e' e.1:=fun e' yk hc=>BW e' yk e.1 BX hc;refine⟨fun a ha=>h.live a (List.mem_cons_of_mem _ ha),fun a ha=>h.done a (List.mem_cons_of_mem _ ha),fun z c hi hl=>?_,vD,fun x d fH=>?_,fun x d fH z c hi hl hc=>?_,?_⟩
 (·rcases h.cov z c hi hl with⟨d,h1⟩|⟨a,ha,hc⟩;(·exact .inl ⟨d,List.mem_append_left _ h1⟩);·rcases List.mem_cons.1 ha with rfl|ha;(·unfold cm at hc;rw[if_pos hd]at hc;subst hc;exact .inl ⟨_,List.mem_append_right _ (List.mem_cons_self ..)⟩);·exact .inr ⟨a,ha,hc⟩)
 (·rcases List.mem_append.1 fH with h1|h1;(·obtain⟨k1,k2,k3⟩:=h.res x d h1;exact⟨k1,k2,fun a ha=>k3 a (List.mem_cons_of_mem _ ha)⟩);·obtain⟨rfl,rfl⟩:=Prod.mk.inj (List.mem_singleton.1 h1);exact⟨hm,h40,oZ⟩)
 (·rcases List.mem_append.1 fH with h1|h1;(·obtain⟨a,ha,Ej⟩:=hc;exact h.ord x d h1 z c hi hl ⟨a,List.mem_cons_of_mem _ ha,Ej⟩);·obtain⟨rfl,rfl⟩:=Prod.mk.inj (List.mem_singleton.1 h1);obtain⟨a,ha,Ej⟩:=hc;have Gl:=cX.1 (Io h (List.mem_cons_of_mem _ ha) hi hl Ej);have hle:=Bg a ha;rw[ny];dsimp only at Gl⊢;unfold eI at hle;split at hle;(·rename_i heq;rw[heq]at Gl;split at hle;(·rename_i hx;exfalso;refine oZ a ha ?_;unfold cm;rw[hx];split;(·rfl);·exact List.prefix_refl _);·rename_i hx;have h1:=uW hx hle;(have h2:bytesLess e.1 z=true:=by unfold cm at Ej;split at Ej;(·rw[←Ej];exact h1);·exact DM h1 Ej);by_cases k1:e.2.2.1<c;(·exact .inl k1);·by_cases k2:e.1.length<z.length;(·exact .inr ⟨by omega,.inl k2⟩);·exact .inr ⟨by omega,.inr ⟨by omega,h2⟩⟩);·rename_i bY;have hle:=cX.1 hle;have bA5: ¬(a.2.2.1=e.2.2.1∧a.2.2.2=e.2.2.2):=fun hh=>bY (Prod.ext hh.1 hh.2);by_cases k1:e.2.2.1<c;(·exact .inl k1);·exact .inr ⟨by omega,.inl (by omega)⟩)
 ·rw[List.pairwise_append];refine⟨h.srt,List.pairwise_singleton ..,fun a ha b hb=>?_⟩;rw[List.mem_singleton.1 hb];exact h.ord a.1 a.2 ha e.1 e.2.2.1 hm.1 h40 ⟨e,List.mem_cons_self ..,BX⟩
theorem K0 {H C:List FE} {R:List dK} {e:FE} (h:iP rs acc out (e::H) R)(hd:e.2.1=false)(Ip: ∀a,a∈C→a.2.1=false→bZ (iO rs acc out a.1) (some a.2.2))(gw: ∀a,a∈C→a.2.1=true→bZ (gB rs acc out a.1) (some a.2.2)∧a.1.length≤40)(bw5: ∀z c,BZ rs acc out z c→z.length≤40→e.1 <+: z→ ∃a,a∈C∧cm a z)(Bh: ∀a,a∈C→ ∀z,cm a z→e.1 <+: z)(bw6:C.Pairwise (fun a b=> ∀z,cm a z→cm b z→False)):iP rs acc out (H++C) R:=by
 (have BX: ∀z,cm e z↔e.1 <+: z:=fun z=>by unfold cm;rw[if_neg (by rw[hd];decide)]);obtain⟨BW,vD⟩:=List.pairwise_cons.1 h.VQ;(have up: ∀a,a∈H++C→ ∀z,cm a z→ ∃b,b∈e::H∧cm b z:=fun a ha z hc=>by rcases List.mem_append.1 ha with ha|ha;(·exact⟨a,List.mem_cons_of_mem _ ha,hc⟩);·exact⟨e,List.mem_cons_self ..,(BX z).2 (Bh a ha z hc)⟩)
 refine⟨fun a ha hf=>?_,fun a ha hf=>?_,fun z c hi hl=>?_,?_,fun x d hm=>?_,fun x d hm z c hi hl⟨a,ha,hc⟩=>h.ord x d hm z c hi hl (up a ha z hc),h.srt⟩;(·rcases List.mem_append.1 ha with ha|ha;(·exact h.live a (List.mem_cons_of_mem _ ha) hf);·exact Ip a ha hf)
 (·rcases List.mem_append.1 ha with ha|ha;(·exact h.done a (List.mem_cons_of_mem _ ha) hf);·exact gw a ha hf);(·rcases h.cov z c hi hl with h1|⟨a,ha,hc⟩;(·exact .inl h1);·rcases List.mem_cons.1 ha with rfl|ha;(·obtain⟨b,hb,hcb⟩:=bw5 z c hi hl ((BX z).1 hc);exact .inr ⟨b,List.mem_append_right _ hb,hcb⟩);·exact .inr ⟨a,List.mem_append_left _ ha,hc⟩)
 (·rw[List.pairwise_append];exact⟨vD,bw6,fun a ha b hb z h1 h2=>BW a ha z ((BX z).2 (Bh b hb z h2)) h1⟩);·obtain⟨k1,k2,k3⟩:=h.res x d hm;refine⟨k1,k2,fun a ha hc=>?_⟩;obtain⟨b,hb,hcb⟩:=up a ha x hc;exact k3 b hb hcb
theorem xU {o:Option aZ} (ho:bZ (iO rs acc out []) o):iP rs acc out (match o with|some l=>[([],false,l)]|none=>[]) []:=by
 cases o with|none=>refine⟨fun e he=>absurd he List.not_mem_nil,fun e he=>absurd he List.not_mem_nil,fun z c hi hl=>?_,List.Pairwise.nil,fun x d hm=>absurd hm List.not_mem_nil,fun x d hm=>absurd hm List.not_mem_nil,List.Pairwise.nil⟩;exact absurd ⟨z,c,by simpa using hi,by simpa using hl,rfl⟩ (ho _)|some l=>refine⟨fun e he _=>?_,fun e he hd=>?_,fun z c hi hl=>.inr ⟨_,List.mem_cons_self ..,?_⟩,List.pairwise_singleton ..,fun x d hm=>absurd hm List.not_mem_nil,fun x d hm=>absurd hm List.not_mem_nil,List.Pairwise.nil⟩;(·rw[List.mem_singleton.1 he];exact ho);(·rw[List.mem_singleton.1 he]at hd;cases hd);·unfold cm;rw[if_neg (show¬(false=true)by decide)];exact List.nil_prefix
theorem Bi: ∀ {R L:List dK},R.Pairwise (fun a b=>fQ a b=true)→L.Pairwise (fun a b=>fQ a b=true)→(∀a,a∈R→a∈L)→(∀a,a∈R→ ∀b,b∈L→b∉R→fQ a b=true)→R=L.take R.length|[],L,_,_,_,_=>(by simp)|a::R,[],_,_,h,_=>absurd (h a (List.mem_cons_self ..)) List.not_mem_nil|a::R,b::L,h1,h2,h3,h4=>by obtain⟨p1,q1⟩:=List.pairwise_cons.1 h1;obtain⟨p2,q2⟩:=List.pairwise_cons.1 h2;(have e:a=b:=by rcases List.mem_cons.1 (h3 a (List.mem_cons_self ..))with e|ha;(·exact e);·exfalso;have hba:=p2 a ha;by_cases hb:b∈a::R;(·rcases List.mem_cons.1 hb with rfl|hb;(·rw[nz]at hba;cases hba);·have:=mE (p1 b hb) hba;rw[nz]at this;cases this);·have:=mE (h4 a (List.mem_cons_self ..) b (List.mem_cons_self ..) hb) hba;rw[nz]at this;cases this);subst e;(have hna: ∀x,x∈R→x≠a:=fun x hx e=>by have:=p1 x hx;rw[e,nz]at this;cases this);(have hnl: ∀x,x∈L→x≠a:=fun x hx e=>by have:=p2 x hx;rw[e,nz]at this;cases this);rw[List.length_cons,List.take_succ_cons];congr 1;refine Bi q1 q2 (fun x hx=>?_) fun x hx y hy hn=>h4 x (List.mem_cons_of_mem _ hx) y (List.mem_cons_of_mem _ hy) fun hh=>?_;(·rcases List.mem_cons.1 (h3 x (List.mem_cons_of_mem _ hx))with e|h;(·exact absurd e (hna x hx));·exact h);·rcases List.mem_cons.1 hh with e|h;(·exact hnl y hy e);·exact hn h
theorem rY {x:aI} {c d:Int} (h:O0 rs acc out x c)(h':O0 rs acc out x d):c=d:=by have:=h.2 d h'.1;have:=h'.2 c h.1;omega
theorem Bj {H:List FE} {R L:List dK} (h:iP rs acc out H R)(hL:DN rs acc out L):R=L.take R.length:=by
 refine Bi h.srt hL.srt (fun a ha=>?_) fun a ha b hb hn=>?_;(·obtain⟨k1,k2,_⟩:=h.res a.1 a.2 ha;exact(hL.mem a.1 a.2).2 ⟨k1,k2⟩);·obtain⟨k1,k2⟩:=(hL.mem b.1 b.2).1 hb;rcases h.cov b.1 b.2 k1.1 k2 with⟨d,hd⟩|hc;(·have:=rY k1 (h.res b.1 d hd).1;exact absurd (by rw[←this]at hd;exact hd) hn);·exact h.ord a.1 a.2 ha b.1 b.2 k1.1 k2 hc
theorem DO {R L:List dK} (h:iP rs acc out [] R)(hL:DN rs acc out L):R=L:=by
 have h1:=Bj h hL;(have h2: ∀b,b∈L→b∈R:=fun b hb=>by obtain⟨k1,k2⟩:=(hL.mem b.1 b.2).1 hb;rcases h.cov b.1 b.2 k1.1 k2 with⟨d,hd⟩|⟨e,he,_⟩;(·have:=rY k1 (h.res b.1 d hd).1;rw[←this]at hd;exact hd);·exact absurd he List.not_mem_nil)
 have h3:=Bi hL.srt h.srt h2 fun a ha b hb hn=>absurd ((hL.mem b.1 b.2).2 ⟨(h.res b.1 b.2 hb).1,(h.res b.1 b.2 hb).2.1⟩) hn;have l1:=congrArg List.length h1;have l2:=congrArg List.length h3
 rw[List.length_take]at l1 l2;rw[h1,List.take_of_length_le (by omega)]
end Go.Proofs.YtgpkijnphchkpaaGreat.Rev
namespace Go.Proofs.YtgpkijnphchkpaaGreat.Rev
set_option maxHeartbeats 1000000
section
variable {α:Type} (less:α→α→Bool)
def bV(xs:List α)(i j:Nat):List α:=match xs[i]?,xs[j]? with|some a,some b=>(xs.set i b).set j a|_,_=>xs
def vI(xs:List α)(j:Nat):List α:=if h:j=0 then xs else match xs[j]?,xs[(j-1)/2]? with|some a,some b=>if less a b=true then vI (bV xs ((j-1)/2) j) ((j-1)/2)else xs|_,_=>xs termination_by j decreasing_by omega
def dO(xs:List α)(i n:Nat):Nat:=match xs[2*i+2]?,xs[2*i+1]? with|some a,some b=>if 2*i+2<n∧less a b=true then 2*i+2 else 2*i+1|_,_=>2*i+1
theorem kP(xs:List α)(i n:Nat):i<dO less xs i n∧(dO less xs i n=2*i+1∨dO less xs i n=2*i+2):=by unfold dO;split;(·split<;>omega);·omega
def ew(xs:List α)(i n:Nat):List α:=if h:n≤2*i+1 then xs else match xs[dO less xs i n]?,xs[i]? with|some a,some b=>if less a b=true then ew (bV xs i (dO less xs i n)) (dO less xs i n) n else xs|_,_=>xs termination_by n-i decreasing_by have:=(kP less xs i n).1;omega
end
section
variable {α:Type} {less:α→α→Bool}
theorem ec(xs:List α)(i j:Nat):(bV xs i j).length=xs.length:=by unfold bV;split<;>simp
theorem swap_perm(xs:List α)(i j:Nat):(bV xs i j).Perm xs:=by
 unfold bV;split;(·rename_i a b ha hb;obtain⟨h1,rfl⟩:=List.getElem?_eq_some_iff.1 ha;obtain⟨h2,rfl⟩:=List.getElem?_eq_some_iff.1 hb;exact List.set_set_perm h1 h2)
 ·exact List.Perm.refl _
theorem yQ {xs:List α} {i j:Nat} {a b:α} (ha:xs[i]?=some a)(hb:xs[j]?=some b)(k:Nat):(bV xs i j)[k]?=if k=j then some a else if k=i then some b else xs[k]?:=by
 have h1:=(List.getElem?_eq_some_iff.1 ha).1;have h2:=(List.getElem?_eq_some_iff.1 hb).1;unfold bV;rw[ha,hb];dsimp only;by_cases e1:k=j;(·rw[if_pos e1,e1,List.getElem?_set_self (by simpa using h2)])
 ·rw[if_neg e1,List.getElem?_set_ne (Ne.symm e1)];by_cases e2:k=i;(·rw[if_pos e2,e2,List.getElem?_set_self h1]);·rw[if_neg e2,List.getElem?_set_ne (Ne.symm e2)]
def CC(less:α→α→Bool)(xs:List α)(a b:Nat):Prop:= ∀x y,xs[a]?=some x→xs[b]?=some y→less y x=false
structure Iq(less:α→α→Bool):Prop where
 irr: ∀a,less a a=false
 UD: ∀a b,less a b=true→less b a=false
 trans: ∀a b c,less b a=false→less c b=false→less c a=false
def iQ(less:α→α→Bool)(xs:List α)(n:Nat):Prop:= ∀k,0<k→k<n→CC less xs ((k-1)/2) k
theorem Ir(ho:Iq less) {xs:List α} {a b c:Nat} (hb:b<xs.length)(h1:CC less xs a b)(h2:CC less xs b c):CC less xs a c:=fun x y hx hy=>ho.trans _ _ _ (h1 x _ hx (List.getElem?_eq_getElem hb)) (h2 _ y (List.getElem?_eq_getElem hb) hy)
theorem wU(xs:List α)(j:Nat):(vI less xs j).length=xs.length:=by
 induction j using Nat.strongRecOn generalizing xs with|_ j ih=>unfold vI;split;(·rfl);·split;(·split;(·rw[ih _ (by omega),ec]);·rfl);·rfl
theorem Fx(xs:List α)(j:Nat):(vI less xs j).Perm xs:=by
 induction j using Nat.strongRecOn generalizing xs with|_ j ih=>unfold vI;split;(·exact List.Perm.refl _);·split;(·split;(·exact(ih _ (by omega) _).trans (swap_perm ..));·exact List.Perm.refl _);·exact List.Perm.refl _
theorem ar3(ho:Iq less)(n:Nat)(j:Nat): ∀(xs:List α),xs.length=n→j<n→(∀k,0<k→k<n→k≠j→CC less xs ((k-1)/2) k)→(∀k,0<k→k<n→(k-1)/2=j→0<j→CC less xs ((j-1)/2) k)→iQ less (vI less xs j) n:=by
 induction j using Nat.strongRecOn with|_ j ih=>intro xs hn hj hA hB;unfold vI;split;(·rename_i h0;intro k h1 h2;exact hA k h1 h2 (by omega));·rename_i h0;obtain⟨a,ha⟩: ∃a,xs[j]?=some a:=⟨_,List.getElem?_eq_getElem (by omega)⟩;obtain⟨b,hb⟩: ∃b,xs[(j-1)/2]?=some b:=⟨_,List.getElem?_eq_getElem (by omega)⟩;rw[ha,hb];dsimp only;split;(·rename_i hl;have sw:=yQ hb ha;refine ih _ (by omega) _ (by rw[ec];exact hn) (by omega) (fun k k0 kn kne x y hx hy=>?_) (fun k k0 kn kp ip x y hx hy=>?_);(·rw[sw]at hx hy;by_cases k1:k=j;(·subst k1;rw[if_pos rfl]at hy;rw[if_neg (by omega),if_pos rfl]at hx;injection hx with hx;injection hy with hy;subst hx hy;exact ho.UD _ _ hl);·rw[if_neg k1,if_neg kne]at hy;by_cases k2:(k-1)/2=j;(·rw[if_pos k2]at hx;injection hx with hx;subst hx;exact hB k k0 kn k2 (by omega) _ y hb hy);·rw[if_neg k2]at hx;by_cases k3:(k-1)/2=(j-1)/2;(·rw[if_pos k3]at hx;injection hx with hx;subst hx;refine ho.trans _ _ _ (ho.UD _ _ hl) (hA k k0 kn k1 b y (by rw[k3];exact hb) hy));·rw[if_neg k3]at hx;exact hA k k0 kn k1 x y hx hy);·rw[sw]at hx hy;rw[if_neg (by omega),if_neg (by omega)]at hx;by_cases k1:k=j;(·rw[if_pos k1]at hy;injection hy with hy;subst hy;exact hA _ ip (by omega) (by omega) x _ hx hb);·rw[if_neg k1,if_neg (by omega)]at hy;refine ho.trans _ _ _ (hA _ ip (by omega) (by omega) x _ hx hb) (hA k k0 kn k1 b y (by rw[kp];exact hb) hy));·rename_i hl;intro k k0 kn;by_cases k1:k=j;(·subst k1;intro x y hx hy;rw[hb]at hx;rw[ha]at hy;injection hx with hx;injection hy with hy;subst hx hy;simpa using hl);·exact hA k k0 kn k1
theorem wV(ho:Iq less) {xs:List α} {b:α} (h:iQ less xs xs.length):iQ less (vI less (xs++ [b]) xs.length) (xs.length+1):=by
 refine ar3 ho (xs.length+1) xs.length (xs++ [b]) (by simp) (by omega) (fun k k0 kn kne x y hx hy=>?_) (fun k k0 kn kp _=>by omega);rw[List.getElem?_append_left (by omega)]at hx hy
 exact h k k0 (by omega) x y hx hy
theorem Is(n:Nat): ∀(m i:Nat)(xs:List α),n-i≤m→(ew less xs i n).length=xs.length:=by
 intro m;induction m with|zero=>intro i xs h;unfold ew;rw[dif_pos (by omega)]|succ m ih=>intro i xs h;unfold ew;split;(·rfl);·have:=(kP less xs i n).1;split;(·split;(·rw[ih _ _ (by omega),ec]);·rfl);·rfl
theorem O2(n:Nat): ∀(m i:Nat)(xs:List α),n-i≤m→(ew less xs i n).Perm xs:=by
 intro m;induction m with|zero=>intro i xs h;unfold ew;rw[dif_pos (by omega)]|succ m ih=>intro i xs h;unfold ew;split;(·exact List.Perm.refl _);·have:=(kP less xs i n).1;split;(·split;(·exact(ih _ _ (by omega)).trans (swap_perm ..));·exact List.Perm.refl _);·exact List.Perm.refl _
theorem Bk {xs:List α} {i n:Nat} (h: ¬n≤2*i+1):dO less xs i n<n:=by unfold dO;split;(·split<;>omega);·omega
theorem O3(n:Nat): ∀(m i:Nat)(xs:List α),n-i≤m→i<n→ ∀k,n≤k→(ew less xs i n)[k]?=xs[k]?:=by
 intro m;induction m with|zero=>intro i xs h hi;omega|succ m ih=>intro i xs h hi k hk;unfold ew;split;(·rfl);·rename_i hn;have hc:=(kP less xs i n).1;have hcn:=Bk (less:=less) (xs:=xs) hn;split;(·rename_i a b ha hb;split;(·rw[ih _ _ (by omega) hcn k hk,yQ hb ha,if_neg (by omega),if_neg (by omega)]);·rfl);·rfl
theorem O4(ho:Iq less)(n:Nat): ∀(m i:Nat)(xs:List α),n-i≤m→n≤xs.length→i<n→(∀k,0<k→k<n→(k-1)/2≠i→CC less xs ((k-1)/2) k)→(∀k,0<k→k<n→(k-1)/2=i→0<i→CC less xs ((i-1)/2) k)→iQ less (ew less xs i n) n:=by
 intro m;induction m with|zero=>intro i xs h _ hi;omega|succ m ih=>intro i xs h hnl hi hC hD;unfold ew;split;(·rename_i h0;intro k k0 kn;exact hC k k0 kn (by omega));·rename_i h0;have hc:=kP less xs i n;have hcn:=Bk (less:=less) (xs:=xs) h0;(have Bg: ∀k,0<k→k<n→(k-1)/2=i→CC less xs (dO less xs i n) k:=fun k k0 kn kp x y hx hy=>by(have k2:k=2*i+1∨k=2*i+2:=by omega);obtain⟨c1,Jp⟩: ∃a,xs[2*i+1]?=some a:=⟨_,List.getElem?_eq_getElem (by omega)⟩;unfold dO at hx;rw[Jp]at hx;cases h2:xs[2*i+2]? with|none=>rw[h2]at hx;dsimp only at hx;rcases k2 with rfl|rfl;(·rw[Jp]at hx hy;injection hx with hx;injection hy with hy;subst hx hy;exact ho.irr _);(·rw[h2]at hy;cases hy)|some c2=>rw[h2]at hx;dsimp only at hx;split at hx;(·rename_i CW;rw[h2]at hx;injection hx with hx;subst hx;rcases k2 with rfl|rfl;(·rw[Jp]at hy;injection hy with hy;subst hy;exact ho.UD _ _ CW.2);·rw[h2]at hy;injection hy with hy;subst hy;exact ho.irr _);·rename_i CW;rw[Jp]at hx;injection hx with hx;subst hx;rcases k2 with rfl|rfl;(·rw[Jp]at hy;injection hy with hy;subst hy;exact ho.irr _);·rw[h2]at hy;injection hy with hy;subst hy;rw[Bool.eq_false_iff];intro hh;exact CW ⟨kn,hh⟩);(have hpc:(dO less xs i n-1)/2=i:=by omega);obtain⟨a,ha⟩: ∃a,xs[dO less xs i n]?=some a:=⟨_,List.getElem?_eq_getElem (by omega)⟩;obtain⟨b,hb⟩: ∃b,xs[i]?=some b:=⟨_,List.getElem?_eq_getElem (by omega)⟩;rw[ha,hb];dsimp only;generalize dO less xs i n=j at*;split;(·rename_i hl;have sw:=yQ hb ha;refine ih _ _ (by omega) (by rw[ec];exact hnl) hcn (fun k k0 kn kne x y hx hy=>?_) (fun k k0 kn kp jp x y hx hy=>?_);(·rw[sw]at hx hy;rw[if_neg kne]at hx;by_cases k1:(k-1)/2=i;(·rw[if_pos k1]at hx;injection hx with hx;subst hx;by_cases k2:k=j;(·rw[if_pos k2]at hy;injection hy with hy;subst hy;exact ho.UD _ _ hl);·rw[if_neg k2,if_neg (by omega)]at hy;exact Bg k k0 kn k1 _ y ha hy);·rw[if_neg k1]at hx;have k3:k≠j:=fun e=>k1 (by rw[e];exact hpc);rw[if_neg k3]at hy;by_cases k2:k=i;(·rw[if_pos k2]at hy;injection hy with hy;subst hy;subst k2;exact hD j (by omega) hcn hpc k0 x _ hx ha);·rw[if_neg k2]at hy;exact hC k k0 kn k1 x y hx hy);·rw[sw]at hx hy;rw[hpc,if_neg (by omega),if_pos rfl]at hx;injection hx with hx;subst hx;rw[if_neg (by omega),if_neg (by omega)]at hy;exact hC k k0 kn (by omega) _ y (by rw[kp];exact ha) hy);·rename_i hl;have hl:less a b=false:=Bool.eq_false_iff.2 hl;intro k k0 kn;by_cases k1:(k-1)/2=i;(·intro x y hx hy;rw[k1,hb]at hx;injection hx with hx;subst hx;exact ho.trans _ _ _ hl (Bg k k0 kn k1 a y ha hy));·exact hC k k0 kn k1
theorem K1(ho:Iq less) {xs:List α} {n:Nat} (h:iQ less xs n)(hn:n≤xs.length): ∀k,k<n→CC less xs 0 k:=by
 intro k;induction k using Nat.strongRecOn with|_ k ih=>intro hk;cases k with|zero=>intro x y hx hy;rw[hx]at hy;injection hy with hy;subst hy;exact ho.irr _|succ k=>exact Ir ho (by omega) (ih ((k+1-1)/2) (by omega) (by omega)) (h (k+1) (by omega) hk)
def sY(less:α→α→Bool)(xs:List α):List α:=ew less (bV xs 0 (xs.length-1)) 0 (xs.length-1)
theorem UE(ho:Iq less) {xs:List α} {e:α} (he:xs[0]?=some e)(h:iQ less xs xs.length): ∃ys,sY less xs=ys++ [e]∧(e::ys).Perm xs∧iQ less ys ys.length∧ ∀a,a∈ys→less a e=false:=by
 have hlen:=(List.getElem?_eq_some_iff.1 he).1;obtain⟨l,hl⟩: ∃l,xs[xs.length-1]?=some l:=⟨_,List.getElem?_eq_getElem (by omega)⟩;have sw:=yQ he hl;have bm7:=K1 ho h (Nat.le_refl _)
 (have bw7:(sY less xs).length=xs.length:=by unfold sY;rw[Is _ _ _ _ (Nat.le_refl _),ec]);(have bm8:(sY less xs).Perm xs:=by unfold sY;exact(O2 _ _ _ _ (Nat.le_refl _)).trans (swap_perm ..))
 (have bm9:(sY less xs)[xs.length-1]?=some e:=by unfold sY;by_cases h1:xs.length=1;(·unfold ew;rw[dif_pos (by omega),sw,if_pos rfl]);·rw[O3 _ _ _ _ (Nat.le_refl _) (by omega) _ (Nat.le_refl _),sw,if_pos rfl])
 (have bn0:iQ less (sY less xs) (xs.length-1):=by unfold sY;by_cases h1:xs.length=1;(·intro k k0 kn;omega);·refine O4 ho _ _ _ _ (Nat.le_refl _) (by rw[ec];omega) (by omega) (fun k k0 kn kne x y hx hy=>?_) (fun k k0 kn kp i0=>by omega);rw[sw,if_neg (by omega),if_neg kne]at hx;rw[sw,if_neg (by omega),if_neg (by omega)]at hy;exact h k k0 (by omega) x y hx hy)
 (have UF:sY less xs=(sY less xs).take (xs.length-1)++ [e]:=by(conv=>lhs;rw[←List.take_append_drop (xs.length-1) (sY less xs)]);congr 1;(have:(sY less xs).drop (xs.length-1)=e::(sY less xs).drop (xs.length-1+1):=by obtain⟨h1,h2⟩:=List.getElem?_eq_some_iff.1 bm9;rw[List.drop_eq_getElem_cons h1,h2]);rw[this,List.drop_of_length_le (by omega)])
 (have hp:(e::(sY less xs).take (xs.length-1)).Perm xs:=by refine List.Perm.trans ?_ bm8;(conv=>rhs;rw[UF]);exact(List.perm_append_singleton e _).symm);refine⟨_,UF,hp,?_,fun a ha=>?_⟩
 (·rw[List.length_take,bw7,Nat.min_eq_left (by omega)];intro k k0 kn x y hx hy;rw[List.getElem?_take,if_pos (by omega)]at hx hy;exact bn0 k k0 kn x y hx hy);·obtain⟨k,hk⟩:=List.getElem?_of_mem (hp.mem_iff.1 (List.mem_cons_of_mem _ ha));exact bm7 k (List.getElem?_eq_some_iff.1 hk).1 e a he hk
end
end Go.Proofs.YtgpkijnphchkpaaGreat.Rev
namespace Go.Proofs.YtgpkijnphchkpaaGreat.Rev
set_option maxHeartbeats 1000000
abbrev Place:=Int×Int
def wW:List dK→aI→Int→List dK|[],x,c=>[(x,c)]|r::f,x,c=>if r.1=x then(r.1,min r.2 c)::f else r::wW f x c
def yR(out:aI)(at_:Int)(part:aI):Bool:=part.isPrefixOf (out.drop at_.toNat)
def findF(rs:List Rl)(acc:Int)(out:aI):Nat→List Place→Place→aI→Int→List dK→List dK|0,_,_,_,_,f=>f|n+1,l,p,x,c,f=>rs.foldl (fun f r=>if r.1=p.1∧yR out p.2 r.2.2.2.1=true∧(r.2.1,p.2+(r.2.2.2.1.length:Int))∉l then findF rs acc out n (l++ [(r.2.1,p.2+(r.2.2.2.1.length:Int))]) (r.2.1,p.2+(r.2.2.2.1.length:Int)) (x++r.2.2.1) (c+r.2.2.2.2) f else f) (if p.2=(out.length:Int)∧fJ acc p.1=true∧x.length≤40 then wW f x c else f)
structure oI(f:List dK)(S:aI→Int→Prop):Prop where
 nodup:(f.map (·.1)).Nodup
 sound: ∀x d,(x,d)∈f→S x d∧ ∀c,S x c→d≤c
 all: ∀x c,S x c→ ∃d,(x,d)∈f
theorem MN {x:aI} {c:Int} : ∀ {f:List dK} {y:aI} {d:Int},(f.map (·.1)).Nodup→((y,d)∈wW f x c↔(y≠x∧(y,d)∈f)∨(y=x∧((∃e,(x,e)∈f∧d=min e c)∨((∀e,(x,e)∉f)∧d=c))))|[],y,d,_=>(by simp[wW])|r::f,y,d,hn=>by obtain⟨h1,h2⟩:=List.nodup_cons.1 hn;unfold wW;split;(·rename_i hx;have oZ: ∀e,(x,e)∉f:=fun e he=>h1 (by show r.1∈_;rw[hx];exact List.mem_map_of_mem (f:=(·.1)) he);constructor;(·intro h;rcases List.mem_cons.1 h with h|h;(·obtain⟨rfl,rfl⟩:=Prod.mk.inj h;exact .inr ⟨hx,.inl ⟨r.2,by rw[←hx];exact List.mem_cons_self ..,rfl⟩⟩);·by_cases hy:y=x;(·subst hy;exact absurd h (oZ d));·exact .inl ⟨hy,List.mem_cons_of_mem _ h⟩);·rintro(⟨hy,h⟩|⟨rfl,⟨e,he,rfl⟩|⟨h,rfl⟩⟩);(·rcases List.mem_cons.1 h with h|h;(·exact absurd (by rw[←hx,←h]) hy);·exact List.mem_cons_of_mem _ h);(·rcases List.mem_cons.1 he with h|h;(·rw[←h];exact List.mem_cons_self ..);·exact absurd h (oZ e));·exact absurd (List.mem_cons_self ..) (by have:=h r.2;rw[←hx]at this;exact this));·rename_i hx;have ih:=MN (x:=x) (c:=c) (f:=f) (y:=y) (d:=d) h2;rw[List.mem_cons,ih];constructor;(·rintro(h|⟨hy,h⟩|⟨hy,⟨e,he,hd⟩|⟨h,hd⟩⟩);(·exact .inl ⟨fun e=>hx (by rw[←h,e]),by rw[h];exact List.mem_cons_self ..⟩);(·exact .inl ⟨hy,List.mem_cons_of_mem _ h⟩);(·exact .inr ⟨hy,.inl ⟨e,List.mem_cons_of_mem _ he,hd⟩⟩);·refine .inr ⟨hy,.inr ⟨fun e he=>?_,hd⟩⟩;rcases List.mem_cons.1 he with he|he;(·exact hx (by rw[←he]));·exact h e he);·rintro(⟨hy,h⟩|⟨hy,⟨e,he,hd⟩|⟨h,hd⟩⟩);(·rcases List.mem_cons.1 h with h|h;(·exact .inl h);·exact .inr (.inl ⟨hy,h⟩));(·rcases List.mem_cons.1 he with he|he;(·exact absurd (by rw[←he]) hx);·exact .inr (.inr ⟨hy,.inl ⟨e,he,hd⟩⟩));·exact .inr (.inr ⟨hy,.inr ⟨fun e he=>h e (List.mem_cons_of_mem _ he),hd⟩⟩)
theorem It {x:aI} {c:Int} : ∀ {f:List dK} {y:aI},y∈(wW f x c).map (·.1)↔y∈f.map (·.1)∨y=x|[],y=>(by simp[wW])|r::f,y=>by unfold wW;split;(·rename_i hx;simp only[List.map_cons,List.mem_cons];constructor;(·exact .inl);·rintro(h|h);(·exact h);·exact .inl (by rw[h,hx]));·simp only[List.map_cons,List.mem_cons,It (f:=f),or_assoc]
theorem DP {x:aI} {c:Int} : ∀ {f:List dK},(f.map (·.1)).Nodup→((wW f x c).map (·.1)).Nodup|[],_=>(by simp[wW])|r::f,hn=>by obtain⟨h1,h2⟩:=List.nodup_cons.1 hn;unfold wW;split;(·exact hn);·rename_i hx;rw[List.map_cons,List.nodup_cons];refine⟨fun h=>?_,DP h2⟩;rcases It.1 h with h|h;(·exact h1 h);·exact hx h
theorem K3 {f:List dK} {S:aI→Int→Prop} {x:aI} {c:Int} (h:oI f S):oI (wW f x c) (fun y d=>S y d∨(y=x∧d=c)):=by
 have hm:=fun y d=>MN (x:=x) (c:=c) (f:=f) (y:=y) (d:=d) h.nodup;refine⟨DP h.nodup,fun y d hd=>?_,fun y d hd=>?_⟩;(·rcases(hm y d).1 hd with⟨hy,h1⟩|⟨rfl,⟨e,h1,rfl⟩|⟨h1,rfl⟩⟩;(·obtain⟨k1,k2⟩:=h.sound y d h1;exact⟨.inl k1,fun c' iY=>iY.elim (k2 c') fun hh=>absurd hh.1 hy⟩);(·obtain⟨k1,k2⟩:=h.sound y e h1;refine⟨?_,fun c' iY=>?_⟩;(·by_cases hle:e≤c;(·rw[Int.min_eq_left hle];exact .inl k1);·rw[Int.min_eq_right (by omega)];exact .inr ⟨rfl,rfl⟩);·rcases iY with iY|⟨_,rfl⟩;(·have:=k2 c' iY;omega);·omega);·refine⟨.inr ⟨rfl,rfl⟩,fun c' iY=>?_⟩;rcases iY with iY|⟨_,rfl⟩;(·obtain⟨e,he⟩:=h.all y c' iY;exact absurd he (h1 e));·omega)
 ·rcases hd with hd|⟨rfl,rfl⟩;(·obtain⟨e,he⟩:=h.all y d hd;by_cases hy:y=x;(·subst hy;exact⟨min e c,(hm y _).2 (.inr ⟨rfl,.inl ⟨e,he,rfl⟩⟩)⟩);·exact⟨e,(hm y e).2 (.inl ⟨hy,he⟩)⟩);·by_cases hh: ∃e,(y,e)∈f;(·obtain⟨e,he⟩:=hh;exact⟨min e d,(hm y _).2 (.inr ⟨rfl,.inl ⟨e,he,rfl⟩⟩)⟩);·exact⟨d,(hm y d).2 (.inr ⟨rfl,.inr ⟨fun e he=>hh ⟨e,he⟩,rfl⟩⟩)⟩
theorem fp {f:List dK} {S T:aI→Int→Prop} (h: ∀x c,S x c↔T x c)(hf:oI f S):oI f T:=⟨hf.nodup,fun x d hd=>⟨(h x d).1 (hf.sound x d hd).1,fun c hc=>(hf.sound x d hd).2 c ((h x c).2 hc)⟩,fun x c hc=>hf.all x c ((h x c).2 hc)⟩
theorem MO {s:Nat} (hs:s<256) {i m:Nat} (hi:i<8)(hm:m<8)(h:s/2^i%2=0):(s+2^i)/2^m%2=1↔(s/2^m%2=1∨m=i):=by
 (have hi8:i=0∨i=1∨i=2∨i=3∨i=4∨i=5∨i=6∨i=7:=by omega);(have hm8:m=0∨m=1∨m=2∨m=3∨m=4∨m=5∨m=6∨m=7:=by omega);rcases hi8 with rfl|rfl|rfl|rfl|rfl|rfl|rfl|rfl<;>rcases hm8 with rfl|rfl|rfl|rfl|rfl|rfl|rfl|rfl<;>simp only[Nat.reducePow]at h⊢ <;>first|omega|(constructor<;>intro _<;>first|omega|exact .inr trivial)
theorem MP {i m:Nat} (hi:i<8)(hm:m<8):2^i/2^m%2=1↔m=i:=by have:=MO (s:=0) (by omega) hi hm (by simp);rw[Nat.zero_add]at this;rw[this];simp
structure Fy(l:List Place)(p:cK):Prop where
 bits: ∀m:Int,0≤m→m<8→(fJ p.2.2 m=true↔(m,p.1)∈l)
 le: ∀q,q∈l→q.2≤p.1
theorem uX {s m:Int} :fJ s m=true↔s.toNat/2^m.toNat%2=1:=by simp[fJ]
theorem Fz:Fy [(0,0)] (0,0,1):=by
 refine⟨fun m h0 h8=>?_,fun q hq=>by rw[List.mem_singleton.1 hq];exact Int.le_refl _⟩;rw[uX];have:=MP (i:=0) (m:=m.toNat) (by decide) (by omega);simp only[Nat.pow_zero]at this
 rw[show((0,0,1):cK).2.2.toNat=1 from rfl,this];simp only[List.mem_singleton,Prod.mk.injEq,and_true];omega
variable {rs:List Rl} {acc:Int} {out:aI}
theorem FA {l:List Place} {p:cK} {r:Rl} (hv:Fy l p)(hp:DK out p)(hm:0≤r.2.1∧r.2.1<8):((r.1=p.2.1∧yR out p.1 r.2.2.2.1=true∧(r.2.1,p.1+(r.2.2.2.1.length:Int))∉l)↔ ∃q,dk out p r=some q)∧ ∀q,dk out p r=some q→q.1=p.1+(r.2.2.2.1.length:Int)∧q.2.1=r.2.1∧Fy (l++ [(r.2.1,p.1+(r.2.2.2.1.length:Int))]) q:=by
 unfold yR dk;by_cases ho:r.2.2.2.1=[];(·(have Cf:(r.2.2.2.1.length:Int)=0:=by rw[ho];rfl);rw[Cf,Int.add_zero];have hb:=hv.bits r.2.1 hm.1 hm.2;constructor;(·constructor;(·rintro⟨h1,h2,h3⟩;rw[if_pos ⟨h1,h2⟩,if_neg (by rw[ho];exact fun h=>h rfl),if_pos (Bool.eq_false_iff.2 fun hh=>h3 (hb.1 hh))];exact⟨_,rfl⟩);·rintro⟨q,hq⟩;split at hq;(·rename_i h1;rw[if_neg (by rw[ho];exact fun h=>h rfl)]at hq;split at hq;(·rename_i h3;exact⟨h1.1,h1.2,fun hh=>by rw[hb.2 hh]at h3;cases h3⟩);·cases hq);·cases hq);·intro q hq;split at hq;(·rw[if_neg (by rw[ho];exact fun h=>h rfl)]at hq;split at hq;(·rename_i h3;injection hq with hq;subst hq;refine⟨rfl,rfl,fun m h0 h8=>?_,fun x hx=>?_⟩;(·dsimp only;(have eZ:p.2.2.toNat/2^r.2.1.toNat%2=0:=by have:=Bool.eq_false_iff.1 h3;rw[ne_eq,uX]at this;omega);have h2:=MO (s:=p.2.2.toNat) (by have:=hp.seen;omega) (i:=r.2.1.toNat) (m:=m.toNat) (by omega) (by omega) eZ;(have e:(p.2.2+nv r.2.1).toNat=p.2.2.toNat+2^r.2.1.toNat:=by have:=hp.seen;have hb:nv r.2.1=((2^r.2.1.toNat:Nat):Int):=rfl;rw[hb];generalize 2^r.2.1.toNat=z;omega);rw[uX,e,h2,List.mem_append,List.mem_singleton,←uX,hv.bits m h0 h8,Prod.mk.injEq];constructor;(·rintro(h|h);(·exact .inl h);·exact .inr ⟨by omega,rfl⟩);·rintro(h|h);(·exact .inl h);·exact .inr (by omega));·dsimp only;rcases List.mem_append.1 hx with hx|hx;(·exact hv.le x hx);·rw[List.mem_singleton.1 hx];exact Int.le_refl _);·cases hq);·cases hq)
 ·have Cf:0<r.2.2.2.1.length:=List.length_pos_iff.2 ho;(have cQ:(r.2.1,p.1+(r.2.2.2.1.length:Int))∉l:=fun hh=>by have:=hv.le _ hh;dsimp only at this;omega);constructor;(·constructor;(·rintro⟨h1,h2,_⟩;rw[if_pos ⟨h1,h2⟩,if_pos ho];exact⟨_,rfl⟩);·rintro⟨q,hq⟩;split at hq;(·rename_i h1;exact⟨h1.1,h1.2,cQ⟩);·cases hq);·intro q hq;split at hq;(·injection hq with hq;subst hq;refine⟨rfl,rfl,fun m h0 h8=>?_,fun x hx=>?_⟩;(·dsimp only;have e:(nv r.2.1).toNat=2^r.2.1.toNat:=Int.toNat_natCast _;rw[uX,e,MP (by omega) (by omega),List.mem_append,List.mem_singleton,Prod.mk.injEq];constructor;(·intro h;exact .inr ⟨by omega,rfl⟩);·rintro(h|h);(·have:=hv.le _ h;dsimp only at this;omega);·omega);·dsimp only;rcases List.mem_append.1 hx with hx|hx;(·have:=hv.le x hx;omega);·rw[List.mem_singleton.1 hx];exact Int.le_refl _);·cases hq
def K4(rs:List Rl)(acc:Int)(out:aI)(p:cK)(x:aI)(c:Int)(z:aI)(d:Int):Prop:= ∃y e,Path rs acc out p y e∧z=x++y∧d=c+e∧z.length≤40
theorem Iu(h:rM rs): ∀(n:Nat)(l:List Place)(p:cK)(x:aI)(c:Int)(f:List dK)(S:aI→Int→Prop),DK out p→ms out p<n→Fy l p→oI f S→oI (findF rs acc out n l (p.2.1,p.1) x c f) (fun z d=>S z d∨K4 rs acc out p x c z d):=by
 intro n;induction n with|zero=>intro _ _ _ _ _ _ _ hn;exact absurd hn (Nat.not_lt_zero _)|succ n ih=>intro l p x c f S hp hn hv hf;rw[findF];(have a44:oI (if(p.2.1,p.1).2=(out.length:Int)∧fJ acc (p.2.1,p.1).1=true∧x.length≤40 then wW f x c else f) (fun z d=>S z d∨(iy acc out p=true∧x.length≤40∧z=x∧d=c)):=by split;(·rename_i hc;refine fp (fun z d=>?_) (K3 hf);(have he:iy acc out p=true:=by unfold iy;rw[Bool.and_eq_true,decide_eq_true_eq];exact⟨hc.1,hc.2.1⟩);constructor;(·rintro(h1|⟨h1,h2⟩);(·exact .inl h1);·exact .inr ⟨he,hc.2.2,h1,h2⟩);·rintro(h1|⟨_,_,h1,h2⟩);(·exact .inl h1);·exact .inr ⟨h1,h2⟩);·rename_i hc;refine fp (fun z d=>?_) hf;constructor;(·exact .inl);·rintro(h1|⟨h1,h2,_⟩);(·exact h1);·unfold iy at h1;rw[Bool.and_eq_true,decide_eq_true_eq]at h1;exact absurd ⟨h1.1,h1.2,h2⟩ hc);(have iA: ∀(l2:List Rl)(f:List dK)(S:aI→Int→Prop),(∀r,r∈l2→r∈rs)→oI f S→oI (l2.foldl (fun f r=>if r.1=(p.2.1,p.1).1∧yR out (p.2.1,p.1).2 r.2.2.2.1=true∧(r.2.1,(p.2.1,p.1).2+(r.2.2.2.1.length:Int))∉l then findF rs acc out n (l++ [(r.2.1,(p.2.1,p.1).2+(r.2.2.2.1.length:Int))]) (r.2.1,(p.2.1,p.1).2+(r.2.2.2.1.length:Int)) (x++r.2.2.1) (c+r.2.2.2.2) f else f) f) (fun z d=>S z d∨ ∃r q,r∈l2∧dk out p r=some q∧K4 rs acc out q (x++r.2.2.1) (c+r.2.2.2.2) z d):=by intro l2;induction l2 with|nil=>intro f S _ hf;exact fp (fun z d=>by simp) hf|cons r l2 ih2=>intro f S tp hf;rw[List.foldl_cons];have hr:=tp r (List.mem_cons_self ..);obtain⟨v1,v2⟩:=FA (out:=out) hv hp (h.mode r hr);dsimp only;split;(·rename_i hc;obtain⟨q,hq⟩:=v1.1 hc;obtain⟨k1,k2,k3⟩:=v2 q hq;obtain⟨o1,o2,_⟩:=fx hp (h.mode r hr) hq;have:=ih (l++ [(r.2.1,p.1+(r.2.2.2.1.length:Int))]) q (x++r.2.2.1) (c+r.2.2.2.2) f S o1 (by omega) k3 hf;rw[k1,k2]at this;refine fp (fun z d=>?_) (ih2 _ _ (fun a ha=>tp a (List.mem_cons_of_mem _ ha)) this);constructor;(·rintro((h1|h1)|⟨r',q',h1,h2,h3⟩);(·exact .inl h1);(·exact .inr ⟨r,q,List.mem_cons_self ..,hq,h1⟩);·exact .inr ⟨r',q',List.mem_cons_of_mem _ h1,h2,h3⟩);·rintro(h1|⟨r',q',h1,h2,h3⟩);(·exact .inl (.inl h1));·rcases List.mem_cons.1 h1 with rfl|h1;(·rw[hq]at h2;injection h2 with h2;subst h2;exact .inl (.inr h3));·exact .inr ⟨r',q',h1,h2,h3⟩);·rename_i hc;refine fp (fun z d=>?_) (ih2 _ _ (fun a ha=>tp a (List.mem_cons_of_mem _ ha)) hf);constructor;(·rintro(h1|⟨r',q',h1,h2,h3⟩);(·exact .inl h1);·exact .inr ⟨r',q',List.mem_cons_of_mem _ h1,h2,h3⟩);·rintro(h1|⟨r',q',h1,h2,h3⟩);(·exact .inl h1);·rcases List.mem_cons.1 h1 with rfl|h1;(·exact absurd (v1.2 ⟨q',h2⟩) hc);·exact .inr ⟨r',q',h1,h2,h3⟩);refine fp (fun z d=>?_) (iA rs _ _ (fun r hr=>hr) a44);constructor;(·rintro((h1|⟨h1,h2,rfl,rfl⟩)|⟨r,q,hr,hq,y,e,h1,rfl,rfl,h4⟩);(·exact .inl h1);(·exact .inr ⟨[],0,.done h1,by simp,by omega,h2⟩);·exact .inr ⟨r.2.2.1++y,r.2.2.2.2+e,.step hr hq h1,by rw[List.append_assoc],by omega,h4⟩);·rintro(h1|⟨y,e,h1,rfl,rfl,h4⟩);(·exact .inl (.inl h1));·cases h1 with|done he=>exact .inl (.inr ⟨he,by simpa using h4,by simp,by omega⟩)| @step _ q r y e hr hq NI=>exact .inr ⟨r,q,hr,hq,y,e,NI,by rw[List.append_assoc],by omega,h4⟩
def Iv(l:List dK)(x:dK):List dK:=l.takeWhile (fun y=>fQ y x)++x::l.dropWhile (fun y=>fQ y x)
def a45(rs:List Rl)(acc:Int)(out:aI):List dK:=(findF rs acc out (out.length*256+256) [(0,0)] (0,0) [] 0 []).foldl Iv []
theorem Iw {a b:dK} (h:a.1≠b.1)(h':fQ a b=false):fQ b a=true:=by
 have h2:=fun hh=>Bool.eq_false_iff.1 h' (ny.2 hh);rw[ny];by_cases k1:b.2<a.2;(·exact .inl k1);·(have k2:a.2=b.2:=by by_cases k:a.2<b.2;(·exact absurd (.inl k) h2);·omega);by_cases k3:b.1.length<a.1.length;(·exact .inr ⟨k2.symm,.inl k3⟩);·(have k4:a.1.length=b.1.length:=by by_cases k:a.1.length<b.1.length;(·exact absurd (.inr ⟨k2,.inl k⟩) h2);·omega);exact .inr ⟨k2.symm,.inr ⟨k4.symm,uW h (Bool.eq_false_iff.2 fun hh=>h2 (.inr ⟨k2,.inr ⟨k4,hh⟩⟩))⟩⟩
theorem Ix: ∀ {l:List dK} {x:dK},l.Pairwise (fun a b=>fQ a b=true)→(∀a,a∈l→a.1≠x.1)→ ∀a,a∈l.dropWhile (fun y=>fQ y x)→fQ x a=true|[],_,_,_,a,ha=>(by cases ha)|b::l,x,hs,hn,a,ha=>by obtain⟨p,q⟩:=List.pairwise_cons.1 hs;rw[List.dropWhile_cons]at ha;split at ha;(·exact Ix q (fun c hc=>hn c (List.mem_cons_of_mem _ hc)) a ha);·rename_i hb;have hxb:=Iw (hn b (List.mem_cons_self ..)) (Bool.eq_false_iff.2 hb);rcases List.mem_cons.1 ha with rfl|ha;(·exact hxb);·exact mE hxb (p a ha)
theorem rZ {α:Type} {p:α→Bool} : ∀ {l:List α} {a:α},a∈l.takeWhile p→p a=true|[],_,h=>(by cases h)|b::l,a,h=>by rw[List.takeWhile_cons]at h;split at h;(·rename_i hb;rcases List.mem_cons.1 h with rfl|h;(·exact hb);·exact rZ h);·cases h
theorem ar4 {l:List dK} {x:dK} (hs:l.Pairwise (fun a b=>fQ a b=true))(hn: ∀a,a∈l→a.1≠x.1):(Iv l x).Pairwise (fun a b=>fQ a b=true):=by
 unfold Iv;rw[List.pairwise_append];have hd:=Ix hs hn;refine⟨hs.sublist (List.takeWhile_sublist _),List.Pairwise.cons hd (hs.sublist (List.dropWhile_sublist _)),fun a ha b hb=>?_⟩
 have ha':=rZ ha;rcases List.mem_cons.1 hb with rfl|hb;(·exact ha');·exact mE ha' (hd b hb)
theorem MQ {l:List dK} {x y:dK} :y∈Iv l x↔y=x∨y∈l:=by
 unfold Iv;rw[List.mem_append,List.mem_cons];(conv=>rhs;rw[←List.takeWhile_append_dropWhile (p:=fun y=>fQ y x) (l:=l),List.mem_append]);constructor;(·rintro(h|h|h);(·exact .inr (.inl h));(·exact .inl h);·exact .inr (.inr h))
 ·rintro(h|h|h);(·exact .inr (.inl h));(·exact .inl h);·exact .inr (.inr h)
theorem Iy: ∀(f l:List dK),l.Pairwise (fun a b=>fQ a b=true)→(f.map (·.1)).Nodup→(∀a,a∈l→a.1∉f.map (·.1))→(f.foldl Iv l).Pairwise (fun a b=>fQ a b=true)∧ ∀y,y∈f.foldl Iv l↔y∈l∨y∈f|[],l,hs,_,_=>⟨hs,fun y=>by simp⟩|x::f,l,hs,hn,hd=>by obtain⟨n1,n2⟩:=List.nodup_cons.1 hn;have hx: ∀a,a∈l→a.1≠x.1:=fun a ha e=>hd a ha (by rw[e];exact List.mem_cons_self ..);(obtain⟨k1,k2⟩:=Iy f (Iv l x) (ar4 hs hx) n2 fun a ha=>by rcases MQ.1 ha with rfl|ha;(·exact n1);·exact fun hh=>hd a ha (List.mem_cons_of_mem _ hh));refine⟨k1,fun y=>?_⟩;rw[List.foldl_cons,k2,MQ,List.mem_cons];constructor;(·rintro((h|h)|h);(·exact .inr (.inl h));(·exact .inl h);·exact .inr (.inr h));·rintro(h|h|h);(·exact .inl (.inr h));(·exact .inl (.inl h));·exact .inr h
theorem ar5(h:rM rs):DN rs acc out (a45 rs acc out):=by
 have hs:=Iu (acc:=acc) (out:=out) h (out.length*256+256) [(0,0)] (0,0,1) [] 0 [] (fun _ _=>False) (Ie out) (by have:=MM (out:=out) (p:=(0,0,1));omega) Fz ⟨List.nodup_nil,fun x d hd=>absurd hd List.not_mem_nil,fun x c hc=>hc.elim⟩
 (have hS: ∀z d,(False∨K4 rs acc out (0,0,1) [] 0 z d)↔BZ rs acc out z d∧z.length≤40:=fun z d=>by constructor;(·rintro(h1|⟨y,e,h1,rfl,rfl,h4⟩);(·exact h1.elim);·exact⟨by simpa[BZ]using h1,h4⟩);·rintro⟨h1,h2⟩;exact .inr ⟨z,d,h1,by simp,by omega,h2⟩)
 have vE:=fp hS hs;obtain⟨k1,k2⟩:=Iy _ [] List.Pairwise.nil vE.nodup fun a ha=>absurd ha List.not_mem_nil;refine⟨k1,fun x d=>?_⟩;unfold a45;rw[k2];constructor;(·rintro(h1|h1);(·exact absurd h1 List.not_mem_nil);·obtain⟨q1,q2⟩:=vE.sound x d h1;exact⟨⟨q1.1,fun c hc=>q2 c ⟨hc,q1.2⟩⟩,q1.2⟩)
 ·rintro⟨⟨h1,h2⟩,h3⟩;obtain⟨e,he⟩:=vE.all x d ⟨h1,h3⟩;obtain⟨q1,q2⟩:=vE.sound x e he;have h4:=q2 d ⟨h1,h3⟩;have h5:=h2 e q1.1;(have e1:e=d:=by omega);subst e1;exact .inr he
end Go.Proofs.YtgpkijnphchkpaaGreat.Rev
namespace Go.Proofs.YtgpkijnphchkpaaGreat.Rev
set_option maxHeartbeats 1000000
variable {rs:List Rl} {acc:Int} {out:aI}
def isLet(u:UInt8):Prop:=97≤u.toNat∧u.toNat≤122
def ar6(rs:List Rl):Prop:= ∀r,r∈rs→ ∀u,u∈r.2.2.1→isLet u
theorem Iz(h:ar6 rs) {p:cK} {x:aI} {c:Int} (hp:Path rs acc out p x c): ∀u,u∈x→isLet u:=by
 induction hp with|done=>intro u hu;cases hu|step hr _ _ ih=>intro u hu;rcases List.mem_append.1 hu with hu|hu;(·exact h _ hr u hu);·exact ih u hu
def xV:Nat→Nat→List UInt8|0,_=>[]|n+1,k=>UInt8.ofNat (97+k)::xV n (k+1)
def eg:List UInt8:=xV 26 0
theorem Bl:eg=[97,98,99,100,101,102,103,104,105,106,107,108,109,110,111,112,113,114,115,116,117,118,119,120,121,122]:=by decide
theorem xW {u:UInt8} :u∈eg↔isLet u:=by
 rw[Bl];unfold isLet;constructor;(·intro h;simp only[List.mem_cons,List.not_mem_nil,or_false]at h;rcases h with rfl|rfl|rfl|rfl|rfl|rfl|rfl|rfl|rfl|rfl|rfl|rfl|rfl|rfl|rfl|rfl|rfl|rfl|rfl|rfl|rfl|rfl|rfl|rfl|rfl|rfl<;>decide)
 ·intro h;(have hu:u=UInt8.ofNat u.toNat:=by simp);obtain⟨h1,h2⟩:=h;generalize u.toNat=n at hu h1 h2;(have:n=97∨n=98∨n=99∨n=100∨n=101∨n=102∨n=103∨n=104∨n=105∨n=106∨n=107∨n=108∨n=109∨n=110∨n=111∨n=112∨n=113∨n=114∨n=115∨n=116∨n=117∨n=118∨n=119∨n=120∨n=121∨n=122:=by omega);rcases this with rfl|rfl|rfl|rfl|rfl|rfl|rfl|rfl|rfl|rfl|rfl|rfl|rfl|rfl|rfl|rfl|rfl|rfl|rfl|rfl|rfl|rfl|rfl|rfl|rfl|rfl<;>(rw[hu];decide)
theorem CD:eg.Nodup:=by rw[Bl];decide
def uY(x:aI)(o:Option aZ):List FE:=match o with|some w=>[(x,true,w)]|none=>[]
def nA(x:aI)(g:UInt8→Option aZ)(l:List UInt8):List FE:=l.filterMap fun a=>match g a with|some w=>some (x++ [a],false,w)|none=>none
theorem jB {x:aI} {o:Option aZ} {a:FE} :a∈uY x o↔ ∃w,o=some w∧a=(x,true,w):=by unfold uY;cases o with|none=>simp|some w=>simp
theorem jC {x:aI} {g:UInt8→Option aZ} {l:List UInt8} {a:FE} :a∈nA x g l↔ ∃u w,u∈l∧g u=some w∧a=(x++ [u],false,w):=by
 unfold nA;rw[List.mem_filterMap];constructor;(·rintro⟨u,hu,h⟩;cases hg:g u with|none=>rw[hg]at h;cases h|some w=>rw[hg]at h;exact⟨u,w,hu,hg,(Option.some.inj h).symm⟩)
 ·rintro⟨u,w,hu,hg,rfl⟩;exact⟨u,hu,by rw[hg]⟩
theorem uZ {x:aI} {u:UInt8} {w:aZ} {z:aI} (h:cm (x++ [u],false,w) z): ∃t,z=x++u::t:=by
 unfold cm at h;rw[if_neg (show¬(false=true)by decide)]at h;obtain⟨t,ht⟩:=h;exact⟨t,by rw[←ht];simp⟩
theorem K5(h:rM rs)(O5:ar6 rs) {H:List FE} {R:List dK} {e:FE} (hf:iP rs acc out (e::H) R)(hd:e.2.1=false) {o:Option aZ} (ho:bZ (gB rs acc out e.1) o) {g:UInt8→Option aZ} (hg: ∀a,a∈eg→bZ (iO rs acc out (e.1++ [a])) (g a)):iP rs acc out (H++(uY e.1 o++nA e.1 g eg)) R:=by
 (have h40:e.1.length≤40:=by obtain⟨y,c,_,hl,_⟩:=(hf.live e (List.mem_cons_self ..) hd).1;rw[List.length_append]at hl;omega);refine K0 hf hd (fun a ha hf=>?_) (fun a ha ht=>?_) (fun z c hi hl hp=>?_) (fun a ha z hc=>?_) ?_
 (·rcases List.mem_append.1 ha with ha|ha;(·obtain⟨w,_,rfl⟩:=jB.1 ha;cases hf);·obtain⟨u,w,hu,hw,rfl⟩:=jC.1 ha;have:=hg u hu;rw[hw]at this;exact this);(·rcases List.mem_append.1 ha with ha|ha;(·obtain⟨w,rfl,rfl⟩:=jB.1 ha;exact⟨ho,h40⟩);·obtain⟨u,w,hu,hw,rfl⟩:=jC.1 ha;cases ht)
 (·obtain⟨t,rfl⟩:=hp;cases t with|nil=>rw[List.append_nil]at hi;(cases o with|none=>exact absurd ⟨c,hi,rfl⟩ (ho _)|some w=>refine⟨_,List.mem_append_left _ (jB.2 ⟨w,rfl,rfl⟩),?_⟩;unfold cm;rw[if_pos rfl,List.append_nil])|cons u t=>have hu:u∈eg:=xW.2 (Iz O5 hi u (by simp));have hm:=hg u hu;(have e2:e.1++u::t=e.1++ [u]++t:=by simp);rw[e2]at hi hl;cases hgu:g u with|none=>rw[hgu]at hm;exact absurd ⟨t,c,hi,hl,rfl⟩ (hm _)|some w=>refine⟨_,List.mem_append_right _ (jC.2 ⟨u,w,hu,hgu,rfl⟩),?_⟩;unfold cm;rw[if_neg (show¬(false=true)by decide),e2];exact List.prefix_append ..)
 (·rcases List.mem_append.1 ha with ha|ha;(·obtain⟨w,_,rfl⟩:=jB.1 ha;unfold cm at hc;rw[if_pos rfl]at hc;rw[←hc];exact List.prefix_refl _);·obtain⟨u,w,hu,hw,rfl⟩:=jC.1 ha;obtain⟨t,rfl⟩:=uZ hc;exact List.prefix_append ..)
 ·rw[List.pairwise_append];refine⟨?_,?_,fun a ha b hb z h1 h2=>?_⟩;(·unfold uY;cases o with|none=>exact List.Pairwise.nil|some w=>exact List.pairwise_singleton ..);(·unfold nA;rw[List.pairwise_filterMap];refine List.Pairwise.imp ?_ CD;intro a b oR a' ha' b' jl z h1 h2;cases hga:g a with|none=>rw[hga]at ha';cases ha'|some w=>cases VC:g b with|none=>rw[VC]at jl;cases jl|some w'=>rw[hga]at ha';rw[VC]at jl;obtain rfl:=Option.some.inj ha';obtain rfl:=Option.some.inj jl;obtain⟨t,rfl⟩:=uZ h1;obtain⟨t',NF⟩:=uZ h2;have:=List.append_cancel_left NF;injection this with h3 _;exact oR h3);·obtain⟨w,_,rfl⟩:=jB.1 ha;obtain⟨u,w',hu,hw,rfl⟩:=jC.1 hb;obtain⟨t,rfl⟩:=uZ h2;unfold cm at h1;rw[if_pos rfl]at h1;have:=congrArg List.length h1;simp at this
theorem O6 {K:List Rl} {R L:Int→Prop} (hK: ∀r,r∈rs→R r.1→L r.2.1→r∈K)(hR: ∀r,r∈rs→R r.1→R r.2.1)(a46: ∀m,fJ acc m=true→L m)(hL: ∀r,r∈rs→L r.2.1→L r.1) {p:cK} {x:aI} {c:Int} (hp:Path rs acc out p x c):R p.2.1→Path K acc out p x c∧L p.2.1:=by
 induction hp with| @done p h=>intro _;refine⟨.done h,a46 _ ?_⟩;unfold iy at h;rw[Bool.and_eq_true]at h;exact h.2| @step p q r x c hr ha _ ih=>intro hRp;(have UG:r.1=p.2.1:=by unfold dk at ha;split at ha;(·rename_i h;exact h.1);·cases ha);(have hto:q.2.1=r.2.1:=by unfold dk at ha;split at ha;(·split at ha;(·injection ha with ha;subst ha;rfl);·split at ha;(·injection ha with ha;subst ha;rfl);·cases ha);·cases ha);have h1:=hR r hr (by rw[UG];exact hRp);obtain⟨k1,k2⟩:=ih (by rw[hto];exact h1);rw[hto]at k2;exact⟨.step (hK r hr (by rw[UG];exact hRp) k2) ha k1,by rw[←UG];exact hL r hr k2⟩
theorem O8 {K:List Rl} (hK: ∀r,r∈K→r∈rs) {p:cK} {x:aI} {c:Int} (hp:Path K acc out p x c):Path rs acc out p x c:=by
 induction hp with|done h=>exact .done h|step hr ha _ ih=>exact .step (hK _ hr) ha ih
theorem IA {K:List Rl} (h: ∀x c,BZ K acc out x c↔BZ rs acc out x c) {L:List dK} (hL:DN K acc out L):DN rs acc out L:=⟨hL.srt,fun x d=>by rw[hL.mem];unfold O0;rw[h];constructor;(·rintro⟨⟨a,b⟩,c⟩;exact⟨⟨a,fun e he=>b e ((h x e).2 he)⟩,c⟩);·rintro⟨⟨a,b⟩,c⟩;exact⟨⟨a,fun e he=>b e ((h x e).1 he)⟩,c⟩⟩
def B0(U:List Thread)(B:Nat)(V:Thread→Option Int):Nat:=(U.map fun t=>match V t with|some c=>c.toNat|none=>B).sum
theorem FB {U:List Thread} {B:Nat} {V W:Thread→Option Int} (h: ∀t,t∈U→(match W t with|some c=>c.toNat|none=>B)≤(match V t with|some c=>c.toNat|none=>B)):B0 U B W≤B0 U B V:=by
 unfold B0;induction U with|nil=>exact Nat.le_refl _|cons t U ih=>have h1:=h t (List.mem_cons_self ..);have h2:=ih fun u hu=>h u (List.mem_cons_of_mem _ hu);simp only[List.map_cons,List.sum_cons];omega
theorem a47 {U:List Thread} {B:Nat} {V W:Thread→Option Int} {k:Thread} (hk:k∈U)(h: ∀t,t∈U→(match W t with|some c=>c.toNat|none=>B)≤(match V t with|some c=>c.toNat|none=>B))(dh:(match W k with|some c=>c.toNat|none=>B)<(match V k with|some c=>c.toNat|none=>B)):B0 U B W<B0 U B V:=by
 unfold B0;induction U with|nil=>cases hk|cons t U ih=>have h1:=h t (List.mem_cons_self ..);simp only[List.map_cons,List.sum_cons];rcases List.mem_cons.1 hk with rfl|hk;(·have h2:=FB (U:=U) (B:=B) (V:=V) (W:=W) fun u hu=>h u (List.mem_cons_of_mem _ hu);unfold B0 at h2;omega);·have h2:=ih hk fun u hu=>h u (List.mem_cons_of_mem _ hu);omega
def Bm(n:Nat):List cK:=(List.range (n+1)).flatMap fun(a:Nat)=>(List.range 8).flatMap fun(m:Nat)=>(List.range 256).map fun(s:Nat)=>((a:Int),(m:Int),(s:Int))
theorem DQ {n:Nat} {p:cK} (h1:0≤p.1∧p.1≤n)(h2:0≤p.2.1∧p.2.1<8)(h3:0≤p.2.2∧p.2.2<256):p∈Bm n:=by
 unfold Bm;refine List.mem_flatMap.2 ⟨p.1.toNat,List.mem_range.2 (by omega),List.mem_flatMap.2 ⟨p.2.1.toNat,List.mem_range.2 (by omega),List.mem_map.2 ⟨p.2.2.toNat,List.mem_range.2 (by omega),?_⟩⟩⟩
 exact Prod.ext (by dsimp only;omega) (Prod.ext (by dsimp only;omega) (by dsimp only;omega))
theorem O9(h:rM rs) {x m:aI} {p:cK} {c:Int} (ht:mP rs out x p m c):c+1000*(ms out p:Int)≤1000*((out.length*256+255:Nat):Int):=by
 induction ht with|start=>have:=MM (out:=out) (p:=(0,0,1));omega| @yv x p q r c ht hr ha ih=>have:=(fx (oF h ht) (h.mode r hr) ha).2.1;have:=(h.cost r hr).2;omega|Uz _ ih=>exact ih
end Go.Proofs.YtgpkijnphchkpaaGreat.Rev
namespace Go.Proofs.YtgpkijnphchkpaaGreat.Rev
set_option maxHeartbeats 1000000
def a48(rs:List Rl):Prop:= ∀r,r∈rs→r.2.2.1≠ []∨r.1<r.2.1
variable {rs:List Rl} {acc:Int} {inp out:aI}
end Go.Proofs.YtgpkijnphchkpaaGreat.Rev
