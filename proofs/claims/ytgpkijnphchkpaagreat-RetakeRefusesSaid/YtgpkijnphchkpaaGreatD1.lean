/- Plain facts: the first of the cheapest routes between an input and a text. Nothing here is trusted; no condition. -/
import Derived.Test.YtgpkijnphchkpaaGreatC5
set_option linter.unusedSimpArgs false
set_option linter.unusedVariables false
open Nat renaming reduceBEq→zA,reduceAdd→zB,reduceSub→zC,reduceMul→zD,reduceLeDiff→zE
open Int renaming reduceLT→zF,reduceLE→zG,reduceToNat→zH,reduceNeg→zI
namespace Go.Proofs.YtgpkijnphchkpaaGreat
attribute[local go_sem←]Bool.decide_and Bool.decide_or decide_not
attribute[local go_sem]PA ML ne_eq not_false_eq_true
set_option maxHeartbeats 4000000
set_option maxRecDepth 100000
def m9(s:a8):Bool:=jr s.1 1 8&&jr s.2.1 1 (2^s.1.toNat-1)&&decide (s.2.2.length≤64)
def nS(n:Int)(l:List Rl):Nat→Nat→Int×Int|0,_=>((l.length:Int),0)|k+1,i=>if cB n l i=true then nS n l k (i+1)else((i:Int),20)
def ck(s:a8):Int×Int:=if m9 s=true then nS s.1 s.2.2 s.2.2.length 0 else(-1,20)
theorem BR: ∀m:Nat,m<9→(2:Int)^m≤256:=by decide
def ud(c:Int):Int:=if 97≤c∧c≤122 then 1 else if 65≤c∧c≤90 then 2 else if 48≤c∧c≤57 then 3 else 0
theorem Wa(c:Int):PC env 119 [⟨.int .u8,c⟩] (.int .i64) (ud c):=by
 refine PC.LU (m:=2000) av aO1 rfl rfl rfl rfl (by kernel_rfl) ?_;intro hx;simp only[Tryz.f119];simp only[go_sem,zA,↓reduceIte,↓reduceDIte,zB,zC,zD,zE,zF,zG,zH,zI]
 unfold ud;(repeat' (first|(with_reducible intro _)|(with_reducible apply And.intro)));all_goals(split<;>first|rfl|omega|(split<;>first|rfl|omega|(split<;>first|rfl|omega)))
theorem sN(u:UInt8):(ud u.toNat=1)↔low u=true:=by
 unfold ud low;rw[decide_eq_true_eq];split;(·rename_i h;exact⟨fun _=>by omega,fun _=>rfl⟩);·rename_i h;split;(·exact⟨fun h=>by simp at h,fun h2=>by omega⟩);·split;(·exact⟨fun h=>by simp at h,fun h2=>by omega⟩);·exact⟨fun h=>by simp at h,fun h2=>by omega⟩
theorem sP(u:UInt8):(ud u.toNat=0)↔kU u=false:=by
 unfold ud kU;rw[decide_eq_false_iff_not];split;(·rename_i h;exact⟨fun h=>by simp at h,fun h2=>absurd (by omega) h2⟩);·split;(·rename_i h;exact⟨fun h=>by simp at h,fun h2=>absurd (by omega) h2⟩);·split;(·rename_i h;exact⟨fun h=>by simp at h,fun h2=>absurd (by omega) h2⟩);·exact⟨fun _=>by omega,fun _=>rfl⟩
theorem rS(s:ag):PC env 111 [⟨.str,s⟩] .bool (s.all low):=by
 refine PC.LU (m:=2000) av aO0 rfl rfl rfl rfl (by kernel_rfl) ?_;intro hx;simp only[Tryz.f111];simp only[go_sem,zA,↓reduceIte,↓reduceDIte,zB,zC,zD,zE,zF,zG,zH,zI]
 have hlen:s.length≤9223372036854775807:=hx.1;refine u1.Mp (X:=Nat) (fun(i:Nat)=>[(6,.iv (.int .i64) (i:Int)),(3,.any)]) (fun(i:Nat)=>[]) (fun(i:Nat)=>i≤s.length∧(s.take i).all low=true) (fun(i:Nat)=>s.length-i) 0 ?_
 intro b1 b2 ao aq;simp(config:= {maxSteps:=4000000})only[go_sem,zA,↓reduceIte,↓reduceDIte,zB,zC,zD,zE,zF,zG,zH,zI]at ao aq;subst ao;subst aq;refine⟨(by refine⟨?_,?_,rfl,rfl⟩<;>repeat' (first|exact trivial|exact Or.inl rfl|exact Or.inr rfl|apply aw|apply ax|apply ay|apply az|exact⟨(by show(_:Nat)<1000000000;omega),rfl,rfl⟩|rfl|(refine And.intro (Or.inl ?_) ?_)|(refine And.intro ?_ ?_))),?_,?_⟩
 (·exact⟨Nat.zero_le _,rfl⟩);intro i⟨hi,hb⟩back;refine LP av ⟨_,aO0,rfl⟩ 2000 _ _ (by kernel_rfl) ?_;simp only[go_sem,zA,↓reduceIte,↓reduceDIte,zB,zC,zD,zE,zF,zG,zH,zI]
 refine⟨fun h=>?_,fun h=>?_⟩;(·obtain⟨x,aK⟩: ∃x,s[i]?=some x:=r3 (by omega);refine⟨Int.natCast_nonneg _,_,⟨x,aK,rfl⟩,_,Wa x.toNat,fun _=>⟨fun g=>?_,fun g=>?_⟩⟩;(·rw[QX aK (by cases hl:low x with|false=>rfl|true=>exact absurd ((sN x).2 hl) g)]);·exact⟨LN (by omega) (by omega),back _ (i+1) (by refine⟨?_,?_,rfl,rfl⟩<;>repeat' (first|exact trivial|exact Or.inl rfl|exact Or.inr rfl|apply aw|apply ax|apply ay|apply az|exact⟨(by show(_:Nat)<1000000000;omega),rfl,rfl⟩|rfl|(refine And.intro (Or.inl ?_) ?_)|(refine And.intro ?_ ?_))) ⟨by omega,by rw[OQ aK,hb,(sN x).1 (by omega)];rfl⟩ (by omega)⟩)
 ·rw[List.take_of_length_le (by omega)]at hb;rw[hb]
theorem ll(s:ag):PC env 75 [⟨.str,s⟩] .bool (s.all kU):=by
 refine PC.LU (m:=2000) av ao5 rfl rfl rfl rfl (by kernel_rfl) ?_;intro hx;simp only[Tryz.f75];simp only[go_sem,zA,↓reduceIte,↓reduceDIte,zB,zC,zD,zE,zF,zG,zH,zI]
 have hlen:s.length≤9223372036854775807:=hx.1;refine u1.Mp (X:=Nat) (fun(i:Nat)=>[(6,.iv (.int .i64) (i:Int)),(3,.any)]) (fun(i:Nat)=>[]) (fun(i:Nat)=>i≤s.length∧(s.take i).all kU=true) (fun(i:Nat)=>s.length-i) 0 ?_
 intro b1 b2 ao aq;simp(config:= {maxSteps:=4000000})only[go_sem,zA,↓reduceIte,↓reduceDIte,zB,zC,zD,zE,zF,zG,zH,zI]at ao aq;subst ao;subst aq;refine⟨(by refine⟨?_,?_,rfl,rfl⟩<;>repeat' (first|exact trivial|exact Or.inl rfl|exact Or.inr rfl|apply aw|apply ax|apply ay|apply az|exact⟨(by show(_:Nat)<1000000000;omega),rfl,rfl⟩|rfl|(refine And.intro (Or.inl ?_) ?_)|(refine And.intro ?_ ?_))),?_,?_⟩
 (·exact⟨Nat.zero_le _,rfl⟩);intro i⟨hi,hb⟩back;refine LP av ⟨_,ao5,rfl⟩ 2000 _ _ (by kernel_rfl) ?_;simp only[go_sem,zA,↓reduceIte,↓reduceDIte,zB,zC,zD,zE,zF,zG,zH,zI]
 refine⟨fun h=>?_,fun h=>?_⟩;(·obtain⟨x,aK⟩: ∃x,s[i]?=some x:=r3 (by omega);refine⟨Int.natCast_nonneg _,_,⟨x,aK,rfl⟩,_,Wa x.toNat,fun _=>⟨fun g=>?_,fun g=>?_⟩⟩;(·rw[QX aK ((sP x).1 g)]);·exact⟨LN (by omega) (by omega),back _ (i+1) (by refine⟨?_,?_,rfl,rfl⟩<;>repeat' (first|exact trivial|exact Or.inl rfl|exact Or.inr rfl|apply aw|apply ax|apply ay|apply az|exact⟨(by show(_:Nat)<1000000000;omega),rfl,rfl⟩|rfl|(refine And.intro (Or.inl ?_) ?_)|(refine And.intro ?_ ?_))) ⟨by omega,by rw[OQ aK,hb];cases hl:kU x with|true=>rfl|false=>exact absurd ((sP x).2 hl) g⟩ (by omega)⟩)
 ·rw[List.take_of_length_le (by omega)]at hb;rw[hb]
theorem zi(n:Int)(r:Rl):PC env 163 [⟨.int .i64,n⟩,⟨Mn,r⟩] .bool (Mk n r):=by
 obtain⟨f,t,i,o,c⟩:=r;refine PC.LU (m:=2000) av bV8 rfl rfl rfl rfl (by kernel_rfl) ?_;intro hx;simp only[Tryz.f163];simp only[go_sem,zA,↓reduceIte,↓reduceDIte,zB,zC,zD,zE,zF,zG,zH,zI]
 have d3:=(rS i).dec;have d4:=(ll o).dec;have hR:Mk n (f,t,i,o,c)=(jr f 0 (n-1)&&jr t 0 (n-1)&&decide (i.length≤4)&&i.all low&&decide (o.length≤4)&&o.all kU&&jr c 0 1000):=rfl
 rw[hR];generalize i.all low=b3 at*;generalize o.all kU=b4 at*;(repeat' (first|(with_reducible intro _)|(with_reducible apply And.intro)|(with_reducible refine⟨_,d3,?_⟩;try simp only[go_sem,zA,↓reduceIte,↓reduceDIte,zB,zC,zD,zE,zF,zG,zH,zI])|(with_reducible refine⟨_,d4,?_⟩;try simp only[go_sem,zA,↓reduceIte,↓reduceDIte,zB,zC,zD,zE,zF,zG,zH,zI])|fail))
 all_goals first|omega|(simp_all[jr];try omega)
def AG:List Rl→Rl→Nat→Int|[],_,_=> -1|x::l,r,i=>if r=x then(i:Int)else AG l r (i+1)
theorem sQ {r:Rl} : ∀ {l:List Rl} {i:Nat},(0≤AG l r i)↔r∈l|[],i=>(by simp[AG])|x::l,i=>by unfold AG;split;(·rename_i h;subst h;simp);·rename_i h;rw[sQ];simp[h]
theorem Zw(l:List Rl)(r:Rl):PC env 178 [⟨.sl Mn,l⟩,⟨Mn,r⟩] (.int .i64) (AG l r 0):=by
 refine PC.LU (m:=2000) av aP3 rfl rfl rfl rfl (by kernel_rfl) ?_;intro hx;simp only[Tryz.f178];simp only[go_sem,zA,↓reduceIte,↓reduceDIte,zB,zC,zD,zE,zF,zG,zH,zI]
 have hlen:l.length≤9223372036854775807:=hx.1.1;obtain⟨T,hT⟩: ∃T,T=AG l r 0:=⟨_,rfl⟩;rw[←hT];refine u1.Mp (X:=Nat) (fun(i:Nat)=>[(8,.iv (.int .i64) (i:Int)),(5,.any)]) (fun(i:Nat)=>[]) (fun(i:Nat)=>i≤l.length∧AG (l.drop i) r i=T) (fun(i:Nat)=>l.length-i) 0 ?_
 intro b1 b2 ao aq;simp(config:= {maxSteps:=4000000})only[go_sem,zA,↓reduceIte,↓reduceDIte,zB,zC,zD,zE,zF,zG,zH,zI]at ao aq;subst ao;subst aq;refine⟨(by refine⟨?_,?_,rfl,rfl⟩<;>repeat' (first|exact trivial|exact Or.inl rfl|exact Or.inr rfl|apply aw|apply ax|apply ay|apply az|exact⟨(by show(_:Nat)<1000000000;omega),rfl,rfl⟩|rfl|(refine And.intro (Or.inl ?_) ?_)|(refine And.intro ?_ ?_))),?_,?_⟩
 (·exact⟨Nat.zero_le _,hT.symm⟩);clear hT;intro i⟨hi,hT⟩back;refine LP av ⟨_,aP3,rfl⟩ 2000 _ _ (by kernel_rfl) ?_;simp only[go_sem,zA,↓reduceIte,↓reduceDIte,zB,zC,zD,zE,zF,zG,zH,zI]
 refine⟨fun h=>?_,fun h=>?_⟩;(·obtain⟨x,aK⟩: ∃x,l[i]?=some x:=r3 (by omega);rw[drop_cons aK,AG]at hT;refine⟨Int.natCast_nonneg _,x,aK,fun g=>?_,fun g=>?_⟩;(·rw[if_pos (by obtain⟨e1,e2,e3,e4,e5⟩:=g;exact Prod.ext e1 (Prod.ext e2 (Prod.ext e3 (Prod.ext e4 e5))))]at hT;exact hT);·rw[if_neg (fun e=>g (by subst e;exact⟨rfl,rfl,rfl,rfl,rfl⟩))]at hT;exact⟨LN (by omega) (by omega),back _ (i+1) (by refine⟨?_,?_,rfl,rfl⟩<;>repeat' (first|exact trivial|exact Or.inl rfl|exact Or.inr rfl|apply aw|apply ax|apply ay|apply az|exact⟨(by show(_:Nat)<1000000000;omega),rfl,rfl⟩|rfl|(refine And.intro (Or.inl ?_) ?_)|(refine And.intro ?_ ?_))) ⟨by omega,hT⟩ (by omega)⟩)
 ·rw[List.drop_of_length_le (by omega)]at hT;exact hT
theorem TE(l:List Rl)(r:Rl):PC env 164 [⟨.sl Mn,l⟩,⟨Mn,r⟩] .bool (decide (r∈l)):=by
 refine PC.LU (m:=2000) av bV9 rfl rfl rfl rfl (by kernel_rfl) ?_;intro hx;simp only[Tryz.f164];simp only[go_sem,zA,↓reduceIte,↓reduceDIte,zB,zC,zD,zE,zF,zG,zH,zI]
 refine⟨_,Zw l r,fun _=>?_⟩;exact decide_eq_decide.2 sQ
theorem zj(s:a8):PC env 143 [⟨LQ,s⟩] (.Mj (.int .i64) (.int .i64)) (ck s):=by
 obtain⟨n,a,rs⟩:=s;refine PC.LU (m:=2000) av aO7 rfl rfl rfl rfl (by kernel_rfl) ?_;intro hx;simp only[Tryz.f143];simp only[go_sem,zA,↓reduceIte,↓reduceDIte,zB,zC,zD,zE,zF,zG,zH,zI]
 (have dc:m9 (n,a,rs)=false→((-1:Int),(20:Int))=ck (n,a,rs):=fun h=>by unfold ck;rw[h];rfl);have hd:m9 (n,a,rs)=(jr n 1 8&&jr a 1 (2^n.toNat-1)&&decide (rs.length≤64)):=rfl
 refine⟨fun g1=>⟨fun g2=>⟨fun g3=>dc ?_,fun g3=>⟨fun g4=>?_,fun g4=>dc ?_⟩⟩,fun g2=>dc ?_⟩,fun g1=>dc ?_⟩;(·rw[hd];simp;omega);(·have Kv:(2:Int)^n.toNat≤256:=BR _ (by omega);have IN:(0:Int)<2^n.toNat:=Int.pow_pos (by decide);refine⟨⟨by omega,by omega⟩,LN (by omega) (by omega),fun g5=>dc ?_,fun g5=>?_⟩;(·rw[hd];simp[jr];omega);·(have hh:m9 (n,a,rs)=true:=by rw[hd];simp[jr];omega);(have hE:ck (n,a,rs)=nS n rs rs.length 0:=by simp[ck,hh]);rw[hE];obtain⟨T,hT⟩: ∃T,T=nS n rs rs.length 0:=⟨_,rfl⟩;rw[←hT];clear dc hd hh hE;refine u1.Mp (X:=Nat) (fun(z:Nat)=>[(35,.iv (.int .i64) (z:Int)),(4,.any),(5,.any)]) (fun(z:Nat)=>[]) (fun(z:Nat)=>z≤rs.length∧nS n rs (rs.length-z) z=T) (fun(z:Nat)=>rs.length-z) 0 ?_;intro b1 b2 ao aq;simp(config:= {maxSteps:=4000000})only[go_sem,zA,↓reduceIte,↓reduceDIte,zB,zC,zD,zE,zF,zG,zH,zI]at ao aq;subst ao;subst aq;refine⟨(by refine⟨?_,?_,rfl,rfl⟩<;>repeat' (first|exact trivial|exact Or.inl rfl|exact Or.inr rfl|apply aw|apply ax|apply ay|apply az|exact⟨(by show(_:Nat)<1000000000;omega),rfl,rfl⟩|rfl|(refine And.intro (Or.inl ?_) ?_)|(refine And.intro ?_ ?_))),?_,?_⟩;(·exact⟨Nat.zero_le _,hT.symm⟩);clear hT;intro i⟨hi,hT⟩back;refine LP av ⟨_,aO7,rfl⟩ 2000 _ _ (by kernel_rfl) ?_;simp only[go_sem,zA,↓reduceIte,↓reduceDIte,zB,zC,zD,zE,zF,zG,zH,zI];refine⟨fun g6=>?_,fun g6=>?_⟩;(·obtain⟨r,hr⟩: ∃r,rs[i]?=some r:=r3 (by omega);(have e:rs.length-i=(rs.length-(i+1))+1:=by omega);rw[e,nS]at hT;(have ra:cB n rs i=(decide (r∉rs.take i)&&Mk n r):=by unfold cB;rw[hr]);rw[ra]at hT;refine⟨Int.natCast_nonneg _,r,hr,_,zi n r,?_⟩;cases hq:Mk n r;(·rw[hq,Bool.and_false]at hT;refine sM (b':=true) rfl ?_;simp only[go_sem,zA,↓reduceIte,↓reduceDIte,zB,zC,zD,zE,zF,zG,zH,zI];exact hT);·rw[hq,Bool.and_true]at hT;refine sM (b':=false) rfl ?_;simp only[go_sem,zA,↓reduceIte,↓reduceDIte,zB,zC,zD,zE,zF,zG,zH,zI];refine⟨⟨by omega,by omega⟩,_,TE (rs.take i) r,?_⟩;simp only[go_sem,zA,↓reduceIte,↓reduceDIte,zB,zC,zD,zE,zF,zG,zH,zI];refine⟨fun g=>?_,fun g=>?_⟩;(·rw[decide_eq_false (by simpa using g)]at hT;exact hT);·rw[decide_eq_true g]at hT;exact⟨LN (by omega) (by omega),back _ (i+1) (by refine⟨?_,?_,rfl,rfl⟩<;>repeat' (first|exact trivial|exact Or.inl rfl|exact Or.inr rfl|apply aw|apply ax|apply ay|apply az|exact⟨(by show(_:Nat)<1000000000;omega),rfl,rfl⟩|rfl|(refine And.intro (Or.inl ?_) ?_)|(refine And.intro ?_ ?_))) ⟨by omega,hT⟩ (by omega)⟩);·(have e:rs.length-i=0:=by omega);rw[e,nS]at hT;exact hT)
 (·rw[hd];simp[jr];omega);(·rw[hd];simp[jr];omega);·rw[hd];simp[jr];omega
theorem ap0(s:a8):PC env 121 [⟨LQ,s⟩] .bool (decide ((ck s).2=0)):=by
 refine PC.LU (m:=2000) av bU2 rfl rfl rfl rfl (by kernel_rfl) ?_;intro hx;simp only[Tryz.f121];simp only[go_sem,zA,↓reduceIte,↓reduceDIte,zB,zC,zD,zE,zF,zG,zH,zI]
 refine⟨_,zj s,fun _=>?_⟩;rfl
def Ov(s:ag):Bool:=decide (1≤s.length∧s.length≤20)&&s.all kU
theorem XB(s:ag):PC env 36 [⟨.str,s⟩] .bool (Ov s):=by
 refine PC.LU (m:=2000) av bv5 rfl rfl rfl rfl (by kernel_rfl) ?_;intro hx;simp only[Tryz.f36];simp only[go_sem,zA,↓reduceIte,↓reduceDIte,zB,zC,zD,zE,zF,zG,zH,zI]
 have d:=(ll s).dec;unfold Ov;generalize s.all kU=b at*;(repeat' (first|(with_reducible intro _)|(with_reducible apply And.intro)|(with_reducible refine⟨_,d,?_⟩;try simp only[go_sem,zA,↓reduceIte,↓reduceDIte,zB,zC,zD,zE,zF,zG,zH,zI])|fail))
 all_goals first|omega|(simp_all;try omega)
theorem UD(s:ag):PC env 27 [⟨.str,s⟩] .bool (Ov s):=by
 refine PC.LU (m:=2000) av bv3 rfl rfl rfl rfl (by kernel_rfl) ?_;intro hx;simp only[Tryz.f27];simp only[go_sem,zA,↓reduceIte,↓reduceDIte,zB,zC,zD,zE,zF,zG,zH,zI]
 have d:=(Ti s).dec;have d1:=(au9 s.length 1 20).dec;unfold Ov;generalize s.all kU=b at*;(repeat' (first|(with_reducible intro _)|(with_reducible apply And.intro)|(with_reducible refine⟨_,d,?_⟩;try simp only[go_sem,zA,↓reduceIte,↓reduceDIte,zB,zC,zD,zE,zF,zG,zH,zI])|(with_reducible refine⟨_,d1,?_⟩;try simp only[go_sem,zA,↓reduceIte,↓reduceDIte,zB,zC,zD,zE,zF,zG,zH,zI])|fail))
 all_goals first|omega|(simp_all[jr];try omega)
theorem rT {s:a8} (hs:cx s) {i:Nat} (hi:i<s.2.2.length):cB s.1 s.2.2 i=true:=by
 obtain⟨r,hr⟩: ∃r,s.2.2[i]?=some r:=r3 hi;unfold cB;rw[hr];dsimp only;rw[Bool.and_eq_true,decide_eq_true_eq];refine⟨fun hm=>?_,hs.right r (List.mem_of_getElem? hr)⟩
 obtain⟨j,hj⟩:=List.getElem?_of_mem hm;(have pa:j<i:=by have:=(List.getElem?_eq_some_iff.1 hj).1;rw[List.length_take]at this;omega);rw[List.getElem?_take_of_lt pa]at hj
 obtain⟨h1,e1⟩:=List.getElem?_eq_some_iff.1 hj;obtain⟨h2,e2⟩:=List.getElem?_eq_some_iff.1 hr;exact List.pairwise_iff_getElem.1 hs.nodup j i h1 h2 pa (by rw[e1,e2])
theorem pM {n:Int} {l:List Rl} : ∀ {k i:Nat},(∀j,i≤j→j<i+k→cB n l j=true)→nS n l k i=((l.length:Int),0)|0,i,_=>rfl|k+1,i,h=>by unfold nS;rw[if_pos (h i (Nat.le_refl _) (by omega))];exact pM fun j h1 h2=>h j (by omega) (by omega)
theorem zk {s:a8} (hs:cx s):m9 s=true:=by simp only[m9,jr,Bool.and_eq_true,decide_eq_true_eq];exact⟨⟨⟨hs.n1,hs.n8⟩,hs.a1,hs.a2⟩,hs.len⟩
theorem iQ {s:a8} (hs:cx s):ck s=((s.2.2.length:Int),0):=by unfold ck;rw[if_pos (zk hs)];exact pM fun j _ h=>rT hs (by omega)
end Go.Proofs.YtgpkijnphchkpaaGreat
namespace Go.Proofs.YtgpkijnphchkpaaGreat.Rev
set_option maxHeartbeats 1000000
abbrev ag:=List UInt8
abbrev Rl:=Int×Int×ag×ag×Int
abbrev bg:=Int×Int×Int
abbrev au:=Int×Int
def bw(s m:Int):Bool:=decide (s.toNat/2^m.toNat%2=1)
def eb(m:Int):Int:=((2^m.toNat:Nat):Int)
def bq(out:ag)(p:bg)(r:Rl):Option bg:=if r.1=p.2.1∧r.2.2.2.1.isPrefixOf (out.drop p.1.toNat)=true then if r.2.2.2.1≠ []then some (p.1+(r.2.2.2.1.length:Int),r.2.1,eb r.2.1)else if bw p.2.2 r.2.1=false then some (p.1,r.2.1,p.2.2+eb r.2.1)else none else none
structure gz(rs:List Rl):Prop where
 mode: ∀r,r∈rs→0≤r.2.1∧r.2.1<8
 cost: ∀r,r∈rs→0≤r.2.2.2.2∧r.2.2.2.2≤1000
 ZF: ∀r,r∈rs→r.2.2.1.length≤4
structure mA(out:ag)(p:bg):Prop where
 CS:0≤p.1
 CT:p.1≤out.length
 seen:0≤p.2.2∧p.2.2<256
def ms(out:ag)(p:bg):Nat:=(out.length-p.1.toNat)*256+(255-p.2.2.toNat)
theorem sS(m:Int):1≤eb m:=by unfold eb;have:0<2^m.toNat:=Nat.pos_of_ne_zero (by simp);omega
theorem wM {m:Int} (h:m<8):eb m≤128:=by unfold eb;(have h1:m.toNat≤7:=by omega);have:2^m.toNat≤2^7:=Nat.pow_le_pow_right (by decide) h1;(have e:2^7=128:=by decide);omega
theorem rU {s:Nat} (hs:s<256): ∀m:Nat,m<8→s/2^m%2=0→s+2^m<256:=by
 intro m hm h;(have h8:m=0∨m=1∨m=2∨m=3∨m=4∨m=5∨m=6∨m=7:=by omega);rcases h8 with rfl|rfl|rfl|rfl|rfl|rfl|rfl|rfl<;>simp only[Nat.reducePow]at h⊢ <;>omega
theorem cd {out:ag} {p q:bg} {r:Rl} (hp:mA out p)(hm:0≤r.2.1∧r.2.1<8)(h:bq out p r=some q):mA out q∧ms out q<ms out p∧q.2.1=r.2.1:=by
 obtain⟨a0,a1,s0,s1⟩:=hp;unfold bq at h;split at h;(case isFalse=>cases h);rename_i h1;obtain⟨h1,h2⟩:=h1;split at h;(·rename_i h3;injection h with h;subst h;have hb:=sS r.2.1;have aq:=wM hm.2;have gw:=List.isPrefixOf_iff_prefix.1 h2;have hl:=gw.length_le;rw[List.length_drop]at hl;have bf:0<r.2.2.2.1.length:=List.length_pos_iff.2 h3;refine⟨⟨by dsimp only;omega,by dsimp only;omega,by dsimp only;omega,by dsimp only;omega⟩,?_,rfl⟩;unfold ms;dsimp only;(have e:(p.1+(r.2.2.2.1.length:Int)).toNat=p.1.toNat+r.2.2.2.1.length:=by omega);rw[e];(have e2:out.length-p.1.toNat=(out.length-(p.1.toNat+r.2.2.2.1.length))+r.2.2.2.1.length:=by omega);rw[e2,Nat.add_mul];have:1*256≤r.2.2.2.1.length*256:=Nat.mul_le_mul_right _ bf;omega)
 ·split at h;(·rename_i h3 h4;injection h with h;subst h;have hb:=sS r.2.1;unfold bw at h4;have Ir:=of_decide_eq_false h4;have bo:=rU (s:=p.2.2.toNat) (by omega) r.2.1.toNat (by omega) (by omega);have x8:eb r.2.1=((2^r.2.1.toNat:Nat):Int):=rfl;refine⟨⟨a0,a1,by dsimp only;omega,by dsimp only;omega⟩,?_,rfl⟩;unfold ms;dsimp only;omega);·cases h
def cM(acc:Int)(out:ag)(p:bg):Bool:=decide (p.1=out.length)&&bw acc p.2.1
inductive Path(rs:List Rl)(acc:Int)(out:ag):bg→ag→Int→Prop where|done {p:bg} (h:cM acc out p=true):Path rs acc out p [] 0|step {p q:bg} {r:Rl} {x:ag} {c:Int} (hr:r∈rs)(h:bq out p r=some q)(hp:Path rs acc out q x c):Path rs acc out p (r.2.2.1++x) (r.2.2.2.2+c)
inductive eN(rs:List Rl)(out:ag):ag→bg→ag→Int→Prop where|start:eN rs out [] (0,0,1) [] 0|kg {x:ag} {p q:bg} {r:Rl} {c:Int} (ht:eN rs out x p [] c)(hr:r∈rs)(h:bq out p r=some q):eN rs out x q r.2.2.1 (c+r.2.2.2.2)|wN {x:ag} {p:bg} {a:UInt8} {m:ag} {c:Int} (ht:eN rs out x p (a::m) c):eN rs out (x++ [a]) p m c
def na(rs:List Rl)(acc:Int)(out:ag)(x:ag)(c:Int):Prop:=Path rs acc out (0,0,1) x c
variable {rs:List Rl} {acc:Int} {out:ag}
theorem k8(out:ag):mA out (0,0,1):=⟨by decide,by show(0:Int)≤(out.length:Int);omega,by decide,by decide⟩
theorem fq(h:gz rs) {x m:ag} {p:bg} {c:Int} (ht:eN rs out x p m c):mA out p:=by induction ht with|start=>exact k8 out|kg _ hr ha ih=>exact(cd ih (h.mode _ hr) ha).1|wN _ ih=>exact ih
theorem pN(h:gz rs) {x m:ag} {p:bg} {c:Int} (ht:eN rs out x p m c):0≤c:=by induction ht with|start=>exact Int.le_refl _|kg _ hr _ ih=>have:=(h.cost _ hr).1;omega|wN _ ih=>exact ih
theorem jD(h:gz rs) {p:bg} {x:ag} {c:Int} (hp:Path rs acc out p x c):0≤c:=by induction hp with|done=>exact Int.le_refl _|step hr _ _ ih=>have:=(h.cost _ hr).1;omega
theorem pO {x m:ag} {p:bg} {c:Int} (ht:eN rs out x p m c): ∀ {y:ag} {d:Int},Path rs acc out p y d→na rs acc out (x++m++y) (c+d):=by
 induction ht with|start=>intro y d h;simpa[na]using h| @kg x p q r c _ hr ha ih=>intro y d h;have:=ih (Path.step hr ha h);rw[List.append_nil]at this;rw[List.append_assoc,Int.add_assoc];exact this| @wN x p a m c _ ih=>intro y d h;have:=ih h;simpa using this
theorem zl {x:ag} {p:bg} : ∀ {m:ag} {c:Int},eN rs out x p m c→eN rs out (x++m) p [] c|m,c,h=>by induction m generalizing x with|nil=>simpa using h|cons a m ih=>have:=ih h.wN;simpa using this
theorem wO {z x:ag} {p:bg} {c d:Int} (hp:Path rs acc out p z d): ∀ {x0:ag},eN rs out x0 p [] c→ ∀ {x1 y:ag},z=x1++y→ ∃q m e f y',eN rs out (x0++x1) q m e∧Path rs acc out q y' f∧y=m++y'∧e+f=c+d:=by
 induction hp generalizing c with| @done p h=>intro x0 ht x1 y hz;obtain⟨rfl,rfl⟩:=List.append_eq_nil_iff.1 hz.symm;exact⟨p,[],c,0,[],by simpa using ht,.done h,rfl,rfl⟩| @step p q r x c' hr ha _ ih=>intro x0 ht x1 y hz;rename_i hq;have tA:=eN.kg ht hr ha;rcases List.append_eq_append_iff.1 hz with⟨t,h1,h2⟩|⟨t,h1,h2⟩;(·have:=ih (zl tA) h2;obtain⟨q',m,e,f,y',k1,k2,k3,k4⟩:=this;refine⟨q',m,e,f,y',?_,k2,k3,by omega⟩;rw[h1,←List.append_assoc];exact k1);·(have Hu: ∀(x1 t:ag)(x0:ag),eN rs out x0 q (x1++t) (c+r.2.2.2.2)→eN rs out (x0++x1) q t (c+r.2.2.2.2):=by intro x1;induction x1 with|nil=>intro t x0 h;simpa using h|cons a x1 Fu=>intro t x0 h;have:=Fu t (x0++ [a]) h.wN;simpa using this);rw[h1]at tA;exact⟨q,t,c+r.2.2.2.2,c',x,Hu x1 t x0 tA,hq,h2,by omega⟩
theorem nT {x y:ag} {c:Int} (h:na rs acc out (x++y) c): ∃q m e f y',eN rs out x q m e∧Path rs acc out q y' f∧y=m++y'∧e+f=c:=by
 obtain⟨q,m,e,f,y',h1,h2,h3,h4⟩:=wO (x:=x) h eN.start (x1:=x) (y:=y) rfl;exact⟨q,m,e,f,y',by simpa using h1,h2,h3,by omega⟩
end Go.Proofs.YtgpkijnphchkpaaGreat.Rev
namespace Go.Proofs.YtgpkijnphchkpaaGreat.Rev
set_option maxHeartbeats 1000000
def bz(p q:au):Bool:=decide (p.1<q.1∨p.1=q.1∧p.2<q.2)
def eC(p q:au):au:=(p.1+q.1,p.2+q.2)
theorem bY {p q:au} :bz p q=true↔(p.1<q.1∨p.1=q.1∧p.2<q.2):=by simp[bz]
theorem aZ {p q:au} :bz p q=false↔ ¬(p.1<q.1∨p.1=q.1∧p.2<q.2):=by simp[bz]
theorem dv(p:au):bz p p=false:=by rw[aZ];omega
def a7(S:au→Prop)(o:Option au):Prop:=match o with|none=> ∀p,¬S p|some m=>S m∧ ∀p,S p→bz p m=false
theorem fQ {S:au→Prop} {a b:Option au} (ha:a7 S a)(hb:a7 S b):a=b:=by
 cases a with|none=>(cases b with|none=>rfl|some m=>exact absurd hb.1 (ha m))|some m=>cases b with|none=>exact absurd ha.1 (hb m)|some k=>have h1:=aZ.1 (ha.2 k hb.1);have h2:=aZ.1 (hb.2 m ha.1);congr 1;exact Prod.ext (by omega) (by omega)
theorem cO {S T:au→Prop} {o:Option au} (h: ∀p,S p↔T p)(ho:a7 S o):a7 T o:=by
 cases o with|none=>exact fun p hp=>ho p ((h p).2 hp)|some m=>exact⟨(h m).1 ho.1,fun p hp=>ho.2 p ((h p).2 hp)⟩
def better(Hv g:Option au):Option au:=match g,Hv with|none,b=>b|some x,none=>some x|some x,some b=>if bz x b=true then some x else some b
theorem ln {S T:au→Prop} {a b:Option au} (ha:a7 S a)(hb:a7 T b):a7 (fun p=>S p∨T p) (better a b):=by
 cases b with|none=>(cases a with|none=>exact fun p hp=>hp.elim (ha p) (hb p)|some m=>exact⟨.inl ha.1,fun p hp=>hp.elim (ha.2 p) (fun h=>absurd h (hb p))⟩)|some k=>cases a with|none=>exact⟨.inr hb.1,fun p hp=>hp.elim (fun h=>absurd h (ha p)) (hb.2 p)⟩|some m=>unfold better;dsimp only;split;(·rename_i h;rw[bY]at h;refine⟨.inr hb.1,fun p hp=>?_⟩;rcases hp with h1|h1;(·have:=aZ.1 (ha.2 p h1);rw[aZ];omega);·exact hb.2 p h1);·rename_i h;have h:=aZ.1 (Bool.eq_false_iff.2 h);refine⟨.inl ha.1,fun p hp=>?_⟩;rcases hp with h1|h1;(·exact ha.2 p h1);·have:=aZ.1 (hb.2 p h1);rw[aZ];omega
theorem iR {α:Type} {f:α→Option au} {S:α→au→Prop} : ∀(l:List α) {T:au→Prop} {b:Option au},a7 T b→(∀r,r∈l→a7 (S r) (f r))→a7 (fun p=>T p∨ ∃r,r∈l∧S r p) (l.foldl (fun b r=>better b (f r)) b)|[],T,b,hb,_=>cO (fun p=>by simp) hb|r::l,T,b,hb,h=>by rw[List.foldl_cons];refine cO (fun p=>?_) (iR l (ln hb (h r (List.mem_cons_self ..))) (fun q hq=>h q (List.mem_cons_of_mem _ hq)));constructor;(·rintro((h1|h1)|⟨q,h1,h2⟩);(·exact .inl h1);(·exact .inr ⟨r,List.mem_cons_self ..,h1⟩);·exact .inr ⟨q,List.mem_cons_of_mem _ h1,h2⟩);·rintro(h1|⟨q,h1,h2⟩);(·exact .inl (.inl h1));·rcases List.mem_cons.1 h1 with rfl|h1;(·exact .inl (.inr h2));·exact .inr ⟨q,h1,h2⟩
def pP(g:Option au)(p:au):Option au:=match g with|none=>none|some x=>some (eC x p)
theorem pQ {S:au→Prop} {g:Option au} (h:a7 S g)(p:au):a7 (fun q=> ∃s,S s∧q=eC s p) (pP g p):=by
 cases g with|none=>rintro q⟨s,hs,_⟩;exact h s hs|some m=>refine⟨⟨m,h.1,rfl⟩,?_⟩;rintro q⟨s,hs,rfl⟩;have:=aZ.1 (h.2 s hs);rw[aZ];unfold eC;dsimp only;omega
def ki(out:ag)(goal:bg→Int→Option au)(p:bg)(L:Int)(r:Rl):Option au:=match bq out p r with|none=>none|some q=>pP (goal q (L-(r.2.2.1.length:Int))) (r.2.2.2.2,(r.2.2.1.length:Int))
def j4(rs:List Rl)(acc:Int)(out:ag):Nat→bg→Int→Option au|0,_,_=>none|n+1,p,L=>if L<0 then none else if cM acc out p=true then some (0,0)else rs.foldl (fun b r=>better b (ki out (j4 rs acc out n) p L r)) none
def sT(rs:List Rl)(acc:Int)(out:ag)(p:bg)(L:Int)(pr:au):Prop:= ∃x c,Path rs acc out p x c∧(x.length:Int)≤L∧pr=(c,(x.length:Int))
variable {rs:List Rl} {acc:Int} {out:ag}
theorem pR(h:gz rs): ∀(n:Nat)(p:bg)(L:Int),mA out p→ms out p<n→a7 (sT rs acc out p L) (j4 rs acc out n p L):=by
 intro n;induction n with|zero=>intro _ _ _ hn;exact absurd hn (Nat.not_lt_zero _)|succ n ih=>intro p L hp hn;rw[j4];split;(·rintro pr⟨x,c,_,hl,_⟩;omega);·rename_i hL;split;(·rename_i he;refine⟨⟨[],0,.done he,by simp;omega,by simp⟩,?_⟩;rintro pr⟨x,c,tw,hl,rfl⟩;have:=jD h tw;rw[aZ];dsimp only;omega);·rename_i he;(have hv: ∀r,r∈rs→a7 (fun pr=> ∃q,bq out p r=some q∧ ∃s,sT rs acc out q (L-(r.2.2.1.length:Int)) s∧pr=eC s (r.2.2.2.2,(r.2.2.1.length:Int))) (ki out (j4 rs acc out n) p L r):=fun r hr=>by unfold ki;cases ha:bq out p r with|none=>rintro pr⟨q,hq,_⟩;cases hq|some q=>obtain⟨k1,k2,_⟩:=cd hp (h.mode r hr) ha;refine cO (fun pr=>?_) (pQ (ih q (L-(r.2.2.1.length:Int)) k1 (by omega)) (r.2.2.2.2,(r.2.2.1.length:Int)));constructor;(·intro hh;exact⟨q,rfl,hh⟩);·rintro⟨q',zm,hh⟩;injection zm with zm;subst zm;exact hh);have hf:=iR rs (T:=fun _=>False) (b:=none) (fun p hp=>hp) hv;refine cO (fun pr=>?_) hf;constructor;(·rintro(h1|⟨r,hr,q,ha,s,⟨x,c,tw,hl,rfl⟩,rfl⟩);(·exact h1.elim);·refine⟨r.2.2.1++x,r.2.2.2.2+c,.step hr ha tw,by rw[List.length_append];omega,?_⟩;unfold eC;rw[List.length_append];refine Prod.ext ?_ ?_<;>dsimp only<;>omega);·rintro⟨x,c,tw,hl,rfl⟩;cases tw with|done hd=>exact absurd hd he| @step _ q r x c hr ha tw=>rw[List.length_append]at hl;refine .inr ⟨r,hr,q,ha,(c,(x.length:Int)),⟨x,c,tw,by omega,rfl⟩,?_⟩;unfold eC;rw[List.length_append];refine Prod.ext ?_ ?_<;>dsimp only<;>omega
def cY(rs:List Rl)(acc:Int)(out:ag)(p:bg)(L:Int):Option au:=j4 rs acc out (ms out p+1) p L
theorem jE(h:gz rs) {p:bg} (L:Int)(hp:mA out p):a7 (sT rs acc out p L) (cY rs acc out p L):=pR h _ p L hp (Nat.lt_succ_self _)
theorem zn(h:gz rs) {n:Nat} {p:bg} (L:Int)(hp:mA out p)(hn:ms out p<n):j4 rs acc out n p L=cY rs acc out p L:=fQ (pR h n p L hp hn) (jE h L hp)
theorem ue {g g':bg→Int→Option au} {p:bg} {L:Int} {r:Rl} (h: ∀q,bq out p r=some q→g q (L-(r.2.2.1.length:Int))=g' q (L-(r.2.2.1.length:Int))):ki out g p L r=ki out g' p L r:=by
 unfold ki;cases ha:bq out p r with|none=>rfl|some q=>dsimp only;rw[h q ha]
theorem fold_congr {α β:Type} {f g:β→α→β} : ∀(l:List α)(b:β),(∀b r,r∈l→f b r=g b r)→l.foldl f b=l.foldl g b|[],_,_=>rfl|r::l,b,h=>by rw[List.foldl_cons,List.foldl_cons,h b r (List.mem_cons_self ..)];exact fold_congr l _ fun b q hq=>h b q (List.mem_cons_of_mem _ hq)
theorem uf(h:gz rs) {p:bg} (L:Int)(hp:mA out p):cY rs acc out p L=if L<0 then none else if cM acc out p=true then some (0,0)else rs.foldl (fun b r=>better b (ki out (cY rs acc out) p L r)) none:=by
 (conv=>lhs;unfold cY;rw[j4]);split;(·rfl);·split;(·rfl);·refine fold_congr rs none fun b r hr=>?_;rw[ue (g:=j4 rs acc out (ms out p)) (g':=cY rs acc out) fun q ha=>?_];obtain⟨k1,k2,_⟩:=cd hp (h.mode r hr) ha;exact zn h _ k1 k2
end Go.Proofs.YtgpkijnphchkpaaGreat.Rev
namespace Go.Proofs.YtgpkijnphchkpaaGreat.Rev
set_option maxHeartbeats 1000000
abbrev Thread:=bg×ag
structure ft(rs:List Rl)(out x:ag)(E:List (Thread×Int)):Prop where
 sound: ∀p m c,((p,m),c)∈E→eN rs out x p m c
 all: ∀p m c,eN rs out x p m c→ ∃c',c'≤c∧((p,m),c')∈E
def cZ(rs:List Rl)(acc:Int)(out x:ag)(pr:au):Prop:= ∃y c,na rs acc out (x++y) c∧(x++y).length≤40∧pr=(c,((x++y).length:Int))
def ic(rs:List Rl)(acc:Int)(out x:ag)(pr:au):Prop:= ∃c,na rs acc out x c∧pr=(c,(x.length:Int))
variable {rs:List Rl} {acc:Int} {out:ag}
def iS(rs:List Rl)(acc:Int)(out x:ag)(t:Thread×Int):Option au:=pP (cY rs acc out t.1.1 (40-(x.length:Int)-(t.1.2.length:Int))) (t.2,(x.length:Int)+(t.1.2.length:Int))
def gd(rs:List Rl)(acc:Int)(out x:ag)(t:Thread×Int)(pr:au):Prop:= ∃s,sT rs acc out t.1.1 (40-(x.length:Int)-(t.1.2.length:Int)) s∧pr=eC s (t.2,(x.length:Int)+(t.1.2.length:Int))
theorem lp(h:gz rs) {x:ag} {t:Thread×Int} (ht:mA out t.1.1):a7 (gd rs acc out x t) (iS rs acc out x t):=pQ (jE h _ ht) _
theorem gK(h:gz rs) {x:ag} {E:List (Thread×Int)} (hE:ft rs out x E) {o:Option au} (ho:a7 (fun pr=> ∃t,t∈E∧gd rs acc out x t pr) o):a7 (cZ rs acc out x) o:=by
 cases o with|none=>rintro pr⟨y,c,hi,hl,rfl⟩;obtain⟨q,m,e,f,y',h1,h2,rfl,rfl⟩:=nT hi;obtain⟨e',he,hm⟩:=hE.all q m e h1;rw[List.length_append,List.length_append]at hl;exact ho _ ⟨((q,m),e'),hm,_,⟨y',f,h2,by dsimp only;omega,rfl⟩,rfl⟩|some k=>refine⟨?_,?_⟩;(·obtain⟨⟨⟨p,m⟩,c⟩,ht,s,⟨y,f,hp,hl,rfl⟩,he⟩:=ho.1;have Hu:=hE.sound p m c ht;have:=pO Hu hp;refine⟨m++y,c+f,by rwa[←List.append_assoc],?_,?_⟩;(·dsimp only at hl;rw[List.length_append,List.length_append];omega);·rw[he];unfold eC;dsimp only;rw[List.length_append,List.length_append];refine Prod.ext ?_ ?_<;>dsimp only<;>omega);·rintro pr⟨y,c,hi,hl,rfl⟩;obtain⟨q,m,e,f,y',h1,h2,rfl,rfl⟩:=nT hi;obtain⟨e',he,hm⟩:=hE.all q m e h1;rw[List.length_append,List.length_append]at hl;have:=aZ.1 (ho.2 _ ⟨((q,m),e'),hm,_,⟨y',f,h2,by dsimp only;omega,rfl⟩,rfl⟩);rw[aZ];unfold eC at this;dsimp only at this⊢;rw[List.length_append,List.length_append];omega
def nO(acc:Int)(out x:ag)(t:Thread×Int):Option au:=if t.1.2=[]∧cM acc out t.1.1=true then some (t.2,(x.length:Int))else none
def wP(acc:Int)(out x:ag)(t:Thread×Int)(pr:au):Prop:=(t.1.2=[]∧cM acc out t.1.1=true)∧pr=(t.2,(x.length:Int))
theorem iT {x:ag} {t:Thread×Int} :a7 (wP acc out x t) (nO acc out x t):=by
 unfold nO;split;(·rename_i h;exact⟨⟨h,rfl⟩,fun p hp=>by rw[hp.2];exact dv _⟩);·rename_i h;exact fun p hp=>h hp.1
theorem mB {p:bg} {y:ag} {c:Int} (hp:Path rs acc out p y c): ∀ {x:ag} {e:Int},eN rs out x p [] e→y=[]→ ∃q f,eN rs out x q [] f∧cM acc out q=true∧f=e+c:=by
 induction hp with| @done p h=>intro x e ht _;exact⟨p,e,ht,h,by omega⟩| @step p q r y c hr ha _ ih=>intro x e ht hy;obtain⟨h1,h2⟩:=List.append_eq_nil_iff.1 hy;have h3:=eN.kg ht hr ha;rw[h1]at h3;obtain⟨q',f,k1,k2,k3⟩:=ih h3 h2;exact⟨q',f,k1,k2,by omega⟩
theorem mC {x:ag} {E:List (Thread×Int)} (hE:ft rs out x E) {o:Option au} (ho:a7 (fun pr=> ∃t,t∈E∧wP acc out x t pr) o):a7 (ic rs acc out x) o:=by
 (have down: ∀c,na rs acc out x c→ ∃q f,eN rs out x q [] f∧cM acc out q=true∧f=c:=fun c hi=>by(have jR:na rs acc out (x++ []) c:=by simpa using hi);obtain⟨q,m,e,f,y',h1,h2,h3,h4⟩:=nT jR;obtain⟨rfl,rfl⟩:=List.append_eq_nil_iff.1 h3.symm;obtain⟨q',f',k1,k2,k3⟩:=mB h2 h1 rfl;exact⟨q',f',k1,k2,by omega⟩)
 (have up: ∀q f,eN rs out x q [] f→cM acc out q=true→na rs acc out x f:=fun q f h1 h2=>by have:=pO h1 (Path.done h2);simpa using this);cases o with|none=>rintro pr⟨c,hi,rfl⟩;obtain⟨q,f,h1,h2,rfl⟩:=down c hi;obtain⟨e',he,hm⟩:=hE.all q [] _ h1;exact ho _ ⟨((q,[]),e'),hm,⟨rfl,h2⟩,rfl⟩|some k=>refine⟨?_,?_⟩;(·obtain⟨⟨⟨p,m⟩,c⟩,ht,⟨h1,h2⟩,he⟩:=ho.1;dsimp only at h1 h2 he;subst h1;exact⟨c,up p c (hE.sound p [] c ht) h2,he⟩);·rintro pr⟨c,hi,rfl⟩;obtain⟨q,f,h1,h2,rfl⟩:=down c hi;obtain⟨e',he,hm⟩:=hE.all q [] _ h1;have:=aZ.1 (ho.2 _ ⟨((q,[]),e'),hm,⟨rfl,h2⟩,rfl⟩);rw[aZ];dsimp only at this⊢;omega
structure sU(rs:List Rl)(out x:ag)(B:bg→ag→Int→Prop)(V:Thread→Option Int)(todo:List Thread):Prop where
 sound: ∀p m c,V (p,m)=some c→eN rs out x p m c
 base: ∀p m c,B p m c→ ∃c',c'≤c∧V (p,m)=some c'
 step: ∀p c,V (p,[])=some c→(p,[])∈todo∨ ∀r q,r∈rs→bq out p r=some q→ ∃c',c'≤c+r.2.2.2.2∧V (q,r.2.2.1)=some c'
 IP: ∀t,t∈todo→t.2=[]∧ ∃c,V t=some c
def Comes(rs:List Rl)(out x:ag)(B:bg→ag→Int→Prop):Prop:= ∀p m c,eN rs out x p m c→B p m c∨ ∃p0 c0 r,eN rs out x p0 [] c0∧r∈rs∧bq out p0 r=some p∧m=r.2.2.1∧c=c0+r.2.2.2.2
theorem pS:Comes rs out [] (fun p m c=>p=(0,0,1)∧m=[]∧c=0):=by
 intro p m c h;generalize hx:([]:ag)=x at h;cases h with|start=>exact .inl ⟨rfl,rfl,rfl⟩| @kg _ p0 _ r c0 ht hr ha=>subst hx;exact .inr ⟨p0,c0,r,ht,hr,ha,rfl,rfl⟩|wN=>exact absurd hx (by simp)
theorem nb {x:ag} {a:UInt8} :Comes rs out (x++ [a]) (fun p m c=>eN rs out x p (a::m) c):=by
 intro p m c h;generalize hx:x++ [a]=z at h;cases h with|start=>exact absurd hx (by simp)| @kg _ p0 _ r c0 ht hr ha=>subst hx;exact .inr ⟨p0,c0,r,ht,hr,ha,rfl,rfl⟩| @wN x' _ a' _ _ ht=>obtain⟨h1,h2⟩:=List.append_inj' hx rfl;injection h2 with h2;subst h1 h2;exact .inl ht
theorem sV {p:bg} :ms out p≤out.length*256+255:=by unfold ms;omega
theorem wQ(h:gz rs) {x:ag} {B:bg→ag→Int→Prop} (hB:Comes rs out x B) {V:Thread→Option Int} (hI:sU rs out x B V []): ∀(n:Nat)(p:bg)(m:ag)(c:Int),out.length*256+255-ms out p≤n→eN rs out x p m c→ ∃c',c'≤c∧V (p,m)=some c':=by
 intro n;induction n with|zero=>intro p m c hn ht;rcases hB p m c ht with hb|⟨p0,c0,r,h1,h2,h3,rfl,rfl⟩;(·exact hI.base p m c hb);(·exfalso;have h4:=(cd (fq h h1) (h.mode r h2) h3).2.1;have:=sV (out:=out) (p:=p0);omega)|succ n ih=>intro p m c hn ht;rcases hB p m c ht with hb|⟨p0,c0,r,h1,h2,h3,rfl,rfl⟩;(·exact hI.base p m c hb);·have h4:=(cd (fq h h1) (h.mode r h2) h3).2.1;have:=sV (out:=out) (p:=p0);obtain⟨c',db,hv⟩:=ih p0 [] c0 (by omega) h1;rcases hI.step p0 c' hv with hm|hs;(·exact absurd hm (List.not_mem_nil));·obtain⟨d,hd,vM⟩:=hs r p h2 h3;exact⟨d,by omega,vM⟩
theorem ug(h:gz rs) {x:ag} {B:bg→ag→Int→Prop} (hB:Comes rs out x B) {V:Thread→Option Int} (hI:sU rs out x B V []) {E:List (Thread×Int)} (hE: ∀t c,(t,c)∈E↔V t=some c):ft rs out x E:=by
 refine⟨fun p m c hm=>hI.sound p m c ((hE _ _).1 hm),fun p m c ht=>?_⟩;obtain⟨c',h1,h2⟩:=wQ h hB hI _ p m c (Nat.le_refl _) ht;exact⟨c',h1,(hE _ _).2 h2⟩
end Go.Proofs.YtgpkijnphchkpaaGreat.Rev
namespace Go.Proofs.YtgpkijnphchkpaaGreat.Rev
set_option maxHeartbeats 1000000
def bytesLess:ag→ag→Bool|_,[]=>false|[],_::_=>true|a::x,b::y=>decide (a<b)||(a==b&&bytesLess x y)
theorem Ea {a b:UInt8} :a<b↔a.toNat<b.toNat:=UInt8.lt_iff_toNat_lt
theorem fu {a b:UInt8} {x y:ag} :bytesLess (a::x) (b::y)=true↔(a.toNat<b.toNat∨a=b∧bytesLess x y=true):=by simp[bytesLess,Ea]
theorem ie: ∀x:ag,bytesLess x x=false|[]=>rfl|a::x=>by rw[Bool.eq_false_iff];intro h;rcases fu.1 h with h|h;(·omega);·rw[ie x]at h;cases h.2
theorem iU: ∀ {x y z:ag},bytesLess x y=true→bytesLess y z=true→bytesLess x z=true|x,y,[],_,h=>(by cases y<;>cases h)|x,[],c::z,h,_=>(by cases x<;>cases h)|[],b::y,c::z,_,_=>rfl|a::x,b::y,c::z,h,h'=>by rw[fu]at h h'⊢;rcases h with h|⟨rfl,h⟩<;>rcases h' with h'|⟨rfl,h'⟩;(·exact .inl (by omega));(·exact .inl h);(·exact .inl h');·exact .inr ⟨rfl,iU h h'⟩
theorem iV: ∀ {x y:ag},x≠y→bytesLess x y=false→bytesLess y x=true|[],[],h,_=>absurd rfl h|[],b::y,_,h=>(by cases h)|a::x,[],_,_=>rfl|a::x,b::y,h,h'=>by rw[fu];have h2:=fun hh=>Bool.eq_false_iff.1 h' (fu.2 hh);by_cases e:a=b;(·subst e;refine .inr ⟨rfl,iV (fun e=>h (by rw[e])) (Bool.eq_false_iff.2 fun hh=>h2 (.inr ⟨rfl,hh⟩))⟩);·have: ¬a.toNat=b.toNat:=fun e'=>e (UInt8.toNat_inj.1 e');have: ¬a.toNat<b.toNat:=fun e'=>h2 (.inl e');exact .inl (by omega)
theorem nc: ∀ {x a z:ag},bytesLess x a=true→a <+: z→bytesLess x z=true|x,[],z,h,_=>(by cases x<;>cases h)|x,b::a,[],_,h=>(by obtain⟨t,ht⟩:=h;cases ht)|[],b::a,c::z,_,_=>rfl|d::x,b::a,c::z,h,h'=>by rw[List.cons_prefix_cons]at h';obtain⟨rfl,h'⟩:=h';rw[fu]at h⊢;rcases h with h|⟨rfl,h⟩;(·exact .inl h);·exact .inr ⟨rfl,nc h h'⟩
abbrev FE:=ag×Bool×au
def bR(a b:FE):Bool:=if a.2.2=b.2.2 then(if a.1=b.1 then a.2.1&& !b.2.1 else bytesLess a.1 b.1)else bz a.2.2 b.2.2
abbrev MN:=ag×Int
def bk(a b:MN):Bool:=decide (a.2<b.2)||(decide (a.2=b.2)&&(decide (a.1.length<b.1.length)||(decide (a.1.length=b.1.length)&&bytesLess a.1 b.1)))
theorem eW {a b:MN} :bk a b=true↔(a.2<b.2∨a.2=b.2∧(a.1.length<b.1.length∨a.1.length=b.1.length∧bytesLess a.1 b.1=true)):=by simp[bk]
theorem eX(a:MN):bk a a=false:=by rw[Bool.eq_false_iff];intro h;rcases eW.1 h with h|⟨_,h|⟨_,h⟩⟩;(·omega);(·omega);·rw[ie]at h;cases h
theorem eD {a b c:MN} (h:bk a b=true)(h':bk b c=true):bk a c=true:=by
 rw[eW]at*;rcases h with h|⟨h1,h|⟨h2,h⟩⟩<;>rcases h' with h'|⟨iD,h'|⟨qP,h'⟩⟩;(·exact .inl (by omega));(·exact .inl (by omega));(·exact .inl (by omega));(·exact .inl (by omega))
 (·exact .inr ⟨by omega,.inl (by omega)⟩);(·exact .inr ⟨by omega,.inl (by omega)⟩);(·exact .inl (by omega));(·exact .inr ⟨by omega,.inl (by omega)⟩);·exact .inr ⟨by omega,.inr ⟨by omega,iU h h'⟩⟩
def ba(e:FE)(z:ag):Prop:=if e.2.1=true then e.1=z else e.1 <+: z
def uh(rs:List Rl)(acc:Int)(out x:ag)(d:Int):Prop:=na rs acc out x d∧ ∀c,na rs acc out x c→d≤c
structure c5(rs:List Rl)(acc:Int)(out:ag)(H:List FE)(R:List MN):Prop where
 live: ∀e,e∈H→e.2.1=false→a7 (cZ rs acc out e.1) (some e.2.2)
 done: ∀e,e∈H→e.2.1=true→a7 (ic rs acc out e.1) (some e.2.2)∧e.1.length≤40
 Eb: ∀z c,na rs acc out z c→z.length≤40→(∃d,(z,d)∈R)∨ ∃e,e∈H∧ba e z
 yc:H.Pairwise (fun a b=> ∀z,ba a z→ba b z→False)
 res: ∀x d,(x,d)∈R→uh rs acc out x d∧x.length≤40∧ ∀e,e∈H→ ¬ba e x
 ord: ∀x d,(x,d)∈R→ ∀z c,na rs acc out z c→z.length≤40→(∃e,e∈H∧ba e z)→bk (x,d) (z,c)=true
 sW:R.Pairwise (fun a b=>bk a b=true)
structure nf(rs:List Rl)(acc:Int)(out:ag)(L:List MN):Prop where
 sW:L.Pairwise (fun a b=>bk a b=true)
 mem: ∀x d,(x,d)∈L↔uh rs acc out x d∧x.length≤40
variable {rs:List Rl} {acc:Int} {out:ag}
theorem ui {x:ag} {m:au} (h:a7 (ic rs acc out x) (some m)):uh rs acc out x m.1∧m.2=(x.length:Int):=by
 obtain⟨⟨c,hc,he⟩,h2⟩:=h;subst he;refine⟨⟨hc,fun c' db=>?_⟩,rfl⟩;have:=aZ.1 (h2 _ ⟨c',db,rfl⟩);dsimp only at this⊢;omega
theorem lq {H H':List FE} {R:List MN} (h:c5 rs acc out H R)(hp:H.Perm H'):c5 rs acc out H' R:=by
 refine⟨fun e he=>h.live e (hp.mem_iff.2 he),fun e he=>h.done e (hp.mem_iff.2 he),fun z c hi hl=>?_,?_,fun x d hm=>?_,fun x d hm z c hi hl⟨e,he,hc⟩=>h.ord x d hm z c hi hl ⟨e,hp.mem_iff.2 he,hc⟩,h.sW⟩
 (·rcases h.Eb z c hi hl with h1|⟨e,he,hc⟩;(·exact .inl h1);·exact .inr ⟨e,hp.mem_iff.1 he,hc⟩);(·exact(hp.pairwise_iff (fun {a b} fC z h1 h2=>fC z h2 h1)).1 h.yc)
 ·obtain⟨k1,k2,k3⟩:=h.res x d hm;exact⟨k1,k2,fun e he=>k3 e (hp.mem_iff.2 he)⟩
theorem pT {H:List FE} {R:List MN} (h:c5 rs acc out H R) {e:FE} (he:e∈H) {z:ag} {c:Int} (hi:na rs acc out z c)(hl:z.length≤40)(hc:ba e z):bz (c,(z.length:Int)) e.2.2=false:=by
 unfold ba at hc;split at hc;(·rename_i hd;subst hc;exact(h.done e he hd).1.2 _ ⟨c,hi,rfl⟩);·rename_i hd;obtain⟨y,rfl⟩:=hc;exact(h.live e he (by simpa using hd)).2 _ ⟨y,c,hi,hl,rfl⟩
theorem rV {H:List FE} {R:List MN} {e:FE} (h:c5 rs acc out (e::H) R)(hd:e.2.1=true)(lr: ∀e',e'∈H→bR e' e=false):c5 rs acc out H (R++ [(e.1,e.2.2.1)]):=by
 obtain⟨hw,CU⟩:=h.done e (List.mem_cons_self ..) hd;obtain⟨hm,hlen⟩:=ui hw;(have mf:ba e e.1:=by unfold ba;rw[if_pos hd]);obtain⟨me,ix⟩:=List.pairwise_cons.1 h.yc
 have dc: ∀e',e'∈H→ ¬ba e' e.1:=fun e' gC hc=>me e' gC e.1 mf hc;refine⟨fun a ha=>h.live a (List.mem_cons_of_mem _ ha),fun a ha=>h.done a (List.mem_cons_of_mem _ ha),fun z c hi hl=>?_,ix,fun x d gV=>?_,fun x d gV z c hi hl hc=>?_,?_⟩
 (·rcases h.Eb z c hi hl with⟨d,h1⟩|⟨a,ha,hc⟩;(·exact .inl ⟨d,List.mem_append_left _ h1⟩);·rcases List.mem_cons.1 ha with rfl|ha;(·unfold ba at hc;rw[if_pos hd]at hc;subst hc;exact .inl ⟨_,List.mem_append_right _ (List.mem_cons_self ..)⟩);·exact .inr ⟨a,ha,hc⟩)
 (·rcases List.mem_append.1 gV with h1|h1;(·obtain⟨k1,k2,k3⟩:=h.res x d h1;exact⟨k1,k2,fun a ha=>k3 a (List.mem_cons_of_mem _ ha)⟩);·obtain⟨rfl,rfl⟩:=Prod.mk.inj (List.mem_singleton.1 h1);exact⟨hm,CU,dc⟩)
 (·rcases List.mem_append.1 gV with h1|h1;(·obtain⟨a,ha,nD⟩:=hc;exact h.ord x d h1 z c hi hl ⟨a,List.mem_cons_of_mem _ ha,nD⟩);·obtain⟨rfl,rfl⟩:=Prod.mk.inj (List.mem_singleton.1 h1);obtain⟨a,ha,nD⟩:=hc;have CV:=aZ.1 (pT h (List.mem_cons_of_mem _ ha) hi hl nD);have hle:=lr a ha;rw[eW];dsimp only at CV⊢;unfold bR at hle;split at hle;(·rename_i heq;rw[heq]at CV;split at hle;(·rename_i hx;exfalso;refine dc a ha ?_;unfold ba;rw[hx];split;(·rfl);·exact List.prefix_refl _);·rename_i hx;have h1:=iV hx hle;(have h2:bytesLess e.1 z=true:=by unfold ba at nD;split at nD;(·rw[←nD];exact h1);·exact nc h1 nD);by_cases k1:e.2.2.1<c;(·exact .inl k1);·by_cases k2:e.1.length<z.length;(·exact .inr ⟨by omega,.inl k2⟩);·exact .inr ⟨by omega,.inr ⟨by omega,h2⟩⟩);·rename_i bf;have hle:=aZ.1 hle;have Kw: ¬(a.2.2.1=e.2.2.1∧a.2.2.2=e.2.2.2):=fun hh=>bf (Prod.ext hh.1 hh.2);by_cases k1:e.2.2.1<c;(·exact .inl k1);·exact .inr ⟨by omega,.inl (by omega)⟩)
 ·rw[List.pairwise_append];refine⟨h.sW,List.pairwise_singleton ..,fun a ha b hb=>?_⟩;rw[List.mem_singleton.1 hb];exact h.ord a.1 a.2 ha e.1 e.2.2.1 hm.1 CU ⟨e,List.mem_cons_self ..,mf⟩
theorem rW {H C:List FE} {R:List MN} {e:FE} (h:c5 rs acc out (e::H) R)(hd:e.2.1=false)(pU: ∀a,a∈C→a.2.1=false→a7 (cZ rs acc out a.1) (some a.2.2))(ea: ∀a,a∈C→a.2.1=true→a7 (ic rs acc out a.1) (some a.2.2)∧a.1.length≤40)(Hw: ∀z c,na rs acc out z c→z.length≤40→e.1 <+: z→ ∃a,a∈C∧ba a z)(AH: ∀a,a∈C→ ∀z,ba a z→e.1 <+: z)(Hx:C.Pairwise (fun a b=> ∀z,ba a z→ba b z→False)):c5 rs acc out (H++C) R:=by
 (have mf: ∀z,ba e z↔e.1 <+: z:=fun z=>by unfold ba;rw[if_neg (by rw[hd];decide)]);obtain⟨me,ix⟩:=List.pairwise_cons.1 h.yc;(have up: ∀a,a∈H++C→ ∀z,ba a z→ ∃b,b∈e::H∧ba b z:=fun a ha z hc=>by rcases List.mem_append.1 ha with ha|ha;(·exact⟨a,List.mem_cons_of_mem _ ha,hc⟩);·exact⟨e,List.mem_cons_self ..,(mf z).2 (AH a ha z hc)⟩)
 refine⟨fun a ha hf=>?_,fun a ha hf=>?_,fun z c hi hl=>?_,?_,fun x d hm=>?_,fun x d hm z c hi hl⟨a,ha,hc⟩=>h.ord x d hm z c hi hl (up a ha z hc),h.sW⟩;(·rcases List.mem_append.1 ha with ha|ha;(·exact h.live a (List.mem_cons_of_mem _ ha) hf);·exact pU a ha hf)
 (·rcases List.mem_append.1 ha with ha|ha;(·exact h.done a (List.mem_cons_of_mem _ ha) hf);·exact ea a ha hf);(·rcases h.Eb z c hi hl with h1|⟨a,ha,hc⟩;(·exact .inl h1);·rcases List.mem_cons.1 ha with rfl|ha;(·obtain⟨b,hb,Hy⟩:=Hw z c hi hl ((mf z).1 hc);exact .inr ⟨b,List.mem_append_right _ hb,Hy⟩);·exact .inr ⟨a,List.mem_append_left _ ha,hc⟩)
 (·rw[List.pairwise_append];exact⟨ix,Hx,fun a ha b hb z h1 h2=>me a ha z ((mf z).2 (AH b hb z h2)) h1⟩);·obtain⟨k1,k2,k3⟩:=h.res x d hm;refine⟨k1,k2,fun a ha hc=>?_⟩;obtain⟨b,hb,Hy⟩:=up a ha x hc;exact k3 b hb Hy
theorem j5 {o:Option au} (ho:a7 (cZ rs acc out []) o):c5 rs acc out (match o with|some l=>[([],false,l)]|none=>[]) []:=by
 cases o with|none=>refine⟨fun e he=>absurd he List.not_mem_nil,fun e he=>absurd he List.not_mem_nil,fun z c hi hl=>?_,List.Pairwise.nil,fun x d hm=>absurd hm List.not_mem_nil,fun x d hm=>absurd hm List.not_mem_nil,List.Pairwise.nil⟩;exact absurd ⟨z,c,by simpa using hi,by simpa using hl,rfl⟩ (ho _)|some l=>refine⟨fun e he _=>?_,fun e he hd=>?_,fun z c hi hl=>.inr ⟨_,List.mem_cons_self ..,?_⟩,List.pairwise_singleton ..,fun x d hm=>absurd hm List.not_mem_nil,fun x d hm=>absurd hm List.not_mem_nil,List.Pairwise.nil⟩;(·rw[List.mem_singleton.1 he];exact ho);(·rw[List.mem_singleton.1 he]at hd;cases hd);·unfold ba;rw[if_neg (show¬(false=true)by decide)];exact List.nil_prefix
theorem lu: ∀ {R L:List MN},R.Pairwise (fun a b=>bk a b=true)→L.Pairwise (fun a b=>bk a b=true)→(∀a,a∈R→a∈L)→(∀a,a∈R→ ∀b,b∈L→b∉R→bk a b=true)→R=L.take R.length|[],L,_,_,_,_=>(by simp)|a::R,[],_,_,h,_=>absurd (h a (List.mem_cons_self ..)) List.not_mem_nil|a::R,b::L,h1,h2,h3,h4=>by obtain⟨p1,q1⟩:=List.pairwise_cons.1 h1;obtain⟨p2,q2⟩:=List.pairwise_cons.1 h2;(have e:a=b:=by rcases List.mem_cons.1 (h3 a (List.mem_cons_self ..))with e|ha;(·exact e);·exfalso;have Fv:=p2 a ha;by_cases hb:b∈a::R;(·rcases List.mem_cons.1 hb with rfl|hb;(·rw[eX]at Fv;cases Fv);·have:=eD (p1 b hb) Fv;rw[eX]at this;cases this);·have:=eD (h4 a (List.mem_cons_self ..) b (List.mem_cons_self ..) hb) Fv;rw[eX]at this;cases this);subst e;(have Kx: ∀x,x∈R→x≠a:=fun x hx e=>by have:=p1 x hx;rw[e,eX]at this;cases this);(have BM: ∀x,x∈L→x≠a:=fun x hx e=>by have:=p2 x hx;rw[e,eX]at this;cases this);rw[List.length_cons,List.take_succ_cons];congr 1;refine lu q1 q2 (fun x hx=>?_) fun x hx y hy hn=>h4 x (List.mem_cons_of_mem _ hx) y (List.mem_cons_of_mem _ hy) fun hh=>?_;(·rcases List.mem_cons.1 (h3 x (List.mem_cons_of_mem _ hx))with e|h;(·exact absurd e (Kx x hx));·exact h);·rcases List.mem_cons.1 hh with e|h;(·exact BM y hy e);·exact hn h
theorem gM {x:ag} {c d:Int} (h:uh rs acc out x c)(h':uh rs acc out x d):c=d:=by have:=h.2 d h'.1;have:=h'.2 c h.1;omega
theorem lx {H:List FE} {R L:List MN} (h:c5 rs acc out H R)(hL:nf rs acc out L):R=L.take R.length:=by
 refine lu h.sW hL.sW (fun a ha=>?_) fun a ha b hb hn=>?_;(·obtain⟨k1,k2,_⟩:=h.res a.1 a.2 ha;exact(hL.mem a.1 a.2).2 ⟨k1,k2⟩);·obtain⟨k1,k2⟩:=(hL.mem b.1 b.2).1 hb;rcases h.Eb b.1 b.2 k1.1 k2 with⟨d,hd⟩|hc;(·have:=gM k1 (h.res b.1 d hd).1;exact absurd (by rw[←this]at hd;exact hd) hn);·exact h.ord a.1 a.2 ha b.1 b.2 k1.1 k2 hc
theorem ng {R L:List MN} (h:c5 rs acc out [] R)(hL:nf rs acc out L):R=L:=by
 have h1:=lx h hL;(have h2: ∀b,b∈L→b∈R:=fun b hb=>by obtain⟨k1,k2⟩:=(hL.mem b.1 b.2).1 hb;rcases h.Eb b.1 b.2 k1.1 k2 with⟨d,hd⟩|⟨e,he,_⟩;(·have:=gM k1 (h.res b.1 d hd).1;rw[←this]at hd;exact hd);·exact absurd he List.not_mem_nil)
 have h3:=lu hL.sW h.sW h2 fun a ha b hb hn=>absurd ((hL.mem b.1 b.2).2 ⟨(h.res b.1 b.2 hb).1,(h.res b.1 b.2 hb).2.1⟩) hn;have l1:=congrArg List.length h1;have l2:=congrArg List.length h3
 rw[List.length_take]at l1 l2;rw[h1,List.take_of_length_le (by omega)]
end Go.Proofs.YtgpkijnphchkpaaGreat.Rev
namespace Go.Proofs.YtgpkijnphchkpaaGreat.Rev
set_option maxHeartbeats 1000000
section
variable {α:Type} (less:α→α→Bool)
def MH(xs:List α)(i j:Nat):List α:=match xs[i]?,xs[j]? with|some a,some b=>(xs.set i b).set j a|_,_=>xs
def jm(xs:List α)(j:Nat):List α:=if h:j=0 then xs else match xs[j]?,xs[(j-1)/2]? with|some a,some b=>if less a b=true then jm (MH xs ((j-1)/2) j) ((j-1)/2)else xs|_,_=>xs termination_by j decreasing_by omega
def bF(xs:List α)(i n:Nat):Nat:=match xs[2*i+2]?,xs[2*i+1]? with|some a,some b=>if 2*i+2<n∧less a b=true then 2*i+2 else 2*i+1|_,_=>2*i+1
theorem dM(xs:List α)(i n:Nat):i<bF less xs i n∧(bF less xs i n=2*i+1∨bF less xs i n=2*i+2):=by unfold bF;split;(·split<;>omega);·omega
def bP(xs:List α)(i n:Nat):List α:=if h:n≤2*i+1 then xs else match xs[bF less xs i n]?,xs[i]? with|some a,some b=>if less a b=true then bP (MH xs i (bF less xs i n)) (bF less xs i n) n else xs|_,_=>xs termination_by n-i decreasing_by have:=(dM less xs i n).1;omega
end
section
variable {α:Type} {less:α→α→Bool}
theorem bK(xs:List α)(i j:Nat):(MH xs i j).length=xs.length:=by unfold MH;split<;>simp
theorem swap_perm(xs:List α)(i j:Nat):(MH xs i j).Perm xs:=by
 unfold MH;split;(·rename_i a b ha hb;obtain⟨h1,rfl⟩:=List.getElem?_eq_some_iff.1 ha;obtain⟨h2,rfl⟩:=List.getElem?_eq_some_iff.1 hb;exact List.set_set_perm h1 h2)
 ·exact List.Perm.refl _
theorem kr {xs:List α} {i j:Nat} {a b:α} (ha:xs[i]?=some a)(hb:xs[j]?=some b)(k:Nat):(MH xs i j)[k]?=if k=j then some a else if k=i then some b else xs[k]?:=by
 have h1:=(List.getElem?_eq_some_iff.1 ha).1;have h2:=(List.getElem?_eq_some_iff.1 hb).1;unfold MH;rw[ha,hb];dsimp only;by_cases e1:k=j;(·rw[if_pos e1,e1,List.getElem?_set_self (by simpa using h2)])
 ·rw[if_neg e1,List.getElem?_set_ne (Ne.symm e1)];by_cases e2:k=i;(·rw[if_pos e2,e2,List.getElem?_set_self h1]);·rw[if_neg e2,List.getElem?_set_ne (Ne.symm e2)]
def mD(less:α→α→Bool)(xs:List α)(a b:Nat):Prop:= ∀x y,xs[a]?=some x→xs[b]?=some y→less y x=false
structure pV(less:α→α→Bool):Prop where
 Ec: ∀a,less a a=false
 wR: ∀a b,less a b=true→less b a=false
 trans: ∀a b c,less b a=false→less c b=false→less c a=false
def c6(less:α→α→Bool)(xs:List α)(n:Nat):Prop:= ∀k,0<k→k<n→mD less xs ((k-1)/2) k
theorem pW(ho:pV less) {xs:List α} {a b c:Nat} (hb:b<xs.length)(h1:mD less xs a b)(h2:mD less xs b c):mD less xs a c:=fun x y hx hy=>ho.trans _ _ _ (h1 x _ hx (List.getElem?_eq_getElem hb)) (h2 _ y (List.getElem?_eq_getElem hb) hy)
theorem jF(xs:List α)(j:Nat):(jm less xs j).length=xs.length:=by
 induction j using Nat.strongRecOn generalizing xs with|_ j ih=>unfold jm;split;(·rfl);·split;(·split;(·rw[ih _ (by omega),bK]);·rfl);·rfl
theorem nU(xs:List α)(j:Nat):(jm less xs j).Perm xs:=by
 induction j using Nat.strongRecOn generalizing xs with|_ j ih=>unfold jm;split;(·exact List.Perm.refl _);·split;(·split;(·exact(ih _ (by omega) _).trans (swap_perm ..));·exact List.Perm.refl _);·exact List.Perm.refl _
theorem zo(ho:pV less)(n:Nat)(j:Nat): ∀(xs:List α),xs.length=n→j<n→(∀k,0<k→k<n→k≠j→mD less xs ((k-1)/2) k)→(∀k,0<k→k<n→(k-1)/2=j→0<j→mD less xs ((j-1)/2) k)→c6 less (jm less xs j) n:=by
 induction j using Nat.strongRecOn with|_ j ih=>intro xs hn hj hA hB;unfold jm;split;(·rename_i h0;intro k h1 h2;exact hA k h1 h2 (by omega));·rename_i h0;obtain⟨a,ha⟩: ∃a,xs[j]?=some a:=⟨_,List.getElem?_eq_getElem (by omega)⟩;obtain⟨b,hb⟩: ∃b,xs[(j-1)/2]?=some b:=⟨_,List.getElem?_eq_getElem (by omega)⟩;rw[ha,hb];dsimp only;split;(·rename_i hl;have sw:=kr hb ha;refine ih _ (by omega) _ (by rw[bK];exact hn) (by omega) (fun k k0 kn CW x y hx hy=>?_) (fun k k0 kn kp ip x y hx hy=>?_);(·rw[sw]at hx hy;by_cases k1:k=j;(·subst k1;rw[if_pos rfl]at hy;rw[if_neg (by omega),if_pos rfl]at hx;injection hx with hx;injection hy with hy;subst hx hy;exact ho.wR _ _ hl);·rw[if_neg k1,if_neg CW]at hy;by_cases k2:(k-1)/2=j;(·rw[if_pos k2]at hx;injection hx with hx;subst hx;exact hB k k0 kn k2 (by omega) _ y hb hy);·rw[if_neg k2]at hx;by_cases k3:(k-1)/2=(j-1)/2;(·rw[if_pos k3]at hx;injection hx with hx;subst hx;refine ho.trans _ _ _ (ho.wR _ _ hl) (hA k k0 kn k1 b y (by rw[k3];exact hb) hy));·rw[if_neg k3]at hx;exact hA k k0 kn k1 x y hx hy);·rw[sw]at hx hy;rw[if_neg (by omega),if_neg (by omega)]at hx;by_cases k1:k=j;(·rw[if_pos k1]at hy;injection hy with hy;subst hy;exact hA _ ip (by omega) (by omega) x _ hx hb);·rw[if_neg k1,if_neg (by omega)]at hy;refine ho.trans _ _ _ (hA _ ip (by omega) (by omega) x _ hx hb) (hA k k0 kn k1 b y (by rw[kp];exact hb) hy));·rename_i hl;intro k k0 kn;by_cases k1:k=j;(·subst k1;intro x y hx hy;rw[hb]at hx;rw[ha]at hy;injection hx with hx;injection hy with hy;subst hx hy;simpa using hl);·exact hA k k0 kn k1
theorem jG(ho:pV less) {xs:List α} {b:α} (h:c6 less xs xs.length):c6 less (jm less (xs++ [b]) xs.length) (xs.length+1):=by
 refine zo ho (xs.length+1) xs.length (xs++ [b]) (by simp) (by omega) (fun k k0 kn CW x y hx hy=>?_) (fun k k0 kn kp _=>by omega);rw[List.getElem?_append_left (by omega)]at hx hy
 exact h k k0 (by omega) x y hx hy
theorem pX(n:Nat): ∀(m i:Nat)(xs:List α),n-i≤m→(bP less xs i n).length=xs.length:=by
 intro m;induction m with|zero=>intro i xs h;unfold bP;rw[dif_pos (by omega)]|succ m ih=>intro i xs h;unfold bP;split;(·rfl);·have:=(dM less xs i n).1;split;(·split;(·rw[ih _ _ (by omega),bK]);·rfl);·rfl
theorem uj(n:Nat): ∀(m i:Nat)(xs:List α),n-i≤m→(bP less xs i n).Perm xs:=by
 intro m;induction m with|zero=>intro i xs h;unfold bP;rw[dif_pos (by omega)]|succ m ih=>intro i xs h;unfold bP;split;(·exact List.Perm.refl _);·have:=(dM less xs i n).1;split;(·split;(·exact(ih _ _ (by omega)).trans (swap_perm ..));·exact List.Perm.refl _);·exact List.Perm.refl _
theorem ly {xs:List α} {i n:Nat} (h: ¬n≤2*i+1):bF less xs i n<n:=by unfold bF;split;(·split<;>omega);·omega
theorem uk(n:Nat): ∀(m i:Nat)(xs:List α),n-i≤m→i<n→ ∀k,n≤k→(bP less xs i n)[k]?=xs[k]?:=by
 intro m;induction m with|zero=>intro i xs h hi;omega|succ m ih=>intro i xs h hi k hk;unfold bP;split;(·rfl);·rename_i hn;have hc:=(dM less xs i n).1;have Fw:=ly (less:=less) (xs:=xs) hn;split;(·rename_i a b ha hb;split;(·rw[ih _ _ (by omega) Fw k hk,kr hb ha,if_neg (by omega),if_neg (by omega)]);·rfl);·rfl
theorem um(ho:pV less)(n:Nat): ∀(m i:Nat)(xs:List α),n-i≤m→n≤xs.length→i<n→(∀k,0<k→k<n→(k-1)/2≠i→mD less xs ((k-1)/2) k)→(∀k,0<k→k<n→(k-1)/2=i→0<i→mD less xs ((i-1)/2) k)→c6 less (bP less xs i n) n:=by
 intro m;induction m with|zero=>intro i xs h _ hi;omega|succ m ih=>intro i xs h BM hi hC hD;unfold bP;split;(·rename_i h0;intro k k0 kn;exact hC k k0 kn (by omega));·rename_i h0;have hc:=dM less xs i n;have Fw:=ly (less:=less) (xs:=xs) h0;(have lr: ∀k,0<k→k<n→(k-1)/2=i→mD less xs (bF less xs i n) k:=fun k k0 kn kp x y hx hy=>by(have k2:k=2*i+1∨k=2*i+2:=by omega);obtain⟨c1,qQ⟩: ∃a,xs[2*i+1]?=some a:=⟨_,List.getElem?_eq_getElem (by omega)⟩;unfold bF at hx;rw[qQ]at hx;cases h2:xs[2*i+2]? with|none=>rw[h2]at hx;dsimp only at hx;rcases k2 with rfl|rfl;(·rw[qQ]at hx hy;injection hx with hx;injection hy with hy;subst hx hy;exact ho.Ec _);(·rw[h2]at hy;cases hy)|some c2=>rw[h2]at hx;dsimp only at hx;split at hx;(·rename_i mR;rw[h2]at hx;injection hx with hx;subst hx;rcases k2 with rfl|rfl;(·rw[qQ]at hy;injection hy with hy;subst hy;exact ho.wR _ _ mR.2);·rw[h2]at hy;injection hy with hy;subst hy;exact ho.Ec _);·rename_i mR;rw[qQ]at hx;injection hx with hx;subst hx;rcases k2 with rfl|rfl;(·rw[qQ]at hy;injection hy with hy;subst hy;exact ho.Ec _);·rw[h2]at hy;injection hy with hy;subst hy;rw[Bool.eq_false_iff];intro hh;exact mR ⟨kn,hh⟩);(have Hz:(bF less xs i n-1)/2=i:=by omega);obtain⟨a,ha⟩: ∃a,xs[bF less xs i n]?=some a:=⟨_,List.getElem?_eq_getElem (by omega)⟩;obtain⟨b,hb⟩: ∃b,xs[i]?=some b:=⟨_,List.getElem?_eq_getElem (by omega)⟩;rw[ha,hb];dsimp only;generalize bF less xs i n=j at*;split;(·rename_i hl;have sw:=kr hb ha;refine ih _ _ (by omega) (by rw[bK];exact BM) Fw (fun k k0 kn CW x y hx hy=>?_) (fun k k0 kn kp jp x y hx hy=>?_);(·rw[sw]at hx hy;rw[if_neg CW]at hx;by_cases k1:(k-1)/2=i;(·rw[if_pos k1]at hx;injection hx with hx;subst hx;by_cases k2:k=j;(·rw[if_pos k2]at hy;injection hy with hy;subst hy;exact ho.wR _ _ hl);·rw[if_neg k2,if_neg (by omega)]at hy;exact lr k k0 kn k1 _ y ha hy);·rw[if_neg k1]at hx;have k3:k≠j:=fun e=>k1 (by rw[e];exact Hz);rw[if_neg k3]at hy;by_cases k2:k=i;(·rw[if_pos k2]at hy;injection hy with hy;subst hy;subst k2;exact hD j (by omega) Fw Hz k0 x _ hx ha);·rw[if_neg k2]at hy;exact hC k k0 kn k1 x y hx hy);·rw[sw]at hx hy;rw[Hz,if_neg (by omega),if_pos rfl]at hx;injection hx with hx;subst hx;rw[if_neg (by omega),if_neg (by omega)]at hy;exact hC k k0 kn (by omega) _ y (by rw[kp];exact ha) hy);·rename_i hl;have hl:less a b=false:=Bool.eq_false_iff.2 hl;intro k k0 kn;by_cases k1:(k-1)/2=i;(·intro x y hx hy;rw[k1,hb]at hx;injection hx with hx;subst hx;exact ho.trans _ _ _ hl (lr k k0 kn k1 a y ha hy));·exact hC k k0 kn k1
theorem rX(ho:pV less) {xs:List α} {n:Nat} (h:c6 less xs n)(hn:n≤xs.length): ∀k,k<n→mD less xs 0 k:=by
 intro k;induction k using Nat.strongRecOn with|_ k ih=>intro hk;cases k with|zero=>intro x y hx hy;rw[hx]at hy;injection hy with hy;subst hy;exact ho.Ec _|succ k=>exact pW ho (by omega) (ih ((k+1-1)/2) (by omega) (by omega)) (h (k+1) (by omega) hk)
def ig(less:α→α→Bool)(xs:List α):List α:=bP less (MH xs 0 (xs.length-1)) 0 (xs.length-1)
theorem wS(ho:pV less) {xs:List α} {e:α} (he:xs[0]?=some e)(h:c6 less xs xs.length): ∃ys,ig less xs=ys++ [e]∧(e::ys).Perm xs∧c6 less ys ys.length∧ ∀a,a∈ys→less a e=false:=by
 have hlen:=(List.getElem?_eq_some_iff.1 he).1;obtain⟨l,hl⟩: ∃l,xs[xs.length-1]?=some l:=⟨_,List.getElem?_eq_getElem (by omega)⟩;have sw:=kr he hl;have Ed:=rX ho h (Nat.le_refl _)
 (have HA:(ig less xs).length=xs.length:=by unfold ig;rw[pX _ _ _ _ (Nat.le_refl _),bK]);(have Ee:(ig less xs).Perm xs:=by unfold ig;exact(uj _ _ _ _ (Nat.le_refl _)).trans (swap_perm ..))
 (have Ef:(ig less xs)[xs.length-1]?=some e:=by unfold ig;by_cases h1:xs.length=1;(·unfold bP;rw[dif_pos (by omega),sw,if_pos rfl]);·rw[uk _ _ _ _ (Nat.le_refl _) (by omega) _ (Nat.le_refl _),sw,if_pos rfl])
 (have Eg:c6 less (ig less xs) (xs.length-1):=by unfold ig;by_cases h1:xs.length=1;(·intro k k0 kn;omega);·refine um ho _ _ _ _ (Nat.le_refl _) (by rw[bK];omega) (by omega) (fun k k0 kn CW x y hx hy=>?_) (fun k k0 kn kp i0=>by omega);rw[sw,if_neg (by omega),if_neg CW]at hx;rw[sw,if_neg (by omega),if_neg (by omega)]at hy;exact h k k0 (by omega) x y hx hy)
 (have wT:ig less xs=(ig less xs).take (xs.length-1)++ [e]:=by(conv=>lhs;rw[←List.take_append_drop (xs.length-1) (ig less xs)]);congr 1;(have:(ig less xs).drop (xs.length-1)=e::(ig less xs).drop (xs.length-1+1):=by obtain⟨h1,h2⟩:=List.getElem?_eq_some_iff.1 Ef;rw[List.drop_eq_getElem_cons h1,h2]);rw[this,List.drop_of_length_le (by omega)])
 (have hp:(e::(ig less xs).take (xs.length-1)).Perm xs:=by refine List.Perm.trans ?_ Ee;(conv=>rhs;rw[wT]);exact(List.perm_append_singleton e _).symm);refine⟨_,wT,hp,?_,fun a ha=>?_⟩
 (·rw[List.length_take,HA,Nat.min_eq_left (by omega)];intro k k0 kn x y hx hy;rw[List.getElem?_take,if_pos (by omega)]at hx hy;exact Eg k k0 kn x y hx hy);·obtain⟨k,hk⟩:=List.getElem?_of_mem (hp.mem_iff.1 (List.mem_cons_of_mem _ ha));exact Ed k (List.getElem?_eq_some_iff.1 hk).1 e a he hk
end
end Go.Proofs.YtgpkijnphchkpaaGreat.Rev
namespace Go.Proofs.YtgpkijnphchkpaaGreat.Rev
set_option maxHeartbeats 1000000
abbrev Place:=Int×Int
def dC:List MN→ag→Int→List MN|[],x,c=>[(x,c)]|r::f,x,c=>if r.1=x then(r.1,min r.2 c)::f else r::dC f x c
def ct(out:ag)(at_:Int)(part:ag):Bool:=part.isPrefixOf (out.drop at_.toNat)
def findF(rs:List Rl)(acc:Int)(out:ag):Nat→List Place→Place→ag→Int→List MN→List MN|0,_,_,_,_,f=>f|n+1,l,p,x,c,f=>rs.foldl (fun f r=>if r.1=p.1∧ct out p.2 r.2.2.2.1=true∧(r.2.1,p.2+(r.2.2.2.1.length:Int))∉l then findF rs acc out n (l++ [(r.2.1,p.2+(r.2.2.2.1.length:Int))]) (r.2.1,p.2+(r.2.2.2.1.length:Int)) (x++r.2.2.1) (c+r.2.2.2.2) f else f) (if p.2=(out.length:Int)∧bw acc p.1=true∧x.length≤40 then dC f x c else f)
structure fv(f:List MN)(S:ag→Int→Prop):Prop where
 nodup:(f.map (·.1)).Nodup
 sound: ∀x d,(x,d)∈f→S x d∧ ∀c,S x c→d≤c
 all: ∀x c,S x c→ ∃d,(x,d)∈f
theorem sX {x:ag} {c:Int} : ∀ {f:List MN} {y:ag} {d:Int},(f.map (·.1)).Nodup→((y,d)∈dC f x c↔(y≠x∧(y,d)∈f)∨(y=x∧((∃e,(x,e)∈f∧d=min e c)∨((∀e,(x,e)∉f)∧d=c))))|[],y,d,_=>(by simp[dC])|r::f,y,d,hn=>by obtain⟨h1,h2⟩:=List.nodup_cons.1 hn;unfold dC;split;(·rename_i hx;have dc: ∀e,(x,e)∉f:=fun e he=>h1 (by show r.1∈_;rw[hx];exact List.mem_map_of_mem (f:=(·.1)) he);constructor;(·intro h;rcases List.mem_cons.1 h with h|h;(·obtain⟨rfl,rfl⟩:=Prod.mk.inj h;exact .inr ⟨hx,.inl ⟨r.2,by rw[←hx];exact List.mem_cons_self ..,rfl⟩⟩);·by_cases hy:y=x;(·subst hy;exact absurd h (dc d));·exact .inl ⟨hy,List.mem_cons_of_mem _ h⟩);·rintro(⟨hy,h⟩|⟨rfl,⟨e,he,rfl⟩|⟨h,rfl⟩⟩);(·rcases List.mem_cons.1 h with h|h;(·exact absurd (by rw[←hx,←h]) hy);·exact List.mem_cons_of_mem _ h);(·rcases List.mem_cons.1 he with h|h;(·rw[←h];exact List.mem_cons_self ..);·exact absurd h (dc e));·exact absurd (List.mem_cons_self ..) (by have:=h r.2;rw[←hx]at this;exact this));·rename_i hx;have ih:=sX (x:=x) (c:=c) (f:=f) (y:=y) (d:=d) h2;rw[List.mem_cons,ih];constructor;(·rintro(h|⟨hy,h⟩|⟨hy,⟨e,he,hd⟩|⟨h,hd⟩⟩);(·exact .inl ⟨fun e=>hx (by rw[←h,e]),by rw[h];exact List.mem_cons_self ..⟩);(·exact .inl ⟨hy,List.mem_cons_of_mem _ h⟩);(·exact .inr ⟨hy,.inl ⟨e,List.mem_cons_of_mem _ he,hd⟩⟩);·refine .inr ⟨hy,.inr ⟨fun e he=>?_,hd⟩⟩;rcases List.mem_cons.1 he with he|he;(·exact hx (by rw[←he]));·exact h e he);·rintro(⟨hy,h⟩|⟨hy,⟨e,he,hd⟩|⟨h,hd⟩⟩);(·rcases List.mem_cons.1 h with h|h;(·exact .inl h);·exact .inr (.inl ⟨hy,h⟩));(·rcases List.mem_cons.1 he with he|he;(·exact absurd (by rw[←he]) hx);·exact .inr (.inr ⟨hy,.inl ⟨e,he,hd⟩⟩));·exact .inr (.inr ⟨hy,.inr ⟨fun e he=>h e (List.mem_cons_of_mem _ he),hd⟩⟩)
theorem pY {x:ag} {c:Int} : ∀ {f:List MN} {y:ag},y∈(dC f x c).map (·.1)↔y∈f.map (·.1)∨y=x|[],y=>(by simp[dC])|r::f,y=>by unfold dC;split;(·rename_i hx;simp only[List.map_cons,List.mem_cons];constructor;(·exact .inl);·rintro(h|h);(·exact h);·exact .inl (by rw[h,hx]));·simp only[List.map_cons,List.mem_cons,pY (f:=f),or_assoc]
theorem nh {x:ag} {c:Int} : ∀ {f:List MN},(f.map (·.1)).Nodup→((dC f x c).map (·.1)).Nodup|[],_=>(by simp[dC])|r::f,hn=>by obtain⟨h1,h2⟩:=List.nodup_cons.1 hn;unfold dC;split;(·exact hn);·rename_i hx;rw[List.map_cons,List.nodup_cons];refine⟨fun h=>?_,nh h2⟩;rcases pY.1 h with h|h;(·exact h1 h);·exact hx h
theorem rY {f:List MN} {S:ag→Int→Prop} {x:ag} {c:Int} (h:fv f S):fv (dC f x c) (fun y d=>S y d∨(y=x∧d=c)):=by
 have hm:=fun y d=>sX (x:=x) (c:=c) (f:=f) (y:=y) (d:=d) h.nodup;refine⟨nh h.nodup,fun y d hd=>?_,fun y d hd=>?_⟩;(·rcases(hm y d).1 hd with⟨hy,h1⟩|⟨rfl,⟨e,h1,rfl⟩|⟨h1,rfl⟩⟩;(·obtain⟨k1,k2⟩:=h.sound y d h1;exact⟨.inl k1,fun c' db=>db.elim (k2 c') fun hh=>absurd hh.1 hy⟩);(·obtain⟨k1,k2⟩:=h.sound y e h1;refine⟨?_,fun c' db=>?_⟩;(·by_cases hle:e≤c;(·rw[Int.min_eq_left hle];exact .inl k1);·rw[Int.min_eq_right (by omega)];exact .inr ⟨rfl,rfl⟩);·rcases db with db|⟨_,rfl⟩;(·have:=k2 c' db;omega);·omega);·refine⟨.inr ⟨rfl,rfl⟩,fun c' db=>?_⟩;rcases db with db|⟨_,rfl⟩;(·obtain⟨e,he⟩:=h.all y c' db;exact absurd he (h1 e));·omega)
 ·rcases hd with hd|⟨rfl,rfl⟩;(·obtain⟨e,he⟩:=h.all y d hd;by_cases hy:y=x;(·subst hy;exact⟨min e c,(hm y _).2 (.inr ⟨rfl,.inl ⟨e,he,rfl⟩⟩)⟩);·exact⟨e,(hm y e).2 (.inl ⟨hy,he⟩)⟩);·by_cases hh: ∃e,(y,e)∈f;(·obtain⟨e,he⟩:=hh;exact⟨min e d,(hm y _).2 (.inr ⟨rfl,.inl ⟨e,he,rfl⟩⟩)⟩);·exact⟨d,(hm y d).2 (.inr ⟨rfl,.inr ⟨fun e he=>hh ⟨e,he⟩,rfl⟩⟩)⟩
theorem b8 {f:List MN} {S T:ag→Int→Prop} (h: ∀x c,S x c↔T x c)(hf:fv f S):fv f T:=⟨hf.nodup,fun x d hd=>⟨(h x d).1 (hf.sound x d hd).1,fun c hc=>(hf.sound x d hd).2 c ((h x c).2 hc)⟩,fun x c hc=>hf.all x c ((h x c).2 hc)⟩
theorem sY {s:Nat} (hs:s<256) {i m:Nat} (hi:i<8)(hm:m<8)(h:s/2^i%2=0):(s+2^i)/2^m%2=1↔(s/2^m%2=1∨m=i):=by
 (have Ky:i=0∨i=1∨i=2∨i=3∨i=4∨i=5∨i=6∨i=7:=by omega);(have Kz:m=0∨m=1∨m=2∨m=3∨m=4∨m=5∨m=6∨m=7:=by omega);rcases Ky with rfl|rfl|rfl|rfl|rfl|rfl|rfl|rfl<;>rcases Kz with rfl|rfl|rfl|rfl|rfl|rfl|rfl|rfl<;>simp only[Nat.reducePow]at h⊢ <;>first|omega|(constructor<;>intro _<;>first|omega|exact .inr trivial)
theorem sZ {i m:Nat} (hi:i<8)(hm:m<8):2^i/2^m%2=1↔m=i:=by have:=sY (s:=0) (by omega) hi hm (by simp);rw[Nat.zero_add]at this;rw[this];simp
structure jH(l:List Place)(p:bg):Prop where
 bits: ∀m:Int,0≤m→m<8→(bw p.2.2 m=true↔(m,p.1)∈l)
 le: ∀q,q∈l→q.2≤p.1
theorem iW {s m:Int} :bw s m=true↔s.toNat/2^m.toNat%2=1:=by simp[bw]
theorem fw:jH [(0,0)] (0,0,1):=by
 refine⟨fun m h0 h8=>?_,fun q hq=>by rw[List.mem_singleton.1 hq];exact Int.le_refl _⟩;rw[iW];have:=sZ (i:=0) (m:=m.toNat) (by decide) (by omega);simp only[Nat.pow_zero]at this
 rw[show((0,0,1):bg).2.2.toNat=1 from rfl,this];simp only[List.mem_singleton,Prod.mk.injEq,and_true];omega
variable {rs:List Rl} {acc:Int} {out:ag}
theorem c7 {l:List Place} {p:bg} {r:Rl} (hv:jH l p)(hp:mA out p)(hm:0≤r.2.1∧r.2.1<8):((r.1=p.2.1∧ct out p.1 r.2.2.2.1=true∧(r.2.1,p.1+(r.2.2.2.1.length:Int))∉l)↔ ∃q,bq out p r=some q)∧ ∀q,bq out p r=some q→q.1=p.1+(r.2.2.2.1.length:Int)∧q.2.1=r.2.1∧jH (l++ [(r.2.1,p.1+(r.2.2.2.1.length:Int))]) q:=by
 unfold ct bq;by_cases ho:r.2.2.2.1=[];(·(have kb:(r.2.2.2.1.length:Int)=0:=by rw[ho];rfl);rw[kb,Int.add_zero];have hb:=hv.bits r.2.1 hm.1 hm.2;constructor;(·constructor;(·rintro⟨h1,h2,h3⟩;rw[if_pos ⟨h1,h2⟩,if_neg (by rw[ho];exact fun h=>h rfl),if_pos (Bool.eq_false_iff.2 fun hh=>h3 (hb.1 hh))];exact⟨_,rfl⟩);·rintro⟨q,hq⟩;split at hq;(·rename_i h1;rw[if_neg (by rw[ho];exact fun h=>h rfl)]at hq;split at hq;(·rename_i h3;exact⟨h1.1,h1.2,fun hh=>by rw[hb.2 hh]at h3;cases h3⟩);·cases hq);·cases hq);·intro q hq;split at hq;(·rw[if_neg (by rw[ho];exact fun h=>h rfl)]at hq;split at hq;(·rename_i h3;injection hq with hq;subst hq;refine⟨rfl,rfl,fun m h0 h8=>?_,fun x hx=>?_⟩;(·dsimp only;(have cn:p.2.2.toNat/2^r.2.1.toNat%2=0:=by have:=Bool.eq_false_iff.1 h3;rw[ne_eq,iW]at this;omega);have h2:=sY (s:=p.2.2.toNat) (by have:=hp.seen;omega) (i:=r.2.1.toNat) (m:=m.toNat) (by omega) (by omega) cn;(have e:(p.2.2+eb r.2.1).toNat=p.2.2.toNat+2^r.2.1.toNat:=by have:=hp.seen;have hb:eb r.2.1=((2^r.2.1.toNat:Nat):Int):=rfl;rw[hb];generalize 2^r.2.1.toNat=z;omega);rw[iW,e,h2,List.mem_append,List.mem_singleton,←iW,hv.bits m h0 h8,Prod.mk.injEq];constructor;(·rintro(h|h);(·exact .inl h);·exact .inr ⟨by omega,rfl⟩);·rintro(h|h);(·exact .inl h);·exact .inr (by omega));·dsimp only;rcases List.mem_append.1 hx with hx|hx;(·exact hv.le x hx);·rw[List.mem_singleton.1 hx];exact Int.le_refl _);·cases hq);·cases hq)
 ·have kb:0<r.2.2.2.1.length:=List.length_pos_iff.2 ho;(have bd:(r.2.1,p.1+(r.2.2.2.1.length:Int))∉l:=fun hh=>by have:=hv.le _ hh;dsimp only at this;omega);constructor;(·constructor;(·rintro⟨h1,h2,_⟩;rw[if_pos ⟨h1,h2⟩,if_pos ho];exact⟨_,rfl⟩);·rintro⟨q,hq⟩;split at hq;(·rename_i h1;exact⟨h1.1,h1.2,bd⟩);·cases hq);·intro q hq;split at hq;(·injection hq with hq;subst hq;refine⟨rfl,rfl,fun m h0 h8=>?_,fun x hx=>?_⟩;(·dsimp only;have e:(eb r.2.1).toNat=2^r.2.1.toNat:=Int.toNat_natCast _;rw[iW,e,sZ (by omega) (by omega),List.mem_append,List.mem_singleton,Prod.mk.injEq];constructor;(·intro h;exact .inr ⟨by omega,rfl⟩);·rintro(h|h);(·have:=hv.le _ h;dsimp only at this;omega);·omega);·dsimp only;rcases List.mem_append.1 hx with hx|hx;(·have:=hv.le x hx;omega);·rw[List.mem_singleton.1 hx];exact Int.le_refl _);·cases hq
def rZ(rs:List Rl)(acc:Int)(out:ag)(p:bg)(x:ag)(c:Int)(z:ag)(d:Int):Prop:= ∃y e,Path rs acc out p y e∧z=x++y∧d=c+e∧z.length≤40
theorem pZ(h:gz rs): ∀(n:Nat)(l:List Place)(p:bg)(x:ag)(c:Int)(f:List MN)(S:ag→Int→Prop),mA out p→ms out p<n→jH l p→fv f S→fv (findF rs acc out n l (p.2.1,p.1) x c f) (fun z d=>S z d∨rZ rs acc out p x c z d):=by
 intro n;induction n with|zero=>intro _ _ _ _ _ _ _ hn;exact absurd hn (Nat.not_lt_zero _)|succ n ih=>intro l p x c f S hp hn hv hf;rw[findF];(have BS:fv (if(p.2.1,p.1).2=(out.length:Int)∧bw acc (p.2.1,p.1).1=true∧x.length≤40 then dC f x c else f) (fun z d=>S z d∨(cM acc out p=true∧x.length≤40∧z=x∧d=c)):=by split;(·rename_i hc;refine b8 (fun z d=>?_) (rY hf);(have he:cM acc out p=true:=by unfold cM;rw[Bool.and_eq_true,decide_eq_true_eq];exact⟨hc.1,hc.2.1⟩);constructor;(·rintro(h1|⟨h1,h2⟩);(·exact .inl h1);·exact .inr ⟨he,hc.2.2,h1,h2⟩);·rintro(h1|⟨_,_,h1,h2⟩);(·exact .inl h1);·exact .inr ⟨h1,h2⟩);·rename_i hc;refine b8 (fun z d=>?_) hf;constructor;(·exact .inl);·rintro(h1|⟨h1,h2,_⟩);(·exact h1);·unfold cM at h1;rw[Bool.and_eq_true,decide_eq_true_eq]at h1;exact absurd ⟨h1.1,h1.2,h2⟩ hc);(have aU: ∀(l2:List Rl)(f:List MN)(S:ag→Int→Prop),(∀r,r∈l2→r∈rs)→fv f S→fv (l2.foldl (fun f r=>if r.1=(p.2.1,p.1).1∧ct out (p.2.1,p.1).2 r.2.2.2.1=true∧(r.2.1,(p.2.1,p.1).2+(r.2.2.2.1.length:Int))∉l then findF rs acc out n (l++ [(r.2.1,(p.2.1,p.1).2+(r.2.2.2.1.length:Int))]) (r.2.1,(p.2.1,p.1).2+(r.2.2.2.1.length:Int)) (x++r.2.2.1) (c+r.2.2.2.2) f else f) f) (fun z d=>S z d∨ ∃r q,r∈l2∧bq out p r=some q∧rZ rs acc out q (x++r.2.2.1) (c+r.2.2.2.2) z d):=by intro l2;induction l2 with|nil=>intro f S _ hf;exact b8 (fun z d=>by simp) hf|cons r l2 Fu=>intro f S gE hf;rw[List.foldl_cons];have hr:=gE r (List.mem_cons_self ..);obtain⟨v1,v2⟩:=c7 (out:=out) hv hp (h.mode r hr);dsimp only;split;(·rename_i hc;obtain⟨q,hq⟩:=v1.1 hc;obtain⟨k1,k2,k3⟩:=v2 q hq;obtain⟨o1,o2,_⟩:=cd hp (h.mode r hr) hq;have:=ih (l++ [(r.2.1,p.1+(r.2.2.2.1.length:Int))]) q (x++r.2.2.1) (c+r.2.2.2.2) f S o1 (by omega) k3 hf;rw[k1,k2]at this;refine b8 (fun z d=>?_) (Fu _ _ (fun a ha=>gE a (List.mem_cons_of_mem _ ha)) this);constructor;(·rintro((h1|h1)|⟨r',q',h1,h2,h3⟩);(·exact .inl h1);(·exact .inr ⟨r,q,List.mem_cons_self ..,hq,h1⟩);·exact .inr ⟨r',q',List.mem_cons_of_mem _ h1,h2,h3⟩);·rintro(h1|⟨r',q',h1,h2,h3⟩);(·exact .inl (.inl h1));·rcases List.mem_cons.1 h1 with rfl|h1;(·rw[hq]at h2;injection h2 with h2;subst h2;exact .inl (.inr h3));·exact .inr ⟨r',q',h1,h2,h3⟩);·rename_i hc;refine b8 (fun z d=>?_) (Fu _ _ (fun a ha=>gE a (List.mem_cons_of_mem _ ha)) hf);constructor;(·rintro(h1|⟨r',q',h1,h2,h3⟩);(·exact .inl h1);·exact .inr ⟨r',q',List.mem_cons_of_mem _ h1,h2,h3⟩);·rintro(h1|⟨r',q',h1,h2,h3⟩);(·exact .inl h1);·rcases List.mem_cons.1 h1 with rfl|h1;(·exact absurd (v1.2 ⟨q',h2⟩) hc);·exact .inr ⟨r',q',h1,h2,h3⟩);refine b8 (fun z d=>?_) (aU rs _ _ (fun r hr=>hr) BS);constructor;(·rintro((h1|⟨h1,h2,rfl,rfl⟩)|⟨r,q,hr,hq,y,e,h1,rfl,rfl,h4⟩);(·exact .inl h1);(·exact .inr ⟨[],0,.done h1,by simp,by omega,h2⟩);·exact .inr ⟨r.2.2.1++y,r.2.2.2.2+e,.step hr hq h1,by rw[List.append_assoc],by omega,h4⟩);·rintro(h1|⟨y,e,h1,rfl,rfl,h4⟩);(·exact .inl (.inl h1));·cases h1 with|done he=>exact .inl (.inr ⟨he,by simpa using h4,by simp,by omega⟩)| @step _ q r y e hr hq tC=>exact .inr ⟨r,q,hr,hq,y,e,tC,by rw[List.append_assoc],by omega,h4⟩
def iX(l:List MN)(x:MN):List MN:=l.takeWhile (fun y=>bk y x)++x::l.dropWhile (fun y=>bk y x)
def mE(rs:List Rl)(acc:Int)(out:ag):List MN:=(findF rs acc out (out.length*256+256) [(0,0)] (0,0) [] 0 []).foldl iX []
theorem p6 {a b:MN} (h:a.1≠b.1)(h':bk a b=false):bk b a=true:=by
 have h2:=fun hh=>Bool.eq_false_iff.1 h' (eW.2 hh);rw[eW];by_cases k1:b.2<a.2;(·exact .inl k1);·(have k2:a.2=b.2:=by by_cases k:a.2<b.2;(·exact absurd (.inl k) h2);·omega);by_cases k3:b.1.length<a.1.length;(·exact .inr ⟨k2.symm,.inl k3⟩);·(have k4:a.1.length=b.1.length:=by by_cases k:a.1.length<b.1.length;(·exact absurd (.inr ⟨k2,.inl k⟩) h2);·omega);exact .inr ⟨k2.symm,.inr ⟨k4.symm,iV h (Bool.eq_false_iff.2 fun hh=>h2 (.inr ⟨k2,.inr ⟨k4,hh⟩⟩))⟩⟩
theorem p7: ∀ {l:List MN} {x:MN},l.Pairwise (fun a b=>bk a b=true)→(∀a,a∈l→a.1≠x.1)→ ∀a,a∈l.dropWhile (fun y=>bk y x)→bk x a=true|[],_,_,_,a,ha=>(by cases ha)|b::l,x,hs,hn,a,ha=>by obtain⟨p,q⟩:=List.pairwise_cons.1 hs;rw[List.dropWhile_cons]at ha;split at ha;(·exact p7 q (fun c hc=>hn c (List.mem_cons_of_mem _ hc)) a ha);·rename_i hb;have IQ:=p6 (hn b (List.mem_cons_self ..)) (Bool.eq_false_iff.2 hb);rcases List.mem_cons.1 ha with rfl|ha;(·exact IQ);·exact eD IQ (p a ha)
theorem gN {α:Type} {p:α→Bool} : ∀ {l:List α} {a:α},a∈l.takeWhile p→p a=true|[],_,h=>(by cases h)|b::l,a,h=>by rw[List.takeWhile_cons]at h;split at h;(·rename_i hb;rcases List.mem_cons.1 h with rfl|h;(·exact hb);·exact gN h);·cases h
theorem zp {l:List MN} {x:MN} (hs:l.Pairwise (fun a b=>bk a b=true))(hn: ∀a,a∈l→a.1≠x.1):(iX l x).Pairwise (fun a b=>bk a b=true):=by
 unfold iX;rw[List.pairwise_append];have hd:=p7 hs hn;refine⟨hs.sublist (List.takeWhile_sublist _),List.Pairwise.cons hd (hs.sublist (List.dropWhile_sublist _)),fun a ha b hb=>?_⟩
 have zq:=gN ha;rcases List.mem_cons.1 hb with rfl|hb;(·exact zq);·exact eD zq (hd b hb)
theorem s3 {l:List MN} {x y:MN} :y∈iX l x↔y=x∨y∈l:=by
 unfold iX;rw[List.mem_append,List.mem_cons];(conv=>rhs;rw[←List.takeWhile_append_dropWhile (p:=fun y=>bk y x) (l:=l),List.mem_append]);constructor;(·rintro(h|h|h);(·exact .inr (.inl h));(·exact .inl h);·exact .inr (.inr h))
 ·rintro(h|h|h);(·exact .inr (.inl h));(·exact .inl h);·exact .inr (.inr h)
theorem p8: ∀(f l:List MN),l.Pairwise (fun a b=>bk a b=true)→(f.map (·.1)).Nodup→(∀a,a∈l→a.1∉f.map (·.1))→(f.foldl iX l).Pairwise (fun a b=>bk a b=true)∧ ∀y,y∈f.foldl iX l↔y∈l∨y∈f|[],l,hs,_,_=>⟨hs,fun y=>by simp⟩|x::f,l,hs,hn,hd=>by obtain⟨n1,n2⟩:=List.nodup_cons.1 hn;have hx: ∀a,a∈l→a.1≠x.1:=fun a ha e=>hd a ha (by rw[e];exact List.mem_cons_self ..);(obtain⟨k1,k2⟩:=p8 f (iX l x) (zp hs hx) n2 fun a ha=>by rcases s3.1 ha with rfl|ha;(·exact n1);·exact fun hh=>hd a ha (List.mem_cons_of_mem _ hh));refine⟨k1,fun y=>?_⟩;rw[List.foldl_cons,k2,s3,List.mem_cons];constructor;(·rintro((h|h)|h);(·exact .inr (.inl h));(·exact .inl h);·exact .inr (.inr h));·rintro(h|h|h);(·exact .inl (.inr h));(·exact .inl (.inl h));·exact .inr h
theorem zr(h:gz rs):nf rs acc out (mE rs acc out):=by
 have hs:=pZ (acc:=acc) (out:=out) h (out.length*256+256) [(0,0)] (0,0,1) [] 0 [] (fun _ _=>False) (k8 out) (by have:=sV (out:=out) (p:=(0,0,1));omega) fw ⟨List.nodup_nil,fun x d hd=>absurd hd List.not_mem_nil,fun x c hc=>hc.elim⟩
 (have hS: ∀z d,(False∨rZ rs acc out (0,0,1) [] 0 z d)↔na rs acc out z d∧z.length≤40:=fun z d=>by constructor;(·rintro(h1|⟨y,e,h1,rfl,rfl,h4⟩);(·exact h1.elim);·exact⟨by simpa[na]using h1,h4⟩);·rintro⟨h1,h2⟩;exact .inr ⟨z,d,h1,by simp,by omega,h2⟩)
 have mi:=b8 hS hs;obtain⟨k1,k2⟩:=p8 _ [] List.Pairwise.nil mi.nodup fun a ha=>absurd ha List.not_mem_nil;refine⟨k1,fun x d=>?_⟩;unfold mE;rw[k2];constructor;(·rintro(h1|h1);(·exact absurd h1 List.not_mem_nil);·obtain⟨q1,q2⟩:=mi.sound x d h1;exact⟨⟨q1.1,fun c hc=>q2 c ⟨hc,q1.2⟩⟩,q1.2⟩)
 ·rintro⟨⟨h1,h2⟩,h3⟩;obtain⟨e,he⟩:=mi.all x d ⟨h1,h3⟩;obtain⟨q1,q2⟩:=mi.sound x e he;have h4:=q2 d ⟨h1,h3⟩;have h5:=h2 e q1.1;(have e1:e=d:=by omega);subst e1;exact .inr he
end Go.Proofs.YtgpkijnphchkpaaGreat.Rev
namespace Go.Proofs.YtgpkijnphchkpaaGreat.Rev
set_option maxHeartbeats 1000000
variable {rs:List Rl} {acc:Int} {out:ag}
def isLet(u:UInt8):Prop:=97≤u.toNat∧u.toNat≤122
def zt(rs:List Rl):Prop:= ∀r,r∈rs→ ∀u,u∈r.2.2.1→isLet u
theorem p9(h:zt rs) {p:bg} {x:ag} {c:Int} (hp:Path rs acc out p x c): ∀u,u∈x→isLet u:=by
 induction hp with|done=>intro u hu;cases hu|step hr _ _ ih=>intro u hu;rcases List.mem_append.1 hu with hu|hu;(·exact h _ hr u hu);·exact ih u hu
def j6:Nat→Nat→List UInt8|0,_=>[]|n+1,k=>UInt8.ofNat (97+k)::j6 n (k+1)
def bM:List UInt8:=j6 26 0
theorem lz:bM=[97,98,99,100,101,102,103,104,105,106,107,108,109,110,111,112,113,114,115,116,117,118,119,120,121,122]:=by decide
theorem j7 {u:UInt8} :u∈bM↔isLet u:=by
 rw[lz];unfold isLet;constructor;(·intro h;simp only[List.mem_cons,List.not_mem_nil,or_false]at h;rcases h with rfl|rfl|rfl|rfl|rfl|rfl|rfl|rfl|rfl|rfl|rfl|rfl|rfl|rfl|rfl|rfl|rfl|rfl|rfl|rfl|rfl|rfl|rfl|rfl|rfl|rfl<;>decide)
 ·intro h;(have hu:u=UInt8.ofNat u.toNat:=by simp);obtain⟨h1,h2⟩:=h;generalize u.toNat=n at hu h1 h2;(have:n=97∨n=98∨n=99∨n=100∨n=101∨n=102∨n=103∨n=104∨n=105∨n=106∨n=107∨n=108∨n=109∨n=110∨n=111∨n=112∨n=113∨n=114∨n=115∨n=116∨n=117∨n=118∨n=119∨n=120∨n=121∨n=122:=by omega);rcases this with rfl|rfl|rfl|rfl|rfl|rfl|rfl|rfl|rfl|rfl|rfl|rfl|rfl|rfl|rfl|rfl|rfl|rfl|rfl|rfl|rfl|rfl|rfl|rfl|rfl|rfl<;>(rw[hu];decide)
theorem mF:bM.Nodup:=by rw[lz];decide
def iY(x:ag)(o:Option au):List FE:=match o with|some w=>[(x,true,w)]|none=>[]
def eY(x:ag)(g:UInt8→Option au)(l:List UInt8):List FE:=l.filterMap fun a=>match g a with|some w=>some (x++ [a],false,w)|none=>none
theorem dw {x:ag} {o:Option au} {a:FE} :a∈iY x o↔ ∃w,o=some w∧a=(x,true,w):=by unfold iY;cases o with|none=>simp|some w=>simp
theorem dx {x:ag} {g:UInt8→Option au} {l:List UInt8} {a:FE} :a∈eY x g l↔ ∃u w,u∈l∧g u=some w∧a=(x++ [u],false,w):=by
 unfold eY;rw[List.mem_filterMap];constructor;(·rintro⟨u,hu,h⟩;cases hg:g u with|none=>rw[hg]at h;cases h|some w=>rw[hg]at h;exact⟨u,w,hu,hg,(Option.some.inj h).symm⟩)
 ·rintro⟨u,w,hu,hg,rfl⟩;exact⟨u,hu,by rw[hg]⟩
theorem iZ {x:ag} {u:UInt8} {w:au} {z:ag} (h:ba (x++ [u],false,w) z): ∃t,z=x++u::t:=by
 unfold ba at h;rw[if_neg (show¬(false=true)by decide)]at h;obtain⟨t,ht⟩:=h;exact⟨t,by rw[←ht];simp⟩
theorem r0(h:gz rs)(uo:zt rs) {H:List FE} {R:List MN} {e:FE} (hf:c5 rs acc out (e::H) R)(hd:e.2.1=false) {o:Option au} (ho:a7 (ic rs acc out e.1) o) {g:UInt8→Option au} (hg: ∀a,a∈bM→a7 (cZ rs acc out (e.1++ [a])) (g a)):c5 rs acc out (H++(iY e.1 o++eY e.1 g bM)) R:=by
 (have CU:e.1.length≤40:=by obtain⟨y,c,_,hl,_⟩:=(hf.live e (List.mem_cons_self ..) hd).1;rw[List.length_append]at hl;omega);refine rW hf hd (fun a ha hf=>?_) (fun a ha ht=>?_) (fun z c hi hl hp=>?_) (fun a ha z hc=>?_) ?_
 (·rcases List.mem_append.1 ha with ha|ha;(·obtain⟨w,_,rfl⟩:=dw.1 ha;cases hf);·obtain⟨u,w,hu,hw,rfl⟩:=dx.1 ha;have:=hg u hu;rw[hw]at this;exact this);(·rcases List.mem_append.1 ha with ha|ha;(·obtain⟨w,rfl,rfl⟩:=dw.1 ha;exact⟨ho,CU⟩);·obtain⟨u,w,hu,hw,rfl⟩:=dx.1 ha;cases ht)
 (·obtain⟨t,rfl⟩:=hp;cases t with|nil=>rw[List.append_nil]at hi;(cases o with|none=>exact absurd ⟨c,hi,rfl⟩ (ho _)|some w=>refine⟨_,List.mem_append_left _ (dw.2 ⟨w,rfl,rfl⟩),?_⟩;unfold ba;rw[if_pos rfl,List.append_nil])|cons u t=>have hu:u∈bM:=j7.2 (p9 uo hi u (by simp));have hm:=hg u hu;(have e2:e.1++u::t=e.1++ [u]++t:=by simp);rw[e2]at hi hl;cases BT:g u with|none=>rw[BT]at hm;exact absurd ⟨t,c,hi,hl,rfl⟩ (hm _)|some w=>refine⟨_,List.mem_append_right _ (dx.2 ⟨u,w,hu,BT,rfl⟩),?_⟩;unfold ba;rw[if_neg (show¬(false=true)by decide),e2];exact List.prefix_append ..)
 (·rcases List.mem_append.1 ha with ha|ha;(·obtain⟨w,_,rfl⟩:=dw.1 ha;unfold ba at hc;rw[if_pos rfl]at hc;rw[←hc];exact List.prefix_refl _);·obtain⟨u,w,hu,hw,rfl⟩:=dx.1 ha;obtain⟨t,rfl⟩:=iZ hc;exact List.prefix_append ..)
 ·rw[List.pairwise_append];refine⟨?_,?_,fun a ha b hb z h1 h2=>?_⟩;(·unfold iY;cases o with|none=>exact List.Pairwise.nil|some w=>exact List.pairwise_singleton ..);(·unfold eY;rw[List.pairwise_filterMap];refine List.Pairwise.imp ?_ mF;intro a b fC a' zq b' dG z h1 h2;cases ER:g a with|none=>rw[ER]at zq;cases zq|some w=>cases xU:g b with|none=>rw[xU]at dG;cases dG|some w'=>rw[ER]at zq;rw[xU]at dG;obtain rfl:=Option.some.inj zq;obtain rfl:=Option.some.inj dG;obtain⟨t,rfl⟩:=iZ h1;obtain⟨t',tA⟩:=iZ h2;have:=List.append_cancel_left tA;injection this with h3 _;exact fC h3);·obtain⟨w,_,rfl⟩:=dw.1 ha;obtain⟨u,w',hu,hw,rfl⟩:=dx.1 hb;obtain⟨t,rfl⟩:=iZ h2;unfold ba at h1;rw[if_pos rfl]at h1;have:=congrArg List.length h1;simp at this
theorem uq {K:List Rl} {R L:Int→Prop} (hK: ∀r,r∈rs→R r.1→L r.2.1→r∈K)(hR: ∀r,r∈rs→R r.1→R r.2.1)(zu: ∀m,bw acc m=true→L m)(hL: ∀r,r∈rs→L r.2.1→L r.1) {p:bg} {x:ag} {c:Int} (hp:Path rs acc out p x c):R p.2.1→Path K acc out p x c∧L p.2.1:=by
 induction hp with| @done p h=>intro _;refine⟨.done h,zu _ ?_⟩;unfold cM at h;rw[Bool.and_eq_true]at h;exact h.2| @step p q r x c hr ha _ ih=>intro IS;(have wU:r.1=p.2.1:=by unfold bq at ha;split at ha;(·rename_i h;exact h.1);·cases ha);(have IT:q.2.1=r.2.1:=by unfold bq at ha;split at ha;(·split at ha;(·injection ha with ha;subst ha;rfl);·split at ha;(·injection ha with ha;subst ha;rfl);·cases ha);·cases ha);have h1:=hR r hr (by rw[wU];exact IS);obtain⟨k1,k2⟩:=ih (by rw[IT];exact h1);rw[IT]at k2;exact⟨.step (hK r hr (by rw[wU];exact IS) k2) ha k1,by rw[←wU];exact hL r hr k2⟩
theorem ur {K:List Rl} (hK: ∀r,r∈K→r∈rs) {p:bg} {x:ag} {c:Int} (hp:Path K acc out p x c):Path rs acc out p x c:=by
 induction hp with|done h=>exact .done h|step hr ha _ ih=>exact .step (hK _ hr) ha ih
theorem qa {K:List Rl} (h: ∀x c,na K acc out x c↔na rs acc out x c) {L:List MN} (hL:nf K acc out L):nf rs acc out L:=⟨hL.sW,fun x d=>by rw[hL.mem];unfold uh;rw[h];constructor;(·rintro⟨⟨a,b⟩,c⟩;exact⟨⟨a,fun e he=>b e ((h x e).2 he)⟩,c⟩);·rintro⟨⟨a,b⟩,c⟩;exact⟨⟨a,fun e he=>b e ((h x e).1 he)⟩,c⟩⟩
def zw(U:List Thread)(B:Nat)(V:Thread→Option Int):Nat:=(U.map fun t=>match V t with|some c=>c.toNat|none=>B).sum
theorem wV {U:List Thread} {B:Nat} {V W:Thread→Option Int} (h: ∀t,t∈U→(match W t with|some c=>c.toNat|none=>B)≤(match V t with|some c=>c.toNat|none=>B)):zw U B W≤zw U B V:=by
 unfold zw;induction U with|nil=>exact Nat.le_refl _|cons t U ih=>have h1:=h t (List.mem_cons_self ..);have h2:=ih fun u hu=>h u (List.mem_cons_of_mem _ hu);simp only[List.map_cons,List.sum_cons];omega
theorem BU {U:List Thread} {B:Nat} {V W:Thread→Option Int} {k:Thread} (hk:k∈U)(h: ∀t,t∈U→(match W t with|some c=>c.toNat|none=>B)≤(match V t with|some c=>c.toNat|none=>B))(bo:(match W k with|some c=>c.toNat|none=>B)<(match V k with|some c=>c.toNat|none=>B)):zw U B W<zw U B V:=by
 unfold zw;induction U with|nil=>cases hk|cons t U ih=>have h1:=h t (List.mem_cons_self ..);simp only[List.map_cons,List.sum_cons];rcases List.mem_cons.1 hk with rfl|hk;(·have h2:=wV (U:=U) (B:=B) (V:=V) (W:=W) fun u hu=>h u (List.mem_cons_of_mem _ hu);unfold zw at h2;omega);·have h2:=ih hk fun u hu=>h u (List.mem_cons_of_mem _ hu);omega
def lA(n:Nat):List bg:=(List.range (n+1)).flatMap fun(a:Nat)=>(List.range 8).flatMap fun(m:Nat)=>(List.range 256).map fun(s:Nat)=>((a:Int),(m:Int),(s:Int))
theorem nj {n:Nat} {p:bg} (h1:0≤p.1∧p.1≤n)(h2:0≤p.2.1∧p.2.1<8)(h3:0≤p.2.2∧p.2.2<256):p∈lA n:=by
 unfold lA;refine List.mem_flatMap.2 ⟨p.1.toNat,List.mem_range.2 (by omega),List.mem_flatMap.2 ⟨p.2.1.toNat,List.mem_range.2 (by omega),List.mem_map.2 ⟨p.2.2.toNat,List.mem_range.2 (by omega),?_⟩⟩⟩
 exact Prod.ext (by dsimp only;omega) (Prod.ext (by dsimp only;omega) (by dsimp only;omega))
theorem uu(h:gz rs) {x m:ag} {p:bg} {c:Int} (ht:eN rs out x p m c):c+1000*(ms out p:Int)≤1000*((out.length*256+255:Nat):Int):=by
 induction ht with|start=>have:=sV (out:=out) (p:=(0,0,1));omega| @kg x p q r c ht hr ha ih=>have:=(cd (fq h ht) (h.mode r hr) ha).2.1;have:=(h.cost r hr).2;omega|wN _ ih=>exact ih
end Go.Proofs.YtgpkijnphchkpaaGreat.Rev
namespace Go.Proofs.YtgpkijnphchkpaaGreat.Rev
set_option maxHeartbeats 1000000
def cz:List Int→List Int→Bool|a::x,b::y=>decide (a<b)||(decide (a=b)&&cz x y)|_,_=>false
def fN(c1:Int)(l1:List Int)(c2:Int)(l2:List Int):Bool:=decide (c1<c2∨c1=c2∧(l1.length<l2.length∨l1.length=l2.length∧cz l1 l2=true))
theorem iN: ∀l,cz l l=false|[]=>rfl|a::l=>by simp[cz,iN l]
theorem fm: ∀ {x y z:List Int},cz x y=true→cz y z=true→cz x z=true|[],_,_,h,_=>(by simp[cz]at h)|_::_,[],_,h,_=>(by simp[cz]at h)|_::_,_::_,[],_,h=>(by simp[cz]at h)|a::x,b::y,c::z,h1,h2=>by simp only[cz,Bool.or_eq_true,Bool.and_eq_true,decide_eq_true_eq]at*;rcases h1 with h1|⟨h1,iD⟩<;>rcases h2 with h2|⟨h2,qP⟩;(·exact .inl (by omega));(·exact .inl (by omega));(·exact .inl (by omega));·exact .inr ⟨by omega,fm iD qP⟩
theorem fo: ∀ {x y:List Int},x.length=y.length→x=y∨cz x y=true∨cz y x=true|[],[],_=>.inl rfl|[],_::_,h=>(by simp at h)|_::_,[],h=>(by simp at h)|a::x,b::y,h=>by simp only[cz,Bool.or_eq_true,Bool.and_eq_true,decide_eq_true_eq];rcases Int.lt_trichotomy a b with h1|h1|h1;(·exact .inr (.inl (.inl h1)));(·subst h1;rcases fo (x:=x) (y:=y) (by simpa using h)with h2|h2|h2;(·exact .inl (by rw[h2]));(·exact .inr (.inl (.inr ⟨rfl,h2⟩)));·exact .inr (.inr (.inr ⟨rfl,h2⟩)));·exact .inr (.inr (.inl h1))
theorem fO {c1:Int} {l1:List Int} {c2:Int} {l2:List Int} :fN c1 l1 c2 l2=true↔(c1<c2∨c1=c2∧(l1.length<l2.length∨l1.length=l2.length∧cz l1 l2=true)):=by unfold fN;rw[decide_eq_true_eq]
abbrev Pl:=Int×Int×Int
def Eh(dA out:ag)(p:Pl)(r:Rl):Option Pl:=if r.1=p.2.2∧r.2.2.1.isPrefixOf (dA.drop p.1.toNat)=true∧r.2.2.2.1.isPrefixOf (out.drop p.2.1.toNat)=true then some (p.1+(r.2.2.1.length:Int),p.2.1+(r.2.2.2.1.length:Int),r.2.1)else none
def Ei(acc:Int)(dA out:ag)(p:Pl):Bool:=decide (p.1=dA.length∧p.2.1=out.length)&&bw acc p.2.2
inductive Way(rs:List Rl)(acc:Int)(dA out:ag):Pl→List Int→Int→Prop where|done {p:Pl} (h:Ei acc dA out p=true):Way rs acc dA out p [] 0|step {p q:Pl} {k:Nat} {r:Rl} {l:List Int} {c:Int} (hr:rs[k]?=some r)(h:Eh dA out p r=some q)(hw:Way rs acc dA out q l c):Way rs acc dA out p ((k:Int)::l) (r.2.2.2.2+c)
def BV(rs:List Rl):Prop:= ∀r,r∈rs→r.2.2.1≠ []∨r.1<r.2.1
structure KA(dA out:ag)(p:Pl):Prop where
 i0:0≤p.1∧p.1≤dA.length
 o0:0≤p.2.1∧p.2.1≤out.length
 m0:0≤p.2.2∧p.2.2<8
def mp(dA:ag)(p:Pl):Nat:=(dA.length-p.1.toNat)*8+(7-p.2.2.toNat)
variable {rs:List Rl} {acc:Int} {dA out:ag}
def HB(rs:List Rl)(acc:Int)(dA out:ag)(p:Pl)(pr:au):Prop:= ∃l c,Way rs acc dA out p l c∧pr=(c,(l.length:Int))
structure IU(rs:List Rl)(acc:Int)(dA out:ag)(V:Pl→Option au):Prop where
 min: ∀p,KA dA out p→a7 (HB rs acc dA out p) (V p)
end Go.Proofs.YtgpkijnphchkpaaGreat.Rev
