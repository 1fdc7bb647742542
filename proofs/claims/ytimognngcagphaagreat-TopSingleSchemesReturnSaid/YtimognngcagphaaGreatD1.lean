/- Plain facts: the first of the cheapest routes between an input and a text. Nothing here is trusted; no condition. -/
import Derived.Test.YtimognngcagphaaGreatC4
set_option linter.all false
set_option maxHeartbeats 8000000
set_option maxRecDepth 100000
namespace Go.Proofs.YtimognngcagphaaGreat
section
attribute[local go_sem←]u3 u4 u5
attribute[local go_sem]gH bH ne_eq not_false_eq_true
def pA(s:bR):Bool:=vZ s.1 1 8&&vZ s.2.1 1 (2^s.1.toNat-1)&&decide (s.2.2.length≤64)
def uj(n:Int)(l:List Rl):Nat→Nat→Int×Int|0,_=>((l.length:Int),0)|k+1,i=>if fc n l i=true then uj n l k (i+1)else((i:Int),20)
def dE(s:bR):Int×Int:=if pA s=true then uj s.1 s.2.2 s.2.2.length 0 else(-1,20)
theorem Qm {n:Int} {l:List Rl} : ∀ {k i:Nat},(uj n l k i).2=0→ ∀j,i≤j→j<i+k→fc n l j=true|0,i,_,j,h1,h2=>v6|k+1,i,h,j,h1,h2=>by unfold uj at h;split at h;(·rename_i hr;by_cases hj:j=i;(·subst hj;exact hr);·exact Qm h j v6 v6);·simp at h
theorem AH {n:Int} {l:List Rl} {i:Nat} (h:fc n l i=true): ∃r,l[i]?=some r∧r∉l.take i∧cC n r=true:=by
 unfold fc at h;split at h;(·rename_i r hr;rw[z8,decide_eq_true_eq]at h;exact⟨r,hr,h⟩);·cases h
theorem DM {s:bR} (h:(dE s).2=0):gw s:=by
 unfold dE at h;split at h;(·rename_i hh;simp only[pA,vZ,z8,decide_eq_true_eq]at hh;have bt: ∀j,j<s.2.2.length→fc s.1 s.2.2 j=true:=fun j hj=>Qm h j (x9) v6;refine⟨hh.1.1.1,hh.1.1.2,hh.1.2.1,hh.1.2.2,hh.2,fun r hr=>?_,?_⟩;(·obtain⟨j,hj⟩:=List.getElem?_of_mem hr;obtain⟨r',h1,_,h2⟩:=AH (bt j (z6 hj).1);rw[hj]at h1;injection h1 with h1;rw[h1];exact h2);·refine List.pairwise_iff_getElem.2 fun i j hi hj eQ he=>?_;obtain⟨r,h1,h2,_⟩:=AH (bt j hj);refine h2 ?_;rw[List.getElem?_eq_getElem hj]at h1;injection h1 with h1;rw[←h1,←he];exact x7 (i:=i) (by rw[List.getElem?_take_of_lt eQ];exact List.getElem?_eq_getElem hi))
 ·simp at h
theorem X6: ∀m:Nat,m<9→(2:Int)^m≤256:=by decide
theorem X7(s:bR):PC env 75 [⟨ai,s⟩] (.bG (.int .i64) (.int .i64)) (dE s):=by
 obtain⟨n,a,rs⟩:=s;refine PC.aC (m:=2000) ae aW3 rfl rfl rfl rfl (by kernel_rfl) ?_;intro hx;simp only[Tryz.f75];simp only[go_sem]
 refine⟨_,XR n 1 8,?_⟩;cases h1:vZ n 1 8;(·simp only[go_sem];simp[dE,pA,h1]);·(have hn:1≤n∧n≤8:=by simpa[vZ]using h1);simp only[go_sem];refine⟨⟨v6,v6⟩,?_⟩;rw[Int.one_mul];have bW2:(2:Int)^n.toNat≤256:=X6 _ v6;have bM5:(0:Int)<2^n.toNat:=Int.pow_pos (by decide);refine⟨ak v6 v6,ak v6 v6,_,XR a 1 (2^n.toNat-1),?_⟩;cases h2:vZ a 1 (2^n.toNat-1);(·simp only[go_sem];simp[dE,pA,h1,h2]);·simp only[go_sem];(have aX4:pA (n,a,rs)=decide (rs.length≤64):=by simp[pA,h1,h2]);refine⟨fun g=>?_,fun g=>?_⟩;(·(have:pA (n,a,rs)=false:=by rw[aX4];simp;omega);simp[dE,this]);·(have hh:pA (n,a,rs)=true:=by rw[aX4];simp;omega);(have hE:dE (n,a,rs)=uj n rs rs.length 0:=by simp[dE,hh]);rw[hE];obtain⟨T,hT⟩: ∃T,T=uj n rs rs.length 0:=⟨_,rfl⟩;rw[←hT];refine ah.bz (X:=Nat) (fun(z:Nat)=>[(4,.iv (.int .i64) (z:Int))]) (fun(z:Nat)=>[]) (fun(z:Nat)=>z≤rs.length∧uj n rs (rs.length-z) z=T) (fun(z:Nat)=>rs.length-z) 0 ?_;intro b1 b2 aS bd;simp only[go_sem]at aS bd;subst aS;subst bd;refine⟨v8,?_,?_⟩;(·exact⟨x9,hT.symm⟩);clear hT;intro i⟨hi,hT⟩back;refine av ae ⟨_,aW3,rfl⟩ 2000 _ _ (by kernel_rfl) ?_;simp only[go_sem];refine⟨fun g2=>?_,fun g2=>?_⟩;(·(have e:rs.length-i=(rs.length-(i+1))+1:=by omega);rw[e,uj]at hT;refine⟨_,It (n,a,rs) i v7 v7,?_⟩;dsimp only;cases hr:fc n rs i;(·rw[hr]at hT;simp only[go_sem];rw[←hT];rfl);·rw[hr]at hT;simp only[go_sem];exact⟨ak v6 v6,back _ (i+1) v8 ⟨v6,hT⟩ v6⟩);·have e:rs.length-i=0:=v6;rw[e,uj]at hT;exact hT
theorem DN(s:bR):PC env 27 [⟨ai,s⟩] .bool (decide ((dE s).2=0)):=by
 refine PC.aC (m:=2000) ae bI5 rfl rfl rfl rfl (by kernel_rfl) ?_;intro hx;simp only[Tryz.f27];simp only[go_sem]
 refine⟨_,X7 s,fun _=>?_⟩;rfl
def SK(c:Int):Int:=if 97≤c∧c≤122 then 1 else if 65≤c∧c≤90 then 2 else if 48≤c∧c≤57 then 3 else 0
theorem Qn(c:Int):PC env 130 [⟨.int .u8,c⟩] (.int .i64) (SK c):=by
 refine PC.aC (m:=2000) ae bs7 rfl rfl rfl rfl (by kernel_rfl) ?_;intro hx;simp only[Tryz.f130];simp only[go_sem]
 unfold SK;(repeat' (first|(with_reducible intro _)|(with_reducible apply And.intro)));all_goals(split<;>first|rfl|omega|(split<;>first|rfl|omega|(split<;>first|rfl|omega)))
theorem Qo(u:UInt8):(SK u.toNat=1)↔low u=true:=by
 unfold SK low;rw[decide_eq_true_eq];split;(·rename_i h;exact⟨fun _=>by omega,fun _=>rfl⟩);·rename_i h;split;(·exact⟨fun h=>by simp at h,fun h2=>by omega⟩);·split;(·exact⟨fun h=>by simp at h,fun h2=>by omega⟩);·exact⟨fun h=>by simp at h,fun h2=>by omega⟩
theorem Qp(u:UInt8):(SK u.toNat=0)↔Dv u=false:=by
 unfold SK Dv;rw[decide_eq_false_iff_not];split;(·rename_i h;exact⟨fun h=>by simp at h,fun h2=>absurd v6 h2⟩);·split;(·rename_i h;exact⟨fun h=>by simp at h,fun h2=>absurd v6 h2⟩);·split;(·rename_i h;exact⟨fun h=>by simp at h,fun h2=>absurd v6 h2⟩);·exact⟨fun _=>by omega,fun _=>rfl⟩
theorem DO(s:ax):PC env 92 [⟨.str,s⟩] .bool (s.all low):=by
 refine PC.aC (m:=2000) ae aW8 rfl rfl rfl rfl (by kernel_rfl) ?_;intro hx;simp only[Tryz.f92];simp only[go_sem]
 have hlen:s.length≤9223372036854775807:=hx.1;refine ah.bz (X:=Nat) (fun(i:Nat)=>[(6,.iv (.int .i64) (i:Int)),(3,.any)]) (fun(i:Nat)=>[]) (fun(i:Nat)=>i≤s.length∧(s.take i).all low=true) (fun(i:Nat)=>s.length-i) 0 ?_
 intro b1 b2 aS bd;simp only[go_sem]at aS bd;subst aS;subst bd;refine⟨v8,?_,?_⟩
 (·exact⟨x9,rfl⟩);intro i⟨hi,hb⟩back;refine av ae ⟨_,aW8,rfl⟩ 2000 _ _ (by kernel_rfl) ?_;simp only[go_sem]
 refine⟨fun h=>?_,fun h=>?_⟩;(·obtain⟨x,nz⟩: ∃x,s[i]?=some x:=au v6;refine⟨x5,_,⟨x,nz,rfl⟩,_,Qn x.toNat,fun _=>⟨fun g=>?_,fun g=>?_⟩⟩;(·rw[Is nz (by cases hl:low x with|false=>rfl|true=>exact absurd ((Qo x).2 hl) g)]);·exact⟨ak v6 v6,back _ (i+1) v8 ⟨v6,by rw[xC nz,hb,(Qo x).1 v6];rfl⟩ v6⟩)
 ·rw[wt v6]at hb;rw[hb]
theorem DP(s:ax):PC env 126 [⟨.str,s⟩] .bool (s.all Dv):=by
 refine PC.aC (m:=2000) ae XL rfl rfl rfl rfl (by kernel_rfl) ?_;intro hx;simp only[Tryz.f126];simp only[go_sem]
 have hlen:s.length≤9223372036854775807:=hx.1;refine ah.bz (X:=Nat) (fun(i:Nat)=>[(6,.iv (.int .i64) (i:Int)),(3,.any)]) (fun(i:Nat)=>[]) (fun(i:Nat)=>i≤s.length∧(s.take i).all Dv=true) (fun(i:Nat)=>s.length-i) 0 ?_
 intro b1 b2 aS bd;simp only[go_sem]at aS bd;subst aS;subst bd;refine⟨v8,?_,?_⟩
 (·exact⟨x9,rfl⟩);intro i⟨hi,hb⟩back;refine av ae ⟨_,XL,rfl⟩ 2000 _ _ (by kernel_rfl) ?_;simp only[go_sem]
 refine⟨fun h=>?_,fun h=>?_⟩;(·obtain⟨x,nz⟩: ∃x,s[i]?=some x:=au v6;refine⟨x5,_,⟨x,nz,rfl⟩,_,Qn x.toNat,fun _=>⟨fun g=>?_,fun g=>?_⟩⟩;(·rw[Is nz ((Qp x).1 g)]);·exact⟨ak v6 v6,back _ (i+1) v8 ⟨v6,by rw[xC nz,hb];cases hl:Dv x with|true=>rfl|false=>exact absurd ((Qp x).2 hl) g⟩ v6⟩)
 ·rw[wt v6]at hb;rw[hb]
theorem aN7(n:Int)(r:Rl):PC env 127 [⟨.int .i64,n⟩,⟨ba,r⟩] .bool (cC n r):=by
 obtain⟨f,t,i,o,c⟩:=r;refine PC.aC (m:=2000) ae bs4 rfl rfl rfl rfl (by kernel_rfl) ?_;intro hx;simp only[Tryz.f127];simp only[go_sem]
 have d3:=(DO i).dec;have d4:=(DP o).dec;have hR:cC n (f,t,i,o,c)=(vZ f 0 (n-1)&&vZ t 0 (n-1)&&decide (i.length≤4)&&i.all low&&decide (o.length≤4)&&o.all Dv&&vZ c 0 1000):=rfl
 rw[hR];generalize i.all low=b3 at*;generalize o.all Dv=b4 at*;(repeat' (first|(with_reducible intro _)|(with_reducible apply And.intro)|(with_reducible refine⟨_,d3,?_⟩;try simp only[go_sem])|(with_reducible refine⟨_,d4,?_⟩;try simp only[go_sem])|fail))
 all_goals first|omega|(simp_all[vZ];try omega)
def ixL:List Rl→Rl→Nat→Int|[],_,_=> -1|x::l,r,i=>if r=x then(i:Int)else ixL l r (i+1)
theorem Qq {r:Rl} : ∀ {l:List Rl} {i:Nat},(0≤ixL l r i)↔r∈l|[],i=>(by simp[ixL])|x::l,i=>by unfold ixL;split;(·rename_i h;subst h;simp);·rename_i h;rw[Qq];simp[h]
theorem aN8(l:List Rl)(r:Rl):PC env 145 [⟨.sl ba,l⟩,⟨ba,r⟩] (.int .i64) (ixL l r 0):=by
 refine PC.aC (m:=2000) ae XN rfl rfl rfl rfl (by kernel_rfl) ?_;intro hx;simp only[Tryz.f145];simp only[go_sem]
 have hlen:l.length≤9223372036854775807:=hx.1.1;obtain⟨T,hT⟩: ∃T,T=ixL l r 0:=⟨_,rfl⟩;rw[←hT];refine ah.bz (X:=Nat) (fun(i:Nat)=>[(8,.iv (.int .i64) (i:Int)),(5,.any)]) (fun(i:Nat)=>[]) (fun(i:Nat)=>i≤l.length∧ixL (l.drop i) r i=T) (fun(i:Nat)=>l.length-i) 0 ?_
 intro b1 b2 aS bd;simp only[go_sem]at aS bd;subst aS;subst bd;refine⟨v8,?_,?_⟩
 (·exact⟨x9,hT.symm⟩);clear hT;intro i⟨hi,hT⟩back;refine av ae ⟨_,XN,rfl⟩ 2000 _ _ (by kernel_rfl) ?_;simp only[go_sem]
 refine⟨fun h=>?_,fun h=>?_⟩;(·obtain⟨x,nz⟩: ∃x,l[i]?=some x:=au v6;rw[drop_cons nz,ixL]at hT;refine⟨x5,x,nz,fun g=>?_,fun g=>?_⟩;(·rw[if_pos (by obtain⟨e1,e2,e3,e4,e5⟩:=g;exact Prod.ext e1 (Prod.ext e2 (Prod.ext e3 (Prod.ext e4 e5))))]at hT;exact hT);·rw[if_neg (fun e=>g (by subst e;exact⟨rfl,rfl,rfl,rfl,rfl⟩))]at hT;exact⟨ak v6 v6,back _ (i+1) v8 ⟨v6,hT⟩ v6⟩)
 ·rw[List.drop_of_length_le v6]at hT;exact hT
theorem Oj(l:List Rl)(r:Rl):PC env 128 [⟨.sl ba,l⟩,⟨ba,r⟩] .bool (decide (r∈l)):=by
 refine PC.aC (m:=2000) ae bs5 rfl rfl rfl rfl (by kernel_rfl) ?_;intro hx;simp only[Tryz.f128];simp only[go_sem]
 refine⟨_,aN8 l r,fun _=>?_⟩;exact decide_eq_decide.2 Qq
theorem aN9(s:bR):PC env 83 [⟨ai,s⟩] (.bG (.int .i64) (.int .i64)) (dE s):=by
 obtain⟨n,a,rs⟩:=s;refine PC.aC (m:=2000) ae aW4 rfl rfl rfl rfl (by kernel_rfl) ?_;intro hx;simp only[Tryz.f83];simp only[go_sem]
 (have oU:pA (n,a,rs)=false→((-1:Int),(20:Int))=dE (n,a,rs):=fun h=>by unfold dE;rw[h];rfl);have hd:pA (n,a,rs)=(vZ n 1 8&&vZ a 1 (2^n.toNat-1)&&decide (rs.length≤64)):=rfl
 refine⟨fun g1=>⟨fun g2=>⟨fun g3=>oU ?_,fun g3=>⟨fun g4=>?_,fun g4=>oU ?_⟩⟩,fun g2=>oU ?_⟩,fun g1=>oU ?_⟩;(·rw[hd];simp;omega);(·have bW2:(2:Int)^n.toNat≤256:=X6 _ v6;have bM5:(0:Int)<2^n.toNat:=Int.pow_pos (by decide);refine⟨⟨v6,v6⟩,ak v6 v6,fun g5=>oU ?_,fun g5=>?_⟩;(·rw[hd];simp[vZ];omega);·(have hh:pA (n,a,rs)=true:=by rw[hd];simp[vZ];omega);(have hE:dE (n,a,rs)=uj n rs rs.length 0:=by simp[dE,hh]);rw[hE];obtain⟨T,hT⟩: ∃T,T=uj n rs rs.length 0:=⟨_,rfl⟩;rw[←hT];clear oU hd hh hE;refine ah.bz (X:=Nat) (fun(z:Nat)=>[(35,.iv (.int .i64) (z:Int)),(4,.any),(5,.any)]) (fun(z:Nat)=>[]) (fun(z:Nat)=>z≤rs.length∧uj n rs (rs.length-z) z=T) (fun(z:Nat)=>rs.length-z) 0 ?_;intro b1 b2 aS bd;simp only[go_sem]at aS bd;subst aS;subst bd;refine⟨v8,?_,?_⟩;(·exact⟨x9,hT.symm⟩);clear hT;intro i⟨hi,hT⟩back;refine av ae ⟨_,aW4,rfl⟩ 2000 _ _ (by kernel_rfl) ?_;simp only[go_sem];refine⟨fun g6=>?_,fun g6=>?_⟩;(·obtain⟨r,hr⟩: ∃r,rs[i]?=some r:=au v6;(have e:rs.length-i=(rs.length-(i+1))+1:=by omega);rw[e,uj]at hT;(have vY:fc n rs i=(decide (r∉rs.take i)&&cC n r):=by unfold fc;rw[hr]);rw[vY]at hT;refine⟨x5,r,hr,_,aN7 n r,?_⟩;cases hq:cC n r;(·rw[hq,Bool.and_false]at hT;refine Ql (b':=true) rfl ?_;simp only[go_sem];exact hT);·rw[hq,Bool.and_true]at hT;refine Ql (b':=false) rfl ?_;simp only[go_sem];refine⟨⟨v6,v6⟩,_,Oj (rs.take i) r,?_⟩;simp only[go_sem];refine⟨fun g=>?_,fun g=>?_⟩;(·rw[decide_eq_false (by simpa using g)]at hT;exact hT);·rw[decide_eq_true g]at hT;exact⟨ak v6 v6,back _ (i+1) v8 ⟨v6,hT⟩ v6⟩);·have e:rs.length-i=0:=v6;rw[e,uj]at hT;exact hT)
 (·rw[hd];simp[vZ];omega);(·rw[hd];simp[vZ];omega);·rw[hd];simp[vZ];omega
theorem Qr(s:bR):PC env 32 [⟨ai,s⟩] .bool (decide ((dE s).2=0)):=by
 refine PC.aC (m:=2000) ae bI8 rfl rfl rfl rfl (by kernel_rfl) ?_;intro hx;simp only[Tryz.f32];simp only[go_sem]
 refine⟨_,aN9 s,fun _=>?_⟩;rfl
def X8(s:ax):Bool:=decide (s.length≤40)&&s.all low
def Lk(s:ax):Bool:=decide (1≤s.length∧s.length≤20)&&s.all Dv
theorem SL(s:ax):PC env 40 [⟨.str,s⟩] .bool (X8 s):=by
 refine PC.aC (m:=2000) ae bJ1 rfl rfl rfl rfl (by kernel_rfl) ?_;intro hx;simp only[Tryz.f40];simp only[go_sem]
 have d:=(DO s).dec;unfold X8;generalize s.all low=b at*;(repeat' (first|(with_reducible intro _)|(with_reducible apply And.intro)|(with_reducible refine⟨_,d,?_⟩;try simp only[go_sem])|fail))
 all_goals first|omega|(simp_all;try omega)
theorem bv4(s:ax):PC env 82 [⟨.str,s⟩] .bool (Lk s):=by
 refine PC.aC (m:=2000) ae bK6 rfl rfl rfl rfl (by kernel_rfl) ?_;intro hx;simp only[Tryz.f82];simp only[go_sem]
 have d:=(DP s).dec;unfold Lk;generalize s.all Dv=b at*;(repeat' (first|(with_reducible intro _)|(with_reducible apply And.intro)|(with_reducible refine⟨_,d,?_⟩;try simp only[go_sem])|fail))
 all_goals first|omega|(simp_all;try omega)
theorem Ol {s:bR} (hs:gw s) {i:Nat} (hi:i<s.2.2.length):fc s.1 s.2.2 i=true:=by
 obtain⟨r,hr⟩: ∃r,s.2.2[i]?=some r:=au hi;unfold fc;rw[hr];dsimp only;rw[z8,decide_eq_true_eq];refine⟨fun hm=>?_,hs.right r (x7 hr)⟩
 obtain⟨j,hj⟩:=List.getElem?_of_mem hm;(have MO:j<i:=by have:=(z6 hj).1;rw[List.length_take]at this;omega);rw[List.getElem?_take_of_lt MO]at hj
 obtain⟨h1,e1⟩:=z6 hj;obtain⟨h2,e2⟩:=z6 hr;exact List.pairwise_iff_getElem.1 hs.nodup j i h1 h2 MO (by rw[e1,e2])
theorem Ll {n:Int} {l:List Rl} : ∀ {k i:Nat},(∀j,i≤j→j<i+k→fc n l j=true)→uj n l k i=((l.length:Int),0)|0,i,_=>rfl|k+1,i,h=>by unfold uj;rw[if_pos (h i (x8) v6)];exact Ll fun j h1 h2=>h j v6 v6
theorem aO0 {s:bR} (hs:gw s):pA s=true:=by simp only[pA,vZ,z8,decide_eq_true_eq];exact⟨⟨⟨hs.n1,hs.n8⟩,hs.a1,hs.a2⟩,hs.len⟩
theorem Lm {s:bR} (hs:gw s):dE s=((s.2.2.length:Int),0):=by unfold dE;rw[if_pos (aO0 hs)];exact Ll fun j _ h=>Ol hs v6
end
end Go.Proofs.YtimognngcagphaaGreat
namespace Go.Proofs.YtimognngcagphaaGreat.Rev
abbrev ax:=List UInt8
abbrev Rl:=Int×Int×ax×ax×Int
abbrev cV:=Int×Int×Int
abbrev bf:=Int×Int
def gL(s m:Int):Bool:=decide (s.toNat/2^m.toNat%2=1)
def pB(m:Int):Int:=((2^m.toNat:Nat):Int)
def bD(out:ax)(p:cV)(r:Rl):Option cV:=if r.1=p.2.1∧r.2.2.2.1.isPrefixOf (out.drop p.1.toNat)=true then if r.2.2.2.1≠ []then some (p.1+(r.2.2.2.1.length:Int),r.2.1,pB r.2.1)else if gL p.2.2 r.2.1=false then some (p.1,r.2.1,p.2.2+pB r.2.1)else none else none
structure uk(rs:List Rl):Prop where
 mode: ∀r,r∈rs→0≤r.2.1∧r.2.1<8
 cost: ∀r,r∈rs→0≤r.2.2.2.2∧r.2.2.2.2≤1000
 uJ: ∀r,r∈rs→r.2.2.1.length≤4
structure GO(out:ax)(p:cV):Prop where
 at0:0≤p.1
 at1:p.1≤out.length
 seen:0≤p.2.2∧p.2.2<256
def ms(out:ax)(p:cV):Nat:=(out.length-p.1.toNat)*256+(255-p.2.2.toNat)
theorem Qs(m:Int):1≤pB m:=by unfold pB;have:0<2^m.toNat:=Nat.pos_of_ne_zero (by simp);omega
theorem X9 {m:Int} (h:m<8):pB m≤128:=by unfold pB;have h1:m.toNat≤7:=v6;have:2^m.toNat≤2^7:=Nat.pow_le_pow_right (by decide) h1;(have e:2^7=128:=by decide);omega
theorem Om {s:Nat} (hs:s<256): ∀m:Nat,m<8→s/2^m%2=0→s+2^m<256:=by
 intro m hm h;have h8:m=0∨m=1∨m=2∨m=3∨m=4∨m=5∨m=6∨m=7:=v6;rcases h8 with rfl|rfl|rfl|rfl|rfl|rfl|rfl|rfl<;>simp only[Nat.reducePow]at h⊢ <;>omega
theorem eF {out:ax} {p q:cV} {r:Rl} (hp:GO out p)(hm:0≤r.2.1∧r.2.1<8)(h:bD out p r=some q):GO out q∧ms out q<ms out p∧q.2.1=r.2.1:=by
 obtain⟨a0,a1,s0,s1⟩:=hp;unfold bD at h;split at h;(case isFalse=>cases h);rename_i h1;obtain⟨h1,h2⟩:=h1;split at h;(·rename_i h3;injection h with h;subst h;have hb:=Qs r.2.1;have bd:=X9 hm.2;have jF:=List.isPrefixOf_iff_prefix.1 h2;have hl:=jF.length_le;rw[List.length_drop]at hl;have bS:0<r.2.2.2.1.length:=List.length_pos_iff.2 h3;refine⟨⟨v7,v7,v7,v7⟩,?_,rfl⟩;unfold ms;dsimp only;(have e:(p.1+(r.2.2.2.1.length:Int)).toNat=p.1.toNat+r.2.2.2.1.length:=by omega);rw[e];(have e2:out.length-p.1.toNat=(out.length-(p.1.toNat+r.2.2.2.1.length))+r.2.2.2.1.length:=by omega);rw[e2,Nat.add_mul];have:1*256≤r.2.2.2.1.length*256:=Nat.mul_le_mul_right _ bS;omega)
 ·split at h;(·rename_i h3 h4;injection h with h;subst h;have hb:=Qs r.2.1;unfold gL at h4;have h4':=of_decide_eq_false h4;have cu:=Om (s:=p.2.2.toNat) v6 r.2.1.toNat v6 v6;have FR:pB r.2.1=((2^r.2.1.toNat:Nat):Int):=rfl;refine⟨⟨a0,a1,v7,v7⟩,?_,rfl⟩;unfold ms;dsimp only;omega);·cases h
def jy(acc:Int)(out:ax)(p:cV):Bool:=decide (p.1=out.length)&&gL acc p.2.1
inductive Path(rs:List Rl)(acc:Int)(out:ax):cV→ax→Int→Prop where|done {p:cV} (h:jy acc out p=true):Path rs acc out p [] 0|step {p q:cV} {r:Rl} {x:ax} {c:Int} (hr:r∈rs)(h:bD out p r=some q)(hp:Path rs acc out q x c):Path rs acc out p (r.2.2.1++x) (r.2.2.2.2+c)
inductive oB(rs:List Rl)(out:ax):ax→cV→ax→Int→Prop where|start:oB rs out [] (0,0,1) [] 0|Bc {x:ax} {p q:cV} {r:Rl} {c:Int} (ht:oB rs out x p [] c)(hr:r∈rs)(h:bD out p r=some q):oB rs out x q r.2.2.1 (c+r.2.2.2.2)|Ya {x:ax} {p:cV} {a:UInt8} {m:ax} {c:Int} (ht:oB rs out x p (a::m) c):oB rs out (x++ [a]) p m c
def Fh(rs:List Rl)(acc:Int)(out:ax)(x:ax)(c:Int):Prop:=Path rs acc out (0,0,1) x c
variable {rs:List Rl} {acc:Int} {out:ax}
theorem Ln(out:ax):GO out (0,0,1):=⟨by decide,by show(0:Int)≤(out.length:Int);omega,by decide,by decide⟩
theorem qK(h:uk rs) {x m:ax} {p:cV} {c:Int} (ht:oB rs out x p m c):GO out p:=by induction ht with|start=>exact Ln out|Bc _ hr ha ih=>exact(eF ih (h.mode _ hr) ha).1|Ya _ ih=>exact ih
theorem Lo(h:uk rs) {x m:ax} {p:cV} {c:Int} (ht:oB rs out x p m c):0≤c:=by induction ht with|start=>exact Int.le_refl _|Bc _ hr _ ih=>have:=(h.cost _ hr).1;omega|Ya _ ih=>exact ih
theorem zo(h:uk rs) {p:cV} {x:ax} {c:Int} (hp:Path rs acc out p x c):0≤c:=by induction hp with|done=>exact Int.le_refl _|step hr _ _ ih=>have:=(h.cost _ hr).1;omega
theorem Lp {x m:ax} {p:cV} {c:Int} (ht:oB rs out x p m c): ∀ {y:ax} {d:Int},Path rs acc out p y d→Fh rs acc out (x++m++y) (c+d):=by
 induction ht with|start=>intro y d h;simpa[Fh]using h| @Bc x p q r c _ hr ha ih=>intro y d h;have:=ih (Path.step hr ha h);rw[List.append_nil]at this;rw[List.append_assoc,Int.add_assoc];exact this| @Ya x p a m c _ ih=>intro y d h;have:=ih h;simpa using this
theorem aO1 {x:ax} {p:cV} : ∀ {m:ax} {c:Int},oB rs out x p m c→oB rs out (x++m) p [] c|m,c,h=>by induction m generalizing x with|nil=>simpa using h|cons a m ih=>have:=ih h.Ya;simpa using this
theorem Yb {z x:ax} {p:cV} {c d:Int} (hp:Path rs acc out p z d): ∀ {x0:ax},oB rs out x0 p [] c→ ∀ {x1 y:ax},z=x1++y→ ∃q m e f y',oB rs out (x0++x1) q m e∧Path rs acc out q y' f∧y=m++y'∧e+f=c+d:=by
 induction hp generalizing c with| @done p h=>intro x0 ht x1 y hz;obtain⟨rfl,rfl⟩:=List.append_eq_nil_iff.1 hz.symm;exact⟨p,[],c,0,[],by simpa using ht,.done h,rfl,rfl⟩| @step p q r x c' hr ha _ ih=>intro x0 ht x1 y hz;rename_i hq;have Rr:=oB.Bc ht hr ha;rcases List.append_eq_append_iff.1 hz with⟨t,h1,h2⟩|⟨t,h1,h2⟩;(·have:=ih (aO1 Rr) h2;obtain⟨q',m,e,f,y',k1,k2,k3,k4⟩:=this;refine⟨q',m,e,f,y',?_,k2,k3,v6⟩;rw[h1,←List.append_assoc];exact k1);·(have hth: ∀(x1 t:ax)(x0:ax),oB rs out x0 q (x1++t) (c+r.2.2.2.2)→oB rs out (x0++x1) q t (c+r.2.2.2.2):=by intro x1;induction x1 with|nil=>intro t x0 h;simpa using h|cons a x1 ih2=>intro t x0 h;have:=ih2 t (x0++ [a]) h.Ya;simpa using this);rw[h1]at Rr;exact⟨q,t,c+r.2.2.2.2,c',x,hth x1 t x0 Rr,hq,h2,v6⟩
theorem ID {x y:ax} {c:Int} (h:Fh rs acc out (x++y) c): ∃q m e f y',oB rs out x q m e∧Path rs acc out q y' f∧y=m++y'∧e+f=c:=by
 obtain⟨q,m,e,f,y',h1,h2,h3,h4⟩:=Yb (x:=x) h oB.start (x1:=x) (y:=y) rfl;exact⟨q,m,e,f,y',by simpa using h1,h2,h3,v6⟩
end Go.Proofs.YtimognngcagphaaGreat.Rev
namespace Go.Proofs.YtimognngcagphaaGreat.Rev
def gy(p q:bf):Bool:=decide (p.1<q.1∨p.1=q.1∧p.2<q.2)
def nY(p q:bf):bf:=(p.1+q.1,p.2+q.2)
theorem tQ {p q:bf} :gy p q=true↔(p.1<q.1∨p.1=q.1∧p.2<q.2):=by simp[gy]
theorem dm {p q:bf} :gy p q=false↔ ¬(p.1<q.1∨p.1=q.1∧p.2<q.2):=by simp[gy]
theorem kU(p:bf):gy p p=false:=by rw[dm];omega
def cq(S:bf→Prop)(o:Option bf):Prop:=match o with|none=> ∀p,¬S p|some m=>S m∧ ∀p,S p→gy p m=false
theorem sE {S:bf→Prop} {a b:Option bf} (ha:cq S a)(hb:cq S b):a=b:=by
 cases a with|none=>(cases b with|none=>rfl|some m=>exact absurd hb.1 (ha m))|some m=>cases b with|none=>exact absurd ha.1 (hb m)|some k=>have h1:=dm.1 (ha.2 k hb.1);have h2:=dm.1 (hb.2 m ha.1);congr 1;exact Prod.ext v6 v6
theorem jz {S T:bf→Prop} {o:Option bf} (h: ∀p,S p↔T p)(ho:cq S o):cq T o:=by
 cases o with|none=>exact fun p hp=>ho p ((h p).2 hp)|some m=>exact⟨(h m).1 ho.1,fun p hp=>ho.2 p ((h p).2 hp)⟩
def better(lB g:Option bf):Option bf:=match g,lB with|none,b=>b|some x,none=>some x|some x,some b=>if gy x b=true then some x else some b
theorem DQ {S T:bf→Prop} {a b:Option bf} (ha:cq S a)(hb:cq T b):cq (fun p=>S p∨T p) (better a b):=by
 cases b with|none=>(cases a with|none=>exact fun p hp=>hp.elim (ha p) (hb p)|some m=>exact⟨.inl ha.1,fun p hp=>hp.elim (ha.2 p) (fun h=>absurd h (hb p))⟩)|some k=>cases a with|none=>exact⟨.inr hb.1,fun p hp=>hp.elim (fun h=>absurd h (ha p)) (hb.2 p)⟩|some m=>unfold better;dsimp only;split;(·rename_i h;rw[tQ]at h;refine⟨.inr hb.1,fun p hp=>?_⟩;rcases hp with h1|h1;(·have:=dm.1 (ha.2 p h1);rw[dm];omega);·exact hb.2 p h1);·rename_i h;have h:=dm.1 (Bool.eq_false_iff.2 h);refine⟨.inl ha.1,fun p hp=>?_⟩;rcases hp with h1|h1;(·exact ha.2 p h1);·have:=dm.1 (hb.2 p h1);rw[dm];omega
theorem xS {α:Type} {f:α→Option bf} {S:α→bf→Prop} : ∀(l:List α) {T:bf→Prop} {b:Option bf},cq T b→(∀r,r∈l→cq (S r) (f r))→cq (fun p=>T p∨ ∃r,r∈l∧S r p) (l.foldl (fun b r=>better b (f r)) b)|[],T,b,hb,_=>jz (fun p=>by simp) hb|r::l,T,b,hb,h=>by rw[List.foldl_cons];refine jz (fun p=>?_) (xS l (DQ hb (h r (y8 ..))) (fun q hq=>h q (y7 _ hq)));constructor;(·rintro((h1|h1)|⟨q,h1,h2⟩);(·exact .inl h1);(·exact .inr ⟨r,y8 ..,h1⟩);·exact .inr ⟨q,y7 _ h1,h2⟩);·rintro(h1|⟨q,h1,h2⟩);(·exact .inl (.inl h1));·rcases wl h1 with rfl|h1;(·exact .inl (.inr h2));·exact .inr ⟨q,h1,h2⟩
def Lq(g:Option bf)(p:bf):Option bf:=match g with|none=>none|some x=>some (nY x p)
theorem Lr {S:bf→Prop} {g:Option bf} (h:cq S g)(p:bf):cq (fun q=> ∃s,S s∧q=nY s p) (Lq g p):=by
 cases g with|none=>rintro q⟨s,hs,_⟩;exact h s hs|some m=>refine⟨⟨m,h.1,rfl⟩,?_⟩;rintro q⟨s,hs,rfl⟩;have:=dm.1 (h.2 s hs);rw[dm];unfold nY;dsimp only;omega
def Bd(out:ax)(goal:cV→Int→Option bf)(p:cV)(L:Int)(r:Rl):Option bf:=match bD out p r with|none=>none|some q=>Lq (goal q (L-(r.2.2.1.length:Int))) (r.2.2.2.2,(r.2.2.1.length:Int))
def AI(rs:List Rl)(acc:Int)(out:ax):Nat→cV→Int→Option bf|0,_,_=>none|n+1,p,L=>if L<0 then none else if jy acc out p=true then some (0,0)else rs.foldl (fun b r=>better b (Bd out (AI rs acc out n) p L r)) none
def Qt(rs:List Rl)(acc:Int)(out:ax)(p:cV)(L:Int)(pr:bf):Prop:= ∃x c,Path rs acc out p x c∧(x.length:Int)≤L∧pr=(c,(x.length:Int))
variable {rs:List Rl} {acc:Int} {out:ax}
theorem Ls(h:uk rs): ∀(n:Nat)(p:cV)(L:Int),GO out p→ms out p<n→cq (Qt rs acc out p L) (AI rs acc out n p L):=by
 intro n;induction n with|zero=>intro _ _ _ hn;exact absurd hn (Nat.not_lt_zero _)|succ n ih=>intro p L hp hn;rw[AI];split;(·rintro pr⟨x,c,_,hl,_⟩;omega);·rename_i hL;split;(·rename_i he;refine⟨⟨[],0,.done he,by simp;omega,by simp⟩,?_⟩;rintro pr⟨x,c,Rq,hl,rfl⟩;have:=zo h Rq;rw[dm];dsimp only;omega);·rename_i he;(have hv: ∀r,r∈rs→cq (fun pr=> ∃q,bD out p r=some q∧ ∃s,Qt rs acc out q (L-(r.2.2.1.length:Int)) s∧pr=nY s (r.2.2.2.2,(r.2.2.1.length:Int))) (Bd out (AI rs acc out n) p L r):=fun r hr=>by unfold Bd;cases ha:bD out p r with|none=>rintro pr⟨q,hq,_⟩;cases hq|some q=>obtain⟨k1,k2,_⟩:=eF hp (h.mode r hr) ha;refine jz (fun pr=>?_) (Lr (ih q (L-(r.2.2.1.length:Int)) k1 v6) (r.2.2.2.2,(r.2.2.1.length:Int)));constructor;(·intro hh;exact⟨q,rfl,hh⟩);·rintro⟨q',Z3,hh⟩;injection Z3 with Z3;subst Z3;exact hh);have hf:=xS rs (T:=fun _=>False) (b:=none) (fun p hp=>hp) hv;refine jz (fun pr=>?_) hf;constructor;(·rintro(h1|⟨r,hr,q,ha,s,⟨x,c,Rq,hl,rfl⟩,rfl⟩);(·exact h1.elim);·refine⟨r.2.2.1++x,r.2.2.2.2+c,.step hr ha Rq,by rw[y9];omega,?_⟩;unfold nY;rw[y9];refine Prod.ext ?_ ?_<;>dsimp only<;>omega);·rintro⟨x,c,Rq,hl,rfl⟩;cases Rq with|done hd=>exact absurd hd he| @step _ q r x c hr ha Rq=>rw[y9]at hl;refine .inr ⟨r,hr,q,ha,(c,(x.length:Int)),⟨x,c,Rq,v6,rfl⟩,?_⟩;unfold nY;rw[y9];refine Prod.ext ?_ ?_<;>dsimp only<;>omega
def jW(rs:List Rl)(acc:Int)(out:ax)(p:cV)(L:Int):Option bf:=AI rs acc out (ms out p+1) p L
theorem zp(h:uk rs) {p:cV} (L:Int)(hp:GO out p):cq (Qt rs acc out p L) (jW rs acc out p L):=Ls h _ p L hp (Nat.lt_succ_self _)
theorem aO2(h:uk rs) {n:Nat} {p:cV} (L:Int)(hp:GO out p)(hn:ms out p<n):AI rs acc out n p L=jW rs acc out p L:=sE (Ls h n p L hp hn) (zp h L hp)
theorem SM {g g':cV→Int→Option bf} {p:cV} {L:Int} {r:Rl} (h: ∀q,bD out p r=some q→g q (L-(r.2.2.1.length:Int))=g' q (L-(r.2.2.1.length:Int))):Bd out g p L r=Bd out g' p L r:=by
 unfold Bd;cases ha:bD out p r with|none=>rfl|some q=>dsimp only;rw[h q ha]
theorem fold_congr {α β:Type} {f g:β→α→β} : ∀(l:List α)(b:β),(∀b r,r∈l→f b r=g b r)→l.foldl f b=l.foldl g b|[],_,_=>rfl|r::l,b,h=>by rw[List.foldl_cons,List.foldl_cons,h b r (y8 ..)];exact fold_congr l _ fun b q hq=>h b q (y7 _ hq)
theorem SN(h:uk rs) {p:cV} (L:Int)(hp:GO out p):jW rs acc out p L=if L<0 then none else if jy acc out p=true then some (0,0)else rs.foldl (fun b r=>better b (Bd out (jW rs acc out) p L r)) none:=by
 (conv=>lhs;unfold jW;rw[AI]);split;(·rfl);·split;(·rfl);·refine fold_congr rs none fun b r hr=>?_;rw[SM (g:=AI rs acc out (ms out p)) (g':=jW rs acc out) fun q ha=>?_];obtain⟨k1,k2,_⟩:=eF hp (h.mode r hr) ha;exact aO2 h _ k1 k2
end Go.Proofs.YtimognngcagphaaGreat.Rev
namespace Go.Proofs.YtimognngcagphaaGreat.Rev
abbrev Thread:=cV×ax
structure qL(rs:List Rl)(out x:ax)(E:List (Thread×Int)):Prop where
 sound: ∀p m c,((p,m),c)∈E→oB rs out x p m c
 all: ∀p m c,oB rs out x p m c→ ∃c',c'≤c∧((p,m),c')∈E
def jX(rs:List Rl)(acc:Int)(out x:ax)(pr:bf):Prop:= ∃y c,Fh rs acc out (x++y) c∧(x++y).length≤40∧pr=(c,((x++y).length:Int))
def vG(rs:List Rl)(acc:Int)(out x:ax)(pr:bf):Prop:= ∃c,Fh rs acc out x c∧pr=(c,(x.length:Int))
variable {rs:List Rl} {acc:Int} {out:ax}
def xT(rs:List Rl)(acc:Int)(out x:ax)(t:Thread×Int):Option bf:=Lq (jW rs acc out t.1.1 (40-(x.length:Int)-(t.1.2.length:Int))) (t.2,(x.length:Int)+(t.1.2.length:Int))
def tR(rs:List Rl)(acc:Int)(out x:ax)(t:Thread×Int)(pr:bf):Prop:= ∃s,Qt rs acc out t.1.1 (40-(x.length:Int)-(t.1.2.length:Int)) s∧pr=nY s (t.2,(x.length:Int)+(t.1.2.length:Int))
theorem DR(h:uk rs) {x:ax} {t:Thread×Int} (ht:GO out t.1.1):cq (tR rs acc out x t) (xT rs acc out x t):=Lr (zp h _ ht) _
theorem uA(h:uk rs) {x:ax} {E:List (Thread×Int)} (hE:qL rs out x E) {o:Option bf} (ho:cq (fun pr=> ∃t,t∈E∧tR rs acc out x t pr) o):cq (jX rs acc out x) o:=by
 cases o with|none=>rintro pr⟨y,c,hi,hl,rfl⟩;obtain⟨q,m,e,f,y',h1,h2,rfl,rfl⟩:=ID hi;obtain⟨e',he,hm⟩:=hE.all q m e h1;rw[y9,y9]at hl;exact ho _ ⟨((q,m),e'),hm,_,⟨y',f,h2,v7,rfl⟩,rfl⟩|some k=>refine⟨?_,?_⟩;(·obtain⟨⟨⟨p,m⟩,c⟩,ht,s,⟨y,f,hp,hl,rfl⟩,he⟩:=ho.1;have hth:=hE.sound p m c ht;have:=Lp hth hp;refine⟨m++y,c+f,by rwa[←List.append_assoc],?_,?_⟩;(·dsimp only at hl;rw[y9,y9];omega);·rw[he];unfold nY;dsimp only;rw[y9,y9];refine Prod.ext ?_ ?_<;>dsimp only<;>omega);·rintro pr⟨y,c,hi,hl,rfl⟩;obtain⟨q,m,e,f,y',h1,h2,rfl,rfl⟩:=ID hi;obtain⟨e',he,hm⟩:=hE.all q m e h1;rw[y9,y9]at hl;have:=dm.1 (ho.2 _ ⟨((q,m),e'),hm,_,⟨y',f,h2,v7,rfl⟩,rfl⟩);rw[dm];unfold nY at this;dsimp only at this⊢;rw[y9,y9];omega
def Lt(acc:Int)(out x:ax)(t:Thread×Int):Option bf:=if t.1.2=[]∧jy acc out t.1.1=true then some (t.2,(x.length:Int))else none
def Yc(acc:Int)(out x:ax)(t:Thread×Int)(pr:bf):Prop:=(t.1.2=[]∧jy acc out t.1.1=true)∧pr=(t.2,(x.length:Int))
theorem xU {x:ax} {t:Thread×Int} :cq (Yc acc out x t) (Lt acc out x t):=by
 unfold Lt;split;(·rename_i h;exact⟨⟨h,rfl⟩,fun p hp=>by rw[hp.2];exact kU _⟩);·rename_i h;exact fun p hp=>h hp.1
theorem Fi {p:cV} {y:ax} {c:Int} (hp:Path rs acc out p y c): ∀ {x:ax} {e:Int},oB rs out x p [] e→y=[]→ ∃q f,oB rs out x q [] f∧jy acc out q=true∧f=e+c:=by
 induction hp with| @done p h=>intro x e ht _;exact⟨p,e,ht,h,v6⟩| @step p q r y c hr ha _ ih=>intro x e ht hy;obtain⟨h1,h2⟩:=List.append_eq_nil_iff.1 hy;have h3:=oB.Bc ht hr ha;rw[h1]at h3;obtain⟨q',f,k1,k2,k3⟩:=ih h3 h2;exact⟨q',f,k1,k2,v6⟩
theorem Fj {x:ax} {E:List (Thread×Int)} (hE:qL rs out x E) {o:Option bf} (ho:cq (fun pr=> ∃t,t∈E∧Yc acc out x t pr) o):cq (vG rs acc out x) o:=by
 (have down: ∀c,Fh rs acc out x c→ ∃q f,oB rs out x q [] f∧jy acc out q=true∧f=c:=fun c hi=>by(have zZ:Fh rs acc out (x++ []) c:=by simpa using hi);obtain⟨q,m,e,f,y',h1,h2,h3,h4⟩:=ID zZ;obtain⟨rfl,rfl⟩:=List.append_eq_nil_iff.1 h3.symm;obtain⟨q',f',k1,k2,k3⟩:=Fi h2 h1 rfl;exact⟨q',f',k1,k2,v6⟩)
 (have up: ∀q f,oB rs out x q [] f→jy acc out q=true→Fh rs acc out x f:=fun q f h1 h2=>by have:=Lp h1 (Path.done h2);simpa using this);cases o with|none=>rintro pr⟨c,hi,rfl⟩;obtain⟨q,f,h1,h2,rfl⟩:=down c hi;obtain⟨e',he,hm⟩:=hE.all q [] _ h1;exact ho _ ⟨((q,[]),e'),hm,⟨rfl,h2⟩,rfl⟩|some k=>refine⟨?_,?_⟩;(·obtain⟨⟨⟨p,m⟩,c⟩,ht,⟨h1,h2⟩,he⟩:=ho.1;dsimp only at h1 h2 he;subst h1;exact⟨c,up p c (hE.sound p [] c ht) h2,he⟩);·rintro pr⟨c,hi,rfl⟩;obtain⟨q,f,h1,h2,rfl⟩:=down c hi;obtain⟨e',he,hm⟩:=hE.all q [] _ h1;have:=dm.1 (ho.2 _ ⟨((q,[]),e'),hm,⟨rfl,h2⟩,rfl⟩);rw[dm];dsimp only at this⊢;omega
structure Qu(rs:List Rl)(out x:ax)(B:cV→ax→Int→Prop)(V:Thread→Option Int)(todo:List Thread):Prop where
 sound: ∀p m c,V (p,m)=some c→oB rs out x p m c
 base: ∀p m c,B p m c→ ∃c',c'≤c∧V (p,m)=some c'
 step: ∀p c,V (p,[])=some c→(p,[])∈todo∨ ∀r q,r∈rs→bD out p r=some q→ ∃c',c'≤c+r.2.2.2.2∧V (q,r.2.2.1)=some c'
 bY7: ∀t,t∈todo→t.2=[]∧ ∃c,V t=some c
def Comes(rs:List Rl)(out x:ax)(B:cV→ax→Int→Prop):Prop:= ∀p m c,oB rs out x p m c→B p m c∨ ∃p0 c0 r,oB rs out x p0 [] c0∧r∈rs∧bD out p0 r=some p∧m=r.2.2.1∧c=c0+r.2.2.2.2
theorem Lu:Comes rs out [] (fun p m c=>p=(0,0,1)∧m=[]∧c=0):=by
 intro p m c h;generalize hx:([]:ax)=x at h;cases h with|start=>exact .inl ⟨rfl,rfl,rfl⟩| @Bc _ p0 _ r c0 ht hr ha=>subst hx;exact .inr ⟨p0,c0,r,ht,hr,ha,rfl,rfl⟩|Ya=>exact absurd hx (by simp)
theorem GQ {x:ax} {a:UInt8} :Comes rs out (x++ [a]) (fun p m c=>oB rs out x p (a::m) c):=by
 intro p m c h;generalize hx:x++ [a]=z at h;cases h with|start=>exact absurd hx (by simp)| @Bc _ p0 _ r c0 ht hr ha=>subst hx;exact .inr ⟨p0,c0,r,ht,hr,ha,rfl,rfl⟩| @Ya x' _ a' _ _ ht=>obtain⟨h1,h2⟩:=List.append_inj' hx rfl;injection h2 with h2;subst h1 h2;exact .inl ht
theorem Qv {p:cV} :ms out p≤out.length*256+255:=by unfold ms;omega
theorem Yd(h:uk rs) {x:ax} {B:cV→ax→Int→Prop} (hB:Comes rs out x B) {V:Thread→Option Int} (hI:Qu rs out x B V []): ∀(n:Nat)(p:cV)(m:ax)(c:Int),out.length*256+255-ms out p≤n→oB rs out x p m c→ ∃c',c'≤c∧V (p,m)=some c':=by
 intro n;induction n with|zero=>intro p m c hn ht;rcases hB p m c ht with hb|⟨p0,c0,r,h1,h2,h3,rfl,rfl⟩;(·exact hI.base p m c hb);(·exfalso;have h4:=(eF (qK h h1) (h.mode r h2) h3).2.1;have:=Qv (out:=out) (p:=p0);omega)|succ n ih=>intro p m c hn ht;rcases hB p m c ht with hb|⟨p0,c0,r,h1,h2,h3,rfl,rfl⟩;(·exact hI.base p m c hb);·have h4:=(eF (qK h h1) (h.mode r h2) h3).2.1;have:=Qv (out:=out) (p:=p0);obtain⟨c',jN,hv⟩:=ih p0 [] c0 v6 h1;rcases hI.step p0 c' hv with hm|hs;(·exact absurd hm (wn));·obtain⟨d,hd,ML⟩:=hs r p h2 h3;exact⟨d,v6,ML⟩
theorem SO(h:uk rs) {x:ax} {B:cV→ax→Int→Prop} (hB:Comes rs out x B) {V:Thread→Option Int} (hI:Qu rs out x B V []) {E:List (Thread×Int)} (hE: ∀t c,(t,c)∈E↔V t=some c):qL rs out x E:=by
 refine⟨fun p m c hm=>hI.sound p m c ((hE _ _).1 hm),fun p m c ht=>?_⟩;obtain⟨c',h1,h2⟩:=Yd h hB hI _ p m c (x8) ht;exact⟨c',h1,(hE _ _).2 h2⟩
end Go.Proofs.YtimognngcagphaaGreat.Rev
namespace Go.Proofs.YtimognngcagphaaGreat.Rev
def bytesLess:ax→ax→Bool|_,[]=>false|[],_::_=>true|a::x,b::y=>decide (a<b)||(a==b&&bytesLess x y)
theorem bM6 {a b:UInt8} :a<b↔a.toNat<b.toNat:=UInt8.lt_iff_toNat_lt
theorem qM {a b:UInt8} {x y:ax} :bytesLess (a::x) (b::y)=true↔(a.toNat<b.toNat∨a=b∧bytesLess x y=true):=by simp[bytesLess,bM6]
theorem sF: ∀x:ax,bytesLess x x=false|[]=>rfl|a::x=>by rw[Bool.eq_false_iff];intro h;rcases qM.1 h with h|h;(·omega);·rw[sF x]at h;cases h.2
theorem sG: ∀ {x y z:ax},bytesLess x y=true→bytesLess y z=true→bytesLess x z=true|x,y,[],_,h=>(by cases y<;>cases h)|x,[],c::z,h,_=>(by cases x<;>cases h)|[],b::y,c::z,_,_=>rfl|a::x,b::y,c::z,h,h'=>by rw[qM]at h h'⊢;rcases h with h|⟨rfl,h⟩<;>rcases h' with h'|⟨rfl,h'⟩;(·exact .inl v6);(·exact .inl h);(·exact .inl h');·exact .inr ⟨rfl,sG h h'⟩
theorem sH: ∀ {x y:ax},x≠y→bytesLess x y=false→bytesLess y x=true|[],[],h,_=>absurd rfl h|[],b::y,_,h=>(by cases h)|a::x,[],_,_=>rfl|a::x,b::y,h,h'=>by rw[qM];have h2:=fun hh=>Bool.eq_false_iff.1 h' (qM.2 hh);by_cases e:a=b;(·subst e;refine .inr ⟨rfl,sH (fun e=>h (by rw[e])) (Bool.eq_false_iff.2 fun hh=>h2 (.inr ⟨rfl,hh⟩))⟩);·have: ¬a.toNat=b.toNat:=fun e'=>e (UInt8.toNat_inj.1 e');have: ¬a.toNat<b.toNat:=fun e'=>h2 (.inl e');exact .inl v6
theorem GR: ∀ {x a z:ax},bytesLess x a=true→a <+: z→bytesLess x z=true|x,[],z,h,_=>(by cases x<;>cases h)|x,b::a,[],_,h=>(by obtain⟨t,ht⟩:=h;cases ht)|[],b::a,c::z,_,_=>rfl|d::x,b::a,c::z,h,h'=>by rw[List.cons_prefix_cons]at h';obtain⟨rfl,h'⟩:=h';rw[qM]at h⊢;rcases h with h|⟨rfl,h⟩;(·exact .inl h);·exact .inr ⟨rfl,GR h h'⟩
abbrev FE:=ax×Bool×bf
def fC(a b:FE):Bool:=if a.2.2=b.2.2 then(if a.1=b.1 then a.2.1&& !b.2.1 else bytesLess a.1 b.1)else gy a.2.2 b.2.2
abbrev dX:=ax×Int
def gQ(a b:dX):Bool:=decide (a.2<b.2)||(decide (a.2=b.2)&&(decide (a.1.length<b.1.length)||(decide (a.1.length=b.1.length)&&bytesLess a.1 b.1)))
theorem pC {a b:dX} :gQ a b=true↔(a.2<b.2∨a.2=b.2∧(a.1.length<b.1.length∨a.1.length=b.1.length∧bytesLess a.1 b.1=true)):=by simp[gQ]
theorem pD(a:dX):gQ a a=false:=by rw[Bool.eq_false_iff];intro h;rcases pC.1 h with h|⟨_,h|⟨_,h⟩⟩;(·omega);(·omega);·rw[sF]at h;cases h
theorem nZ {a b c:dX} (h:gQ a b=true)(h':gQ b c=true):gQ a c=true:=by
 rw[pC]at*;rcases h with h|⟨h1,h|⟨h2,h⟩⟩<;>rcases h' with h'|⟨Cm,h'|⟨ZO,h'⟩⟩;(·exact .inl v6);(·exact .inl v6);(·exact .inl v6);(·exact .inl v6)
 (·exact .inr ⟨v6,.inl v6⟩);(·exact .inr ⟨v6,.inl v6⟩);(·exact .inl v6);(·exact .inr ⟨v6,.inl v6⟩);·exact .inr ⟨v6,.inr ⟨v6,sG h h'⟩⟩
def cy(e:FE)(z:ax):Prop:=if e.2.1=true then e.1=z else e.1 <+: z
def SP(rs:List Rl)(acc:Int)(out x:ax)(d:Int):Prop:=Fh rs acc out x d∧ ∀c,Fh rs acc out x c→d≤c
structure jY(rs:List Rl)(acc:Int)(out:ax)(H:List FE)(R:List dX):Prop where
 live: ∀e,e∈H→e.2.1=false→cq (jX rs acc out e.1) (some e.2.2)
 done: ∀e,e∈H→e.2.1=true→cq (vG rs acc out e.1) (some e.2.2)∧e.1.length≤40
 Ye: ∀z c,Fh rs acc out z c→z.length≤40→(∃d,(z,d)∈R)∨ ∃e,e∈H∧cy e z
 Z0:H.Pairwise (fun a b=> ∀z,cy a z→cy b z→False)
 res: ∀x d,(x,d)∈R→SP rs acc out x d∧x.length≤40∧ ∀e,e∈H→ ¬cy e x
 ord: ∀x d,(x,d)∈R→ ∀z c,Fh rs acc out z c→z.length≤40→(∃e,e∈H∧cy e z)→gQ (x,d) (z,c)=true
 srt:R.Pairwise (fun a b=>gQ a b=true)
structure GS(rs:List Rl)(acc:Int)(out:ax)(L:List dX):Prop where
 srt:L.Pairwise (fun a b=>gQ a b=true)
 mem: ∀x d,(x,d)∈L↔SP rs acc out x d∧x.length≤40
variable {rs:List Rl} {acc:Int} {out:ax}
theorem SQ {x:ax} {m:bf} (h:cq (vG rs acc out x) (some m)):SP rs acc out x m.1∧m.2=(x.length:Int):=by
 obtain⟨⟨c,hc,he⟩,h2⟩:=h;subst he;refine⟨⟨hc,fun c' jN=>?_⟩,rfl⟩;have:=dm.1 (h2 _ ⟨c',jN,rfl⟩);dsimp only at this⊢;omega
theorem DS {H H':List FE} {R:List dX} (h:jY rs acc out H R)(hp:H.Perm H'):jY rs acc out H' R:=by
 refine⟨fun e he=>h.live e (hp.mem_iff.2 he),fun e he=>h.done e (hp.mem_iff.2 he),fun z c hi hl=>?_,?_,fun x d hm=>?_,fun x d hm z c hi hl⟨e,he,hc⟩=>h.ord x d hm z c hi hl ⟨e,hp.mem_iff.2 he,hc⟩,h.srt⟩
 (·rcases h.Ye z c hi hl with h1|⟨e,he,hc⟩;(·exact .inl h1);·exact .inr ⟨e,hp.mem_iff.1 he,hc⟩);(·exact(hp.pairwise_iff (fun {a b} iu z h1 h2=>iu z h2 h1)).1 h.Z0)
 ·obtain⟨k1,k2,k3⟩:=h.res x d hm;exact⟨k1,k2,fun e he=>k3 e (hp.mem_iff.2 he)⟩
theorem Lw {H:List FE} {R:List dX} (h:jY rs acc out H R) {e:FE} (he:e∈H) {z:ax} {c:Int} (hi:Fh rs acc out z c)(hl:z.length≤40)(hc:cy e z):gy (c,(z.length:Int)) e.2.2=false:=by
 unfold cy at hc;split at hc;(·rename_i hd;subst hc;exact(h.done e he hd).1.2 _ ⟨c,hi,rfl⟩);·rename_i hd;obtain⟨y,rfl⟩:=hc;exact(h.live e he (by simpa using hd)).2 _ ⟨y,c,hi,hl,rfl⟩
theorem On {H:List FE} {R:List dX} {e:FE} (h:jY rs acc out (e::H) R)(hd:e.2.1=true)(DT: ∀e',e'∈H→fC e' e=false):jY rs acc out H (R++ [(e.1,e.2.2.1)]):=by
 obtain⟨hw,Z4⟩:=h.done e (y8 ..) hd;obtain⟨hm,hlen⟩:=SQ hw;(have Ak:cy e e.1:=by unfold cy;rw[if_pos hd]);obtain⟨Ad,ug⟩:=List.pairwise_cons.1 h.Z0
 have oU: ∀e',e'∈H→ ¬cy e' e.1:=fun e' A2 hc=>Ad e' A2 e.1 Ak hc;refine⟨fun a ha=>h.live a (y7 _ ha),fun a ha=>h.done a (y7 _ ha),fun z c hi hl=>?_,ug,fun x d eg=>?_,fun x d eg z c hi hl hc=>?_,?_⟩
 (·rcases h.Ye z c hi hl with⟨d,h1⟩|⟨a,ha,hc⟩;(·exact .inl ⟨d,w9 _ h1⟩);·rcases wl ha with rfl|ha;(·unfold cy at hc;rw[if_pos hd]at hc;subst hc;exact .inl ⟨_,w5 _ (y8 ..)⟩);·exact .inr ⟨a,ha,hc⟩)
 (·rcases ws eg with h1|h1;(·obtain⟨k1,k2,k3⟩:=h.res x d h1;exact⟨k1,k2,fun a ha=>k3 a (y7 _ ha)⟩);·obtain⟨rfl,rfl⟩:=Prod.mk.inj (wd h1);exact⟨hm,Z4,oU⟩)
 (·rcases ws eg with h1|h1;(·obtain⟨a,ha,Cd⟩:=hc;exact h.ord x d h1 z c hi hl ⟨a,y7 _ ha,Cd⟩);·obtain⟨rfl,rfl⟩:=Prod.mk.inj (wd h1);obtain⟨a,ha,Cd⟩:=hc;have Jt:=dm.1 (Lw h (y7 _ ha) hi hl Cd);have hle:=DT a ha;rw[pC];dsimp only at Jt⊢;unfold fC at hle;split at hle;(·rename_i heq;rw[heq]at Jt;split at hle;(·rename_i hx;exfalso;refine oU a ha ?_;unfold cy;rw[hx];split;(·rfl);·exact List.prefix_refl _);·rename_i hx;have h1:=sH hx hle;(have h2:bytesLess e.1 z=true:=by unfold cy at Cd;split at Cd;(·rw[←Cd];exact h1);·exact GR h1 Cd);by_cases k1:e.2.2.1<c;(·exact .inl k1);·by_cases k2:e.1.length<z.length;(·exact .inr ⟨v6,.inl k2⟩);·exact .inr ⟨v6,.inr ⟨v6,h2⟩⟩);·rename_i bS;have hle:=dm.1 hle;have bZ4: ¬(a.2.2.1=e.2.2.1∧a.2.2.2=e.2.2.2):=fun hh=>bS (Prod.ext hh.1 hh.2);by_cases k1:e.2.2.1<c;(·exact .inl k1);·exact .inr ⟨v6,.inl v6⟩)
 ·rw[List.pairwise_append];refine⟨h.srt,List.pairwise_singleton ..,fun a ha b hb=>?_⟩;rw[wd hb];exact h.ord a.1 a.2 ha e.1 e.2.2.1 hm.1 Z4 ⟨e,y8 ..,Ak⟩
theorem Oo {H C:List FE} {R:List dX} {e:FE} (h:jY rs acc out (e::H) R)(hd:e.2.1=false)(Lx: ∀a,a∈C→a.2.1=false→cq (jX rs acc out a.1) (some a.2.2))(gx: ∀a,a∈C→a.2.1=true→cq (vG rs acc out a.1) (some a.2.2)∧a.1.length≤40)(bW3: ∀z c,Fh rs acc out z c→z.length≤40→e.1 <+: z→ ∃a,a∈C∧cy a z)(ni: ∀a,a∈C→ ∀z,cy a z→e.1 <+: z)(bW4:C.Pairwise (fun a b=> ∀z,cy a z→cy b z→False)):jY rs acc out (H++C) R:=by
 (have Ak: ∀z,cy e z↔e.1 <+: z:=fun z=>by unfold cy;rw[if_neg (by rw[hd];decide)]);obtain⟨Ad,ug⟩:=List.pairwise_cons.1 h.Z0;(have up: ∀a,a∈H++C→ ∀z,cy a z→ ∃b,b∈e::H∧cy b z:=fun a ha z hc=>by rcases ws ha with ha|ha;(·exact⟨a,y7 _ ha,hc⟩);·exact⟨e,y8 ..,(Ak z).2 (ni a ha z hc)⟩)
 refine⟨fun a ha hf=>?_,fun a ha hf=>?_,fun z c hi hl=>?_,?_,fun x d hm=>?_,fun x d hm z c hi hl⟨a,ha,hc⟩=>h.ord x d hm z c hi hl (up a ha z hc),h.srt⟩;(·rcases ws ha with ha|ha;(·exact h.live a (y7 _ ha) hf);·exact Lx a ha hf)
 (·rcases ws ha with ha|ha;(·exact h.done a (y7 _ ha) hf);·exact gx a ha hf);(·rcases h.Ye z c hi hl with h1|⟨a,ha,hc⟩;(·exact .inl h1);·rcases wl ha with rfl|ha;(·obtain⟨b,hb,hcb⟩:=bW3 z c hi hl ((Ak z).1 hc);exact .inr ⟨b,w5 _ hb,hcb⟩);·exact .inr ⟨a,w9 _ ha,hc⟩)
 (·rw[List.pairwise_append];exact⟨ug,bW4,fun a ha b hb z h1 h2=>Ad a ha z ((Ak z).2 (ni b hb z h2)) h1⟩);·obtain⟨k1,k2,k3⟩:=h.res x d hm;refine⟨k1,k2,fun a ha hc=>?_⟩;obtain⟨b,hb,hcb⟩:=up a ha x hc;exact k3 b hb hcb
theorem AJ {o:Option bf} (ho:cq (jX rs acc out []) o):jY rs acc out (match o with|some l=>[([],false,l)]|none=>[]) []:=by
 cases o with|none=>refine⟨fun e he=>absurd he wn,fun e he=>absurd he wn,fun z c hi hl=>?_,List.Pairwise.nil,fun x d hm=>absurd hm wn,fun x d hm=>absurd hm wn,List.Pairwise.nil⟩;exact absurd ⟨z,c,by simpa using hi,by simpa using hl,rfl⟩ (ho _)|some l=>refine⟨fun e he _=>?_,fun e he hd=>?_,fun z c hi hl=>.inr ⟨_,y8 ..,?_⟩,List.pairwise_singleton ..,fun x d hm=>absurd hm wn,fun x d hm=>absurd hm wn,List.Pairwise.nil⟩;(·rw[wd he];exact ho);(·rw[wd he]at hd;cases hd);·unfold cy;rw[if_neg (show¬(false=true)by decide)];exact List.nil_prefix
theorem DU: ∀ {R L:List dX},R.Pairwise (fun a b=>gQ a b=true)→L.Pairwise (fun a b=>gQ a b=true)→(∀a,a∈R→a∈L)→(∀a,a∈R→ ∀b,b∈L→b∉R→gQ a b=true)→R=L.take R.length|[],L,_,_,_,_=>(by simp)|a::R,[],_,_,h,_=>absurd (h a (y8 ..)) wn|a::R,b::L,h1,h2,h3,h4=>by obtain⟨p1,q1⟩:=List.pairwise_cons.1 h1;obtain⟨p2,q2⟩:=List.pairwise_cons.1 h2;(have e:a=b:=by rcases wl (h3 a (y8 ..))with e|ha;(·exact e);·exfalso;have hba:=p2 a ha;by_cases hb:b∈a::R;(·rcases wl hb with rfl|hb;(·rw[pD]at hba;cases hba);·have:=nZ (p1 b hb) hba;rw[pD]at this;cases this);·have:=nZ (h4 a (y8 ..) b (y8 ..) hb) hba;rw[pD]at this;cases this);subst e;(have hna: ∀x,x∈R→x≠a:=fun x hx e=>by have:=p1 x hx;rw[e,pD]at this;cases this);(have hnl: ∀x,x∈L→x≠a:=fun x hx e=>by have:=p2 x hx;rw[e,pD]at this;cases this);rw[x6,List.take_succ_cons];congr 1;refine DU q1 q2 (fun x hx=>?_) fun x hx y hy hn=>h4 x (y7 _ hx) y (y7 _ hy) fun hh=>?_;(·rcases wl (h3 x (y7 _ hx))with e|h;(·exact absurd e (hna x hx));·exact h);·rcases wl hh with e|h;(·exact hnl y hy e);·exact hn h
theorem uB {x:ax} {c d:Int} (h:SP rs acc out x c)(h':SP rs acc out x d):c=d:=by have:=h.2 d h'.1;have:=h'.2 c h.1;omega
theorem DV {H:List FE} {R L:List dX} (h:jY rs acc out H R)(hL:GS rs acc out L):R=L.take R.length:=by
 refine DU h.srt hL.srt (fun a ha=>?_) fun a ha b hb hn=>?_;(·obtain⟨k1,k2,_⟩:=h.res a.1 a.2 ha;exact(hL.mem a.1 a.2).2 ⟨k1,k2⟩);·obtain⟨k1,k2⟩:=(hL.mem b.1 b.2).1 hb;rcases h.Ye b.1 b.2 k1.1 k2 with⟨d,hd⟩|hc;(·have:=uB k1 (h.res b.1 d hd).1;exact absurd (by rw[←this]at hd;exact hd) hn);·exact h.ord a.1 a.2 ha b.1 b.2 k1.1 k2 hc
theorem GU {R L:List dX} (h:jY rs acc out [] R)(hL:GS rs acc out L):R=L:=by
 have h1:=DV h hL;(have h2: ∀b,b∈L→b∈R:=fun b hb=>by obtain⟨k1,k2⟩:=(hL.mem b.1 b.2).1 hb;rcases h.Ye b.1 b.2 k1.1 k2 with⟨d,hd⟩|⟨e,he,_⟩;(·have:=uB k1 (h.res b.1 d hd).1;rw[←this]at hd;exact hd);·exact absurd he wn)
 have h3:=DU hL.srt h.srt h2 fun a ha b hb hn=>absurd ((hL.mem b.1 b.2).2 ⟨(h.res b.1 b.2 hb).1,(h.res b.1 b.2 hb).2.1⟩) hn;have l1:=congrArg List.length h1;have l2:=congrArg List.length h3
 rw[List.length_take]at l1 l2;rw[h1,wt v6]
end Go.Proofs.YtimognngcagphaaGreat.Rev
namespace Go.Proofs.YtimognngcagphaaGreat.Rev
section
variable {α:Type} (less:α→α→Bool)
def cz(xs:List α)(i j:Nat):List α:=match xs[i]?,xs[j]? with|some a,some b=>(xs.set i b).set j a|_,_=>xs
def yn(xs:List α)(j:Nat):List α:=if h:j=0 then xs else match xs[j]?,xs[(j-1)/2]? with|some a,some b=>if less a b=true then yn (cz xs ((j-1)/2) j) ((j-1)/2)else xs|_,_=>xs termination_by j decreasing_by omega
def eh(xs:List α)(i n:Nat):Nat:=match xs[2*i+2]?,xs[2*i+1]? with|some a,some b=>if 2*i+2<n∧less a b=true then 2*i+2 else 2*i+1|_,_=>2*i+1
theorem mw(xs:List α)(i n:Nat):i<eh less xs i n∧(eh less xs i n=2*i+1∨eh less xs i n=2*i+2):=by unfold eh;split;(·split<;>omega);·omega
def fe(xs:List α)(i n:Nat):List α:=if h:n≤2*i+1 then xs else match xs[eh less xs i n]?,xs[i]? with|some a,some b=>if less a b=true then fe (cz xs i (eh less xs i n)) (eh less xs i n) n else xs|_,_=>xs termination_by n-i decreasing_by have:=(mw less xs i n).1;omega
end
section
variable {α:Type} {less:α→α→Bool}
theorem eH(xs:List α)(i j:Nat):(cz xs i j).length=xs.length:=by unfold cz;split<;>simp
theorem swap_perm(xs:List α)(i j:Nat):(cz xs i j).Perm xs:=by
 unfold cz;split;(·rename_i a b ha hb;obtain⟨h1,rfl⟩:=z6 ha;obtain⟨h2,rfl⟩:=z6 hb;exact List.set_set_perm h1 h2)
 ·exact List.Perm.refl _
theorem BD {xs:List α} {i j:Nat} {a b:α} (ha:xs[i]?=some a)(hb:xs[j]?=some b)(k:Nat):(cz xs i j)[k]?=if k=j then some a else if k=i then some b else xs[k]?:=by
 have h1:=(z6 ha).1;have h2:=(z6 hb).1;unfold cz;rw[ha,hb];dsimp only;by_cases e1:k=j;(·rw[if_pos e1,e1,List.getElem?_set_self (by simpa using h2)])
 ·rw[if_neg e1,List.getElem?_set_ne (Ne.symm e1)];by_cases e2:k=i;(·rw[if_pos e2,e2,List.getElem?_set_self h1]);·rw[if_neg e2,List.getElem?_set_ne (Ne.symm e2)]
def Fk(less:α→α→Bool)(xs:List α)(a b:Nat):Prop:= ∀x y,xs[a]?=some x→xs[b]?=some y→less y x=false
structure Ly(less:α→α→Bool):Prop where
 irr: ∀a,less a a=false
 asym: ∀a b,less a b=true→less b a=false
 trans: ∀a b c,less b a=false→less c b=false→less c a=false
def jZ(less:α→α→Bool)(xs:List α)(n:Nat):Prop:= ∀k,0<k→k<n→Fk less xs ((k-1)/2) k
theorem Lz(ho:Ly less) {xs:List α} {a b c:Nat} (hb:b<xs.length)(h1:Fk less xs a b)(h2:Fk less xs b c):Fk less xs a c:=fun x y hx hy=>ho.trans _ _ _ (h1 x _ hx (List.getElem?_eq_getElem hb)) (h2 _ y (List.getElem?_eq_getElem hb) hy)
theorem zq(xs:List α)(j:Nat):(yn less xs j).length=xs.length:=by
 induction j using Nat.strongRecOn generalizing xs with|_ j ih=>unfold yn;split;(·rfl);·split;(·split;(·rw[ih _ v6,eH]);·rfl);·rfl
theorem IE(xs:List α)(j:Nat):(yn less xs j).Perm xs:=by
 induction j using Nat.strongRecOn generalizing xs with|_ j ih=>unfold yn;split;(·exact List.Perm.refl _);·split;(·split;(·exact(ih _ v6 _).trans (swap_perm ..));·exact List.Perm.refl _);·exact List.Perm.refl _
theorem aO3(ho:Ly less)(n:Nat)(j:Nat): ∀(xs:List α),xs.length=n→j<n→(∀k,0<k→k<n→k≠j→Fk less xs ((k-1)/2) k)→(∀k,0<k→k<n→(k-1)/2=j→0<j→Fk less xs ((j-1)/2) k)→jZ less (yn less xs j) n:=by
 induction j using Nat.strongRecOn with|_ j ih=>intro xs hn hj hA hB;unfold yn;split;(·rename_i h0;intro k h1 h2;exact hA k h1 h2 v6);·rename_i h0;obtain⟨a,ha⟩: ∃a,xs[j]?=some a:=⟨_,List.getElem?_eq_getElem v6⟩;obtain⟨b,hb⟩: ∃b,xs[(j-1)/2]?=some b:=⟨_,List.getElem?_eq_getElem v6⟩;rw[ha,hb];dsimp only;split;(·rename_i hl;have sw:=BD hb ha;refine ih _ v6 _ (by rw[eH];exact hn) v6 (fun k k0 kn kne x y hx hy=>?_) (fun k k0 kn kp ip x y hx hy=>?_);(·rw[sw]at hx hy;by_cases k1:k=j;(·subst k1;rw[if_pos rfl]at hy;rw[if_neg v6,if_pos rfl]at hx;injection hx with hx;injection hy with hy;subst hx hy;exact ho.asym _ _ hl);·rw[if_neg k1,if_neg kne]at hy;by_cases k2:(k-1)/2=j;(·rw[if_pos k2]at hx;injection hx with hx;subst hx;exact hB k k0 kn k2 v6 _ y hb hy);·rw[if_neg k2]at hx;by_cases k3:(k-1)/2=(j-1)/2;(·rw[if_pos k3]at hx;injection hx with hx;subst hx;refine ho.trans _ _ _ (ho.asym _ _ hl) (hA k k0 kn k1 b y (by rw[k3];exact hb) hy));·rw[if_neg k3]at hx;exact hA k k0 kn k1 x y hx hy);·rw[sw]at hx hy;rw[if_neg v6,if_neg v6]at hx;by_cases k1:k=j;(·rw[if_pos k1]at hy;injection hy with hy;subst hy;exact hA _ ip v6 v6 x _ hx hb);·rw[if_neg k1,if_neg v6]at hy;refine ho.trans _ _ _ (hA _ ip v6 v6 x _ hx hb) (hA k k0 kn k1 b y (by rw[kp];exact hb) hy));·rename_i hl;intro k k0 kn;by_cases k1:k=j;(·subst k1;intro x y hx hy;rw[hb]at hx;rw[ha]at hy;injection hx with hx;injection hy with hy;subst hx hy;simpa using hl);·exact hA k k0 kn k1
theorem zr(ho:Ly less) {xs:List α} {b:α} (h:jZ less xs xs.length):jZ less (yn less (xs++ [b]) xs.length) (xs.length+1):=by
 refine aO3 ho (xs.length+1) xs.length (xs++ [b]) (by simp) v6 (fun k k0 kn kne x y hx hy=>?_) (fun k k0 kn kp _=>by omega);rw[List.getElem?_append_left v6]at hx hy
 exact h k k0 v6 x y hx hy
theorem LA(n:Nat): ∀(m i:Nat)(xs:List α),n-i≤m→(fe less xs i n).length=xs.length:=by
 intro m;induction m with|zero=>intro i xs h;unfold fe;rw[dif_pos v6]|succ m ih=>intro i xs h;unfold fe;split;(·rfl);·have:=(mw less xs i n).1;split;(·split;(·rw[ih _ _ v6,eH]);·rfl);·rfl
theorem SR(n:Nat): ∀(m i:Nat)(xs:List α),n-i≤m→(fe less xs i n).Perm xs:=by
 intro m;induction m with|zero=>intro i xs h;unfold fe;rw[dif_pos v6]|succ m ih=>intro i xs h;unfold fe;split;(·exact List.Perm.refl _);·have:=(mw less xs i n).1;split;(·split;(·exact(ih _ _ v6).trans (swap_perm ..));·exact List.Perm.refl _);·exact List.Perm.refl _
theorem DW {xs:List α} {i n:Nat} (h: ¬n≤2*i+1):eh less xs i n<n:=by unfold eh;split;(·split<;>omega);·omega
theorem SS(n:Nat): ∀(m i:Nat)(xs:List α),n-i≤m→i<n→ ∀k,n≤k→(fe less xs i n)[k]?=xs[k]?:=by
 intro m;induction m with|zero=>intro i xs h hi;omega|succ m ih=>intro i xs h hi k hk;unfold fe;split;(·rfl);·rename_i hn;have hc:=(mw less xs i n).1;have hcn:=DW (less:=less) (xs:=xs) hn;split;(·rename_i a b ha hb;split;(·rw[ih _ _ v6 hcn k hk,BD hb ha,if_neg v6,if_neg v6]);·rfl);·rfl
theorem SU(ho:Ly less)(n:Nat): ∀(m i:Nat)(xs:List α),n-i≤m→n≤xs.length→i<n→(∀k,0<k→k<n→(k-1)/2≠i→Fk less xs ((k-1)/2) k)→(∀k,0<k→k<n→(k-1)/2=i→0<i→Fk less xs ((i-1)/2) k)→jZ less (fe less xs i n) n:=by
 intro m;induction m with|zero=>intro i xs h _ hi;omega|succ m ih=>intro i xs h hnl hi hC hD;unfold fe;split;(·rename_i h0;intro k k0 kn;exact hC k k0 kn v6);·rename_i h0;have hc:=mw less xs i n;have hcn:=DW (less:=less) (xs:=xs) h0;(have DT: ∀k,0<k→k<n→(k-1)/2=i→Fk less xs (eh less xs i n) k:=fun k k0 kn kp x y hx hy=>by have k2:k=2*i+1∨k=2*i+2:=v6;obtain⟨c1,Jj⟩: ∃a,xs[2*i+1]?=some a:=⟨_,List.getElem?_eq_getElem v6⟩;unfold eh at hx;rw[Jj]at hx;cases h2:xs[2*i+2]? with|none=>rw[h2]at hx;dsimp only at hx;rcases k2 with rfl|rfl;(·rw[Jj]at hx hy;injection hx with hx;injection hy with hy;subst hx hy;exact ho.irr _);(·rw[h2]at hy;cases hy)|some c2=>rw[h2]at hx;dsimp only at hx;split at hx;(·rename_i FL;rw[h2]at hx;injection hx with hx;subst hx;rcases k2 with rfl|rfl;(·rw[Jj]at hy;injection hy with hy;subst hy;exact ho.asym _ _ FL.2);·rw[h2]at hy;injection hy with hy;subst hy;exact ho.irr _);·rename_i FL;rw[Jj]at hx;injection hx with hx;subst hx;rcases k2 with rfl|rfl;(·rw[Jj]at hy;injection hy with hy;subst hy;exact ho.irr _);·rw[h2]at hy;injection hy with hy;subst hy;rw[Bool.eq_false_iff];intro hh;exact FL ⟨kn,hh⟩);(have hpc:(eh less xs i n-1)/2=i:=by omega);obtain⟨a,ha⟩: ∃a,xs[eh less xs i n]?=some a:=⟨_,List.getElem?_eq_getElem v6⟩;obtain⟨b,hb⟩: ∃b,xs[i]?=some b:=⟨_,List.getElem?_eq_getElem v6⟩;rw[ha,hb];dsimp only;generalize eh less xs i n=j at*;split;(·rename_i hl;have sw:=BD hb ha;refine ih _ _ v6 (by rw[eH];exact hnl) hcn (fun k k0 kn kne x y hx hy=>?_) (fun k k0 kn kp jp x y hx hy=>?_);(·rw[sw]at hx hy;rw[if_neg kne]at hx;by_cases k1:(k-1)/2=i;(·rw[if_pos k1]at hx;injection hx with hx;subst hx;by_cases k2:k=j;(·rw[if_pos k2]at hy;injection hy with hy;subst hy;exact ho.asym _ _ hl);·rw[if_neg k2,if_neg v6]at hy;exact DT k k0 kn k1 _ y ha hy);·rw[if_neg k1]at hx;have k3:k≠j:=fun e=>k1 (by rw[e];exact hpc);rw[if_neg k3]at hy;by_cases k2:k=i;(·rw[if_pos k2]at hy;injection hy with hy;subst hy;subst k2;exact hD j v6 hcn hpc k0 x _ hx ha);·rw[if_neg k2]at hy;exact hC k k0 kn k1 x y hx hy);·rw[sw]at hx hy;rw[hpc,if_neg v6,if_pos rfl]at hx;injection hx with hx;subst hx;rw[if_neg v6,if_neg v6]at hy;exact hC k k0 kn v6 _ y (by rw[kp];exact ha) hy);·rename_i hl;have hl:less a b=false:=Bool.eq_false_iff.2 hl;intro k k0 kn;by_cases k1:(k-1)/2=i;(·intro x y hx hy;rw[k1,hb]at hx;injection hx with hx;subst hx;exact ho.trans _ _ _ hl (DT k k0 kn k1 a y ha hy));·exact hC k k0 kn k1
theorem Oq(ho:Ly less) {xs:List α} {n:Nat} (h:jZ less xs n)(hn:n≤xs.length): ∀k,k<n→Fk less xs 0 k:=by
 intro k;induction k using Nat.strongRecOn with|_ k ih=>intro hk;cases k with|zero=>intro x y hx hy;rw[hx]at hy;injection hy with hy;subst hy;exact ho.irr _|succ k=>exact Lz ho v6 (ih ((k+1-1)/2) v6 v6) (h (k+1) v6 hk)
def vH(less:α→α→Bool)(xs:List α):List α:=fe less (cz xs 0 (xs.length-1)) 0 (xs.length-1)
theorem Yf(ho:Ly less) {xs:List α} {e:α} (he:xs[0]?=some e)(h:jZ less xs xs.length): ∃ys,vH less xs=ys++ [e]∧(e::ys).Perm xs∧jZ less ys ys.length∧ ∀a,a∈ys→less a e=false:=by
 have hlen:=(z6 he).1;obtain⟨l,hl⟩: ∃l,xs[xs.length-1]?=some l:=⟨_,List.getElem?_eq_getElem v6⟩;have sw:=BD he hl;have bM7:=Oq ho h (x8)
 (have bW5:(vH less xs).length=xs.length:=by unfold vH;rw[LA _ _ _ _ (x8),eH]);(have bM8:(vH less xs).Perm xs:=by unfold vH;exact(SR _ _ _ _ (x8)).trans (swap_perm ..))
 (have bM9:(vH less xs)[xs.length-1]?=some e:=by unfold vH;by_cases h1:xs.length=1;(·unfold fe;rw[dif_pos v6,sw,if_pos rfl]);·rw[SS _ _ _ _ (x8) v6 _ (x8),sw,if_pos rfl])
 (have bN0:jZ less (vH less xs) (xs.length-1):=by unfold vH;by_cases h1:xs.length=1;(·intro k k0 kn;omega);·refine SU ho _ _ _ _ (x8) (by rw[eH];omega) v6 (fun k k0 kn kne x y hx hy=>?_) (fun k k0 kn kp i0=>by omega);rw[sw,if_neg v6,if_neg kne]at hx;rw[sw,if_neg v6,if_neg v6]at hy;exact h k k0 v6 x y hx hy)
 (have Yg:vH less xs=(vH less xs).take (xs.length-1)++ [e]:=by(conv=>lhs;rw[←List.take_append_drop (xs.length-1) (vH less xs)]);congr 1;(have:(vH less xs).drop (xs.length-1)=e::(vH less xs).drop (xs.length-1+1):=by obtain⟨h1,h2⟩:=z6 bM9;rw[List.drop_eq_getElem_cons h1,h2]);rw[this,List.drop_of_length_le v6])
 (have hp:(e::(vH less xs).take (xs.length-1)).Perm xs:=by refine List.Perm.trans ?_ bM8;(conv=>rhs;rw[Yg]);exact(List.perm_append_singleton e _).symm);refine⟨_,Yg,hp,?_,fun a ha=>?_⟩
 (·rw[List.length_take,bW5,Nat.min_eq_left v6];intro k k0 kn x y hx hy;rw[List.getElem?_take,if_pos v6]at hx hy;exact bN0 k k0 kn x y hx hy);·obtain⟨k,hk⟩:=List.getElem?_of_mem (hp.mem_iff.1 (y7 _ ha));exact bM7 k (z6 hk).1 e a he hk
end
end Go.Proofs.YtimognngcagphaaGreat.Rev
namespace Go.Proofs.YtimognngcagphaaGreat.Rev
abbrev Place:=Int×Int
def zt:List dX→ax→Int→List dX|[],x,c=>[(x,c)]|r::f,x,c=>if r.1=x then(r.1,min r.2 c)::f else r::zt f x c
def BE(out:ax)(at_:Int)(part:ax):Bool:=part.isPrefixOf (out.drop at_.toNat)
def findF(rs:List Rl)(acc:Int)(out:ax):Nat→List Place→Place→ax→Int→List dX→List dX|0,_,_,_,_,f=>f|n+1,l,p,x,c,f=>rs.foldl (fun f r=>if r.1=p.1∧BE out p.2 r.2.2.2.1=true∧(r.2.1,p.2+(r.2.2.2.1.length:Int))∉l then findF rs acc out n (l++ [(r.2.1,p.2+(r.2.2.2.1.length:Int))]) (r.2.1,p.2+(r.2.2.2.1.length:Int)) (x++r.2.2.1) (c+r.2.2.2.2) f else f) (if p.2=(out.length:Int)∧gL acc p.1=true∧x.length≤40 then zt f x c else f)
structure qN(f:List dX)(S:ax→Int→Prop):Prop where
 nodup:(f.map (·.1)).Nodup
 sound: ∀x d,(x,d)∈f→S x d∧ ∀c,S x c→d≤c
 all: ∀x c,S x c→ ∃d,(x,d)∈f
theorem Qw {x:ax} {c:Int} : ∀ {f:List dX} {y:ax} {d:Int},(f.map (·.1)).Nodup→((y,d)∈zt f x c↔(y≠x∧(y,d)∈f)∨(y=x∧((∃e,(x,e)∈f∧d=min e c)∨((∀e,(x,e)∉f)∧d=c))))|[],y,d,_=>(by simp[zt])|r::f,y,d,hn=>by obtain⟨h1,h2⟩:=List.nodup_cons.1 hn;unfold zt;split;(·rename_i hx;have oU: ∀e,(x,e)∉f:=fun e he=>h1 (by show r.1∈_;rw[hx];exact List.mem_map_of_mem (f:=(·.1)) he);constructor;(·intro h;rcases wl h with h|h;(·obtain⟨rfl,rfl⟩:=Prod.mk.inj h;exact .inr ⟨hx,.inl ⟨r.2,by rw[←hx];exact y8 ..,rfl⟩⟩);·by_cases hy:y=x;(·subst hy;exact absurd h (oU d));·exact .inl ⟨hy,y7 _ h⟩);·rintro(⟨hy,h⟩|⟨rfl,⟨e,he,rfl⟩|⟨h,rfl⟩⟩);(·rcases wl h with h|h;(·exact absurd (by rw[←hx,←h]) hy);·exact y7 _ h);(·rcases wl he with h|h;(·rw[←h];exact y8 ..);·exact absurd h (oU e));·exact absurd (y8 ..) (by have:=h r.2;rw[←hx]at this;exact this));·rename_i hx;have ih:=Qw (x:=x) (c:=c) (f:=f) (y:=y) (d:=d) h2;rw[List.mem_cons,ih];constructor;(·rintro(h|⟨hy,h⟩|⟨hy,⟨e,he,hd⟩|⟨h,hd⟩⟩);(·exact .inl ⟨fun e=>hx (by rw[←h,e]),by rw[h];exact y8 ..⟩);(·exact .inl ⟨hy,y7 _ h⟩);(·exact .inr ⟨hy,.inl ⟨e,y7 _ he,hd⟩⟩);·refine .inr ⟨hy,.inr ⟨fun e he=>?_,hd⟩⟩;rcases wl he with he|he;(·exact hx (by rw[←he]));·exact h e he);·rintro(⟨hy,h⟩|⟨hy,⟨e,he,hd⟩|⟨h,hd⟩⟩);(·rcases wl h with h|h;(·exact .inl h);·exact .inr (.inl ⟨hy,h⟩));(·rcases wl he with he|he;(·exact absurd (by rw[←he]) hx);·exact .inr (.inr ⟨hy,.inl ⟨e,he,hd⟩⟩));·exact .inr (.inr ⟨hy,.inr ⟨fun e he=>h e (y7 _ he),hd⟩⟩)
theorem LB {x:ax} {c:Int} : ∀ {f:List dX} {y:ax},y∈(zt f x c).map (·.1)↔y∈f.map (·.1)∨y=x|[],y=>(by simp[zt])|r::f,y=>by unfold zt;split;(·rename_i hx;simp only[List.map_cons,List.mem_cons];constructor;(·exact .inl);·rintro(h|h);(·exact h);·exact .inl (by rw[h,hx]));·simp only[List.map_cons,List.mem_cons,LB (f:=f),or_assoc]
theorem GV {x:ax} {c:Int} : ∀ {f:List dX},(f.map (·.1)).Nodup→((zt f x c).map (·.1)).Nodup|[],_=>(by simp[zt])|r::f,hn=>by obtain⟨h1,h2⟩:=List.nodup_cons.1 hn;unfold zt;split;(·exact hn);·rename_i hx;rw[List.map_cons,List.nodup_cons];refine⟨fun h=>?_,GV h2⟩;rcases LB.1 h with h|h;(·exact h1 h);·exact hx h
theorem Ot {f:List dX} {S:ax→Int→Prop} {x:ax} {c:Int} (h:qN f S):qN (zt f x c) (fun y d=>S y d∨(y=x∧d=c)):=by
 have hm:=fun y d=>Qw (x:=x) (c:=c) (f:=f) (y:=y) (d:=d) h.nodup;refine⟨GV h.nodup,fun y d hd=>?_,fun y d hd=>?_⟩;(·rcases(hm y d).1 hd with⟨hy,h1⟩|⟨rfl,⟨e,h1,rfl⟩|⟨h1,rfl⟩⟩;(·obtain⟨k1,k2⟩:=h.sound y d h1;exact⟨.inl k1,fun c' jN=>jN.elim (k2 c') fun hh=>absurd hh.1 hy⟩);(·obtain⟨k1,k2⟩:=h.sound y e h1;refine⟨?_,fun c' jN=>?_⟩;(·by_cases hle:e≤c;(·rw[Int.min_eq_left hle];exact .inl k1);·rw[Int.min_eq_right v6];exact .inr ⟨rfl,rfl⟩);·rcases jN with jN|⟨_,rfl⟩;(·have:=k2 c' jN;omega);·omega);·refine⟨.inr ⟨rfl,rfl⟩,fun c' jN=>?_⟩;rcases jN with jN|⟨_,rfl⟩;(·obtain⟨e,he⟩:=h.all y c' jN;exact absurd he (h1 e));·omega)
 ·rcases hd with hd|⟨rfl,rfl⟩;(·obtain⟨e,he⟩:=h.all y d hd;by_cases hy:y=x;(·subst hy;exact⟨min e c,(hm y _).2 (.inr ⟨rfl,.inl ⟨e,he,rfl⟩⟩)⟩);·exact⟨e,(hm y e).2 (.inl ⟨hy,he⟩)⟩);·by_cases hh: ∃e,(y,e)∈f;(·obtain⟨e,he⟩:=hh;exact⟨min e d,(hm y _).2 (.inr ⟨rfl,.inl ⟨e,he,rfl⟩⟩)⟩);·exact⟨d,(hm y d).2 (.inr ⟨rfl,.inr ⟨fun e he=>hh ⟨e,he⟩,rfl⟩⟩)⟩
theorem gd {f:List dX} {S T:ax→Int→Prop} (h: ∀x c,S x c↔T x c)(hf:qN f S):qN f T:=⟨hf.nodup,fun x d hd=>⟨(h x d).1 (hf.sound x d hd).1,fun c hc=>(hf.sound x d hd).2 c ((h x c).2 hc)⟩,fun x c hc=>hf.all x c ((h x c).2 hc)⟩
theorem Qx {s:Nat} (hs:s<256) {i m:Nat} (hi:i<8)(hm:m<8)(h:s/2^i%2=0):(s+2^i)/2^m%2=1↔(s/2^m%2=1∨m=i):=by
 have hi8:i=0∨i=1∨i=2∨i=3∨i=4∨i=5∨i=6∨i=7:=v6;have hm8:m=0∨m=1∨m=2∨m=3∨m=4∨m=5∨m=6∨m=7:=v6;rcases hi8 with rfl|rfl|rfl|rfl|rfl|rfl|rfl|rfl<;>rcases hm8 with rfl|rfl|rfl|rfl|rfl|rfl|rfl|rfl<;>simp only[Nat.reducePow]at h⊢ <;>first|omega|(constructor<;>intro _<;>first|omega|exact .inr trivial)
theorem Qy {i m:Nat} (hi:i<8)(hm:m<8):2^i/2^m%2=1↔m=i:=by have:=Qx (s:=0) v6 hi hm (by simp);rw[Nat.zero_add]at this;rw[this];simp
structure IF(l:List Place)(p:cV):Prop where
 bits: ∀m:Int,0≤m→m<8→(gL p.2.2 m=true↔(m,p.1)∈l)
 le: ∀q,q∈l→q.2≤p.1
theorem xV {s m:Int} :gL s m=true↔s.toNat/2^m.toNat%2=1:=by simp[gL]
theorem IG:IF [(0,0)] (0,0,1):=by
 refine⟨fun m h0 h8=>?_,fun q hq=>by rw[wd hq];exact Int.le_refl _⟩;rw[xV];have:=Qy (i:=0) (m:=m.toNat) (by decide) v6;simp only[Nat.pow_zero]at this
 rw[show((0,0,1):cV).2.2.toNat=1 from rfl,this];simp only[List.mem_singleton,Prod.mk.injEq,and_true];omega
variable {rs:List Rl} {acc:Int} {out:ax}
theorem IH {l:List Place} {p:cV} {r:Rl} (hv:IF l p)(hp:GO out p)(hm:0≤r.2.1∧r.2.1<8):((r.1=p.2.1∧BE out p.1 r.2.2.2.1=true∧(r.2.1,p.1+(r.2.2.2.1.length:Int))∉l)↔ ∃q,bD out p r=some q)∧ ∀q,bD out p r=some q→q.1=p.1+(r.2.2.2.1.length:Int)∧q.2.1=r.2.1∧IF (l++ [(r.2.1,p.1+(r.2.2.2.1.length:Int))]) q:=by
 unfold BE bD;by_cases ho:r.2.2.2.1=[];(·(have Jh:(r.2.2.2.1.length:Int)=0:=by rw[ho];rfl);rw[Jh,Int.add_zero];have hb:=hv.bits r.2.1 hm.1 hm.2;constructor;(·constructor;(·rintro⟨h1,h2,h3⟩;rw[if_pos ⟨h1,h2⟩,if_neg (by rw[ho];exact fun h=>h rfl),if_pos (Bool.eq_false_iff.2 fun hh=>h3 (hb.1 hh))];exact⟨_,rfl⟩);·rintro⟨q,hq⟩;split at hq;(·rename_i h1;rw[if_neg (by rw[ho];exact fun h=>h rfl)]at hq;split at hq;(·rename_i h3;exact⟨h1.1,h1.2,fun hh=>by rw[hb.2 hh]at h3;cases h3⟩);·cases hq);·cases hq);·intro q hq;split at hq;(·rw[if_neg (by rw[ho];exact fun h=>h rfl)]at hq;split at hq;(·rename_i h3;injection hq with hq;subst hq;refine⟨rfl,rfl,fun m h0 h8=>?_,fun x hx=>?_⟩;(·dsimp only;(have gI:p.2.2.toNat/2^r.2.1.toNat%2=0:=by have:=Bool.eq_false_iff.1 h3;rw[ne_eq,xV]at this;omega);have h2:=Qx (s:=p.2.2.toNat) (by have:=hp.seen;omega) (i:=r.2.1.toNat) (m:=m.toNat) v6 v6 gI;(have e:(p.2.2+pB r.2.1).toNat=p.2.2.toNat+2^r.2.1.toNat:=by have:=hp.seen;have hb:pB r.2.1=((2^r.2.1.toNat:Nat):Int):=rfl;rw[hb];generalize 2^r.2.1.toNat=z;omega);rw[xV,e,h2,List.mem_append,List.mem_singleton,←xV,hv.bits m h0 h8,Prod.mk.injEq];constructor;(·rintro(h|h);(·exact .inl h);·exact .inr ⟨v6,rfl⟩);·rintro(h|h);(·exact .inl h);·exact .inr v6);·dsimp only;rcases ws hx with hx|hx;(·exact hv.le x hx);·rw[wd hx];exact Int.le_refl _);·cases hq);·cases hq)
 ·have Jh:0<r.2.2.2.1.length:=List.length_pos_iff.2 ho;(have dA:(r.2.1,p.1+(r.2.2.2.1.length:Int))∉l:=fun hh=>by have:=hv.le _ hh;dsimp only at this;omega);constructor;(·constructor;(·rintro⟨h1,h2,_⟩;rw[if_pos ⟨h1,h2⟩,if_pos ho];exact⟨_,rfl⟩);·rintro⟨q,hq⟩;split at hq;(·rename_i h1;exact⟨h1.1,h1.2,dA⟩);·cases hq);·intro q hq;split at hq;(·injection hq with hq;subst hq;refine⟨rfl,rfl,fun m h0 h8=>?_,fun x hx=>?_⟩;(·dsimp only;have e:(pB r.2.1).toNat=2^r.2.1.toNat:=Int.toNat_natCast _;rw[xV,e,Qy v6 v6,List.mem_append,List.mem_singleton,Prod.mk.injEq];constructor;(·intro h;exact .inr ⟨v6,rfl⟩);·rintro(h|h);(·have:=hv.le _ h;dsimp only at this;omega);·omega);·dsimp only;rcases ws hx with hx|hx;(·have:=hv.le x hx;omega);·rw[wd hx];exact Int.le_refl _);·cases hq
def Ou(rs:List Rl)(acc:Int)(out:ax)(p:cV)(x:ax)(c:Int)(z:ax)(d:Int):Prop:= ∃y e,Path rs acc out p y e∧z=x++y∧d=c+e∧z.length≤40
theorem LC(h:uk rs): ∀(n:Nat)(l:List Place)(p:cV)(x:ax)(c:Int)(f:List dX)(S:ax→Int→Prop),GO out p→ms out p<n→IF l p→qN f S→qN (findF rs acc out n l (p.2.1,p.1) x c f) (fun z d=>S z d∨Ou rs acc out p x c z d):=by
 intro n;induction n with|zero=>intro _ _ _ _ _ _ _ hn;exact absurd hn (Nat.not_lt_zero _)|succ n ih=>intro l p x c f S hp hn hv hf;rw[findF];(have bv5:qN (if(p.2.1,p.1).2=(out.length:Int)∧gL acc (p.2.1,p.1).1=true∧x.length≤40 then zt f x c else f) (fun z d=>S z d∨(jy acc out p=true∧x.length≤40∧z=x∧d=c)):=by split;(·rename_i hc;refine gd (fun z d=>?_) (Ot hf);(have he:jy acc out p=true:=by unfold jy;rw[z8,decide_eq_true_eq];exact⟨hc.1,hc.2.1⟩);constructor;(·rintro(h1|⟨h1,h2⟩);(·exact .inl h1);·exact .inr ⟨he,hc.2.2,h1,h2⟩);·rintro(h1|⟨_,_,h1,h2⟩);(·exact .inl h1);·exact .inr ⟨h1,h2⟩);·rename_i hc;refine gd (fun z d=>?_) hf;constructor;(·exact .inl);·rintro(h1|⟨h1,h2,_⟩);(·exact h1);·unfold jy at h1;rw[z8,decide_eq_true_eq]at h1;exact absurd ⟨h1.1,h1.2,h2⟩ hc);(have jA: ∀(l2:List Rl)(f:List dX)(S:ax→Int→Prop),(∀r,r∈l2→r∈rs)→qN f S→qN (l2.foldl (fun f r=>if r.1=(p.2.1,p.1).1∧BE out (p.2.1,p.1).2 r.2.2.2.1=true∧(r.2.1,(p.2.1,p.1).2+(r.2.2.2.1.length:Int))∉l then findF rs acc out n (l++ [(r.2.1,(p.2.1,p.1).2+(r.2.2.2.1.length:Int))]) (r.2.1,(p.2.1,p.1).2+(r.2.2.2.1.length:Int)) (x++r.2.2.1) (c+r.2.2.2.2) f else f) f) (fun z d=>S z d∨ ∃r q,r∈l2∧bD out p r=some q∧Ou rs acc out q (x++r.2.2.1) (c+r.2.2.2.2) z d):=by intro l2;induction l2 with|nil=>intro f S _ hf;exact gd (fun z d=>by simp) hf|cons r l2 ih2=>intro f S tn hf;rw[List.foldl_cons];have hr:=tn r (y8 ..);obtain⟨v1,v2⟩:=IH (out:=out) hv hp (h.mode r hr);dsimp only;split;(·rename_i hc;obtain⟨q,hq⟩:=v1.1 hc;obtain⟨k1,k2,k3⟩:=v2 q hq;obtain⟨o1,o2,_⟩:=eF hp (h.mode r hr) hq;have:=ih (l++ [(r.2.1,p.1+(r.2.2.2.1.length:Int))]) q (x++r.2.2.1) (c+r.2.2.2.2) f S o1 v6 k3 hf;rw[k1,k2]at this;refine gd (fun z d=>?_) (ih2 _ _ (fun a ha=>tn a (y7 _ ha)) this);constructor;(·rintro((h1|h1)|⟨r',q',h1,h2,h3⟩);(·exact .inl h1);(·exact .inr ⟨r,q,y8 ..,hq,h1⟩);·exact .inr ⟨r',q',y7 _ h1,h2,h3⟩);·rintro(h1|⟨r',q',h1,h2,h3⟩);(·exact .inl (.inl h1));·rcases wl h1 with rfl|h1;(·rw[hq]at h2;injection h2 with h2;subst h2;exact .inl (.inr h3));·exact .inr ⟨r',q',h1,h2,h3⟩);·rename_i hc;refine gd (fun z d=>?_) (ih2 _ _ (fun a ha=>tn a (y7 _ ha)) hf);constructor;(·rintro(h1|⟨r',q',h1,h2,h3⟩);(·exact .inl h1);·exact .inr ⟨r',q',y7 _ h1,h2,h3⟩);·rintro(h1|⟨r',q',h1,h2,h3⟩);(·exact .inl h1);·rcases wl h1 with rfl|h1;(·exact absurd (v1.2 ⟨q',h2⟩) hc);·exact .inr ⟨r',q',h1,h2,h3⟩);refine gd (fun z d=>?_) (jA rs _ _ (fun r hr=>hr) bv5);constructor;(·rintro((h1|⟨h1,h2,rfl,rfl⟩)|⟨r,q,hr,hq,y,e,h1,rfl,rfl,h4⟩);(·exact .inl h1);(·exact .inr ⟨[],0,.done h1,by simp,v6,h2⟩);·exact .inr ⟨r.2.2.1++y,r.2.2.2.2+e,.step hr hq h1,by rw[List.append_assoc],v6,h4⟩);·rintro(h1|⟨y,e,h1,rfl,rfl,h4⟩);(·exact .inl (.inl h1));·cases h1 with|done he=>exact .inl (.inr ⟨he,by simpa using h4,by simp,v6⟩)| @step _ q r y e hr hq Rv=>exact .inr ⟨r,q,hr,hq,y,e,Rv,by rw[List.append_assoc],v6,h4⟩
def LD(l:List dX)(x:dX):List dX:=l.takeWhile (fun y=>gQ y x)++x::l.dropWhile (fun y=>gQ y x)
def bv6(rs:List Rl)(acc:Int)(out:ax):List dX:=(findF rs acc out (out.length*256+256) [(0,0)] (0,0) [] 0 []).foldl LD []
theorem LF {a b:dX} (h:a.1≠b.1)(h':gQ a b=false):gQ b a=true:=by
 have h2:=fun hh=>Bool.eq_false_iff.1 h' (pC.2 hh);rw[pC];by_cases k1:b.2<a.2;(·exact .inl k1);·(have k2:a.2=b.2:=by by_cases k:a.2<b.2;(·exact absurd (.inl k) h2);·omega);by_cases k3:b.1.length<a.1.length;(·exact .inr ⟨k2.symm,.inl k3⟩);·(have k4:a.1.length=b.1.length:=by by_cases k:a.1.length<b.1.length;(·exact absurd (.inr ⟨k2,.inl k⟩) h2);·omega);exact .inr ⟨k2.symm,.inr ⟨k4.symm,sH h (Bool.eq_false_iff.2 fun hh=>h2 (.inr ⟨k2,.inr ⟨k4,hh⟩⟩))⟩⟩
theorem LG: ∀ {l:List dX} {x:dX},l.Pairwise (fun a b=>gQ a b=true)→(∀a,a∈l→a.1≠x.1)→ ∀a,a∈l.dropWhile (fun y=>gQ y x)→gQ x a=true|[],_,_,_,a,ha=>(by cases ha)|b::l,x,hs,hn,a,ha=>by obtain⟨p,q⟩:=List.pairwise_cons.1 hs;rw[List.dropWhile_cons]at ha;split at ha;(·exact LG q (fun c hc=>hn c (y7 _ hc)) a ha);·rename_i hb;have hxb:=LF (hn b (y8 ..)) (Bool.eq_false_iff.2 hb);rcases wl ha with rfl|ha;(·exact hxb);·exact nZ hxb (p a ha)
theorem uC {α:Type} {p:α→Bool} : ∀ {l:List α} {a:α},a∈l.takeWhile p→p a=true|[],_,h=>(by cases h)|b::l,a,h=>by rw[List.takeWhile_cons]at h;split at h;(·rename_i hb;rcases wl h with rfl|h;(·exact hb);·exact uC h);·cases h
theorem aO4 {l:List dX} {x:dX} (hs:l.Pairwise (fun a b=>gQ a b=true))(hn: ∀a,a∈l→a.1≠x.1):(LD l x).Pairwise (fun a b=>gQ a b=true):=by
 unfold LD;rw[List.pairwise_append];have hd:=LG hs hn;refine⟨hs.sublist (List.takeWhile_sublist _),List.Pairwise.cons hd (hs.sublist (List.dropWhile_sublist _)),fun a ha b hb=>?_⟩
 have Yh:=uC ha;rcases wl hb with rfl|hb;(·exact Yh);·exact nZ Yh (hd b hb)
theorem Qz {l:List dX} {x y:dX} :y∈LD l x↔y=x∨y∈l:=by
 unfold LD;rw[List.mem_append,List.mem_cons];(conv=>rhs;rw[←List.takeWhile_append_dropWhile (p:=fun y=>gQ y x) (l:=l),List.mem_append]);constructor;(·rintro(h|h|h);(·exact .inr (.inl h));(·exact .inl h);·exact .inr (.inr h))
 ·rintro(h|h|h);(·exact .inr (.inl h));(·exact .inl h);·exact .inr (.inr h)
theorem LH: ∀(f l:List dX),l.Pairwise (fun a b=>gQ a b=true)→(f.map (·.1)).Nodup→(∀a,a∈l→a.1∉f.map (·.1))→(f.foldl LD l).Pairwise (fun a b=>gQ a b=true)∧ ∀y,y∈f.foldl LD l↔y∈l∨y∈f|[],l,hs,_,_=>⟨hs,fun y=>by simp⟩|x::f,l,hs,hn,hd=>by obtain⟨n1,n2⟩:=List.nodup_cons.1 hn;have hx: ∀a,a∈l→a.1≠x.1:=fun a ha e=>hd a ha (by rw[e];exact y8 ..);(obtain⟨k1,k2⟩:=LH f (LD l x) (aO4 hs hx) n2 fun a ha=>by rcases Qz.1 ha with rfl|ha;(·exact n1);·exact fun hh=>hd a ha (y7 _ hh));refine⟨k1,fun y=>?_⟩;rw[List.foldl_cons,k2,Qz,List.mem_cons];constructor;(·rintro((h|h)|h);(·exact .inr (.inl h));(·exact .inl h);·exact .inr (.inr h));·rintro(h|h|h);(·exact .inl (.inr h));(·exact .inl (.inl h));·exact .inr h
theorem aO5(h:uk rs):GS rs acc out (bv6 rs acc out):=by
 have hs:=LC (acc:=acc) (out:=out) h (out.length*256+256) [(0,0)] (0,0,1) [] 0 [] (fun _ _=>False) (Ln out) (by have:=Qv (out:=out) (p:=(0,0,1));omega) IG ⟨List.nodup_nil,fun x d hd=>absurd hd wn,fun x c hc=>hc.elim⟩
 (have hS: ∀z d,(False∨Ou rs acc out (0,0,1) [] 0 z d)↔Fh rs acc out z d∧z.length≤40:=fun z d=>by constructor;(·rintro(h1|⟨y,e,h1,rfl,rfl,h4⟩);(·exact h1.elim);·exact⟨by simpa[Fh]using h1,h4⟩);·rintro⟨h1,h2⟩;exact .inr ⟨z,d,h1,by simp,v6,h2⟩)
 have tq:=gd hS hs;obtain⟨k1,k2⟩:=LH _ [] List.Pairwise.nil tq.nodup fun a ha=>absurd ha wn;refine⟨k1,fun x d=>?_⟩;unfold bv6;rw[k2];constructor;(·rintro(h1|h1);(·exact absurd h1 wn);·obtain⟨q1,q2⟩:=tq.sound x d h1;exact⟨⟨q1.1,fun c hc=>q2 c ⟨hc,q1.2⟩⟩,q1.2⟩)
 ·rintro⟨⟨h1,h2⟩,h3⟩;obtain⟨e,he⟩:=tq.all x d ⟨h1,h3⟩;obtain⟨q1,q2⟩:=tq.sound x e he;have h4:=q2 d ⟨h1,h3⟩;have h5:=h2 e q1.1;have e1:e=d:=v6;subst e1;exact .inr he
end Go.Proofs.YtimognngcagphaaGreat.Rev
namespace Go.Proofs.YtimognngcagphaaGreat.Rev
variable {rs:List Rl} {acc:Int} {out:ax}
def isLet(u:UInt8):Prop:=97≤u.toNat∧u.toNat≤122
def aO6(rs:List Rl):Prop:= ∀r,r∈rs→ ∀u,u∈r.2.2.1→isLet u
theorem LI(h:aO6 rs) {p:cV} {x:ax} {c:Int} (hp:Path rs acc out p x c): ∀u,u∈x→isLet u:=by
 induction hp with|done=>intro u hu;cases hu|step hr _ _ ih=>intro u hu;rcases ws hu with hu|hu;(·exact h _ hr u hu);·exact ih u hu
def AK:Nat→Nat→List UInt8|0,_=>[]|n+1,k=>UInt8.ofNat (97+k)::AK n (k+1)
def eK:List UInt8:=AK 26 0
theorem DX:eK=[97,98,99,100,101,102,103,104,105,106,107,108,109,110,111,112,113,114,115,116,117,118,119,120,121,122]:=by decide
theorem AL {u:UInt8} :u∈eK↔isLet u:=by
 rw[DX];unfold isLet;constructor;(·intro h;simp only[List.mem_cons,wn,or_false]at h;rcases h with rfl|rfl|rfl|rfl|rfl|rfl|rfl|rfl|rfl|rfl|rfl|rfl|rfl|rfl|rfl|rfl|rfl|rfl|rfl|rfl|rfl|rfl|rfl|rfl|rfl|rfl<;>decide)
 ·intro h;(have hu:u=UInt8.ofNat u.toNat:=by simp);obtain⟨h1,h2⟩:=h;generalize u.toNat=n at hu h1 h2;(have:n=97∨n=98∨n=99∨n=100∨n=101∨n=102∨n=103∨n=104∨n=105∨n=106∨n=107∨n=108∨n=109∨n=110∨n=111∨n=112∨n=113∨n=114∨n=115∨n=116∨n=117∨n=118∨n=119∨n=120∨n=121∨n=122:=by omega);rcases this with rfl|rfl|rfl|rfl|rfl|rfl|rfl|rfl|rfl|rfl|rfl|rfl|rfl|rfl|rfl|rfl|rfl|rfl|rfl|rfl|rfl|rfl|rfl|rfl|rfl|rfl<;>(rw[hu];decide)
theorem Fl:eK.Nodup:=by rw[DX];decide
def xW(x:ax)(o:Option bf):List FE:=match o with|some w=>[(x,true,w)]|none=>[]
def pE(x:ax)(g:UInt8→Option bf)(l:List UInt8):List FE:=l.filterMap fun a=>match g a with|some w=>some (x++ [a],false,w)|none=>none
theorem kV {x:ax} {o:Option bf} {a:FE} :a∈xW x o↔ ∃w,o=some w∧a=(x,true,w):=by unfold xW;cases o with|none=>simp|some w=>simp
theorem kW {x:ax} {g:UInt8→Option bf} {l:List UInt8} {a:FE} :a∈pE x g l↔ ∃u w,u∈l∧g u=some w∧a=(x++ [u],false,w):=by
 unfold pE;rw[List.mem_filterMap];constructor;(·rintro⟨u,hu,h⟩;cases hg:g u with|none=>rw[hg]at h;cases h|some w=>rw[hg]at h;exact⟨u,w,hu,hg,(Option.some.inj h).symm⟩)
 ·rintro⟨u,w,hu,hg,rfl⟩;exact⟨u,hu,by rw[hg]⟩
theorem xX {x:ax} {u:UInt8} {w:bf} {z:ax} (h:cy (x++ [u],false,w) z): ∃t,z=x++u::t:=by
 unfold cy at h;rw[if_neg (show¬(false=true)by decide)]at h;obtain⟨t,ht⟩:=h;exact⟨t,by rw[←ht];simp⟩
theorem Ov(h:uk rs)(SV:aO6 rs) {H:List FE} {R:List dX} {e:FE} (hf:jY rs acc out (e::H) R)(hd:e.2.1=false) {o:Option bf} (ho:cq (vG rs acc out e.1) o) {g:UInt8→Option bf} (hg: ∀a,a∈eK→cq (jX rs acc out (e.1++ [a])) (g a)):jY rs acc out (H++(xW e.1 o++pE e.1 g eK)) R:=by
 (have Z4:e.1.length≤40:=by obtain⟨y,c,_,hl,_⟩:=(hf.live e (y8 ..) hd).1;rw[y9]at hl;omega);refine Oo hf hd (fun a ha hf=>?_) (fun a ha ht=>?_) (fun z c hi hl hp=>?_) (fun a ha z hc=>?_) ?_
 (·rcases ws ha with ha|ha;(·obtain⟨w,_,rfl⟩:=kV.1 ha;cases hf);·obtain⟨u,w,hu,hw,rfl⟩:=kW.1 ha;have:=hg u hu;rw[hw]at this;exact this);(·rcases ws ha with ha|ha;(·obtain⟨w,rfl,rfl⟩:=kV.1 ha;exact⟨ho,Z4⟩);·obtain⟨u,w,hu,hw,rfl⟩:=kW.1 ha;cases ht)
 (·obtain⟨t,rfl⟩:=hp;cases t with|nil=>rw[List.append_nil]at hi;(cases o with|none=>exact absurd ⟨c,hi,rfl⟩ (ho _)|some w=>refine⟨_,w9 _ (kV.2 ⟨w,rfl,rfl⟩),?_⟩;unfold cy;rw[if_pos rfl,List.append_nil])|cons u t=>have hu:u∈eK:=AL.2 (LI SV hi u (by simp));have hm:=hg u hu;(have e2:e.1++u::t=e.1++ [u]++t:=by simp);rw[e2]at hi hl;cases rN:g u with|none=>rw[rN]at hm;exact absurd ⟨t,c,hi,hl,rfl⟩ (hm _)|some w=>refine⟨_,w5 _ (kW.2 ⟨u,w,hu,rN,rfl⟩),?_⟩;unfold cy;rw[if_neg (show¬(false=true)by decide),e2];exact List.prefix_append ..)
 (·rcases ws ha with ha|ha;(·obtain⟨w,_,rfl⟩:=kV.1 ha;unfold cy at hc;rw[if_pos rfl]at hc;rw[←hc];exact List.prefix_refl _);·obtain⟨u,w,hu,hw,rfl⟩:=kW.1 ha;obtain⟨t,rfl⟩:=xX hc;exact List.prefix_append ..)
 ·rw[List.pairwise_append];refine⟨?_,?_,fun a ha b hb z h1 h2=>?_⟩;(·unfold xW;cases o with|none=>exact List.Pairwise.nil|some w=>exact List.pairwise_singleton ..);(·unfold pE;rw[List.pairwise_filterMap];refine List.Pairwise.imp ?_ Fl;intro a b iu a' Yh b' jf z h1 h2;cases hga:g a with|none=>rw[hga]at Yh;cases Yh|some w=>cases ZI:g b with|none=>rw[ZI]at jf;cases jf|some w'=>rw[hga]at Yh;rw[ZI]at jf;obtain rfl:=Option.some.inj Yh;obtain rfl:=Option.some.inj jf;obtain⟨t,rfl⟩:=xX h1;obtain⟨t',Rr⟩:=xX h2;have:=List.append_cancel_left Rr;injection this with h3 _;exact iu h3);·obtain⟨w,_,rfl⟩:=kV.1 ha;obtain⟨u,w',hu,hw,rfl⟩:=kW.1 hb;obtain⟨t,rfl⟩:=xX h2;unfold cy at h1;rw[if_pos rfl]at h1;have:=congrArg List.length h1;simp at this
theorem SX {K:List Rl} {R L:Int→Prop} (hK: ∀r,r∈rs→R r.1→L r.2.1→r∈K)(hR: ∀r,r∈rs→R r.1→R r.2.1)(bv7: ∀m,gL acc m=true→L m)(hL: ∀r,r∈rs→L r.2.1→L r.1) {p:cV} {x:ax} {c:Int} (hp:Path rs acc out p x c):R p.2.1→Path K acc out p x c∧L p.2.1:=by
 induction hp with| @done p h=>intro _;refine⟨.done h,bv7 _ ?_⟩;unfold jy at h;rw[z8]at h;exact h.2| @step p q r x c hr ha _ ih=>intro hRp;(have Yi:r.1=p.2.1:=by unfold bD at ha;split at ha;(·rename_i h;exact h.1);·cases ha);(have hto:q.2.1=r.2.1:=by unfold bD at ha;split at ha;(·split at ha;(·injection ha with ha;subst ha;rfl);·split at ha;(·injection ha with ha;subst ha;rfl);·cases ha);·cases ha);have h1:=hR r hr (by rw[Yi];exact hRp);obtain⟨k1,k2⟩:=ih (by rw[hto];exact h1);rw[hto]at k2;exact⟨.step (hK r hr (by rw[Yi];exact hRp) k2) ha k1,by rw[←Yi];exact hL r hr k2⟩
theorem SY {K:List Rl} (hK: ∀r,r∈K→r∈rs) {p:cV} {x:ax} {c:Int} (hp:Path K acc out p x c):Path rs acc out p x c:=by
 induction hp with|done h=>exact .done h|step hr ha _ ih=>exact .step (hK _ hr) ha ih
theorem LJ {K:List Rl} (h: ∀x c,Fh K acc out x c↔Fh rs acc out x c) {L:List dX} (hL:GS K acc out L):GS rs acc out L:=⟨hL.srt,fun x d=>by rw[hL.mem];unfold SP;rw[h];constructor;(·rintro⟨⟨a,b⟩,c⟩;exact⟨⟨a,fun e he=>b e ((h x e).2 he)⟩,c⟩);·rintro⟨⟨a,b⟩,c⟩;exact⟨⟨a,fun e he=>b e ((h x e).1 he)⟩,c⟩⟩
def EH(U:List Thread)(B:Nat)(V:Thread→Option Int):Nat:=(U.map fun t=>match V t with|some c=>c.toNat|none=>B).sum
theorem II {U:List Thread} {B:Nat} {V W:Thread→Option Int} (h: ∀t,t∈U→(match W t with|some c=>c.toNat|none=>B)≤(match V t with|some c=>c.toNat|none=>B)):EH U B W≤EH U B V:=by
 unfold EH;induction U with|nil=>exact x8|cons t U ih=>have h1:=h t (y8 ..);have h2:=ih fun u hu=>h u (y7 _ hu);simp only[List.map_cons,List.sum_cons];omega
theorem bv8 {U:List Thread} {B:Nat} {V W:Thread→Option Int} {k:Thread} (hk:k∈U)(h: ∀t,t∈U→(match W t with|some c=>c.toNat|none=>B)≤(match V t with|some c=>c.toNat|none=>B))(cu:(match W k with|some c=>c.toNat|none=>B)<(match V k with|some c=>c.toNat|none=>B)):EH U B W<EH U B V:=by
 unfold EH;induction U with|nil=>cases hk|cons t U ih=>have h1:=h t (y8 ..);simp only[List.map_cons,List.sum_cons];rcases wl hk with rfl|hk;(·have h2:=II (U:=U) (B:=B) (V:=V) (W:=W) fun u hu=>h u (y7 _ hu);unfold EH at h2;omega);·have h2:=ih hk fun u hu=>h u (y7 _ hu);omega
def DY(n:Nat):List cV:=(List.range (n+1)).flatMap fun(a:Nat)=>(List.range 8).flatMap fun(m:Nat)=>(List.range 256).map fun(s:Nat)=>((a:Int),(m:Int),(s:Int))
theorem GW {n:Nat} {p:cV} (h1:0≤p.1∧p.1≤n)(h2:0≤p.2.1∧p.2.1<8)(h3:0≤p.2.2∧p.2.2<256):p∈DY n:=by
 unfold DY;refine List.mem_flatMap.2 ⟨p.1.toNat,List.mem_range.2 v6,List.mem_flatMap.2 ⟨p.2.1.toNat,List.mem_range.2 v6,List.mem_map.2 ⟨p.2.2.toNat,List.mem_range.2 v6,?_⟩⟩⟩
 exact Prod.ext v7 (Prod.ext v7 v7)
theorem SZ(h:uk rs) {x m:ax} {p:cV} {c:Int} (ht:oB rs out x p m c):c+1000*(ms out p:Int)≤1000*((out.length*256+255:Nat):Int):=by
 induction ht with|start=>have:=Qv (out:=out) (p:=(0,0,1));omega| @Bc x p q r c ht hr ha ih=>have:=(eF (qK h ht) (h.mode r hr) ha).2.1;have:=(h.cost r hr).2;omega|Ya _ ih=>exact ih
end Go.Proofs.YtimognngcagphaaGreat.Rev
namespace Go.Proofs.YtimognngcagphaaGreat.Rev
def bv9(rs:List Rl):Prop:= ∀r,r∈rs→r.2.2.1≠ []∨r.1<r.2.1
variable {rs:List Rl} {acc:Int} {inp out:ax}
end Go.Proofs.YtimognngcagphaaGreat.Rev
