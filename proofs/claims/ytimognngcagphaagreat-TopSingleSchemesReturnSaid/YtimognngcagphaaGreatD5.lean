/- Made schemes are sound. Nothing here is trusted; no condition. -/
import Derived.Test.YtimognngcagphaaGreatD4
set_option linter.all false
set_option maxHeartbeats 8000000
set_option maxRecDepth 100000
namespace Go.Proofs.YtimognngcagphaaGreat
section
attribute[local go_sem←]u3 u4 u5
attribute[local go_sem]gH bH ne_eq not_false_eq_true
def kA(r:Rl):Bool:=decide (r.2.2.1≠ []∨r.1<r.2.1)
def cN(x:xE):bR:=((ig x).1,(ig x).2.1,(ig x).2.2.filter kA)
theorem sL(x:xE):gw (cN x)∧Rev.bv9 (cN x).2.2∧(cN x).2.2.length≤9:=by
 obtain⟨h,_,_,h9⟩:=K4 x;have uY:((ig x).2.2.filter kA).Sublist (ig x).2.2:=List.filter_sublist;refine⟨⟨h.n1,h.n8,h.a1,h.a2,Nat.le_trans uY.length_le h.len,fun r hr=>h.right r (uY.subset hr),h.nodup.sublist uY⟩,fun r hr=>?_,Nat.le_trans uY.length_le h9⟩
 have:=(List.mem_filter.1 hr).2;unfold kA at this;exact of_decide_eq_true this
theorem aP8(x:xE):PC env 7 [⟨oy,x⟩] ai (cN x):=by
 have hM:=aN1 x;have dy:=(K4 x).1.len;have hE:cN x=((ig x).1,(ig x).2.1,(ig x).2.2.filter kA):=rfl;rw[hE];generalize ig x=m at*;obtain⟨n,a,rs⟩:=m;dsimp only at dy⊢
 have jR:bytesOf ⟨#[]⟩=([]:ax):=rfl;refine PC.aC (m:=2000) ae bI2 rfl rfl rfl rfl (by kernel_rfl) ?_;intro hx;simp only[Tryz.f7];simp only[go_sem]
 refine⟨_,hM,fun _=>?_⟩;dsimp only;refine ah.bz (X:=Nat×List Rl) (fun(z:Nat×List Rl)=>[(5,.iv (.int .i64) (z.1:Int))]) (fun(z:Nat×List Rl)=>[(4,.box [.iv (.int .i64) n,.iv (.int .u8) a,.aB 50]),(50,.arr ba z.2)]) (fun(z:Nat×List Rl)=>z.1≤rs.length∧z.2=(rs.take z.1).filter kA) (fun(z:Nat×List Rl)=>rs.length-z.1) (0,[]) ?_
 intro b1 b2 aS bd;simp only[go_sem]at aS bd;subst aS;subst bd;refine⟨v8,?_,?_⟩
 (·exact⟨x9,rfl⟩);intro⟨k,L⟩⟨hk,hL⟩back;dsimp only at hk hL;(have hLl:L.length≤64:=by rw[hL];exact Nat.le_trans (List.length_filter_le _ _) (by rw[List.length_take];omega))
 refine av ae ⟨_,bI2,rfl⟩ 2000 _ _ (by kernel_rfl) ?_;simp only[go_sem];refine⟨fun g=>?_,fun g=>?_⟩;(·obtain⟨r,hr⟩: ∃r,rs[k]?=some r:=au v6;(have aY0:(rs.take (k+1)).filter kA=(rs.take k).filter kA++(if kA r=true then[r]else[]):=by rw[dD hr,List.filter_append,List.filter_cons,List.filter_nil]);(have Fe:kA r=true→(L++ [(r.1,r.2.1,r.2.2.1,r.2.2.2.1,r.2.2.2.2)])=(rs.take (k+1)).filter kA:=fun h=>by rw[aY0,if_pos h,hL]);(have oU: ¬kA r=true→L=(rs.take (k+1)).filter kA:=fun h=>by rw[aY0,if_neg h,List.append_nil,hL]);refine⟨x5,r,hr,fun h1=>?_,fun h1=>?_⟩;(·rw[jR]at h1;refine⟨x5,r,hr,x5,r,hr,fun h2=>?_,fun h2=>?_⟩;(·refine⟨x5,r,hr,v6,ak v6 v6,back _ (k+1,L++ [(r.1,r.2.1,r.2.2.1,r.2.2.2.1,r.2.2.2.2)]) v8 ⟨v6,Fe ?_⟩ v7⟩;unfold kA;exact decide_eq_true (.inr h2));·refine⟨ak v6 v6,back _ (k+1,L) v8 ⟨v6,oU ?_⟩ v7⟩;unfold kA;simp only[decide_eq_true_eq];rintro(h|h);(·exact h h1);·exact h2 h);·rw[jR]at h1;refine⟨x5,r,hr,v6,ak v6 v6,back _ (k+1,L++ [(r.1,r.2.1,r.2.2.1,r.2.2.2.1,r.2.2.2.2)]) v8 ⟨v6,Fe ?_⟩ v7⟩;unfold kA;exact decide_eq_true (.inl h1))
 ·rw[wt v6]at hL;rw[hL]
end
section
attribute[local go_sem←]u3 u4 u5
attribute[local go_sem]gH bH ne_eq not_false_eq_true
def bN9(c:Int):UInt8:=([97,65,98,66,99,49]:ax).getD (c%6).toNat 0
def iZ(l:List Int)(n:Nat):ax:=(l.take n).map bN9
theorem bX3: ∀k:Fin 6,(([97,65,98,66,99,49]:ax).drop k.val).take 1=[([97,65,98,66,99,49]:ax).getD k.val 0]:=by decide
theorem G8(l:List Int)(n:Nat):(iZ l n).length≤n:=by unfold iZ;rw[List.length_map,List.length_take];omega
theorem Te(l:List Int)(n:Nat):(iZ l n).all Dv=true:=by
 (have: ∀k:Fin 6,Dv (([97,65,98,66,99,49]:ax).getD k.val 0)=true:=by decide);unfold iZ;rw[List.all_map,List.all_eq_true];intro c _;have:=this ⟨(c%6).toNat,v6⟩
 exact this
theorem YH(l:List Int)(n:Nat)(hn:n≤20):je (iZ l n)=true:=by unfold je;have:=G8 l n;rw[Te,decide_eq_true v6];rfl
theorem OE {l:List Int} {k:Nat} {c:Int} (h:l[k]?=some c):iZ l (k+1)=iZ l k++ [bN9 c]:=by unfold iZ;rw[dD h,List.map_append];rfl
theorem aP9(l:List Int)(n:Int)(hn:0≤n∧n≤20):PC env 10 [⟨.sl (.int .u8),l⟩,⟨.int .i64,n⟩] .str (iZ l n.toNat):=by
 refine PC.aC (m:=2000) ae aV3 rfl rfl rfl rfl (by kernel_rfl) ?_;intro hx;simp only[Tryz.f10];simp only[go_sem]
 have hu:=hx.1.2;have hlen:l.length≤9223372036854775807:=hx.1.1;refine ah.bz (X:=Nat) (fun(k:Nat)=>[(6,.iv (.int .i64) (k:Int)),(5,.iv .str (iZ l k))]) (fun(k:Nat)=>[]) (fun(k:Nat)=>k≤l.length∧(k:Int)≤n) (fun(k:Nat)=>l.length-k) 0 ?_
 intro b1 b2 aS bd;simp only[go_sem]at aS bd;subst aS;subst bd;refine⟨v8,?_,?_⟩
 (·exact⟨x9,v6⟩);intro k⟨hk,hkn⟩back;refine av ae ⟨_,aV3,rfl⟩ 2000 _ _ (by kernel_rfl) ?_;simp only[go_sem]
 refine⟨fun h1=>⟨fun h2=>?_,fun h2=>?_⟩,fun h1=>?_⟩;(·obtain⟨x,nz⟩: ∃x,l[k]?=some x:=au v6;have hxr:0≤x∧x≤255:=nj (hu x (x7 nz));have hm:Int.tmod x 6=x%6:=Int.tmod_eq_emod_of_nonneg hxr.1;have C0:=bX3 ⟨(x%6).toNat,v6⟩;dsimp only at C0;(have hd:(x%6+1).toNat-(x%6).toNat=1:=by omega);have hl6:(bytesOf { data:= #[97,65,98,66,99,49] }).length=6:=rfl;have Z1:bytesOf { data:= #[97,65,98,66,99,49] } =[97,65,98,66,99,49]:=rfl;have cu:=G8 l k;refine⟨x5,x,nz,x5,x,nz,v6,v6,?_,ak v6 v6,?_⟩;(·rw[hm,hd,Z1,C0];simp only[x6,List.length_nil];omega);·have hs6:iZ l k++ [([97,65,98,66,99,49]:ax).getD (x%6).toNat 0]=iZ l (k+1):=(OE nz).symm;rw[hm,hd,Z1,C0,hs6];exact back _ (k+1) v8 ⟨v6,v6⟩ v6)
 (·(have:k=n.toNat:=by omega);rw[this]);·unfold iZ;rw[wt v6,wt v6]
end
section
def hasB(l m:Int):Bool:=l.toNat.testBit m.toNat
def um(m:Int):Int:=((2^m.toNat:Nat):Int)
def vL(l m:Int):Int:=((l.toNat ||| (um m).toNat:Nat):Int)
theorem Tf {m:Int} (h:0≤m∧m<8):2^m.toNat≤128:=by(have: ∀k,k<8→2^k≤128:=by decide);exact this _ v6
theorem qP {m:Int} (h:0≤m∧m<8):0≤um m∧um m≤255:=by have:=Tf h;unfold um;generalize 2^m.toNat=z at*;omega
theorem BJ(m k:Int)(hm:0≤m)(hk:0≤k):hasB (um m) k=decide (m=k):=by unfold hasB um;rw[Int.toNat_natCast,Nat.testBit_two_pow];apply decide_eq_decide.2;omega
theorem qQ(l m k:Int)(hm:0≤m)(hk:0≤k):hasB (vL l m) k=(hasB l k||decide (m=k)):=by
 unfold vL hasB;rw[Int.toNat_natCast,Nat.testBit_or];congr 1;have:=BJ m k hm hk;unfold hasB at this;exact this
theorem OF {l m:Int} (hl:0≤l∧l≤255)(hm:0≤m∧m<8):0≤vL l m∧vL l m≤255:=by
 have h1:=qP hm;unfold vL;have:l.toNat ||| (um m).toNat<2^8:=Nat.or_lt_two_pow v6 v6;omega
theorem aQ0(l m:Int)(hm:0≤m):(((l.toNat &&& (um m).toNat:Nat):Int)=0)↔hasB l m=false:=by
 unfold hasB um;rw[Int.toNat_natCast];constructor;(·intro h;have h0:l.toNat &&& 2^m.toNat=0:=v6;(have h1:(l.toNat &&& 2^m.toNat).testBit m.toNat=false:=by rw[h0];simp);rw[Nat.testBit_and,Nat.testBit_two_pow]at h1;simpa using h1)
 ·intro h;(have h0:l.toNat &&& 2^m.toNat=0:=by apply Nat.eq_of_testBit_eq;intro i;rw[Nat.zero_testBit,Nat.testBit_and,Nat.testBit_two_pow];by_cases e:m.toNat=i;(·subst e;rw[h];rfl);·simp[e]);rw[h0];rfl
theorem YI {a b:Int} (ha:0≤a∧a≤255)(hb:0≤b∧b≤255)(h: ∀m:Int,0≤m→m<8→hasB a m=true→hasB b m=true):((a.toNat &&& (2^8-1-b.toNat):Nat):Int)=0:=by
 (have:a.toNat &&& (2^8-1-b.toNat)=0:=by apply Nat.eq_of_testBit_eq;intro i;rw[Nat.zero_testBit,Nat.testBit_and,Nat.sub_sub,Nat.add_comm 1,Nat.testBit_two_pow_sub_succ v6];by_cases hi:i<8;(·have:=h (i:Int) v6 v6;unfold hasB at this;simp only[Int.toNat_natCast]at this;cases h1:a.toNat.testBit i;(·simp);·simp[hi,this h1]);·simp[hi])
 omega
def bP(r:Rl):Bool:=decide (r.2.2.1=[])
inductive QK(rs:List Rl)(P:Rl→Bool):Int→Int→Prop|one {r:Rl} :r∈rs→P r=true→QK rs P r.1 r.2.1|snoc {a:Int} {r:Rl} :QK rs P a r.1→r∈rs→P r=true→QK rs P a r.2.1
def zw(l:Int)(r:Rl):Int:=if hasB l r.1=true then vL l r.2.1 else l
def rf(l:Int)(r:Rl):Int:=if hasB l r.2.1=true then vL l r.1 else l
def nq(f:Int→Rl→Int)(rs:List Rl):Nat→Int→Int|0,l=>l|n+1,l=>nq f rs n (rs.foldl f l)
def iM(s:bR):Int:=nq zw s.2.2 s.1.toNat 1
def kB(s:bR):Int:=nq rf s.2.2 s.1.toNat s.2.1
theorem vM(f:Int→Rl→Int)(rs:List Rl): ∀(n:Nat)(l:Int),nq f rs (n+1) l=rs.foldl f (nq f rs n l)|0,l=>rfl|n+1,l=>vM f rs n (rs.foldl f l)
theorem sM {f:Int→Rl→Int} {rs:List Rl} {l:Int} {i:Nat} {r:Rl} (h:rs[i]?=some r):(rs.take (i+1)).foldl f l=f ((rs.take i).foldl f l) r:=by
 rw[List.take_add_one,h,List.foldl_append];rfl
def okM(n:Int)(r:Rl):Prop:=0≤r.1∧r.1<n∧0≤r.2.1∧r.2.1<n
theorem QL {n l:Int} {r:Rl} (hn:n≤8)(hr:okM n r)(hl:0≤l∧l≤255):0≤zw l r∧zw l r≤255:=by unfold zw;obtain⟨h1,h2,h3,h4⟩:=hr;split;(·exact OF hl ⟨h3,v6⟩);·exact hl
theorem QM {n l:Int} {r:Rl} (hn:n≤8)(hr:okM n r)(hl:0≤l∧l≤255):0≤rf l r∧rf l r≤255:=by unfold rf;obtain⟨h1,h2,h3,h4⟩:=hr;split;(·exact OF hl ⟨h1,v6⟩);·exact hl
theorem BK {f:Int→Rl→Int} : ∀ {rs:List Rl} {l:Int},(∀r,r∈rs→ ∀l,0≤l∧l≤255→0≤f l r∧f l r≤255)→0≤l∧l≤255→0≤rs.foldl f l∧rs.foldl f l≤255|[],_,_,h=>h|r::rs,l,hf,h=>BK (rs:=rs) (fun x hx=>hf x (y7 _ hx)) (hf r (y8 ..) l h)
theorem xZ {f:Int→Rl→Int} {rs:List Rl} (hf: ∀r,r∈rs→ ∀l,0≤l∧l≤255→0≤f l r∧f l r≤255): ∀ {n:Nat} {l:Int},0≤l∧l≤255→0≤nq f rs n l∧nq f rs n l≤255|0,_,h=>h|n+1,_,h=>xZ hf (n:=n) (BK hf h)
theorem gw.qZ {s:bR} (hs:gw s): ∀r,r∈s.2.2→okM s.1 r:=by intro r hr;have:=bk (hs.right r hr);exact⟨v6,v6,v6,v6⟩
theorem IY {s:bR} (hs:gw s):0≤s.2.1∧s.2.1≤255:=by
 have h1:=hs.a1;have h2:=hs.a2;have h3:=hs.n1;have h4:=hs.n8;(have: ∀m:Nat,m<9→(2:Int)^m≤256:=by decide);have:=this s.1.toNat v6;omega
theorem zx {s:bR} (hs:gw s):0≤iM s∧iM s≤255:=xZ (fun r hr l hl=>QL hs.n8 (hs.qZ r hr) hl) ⟨by decide,by decide⟩
theorem Ee {s:bR} (hs:gw s):0≤kB s∧kB s≤255:=xZ (fun r hr l hl=>QM hs.n8 (hs.qZ r hr) hl) (IY hs)
end
section
attribute[local go_sem←]u3 u4 u5
attribute[local go_sem]gH bH ne_eq not_false_eq_true
theorem AN(m:Int)(hm:0≤m∧m<8):PC env 105 [⟨.int .i64,m⟩] (.int .u8) (um m):=by
 refine PC.aC (m:=2000) ae br7 rfl rfl rfl rfl (by kernel_rfl) ?_;intro hx;simp only[Tryz.f105];simp only[go_sem]
 have h1:=qP hm;(have e:(1:Int)*2^m.toNat=um m:=by unfold um;rw[Int.one_mul];push_cast;rfl);refine⟨⟨hm.1,hm.2⟩,?_⟩;rw[e];exact⟨⟨h1.1,h1.2⟩,rfl⟩
theorem AO(l m:Int)(hl:0≤l∧l≤255)(hm:0≤m∧m<8):PC env 55 [⟨.int .u8,l⟩,⟨.int .i64,m⟩] .bool (hasB l m):=by
 refine PC.aC (m:=2000) ae bK2 rfl rfl rfl rfl (by kernel_rfl) ?_;intro hx;simp only[Tryz.f55];simp only[go_sem]
 have h1:=qP hm;refine⟨_,AN m hm,fun _=>⟨⟨hl.1,h1.1⟩,?_⟩⟩;have:=aQ0 l m hm.1;cases h:hasB l m;(·rw[h]at this;simp[this.2 rfl]);·rw[h]at this;simp only[Bool.true_eq_false,iff_false]at this;simp;exact fun h0=>this (by rw[h0];rfl)
theorem aQ1(r:Rl):PC env 107 [⟨ba,r⟩] .bool (bP r):=by
 obtain⟨f,t,i,o,c⟩:=r;refine PC.aC (m:=2000) ae br8 rfl rfl rfl rfl (by kernel_rfl) ?_;intro hx;simp only[Tryz.f107];simp only[go_sem]
 rfl
theorem Ef(s:bR)(hs:gw s):PC env 56 [⟨ai,s⟩] (.int .u8) (iM s):=by
 have ha:=IY hs;obtain⟨n,a,rs⟩:=s;have wb:=hs.n8;have MQ:=hs.n1;have hlen:=hs.len;have hM:=hs.qZ;have hT:iM (n,a,rs)=nq zw rs n.toNat 1:=rfl;rw[hT];clear hT;dsimp only at wb MQ hlen hM ha
 have hF: ∀r,r∈rs→ ∀l,0≤l∧l≤255→0≤zw l r∧zw l r≤255:=fun r hr l hl=>QL wb (hM r hr) hl;generalize hT:nq zw rs n.toNat 1=T;refine PC.aC (m:=2000) ae Xy rfl rfl rfl rfl (by kernel_rfl) ?_
 intro hx;simp only[Tryz.f56];simp only[go_sem];refine⟨_,AN 0 ⟨by decide,by decide⟩,fun _=>?_⟩;refine ah.bz (X:=Nat×Int) (fun(z:Nat×Int)=>[(9,.iv (.int .i64) (z.1:Int)),(3,.iv (.int .u8) z.2),(5,.any)]) (fun(z:Nat×Int)=>[]) (fun(z:Nat×Int)=>z.1≤n.toNat∧z.2=nq zw rs z.1 1) (fun(z:Nat×Int)=>n.toNat-z.1) (0,1) ?_
 intro b1 b2 aS bd;simp only[go_sem]at aS bd;subst aS;subst bd;refine⟨v8,?_,?_⟩
 (·exact⟨x9,rfl⟩);intro⟨k,L⟩⟨hk,hL⟩back;dsimp only at hk hL;(have Jh:0≤L∧L≤255:=by rw[hL];exact xZ hF ⟨by decide,by decide⟩);refine av ae ⟨_,Xy,rfl⟩ 2000 _ _ (by kernel_rfl) ?_
 simp only[go_sem];refine⟨fun h=>?_,fun h=>?_⟩;(·refine ah.bz (X:=Nat×Int) (fun(z:Nat×Int)=>[(14,.iv (.int .i64) (z.1:Int)),(3,.iv (.int .u8) z.2),(5,.any)]) (fun(z:Nat×Int)=>[]) (fun(z:Nat×Int)=>z.1≤rs.length∧z.2=(rs.take z.1).foldl zw L) (fun(z:Nat×Int)=>rs.length-z.1) (0,L) ?_;intro b1 b2 aS bd;simp only[go_sem]at aS bd;subst aS;subst bd;refine⟨v8,?_,?_⟩;(·exact⟨x9,rfl⟩);intro⟨i,M⟩⟨hi,YJ⟩bu;dsimp only at hi YJ;(have hL2:0≤M∧M≤255:=by rw[YJ];exact BK (fun r hr=>hF r (List.mem_of_mem_take hr)) Jh);refine av ae ⟨_,Xy,rfl⟩ 2000 _ _ (by kernel_rfl) ?_;simp only[go_sem];refine⟨fun h=>?_,fun h=>?_⟩;(·obtain⟨r,hr⟩: ∃r,rs[i]?=some r:=au v6;have hm:=hM r (x7 hr);have cw:=sM (f:=zw) (l:=L) hr;rw[←YJ]at cw;refine⟨x5,r,hr,?_⟩;have d:=AO M r.1 hL2 ⟨hm.1,by have:=hm.2.1;omega⟩;have dZ:zw M r=if hasB M r.1=true then vL M r.2.1 else M:=rfl;refine⟨_,d,?_⟩;cases hb:hasB M r.1;(·rw[hb]at dZ;simp only[go_sem];exact⟨ak v6 v6,bu _ (i+1,M) v8 ⟨v7,by dsimp only;rw[cw,dZ];rfl⟩ v7⟩);·rw[hb]at dZ;simp only[go_sem];have h1:=qP (m:=r.2.1) ⟨hm.2.2.1,by have:=hm.2.2.2;omega⟩;exact⟨_,AN r.2.1 ⟨hm.2.2.1,by have:=hm.2.2.2;omega⟩,fun _=>⟨⟨hL2.1,h1.1⟩,ak v6 v6,bu _ (i+1,vL M r.2.1) v8 ⟨v7,by dsimp only;rw[cw,dZ];rfl⟩ v7⟩⟩);·have e:i=rs.length:=v6;subst e;rw[List.take_length]at YJ;exact⟨ak v6 v6,back _ (k+1,M) v8 ⟨v7,by dsimp only;rw[vM,←hL,YJ]⟩ v7⟩)
 ·have e:k=n.toNat:=v6;subst e;rw[←hT,←hL]
theorem QN(s:bR)(hs:gw s):PC env 54 [⟨ai,s⟩] (.int .u8) (kB s):=by
 have ha:=IY hs;obtain⟨n,a,rs⟩:=s;have wb:=hs.n8;have MQ:=hs.n1;have hlen:=hs.len;have hM:=hs.qZ;have hT:kB (n,a,rs)=nq rf rs n.toNat a:=rfl;rw[hT];clear hT;dsimp only at wb MQ hlen hM ha
 have hF: ∀r,r∈rs→ ∀l,0≤l∧l≤255→0≤rf l r∧rf l r≤255:=fun r hr l hl=>QM wb (hM r hr) hl;generalize hT:nq rf rs n.toNat a=T;refine PC.aC (m:=2000) ae Xx rfl rfl rfl rfl (by kernel_rfl) ?_
 intro hx;simp only[Tryz.f54];simp only[go_sem];refine ah.bz (X:=Nat×Int) (fun(z:Nat×Int)=>[(10,.iv (.int .i64) (z.1:Int)),(3,.iv (.int .u8) z.2),(5,.any)]) (fun(z:Nat×Int)=>[]) (fun(z:Nat×Int)=>z.1≤n.toNat∧z.2=nq rf rs z.1 a) (fun(z:Nat×Int)=>n.toNat-z.1) (0,a) ?_
 intro b1 b2 aS bd;simp only[go_sem]at aS bd;subst aS;subst bd;refine⟨v8,?_,?_⟩
 (·exact⟨x9,rfl⟩);intro⟨k,L⟩⟨hk,hL⟩back;dsimp only at hk hL;(have Jh:0≤L∧L≤255:=by rw[hL];exact xZ hF ha);refine av ae ⟨_,Xx,rfl⟩ 2000 _ _ (by kernel_rfl) ?_
 simp only[go_sem];refine⟨fun h=>?_,fun h=>?_⟩;(·refine ah.bz (X:=Nat×Int) (fun(z:Nat×Int)=>[(15,.iv (.int .i64) (z.1:Int)),(3,.iv (.int .u8) z.2),(5,.any)]) (fun(z:Nat×Int)=>[]) (fun(z:Nat×Int)=>z.1≤rs.length∧z.2=(rs.take z.1).foldl rf L) (fun(z:Nat×Int)=>rs.length-z.1) (0,L) ?_;intro b1 b2 aS bd;simp only[go_sem]at aS bd;subst aS;subst bd;refine⟨v8,?_,?_⟩;(·exact⟨x9,rfl⟩);intro⟨i,M⟩⟨hi,YJ⟩bu;dsimp only at hi YJ;(have hL2:0≤M∧M≤255:=by rw[YJ];exact BK (fun r hr=>hF r (List.mem_of_mem_take hr)) Jh);refine av ae ⟨_,Xx,rfl⟩ 2000 _ _ (by kernel_rfl) ?_;simp only[go_sem];refine⟨fun h=>?_,fun h=>?_⟩;(·obtain⟨r,hr⟩: ∃r,rs[i]?=some r:=au v6;have hm:=hM r (x7 hr);have cw:=sM (f:=rf) (l:=L) hr;rw[←YJ]at cw;refine⟨x5,r,hr,?_⟩;have d:=AO M r.2.1 hL2 ⟨hm.2.2.1,by have:=hm.2.2.2;omega⟩;have dZ:rf M r=if hasB M r.2.1=true then vL M r.1 else M:=rfl;refine⟨_,d,?_⟩;cases hb:hasB M r.2.1;(·rw[hb]at dZ;simp only[go_sem];exact⟨ak v6 v6,bu _ (i+1,M) v8 ⟨v7,by dsimp only;rw[cw,dZ];rfl⟩ v7⟩);·rw[hb]at dZ;simp only[go_sem];have h1:=qP (m:=r.1) ⟨hm.1,by have:=hm.2.1;omega⟩;exact⟨_,AN r.1 ⟨hm.1,by have:=hm.2.1;omega⟩,fun _=>⟨⟨hL2.1,h1.1⟩,ak v6 v6,bu _ (i+1,vL M r.1) v8 ⟨v7,by dsimp only;rw[cw,dZ];rfl⟩ v7⟩⟩);·have e:i=rs.length:=v6;subst e;rw[List.take_length]at YJ;exact⟨ak v6 v6,back _ (k+1,M) v8 ⟨v7,by dsimp only;rw[vM,←hL,YJ]⟩ v7⟩)
 ·have e:k=n.toNat:=v6;subst e;rw[←hT,←hL]
end
section
attribute[local go_sem←]u3 u4 u5
attribute[local go_sem]gH bH ne_eq not_false_eq_true
def YK:List Int→PV|[]=>.bO|x::l=>.iv (.sl (.int .i64)) (x::l)
theorem L5: ∀ {l:List Int},l≠ []→YK l= .iv (.sl (.int .i64)) l|[],h=>absurd rfl h|_::_,_=>rfl
theorem countP_le {α:Type} {p p':α→Bool} : ∀ {l:List α},(∀x,x∈l→p' x=true→p x=true)→l.countP p'≤l.countP p|[],_=>x8|y::l,h=>by have ih:=countP_le (l:=l) fun x hx=>h x (y7 _ hx);have hy:=h y (y8 ..);simp only[List.countP_cons];cases h1:p' y<;>cases h2:p y<;>simp_all;omega
theorem G9 {α:Type} {p p':α→Bool} {x:α} : ∀ {l:List α},(∀x,x∈l→p' x=true→p x=true)→x∈l→p x=true→p' x=false→l.countP p'+1≤l.countP p|y::l,h,hm,h1,h2=>by have hh: ∀x,x∈l→p' x=true→p x=true:=fun x hx=>h x (y7 _ hx);have hy:=h y (y8 ..);simp only[List.countP_cons];rcases wl hm with rfl|hm;(·have:=countP_le hh;simp[h1,h2];omega);·have:=G9 hh hm h1 h2;cases h3:p' y<;>cases h4:p y<;>simp_all;omega
def uE(s:Int):Nat:=(List.range 8).countP fun(m:Nat)=>!hasB s (m:Int)
theorem zy {s m:Int} (hm:0≤m∧m<8)(h:hasB s m=false):uE (vL s m)+1≤uE s:=by
 unfold uE;(have e:((m.toNat:Nat):Int)=m:=by omega);refine G9 (x:=m.toNat) (fun k hk hp=>?_) (List.mem_range.2 v6) (by rw[e,h];rfl) (by rw[e,qQ _ _ _ hm.1 hm.1];simp)
 rw[qQ _ _ _ hm.1 v6]at hp;cases h1:hasB s (k:Int);(·rfl);·rw[h1]at hp;simp at hp
structure Be(rs:List Rl)(P:Rl→Bool)(start:Int)(q:List Int)(ch:List (List Int))(seen:Int):Prop where
 len:ch.length=8
 small: ∀c,c∈ch→c.length+uE seen≤8
 oc:0≤seen∧seen≤255
 nodup:q.Nodup
 each: ∀m,m∈q→0≤m∧m<8∧hasB seen m=true∧(m=start∨QK rs P start m)
theorem Be.rM {rs:List Rl} {P:Rl→Bool} {start:Int} {q:List Int} {ch:List (List Int)} {seen:Int} (h:Be rs P start q ch seen):q.length≤8:=tO 8 q h.nodup fun x hx=>⟨(h.each x hx).1,(h.each x hx).2.1⟩
theorem Be.room {rs:List Rl} {P:Rl→Bool} {start:Int} {q:List Int} {ch:List (List Int)} {seen to:Int} (h:Be rs P start q ch seen)(ht:0≤to∧to<8)(hn:hasB seen to=false):q.length<8:=by
 (have:=tO 8 (to::q) (List.nodup_cons.2 ⟨fun hm=>(by have h1:=(h.each to hm).2.2.1;rw[hn]at h1;exact absurd h1 (by decide)),h.nodup⟩) fun x hx=>by rcases wl hx with rfl|hx;(·exact ht);·exact⟨(h.each x hx).1,(h.each x hx).2.1⟩)
 simp only[x6]at this;omega
theorem Be.pop {rs:List Rl} {P:Rl→Bool} {start m:Int} {q:List Int} {ch:List (List Int)} {seen:Int} (h:Be rs P start (m::q) ch seen):Be rs P start q ch seen:=⟨h.len,h.small,h.oc,(List.nodup_cons.1 h.nodup).2,fun x hx=>h.each x (y7 _ hx)⟩
theorem Be.push {rs:List Rl} {P:Rl→Bool} {start to:Int} {q:List Int} {ch:List (List Int)} {seen:Int} {c:List Int} (h:Be rs P start q ch seen)(ht:0≤to∧to<8)(hn:hasB seen to=false)(hc:QK rs P start to)(hl:c.length+uE seen≤9):Be rs P start (q++ [to]) (ch.set to.toNat c) (vL seen to):=by
 refine⟨by simp[h.len],fun x hx=>?_,OF h.oc ht,?_,fun x hx=>?_⟩;(·have hu:=zy ht hn;rcases List.mem_or_eq_of_mem_set hx with hx|rfl;(·have:=h.small x hx;omega);·omega)
 (·refine List.nodup_append.2 ⟨h.nodup,by simp,fun a ha b hb=>?_⟩;rw[List.mem_singleton]at hb;subst hb;intro e;subst e;have:=(h.each a ha).2.2.1;rw[hn]at this;cases this)
 ·rcases ws hx with hx|hx;(·obtain⟨h1,h2,h3,h4⟩:=h.each x hx;exact⟨h1,h2,by rw[qQ _ _ _ ht.1 h1,h3];rfl,h4⟩);·rw[List.mem_singleton]at hx;subst hx;exact⟨ht.1,ht.2,by rw[qQ _ _ _ ht.1 ht.1];simp,.inr hc⟩
theorem YL(xs:List Int)(hl:xs.length≤1000):HN env 136 [.iv (.sl (.int .i64)) xs] [] .bool (fun r=>r=true→xs=[]) (fun r=>match r with|true=>.bO|false=>.aB 5) (fun r=>match r with|true=>[]|false=>[(5,.arr (.int .i64) xs)]):=by
 refine HN.aC (m:=2000) ae bt1 rfl rfl rfl rfl (by kernel_rfl) ?_;intro hx gD;simp only[Tryz.f136];simp only[go_sem]
 intro r hr;cases r;(·simp only[go_sem];refine⟨Nat.le_trans hl (by decide),false,hr,?_⟩;simp only[go_sem])
 ·simp only[go_sem];refine⟨true,hr,?_⟩;simp only[go_sem]
end
section
attribute[local go_sem←]u3 u4 u5
attribute[local go_sem]gH bH ne_eq not_false_eq_true St.fin
theorem gF(ks:List Nat): ∀(l:List Int),PV.gm ks (ints l)=true|[]=>rfl|_::l=>by simp only[ints,List.map_cons,PV.gm,PV.uJ,Bool.true_and];exact gF ks l
theorem bq(ks:List Nat): ∀(l:List Int),PV.cK ks (ints l)=ints l|[]=>rfl|_::l=>by simp only[ints,List.map_cons,PV.cK,PV.kill];exact congrArg _ (bq ks l)
theorem br(ks:List Nat)(bl:List (Nat×aQ)): ∀(l:List Int),PV.iR ks bl (ints l)=ints l|[]=>rfl|_::l=>by simp only[ints,List.map_cons,PV.iR,PV.aO];exact congrArg _ (br ks bl l)
theorem gG(s t:St): ∀(ps:List PV),NC s t ps ps|[]=>trivial|p::ps=>⟨.inl rfl,gG s t ps⟩
theorem L6(s:bR)(hs:gw s)(start goal:Int)(cw:0≤start∧start<8)(hg:0≤goal∧goal≤255):HN env 106 [.iv ai s,.iv (.int .i64) start,.iv (.int .u8) goal,.iv .aL 107] [] (.sl (.int .i64)) (fun r=>r≠ []→ ∃to,0≤to∧to<8∧hasB goal to=true∧QK s.2.2 bP start to) YK (fun _=>[]):=by
 obtain⟨n,a,rs⟩:=s;have wb:=hs.n8;have hlen:=hs.len;have hM:=hs.qZ;dsimp only at wb hlen hM;refine HN.aC (m:=2000) ae N9 rfl rfl rfl rfl (by kernel_rfl) ?_;intro hx gD
 simp only[Tryz.f106];simp only[go_sem,bq,br];refine ah.spec ae 0 rfl _ rfl rfl rfl ?_;refine KJ ae (cap:=8) rfl rfl rfl rfl rfl rfl rfl (by decide) rfl rfl ?_
 refine dB.eS ae (m:=2000) 1 rfl rfl rfl (by kernel_rfl) ?_;simp only[go_sem,bq,br];refine⟨_,AN start cw,fun h1=>?_⟩
 refine ah.spec ae 2 rfl _ rfl rfl (Or.inl (Or.inl rfl)) ?_;simp only[go_sem,bq,br];refine Ih rfl rfl rfl rfl rfl rfl rfl (by decide) ?_
 refine dB.eS ae (m:=2000) 3 rfl rfl rfl (by kernel_rfl) ?_;simp only[go_sem,bq,br];refine ah.bz (X:=List Int×List (List Int)×Int×Nat×Nat) (fun(z:List Int×List (List Int)×Int×Nat×Nat)=>[(11,.iv (.int .u8) z.2.2.1),(12,.any),(13,.any),(14,.any),(15,.any)]) (fun(z:List Int×List (List Int)×Int×Nat×Nat)=>[(16,.gh (P8 8 z.2.2.2.1 z.2.2.2.2) (ints z.1)),(17,.arr (.sl (.int .i64)) z.2.1)]) (fun(z:List Int×List (List Int)×Int×Nat×Nat)=>Be rs bP start z.1 z.2.1 z.2.2.1) (fun(z:List Int×List (List Int)×Int×Nat×Nat)=>uE z.2.2.1*10+z.1.length) ([start],List.replicate 8 [],um start,1,0) ?_
 intro b1 b2 aS bd;simp(config:= {maxSteps:=4000000})only[go_sem,bq,br]at aS bd;subst aS;subst bd;refine⟨(by refine⟨?_,?_,rfl,(by first|rfl|(simp[gP,iA,keys,PV.uJ,PV.gm,ao,gF]))⟩<;>repeat' (first|exact trivial|exact Or.inl rfl|exact Or.inr rfl|apply aV|apply aW|apply aX|apply bg|exact⟨(by show(_:Nat)<1000000000;omega),rfl,rfl⟩|rfl|exact gG _ _ _|(refine And.intro (Or.inl ?_) ?_)|(refine And.intro ?_ ?_))),?_,?_⟩
 (·refine⟨by simp,fun c hc=>?_,qP cw,by simp,fun m hm=>?_⟩;(·rw[List.mem_replicate]at hc;rw[hc.2];(have:uE (um start)≤8:=by unfold uE;exact List.countP_le_length);simpa using this);·rw[List.mem_singleton]at hm;subst hm;exact⟨cw.1,cw.2,by rw[BJ _ _ cw.1 cw.1];simp,.inl rfl⟩)
 intro⟨q,ch,seen,sn,rc⟩hQ back;dsimp only at hQ;have lN:=hQ.rM;refine av ae ⟨_,N9,rfl⟩ 2000 _ _ (by kernel_rfl) ?_;simp only[go_sem,bq,br]
 refine ah.spec ae 1 rfl _ rfl rfl (Or.inl rfl) ?_;simp only[go_sem,bq,br];refine VP ae (ts:=0) rfl rfl rfl rfl rfl rfl rfl v6 ?_
 refine dB.eS ae (m:=2000) 2 rfl rfl rfl (by kernel_rfl) ?_;simp only[go_sem,bq,br];refine⟨fun hq0=>?_,fun hq0=>?_⟩
 (·(obtain⟨m,q,rfl⟩: ∃m q',q=m::q':=by cases q with|nil=>simp at hq0|cons m q=>exact⟨m,q,rfl⟩);have hQ1:=hQ.pop;obtain⟨hm0,hm8,TL,hmr⟩:=hQ.each m (y8 ..);refine ah.spec ae 1 rfl _ rfl rfl (Or.inl rfl) ?_;simp only[go_sem,bq,br];refine ai8 ae rfl rfl rfl rfl rfl rfl rfl rfl rfl ?_;refine dB.eS ae (m:=2000) 2 rfl rfl rfl (by kernel_rfl) ?_;simp only[go_sem,bq,br];generalize hN:uE seen*10+q.length=N;clear hq0;refine ah.bz (X:=Nat×List Int×List (List Int)×Int×Nat×Nat) (fun(z:Nat×List Int×List (List Int)×Int×Nat×Nat)=>[(30,.iv (.int .i64) (z.1:Int)),(11,.iv (.int .u8) z.2.2.2.1),(13,.any),(14,.any),(15,.any)]) (fun(z:Nat×List Int×List (List Int)×Int×Nat×Nat)=>[(16,.gh (P8 8 z.2.2.2.2.1 z.2.2.2.2.2) (ints z.2.1)),(17,.arr (.sl (.int .i64)) z.2.2.1)]) (fun(z:Nat×List Int×List (List Int)×Int×Nat×Nat)=>z.1≤rs.length∧Be rs bP start z.2.1 z.2.2.1 z.2.2.2.1∧uE z.2.2.2.1*10+z.2.1.length≤N) (fun(z:Nat×List Int×List (List Int)×Int×Nat×Nat)=>rs.length-z.1) (0,q,ch,seen,sn,rc+1) ?_;intro b1 b2 aS bd;simp(config:= {maxSteps:=4000000})only[go_sem,bq,br]at aS bd;subst aS;subst bd;refine⟨(by refine⟨?_,?_,rfl,(by first|rfl|(simp[gP,iA,keys,PV.uJ,PV.gm,ao,gF]))⟩<;>repeat' (first|exact trivial|exact Or.inl rfl|exact Or.inr rfl|apply aV|apply aW|apply aX|apply bg|exact⟨(by show(_:Nat)<1000000000;omega),rfl,rfl⟩|rfl|exact gG _ _ _|(refine And.intro (Or.inl ?_) ?_)|(refine And.intro ?_ ?_))),?_,?_⟩;(·exact⟨x9,hQ1,v7⟩);intro⟨i,q2,ch2,pG,sn2,rc2⟩⟨hi,EJ,hN2⟩bu;dsimp only at hi EJ hN2;refine av ae ⟨_,N9,rfl⟩ 2000 _ _ (by kernel_rfl) ?_;simp only[go_sem,bq,br];refine⟨fun g1=>?_,fun g1=>?_⟩;(·obtain⟨⟨f,t,uJ,out,c⟩,hr⟩: ∃r,rs[i]?=some r:=au v6;have eg:=x7 hr;have hm:=hM _ eg;obtain⟨hf0,cW,L7,htn⟩:=hm;dsimp only at hf0 cW L7 htn;refine⟨x5,(f,t,uJ,out,c),hr,fun g2=>?_,fun g2=>?_⟩;(·dsimp only at g2;refine⟨_,aQ1 _,?_⟩;cases vN:bP (f,t,uJ,out,c);(·simp only[go_sem,bq,br];exact⟨ak v6 v6,bu _ (i+1,q2,ch2,pG,sn2,rc2) (by refine⟨?_,?_,rfl,(by first|rfl|(simp[gP,iA,keys,PV.uJ,PV.gm,ao,gF]))⟩<;>repeat' (first|exact trivial|exact Or.inl rfl|exact Or.inr rfl|apply aV|apply aW|apply aX|apply bg|exact⟨(by show(_:Nat)<1000000000;omega),rfl,rfl⟩|rfl|exact gG _ _ _|(refine And.intro (Or.inl ?_) ?_)|(refine And.intro ?_ ?_))) ⟨v7,EJ,hN2⟩ v7⟩);·(have Nx:QK rs bP start t:=by rcases hmr with e|h;(·have:=QK.one (P:=bP) eg vN;dsimp only at this;rw[g2,e]at this;exact this);·rw[←g2]at h;exact QK.snoc h eg vN);simp only[go_sem,bq,br];obtain⟨xs,ET⟩: ∃x,ch2[m.toNat]?=some x:=au (by rw[EJ.len];omega);have EV:=EJ.small xs (x7 ET);refine⟨⟨hm0,by rw[EJ.len];omega⟩,xs,ET,_,_,_,_,YL xs v6,fun r hY=>?_⟩;cases r;(·refine⟨rfl,fun _ _=>?_⟩;simp only[go_sem,bq,br];refine⟨v6,_,AO goal t hg ⟨L7,v6⟩,?_⟩;cases MF:hasB goal t;(·simp only[go_sem,bq,br];refine⟨_,AO pG t EJ.oc ⟨L7,v6⟩,?_⟩;cases qp:hasB pG t;(·simp only[go_sem,bq,br];refine⟨_,AN t ⟨L7,v6⟩,fun h2=>⟨⟨EJ.oc.1,h2.1⟩,⟨L7,by rw[EJ.len];omega⟩,?_⟩⟩;refine ah.spec ae 3 rfl _ rfl rfl (Or.inl (Or.inl (Or.inl rfl))) ?_;simp only[go_sem,bq,br];refine Ih rfl rfl rfl rfl rfl rfl rfl (EJ.room ⟨L7,v6⟩ qp) ?_;refine dB.eS ae (m:=2000) 4 rfl rfl rfl (by kernel_rfl) ?_;simp only[go_sem,bq,br];have hu:=zy ⟨L7,v6⟩ qp;exact⟨ak v6 v6,bu _ (i+1,q2++ [t],ch2.set t.toNat (xs++ [(i:Int)]),vL pG t,sn2+1,rc2) (by refine⟨?_,?_,rfl,(by first|rfl|(simp[gP,iA,keys,PV.uJ,PV.gm,ao,gF]))⟩<;>repeat' (first|exact trivial|exact Or.inl rfl|exact Or.inr rfl|apply aV|apply aW|apply aX|apply bg|exact⟨(by show(_:Nat)<1000000000;omega),rfl,rfl⟩|rfl|exact gG _ _ _|(refine And.intro (Or.inl ?_) ?_)|(refine And.intro ?_ ?_))) ⟨v7,EJ.push ⟨L7,v6⟩ qp Nx (by simp;omega),by dsimp only;rw[y9];simp only[x6,List.length_nil];omega⟩ v7⟩);·simp only[go_sem,bq,br];exact⟨ak v6 v6,bu _ (i+1,q2,ch2,pG,sn2,rc2) (by refine⟨?_,?_,rfl,(by first|rfl|(simp[gP,iA,keys,PV.uJ,PV.gm,ao,gF]))⟩<;>repeat' (first|exact trivial|exact Or.inl rfl|exact Or.inr rfl|apply aV|apply aW|apply aX|apply bg|exact⟨(by show(_:Nat)<1000000000;omega),rfl,rfl⟩|rfl|exact gG _ _ _|(refine And.intro (Or.inl ?_) ?_)|(refine And.intro ?_ ?_))) ⟨v7,EJ,hN2⟩ v7⟩);·simp only[go_sem,bq,br];refine⟨xs++ [(i:Int)],fun _=>⟨t,L7,v6,MF,Nx⟩,?_⟩;rw[L5 (by simp)];exact⟨rfl,rfl⟩);·refine⟨rfl,fun _ _=>?_⟩;simp only[go_sem,bq,br];refine⟨_,AO goal t hg ⟨L7,v6⟩,?_⟩;cases MF:hasB goal t;(·simp only[go_sem,bq,br];refine⟨_,AO pG t EJ.oc ⟨L7,v6⟩,?_⟩;cases qp:hasB pG t;(·simp only[go_sem,bq,br];refine⟨_,AN t ⟨L7,v6⟩,fun h2=>⟨⟨EJ.oc.1,h2.1⟩,⟨L7,by rw[EJ.len];omega⟩,?_⟩⟩;refine ah.spec ae 3 rfl _ rfl rfl (Or.inl (Or.inl (Or.inl rfl))) ?_;simp only[go_sem,bq,br];refine Ih rfl rfl rfl rfl rfl rfl rfl (EJ.room ⟨L7,v6⟩ qp) ?_;refine dB.eS ae (m:=2000) 4 rfl rfl rfl (by kernel_rfl) ?_;simp only[go_sem,bq,br];have hu:=zy ⟨L7,v6⟩ qp;exact⟨ak v6 v6,bu _ (i+1,q2++ [t],ch2.set t.toNat [(i:Int)],vL pG t,sn2+1,rc2) (by refine⟨?_,?_,rfl,(by first|rfl|(simp[gP,iA,keys,PV.uJ,PV.gm,ao,gF]))⟩<;>repeat' (first|exact trivial|exact Or.inl rfl|exact Or.inr rfl|apply aV|apply aW|apply aX|apply bg|exact⟨(by show(_:Nat)<1000000000;omega),rfl,rfl⟩|rfl|exact gG _ _ _|(refine And.intro (Or.inl ?_) ?_)|(refine And.intro ?_ ?_))) ⟨v7,EJ.push ⟨L7,v6⟩ qp Nx (by simp;omega),by dsimp only;rw[y9];simp only[x6,List.length_nil];omega⟩ v7⟩);·simp only[go_sem,bq,br];exact⟨ak v6 v6,bu _ (i+1,q2,ch2,pG,sn2,rc2) (by refine⟨?_,?_,rfl,(by first|rfl|(simp[gP,iA,keys,PV.uJ,PV.gm,ao,gF]))⟩<;>repeat' (first|exact trivial|exact Or.inl rfl|exact Or.inr rfl|apply aV|apply aW|apply aX|apply bg|exact⟨(by show(_:Nat)<1000000000;omega),rfl,rfl⟩|rfl|exact gG _ _ _|(refine And.intro (Or.inl ?_) ?_)|(refine And.intro ?_ ?_))) ⟨v7,EJ,hN2⟩ v7⟩);·simp only[go_sem,bq,br];refine⟨[(i:Int)],fun _=>⟨t,L7,v6,MF,Nx⟩,?_⟩;rw[L5 (by simp)];exact⟨rfl,rfl⟩);·exact⟨ak v6 v6,bu _ (i+1,q2,ch2,pG,sn2,rc2) (by refine⟨?_,?_,rfl,(by first|rfl|(simp[gP,iA,keys,PV.uJ,PV.gm,ao,gF]))⟩<;>repeat' (first|exact trivial|exact Or.inl rfl|exact Or.inr rfl|apply aV|apply aW|apply aX|apply bg|exact⟨(by show(_:Nat)<1000000000;omega),rfl,rfl⟩|rfl|exact gG _ _ _|(refine And.intro (Or.inl ?_) ?_)|(refine And.intro ?_ ?_))) ⟨v7,EJ,hN2⟩ v7⟩);·exact back _ (q2,ch2,pG,sn2,rc2) (by refine⟨?_,?_,rfl,(by first|rfl|(simp[gP,iA,keys,PV.uJ,PV.gm,ao,gF]))⟩<;>repeat' (first|exact trivial|exact Or.inl rfl|exact Or.inr rfl|apply aV|apply aW|apply aX|apply bg|exact⟨(by show(_:Nat)<1000000000;omega),rfl,rfl⟩|rfl|exact gG _ _ _|(refine And.intro (Or.inl ?_) ?_)|(refine And.intro ?_ ?_))) EJ (by dsimp only[List.length_cons];omega))
 ·exact⟨[],fun h=>absurd rfl h,rfl,rfl⟩
end
section
attribute[local go_sem←]u3 u4 u5
attribute[local go_sem]gH bH ne_eq not_false_eq_true
theorem Tg(s:bR)(hs:gw s)(Pm: ∀m:Int,0≤m→hasB (((iM s).toNat &&& (kB s).toNat:Nat):Int) m=true→ ¬QK s.2.2 bP m m):HC env 57 [.iv ai s] [] .bO []:=by
 have hR:=Ef s hs;have hL:=QN s hs;have hr:=zx hs;have hl:=Ee hs;have hF:=L6 s hs;obtain⟨n,a,rs⟩:=s;have wb:=hs.n8;have MQ:=hs.n1;dsimp only at wb MQ Pm;refine HC.aC (m:=2000) ae aV9 rfl rfl rfl rfl (by kernel_rfl) ?_
 intro hx gD;simp only[Tryz.f57];simp only[go_sem];refine⟨_,hR,fun _=>⟨_,hL,fun _=>⟨⟨hr.1,hl.1⟩,?_⟩⟩⟩;(have hX0:(0:Int)≤(((iM (n,a,rs)).toNat &&& (kB (n,a,rs)).toNat:Nat):Int)∧(((iM (n,a,rs)).toNat &&& (kB (n,a,rs)).toNat:Nat):Int)≤255:=by have:(iM (n,a,rs)).toNat &&& (kB (n,a,rs)).toNat≤(iM (n,a,rs)).toNat:=Nat.and_le_left;omega)
 generalize hX:(((iM (n,a,rs)).toNat &&& (kB (n,a,rs)).toNat:Nat):Int)=X at*;refine ah.bz (X:=Nat) (fun(z:Nat)=>[(14,.iv (.int .i64) (z:Int)),(4,.bO),(5,.any),(6,.any)]) (fun(z:Nat)=>[]) (fun(z:Nat)=>z≤n.toNat) (fun(z:Nat)=>n.toNat-z) 0 ?_
 intro b1 b2 aS bd;simp only[go_sem]at aS bd;subst aS;subst bd;refine⟨v8,?_,?_⟩
 (·exact x9);intro z hz back;refine av ae ⟨_,aV9,rfl⟩ 2000 _ _ (by kernel_rfl) ?_;simp only[go_sem]
 refine⟨fun g1=>?_,fun g1=>?_⟩;(·have hz8:0≤(z:Int)∧(z:Int)<8:=⟨x5,v6⟩;refine⟨_,AO X (z:Int) hX0 hz8,?_⟩;cases hb:hasB X (z:Int);(·simp only[go_sem];exact⟨ak v6 v6,back _ (z+1) v8 v6 v6⟩);·simp only[go_sem];refine⟨_,AN (z:Int) hz8,fun _=>?_⟩;refine⟨_,_,_,_,L6 (n,a,rs) hs (z:Int) (um (z:Int)) hz8 (qP hz8),fun r hr=>?_⟩;(have hr0:r=[]:=by by_cases e:r=[];(·exact e);·obtain⟨to,h1,h2,h3,h4⟩:=hr e;rw[BJ _ _ hz8.1 h1]at h3;rw[←of_decide_eq_true h3]at h4;exact absurd h4 (Pm _ hz8.1 hb));subst hr0;refine⟨rfl,fun _ _=>?_⟩;simp only[YK];simp only[go_sem];exact⟨ak v6 v6,back _ (z+1) v8 v6 v6⟩)
 ·trivial
def qR(s:bR):Int:=if(dE s).2≠0 then 20 else if hasB (kB s) 0=false then 50 else if((iM s).toNat &&& (2^8-1-(kB s).toNat):Nat)≠0 then 40 else 0
theorem QO(s:bR)(Pm: ∀m:Int,0≤m→hasB (((iM s).toNat &&& (kB s).toNat:Nat):Int) m=true→ ¬QK s.2.2 bP m m):PC env 16 [⟨ai,s⟩] (.int .i64) (qR s):=by
 obtain⟨n,a,rs⟩:=s;refine PC.aC (m:=2000) ae bI4 rfl rfl rfl rfl (by kernel_rfl) ?_;intro hx;simp only[Tryz.f16];simp only[go_sem]
 refine⟨_,(Qr _).dec,?_⟩;by_cases hc:(dE (n,a,rs)).2=0;(·have hs:=DM hc;have hr:=zx hs;have hl:=Ee hs;have hR:=Ef _ hs;have hL:=QN _ hs;have hE:=Tg _ hs Pm;(have hT:qR (n,a,rs)=if hasB (kB (n,a,rs)) 0=false then 50 else if((iM (n,a,rs)).toNat &&& (2^8-1-(kB (n,a,rs)).toNat):Nat)≠0 then 40 else 0:=by unfold qR;rw[hc];simp);rw[hT];clear hT;simp only[hc,decide_true,Bool.not_true];simp only[go_sem];refine⟨_,hL,fun _=>⟨_,AO _ 0 hl ⟨by decide,by decide⟩,?_⟩⟩;generalize iM (n,a,rs)=R at*;generalize kB (n,a,rs)=Lv at*;cases hb:hasB Lv 0;(·simp only[go_sem]);·simp only[go_sem];refine⟨_,hR,fun _=>⟨_,hL,fun _=>⟨hl.1,fun g=>?_,fun g=>?_⟩⟩⟩;(·have g: ¬(R.toNat &&& 2^8-1-Lv.toNat:Nat)=0:=fun e=>g (by rw[e];rfl);rw[if_neg (by decide),if_pos g]);·(have g:(R.toNat &&& 2^8-1-Lv.toNat:Nat)=0:=by omega);refine⟨_,_,hE,rfl,?_⟩;simp only[g];intro _ _;simp only[go_sem];rfl)
 ·(have hT:qR (n,a,rs)=20:=by unfold qR;rw[if_pos hc]);rw[hT];simp only[hc,decide_false,Bool.not_false];simp only[go_sem];exact⟨fun _=>trivial,fun h=>by cases h⟩
end
section
theorem sN {f:Int→Rl→Int} {I:Int→Prop} : ∀ {rs:List Rl} {l:Int},(∀r,r∈rs→ ∀l,I l→I (f l r))→I l→I (rs.foldl f l)|[],_,_,h=>h|r::rs,l,hf,h=>sN (rs:=rs) (fun x hx=>hf x (y7 _ hx)) (hf r (y8 ..) l h)
theorem Eg {f:Int→Rl→Int} {I:Int→Prop} {rs:List Rl} (hf: ∀r,r∈rs→ ∀l,I l→I (f l r)): ∀ {n:Nat} {l:Int},I l→I (nq f rs n l)|0,_,h=>h|n+1,_,h=>Eg hf (n:=n) (sN hf h)
theorem tU {n k:Int} (hk:0≤k) {r:Rl} (hr:okM n r) {l:Int} (h:hasB l k=true):hasB (rf l r) k=true:=by unfold rf;split;(·rw[qQ _ _ _ hr.1 hk,h];rfl);·exact h
theorem aQ2 {n:Int} {rs:List Rl} (PT: ∀r,r∈rs→okM n r) {r:Rl} (hr:r∈rs) {l:Int} (h:hasB l r.2.1=true):hasB (rs.foldl rf l) r.1=true:=by
 obtain⟨a,b,rfl⟩:=List.append_of_mem hr;rw[List.foldl_append,List.foldl_cons];have h0:=PT r hr;have h1:hasB (a.foldl rf l) r.2.1=true:=sN (I:=fun l=>hasB l r.2.1=true) (fun x hx l hl=>tU h0.2.2.1 (PT x (w9 _ hx)) hl) h
 refine sN (I:=fun l=>hasB l r.1=true) (fun x hx l hl=>tU h0.1 (PT x (w5 _ (y7 _ hx))) hl) ?_;generalize a.foldl rf l=y at h1⊢
 unfold rf;rw[if_pos h1,qQ _ _ _ h0.1 h0.1];simp
theorem OG {s:bR} (hs:gw s)(ha:hasB s.2.1 0=true)(hb: ∀m,0<m→m<s.1→ ∃r,r∈s.2.2∧r.1=m∧r.2.1=0):qR s=0:=by
 have hM:=hs.qZ;have MQ:=hs.n1;have wb:=hs.n8;(have hn:s.1.toNat=(s.1.toNat-1)+1:=by omega);(have hL: ∀m,0≤m→m<s.1→hasB (kB s) m=true:=fun m h0 h1=>by unfold kB;rw[hn];unfold nq;refine Eg (I:=fun l=>hasB l m=true) (fun x hx l hl=>tU h0 (hM x hx) hl) ?_;by_cases e:m=0;(·subst e;exact sN (I:=fun l=>hasB l 0=true) (fun x hx l hl=>tU (Int.le_refl _) (hM x hx) hl) ha);·obtain⟨r,hr,e1,e2⟩:=hb m v6 h1;rw[←e1];exact aQ2 hM hr (by rw[e2];exact ha))
 (have hR: ∀m,0≤m→hasB (iM s) m=true→m<s.1:=by refine Eg (I:=fun l=> ∀m,0≤m→hasB l m=true→m<s.1) (fun r hr l hl m h0 hm=>?_) (fun m h0 hm=>?_);(·unfold zw at hm;split at hm;(·rw[qQ _ _ _ (hM r hr).2.2.1 h0,Bool.or_eq_true]at hm;rcases hm with hm|hm;(·exact hl m h0 hm);·rw[←of_decide_eq_true hm];exact(hM r hr).2.2.2);·exact hl m h0 hm);·have h1:=BJ 0 m (Int.le_refl _) h0;have e:um 0=1:=rfl;rw[e,hm]at h1;have:=of_decide_eq_true h1.symm;omega)
 unfold qR;have hd:=YI (zx hs) (Ee hs) (fun m h0 h8 hm=>hL m h0 (hR m h0 hm));(have ug:((iM s).toNat &&& (2^8-1-(kB s).toNat):Nat)=0:=by omega);rw[if_neg (by rw[Lm hs];simp),if_neg (by rw[hL 0 (Int.le_refl _) v6];simp),if_neg (by rw[ug];simp)]
theorem IZ {rs:List Rl} {h:Int→Nat} (hr: ∀r,r∈rs→bP r=true→h r.1<h r.2.1)(m:Int): ¬QK rs bP m m:=by
 (have key: ∀a b,QK rs bP a b→h a<h b:=fun a b hc=>by induction hc with|one hm hs=>exact hr _ hm hs|snoc _ hm hs ih=>exact Nat.lt_trans ih (hr _ hm hs));exact fun hc=>Nat.lt_irrefl _ (key m m hc)
end
section
def AP(m:Int):Nat:=if m=1 then 1 else 0
theorem zz(x:xE):(cN x).1≤2:=by show(bN x.1).1≤2;have:=(pd x.1).1;omega
theorem vO(x:xE): ∀r,r∈(cN x).2.2→bP r=true→AP r.1<AP r.2.1:=by
 intro r hr hs;have h1:=(List.mem_filter.1 hr).2;have h2:=zz x;have h3:=(sL x).1.qZ r hr;unfold kA at h1;have h4:=of_decide_eq_true h1;unfold bP at hs;obtain⟨a,b,c,d⟩:=h3
 (have h5:r.1<r.2.1:=by rcases h4 with h4|h4;(·exact absurd (by simpa using hs) h4);·exact h4);unfold AP;rw[if_neg v6,if_pos v6];decide
theorem sO(n:Int) {r:Rl} : ∀(xs:List Ay)(out:List Rl),r∈out→r∈fx n xs out|[],_,h=>h|y::ys,out,h=>sO n ys _ (by unfold jv;split;(·exact w9 _ h);·exact h)
theorem Ti(k:Int)(m:Int)(h0:0<m)(h1:m<(bN k).1): ∃r,r∈(bN k).2.2.drop 1∧r.1=m∧r.2.1=0∧r.2.2.1≠ []:=by
 unfold bN at h1⊢;split at h1;(·dsimp only at h1;omega);split at h1;(·dsimp only at h1;omega);split at h1;(·rename_i g1 g2 g3;rw[if_neg g1,if_neg g2,if_pos g3];dsimp only at h1;have e:m=1:=v6;subst e;exact⟨bC (1,0) [97] [65],by simp,rfl,rfl,by simp[bC]⟩)
 split at h1;(·dsimp only at h1;omega);split at h1;(·dsimp only at h1;omega);·dsimp only at h1;omega
theorem L8(x:xE):qR (cN x)=0:=by
 refine OG (sL x).1 ?_ fun m h0 h1=>?_;(·have:(cN x).2.1=1:=(pd x.1).2.1;rw[this];rfl);·obtain⟨r,hr,e1,e2,e3⟩:=Ti x.1 m h0 h1;refine⟨r,List.mem_filter.2 ⟨sO _ _ _ ?_,?_⟩,e1,e2⟩;(·have hd:x.2.1%2=0∨x.2.1%2=1:=v6;rcases hd with h|h<;>rw[h];(·exact List.mem_of_mem_drop hr);·exact hr);·unfold kA;exact decide_eq_true (.inl e3)
end
end Go.Proofs.YtimognngcagphaaGreat
