/- Families of local maps, by number; a loop whose blocks are said outright. Nothing here is trusted; no condition. -/
import Derived.Test.YtimognngcagphaaGreatD5
set_option linter.all false
namespace Go.Proofs.YtimognngcagphaaGreat.Op
structure Wk(K:Type)where
 eq:K→K→Bool
 rs:List Rl
 mode:K→Int
 step:K→Rl→K×Bool
variable {K:Type} (W:Wk K)
def Wk.ko(M:List (K×Int))(k:K)(c:Int):Bool:=match aN W.eq M k with|some iG=>decide (c<iG)|none=>true
def Wk.gi(M:List (K×Int))(k:K)(c:Int):List (K×Int):=match aN W.eq M k with|some iG=>if c<iG then cU W.eq M k c else M|none=>cU W.eq M k c
structure Wk.Ok(h:Int→Nat):Prop where
 he: ∀x y,W.eq x y=true↔x=y
 to: ∀k r k',r∈W.rs→r.1=W.mode k→W.step k r=(k',true)→W.mode k'=r.2.1
 top: ∀m,h m≤8
variable {W} {h:Int→Nat} {M:List (K×Int)} {k k':K} {c:Int}
theorem Wk.Ok.sP(hb:W.ko M k c=false):W.gi M k c=M:=by
 unfold Wk.gi;unfold Wk.ko at hb;cases hf:aN W.eq M k with|none=>rw[hf]at hb;cases hb|some iG=>rw[hf]at hb;dsimp only at hb⊢;rw[if_neg (by simpa using hb)]
theorem Wk.Ok.I0(hb:W.ko M k c=true):W.gi M k c=cU W.eq M k c:=by
 unfold Wk.gi;unfold Wk.ko at hb;cases hf:aN W.eq M k with|none=>rfl|some iG=>rw[hf]at hb;dsimp only at hb⊢;rw[if_pos (by simpa using hb)]
theorem Wk.Ok.sQ(hW:W.Ok h)(hb:W.ko M k c=true):aN W.eq (W.gi M k c) k=some c:=by rw[Wk.Ok.I0 hb,kX hW.he]
theorem Wk.Ok.kZ(hW:W.Ok h) {k1:K} (bS:k1≠k):aN W.eq (W.gi M k c) k1=aN W.eq M k1:=by cases hb:W.ko M k c;(·rw[Wk.Ok.sP hb]);·rw[Wk.Ok.I0 hb,lC hW.he _ bS]
theorem Wk.Ok.QP(hb:W.ko M k c=true) {iG:Int} (hf:aN W.eq M k=some iG):c<iG:=by unfold Wk.ko at hb;rw[hf]at hb;exact of_decide_eq_true hb
theorem Wk.Ok.YM(hb:W.ko M k c=false): ∃iG,iG≤c∧aN W.eq M k=some iG:=by
 unfold Wk.ko at hb;cases hf:aN W.eq M k with|none=>rw[hf]at hb;cases hb|some iG=>rw[hf]at hb;have hb:=of_decide_eq_false hb;exact⟨iG,v6,rfl⟩
theorem Wk.Ok.zJ(hW:W.Ok h) {k1:K} {c1:Int} (h1:aN W.eq M k1=some c1): ∃c2,c2≤c1∧aN W.eq (W.gi M k c) k1=some c2:=by
 cases hb:W.ko M k c;(·rw[Wk.Ok.sP hb];exact⟨c1,Int.le_refl _,h1⟩);·by_cases e:k1=k;(·subst e;have:=Wk.Ok.QP hb h1;exact⟨c,v6,hW.sQ hb⟩);·rw[hW.kZ e];exact⟨c1,Int.le_refl _,h1⟩
theorem Wk.Ok.BL(hW:W.Ok h): ∃c2,c2≤c∧aN W.eq (W.gi M k c) k=some c2:=by cases hb:W.ko M k c;(·rw[Wk.Ok.sP hb];exact Wk.Ok.YM hb);·exact⟨c,Int.le_refl _,hW.sQ hb⟩
theorem Wk.Ok.pH(hW:W.Ok h)(hn:(M.map (·.1)).Nodup):((W.gi M k c).map (·.1)).Nodup:=by unfold Wk.gi;split;(·split;(·exact qO hW.he hn);·exact hn);·exact qO hW.he hn
theorem Wk.Ok.ya(hW:W.Ok h):M.length≤(W.gi M k c).length∧(W.gi M k c).length≤M.length+1:=by
 (have key:M.length≤(cU W.eq M k c).length:=by rcases nn hW.he k c M with⟨_,e⟩|⟨_,e⟩;(·have:=congrArg List.length e;simp at this;omega);·have:=congrArg List.length e;simp at this;omega)
 have:=mz hW.he k c M;unfold Wk.gi;split;(·split<;>omega);·omega
def zK:List (K×Int)→Nat|[]=>0|p::r=>p.2.toNat+zK r
theorem Ha(hW:W.Ok h) {iG:Int} (hc:0≤c∧c<iG): ∀ {M:List (K×Int)},aN W.eq M k=some iG→zK (cU W.eq M k c)+1≤zK M∧(cU W.eq M k c).length=M.length|[],hf=>(by cases hf)|p::M,hf=>by simp only[aN]at hf;simp only[cU];cases hq:W.eq k p.1;(·rw[hq]at hf;simp only[cond_false]at hf⊢;obtain⟨h1,h2⟩:=Ha hW hc (M:=M) hf;simp only[zK,x6];omega);·rw[hq]at hf;simp only[cond_true,y5]at hf⊢;simp only[zK,x6];have hf:p.2=iG:=hf;refine⟨?_,trivial⟩;have h1:c.toNat<p.2.toNat:=v6;omega
theorem uF {W:Wk K} (hc:0≤c): ∀ {M:List (K×Int)},aN W.eq M k=none→zK (cU W.eq M k c)=zK M+c.toNat∧(cU W.eq M k c).length=M.length+1|[],_=>(by simp[cU,zK])|p::M,hf=>by simp only[aN]at hf;simp only[cU];cases hq:W.eq k p.1;(·rw[hq]at hf;simp only[cond_false]at hf⊢;obtain⟨h1,h2⟩:=uF hc (M:=M) hf;simp only[zK,x6];omega);·rw[hq]at hf;simp only[cond_true,reduceCtorEq]at hf
def EH(N C:Nat)(M:List (K×Int)):Nat:=(N-M.length)*(C+1)+zK M
theorem Wk.Ok.aQ3(hW:W.Ok h) {N C:Nat} (hN:M.length<N)(hc:0≤c∧c≤C)(hb:W.ko M k c=true):EH N C (W.gi M k c)+1≤EH N C M:=by
 rw[Wk.Ok.I0 hb];unfold EH;cases hf:aN W.eq M k with|none=>obtain⟨h1,h2⟩:=uF (W:=W) hc.1 hf;rw[h1,h2];obtain⟨d,hd⟩: ∃d,N=M.length+1+d:=⟨N-(M.length+1),v6⟩;subst hd;rw[show M.length+1+d-(M.length+1)=d from by omega,show M.length+1+d-M.length=d+1 from by omega,Nat.add_mul];omega|some iG=>have cu:=Wk.Ok.QP hb hf;obtain⟨h1,h2⟩:=Ha hW ⟨hc.1,cu⟩ hf;rw[h2];omega
def Wk.iO(W:Wk K)(M:List (K×Int))(k:K)(l:List Rl):Prop:= ∀r,r∈l→bP r=true→r.1=W.mode k→ ∀k',W.step k r=(k',true)→ ∀c,aN W.eq M k=some c→ ∃c',c'≤c+r.2.2.2.2∧aN W.eq M k'=some c'
theorem Wk.Ok.QQ(hW:W.Ok h) {l:List Rl} {k1:K} (bS:k1≠k)(hc:W.iO M k1 l):W.iO (W.gi M k c) k1 l:=by
 intro r hr hs hm k2 cw c1 h1;rw[hW.kZ bS]at h1;obtain⟨c2,h2,h3⟩:=hc r hr hs hm k2 cw c1 h1;obtain⟨c4,h4,h5⟩:=hW.zJ (k:=k) (c:=c) h3;exact⟨c4,v6,h5⟩
structure Wk.Place(W:Wk K)(h:Int→Nat)(B:Nat)(G:K→Int→Prop):Prop where
 go: ∀k c r k',G k c→r∈W.rs→bP r=true→r.1=W.mode k→W.step k r=(k',true)→G k' (c+r.2.2.2.2)
 oc: ∀k c,G k c→0≤c∧c≤(B:Int)+1000*(h (W.mode k):Int)
 up: ∀k c r,G k c→r∈W.rs→bP r=true→r.1=W.mode k→h (W.mode k)<h r.2.1
structure Wk.SI(W:Wk K)(G:K→Int→Prop)(M0:List (K×Int))(most:Nat)(todo:List K)(j:Nat)(P:Nat)(C:Nat)(M:List (K×Int))(news:List K):Prop where
 once:(M.map (·.1)).Nodup
 len:M.length≤most
 iL: ∀k c,aN W.eq M k=some c→G k c
 cover: ∀k c,aN W.eq M0 k=some c→ ∃c',c'≤c∧aN W.eq M k=some c'
 td: ∀k,k∈todo→ ∃c,aN W.eq M k=some c
 nw: ∀k,k∈news→ ∃c,aN W.eq M k=some c
 YN: ∀k c,aN W.eq M k=some c→k∈todo.drop j∨k∈news∨W.iO M k W.rs
 low:EH (most+1) C M+news.length≤P
structure Wk.aQ4(W:Wk K)(G:K→Int→Prop)(M0:List (K×Int))(most:Nat)(r:Bool×List (K×Int)):Prop where
 ok:r.1=decide (r.2.length≤most)
 rM:r.2.length≤most+1
 once:(r.2.map (·.1)).Nodup
 iL: ∀k c,aN W.eq r.2 k=some c→G k c
 cover: ∀k c,aN W.eq M0 k=some c→ ∃c',c'≤c∧aN W.eq r.2 k=some c'
 shut:r.1=true→ ∀k c,aN W.eq r.2 k=some c→W.iO r.2 k W.rs
variable {G:K→Int→Prop} {M0:List (K×Int)} {most j P C B:Nat} {todo news:List K}
theorem QR {C:Nat} : ∀ {M:List (K×Int)},(∀p,p∈M→p.2≤(C:Int))→zK M≤M.length*C|[],_=>x9|p::M,h=>by have h1:=h p (y8 ..);have h2:=QR (C:=C) (M:=M) fun q hq=>h q (y7 _ hq);simp only[zK,x6,Nat.add_mul,Nat.one_mul];omega
theorem Wk.SI.II(hW:W.Ok h)(hG:W.Place h B G)(hC:B+8000≤C)(hI:W.SI G M0 most todo j P C M news):EH (most+1) C M≤(most+1)*(C+1):=by
 (have h1:zK M≤M.length*C:=QR fun p hp=>by have:=hG.oc p.1 p.2 (hI.iL p.1 p.2 ((gE hW.he hI.once).1 hp));have:=hW.top (W.mode p.1);omega);have h2:=hI.len;unfold EH
 obtain⟨d,hd⟩: ∃d,most+1=M.length+d:=⟨most+1-M.length,v6⟩;rw[hd,show M.length+d-M.length=d from by omega,Nat.add_mul M.length d,Nat.mul_add M.length C 1];omega
theorem Wk.SI.rel(hW:W.Ok h)(hG:W.Place h B G)(hC:B+8000≤C)(hI:W.SI G M0 most todo j P C M news) {r:Rl} {c:Int} (hj:todo[j]?=some k)(hk:aN W.eq M k=some c)(hr:r∈W.rs)(hs:bP r=true)(hm:r.1=W.mode k)(cw:W.step k r=(k',true)) {l:List Rl} (gI:W.iO M k l):((W.gi M k' (c+r.2.2.2.2)).length≤most→W.SI G M0 most todo j P C (W.gi M k' (c+r.2.2.2.2)) (if W.ko M k' (c+r.2.2.2.2)=true then news++ [k']else news))∧W.iO (W.gi M k' (c+r.2.2.2.2)) k (l++ [r])∧(most<(W.gi M k' (c+r.2.2.2.2)).length→W.aQ4 G M0 most (false,W.gi M k' (c+r.2.2.2.2))):=by
 (have bS:k≠k':=by rintro rfl;have:=hW.to _ _ _ hr hm cw;have h2:=hG.up k c r (hI.iL k c hk) hr hs hm;rw[←this]at h2;omega);have ur:=hI.iL k c hk;have aQ5:=hG.go k c r k' ur hr hs hm cw
 have bX4:=hG.oc k' _ aQ5;have Fp:=hW.top (W.mode k');have hlen:=hW.ya (M:=M) (k:=k') (c:=c+r.2.2.2.2);(have yb: ∀k1 c1,aN W.eq (W.gi M k' (c+r.2.2.2.2)) k1=some c1→G k1 c1:=by intro k1 c1 h1;cases hb:W.ko M k' (c+r.2.2.2.2);(·rw[Wk.Ok.sP hb]at h1;exact hI.iL k1 c1 h1);·by_cases e:k1=k';(·subst e;rw[hW.sQ hb]at h1;injection h1 with h1;rw[←h1];exact aQ5);·rw[hW.kZ e]at h1;exact hI.iL k1 c1 h1)
 (have YO: ∀k1 c1,aN W.eq M0 k1=some c1→ ∃c',c'≤c1∧aN W.eq (W.gi M k' (c+r.2.2.2.2)) k1=some c':=by intro k1 c1 h1;obtain⟨c2,h2,h3⟩:=hI.cover k1 c1 h1;obtain⟨c4,h4,h5⟩:=hW.zJ (k:=k') (c:=c+r.2.2.2.2) h3;exact⟨c4,v6,h5⟩)
 refine⟨fun hle=>?_,?_,fun MF=>?_⟩;(·refine⟨hW.pH hI.once,hle,yb,YO,fun k1 h1=>?_,fun k1 h1=>?_,fun k1 c1 h1=>?_,?_⟩;(·obtain⟨c1,h2⟩:=hI.td k1 h1;obtain⟨c4,_,h5⟩:=hW.zJ (k:=k') (c:=c+r.2.2.2.2) h2;exact⟨c4,h5⟩);(·(have hk1:k1∈news∨k1=k':=by split at h1;(·rcases ws h1 with h|h;(·exact .inl h);·exact .inr (wd h));·exact .inl h1);rcases hk1 with h2|rfl;(·obtain⟨c1,h2⟩:=hI.nw k1 h2;obtain⟨c4,_,h5⟩:=hW.zJ (k:=k') (c:=c+r.2.2.2.2) h2;exact⟨c4,h5⟩);·obtain⟨c4,_,h5⟩:=hW.BL (M:=M) (k:=k1) (c:=c+r.2.2.2.2);exact⟨c4,h5⟩);(·by_cases hb:W.ko M k' (c+r.2.2.2.2)=true;(·rw[if_pos hb];by_cases e:k1=k';(·exact .inr (.inl (List.mem_append.2 (.inr (List.mem_singleton.2 e)))));·rw[hW.kZ e]at h1;rcases hI.YN k1 c1 h1 with h2|h2|h2;(·exact .inl h2);(·exact .inr (.inl (List.mem_append.2 (.inl h2))));·exact .inr (.inr (hW.QQ e h2)));·(have jf:W.ko M k' (c+r.2.2.2.2)=false:=by simpa using hb);rw[if_neg hb,Wk.Ok.sP jf]at*;exact hI.YN k1 c1 h1);·have VS:=hI.low;by_cases hb:W.ko M k' (c+r.2.2.2.2)=true;(·rw[if_pos hb,y9];have:=hW.aQ3 (N:=most+1) (C:=C) (by have:=hI.len;omega) ⟨bX4.1,v6⟩ hb;simp only[x6,List.length_nil];omega);·(have jf:W.ko M k' (c+r.2.2.2.2)=false:=by simpa using hb);rw[if_neg hb,Wk.Ok.sP jf];exact VS)
 (·intro r2 pQ tq hm2 k2 qp c2 h2;rcases ws pQ with pQ|pQ;(·exact hW.QQ bS gI r2 pQ tq hm2 k2 qp c2 h2);·rw[List.mem_singleton]at pQ;subst pQ;rw[cw]at qp;injection qp with e _;subst e;rw[hW.kZ bS,hk]at h2;injection h2 with h2;subst h2;exact hW.BL)
 ·exact⟨by simp;omega,by have:=hI.len;dsimp only;omega,hW.pH hI.once,yb,YO,fun e=>by cases e⟩
theorem Wk.SI.next(hI:W.SI G M0 most todo j P C M news)(hj:todo[j]?=some k)(gI:W.iO M k W.rs):W.SI G M0 most todo (j+1) P C M news:=by
 refine⟨hI.once,hI.len,hI.iL,hI.cover,hI.td,hI.nw,fun k1 c1 h1=>?_,hI.low⟩;rcases hI.YN k1 c1 h1 with h2|h2|h2;(·have cu:j<todo.length:=(z6 hj).1;rw[List.drop_eq_getElem_cons cu]at h2;rcases wl h2 with h2|h2;(·have e:todo[j]=k:=(z6 hj).2;rw[h2,e];exact .inr (.inr gI));·exact .inl h2)
 (·exact .inr (.inl h2));·exact .inr (.inr h2)
theorem Wk.SI.MV(hI:W.SI G M0 most todo j P C M news)(hj:todo.length≤j):W.SI G M0 most news 0 (EH (most+1) C M) C M []:=by
 refine⟨hI.once,hI.len,hI.iL,hI.cover,hI.nw,fun k hk=>(wn hk).elim,fun k1 c1 h1=>?_,by simp⟩;rcases hI.YN k1 c1 h1 with h2|h2|h2;(·rw[List.drop_of_length_le hj]at h2;exact(wn h2).elim)
 (·exact .inl h2);·exact .inr (.inr h2)
theorem Wk.SI.done(hI:W.SI G M0 most [] 0 P C M []):W.aQ4 G M0 most (true,M):=by
 refine⟨by have:=hI.len;simp[this],by have:=hI.len;dsimp only;omega,hI.once,hI.iL,hI.cover,fun _ k1 c1 h1=>?_⟩;rcases hI.YN k1 c1 h1 with h2|h2|h2;(·simp at h2)
 (·simp at h2);·exact h2
end Go.Proofs.YtimognngcagphaaGreat.Op
namespace Go.Proofs.YtimognngcagphaaGreat.Op
variable {K:Type}
inductive Rt(W:Wk K)(inp:ax)(k0:K):Nat→K→Int→Prop|start:Rt W inp k0 0 k0 0|TP {p:Nat} {k:K} {c:Int} {r:Rl} {k':K} :Rt W inp k0 p k c→r∈W.rs→bP r=true→r.1=W.mode k→W.step k r=(k',true)→Rt W inp k0 p k' (c+r.2.2.2.2)|take {p:Nat} {k:K} {c:Int} {r:Rl} {k':K} :Rt W inp k0 p k c→r∈W.rs→bP r=false→r.1=W.mode k→r.2.2.1.isPrefixOf (inp.drop p)=true→W.step k r=(k',true)→Rt W inp k0 (p+r.2.2.1.length) k' (c+r.2.2.2.2)
def Arr(W:Wk K)(inp:ax)(k0:K)(i p:Nat)(k:K)(c:Int):Prop:=(p=0∧k=k0∧c=0)∨ ∃(p1:Nat)(k1:K)(c1:Int)(r:Rl),p1<i∧Rt W inp k0 p1 k1 c1∧r∈W.rs∧bP r=false∧r.1=W.mode k1∧r.2.2.1.isPrefixOf (inp.drop p1)=true∧W.step k1 r=(k,true)∧p=p1+r.2.2.1.length∧c=c1+r.2.2.2.2
def BM(W:Wk K)(M:List (K×Int))(k:K)(c:Int):Prop:= ∃c',c'≤c∧aN W.eq M k=some c'
variable {W:Wk K} {inp:ax} {k0:K} {h:Int→Nat} {G:K→Int→Prop} {most B:Nat}
theorem BM.le {M:List (K×Int)} {k:K} {c c':Int} (hd:BM W M k c)(hc:c≤c'):BM W M k c':=by obtain⟨c1,h1,h2⟩:=hd;exact⟨c1,v6,h2⟩
theorem BM.rel(hW:W.Ok h) {M:List (K×Int)} {k k':K} {c c':Int} (hd:BM W M k c):BM W (W.gi M k' c') k c:=by
 obtain⟨c1,h1,h2⟩:=hd;obtain⟨c2,h3,h4⟩:=hW.zJ (k:=k') (c:=c') h2;exact⟨c2,v6,h4⟩
theorem yc {r:Rl} (h:bP r=false):0<r.2.2.1.length:=by unfold bP at h;cases hi:r.2.2.1 with|nil=>rw[hi]at h;simp at h|cons a l=>simp
theorem Eh(hW:W.Ok h) {P:K→Int→Prop} {M:List (K×Int)} {k':K} {c':Int} (hM: ∀k c,aN W.eq M k=some c→P k c)(hP:P k' c'): ∀k c,aN W.eq (W.gi M k' c') k=some c→P k c:=by
 intro k c hk;cases hb:W.ko M k' c';(·rw[Wk.Ok.sP hb]at hk;exact hM k c hk);·by_cases e2:k=k';(·subst e2;rw[hW.sQ hb]at hk;injection hk with hk;rw[←hk];exact hP);·rw[hW.kZ e2]at hk;exact hM k c hk
theorem settled {i:Nat} {M M':List (K×Int)} (jF: ∀k c,Arr W inp k0 i i k c→BM W M k c)(hS:W.aQ4 G M most (true,M')): ∀k c,Rt W inp k0 i k c→BM W M' k c:=by
 (have key: ∀p k c,Rt W inp k0 p k c→p=i→BM W M' k c:=by intro p k c hR;(have Ye: ∀k c,BM W M k c→BM W M' k c:=fun k c hd=>by obtain⟨c1,h1,h2⟩:=hd;obtain⟨c2,h3,h4⟩:=hS.cover k c1 h2;exact⟨c2,v6,h4⟩);induction hR with|start=>intro e;subst e;exact Ye _ _ (jF _ _ (.inl ⟨rfl,rfl,rfl⟩))| @TP p k c r k' hR hr hs hm cw ih=>intro e;obtain⟨c1,h1,h2⟩:=ih e;obtain⟨c2,h3,h4⟩:=hS.shut rfl k c1 h2 r hr hs hm k' cw c1 h2;exact⟨c2,v6,h4⟩| @take p k c r k' hR hr hs hm hp cw ih=>intro e;have:=yc hs;exact Ye _ _ (jF _ _ (.inr ⟨p,k,c,r,v6,hR,hr,hs,hm,hp,cw,e.symm,rfl⟩)))
 exact fun k c hR=>key i k c hR rfl
structure Good(W:Wk K)(inp:ax)(k0:K)(h:Int→Nat)(G:Nat→K→Int→Prop):Prop where
 start:G 0 k0 0
 place: ∀p,W.Place h (9000*p) (G p)
 take: ∀p k c r k',G p k c→r∈W.rs→bP r=false→r.1=W.mode k→r.2.2.1.isPrefixOf (inp.drop p)=true→W.step k r=(k',true)→G (p+r.2.2.1.length) k' (c+r.2.2.2.2)
def QS(W:Wk K)(inp:ax)(k0:K)(most p:Nat):Prop:= ∀L:List K,L.Nodup→(∀k,k∈L→ ∃c,Rt W inp k0 p k c)→L.length≤most
theorem oC {α:Type} : ∀(l m:List α),l.Nodup→(∀x,x∈l→x∈m)→l.length≤m.length|[],_,_,_=>x9|x::l,m,hn,h=>by obtain⟨a,b,rfl⟩:=List.append_of_mem (h x (y8 ..));(have:=oC l (a++b) (List.nodup_cons.1 hn).2 fun y hy=>by have h1:=h y (y7 _ hy);have bS:y≠x:=fun e=>(List.nodup_cons.1 hn).1 (e▸hy);simp only[List.mem_append,List.mem_cons]at h1⊢;rcases h1 with h1|h1|h1;(·exact .inl h1);(·exact absurd h1 bS);·exact .inr h1);simp only[y9,x6]at this⊢;omega
theorem YP {M':List (K×Int)} {p:Nat} (he: ∀x y,W.eq x y=true↔x=y)(hl:M'.length≤most)(hd: ∀k c,Rt W inp k0 p k c→BM W M' k c):QS W inp k0 most p:=by
 intro L hn hL;(have:=oC L (M'.map (·.1)) hn fun k hk=>by obtain⟨c,hR⟩:=hL k hk;obtain⟨c',_,hf⟩:=hd k c hR;exact List.mem_map.2 ⟨(k,c'),my he hf,rfl⟩);rw[List.length_map]at this
 omega
structure RI(W:Wk K)(inp:ax)(k0:K)(G:Nat→K→Int→Prop)(most i:Nat)(m:Int→List (K×Int))(l:List Int):Prop where
 nodup:l.Nodup
 oc: ∀p,p∈l→(i:Int)≤p∧p≤(inp.length:Int)
 once: ∀p,p∈l→((m p).map (·.1)).Nodup
 len: ∀p,p∈l→(m p).length≤most
 iL: ∀p,p∈l→ ∀k c,aN W.eq (m p) k=some c→G p.toNat k c
 arr: ∀p:Nat,i≤p→ ∀k c,Arr W inp k0 i p k c→(p:Int)∈l∧BM W (m (p:Int)) k c
 rM: ∀p,p<i→QS W inp k0 most p
def Fits(W:Wk K)(inp:ax)(i:Nat)(k:K)(r:Rl)(p:Nat)(k':K):Prop:=bP r=false∧r.1=W.mode k∧r.2.2.1.isPrefixOf (inp.drop i)=true∧W.step k r=(k',true)∧p=i+r.2.2.1.length
structure RJ(W:Wk K)(inp:ax)(k0:K)(G:Nat→K→Int→Prop)(most i:Nat)(Mi:List (K×Int))(seen:List Nat)(kc:K×Int)(done:List Rl)(m:Int→List (K×Int))(l:List Int):Prop where
 nodup:l.Nodup
 oc: ∀p,p∈l→(i:Int)<p∧p≤(inp.length:Int)
 once: ∀p,p∈l→((m p).map (·.1)).Nodup
 len: ∀p,p∈l→(m p).length≤most
 iL: ∀p,p∈l→ ∀k c,aN W.eq (m p) k=some c→G p.toNat k c
 arr: ∀p:Nat,i<p→ ∀k c,Arr W inp k0 i p k c→(p:Int)∈l∧BM W (m (p:Int)) k c
 iG: ∀j,j∈seen→ ∀e,Mi[j]?=some e→ ∀r,r∈W.rs→ ∀p k',Fits W inp i e.1 r p k'→(p:Int)∈l∧BM W (m (p:Int)) k' (e.2+r.2.2.2.2)
 cur: ∀r,r∈done→ ∀p k',Fits W inp i kc.1 r p k'→(p:Int)∈l∧BM W (m (p:Int)) k' (kc.2+r.2.2.2.2)
 rM: ∀p,p<i→QS W inp k0 most p
variable {Gp:Nat→K→Int→Prop} {i:Nat} {m:Int→List (K×Int)} {l:List Int} {Mi:List (K×Int)} {seen:List Nat} {kc:K×Int} {done:List Rl}
theorem RI.open_(hI:RI W inp k0 Gp most i m l)(kc:K×Int):RJ W inp k0 Gp most i Mi [] kc [] m (l.filter fun p=>decide (p≠(i:Int))):=by
 refine⟨hI.nodup.filter _,fun p hp=>?_,fun p hp=>hI.once p (List.mem_filter.1 hp).1,fun p hp=>hI.len p (List.mem_filter.1 hp).1,fun p hp=>hI.iL p (List.mem_filter.1 hp).1,fun p hp k c ha=>?_,fun j hj=>(wn hj).elim,fun r hr=>(wn hr).elim,hI.rM⟩
 (·obtain⟨h1,h2⟩:=List.mem_filter.1 hp;have:=hI.oc p h1;have h2:=of_decide_eq_true h2;omega);·obtain⟨h1,h2⟩:=hI.arr p v6 k c ha;exact⟨List.mem_filter.2 ⟨h1,by simp;omega⟩,h2⟩
theorem RJ.pick(hJ:RJ W inp k0 Gp most i Mi seen kc [] m l)(kc':K×Int):RJ W inp k0 Gp most i Mi seen kc' [] m l:=⟨hJ.nodup,hJ.oc,hJ.once,hJ.len,hJ.iL,hJ.arr,hJ.iG,fun r hr=>(wn hr).elim,hJ.rM⟩
theorem RJ.skip(hJ:RJ W inp k0 Gp most i Mi seen kc done m l) {r:Rl} (hn: ∀p k',¬Fits W inp i kc.1 r p k'):RJ W inp k0 Gp most i Mi seen kc (done++ [r]) m l:=by
 refine⟨hJ.nodup,hJ.oc,hJ.once,hJ.len,hJ.iL,hJ.arr,hJ.iG,fun r2 pQ p k' hf=>?_,hJ.rM⟩;rcases ws pQ with h|h;(·exact hJ.cur r2 h p k' hf);·rw[List.mem_singleton]at h;subst h;exact absurd hf (hn p k')
def upd(m:Int→List (K×Int))(p:Int)(M:List (K×Int)):Int→List (K×Int):=fun q=>if q=p then M else m q
theorem RJ.step(hW:W.Ok h)(hG:Good W inp k0 h Gp)(hJ:RJ W inp k0 Gp most i Mi seen kc done m l) {r:Rl} {k':K} (hr:r∈W.rs)(ur:Gp i kc.1 kc.2)(hf:Fits W inp i kc.1 r (i+r.2.2.1.length) k') {M:List (K×Int)} {l':List Int} (hM:((i+r.2.2.1.length:Nat):Int)∈l∧M=m ((i+r.2.2.1.length:Nat):Int)∧l'=l∨((i+r.2.2.1.length:Nat):Int)∉l∧M=[]∧l'=l++ [((i+r.2.2.1.length:Nat):Int)])(hlen:(W.gi M k' (kc.2+r.2.2.2.2)).length≤most):RJ W inp k0 Gp most i Mi seen kc (done++ [r]) (upd m ((i+r.2.2.1.length:Nat):Int) (W.gi M k' (kc.2+r.2.2.2.2))) l':=by
 obtain⟨hs,hm,hp,cw,_⟩:=hf;have rR:=yc hs;have aQ5:=hG.take i kc.1 kc.2 r k' ur hr hs hm hp cw;(have pP:i+r.2.2.1.length≤inp.length:=by have:=(List.isPrefixOf_iff_prefix.1 hp).length_le;rw[List.length_drop]at this;omega)
 generalize hto:i+r.2.2.1.length=to at*;(have uY: ∀p,p∈l→p∈l':=fun p hp=>by rcases hM with⟨_,_,rfl⟩|⟨_,_,rfl⟩;(·exact hp);·exact w9 _ hp);(have eg:(to:Int)∈l':=by rcases hM with⟨h,_,rfl⟩|⟨_,_,rfl⟩;(·exact h);·exact w5 _ (List.mem_singleton.2 rfl))
 (have ni: ∀p,p∈l'→p≠(to:Int)→p∈l:=fun p hp bS=>by rcases hM with⟨_,_,rfl⟩|⟨_,_,rfl⟩;(·exact hp);·rcases ws hp with h|h;(·exact h);·exact absurd (wd h) bS)
 (have bO0:(M.map (·.1)).Nodup:=by rcases hM with⟨h,rfl,_⟩|⟨_,rfl,_⟩;(·exact hJ.once _ h);·exact List.nodup_nil);(have yb: ∀k c,aN W.eq M k=some c→Gp to k c:=fun k c hk=>by rcases hM with⟨h,rfl,_⟩|⟨_,rfl,_⟩;(·have:=hJ.iL _ h k c hk;rwa[Int.toNat_natCast]at this);·cases hk)
 (have Yz: ∀p k c,(p:Int)∈l→BM W (m p) k c→p∈l'∧BM W (upd m (to:Int) (W.gi M k' (kc.2+r.2.2.2.2)) p) k c:=fun p k c hp hd=>by refine⟨uY p hp,?_⟩;unfold upd;by_cases e:p=(to:Int);(·rw[if_pos e];rcases hM with⟨_,rfl,_⟩|⟨hn,_,_⟩;(·rw[e]at hd;exact hd.rel hW);·exact absurd (e▸hp) hn);·rw[if_neg e];exact hd)
 refine⟨?_,fun p hp=>?_,fun p hp=>?_,fun p hp=>?_,fun p hp k c hk=>?_,fun p hp k c ha=>?_,fun j hj e he r2 pQ p k2 hf2=>?_,fun r2 pQ p k2 hf2=>?_,hJ.rM⟩;(·rcases hM with⟨_,_,rfl⟩|⟨hn,_,rfl⟩;(·exact hJ.nodup);·refine List.nodup_append.2 ⟨hJ.nodup,by simp,fun a ha b hb=>?_⟩;rw[List.mem_singleton]at hb;subst hb;rintro rfl;exact hn ha)
 (·by_cases e:p=(to:Int);(·subst e;omega);·exact hJ.oc p (ni p hp e));(·unfold upd;by_cases e:p=(to:Int);(·rw[if_pos e];exact hW.pH bO0);·rw[if_neg e];exact hJ.once p (ni p hp e))
 (·unfold upd;by_cases e:p=(to:Int);(·rw[if_pos e];exact hlen);·rw[if_neg e];exact hJ.len p (ni p hp e));(·unfold upd at hk;by_cases e:p=(to:Int);(·rw[if_pos e]at hk;subst e;rw[Int.toNat_natCast];cases hb:W.ko M k' (kc.2+r.2.2.2.2);(·rw[Wk.Ok.sP hb]at hk;exact yb k c hk);·by_cases e2:k=k';(·subst e2;rw[hW.sQ hb]at hk;injection hk with hk;rw[←hk];exact aQ5);·rw[hW.kZ e2]at hk;exact yb k c hk);·rw[if_neg e]at hk;exact hJ.iL p (ni p hp e) k c hk)
 (·obtain⟨h1,h2⟩:=hJ.arr p hp k c ha;exact Yz _ k c h1 h2);(·obtain⟨h1,h2⟩:=hJ.iG j hj e he r2 pQ p k2 hf2;exact Yz _ _ _ h1 h2);·rcases ws pQ with h|h;(·obtain⟨h1,h2⟩:=hJ.cur r2 h p k2 hf2;exact Yz _ _ _ h1 h2);·rw[List.mem_singleton]at h;subst h;obtain⟨_,_,_,qp,TF⟩:=hf2;rw[cw]at qp;injection qp with e2 _;subst e2;rw[hto]at TF;subst TF;refine⟨eg,?_⟩;unfold upd;rw[if_pos rfl];exact hW.BL
theorem RJ.next(hJ:RJ W inp k0 Gp most i Mi seen kc W.rs m l) {j:Nat} (hj:Mi[j]?=some kc)(kc':K×Int):RJ W inp k0 Gp most i Mi (seen++ [j]) kc' [] m l:=by
 refine⟨hJ.nodup,hJ.oc,hJ.once,hJ.len,hJ.iL,hJ.arr,fun j2 hj2 e he r hr p k' hf=>?_,fun r hr=>(wn hr).elim,hJ.rM⟩;rcases ws hj2 with h|h
 (·exact hJ.iG j2 h e he r hr p k' hf);·rw[List.mem_singleton]at h;subst h;rw[hj]at he;injection he with he;subst he;exact hJ.cur r hr p k' hf
theorem RJ.close(he: ∀x y,W.eq x y=true↔x=y)(hJ:RJ W inp k0 Gp most i Mi seen kc [] m l)(bt: ∀j,j<Mi.length→j∈seen)(hl:Mi.length≤most)(hd: ∀k c,Rt W inp k0 i k c→BM W Mi k c):RI W inp k0 Gp most (i+1) m l:=by
 refine⟨hJ.nodup,fun p hp=>?_,hJ.once,hJ.len,hJ.iL,fun p hp k c ha=>?_,fun p hp=>?_⟩;(·have:=hJ.oc p hp;omega);(·rcases ha with⟨h1,_⟩|⟨p1,k1,c1,r,h1,hR,hr,hs,hm,L9,cw,e1,e2⟩;(·omega);·by_cases cu:p1<i;(·exact hJ.arr p v6 k c (.inr ⟨p1,k1,c1,r,cu,hR,hr,hs,hm,L9,cw,e1,e2⟩));·have e:p1=i:=v6;subst e;obtain⟨c2,h2,h3⟩:=hd k1 c1 hR;obtain⟨j,hj⟩:=List.getElem?_of_mem (my he h3);obtain⟨h4,h5⟩:=hJ.iG j (bt j (z6 hj).1) _ hj r hr p k ⟨hs,hm,L9,cw,e1⟩;exact⟨h4,h5.le v7⟩)
 ·by_cases cu:p<i;(·exact hJ.rM p cu);·have e:p=i:=v6;subst e;exact YP he hl hd
end Go.Proofs.YtimognngcagphaaGreat.Op
set_option maxHeartbeats 8000000
set_option maxRecDepth 100000
namespace Go.Proofs.YtimognngcagphaaGreat
section
attribute[local go_sem←]u3 u4 u5
attribute[local go_sem]gH bH ne_eq not_false_eq_true
theorem bx4(s p:ax):PC env 114 [⟨.str,s⟩,⟨.str,p⟩] .bool (p.isPrefixOf s):=by
 refine PC.aC (m:=2000) ae XE rfl rfl rfl rfl (by kernel_rfl) ?_;intro hx;simp only[Tryz.f114];simp only[go_sem]
 refine⟨fun g=>⟨⟨x5,g⟩,?_⟩,fun g=>?_⟩;(·rw[Bool.eq_iff_iff,decide_eq_true_eq,List.isPrefixOf_iff_prefix,List.prefix_iff_eq_take];exact eq_comm)
 ·cases h:p.isPrefixOf s with|false=>rfl|true=>have:=(List.isPrefixOf_iff_prefix.1 h).length_le;omega
theorem bO1(s p:ax):PC env 69 [⟨.str,s⟩,⟨.str,p⟩] .bool (p.isPrefixOf s):=by
 refine PC.aC (m:=2000) ae aW1 rfl rfl rfl rfl (by kernel_rfl) ?_;intro hx;simp only[Tryz.f69];simp only[go_sem]
 exact⟨_,bx4 s p,rfl⟩
abbrev Os:=Int×Int
def Ei(out:ax)(k:Os)(r:Rl):Os×Bool:=((r.2.1,k.2+(r.2.2.2.1.length:Int)),r.2.2.2.1.isPrefixOf (out.drop k.2.toNat))
def wkS(rs:List Rl)(out:ax):Op.Wk Os:=⟨fO fw,rs,fun k=>k.1,Ei out⟩
end
section
theorem Ma {out:ax} {k k':Os} {r:Rl} (h:Ei out k r=(k',true)):k'=(r.2.1,k.2+(r.2.2.2.1.length:Int))∧r.2.2.2.1.isPrefixOf (out.drop k.2.toNat)=true:=by
 unfold Ei at h;injection h with h1 h2;exact⟨h1.symm,h2⟩
theorem Mb {out:ax} {k k':Os} {r:Rl} (h:Ei out k r=(k',true))(hk:0≤k.2∧k.2≤out.length):0≤k'.2∧k'.2≤out.length:=by
 obtain⟨rfl,h2⟩:=Ma h;have:=(List.isPrefixOf_iff_prefix.1 h2).length_le;rw[List.length_drop]at this;dsimp only;omega
end
section
attribute[local go_sem]gH bH ne_eq not_false_eq_true
def Bf(n:Nat)(seen:List Nat):Nat:=((List.range n).filter fun i=>decide (i∉seen)).length
theorem qS {n i:Nat} {seen:List Nat} (hi:i<n)(hn:i∉seen):Bf n (seen++ [i])<Bf n seen:=by
 unfold Bf;rw[←List.countP_eq_length_filter,←List.countP_eq_length_filter];(have key: ∀l:List Nat,l.countP (fun j=>decide (j∉seen++ [i]))≤l.countP (fun j=>decide (j∉seen))∧(i∈l→l.countP (fun j=>decide (j∉seen++ [i]))+1≤l.countP (fun j=>decide (j∉seen))):=by intro l;induction l with|nil=>exact⟨x8,fun h=>by cases h⟩|cons x l ih=>have himp:x∉seen++ [i]→x∉seen:=fun h h'=>h (List.mem_append.2 (.inl h'));refine⟨?_,fun hm=>?_⟩;(·simp only[List.countP_cons];by_cases h1:x∉seen++ [i];(·simp only[decide_eq_true h1,decide_eq_true (himp h1)];have:=ih.1;simp;simpa using this);·rw[decide_eq_false h1];have:=ih.1;simp only[Bool.false_eq_true,if_false];omega);·simp only[List.countP_cons];rcases wl hm with rfl|hm;(·have h1: ¬i∉seen++ [i]:=fun h=>h (List.mem_append.2 (.inr (List.mem_singleton.2 rfl)));rw[decide_eq_false h1,decide_eq_true hn];have:=ih.1;simp only[Bool.false_eq_true,if_false,if_true];omega);·have h2:=ih.2 hm;by_cases h1:x∉seen++ [i];(·rw[decide_eq_true h1,decide_eq_true (himp h1)];simp only[if_true];omega);·rw[decide_eq_false h1];simp only[Bool.false_eq_true,if_false];omega)
 have:=(key (List.range n)).2 (List.mem_range.2 hi);omega
theorem Ej(n:Nat):Bf n []=n:=by unfold Bf;(have:(List.range n).filter (fun i=>decide (i∉([]:List Nat)))=List.range n:=List.filter_eq_self.2 fun i _=>by simp);rw[this,List.length_range]
theorem Ek {K:Type} {W:Op.Wk K} {M:List (K×Int)} {k:K} {l:List Rl} {i:Nat} {r:Rl} (h:W.iO M k (l.take i))(hr:l[i]?=some r)(hs:bP r=true→r.1=W.mode k→ ∀k',W.step k r≠(k',true)):W.iO M k (l.take (i+1)):=by
 intro r2 pQ tq hm2 k2 qp c hc;rw[List.take_add_one,hr,List.mem_append]at pQ;rcases pQ with pQ|pQ;(·exact h r2 pQ tq hm2 k2 qp c hc);·(have e:r2=r:=by simpa using pQ);subst e;exact absurd qp (hs tq hm2 k2)
end
section
variable {en:Prop} [lj en]
def bm(p:Int):Nat:=500000000+p.toNat
def pR(K V:Ty)(m:Int→List (K.den×V.den))(l:List Int):List (Nat×aQ):=l.map fun p=>(bm p,.mp K V (m p))
theorem lD {p q:Int} (hp:0≤p)(hq:0≤q)(h:bm p=bm q):p=q:=by unfold bm at h;omega
theorem yd {p:Int} {c:Nat} (h:c≤499999999):(bm p==c)=false:=by unfold bm;simp;omega
theorem I1 {p:Int} {c:Nat} (h:c≤499999999):(c==bm p)=false:=by unfold bm;simp;omega
theorem gj {p:Int} (hp:p<1000) {c:Nat} (h:600000000≤c):(bm p==c)=false:=by unfold bm;simp;omega
theorem I2 {p:Int} (hp:p<1000) {c:Nat} (h:600000000≤c):(c==bm p)=false:=by unfold bm;simp;omega
theorem kb {p q:Int} (h:p≠q)(hp:0≤p)(hq:0≤q):(bm p==bm q)=false:=by have:bm p≠bm q:=fun e=>h (lD hp hq e);simpa using this
theorem I3 {p:Int} (hp:p<1000):(1000000000≤bm p)=False:=by unfold bm;simp;omega
section
variable {K V:Ty} {m:Int→List (K.den×V.den)}
theorem sR {i:Nat} (h:i≤499999999): ∀(l:List Int),look i (pR K V m l)=none|[]=>rfl|p::l=>by simp only[pR,List.map_cons,look];rw[yW,I1 h];exact sR h l
theorem cr {p:Int} : ∀ {l:List Int},(∀q,q∈l→0≤q)→p∈l→look (bm p) (pR K V m l)=some (.mp K V (m p))|q::l,h0,hp=>by simp only[pR,List.map_cons,look];rw[yW];by_cases e:bm p=bm q;(·have e2:=lD (h0 p hp) (h0 q (y8 ..)) e;subst e2;simp);·(have pP:p∈l:=by rcases wl hp with h|h;(·exact absurd (by rw[h]) e);·exact h);rw[show(bm p==bm q)=false from by simpa using e];exact cr (fun q hq=>h0 q (y7 _ hq)) pP
theorem zL(f:List PV→List PV): ∀(l:List Int),oE f (pR K V m l)=pR K V m l|[]=>rfl|p::l=>by simp only[pR,List.map_cons,oE,aQ.map];exact congrArg _ (zL f l)
theorem nr(ks:List Nat): ∀(l:List Int),bA ks (pR K V m l)=pR K V m (l.filter fun p=>!(ao (bm p) ks))|[]=>rfl|p::l=>by simp only[pR,List.map_cons,bA];cases h:ao (bm p) ks;(·rw[List.filter_cons_of_pos (by rw[h];rfl)];simp only[List.map_cons,cond_false];exact congrArg _ (nr ks l));·rw[List.filter_cons_of_neg (by rw[h];simp)];simp only[cond_true];exact nr ks l
theorem qT {T:Int} (hT:0≤T) {l:List Int} (h0: ∀q,q∈l→0≤q):bA [bm T] (pR K V m l)=pR K V m (l.filter fun p=>decide (p≠T)):=by
 rw[nr];congr 1;refine List.filter_congr fun p hp=>?_;simp only[ao,yW];by_cases e:p=T;(·subst e;simp);·have:bm p≠bm T:=fun e2=>e (lD (h0 p hp) hT e2);simp[this,e]
theorem ff {s t:St} : ∀ {l:List Int},(∀p,p∈l→look (bm p) s.bl=some (.mp K V (m p)))→RN s t (pR K V m l)|[],_=>trivial|p::l,h=>by refine⟨?_,ff fun q hq=>h q (y7 _ hq)⟩;simp only[Al,h p (y8 ..)]
theorem tV(ks:List Nat): ∀(l:List Int),gP ks (pR K V m l)=true|[]=>rfl|p::l=>by simp only[pR,List.map_cons,gP,iA,Bool.true_and];exact tV ks l
theorem od {p:Int} : ∀ {l:List Int},p∈l→ao (bm p) (keys (pR K V m l))=true|q::l,h=>by simp only[pR,keys,List.map_cons,ao];rw[yW];rcases wl h with rfl|h;(·simp);·cases hq:(bm p==bm q);(·exact od h);·rfl
end
theorem El(ks:List Nat)(f:Int→Nat): ∀(l:List Int),PV.cK ks (rp f l)=rp f l|[]=>rfl|p::l=>by simp only[rp,List.map_cons,PV.cK,PV.kill];exact congrArg _ (El ks f l)
theorem pI(s t:St): ∀(ps:List PV),NC s t ps ps|[]=>trivial|p::ps=>⟨.inl rfl,pI s t ps⟩
theorem BN {ks:List Nat} {f:Int→Nat} : ∀ {l:List Int},(∀p,p∈l→ao (f p) ks=true)→PV.gm ks (rp f l)=true|[],_=>rfl|p::l,h=>by simp only[rp,List.map_cons,PV.gm,PV.uJ,h p (y8 ..),Bool.true_and];exact BN fun q hq=>h q (y7 _ hq)
theorem bT {i k:Nat} {r:List Nat} (h:ao i r=true):ao i (k::r)=true:=by simp only[ao];cases Nat.beq i k;(·exact h);·rfl
theorem cd {ks:List Nat} {i:Nat} {b:aQ} {r:List (Nat×aQ)} (h1:iA ks b=true)(h2:gP ks r=true):gP ks ((i,b)::r)=true:=by simp only[gP,h1,h2,Bool.and_self]
theorem Tj(i:Nat)(r:List Nat):ao i (i::r)=true:=by simp only[ao,yW,beq_self_eq_true,cond_true]
theorem az {s t:St} {i:Nat} {b:aQ} {r:List (Nat×aQ)} (h1:Al s t i b)(h2:RN s t r):RN s t ((i,b)::r):=⟨h1,h2⟩
theorem bc {s t:St} {i:Nat} {b:aQ} (h:look i s.bl=some b):Al s t i b:=by
 cases b with|box cs e=>unfold Al;rw[h];exact⟨pI _ _ _,.inr rfl⟩|arr T xs e=>simp only[Al,h]|mp K V es=>simp only[Al,h]|it cs a b=>unfold Al;rw[h];exact⟨rfl,rfl,pI _ _ _⟩|Bj x p=>simp only[Al,h]|gh o cs=>unfold Al;rw[h];exact⟨rfl,pI _ _ _⟩|ln T xss=>simp only[Al,h]
theorem QT {K V:Ty} {m:Int→List (K.den×V.den)} {T:Int} {c:Nat} (hc:c≤499999999)(hT:0≤T): ∀ {l:List Int},(∀q,q∈l→0≤q)→T∉l→kr (bn [(c,bm T),(bm T,c)]) (pR K V m l)=pR K V m l|[],_,_=>rfl|p::l,h0,hn=>by have h1:=QT (m:=m) hc hT (fun q hq=>h0 q (y7 _ hq)) (fun h=>hn (y7 _ h));simp only[pR,List.map_cons,kr,aQ.map];(have e:bn [(c,bm T),(bm T,c)] (bm p)=bm p:=by have bS:bm p≠bm T:=fun e=>hn (by rw[←lD (h0 p (y8 ..)) hT e];exact y8 ..);simp only[bn,look,yW,yd hc,show(bm p==bm T)=false from by simpa using bS,cond_false]);rw[e];exact congrArg _ h1
theorem YQ {T:Int} {c:Nat} (hc:c≤499999999)(hT:0≤T): ∀ {l:List Int},(∀q,q∈l→0≤q)→PV.im (bn [(c,bm T),(bm T,c)]) (rp (fun q=>if q=T then c else bm q) l)=rp bm l|[],_=>rfl|p::l,h0=>by have h1:=YQ hc hT (l:=l) (fun q hq=>h0 q (y7 _ hq));simp only[rp,List.map_cons,PV.im,PV.eN];(have e:bn [(c,bm T),(bm T,c)] (if p=T then c else bm p)=bm p:=by by_cases hp:p=T;(·subst hp;simp[bn,look,yW]);·have bS:bm p≠bm T:=fun e=>hp (lD (h0 p (y8 ..)) hT e);rw[if_neg hp];simp only[bn,look,yW,yd hc,show(bm p==bm T)=false from by simpa using bS,cond_false]);rw[e];exact congrArg _ h1
theorem AQ {α:Type} {x:α} : ∀ {l:List α} {i:Nat},l.Nodup→l[i]?=some x→(l.eraseIdx i).Nodup∧ ∀p,p∈l.eraseIdx i↔p∈l∧p≠x|y::l,0,hn,hi=>(by have Js:=List.nodup_cons.1 hn;(have e:y=x:=by simpa using hi);subst e;refine⟨Js.2,fun p=>⟨fun hp=>⟨y7 _ hp,fun e=>Js.1 (e▸hp)⟩,fun⟨hp,bS⟩=>?_⟩⟩;rcases wl hp with h|h;(·exact absurd h bS);·exact h)|y::l,i+1,hn,hi=>by have Js:=List.nodup_cons.1 hn;obtain⟨h1,h2⟩:=AQ Js.2 (show l[i]?=some x by simpa using hi);have hxy:y≠x:=fun e=>Js.1 (e▸x7 (show l[i]?=some x by simpa using hi));refine⟨List.nodup_cons.2 ⟨fun h=>Js.1 ((h2 y).1 h).1,h1⟩,fun p=>?_⟩;simp only[List.eraseIdx_cons_succ,List.mem_cons,h2 p];constructor;(·rintro(rfl|⟨h,bS⟩);(·exact⟨.inl rfl,hxy⟩);·exact⟨.inr h,bS⟩);·rintro⟨rfl|h,bS⟩;(·exact .inl rfl);·exact .inr ⟨h,bS⟩
theorem ah.QU {E:Env} {G:Goal} {c:Code} {k:List WI} {s:St} {X:Type} (sl:X→List (Nat×PV))(bl:X→List (Nat×aQ))(inv:X→Prop)(m:X→Nat)(x0:X)(h: ∀b1,sq (nW c++(sl x0).map (·.1)) s.sl=b1→Le s ⟨sl x0++b1,bl x0⟩∧inv x0∧ ∀x,inv x→(∀(t:St)(y:X),Le t ⟨sl y++b1,bl y⟩→inv y→m y<m x→ah E G (.loop c::k) t)→ah E G (.code c:: .loop c::k) ⟨sl x++b1,bl x⟩):ah E G (.code (.loop c)::k) s:=by
 obtain⟨h1,h2,h3⟩:=h _ rfl;exact ah.VC (fun x=>⟨sl x++sq (nW c++(sl x0).map (·.1)) s.sl,bl x⟩) inv m x0 h1 h2 h3
theorem OH {a b:Nat} (bS:a≠b)(ha:a<P0)(hb:b<P0):vm [(a,b),(b,a)]=true:=by
 (have h1:Nat.blt a P0=true:=by rw[Nat.blt_eq];exact ha);(have h2:Nat.blt b P0=true:=by rw[Nat.blt_eq];exact hb);(have e1:Nat.beq a b=false:=by rw[yW];simpa using bS)
 (have e2:Nat.beq b a=false:=by rw[yW];simpa using bS.symm);(have e3:Nat.beq a a=true:=by rw[yW];simp);(have e4:Nat.beq b b=true:=by rw[yW];simp);simp[vm,Gk,closed,cz,tN,bn,look,e1,e2,e3,e4,h1,h2]
end
end Go.Proofs.YtimognngcagphaaGreat
