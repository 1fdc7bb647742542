/- What leaving's groups hold. Nothing here is trusted; no condition. -/
import Derived.Test.YtgpkijnphchkpaaGreatC2
set_option linter.unusedSimpArgs false
set_option linter.unusedVariables false
open Nat renaming reduceBEq→zA,reduceAdd→zB,reduceSub→zC,reduceMul→zD,reduceLeDiff→zE
open Int renaming reduceLT→zF,reduceLE→zG,reduceToNat→zH,reduceNeg→zI
namespace Go.Proofs.YtgpkijnphchkpaaGreat
end Go.Proofs.YtgpkijnphchkpaaGreat
namespace Go.Proofs.YtgpkijnphchkpaaGreat
def mY(s:aI):List Int:=s.map fun c:UInt8=>(c.toNat:Int)
def toS(l:List Int):aI:=l.map fun n:Int=>UInt8.ofNat n.toNat
theorem DK(s:aI):toS (mY s)=s:=by unfold toS mY;rw[List.map_map];(conv=>rhs;rw[←List.map_id s]);apply List.map_congr_left;intro c _;simp
theorem ah9(s t:aI):mY (s++t)=mY s++mY t:=List.map_append ..
end Go.Proofs.YtgpkijnphchkpaaGreat
namespace Go.Proofs.YtgpkijnphchkpaaGreat
set_option maxHeartbeats 4000000
set_option maxRecDepth 100000
end Go.Proofs.YtgpkijnphchkpaaGreat
namespace Go.Proofs.YtgpkijnphchkpaaGreat
def B6(s:cB):Int→List Int→Prop|m,[]=>0≤m∧m<s.1∧mI s.2.1 m=true|m,i::l=> ∃r,0≤i∧s.2.2[i.toNat]?=some r∧r.1=m∧B6 s r.2.1 l
def be0(s:cB)(i:Int):Int:=match s.2.2[i.toNat]? with|some r=>r.2.2.2.2|none=>0
def Gw(s:cB):List Int→Int|[]=>0|i::l=>be0 s i+Gw s l
def be1:List Int→List Int→Bool|a::x,b::y=>decide (a<b)||(decide (a=b)&&be1 x y)|_,_=>false
def bn7(c1:Int)(l1:List Int)(c2:Int)(l2:List Int):Bool:=decide (c1<c2∨c1=c2∧(l1.length<l2.length∨l1.length=l2.length∧be1 l1 l2=true))
def leE(s:cB)(x y:List Int):Prop:=x=y∨bn7 (Gw s x) x (Gw s y) y=true
structure br1(s:cB)(m:Int)(l:List Int):Prop where
 is:B6 s m l
 le: ∀l',B6 s m l'→leE s l l'
def Jr(s:cB):Int→List Int→List Nat|m,[]=>[m.toNat]|m,i::l=>m.toNat::(match s.2.2[i.toNat]? with|some r=>Jr s r.2.1 l|none=>[])
end Go.Proofs.YtgpkijnphchkpaaGreat
namespace Go.Proofs.YtgpkijnphchkpaaGreat
abbrev En:=List Int×Int×Bool
structure bs9(s:cB)(k:Nat)(m:Int)(e:En)(all:List Int→Prop):Prop where
 is:e.2.2=true→B6 s m e.1∧e.1.length≤k∧e.2.1=Gw s e.1
 no:e.2.2=false→e.1=[]∧e.2.1=0
 le: ∀l,B6 s m l→all l→e.2.2=true∧leE s e.1 l
end Go.Proofs.YtgpkijnphchkpaaGreat
namespace Go.Proofs.YtgpkijnphchkpaaGreat
set_option maxHeartbeats 1000000
abbrev PM:=List (Int×Pr)
def prc(s:cB)(l:List Int):Pr:=(Gw s l,(l.length:Int))
def PrS(s:cB)(ps:PM)(m:Int)(p:Pr):Prop:= ∃l,B6 s m l∧p=prc s l∧(Jr s m l).Nodup∧ ∀(x:Nat),x∈Jr s m l→ ∃px,aJ iX ps (x:Int)=some px∧ew p px=false
structure PrI(s:cB)(ps:PM):Prop where
 sound: ∀m p,aJ iX ps m=some p→PrS s ps m p
 acc: ∀m:Int,0≤m→m<s.1→mI s.2.1 m=true→aJ iX ps m=some (0,0)
def be2(ps:PM)(r:Rl):Prop:= ∀q,aJ iX ps r.2.1=some q→ ∃p,aJ iX ps r.1=some p∧ew (bd1 q r.2.2.2.2) p=false
def bn8:Option Pr→Nat|none=>100000|some p=>p.1.toNat*8+p.2.toNat
def ar2(n:Nat)(ps:PM):Nat:=((List.range n).map fun(m:Nat)=>bn8 (aJ iX ps (m:Int))).sum
structure PrL(s:cB)(p0:PM)(ch:Bool)(ps:PM)(P:Int→Prop):Prop where
 ok:PrI s ps
 once:(ps.map (·.1)).Nodup
 bt0:ar2 s.1.toNat ps+(if ch=true then 1 else 0)≤ar2 s.1.toNat p0
 shut:ch=false→ ∀i,P i→ ∀r,s.2.2[i.toNat]?=some r→be2 ps r
structure PrZ(s:cB)(k:Nat)(ps:PM):Prop where
 find: ∀m:Int,aJ iX ps m=if 0≤m∧m<(k:Int)∧mI s.2.1 m=true then some (0,0)else none
 once:(ps.map (·.1)).Nodup
end Go.Proofs.YtgpkijnphchkpaaGreat
namespace Go.Proofs.YtgpkijnphchkpaaGreat
set_option maxHeartbeats 1000000
theorem B7(k:Int): ∀(rs:List Rl)(i:Nat)(m:GM),lj (o8 rs i m) k=lj m k++ib k rs i|[],_,m=>(by simp only[o8,ib,List.append_nil])|r::rs,i,m=>by simp only[o8];rw[B7 k rs (i+1) _,Gm];have e:ib k (r::rs) i=if r.1=k then(i:Int)::ib k rs (i+1)else ib k rs (i+1):=rfl;rw[e];by_cases h:r.1=k;(·rw[if_pos h.symm,if_pos h,h,List.append_assoc];rfl);·rw[if_neg (fun e=>h e.symm),if_neg h]
theorem zk(rs:List Rl)(k:Int):lj (ey rs) k=ib k rs 0:=by unfold ey;rw[B7];rfl
theorem B8(k:Int)(v:List Int): ∀(m:GM),(cO iX m k v).map (·.1)=if k∈m.map (·.1)then m.map (·.1)else m.map (·.1)++ [k]|[]=>rfl|p::m=>by have ih:=B8 k v m;simp only[cO];by_cases h:k=p.1;(·(have:iX k p.1=true:=by simp only[iX,h,decide_true]);rw[this,cond_true,if_pos (by simp[h])];simp[h]);·(have:iX k p.1=false:=by simp only[iX,h,decide_false]);rw[this,cond_false];simp only[List.map_cons,ih,List.mem_cons,h,false_or];split<;>rfl
theorem Na {k:Int} {v:List Int} {m:GM} (h:(m.map (·.1)).Nodup):((cO iX m k v).map (·.1)).Nodup:=by
 rw[B8];split;(·exact h);·rename_i hk;rw[List.nodup_append];exact⟨h,by simp,fun a ha b hb=>by simp at hb;subst hb;exact fun e=>hk (e▸ha)⟩
theorem B9: ∀(rs:List Rl)(i:Nat)(m:GM),(m.map (·.1)).Nodup→((o8 rs i m).map (·.1)).Nodup|[],_,_,h=>h|_::rs,i,m,h=>B9 rs (i+1) _ (Na h)
theorem Gx: ∀ {m:GM} {x:Int×List Int},(m.map (·.1)).Nodup→x∈m→aJ iX m x.1=some x.2|p::m,x,h,hx=>by simp only[List.map_cons,List.nodup_cons]at h;simp only[aJ];rcases List.mem_cons.1 hx with rfl|hx;(·(have:iX x.1 x.1=true:=by simp only[iX,decide_true]);rw[this,cond_true]);·have bW:x.1≠p.1:=fun e=>h.1 (by rw[←e];exact List.mem_map_of_mem hx);(have:iX x.1 p.1=false:=by simp only[iX,bW,decide_false]);rw[this,cond_false];exact Gx h.2 hx
theorem Gy: ∀ {m:GM} {k:Int} {v:List Int},aJ iX m k=some v→(k,v)∈m|p::m,k,v,h=>by simp only[aJ]at h;by_cases e:k=p.1;(·(have:iX k p.1=true:=by simp only[iX,e,decide_true]);rw[this,cond_true]at h;injection h with h;subst h;subst e;simp);·(have:iX k p.1=false:=by simp only[iX,e,decide_false]);rw[this,cond_false]at h;exact List.mem_cons_of_mem _ (Gy h)
theorem zl {rs:List Rl} {x:Int×List Int} (h:x∈ey rs):x.2=ib x.1 rs 0:=by have hf:=Gx (B9 rs 0 [] (by simp)) h;rw[←zk];unfold lj;rw[show ey rs=o8 rs 0 []from rfl,hf];rfl
theorem Nb {rs:List Rl} {x:Int×List Int} {j:Int} (h:x∈ey rs)(hj:j∈x.2): ∃(i:Nat)(r:Rl),j=(i:Int)∧rs[i]?=some r∧r.1=x.1:=by
 rw[zl h]at hj;obtain⟨i,r,h1,h2,h3⟩:=jl.1 hj;exact⟨i,r,by rw[h3,Nat.zero_add],h1,h2⟩
theorem SQ {rs:List Rl} {i:Nat} {r:Rl} (h:rs[i]?=some r): ∃(p:Nat)(x:Int×List Int),(ey rs)[p]?=some x∧x.1=r.1∧(i:Int)∈x.2:=by
 (have hm:(i:Int)∈lj (ey rs) r.1:=by rw[zk];exact jl.2 ⟨i,r,h,rfl,by rw[Nat.zero_add]⟩);unfold lj at hm;cases hf:aJ iX (ey rs) r.1 with|none=>rw[hf]at hm;cases hm|some v=>rw[hf]at hm;obtain⟨p,hp⟩:=List.getElem?_of_mem (Gy hf);exact⟨p,_,hp,rfl,hm⟩
theorem Nc(rs:List Rl):(ey rs).length≤rs.length∧ ∀x,x∈ey rs→x.2.length≤rs.length:=by refine⟨by have:=vf rs 0 [];simpa[ey]using this,fun x hx=>?_⟩;rw[zl hx];exact vk _ _ _
end Go.Proofs.YtgpkijnphchkpaaGreat
