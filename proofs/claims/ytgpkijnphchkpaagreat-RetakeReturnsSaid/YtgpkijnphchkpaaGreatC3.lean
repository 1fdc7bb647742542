/- What leaving's groups hold. Nothing here is trusted; no condition. -/
import Derived.Test.YtgpkijnphchkpaaGreatC2
set_option linter.unusedSimpArgs false
set_option linter.unusedVariables false
open Nat renaming reduceBEq→zA,reduceAdd→zB,reduceSub→zC,reduceMul→zD,reduceLeDiff→zE
open Int renaming reduceLT→zF,reduceLE→zG,reduceToNat→zH,reduceNeg→zI
namespace Go.Proofs.YtgpkijnphchkpaaGreat
end Go.Proofs.YtgpkijnphchkpaaGreat
namespace Go.Proofs.YtgpkijnphchkpaaGreat
def nJ(s:aI):List Int:=s.map fun c:UInt8=>(c.toNat:Int)
def toS(l:List Int):aI:=l.map fun n:Int=>UInt8.ofNat n.toNat
theorem Fp(s:aI):toS (nJ s)=s:=by unfold toS nJ;rw[List.map_map];(conv=>rhs;rw[←List.map_id s]);apply List.map_congr_left;intro c _;simp
theorem aq5(s t:aI):nJ (s++t)=nJ s++nJ t:=List.map_append ..
end Go.Proofs.YtgpkijnphchkpaaGreat
namespace Go.Proofs.YtgpkijnphchkpaaGreat
set_option maxHeartbeats 4000000
set_option maxRecDepth 100000
end Go.Proofs.YtgpkijnphchkpaaGreat
namespace Go.Proofs.YtgpkijnphchkpaaGreat
def Ur(s:db):Int→List Int→Prop|m,[]=>0≤m∧m<s.1∧qk s.2.1 m=true|m,i::l=> ∃r,0≤i∧s.2.2[i.toNat]?=some r∧r.1=m∧Ur s r.2.1 l
def bm4(s:db)(i:Int):Int:=match s.2.2[i.toNat]? with|some r=>r.2.2.2.2|none=>0
def Us(s:db):List Int→Int|[]=>0|i::l=>bm4 s i+Us s l
def bm5:List Int→List Int→Bool|a::x,b::y=>decide (a<b)||(decide (a=b)&&bm5 x y)|_,_=>false
def bw3(c1:Int)(l1:List Int)(c2:Int)(l2:List Int):Bool:=decide (c1<c2∨c1=c2∧(l1.length<l2.length∨l1.length=l2.length∧bm5 l1 l2=true))
def leE(s:db)(x y:List Int):Prop:=x=y∨bw3 (Us s x) x (Us s y) y=true
structure bz5(s:db)(m:Int)(l:List Int):Prop where
 is:Ur s m l
 le: ∀l',Ur s m l'→leE s l l'
end Go.Proofs.YtgpkijnphchkpaaGreat
namespace Go.Proofs.YtgpkijnphchkpaaGreat
abbrev bB1:=List Int×Int×Bool
def bB2(a:Int)(n:Nat):List bB1:=(List.range n).map fun(m:Nat)=>([],0,qk a (m:Int))
end Go.Proofs.YtgpkijnphchkpaaGreat
namespace Go.Proofs.YtgpkijnphchkpaaGreat
set_option maxHeartbeats 1000000
end Go.Proofs.YtgpkijnphchkpaaGreat
namespace Go.Proofs.YtgpkijnphchkpaaGreat
set_option maxHeartbeats 1000000
theorem DH(k:Int): ∀(rs:List Rl)(i:Nat)(m:GM),lN (qm rs i m) k=lN m k++ix k rs i|[],_,m=>(by simp only[qm,ix,List.append_nil])|r::rs,i,m=>by simp only[qm];rw[DH k rs (i+1) _,H2];have e:ix k (r::rs) i=if r.1=k then(i:Int)::ix k rs (i+1)else ix k rs (i+1):=rfl;rw[e];by_cases h:r.1=k;(·rw[if_pos h.symm,if_pos h,h,List.append_assoc];rfl);·rw[if_neg (fun e=>h e.symm),if_neg h]
theorem A3(rs:List Rl)(k:Int):lN (eH rs) k=ix k rs 0:=by unfold eH;rw[DH];rfl
theorem DI(k:Int)(v:List Int): ∀(m:GM),(cT kK m k v).map (·.1)=if k∈m.map (·.1)then m.map (·.1)else m.map (·.1)++ [k]|[]=>rfl|p::m=>by have ih:=DI k v m;simp only[cT];by_cases h:k=p.1;(·(have:kK k p.1=true:=by simp only[kK,h,decide_true]);rw[this,cond_true,if_pos (by simp[h])];simp[h]);·(have:kK k p.1=false:=by simp only[kK,h,decide_false]);rw[this,cond_false];simp only[List.map_cons,ih,List.mem_cons,h,false_or];split<;>rfl
theorem OO {k:Int} {v:List Int} {m:GM} (h:(m.map (·.1)).Nodup):((cT kK m k v).map (·.1)).Nodup:=by
 rw[DI];split;(·exact h);·rename_i hk;rw[List.nodup_append];exact⟨h,by simp,fun a ha b hb=>by simp at hb;subst hb;exact fun e=>hk (e▸ha)⟩
theorem DJ: ∀(rs:List Rl)(i:Nat)(m:GM),(m.map (·.1)).Nodup→((qm rs i m).map (·.1)).Nodup|[],_,_,h=>h|_::rs,i,m,h=>DJ rs (i+1) _ (OO h)
theorem H9: ∀ {m:GM} {x:Int×List Int},(m.map (·.1)).Nodup→x∈m→aL kK m x.1=some x.2|p::m,x,h,hx=>by simp only[List.map_cons,List.nodup_cons]at h;simp only[aL];rcases List.mem_cons.1 hx with rfl|hx;(·(have:kK x.1 x.1=true:=by simp only[kK,decide_true]);rw[this,cond_true]);·have bY:x.1≠p.1:=fun e=>h.1 (by rw[←e];exact List.mem_map_of_mem hx);(have:kK x.1 p.1=false:=by simp only[kK,bY,decide_false]);rw[this,cond_false];exact H9 h.2 hx
theorem Ia: ∀ {m:GM} {k:Int} {v:List Int},aL kK m k=some v→(k,v)∈m|p::m,k,v,h=>by simp only[aL]at h;by_cases e:k=p.1;(·(have:kK k p.1=true:=by simp only[kK,e,decide_true]);rw[this,cond_true]at h;injection h with h;subst h;subst e;simp);·(have:kK k p.1=false:=by simp only[kK,e,decide_false]);rw[this,cond_false]at h;exact List.mem_cons_of_mem _ (Ia h)
theorem A4 {rs:List Rl} {x:Int×List Int} (h:x∈eH rs):x.2=ix x.1 rs 0:=by have hf:=H9 (DJ rs 0 [] (by simp)) h;rw[←A3];unfold lN;rw[show eH rs=qm rs 0 []from rfl,hf];rfl
theorem OP {rs:List Rl} {x:Int×List Int} {j:Int} (h:x∈eH rs)(hj:j∈x.2): ∃(i:Nat)(r:Rl),j=(i:Int)∧rs[i]?=some r∧r.1=x.1:=by
 rw[A4 h]at hj;obtain⟨i,r,h1,h2,h3⟩:=jz.1 hj;exact⟨i,r,by rw[h3,Nat.zero_add],h1,h2⟩
theorem Ut {rs:List Rl} {i:Nat} {r:Rl} (h:rs[i]?=some r): ∃(p:Nat)(x:Int×List Int),(eH rs)[p]?=some x∧x.1=r.1∧(i:Int)∈x.2:=by
 (have hm:(i:Int)∈lN (eH rs) r.1:=by rw[A3];exact jz.2 ⟨i,r,h,rfl,by rw[Nat.zero_add]⟩);unfold lN at hm;cases hf:aL kK (eH rs) r.1 with|none=>rw[hf]at hm;cases hm|some v=>rw[hf]at hm;obtain⟨p,hp⟩:=List.getElem?_of_mem (Ia hf);exact⟨p,_,hp,rfl,hm⟩
theorem OQ(rs:List Rl):(eH rs).length≤rs.length∧ ∀x,x∈eH rs→x.2.length≤rs.length:=by refine⟨by have:=wN rs 0 [];simpa[eH]using this,fun x hx=>?_⟩;rw[A4 hx];exact wQ _ _ _
end Go.Proofs.YtgpkijnphchkpaaGreat
