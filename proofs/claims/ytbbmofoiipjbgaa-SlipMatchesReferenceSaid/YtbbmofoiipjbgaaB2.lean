/- Contracts: the reference's price of a put. Nothing here is trusted; no condition. -/
import Derived.Test.YtbbmofoiipjbgaaB1
set_option linter.unusedSimpArgs false
set_option linter.unusedVariables false
open Nat renaming reduceBEq→zA,reduceAdd→zB,reduceSub→zC,reduceMul→zD,reduceLeDiff→zE
open Int renaming reduceLT→zF,reduceLE→zG,reduceToNat→zH,reduceNeg→zI
namespace Go.Proofs.Ytbbmofoiipjbgaa
attribute[local go_sem←]Bool.decide_and Bool.decide_or decide_not
set_option maxHeartbeats 4000000
set_option maxRecDepth 100000
structure kY(l:Sl)(m t:List UInt8)(i j:Nat)(r:List Int):Prop where
 len:r.length=t.length+1
 val: ∀k,k<j→r[k]?=some (D l m t i k)
theorem kY.set {l:Sl} {m t:List UInt8} {i j:Nat} {r:List Int} (h:kY l m t i j r)(hj:j≤t.length) {v:Int} (hv:v=D l m t i j):kY l m t i (j+1) (r.set j v):=by
 refine⟨by rw[List.length_set];exact h.len,fun k hk=>?_⟩;rw[List.getElem?_set];have:=h.len;by_cases e:j=k;(·subst e;rw[if_pos rfl,if_pos (by omega),hv]);·rw[if_neg e];exact h.val k (by omega)
abbrev Aq(t:List UInt8):List Int:=List.replicate ((t.length:Int)+1).toNat (0:Int)
theorem tj(l:Sl)(m t:List UInt8):kY l m t 0 1 (Aq t):=by
 (have e:((t.length:Int)+1).toNat=t.length+1:=by omega);refine⟨by rw[List.length_replicate,e],fun k hk=>?_⟩;(have:k=0:=by omega);subst this;rw[List.getElem?_replicate,if_pos (by omega),MS]
theorem MV {l:Sl} (h:AU [⟨aW,l⟩]):AU [⟨aW,l⟩]:=h
theorem xp(l:Sl)(t m:List UInt8)(hl:dX l)(ht:t.length≤1000000)(hm:m.length≤1000000):PC env 8 [⟨aW,l⟩,⟨.str,t⟩,⟨.str,m⟩] (.int .i64) (D l m t m.length t.length):=by
 refine PC.cv (m:=2000) aR FG rfl rfl rfl rfl (by kernel_rfl) ?_;intro hx;simp only[Try.f8];simp only[go_sem,zA,↓reduceIte,↓reduceDIte,zB,zC,zD,zE,zF,zG,zH,zI];refine⟨l,JW l,?_⟩
 refine fun _=>?_;dsimp only[Ty.den];refine⟨by omega,by omega,by omega,by omega,by omega,by omega,?_⟩;refine az.eB (X:=Nat×List Int) (fun x=>⟨[(10,.iv (.int .i64) ((x.1:Int)+1)),(9,.ref 9 0),(8,.iv (.int .i64) t.length),(7,.iv (.ea 26 (.ptr aW)) l),(3,.ref 3 0),(1,.iv .str t),(2,.iv .str m)],[(9,.box [.aE 25,.aE 28,.aE 31]),(31,.arr (.int .i64) (Aq t)),(28,.arr (.int .i64) x.2),(25,.arr (.int .i64) (Aq t)),(3,.box (gX l))]⟩) (fun x=>x.1≤t.length∧kY l m t 0 (x.1+1) x.2) (fun x=>t.length-x.1) ((0:Nat),Aq t) (by refine⟨?_,?_,rfl,rfl⟩<;>repeat' (first|exact trivial|exact Or.inl rfl|exact Or.inr rfl|apply hN|apply hZ|apply ia|apply ib|exact⟨(by show(_:Nat)<1000000000;omega),rfl,rfl⟩|rfl|(refine And.intro (Or.inl ?_) ?_)|(refine And.intro ?_ ?_))) ⟨Nat.zero_le _,tj l m t⟩ ?_
 intro⟨j,r⟩⟨hj,hr⟩back;refine bc aR ⟨_,FG,rfl⟩ 2000 _ _ (by kernel_rfl) ?_;simp only[go_sem,zA,↓reduceIte,↓reduceDIte,zB,zC,zD,zE,zF,zG,zH,zI];have K0:=hr.len;(have e1:((j:Int)+1-1).toNat=j:=by omega)
 (have e2:((j:Int)+1).toNat=j+1:=by omega);simp only[e1,e2];refine⟨fun h=>?_,fun h=>?_⟩;(·have hb:=ja hl m t 0 j (Nat.zero_le _) hj;have kW:=hl.2.2.2.2.1;have vy:=hl.2.2.2.2.2.1;dsimp only[Ty.den]at*;refine⟨by omega,by omega,_,hr.val j (by omega),by omega,by omega,by omega,?_⟩;refine back _ (j+1,r.set (j+1) (D l m t 0 j+l.2.2.1)) ?_ ⟨by omega,hr.set (by omega) (MT l m t j (by omega)).symm⟩ (by omega);exact(by refine⟨?_,?_,rfl,rfl⟩<;>repeat' (first|exact trivial|exact Or.inl rfl|exact Or.inr rfl|apply hN|apply hZ|apply ia|apply ib|exact⟨(by show(_:Nat)<1000000000;omega),rfl,rfl⟩|rfl|(refine And.intro (Or.inl ?_) ?_)|(refine And.intro ?_ ?_))))
 (have FR:j=t.length:=by omega);subst FR;clear back;refine az.eB (X:=Nat×List Int×List Int×List Int) (fun x=>⟨[(11,.iv (.int .i64) ((x.1:Int)+1)),(9,.ref 9 0),(8,.iv (.int .i64) t.length),(7,.iv (.ea 26 (.ptr aW)) l),(3,.ref 3 0),(1,.iv .str t),(2,.iv .str m)],[(9,.box [.aE 25,.aE 28,.aE 31]),(31,.arr (.int .i64) x.2.2.2),(28,.arr (.int .i64) x.2.2.1),(25,.arr (.int .i64) x.2.1),(3,.box (gX l))]⟩) (fun x=>x.1≤m.length∧x.2.1.length=t.length+1∧x.2.2.2.length=t.length+1∧kY l m t x.1 (t.length+1) x.2.2.1∧ ∀k,x.1=k+1→kY l m t k (t.length+1) x.2.1) (fun x=>m.length-x.1) ((0:Nat),Aq t,r,Aq t) (by refine⟨?_,?_,rfl,rfl⟩<;>repeat' (first|exact trivial|exact Or.inl rfl|exact Or.inr rfl|apply hN|apply hZ|apply ia|apply ib|exact⟨(by show(_:Nat)<1000000000;omega),rfl,rfl⟩|rfl|(refine And.intro (Or.inl ?_) ?_)|(refine And.intro ?_ ?_))) ⟨Nat.zero_le _,(tj l m t).len,(tj l m t).len,hr,fun k hk=>by cases hk⟩ ?_
 intro⟨i,S5,last,next⟩⟨hi,uj,NC,mg,MW⟩back;dsimp only at hi uj NC mg MW;refine bc aR ⟨_,FG,rfl⟩ 2000 _ _ (by kernel_rfl) ?_;simp only[go_sem,zA,↓reduceIte,↓reduceDIte,zB,zC,zD,zE,zF,zG,zH,zI]
 have LB:=mg.len;refine⟨fun h=>?_,fun h=>?_⟩;rotate_left;(·(have:i=m.length:=by omega);subst this;exact⟨by omega,_,mg.val _ (by omega),rfl⟩);have hb:=ja hl m t i 0 hi (Nat.zero_le _)
 have um:=hl.2.1;have V0:=hl.2.2.1;have V1:=hl.2.2.2.1;have V3:=hl.2.2.2.2.1;have V4:=hl.2.2.2.2.2.1;refine⟨by omega,_,mg.val 0 (by omega),by omega,by omega,?_⟩
 (have S6:kY l m t (i+1) 1 (next.set 0 (D l m t i 0+l.2.1)):=by have:kY l m t (i+1) 0 next:=⟨NC,fun k hk=>absurd hk (Nat.not_lt_zero _)⟩;exact this.set (Nat.zero_le _) (MU l m t i (by omega)).symm)
 refine az.eB (X:=Nat×List Int) (fun x=>⟨[(15,.iv (.int .i64) ((x.1:Int)+1)),(14,.aE 31),(13,.aE 28),(12,.aE 25),(11,.iv (.int .i64) ((i:Int)+1)),(9,.ref 9 0),(8,.iv (.int .i64) t.length),(7,.iv (.ea 26 (.ptr aW)) l),(3,.ref 3 0),(1,.iv .str t),(2,.iv .str m)],[(9,.box [.aE 25,.aE 28,.aE 31]),(31,.arr (.int .i64) x.2),(28,.arr (.int .i64) last),(25,.arr (.int .i64) S5),(3,.box (gX l))]⟩) (fun x=>x.1≤t.length∧kY l m t (i+1) (x.1+1) x.2) (fun x=>t.length-x.1) ((0:Nat),next.set 0 (D l m t i 0+l.2.1)) (by refine⟨?_,?_,rfl,rfl⟩<;>repeat' (first|exact trivial|exact Or.inl rfl|exact Or.inr rfl|apply hN|apply hZ|apply ia|apply ib|exact⟨(by show(_:Nat)<1000000000;omega),rfl,rfl⟩|rfl|(refine And.intro (Or.inl ?_) ?_)|(refine And.intro ?_ ?_))) ⟨Nat.zero_le _,S6⟩ ?_
 clear S6;intro⟨j,nx⟩⟨hj,DJ⟩r8;dsimp only at hj DJ;have Vk:=DJ.len;refine bc aR ⟨_,FG,rfl⟩ 2000 _ _ (by kernel_rfl) ?_;simp only[go_sem,zA,↓reduceIte,↓reduceDIte,zB,zC,zD,zE,zF,zG,zH,zI]
 (have e1:((i:Int)+1-1).toNat=i:=by omega);(have e2:((j:Int)+1-1).toNat=j:=by omega);(have e3:((i:Int)+1).toNat=i+1:=by omega);(have e4:((j:Int)+1).toNat=j+1:=by omega)
 (have e5:((i:Int)+1-2).toNat=i-1:=by omega);(have e6:((j:Int)+1-2).toNat=j-1:=by omega);simp only[e1,e2,e3,e4,e5,e6];refine⟨fun h2=>?_,fun h2=>?_⟩;(·obtain⟨x,fp⟩:=bf (xs:=m) (i:=i) (by omega);obtain⟨y,vV⟩:=bf (xs:=t) (i:=j) (by omega);have b1:=ja hl m t i (j+1) hi (by omega);have b2:=ja hl m t (i+1) j (by omega) hj;have b3:=ja hl m t i j hi hj;have b4:=nM hl x y;(have qK:(x.toNat:Int)=y.toNat↔x=y:=by rw[Int.ofNat_inj];exact⟨fun e=>UInt8.toNat_inj.mp e,fun e=>by rw[e]⟩);dsimp only[Ty.den]at*;refine⟨by omega,by omega,_,⟨x,fp,rfl⟩,by omega,by omega,_,⟨y,vV,rfl⟩,by omega,_,mg.val (j+1) (by omega),by omega,by omega,by omega,_,DJ.val j (by omega),by omega,by omega,by omega,_,mg.val j (by omega),iu l x y,JX _ _ l,fun _=>⟨by omega,?_⟩⟩;refine⟨fun c1=>⟨fun c2=>⟨fun c3=>?_,fun c3=>?_⟩,fun c2=>?_⟩,fun c1=>?_⟩;(·obtain⟨y1,Pm⟩:=bf (xs:=m) (i:=i-1) (by omega);obtain⟨x1,Pn⟩:=bf (xs:=t) (i:=j-1) (by omega);have cA:x≠y:=fun e=>c3 (qK.mpr e);refine⟨by omega,by omega,_,⟨y1,Pm,rfl⟩,fun c4=>⟨by omega,by omega,_,⟨x1,Pn,rfl⟩,fun c5=>?_,fun c5=>?_⟩,fun c4=>?_⟩;(·have e7:y1=y:=UInt8.toNat_inj.mp (by omega);have e8:x1=x:=UInt8.toNat_inj.mp (by omega);subst e7 e8;obtain⟨i,rfl⟩: ∃k,i=k+1:=⟨i-1,by omega⟩;obtain⟨j,rfl⟩: ∃k,j=k+1:=⟨j-1,by omega⟩;have b5:=ja hl m t i j (by omega) (by omega);refine⟨by omega,by omega,_,(MW i rfl).val j (by omega),by omega,?_⟩;refine⟨by omega,by omega,?_⟩;refine r8 _ (j+1+1,nx.set (j+1+1) (min (D3 l m t x1 y1 (i+1) (j+1)) (D l m t i j+l.1))) ?_ ⟨by omega,DJ.set (by omega) (Da fp vV cA Pm Pn).symm⟩ (by omega);exact(by refine⟨?_,?_,rfl,rfl⟩<;>repeat' (first|exact trivial|exact Or.inl rfl|exact Or.inr rfl|apply hN|apply hZ|apply ia|apply ib|exact⟨(by show(_:Nat)<1000000000;omega),rfl,rfl⟩|rfl|(refine And.intro (Or.inl ?_) ?_)|(refine And.intro ?_ ?_))));(·(have nV: ¬(x≠y∧1≤i∧1≤j∧m[i-1]?=some y∧t[j-1]?=some x):=fun hh=>by rw[Pn]at hh;injection hh.2.2.2.2 with hh;exact c5 (by rw[hh]));refine⟨by omega,by omega,?_⟩;refine r8 _ (j+1,nx.set (j+1) (D3 l m t x y i j)) ?_ ⟨by omega,DJ.set (by omega) (Ap fp vV nV).symm⟩ (by omega);exact(by refine⟨?_,?_,rfl,rfl⟩<;>repeat' (first|exact trivial|exact Or.inl rfl|exact Or.inr rfl|apply hN|apply hZ|apply ia|apply ib|exact⟨(by show(_:Nat)<1000000000;omega),rfl,rfl⟩|rfl|(refine And.intro (Or.inl ?_) ?_)|(refine And.intro ?_ ?_))));·(have nV: ¬(x≠y∧1≤i∧1≤j∧m[i-1]?=some y∧t[j-1]?=some x):=fun hh=>by rw[Pm]at hh;injection hh.2.2.2.1 with hh;exact c4 (by rw[hh]));refine⟨by omega,by omega,?_⟩;refine r8 _ (j+1,nx.set (j+1) (D3 l m t x y i j)) ?_ ⟨by omega,DJ.set (by omega) (Ap fp vV nV).symm⟩ (by omega);exact(by refine⟨?_,?_,rfl,rfl⟩<;>repeat' (first|exact trivial|exact Or.inl rfl|exact Or.inr rfl|apply hN|apply hZ|apply ia|apply ib|exact⟨(by show(_:Nat)<1000000000;omega),rfl,rfl⟩|rfl|(refine And.intro (Or.inl ?_) ?_)|(refine And.intro ?_ ?_))));(·have nV: ¬(x≠y∧1≤i∧1≤j∧m[i-1]?=some y∧t[j-1]?=some x):=fun hh=>hh.1 (qK.mp c3);refine⟨by omega,by omega,?_⟩;refine r8 _ (j+1,nx.set (j+1) (D3 l m t x y i j)) ?_ ⟨by omega,DJ.set (by omega) (Ap fp vV nV).symm⟩ (by omega);exact(by refine⟨?_,?_,rfl,rfl⟩<;>repeat' (first|exact trivial|exact Or.inl rfl|exact Or.inr rfl|apply hN|apply hZ|apply ia|apply ib|exact⟨(by show(_:Nat)<1000000000;omega),rfl,rfl⟩|rfl|(refine And.intro (Or.inl ?_) ?_)|(refine And.intro ?_ ?_))));(·(have nV: ¬(x≠y∧1≤i∧1≤j∧m[i-1]?=some y∧t[j-1]?=some x):=by omega);refine⟨by omega,by omega,?_⟩;refine r8 _ (j+1,nx.set (j+1) (D3 l m t x y i j)) ?_ ⟨by omega,DJ.set (by omega) (Ap fp vV nV).symm⟩ (by omega);exact(by refine⟨?_,?_,rfl,rfl⟩<;>repeat' (first|exact trivial|exact Or.inl rfl|exact Or.inr rfl|apply hN|apply hZ|apply ia|apply ib|exact⟨(by show(_:Nat)<1000000000;omega),rfl,rfl⟩|rfl|(refine And.intro (Or.inl ?_) ?_)|(refine And.intro ?_ ?_))));·(have nV: ¬(x≠y∧1≤i∧1≤j∧m[i-1]?=some y∧t[j-1]?=some x):=by omega);refine⟨by omega,by omega,?_⟩;refine r8 _ (j+1,nx.set (j+1) (D3 l m t x y i j)) ?_ ⟨by omega,DJ.set (by omega) (Ap fp vV nV).symm⟩ (by omega);exact(by refine⟨?_,?_,rfl,rfl⟩<;>repeat' (first|exact trivial|exact Or.inl rfl|exact Or.inr rfl|apply hN|apply hZ|apply ia|apply ib|exact⟨(by show(_:Nat)<1000000000;omega),rfl,rfl⟩|rfl|(refine And.intro (Or.inl ?_) ?_)|(refine And.intro ?_ ?_))))
 ·(have Vl:j=t.length:=by omega);subst Vl;refine⟨by omega,?_⟩;refine az.fO [(28,25),(31,28),(25,31)] rfl ?_;refine back _ (i+1,last,nx,S5) ?_ ⟨by omega,LB,uj,DJ,fun k hk=>?_⟩ (by omega);(·exact(by refine⟨?_,?_,rfl,rfl⟩<;>repeat' (first|exact trivial|exact Or.inl rfl|exact Or.inr rfl|apply hN|apply hZ|apply ia|apply ib|exact⟨(by show(_:Nat)<1000000000;omega),rfl,rfl⟩|rfl|(refine And.intro (Or.inl ?_) ?_)|(refine And.intro ?_ ?_))));·(have:k=i:=by omega);subst this;exact mg
end Go.Proofs.Ytbbmofoiipjbgaa
namespace Go.Proofs.Ytbbmofoiipjbgaa
set_option maxHeartbeats 4000000
section
variable {α:Type}
def jx(lt:α→α→Bool):List α→α→List α|[],x=>[x]|y::r,x=>if lt x y=true then y::jx lt r x else x::y::r
def qw(lt:α→α→Bool)(xs:List α):List α:=(xs.foldl (jx lt) []).reverse
theorem vz(lt:α→α→Bool)(x:α): ∀r:List α,(jx lt r x).length=r.length+1:=by intro r;induction r with|nil=>rfl|cons y r ih=>unfold jx;split<;>simp[ih]
theorem gZ(lt:α→α→Bool): ∀(xs r:List α),(xs.foldl (jx lt) r).length=r.length+xs.length:=by
 intro xs;induction xs with|nil=>intro r;rfl|cons x xs ih=>intro r;rw[List.foldl_cons,ih,vz,List.length_cons];omega
def r9(l:List α)(x:α)(r:List α):List α:=l.reverse++x::r
theorem xq(l:List α)(x:α)(r:List α):(r9 l x r).length=l.length+r.length+1:=by simp[r9];omega
theorem xr(l:List α)(x:α)(r:List α):(r9 l x r)[l.length]?=some x:=by unfold r9;rw[List.getElem?_append_right (by simp)];simp
theorem vA(l:List α)(x y:α)(r:List α):r9 (y::l) x r=r9 l y (x::r):=by simp[r9]
theorem qx(l:List α)(x y:α)(r:List α):(r9 (y::l) x r)[l.length]?=some y:=by rw[vA];exact xr l y _
theorem yO(l:List α)(x z:α)(r:List α):(r9 l x r).set l.length z=r9 l z r:=by unfold r9;rw[List.set_append_right _ _ (by simp)];simp
theorem Db(l:List α)(x y:α)(r:List α):((r9 (y::l) x r).set (l.length+1) y).set l.length x=r9 l x (y::r):=by
 have h:(r9 (y::l) x r).set (l.length+1) y=r9 (y::l) y r:=yO (y::l) x y r;rw[h,vA,yO]
end
end Go.Proofs.Ytbbmofoiipjbgaa
namespace Go.Proofs.Ytbbmofoiipjbgaa
attribute[local go_sem←]Bool.decide_and Bool.decide_or decide_not
set_option maxHeartbeats 4000000
set_option maxRecDepth 100000
abbrev Fd:=Int×Int
def J0(x y:Fd):Int:=if qu x.2 y.2≠0 then qu x.2 y.2 else qu x.1 y.1
def sa(x y:Fd):Bool:=decide (J0 x y<0)
theorem J1(x y:Fd):PC env 18 [⟨aZ,x⟩,⟨aZ,y⟩] (.int .i64) (J0 x y):=Af x y
theorem Ar(xs:List Fd):xs=((xs.take 1).foldl (jx sa) []).reverse++xs.drop 1:=by match xs with|[]=>rfl|x::xs=>rfl
theorem MX(xs:List Fd):HC env 30 [.aE 1000000000,.iv (.int .i64) (0:Int),.iv (.int .i64) (xs.length:Int),.iv (.ea 18 .unit) ()] [(1000000000,.arr aZ xs)] (.bC []) [(1000000000,.arr aZ (qw sa xs))]:=by
 refine HC.cv (m:=2000) aR vu rfl rfl rfl rfl (by kernel_rfl) ?_;intro hx uj;simp only[Try.f30];simp only[go_sem,zA,↓reduceIte,↓reduceDIte,zB,zC,zD,zE,zF,zG,zH,zI]
 (have hlen:(xs.length:Int)≤9223372036854775807:=by have:=hx.2.2.1;simp only[Bd,Ty.ok,max_i64]at this;exact this.2);refine⟨by omega,?_⟩;refine az.eB (X:=Nat) (fun k=>⟨[(8,.iv (.int .i64) (k:Int)),(0,.aE 1000000000),(1,.iv (.int .i64) (0:Int)),(2,.iv (.int .i64) (xs.length:Int)),(3,.fn 18 [])],[(1000000000,.arr aZ (((xs.take k).foldl (jx sa) []).reverse++xs.drop k))]⟩) (fun k=>1≤k∧(k≤xs.length∨k=1)) (fun k=>xs.length-k) 1 ?_ ⟨Nat.le_refl _,Or.inr rfl⟩ ?_
 (·refine⟨⟨Or.inl rfl,Or.inl rfl,Or.inl rfl,Or.inl rfl,Or.inl rfl,trivial⟩,⟨?_,trivial⟩,rfl,rfl⟩;exact congrArg (aJ.arr aZ) (Ar xs));intro k⟨hk,hH⟩back;refine bc aR ⟨_,vu,rfl⟩ 2000 _ _ (by kernel_rfl) ?_
 simp only[go_sem,zA,↓reduceIte,↓reduceDIte,zB,zC,zD,zE,zF,zG,zH,zI];have su:=gZ sa (xs.take k) [];refine⟨fun h=>?_,fun h=>?_⟩;rotate_left;(·(have:xs.length≤k:=by omega);rw[List.take_of_length_le this,List.drop_eq_nil_of_le this,List.append_nil];rfl)
 (have tA:k<xs.length:=by omega);(have Vm:(xs.take k).length=k:=by rw[List.length_take];omega);simp only[Vm,List.length_nil,Nat.zero_add]at su;obtain⟨x,S7⟩:=bf tA
 refine az.eB (X:=List Fd×List Fd) (fun z=>⟨[(9,.iv (.int .i64) (z.1.length:Int)),(8,.iv (.int .i64) (k:Int)),(0,.aE 1000000000),(1,.iv (.int .i64) (0:Int)),(2,.iv (.int .i64) (xs.length:Int)),(3,.fn 18 [])],[(1000000000,.arr aZ (r9 z.1 x (z.2++xs.drop (k+1))))]⟩) (fun z=>jx sa ((xs.take k).foldl (jx sa) []) x=z.2.reverse++jx sa z.1 x∧z.1.length+z.2.length=k) (fun z=>z.1.length) ((xs.take k).foldl (jx sa) [],[]) ?_ ⟨rfl,?_⟩ ?_
 (·refine⟨⟨Or.inl ?_,Or.inl rfl,Or.inl rfl,Or.inl rfl,Or.inl rfl,Or.inl rfl,trivial⟩,⟨?_,trivial⟩,rfl,rfl⟩;(·dsimp only;rw[su];rfl);·dsimp only;rw[drop_cons S7];rfl)
 (·exact su);intro⟨L,R⟩⟨Cm,Vn⟩mP;dsimp only at Cm Vn;refine bc aR ⟨_,vu,rfl⟩ 2000 _ _ (by kernel_rfl) ?_;simp only[go_sem,zA,↓reduceIte,↓reduceDIte,zB,zC,zD,zE,zF,zG,zH,zI]
 (have C9:jx sa L x=x::L→r9 L x (R++xs.drop (k+1))=((xs.take (k+1)).foldl (jx sa) []).reverse++xs.drop (k+1):=by intro e;rw[dj S7,List.foldl_append,List.foldl_cons,List.foldl_nil,Cm,e];simp[r9])
 have Ue:=xq L x (R++xs.drop (k+1));refine⟨fun c1=>?_,fun c1=>?_⟩;(·match L,c1 with|y::L,_=>(have e1:(((y::L).length:Int)-1).toNat=L.length:=by simp);simp only[e1];dsimp only[Ty.den]at*;rw[List.length_cons]at*;refine⟨by omega,_,xr (y::L) x _,by omega,by omega,_,qx L x y _,_,J1 x y,fun _=>⟨fun c2=>?_,fun c2=>?_⟩⟩;(·have Hf:((r9 (y::L) x (R++xs.drop (k+1))).set (L.length+1) y).length=(r9 (y::L) x (R++xs.drop (k+1))).length:=List.length_set;refine⟨by omega,by omega,by omega,_,qx L x y _,by omega,_,xr (y::L) x _,by omega,by rw[Hf];omega,by omega,?_⟩;refine mP _ (L,y::R) ?_ ⟨?_,?_⟩ (by show L.length<L.length+1;omega);(·refine⟨⟨Or.inl ?_,Or.inl rfl,Or.inl rfl,Or.inl rfl,Or.inl rfl,Or.inl rfl,trivial⟩,⟨?_,trivial⟩,rfl,rfl⟩;(·dsimp only;(have:((L.length+1:Nat):Int)-1=L.length:=by omega);rw[this];rfl);·exact congrArg (aJ.arr aZ) (Db L x y (R++xs.drop (k+1))));(·rw[Cm,jx,if_pos (show sa x y=true from decide_eq_true c2)];simp);·show L.length+(R.length+1)=k;omega);·(have ex:jx sa (y::L) x=x::y::L:=by rw[jx,if_neg (by simpa[sa]using c2)]);refine⟨by omega,?_⟩;refine back _ (k+1) ?_ ⟨by omega,by omega⟩ (by omega);refine⟨⟨Or.inl rfl,Or.inl rfl,Or.inl rfl,Or.inl rfl,Or.inl rfl,trivial⟩,⟨?_,trivial⟩,rfl,rfl⟩;exact congrArg (aJ.arr aZ) (C9 ex))
 ·have e0:L=[]:=List.length_eq_zero_iff.mp (by omega);subst e0;refine⟨by omega,?_⟩;refine back _ (k+1) ?_ ⟨by omega,by omega⟩ (by omega);refine⟨⟨Or.inl rfl,Or.inl rfl,Or.inl rfl,Or.inl rfl,Or.inl rfl,trivial⟩,⟨?_,trivial⟩,rfl,rfl⟩;exact congrArg (aJ.arr aZ) (C9 rfl)
theorem Po:HC env 30 [.bM,.iv (.int .i64) (0:Int),.iv (.int .i64) (0:Int),.iv (.ea 18 .unit) ()] [] (.bC []) []:=by
 refine HC.cv (m:=2000) aR vu rfl rfl rfl rfl (by kernel_rfl) ?_;intro hx uj;simp only[Try.f30];simp only[go_sem,zA,↓reduceIte,↓reduceDIte,zB,zC,zD,zE,zF,zG,zH,zI]
 refine⟨by omega,?_⟩;refine az.eB (X:=Unit) (fun _=>⟨[(8,.iv (.int .i64) (1:Int)),(2,.iv (.int .i64) (0:Int))],[]⟩) (fun _=>True) (fun _=>0) () ⟨⟨Or.inl rfl,Or.inl rfl,trivial⟩,trivial,rfl,rfl⟩ trivial ?_
 intro _ _ back;refine bc aR ⟨_,vu,rfl⟩ 2000 _ _ (by kernel_rfl) ?_;simp only[go_sem,zA,↓reduceIte,↓reduceDIte,zB,zC,zD,zE,zF,zG,zH,zI]
def tb:List UInt8:=(List.range 256).map fun i=>UInt8.ofNat (if i=0 then 0 else Nat.log2 i+1)
theorem J2:tb.length=256:=by unfold tb;simp
def MY(n:Int):Int:=0+((tb.getD n.toNat 0).toNat:Int)
theorem FI(n:Int)(h0:0≤n)(h:n≤255):PC env 39 [⟨.int .u64,n⟩] (.int .i64) (MY n):=by
 have hw:IntKind.u8.wrap n=n:=eW _ ⟨h0,h⟩;(have key: ∀(l:List UInt8),l=tb→l[n.toNat]?=some (tb.getD n.toNat 0):=by intro l hl;subst hl;have:=J2;rw[List.getD_eq_getElem?_getD,List.getElem?_eq_getElem (by omega)];rfl)
 refine PC.cv (m:=2000) aR MQ rfl rfl rfl rfl (by kernel_rfl) ?_;intro hx;simp only[Try.f39];simp only[go_sem,zA,↓reduceIte,↓reduceDIte,zB,zC,zD,zE,zF,zG,zH,zI]
 rw[hw];dsimp only[Ty.den]at*;refine⟨fun g=>absurd g (by omega),fun _=>⟨fun g=>absurd g (by omega),fun _=>⟨fun g=>absurd g (by omega),fun _=>⟨_,⟨_,key _ (by kernel_rfl),rfl⟩,?_,rfl⟩⟩⟩⟩
 have hb:=UInt8.toNat_lt (tb.getD n.toNat 0);omega
theorem MZ(n:Int)(h0:0≤n)(h:n≤255):PC env 28 [⟨.int .u64,n⟩] (.int .i64) (MY n):=by
 refine PC.cv (m:=2000) aR MO rfl rfl rfl rfl (by kernel_rfl) ?_;intro hx;simp only[Try.f28];simp only[go_sem,zA,↓reduceIte,↓reduceDIte,zB,zC,zD,zE,zF,zG,zH,zI]
 exact⟨_,FI n h0 h,fun _=>rfl⟩
end Go.Proofs.Ytbbmofoiipjbgaa
namespace Go.Proofs.Ytbbmofoiipjbgaa
attribute[local go_sem←]Bool.decide_and Bool.decide_or decide_not
set_option maxHeartbeats 4000000
set_option maxRecDepth 100000
theorem M0(xs:List Fd)(b:Int)(hn:xs.length≤12):HC env 27 [.aE 1000000000,.iv (.int .i64) (0:Int),.iv (.int .i64) (xs.length:Int),.iv (.int .i64) b,.iv (.ea 18 .unit) ()] [(1000000000,.arr aZ xs)] (.bC []) [(1000000000,.arr aZ (qw sa xs))]:=by
 refine HC.cv (m:=2000) aR Gt rfl rfl rfl rfl (by kernel_rfl) ?_;intro hx uj;simp only[Try.f27];simp only[go_sem,zA,↓reduceIte,↓reduceDIte,zB,zC,zD,zE,zF,zG,zH,zI]
 refine az.eB (X:=Unit) (fun _=>⟨[(0,.aE 1000000000),(1,.iv (.int .i64) (0:Int)),(2,.iv (.int .i64) (xs.length:Int)),(4,.fn 18 [])],[(1000000000,.arr aZ xs)]⟩) (fun _=>True) (fun _=>0) () (by refine⟨?_,?_,rfl,rfl⟩<;>repeat' (first|exact trivial|exact Or.inl rfl|exact Or.inr rfl|apply hN|apply hZ|apply ia|apply ib|exact⟨(by show(_:Nat)<1000000000;omega),rfl,rfl⟩|rfl|(refine And.intro (Or.inl ?_) ?_)|(refine And.intro ?_ ?_))) trivial ?_
 intro _ _ back;refine bc aR ⟨_,Gt,rfl⟩ 2000 _ _ (by kernel_rfl) ?_;simp only[go_sem,zA,↓reduceIte,↓reduceDIte,zB,zC,zD,zE,zF,zG,zH,zI];refine⟨by omega,fun _=>⟨_,_,MX xs,?_⟩,fun g=>absurd g (by omega)⟩
 simp only[go_sem,zA,↓reduceIte,↓reduceDIte,zB,zC,zD,zE,zF,zG,zH,zI];exact fun _=>trivial
theorem J3(xs:List Fd)(hn:xs.length≤12):HC env 17 [.aE 1000000000,.iv (.ea 18 .unit) ()] [(1000000000,.arr aZ xs)] (.bC []) [(1000000000,.arr aZ (qw sa xs))]:=by
 refine HC.cv (m:=2000) aR MG rfl rfl rfl rfl (by kernel_rfl) ?_;intro hx uj;simp only[Try.f17];simp only[go_sem,zA,↓reduceIte,↓reduceDIte,zB,zC,zD,zE,zF,zG,zH,zI]
 have hw:IntKind.u64.wrap (xs.length:Int)=(xs.length:Int):=eW _ ⟨by simp only[yJ];omega,by simp only[yK];omega⟩;rw[hw];refine⟨_,MZ _ (by omega) (by omega),fun _=>⟨_,_,M0 xs _ hn,?_⟩⟩
 simp only[go_sem,zA,↓reduceIte,↓reduceDIte,zB,zC,zD,zE,zF,zG,zH,zI];exact fun _=>trivial
def bU(l:Sl)(t m:List UInt8):Int:=ct l m.reverse t.reverse
theorem kg(l:Sl)(t m:List UInt8)(hl:dX l)(ht:t.length≤1000000)(hm:m.length≤1000000):PC env 8 [⟨aW,l⟩,⟨.str,t⟩,⟨.str,m⟩] (.int .i64) (bU l t m):=by
 have h:=xp l t m hl ht hm;unfold D at h;rw[List.take_length,List.take_length]at h;exact h
def fy(l:Sl)(t:List UInt8)(ws:List (List UInt8))(bg:Int)(k:Nat):Option Fd:=match ws[k]? with|some w=>if bU l t w≤bg then some ((k:Int),bU l t w)else none|none=>none
def ki(l:Sl)(t:List UInt8)(ws:List (List UInt8))(bg:Int)(i:Nat):List Fd:=(List.range i).filterMap (fy l t ws bg)
theorem jb(l:Sl)(t:List UInt8)(ws:List (List UInt8))(bg:Int)(i:Nat):ki l t ws bg (i+1)=ki l t ws bg i++(fy l t ws bg i).toList:=by
 unfold ki;rw[List.range_succ,List.filterMap_append];congr 1
theorem jc(l:Sl)(t:List UInt8)(ws:List (List UInt8))(bg:Int)(i:Nat):(ki l t ws bg i).length≤i:=by
 unfold ki;refine Nat.le_trans (List.length_filterMap_le ..) ?_;rw[List.length_range];exact Nat.le_refl _
def sc(l:Sl)(t:List UInt8)(ws:List (List UInt8))(bg:Int):List Fd:=qw sa (ki l t ws bg ws.length)
theorem nN(l:Sl)(t:List UInt8)(ws:List (List UInt8))(bg:Int)(hl:dX l)(ht:t.length≤1000000)(hw: ∀w,w∈ws→w.length≤1000000)(hn:ws.length≤12):PC env 11 [⟨aW,l⟩,⟨.str,t⟩,⟨.sl .str,ws⟩,⟨.int .i64,bg⟩] (.sl aZ) (sc l t ws bg):=by
 refine PC.cv (m:=2000) aR Gp rfl rfl rfl rfl (by kernel_rfl) ?_;intro hx;simp only[Try.f11];simp only[go_sem,zA,↓reduceIte,↓reduceDIte,zB,zC,zD,zE,zF,zG,zH,zI]
 refine az.eB (X:=Nat) (fun i=>⟨[(15,.iv (.int .i64) (i:Int)),(14,.iv (.int .i64) (ws.length:Int)),(13,.iv (.sl .str) ws),(9,.aE 1000),(1,.iv .str t),(3,.iv (.int .i64) bg),(4,.ref 4 0)],[(4,.box (gX l)),(1000,.arr aZ (ki l t ws bg i))]⟩) (fun i=>i≤ws.length) (fun i=>ws.length-i) 0 ?_ (Nat.zero_le _) ?_
 (·exact(by refine⟨?_,?_,rfl,rfl⟩<;>repeat' (first|exact trivial|exact Or.inl rfl|exact Or.inr rfl|apply hN|apply hZ|apply ia|apply ib|exact⟨(by show(_:Nat)<1000000000;omega),rfl,rfl⟩|rfl|(refine And.intro (Or.inl ?_) ?_)|(refine And.intro ?_ ?_))))
 intro i hi back;refine bc aR ⟨_,Gp,rfl⟩ 2000 _ _ (by kernel_rfl) ?_;simp only[go_sem,zA,↓reduceIte,↓reduceDIte,zB,zC,zD,zE,zF,zG,zH,zI];refine⟨fun h=>?_,fun h=>?_⟩
 (·obtain⟨w,ND⟩:=bf (xs:=ws) (i:=i) (by omega);have NC:=jc l t ws bg i;refine⟨by omega,w,ND,_,kg l t w hl ht (hw w (List.mem_of_getElem? ND)),fun _=>⟨fun c=>⟨by omega,by omega,?_⟩,fun c=>⟨by omega,?_⟩⟩⟩;(·(have e:fy l t ws bg i=some ((i:Int),bU l t w):=by unfold fy;rw[ND];exact if_pos c);refine back _ (i+1) ?_ (by omega) (by omega);rw[jb,e];exact(by refine⟨?_,?_,rfl,rfl⟩<;>repeat' (first|exact trivial|exact Or.inl rfl|exact Or.inr rfl|apply hN|apply hZ|apply ia|apply ib|exact⟨(by show(_:Nat)<1000000000;omega),rfl,rfl⟩|rfl|(refine And.intro (Or.inl ?_) ?_)|(refine And.intro ?_ ?_))));·(have e:fy l t ws bg i=none:=by unfold fy;rw[ND];exact if_neg c);refine back _ (i+1) ?_ (by omega) (by omega);rw[jb,e,Option.toList,List.append_nil];exact(by refine⟨?_,?_,rfl,rfl⟩<;>repeat' (first|exact trivial|exact Or.inl rfl|exact Or.inr rfl|apply hN|apply hZ|apply ia|apply ib|exact⟨(by show(_:Nat)<1000000000;omega),rfl,rfl⟩|rfl|(refine And.intro (Or.inl ?_) ?_)|(refine And.intro ?_ ?_))))
 ·(have BI:i=ws.length:=by omega);subst BI;refine⟨_,_,J3 _ (Nat.le_trans (jc l t ws bg ws.length) hn),?_⟩;simp only[go_sem,zA,↓reduceIte,↓reduceDIte,zB,zC,zD,zE,zF,zG,zH,zI];exact fun _=>rfl
end Go.Proofs.Ytbbmofoiipjbgaa
namespace Go.Proofs.Ytbbmofoiipjbgaa
attribute[local go_sem←]Bool.decide_and Bool.decide_or decide_not
set_option maxHeartbeats 4000000
set_option maxRecDepth 100000
def g0(l:Sl):Nat→List UInt8→List UInt8→Int|0,_,_=>0|_+1,[],[]=>0|n+1,[],_::b=>g0 l n [] b+l.2.2.1|n+1,_::a,[]=>g0 l n a []+l.2.1|n+1,x::a,y::b=>if x≠y∧a.head?=some y∧b.head?=some x then min (min (min (g0 l n a (y::b)+l.2.1) (g0 l n (x::a) b+l.2.2.1)) (g0 l n a b+iu l x y)) (g0 l n a.tail b.tail+l.1)else min (min (g0 l n a (y::b)+l.2.1) (g0 l n (x::a) b+l.2.2.1)) (g0 l n a b+iu l x y)
theorem Dc(l:Sl): ∀(n:Nat)(a b:List UInt8),a.length+b.length≤n→g0 l n a b=ct l a b:=by
 intro n;induction n with|zero=>intro a b h;(match a,b with|[],[]=>rw[gY];rfl|_::_,_=>simp only[List.length_cons]at h;omega|[],_::_=>simp only[List.length_cons]at h;omega)|succ n ih=>intro a b h;match a,b with|[],[]=>rw[gY];rfl|[],y::b=>simp only[List.length_cons,List.length_nil]at h;rw[mQ,g0,ih [] b (by simp only[List.length_nil];omega)]|x::a,[]=>simp only[List.length_cons,List.length_nil]at h;rw[mR,g0,ih a [] (by simp only[List.length_nil];omega)]|x::a,y::b=>simp only[List.length_cons]at h;rw[g0,ih a (y::b) (by simp only[List.length_cons];omega),ih (x::a) b (by simp only[List.length_cons];omega),ih a b (by omega),ih a.tail b.tail (by rw[List.length_tail,List.length_tail];omega)];by_cases hc:x≠y∧a.head?=some y∧b.head?=some x;(·rw[if_pos hc];match a,b,hc with|y'::a,x'::b,⟨qK,e1,e2⟩=>injection e1 with e1;injection e2 with e2;subst e1 e2;rw[fU l _ _ a b qK,ek];rfl);·rw[if_neg hc,mS l x y a b hc,ek]
theorem ff(l:Sl)(t m:List UInt8):bU l t m=g0 l (m.length+t.length) m.reverse t.reverse:=by rw[Dc _ _ _ _ (by simp)];rfl
abbrev vB:Sl:=(1,2,2,3,[(97,101,1)])
theorem n8:dX vB:=by refine⟨by decide,by decide,by decide,by decide,by decide,by decide,by decide,by decide,?_⟩;intro x hx;(have:x=(97,101,1):=by simpa using hx);subst this;decide
theorem v1:bU vB [98,97] [97,98]=1:=by rw[ff];decide
theorem v2:bU vB [101,98] [97,98]=1:=by rw[ff];decide
theorem v3:bU vB [99,98] [97,98]=3:=by rw[ff];decide
theorem v4:bU vB [97] [97,98]=2:=by rw[ff];decide
theorem v5:bU vB [97,98,99] [97,98]=2:=by rw[ff];decide
theorem v6:bU vB [] []=0:=by rw[ff];decide
theorem v7:sc vB [97,98] [[97,98,99],[97,98],[98,97],[122,122]] 2=[(1,0),(2,1),(0,2)]:=by unfold sc ki fy;simp only[ff];decide
theorem v8:sc vB [97] [[97]] (-1)=[]:=by unfold sc ki fy;simp only[ff];decide
theorem Dd:PC env 4 [] .bool true:=by
 refine PC.cv (m:=2000) aR Pf rfl rfl rfl rfl (by kernel_rfl) ?_;intro hx;simp only[Try.f4];simp only[go_sem,zA,↓reduceIte,↓reduceDIte,zB,zC,zD,zE,zF,zG,zH,zI];(have hb: ∀l:List UInt8,l.length≤10→l.length≤1000000:=fun l h=>by omega)
 refine⟨_,nN vB [97,98] [[97,98,99],[97,98],[98,97],[122,122]] 2 n8 (by decide) (by decide) (by decide),fun _=>?_⟩;rw[v7];refine⟨_,kg vB [98,97] [97,98] n8 (by decide) (by decide),fun _=>?_⟩
 rw[v1];refine⟨fun _=>?_,fun h=>absurd rfl h⟩;refine⟨_,kg vB [101,98] [97,98] n8 (by decide) (by decide),fun _=>?_⟩;rw[v2];refine⟨fun _=>?_,fun h=>absurd rfl h⟩
 refine⟨_,kg vB [99,98] [97,98] n8 (by decide) (by decide),fun _=>?_⟩;rw[v3];refine⟨fun _=>?_,fun h=>absurd rfl h⟩;refine⟨_,kg vB [97] [97,98] n8 (by decide) (by decide),fun _=>?_⟩
 rw[v4];refine⟨fun _=>?_,fun h=>absurd rfl h⟩;refine⟨_,kg vB [97,98,99] [97,98] n8 (by decide) (by decide),fun _=>?_⟩;rw[v5];refine⟨fun _=>?_,fun h=>absurd rfl h⟩
 refine⟨_,kg vB [] [] n8 (by decide) (by decide),fun _=>?_⟩;rw[v6];refine⟨fun _=>?_,fun h=>absurd rfl h⟩;refine⟨_,C4 [(1,0),(2,1),(0,2)] [(1,0),(2,1),(0,2)],?_⟩
 rw[show decide (([(1,0),(2,1),(0,2)]:List (Int×Int))=[(1,0),(2,1),(0,2)])=true from by decide];simp only[go_sem,zA,↓reduceIte,↓reduceDIte,zB,zC,zD,zE,zF,zG,zH,zI]
 refine⟨_,th _,?_⟩;rw[show decide (eU (1,2,2,3,[(97,101,1)]))=true from by decide];simp only[go_sem,zA,↓reduceIte,↓reduceDIte,zB,zC,zD,zE,zF,zG,zH,zI];refine⟨_,th _,?_⟩
 rw[show decide (eU (1,2,2,3,[(97,101,1),(101,97,2)]))=false from by decide];simp only[go_sem,zA,↓reduceIte,↓reduceDIte,zB,zC,zD,zE,zF,zG,zH,zI];refine⟨_,th _,?_⟩
 rw[show decide (eU (0,0,0,0,[]))=false from by decide];simp only[go_sem,zA,↓reduceIte,↓reduceDIte,zB,zC,zD,zE,zF,zG,zH,zI];refine⟨_,nN vB [97] [[97]] (-1) n8 (by decide) (by decide) (by decide),fun _=>?_⟩
 rw[v8];rfl
end Go.Proofs.Ytbbmofoiipjbgaa
namespace Go.Proofs.Ytbbmofoiipjbgaa
set_option maxHeartbeats 4000000
inductive aV(l:Sl):List UInt8→List UInt8→Int→Prop|nil:aV l [] [] 0|drop {a b:List UInt8} {c:Int} (x:UInt8):aV l a b c→aV l (x::a) b (c+l.2.1)|add {a b:List UInt8} {c:Int} (y:UInt8):aV l a b c→aV l a (y::b) (c+l.2.2.1)|put {a b:List UInt8} {c:Int} (x y:UInt8):aV l a b c→aV l (x::a) (y::b) (c+iu l x y)|swap {a b:List UInt8} {c:Int} (x y:UInt8):x≠y→aV l a b c→aV l (x::y::a) (y::x::b) (c+l.1)
theorem lD(l:Sl)(x y:UInt8)(a b:List UInt8):ct l (x::a) (y::b)≤ek l x y a b:=by
 by_cases hc:x≠y∧a.head?=some y∧b.head?=some x;(·match a,b,hc with|y'::a,x'::b,⟨qK,e1,e2⟩=>injection e1 with e1;injection e2 with e2;subst e1 e2;rw[fU l _ _ a b qK];omega)
 ·rw[mS l x y a b hc];exact Int.le_refl _
theorem oN {l:Sl} {a b:List UInt8} {c:Int} (h:aV l a b c):ct l a b≤c:=by
 induction h with|nil=>rw[gY];exact Int.le_refl _| @drop a b c x h ih=>(match b with|[]=>rw[mR];omega|y::b=>have:=lD l x y a b;unfold ek at this;omega)| @add a b c y h ih=>(match a with|[]=>rw[mQ];omega|x::a=>have:=lD l x y a b;unfold ek at this;omega)| @put a b c x y h ih=>have:=lD l x y a b;unfold ek at this;omega| @swap a b c x y qK h ih=>rw[fU l _ _ a b qK];omega
theorem aV.cast {l:Sl} {a b:List UInt8} {c d:Int} (h:aV l a b c)(e:c=d):aV l a b d:=e▸h
theorem At(l:Sl): ∀(n:Nat)(a b:List UInt8),a.length+b.length≤n→aV l a b (ct l a b):=by
 intro n;induction n with|zero=>intro a b h;(match a,b with|[],[]=>rw[gY];exact .nil|_::_,_=>simp only[List.length_cons]at h;omega|[],_::_=>simp only[List.length_cons]at h;omega)|succ n ih=>intro a b h;match a,b with|[],[]=>rw[gY];exact .nil|[],y::b=>simp only[List.length_cons,List.length_nil]at h;rw[mQ];exact .add y (ih [] b (by simp only[List.length_nil];omega))|x::a,[]=>simp only[List.length_cons,List.length_nil]at h;rw[mR];exact .drop x (ih a [] (by simp only[List.length_nil];omega))|x::a,y::b=>simp only[List.length_cons]at h;have h1:=aV.drop x (ih a (y::b) (by simp only[List.length_cons];omega));have h2:=aV.add y (ih (x::a) b (by simp only[List.length_cons];omega));have h3:=aV.put x y (ih a b (by omega));(have h0:aV l (x::a) (y::b) (ek l x y a b):=by unfold ek;rcases Int.le_total (min (ct l a (y::b)+l.2.1) (ct l (x::a) b+l.2.2.1)) (ct l a b+iu l x y)with g|g;(·rw[Int.min_eq_left g];rcases Int.le_total (ct l a (y::b)+l.2.1) (ct l (x::a) b+l.2.2.1)with g|g;(·rw[Int.min_eq_left g];exact h1);·rw[Int.min_eq_right g];exact h2);·rw[Int.min_eq_right g];exact h3);by_cases hc:x≠y∧a.head?=some y∧b.head?=some x;(·match a,b,hc with|y'::a,x'::b,⟨qK,e1,e2⟩=>injection e1 with e1;injection e2 with e2;subst e1 e2;rw[fU l _ _ a b qK];rcases Int.le_total (ek l x' y' (y'::a) (x'::b)) (ct l a b+l.1)with g|g;(·rw[Int.min_eq_left g];exact h0);·rw[Int.min_eq_right g];exact .swap _ _ qK (ih a b (by simp only[List.length_cons]at h;omega)));·rw[mS l x y a b hc];exact h0
theorem tn(l:Sl)(a b:List UInt8):aV l a b (ct l a b):=At l _ a b (Nat.le_refl _)
theorem M1 {l:Sl} {a b:List UInt8} {n:Int} (h: ∀c,aV l a b c→n≤c):n≤ct l a b:=h _ (tn l a b)
theorem aV.append {l:Sl} {a b a' b':List UInt8} {c c':Int} (h:aV l a b c)(h':aV l a' b' c'):aV l (a++a') (b++b') (c+c'):=by
 induction h with|nil=>exact h'.cast (by omega)|drop x _ ih=>exact(aV.drop x ih).cast (by omega)|add y _ ih=>exact(aV.add y ih).cast (by omega)|put x y _ ih=>exact(aV.put x y ih).cast (by omega)|swap x y qK _ ih=>exact(aV.swap x y qK ih).cast (by omega)
theorem aV.rev {l:Sl} {a b:List UInt8} {c:Int} (h:aV l a b c):aV l a.reverse b.reverse c:=by
 induction h with|nil=>exact .nil|drop x _ ih=>have:=ih.append (.drop x .nil);rw[List.append_nil]at this;rw[List.reverse_cons];exact this.cast (by omega)|add y _ ih=>have:=ih.append (.add y .nil);rw[List.append_nil]at this;rw[List.reverse_cons];exact this.cast (by omega)|put x y _ ih=>rw[List.reverse_cons,List.reverse_cons];exact(ih.append (.put x y .nil)).cast (by omega)|swap x y qK _ ih=>rw[List.reverse_cons,List.reverse_cons,List.reverse_cons,List.reverse_cons,List.append_assoc,List.append_assoc];exact(ih.append (.swap y x (fun e=>qK e.symm) .nil)).cast (by omega)
theorem De(l:Sl)(a b:List UInt8):ct l a.reverse b.reverse=ct l a b:=by
 refine Int.le_antisymm (oN (tn l a b).rev) ?_;have:=oN (tn l a.reverse b.reverse).rev;rwa[List.reverse_reverse,List.reverse_reverse]at this
theorem qy(l:Sl)(t m:List UInt8):bU l t m=ct l m t:=De l m t
theorem sd(l:Sl)(x:UInt8):iu l x x=0:=by unfold iu;rw[ti,if_pos rfl]
theorem aV.same(l:Sl)(a:List UInt8):aV l a a 0:=by induction a with|nil=>exact .nil|cons x a ih=>exact(aV.put x x ih).cast (by rw[sd];rfl)
theorem aV.FJ(l:Sl)(a:List UInt8):aV l a [] (a.length*l.2.1):=by
 induction a with|nil=>exact aV.nil.cast (by simp)|cons x a ih=>exact(aV.drop x ih).cast (by rw[List.length_cons,Int.natCast_add,Int.add_mul];simp)
theorem aV.J4(l:Sl)(b:List UInt8):aV l [] b (b.length*l.2.2.1):=by
 induction b with|nil=>exact aV.nil.cast (by simp)|cons x a ih=>exact(aV.add x ih).cast (by rw[List.length_cons,Int.natCast_add,Int.add_mul];simp)
def Au(l:Sl):Prop:=1≤l.1∧1≤l.2.1∧1≤l.2.2.1∧1≤l.2.2.2.1∧ ∀x,x∈l.2.2.2.2→1≤x.2.2
theorem Df(al:List Al)(q:Al→Bool): ∀(c:Int),1≤c→(∀x,x∈al→1≤x.2.2)→1≤al.foldl (fun c x=>if q x then min c x.2.2 else c) c:=by
 induction al with|nil=>intro c h1 _;exact h1|cons e al ih=>intro c h1 h;rw[List.foldl_cons];have he:=h e (List.mem_cons_self ..);refine ih _ ?_ (fun x hx=>h x (List.mem_cons_of_mem _ hx));split<;>omega
theorem Dg {l:Sl} (h:Au l) {x y:UInt8} (qK:x≠y):1≤iu l x y:=by unfold iu;rw[ti,if_neg];(·exact Df _ _ _ h.2.2.2.1 h.2.2.2.2);·intro e;exact qK (UInt8.toNat_inj.mp (by omega))
theorem aV.zero {l:Sl} (hd:Au l) {a b:List UInt8} {c:Int} (h:aV l a b c):0≤c∧(c=0→a=b):=by
 obtain⟨h1,h2,h3,h4,h5⟩:=id hd;induction h with|nil=>exact⟨Int.le_refl _,fun _=>rfl⟩|drop x _ ih=>exact⟨by omega,fun e=>by omega⟩|add y _ ih=>exact⟨by omega,fun e=>by omega⟩|put x y _ ih=>by_cases e:x=y;(·subst e;rw[sd];exact⟨by omega,fun e=>by rw[ih.2 (by omega)]⟩);(·have:=Dg hd e;exact⟨by omega,fun e=>by omega⟩)|swap x y _ _ ih=>exact⟨by omega,fun e=>by omega⟩
theorem xu {l:Sl} (hd:Au l)(t m:List UInt8):0≤bU l t m∧(bU l t m=0↔t=m):=by
 rw[qy];have h:=aV.zero hd (tn l m t);refine⟨h.1,fun e=>(h.2 e).symm,fun e=>?_⟩;subst e;have:=oN (aV.same l t);omega
theorem J5(l:Sl)(hd:Au l)(t:List UInt8):bU l t t=0:=(xu hd t t).2.mpr rfl
theorem xw(l:Sl)(t m:List UInt8):bU l t m≤m.length*l.2.1+t.length*l.2.2.1:=by rw[qy];have:=oN ((aV.FJ l m).append (aV.J4 l t));rwa[List.append_nil,List.nil_append]at this
end Go.Proofs.Ytbbmofoiipjbgaa
namespace Go.Proofs.Ytbbmofoiipjbgaa
set_option maxHeartbeats 4000000
theorem tp(l:List (Int×Int×Int)): ∀(acc:List Al),(∀y,y∈acc→ ∃e,y=Aj e)→ ∀y,y∈l.foldl jn acc→ ∃e,y=Aj e:=by
 induction l with|nil=>intro acc h;exact h|cons e l ih=>intro acc h;rw[List.foldl_cons];refine ih _ ?_;unfold jn;split;(·intro y hy;rcases List.mem_append.mp hy with hy|hy;(·exact h y hy);·rw[List.mem_singleton]at hy;exact⟨e,hy⟩);·exact h
theorem vC {l:List (Int×Int×Int)} {y:Al} (h:y∈iZ l): ∃e,y=Aj e:=tp _ [] (fun y hy=>by cases hy) y h
theorem Gw(l:List (Int×Int×Int)):(iZ l).length≤5:=by have:=qv (l.take 5) [];unfold iZ;rw[List.length_take]at this;simp only[List.length_nil]at this;omega
def Av(l:Sl):Prop:=(1≤l.1∧l.1≤8)∧(1≤l.2.1∧l.2.1≤8)∧(1≤l.2.2.1∧l.2.2.1≤8)∧(1≤l.2.2.2.1∧l.2.2.2.1≤8)∧ ∀x,x∈l.2.2.2.2→1≤x.2.2∧x.2.2≤8
theorem Aw(x:Ai):Av (n7 x):=by
 unfold Av n7;(refine⟨⟨?_,?_⟩,⟨?_,?_⟩,⟨?_,?_⟩,⟨?_,?_⟩,fun y hy=>?_⟩<;>try(dsimp only;omega));obtain⟨e,rfl⟩:=vC hy;unfold Aj;dsimp only;omega
theorem Av.dX {l:Sl} (h:Av l):dX l:=by
 obtain⟨⟨a,b⟩,⟨c,d⟩,⟨e,f⟩,⟨g,i⟩,j⟩:=h;exact⟨by omega,by omega,by omega,by omega,by omega,by omega,by omega,by omega,fun x hx=>by have:=j x hx;omega⟩
theorem Av.Au {l:Sl} (h:Av l):Au l:=⟨h.1.1,h.2.1.1,h.2.2.1.1,h.2.2.2.1.1,fun x hx=>(h.2.2.2.2 x hx).1⟩
theorem nO(l:List Int)(n:Nat):(vw l n).length≤n:=by unfold vw;simp;omega
end Go.Proofs.Ytbbmofoiipjbgaa
namespace Go.Proofs.Ytbbmofoiipjbgaa
def gG:List Fd→Fd→List Fd|[],x=>[x]|y::O,x=>if y.2≤x.2 then y::gG O x else x::y::O
def yP:List Fd→Int→Nat|[],_=>0|y::O,n=>if y.2≤n then yP O n+1 else 0
theorem Dh: ∀(O:List Fd)(n:Int),yP O n≤O.length|[],_=>Nat.le_refl _|y::O,n=>by unfold yP;split;(·have:=Dh O n;rw[List.length_cons];omega);·exact Nat.zero_le _
theorem tr: ∀(O:List Fd)(x:Fd),O.take (yP O x.2)++ [x]++O.drop (yP O x.2)=gG O x|[],_=>rfl|y::O,x=>by unfold yP gG;split;(·rw[List.take_succ_cons,List.drop_succ_cons,List.cons_append,List.cons_append,tr O x]);·rfl
theorem Di {n:Int} : ∀ {O:List Fd} {k:Nat} {y:Fd},k≤yP O n→O[k]?=some y→(y.2≤n→k<yP O n)∧(¬y.2≤n→k=yP O n)|[],k,y,_,h=>(by simp at h)|z::O,k,y,hk,h=>by unfold yP at hk⊢;by_cases hz:z.2≤n;(·rw[if_pos hz]at hk⊢;cases k with|zero=>(have:z=y:=by simpa using h);subst this;exact⟨fun _=>Nat.succ_pos _,fun hh=>absurd hz hh⟩|succ k=>have:=Di (n:=n) (O:=O) (k:=k) (y:=y) (by omega) (by simpa using h);exact⟨fun hh=>Nat.succ_lt_succ (this.1 hh),fun hh=>congrArg Nat.succ (this.2 hh)⟩);·rw[if_neg hz]at hk⊢;(obtain rfl:k=0:=by omega);(have:z=y:=by simpa using h);subst this;exact⟨fun hh=>absurd hh hz,fun _=>rfl⟩
theorem yQ {x y:Fd} (h:x.2<y.2): ∀A:List Fd,gG (A++ [y]) x=gG A x++ [y]|[]=>(by show gG [y] x=[x]++ [y];rw[gG,if_neg (by omega)];rfl)|a::A=>by rw[List.cons_append,gG,gG];split;(·rw[yQ h A];rfl);·rfl
theorem vD {x:Fd} : ∀ {A:List Fd},(∀a,a∈A→a.2≤x.2)→gG A x=A++ [x]|[],_=>rfl|a::A,h=>by rw[gG,if_pos (h a List.mem_cons_self),vD (fun b hb=>h b (List.mem_cons_of_mem _ hb))];rfl
theorem qz {x z:Fd} : ∀ {A:List Fd},z∈gG A x→z=x∨z∈A|[],h=>.inl (by simpa[gG]using h)|a::A,h=>by rw[gG]at h;split at h;(·rcases List.mem_cons.1 h with rfl|h;(·exact .inr List.mem_cons_self);·rcases qz h with h|h;(·exact .inl h);·exact .inr (List.mem_cons_of_mem _ h));·rcases List.mem_cons.1 h with rfl|h;(·exact .inl rfl);·exact .inr h
theorem vE {x:Fd} : ∀ {A:List Fd},A.Pairwise (fun a b=>a.2≤b.2)→(gG A x).Pairwise (fun a b=>a.2≤b.2)|[],_=>(by simp[gG])|a::A,h=>by obtain⟨h1,h2⟩:=List.pairwise_cons.1 h;rw[gG];split;(·rename_i S8;exact List.pairwise_cons.2 ⟨fun b hb=>by rcases qz hb with rfl|hb;exact S8;exact h1 b hb,vE h2⟩);·rename_i S8;exact List.pairwise_cons.2 ⟨fun b hb=>by rcases List.mem_cons.1 hb with rfl|hb;(·omega);·have:=h1 b hb;omega,h⟩
theorem Dj {x:Fd} : ∀(r:List Fd),r.reverse.Pairwise (fun a b=>a.2≤b.2)→(∀y,y∈r→y.1<x.1)→(jx sa r x).reverse=gG r.reverse x|[],_,_=>rfl|y::r,h,hi=>by rw[List.reverse_cons]at h⊢;obtain⟨h1,_,h3⟩:=List.pairwise_append.1 h;have hy:=hi y List.mem_cons_self;(have cX:sa x y=decide (x.2<y.2):=by unfold sa J0 qu;by_cases e1:x.2<y.2;(·simp[e1]);·by_cases e2:x.2=y.2;(·simp[e2];omega);·simp[e1,e2];omega);rw[jx,cX];by_cases hc:x.2<y.2;(·rw[decide_eq_true hc,if_pos rfl,List.reverse_cons,Dj r h1 (fun z hz=>hi z (List.mem_cons_of_mem _ hz)),yQ hc]);·rw[decide_eq_false hc,if_neg (by decide),List.reverse_cons,List.reverse_cons,vD];intro a ha;rcases List.mem_append.1 ha with ha|ha;(·have:=h3 a ha y List.mem_cons_self;omega);·rw[List.mem_singleton.1 ha];omega
def bp(l:Sl)(t:List UInt8)(ws:List (List UInt8))(bg:Int)(i:Nat):List Fd:=qw sa (ki l t ws bg i)
theorem Ax(l:Sl)(t:List UInt8)(ws:List (List UInt8))(bg:Int): ∀i:Nat,(bp l t ws bg i).Pairwise (fun a b=>a.2≤b.2)∧(∀y,y∈bp l t ws bg i→y.1<(i:Int))∧(∀w,ws[i]?=some w→bp l t ws bg (i+1)=if bU l t w≤bg then gG (bp l t ws bg i) ((i:Int),bU l t w)else bp l t ws bg i):=by
 (have step: ∀i:Nat,(bp l t ws bg i).Pairwise (fun a b=>a.2≤b.2)→(∀y,y∈bp l t ws bg i→y.1<(i:Int))→(∀w,ws[i]?=some w→bp l t ws bg (i+1)=if bU l t w≤bg then gG (bp l t ws bg i) ((i:Int),bU l t w)else bp l t ws bg i):=fun i h1 h2 w hw=>by unfold bp at h1 h2⊢;unfold qw at h1 h2⊢;rw[jb];(have e:fy l t ws bg i=if bU l t w≤bg then some ((i:Int),bU l t w)else none:=by unfold fy;rw[hw]);rw[e];split;(·rw[Option.toList,List.foldl_append,List.foldl_cons,List.foldl_nil];exact Dj _ h1 fun y hy=>h2 y (List.mem_reverse.2 hy));·rw[Option.toList,List.append_nil])
 (have Cn: ∀i:Nat,ws[i]?=none→bp l t ws bg (i+1)=bp l t ws bg i:=fun i hw=>by unfold bp;rw[jb];(have e:fy l t ws bg i=none:=by unfold fy;rw[hw]);rw[e,Option.toList,List.append_nil])
 intro i;induction i with|zero=>have h0:bp l t ws bg 0=[]:=rfl;(have h1:(bp l t ws bg 0).Pairwise (fun a b=>a.2≤b.2):=by rw[h0];exact List.Pairwise.nil);(have h2: ∀y,y∈bp l t ws bg 0→y.1<((0:Nat):Int):=by rw[h0];exact fun y hy=>(List.not_mem_nil hy).elim);exact⟨h1,h2,step 0 h1 h2⟩|succ i ih=>obtain⟨h1,h2,h3⟩:=ih;(have key:(bp l t ws bg (i+1)).Pairwise (fun a b=>a.2≤b.2)∧(∀y,y∈bp l t ws bg (i+1)→y.1<((i+1:Nat):Int)):=by cases hw:ws[i]? with|none=>rw[Cn i hw];exact⟨h1,fun y hy=>by have:=h2 y hy;omega⟩|some w=>rw[h3 w hw];split;(·refine⟨vE h1,fun y hy=>?_⟩;rcases qz hy with rfl|hy;(·show(i:Int)<_;omega);·have:=h2 y hy;omega);·exact⟨h1,fun y hy=>by have:=h2 y hy;omega⟩);exact⟨key.1,key.2,step (i+1) key.1 key.2⟩
end Go.Proofs.Ytbbmofoiipjbgaa
namespace Go.Proofs.Ytbbmofoiipjbgaa
attribute[local go_sem←]Bool.decide_and Bool.decide_or decide_not
set_option maxHeartbeats 4000000
set_option maxRecDepth 100000
theorem Dk {a b m t:Int} :(min a b,max a b)=(min m t,max m t)↔(a=m∧b=t)∨(a=t∧b=m):=by rw[Prod.mk.injEq];omega
def Ay(l:Sl)(m t:Int)(i:Nat):Int:=(l.2.2.2.2.take i).foldl (fun c x=>if(min x.1 x.2.1,max x.1 x.2.1)=(min m t,max m t)then min c x.2.2 else c) l.2.2.2.1
theorem Az {l:Sl} {m t:Int} {i:Nat} {x:Al} (h:l.2.2.2.2[i]?=some x):Ay l m t (i+1)=if(x.1=m∧x.2.1=t)∨(x.1=t∧x.2.1=m)then min (Ay l m t i) x.2.2 else Ay l m t i:=by
 unfold Ay;rw[dj h,List.foldl_append];simp only[List.foldl_cons,List.foldl_nil,Dk]
theorem J6(l:Sl)(m t:Int):PC env 16 [⟨aW,l⟩,⟨.int .u8,m⟩,⟨.int .u8,t⟩] (.int .i64) (q7 l m t):=by
 refine PC.cv (m:=2000) aR Gq rfl rfl rfl rfl (by kernel_rfl) ?_;intro hx;simp only[Try.f16];simp only[go_sem,zA,↓reduceIte,↓reduceDIte,zB,zC,zD,zE,zF,zG,zH,zI]
 refine⟨fun h=>?_,fun h=>?_⟩;(·simp[q7,h]);have hlen:l.2.2.2.2.length≤9223372036854775807:=hx.1.2.2.2.2.1;refine az.CV (X:=Nat) (fun(i:Nat)=>[(8,.iv (.int .i64) (i:Int)),(7,.iv (.int .i64) (Ay l m t i))]) (fun(i:Nat)=>[]) (fun(i:Nat)=>i≤l.2.2.2.2.length) (fun(i:Nat)=>l.2.2.2.2.length-i) 0 ?_
 intro b1 b2 fQ kW;simp(config:= {maxSteps:=4000000})only[go_sem,zA,↓reduceIte,↓reduceDIte,zB,zC,zD,zE,zF,zG,zH,zI]at fQ kW;subst fQ;subst kW;refine⟨(by refine⟨?_,?_,rfl,rfl⟩<;>repeat' (first|exact trivial|exact Or.inl rfl|exact Or.inr rfl|apply hN|apply hZ|apply ia|apply ib|exact⟨(by show(_:Nat)<1000000000;omega),rfl,rfl⟩|rfl|(refine And.intro (Or.inl ?_) ?_)|(refine And.intro ?_ ?_))),?_,?_⟩
 (·exact Nat.zero_le _);intro i hi back;refine bc aR ⟨_,Gq,rfl⟩ 2000 _ _ (by kernel_rfl) ?_;simp only[go_sem,zA,↓reduceIte,↓reduceDIte,zB,zC,zD,zE,zF,zG,zH,zI];refine⟨fun h1=>?_,fun h1=>?_⟩
 (·obtain⟨x,kf⟩: ∃x,l.2.2.2.2[i]?=some x:=bf (by omega);have hs:=Az (m:=m) (t:=t) kf;refine⟨Int.natCast_nonneg _,x,kf,?_⟩;(repeat' (first|(with_reducible intro _)|(with_reducible apply And.intro)));all_goals first|omega|(refine back _ (i+1) ?_ (by omega) (by omega);rw[hs,if_pos (by omega)];exact(by refine⟨?_,?_,rfl,rfl⟩<;>repeat' (first|exact trivial|exact Or.inl rfl|exact Or.inr rfl|apply hN|apply hZ|apply ia|apply ib|exact⟨(by show(_:Nat)<1000000000;omega),rfl,rfl⟩|rfl|(refine And.intro (Or.inl ?_) ?_)|(refine And.intro ?_ ?_))))|(refine back _ (i+1) ?_ (by omega) (by omega);rw[hs,if_neg (by omega)];exact(by refine⟨?_,?_,rfl,rfl⟩<;>repeat' (first|exact trivial|exact Or.inl rfl|exact Or.inr rfl|apply hN|apply hZ|apply ia|apply ib|exact⟨(by show(_:Nat)<1000000000;omega),rfl,rfl⟩|rfl|(refine And.intro (Or.inl ?_) ?_)|(refine And.intro ?_ ?_)))))
 ·unfold Ay q7;rw[List.take_of_length_le (by omega),if_neg h]
end Go.Proofs.Ytbbmofoiipjbgaa
