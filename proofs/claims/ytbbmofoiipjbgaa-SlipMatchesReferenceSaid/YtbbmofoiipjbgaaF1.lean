/- The law SlipMatchesReference holds for every input. No condition. -/
import Derived.Test.YtbbmofoiipjbgaaB4
import Derived.Test.YtbbmofoiipjbgaaRows
set_option linter.unusedSimpArgs false
set_option linter.unusedVariables false
open Nat renaming reduceBEq→zA,reduceAdd→zB,reduceSub→zC,reduceMul→zD,reduceLeDiff→zE
open Int renaming reduceLT→zF,reduceLE→zG,reduceToNat→zH,reduceNeg→zI
namespace Go.Proofs.Ytbbmofoiipjbgaa
open Go.RowKit Go.Deep
set_option maxHeartbeats 4000000
set_option maxRecDepth 100000
theorem n9 {m:List UInt8} {i:Nat} (h:i<(⟨m.toArray⟩:ByteArray).size):m[i]?=some ((⟨m.toArray⟩:ByteArray)[i]'h):=by have h':i<m.length:=h;rw[List.getElem?_eq_getElem h'];rfl
theorem yT(l:Sl)(t m:List UInt8)(hl:dX l)(ht:t.length≤1000)(hm:m.length≤1000):PC env 9 [⟨aW,l⟩,⟨.str,t⟩,⟨.str,m⟩] (.int .i64) (bU l t m):=by
 obtain⟨a0,a1,a2,a3,al⟩:=l;intro w S vs hS hT bW;obtain⟨v,r,rfl,jq,hv,eZ⟩:=bW;obtain⟨v2,r2,rfl,TY,BM,Kj⟩:=eZ;obtain⟨v3,r3,rfl,TZ,R9,qS⟩:=Kj;simp only[ji]at qS;subst qS
 have Pe:=hv;obtain⟨cs,rfl,c1,WU,rfl,⟨rfl,hn⟩,c2,c3,rfl,⟨rfl,ha⟩,c4,c5,rfl,⟨rfl,hb⟩,c6,c7,rfl,⟨rfl,hc⟩,ad,cap,rfl,Sn,ld,dP⟩:=hv;obtain⟨BM,-⟩:=BM;obtain⟨R9,-⟩:=R9
 (obtain rfl:v2= .string ⟨t.toArray⟩:=by simpa using BM);(obtain rfl:v3= .string ⟨m.toArray⟩:=by simpa using R9);have WV:(⟨m.toArray⟩:ByteArray).size=m.length:=rfl
 have iw:(⟨t.toArray⟩:ByteArray).size=t.length:=rfl;(have e:bU (a0,a1,a2,a3,al) t m=D (a0,a1,a2,a3,al) m t m.length t.length:=by unfold D bU;rw[List.take_of_length_le (Nat.le_refl _),List.take_of_length_le (Nat.le_refl _)])
 obtain⟨f1,f2,f3,f4,f5,f6,f7,f8,f9⟩:=hl;have hl:dX (a0,a1,a2,a3,al):=⟨f1,f2,f3,f4,f5,f6,f7,f8,f9⟩;refine(M4 a0 a1 a2 a3 ad al.length cap ⟨t.toArray⟩ ⟨m.toArray⟩ w (D (a0,a1,a2,a3,al) m t) hm ht (iu (a0,a1,a2,a3,al)) ⟨f1,f2⟩ ⟨f3,f4⟩ ⟨f5,f6⟩ (fun x y=>nM hl x y) ?h1 (MS _ _ _) (fun k hk=>MT _ _ _ k hk) (fun i hi=>MU _ _ _ i hi) ?h2 ?h3 ?h4).mono ?_
 (case h1=>intro i k hi hk;refine⟨(ja hl m t i k hi hk).1,?_⟩;have h:=xw (a0,a1,a2,a3,al) (t.take k) (m.take i);rw[List.length_take,List.length_take,Nat.min_eq_left (show i≤m.length from hi),Nat.min_eq_left (show k≤t.length from hk)]at h;exact h)
 (case h2=>intro i k h1 h2 nV;have hx:=n9 h1;have hy:=n9 h2;rw[Ap hx hy];(·rfl);·rintro⟨cA,Sv,Ss,e1,e2⟩;obtain⟨i',rfl⟩: ∃i',i=i'+1:=⟨i-1,by omega⟩;obtain⟨k',rfl⟩: ∃k',k=k'+1:=⟨k-1,by omega⟩;rw[Nat.add_sub_cancel]at e1 e2;have fp:=n9 (m:=m) (i:=i') (by omega);have vV:=n9 (m:=t) (i:=k') (by omega);rw[fp]at e1;rw[vV]at e2;injection e1 with e1;injection e2 with e2;exact nV i' k' rfl rfl ⟨e2.symm,e1,fun h=>cA (h.trans e1)⟩)
 (case h3=>intro i k h1 h2⟨e1,e2,e3⟩;have hx:=n9 h1;have hy:=n9 h2;have fp:=n9 (m:=m) (i:=i) (by omega);have vV:=n9 (m:=t) (i:=k) (by omega);rw[Da hx hy (fun h=>e3 (h.trans e2.symm)) (by rw[fp,e2]) (by rw[vV,e1])];rfl)
 (case h4=>intro w1 x y hs;have hc:=J6 (a0,a1,a2,a3,al) (x.toNat:Int) (y.toNat:Int);refine(hc w1 S [.agg #[.int .i64 a0,.int .i64 a1,.int .i64 a2,.int .i64 a3,.slice ad al.length cap],.int .u8 x.toNat,.int .u8 y.toNat] (fun b lf=>Nat.lt_of_lt_of_le (hS b lf) hs.size) (fun g hg=>by cases hg) ?_).mono ?_;(·refine⟨_,_,rfl,jq,eM (M:=⟨S,fun g=>w.heap.size≤g⟩) (fun b lf=>hs.block b (hS b lf)) (fun _ h=>h) jq Pe,_,_,rfl,rfl,⟨rfl,?_⟩,_,_,rfl,rfl,⟨rfl,?_⟩,rfl⟩;(·exact C1 (Int.natCast_nonneg _) (Int.ofNat_le.2 (Nat.le_of_lt_succ x.toNat_lt)));·exact C1 (Int.natCast_nonneg _) (Int.ofNat_le.2 (Nat.le_of_lt_succ y.toNat_lt)));·rintro e w'⟨v,rfl,⟨lf,_⟩,S',_,_,_,FX⟩;(have:v= .int .i64 (iu (a0,a1,a2,a3,al) x y):=by obtain⟨FX,_⟩:=FX;(have h0:v= .int .i64 (q7 (a0,a1,a2,a3,al) (x.toNat:Int) (y.toNat:Int)):=by simpa using FX);exact h0);exact⟨by rw[this],lf.os,lf.tape,lf.output,lf.size,lf.block⟩)
 ·rintro e' w'⟨rfl,hs⟩;refine⟨_,rfl,⟨⟨hs.os,hs.tape,hs.output,hs.size,hs.block⟩,fun h=>h.elim⟩,S,fun b hb=>hb,fun b hb=>.inl hb,fun b hb=>Nat.lt_of_lt_of_le (hS b hb) hs.size,?_⟩;rw[e];refine⟨rfl,fv ?_ ?_⟩;(·have:=(ja hl m t m.length t.length (Nat.le_refl _) (Nat.le_refl _)).1;omega);·have:=(ja hl m t m.length t.length (Nat.le_refl _) (Nat.le_refl _)).2;omega
end Go.Proofs.Ytbbmofoiipjbgaa
namespace Go.Proofs.Ytbbmofoiipjbgaa
attribute[local go_sem←]Bool.decide_and Bool.decide_or decide_not
set_option maxHeartbeats 4000000
set_option maxRecDepth 100000
theorem xQ(l:List (List Int))(n:Nat):(gB l n).length≤n:=by unfold gB;simp;omega
theorem vF(l:List (List Int))(n:Nat)(y:List UInt8)(h:y∈gB l n):y.length≤5:=by unfold gB at h;obtain⟨z,_,rfl⟩:=List.mem_map.mp h;exact nO z 5
theorem AF(x:Ai)(w:List Int×List Int)(l:List (List Int)):PC env 3 [⟨nL,x⟩,⟨.st (.pair (.sl (.int .u8)) (.sl (.int .u8))),w⟩,⟨.sl (.sl (.int .u8)),l⟩] .bool true:=by
 refine PC.cv (m:=2000) aR JV rfl rfl rfl rfl (by kernel_rfl) ?_;intro hx;simp only[Try.f3];simp only[go_sem,zA,↓reduceIte,↓reduceDIte,zB,zC,zD,zE,zF,zG,zH,zI];have hm:=Aw x
 have ha:=nO w.1 8;have hb:=nO w.2 8;have Kv:0≤x.1.1∧x.1.1≤255:=mO hx.1.1.1;have Vo:=xQ l 6;have T0:=vF l 6;refine⟨_,Dd,_,JZ x,fun _=>⟨_,xn w.1 8 (by omega),fun _=>⟨_,xn w.2 8 (by omega),fun _=>⟨_,FH l 6 (by omega),fun _=>⟨Kv.1,fv (by omega) (by omega),?_⟩⟩⟩⟩⟩
 simp only[go_sem,zA,↓reduceIte,↓reduceDIte,zB,zC,zD,zE,zF,zG,zH,zI];refine⟨_,kg (n7 x) _ _ hm.dX (by omega) (by omega),fun _=>⟨_,yT (n7 x) _ _ hm.dX (by omega) (by omega),fun _=>⟨fun _=>⟨_,nN (n7 x) _ (gB l 6) _ hm.dX (by omega) (fun w hw=>by have:=T0 w hw;omega) (by omega),fun _=>⟨_,xx (n7 x) _ (gB l 6) _ (by omega) (fun w hw=>yT (n7 x) _ _ hm.dX (by omega) (by have:=T0 w hw;omega)),fun _=>⟨_,C4 _ _,?_⟩⟩⟩,fun h=>absurd rfl h⟩⟩⟩
 exact decide_eq_true rfl
end Go.Proofs.Ytbbmofoiipjbgaa
namespace Go.Proofs.Ytbbmofoiipjbgaa
open Go.ChangeShapes Go.WideShapes Go.ChangeAt Go.RowKit
theorem Dt:ownKnob Try.prog.godebug=none:=by kernel_rfl
theorem Du:laidOutB env.P=true:=by kernel_rfl
theorem vG(xs:List (Sigma Ty.den))(h:xs.map (·.1)=[nL,.st (.pair (.sl (.int .u8)) (.sl (.int .u8))),.sl (.sl (.int .u8))]):PC env 3 xs .bool true:=by
 match xs,h with|[⟨_,y0⟩,⟨_,y1⟩,⟨_,y2⟩],h=>injection h with h1 h;injection h with h2 h;injection h with h3 h;dsimp only at h1 h2 h3;subst h1 h2 h3;exact AF y0 y1 y2
set_option maxRecDepth 100000 in theorem qG(os:Os)(started:os.Started)(H:Type)(enc:TypeId×Value→H):ReturnsInHanded {} Try.checked os 3 .any (Rows.slipMatchesReferenceSpec.pre6 enc Try.prog Try.f3 Rows.slipMatchesReferenceRow.domain false) (Rows.slipMatchesReferenceSpec.post enc Try.prog Try.f3 false true false false):=by
 refine returnsInHanded_of_change (C:=Try.checked) Dt started (by kernel_rfl) JV (ChangeSpec.witness6 (enc:=enc) (C:=Try.checked) false ⟨#[],#[.agg #[.int .u8 0,.int .u8 0,.int .u8 0,.int .u8 0,.slice none 0 0],.agg #[.slice none 0 0,.slice none 0 0],.slice none 0 0],[]⟩ 8 (by kernel_rfl) (by kernel_rfl) (by kernel_rfl) (by kernel_rfl)) ?_
 intro W base args ds gs before kR hW _ _;refine Ad (E:=env) (b0:=base) (Ts:=[nL,.st (.pair (.sl (.int .u8)) (.sl (.int .u8))),.sl (.sl (.int .u8))]) (tb:=4) aR Du (of_decide_eq_true (by kernel_rfl)) rfl rfl rfl (by kernel_rfl) rfl ?_ vG (fun g hg=>by cases hg) kR hW
 intro ds VF;match ds,VF with|[d0,d1,d2],_=>rfl
theorem matches_holds:Rows.SlipMatchesReferenceSaid:=OpenClaim.holds_of_wide 3 Try.f3 rfl rfl rfl rfl rfl rfl rfl ⟨rfl,rfl,rfl,rfl,rfl⟩ rfl rfl rfl rfl rfl (by kernel_rfl) JV (by kernel_rfl) (of_decide_eq_true (by kernel_rfl)) (by unfold Func.isWrapper;first|(rw[if_pos (by decide+kernel)];kernel_rfl)|(rw[if_neg (by decide+kernel)];exact⟨rfl,rfl⟩)) (fun os started H enc _=>qG os started H enc)
end Go.Proofs.Ytbbmofoiipjbgaa
