/- The law ReverseMatchesReference holds for every input. No condition. -/
import Derived.Test.YtefpgfdemmllpaaG2
import Derived.Test.YtefpgfdemmllpaaRows
set_option linter.unusedSimpArgs false
set_option linter.unusedVariables false
open Nat renaming reduceBEq→zA,reduceAdd→zB,reduceSub→zC,reduceMul→zD,reduceLeDiff→zE
open Int renaming reduceLT→zF,reduceLE→zG,reduceToNat→zH,reduceNeg→zI
namespace Go.Proofs.Ytefpgfdemmllpaa
attribute[local go_sem←]Bool.decide_and Bool.decide_or decide_not
attribute[local go_sem]lD dg ne_eq not_false_eq_true
set_option maxHeartbeats 4000000
set_option maxRecDepth 100000
theorem aE4(s:bn)(out:ax)(k:Int)(ht:bL out=true)(h1:1≤k)(h2:k≤50):gO s out k=if uj s out=[]then([],50)else((uj s out).take k.toNat,0):=by
 unfold gO;rw[if_neg (by rintro(h|h|h);(·rw[ht]at h;cases h);(·omega);·omega)]
theorem aE2(s:bn)(out:ax)(ht:bL out=true):s5 s out=match uj s out with|[]=>([],0,50)|r::_=>(r.1,r.2,0):=by
 unfold s5;rw[aE4 s out 1 ht (by decide) (by decide)];cases uj s out<;>rfl
theorem aE6(x:AS)(l:List Int)(w:Int×Int):PC env 5 [⟨iO,x⟩,⟨.sl (.int .u8),l⟩,⟨.st (.pair (.int .u8) (.int .u8)),w⟩] .bool true:=by
 refine PC.aJ (m:=2000) ag aD2 rfl rfl rfl rfl (by kernel_rfl) ?_;intro hx;simp only[Try.f5];simp only[go_sem,zA,↓reduceIte,↓reduceDIte,zB,zC,zD,zE,zF,zG,zH,zI]
 obtain⟨ck,UI,_⟩:=NZ x;(have hv:(dv (e9 x)).2=0:=by rw[Dp ck]);refine⟨_,JC,_,TK x,fun _=>⟨_,aq9 l 4 (by omega),fun _=>?_⟩⟩;have ht:bL (ly l 4)=true:=aq6 l 4 (by omega)
 obtain⟨w1,w2⟩:=w;have hw:(0≤w1∧w1≤255)∧0≤w2∧w2≤255:=hx.2.2.1;dsimp only;have e1:Int.tmod w1 20=w1%20:=Int.tmod_eq_emod_of_nonneg hw.1.1;have e2:Int.tmod w2 20=w2%20:=Int.tmod_eq_emod_of_nonneg hw.2.1
 rw[e1,e2];have h4:Int.toNat 4=4:=rfl;rw[h4];obtain⟨k,hk⟩: ∃k,1+w1%20=k:=⟨_,rfl⟩;obtain⟨n,hn⟩: ∃n,k+w2%20=n:=⟨_,rfl⟩;rw[hk,hn];(have hk1:1≤k∧k≤20:=by omega);(have hn1:k≤n∧n≤39:=by omega)
 have hB1:=aE4 (e9 x) (ly l 4) k ht (by omega) (by omega)▸s4 (e9 x) ck hv (ly l 4) k;have hB2:=aE4 (e9 x) (ly l 4) n ht (by omega) (by omega)▸s4 (e9 x) ck hv (ly l 4) n
 have hC:=aE2 (e9 x) (ly l 4) ht▸pJ (e9 x) ck hv (ly l 4);generalize ly l 4=o at*;generalize e9 x=s at*;generalize uj s o=A at*;refine⟨aC (by omega) (by omega),aC (by omega) (by omega),_,hB1,fun _=>⟨_,hB2,fun _=>⟨_,hC,fun _=>?_⟩⟩⟩
 cases A with|nil=>dsimp only;rw[if_pos rfl,if_pos rfl];exact⟨fun _=>⟨fun h=>absurd rfl h,fun _=>⟨fun _=>⟨fun _=>rfl,fun h=>absurd rfl h⟩,fun h=>absurd (show(50:Int)=0 from h) (by decide)⟩⟩,fun h=>absurd rfl h⟩|cons r A=>dsimp only;rw[if_neg (by simp),if_neg (by simp)];dsimp only;(have JP:((r::A).take k.toNat).length=min k.toNat (A.length+1):=by simp);(have hln:((r::A).take n.toNat).length=min n.toNat (A.length+1):=by simp);(have ZI:((r::A).take n.toNat).take ((r::A).take k.toNat).length=(r::A).take k.toNat:=by rw[JP,List.take_take];by_cases hh:k.toNat≤A.length+1;(·rw[show min (min k.toNat (A.length+1)) n.toNat=k.toNat by omega]);·rw[show min (min k.toNat (A.length+1)) n.toNat=A.length+1 by omega,List.take_of_length_le (by simp),List.take_of_length_le (by simp;omega)]);(have Hk:((r::A).take k.toNat)[0]?=some r:=by obtain⟨m,hm⟩: ∃m,k.toNat=m+1:=⟨k.toNat-1,by omega⟩;rw[hm];rfl);rw[ZI];(have aF7:((r::A).take k.toNat).length=k.toNat∨((r::A).take n.toNat).length=((r::A).take k.toNat).length:=by omega);generalize(r::A).take k.toNat=a at*;generalize(r::A).take n.toNat=b at*;refine⟨fun _=>⟨fun h=>absurd rfl h,fun _=>⟨fun h=>absurd rfl h,fun _=>?_⟩⟩,fun h=>absurd rfl h⟩;refine⟨fun _=>⟨fun _=>⟨fun _=>⟨⟨by omega,by omega⟩,_,TL a a,kz (b':=true) (by simp) ?_⟩,fun h=>absurd (by omega) h⟩,fun h=>absurd (by omega) h⟩,fun h=>absurd (by omega) h⟩;simp only[go_sem,zA,↓reduceIte,↓reduceDIte,zB,zC,zD,zE,zF,zG,zH,zI];exact⟨fun rV=>⟨fun _=>⟨r,Hk,fun _=>trivial,fun h=>absurd ⟨rfl,rfl⟩ h⟩,fun h=>absurd (by omega) h⟩,fun _=>⟨r,Hk,fun _=>trivial,fun h=>absurd ⟨rfl,rfl⟩ h⟩⟩
end Go.Proofs.Ytefpgfdemmllpaa
namespace Go.Proofs.Ytefpgfdemmllpaa
attribute[local go_sem←]Bool.decide_and Bool.decide_or decide_not
attribute[local go_sem]lD dg ne_eq not_false_eq_true
set_option maxHeartbeats 4000000
set_option maxRecDepth 100000
theorem aN7(x:AS)(l:List Int)(w:Int×Int):PC env 3 [⟨iO,x⟩,⟨.sl (.int .u8),l⟩,⟨.st (.pair (.int .i8) (.int .i8)),w⟩] .bool true:=by
 refine PC.aJ (m:=2000) ag aD0 rfl rfl rfl rfl (by kernel_rfl) ?_;intro hx;simp only[Try.f3];simp only[go_sem,zA,↓reduceIte,↓reduceDIte,zB,zC,zD,zE,zF,zG,zH,zI]
 obtain⟨ck,UI,aF6⟩:=NZ x;(have hv:(dv (e9 x)).2=0:=by rw[Dp ck]);have h12:=(wE x).2.1;have h2:(e9 x).1≤2:=h12;have ht:bL (ly l 4)=true:=aq6 l 4 (by omega);have Ad:=zW l 4
 have hB:=fun k=>s4 (e9 x) ck hv (ly l 4) k;have hBR:=fun k=>aP8 (e9 x) ck aF6 h2 (ly l 4) Ad k;have hC:=pJ (e9 x) ck hv (ly l 4);have hP:=fun inp=>xJ (e9 x) ck hv UI inp (ly l 4)
 have hPR:=fun inp=>aP9 (e9 x) ck UI inp (ly l 4);have e1:=aE4 (e9 x) (ly l 4) 1 ht (by decide) (by decide);have Ck:=aE2 (e9 x) (ly l 4) ht;refine⟨_,JC,_,TK x,fun _=>⟨_,aq9 l 4 (by omega),fun _=>?_⟩⟩
 have h4:Int.toNat 4=4:=rfl;rw[h4];generalize ly l 4=o at*;generalize e9 x=s at*;obtain⟨w1,w2⟩:=w;obtain⟨B,hBe⟩: ∃B,gO s o w1=B:=⟨_,rfl⟩;have hB1:=hBe▸hB w1;have hB2:=hBe▸hBR w1
 obtain⟨aI6,aI7⟩:=B;have hB3:=e1▸hBR 1;rw[Ck]at hC;generalize uj s o=A at*;have hI:=aP4 l 5 (by omega);have h5:Int.toNat 5=5:=rfl;rw[h5]at hI;generalize aL1 l 5=inp at*
 obtain⟨P,hPe⟩: ∃P,iW s inp o=P:=⟨_,rfl⟩;have hP1:=hPe▸hP inp;have hP2:=hPe▸hPR inp;obtain⟨aI8,aI9⟩:=P;cases A with|nil=>rw[if_pos rfl]at hB3;dsimp only at hC;refine⟨_,hB1,fun _=>⟨_,hB2,fun _=>⟨_,hC,fun _=>⟨_,hB3,fun _=>⟨_,hI,fun _=>⟨_,hP1,fun _=>⟨_,hP2,fun _=>⟨_,TL aI6 aI6,kz (b':=false) (by simp) ?_⟩⟩⟩⟩⟩⟩⟩⟩;simp only[go_sem,zA,↓reduceIte,↓reduceDIte,zB,zC,zD,zE,zF,zG,zH,zI];refine⟨_,MI aI8 aI8,kz (b':=false) (by simp) ?_⟩;simp only[go_sem,zA,↓reduceIte,↓reduceDIte,zB,zC,zD,zE,zF,zG,zH,zI];exact⟨fun _=>⟨fun _=>trivial,fun h=>absurd rfl h⟩,fun h=>absurd h (by decide)⟩|cons r A=>rw[if_neg (by simp)]at hB3;dsimp only at hC;have et:(r::A).take (Int.toNat 1)=[r]:=rfl;rw[et]at hB3;refine⟨_,hB1,fun _=>⟨_,hB2,fun _=>⟨_,hC,fun _=>⟨_,hB3,fun _=>⟨_,hI,fun _=>⟨_,hP1,fun _=>⟨_,hP2,fun _=>⟨_,TL aI6 aI6,kz (b':=false) (by simp) ?_⟩⟩⟩⟩⟩⟩⟩⟩;simp only[go_sem,zA,↓reduceIte,↓reduceDIte,zB,zC,zD,zE,zF,zG,zH,zI];refine⟨_,MI aI8 aI8,kz (b':=false) (by simp) ?_⟩;simp only[go_sem,zA,↓reduceIte,↓reduceDIte,zB,zC,zD,zE,zF,zG,zH,zI];exact⟨r,rfl,fun _=>trivial,fun h=>absurd ⟨rfl,rfl⟩ h⟩
end Go.Proofs.Ytefpgfdemmllpaa
namespace Go.Proofs.Ytefpgfdemmllpaa
open Go.ChangeShapes Go.WideShapes Go.ChangeAt Go.RowKit
theorem N2:ownKnob Try.prog.godebug=none:=by kernel_rfl
theorem N3:laidOutB env.P=true:=by kernel_rfl
theorem aN8(xs:List (Sigma Ty.den))(h:xs.map (·.1)=[iO,.sl (.int .u8),.st (.pair (.int .i8) (.int .i8))]):PC env 3 xs .bool true:=by
 match xs,h with|[⟨_,y0⟩,⟨_,y1⟩,⟨_,y2⟩],h=>injection h with h1 h;injection h with h2 h;injection h with h3 h;dsimp only at h1 h2 h3;subst h1 h2 h3;exact aN7 y0 y1 y2
set_option maxRecDepth 100000 in theorem aM8(os:Os)(started:os.Started)(H:Type)(enc:TypeId×Value→H):ReturnsInHanded {} Try.checked os 3 .any (Rows.reverseMatchesReferenceSpec.pre6 enc Try.prog Try.f3 Rows.reverseMatchesReferenceRow.domain false) (Rows.reverseMatchesReferenceSpec.post enc Try.prog Try.f3 false true false false):=by
 refine returnsInHanded_of_change (C:=Try.checked) N2 started (by kernel_rfl) aD0 (ChangeSpec.witness6 (enc:=enc) (C:=Try.checked) false ⟨#[],#[.agg #[.int .u8 0,.int .u8 0,.slice none 0 0],.slice none 0 0,.agg #[.int .i8 0,.int .i8 0]],[]⟩ 8 (by kernel_rfl) (by kernel_rfl) (by kernel_rfl) (by kernel_rfl)) ?_
 intro W base args ds gs before og hW _ _;refine IM (E:=env) (b0:=base) (Ts:=[iO,.sl (.int .u8),.st (.pair (.int .i8) (.int .i8))]) (tb:=4) ag N3 (of_decide_eq_true (by kernel_rfl)) rfl rfl rfl (by kernel_rfl) rfl ?_ aN8 (fun g hg=>by cases hg) og hW
 intro ds hds;match ds,hds with|[d0,d1,d2],_=>rfl
theorem matches_holds:Rows.ReverseMatchesReferenceSaid:=OpenClaim.holds_of_wide 3 Try.f3 rfl rfl rfl rfl rfl rfl rfl ⟨rfl,rfl,rfl,rfl,rfl⟩ rfl rfl rfl rfl rfl (by kernel_rfl) aD0 (by kernel_rfl) (of_decide_eq_true (by kernel_rfl)) (by unfold Func.isWrapper;first|(rw[if_pos (by decide+kernel)];kernel_rfl)|(rw[if_neg (by decide+kernel)];exact⟨rfl,rfl⟩)) (fun os started H enc _=>aM8 os started H enc)
end Go.Proofs.Ytefpgfdemmllpaa
