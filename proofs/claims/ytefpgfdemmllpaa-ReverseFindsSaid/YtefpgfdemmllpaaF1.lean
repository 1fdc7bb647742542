/- The law ReverseRefuses holds for every input. No condition. -/
import Derived.Test.YtefpgfdemmllpaaD6
import Derived.Test.YtefpgfdemmllpaaRows
set_option linter.unusedSimpArgs false
set_option linter.unusedVariables false
open Nat renaming reduceBEq→zA,reduceAdd→zB,reduceSub→zC,reduceMul→zD,reduceLeDiff→zE
open Int renaming reduceLT→zF,reduceLE→zG,reduceToNat→zH,reduceNeg→zI
namespace Go.Proofs.Ytefpgfdemmllpaa
attribute[local go_sem←]Bool.decide_and Bool.decide_or decide_not
attribute[local go_sem]lD dg ne_eq not_false_eq_true
set_option maxHeartbeats 4000000
set_option maxRecDepth 100000
theorem N0(s:bn)(out:ax)(k:Int):(gO s out k).2=1↔(bL out=false∨k<1∨50<k):=by
 unfold gO;by_cases h:bL out=false∨k<1∨50<k;(·rw[if_pos h];exact⟨fun _=>h,fun _=>rfl⟩);·rw[if_neg h];refine⟨fun g=>?_,fun g=>absurd g h⟩;split at g;(·exact absurd (show(50:Int)=1 from g) (by decide));·exact absurd (show(0:Int)=1 from g) (by decide)
theorem N1(s:bn)(inp out:ax):(iW s inp out).2=1↔(rz inp=false∨bL out=false):=by
 unfold iW;by_cases h:rz inp=false∨bL out=false;(·rw[if_pos h];exact⟨fun _=>h,fun _=>rfl⟩);·rw[if_neg h];refine⟨fun g=>?_,fun g=>absurd g h⟩;split at g;(·exact absurd (show(50:Int)=1 from g) (by decide));·exact absurd (show(0:Int)=1 from g) (by decide)
theorem D3(x:AS)(out:ax)(w:ax×ax):PC env 7 [⟨iO,x⟩,⟨.str,out⟩,⟨.st (.pair .str .str),w⟩] .bool true:=by
 refine PC.aJ (m:=2000) ag Zd rfl rfl rfl rfl (by kernel_rfl) ?_;intro hx;simp only[Try.f7];simp only[go_sem,zA,↓reduceIte,↓reduceDIte,zB,zC,zD,zE,zF,zG,zH,zI];obtain⟨ck,UI,_⟩:=NZ x
 (have hv:(dv (e9 x)).2=0:=by rw[Dp ck]);refine⟨_,JC,_,TK x,fun _=>⟨by omega,by omega,?_⟩⟩;obtain⟨w1,w2⟩:=w;(have e0:gO (e9 x) [] 51=([],1):=by unfold gO;rw[if_pos (by decide)])
 (have e1:s5 (e9 x) (bytesOf "aaaaaaaaaaaaaaaaaaaaa".toUTF8)=([],0,1):=by unfold s5 gO;rw[if_pos (.inl (by decide))]);dsimp only;generalize jk:List.take _ w1=inp
 generalize ab:List.take _ out=o at*;(have Gy: ∀o,(decide ((gO (e9 x) o 3).2=1)==bL o)=false:=fun o=>by have:=N0 (e9 x) o 3;cases h:bL o;(·rw[decide_eq_true (this.2 (.inl h))];rfl);·rw[decide_eq_false (fun g=>by rcases this.1 g with g|g|g;(·rw[h]at g;cases g);(·omega);·omega)];rfl)
 (have KR: ∀o,decide ((iW (e9 x) inp o).2=1)= !(rz inp&&bL o):=fun o=>by have:=N1 (e9 x) inp o;cases h:rz inp;(·rw[decide_eq_true (this.2 (.inl h))];rfl);·cases h':bL o;(·rw[decide_eq_true (this.2 (.inr h'))];rfl);·rw[decide_eq_false (fun g=>by rcases this.1 g with g|g;(·rw[h]at g;cases g);·rw[h']at g;cases g)];rfl)
 have gn:=e0▸s4 (e9 x) ck hv [] 51;have bo:=e1▸pJ (e9 x) ck hv (bytesOf "aaaaaaaaaaaaaaaaaaaaa".toUTF8);have hB:=fun o=>s4 (e9 x) ck hv o 3;have hP:=fun o=>xJ (e9 x) ck hv UI inp o
 generalize e9 x=s at*;generalize hbg:(fun o=>gO s o 3)=B at*;(have aA6: ∀o,gO s o 3=B o:=fun o=>by rw[←hbg]);simp only[aA6]at hB Gy;have ZZ: ∃P:ax→List Int×Int,∀o,iW s inp o=P o:=⟨fun o=>iW s inp o,fun _=>rfl⟩
 obtain⟨P,ZZ⟩:=ZZ;simp only[ZZ]at hP KR;refine⟨fun h4=>⟨_,ig o,?_⟩,fun h4=>?_⟩;cases ht:bL o;(·simp only[go_sem,zA,↓reduceIte,↓reduceDIte,zB,zC,zD,zE,zF,zG,zH,zI];generalize o=o' at*;refine⟨_,hB o',fun _=>⟨_,hP o',fun _=>⟨_,gn,fun _=>⟨_,bo,fun _=>⟨_,ig o',kz (b':=false) (Gy o') ?_⟩⟩⟩⟩⟩;simp only[go_sem,zA,↓reduceIte,↓reduceDIte,zB,zC,zD,zE,zF,zG,zH,zI];have hp:=KR o';have hl:=pz inp;have Ac:=ig o';cases hL:rz inp;(·rw[hL]at hp hl;rw[Bool.false_and,Bool.not_false]at hp;refine⟨_,hl,?_⟩;simp only[go_sem,zA,↓reduceIte,↓reduceDIte,zB,zC,zD,zE,zF,zG,zH,zI];rw[hp];refine n5 (b':=false) rfl ?_;simp only[go_sem,zA,↓reduceIte,↓reduceDIte,zB,zC,zD,zE,zF,zG,zH,zI]);·rw[hL]at hp hl;rw[Bool.true_and]at hp;refine⟨_,hl,?_⟩;simp only[go_sem,zA,↓reduceIte,↓reduceDIte,zB,zC,zD,zE,zF,zG,zH,zI];refine⟨_,Ac,?_⟩;rw[hp];refine n5 (b':=false) (by cases bL o'<;>rfl) ?_;simp only[go_sem,zA,↓reduceIte,↓reduceDIte,zB,zC,zD,zE,zF,zG,zH,zI])
 (·simp only[go_sem,zA,↓reduceIte,↓reduceDIte,zB,zC,zD,zE,zF,zG,zH,zI];refine⟨by omega,?_⟩;generalize List.take _ o=o';refine⟨_,hB o',fun _=>⟨_,hP o',fun _=>⟨_,gn,fun _=>⟨_,bo,fun _=>⟨_,ig o',kz (b':=false) (Gy o') ?_⟩⟩⟩⟩⟩;simp only[go_sem,zA,↓reduceIte,↓reduceDIte,zB,zC,zD,zE,zF,zG,zH,zI];have hp:=KR o';have hl:=pz inp;have Ac:=ig o';cases hL:rz inp;(·rw[hL]at hp hl;rw[Bool.false_and,Bool.not_false]at hp;refine⟨_,hl,?_⟩;simp only[go_sem,zA,↓reduceIte,↓reduceDIte,zB,zC,zD,zE,zF,zG,zH,zI];rw[hp];refine n5 (b':=false) rfl ?_;simp only[go_sem,zA,↓reduceIte,↓reduceDIte,zB,zC,zD,zE,zF,zG,zH,zI]);·rw[hL]at hp hl;rw[Bool.true_and]at hp;refine⟨_,hl,?_⟩;simp only[go_sem,zA,↓reduceIte,↓reduceDIte,zB,zC,zD,zE,zF,zG,zH,zI];refine⟨_,Ac,?_⟩;rw[hp];refine n5 (b':=false) (by cases bL o'<;>rfl) ?_;simp only[go_sem,zA,↓reduceIte,↓reduceDIte,zB,zC,zD,zE,zF,zG,zH,zI])
 ·generalize o=o' at*;refine⟨_,hB o',fun _=>⟨_,hP o',fun _=>⟨_,gn,fun _=>⟨_,bo,fun _=>⟨_,ig o',kz (b':=false) (Gy o') ?_⟩⟩⟩⟩⟩;simp only[go_sem,zA,↓reduceIte,↓reduceDIte,zB,zC,zD,zE,zF,zG,zH,zI];have hp:=KR o';have hl:=pz inp;have Ac:=ig o';cases hL:rz inp;(·rw[hL]at hp hl;rw[Bool.false_and,Bool.not_false]at hp;refine⟨_,hl,?_⟩;simp only[go_sem,zA,↓reduceIte,↓reduceDIte,zB,zC,zD,zE,zF,zG,zH,zI];rw[hp];refine n5 (b':=false) rfl ?_;simp only[go_sem,zA,↓reduceIte,↓reduceDIte,zB,zC,zD,zE,zF,zG,zH,zI]);·rw[hL]at hp hl;rw[Bool.true_and]at hp;refine⟨_,hl,?_⟩;simp only[go_sem,zA,↓reduceIte,↓reduceDIte,zB,zC,zD,zE,zF,zG,zH,zI];refine⟨_,Ac,?_⟩;rw[hp];refine n5 (b':=false) (by cases bL o'<;>rfl) ?_;simp only[go_sem,zA,↓reduceIte,↓reduceDIte,zB,zC,zD,zE,zF,zG,zH,zI]
end Go.Proofs.Ytefpgfdemmllpaa
namespace Go.Proofs.Ytefpgfdemmllpaa
open Go.ChangeShapes Go.WideShapes Go.ChangeAt Go.RowKit
theorem N2:ownKnob Try.prog.godebug=none:=by kernel_rfl
theorem N3:laidOutB env.P=true:=by kernel_rfl
theorem D4(xs:List (Sigma Ty.den))(h:xs.map (·.1)=[iO,.str,.st (.pair .str .str)]):PC env 7 xs .bool true:=by
 match xs,h with|[⟨_,y0⟩,⟨_,y1⟩,⟨_,y2⟩],h=>injection h with h1 h;injection h with h2 h;injection h with h3 h;dsimp only at h1 h2 h3;subst h1 h2 h3;exact D3 y0 y1 y2
set_option maxRecDepth 100000 in theorem xK(os:Os)(started:os.Started)(H:Type)(enc:TypeId×Value→H):ReturnsInHanded {} Try.checked os 7 .any (Rows.reverseRefusesSpec.pre6 enc Try.prog Try.f7 Rows.reverseRefusesRow.domain false) (Rows.reverseRefusesSpec.post enc Try.prog Try.f7 false true false false):=by
 refine returnsInHanded_of_change (C:=Try.checked) N2 started (by kernel_rfl) Zd (ChangeSpec.witness6 (enc:=enc) (C:=Try.checked) false ⟨#[],#[.agg #[.int .u8 0,.int .u8 0,.slice none 0 0],.string ⟨#[]⟩,.agg #[.string ⟨#[]⟩,.string ⟨#[]⟩]],[]⟩ 8 (by kernel_rfl) (by kernel_rfl) (by kernel_rfl) (by kernel_rfl)) ?_
 intro W base args ds gs before og hW _ _;refine IM (E:=env) (b0:=base) (Ts:=[iO,.str,.st (.pair .str .str)]) (tb:=4) ag N3 (of_decide_eq_true (by kernel_rfl)) rfl rfl rfl (by kernel_rfl) rfl ?_ D4 (fun g hg=>by cases hg) og hW
 intro ds hds;match ds,hds with|[d0,d1,d2],_=>rfl
theorem refuses_holds:Rows.ReverseRefusesSaid:=OpenClaim.holds_of_wide 7 Try.f7 rfl rfl rfl rfl rfl rfl rfl ⟨rfl,rfl,rfl,rfl,rfl⟩ rfl rfl rfl rfl rfl (by kernel_rfl) Zd (by kernel_rfl) (of_decide_eq_true (by kernel_rfl)) (by unfold Func.isWrapper;first|(rw[if_pos (by decide+kernel)];kernel_rfl)|(rw[if_neg (by decide+kernel)];exact⟨rfl,rfl⟩)) (fun os started H enc _=>xK os started H enc)
end Go.Proofs.Ytefpgfdemmllpaa
