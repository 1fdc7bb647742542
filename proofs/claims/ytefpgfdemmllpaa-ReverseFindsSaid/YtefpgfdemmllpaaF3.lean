/- The law ReverseGrows holds for every input. No condition. -/
import Derived.Test.YtefpgfdemmllpaaF2
import Derived.Test.YtefpgfdemmllpaaRows
set_option linter.unusedSimpArgs false
set_option linter.unusedVariables false
open Nat renaming reduceBEq→zA,reduceAdd→zB,reduceSub→zC,reduceMul→zD,reduceLeDiff→zE
open Int renaming reduceLT→zF,reduceLE→zG,reduceToNat→zH,reduceNeg→zI
namespace Go.Proofs.Ytefpgfdemmllpaa
attribute[local go_sem←]Bool.decide_and Bool.decide_or decide_not
attribute[local go_sem]lD dg ne_eq not_false_eq_true
set_option maxHeartbeats 4000000
set_option maxRecDepth 100000
theorem aE1 {rs:List Rl} {acc:Int} {out x:ax} {p:Sp} {c:Int} (h:Rev.kA rs)(hp:Rev.Path rs acc out p x c):0≤c:=by
 induction hp with|done _=>exact Int.le_refl _|step hr _ _ ih=>have:=h.cost _ hr;omega
theorem aF4 {rs:List Rl} {acc:Int} {out x:ax} (h:Rev.kA rs): ∀(n:Nat)(c:Int),c.toNat≤n→Rev.zw rs acc out x c→ ∃d,d≤c∧Rev.Jc rs acc out x d:=by
 intro n;induction n with|zero=>intro c hc hi;have h0:=aE1 h hi;exact⟨c,Int.le_refl _,hi,fun c' iw=>by have:=aE1 h iw;omega⟩|succ n ih=>intro c hc hi;by_cases hh: ∃c',Rev.zw rs acc out x c'∧c'<c;(·obtain⟨c',h1,h2⟩:=hh;have h0:=aE1 h h1;obtain⟨d,hd,hm⟩:=ih c' (by omega) h1;exact⟨d,by omega,hm⟩);·exact⟨c,Int.le_refl _,hi,fun c' iw=>by by_cases cM:c≤c';(·exact cM);·exact absurd ⟨c',iw,by omega⟩ hh⟩
theorem aF2 {s t:bn} (hs:dA s)(ht:dA t)(ha:t.2.1=s.2.1)(wi: ∀r,r∈s.2.2→r∈t.2.2) {out:ax} {q:Rev.cV} {L:List Rev.cV} (h:uj s out=q::L): ∃q' L',uj t out=q'::L'∧q'.2≤q.2:=by
 have hA:Rev.tO s.2.2 s.2.1 out (uj s out):=Rev.Ti (cN hs);have hB:Rev.tO t.2.2 t.2.1 out (uj t out):=Rev.Ti (cN ht);have hq:=(hA.mem q.1 q.2).1 (by rw[h];exact List.mem_cons_self)
 (have hi:Rev.zw t.2.2 t.2.1 out q.1 q.2:=by rw[ha];exact Rev.Jk wi hq.1.1);obtain⟨d,hd,hm⟩:=aF4 (cN ht) _ q.2 (Nat.le_refl _) hi;have mA:=(hB.mem q.1 d).2 ⟨hm,hq.2⟩
 cases hC:uj t out with|nil=>rw[hC]at mA;cases mA|cons q' L'=>refine⟨q',L',rfl,?_⟩;rw[hC]at mA;rcases List.mem_cons.1 mA with h1|h1;(·rw[←h1];exact hd);·have aF5:=hB.Jd;rw[hC]at aF5;have:=Rev.ln.1 ((List.pairwise_cons.1 aF5).1 _ h1);dsimp only at this;omega
theorem aE9(k:Int): ∀d,d≤1→((bE k).2.2.drop d).any jX=true:=by unfold bE;(repeat' split);all_goals intro d hd;rcases(by omega:d=0∨d=1)with rfl|rfl<;>decide
theorem aE8(n:Int) {r:Rl} : ∀(xs:List wB)(out:List Rl),r∈out→r∈ee n xs out:=by
 intro xs;induction xs with|nil=>exact fun _ h=>h|cons y ys ih=>intro out h;refine ih _ ?_;unfold ft;split;(·exact List.mem_append_left _ h);·exact h
theorem aF3(x:AS):(e9 x).2.2≠ []:=by
 intro h0;have:=aE9 x.1 (x.2.1%2).toNat (by omega);obtain⟨r,hr,hk⟩:=List.any_eq_true.1 this;have hm:r∈(e9 x).2.2:=List.mem_filter.2 ⟨aE8 _ _ _ hr,hk⟩;rw[h0]at hm
 cases hm
theorem aF0(x:AS)(l:List Int)(r:wB):PC env 6 [⟨iO,x⟩,⟨.sl (.int .u8),l⟩,⟨eF,r⟩] .bool true:=by
 refine PC.aJ (m:=2000) ag aD3 rfl rfl rfl rfl (by kernel_rfl) ?_;intro hx;simp only[Try.f6];simp only[go_sem,zA,↓reduceIte,↓reduceDIte,zB,zC,zD,zE,zF,zG,zH,zI]
 obtain⟨ck,UI,aF6⟩:=NZ x;(have hv:(dv (e9 x)).2=0:=by rw[Dp ck]);refine⟨_,JC,_,TK x,fun _=>?_⟩;have ht:bL (ly l 4)=true:=aq6 l 4 (by omega);have hn1:=ck.n1;have hC:=aE2 (e9 x) (ly l 4) ht▸pJ (e9 x) ck hv (ly l 4)
 have cu:=aF3 x;have oR:=fun t h1 h2 h3=> @aF2 (e9 x) t ck h1 h2 h3 (ly l 4);generalize e9 x=s at*;obtain⟨n,a,rs⟩:=s;have hM:=Ha r n (by omega);obtain⟨r1,r2,aD8,aD9,aE0⟩:=r
 generalize hm:cW _ n=m at hM;dsimp only at aF6 cu oR hn1 hM;(have pP:rs.length≤1099511627775:=by omega);(have tc:rs.length≤1099511627776:=by omega);refine⟨⟨⟨⟨cu,tc⟩,?_⟩,⟨cu,tc⟩,?_⟩,⟨cu,tc⟩,?_⟩
 all_goals refine⟨_,hM,fun _=>⟨pP,_,ao4 (n,a,rs++ [m]),?_⟩⟩;by_cases hvt:(dv (n,a,rs++ [m])).2=0;(·have okt:=ao2 hvt;have hC2:=aE2 (n,a,rs++ [m]) (ly l 4) ht▸pJ (n,a,rs++ [m]) okt hvt (ly l 4);have hg:=fun q L(hh:uj (n,a,rs) (ly l 4)=q::L)=>oR (n,a,rs++ [m]) okt rfl (fun r hr=>List.mem_append_left _ hr) hh;refine kz (b':=false) (by rw[decide_eq_true hvt];rfl) ?_;simp only[go_sem,zA,↓reduceIte,↓reduceDIte,zB,zC,zD,zE,zF,zG,zH,zI];refine⟨fun _=>?_,fun _=>?_⟩;(·trivial);·refine⟨_,aq9 l 4 (by omega),fun _=>⟨_,hC,fun _=>⟨_,hC2,fun _=>?_⟩⟩⟩;cases hA:uj (n,a,rs) (ly l 4)with|nil=>dsimp only;simp|cons q L=>obtain⟨q',L',h1,h2⟩:=hg q L hA;rw[h1];dsimp only;simp[h2]);·refine kz (b':=true) (by rw[decide_eq_false hvt];rfl) ?_;simp only[go_sem,zA,↓reduceIte,↓reduceDIte,zB,zC,zD,zE,zF,zG,zH,zI]
end Go.Proofs.Ytefpgfdemmllpaa
namespace Go.Proofs.Ytefpgfdemmllpaa
open Go.ChangeShapes Go.WideShapes Go.ChangeAt Go.RowKit
theorem aF1(xs:List (Sigma Ty.den))(h:xs.map (·.1)=[iO,.sl (.int .u8),eF]):PC env 6 xs .bool true:=by
 match xs,h with|[⟨_,y0⟩,⟨_,y1⟩,⟨_,y2⟩],h=>injection h with h1 h;injection h with h2 h;injection h with h3 h;dsimp only at h1 h2 h3;subst h1 h2 h3;exact aF0 y0 y1 y2
set_option maxRecDepth 100000 in theorem aE5(os:Os)(started:os.Started)(H:Type)(enc:TypeId×Value→H):ReturnsInHanded {} Try.checked os 6 .any (Rows.reverseGrowsSpec.pre6 enc Try.prog Try.f6 Rows.reverseGrowsRow.domain false) (Rows.reverseGrowsSpec.post enc Try.prog Try.f6 false true false false):=by
 refine returnsInHanded_of_change (C:=Try.checked) N2 started (by kernel_rfl) aD3 (ChangeSpec.witness6 (enc:=enc) (C:=Try.checked) false ⟨#[],#[.agg #[.int .u8 0,.int .u8 0,.slice none 0 0],.slice none 0 0,.agg #[.slice none 0 0,.slice none 0 0,.int .u8 0,.int .u8 0,.int .u8 0]],[]⟩ 8 (by kernel_rfl) (by kernel_rfl) (by kernel_rfl) (by kernel_rfl)) ?_
 intro W base args ds gs before og hW _ _;refine IM (E:=env) (b0:=base) (Ts:=[iO,.sl (.int .u8),eF]) (tb:=4) ag N3 (of_decide_eq_true (by kernel_rfl)) rfl rfl rfl (by kernel_rfl) rfl ?_ aF1 (fun g hg=>by cases hg) og hW
 intro ds hds;match ds,hds with|[d0,d1,d2],_=>rfl
theorem grows_holds:Rows.ReverseGrowsSaid:=OpenClaim.holds_of_wide 6 Try.f6 rfl rfl rfl rfl rfl rfl rfl ⟨rfl,rfl,rfl,rfl,rfl⟩ rfl rfl rfl rfl rfl (by kernel_rfl) aD3 (by kernel_rfl) (of_decide_eq_true (by kernel_rfl)) (by unfold Func.isWrapper;first|(rw[if_pos (by decide+kernel)];kernel_rfl)|(rw[if_neg (by decide+kernel)];exact⟨rfl,rfl⟩)) (fun os started H enc _=>aE5 os started H enc)
end Go.Proofs.Ytefpgfdemmllpaa
