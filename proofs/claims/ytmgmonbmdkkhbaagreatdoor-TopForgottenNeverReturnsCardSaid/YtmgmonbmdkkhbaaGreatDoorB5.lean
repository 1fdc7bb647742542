/- Contracts: an export. Nothing here is trusted; no condition. -/
import Derived.Test.YtmgmonbmdkkhbaaGreatDoorB4
set_option linter.unusedSimpArgs false
set_option linter.unusedVariables false
open Nat renaming reduceBEq→zA,reduceAdd→zB,reduceSub→zC,reduceMul→zD,reduceLeDiff→zE
open Int renaming reduceLT→zF,reduceLE→zG,reduceToNat→zH,reduceNeg→zI
namespace Go.Proofs.YtmgmonbmdkkhbaaGreatDoor
attribute[local go_sem←]Bool.decide_and Bool.decide_or decide_not
attribute[local go_sem]bO u3 nT dw Int.reduceEq not_true_eq_false not_false_eq_true false_implies List.append_assoc
open Go.Lib
set_option maxHeartbeats 4000000
set_option maxRecDepth 100000
theorem oF:bytesOf ⟨#[10]⟩=([10]:bq):=rfl
def mG(s:bq):Option Rec:=match dF jC zR s with|some r=>some r|none=>dF jJ zR s
def fU:Nat→bq→List Rec→List Rec×Int|0,_,l=>(l,-1)|n+1,s,l=>if s=[]then(l,-1)else if(Lib.cut s [10]).2.2=false then([],(l.length:Int))else(match mG (Lib.cut s [10]).1 with|none=>([],(l.length:Int))|some r=>fU n (Lib.cut s [10]).2.1 (l++ [r]))
def fv(s:bq):List Rec×Int:=fU (s.length+1) s []
theorem Bx {s:bq} (h:(Lib.cut s [10]).2.2=true):(Lib.cut s [10]).2.1.length<s.length∧(Lib.cut s [10]).1.length≤s.length:=by
 rcases nx 10 s with h'|⟨x,r,rfl,h'⟩;(·rw[Df h']at h;cases h);·rw[sK h'];simp;omega
theorem Rd(s:bq)(hs:s.length≤1000000000):PC env 37 [⟨.str,s⟩] (.aP (.sl ae) (.int .i64)) (fv s):=by
 refine PC.ao (m:=2000) ah JE rfl rfl rfl rfl (by kernel_rfl) ?_;intro hx;simp only[Tryz.f37];simp only[go_sem,zA,↓reduceIte,↓reduceDIte,zB,zC,zD,zE,zF,zG,zH,zI,oF]
 refine⟨_,u4,_,yN,?_⟩;simp only[go_sem,zA,↓reduceIte,↓reduceDIte,zB,zC,zD,zE,zF,zG,zH,zI,oF];refine av.aN [4,5] ?_;simp only[go_sem,zA,↓reduceIte,↓reduceDIte,zB,zC,zD,zE,zF,zG,zH,zI,oF]
 refine ZX ah ⟨_,JE,rfl⟩ 2000 _ _ (by kernel_rfl) ?_;simp only[go_sem,zA,↓reduceIte,↓reduceDIte,zB,zC,zD,zE,zF,zG,zH,zI,oF];refine av.cU (X:=Nat×bq×List Rec) (fun(z:Nat×bq×List Rec)=>[(0,.iv .str z.2.1),(6,.aI 47)]) (fun(z:Nat×bq×List Rec)=>[(47,.arr ae z.2.2)]) (fun(z:Nat×bq×List Rec)=>z.2.1.length<z.1∧z.2.1.length+z.2.2.length≤1000000000∧fU z.1 z.2.1 z.2.2=fv s) (fun(z:Nat×bq×List Rec)=>z.1) (s.length+1,s,[]) ?_
 intro b1 b2 ck cH;simp(config:= {maxSteps:=4000000})only[go_sem,zA,↓reduceIte,↓reduceDIte,zB,zC,zD,zE,zF,zG,zH,zI,oF]at ck cH;subst ck;subst cH;refine⟨(by refine⟨?_,?_,rfl,rfl⟩<;>repeat' (first|exact trivial|exact Or.inl rfl|exact Or.inr rfl|apply cV|apply cW|apply cX|apply cY|exact⟨(by show(_:Nat)<1000000000;omega),rfl,rfl⟩|rfl|(refine And.intro (Or.inl ?_) ?_)|(refine And.intro ?_ ?_))),?_,?_⟩
 (·exact⟨Nat.lt_succ_self _,hs,rfl⟩);intro⟨n,t,l⟩⟨h1,h2,h3⟩back;dsimp only at h1 h2 h3;obtain⟨m,rfl⟩: ∃m,n=m+1:=⟨n-1,by omega⟩;rw[fU]at h3;refine ay ah ⟨_,JE,rfl⟩ 2000 _ _ (by kernel_rfl) ?_
 simp only[go_sem,zA,↓reduceIte,↓reduceDIte,zB,zC,zD,zE,zF,zG,zH,zI,oF];refine⟨fun g=>?_,fun g=>?_⟩;(·rw[if_neg g]at h3;refine⟨_,Kd t [10] (by omega),fun _=>?_⟩;cases hc:(Lib.cut t [10]).2.2;(·rw[if_pos hc]at h3;simp only[go_sem,zA,↓reduceIte,↓reduceDIte,zB,zC,zD,zE,zF,zG,zH,zI,oF];exact h3);·rw[if_neg (by rw[hc];decide)]at h3;obtain⟨k1,k2⟩:=Bx hc;simp only[go_sem,zA,↓reduceIte,↓reduceDIte,zB,zC,zD,zE,zF,zG,zH,zI,oF];have r1:=Ko jC Gn (Lib.cut t [10]).1 (by omega);have r2:=Ko jJ Dk (Lib.cut t [10]).1 (by omega);unfold Km at r1 r2;unfold mG at h3;cases ha:dF jC zR (Lib.cut t [10]).1;(·rw[ha]at r1 h3;dsimp only at h3;refine⟨_,r1,fun _=>?_⟩;simp only[go_sem,zA,↓reduceIte,↓reduceDIte,zB,zC,zD,zE,zF,zG,zH,zI,oF];cases hb:dF jJ zR (Lib.cut t [10]).1;(·rw[hb]at r2 h3;refine⟨_,r2,fun _=>?_⟩;simp only[go_sem,zA,↓reduceIte,↓reduceDIte,zB,zC,zD,zE,zF,zG,zH,zI,oF];exact h3);·rename_i q;rw[hb]at r2 h3;refine⟨_,r2,fun _=>?_⟩;simp only[go_sem,zA,↓reduceIte,↓reduceDIte,zB,zC,zD,zE,zF,zG,zH,zI,oF];exact⟨by omega,back _ (m,(Lib.cut t [10]).2.1,l++ [q]) (by refine⟨?_,?_,rfl,rfl⟩<;>repeat' (first|exact trivial|exact Or.inl rfl|exact Or.inr rfl|apply cV|apply cW|apply cX|apply cY|exact⟨(by show(_:Nat)<1000000000;omega),rfl,rfl⟩|rfl|(refine And.intro (Or.inl ?_) ?_)|(refine And.intro ?_ ?_))) ⟨by dsimp only;omega,by simp only[List.length_append,List.length_cons,List.length_nil];omega,h3⟩ (by dsimp only;omega)⟩);·rename_i q;rw[ha]at r1 h3;refine⟨_,r1,fun _=>?_⟩;simp only[go_sem,zA,↓reduceIte,↓reduceDIte,zB,zC,zD,zE,zF,zG,zH,zI,oF];exact⟨by omega,back _ (m,(Lib.cut t [10]).2.1,l++ [q]) (by refine⟨?_,?_,rfl,rfl⟩<;>repeat' (first|exact trivial|exact Or.inl rfl|exact Or.inr rfl|apply cV|apply cW|apply cX|apply cY|exact⟨(by show(_:Nat)<1000000000;omega),rfl,rfl⟩|rfl|(refine And.intro (Or.inl ?_) ?_)|(refine And.intro ?_ ?_))) ⟨by dsimp only;omega,by simp only[List.length_append,List.length_cons,List.length_nil];omega,h3⟩ (by dsimp only;omega)⟩)
 ·(have g':t=[]:=by simpa using g);rw[if_pos g']at h3;exact h3
end Go.Proofs.YtmgmonbmdkkhbaaGreatDoor
namespace Go.Proofs.YtmgmonbmdkkhbaaGreatDoor
open Go.Lib
set_option maxHeartbeats 1000000
set_option maxRecDepth 100000
theorem KB {n:Int} (h0:0≤n)(h1:n≤9999999):rP (itoa n)=true∧(fu (itoa n):Int)=n:=by
 rw[eG h0];have hv:=Ka n.toNat;have hl:=yD 6 n.toNat (by omega);obtain⟨x,r,he,k1,k2⟩:=Kb n.toNat;refine⟨?_,by omega⟩;have hd:=sM n.toNat;simp only[rP,Bool.and_eq_true,decide_eq_true_eq]
 refine⟨⟨by rw[he];simp,by omega,fun⟨g1,g2⟩=>?_⟩,hd⟩;rw[he]at g1 g2;simp only[List.getElem?_cons_zero,Option.some.injEq,List.length_cons]at g1 g2;have:=k1 (fun e=>by rw[e]at g2;simp at g2)
 rw[g1]at this;exact absurd this (by decide)
theorem KC {s:bq} (h:rP s=true):itoa (fu s:Int)=s:=by
 simp only[rP,Bool.and_eq_true,decide_eq_true_eq]at h;obtain⟨⟨h1,h2,h3⟩,h4⟩:=h;rw[eG (by omega),Int.toNat_natCast];refine yE _ s rfl (fun e=>by rw[e]at h1;simp at h1) h4 (fun x r he hr=>?_)
 have hx:sL x=true:=List.all_eq_true.1 h4 x (by rw[he];simp);simp only[sL,decide_eq_true_eq]at hx;rcases Nat.lt_or_ge x.toNat 49 with cN|vG;(·exfalso;refine h3 ⟨?_,?_⟩;(·rw[he];simp only[List.getElem?_cons_zero,Option.some.injEq];exact UInt8.toNat_inj.1 (by rw[show(48:UInt8).toNat=48 from rfl];omega));·rw[he];cases r;(·exact absurd rfl hr);·simp)
 ·exact vG
theorem c7 {lo hi n:Int} {s:bq} (h0:0≤lo)(h1:hi≤9999999):eS lo hi s=some n↔(lo≤n∧n≤hi)∧s=itoa n:=by
 unfold eS;constructor;(·intro h;split at h;(·rename_i hh;injection h with h;subst h;exact⟨hh.2,(KC hh.1).symm⟩);·cases h);·rintro⟨⟨h2,h3⟩,rfl⟩;obtain⟨k1,k2⟩:=KB (n:=n) (by omega) (by omega);rw[if_pos ⟨k1,by omega,by omega⟩,k2]
def mH:List Nat→Rec→List bq→Option Rec|[],r,[]=>some r|f::fs,r,x::xs=>(match bV f r x with|some r'=>mH fs r' xs|none=>none)|_,_,_=>none
theorem vg: ∀(fs:List Nat)(r:Rec)(s:bq),fs≠ []→dF fs r s=mH fs r (nR 32 s)|[],_,_,h=>absurd rfl h|f::fs,r,s,_=>by rcases nx 32 s with h|⟨x,t,rfl,h⟩;(·rw[dF,Df h,uW 32 h,mH];dsimp only;cases fs with|nil=>cases hf:bV f r s<;>simp[dF,mH,hf]|cons g gs=>rw[if_neg (by simp)];cases bV f r s<;>rfl);·rw[dF,sK h,mC 32 t h,mH];dsimp only;cases fs with|nil=>rw[if_neg (by simp)];cases bV f r x;(·rfl);(·cases hh:nR 32 t;(·exact absurd hh (De _ _));·rfl)|cons g gs=>rw[if_pos (by simp)];cases hh:bV f r x;(·rfl);·exact vg (g::gs) _ t (by simp)
theorem ke(n:Int)(h0:0≤n):(32:UInt8)∉itoa n:=by rw[eG h0];exact j7 (p:=sL) (by decide) (sM _)
theorem kf(n:Int)(h0:0≤n):(10:UInt8)∉itoa n:=by rw[eG h0];exact j7 (p:=sL) (by decide) (sM _)
theorem Sv:ze 32=false:=by decide
theorem Sw:ze 10=false:=by decide
theorem mI {s:bq} (h:ej s=true):s.all ze=true:=by simp only[ej,Bool.and_eq_true]at h;exact h.2
theorem By {r:Rec} (h:aD r=true):nR 32 (c9 r)=[itoa r.1,itoa r.2.1,itoa r.2.2.1,r.2.2.2.1,itoa r.2.2.2.2.1,itoa r.2.2.2.2.2]:=by
 obtain⟨h1,h2,h3,h4,h5,h6⟩:=dS h;refine uX 32 (by simp) (fun x hx=>?_);simp only[List.mem_cons,List.not_mem_nil,or_false]at hx;rcases hx with rfl|rfl|rfl|rfl|rfl|rfl
 (·exact ke _ (by omega));(·exact ke _ (by omega));(·exact ke _ (by omega));(·exact j7 Sv (mI h4));(·exact ke _ (by omega));·exact ke _ (by omega)
theorem KD {r:Rec} (h:(0≤r.1∧r.1≤7)∧(1≤r.2.1∧r.2.1≤1000000)∧(0≤r.2.2.1∧r.2.2.1≤10000)∧ej r.2.2.2.1=true∧(0≤r.2.2.2.2.1∧r.2.2.2.2.1≤7)∧(1≤r.2.2.2.2.2∧r.2.2.2.2.2≤1000)):aD r=true:=by
 simp only[aD,Bool.and_eq_true,decide_eq_true_eq];exact⟨⟨h.1,h.2.1,h.2.2.1⟩,h.2.2.2.1,h.2.2.2.2.1,h.2.2.2.2.2⟩
theorem xg(l:List bq)(r:Rec):mH jC zR l=some r↔aD r=true∧l=[itoa r.1,itoa r.2.1,itoa r.2.2.1,r.2.2.2.1,itoa r.2.2.2.2.1,itoa r.2.2.2.2.2]:=by
 constructor;(·intro h;unfold jC at h;rcases l with _|⟨a,_|⟨b,_|⟨c,_|⟨d,_|⟨e,_|⟨f,_|⟨g,l⟩⟩⟩⟩⟩⟩⟩<;>simp only[mH]at h;(all_goals(try(cases h;done)));(all_goals(split at h<;>try(cases h;done)));(all_goals(rename_i r1 g1;obtain⟨n1,h1,rfl⟩:=fv0 g1));(all_goals(try(cases h;done)));(all_goals(split at h<;>try(cases h;done)));(all_goals(rename_i r1 g2;obtain⟨n2,h2,rfl⟩:=fv1 g2));(all_goals(try(cases h;done)));(all_goals(split at h<;>try(cases h;done)));(all_goals(rename_i r1 g3;obtain⟨n3,h3,rfl⟩:=fv2 g3));(all_goals(try(cases h;done)));(all_goals(split at h<;>try(cases h;done)));(all_goals(rename_i r1 g4;obtain⟨h4,rfl⟩:=fv3 g4));(all_goals(try(cases h;done)));(all_goals(split at h<;>try(cases h;done)));(all_goals(rename_i r1 g5;obtain⟨n5,h5,rfl⟩:=fv4 g5));(all_goals(try(cases h;done)));(all_goals(split at h<;>try(cases h;done)));(all_goals(rename_i r1 g6;obtain⟨n6,h6,rfl⟩:=fv5 g6));(all_goals(try(cases h;done)));injection h with h;subst h;rw[c7 (by decide) (by decide)]at h1 h2 h3 h5 h6;refine⟨KD ⟨h1.1,h2.1,h3.1,h4,h5.1,h6.1⟩,?_⟩;rw[h1.2,h2.2,h3.2,h5.2,h6.2])
 ·rintro⟨h,rfl⟩;obtain⟨h1,h2,h3,h4,h5,h6⟩:=dS h;have k1:=(c7 (s:=itoa r.1) (Int.le_refl 0) (by decide:(7:Int)≤9999999)).2 ⟨h1,rfl⟩;have k2:=(c7 (s:=itoa r.2.1) (by decide:(0:Int)≤1) (by decide:(1000000:Int)≤9999999)).2 ⟨h2,rfl⟩;have k3:=(c7 (s:=itoa r.2.2.1) (Int.le_refl 0) (by decide:(10000:Int)≤9999999)).2 ⟨h3,rfl⟩;have k5:=(c7 (s:=itoa r.2.2.2.2.1) (Int.le_refl 0) (by decide:(7:Int)≤9999999)).2 ⟨h5,rfl⟩;have k6:=(c7 (s:=itoa r.2.2.2.2.2) (by decide:(0:Int)≤1) (by decide:(1000:Int)≤9999999)).2 ⟨h6,rfl⟩;simp only[jC,mH,bV,Nat.reduceEqDiff,if_true,if_false,k1,k2,k3,k5,k6,h4]
theorem nB(s:bq)(r:Rec):dF jC zR s=some r↔aD r=true∧c9 r=s:=by
 rw[vg _ _ _ (by decide),xg];constructor;(·rintro⟨h1,h2⟩;refine⟨h1,?_⟩;rw[←nw 32 s,h2];rfl);·rintro⟨h1,rfl⟩;exact⟨h1,By h1⟩
def rT(w:bq)(n:Int):bq:=w++32::itoa n
theorem vj(l:List bq)(r:Rec):mH jJ zR l=some r↔(ej r.2.2.2.1=true∧1≤r.2.2.2.2.2∧r.2.2.2.2.2≤1000∧r=(0,0,0,r.2.2.2.1,0,r.2.2.2.2.2))∧l=[r.2.2.2.1,itoa r.2.2.2.2.2]:=by
 constructor;(·intro h;unfold jJ at h;rcases l with _|⟨a,_|⟨b,_|⟨c,l⟩⟩⟩<;>simp only[mH]at h;(all_goals(try(cases h;done)));(all_goals(split at h<;>try(cases h;done)));(all_goals(rename_i r1 g4;obtain⟨h4,rfl⟩:=fv3 g4));(all_goals(try(cases h;done)));(all_goals(split at h<;>try(cases h;done)));(all_goals(rename_i r1 g6;obtain⟨n6,h6,rfl⟩:=fv5 g6));(all_goals(try(cases h;done)));injection h with h;subst h;rw[c7 (by decide) (by decide)]at h6;refine⟨⟨h4,h6.1.1,h6.1.2,rfl⟩,?_⟩;rw[h6.2])
 ·rintro⟨⟨h4,h5,h6,h7⟩,rfl⟩;have k6:=(c7 (s:=itoa r.2.2.2.2.2) (by decide:(0:Int)≤1) (by decide:(1000:Int)≤9999999)).2 ⟨⟨h5,h6⟩,rfl⟩;simp only[jJ,mH,bV,Nat.reduceEqDiff,if_true,if_false,k6,h4];(conv=>rhs;rw[h7]);rfl
theorem Bz(s:bq)(r:Rec):dF jJ zR s=some r↔(ej r.2.2.2.1=true∧1≤r.2.2.2.2.2∧r.2.2.2.2.2≤1000∧r=(0,0,0,r.2.2.2.1,0,r.2.2.2.2.2))∧rT r.2.2.2.1 r.2.2.2.2.2=s:=by
 rw[vg _ _ _ (by decide),vj];constructor;(·rintro⟨h1,h2⟩;refine⟨h1,?_⟩;rw[←nw 32 s,h2];rfl);·rintro⟨h1,rfl⟩;refine⟨h1,?_⟩;show nR 32 (fR 32 [r.2.2.2.1,itoa r.2.2.2.2.2])=_;refine uX 32 (by simp) (fun x hx=>?_);simp only[List.mem_cons,List.not_mem_nil,or_false]at hx;rcases hx with rfl|rfl;(·exact j7 Sv (mI h1.1));·exact ke _ (by omega)
theorem Dt {r:Rec} (h:aD r=true):dF jC zR (c9 r)=some r:=(nB _ _).2 ⟨h,rfl⟩
theorem vk {r:Rec} (h:aD r=true):mG (c9 r)=some r:=by unfold mG;rw[Dt h]
theorem Du {w:bq} {n:Int} (h:ej w=true)(h1:1≤n)(h2:n≤1000):mG (rT w n)=some (0,0,0,w,0,n):=by
 have hl:dF jJ zR (rT w n)=some (0,0,0,w,0,n):=(Bz _ _).2 ⟨⟨h,h1,h2,rfl⟩,rfl⟩;unfold mG;cases hr:dF jC zR (rT w n)with|none=>exact hl|some q=>exfalso;rw[vg _ _ _ (by decide),xg]at hr;rw[vg _ _ _ (by decide),vj]at hl;rw[hl.2]at hr;exact absurd (congrArg List.length hr.2) (by simp)
def said(r:Rec):Prop:=aD r=true∨(r.2.1=0∧ej r.2.2.2.1=true∧1≤r.2.2.2.2.2∧r.2.2.2.2.2≤1000∧r=(0,0,0,r.2.2.2.1,0,r.2.2.2.2.2))
theorem Dv {s:bq} {r:Rec} (h:mG s=some r):said r:=by
 unfold mG at h;cases hr:dF jC zR s with|some q=>rw[hr]at h;injection h with h;subst h;exact .inl ((nB _ _).1 hr).1|none=>rw[hr]at h;obtain⟨⟨h1,h2,h3,h4⟩,_⟩:=(Bz _ _).1 h;exact .inr ⟨by rw[h4],h1,h2,h3,h4⟩
theorem rU: ∀(n:Nat)(s:bq)(l:List Rec),(∀r,r∈l→said r)→ ∀r,r∈(fU n s l).1→said r|0,_,l,h,r,hr=>h r hr|n+1,s,l,h,r,hr=>by rw[fU]at hr;split at hr;(·exact h r hr);·split at hr;(·cases hr);·split at hr;(·cases hr);·rename_i q hq;refine rU n _ _ (fun r' lV=>?_) r hr;rcases List.mem_append.1 lV with h'|h';(·exact h r' h');·rw[List.mem_singleton.1 h'];exact Dv hq
theorem vm: ∀(n:Nat)(s:bq)(l:List Rec),(fU n s l).1.length≤s.length+l.length|0,s,l=>(by rw[fU];exact Nat.le_add_left _ _)|n+1,s,l=>by rw[fU];split;(·exact Nat.le_add_left _ _);·split;(·exact Nat.zero_le _);·rename_i hc;split;(·exact Nat.zero_le _);·have h1:=vm n (Lib.cut s [10]).2.1 (l++ [‹Rec›]);have h2:=(Bx (s:=s) (by simpa using hc)).1;simp only[List.length_append,List.length_cons,List.length_nil]at h1;omega
end Go.Proofs.YtmgmonbmdkkhbaaGreatDoor
namespace Go.Proofs.YtmgmonbmdkkhbaaGreatDoor
attribute[local go_sem←]Bool.decide_and Bool.decide_or decide_not
attribute[local go_sem]nT dw Int.reduceEq not_true_eq_false not_false_eq_true false_implies QP
open Go.Lib
set_option maxHeartbeats 4000000
set_option maxRecDepth 100000
def lp(d e:Int)(v:cn)(r:Rec):cn×Int:=if r.2.1=0 then((bY v (d,r.2.1,e,r.2.2.2)).1,(bY v (d,r.2.1,e,r.2.2.2)).2.2)else fT v r
def se(d e:Int)(u:cn):Nat→cn→List Rec→cn×Int×Int|_,v,[]=>(v,(v.1.length:Int)-(u.1.length:Int),0)|i,v,r::rs=>if(lp d e v r).2=0 then se d e u (i+1) (lp d e v r).1 rs else(u,(i:Int),(lp d e v r).2)
def gA(u:cn)(s:bq)(d e:Int):cn×Int×Int:=if d<0∨8≤d∨e<0∨10000<e then(u,0,1)else if 0≤(fv s).2 then(u,(fv s).2,3)else se d e u 0 u (fv s).1
theorem Dw(v:cn)(r:Rec):(bY v r).1.1.length≤max v.1.length 400:=by
 unfold bY;split;(·split;(·exact Nat.le_max_left ..);·dsimp only;split;(·exact Nat.le_max_left ..);·rw[dY (gU _ _ _)];omega);·exact Nat.le_max_left ..
theorem Gw(v:cn)(r:Rec):(fT v r).1.1.length≤max v.1.length 400:=by unfold fT;(repeat' split);all_goals first|exact Nat.le_max_left .. |(dsimp only;rw[dY (gU _ _ _)];omega)
theorem Gx(d e:Int)(v:cn)(r:Rec):(lp d e v r).1.1.length≤max v.1.length 400:=by unfold lp;split;(·exact Dw _ _);·exact Gw _ _
theorem KE(u:cn)(s:bq)(d e:Int)(hs:s.length≤1000000000)(hu:u.1.length≤1000):PC env 11 [⟨az,u⟩,⟨.str,s⟩,⟨.int .i64,d⟩,⟨.int .i64,e⟩] (.aP az (.aP (.int .i64) (.int .i64))) (gA u s d e):=by
 refine PC.ao (m:=2000) ah R9 rfl rfl rfl rfl (by kernel_rfl) ?_;intro hx;simp only[Tryz.f11];simp only[go_sem,zA,↓reduceIte,↓reduceDIte,zB,zC,zD,zE,zF,zG,zH,zI]
 have KF:(d<0∨8≤d∨e<0∨10000<e)→(u,(0:Int),(1:Int))=gA u s d e:=fun h=>(if_pos h).symm;refine⟨fun h1=>⟨fun h2=>⟨fun h3=>⟨fun h4=>KF (by omega),fun h4=>?_⟩,fun h3=>KF (by omega)⟩,fun h2=>KF (by omega)⟩,fun h1=>KF (by omega)⟩
 have hR:gA u s d e=if 0≤(fv s).2 then(u,(fv s).2,3)else se d e u 0 u (fv s).1:=if_neg (by omega);clear KF;rw[hR];refine⟨_,Rd s hs,fun _=>⟨fun g=>by rw[if_pos g],fun g=>?_⟩⟩
 rw[if_neg g];have hl:=vm (s.length+1) s [];have KG:=rU (s.length+1) s [] (by simp);change(fv s).1.length≤s.length+0 at hl;change∀r,r∈(fv s).1→said r at KG;generalize(fv s).1=l at hl KG
 clear hR g hx;refine av.cU (X:=Nat×cn) (fun(z:Nat×cn)=>[(44,.iv (.int .i64) (z.1:Int))]) (fun(z:Nat×cn)=>[(13,.box [.iv (.sl ae) z.2.1,.iv (.sl ak) z.2.2.1,.iv (.int .i64) z.2.2.2.1,.iv (.int .i64) z.2.2.2.2.1,.iv (.int .i64) z.2.2.2.2.2.1,.iv (.int .i64) z.2.2.2.2.2.2.1,.iv (.int .i64) z.2.2.2.2.2.2.2.1,.iv (.int .i64) z.2.2.2.2.2.2.2.2.1,.iv (.int .i64) z.2.2.2.2.2.2.2.2.2.1,.iv (.int .i64) z.2.2.2.2.2.2.2.2.2.2])]) (fun(z:Nat×cn)=>z.1≤l.length∧z.2.1.length≤1000∧se d e u z.1 z.2 (l.drop z.1)=se d e u 0 u l) (fun(z:Nat×cn)=>l.length-z.1) (0,u) ?_
 intro b1 b2 ck cH;simp(config:= {maxSteps:=4000000})only[go_sem,zA,↓reduceIte,↓reduceDIte,zB,zC,zD,zE,zF,zG,zH,zI]at ck cH;subst ck;subst cH;refine⟨(by refine⟨?_,?_,rfl,rfl⟩<;>repeat' (first|exact trivial|exact Or.inl rfl|exact Or.inr rfl|apply cV|apply cW|apply cX|apply cY|exact⟨(by show(_:Nat)<1000000000;omega),rfl,rfl⟩|rfl|(refine And.intro (Or.inl ?_) ?_)|(refine And.intro ?_ ?_))),?_,?_⟩
 (·exact⟨Nat.zero_le _,hu,rfl⟩);intro⟨i,v⟩⟨k1,k2,k3⟩back;dsimp only at k1 k2 k3;refine ay ah ⟨_,R9,rfl⟩ 2000 _ _ (by kernel_rfl) ?_;simp only[go_sem,zA,↓reduceIte,↓reduceDIte,zB,zC,zD,zE,zF,zG,zH,zI]
 refine⟨fun cN=>?_,fun vG=>?_⟩;(·obtain⟨r,hr⟩: ∃r,l[i]?=some r:=ax (by omega);rw[drop_cons hr,se]at k3;have hlen:=Gx d e v r;have HF:=KG r (List.mem_of_getElem? hr);refine⟨Int.natCast_nonneg _,r,hr,fun g0=>?_,fun g0=>?_⟩;(·have fW:lp d e v r=((bY v (d,r.2.1,e,r.2.2.2)).1,(bY v (d,r.2.1,e,r.2.2.2)).2.2):=if_pos g0;rw[fW]at k3 hlen;refine⟨_,EK v (d,r.2.1,e,r.2.2.2),fun _=>⟨fun g1=>?_,fun g1=>?_⟩⟩;(·rw[if_neg g1]at k3;exact k3);·rw[if_pos g1]at k3;exact⟨aH (by omega) (by omega),back _ (i+1,(bY v (d,r.2.1,e,r.2.2.2)).1) (by refine⟨?_,?_,rfl,rfl⟩<;>repeat' (first|exact trivial|exact Or.inl rfl|exact Or.inr rfl|apply cV|apply cW|apply cX|apply cY|exact⟨(by show(_:Nat)<1000000000;omega),rfl,rfl⟩|rfl|(refine And.intro (Or.inl ?_) ?_)|(refine And.intro ?_ ?_))) ⟨by dsimp only;omega,by dsimp only at hlen⊢;omega,k3⟩ (by dsimp only;omega)⟩);·have fW:lp d e v r=fT v r:=if_neg g0;rw[fW]at k3 hlen;(have hd:0≤r.1∧r.1≤7:=by rcases HF with h|h;(·exact fQ h);·exact absurd h.1 g0);refine⟨_,Gp v r (by omega) hd,fun _=>⟨fun g1=>?_,fun g1=>?_⟩⟩;(·rw[if_neg g1]at k3;exact k3);·rw[if_pos g1]at k3;exact⟨aH (by omega) (by omega),back _ (i+1,(fT v r).1) (by refine⟨?_,?_,rfl,rfl⟩<;>repeat' (first|exact trivial|exact Or.inl rfl|exact Or.inr rfl|apply cV|apply cW|apply cX|apply cY|exact⟨(by show(_:Nat)<1000000000;omega),rfl,rfl⟩|rfl|(refine And.intro (Or.inl ?_) ?_)|(refine And.intro ?_ ?_))) ⟨by dsimp only;omega,by dsimp only at hlen⊢;omega,k3⟩ (by dsimp only;omega)⟩)
 ·rw[List.drop_of_length_le (by omega),se]at k3;rw[←k3];exact⟨aH (by omega) (by omega),rfl⟩
end Go.Proofs.YtmgmonbmdkkhbaaGreatDoor
namespace Go.Proofs.YtmgmonbmdkkhbaaGreatDoor
open Go.Lib
set_option maxHeartbeats 4000000
set_option maxRecDepth 100000
def Sx(s:bq):Prop:=s[0]?=some 48∧1<s.length
instance(s:bq):Decidable (Sx s):=inferInstanceAs(Decidable (_∧_))
def mJ(s:bq):Int:=if s≠ []∧s.all sL=true∧ ¬Sx s∧fu s≤1000000 then(fu s:Int)else-1
theorem Yp(s:bq)(i:Nat):fu (s.take i)≤fu s:=by(conv=>rhs;rw[←List.take_append_drop i s]);unfold fu;rw[List.foldl_append];exact uY _ _
theorem vn {s:bq} {n:Int} (h:eS 0 1000000 s=some n):mJ s=n:=by
 unfold eS at h;split at h;(·rename_i hh;injection h with h;obtain⟨k1,k2,k3⟩:=hh;simp only[rP,Bool.and_eq_true,decide_eq_true_eq]at k1;unfold mJ;rw[if_pos ⟨fun e=>by rw[e]at k1;simp at k1,k1.2,k1.1.2.2,by omega⟩,h])
 ·cases h
theorem Re {s:bq} (h:0≤mJ s):eS 0 1000000 s=some (mJ s):=by
 unfold mJ at h⊢;split at h;(case isFalse=>omega);rename_i hh;rw[if_pos hh];obtain⟨h1,h2,h3,h4⟩:=hh;have he:decDigits (fu s)=s:=yE _ s rfl h1 h2 (fun x r he hr=>by have hx:sL x=true:=List.all_eq_true.1 h2 x (by rw[he];simp);simp only[sL,decide_eq_true_eq]at hx;rcases Nat.lt_or_ge x.toNat 49 with cN|vG;(·exfalso;refine h3 ⟨?_,?_⟩;(·rw[he];simp only[List.getElem?_cons_zero,Option.some.injEq];exact UInt8.toNat_inj.1 (by rw[show(48:UInt8).toNat=48 from rfl];omega));·rw[he];cases r;(·exact absurd rfl hr);·simp);·exact vG)
 refine(c7 (Int.le_refl 0) (by decide)).2 ⟨⟨by omega,by omega⟩,?_⟩;rw[eG (by omega),Int.toNat_natCast,he]
def Dx(l:List bq):Rec:=(mJ (l.getD 0 []),mJ (l.getD 1 []),mJ (l.getD 2 []),l.getD 3 [],mJ (l.getD 4 []),mJ (l.getD 5 []))
def KH(s:bq):Rec×Int:=if(nR 32 s).length=6∧aD (Dx (nR 32 s))=true then(Dx (nR 32 s),0)else(zR,3)
theorem ak7: ∀(s:bq)(x:bq),x∈nR 32 s→x.length≤s.length:=by
 intro s;induction hn:s.length using Nat.strongRecOn generalizing s with|_ n ih=>intro x hx;rcases nx 32 s with h|⟨y,t,rfl,h⟩;(·rw[uW 32 h]at hx;rw[List.mem_singleton.1 hx];omega);·rw[mC 32 t h]at hx;simp only[List.length_append,List.length_cons]at hn;rcases List.mem_cons.1 hx with rfl|hx;(·omega);·have:=ih t.length (by omega) t rfl x hx;omega
theorem XS(s:bq):KH s=Kp s:=by
 unfold KH Kp;cases h:dF jC zR s with|some r=>obtain⟨h1,rfl⟩:=(nB _ _).1 h;obtain⟨k1,k2,k3,k4,k5,k6⟩:=dS h1;have hs:=By h1;(have e:Dx (nR 32 (c9 r))=r:=by rw[hs];unfold Dx;have q1:mJ (itoa r.1)=r.1:=vn ((c7 (Int.le_refl 0) (by decide)).2 ⟨⟨by omega,by omega⟩,rfl⟩);have q2:mJ (itoa r.2.1)=r.2.1:=vn ((c7 (Int.le_refl 0) (by decide)).2 ⟨⟨by omega,by omega⟩,rfl⟩);have q3:mJ (itoa r.2.2.1)=r.2.2.1:=vn ((c7 (Int.le_refl 0) (by decide)).2 ⟨⟨by omega,by omega⟩,rfl⟩);have q5:mJ (itoa r.2.2.2.2.1)=r.2.2.2.2.1:=vn ((c7 (Int.le_refl 0) (by decide)).2 ⟨⟨by omega,by omega⟩,rfl⟩);have q6:mJ (itoa r.2.2.2.2.2)=r.2.2.2.2.2:=vn ((c7 (Int.le_refl 0) (by decide)).2 ⟨⟨by omega,by omega⟩,rfl⟩);simp only[List.getD_cons_zero,List.getD_cons_succ,q1,q2,q3,q5,q6]);rw[e,if_pos ⟨by rw[hs];rfl,h1⟩]|none=>rw[if_neg];rintro⟨h1,h2⟩;(have hx:c9 (Dx (nR 32 s))=s:=by obtain⟨k1,k2,k3,k4,k5,k6⟩:=dS h2;(conv=>rhs;rw[←nw 32 s]);generalize nR 32 s=l at h1 k1 k2 k3 k4 k5 k6;rcases l with _|⟨a,_|⟨b,_|⟨c,_|⟨d,_|⟨e,_|⟨f,_|⟨g',l⟩⟩⟩⟩⟩⟩⟩;(all_goals first|(exfalso;simp only[List.length_cons,List.length_nil]at h1;omega)|skip);have num: ∀x:bq,0≤mJ x→itoa (mJ x)=x:=fun x h=>((c7 (Int.le_refl 0) (by decide)).1 (Re h)).2.symm;simp only[Dx,List.getD_cons_zero,List.getD_cons_succ]at k1 k2 k3 k5 k6;unfold c9;simp only[Dx,List.getD_cons_zero,List.getD_cons_succ];rw[num a (by omega),num b (by omega),num c (by omega),num e (by omega),num f (by omega)]);rw[(nB s _).2 ⟨h2,hx⟩]at h;cases h
def Sy(l:List (Int×Int)):bq:=(l.map fun p=>rT (sa p.1) (1+p.2)++ [10]).flatten
theorem Gy {α:Type} {l:List α} {k:Nat} {x:α} (f:α→bq)(h:l[k]?=some x):((l.take (k+1)).map f).flatten=((l.take k).map f).flatten++f x:=by rw[bA h];simp
theorem BA {α:Type} (f:α→bq)(b:Nat): ∀(l:List α),(∀x,x∈l→(f x).length≤b)→((l.map f).flatten).length≤b*l.length|[],_=>(by simp)|a::l,h=>by have h1:=BA f b l (fun x hx=>h x (by simp[hx]));have h2:=h a (by simp);simp only[List.map_cons,List.flatten_cons,List.length_append,List.length_cons,Nat.mul_succ];omega
theorem aj0(n:Int):(sa n).length≤2:=by unfold sa ER;(have h4:n%4=0∨n%4=1∨n%4=2∨n%4=3:=by omega);rcases h4 with h|h|h|h<;>rw[h]<;>decide
def BB(x:fZ):Rec:=((oy x).1,1+x.1%9,(oy x).2.2)
def KI(l:List fZ):bq:=(l.map fun x=>c9 (BB x)++ [10]).flatten
theorem rV {x:fZ} (h:dE.ok x):aD (BB x)=true:=nu (kZ h) (by have:=(kY h).1;omega) (by have:=(kY h).1;omega)
end Go.Proofs.YtmgmonbmdkkhbaaGreatDoor
namespace Go.Proofs.YtmgmonbmdkkhbaaGreatDoor
set_option maxHeartbeats 1000000
section
variable {α:Type} {lt:α→α→Bool}
def sg(lt:α→α→Bool)(l:List α):Prop:=l.Pairwise (fun x y=>lt x y=true)
theorem KJ {l:List α} (h:sg lt l) {i j:Nat} {x y:α} (hi:l[i]?=some x)(hj:l[j]?=some y)(dG:i<j):lt x y=true:=by
 unfold sg at h;rw[List.pairwise_iff_getElem]at h;obtain⟨h1,rfl⟩:=List.getElem?_eq_some_iff.1 hi;obtain⟨h2,rfl⟩:=List.getElem?_eq_some_iff.1 hj;exact h i j h1 h2 dG
theorem ql(hi: ∀x,lt x x=false)(ht: ∀x y z,lt x y=true→lt y z=true→lt x z=true): ∀ {l m:List α},sg lt l→sg lt m→(∀x,x∈l↔x∈m)→l=m|[],[],_,_,_=>rfl|[],b::r,_,_,h=>((List.not_mem_nil (a:=b)) ((h b).2 (List.mem_cons_self ..))).elim|a::r,[],_,_,h=>((List.not_mem_nil (a:=a)) ((h a).1 (List.mem_cons_self ..))).elim|a::r,b::s,h1,h2,h=>by obtain⟨p1,q1⟩:=List.pairwise_cons.1 h1;obtain⟨p2,q2⟩:=List.pairwise_cons.1 h2;(have e:a=b:=by rcases List.mem_cons.1 ((h a).1 (List.mem_cons_self ..))with e|ha;(·exact e);·rcases List.mem_cons.1 ((h b).2 (List.mem_cons_self ..))with e|hb;(·exact e.symm);·have:=ht _ _ _ (p1 b hb) (p2 a ha);rw[hi]at this;cases this);subst e;congr 1;refine ql hi ht q1 q2 fun x=>⟨fun hx=>?_,fun hx=>?_⟩;(·rcases List.mem_cons.1 ((h x).1 (List.mem_cons_of_mem _ hx))with rfl|jH;(·have:=p1 x hx;rw[hi]at this;cases this);·exact jH);·rcases List.mem_cons.1 ((h x).2 (List.mem_cons_of_mem _ hx))with rfl|jH;(·have:=p2 x hx;rw[hi]at this;cases this);·exact jH
theorem qm(x y:α): ∀ {r:List α},y∈jb lt r x↔y=x∨y∈r|[]=>(by simp[jb])|a::r=>by unfold jb;split;(·rw[List.mem_cons,qm x y (r:=r),List.mem_cons];constructor;(·rintro(h|h|h);(·exact .inr (.inl h));(·exact .inl h);·exact .inr (.inr h));·rintro(h|h|h);(·exact .inr (.inl h));(·exact .inl h);·exact .inr (.inr h));·rw[List.mem_cons]
theorem xh(y:α): ∀ {xs r:List α},y∈xs.foldl (jb lt) r↔y∈r∨y∈xs|[],r=>(by simp)|x::xs,r=>by rw[List.foldl_cons,xh y,qm,List.mem_cons];constructor;(·rintro((h|h)|h);(·exact .inr (.inl h));(·exact .inl h);·exact .inr (.inr h));·rintro(h|h|h);(·exact .inl (.inr h));(·exact .inl (.inl h));·exact .inr h
theorem xi(xs:List α)(y:α):y∈nO lt xs↔y∈xs:=by unfold nO;rw[List.mem_reverse,xh];simp
theorem yR(xs:List α):(nO lt xs).length=xs.length:=by unfold nO;rw[List.length_reverse,jB];simp
theorem BC(ht: ∀x y z,lt x y=true→lt y z=true→lt x z=true)(x:α): ∀ {r:List α},r.Pairwise (fun a b=>lt b a=true)→(∀y,y∈r→lt x y=true∨lt y x=true)→(jb lt r x).Pairwise (fun a b=>lt b a=true)|[],_,_=>List.pairwise_singleton .. |a::r,h,ha=>by obtain⟨h1,h2⟩:=List.pairwise_cons.1 h;unfold jb;split;(·rename_i hx;refine List.Pairwise.cons (fun b hb=>?_) (BC ht x h2 fun y hy=>ha y (List.mem_cons_of_mem _ hy));rcases(qm x b).1 hb with rfl|hb;(·exact hx);·exact h1 b hb);·rename_i hx;have hax:lt a x=true:=(ha a (List.mem_cons_self ..)).resolve_left hx;refine List.Pairwise.cons (fun b hb=>?_) h;rcases List.mem_cons.1 hb with rfl|hb;(·exact hax);·exact ht _ _ _ (h1 b hb) hax
theorem xj(ht: ∀x y z,lt x y=true→lt y z=true→lt x z=true): ∀ {xs r:List α},r.Pairwise (fun a b=>lt b a=true)→xs.Pairwise (fun a b=>lt a b=true∨lt b a=true)→(∀x,x∈xs→ ∀y,y∈r→lt x y=true∨lt y x=true)→(xs.foldl (jb lt) r).Pairwise (fun a b=>lt b a=true)|[],_,h,_,_=>h|x::xs,r,h,hp,hx=>by obtain⟨p1,p2⟩:=List.pairwise_cons.1 hp;rw[List.foldl_cons];refine xj ht (BC ht x h (hx x (List.mem_cons_self ..))) p2 fun z hz y hy=>?_;rcases(qm x y).1 hy with rfl|hy;(·exact(p1 z hz).symm);·exact hx z (List.mem_cons_of_mem _ hz) y hy
theorem Gz(ht: ∀x y z,lt x y=true→lt y z=true→lt x z=true) {xs:List α} (hp:xs.Pairwise (fun a b=>lt a b=true∨lt b a=true)):sg lt (nO lt xs):=by
 unfold nO sg;rw[List.pairwise_reverse];exact xj ht List.Pairwise.nil hp fun x _ y hy=>(List.not_mem_nil hy).elim
def KK(lt:α→α→Bool)(l:List α)(x:α):List α:=cd l (l.takeWhile (fun y=>lt y x)).length x
theorem Yq(ht: ∀x y z,lt x y=true→lt y z=true→lt x z=true) {l:List α} {x:α} (h:sg lt l)(hx: ∀y,y∈l→lt x y=true∨lt y x=true):sg lt (KK lt l x):=by
 (have cN: ∀y,y∈l.take (l.takeWhile (fun y=>lt y x)).length→lt y x=true:=by intro y hy;obtain⟨i,hi⟩:=List.getElem?_of_mem hy;rw[List.getElem?_take]at hi;split at hi;(·rename_i cN;exact ow (q:=fun y=>lt y x) cN hi);·cases hi)
 (have vG: ∀y,y∈l.drop (l.takeWhile (fun y=>lt y x)).length→lt x y=true:=by intro y hy;obtain⟨i,hi⟩:=List.getElem?_of_mem hy;rw[List.getElem?_drop]at hi;obtain⟨z,hz⟩:=ax (xs:=l) (i:=(l.takeWhile (fun y=>lt y x)).length) (by have:=(List.getElem?_eq_some_iff.1 hi).1;omega);have hzf:=mz (q:=fun y=>lt y x) hz;have Xo:lt x z=true:=(hx z (List.mem_of_getElem? hz)).resolve_right (by rw[hzf];decide);cases i with|zero=>rw[Nat.add_zero,hz]at hi;injection hi with hi;subst hi;exact Xo|succ i=>refine ht _ _ _ Xo ?_;unfold sg at h;rw[List.pairwise_iff_getElem]at h;obtain⟨a1,rfl⟩:=List.getElem?_eq_some_iff.1 hz;obtain⟨a2,rfl⟩:=List.getElem?_eq_some_iff.1 hi;exact h _ _ a1 a2 (by omega))
 unfold KK cd sg;rw[List.pairwise_append];refine⟨List.Pairwise.sublist (List.take_sublist ..) h,List.Pairwise.cons vG (List.Pairwise.sublist (List.drop_sublist ..) h),fun a ha b hb=>?_⟩
 rcases List.mem_cons.1 hb with rfl|hb;(·exact cN a ha);·exact ht _ _ _ (cN a ha) (vG b hb)
end
/-! The order of the records that were seen. -/
theorem qn {x y:Rec} :qx x y=true↔(x.2.2.1<y.2.2.1∨x.2.2.1=y.2.2.1∧bI (a7 x) (a7 y)=true):=by
 unfold qx QS;rw[decide_eq_true_eq];have h1:=ns (a:=x.2.2.1) (b:=y.2.2.1);have h2:=uN (a:=x.2.2.1) (b:=y.2.2.1);have h3:=uO (x:=a7 x) (y:=a7 y);split;(·constructor;(·intro h;exact .inl (h2.1 h));·rintro(h|h);(·exact h2.2 h);·omega)
 ·rw[h3];constructor;(·intro h;exact .inr ⟨by omega,h⟩);·rintro(h|h);(·omega);·exact h.2
theorem E1(x:Rec):qx x x=false:=by rw[Bool.eq_false_iff];intro h;rcases qn.1 h with h|h;(·omega);·rw[gI]at h;cases h.2
theorem xk(x y z:Rec)(h:qx x y=true)(h':qx y z=true):qx x z=true:=by
 rw[qn]at*;rcases h with h|h<;>rcases h' with h'|h';(·exact .inl (by omega));(·exact .inl (by omega));(·exact .inl (by omega));·exact .inr ⟨by omega,dv h.2 h'.2⟩
theorem GA {x y:Rec} (h:a7 x≠a7 y):qx x y=true∨qx y x=true:=by
 rw[qn,qn];by_cases e:x.2.2.1=y.2.2.1;(·cases hb:bI (a7 x) (a7 y);(·exact .inr (.inr ⟨e.symm,ov hb h⟩));·exact .inl (.inr ⟨e,rfl⟩));·by_cases e':x.2.2.1<y.2.2.1;(·exact .inl (.inl e'));·exact .inr (.inl (by omega))
theorem GB {l:List Rec} (h:lD a7 l):l.Pairwise (fun a b=>qx a b=true∨qx b a=true):=List.Pairwise.imp (fun nL=>GA fun e=>by rw[e,gI]at nL;cases nL) h
theorem vo {l:List Rec} (h:lD a7 l):sg qx (bR l):=Gz xk (GB h)
theorem KL {l m:List Rec} (h:lD a7 l)(hm:sg qx m)(he: ∀x,x∈m↔x∈l):m=bR l:=ql E1 xk hm (vo h) fun x=>by rw[he];exact(xi l x).symm
end Go.Proofs.YtmgmonbmdkkhbaaGreatDoor
namespace Go.Proofs.YtmgmonbmdkkhbaaGreatDoor
attribute[local go_sem←]Bool.decide_and Bool.decide_or decide_not
attribute[local go_sem]St.ew bw bO u3 oF nT dw Int.reduceEq not_true_eq_false not_false_eq_true false_implies List.append_assoc
open Go.Lib
set_option maxHeartbeats 4000000
set_option maxRecDepth 100000
def dV(l:List Rec):bq:=(l.map fun r=>c9 r++ [10]).flatten
theorem KM:HC env 25 [.iv (.sl ae) []] [] (.iv (.sl ae) []) []:=by
 refine HC.ao (m:=2000) ah Se rfl rfl rfl rfl (by kernel_rfl) ?_;intro hx gP;simp only[Tryz.f25];simp only[go_sem,zA,↓reduceIte,↓reduceDIte,zB,zC,zD,zE,zF,zG,zH,zI]
 intro b hb;cases b;(·simp only[go_sem,zA,↓reduceIte,↓reduceDIte,zB,zC,zD,zE,zF,zG,zH,zI]);·simp only[go_sem,zA,↓reduceIte,↓reduceDIte,zB,zC,zD,zE,zF,zG,zH,zI]
theorem XT:HC env 109 [.iv (.sl ae) [],.iv (.int .i64) (0:Int),.iv (.int .i64) (0:Int),.iv (.fh 27 .unit) ()] [] (.aP []) []:=by
 refine HC.ao (m:=2000) ah ot rfl rfl rfl rfl (by kernel_rfl) ?_;intro hx gP;simp only[Tryz.f109];simp only[go_sem,zA,↓reduceIte,↓reduceDIte,zB,zC,zD,zE,zF,zG,zH,zI]
 refine⟨by omega,?_⟩;refine av.jA (X:=Unit) (fun _=>⟨[(8,.iv (.int .i64) (1:Int)),(0,.iv (.sl ae) []),(1,.iv (.int .i64) (0:Int)),(2,.iv (.int .i64) (0:Int))],[]⟩) (fun _=>True) (fun _=>0) () ⟨⟨Or.inl rfl,Or.inl rfl,Or.inl rfl,Or.inl rfl,trivial⟩,trivial,rfl,rfl⟩ trivial ?_
 intro _ _ back;refine ay ah ⟨_,ot,rfl⟩ 2000 _ _ (by kernel_rfl) ?_;simp only[go_sem,zA,↓reduceIte,↓reduceDIte,zB,zC,zD,zE,zF,zG,zH,zI]
theorem XU(b:Int):HC env 66 [.iv (.sl ae) [],.iv (.int .i64) (0:Int),.iv (.int .i64) (0:Int),.iv (.int .i64) b,.iv (.fh 27 .unit) ()] [] (.aP []) []:=by
 refine HC.ao (m:=2000) ah EB rfl rfl rfl rfl (by kernel_rfl) ?_;intro hx gP;simp only[Tryz.f66];simp only[go_sem,zA,↓reduceIte,↓reduceDIte,zB,zC,zD,zE,zF,zG,zH,zI]
 refine av.jA (X:=Unit) (fun _=>⟨[(0,.iv (.sl ae) []),(1,.iv (.int .i64) (0:Int)),(2,.iv (.int .i64) (0:Int)),(4,.fn 27 [])],[]⟩) (fun _=>True) (fun _=>0) () ⟨⟨Or.inl rfl,Or.inl rfl,Or.inl rfl,Or.inl rfl,trivial⟩,trivial,rfl,rfl⟩ trivial ?_
 intro _ _ back;refine ay ah ⟨_,EB,rfl⟩ 2000 _ _ (by kernel_rfl) ?_;simp only[go_sem,zA,↓reduceIte,↓reduceDIte,zB,zC,zD,zE,zF,zG,zH,zI];refine⟨by omega,fun _=>⟨_,_,XT,?_⟩,fun g=>absurd g (by omega)⟩
 simp only[go_sem,zA,↓reduceIte,↓reduceDIte,zB,zC,zD,zE,zF,zG,zH,zI];exact fun _=>trivial
theorem Rf:HC env 26 [.iv (.sl ae) [],.iv (.fh 27 .unit) ()] [] (.aP []) []:=by
 refine HC.ao (m:=2000) ah Sf rfl rfl rfl rfl (by kernel_rfl) ?_;intro hx gP;simp only[Tryz.f26];simp only[go_sem,zA,↓reduceIte,↓reduceDIte,zB,zC,zD,zE,zF,zG,zH,zI]
 have hw:IntKind.u64.wrap 0=0:=rfl;rw[hw];refine⟨_,Sr _ (by omega) (by omega),fun _=>⟨_,_,XU _,?_⟩⟩;simp only[go_sem,zA,↓reduceIte,↓reduceDIte,zB,zC,zD,zE,zF,zG,zH,zI]
 exact fun _=>trivial
theorem Rg(u:cn)(h:u.1=[]):PC env 7 [⟨az,u⟩] (.sl ae) (bR u.1):=by
 refine PC.ao (m:=2000) ah ab5 rfl rfl rfl rfl (by kernel_rfl) ?_;intro hx;simp only[Tryz.f7];simp only[go_sem,zA,↓reduceIte,↓reduceDIte,zB,zC,zD,zE,zF,zG,zH,zI]
 rw[h];refine⟨_,_,KM,?_⟩;simp only[go_sem,zA,↓reduceIte,↓reduceDIte,zB,zC,zD,zE,zF,zG,zH,zI];intro _ _;refine⟨_,_,Rf,?_⟩;simp only[go_sem,zA,↓reduceIte,↓reduceDIte,zB,zC,zD,zE,zF,zG,zH,zI]
 exact fun _=>rfl
theorem yS(u:cn)(hl:u.1.length≤12):PC env 7 [⟨az,u⟩] (.sl ae) (bR u.1):=by by_cases h:u.1=[];(·exact Rg u h);·exact Xv u h hl
theorem E2(bs:List Int)(c:Int)(hs:bs.length≤1000000000):HC env 41 [.ref 1000000000 0,.iv (.int .u8) c] [(1000000000,.box [.ref 1000000000 0,.aI 1000000001] (some 92)),(1000000001,.arr (.int .u8) bs (some 5))] .any [(1000000000,.box [.ref 1000000000 0,.aI 14] (some 92)),(14,.arr (.int .u8) (bs++ [c]) (some 5))]:=by
 refine HC.ao (m:=2000) ah ac8 rfl rfl rfl rfl (by kernel_rfl) ?_;intro hx gP;simp only[Tryz.f41];simp(config:= {maxSteps:=4000000})only[go_sem,zA,↓reduceIte,↓reduceDIte,zB,zC,zD,zE,zF,zG,zH,zI]
 refine⟨_,_,ET _ _,rfl,?_⟩;simp(config:= {maxSteps:=4000000})only[go_sem,zA,↓reduceIte,↓reduceDIte,zB,zC,zD,zE,zF,zG,zH,zI];intro _;omega
theorem cK {l:List Rec} {r:Rec} :r∈bR l↔r∈l:=xi l r
theorem kg(l:List Rec):(bR l).length=l.length:=yR l
theorem aj1(u:cn)(hl:u.1.length≤12)(hr: ∀r,r∈u.1→aD r=true):PC env 14 [⟨az,u⟩] .str (dV (bR u.1)):=by
 refine PC.ao (m:=2000) ah JD rfl rfl rfl rfl (by kernel_rfl) ?_;intro hx;simp only[Tryz.f14];simp only[go_sem,zA,↓reduceIte,↓reduceDIte,zB,zC,zD,zE,zF,zG,zH,zI]
 refine⟨_,yS u hl,fun _=>?_⟩;have hR: ∀r,r∈bR u.1→aD r=true:=fun r h=>hr r (cK.1 h);(have hL:(bR u.1).length≤12:=by rw[kg];exact hl);generalize bR u.1=l at hR hL
 refine av.cU (X:=Nat) (fun(z:Nat)=>[(9,.iv (.int .i64) (z:Int))]) (fun(z:Nat)=>(match z with|0=>[(3,.box [.bT,.bE] (some 92))]|k+1=>[(3,.box [.ref 3 0,.aI 1000] (some 92)),(1000,.arr (.int .u8) (im (dV (l.take (k+1)))) (some 5))])) (fun(z:Nat)=>z≤l.length) (fun(z:Nat)=>l.length-z) 0 ?_
 intro b1 b2 ck cH;simp(config:= {maxSteps:=4000000})only[go_sem,zA,↓reduceIte,↓reduceDIte,zB,zC,zD,zE,zF,zG,zH,zI]at ck cH;subst ck;subst cH;refine⟨(by refine⟨?_,?_,rfl,rfl⟩<;>repeat' (first|exact trivial|exact Or.inl rfl|exact Or.inr rfl|apply cV|apply cW|apply cX|apply cY|exact⟨(by show(_:Nat)<1000000000;omega),rfl,rfl⟩|rfl|(refine And.intro (Or.inl ?_) ?_)|(refine And.intro ?_ ?_))),?_,?_⟩
 (·exact Nat.zero_le _);intro i hi back;(have Xs:dV (l.take l.length)=dV l:=by rw[List.take_length]);have vH:=BA (fun r=>c9 r++ [10]) 61 (l.take i) (fun y hy=>by have:=je (hR y (List.mem_of_mem_take hy));simp only[List.length_append,List.length_cons,List.length_nil];omega)
 change(dV (l.take i)).length≤_ at vH;rw[List.length_take,Nat.min_eq_left hi]at vH;(have ff: ∀r,l[i]?=some r→im (dV (l.take i))++(im (c9 r)++ [10])=im (dV (l.take (i+1))):=fun r h=>by have h2:dV (l.take (i+1))=dV (l.take i)++(c9 r++ [10]):=Gy _ h;rw[h2,EU,EU];simp[im])
 cases i with|zero=>dsimp only;refine ay ah ⟨_,JD,rfl⟩ 2000 _ _ (by kernel_rfl) ?_;simp only[go_sem,zA,↓reduceIte,↓reduceDIte,zB,zC,zD,zE,zF,zG,zH,zI];refine⟨fun g=>?_,fun g=>?_⟩;(·obtain⟨r,yq⟩: ∃r,l[0]?=some r:=ax (by omega);have aw8:=je (hR r (List.mem_of_getElem? yq));refine⟨r,yq,_,yM r (hR r (List.mem_of_getElem? yq)),fun _=>⟨_,_,Ke _ (by omega),rfl,?_⟩⟩;simp only[go_sem,zA,↓reduceIte,↓reduceDIte,zB,zC,zD,zE,zF,zG,zH,zI];intro _;refine⟨_,_,E2 _ _ (by unfold im;rw[List.length_map];omega),rfl,?_⟩;simp only[go_sem,zA,↓reduceIte,↓reduceDIte,zB,zC,zD,zE,zF,zG,zH,zI];intro _;refine⟨aH (by omega) (by omega),?_⟩;refine av.ew [(1700014,1000),(1000,1700014)] rfl ?_;simp only[go_sem,zA,↓reduceIte,↓reduceDIte,zB,zC,zD,zE,zF,zG,zH,zI];(have h0:im (c9 r)++ [10]=im (dV (l.take 1)):=by rw[←ff r yq];rfl);rw[h0];exact back _ 1 (by refine⟨?_,?_,rfl,rfl⟩<;>repeat' (first|exact trivial|exact Or.inl rfl|exact Or.inr rfl|apply cV|apply cW|apply cX|apply cY|exact⟨(by show(_:Nat)<1000000000;omega),rfl,rfl⟩|rfl|(refine And.intro (Or.inl ?_) ?_)|(refine And.intro ?_ ?_))) (by omega) (by omega));(·refine⟨_,_,XA,rfl,?_⟩;simp only[go_sem,zA,↓reduceIte,↓reduceDIte,zB,zC,zD,zE,zF,zG,zH,zI];have:l=[]:=List.length_eq_zero_iff.1 (by omega);rw[this];exact fun _=>rfl)|succ i=>dsimp only;refine ay ah ⟨_,JD,rfl⟩ 2000 _ _ (by kernel_rfl) ?_;simp only[go_sem,zA,↓reduceIte,↓reduceDIte,zB,zC,zD,zE,zF,zG,zH,zI];refine⟨fun g=>?_,fun g=>?_⟩;(·obtain⟨r,yq⟩: ∃r,l[i+1]?=some r:=ax (by omega);have aw8:=je (hR r (List.mem_of_getElem? yq));have i0:(0:Int)≤((i+1:Nat):Int):=Int.natCast_nonneg _;refine⟨i0,r,yq,_,yM r (hR r (List.mem_of_getElem? yq)),fun _=>⟨_,_,Bn _ _ (by unfold im;rw[List.length_map];omega),rfl,?_⟩⟩;simp only[go_sem,zA,↓reduceIte,↓reduceDIte,zB,zC,zD,zE,zF,zG,zH,zI];intro _;refine⟨_,_,E2 _ _ (by unfold im;rw[List.length_append,List.length_map,List.length_map];omega),rfl,?_⟩;simp only[go_sem,zA,↓reduceIte,↓reduceDIte,zB,zC,zD,zE,zF,zG,zH,zI];intro _;refine⟨aH (by omega) (by omega),?_⟩;refine av.ew [(1700014,1000),(1000,1700014)] rfl ?_;simp only[go_sem,zA,↓reduceIte,↓reduceDIte,zB,zC,zD,zE,zF,zG,zH,zI];rw[ff r yq];exact back _ (i+1+1) (by refine⟨?_,?_,rfl,rfl⟩<;>repeat' (first|exact trivial|exact Or.inl rfl|exact Or.inr rfl|apply cV|apply cW|apply cX|apply cY|exact⟨(by show(_:Nat)<1000000000;omega),rfl,rfl⟩|rfl|(refine And.intro (Or.inl ?_) ?_)|(refine And.intro ?_ ?_))) (by omega) (by omega));·refine⟨_,_,Xy _,rfl,?_⟩;rw[yJ,List.take_of_length_le (by omega)];simp only[go_sem,zA,↓reduceIte,↓reduceDIte,zB,zC,zD,zE,zF,zG,zH,zI];exact fun _ _=>trivial
end Go.Proofs.YtmgmonbmdkkhbaaGreatDoor
