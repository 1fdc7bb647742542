/- The law RetakeWithdraws holds for every input. No condition. -/
import Derived.Test.YtgpkijnphchkpaaGreatR3
import Derived.Test.YtgpkijnphchkpaaGreatRows
set_option linter.unusedSimpArgs false
set_option linter.unusedVariables false
open Nat renaming reduceBEq→zA,reduceAdd→zB,reduceSub→zC,reduceMul→zD,reduceLeDiff→zE
open Int renaming reduceLT→zF,reduceLE→zG,reduceToNat→zH,reduceNeg→zI
namespace Go.Proofs.YtgpkijnphchkpaaGreat.Ln
set_option maxHeartbeats 1000000
def qI(d n0:Int)(y:Rec):Bool:=decide (y.1=d∧n0<y.2.1)
structure ck6(k:Nat)(u0:Oc)(mL:List Rec)(d e n0:Int)(i:Nat)(v:Oc)(all:List Rec):Prop where
 ck7:e9 (k+i) v all
 ord:v.2.1=u0.2.1
 last:L2 v.2.2 d=n0+i
 TU:all.filter (fun y=>!(qI d n0 y))=mL
 ck8: ∀y,y∈all→qI d n0 y=true→y.2.2.1=e
theorem Ic {k:Nat} {u:Oc} {all:List Rec} {d:Int} (e:Int)(h:e9 k u all):ck6 k u all d e (L2 u.2.2 d) 0 u all:=by
 (have hn: ∀y,y∈all→qI d (L2 u.2.2 d) y=false:=fun y hy=>by have:=(h.right y hy).2;unfold qI;rw[decide_eq_false_iff_not];rintro⟨e1,e2⟩;rw[e1]at this;omega);exact⟨h,rfl,by simp,List.filter_eq_self.2 fun y hy=>by rw[hn y hy];rfl,fun y hy h2=>by rw[hn y hy]at h2;cases h2⟩
theorem xT {k:Nat} {u0:Oc} {mL:List Rec} {d e n0:Int} {i:Nat} {v:Oc} {all:List Rec} (h:ck6 k u0 mL d e n0 i v all)(hk:k+i<400) {r:Rec} (hr:Mk (r.1,1,r.2.2)=true)(hd:r.1=d)(he:r.2.2.1=e):(∃Cu,ck6 k u0 mL d e n0 (i+1) (Ox v r).1 Cu)∧(Ox v r).2=(n0+i+1,0):=by
 obtain⟨d0,d7⟩:=PZ hr;have hg:=h.ck7.dF;have h1:=hg.2.1;have hl:=hg.2.2.2 _ d0 d7;have hL:=im hg hk hr;have ha:=ny h.ck7 hk hr;have cT:=h.last;obtain⟨l1,l2,l3⟩:=gp hg.2 hk hr d0 d7
 (have bd:qI d n0 (r.1,L2 v.2.2 r.1+1,r.2.2)=true:=by unfold qI;rw[decide_eq_true_eq];refine⟨hd,?_⟩;dsimp only;rw[hd];omega);refine⟨⟨_,ha,?_,?_,?_,?_⟩,by rw[hL.2,hd,cT]⟩
 (·rw[YJ hr (by omega) (by omega)];dsimp only;split<;>exact h.ord);(·rw[l2,←hd,R9 _ _ d0 d7,hd,cT];omega);(·have hf:=l4 (pl:=P5) (x:=(r.1,L2 v.2.2 r.1+1,r.2.2)) h.ck7.sW (fun y=>!(qI d n0 y));rw[bd,if_neg (by decide)]at hf;rw[←h.TU];exact hf)
 ·intro y hy hn;rcases Od.1 hy with rfl|hy;(·exact he);·exact h.ck8 y hy hn
structure ck9(k:Nat)(u0:Oc)(d n0:Int)(j:Nat)(v:Oc)(all:List Rec):Prop where
 ck7:e9 k v all
 ord: ∀y,y∈all→v.2.1.any (fun o=>Mx o y)=(u0.2.1.any (fun o=>Mx o y)||(qI d n0 y&&decide (y.2.1≤n0+j)))
theorem Aa {α:Type} {l:List α} {n:Nat} {x:α} (p:α→Bool):(Nr l n x).any p=(p x||l.any p):=by
 rw[Bool.eq_iff_iff,Bool.or_eq_true,List.any_eq_true,List.any_eq_true];constructor;(·rintro⟨z,hz,hh⟩;rcases Od.1 hz with rfl|hz;(·exact .inl hh);·exact .inr ⟨z,hz,hh⟩)
 ·rintro(hh|⟨z,hz,hh⟩);(·exact⟨_,Od.2 (.inl rfl),hh⟩);·exact⟨z,Od.2 (.inr hz),hh⟩
theorem uV {k:Nat} {u0:Oc} {d n0 e:Int} {j:Nat} {v:Oc} {all:List Rec} (h:ck9 k u0 d n0 j v all)(hk:k<400)(hd:0≤d∧d≤7)(he:0≤e∧e≤10000)(hn:0≤n0∧n0+j<1000000)(FD: ∀y,y∈all→qI d n0 y=true→y.2.2.1=e):ck9 (k+1) u0 d n0 (j+1) (Mq v (gA d e (n0+j+1))).1 all∧(Mq v (gA d e (n0+j+1))).2=0:=by
 (have hr:Mw ((gA d e (n0+j+1)).1,1,(gA d e (n0+j+1)).2.2)=true:=by unfold gA Mw rk rk5;dsimp only;rw[if_neg (by decide),if_neg (by decide),if_neg (by decide),if_neg (by decide),if_pos rfl,Bool.and_eq_true,decide_eq_true_eq,decide_eq_true_eq];exact⟨⟨hd,⟨by decide,by decide⟩,he⟩,⟨rfl,by omega,by omega⟩,hd⟩)
 have hg:=h.ck7.dF;have h1:=hg.2.2.1;have hl:=hg.2.2.2 d hd.1 hd.2;refine⟨⟨l5 h.ck7 hk hr,fun y hy=>?_⟩,(eH hg hk hr).2⟩;rw[XG hr (by omega) (by show L2 v.2.2 d<1000000;omega)]
 dsimp only;(have hm:Mx (d,L2 v.2.2 d+1,e,5,[],n0+j+1,d) y=(qI d n0 y&&decide (y.2.1=n0+j+1)):=by have AW:=FD y hy;unfold Mx SV;dsimp only;rw[if_neg (by decide),if_neg (by decide),if_neg (by decide),if_neg (by decide),if_pos rfl,Bool.eq_iff_iff,Bool.and_eq_true,Bool.and_eq_true,decide_eq_true_eq,decide_eq_true_eq,decide_eq_true_eq];unfold qI at AW⊢;rw[decide_eq_true_eq]at AW⊢;constructor;(·rintro⟨a,b,c⟩;exact⟨⟨b,by omega⟩,c⟩);·rintro⟨⟨a,b⟩,c⟩;exact⟨by rw[AW ⟨a,b⟩];omega,a,c⟩)
 rw[Aa,h.ord y hy];show(Mx (d,L2 v.2.2 d+1,e,5,[],n0+j+1,d) y||_)=_;rw[hm];cases hN:qI d n0 y;(·simp);·rw[Bool.true_and,Bool.true_and,Bool.true_and,Bool.or_left_comm];congr 1;rw[Bool.eq_iff_iff,Bool.or_eq_true,decide_eq_true_eq,decide_eq_true_eq,decide_eq_true_eq];omega
def mM(n0:Int):Nat→List Int|0=>[]|i+1=>mM n0 i++ [n0+i+1]
theorem fe(n0:Int): ∀i,(mM n0 i).length=i|0=>rfl|i+1=>by rw[mM,List.length_append,fe n0 i];rfl
theorem tr(n0:Int): ∀ {i j:Nat},j<i→(mM n0 i)[j]?=some (n0+j+1)|0,j,h=>absurd h (Nat.not_lt_zero _)|i+1,j,h=>by rw[mM];by_cases hj:j<i;(·rw[List.getElem?_append_left (by rw[fe];exact hj),tr n0 hj]);·(have e:j=i:=by omega);subst e;rw[List.getElem?_append_right (by rw[fe];exact Nat.le_refl _),fe,Nat.sub_self];rfl
theorem l9 {K i:Nat} {u0 cl0:Oc} {d n0 e:Int} {all:List Rec} (hd:0≤d∧d≤7)(he:0≤e∧e≤10000)(hn:0≤n0∧n0+i<1000000)(FD: ∀y,y∈all→qI d n0 y=true→y.2.2.1=e): ∀(r j:Nat)(v:Oc),j+r=i→ck9 (K+j) u0 d n0 j v all→K+i<400→ ∃v',bC Mq cl0 d e ((mM n0 i).drop j) v=(v',0)∧ck9 (K+i) u0 d n0 i v' all|0,j,v,hj,h,hk=>(by(have e:j=i:=by omega);subst e;refine⟨v,?_,h⟩;rw[List.drop_of_length_le (by rw[fe];exact Nat.le_refl _)];rfl)|r+1,j,v,hj,h,hk=>by obtain⟨h1,h2⟩:=uV h (by omega) hd he (by omega) FD;obtain⟨v',h3,h4⟩:=l9 (cl0:=cl0) hd he hn FD r (j+1) _ (by omega) h1 hk;refine⟨v',?_,h4⟩;rw[fA (tr n0 (by omega)),if_neg (by omega),if_pos h2,h3]
theorem uW {k i:Nat} {u0 v:Oc} {mL all:List Rec} {d e n0:Int} (h0:e9 k u0 mL)(h:ck6 k u0 mL d e n0 i v all)(hk:k+i+i<400)(hd:0≤d∧d≤7)(he:0≤e∧e≤10000)(hn:0≤n0∧n0+i<1000000): ∃v',bC Mq v d e (mM n0 i) v=(v',0)∧v'.1=u0.1∧eG (k+i+i) v':=by
 have hF:ck9 (k+i+0) u0 d n0 0 v all:=⟨h.ck7,fun y hy=>by rw[h.ord];cases hN:qI d n0 y;(·simp);·unfold qI at hN;have:=of_decide_eq_true hN;rw[decide_eq_false (by omega)];simp⟩
 obtain⟨v',h1,h2⟩:=l9 (cl0:=v) hd he hn h.ck8 i 0 v (by omega) hF hk;refine⟨v',h1,?_,h2.ck7.dF⟩;rw[h2.ck7.kept,h0.kept,←h.TU];unfold Sf;rw[List.filter_filter];refine List.filter_congr fun y hy=>?_
 have hR:=(h2.ck7.right y hy).1;have Ji:=(h.ck7.right y hy).2;rw[Vp (fun o ho=>(h2.ck7.dF.1.ord o ho).1) hR,Vp (fun o ho=>(h0.dF.1.ord o ho).1) hR,h2.ord y hy];cases hN:qI d n0 y
 (·simp);·unfold qI at hN;have hc:=of_decide_eq_true hN;rw[hc.1,h.last]at Ji;rw[decide_eq_true (by exact Ji)];simp
end Go.Proofs.YtgpkijnphchkpaaGreat.Ln
namespace Go.Proofs.YtgpkijnphchkpaaGreat
attribute[local go_sem←]Bool.decide_and Bool.decide_or decide_not
attribute[local go_sem]PA ML St.fin CR St.ND Me
set_option maxHeartbeats 4000000
set_option maxRecDepth 100000
theorem qJ {m:List Ln.ey} (hm: ∀x,x∈m→MK.ok x): ∀k:Nat,k≤m.length→k≤300→ ∃all,Ln.e9 k (Ln.fW (m.take k)) all:=by
 intro k;induction k with|zero=>intro _ _;exact⟨[],Ln.qx⟩|succ k ih=>intro h h';obtain⟨x,hx⟩:=r3 (xs:=m) (i:=k) (by omega);obtain⟨all,ha⟩:=ih (by omega) (by omega);rw[Ln.iq hx];exact⟨_,Ln.si ha (by omega) (hm x (List.mem_of_getElem? hx))⟩
theorem tv {u:Ln.Oc} (h:Ln.VU u):Ln.ch8 u.1:=by refine⟨by have:=h.l1;omega,fun r hr=>?_⟩;have hR:=(h.rcd r hr).1;unfold Ln.Mk at hR;simp only[Bool.and_eq_true,decide_eq_true_eq]at hR;omega
theorem uX {d e x:Int} (hd:0≤d∧d≤7)(he:0≤e∧e≤19)(hx:0≤x):Ln.Mk (d,1,e,Ln.jM x,1,1)=true:=by
 (have hw:Ln.Ov (Ln.jM x)=true:=by(have h4:x%4=0∨x%4=1∨x%4=2∨x%4=3:=by omega);unfold Ln.jM;rcases h4 with h|h|h|h<;>rw[h]<;>decide);unfold Ln.Mk;dsimp only;rw[hw]
 simp only[Bool.and_eq_true,decide_eq_true_eq,Bool.true_and];omega
theorem mN(m:List Ln.ey)(ws:List Int)(w:Int×Int):PC env 6 [⟨.sl MK,m⟩,⟨.sl (.int .u8),ws⟩,⟨.st (.pair (.int .u8) (.int .u8)),w⟩] .bool true:=by
 refine PC.LU (m:=2000) av cj7 rfl rfl rfl rfl (by kernel_rfl) ?_;intro hx;simp only[Tryz.f6];simp only[go_sem,zA,↓reduceIte,↓reduceDIte,zB,zC,zD,zE,zF,zG,zH,zI]
 have hM:=Ln.tn m 8 (by omega) (by omega);refine⟨_,dz,_,hM,fun _=>?_⟩;have e8:Int.toNat 8=8:=rfl;rw[e8];(have aV: ∃k0 all,k0≤8∧Ln.e9 k0 (Ln.fW (m.take 8)) all:=by by_cases ET:8≤m.length;(·obtain⟨all,h⟩:=qJ hx.1.2 8 ET (by decide);exact⟨8,all,Nat.le_refl _,h⟩);·obtain⟨all,h⟩:=qJ hx.1.2 m.length (Nat.le_refl _) (by omega);rw[List.take_of_length_le (Nat.le_refl _)]at h;exact⟨m.length,all,by omega,by rwa[show m.take 8=m from List.take_of_length_le (by omega)]⟩)
 generalize Ln.fW (m.take 8)=u at*;obtain⟨k0,mL,H4,h0⟩:=aV;have Fl:(0≤w.1∧w.1≤255)∧0≤w.2∧w.2≤255:=hx.2.2.1;(have hd:0≤Int.tmod w.1 8∧Int.tmod w.1 8≤7:=by rw[Int.tmod_eq_emod_of_nonneg Fl.1.1];omega)
 (have he:0≤Int.tmod w.2 20∧Int.tmod w.2 20≤19:=by rw[Int.tmod_eq_emod_of_nonneg Fl.2.1];omega);have AU: ∀y,y∈ws→0≤y∧y≤255:=fun y hy=>hx.2.1.2 y hy;have K5:=h0.dF.2.2.2 _ hd.1 hd.2
 generalize Int.tmod w.1 8=d at*;generalize Int.tmod w.2 20=e at*;refine u1.Mp (X:=Nat×Ln.Oc) (fun(z:Nat×Ln.Oc)=>[(12,.iv (.int .i64) (z.1:Int)),(11,.LV 33),(33,.any)]) (fun(z:Nat×Ln.Oc)=>[(10,.box (uC z.2)),(33,.arr (.int .i64) (Ln.mM (Ln.L2 u.2.2 d) z.1))]) (fun(z:Nat×Ln.Oc)=>z.1≤ws.length∧z.1≤4∧ ∃all,Ln.ck6 k0 u mL d e (Ln.L2 u.2.2 d) z.1 z.2 all) (fun(z:Nat×Ln.Oc)=>ws.length-z.1) (0,u) ?_
 intro b1 b2 ao aq;simp(config:= {maxSteps:=4000000})only[go_sem,zA,↓reduceIte,↓reduceDIte,zB,zC,zD,zE,zF,zG,zH,zI]at ao aq;subst ao;subst aq;refine⟨(by refine⟨?_,?_,rfl,rfl⟩<;>repeat' (first|exact trivial|exact Or.inl rfl|exact Or.inr rfl|apply aw|apply ax|apply ay|apply az|exact⟨(by show(_:Nat)<1000000000;omega),rfl,rfl⟩|rfl|(refine And.intro (Or.inl ?_) ?_)|(refine And.intro ?_ ?_))),?_,?_⟩
 (·exact⟨Nat.zero_le _,Nat.zero_le _,mL,Ln.Ic e h0⟩);intro⟨i,v⟩⟨hi,Hd,all,hW⟩back;dsimp only at hi Hd hW;have cP:=Ln.fe (Ln.L2 u.2.2 d) i;refine LP av ⟨_,cj7,rfl⟩ 2000 _ _ (by kernel_rfl) ?_
 simp only[go_sem,zA,↓reduceIte,↓reduceDIte,zB,zC,zD,zE,zF,zG,zH,zI];have cT:=Ln.uW h0 hW (by omega) hd ⟨he.1,by omega⟩ ⟨K5.1,by omega⟩;have mb:=hW.ck7.dF.1.l1;refine⟨fun h=>⟨fun h3=>?_,fun h3=>?_⟩,fun h=>?_⟩
 (·obtain⟨x,aK⟩:=r3 (xs:=ws) (i:=i) (by omega);obtain⟨CE,ti⟩:=AU x (List.mem_of_getElem? aK);obtain⟨⟨Cu,mS⟩,hL⟩:=Ln.xT (r:=(d,0,e,Ln.jM x,1,1)) hW (by omega) (uX hd he CE) rfl rfl;have Jj:=Ln.cc2 v (d,0,e,Ln.jM x,1,1);obtain⟨v2,n2,e2,vM⟩: ∃a b c,Ln.Ox v (d,0,e,Ln.jM x,1,1)=(a,b,c):=⟨_,_,_,rfl⟩;rw[vM]at Jj hL mS;injection hL with hn Gz;subst Gz;refine⟨Int.natCast_nonneg i,x,aK,_,Ln.jb x,fun _=>⟨_,Jj,fun _=>⟨fun a=>absurd rfl a,fun _=>⟨Nat.le_trans (show(Ln.mM (Ln.L2 u.2.2 d) i).length≤4 by omega) (by decide),LN (by omega) (by omega),?_⟩⟩⟩⟩;dsimp only;rw[hn];exact back _ (i+1,v2) (by refine⟨?_,?_,rfl,rfl⟩<;>repeat' (first|exact trivial|exact Or.inl rfl|exact Or.inr rfl|apply aw|apply ax|apply ay|apply az|exact⟨(by show(_:Nat)<1000000000;omega),rfl,rfl⟩|rfl|(refine And.intro (Or.inl ?_) ?_)|(refine And.intro ?_ ?_))) ⟨by dsimp only;omega,by dsimp only;omega,Cu,mS⟩ (by dsimp only;omega))
 all_goals obtain⟨v',g1,g2,g3⟩:=cT;have hF:=gq v d e (Ln.mM (Ln.L2 u.2.2 d) i) (by omega);rw[g1]at hF;have A4:=Ln.ap0 v';rw[(Ln.bY8 v').2 g3.1]at A4;(have hS:PC env 24 [⟨.sl Fg,v'.1⟩,⟨.sl Fg,u.1⟩] .bool true:=by have:=Ln.X1 v'.1 u.1;rwa[decide_eq_true g2]at this);have hC:=fun w e=>Ln.cc4 v' w e (tv g3.1);have K6:=fun w e=>Ln.cc4 u w e (tv h0.dF.1);rw[g2]at hC;refine⟨_,hF,fun _=>?_⟩;dsimp only;refine⟨fun _=>⟨_,hS,?_⟩,fun a=>absurd rfl a⟩;simp only[go_sem,zA,↓reduceIte,↓reduceDIte,zB,zC,zD,zE,zF,zG,zH,zI];refine⟨_,A4,?_⟩;simp only[go_sem,zA,↓reduceIte,↓reduceDIte,zB,zC,zD,zE,zF,zG,zH,zI];clear back hF hS A4;refine u1.Mp (X:=Nat) (fun(n:Nat)=>[(18,.iv (.int .i64) (n:Int)),(19,.any)]) (fun(n:Nat)=>[]) (fun(n:Nat)=>n≤4) (fun(n:Nat)=>4-n) 0 ?_;intro b1 b2 ao aq;simp(config:= {maxSteps:=4000000})only[go_sem,zA,↓reduceIte,↓reduceDIte,zB,zC,zD,zE,zF,zG,zH,zI]at ao aq;subst ao;subst aq;refine⟨(by refine⟨?_,?_,rfl,rfl⟩<;>repeat' (first|exact trivial|exact Or.inl rfl|exact Or.inr rfl|apply aw|apply ax|apply ay|apply az|exact⟨(by show(_:Nat)<1000000000;omega),rfl,rfl⟩|rfl|(refine And.intro (Or.inl ?_) ?_)|(refine And.intro ?_ ?_))),?_,?_⟩;(·exact Nat.zero_le _);intro n hn back;refine LP av ⟨_,cj7,rfl⟩ 2000 _ _ (by kernel_rfl) ?_;simp only[go_sem,zA,↓reduceIte,↓reduceDIte,zB,zC,zD,zE,zF,zG,zH,zI];refine⟨fun h1=>?_,fun h1=>?_⟩;(·refine u1.Mp (X:=Nat) (fun(j:Nat)=>[(19,.iv (.int .i64) (7*(j:Int)))]) (fun(j:Nat)=>[]) (fun(j:Nat)=>j≤5) (fun(j:Nat)=>5-j) 0 ?_;intro b1 b2 ao aq;simp(config:= {maxSteps:=4000000})only[go_sem,zA,↓reduceIte,↓reduceDIte,zB,zC,zD,zE,zF,zG,zH,zI]at ao aq;subst ao;subst aq;refine⟨(by refine⟨?_,?_,rfl,rfl⟩<;>repeat' (first|exact trivial|exact Or.inl rfl|exact Or.inr rfl|apply aw|apply ax|apply ay|apply az|exact⟨(by show(_:Nat)<1000000000;omega),rfl,rfl⟩|rfl|(refine And.intro (Or.inl ?_) ?_)|(refine And.intro ?_ ?_))),?_,?_⟩;(·exact Nat.zero_le _);intro j hj bn;refine LP av ⟨_,cj7,rfl⟩ 2000 _ _ (by kernel_rfl) ?_;simp only[go_sem,zA,↓reduceIte,↓reduceDIte,zB,zC,zD,zE,zF,zG,zH,zI];refine⟨fun h2=>⟨_,Ln.jb _,fun _=>⟨_,hC _ _,fun _=>⟨_,Ln.jb _,fun _=>⟨_,K6 _ _,fun _=>⟨fun a=>absurd rfl a,fun _=>?_⟩⟩⟩⟩⟩,fun h2=>?_⟩;(·refine⟨LN (by omega) (by omega),?_⟩;rw[show 7*(j:Int)+7=7*((j+1:Nat):Int)by omega];exact bn _ (j+1) (by refine⟨?_,?_,rfl,rfl⟩<;>repeat' (first|exact trivial|exact Or.inl rfl|exact Or.inr rfl|apply aw|apply ax|apply ay|apply az|exact⟨(by show(_:Nat)<1000000000;omega),rfl,rfl⟩|rfl|(refine And.intro (Or.inl ?_) ?_)|(refine And.intro ?_ ?_))) (by omega) (by omega));·exact⟨LN (by omega) (by omega),back _ (n+1) (by refine⟨?_,?_,rfl,rfl⟩<;>repeat' (first|exact trivial|exact Or.inl rfl|exact Or.inr rfl|apply aw|apply ax|apply ay|apply az|exact⟨(by show(_:Nat)<1000000000;omega),rfl,rfl⟩|rfl|(refine And.intro (Or.inl ?_) ?_)|(refine And.intro ?_ ?_))) (by omega) (by omega)⟩);·trivial
end Go.Proofs.YtgpkijnphchkpaaGreat
namespace Go.Proofs.YtgpkijnphchkpaaGreat
open Go.ChangeShapes Go.WideShapes Go.ChangeAt Go.RowKit
theorem jh:ownKnob Tryz.prog.godebug=none:=by kernel_rfl
theorem ji:laidOutB env.P=true:=by kernel_rfl
theorem oz(xs:List (Sigma Ty.den))(h:xs.map (·.1)=[.sl MK,.sl (.int .u8),.st (.pair (.int .u8) (.int .u8))]):PC env 6 xs .bool true:=by
 match xs,h with|[⟨_,y0⟩,⟨_,y1⟩,⟨_,y2⟩],h=>injection h with h1 h;injection h with h2 h;injection h with h3 h;dsimp only at h1 h2 h3;subst h1 h2 h3;exact mN y0 y1 y2
set_option maxRecDepth 100000 in theorem ko(os:Os)(started:os.Started)(H:Type)(enc:TypeId×Value→H):ReturnsInHanded {} Tryz.checked os 6 .any (Rows.retakeWithdrawsSpec.pre6 enc Tryz.prog Tryz.f6 Rows.retakeWithdrawsRow.domain false) (Rows.retakeWithdrawsSpec.post enc Tryz.prog Tryz.f6 false true false false):=by
 refine returnsInHanded_of_change (C:=Tryz.checked) jh started (by kernel_rfl) cj7 (ChangeSpec.witness6 (enc:=enc) (C:=Tryz.checked) false ⟨#[],#[.slice none 0 0,.slice none 0 0,.agg #[.int .u8 0,.int .u8 0]],[]⟩ 8 (by kernel_rfl) (by kernel_rfl) (by kernel_rfl) (by kernel_rfl)) ?_
 intro W base args ds gs before eu hW _ _;refine fZ (E:=env) (b0:=base) (Ts:=[.sl MK,.sl (.int .u8),.st (.pair (.int .u8) (.int .u8))]) (tb:=4) av ji (of_decide_eq_true (by kernel_rfl)) rfl rfl rfl (by kernel_rfl) rfl ?_ oz (fun g hg=>by cases hg) eu hW
 intro ds Cv;match ds,Cv with|[d0,d1,d2],_=>rfl
theorem withdraw_holds:Rows.RetakeWithdrawsSaid:=OpenClaim.holds_of_wide 6 Tryz.f6 rfl rfl rfl rfl rfl rfl rfl ⟨rfl,rfl,rfl,rfl,rfl⟩ rfl rfl rfl rfl rfl (by kernel_rfl) cj7 (by kernel_rfl) (of_decide_eq_true (by kernel_rfl)) (by unfold Func.isWrapper;first|(rw[if_pos (by decide+kernel)];kernel_rfl)|(rw[if_neg (by decide+kernel)];exact⟨rfl,rfl⟩)) (fun os started H enc _=>ko os started H enc)
end Go.Proofs.YtgpkijnphchkpaaGreat
