/- The law RetakeReturns holds for every input. No condition. -/
import Derived.Test.YtgpkijnphchkpaaGreatO3
import Derived.Test.YtgpkijnphchkpaaGreatRows
set_option linter.unusedSimpArgs false
set_option linter.unusedVariables false
open Nat renaming reduceBEq→zA,reduceAdd→zB,reduceSub→zC,reduceMul→zD,reduceLeDiff→zE
open Int renaming reduceLT→zF,reduceLE→zG,reduceToNat→zH,reduceNeg→zI
namespace Go.Proofs.YtgpkijnphchkpaaGreat
attribute[local go_sem←]Bool.decide_and Bool.decide_or decide_not
attribute[local go_sem]ft bC ne_eq not_false_eq_true
set_option maxHeartbeats 8000000
set_option maxRecDepth 100000
theorem Vv(s:db)(e:Int)(hS:PC env 110 [⟨al,s⟩] (.int .i64) e):PC env 61 [⟨al,s⟩] .bool (decide (e=0)):=by
 obtain⟨n,a,rs⟩:=s;refine PC.ay (m:=2000) ae bj5 rfl rfl rfl rfl (by kernel_rfl) ?_;intro hx;simp only[Tryz.f61];simp only[go_sem,zA,↓reduceIte,↓reduceDIte,zB,zC,zD,zE,zF,zG,zH,zI]
 exact⟨_,hS,fun _=>rfl⟩
theorem Gb(s:db)(m:Int)(h0:0≤m∧m<8):PC env 67 [⟨al,s⟩,⟨.int .i64,m⟩] .bool (qk s.2.1 m):=by
 obtain⟨n,a,rs⟩:=s;refine PC.ay (m:=2000) ae bj9 rfl rfl rfl rfl (by kernel_rfl) ?_;intro hx;simp only[Tryz.f67];simp only[go_sem,zA,↓reduceIte,↓reduceDIte,zB,zC,zD,zE,zF,zG,zH,zI]
 have ha:0≤a:=hx.1.2.1.1;refine⟨⟨ha,h0⟩,wK ha _,?_⟩;have:=Fk (wK ha m.toNat);simp only[Int.reduceToNat]at this;rw[this];rfl
theorem av5(s:db)(hs:iB s)(hS:PC env 110 [⟨al,s⟩] (.int .i64) 0)(inp out:aI)(hl:Ib inp=true)(iZ:inp.length≤40)(ab:out.length≤1000) {h:Int→Nat} {A:Int→Prop} (hA0:A 0)(hA: ∀r,r∈s.2.2→A r.1→A r.2.1)(hr: ∀r,r∈s.2.2→A r.1→cw r=true→h r.1<h r.2.1)(ht: ∀m,h m≤8):PN env 32 [⟨al,s⟩,⟨.str,inp⟩,⟨.str,out⟩] (.int .i64) (fun r=>BQ s.2.2 s.2.1 inp out r):=by
 have hw:=a83 s hs out ab ((out.length+1)*8) (by omega) (a81 ht) inp iZ (0,0) (av2 hs.n8 hs.right hA0 hA hr ht) (fun p k c hg=>hg.2.1) (a82);have hSo:=Vv s 0 hS
 have a46:=Gb s;obtain⟨n,a,rs⟩:=s;refine PN.ay (m:=2000) ae ay7 rfl rfl rfl rfl (by kernel_rfl) ?_;intro hx;simp only[Tryz.f32];simp only[go_sem,zA,↓reduceIte,↓reduceDIte,zB,zC,zD,zE,zF,zG,zH,zI]
 refine⟨_,hSo,?_⟩;simp only[go_sem,zA,↓reduceIte,↓reduceDIte,zB,zC,zD,zE,zF,zG,zH,zI];have hle:=OW inp;rw[hl]at hle;refine⟨_,hle,?_⟩;simp only[go_sem,zA,↓reduceIte,↓reduceDIte,zB,zC,zD,zE,zF,zG,zH,zI]
 (have hc:(((out.length+1)*8:Nat):Int)=((out.length:Int)+1)*8:=by omega);dsimp only[av3]at hw;rw[hc]at hw;refine⟨⟨by omega,by omega⟩,⟨by omega,by omega⟩,_,_,_,_,hw,fun r hr=>⟨rfl,fun _ _=>?_⟩⟩
 obtain⟨M,ok⟩:=r;obtain⟨dg,cN,hlen,se,CJ⟩:=hr;dsimp only at dg cN hlen se CJ;subst dg;simp only[go_sem,zA,↓reduceIte,↓reduceDIte,zB,zC,zD,zE,zF,zG,zH,zI];refine ah.bH (X:=List Nat×Int) (fun(z:List Nat×Int)=>[(10,.iv (.int .i64) z.2),(11,.any),(12,.any)]) (fun(z:List Nat×Int)=>[(36,.it [.iv (.mp aA (.int .i64)) M] M.length z.1)]) (fun(z:List Nat×Int)=>LI rs a inp out M z.1 z.2) (fun(z:List Nat×Int)=>F7 M.length z.1) ([],-1) ?_
 intro b1 b2 bg bu;simp(config:= {maxSteps:=4000000})only[go_sem,zA,↓reduceIte,↓reduceDIte,zB,zC,zD,zE,zF,zG,zH,zI]at bg bu;subst bg;subst bu;refine⟨(by refine⟨?_,?_,rfl,rfl⟩<;>repeat' (first|exact trivial|exact Or.inl rfl|exact Or.inr rfl|apply bw|apply bx|apply bz|apply bD|exact⟨(by show(_:Nat)<1000000000;omega),rfl,rfl⟩|rfl|(refine And.intro (Or.inl ?_) ?_)|(refine And.intro ?_ ?_))),?_,?_⟩
 (·exact⟨.inl rfl,fun j hj=>absurd hj List.not_mem_nil⟩);intro⟨seen,least⟩hI back;dsimp only at hI;refine av ae ⟨_,ay7,rfl⟩ 2000 _ _ (by kernel_rfl) ?_;simp only[go_sem,zA,↓reduceIte,↓reduceDIte,zB,zC,zD,zE,zF,zG,zH,zI]
 refine⟨fun x HK e he=>⟨e,⟨x,by simp,he⟩,fun g1=>?_,fun g1=>?_⟩,fun gw=>⟨_,hI.done gw CJ,rfl⟩⟩;(·obtain⟨hg1,hg2,hg3,hg4⟩:=se e.1 e.2 ((gr Lr cN).1 (List.mem_of_getElem? he));refine⟨_,a46 e.1.1 hg1,?_⟩;dsimp only;cases hb:qk a e.1.1;(·simp only[go_sem,zA,↓reduceIte,↓reduceDIte,zB,zC,zD,zE,zF,zG,zH,zI];exact back _ (seen++ [x],least) (by refine⟨?_,?_,rfl,rfl⟩<;>repeat' (first|exact trivial|exact Or.inl rfl|exact Or.inr rfl|apply bw|apply bx|apply bz|apply bD|exact⟨(by show(_:Nat)<1000000000;omega),rfl,rfl⟩|rfl|(refine And.intro (Or.inl ?_) ?_)|(refine And.intro ?_ ?_))) (hI.next he fun hw=>by rw[hw.1.2]at hb;cases hb) (oM HK.1 HK.2));·simp only[go_sem,zA,↓reduceIte,↓reduceDIte,zB,zC,zD,zE,zF,zG,zH,zI];refine⟨fun g2=>⟨fun g3=>?_,fun g3=>?_⟩,fun g2=>?_⟩;(·exact back _ (seen++ [x],e.2) (by refine⟨?_,?_,rfl,rfl⟩<;>repeat' (first|exact trivial|exact Or.inl rfl|exact Or.inr rfl|apply bw|apply bx|apply bz|apply bD|exact⟨(by show(_:Nat)<1000000000;omega),rfl,rfl⟩|rfl|(refine And.intro (Or.inl ?_) ?_)|(refine And.intro ?_ ?_))) (hI.take he ⟨g1,hb⟩ (.inr g3) hg3.1 hg4) (oM HK.1 HK.2));(·exact back _ (seen++ [x],least) (by refine⟨?_,?_,rfl,rfl⟩<;>repeat' (first|exact trivial|exact Or.inl rfl|exact Or.inr rfl|apply bw|apply bx|apply bz|apply bD|exact⟨(by show(_:Nat)<1000000000;omega),rfl,rfl⟩|rfl|(refine And.intro (Or.inl ?_) ?_)|(refine And.intro ?_ ?_))) (hI.next he fun hw=>by rcases hw.2 with h|h;exact g2 h;exact g3 h) (oM HK.1 HK.2));·exact back _ (seen++ [x],e.2) (by refine⟨?_,?_,rfl,rfl⟩<;>repeat' (first|exact trivial|exact Or.inl rfl|exact Or.inr rfl|apply bw|apply bx|apply bz|apply bD|exact⟨(by show(_:Nat)<1000000000;omega),rfl,rfl⟩|rfl|(refine And.intro (Or.inl ?_) ?_)|(refine And.intro ?_ ?_))) (hI.take he ⟨g1,hb⟩ (.inl g2) hg3.1 hg4) (oM HK.1 HK.2))
 ·exact back _ (seen++ [x],least) (by refine⟨?_,?_,rfl,rfl⟩<;>repeat' (first|exact trivial|exact Or.inl rfl|exact Or.inr rfl|apply bw|apply bx|apply bz|apply bD|exact⟨(by show(_:Nat)<1000000000;omega),rfl,rfl⟩|rfl|(refine And.intro (Or.inl ?_) ?_)|(refine And.intro ?_ ?_))) (hI.next he fun hw=>g1 hw.1.1) (oM HK.1 HK.2)
end Go.Proofs.YtgpkijnphchkpaaGreat
namespace Go.Proofs.YtgpkijnphchkpaaGreat
set_option maxHeartbeats 1000000
theorem Vw {out:aI} {p q:Rev.cK} {r:Rl} (h:Rev.dk out p r=some q):r.1=p.2.1∧r.2.2.2.1.isPrefixOf (out.drop p.1.toNat)=true∧q.1=p.1+(r.2.2.2.1.length:Int)∧q.2.1=r.2.1:=by
 unfold Rev.dk at h;split at h;(case isFalse=>cases h);rename_i h1;split at h;(·injection h with h;subst h;exact⟨h1.1,h1.2,rfl,rfl⟩);·rename_i h2;have h2:r.2.2.2.1=[]:=Decidable.not_not.1 h2;split at h;(·injection h with h;subst h;exact⟨h1.1,h1.2,by rw[h2];simp,rfl⟩);·cases h
theorem av6 {rs:List Rl} {acc:Int} {out x:aI} {p:Rev.cK} {c:Int} (hp:Rev.Path rs acc out p x c): ∀(pre:aI)(c0:Int),Op.Rt (jH rs out) (pre++x) (0,0) pre.length (p.2.1,p.1) c0→ ∃k,Op.Rt (jH rs out) (pre++x) (0,0) (pre++x).length k (c0+c)∧k.2=(out.length:Int)∧Rev.fJ acc k.1=true:=by
 induction hp with| @done p h=>intro pre c0 hR;unfold Rev.iy at h;rw[Bool.and_eq_true,decide_eq_true_eq]at h;rw[List.append_nil]at hR⊢;exact⟨(p.2.1,p.1),by rw[Int.add_zero];exact hR,h.1,h.2⟩| @step p q r x c hr h hp ih=>intro pre c0 hR;obtain⟨h1,h2,h3,h4⟩:=Vw h;(have di:(jH rs out).step (p.2.1,p.1) r=((q.2.1,q.1),true):=by show sh out (p.2.1,p.1) r=_;unfold sh;rw[h2,h3,h4]);(have bo8:Op.Rt (jH rs out) (pre++(r.2.2.1++x)) (0,0) (pre++r.2.2.1).length (q.2.1,q.1) (c0+r.2.2.2.2):=by cases hs:cw r;(·rw[List.length_append];exact .take hR hr hs h1 (by rw[List.drop_left,List.isPrefixOf_iff_prefix];exact List.prefix_append _ _) di);·(have e:r.2.2.1=[]:=by unfold cw at hs;simpa using hs);rw[e,List.append_nil,List.nil_append];rw[e,List.nil_append]at hR;exact .sil hR hr hs h1 di);have:=ih (pre++r.2.2.1) (c0+r.2.2.2.2) (by rw[List.append_assoc];exact bo8);rw[List.append_assoc]at this;obtain⟨k,g1,g2,g3⟩:=this;exact⟨k,by rw[←Int.add_assoc];exact g1,g2,g3⟩
theorem Gc {rs:List Rl} {acc:Int} {out x:aI} {c r:Int} (ha: ∀m,Rev.fJ acc m=qk acc m)(hp:Rev.BZ rs acc out x c)(hC:BQ rs acc x out r):0≤r:=by
 obtain⟨k,g1,g2,g3⟩:=av6 hp [] 0 .start;rw[List.nil_append]at g1;rcases hC with⟨_,h⟩|⟨h,_⟩;(·exact absurd ⟨g2,by rw[←ha];exact g3⟩ (h _ _ g1));·exact h
end Go.Proofs.YtgpkijnphchkpaaGreat
namespace Go.Proofs.YtgpkijnphchkpaaGreat
attribute[local go_sem←]Bool.decide_and Bool.decide_or decide_not
attribute[local go_sem]ft bC
set_option maxHeartbeats 4000000
set_option maxRecDepth 100000
theorem Vx {s:db} (hs:iB s) {out x:aI} {p:Rev.cK} {c:Int} (hp:Rev.Path s.2.2 s.2.1 out p x c):x.all low=true:=by
 induction hp with|done=>rfl|step hr _ _ ih=>have h:=hs.right _ hr;unfold dx at h;simp only[Bool.and_eq_true]at h;rw[List.all_append,ih,h.1.1.1.2,Bool.and_true]
theorem a86 {s:db} (hs:iB s) {w:aI} {L:List Ev} (h:xZ s w=(L,0)): ∃inp c,L=inp.map ib∧Rev.BZ s.2.2 s.2.1 w inp c∧inp.length≤40∧inp.all low=true:=by
 unfold xZ at h;split at h;(·split at h;(·rename_i h0;injection h with h1 _;obtain⟨x,c,e,he⟩: ∃x c e,mQ s w=(x,c,e):=⟨_,_,_,rfl⟩;rw[he]at h0 h1;dsimp only at h0 h1;subst h0;have hm:=((BA hs w).mem x c).1 (D1 he);have hi:=(IL hs).1 hm.1.1;exact⟨x,c,h1.symm,hi,hm.2,Vx hs hi⟩);·injection h with _ h2;cases h2)
 ·injection h with _ h2;cases h2
theorem a87 {s:db} {w:aI} {L:List Ev} {e:Int} (h:xZ s w=(L,e))(he:e≠0):L=[]∧(e=50∨e=90∧lO w=false):=by
 unfold xZ at h;split at h;(·split at h;(·injection h with _ h2;exact absurd h2.symm he);·injection h with h1 h2;exact⟨h1.symm,.inl h2.symm⟩);·rename_i hw;injection h with h1 h2;exact⟨h1.symm,.inr ⟨h2.symm,by simpa using hw⟩⟩
theorem bo9 {E:Env} {f:Nat} {xs:List (Sigma Ty.den)} {T:Ty} {Y:T.den→Prop} {x:T.den} (h:PN E f xs T Y)(hu: ∀r,Y r→r=x):PC E f xs T x:=by
 intro w S vs h1 h2 h3;refine(h w S vs h1 h2 h3).mono ?_;rintro e w'⟨v,r,he,hY,hp⟩;exact⟨v,he,hu r hY▸hp⟩
theorem Vy {rs:List Rl} {a:Int} {inp out:aI} {r1 r2:Int} (h1:BQ rs a inp out r1)(h2:BQ rs a inp out r2):r1=r2:=by
 rcases h1 with⟨e1,n1⟩|⟨p1,⟨k1,g1,w1⟩,m1⟩<;>rcases h2 with⟨e2,n2⟩|⟨p2,⟨k2,g2,w2⟩,m2⟩;(·rw[e1,e2]);(·exact absurd w2 (n1 _ _ g2));(·exact absurd w1 (n2 _ _ g1));·exact Int.le_antisymm (m1 _ _ g2 w2) (m2 _ _ g1 w1)
theorem Ji(x:Cy)(l:List Int):PC env 8 [⟨lL,x⟩,⟨.sl (.int .u8),l⟩] .bool true:=by
 refine PC.ay (m:=2000) ae ap5 rfl rfl rfl rfl (by kernel_rfl) ?_;intro hx;simp only[Tryz.f8];simp only[go_sem,zA,↓reduceIte,↓reduceDIte,zB,zC,zD,zE,zF,zG,zH,zI]
 obtain⟨dg,hnl,h9⟩:=BC x;(have hv:(eX (fK x)).2=0:=by rw[Bc dg]);have hE:=qG (fK x) dg hv (iS l 4);have hS:=Ja x▸au7 (fK x) (FZ (BM x));have ht:gu (iS l 4)=true:=U3 l 4 (by omega)
 have BV:=wY l 4;have hCo:=fun inp h1 h2=>av5 (fK x) dg hS inp (iS l 4) h1 h2 (by omega) (A:=fun _=>True) trivial (fun _ _ _=>trivial) (fun r hr _=>BM x r hr) (fun m=>by unfold Ng;split<;>omega)
 refine⟨_,th,_,as7 x,fun _=>⟨_,as8 l 4 (by omega),fun _=>?_⟩⟩;have e4:Int.toNat 4=4:=rfl;rw[e4];obtain⟨L,e,bQ⟩: ∃L e,xZ (fK x) (iS l 4)=(L,e):=⟨_,_,rfl⟩;rw[bQ]at hE
 refine⟨_,hE,fun _=>?_⟩;by_cases he:e=0;(·subst he;obtain⟨inp,c,rfl,hi,h40,Lq⟩:=a86 dg bQ;have hL:=hCo inp (by unfold Ib;rw[Lq,decide_eq_true h40];rfl) h40;(have h2:Ib inp=true:=by unfold Ib;rw[Lq,decide_eq_true h40];rfl);refine⟨fun a=>absurd rfl a,fun _=>?_⟩;refine ah.bH (X:=Nat) (fun(i:Nat)=>[(11,.iv (.int .i64) (i:Int)),(10,.iv .str (inp.take i))]) (fun(i:Nat)=>[]) (fun(i:Nat)=>i≤inp.length) (fun(i:Nat)=>inp.length-i) 0 ?_;intro b1 b2 bg bu;simp(config:= {maxSteps:=4000000})only[go_sem,zA,↓reduceIte,↓reduceDIte,zB,zC,zD,zE,zF,zG,zH,zI]at bg bu;subst bg;subst bu;refine⟨(by refine⟨?_,?_,rfl,rfl⟩<;>repeat' (first|exact trivial|exact Or.inl rfl|exact Or.inr rfl|apply bw|apply bx|apply bz|apply bD|exact⟨(by show(_:Nat)<1000000000;omega),rfl,rfl⟩|rfl|(refine And.intro (Or.inl ?_) ?_)|(refine And.intro ?_ ?_))),?_,?_⟩;(·exact Nat.zero_le _);intro i vN back;refine av ae ⟨_,ap5,rfl⟩ 2000 _ _ (by kernel_rfl) ?_;simp only[go_sem,zA,↓reduceIte,↓reduceDIte,zB,zC,zD,zE,zF,zG,zH,zI];rw[List.length_map];refine⟨fun h3=>?_,fun h3=>?_⟩;(·obtain⟨c,hc⟩:=an (xs:=inp) (i:=i) (by omega);(have hm:(inp.map ib)[i]?=some (ib c):=by rw[List.getElem?_map,hc];rfl);(have ht2:inp.take i++(ib c).2.1=inp.take (i+1):=by rw[List.take_add_one,hc];rfl);(have ht3:(inp.take i).length=i:=by rw[List.length_take];omega);refine⟨by omega,_,hm,fun _=>⟨by omega,_,hm,fun _=>⟨fun h4=>absurd h4 (by omega),fun _=>⟨by omega,_,hm,by rw[ht3];show i+1≤_;omega,aw (by omega) (by omega),?_⟩⟩,fun h4=>absurd rfl h4⟩,fun h4=>absurd rfl h4⟩;rw[ht2];exact back _ (i+1) (by refine⟨?_,?_,rfl,rfl⟩<;>repeat' (first|exact trivial|exact Or.inl rfl|exact Or.inr rfl|apply bw|apply bx|apply bz|apply bD|exact⟨(by show(_:Nat)<1000000000;omega),rfl,rfl⟩|rfl|(refine And.intro (Or.inl ?_) ?_)|(refine And.intro ?_ ?_))) (by omega) (by omega));·(have e:i=inp.length:=by omega);subst e;have tp:=KW inp;rw[h2]at tp;rw[List.take_length];refine⟨_,tp,?_⟩;simp only[go_sem,zA,↓reduceIte,↓reduceDIte,zB,zC,zD,zE,zF,zG,zH,zI];have oY:=fun r=> @Gc _ _ _ _ _ r (fun m=>MZ _ m (by have:=dg.a1;omega)) hi;(obtain⟨C,hC0,hC⟩: ∃C,0≤C∧ ∀r,BQ (fK x).2.2 (fK x).2.1 inp (iS l 4) r→r=C:=by by_cases hex: ∃r,BQ (fK x).2.2 (fK x).2.1 inp (iS l 4) r;(·obtain⟨r,hr⟩:=hex;exact⟨r,oY r hr,fun r2 h=>Vy h hr⟩);·exact⟨0,Int.le_refl _,fun r hr=>absurd ⟨r,hr⟩ hex⟩);exact⟨C,bo9 hL hC,fun _=>⟨fun _=>trivial,fun h=>absurd hC0 h⟩⟩)
 ·obtain⟨rfl,hee⟩:=a87 bQ he;refine⟨fun _=>⟨fun h1=>⟨fun h2=>⟨fun _=>⟨fun _=>rfl,fun a=>absurd rfl a⟩,fun h3=>?_⟩,fun h2=>?_⟩,fun _=>⟨fun _=>rfl,fun a=>absurd rfl a⟩⟩,fun h=>absurd h he⟩;(·rcases hee with h|h;(·exact absurd h h1);·exact absurd h.1 h3);·rcases hee with h|h;(·exact absurd h h1);·rw[xX,h.2,Bool.or_false,decide_eq_true_eq]at ht;exact absurd ht h2
end Go.Proofs.YtgpkijnphchkpaaGreat
namespace Go.Proofs.YtgpkijnphchkpaaGreat
open Go.ChangeShapes Go.WideShapes Go.ChangeAt Go.RowKit
theorem Vz:ownKnob Tryz.prog.godebug=none:=by kernel_rfl
theorem VA:laidOutB env.P=true:=by kernel_rfl
theorem Jj(xs:List (Sigma Ty.den))(h:xs.map (·.1)=[lL,.sl (.int .u8)]):PC env 8 xs .bool true:=by
 match xs,h with|[⟨_,y0⟩,⟨_,y1⟩],h=>injection h with h1 h;injection h with h2 h;dsimp only at h1 h2;subst h1 h2;exact Ji y0 y1
set_option maxRecDepth 100000 in theorem BT(os:Go.Os)(started:os.Started)(H:Type)(enc:TypeId×Value→H):ReturnsInHanded {} Tryz.checked os 8 .any (Rows.retakeReturnsSpec.pre6 enc Tryz.prog Tryz.f8 Rows.retakeReturnsRow.domain false) (Rows.retakeReturnsSpec.post enc Tryz.prog Tryz.f8 false true false false):=by
 refine returnsInHanded_of_change (C:=Tryz.checked) Vz started (by kernel_rfl) ap5 (ChangeSpec.witness6 (enc:=enc) (C:=Tryz.checked) false ⟨#[],#[.agg #[.int .u8 0,.int .u8 0,.slice none 0 0],.slice none 0 0],[]⟩ 8 (by kernel_rfl) (by kernel_rfl) (by kernel_rfl) (by kernel_rfl)) ?_
 intro W base args ds gs before oX hW _ _;refine OB (E:=env) (b0:=base) (Ts:=[lL,.sl (.int .u8)]) (tb:=4) ae VA (of_decide_eq_true (by kernel_rfl)) rfl rfl rfl (by kernel_rfl) rfl ?_ Jj (fun g hg=>by cases hg) oX hW
 intro ds hds;match ds,hds with|[d0,d1],_=>rfl
theorem returns_holds:Rows.RetakeReturnsSaid:=OpenClaim.holds_of_wide 8 Tryz.f8 rfl rfl rfl rfl rfl rfl rfl ⟨rfl,rfl,rfl,rfl,rfl⟩ rfl rfl rfl rfl rfl (by kernel_rfl) ap5 (by kernel_rfl) (of_decide_eq_true (by kernel_rfl)) (by unfold Func.isWrapper;first|(rw[if_pos (by decide+kernel)];kernel_rfl)|(rw[if_neg (by decide+kernel)];exact⟨rfl,rfl⟩)) (fun os started H enc _=>BT os started H enc)
end Go.Proofs.YtgpkijnphchkpaaGreat
