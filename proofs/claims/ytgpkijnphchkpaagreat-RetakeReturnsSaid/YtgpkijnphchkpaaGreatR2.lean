/- Contracts: the reference of words' events and of compositions. Nothing here is trusted; no condition. -/
import Derived.Test.YtgpkijnphchkpaaGreatR1
set_option linter.unusedSimpArgs false
set_option linter.unusedVariables false
open Nat renaming reduceBEq→zA,reduceAdd→zB,reduceSub→zC,reduceMul→zD,reduceLeDiff→zE
open Int renaming reduceLT→zF,reduceLE→zG,reduceToNat→zH,reduceNeg→zI
namespace Go.Proofs.YtgpkijnphchkpaaGreat
attribute[local go_sem←]Bool.decide_and Bool.decide_or decide_not
attribute[local go_sem]ir lG lH lI ju St.ef aS bV I1 ft bC St.fin gZ hH hZ gE eL pdI
set_option maxHeartbeats 4000000
set_option maxRecDepth 100000
abbrev Nb:=List Ev×List Slot×Int×List Pin×Int
def D4:Nb:=([],[],0,[],0)
def I2(s:db)(ws:List aI):Nb×Int:=match lU s ws ([],[],[])with|(a,e)=>if e≠0 then(D4,e)else if 40<a.1.length then(D4,2)else((a.1,a.2.1,(a.1.length:Int),a.2.2,0),0)
def cs0:List PV:=ma 4 ([.ref 4 0,.ref 5 0,.ref 6 0]++ma 63 [])
theorem FV {s:St} (h4:s.get 4= .ref 4 0)(h5:s.get 5= .ref 5 0)(h6:s.get 6= .ref 6 0): ∀t p,cs0[t]?=some p→p=s.get t∨p= .any:=by
 intro t p h;rcases Fc h with h|⟨h1,h2⟩;(·exact .inr h);·obtain⟨k,rfl⟩: ∃k,t=k+4:=⟨t-4,by omega⟩;rw[Nat.add_sub_cancel]at h2;match k,h2 with|0,h2=>exact .inl (by rw[h4];exact(Option.some.inj h2).symm)|1,h2=>exact .inl (by rw[h5];exact(Option.some.inj h2).symm)|2,h2=>exact .inl (by rw[h6];exact(Option.some.inj h2).symm)|k+3,h2=>have h3:(ma 63 [])[k]?=some p:=h2;rcases Fc h3 with h|⟨h4,h5⟩;(·exact .inr h);·cases h5
theorem vy.mono {a:Acc} {n m:Nat} (h:vy a n)(hn:n≤m):vy a m:=⟨by have:=h.len;omega,h.sl,by have:=h.pn;omega,h.nil⟩
theorem I3 {s:db} (hs:iB s): ∀(ws:List aI)(a:Acc)(k:Nat),vy a k→vy (lU s ws a).1 (k+ws.length)|[],a,k,h=>h|w::ws,a,k,h=>by show vy (if(xZ s w).2=0 then lU s ws (Pr a (xZ s w).1)else(a,(xZ s w).2)).1 _;split;(·rename_i h0;have:=I3 hs ws _ _ (FU h (Lk hs (w:=w) (l:=(xZ s w).1) (by rw[←h0])).1);rw[show k+(w::ws).length=k+1+ws.length from by simp only[List.length_cons];omega];exact this);·exact h.mono (by omega)
theorem Ll(s:db)(hs:iB s)(hv:(eX s).2=0)(ws:List aI)(hw:ws.length≤1000):PC env 12 [⟨al,s⟩,⟨.sl .str,ws⟩] (.bq gK (.int .i64)) (I2 s ws):=by
 have eZ:=Ps s hs hv ws hw;obtain⟨⟨E,S,P⟩,e,hr⟩: ∃a e,lU s ws ([],[],[])=(a,e):=⟨_,_,rfl⟩;have hA:=I3 hs ws ([],[],[]) 0 ⟨by simp,rfl,by simp,fun _=>⟨rfl,rfl⟩⟩;rw[hr]at hA
 unfold I2;rw[hr]at eZ⊢;dsimp only;refine PC.ay (m:=2000) ae bi2 rfl rfl rfl rfl (by kernel_rfl) ?_;intro hx;simp only[Tryz.f12];simp only[go_sem,zA,↓reduceIte,↓reduceDIte,zB,zC,zD,zE,zF,zG,zH,zI]
 refine⟨_,Vf s ws,?_⟩;simp only[go_sem,zA,↓reduceIte,↓reduceDIte,zB,zC,zD,zE,zF,zG,zH,zI];intro dg;change ah env _ (.code (.rangeFunc (.tmp 14) #[15,16] M9 Na)::_) _
 by_cases h0:e=0;(·subst h0;cases E with|nil=>simp only[blF,cF,arF,FR]at eZ;refine ah.rangeFunc ae (q:=1900000000) (gL:=1900000001) (dd:=15) (cs:=cs0) (ids:=[1900000001,4,5,6]) rfl rfl rfl rfl rfl rfl rfl AU rfl (by decide) (by decide) rfl rfl (by decide) (by decide) rfl (FV rfl rfl rfl) rfl rfl (by show 15<70;decide) fun D=>⟨rfl,rfl,eZ D,rfl,rfl,.ready,none,PV.dM (back [1900000001,4,5,6] 15) mG,by kernel_rfl,by decide,?_⟩;dsimp only;refine E8 ae 2000 _ _ (by kernel_rfl) ?_;simp only[go_sem,zA,↓reduceIte,↓reduceDIte,zB,zC,zD,zE,zF,zG,zH,zI];obtain⟨rfl,rfl⟩:=hA.nil rfl;rfl|cons e0 t0=>simp only[blF,cF,arF,FR]at eZ;refine ah.rangeFunc ae (q:=1900000000) (gL:=1900000001) (dd:=15) (cs:=cs0) (ids:=[1900000001,4,5,6]) rfl rfl rfl rfl rfl rfl rfl AU rfl (by decide) (by decide) rfl rfl (by decide) (by decide) rfl (FV rfl rfl rfl) rfl rfl (by show 15<70;decide) fun D=>⟨rfl,rfl,eZ D,rfl,rfl,.ready,none,PV.dM (back [1900000001,4,5,6] 15) mG,by kernel_rfl,by decide,?_⟩;dsimp only;refine E8 ae 2000 _ _ (by kernel_rfl) ?_;simp only[go_sem,zA,↓reduceIte,↓reduceDIte,zB,zC,zD,zE,zF,zG,zH,zI];have hs0:(0:Int)=0:=rfl;rw[if_neg (fun h=>h hs0)];refine⟨fun h=>?_,fun h=>?_⟩;(·rw[if_pos (by omega)];rfl);·rw[if_neg (by omega)])
 ·cases E with|nil=>simp only[blF,cF,arF,FT h0]at eZ;refine ah.rangeFunc ae (q:=1900000000) (gL:=1900000001) (dd:=15) (cs:=cs0) (ids:=[1900000001,4,5,6]) rfl rfl rfl rfl rfl rfl rfl AU rfl (by decide) (by decide) rfl rfl (by decide) (by decide) rfl (FV rfl rfl rfl) rfl rfl (by show 15<70;decide) fun D=>⟨rfl,rfl,eZ D,rfl,rfl,.done,some .ret,PV.dM (back [1900000001,4,5,6] 15) mG,by kernel_rfl,by decide,?_⟩;dsimp only;refine E8 ae 2000 _ _ (by kernel_rfl) ?_;simp only[go_sem,zA,↓reduceIte,↓reduceDIte,zB,zC,zD,zE,zF,zG,zH,zI];rw[if_pos h0];rfl|cons e0 t0=>simp only[blF,cF,arF,FT h0]at eZ;refine ah.rangeFunc ae (q:=1900000000) (gL:=1900000001) (dd:=15) (cs:=cs0) (ids:=[1900000001,4,5,6]) rfl rfl rfl rfl rfl rfl rfl AU rfl (by decide) (by decide) rfl rfl (by decide) (by decide) rfl (FV rfl rfl rfl) rfl rfl (by show 15<70;decide) fun D=>⟨rfl,rfl,eZ D,rfl,rfl,.done,some .ret,PV.dM (back [1900000001,4,5,6] 15) mG,by kernel_rfl,by decide,?_⟩;dsimp only;refine E8 ae 2000 _ _ (by kernel_rfl) ?_;simp only[go_sem,zA,↓reduceIte,↓reduceDIte,zB,zC,zD,zE,zF,zG,zH,zI];rw[if_pos h0];rfl
end Go.Proofs.YtgpkijnphchkpaaGreat
namespace Go.Proofs.YtgpkijnphchkpaaGreat
attribute[local go_sem←]Bool.decide_and Bool.decide_or decide_not
attribute[local go_sem]ft bC
set_option maxHeartbeats 4000000
set_option maxRecDepth 100000
def FW(d e n:Int):Ln.eF:=(d,0,e,5,[],n,d)
def fR(f:Ln.yx→Ln.eF→Ln.yx×Int)(u0:Ln.yx)(d e:Int):List Int→Ln.yx→Ln.yx×Int|[],u=>(u,0)|n::ns,u=>if n=0 then fR f u0 d e ns u else if(f u (FW d e n)).2=0 then fR f u0 d e ns (f u (FW d e n)).1 else(u0,(f u (FW d e n)).2)
theorem FX {f:Ln.yx→Ln.eF→Ln.yx×Int} {u0:Ln.yx} {d e:Int} {q:List Int} {k:Nat} {n:Int} (h:q[k]?=some n)(u:Ln.yx):fR f u0 d e (q.drop k) u=if n=0 then fR f u0 d e (q.drop (k+1)) u else if(f u (FW d e n)).2=0 then fR f u0 d e (q.drop (k+1)) (f u (FW d e n)).1 else(u0,(f u (FW d e n)).2):=by
 rw[drop_cons h];rfl
abbrev uC(u:Ln.yx):List PV:=[.iv (.sl aq) u.1,.iv (.sl au) u.2.1,.iv (.int .i64) u.2.2.1,.iv (.int .i64) u.2.2.2.1,.iv (.int .i64) u.2.2.2.2.1,.iv (.int .i64) u.2.2.2.2.2.1,.iv (.int .i64) u.2.2.2.2.2.2.1,.iv (.int .i64) u.2.2.2.2.2.2.2.1,.iv (.int .i64) u.2.2.2.2.2.2.2.2.1,.iv (.int .i64) u.2.2.2.2.2.2.2.2.2]
theorem I4(u:Ln.yx)(o:Ln.eF):(Ln.fq u o).1.1.length≤u.1.length:=by unfold Ln.fq;(repeat' split);all_goals first|exact Nat.le_refl _|exact List.length_filter_le ..
theorem D6(u:Ln.yx)(d e:Int)(q:List Int)(hu:u.1.length≤1000000):PC env 18 [⟨cr,u⟩,⟨.int .i64,d⟩,⟨.int .i64,e⟩,⟨.sl (.int .i64),q⟩] (.bq cr (.int .i64)) (fR Ln.fq u d e q u):=by
 refine PC.ay (m:=2000) ae ay5 rfl rfl rfl rfl (by kernel_rfl) ?_;intro hx;simp only[Tryz.f18];simp only[go_sem,zA,↓reduceIte,↓reduceDIte,zB,zC,zD,zE,zF,zG,zH,zI]
 have hq:q.length≤9223372036854775807:=hx.2.2.2.1.1;refine ah.bH (X:=Nat×Ln.yx) (fun(z:Nat×Ln.yx)=>[(19,.iv (.int .i64) (z.1:Int))]) (fun(z:Nat×Ln.yx)=>[(10,.box (uC z.2))]) (fun(z:Nat×Ln.yx)=>z.1≤q.length∧z.2.1.length≤1000000∧fR Ln.fq u d e (q.drop z.1) z.2=fR Ln.fq u d e q u) (fun(z:Nat×Ln.yx)=>q.length-z.1) (0,u) ?_
 intro b1 b2 bg bu;simp(config:= {maxSteps:=4000000})only[go_sem,zA,↓reduceIte,↓reduceDIte,zB,zC,zD,zE,zF,zG,zH,zI]at bg bu;subst bg;subst bu;refine⟨(by refine⟨?_,?_,rfl,rfl⟩<;>repeat' (first|exact trivial|exact Or.inl rfl|exact Or.inr rfl|apply bw|apply bx|apply bz|apply bD|exact⟨(by show(_:Nat)<1000000000;omega),rfl,rfl⟩|rfl|(refine And.intro (Or.inl ?_) ?_)|(refine And.intro ?_ ?_))),?_,?_⟩
 (·exact⟨Nat.zero_le _,hu,rfl⟩);·intro⟨k,v⟩⟨hk,hv,hb⟩back;dsimp only at hk hv hb;refine av ae ⟨_,ay5,rfl⟩ 2000 _ _ (by kernel_rfl) ?_;simp only[go_sem,zA,↓reduceIte,↓reduceDIte,zB,zC,zD,zE,zF,zG,zH,zI];refine⟨fun h=>?_,fun h=>?_⟩;(·obtain⟨n,hn⟩:=an (xs:=q) (i:=k) (by omega);have hd:=FX (f:=Ln.fq) (u0:=u) (d:=d) (e:=e) hn v;have hl:=I4 v (FW d e n);refine⟨Int.natCast_nonneg k,n,hn,fun h0=>?_,fun h0=>?_⟩;(·rw[if_pos h0]at hd;exact⟨aw (by omega) (by omega),back _ (k+1,v) (by refine⟨?_,?_,rfl,rfl⟩<;>repeat' (first|exact trivial|exact Or.inl rfl|exact Or.inr rfl|apply bw|apply bx|apply bz|apply bD|exact⟨(by show(_:Nat)<1000000000;omega),rfl,rfl⟩|rfl|(refine And.intro (Or.inl ?_) ?_)|(refine And.intro ?_ ?_))) ⟨by dsimp only;omega,hv,by rw[←hb,hd]⟩ (by dsimp only;omega)⟩);·rw[if_neg h0]at hd;refine⟨_,Ln.Va v (FW d e n) hv,fun _=>⟨fun h1=>?_,fun h1=>?_⟩⟩;(·rw[←hb,hd,if_neg h1]);·rw[if_pos h1]at hd;exact⟨aw (by omega) (by omega),back _ (k+1,(Ln.fq v (FW d e n)).1) (by refine⟨?_,?_,rfl,rfl⟩<;>repeat' (first|exact trivial|exact Or.inl rfl|exact Or.inr rfl|apply bw|apply bx|apply bz|apply bD|exact⟨(by show(_:Nat)<1000000000;omega),rfl,rfl⟩|rfl|(refine And.intro (Or.inl ?_) ?_)|(refine And.intro ?_ ?_))) ⟨by dsimp only;omega,by dsimp only;omega,by rw[←hb,hd]⟩ (by dsimp only;omega)⟩);·rw[←hb,show k=q.length from by omega,List.drop_length];rfl
end Go.Proofs.YtgpkijnphchkpaaGreat
namespace Go.Proofs.YtgpkijnphchkpaaGreat
attribute[local go_sem←]Bool.decide_and Bool.decide_or decide_not
attribute[local go_sem]ft bC
set_option maxHeartbeats 4000000
set_option maxRecDepth 100000
def Lm(e:Ev):Int×aI×Nat×aI×Int×Int:=(e.1,e.2.1,e.2.2.1.length,e.2.2.2.1,e.2.2.2.2.1,e.2.2.2.2.2)
theorem I5(a b:Ev):PC env 39 [⟨bP,a⟩,⟨bP,b⟩] .bool (decide (Lm a=Lm b)):=by
 obtain⟨a1,a2,a3,a4,a5,a6⟩:=a;obtain⟨b1,b2,b3,b4,b5,b6⟩:=b;refine PC.ay (m:=2000) ae bi8 rfl rfl rfl rfl (by kernel_rfl) ?_;intro hx;simp only[Tryz.f39];simp only[go_sem,zA,↓reduceIte,↓reduceDIte,zB,zC,zD,zE,zF,zG,zH,zI]
 have no: ∀ {p:Prop},¬p→(Lm (a1,a2,a3,a4,a5,a6)=Lm (b1,b2,b3,b4,b5,b6)→p)→false=decide (Lm (a1,a2,a3,a4,a5,a6)=Lm (b1,b2,b3,b4,b5,b6)):=fun h1 h2=>(decide_eq_false fun h=>h1 (h2 h)).symm
 refine⟨fun h1=>⟨fun h2=>⟨fun h3=>⟨fun h4=>⟨fun h5=>?_,fun h5=>no h5 fun h=>?_⟩,fun h4=>no h4 fun h=>?_⟩,fun h3=>no h3 fun h=>?_⟩,fun h2=>no h2 fun h=>?_⟩,fun h1=>no h1 fun h=>?_⟩
 (·refine decide_eq_decide.2 ⟨fun h6=>?_,fun h=>(congrArg (·.2.2.2.2.2) h:)⟩;(have h3':a3.length=b3.length:=by omega);unfold Lm;simp only[h1,h2,h3',h4,h5,h6]);(·exact(congrArg (·.2.2.2.2.1) h:))
 (·exact(congrArg (·.2.2.2.1) h:));(·exact congrArg Nat.cast (congrArg (·.2.2.1) h:));(·exact(congrArg (·.2.1) h:));·exact(congrArg (·.1) h:)
theorem vz(a b:List Ev):PC env 16 [⟨.sl bP,a⟩,⟨.sl bP,b⟩] .bool (decide (a.map Lm=b.map Lm)):=by
 refine PC.ay (m:=2000) ae ay4 rfl rfl rfl rfl (by kernel_rfl) ?_;intro hx;simp only[Tryz.f16];simp only[go_sem,zA,↓reduceIte,↓reduceDIte,zB,zC,zD,zE,zF,zG,zH,zI]
 refine⟨fun h=>?_,fun h=>?_⟩;(·symm;rw[decide_eq_false_iff_not];intro he;have:=congrArg List.length he;rw[List.length_map,List.length_map]at this;exact h (by rw[this]))
 (have hl:a.length=b.length:=by omega);have ym:a.length≤9223372036854775807:=hx.1.1;refine ah.bH (X:=Nat) (fun(k:Nat)=>[(5,.iv (.int .i64) (k:Int))]) (fun(k:Nat)=>[]) (fun(k:Nat)=>k≤a.length∧(a.take k).map Lm=(b.take k).map Lm) (fun(k:Nat)=>a.length-k) 0 ?_
 intro b1 b2 bg bu;simp(config:= {maxSteps:=4000000})only[go_sem,zA,↓reduceIte,↓reduceDIte,zB,zC,zD,zE,zF,zG,zH,zI]at bg bu;subst bg;subst bu;refine⟨(by refine⟨?_,?_,rfl,rfl⟩<;>repeat' (first|exact trivial|exact Or.inl rfl|exact Or.inr rfl|apply bw|apply bx|apply bz|apply bD|exact⟨(by show(_:Nat)<1000000000;omega),rfl,rfl⟩|rfl|(refine And.intro (Or.inl ?_) ?_)|(refine And.intro ?_ ?_))),?_,?_⟩
 (·exact⟨Nat.zero_le _,rfl⟩);·intro k⟨hk,he⟩back;refine av ae ⟨_,ay4,rfl⟩ 2000 _ _ (by kernel_rfl) ?_;simp only[go_sem,zA,↓reduceIte,↓reduceDIte,zB,zC,zD,zE,zF,zG,zH,zI];refine⟨fun h2=>?_,fun h2=>?_⟩;(·obtain⟨x,dE⟩: ∃x,a[k]?=some x:=an (by omega);obtain⟨y,hyi⟩: ∃y,b[k]?=some y:=an (by omega);refine⟨Int.natCast_nonneg _,x,dE,Int.natCast_nonneg _,y,hyi,_,I5 x y,?_⟩;simp only[go_sem,zA,↓reduceIte,↓reduceDIte,zB,zC,zD,zE,zF,zG,zH,zI];refine⟨fun hn=>?_,fun hy=>?_⟩;(·symm;rw[decide_eq_false_iff_not];intro hm;(have h3:(a.map Lm)[k]?=(b.map Lm)[k]?:=by rw[hm]);rw[List.getElem?_map,List.getElem?_map,dE,hyi]at h3;exact hn (Option.some.inj h3));·exact⟨aw (by omega) (by omega),back _ (k+1) (by refine⟨?_,?_,rfl,rfl⟩<;>repeat' (first|exact trivial|exact Or.inl rfl|exact Or.inr rfl|apply bw|apply bx|apply bz|apply bD|exact⟨(by show(_:Nat)<1000000000;omega),rfl,rfl⟩|rfl|(refine And.intro (Or.inl ?_) ?_)|(refine And.intro ?_ ?_))) ⟨by omega,by rw[aY dE,aY hyi,List.map_append,List.map_append,he];simp only[List.map_cons,List.map_nil,hy]⟩ (by omega)⟩);·symm;rw[decide_eq_true_eq];rw[List.take_of_length_le (by omega),List.take_of_length_le (by omega)]at he;exact he
def jF:db:=(1,1,[(0,0,[97],[65],1),(0,0,[98],[66],1),(0,0,[97,98],[65,66],1),(0,0,[99],[],0)])
theorem vA:PC env 28 [] al jF:=by
 refine PC.ay (m:=2000) ae bi4 rfl rfl rfl rfl (by kernel_rfl) ?_;intro hx;simp only[Tryz.f28];simp only[go_sem,zA,↓reduceIte,↓reduceDIte,zB,zC,zD,zE,zF,zG,zH,zI]
 rfl
end Go.Proofs.YtgpkijnphchkpaaGreat
