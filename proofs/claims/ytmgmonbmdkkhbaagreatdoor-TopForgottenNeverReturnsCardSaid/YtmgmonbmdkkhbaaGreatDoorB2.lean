/- Steps: what they keep; contracts of the reference's Step and Made, and of the law's step. Nothing here is trusted; no condition. -/
import Derived.Test.YtmgmonbmdkkhbaaGreatDoorB1
set_option linter.unusedSimpArgs false
set_option linter.unusedVariables false
open Nat renaming reduceBEq→zA,reduceAdd→zB,reduceSub→zC,reduceMul→zD,reduceLeDiff→zE
open Int renaming reduceLT→zF,reduceLE→zG,reduceToNat→zH,reduceNeg→zI
namespace Go.Proofs.YtmgmonbmdkkhbaaGreatDoor
set_option maxHeartbeats 1000000
def bI(x y:Int×Int):Bool:=decide (x.1<y.1∨x.1=y.1∧x.2<y.2)
theorem p7 {x y:Int×Int} :bI x y=true↔(x.1<y.1∨x.1=y.1∧x.2<y.2):=by simp[bI]
theorem uN {a b:Int} :mn a b<0↔a<b:=by unfold mn;split<;>(try split)<;>omega
theorem ns {a b:Int} :mn a b=0↔a=b:=by unfold mn;split<;>(try split)<;>omega
theorem uO {x y:Int×Int} :kV x y<0↔bI x y=true:=by
 rw[p7];unfold kV;have h1:=ns (a:=x.1) (b:=y.1);have h2:=uN (a:=x.1) (b:=y.1);have h3:=uN (a:=x.2) (b:=y.2);split<;>omega
theorem rh {x y:Int×Int} :kV x y=0↔x=y:=by unfold kV;have h1:=ns (a:=x.1) (b:=y.1);have h3:=ns (a:=x.2) (b:=y.2);rw[Prod.ext_iff];split<;>omega
theorem dv {x y z:Int×Int} (h:bI x y=true)(h':bI y z=true):bI x z=true:=by rw[p7]at*;omega
theorem gI {x:Int×Int} :bI x x=false:=by cases h:bI x x;(·rfl);·rw[p7]at h;omega
theorem ov {x y:Int×Int} (h:bI x y=false)(hn:x≠y):bI y x=true:=by
 (have h': ¬(bI x y=true):=by rw[h];decide);rw[p7]at*;have: ¬(x.1=y.1∧x.2=y.2):=fun e=>hn (Prod.ext e.1 e.2);omega
/-! Lists that are ordered by places. -/
def lD {α:Type} (pl:α→Int×Int)(l:List α):Prop:=l.Pairwise (fun x y=>bI (pl x) (pl y)=true)
theorem nt {α:Type} {pl:α→Int×Int} {l:List α} (h:lD pl l) {i j:Nat} {x y:α} (hi:l[i]?=some x)(hj:l[j]?=some y)(dG:i<j):bI (pl x) (pl y)=true:=by
 unfold lD at h;rw[List.pairwise_iff_getElem]at h;obtain⟨h1,rfl⟩:=List.getElem?_eq_some_iff.1 hi;obtain⟨h2,rfl⟩:=List.getElem?_eq_some_iff.1 hj;exact h i j h1 h2 dG
theorem rM {α:Type} {pl:α→Int×Int} : ∀ {l:List α},(∀i x y,l[i]?=some x→l[i+1]?=some y→bI (pl x) (pl y)=true)→lD pl l|[],_=>List.Pairwise.nil|[x],_=>List.pairwise_singleton .. |x::y::r,h=>by have hr:lD pl (y::r):=rM (fun i a b ha hb=>h (i+1) a b ha hb);refine List.Pairwise.cons ?_ hr;have hxy:=h 0 x y rfl rfl;intro z hz;rcases List.mem_cons.1 hz with rfl|hz;(·exact hxy);·exact dv hxy ((List.pairwise_cons.1 hr).1 z hz)
theorem A9 {α:Type} {pl:α→Int×Int} {l:List α} {j:Nat} {x y:α} (hx:l[j]?=some x)(hy:l[j+1]?=some y):Xm pl l j=bI (pl x) (pl y):=by
 unfold Xm;rw[hx,hy];dsimp only;have:=uO (x:=pl x) (y:=pl y);cases hb:bI (pl x) (pl y);(·rw[hb]at this;simp at this;simp;omega);·rw[hb]at this;simp at this;simp;omega
theorem rN {α:Type} {pl:α→Int×Int} {l:List α} :yv pl l=true↔lD pl l:=by
 constructor;(·intro h;refine rM fun i x y hx hy=>?_;(have hi:i<l.length-1:=by have:=(List.getElem?_eq_some_iff.1 hy).1;omega);have:=List.all_eq_true.1 h i (List.mem_range.2 hi);rwa[A9 hx hy]at this)
 ·intro h;refine List.all_eq_true.2 fun i hi=>?_;have hi:=List.mem_range.1 hi;obtain⟨x,hx⟩:=ax (xs:=l) (i:=i) (by omega);obtain⟨y,hy⟩:=ax (xs:=l) (i:=i+1) (by omega);rw[A9 hx hy];exact nt h hx hy (by omega)
/-! The binary search's index. -/
theorem J1(lt:Nat→Bool)(N:Nat)(hm: ∀i j,i≤j→j<N→lt j=true→lt i=true): ∀(f i j:Nat),j-i≤f→i≤j→j≤N→(∀k,k<i→lt k=true)→(∀k,j≤k→k<N→lt k=false)→(∀k,k<B0 lt i j→lt k=true)∧ ∀k,B0 lt i j≤k→k<N→lt k=false:=by
 intro f;induction f with|zero=>intro i j h dG hj h1 h2;(have:i=j:=by omega);subst this;unfold B0;rw[if_neg (by omega)];exact⟨h1,h2⟩|succ f ih=>intro i j h dG hj h1 h2;unfold B0;by_cases cN:i<j;(·rw[if_pos cN];cases hc:lt ((i+j)/2);(·rw[if_neg (by decide)];exact ih _ _ (by omega) (by omega) (by omega) h1 fun k hk hkN=>by cases iw:lt k;(·rfl);·rw[hm _ _ hk hkN iw]at hc;cases hc);·rw[if_pos rfl];exact ih _ _ (by omega) (by omega) (by omega) (fun k hk=>hm k _ (by omega) (by omega) hc) h2);·rw[if_neg cN];(have:i=j:=by omega);subst this;exact⟨h1,h2⟩
def gJ {α:Type} (pl:α→Int×Int)(l:List α)(p:Int×Int):Nat:=(l.takeWhile (fun x=>bI (pl x) p)).length
theorem gw {α:Type} {q:α→Bool} : ∀ {l:List α} {k:Nat},k≤l.length→(∀i x,i<k→l[i]?=some x→q x=true)→(∀x,l[k]?=some x→q x=false)→(l.takeWhile q).length=k|[],k,hk,_,_=>(by simp at hk;subst hk;rfl)|a::r,0,_,_,h=>(by simp[List.takeWhile,h a rfl])|a::r,k+1,hk,h1,h2=>by have ha:=h1 0 a (by omega) rfl;have:=gw (l:=r) (k:=k) (by simpa using hk) (fun i x hi hx=>h1 (i+1) x (by omega) hx) (fun x hx=>h2 x hx);simp[List.takeWhile,ha,this]
theorem ow {α:Type} {q:α→Bool} : ∀ {l:List α} {i:Nat} {x:α},i<(l.takeWhile q).length→l[i]?=some x→q x=true|[],i,x,h,_=>(by simp at h)|a::r,0,x,h,hx=>(by simp at hx;subst hx;cases hq:q a;(·simp[List.takeWhile,hq]at h);·rfl)|a::r,i+1,x,h,hx=>by cases hq:q a;(·simp[List.takeWhile,hq]at h);·simp[List.takeWhile,hq]at h;exact ow h hx
theorem mz {α:Type} {q:α→Bool} : ∀ {l:List α} {x:α},l[(l.takeWhile q).length]?=some x→q x=false|[],x,h=>(by simp at h)|a::r,x,h=>by cases hq:q a;(·simp[List.takeWhile,hq]at h;subst h;exact hq);·simp[List.takeWhile,hq]at h;exact mz h
theorem p8 {α:Type} (pl:α→Int×Int)(l:List α)(p:Int×Int):gJ pl l p≤l.length:=(List.takeWhile_sublist _).length_le
theorem sG {α:Type} {pl:α→Int×Int} {l:List α} {p:Int×Int} {i:Nat} {x:α} (h:l[i]?=some x):vX pl l p i=bI (pl x) p:=by
 unfold vX;rw[h];dsimp only;have:=uO (x:=pl x) (y:=p);cases hb:bI (pl x) p;(·rw[hb]at this;simp at this;simp;omega);·rw[hb]at this;simp at this;simp;omega
theorem kW {α:Type} {pl:α→Int×Int} {l:List α} (h:lD pl l)(p:Int×Int):nr pl l p=gJ pl l p:=by
 have hs:=J1 (vX pl l p) l.length (fun i j dG hj ht=>by rcases Nat.lt_or_eq_of_le dG with cN|rfl;(·obtain⟨x,hx⟩:=ax (xs:=l) (i:=i) (by omega);obtain⟨y,hy⟩:=ax (xs:=l) (i:=j) hj;rw[sG hy]at ht;rw[sG hx];exact dv (nt h hx hy cN) ht);·exact ht) l.length 0 l.length (by omega) (by omega) (Nat.le_refl _) (fun k hk=>by omega) (fun k hk iw=>by omega)
 symm;refine gw (gU pl l p) (fun i x hi hx=>?_) (fun x hx=>?_);(·rw[←sG hx];exact hs.1 i hi);·rw[←sG hx];exact hs.2 _ (Nat.le_refl _) (List.getElem?_eq_some_iff.1 hx).1
theorem p9 {α:Type} {pl:α→Int×Int} {l:List α} (h:lD pl l)(p:Int×Int):gi pl l p (nr pl l p)=true↔p∈l.map pl:=by
 rw[kW h];constructor;(·intro hh;unfold gi at hh;split at hh;(·rename_i x hx;have:=rh.1 (of_decide_eq_true hh);exact List.mem_map.2 ⟨x,List.mem_of_getElem? hx,this⟩);·cases hh)
 ·intro hm;obtain⟨y,hy,rfl⟩:=List.mem_map.1 hm;obtain⟨j,hj⟩:=List.getElem?_of_mem hy;have SN:=(List.getElem?_eq_some_iff.1 hj).1;have he:gJ pl l (pl y)=j:=gw (by omega) (fun i x hi hx=>nt h hx hj hi) (fun x hx=>by rw[hj]at hx;injection hx with hx;subst hx;exact gI);unfold gi;rw[he,hj];exact decide_eq_true (rh.2 rfl)
theorem qa {α:Type} {pl:α→Int×Int} {l:List α} {x:α} (h:lD pl l)(hn:pl x∉l.map pl):lD pl (cd l (gJ pl l (pl x)) x):=by
 (have cN: ∀y,y∈l.take (gJ pl l (pl x))→bI (pl y) (pl x)=true:=by intro y hy;obtain⟨i,hi⟩:=List.getElem?_of_mem hy;rw[List.getElem?_take]at hi;split at hi;(·rename_i cN;exact ow (q:=fun y=>bI (pl y) (pl x)) cN hi);·cases hi)
 (have vG: ∀y,y∈l.drop (gJ pl l (pl x))→bI (pl x) (pl y)=true:=by intro y hy;obtain⟨i,hi⟩:=List.getElem?_of_mem hy;rw[List.getElem?_drop]at hi;obtain⟨z,hz⟩:=ax (xs:=l) (i:=gJ pl l (pl x)) (by have:=(List.getElem?_eq_some_iff.1 hi).1;omega);have hzf:=mz (q:=fun y=>bI (pl y) (pl x)) hz;have Xo:bI (pl x) (pl z)=true:=ov hzf fun e=>hn (List.mem_map.2 ⟨z,List.mem_of_getElem? hz,e⟩);cases i with|zero=>rw[Nat.add_zero,hz]at hi;injection hi with hi;subst hi;exact Xo|succ i=>exact dv Xo (nt h hz hi (by omega)))
 unfold cd lD;rw[List.pairwise_append];refine⟨List.Pairwise.sublist (List.take_sublist ..) h,List.Pairwise.cons vG (List.Pairwise.sublist (List.drop_sublist ..) h),fun a ha b hb=>?_⟩
 rcases List.mem_cons.1 hb with rfl|hb;(·exact cN a ha);·exact dv (cN a ha) (vG b hb)
theorem bF {α:Type} {l:List α} {i:Nat} {x y:α} :y∈cd l i x↔y=x∨y∈l:=by
 unfold cd;rw[List.mem_append,List.mem_cons];(conv=>rhs;rw[←List.take_append_drop i l,List.mem_append]);constructor;(·rintro(h|h|h);(·exact .inr (.inl h));(·exact .inl h);·exact .inr (.inr h))
 ·rintro(h|h|h);(·exact .inr (.inl h));(·exact .inl h);·exact .inr (.inr h)
theorem dY {α:Type} {l:List α} {i:Nat} {x:α} (h:i≤l.length):(cd l i x).length=l.length+1:=by simp[cd];omega
end Go.Proofs.YtmgmonbmdkkhbaaGreatDoor
namespace Go.Proofs.YtmgmonbmdkkhbaaGreatDoor
attribute[local go_sem←]Bool.decide_and Bool.decide_or decide_not
attribute[local go_sem]bO
set_option maxHeartbeats 4000000
set_option maxRecDepth 100000
theorem PC.dec {E:Env} {f:Nat} {xs:List (Sigma Ty.den)} {b:Bool} (h:PC E f xs .bool b):PC E f xs .bool (decide (b=true)):=by cases b<;>exact h
theorem EN(r:Rec):PC env 106 [⟨ae,r⟩] .bool (aD r):=by
 refine PC.ao (m:=2000) ah Xa rfl rfl rfl rfl (by kernel_rfl) ?_;intro hx;simp only[Tryz.f106];simp only[go_sem,zA,↓reduceIte,↓reduceDIte,zB,zC,zD,zE,zF,zG,zH,zI]
 unfold aD;(repeat' (first|(with_reducible intro _)|(with_reducible apply And.intro)|(with_reducible refine⟨_,QK _ _ _,?_⟩;try simp only[go_sem,zA,↓reduceIte,↓reduceDIte,zB,zC,zD,zE,zF,zG,zH,zI])|(with_reducible refine⟨_,(EG _).dec,?_⟩;try simp only[go_sem,zA,↓reduceIte,↓reduceDIte,zB,zC,zD,zE,zF,zG,zH,zI])|fail))
 all_goals first|(symm;simp_all;done)|(clear hx;simp_all;done)|(symm;simp;omega)|exact⟨_,QK _ _ _,by clear hx;simp_all⟩
theorem qb(o:aS):PC env 103 [⟨ak,o⟩] .bool (aZ o):=by
 refine PC.ao (m:=2000) ah W9 rfl rfl rfl rfl (by kernel_rfl) ?_;intro hx;simp only[Tryz.f103];simp only[go_sem,zA,↓reduceIte,↓reduceDIte,zB,zC,zD,zE,zF,zG,zH,zI]
 unfold aZ rk rk1 Sq rk4 rk5;(repeat' (first|(with_reducible intro _)|(with_reducible apply And.intro)|(with_reducible refine⟨_,QK _ _ _,?_⟩;try simp only[go_sem,zA,↓reduceIte,↓reduceDIte,zB,zC,zD,zE,zF,zG,zH,zI])|(with_reducible refine⟨_,(EG _).dec,?_⟩;try simp only[go_sem,zA,↓reduceIte,↓reduceDIte,zB,zC,zD,zE,zF,zG,zH,zI])|fail))
 all_goals first|(symm;simp_all;done)|(clear hx;simp_all;done)|(symm;simp;omega)|exact⟨_,QK _ _ _,by clear hx;simp_all⟩|(clear hx;simp_all;omega)
end Go.Proofs.YtmgmonbmdkkhbaaGreatDoor
namespace Go.Proofs.YtmgmonbmdkkhbaaGreatDoor
attribute[local go_sem←]Bool.decide_and Bool.decide_or decide_not
set_option maxHeartbeats 4000000
set_option maxRecDepth 100000
theorem Ba(x y:Int×Int):PC env 144 [⟨bD,x⟩,⟨bD,y⟩] .bool (bI x y):=by
 refine PC.ao (m:=2000) ah Xg rfl rfl rfl rfl (by kernel_rfl) ?_;intro hx;simp only[Tryz.f144];simp only[go_sem,zA,↓reduceIte,↓reduceDIte,zB,zC,zD,zE,zF,zG,zH,zI]
 unfold bI;refine⟨fun h=>⟨fun h2=>?_,fun h2=>?_⟩,fun h=>?_⟩;(·simp[h,h2]);(·simp[h,h2]);·simp[h]
theorem nN(a b:List Rec):PC env 12 [⟨.sl ae,a⟩,⟨.sl ae,b⟩] .bool (decide (a=b)):=by
 refine PC.ao (m:=2000) ah Sa rfl rfl rfl rfl (by kernel_rfl) ?_;intro hx;simp only[Tryz.f12];simp only[go_sem,zA,↓reduceIte,↓reduceDIte,zB,zC,zD,zE,zF,zG,zH,zI]
 refine⟨fun h=>?_,fun h=>?_⟩;(·symm;rw[decide_eq_false_iff_not];rintro rfl;exact h rfl);refine av.cU (X:=Nat) (fun(k:Nat)=>[(5,.iv (.int .i64) (k:Int))]) (fun(k:Nat)=>[]) (fun(k:Nat)=>k≤a.length∧a.take k=b.take k) (fun(k:Nat)=>a.length-k) 0 ?_
 intro b1 b2 ck cH;simp(config:= {maxSteps:=4000000})only[go_sem,zA,↓reduceIte,↓reduceDIte,zB,zC,zD,zE,zF,zG,zH,zI]at ck cH;subst ck;subst cH;refine⟨(by refine⟨?_,?_,rfl,rfl⟩<;>repeat' (first|exact trivial|exact Or.inl rfl|exact Or.inr rfl|apply cV|apply cW|apply cX|apply cY|exact⟨(by show(_:Nat)<1000000000;omega),rfl,rfl⟩|rfl|(refine And.intro (Or.inl ?_) ?_)|(refine And.intro ?_ ?_))),?_,?_⟩
 (·exact⟨Nat.zero_le _,rfl⟩);have rZ:a.length≤9223372036854775807:=hx.1.1;intro k⟨hk,he⟩back;refine ay ah ⟨_,Sa,rfl⟩ 2000 _ _ (by kernel_rfl) ?_;simp only[go_sem,zA,↓reduceIte,↓reduceDIte,zB,zC,zD,zE,zF,zG,zH,zI]
 refine⟨fun h2=>?_,fun h2=>?_⟩;(·obtain⟨x,cJ⟩: ∃x,a[k]?=some x:=ax (by omega);obtain⟨y,Gc⟩: ∃y,b[k]?=some y:=ax (by omega);refine⟨Int.natCast_nonneg _,x,cJ,Int.natCast_nonneg _,y,Gc,fun hn=>?_,fun hy=>?_⟩;(·symm;rw[decide_eq_false_iff_not];rintro rfl;rw[cJ]at Gc;injection Gc with Gc;subst Gc;exact hn ⟨rfl,rfl,rfl,rfl,rfl,rfl⟩);·(have e:x=y:=by obtain⟨e1,e2,e3,e4,e5,e6⟩:=hy;exact Prod.ext e1 (Prod.ext e2 (Prod.ext e3 (Prod.ext e4 (Prod.ext e5 e6)))));subst e;exact⟨aH (by omega) (by omega),back _ (k+1) (by refine⟨?_,?_,rfl,rfl⟩<;>repeat' (first|exact trivial|exact Or.inl rfl|exact Or.inr rfl|apply cV|apply cW|apply cX|apply cY|exact⟨(by show(_:Nat)<1000000000;omega),rfl,rfl⟩|rfl|(refine And.intro (Or.inl ?_) ?_)|(refine And.intro ?_ ?_))) ⟨by omega,by rw[bA cJ,bA Gc,he]⟩ (by omega)⟩)
 ·symm;rw[decide_eq_true_eq];have e1:a.take k=a:=List.take_of_length_le (by omega);have e2:b.take k=b:=List.take_of_length_le (by omega);rwa[e1,e2]at he
noncomputable def eqP {α:Type} (a b:α):Bool:= @decide (a=b) (Classical.propDecidable _)
theorem av4 {α:Type} {a b:α} (h:eqP a b=true):a=b:= @of_decide_eq_true _ (Classical.propDecidable _) h
theorem J2 {α:Type} {a b:α} (h:a=b):eqP a b=true:= @decide_eq_true _ (Classical.propDecidable _) h
theorem Bb {α:Type} {a b:α} (h:a≠b):eqP a b=false:= @decide_eq_false _ (Classical.propDecidable _) h
theorem Xp(a b:cn):PC env 23 [⟨az,a⟩,⟨az,b⟩] .bool (eqP a b):=by
 refine PC.ao (m:=2000) ah Sd rfl rfl rfl rfl (by kernel_rfl) ?_;intro hx;simp only[Tryz.f23];simp only[go_sem,zA,↓reduceIte,↓reduceDIte,zB,zC,zD,zE,zF,zG,zH,zI]
 refine⟨fun h1=>⟨fun h2=>⟨_,nN a.1 b.1,?_⟩,fun h2=>?_⟩,fun h1=>?_⟩;(·simp only[go_sem,zA,↓reduceIte,↓reduceDIte,zB,zC,zD,zE,zF,zG,zH,zI];refine⟨fun h3=>?_,fun h3=>?_⟩;(·symm;apply Bb;rintro rfl;exact h3 rfl);·refine av.cU (X:=Nat) (fun(k:Nat)=>[(5,.iv (.int .i64) (k:Int))]) (fun(k:Nat)=>[]) (fun(k:Nat)=>k≤a.2.1.length∧a.2.1.take k=b.2.1.take k) (fun(k:Nat)=>a.2.1.length-k) 0 ?_;intro b1 b2 ck cH;simp(config:= {maxSteps:=4000000})only[go_sem,zA,↓reduceIte,↓reduceDIte,zB,zC,zD,zE,zF,zG,zH,zI]at ck cH;subst ck;subst cH;refine⟨(by refine⟨?_,?_,rfl,rfl⟩<;>repeat' (first|exact trivial|exact Or.inl rfl|exact Or.inr rfl|apply cV|apply cW|apply cX|apply cY|exact⟨(by show(_:Nat)<1000000000;omega),rfl,rfl⟩|rfl|(refine And.intro (Or.inl ?_) ?_)|(refine And.intro ?_ ?_))),?_,?_⟩;(·exact⟨Nat.zero_le _,rfl⟩);have rZ:a.2.1.length≤9223372036854775807:=hx.1.2.1.1;intro k⟨hk,he⟩back;refine ay ah ⟨_,Sd,rfl⟩ 2000 _ _ (by kernel_rfl) ?_;simp only[go_sem,zA,↓reduceIte,↓reduceDIte,zB,zC,zD,zE,zF,zG,zH,zI];refine⟨fun h4=>?_,fun h4=>?_⟩;(·obtain⟨x,cJ⟩: ∃x,a.2.1[k]?=some x:=ax (by omega);obtain⟨y,Gc⟩: ∃y,b.2.1[k]?=some y:=ax (by omega);refine⟨Int.natCast_nonneg _,x,cJ,Int.natCast_nonneg _,y,Gc,fun hn=>?_,fun hy=>?_⟩;(·symm;apply Bb;rintro rfl;rw[cJ]at Gc;injection Gc with Gc;subst Gc;exact hn ⟨rfl,rfl,rfl,rfl,rfl,rfl,rfl⟩);·(have e:x=y:=by obtain⟨e1,e2,e3,e4,e5,e6,e7⟩:=hy;exact Prod.ext e1 (Prod.ext e2 (Prod.ext e3 (Prod.ext e4 (Prod.ext e5 (Prod.ext e6 e7))))));subst e;exact⟨aH (by omega) (by omega),back _ (k+1) (by refine⟨?_,?_,rfl,rfl⟩<;>repeat' (first|exact trivial|exact Or.inl rfl|exact Or.inr rfl|apply cV|apply cW|apply cX|apply cY|exact⟨(by show(_:Nat)<1000000000;omega),rfl,rfl⟩|rfl|(refine And.intro (Or.inl ?_) ?_)|(refine And.intro ?_ ?_))) ⟨by omega,by rw[bA cJ,bA Gc,he]⟩ (by omega)⟩);·symm;apply J2;have e1:a.2.1.take k=a.2.1:=List.take_of_length_le (by omega);have e2:b.2.1.take k=b.2.1:=List.take_of_length_le (by omega);rw[e1,e2]at he;obtain⟨e1,e2,e3,e4,e5,e6,e7,e8⟩:=h2;exact Prod.ext h3 (Prod.ext he (Prod.ext e1 (Prod.ext e2 (Prod.ext e3 (Prod.ext e4 (Prod.ext e5 (Prod.ext e6 (Prod.ext e7 e8)))))))))
 (·symm;apply Bb;rintro rfl;exact h2 ⟨rfl,rfl,rfl,rfl,rfl,rfl,rfl,rfl⟩);·symm;apply Bb;rintro rfl;exact h1 rfl
abbrev Lrt:=cn×Int×Int
end Go.Proofs.YtmgmonbmdkkhbaaGreatDoor
namespace Go.Proofs.YtmgmonbmdkkhbaaGreatDoor
set_option maxHeartbeats 1000000
theorem eE(L:L8) {d i:Int} (y:Int)(h0:0≤i)(h7:i≤7)(cz:i≠d):aw (fq L d y) i=aw L i:=by
 (have h:i=0∨i=1∨i=2∨i=3∨i=4∨i=5∨i=6∨i=7:=by omega);unfold aw QO fq;rcases h with rfl|rfl|rfl|rfl|rfl|rfl|rfl|rfl<;>(simp;intro e;exact absurd e.symm cz)
theorem il(L:L8) {d i:Int} (h0:0≤i)(h7:i≤7):aw L i≤aw (fq L d (aw L d+1)) i:=by by_cases e:i=d;(·subst e;rw[dR L _ h0 h7];omega);·rw[eE L _ h0 h7 e];omega
structure VU(u:cn):Prop where
 l1:u.1.length≤400
 l2:u.2.1.length≤400
 last: ∀i:Int,0≤i→i≤7→0≤aw u.2.2 i∧aw u.2.2 i≤1000000
 ord: ∀o,o∈u.2.1→aZ o=true∧o.2.1≤aw u.2.2 o.1
 sO:lD dU u.2.1
 sR:lD a7 u.1
 sH: ∀r,r∈u.1→aD r=true∧r.2.1≤aw u.2.2 r.1∧a7 r∉u.2.1.map dU∧ ∀o,o∈u.2.1→bf o r=false
theorem J3(L:L8):(QO L).all uM=true↔ ∀i:Int,0≤i→i≤7→0≤aw L i∧aw L i≤1000000:=by
 constructor;(·intro h i h0 h7;have:=List.all_eq_true.1 h _ (List.mem_of_getElem? (gV L h0 h7));exact of_decide_eq_true this);·intro h;refine List.all_eq_true.2 fun x hx=>decide_eq_true ?_;obtain⟨k,hk⟩:=List.getElem?_of_mem hx;have hk8:k<8:=(List.getElem?_eq_some_iff.1 hk).1;have:=gV L (i:=(k:Int)) (by omega) (by omega);rw[Int.toNat_natCast,hk]at this;injection this with this;rw[this];exact h _ (by omega) (by omega)
theorem Xq(u:cn):J0 u=true↔VU u:=by
 unfold J0;rw[Bool.and_eq_true,Bool.and_eq_true,Bool.and_eq_true,Bool.and_eq_true,Bool.and_eq_true,decide_eq_true_eq,J3,rN,rN,List.all_eq_true,List.all_eq_true]
 constructor;(·rintro⟨⟨h1,h2⟩,h3,h4,⟨h5,h6⟩,h7⟩;refine⟨h1,h2,h3,fun o ho=>?_,h5,h6,fun r hr=>?_⟩;(·have:=h4 o ho;simpa[JZ]using this);·have:=h7 r hr;simp only[JY,Bool.and_eq_true,decide_eq_true_eq,Bool.not_eq_true',Bool.or_eq_false_iff]at this;obtain⟨⟨a,b⟩,c,d⟩:=this;refine⟨a,b,fun hm=>?_,fun o ho=>?_⟩;(·rw[(p9 h5 _).2 hm]at c;cases c);·exact(Bool.eq_false_iff.2 fun hh=>by rw[List.any_eq_true.2 ⟨o,ho,hh⟩]at d;cases d))
 ·intro h;refine⟨⟨h.l1,h.l2⟩,h.last,fun o ho=>?_,⟨h.sO,h.sR⟩,fun r hr=>?_⟩;(·simpa[JZ]using h.ord o ho);·obtain⟨a,b,c,d⟩:=h.sH r hr;simp only[JY,Bool.and_eq_true,decide_eq_true_eq,Bool.not_eq_true',Bool.or_eq_false_iff];refine⟨⟨a,b⟩,?_,?_⟩;(·exact Bool.eq_false_iff.2 fun hh=>c ((p9 h.sO _).1 hh));·exact Bool.eq_false_iff.2 fun hh=>by obtain⟨o,ho,hm⟩:=List.any_eq_true.1 hh;rw[d o ho]at hm;cases hm
def rAt(r:Rec)(n:Int):Rec:=(r.1,n,r.2.2)
def oAt(o:aS)(n:Int):aS:=(o.1,n,o.2.2)
theorem nu {r:Rec} {n:Int} (h:aD (r.1,1,r.2.2)=true)(h1:1≤n)(h2:n≤1000000):aD (r.1,n,r.2.2)=true:=by
 unfold aD at h⊢;simp only[Bool.and_eq_true,decide_eq_true_eq]at h⊢;exact⟨⟨h.1.1,⟨h1,h2⟩,h.1.2.2⟩,h.2⟩
theorem ft {r:Rec} {n:Int} (h:aD (r.1,n,r.2.2)=true):0≤r.1∧r.1≤7:=by unfold aD at h;simp only[Bool.and_eq_true,decide_eq_true_eq]at h;exact h.1.1
theorem ag9(o:aS)(n:Int):rk (o.1,n,o.2.2)=rk o:=rfl
theorem ri {o:aS} {n:Int} (h:aZ (o.1,1,o.2.2)=true)(h1:1≤n)(h2:n≤1000000):aZ (o.1,n,o.2.2)=true:=by
 unfold aZ at h⊢;simp only[Bool.and_eq_true,decide_eq_true_eq,ag9]at h⊢;exact⟨⟨h.1.1,⟨h1,h2⟩,h.1.2.2⟩,h.2⟩
theorem eF {o:aS} {n:Int} (h:aZ (o.1,n,o.2.2)=true):0≤o.1∧o.1≤7:=by unfold aZ at h;simp only[Bool.and_eq_true,decide_eq_true_eq]at h;exact h.1.1
theorem fQ {r:Rec} (h:aD r=true):0≤r.1∧r.1≤7:=by unfold aD at h;simp only[Bool.and_eq_true,decide_eq_true_eq]at h;exact h.1.1
theorem qc {o:aS} (h:aZ o=true):0≤o.1∧o.1≤7:=by unfold aZ at h;simp only[Bool.and_eq_true,decide_eq_true_eq]at h;exact h.1.1
theorem Yl(o:aS)(r:Rec)(n:Int):bf (o.1,n,o.2.2) r=bf o r:=rfl
theorem xb {L:L8} {d:Int} (h0:0≤d)(h7:d≤7)(hd:aw L d<1000000)(h: ∀i:Int,0≤i→i≤7→0≤aw L i∧aw L i≤1000000): ∀i:Int,0≤i→i≤7→0≤aw (fq L d (aw L d+1)) i∧aw (fq L d (aw L d+1)) i≤1000000:=by
 intro i hi G1;have:=h i hi G1;by_cases e:i=d;(·subst e;rw[dR L _ hi G1];omega);·rw[eE L _ hi G1 e];omega
theorem jZ {u:cn} {r:Rec} (hr:aD (r.1,1,r.2.2)=true)(h1:u.1.length<400)(hd:aw u.2.2 r.1<1000000):bY u r=((if u.2.1.any (fun o=>bf o (r.1,aw u.2.2 r.1+1,r.2.2))then(u.1,u.2.1,fq u.2.2 r.1 (aw u.2.2 r.1+1))else(cd u.1 (nr a7 u.1 (r.1,aw u.2.2 r.1+1)) (r.1,aw u.2.2 r.1+1,r.2.2),u.2.1,fq u.2.2 r.1 (aw u.2.2 r.1+1))),aw u.2.2 r.1+1,0):=by
 unfold bY;rw[if_pos hr,if_neg (by omega)]
theorem nv {u:cn} (hu:VU u) {d:Int} :(d,aw u.2.2 d+1)∉u.2.1.map dU∧(d,aw u.2.2 d+1)∉u.1.map a7:=by
 constructor<;>intro h;(·obtain⟨o,ho,he⟩:=List.mem_map.1 h;have h1:=(hu.ord o ho).2;have e1:o.1=d:=congrArg Prod.fst he;have e2:o.2.1=aw u.2.2 d+1:=congrArg Prod.snd he;rw[e1]at h1;omega)
 ·obtain⟨r,hr,he⟩:=List.mem_map.1 h;have h1:=(hu.sH r hr).2.1;have e1:r.1=d:=congrArg Prod.fst he;have e2:r.2.1=aw u.2.2 d+1:=congrArg Prod.snd he;rw[e1]at h1;omega
theorem uP {u:cn} {r:Rec} (hu:VU u)(hr:aD (r.1,1,r.2.2)=true)(h1:u.1.length<400)(hd:aw u.2.2 r.1<1000000):VU (bY u r).1:=by
 rw[jZ hr h1 hd];dsimp only;obtain⟨d0,d7⟩:=ft hr;have hl:=hu.last r.1 d0 d7;have fb:=xb d0 d7 hd hu.last;(have nH: ∀o,o∈u.2.1→aZ o=true∧o.2.1≤aw (fq u.2.2 r.1 (aw u.2.2 r.1+1)) o.1:=fun o ho=>by obtain⟨a,b⟩:=hu.ord o ho;obtain⟨e0,e7⟩:=qc a;exact⟨a,Int.le_trans b (il _ e0 e7)⟩)
 (have r9: ∀x,x∈u.1→aD x=true∧x.2.1≤aw (fq u.2.2 r.1 (aw u.2.2 r.1+1)) x.1∧a7 x∉u.2.1.map dU∧ ∀o,o∈u.2.1→bf o x=false:=fun x hx=>by obtain⟨a,b,c,d⟩:=hu.sH x hx;obtain⟨e0,e7⟩:=fQ a;exact⟨a,Int.le_trans b (il _ e0 e7),c,d⟩)
 split;(·exact⟨hu.l1,hu.l2,fb,nH,hu.sO,hu.sR,r9⟩);·rename_i hm;have hp:a7 (r.1,aw u.2.2 r.1+1,r.2.2)=(r.1,aw u.2.2 r.1+1):=rfl;refine⟨?_,hu.l2,fb,nH,hu.sO,?_,fun x hx=>?_⟩;(·dsimp only;rw[dY (gU _ _ _)];omega);(·dsimp only;rw[kW hu.sR,←hp];exact qa hu.sR (nv hu).2);·rcases bF.1 hx with rfl|hx;(·refine⟨nu hr (by omega) (by omega),?_,(nv hu).1,fun o ho=>?_⟩;(·dsimp only;rw[dR _ _ d0 d7];exact Int.le_refl _);·exact Bool.eq_false_iff.2 fun hh=>hm (List.any_eq_true.2 ⟨o,ho,hh⟩));·exact r9 x hx
theorem kX {u:cn} {o:aS} (hr:aZ (o.1,1,o.2.2)=true)(h1:u.2.1.length<400)(hd:aw u.2.2 o.1<1000000):bQ u o=((u.1.filter (fun r=>!(bf (o.1,aw u.2.2 o.1+1,o.2.2) r)),cd u.2.1 (nr dU u.2.1 (o.1,aw u.2.2 o.1+1)) (o.1,aw u.2.2 o.1+1,o.2.2),fq u.2.2 o.1 (aw u.2.2 o.1+1)),0):=by
 unfold bQ;rw[if_pos hr,if_neg (by omega)]
theorem xc {u:cn} {o:aS} (hu:VU u)(hr:aZ (o.1,1,o.2.2)=true)(h1:u.2.1.length<400)(hd:aw u.2.2 o.1<1000000):VU (bQ u o).1:=by
 rw[kX hr h1 hd];dsimp only;obtain⟨d0,d7⟩:=eF hr;have hl:=hu.last o.1 d0 d7;have fb:=xb d0 d7 hd hu.last;have hp:dU (o.1,aw u.2.2 o.1+1,o.2.2)=(o.1,aw u.2.2 o.1+1):=rfl
 refine⟨Nat.le_trans (List.length_filter_le ..) hu.l1,?_,fb,fun x hx=>?_,?_,List.Pairwise.sublist List.filter_sublist hu.sR,fun x hx=>?_⟩;(·dsimp only;rw[dY (gU _ _ _)];omega)
 (·rcases bF.1 hx with rfl|hx;(·refine⟨ri hr (by omega) (by omega),?_⟩;dsimp only;rw[dR _ _ d0 d7];exact Int.le_refl _);·obtain⟨a,b⟩:=hu.ord x hx;obtain⟨e0,e7⟩:=qc a;exact⟨a,Int.le_trans b (il _ e0 e7)⟩)
 (·dsimp only;rw[kW hu.sO,←hp];exact qa hu.sO (nv hu).1);·dsimp only at hx;obtain⟨B2,Bc⟩:=List.mem_filter.1 hx;obtain⟨a,b,c,d⟩:=hu.sH x B2;obtain⟨e0,e7⟩:=fQ a;refine⟨a,Int.le_trans b (il _ e0 e7),fun hm=>?_,fun y hy=>?_⟩;(·obtain⟨y,hy,he⟩:=List.mem_map.1 hm;rcases bF.1 hy with rfl|hy;(·exact(nv hu).2 (List.mem_map.2 ⟨x,B2,he.symm⟩));·exact c (List.mem_map.2 ⟨y,hy,he⟩));·rcases bF.1 hy with rfl|hy;(·simpa using Bc);·exact d y hy
/-! The reference's steps. -/
def bd(o:aS)(r:Rec):Bool:=aZ o&&aD r&&bf o r
def yx(u:cn)(r:Rec):cn×Int×Int:=if aD (r.1,1,r.2.2)=true then if u.1.length=400∨aw u.2.2 r.1=1000000 then(u,0,2)else(if u.2.1.any (fun o=>bd o (r.1,aw u.2.2 r.1+1,r.2.2))then(u.1,u.2.1,fq u.2.2 r.1 (aw u.2.2 r.1+1))else(cd u.1 (gJ a7 u.1 (r.1,aw u.2.2 r.1+1)) (r.1,aw u.2.2 r.1+1,r.2.2),u.2.1,fq u.2.2 r.1 (aw u.2.2 r.1+1)),aw u.2.2 r.1+1,0)else(u,0,240)
def dn(l:List Rec)(os:List aS):List Rec:=l.filter (fun r=>!(os.any (fun o=>bd o r)))
def sI(u:cn)(o:aS):cn×Int:=if aZ (o.1,1,o.2.2)=true then if u.2.1.length=400∨aw u.2.2 o.1=1000000 then(u,2)else((dn u.1 (cd u.2.1 (gJ dU u.2.1 (o.1,aw u.2.2 o.1+1)) (o.1,aw u.2.2 o.1+1,o.2.2)),cd u.2.1 (gJ dU u.2.1 (o.1,aw u.2.2 o.1+1)) (o.1,aw u.2.2 o.1+1,o.2.2),fq u.2.2 o.1 (aw u.2.2 o.1+1)),0)else(u,240)
theorem dc {o:aS} {r:Rec} (ho:aZ o=true)(hr:aD r=true):bd o r=bf o r:=by unfold bd;rw[ho,hr];rfl
theorem j0 {l:List aS} {r:Rec} (ho: ∀o,o∈l→aZ o=true)(hr:aD r=true):l.any (fun o=>bd o r)=l.any (fun o=>bf o r):=by
 rw[Bool.eq_iff_iff,List.any_eq_true,List.any_eq_true];constructor;(·rintro⟨o,h,hh⟩;rw[dc (ho o h) hr]at hh;exact⟨o,h,hh⟩);·rintro⟨o,h,hh⟩;exact⟨o,h,by rw[dc (ho o h) hr];exact hh⟩
theorem Gd {u:cn} (hu:VU u)(r:Rec):yx u r=bY u r:=by
 unfold yx bY;by_cases hr:aD (r.1,1,r.2.2)=true;(·rw[if_pos hr,if_pos hr];obtain⟨d0,d7⟩:=ft hr;have hl:=hu.last r.1 d0 d7;have h1:=hu.l1;by_cases hb:400≤u.1.length∨1000000≤aw u.2.2 r.1;(·rw[if_pos hb,if_pos (by omega)]);·rw[if_neg hb,if_neg (by omega),j0 (fun o ho=>(hu.ord o ho).1) (nu hr (by omega) (by omega)),kW hu.sR])
 ·rw[if_neg hr,if_neg hr]
theorem Da {u:cn} (hu:VU u)(o:aS):sI u o=bQ u o:=by
 unfold sI bQ;by_cases hr:aZ (o.1,1,o.2.2)=true;(·rw[if_pos hr,if_pos hr];obtain⟨d0,d7⟩:=eF hr;have hl:=hu.last o.1 d0 d7;have h1:=hu.l2;by_cases hb:400≤u.2.1.length∨1000000≤aw u.2.2 o.1;(·rw[if_pos hb,if_pos (by omega)]);·rw[if_neg hb,if_neg (by omega),kW hu.sO];(have hk:dn u.1 (cd u.2.1 (gJ dU u.2.1 (o.1,aw u.2.2 o.1+1)) (o.1,aw u.2.2 o.1+1,o.2.2))=u.1.filter (fun r=>!(bf (o.1,aw u.2.2 o.1+1,o.2.2) r)):=by unfold dn;refine List.filter_congr fun r hm=>?_;obtain⟨a,_,_,d⟩:=hu.sH r hm;have ho:aZ (o.1,aw u.2.2 o.1+1,o.2.2)=true:=ri hr (by omega) (by omega);congr 1;rw[Bool.eq_iff_iff,List.any_eq_true];constructor;(·rintro⟨y,hy,hh⟩;rcases bF.1 hy with rfl|hy;(·rwa[dc ho a]at hh);·rw[dc (hu.ord y hy).1 a,d y hy]at hh;cases hh);·intro hh;exact⟨_,bF.2 (.inl rfl),by rw[dc ho a];exact hh⟩);rw[hk])
 ·rw[if_neg hr,if_neg hr]
end Go.Proofs.YtmgmonbmdkkhbaaGreatDoor
namespace Go.Proofs.YtmgmonbmdkkhbaaGreatDoor
attribute[local go_sem←]Bool.decide_and Bool.decide_or decide_not
attribute[local go_sem]bO
set_option maxHeartbeats 4000000
set_option maxRecDepth 100000
theorem Bd {o:aS} (h:aZ o=true):o.2.2.2.1=1∨o.2.2.2.1=2∨o.2.2.2.1=3∨o.2.2.2.1=4∨o.2.2.2.1=5:=by
 unfold aZ rk at h;simp only[Bool.and_eq_true]at h;have h2:=h.2;(repeat' split at h2);all_goals first|(simp_all;done)|cases h2
theorem J4(o:aS)(r:Rec):PC env 145 [⟨ak,o⟩,⟨ae,r⟩] .bool (bd o r):=by
 refine PC.ao (m:=2000) ah Xh rfl rfl rfl rfl (by kernel_rfl) ?_;intro hx;simp only[Tryz.f145];simp only[go_sem,zA,↓reduceIte,↓reduceDIte,zB,zC,zD,zE,zF,zG,zH,zI]
 unfold bd bf mr;have hk:=Bd (o:=o);(repeat' (first|(with_reducible intro _)|(with_reducible apply And.intro)|(with_reducible refine⟨_,(qb o).dec,?_⟩;try simp only[go_sem,zA,↓reduceIte,↓reduceDIte,zB,zC,zD,zE,zF,zG,zH,zI])|(with_reducible refine⟨_,(EN r).dec,?_⟩;try simp only[go_sem,zA,↓reduceIte,↓reduceDIte,zB,zC,zD,zE,zF,zG,zH,zI])|fail))
 all_goals first|(symm;clear hx;simp_all;done)|(clear hx;simp_all;done)|(clear hx;simp_all;omega)
theorem EO(l:List aS)(r:Rec):PC env 107 [⟨.sl ak,l⟩,⟨ae,r⟩] .bool (l.any (fun o=>bd o r)):=by
 refine PC.ao (m:=2000) ah JH rfl rfl rfl rfl (by kernel_rfl) ?_;intro hx;simp only[Tryz.f107];simp only[go_sem,zA,↓reduceIte,↓reduceDIte,zB,zC,zD,zE,zF,zG,zH,zI]
 refine av.cU (X:=Nat) (fun(k:Nat)=>[(5,.iv (.int .i64) (k:Int))]) (fun(k:Nat)=>[]) (fun(k:Nat)=>k≤l.length∧(l.take k).any (fun o=>bd o r)=false) (fun(k:Nat)=>l.length-k) 0 ?_
 intro b1 b2 ck cH;simp(config:= {maxSteps:=4000000})only[go_sem,zA,↓reduceIte,↓reduceDIte,zB,zC,zD,zE,zF,zG,zH,zI]at ck cH;subst ck;subst cH;refine⟨(by refine⟨?_,?_,rfl,rfl⟩<;>repeat' (first|exact trivial|exact Or.inl rfl|exact Or.inr rfl|apply cV|apply cW|apply cX|apply cY|exact⟨(by show(_:Nat)<1000000000;omega),rfl,rfl⟩|rfl|(refine And.intro (Or.inl ?_) ?_)|(refine And.intro ?_ ?_))),?_,?_⟩
 (·exact⟨Nat.zero_le _,rfl⟩);have hll:l.length≤9223372036854775807:=hx.1.1;intro k⟨hk,he⟩back;refine ay ah ⟨_,JH,rfl⟩ 2000 _ _ (by kernel_rfl) ?_;simp only[go_sem,zA,↓reduceIte,↓reduceDIte,zB,zC,zD,zE,zF,zG,zH,zI]
 refine⟨fun h2=>?_,fun h2=>?_⟩;(·obtain⟨x,cJ⟩: ∃x,l[k]?=some x:=ax (by omega);refine⟨Int.natCast_nonneg _,x,cJ,_,(J4 x r).dec,?_⟩;simp only[go_sem,zA,↓reduceIte,↓reduceDIte,zB,zC,zD,zE,zF,zG,zH,zI];refine⟨fun h=>?_,fun h=>?_⟩;(·symm;exact List.any_eq_true.2 ⟨x,List.mem_of_getElem? cJ,h⟩);·exact⟨aH (by omega) (by omega),back _ (k+1) (by refine⟨?_,?_,rfl,rfl⟩<;>repeat' (first|exact trivial|exact Or.inl rfl|exact Or.inr rfl|apply cV|apply cW|apply cX|apply cY|exact⟨(by show(_:Nat)<1000000000;omega),rfl,rfl⟩|rfl|(refine And.intro (Or.inl ?_) ?_)|(refine And.intro ?_ ?_))) ⟨by omega,by rw[mu cJ,he];exact Bool.eq_false_iff.2 h⟩ (by omega)⟩)
 ·have e1:l.take k=l:=List.take_of_length_le (by omega);rw[e1]at he;rw[he]
end Go.Proofs.YtmgmonbmdkkhbaaGreatDoor
namespace Go.Proofs.YtmgmonbmdkkhbaaGreatDoor
attribute[local go_sem←]Bool.decide_and Bool.decide_or decide_not
set_option maxHeartbeats 4000000
set_option maxRecDepth 100000
theorem J5(l:List Rec)(r:Rec)(hl:l.length≤1000000):PC env 108 [⟨.sl ae,l⟩,⟨ae,r⟩] (.sl ae) (cd l (gJ a7 l (a7 r)) r):=by
 refine PC.ao (m:=2000) ah JI rfl rfl rfl rfl (by kernel_rfl) ?_;intro hx;simp only[Tryz.f108];simp only[go_sem,zA,↓reduceIte,↓reduceDIte,zB,zC,zD,zE,zF,zG,zH,zI]
 refine av.cU (X:=Nat) (fun(k:Nat)=>[(5,.iv (.int .i64) (k:Int))]) (fun(k:Nat)=>[]) (fun(k:Nat)=>k≤l.length∧ ∀i x,i<k→l[i]?=some x→bI (a7 x) (a7 r)=true) (fun(k:Nat)=>l.length-k) 0 ?_
 intro b1 b2 ck cH;simp(config:= {maxSteps:=4000000})only[go_sem,zA,↓reduceIte,↓reduceDIte,zB,zC,zD,zE,zF,zG,zH,zI]at ck cH;subst ck;subst cH;refine⟨(by refine⟨?_,?_,rfl,rfl⟩<;>repeat' (first|exact trivial|exact Or.inl rfl|exact Or.inr rfl|apply cV|apply cW|apply cX|apply cY|exact⟨(by show(_:Nat)<1000000000;omega),rfl,rfl⟩|rfl|(refine And.intro (Or.inl ?_) ?_)|(refine And.intro ?_ ?_))),?_,?_⟩
 (·exact⟨Nat.zero_le _,fun i x h=>absurd h (Nat.not_lt_zero i)⟩);intro k⟨hk,he⟩back;refine ay ah ⟨_,JI,rfl⟩ 2000 _ _ (by kernel_rfl) ?_;simp only[go_sem,zA,↓reduceIte,↓reduceDIte,zB,zC,zD,zE,zF,zG,zH,zI]
 refine⟨fun h2=>?_,fun h2=>?_⟩;(·obtain⟨x,cJ⟩: ∃x,l[k]?=some x:=ax (by omega);refine⟨Int.natCast_nonneg _,x,cJ,Int.natCast_nonneg _,x,cJ,_,(Ba _ _).dec,?_⟩;simp only[go_sem,zA,↓reduceIte,↓reduceDIte,zB,zC,zD,zE,zF,zG,zH,zI];refine⟨fun h=>?_,fun h=>?_⟩;(·refine⟨aH (by omega) (by omega),back _ (k+1) (by refine⟨?_,?_,rfl,rfl⟩<;>repeat' (first|exact trivial|exact Or.inl rfl|exact Or.inr rfl|apply cV|apply cW|apply cX|apply cY|exact⟨(by show(_:Nat)<1000000000;omega),rfl,rfl⟩|rfl|(refine And.intro (Or.inl ?_) ?_)|(refine And.intro ?_ ?_))) ⟨by omega,fun i y hi hy=>?_⟩ (by omega)⟩;rcases Nat.lt_succ_iff_lt_or_eq.1 hi with hi|rfl;(·exact he i y hi hy);·rw[cJ]at hy;injection hy with hy;subst hy;exact h);·have Db:gJ a7 l (a7 r)=k:=gw hk he (fun y hy=>by rw[cJ]at hy;injection hy with hy;subst hy;exact Bool.eq_false_iff.2 h);rw[Db];(have h1:(l.take k).length≤k:=by rw[List.length_take];omega);(have h2:(l.drop k).length≤l.length:=by rw[List.length_drop];omega);refine⟨⟨by omega,by omega⟩,by omega,by omega,⟨by omega,by omega⟩,?_,?_⟩;(·rw[List.length_append];simp only[List.length_cons,List.length_nil];omega);·simp[cd])
 ·have Db:gJ a7 l (a7 r)=k:=gw hk he (fun y hy=>by have:=(List.getElem?_eq_some_iff.1 hy).1;omega);rw[Db];(have h1:(l.take k).length≤k:=by rw[List.length_take];omega);(have h3:(l.drop k).length≤l.length:=by rw[List.length_drop];omega);refine⟨⟨by omega,by omega⟩,by omega,by omega,⟨by omega,by omega⟩,?_,?_⟩;(·rw[List.length_append];simp only[List.length_cons,List.length_nil];omega);·simp[cd]
theorem Ge(l:List aS)(r:aS)(hl:l.length≤1000000):PC env 104 [⟨.sl ak,l⟩,⟨ak,r⟩] (.sl ak) (cd l (gJ dU l (dU r)) r):=by
 refine PC.ao (m:=2000) ah JF rfl rfl rfl rfl (by kernel_rfl) ?_;intro hx;simp only[Tryz.f104];simp only[go_sem,zA,↓reduceIte,↓reduceDIte,zB,zC,zD,zE,zF,zG,zH,zI]
 refine av.cU (X:=Nat) (fun(k:Nat)=>[(5,.iv (.int .i64) (k:Int))]) (fun(k:Nat)=>[]) (fun(k:Nat)=>k≤l.length∧ ∀i x,i<k→l[i]?=some x→bI (dU x) (dU r)=true) (fun(k:Nat)=>l.length-k) 0 ?_
 intro b1 b2 ck cH;simp(config:= {maxSteps:=4000000})only[go_sem,zA,↓reduceIte,↓reduceDIte,zB,zC,zD,zE,zF,zG,zH,zI]at ck cH;subst ck;subst cH;refine⟨(by refine⟨?_,?_,rfl,rfl⟩<;>repeat' (first|exact trivial|exact Or.inl rfl|exact Or.inr rfl|apply cV|apply cW|apply cX|apply cY|exact⟨(by show(_:Nat)<1000000000;omega),rfl,rfl⟩|rfl|(refine And.intro (Or.inl ?_) ?_)|(refine And.intro ?_ ?_))),?_,?_⟩
 (·exact⟨Nat.zero_le _,fun i x h=>absurd h (Nat.not_lt_zero i)⟩);intro k⟨hk,he⟩back;refine ay ah ⟨_,JF,rfl⟩ 2000 _ _ (by kernel_rfl) ?_;simp only[go_sem,zA,↓reduceIte,↓reduceDIte,zB,zC,zD,zE,zF,zG,zH,zI]
 refine⟨fun h2=>?_,fun h2=>?_⟩;(·obtain⟨x,cJ⟩: ∃x,l[k]?=some x:=ax (by omega);refine⟨Int.natCast_nonneg _,x,cJ,Int.natCast_nonneg _,x,cJ,_,(Ba _ _).dec,?_⟩;simp only[go_sem,zA,↓reduceIte,↓reduceDIte,zB,zC,zD,zE,zF,zG,zH,zI];refine⟨fun h=>?_,fun h=>?_⟩;(·refine⟨aH (by omega) (by omega),back _ (k+1) (by refine⟨?_,?_,rfl,rfl⟩<;>repeat' (first|exact trivial|exact Or.inl rfl|exact Or.inr rfl|apply cV|apply cW|apply cX|apply cY|exact⟨(by show(_:Nat)<1000000000;omega),rfl,rfl⟩|rfl|(refine And.intro (Or.inl ?_) ?_)|(refine And.intro ?_ ?_))) ⟨by omega,fun i y hi hy=>?_⟩ (by omega)⟩;rcases Nat.lt_succ_iff_lt_or_eq.1 hi with hi|rfl;(·exact he i y hi hy);·rw[cJ]at hy;injection hy with hy;subst hy;exact h);·have Db:gJ dU l (dU r)=k:=gw hk he (fun y hy=>by rw[cJ]at hy;injection hy with hy;subst hy;exact Bool.eq_false_iff.2 h);rw[Db];(have h1:(l.take k).length≤k:=by rw[List.length_take];omega);(have h2:(l.drop k).length≤l.length:=by rw[List.length_drop];omega);refine⟨⟨by omega,by omega⟩,by omega,by omega,⟨by omega,by omega⟩,?_,?_⟩;(·rw[List.length_append];simp only[List.length_cons,List.length_nil];omega);·simp[cd])
 ·have Db:gJ dU l (dU r)=k:=gw hk he (fun y hy=>by have:=(List.getElem?_eq_some_iff.1 hy).1;omega);rw[Db];(have h1:(l.take k).length≤k:=by rw[List.length_take];omega);(have h3:(l.drop k).length≤l.length:=by rw[List.length_drop];omega);refine⟨⟨by omega,by omega⟩,by omega,by omega,⟨by omega,by omega⟩,?_,?_⟩;(·rw[List.length_append];simp only[List.length_cons,List.length_nil];omega);·simp[cd]
theorem Xr(l:List Rec)(os:List aS)(hl:l.length≤1000000):PC env 105 [⟨.sl ae,l⟩,⟨.sl ak,os⟩] (.sl ae) (dn l os):=by
 refine PC.ao (m:=2000) ah JG rfl rfl rfl rfl (by kernel_rfl) ?_;intro hx;simp only[Tryz.f105];simp only[go_sem,zA,↓reduceIte,↓reduceDIte,zB,zC,zD,zE,zF,zG,zH,zI]
 refine av.cU (X:=Nat×List Rec) (fun(z:Nat×List Rec)=>[(6,.iv (.int .i64) (z.1:Int)),(5,.aI 7),(7,.any)]) (fun(z:Nat×List Rec)=>[(7,.arr ae z.2)]) (fun(z:Nat×List Rec)=>z.1≤l.length∧z.2=dn (l.take z.1) os) (fun(z:Nat×List Rec)=>l.length-z.1) (0,[]) ?_
 intro b1 b2 ck cH;simp(config:= {maxSteps:=4000000})only[go_sem,zA,↓reduceIte,↓reduceDIte,zB,zC,zD,zE,zF,zG,zH,zI]at ck cH;subst ck;subst cH;refine⟨(by refine⟨?_,?_,rfl,rfl⟩<;>repeat' (first|exact trivial|exact Or.inl rfl|exact Or.inr rfl|apply cV|apply cW|apply cX|apply cY|exact⟨(by show(_:Nat)<1000000000;omega),rfl,rfl⟩|rfl|(refine And.intro (Or.inl ?_) ?_)|(refine And.intro ?_ ?_))),?_,?_⟩
 (·exact⟨Nat.zero_le _,rfl⟩);intro⟨k,z⟩⟨hk,hz⟩back;dsimp only at hk hz;refine ay ah ⟨_,JG,rfl⟩ 2000 _ _ (by kernel_rfl) ?_;simp only[go_sem,zA,↓reduceIte,↓reduceDIte,zB,zC,zD,zE,zF,zG,zH,zI]
 refine⟨fun h2=>?_,fun h2=>?_⟩;(·obtain⟨x,cJ⟩: ∃x,l[k]?=some x:=ax (by omega);(have hlen:z.length≤k:=by rw[hz];exact Nat.le_trans (List.length_filter_le ..) (by rw[List.length_take];omega));have fW:dn (l.take (k+1)) os=dn (l.take k) os++(if !(os.any (fun o=>bd o x))then[x]else[]):=rL cJ;refine⟨Int.natCast_nonneg _,x,cJ,_,(EO os x).dec,?_⟩;simp only[go_sem,zA,↓reduceIte,↓reduceDIte,zB,zC,zD,zE,zF,zG,zH,zI];refine⟨fun h=>?_,fun h=>?_⟩;(·rw[Bool.eq_false_iff.2 h]at fW;simp only[Bool.not_false,if_true]at fW;exact⟨Int.natCast_nonneg _,x,cJ,by omega,aH (by omega) (by omega),back _ (k+1,z++ [x]) (by refine⟨?_,?_,rfl,rfl⟩<;>repeat' (first|exact trivial|exact Or.inl rfl|exact Or.inr rfl|apply cV|apply cW|apply cX|apply cY|exact⟨(by show(_:Nat)<1000000000;omega),rfl,rfl⟩|rfl|(refine And.intro (Or.inl ?_) ?_)|(refine And.intro ?_ ?_))) ⟨by dsimp only;omega,by dsimp only;rw[fW,hz]⟩ (by dsimp only;omega)⟩);·rw[h]at fW;simp only[Bool.not_true,Bool.false_eq_true,if_false,List.append_nil]at fW;exact⟨aH (by omega) (by omega),back _ (k+1,z) (by refine⟨?_,?_,rfl,rfl⟩<;>repeat' (first|exact trivial|exact Or.inl rfl|exact Or.inr rfl|apply cV|apply cW|apply cX|apply cY|exact⟨(by show(_:Nat)<1000000000;omega),rfl,rfl⟩|rfl|(refine And.intro (Or.inl ?_) ?_)|(refine And.intro ?_ ?_))) ⟨by dsimp only;omega,by dsimp only;rw[fW,hz]⟩ (by dsimp only;omega)⟩)
 ·have e1:l.take k=l:=List.take_of_length_le (by omega);rw[hz,e1]
end Go.Proofs.YtmgmonbmdkkhbaaGreatDoor
namespace Go.Proofs.YtmgmonbmdkkhbaaGreatDoor
attribute[local go_sem←]Bool.decide_and Bool.decide_or decide_not
set_option maxHeartbeats 4000000
set_option maxRecDepth 100000
theorem J6(u:cn)(r:Rec)(hu:u.1.length≤1000000)(hl: ∀i:Int,0≤i→i≤7→aw u.2.2 i≤1000000):PC env 64 [⟨az,u⟩,⟨ae,r⟩] kU (yx u r):=by
 refine PC.ao (m:=2000) ah ae3 rfl rfl rfl rfl (by kernel_rfl) ?_;intro hx;simp only[Tryz.f64];simp only[go_sem,zA,↓reduceIte,↓reduceDIte,zB,zC,zD,zE,zF,zG,zH,zI]
 refine⟨_,EN (r.1,1,r.2.2),?_⟩;unfold yx;cases hr:aD (r.1,1,r.2.2);(·simp only[go_sem,zA,↓reduceIte,↓reduceDIte,zB,zC,zD,zE,zF,zG,zH,zI];rfl);obtain⟨qw,B1⟩:=ft hr
 simp only[go_sem,zA,↓reduceIte,↓reduceDIte,zB,zC,zD,zE,zF,zG,zH,zI];refine⟨fun h1=>⟨⟨qw,by omega⟩,aw u.2.2 r.1,gV u.2.2 qw B1,fun h2=>?_,fun h2=>?_⟩,fun h1=>?_⟩
 (·rw[if_pos (.inr h2)]);(·rw[if_neg (by omega)];have hL: -9223372036854775808≤aw u.2.2 r.1:=yw hx.1.2.2 qw B1;have hL2:=hl _ qw B1;refine⟨⟨qw,by omega⟩,aw u.2.2 r.1,gV u.2.2 qw B1,aH (by omega) (by omega),⟨qw,by omega⟩,⟨qw,by omega⟩,aw u.2.2 r.1+1,C8 u.2.2 _ qw B1,_,EO u.2.1 (r.1,aw u.2.2 r.1+1,r.2.2),?_⟩;cases hm:u.2.1.any (fun o=>bd o (r.1,aw u.2.2 r.1+1,r.2.2));(·simp only[go_sem,zA,↓reduceIte,↓reduceDIte,zB,zC,zD,zE,zF,zG,zH,zI];exact⟨_,J5 u.1 _ hu,fun _=>rfl⟩);·simp only[go_sem,zA,↓reduceIte,↓reduceDIte,zB,zC,zD,zE,zF,zG,zH,zI];rfl)
 ·rw[if_pos (.inl (by omega))]
theorem Gf(u:cn)(o:aS)(hu:u.1.length≤1000000)(Ft:u.2.1.length≤1000000)(hl: ∀i:Int,0≤i→i≤7→aw u.2.2 i≤1000000):PC env 63 [⟨az,u⟩,⟨ak,o⟩] (.aP az (.int .i64)) (sI u o):=by
 refine PC.ao (m:=2000) ah ae2 rfl rfl rfl rfl (by kernel_rfl) ?_;intro hx;simp only[Tryz.f63];simp only[go_sem,zA,↓reduceIte,↓reduceDIte,zB,zC,zD,zE,zF,zG,zH,zI]
 refine⟨_,qb (o.1,1,o.2.2),?_⟩;unfold sI;cases hr:aZ (o.1,1,o.2.2);(·simp only[go_sem,zA,↓reduceIte,↓reduceDIte,zB,zC,zD,zE,zF,zG,zH,zI];rfl);obtain⟨qw,B1⟩:=eF hr
 simp only[go_sem,zA,↓reduceIte,↓reduceDIte,zB,zC,zD,zE,zF,zG,zH,zI];refine⟨fun h1=>⟨⟨qw,by omega⟩,aw u.2.2 o.1,gV u.2.2 qw B1,fun h2=>?_,fun h2=>?_⟩,fun h1=>?_⟩
 (·rw[if_pos (.inr h2)]);(·rw[if_neg (by omega)];have hL: -9223372036854775808≤aw u.2.2 o.1:=yw hx.1.2.2 qw B1;have hL2:=hl _ qw B1;refine⟨⟨qw,by omega⟩,aw u.2.2 o.1,gV u.2.2 qw B1,aH (by omega) (by omega),⟨qw,by omega⟩,⟨qw,by omega⟩,aw u.2.2 o.1+1,C8 u.2.2 _ qw B1,_,Ge u.2.1 _ Ft,fun _=>⟨_,Xr u.1 _ hu,fun _=>rfl⟩⟩)
 ·rw[if_pos (.inl (by omega))]
end Go.Proofs.YtmgmonbmdkkhbaaGreatDoor
namespace Go.Proofs.YtmgmonbmdkkhbaaGreatDoor
set_option maxHeartbeats 4000000
section
variable {α:Type}
def jb(lt:α→α→Bool):List α→α→List α|[],x=>[x]|y::r,x=>if lt x y=true then y::jb lt r x else x::y::r
def nO(lt:α→α→Bool)(xs:List α):List α:=(xs.foldl (jb lt) []).reverse
theorem Be(lt:α→α→Bool)(x:α): ∀r:List α,(jb lt r x).length=r.length+1:=by intro r;induction r with|nil=>rfl|cons y r ih=>unfold jb;split<;>simp[ih]
theorem jB(lt:α→α→Bool): ∀(xs r:List α),(xs.foldl (jb lt) r).length=r.length+xs.length:=by
 intro xs;induction xs with|nil=>intro r;rfl|cons x xs ih=>intro r;rw[List.foldl_cons,ih,Be,List.length_cons];omega
def xd(l:List α)(x:α)(r:List α):List α:=l.reverse++x::r
theorem Dc(l:List α)(x:α)(r:List α):(xd l x r).length=l.length+r.length+1:=by simp[xd];omega
theorem Dd(l:List α)(x:α)(r:List α):(xd l x r)[l.length]?=some x:=by unfold xd;rw[List.getElem?_append_right (by simp)];simp
theorem Bf(l:List α)(x y:α)(r:List α):xd (y::l) x r=xd l y (x::r):=by simp[xd]
theorem uR(l:List α)(x y:α)(r:List α):(xd (y::l) x r)[l.length]?=some y:=by rw[Bf];exact Dd l y _
theorem EP(l:List α)(x z:α)(r:List α):(xd l x r).set l.length z=xd l z r:=by unfold xd;rw[List.set_append_right _ _ (by simp)];simp
theorem J7(l:List α)(x y:α)(r:List α):((xd (y::l) x r).set (l.length+1) y).set l.length x=xd l x (y::r):=by
 have h:(xd (y::l) x r).set (l.length+1) y=xd (y::l) y r:=EP (y::l) x y r;rw[h,Bf,EP]
end
end Go.Proofs.YtmgmonbmdkkhbaaGreatDoor
namespace Go.Proofs.YtmgmonbmdkkhbaaGreatDoor
attribute[local go_sem←]Bool.decide_and Bool.decide_or decide_not
attribute[local go_sem]nT dw
set_option maxHeartbeats 4000000
set_option maxRecDepth 100000
def QS(x y:Rec):Int:=if mn x.2.2.1 y.2.2.1≠0 then mn x.2.2.1 y.2.2.1 else kV (a7 x) (a7 y)
def qx(x y:Rec):Bool:=decide (QS x y<0)
section
variable {c8:Prop} [hZ c8]
theorem QT(x y:Rec):PC env 27 [⟨ae,x⟩,⟨ae,y⟩] (.int .i64) (QS x y):=by
 refine PC.ao (m:=2000) ah ac2 rfl rfl rfl rfl (by kernel_rfl) ?_;intro hx;simp only[Tryz.f27];simp only[go_sem,zA,↓reduceIte,↓reduceDIte,zB,zC,zD,zE,zF,zG,zH,zI]
 refine⟨_,jY _ _,fun _=>⟨_,A1 x,fun _=>⟨_,A1 y,fun _=>⟨_,JS _ _,fun _=>⟨_,Xl _,fun _=>?_⟩⟩⟩⟩⟩;unfold QS a7;by_cases h:mn x.2.2.1 y.2.2.1=0<;>by_cases h':kV (x.1,x.2.1) (y.1,y.2.1)=0<;>simp[h,h']
end
theorem Gg(xs:List Rec):xs=((xs.take 1).foldl (jb qx) []).reverse++xs.drop 1:=by match xs with|[]=>rfl|x::xs=>rfl
theorem ah0(xs:List Rec):HC env 109 [.aI 1000000000,.iv (.int .i64) (0:Int),.iv (.int .i64) (xs.length:Int),.iv (.fh 27 .unit) ()] [(1000000000,.arr ae xs)] (.aP []) [(1000000000,.arr ae (nO qx xs))]:=by
 refine HC.ao (m:=2000) ah ot rfl rfl rfl rfl (by kernel_rfl) ?_;intro hx gP;simp only[Tryz.f109];simp only[go_sem,zA,↓reduceIte,↓reduceDIte,zB,zC,zD,zE,zF,zG,zH,zI]
 (have hlen:(xs.length:Int)≤9223372036854775807:=by have:=hx.2.2.1;simp only[Hj,Ty.ok,max_i64]at this;exact this.2);refine⟨by omega,?_⟩;refine av.jA (X:=Nat) (fun k=>⟨[(8,.iv (.int .i64) (k:Int)),(0,.aI 1000000000),(1,.iv (.int .i64) (0:Int)),(2,.iv (.int .i64) (xs.length:Int)),(3,.fn 27 [])],[(1000000000,.arr ae (((xs.take k).foldl (jb qx) []).reverse++xs.drop k))]⟩) (fun k=>1≤k∧(k≤xs.length∨k=1)) (fun k=>xs.length-k) 1 ?_ ⟨Nat.le_refl _,Or.inr rfl⟩ ?_
 (·refine⟨⟨Or.inl rfl,Or.inl rfl,Or.inl rfl,Or.inl rfl,Or.inl rfl,trivial⟩,⟨?_,trivial⟩,rfl,rfl⟩;exact congrArg (aL.arr ae) (Gg xs));intro k⟨hk,iw⟩back;refine ay ah ⟨_,ot,rfl⟩ 2000 _ _ (by kernel_rfl) ?_
 simp only[go_sem,zA,↓reduceIte,↓reduceDIte,zB,zC,zD,zE,zF,zG,zH,zI];have vK:=jB qx (xs.take k) [];refine⟨fun h=>?_,fun h=>?_⟩;rotate_left;(·(have:xs.length≤k:=by omega);rw[List.take_of_length_le this,List.drop_eq_nil_of_le this,List.append_nil];rfl)
 (have tp:k<xs.length:=by omega);(have htk:(xs.take k).length=k:=by rw[List.length_take];omega);simp only[htk,List.length_nil,Nat.zero_add]at vK;obtain⟨x,hxk⟩:=ax tp
 refine av.jA (X:=List Rec×List Rec) (fun z=>⟨[(9,.iv (.int .i64) (z.1.length:Int)),(8,.iv (.int .i64) (k:Int)),(0,.aI 1000000000),(1,.iv (.int .i64) (0:Int)),(2,.iv (.int .i64) (xs.length:Int)),(3,.fn 27 [])],[(1000000000,.arr ae (xd z.1 x (z.2++xs.drop (k+1))))]⟩) (fun z=>jb qx ((xs.take k).foldl (jb qx) []) x=z.2.reverse++jb qx z.1 x∧z.1.length+z.2.length=k) (fun z=>z.1.length) ((xs.take k).foldl (jb qx) [],[]) ?_ ⟨rfl,?_⟩ ?_
 (·refine⟨⟨Or.inl ?_,Or.inl rfl,Or.inl rfl,Or.inl rfl,Or.inl rfl,Or.inl rfl,trivial⟩,⟨?_,trivial⟩,rfl,rfl⟩;(·dsimp only;rw[vK];rfl);·dsimp only;rw[drop_cons hxk];rfl)
 (·exact vK);intro⟨L,R⟩⟨Iy,hLR⟩EJ;dsimp only at Iy hLR;refine ay ah ⟨_,ot,rfl⟩ 2000 _ _ (by kernel_rfl) ?_;simp only[go_sem,zA,↓reduceIte,↓reduceDIte,zB,zC,zD,zE,zF,zG,zH,zI]
 (have Xs:jb qx L x=x::L→xd L x (R++xs.drop (k+1))=((xs.take (k+1)).foldl (jb qx) []).reverse++xs.drop (k+1):=by intro e;rw[bA hxk,List.foldl_append,List.foldl_cons,List.foldl_nil,Iy,e];simp[xd])
 have hml:=Dc L x (R++xs.drop (k+1));refine⟨fun c1=>?_,fun c1=>?_⟩;(·match L,c1 with|y::L,_=>(have e1:(((y::L).length:Int)-1).toNat=L.length:=by simp);simp only[e1];dsimp only[Ty.den]at*;rw[List.length_cons]at*;refine⟨by omega,_,Dd (y::L) x _,by omega,by omega,_,uR L x y _,_,QT x y,fun _=>⟨fun c2=>?_,fun c2=>?_⟩⟩;(·have Tj:((xd (y::L) x (R++xs.drop (k+1))).set (L.length+1) y).length=(xd (y::L) x (R++xs.drop (k+1))).length:=List.length_set;refine⟨by omega,by omega,by omega,_,uR L x y _,by omega,_,Dd (y::L) x _,by omega,by rw[Tj];omega,by omega,?_⟩;refine EJ _ (L,y::R) ?_ ⟨?_,?_⟩ (by show L.length<L.length+1;omega);(·refine⟨⟨Or.inl ?_,Or.inl rfl,Or.inl rfl,Or.inl rfl,Or.inl rfl,Or.inl rfl,trivial⟩,⟨?_,trivial⟩,rfl,rfl⟩;(·dsimp only;(have:((L.length+1:Nat):Int)-1=L.length:=by omega);rw[this];rfl);·exact congrArg (aL.arr ae) (J7 L x y (R++xs.drop (k+1))));(·rw[Iy,jb,if_pos (show qx x y=true from decide_eq_true c2)];simp);·show L.length+(R.length+1)=k;omega);·(have ex:jb qx (y::L) x=x::y::L:=by rw[jb,if_neg (by simpa[qx]using c2)]);refine⟨by omega,?_⟩;refine back _ (k+1) ?_ ⟨by omega,by omega⟩ (by omega);refine⟨⟨Or.inl rfl,Or.inl rfl,Or.inl rfl,Or.inl rfl,Or.inl rfl,trivial⟩,⟨?_,trivial⟩,rfl,rfl⟩;exact congrArg (aL.arr ae) (Xs ex))
 ·have e0:L=[]:=List.length_eq_zero_iff.mp (by omega);subst e0;refine⟨by omega,?_⟩;refine back _ (k+1) ?_ ⟨by omega,by omega⟩ (by omega);refine⟨⟨Or.inl rfl,Or.inl rfl,Or.inl rfl,Or.inl rfl,Or.inl rfl,trivial⟩,⟨?_,trivial⟩,rfl,rfl⟩;exact congrArg (aL.arr ae) (Xs rfl)
theorem av5:HC env 109 [.bE,.iv (.int .i64) (0:Int),.iv (.int .i64) (0:Int),.iv (.fh 27 .unit) ()] [] (.aP []) []:=by
 refine HC.ao (m:=2000) ah ot rfl rfl rfl rfl (by kernel_rfl) ?_;intro hx gP;simp only[Tryz.f109];simp only[go_sem,zA,↓reduceIte,↓reduceDIte,zB,zC,zD,zE,zF,zG,zH,zI]
 refine⟨by omega,?_⟩;refine av.jA (X:=Unit) (fun _=>⟨[(8,.iv (.int .i64) (1:Int)),(2,.iv (.int .i64) (0:Int))],[]⟩) (fun _=>True) (fun _=>0) () ⟨⟨Or.inl rfl,Or.inl rfl,trivial⟩,trivial,rfl,rfl⟩ trivial ?_
 intro _ _ back;refine ay ah ⟨_,ot,rfl⟩ 2000 _ _ (by kernel_rfl) ?_;simp only[go_sem,zA,↓reduceIte,↓reduceDIte,zB,zC,zD,zE,zF,zG,zH,zI]
def tb:List UInt8:=(List.range 256).map fun i=>UInt8.ofNat (if i=0 then 0 else Nat.log2 i+1)
theorem Xt:tb.length=256:=by unfold tb;simp
def ah1(n:Int):Int:=0+((tb.getD n.toNat 0).toNat:Int)
theorem QU(n:Int)(h0:0≤n)(h:n≤255):PC env 118 [⟨.int .u64,n⟩] (.int .i64) (ah1 n):=by
 have hw:IntKind.u8.wrap n=n:=eg _ ⟨h0,h⟩;(have key: ∀(l:List UInt8),l=tb→l[n.toNat]?=some (tb.getD n.toNat 0):=by intro l hl;subst hl;have:=Xt;rw[List.getD_eq_getElem?_getD,List.getElem?_eq_getElem (by omega)];rfl)
 refine PC.ao (m:=2000) ah Xb rfl rfl rfl rfl (by kernel_rfl) ?_;intro hx;simp only[Tryz.f118];simp only[go_sem,zA,↓reduceIte,↓reduceDIte,zB,zC,zD,zE,zF,zG,zH,zI]
 rw[hw];dsimp only[Ty.den]at*;refine⟨fun g=>absurd g (by omega),fun _=>⟨fun g=>absurd g (by omega),fun _=>⟨fun g=>absurd g (by omega),fun _=>⟨_,⟨_,key _ (by kernel_rfl),rfl⟩,?_,rfl⟩⟩⟩⟩
 have hb:=UInt8.toNat_lt (tb.getD n.toNat 0);omega
theorem Sr(n:Int)(h0:0≤n)(h:n≤255):PC env 67 [⟨.int .u64,n⟩] (.int .i64) (ah1 n):=by
 refine PC.ao (m:=2000) ah ae5 rfl rfl rfl rfl (by kernel_rfl) ?_;intro hx;simp only[Tryz.f67];simp only[go_sem,zA,↓reduceIte,↓reduceDIte,zB,zC,zD,zE,zF,zG,zH,zI]
 exact⟨_,QU n h0 h,fun _=>rfl⟩
theorem ah2(xs:List Rec)(b:Int)(hn:xs.length≤12):HC env 66 [.aI 1000000000,.iv (.int .i64) (0:Int),.iv (.int .i64) (xs.length:Int),.iv (.int .i64) b,.iv (.fh 27 .unit) ()] [(1000000000,.arr ae xs)] (.aP []) [(1000000000,.arr ae (nO qx xs))]:=by
 refine HC.ao (m:=2000) ah EB rfl rfl rfl rfl (by kernel_rfl) ?_;intro hx gP;simp only[Tryz.f66];simp only[go_sem,zA,↓reduceIte,↓reduceDIte,zB,zC,zD,zE,zF,zG,zH,zI]
 refine av.jA (X:=Unit) (fun _=>⟨[(0,.aI 1000000000),(1,.iv (.int .i64) (0:Int)),(2,.iv (.int .i64) (xs.length:Int)),(4,.fn 27 [])],[(1000000000,.arr ae xs)]⟩) (fun _=>True) (fun _=>0) () ⟨⟨Or.inl rfl,Or.inl rfl,Or.inl rfl,Or.inl rfl,trivial⟩,⟨rfl,trivial⟩,rfl,rfl⟩ trivial ?_
 intro _ _ back;refine ay ah ⟨_,EB,rfl⟩ 2000 _ _ (by kernel_rfl) ?_;simp only[go_sem,zA,↓reduceIte,↓reduceDIte,zB,zC,zD,zE,zF,zG,zH,zI];refine⟨by omega,fun _=>⟨_,_,ah0 xs,?_⟩,fun g=>absurd g (by omega)⟩
 simp only[go_sem,zA,↓reduceIte,↓reduceDIte,zB,zC,zD,zE,zF,zG,zH,zI];exact fun _=>trivial
theorem Xu(xs:List Rec)(hn:xs.length≤12):HC env 26 [.aI 1000000000,.iv (.fh 27 .unit) ()] [(1000000000,.arr ae xs)] (.aP []) [(1000000000,.arr ae (nO qx xs))]:=by
 refine HC.ao (m:=2000) ah Sf rfl rfl rfl rfl (by kernel_rfl) ?_;intro hx gP;simp only[Tryz.f26];simp only[go_sem,zA,↓reduceIte,↓reduceDIte,zB,zC,zD,zE,zF,zG,zH,zI]
 have hw:IntKind.u64.wrap (xs.length:Int)=(xs.length:Int):=eg _ ⟨by simp only[pY];omega,by simp only[pZ];omega⟩;rw[hw];refine⟨_,Sr _ (by omega) (by omega),fun _=>⟨_,_,ah2 xs _ hn,?_⟩⟩
 simp only[go_sem,zA,↓reduceIte,↓reduceDIte,zB,zC,zD,zE,zF,zG,zH,zI];exact fun _=>trivial
theorem QV(xs:List Rec)(h:xs≠ [])(hl:xs.length≤100000):HC env 25 [.iv (.sl ae) xs] [] (.aI 5) [(5,.arr ae xs)]:=by
 refine HC.ao (m:=2000) ah Se rfl rfl rfl rfl (by kernel_rfl) ?_;intro hx gP;simp only[Tryz.f25];simp only[go_sem,zA,↓reduceIte,↓reduceDIte,zB,zC,zD,zE,zF,zG,zH,zI]
 intro b hb;cases b;(·simp only[go_sem,zA,↓reduceIte,↓reduceDIte,zB,zC,zD,zE,zF,zG,zH,zI];exact Nat.le_trans hl (by decide));·exact absurd (hb rfl) h
def bR(l:List Rec):List Rec:=nO qx l
theorem Xv(u:cn)(h:u.1≠ [])(hl:u.1.length≤12):PC env 7 [⟨az,u⟩] (.sl ae) (bR u.1):=by
 refine PC.ao (m:=2000) ah ab5 rfl rfl rfl rfl (by kernel_rfl) ?_;intro hx;simp only[Tryz.f7];simp only[go_sem,zA,↓reduceIte,↓reduceDIte,zB,zC,zD,zE,zF,zG,zH,zI]
 refine⟨_,_,QV u.1 h (by omega),?_⟩;simp only[go_sem,zA,↓reduceIte,↓reduceDIte,zB,zC,zD,zE,zF,zG,zH,zI];intro _;refine⟨_,_,Xu _ hl,?_⟩;simp only[go_sem,zA,↓reduceIte,↓reduceDIte,zB,zC,zD,zE,zF,zG,zH,zI]
 exact fun _=>rfl
end Go.Proofs.YtmgmonbmdkkhbaaGreatDoor
namespace Go.Proofs.YtmgmonbmdkkhbaaGreatDoor
attribute[local go_sem←]Bool.decide_and Bool.decide_or decide_not
set_option maxHeartbeats 4000000
set_option maxRecDepth 100000
abbrev fZ:=Int×Int×Int×Int×Int×Int
def ER:List (List UInt8):=[[65],[65,66],[66],[67,49]]
def sa(n:Int):List UInt8:=ER.getD (n%4).toNat []
theorem ES(n:Int):PC env 19 [⟨.int .u8,n⟩] .str (sa n):=by
 refine PC.ao (m:=2000) ah ab8 rfl rfl rfl rfl (by kernel_rfl) ?_;intro hx;simp only[Tryz.f19];simp only[go_sem,zA,↓reduceIte,↓reduceDIte,zB,zC,zD,zE,zF,zG,zH,zI]
 have h0:=(rK hx.1).1;dsimp only at h0;rw[Int.tmod_eq_emod_of_nonneg h0];(have h4:n%4=0∨n%4=1∨n%4=2∨n%4=3:=by omega);refine⟨by omega,sa n,?_,rfl⟩;unfold sa ER;rcases h4 with h|h|h|h<;>rw[h]<;>rfl
theorem sJ(n:Int):ej (sa n)=true:=by unfold sa ER;(have h4:n%4=0∨n%4=1∨n%4=2∨n%4=3:=by omega);rcases h4 with h|h|h|h<;>rw[h]<;>decide
theorem kY {x:fZ} (h:dE.ok x):0≤x.1∧0≤x.2.1∧0≤x.2.2.1∧0≤x.2.2.2.1∧0≤x.2.2.2.2.1∧0≤x.2.2.2.2.2:=by
 obtain⟨h1,h2,h3,h4,h5,h6⟩:=h;exact⟨(rK h1).1,(rK h2).1,(rK h3).1,(rK h4).1,(rK h5).1,(rK h6).1⟩
def oy(x:fZ):Rec:=(x.2.1%3,1,x.2.2.1%10,sa x.2.2.2.1,x.2.2.2.2.1%3,1+x.2.2.2.2.2%9)
theorem J8(x:fZ):PC env 65 [⟨dE,x⟩] ae (oy x):=by
 refine PC.ao (m:=2000) ah ae4 rfl rfl rfl rfl (by kernel_rfl) ?_;intro hx;simp only[Tryz.f65];simp only[go_sem,zA,↓reduceIte,↓reduceDIte,zB,zC,zD,zE,zF,zG,zH,zI]
 obtain⟨h1,h2,h3,h4,h5,h6⟩:=kY hx.1;dsimp only at h1 h2 h3 h4 h5 h6;rw[Int.tmod_eq_emod_of_nonneg h2,Int.tmod_eq_emod_of_nonneg h3,Int.tmod_eq_emod_of_nonneg h5,Int.tmod_eq_emod_of_nonneg h6]
 exact⟨_,ES _,fun _=>⟨aH (by omega) (by omega),rfl⟩⟩
theorem Gh(x:fZ):PC env 62 [⟨dE,x⟩] .bool (decide (x.1%3=0)):=by
 refine PC.ao (m:=2000) ah ae1 rfl rfl rfl rfl (by kernel_rfl) ?_;intro hx;simp only[Tryz.f62];simp only[go_sem,zA,↓reduceIte,↓reduceDIte,zB,zC,zD,zE,zF,zG,zH,zI]
 obtain⟨h1,_⟩:=kY hx.1;dsimp only at h1;rw[Int.tmod_eq_emod_of_nonneg h1]
def eW(x:fZ):Int:=1+x.1/3%5
def sc(x:fZ):aS:=(x.2.1%3,1,x.2.2.1%10,eW x,if eW x=1 then sa x.2.2.2.1 else[],if eW x=1 then 0 else if eW x=2∨eW x=3 then x.2.2.2.2.1%3 else if eW x=4 then x.2.2.2.2.2%(x.2.2.1%10+1)else 1+x.2.2.2.2.2%6,if eW x=5 then x.2.2.2.2.1%3 else 0)
theorem QW(x:fZ):PC env 15 [⟨dE,x⟩] ak (sc x):=by
 refine PC.ao (m:=2000) ah ab6 rfl rfl rfl rfl (by kernel_rfl) ?_;intro hx;simp only[Tryz.f15];simp only[go_sem,zA,↓reduceIte,↓reduceDIte,zB,zC,zD,zE,zF,zG,zH,zI]
 obtain⟨h1,h2,h3,h4,h5,h6⟩:=kY hx.1;dsimp only at h1 h2 h3 h4 h5 h6;rw[Int.tdiv_eq_ediv_of_nonneg h1,Int.tmod_eq_emod_of_nonneg h2,Int.tmod_eq_emod_of_nonneg h3,Int.tmod_eq_emod_of_nonneg h5,Int.tmod_eq_emod_of_nonneg h6,Int.tmod_eq_emod_of_nonneg h6,Int.tmod_eq_emod_of_nonneg (a:=x.1/3) (by omega)]
 have hk:1+x.1/3%5=eW x:=rfl;rw[hk];(have GW:1≤eW x∧eW x≤5:=by unfold eW;omega);(have hz:eW x=1∨eW x=2∨eW x=3∨eW x=4∨eW x=5:=by omega);unfold sc;rcases hz with h|h|h|h|h<;>rw[h]<;>simp
 (·exact⟨_,ES _,fun _=>rfl⟩);(·have ha:=Int.emod_nonneg x.2.2.1 (show(10:Int)≠0 by decide);have hb:=Int.emod_lt_of_pos x.2.2.1 (show(0:Int)<10 by decide);exact⟨⟨Int.le_trans (by decide) (Int.add_le_add ha (Int.le_refl 1)),Int.le_trans (Int.add_le_add (Int.le_of_lt hb) (Int.le_refl 1)) (by decide)⟩,Int.lt_of_lt_of_le (by decide) (Int.add_le_add ha (Int.le_refl 1))⟩)
 ·have ha:=Int.emod_nonneg x.2.2.2.2.2 (show(6:Int)≠0 by decide);have hb:=Int.emod_lt_of_pos x.2.2.2.2.2 (show(0:Int)<6 by decide);exact⟨Int.le_trans (by decide) (Int.add_le_add (Int.le_refl 1) ha),Int.le_trans (Int.add_le_add (Int.le_refl 1) (Int.le_of_lt hb)) (by decide)⟩
end Go.Proofs.YtmgmonbmdkkhbaaGreatDoor
namespace Go.Proofs.YtmgmonbmdkkhbaaGreatDoor
attribute[local go_sem←]Bool.decide_and Bool.decide_or decide_not
set_option maxHeartbeats 4000000
set_option maxRecDepth 100000
theorem kZ {x:fZ} (h:dE.ok x):aD ((oy x).1,1,(oy x).2.2)=true:=by
 obtain⟨h1,h2,h3,h4,h5,h6⟩:=kY h;have ha:=Int.emod_nonneg x.2.1 (show(3:Int)≠0 by decide);have ha':=Int.emod_lt_of_pos x.2.1 (show(0:Int)<3 by decide);have hb:=Int.emod_nonneg x.2.2.1 (show(10:Int)≠0 by decide)
 have mQ:=Int.emod_lt_of_pos x.2.2.1 (show(0:Int)<10 by decide);have hc:=Int.emod_nonneg x.2.2.2.2.1 (show(3:Int)≠0 by decide);have lj:=Int.emod_lt_of_pos x.2.2.2.2.1 (show(0:Int)<3 by decide)
 have hd:=Int.emod_nonneg x.2.2.2.2.2 (show(9:Int)≠0 by decide);have DV:=Int.emod_lt_of_pos x.2.2.2.2.2 (show(0:Int)<9 by decide);unfold aD oy;simp only[sJ,Bool.true_and,Bool.and_eq_true,decide_eq_true_eq]
 omega
theorem k9 {x:fZ} (h:dE.ok x):aZ ((sc x).1,1,(sc x).2.2)=true:=by
 obtain⟨h1,h2,h3,h4,h5,h6⟩:=kY h;have ha:=Int.emod_nonneg x.2.1 (show(3:Int)≠0 by decide);have ha':=Int.emod_lt_of_pos x.2.1 (show(0:Int)<3 by decide);have hb:=Int.emod_nonneg x.2.2.1 (show(10:Int)≠0 by decide)
 have mQ:=Int.emod_lt_of_pos x.2.2.1 (show(0:Int)<10 by decide);have hc:=Int.emod_nonneg x.2.2.2.2.1 (show(3:Int)≠0 by decide);have lj:=Int.emod_lt_of_pos x.2.2.2.2.1 (show(0:Int)<3 by decide)
 have hd:=Int.emod_nonneg x.2.2.2.2.2 (show(6:Int)≠0 by decide);have DV:=Int.emod_lt_of_pos x.2.2.2.2.2 (show(0:Int)<6 by decide);have he:=Int.emod_nonneg x.2.2.2.2.2 (show x.2.2.1%10+1≠0 by omega)
 have BV:=Int.emod_lt_of_pos x.2.2.2.2.2 (show 0<x.2.2.1%10+1 by omega);(have hk:eW x=1∨eW x=2∨eW x=3∨eW x=4∨eW x=5:=by unfold eW;omega);unfold aZ rk sc;rcases hk with h|h|h|h|h<;>simp only[h]<;>simp[rk1,Sq,rk4,rk5,sJ]<;>omega
def nV(k:Nat)(u:cn):Prop:=u.1.length≤k∧u.2.1.length≤k∧ ∀i:Int,0≤i→i≤7→0≤aw u.2.2 i∧aw u.2.2 i≤k
theorem yz {k:Nat} {L:L8} {d:Int} (h: ∀i:Int,0≤i→i≤7→0≤aw L i∧aw L i≤k)(h0:0≤d)(h7:d≤7): ∀i:Int,0≤i→i≤7→0≤aw (fq L d (aw L d+1)) i∧aw (fq L d (aw L d+1)) i≤((k+1:Nat):Int):=by
 intro i hi G1;by_cases e:i=d;(·subst e;rw[dR L _ hi G1];have:=h i hi G1;push_cast;omega);·rw[eE L _ hi G1 e];have:=h i hi G1;push_cast;omega
theorem rj {k:Nat} {u:cn} {r:Rec} (hf:nV k u)(hk:k<400)(hr:aD (r.1,1,r.2.2)=true)(h0:0≤r.1)(h7:r.1≤7):(bY u r).2=(aw u.2.2 r.1+1,0)∧(bY u r).1.2.2=fq u.2.2 r.1 (aw u.2.2 r.1+1)∧nV (k+1) (bY u r).1:=by
 obtain⟨h1,h2,h3⟩:=hf;have hl:=h3 r.1 h0 h7;unfold bY;rw[if_pos hr,if_neg (by omega)];refine⟨rfl,?_,?_⟩;(·split<;>rfl);·split;(·exact⟨by dsimp only;omega,by dsimp only;omega,yz h3 h0 h7⟩);·refine⟨?_,by dsimp only;omega,yz h3 h0 h7⟩;simp[cd];omega
theorem uS {k:Nat} {u:cn} {o:aS} (hf:nV k u)(hk:k<400)(hr:aZ (o.1,1,o.2.2)=true)(h0:0≤o.1)(h7:o.1≤7):(bQ u o).2=0∧(bQ u o).1.2.2=fq u.2.2 o.1 (aw u.2.2 o.1+1)∧(bQ u o).1.2.1.length=u.2.1.length+1∧nV (k+1) (bQ u o).1:=by
 obtain⟨h1,h2,h3⟩:=hf;have hl:=h3 o.1 h0 h7;unfold bQ;rw[if_pos hr,if_neg (by omega)];(have hlen:(cd u.2.1 (nr dU u.2.1 (o.1,aw u.2.2 o.1+1)) (o.1,aw u.2.2 o.1+1,o.2.2)).length=u.2.1.length+1:=by have:=gU dU u.2.1 (o.1,aw u.2.2 o.1+1);simp[cd];omega)
 refine⟨rfl,rfl,hlen,?_,?_,yz h3 h0 h7⟩;(·exact Nat.le_trans (List.length_filter_le ..) (by omega));·rw[hlen];omega
theorem yA:VU ([],[],(0,0,0,0,0,0,0,0)):=by
 refine⟨Nat.zero_le _,Nat.zero_le _,fun i h0 h7=>?_,fun o h=>(List.not_mem_nil h).elim,List.Pairwise.nil,List.Pairwise.nil,fun o h=>(List.not_mem_nil h).elim⟩;(have h:i=0∨i=1∨i=2∨i=3∨i=4∨i=5∨i=6∨i=7:=by omega)
 rcases h with rfl|rfl|rfl|rfl|rfl|rfl|rfl|rfl<;>decide
theorem uT:nV 0 ([],[],(0,0,0,0,0,0,0,0)):=by
 refine⟨Nat.le_refl _,Nat.le_refl _,fun i h0 h7=>?_⟩;(have h:i=0∨i=1∨i=2∨i=3∨i=4∨i=5∨i=6∨i=7:=by omega);rcases h with rfl|rfl|rfl|rfl|rfl|rfl|rfl|rfl<;>decide
def mA(u:cn)(x:fZ):cn×Int:=if x.1%3=0 then bQ u (sc x)else((bY u (oy x)).1,(bY u (oy x)).2.2)
def nP(k:Nat)(u:cn):Prop:=VU u∧nV k u
theorem ah3 {x:fZ} (h:dE.ok x):0≤(oy x).1∧(oy x).1≤7:=ft (kZ h)
theorem ah4 {x:fZ} (h:dE.ok x):0≤(sc x).1∧(sc x).1≤7:=eF (k9 h)
theorem uU {k:Nat} {u:cn} {r:Rec} (hg:nP k u)(hk:k<400)(hr:aD (r.1,1,r.2.2)=true):nP (k+1) (bY u r).1∧(bY u r).2=(aw u.2.2 r.1+1,0):=by
 obtain⟨hv,hf⟩:=hg;obtain⟨d0,d7⟩:=ft hr;have hl:=hf.2.2 _ d0 d7;have h1:=hf.1;obtain⟨e1,e2,e3⟩:=rj hf hk hr d0 d7;exact⟨⟨uP hv hr (by omega) (by omega),e3⟩,e1⟩
theorem mB {k:Nat} {u:cn} {o:aS} (hg:nP k u)(hk:k<400)(hr:aZ (o.1,1,o.2.2)=true):nP (k+1) (bQ u o).1∧(bQ u o).2=0:=by
 obtain⟨hv,hf⟩:=hg;obtain⟨d0,d7⟩:=eF hr;have hl:=hf.2.2 _ d0 d7;have h1:=hf.2.1;obtain⟨e1,e2,e3,e4⟩:=uS hf hk hr d0 d7;exact⟨⟨xc hv hr (by omega) (by omega),e4⟩,e1⟩
theorem Gi {k:Nat} {u:cn} {x:fZ} (hg:nP k u)(hk:k<400)(hx:dE.ok x):nP (k+1) (mA u x).1∧(mA u x).2=0:=by
 unfold mA;split;(·exact mB hg hk (k9 hx));·obtain⟨h1,h2⟩:=uU hg hk (kZ hx);exact⟨h1,by rw[h2]⟩
theorem QX(u:cn)(x:fZ)(hv:VU u):PC env 24 [⟨az,u⟩,⟨dE,x⟩] az (mA u x).1:=by
 have h1:=hv.l1;have h2:=hv.l2;have h3: ∀i:Int,0≤i→i≤7→aw u.2.2 i≤1000000:=fun i a b=>(hv.last i a b).2;refine PC.ao (m:=2000) ah ac1 rfl rfl rfl rfl (by kernel_rfl) ?_
 intro hx;simp only[Tryz.f24];simp only[go_sem,zA,↓reduceIte,↓reduceDIte,zB,zC,zD,zE,zF,zG,zH,zI];refine⟨_,Gh x,?_⟩;simp only[go_sem,zA,↓reduceIte,↓reduceDIte,zB,zC,zD,zE,zF,zG,zH,zI]
 refine⟨fun h=>⟨_,QW x,fun _=>⟨_,Gf u _ (by omega) (by omega) h3,fun _=>?_⟩⟩,fun h=>⟨_,J8 x,fun _=>⟨_,J6 u _ (by omega) h3,fun _=>?_⟩⟩⟩;(·unfold mA;rw[if_pos h,Da hv])
 ·unfold mA;rw[if_neg h,Gd hv]
def qd(l:List fZ):cn:=l.foldl (fun u x=>(mA u x).1) ([],[],(0,0,0,0,0,0,0,0))
theorem uV {l:List fZ} {k:Nat} {x:fZ} (h:l[k]?=some x):qd (l.take (k+1))=(mA (qd (l.take k)) x).1:=by unfold qd;rw[bA h,List.foldl_append];rfl
theorem oz {l:List fZ} (hl: ∀x,x∈l→dE.ok x): ∀k:Nat,k≤l.length→k≤400→nP k (qd (l.take k)):=by
 intro k;induction k with|zero=>intro _ _;exact⟨yA,uT⟩|succ k ih=>intro h h';obtain⟨x,hx⟩:=ax (xs:=l) (i:=k) (by omega);rw[uV hx];exact(Gi (ih (by omega) (by omega)) (by omega) (hl x (List.mem_of_getElem? hx))).1
theorem QY(l:List fZ)(n:Int)(h0:0≤n)(hn:n≤100):PC env 6 [⟨.sl dE,l⟩,⟨.int .i64,n⟩] az (qd (l.take n.toNat)):=by
 refine PC.ao (m:=2000) ah ab4 rfl rfl rfl rfl (by kernel_rfl) ?_;intro hx;simp only[Tryz.f6];simp only[go_sem,zA,↓reduceIte,↓reduceDIte,zB,zC,zD,zE,zF,zG,zH,zI]
 refine av.cU (X:=Nat×cn) (fun(z:Nat×cn)=>[(6,.iv (.int .i64) (z.1:Int))]) (fun(z:Nat×cn)=>[(5,.box [.iv (.sl ae) z.2.1,.iv (.sl ak) z.2.2.1,.iv (.int .i64) z.2.2.2.1,.iv (.int .i64) z.2.2.2.2.1,.iv (.int .i64) z.2.2.2.2.2.1,.iv (.int .i64) z.2.2.2.2.2.2.1,.iv (.int .i64) z.2.2.2.2.2.2.2.1,.iv (.int .i64) z.2.2.2.2.2.2.2.2.1,.iv (.int .i64) z.2.2.2.2.2.2.2.2.2.1,.iv (.int .i64) z.2.2.2.2.2.2.2.2.2.2])]) (fun(z:Nat×cn)=>z.1≤l.length∧z.1≤n.toNat∧z.2=qd (l.take z.1)) (fun(z:Nat×cn)=>n.toNat-z.1) (0,([],[],(0,0,0,0,0,0,0,0))) ?_
 intro b1 b2 ck cH;simp(config:= {maxSteps:=4000000})only[go_sem,zA,↓reduceIte,↓reduceDIte,zB,zC,zD,zE,zF,zG,zH,zI]at ck cH;subst ck;subst cH;refine⟨(by refine⟨?_,?_,rfl,rfl⟩<;>repeat' (first|exact trivial|exact Or.inl rfl|exact Or.inr rfl|apply cV|apply cW|apply cX|apply cY|exact⟨(by show(_:Nat)<1000000000;omega),rfl,rfl⟩|rfl|(refine And.intro (Or.inl ?_) ?_)|(refine And.intro ?_ ?_))),?_,?_⟩
 (·exact⟨Nat.zero_le _,Nat.zero_le _,rfl⟩);intro⟨k,u⟩⟨tp,av6,hu⟩back;dsimp only at tp av6 hu;refine ay ah ⟨_,ab4,rfl⟩ 2000 _ _ (by kernel_rfl) ?_;simp only[go_sem,zA,↓reduceIte,↓reduceDIte,zB,zC,zD,zE,zF,zG,zH,zI]
 have hg:=oz hx.1.2 k tp (by omega);rw[←hu]at hg;refine⟨fun h1=>⟨fun h2=>?_,fun h2=>?_⟩,fun h1=>?_⟩;(·obtain⟨x,cJ⟩: ∃x,l[k]?=some x:=ax (by omega);refine⟨Int.natCast_nonneg _,x,cJ,_,QX u x hg.1,fun _=>⟨aH (by omega) (by omega),back _ (k+1,(mA u x).1) (by refine⟨?_,?_,rfl,rfl⟩<;>repeat' (first|exact trivial|exact Or.inl rfl|exact Or.inr rfl|apply cV|apply cW|apply cX|apply cY|exact⟨(by show(_:Nat)<1000000000;omega),rfl,rfl⟩|rfl|(refine And.intro (Or.inl ?_) ?_)|(refine And.intro ?_ ?_))) ⟨by dsimp only;omega,by dsimp only;omega,by dsimp only;rw[uV cJ,hu]⟩ (by dsimp only;omega)⟩⟩)
 (·(have e:k=n.toNat:=by omega);rw[←e,←hu]);·(have e:l.take n.toNat=l.take k:=by rw[List.take_of_length_le (by omega),List.take_of_length_le (by omega)]);rw[e,←hu]
end Go.Proofs.YtmgmonbmdkkhbaaGreatDoor
