/- Plain facts: insertion and filters in ordered lists; all records that were learnt. Nothing here is trusted; no condition. -/
import Derived.Test.YtgpkijnphchkpaaGreatL2
set_option linter.unusedSimpArgs false
set_option linter.unusedVariables false
open Nat renaming reduceBEq→zA,reduceAdd→zB,reduceSub→zC,reduceMul→zD,reduceLeDiff→zE
open Int renaming reduceLT→zF,reduceLE→zG,reduceToNat→zH,reduceNeg→zI
namespace Go.Proofs.YtgpkijnphchkpaaGreat.Ln
set_option maxHeartbeats 1000000
def NS(x y:Int×Int):Bool:=decide (x.1<y.1∨x.1=y.1∧x.2<y.2)
theorem UG {x y:Int×Int} :NS x y=true↔(x.1<y.1∨x.1=y.1∧x.2<y.2):=by simp[NS]
theorem ae8 {a b:Int} :XE a b<0↔a<b:=by unfold XE;split<;>(try split)<;>omega
theorem Vk {a b:Int} :XE a b=0↔a=b:=by unfold XE;split<;>(try split)<;>omega
theorem ae9 {x y:Int×Int} :TF x y<0↔NS x y=true:=by
 rw[UG];unfold TF;have h1:=Vk (a:=x.1) (b:=y.1);have h2:=ae8 (a:=x.1) (b:=y.1);have h3:=ae8 (a:=x.2) (b:=y.2);split<;>omega
theorem YH {x y:Int×Int} :TF x y=0↔x=y:=by unfold TF;have h1:=Vk (a:=x.1) (b:=y.1);have h3:=Vk (a:=x.2) (b:=y.2);rw[Prod.ext_iff];split<;>omega
theorem QZ {x y z:Int×Int} (h:NS x y=true)(h':NS y z=true):NS x z=true:=by rw[UG]at*;omega
theorem aR0 {x:Int×Int} :NS x x=false:=by cases h:NS x x;(·rfl);·rw[UG]at h;omega
theorem ak5 {x y:Int×Int} (h:NS x y=false)(hn:x≠y):NS y x=true:=by
 (have h': ¬(NS x y=true):=by rw[h];decide);rw[UG]at*;have: ¬(x.1=y.1∧x.2=y.2):=fun e=>hn (Prod.ext e.1 e.2);omega
/-! Lists that are ordered by places. -/
def ZD {α:Type} (pl:α→Int×Int)(l:List α):Prop:=l.Pairwise (fun x y=>NS (pl x) (pl y)=true)
theorem We {α:Type} {pl:α→Int×Int} {l:List α} (h:ZD pl l) {i j:Nat} {x y:α} (hi:l[i]?=some x)(hj:l[j]?=some y)(bT:i<j):NS (pl x) (pl y)=true:=by
 unfold ZD at h;rw[List.pairwise_iff_getElem]at h;obtain⟨h1,rfl⟩:=List.getElem?_eq_some_iff.1 hi;obtain⟨h2,rfl⟩:=List.getElem?_eq_some_iff.1 hj;exact h i j h1 h2 bT
theorem VJ {α:Type} {pl:α→Int×Int} : ∀ {l:List α},(∀i x y,l[i]?=some x→l[i+1]?=some y→NS (pl x) (pl y)=true)→ZD pl l|[],_=>List.Pairwise.nil|[x],_=>List.pairwise_singleton .. |x::y::r,h=>by have hr:ZD pl (y::r):=VJ (fun i a b ha hb=>h (i+1) a b ha hb);refine List.Pairwise.cons ?_ hr;have yz:=h 0 x y rfl rfl;intro z hz;rcases List.mem_cons.1 hz with rfl|hz;(·exact yz);·exact QZ yz ((List.pairwise_cons.1 hr).1 z hz)
theorem af0 {α:Type} {pl:α→Int×Int} {l:List α} {j:Nat} {x y:α} (hx:l[j]?=some x)(hy:l[j+1]?=some y):ZA pl l j=NS (pl x) (pl y):=by
 unfold ZA;rw[hx,hy];dsimp only;have:=ae9 (x:=pl x) (y:=pl y);cases hb:NS (pl x) (pl y);(·rw[hb]at this;simp at this;simp;omega);·rw[hb]at this;simp at this;simp;omega
theorem VK {α:Type} {pl:α→Int×Int} {l:List α} :Pn pl l=true↔ZD pl l:=by
 constructor;(·intro h;refine VJ fun i x y hx hy=>?_;(have hi:i<l.length-1:=by have:=(List.getElem?_eq_some_iff.1 hy).1;omega);have:=List.all_eq_true.1 h i (List.mem_range.2 hi);rwa[af0 hx hy]at this)
 ·intro h;refine List.all_eq_true.2 fun i hi=>?_;have hi:=List.mem_range.1 hi;obtain⟨x,hx⟩:=r3 (xs:=l) (i:=i) (by omega);obtain⟨y,hy⟩:=r3 (xs:=l) (i:=i+1) (by omega);rw[af0 hx hy];exact We h hx hy (by omega)
/-! The binary search's index. -/
theorem aR1(lt:Nat→Bool)(N:Nat)(hm: ∀i j,i≤j→j<N→lt j=true→lt i=true): ∀(f i j:Nat),j-i≤f→i≤j→j≤N→(∀k,k<i→lt k=true)→(∀k,j≤k→k<N→lt k=false)→(∀k,k<bsF lt i j→lt k=true)∧ ∀k,bsF lt i j≤k→k<N→lt k=false:=by
 intro f;induction f with|zero=>intro i j h bT hj h1 h2;(have:i=j:=by omega);subst this;unfold bsF;rw[if_neg (by omega)];exact⟨h1,h2⟩|succ f ih=>intro i j h bT hj h1 h2;unfold bsF;by_cases bo:i<j;(·rw[if_pos bo];cases hc:lt ((i+j)/2);(·rw[if_neg (by decide)];exact ih _ _ (by omega) (by omega) (by omega) h1 fun k hk KR=>by cases eL:lt k;(·rfl);·rw[hm _ _ hk KR eL]at hc;cases hc);·rw[if_pos rfl];exact ih _ _ (by omega) (by omega) (by omega) (fun k hk=>hm k _ (by omega) (by omega) hc) h2);·rw[if_neg bo];(have:i=j:=by omega);subst this;exact⟨h1,h2⟩
def Q0 {α:Type} (pl:α→Int×Int)(l:List α)(p:Int×Int):Nat:=(l.takeWhile (fun x=>NS (pl x) p)).length
theorem PY {α:Type} {q:α→Bool} : ∀ {l:List α} {k:Nat},k≤l.length→(∀i x,i<k→l[i]?=some x→q x=true)→(∀x,l[k]?=some x→q x=false)→(l.takeWhile q).length=k|[],k,hk,_,_=>(by simp at hk;subst hk;rfl)|a::r,0,_,_,h=>(by simp[List.takeWhile,h a rfl])|a::r,k+1,hk,h1,h2=>by have ha:=h1 0 a (by omega) rfl;have:=PY (l:=r) (k:=k) (by simpa using hk) (fun i x hi hx=>h1 (i+1) x (by omega) hx) (fun x hx=>h2 x hx);simp[List.takeWhile,ha,this]
theorem XF {α:Type} {q:α→Bool} : ∀ {l:List α} {i:Nat} {x:α},i<(l.takeWhile q).length→l[i]?=some x→q x=true|[],i,x,h,_=>(by simp at h)|a::r,0,x,h,hx=>(by simp at hx;subst hx;cases hq:q a;(·simp[List.takeWhile,hq]at h);·rfl)|a::r,i+1,x,h,hx=>by cases hq:q a;(·simp[List.takeWhile,hq]at h);·simp[List.takeWhile,hq]at h;exact XF h hx
theorem VL {α:Type} {q:α→Bool} : ∀ {l:List α} {x:α},l[(l.takeWhile q).length]?=some x→q x=false|[],x,h=>(by simp at h)|a::r,x,h=>by cases hq:q a;(·simp[List.takeWhile,hq]at h;subst h;exact hq);·simp[List.takeWhile,hq]at h;exact VL h
theorem bs7 {α:Type} (pl:α→Int×Int)(l:List α)(p:Int×Int):Q0 pl l p≤l.length:=(List.takeWhile_sublist _).length_le
theorem Wf {α:Type} {pl:α→Int×Int} {l:List α} {p:Int×Int} {i:Nat} {x:α} (h:l[i]?=some x):X0 pl l p i=NS (pl x) p:=by
 unfold X0;rw[h];dsimp only;have:=ae9 (x:=pl x) (y:=p);cases hb:NS (pl x) p;(·rw[hb]at this;simp at this;simp;omega);·rw[hb]at this;simp at this;simp;omega
theorem Tk {α:Type} {pl:α→Int×Int} {l:List α} (h:ZD pl l)(p:Int×Int):Tq pl l p=Q0 pl l p:=by
 have hs:=aR1 (X0 pl l p) l.length (fun i j bT hj ht=>by rcases Nat.lt_or_eq_of_le bT with bo|rfl;(·obtain⟨x,hx⟩:=r3 (xs:=l) (i:=i) (by omega);obtain⟨y,hy⟩:=r3 (xs:=l) (i:=j) hj;rw[Wf hy]at ht;rw[Wf hx];exact QZ (We h hx hy bo) ht);·exact ht) l.length 0 l.length (by omega) (by omega) (Nat.le_refl _) (fun k hk=>by omega) (fun k hk eL=>by omega)
 symm;refine PY (Ro pl l p) (fun i x hi hx=>?_) (fun x hx=>?_);(·rw[←Wf hx];exact hs.1 i hi);·rw[←Wf hx];exact hs.2 _ (Nat.le_refl _) (List.getElem?_eq_some_iff.1 hx).1
theorem ap9 {α:Type} {pl:α→Int×Int} {l:List α} (h:ZD pl l)(p:Int×Int):QY pl l p (Tq pl l p)=true↔p∈l.map pl:=by
 rw[Tk h];constructor;(·intro hh;unfold QY at hh;split at hh;(·rename_i x hx;have:=YH.1 (of_decide_eq_true hh);exact List.mem_map.2 ⟨x,List.mem_of_getElem? hx,this⟩);·cases hh)
 ·intro hm;obtain⟨y,hy,rfl⟩:=List.mem_map.1 hm;obtain⟨j,hj⟩:=List.getElem?_of_mem hy;have kC:=(List.getElem?_eq_some_iff.1 hj).1;have he:Q0 pl l (pl y)=j:=PY (by omega) (fun i x hi hx=>We h hx hj hi) (fun x hx=>by rw[hj]at hx;injection hx with hx;subst hx;exact aR0);unfold QY;rw[he,hj];exact decide_eq_true (YH.2 rfl)
theorem ZC {α:Type} {pl:α→Int×Int} {l:List α} {x:α} (h:ZD pl l)(hn:pl x∉l.map pl):ZD pl (Nr l (Q0 pl l (pl x)) x):=by
 (have bo: ∀y,y∈l.take (Q0 pl l (pl x))→NS (pl y) (pl x)=true:=by intro y hy;obtain⟨i,hi⟩:=List.getElem?_of_mem hy;rw[List.getElem?_take]at hi;split at hi;(·rename_i bo;exact XF (q:=fun y=>NS (pl y) (pl x)) bo hi);·cases hi)
 (have oA: ∀y,y∈l.drop (Q0 pl l (pl x))→NS (pl x) (pl y)=true:=by intro y hy;obtain⟨i,hi⟩:=List.getElem?_of_mem hy;rw[List.getElem?_drop]at hi;obtain⟨z,hz⟩:=r3 (xs:=l) (i:=Q0 pl l (pl x)) (by have:=(List.getElem?_eq_some_iff.1 hi).1;omega);have KS:=VL (q:=fun y=>NS (pl y) (pl x)) hz;have Jb:NS (pl x) (pl z)=true:=ak5 KS fun e=>hn (List.mem_map.2 ⟨z,List.mem_of_getElem? hz,e⟩);cases i with|zero=>rw[Nat.add_zero,hz]at hi;injection hi with hi;subst hi;exact Jb|succ i=>exact QZ Jb (We h hz hi (by omega)))
 unfold Nr ZD;rw[List.pairwise_append];refine⟨List.Pairwise.sublist (List.take_sublist ..) h,List.Pairwise.cons oA (List.Pairwise.sublist (List.drop_sublist ..) h),fun a ha b hb=>?_⟩
 rcases List.mem_cons.1 hb with rfl|hb;(·exact bo a ha);·exact QZ (bo a ha) (oA b hb)
theorem Od {α:Type} {l:List α} {i:Nat} {x y:α} :y∈Nr l i x↔y=x∨y∈l:=by
 unfold Nr;rw[List.mem_append,List.mem_cons];(conv=>rhs;rw[←List.take_append_drop i l,List.mem_append]);constructor;(·rintro(h|h|h);(·exact .inr (.inl h));(·exact .inl h);·exact .inr (.inr h))
 ·rintro(h|h|h);(·exact .inr (.inl h));(·exact .inl h);·exact .inr (.inr h)
theorem Vl {α:Type} {l:List α} {i:Nat} {x:α} (h:i≤l.length):(Nr l i x).length=l.length+1:=by simp[Nr];omega
end Go.Proofs.YtgpkijnphchkpaaGreat.Ln
namespace Go.Proofs.YtgpkijnphchkpaaGreat.Ln
attribute[local go_sem←]Bool.decide_and Bool.decide_or decide_not
attribute[local go_sem]Nl
set_option maxHeartbeats 4000000
set_option maxRecDepth 100000
theorem PC.dec {E:Env} {f:Nat} {xs:List (Sigma Ty.den)} {b:Bool} (h:PC E f xs .bool b):PC E f xs .bool (decide (b=true)):=by cases b<;>exact h
theorem Uz(r:Rec):PC env 68 [⟨Fg,r⟩] .bool (Mk r):=by
 refine PC.LU (m:=2000) av b76 rfl rfl rfl rfl (by kernel_rfl) ?_;intro hx;simp only[Tryz.f68];simp only[go_sem,zA,↓reduceIte,↓reduceDIte,zB,zC,zD,zE,zF,zG,zH,zI]
 unfold Mk;(repeat' (first|(with_reducible intro _)|(with_reducible apply And.intro)|(with_reducible refine⟨_,bs0 _ _ _,?_⟩;try simp only[go_sem,zA,↓reduceIte,↓reduceDIte,zB,zC,zD,zE,zF,zG,zH,zI])|(with_reducible refine⟨_,PC.dec (UD _),?_⟩;try simp only[go_sem,zA,↓reduceIte,↓reduceDIte,zB,zC,zD,zE,zF,zG,zH,zI])|fail))
 all_goals first|(symm;simp_all;done)|(clear hx;simp_all;done)|(symm;simp;omega)|exact⟨_,bs0 _ _ _,by clear hx;simp_all⟩
theorem UH(o:MR):PC env 82 [⟨LR,o⟩] .bool (Mw o):=by
 refine PC.LU (m:=2000) av b82 rfl rfl rfl rfl (by kernel_rfl) ?_;intro hx;simp only[Tryz.f82];simp only[go_sem,zA,↓reduceIte,↓reduceDIte,zB,zC,zD,zE,zF,zG,zH,zI]
 unfold Mw rk rk1 rk2 rk4 rk5;(repeat' (first|(with_reducible intro _)|(with_reducible apply And.intro)|(with_reducible refine⟨_,bs0 _ _ _,?_⟩;try simp only[go_sem,zA,↓reduceIte,↓reduceDIte,zB,zC,zD,zE,zF,zG,zH,zI])|(with_reducible refine⟨_,PC.dec (UD _),?_⟩;try simp only[go_sem,zA,↓reduceIte,↓reduceDIte,zB,zC,zD,zE,zF,zG,zH,zI])|fail))
 all_goals first|(symm;simp_all;done)|(clear hx;simp_all;done)|(symm;simp;omega)|exact⟨_,bs0 _ _ _,by clear hx;simp_all⟩|(clear hx;simp_all;omega)
end Go.Proofs.YtgpkijnphchkpaaGreat.Ln
namespace Go.Proofs.YtgpkijnphchkpaaGreat.Ln
attribute[local go_sem←]Bool.decide_and Bool.decide_or decide_not
set_option maxHeartbeats 4000000
set_option maxRecDepth 100000
theorem af1(x y:Int×Int):PC env 117 [⟨Mr,x⟩,⟨Mr,y⟩] .bool (NS x y):=by
 refine PC.LU (m:=2000) av bT9 rfl rfl rfl rfl (by kernel_rfl) ?_;intro hx;simp only[Tryz.f117];simp only[go_sem,zA,↓reduceIte,↓reduceDIte,zB,zC,zD,zE,zF,zG,zH,zI]
 unfold NS;refine⟨fun h=>⟨fun h2=>?_,fun h2=>?_⟩,fun h=>?_⟩;(·simp[h,h2]);(·simp[h,h2]);·simp[h]
theorem X1(a b:List Rec):PC env 24 [⟨.sl Fg,a⟩,⟨.sl Fg,b⟩] .bool (decide (a=b)):=by
 refine PC.LU (m:=2000) av bv1 rfl rfl rfl rfl (by kernel_rfl) ?_;intro hx;simp only[Tryz.f24];simp only[go_sem,zA,↓reduceIte,↓reduceDIte,zB,zC,zD,zE,zF,zG,zH,zI]
 refine⟨fun h=>?_,fun h=>?_⟩;(·symm;rw[decide_eq_false_iff_not];rintro rfl;exact h rfl);refine u1.Mp (X:=Nat) (fun(k:Nat)=>[(5,.iv (.int .i64) (k:Int))]) (fun(k:Nat)=>[]) (fun(k:Nat)=>k≤a.length∧a.take k=b.take k) (fun(k:Nat)=>a.length-k) 0 ?_
 intro b1 b2 ao aq;simp(config:= {maxSteps:=4000000})only[go_sem,zA,↓reduceIte,↓reduceDIte,zB,zC,zD,zE,zF,zG,zH,zI]at ao aq;subst ao;subst aq;refine⟨(by refine⟨?_,?_,rfl,rfl⟩<;>repeat' (first|exact trivial|exact Or.inl rfl|exact Or.inr rfl|apply aw|apply ax|apply ay|apply az|exact⟨(by show(_:Nat)<1000000000;omega),rfl,rfl⟩|rfl|(refine And.intro (Or.inl ?_) ?_)|(refine And.intro ?_ ?_))),?_,?_⟩
 (·exact⟨Nat.zero_le _,rfl⟩);have jn:a.length≤9223372036854775807:=hx.1.1;intro k⟨hk,he⟩back;refine LP av ⟨_,bv1,rfl⟩ 2000 _ _ (by kernel_rfl) ?_;simp only[go_sem,zA,↓reduceIte,↓reduceDIte,zB,zC,zD,zE,zF,zG,zH,zI]
 refine⟨fun h2=>?_,fun h2=>?_⟩;(·obtain⟨x,aK⟩: ∃x,a[k]?=some x:=r3 (by omega);obtain⟨y,lV⟩: ∃y,b[k]?=some y:=r3 (by omega);refine⟨Int.natCast_nonneg _,x,aK,Int.natCast_nonneg _,y,lV,fun hn=>?_,fun hy=>?_⟩;(·symm;rw[decide_eq_false_iff_not];rintro rfl;rw[aK]at lV;injection lV with lV;subst lV;exact hn ⟨rfl,rfl,rfl,rfl,rfl,rfl⟩);·(have e:x=y:=by obtain⟨e1,e2,e3,e4,e5,e6⟩:=hy;exact Prod.ext e1 (Prod.ext e2 (Prod.ext e3 (Prod.ext e4 (Prod.ext e5 e6)))));subst e;exact⟨LN (by omega) (by omega),back _ (k+1) (by refine⟨?_,?_,rfl,rfl⟩<;>repeat' (first|exact trivial|exact Or.inl rfl|exact Or.inr rfl|apply aw|apply ax|apply ay|apply az|exact⟨(by show(_:Nat)<1000000000;omega),rfl,rfl⟩|rfl|(refine And.intro (Or.inl ?_) ?_)|(refine And.intro ?_ ?_))) ⟨by omega,by rw[LW aK,LW lV,he]⟩ (by omega)⟩)
 ·symm;rw[decide_eq_true_eq];have e1:a.take k=a:=List.take_of_length_le (by omega);have e2:b.take k=b:=List.take_of_length_le (by omega);rwa[e1,e2]at he
noncomputable def eqP {α:Type} (a b:α):Bool:= @decide (a=b) (Classical.propDecidable _)
theorem bx4 {α:Type} {a b:α} (h:a=b):eqP a b=true:= @decide_eq_true _ (Classical.propDecidable _) h
theorem aq0 {α:Type} {a b:α} (h:a≠b):eqP a b=false:= @decide_eq_false _ (Classical.propDecidable _) h
theorem bY7(a b:Oc):PC env 21 [⟨Mt,a⟩,⟨Mt,b⟩] .bool (eqP a b):=by
 refine PC.LU (m:=2000) av bv0 rfl rfl rfl rfl (by kernel_rfl) ?_;intro hx;simp only[Tryz.f21];simp only[go_sem,zA,↓reduceIte,↓reduceDIte,zB,zC,zD,zE,zF,zG,zH,zI]
 refine⟨fun h1=>⟨fun h2=>⟨_,X1 a.1 b.1,?_⟩,fun h2=>?_⟩,fun h1=>?_⟩;(·simp only[go_sem,zA,↓reduceIte,↓reduceDIte,zB,zC,zD,zE,zF,zG,zH,zI];refine⟨fun h3=>?_,fun h3=>?_⟩;(·symm;apply aq0;rintro rfl;exact h3 rfl);·refine u1.Mp (X:=Nat) (fun(k:Nat)=>[(5,.iv (.int .i64) (k:Int))]) (fun(k:Nat)=>[]) (fun(k:Nat)=>k≤a.2.1.length∧a.2.1.take k=b.2.1.take k) (fun(k:Nat)=>a.2.1.length-k) 0 ?_;intro b1 b2 ao aq;simp(config:= {maxSteps:=4000000})only[go_sem,zA,↓reduceIte,↓reduceDIte,zB,zC,zD,zE,zF,zG,zH,zI]at ao aq;subst ao;subst aq;refine⟨(by refine⟨?_,?_,rfl,rfl⟩<;>repeat' (first|exact trivial|exact Or.inl rfl|exact Or.inr rfl|apply aw|apply ax|apply ay|apply az|exact⟨(by show(_:Nat)<1000000000;omega),rfl,rfl⟩|rfl|(refine And.intro (Or.inl ?_) ?_)|(refine And.intro ?_ ?_))),?_,?_⟩;(·exact⟨Nat.zero_le _,rfl⟩);have jn:a.2.1.length≤9223372036854775807:=hx.1.2.1.1;intro k⟨hk,he⟩back;refine LP av ⟨_,bv0,rfl⟩ 2000 _ _ (by kernel_rfl) ?_;simp only[go_sem,zA,↓reduceIte,↓reduceDIte,zB,zC,zD,zE,zF,zG,zH,zI];refine⟨fun h4=>?_,fun h4=>?_⟩;(·obtain⟨x,aK⟩: ∃x,a.2.1[k]?=some x:=r3 (by omega);obtain⟨y,lV⟩: ∃y,b.2.1[k]?=some y:=r3 (by omega);refine⟨Int.natCast_nonneg _,x,aK,Int.natCast_nonneg _,y,lV,fun hn=>?_,fun hy=>?_⟩;(·symm;apply aq0;rintro rfl;rw[aK]at lV;injection lV with lV;subst lV;exact hn ⟨rfl,rfl,rfl,rfl,rfl,rfl,rfl⟩);·(have e:x=y:=by obtain⟨e1,e2,e3,e4,e5,e6,e7⟩:=hy;exact Prod.ext e1 (Prod.ext e2 (Prod.ext e3 (Prod.ext e4 (Prod.ext e5 (Prod.ext e6 e7))))));subst e;exact⟨LN (by omega) (by omega),back _ (k+1) (by refine⟨?_,?_,rfl,rfl⟩<;>repeat' (first|exact trivial|exact Or.inl rfl|exact Or.inr rfl|apply aw|apply ax|apply ay|apply az|exact⟨(by show(_:Nat)<1000000000;omega),rfl,rfl⟩|rfl|(refine And.intro (Or.inl ?_) ?_)|(refine And.intro ?_ ?_))) ⟨by omega,by rw[LW aK,LW lV,he]⟩ (by omega)⟩);·symm;apply bx4;have e1:a.2.1.take k=a.2.1:=List.take_of_length_le (by omega);have e2:b.2.1.take k=b.2.1:=List.take_of_length_le (by omega);rw[e1,e2]at he;obtain⟨e1,e2,e3,e4,e5,e6,e7,e8⟩:=h2;exact Prod.ext h3 (Prod.ext he (Prod.ext e1 (Prod.ext e2 (Prod.ext e3 (Prod.ext e4 (Prod.ext e5 (Prod.ext e6 (Prod.ext e7 e8)))))))))
 (·symm;apply aq0;rintro rfl;exact h2 ⟨rfl,rfl,rfl,rfl,rfl,rfl,rfl,rfl⟩);·symm;apply aq0;rintro rfl;exact h1 rfl
end Go.Proofs.YtgpkijnphchkpaaGreat.Ln
namespace Go.Proofs.YtgpkijnphchkpaaGreat.Ln
set_option maxHeartbeats 1000000
theorem SW(L:L8) {d i:Int} (y:Int)(h0:0≤i)(h7:i≤7)(bf:i≠d):L2 (Oa L d y) i=L2 L i:=by
 (have h:i=0∨i=1∨i=2∨i=3∨i=4∨i=5∨i=6∨i=7:=by omega);unfold L2 VI Oa;rcases h with rfl|rfl|rfl|rfl|rfl|rfl|rfl|rfl<;>(simp;intro e;exact absurd e.symm bf)
theorem Tl(L:L8) {d i:Int} (h0:0≤i)(h7:i≤7):L2 L i≤L2 (Oa L d (L2 L d+1)) i:=by by_cases e:i=d;(·subst e;rw[R9 L _ h0 h7];omega);·rw[SW L _ h0 h7 e];omega
structure VU(u:Oc):Prop where
 l1:u.1.length≤400
 l2:u.2.1.length≤400
 last: ∀i:Int,0≤i→i≤7→0≤L2 u.2.2 i∧L2 u.2.2 i≤1000000
 ord: ∀o,o∈u.2.1→Mw o=true∧o.2.1≤L2 u.2.2 o.1
 sO:ZD Pq u.2.1
 sR:ZD P5 u.1
 rcd: ∀r,r∈u.1→Mk r=true∧r.2.1≤L2 u.2.2 r.1∧P5 r∉u.2.1.map Pq∧ ∀o,o∈u.2.1→Mx o r=false
theorem aR2(L:L8):(VI L).all TG=true↔ ∀i:Int,0≤i→i≤7→0≤L2 L i∧L2 L i≤1000000:=by
 constructor;(·intro h i h0 h7;have:=List.all_eq_true.1 h _ (List.mem_of_getElem? (PU L h0 h7));exact of_decide_eq_true this);·intro h;refine List.all_eq_true.2 fun x hx=>decide_eq_true ?_;obtain⟨k,hk⟩:=List.getElem?_of_mem hx;have LH:k<8:=(List.getElem?_eq_some_iff.1 hk).1;have:=PU L (i:=(k:Int)) (by omega) (by omega);rw[Int.toNat_natCast,hk]at this;injection this with this;rw[this];exact h _ (by omega) (by omega)
theorem bY8(u:Oc):Vj u=true↔VU u:=by
 unfold Vj;rw[Bool.and_eq_true,Bool.and_eq_true,Bool.and_eq_true,Bool.and_eq_true,Bool.and_eq_true,decide_eq_true_eq,aR2,VK,VK,List.all_eq_true,List.all_eq_true]
 constructor;(·rintro⟨⟨h1,h2⟩,h3,h4,⟨h5,h6⟩,h7⟩;refine⟨h1,h2,h3,fun o ho=>?_,h5,h6,fun r hr=>?_⟩;(·have:=h4 o ho;simpa[UF]using this);·have:=h7 r hr;simp only[Se,Bool.and_eq_true,decide_eq_true_eq,Bool.not_eq_true',Bool.or_eq_false_iff]at this;obtain⟨⟨a,b⟩,c,d⟩:=this;refine⟨a,b,fun hm=>?_,fun o ho=>?_⟩;(·rw[(ap9 h5 _).2 hm]at c;cases c);·exact(Bool.eq_false_iff.2 fun hh=>by rw[List.any_eq_true.2 ⟨o,ho,hh⟩]at d;cases d))
 ·intro h;refine⟨⟨h.l1,h.l2⟩,h.last,fun o ho=>?_,⟨h.sO,h.sR⟩,fun r hr=>?_⟩;(·simpa[UF]using h.ord o ho);·obtain⟨a,b,c,d⟩:=h.rcd r hr;simp only[Se,Bool.and_eq_true,decide_eq_true_eq,Bool.not_eq_true',Bool.or_eq_false_iff];refine⟨⟨a,b⟩,?_,?_⟩;(·exact Bool.eq_false_iff.2 fun hh=>c ((ap9 h.sO _).1 hh));·exact Bool.eq_false_iff.2 fun hh=>by obtain⟨o,ho,hm⟩:=List.any_eq_true.1 hh;rw[d o ho]at hm;cases hm
theorem Vm {r:Rec} {n:Int} (h:Mk (r.1,1,r.2.2)=true)(h1:1≤n)(h2:n≤1000000):Mk (r.1,n,r.2.2)=true:=by
 unfold Mk at h⊢;simp only[Bool.and_eq_true,decide_eq_true_eq]at h⊢;exact⟨⟨h.1.1,⟨h1,h2⟩,h.1.2.2⟩,h.2⟩
theorem PZ {r:Rec} {n:Int} (h:Mk (r.1,n,r.2.2)=true):0≤r.1∧r.1≤7:=by unfold Mk at h;simp only[Bool.and_eq_true,decide_eq_true_eq]at h;exact h.1.1
theorem cb3(o:MR)(n:Int):rk (o.1,n,o.2.2)=rk o:=rfl
theorem Vn {o:MR} {n:Int} (h:Mw (o.1,1,o.2.2)=true)(h1:1≤n)(h2:n≤1000000):Mw (o.1,n,o.2.2)=true:=by
 unfold Mw at h⊢;simp only[Bool.and_eq_true,decide_eq_true_eq,cb3]at h⊢;exact⟨⟨h.1.1,⟨h1,h2⟩,h.1.2.2⟩,h.2⟩
theorem P1 {o:MR} {n:Int} (h:Mw (o.1,n,o.2.2)=true):0≤o.1∧o.1≤7:=by unfold Mw at h;simp only[Bool.and_eq_true,decide_eq_true_eq]at h;exact h.1.1
theorem Wg {r:Rec} (h:Mk r=true):0≤r.1∧r.1≤7:=by unfold Mk at h;simp only[Bool.and_eq_true,decide_eq_true_eq]at h;exact h.1.1
theorem aq1 {o:MR} (h:Mw o=true):0≤o.1∧o.1≤7:=by unfold Mw at h;simp only[Bool.and_eq_true,decide_eq_true_eq]at h;exact h.1.1
theorem YI {L:L8} {d:Int} (h0:0≤d)(h7:d≤7)(hd:L2 L d<1000000)(h: ∀i:Int,0≤i→i≤7→0≤L2 L i∧L2 L i≤1000000): ∀i:Int,0≤i→i≤7→0≤L2 (Oa L d (L2 L d+1)) i∧L2 (Oa L d (L2 L d+1)) i≤1000000:=by
 intro i hi AS;have:=h i hi AS;by_cases e:i=d;(·subst e;rw[R9 L _ hi AS];omega);·rw[SW L _ hi AS e];omega
theorem YJ {u:Oc} {r:Rec} (hr:Mk (r.1,1,r.2.2)=true)(h1:u.1.length<400)(hd:L2 u.2.2 r.1<1000000):Ox u r=((if u.2.1.any (fun o=>Mx o (r.1,L2 u.2.2 r.1+1,r.2.2))then(u.1,u.2.1,Oa u.2.2 r.1 (L2 u.2.2 r.1+1))else(Nr u.1 (Tq P5 u.1 (r.1,L2 u.2.2 r.1+1)) (r.1,L2 u.2.2 r.1+1,r.2.2),u.2.1,Oa u.2.2 r.1 (L2 u.2.2 r.1+1))),L2 u.2.2 r.1+1,0):=by
 unfold Ox;rw[if_pos hr,if_neg (by omega)]
theorem Tm {u:Oc} (hu:VU u) {d:Int} :(d,L2 u.2.2 d+1)∉u.2.1.map Pq∧(d,L2 u.2.2 d+1)∉u.1.map P5:=by
 constructor<;>intro h;(·obtain⟨o,ho,he⟩:=List.mem_map.1 h;have h1:=(hu.ord o ho).2;have e1:o.1=d:=congrArg Prod.fst he;have e2:o.2.1=L2 u.2.2 d+1:=congrArg Prod.snd he;rw[e1]at h1;omega)
 ·obtain⟨r,hr,he⟩:=List.mem_map.1 h;have h1:=(hu.rcd r hr).2.1;have e1:r.1=d:=congrArg Prod.fst he;have e2:r.2.1=L2 u.2.2 d+1:=congrArg Prod.snd he;rw[e1]at h1;omega
theorem aR3 {u:Oc} {r:Rec} (hu:VU u)(hr:Mk (r.1,1,r.2.2)=true)(h1:u.1.length<400)(hd:L2 u.2.2 r.1<1000000):VU (Ox u r).1:=by
 rw[YJ hr h1 hd];dsimp only;obtain⟨d0,d7⟩:=PZ hr;have hl:=hu.last r.1 d0 d7;have cT:=YI d0 d7 hd hu.last;(have rz: ∀o,o∈u.2.1→Mw o=true∧o.2.1≤L2 (Oa u.2.2 r.1 (L2 u.2.2 r.1+1)) o.1:=fun o ho=>by obtain⟨a,b⟩:=hu.ord o ho;obtain⟨e0,e7⟩:=aq1 a;exact⟨a,Int.le_trans b (Tl _ e0 e7)⟩)
 (have jK: ∀x,x∈u.1→Mk x=true∧x.2.1≤L2 (Oa u.2.2 r.1 (L2 u.2.2 r.1+1)) x.1∧P5 x∉u.2.1.map Pq∧ ∀o,o∈u.2.1→Mx o x=false:=fun x hx=>by obtain⟨a,b,c,d⟩:=hu.rcd x hx;obtain⟨e0,e7⟩:=Wg a;exact⟨a,Int.le_trans b (Tl _ e0 e7),c,d⟩)
 split;(·exact⟨hu.l1,hu.l2,cT,rz,hu.sO,hu.sR,jK⟩);·rename_i hm;have hp:P5 (r.1,L2 u.2.2 r.1+1,r.2.2)=(r.1,L2 u.2.2 r.1+1):=rfl;refine⟨?_,hu.l2,cT,rz,hu.sO,?_,fun x hx=>?_⟩;(·dsimp only;rw[Vl (Ro _ _ _)];omega);(·dsimp only;rw[Tk hu.sR,←hp];exact ZC hu.sR (Tm hu).2);·rcases Od.1 hx with rfl|hx;(·refine⟨Vm hr (by omega) (by omega),?_,(Tm hu).1,fun o ho=>?_⟩;(·dsimp only;rw[R9 _ _ d0 d7];exact Int.le_refl _);·exact Bool.eq_false_iff.2 fun hh=>hm (List.any_eq_true.2 ⟨o,ho,hh⟩));·exact jK x hx
theorem XG {u:Oc} {o:MR} (hr:Mw (o.1,1,o.2.2)=true)(h1:u.2.1.length<400)(hd:L2 u.2.2 o.1<1000000):Mq u o=((u.1.filter (fun r=>!(Mx (o.1,L2 u.2.2 o.1+1,o.2.2) r)),Nr u.2.1 (Tq Pq u.2.1 (o.1,L2 u.2.2 o.1+1)) (o.1,L2 u.2.2 o.1+1,o.2.2),Oa u.2.2 o.1 (L2 u.2.2 o.1+1)),0):=by
 unfold Mq;rw[if_pos hr,if_neg (by omega)]
theorem aw1 {u:Oc} {o:MR} (hu:VU u)(hr:Mw (o.1,1,o.2.2)=true)(h1:u.2.1.length<400)(hd:L2 u.2.2 o.1<1000000):VU (Mq u o).1:=by
 rw[XG hr h1 hd];dsimp only;obtain⟨d0,d7⟩:=P1 hr;have hl:=hu.last o.1 d0 d7;have cT:=YI d0 d7 hd hu.last;have hp:Pq (o.1,L2 u.2.2 o.1+1,o.2.2)=(o.1,L2 u.2.2 o.1+1):=rfl
 refine⟨Nat.le_trans (List.length_filter_le ..) hu.l1,?_,cT,fun x hx=>?_,?_,List.Pairwise.sublist List.filter_sublist hu.sR,fun x hx=>?_⟩;(·dsimp only;rw[Vl (Ro _ _ _)];omega)
 (·rcases Od.1 hx with rfl|hx;(·refine⟨Vn hr (by omega) (by omega),?_⟩;dsimp only;rw[R9 _ _ d0 d7];exact Int.le_refl _);·obtain⟨a,b⟩:=hu.ord x hx;obtain⟨e0,e7⟩:=aq1 a;exact⟨a,Int.le_trans b (Tl _ e0 e7)⟩)
 (·dsimp only;rw[Tk hu.sO,←hp];exact ZC hu.sO (Tm hu).1);·dsimp only at hx;obtain⟨ti,BZ⟩:=List.mem_filter.1 hx;obtain⟨a,b,c,d⟩:=hu.rcd x ti;obtain⟨e0,e7⟩:=Wg a;refine⟨a,Int.le_trans b (Tl _ e0 e7),fun hm=>?_,fun y hy=>?_⟩;(·obtain⟨y,hy,he⟩:=List.mem_map.1 hm;rcases Od.1 hy with rfl|hy;(·exact(Tm hu).2 (List.mem_map.2 ⟨x,ti,he.symm⟩));·exact c (List.mem_map.2 ⟨y,hy,he⟩));·rcases Od.1 hy with rfl|hy;(·simpa using BZ);·exact d y hy
/-! The reference's steps. -/
def Qh(o:MR)(r:Rec):Bool:=Mw o&&Mk r&&Mx o r
def Vo(u:Oc)(r:Rec):Oc×Int×Int:=if Mk (r.1,1,r.2.2)=true then if u.1.length=400∨L2 u.2.2 r.1=1000000 then(u,0,2)else(if u.2.1.any (fun o=>Qh o (r.1,L2 u.2.2 r.1+1,r.2.2))then(u.1,u.2.1,Oa u.2.2 r.1 (L2 u.2.2 r.1+1))else(Nr u.1 (Q0 P5 u.1 (r.1,L2 u.2.2 r.1+1)) (r.1,L2 u.2.2 r.1+1,r.2.2),u.2.1,Oa u.2.2 r.1 (L2 u.2.2 r.1+1)),L2 u.2.2 r.1+1,0)else(u,0,240)
def Sf(l:List Rec)(os:List MR):List Rec:=l.filter (fun r=>!(os.any (fun o=>Qh o r)))
def Wh(u:Oc)(o:MR):Oc×Int:=if Mw (o.1,1,o.2.2)=true then if u.2.1.length=400∨L2 u.2.2 o.1=1000000 then(u,2)else((Sf u.1 (Nr u.2.1 (Q0 Pq u.2.1 (o.1,L2 u.2.2 o.1+1)) (o.1,L2 u.2.2 o.1+1,o.2.2)),Nr u.2.1 (Q0 Pq u.2.1 (o.1,L2 u.2.2 o.1+1)) (o.1,L2 u.2.2 o.1+1,o.2.2),Oa u.2.2 o.1 (L2 u.2.2 o.1+1)),0)else(u,240)
theorem Qx {o:MR} {r:Rec} (ho:Mw o=true)(hr:Mk r=true):Qh o r=Mx o r:=by unfold Qh;rw[ho,hr];rfl
theorem Vp {l:List MR} {r:Rec} (ho: ∀o,o∈l→Mw o=true)(hr:Mk r=true):l.any (fun o=>Qh o r)=l.any (fun o=>Mx o r):=by
 rw[Bool.eq_iff_iff,List.any_eq_true,List.any_eq_true];constructor;(·rintro⟨o,h,hh⟩;rw[Qx (ho o h) hr]at hh;exact⟨o,h,hh⟩);·rintro⟨o,h,hh⟩;exact⟨o,h,by rw[Qx (ho o h) hr];exact hh⟩
theorem aw2 {u:Oc} (hu:VU u)(r:Rec):Vo u r=Ox u r:=by
 unfold Vo Ox;by_cases hr:Mk (r.1,1,r.2.2)=true;(·rw[if_pos hr,if_pos hr];obtain⟨d0,d7⟩:=PZ hr;have hl:=hu.last r.1 d0 d7;have h1:=hu.l1;by_cases hb:400≤u.1.length∨1000000≤L2 u.2.2 r.1;(·rw[if_pos hb,if_pos (by omega)]);·rw[if_neg hb,if_neg (by omega),Vp (fun o ho=>(hu.ord o ho).1) (Vm hr (by omega) (by omega)),Tk hu.sR])
 ·rw[if_neg hr,if_neg hr]
theorem XI {u:Oc} (hu:VU u)(o:MR):Wh u o=Mq u o:=by
 unfold Wh Mq;by_cases hr:Mw (o.1,1,o.2.2)=true;(·rw[if_pos hr,if_pos hr];obtain⟨d0,d7⟩:=P1 hr;have hl:=hu.last o.1 d0 d7;have h1:=hu.l2;by_cases hb:400≤u.2.1.length∨1000000≤L2 u.2.2 o.1;(·rw[if_pos hb,if_pos (by omega)]);·rw[if_neg hb,if_neg (by omega),Tk hu.sO];(have hk:Sf u.1 (Nr u.2.1 (Q0 Pq u.2.1 (o.1,L2 u.2.2 o.1+1)) (o.1,L2 u.2.2 o.1+1,o.2.2))=u.1.filter (fun r=>!(Mx (o.1,L2 u.2.2 o.1+1,o.2.2) r)):=by unfold Sf;refine List.filter_congr fun r hm=>?_;obtain⟨a,_,_,d⟩:=hu.rcd r hm;have ho:Mw (o.1,L2 u.2.2 o.1+1,o.2.2)=true:=Vn hr (by omega) (by omega);congr 1;rw[Bool.eq_iff_iff,List.any_eq_true];constructor;(·rintro⟨y,hy,hh⟩;rcases Od.1 hy with rfl|hy;(·rwa[Qx ho a]at hh);·rw[Qx (hu.ord y hy).1 a,d y hy]at hh;cases hh);·intro hh;exact⟨_,Od.2 (.inl rfl),by rw[Qx ho a];exact hh⟩);rw[hk])
 ·rw[if_neg hr,if_neg hr]
end Go.Proofs.YtgpkijnphchkpaaGreat.Ln
namespace Go.Proofs.YtgpkijnphchkpaaGreat.Ln
attribute[local go_sem←]Bool.decide_and Bool.decide_or decide_not
attribute[local go_sem]Nl
set_option maxHeartbeats 4000000
set_option maxRecDepth 100000
theorem af2 {o:MR} (h:Mw o=true):o.2.2.2.1=1∨o.2.2.2.1=2∨o.2.2.2.1=3∨o.2.2.2.1=4∨o.2.2.2.1=5:=by
 unfold Mw rk at h;simp only[Bool.and_eq_true]at h;have h2:=h.2;(repeat' split at h2);all_goals first|(simp_all;done)|cases h2
theorem aR4(o:MR)(r:Rec):PC env 116 [⟨LR,o⟩,⟨Fg,r⟩] .bool (Qh o r):=by
 refine PC.LU (m:=2000) av bT8 rfl rfl rfl rfl (by kernel_rfl) ?_;intro hx;simp only[Tryz.f116];simp only[go_sem,zA,↓reduceIte,↓reduceDIte,zB,zC,zD,zE,zF,zG,zH,zI]
 unfold Qh Mx SV;have hk:=af2 (o:=o);(repeat' (first|(with_reducible intro _)|(with_reducible apply And.intro)|(with_reducible refine⟨_,(PC.dec (UH o)),?_⟩;try simp only[go_sem,zA,↓reduceIte,↓reduceDIte,zB,zC,zD,zE,zF,zG,zH,zI])|(with_reducible refine⟨_,(PC.dec (Uz r)),?_⟩;try simp only[go_sem,zA,↓reduceIte,↓reduceDIte,zB,zC,zD,zE,zF,zG,zH,zI])|fail))
 all_goals first|(symm;clear hx;simp_all;done)|(clear hx;simp_all;done)|(clear hx;simp_all;omega)
theorem aq2(l:List MR)(r:Rec):PC env 69 [⟨.sl LR,l⟩,⟨Fg,r⟩] .bool (l.any (fun o=>Qh o r)):=by
 refine PC.LU (m:=2000) av bw2 rfl rfl rfl rfl (by kernel_rfl) ?_;intro hx;simp only[Tryz.f69];simp only[go_sem,zA,↓reduceIte,↓reduceDIte,zB,zC,zD,zE,zF,zG,zH,zI]
 refine u1.Mp (X:=Nat) (fun(k:Nat)=>[(5,.iv (.int .i64) (k:Int))]) (fun(k:Nat)=>[]) (fun(k:Nat)=>k≤l.length∧(l.take k).any (fun o=>Qh o r)=false) (fun(k:Nat)=>l.length-k) 0 ?_
 intro b1 b2 ao aq;simp(config:= {maxSteps:=4000000})only[go_sem,zA,↓reduceIte,↓reduceDIte,zB,zC,zD,zE,zF,zG,zH,zI]at ao aq;subst ao;subst aq;refine⟨(by refine⟨?_,?_,rfl,rfl⟩<;>repeat' (first|exact trivial|exact Or.inl rfl|exact Or.inr rfl|apply aw|apply ax|apply ay|apply az|exact⟨(by show(_:Nat)<1000000000;omega),rfl,rfl⟩|rfl|(refine And.intro (Or.inl ?_) ?_)|(refine And.intro ?_ ?_))),?_,?_⟩
 (·exact⟨Nat.zero_le _,rfl⟩);have Ao:l.length≤9223372036854775807:=hx.1.1;intro k⟨hk,he⟩back;refine LP av ⟨_,bw2,rfl⟩ 2000 _ _ (by kernel_rfl) ?_;simp only[go_sem,zA,↓reduceIte,↓reduceDIte,zB,zC,zD,zE,zF,zG,zH,zI]
 refine⟨fun h2=>?_,fun h2=>?_⟩;(·obtain⟨x,aK⟩: ∃x,l[k]?=some x:=r3 (by omega);refine⟨Int.natCast_nonneg _,x,aK,_,(PC.dec (aR4 x r)),?_⟩;simp only[go_sem,zA,↓reduceIte,↓reduceDIte,zB,zC,zD,zE,zF,zG,zH,zI];refine⟨fun h=>?_,fun h=>?_⟩;(·symm;exact List.any_eq_true.2 ⟨x,List.mem_of_getElem? aK,h⟩);·exact⟨LN (by omega) (by omega),back _ (k+1) (by refine⟨?_,?_,rfl,rfl⟩<;>repeat' (first|exact trivial|exact Or.inl rfl|exact Or.inr rfl|apply aw|apply ax|apply ay|apply az|exact⟨(by show(_:Nat)<1000000000;omega),rfl,rfl⟩|rfl|(refine And.intro (Or.inl ?_) ?_)|(refine And.intro ?_ ?_))) ⟨by omega,by rw[ae4 aK,he];exact Bool.eq_false_iff.2 h⟩ (by omega)⟩)
 ·have e1:l.take k=l:=List.take_of_length_le (by omega);rw[e1]at he;rw[he]
end Go.Proofs.YtgpkijnphchkpaaGreat.Ln
namespace Go.Proofs.YtgpkijnphchkpaaGreat.Ln
attribute[local go_sem←]Bool.decide_and Bool.decide_or decide_not
set_option maxHeartbeats 4000000
set_option maxRecDepth 100000
theorem aR5(l:List Rec)(r:Rec)(hl:l.length≤1000000):PC env 70 [⟨.sl Fg,l⟩,⟨Fg,r⟩] (.sl Fg) (Nr l (Q0 P5 l (P5 r)) r):=by
 refine PC.LU (m:=2000) av bw3 rfl rfl rfl rfl (by kernel_rfl) ?_;intro hx;simp only[Tryz.f70];simp only[go_sem,zA,↓reduceIte,↓reduceDIte,zB,zC,zD,zE,zF,zG,zH,zI]
 refine u1.Mp (X:=Nat) (fun(k:Nat)=>[(5,.iv (.int .i64) (k:Int))]) (fun(k:Nat)=>[]) (fun(k:Nat)=>k≤l.length∧ ∀i x,i<k→l[i]?=some x→NS (P5 x) (P5 r)=true) (fun(k:Nat)=>l.length-k) 0 ?_
 intro b1 b2 ao aq;simp(config:= {maxSteps:=4000000})only[go_sem,zA,↓reduceIte,↓reduceDIte,zB,zC,zD,zE,zF,zG,zH,zI]at ao aq;subst ao;subst aq;refine⟨(by refine⟨?_,?_,rfl,rfl⟩<;>repeat' (first|exact trivial|exact Or.inl rfl|exact Or.inr rfl|apply aw|apply ax|apply ay|apply az|exact⟨(by show(_:Nat)<1000000000;omega),rfl,rfl⟩|rfl|(refine And.intro (Or.inl ?_) ?_)|(refine And.intro ?_ ?_))),?_,?_⟩
 (·exact⟨Nat.zero_le _,fun i x h=>absurd h (Nat.not_lt_zero i)⟩);intro k⟨hk,he⟩back;refine LP av ⟨_,bw3,rfl⟩ 2000 _ _ (by kernel_rfl) ?_;simp only[go_sem,zA,↓reduceIte,↓reduceDIte,zB,zC,zD,zE,zF,zG,zH,zI]
 refine⟨fun h2=>?_,fun h2=>?_⟩;(·obtain⟨x,aK⟩: ∃x,l[k]?=some x:=r3 (by omega);refine⟨Int.natCast_nonneg _,x,aK,Int.natCast_nonneg _,x,aK,_,(PC.dec (af1 _ _)),?_⟩;simp only[go_sem,zA,↓reduceIte,↓reduceDIte,zB,zC,zD,zE,zF,zG,zH,zI];refine⟨fun h=>?_,fun h=>?_⟩;(·refine⟨LN (by omega) (by omega),back _ (k+1) (by refine⟨?_,?_,rfl,rfl⟩<;>repeat' (first|exact trivial|exact Or.inl rfl|exact Or.inr rfl|apply aw|apply ax|apply ay|apply az|exact⟨(by show(_:Nat)<1000000000;omega),rfl,rfl⟩|rfl|(refine And.intro (Or.inl ?_) ?_)|(refine And.intro ?_ ?_))) ⟨by omega,fun i y hi hy=>?_⟩ (by omega)⟩;rcases Nat.lt_succ_iff_lt_or_eq.1 hi with hi|rfl;(·exact he i y hi hy);·rw[aK]at hy;injection hy with hy;subst hy;exact h);·have sg:Q0 P5 l (P5 r)=k:=PY hk he (fun y hy=>by rw[aK]at hy;injection hy with hy;subst hy;exact Bool.eq_false_iff.2 h);rw[sg];(have h1:(l.take k).length≤k:=by rw[List.length_take];omega);(have h2:(l.drop k).length≤l.length:=by rw[List.length_drop];omega);refine⟨⟨by omega,by omega⟩,by omega,by omega,⟨by omega,by omega⟩,?_,?_⟩;(·rw[List.length_append];simp only[List.length_cons,List.length_nil];omega);·simp[Nr])
 ·have sg:Q0 P5 l (P5 r)=k:=PY hk he (fun y hy=>by have:=(List.getElem?_eq_some_iff.1 hy).1;omega);rw[sg];(have h1:(l.take k).length≤k:=by rw[List.length_take];omega);(have h3:(l.drop k).length≤l.length:=by rw[List.length_drop];omega);refine⟨⟨by omega,by omega⟩,by omega,by omega,⟨by omega,by omega⟩,?_,?_⟩;(·rw[List.length_append];simp only[List.length_cons,List.length_nil];omega);·simp[Nr]
theorem aw3(l:List MR)(r:MR)(hl:l.length≤1000000):PC env 83 [⟨.sl LR,l⟩,⟨LR,r⟩] (.sl LR) (Nr l (Q0 Pq l (Pq r)) r):=by
 refine PC.LU (m:=2000) av bw5 rfl rfl rfl rfl (by kernel_rfl) ?_;intro hx;simp only[Tryz.f83];simp only[go_sem,zA,↓reduceIte,↓reduceDIte,zB,zC,zD,zE,zF,zG,zH,zI]
 refine u1.Mp (X:=Nat) (fun(k:Nat)=>[(5,.iv (.int .i64) (k:Int))]) (fun(k:Nat)=>[]) (fun(k:Nat)=>k≤l.length∧ ∀i x,i<k→l[i]?=some x→NS (Pq x) (Pq r)=true) (fun(k:Nat)=>l.length-k) 0 ?_
 intro b1 b2 ao aq;simp(config:= {maxSteps:=4000000})only[go_sem,zA,↓reduceIte,↓reduceDIte,zB,zC,zD,zE,zF,zG,zH,zI]at ao aq;subst ao;subst aq;refine⟨(by refine⟨?_,?_,rfl,rfl⟩<;>repeat' (first|exact trivial|exact Or.inl rfl|exact Or.inr rfl|apply aw|apply ax|apply ay|apply az|exact⟨(by show(_:Nat)<1000000000;omega),rfl,rfl⟩|rfl|(refine And.intro (Or.inl ?_) ?_)|(refine And.intro ?_ ?_))),?_,?_⟩
 (·exact⟨Nat.zero_le _,fun i x h=>absurd h (Nat.not_lt_zero i)⟩);intro k⟨hk,he⟩back;refine LP av ⟨_,bw5,rfl⟩ 2000 _ _ (by kernel_rfl) ?_;simp only[go_sem,zA,↓reduceIte,↓reduceDIte,zB,zC,zD,zE,zF,zG,zH,zI]
 refine⟨fun h2=>?_,fun h2=>?_⟩;(·obtain⟨x,aK⟩: ∃x,l[k]?=some x:=r3 (by omega);refine⟨Int.natCast_nonneg _,x,aK,Int.natCast_nonneg _,x,aK,_,(PC.dec (af1 _ _)),?_⟩;simp only[go_sem,zA,↓reduceIte,↓reduceDIte,zB,zC,zD,zE,zF,zG,zH,zI];refine⟨fun h=>?_,fun h=>?_⟩;(·refine⟨LN (by omega) (by omega),back _ (k+1) (by refine⟨?_,?_,rfl,rfl⟩<;>repeat' (first|exact trivial|exact Or.inl rfl|exact Or.inr rfl|apply aw|apply ax|apply ay|apply az|exact⟨(by show(_:Nat)<1000000000;omega),rfl,rfl⟩|rfl|(refine And.intro (Or.inl ?_) ?_)|(refine And.intro ?_ ?_))) ⟨by omega,fun i y hi hy=>?_⟩ (by omega)⟩;rcases Nat.lt_succ_iff_lt_or_eq.1 hi with hi|rfl;(·exact he i y hi hy);·rw[aK]at hy;injection hy with hy;subst hy;exact h);·have sg:Q0 Pq l (Pq r)=k:=PY hk he (fun y hy=>by rw[aK]at hy;injection hy with hy;subst hy;exact Bool.eq_false_iff.2 h);rw[sg];(have h1:(l.take k).length≤k:=by rw[List.length_take];omega);(have h2:(l.drop k).length≤l.length:=by rw[List.length_drop];omega);refine⟨⟨by omega,by omega⟩,by omega,by omega,⟨by omega,by omega⟩,?_,?_⟩;(·rw[List.length_append];simp only[List.length_cons,List.length_nil];omega);·simp[Nr])
 ·have sg:Q0 Pq l (Pq r)=k:=PY hk he (fun y hy=>by have:=(List.getElem?_eq_some_iff.1 hy).1;omega);rw[sg];(have h1:(l.take k).length≤k:=by rw[List.length_take];omega);(have h3:(l.drop k).length≤l.length:=by rw[List.length_drop];omega);refine⟨⟨by omega,by omega⟩,by omega,by omega,⟨by omega,by omega⟩,?_,?_⟩;(·rw[List.length_append];simp only[List.length_cons,List.length_nil];omega);·simp[Nr]
theorem bY9(l:List Rec)(os:List MR)(hl:l.length≤1000000):PC env 84 [⟨.sl Fg,l⟩,⟨.sl LR,os⟩] (.sl Fg) (Sf l os):=by
 refine PC.LU (m:=2000) av bw6 rfl rfl rfl rfl (by kernel_rfl) ?_;intro hx;simp only[Tryz.f84];simp only[go_sem,zA,↓reduceIte,↓reduceDIte,zB,zC,zD,zE,zF,zG,zH,zI]
 refine u1.Mp (X:=Nat×List Rec) (fun(z:Nat×List Rec)=>[(6,.iv (.int .i64) (z.1:Int)),(5,.LV 7),(7,.any)]) (fun(z:Nat×List Rec)=>[(7,.arr Fg z.2)]) (fun(z:Nat×List Rec)=>z.1≤l.length∧z.2=Sf (l.take z.1) os) (fun(z:Nat×List Rec)=>l.length-z.1) (0,[]) ?_
 intro b1 b2 ao aq;simp(config:= {maxSteps:=4000000})only[go_sem,zA,↓reduceIte,↓reduceDIte,zB,zC,zD,zE,zF,zG,zH,zI]at ao aq;subst ao;subst aq;refine⟨(by refine⟨?_,?_,rfl,rfl⟩<;>repeat' (first|exact trivial|exact Or.inl rfl|exact Or.inr rfl|apply aw|apply ax|apply ay|apply az|exact⟨(by show(_:Nat)<1000000000;omega),rfl,rfl⟩|rfl|(refine And.intro (Or.inl ?_) ?_)|(refine And.intro ?_ ?_))),?_,?_⟩
 (·exact⟨Nat.zero_le _,rfl⟩);intro⟨k,z⟩⟨hk,hz⟩back;dsimp only at hk hz;refine LP av ⟨_,bw6,rfl⟩ 2000 _ _ (by kernel_rfl) ?_;simp only[go_sem,zA,↓reduceIte,↓reduceDIte,zB,zC,zD,zE,zF,zG,zH,zI]
 refine⟨fun h2=>?_,fun h2=>?_⟩;(·obtain⟨x,aK⟩: ∃x,l[k]?=some x:=r3 (by omega);(have hlen:z.length≤k:=by rw[hz];exact Nat.le_trans (List.length_filter_le ..) (by rw[List.length_take];omega));have cS:Sf (l.take (k+1)) os=Sf (l.take k) os++(if !(os.any (fun o=>Qh o x))then[x]else[]):=Qa aK;refine⟨Int.natCast_nonneg _,x,aK,_,(PC.dec (aq2 os x)),?_⟩;simp only[go_sem,zA,↓reduceIte,↓reduceDIte,zB,zC,zD,zE,zF,zG,zH,zI];refine⟨fun h=>?_,fun h=>?_⟩;(·rw[Bool.eq_false_iff.2 h]at cS;simp only[Bool.not_false,if_true]at cS;exact⟨Int.natCast_nonneg _,x,aK,by omega,LN (by omega) (by omega),back _ (k+1,z++ [x]) (by refine⟨?_,?_,rfl,rfl⟩<;>repeat' (first|exact trivial|exact Or.inl rfl|exact Or.inr rfl|apply aw|apply ax|apply ay|apply az|exact⟨(by show(_:Nat)<1000000000;omega),rfl,rfl⟩|rfl|(refine And.intro (Or.inl ?_) ?_)|(refine And.intro ?_ ?_))) ⟨by dsimp only;omega,by dsimp only;rw[cS,hz]⟩ (by dsimp only;omega)⟩);·rw[h]at cS;simp only[Bool.not_true,Bool.false_eq_true,if_false,List.append_nil]at cS;exact⟨LN (by omega) (by omega),back _ (k+1,z) (by refine⟨?_,?_,rfl,rfl⟩<;>repeat' (first|exact trivial|exact Or.inl rfl|exact Or.inr rfl|apply aw|apply ax|apply ay|apply az|exact⟨(by show(_:Nat)<1000000000;omega),rfl,rfl⟩|rfl|(refine And.intro (Or.inl ?_) ?_)|(refine And.intro ?_ ?_))) ⟨by dsimp only;omega,by dsimp only;rw[cS,hz]⟩ (by dsimp only;omega)⟩)
 ·have e1:l.take k=l:=List.take_of_length_le (by omega);rw[hz,e1]
end Go.Proofs.YtgpkijnphchkpaaGreat.Ln
namespace Go.Proofs.YtgpkijnphchkpaaGreat.Ln
attribute[local go_sem←]Bool.decide_and Bool.decide_or decide_not
set_option maxHeartbeats 4000000
set_option maxRecDepth 100000
theorem qv(u:Oc)(r:Rec)(hu:u.1.length≤1000000)(hl: ∀i:Int,0≤i→i≤7→L2 u.2.2 i≤1000000):PC env 33 [⟨Mt,u⟩,⟨Fg,r⟩] R8 (Vo u r):=by
 refine PC.LU (m:=2000) av b59 rfl rfl rfl rfl (by kernel_rfl) ?_;intro hx;simp only[Tryz.f33];simp only[go_sem,zA,↓reduceIte,↓reduceDIte,zB,zC,zD,zE,zF,zG,zH,zI]
 refine⟨_,Uz (r.1,1,r.2.2),?_⟩;unfold Vo;cases hr:Mk (r.1,1,r.2.2);(·simp only[go_sem,zA,↓reduceIte,↓reduceDIte,zB,zC,zD,zE,zF,zG,zH,zI];rfl);obtain⟨eO,kj⟩:=PZ hr
 simp only[go_sem,zA,↓reduceIte,↓reduceDIte,zB,zC,zD,zE,zF,zG,zH,zI];refine⟨fun h1=>⟨⟨eO,by omega⟩,L2 u.2.2 r.1,PU u.2.2 eO kj,fun h2=>?_,fun h2=>?_⟩,fun h1=>?_⟩
 (·rw[if_pos (.inr h2)]);(·rw[if_neg (by omega)];have hL: -9223372036854775808≤L2 u.2.2 r.1:=Wd hx.1.2.2 eO kj;have KT:=hl _ eO kj;refine⟨⟨eO,by omega⟩,L2 u.2.2 r.1,PU u.2.2 eO kj,LN (by omega) (by omega),⟨eO,by omega⟩,⟨eO,by omega⟩,L2 u.2.2 r.1+1,ZB u.2.2 _ eO kj,_,aq2 u.2.1 (r.1,L2 u.2.2 r.1+1,r.2.2),?_⟩;cases hm:u.2.1.any (fun o=>Qh o (r.1,L2 u.2.2 r.1+1,r.2.2));(·simp only[go_sem,zA,↓reduceIte,↓reduceDIte,zB,zC,zD,zE,zF,zG,zH,zI];exact⟨_,aR5 u.1 _ hu,fun _=>rfl⟩);·simp only[go_sem,zA,↓reduceIte,↓reduceDIte,zB,zC,zD,zE,zF,zG,zH,zI];rfl)
 ·rw[if_pos (.inl (by omega))]
theorem nx(u:Oc)(o:MR)(hu:u.1.length≤1000000)(rh:u.2.1.length≤1000000)(hl: ∀i:Int,0≤i→i≤7→L2 u.2.2 i≤1000000):PC env 42 [⟨Mt,u⟩,⟨LR,o⟩] (.Mj Mt (.int .i64)) (Wh u o):=by
 refine PC.LU (m:=2000) av b63 rfl rfl rfl rfl (by kernel_rfl) ?_;intro hx;simp only[Tryz.f42];simp only[go_sem,zA,↓reduceIte,↓reduceDIte,zB,zC,zD,zE,zF,zG,zH,zI]
 refine⟨_,UH (o.1,1,o.2.2),?_⟩;unfold Wh;cases hr:Mw (o.1,1,o.2.2);(·simp only[go_sem,zA,↓reduceIte,↓reduceDIte,zB,zC,zD,zE,zF,zG,zH,zI];rfl);obtain⟨eO,kj⟩:=P1 hr
 simp only[go_sem,zA,↓reduceIte,↓reduceDIte,zB,zC,zD,zE,zF,zG,zH,zI];refine⟨fun h1=>⟨⟨eO,by omega⟩,L2 u.2.2 o.1,PU u.2.2 eO kj,fun h2=>?_,fun h2=>?_⟩,fun h1=>?_⟩
 (·rw[if_pos (.inr h2)]);(·rw[if_neg (by omega)];have hL: -9223372036854775808≤L2 u.2.2 o.1:=Wd hx.1.2.2 eO kj;have KT:=hl _ eO kj;refine⟨⟨eO,by omega⟩,L2 u.2.2 o.1,PU u.2.2 eO kj,LN (by omega) (by omega),⟨eO,by omega⟩,⟨eO,by omega⟩,L2 u.2.2 o.1+1,ZB u.2.2 _ eO kj,_,aw3 u.2.1 _ rh,fun _=>⟨_,bY9 u.1 _ hu,fun _=>rfl⟩⟩)
 ·rw[if_pos (.inl (by omega))]
end Go.Proofs.YtgpkijnphchkpaaGreat.Ln
namespace Go.Proofs.YtgpkijnphchkpaaGreat.Ln
attribute[local go_sem←]Bool.decide_and Bool.decide_or decide_not
set_option maxHeartbeats 4000000
set_option maxRecDepth 100000
theorem lW {x:ey} (h:MK.ok x):Mk ((lU x).1,1,(lU x).2.2)=true:=by
 obtain⟨h1,h2,h3,h4,h5,h6⟩:=jc h;have ha:=Int.emod_nonneg x.2.1 (show(3:Int)≠0 by decide);have zq:=Int.emod_lt_of_pos x.2.1 (show(0:Int)<3 by decide);have hb:=Int.emod_nonneg x.2.2.1 (show(10:Int)≠0 by decide)
 have dG:=Int.emod_lt_of_pos x.2.2.1 (show(0:Int)<10 by decide);have hc:=Int.emod_nonneg x.2.2.2.2.1 (show(3:Int)≠0 by decide);have db:=Int.emod_lt_of_pos x.2.2.2.2.1 (show(0:Int)<3 by decide)
 have hd:=Int.emod_nonneg x.2.2.2.2.2 (show(9:Int)≠0 by decide);have sq:=Int.emod_lt_of_pos x.2.2.2.2.2 (show(0:Int)<9 by decide);unfold Mk lU;simp only[tj,Bool.true_and,Bool.and_eq_true,decide_eq_true_eq]
 omega
theorem lX {x:ey} (h:MK.ok x):Mw ((uI x).1,1,(uI x).2.2)=true:=by
 obtain⟨h1,h2,h3,h4,h5,h6⟩:=jc h;have ha:=Int.emod_nonneg x.2.1 (show(3:Int)≠0 by decide);have zq:=Int.emod_lt_of_pos x.2.1 (show(0:Int)<3 by decide);have hb:=Int.emod_nonneg x.2.2.1 (show(10:Int)≠0 by decide)
 have dG:=Int.emod_lt_of_pos x.2.2.1 (show(0:Int)<10 by decide);have hc:=Int.emod_nonneg x.2.2.2.2.1 (show(3:Int)≠0 by decide);have db:=Int.emod_lt_of_pos x.2.2.2.2.1 (show(0:Int)<3 by decide)
 have hd:=Int.emod_nonneg x.2.2.2.2.2 (show(6:Int)≠0 by decide);have sq:=Int.emod_lt_of_pos x.2.2.2.2.2 (show(0:Int)<6 by decide);have he:=Int.emod_nonneg x.2.2.2.2.2 (show x.2.2.1%10+1≠0 by omega)
 have gC:=Int.emod_lt_of_pos x.2.2.2.2.2 (show 0<x.2.2.1%10+1 by omega);(have hk:cv x=1∨cv x=2∨cv x=3∨cv x=4∨cv x=5:=by unfold cv;omega);unfold Mw rk uI;rcases hk with h|h|h|h|h<;>simp only[h]<;>simp[rk1,rk2,rk4,rk5,tj]<;>omega
def TT(k:Nat)(u:Oc):Prop:=u.1.length≤k∧u.2.1.length≤k∧ ∀i:Int,0≤i→i≤7→0≤L2 u.2.2 i∧L2 u.2.2 i≤k
theorem oh {k:Nat} {L:L8} {d:Int} (h: ∀i:Int,0≤i→i≤7→0≤L2 L i∧L2 L i≤k)(h0:0≤d)(h7:d≤7): ∀i:Int,0≤i→i≤7→0≤L2 (Oa L d (L2 L d+1)) i∧L2 (Oa L d (L2 L d+1)) i≤((k+1:Nat):Int):=by
 intro i hi AS;by_cases e:i=d;(·subst e;rw[R9 L _ hi AS];have:=h i hi AS;push_cast;omega);·rw[SW L _ hi AS e];have:=h i hi AS;push_cast;omega
theorem gp {k:Nat} {u:Oc} {r:Rec} (hf:TT k u)(hk:k<400)(hr:Mk (r.1,1,r.2.2)=true)(h0:0≤r.1)(h7:r.1≤7):(Ox u r).2=(L2 u.2.2 r.1+1,0)∧(Ox u r).1.2.2=Oa u.2.2 r.1 (L2 u.2.2 r.1+1)∧TT (k+1) (Ox u r).1:=by
 obtain⟨h1,h2,h3⟩:=hf;have hl:=h3 r.1 h0 h7;unfold Ox;rw[if_pos hr,if_neg (by omega)];refine⟨rfl,?_,?_⟩;(·split<;>rfl);·split;(·exact⟨by dsimp only;omega,by dsimp only;omega,oh h3 h0 h7⟩);·refine⟨?_,by dsimp only;omega,oh h3 h0 h7⟩;simp[Nr];omega
theorem lY {k:Nat} {u:Oc} {o:MR} (hf:TT k u)(hk:k<400)(hr:Mw (o.1,1,o.2.2)=true)(h0:0≤o.1)(h7:o.1≤7):(Mq u o).2=0∧(Mq u o).1.2.2=Oa u.2.2 o.1 (L2 u.2.2 o.1+1)∧(Mq u o).1.2.1.length=u.2.1.length+1∧TT (k+1) (Mq u o).1:=by
 obtain⟨h1,h2,h3⟩:=hf;have hl:=h3 o.1 h0 h7;unfold Mq;rw[if_pos hr,if_neg (by omega)];(have hlen:(Nr u.2.1 (Tq Pq u.2.1 (o.1,L2 u.2.2 o.1+1)) (o.1,L2 u.2.2 o.1+1,o.2.2)).length=u.2.1.length+1:=by have:=Ro Pq u.2.1 (o.1,L2 u.2.2 o.1+1);simp[Nr];omega)
 refine⟨rfl,rfl,hlen,?_,?_,oh h3 h0 h7⟩;(·exact Nat.le_trans (List.length_filter_le ..) (by omega));·rw[hlen];omega
theorem tk:VU ([],[],(0,0,0,0,0,0,0,0)):=by
 refine⟨Nat.zero_le _,Nat.zero_le _,fun i h0 h7=>?_,fun o h=>(List.not_mem_nil h).elim,List.Pairwise.nil,List.Pairwise.nil,fun o h=>(List.not_mem_nil h).elim⟩;(have h:i=0∨i=1∨i=2∨i=3∨i=4∨i=5∨i=6∨i=7:=by omega)
 rcases h with rfl|rfl|rfl|rfl|rfl|rfl|rfl|rfl<;>decide
theorem qw:TT 0 ([],[],(0,0,0,0,0,0,0,0)):=by
 refine⟨Nat.le_refl _,Nat.le_refl _,fun i h0 h7=>?_⟩;(have h:i=0∨i=1∨i=2∨i=3∨i=4∨i=5∨i=6∨i=7:=by omega);rcases h with rfl|rfl|rfl|rfl|rfl|rfl|rfl|rfl<;>decide
def fV(u:Oc)(x:ey):Oc×Int:=if x.1%3=0 then Mq u (uI x)else((Ox u (lU x)).1,(Ox u (lU x)).2.2)
def eG(k:Nat)(u:Oc):Prop:=VU u∧TT k u
theorem im {k:Nat} {u:Oc} {r:Rec} (hg:eG k u)(hk:k<400)(hr:Mk (r.1,1,r.2.2)=true):eG (k+1) (Ox u r).1∧(Ox u r).2=(L2 u.2.2 r.1+1,0):=by
 obtain⟨hv,hf⟩:=hg;obtain⟨d0,d7⟩:=PZ hr;have hl:=hf.2.2 _ d0 d7;have h1:=hf.1;obtain⟨e1,e2,e3⟩:=gp hf hk hr d0 d7;exact⟨⟨aR3 hv hr (by omega) (by omega),e3⟩,e1⟩
theorem eH {k:Nat} {u:Oc} {o:MR} (hg:eG k u)(hk:k<400)(hr:Mw (o.1,1,o.2.2)=true):eG (k+1) (Mq u o).1∧(Mq u o).2=0:=by
 obtain⟨hv,hf⟩:=hg;obtain⟨d0,d7⟩:=P1 hr;have hl:=hf.2.2 _ d0 d7;have h1:=hf.2.1;obtain⟨e1,e2,e3,e4⟩:=lY hf hk hr d0 d7;exact⟨⟨aw1 hv hr (by omega) (by omega),e4⟩,e1⟩
theorem uJ {k:Nat} {u:Oc} {x:ey} (hg:eG k u)(hk:k<400)(hx:MK.ok x):eG (k+1) (fV u x).1∧(fV u x).2=0:=by
 unfold fV;split;(·exact eH hg hk (lX hx));·obtain⟨h1,h2⟩:=im hg hk (lW hx);exact⟨h1,by rw[h2]⟩
theorem zW(u:Oc)(x:ey)(hv:VU u):PC env 40 [⟨Mt,u⟩,⟨MK,x⟩] Mt (fV u x).1:=by
 have h1:=hv.l1;have h2:=hv.l2;have h3: ∀i:Int,0≤i→i≤7→L2 u.2.2 i≤1000000:=fun i a b=>(hv.last i a b).2;refine PC.LU (m:=2000) av b62 rfl rfl rfl rfl (by kernel_rfl) ?_
 intro hx;simp only[Tryz.f40];simp only[go_sem,zA,↓reduceIte,↓reduceDIte,zB,zC,zD,zE,zF,zG,zH,zI];refine⟨_,uH x,?_⟩;simp only[go_sem,zA,↓reduceIte,↓reduceDIte,zB,zC,zD,zE,zF,zG,zH,zI]
 refine⟨fun h=>⟨_,zV x,fun _=>⟨_,nx u _ (by omega) (by omega) h3,fun _=>?_⟩⟩,fun h=>⟨_,xI x,fun _=>⟨_,qv u _ (by omega) h3,fun _=>?_⟩⟩⟩;(·unfold fV;rw[if_pos h,XI hv])
 ·unfold fV;rw[if_neg h,aw2 hv]
def fW(l:List ey):Oc:=l.foldl (fun u x=>(fV u x).1) ([],[],(0,0,0,0,0,0,0,0))
theorem iq {l:List ey} {k:Nat} {x:ey} (h:l[k]?=some x):fW (l.take (k+1))=(fV (fW (l.take k)) x).1:=by unfold fW;rw[LW h,List.foldl_append];rfl
theorem lZ {l:List ey} (hl: ∀x,x∈l→MK.ok x): ∀k:Nat,k≤l.length→k≤400→eG k (fW (l.take k)):=by
 intro k;induction k with|zero=>intro _ _;exact⟨tk,qw⟩|succ k ih=>intro h h';obtain⟨x,hx⟩:=r3 (xs:=l) (i:=k) (by omega);rw[iq hx];exact(uJ (ih (by omega) (by omega)) (by omega) (hl x (List.mem_of_getElem? hx))).1
theorem tn(l:List ey)(n:Int)(h0:0≤n)(hn:n≤100):PC env 17 [⟨.sl MK,l⟩,⟨.int .i64,n⟩] Mt (fW (l.take n.toNat)):=by
 refine PC.LU (m:=2000) av bu7 rfl rfl rfl rfl (by kernel_rfl) ?_;intro hx;simp only[Tryz.f17];simp only[go_sem,zA,↓reduceIte,↓reduceDIte,zB,zC,zD,zE,zF,zG,zH,zI]
 refine u1.Mp (X:=Nat×Oc) (fun(z:Nat×Oc)=>[(6,.iv (.int .i64) (z.1:Int))]) (fun(z:Nat×Oc)=>[(5,.box [.iv (.sl Fg) z.2.1,.iv (.sl LR) z.2.2.1,.iv (.int .i64) z.2.2.2.1,.iv (.int .i64) z.2.2.2.2.1,.iv (.int .i64) z.2.2.2.2.2.1,.iv (.int .i64) z.2.2.2.2.2.2.1,.iv (.int .i64) z.2.2.2.2.2.2.2.1,.iv (.int .i64) z.2.2.2.2.2.2.2.2.1,.iv (.int .i64) z.2.2.2.2.2.2.2.2.2.1,.iv (.int .i64) z.2.2.2.2.2.2.2.2.2.2])]) (fun(z:Nat×Oc)=>z.1≤l.length∧z.1≤n.toNat∧z.2=fW (l.take z.1)) (fun(z:Nat×Oc)=>n.toNat-z.1) (0,([],[],(0,0,0,0,0,0,0,0))) ?_
 intro b1 b2 ao aq;simp(config:= {maxSteps:=4000000})only[go_sem,zA,↓reduceIte,↓reduceDIte,zB,zC,zD,zE,zF,zG,zH,zI]at ao aq;subst ao;subst aq;refine⟨(by refine⟨?_,?_,rfl,rfl⟩<;>repeat' (first|exact trivial|exact Or.inl rfl|exact Or.inr rfl|apply aw|apply ax|apply ay|apply az|exact⟨(by show(_:Nat)<1000000000;omega),rfl,rfl⟩|rfl|(refine And.intro (Or.inl ?_) ?_)|(refine And.intro ?_ ?_))),?_,?_⟩
 (·exact⟨Nat.zero_le _,Nat.zero_le _,rfl⟩);intro⟨k,u⟩⟨fH,H2,hu⟩back;dsimp only at fH H2 hu;refine LP av ⟨_,bu7,rfl⟩ 2000 _ _ (by kernel_rfl) ?_;simp only[go_sem,zA,↓reduceIte,↓reduceDIte,zB,zC,zD,zE,zF,zG,zH,zI]
 have hg:=lZ hx.1.2 k fH (by omega);rw[←hu]at hg;refine⟨fun h1=>⟨fun h2=>?_,fun h2=>?_⟩,fun h1=>?_⟩;(·obtain⟨x,aK⟩: ∃x,l[k]?=some x:=r3 (by omega);refine⟨Int.natCast_nonneg _,x,aK,_,zW u x hg.1,fun _=>⟨LN (by omega) (by omega),back _ (k+1,(fV u x).1) (by refine⟨?_,?_,rfl,rfl⟩<;>repeat' (first|exact trivial|exact Or.inl rfl|exact Or.inr rfl|apply aw|apply ax|apply ay|apply az|exact⟨(by show(_:Nat)<1000000000;omega),rfl,rfl⟩|rfl|(refine And.intro (Or.inl ?_) ?_)|(refine And.intro ?_ ?_))) ⟨by dsimp only;omega,by dsimp only;omega,by dsimp only;rw[iq aK,hu]⟩ (by dsimp only;omega)⟩⟩)
 (·(have e:k=n.toNat:=by omega);rw[←e,←hu]);·(have e:l.take n.toNat=l.take k:=by rw[List.take_of_length_le (by omega),List.take_of_length_le (by omega)]);rw[e,←hu]
end Go.Proofs.YtgpkijnphchkpaaGreat.Ln
namespace Go.Proofs.YtgpkijnphchkpaaGreat.Ln
set_option maxHeartbeats 1000000
theorem fy {α:Type} {pl:α→Int×Int} {p:Int×Int} : ∀ {l:List α},ZD pl l→l.takeWhile (fun x=>NS (pl x) p)=l.filter (fun x=>NS (pl x) p)∧l.dropWhile (fun x=>NS (pl x) p)=l.filter (fun x=>!(NS (pl x) p))|[],_=>⟨rfl,rfl⟩|a::r,h=>by obtain⟨h1,h2⟩:=List.pairwise_cons.1 h;obtain⟨i1,i2⟩:=fy (p:=p) (l:=r) h2;cases hq:NS (pl a) p;(·(have dc: ∀b,b∈r→NS (pl b) p=false:=fun b hb=>Bool.eq_false_iff.2 fun hh=>by rw[QZ (h1 b hb) hh]at hq;cases hq);(have e1:r.filter (fun x=>NS (pl x) p)=[]:=List.filter_eq_nil_iff.2 fun b hb=>by rw[dc b hb];decide);(have e2:r.filter (fun x=>!(NS (pl x) p))=r:=List.filter_eq_self.2 fun b hb=>by rw[dc b hb];rfl);simp[List.takeWhile,List.dropWhile,hq,e1,e2]);·simp[List.takeWhile,List.dropWhile,hq,i1,i2]
theorem sh {α:Type} {pl:α→Int×Int} {l:List α} {x:α} (h:ZD pl l):Nr l (Q0 pl l (pl x)) x=l.filter (fun y=>NS (pl y) (pl x))++x::l.filter (fun y=>!(NS (pl y) (pl x))):=by
 obtain⟨h1,h2⟩:=fy (p:=pl x) h;rw[←h1,←h2];unfold Nr Q0;have e:=List.takeWhile_append_dropWhile (p:=fun y=>NS (pl y) (pl x)) (l:=l);have et:=List.take_left (l₁:=l.takeWhile (fun y=>NS (pl y) (pl x))) (l₂:=l.dropWhile (fun y=>NS (pl y) (pl x)))
 have ed:=List.drop_left (l₁:=l.takeWhile (fun y=>NS (pl y) (pl x))) (l₂:=l.dropWhile (fun y=>NS (pl y) (pl x)));rw[e]at et ed;rw[et,ed]
theorem l0 {α:Type} {pl:α→Int×Int} {l:List α} (h:ZD pl l)(p:α→Bool):ZD pl (l.filter p):=List.Pairwise.sublist List.filter_sublist h
theorem l4 {α:Type} {pl:α→Int×Int} {l:List α} {x:α} (h:ZD pl l)(p:α→Bool):(Nr l (Q0 pl l (pl x)) x).filter p=if p x then Nr (l.filter p) (Q0 pl (l.filter p) (pl x)) x else l.filter p:=by
 (have hc: ∀q:α→Bool,(l.filter q).filter p=(l.filter p).filter q:=fun q=>by rw[List.filter_filter,List.filter_filter];congr 1;funext y;exact Bool.and_comm _ _);split
 (·rename_i hp;rw[sh h,sh (l0 h p),List.filter_append,List.filter_cons,if_pos hp,hc,hc]);·rename_i hp;rw[sh h,List.filter_append,List.filter_cons,if_neg hp,hc,hc];obtain⟨h1,h2⟩:=fy (p:=pl x) (l0 h p);rw[←h1,←h2];exact List.takeWhile_append_dropWhile
structure e9(k:Nat)(u:Oc)(all:List Rec):Prop where
 dF:eG k u
 len:all.length≤k
 sW:ZD P5 all
 right: ∀r,r∈all→Mk r=true∧r.2.1≤L2 u.2.2 r.1
 kept:u.1=Sf all u.2.1
def EI(all:List Rec)(u:Oc)(x:ey):List Rec:=if x.1%3=0 then all else Nr all (Q0 P5 all ((lU x).1,L2 u.2.2 (lU x).1+1)) ((lU x).1,L2 u.2.2 (lU x).1+1,(lU x).2.2)
theorem ny {k:Nat} {u:Oc} {all:List Rec} {r:Rec} (h:e9 k u all)(hk:k<400)(hr:Mk (r.1,1,r.2.2)=true):e9 (k+1) (Ox u r).1 (Nr all (Q0 P5 all (r.1,L2 u.2.2 r.1+1)) (r.1,L2 u.2.2 r.1+1,r.2.2)):=by
 obtain⟨d0,d7⟩:=PZ hr;have hl:=h.dF.2.2.2 _ d0 d7;have h1:=h.dF.2.1;have hR:Mk (r.1,L2 u.2.2 r.1+1,r.2.2)=true:=Vm hr (by omega) (by omega);have hp:P5 (r.1,L2 u.2.2 r.1+1,r.2.2)=(r.1,L2 u.2.2 r.1+1):=rfl
 (have bd:(r.1,L2 u.2.2 r.1+1)∉all.map P5:=fun hm=>by obtain⟨y,hy,he⟩:=List.mem_map.1 hm;have h1:=(h.right y hy).2;have e1:y.1=r.1:=(congrArg Prod.fst he:(P5 y).1=_);have e2:y.2.1=L2 u.2.2 r.1+1:=(congrArg Prod.snd he:(P5 y).2=_);rw[e1]at h1;omega)
 have ho: ∀o,o∈u.2.1→Mw o=true:=fun o ho=>(h.dF.1.ord o ho).1;refine⟨(im h.dF hk hr).1,?_,?_,fun y hy=>?_,?_⟩;(·rw[Vl (bs7 _ _ _)];have:=h.len;omega);(·rw[←hp];exact ZC h.sW (by rw[hp];exact bd))
 (·(have cT: ∀i:Int,0≤i→i≤7→L2 u.2.2 i≤L2 (Ox u r).1.2.2 i:=fun i a b=>by rw[(gp h.dF.2 hk hr d0 d7).2.1];exact Tl _ a b);rcases Od.1 hy with rfl|hy;(·refine⟨hR,?_⟩;rw[(gp h.dF.2 hk hr d0 d7).2.1];dsimp only;rw[R9 _ _ d0 d7];exact Int.le_refl _);·obtain⟨a,b⟩:=h.right y hy;obtain⟨e0,e7⟩:=Wg a;exact⟨a,Int.le_trans b (cT _ e0 e7)⟩)
 ·rw[YJ hr (by omega) (by omega)];have hf:=l4 (x:=(r.1,L2 u.2.2 r.1+1,r.2.2)) h.sW (fun r=>!(u.2.1.any (fun o=>Qh o r)));rw[hp]at hf;dsimp only;split;(·rename_i hm;dsimp only;unfold Sf;rw[hf,Vp ho hR,if_neg (by rw[hm];decide)];exact h.kept);·rename_i hm;dsimp only;unfold Sf;have GJ:=Bool.eq_false_iff.2 hm;rw[hf,Vp ho hR,if_pos (by rw[GJ];rfl),Tk h.dF.1.sR];have hk:=h.kept;unfold Sf at hk;rw[←hk]
theorem l5 {k:Nat} {u:Oc} {all:List Rec} {o:MR} (h:e9 k u all)(hk:k<400)(hr:Mw (o.1,1,o.2.2)=true):e9 (k+1) (Mq u o).1 all:=by
 obtain⟨d0,d7⟩:=P1 hr;have hl:=h.dF.2.2.2 _ d0 d7;have h1:=h.dF.2.2.1;have hO:Mw (o.1,L2 u.2.2 o.1+1,o.2.2)=true:=Vn hr (by omega) (by omega);refine⟨(eH h.dF hk hr).1,by have:=h.len;omega,h.sW,fun y hy=>?_,?_⟩
 (·obtain⟨a,b⟩:=h.right y hy;obtain⟨e0,e7⟩:=Wg a;refine⟨a,Int.le_trans b ?_⟩;rw[(lY h.dF.2 hk hr d0 d7).2.1];exact Tl _ e0 e7);·rw[XG hr (by omega) (by omega)];dsimp only;(conv=>lhs;rw[h.kept]);unfold Sf;rw[List.filter_filter];refine List.filter_congr fun y hy=>?_;have AW:=(h.right y hy).1;rw[←Qx hO AW,←Bool.not_or];congr 1;rw[Bool.eq_iff_iff,Bool.or_eq_true,List.any_eq_true,List.any_eq_true];constructor;(·rintro(hh|⟨z,hz,hh⟩);(·exact⟨_,Od.2 (.inl rfl),hh⟩);·exact⟨z,Od.2 (.inr hz),hh⟩);·rintro⟨z,hz,hh⟩;rcases Od.1 hz with rfl|hz;(·exact .inl hh);·exact .inr ⟨z,hz,hh⟩
theorem si {k:Nat} {u:Oc} {all:List Rec} {x:ey} (h:e9 k u all)(hk:k<400)(hx:MK.ok x):e9 (k+1) (fV u x).1 (EI all u x):=by
 unfold fV EI;split;(·exact l5 h hk (lX hx));·exact ny h hk (lW hx)
theorem qx:e9 0 ([],[],(0,0,0,0,0,0,0,0)) []:=⟨⟨tk,qw⟩,Nat.le_refl _,List.Pairwise.nil,fun r h=>(List.not_mem_nil h).elim,rfl⟩
end Go.Proofs.YtgpkijnphchkpaaGreat.Ln
