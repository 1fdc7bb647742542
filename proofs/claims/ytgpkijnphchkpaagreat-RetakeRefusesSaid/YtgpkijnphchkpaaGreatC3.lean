/- What leaving's groups hold. Nothing here is trusted; no condition. -/
import Derived.Test.YtgpkijnphchkpaaGreatC2
set_option linter.unusedSimpArgs false
set_option linter.unusedVariables false
open Nat renaming reduceBEq→zA,reduceAdd→zB,reduceSub→zC,reduceMul→zD,reduceLeDiff→zE
open Int renaming reduceLT→zF,reduceLE→zG,reduceToNat→zH,reduceNeg→zI
namespace Go.Proofs.YtgpkijnphchkpaaGreat
end Go.Proofs.YtgpkijnphchkpaaGreat
namespace Go.Proofs.YtgpkijnphchkpaaGreat
def fg(s:ag):List Int:=s.map fun c:UInt8=>(c.toNat:Int)
def Hn(l:List Int):ag:=l.map fun n:Int=>UInt8.ofNat n.toNat
theorem nN(s:ag):Hn (fg s)=s:=by unfold Hn fg;rw[List.map_map];(conv=>rhs;rw[←List.map_id s]);apply List.map_congr_left;intro c _;simp
theorem y9(s t:ag):fg (s++t)=fg s++fg t:=List.map_append ..
end Go.Proofs.YtgpkijnphchkpaaGreat
namespace Go.Proofs.YtgpkijnphchkpaaGreat
set_option maxHeartbeats 4000000
set_option maxRecDepth 100000
end Go.Proofs.YtgpkijnphchkpaaGreat
namespace Go.Proofs.YtgpkijnphchkpaaGreat
def iM(s:a8):Int→List Int→Prop|m,[]=>0≤m∧m<s.1∧cV s.2.1 m=true|m,i::l=> ∃r,0≤i∧s.2.2[i.toNat]?=some r∧r.1=m∧iM s r.2.1 l
def m4(s:a8)(i:Int):Int:=match s.2.2[i.toNat]? with|some r=>r.2.2.2.2|none=>0
def dH(s:a8):List Int→Int|[]=>0|i::l=>m4 s i+dH s l
def cz:List Int→List Int→Bool|a::x,b::y=>decide (a<b)||(decide (a=b)&&cz x y)|_,_=>false
def fN(c1:Int)(l1:List Int)(c2:Int)(l2:List Int):Bool:=decide (c1<c2∨c1=c2∧(l1.length<l2.length∨l1.length=l2.length∧cz l1 l2=true))
theorem iN: ∀l,cz l l=false|[]=>rfl|a::l=>by simp[cz,iN l]
theorem fm: ∀ {x y z:List Int},cz x y=true→cz y z=true→cz x z=true|[],_,_,h,_=>(by simp[cz]at h)|_::_,[],_,h,_=>(by simp[cz]at h)|_::_,_::_,[],_,h=>(by simp[cz]at h)|a::x,b::y,c::z,h1,h2=>by simp only[cz,Bool.or_eq_true,Bool.and_eq_true,decide_eq_true_eq]at*;rcases h1 with h1|⟨h1,iD⟩<;>rcases h2 with h2|⟨h2,qP⟩;(·exact .inl (by omega));(·exact .inl (by omega));(·exact .inl (by omega));·exact .inr ⟨by omega,fm iD qP⟩
theorem fo: ∀ {x y:List Int},x.length=y.length→x=y∨cz x y=true∨cz y x=true|[],[],_=>.inl rfl|[],_::_,h=>(by simp at h)|_::_,[],h=>(by simp at h)|a::x,b::y,h=>by simp only[cz,Bool.or_eq_true,Bool.and_eq_true,decide_eq_true_eq];rcases Int.lt_trichotomy a b with h1|h1|h1;(·exact .inr (.inl (.inl h1)));(·subst h1;rcases fo (x:=x) (y:=y) (by simpa using h)with h2|h2|h2;(·exact .inl (by rw[h2]));(·exact .inr (.inl (.inr ⟨rfl,h2⟩)));·exact .inr (.inr (.inr ⟨rfl,h2⟩)));·exact .inr (.inr (.inl h1))
theorem fO {c1 c2:Int} {l1 l2:List Int} :fN c1 l1 c2 l2=true↔c1<c2∨c1=c2∧(l1.length<l2.length∨l1.length=l2.length∧cz l1 l2=true):=by simp[fN]
theorem wx(c:Int)(l:List Int):fN c l c l=false:=by cases h:fN c l c l with|false=>rfl|true=>rw[fO,iN]at h;simp at h
theorem rN {c1 c2 c3:Int} {l1 l2 l3:List Int} (h1:fN c1 l1 c2 l2=true)(h2:fN c2 l2 c3 l3=true):fN c1 l1 c3 l3=true:=by
 rw[fO]at*;rcases h1 with h1|⟨h1,iD⟩<;>rcases h2 with h2|⟨h2,qP⟩;(·exact .inl (by omega));(·exact .inl (by omega));(·exact .inl (by omega));·refine .inr ⟨by omega,?_⟩;rcases iD with iD|⟨iD,h3⟩<;>rcases qP with qP|⟨qP,h4⟩;(·exact .inl (by omega));(·exact .inl (by omega));(·exact .inl (by omega));·exact .inr ⟨by omega,fm h3 h4⟩
theorem rO {c1 c2:Int} {l1 l2:List Int} :(c1=c2∧l1=l2)∨fN c1 l1 c2 l2=true∨fN c2 l2 c1 l1=true:=by
 simp only[fO];rcases Int.lt_trichotomy c1 c2 with h|h|h;(·exact .inr (.inl (.inl h)));(·rcases Nat.lt_trichotomy l1.length l2.length with h2|h2|h2;(·exact .inr (.inl (.inr ⟨h,.inl h2⟩)));(·rcases fo h2 with h3|h3|h3;(·exact .inl ⟨h,h3⟩);(·exact .inr (.inl (.inr ⟨h,.inr ⟨h2,h3⟩⟩)));·exact .inr (.inr (.inr ⟨h.symm,.inr ⟨h2.symm,h3⟩⟩)));·exact .inr (.inr (.inr ⟨h.symm,.inl h2⟩)))
 ·exact .inr (.inr (.inl h))
theorem wy {c1 c2:Int} {l1 l2:List Int} (h:fN c1 l1 c2 l2=true):fN c2 l2 c1 l1=false:=by cases h2:fN c2 l2 c1 l1 with|false=>rfl|true=>have:=rN h h2;rw[wx]at this;cases this
def ye(s:a8)(x y:List Int):Prop:=x=y∨fN (dH s x) x (dH s y) y=true
theorem wz {s:a8} {x y:List Int} (h1:ye s x y)(h2:ye s y x):x=y:=by rcases h1 with h1|h1;(·exact h1);·rcases h2 with h2|h2;(·exact h2.symm);·rw[wy h1]at h2;cases h2
theorem tT(s:a8)(x y:List Int):ye s x y∨ye s y x:=by
 rcases rO (c1:=dH s x) (c2:=dH s y) (l1:=x) (l2:=y)with⟨_,h⟩|h|h;(·exact .inl (.inl h));(·exact .inl (.inr h));·exact .inr (.inr h)
theorem wA {s:a8} {x y:List Int} (i:Int)(h:ye s x y):ye s (i::x) (i::y):=by
 rcases h with rfl|h;(·exact .inl rfl);·refine .inr ?_;rw[fO]at*;simp only[dH,List.length_cons,cz];rcases h with h|⟨h,h'⟩;(·exact .inl (by omega));·refine .inr ⟨by omega,?_⟩;rcases h' with h'|⟨h',yx⟩;(·exact .inl (by omega));·exact .inr ⟨by omega,by simp[yx]⟩
theorem rP {s:a8} {x y:List Int} {i:Int} (h:ye s (i::x) (i::y)):ye s x y:=by rcases tT s x y with h'|h';(·exact h');·have:=wz h (wA i h');injection this with _ this;exact .inl this
structure wB(s:a8)(m:Int)(l:List Int):Prop where
 is:iM s m l
 le: ∀l',iM s m l'→ye s l l'
theorem wC {s:a8} (hs:cx s)(i:Int):0≤m4 s i:=by unfold m4;split;(·rename_i r h;exact(aI (hs.right r (List.mem_of_getElem? h))).2.2.2.2.1);·omega
theorem wD {s:a8} (hs:cx s)(i:Int):m4 s i≤1000:=by unfold m4;split;(·rename_i r h;exact(aI (hs.right r (List.mem_of_getElem? h))).2.2.2.2.2.1);·omega
theorem pH {s:a8} (hs:cx s): ∀l,0≤dH s l|[]=>Int.le_refl _|i::l=>by have:=wC hs i;have:=pH hs l;simp only[dH];omega
theorem pI {s:a8} (hs:cx s): ∀l,dH s l≤1000*(l.length:Int)|[]=>(by simp[dH])|i::l=>by have:=wD hs i;have:=pI hs l;simp only[dH,List.length_cons];omega
theorem wB.tail {s:a8} {m i:Int} {l:List Int} {r:Rl} (h:wB s m (i::l))(hr:s.2.2[i.toNat]?=some r):wB s r.2.1 l:=by
 obtain⟨r',h0,h1,h2,h3⟩:=h.is;rw[hr]at h1;injection h1 with h1;subst h1;exact⟨h3,fun l' oM=>rP (h.le (i::l') ⟨r,h0,hr,h2,oM⟩)⟩
def du(s:a8):Int→List Int→List Nat|m,[]=>[m.toNat]|m,i::l=>m.toNat::(match s.2.2[i.toNat]? with|some r=>du s r.2.1 l|none=>[])
theorem g0 {s:a8} (hs:cx s) {m:Int} {l:List Int} (h:iM s m l):0≤m∧m<s.1:=by
 cases l with|nil=>exact⟨h.1,h.2.1⟩|cons i l=>obtain⟨r,_,h1,h2,_⟩:=h;have:=aI (hs.right r (List.mem_of_getElem? h1));omega
theorem k7 {s:a8} : ∀ {l:List Int} {m:Int},iM s m l→(du s m l).length=l.length+1|[],m,_=>rfl|i::l,m,⟨r,_,h1,_,h3⟩=>by simp only[du,h1,List.length_cons,k7 h3]
theorem m5 {s:a8} (hs:cx s): ∀ {l:List Int} {m:Int},iM s m l→ ∀x,x∈du s m l→x<s.1.toNat|[],m,h,x,hx=>(by simp only[du,List.mem_singleton]at hx;have:=g0 hs h;omega)|i::l,m,h,x,hx=>by have hm:=g0 hs h;obtain⟨r,_,h1,_,h3⟩:=h;simp only[du,h1,List.mem_cons]at hx;rcases hx with rfl|hx;(·omega);·exact m5 hs h3 x hx
end Go.Proofs.YtgpkijnphchkpaaGreat
namespace Go.Proofs.YtgpkijnphchkpaaGreat
abbrev En:=List Int×Int×Bool
def BJ(i:Nat)(r:Rl)(o:En):En:=((i:Int)::o.1,r.2.2.2.2+o.2.1,true)
def Ho(out next:List En)(i:Nat)(r:Rl):List En:=match out[r.2.1.toNat]?,next[r.1.toNat]? with|some o,some n=>if o.2.2=true then(if n.2.2=false∨fN (BJ i r o).2.1 (BJ i r o).1 n.2.1 n.1=true then next.set r.1.toNat (BJ i r o)else next)else next|_,_=>next
def wE(out:List En):Nat→List Rl→List En→List En|_,[],next=>next|i,r::rs,next=>wE out (i+1) rs (Ho out next i r)
def AA(rs:List Rl):Nat→List En→List En|0,out=>out|k+1,out=>AA rs k (wE out 0 rs out)
def g9(a:Int)(n:Nat):List En:=(List.range n).map fun(m:Nat)=>([],0,cV a (m:Int))
def cM(s:a8):List En:=AA s.2.2 s.1.toNat (g9 s.2.1 s.1.toNat)
structure Hp(s:a8)(k:Nat)(m:Int)(e:En)(all:List Int→Prop):Prop where
 is:e.2.2=true→iM s m e.1∧e.1.length≤k∧e.2.1=dH s e.1
 no:e.2.2=false→e.1=[]∧e.2.1=0
 le: ∀l,iM s m l→all l→e.2.2=true∧ye s e.1 l
def zd(s:a8)(k:Nat)(out:List En):Prop:=out.length=s.1.toNat∧ ∀(m:Nat)e,out[m]?=some e→Hp s k m e (fun l=>l.length≤k)
theorem rQ {s:a8} {i:Nat} {r:Rl} (h:s.2.2[i]?=some r)(l:List Int):dH s ((i:Int)::l)=r.2.2.2.2+dH s l:=by simp only[dH,m4,Int.toNat_natCast,h]
theorem k8 {s:a8} (Kr:cx s):zd s 0 (g9 s.2.1 s.1.toNat):=by
 refine⟨by simp[g9],fun m e he=>?_⟩;(have hm:m<s.1.toNat:=by have:=(List.getElem?_eq_some_iff.1 he).1;simpa[g9]using this);unfold g9 at he;rw[List.getElem?_map,List.getElem?_range hm]at he
 (obtain rfl:([],0,cV s.2.1 (m:Int))=e:=by simpa using he);refine⟨fun h=>⟨⟨Int.natCast_nonneg _,by omega,h⟩,Nat.le_refl _,rfl⟩,fun _=>⟨rfl,rfl⟩,fun l hl ha=>?_⟩
 obtain rfl:l=[]:=List.eq_nil_of_length_eq_zero (Nat.le_zero.1 ha);exact⟨hl.2.2,.inl rfl⟩
end Go.Proofs.YtgpkijnphchkpaaGreat
namespace Go.Proofs.YtgpkijnphchkpaaGreat
set_option maxHeartbeats 1000000
abbrev PM:=List (Int×Pr)
theorem cN {V:Type} (m:List (Int×V))(a b:Int)(v:V):Mg bH (Nh bH m a v) b=if b=a then some v else Mg bH m b:=by
 induction m with|nil=>simp only[Nh,Mg];by_cases h:b=a;(·simp only[bH,h,decide_true,cond_true,if_true]);(·simp only[bH,h,decide_false,cond_false,if_false])|cons p m ih=>simp only[Nh];by_cases h:a=p.1;(·(have e:bH a p.1=true:=by simp only[bH,h,decide_true]);rw[e,cond_true];simp only[Mg];by_cases h':b=a;(·simp only[bH,h',decide_true,cond_true,if_true]);·(have e':bH b a=false:=by simp only[bH,h',decide_false]);rw[e',if_neg h',cond_false];(have e2:bH b p.1=false:=by rw[←h];exact e');rw[e2,cond_false]);·(have e:bH a p.1=false:=by simp only[bH,h,decide_false]);rw[e,cond_false];simp only[Mg];by_cases h':b=p.1;(·(have e':bH b p.1=true:=by simp only[bH,h',decide_true]);rw[e',cond_true,cond_true,if_neg (fun x=>h (by rw[←x,h']))]);·(have e':bH b p.1=false:=by simp only[bH,h',decide_false]);rw[e',cond_false,cond_false,ih]
theorem bY {p q:Pr} :bz p q=true↔p.1<q.1∨p.1=q.1∧p.2<q.2:=by simp[bz]
theorem aZ {p q:Pr} :bz p q=false↔ ¬(p.1<q.1∨p.1=q.1∧p.2<q.2):=by simp[bz]
def Hq(s:a8)(l:List Int):Pr:=(dH s l,(l.length:Int))
def Hr(s:a8)(ps:PM)(m:Int)(p:Pr):Prop:= ∃l,iM s m l∧p=Hq s l∧(du s m l).Nodup∧ ∀(x:Nat),x∈du s m l→ ∃px,Mg bH ps (x:Int)=some px∧bz p px=false
structure yf(s:a8)(ps:PM):Prop where
 sound: ∀m p,Mg bH ps m=some p→Hr s ps m p
 acc: ∀m:Int,0≤m→m<s.1→cV s.2.1 m=true→Mg bH ps m=some (0,0)
theorem kf {l:List Nat} {n:Nat} (hd:l.Nodup)(h: ∀x,x∈l→x<n):l.length≤n:=by have:=List.Nodup.length_le_of_subset hd (l₂:=List.range n) (fun x hx=>List.mem_range.2 (h x hx));simpa using this
theorem Hr.bound {s:a8} (hs:cx s) {ps:PM} {m:Int} {p:Pr} (h:Hr s ps m p):0≤p.1∧p.1≤8000∧0≤p.2∧p.2<s.1∧0≤m∧m<s.1:=by
 obtain⟨l,h1,rfl,h3,_⟩:=h;have hl:=kf h3 (m5 hs h1);rw[k7 h1]at hl;have:=pI hs l;have:=pH hs l;have:=hs.n8;have:=g0 hs h1;simp only[Hq];omega
theorem yf.put {s:a8} (hs:cx s) {ps:PM} (h:yf s ps) {i:Nat} {r:Rl} {q:Pr} (hr:s.2.2[i]?=some r)(hq:Mg bH ps r.2.1=some q)(bd: ∀p,Mg bH ps r.1=some p→bz (eA q r.2.2.2.2) p=true):yf s (Nh bH ps r.1 (eA q r.2.2.2.2)):=by
 have tJ:=aI (hs.right r (List.mem_of_getElem? hr));obtain⟨l,h1,h2,h3,h4⟩:=h.sound _ _ hq;(have bo:bz q (eA q r.2.2.2.2)=true:=by rw[bY];simp only[eA];omega);(have gV:r.1.toNat∉du s r.2.1 l:=by intro hx;obtain⟨px,e1,e2⟩:=h4 _ hx;rw[show((r.1.toNat:Nat):Int)=r.1 by omega]at e1;have:=bd px e1;rw[bY]at this bo;rw[aZ]at e2;omega)
 refine⟨fun m p hm=>?_,fun m a1 a2 a3=>?_⟩;(·rw[cN]at hm;split at hm;(·rename_i e;subst e;injection hm with hm;subst hm;refine⟨(i:Int)::l,⟨r,Int.natCast_nonneg _,by simpa using hr,rfl,h1⟩,?_,?_,fun x hx=>?_⟩;(·rw[h2];simp only[Hq,eA,List.length_cons,rQ hr];rw[Int.add_comm r.2.2.2.2];simp);(·simp only[du,Int.toNat_natCast,hr,List.nodup_cons];exact⟨gV,h3⟩);·simp only[du,Int.toNat_natCast,hr,List.mem_cons]at hx;rw[cN];rcases hx with rfl|hx;(·rw[if_pos (by omega)];exact⟨_,rfl,by rw[aZ];omega⟩);·obtain⟨px,e1,e2⟩:=h4 x hx;rw[if_neg (fun e=>gV (by rw[←e];simpa using hx))];refine⟨px,e1,?_⟩;rw[bY]at bo;rw[aZ]at e2⊢;omega);·rename_i bf;obtain⟨l',g1,g2,g3,g4⟩:=h.sound _ _ hm;refine⟨l',g1,g2,g3,fun x hx=>?_⟩;obtain⟨px,e1,e2⟩:=g4 x hx;rw[cN];split;(·rename_i e;rw[e]at e1;have:=bd px e1;refine⟨_,rfl,?_⟩;rw[bY]at this;rw[aZ]at e2⊢;omega);·exact⟨px,e1,e2⟩)
 ·rw[cN];have ha:=h.acc m a1 a2 a3;split;(·rename_i e;subst e;have:=bd _ ha;have hb:=(h.sound _ _ hq).bound hs;rw[bY]at this;simp only[eA]at this;omega);·exact ha
def AD(ps:PM)(r:Rl):Prop:= ∀q,Mg bH ps r.2.1=some q→ ∃p,Mg bH ps r.1=some p∧bz (eA q r.2.2.2.2) p=false
def wF:Option Pr→Nat|none=>100000|some p=>p.1.toNat*8+p.2.toNat
def sL(n:Nat)(ps:PM):Nat:=((List.range n).map fun(m:Nat)=>wF (Mg bH ps (m:Int))).sum
theorem wG {f g:Nat→Nat} : ∀(l:List Nat),(∀x,x∈l→g x≤f x)→(l.map g).sum≤(l.map f).sum|[],_=>Nat.le_refl _|x::l,h=>by have:=wG l (fun y hy=>h y (by simp[hy]));have:=h x (by simp);simp only[List.map_cons,List.sum_cons];omega
theorem wH {f g:Nat→Nat} {m:Nat} : ∀(l:List Nat),(∀x,x∈l→g x≤f x)→m∈l→g m<f m→(l.map g).sum<(l.map f).sum|x::l,h,hm,bo=>by simp only[List.map_cons,List.sum_cons];have h1:=wG l (fun y hy=>h y (by simp[hy]));have h2:=h x (by simp);rcases List.mem_cons.1 hm with rfl|hm;(·omega);·have:=wH l (fun y hy=>h y (by simp[hy])) hm bo;omega
theorem yf.less {s:a8} (hs:cx s) {ps:PM} (h:yf s ps) {i:Nat} {r:Rl} {q:Pr} (hr:s.2.2[i]?=some r)(hq:Mg bH ps r.2.1=some q)(bd: ∀p,Mg bH ps r.1=some p→bz (eA q r.2.2.2.2) p=true):sL s.1.toNat (Nh bH ps r.1 (eA q r.2.2.2.2))<sL s.1.toNat ps:=by
 have tJ:=aI (hs.right r (List.mem_of_getElem? hr));have hb:=(h.sound _ _ hq).bound hs;have h8:=hs.n8;(have key:wF (some (eA q r.2.2.2.2))<wF (Mg bH ps r.1):=by cases hp:Mg bH ps r.1 with|none=>simp only[wF,eA];omega|some p=>have hl:=bd p hp;have IJ:=(h.sound _ _ hp).bound hs;have aq:=((yf.put hs h hr hq bd).sound r.1 (eA q r.2.2.2.2) (by rw[cN,if_pos rfl])).bound hs;rw[bY]at hl;simp only[wF];omega)
 refine wH (m:=r.1.toNat) _ (fun x hx=>?_) (List.mem_range.2 (by omega)) ?_;(·rw[cN];split;(·rename_i e;rw[e];exact Nat.le_of_lt key);·exact Nat.le_refl _);·rw[cN,if_pos (by omega),show((r.1.toNat:Nat):Int)=r.1 by omega];exact key
theorem k9 {V:Type} (k:Int)(v:V): ∀(m:List (Int×V)),(Nh bH m k v).map (·.1)=if k∈m.map (·.1)then m.map (·.1)else m.map (·.1)++ [k]|[]=>rfl|p::m=>by have ih:=k9 k v m;simp only[Nh];by_cases h:k=p.1;(·(have:bH k p.1=true:=by simp only[bH,h,decide_true]);rw[this,cond_true,if_pos (by simp[h])];simp[h]);·(have:bH k p.1=false:=by simp only[bH,h,decide_false]);rw[this,cond_false];simp only[List.map_cons,ih,List.mem_cons,h,false_or];split<;>rfl
theorem lb {V:Type} {k:Int} {v:V} {m:List (Int×V)} (h:(m.map (·.1)).Nodup):((Nh bH m k v).map (·.1)).Nodup:=by
 rw[k9];split;(·exact h);·rename_i hk;rw[List.nodup_append];exact⟨h,by simp,fun a ha b hb=>by simp at hb;subst hb;exact fun e=>hk (e▸ha)⟩
theorem jZ {V:Type} : ∀ {m:List (Int×V)} {k:Int},k∈m.map (·.1)→ ∃v,Mg bH m k=some v|p::m,k,h=>by simp only[Mg];by_cases e:k=p.1;(·(have:bH k p.1=true:=by simp only[bH,e,decide_true]);exact⟨p.2,by rw[this,cond_true]⟩);·(have e':bH k p.1=false:=by simp only[bH,e,decide_false]);rw[e',cond_false];simp only[List.map_cons,List.mem_cons]at h;exact jZ (h.resolve_left e)
theorem pJ {V:Type} {m:List (Int×V)} {n:Nat} (hd:(m.map (·.1)).Nodup)(h: ∀k v,Mg bH m k=some v→0≤k∧k<(n:Int)):m.length≤n:=by
 have:=List.Nodup.length_le_of_subset hd (l₂:=(List.range n).map fun(x:Nat)=>(x:Int)) (fun x hx=>by obtain⟨v,hv⟩:=jZ hx;have:=h x v hv;exact List.mem_map.2 ⟨x.toNat,List.mem_range.2 (by omega),by omega⟩)
 simpa using this
structure ze(s:a8)(p0:PM)(ch:Bool)(ps:PM)(P:Int→Prop):Prop where
 ok:yf s ps
 once:(ps.map (·.1)).Nodup
 BK:sL s.1.toNat ps+(if ch=true then 1 else 0)≤sL s.1.toNat p0
 shut:ch=false→ ∀i,P i→ ∀r,s.2.2[i.toNat]?=some r→AD ps r
theorem ze.zf {s:a8} {p0 ps:PM} {ch:Bool} {P P':Int→Prop} (h:ze s p0 ch ps P)(hp: ∀i,P' i→P i):ze s p0 ch ps P':=⟨h.ok,h.once,h.BK,fun e i hi=>h.shut e i (hp i hi)⟩
theorem ze.same {s:a8} {p0 ps:PM} {ch:Bool} {P:Int→Prop} {i:Int} {r:Rl} (h:ze s p0 ch ps P)(hr:s.2.2[i.toNat]?=some r)(hs:AD ps r):ze s p0 ch ps (fun j=>P j∨j=i):=⟨h.ok,h.once,h.BK,fun e j hj q hq=>by rcases hj with hj|rfl;(·exact h.shut e j hj q hq);·rw[hr]at hq;injection hq with hq;subst hq;exact hs⟩
theorem ze.put {s:a8} (hs:cx s) {p0 ps:PM} {ch:Bool} {P P':Int→Prop} {i:Nat} {r:Rl} {q:Pr} (h:ze s p0 ch ps P)(hr:s.2.2[i]?=some r)(hq:Mg bH ps r.2.1=some q)(bd: ∀p,Mg bH ps r.1=some p→bz (eA q r.2.2.2.2) p=true):ze s p0 true (Nh bH ps r.1 (eA q r.2.2.2.2)) P':=by
 refine⟨h.ok.put hs hr hq bd,lb h.once,?_,fun e=>by cases e⟩;have:=h.ok.less hs hr hq bd;have:=h.BK;rw[if_pos rfl];split at this<;>omega
theorem yf.TT {s:a8} (hs:cx s) {ps:PM} (h:yf s ps)(ho:(ps.map (·.1)).Nodup):ps.length≤8:=by
 have h8:=hs.n8;have:=pJ (n:=s.1.toNat) ho (fun k v hv=>by have:=(h.sound k v hv).bound hs;omega);omega
structure yg(s:a8)(k:Nat)(ps:PM):Prop where
 find: ∀m:Int,Mg bH ps m=if 0≤m∧m<(k:Int)∧cV s.2.1 m=true then some (0,0)else none
 once:(ps.map (·.1)).Nodup
theorem yg.TT {s:a8} {k:Nat} {ps:PM} (h:yg s k ps):ps.length≤k:=pJ h.once fun m v hv=>by rw[h.find]at hv;split at hv;(·rename_i h';exact⟨h'.1,h'.2.1⟩);·cases hv
theorem yg.next {s:a8} {k:Nat} {ps:PM} (h:yg s k ps)(ha:cV s.2.1 (k:Int)=true):yg s (k+1) (Nh bH ps (k:Int) (0,0)):=by
 refine⟨fun m=>?_,lb h.once⟩;rw[cN];split;(·rename_i e;subst e;rw[if_pos ⟨Int.natCast_nonneg _,by omega,ha⟩]);·rename_i e;rw[h.find];by_cases hm:0≤m∧m<(k:Int)∧cV s.2.1 m=true;(·rw[if_pos hm,if_pos ⟨hm.1,by omega,hm.2.2⟩]);·rw[if_neg hm,if_neg (fun h'=>hm ⟨h'.1,by omega,h'.2.2⟩)]
theorem yg.skip {s:a8} {k:Nat} {ps:PM} (h:yg s k ps)(ha:cV s.2.1 (k:Int)=false):yg s (k+1) ps:=by
 refine⟨fun m=>?_,h.once⟩;rw[h.find];by_cases hm:0≤m∧m<(k:Int)∧cV s.2.1 m=true;(·rw[if_pos hm,if_pos ⟨hm.1,by omega,hm.2.2⟩]);·rw[if_neg hm,if_neg (fun h'=>by rcases Int.lt_or_le m k with h1|h1;(·exact hm ⟨h'.1,h1,h'.2.2⟩);·(have:m=(k:Int):=by omega);rw[this,ha]at h';simp at h')]
theorem yg.ok {s:a8} (Kr:cx s) {ps:PM} (h:yg s s.1.toNat ps):yf s ps:=by
 refine⟨fun m p hm=>?_,fun m h1 h2 h3=>by rw[h.find,if_pos ⟨h1,by omega,h3⟩]⟩;have Ks:=hm;rw[h.find]at hm;split at hm;(·rename_i h';injection hm with hm;subst hm;refine⟨[],⟨h'.1,by omega,h'.2.2⟩,rfl,by simp[du],fun x hx=>?_⟩;simp only[du,List.mem_singleton]at hx;subst hx;rw[show((m.toNat:Nat):Int)=m by omega];exact⟨_,Ks,by rw[aZ];simp⟩)
 ·cases hm
end Go.Proofs.YtgpkijnphchkpaaGreat
namespace Go.Proofs.YtgpkijnphchkpaaGreat
set_option maxHeartbeats 1000000
theorem m6(k:Int): ∀(rs:List Rl)(i:Nat)(m:GM),dZ (fL rs i m) k=dZ m k++cK k rs i|[],_,m=>(by simp only[fL,cK,List.append_nil])|r::rs,i,m=>by simp only[fL];rw[m6 k rs (i+1) _,pA];have e:cK k (r::rs) i=if r.1=k then(i:Int)::cK k rs (i+1)else cK k rs (i+1):=rfl;rw[e];by_cases h:r.1=k;(·rw[if_pos h.symm,if_pos h,h,List.append_assoc];rfl);·rw[if_neg (fun e=>h e.symm),if_neg h]
theorem ld(rs:List Rl)(k:Int):dZ (bQ rs) k=cK k rs 0:=by unfold bQ;rw[m6];rfl
theorem m7(k:Int)(v:List Int): ∀(m:GM),(Nh bH m k v).map (·.1)=if k∈m.map (·.1)then m.map (·.1)else m.map (·.1)++ [k]|[]=>rfl|p::m=>by have ih:=m7 k v m;simp only[Nh];by_cases h:k=p.1;(·(have:bH k p.1=true:=by simp only[bH,h,decide_true]);rw[this,cond_true,if_pos (by simp[h])];simp[h]);·(have:bH k p.1=false:=by simp only[bH,h,decide_false]);rw[this,cond_false];simp only[List.map_cons,ih,List.mem_cons,h,false_or];split<;>rfl
theorem tU {k:Int} {v:List Int} {m:GM} (h:(m.map (·.1)).Nodup):((Nh bH m k v).map (·.1)).Nodup:=by
 rw[m7];split;(·exact h);·rename_i hk;rw[List.nodup_append];exact⟨h,by simp,fun a ha b hb=>by simp at hb;subst hb;exact fun e=>hk (e▸ha)⟩
theorem m8: ∀(rs:List Rl)(i:Nat)(m:GM),(m.map (·.1)).Nodup→((fL rs i m).map (·.1)).Nodup|[],_,_,h=>h|_::rs,i,m,h=>m8 rs (i+1) _ (tU h)
theorem pK: ∀ {m:GM} {x:Int×List Int},(m.map (·.1)).Nodup→x∈m→Mg bH m x.1=some x.2|p::m,x,h,hx=>by simp only[List.map_cons,List.nodup_cons]at h;simp only[Mg];rcases List.mem_cons.1 hx with rfl|hx;(·(have:bH x.1 x.1=true:=by simp only[bH,decide_true]);rw[this,cond_true]);·have bf:x.1≠p.1:=fun e=>h.1 (by rw[←e];exact List.mem_map_of_mem hx);(have:bH x.1 p.1=false:=by simp only[bH,bf,decide_false]);rw[this,cond_false];exact pK h.2 hx
theorem pL: ∀ {m:GM} {k:Int} {v:List Int},Mg bH m k=some v→(k,v)∈m|p::m,k,v,h=>by simp only[Mg]at h;by_cases e:k=p.1;(·(have:bH k p.1=true:=by simp only[bH,e,decide_true]);rw[this,cond_true]at h;injection h with h;subst h;subst e;simp);·(have:bH k p.1=false:=by simp only[bH,e,decide_false]);rw[this,cond_false]at h;exact List.mem_cons_of_mem _ (pL h)
theorem lf {rs:List Rl} {x:Int×List Int} (h:x∈bQ rs):x.2=cK x.1 rs 0:=by have hf:=pK (m8 rs 0 [] (by simp)) h;rw[←ld];unfold dZ;rw[show bQ rs=fL rs 0 []from rfl,hf];rfl
theorem tV {rs:List Rl} {x:Int×List Int} {j:Int} (h:x∈bQ rs)(hj:j∈x.2): ∃(i:Nat)(r:Rl),j=(i:Int)∧rs[i]?=some r∧r.1=x.1:=by
 rw[lf h]at hj;obtain⟨i,r,h1,h2,h3⟩:=dt.1 hj;exact⟨i,r,by rw[h3,Nat.zero_add],h1,h2⟩
theorem wI {rs:List Rl} {i:Nat} {r:Rl} (h:rs[i]?=some r): ∃(p:Nat)(x:Int×List Int),(bQ rs)[p]?=some x∧x.1=r.1∧(i:Int)∈x.2:=by
 (have hm:(i:Int)∈dZ (bQ rs) r.1:=by rw[ld];exact dt.2 ⟨i,r,h,rfl,by rw[Nat.zero_add]⟩);unfold dZ at hm;cases hf:Mg bH (bQ rs) r.1 with|none=>rw[hf]at hm;cases hm|some v=>rw[hf]at hm;obtain⟨p,hp⟩:=List.getElem?_of_mem (pL hf);exact⟨p,_,hp,rfl,hm⟩
theorem tW(rs:List Rl):(bQ rs).length≤rs.length∧ ∀x,x∈bQ rs→x.2.length≤rs.length:=by refine⟨by have:=jy rs 0 [];simpa[bQ]using this,fun x hx=>?_⟩;rw[lf hx];exact jB _ _ _
end Go.Proofs.YtgpkijnphchkpaaGreat
