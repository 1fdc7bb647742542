/- Contracts: the methods of strings.Builder, with the blocks that they are handed. Nothing here is trusted; no condition. -/
import Derived.Test.YtimognngcagphaaGreatC1
import Derived.Lib.Builder
import Derived.WalkKit
import Derived.RegionTactic
import Derived.BigRegion
import Derived.Deep.RegionLaw
import Derived.Lib.Walk
import Derived.Shelf.Strings.Builder1
import Derived.Shelf.Strings.BuilderF
import Derived.Shelf.Strings.BuilderK
import Derived.Shelf.Strings.Prefix
import Derived.Shelf.Strings.BuilderCap
import Derived.Test.YtimognngcagphaaGreatProg
import Derived.Lib.UnsafeStr
set_option linter.all false
set_option maxHeartbeats 8000000
set_option maxRecDepth 100000
namespace Go.Proofs.YtimognngcagphaaGreat
section
def on(L:List Bool)(m:Nat):Prop:=L[m]?=some true
def fS(L:List Bool)(e:Nat×Nat):List Bool:=if L[e.1]?=some true then L.set e.2 true else L
def iY(E:List (Nat×Nat))(L:List Bool):List Bool:=E.foldl fS L
def jU(E:List (Nat×Nat)):Nat→List Bool→List Bool|0,L=>L|k+1,L=>jU E k (iY E L)
inductive Cl(E:List (Nat×Nat))(L0:List Bool):Nat→Prop where|base(m:Nat):on L0 m→Cl E L0 m|step(a b:Nat):Cl E L0 a→(a,b)∈E→Cl E L0 b
def qD(E:List (Nat×Nat))(L:List Bool):Prop:= ∀e,e∈E→on L e.1→on L e.2
def cf(L:List Bool):Nat:=L.countP (fun b=>!b)
theorem aX1 {L:List Bool} {m:Nat} (h:on L m):m<L.length:=(z6 h).1
theorem Od {L:List Bool} {a m:Nat} (h:on L m):on (L.set a true) m:=by unfold on at*;rw[List.getElem?_set];split;(·rw[if_pos (by rename_i e;subst e;exact aX1 h)]);·exact h
theorem sy {L:List Bool} {a:Nat} (h:a<L.length):on (L.set a true) a:=by unfold on;rw[List.getElem?_set];simp[h]
theorem jV {L:List Bool} {a m:Nat} (h:on (L.set a true) m):m=a∨on L m:=by unfold on at*;rw[List.getElem?_set]at h;split at h;(·rename_i e;exact .inl e.symm);·exact .inr h
theorem zg: ∀ {L:List Bool} {a:Nat},L[a]?=some false→cf (L.set a true)+1=cf L|[],a,h=>(by simp at h)|x::L,0,h=>(by simp at h;subst h;simp[cf])|x::L,a+1,h=>by have:=zg (L:=L) (a:=a) (by simpa using h);simp only[cf,List.set_cons_succ,List.countP_cons]at this⊢;omega
theorem Sz(L:List Bool)(a:Nat):cf (L.set a true)≤cf L:=by
 cases h:L[a]? with|none=>rw[List.set_eq_of_length_le (by rw[List.getElem?_eq_none_iff]at h;exact h)];exact x8|some b=>cases b with|false=>have:=zg h;omega|true=>(have:L.set a true=L:=by apply List.ext_getElem?;intro i;rw[List.getElem?_set];split;(·rename_i e;subst e;rw[h,if_pos (z6 h).1]);·rfl);rw[this];exact x8
theorem XU {L:List Bool} {a:Nat} (h:on L a):L.set a true=L:=by
 apply List.ext_getElem?;intro i;rw[List.getElem?_set];split;(·rename_i e;subst e;rw[show L[a]?=some true from h,if_pos (aX1 h)]);·rfl
theorem GC {L:List Bool} {a:Nat} (h:a<L.length):on L a∨L[a]?=some false:=by unfold on;rw[List.getElem?_eq_getElem h];cases L[a]<;>simp
theorem GD(L:List Bool)(e:Nat×Nat):(fS L e).length=L.length:=by unfold fS;split<;>simp
theorem zh: ∀(E:List (Nat×Nat))(L:List Bool),(iY E L).length=L.length|[],L=>rfl|e::E,L=>(zh E (fS L e)).trans (GD L e)
theorem pe(E:List (Nat×Nat)): ∀(k:Nat)(L:List Bool),(jU E k L).length=L.length|0,L=>rfl|k+1,L=>(pe E k _).trans (zh E L)
theorem XV {L:List Bool} {e:Nat×Nat} {m:Nat} (h:on L m):on (fS L e) m:=by unfold fS;split;(·exact Od h);·exact h
theorem K5: ∀ {E:List (Nat×Nat)} {L:List Bool} {m:Nat},on L m→on (iY E L) m|[],L,m,h=>h|e::E,L,m,h=>K5 (E:=E) (XV h)
theorem K6 {E:List (Nat×Nat)} : ∀ {k:Nat} {L:List Bool} {m:Nat},on L m→on (jU E k L) m|0,L,m,h=>h|k+1,L,m,h=>K6 (k:=k) (K5 h)
def kO(E:List (Nat×Nat))(L0 L:List Bool):Prop:= ∀m,on L m→Cl E L0 m
theorem K7 {E:List (Nat×Nat)} {L0 L:List Bool} {e:Nat×Nat} (he:e∈E)(h:kO E L0 L):kO E L0 (fS L e):=by
 intro m hm;unfold fS at hm;split at hm;(·rename_i h1;rcases jV hm with rfl|hm;(·exact .step _ _ (h _ h1) he);·exact h m hm);·exact h m hm
theorem Az {E0:List (Nat×Nat)} {L0:List Bool} : ∀ {E:List (Nat×Nat)} {L:List Bool},(∀e,e∈E→e∈E0)→kO E0 L0 L→kO E0 L0 (iY E L)|[],L,_,h=>h|e::E,L,hs,h=>Az (E:=E) (fun e' he=>hs e' (by simp[he])) (K7 (hs e (by simp)) h)
theorem AA {E:List (Nat×Nat)} {L0:List Bool} : ∀ {k:Nat} {L:List Bool},kO E L0 L→kO E L0 (jU E k L)|0,L,h=>h|k+1,L,h=>AA (k:=k) (Az (fun _ h=>h) h)
theorem K8(L:List Bool)(e:Nat×Nat):cf (fS L e)≤cf L:=by unfold fS;split;(·exact Sz L _);·exact x8
theorem K9: ∀(E:List (Nat×Nat))(L:List Bool),cf (iY E L)≤cf L|[],L=>x8|e::E,L=>Nat.le_trans (K9 E (fS L e)) (K8 L e)
theorem Oe {L:List Bool} {e:Nat×Nat} (hl:e.2<L.length)(h:cf L≤cf (fS L e)):fS L e=L∧(on L e.1→on L e.2):=by
 unfold fS at*;by_cases h1:L[e.1]?=some true;(·rw[if_pos h1]at h⊢;rcases GC hl with h2|h2;(·exact⟨XU h2,fun _=>h2⟩);·have:=zg h2;omega);·rw[if_neg h1];exact⟨rfl,fun h'=>absurd h' h1⟩
theorem Dy: ∀ {E:List (Nat×Nat)} {L:List Bool},(∀e,e∈E→e.2<L.length)→cf L≤cf (iY E L)→iY E L=L∧qD E L|[],L,_,_=>⟨rfl,fun _ h=>by cases h⟩|e::E,L,hl,h=>by have h1:cf (iY E (fS L e))≤cf (fS L e):=K9 E _;have h2:=K8 L e;have h3:cf L≤cf (iY E (fS L e)):=h;obtain⟨h4,h5⟩:=Oe (hl e (by simp)) v6;(have h6:iY (e::E) L=iY E L:=by show iY E (fS L e)=_;rw[h4]);rw[h4]at h3;obtain⟨h7,h8⟩:=Dy (E:=E) (L:=L) (fun e' he=>hl e' (by simp[he])) h3;refine⟨h6.trans h7,fun e' he=>?_⟩;rcases wl he with rfl|he;(·exact h5);·exact h8 e' he
theorem AD: ∀ {E:List (Nat×Nat)} {L:List Bool},qD E L→iY E L=L|[],L,_=>rfl|e::E,L,h=>by(have h1:fS L e=L:=by unfold fS;split;(·rename_i h1;exact XU (h e (by simp) h1));·rfl);show iY E (fS L e)=L;rw[h1];exact AD fun e' he=>h e' (by simp[he])
theorem AE {E:List (Nat×Nat)} : ∀ {k:Nat} {L:List Bool},qD E L→jU E k L=L|0,L,_=>rfl|k+1,L,h=>by show jU E k (iY E L)=L;rw[AD h];exact AE h
theorem Qk: ∀ {L:List Bool} {m:Nat},cf L=0→m<L.length→on L m|x::L,m,h,hm=>by cases x with|false=>simp[cf]at h|true=>cases m with|zero=>rfl|succ m=>exact Qk (L:=L) (m:=m) (by simpa[cf]using h) (by simpa using hm)
theorem AF {E:List (Nat×Nat)} : ∀ {k:Nat} {L:List Bool},(∀e,e∈E→e.2<L.length)→cf L≤k→qD E (jU E k L)|0,L,hl,h=>fun e he _=>(Qk (L:=L) v6 (hl e he):on L e.2)|k+1,L,hl,h=>by by_cases h1:cf L≤cf (iY E L);(·obtain⟨h2,h3⟩:=Dy hl h1;have:jU E (k+1) L=L:=AE h3;rw[this];exact h3);·exact AF (k:=k) (L:=iY E L) (fun e he=>by rw[zh];exact hl e he) v6
theorem XW(L:List Bool):cf L≤L.length:=List.countP_le_length
theorem Dz {E:List (Nat×Nat)} {L0 L:List Bool} (h:qD E L)(h0: ∀m,on L0 m→on L m) {m:Nat} (hm:Cl E L0 m):on L m:=by induction hm with|base m hb=>exact h0 m hb|step a b _ he ih=>exact h _ he ih
theorem xI {E:List (Nat×Nat)} {L:List Bool} {k:Nat} (hl: ∀e,e∈E→e.2<L.length)(hk:L.length≤k)(m:Nat):on (jU E k L) m↔Cl E L m:=⟨fun h=>AA (fun m hm=>.base m hm) m h,fun h=>Dz (AF hl (Nat.le_trans (XW L) hk)) (fun _ h=>K6 h) h⟩
theorem SA {L L':List Bool} (hl:L.length=L'.length)(h: ∀m,on L m↔on L' m):L=L':=by
 apply List.ext_getElem hl;intro i h1 h2;have:=h i;unfold on at this;rw[List.getElem?_eq_getElem h1,List.getElem?_eq_getElem h2]at this;cases hx:L[i]<;>cases hy:L'[i]<;>simp_all
theorem GF {E:List (Nat×Nat)} {L0 L:List Bool} {k:Nat} (hl: ∀e,e∈E→e.2<L0.length)(hk:L0.length≤k)(hlen:L.length=L0.length)(h1:kO E L0 L)(h2:qD E L)(h3: ∀m,on L0 m→on L m):L=jU E k L0:=SA (by rw[hlen,pe]) fun m=>⟨fun h=>(xI hl hk m).2 (h1 m h),fun h=>Dz h2 h3 ((xI hl hk m).1 h)⟩
/-! Walking in depth. -/
def kl(G:Nat→List Nat):Nat→List Bool→Nat→List Bool|0,L,_=>L|f+1,L,m=>if L[m]?=some true then L else(G m).foldl (fun L k=>kl G f L k) (L.set m true)
structure uz(G:Nat→List Nat)(L L':List Bool):Prop where
 len:L'.length=L.length
 mono: ∀m,on L m→on L' m
 cf:cf L'≤cf L
 new: ∀a,on L' a→on L a∨ ∀b,b∈G a→on L' b
theorem uz.refl(G:Nat→List Nat)(L:List Bool):uz G L L:=⟨rfl,fun _ h=>h,x8,fun _ h=>.inl h⟩
theorem uz.trans {G:Nat→List Nat} {L M N:List Bool} (h:uz G L M)(h':uz G M N):uz G L N:=⟨h'.len.trans h.len,fun m hm=>h'.mono m (h.mono m hm),Nat.le_trans h'.cf h.cf,fun a ha=>by rcases h'.new a ha with h1|h1;(·rcases h.new a h1 with h2|h2;(·exact .inl h2);·exact .inr fun b hb=>h'.mono b (h2 b hb));·exact .inr h1⟩
theorem Of {G:Nat→List Nat} {n:Nat} (hG: ∀a b,b∈G a→b<n): ∀(f:Nat)(L:List Bool)(m:Nat),L.length=n→m<n→cf L<f→uz G L (kl G f L m)∧on (kl G f L m) m|0,L,m,_,_,h=>v6|f+1,L,m,hL,hm,h=>by unfold kl;by_cases h1:L[m]?=some true;(·rw[if_pos h1];exact⟨uz.refl G L,h1⟩);·rw[if_neg h1];(have hoff:L[m]?=some false:=by rcases GC (L:=L) (a:=m) v6 with h2|h2;(·exact absurd h2 h1);·exact h2);have hcf:=zg hoff;(have fold: ∀(l:List Nat)(M:List Bool),(∀b,b∈l→b<n)→M.length=n→cf M<f→uz G M (l.foldl (fun L k=>kl G f L k) M)∧ ∀b,b∈l→on (l.foldl (fun L k=>kl G f L k) M) b:=by intro l;induction l with|nil=>intro M _ _ _;exact⟨uz.refl G M,fun b hb=>by cases hb⟩|cons k l ih=>intro M hl hM hc;obtain⟨i1,i2⟩:=Of hG f M k hM (hl k (by simp)) hc;obtain⟨j1,j2⟩:=ih (kl G f M k) (fun b hb=>hl b (by simp[hb])) (i1.len.trans hM) (Nat.lt_of_le_of_lt i1.cf hc);simp only[List.foldl_cons];refine⟨i1.trans j1,fun b hb=>?_⟩;rcases wl hb with rfl|hb;(·exact j1.mono _ i2);·exact j2 b hb);obtain⟨j1,j2⟩:=fold (G m) (L.set m true) (fun b hb=>hG m b hb) (by simpa using hL) v6;have hself:on (L.set m true) m:=sy v6;refine⟨⟨by rw[j1.len];simp,fun a ha=>j1.mono a (Od ha),by have:=j1.cf;omega,fun a ha=>?_⟩,j1.mono m hself⟩;rcases j1.new a ha with h2|h2;(·rcases jV h2 with rfl|h2;(·exact .inr fun b hb=>j2 b hb);·exact .inl h2);·exact .inr h2
theorem GG {G:Nat→List Nat} {E:List (Nat×Nat)} {L0:List Bool} (hG: ∀a b,b∈G a→(a,b)∈E): ∀(f:Nat)(L:List Bool)(m:Nat),kO E L0 L→Cl E L0 m→kO E L0 (kl G f L m)|0,L,m,h,_=>h|f+1,L,m,h,hm=>by unfold kl;by_cases h1:L[m]?=some true;(·rw[if_pos h1];exact h);·rw[if_neg h1];(have fold: ∀(l:List Nat)(M:List Bool),(∀b,b∈l→Cl E L0 b)→kO E L0 M→kO E L0 (l.foldl (fun L k=>kl G f L k) M):=by intro l;induction l with|nil=>intro M _ h;exact h|cons k l ih=>intro M hl hM;exact ih _ (fun b hb=>hl b (by simp[hb])) (GG hG f M k hM (hl k (by simp))));refine fold (G m) _ (fun b hb=>.step _ _ hm (hG m b hb)) fun a ha=>?_;rcases jV ha with rfl|ha;(·exact hm);·exact h a ha
theorem DC(G:Nat→List Nat): ∀(f:Nat)(L:List Bool)(m:Nat),(kl G f L m).length=L.length|0,L,m=>rfl|f+1,L,m=>by unfold kl;split;(·rfl);·(have fold: ∀(l:List Nat)(M:List Bool),(l.foldl (fun L k=>kl G f L k) M).length=M.length:=by intro l;induction l with|nil=>intro M;rfl|cons k l ih=>intro M;rw[List.foldl_cons,ih,DC G f]);rw[fold];simp
end
section
def iK(rs:List Rl):List (Nat×Nat):=rs.map fun r=>(r.1.toNat,r.2.1.toNat)
def kP(rs:List Rl):List (Nat×Nat):=rs.map fun r=>(r.2.1.toNat,r.1.toNat)
def qE(n:Nat):List Bool:=(List.replicate n false).set 0 true
def fK(a:Int)(n:Nat):List Bool:=(List.range n).map fun(m:Nat)=>gU a (m:Int)
def eD(s:bR):List Bool:=jU (iK s.2.2) s.1.toNat (qE s.1.toNat)
def pf(s:bR):List Bool:=jU (kP s.2.2) s.1.toNat (fK s.2.1 s.1.toNat)
theorem qF(a:Int)(n:Nat):(fK a n).length=n:=by unfold fK;simp
theorem GH {a:Int} {n i:Nat} (h:i<n):(fK a n)[i]?=some (gU a (i:Int)):=by unfold fK;rw[List.getElem?_map,List.getElem?_range h];rfl
theorem La {α:Type} {l m:List α} {i:Nat} {x:α} (h:l.take i=m.take i)(hi:i<l.length)(hm:m[i]?=some x):(l.set i x).take (i+1)=m.take (i+1):=by
 rw[dD hm,List.take_add_one,List.take_set_of_le (x8),h];simp[List.getElem?_set,hi]
end
section
attribute[local go_sem]Int.reduceEq not_true_eq_false not_false_eq_true false_implies
def jx(m:Int):List Rl→Nat→List Int|[],_=>[]|r::rs,i=>if r.1=m then(i:Int)::jx m rs (i+1)else jx m rs (i+1)
theorem kQ {m:Int} : ∀ {rs:List Rl} {i:Nat} {k:Int},k∈jx m rs i↔ ∃(j:Nat)(r:Rl),rs[j]?=some r∧r.1=m∧k=((i+j:Nat):Int)|[],i,k=>⟨fun h=>(by cases h),fun⟨j,r,h,_⟩=>(by simp at h)⟩|x::rs,i,k=>by have ih:=kQ (m:=m) (rs:=rs) (i:=i+1) (k:=k);have step:(∃(j:Nat)(r:Rl),rs[j]?=some r∧r.1=m∧k=((i+1+j:Nat):Int))→ ∃(j:Nat)(r:Rl),(x::rs)[j]?=some r∧r.1=m∧k=((i+j:Nat):Int):=fun⟨j,r,h1,h2,h3⟩=>⟨j+1,r,by simpa using h1,h2,by rw[h3];congr 1;omega⟩;(have step':(∃(j:Nat)(r:Rl),(x::rs)[j]?=some r∧r.1=m∧k=((i+j:Nat):Int))→(x.1=m∧k=(i:Int))∨ ∃(j:Nat)(r:Rl),rs[j]?=some r∧r.1=m∧k=((i+1+j:Nat):Int):=by rintro⟨j,r,h1,h2,h3⟩;cases j with|zero=>simp at h1;subst h1;exact .inl ⟨h2,by rw[h3];congr 1⟩|succ j=>exact .inr ⟨j,r,by simpa using h1,h2,by rw[h3];congr 1;omega⟩);unfold jx;split;(·rename_i hx;rw[List.mem_cons,ih];constructor;(·rintro(h|h);(·exact⟨0,x,rfl,hx,by rw[h];congr 1⟩);·exact step h);·intro h;rcases step' h with h|h;(·exact .inl h.2);·exact .inr h);·rename_i hx;rw[ih];constructor;(·exact step);·intro h;rcases step' h with h|h;(·exact absurd h.1 hx);·exact h
theorem zi(m:Int): ∀(rs:List Rl)(i:Nat),(jx m rs i).length≤rs.length|[],i=>x8|x::rs,i=>by have:=zi m rs (i+1);unfold jx;split<;>simp only[x6]<;>omega
end
section
open Go.RowKit
abbrev GM:=List (Int×List Int)
abbrev mh:Int→Int→Bool:=fun x y=>decide (x=y)
def bL8(N:Nat):Mem:=⟨fun b=>b<N,fun b=>N≤b⟩
def Ff(N:Nat)(w:World)(v:Value)(xs:List Int):Prop:=aH (.own (.int .i64)) xs w (bL8 N) [v]
structure zj(N B:Nat)(w:World)(es:GM)(ay:Array MapEntry)(clock:Nat):Prop where
 obj:w.heap[B]?=some (.map ay clock)
 bir:ru ay clock
 size:ay.size=es.length
 row: ∀(i:Nat)(y:Int×List Int),es[i]?=some y→ ∃e:MapEntry,ay[i]?=some e∧e.key= .int .i64 y.1∧(IntKind.i64.min≤y.1∧y.1≤IntKind.i64.max)∧Ff N w e.val y.2
 Z0: ∀(i j:Nat)(e f:MapEntry)(g:Nat),i≠j→ay[i]?=some e→ay[j]?=some f→aM e.val=some g→aM f.val≠some g
 NB:B<N
theorem Ff.block {N:Nat} {w:World} {v:Value} {xs:List Int} (h:Ff N w v xs) {g:Nat} (hg:aM v=some g):N≤g∧g<w.heap.size:=by
 obtain⟨u,hu,_,h⟩:=h;injection hu with hu;subst hu;rcases h with⟨rfl,_⟩|⟨g',o,cap,cur,e,rfl,_,_,_,hO,hh,_⟩;(·simp[aM]at hg);·simp only[aM,y5]at hg;subst hg;exact⟨hO,(z7 hh).1⟩
theorem ep.same {w w':World} {g o:Nat} {cs:List Value} (h:w'.heap[g]?=w.heap[g]?)(hc:ep w g o cs):ep w' g o cs:=fun j v hj=>by have:=hc j v hj;simp only[World.cell?,h]at this⊢;exact this
theorem Ff.oH {N:Nat} {w w':World} {v:Value} {xs:List Int} (h:Ff N w v xs)(hk: ∀g,aM v=some g→w'.heap[g]?=w.heap[g]?):Ff N w' v xs:=by
 obtain⟨u,hu,hl,h⟩:=h;injection hu with hu;subst hu;refine⟨v,rfl,hl,?_⟩;rcases h with h|⟨g,o,cap,cur,e,rfl,h1,h2,h3,h4,hh,h5,h6⟩;(·exact .inl h);·have hw:=hk g rfl;refine .inr ⟨g,o,cap,cur,e,rfl,h1,h2,h3,h4,by rw[hw];exact hh,h5,fun i y hy=>?_⟩;obtain⟨cs,c1,c2,c3⟩:=h6 i y hy;exact⟨cs,c1,c2.same hw,c3⟩
theorem Ff.data {N:Nat} {w:World} {v:Value} {xs:List Int} (h:Ff N w v xs) {M:Mem} (hM: ∀g,aM v=some g→M.S g):aH (.sl (.int .i64)) xs w M [v]:=by
 obtain⟨u,hu,hl,h⟩:=h;injection hu with hu;subst hu;rcases h with⟨rfl,rfl⟩|⟨g,o,cap,cur,e,rfl,h1,h2,h3,h4,hh,h5,h6⟩;(·exact⟨none,0,rfl,x8,v6,.inl rfl⟩)
 ·exact⟨_,cap,rfl,h1,h2,.inr ⟨g,o,rfl,hM g rfl,fun i y hy=>by obtain⟨cs,c1,c2,c3⟩:=h6 i y hy;exact⟨cs,c1,c2,c3⟩⟩⟩
theorem zj.oH {N B:Nat} {w w':World} {es:GM} {ay:Array MapEntry} {clock:Nat} (h:zj N B w es ay clock)(hB:w'.heap[B]?=w.heap[B]?)(hr: ∀(i:Nat)(e:MapEntry),ay[i]?=some e→ ∀g,aM e.val=some g→w'.heap[g]?=w.heap[g]?):zj N B w' es ay clock:=⟨by rw[hB];exact h.obj,h.bir,h.size,fun i y hy=>by obtain⟨e,e1,e2,e3,e4⟩:=h.row i y hy;exact⟨e,e1,e2,e3,e4.oH (hr i e e1)⟩,h.Z0,h.NB⟩
theorem zj.vw {N B:Nat} {w:World} {es:GM} {ay:Array MapEntry} {clock:Nat} (h:zj N B w es ay clock) {i:Nat} {e:MapEntry} (he:ay[i]?=some e) {g:Nat} (hg:aM e.val=some g):N≤g∧g<w.heap.size:=by
 have hi:=(z7 he).1;obtain⟨y,hy⟩: ∃y,es[i]?=some y:=au (by rw[←h.size];exact hi);obtain⟨f,f1,_,_,f4⟩:=h.row i y hy;rw[he]at f1;injection f1 with f1
 subst f1;exact f4.block hg
theorem zj.Iu {N B:Nat} {w w':World} {es:GM} {ay:Array MapEntry} {clock:Nat} (h:zj N B w es ay clock)(hk: ∀g,g<w.heap.size→w'.heap[g]?=w.heap[g]?):zj N B w' es ay clock:=h.oH (hk B (by have:=z7 h.obj;exact this.1)) fun i e he g hg=>hk g (h.vw he hg).2
def zk:Mem:=⟨fun _=>True,fun _=>True⟩
theorem zj.bL9 {N B:Nat} {w:World} {es:GM} {ay:Array MapEntry} {clock:Nat} (h:zj N B w es ay clock):oO w zk (.int .i64) (.sl (.int .i64)) es ay.toList:=qk (K:=.int .i64) (V:=.sl (.int .i64)) (w:=w) (M:=zk) es ay.toList (by simpa using h.size) fun i y hy=>by obtain⟨e,e1,e2,e3,e4⟩:=h.row i y hy;exact⟨e,[.int .i64 y.1],[e.val],by simpa using e1,e2,⟨rfl,e3⟩,rfl,e4.data (M:=zk) fun _ _=>trivial⟩
theorem sA {k:Int} (hk:IntKind.i64.min≤k∧k≤IntKind.i64.max)(w:World)(M:Mem):dc (.int .i64) k w M (.int .i64 k):=⟨rfl,hk⟩
theorem XX:Tryz.prog.underlying 116=some (.map 3 41):=by kernel_rfl
theorem bV5:Tryz.prog.underlying 3=some (.int .i64):=by kernel_rfl
theorem bM0:Ca env 3 (.int .i64)=true:=rfl
theorem bu4(w:World):(zeroValue 41).run Tryz.prog w= .ok (.slice none 0 0) w:=by kernel_rfl
def Ba(es:GM)(ay:Array MapEntry)(k:Int):Value:=match ia mh es k with|some i=>(match ay[i]? with|some e=>e.val|none=>.slice none 0 0)|none=>.slice none 0 0
theorem zj.lookup {N B:Nat} {w:World} {es:GM} {ay:Array MapEntry} {clock:Nat} (h:zj N B w es ay clock) {k:Int} (hk:IntKind.i64.min≤k∧k≤IntKind.i64.max):(Instr.lookup 116 (.map (some B)) (.int .i64 k) false).run Tryz.prog w= .ok (Ba es ay k) w:=by
 obtain⟨res,hfind,hfound⟩:=oQ ae (K:=.int .i64) (V:=.sl (.int .i64)) (kt:=3) (w:=w) (M:=zk) rfl bM0 (sA hk w zk) es ay.toList h.bL9;have hck: ∀em,(Instr.checkKey em 10000 3 (.int .i64 k)).run Tryz.prog w= .ok () w:=fun em=>mn ae (w:=w) (M:=zk) 9999 (.int .i64) 3 k _ rfl (by trivial) (sA hk w zk) (by decide) em
 have hrun:=ql (P:=Tryz.prog) (w:=w) (ok:=false) XX (.inr ⟨B,ay,clock,rfl,h.obj,rfl⟩) hck hfind (bu4 w);rw[hrun];simp only[Bool.false_eq_true,if_false];congr 1;unfold ib at hfound
 unfold Ba;have hE:ia (fO (.int .i64)) es k=ia mh es k:=rfl;rw[hE]at hfound;cases hm:ia mh es k with|none=>rw[hm]at hfound;rw[hfound];rfl|some i=>rw[hm]at hfound;obtain⟨e,he,rfl⟩:=hfound;(have he':ay[i]?=some e:=by simpa using he);simp only[he',rY]
def nk(es:GM)(k:Int):List Int:=(aN mh es k).getD []
theorem zj.own {N B:Nat} {w:World} {es:GM} {ay:Array MapEntry} {clock:Nat} (h:zj N B w es ay clock)(k:Int):Ff N w (Ba es ay k) (nk es k):=by
 unfold Ba nk;rw[tA];cases hm:ia mh es k with|none=>exact⟨_,rfl,by simp,.inl ⟨rfl,rfl⟩⟩|some i=>obtain⟨p,hp,_⟩:=wM _ _ _ _ hm;obtain⟨e,e1,_,_,e4⟩:=h.row i p hp;simp only[e1,Option.bind_some,hp,Option.map_some,Option.getD_some];exact e4
theorem zj.Iv {N B:Nat} {w:World} {es:GM} {ay:Array MapEntry} {clock:Nat} (_h:zj N B w es ay clock) {k:Int} {g:Nat} (hg:aM (Ba es ay k)=some g): ∃(i:Nat)(e:MapEntry),ia mh es k=some i∧ay[i]?=some e∧aM e.val=some g:=by
 unfold Ba at hg;cases hm:ia mh es k with|none=>simp[hm,aM]at hg|some i=>simp only[hm]at hg;cases he:ay[i]? with|none=>simp[he,aM]at hg|some e=>simp only[he]at hg;exact⟨i,e,rfl,he,hg⟩
theorem zj.store {N B:Nat} {w w2:World} {es:GM} {ay:Array MapEntry} {clock:Nat} (h:zj N B w es ay clock) {k:Int} (hk:IntKind.i64.min≤k∧k≤IntKind.i64.max) {v':Value} {ys:List Int} (hv:Ff N w2 v' ys)(hg:eP w w2 (aM (Ba es ay k)))(hb: ∀g,aM v'=some g→aM (Ba es ay k)=some g∨w.heap.size≤g): ∃w3 ents' clock',(Instr.mapUpdate 116 (.map (some B)) (.int .i64 k) v').run Tryz.prog w2= .ok () w3∧zj N B w3 (cU mh es k ys) ents' clock'∧eP w2 w3 (some B):=by
 have hBlt:B<w.heap.size:=(z7 h.obj).1;(have hBrow:some B≠aM (Ba es ay k):=fun e=>by obtain⟨i,f,_,hf,hb'⟩:=h.Iv e.symm;have:=(h.vw hf hb').1;have:=h.NB;omega)
 (have hobj2:w2.heap[B]?=some (.map ay clock):=by rw[hg.block B hBlt hBrow];exact h.obj);(have stay: ∀(i:Nat)(e:MapEntry),ay[i]?=some e→ia mh es k≠some i→ ∀g,aM e.val=some g→w2.heap[g]?=w.heap[g]?:=fun i e he hne g hgb=>by refine hg.block g (h.vw he hgb).2 fun e'=>?_;obtain⟨j,f,hm,hf,hb'⟩:=h.Iv e'.symm;exact h.Z0 i j e f g (fun e=>hne (by rw[hm,e])) he hf hgb hb')
 (have apart: ∀(i:Nat)(e:MapEntry),ay[i]?=some e→ia mh es k≠some i→ ∀g,aM e.val=some g→aM v'≠some g:=fun i e he hne g hgb hv'=>by rcases hb g hv' with h1|h1;(·obtain⟨j,f,hm,hf,hb'⟩:=h.Iv h1;exact h.Z0 i j e f g (fun e=>hne (by rw[hm,e])) he hf hgb hb');·have:=(h.vw he hgb).2;omega)
 obtain⟨res,hnow,hfound⟩:=wN (K:=.int .i64) (V:=.sl (.int .i64)) (d:=.int .i64) (w:=w) (M:=zk) rfl (sA hk w zk) es ay.toList 0 h.bL9;(have hfind:(Instr.findKey 3 (.int .i64 k) ay.toList).run Tryz.prog w2= .ok res w2:=by simp[Instr.findKey,run_underlying bV5,hnow])
 have hck: ∀em,(Instr.checkKey em 10000 3 (.int .i64 k)).run Tryz.prog w2= .ok () w2:=fun em=>mn ae (w:=w2) (M:=zk) 9999 (.int .i64) 3 k _ rfl (by trivial) (sA hk w2 zk) (by decide) em
 have hstay:(Instr.keyThatStays (.int .i64 k) (.int .i64 k)).run Tryz.prog w2= .ok (.int .i64 k) w2:=qj (w:=w2) (M:=zk) (K:=.int .i64) rfl rfl (sA hk w2 zk);have hv'B: ∀g,aM v'=some g→N≤g:=fun g hg'=>(hv.block hg').1
 (have fin: ∀(ents':Array MapEntry)(clock':Nat),(Instr.mapUpdate 116 (.map (some B)) (.int .i64 k) v').run Tryz.prog w2= .ok () { w2 with heap:=w2.heap.setIfInBounds B (.map ents' clock') } →ru ents' clock'→ents'.size=(cU mh es k ys).length→(∀(i:Nat)(e:MapEntry),ents'[i]?=some e→(e.val=v'∧e.key= .int .i64 k∧(cU mh es k ys)[i]?=some (k,ys)∧(ia mh es k=some i∨ia mh es k=none∧i=es.length))∨(ay[i]?=some e∧ia mh es k≠some i∧(cU mh es k ys)[i]?=es[i]?))→ ∃w3 ents' clock',(Instr.mapUpdate 116 (.map (some B)) (.int .i64 k) v').run Tryz.prog w2= .ok () w3∧zj N B w3 (cU mh es k ys) ents' clock'∧eP w2 w3 (some B):=by intro ents' clock' hrun hb' hsz hent;have hgr:=nP w2 B (.map ents' clock');(have hold: ∀g,N≤g→({ w2 with heap:=w2.heap.setIfInBounds B (.map ents' clock') } :World).heap[g]?=w2.heap[g]?:=fun g hg'=>by have:=h.NB;simp only[Array.getElem?_setIfInBounds];rw[if_neg v6]);refine⟨_,ents',clock',hrun,⟨(MapKept.heap_set hobj2).1,hb',hsz,fun i y hy=>?_,fun i j e f g hij he hf hge hgf=>?_,h.NB⟩,hgr⟩;(·obtain⟨e,he⟩: ∃e,ents'[i]?=some e:=⟨_,Array.getElem?_eq_getElem (by rw[hsz];exact(z6 hy).1)⟩;refine⟨e,he,?_⟩;rcases hent i e he with⟨h1,h2,h3,_⟩|⟨h1,h2,h3⟩;(·rw[h3]at hy;injection hy with hy;subst hy;refine⟨h2,hk,?_⟩;rw[h1];exact hv.oH fun g hg'=>hold g (hv'B g hg'));·rw[h3]at hy;obtain⟨f,f1,f2,f3,f4⟩:=h.row i y hy;rw[h1]at f1;injection f1 with f1;subst f1;exact⟨f2,f3,f4.oH fun g hg'=>(hold g (h.vw h1 hg').1).trans (stay i e h1 h2 g hg')⟩);·rcases hent i e he with⟨h1,_,h3,h4⟩|⟨h1,h2,_⟩<;>rcases hent j f hf with⟨k1,_,k3,k4⟩|⟨k1,k2,_⟩;(·rcases h4 with h4|⟨h4,h5⟩<;>rcases k4 with k4|⟨k4,k5⟩;(·rw[h4]at k4;injection k4 with k4;exact hij k4);(·rw[h4]at k4;cases k4);(·rw[h4]at k4;cases k4);·omega);(·rw[h1]at hge;exact apart j f k1 k2 g hgf hge);(·rw[k1]at hgf;exact apart i e h1 h2 g hge hgf);·exact h.Z0 i j e f g hij h1 k1 hge hgf)
 have hEq:ia (fO (.int .i64)) es k=ia mh es k:=rfl;unfold ib at hfound;rw[hEq]at hfound;cases hm:ia mh es k with|none=>rw[hm]at hfound;simp only at hfound;subst hfound;(have hms:cU mh es k ys=es++ [(k,ys)]:=by rw[oP,hm]);refine fin (ay.push ⟨.int .i64 k,v',clock⟩) (clock+1) ?_ ?_ ?_ ?_;(·simp[Instr.mapUpdate,run_underlying XX,MapKept.run_getObj_map hobj2,hck,hfind,MapKept.run_setObj_map _ hobj2]);(·obtain⟨hc,hb1⟩:=h.bir;subst hc;refine⟨by simp,fun i e hi=>?_⟩;rw[Array.getElem?_push]at hi;split at hi;(·rename_i hil;injection hi with hi;subst hi;exact hil.symm);·exact hb1 i e hi);(·rw[hms];simp[h.size]);(·intro i e hi;rw[Array.getElem?_push]at hi;rw[hms];split at hi;(·rename_i hil;injection hi with hi;subst hi;(have:i=es.length:=by rw[hil,h.size]);subst this;exact .inl ⟨rfl,rfl,by simp,.inr ⟨hm,rfl⟩⟩);·have hil:=(z7 hi).1;exact .inr ⟨hi,by rw[hm];simp,by rw[List.getElem?_append_left (by rw[←h.size];exact hil)]⟩)|some j=>rw[hm]at hfound;obtain⟨e,he,rfl⟩:=hfound;obtain⟨yy,hyy,heq⟩:=wM _ _ _ _ hm;(have heq:k=yy.1:=by simpa using heq);(have he':ay[j]?=some e:=by simpa using he);obtain⟨e2,g1,g2,_,_⟩:=h.row j yy hyy;rw[he']at g1;injection g1 with g1;subst g1;(have hkeq:e.key= .int .i64 k:=by rw[g2,heq]);(have hms:cU mh es k ys=es.set j (k,ys):=by rw[oP,hm]);have hjl:j<es.length:=(z6 hyy).1;refine fin (ay.modify j fun e=> { e with key:=.int .i64 k,val:=v' }) clock ?_ ?_ ?_ ?_;(·simp[Instr.mapUpdate,run_underlying XX,MapKept.run_getObj_map hobj2,hck,hfind,he',hkeq,hstay,MapKept.run_setObj_map _ hobj2]);(·obtain⟨hc,hb1⟩:=h.bir;refine⟨by simpa using hc,fun i e2 hi=>?_⟩;rw[Array.getElem?_modify]at hi;split at hi;(·rename_i hij;subst hij;rw[he']at hi;simp only[Option.map_some,y5]at hi;subst hi;exact hb1 _ e he');·exact hb1 i e2 hi);(·rw[hms];simp[h.size]);·intro i f hi;rw[Array.getElem?_modify]at hi;rw[hms];split at hi;(·rename_i hij;subst hij;rw[he']at hi;simp only[Option.map_some,y5]at hi;subst hi;exact .inl ⟨rfl,rfl,by rw[List.getElem?_set];simp[hjl],.inl hm⟩);·rename_i hij;exact .inr ⟨hi,by rw[hm];intro e;injection e with e;exact hij e,by rw[List.getElem?_set,if_neg hij]⟩
theorem zj.put {N B:Nat} {w:World} {es:GM} {ay:Array MapEntry} {clock:Nat} (h:zj N B w es ay clock)(hN:N≤w.heap.size) {k x:Int} (hk:IntKind.i64.min≤k∧k≤IntKind.i64.max)(hx:IntKind.i64.min≤x∧x≤IntKind.i64.max)(hlen:(nk es k).length≤1000): ∃v v' w2 w3 ents' clock',(Instr.lookup 116 (.map (some B)) (.int .i64 k) false).run Tryz.prog w.drew= .ok v w.drew∧(Instr.lookup 116 (.map (some B)) (.int .i64 k) false).run Tryz.prog (w.alloc (.cells #[.int .i64 x] 3)).drew= .ok v (w.alloc (.cells #[.int .i64 x] 3)).drew∧(Builtin.append_ #[41,41] 41 #[v,.slice (some ⟨w.heap.size,0,none⟩) 1 1]).run Tryz.prog (w.alloc (.cells #[.int .i64 x] 3)).drew= .ok v' w2∧(Instr.mapUpdate 116 (.map (some B)) (.int .i64 k) v').run Tryz.prog w2= .ok () w3∧zj N B w3 (cU mh es k (nk es k++ [x])) ents' clock'∧(∃a n c,v= .slice a n c)∧(∃a n c,v'= .slice a n c)∧w2.os=w.os∧w2.tape=w.tape∧w2.output=w.output∧w.heap.size≤w2.heap.size∧w3.os=w.os∧w3.tape=w.tape∧w3.output=w.output∧w.heap.size≤w3.heap.size∧(∀j,j<w.heap.size→(∀(i:Nat)(e:MapEntry),ay[i]?=some e→aM e.val≠some j)→w2.heap[j]?=w.heap[j]?∧(j≠B→w3.heap[j]?=w.heap[j]?)):=by
 have h1:zj N B (w.alloc (.cells #[.int .i64 x] 3)).drew es ay clock:=h.Iu fun g hg=>Lib.alloc_old w _ g hg;have hown:=h1.own k;have hsz1:(w.alloc (.cells #[.int .i64 x] 3)).drew.heap.size=w.heap.size+1:=Array.size_push _
 (have hcell:(w.alloc (.cells #[.int .i64 x] 3)).drew.cell? ⟨w.heap.size,0,none⟩=some (.int .i64 x):=by have:(w.alloc (.cells #[.int .i64 x] 3)).drew.heap[w.heap.size]?=some (.cells #[.int .i64 x] 3 (0,0)):=(MapKept.heap_alloc w _).1;rw[Lib.cell_of_heap this];rfl)
 have hsrc:Src Tryz.prog (Ty.int .i64).cells 41 (.slice (some ⟨w.heap.size,0,none⟩) 1 1) 1 [.int .i64 x] (w.alloc (.cells #[.int .i64 x] 3)).drew:=Src.ofSlice _ (tx:=41) (e':=3) (by kernel_rfl) _ 1 1 _ rfl (fun j u hj=>by cases j with|zero=>simp at hj;subst hj;(first|exact hcell|(simp[Addr.add]))|succ j=>simp at hj) (by simp[Value.oneCell'])
 obtain⟨v',w2,a1,a2,a3,a4,a5,_⟩:=mP ae (t:=41) (tx:=41) (ty:=41) (T:=.int .i64) rfl (w:=(w.alloc (.cells #[.int .i64 x] 3)).drew) (M:=bL8 N) (v:=Ba es ay k) (xs:=nk es k) (ys:=[x]) rfl hown (fun b hb=>by rw[hsz1];exact Nat.lt_of_lt_of_le hb v6) (fun g hg=>by show N≤g;omega) (x:=.slice (some ⟨w.heap.size,0,none⟩) 1 1) (news:=[.int .i64 x]) hsrc (fun i y hy=>by cases i with|zero=>simp at hy;subst hy;exact⟨rfl,hx⟩|succ i=>simp at hy) (by simp;omega)
 obtain⟨w3,ents',clock',b1,b2,b3⟩:=h1.store hk (v':=v') (ys:=nk es k++ [x]) a2 a3 (fun g hg=>a5 g hg);(have hvs: ∃a n c,Ba es ay k= .slice a n c:=by obtain⟨u,hu,_,hh⟩:=hown;injection hu with hu;subst hu;rcases hh with⟨hh,_⟩|⟨_,_,_,_,_,hh,_⟩<;>exact⟨_,_,_,hh⟩)
 refine⟨Ba es ay k,v',w2,w3,ents',clock',(h.Iu (w':=w.drew) fun g _=>rfl).lookup hk,h1.lookup hk,a1,b1,b2,hvs,a4,a3.os,a3.tape,a3.output,?_,b3.os.trans a3.os,b3.tape.trans a3.tape,b3.output.trans a3.output,?_,fun j hj hjr=>?_⟩
 (·have:=a3.size;omega);(·have:=a3.size;have:=b3.size;omega);·have e2:w2.heap[j]?=w.heap[j]?:=(a3.block j v6 fun e=>by obtain⟨i,f,_,hf,hb'⟩:=h.Iv e.symm;exact hjr i f hf hb').trans (Lib.alloc_old w _ j hj);exact⟨e2,fun hjB=>(b3.block j (by have:=a3.size;omega) (fun e=>by injection e with e;exact hjB e)).trans e2⟩
end
section
open Go.RowKit
def sB:List Rl→Nat→GM→GM|[],_,m=>m|r::rs,i,m=>sB rs (i+1) (cU mh m r.1 (nk m r.1++ [(i:Int)]))
def fB(rs:List Rl):GM:=sB rs 0 []
theorem Lc(m:GM)(a b:Int)(v:List Int):nk (cU mh m a v) b=if b=a then v else nk m b:=by
 unfold nk;induction m with|nil=>simp only[cU,aN];by_cases h:b=a<;>simp[h,mh]|cons p m ih=>by_cases h:a=p.1;(·simp only[cU,mh,h,decide_true,cond_true,aN];by_cases h2:b=p.1<;>simp[h2]);·simp only[cU,mh,h,decide_false,cond_false,aN];by_cases h2:b=p.1;(·subst h2;have: ¬p.1=a:=fun e=>h e.symm;simp[this]);·simp only[h2,decide_false,cond_false];exact ih
theorem Bb {P:Program} {ops:Array Oper} {o:Oper} {a:Act} {w w':World} {K:Act→World→Prop} {Q:Exit→Act→World→Prop} {E:Prop} (hg:o.guard=none)(s x:Operand)(t:TypeId)(hop:o.op=Op.call { callee:=Callee.builtin Builtin.append,args:= #[s,x],argTypes:= #[t,t] })(vs vx v':Value)(hs:a.eval s=vs)(hx:a.eval x=vx)(hrun:(Builtin.append_ #[t,t] o.type #[vs,vx]).run P w= .ok v' w')(hK:K (a.put o.dst v') w'):if Region.wanted o (yielded ops a.tmps)=true then Oper.wp P o a w K Q else E:=by
 (have hw:Region.wanted o (yielded ops a.tmps)=true:=by simp[Region.wanted,hg]);rw[if_pos hw];unfold Oper.wp;simp[execOp,hop,resolve,invoke,builtin,hs,hx,hrun,Result.andThen]
 exact hK
theorem Ld {N:Nat} {w w':World} (h:Below N w w')(hN:N≤w'.heap.size)(ob:Obj):Below N w (w'.alloc ob):=h.alloc hN ob
theorem Og {N:Nat} {w w':World} (h:Below N w w') {g o:Nat} (hg:g<N):w'.cell? ⟨g,o,none⟩=w.cell? ⟨g,o,none⟩:=by simp only[World.cell?,h.block g hg]
theorem Iw(n a:Int)(ad:Option Addr)(g o cap:Nat)(w:World)(rs:List Rl)(hlen:rs.length≤64)(had:0<rs.length→ad=some ⟨g,o,none⟩∧g<w.heap.size)(hc: ∀(k:Nat)(r:Rl),rs[k]?=some r→w.cell? ⟨g,o+k*5,none⟩=some (.int .i64 r.1)∧w.cell? ⟨g,o+k*5+1,none⟩=some (.int .i64 r.2.1)∧w.cell? ⟨g,o+k*5+2,none⟩=some (.string ⟨r.2.2.1.toArray⟩)∧w.cell? ⟨g,o+k*5+3,none⟩=some (.string ⟨r.2.2.2.1.toArray⟩)∧w.cell? ⟨g,o+k*5+4,none⟩=some (.int .i64 r.2.2.2.2))(hr1: ∀r,r∈rs→IntKind.i64.min≤r.1∧r.1≤IntKind.i64.max)(hfit: ∀(w1:World)(r:Rl),r∈rs→Below w.heap.size w w1→w.heap.size≤w1.heap.size→Calls Tryz.prog 53 #[.agg #[.int .i64 n,.int .u8 a,.slice ad rs.length cap],.agg #[.int .i64 r.1,.int .i64 r.2.1,.string ⟨r.2.2.1.toArray⟩,.string ⟨r.2.2.2.1.toArray⟩,.int .i64 r.2.2.2.2]] w1 fun e w'=>e= .returned (.bool true)∧Below w1.heap.size w1 w'):Calls Tryz.prog 61 #[.agg #[.int .i64 n,.int .u8 a,.slice ad rs.length cap]] w fun e w'=> ∃ay clock,e= .returned (.map (some (w.heap.size+1)))∧zj (w.heap.size+2) (w.heap.size+1) w' (fB rs) ay clock∧Below w.heap.size w w'∧w.heap.size+2≤w'.heap.size:=by
 have hmm:= @run_makeMap Tryz.prog;generalize hN:w.heap.size=N at*;generalize hL:rs.length=len at*;go_enter Tryz.func61,Tryz.ntmps61;go_wp2;go_loopw[10](fun i wr=> ∃(k:Nat)(m:GM)(ay:Array MapEntry)(clock:Nat),k≤len∧i= .int .i64 k∧wr.heap[N]?=some (.cells #[.int .i64 n,.int .u8 a,.slice ad len cap] 29 (0,0))∧zj (N+2) (N+1) wr m ay clock∧Below N w wr∧sB (rs.drop k) k m=fB rs∧(∀b,(nk m b).length≤k))(fun i _=>len-(intOf i).toNat)
 (case atStart=>refine⟨0,[],#[],0,x9,rfl,?_,⟨?_,⟨rfl,fun i e h=>by simp at h⟩,rfl,fun i y h=>by simp at h,fun i j e f g _ h=>by simp at h,v6⟩,?_,rfl,fun b=>x8⟩;(·have:(w.alloc (.cells #[.int .i64 n,.int .u8 a,.slice ad len cap] 29)).heap[w.heap.size]?=_:=(MapKept.heap_alloc w _).1;rw[←hN];refine(Lib.alloc_old _ _ _ ?_).trans this;show w.heap.size<(w.heap.push _).size;rw[Array.size_push];omega);(·(have e:(w.alloc (.cells #[.int .i64 n,.int .u8 a,.slice ad len cap] 29)).heap.size=N+1:=by rw[←hN];exact Array.size_push _);have:=(MapKept.heap_alloc (w.alloc (.cells #[.int .i64 n,.int .u8 a,.slice ad len cap] 29)) (.map #[] 0)).1;rw[e]at this;exact this);·rw[←hN];refine((Below.refl _ _).alloc (x8) _).alloc ?_ _;show w.heap.size≤(w.heap.push _).size;rw[Array.size_push];omega)
 case round=>obtain⟨k,m,ay,clock,hk,rfl,hbox,hG,hB,hlv,hgl⟩:=hrel;have hsz:N+1<wr.heap.size:=(z7 hG.obj).1;by_cases hlt:k<len;(·obtain⟨r,hr⟩: ∃r,rs[k]?=some r:=⟨_,List.getElem?_eq_getElem v6⟩;have hrm:=x7 hr;obtain⟨rfl,hgN⟩:=had v6;obtain⟨r1,r2,ri,ro,rc⟩:=r;obtain⟨c0,c1,c2,c3,c4⟩:=hc _ _ hr;dsimp only at c0 c1 c2 c3 c4;rw[←Og hB hgN]at c0 c1 c2 c3 c4;(have b0:wr.cell? ⟨N,0,none⟩=some (.int .i64 n):=by rw[Lib.cell_of_heap hbox];rfl);(have b1:wr.cell? ⟨N,1,none⟩=some (.int .u8 a):=by rw[Lib.cell_of_heap hbox];rfl);(have b2:wr.cell? ⟨N,2,none⟩=some (.slice (some ⟨g,o,none⟩) len cap):=by rw[Lib.cell_of_heap hbox];rfl);(have iG: ∀ob j v,wr.cell? ⟨N,j,none⟩=some v→(wr.alloc ob).cell? ⟨N,j,none⟩=some v:=by intro ob j v h;have:(wr.alloc ob).heap[N]?=wr.heap[N]?:=Lib.alloc_old wr ob _ v6;simp only[World.cell?,this]at h⊢;exact h);have d0:=fun ob=>iG ob _ _ b0;have d1:=fun ob=>iG ob _ _ b1;have d2:=fun ob=>iG ob _ _ b2;clear iG;go_wp2_with(go_at_call 53;refine(hfit _ _ hrm (Ld hB v6 _) (by show N≤(wr.heap.push _).size;rw[Array.size_push];omega)).mono ?_);intro e w6 he6 hb6;subst he6;dsimp only;(have hsz6:wr.heap.size+1≤w6.heap.size:=by have:=hb6.size;rwa[show(wr.alloc (.cells #[.int .i64 r1,.int .i64 r2,.string ⟨ri.toArray⟩,.string ⟨ro.toArray⟩,.int .i64 rc] 60)).heap.size=wr.heap.size+1 from Array.size_push _]at this);have old6: ∀j,j<wr.heap.size→w6.heap[j]?=wr.heap[j]?:=fun j hj=>(hb6.block j v6).trans (Lib.alloc_old wr _ j hj);have hG6:zj (N+2) (N+1) w6 m ay clock:=hG.Iu old6;have new6:w6.heap[wr.heap.size]?=some (.cells #[.int .i64 r1,.int .i64 r2,.string ⟨ri.toArray⟩,.string ⟨ro.toArray⟩,.int .i64 rc] 60 (0,0)):=(hb6.block _ v6).trans (MapKept.heap_alloc wr _).1;obtain⟨v,v',w7,w8,ents',clock',p1,p2,p3,p4,p5,⟨va,vn,vc,rfl⟩,⟨va',vn',vc',rfl⟩,q1,q2,q3,q4,q5,q6,q7,q8,q9⟩:=hG6.put (k:=r1) (x:=(k:Int)) v6 (hr1 _ hrm) ⟨by show(-9223372036854775808:Int)≤_;omega,by show _≤(9223372036854775807:Int);omega⟩ (by have:=hgl r1;omega);(have hrow: ∀(i:Nat)(e:MapEntry),ay[i]?=some e→aM e.val≠some wr.heap.size:=fun i e he hb=>by have:=(hG.vw he hb).2;omega);(have hrowN: ∀j,j<N+2→ ∀(i:Nat)(e:MapEntry),ay[i]?=some e→aM e.val≠some j:=fun j hj i e he hb=>by have:=(hG.vw he hb).1;omega);(have e0:w6.cell? ⟨wr.heap.size,0,none⟩=some (.int .i64 r1):=by rw[Lib.cell_of_heap new6];rfl);(have e1:(w6.alloc (.cells #[.int .i64 k] 3)).drew.cell? ⟨wr.heap.size,0,none⟩=some (.int .i64 r1):=by have:(w6.alloc (.cells #[.int .i64 k] 3)).drew.heap[wr.heap.size]?=_:=(Lib.alloc_old w6 _ _ v6).trans new6;rw[Lib.cell_of_heap this];rfl);(have e2:w7.cell? ⟨wr.heap.size,0,none⟩=some (.int .i64 r1):=by rw[Lib.cell_of_heap ((q9 wr.heap.size v6 hrow).1.trans new6)];rfl);have hb8: ∀j,j<N+1→w8.heap[j]?=wr.heap[j]?:=fun j hj=>((q9 j v6 (hrowN j v6)).2 v6).trans (old6 j v6);have hB8:Below N w w8:=⟨q5.trans (hb6.os.trans hB.os),q6.trans (hb6.tape.trans hB.tape),q7.trans (hb6.output.trans hB.output),by have:=hB.size;omega,fun j hj=>(hb8 j v6).trans (hB.block j hj)⟩;have hbox8:=(hb8 N v6).trans hbox;(have hlv8:sB (rs.drop (k+1)) (k+1) (cU mh m r1 (nk m r1++ [(k:Int)]))=fB rs:=by rw[drop_cons hr]at hlv;exact hlv);(have hgl8: ∀b,(nk (cU mh m r1 (nk m r1++ [(k:Int)])) b).length≤k+1:=fun b=>by rw[Lc];split;(·have:=hgl r1;simp only[y9,x6,List.length_nil];omega);·have:=hgl b;omega);clear q1 q2 q3 q4 q5 q6 q7 q8 q9 hb6 old6 hG6 hrow hrowN hG hgl hfit hlv new6 hb8 c0 c1 c2 c3 c4;go_wp2;go_region_law(refine Bb rfl (.tmp 24) (.tmp 26) 41 rfl _ _ _ rfl rfl p3 ?_);all_goals clear e0 e1 e2 p1 p2 p3 p4 b0 b1 b2 d0 d1 d2;go_wp2;go_roundw;(case rel=>exact⟨k+1,_,ents',clock',v6,by go_num,hbox8,p5,hB8,hlv8,hgl8⟩);case measure=>simp[intOf];omega);·(obtain rfl:k=len:=by omega);go_wp2;go_ret;rw[List.drop_of_length_le v6]at hlv;obtain rfl:m=fB rs:=hlv;exact⟨ay,clock,rfl,hG,hB,v6⟩
theorem XY(m:GM)(k:Int)(v:List Int):(cU mh m k v).length≤m.length+1:=by rw[oP];split<;>simp
theorem zl: ∀(rs:List Rl)(i:Nat)(m:GM),(sB rs i m).length≤m.length+rs.length|[],_,m=>x8|r::rs,i,m=>by have h:=zl rs (i+1) (cU mh m r.1 (nk m r.1++ [(i:Int)]));have h2:=XY m r.1 (nk m r.1++ [(i:Int)]);show(sB rs (i+1) (cU mh m r.1 (nk m r.1++ [(i:Int)]))).length≤_;simp only[x6];omega
theorem vy {n:Int} {r:Rl} (hn:n≤8)(h:cC n r=true):Qg n r=true:=by have:=bk h;simp only[Qg,KY,vZ,z8,decide_eq_true_eq];omega
theorem XZ {r:Rl} {w:World} {M:Mem} (h:(IntKind.i64.min≤r.1∧r.1≤IntKind.i64.max)∧(IntKind.i64.min≤r.2.1∧r.2.1≤IntKind.i64.max)∧r.2.2.1.length≤9223372036854775807∧r.2.2.2.1.length≤9223372036854775807∧(IntKind.i64.min≤r.2.2.2.2∧r.2.2.2.2≤IntKind.i64.max)):dc ba r w M (.agg #[.int .i64 r.1,.int .i64 r.2.1,.string ⟨r.2.2.1.toArray⟩,.string ⟨r.2.2.2.1.toArray⟩,.int .i64 r.2.2.2.2]):=⟨[.int .i64 r.1,.int .i64 r.2.1,.string ⟨r.2.2.1.toArray⟩,.string ⟨r.2.2.2.1.toArray⟩,.int .i64 r.2.2.2.2],rfl,[.int .i64 r.1],_,rfl,⟨rfl,h.1⟩,[.int .i64 r.2.1],_,rfl,⟨rfl,h.2.1⟩,[.string ⟨r.2.2.1.toArray⟩],_,rfl,⟨rfl,h.2.2.1⟩,[.string ⟨r.2.2.2.1.toArray⟩],_,rfl,⟨rfl,h.2.2.2.1⟩,rfl,h.2.2.2.2⟩
theorem GJ(s:bR)(hs:gw s):PC env 61 [⟨ai,s⟩] (.mp (.int .i64) (.sl (.int .i64))) (fB s.2.2):=by
 obtain⟨n,a,rs⟩:=s;have hl:=hs.len;have hr:=hs.right;have h8:=hs.n8;dsimp only at hl hr h8;intro w S vs hS hT hrep;obtain⟨v,r,rfl,hown,hv,hnil⟩:=hrep;simp only[qW]at hnil
 subst hnil;have hv0:=hv;obtain⟨cs,rfl,c1,c23,rfl,⟨rfl,hn⟩,c2,c3,rfl,⟨rfl,ha⟩,ad,cap,rfl,hlc,hcap,hrows⟩:=hv;dsimp only at hn ha hlc hrows;(have hnum: ∀r,r∈rs→(IntKind.i64.min≤r.1∧r.1≤IntKind.i64.max)∧(IntKind.i64.min≤r.2.1∧r.2.1≤IntKind.i64.max)∧r.2.2.1.length≤9223372036854775807∧r.2.2.2.1.length≤9223372036854775807∧(IntKind.i64.min≤r.2.2.2.2∧r.2.2.2.2≤IntKind.i64.max):=fun r hrm=>by have:=bk (hr r hrm);exact⟨ak v6 v6,ak v6 v6,v6,v6,ak v6 v6⟩)
 (have hfit: ∀(w1:World)(r:Rl),r∈rs→Below w.heap.size w w1→w.heap.size≤w1.heap.size→Calls Tryz.prog 53 #[.agg #[.int .i64 n,.int .u8 a,.slice ad rs.length cap],.agg #[.int .i64 r.1,.int .i64 r.2.1,.string ⟨r.2.2.1.toArray⟩,.string ⟨r.2.2.2.1.toArray⟩,.int .i64 r.2.2.2.2]] w1 fun e w'=>e= .returned (.bool true)∧Below w1.heap.size w1 w':=by intro w1 r hrm hb hsz;have hc:=Ob (n,a,rs) r;rw[vy h8 (hr r hrm)]at hc;refine(hc w1 S [.agg #[.int .i64 n,.int .u8 a,.slice ad rs.length cap],.agg #[.int .i64 r.1,.int .i64 r.2.1,.string ⟨r.2.2.1.toArray⟩,.string ⟨r.2.2.2.1.toArray⟩,.int .i64 r.2.2.2.2]] (fun b hb'=>Nat.lt_of_lt_of_le (hS b hb') hsz) (fun g hg=>by cases hg) ⟨_,_,rfl,hown,kD (M:=⟨S,fun g=>w.heap.size≤g⟩) (fun b hb'=>hb.block b (hS b hb')) (fun _ h=>h) hown hv0,_,_,rfl,rfl,XZ (hnum r hrm),rfl⟩).mono ?_;rintro e w'⟨v,rfl,⟨hb',_⟩,S',_,_,_,hv'⟩;(have:v= .bool true:=by obtain⟨hv'⟩:=hv';rfl);exact⟨by rw[this],hb'⟩)
 (have hgo: ∃g o,(0<rs.length→ad=some ⟨g,o,none⟩∧g<w.heap.size)∧ ∀(k:Nat)(r:Rl),rs[k]?=some r→w.cell? ⟨g,o+k*5,none⟩=some (.int .i64 r.1)∧w.cell? ⟨g,o+k*5+1,none⟩=some (.int .i64 r.2.1)∧w.cell? ⟨g,o+k*5+2,none⟩=some (.string ⟨r.2.2.1.toArray⟩)∧w.cell? ⟨g,o+k*5+3,none⟩=some (.string ⟨r.2.2.2.1.toArray⟩)∧w.cell? ⟨g,o+k*5+4,none⟩=some (.int .i64 r.2.2.2.2):=by rcases hrows with h|⟨g,o,hA,hSg,hrows⟩;(·exact⟨0,0,fun h'=>(by rw[h]at h';simp at h'),fun k r hk=>(by rw[h]at hk;simp at hk)⟩);·refine⟨g,o,fun _=>⟨hA,hS g hSg⟩,fun k r hk=>?_⟩;obtain⟨cs,h1,h2,h3⟩:=hrows k r hk;obtain⟨x1,y1,rfl,⟨rfl,_⟩,x2,y2,rfl,⟨rfl,_⟩,x3,y3,rfl,⟨rfl,_⟩,x4,y4,rfl,⟨rfl,_⟩,rfl,_⟩:=h3;exact⟨h2 0 _ rfl,h2 1 _ rfl,h2 2 _ rfl,h2 3 _ rfl,h2 4 _ rfl⟩)
 obtain⟨g,o,hg1,hg2⟩:=hgo;refine(Iw n a ad g o cap w rs hl hg1 hg2 (fun r hrm=>(hnum r hrm).1) hfit).mono ?_;rintro e w'⟨ay,clock,rfl,hG,hB,hsz⟩;have hll:=zl rs 0 []
 refine⟨_,rfl,⟨hB,fun h=>h.elim⟩,fun b=>S b∨(w.heap.size≤b∧b<w'.heap.size),fun b hb=>.inl hb,fun b hb=>?_,fun b hb=>?_,?_⟩;(·rcases hb with hb|hb;(·exact .inl hb);·exact .inr hb.1)
 (·rcases hb with hb|hb;(·exact Nat.lt_of_lt_of_le (hS b hb) hB.size);·exact hb.2);·refine⟨by show(fB rs).length≤_;unfold fB;simp only[List.length_nil]at hll;omega,.inr ⟨w.heap.size+1,ay,clock,rfl,.inr ⟨v6,v6⟩,hG.obj,hG.bir,hG.size,fun i y hy=>?_⟩⟩;obtain⟨e,e1,e2,e3,e4⟩:=hG.row i y hy;exact⟨e,[.int .i64 y.1],[e.val],e1,e2,⟨rfl,e3⟩,rfl,e4.data fun g hg=>by have:=e4.block hg;exact .inr ⟨v6,this.2⟩⟩
end
section
theorem GK(k:Int): ∀(rs:List Rl)(i:Nat)(m:GM),nk (sB rs i m) k=nk m k++jx k rs i|[],_,m=>(by simp only[sB,jx,List.append_nil])|r::rs,i,m=>by simp only[sB];rw[GK k rs (i+1) _,Lc];have e:jx k (r::rs) i=if r.1=k then(i:Int)::jx k rs (i+1)else jx k rs (i+1):=rfl;rw[e];by_cases h:r.1=k;(·rw[if_pos h.symm,if_pos h,h,List.append_assoc];rfl);·rw[if_neg (fun e=>h e.symm),if_neg h]
theorem DD(rs:List Rl)(k:Int):nk (fB rs) k=jx k rs 0:=by unfold fB;rw[GK];rfl
theorem GL(k:Int)(v:List Int): ∀(m:GM),(cU mh m k v).map (·.1)=if k∈m.map (·.1)then m.map (·.1)else m.map (·.1)++ [k]|[]=>rfl|p::m=>by have ih:=GL k v m;simp only[cU];by_cases h:k=p.1;(·(have:mh k p.1=true:=by simp only[mh,h,decide_true]);rw[this,cond_true,if_pos (by simp[h])];simp[h]);·(have:mh k p.1=false:=by simp only[mh,h,decide_false]);rw[this,cond_false];simp only[List.map_cons,ih,List.mem_cons,h,false_or];split<;>rfl
theorem SB {k:Int} {v:List Int} {m:GM} (h:(m.map (·.1)).Nodup):((cU mh m k v).map (·.1)).Nodup:=by
 rw[GL];split;(·exact h);·rename_i hk;rw[List.nodup_append];exact⟨h,by simp,fun a ha b hb=>by simp at hb;subst hb;exact fun e=>hk (e▸ha)⟩
theorem GN: ∀(rs:List Rl)(i:Nat)(m:GM),(m.map (·.1)).Nodup→((sB rs i m).map (·.1)).Nodup|[],_,_,h=>h|_::rs,i,m,h=>GN rs (i+1) _ (SB h)
theorem Lf: ∀ {m:GM} {x:Int×List Int},(m.map (·.1)).Nodup→x∈m→aN mh m x.1=some x.2|p::m,x,h,hx=>by simp only[List.map_cons,List.nodup_cons]at h;simp only[aN];rcases wl hx with rfl|hx;(·(have:mh x.1 x.1=true:=by simp only[mh,decide_true]);rw[this,cond_true]);·have hne:x.1≠p.1:=fun e=>h.1 (by rw[←e];exact List.mem_map_of_mem hx);(have:mh x.1 p.1=false:=by simp only[mh,hne,decide_false]);rw[this,cond_false];exact Lf h.2 hx
theorem Lg: ∀ {m:GM} {k:Int} {v:List Int},aN mh m k=some v→(k,v)∈m|p::m,k,v,h=>by simp only[aN]at h;by_cases e:k=p.1;(·(have:mh k p.1=true:=by simp only[mh,e,decide_true]);rw[this,cond_true]at h;injection h with h;subst h;subst e;simp);·(have:mh k p.1=false:=by simp only[mh,e,decide_false]);rw[this,cond_false]at h;exact y7 _ (Lg h)
theorem DE {rs:List Rl} {x:Int×List Int} (h:x∈fB rs):x.2=jx x.1 rs 0:=by have hf:=Lf (GN rs 0 [] (by simp)) h;rw[←DD];unfold nk;rw[show fB rs=sB rs 0 []from rfl,hf];rfl
theorem SC {rs:List Rl} {x:Int×List Int} {j:Int} (h:x∈fB rs)(hj:j∈x.2): ∃(i:Nat)(r:Rl),j=(i:Int)∧rs[i]?=some r∧r.1=x.1:=by
 rw[DE h]at hj;obtain⟨i,r,h1,h2,h3⟩:=kQ.1 hj;exact⟨i,r,by rw[h3,Nat.zero_add],h1,h2⟩
theorem X0 {rs:List Rl} {i:Nat} {r:Rl} (h:rs[i]?=some r): ∃(p:Nat)(x:Int×List Int),(fB rs)[p]?=some x∧x.1=r.1∧(i:Int)∈x.2:=by
 (have hm:(i:Int)∈nk (fB rs) r.1:=by rw[DD];exact kQ.2 ⟨i,r,h,rfl,by rw[Nat.zero_add]⟩);unfold nk at hm;cases hf:aN mh (fB rs) r.1 with|none=>rw[hf]at hm;cases hm|some v=>rw[hf]at hm;obtain⟨p,hp⟩:=List.getElem?_of_mem (Lg hf);exact⟨p,_,hp,rfl,hm⟩
theorem SD(rs:List Rl):(fB rs).length≤rs.length∧ ∀x,x∈fB rs→x.2.length≤rs.length:=by refine⟨by have:=zl rs 0 [];simpa[fB]using this,fun x hx=>?_⟩;rw[DE hx];exact zi _ _ _
end
section
open Go.Shelf
def xJ:Go.Shelf.Ren:=⟨fun|169=>65|n=>n,fun|70=>124|9=>9|0=>0|72=>126|37=>25|127=>194|3=>3|5=>5|n=>n,fun|n=>n⟩
theorem xK : Go.Proofs.Lays.n169 Tryz.prog xJ := {
  mixed := by kernel_rfl
  f169 := Tryz.func65.trans (congrArg some (by kernel_rfl))
  t0 := Tryz.underlying0
  a0 := Tryz.isAgg0
  z0 := Tryz.sizeOf0
  v0 := Tryz.zeroValue0
  t3 := Tryz.underlying3
  a3 := Tryz.isAgg3
  z3 := Tryz.sizeOf3
  v3 := Tryz.zeroValue3
  t9 := Tryz.underlying9
  a9 := Tryz.isAgg9
  z9 := Tryz.sizeOf9
  v9 := Tryz.zeroValue9
  t37 := Tryz.underlying25
  a37 := Tryz.isAgg25
  z37 := Tryz.sizeOf25
  v37 := Tryz.zeroValue25
  t70 := Tryz.underlying124
  a70 := Tryz.isAgg124
  z70 := Tryz.sizeOf124
  v70 := Tryz.zeroValue124
  t72 := Tryz.underlying126
  a72 := Tryz.isAgg126
  z72 := Tryz.sizeOf126
  v72 := Tryz.zeroValue126
  t127 := Tryz.underlying194
  a127 := Tryz.isAgg194
  z127 := Tryz.sizeOf194
  v127 := Tryz.zeroValue194 }
theorem fZ : Builder.Extra Tryz.prog xJ := {
  sizeBuilder := by kernel_rfl
  liesBuilder := by kernel_rfl
  t5 := Tryz.underlying5
  a5 := Tryz.isAgg5
  z5 := Tryz.sizeOf5
  v5 := Tryz.zeroValue5
  infoByte := by kernel_rfl
  cellsByte := by kernel_rfl
  sizeByte := by kernel_rfl
  neB5 := by decide }
def xL:Go.Shelf.Ren:=⟨fun|240=>111|276=>138|n=>n,fun|70=>124|72=>126|37=>25|164=>244|n=>n,fun|n=>n⟩
theorem Lh : Go.Proofs.Lays.n240 Tryz.prog xL := {
  mixed := by kernel_rfl
  f240 := Tryz.func111.trans (congrArg some (by kernel_rfl))
  f276 := Tryz.func138.trans (congrArg some (by kernel_rfl))
  t0 := Tryz.underlying0
  a0 := Tryz.isAgg0
  z0 := Tryz.sizeOf0
  v0 := Tryz.zeroValue0
  t4 := Tryz.underlying4
  a4 := Tryz.isAgg4
  z4 := Tryz.sizeOf4
  v4 := Tryz.zeroValue4
  t9 := Tryz.underlying9
  a9 := Tryz.isAgg9
  z9 := Tryz.sizeOf9
  v9 := Tryz.zeroValue9
  t20 := Tryz.underlying20
  a20 := Tryz.isAgg20
  z20 := Tryz.sizeOf20
  v20 := Tryz.zeroValue20
  t70 := Tryz.underlying124
  a70 := Tryz.isAgg124
  z70 := Tryz.sizeOf124
  v70 := Tryz.zeroValue124
  t72 := Tryz.underlying126
  a72 := Tryz.isAgg126
  z72 := Tryz.sizeOf126
  v72 := Tryz.zeroValue126
  t164 := Tryz.underlying244
  a164 := Tryz.isAgg244
  z164 := Tryz.sizeOf244
  v164 := Tryz.zeroValue244 }
theorem pg : Builder.X72 Tryz.prog xL := {
  sizeBuilder := by kernel_rfl
  liesBuilder := by kernel_rfl }
end
section
attribute[local go_sem←]u3 u4 u5
open Go.RowKit Go.Shelf
theorem BA {c:Ctx} {id:Nat} {p q:PV} {te:Option Nat} (h:kC c id (.box [p,q] te)): ∃g v u e,c.ν id= .pointer (some ⟨g,0,none⟩)∧c.M.O g∧ ¬c.M.S g∧c.w.heap[g]?=some (.cells #[v,u] e (0,0))∧ag c p v∧ag c q u∧v.oneCell'=true∧u.oneCell'=true∧(∀t,te=some t→e=t):=by
 obtain⟨he,g,vs,e,h1,h2,h3,h4,h5,h6⟩:=h;simp only[aj]at h6;obtain⟨v,r,e1,hv,u,r2,rfl,hu,rfl⟩:=h6;(have hvs:vs= #[v,u]:=by rw[←Array.toList_inj];exact e1);subst hvs
 refine⟨g,v,u,e,h1,h2,h3,h4,hv,hu,h5 v (by simp),h5 u (by simp),fun t ht=>?_⟩;obtain⟨_,cs,fz,h7⟩:=he t ht g (by simp only[h1,aM]);rw[h4]at h7;injection h7 with h7
 injection h7
theorem qG {α:Type} {i:Nat} {b:α} {r:List (Nat×α)} :look i ((i,b)::r)=some b:=by simp[look]
theorem Ix {α:Type} {a b:α} :look 1000000001 [(1000000000,a),(1000000001,b)]=some b:=by(have h:Nat.beq 1000000001 1000000000=false:=by decide);simp only[look,h,cond_false];simp
theorem aN3(bs:List Int)(te:Option Nat):HC env 111 [.ref 1000000000 0] [(1000000000,.box [.ref 1000000000 0,.aB 1000000001] (some 126)),(1000000001,.arr (.int .u8) bs te)] (.bG []) [(1000000000,.box [.ref 1000000000 0,.aB 1000000001] (some 126)),(1000000001,.arr (.int .u8) bs te)]:=by
 intro w S ν vs a1 a2 a3 a4 a5 a6;simp only[aj]at a6;obtain⟨v,r,rfl,hv,rfl⟩:=a6;obtain⟨g,v0,u0,e,h1,h2,h3,h4,hp,hq,_⟩:=BA (a5.cD 1000000000 _ qG);dsimp only at h1 h2 h3 h4
 simp only[ag]at hv hp;obtain⟨_,g',e1,rfl⟩:=hv;obtain⟨_,g2,e2,rfl⟩:=hp;rw[h1]at e1 e2;injection e1 with e1;injection e1 with e1;injection e1 with e1;subst e1;injection e2 with e2
 injection e2 with e2;injection e2 with e2;subst e2;refine(Any.Builder_copyCheck_used Lh pg g w (by simp[World.cell?,h4])).mono ?_;rintro e w'⟨rfl,rfl⟩;refine⟨_,rfl,Kept.refl _ _,ν,S,fun _ h=>h,fun _ h=>.inl h,fun _ _ _=>rfl,a5,?_⟩
 simp only[ag,aj];exact⟨[],rfl,rfl⟩
theorem xM {w:World} {g:Nat} {v u x:Value} {e:TypeId} (h:w.heap[g]?=some (.cells #[v,u] e (0,0))):(w.setCell ⟨g,0,none⟩ x).heap[g]?=some (.cells #[x,u] e (0,0)):=by
 simp[World.setCell,Array.getElem?_modify,h]
theorem Fg(w:World)(g o:Nat)(x:Value):eP w (w.setCell ⟨g,o,none⟩ x) (some g):=⟨rfl,rfl,rfl,by simp[World.setCell],fun k _ hk=>Below.heap_setCell _ _ _ _ (fun e=>hk (by simp[e])),fun _=>x8⟩
theorem aN4:HC env 111 [.ref 1000000000 0] [(1000000000,.box [.cv,.bO] (some 126))] (.bG []) [(1000000000,.box [.ref 1000000000 0,.bO] (some 126))]:=by
 intro w S ν vs a1 a2 a3 a4 a5 a6;simp only[aj]at a6;obtain⟨v,r,rfl,hv,rfl⟩:=a6;obtain⟨g,v0,u0,e,h1,h2,h3,h4,hp,hq,_,ho,ht⟩:=BA (a5.cD 1000000000 _ qG);dsimp only at h1 h2 h3 h4
 obtain rfl:=ht 126 rfl;simp only[ag]at hv hp hq;obtain⟨_,g',e1,rfl⟩:=hv;rw[h1]at e1;injection e1 with e1;injection e1 with e1;injection e1 with e1;subst e1;subst hp
 subst hq;refine(Any.Builder_copyCheck_fresh Lh pg g w (by simp[World.cell?,h4]) (by simp[World.shape?,h4];rfl) (by simp[World.frozen?,h4])).mono ?_;rintro e w'⟨rfl,rfl⟩
 have hX:iS ν [(1000000000,aQ.box [.cv,.bO] (some 126))] g:=⟨1000000000,_,qG,dx (by rw[h1];rfl)⟩;have hk:Kept (iS ν [(1000000000,aQ.box [.cv,.bO] (some 126))]) w (w.setCell ⟨g,0,none⟩ (.pointer (some ⟨g,0,none⟩))):=(Kept.refl _ _).grown (Fg w g 0 _) (fun k hk=>.inr (by injection hk with hk;rw[←hk];exact hX))
 refine⟨_,rfl,hk,ν,S,fun _ h=>h,fun _ h=>.inl h,fun _ _ _=>rfl,⟨fun b hb=>Nat.lt_of_lt_of_le (a5.lt b hb) hk.size,fun b hb=>a5.size b (Nat.le_trans hk.size hb),fun id b hb=>?_,fun i j b c hij hi hj=>?_⟩,?_⟩
 (·simp only[look]at hb;cases hn:Nat.beq id 1000000000 with|false=>simp[hn]at hb|true=>have:=y6 hn;subst this;simp only[hn,cond_true,y5]at hb;subst hb;refine⟨fun t ht g' hg'=>?_,g,#[.pointer (some ⟨g,0,none⟩),.slice none 0 0],126,h1,h2,h3,xM h4,?_,?_⟩;(·injection ht with ht;subst ht;simp only[h1,aM,y5]at hg';subst hg';exact⟨by simp only[h1,T0],_,_,xM h4⟩);(·intro u hu;simp at hu;rcases hu with rfl|rfl<;>rfl);·simp only[aj,ag];exact⟨_,_,rfl,⟨⟨_,qG⟩,g,h1,rfl⟩,_,_,rfl,rfl,rfl⟩)
 (·simp only[look]at hi hj;cases hn:Nat.beq i 1000000000 with|false=>simp[hn]at hi|true=>cases hn2:Nat.beq j 1000000000 with|false=>simp[hn2]at hj|true=>exact absurd ((y6 hn).trans (y6 hn2).symm) hij)
 ·simp only[ag,aj];exact⟨[],rfl,rfl⟩
def kz(s:ax):List Int:=s.map fun c:UInt8=>(c.toNat:Int)
def Z2(l:List Int):ax:=l.map fun n:Int=>UInt8.ofNat n.toNat
theorem qH(s:ax):Z2 (kz s)=s:=by unfold Z2 kz;rw[List.map_map];(conv=>rhs;rw[←List.map_id s]);apply List.map_congr_left;intro c _;simp
theorem xN(s t:ax):kz (s++t)=kz s++kz t:=List.map_append ..
theorem Li(s:ax)(hs:s.length≤1000000000):HC env 64 [.ref 1000000000 0,.iv .str s] [(1000000000,.box [.cv,.bO] (some 126))] (.bG [.iv (.int .i64) (s.length:Int),.any]) [(1000000000,.box [.ref 1000000000 0,.aB 14] (some 126)),(14,.arr (.int .u8) (kz s) (some 5))]:=by
 refine HC.aC (m:=2000) ae aW0 rfl rfl rfl rfl (by kernel_rfl) ?_;intro hx hbl;simp only[Tryz.f64];simp only[go_sem]
 refine⟨_,_,aN4,rfl,?_⟩;simp only[go_sem];intro _;exact⟨by rw[List.length_map];omega,rfl⟩
theorem DF(bs:List Int)(s:ax)(hs:bs.length+s.length≤1000000000):HC env 64 [.ref 1000000000 0,.iv .str s] [(1000000000,.box [.ref 1000000000 0,.aB 1000000001] (some 126)),(1000000001,.arr (.int .u8) bs (some 5))] (.bG [.iv (.int .i64) (s.length:Int),.any]) [(1000000000,.box [.ref 1000000000 0,.aB 14] (some 126)),(14,.arr (.int .u8) (bs++kz s) (some 5))]:=by
 refine HC.aC (m:=2000) ae aW0 rfl rfl rfl rfl (by kernel_rfl) ?_;intro hx hbl;simp only[Tryz.f64];simp(config:= {maxSteps:=4000000})only[go_sem]
 refine⟨_,_,aN3 _ _,rfl,?_⟩;simp(config:= {maxSteps:=4000000})only[go_sem];intro _;exact⟨by rw[List.length_map];omega,rfl⟩
theorem X1(b g cap:Nat)(p:Value)(cur:Array Value)(l:ax)(w:World)(h0:l≠ [])(hbk:w.heap[b]?=some (.cells #[p,.slice (some ⟨g,0,none⟩) l.length cap] 126 (0,0)))(hg:w.heap[g]?=some (.cells cur 5 (0,0)))(hlc:l.length≤cap)(hcs:l.length≤cur.size)(h63:l.length≤9223372036854775807)(hcell: ∀j x,l[j]?=some x→w.cell? ⟨g,j,none⟩=some (.int .u8 x.toNat)):Calls Tryz.prog 65 #[.pointer (some ⟨b,0,none⟩)] w fun e w'=>e= .returned (.string ⟨l.toArray⟩)∧w'=w.drew.freeze ⟨g,0,none⟩ l.length:=by
 (have hl0:l.length≠0:=by simpa using h0);(have c1:w.drew.cell? ⟨b,1,none⟩=some (.slice (some ⟨g,0,none⟩) l.length cap):=by have:w.drew.heap[b]?=some (.cells #[p,.slice (some ⟨g,0,none⟩) l.length cap] 126 (0,0)):=hbk;rw[Lib.cell_of_heap this];rfl)
 have hSD:(Builtin.unsafeSliceData_ #[25] 194 #[.slice (some ⟨g,0,none⟩) l.length cap]).run Tryz.prog w.drew= .ok (.pointer (some ⟨g,0,none⟩)) w.drew:=Lib.run_unsafeSliceData_row _ _ _ _ _ _ v6
 (have hUS:(Builtin.unsafeString_ #[194,3] 9 #[.pointer (some ⟨g,0,none⟩),.int .i64 l.length]).run Tryz.prog w.drew= .ok (.string ⟨l.toArray⟩) (w.drew.freeze ⟨g,0,none⟩ l.length):=by refine Lib.run_unsafeString_row w.drew 194 3 9 5 (by kernel_rfl) (by kernel_rfl) g cur.size (by have hg':w.drew.heap[g]?=some (.cells cur 5 (0,0)):=hg;simp[World.shape?,hg']) l h0 hcs h63 ?_;intro j x hx;have:=hcell j x hx;rw[eX,Nat.zero_add];exact this)
 go_enter Tryz.func65,Tryz.ntmps65;go_wp2;go_region;all_goals(go_wp2;go_ret;exact⟨rfl,rfl⟩)
theorem xO(w:World)(p:Addr)(n:Nat):eP w (w.drew.freeze p n) (some p.block):=by
 unfold World.freeze;split;(·exact⟨rfl,rfl,rfl,x8,fun _ _ _=>rfl,fun _=>Nat.le_succ _⟩);·refine⟨rfl,rfl,rfl,Nat.le_of_eq (by simp only[Array.size_modify];rfl),fun k _ hk=>?_,fun _=>Nat.le_succ _⟩;simp only[Array.getElem?_modify];rw[if_neg (fun e=>hk (by rw[e]))];rfl
theorem ph {w w':World} {S:Nat→Prop} {ν:Nat→Value} {bl:List (Nat×aQ)} {s:ax} {v:Value} {b:Nat} {x y:Value} (hW:yt ⟨[],bl⟩ ν w ⟨S,aJ w ⟨S,iS ν bl,ν,[]⟩⟩)(hk:Kept (iS ν bl) w w')(h1:ν 1000000000= .pointer (some ⟨b,0,none⟩))(h2:aJ w ⟨S,iS ν bl,ν,[]⟩ b)(h3: ¬S b)(h4:w'.heap[b]?=some (.cells #[x,y] 126 (0,0)))(hx:x.oneCell'=true)(hy:y.oneCell'=true)(hv:v= .string ⟨s.toArray⟩)(hl:s.length≤9223372036854775807):qX w ⟨S,iS ν bl,ν,[]⟩ (.iv .str s) [(1000000000,.box [.any,.any] (some 126))] v w':=by
 refine⟨hk,ν,S,fun _ h=>h,fun _ h=>.inl h,fun _ _ _=>rfl,⟨fun b hb=>Nat.lt_of_lt_of_le (hW.lt b hb) hk.size,fun b hb=>hW.size b (Nat.le_trans hk.size hb),fun id b hb=>?_,fun i j b c hij hi hj=>?_⟩,?_⟩
 (·simp only[look]at hb;cases hn:Nat.beq id 1000000000 with|false=>simp[hn]at hb|true=>have:=y6 hn;subst this;simp only[hn,cond_true,y5]at hb;subst hb;refine⟨fun t ht g' hg'=>?_,_,#[x,y],126,h1,h2,h3,h4,?_,?_⟩;(·injection ht with ht;subst ht;simp only[h1,aM,y5]at hg';subst hg';exact⟨by simp only[h1,T0],_,_,h4⟩);(·intro u hu;simp at hu;rcases hu with rfl|rfl<;>assumption);·simp only[aj,ag];exact⟨_,_,rfl,trivial,_,_,rfl,trivial,rfl⟩)
 (·simp only[look]at hi hj;cases hn:Nat.beq i 1000000000 with|false=>simp[hn]at hi|true=>cases hn2:Nat.beq j 1000000000 with|false=>simp[hn2]at hj|true=>exact absurd ((y6 hn).trans (y6 hn2).symm) hij)
 ·simp only[ag];subst hv;exact⟨rfl,rfl,hl⟩
theorem qI {X:Nat→Prop} {w w':World} (h:Below w.heap.size w w'):Kept X w w':=⟨h.os,h.tape,h.output,h.size,fun k hk _=>h.block k hk,fun hd=>hd.elim⟩
theorem bu6 {bs:List Int} {j:Nat} {x:UInt8} (h:(Z2 bs)[j]?=some x)(hb: ∀y,y∈bs→0≤y∧y≤255): ∃y,bs[j]?=some y∧y=(x.toNat:Int):=by
 unfold Z2 at h;rw[List.getElem?_map]at h;cases hy:bs[j]? with|none=>rw[hy]at h;cases h|some y=>rw[hy]at h;injection h with h;have:=hb y (x7 hy);refine⟨y,rfl,?_⟩;rw[←h];simp only[UInt8.toNat_ofNat'];omega
theorem Lj(bs:List Int)(s:ax)(hs:bs.length+s.length≤1000000000):HC env 64 [.ref 1000000000 0,.iv .str s] [(1000000000,.box [.ref 1000000000 0,.aB 1000000001] (some 126)),(1000000001,.arr (.int .u8) bs (some 5))] (.bG [.iv (.int .i64) (s.length:Int),.any]) [(1000000000,.box [.ref 1000000000 0,.aB 15] (some 126)),(15,.arr (.int .u8) (bs++kz s) (some 5))]:=(DF bs s hs).eN [(14,15),(15,14)] rfl
theorem Iy(bs:List Int):HC env 65 [.ref 1000000000 0] [(1000000000,.box [.ref 1000000000 0,.aB 1000000001] (some 126)),(1000000001,.arr (.int .u8) bs (some 5))] (.iv .str (Z2 bs)) [(1000000000,.box [.any,.any] (some 126))]:=by
 intro w S ν vs a1 a2 a3 a4 a5 a6;simp only[aj]at a6;obtain⟨v,r,rfl,hv,rfl⟩:=a6;obtain⟨b,v0,u0,e,h1,h2,h3,h4,hp,hq,ho1,ho2,ht⟩:=BA (a5.cD 1000000000 _ qG);dsimp only at h1 h2 h3 h4
 have hbl0:b<w.heap.size:=(Array.getElem?_eq_some_iff.mp h4).1;obtain rfl:=ht 126 rfl;simp only[ag]at hv hq;obtain⟨_,g',e1,rfl⟩:=hv;rw[h1]at e1;injection e1 with e1
 injection e1 with e1;injection e1 with e1;subst e1;obtain⟨_,hu,an,am,ac,_⟩:=hq;obtain⟨hty,hoT,hown⟩:=a5.cD 1000000001 (.arr (.int .u8) bs (some 5)) Ix;dsimp only at hu hown hty
 rw[←hu]at hown hty;have hbl:=hown;obtain⟨u,hu',hlen,hcase⟩:=hown;injection hu' with hu';subst hu';have hrange: ∀y,y∈bs→0≤y∧y≤255:=fun y hy=>nj ((gO _ _ _ _ _ hbl).2 y hy)
 have hX: ∀g,aM u0=some g→iS ν [(1000000000,aQ.box [.ref 1000000000 0,.aB 1000000001] (some 126)),(1000000001,aQ.arr (.int .u8) bs (some 5))] g:=fun g hg=>⟨1000000001,_,Ix,dx (by rw[←hu];exact hg)⟩
 have hnil:(Z2 [])=[]:=rfl;rcases hcase with⟨rfl,rfl⟩|⟨g,o,cap,cur,e,rfl,g1,g2,g3,g4,g5,g6,g7⟩;(·refine(Any.Builder_String_nil xK fZ w.heap.size b v0 w h4).mono ?_;rintro e w'⟨rfl,hb⟩;exact⟨_,rfl,ph a5 (qI hb) h1 h2 h3 ((hb.block b hbl0).trans h4) ho1 ho2 rfl (by simp[hnil])⟩)
 ·obtain⟨ho,cs,fz,hc5⟩:=hty 5 rfl g rfl;simp only[T0]at ho;subst ho;rw[g5]at hc5;injection hc5 with hc5;injection hc5 with _ hc5;subst hc5;cases bs with|nil=>by_cases hc0:cap=0;(·subst hc0;refine(Any.Builder_String_noroom xK fZ w.heap.size b g v0 cur w (x8) h4 g5).mono ?_;rintro e w'⟨rfl,hb⟩;exact⟨_,rfl,ph a5 (qI hb) h1 h2 h3 ((hb.block b hbl0).trans h4) ho1 ho2 rfl (by simp[hnil])⟩);(·refine(Any.Builder_String_room xK fZ w.heap.size b g cap v0 w hc0 h4).mono ?_;rintro e w'⟨rfl,hb⟩;exact⟨_,rfl,ph a5 (qI hb) h1 h2 h3 ((hb.block b hbl0).trans h4) ho1 ho2 rfl (by simp[hnil])⟩)|cons y bs'=>have hl:(Z2 (y::bs')).length=(y::bs').length:=List.length_map ..;rw[←hl]at h4 g1 hlen;have hc1:(Ty.int .u8).cells=1:=rfl;rw[hc1,Nat.mul_one]at g6;refine(X1 b g cap v0 cur (Z2 (y::bs')) w (by simp[Z2]) h4 g5 g1 v6 hlen fun j x hx=>?_).mono ?_;(·obtain⟨z,hz,hzx⟩:=bu6 hx hrange;obtain⟨cs,c1,c2,c3,_⟩:=g7 j z hz;subst c3;have:=c2 0 _ rfl;rw[hzx]at this;simpa[Ty.cells]using this);·rintro e w'⟨rfl,rfl⟩;have hbg:b≠g:=fun e=>a5.ne 1000000000 1000000001 _ _ v6 qG Ix b (dx (by rw[h1];rfl)) (by rw[←hu,e];rfl);refine⟨_,rfl,ph a5 ((Kept.refl _ _).grown (xO w ⟨g,0,none⟩ _) fun k hk=>.inr (by injection hk with hk;rw[←hk];exact hX g rfl)) h1 h2 h3 ?_ ho1 ho2 rfl hlen⟩;rw[hl]at h4;refine Eq.trans ?_ h4;exact(xO w ⟨g,0,none⟩ _).block b hbl0 (fun e=>hbg (by injection e with e))
theorem X2:HC env 65 [.ref 1000000000 0] [(1000000000,.box [.cv,.bO] (some 126))] (.iv .str ([]:ax)) [(1000000000,.box [.any,.any] (some 126))]:=by
 intro w S ν vs a1 a2 a3 a4 a5 a6;simp only[aj]at a6;obtain⟨v,r,rfl,hv,rfl⟩:=a6;obtain⟨b,v0,u0,e,h1,h2,h3,h4,hp,hq,ho1,ho2,ht⟩:=BA (a5.cD 1000000000 _ qG);dsimp only at h1 h2 h3 h4
 have hbl0:b<w.heap.size:=(Array.getElem?_eq_some_iff.mp h4).1;obtain rfl:=ht 126 rfl;simp only[ag]at hv hq;obtain⟨_,g',e1,rfl⟩:=hv;rw[h1]at e1;injection e1 with e1
 injection e1 with e1;injection e1 with e1;subst e1;subst hq;refine(Any.Builder_String_nil xK fZ w.heap.size b v0 w h4).mono ?_;rintro e w'⟨rfl,hb⟩;exact⟨_,rfl,ph a5 (qI hb) h1 h2 h3 ((hb.block b hbl0).trans h4) ho1 ho2 rfl (by simp)⟩
end
end Go.Proofs.YtimognngcagphaaGreat
