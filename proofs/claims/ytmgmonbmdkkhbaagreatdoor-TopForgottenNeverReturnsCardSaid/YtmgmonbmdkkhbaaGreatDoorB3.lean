/- A function that defers a closure that recovers, with two results. Nothing here is trusted; no condition. -/
import Derived.Test.YtmgmonbmdkkhbaaGreatDoorB2
import Derived.Lib.Split
import Derived.Lib.Join
import Derived.Lib.ItoaLen
import Derived.Shelf.Strings.Builder1
import Derived.Shelf.Strings.Builder2
import Derived.Shelf.Strings.OnBuilder
import Derived.Shelf.Small.Bits
import Derived.Shelf.Small.Wraps
import Derived.Shelf.Strings.BuilderF
import Derived.Shelf.Strings.BuilderK
import Derived.Shelf.Strings.Builder2Cap
import Derived.Shelf.Strconv.Itoa0
import Derived.Shelf.Strconv.Itoa1
import Derived.Shelf.LaysM
import Derived.Shelf.Strconv.Itoa2
import Derived.Shelf.Strconv.Itoa3
import Derived.Shelf.Strings.Search1
import Derived.Shelf.Strings.Search2
import Derived.Shelf.Strings.Cut
import Derived.Shelf.Strings.Shaped
import Derived.Shelf.Strings.BuilderCap
import Derived.Shelf.Slices.SearchI
import Derived.Shelf.Bytes.SlIndexAt
import Derived.Shelf.Bytes.SlSearch0
import Derived.Shelf.Bytes.IndexByte
import Derived.Test.YtmgmonbmdkkhbaaGreatDoorProg
import Derived.WalkKit
import Derived.RegionTactic
import Derived.BigRegion
import Derived.Lib.Walk
import Derived.Lib.Builder
import Derived.Lib.UnsafeStr
import Derived.Tactics2
import Derived.Defers
import Derived.Recover
set_option linter.unusedSimpArgs false
set_option linter.unusedVariables false
open Nat renaming reduceBEq→zA,reduceAdd→zB,reduceSub→zC,reduceMul→zD,reduceLeDiff→zE
open Int renaming reduceLT→zF,reduceLE→zG,reduceToNat→zH,reduceNeg→zI
namespace Go.Proofs.YtmgmonbmdkkhbaaGreatDoor
open Go.Lib
set_option maxHeartbeats 1000000
def nR(c:UInt8):List UInt8→List (List UInt8)|[]=>[[]]|x::r=>if x=c then[]::nR c r else match nR c r with|[]=>[[x]]|h::t=>(x::h)::t
def fR(c:UInt8):List (List UInt8)→List UInt8|[]=>[]|[x]=>x|x::y::r=>x++c::fR c (y::r)
theorem oA(c:UInt8): ∀(l:List (List UInt8)),Lib.join l [c]=fR c l|[]=>rfl|[x]=>join_one _ _|x::y::r=>by have ih:=oA c (y::r);rw[join_cons]at ih⊢;show x++([c]++y++joinTail [c] r)=x++c::fR c (y::r);rw[←ih,List.append_assoc];rfl
theorem De(c:UInt8): ∀(s:List UInt8),nR c s≠ []|[]=>(by simp[nR])|x::r=>by unfold nR;split;(·simp);·split<;>simp
theorem oB(c:UInt8)(x:List UInt8) {l:List (List UInt8)} (h:l≠ []):fR c (x::l)=x++c::fR c l:=by cases l with|nil=>exact absurd rfl h|cons y r=>rfl
theorem nw(c:UInt8): ∀(s:List UInt8),fR c (nR c s)=s|[]=>rfl|x::r=>by have ih:=nw c r;have hn:=De c r;unfold nR;split;(·rename_i h;rw[oB c [] hn,ih,h];rfl);·split;(·rename_i h;exact absurd h hn);·rename_i h t e;rw[e]at ih;cases t with|nil=>simp only[fR]at ih⊢;rw[ih]|cons y t=>simp only[fR]at ih⊢;rw[←ih];rfl
theorem uW(c:UInt8): ∀ {x:List UInt8},c∉x→nR c x=[x]|[],_=>rfl|a::x,h=>by have h1: ¬a=c:=fun e=>h (by simp[e]);have h2:c∉x:=fun e=>h (by simp[e]);unfold nR;rw[if_neg h1,uW c h2]
theorem mC(c:UInt8)(r:List UInt8): ∀ {x:List UInt8},c∉x→nR c (x++c::r)=x::nR c r|[],_=>(by show nR c (c::r)=_;rw[nR,if_pos rfl])|a::x,h=>by have h1: ¬a=c:=fun e=>h (by simp[e]);have h2:c∉x:=fun e=>h (by simp[e]);show nR c (a::(x++c::r))=_;rw[nR,if_neg h1,mC c r h2]
theorem uX(c:UInt8): ∀ {l:List (List UInt8)},l≠ []→(∀x,x∈l→c∉x)→nR c (fR c l)=l|[],h,_=>absurd rfl h|[x],_,h=>uW c (h x (by simp))|x::y::r,_,h=>by show nR c (x++c::fR c (y::r))=_;rw[mC c _ (h x (by simp)),uX c (by simp) (fun z hz=>h z (by simp at hz⊢;exact .inr hz))]
theorem yB(c:UInt8): ∀ {s x:List UInt8},x∈nR c s→c∉x|[],x,h=>(by simp only[nR,List.mem_singleton]at h;subst h;simp)|a::r,x,h=>by unfold nR at h;split at h;(·rcases List.mem_cons.1 h with h|h;(·subst h;simp);·exact yB c h);·rename_i ha;split at h;(·rename_i e;exact absurd e (De c r));·rename_i h' t e;rcases List.mem_cons.1 h with h|h;(·subst h;have:=yB c (s:=r) (x:=h') (by rw[e];simp);simp only[List.mem_cons,not_or];exact⟨fun e=>ha e.symm,this⟩);·exact yB c (s:=r) (by rw[e];simp[h])
theorem nx(c:UInt8): ∀(s:List UInt8),c∉s∨ ∃x r,s=x++c::r∧c∉x|[]=>.inl (by simp)|a::s=>by by_cases h:a=c;(·exact .inr ⟨[],s,by simp[h],by simp⟩);·rcases nx c s with h1|⟨x,r,h1,h2⟩;(·exact .inl (by simp only[List.mem_cons,not_or];exact⟨fun e=>h e.symm,h1⟩));·exact .inr ⟨a::x,r,by simp[h1],by simp only[List.mem_cons,not_or];exact⟨fun e=>h e.symm,h2⟩⟩
theorem yC(c:UInt8)(s:List UInt8)(j:Nat):occAt s [c] j=decide (s[j]?=some c):=by
 unfold occAt;cases h:s[j]? with|none=>rw[List.drop_eq_nil_of_le (List.getElem?_eq_none_iff.1 h)];simp|some y=>obtain⟨hj,e⟩:=List.getElem?_eq_some_iff.1 h;rw[List.drop_eq_getElem_cons hj,e];by_cases hc:y=c;(·subst hc;simp[List.isPrefixOf]);·simp[List.isPrefixOf,hc,Ne.symm hc]
theorem Bg {c:UInt8} {s:List UInt8} (h:c∉s):index s [c]= -1:=index_none fun j _=>by rw[yC];exact decide_eq_false fun e=>h (List.mem_of_getElem? e)
theorem xe {c:UInt8} {x r:List UInt8} (h:c∉x):index (x++c::r) [c]=(x.length:Int):=index_first (by simp) (by rw[yC];simp) fun j hj=>by rw[yC];refine decide_eq_false fun e=>?_;rw[List.getElem?_append_left hj]at e;exact h (List.mem_of_getElem? e)
theorem Df {c:UInt8} {s:List UInt8} (h:c∉s):Lib.cut s [c]=(s,[],false):=by unfold Lib.cut;rw[Bg h];rfl
theorem sK {c:UInt8} {x r:List UInt8} (h:c∉x):Lib.cut (x++c::r) [c]=(x,r,true):=by unfold Lib.cut;rw[xe h,if_pos (Int.natCast_nonneg _)];simp
theorem Gj(c:UInt8): ∀(n:Nat)(s:List UInt8),s.length<n→Lib.split s [c]=nR c s|0,s,h=>absurd h (Nat.not_lt_zero _)|n+1,s,hn=>by rcases nx c s with h|⟨x,r,rfl,h⟩;(·unfold Lib.split;rw[count_miss (Bg h),uW c h];rfl);·have ih:=Gj c n r (by simp at hn;omega);unfold Lib.split at ih⊢;have e:=xe (r:=r) h;(have ed:(x++c::r).drop (x.length+ [c].length)=r:=by simp);rw[count_hit (by simp) e,ed,Nat.add_comm,splitK,if_neg (by rw[e];simp),e,mC c r h];(have et:((x.length:Int).toNat+0)=x.length:=by simp);(have et2:(x.length:Int).toNat=x.length:=by simp);rw[et,et2,ed,ih];simp
/-! Decimal numbers. -/
def sL(u:UInt8):Bool:=decide (48≤u.toNat∧u.toNat≤57)
def fu(s:List UInt8):Nat:=s.foldl (fun n u=>10*n+(u.toNat-48)) 0
theorem iz(s:List UInt8)(x:UInt8):fu (s++ [x])=10*fu s+(x.toNat-48):=by unfold fu;rw[List.foldl_append];rfl
theorem uY: ∀(l:List UInt8)(n:Nat),n≤l.foldl (fun n u=>10*n+(u.toNat-48)) n|[],n=>Nat.le_refl _|x::l,n=>by have:=uY l (10*n+(x.toNat-48));rw[List.foldl_cons];omega
theorem J9 {x:UInt8} {l:List UInt8} (h:49≤x.toNat):1≤fu (x::l):=by have:=uY l (x.toNat-48);unfold fu;rw[List.foldl_cons];simp only[Nat.mul_zero,Nat.zero_add];omega
theorem iA {d:Nat} (h:d<10):(UInt8.ofNat (48+d)).toNat=48+d:=by rw[UInt8.toNat_ofNat'];omega
theorem Bh {x:UInt8} (h:sL x=true):UInt8.ofNat (48+(x.toNat-48))=x:=by simp only[sL,decide_eq_true_eq]at h;apply UInt8.toNat_inj.1;rw[iA (by omega)];omega
theorem dZ {u:Nat} (h:u<10):decDigits u=[UInt8.ofNat (48+u)]:=by rw[decDigits,dif_pos h]
theorem qe {u:Nat} (h: ¬u<10):decDigits u=decDigits (u/10)++ [UInt8.ofNat (48+u%10)]:=by rw[decDigits,dif_neg h]
theorem Ka(u:Nat):fu (decDigits u)=u:=by
 induction u using Nat.strongRecOn with|_ u ih=>by_cases h:u<10;(·rw[dZ h];show 10*0+((UInt8.ofNat (48+u)).toNat-48)=u;rw[iA h];omega);·rw[qe h,iz,ih (u/10) (by omega),iA (by omega)];omega
theorem sM(u:Nat):(decDigits u).all sL=true:=by
 induction u using Nat.strongRecOn with|_ u ih=>by_cases h:u<10;(·rw[dZ h];simp only[List.all_cons,List.all_nil,Bool.and_true,sL,iA h];simp;omega);·rw[qe h,List.all_append,ih (u/10) (by omega)];simp only[List.all_cons,List.all_nil,Bool.and_true,Bool.true_and,sL,iA (show u%10<10 by omega)];simp;omega
theorem Kb(u:Nat): ∃x r,decDigits u=x::r∧(r≠ []→49≤x.toNat)∧(1≤u→49≤x.toNat):=by
 induction u using Nat.strongRecOn with|_ u ih=>by_cases h:u<10;(·exact⟨_,[],dZ h,fun h=>absurd rfl h,fun h1=>by rw[iA h];omega⟩);·obtain⟨x,r,e,_,h2⟩:=ih (u/10) (by omega);have:=h2 (by omega);exact⟨x,r++ [UInt8.ofNat (48+u%10)],by rw[qe h,e];rfl,fun _=>this,fun _=>this⟩
theorem yD: ∀(k u:Nat),u<10^(k+1)→(decDigits u).length≤k+1|0,u,h=>(by rw[dZ (by simpa using h)];simp)|k+1,u,h=>by by_cases h1:u<10;(·rw[dZ h1];simp);·rw[Nat.pow_succ]at h;have:=yD k (u/10) (by omega);rw[qe h1,List.length_append];simp;omega
theorem yE: ∀(n:Nat)(s:List UInt8),s.length=n→s≠ []→s.all sL=true→(∀x r,s=x::r→r≠ []→49≤x.toNat)→decDigits (fu s)=s|0,s,hn,hne,_,_=>absurd (List.eq_nil_of_length_eq_zero hn) hne|n+1,s,hn,hne,hd,hh=>by obtain⟨l,z,rfl⟩: ∃l z,s=l++ [z]:=⟨s.dropLast,s.getLast hne,(List.dropLast_concat_getLast hne).symm⟩;rw[List.all_append,Bool.and_eq_true]at hd;(have hlast:sL z=true:=by simpa using hd.2);(have hx:z.toNat-48<10:=by simp only[sL,decide_eq_true_eq]at hlast;omega);cases l with|nil=>show decDigits (10*0+(z.toNat-48))=[z];rw[dZ (by omega),Nat.mul_zero,Nat.zero_add,Bh hlast]|cons y l=>have hy:49≤y.toNat:=hh y (l++ [z]) rfl (by simp);have hp:=J9 (l:=l) hy;have ih:=yE n (y::l) (by simp at hn⊢;omega) (by simp) hd.1 (fun a b hab _=>by injection hab with h1 _;subst h1;exact hy);rw[iz,qe (by omega)];(have e1:(10*fu (y::l)+(z.toNat-48))/10=fu (y::l):=by omega);(have e2:(10*fu (y::l)+(z.toNat-48))%10=z.toNat-48:=by omega);rw[e1,e2,ih,Bh hlast]
theorem eG {n:Int} (h:0≤n):itoa n=decDigits n.toNat:=by unfold itoa;rw[if_neg (by omega)]
theorem j7 {c:UInt8} {p:UInt8→Bool} {s:List UInt8} (hc:p c=false)(h:s.all p=true):c∉s:=fun hm=>by rw[List.all_eq_true]at h;have:=h c hm;rw[hc]at this;cases this
end Go.Proofs.YtmgmonbmdkkhbaaGreatDoor
namespace Go.Proofs.YtmgmonbmdkkhbaaGreatDoor
set_option maxHeartbeats 4000000
set_option maxRecDepth 100000
theorem az1 {x:Int} (h:0≤x)(h':x≤255):IntKind.u8.min≤x∧x≤IntKind.u8.max:=⟨h,h'⟩
theorem av.av7 {E:Env} {G:Goal} {todo:List WI} {X:Type} (t:X→St)(inv:X→Prop) {A:Prop} (h:(∀s x,inv x→Le s (t x)→av E G todo s)→A)(hw: ∀x,inv x→av E G todo (t x)):A:=h fun s x hx hl=>av.weaken hl (hw x hx)
theorem HC.ew {E:Env} {f:Nat} {args:List PV} {bl bl':List (Nat×aL)} {p:PV} (l:List (Nat×Nat))(hp:uH l=true)(h:HC E f args bl p bl'):HC E f args bl (p.ew (bw l)) (fw (bw l) bl'):=by
 intro w S ν0 vs a1 a2 a3 a4 a5 a6;refine(h w S ν0 vs a1 a2 a3 a4 a5 a6).mono ?_;rintro e w'⟨v,rfl,hk,ν,S',b1,b2,b3,hW,hv⟩;refine⟨v,rfl,hk,?_⟩;obtain⟨h1,h2,h3⟩:=uI hp
 (have inj: ∀i j,bw l i=bw l j→i=j:=fun i j e=>by rw[←h1 i,←h1 j,e]);have hlook: ∀i b,look i bl'=some b→look (bw l i) (fw (bw l) bl')=some (b.map (PV.ek (bw l))):=fun i b hb=>fc (fun j c _ e=>inj j i e) hb
 have hold: ∀i b,look i (fw (bw l) bl')=some b→ ∃j c,bw l j=i∧look j bl'=some c∧b=c.map (PV.ek (bw l)):=fun i b hb=>iW (fun j k _ _ _ _ e=>inj j k e) hb;have hle:Ctx.Lm (keys bl') (bw l) ⟨ν,(⟨[],bl'⟩:St).D,w',⟨S',aB w ⟨S,da ν0 bl,ν0,[]⟩⟩⟩ ⟨fun i=>ν (bw (fF l) i),(⟨[],fw (bw l) bl'⟩:St).D,w',⟨S',aB w ⟨S,da ν0 bl,ν0,[]⟩⟩⟩:=⟨fun _ _=>rfl,fun _ h=>h,fun i _⟨b,hb⟩=>⟨_,hlook i b hb⟩,fun i _ _=>by simp only[h1]⟩
 (have back3: ∀j,P0≤bw l j→P0≤j:=fun j hi=>by rcases Nat.lt_or_ge j P0 with h'|h';(·exfalso;have e:=h3 (bw l j) hi;have:=inj _ _ e;omega);·exact h');refine⟨fun i=>ν (bw (fF l) i),S',b1,b2,fun i hi⟨b,hb⟩=>?_,⟨hW.lt,hW.size,fun i b hb=>?_,fun i j b c hij hi hj g hg hg'=>?_⟩,iV hle (jU (fun _ h=>h) hv) hv⟩
 (·obtain⟨j,c,rfl,hc,_⟩:=hold i b hb;have hj:=back3 j hi;rw[h3 j hj];(have e:bw (fF l) j=j:=by have:=h1 j;rw[h3 j hj]at this;exact this);simp only[e];exact b3 j hj ⟨c,hc⟩)
 (·obtain⟨j,c,rfl,hc,rfl⟩:=hold i b hb;have hr:=hW.bM j c hc;exact l8 hle (na (fun _ h=>h) hr) (by simp only[h1]) (fun g hg=>⟨rfl,(eh hr hg).1,(eh hr hg).2.1⟩) hr)
 ·obtain⟨i',b',rfl,hb',_⟩:=hold i b hi;obtain⟨j',c',rfl,hc',_⟩:=hold j c hj;simp only[h1]at hg hg';exact hW.ne i' j' b' c' (fun e=>hij (by rw[e])) hb' hc' g hg hg'
theorem ak5 {E:Env} {G:Goal} {n:Nat} {b b':Bool} {d:Nat} {want:Bool} {o:Oper} {all:List Oper} {N:List Nat} {acc:List (List Nat)} {os:List Oper} {k:List WI} {s:St} (h:b=b')(hp:PK E G n (.iv .bool b') d want o all N acc os k s):PK E G n (.iv .bool b) d want o all N acc os k s:=by
 rw[h];exact hp
theorem eQ {E:Env} {G:Goal} {n:Nat} {b b':Bool} {x y:Code} {k:List WI} {s:St} (h:b=b')(hp:PB E G n (.iv .bool b') x y k s):PB E G n (.iv .bool b) x y k s:=by rw[h];exact hp
abbrev bq:=List UInt8
theorem eR(x y:Bool):(!x==y)=decide (¬x=y):=by cases x<;>cases y<;>rfl
end Go.Proofs.YtmgmonbmdkkhbaaGreatDoor
namespace Go.Proofs.YtmgmonbmdkkhbaaGreatDoor
open Go.Shelf
def qf:Go.Shelf.Ren:=⟨fun|156=>34|165=>70|166=>40|169=>42|240=>83|241=>119|276=>135|277=>151|n=>n,fun|31=>40|9=>9|3=>3|4=>4|0=>0|20=>20|72=>92|76=>95|70=>90|37=>32|75=>94|127=>154|164=>190|5=>5|80=>98|n=>n,fun|n=>n⟩
theorem Bj : Go.Proofs.Lays.n156 Tryz.prog qf := {
  mixed := by kernel_rfl
  f156 := Tryz.func34.trans (congrArg some (by kernel_rfl))
  f165 := Tryz.func70.trans (congrArg some (by kernel_rfl))
  f166 := Tryz.func40.trans (congrArg some (by kernel_rfl))
  f169 := Tryz.func42.trans (congrArg some (by kernel_rfl))
  f240 := Tryz.func83.trans (congrArg some (by kernel_rfl))
  f241 := Tryz.func119.trans (congrArg some (by kernel_rfl))
  f276 := Tryz.func135.trans (congrArg some (by kernel_rfl))
  f277 := Tryz.func151.trans (congrArg some (by kernel_rfl))
  t0 := Tryz.underlying0
  a0 := Tryz.isAgg0
  z0 := Tryz.sizeOf0
  v0 := Tryz.zeroValue0
  t3 := Tryz.underlying3
  a3 := Tryz.isAgg3
  z3 := Tryz.sizeOf3
  v3 := Tryz.zeroValue3
  t4 := Tryz.underlying4
  a4 := Tryz.isAgg4
  z4 := Tryz.sizeOf4
  v4 := Tryz.zeroValue4
  t9 := Tryz.underlying9
  a9 := Tryz.isAgg9
  z9 := Tryz.sizeOf9
  v9 := Tryz.zeroValue9
  t20 := Tryz.underlying20
  a20 := Tryz.isAgg20
  z20 := Tryz.sizeOf20
  v20 := Tryz.zeroValue20
  t31 := Tryz.underlying40
  a31 := Tryz.isAgg40
  z31 := Tryz.sizeOf40
  v31 := Tryz.zeroValue40
  t37 := Tryz.underlying32
  a37 := Tryz.isAgg32
  z37 := Tryz.sizeOf32
  v37 := Tryz.zeroValue32
  t70 := Tryz.underlying90
  a70 := Tryz.isAgg90
  z70 := Tryz.sizeOf90
  v70 := Tryz.zeroValue90
  t72 := Tryz.underlying92
  a72 := Tryz.isAgg92
  z72 := Tryz.sizeOf92
  v72 := Tryz.zeroValue92
  t75 := Tryz.underlying94
  a75 := Tryz.isAgg94
  z75 := Tryz.sizeOf94
  v75 := Tryz.zeroValue94
  t76 := Tryz.underlying95
  a76 := Tryz.isAgg95
  z76 := Tryz.sizeOf95
  v76 := Tryz.zeroValue95
  t127 := Tryz.underlying154
  a127 := Tryz.isAgg154
  z127 := Tryz.sizeOf154
  v127 := Tryz.zeroValue154
  t164 := Tryz.underlying190
  a164 := Tryz.isAgg190
  z164 := Tryz.sizeOf190
  v164 := Tryz.zeroValue190 }
theorem jc : Builder.Extra Tryz.prog qf := {
  sizeBuilder := by kernel_rfl
  liesBuilder := by kernel_rfl
  t5 := Tryz.underlying5
  a5 := Tryz.isAgg5
  z5 := Tryz.sizeOf5
  v5 := Tryz.zeroValue5
  infoByte := by kernel_rfl
  cellsByte := by kernel_rfl
  sizeByte := by kernel_rfl
  neB5 := by decide }
open Go.RowKit in theorem oC(a:Option Addr)(c:Nat)(sep:ByteArray)(w:World):Calls Tryz.prog 34 #[.slice a 0 c,.string sep] w fun e w'=>e= .returned (.string ⟨#[]⟩)∧w'=w:=Any.strings_Join_none Bj jc a c sep w
open Go.RowKit in theorem vY(bk o c:Nat)(xs:List ByteArray)(sep:ByteArray)(w:World)(hcells: ∀(j:Nat)x,xs[j]?=some x→w.cell? ⟨bk,o+j,none⟩=some (.string x))(hbk:bk<w.heap.size)(hN:xs.length≤140737488355328)(hcap:xs.length≤c)(hlen:(Lib.join (xs.map (·.data.toList)) sep.data.toList).length≤140737488355328):Calls Tryz.prog 34 #[.slice (some ⟨bk,o,none⟩) xs.length c,.string sep] w fun e w'=>e= .returned (.string ⟨(Lib.join (xs.map (·.data.toList)) sep.data.toList).toArray⟩)∧Below w.heap.size w w':=Any.strings_Join Bj jc bk o c xs sep w hcells hbk hN hcap hlen
def vZ:Go.Shelf.Ren:=⟨fun|171=>35|243=>71|246=>120|283=>152|284=>153|285=>154|286=>155|129=>118|317=>161|318=>162|319=>163|320=>164|337=>169|338=>170|n=>n,fun|3=>3|9=>9|2=>2|4=>4|171=>207|0=>0|53=>180|37=>32|5=>5|173=>209|212=>217|51=>178|20=>20|213=>218|46=>136|232=>222|233=>223|n=>n,fun|17=>1|18=>2|19=>3|n=>n⟩
theorem Gk : Go.Proofs.LaysM.n171 Tryz.prog vZ := {
  mixed := by kernel_rfl
  f129 := Tryz.func118.trans (congrArg some (by kernel_rfl))
  f171 := Tryz.func35.trans (congrArg some (by kernel_rfl))
  f243 := Tryz.func71.trans (congrArg some (by kernel_rfl))
  f246 := Tryz.func120.trans (congrArg some (by kernel_rfl))
  f283 := Tryz.func152.trans (congrArg some (by kernel_rfl))
  f284 := Tryz.func153.trans (congrArg some (by kernel_rfl))
  f285 := Tryz.func154.trans (congrArg some (by kernel_rfl))
  f286 := Tryz.func155.trans (congrArg some (by kernel_rfl))
  f317 := Tryz.func161.trans (congrArg some (by kernel_rfl))
  f318 := Tryz.func162.trans (congrArg some (by kernel_rfl))
  f319 := Tryz.func163.trans (congrArg some (by kernel_rfl))
  f320 := Tryz.func164.trans (congrArg some (by kernel_rfl))
  f337 := Tryz.func169.trans (congrArg some (by kernel_rfl))
  f338 := Tryz.func170.trans (congrArg some (by kernel_rfl))
  t0 := Tryz.underlying0
  a0 := Tryz.isAgg0
  z0 := Tryz.sizeOf0
  v0 := Tryz.zeroValue0
  t2 := Tryz.underlying2
  a2 := Tryz.isAgg2
  z2 := Tryz.sizeOf2
  v2 := Tryz.zeroValue2
  t3 := Tryz.underlying3
  a3 := Tryz.isAgg3
  z3 := Tryz.sizeOf3
  v3 := Tryz.zeroValue3
  t4 := Tryz.underlying4
  a4 := Tryz.isAgg4
  z4 := Tryz.sizeOf4
  v4 := Tryz.zeroValue4
  t5 := Tryz.underlying5
  a5 := Tryz.isAgg5
  z5 := Tryz.sizeOf5
  v5 := Tryz.zeroValue5
  t9 := Tryz.underlying9
  a9 := Tryz.isAgg9
  z9 := Tryz.sizeOf9
  v9 := Tryz.zeroValue9
  t20 := Tryz.underlying20
  a20 := Tryz.isAgg20
  z20 := Tryz.sizeOf20
  v20 := Tryz.zeroValue20
  t37 := Tryz.underlying32
  a37 := Tryz.isAgg32
  z37 := Tryz.sizeOf32
  v37 := Tryz.zeroValue32
  t46 := Tryz.underlying136
  a46 := Tryz.isAgg136
  z46 := Tryz.sizeOf136
  v46 := Tryz.zeroValue136
  t51 := Tryz.underlying178
  a51 := Tryz.isAgg178
  z51 := Tryz.sizeOf178
  v51 := Tryz.zeroValue178
  t53 := Tryz.underlying180
  a53 := Tryz.isAgg180
  z53 := Tryz.sizeOf180
  v53 := Tryz.zeroValue180
  t171 := Tryz.underlying207
  a171 := Tryz.isAgg207
  z171 := Tryz.sizeOf207
  v171 := Tryz.zeroValue207
  t173 := Tryz.underlying209
  a173 := Tryz.isAgg209
  z173 := Tryz.sizeOf209
  v173 := Tryz.zeroValue209
  t212 := Tryz.underlying217
  a212 := Tryz.isAgg217
  z212 := Tryz.sizeOf217
  v212 := Tryz.zeroValue217
  t213 := Tryz.underlying218
  a213 := Tryz.isAgg218
  z213 := Tryz.sizeOf218
  t232 := Tryz.underlying222
  a232 := Tryz.isAgg222
  z232 := Tryz.sizeOf222
  v232 := Tryz.zeroValue222
  t233 := Tryz.underlying223
  a233 := Tryz.isAgg223
  z233 := Tryz.sizeOf223
  v233 := Tryz.zeroValue223
  g17 := by kernel_rfl
  g18 := by kernel_rfl
  g19 := by kernel_rfl
  i0 := by kernel_rfl
  i2 := by kernel_rfl
  i3 := by kernel_rfl
  i4 := by kernel_rfl
  i5 := by kernel_rfl
  i9 := by kernel_rfl
  i20 := by kernel_rfl
  i37 := by kernel_rfl
  i46 := by kernel_rfl
  i51 := by kernel_rfl
  i53 := by kernel_rfl
  i171 := by kernel_rfl
  i173 := by kernel_rfl
  i212 := by kernel_rfl
  i232 := by kernel_rfl
  i233 := by kernel_rfl
  m17 := by kernel_rfl
  m18 := by kernel_rfl
  m19 := by kernel_rfl }
open Go.RowKit Go.Sort Go.Lib in theorem v7(n:Int)(h0: -9223372036854775808≤n)(h1:n≤9223372036854775807)(w:World)(htab:Lib.TabIs Tryz.prog w "internal/strconv.uint64pow10" .u64 Lib.pow10Tab):Calls Tryz.prog 35 #[.int .i64 n] w fun e w'=>e= .returned (.string ⟨(Lib.itoa n).toArray⟩)∧ ∃k os,w'=grow (w.drewN k) os:=Any.strconv_Itoa Gk n h0 h1 w htab
def yF:Go.Shelf.Ren:=⟨fun|145=>75|220=>129|219=>156|217=>165|225=>166|224=>167|267=>168|266=>171|314=>172|n=>n,fun|9=>9|4=>4|59=>146|3=>3|5=>5|46=>136|146=>220|51=>178|n=>n,fun|1=>0|n=>n⟩
theorem Kc : Go.Proofs.Lays.n145 Tryz.prog yF := {
  mixed := by kernel_rfl
  f145 := Tryz.func75.trans (congrArg some (by kernel_rfl))
  f217 := Tryz.func165.trans (congrArg some (by kernel_rfl))
  f219 := Tryz.func156.trans (congrArg some (by kernel_rfl))
  f220 := Tryz.func129.trans (congrArg some (by kernel_rfl))
  f224 := Tryz.func167.trans (congrArg some (by kernel_rfl))
  f225 := Tryz.func166.trans (congrArg some (by kernel_rfl))
  f266 := Tryz.func171.trans (congrArg some (by kernel_rfl))
  f267 := Tryz.func168.trans (congrArg some (by kernel_rfl))
  f314 := Tryz.func172.trans (congrArg some (by kernel_rfl))
  t3 := Tryz.underlying3
  a3 := Tryz.isAgg3
  z3 := Tryz.sizeOf3
  v3 := Tryz.zeroValue3
  t4 := Tryz.underlying4
  a4 := Tryz.isAgg4
  z4 := Tryz.sizeOf4
  v4 := Tryz.zeroValue4
  t5 := Tryz.underlying5
  a5 := Tryz.isAgg5
  z5 := Tryz.sizeOf5
  v5 := Tryz.zeroValue5
  t9 := Tryz.underlying9
  a9 := Tryz.isAgg9
  z9 := Tryz.sizeOf9
  v9 := Tryz.zeroValue9
  t46 := Tryz.underlying136
  a46 := Tryz.isAgg136
  z46 := Tryz.sizeOf136
  v46 := Tryz.zeroValue136
  t51 := Tryz.underlying178
  a51 := Tryz.isAgg178
  z51 := Tryz.sizeOf178
  v51 := Tryz.zeroValue178
  t59 := Tryz.underlying146
  a59 := Tryz.isAgg146
  z59 := Tryz.sizeOf146
  v59 := Tryz.zeroValue146
  t146 := Tryz.underlying220
  a146 := Tryz.isAgg220
  z146 := Tryz.sizeOf220
  v146 := Tryz.zeroValue220
  g1 := by kernel_rfl }
open Go.RowKit Go.Lib in theorem yG(s sep:ByteArray)(m:Int)(w:World)(hs:s.size<4294967281)(hm:w.cell? ⟨0,0,none⟩=some (.int .i64 m)):Calls Tryz.prog 75 #[.string s,.string sep] w fun e w'=>e= .returned (.tuple #[.string ⟨(Lib.cut s.data.toList sep.data.toList).1.toArray⟩,.string ⟨(Lib.cut s.data.toList sep.data.toList).2.1.toArray⟩,.bool (Lib.cut s.data.toList sep.data.toList).2.2])∧ ∃n,w'=w.drewN n:=Any.strings_Cut Kc s sep m w hs hm
end Go.Proofs.YtmgmonbmdkkhbaaGreatDoor
namespace Go.Proofs.YtmgmonbmdkkhbaaGreatDoor
open Go.RowKit Go.Lib
set_option maxHeartbeats 1000000
theorem j8 {w w':World} {S:Nat→Prop} {T:Ty} {r:T.den} {v:Value} (hb:Below w.heap.size w w')(hd:Rx→w.drawn≤w'.drawn)(hS: ∀b,S b→b<w.heap.size)(hr:jD T r w' ⟨S,fun g=>w.heap.size≤g⟩ v):Ly w S T r v w':=⟨⟨hb,hd⟩,S,fun _ h=>h,fun _ h=>.inl h,fun b h=>Nat.lt_of_lt_of_le (hS b h) hb.size,hr⟩
theorem Bk(w:World)(k:Nat):Below w.heap.size w (w.drewN k):=⟨rfl,rfl,rfl,Nat.le_refl _,fun _ _=>rfl⟩
theorem Bl(w:World)(k:Nat)(os:Array Obj):Below w.heap.size w (Go.Sort.grow (w.drewN k) os):=by
 refine⟨rfl,rfl,rfl,by simp[Go.Sort.grow,World.drewN],fun g hg=>?_⟩;show(w.heap++os)[g]?=_;rw[Array.getElem?_append_left hg]
theorem rO(w:World)(k:Nat):w.drawn≤(w.drewN k).drawn:=by simp[World.drewN]
theorem yH {x:List UInt8} {w:World} {M:Mem} {v:Value} (h:cw .str x w M v):v= .string ⟨x.toArray⟩∧x.length≤9223372036854775807:=by obtain⟨hv,h⟩:=h;injection hv with hv;exact⟨hv,h⟩
theorem Q0 {w:World} {S:Nat→Prop} (h:nF w S): ∃m,w.cell? ⟨0,0,none⟩=some (.int .i64 m):=by
 obtain⟨_,o,ho,m,cs,e,r,rfl,hm⟩:=h 0 (by decide);exact⟨m,by simp[World.cell?,ho,hm]⟩
theorem Q3 {w:World} {S:Nat→Prop} (h:nF w S):w.var? Tryz.prog (((Tryz.prog.globals[1]?).map (·.name)).getD default)=some ((pow10Tab).map fun z=>Value.int .u64 z).toArray:=by
 obtain⟨_,o,ho,e,r,rfl⟩:=h 1 (by decide);(have hg:Tryz.prog.globalNamed (((Tryz.prog.globals[1]?).map (·.name)).getD default)=some 1:=by kernel_rfl);simp only[World.var?,hg,Option.bind_some,ho]
 rfl
theorem uZ(n:Int):PC env 35 [⟨.int .i64,n⟩] .str (itoa n):=by
 intro w S vs hS hT hrep;obtain⟨v,r,rfl,_,⟨hv,h1,h2⟩,hr⟩:=hrep;simp only[iI]at hr;subst hr;injection hv with hv;subst hv;refine(v7 n h1 h2 w (Q3 hT)).mono ?_;rintro e w'⟨rfl,k,os,rfl⟩
 refine⟨_,rfl,j8 (Bl w k os) (fun _=>rO w k) hS ⟨rfl,?_⟩⟩;have:=itoa_length_le n h1 h2;omega
theorem Kd(s sep:List UInt8)(hs:s.length<4294967281):PC env 75 [⟨.str,s⟩,⟨.str,sep⟩] (.aP .str (.aP .str .bool)) (Lib.cut s sep):=by
 intro w S vs hS hT hrep;obtain⟨v,r,rfl,_,hv,v2,r2,rfl,_,hv2,hr⟩:=hrep;simp only[iI]at hr;subst hr;obtain⟨rfl,_⟩:=yH hv;obtain⟨rfl,_⟩:=yH hv2;obtain⟨m,hm⟩:=Q0 hT
 refine(yG ⟨s.toArray⟩ ⟨sep.toArray⟩ m w (by simpa[ByteArray.size]using hs) hm).mono ?_;rintro e w'⟨rfl,k,rfl⟩;refine⟨_,rfl,j8 (Bk w k) (fun _=>rO w k) hS ?_⟩;refine⟨_,rfl,_,_,rfl,⟨rfl,?_⟩,_,_,rfl,⟨rfl,?_⟩,_,rfl,rfl⟩
 (·show(Lib.cut s sep).1.length≤_;unfold Lib.cut;split;(·simp only[List.length_take];omega);·simp only;omega);·show(Lib.cut s sep).2.1.length≤_;unfold Lib.cut;split;(·simp only[List.length_drop];omega);·simp
theorem Xw(xs:List (List UInt8))(sep:List UInt8)(hn:xs.length≤140737488355328)(hl:(Lib.join xs sep).length≤140737488355328):PC env 34 [⟨.sl .str,xs⟩,⟨.str,sep⟩] .str (Lib.join xs sep):=by
 intro w S vs hS hT hrep;obtain⟨v,r,rfl,_,hv,v2,r2,rfl,_,hv2,hr⟩:=hrep;simp only[iI]at hr;subst hr;obtain⟨rfl,_⟩:=yH hv2;obtain⟨a,cap,hv,hcap,hcap2,hx⟩:=hv;injection hv with hv
 subst hv;cases xs with|nil=>refine(oC a cap ⟨sep.toArray⟩ w).mono ?_;rintro e w'⟨rfl,rfl⟩;exact⟨_,rfl,j8 (Below.refl _ _) (fun _=>Nat.le_refl _) hS ⟨rfl,Nat.zero_le _⟩⟩|cons x0 xr=>rcases hx with hx|⟨g,o,rfl,hg,hx⟩;(·cases hx);·let ys:List ByteArray:=(x0::xr).map fun x=>⟨x.toArray⟩;(have hys:ys.map (·.data.toList)=x0::xr:=by show((x0::xr).map _).map _=_;rw[List.map_map];exact List.map_id' _);have hyl:ys.length=(x0::xr).length:=List.length_map ..;have hc:=vY g o cap ys ⟨sep.toArray⟩ w (fun j x hj=>by rw[List.getElem?_map]at hj;obtain⟨y,hy,rfl⟩:=Option.map_eq_some_iff.1 hj;obtain⟨cs,_,hca,hre,_⟩:=hx j y hy;have hre:cs=[.string ⟨y.toArray⟩]:=hre;subst hre;have:=hca 0 _ rfl;simpa[Ty.cells]using this) (hS g hg) (by rw[hyl];exact hn) (by rw[hyl];exact hcap) (by rw[hys];exact hl);rw[hyl]at hc;refine hc.mono ?_;rintro e w'⟨rfl,hb⟩;rw[hys];exact⟨_,rfl,j8 hb (fun h=>by first|exact h.elim|cases h) hS ⟨rfl,by show(Lib.join (x0::xr) sep).length≤_;omega⟩⟩
end Go.Proofs.YtmgmonbmdkkhbaaGreatDoor
namespace Go.Proofs.YtmgmonbmdkkhbaaGreatDoor
set_option maxHeartbeats 4000000
set_option maxRecDepth 100000
open Go.Lib
theorem u3:bytesOf ⟨#[32]⟩=([32]:bq):=rfl
theorem Ym: ∀d:Nat,d<10→List.take 1 (List.drop d (bytesOf ⟨#[48,49,50,51,52,53,54,55,56,57]⟩))=[UInt8.ofNat (48+d)]:=by decide
end Go.Proofs.YtmgmonbmdkkhbaaGreatDoor
namespace Go.Proofs.YtmgmonbmdkkhbaaGreatDoor
open Go.Shelf
def qg:Go.Shelf.Ren:=⟨fun|169=>42|n=>n,fun|70=>90|9=>9|0=>0|72=>92|37=>32|127=>154|3=>3|5=>5|n=>n,fun|n=>n⟩
theorem mD : Go.Proofs.Lays.n169 Tryz.prog qg := {
  mixed := by kernel_rfl
  f169 := Tryz.func42.trans (congrArg some (by kernel_rfl))
  t0 := Tryz.underlying0
  a0 := Tryz.isAgg0
  z0 := Tryz.sizeOf0
  v0 := Tryz.zeroValue0
  t3 := Tryz.underlying3
  a3 := Tryz.isAgg3
  z3 := Tryz.sizeOf3
  v3 := Tryz.zeroValue3
  t9 := Tryz.underlying9
  a9 := Tryz.isAgg9
  z9 := Tryz.sizeOf9
  v9 := Tryz.zeroValue9
  t37 := Tryz.underlying32
  a37 := Tryz.isAgg32
  z37 := Tryz.sizeOf32
  v37 := Tryz.zeroValue32
  t70 := Tryz.underlying90
  a70 := Tryz.isAgg90
  z70 := Tryz.sizeOf90
  v70 := Tryz.zeroValue90
  t72 := Tryz.underlying92
  a72 := Tryz.isAgg92
  z72 := Tryz.sizeOf92
  v72 := Tryz.zeroValue92
  t127 := Tryz.underlying154
  a127 := Tryz.isAgg154
  z127 := Tryz.sizeOf154
  v127 := Tryz.zeroValue154 }
theorem cZ : Builder.Extra Tryz.prog qg := {
  sizeBuilder := by kernel_rfl
  liesBuilder := by kernel_rfl
  t5 := Tryz.underlying5
  a5 := Tryz.isAgg5
  z5 := Tryz.sizeOf5
  v5 := Tryz.zeroValue5
  infoByte := by kernel_rfl
  cellsByte := by kernel_rfl
  sizeByte := by kernel_rfl
  neB5 := by decide }
open Go.RowKit in theorem B3(B b:Nat)(l:List UInt8)(w:World)(h:Lib.IsBuilder 92 5 B b (Lib.byteCells l) w)(hBw:B≤w.heap.size):Calls Tryz.prog 42 #[.pointer (some ⟨b,0,none⟩)] w fun e w'=>e= .returned (.string ⟨l.toArray⟩)∧Below B w w':=Any.Builder_String_any mD cZ B b l w h hBw
def qh:Go.Shelf.Ren:=⟨fun|240=>83|276=>135|n=>n,fun|70=>90|72=>92|37=>32|164=>190|n=>n,fun|n=>n⟩
theorem Bm : Go.Proofs.Lays.n240 Tryz.prog qh := {
  mixed := by kernel_rfl
  f240 := Tryz.func83.trans (congrArg some (by kernel_rfl))
  f276 := Tryz.func135.trans (congrArg some (by kernel_rfl))
  t0 := Tryz.underlying0
  a0 := Tryz.isAgg0
  z0 := Tryz.sizeOf0
  v0 := Tryz.zeroValue0
  t4 := Tryz.underlying4
  a4 := Tryz.isAgg4
  z4 := Tryz.sizeOf4
  v4 := Tryz.zeroValue4
  t9 := Tryz.underlying9
  a9 := Tryz.isAgg9
  z9 := Tryz.sizeOf9
  v9 := Tryz.zeroValue9
  t20 := Tryz.underlying20
  a20 := Tryz.isAgg20
  z20 := Tryz.sizeOf20
  v20 := Tryz.zeroValue20
  t70 := Tryz.underlying90
  a70 := Tryz.isAgg90
  z70 := Tryz.sizeOf90
  v70 := Tryz.zeroValue90
  t72 := Tryz.underlying92
  a72 := Tryz.isAgg92
  z72 := Tryz.sizeOf92
  v72 := Tryz.zeroValue92
  t164 := Tryz.underlying190
  a164 := Tryz.isAgg190
  z164 := Tryz.sizeOf190
  v164 := Tryz.zeroValue190 }
theorem j9 : Builder.X72 Tryz.prog qh := {
  sizeBuilder := by kernel_rfl
  liesBuilder := by kernel_rfl }
end Go.Proofs.YtmgmonbmdkkhbaaGreatDoor
namespace Go.Proofs.YtmgmonbmdkkhbaaGreatDoor
attribute[local go_sem←]Bool.decide_and Bool.decide_or decide_not
open Go.RowKit Go.Shelf
set_option maxHeartbeats 4000000
set_option maxRecDepth 100000
theorem sN {c:Ctx} {id:Nat} {p q:PV} {te:Option Nat} (h:iH c id (.box [p,q] te)): ∃g v u e,c.ν id= .pointer (some ⟨g,0,none⟩)∧c.M.O g∧ ¬c.M.S g∧c.w.heap[g]?=some (.cells #[v,u] e (0,0))∧ag c p v∧ag c q u∧v.oneCell'=true∧u.oneCell'=true∧(∀t,te=some t→e=t):=by
 obtain⟨he,g,vs,e,h1,h2,h3,h4,h5,h6⟩:=h;simp only[aj]at h6;obtain⟨v,r,e1,hv,u,r2,rfl,hu,rfl⟩:=h6;(have hvs:vs= #[v,u]:=by rw[←Array.toList_inj];exact e1);subst hvs
 refine⟨g,v,u,e,h1,h2,h3,h4,hv,hu,h5 v (by simp),h5 u (by simp),fun t ht=>?_⟩;obtain⟨_,cs,fz,h7⟩:=he t ht g (by simp only[h1,aG]);rw[h4]at h7;injection h7 with h7
 injection h7
theorem lb {α:Type} {i:Nat} {b:α} {r:List (Nat×α)} :look i ((i,b)::r)=some b:=by simp[look]
theorem yI {α:Type} {a b:α} :look 1000000001 [(1000000000,a),(1000000001,b)]=some b:=by(have h:Nat.beq 1000000001 1000000000=false:=by decide);simp only[look,h,cond_false];simp
theorem ET(bs:List Int)(te:Option Nat):HC env 83 [.ref 1000000000 0] [(1000000000,.box [.ref 1000000000 0,.aI 1000000001] (some 92)),(1000000001,.arr (.int .u8) bs te)] (.aP []) [(1000000000,.box [.ref 1000000000 0,.aI 1000000001] (some 92)),(1000000001,.arr (.int .u8) bs te)]:=by
 intro w S ν vs a1 a2 a3 a4 a5 a6;simp only[aj]at a6;obtain⟨v,r,rfl,hv,rfl⟩:=a6;obtain⟨g,v0,u0,e,h1,h2,h3,h4,hp,hq,_⟩:=sN (a5.bM 1000000000 _ lb);dsimp only at h1 h2 h3 h4
 simp only[ag]at hv hp;obtain⟨_,g',e1,rfl⟩:=hv;obtain⟨_,g2,e2,rfl⟩:=hp;rw[h1]at e1 e2;injection e1 with e1;injection e1 with e1;injection e1 with e1;subst e1;injection e2 with e2
 injection e2 with e2;injection e2 with e2;subst e2;refine(Any.Builder_copyCheck_used Bm j9 g w (by simp[World.cell?,h4])).mono ?_;rintro e w'⟨rfl,rfl⟩;refine⟨_,rfl,Kept.refl _ _,ν,S,fun _ h=>h,fun _ h=>.inl h,fun _ _ _=>rfl,a5,?_⟩
 simp only[ag,aj];exact⟨[],rfl,rfl⟩
theorem qi {w:World} {g:Nat} {v u x:Value} {e:TypeId} (h:w.heap[g]?=some (.cells #[v,u] e (0,0))):(w.setCell ⟨g,0,none⟩ x).heap[g]?=some (.cells #[x,u] e (0,0)):=by
 simp[World.setCell,Array.getElem?_modify,h]
theorem v8(w:World)(g o:Nat)(x:Value):dz w (w.setCell ⟨g,o,none⟩ x) (some g):=⟨rfl,rfl,rfl,by simp[World.setCell],fun k _ hk=>Below.heap_setCell _ _ _ _ (fun e=>hk (by simp[e])),fun _=>Nat.le_refl _⟩
theorem Q4:HC env 83 [.ref 1000000000 0] [(1000000000,.box [.bT,.bE] (some 92))] (.aP []) [(1000000000,.box [.ref 1000000000 0,.bE] (some 92))]:=by
 intro w S ν vs a1 a2 a3 a4 a5 a6;simp only[aj]at a6;obtain⟨v,r,rfl,hv,rfl⟩:=a6;obtain⟨g,v0,u0,e,h1,h2,h3,h4,hp,hq,_,ho,ht⟩:=sN (a5.bM 1000000000 _ lb);dsimp only at h1 h2 h3 h4
 obtain rfl:=ht 92 rfl;simp only[ag]at hv hp hq;obtain⟨_,g',e1,rfl⟩:=hv;rw[h1]at e1;injection e1 with e1;injection e1 with e1;injection e1 with e1;subst e1;subst hp
 subst hq;refine(Any.Builder_copyCheck_fresh Bm j9 g w (by simp[World.cell?,h4]) (by simp[World.shape?,h4];rfl) (by simp[World.frozen?,h4])).mono ?_;rintro e w'⟨rfl,rfl⟩
 have hX:da ν [(1000000000,aL.box [.bT,.bE] (some 92))] g:=⟨1000000000,_,lb,by simp only[h1,aG]⟩;have hk:Kept (da ν [(1000000000,aL.box [.bT,.bE] (some 92))]) w (w.setCell ⟨g,0,none⟩ (.pointer (some ⟨g,0,none⟩))):=(Kept.refl _ _).grown (v8 w g 0 _) (fun k hk=>.inr (by injection hk with hk;rw[←hk];exact hX))
 refine⟨_,rfl,hk,ν,S,fun _ h=>h,fun _ h=>.inl h,fun _ _ _=>rfl,⟨fun b hb=>Nat.lt_of_lt_of_le (a5.lt b hb) hk.size,fun b hb=>a5.size b (Nat.le_trans hk.size hb),fun id b hb=>?_,fun i j b c hij hi hj=>?_⟩,?_⟩
 (·simp only[look]at hb;cases hn:Nat.beq id 1000000000 with|false=>simp[hn]at hb|true=>have:=Nat.eq_of_beq_eq_true hn;subst this;simp only[hn,cond_true,Option.some.injEq]at hb;subst hb;refine⟨fun t ht g' hg'=>?_,g,#[.pointer (some ⟨g,0,none⟩),.slice none 0 0],92,h1,h2,h3,qi h4,?_,?_⟩;(·injection ht with ht;subst ht;simp only[h1,aG,Option.some.injEq]at hg';subst hg';exact⟨by simp only[h1,Hf],_,_,qi h4⟩);(·intro u hu;simp at hu;rcases hu with rfl|rfl<;>rfl);·simp only[aj,ag];exact⟨_,_,rfl,⟨⟨_,lb⟩,g,h1,rfl⟩,_,_,rfl,rfl,rfl⟩)
 (·simp only[look]at hi hj;cases hn:Nat.beq i 1000000000 with|false=>simp[hn]at hi|true=>cases hn2:Nat.beq j 1000000000 with|false=>simp[hn2]at hj|true=>exact absurd ((Nat.eq_of_beq_eq_true hn).trans (Nat.eq_of_beq_eq_true hn2).symm) hij)
 ·simp only[ag,aj];exact⟨[],rfl,rfl⟩
def im(s:bq):List Int:=s.map fun c:UInt8=>(c.toNat:Int)
def Q5(l:List Int):bq:=l.map fun n:Int=>UInt8.ofNat n.toNat
theorem yJ(s:bq):Q5 (im s)=s:=by unfold Q5 im;rw[List.map_map];(conv=>rhs;rw[←List.map_id s]);apply List.map_congr_left;intro c _;simp
theorem EU(s t:bq):im (s++t)=im s++im t:=List.map_append ..
theorem Ke(s:bq)(hs:s.length≤1000000000):HC env 40 [.ref 1000000000 0,.iv .str s] [(1000000000,.box [.bT,.bE] (some 92))] (.aP [.iv (.int .i64) (s.length:Int),.any]) [(1000000000,.box [.ref 1000000000 0,.aI 14] (some 92)),(14,.arr (.int .u8) (im s) (some 5))]:=by
 refine HC.ao (m:=2000) ah Sj rfl rfl rfl rfl (by kernel_rfl) ?_;intro hx hbl;simp only[Tryz.f40];simp only[go_sem,zA,↓reduceIte,↓reduceDIte,zB,zC,zD,zE,zF,zG,zH,zI]
 refine⟨_,_,Q4,rfl,?_⟩;simp only[go_sem,zA,↓reduceIte,↓reduceDIte,zB,zC,zD,zE,zF,zG,zH,zI];intro _;exact⟨by rw[List.length_map];omega,rfl⟩
theorem Bn(bs:List Int)(s:bq)(hs:bs.length+s.length≤1000000000):HC env 40 [.ref 1000000000 0,.iv .str s] [(1000000000,.box [.ref 1000000000 0,.aI 1000000001] (some 92)),(1000000001,.arr (.int .u8) bs (some 5))] (.aP [.iv (.int .i64) (s.length:Int),.any]) [(1000000000,.box [.ref 1000000000 0,.aI 14] (some 92)),(14,.arr (.int .u8) (bs++im s) (some 5))]:=by
 refine HC.ao (m:=2000) ah Sj rfl rfl rfl rfl (by kernel_rfl) ?_;intro hx hbl;simp only[Tryz.f40];simp(config:= {maxSteps:=4000000})only[go_sem,zA,↓reduceIte,↓reduceDIte,zB,zC,zD,zE,zF,zG,zH,zI]
 refine⟨_,_,ET _ _,rfl,?_⟩;simp(config:= {maxSteps:=4000000})only[go_sem,zA,↓reduceIte,↓reduceDIte,zB,zC,zD,zE,zF,zG,zH,zI];intro _;exact⟨by rw[List.length_map];omega,rfl⟩
theorem Kf(b g cap:Nat)(p:Value)(cur:Array Value)(l:bq)(w:World)(h0:l≠ [])(hbk:w.heap[b]?=some (.cells #[p,.slice (some ⟨g,0,none⟩) l.length cap] 92 (0,0)))(hg:w.heap[g]?=some (.cells cur 5 (0,0)))(hlc:l.length≤cap)(hcs:l.length≤cur.size)(h63:l.length≤9223372036854775807)(hcell: ∀j x,l[j]?=some x→w.cell? ⟨g,j,none⟩=some (.int .u8 x.toNat)):Calls Tryz.prog 42 #[.pointer (some ⟨b,0,none⟩)] w fun e w'=>e= .returned (.string ⟨l.toArray⟩)∧w'=w.drew.freeze ⟨g,0,none⟩ l.length:=by
 (have hl0:l.length≠0:=by simpa using h0);(have c1:w.drew.cell? ⟨b,1,none⟩=some (.slice (some ⟨g,0,none⟩) l.length cap):=by have:w.drew.heap[b]?=some (.cells #[p,.slice (some ⟨g,0,none⟩) l.length cap] 92 (0,0)):=hbk;rw[Lib.cell_of_heap this];rfl)
 have hSD:(Builtin.unsafeSliceData_ #[32] 154 #[.slice (some ⟨g,0,none⟩) l.length cap]).run Tryz.prog w.drew= .ok (.pointer (some ⟨g,0,none⟩)) w.drew:=Lib.run_unsafeSliceData_row _ _ _ _ _ _ (by omega)
 (have hUS:(Builtin.unsafeString_ #[154,3] 9 #[.pointer (some ⟨g,0,none⟩),.int .i64 l.length]).run Tryz.prog w.drew= .ok (.string ⟨l.toArray⟩) (w.drew.freeze ⟨g,0,none⟩ l.length):=by refine Lib.run_unsafeString_row w.drew 154 3 9 5 (by kernel_rfl) (by kernel_rfl) g cur.size (by have hg':w.drew.heap[g]?=some (.cells cur 5 (0,0)):=hg;simp[World.shape?,hg']) l h0 hcs h63 ?_;intro j x hx;have:=hcell j x hx;rw[dj,Nat.zero_add];exact this)
 go_enter Tryz.func42,Tryz.ntmps42;go_wp2;go_region;all_goals(go_wp2;go_ret;exact⟨rfl,rfl⟩)
theorem qj(w:World)(p:Addr)(n:Nat):dz w (w.drew.freeze p n) (some p.block):=by
 unfold World.freeze;split;(·exact⟨rfl,rfl,rfl,Nat.le_refl _,fun _ _ _=>rfl,fun _=>Nat.le_succ _⟩);·refine⟨rfl,rfl,rfl,Nat.le_of_eq (by simp only[Array.size_modify];rfl),fun k _ hk=>?_,fun _=>Nat.le_succ _⟩;simp only[Array.getElem?_modify];rw[if_neg (fun e=>hk (by rw[e]))];rfl
theorem ka {w w':World} {S:Nat→Prop} {ν:Nat→Value} {bl:List (Nat×aL)} {s:bq} {v:Value} {b:Nat} {x y:Value} (hW:nE ⟨[],bl⟩ ν w ⟨S,aB w ⟨S,da ν bl,ν,[]⟩⟩)(hk:Kept (da ν bl) w w')(h1:ν 1000000000= .pointer (some ⟨b,0,none⟩))(h2:aB w ⟨S,da ν bl,ν,[]⟩ b)(h3: ¬S b)(h4:w'.heap[b]?=some (.cells #[x,y] 92 (0,0)))(hx:x.oneCell'=true)(hy:y.oneCell'=true)(hv:v= .string ⟨s.toArray⟩)(hl:s.length≤9223372036854775807):hH w ⟨S,da ν bl,ν,[]⟩ (.iv .str s) [(1000000000,.box [.any,.any] (some 92))] v w':=by
 refine⟨hk,ν,S,fun _ h=>h,fun _ h=>.inl h,fun _ _ _=>rfl,⟨fun b hb=>Nat.lt_of_lt_of_le (hW.lt b hb) hk.size,fun b hb=>hW.size b (Nat.le_trans hk.size hb),fun id b hb=>?_,fun i j b c hij hi hj=>?_⟩,?_⟩
 (·simp only[look]at hb;cases hn:Nat.beq id 1000000000 with|false=>simp[hn]at hb|true=>have:=Nat.eq_of_beq_eq_true hn;subst this;simp only[hn,cond_true,Option.some.injEq]at hb;subst hb;refine⟨fun t ht g' hg'=>?_,_,#[x,y],92,h1,h2,h3,h4,?_,?_⟩;(·injection ht with ht;subst ht;simp only[h1,aG,Option.some.injEq]at hg';subst hg';exact⟨by simp only[h1,Hf],_,_,h4⟩);(·intro u hu;simp at hu;rcases hu with rfl|rfl<;>assumption);·simp only[aj,ag];exact⟨_,_,rfl,trivial,_,_,rfl,trivial,rfl⟩)
 (·simp only[look]at hi hj;cases hn:Nat.beq i 1000000000 with|false=>simp[hn]at hi|true=>cases hn2:Nat.beq j 1000000000 with|false=>simp[hn2]at hj|true=>exact absurd ((Nat.eq_of_beq_eq_true hn).trans (Nat.eq_of_beq_eq_true hn2).symm) hij)
 ·simp only[ag];subst hv;exact⟨rfl,rfl,hl⟩
theorem ld {X:Nat→Prop} {w w':World} (h:Below w.heap.size w w'):Kept X w w':=⟨h.os,h.tape,h.output,h.size,fun k hk _=>h.block k hk,fun hd=>hd.elim⟩
theorem Xx {bs:List Int} {j:Nat} {x:UInt8} (h:(Q5 bs)[j]?=some x)(hb: ∀y,y∈bs→0≤y∧y≤255): ∃y,bs[j]?=some y∧y=(x.toNat:Int):=by
 unfold Q5 at h;rw[List.getElem?_map]at h;cases hy:bs[j]? with|none=>rw[hy]at h;cases h|some y=>rw[hy]at h;injection h with h;have:=hb y (List.mem_of_getElem? hy);refine⟨y,rfl,?_⟩;rw[←h];simp only[UInt8.toNat_ofNat'];omega
theorem ah6(bs:List Int)(s:bq)(hs:bs.length+s.length≤1000000000):HC env 40 [.ref 1000000000 0,.iv .str s] [(1000000000,.box [.ref 1000000000 0,.aI 1000000001] (some 92)),(1000000001,.arr (.int .u8) bs (some 5))] (.aP [.iv (.int .i64) (s.length:Int),.any]) [(1000000000,.box [.ref 1000000000 0,.aI 15] (some 92)),(15,.arr (.int .u8) (bs++im s) (some 5))]:=(Bn bs s hs).ew [(14,15),(15,14)] rfl
theorem Xy(bs:List Int):HC env 42 [.ref 1000000000 0] [(1000000000,.box [.ref 1000000000 0,.aI 1000000001] (some 92)),(1000000001,.arr (.int .u8) bs (some 5))] (.iv .str (Q5 bs)) [(1000000000,.box [.any,.any] (some 92))]:=by
 intro w S ν vs a1 a2 a3 a4 a5 a6;simp only[aj]at a6;obtain⟨v,r,rfl,hv,rfl⟩:=a6;obtain⟨b,v0,u0,e,h1,h2,h3,h4,hp,hq,ho1,ho2,ht⟩:=sN (a5.bM 1000000000 _ lb);dsimp only at h1 h2 h3 h4
 have hbl0:b<w.heap.size:=(Array.getElem?_eq_some_iff.mp h4).1;obtain rfl:=ht 92 rfl;simp only[ag]at hv hq;obtain⟨_,g',e1,rfl⟩:=hv;rw[h1]at e1;injection e1 with e1
 injection e1 with e1;injection e1 with e1;subst e1;obtain⟨_,hu,an,am,ac,_⟩:=hq;obtain⟨hty,hoT,hown⟩:=a5.bM 1000000001 (.arr (.int .u8) bs (some 5)) yI;dsimp only at hu hown hty
 rw[←hu]at hown hty;have hbl:=hown;obtain⟨u,hu',hlen,hcase⟩:=hown;injection hu' with hu';subst hu';have hrange: ∀y,y∈bs→0≤y∧y≤255:=fun y hy=>rK ((eJ _ _ _ _ _ hbl).2 y hy)
 have hX: ∀g,aG u0=some g→da ν [(1000000000,aL.box [.ref 1000000000 0,.aI 1000000001] (some 92)),(1000000001,aL.arr (.int .u8) bs (some 5))] g:=fun g hg=>⟨1000000001,_,yI,by rw[←hu];exact hg⟩
 have hnil:(Q5 [])=[]:=rfl;rcases hcase with⟨rfl,rfl⟩|⟨g,o,cap,cur,e,rfl,g1,g2,g3,g4,g5,g6,g7⟩;(·refine(Any.Builder_String_nil mD cZ w.heap.size b v0 w h4).mono ?_;rintro e w'⟨rfl,hb⟩;exact⟨_,rfl,ka a5 (ld hb) h1 h2 h3 ((hb.block b hbl0).trans h4) ho1 ho2 rfl (by simp[hnil])⟩)
 ·obtain⟨ho,cs,fz,hc5⟩:=hty 5 rfl g rfl;simp only[Hf]at ho;subst ho;rw[g5]at hc5;injection hc5 with hc5;injection hc5 with _ hc5;subst hc5;cases bs with|nil=>by_cases hc0:cap=0;(·subst hc0;refine(Any.Builder_String_noroom mD cZ w.heap.size b g v0 cur w (Nat.le_refl _) h4 g5).mono ?_;rintro e w'⟨rfl,hb⟩;exact⟨_,rfl,ka a5 (ld hb) h1 h2 h3 ((hb.block b hbl0).trans h4) ho1 ho2 rfl (by simp[hnil])⟩);(·refine(Any.Builder_String_room mD cZ w.heap.size b g cap v0 w hc0 h4).mono ?_;rintro e w'⟨rfl,hb⟩;exact⟨_,rfl,ka a5 (ld hb) h1 h2 h3 ((hb.block b hbl0).trans h4) ho1 ho2 rfl (by simp[hnil])⟩)|cons y bs'=>have hl:(Q5 (y::bs')).length=(y::bs').length:=List.length_map ..;rw[←hl]at h4 g1 hlen;have hc1:(Ty.int .u8).cells=1:=rfl;rw[hc1,Nat.mul_one]at g6;refine(Kf b g cap v0 cur (Q5 (y::bs')) w (by simp[Q5]) h4 g5 g1 (by omega) hlen fun j x hx=>?_).mono ?_;(·obtain⟨z,hz,hzx⟩:=Xx hx hrange;obtain⟨cs,c1,c2,c3,_⟩:=g7 j z hz;subst c3;have:=c2 0 _ rfl;rw[hzx]at this;simpa[Ty.cells]using this);·rintro e w'⟨rfl,rfl⟩;have hbg:b≠g:=fun e=>a5.ne 1000000000 1000000001 _ _ (by omega) lb yI b (by simp only[h1,aG]) (by rw[←hu,e];rfl);refine⟨_,rfl,ka a5 ((Kept.refl _ _).grown (qj w ⟨g,0,none⟩ _) fun k hk=>.inr (by injection hk with hk;rw[←hk];exact hX g rfl)) h1 h2 h3 ?_ ho1 ho2 rfl hlen⟩;rw[hl]at h4;refine Eq.trans ?_ h4;exact(qj w ⟨g,0,none⟩ _).block b hbl0 (fun e=>hbg (by injection e with e))
theorem XA:HC env 42 [.ref 1000000000 0] [(1000000000,.box [.bT,.bE] (some 92))] (.iv .str ([]:bq)) [(1000000000,.box [.any,.any] (some 92))]:=by
 intro w S ν vs a1 a2 a3 a4 a5 a6;simp only[aj]at a6;obtain⟨v,r,rfl,hv,rfl⟩:=a6;obtain⟨b,v0,u0,e,h1,h2,h3,h4,hp,hq,ho1,ho2,ht⟩:=sN (a5.bM 1000000000 _ lb);dsimp only at h1 h2 h3 h4
 have hbl0:b<w.heap.size:=(Array.getElem?_eq_some_iff.mp h4).1;obtain rfl:=ht 92 rfl;simp only[ag]at hv hq;obtain⟨_,g',e1,rfl⟩:=hv;rw[h1]at e1;injection e1 with e1
 injection e1 with e1;injection e1 with e1;subst e1;subst hq;refine(Any.Builder_String_nil mD cZ w.heap.size b v0 w h4).mono ?_;rintro e w'⟨rfl,hb⟩;exact⟨_,rfl,ka a5 (ld hb) h1 h2 h3 ((hb.block b hbl0).trans h4) ho1 ho2 rfl (by simp)⟩
end Go.Proofs.YtmgmonbmdkkhbaaGreatDoor
namespace Go.Proofs.YtmgmonbmdkkhbaaGreatDoor
attribute[local go_sem←]Bool.decide_and Bool.decide_or decide_not
attribute[local go_sem]u3 Int.reduceEq not_true_eq_false not_false_eq_true false_implies
open Go.Lib
set_option maxHeartbeats 4000000
set_option maxRecDepth 100000
def rP(s:bq):Bool:=decide (1≤s.length∧s.length≤7∧ ¬(s[0]?=some 48∧1<s.length))&&s.all sL
def eS(lo hi:Int)(s:bq):Option Int:=if rP s=true∧lo≤(fu s:Int)∧(fu s:Int)≤hi then some (fu s:Int)else none
theorem Kg: ∀m:Nat,m<8→10^m≤10000000:=by decide
theorem Bo(s:bq)(lo hi n:Int)(h:eS lo hi s=some n):PC env 123 [⟨.str,s⟩,⟨.int .i64,lo⟩,⟨.int .i64,hi⟩] (.int .i64) n:=by
 unfold eS at h;split at h;(case isFalse=>cases h);rename_i hh;injection h with h;subst h;obtain⟨hok,hlo,hhi⟩:=hh;simp only[rP,Bool.and_eq_true,decide_eq_true_eq]at hok
 obtain⟨⟨k1,k4,k0⟩,kd⟩:=hok;refine PC.ao (m:=2000) ah yt rfl rfl rfl rfl (by kernel_rfl) ?_;intro hx;simp only[Tryz.f123];simp only[go_sem,zA,↓reduceIte,↓reduceDIte,zB,zC,zD,zE,zF,zG,zH,zI]
 obtain⟨x0,hx0⟩: ∃x,s[0]?=some x:=ax (by omega);(have h48:(x0.toNat:Int)=48→s[0]?=some 48:=fun g=>by rw[hx0];congr 1;exact UInt8.toNat_inj.1 (by rw[show(48:UInt8).toNat=48 from rfl];omega))
 refine⟨fun g1=>⟨fun g2=>⟨fun g3=>⟨_,⟨x0,hx0,rfl⟩,fun g4=>absurd ⟨h48 g4,by omega⟩ k0,fun g4=>?_⟩,fun g3=>?_⟩,fun g2=>absurd g2 (by omega)⟩,fun g1=>absurd g1 (by omega)⟩
 all_goals refine av.cU (X:=Nat) (fun(i:Nat)=>[(31,.iv (.int .i64) (i:Int)),(8,.any),(7,.iv (.int .i64) ((fu (s.take i):Nat):Int))]) (fun(i:Nat)=>[]) (fun(i:Nat)=>i≤s.length∧fu (s.take i)<10^i) (fun(i:Nat)=>s.length-i) 0 ?_;intro b1 b2 hb1 hb2;simp(config:= {maxSteps:=4000000})only[go_sem,zA,↓reduceIte,↓reduceDIte,zB,zC,zD,zE,zF,zG,zH,zI]at hb1 hb2;subst hb1;subst hb2;refine⟨(by refine⟨?_,?_,rfl,rfl⟩<;>repeat' (first|exact trivial|exact Or.inl rfl|exact Or.inr rfl|apply cV|apply cW|apply cX|apply cY|exact⟨(by show(_:Nat)<1000000000;omega),rfl,rfl⟩|rfl|(refine And.intro (Or.inl ?_) ?_)|(refine And.intro ?_ ?_))),?_,?_⟩;(·exact⟨Nat.zero_le _,by show(0:Nat)<1;decide⟩);intro i⟨hi,hv⟩back;refine ay ah ⟨_,yt,rfl⟩ 2000 _ _ (by kernel_rfl) ?_;simp only[go_sem,zA,↓reduceIte,↓reduceDIte,zB,zC,zD,zE,zF,zG,zH,zI];have hp:=Kg i (by omega);refine⟨fun h1=>?_,fun h1=>?_⟩;(·obtain⟨x,hxi⟩: ∃x,s[i]?=some x:=ax (by omega);have hdx:sL x=true:=List.all_eq_true.1 kd x (List.mem_of_getElem? hxi);simp only[sL,decide_eq_true_eq]at hdx;(have hval:(10*((fu (s.take i):Nat):Int)+((x.toNat:Int)-48))=((fu (s.take (i+1)):Nat):Int):=by rw[bA hxi,iz];omega);have i0:=Int.natCast_nonneg i;refine⟨i0,_,⟨x,hxi,rfl⟩,fun _=>⟨i0,_,⟨x,hxi,rfl⟩,fun g=>absurd g (by omega),fun _=>⟨aH (by omega) (by omega),i0,_,⟨x,hxi,rfl⟩,⟨by omega,by omega⟩,aH (by omega) (by omega),aH (by omega) (by omega),?_⟩⟩,fun g=>absurd g (by omega)⟩;rw[hval];exact back _ (i+1) (by refine⟨?_,?_,rfl,rfl⟩<;>repeat' (first|exact trivial|exact Or.inl rfl|exact Or.inr rfl|apply cV|apply cW|apply cX|apply cY|exact⟨(by show(_:Nat)<1000000000;omega),rfl,rfl⟩|rfl|(refine And.intro (Or.inl ?_) ?_)|(refine And.intro ?_ ?_))) ⟨by omega,by rw[bA hxi,iz,Nat.pow_succ];omega⟩ (by omega));·have e:s.take i=s:=List.take_of_length_le (by omega);rw[e];exact⟨fun _=>⟨fun g=>absurd g (by omega),fun _=>rfl⟩,fun g=>absurd g (by omega)⟩
theorem Bp(s:bq)(lo hi:Int)(h:eS lo hi s=none):XC env 123 [⟨.str,s⟩,⟨.int .i64,lo⟩,⟨.int .i64,hi⟩]:=by
 refine XC.ao (m:=2000) ah yt rfl rfl rfl rfl (by kernel_rfl) ?_;intro hx;simp only[Tryz.f123];simp only[go_sem,zA,↓reduceIte,↓reduceDIte,zB,zC,zD,zE,zF,zG,zH,zI]
 refine⟨fun g1=>⟨fun g2=>?_,fun _=>trivial⟩,fun _=>trivial⟩;obtain⟨x0,hx0⟩: ∃x,s[0]?=some x:=ax (by omega);(have fin: ¬(s[0]?=some 48∧1<s.length)→s.all sL=true→ ¬(lo≤(fu s:Int)∧(fu s:Int)≤hi):=fun h1 h2 h3=>by unfold eS at h;split at h;(·cases h);·rename_i hh;refine hh ⟨?_,h3⟩;simp only[rP,Bool.and_eq_true,decide_eq_true_eq];exact⟨⟨by omega,by omega,h1⟩,h2⟩)
 have fin2: ¬((x0.toNat:Int)=48∧1<s.length)→ ¬(s[0]?=some 48∧1<s.length):=fun h1⟨h2,h3⟩=>h1 ⟨by rw[hx0]at h2;injection h2 with h2;rw[h2];rfl,h3⟩;refine⟨fun g3=>⟨_,⟨x0,hx0,rfl⟩,fun _=>trivial,fun g4=>?_⟩,fun g3=>?_⟩
 all_goals have hst:=fin (fin2 (by omega));refine av.cU (X:=Nat) (fun(i:Nat)=>[(31,.iv (.int .i64) (i:Int)),(8,.any),(7,.iv (.int .i64) ((fu (s.take i):Nat):Int))]) (fun(i:Nat)=>[]) (fun(i:Nat)=>i≤s.length∧fu (s.take i)<10^i∧(s.take i).all sL=true) (fun(i:Nat)=>s.length-i) 0 ?_;intro b1 b2 hb1 hb2;simp(config:= {maxSteps:=4000000})only[go_sem,zA,↓reduceIte,↓reduceDIte,zB,zC,zD,zE,zF,zG,zH,zI]at hb1 hb2;subst hb1;subst hb2;refine⟨(by refine⟨?_,?_,rfl,rfl⟩<;>repeat' (first|exact trivial|exact Or.inl rfl|exact Or.inr rfl|apply cV|apply cW|apply cX|apply cY|exact⟨(by show(_:Nat)<1000000000;omega),rfl,rfl⟩|rfl|(refine And.intro (Or.inl ?_) ?_)|(refine And.intro ?_ ?_))),?_,?_⟩;(·exact⟨Nat.zero_le _,by show(0:Nat)<1;decide,rfl⟩);intro i⟨hi,hv,hb⟩back;refine ay ah ⟨_,yt,rfl⟩ 2000 _ _ (by kernel_rfl) ?_;simp only[go_sem,zA,↓reduceIte,↓reduceDIte,zB,zC,zD,zE,zF,zG,zH,zI];have hp:=Kg i (by omega);refine⟨fun h1=>?_,fun h1=>?_⟩;(·obtain⟨x,hxi⟩: ∃x,s[i]?=some x:=ax (by omega);have i0:=Int.natCast_nonneg i;refine⟨i0,_,⟨x,hxi,rfl⟩,fun g5=>⟨i0,_,⟨x,hxi,rfl⟩,fun g=>trivial,fun g6=>?_⟩,fun g=>trivial⟩;(have hdx:sL x=true:=by simp only[sL,decide_eq_true_eq];omega);(have hval:(10*((fu (s.take i):Nat):Int)+((x.toNat:Int)-48))=((fu (s.take (i+1)):Nat):Int):=by rw[bA hxi,iz];omega);refine⟨aH (by omega) (by omega),i0,_,⟨x,hxi,rfl⟩,⟨by omega,by omega⟩,aH (by omega) (by omega),aH (by omega) (by omega),?_⟩;rw[hval];exact back _ (i+1) (by refine⟨?_,?_,rfl,rfl⟩<;>repeat' (first|exact trivial|exact Or.inl rfl|exact Or.inr rfl|apply cV|apply cW|apply cX|apply cY|exact⟨(by show(_:Nat)<1000000000;omega),rfl,rfl⟩|rfl|(refine And.intro (Or.inl ?_) ?_)|(refine And.intro ?_ ?_))) ⟨by omega,by rw[bA hxi,iz,Nat.pow_succ];omega,by rw[mq hxi,hb,hdx];rfl⟩ (by omega));·have e:s.take i=s:=List.take_of_length_le (by omega);rw[e]at hb⊢;have hst:=hst hb;exact⟨fun _=>⟨fun _=>trivial,fun g=>absurd ⟨by omega,by omega⟩ hst⟩,fun _=>trivial⟩
end Go.Proofs.YtmgmonbmdkkhbaaGreatDoor
namespace Go.Proofs.YtmgmonbmdkkhbaaGreatDoor
attribute[local go_sem←]Bool.decide_and Bool.decide_or decide_not
attribute[local go_sem]u3 Int.reduceEq not_true_eq_false not_false_eq_true false_implies
open Go.Lib
set_option maxHeartbeats 4000000
set_option maxRecDepth 100000
def bV(f:Nat)(r:Rec)(s:bq):Option Rec:=if f=122 then(match eS 0 7 s with|some n=>some (n,r.2)|none=>none)else if f=124 then(match eS 1 1000000 s with|some n=>some (r.1,n,r.2.2)|none=>none)else if f=125 then(match eS 0 10000 s with|some n=>some (r.1,r.2.1,n,r.2.2.2)|none=>none)else if f=126 then(if ej s=true then some (r.1,r.2.1,r.2.2.1,s,r.2.2.2.2)else none)else if f=127 then(match eS 0 7 s with|some n=>some (r.1,r.2.1,r.2.2.1,r.2.2.2.1,n,r.2.2.2.2.2)|none=>none)else if f=128 then(match eS 1 1000 s with|some n=>some (r.1,r.2.1,r.2.2.1,r.2.2.2.1,r.2.2.2.2.1,n)|none=>none)else none
theorem ah7(r:Rec)(s:bq)(n:Int)(h:eS 0 7 s=some n):HC env 122 [.ref 1000000000 0,.iv .str s] [(1000000000,.box [.iv (.int .i64) r.1,.iv (.int .i64) r.2.1,.iv (.int .i64) r.2.2.1,.iv .str r.2.2.2.1,.iv (.int .i64) r.2.2.2.2.1,.iv (.int .i64) r.2.2.2.2.2])] (.aP []) [(1000000000,.box [.iv (.int .i64) n,.iv (.int .i64) r.2.1,.iv (.int .i64) r.2.2.1,.iv .str r.2.2.2.1,.iv (.int .i64) r.2.2.2.2.1,.iv (.int .i64) r.2.2.2.2.2])]:=by
 refine HC.ao (m:=2000) ah JJ rfl rfl rfl rfl (by kernel_rfl) ?_;intro hx hbl;simp only[Tryz.f122];simp only[go_sem,zA,↓reduceIte,↓reduceDIte,zB,zC,zD,zE,zF,zG,zH,zI]
 refine⟨_,Bo s 0 7 n h,?_⟩;simp only[go_sem,zA,↓reduceIte,↓reduceDIte,zB,zC,zD,zE,zF,zG,zH,zI];exact fun _=>trivial
theorem av9(r:Rec)(s:bq)(h:eS 0 7 s=none):XH env 122 [.ref 1000000000 0,.iv .str s] [(1000000000,.box [.iv (.int .i64) r.1,.iv (.int .i64) r.2.1,.iv (.int .i64) r.2.2.1,.iv .str r.2.2.2.1,.iv (.int .i64) r.2.2.2.2.1,.iv (.int .i64) r.2.2.2.2.2])] [(1000000000,.box [.any,.any,.any,.any,.any,.any])]:=by
 refine XH.ao (m:=2000) ah JJ rfl rfl rfl rfl (by kernel_rfl) ?_;intro hx hbl;simp only[Tryz.f122];simp only[go_sem,zA,↓reduceIte,↓reduceDIte,zB,zC,zD,zE,zF,zG,zH,zI]
 exact .inr (Bp s 0 7 h)
theorem ah8(r:Rec)(s:bq)(n:Int)(h:eS 1 1000000 s=some n):HC env 124 [.ref 1000000000 0,.iv .str s] [(1000000000,.box [.iv (.int .i64) r.1,.iv (.int .i64) r.2.1,.iv (.int .i64) r.2.2.1,.iv .str r.2.2.2.1,.iv (.int .i64) r.2.2.2.2.1,.iv (.int .i64) r.2.2.2.2.2])] (.aP []) [(1000000000,.box [.iv (.int .i64) r.1,.iv (.int .i64) n,.iv (.int .i64) r.2.2.1,.iv .str r.2.2.2.1,.iv (.int .i64) r.2.2.2.2.1,.iv (.int .i64) r.2.2.2.2.2])]:=by
 refine HC.ao (m:=2000) ah JK rfl rfl rfl rfl (by kernel_rfl) ?_;intro hx hbl;simp only[Tryz.f124];simp only[go_sem,zA,↓reduceIte,↓reduceDIte,zB,zC,zD,zE,zF,zG,zH,zI]
 refine⟨_,Bo s 1 1000000 n h,?_⟩;simp only[go_sem,zA,↓reduceIte,↓reduceDIte,zB,zC,zD,zE,zF,zG,zH,zI];exact fun _=>trivial
theorem aw0(r:Rec)(s:bq)(h:eS 1 1000000 s=none):XH env 124 [.ref 1000000000 0,.iv .str s] [(1000000000,.box [.iv (.int .i64) r.1,.iv (.int .i64) r.2.1,.iv (.int .i64) r.2.2.1,.iv .str r.2.2.2.1,.iv (.int .i64) r.2.2.2.2.1,.iv (.int .i64) r.2.2.2.2.2])] [(1000000000,.box [.any,.any,.any,.any,.any,.any])]:=by
 refine XH.ao (m:=2000) ah JK rfl rfl rfl rfl (by kernel_rfl) ?_;intro hx hbl;simp only[Tryz.f124];simp only[go_sem,zA,↓reduceIte,↓reduceDIte,zB,zC,zD,zE,zF,zG,zH,zI]
 exact .inr (Bp s 1 1000000 h)
theorem ah9(r:Rec)(s:bq)(n:Int)(h:eS 0 10000 s=some n):HC env 125 [.ref 1000000000 0,.iv .str s] [(1000000000,.box [.iv (.int .i64) r.1,.iv (.int .i64) r.2.1,.iv (.int .i64) r.2.2.1,.iv .str r.2.2.2.1,.iv (.int .i64) r.2.2.2.2.1,.iv (.int .i64) r.2.2.2.2.2])] (.aP []) [(1000000000,.box [.iv (.int .i64) r.1,.iv (.int .i64) r.2.1,.iv (.int .i64) n,.iv .str r.2.2.2.1,.iv (.int .i64) r.2.2.2.2.1,.iv (.int .i64) r.2.2.2.2.2])]:=by
 refine HC.ao (m:=2000) ah JL rfl rfl rfl rfl (by kernel_rfl) ?_;intro hx hbl;simp only[Tryz.f125];simp only[go_sem,zA,↓reduceIte,↓reduceDIte,zB,zC,zD,zE,zF,zG,zH,zI]
 refine⟨_,Bo s 0 10000 n h,?_⟩;simp only[go_sem,zA,↓reduceIte,↓reduceDIte,zB,zC,zD,zE,zF,zG,zH,zI];exact fun _=>trivial
theorem aw1(r:Rec)(s:bq)(h:eS 0 10000 s=none):XH env 125 [.ref 1000000000 0,.iv .str s] [(1000000000,.box [.iv (.int .i64) r.1,.iv (.int .i64) r.2.1,.iv (.int .i64) r.2.2.1,.iv .str r.2.2.2.1,.iv (.int .i64) r.2.2.2.2.1,.iv (.int .i64) r.2.2.2.2.2])] [(1000000000,.box [.any,.any,.any,.any,.any,.any])]:=by
 refine XH.ao (m:=2000) ah JL rfl rfl rfl rfl (by kernel_rfl) ?_;intro hx hbl;simp only[Tryz.f125];simp only[go_sem,zA,↓reduceIte,↓reduceDIte,zB,zC,zD,zE,zF,zG,zH,zI]
 exact .inr (Bp s 0 10000 h)
theorem Kh(r:Rec)(s:bq)(h:ej s=true):HC env 126 [.ref 1000000000 0,.iv .str s] [(1000000000,.box [.iv (.int .i64) r.1,.iv (.int .i64) r.2.1,.iv (.int .i64) r.2.2.1,.iv .str r.2.2.2.1,.iv (.int .i64) r.2.2.2.2.1,.iv (.int .i64) r.2.2.2.2.2])] (.aP []) [(1000000000,.box [.iv (.int .i64) r.1,.iv (.int .i64) r.2.1,.iv (.int .i64) r.2.2.1,.iv .str s,.iv (.int .i64) r.2.2.2.2.1,.iv (.int .i64) r.2.2.2.2.2])]:=by
 refine HC.ao (m:=2000) ah JM rfl rfl rfl rfl (by kernel_rfl) ?_;intro hx hbl;simp only[Tryz.f126];simp only[go_sem,zA,↓reduceIte,↓reduceDIte,zB,zC,zD,zE,zF,zG,zH,zI]
 have k:=yu s;rw[h]at k;refine⟨_,k,?_⟩;simp only[go_sem,zA,↓reduceIte,↓reduceDIte,zB,zC,zD,zE,zF,zG,zH,zI]
theorem XB(r:Rec)(s:bq)(h:ej s=false):XH env 126 [.ref 1000000000 0,.iv .str s] [(1000000000,.box [.iv (.int .i64) r.1,.iv (.int .i64) r.2.1,.iv (.int .i64) r.2.2.1,.iv .str r.2.2.2.1,.iv (.int .i64) r.2.2.2.2.1,.iv (.int .i64) r.2.2.2.2.2])] [(1000000000,.box [.any,.any,.any,.any,.any,.any])]:=by
 refine XH.ao (m:=2000) ah JM rfl rfl rfl rfl (by kernel_rfl) ?_;intro hx hbl;simp only[Tryz.f126];simp only[go_sem,zA,↓reduceIte,↓reduceDIte,zB,zC,zD,zE,zF,zG,zH,zI]
 have k:=yu s;rw[h]at k;refine⟨_,k,?_⟩;simp only[go_sem,zA,↓reduceIte,↓reduceDIte,zB,zC,zD,zE,zF,zG,zH,zI]
theorem ai0(r:Rec)(s:bq)(n:Int)(h:eS 0 7 s=some n):HC env 127 [.ref 1000000000 0,.iv .str s] [(1000000000,.box [.iv (.int .i64) r.1,.iv (.int .i64) r.2.1,.iv (.int .i64) r.2.2.1,.iv .str r.2.2.2.1,.iv (.int .i64) r.2.2.2.2.1,.iv (.int .i64) r.2.2.2.2.2])] (.aP []) [(1000000000,.box [.iv (.int .i64) r.1,.iv (.int .i64) r.2.1,.iv (.int .i64) r.2.2.1,.iv .str r.2.2.2.1,.iv (.int .i64) n,.iv (.int .i64) r.2.2.2.2.2])]:=by
 refine HC.ao (m:=2000) ah JN rfl rfl rfl rfl (by kernel_rfl) ?_;intro hx hbl;simp only[Tryz.f127];simp only[go_sem,zA,↓reduceIte,↓reduceDIte,zB,zC,zD,zE,zF,zG,zH,zI]
 refine⟨_,Bo s 0 7 n h,?_⟩;simp only[go_sem,zA,↓reduceIte,↓reduceDIte,zB,zC,zD,zE,zF,zG,zH,zI];exact fun _=>trivial
theorem aw2(r:Rec)(s:bq)(h:eS 0 7 s=none):XH env 127 [.ref 1000000000 0,.iv .str s] [(1000000000,.box [.iv (.int .i64) r.1,.iv (.int .i64) r.2.1,.iv (.int .i64) r.2.2.1,.iv .str r.2.2.2.1,.iv (.int .i64) r.2.2.2.2.1,.iv (.int .i64) r.2.2.2.2.2])] [(1000000000,.box [.any,.any,.any,.any,.any,.any])]:=by
 refine XH.ao (m:=2000) ah JN rfl rfl rfl rfl (by kernel_rfl) ?_;intro hx hbl;simp only[Tryz.f127];simp only[go_sem,zA,↓reduceIte,↓reduceDIte,zB,zC,zD,zE,zF,zG,zH,zI]
 exact .inr (Bp s 0 7 h)
theorem ai1(r:Rec)(s:bq)(n:Int)(h:eS 1 1000 s=some n):HC env 128 [.ref 1000000000 0,.iv .str s] [(1000000000,.box [.iv (.int .i64) r.1,.iv (.int .i64) r.2.1,.iv (.int .i64) r.2.2.1,.iv .str r.2.2.2.1,.iv (.int .i64) r.2.2.2.2.1,.iv (.int .i64) r.2.2.2.2.2])] (.aP []) [(1000000000,.box [.iv (.int .i64) r.1,.iv (.int .i64) r.2.1,.iv (.int .i64) r.2.2.1,.iv .str r.2.2.2.1,.iv (.int .i64) r.2.2.2.2.1,.iv (.int .i64) n])]:=by
 refine HC.ao (m:=2000) ah JO rfl rfl rfl rfl (by kernel_rfl) ?_;intro hx hbl;simp only[Tryz.f128];simp only[go_sem,zA,↓reduceIte,↓reduceDIte,zB,zC,zD,zE,zF,zG,zH,zI]
 refine⟨_,Bo s 1 1000 n h,?_⟩;simp only[go_sem,zA,↓reduceIte,↓reduceDIte,zB,zC,zD,zE,zF,zG,zH,zI];exact fun _=>trivial
theorem aw3(r:Rec)(s:bq)(h:eS 1 1000 s=none):XH env 128 [.ref 1000000000 0,.iv .str s] [(1000000000,.box [.iv (.int .i64) r.1,.iv (.int .i64) r.2.1,.iv (.int .i64) r.2.2.1,.iv .str r.2.2.2.1,.iv (.int .i64) r.2.2.2.2.1,.iv (.int .i64) r.2.2.2.2.2])] [(1000000000,.box [.any,.any,.any,.any,.any,.any])]:=by
 refine XH.ao (m:=2000) ah JO rfl rfl rfl rfl (by kernel_rfl) ?_;intro hx hbl;simp only[Tryz.f128];simp only[go_sem,zA,↓reduceIte,↓reduceDIte,zB,zC,zD,zE,zF,zG,zH,zI]
 exact .inr (Bp s 1 1000 h)
end Go.Proofs.YtmgmonbmdkkhbaaGreatDoor
namespace Go.Proofs.YtmgmonbmdkkhbaaGreatDoor
open Go.RowKit
set_option maxHeartbeats 1000000
structure Ki(g1 g2:Nat)(e1 e2:TypeId)(w w':World):Prop where
 os:w'.os=w.os
 tape:w'.tape=w.tape
 output:w'.output=w.output
 drawn:w'.drawn=w.drawn
 size:w'.heap.size=w.heap.size
 other: ∀k,k≠g1→k≠g2→w'.heap[k]?=w.heap[k]?
 one:w'.heap[g1]?=some (.cells #[.int .i64 0,.int .i64 0,.int .i64 0,.string ⟨#[]⟩,.int .i64 0,.int .i64 0] e1 (0,0))
 two:w'.heap[g2]?=some (.cells #[.bool false] e2 (0,0))
theorem six {vs:Array Value} (h:vs.size=6): ∃a b c d e f,vs= #[a,b,c,d,e,f]:=by obtain⟨l⟩:=vs;match l,h with|[a,b,c,d,e,f],_=>exact⟨a,b,c,d,e,f,rfl⟩
theorem yK(g1 g2:Nat)(u:TypeId)(pv:Value)(vs:Array Value)(e1 e2:TypeId)(b:Value)(w:World)(h1:w.heap[g1]?=some (.cells vs e1 (0,0)))(hs:vs.size=6)(h2:w.heap[g2]?=some (.cells #[b] e2 (0,0)))(hne:g1≠g2):CallsD Tryz.prog 130 #[.pointer (some ⟨g1,0,none⟩),.pointer (some ⟨g2,0,none⟩)] (.panicking [{ v:=.iface u pv,recovered:=false }]) w fun e u' w'=>e= .returned (.tuple #[])∧u'= .panicking [{ v:=.iface u pv,recovered:=true }]∧Ki g1 g2 e1 e2 w w':=by
 obtain⟨c1,c2,c3,c4,c5,c6,rfl⟩:=six hs;have hne':g2≠g1:=Ne.symm hne;refine callsD_of_wpS Tryz.func130 rfl fun c₀ cs hu=>?_;apply wpS_seq;apply wpS_region;simp[wpOpsS,go_sem,recoverD,hu,Tryz.ntmps130,Exit.thenS]
 refine wpS_cond (t:=true) (by simp[Act.eval,Array.replicate]) ?_;simp only[if_true];apply wpS_region;simp[wpOpsS,go_sem,bodyPostS,results,Tryz.results130];(have k0:w.cell? ⟨g1,0,none⟩=some c1:=by simp[World.cell?,h1])
 (have f0:w.frozen? ⟨g1,0,none⟩=false:=by simp[World.frozen?,h1]);simp only[k0,f0,Bool.false_eq_true,if_false,Result.andThen_ok];obtain⟨w1,q1⟩: ∃x,x=w.setCell ⟨g1,0,none⟩ (.int .i64 0):=⟨_,rfl⟩
 (have j1:w1.heap[g1]?=some (.cells #[(.int .i64 0),c2,c3,c4,c5,c6] e1 (0,0)):=by rw[q1];simp[World.setCell,Array.getElem?_modify,h1]);(have o1: ∀k,k≠g1→w1.heap[k]?=w.heap[k]?:=fun k hk=>by rw[q1];simp[World.setCell,Array.getElem?_modify,Ne.symm hk])
 (have z1:w1.os=w.os∧w1.tape=w.tape∧w1.output=w.output∧w1.drawn=w.drawn∧w1.heap.size=w.heap.size:=by rw[q1];simp[World.setCell]);rw[←q1];(have k1:w1.cell? ⟨g1,1,none⟩=some c2:=by simp[World.cell?,j1])
 (have f1:w1.frozen? ⟨g1,1,none⟩=false:=by simp[World.frozen?,j1]);simp only[k1,f1,Bool.false_eq_true,if_false,Result.andThen_ok];obtain⟨w2,q2⟩: ∃x,x=w1.setCell ⟨g1,1,none⟩ (.int .i64 0):=⟨_,rfl⟩
 (have j2:w2.heap[g1]?=some (.cells #[(.int .i64 0),(.int .i64 0),c3,c4,c5,c6] e1 (0,0)):=by rw[q2];simp[World.setCell,Array.getElem?_modify,j1]);(have o2: ∀k,k≠g1→w2.heap[k]?=w1.heap[k]?:=fun k hk=>by rw[q2];simp[World.setCell,Array.getElem?_modify,Ne.symm hk])
 (have z2:w2.os=w1.os∧w2.tape=w1.tape∧w2.output=w1.output∧w2.drawn=w1.drawn∧w2.heap.size=w1.heap.size:=by rw[q2];simp[World.setCell]);rw[←q2];(have k2:w2.cell? ⟨g1,2,none⟩=some c3:=by simp[World.cell?,j2])
 (have f2:w2.frozen? ⟨g1,2,none⟩=false:=by simp[World.frozen?,j2]);simp only[k2,f2,Bool.false_eq_true,if_false,Result.andThen_ok];obtain⟨w3,q3⟩: ∃x,x=w2.setCell ⟨g1,2,none⟩ (.int .i64 0):=⟨_,rfl⟩
 (have j3:w3.heap[g1]?=some (.cells #[(.int .i64 0),(.int .i64 0),(.int .i64 0),c4,c5,c6] e1 (0,0)):=by rw[q3];simp[World.setCell,Array.getElem?_modify,j2]);(have o3: ∀k,k≠g1→w3.heap[k]?=w2.heap[k]?:=fun k hk=>by rw[q3];simp[World.setCell,Array.getElem?_modify,Ne.symm hk])
 (have z3:w3.os=w2.os∧w3.tape=w2.tape∧w3.output=w2.output∧w3.drawn=w2.drawn∧w3.heap.size=w2.heap.size:=by rw[q3];simp[World.setCell]);rw[←q3];(have k3:w3.cell? ⟨g1,3,none⟩=some c4:=by simp[World.cell?,j3])
 (have f3:w3.frozen? ⟨g1,3,none⟩=false:=by simp[World.frozen?,j3]);simp only[k3,f3,Bool.false_eq_true,if_false,Result.andThen_ok];obtain⟨w4,q4⟩: ∃x,x=w3.setCell ⟨g1,3,none⟩ (.string ⟨#[]⟩):=⟨_,rfl⟩
 (have j4:w4.heap[g1]?=some (.cells #[(.int .i64 0),(.int .i64 0),(.int .i64 0),(.string ⟨#[]⟩),c5,c6] e1 (0,0)):=by rw[q4];simp[World.setCell,Array.getElem?_modify,j3])
 (have o4: ∀k,k≠g1→w4.heap[k]?=w3.heap[k]?:=fun k hk=>by rw[q4];simp[World.setCell,Array.getElem?_modify,Ne.symm hk]);(have z4:w4.os=w3.os∧w4.tape=w3.tape∧w4.output=w3.output∧w4.drawn=w3.drawn∧w4.heap.size=w3.heap.size:=by rw[q4];simp[World.setCell])
 rw[←q4];(have k4:w4.cell? ⟨g1,4,none⟩=some c5:=by simp[World.cell?,j4]);(have f4:w4.frozen? ⟨g1,4,none⟩=false:=by simp[World.frozen?,j4]);simp only[k4,f4,Bool.false_eq_true,if_false,Result.andThen_ok]
 obtain⟨w5,q5⟩: ∃x,x=w4.setCell ⟨g1,4,none⟩ (.int .i64 0):=⟨_,rfl⟩;(have j5:w5.heap[g1]?=some (.cells #[(.int .i64 0),(.int .i64 0),(.int .i64 0),(.string ⟨#[]⟩),(.int .i64 0),c6] e1 (0,0)):=by rw[q5];simp[World.setCell,Array.getElem?_modify,j4])
 (have o5: ∀k,k≠g1→w5.heap[k]?=w4.heap[k]?:=fun k hk=>by rw[q5];simp[World.setCell,Array.getElem?_modify,Ne.symm hk]);(have z5:w5.os=w4.os∧w5.tape=w4.tape∧w5.output=w4.output∧w5.drawn=w4.drawn∧w5.heap.size=w4.heap.size:=by rw[q5];simp[World.setCell])
 rw[←q5];(have k5:w5.cell? ⟨g1,5,none⟩=some c6:=by simp[World.cell?,j5]);(have f5:w5.frozen? ⟨g1,5,none⟩=false:=by simp[World.frozen?,j5]);simp only[k5,f5,Bool.false_eq_true,if_false,Result.andThen_ok]
 obtain⟨w6,q6⟩: ∃x,x=w5.setCell ⟨g1,5,none⟩ (.int .i64 0):=⟨_,rfl⟩;(have j6:w6.heap[g1]?=some (.cells #[(.int .i64 0),(.int .i64 0),(.int .i64 0),(.string ⟨#[]⟩),(.int .i64 0),(.int .i64 0)] e1 (0,0)):=by rw[q6];simp[World.setCell,Array.getElem?_modify,j5])
 (have o6: ∀k,k≠g1→w6.heap[k]?=w5.heap[k]?:=fun k hk=>by rw[q6];simp[World.setCell,Array.getElem?_modify,Ne.symm hk]);(have z6:w6.os=w5.os∧w6.tape=w5.tape∧w6.output=w5.output∧w6.drawn=w5.drawn∧w6.heap.size=w5.heap.size:=by rw[q6];simp[World.setCell])
 rw[←q6];(have h22:w6.heap[g2]?=some (.cells #[b] e2 (0,0)):=by rw[o6 _ hne',o5 _ hne',o4 _ hne',o3 _ hne',o2 _ hne',o1 _ hne',h2]);(have k6:w6.cell? ⟨g2,0,none⟩=some b:=by simp[World.cell?,h22])
 (have f6:w6.frozen? ⟨g2,0,none⟩=false:=by simp[World.frozen?,h22]);simp[Oper.upon,go_sem,k6,f6,recoverD,hu];refine⟨by rw[show(w6.setCell ⟨g2,0,none⟩ (.bool false)).os=w6.os from by simp[World.setCell],z6.1,z5.1,z4.1,z3.1,z2.1,z1.1],by rw[show(w6.setCell ⟨g2,0,none⟩ (.bool false)).tape=w6.tape from by simp[World.setCell],z6.2.1,z5.2.1,z4.2.1,z3.2.1,z2.2.1,z1.2.1],by rw[show(w6.setCell ⟨g2,0,none⟩ (.bool false)).output=w6.output from by simp[World.setCell],z6.2.2.1,z5.2.2.1,z4.2.2.1,z3.2.2.1,z2.2.2.1,z1.2.2.1],by rw[show(w6.setCell ⟨g2,0,none⟩ (.bool false)).drawn=w6.drawn from by simp[World.setCell],z6.2.2.2.1,z5.2.2.2.1,z4.2.2.2.1,z3.2.2.2.1,z2.2.2.2.1,z1.2.2.2.1],by rw[show(w6.setCell ⟨g2,0,none⟩ (.bool false)).heap.size=w6.heap.size from by simp[World.setCell],z6.2.2.2.2,z5.2.2.2.2,z4.2.2.2.2,z3.2.2.2.2,z2.2.2.2.2,z1.2.2.2.2],fun k hk1 hk2=>?_,?_,?_⟩
 (·rw[show(w6.setCell ⟨g2,0,none⟩ (.bool false)).heap[k]?=w6.heap[k]? from by simp[World.setCell,Array.getElem?_modify,Ne.symm hk2],o6 k hk1,o5 k hk1,o4 k hk1,o3 k hk1,o2 k hk1,o1 k hk1])
 (·simp[World.setCell,Array.getElem?_modify,hne',j6]);·simp[World.setCell,Array.getElem?_modify,h22]
theorem Dh(g1 g2:Nat)(w:World):CallsD Tryz.prog 130 #[.pointer (some ⟨g1,0,none⟩),.pointer (some ⟨g2,0,none⟩)] .returning w fun e u' w'=>e= .returned (.tuple #[])∧u'= .returning∧w'=w:=by
 refine callsD_of_wpS Tryz.func130 rfl fun c₀ cs hu=>?_;apply wpS_seq;apply wpS_region;simp[wpOpsS,go_sem,recoverD,hu,Tryz.ntmps130,Exit.thenS];refine wpS_cond (t:=false) (by simp[Act.eval,Array.replicate]) ?_
 simp only[Bool.false_eq_true,if_false];refine wpS_of_wp (wp_skip ?_);cases c₀;simp_all[bodyPostS,results,Tryz.results130]
def fS(x Q i:Nat):Nat:=bif Nat.beq i x then Q else i
theorem Full.Q6 {n:Nat} {w0:World} {C:Cx} {s:St} {a:Act} {w:World} {ν:Nat→Value} {S:Nat→Prop} (h:Full n w0 C s a w ν S) {x Q:Nat} (hQ:look Q s.bl=none)(d:List Deferred):Full n w0 { C with ν:=fun i=>bif Nat.beq i Q then ν x else ν i,df:=d } (s.ew (fS x Q)) { a with defers:=d } w (fun i=>bif Nat.beq i Q then ν x else ν i) S:=by
 (have nQ: ∀i b,look i s.bl=some b→i≠Q:=fun i b hb e=>by rw[e,hQ]at hb;cases hb);(have hx:fS x Q x=Q:=by simp[fS]);(have hne: ∀i,i≠x→fS x Q i=i:=fun i hi=>by(have:Nat.beq i x=false:=by cases hb:Nat.beq i x with|false=>rfl|true=>exact absurd (Nat.eq_of_beq_eq_true hb) hi);simp[fS,this])
 (have inj: ∀i j b c,look i s.bl=some b→look j s.bl=some c→fS x Q i=fS x Q j→i=j:=fun i j b c hi hj e=>by by_cases h1:i=x;(·by_cases h2:j=x;(·rw[h1,h2]);·rw[h1,hx,hne j h2]at e;exact absurd e.symm (nQ j c hj));·by_cases h2:j=x;(·rw[h2,hx,hne i h1]at e;exact absurd e (nQ i b hi));·rw[hne i h1,hne j h2]at e;exact e)
 (have hν: ∀i b,look i s.bl=some b→(bif Nat.beq (fS x Q i) Q then ν x else ν (fS x Q i))=ν i:=fun i b hb=>by by_cases h1:i=x;(·subst h1;rw[hx];simp);·rw[hne i h1];(have:Nat.beq i Q=false:=by cases hq:Nat.beq i Q with|false=>rfl|true=>exact absurd (Nat.eq_of_beq_eq_true hq) (nQ i b hb));rw[this];rfl)
 have hlook: ∀i b,look i s.bl=some b→look (fS x Q i) (s.ew (fS x Q)).bl=some (b.map (PV.ek (fS x Q))):=fun i b hb=>fc (fun j c hc e=>inj j i c b hc hb e) hb;have hold: ∀i b,look i (s.ew (fS x Q)).bl=some b→ ∃j c,fS x Q j=i∧look j s.bl=some c∧b=c.map (PV.ek (fS x Q)):=fun i b hb=>iW (fun j k c e hc he hjk=>inj j k c e hc he hjk) hb
 have hle:Ctx.Lm (keys s.bl) (fS x Q) ⟨ν,s.D,w,⟨S,aB w0 C⟩⟩ ⟨fun i=>bif Nat.beq i Q then ν x else ν i,(s.ew (fS x Q)).D,w,⟨S,aB w0 C⟩⟩:=⟨fun _ _=>rfl,fun _ h=>h,fun i _⟨b,hb⟩=>⟨_,hlook i b hb⟩,fun i _⟨b,hb⟩=>hν i b hb⟩
 refine⟨h.below,h.zt,h.fresh,⟨h.W.lt,h.W.size,fun i b hb=>?_,fun i j b c hij hi hj g hg hg'=>?_⟩,fun t=>?_,h.size,rfl,h.nV,fun _ _ _=>rfl,h.BT⟩;(·obtain⟨j,c,rfl,hc,rfl⟩:=hold i b hb;have hr:=h.W.bM j c hc;exact l8 hle (na (fun _ h=>h) hr) (hν j c hc) (fun g hg=>⟨rfl,(eh hr hg).1,(eh hr hg).2.1⟩) hr)
 (·obtain⟨i',b',rfl,hb',_⟩:=hold i b hi;obtain⟨j',c',rfl,hc',_⟩:=hold j c hj;simp only[hν i' b' hb']at hg;simp only[hν j' c' hc']at hg';exact h.W.ne i' j' b' c' (fun e=>hij (by rw[e])) hb' hc' g hg hg')
 ·(have e:(s.ew (fS x Q)).get t=(s.get t).ew (fS x Q):=by simp only[St.get,St.ew,fk];cases look t s.sl<;>simp[PV.ew]);rw[e];have hs:=h.eV t;exact iV hle (jU (fun _ h=>h) hs) hs
theorem rR {w:World} {ν:Nat→Value} {bl:List (Nat×aL)} {S:Nat→Prop} (hT:nF w S)(hW:nE ⟨[],bl⟩ ν w ⟨S,aB w ⟨S,da ν bl,ν,[]⟩⟩):B8 w ⟨S,da ν bl,ν,[]⟩:=by
 refine⟨hT,fun g hg hX=>?_⟩;obtain⟨i,b,hb,hν⟩:=hX;exact(eh (hW.bM i b hb) hν).2.1 (hT g hg).1
structure qk(E:Env)(f n:Nat)(fn:Func)(rest:Code)(args:List PV)(g x1 x2:Nat)(s2:St):Prop where
 go: ∀(w:World)(C:Cx)(vs:List Value),C.df=[]→B8 w C→nE ⟨[],[]⟩ C.ν w ⟨C.S,aB w C⟩→aj ⟨C.ν,(⟨[],[]⟩:St).D,w,⟨C.S,aB w C⟩⟩ args vs→ ∀cs:List Frame,∃(b:Frame)(a:Act)(w2:World)(ν:Nat→Value)(S:Nat→Prop)(g1 g2:Nat),b.fn=f∧b.kind= .normal∧Full n w C s2 a w2 ν S∧ν x1= .pointer (some ⟨g1,0,none⟩)∧ν x2= .pointer (some ⟨g2,0,none⟩)∧Steps E.P (lone (Frame.enter E.P f vs.toArray .normal) cs w) (lone (b.at { a with defers:=[⟨.fn (.func g) #[.pointer (some ⟨g1,0,none⟩),.pointer (some ⟨g2,0,none⟩)],#[]⟩] } [.code rest]) cs w2)
theorem Gm {E:Env} (hE:aE E) {f n:Nat} {fn:Func} {i0 i1:Nat} {oa ob o2 o3:Oper} {rest:Code} {args:List PV} {g x1 x2 y:Nat} {s0 s1 s2:St} (cC:E.P.funcs[f]?=some fn)(hb:fn.body=some (.seq (.region i0 #[oa,ob] false) (.seq (.region i1 #[o2,o3] false) rest)))(hn:fn.ntmps=n)(hlen:Nat.ble args.length n=true)(hfew:Nat.ble n 100000=true)(oka:bK n oa=true)(okb:bK n ob=true)(ok2:bK n o2=true)(ok3:bK n o3=true)(hga:oa.guard=none)(hgb:ob.guard=none)(hg2:o2.guard=none)(hg3:o3.guard=none)(hd3:o3.dst=none)(hra:aR E (ai E ⟨[],true⟩ ⟨bP 0 args,[]⟩ oa) (fun l=>(⟨bP 0 args,[]⟩:St).fin oa.dst l=s0))(hrb:aR E (ai E ⟨[],true⟩ s0 ob) (fun l=>s0.fin ob.dst l=s1))(hr2:aR E (ai E ⟨[],true⟩ s1 o2) (fun l=>s1.fin o2.dst l=s2))(hop3:o3.op= .defer { callee:=.value (.tmp y),args:= #[],argTypes:= #[] })(hy:s2.get y= .fn g [.ref x1 0,.ref x2 0]):qk E f n fn rest args g x1 x2 s2:=by
 refine⟨fun w C vs hdf htab hrel hps cs=>?_⟩;have hvl:vs.length=args.length:=(bS hps).symm;have hle:=Nat.le_of_ble_eq_true hlen;let b:Frame:= { (default:Frame)with fn:=f,kind:=.normal } 
 (have henter:Frame.enter E.P f vs.toArray .normal=b.at { tmps:=vs.toArray++Array.replicate (fn.ntmps-vs.toArray.size) undef,defers:=[] } [.code (.seq (.region i0 #[oa,ob] false) (.seq (.region i1 #[o2,o3] false) rest))]:=by simp[Frame.enter,Frame.at,cC,hb,b])
 (have hrel0:Rel n w C ⟨bP 0 args,[]⟩ { tmps:=vs.toArray++Array.replicate (fn.ntmps-vs.toArray.size) undef,defers:=[] } w:=by refine⟨C.ν,C.S,Kept.refl _ _,fun _ h=>h,fun _ h=>.inl h,⟨hrel.lt,hrel.size,hrel.bM,hrel.ne⟩,fun t=>?_,?_,hdf.symm,Nat.le_of_ble_eq_true hfew,fun _ _ _=>rfl,htab⟩;(·unfold St.get;split;(·rename_i q hp;obtain⟨_,v,hv,hr⟩:=mf args vs 0 t q hps hp;(have htl:t<vs.length:=by rw[Nat.sub_zero]at hv;exact(List.getElem?_eq_some_iff.1 hv).1);(have:(vs.toArray++Array.replicate (fn.ntmps-vs.toArray.size) undef).getD t undef=v:=by rw[Array.getD_eq_getD_getElem?,Array.getElem?_append_left (by simpa using htl)];rw[Nat.sub_zero]at hv;simp[hv]);rw[this];exact hr);·simp only[ag]);·simp only[Array.size_append,List.size_toArray,Array.size_replicate,hn];omega)
 have hdf0:C.df=[]:=hdf;(have h0:(Code.region i0 #[oa,ob] false).wp E.P (fun e a' w'=>e= .normal∧Rel n w C s1 a' w') { tmps:=vs.toArray++Array.replicate (fn.ntmps-vs.toArray.size) undef,defers:=[] } w:=by refine wp_region_list ?_;refine wpList_step fun K hK=>?_;(have hwa:Region.wanted oa (yielded #[oa,ob] ({ tmps:=vs.toArray++Array.replicate (fn.ntmps-vs.toArray.size) undef,defers:=[] } :Act).tmps)=true:=by simp[Region.wanted,hga]);rw[if_pos hwa];obtain⟨ν1,S1,hf1⟩:=hrel0.full;refine Oper.wp_mono (fun a' w'⟨s',e,hrel2⟩=>hK a' w' ?_) (gG (K:=fun s=>s=s0) hE hf1 oka hra);subst e;refine wpList_step fun K' hK'=>?_;(have hwb:Region.wanted ob (yielded #[oa,ob] a'.tmps)=true:=by simp[Region.wanted,hgb]);rw[if_pos hwb];obtain⟨ν2,S2,hf2⟩:=hrel2.full;refine Oper.wp_mono (fun a'' w''⟨s'',e,hrel3⟩=>hK' a'' w'' ?_) (gG (K:=fun s=>s=s1) hE hf2 okb hrb);subst e;exact⟨rfl,hrel3⟩)
 obtain⟨e1,a1,w1,⟨rfl,hrel1⟩,harr1⟩:=h0 b [.code (.seq (.region i1 #[o2,o3] false) rest)] cs;(have h1:(Code.region i1 #[o2,o3] false).wp E.P (fun e a' w'=>e= .normal∧ ∃(a:Act)(ν:Nat→Value)(S:Nat→Prop)(g1 g2:Nat),Full n w C s2 a w' ν S∧ν x1= .pointer (some ⟨g1,0,none⟩)∧ν x2= .pointer (some ⟨g2,0,none⟩)∧a'= { a with defers:=[⟨.fn (.func g) #[.pointer (some ⟨g1,0,none⟩),.pointer (some ⟨g2,0,none⟩)],#[]⟩] }) a1 w1:=by refine wp_region_list ?_;refine wpList_step fun K hK=>?_;(have hw2:Region.wanted o2 (yielded #[o2,o3] a1.tmps)=true:=by simp[Region.wanted,hg2]);rw[if_pos hw2];obtain⟨ν1,S1,hf1⟩:=hrel1.full;refine Oper.wp_mono (fun a' w'⟨s',e,hrel2⟩=>hK a' w' ?_) (gG (K:=fun s=>s=s2) hE hf1 ok2 hr2);subst e;refine wpList_step fun K' hK'=>?_;(have hw3:Region.wanted o3 (yielded #[o2,o3] a'.tmps)=true:=by simp[Region.wanted,hg3]);rw[if_pos hw3];obtain⟨ν,S,hf⟩:=hrel2.full;have hs:=hf.eV y;rw[hy]at hs;simp only[ag,aj]at hs;obtain⟨cvs,hcl,v0,r0,rfl,hv0,v1,r1,rfl,hv1,rfl⟩:=hs;obtain⟨_,gg1,e1,e2⟩:=hv0;obtain⟨_,gg2,e3,e4⟩:=hv1;(have hev:a'.eval (.tmp y)= .func (.func g) #[] #[.pointer (some ⟨gg1,0,none⟩),.pointer (some ⟨gg2,0,none⟩)]:=by show a'.tmps.getD y undef=_;rw[hcl,e2,e4]);(have hrun:(execOp a'.eval o3).run E.P w'= .ok (.defer ⟨.fn (.func g) #[.pointer (some ⟨gg1,0,none⟩),.pointer (some ⟨gg2,0,none⟩)],#[]⟩) w':=by simp[execOp,hop3,resolve,hev,Deferred.ofValue]);unfold Oper.wp;rw[hrun];refine hK' _ _ ?_;have hdf':a'.defers=[]:=hf.defers.trans hdf;refine⟨rfl,a',ν,S,gg1,gg2,hf,e1,e3,?_⟩;rw[hd3];show({ a' with defers:=_::a'.defers } :Act)=_;rw[hdf'])
 obtain⟨e2,a2,w2,⟨rfl,a,ν,S,gg1,gg2,hf,hx1,hx2,rfl⟩,harr2⟩:=h1 b [.code rest] cs;refine⟨b,a,w2,ν,S,gg1,gg2,rfl,rfl,hf,hx1,hx2,?_⟩;rw[henter];exact((Steps.one step_seq).trans harr1).trans ((Steps.one step_seq).trans harr2)
theorem EV {ν:Nat→Value} {g:Nat} : ¬da ν [] g:=by rintro⟨i,b,hb,_⟩;cases hb
theorem HC.Di {E:Env} (hE:aE E) {f n m:Nat} {fn:Func} {rest:Code} {args:List PV} {p:PV} {g x1 x2 Q1 Q2:Nat} {s2:St} (cC:E.P.funcs[f]?=some fn)(hat:qk E f n fn rest args g x1 x2 s2)(hQ1:look Q1 s2.bl=none)(hQ2:look Q2 (s2.ew (fS x1 Q1)).bl=none)(hok:rB (y9 E f Eo (jz E) pV) n [.code rest]=true)(hidle: ∀(g1 g2:Nat)(w:World),CallsD E.P g #[.pointer (some ⟨g1,0,none⟩),.pointer (some ⟨g2,0,none⟩)] .returning w fun e u' w'=>e= .returned (.tuple #[])∧u'= .returning∧w'=w)(hinv: ∀(p1 p2:Addr)(w:World),(invoke (.fn (.func g) #[.pointer (some p1),.pointer (some p2)]) #[]).run E.P w= .ok (.enter g #[.pointer (some p1),.pointer (some p2)]) w)(h:ug args→PW E ⟨f,n,fn.results.toList,p,[],none,false,.fn⟩ m [.code rest] ((s2.ew (fS x1 Q1)).ew (fS x2 Q2))):HC E f args [] p []:=by
 intro w S0 ν0 vs a1 a2 a3 a4 a5 a6 cs;have hW:=ay hE (G:=⟨f,n,fn.results.toList,p,[],none,false,.fn⟩) ⟨fn,cC,rfl⟩ m _ _ hok (h (nh a6));obtain⟨b,a,w2,ν,S,gg1,gg2,hbf,hbk,hf,hx1,hx2,hst⟩:=hat.go w ⟨S0,da ν0 [],ν0,[]⟩ vs rfl (rR a2 a5) a5 a6 cs
 obtain⟨u,a3',w3,td,hpost,hst2⟩:=av.at ⟨fn,cC,rfl⟩ rfl hW ((hf.Q6 (x:=x1) (Q:=Q1) hQ1 [⟨.fn (.func g) #[.pointer (some ⟨gg1,0,none⟩),.pointer (some ⟨gg2,0,none⟩)],#[]⟩]).Q6 (x:=x2) (Q:=Q2) hQ2 [⟨.fn (.func g) #[.pointer (some ⟨gg1,0,none⟩),.pointer (some ⟨gg2,0,none⟩)],#[]⟩]).rel b cs hbf hbk
 cases u with|run=>exact hpost.elim|panicking ch=>exact absurd hpost.1 (by simp)|returning=>obtain⟨_,hdf,fn',v,h3,h4,h5⟩:=hpost;have h3':E.P.funcs[f]?=some fn':=h3;rw[cC]at h3';injection h3' with h3';subst h3';(have hfin:hH w ⟨S0,da ν0 [],ν0,[]⟩ p [] v w3:=by obtain⟨hk,ν',S',k1,k2,k3,hW',hv⟩:=h5;exact⟨hk,ν',S',k1,k2,fun i hi⟨b',hb'⟩=>(by cases hb'),⟨hW'.lt,hW'.size,fun i b hb=>(by cases hb),fun i j b c hij hi=>(by cases hi)⟩,hv⟩);(have hL:Leaves E.P fn a3'.tmps (fun e w'=> ∃v,e= .returned v∧hH w ⟨S0,da ν0 [],ν0,[]⟩ p [] v w') [⟨.fn (.func g) #[.pointer (some ⟨gg1,0,none⟩),.pointer (some ⟨gg2,0,none⟩)],#[]⟩] .returning w3:=by refine leaves_cons (f:=g) (args:= #[.pointer (some ⟨gg1,0,none⟩),.pointer (some ⟨gg2,0,none⟩)]) (by simp) ?_ ?_;(·exact hinv _ _ _);·refine(hidle gg1 gg2 w3).mono ?_;rintro e u' w'⟨rfl,rfl,rfl⟩;exact⟨v,h4,v,rfl,hfin⟩);obtain⟨e,w',fr',hR,hc,hfn',hl⟩:=leaves_steps [⟨.fn (.func g) #[.pointer (some ⟨gg1,0,none⟩),.pointer (some ⟨gg2,0,none⟩)],#[]⟩] .returning w3 { b.at a3' td with mode:=.returning } cs rfl hdf rfl (by show E.P.funcs[b.fn]?=some fn;rw[hbf];exact cC) hbk hL;refine⟨e,w',fr',hR,Comes.of_steps (hst.trans hst2) hc,?_,hl⟩;rw[hfn'];exact hbf
theorem HC.Dj {E:Env} (hE:aE E) {f n m:Nat} {fn:Func} {rest:Code} {args:List PV} {bl1:List (Nat×aL)} {T:Ty} {r:T.den} {v:Value} {g x1 x2 Q1 Q2:Nat} {s2:St} {t1 t2:Option Nat} {q1 q2 q3 q4 q5 q6 q7:PV} (cC:E.P.funcs[f]?=some fn)(hat:qk E f n fn rest args g x1 x2 s2)(hQ1:look Q1 s2.bl=none)(hQ2:look Q2 (s2.ew (fS x1 Q1)).bl=none)(hP1:P0≤Q1)(hP2:P0≤Q2)(hQ:Q1≠Q2)(hx:x2≠Q1)(hb1:look Q1 bl1=some (.box [q1,q2,q3,q4,q5,q6] t1))(hb2:look Q2 bl1=some (.box [q7] t2))(hok:rB (y9 E f Eo (jz E) pV) n [.code rest]=true)(hcatch: ∀(g1 g2:Nat)(u:TypeId)(pv:Value)(vs:Array Value)(e1 e2:TypeId)(b:Value)(w:World),w.heap[g1]?=some (.cells vs e1 (0,0))→vs.size=6→w.heap[g2]?=some (.cells #[b] e2 (0,0))→g1≠g2→CallsD E.P g #[.pointer (some ⟨g1,0,none⟩),.pointer (some ⟨g2,0,none⟩)] (.panicking [{ v:=.iface u pv,recovered:=false }]) w fun e u' w'=>e= .returned (.tuple #[])∧u'= .panicking [{ v:=.iface u pv,recovered:=true }]∧Ki g1 g2 e1 e2 w w')(hinv: ∀(p1 p2:Addr)(w:World),(invoke (.fn (.func g) #[.pointer (some p1),.pointer (some p2)]) #[]).run E.P w= .ok (.enter g #[.pointer (some p1),.pointer (some p2)]) w)(hload: ∀(tmps:Array Value)(g1 g2:Nat)(e1 e2:TypeId)(w:World),tmps.getD x1 undef= .pointer (some ⟨g1,0,none⟩)→tmps.getD x2 undef= .pointer (some ⟨g2,0,none⟩)→w.heap[g1]?=some (.cells #[.int .i64 0,.int .i64 0,.int .i64 0,.string ⟨#[]⟩,.int .i64 0,.int .i64 0] e1 (0,0))→w.heap[g2]?=some (.cells #[.bool false] e2 (0,0))→(results fn tmps).run E.P w= .ok v w)(how:aJ T=0)(hrep: ∀w M,jD T r w M v)(h:ug args→PW E ⟨f,n,fn.results.toList,.fn x1 [.ref Q1 0,.fn x2 [.ref Q2 0]],bl1,none,true,.fn⟩ m [.code rest] ((s2.ew (fS x1 Q1)).ew (fS x2 Q2))):HC E f args [] (.iv T r) []:=by
 intro w S0 ν0 vs a1 a2 a3 a4 a5 a6 cs;have hW:=ay hE (G:=⟨f,n,fn.results.toList,.fn x1 [.ref Q1 0,.fn x2 [.ref Q2 0]],bl1,none,true,.fn⟩) ⟨fn,cC,rfl⟩ m _ _ hok (h (nh a6))
 obtain⟨b,a,w2,ν,S,gg1,gg2,hbf,hbk,hf,hx1,hx2,hst⟩:=hat.go w ⟨S0,da ν0 [],ν0,[]⟩ vs rfl (rR a2 a5) a5 a6 cs;obtain⟨u,a3',w3,td,hpost,hst2⟩:=av.at ⟨fn,cC,rfl⟩ rfl hW ((hf.Q6 (x:=x1) (Q:=Q1) hQ1 [⟨.fn (.func g) #[.pointer (some ⟨gg1,0,none⟩),.pointer (some ⟨gg2,0,none⟩)],#[]⟩]).Q6 (x:=x2) (Q:=Q2) hQ2 [⟨.fn (.func g) #[.pointer (some ⟨gg1,0,none⟩),.pointer (some ⟨gg2,0,none⟩)],#[]⟩]).rel b cs hbf hbk
 (have beq_ne: ∀ {i j:Nat},i≠j→Nat.beq i j=false:=fun {i j} h=>by cases hb:Nat.beq i j with|false=>rfl|true=>exact absurd (Nat.eq_of_beq_eq_true hb) h);cases u with|run=>exact hpost.elim|returning=>exact absurd hpost.1 (by simp)|panicking ch=>obtain⟨_,hdf,⟨tt,uu,rfl⟩,hkeep,h5⟩:=hpost;(have hk1:a3'.tmps.getD x1 undef= .pointer (some ⟨gg1,0,none⟩):=by rw[hkeep x1 Q1 (by simp[jl])];show(bif Nat.beq Q1 Q2 then(bif Nat.beq x2 Q1 then ν x1 else ν x2)else(bif Nat.beq Q1 Q1 then ν x1 else ν Q1))=_;rw[beq_ne hQ];simp[hx1]);(have hk2:a3'.tmps.getD x2 undef= .pointer (some ⟨gg2,0,none⟩):=by rw[hkeep x2 Q2 (by simp[jl])];show(bif Nat.beq Q2 Q2 then(bif Nat.beq x2 Q1 then ν x1 else ν x2)else _)=_;rw[beq_ne hx];simp[hx2]);obtain⟨hk,ν',S',k1,k2,k3,hW',_⟩:=h5;obtain⟨_,g1',vs1,e1,m1,o1,_,m2,_,m3⟩:=hW'.bM Q1 _ hb1;obtain⟨_,g2',vs2,e2,n1,o2,_,n2,_,n3⟩:=hW'.bM Q2 _ hb2;have hq1:=k3 Q1 hP1 ⟨_,hb1⟩;have hq2:=k3 Q2 hP2 ⟨_,hb2⟩;(have hq1:ν' Q1= .pointer (some ⟨gg1,0,none⟩):=by rw[hq1];show(bif Nat.beq Q1 Q2 then(bif Nat.beq x2 Q1 then ν x1 else ν x2)else(bif Nat.beq Q1 Q1 then ν x1 else ν Q1))=_;rw[beq_ne hQ];simp[hx1]);(have hq2:ν' Q2= .pointer (some ⟨gg2,0,none⟩):=by rw[hq2];show(bif Nat.beq Q2 Q2 then(bif Nat.beq x2 Q1 then ν x1 else ν x2)else _)=_;rw[beq_ne hx];simp[hx2]);dsimp only at m1 n1 m2 n2 o1 o2;(have hgne:gg1≠gg2:=by intro e;refine hW'.ne Q1 Q2 _ _ hQ hb1 hb2 gg1 (by rw[hq1];rfl) ?_;rw[hq2,←e];rfl);rw[hq1]at m1;rw[hq2]at n1;injection m1 with m1;injection m1 with m1;injection m1 with m1;injection n1 with n1;injection n1 with n1;injection n1 with n1;subst m1;subst n1;have hf1:w.heap.size≤gg1:=o1.resolve_right EV;have hf2:w.heap.size≤gg2:=o2.resolve_right EV;(have hs1:vs1.size=6:=by have:=bS m3;simpa using this.symm);(have hs2: ∃z,vs2= #[z]:=by have:=bS n3;obtain⟨l⟩:=vs2;match l,this with|[z],_=>exact⟨z,rfl⟩);obtain⟨z,rfl⟩:=hs2;(have hL:Leaves E.P fn a3'.tmps (fun e w'=> ∃v,e= .returned v∧hH w ⟨S0,da ν0 [],ν0,[]⟩ (.iv T r) [] v w') [⟨.fn (.func g) #[.pointer (some ⟨gg1,0,none⟩),.pointer (some ⟨gg2,0,none⟩)],#[]⟩] (.panicking [{ v:=.iface tt uu,recovered:=false }]) w3:=by refine leaves_cons (f:=g) (args:= #[.pointer (some ⟨gg1,0,none⟩),.pointer (some ⟨gg2,0,none⟩)]) (by simp) (hinv _ _ _) ?_;refine(hcatch gg1 gg2 tt uu vs1 e1 e2 z w3 m2 hs1 n2 hgne).mono ?_;rintro e u' w'⟨rfl,rfl,hcg⟩;refine⟨v,hload _ gg1 gg2 e1 e2 w' hk1 hk2 hcg.one hcg.two,v,rfl,?_,ν',S',k1,k2,fun i hi⟨b',hb'⟩=>(by cases hb'),⟨fun b hb=>?_,fun b hb=>?_,fun i b hb=>(by cases hb),fun i j b c hij hi=>(by cases hi)⟩,?_⟩;(·refine⟨hcg.os.trans hk.os,hcg.tape.trans hk.tape,hcg.output.trans hk.output,by rw[hcg.size];exact hk.size,fun k h1 h2=>?_,fun hd=>by rw[hcg.drawn];exact hk.drawn hd⟩;rw[hcg.other k (by omega) (by omega)];exact hk.block k h1 h2);(·rw[hcg.size];exact hW'.lt b hb);(·rw[hcg.size]at hb;exact hW'.size b hb);·simp only[ag];exact⟨how,hrep _ _⟩);obtain⟨e,w',fr',hR,hcm,hfn',hl⟩:=leaves_steps [⟨.fn (.func g) #[.pointer (some ⟨gg1,0,none⟩),.pointer (some ⟨gg2,0,none⟩)],#[]⟩] (.panicking [{ v:=.iface tt uu,recovered:=false }]) w3 { b.at a3' td with mode:=.panicking [{ v:=.iface tt uu,recovered:=false }] } cs rfl hdf rfl (by show E.P.funcs[b.fn]?=some fn;rw[hbf];exact cC) hbk hL;refine⟨e,w',fr',hR,Comes.of_steps (hst.trans hst2) hcm,?_,hl⟩;rw[hfn'];exact hbf
end Go.Proofs.YtmgmonbmdkkhbaaGreatDoor
