/- Contracts: lists of orders by places; Forget. Nothing here is trusted; no condition. -/
import Derived.Test.YtmgmonbmdkkhbaaGreatDoorC2
import Derived.Shelf.SlSortCmp.WholeK
import Derived.Test.YtmgmonbmdkkhbaaGreatDoorProg
set_option linter.unusedSimpArgs false
set_option linter.unusedVariables false
open Nat renaming reduceBEq→zA,reduceAdd→zB,reduceSub→zC,reduceMul→zD,reduceLeDiff→zE
open Int renaming reduceLT→zF,reduceLE→zG,reduceToNat→zH,reduceNeg→zI
namespace Go.Proofs.YtmgmonbmdkkhbaaGreatDoor
variable {c8:Prop} [hZ c8]
def hid(ks:List Nat):List (Nat×aL)→List Nat|[]=>[]|p::r=>bif al p.1 ks then hid ks r else p.1::hid ks r
theorem aE8 {ks:List Nat} {i:Nat} (hk:al i ks=false): ∀ {bl:List (Nat×aL)} {b:aL},look i bl=some b→al i (hid ks bl)=true|[],b,h=>(by cases h)|p::r,b,h=>by simp only[look]at h;simp only[hid];cases hb:Nat.beq i p.1 with|true=>have e:=Nat.eq_of_beq_eq_true hb;subst e;rw[hk,cond_false];simp only[al,hb,cond_true]|false=>rw[hb,cond_false]at h;have ih:=aE8 hk h;cases hm:al p.1 ks;(·simp only[cond_false,al,hb];exact ih);·simp only[cond_true];exact ih
theorem av.aK1 {E:Env} {G:Goal} {todo:List WI} {s:St} (ks:List Nat)(t:Nat)(T:Ty)(x:T.den)(ho:aJ T=0)(he:exp ⟨hid ks s.bl,true⟩ s.bl T (s.get t)=some x)(h:av E G todo ((s.aN ks).set t (.iv T x))):av E G todo s:=by
 intro w0 S0 a w hr;obtain⟨ν,S,hf⟩:=hr.full;have hs:=hf.dp ks;(have hR:Reads ⟨hid ks s.bl,true⟩ s ⟨ν,s.D,w,⟨S,aB w0 S0⟩⟩ ⟨jT S s ν ks,aB w0 S0⟩:=by refine⟨rfl,hf.W.bM,fun b hb=>.inl hb,fun i hi hd g hg=>.inr ⟨i,?_,hd,hg⟩⟩;cases hk:al i ks with|true=>rfl|false=>obtain⟨b,hb⟩:=hd;have:=aE8 hk hb;rw[this]at hi;cases hi)
 have hv:=dX hR (.inl ho) he (hf.eV t);refine h w0 S0 a w (Full.rel (ν:=ν) (S:=jT S s ν ks) ⟨hs.below,hs.zt,hs.fresh,⟨hs.W.lt,hs.W.size,hs.W.bM,hs.W.ne⟩,fun u=>?_,hs.size,hs.defers,hs.nV,hs.kept,hs.BT⟩)
 have h0:=hs.eV u;unfold St.get St.set;simp only[look];cases hb:Nat.beq u t with|true=>have e:=Nat.eq_of_beq_eq_true hb;subst e;simp only[cond_true,ag];exact⟨ho,FF hv⟩|false=>simp only[cond_false];exact h0
def Env.skip(E:Env)(i:Nat):Env:= { E with xy:=fun f j=>match Nat.beq j i with|true=>false|false=>E.xy f j }
theorem aE.skip {E:Env} (h:aE E)(i:Nat):aE (E.skip i):=⟨h.ty,h.fn,h.res,h.cC,h.cmp,h.mapKey,h.mixed,h.E7,h.K7,h.emp,h.zi⟩
section
variable {E:Env} {j:Nat}
theorem aI8:(E.skip j).P=E.P:=rfl
theorem aG5 {t:Nat} :(E.skip j).ty t=E.ty t:=rfl
theorem aE9 {t:Nat} :(E.skip j).str t=E.str t:=rfl
theorem aF0 {t:Nat} :(E.skip j).cmp t=E.cmp t:=rfl
theorem aG6 {t:Nat} :(E.skip j).fn t=E.fn t:=rfl
theorem aF1 {t:Nat} :(E.skip j).cC t=E.cC t:=rfl
theorem aF2 {t:Nat} :(E.skip j).mapKey t=E.mapKey t:=rfl
theorem aG7 {d t:Nat} :(E.skip j).ro d t=E.ro d t:=rfl
theorem aG8:(E.skip j).tm=E.tm:=rfl
theorem aG9 {t:Nat} :(E.skip j).G5 t=E.G5 t:=rfl
theorem aH0 {t:Nat} :(E.skip j).E7 t=E.E7 t:=rfl
theorem aH1 {t:Nat} :(E.skip j).nd t=E.nd t:=rfl
theorem aE2 {t:Nat} {m:String} :(E.skip j).zi t m=E.zi t m:=rfl
theorem aF3 {t:Nat} :(E.skip j).K7 t=E.K7 t:=rfl
theorem aH2 {t:Nat} :(E.skip j).px t=E.px t:=rfl
theorem aH3 {f i:Nat} :(E.skip j).fl f i=E.fl f i:=rfl
theorem aF4 {t:Nat} :(E.skip j).emp t=E.emp t:=rfl
theorem aF5 {f i:Nat} :(E.skip j).xy f i=match Nat.beq i j with|true=>false|false=>E.xy f i:=rfl
theorem aH4 {f:Nat} {xs:List (Sigma Ty.den)} {T:Ty} {r:T.den} :PC (E.skip j) f xs T r=PC E f xs T r:=rfl
theorem aH5 {f:Nat} {xs:List (Sigma Ty.den)} {T:Ty} {Y:T.den→Prop} :PN (E.skip j) f xs T Y=PN E f xs T Y:=rfl
theorem aH6 {f:Nat} {args:List PV} {bl bl':List (Nat×aL)} {p:PV} :HC (E.skip j) f args bl p bl'=HC E f args bl p bl':=rfl
theorem aH7 {f:Nat} {args:List PV} {bl:List (Nat×aL)} {T:Ty} {Y:T.den→Prop} {p:T.den→PV} {bl':T.den→List (Nat×aL)} :HN (E.skip j) f args bl T Y p bl'=HN E f args bl T Y p bl':=rfl
theorem aH8 {f:Nat} {xs:List (Sigma Ty.den)} :XC (E.skip j) f xs=XC E f xs:=rfl
theorem aH9 {f:Nat} {args:List PV} {bl bl':List (Nat×aL)} :XH (E.skip j) f args bl bl'=XH E f args bl bl':=rfl
theorem aD4 {G:Goal} {k:List WI} {s:St} :av (E.skip j) G k s=av E G k s:=rfl
end
attribute[go_sem]aI8 aG5 aE9 aF0 aG6 aF1 aF2 aG7 aG8 aG9 aH0 aH1 aE2 aF3 aH2 aH3 aF4 aF5 aH4 aH5 aH6 aH7 aH8 aH9 aD4
theorem aE3(j:Nat) {E:Env} (hE:aE E) {G:Goal} (hG:x8 E G)(m:Nat)(todo:List WI)(s:St)(cP:rB (y9 (E.skip j) G.f Eo (jz (E.skip j)) pV) G.n todo=true)(h:PW (E.skip j) G m todo s):av E G todo s:=ay (E:=E.skip j) (hE.skip j) ⟨hG.1⟩ m todo s cP h
theorem av.aK2 {E:Env} {G:Goal} {todo:List WI} {s:St} (sl:List (Nat×PV))(bl:List (Nat×aL))(h: ∀b1 b2,uJ (sl.map (·.1)) s.sl=b1→uK (keys bl) s.bl=b2→Le s ⟨sl++b1,bl++b2⟩∧av E G todo ⟨sl++b1,bl++b2⟩):av E G todo s:=av.weaken (h _ _ rfl rfl).1 (h _ _ rfl rfl).2
end Go.Proofs.YtmgmonbmdkkhbaaGreatDoor
namespace Go.Proofs.YtmgmonbmdkkhbaaGreatDoor
open Go.Shelf
set_option maxRecDepth 100000
def aE4:Go.Shelf.Ren:=⟨fun|6=>26|15=>67|14=>66|28=>117|29=>118|20=>109|21=>110|22=>111|23=>112|24=>113|25=>114|26=>115|27=>116|46=>146|47=>147|48=>148|49=>149|50=>150|57=>160|n=>n,fun|22=>25|24=>39|25=>77|3=>3|39=>136|0=>0|53=>178|55=>180|4=>4|46=>172|45=>171|50=>151|5=>5|9=>9|66=>200|70=>204|76=>213|77=>214|n=>n,fun|n=>n⟩
theorem aJ3 : Go.Proofs.SlLaysF0.n6 Tryz.prog aE4 := {
  mixed := by kernel_rfl
  f6 := ⟨Tryz.f26.name, by decide, Tryz.func26.trans (congrArg some (by kernel_rfl))⟩
  f14 := ⟨Tryz.f66.name, by decide, Tryz.func66.trans (congrArg some (by kernel_rfl))⟩
  f15 := Tryz.func67.trans (congrArg some (by kernel_rfl))
  f20 := ⟨Tryz.f109.name, by decide, Tryz.func109.trans (congrArg some (by kernel_rfl))⟩
  f21 := ⟨Tryz.f110.name, by decide, Tryz.func110.trans (congrArg some (by kernel_rfl))⟩
  f22 := ⟨Tryz.f111.name, by decide, Tryz.func111.trans (congrArg some (by kernel_rfl))⟩
  f23 := ⟨Tryz.f112.name, by decide, Tryz.func112.trans (congrArg some (by kernel_rfl))⟩
  f24 := ⟨Tryz.f113.name, by decide, Tryz.func113.trans (congrArg some (by kernel_rfl))⟩
  f25 := ⟨Tryz.f114.name, by decide, Tryz.func114.trans (congrArg some (by kernel_rfl))⟩
  f26 := ⟨Tryz.f115.name, by decide, Tryz.func115.trans (congrArg some (by kernel_rfl))⟩
  f27 := ⟨Tryz.f116.name, by decide, Tryz.func116.trans (congrArg some (by kernel_rfl))⟩
  f28 := Tryz.func117.trans (congrArg some (by kernel_rfl))
  f29 := Tryz.func118.trans (congrArg some (by kernel_rfl))
  f46 := ⟨Tryz.f146.name, by decide, Tryz.func146.trans (congrArg some (by kernel_rfl))⟩
  f47 := Tryz.func147.trans (congrArg some (by kernel_rfl))
  f48 := Tryz.func148.trans (congrArg some (by kernel_rfl))
  f49 := ⟨Tryz.f149.name, by decide, Tryz.func149.trans (congrArg some (by kernel_rfl))⟩
  f50 := ⟨Tryz.f150.name, by decide, Tryz.func150.trans (congrArg some (by kernel_rfl))⟩
  f57 := ⟨Tryz.f160.name, by decide, Tryz.func160.trans (congrArg some (by kernel_rfl))⟩
  t0 := Tryz.underlying0
  a0 := Tryz.isAgg0
  z0 := Tryz.sizeOf0
  v0 := Tryz.zeroValue0
  t3 := Tryz.underlying3
  a3 := Tryz.isAgg3
  z3 := Tryz.sizeOf3
  v3 := Tryz.zeroValue3
  t4 := Tryz.underlying4
  a4 := Tryz.isAgg4
  z4 := Tryz.sizeOf4
  v4 := Tryz.zeroValue4
  t5 := Tryz.underlying5
  a5 := Tryz.isAgg5
  z5 := Tryz.sizeOf5
  v5 := Tryz.zeroValue5
  t9 := Tryz.underlying9
  a9 := Tryz.isAgg9
  z9 := Tryz.sizeOf9
  v9 := Tryz.zeroValue9
  t22 := Tryz.underlying25
  a22 := Tryz.isAgg25
  z22 := Tryz.sizeOf25
  v22 := Tryz.zeroValue25
  t25 := Tryz.underlying77
  a25 := Tryz.isAgg77
  z25 := Tryz.sizeOf77
  v25 := Tryz.zeroValue77
  t39 := Tryz.underlying136
  a39 := Tryz.isAgg136
  z39 := Tryz.sizeOf136
  v39 := Tryz.zeroValue136
  t45 := Tryz.underlying171
  a45 := Tryz.isAgg171
  z45 := Tryz.sizeOf171
  v45 := Tryz.zeroValue171
  t46 := Tryz.underlying172
  a46 := Tryz.isAgg172
  z46 := Tryz.sizeOf172
  v46 := Tryz.zeroValue172
  t50 := Tryz.underlying151
  a50 := Tryz.isAgg151
  z50 := Tryz.sizeOf151
  v50 := Tryz.zeroValue151
  t53 := Tryz.underlying178
  a53 := Tryz.isAgg178
  z53 := Tryz.sizeOf178
  v53 := Tryz.zeroValue178
  t55 := Tryz.underlying180
  a55 := Tryz.isAgg180
  z55 := Tryz.sizeOf180
  v55 := Tryz.zeroValue180
  t66 := Tryz.underlying200
  a66 := Tryz.isAgg200
  z66 := Tryz.sizeOf200
  v66 := Tryz.zeroValue200
  t70 := Tryz.underlying204
  a70 := Tryz.isAgg204
  z70 := Tryz.sizeOf204
  v70 := Tryz.zeroValue204
  t76 := Tryz.underlying213
  a76 := Tryz.isAgg213
  z76 := Tryz.sizeOf213
  v76 := Tryz.zeroValue213
  t77 := Tryz.underlying214
  a77 := Tryz.isAgg214
  z77 := Tryz.sizeOf214
  v77 := Tryz.zeroValue214 }
end Go.Proofs.YtmgmonbmdkkhbaaGreatDoor
namespace Go.Proofs.YtmgmonbmdkkhbaaGreatDoor
attribute[local go_sem←]Bool.decide_and Bool.decide_or decide_not
attribute[local go_sem]St.ew bw List.append_assoc bO u3 oF nT dw Int.reduceEq not_true_eq_false not_false_eq_true false_implies
set_option maxHeartbeats 4000000
set_option maxRecDepth 100000
open Go.Shelf
abbrev OkR:Type:= { r:Rec // ae.ok r }
theorem aF6:ae.ok ((0,0,0,[],0,0):Rec):=⟨aH (by decide) (by decide),aH (by decide) (by decide),aH (by decide) (by decide),Nat.zero_le _,aH (by decide) (by decide),aH (by decide) (by decide)⟩
instance:Inhabited OkR:=⟨⟨(0,0,0,[],0,0),aF6⟩⟩
def sn(r:Rec):List Value:=[.int .i64 r.1,.int .i64 r.2.1,.int .i64 r.2.2.1,.string ⟨r.2.2.2.1.toArray⟩,.int .i64 r.2.2.2.2.1,.int .i64 r.2.2.2.2.2]
theorem aC2 {r:Rec} (h:ae.ok r)(w:World)(M:Mem):aA ae r w M (sn r):=by
 obtain⟨h1,h2,h3,h4,h5,h6⟩:=h;exact⟨[_],_,rfl,⟨rfl,h1⟩,[_],_,rfl,⟨rfl,h2⟩,[_],_,rfl,⟨rfl,h3⟩,[_],_,rfl,⟨rfl,h4⟩,[_],_,rfl,⟨rfl,h5⟩,⟨rfl,h6⟩⟩
theorem aF7 {r:Rec} {w:World} {M:Mem} {cs:List Value} (h:aA ae r w M cs):cs=sn r:=by
 obtain⟨a1,b1,rfl,⟨rfl,_⟩,a2,b2,rfl,⟨rfl,_⟩,a3,b3,rfl,⟨rfl,_⟩,a4,b4,rfl,⟨rfl,_⟩,a5,aA1,rfl,⟨rfl,_⟩,⟨rfl,_⟩⟩:=h;rfl
theorem aC9 {w w':World} (h:RowKit.Below w.heap.size w w')(hd:w.drawn≤w'.drawn): ∃q os,w'=Go.Sort.grow (w.drewN q) os:=by
 refine⟨w'.drawn-w.drawn,w'.heap.extract w.heap.size w'.heap.size,?_⟩;(have hh:w'.heap=w.heap++w'.heap.extract w.heap.size w'.heap.size:=by apply Array.ext_getElem?;intro i;by_cases hi:i<w.heap.size;(·rw[Array.getElem?_append_left hi,h.block i hi]);·rw[Array.getElem?_append_right (by omega),Array.getElem?_extract];have:=h.size;by_cases hi2:i<w'.heap.size;(·rw[if_pos (by omega)];congr 1;omega);·rw[if_neg (by omega),Array.getElem?_eq_none (by omega)])
 (have DV:w'.drawn=w.drawn+(w'.drawn-w.drawn):=by omega);cases w';cases w;obtain⟨h1,h2,h3,_,_⟩:=h;dsimp only at h1 h2 h3 hh DV;subst h1 h2 h3;unfold Go.Sort.grow World.drewN
 dsimp only;congr 1
theorem aF8(x y:Rec)(hx:ae.ok x)(hy:ae.ok y)(W:World)(S:Nat→Prop)(hS: ∀b,S b→b<W.heap.size)(hT:nF W S):Calls env.P 27 #[.agg (sn x).toArray,.agg (sn y).toArray] W fun e w'=>e= .returned (.int .i64 (QS x y))∧ ∃q os,w'=Go.Sort.grow (W.drewN q) os:=by
 have hc:= @QT True ⟨⟩ x y W S [.agg (sn x).toArray,.agg (sn y).toArray] hS hT ⟨_,_,rfl,rfl,⟨_,rfl,aC2 hx _ _⟩,_,_,rfl,rfl,⟨_,rfl,aC2 hy _ _⟩,rfl⟩;refine hc.mono fun e w'⟨v,he,⟨hb,hd⟩,S',_,_,_,hr⟩=>?_
 (have hv:v= .int .i64 (QS x y):=by have h1:=hr.1;simp only[List.cons.injEq,and_true]at h1;exact h1);subst hv;exact⟨he,aC9 hb (hd trivial)⟩
theorem aD0 {w:World} {g o n:Nat} {d:Array OkR} {os:Array Obj} {k:Nat} (hk:k<w.heap.size)(cz:k≠g):(sortWorldK (fun x:OkR=>sn x.1) 6 w g o n d os).heap[k]?=w.heap[k]?:=by
 show(w.heap.modify g (Go.Sort.onCells _)++os)[k]?=_;rw[Array.getElem?_append_left (by simpa using hk),Array.getElem?_modify,if_neg (fun e=>cz e.symm)]
theorem aJ4 {w:World} {g o n:Nat} {d:Array OkR} {os:Array Obj} {cur:Array Value} {e:TypeId} (h:w.heap[g]?=some (.cells cur e (0,0))): ∃Hs,Hs.size=cur.size∧(sortWorldK (fun x:OkR=>sn x.1) 6 w g o n d os).heap[g]?=some (.cells Hs e (0,0)):=by
 have hg:=(Array.getElem?_eq_some_iff.1 h).1;refine⟨Go.Sort.putCells id o (Go.Sort.flatK (fun x:OkR=>sn x.1) 6 d) cur,by simp[Go.Sort.putCells],?_⟩;show(w.heap.modify g (Go.Sort.onCells _)++os)[g]?=_
 rw[Array.getElem?_append_left (by simpa using hg),Array.getElem?_modify,if_pos rfl,h];rfl
theorem aI0 : Go.Sort.SWO (ltOf fun x y : OkR => QS x.1 y.1) where
  irrefl x := E1 x.1
  trans x y z h h' := xk x.1 y.1 z.1 h h'
  ntrans x y z h h' := by
    have e : ∀ a b : OkR, ltOf (fun x y : OkR => QS x.1 y.1) a b = qx a.1 b.1 := fun _ _ => rfl
    rw [e] at h h' ⊢
    rw [Bool.eq_false_iff] at *
    intro hh
    rw [ne_eq, qn] at h h'
    rw [qn] at hh
    simp only [p7] at h h' hh
    omega
theorem aE5 (xs : List Rec) (hn : xs ≠ []) (hs : lD a7 xs) (hl : xs.length ≤ 100000) : HC env 26 [.aI 1000000000, .iv (.fh 27 .unit) ()] [(1000000000, .arr ae xs)] (.aP []) [(1000000000, .arr ae (bR xs))] := by
  intro w S ν vs hS hT vz hP aY lC
  simp only [aj] at lC
  obtain ⟨v1, r1, rfl, h1, v2, r2, rfl, h2, rfl⟩ := lC
  simp only [ag] at h1 h2
  obtain ⟨_, rfl, _⟩ := h1
  have YJ : v2 = .func (.func 27) #[] #[] := by
    obtain ⟨cL, e, hc⟩ := h2.2
    simp only [aA] at hc
    subst hc
    simpa using e
  subst YJ
  obtain ⟨_, _, vv, e, hlen, cm⟩ := aY.bM 1000000000 (.arr ae xs) rfl
  rcases cm with ⟨_, tn⟩ | ⟨g, o, cap, cur, e', hv, h3, h4, h5, h6, h7, h8, h9⟩
  · exact absurd tn hn
  obtain ⟨rfl⟩ : vv = ν 1000000000 := by simpa using e.symm
  have hg := (Array.getElem?_eq_some_iff.1 h7).1
  have bt : ∀ x, x ∈ xs → ae.ok x := fun x hx => by
    obtain ⟨i, hi⟩ := List.getElem?_of_mem hx
    obtain ⟨cs, _, _, hr⟩ := h9 i x hi
    exact eJ _ _ _ _ _ hr
  let ys : List OkR := xs.attach.map fun x => ⟨x.1, bt x.1 x.2⟩
  have kH : ys.map (·.1) = xs := by
    show (xs.attach.map _).map _ = xs
    rw [List.map_map]
    exact List.attach_map_subtype_val xs
  have aC3 : ys.length = xs.length := by simp [ys]
  have hHo : Go.Sort.HoldsK (fun x : OkR => sn x.1) 6 w g o ys.toArray := by
    intro j hj
    have SN : j < xs.length * 6 := by
      have := hj
      rw [Go.Sort.size_flatK] at this
      simpa [aC3] using this
    have hji : j / 6 < xs.length := by omega
    refine ⟨?_, by simp [World.frozen?, h7]⟩
    rw [Go.Sort.get_flatK _ _ _ _ (by simpa [aC3] using SN)]
    obtain ⟨x, hx⟩ := ax (xs := xs) (i := j / 6) hji
    obtain ⟨cs, ep, Ff, hr⟩ := h9 (j / 6) x hx
    have xI := aF7 hr
    subst xI
    have hyx : (ys.toArray[j / 6]!).1 = x := by
      have h10 : ys[j / 6]? = some (ys[j / 6]'(by omega)) := List.getElem?_eq_getElem (by omega)
      have h11 : (ys.map (·.1))[j / 6]? = some x := by rw [kH]; exact hx
      rw [List.getElem?_map, h10] at h11
      injection h11 with h11
      rw [getElem!_pos ys.toArray (j / 6) (by simpa using (by omega : j / 6 < ys.length))]
      simpa using h11
    rw [hyx]
    have hc := Ff (j % 6) ((sn x)[j % 6]!) (by
      rw [List.getElem?_eq_getElem (by show j % 6 < 6; omega), getElem!_pos (sn x) (j % 6) (by show j % 6 < 6; omega)])
    have aA2 : o + j / 6 * ae.cells + j % 6 = o + j := by
      show o + j / 6 * 6 + j % 6 = o + j
      omega
    rw [aA2] at hc
    exact hc
  have ji := AnyQ.slices_SortFunc aJ3 6 (fun w => (ah.facts (UE)).isAgg w) (fun w => (ah.facts (UE)).sizeOf w) (fun x : OkR => sn x.1) (fun _ => rfl)
    (fun x v hv => by simp [sn] at hv; rcases hv with rfl | rfl | rfl | rfl | rfl | rfl <;> rfl) (fun x y : OkR => QS x.1 y.1) aI0 27 #[] g o cap ys.toArray w
    (enters_of Tryz.func27 (by kernel_rfl) rfl) (fun m os aA3 _ x y => by
      have h := aF8 x.1 y.1 x.2 y.2 (sortWorldK (fun x : OkR => sn x.1) 6 w g o m aA3 os) S
        (fun b hb => Nat.lt_of_lt_of_le (hS b hb) (size_sortWorldK_c (fun x : OkR => sn x.1) 6 w g o m aA3 os)) (fun g' dM => by
          obtain ⟨t1, ob, t2, t3⟩ := hT g' dM
          exact ⟨t1, ob, by rw [aD0 (hS g' t1) (fun e => h5 (by rw [← e]; exact t1))]; exact t2, t3⟩)
      rw [Array.append_empty]
      exact h) hHo hg (by simp [aC3]; omega)
  rw [show (ys.toArray).size = xs.length by simp [aC3]] at ji
  rw [hv]
  refine Calls.mono ji ?_
  rintro e2 w' ⟨rfl, d', n, os, hp, hso, rfl⟩
  have hds : d'.size = xs.length := by rw [hp.1]; simp [aC3]
  have Hn : d'.toList.Perm ys := by
    have := hp.2.2
    rw [show xs.length = ys.toArray.size by simp [aC3], Array.extract_size] at this
    rw [show ys.toArray.size = d'.size from hp.1.symm, Array.extract_size] at this
    simpa using this
  have hpz : (d'.toList.map (·.1)).Perm xs := by
    have := Hn.map (·.1)
    rwa [kH] at this
  have cz : (d'.toList.map (·.1)).Pairwise (fun a b => a7 a ≠ a7 b) := by
    have h0 : xs.Pairwise (fun a b => a7 a ≠ a7 b) := List.Pairwise.imp (fun nL e => by rw [e, gI] at nL; cases nL) hs
    exact (List.Perm.pairwise_iff (fun h e => h e.symm) hpz).2 h0
  have cM : sg qx (d'.toList.map (·.1)) := by
    unfold sg
    rw [List.pairwise_iff_getElem] at cz ⊢
    intro a b ha hb nL
    have mQ : b < d'.size := by simpa using hb
    have h1 := hso a b (Nat.zero_le _) nL (by omega)
    have h2 := cz a b ha hb nL
    rw [getElem!_pos d' b mQ, getElem!_pos d' a (by omega)] at h1
    refine (GA h2).resolve_right fun h3 => ?_
    have h4 : qx (d'[b]).1 (d'[a]).1 = false := h1
    simp only [List.getElem_map, Array.getElem_toList] at h3
    rw [h3] at h4; cases h4
  have hz : d'.toList.map (·.1) = bR xs := KL hs cM fun x => hpz.mem_iff
  have aJ8 := holdsK_sortWorldK_c (fun x : OkR => sn x.1) 6 w g o ys.toArray d' n os hHo hg (by rw [hds]; simp [aC3])
  have hws := size_sortWorldK_c (fun x : OkR => sn x.1) 6 w g o n d' os
  obtain ⟨Hs, xI, Aa⟩ := aJ4 (o := o) (n := n) (d := d') (os := os) h7
  have HY : da ν [(1000000000, .arr ae xs)] g := ⟨1000000000, _, rfl, by rw [hv]; rfl⟩
  refine ⟨_, rfl, ⟨rfl, rfl, rfl, hws, fun k hk hx => aD0 hk fun e => hx (e ▸ HY), fun _ => Nat.le_add_right _ _⟩, ν, S, fun _ h => h, fun _ h => .inl h, fun _ _ _ => rfl, ⟨fun b hb => Nat.lt_of_lt_of_le (hS b hb) hws, fun b hb => .inl (Nat.le_trans hws hb), fun id b hb => ?_, fun a b x y nL ha hb => ?_⟩, ⟨[], rfl, rfl⟩⟩
  · simp only [look] at hb
    cases hid : Nat.beq id 1000000000 with
    | false => rw [hid] at hb; cases hb
    | true =>
      rw [hid] at hb
      have aJ9 := Nat.eq_of_beq_eq_true hid
      subst aJ9
      simp only [cond_true, Option.some.injEq] at hb
      subst hb
      have hlz : (bR xs).length = xs.length := yR xs
      refine ⟨(fun t ht => by cases ht), by decide, ν 1000000000, rfl, by rw [hlz]; exact hlen, .inr ⟨g, o, cap, Hs, e', by rw [hlz]; exact hv, by rw [hlz]; exact h3, h4, h5, ?_, Aa, by rw [xI]; exact h8, fun i y hi => ?_⟩⟩
      · exact .inr HY
      · rw [← hz, List.getElem?_map] at hi
        obtain ⟨yy, GV, rfl⟩ := Option.map_eq_some_iff.1 hi
        have Yc : i < d'.size := by
          have := (List.getElem?_eq_some_iff.1 GV).1
          simpa using this
        refine ⟨sn yy.1, rfl, fun j v hjv => ?_, aC2 yy.2 _ _⟩
        have hj6 : j < 6 := (List.getElem?_eq_some_iff.1 hjv).1
        have hc := (aJ8 (i * 6 + j) (by rw [Go.Sort.size_flatK]; omega)).1
        rw [Go.Sort.get_flatK _ _ _ _ (by omega)] at hc
        have e6 : (i * 6 + j) / 6 = i := by omega
        have e7 : (i * 6 + j) % 6 = j := by omega
        rw [e6, e7] at hc
        have hdi : d'[i]! = yy := by
          rw [getElem!_pos d' i Yc]
          have := (List.getElem?_eq_some_iff.1 GV).2
          simpa using this
        rw [hdi] at hc
        have Fz : (sn yy.1)[j]! = v := by
          obtain ⟨hj, rfl⟩ := List.getElem?_eq_some_iff.1 hjv
          exact getElem!_pos (sn yy.1) j hj
        rw [Fz] at hc
        show World.cell? _ ⟨g, o + i * 6 + j, none⟩ = some v
        rw [Nat.add_assoc]
        exact hc
  · have one : ∀ c z, look c [((1000000000 : Nat), aL.arr ae (bR xs))] = some z → c = 1000000000 := fun c z h => by
      simp only [look] at h
      cases h10 : Nat.beq c 1000000000 with
      | true => exact Nat.eq_of_beq_eq_true h10
      | false => rw [h10] at h; cases h
    exact absurd ((one a x ha).trans (one b y hb).symm) nL
theorem aI1(u:cn)(hv:VU u):PC env 7 [⟨az,u⟩] (.sl ae) (bR u.1):=by
 have hl:=hv.l1;by_cases hn:u.1=[];(·exact Rg u hn);·refine PC.ao (m:=2000) ah ab5 rfl rfl rfl rfl (by kernel_rfl) ?_;intro hx;simp only[Tryz.f7];simp only[go_sem,zA,↓reduceIte,↓reduceDIte,zB,zC,zD,zE,zF,zG,zH,zI];refine⟨_,_,QV u.1 hn (by omega),?_⟩;simp only[go_sem,zA,↓reduceIte,↓reduceDIte,zB,zC,zD,zE,zF,zG,zH,zI];intro _;refine⟨_,_,aE5 u.1 hn hv.sR (by omega),?_⟩;simp only[go_sem,zA,↓reduceIte,↓reduceDIte,zB,zC,zD,zE,zF,zG,zH,zI];exact fun _=>trivial
theorem aE6(u:cn)(hv:VU u):PC env 14 [⟨az,u⟩] .str (dV (bR u.1)):=by
 refine PC.ao (m:=2000) ah JD rfl rfl rfl rfl (by kernel_rfl) ?_;intro hx;simp only[Tryz.f14];simp only[go_sem,zA,↓reduceIte,↓reduceDIte,zB,zC,zD,zE,zF,zG,zH,zI]
 refine⟨_,aI1 u hv,fun _=>?_⟩;have hR: ∀r,r∈bR u.1→aD r=true:=fun r h=>(hv.sH r (cK.1 h)).1;(have hL:(bR u.1).length≤400:=by rw[kg];exact hv.l1);generalize bR u.1=l at hR hL
 refine av.cU (X:=Nat) (fun(z:Nat)=>[(9,.iv (.int .i64) (z:Int))]) (fun(z:Nat)=>(match z with|0=>[(3,.box [.bT,.bE] (some 92))]|k+1=>[(3,.box [.ref 3 0,.aI 1000] (some 92)),(1000,.arr (.int .u8) (im (dV (l.take (k+1)))) (some 5))])) (fun(z:Nat)=>z≤l.length) (fun(z:Nat)=>l.length-z) 0 ?_
 intro b1 b2 ck cH;simp(config:= {maxSteps:=4000000})only[go_sem,zA,↓reduceIte,↓reduceDIte,zB,zC,zD,zE,zF,zG,zH,zI]at ck cH;subst ck;subst cH;refine⟨(by refine⟨?_,?_,rfl,rfl⟩<;>repeat' (first|exact trivial|exact Or.inl rfl|exact Or.inr rfl|apply cV|apply cW|apply cX|apply cY|exact⟨(by show(_:Nat)<1000000000;omega),rfl,rfl⟩|rfl|(refine And.intro (Or.inl ?_) ?_)|(refine And.intro ?_ ?_))),?_,?_⟩
 (·exact Nat.zero_le _);intro i hi back;(have Xs:dV (l.take l.length)=dV l:=by rw[List.take_length]);have vH:=BA (fun r=>c9 r++ [10]) 61 (l.take i) (fun y hy=>by have:=je (hR y (List.mem_of_mem_take hy));simp only[List.length_append,List.length_cons,List.length_nil];omega)
 change(dV (l.take i)).length≤_ at vH;rw[List.length_take,Nat.min_eq_left hi]at vH;(have ff: ∀r,l[i]?=some r→im (dV (l.take i))++(im (c9 r)++ [10])=im (dV (l.take (i+1))):=fun r h=>by have h2:dV (l.take (i+1))=dV (l.take i)++(c9 r++ [10]):=Gy _ h;rw[h2,EU,EU];simp[im])
 cases i with|zero=>dsimp only;refine ay ah ⟨_,JD,rfl⟩ 2000 _ _ (by kernel_rfl) ?_;simp only[go_sem,zA,↓reduceIte,↓reduceDIte,zB,zC,zD,zE,zF,zG,zH,zI];refine⟨fun g=>?_,fun g=>?_⟩;(·obtain⟨r,yq⟩: ∃r,l[0]?=some r:=ax (by omega);have aw8:=je (hR r (List.mem_of_getElem? yq));refine⟨r,yq,_,yM r (hR r (List.mem_of_getElem? yq)),fun _=>⟨_,_,Ke _ (by omega),rfl,?_⟩⟩;simp only[go_sem,zA,↓reduceIte,↓reduceDIte,zB,zC,zD,zE,zF,zG,zH,zI];intro _;refine⟨_,_,E2 _ _ (by unfold im;rw[List.length_map];omega),rfl,?_⟩;simp only[go_sem,zA,↓reduceIte,↓reduceDIte,zB,zC,zD,zE,zF,zG,zH,zI];intro _;refine⟨aH (by omega) (by omega),?_⟩;refine av.ew [(1700014,1000),(1000,1700014)] rfl ?_;simp only[go_sem,zA,↓reduceIte,↓reduceDIte,zB,zC,zD,zE,zF,zG,zH,zI];(have h0:im (c9 r)++ [10]=im (dV (l.take 1)):=by rw[←ff r yq];rfl);rw[h0];exact back _ 1 (by refine⟨?_,?_,rfl,rfl⟩<;>repeat' (first|exact trivial|exact Or.inl rfl|exact Or.inr rfl|apply cV|apply cW|apply cX|apply cY|exact⟨(by show(_:Nat)<1000000000;omega),rfl,rfl⟩|rfl|(refine And.intro (Or.inl ?_) ?_)|(refine And.intro ?_ ?_))) (by omega) (by omega));(·refine⟨_,_,XA,rfl,?_⟩;simp only[go_sem,zA,↓reduceIte,↓reduceDIte,zB,zC,zD,zE,zF,zG,zH,zI];have:l=[]:=List.length_eq_zero_iff.1 (by omega);rw[this];exact fun _=>rfl)|succ i=>dsimp only;refine ay ah ⟨_,JD,rfl⟩ 2000 _ _ (by kernel_rfl) ?_;simp only[go_sem,zA,↓reduceIte,↓reduceDIte,zB,zC,zD,zE,zF,zG,zH,zI];refine⟨fun g=>?_,fun g=>?_⟩;(·obtain⟨r,yq⟩: ∃r,l[i+1]?=some r:=ax (by omega);have aw8:=je (hR r (List.mem_of_getElem? yq));have i0:(0:Int)≤((i+1:Nat):Int):=Int.natCast_nonneg _;refine⟨i0,r,yq,_,yM r (hR r (List.mem_of_getElem? yq)),fun _=>⟨_,_,Bn _ _ (by unfold im;rw[List.length_map];omega),rfl,?_⟩⟩;simp only[go_sem,zA,↓reduceIte,↓reduceDIte,zB,zC,zD,zE,zF,zG,zH,zI];intro _;refine⟨_,_,E2 _ _ (by unfold im;rw[List.length_append,List.length_map,List.length_map];omega),rfl,?_⟩;simp only[go_sem,zA,↓reduceIte,↓reduceDIte,zB,zC,zD,zE,zF,zG,zH,zI];intro _;refine⟨aH (by omega) (by omega),?_⟩;refine av.ew [(1700014,1000),(1000,1700014)] rfl ?_;simp only[go_sem,zA,↓reduceIte,↓reduceDIte,zB,zC,zD,zE,zF,zG,zH,zI];rw[ff r yq];exact back _ (i+1+1) (by refine⟨?_,?_,rfl,rfl⟩<;>repeat' (first|exact trivial|exact Or.inl rfl|exact Or.inr rfl|apply cV|apply cW|apply cX|apply cY|exact⟨(by show(_:Nat)<1000000000;omega),rfl,rfl⟩|rfl|(refine And.intro (Or.inl ?_) ?_)|(refine And.intro ?_ ?_))) (by omega) (by omega));·refine⟨_,_,Xy _,rfl,?_⟩;rw[yJ,List.take_of_length_le (by omega)];simp only[go_sem,zA,↓reduceIte,↓reduceDIte,zB,zC,zD,zE,zF,zG,zH,zI];exact fun _ _=>trivial
end Go.Proofs.YtmgmonbmdkkhbaaGreatDoor
namespace Go.Proofs.YtmgmonbmdkkhbaaGreatDoor
attribute[local go_sem←]Bool.decide_and Bool.decide_or decide_not
attribute[local go_sem]nT dw
set_option maxHeartbeats 4000000
set_option maxRecDepth 100000
theorem aD1(o:aS)(p:Int×Int):PC env 138 [⟨ak,o⟩,⟨bD,p⟩,⟨.ptr .aq,(46:Nat)⟩] (.int .i64) (kV (dU o) p):=by
 refine PC.ao (m:=2000) ah ar6 rfl rfl rfl rfl (by kernel_rfl) ?_;intro hx;simp only[Tryz.f138];simp only[go_sem,zA,↓reduceIte,↓reduceDIte,zB,zC,zD,zE,zF,zG,zH,zI]
 exact⟨_,ag7 o,fun _=>⟨_,JS _ _,fun _=>rfl⟩⟩
theorem aJ5(l:List aS)(p:Int×Int)(hl:l.length≤1000000):PC env 137 [⟨.sl ak,l⟩,⟨bD,p⟩,⟨.fh 138 (.ptr .aq),(46:Nat)⟩] (.aP (.int .i64) .bool) (((nr dU l p:Nat):Int),gi dU l p (nr dU l p)):=by
 refine PC.ao (m:=2000) ah ar5 rfl rfl rfl rfl (by kernel_rfl) ?_;intro hx;simp only[Tryz.f137];simp only[go_sem,zA,↓reduceIte,↓reduceDIte,zB,zC,zD,zE,zF,zG,zH,zI]
 refine av.jA (X:=Nat×Nat) (fun z=>⟨[(9,.iv (.int .i64) (z.1:Int)),(10,.iv (.int .i64) (z.2:Int)),(8,.iv (.int .i64) (l.length:Int)),(0,.iv (.sl ak) l),(2,.fn 138 [.di .aq (46:Nat) 0]),(4,.ref 4 0)],[(4,.box [.iv (.int .i64) p.1,.iv (.int .i64) p.2])]⟩) (fun z=>z.1≤z.2∧z.2≤l.length∧B0 (vX dU l p) z.1 z.2=nr dU l p) (fun z=>z.2-z.1) (0,l.length) (by refine⟨?_,?_,rfl,rfl⟩<;>repeat' (first|exact trivial|exact Or.inl rfl|exact Or.inr rfl|apply cV|apply cW|apply cX|apply cY|exact⟨(by show(_:Nat)<1000000000;omega),rfl,rfl⟩|rfl|(refine And.intro (Or.inl ?_) ?_)|(refine And.intro ?_ ?_))) ⟨Nat.zero_le _,Nat.le_refl _,rfl⟩ ?_
 intro⟨i,j⟩⟨dG,hj,hb⟩back;dsimp only at dG hj hb;refine ay ah ⟨_,ar5,rfl⟩ 2000 _ _ (by kernel_rfl) ?_;simp only[go_sem,zA,↓reduceIte,↓reduceDIte,zB,zC,zD,zE,zF,zG,zH,zI]
 have hw:=w9 (i:=i) (j:=j) (by omega);have hu:IntKind.u64.wrap ((i:Int)+j)=(i:Int)+j:=eg _ ⟨by simp only[pY];omega,by simp only[pZ];omega⟩;refine⟨fun h=>?_,fun h=>?_⟩
 (·obtain⟨x,cJ⟩: ∃x,l[(i+j)/2]?=some x:=ax (by omega);rw[hw,hu,Int.toNat_natCast];unfold B0 at hb;rw[if_pos (by omega)]at hb;(have cN:vX dU l p ((i+j)/2)=decide (kV (dU x) p<0):=by unfold vX;rw[cJ]);refine⟨aH (by omega) (by omega),by omega,x,cJ,_,aD1 x p,fun _=>⟨fun c=>⟨aH (by omega) (by omega),?_⟩,fun c=>?_⟩⟩;(·rw[cN,decide_eq_true c,if_pos rfl]at hb;exact back _ ((i+j)/2+1,j) (by refine⟨?_,?_,rfl,rfl⟩<;>repeat' (first|exact trivial|exact Or.inl rfl|exact Or.inr rfl|apply cV|apply cW|apply cX|apply cY|exact⟨(by show(_:Nat)<1000000000;omega),rfl,rfl⟩|rfl|(refine And.intro (Or.inl ?_) ?_)|(refine And.intro ?_ ?_))) ⟨by dsimp only;omega,hj,hb⟩ (by dsimp only;omega));·rw[cN,decide_eq_false c,if_neg (by decide)]at hb;exact back _ (i,(i+j)/2) (by refine⟨?_,?_,rfl,rfl⟩<;>repeat' (first|exact trivial|exact Or.inl rfl|exact Or.inr rfl|apply cV|apply cW|apply cX|apply cY|exact⟨(by show(_:Nat)<1000000000;omega),rfl,rfl⟩|rfl|(refine And.intro (Or.inl ?_) ?_)|(refine And.intro ?_ ?_))) ⟨by dsimp only;omega,by dsimp only;omega,hb⟩ (by dsimp only;omega))
 ·unfold B0 at hb;rw[if_neg (by omega)]at hb;rw[←hb];refine⟨fun c=>?_,fun c=>?_⟩;(·obtain⟨x,cJ⟩: ∃x,l[i]?=some x:=ax (by omega);refine⟨Int.natCast_nonneg i,x,cJ,_,aD1 x p,fun _=>?_⟩;unfold gi;rw[cJ]);·unfold gi;rw[List.getElem?_eq_none (by omega)]
theorem aI2(l:List aS)(p:Int×Int)(hl:l.length≤1000000):PC env 97 [⟨.sl ak,l⟩,⟨.aq,(46:Nat)⟩,⟨bD,p⟩] (.aP (.int .i64) .bool) (((nr dU l p:Nat):Int),gi dU l p (nr dU l p)):=by
 refine PC.ao (m:=2000) ah ay9 rfl rfl rfl rfl (by kernel_rfl) ?_;intro hx;simp only[Tryz.f97];simp only[go_sem,zA,↓reduceIte,↓reduceDIte,zB,zC,zD,zE,zF,zG,zH,zI]
 exact⟨_,aJ5 l p hl,fun _=>rfl⟩
theorem aI3(n:Int)(h0:0<n)(h1:n≤1000000):HC env 139 [.bE,.iv (.int .i64) n] [] (.lz 22 7 0 0) [(22,.arr ak (List.replicate n.toNat (cD ak)))]:=by
 refine HC.ao (m:=2000) ah ar7 rfl rfl rfl rfl (by kernel_rfl) ?_;intro hx gP;simp only[Tryz.f139];simp only[go_sem,zA,↓reduceIte,↓reduceDIte,zB,zC,zD,zE,zF,zG,zH,zI]
 refine⟨fun h=>absurd h (by omega),fun _=>?_⟩;simp only[Int.sub_self,Int.sub_zero];exact⟨⟨by decide,by decide⟩,⟨by omega,by omega⟩,fun _=>⟨⟨h0,Int.le_trans h1 (by decide)⟩,Int.natCast_nonneg _,trivial⟩,fun h=>absurd h0 h⟩
theorem aE7(ls:List (List aS))(h0:0<eD ls)(h1:eD ls≤1000000)(hn:ls.length≤1000000):PC env 98 [⟨.sl (.sl ak),ls⟩] (.sl ak) ls.flatten:=by
 refine PC.ao (m:=2000) ah az0 rfl rfl rfl rfl (by kernel_rfl) ?_;intro hx;simp only[Tryz.f98];simp only[go_sem,zA,↓reduceIte,↓reduceDIte,zB,zC,zD,zE,zF,zG,zH,zI]
 refine av.jA (X:=Nat) (fun k=>⟨[(11,.iv (.int .i64) (k:Int)),(10,.iv (.int .i64) (ls.length:Int)),(9,.iv (.sl (.sl ak)) ls),(0,.iv (.sl (.sl ak)) ls),(3,.iv (.int .i64) (eD (ls.take k):Int))],[]⟩) (fun k=>k≤ls.length) (fun k=>ls.length-k) 0 (by refine⟨?_,?_,rfl,rfl⟩<;>repeat' (first|exact trivial|exact Or.inl rfl|exact Or.inr rfl|apply cV|apply cW|apply cX|apply cY|exact⟨(by show(_:Nat)<1000000000;omega),rfl,rfl⟩|rfl|(refine And.intro (Or.inl ?_) ?_)|(refine And.intro ?_ ?_))) (Nat.zero_le _) ?_
 intro k hk back;refine ay ah ⟨_,az0,rfl⟩ 2000 _ _ (by kernel_rfl) ?_;simp only[go_sem,zA,↓reduceIte,↓reduceDIte,zB,zC,zD,zE,zF,zG,zH,zI];refine⟨fun h=>?_,fun h=>?_⟩
 (·obtain⟨x,cJ⟩: ∃x,ls[k]?=some x:=ax (by omega);have hs:=mw cJ;have ht:=my ls (k+1);refine⟨Int.natCast_nonneg k,x,cJ,aH (by omega) (by omega),fun h'=>absurd h' (by omega),fun _=>⟨aH (by omega) (by omega),?_⟩⟩;refine back _ (k+1) ⟨⟨Or.inl rfl,Or.inl rfl,Or.inl rfl,Or.inl rfl,Or.inl ?_,trivial⟩,trivial,rfl,rfl⟩ (by omega) (by omega);rw[hs];rfl)
 ·have e:ls.take k=ls:=List.take_of_length_le (by omega);rw[e];refine⟨_,_,aI3 _ (by omega) (by omega),?_⟩;simp only[go_sem,zA,↓reduceIte,↓reduceDIte,zB,zC,zD,zE,zF,zG,zH,zI];intro _;refine av.jA (X:=Nat) (fun k=>⟨[(27,.iv (.int .i64) (k:Int)),(26,.iv (.int .i64) (ls.length:Int)),(25,.iv (.sl (.sl ak)) ls),(6,match k with|0=>.lz 2500022 7 0 0|_+1=>.aI 2500022)],[(2500022,.arr ak (match k with|0=>List.replicate (eD ls) (cD ak)|_+1=>(ls.take k).flatten))]⟩) (fun k=>k≤ls.length) (fun k=>ls.length-k) 0 (by refine⟨?_,?_,rfl,rfl⟩<;>repeat' (first|exact trivial|exact Or.inl rfl|exact Or.inr rfl|apply cV|apply cW|apply cX|apply cY|exact⟨(by show(_:Nat)<1000000000;omega),rfl,rfl⟩|rfl|(refine And.intro (Or.inl ?_) ?_)|(refine And.intro ?_ ?_))) (Nat.zero_le _) ?_;intro k hk EJ;cases k with|zero=>refine ay ah ⟨_,az0,rfl⟩ 2000 _ _ (by kernel_rfl) ?_;simp only[go_sem,zA,↓reduceIte,↓reduceDIte,zB,zC,zD,zE,zF,zG,zH,zI];refine⟨fun h=>?_,fun h=>?_⟩;(·obtain⟨x,cJ⟩: ∃x,ls[0]?=some x:=ax (by omega);have hs:eD (ls.take 1)=eD (ls.take 0)+x.length:=mw cJ;have ht:=my ls 1;refine⟨x,cJ,⟨by rw[List.length_replicate];exact .inl h0,by omega⟩,⟨by decide,by decide⟩,EJ _ 1 ⟨⟨Or.inl rfl,Or.inl rfl,Or.inl rfl,Or.inl rfl,trivial⟩,⟨?_,trivial⟩,rfl,rfl⟩ (by omega) (by omega)⟩;refine congrArg (aL.arr ak) ?_;rw[show(1:Nat)=0+1 from rfl,bA cJ];simp);(·exfalso;have Fj:ls=[]:=List.length_eq_zero_iff.mp (by omega);subst Fj;exact absurd h0 (by decide))|succ k=>refine ay ah ⟨_,az0,rfl⟩ 2000 _ _ (by kernel_rfl) ?_;simp only[go_sem,zA,↓reduceIte,↓reduceDIte,zB,zC,zD,zE,zF,zG,zH,zI];refine⟨fun h=>?_,fun h=>?_⟩;(·obtain⟨x,cJ⟩: ∃x,ls[k+1]?=some x:=ax (by omega);have hs:=mw cJ;have ht:=my ls (k+1+1);(have hf:(ls.take (k+1)).flatten.length=eD (ls.take (k+1)):=by rw[List.length_flatten];rfl);refine⟨Int.natCast_nonneg _,x,cJ,by omega,aH (by omega) (by omega),EJ _ (k+1+1) ⟨⟨Or.inl rfl,Or.inl rfl,Or.inl rfl,Or.inl rfl,trivial⟩,⟨?_,trivial⟩,rfl,rfl⟩ (by omega) (by omega)⟩;refine congrArg (aL.arr ak) ?_;rw[bA cJ];simp);·have e2:ls.take (k+1)=ls:=List.take_of_length_le (by omega);rw[e2]
theorem aI9(l:List aS)(o:aS)(hl:l.length≤100000):PC env 45 [⟨.sl ak,l⟩,⟨.aq,(46:Nat)⟩,⟨ak,o⟩] (.sl ak) (cd l (nr dU l (dU o)) o):=by
 refine PC.ao (m:=2000) ah ay2 rfl rfl rfl rfl (by kernel_rfl) ?_;intro hx;simp only[Tryz.f45];simp only[go_sem,zA,↓reduceIte,↓reduceDIte,zB,zC,zD,zE,zF,zG,zH,zI]
 have hb:=gU dU l (dU o);refine⟨_,ag7 o,fun _=>⟨_,aI2 l _ (by omega),fun _=>?_⟩⟩;simp only[go_sem,zA,↓reduceIte,↓reduceDIte,zB,zC,zD,zE,zF,zG,zH,zI];(have hn:(nr dU l (o.1,o.2.1):Int)≤(l.length:Int):=by have:=gU dU l (o.1,o.2.1);omega)
 (have hs:eD [l.take (nr dU l (o.1,o.2.1)),[o],l.drop (nr dU l (o.1,o.2.1))]=l.length+1:=by have:=gU dU l (o.1,o.2.1);simp[eD];omega);refine⟨⟨Int.natCast_nonneg _,hn⟩,⟨Int.natCast_nonneg _,hn⟩,_,aE7 _ (by rw[hs];omega) (by rw[hs];omega) (by simp),fun _=>?_⟩
 simp only[cd,List.flatten_cons,List.flatten_nil,List.append_nil,List.singleton_append];rfl
theorem aF9(u:cn)(o:aS)(hu:u.1.length≤1000000):PC env 16 [⟨az,u⟩,⟨ak,o⟩] (.aP az (.int .i64)) (bQ u o):=by
 refine PC.ao (m:=2000) ah ax7 rfl rfl rfl rfl (by kernel_rfl) ?_;intro hx;simp only[Tryz.f16];simp only[go_sem,zA,↓reduceIte,↓reduceDIte,zB,zC,zD,zE,zF,zG,zH,zI]
 refine⟨_,EH,fun _=>⟨_,JV (o.1,1,o.2.2),?_⟩⟩;unfold bQ;cases hr:aZ (o.1,1,o.2.2);(·simp only[go_sem,zA,↓reduceIte,↓reduceDIte,zB,zC,zD,zE,zF,zG,zH,zI];rfl);have lV:=hr
 simp only[aZ,Bool.and_eq_true,decide_eq_true_eq]at lV;obtain⟨⟨⟨qw,B1⟩,_⟩,_⟩:=lV;simp only[go_sem,zA,↓reduceIte,↓reduceDIte,zB,zC,zD,zE,zF,zG,zH,zI];have B2:=hx.1
 have hL: -9223372036854775808≤aw u.2.2 o.1:=yw B2.2.2 qw B1;refine⟨fun h1=>⟨⟨qw,by omega⟩,aw u.2.2 o.1,gV u.2.2 qw B1,fun h2=>?_,fun h2=>?_⟩,fun h1=>?_⟩;(·rw[if_pos (.inr h2)])
 (·rw[if_neg (by omega)];refine⟨⟨qw,by omega⟩,aw u.2.2 o.1,gV u.2.2 qw B1,aH (by omega) (by omega),⟨qw,by omega⟩,⟨qw,by omega⟩,aw u.2.2 o.1+1,C8 u.2.2 _ qw B1,_,aI9 u.2.1 _ (by omega),fun _=>?_⟩;have hlen:u.1.length≤9223372036854775807:=B2.1.1;refine av.jA (X:=Nat×List Rec) (fun z=>match z.2 with|[]=>⟨[(7,.bE),(52,.iv (.int .i64) (z.1:Int)),(51,.iv (.int .i64) (u.1.length:Int)),(50,.iv (.sl ae) u.1),(6,.iv MpT fP),(2,.ref 2 0),(3,.ref 3 0),(4,.ref 4 0)],[(2,.box [.iv (.sl ae) u.1,.iv (.sl ak) (cd u.2.1 (nr dU u.2.1 (o.1,aw u.2.2 o.1+1)) (o.1,aw u.2.2 o.1+1,o.2.2)),.iv (.int .i64) (fq u.2.2 o.1 (aw u.2.2 o.1+1)).1,.iv (.int .i64) (fq u.2.2 o.1 (aw u.2.2 o.1+1)).2.1,.iv (.int .i64) (fq u.2.2 o.1 (aw u.2.2 o.1+1)).2.2.1,.iv (.int .i64) (fq u.2.2 o.1 (aw u.2.2 o.1+1)).2.2.2.1,.iv (.int .i64) (fq u.2.2 o.1 (aw u.2.2 o.1+1)).2.2.2.2.1,.iv (.int .i64) (fq u.2.2 o.1 (aw u.2.2 o.1+1)).2.2.2.2.2.1,.iv (.int .i64) (fq u.2.2 o.1 (aw u.2.2 o.1+1)).2.2.2.2.2.2.1,.iv (.int .i64) (fq u.2.2 o.1 (aw u.2.2 o.1+1)).2.2.2.2.2.2.2]),(3,.box [.iv (.int .i64) o.1,.iv (.int .i64) (aw u.2.2 o.1+1),.iv (.int .i64) o.2.2.1,.iv (.int .i64) o.2.2.2.1,.iv .str o.2.2.2.2.1,.iv (.int .i64) o.2.2.2.2.2.1,.iv (.int .i64) o.2.2.2.2.2.2]),(4,.box [.bE,.bE,.iv (.int .i64) (0:Int),.iv (.int .i64) (0:Int),.iv (.int .i64) (0:Int),.iv (.int .i64) (0:Int),.iv (.int .i64) (0:Int),.iv (.int .i64) (0:Int),.iv (.int .i64) (0:Int),.iv (.int .i64) (0:Int)])]⟩|a::t=>⟨[(7,.aI 65),(52,.iv (.int .i64) (z.1:Int)),(51,.iv (.int .i64) (u.1.length:Int)),(50,.iv (.sl ae) u.1),(6,.iv MpT fP),(2,.ref 2 0),(3,.ref 3 0),(4,.ref 4 0)],[(65,.arr ae (a::t)),(2,.box [.iv (.sl ae) u.1,.iv (.sl ak) (cd u.2.1 (nr dU u.2.1 (o.1,aw u.2.2 o.1+1)) (o.1,aw u.2.2 o.1+1,o.2.2)),.iv (.int .i64) (fq u.2.2 o.1 (aw u.2.2 o.1+1)).1,.iv (.int .i64) (fq u.2.2 o.1 (aw u.2.2 o.1+1)).2.1,.iv (.int .i64) (fq u.2.2 o.1 (aw u.2.2 o.1+1)).2.2.1,.iv (.int .i64) (fq u.2.2 o.1 (aw u.2.2 o.1+1)).2.2.2.1,.iv (.int .i64) (fq u.2.2 o.1 (aw u.2.2 o.1+1)).2.2.2.2.1,.iv (.int .i64) (fq u.2.2 o.1 (aw u.2.2 o.1+1)).2.2.2.2.2.1,.iv (.int .i64) (fq u.2.2 o.1 (aw u.2.2 o.1+1)).2.2.2.2.2.2.1,.iv (.int .i64) (fq u.2.2 o.1 (aw u.2.2 o.1+1)).2.2.2.2.2.2.2]),(3,.box [.iv (.int .i64) o.1,.iv (.int .i64) (aw u.2.2 o.1+1),.iv (.int .i64) o.2.2.1,.iv (.int .i64) o.2.2.2.1,.iv .str o.2.2.2.2.1,.iv (.int .i64) o.2.2.2.2.2.1,.iv (.int .i64) o.2.2.2.2.2.2]),(4,.box [.bE,.bE,.iv (.int .i64) (0:Int),.iv (.int .i64) (0:Int),.iv (.int .i64) (0:Int),.iv (.int .i64) (0:Int),.iv (.int .i64) (0:Int),.iv (.int .i64) (0:Int),.iv (.int .i64) (0:Int),.iv (.int .i64) (0:Int)])]⟩) (fun z=>z.1≤u.1.length∧z.2=(u.1.take z.1).filter (fun r=>!(bf (o.1,aw u.2.2 o.1+1,o.2.2) r))) (fun z=>u.1.length-z.1) (0,[]) (by refine⟨?_,?_,rfl,rfl⟩<;>repeat' (first|exact trivial|exact Or.inl rfl|exact Or.inr rfl|apply cV|apply cW|apply cX|apply cY|exact⟨(by show(_:Nat)<1000000000;omega),rfl,rfl⟩|rfl|(refine And.intro (Or.inl ?_) ?_)|(refine And.intro ?_ ?_))) ⟨Nat.zero_le _,rfl⟩ ?_;intro⟨k,fl⟩⟨hk,vK⟩back;dsimp only at hk vK;cases fl with|nil=>refine ay ah ⟨_,ax7,rfl⟩ 2000 _ _ (by kernel_rfl) ?_;simp only[go_sem,zA,↓reduceIte,↓reduceDIte,zB,zC,zD,zE,zF,zG,zH,zI];refine⟨fun h=>?_,fun h=>?_⟩;(·obtain⟨x,cJ⟩: ∃x,u.1[k]?=some x:=ax (by omega);refine⟨Int.natCast_nonneg k,x,cJ,_,EI [(o.1,aw u.2.2 o.1+1,o.2.2)] x,?_⟩;(have ha:[(o.1,aw u.2.2 o.1+1,o.2.2)].any (fun o'=>bf o' x)=bf (o.1,aw u.2.2 o.1+1,o.2.2) x:=by simp);rw[ha];cases hm:bf (o.1,aw u.2.2 o.1+1,o.2.2) x;(·simp only[go_sem,zA,↓reduceIte,↓reduceDIte,zB,zC,zD,zE,zF,zG,zH,zI];exact⟨aH (by omega) (by omega),back _ (k+1,[x]) (by refine⟨?_,?_,rfl,rfl⟩<;>repeat' (first|exact trivial|exact Or.inl rfl|exact Or.inr rfl|apply cV|apply cW|apply cX|apply cY|exact⟨(by show(_:Nat)<1000000000;omega),rfl,rfl⟩|rfl|(refine And.intro (Or.inl ?_) ?_)|(refine And.intro ?_ ?_))) ⟨by dsimp only;omega,by dsimp only;have hf:=rL (p:=fun r=>!(bf (o.1,aw u.2.2 o.1+1,o.2.2) r)) cJ;rw[hf,←vK];simp[hm]⟩ (by dsimp only;omega)⟩);·simp only[go_sem,zA,↓reduceIte,↓reduceDIte,zB,zC,zD,zE,zF,zG,zH,zI];exact⟨aH (by omega) (by omega),back _ (k+1,[]) (by refine⟨?_,?_,rfl,rfl⟩<;>repeat' (first|exact trivial|exact Or.inl rfl|exact Or.inr rfl|apply cV|apply cW|apply cX|apply cY|exact⟨(by show(_:Nat)<1000000000;omega),rfl,rfl⟩|rfl|(refine And.intro (Or.inl ?_) ?_)|(refine And.intro ?_ ?_))) ⟨by dsimp only;omega,by dsimp only;have hf:=rL (p:=fun r=>!(bf (o.1,aw u.2.2 o.1+1,o.2.2) r)) cJ;rw[hf,←vK];simp[hm]⟩ (by dsimp only;omega)⟩);(·have e:u.1.take k=u.1:=List.take_of_length_le (by omega);rw[e]at vK;rw[←vK])|cons a t=>(have hle:(a::t).length≤u.1.length:=by rw[vK];exact Nat.le_trans (List.length_filter_le ..) (by rw[List.length_take];omega));rw[List.length_cons]at hle;refine ay ah ⟨_,ax7,rfl⟩ 2000 _ _ (by kernel_rfl) ?_;simp only[go_sem,zA,↓reduceIte,↓reduceDIte,zB,zC,zD,zE,zF,zG,zH,zI];refine⟨fun h=>?_,fun h=>?_⟩;(·obtain⟨x,cJ⟩: ∃x,u.1[k]?=some x:=ax (by omega);refine⟨Int.natCast_nonneg k,x,cJ,_,EI [(o.1,aw u.2.2 o.1+1,o.2.2)] x,?_⟩;(have ha:[(o.1,aw u.2.2 o.1+1,o.2.2)].any (fun o'=>bf o' x)=bf (o.1,aw u.2.2 o.1+1,o.2.2) x:=by simp);rw[ha];cases hm:bf (o.1,aw u.2.2 o.1+1,o.2.2) x;(·simp only[go_sem,zA,↓reduceIte,↓reduceDIte,zB,zC,zD,zE,zF,zG,zH,zI];exact⟨by omega,aH (by omega) (by omega),back _ (k+1,a::(t++ [x])) (by refine⟨?_,?_,rfl,rfl⟩<;>repeat' (first|exact trivial|exact Or.inl rfl|exact Or.inr rfl|apply cV|apply cW|apply cX|apply cY|exact⟨(by show(_:Nat)<1000000000;omega),rfl,rfl⟩|rfl|(refine And.intro (Or.inl ?_) ?_)|(refine And.intro ?_ ?_))) ⟨by dsimp only;omega,by dsimp only;have hf:=rL (p:=fun r=>!(bf (o.1,aw u.2.2 o.1+1,o.2.2) r)) cJ;rw[hf,←vK];simp[hm]⟩ (by dsimp only;omega)⟩);·simp only[go_sem,zA,↓reduceIte,↓reduceDIte,zB,zC,zD,zE,zF,zG,zH,zI];exact⟨aH (by omega) (by omega),back _ (k+1,a::t) (by refine⟨?_,?_,rfl,rfl⟩<;>repeat' (first|exact trivial|exact Or.inl rfl|exact Or.inr rfl|apply cV|apply cW|apply cX|apply cY|exact⟨(by show(_:Nat)<1000000000;omega),rfl,rfl⟩|rfl|(refine And.intro (Or.inl ?_) ?_)|(refine And.intro ?_ ?_))) ⟨by dsimp only;omega,by dsimp only;have hf:=rL (p:=fun r=>!(bf (o.1,aw u.2.2 o.1+1,o.2.2) r)) cJ;rw[hf,←vK];simp[hm]⟩ (by dsimp only;omega)⟩);·have e:u.1.take k=u.1:=List.take_of_length_le (by omega);rw[e]at vK;rw[←vK])
 ·rw[if_pos (.inl (by omega))]
end Go.Proofs.YtmgmonbmdkkhbaaGreatDoor
