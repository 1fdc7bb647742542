/- Package output: settle, at pairs. Nothing here is trusted; no condition. -/
import Derived.Test.YtimognngcagphaaGreatO2
import Derived.Shelf.SlSortCmp.WholeK
import Derived.Test.YtimognngcagphaaGreatProg
set_option linter.all false
set_option maxHeartbeats 8000000
set_option maxRecDepth 100000
namespace Go.Proofs.YtimognngcagphaaGreat
section
attribute[local go_sem←]u3 u4 u5
attribute[local go_sem]gH bH ne_eq not_false_eq_true
abbrev fL:=Int×ax
def pJ(k:fL)(r:Rl):fL×Bool:=((r.2.1,k.2++r.2.2.2.1),true)
theorem QV(k:fL):PC env 41 [⟨aE,k⟩] (.int .i64) k.1:=by
 obtain⟨m,a⟩:=k;refine PC.aC (m:=2000) ae bJ2 rfl rfl rfl rfl (by kernel_rfl) ?_;intro hx;simp only[Tryz.f41];simp only[go_sem]
theorem QW(k:fL)(r:Rl)(hk:k.2.length≤2000)(hr:r.2.2.2.1.length≤4):PC env 42 [⟨aE,k⟩,⟨ba,r⟩] (.bG aE .bool) (pJ k r):=by
 obtain⟨m,a⟩:=k;obtain⟨f,t,i,o,c⟩:=r;dsimp only at hk hr;refine PC.aC (m:=2000) ae bJ3 rfl rfl rfl rfl (by kernel_rfl) ?_;intro hx;simp only[Tryz.f42];simp only[go_sem]
 exact⟨v6,rfl⟩
theorem OK: ∀x y:aE.den,fO aE x y=true↔x=y:=fun x y=>nO aE x y rfl
def iB(rs:List Rl):Op.Wk fL:=⟨fO aE,rs,fun k=>k.1,pJ⟩
abbrev bx5(s:bR)(most:Nat):PV:=.agg [.iv (.int .i64) s.1,.iv (.int .u8) s.2.1,.iv (.sl ba) s.2.2,.fn 41 [],.fn 42 [],.iv (.int .i64) (most:Int)]
theorem Em(rs:List Rl)(M:List (fL×Int))(hl:M.length≤1000000)(k:fL)(c:Int):HC env 94 [.lmap 1000000000,.iv aE k,.iv (.int .i64) c] [(1000000000,.mp aE (.int .i64) M)] (.iv .bool ((iB rs).ko M k c)) [(1000000000,.mp aE (.int .i64) ((iB rs).gi M k c))]:=by
 obtain⟨m,a⟩:=k;refine HC.aC (m:=2000) ae bL2 rfl rfl rfl rfl (by kernel_rfl) ?_;intro hx gD;simp only[Tryz.f94];simp only[go_sem]
 have hlen:(cU (fO aE) M (m,a) c).length≤M.length+1:=mz OK (m,a) c M;have hb:cU (fO aE) M (m,a) c=cU (iB rs).eq M (m,a) c:=rfl;have hm:aN (fO aE) M (m,a)=aN (iB rs).eq M (m,a):=rfl
 unfold Op.Wk.ko Op.Wk.gi;rw[←hb,←hm];refine⟨fun x hx=>⟨fun g=>?_,fun g=>⟨v6,?_⟩⟩,fun hn=>⟨v6,?_⟩⟩;(·have g:(x:Int)≤c:=g;rw[hx];simp[show¬c<x by omega])
 (·have g: ¬(x:Int)≤c:=g;rw[hx];simp[show c<x by omega]);·rw[hn];simp
def wkT:Op.Wk ax:=⟨fO .str,[],fun _=>0,fun k _=>(k,true)⟩
theorem bx6: ∀x y:Ty.str.den,fO .str x y=true↔x=y:=fun x y=>nO .str x y rfl
theorem YT(M:List (ax×Int))(hl:M.length≤1000000)(k:ax)(c:Int):HC env 45 [.lmap 1000000000,.iv .str k,.iv (.int .i64) c] [(1000000000,.mp .str (.int .i64) M)] (.iv .bool (wkT.ko M k c)) [(1000000000,.mp .str (.int .i64) (wkT.gi M k c))]:=by
 refine HC.aC (m:=2000) ae bJ5 rfl rfl rfl rfl (by kernel_rfl) ?_;intro hx gD;simp only[Tryz.f45];simp only[go_sem]
 have hlen:(cU (fO .str) M k c).length≤M.length+1:=mz bx6 k c M;have hb:cU (fO .str) M k c=cU wkT.eq M k c:=rfl;have hm:aN (fO .str) M k=aN wkT.eq M k:=rfl;unfold Op.Wk.ko Op.Wk.gi
 rw[←hb,←hm];refine⟨fun x hx=>⟨fun g=>?_,fun g=>⟨v6,?_⟩⟩,fun hn=>⟨v6,?_⟩⟩;(·have g:(x:Int)≤c:=g;rw[hx];simp[show¬c<x by omega]);(·have g: ¬(x:Int)≤c:=g;rw[hx];simp[show c<x by omega])
 ·rw[hn];simp
end
section
attribute[local go_sem]gH bH ne_eq not_false_eq_true
abbrev gV:=ax×Int
section
attribute[local go_sem←]u3 u4 u5
variable {en:Prop} [lj en]
theorem Mc(a:Int):PC env 133 [⟨.int .i64,a⟩] .bool false:=by
 refine PC.aC (m:=2000) ae bs8 rfl rfl rfl rfl (by kernel_rfl) ?_;intro hx;simp only[Tryz.f133];simp only[go_sem]
theorem Md(a:ax):PC env 134 [⟨.str,a⟩] .bool false:=by
 refine PC.aC (m:=2000) ae bs9 rfl rfl rfl rfl (by kernel_rfl) ?_;intro hx;simp only[Tryz.f134];simp only[go_sem]
def I5(a b:Int):Int:=if a<b then-1 else if b<a then 1 else 0
def aQ7(a b:ax):Int:=if bytesLess a b=true then-1 else if a=b then 0 else 1
theorem OL(a b:Int):PC env 98 [⟨.int .i64,a⟩,⟨.int .i64,b⟩] (.int .i64) (I5 a b):=by
 refine PC.aC (m:=2000) ae bL4 rfl rfl rfl rfl (by kernel_rfl) ?_;intro hx;simp only[Tryz.f98];simp only[go_sem]
 refine⟨_,Mc a,?_⟩;simp only[go_sem];refine⟨_,Mc b,?_⟩;simp only[go_sem]
 unfold I5;refine⟨fun h=>?_,fun h=>⟨fun h'=>?_,fun h'=>?_⟩⟩;(·rw[if_pos h]);(·rw[if_neg h,if_pos h']);·rw[if_neg h,if_neg h']
theorem OM(a b:ax):PC env 99 [⟨.str,a⟩,⟨.str,b⟩] (.int .i64) (aQ7 a b):=by
 refine PC.aC (m:=2000) ae bL5 rfl rfl rfl rfl (by kernel_rfl) ?_;intro hx;simp only[Tryz.f99];simp only[go_sem]
 refine⟨_,Md a,?_⟩;simp only[go_sem];refine⟨_,Md b,?_⟩;simp only[go_sem]
 unfold aQ7;cases h:bytesLess a b;(·simp(config:= {maxSteps:=4000000})only[go_sem,h];exact⟨fun h2=>by simp[h2],fun h2=>by simp[h2]⟩)
 ·simp only[go_sem]
theorem bO3(xs:List Int):PC env 97 [⟨.sl (.int .i64),xs⟩] (.int .i64) ((xs.find? (·≠0)).getD 0):=by
 refine PC.aC (m:=2000) ae aW9 rfl rfl rfl rfl (by kernel_rfl) ?_;intro hx;simp only[Tryz.f97];simp only[go_sem]
 refine ah.VC (X:=Nat) (fun i=>⟨[(8,.iv (.int .i64) (i:Int)),(7,.iv (.int .i64) (xs.length:Int)),(6,.iv (.sl (.int .i64)) xs),(3,.iv (.int .i64) (0:Int))],[]⟩) (fun i=>i≤xs.length∧(xs.take i).find? (·≠0)=none) (fun i=>xs.length-i) 0 v8 ⟨x9,rfl⟩ ?_
 intro i⟨hi,hb⟩back;refine av ae ⟨_,aW9,rfl⟩ 2000 _ _ (by kernel_rfl) ?_;simp only[go_sem];refine⟨fun h=>?_,fun h=>?_⟩
 (·obtain⟨x,nz⟩: ∃x,xs[i]?=some x:=au v6;refine⟨v6,x,nz,fun h'=>?_,fun h'=>⟨?_,?_⟩⟩;(·(have:xs.find? (·≠0)=some x:=by rw[←List.take_append_drop i xs,List.find?_append,hb,drop_cons nz];simp[h']);rw[this];rfl);(·simp only[oks,Ty.ok]at hx;exact ak v6 v6);·refine back _ (i+1) v8 ⟨v6,?_⟩ v6;rw[List.take_add_one,List.find?_append,hb,nz];simp[h'])
 ·have e:xs.take i=xs:=wt v6;rw[e]at hb;rw[hb];rfl
theorem QX(r:gV):PC env 48 [⟨aP,r⟩] .str r.1:=by
 obtain⟨t,c⟩:=r;refine PC.aC (m:=2000) ae bJ8 rfl rfl rfl rfl (by kernel_rfl) ?_;intro hx;simp only[Tryz.f48];simp only[go_sem]
theorem QY(r:gV):PC env 47 [⟨aP,r⟩] (.int .i64) r.2:=by
 obtain⟨t,c⟩:=r;refine PC.aC (m:=2000) ae bJ7 rfl rfl rfl rfl (by kernel_rfl) ?_;intro hx;simp only[Tryz.f47];simp only[go_sem]
def I6(x y:gV):Int:=(([I5 x.2 y.2,aQ7 x.1 y.1]:List Int).find? (·≠0)).getD 0
theorem bx7(x y:gV):PC env 96 [⟨aP,x⟩,⟨aP,y⟩,⟨.ptr .aL,47⟩,⟨.ptr .aL,48⟩] (.int .i64) (I6 x y):=by
 obtain⟨t,c⟩:=x;obtain⟨t',c'⟩:=y;refine PC.aC (m:=2000) ae bL3 rfl rfl rfl rfl (by kernel_rfl) ?_;intro hx;simp only[Tryz.f96];simp only[go_sem]
 refine⟨_,QY (t,c),fun _=>⟨_,QY (t',c'),fun _=>⟨_,OL c c',fun _=>⟨_,QX (t,c),fun _=>⟨_,QX (t',c'),fun _=>⟨_,OM t t',fun _=>⟨_,bO3 _,fun _=>?_⟩⟩⟩⟩⟩⟩⟩;rfl
end
theorem YU(xs:List gV)(hl:xs.length≤1000000):PC env 49 [⟨.sl aP,xs⟩] (.sl aP) xs:=by
 refine PC.aC (m:=2000) ae bJ9 rfl rfl rfl rfl (by kernel_rfl) ?_;intro hx;simp only[Tryz.f49];simp only[go_sem]
 intro b hb;cases b;(·simp only[go_sem];exact Nat.le_trans hl (by decide));·simp only[go_sem];exact(hb rfl).symm
end
section
theorem nt {k k':fL} {r:Rl} (h:pJ k r=(k',true)):k'=(r.2.1,k.2++r.2.2.2.1):=by unfold pJ at h;injection h with h1 h2;exact h1.symm
theorem bx8 {rs : List Rl} {h : Int → Nat} (ht : ∀ m, h m ≤ 8) : (iB rs).Ok h where
  he := OK
  to := fun k r k' _ _ cw => by
    have := nt cw
    subst this
    rfl
  top := ht
def GP(rs:List Rl)(inp:ax)(h:Int→Nat)(p:Nat)(k:fL)(c:Int):Prop:=(0≤k.1∧k.1<8)∧k.2.length≤36*p+4*h k.1∧(0≤c∧c≤9000*(p:Int)+1000*(h k.1:Int))∧Op.Rt (iB rs) inp (0,[]) p k c
theorem Eo {rs:List Rl} {inp:ax} {A:Int→Prop} (TJ:A 0)(hA: ∀r,r∈rs→A r.1→A r.2.1) {p:Nat} {k:fL} {c:Int} (hR:Op.Rt (iB rs) inp (0,[]) p k c):A k.1:=by
 induction hR with|start=>exact TJ| @TP p k c r k' _ hm _ hf cw ih=>have:=nt cw;subst this;have Cn:r.1=k.1:=hf;exact hA r hm (Cn▸ih)| @take p k c r k' _ hm _ hf _ cw ih=>have:=nt cw;subst this;have Cn:r.1=k.1:=hf;exact hA r hm (Cn▸ih)
theorem aQ8 {rs : List Rl} {inp : ax} {h : Int → Nat} {n : Int} (hn : n ≤ 8) (hR : ∀ r, r ∈ rs → cC n r = true) {A : Int → Prop} (TJ : A 0) (hA : ∀ r, r ∈ rs → A r.1 → A r.2.1) (hr : ∀ r, r ∈ rs → A r.1 → bP r = true → h r.1 < h r.2.1) (ht : ∀ m, h m ≤ 8) : Op.Good (iB rs) inp (0, []) h (GP rs inp h) where
  start := ⟨⟨Int.le_refl _, by decide⟩, by simp, ⟨Int.le_refl _, by dsimp only; omega⟩, .start⟩
  place := fun p => ⟨fun k c r k' hg hm hs hf cw => by
      obtain ⟨_, h2, h3, h4⟩ := hg
      have h6 := bk (hR r hm)
      have Cn : r.1 = k.1 := hf
      have h7 := hr r hm (Cn ▸ Eo TJ hA h4) hs
      have h8 := nt cw
      refine ⟨?_, ?_, ?_, .TP h4 hm hs hf cw⟩
      · rw [h8]; dsimp only; omega
      · rw [h8, Cn] at *
        dsimp only
        rw [y9]
        omega
      · rw [h8]
        dsimp only
        rw [Cn] at h7
        omega, fun k c hg => by
      obtain ⟨_, _, h3, _⟩ := hg
      have : (iB rs).mode k = k.1 := rfl
      rw [this]
      omega, fun k c r hg hm hs hf => by
      obtain ⟨_, _, _, h4⟩ := hg
      have Cn : r.1 = k.1 := hf
      have h7 := hr r hm (Cn ▸ Eo TJ hA h4) hs
      rw [← hf]
      exact h7⟩
  take := fun p k c r k' hg hm hs hf hp cw => by
    obtain ⟨_, h2, h3, h4⟩ := hg
    have h6 := bk (hR r hm)
    have h7 := Op.yc hs
    have h8 := ht k.1
    have h9 := nt cw
    refine ⟨?_, ?_, ?_, .take h4 hm hs hf hp cw⟩
    · rw [h9]; dsimp only; omega
    · rw [h9]; dsimp only; rw [y9]; omega
    · omega
theorem bx9 {rs:List Rl} {inp:ax} {h:Int→Nat} (ht: ∀m,h m≤8) {p:Nat} {k:fL} {c:Int} (hp:p≤40)(hg:GP rs inp h p k c):k.2.length≤2000:=by have:=hg.2.1;have:=ht k.1;omega
def zM(rs:List Rl)(a:Int)(inp t:ax)(c:Int):Prop:= ∃k,Op.Rt (iB rs) inp (0,[]) inp.length k c∧k.2=t∧gU a k.1=true
def YV(rs:List Rl)(a:Int)(inp t:ax)(c:Int):Prop:=zM rs a inp t c∧ ∀c',zM rs a inp t c'→c≤c'
def Me(x y:gV):Bool:=decide (I6 x y<0)
def Hb(rs:List Rl)(a:Int)(inp:ax)(k:Nat)(r:List gV×Int):Prop:=(r=([],2)∧ ∃p,p≤inp.length∧ ¬Op.QS (iB rs) inp (0,[]) 2000 p)∨((∀p,p≤inp.length→Op.QS (iB rs) inp (0,[]) 2000 p)∧((r=([],50)∧ ∀t c,¬zM rs a inp t c)∨ ∃L:List gV,L≠ []∧L.Pairwise (fun x y=>Me x y=true)∧(∀x,x∈L↔YV rs a inp x.1 x.2)∧r=(L.take k,0)))
structure CI(rs:List Rl)(a:Int)(inp:ax)(M:List (fL×Int))(seen:List Nat)(C:List (ax×Int)):Prop where
 once:(C.map (·.1)).Nodup
 out: ∀t c,aN (fO .str) C t=some c→zM rs a inp t c
 dom: ∀j,j∈seen→ ∀e,M[j]?=some e→gU a e.1.1=true→ ∃c',c'≤e.2∧aN (fO .str) C e.1.2=some c'
 len:C.length+Bf M.length seen≤M.length
variable {rs:List Rl} {a:Int} {inp:ax} {M:List (fL×Int)} {seen:List Nat} {C:List (ax×Int)}
theorem Ep : wkT.Ok (fun _ => 0) where
  he := bx6
  to := fun k r k' hr _ _ => absurd hr wn
  top := fun _ => x9
theorem CI.skip(hI:CI rs a inp M seen C) {j:Nat} {e:fL×Int} (he:M[j]?=some e)(hj:j∉seen)(hn:gU a e.1.1=false):CI rs a inp M (seen++ [j]) C:=by
 have cu:=qS (z6 he).1 hj;refine⟨hI.once,hI.out,fun i hi f hf hw=>?_,by have:=hI.len;omega⟩;rcases ws hi with hi|hi;(·exact hI.dom i hi f hf hw)
 ·rw[wd hi,he]at hf;injection hf with hf;subst hf;rw[hn]at hw;cases hw
theorem CI.take(hI:CI rs a inp M seen C) {j:Nat} {e:fL×Int} (he:M[j]?=some e)(hj:j∉seen)(hw:gU a e.1.1=true)(hR:Op.Rt (iB rs) inp (0,[]) inp.length e.1 e.2):CI rs a inp M (seen++ [j]) (wkT.gi C e.1.2 e.2):=by
 have cu:=qS (z6 he).1 hj;have hl:=Ep.ya (M:=C) (k:=e.1.2) (c:=e.2);refine⟨Ep.pH hI.once,fun t c hf=>?_,fun i hi f hf hw'=>?_,by have:=hI.len;omega⟩
 (·exact Op.Eh (P:=fun t c=>zM rs a inp t c) Ep hI.out ⟨e.1,hR,rfl,hw⟩ t c hf);·rcases ws hi with hi|hi;(·obtain⟨c1,h1,h2⟩:=hI.dom i hi f hf hw';obtain⟨c2,h3,h4⟩:=Ep.zJ (k:=e.1.2) (c:=e.2) h2;exact⟨c2,v6,h4⟩);·rw[wd hi,he]at hf;injection hf with hf;subst hf;exact Ep.BL
theorem CI.done(hI:CI rs a inp M seen C)(bt: ∀j,j<M.length→j∈seen)(hd: ∀k c,Op.Rt (iB rs) inp (0,[]) inp.length k c→Op.BM (iB rs) M k c):(∀x:gV,x∈C↔YV rs a inp x.1 x.2)∧ ∀t c,zM rs a inp t c→C≠ []:=by
 (have key: ∀t c,zM rs a inp t c→ ∃c',c'≤c∧aN (fO .str) C t=some c':=by rintro t c⟨k,hR,rfl,hw⟩;obtain⟨c1,h1,h2⟩:=hd k c hR;obtain⟨i,hi⟩:=List.getElem?_of_mem (my OK h2);obtain⟨c2,h3,h4⟩:=hI.dom i (bt i (z6 hi).1) _ hi hw;dsimp only at h3;exact⟨c2,v6,h4⟩)
 refine⟨fun x=>?_,fun t c h e=>by obtain⟨c',_,h2⟩:=key t c h;rw[e]at h2;cases h2⟩;obtain⟨t,c⟩:=x;rw[gE bx6 hI.once];constructor;(·intro hf;refine⟨hI.out t c hf,fun c' h=>?_⟩;obtain⟨c2,h1,h2⟩:=key t c' h;rw[hf]at h2;injection h2 with h2;dsimp only;omega)
 ·rintro⟨h1,h2⟩;obtain⟨c',h3,h4⟩:=key t c h1;have:=h2 c' (hI.out t c' h4);dsimp only at this;have e:c'=c:=v6;subst e;exact h4
end
section
open Go.Shelf
def Tk:Go.Shelf.Ren:=⟨fun|6=>95|15=>132|14=>131|28=>154|29=>155|20=>146|21=>147|22=>148|23=>149|24=>150|25=>151|26=>152|27=>153|46=>158|47=>159|48=>160|49=>161|50=>162|57=>163|n=>n,fun|22=>35|24=>39|25=>184|3=>3|39=>240|0=>0|53=>262|55=>264|4=>4|46=>256|45=>255|50=>139|5=>5|9=>9|66=>267|70=>271|76=>273|77=>274|n=>n,fun|n=>n⟩
theorem bO4 : Go.Proofs.SlLaysF0.n6 Tryz.prog Tk := {
  mixed := by kernel_rfl
  f6 := ⟨Tryz.f95.name, by decide, Tryz.func95.trans (congrArg some (by kernel_rfl))⟩
  f14 := ⟨Tryz.f131.name, by decide, Tryz.func131.trans (congrArg some (by kernel_rfl))⟩
  f15 := Tryz.func132.trans (congrArg some (by kernel_rfl))
  f20 := ⟨Tryz.f146.name, by decide, Tryz.func146.trans (congrArg some (by kernel_rfl))⟩
  f21 := ⟨Tryz.f147.name, by decide, Tryz.func147.trans (congrArg some (by kernel_rfl))⟩
  f22 := ⟨Tryz.f148.name, by decide, Tryz.func148.trans (congrArg some (by kernel_rfl))⟩
  f23 := ⟨Tryz.f149.name, by decide, Tryz.func149.trans (congrArg some (by kernel_rfl))⟩
  f24 := ⟨Tryz.f150.name, by decide, Tryz.func150.trans (congrArg some (by kernel_rfl))⟩
  f25 := ⟨Tryz.f151.name, by decide, Tryz.func151.trans (congrArg some (by kernel_rfl))⟩
  f26 := ⟨Tryz.f152.name, by decide, Tryz.func152.trans (congrArg some (by kernel_rfl))⟩
  f27 := ⟨Tryz.f153.name, by decide, Tryz.func153.trans (congrArg some (by kernel_rfl))⟩
  f28 := Tryz.func154.trans (congrArg some (by kernel_rfl))
  f29 := Tryz.func155.trans (congrArg some (by kernel_rfl))
  f46 := ⟨Tryz.f158.name, by decide, Tryz.func158.trans (congrArg some (by kernel_rfl))⟩
  f47 := Tryz.func159.trans (congrArg some (by kernel_rfl))
  f48 := Tryz.func160.trans (congrArg some (by kernel_rfl))
  f49 := ⟨Tryz.f161.name, by decide, Tryz.func161.trans (congrArg some (by kernel_rfl))⟩
  f50 := ⟨Tryz.f162.name, by decide, Tryz.func162.trans (congrArg some (by kernel_rfl))⟩
  f57 := ⟨Tryz.f163.name, by decide, Tryz.func163.trans (congrArg some (by kernel_rfl))⟩
  t0 := Tryz.underlying0
  a0 := Tryz.isAgg0
  z0 := Tryz.sizeOf0
  v0 := Tryz.zeroValue0
  t3 := Tryz.underlying3
  a3 := Tryz.isAgg3
  z3 := Tryz.sizeOf3
  v3 := Tryz.zeroValue3
  t4 := Tryz.underlying4
  a4 := Tryz.isAgg4
  z4 := Tryz.sizeOf4
  v4 := Tryz.zeroValue4
  t5 := Tryz.underlying5
  a5 := Tryz.isAgg5
  z5 := Tryz.sizeOf5
  v5 := Tryz.zeroValue5
  t9 := Tryz.underlying9
  a9 := Tryz.isAgg9
  z9 := Tryz.sizeOf9
  v9 := Tryz.zeroValue9
  t22 := Tryz.underlying35
  a22 := Tryz.isAgg35
  z22 := Tryz.sizeOf35
  v22 := Tryz.zeroValue35
  t25 := Tryz.underlying184
  a25 := Tryz.isAgg184
  z25 := Tryz.sizeOf184
  v25 := Tryz.zeroValue184
  t39 := Tryz.underlying240
  a39 := Tryz.isAgg240
  z39 := Tryz.sizeOf240
  v39 := Tryz.zeroValue240
  t45 := Tryz.underlying255
  a45 := Tryz.isAgg255
  z45 := Tryz.sizeOf255
  v45 := Tryz.zeroValue255
  t46 := Tryz.underlying256
  a46 := Tryz.isAgg256
  z46 := Tryz.sizeOf256
  v46 := Tryz.zeroValue256
  t50 := Tryz.underlying139
  a50 := Tryz.isAgg139
  z50 := Tryz.sizeOf139
  v50 := Tryz.zeroValue139
  t53 := Tryz.underlying262
  a53 := Tryz.isAgg262
  z53 := Tryz.sizeOf262
  v53 := Tryz.zeroValue262
  t55 := Tryz.underlying264
  a55 := Tryz.isAgg264
  z55 := Tryz.sizeOf264
  v55 := Tryz.zeroValue264
  t66 := Tryz.underlying267
  a66 := Tryz.isAgg267
  z66 := Tryz.sizeOf267
  v66 := Tryz.zeroValue267
  t70 := Tryz.underlying271
  a70 := Tryz.isAgg271
  z70 := Tryz.sizeOf271
  v70 := Tryz.zeroValue271
  t76 := Tryz.underlying273
  a76 := Tryz.isAgg273
  z76 := Tryz.sizeOf273
  v76 := Tryz.zeroValue273
  t77 := Tryz.underlying274
  a77 := Tryz.isAgg274
  z77 := Tryz.sizeOf274
  v77 := Tryz.zeroValue274 }
end
section
open Go.Shelf
theorem YW {x y:gV} :I6 x y<0↔x.2<y.2∨x.2=y.2∧bytesLess x.1 y.1=true:=by
 obtain⟨t,c⟩:=x;obtain⟨t',c'⟩:=y;unfold I6;dsimp only;by_cases h1:c<c';(·(have:I5 c c'= -1:=by unfold I5;rw[if_pos h1]);rw[this];simp[h1]);·by_cases h2:c'<c;(·(have:I5 c c'=1:=by unfold I5;rw[if_neg h1,if_pos h2]);rw[this];simp;omega);·have e:c=c':=v6;(have:I5 c c'=0:=by unfold I5;rw[if_neg h1,if_neg h2]);rw[this];unfold aQ7;by_cases h3:bytesLess t t'=true;(·simp[h3,e]);·by_cases h4:t=t';(·subst h4;simp[h3,e]);·simp[h3,h4,e]
theorem BO {x y:gV} :Me x y=true↔x.2<y.2∨x.2=y.2∧bytesLess x.1 y.1=true:=by unfold Me;rw[decide_eq_true_eq];exact YW
theorem I7: ∀x y:ax,bytesLess x y=Rev.bytesLess x y|_,[]=>(by simp[Rev.bytesLess,bytesLess])|[],_::_=>(by simp[Rev.bytesLess,bytesLess])|a::x,b::y=>by simp only[Rev.bytesLess,bytesLess,I7 x y]
theorem I8(x:gV):Me x x=false:=by rw[Bool.eq_false_iff,ne_eq,BO];rintro(h|⟨_,h⟩);(·omega);·rw[I7,Rev.sF]at h;cases h
theorem zN {x y z:gV} (h:Me x y=true)(h':Me y z=true):Me x z=true:=by
 rw[BO]at*;rw[I7]at*;rcases h with h|⟨h1,h2⟩<;>rcases h' with h'|⟨h3,h4⟩;(·exact .inl v6);(·exact .inl v6);(·exact .inl v6);·exact .inr ⟨v6,Rev.sG h2 h4⟩
theorem Hc {x y:gV} (h:x≠y)(h':Me x y=false):Me y x=true:=by
 rw[Bool.eq_false_iff,ne_eq,BO]at h';rw[BO];rw[I7]at*;by_cases h1:y.2<x.2;(·exact .inl h1);·(have e:x.2=y.2:=by refine Classical.byContradiction fun hn=>h' (.inl v6));refine .inr ⟨e.symm,Rev.sH (fun e2=>h (Prod.ext e2 e)) ?_⟩;rw[Bool.eq_false_iff];exact fun h2=>h' (.inr ⟨e,h2⟩)
abbrev MR:Type:= { r:gV // aP.ok r }
theorem YX:aP.ok (([],0):gV):=⟨x9,ak (by decide) (by decide)⟩
instance:Inhabited MR:=⟨⟨([],0),YX⟩⟩
def pK(r:gV):List Value:=[.string ⟨r.1.toArray⟩,.int .i64 r.2]
theorem Er {r:gV} (h:aP.ok r)(w:World)(M:Mem):aH aP r w M (pK r):=by obtain⟨h1,h2⟩:=h;exact⟨[_],_,rfl,⟨rfl,h1⟩,⟨rfl,h2⟩⟩
theorem YY {r:gV} {w:World} {M:Mem} {cs:List Value} (h:aH aP r w M cs):cs=pK r:=by obtain⟨a1,b1,rfl,⟨rfl,_⟩,⟨rfl,_⟩⟩:=h;rfl
theorem Mf {w w':World} (h:RowKit.Below w.heap.size w w')(hd:w.drawn≤w'.drawn): ∃q os,w'=Go.Sort.grow (w.drewN q) os:=by
 refine⟨w'.drawn-w.drawn,w'.heap.extract w.heap.size w'.heap.size,?_⟩;(have hh:w'.heap=w.heap++w'.heap.extract w.heap.size w'.heap.size:=by apply Array.ext_getElem?;intro i;by_cases hi:i<w.heap.size;(·rw[Array.getElem?_append_left hi,h.block i hi]);·rw[Array.getElem?_append_right v6,Array.getElem?_extract];have:=h.size;by_cases XT:i<w'.heap.size;(·rw[if_pos v6];congr 1;omega);·rw[if_neg v6,Array.getElem?_eq_none v6])
 (have Pb:w'.drawn=w.drawn+(w'.drawn-w.drawn):=by omega);cases w';cases w;obtain⟨h1,h2,h3,_,_⟩:=h;dsimp only at h1 h2 h3 hh Pb;subst h1 h2 h3;unfold Go.Sort.grow World.drewN
 dsimp only;congr 1
theorem Tl(x y:gV)(hx:aP.ok x)(hy:aP.ok y)(W:World)(g1 g2:Nat)(e1 e2:TypeId)(h1:W.heap[g1]?=some (.cells #[.func (.func 47) #[] #[]] e1 (0,0)))(h2:W.heap[g2]?=some (.cells #[.func (.func 48) #[] #[]] e2 (0,0))):Calls env.P 96 #[.agg (pK x).toArray,.agg (pK y).toArray,.pointer (some ⟨g1,0,none⟩),.pointer (some ⟨g2,0,none⟩)] W fun e w'=>e= .returned (.int .i64 (I6 x y))∧ ∃q os,w'=Go.Sort.grow (W.drewN q) os:=by
 have l1:=(z7 h1).1;have l2:=(z7 h2).1;have hc:= @bx7 True ⟨⟩ x y W (fun b=>b=g1∨b=g2) [.agg (pK x).toArray,.agg (pK y).toArray,.pointer (some ⟨g1,0,none⟩),.pointer (some ⟨g2,0,none⟩)] (fun b hb=>by rcases hb with rfl|rfl<;>assumption) (fun g hg=>by cases hg) ⟨_,_,rfl,rfl,⟨_,rfl,Er hx _ _⟩,_,_,rfl,rfl,⟨_,rfl,Er hy _ _⟩,_,_,rfl,rfl,⟨g1,0,[_],rfl,.inl rfl,rfl,mj h1,rfl⟩,_,_,rfl,rfl,⟨g2,0,[_],rfl,.inr rfl,rfl,mj h2,rfl⟩,rfl⟩
 refine hc.mono fun e w'⟨v,he,⟨hb,hd⟩,S',_,_,_,hr⟩=>?_;(have hv:v= .int .i64 (I6 x y):=by have h1:=hr.1;simp only[List.cons.injEq,and_true]at h1;exact h1);subst hv
 exact⟨he,Mf hb (hd trivial)⟩
theorem pL {w:World} {g o n:Nat} {d:Array MR} {os:Array Obj} {k:Nat} (hk:k<w.heap.size)(bS:k≠g):(sortWorldK (fun x:MR=>pK x.1) 2 w g o n d os).heap[k]?=w.heap[k]?:=by
 show(w.heap.modify g (Go.Sort.onCells _)++os)[k]?=_;rw[Array.getElem?_append_left (by simpa using hk),Array.getElem?_modify,if_neg (fun e=>bS e.symm)]
theorem by0 {w:World} {g o n:Nat} {d:Array MR} {os:Array Obj} {cur:Array Value} {e:TypeId} (h:w.heap[g]?=some (.cells cur e (0,0))): ∃EU,EU.size=cur.size∧(sortWorldK (fun x:MR=>pK x.1) 2 w g o n d os).heap[g]?=some (.cells EU e (0,0)):=by
 have hg:=(z7 h).1;refine⟨Go.Sort.putCells id o (Go.Sort.flatK (fun x:MR=>pK x.1) 2 d) cur,by simp[Go.Sort.putCells],?_⟩;show(w.heap.modify g (Go.Sort.onCells _)++os)[g]?=_
 rw[Array.getElem?_append_left (by simpa using hg),Array.getElem?_modify,if_pos rfl,h];rfl
theorem YZ : Go.Sort.SWO (ltOf fun x y : MR => I6 x.1 y.1) where
  irrefl x := I8 x.1
  trans x y z h h' := zN (x := x.1) (y := y.1) (z := z.1) h h'
  ntrans x y z h h' := by
    have e : ∀ a b : MR, ltOf (fun x y : MR => I6 x.1 y.1) a b = Me a.1 b.1 := fun _ _ => rfl
    rw [e] at h h' ⊢
    rw [Bool.eq_false_iff]
    intro hh
    by_cases e1 : x.1 = y.1
    · rw [e1] at hh; rw [h'] at hh; cases hh
    · have h1 := Hc e1 h
      have := zN h1 hh
      rw [h'] at this; cases this
abbrev blF:List (Nat×aQ):=[(1000000001,.box [.fn 47 []]),(1000000002,.box [.fn 48 []])]
theorem Mg(b:aQ) {id:Nat} {c:aQ} (h:look id ((1000000000,b)::blF)=some c):id=1000000000∧c=b∨id=1000000001∧c= .box [.fn 47 []]∨id=1000000002∧c= .box [.fn 48 []]:=by
 simp only[blF,look]at h;cases h0:Nat.beq id 1000000000 with|true=>rw[h0]at h;exact .inl ⟨y6 h0,(Option.some.inj h).symm⟩|false=>rw[h0]at h;cases h1:Nat.beq id 1000000001 with|true=>rw[h1]at h;exact .inr (.inl ⟨y6 h1,(Option.some.inj h).symm⟩)|false=>rw[h1]at h;cases h2:Nat.beq id 1000000002 with|true=>rw[h2]at h;exact .inr (.inr ⟨y6 h2,(Option.some.inj h).symm⟩)|false=>rw[h2]at h;cases h
theorem aQ9 (xs : List gV) (hn : xs ≠ []) (bU : xs.Nodup) (hl : xs.length ≤ 1000000) : HN env 95 [.aB 1000000000, .fn 96 [.ref 1000000001 0, .ref 1000000002 0]] ((1000000000, .arr aP xs) :: blF) (.sl aP) (fun r => r.Perm xs ∧ r.Pairwise (fun x y => Me x y = true)) (fun _ => .bG []) (fun r => (1000000000, .arr aP r) :: blF) := by
  intro w S ν vs hS hT Pf hP bF nE
  simp only [aj] at nE
  obtain ⟨v1, r1, rfl, h1, v2, r2, rfl, h2, rfl⟩ := nE
  simp only [ag, aj] at h1 h2
  obtain ⟨_, rfl, _⟩ := h1
  obtain ⟨_, rfl, p1, q1, rfl, ⟨_, g1, by1, rfl⟩, p2, q2, rfl, ⟨_, g2, by2, rfl⟩, rfl⟩ := h2
  obtain ⟨_, _, vv, e, hlen, cZ⟩ := bF.cD 1000000000 (.arr aP xs) rfl
  obtain ⟨_, g1', vs1, e1, Y0, hO1, hS1, hh1, MI, ZS⟩ := bF.cD 1000000001 (.box [.fn 47 []]) rfl
  obtain ⟨_, g2', vs2, e2, Y1, hO2, hS2, hh2, FN, TF⟩ := bF.cD 1000000002 (.box [.fn 48 []]) rfl
  simp only [] at Y0 Y1 hh1 hh2 hO1 hO2 hS1 hS2
  rw [by1] at Y0
  rw [by2] at Y1
  injection Y0 with e3; injection e3 with e3; injection e3 with e3; subst e3
  injection Y1 with e3; injection e3 with e3; injection e3 with e3; subst e3
  have hv1 : vs1 = #[.func (.func 47) #[] #[]] := by
    simp only [aj, ag] at ZS
    obtain ⟨v, r, e, ⟨u, rfl, rfl⟩, rfl⟩ := ZS
    exact Array.toList_inj.1 e
  have ML : vs2 = #[.func (.func 48) #[] #[]] := by
    simp only [aj, ag] at TF
    obtain ⟨v, r, e, ⟨u, rfl, rfl⟩, rfl⟩ := TF
    exact Array.toList_inj.1 e
  subst hv1; subst ML
  rcases cZ with ⟨_, rb⟩ | ⟨g, o, cap, cur, e', hv, h3, h4, h5, h6, h7, h8, h9⟩
  · exact absurd rb hn
  obtain ⟨rfl⟩ : vv = ν 1000000000 := by simpa using e.symm
  have hg := (z7 h7).1
  have hg1 := (z7 hh1).1
  have MP := (z7 hh2).1
  have bO5 : g1 ≠ g := fun e => bF.ne 1000000001 1000000000 _ _ (by decide) rfl rfl g (by rw [by1, e]; rfl) (by rw [hv]; rfl)
  have VV : g2 ≠ g := fun e => bF.ne 1000000002 1000000000 _ _ (by decide) rfl rfl g (by rw [by2, e]; rfl) (by rw [hv]; rfl)
  have bt : ∀ x, x ∈ xs → aP.ok x := fun x hx => by
    obtain ⟨i, hi⟩ := List.getElem?_of_mem hx
    obtain ⟨cs, _, _, hr⟩ := h9 i x hi
    exact gO _ _ _ _ _ hr
  let ys : List MR := xs.attach.map fun x => ⟨x.1, bt x.1 x.2⟩
  have qh : ys.map (·.1) = xs := by
    show (xs.attach.map _).map _ = xs
    rw [List.map_map]
    exact List.attach_map_subtype_val xs
  have Es : ys.length = xs.length := by simp [ys]
  have hHo : Go.Sort.HoldsK (fun x : MR => pK x.1) 2 w g o ys.toArray := by
    intro j hj
    have Aa : j < xs.length * 2 := by
      have := hj
      rw [Go.Sort.size_flatK] at this
      simpa [Es] using this
    have MO : j / 2 < xs.length := by omega
    refine ⟨?_, by simp [World.frozen?, h7]⟩
    rw [Go.Sort.get_flatK _ _ _ _ (by simpa [Es] using Aa)]
    obtain ⟨x, hx⟩ := au (xs := xs) (i := j / 2) MO
    obtain ⟨cs, gI, Cd, hr⟩ := h9 (j / 2) x hx
    have ES := YY hr
    subst ES
    have hyx : (ys.toArray[j / 2]!).1 = x := by
      have h10 : ys[j / 2]? = some (ys[j / 2]'v6) := List.getElem?_eq_getElem v6
      have h11 : (ys.map (·.1))[j / 2]? = some x := by rw [qh]; exact hx
      rw [List.getElem?_map, h10] at h11
      injection h11 with h11
      rw [getElem!_pos ys.toArray (j / 2) (by simpa using (by omega : j / 2 < ys.length))]
      simpa using h11
    rw [hyx]
    have hc := Cd (j % 2) ((pK x)[j % 2]!) (by
      rw [List.getElem?_eq_getElem (by show j % 2 < 2; omega), getElem!_pos (pK x) (j % 2) (by show j % 2 < 2; omega)])
    have ea : o + j / 2 * aP.cells + j % 2 = o + j := by
      show o + j / 2 * 2 + j % 2 = o + j
      omega
    rw [ea] at hc
    exact hc
  have lp := AnyQ.slices_SortFunc bO4 2 (fun w => (ae.facts (N8)).isAgg w) (fun w => (ae.facts (N8)).sizeOf w) (fun x : MR => pK x.1) (fun _ => rfl)
    (fun x v hv => by simp [pK] at hv; rcases hv with rfl | rfl <;> rfl) (fun x y : MR => I6 x.1 y.1) YZ 96 #[.pointer (some ⟨g1, 0, none⟩), .pointer (some ⟨g2, 0, none⟩)] g o cap ys.toArray w
    (enters_of Tryz.func96 (by kernel_rfl) rfl) (fun m os dk _ x y =>
      Tl x.1 y.1 x.2 y.2 (sortWorldK (fun x : MR => pK x.1) 2 w g o m dk os) g1 g2 e1 e2 (by rw [pL hg1 bO5]; exact hh1) (by rw [pL MP VV]; exact hh2)) hHo hg (by simp [Es]; omega)
  rw [show (ys.toArray).size = xs.length by simp [Es]] at lp
  rw [hv]
  refine Calls.mono lp ?_
  rintro e4 w' ⟨rfl, d', n, os, hp, hso, rfl⟩
  have hds : d'.size = xs.length := by rw [hp.1]; simp [Es]
  have pP : d'.toList.Perm ys := by
    have := hp.2.2
    rw [show xs.length = ys.toArray.size by simp [Es], Array.extract_size] at this
    rw [show ys.toArray.size = d'.size from hp.1.symm, Array.extract_size] at this
    simpa using this
  have hpz : (d'.toList.map (·.1)).Perm xs := by
    have := pP.map (·.1)
    rwa [qh] at this
  have bS : (d'.toList.map (·.1)).Pairwise (fun a b => a ≠ b) := hpz.nodup_iff.2 bU
  have cY : (d'.toList.map (·.1)).Pairwise (fun x y => Me x y = true) := by
    rw [List.pairwise_iff_getElem] at bS ⊢
    intro a b ha hb iu
    have jf : b < d'.size := by simpa using hb
    have h1 := hso a b (x9) iu v6
    have h2 := bS a b ha hb iu
    rw [getElem!_pos d' b jf, getElem!_pos d' a v6] at h1
    have h4 : Me (d'[b]).1 (d'[a]).1 = false := h1
    simp only [List.getElem_map, Array.getElem_toList] at h2 ⊢
    exact Hc (fun e => h2 e.symm) h4
  have bX5 := holdsK_sortWorldK_c (fun x : MR => pK x.1) 2 w g o ys.toArray d' n os hHo hg (by rw [hds]; simp [Es])
  have hws := size_sortWorldK_c (fun x : MR => pK x.1) 2 w g o n d' os
  obtain ⟨EU, ES, vY⟩ := by0 (o := o) (n := n) (d := d') (os := os) h7
  have FW : iS ν ((1000000000, .arr aP xs) :: blF) g := ⟨1000000000, _, rfl, by rw [hv]; rfl⟩
  have hlz : (d'.toList.map (·.1)).length = xs.length := by simp [hds]
  refine ⟨_, d'.toList.map (·.1), rfl, ⟨hpz, cY⟩, ⟨rfl, rfl, rfl, hws, fun k hk hx => pL hk fun e => hx (e ▸ FW), fun _ => Nat.le_add_right _ _⟩, ν, S, fun _ h => h, fun _ h => .inl h, fun _ _ _ => rfl, ⟨fun b hb => Nat.lt_of_lt_of_le (hS b hb) hws, fun b hb => .inl (Nat.le_trans hws hb), fun id b hb => ?_, fun a b x y iu ha hb => ?_⟩, ⟨[], rfl, rfl⟩⟩
  · rcases Mg _ hb with ⟨rfl, rfl⟩ | ⟨rfl, rfl⟩ | ⟨rfl, rfl⟩
    · refine ⟨(fun t ht => by cases ht), by decide, ν 1000000000, rfl, by rw [hlz]; exact hlen, .inr ⟨g, o, cap, EU, e', by rw [hlz]; exact hv, by rw [hlz]; exact h3, h4, h5, ?_, vY, by rw [ES]; exact h8, fun i y hi => ?_⟩⟩
      · exact .inr FW
      · rw [List.getElem?_map] at hi
        obtain ⟨yy, Jo, rfl⟩ := Option.map_eq_some_iff.1 hi
        have wS : i < d'.size := by
          have := (z6 Jo).1
          simpa using this
        refine ⟨pK yy.1, rfl, fun j v hjv => ?_, Er yy.2 _ _⟩
        have hj6 : j < 2 := (z6 hjv).1
        have hc := (bX5 (i * 2 + j) (by rw [Go.Sort.size_flatK]; omega)).1
        rw [Go.Sort.get_flatK _ _ _ _ v6] at hc
        have e6 : (i * 2 + j) / 2 = i := by omega
        have e7 : (i * 2 + j) % 2 = j := by omega
        rw [e6, e7] at hc
        have hdi : d'[i]! = yy := by
          rw [getElem!_pos d' i wS]
          have := (z6 Jo).2
          simpa using this
        rw [hdi] at hc
        have ML : (pK yy.1)[j]! = v := by
          obtain ⟨hj, rfl⟩ := z6 hjv
          exact getElem!_pos (pK yy.1) j hj
        rw [ML] at hc
        show World.cell? _ ⟨g, o + i * 2 + j, none⟩ = some v
        rw [Nat.add_assoc]
        exact hc
    · exact ⟨cA _ _, g1, _, e1, by1, hO1, hS1, by dsimp only; rw [pL hg1 bO5]; exact hh1, MI, ⟨_, _, rfl, ⟨[], rfl, rfl⟩, rfl⟩⟩
    · exact ⟨cA _ _, g2, _, e2, by2, hO2, hS2, by dsimp only; rw [pL MP VV]; exact hh2, FN, ⟨_, _, rfl, ⟨[], rfl, rfl⟩, rfl⟩⟩
  · have iG : ∀ c z, look c (((1000000000 : Nat), aQ.arr aP (d'.toList.map (·.1))) :: blF) = some z → ∃ z', look c (((1000000000 : Nat), aQ.arr aP xs) :: blF) = some z' := fun c z h => by
      rcases Mg _ h with ⟨rfl, rfl⟩ | ⟨rfl, rfl⟩ | ⟨rfl, rfl⟩ <;> exact ⟨_, rfl⟩
    obtain ⟨x', ov⟩ := iG a x ha
    obtain ⟨y', hy'⟩ := iG b y hb
    exact bF.ne a b x' y' iu ov hy'
end
section
attribute[local go_sem←]u3 u4 u5
attribute[local go_sem]gH bH ne_eq not_false_eq_true
theorem Hd(s:bR)(hs:gw s)(most:Nat)(He:most≤10000) {h:Int→Nat} (hW:(iB s.2.2).Ok h) {B:Nat} {G:fL→Int→Prop} (hG:(iB s.2.2).Place h B G)(hB:B≤1000000)(hGo: ∀k c,G k c→k.2.length≤2000)(M:List (fL×Int))(hn:(M.map (·.1)).Nodup)(hM:M.length≤most)(yb: ∀k c,aN (fO aE) M k=some c→G k c):HN env 93 [bx5 s most,.lmap 1000000000] [(1000000000,.mp aE (.int .i64) M)] (.bG .bool (.mp aE (.int .i64))) (fun r=>(iB s.2.2).aQ4 G M most r) (fun r=>.iv .bool r.1) (fun r=>[(1000000000,.mp aE (.int .i64) r.2)]):=by
 have hM8:=hs.qZ;have hR:=hs.right;have hlen:=hs.len;obtain⟨n,a,rs⟩:=s;dsimp only at hW hG hM8 hlen hR⊢;refine HN.aC (m:=2000) ae Ax rfl rfl rfl rfl (by kernel_rfl) ?_
 intro hx gD;simp only[Tryz.f93];simp only[go_sem];refine⟨⟨v6,v6⟩,?_⟩;refine ah.bz (X:=List Nat×List fL) (fun(z:List Nat×List fL)=>[(5,.aB 16),(16,.any),(6,.any)]) (fun(z:List Nat×List fL)=>[(18,.it [.lmap 1000000000] M.length z.1),(16,.arr aE z.2)]) (fun(z:List Nat×List fL)=>(∀i,i∈z.1→ ∀e,M[i]?=some e→e.1∈z.2)∧(∀t,t∈z.2→ ∃c,aN (fO aE) M t=some c)∧z.2.length+Bf M.length z.1≤M.length) (fun(z:List Nat×List fL)=>Bf M.length z.1) ([],[]) ?_
 intro b1 b2 aS bd;simp only[go_sem]at aS bd;subst aS;subst bd;refine⟨v8,?_,?_⟩
 (·exact⟨fun i hi=>absurd hi wn,fun t ht=>absurd ht wn,by rw[Ej];simp⟩);intro⟨seen,Q⟩⟨Z5,Fq,hq3⟩back;dsimp only at Z5 Fq hq3;refine av ae ⟨_,Ax,rfl⟩ 2000 _ _ (by kernel_rfl) ?_
 simp only[go_sem];refine⟨fun i hi e he=>⟨e,⟨i,by simp,he⟩,v6,?_⟩,fun gx=>?_⟩;(·have cu:=qS hi.1 hi.2;refine back _ (seen++ [i],Q++ [e.1]) v8 ⟨fun j hj f hf=>?_,fun t ht=>?_,?_⟩ cu;(·rcases ws hj with hj|hj;(·exact w9 _ (Z5 j hj f hf));·rw[wd hj,he]at hf;injection hf with hf;rw[←hf];exact w5 _ y8);(·rcases ws ht with ht|ht;(·exact Fq t ht);·rw[wd ht];exact⟨e.2,(gE OK hn).1 (x7 he)⟩);·dsimp only;rw[y9];simp only[x6,List.length_nil];omega)
 (have hI0:(iB rs).SI G M most Q 0 (Op.EH (most+1) (B+8000) M) (B+8000) M []:=by refine⟨hn,hM,yb,fun k c hk=>⟨c,Int.le_refl _,hk⟩,Fq,fun k hk=>(wn hk).elim,fun k c hk=>.inl ?_,by simp⟩;have eg:(k,c)∈M:=(gE OK hn).2 hk;obtain⟨i,hi⟩:=List.getElem?_of_mem eg;have XT:i∈seen:=gx i (z6 hi).1;exact Z5 i XT _ hi)
 have hQl:Q.length≤20000000000:=v6;refine ah.aO [16] ?_;simp only[go_sem];clear back Z5 Fq hq3 gx;refine ah.bz (X:=List (fL×Int)×List fL) (fun(z:List (fL×Int)×List fL)=>[(5,.iv (.sl aE) z.2),(7,.any),(9,.any),(11,.any),(12,.any),(13,.any),(26,.any),(23,.any)]) (fun(z:List (fL×Int)×List fL)=>[(1000000000,.mp aE (.int .i64) z.1)]) (fun(z:List (fL×Int)×List fL)=>(iB rs).SI G M most z.2 0 (Op.EH (most+1) (B+8000) z.1) (B+8000) z.1 []∧z.2.length≤20000000000) (fun(z:List (fL×Int)×List fL)=>2*Op.EH (most+1) (B+8000) z.1+(match z.2 with|[]=>0|_::_=>1)) (M,Q) ?_
 intro b1 b2 aS bd;simp only[go_sem]at aS bd;subst aS;subst bd;refine⟨v8,?_,?_⟩
 (·exact⟨hI0,hQl⟩);clear hI0 hQl;intro⟨N,todo⟩⟨hI,A3⟩back;dsimp only at hI A3;have bZ5:(most+1)*(B+8000+1)≤10001*1008001:=Nat.mul_le_mul v6 v6;have bY8:=hI.II hW hG (x8)
 refine av ae ⟨_,Ax,rfl⟩ 2000 _ _ (by kernel_rfl) ?_;simp only[go_sem];refine⟨fun g1=>?_,fun g1=>?_⟩;(·refine ah.bz (X:=Nat×List (fL×Int)×List fL) (fun(z:Nat×List (fL×Int)×List fL)=>[(32,.iv (.int .i64) (z.1:Int)),(7,.aB 700),(9,.any),(11,.any),(12,.any),(13,.any)]) (fun(z:Nat×List (fL×Int)×List fL)=>[(1000000000,.mp aE (.int .i64) z.2.1),(700,.arr aE z.2.2)]) (fun(z:Nat×List (fL×Int)×List fL)=>z.1≤todo.length∧(iB rs).SI G M most todo z.1 (Op.EH (most+1) (B+8000) N) (B+8000) z.2.1 z.2.2) (fun(z:Nat×List (fL×Int)×List fL)=>todo.length-z.1) (0,N,[]) ?_;intro b1 b2 aS bd;simp only[go_sem]at aS bd;subst aS;subst bd;refine⟨v8,?_,?_⟩;(·exact⟨x9,hI⟩);intro⟨j,N2,news⟩⟨hj,wc⟩bu;dsimp only at hj wc;refine av ae ⟨_,Ax,rfl⟩ 2000 _ _ (by kernel_rfl) ?_;simp only[go_sem];refine⟨fun g2=>?_,fun g2=>?_⟩;(·obtain⟨k,hk⟩: ∃k,todo[j]?=some k:=au v6;refine⟨x5,k,hk,?_⟩;refine ah.bz (X:=Nat×List (fL×Int)×List fL) (fun(z:Nat×List (fL×Int)×List fL)=>[(40,.iv (.int .i64) (z.1:Int)),(7,.aB 700),(11,.any),(12,.any),(13,.any)]) (fun(z:Nat×List (fL×Int)×List fL)=>[(1000000000,.mp aE (.int .i64) z.2.1),(700,.arr aE z.2.2)]) (fun(z:Nat×List (fL×Int)×List fL)=>z.1≤rs.length∧(iB rs).SI G M most todo j (Op.EH (most+1) (B+8000) N) (B+8000) z.2.1 z.2.2∧(iB rs).iO z.2.1 k (rs.take z.1)) (fun(z:Nat×List (fL×Int)×List fL)=>rs.length-z.1) (0,N2,news) ?_;intro b1 b2 aS bd;simp only[go_sem]at aS bd;subst aS;subst bd;refine⟨v8,?_,?_⟩;(·exact⟨x9,wc,fun r hr=>(wn hr).elim⟩);clear wc;intro⟨i,N3,Hf⟩⟨hi,EK,gI⟩nX;dsimp only at hi EK gI;refine av ae ⟨_,Ax,rfl⟩ 2000 _ _ (by kernel_rfl) ?_;simp only[go_sem];refine⟨fun g3=>?_,fun g3=>?_⟩;(·obtain⟨r,hr⟩: ∃r,rs[i]?=some r:=au v6;have eg:=x7 hr;have Oh:=bk (hR r eg);refine⟨x5,r,hr,fun g4=>?_,fun g4=>?_⟩;(·have vN:bP r=true:=decide_eq_true g4;refine⟨_,QV k,fun _=>⟨fun g5=>?_,fun g5=>?_⟩⟩;(·exact⟨ak v6 v6,nX _ (i+1,N3,Hf) v8 ⟨v7,EK,Ek gI hr fun _ hm=>absurd hm g5⟩ v7⟩);·have hkm:=x7 hk;obtain⟨c,hc⟩:=EK.td k hkm;have Bn:=hGo k c (EK.iL k c hc);have cw:=QW k r Bn v6;obtain⟨k',ok,he⟩: ∃k' ok,pJ k r=(k',ok):=⟨_,_,rfl⟩;rw[he]at cw;refine⟨_,cw,fun _=>?_⟩;cases ok;(·simp only[go_sem];have hl3:=EK.len;exact⟨fun g6=>absurd g6 v6,fun _=>⟨ak v6 v6,nX _ (i+1,N3,Hf) v8 ⟨v7,EK,Ek gI hr fun _ _ k2=>by show pJ k r≠_;rw[he];exact fun e=>by injection e with _ e;cases e⟩ v7⟩⟩);·simp only[go_sem];have jN:aN (fO aE) N3 (k.1,k.2)=some c:=hc;have hcr:=(hG.oc k c (EK.iL k c hc));have Fp:=hW.top ((iB rs).mode k);rw[jN];have bF:=EK.rel hW hG (x8) hk hc eg vN (show r.1=(iB rs).mode k from g5) (show(iB rs).step k r=(k',true)from he) gI;have hl3:=EK.len;have hlr:=hW.ya (M:=N3) (k:=k') (c:=c+r.2.2.2.2);refine⟨ak (by simp only[Option.getD_some];omega) (by simp only[Option.getD_some];omega),_,_,Em rs N3 v6 k' (c+r.2.2.2.2),rfl,fun _ _=>?_⟩;obtain⟨HD,pQ,hr3⟩:=bF;(have bO6:(iB rs).iO ((iB rs).gi N3 k' (c+r.2.2.2.2)) k (rs.take (i+1)):=by rw[List.take_add_one,hr];exact pQ);generalize(iB rs).gi N3 k' (c+r.2.2.2.2)=N4 at*;cases hb:(iB rs).ko N3 k' (c+r.2.2.2.2);(·rw[hb]at HD;simp only[go_sem];refine⟨fun g6=>⟨_,hr3 v6,rfl,rfl⟩,fun g6=>⟨ak v6 v6,nX _ (i+1,N4,Hf) v8 ⟨v7,HD v6,bO6⟩ v7⟩⟩);·rw[hb]at HD;simp only[go_sem];refine⟨by have:=EK.low;omega,fun g6=>⟨_,hr3 v6,rfl,rfl⟩,fun g6=>⟨ak v6 v6,nX _ (i+1,N4,Hf++ [k']) v8 ⟨v7,HD v6,bO6⟩ v7⟩⟩);·exact⟨ak v6 v6,nX _ (i+1,N3,Hf) v8 ⟨v7,EK,Ek gI hr fun hs=>absurd (of_decide_eq_true hs) g4⟩ v7⟩);·have e:i=rs.length:=v6;subst e;rw[List.take_length]at gI;exact⟨ak v6 v6,bu _ (j+1,N3,Hf) v8 ⟨v7,EK.next hk gI⟩ v7⟩);·refine ah.aO [700] ?_;simp only[go_sem];have e:todo.length≤j:=v6;have hT:=wc.MV e;have VS:=wc.low;refine back _ (N2,news) v8 ⟨hT,v7⟩ ?_;dsimp only;cases news with|nil=>(cases todo with|nil=>simp at g1|cons x l=>simp only[List.length_nil]at VS⊢;omega)|cons y m=>cases todo with|nil=>simp at g1|cons x l=>simp only[x6]at VS⊢;omega)
 ·(have e:todo=[]:=by cases todo with|nil=>rfl|cons x l=>simp at g1);subst e;exact⟨_,hI.done,by have:=hI.len;simp;omega,rfl⟩
theorem Et(s:bR)(most:Nat)(He:most≤10000):HN env 93 [bx5 s most,.dV] [] .bool (fun r=>r=true) (fun r=>.iv .bool r) (fun _=>[]):=by
 obtain⟨n,a,rs⟩:=s;refine HN.aC (m:=2000) ae Ax rfl rfl rfl rfl (by kernel_rfl) ?_;intro hx gD;simp only[Tryz.f93];simp only[go_sem]
 refine ah.bz (X:=Nat) (fun(z:Nat)=>[(5,.aB 16),(16,.any),(6,.any)]) (fun(z:Nat)=>[(18,.it [.iv (.mp aE (.int .i64)) ([]:List (fL×Int))] 0 []),(16,.arr aE [])]) (fun(z:Nat)=>True) (fun(z:Nat)=>z) 0 ?_
 intro b1 b2 aS bd;simp only[go_sem]at aS bd;subst aS;subst bd;refine⟨v8,?_,?_⟩
 (·trivial);intro z _ back;refine av ae ⟨_,Ax,rfl⟩ 2000 _ _ (by kernel_rfl) ?_;simp only[go_sem];refine⟨fun x IV=>absurd IV.1 (Nat.not_lt_zero _),fun _=>?_⟩
 refine ah.aO [16] ?_;simp only[go_sem];clear back;refine ah.bz (X:=Nat) (fun(z:Nat)=>[(5,.iv (.sl aE) ([]:List fL)),(7,.any),(9,.any),(11,.any),(12,.any),(13,.any),(26,.any),(23,.any)]) (fun(z:Nat)=>[]) (fun(z:Nat)=>True) (fun(z:Nat)=>z) 0 ?_
 intro b1 b2 aS bd;simp only[go_sem]at aS bd;subst aS;subst bd;refine⟨v8,?_,?_⟩
 (·trivial);intro z _ back;refine av ae ⟨_,Ax,rfl⟩ 2000 _ _ (by kernel_rfl) ?_;simp only[go_sem];exact⟨true,rfl,decide_eq_true (x5)⟩
end
end Go.Proofs.YtimognngcagphaaGreat
