/- What leaving's groups hold. Nothing here is trusted; no condition. -/
import Derived.Test.YtefpgfdemmllpaaC2
import Derived.Shelf.Strings.Builder1
import Derived.Shelf.Strings.BuilderF
import Derived.Shelf.Strings.BuilderK
import Derived.Shelf.Strings.Prefix
import Derived.Shelf.Strings.BuilderCap
import Derived.Test.YtefpgfdemmllpaaProg
import Derived.WalkKit
import Derived.RegionTactic
import Derived.BigRegion
import Derived.Lib.Walk
import Derived.Lib.Builder
import Derived.Lib.UnsafeStr
set_option linter.unusedSimpArgs false
set_option linter.unusedVariables false
open Nat renaming reduceBEq→zA,reduceAdd→zB,reduceSub→zC,reduceMul→zD,reduceLeDiff→zE
open Int renaming reduceLT→zF,reduceLE→zG,reduceToNat→zH,reduceNeg→zI
namespace Go.Proofs.Ytefpgfdemmllpaa
open Go.Shelf
def rf:Go.Shelf.Ren:=⟨fun|169=>48|n=>n,fun|70=>116|9=>9|0=>0|72=>118|37=>25|127=>156|3=>3|5=>5|n=>n,fun|n=>n⟩
theorem ni : Go.Proofs.Lays.n169 Try.prog rf := {
  mixed := by kernel_rfl
  f169 := Try.func48.trans (congrArg some (by kernel_rfl))
  t0 := Try.underlying0
  a0 := Try.isAgg0
  z0 := Try.sizeOf0
  v0 := Try.zeroValue0
  t3 := Try.underlying3
  a3 := Try.isAgg3
  z3 := Try.sizeOf3
  v3 := Try.zeroValue3
  t9 := Try.underlying9
  a9 := Try.isAgg9
  z9 := Try.sizeOf9
  v9 := Try.zeroValue9
  t37 := Try.underlying25
  a37 := Try.isAgg25
  z37 := Try.sizeOf25
  v37 := Try.zeroValue25
  t70 := Try.underlying116
  a70 := Try.isAgg116
  z70 := Try.sizeOf116
  v70 := Try.zeroValue116
  t72 := Try.underlying118
  a72 := Try.isAgg118
  z72 := Try.sizeOf118
  v72 := Try.zeroValue118
  t127 := Try.underlying156
  a127 := Try.isAgg156
  z127 := Try.sizeOf156
  v127 := Try.zeroValue156 }
theorem dt : Builder.Extra Try.prog rf := {
  sizeBuilder := by kernel_rfl
  liesBuilder := by kernel_rfl
  t5 := Try.underlying5
  a5 := Try.isAgg5
  z5 := Try.sizeOf5
  v5 := Try.zeroValue5
  infoByte := by kernel_rfl
  cellsByte := by kernel_rfl
  sizeByte := by kernel_rfl
  neB5 := by decide }
open Go.RowKit in theorem Ef(B b:Nat)(l:List UInt8)(w:World)(h:Lib.IsBuilder 118 5 B b (Lib.byteCells l) w)(hBw:B≤w.heap.size):Calls Try.prog 48 #[.pointer (some ⟨b,0,none⟩)] w fun e w'=>e= .returned (.string ⟨l.toArray⟩)∧Below B w w':=Any.Builder_String_any ni dt B b l w h hBw
def rh:Go.Shelf.Ren:=⟨fun|240=>72|276=>87|n=>n,fun|70=>116|72=>118|37=>25|164=>174|n=>n,fun|n=>n⟩
theorem C3 : Go.Proofs.Lays.n240 Try.prog rh := {
  mixed := by kernel_rfl
  f240 := Try.func72.trans (congrArg some (by kernel_rfl))
  f276 := Try.func87.trans (congrArg some (by kernel_rfl))
  t0 := Try.underlying0
  a0 := Try.isAgg0
  z0 := Try.sizeOf0
  v0 := Try.zeroValue0
  t4 := Try.underlying4
  a4 := Try.isAgg4
  z4 := Try.sizeOf4
  v4 := Try.zeroValue4
  t9 := Try.underlying9
  a9 := Try.isAgg9
  z9 := Try.sizeOf9
  v9 := Try.zeroValue9
  t20 := Try.underlying20
  a20 := Try.isAgg20
  z20 := Try.sizeOf20
  v20 := Try.zeroValue20
  t70 := Try.underlying116
  a70 := Try.isAgg116
  z70 := Try.sizeOf116
  v70 := Try.zeroValue116
  t72 := Try.underlying118
  a72 := Try.isAgg118
  z72 := Try.sizeOf118
  v72 := Try.zeroValue118
  t164 := Try.underlying174
  a164 := Try.isAgg174
  z164 := Try.sizeOf174
  v164 := Try.zeroValue174 }
theorem lb : Builder.X72 Try.prog rh := {
  sizeBuilder := by kernel_rfl
  liesBuilder := by kernel_rfl }
end Go.Proofs.Ytefpgfdemmllpaa
namespace Go.Proofs.Ytefpgfdemmllpaa
attribute[local go_sem←]Bool.decide_and Bool.decide_or decide_not
open Go.RowKit Go.Shelf
set_option maxHeartbeats 4000000
set_option maxRecDepth 100000
theorem uG {c:Ctx} {id:Nat} {p q:PV} {te:Option Nat} (h:jB c id (.box [p,q] te)): ∃g v u e,c.ν id= .pointer (some ⟨g,0,none⟩)∧c.M.O g∧ ¬c.M.S g∧c.w.heap[g]?=some (.cells #[v,u] e (0,0))∧ae c p v∧ae c q u∧v.oneCell'=true∧u.oneCell'=true∧(∀t,te=some t→e=t):=by
 obtain⟨he,g,vs,e,h1,h2,h3,h4,h5,h6⟩:=h;simp only[ah]at h6;obtain⟨v,r,e1,hv,u,r2,rfl,hu,rfl⟩:=h6;(have hvs:vs= #[v,u]:=by rw[←Array.toList_inj];exact e1);subst hvs
 refine⟨g,v,u,e,h1,h2,h3,h4,hv,hu,h5 v (by simp),h5 u (by simp),fun t ht=>?_⟩;obtain⟨_,cs,fz,h7⟩:=he t ht g (by simp only[h1,aq]);rw[h4]at h7;injection h7 with h7
 injection h7
theorem l5 {α:Type} {i:Nat} {b:α} {r:List (Nat×α)} :look i ((i,b)::r)=some b:=by simp[look]
theorem AW {α:Type} {a b:α} :look 1000000001 [(1000000000,a),(1000000001,b)]=some b:=by(have h:Nat.beq 1000000001 1000000000=false:=by decide);simp only[look,h,cond_false];simp
theorem SX(bs:List Int)(te:Option Nat):HC env 72 [.ref 1000000000 0] [(1000000000,.box [.ref 1000000000 0,.aE 1000000001] (some 118)),(1000000001,.arr (.int .u8) bs te)] (.bk []) [(1000000000,.box [.ref 1000000000 0,.aE 1000000001] (some 118)),(1000000001,.arr (.int .u8) bs te)]:=by
 intro w S ν vs a1 a2 a3 a4 a5 a6;simp only[ah]at a6;obtain⟨v,r,rfl,hv,rfl⟩:=a6;obtain⟨g,v0,u0,e,h1,h2,h3,h4,hp,hq,_⟩:=uG (a5.cc 1000000000 _ l5);dsimp only at h1 h2 h3 h4
 simp only[ae]at hv hp;obtain⟨_,g',e1,rfl⟩:=hv;obtain⟨_,g2,e2,rfl⟩:=hp;rw[h1]at e1 e2;injection e1 with e1;injection e1 with e1;injection e1 with e1;subst e1;injection e2 with e2
 injection e2 with e2;injection e2 with e2;subst e2;refine(Any.Builder_copyCheck_used C3 lb g w (by simp[World.cell?,h4])).mono ?_;rintro e w'⟨rfl,rfl⟩;refine⟨_,rfl,Kept.refl _ _,ν,S,fun _ h=>h,fun _ h=>.inl h,fun _ _ _=>rfl,a5,?_⟩
 simp only[ae,ah];exact⟨[],rfl,rfl⟩
theorem rj {w:World} {g:Nat} {v u x:Value} {e:TypeId} (h:w.heap[g]?=some (.cells #[v,u] e (0,0))):(w.setCell ⟨g,0,none⟩ x).heap[g]?=some (.cells #[x,u] e (0,0)):=by
 simp[World.setCell,Array.getElem?_modify,h]
theorem yh(w:World)(g o:Nat)(x:Value):dD w (w.setCell ⟨g,o,none⟩ x) (some g):=⟨rfl,rfl,rfl,by simp[World.setCell],fun k _ hk=>Below.heap_setCell _ _ _ _ (fun e=>hk (by simp[e])),fun _=>Nat.le_refl _⟩
theorem SY:HC env 72 [.ref 1000000000 0] [(1000000000,.box [.bT,.bF] (some 118))] (.bk []) [(1000000000,.box [.ref 1000000000 0,.bF] (some 118))]:=by
 intro w S ν vs a1 a2 a3 a4 a5 a6;simp only[ah]at a6;obtain⟨v,r,rfl,hv,rfl⟩:=a6;obtain⟨g,v0,u0,e,h1,h2,h3,h4,hp,hq,_,ho,ht⟩:=uG (a5.cc 1000000000 _ l5);dsimp only at h1 h2 h3 h4
 obtain rfl:=ht 118 rfl;simp only[ae]at hv hp hq;obtain⟨_,g',e1,rfl⟩:=hv;rw[h1]at e1;injection e1 with e1;injection e1 with e1;injection e1 with e1;subst e1;subst hp
 subst hq;refine(Any.Builder_copyCheck_fresh C3 lb g w (by simp[World.cell?,h4]) (by simp[World.shape?,h4];rfl) (by simp[World.frozen?,h4])).mono ?_;rintro e w'⟨rfl,rfl⟩
 have hX:fb ν [(1000000000,aO.box [.bT,.bF] (some 118))] g:=⟨1000000000,_,l5,by simp only[h1,aq]⟩;have hk:Kept (fb ν [(1000000000,aO.box [.bT,.bF] (some 118))]) w (w.setCell ⟨g,0,none⟩ (.pointer (some ⟨g,0,none⟩))):=(Kept.refl _ _).grown (yh w g 0 _) (fun k hk=>.inr (by injection hk with hk;rw[←hk];exact hX))
 refine⟨_,rfl,hk,ν,S,fun _ h=>h,fun _ h=>.inl h,fun _ _ _=>rfl,⟨fun b hb=>Nat.lt_of_lt_of_le (a5.lt b hb) hk.size,fun b hb=>a5.size b (Nat.le_trans hk.size hb),fun id b hb=>?_,fun i j b c hij hi hj=>?_⟩,?_⟩
 (·simp only[look]at hb;cases hn:Nat.beq id 1000000000 with|false=>simp[hn]at hb|true=>have:=Nat.eq_of_beq_eq_true hn;subst this;simp only[hn,cond_true,Option.some.injEq]at hb;subst hb;refine⟨fun t ht g' hg'=>?_,g,#[.pointer (some ⟨g,0,none⟩),.slice none 0 0],118,h1,h2,h3,rj h4,?_,?_⟩;(·injection ht with ht;subst ht;simp only[h1,aq,Option.some.injEq]at hg';subst hg';exact⟨by simp only[h1,J4],_,_,rj h4⟩);(·intro u hu;simp at hu;rcases hu with rfl|rfl<;>rfl);·simp only[ah,ae];exact⟨_,_,rfl,⟨⟨_,l5⟩,g,h1,rfl⟩,_,_,rfl,rfl,rfl⟩)
 (·simp only[look]at hi hj;cases hn:Nat.beq i 1000000000 with|false=>simp[hn]at hi|true=>cases hn2:Nat.beq j 1000000000 with|false=>simp[hn2]at hj|true=>exact absurd ((Nat.eq_of_beq_eq_true hn).trans (Nat.eq_of_beq_eq_true hn2).symm) hij)
 ·simp only[ae,ah];exact⟨[],rfl,rfl⟩
def gN(s:ax):List Int:=s.map fun c:UInt8=>(c.toNat:Int)
def Ol(l:List Int):ax:=l.map fun n:Int=>UInt8.ofNat n.toNat
theorem l6(s:ax):Ol (gN s)=s:=by unfold Ol gN;rw[List.map_map];(conv=>rhs;rw[←List.map_id s]);apply List.map_congr_left;intro c _;simp
theorem rk(s t:ax):gN (s++t)=gN s++gN t:=List.map_append ..
theorem C4(s:ax)(hs:s.length≤1000000000):HC env 47 [.ref 1000000000 0,.iv .str s] [(1000000000,.box [.bT,.bF] (some 118))] (.bk [.iv (.int .i64) (s.length:Int),.any]) [(1000000000,.box [.ref 1000000000 0,.aE 14] (some 118)),(14,.arr (.int .u8) (gN s) (some 5))]:=by
 refine HC.aJ (m:=2000) ag Us rfl rfl rfl rfl (by kernel_rfl) ?_;intro hx hbl;simp only[Try.f47];simp only[go_sem,zA,↓reduceIte,↓reduceDIte,zB,zC,zD,zE,zF,zG,zH,zI]
 refine⟨_,_,SY,rfl,?_⟩;simp only[go_sem,zA,↓reduceIte,↓reduceDIte,zB,zC,zD,zE,zF,zG,zH,zI];intro _;exact⟨by rw[List.length_map];omega,rfl⟩
theorem wN(bs:List Int)(s:ax)(hs:bs.length+s.length≤1000000000):HC env 47 [.ref 1000000000 0,.iv .str s] [(1000000000,.box [.ref 1000000000 0,.aE 1000000001] (some 118)),(1000000001,.arr (.int .u8) bs (some 5))] (.bk [.iv (.int .i64) (s.length:Int),.any]) [(1000000000,.box [.ref 1000000000 0,.aE 14] (some 118)),(14,.arr (.int .u8) (bs++gN s) (some 5))]:=by
 refine HC.aJ (m:=2000) ag Us rfl rfl rfl rfl (by kernel_rfl) ?_;intro hx hbl;simp only[Try.f47];simp(config:= {maxSteps:=4000000})only[go_sem,zA,↓reduceIte,↓reduceDIte,zB,zC,zD,zE,zF,zG,zH,zI]
 refine⟨_,_,SX _ _,rfl,?_⟩;simp(config:= {maxSteps:=4000000})only[go_sem,zA,↓reduceIte,↓reduceDIte,zB,zC,zD,zE,zF,zG,zH,zI];intro _;exact⟨by rw[List.length_map];omega,rfl⟩
theorem MR(b g cap:Nat)(p:Value)(cur:Array Value)(l:ax)(w:World)(h0:l≠ [])(hbk:w.heap[b]?=some (.cells #[p,.slice (some ⟨g,0,none⟩) l.length cap] 118 (0,0)))(hg:w.heap[g]?=some (.cells cur 5 (0,0)))(hlc:l.length≤cap)(hcs:l.length≤cur.size)(h63:l.length≤9223372036854775807)(hcell: ∀j x,l[j]?=some x→w.cell? ⟨g,j,none⟩=some (.int .u8 x.toNat)):Calls Try.prog 48 #[.pointer (some ⟨b,0,none⟩)] w fun e w'=>e= .returned (.string ⟨l.toArray⟩)∧w'=w.drew.freeze ⟨g,0,none⟩ l.length:=by
 (have hl0:l.length≠0:=by simpa using h0);(have c1:w.drew.cell? ⟨b,1,none⟩=some (.slice (some ⟨g,0,none⟩) l.length cap):=by have:w.drew.heap[b]?=some (.cells #[p,.slice (some ⟨g,0,none⟩) l.length cap] 118 (0,0)):=hbk;rw[Lib.cell_of_heap this];rfl)
 have hSD:(Builtin.unsafeSliceData_ #[25] 156 #[.slice (some ⟨g,0,none⟩) l.length cap]).run Try.prog w.drew= .ok (.pointer (some ⟨g,0,none⟩)) w.drew:=Lib.run_unsafeSliceData_row _ _ _ _ _ _ (by omega)
 (have hUS:(Builtin.unsafeString_ #[156,3] 9 #[.pointer (some ⟨g,0,none⟩),.int .i64 l.length]).run Try.prog w.drew= .ok (.string ⟨l.toArray⟩) (w.drew.freeze ⟨g,0,none⟩ l.length):=by refine Lib.run_unsafeString_row w.drew 156 3 9 5 (by kernel_rfl) (by kernel_rfl) g cur.size (by have hg':w.drew.heap[g]?=some (.cells cur 5 (0,0)):=hg;simp[World.shape?,hg']) l h0 hcs h63 ?_;intro j x hx;have:=hcell j x hx;rw[dJ,Nat.zero_add];exact this)
 go_enter Try.func48,Try.ntmps48;go_wp2;go_region;all_goals(go_wp2;go_ret;exact⟨rfl,rfl⟩)
theorem rl(w:World)(p:Addr)(n:Nat):dD w (w.drew.freeze p n) (some p.block):=by
 unfold World.freeze;split;(·exact⟨rfl,rfl,rfl,Nat.le_refl _,fun _ _ _=>rfl,fun _=>Nat.le_succ _⟩);·refine⟨rfl,rfl,rfl,Nat.le_of_eq (by simp only[Array.size_modify];rfl),fun k _ hk=>?_,fun _=>Nat.le_succ _⟩;simp only[Array.getElem?_modify];rw[if_neg (fun e=>hk (by rw[e]))];rfl
theorem ld {w w':World} {S:Nat→Prop} {ν:Nat→Value} {bl:List (Nat×aO)} {s:ax} {v:Value} {b:Nat} {x y:Value} (hW:pX ⟨[],bl⟩ ν w ⟨S,aF w ⟨S,fb ν bl,ν,[]⟩⟩)(hk:Kept (fb ν bl) w w')(h1:ν 1000000000= .pointer (some ⟨b,0,none⟩))(h2:aF w ⟨S,fb ν bl,ν,[]⟩ b)(h3: ¬S b)(h4:w'.heap[b]?=some (.cells #[x,y] 118 (0,0)))(hx:x.oneCell'=true)(hy:y.oneCell'=true)(hv:v= .string ⟨s.toArray⟩)(hl:s.length≤9223372036854775807):ml w ⟨S,fb ν bl,ν,[]⟩ (.iv .str s) [(1000000000,.box [.any,.any] (some 118))] v w':=by
 refine⟨hk,ν,S,fun _ h=>h,fun _ h=>.inl h,fun _ _ _=>rfl,⟨fun b hb=>Nat.lt_of_lt_of_le (hW.lt b hb) hk.size,fun b hb=>hW.size b (Nat.le_trans hk.size hb),fun id b hb=>?_,fun i j b c hij hi hj=>?_⟩,?_⟩
 (·simp only[look]at hb;cases hn:Nat.beq id 1000000000 with|false=>simp[hn]at hb|true=>have:=Nat.eq_of_beq_eq_true hn;subst this;simp only[hn,cond_true,Option.some.injEq]at hb;subst hb;refine⟨fun t ht g' hg'=>?_,_,#[x,y],118,h1,h2,h3,h4,?_,?_⟩;(·injection ht with ht;subst ht;simp only[h1,aq,Option.some.injEq]at hg';subst hg';exact⟨by simp only[h1,J4],_,_,h4⟩);(·intro u hu;simp at hu;rcases hu with rfl|rfl<;>assumption);·simp only[ah,ae];exact⟨_,_,rfl,trivial,_,_,rfl,trivial,rfl⟩)
 (·simp only[look]at hi hj;cases hn:Nat.beq i 1000000000 with|false=>simp[hn]at hi|true=>cases hn2:Nat.beq j 1000000000 with|false=>simp[hn2]at hj|true=>exact absurd ((Nat.eq_of_beq_eq_true hn).trans (Nat.eq_of_beq_eq_true hn2).symm) hij)
 ·simp only[ae];subst hv;exact⟨rfl,rfl,hl⟩
theorem l7 {X:Nat→Prop} {w w':World} (h:Below w.heap.size w w'):Kept X w w':=⟨h.os,h.tape,h.output,h.size,fun k hk _=>h.block k hk,fun hd=>hd.elim⟩
theorem Zp {bs:List Int} {j:Nat} {x:UInt8} (h:(Ol bs)[j]?=some x)(hb: ∀y,y∈bs→0≤y∧y≤255): ∃y,bs[j]?=some y∧y=(x.toNat:Int):=by
 unfold Ol at h;rw[List.getElem?_map]at h;cases hy:bs[j]? with|none=>rw[hy]at h;cases h|some y=>rw[hy]at h;injection h with h;have:=hb y (List.mem_of_getElem? hy);refine⟨y,rfl,?_⟩;rw[←h];simp only[UInt8.toNat_ofNat'];omega
theorem C5(bs:List Int)(s:ax)(hs:bs.length+s.length≤1000000000):HC env 47 [.ref 1000000000 0,.iv .str s] [(1000000000,.box [.ref 1000000000 0,.aE 1000000001] (some 118)),(1000000001,.arr (.int .u8) bs (some 5))] (.bk [.iv (.int .i64) (s.length:Int),.any]) [(1000000000,.box [.ref 1000000000 0,.aE 15] (some 118)),(15,.arr (.int .u8) (bs++gN s) (some 5))]:=(wN bs s hs).fE [(14,15),(15,14)] rfl
theorem AX(bs:List Int):HC env 48 [.ref 1000000000 0] [(1000000000,.box [.ref 1000000000 0,.aE 1000000001] (some 118)),(1000000001,.arr (.int .u8) bs (some 5))] (.iv .str (Ol bs)) [(1000000000,.box [.any,.any] (some 118))]:=by
 intro w S ν vs a1 a2 a3 a4 a5 a6;simp only[ah]at a6;obtain⟨v,r,rfl,hv,rfl⟩:=a6;obtain⟨b,v0,u0,e,h1,h2,h3,h4,hp,hq,ho1,ho2,ht⟩:=uG (a5.cc 1000000000 _ l5);dsimp only at h1 h2 h3 h4
 have hbl0:b<w.heap.size:=(Array.getElem?_eq_some_iff.mp h4).1;obtain rfl:=ht 118 rfl;simp only[ae]at hv hq;obtain⟨_,g',e1,rfl⟩:=hv;rw[h1]at e1;injection e1 with e1
 injection e1 with e1;injection e1 with e1;subst e1;obtain⟨_,hu,an,am,ac,_⟩:=hq;obtain⟨hty,hoT,hown⟩:=a5.cc 1000000001 (.arr (.int .u8) bs (some 5)) AW;dsimp only at hu hown hty
 rw[←hu]at hown hty;have hbl:=hown;obtain⟨u,hu',hlen,hcase⟩:=hown;injection hu' with hu';subst hu';have hrange: ∀y,y∈bs→0≤y∧y≤255:=fun y hy=>iC ((fc _ _ _ _ _ hbl).2 y hy)
 have hX: ∀g,aq u0=some g→fb ν [(1000000000,aO.box [.ref 1000000000 0,.aE 1000000001] (some 118)),(1000000001,aO.arr (.int .u8) bs (some 5))] g:=fun g hg=>⟨1000000001,_,AW,by rw[←hu];exact hg⟩
 have hnil:(Ol [])=[]:=rfl;rcases hcase with⟨rfl,rfl⟩|⟨g,o,cap,cur,e,rfl,g1,g2,g3,g4,g5,g6,g7⟩;(·refine(Any.Builder_String_nil ni dt w.heap.size b v0 w h4).mono ?_;rintro e w'⟨rfl,hb⟩;exact⟨_,rfl,ld a5 (l7 hb) h1 h2 h3 ((hb.block b hbl0).trans h4) ho1 ho2 rfl (by simp[hnil])⟩)
 ·obtain⟨ho,cs,fz,hc5⟩:=hty 5 rfl g rfl;simp only[J4]at ho;subst ho;rw[g5]at hc5;injection hc5 with hc5;injection hc5 with _ hc5;subst hc5;cases bs with|nil=>by_cases hc0:cap=0;(·subst hc0;refine(Any.Builder_String_noroom ni dt w.heap.size b g v0 cur w (Nat.le_refl _) h4 g5).mono ?_;rintro e w'⟨rfl,hb⟩;exact⟨_,rfl,ld a5 (l7 hb) h1 h2 h3 ((hb.block b hbl0).trans h4) ho1 ho2 rfl (by simp[hnil])⟩);(·refine(Any.Builder_String_room ni dt w.heap.size b g cap v0 w hc0 h4).mono ?_;rintro e w'⟨rfl,hb⟩;exact⟨_,rfl,ld a5 (l7 hb) h1 h2 h3 ((hb.block b hbl0).trans h4) ho1 ho2 rfl (by simp[hnil])⟩)|cons y bs'=>have hl:(Ol (y::bs')).length=(y::bs').length:=List.length_map ..;rw[←hl]at h4 g1 hlen;have hc1:(Ty.int .u8).cells=1:=rfl;rw[hc1,Nat.mul_one]at g6;refine(MR b g cap v0 cur (Ol (y::bs')) w (by simp[Ol]) h4 g5 g1 (by omega) hlen fun j x hx=>?_).mono ?_;(·obtain⟨z,hz,hzx⟩:=Zp hx hrange;obtain⟨cs,c1,c2,c3,_⟩:=g7 j z hz;subst c3;have:=c2 0 _ rfl;rw[hzx]at this;simpa[Ty.cells]using this);·rintro e w'⟨rfl,rfl⟩;have hbg:b≠g:=fun e=>a5.ne 1000000000 1000000001 _ _ (by omega) l5 AW b (by simp only[h1,aq]) (by rw[←hu,e];rfl);refine⟨_,rfl,ld a5 ((Kept.refl _ _).grown (rl w ⟨g,0,none⟩ _) fun k hk=>.inr (by injection hk with hk;rw[←hk];exact hX g rfl)) h1 h2 h3 ?_ ho1 ho2 rfl hlen⟩;rw[hl]at h4;refine Eq.trans ?_ h4;exact(rl w ⟨g,0,none⟩ _).block b hbl0 (fun e=>hbg (by injection e with e))
theorem MS:HC env 48 [.ref 1000000000 0] [(1000000000,.box [.bT,.bF] (some 118))] (.iv .str ([]:ax)) [(1000000000,.box [.any,.any] (some 118))]:=by
 intro w S ν vs a1 a2 a3 a4 a5 a6;simp only[ah]at a6;obtain⟨v,r,rfl,hv,rfl⟩:=a6;obtain⟨b,v0,u0,e,h1,h2,h3,h4,hp,hq,ho1,ho2,ht⟩:=uG (a5.cc 1000000000 _ l5);dsimp only at h1 h2 h3 h4
 have hbl0:b<w.heap.size:=(Array.getElem?_eq_some_iff.mp h4).1;obtain rfl:=ht 118 rfl;simp only[ae]at hv hq;obtain⟨_,g',e1,rfl⟩:=hv;rw[h1]at e1;injection e1 with e1
 injection e1 with e1;injection e1 with e1;subst e1;subst hq;refine(Any.Builder_String_nil ni dt w.heap.size b v0 w h4).mono ?_;rintro e w'⟨rfl,hb⟩;exact⟨_,rfl,ld a5 (l7 hb) h1 h2 h3 ((hb.block b hbl0).trans h4) ho1 ho2 rfl (by simp)⟩
end Go.Proofs.Ytefpgfdemmllpaa
namespace Go.Proofs.Ytefpgfdemmllpaa
attribute[local go_sem←]Bool.decide_and Bool.decide_or decide_not
attribute[local go_sem]Int.reduceEq not_true_eq_false not_false_eq_true false_implies
set_option maxHeartbeats 4000000
set_option maxRecDepth 100000
abbrev SZ:=ax×ax×Int×Int×Bool
def eP(rs:List Rl):List Int→ax→ax→Int→Int→SZ|[],a,b,c,m=>(a,b,c,m,true)|i::l,a,b,c,m=>if 0≤i then(match rs[i.toNat]? with|some r=>if r.1=m then eP rs l (a++r.2.2.1) (b++r.2.2.2.1) (c+r.2.2.2.2) r.2.1 else([],[],0,0,false)|none=>([],[],0,0,false))else([],[],0,0,false)
def AY(s:bn)(l:List Int):SZ:=eP s.2.2 l [] [] 0 0
theorem nj {rs:List Rl} {i:Int} {l:List Int} {a b:ax} {c m:Int} (h:i<0):eP rs (i::l) a b c m=([],[],0,0,false):=by unfold eP;rw[if_neg (by omega)]
theorem nk {rs:List Rl} {i:Int} {l:List Int} {a b:ax} {c m:Int} (h:(rs.length:Int)≤i):eP rs (i::l) a b c m=([],[],0,0,false):=by
 unfold eP;rw[if_pos (by omega),List.getElem?_eq_none (by omega)]
theorem nm {rs:List Rl} {i:Int} {l:List Int} {a b:ax} {c m:Int} {r:Rl} (h0:0≤i)(hr:rs[i.toNat]?=some r)(h: ¬r.1=m):eP rs (i::l) a b c m=([],[],0,0,false):=by
 unfold eP;rw[if_pos h0,hr];dsimp only;rw[if_neg h]
theorem dj {rs:List Rl} {i:Int} {l:List Int} {a b:ax} {c m:Int} {r:Rl} (h0:0≤i)(hr:rs[i.toNat]?=some r)(h:r.1=m):eP rs (i::l) a b c m=eP rs l (a++r.2.2.1) (b++r.2.2.2.1) (c+r.2.2.2.2) r.2.1:=by
 (conv=>lhs;unfold eP);rw[if_pos h0,hr];dsimp only;rw[if_pos h]
def kH:Option Bool→ax→ax→List (Nat×aO)|none,_,_=>[(5,.box [.bT,.bF] (some 118)),(6,.box [.bT,.bF] (some 118))]|some false,a,b=>[(5,.box [.ref 5 0,.aE 4600014] (some 118)),(4600014,.arr (.int .u8) (gN a) (some 5)),(6,.box [.ref 6 0,.aE 4900014] (some 118)),(4900014,.arr (.int .u8) (gN b) (some 5))]|some true,a,b=>[(5,.box [.ref 5 0,.aE 4600015] (some 118)),(4600015,.arr (.int .u8) (gN a) (some 5)),(6,.box [.ref 6 0,.aE 4900015] (some 118)),(4900015,.arr (.int .u8) (gN b) (some 5))]
theorem ax5(s:bn)(l:List Int)(hs:dA s)(hl:l.length≤100000):PC env 21 [⟨al,s⟩,⟨.sl (.int .i64),l⟩] RunT (AY s l):=by
 obtain⟨n,ac,rs⟩:=s;have hlen:=hs.len;have hright:=hs.right;dsimp only at hlen hright;have hE:AY (n,ac,rs) l=eP rs l [] [] 0 0:=rfl;rw[hE];clear hE;refine PC.aJ (m:=2000) ag Um rfl rfl rfl rfl (by kernel_rfl) ?_
 intro hx;simp only[Try.f21];simp only[go_sem,zA,↓reduceIte,↓reduceDIte,zB,zC,zD,zE,zF,zG,zH,zI,kH];generalize hT:eP rs l [] [] 0 0=T;refine ao.bR (X:=Nat×ax×ax×Int×Int) (fun(z:Nat×ax×ax×Int×Int)=>[(6,.iv (.int .i64) (z.1:Int)),(7,.any)]) (fun(z:Nat×ax×ax×Int×Int)=>[(5,.box [.iv .str z.2.1,.iv .str z.2.2.1,.iv (.int .i64) z.2.2.2.1,.iv (.int .i64) z.2.2.2.2,.iv .bool true])]) (fun(z:Nat×ax×ax×Int×Int)=>z.1≤l.length∧z.2.1.length≤4*z.1∧z.2.2.1.length≤4*z.1∧0≤z.2.2.2.1∧z.2.2.2.1≤1000*(z.1:Int)∧eP rs (l.drop z.1) z.2.1 z.2.2.1 z.2.2.2.1 z.2.2.2.2=T) (fun(z:Nat×ax×ax×Int×Int)=>l.length-z.1) (0,[],[],0,0) ?_
 intro b1 b2 hb1 hb2;simp(config:= {maxSteps:=4000000})only[go_sem,zA,↓reduceIte,↓reduceDIte,zB,zC,zD,zE,zF,zG,zH,zI,kH]at hb1 hb2;subst hb1;subst hb2;refine⟨(by refine⟨?_,?_,rfl,rfl⟩<;>repeat' (first|exact trivial|exact Or.inl rfl|exact Or.inr rfl|apply bM|apply bN|apply bO|apply bP|exact⟨(by show(_:Nat)<1000000000;omega),rfl,rfl⟩|rfl|(refine And.intro (Or.inl ?_) ?_)|(refine And.intro ?_ ?_))),?_,?_⟩
 (·exact⟨Nat.zero_le _,Nat.le_refl _,Nat.le_refl _,Int.le_refl _,Int.le_refl _,hT⟩);clear hT;intro⟨i,a,b,c,m⟩⟨hi,ha,hb,hc0,hc,hT⟩back;dsimp only at hi ha hb hc0 hc hT
 refine aw ag ⟨_,Um,rfl⟩ 2000 _ _ (by kernel_rfl) ?_;simp only[go_sem,zA,↓reduceIte,↓reduceDIte,zB,zC,zD,zE,zF,zG,zH,zI,kH];refine⟨fun g1=>?_,fun g1=>?_⟩;(·obtain⟨j,hj⟩: ∃j,l[i]?=some j:=ak (by omega);rw[drop_cons hj]at hT;(have fail:eP rs (j::l.drop (i+1)) a b c m=([],[],0,0,false)→(([],[],0,0,false):SZ)=T:=fun h=>by rw[←hT,h]);refine⟨Int.natCast_nonneg _,j,hj,fun q1=>⟨Int.natCast_nonneg _,j,hj,fun q2=>?_,fun q2=>fail (nk (by omega))⟩,fun q1=>fail (nj (by omega))⟩;obtain⟨r,hr⟩: ∃r,rs[j.toNat]?=some r:=ak (by omega);have hrn:=aN (hright r (List.mem_of_getElem? hr));refine⟨Int.natCast_nonneg _,j,hj,by omega,r,hr,fun q3=>fail (nm (by omega) hr q3),fun q3=>?_⟩;rw[dj (by omega) hr q3]at hT;refine⟨Int.natCast_nonneg _,j,hj,by omega,r,hr,by omega,by omega,aC (by omega) (by omega),aC (by omega) (by omega),?_⟩;exact back _ (i+1,a++r.2.2.1,b++r.2.2.2.1,c+r.2.2.2.2,r.2.1) (by refine⟨?_,?_,rfl,rfl⟩<;>repeat' (first|exact trivial|exact Or.inl rfl|exact Or.inr rfl|apply bM|apply bN|apply bO|apply bP|exact⟨(by show(_:Nat)<1000000000;omega),rfl,rfl⟩|rfl|(refine And.intro (Or.inl ?_) ?_)|(refine And.intro ?_ ?_))) ⟨by dsimp only;omega,by dsimp only;rw[List.length_append];omega,by dsimp only;rw[List.length_append];omega,by dsimp only;omega,by dsimp only;omega,hT⟩ (by dsimp only;omega))
 ·rw[List.drop_of_length_le (by omega)]at hT;rw[←hT];rfl
theorem uH(a:ax):(gN a).length=a.length:=List.length_map ..
theorem aC3(s:bn)(l:List Int)(hs:dA s)(hl:l.length≤100000):PC env 28 [⟨al,s⟩,⟨.sl (.int .i64),l⟩] RunT (AY s l):=by
 obtain⟨n,ac,rs⟩:=s;have hlen:=hs.len;have hright:=hs.right;dsimp only at hlen hright;have hE:AY (n,ac,rs) l=eP rs l [] [] 0 0:=rfl;rw[hE];clear hE;refine PC.aJ (m:=2000) ag G3 rfl rfl rfl rfl (by kernel_rfl) ?_
 intro hx;simp only[Try.f28];simp only[go_sem,zA,↓reduceIte,↓reduceDIte,zB,zC,zD,zE,zF,zG,zH,zI,kH];generalize hT:eP rs l [] [] 0 0=T;refine ao.bR (X:=Option Bool×Nat×ax×ax×Int×Int) (fun(z:Option Bool×Nat×ax×ax×Int×Int)=>[(14,.iv (.int .i64) (z.2.1:Int)),(7,.iv (.int .i64) z.2.2.2.2.2),(8,.iv (.int .i64) z.2.2.2.2.1),(11,.any)]) (fun(z:Option Bool×Nat×ax×ax×Int×Int)=>kH z.1 z.2.2.1 z.2.2.2.1) (fun(z:Option Bool×Nat×ax×ax×Int×Int)=>z.2.1≤l.length∧z.2.2.1.length≤4*z.2.1∧z.2.2.2.1.length≤4*z.2.1∧0≤z.2.2.2.2.1∧z.2.2.2.2.1≤1000*(z.2.1:Int)∧(z.1=none→z.2.2.1=[]∧z.2.2.2.1=[])∧eP rs (l.drop z.2.1) z.2.2.1 z.2.2.2.1 z.2.2.2.2.1 z.2.2.2.2.2=T) (fun(z:Option Bool×Nat×ax×ax×Int×Int)=>l.length-z.2.1) (none,0,[],[],0,0) ?_
 intro b1 b2 hb1 hb2;simp(config:= {maxSteps:=4000000})only[go_sem,zA,↓reduceIte,↓reduceDIte,zB,zC,zD,zE,zF,zG,zH,zI,kH]at hb1 hb2;subst hb1;subst hb2;refine⟨(by refine⟨?_,?_,rfl,rfl⟩<;>repeat' (first|exact trivial|exact Or.inl rfl|exact Or.inr rfl|apply bM|apply bN|apply bO|apply bP|exact⟨(by show(_:Nat)<1000000000;omega),rfl,rfl⟩|rfl|(refine And.intro (Or.inl ?_) ?_)|(refine And.intro ?_ ?_))),?_,?_⟩
 (·exact⟨Nat.zero_le _,Nat.le_refl _,Nat.le_refl _,Int.le_refl _,Int.le_refl _,fun _=>⟨rfl,rfl⟩,hT⟩);clear hT;intro⟨used,i,a,b,c,m⟩⟨hi,ha,hb,hc0,hc,hu,hT⟩back;dsimp only at hi ha hb hc0 hc hu hT
 (have common: ∀j,l[i]?=some j→(eP rs (j::l.drop (i+1)) a b c m=([],[],0,0,false)→(([],[],0,0,false):SZ)=T):=fun j hj h=>by rw[drop_cons hj]at hT;rw[←hT,h]);rcases used with _|_|_
 (·obtain⟨rfl,rfl⟩:=hu rfl;refine aw ag ⟨_,G3,rfl⟩ 2000 _ _ (by kernel_rfl) ?_;simp only[go_sem,zA,↓reduceIte,↓reduceDIte,zB,zC,zD,zE,zF,zG,zH,zI,kH];refine⟨fun g1=>?_,fun g1=>?_⟩;(·obtain⟨j,hj⟩: ∃j,l[i]?=some j:=ak (by omega);have fail:=common j hj;rw[drop_cons hj]at hT;refine⟨Int.natCast_nonneg _,j,hj,fun q1=>⟨fun q2=>?_,fun q2=>fail (nk (by omega))⟩,fun q1=>fail (nj (by omega))⟩;obtain⟨r,hr⟩: ∃r,rs[j.toNat]?=some r:=ak (by omega);have hrn:=aN (hright r (List.mem_of_getElem? hr));refine⟨by omega,r,hr,fun q3=>fail (nm (by omega) hr q3),fun q3=>?_⟩;rw[dj (by omega) hr q3]at hT;refine⟨by omega,r,hr,_,_,C4 _ (by omega),rfl,?_⟩;simp(config:= {maxSteps:=4000000})only[go_sem,zA,↓reduceIte,↓reduceDIte,zB,zC,zD,zE,zF,zG,zH,zI,kH];intro _;refine⟨_,_,C4 _ (by omega),rfl,?_⟩;simp(config:= {maxSteps:=4000000})only[go_sem,zA,↓reduceIte,↓reduceDIte,zB,zC,zD,zE,zF,zG,zH,zI,kH];intro _;refine⟨aC (by omega) (by omega),aC (by omega) (by omega),?_⟩;exact back _ (some false,i+1,r.2.2.1,r.2.2.2.1,c+r.2.2.2.2,r.2.1) (by refine⟨?_,?_,rfl,rfl⟩<;>repeat' (first|exact trivial|exact Or.inl rfl|exact Or.inr rfl|apply bM|apply bN|apply bO|apply bP|exact⟨(by show(_:Nat)<1000000000;omega),rfl,rfl⟩|rfl|(refine And.intro (Or.inl ?_) ?_)|(refine And.intro ?_ ?_))) ⟨by dsimp only;omega,by dsimp only;omega,by dsimp only;omega,by dsimp only;omega,by dsimp only;omega,(fun h=>nomatch h),hT⟩ (by dsimp only;omega));·rw[List.drop_of_length_le (by omega)]at hT;refine⟨_,_,MS,rfl,?_⟩;simp(config:= {maxSteps:=4000000})only[go_sem,zA,↓reduceIte,↓reduceDIte,zB,zC,zD,zE,zF,zG,zH,zI,kH];intro _;refine⟨_,_,MS,rfl,?_⟩;simp(config:= {maxSteps:=4000000})only[go_sem,zA,↓reduceIte,↓reduceDIte,zB,zC,zD,zE,zF,zG,zH,zI,kH];intro _;rw[←hT];rfl)
 (·refine aw ag ⟨_,G3,rfl⟩ 2000 _ _ (by kernel_rfl) ?_;simp only[go_sem,zA,↓reduceIte,↓reduceDIte,zB,zC,zD,zE,zF,zG,zH,zI,kH];refine⟨fun g1=>?_,fun g1=>?_⟩;(·obtain⟨j,hj⟩: ∃j,l[i]?=some j:=ak (by omega);have fail:=common j hj;rw[drop_cons hj]at hT;refine⟨Int.natCast_nonneg _,j,hj,fun q1=>⟨fun q2=>?_,fun q2=>fail (nk (by omega))⟩,fun q1=>fail (nj (by omega))⟩;obtain⟨r,hr⟩: ∃r,rs[j.toNat]?=some r:=ak (by omega);have hrn:=aN (hright r (List.mem_of_getElem? hr));refine⟨by omega,r,hr,fun q3=>fail (nm (by omega) hr q3),fun q3=>?_⟩;rw[dj (by omega) hr q3]at hT;refine⟨by omega,r,hr,_,_,C5 (gN a) r.2.2.1 (by rw[uH];omega),rfl,?_⟩;simp(config:= {maxSteps:=4000000})only[go_sem,zA,↓reduceIte,↓reduceDIte,zB,zC,zD,zE,zF,zG,zH,zI,kH];intro _;refine⟨_,_,C5 (gN b) r.2.2.2.1 (by rw[uH];omega),rfl,?_⟩;simp(config:= {maxSteps:=4000000})only[go_sem,zA,↓reduceIte,↓reduceDIte,zB,zC,zD,zE,zF,zG,zH,zI,kH];intro _;refine⟨aC (by omega) (by omega),aC (by omega) (by omega),?_⟩;rw[←rk,←rk];exact back _ (some true,i+1,a++r.2.2.1,b++r.2.2.2.1,c+r.2.2.2.2,r.2.1) (by refine⟨?_,?_,rfl,rfl⟩<;>repeat' (first|exact trivial|exact Or.inl rfl|exact Or.inr rfl|apply bM|apply bN|apply bO|apply bP|exact⟨(by show(_:Nat)<1000000000;omega),rfl,rfl⟩|rfl|(refine And.intro (Or.inl ?_) ?_)|(refine And.intro ?_ ?_))) ⟨by dsimp only;omega,by dsimp only;rw[List.length_append];omega,by dsimp only;rw[List.length_append];omega,by dsimp only;omega,by dsimp only;omega,(fun h=>nomatch h),hT⟩ (by dsimp only;omega));·rw[List.drop_of_length_le (by omega)]at hT;refine⟨_,_,AX (gN a),rfl,?_⟩;rw[l6];simp(config:= {maxSteps:=4000000})only[go_sem,zA,↓reduceIte,↓reduceDIte,zB,zC,zD,zE,zF,zG,zH,zI,kH];intro _ _;refine⟨_,_,AX (gN b),rfl,?_⟩;rw[l6];simp(config:= {maxSteps:=4000000})only[go_sem,zA,↓reduceIte,↓reduceDIte,zB,zC,zD,zE,zF,zG,zH,zI,kH];intro _ _;rw[←hT];rfl)
 ·refine aw ag ⟨_,G3,rfl⟩ 2000 _ _ (by kernel_rfl) ?_;simp only[go_sem,zA,↓reduceIte,↓reduceDIte,zB,zC,zD,zE,zF,zG,zH,zI,kH];refine⟨fun g1=>?_,fun g1=>?_⟩;(·obtain⟨j,hj⟩: ∃j,l[i]?=some j:=ak (by omega);have fail:=common j hj;rw[drop_cons hj]at hT;refine⟨Int.natCast_nonneg _,j,hj,fun q1=>⟨fun q2=>?_,fun q2=>fail (nk (by omega))⟩,fun q1=>fail (nj (by omega))⟩;obtain⟨r,hr⟩: ∃r,rs[j.toNat]?=some r:=ak (by omega);have hrn:=aN (hright r (List.mem_of_getElem? hr));refine⟨by omega,r,hr,fun q3=>fail (nm (by omega) hr q3),fun q3=>?_⟩;rw[dj (by omega) hr q3]at hT;refine⟨by omega,r,hr,_,_,wN (gN a) r.2.2.1 (by rw[uH];omega),rfl,?_⟩;simp(config:= {maxSteps:=4000000})only[go_sem,zA,↓reduceIte,↓reduceDIte,zB,zC,zD,zE,zF,zG,zH,zI,kH];intro _;refine⟨_,_,wN (gN b) r.2.2.2.1 (by rw[uH];omega),rfl,?_⟩;simp(config:= {maxSteps:=4000000})only[go_sem,zA,↓reduceIte,↓reduceDIte,zB,zC,zD,zE,zF,zG,zH,zI,kH];intro _;refine⟨aC (by omega) (by omega),aC (by omega) (by omega),?_⟩;rw[←rk,←rk];exact back _ (some false,i+1,a++r.2.2.1,b++r.2.2.2.1,c+r.2.2.2.2,r.2.1) (by refine⟨?_,?_,rfl,rfl⟩<;>repeat' (first|exact trivial|exact Or.inl rfl|exact Or.inr rfl|apply bM|apply bN|apply bO|apply bP|exact⟨(by show(_:Nat)<1000000000;omega),rfl,rfl⟩|rfl|(refine And.intro (Or.inl ?_) ?_)|(refine And.intro ?_ ?_))) ⟨by dsimp only;omega,by dsimp only;rw[List.length_append];omega,by dsimp only;rw[List.length_append];omega,by dsimp only;omega,by dsimp only;omega,(fun h=>nomatch h),hT⟩ (by dsimp only;omega));·rw[List.drop_of_length_le (by omega)]at hT;refine⟨_,_,AX (gN a),rfl,?_⟩;rw[l6];simp(config:= {maxSteps:=4000000})only[go_sem,zA,↓reduceIte,↓reduceDIte,zB,zC,zD,zE,zF,zG,zH,zI,kH];intro _ _;refine⟨_,_,AX (gN b),rfl,?_⟩;rw[l6];simp(config:= {maxSteps:=4000000})only[go_sem,zA,↓reduceIte,↓reduceDIte,zB,zC,zD,zE,zF,zG,zH,zI,kH];intro _ _;rw[←hT];rfl
end Go.Proofs.Ytefpgfdemmllpaa
namespace Go.Proofs.Ytefpgfdemmllpaa
def dN(s:bn):Int→List Int→Prop|m,[]=>0≤m∧m<s.1∧gu s.2.1 m=true|m,i::l=> ∃r,0≤i∧s.2.2[i.toNat]?=some r∧r.1=m∧dN s r.2.1 l
def oC(s:bn)(i:Int):Int:=match s.2.2[i.toNat]? with|some r=>r.2.2.2.2|none=>0
def cR(s:bn):List Int→Int|[]=>0|i::l=>oC s i+cR s l
def dO:List Int→List Int→Bool|a::x,b::y=>decide (a<b)||(decide (a=b)&&dO x y)|_,_=>false
def ek(c1:Int)(l1:List Int)(c2:Int)(l2:List Int):Bool:=decide (c1<c2∨c1=c2∧(l1.length<l2.length∨l1.length=l2.length∧dO l1 l2=true))
theorem nn: ∀l,dO l l=false|[]=>rfl|a::l=>by simp[dO,nn l]
theorem gY: ∀ {x y z:List Int},dO x y=true→dO y z=true→dO x z=true|[],_,_,h,_=>(by simp[dO]at h)|_::_,[],_,h,_=>(by simp[dO]at h)|_::_,_::_,[],_,h=>(by simp[dO]at h)|a::x,b::y,c::z,h1,h2=>by simp only[dO,Bool.or_eq_true,Bool.and_eq_true,decide_eq_true_eq]at*;rcases h1 with h1|⟨h1,h1'⟩<;>rcases h2 with h2|⟨h2,h2'⟩;(·exact .inl (by omega));(·exact .inl (by omega));(·exact .inl (by omega));·exact .inr ⟨by omega,gY h1' h2'⟩
theorem jU: ∀ {x y:List Int},x.length=y.length→x=y∨dO x y=true∨dO y x=true|[],[],_=>.inl rfl|[],_::_,h=>(by simp at h)|_::_,[],h=>(by simp at h)|a::x,b::y,h=>by simp only[dO,Bool.or_eq_true,Bool.and_eq_true,decide_eq_true_eq];rcases Int.lt_trichotomy a b with h1|h1|h1;(·exact .inr (.inl (.inl h1)));(·subst h1;rcases jU (x:=x) (y:=y) (by simpa using h)with h2|h2|h2;(·exact .inl (by rw[h2]));(·exact .inr (.inl (.inr ⟨rfl,h2⟩)));·exact .inr (.inr (.inr ⟨rfl,h2⟩)));·exact .inr (.inr (.inl h1))
theorem cn {c1 c2:Int} {l1 l2:List Int} :ek c1 l1 c2 l2=true↔c1<c2∨c1=c2∧(l1.length<l2.length∨l1.length=l2.length∧dO l1 l2=true):=by simp[ek]
theorem MT(c:Int)(l:List Int):ek c l c l=false:=by cases h:ek c l c l with|false=>rfl|true=>rw[cn,nn]at h;simp at h
theorem wO {c1 c2 c3:Int} {l1 l2 l3:List Int} (h1:ek c1 l1 c2 l2=true)(h2:ek c2 l2 c3 l3=true):ek c1 l1 c3 l3=true:=by
 rw[cn]at*;rcases h1 with h1|⟨h1,h1'⟩<;>rcases h2 with h2|⟨h2,h2'⟩;(·exact .inl (by omega));(·exact .inl (by omega));(·exact .inl (by omega));·refine .inr ⟨by omega,?_⟩;rcases h1' with h1'|⟨h1',h3⟩<;>rcases h2' with h2'|⟨h2',h4⟩;(·exact .inl (by omega));(·exact .inl (by omega));(·exact .inl (by omega));·exact .inr ⟨by omega,gY h3 h4⟩
theorem FB {c1 c2:Int} {l1 l2:List Int} :(c1=c2∧l1=l2)∨ek c1 l1 c2 l2=true∨ek c2 l2 c1 l1=true:=by
 simp only[cn];rcases Int.lt_trichotomy c1 c2 with h|h|h;(·exact .inr (.inl (.inl h)));(·rcases Nat.lt_trichotomy l1.length l2.length with h2|h2|h2;(·exact .inr (.inl (.inr ⟨h,.inl h2⟩)));(·rcases jU h2 with h3|h3|h3;(·exact .inl ⟨h,h3⟩);(·exact .inr (.inl (.inr ⟨h,.inr ⟨h2,h3⟩⟩)));·exact .inr (.inr (.inr ⟨h.symm,.inr ⟨h2.symm,h3⟩⟩)));·exact .inr (.inr (.inr ⟨h.symm,.inl h2⟩)))
 ·exact .inr (.inr (.inl h))
theorem MU {c1 c2:Int} {l1 l2:List Int} (h:ek c1 l1 c2 l2=true):ek c2 l2 c1 l1=false:=by cases h2:ek c2 l2 c1 l1 with|false=>rfl|true=>have:=wO h h2;rw[MT]at this;cases this
def C6(s:bn)(x y:List Int):Prop:=x=y∨ek (cR s x) x (cR s y) y=true
theorem sL {s:bn} {x y z:List Int} (h1:C6 s x y)(h2:C6 s y z):C6 s x z:=by rcases h1 with rfl|h1;(·exact h2);·rcases h2 with rfl|h2;(·exact .inr h1);·exact .inr (wO h1 h2)
theorem C7 {s:bn} {x y:List Int} (h1:C6 s x y)(h2:C6 s y x):x=y:=by rcases h1 with h1|h1;(·exact h1);·rcases h2 with h2|h2;(·exact h2.symm);·rw[MU h1]at h2;cases h2
theorem zo(s:bn)(x y:List Int):C6 s x y∨C6 s y x:=by
 rcases FB (c1:=cR s x) (c2:=cR s y) (l1:=x) (l2:=y)with⟨_,h⟩|h|h;(·exact .inl (.inl h));(·exact .inl (.inr h));·exact .inr (.inr h)
theorem C8 {s:bn} {x y:List Int} (i:Int)(h:C6 s x y):C6 s (i::x) (i::y):=by
 rcases h with rfl|h;(·exact .inl rfl);·refine .inr ?_;rw[cn]at*;simp only[cR,List.length_cons,dO];rcases h with h|⟨h,h'⟩;(·exact .inl (by omega));·refine .inr ⟨by omega,?_⟩;rcases h' with h'|⟨h',h''⟩;(·exact .inl (by omega));·exact .inr ⟨by omega,by simp[h'']⟩
theorem FC {s:bn} {x y:List Int} {i:Int} (h:C6 s (i::x) (i::y)):C6 s x y:=by rcases zo s x y with h'|h';(·exact h');·have:=C7 h (C8 i h');injection this with _ this;exact .inl this
structure np(s:bn)(m:Int)(l:List Int):Prop where
 is:dN s m l
 le: ∀l',dN s m l'→C6 s l l'
theorem np.uniq {s:bn} {m:Int} {l l':List Int} (h:np s m l)(h':np s m l'):l=l':=C7 (h.le _ h'.is) (h'.le _ h.is)
theorem wP {s:bn} (hs:dA s)(i:Int):0≤oC s i:=by unfold oC;split;(·rename_i r h;exact(aN (hs.right r (List.mem_of_getElem? h))).2.2.2.2.1);·omega
theorem MV {s:bn} (hs:dA s)(i:Int):oC s i≤1000:=by unfold oC;split;(·rename_i r h;exact(aN (hs.right r (List.mem_of_getElem? h))).2.2.2.2.2.1);·omega
theorem C9 {s:bn} (hs:dA s): ∀l,0≤cR s l|[]=>Int.le_refl _|i::l=>by have:=wP hs i;have:=C9 hs l;simp only[cR];omega
theorem Da {s:bn} (hs:dA s): ∀l,cR s l≤1000*(l.length:Int)|[]=>(by simp[cR])|i::l=>by have:=MV hs i;have:=Da hs l;simp only[cR,List.length_cons];omega
theorem np.tail {s:bn} {m i:Int} {l:List Int} {r:Rl} (h:np s m (i::l))(hr:s.2.2[i.toNat]?=some r):np s r.2.1 l:=by
 obtain⟨r',h0,h1,h2,h3⟩:=h.is;rw[hr]at h1;injection h1 with h1;subst h1;exact⟨h3,fun l' hl'=>FC (h.le (i::l') ⟨r,h0,hr,h2,hl'⟩)⟩
def du(s:bn):Int→List Int→List Nat|m,[]=>[m.toNat]|m,i::l=>m.toNat::(match s.2.2[i.toNat]? with|some r=>du s r.2.1 l|none=>[])
theorem gZ {s:bn} (hs:dA s) {m:Int} {l:List Int} (h:dN s m l):0≤m∧m<s.1:=by
 cases l with|nil=>exact⟨h.1,h.2.1⟩|cons i l=>obtain⟨r,_,h1,h2,_⟩:=h;have:=aN (hs.right r (List.mem_of_getElem? h1));omega
theorem pd {s:bn} : ∀ {l:List Int} {m:Int},dN s m l→(du s m l).length=l.length+1|[],m,_=>rfl|i::l,m,⟨r,_,h1,_,h3⟩=>by simp only[du,h1,List.length_cons,pd h3]
theorem sM {s:bn} (hs:dA s): ∀ {l:List Int} {m:Int},dN s m l→ ∀x,x∈du s m l→x<s.1.toNat|[],m,h,x,hx=>(by simp only[du,List.mem_singleton]at hx;have:=gZ hs h;omega)|i::l,m,h,x,hx=>by have hm:=gZ hs h;obtain⟨r,_,h1,_,h3⟩:=h;simp only[du,h1,List.mem_cons]at hx;rcases hx with rfl|hx;(·omega);·exact sM hs h3 x hx
theorem tK {s:bn} (hs:dA s) {a:Int} (ha:0≤a): ∀ {l:List Int} {m:Int},dN s m l→a.toNat∈du s m l→(du s m l).Nodup→ ∃q,dN s a q∧cR s q≤cR s l∧q.length≤l.length∧(du s a q).Nodup|[],m,h,hx,hn=>(by simp only[du,List.mem_singleton]at hx;have:=gZ hs h;(obtain rfl:a=m:=by omega);exact⟨[],h,Int.le_refl _,Nat.le_refl _,hn⟩)|i::l,m,h,hx,hn=>by have hm:=gZ hs h;have h':=h;obtain⟨r,_,h1,_,h3⟩:=h;have hn':=hn;simp only[du,h1,List.mem_cons]at hx;simp only[du,h1]at hn';rcases hx with hx|hx;(·(obtain rfl:a=m:=by omega);exact⟨i::l,h',Int.le_refl _,Nat.le_refl _,hn⟩);·obtain⟨q,q1,q2,q3,q4⟩:=tK hs ha h3 hx (List.nodup_cons.1 hn').2;have:=wP hs i;exact⟨q,q1,by simp only[cR];omega,by simp only[List.length_cons];omega,q4⟩
theorem wQ {s:bn} (hs:dA s): ∀ {l:List Int} {m:Int},dN s m l→ ∃q,dN s m q∧cR s q≤cR s l∧q.length≤l.length∧(du s m q).Nodup|[],m,h=>⟨[],h,Int.le_refl _,Nat.le_refl _,by simp[du]⟩|i::l,m,h=>by have hm:=gZ hs h;obtain⟨r,h0,h1,h2,h3⟩:=h;obtain⟨q,q1,q2,q3,q4⟩:=wQ hs h3;have hc:=wP hs i;by_cases hx:m.toNat∈du s r.2.1 q;(·obtain⟨p,p1,p2,p3,p4⟩:=tK hs hm.1 q1 hx q4;exact⟨p,p1,by simp only[cR];omega,by simp only[List.length_cons];omega,p4⟩);·refine⟨i::q,⟨r,h0,h1,h2,q1⟩,by simp only[cR];omega,by simp only[List.length_cons];omega,?_⟩;simp only[du,h1];exact List.nodup_cons.2 ⟨hx,q4⟩
theorem sN {s:bn} (hs:dA s) {l:List Int} {m:Int} (h:dN s m l): ∃q,dN s m q∧cR s q≤cR s l∧q.length≤l.length∧q.length<s.1.toNat:=by
 obtain⟨q,q1,q2,q3,q4⟩:=wQ hs h;have:=m7 s.1.toNat _ q4 (sM hs q1);rw[pd q1]at this;exact⟨q,q1,q2,q3,by omega⟩
theorem wR {s:bn} (hs:dA s) {m:Int} {l:List Int} {k:Nat} (hk:s.1.toNat≤k)(h:dN s m l)(hle: ∀l',dN s m l'→l'.length≤k→C6 s l l'):np s m l:=by
 refine⟨h,fun l' hl'=>?_⟩;by_cases h1:l'.length≤k;(·exact hle l' hl' h1);·obtain⟨q,q1,q2,q3,q4⟩:=sN hs hl';refine sL (hle q q1 (by omega)) (.inr ?_);rw[cn];by_cases h2:cR s q<cR s l';(·exact .inl h2);·exact .inr ⟨by omega,.inl (by omega)⟩
end Go.Proofs.Ytefpgfdemmllpaa
namespace Go.Proofs.Ytefpgfdemmllpaa
abbrev En:=List Int×Int×Bool
def rm(i:Nat)(r:Rl)(o:En):En:=((i:Int)::o.1,r.2.2.2.2+o.2.1,true)
def IV(out next:List En)(i:Nat)(r:Rl):List En:=match out[r.2.1.toNat]?,next[r.1.toNat]? with|some o,some n=>if o.2.2=true then(if n.2.2=false∨ek (rm i r o).2.1 (rm i r o).1 n.2.1 n.1=true then next.set r.1.toNat (rm i r o)else next)else next|_,_=>next
def sO(out:List En):Nat→List Rl→List En→List En|_,[],next=>next|i,r::rs,next=>sO out (i+1) rs (IV out next i r)
def Hf(rs:List Rl):Nat→List En→List En|0,out=>out|k+1,out=>Hf rs k (sO out 0 rs out)
def pe(a:Int)(n:Nat):List En:=(List.range n).map fun(m:Nat)=>([],0,gu a (m:Int))
def eR(s:bn):List En:=Hf s.2.2 s.1.toNat (pe s.2.1 s.1.toNat)
structure IW(s:bn)(k:Nat)(m:Int)(e:En)(all:List Int→Prop):Prop where
 is:e.2.2=true→dN s m e.1∧e.1.length≤k∧e.2.1=cR s e.1
 no:e.2.2=false→e.1=[]∧e.2.1=0
 le: ∀l,dN s m l→all l→e.2.2=true∧C6 s e.1 l
def ky(s:bn)(k:Nat)(out:List En):Prop:=out.length=s.1.toNat∧ ∀(m:Nat)e,out[m]?=some e→IW s k m e (fun l=>l.length≤k)
theorem Db(out next:List En)(i:Nat)(r:Rl):(IV out next i r).length=next.length:=by unfold IV;(repeat' split);all_goals simp
theorem pf(out:List En): ∀(rs:List Rl)(i:Nat)(next:List En),(sO out i rs next).length=next.length|[],_,_=>rfl|r::rs,i,next=>(pf out rs (i+1) _).trans (Db out next i r)
theorem IX(rs:List Rl): ∀(k:Nat)(out:List En),(Hf rs k out).length=out.length|0,_=>rfl|k+1,out=>(IX rs k _).trans (pf out rs 0 out)
theorem wS {s:bn} {i:Nat} {r:Rl} (h:s.2.2[i]?=some r)(l:List Int):cR s ((i:Int)::l)=r.2.2.2.2+cR s l:=by simp only[cR,oC,Int.toNat_natCast,h]
theorem FD {s:bn} (hs:dA s) {k:Nat} {out:List En} (ho:ky s k out) {i:Nat} {r:Rl} (hr:s.2.2[i]?=some r) {next:List En} (hl:next.length=s.1.toNat)(hn: ∀(m:Nat)e,next[m]?=some e→IW s (k+1) m e (fun l=>l.length≤k∨ ∃j l',j<i∧l=(j:Int)::l'∧l'.length≤k)): ∀(m:Nat)e,(IV out next i r)[m]?=some e→IW s (k+1) m e (fun l=>l.length≤k∨ ∃j l',j<i+1∧l=(j:Int)::l'∧l'.length≤k):=by
 intro m e he;have hrn:=aN (hs.right r (List.mem_of_getElem? hr));obtain⟨o,hoo⟩: ∃o,out[r.2.1.toNat]?=some o:=ak (by rw[ho.1];omega);obtain⟨n,hnn⟩: ∃n,next[r.1.toNat]?=some n:=ak (by omega)
 have hok:=ho.2 _ _ hoo;(have hto:((r.2.1.toNat:Nat):Int)=r.2.1:=by omega);(have hfr:((r.1.toNat:Nat):Int)=r.1:=by omega);rw[hto]at hok;(have first: ∀l',dN s m ((i:Int)::l')→r.1.toNat=m∧dN s r.2.1 l':=fun l'⟨r',_,h1,h2,h3⟩=>by rw[Int.toNat_natCast,hr]at h1;injection h1 with h1;subst h1;exact⟨by omega,h3⟩)
 (have iY: ∀e,next[m]?=some e→(∀l',dN s m ((i:Int)::l')→l'.length≤k→e.2.2=true∧C6 s e.1 ((i:Int)::l'))→IW s (k+1) m e (fun l=>l.length≤k∨ ∃j l',j<i+1∧l=(j:Int)::l'∧l'.length≤k):=by intro e he hnew;have h:=hn m e he;refine⟨h.is,h.no,fun l hl ha=>?_⟩;rcases ha with ha|⟨j,l',hj,rfl,ha⟩;(·exact h.le l hl (.inl ha));·by_cases hji:j=i;(·subst hji;exact hnew l' hl ha);·exact h.le _ hl (.inr ⟨j,l',by omega,rfl,ha⟩))
 unfold IV at he;simp only[hoo,hnn]at he;by_cases h1:o.2.2=true;(·rw[if_pos h1]at he;obtain⟨o1,o2,o3⟩:=hok.is h1;have hnewis:dN s r.1 (rm i r o).1:=⟨r,Int.natCast_nonneg _,by simpa using hr,rfl,o1⟩;(have hnewc:(rm i r o).2.1=cR s (rm i r o).1:=by simp only[rm];rw[wS hr,o3]);have hnewl: ∀l',dN s r.2.1 l'→l'.length≤k→C6 s (rm i r o).1 ((i:Int)::l'):=fun l' h2 h3=>C8 _ (hok.le l' h2 h3).2;have hN:=hn _ _ hnn;by_cases h2:n.2.2=false∨ek (rm i r o).2.1 (rm i r o).1 n.2.1 n.1=true;(·rw[if_pos h2,List.getElem?_set]at he;by_cases h3:r.1.toNat=m;(·rw[if_pos h3,if_pos (by omega)]at he;injection he with he;subst he;(have hm:(m:Int)=r.1:=by omega);refine⟨fun _=>⟨by rw[hm];exact hnewis,by simp only[rm,List.length_cons];omega,hnewc⟩,fun h=>by simp[rm]at h,fun l hl ha=>⟨rfl,?_⟩⟩;(have old: ∀l,dN s m l→(l.length≤k∨ ∃j l',j<i∧l=(j:Int)::l'∧l'.length≤k)→C6 s (rm i r o).1 l:=by intro l hl ha;rw[h3]at hN;have h4:=hN.le l hl ha;rcases h2 with h2|h2;(·rw[h2]at h4;exact absurd h4.1 (by simp));·refine sL (.inr ?_) h4.2;rw[←hnewc,←(hN.is h4.1).2.2];exact h2);rcases ha with ha|⟨j,l',hj,rfl,ha⟩;(·exact old l hl (.inl ha));·by_cases hji:j=i;(·subst hji;exact hnewl l' (first l' hl).2 ha);·exact old _ hl (.inr ⟨j,l',by omega,rfl,ha⟩));·rw[if_neg h3]at he;exact iY e he fun l' hl _=>absurd (first l' hl).1 h3);·rw[if_neg h2]at he;refine iY e he fun l' hl ha=>?_;obtain⟨h3,h4⟩:=first l' hl;rw[h3]at hnn hN;rw[hnn]at he;injection he with he;subst he;(have h5:n.2.2=true:=by cases h:n.2.2 with|true=>rfl|false=>exact absurd (.inl h) h2);refine⟨h5,sL ?_ (hnewl l' h4 ha)⟩;rcases zo s n.1 (rm i r o).1 with h6|h6;(·exact h6);·rcases h6 with h6|h6;(·exact .inl h6.symm);·rw[←hnewc,←(hN.is h5).2.2]at h6;exact absurd (.inr h6) h2)
 ·rw[if_neg h1]at he;refine iY e he fun l' hl ha=>?_;have:=(hok.le l' (first l' hl).2 ha).1;exact absurd this h1
theorem zp {s:bn} (hs:dA s) {k:Nat} {out:List En} (ho:ky s k out): ∀(rs:List Rl)(i:Nat)(next:List En),s.2.2.drop i=rs→next.length=s.1.toNat→(∀(m:Nat)e,next[m]?=some e→IW s (k+1) m e (fun l=>l.length≤k∨ ∃j l',j<i∧l=(j:Int)::l'∧l'.length≤k))→ ∀(m:Nat)e,(sO out i rs next)[m]?=some e→IW s (k+1) m e (fun l=>l.length≤k∨ ∃j l',j<s.2.2.length∧l=(j:Int)::l'∧l'.length≤k)|[],i,next,hd,hl,hn,m,e,he=>(by(have hlen:s.2.2.length≤i:=by have:=congrArg List.length hd;simp only[List.length_drop,List.length_nil]at this;omega);have h:=hn m e he;refine⟨h.is,h.no,fun l hl ha=>h.le l hl ?_⟩;rcases ha with ha|⟨j,l',hj,h1,h2⟩;(·exact .inl ha);·exact .inr ⟨j,l',by omega,h1,h2⟩)|r::rs,i,next,hd,hl,hn,m,e,he=>by(have hr:s.2.2[i]?=some r:=by have:=congrArg (fun l=>l[0]?) hd;simpa using this);refine zp hs ho rs (i+1) (IV out next i r) ?_ (by rw[Db];exact hl) (FD hs ho hr hl hn) m e he;have:=congrArg List.tail hd;simpa using this
theorem MX {s:bn} (hs:dA s) {k:Nat} {out:List En} (ho:ky s k out):ky s (k+1) (sO out 0 s.2.2 out):=by
 refine⟨(pf out s.2.2 0 out).trans ho.1,fun m e he=>?_⟩;have h:=zp hs ho s.2.2 0 out rfl ho.1 (fun m e he=>by have h:=ho.2 m e he;refine⟨fun h'=>?_,h.no,fun l hl ha=>?_⟩;(·have:=h.is h';exact⟨this.1,by omega,this.2.2⟩);·rcases ha with ha|⟨j,l',hj,_⟩;(·exact h.le l hl ha);·omega) m e he
 refine⟨h.is,h.no,fun l hl ha=>h.le l hl ?_⟩;cases l with|nil=>exact .inl (Nat.zero_le _)|cons i l=>obtain⟨r,h0,h1,_⟩:=hl;have hi:i.toNat<s.2.2.length:=(List.getElem?_eq_some_iff.1 h1).1;exact .inr ⟨i.toNat,l,hi,by rw[Int.toNat_of_nonneg h0],by simpa using ha⟩
theorem Dc {s:bn} (hs:dA s): ∀(k j:Nat)(out:List En),ky s j out→ky s (j+k) (Hf s.2.2 k out)|0,j,out,h=>h|k+1,j,out,h=>by have:=Dc hs k (j+1) (sO out 0 s.2.2 out) (MX hs h);rw[show j+(k+1)=j+1+k by omega];exact this
theorem rn {s:bn} (_hs:dA s):ky s 0 (pe s.2.1 s.1.toNat):=by
 refine⟨by simp[pe],fun m e he=>?_⟩;(have hm:m<s.1.toNat:=by have:=(List.getElem?_eq_some_iff.1 he).1;simpa[pe]using this);unfold pe at he;rw[List.getElem?_map,List.getElem?_range hm]at he
 (obtain rfl:([],0,gu s.2.1 (m:Int))=e:=by simpa using he);refine⟨fun h=>⟨⟨Int.natCast_nonneg _,by omega,h⟩,Nat.le_refl _,rfl⟩,fun _=>⟨rfl,rfl⟩,fun l hl ha=>?_⟩
 obtain rfl:l=[]:=List.eq_nil_of_length_eq_zero (Nat.le_zero.1 ha);exact⟨hl.2.2,.inl rfl⟩
theorem Hg {s:bn} (hs:dA s):ky s s.1.toNat (eR s):=by have:=Dc hs s.1.toNat 0 _ (rn hs);rw[Nat.zero_add]at this;exact this
def gw(s:bn)(m:Int):En:=(eR s)[m.toNat]?.getD ([],0,false)
theorem Dd {s:bn} (hs:dA s) {m:Int} (hm:0≤m∧m<s.1):(gw s m).2.2=true→np s m (gw s m).1∧(gw s m).2.1=cR s (gw s m).1∧(gw s m).1.length<s.1.toNat:=by
 have h:=Hg hs;obtain⟨e,he⟩: ∃e,(eR s)[m.toNat]?=some e:=ak (by rw[h.1];omega);(have hE:gw s m=e:=by unfold gw;rw[he];rfl);have hk:=h.2 _ _ he;(have hmm:((m.toNat:Nat):Int)=m:=by omega)
 rw[hmm]at hk;rw[hE];intro h1;obtain⟨h2,h3,h4⟩:=hk.is h1;have hL:=wR hs (Nat.le_refl _) h2 (fun l' hl' hlen=>(hk.le l' hl' hlen).2);refine⟨hL,h4,?_⟩;obtain⟨q,q1,q2,q3,q4⟩:=sN hs h2
 rcases hL.le q q1 with h5|h5;(·rw[h5];exact q4);·rw[cn]at h5;omega
theorem MY {s:bn} (hs:dA s) {m:Int} (hm:0≤m∧m<s.1):(gw s m).2.2=false→(gw s m).1=[]∧(gw s m).2.1=0∧ ∀l,¬dN s m l:=by
 have h:=Hg hs;obtain⟨e,he⟩: ∃e,(eR s)[m.toNat]?=some e:=ak (by rw[h.1];omega);(have hE:gw s m=e:=by unfold gw;rw[he];rfl);have hk:=h.2 _ _ he;(have hmm:((m.toNat:Nat):Int)=m:=by omega)
 rw[hmm]at hk;rw[hE];intro h1;refine⟨(hk.no h1).1,(hk.no h1).2,fun l hl=>?_⟩;obtain⟨q,q1,q2,q3,q4⟩:=sN hs hl;have:=(hk.le q q1 (by omega)).1;rw[h1]at this;cases this
def kI(s:bn)(m:Int):List Int×Int×Int:=if 0≤m∧m<s.1 then(if(gw s m).2.2=true then((gw s m).1,(gw s m).2.1,0)else([],0,50))else([],0,30)
theorem De {s:bn} (hs:dA s)(m:Nat):on (dV s) m↔ ∃l,dN s (m:Int) l:=by
 (have hlt: ∀e,e∈dS s.2.2→e.2<(di s.2.1 s.1.toNat).length:=by intro e he;unfold dS at he;obtain⟨r,hr,rfl⟩:=List.mem_map.1 he;have:=aN (hs.right r hr);rw[e8];show r.1.toNat<_;omega)
 unfold dV;rw[nh hlt (by rw[e8];exact Nat.le_refl _)];constructor;(·intro h;induction h with|base m hb=>(have hm:m<s.1.toNat:=by have:=MN hb;rwa[e8]at this);unfold on at hb;rw[nW hm]at hb;injection hb with hb;exact⟨[],Int.natCast_nonneg _,by omega,hb⟩|step a b _ he ih=>obtain⟨l,hl⟩:=ih;unfold dS at he;obtain⟨r,hr,he⟩:=List.mem_map.1 he;injection he with h1 h2;obtain⟨i,hi⟩:=List.getElem?_of_mem hr;have:=aN (hs.right r hr);refine⟨(i:Int)::l,r,Int.natCast_nonneg _,by simpa using hi,by omega,?_⟩;rw[show r.2.1=(a:Int)by omega];exact hl)
 ·rintro⟨l,hl⟩;(have main: ∀(l:List Int)(m:Int),dN s m l→Cl (dS s.2.2) (di s.2.1 s.1.toNat) m.toNat:=by intro l;induction l with|nil=>intro m h;refine .base _ ?_;unfold on;rw[nW (by have:=h.2.1;have:=h.1;omega),Int.toNat_of_nonneg h.1,h.2.2]|cons i l ih=>intro m⟨r,_,h1,h2,h3⟩;refine .step _ _ (ih _ h3) ?_;unfold dS;exact List.mem_map.2 ⟨r,List.mem_of_getElem? h1,by rw[h2]⟩);have:=main l m hl;simpa using this
end Go.Proofs.Ytefpgfdemmllpaa
namespace Go.Proofs.Ytefpgfdemmllpaa
set_option maxHeartbeats 1000000
abbrev PM:=List (Int×Pr)
theorem fU {V:Type} (m:List (Int×V))(a b:Int)(v:V):aR c9 (cr c9 m a v) b=if b=a then some v else aR c9 m b:=by
 induction m with|nil=>simp only[cr,aR];by_cases h:b=a;(·simp only[c9,h,decide_true,cond_true,if_true]);(·simp only[c9,h,decide_false,cond_false,if_false])|cons p m ih=>simp only[cr];by_cases h:a=p.1;(·(have e:c9 a p.1=true:=by simp only[c9,h,decide_true]);rw[e,cond_true];simp only[aR];by_cases h':b=a;(·simp only[c9,h',decide_true,cond_true,if_true]);·(have e':c9 b a=false:=by simp only[c9,h',decide_false]);rw[e',if_neg h',cond_false];(have e2:c9 b p.1=false:=by rw[←h];exact e');rw[e2,cond_false]);·(have e:c9 a p.1=false:=by simp only[c9,h,decide_false]);rw[e,cond_false];simp only[aR];by_cases h':b=p.1;(·(have e':c9 b p.1=true:=by simp only[c9,h',decide_true]);rw[e',cond_true,cond_true,if_neg (fun x=>h (by rw[←x,h']))]);·(have e':c9 b p.1=false:=by simp only[c9,h',decide_false]);rw[e',cond_false,cond_false,ih]
theorem c5 {p q:Pr} :cg p q=true↔p.1<q.1∨p.1=q.1∧p.2<q.2:=by simp[cg]
theorem aT {p q:Pr} :cg p q=false↔ ¬(p.1<q.1∨p.1=q.1∧p.2<q.2):=by simp[cg]
def Om(s:bn)(l:List Int):Pr:=(cR s l,(l.length:Int))
def PrS(s:bn)(ps:PM)(m:Int)(p:Pr):Prop:= ∃l,dN s m l∧p=Om s l∧(du s m l).Nodup∧ ∀(x:Nat),x∈du s m l→ ∃px,aR c9 ps (x:Int)=some px∧cg p px=false
structure Hh(s:bn)(ps:PM):Prop where
 sound: ∀m p,aR c9 ps m=some p→PrS s ps m p
 acc: ∀m:Int,0≤m→m<s.1→gu s.2.1 m=true→aR c9 ps m=some (0,0)
theorem ug {l:List Nat} {n:Nat} (hd:l.Nodup)(h: ∀x,x∈l→x<n):l.length≤n:=by have:=List.Nodup.length_le_of_subset hd (l₂:=List.range n) (fun x hx=>List.mem_range.2 (h x hx));simpa using this
theorem PrS.bound {s:bn} (hs:dA s) {ps:PM} {m:Int} {p:Pr} (h:PrS s ps m p):0≤p.1∧p.1≤8000∧0≤p.2∧p.2<s.1∧0≤m∧m<s.1:=by
 obtain⟨l,h1,rfl,h3,_⟩:=h;have hl:=ug h3 (sM hs h1);rw[pd h1]at hl;have:=Da hs l;have:=C9 hs l;have:=hs.n8;have:=gZ hs h1;simp only[Om];omega
theorem Hh.put {s:bn} (hs:dA s) {ps:PM} (h:Hh s ps) {i:Nat} {r:Rl} {q:Pr} (hr:s.2.2[i]?=some r)(hq:aR c9 ps r.2.1=some q)(hnew: ∀p,aR c9 ps r.1=some p→cg (iD q r.2.2.2.2) p=true):Hh s (cr c9 ps r.1 (iD q r.2.2.2.2)):=by
 have hrn:=aN (hs.right r (List.mem_of_getElem? hr));obtain⟨l,h1,h2,h3,h4⟩:=h.sound _ _ hq;(have hlt:cg q (iD q r.2.2.2.2)=true:=by rw[c5];simp only[iD];omega);(have hmem:r.1.toNat∉du s r.2.1 l:=by intro hx;obtain⟨px,e1,e2⟩:=h4 _ hx;rw[show((r.1.toNat:Nat):Int)=r.1 by omega]at e1;have:=hnew px e1;rw[c5]at this hlt;rw[aT]at e2;omega)
 refine⟨fun m p hm=>?_,fun m a1 a2 a3=>?_⟩;(·rw[fU]at hm;split at hm;(·rename_i e;subst e;injection hm with hm;subst hm;refine⟨(i:Int)::l,⟨r,Int.natCast_nonneg _,by simpa using hr,rfl,h1⟩,?_,?_,fun x hx=>?_⟩;(·rw[h2];simp only[Om,iD,List.length_cons,wS hr];rw[Int.add_comm r.2.2.2.2];simp);(·simp only[du,Int.toNat_natCast,hr,List.nodup_cons];exact⟨hmem,h3⟩);·simp only[du,Int.toNat_natCast,hr,List.mem_cons]at hx;rw[fU];rcases hx with rfl|hx;(·rw[if_pos (by omega)];exact⟨_,rfl,by rw[aT];omega⟩);·obtain⟨px,e1,e2⟩:=h4 x hx;rw[if_neg (fun e=>hmem (by rw[←e];simpa using hx))];refine⟨px,e1,?_⟩;rw[c5]at hlt;rw[aT]at e2⊢;omega);·rename_i hne;obtain⟨l',g1,g2,g3,g4⟩:=h.sound _ _ hm;refine⟨l',g1,g2,g3,fun x hx=>?_⟩;obtain⟨px,e1,e2⟩:=g4 x hx;rw[fU];split;(·rename_i e;rw[e]at e1;have:=hnew px e1;refine⟨_,rfl,?_⟩;rw[c5]at this;rw[aT]at e2⊢;omega);·exact⟨px,e1,e2⟩)
 ·rw[fU];have ha:=h.acc m a1 a2 a3;split;(·rename_i e;subst e;have:=hnew _ ha;have hb:=(h.sound _ _ hq).bound hs;rw[c5]at this;simp only[iD]at this;omega);·exact ha
def Df(ps:PM)(r:Rl):Prop:= ∀q,aR c9 ps r.2.1=some q→ ∃p,aR c9 ps r.1=some p∧cg (iD q r.2.2.2.2) p=false
theorem Dg {s:bn} {ps:PM} (h:Hh s ps)(hc: ∀r,r∈s.2.2→Df ps r): ∀(l:List Int)(m:Int),dN s m l→ ∃p,aR c9 ps m=some p∧cg (Om s l) p=false|[],m,hl=>⟨_,h.acc m hl.1 hl.2.1 hl.2.2,by rw[aT];simp[Om,cR]⟩|i::l,m,⟨r,h0,h1,h2,h3⟩=>by obtain⟨q,e1,e2⟩:=Dg h hc l r.2.1 h3;obtain⟨p,f1,f2⟩:=hc r (List.mem_of_getElem? h1) q e1;rw[h2]at f1;refine⟨p,f1,?_⟩;(have hci:oC s i=r.2.2.2.2:=by unfold oC;rw[h1]);rw[aT]at e2 f2⊢;simp only[Om,iD,cR,hci,List.length_cons]at e2 f2⊢;omega
theorem an7 {s:bn} {ps:PM} (h:Hh s ps)(hc: ∀r,r∈s.2.2→Df ps r) {m:Int} {l:List Int} (hl:np s m l):aR c9 ps m=some (Om s l):=by
 obtain⟨p,e1,e2⟩:=Dg h hc l m hl.is;obtain⟨l',g1,g2,_,_⟩:=h.sound _ _ e1;have hle:=hl.le l' g1;rw[e1];congr 1;rcases hle with rfl|hle;(·exact g2);·rw[cn]at hle;rw[g2,aT]at e2;rw[g2];simp only[Om]at e2⊢;(have:cR s l=cR s l'∧l.length=l'.length:=by omega);rw[this.1,this.2]
theorem an8 {s:bn} {ps:PM} (h:Hh s ps) {m:Int} (hn: ∀l,¬dN s m l):aR c9 ps m=none:=by cases hm:aR c9 ps m with|none=>rfl|some p=>obtain⟨l,h1,_⟩:=h.sound _ _ hm;exact absurd h1 (hn l)
def MZ:Option Pr→Nat|none=>100000|some p=>p.1.toNat*8+p.2.toNat
def Hi(n:Nat)(ps:PM):Nat:=((List.range n).map fun(m:Nat)=>MZ (aR c9 ps (m:Int))).sum
theorem M0 {f g:Nat→Nat} : ∀(l:List Nat),(∀x,x∈l→g x≤f x)→(l.map g).sum≤(l.map f).sum|[],_=>Nat.le_refl _|x::l,h=>by have:=M0 l (fun y hy=>h y (by simp[hy]));have:=h x (by simp);simp only[List.map_cons,List.sum_cons];omega
theorem M1 {f g:Nat→Nat} {m:Nat} : ∀(l:List Nat),(∀x,x∈l→g x≤f x)→m∈l→g m<f m→(l.map g).sum<(l.map f).sum|x::l,h,hm,hlt=>by simp only[List.map_cons,List.sum_cons];have h1:=M0 l (fun y hy=>h y (by simp[hy]));have h2:=h x (by simp);rcases List.mem_cons.1 hm with rfl|hm;(·omega);·have:=M1 l (fun y hy=>h y (by simp[hy])) hm hlt;omega
theorem Hh.less {s:bn} (hs:dA s) {ps:PM} (h:Hh s ps) {i:Nat} {r:Rl} {q:Pr} (hr:s.2.2[i]?=some r)(hq:aR c9 ps r.2.1=some q)(hnew: ∀p,aR c9 ps r.1=some p→cg (iD q r.2.2.2.2) p=true):Hi s.1.toNat (cr c9 ps r.1 (iD q r.2.2.2.2))<Hi s.1.toNat ps:=by
 have hrn:=aN (hs.right r (List.mem_of_getElem? hr));have hb:=(h.sound _ _ hq).bound hs;have h8:=hs.n8;(have key:MZ (some (iD q r.2.2.2.2))<MZ (aR c9 ps r.1):=by cases hp:aR c9 ps r.1 with|none=>simp only[MZ,iD];omega|some p=>have hl:=hnew p hp;have hbp:=(h.sound _ _ hp).bound hs;have hb2:=((Hh.put hs h hr hq hnew).sound r.1 (iD q r.2.2.2.2) (by rw[fU,if_pos rfl])).bound hs;rw[c5]at hl;simp only[MZ];omega)
 refine M1 (m:=r.1.toNat) _ (fun x hx=>?_) (List.mem_range.2 (by omega)) ?_;(·rw[fU];split;(·rename_i e;rw[e];exact Nat.le_of_lt key);·exact Nat.le_refl _);·rw[fU,if_pos (by omega),show((r.1.toNat:Nat):Int)=r.1 by omega];exact key
theorem wT {V:Type} (k:Int)(v:V): ∀(m:List (Int×V)),(cr c9 m k v).map (·.1)=if k∈m.map (·.1)then m.map (·.1)else m.map (·.1)++ [k]|[]=>rfl|p::m=>by have ih:=wT k v m;simp only[cr];by_cases h:k=p.1;(·(have:c9 k p.1=true:=by simp only[c9,h,decide_true]);rw[this,cond_true,if_pos (by simp[h])];simp[h]);·(have:c9 k p.1=false:=by simp only[c9,h,decide_false]);rw[this,cond_false];simp only[List.map_cons,ih,List.mem_cons,h,false_or];split<;>rfl
theorem wU {V:Type} {k:Int} {v:V} {m:List (Int×V)} (h:(m.map (·.1)).Nodup):((cr c9 m k v).map (·.1)).Nodup:=by
 rw[wT];split;(·exact h);·rename_i hk;rw[List.nodup_append];exact⟨h,by simp,fun a ha b hb=>by simp at hb;subst hb;exact fun e=>hk (e▸ha)⟩
theorem tL {V:Type} : ∀ {m:List (Int×V)} {k:Int},k∈m.map (·.1)→ ∃v,aR c9 m k=some v|p::m,k,h=>by simp only[aR];by_cases e:k=p.1;(·(have:c9 k p.1=true:=by simp only[c9,e,decide_true]);exact⟨p.2,by rw[this,cond_true]⟩);·(have e':c9 k p.1=false:=by simp only[c9,e,decide_false]);rw[e',cond_false];simp only[List.map_cons,List.mem_cons]at h;exact tL (h.resolve_left e)
theorem Dh {V:Type} {m:List (Int×V)} {n:Nat} (hd:(m.map (·.1)).Nodup)(h: ∀k v,aR c9 m k=some v→0≤k∧k<(n:Int)):m.length≤n:=by
 have:=List.Nodup.length_le_of_subset hd (l₂:=(List.range n).map fun(x:Nat)=>(x:Int)) (fun x hx=>by obtain⟨v,hv⟩:=tL hx;have:=h x v hv;exact List.mem_map.2 ⟨x.toNat,List.mem_range.2 (by omega),by omega⟩)
 simpa using this
structure S3(s:bn)(p0:PM)(ch:Bool)(ps:PM)(P:Int→Prop):Prop where
 ok:Hh s ps
 once:(ps.map (·.1)).Nodup
 Zs:Hi s.1.toNat ps+(if ch=true then 1 else 0)≤Hi s.1.toNat p0
 shut:ch=false→ ∀i,P i→ ∀r,s.2.2[i.toNat]?=some r→Df ps r
theorem S3.S4 {s:bn} {p0 ps:PM} {ch:Bool} {P P':Int→Prop} (h:S3 s p0 ch ps P)(hp: ∀i,P' i→P i):S3 s p0 ch ps P':=⟨h.ok,h.once,h.Zs,fun e i hi=>h.shut e i (hp i hi)⟩
theorem S3.same {s:bn} {p0 ps:PM} {ch:Bool} {P:Int→Prop} {i:Int} {r:Rl} (h:S3 s p0 ch ps P)(hr:s.2.2[i.toNat]?=some r)(hs:Df ps r):S3 s p0 ch ps (fun j=>P j∨j=i):=⟨h.ok,h.once,h.Zs,fun e j hj q hq=>by rcases hj with hj|rfl;(·exact h.shut e j hj q hq);·rw[hr]at hq;injection hq with hq;subst hq;exact hs⟩
theorem S3.put {s:bn} (hs:dA s) {p0 ps:PM} {ch:Bool} {P P':Int→Prop} {i:Nat} {r:Rl} {q:Pr} (h:S3 s p0 ch ps P)(hr:s.2.2[i]?=some r)(hq:aR c9 ps r.2.1=some q)(hnew: ∀p,aR c9 ps r.1=some p→cg (iD q r.2.2.2.2) p=true):S3 s p0 true (cr c9 ps r.1 (iD q r.2.2.2.2)) P':=by
 refine⟨h.ok.put hs hr hq hnew,wU h.once,?_,fun e=>by cases e⟩;have:=h.ok.less hs hr hq hnew;have:=h.Zs;rw[if_pos rfl];split at this<;>omega
theorem Hh.Aa {s:bn} (hs:dA s) {ps:PM} (h:Hh s ps)(ho:(ps.map (·.1)).Nodup):ps.length≤8:=by
 have h8:=hs.n8;have:=Dh (n:=s.1.toNat) ho (fun k v hv=>by have:=(h.sound k v hv).bound hs;omega);omega
structure On(s:bn)(k:Nat)(ps:PM):Prop where
 find: ∀m:Int,aR c9 ps m=if 0≤m∧m<(k:Int)∧gu s.2.1 m=true then some (0,0)else none
 once:(ps.map (·.1)).Nodup
theorem On.Aa {s:bn} {k:Nat} {ps:PM} (h:On s k ps):ps.length≤k:=Dh h.once fun m v hv=>by rw[h.find]at hv;split at hv;(·rename_i h';exact⟨h'.1,h'.2.1⟩);·cases hv
theorem On.next {s:bn} {k:Nat} {ps:PM} (h:On s k ps)(ha:gu s.2.1 (k:Int)=true):On s (k+1) (cr c9 ps (k:Int) (0,0)):=by
 refine⟨fun m=>?_,wU h.once⟩;rw[fU];split;(·rename_i e;subst e;rw[if_pos ⟨Int.natCast_nonneg _,by omega,ha⟩]);·rename_i e;rw[h.find];by_cases hm:0≤m∧m<(k:Int)∧gu s.2.1 m=true;(·rw[if_pos hm,if_pos ⟨hm.1,by omega,hm.2.2⟩]);·rw[if_neg hm,if_neg (fun h'=>hm ⟨h'.1,by omega,h'.2.2⟩)]
theorem On.skip {s:bn} {k:Nat} {ps:PM} (h:On s k ps)(ha:gu s.2.1 (k:Int)=false):On s (k+1) ps:=by
 refine⟨fun m=>?_,h.once⟩;rw[h.find];by_cases hm:0≤m∧m<(k:Int)∧gu s.2.1 m=true;(·rw[if_pos hm,if_pos ⟨hm.1,by omega,hm.2.2⟩]);·rw[if_neg hm,if_neg (fun h'=>by rcases Int.lt_or_le m k with h1|h1;(·exact hm ⟨h'.1,h1,h'.2.2⟩);·(have:m=(k:Int):=by omega);rw[this,ha]at h';simp at h')]
theorem On.ok {s:bn} (_hs:dA s) {ps:PM} (h:On s s.1.toNat ps):Hh s ps:=by
 refine⟨fun m p hm=>?_,fun m h1 h2 h3=>by rw[h.find,if_pos ⟨h1,by omega,h3⟩]⟩;have hm0:=hm;rw[h.find]at hm;split at hm;(·rename_i h';injection hm with hm;subst hm;refine⟨[],⟨h'.1,by omega,h'.2.2⟩,rfl,by simp[du],fun x hx=>?_⟩;simp only[du,List.mem_singleton]at hx;subst hx;rw[show((m.toNat:Nat):Int)=m by omega];exact⟨_,hm0,by rw[aT];simp⟩)
 ·cases hm
end Go.Proofs.Ytefpgfdemmllpaa
namespace Go.Proofs.Ytefpgfdemmllpaa
set_option maxHeartbeats 1000000
theorem zq(k:Int): ∀(rs:List Rl)(i:Nat)(m:GM),jT (nf rs i m) k=jT m k++cv k rs i|[],_,m=>(by simp only[nf,cv,List.append_nil])|r::rs,i,m=>by simp only[nf];rw[zq k rs (i+1) _,CV];have e:cv k (r::rs) i=if r.1=k then(i:Int)::cv k rs (i+1)else cv k rs (i+1):=rfl;rw[e];by_cases h:r.1=k;(·rw[if_pos h.symm,if_pos h,h,List.append_assoc];rfl);·rw[if_neg (fun e=>h e.symm),if_neg h]
theorem wV(rs:List Rl)(k:Int):jT (dU rs) k=cv k rs 0:=by unfold dU;rw[zq];rfl
theorem zr(k:Int)(v:List Int): ∀(m:GM),(cr c9 m k v).map (·.1)=if k∈m.map (·.1)then m.map (·.1)else m.map (·.1)++ [k]|[]=>rfl|p::m=>by have ih:=zr k v m;simp only[cr];by_cases h:k=p.1;(·(have:c9 k p.1=true:=by simp only[c9,h,decide_true]);rw[this,cond_true,if_pos (by simp[h])];simp[h]);·(have:c9 k p.1=false:=by simp only[c9,h,decide_false]);rw[this,cond_false];simp only[List.map_cons,ih,List.mem_cons,h,false_or];split<;>rfl
theorem IY {k:Int} {v:List Int} {m:GM} (h:(m.map (·.1)).Nodup):((cr c9 m k v).map (·.1)).Nodup:=by
 rw[zr];split;(·exact h);·rename_i hk;rw[List.nodup_append];exact⟨h,by simp,fun a ha b hb=>by simp at hb;subst hb;exact fun e=>hk (e▸ha)⟩
theorem zt: ∀(rs:List Rl)(i:Nat)(m:GM),(m.map (·.1)).Nodup→((nf rs i m).map (·.1)).Nodup|[],_,_,h=>h|_::rs,i,m,h=>zt rs (i+1) _ (IY h)
theorem Di: ∀ {m:GM} {x:Int×List Int},(m.map (·.1)).Nodup→x∈m→aR c9 m x.1=some x.2|p::m,x,h,hx=>by simp only[List.map_cons,List.nodup_cons]at h;simp only[aR];rcases List.mem_cons.1 hx with rfl|hx;(·(have:c9 x.1 x.1=true:=by simp only[c9,decide_true]);rw[this,cond_true]);·have hne:x.1≠p.1:=fun e=>h.1 (by rw[←e];exact List.mem_map_of_mem hx);(have:c9 x.1 p.1=false:=by simp only[c9,hne,decide_false]);rw[this,cond_false];exact Di h.2 hx
theorem Dj: ∀ {m:GM} {k:Int} {v:List Int},aR c9 m k=some v→(k,v)∈m|p::m,k,v,h=>by simp only[aR]at h;by_cases e:k=p.1;(·(have:c9 k p.1=true:=by simp only[c9,e,decide_true]);rw[this,cond_true]at h;injection h with h;subst h;subst e;simp);·(have:c9 k p.1=false:=by simp only[c9,e,decide_false]);rw[this,cond_false]at h;exact List.mem_cons_of_mem _ (Dj h)
theorem wW {rs:List Rl} {x:Int×List Int} (h:x∈dU rs):x.2=cv x.1 rs 0:=by have hf:=Di (zt rs 0 [] (by simp)) h;rw[←wV];unfold jT;rw[show dU rs=nf rs 0 []from rfl,hf];rfl
theorem IZ {rs:List Rl} {x:Int×List Int} {j:Int} (h:x∈dU rs)(hj:j∈x.2): ∃(i:Nat)(r:Rl),j=(i:Int)∧rs[i]?=some r∧r.1=x.1:=by
 rw[wW h]at hj;obtain⟨i,r,h1,h2,h3⟩:=eJ.1 hj;exact⟨i,r,by rw[h3,Nat.zero_add],h1,h2⟩
theorem M3 {rs:List Rl} {i:Nat} {r:Rl} (h:rs[i]?=some r): ∃(p:Nat)(x:Int×List Int),(dU rs)[p]?=some x∧x.1=r.1∧(i:Int)∈x.2:=by
 (have hm:(i:Int)∈jT (dU rs) r.1:=by rw[wV];exact eJ.2 ⟨i,r,h,rfl,by rw[Nat.zero_add]⟩);unfold jT at hm;cases hf:aR c9 (dU rs) r.1 with|none=>rw[hf]at hm;cases hm|some v=>rw[hf]at hm;obtain⟨p,hp⟩:=List.getElem?_of_mem (Dj hf);exact⟨p,_,hp,rfl,hm⟩
theorem I0(rs:List Rl):(dU rs).length≤rs.length∧ ∀x,x∈dU rs→x.2.length≤rs.length:=by refine⟨by have:=sI rs 0 [];simpa[dU]using this,fun x hx=>?_⟩;rw[wW hx];exact nX _ _ _
end Go.Proofs.Ytefpgfdemmllpaa
