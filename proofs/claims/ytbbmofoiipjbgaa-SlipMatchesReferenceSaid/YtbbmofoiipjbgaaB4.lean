/- Contract of the reference's Distance, by the kit's own walk. Nothing here is trusted; no condition. -/
import Derived.Test.YtbbmofoiipjbgaaB3
import Derived.Test.YtbbmofoiipjbgaaProg
import Derived.WalkKit
import Derived.RegionTactic
import Derived.BigRegion
import Derived.Deep.RegionLaw
import Derived.Deep.LoopGhost
import Derived.Lib.Walk
import Derived.Deep.OwnRows
import Derived.Laws.MakeOwn
import Derived.Laws.Rows
set_option linter.unusedSimpArgs false
set_option linter.unusedVariables false
open Nat renaming reduceBEq→zA,reduceAdd→zB,reduceSub→zC,reduceMul→zD,reduceLeDiff→zE
open Int renaming reduceLT→zF,reduceLE→zG,reduceToNat→zH,reduceNeg→zI
namespace Go.Proofs.Ytbbmofoiipjbgaa
open Go.RowKit Go.Deep
set_option maxHeartbeats 40000000
set_option maxRecDepth 1000000
theorem M3:(Try.prog.info? 3).map (fun i=>(i.zero,i.size,i.bytes))=some (some (.int .i64 0),1,8):=by kernel_rfl
theorem FK:(Try.prog.info? 50).map (fun i=>(i.zero,i.size,i.bytes))=some (some (.slice none 0 0),1,24):=by kernel_rfl
theorem Ka:Try.prog.underlying 50=some (.slice 3):=by kernel_rfl
theorem Kb:Try.prog.underlying 52=some (.slice 50):=by kernel_rfl
def kT(R:Nat→Nat)(m i:Nat):Nat→Value:=fun j=>if j<i then .slice (some ⟨R j,0,none⟩) (m+1) (m+1)else .slice none 0 0
structure NF(w wr:World)(B:Nat→Value)(R:Nat→Nat)(n m i:Nat)(Z:Nat→Nat→Int):Prop where
 since:w.Since w.heap.size wr
 size:w.heap.size+2≤wr.heap.size
 lo: ∀j,j<i→w.heap.size+2≤R j∧R j<wr.heap.size
 box:wr.rowIs w.heap.size 32 5 B
 top:wr.rowIs (w.heap.size+1) 50 (n+1) (kT R m i)
 done: ∀j,j<i→wr.rowIs (R j) 3 (m+1) (fun k=>.int .i64 (Z j k))
structure qA(w wi:World)(B:Nat→Value)(R:Nat→Nat)(n m i k:Nat)(Z:Nat→Nat→Int):Prop where
 since:w.Since w.heap.size wi
 size:w.heap.size+2≤wi.heap.size
 lo: ∀j,j<i+1→w.heap.size+2≤R j∧R j<wi.heap.size
 ne: ∀j,j<i→R j≠R i
 box:wi.rowIs w.heap.size 32 5 B
 top:wi.rowIs (w.heap.size+1) 50 (n+1) (kT R m (i+1))
 done: ∀j,j<i→wi.rowIs (R j) 3 (m+1) (fun k=>.int .i64 (Z j k))
 cur:wi.rowIs (R i) 3 (m+1) (fun j=>if j<k then .int .i64 (Z i j)else .int .i64 0)
theorem AA(w:World)(c:Array Value)(B:Nat→Value)(hB: ∀i,i<c.size→c[i]?=some (B i))(hc:c.size=5)(R:Nat→Nat)(n m:Nat)(Z:Nat→Nat→Int):NF w ((w.alloc (.cells c 32)).alloc (.cells (madeCells #[.slice none 0 0] (n+1)) 50)) B R n m 0 Z:=by
 (have hs:(w.alloc (.cells c 32)).heap.size=w.heap.size+1:=by simp);have h1:=World.rowIs_alloc w c 32 B hB;rw[hc]at h1;have h2:=World.rowIs_made (w.alloc (.cells c 32)) (.slice none 0 0) (n+1) 50
 rw[hs]at h2;refine⟨((World.Since.refl _ _).alloc (Nat.le_refl _) _).alloc (by rw[hs];omega) _,by simp,fun j hj=>absurd hj (Nat.not_lt_zero _),h1.alloc _,h2.congr (fun j _=>by simp[kT]),fun j hj=>absurd hj (Nat.not_lt_zero _)⟩
theorem FL {w wr:World} {B:Nat→Value} {R:Nat→Nat} {n m i:Nat} {Z:Nat→Nat→Int} (h:NF w wr B R n m i Z): ∃R',R' i=wr.heap.size∧qA w ((wr.alloc (.cells (madeCells #[.int .i64 0] (m+1)) 3)).setCell ⟨w.heap.size+1,i,none⟩ (.slice (some ⟨wr.heap.size,0,none⟩) (m+1) (m+1))) B R' n m i 0 Z:=by
 have hnew:=World.rowIs_made wr (.int .i64 0) (m+1) 3;have hsz:=h.size;(have h1:(fun j=>if j=i then wr.heap.size else R j) i=wr.heap.size:=by simp);(have h2: ∀j,j<i→(fun j=>if j=i then wr.heap.size else R j) j=R j:=fun j hj=>by simp[show j≠i by omega])
 (have hsn:((wr.alloc (.cells (madeCells #[.int .i64 0] (m+1)) 3)).setCell ⟨w.heap.size+1,i,none⟩ (.slice (some ⟨wr.heap.size,0,none⟩) (m+1) (m+1))).heap.size=wr.heap.size+1:=by simp)
 refine⟨fun j=>if j=i then wr.heap.size else R j,h1,?_⟩;generalize(fun j=>if j=i then wr.heap.size else R j)=R' at h1 h2;refine⟨(h.since.alloc (by omega) _).setCell (by show w.heap.size≤w.heap.size+1;omega) _,by rw[hsn];omega,fun j hj=>?_,fun j hj=>?_,(h.box.alloc _).setOther (by show w.heap.size≠w.heap.size+1;omega) _,((h.top.alloc _).set i _).congr (fun j _=>?_),fun j hj=>?_,?_⟩
 (·rw[hsn];by_cases e:j=i;(·subst e;rw[h1];omega);·rw[h2 j (by omega)];have:=h.lo j (by omega);omega);(·rw[h1,h2 j hj];have:=(h.lo j hj).2;omega);(·simp only[kT];by_cases e:j=i;(·subst e;rw[if_pos rfl,if_pos (by omega),h1]);·rw[if_neg e];by_cases hlt:j<i;(·rw[if_pos hlt,if_pos (by omega),h2 j hlt]);·rw[if_neg hlt,if_neg (by omega)])
 (·rw[h2 j hj];have:=(h.lo j hj).1;exact((h.done j hj).alloc _).setOther (by show R j≠w.heap.size+1;omega) _);·rw[h1];exact(hnew.setOther (by show wr.heap.size≠w.heap.size+1;omega) _).congr (fun j _=>by simp)
theorem br {w wi:World} {B:Nat→Value} {R:Nat→Nat} {n m i k:Nat} {Z:Nat→Nat→Int} (h:qA w wi B R n m i k Z)(x:Int)(hx:x=Z i k):qA w (wi.setCell ⟨R i,k,none⟩ (.int .i64 x)) B R n m i (k+1) Z:=by
 subst hx;have hl:=h.lo i (by omega);refine⟨h.since.setCell (by show w.heap.size≤R i;omega) _,by have:=h.size;simpa using this,fun j hj=>by have:=h.lo j hj;simpa using this,h.ne,h.box.setOther (by show w.heap.size≠R i;omega) _,h.top.setOther (by show w.heap.size+1≠R i;omega) _,fun j hj=>(h.done j hj).setOther (h.ne j hj) _,(h.cur.set k _).congr (fun j _=>?_)⟩
 by_cases e:j=k;(·subst e;simp);·rw[if_neg e];by_cases hlt:j<k;(·rw[if_pos hlt,if_pos (by omega)]);·rw[if_neg hlt,if_neg (by omega)]
theorem Dm {w wi:World} {B:Nat→Value} {R:Nat→Nat} {n m i:Nat} {Z:Nat→Nat→Int} (h:qA w wi B R n m i (m+1) Z):NF w wi B R n m (i+1) Z:=⟨h.since,h.size,h.lo,h.box,h.top,fun j hj=>by by_cases e:j=i;(·subst e;exact h.cur.congr (fun i hi=>by rw[if_pos hi]));·exact h.done j (by omega)⟩
theorem qA.drew {w wi:World} {B:Nat→Value} {R:Nat→Nat} {n m i k:Nat} {Z:Nat→Nat→Int} (h:qA w wi B R n m i k Z):qA w wi.drew B R n m i k Z:=⟨h.since.drew,h.size,h.lo,h.ne,h.box,h.top,h.done,h.cur⟩
theorem qA.eE {w wi w6:World} {B:Nat→Value} {R:Nat→Nat} {n m i k:Nat} {Z:Nat→Nat→Int} (h:qA w wi B R n m i k Z)(hb:wi.Since wi.heap.size w6):qA w w6 B R n m i k Z:=by
 have hsz:=h.size;have hs:=hb.size;refine⟨⟨hb.os.trans h.since.os,hb.tape.trans h.since.tape,hb.output.trans h.since.output,Nat.le_trans h.since.size hs,fun j hj=>(hb.block j (by omega)).trans (h.since.block j hj)⟩,by omega,fun j hj=>⟨(h.lo j hj).1,Nat.lt_of_lt_of_le (h.lo j hj).2 hs⟩,h.ne,h.box.of_block (hb.block _ (by omega)),h.top.of_block (hb.block _ (by omega)),fun j hj=>(h.done j hj).of_block (hb.block _ (h.lo j (by omega)).2),h.cur.of_block (hb.block _ (h.lo i (by omega)).2)⟩
theorem dk {P:Program} {ops:Array Oper} {o:Oper} {a:Act} {w:World} {K:Act→World→Prop} {Q:Exit→Act→World→Prop} {E:Prop} (hg:o.guard=none)(f:FuncId)(fn:Func)(hf:P.funcs[f]?=some fn)(hn:fn.name≠ "runtime.NumGoroutine")(hb:fn.body≠none)(xs:Array Operand)(ts:Array TypeId)(hop:o.op=Op.call { callee:=Callee.value (Operand.func f),args:=xs,argTypes:=ts })(vs:Array Value)(v:Value) {T:World→Prop} (hv:xs.map a.eval=vs)(hc:Calls P f vs w fun e w'=>e= .returned v∧T w')(hK: ∀w',T w'→K (a.put o.dst v) w'):if Region.wanted o (yielded ops a.tmps)=true then Oper.wp P o a w K Q else E:=by
 (have hw:Region.wanted o (yielded ops a.tmps)=true:=by simp[Region.wanted,hg]);rw[if_pos hw];unfold Oper.wp;(have:(execOp a.eval o).run P w= .ok (.enter f vs) w:=by rw[←hv];simp[execOp,hop,resolve,invoke,Act.eval,Sem.run,Deferred.ofValue,callFunc,Result.andThen,hf,hn,hb])
 rw[this,Oper.upon_enter];refine hc.mono ?_;rintro e w'⟨rfl,ht⟩;exact hK w' ht
theorem Pp:Try.f16.body.isSome=true:=by kernel_rfl
theorem AD:Try.f16.body≠none:=fun h=>by have:=Pp;rw[h]at this;cases this
theorem AE:Try.f16.name≠ "runtime.NumGoroutine" :=by decide
theorem wrap_small {x:Int} (h1:0≤x)(h2:x≤100000000):IntKind.i64.wrap x=x:=by
 (have e:x%(2^IntKind.i64.bits:Int)=x:=by show x%2^64=x;omega);unfold IntKind.wrap;simp only[e];rw[if_neg];show¬(true&&decide (x≥2^63))=true;simp;omega
theorem via {P:Program} {c:Code} {Q:Exit→Act→World→Prop} {a:Act} {w:World} (A:Act)(T:World→Prop)(h1:c.wp P (fun e a w6=>match e with|.normal=>a=A∧T w6|_=>False) a w)(h2: ∀w6,T w6→Q .normal A w6):c.wp P Q a w:=Go.wp_mono h1 (fun e a w6 hq=>by cases e with|normal=>obtain⟨rfl,ht⟩:=hq;exact h2 _ ht|_=>exact hq.elim)
def Kc(c0 c1 c2 c3:Int)(ad:Option Addr)(al cap:Nat):Nat→Value:=fun i=>(#[.int .i64 c0,.int .i64 c1,.int .i64 c2,.int .i64 c3,.slice ad al cap]:Array Value).getD i undef
theorem kO {P:Program} {md:Region.Mode} {ops:Array Oper} {Q:Exit→Act→World→Prop} {fuel:Nat} {listed:Array Bool} {a:Act} {w:World} (h: ∀a0,a0=a→wpAny P md ops Q fuel listed a0 w):wpAny P md ops Q fuel listed a w:=h a rfl
theorem ab {a a1:Act} {d:Nat} {v:Value} (h:a1=a.put (some d) v)(t:Nat)(x:Value)(hn:(d==t)=false)(hx:a.tmps.getD t undef=x):a1.tmps.getD t undef=x:=by
 subst h;rw[←hx];(have hn:d≠t:=by simpa using hn);simp[Act.put,Array.getD_eq_getD_getElem?,Array.getElem?_setIfInBounds_ne hn]
theorem put_eq {a a1:Act} {d n:Nat} {v:Value} (h:a1=a.put (some d) v)(hs:a.tmps.size=n)(hd:Nat.blt d n=true):a1.tmps.getD d undef=v:=by
 subst h;(have hd:d<a.tmps.size:=by rw[hs];rwa[Nat.blt_eq]at hd);simp[Act.put,Array.getD_eq_getD_getElem?,hd]
theorem ah {a a1:Act} {d n:Nat} {v:Value} (h:a1=a.put (some d) v)(hs:a.tmps.size=n):a1.tmps.size=n:=by subst h;rw[←hs];simp[Act.put]
theorem ag {ops:Array Oper} {a:Act} {j d n:Nat} {b:Bool} (h:(ops[j]?).bind (fun o=>o.dst)=some d)(hs:a.tmps.size=n)(hd:Nat.blt d n=true)(hv:a.tmps.getD d undef= .bool b):yielded ops a.tmps j=some b:=by
 (have hd:d<a.tmps.size:=by rw[hs];rwa[Nat.blt_eq]at hd);(have h1:a.tmps[d]?=some (.bool b):=by rw[Array.getElem?_eq_getElem hd];rw[Array.getD_eq_getD_getElem?,Array.getElem?_eq_getElem hd]at hv;exact congrArg some hv)
 simp[yielded,h,h1]
theorem bO {P:Program} {md:Region.Mode} {ops:Array Oper} {Q:Exit→Act→World→Prop} {i d:Nat} {op:Op} {ty:TypeId} {pos:String} {af:Array Edge} {v:Value} {fuel:Nat} {listed:Array Bool} {a:Act} {w:World} (hi:ops[i]?=some ⟨some d,op,ty,pos,af,none⟩)(hs:Region.noSelect ops=true)(hf:Region.free md ops listed i=true)(hr:(Region.ready md ops listed).contains i=true)(hQ: ∀c a w,Q (.panic c) (a.put (some d) v) w→Q (.panic c) a w)(hy: ∀w,(execOp a.eval ⟨some d,op,ty,pos,af,none⟩).run P w= .ok (.value v) w)(h: ∀a1,a1=a.put (some d) v→wpAny P md ops Q fuel (listed.setIfInBounds i true) a1 w):wpAny P md ops Q (fuel+1) listed a w:=wpAny_take hi hs hf hr hQ (Or.inl ⟨rfl,hy⟩) (h _ rfl)
theorem aD {P:Program} {md:Region.Mode} {ops:Array Oper} {Q:Exit→Act→World→Prop} {i j d:Nat} {op:Op} {ty:TypeId} {pos:String} {af:Array Edge} {v:Value} {fuel:Nat} {listed:Array Bool} {a:Act} {w:World} (hi:ops[i]?=some ⟨some d,op,ty,pos,af,some (j,true)⟩)(hs:Region.noSelect ops=true)(hf:Region.free md ops listed i=true)(hr:(Region.ready md ops listed).contains i=true)(hQ: ∀c a w,Q (.panic c) (a.put (some d) v) w→Q (.panic c) a w)(hj:yielded ops a.tmps j=some true)(hy: ∀w,(execOp a.eval ⟨some d,op,ty,pos,af,some (j,true)⟩).run P w= .ok (.value v) w)(h: ∀a1,a1=a.put (some d) v→wpAny P md ops Q fuel (listed.setIfInBounds i true) a1 w):wpAny P md ops Q (fuel+1) listed a w:=wpAny_take hi hs hf hr hQ (Or.inl ⟨by simp[Region.wanted,hj],hy⟩) (h _ rfl)
theorem takeN {P:Program} {md:Region.Mode} {ops:Array Oper} {Q:Exit→Act→World→Prop} {i j d:Nat} {op:Op} {ty:TypeId} {pos:String} {af:Array Edge} {fuel:Nat} {listed:Array Bool} {a:Act} {w:World} (hi:ops[i]?=some ⟨some d,op,ty,pos,af,some (j,true)⟩)(hs:Region.noSelect ops=true)(hf:Region.free md ops listed i=true)(hr:(Region.ready md ops listed).contains i=true)(hQ: ∀c a w,Q (.panic c) (a.put (some d) undef) w→Q (.panic c) a w)(hj:yielded ops a.tmps j=some false)(h: ∀a1,a1=a.put (some d) undef→wpAny P md ops Q fuel (listed.setIfInBounds i true) a1 w):wpAny P md ops Q (fuel+1) listed a w:=wpAny_take hi hs hf hr hQ (Or.inr ⟨by simp[Region.wanted,hj],rfl⟩) (h _ rfl)
theorem M4 (c0 c1 c2 c3 : Int) (ad : Option Addr) (al cap : Nat) (typed meant : ByteArray) (w : World) (Z : Nat → Nat → Int)
    (hn9 : meant.size ≤ 1000) (hm9 : typed.size ≤ 1000) (p : UInt8 → UInt8 → Int)
    (hc0 : 0 ≤ c0 ∧ c0 ≤ 1000) (hc1 : 0 ≤ c1 ∧ c1 ≤ 1000) (hc2 : 0 ≤ c2 ∧ c2 ≤ 1000) (hp : ∀ x y, 0 ≤ p x y ∧ p x y ≤ 1000)
    (hle : ∀ i k : Nat, i ≤ meant.size → k ≤ typed.size → 0 ≤ Z i k ∧ Z i k ≤ (i : Int) * c1 + (k : Int) * c2)
    (z00 : Z 0 0 = 0) (z0s : ∀ k, k < typed.size → Z 0 (k + 1) = Z 0 k + c2) (zs0 : ∀ i, i < meant.size → Z (i + 1) 0 = Z i 0 + c1)
    (zss : ∀ i k (h1 : i < meant.size) (h2 : k < typed.size), (∀ i' k' (h3 : i = i' + 1) (h4 : k = k' + 1), ¬ (meant[i]'h1 = typed[k']'(by omega) ∧ meant[i']'(by omega) = typed[k]'h2 ∧ meant[i]'h1 ≠ meant[i']'(by omega))) →
      Z (i + 1) (k + 1) = min (min (Z i (k + 1) + c1) (Z (i + 1) k + c2)) (Z i k + p (meant[i]'h1) (typed[k]'h2)))
    (zsw : ∀ i k (h1 : i + 1 < meant.size) (h2 : k + 1 < typed.size), (meant[i + 1]'h1 = typed[k]'(by omega) ∧ meant[i]'(by omega) = typed[k + 1]'h2 ∧ meant[i + 1]'h1 ≠ meant[i]'(by omega)) →
      Z (i + 2) (k + 2) = min (min (min (Z (i + 1) (k + 2) + c1) (Z (i + 2) (k + 1) + c2)) (Z (i + 1) (k + 1) + p (meant[i + 1]'h1) (typed[k + 1]'h2))) (Z i k + c0))
    (hput : ∀ (w1 : World) (x y : UInt8), w.Since w.heap.size w1 → Calls Try.prog 16 #[.agg #[.int .i64 c0, .int .i64 c1, .int .i64 c2, .int .i64 c3, .slice ad al cap], .int .u8 x.toNat, .int .u8 y.toNat] w1 fun e w' => e = .returned (.int .i64 (p x y)) ∧ w1.Since w1.heap.size w') :
    Calls Try.prog 9 #[.agg #[.int .i64 c0, .int .i64 c1, .int .i64 c2, .int .i64 c3, .slice ad al cap], .string typed, .string meant] w fun e w' => e = .returned (.int .i64 (Z meant.size typed.size)) ∧ w.Since w.heap.size w' := by
  have hmk64 := run_make_row' (P := Try.prog) 52 50 (.slice none 0 0) 24 Kb FK rfl .i64 .i64 (meant.size + 1) (by omega) (by omega)
  have hmk62 := run_make_row' (P := Try.prog) 50 3 (.int .i64 0) 8 Ka M3 rfl .i64 .i64 (typed.size + 1) (by omega) (by omega)
  rw [show ((meant.size + 1 : Nat) : Int) = (meant.size : Int) + 1 from rfl] at hmk64
  rw [show ((typed.size + 1 : Nat) : Int) = (typed.size : Int) + 1 from rfl] at hmk62
  go_enter Try.func9, Try.ntmps9
  go_wp2
  go_loopg [8] (meant.size + 1) (fun g i wr => ∃ (k : Nat) (R : Nat → Nat), k ≤ meant.size + 1 ∧ g = meant.size + 1 - k ∧ i = .int .i64 k ∧ NF w wr (Kc c0 c1 c2 c3 ad al cap) R meant.size typed.size k Z)
  case atStart => exact ⟨0, id, Nat.zero_le _, rfl, rfl, AA w _ _ (fun i hi => by rw [Array.getElem?_eq_getElem hi]; simp only [Kc, Array.getD, hi, dite_true]; rfl) rfl _ _ _ _⟩
  case round =>
    obtain ⟨i, R, hi, rfl, rfl, hO⟩ := hrel
    have hsize := hO.size
    by_cases hlt : i < meant.size + 1
    · have hle0 : i ≤ meant.size := by omega
      have hst1 : ∀ o, (wr.alloc o).cell? ⟨w.heap.size + 1, i, none⟩ = some (kT R typed.size i i) := fun o => (hO.top.alloc o).cell hlt
      have hst2 : ∀ o, (wr.alloc o).frozen? ⟨w.heap.size + 1, i, none⟩ = false := fun o => (hO.top.alloc o).frozen i
      go_wp2
      obtain ⟨R', -, hI0⟩ := FL hO
      clear hst1 hst2 hsize hO hmk62 hmk64
      go_loopg [9] (typed.size + 1) (fun g x wi => ∃ k : Nat, k ≤ typed.size + 1 ∧ g = typed.size + 1 - k ∧ x = .int .i64 k ∧ qA w wi (Kc c0 c1 c2 c3 ad al cap) R' meant.size typed.size i k Z)
      case atStart => exact ⟨0, Nat.zero_le _, rfl, rfl, hI0⟩
      case round =>
        obtain ⟨k, hk, rfl, rfl, hI⟩ := hrel
        clear hI0
        by_cases hkt : k < typed.size + 1
        · have b0 : wr.cell? ⟨w.heap.size, 0, none⟩ = some (.int .i64 c0) := hI.box.cell (i := 0) (by decide)
          have b1 : wr.cell? ⟨w.heap.size, 1, none⟩ = some (.int .i64 c1) := hI.box.cell (i := 1) (by decide)
          have b2 : wr.cell? ⟨w.heap.size, 2, none⟩ = some (.int .i64 c2) := hI.box.cell (i := 2) (by decide)
          have b3 : wr.cell? ⟨w.heap.size, 3, none⟩ = some (.int .i64 c3) := hI.box.cell (i := 3) (by decide)
          have b4 : wr.cell? ⟨w.heap.size, 4, none⟩ = some (.slice ad al cap) := hI.box.cell (i := 4) (by decide)
          have t0 : wr.cell? ⟨w.heap.size + 1, i, none⟩ = some (.slice (some ⟨R' i, 0, none⟩) (typed.size + 1) (typed.size + 1)) := by simpa [kT] using hI.top.cell (i := i) hlt
          have s0 : wr.cell? ⟨R' i, k, none⟩ = some (.int .i64 0) := by simpa using hI.cur.cell hkt
          have s1 : wr.frozen? ⟨R' i, k, none⟩ = false := hI.cur.frozen k
          have prod : ∀ a : Nat, a ≤ 1000 → ∀ c : Int, 0 ≤ c ∧ c ≤ 1000 → 0 ≤ (a : Int) * c ∧ (a : Int) * c ≤ 1000000 := fun a ha c hc => by
            refine ⟨Int.mul_nonneg (by omega) hc.1, ?_⟩
            calc (a : Int) * c ≤ 1000 * 1000 := Int.mul_le_mul (by omega) hc.2 hc.1 (by omega)
              _ = 1000000 := by decide
          rcases i with _ | i
          · rcases k with _ | k
            · skip
              go_wp2
              go_region
              go_wp2
              go_roundg (typed.size + 1 - 1)
              case measure => omega
              case rel => exact ⟨1, by omega, by omega, rfl, (br hI 0 z00.symm).drew⟩
            · skip
              have d3 : wr.cell? ⟨R' 0, k, none⟩ = some (.int .i64 (Z 0 k)) := by
                have := hI.cur.cell (i := k) (by omega)
                simpa using this
              have hz := z0s k (by omega)
              have hb1 := hle 0 k (by omega) (by omega)
              have hb2 := hle 0 (k + 1) (by omega) (by omega)
              have hb3 := prod (k + 1) (by omega) c2 hc2
              have hb4 := prod k (by omega) c2 hc2
              go_wp2
              go_region
              go_wp2
              go_region
              go_wp2
              go_roundg (typed.size + 1 - (k + 2))
              case measure => omega
              case rel =>
                refine ⟨k + 2, by omega, by omega, by congr 1, ?_⟩
                first | refine (br hI _ ?_).drew | refine (br hI _ ?_).drew.drew
                simp only [Int.natCast_add, Int.natCast_one, Int.natCast_zero, Int.zero_mul, Int.zero_add] at hb1 hb2 hb3 hb4
                rw [IntWalk.wrap64_in (((k : Int) + 1) * c2) ⟨by omega, by omega⟩, IntWalk.wrap64_in (((k : Int) + 1) * c2) ⟨by omega, by omega⟩, hz]
                have e : ((k : Int) + 1) * c2 = (k : Int) * c2 + c2 := by rw [Int.add_mul, Int.one_mul]
                omega
          · have t1 : wr.cell? ⟨w.heap.size + 1, i, none⟩ = some (.slice (some ⟨R' i, 0, none⟩) (typed.size + 1) (typed.size + 1)) := by
              have := hI.top.cell (i := i) (by omega)
              simpa [kT, show i < i + 1 + 1 by omega] using this
            have d1 : wr.cell? ⟨R' i, k, none⟩ = some (.int .i64 (Z i k)) := (hI.done i (by omega)).cell hkt
            rcases k with _ | k
            · skip
              rcases i with _ | i
              · skip
                have hz := zs0 0 (by omega)
                have hb1 := hle 0 0 (by omega) (by omega)
                have hb3 := prod (0 + 1) (by omega) c1 hc1
                have hb4 := prod 0 (by omega) c1 hc1
                go_wp2
                go_region
                go_wp2
                go_region
                go_wp2
                go_roundg (typed.size + 1 - 1)
                case measure => omega
                case rel =>
                  refine ⟨1, by omega, by omega, rfl, ?_⟩
                  first | refine (br hI _ ?_).drew | refine (br hI _ ?_).drew.drew
                  rw [hz, z00]
                  omega
              · have gi : (1 : Int) < (i : Int) + 1 + 1 := by omega
                have hz := zs0 (i + 1) (by omega)
                have hb1 := hle (i + 1) 0 (by omega) (by omega)
                have hb3 := prod ((i + 1) + 1) (by omega) c1 hc1
                have hb4 := prod (i + 1) (by omega) c1 hc1
                go_wp2
                go_region
                go_wp2
                go_region
                go_wp2
                go_roundg (typed.size + 1 - 1)
                case measure => omega
                case rel =>
                  refine ⟨1, by omega, by omega, rfl, ?_⟩
                  first | refine (br hI _ ?_).drew | refine (br hI _ ?_).drew.drew
                  simp only [Int.natCast_add, Int.natCast_one, Int.natCast_zero, Int.zero_mul, Int.add_zero] at hb1 hb3 hb4
                  have e : ((i : Int) + 1 + 1) * c1 = ((i : Int) + 1) * c1 + c1 := by rw [Int.add_mul ((i : Int) + 1) 1 c1, Int.one_mul]
                  rw [IntWalk.wrap64_in (((i : Int) + 1 + 1) * c1) ⟨by omega, by omega⟩, IntWalk.wrap64_in (((i : Int) + 1 + 1) * c1) ⟨by omega, by omega⟩, hz]
                  omega
            · skip
              have d2 : wr.cell? ⟨R' i, k, none⟩ = some (.int .i64 (Z i k)) := (hI.done i (by omega)).cell (by omega)
              have d3 : wr.cell? ⟨R' (i + 1), k, none⟩ = some (.int .i64 (Z (i + 1) k)) := by
                have := hI.cur.cell (i := k) (by omega)
                simpa using this
              have hB0 : w.Since w.heap.size wr.drew.drew.drew := hI.since.drew.drew.drew
              have wi : IntKind.i64.wrap ((i : Nat) : Int) = ((i : Nat) : Int) := wrap_small (by omega) (by omega)
              have wk : IntKind.i64.wrap ((k : Nat) : Int) = ((k : Nat) : Int) := wrap_small (by omega) (by omega)
              have pi : ((i : Nat) : Int) < (meant.size : Int) := by omega
              have pk : ((k : Nat) : Int) < (typed.size : Int) := by omega
              have qi : ((i : Nat) : Int) < (meant.size : Int) + 1 := by omega
              have qk : ((k : Nat) : Int) < (typed.size : Int) + 1 := by omega
              go_wp2
              go_region
              go_wp2
              go_region
              go_wp2
              apply via (T := fun w6 => wr.Since wr.heap.size w6)
              case h1 =>
                refine wp_region_any (by kernel_rfl) ?_
                change wpAny _ _ _ _ _ _ _ (World.drew _)
                refine wpAny_take (i := 0) (v := ?v1) rfl (by kernel_rfl) (by kernel_rfl) (by kernel_rfl) (fun _ _ _ h => h) (Or.inl ⟨by rfl, ?y1⟩) ?k1
                case y1 => first | (intro w; go_simp; done) | (intro w; go_simp; with_reducible rfl)
                refine wpAny_take (i := 1) (v := ?v2) rfl (by kernel_rfl) (by kernel_rfl) (by kernel_rfl) (fun _ _ _ h => h) (Or.inl ⟨by rfl, ?y2⟩) ?k2
                case y2 => first | (intro w; go_simp; done) | (intro w; go_simp; with_reducible rfl)
                refine wpAny_take (i := 2) (v := ?v3) rfl (by kernel_rfl) (by kernel_rfl) (by kernel_rfl) (fun _ _ _ h => h) (Or.inl ⟨by rfl, ?y3⟩) ?k3
                case y3 => first | (intro w; go_simp; done) | (intro w; go_simp; with_reducible rfl)
                refine wpAny_take (i := 3) (v := ?v4) rfl (by kernel_rfl) (by kernel_rfl) (by kernel_rfl) (fun _ _ _ h => h) (Or.inl ⟨by rfl, ?y4⟩) ?k4
                case y4 => first | (intro w; go_simp; done) | (intro w; go_simp; with_reducible rfl)
                refine wpAny_take (i := 4) (v := ?v5) rfl (by kernel_rfl) (by kernel_rfl) (by kernel_rfl) (fun _ _ _ h => h) (Or.inl ⟨by rfl, ?y5⟩) ?k5
                case y5 => first | (intro w; go_simp; done) | (intro w; go_simp; with_reducible rfl)
                refine wpAny_take (i := 6) (v := ?v6) rfl (by kernel_rfl) (by kernel_rfl) (by kernel_rfl) (fun _ _ _ h => h) (Or.inl ⟨by rfl, ?y6⟩) ?k6
                case y6 => first | (intro w; go_simp; done) | (intro w; go_simp; with_reducible rfl)
                refine wpAny_take (i := 7) (v := ?v7) rfl (by kernel_rfl) (by kernel_rfl) (by kernel_rfl) (fun _ _ _ h => h) (Or.inl ⟨by rfl, ?y7⟩) ?k7
                case y7 => first | (intro w; go_simp; done) | (intro w; go_simp; with_reducible rfl)
                refine wpAny_take (i := 11) (v := ?v8) rfl (by kernel_rfl) (by kernel_rfl) (by kernel_rfl) (fun _ _ _ h => h) (Or.inl ⟨by rfl, ?y8⟩) ?k8
                case y8 => first | (intro w; go_simp; done) | (intro w; go_simp; with_reducible rfl)
                refine wpAny_take (i := 12) (v := ?v9) rfl (by kernel_rfl) (by kernel_rfl) (by kernel_rfl) (fun _ _ _ h => h) (Or.inl ⟨by rfl, ?y9⟩) ?k9
                case y9 => first | (intro w; go_simp; done) | (intro w; go_simp; with_reducible rfl)
                refine wpAny_take (i := 13) (v := ?v10) rfl (by kernel_rfl) (by kernel_rfl) (by kernel_rfl) (fun _ _ _ h => h) (Or.inl ⟨by rfl, ?y10⟩) ?k10
                case y10 => first | (intro w; go_simp; done) | (intro w; go_simp; with_reducible rfl)
                refine wpAny_take (i := 14) (v := ?v11) rfl (by kernel_rfl) (by kernel_rfl) (by kernel_rfl) (fun _ _ _ h => h) (Or.inl ⟨by rfl, ?y11⟩) ?k11
                case y11 => first | (intro w; go_simp; done) | (intro w; go_simp; with_reducible rfl)
                refine wpAny_take (i := 15) (v := ?v12) rfl (by kernel_rfl) (by kernel_rfl) (by kernel_rfl) (fun _ _ _ h => h) (Or.inl ⟨by rfl, ?y12⟩) ?k12
                case y12 => first | (intro w; go_simp; done) | (intro w; go_simp; with_reducible rfl)
                refine wpAny_take (i := 16) (v := ?v13) rfl (by kernel_rfl) (by kernel_rfl) (by kernel_rfl) (fun _ _ _ h => h) (Or.inl ⟨by rfl, ?y13⟩) ?k13
                case y13 => first | (intro w; go_simp; done) | (intro w; go_simp; with_reducible rfl)
                refine wpAny_take (i := 17) (v := ?v14) rfl (by kernel_rfl) (by kernel_rfl) (by kernel_rfl) (fun _ _ _ h => h) (Or.inl ⟨by rfl, ?y14⟩) ?k14
                case y14 => first | (intro w; go_simp; done) | (intro w; go_simp; with_reducible rfl)
                refine wpAny_take (i := 18) (v := ?v15) rfl (by kernel_rfl) (by kernel_rfl) (by kernel_rfl) (fun _ _ _ h => h) (Or.inl ⟨by rfl, ?y15⟩) ?k15
                case y15 => first | (intro w; go_simp; done) | (intro w; go_simp; with_reducible rfl)
                refine wpAny_ready (rs := [5, 10]) (by kernel_rfl) (by simp) ?_
                refine AllReady.cons rfl (fun K hK => ?_) ?_
                · skip
                  go_simp
                  refine hK _ _ ?_; clear hK K
                  refine wpAny_take (i := 8) (v := ?v16) rfl (by kernel_rfl) (by kernel_rfl) (by kernel_rfl) (fun _ _ _ h => h) (Or.inl ⟨by rfl, ?y16⟩) ?k16
                  case y16 => first | (intro w; go_simp; done) | (intro w; go_simp; with_reducible rfl)
                  refine wpAny_ready (rs := [9, 10]) (by kernel_rfl) (by simp) ?_
                  refine AllReady.cons rfl (fun K hK => ?_) ?_
                  · skip
                    go_simp
                    refine hK _ _ ?_; clear hK K
                    refine wpAny_ready (rs := [10]) (by kernel_rfl) (by simp) ?_
                    refine AllReady.cons rfl (fun K hK => ?_) ?_
                    · skip
                      go_simp
                      refine hK _ _ ?_; clear hK K
                      refine wpAny_ready (rs := [19]) (by kernel_rfl) (by simp) ?_
                      refine AllReady.cons rfl (fun K hK => ?_) ?_
                      · skip
                        refine dk rfl 16 Try.f16 Try.func16 AE AD _ _ rfl #[.agg #[.int .i64 c0, .int .i64 c1, .int .i64 c2, .int .i64 c3, .slice ad al cap], .int .u8 (meant[i]'(by omega)).toNat, .int .u8 (typed[k]'(by omega)).toNat] (.int .i64 (p (meant[i]'(by omega)) (typed[k]'(by omega)))) ?hv17 (hput _ _ _ hB0) ?hk17
                        case hv17 => simp [Act.eval, Act.put]
                        intro w6 hb6
                        have m1 : w6.cell? ⟨w.heap.size + 1, i, none⟩ = some (.slice (some ⟨R' i, 0, none⟩) (typed.size + 1) (typed.size + 1)) := by have := (hI.drew.drew.drew.eE hb6).top.cell (i := i) (by omega); simpa [kT, show i < i + 1 + 1 by omega] using this
                        have m2 : w6.cell? ⟨R' i, k, none⟩ = some (.int .i64 (Z i k)) := ((hI.drew.drew.drew.eE hb6).done i (by omega)).cell (by omega)
                        refine hK _ _ ?_; clear hK K
                        refine wpAny_take (i := 20) (v := ?v18) rfl (by kernel_rfl) (by kernel_rfl) (by kernel_rfl) (fun _ _ _ h => h) (Or.inl ⟨by rfl, ?y18⟩) ?k18
                        case y18 => first | (intro w; go_simp; done) | (intro w; go_simp; with_reducible rfl)
                        refine wpAny_take (i := 21) (v := ?v19) rfl (by kernel_rfl) (by kernel_rfl) (by kernel_rfl) (fun _ _ _ h => h) (Or.inl ⟨by rfl, ?y19⟩) ?k19
                        case y19 => first | (intro w; go_simp; done) | (intro w; go_simp; with_reducible rfl)
                        refine wpAny_ready (rs := [22]) (by kernel_rfl) (by simp) ?_
                        refine AllReady.cons rfl (fun K hK => ?_) AllReady.nil
                        go_simp
                        refine hK _ _ ?_; clear hK K
                        refine wpAny_done (by kernel_rfl) ?_ _
                        exact ⟨rfl, ⟨hb6.os, hb6.tape, hb6.output, hb6.size, hb6.block⟩⟩
                      exact AllReady.nil
                    exact AllReady.nil
                  refine AllReady.cons rfl (fun K hK => ?_) ?_
                  · skip
                    go_simp
                    refine hK _ _ ?_; clear hK K
                    refine wpAny_ready (rs := [9, 19]) (by kernel_rfl) (by simp) ?_
                    refine AllReady.cons rfl (fun K hK => ?_) ?_
                    · skip
                      go_simp
                      refine hK _ _ ?_; clear hK K
                      refine wpAny_ready (rs := [19]) (by kernel_rfl) (by simp) ?_
                      refine AllReady.cons rfl (fun K hK => ?_) ?_
                      · skip
                        refine dk rfl 16 Try.f16 Try.func16 AE AD _ _ rfl #[.agg #[.int .i64 c0, .int .i64 c1, .int .i64 c2, .int .i64 c3, .slice ad al cap], .int .u8 (meant[i]'(by omega)).toNat, .int .u8 (typed[k]'(by omega)).toNat] (.int .i64 (p (meant[i]'(by omega)) (typed[k]'(by omega)))) ?hv20 (hput _ _ _ hB0) ?hk20
                        case hv20 => simp [Act.eval, Act.put]
                        intro w6 hb6
                        have m1 : w6.cell? ⟨w.heap.size + 1, i, none⟩ = some (.slice (some ⟨R' i, 0, none⟩) (typed.size + 1) (typed.size + 1)) := by have := (hI.drew.drew.drew.eE hb6).top.cell (i := i) (by omega); simpa [kT, show i < i + 1 + 1 by omega] using this
                        have m2 : w6.cell? ⟨R' i, k, none⟩ = some (.int .i64 (Z i k)) := ((hI.drew.drew.drew.eE hb6).done i (by omega)).cell (by omega)
                        refine hK _ _ ?_; clear hK K
                        refine wpAny_take (i := 20) (v := ?v21) rfl (by kernel_rfl) (by kernel_rfl) (by kernel_rfl) (fun _ _ _ h => h) (Or.inl ⟨by rfl, ?y21⟩) ?k21
                        case y21 => first | (intro w; go_simp; done) | (intro w; go_simp; with_reducible rfl)
                        refine wpAny_take (i := 21) (v := ?v22) rfl (by kernel_rfl) (by kernel_rfl) (by kernel_rfl) (fun _ _ _ h => h) (Or.inl ⟨by rfl, ?y22⟩) ?k22
                        case y22 => first | (intro w; go_simp; done) | (intro w; go_simp; with_reducible rfl)
                        refine wpAny_ready (rs := [22]) (by kernel_rfl) (by simp) ?_
                        refine AllReady.cons rfl (fun K hK => ?_) AllReady.nil
                        go_simp
                        refine hK _ _ ?_; clear hK K
                        refine wpAny_done (by kernel_rfl) ?_ _
                        exact ⟨rfl, ⟨hb6.os, hb6.tape, hb6.output, hb6.size, hb6.block⟩⟩
                      exact AllReady.nil
                    refine AllReady.cons rfl (fun K hK => ?_) ?_
                    · skip
                      refine dk rfl 16 Try.f16 Try.func16 AE AD _ _ rfl #[.agg #[.int .i64 c0, .int .i64 c1, .int .i64 c2, .int .i64 c3, .slice ad al cap], .int .u8 (meant[i]'(by omega)).toNat, .int .u8 (typed[k]'(by omega)).toNat] (.int .i64 (p (meant[i]'(by omega)) (typed[k]'(by omega)))) ?hv23 (hput _ _ _ hB0) ?hk23
                      case hv23 => simp [Act.eval, Act.put]
                      intro w6 hb6
                      have m1 : w6.cell? ⟨w.heap.size + 1, i, none⟩ = some (.slice (some ⟨R' i, 0, none⟩) (typed.size + 1) (typed.size + 1)) := by have := (hI.drew.drew.drew.eE hb6).top.cell (i := i) (by omega); simpa [kT, show i < i + 1 + 1 by omega] using this
                      have m2 : w6.cell? ⟨R' i, k, none⟩ = some (.int .i64 (Z i k)) := ((hI.drew.drew.drew.eE hb6).done i (by omega)).cell (by omega)
                      refine hK _ _ ?_; clear hK K
                      refine wpAny_ready (rs := [9]) (by kernel_rfl) (by simp) ?_
                      refine AllReady.cons rfl (fun K hK => ?_) ?_
                      · skip
                        go_simp
                        refine hK _ _ ?_; clear hK K
                        refine wpAny_take (i := 20) (v := ?v24) rfl (by kernel_rfl) (by kernel_rfl) (by kernel_rfl) (fun _ _ _ h => h) (Or.inl ⟨by rfl, ?y24⟩) ?k24
                        case y24 => first | (intro w; go_simp; done) | (intro w; go_simp; with_reducible rfl)
                        refine wpAny_take (i := 21) (v := ?v25) rfl (by kernel_rfl) (by kernel_rfl) (by kernel_rfl) (fun _ _ _ h => h) (Or.inl ⟨by rfl, ?y25⟩) ?k25
                        case y25 => first | (intro w; go_simp; done) | (intro w; go_simp; with_reducible rfl)
                        refine wpAny_ready (rs := [22]) (by kernel_rfl) (by simp) ?_
                        refine AllReady.cons rfl (fun K hK => ?_) AllReady.nil
                        go_simp
                        refine hK _ _ ?_; clear hK K
                        refine wpAny_done (by kernel_rfl) ?_ _
                        exact ⟨rfl, ⟨hb6.os, hb6.tape, hb6.output, hb6.size, hb6.block⟩⟩
                      exact AllReady.nil
                    exact AllReady.nil
                  exact AllReady.nil
                refine AllReady.cons rfl (fun K hK => ?_) ?_
                · skip
                  go_simp
                  refine hK _ _ ?_; clear hK K
                  refine wpAny_ready (rs := [5, 19]) (by kernel_rfl) (by simp) ?_
                  refine AllReady.cons rfl (fun K hK => ?_) ?_
                  · skip
                    go_simp
                    refine hK _ _ ?_; clear hK K
                    refine wpAny_take (i := 8) (v := ?v26) rfl (by kernel_rfl) (by kernel_rfl) (by kernel_rfl) (fun _ _ _ h => h) (Or.inl ⟨by rfl, ?y26⟩) ?k26
                    case y26 => first | (intro w; go_simp; done) | (intro w; go_simp; with_reducible rfl)
                    refine wpAny_ready (rs := [9, 19]) (by kernel_rfl) (by simp) ?_
                    refine AllReady.cons rfl (fun K hK => ?_) ?_
                    · skip
                      go_simp
                      refine hK _ _ ?_; clear hK K
                      refine wpAny_ready (rs := [19]) (by kernel_rfl) (by simp) ?_
                      refine AllReady.cons rfl (fun K hK => ?_) ?_
                      · skip
                        refine dk rfl 16 Try.f16 Try.func16 AE AD _ _ rfl #[.agg #[.int .i64 c0, .int .i64 c1, .int .i64 c2, .int .i64 c3, .slice ad al cap], .int .u8 (meant[i]'(by omega)).toNat, .int .u8 (typed[k]'(by omega)).toNat] (.int .i64 (p (meant[i]'(by omega)) (typed[k]'(by omega)))) ?hv27 (hput _ _ _ hB0) ?hk27
                        case hv27 => simp [Act.eval, Act.put]
                        intro w6 hb6
                        have m1 : w6.cell? ⟨w.heap.size + 1, i, none⟩ = some (.slice (some ⟨R' i, 0, none⟩) (typed.size + 1) (typed.size + 1)) := by have := (hI.drew.drew.drew.eE hb6).top.cell (i := i) (by omega); simpa [kT, show i < i + 1 + 1 by omega] using this
                        have m2 : w6.cell? ⟨R' i, k, none⟩ = some (.int .i64 (Z i k)) := ((hI.drew.drew.drew.eE hb6).done i (by omega)).cell (by omega)
                        refine hK _ _ ?_; clear hK K
                        refine wpAny_take (i := 20) (v := ?v28) rfl (by kernel_rfl) (by kernel_rfl) (by kernel_rfl) (fun _ _ _ h => h) (Or.inl ⟨by rfl, ?y28⟩) ?k28
                        case y28 => first | (intro w; go_simp; done) | (intro w; go_simp; with_reducible rfl)
                        refine wpAny_take (i := 21) (v := ?v29) rfl (by kernel_rfl) (by kernel_rfl) (by kernel_rfl) (fun _ _ _ h => h) (Or.inl ⟨by rfl, ?y29⟩) ?k29
                        case y29 => first | (intro w; go_simp; done) | (intro w; go_simp; with_reducible rfl)
                        refine wpAny_ready (rs := [22]) (by kernel_rfl) (by simp) ?_
                        refine AllReady.cons rfl (fun K hK => ?_) AllReady.nil
                        go_simp
                        refine hK _ _ ?_; clear hK K
                        refine wpAny_done (by kernel_rfl) ?_ _
                        exact ⟨rfl, ⟨hb6.os, hb6.tape, hb6.output, hb6.size, hb6.block⟩⟩
                      exact AllReady.nil
                    refine AllReady.cons rfl (fun K hK => ?_) ?_
                    · skip
                      refine dk rfl 16 Try.f16 Try.func16 AE AD _ _ rfl #[.agg #[.int .i64 c0, .int .i64 c1, .int .i64 c2, .int .i64 c3, .slice ad al cap], .int .u8 (meant[i]'(by omega)).toNat, .int .u8 (typed[k]'(by omega)).toNat] (.int .i64 (p (meant[i]'(by omega)) (typed[k]'(by omega)))) ?hv30 (hput _ _ _ hB0) ?hk30
                      case hv30 => simp [Act.eval, Act.put]
                      intro w6 hb6
                      have m1 : w6.cell? ⟨w.heap.size + 1, i, none⟩ = some (.slice (some ⟨R' i, 0, none⟩) (typed.size + 1) (typed.size + 1)) := by have := (hI.drew.drew.drew.eE hb6).top.cell (i := i) (by omega); simpa [kT, show i < i + 1 + 1 by omega] using this
                      have m2 : w6.cell? ⟨R' i, k, none⟩ = some (.int .i64 (Z i k)) := ((hI.drew.drew.drew.eE hb6).done i (by omega)).cell (by omega)
                      refine hK _ _ ?_; clear hK K
                      refine wpAny_ready (rs := [9]) (by kernel_rfl) (by simp) ?_
                      refine AllReady.cons rfl (fun K hK => ?_) ?_
                      · skip
                        go_simp
                        refine hK _ _ ?_; clear hK K
                        refine wpAny_take (i := 20) (v := ?v31) rfl (by kernel_rfl) (by kernel_rfl) (by kernel_rfl) (fun _ _ _ h => h) (Or.inl ⟨by rfl, ?y31⟩) ?k31
                        case y31 => first | (intro w; go_simp; done) | (intro w; go_simp; with_reducible rfl)
                        refine wpAny_take (i := 21) (v := ?v32) rfl (by kernel_rfl) (by kernel_rfl) (by kernel_rfl) (fun _ _ _ h => h) (Or.inl ⟨by rfl, ?y32⟩) ?k32
                        case y32 => first | (intro w; go_simp; done) | (intro w; go_simp; with_reducible rfl)
                        refine wpAny_ready (rs := [22]) (by kernel_rfl) (by simp) ?_
                        refine AllReady.cons rfl (fun K hK => ?_) AllReady.nil
                        go_simp
                        refine hK _ _ ?_; clear hK K
                        refine wpAny_done (by kernel_rfl) ?_ _
                        exact ⟨rfl, ⟨hb6.os, hb6.tape, hb6.output, hb6.size, hb6.block⟩⟩
                      exact AllReady.nil
                    exact AllReady.nil
                  refine AllReady.cons rfl (fun K hK => ?_) ?_
                  · skip
                    refine dk rfl 16 Try.f16 Try.func16 AE AD _ _ rfl #[.agg #[.int .i64 c0, .int .i64 c1, .int .i64 c2, .int .i64 c3, .slice ad al cap], .int .u8 (meant[i]'(by omega)).toNat, .int .u8 (typed[k]'(by omega)).toNat] (.int .i64 (p (meant[i]'(by omega)) (typed[k]'(by omega)))) ?hv33 (hput _ _ _ hB0) ?hk33
                    case hv33 => simp [Act.eval, Act.put]
                    intro w6 hb6
                    have m1 : w6.cell? ⟨w.heap.size + 1, i, none⟩ = some (.slice (some ⟨R' i, 0, none⟩) (typed.size + 1) (typed.size + 1)) := by have := (hI.drew.drew.drew.eE hb6).top.cell (i := i) (by omega); simpa [kT, show i < i + 1 + 1 by omega] using this
                    have m2 : w6.cell? ⟨R' i, k, none⟩ = some (.int .i64 (Z i k)) := ((hI.drew.drew.drew.eE hb6).done i (by omega)).cell (by omega)
                    refine hK _ _ ?_; clear hK K
                    refine wpAny_ready (rs := [5]) (by kernel_rfl) (by simp) ?_
                    refine AllReady.cons rfl (fun K hK => ?_) ?_
                    · skip
                      go_simp
                      refine hK _ _ ?_; clear hK K
                      refine wpAny_take (i := 8) (v := ?v34) rfl (by kernel_rfl) (by kernel_rfl) (by kernel_rfl) (fun _ _ _ h => h) (Or.inl ⟨by rfl, ?y34⟩) ?k34
                      case y34 => first | (intro w; go_simp; done) | (intro w; go_simp; with_reducible rfl)
                      refine wpAny_ready (rs := [9]) (by kernel_rfl) (by simp) ?_
                      refine AllReady.cons rfl (fun K hK => ?_) ?_
                      · skip
                        go_simp
                        refine hK _ _ ?_; clear hK K
                        refine wpAny_take (i := 20) (v := ?v35) rfl (by kernel_rfl) (by kernel_rfl) (by kernel_rfl) (fun _ _ _ h => h) (Or.inl ⟨by rfl, ?y35⟩) ?k35
                        case y35 => first | (intro w; go_simp; done) | (intro w; go_simp; with_reducible rfl)
                        refine wpAny_take (i := 21) (v := ?v36) rfl (by kernel_rfl) (by kernel_rfl) (by kernel_rfl) (fun _ _ _ h => h) (Or.inl ⟨by rfl, ?y36⟩) ?k36
                        case y36 => first | (intro w; go_simp; done) | (intro w; go_simp; with_reducible rfl)
                        refine wpAny_ready (rs := [22]) (by kernel_rfl) (by simp) ?_
                        refine AllReady.cons rfl (fun K hK => ?_) AllReady.nil
                        go_simp
                        refine hK _ _ ?_; clear hK K
                        refine wpAny_done (by kernel_rfl) ?_ _
                        exact ⟨rfl, ⟨hb6.os, hb6.tape, hb6.output, hb6.size, hb6.block⟩⟩
                      exact AllReady.nil
                    exact AllReady.nil
                  exact AllReady.nil
                exact AllReady.nil
              intro w6 hb6
              have hI6 := hI.eE hb6
              clear hb6 hB0 hI b0 b1 b2 b3 b4 t0 t1 s0 s1 d1 d2 d3
              have t0 : w6.cell? ⟨w.heap.size + 1, i + 1, none⟩ = some (.slice (some ⟨R' (i + 1), 0, none⟩) (typed.size + 1) (typed.size + 1)) := by simpa [kT] using hI6.top.cell (i := i + 1) hlt
              have s0 : w6.cell? ⟨R' (i + 1), k + 1, none⟩ = some (.int .i64 0) := by simpa using hI6.cur.cell hkt
              have s1 : w6.frozen? ⟨R' (i + 1), k + 1, none⟩ = false := hI6.cur.frozen (k + 1)
              have hz := zss i k (by omega) (by omega)
              clear zss z00 z0s zs0 hput
              by_cases hi0 : i = 0
              · replace hz := fun (_ : Unit) => hz (fun i2 k2 h3 h4 => absurd hi0 (by omega))
                have gi : ((1 : Int) < (i : Int) + 1) = False := eq_false (by omega)
                clear hi0
                as_aux_lemma =>
                  go_wp2
                  go_region
                  go_wp2
                  go_roundg (typed.size + 1 - (k + 1 + 1))
                  case measure => omega
                  case rel =>
                    refine ⟨k + 1 + 1, by omega, by omega, by congr 1, ?_⟩
                    first | refine (br hI6 _ ?_).drew | refine (br hI6 _ ?_).drew.drew | refine br hI6 _ ?_
                    trace_state
                    have hb1 := hle (i + 1) (k + 1) (by omega) (by omega)
                    have hb2 := hle i (k + 1) (by omega) (by omega)
                    have hb3 := hle (i + 1) k (by omega) (by omega)
                    have hb4 := hle i k (by omega) (by omega)
                    have hq1 := prod (i + 1) (by omega) c1 hc1
                    have hq2 := prod (k + 1) (by omega) c2 hc2
                    have hq3 := prod i (by omega) c1 hc1
                    have hq4 := prod k (by omega) c2 hc2
                    have hpp := hp (meant[i]'(by omega)) (typed[k]'(by omega))
                    simp only [Int.natCast_add, Int.natCast_one] at hb1 hb2 hb3 hb4 hq1 hq2
                    have hz := hz ()
                    simp (disch := omega) only [IntWalk.wrap64_in, IntWalk.i64_in]
                    rw [hz] at hb1 ⊢
                    omega
              have gi : (1 : Int) < (i : Int) + 1 := by omega
              by_cases hk0 : k = 0
              · replace hz := fun (_ : Unit) => hz (fun i2 k2 h3 h4 => absurd hk0 (by omega))
                have gk : ((1 : Int) < (k : Int) + 1) = False := eq_false (by omega)
                clear hk0
                as_aux_lemma =>
                  go_wp2
                  go_region
                  go_wp2
                  go_roundg (typed.size + 1 - (k + 1 + 1))
                  case measure => omega
                  case rel =>
                    refine ⟨k + 1 + 1, by omega, by omega, by congr 1, ?_⟩
                    first | refine (br hI6 _ ?_).drew | refine (br hI6 _ ?_).drew.drew | refine br hI6 _ ?_
                    trace_state
                    have hb1 := hle (i + 1) (k + 1) (by omega) (by omega)
                    have hb2 := hle i (k + 1) (by omega) (by omega)
                    have hb3 := hle (i + 1) k (by omega) (by omega)
                    have hb4 := hle i k (by omega) (by omega)
                    have hq1 := prod (i + 1) (by omega) c1 hc1
                    have hq2 := prod (k + 1) (by omega) c2 hc2
                    have hq3 := prod i (by omega) c1 hc1
                    have hq4 := prod k (by omega) c2 hc2
                    have hpp := hp (meant[i]'(by omega)) (typed[k]'(by omega))
                    simp only [Int.natCast_add, Int.natCast_one] at hb1 hb2 hb3 hb4 hq1 hq2
                    have hz := hz ()
                    simp (disch := omega) only [IntWalk.wrap64_in, IntWalk.i64_in]
                    rw [hz] at hb1 ⊢
                    omega
              have gk : (1 : Int) < (k : Int) + 1 := by omega
              obtain ⟨j, hj1, hj2⟩ : ∃ j, j + 1 ≤ i ∧ i ≤ j + 1 := ⟨i - 1, by omega, by omega⟩
              obtain ⟨q, hq1, hq2⟩ : ∃ q, q + 1 ≤ k ∧ k ≤ q + 1 := ⟨k - 1, by omega, by omega⟩
              clear hi0 hk0
              have x2 : (i : Int) + 1 - 2 = (j : Int) := by omega
              have x3 : (k : Int) + 1 - 2 = (q : Int) := by omega
              have x4 : (i : Int) - 1 = (j : Int) := by omega
              have x5 : (k : Int) - 1 = (q : Int) := by omega
              have mj : j < meant.size := by omega
              have mi : i < meant.size := by omega
              have tq : q < typed.size := by omega
              have tk : k < typed.size := by omega
              have mj2 : (j : Int) < (meant.size : Int) := by omega
              have tq2 : (q : Int) < (typed.size : Int) := by omega
              have mi2 : (i : Int) < (meant.size : Int) := by omega
              have tk2 : (k : Int) < (typed.size : Int) := by omega
              have mj3 : (j : Int) < (meant.size : Int) + 1 := by omega
              have tq3 : (q : Int) < (typed.size : Int) + 1 := by omega
              have mi2 : (i : Int) < (meant.size : Int) := by omega
              have tk2 : (k : Int) < (typed.size : Int) := by omega
              by_cases e1 : meant[i] = typed[q]
              · by_cases e2 : meant[j] = typed[k]
                · by_cases e3 : meant[i] = meant[j]
                  · skip
                    replace hz := fun (_ : Unit) => hz (fun i2 k2 h3 h4 h5 => by obtain rfl : i2 = j := (by omega); exact h5.2.2 e3)
                    have e1a : (meant[i] = typed[q]) = True := eq_true e1
                    have e1b : (meant[i].toNat = typed[q].toNat) = True := eq_true (congrArg UInt8.toNat e1)
                    have e1c : ((meant[i].toNat : Int) = (typed[q].toNat : Int)) = True := eq_true (congrArg (fun z : UInt8 => (z.toNat : Int)) e1)
                    have e2a : (meant[j] = typed[k]) = True := eq_true e2
                    have e2b : (meant[j].toNat = typed[k].toNat) = True := eq_true (congrArg UInt8.toNat e2)
                    have e2c : ((meant[j].toNat : Int) = (typed[k].toNat : Int)) = True := eq_true (congrArg (fun z : UInt8 => (z.toNat : Int)) e2)
                    have e3a : (meant[i] = meant[j]) = True := eq_true e3
                    have e3b : (meant[i].toNat = meant[j].toNat) = True := eq_true (congrArg UInt8.toNat e3)
                    have e3c : ((meant[i].toNat : Int) = (meant[j].toNat : Int)) = True := eq_true (congrArg (fun z : UInt8 => (z.toNat : Int)) e3)
                    clear e1 e2 e3
                    as_aux_lemma =>
                      go_wp2
                      refine wp_region_any (by kernel_rfl) ?_
                      change wpAny _ _ _ _ _ _ _ (World.drew _)
                      refine kO (fun a0 hA => ?_)
                      have f8 : a0.tmps.getD 8 undef = Value.int IntKind.i64 ((i : Int) + 1) := by rw [hA]; rfl
                      have f9 : a0.tmps.getD 9 undef = Value.int IntKind.i64 ((k : Int) + 1) := by rw [hA]; rfl
                      have f1 : a0.tmps.getD 1 undef = Value.string typed := by rw [hA]; rfl
                      have f2 : a0.tmps.getD 2 undef = Value.string meant := by rw [hA]; rfl
                      have wq : IntKind.i64.wrap (q : Int) = (q : Int) := wrap_small (by omega) (by omega)
                      have wj : IntKind.i64.wrap (j : Int) = (j : Int) := wrap_small (by omega) (by omega)
                      have wi : IntKind.i64.wrap (i : Int) = (i : Int) := wrap_small (by omega) (by omega)
                      have wk : IntKind.i64.wrap (k : Int) = (k : Int) := wrap_small (by omega) (by omega)
                      have hs : a0.tmps.size = 170 := by rw [hA]; rfl
                      refine bO (v := Value.int IntKind.i64 ((i : Int) + 1)) (i := 0) (d := 101) rfl (by kernel_rfl) (by kernel_rfl) (by kernel_rfl) (fun _ _ _ h => h) ?yr0c3 (fun a1 h1 => ?kr0c3)
                      case yr0c3 => intro w; first | (go_simp; done) | (go_simp; with_reducible rfl)
                      replace f1 := ab h1 1 _ rfl f1
                      replace f2 := ab h1 2 _ rfl f2
                      replace f8 := ab h1 8 _ rfl f8
                      replace f9 := ab h1 9 _ rfl f9
                      have f101 := put_eq h1 hs rfl
                      replace hs := ah h1 hs
                      refine bO (v := Value.bool true) (i := 1) (d := 102) rfl (by kernel_rfl) (by kernel_rfl) (by kernel_rfl) (fun _ _ _ h => h) ?yr1c3 (fun a2 h2 => ?kr1c3)
                      case yr1c3 => intro w; first | (go_simp; done) | (go_simp; with_reducible rfl)
                      replace f1 := ab h2 1 _ rfl f1
                      replace f2 := ab h2 2 _ rfl f2
                      replace f8 := ab h2 8 _ rfl f8
                      replace f9 := ab h2 9 _ rfl f9
                      clear f101
                      have f102 := put_eq h2 hs rfl
                      replace hs := ah h2 hs
                      refine bO (v := Value.bool true) (i := 2) (d := 103) rfl (by kernel_rfl) (by kernel_rfl) (by kernel_rfl) (fun _ _ _ h => h) ?yr2c3 (fun a3 h3 => ?kr2c3)
                      case yr2c3 => intro w; first | (go_simp; done) | (go_simp; with_reducible rfl)
                      replace f1 := ab h3 1 _ rfl f1
                      replace f2 := ab h3 2 _ rfl f2
                      replace f8 := ab h3 8 _ rfl f8
                      replace f9 := ab h3 9 _ rfl f9
                      clear f102
                      have f103 := put_eq h3 hs rfl
                      replace hs := ah h3 hs
                      refine aD (v := Value.int IntKind.i64 ((k : Int) + 1)) (j := 2) (i := 3) (d := 104) rfl (by kernel_rfl) (by kernel_rfl) (by kernel_rfl) (fun _ _ _ h => h) (ag rfl hs rfl f103) ?yr3c3 (fun a4 h4 => ?kr3c3)
                      case yr3c3 => intro w; first | (go_simp; done) | (go_simp; with_reducible rfl)
                      replace f1 := ab h4 1 _ rfl f1
                      replace f2 := ab h4 2 _ rfl f2
                      replace f8 := ab h4 8 _ rfl f8
                      replace f9 := ab h4 9 _ rfl f9
                      replace f103 := ab h4 103 _ rfl f103
                      have f104 := put_eq h4 hs rfl
                      replace hs := ah h4 hs
                      refine aD (v := Value.bool true) (j := 2) (i := 4) (d := 105) rfl (by kernel_rfl) (by kernel_rfl) (by kernel_rfl) (fun _ _ _ h => h) (ag rfl hs rfl f103) ?yr4c3 (fun a5 h5 => ?kr4c3)
                      case yr4c3 => intro w; first | (go_simp; done) | (go_simp; with_reducible rfl)
                      replace f1 := ab h5 1 _ rfl f1
                      replace f2 := ab h5 2 _ rfl f2
                      replace f8 := ab h5 8 _ rfl f8
                      replace f9 := ab h5 9 _ rfl f9
                      replace f103 := ab h5 103 _ rfl f103
                      clear f104
                      have f105 := put_eq h5 hs rfl
                      replace hs := ah h5 hs
                      refine bO (v := Value.bool true) (i := 5) (d := 106) rfl (by kernel_rfl) (by kernel_rfl) (by kernel_rfl) (fun _ _ _ h => h) ?yr5c3 (fun a6 h6 => ?kr5c3)
                      case yr5c3 => intro w; first | (go_simp; done) | (go_simp; with_reducible rfl)
                      replace f1 := ab h6 1 _ rfl f1
                      replace f2 := ab h6 2 _ rfl f2
                      replace f8 := ab h6 8 _ rfl f8
                      replace f9 := ab h6 9 _ rfl f9
                      clear f103
                      clear f105
                      have f106 := put_eq h6 hs rfl
                      replace hs := ah h6 hs
                      refine bO (v := Value.bool true) (i := 6) (d := 107) rfl (by kernel_rfl) (by kernel_rfl) (by kernel_rfl) (fun _ _ _ h => h) ?yr6c3 (fun a7 h7 => ?kr6c3)
                      case yr6c3 => intro w; first | (go_simp; done) | (go_simp; with_reducible rfl)
                      replace f1 := ab h7 1 _ rfl f1
                      replace f2 := ab h7 2 _ rfl f2
                      replace f8 := ab h7 8 _ rfl f8
                      replace f9 := ab h7 9 _ rfl f9
                      clear f106
                      have f107 := put_eq h7 hs rfl
                      replace hs := ah h7 hs
                      refine aD (v := Value.string meant) (j := 6) (i := 7) (d := 108) rfl (by kernel_rfl) (by kernel_rfl) (by kernel_rfl) (fun _ _ _ h => h) (ag rfl hs rfl f107) ?yr7c3 (fun a8 h8 => ?kr7c3)
                      case yr7c3 => intro w; first | (go_simp; done) | (go_simp; with_reducible rfl)
                      replace f1 := ab h8 1 _ rfl f1
                      replace f2 := ab h8 2 _ rfl f2
                      replace f8 := ab h8 8 _ rfl f8
                      replace f9 := ab h8 9 _ rfl f9
                      replace f107 := ab h8 107 _ rfl f107
                      have f108 := put_eq h8 hs rfl
                      replace hs := ah h8 hs
                      refine aD (v := Value.int IntKind.i64 ((i : Int) + 1)) (j := 6) (i := 8) (d := 109) rfl (by kernel_rfl) (by kernel_rfl) (by kernel_rfl) (fun _ _ _ h => h) (ag rfl hs rfl f107) ?yr8c3 (fun a9 h9 => ?kr8c3)
                      case yr8c3 => intro w; first | (go_simp; done) | (go_simp; with_reducible rfl)
                      replace f1 := ab h9 1 _ rfl f1
                      replace f2 := ab h9 2 _ rfl f2
                      replace f8 := ab h9 8 _ rfl f8
                      replace f9 := ab h9 9 _ rfl f9
                      replace f107 := ab h9 107 _ rfl f107
                      replace f108 := ab h9 108 _ rfl f108
                      have f109 := put_eq h9 hs rfl
                      replace hs := ah h9 hs
                      refine aD (v := Value.int IntKind.i64 (i : Int)) (j := 6) (i := 9) (d := 110) rfl (by kernel_rfl) (by kernel_rfl) (by kernel_rfl) (fun _ _ _ h => h) (ag rfl hs rfl f107) ?yr9c3 (fun a10 h10 => ?kr9c3)
                      case yr9c3 => intro w; first | (go_simp; done) | (go_simp; with_reducible rfl)
                      replace f1 := ab h10 1 _ rfl f1
                      replace f2 := ab h10 2 _ rfl f2
                      replace f8 := ab h10 8 _ rfl f8
                      replace f9 := ab h10 9 _ rfl f9
                      replace f107 := ab h10 107 _ rfl f107
                      replace f108 := ab h10 108 _ rfl f108
                      clear f109
                      have f110 := put_eq h10 hs rfl
                      replace hs := ah h10 hs
                      refine aD (v := Value.int IntKind.u8 (meant[i].toNat : Int)) (j := 6) (i := 10) (d := 111) rfl (by kernel_rfl) (by kernel_rfl) (by kernel_rfl) (fun _ _ _ h => h) (ag rfl hs rfl f107) ?yr10c3 (fun a11 h11 => ?kr10c3)
                      case yr10c3 => intro w; first | (go_simp; done) | (go_simp; with_reducible rfl)
                      replace f1 := ab h11 1 _ rfl f1
                      replace f2 := ab h11 2 _ rfl f2
                      replace f8 := ab h11 8 _ rfl f8
                      replace f9 := ab h11 9 _ rfl f9
                      replace f107 := ab h11 107 _ rfl f107
                      clear f108
                      clear f110
                      have f111 := put_eq h11 hs rfl
                      replace hs := ah h11 hs
                      refine aD (v := Value.string typed) (j := 6) (i := 11) (d := 112) rfl (by kernel_rfl) (by kernel_rfl) (by kernel_rfl) (fun _ _ _ h => h) (ag rfl hs rfl f107) ?yr11c3 (fun a12 h12 => ?kr11c3)
                      case yr11c3 => intro w; first | (go_simp; done) | (go_simp; with_reducible rfl)
                      replace f1 := ab h12 1 _ rfl f1
                      replace f2 := ab h12 2 _ rfl f2
                      replace f8 := ab h12 8 _ rfl f8
                      replace f9 := ab h12 9 _ rfl f9
                      replace f107 := ab h12 107 _ rfl f107
                      replace f111 := ab h12 111 _ rfl f111
                      have f112 := put_eq h12 hs rfl
                      replace hs := ah h12 hs
                      refine aD (v := Value.int IntKind.i64 ((k : Int) + 1)) (j := 6) (i := 12) (d := 113) rfl (by kernel_rfl) (by kernel_rfl) (by kernel_rfl) (fun _ _ _ h => h) (ag rfl hs rfl f107) ?yr12c3 (fun a13 h13 => ?kr12c3)
                      case yr12c3 => intro w; first | (go_simp; done) | (go_simp; with_reducible rfl)
                      replace f1 := ab h13 1 _ rfl f1
                      replace f2 := ab h13 2 _ rfl f2
                      replace f8 := ab h13 8 _ rfl f8
                      replace f9 := ab h13 9 _ rfl f9
                      replace f107 := ab h13 107 _ rfl f107
                      replace f111 := ab h13 111 _ rfl f111
                      replace f112 := ab h13 112 _ rfl f112
                      have f113 := put_eq h13 hs rfl
                      replace hs := ah h13 hs
                      refine aD (v := Value.int IntKind.i64 (q : Int)) (j := 6) (i := 13) (d := 114) rfl (by kernel_rfl) (by kernel_rfl) (by kernel_rfl) (fun _ _ _ h => h) (ag rfl hs rfl f107) ?yr13c3 (fun a14 h14 => ?kr13c3)
                      case yr13c3 => intro w; first | (go_simp; done) | (go_simp; with_reducible rfl)
                      replace f1 := ab h14 1 _ rfl f1
                      replace f2 := ab h14 2 _ rfl f2
                      replace f8 := ab h14 8 _ rfl f8
                      replace f9 := ab h14 9 _ rfl f9
                      replace f107 := ab h14 107 _ rfl f107
                      replace f111 := ab h14 111 _ rfl f111
                      replace f112 := ab h14 112 _ rfl f112
                      clear f113
                      have f114 := put_eq h14 hs rfl
                      replace hs := ah h14 hs
                      refine aD (v := Value.int IntKind.u8 (typed[q].toNat : Int)) (j := 6) (i := 14) (d := 115) rfl (by kernel_rfl) (by kernel_rfl) (by kernel_rfl) (fun _ _ _ h => h) (ag rfl hs rfl f107) ?yr14c3 (fun a15 h15 => ?kr14c3)
                      case yr14c3 => intro w; first | (go_simp; done) | (go_simp; with_reducible rfl)
                      replace f1 := ab h15 1 _ rfl f1
                      replace f2 := ab h15 2 _ rfl f2
                      replace f8 := ab h15 8 _ rfl f8
                      replace f9 := ab h15 9 _ rfl f9
                      replace f107 := ab h15 107 _ rfl f107
                      replace f111 := ab h15 111 _ rfl f111
                      clear f112
                      clear f114
                      have f115 := put_eq h15 hs rfl
                      replace hs := ah h15 hs
                      refine aD (v := Value.bool true) (j := 6) (i := 15) (d := 116) rfl (by kernel_rfl) (by kernel_rfl) (by kernel_rfl) (fun _ _ _ h => h) (ag rfl hs rfl f107) ?yr15c3 (fun a16 h16 => ?kr15c3)
                      case yr15c3 => intro w; first | (go_simp; done) | (go_simp; with_reducible rfl)
                      replace f1 := ab h16 1 _ rfl f1
                      replace f2 := ab h16 2 _ rfl f2
                      replace f8 := ab h16 8 _ rfl f8
                      replace f9 := ab h16 9 _ rfl f9
                      replace f107 := ab h16 107 _ rfl f107
                      clear f111
                      clear f115
                      have f116 := put_eq h16 hs rfl
                      replace hs := ah h16 hs
                      refine bO (v := Value.bool true) (i := 16) (d := 117) rfl (by kernel_rfl) (by kernel_rfl) (by kernel_rfl) (fun _ _ _ h => h) ?yr16c3 (fun a17 h17 => ?kr16c3)
                      case yr16c3 => intro w; first | (go_simp; done) | (go_simp; with_reducible rfl)
                      replace f1 := ab h17 1 _ rfl f1
                      replace f2 := ab h17 2 _ rfl f2
                      replace f8 := ab h17 8 _ rfl f8
                      replace f9 := ab h17 9 _ rfl f9
                      clear f107
                      clear f116
                      have f117 := put_eq h17 hs rfl
                      replace hs := ah h17 hs
                      refine bO (v := Value.bool true) (i := 17) (d := 118) rfl (by kernel_rfl) (by kernel_rfl) (by kernel_rfl) (fun _ _ _ h => h) ?yr17c3 (fun a18 h18 => ?kr17c3)
                      case yr17c3 => intro w; first | (go_simp; done) | (go_simp; with_reducible rfl)
                      replace f1 := ab h18 1 _ rfl f1
                      replace f2 := ab h18 2 _ rfl f2
                      replace f8 := ab h18 8 _ rfl f8
                      replace f9 := ab h18 9 _ rfl f9
                      clear f117
                      have f118 := put_eq h18 hs rfl
                      replace hs := ah h18 hs
                      refine aD (v := Value.string meant) (j := 17) (i := 18) (d := 119) rfl (by kernel_rfl) (by kernel_rfl) (by kernel_rfl) (fun _ _ _ h => h) (ag rfl hs rfl f118) ?yr18c3 (fun a19 h19 => ?kr18c3)
                      case yr18c3 => intro w; first | (go_simp; done) | (go_simp; with_reducible rfl)
                      replace f1 := ab h19 1 _ rfl f1
                      replace f2 := ab h19 2 _ rfl f2
                      replace f8 := ab h19 8 _ rfl f8
                      replace f9 := ab h19 9 _ rfl f9
                      replace f118 := ab h19 118 _ rfl f118
                      have f119 := put_eq h19 hs rfl
                      replace hs := ah h19 hs
                      refine aD (v := Value.int IntKind.i64 ((i : Int) + 1)) (j := 17) (i := 19) (d := 120) rfl (by kernel_rfl) (by kernel_rfl) (by kernel_rfl) (fun _ _ _ h => h) (ag rfl hs rfl f118) ?yr19c3 (fun a20 h20 => ?kr19c3)
                      case yr19c3 => intro w; first | (go_simp; done) | (go_simp; with_reducible rfl)
                      replace f1 := ab h20 1 _ rfl f1
                      replace f2 := ab h20 2 _ rfl f2
                      replace f8 := ab h20 8 _ rfl f8
                      replace f9 := ab h20 9 _ rfl f9
                      replace f118 := ab h20 118 _ rfl f118
                      replace f119 := ab h20 119 _ rfl f119
                      have f120 := put_eq h20 hs rfl
                      replace hs := ah h20 hs
                      refine aD (v := Value.int IntKind.i64 (j : Int)) (j := 17) (i := 20) (d := 121) rfl (by kernel_rfl) (by kernel_rfl) (by kernel_rfl) (fun _ _ _ h => h) (ag rfl hs rfl f118) ?yr20c3 (fun a21 h21 => ?kr20c3)
                      case yr20c3 => intro w; first | (go_simp; done) | (go_simp; with_reducible rfl)
                      replace f1 := ab h21 1 _ rfl f1
                      replace f2 := ab h21 2 _ rfl f2
                      replace f8 := ab h21 8 _ rfl f8
                      replace f9 := ab h21 9 _ rfl f9
                      replace f118 := ab h21 118 _ rfl f118
                      replace f119 := ab h21 119 _ rfl f119
                      clear f120
                      have f121 := put_eq h21 hs rfl
                      replace hs := ah h21 hs
                      refine aD (v := Value.int IntKind.u8 (meant[j].toNat : Int)) (j := 17) (i := 21) (d := 122) rfl (by kernel_rfl) (by kernel_rfl) (by kernel_rfl) (fun _ _ _ h => h) (ag rfl hs rfl f118) ?yr21c3 (fun a22 h22 => ?kr21c3)
                      case yr21c3 => intro w; first | (go_simp; done) | (go_simp; with_reducible rfl)
                      replace f1 := ab h22 1 _ rfl f1
                      replace f2 := ab h22 2 _ rfl f2
                      replace f8 := ab h22 8 _ rfl f8
                      replace f9 := ab h22 9 _ rfl f9
                      replace f118 := ab h22 118 _ rfl f118
                      clear f119
                      clear f121
                      have f122 := put_eq h22 hs rfl
                      replace hs := ah h22 hs
                      refine aD (v := Value.string typed) (j := 17) (i := 22) (d := 123) rfl (by kernel_rfl) (by kernel_rfl) (by kernel_rfl) (fun _ _ _ h => h) (ag rfl hs rfl f118) ?yr22c3 (fun a23 h23 => ?kr22c3)
                      case yr22c3 => intro w; first | (go_simp; done) | (go_simp; with_reducible rfl)
                      clear f1
                      replace f2 := ab h23 2 _ rfl f2
                      replace f8 := ab h23 8 _ rfl f8
                      replace f9 := ab h23 9 _ rfl f9
                      replace f118 := ab h23 118 _ rfl f118
                      replace f122 := ab h23 122 _ rfl f122
                      have f123 := put_eq h23 hs rfl
                      replace hs := ah h23 hs
                      refine aD (v := Value.int IntKind.i64 ((k : Int) + 1)) (j := 17) (i := 23) (d := 124) rfl (by kernel_rfl) (by kernel_rfl) (by kernel_rfl) (fun _ _ _ h => h) (ag rfl hs rfl f118) ?yr23c3 (fun a24 h24 => ?kr23c3)
                      case yr23c3 => intro w; first | (go_simp; done) | (go_simp; with_reducible rfl)
                      replace f2 := ab h24 2 _ rfl f2
                      replace f8 := ab h24 8 _ rfl f8
                      clear f9
                      replace f118 := ab h24 118 _ rfl f118
                      replace f122 := ab h24 122 _ rfl f122
                      replace f123 := ab h24 123 _ rfl f123
                      have f124 := put_eq h24 hs rfl
                      replace hs := ah h24 hs
                      refine aD (v := Value.int IntKind.i64 (k : Int)) (j := 17) (i := 24) (d := 125) rfl (by kernel_rfl) (by kernel_rfl) (by kernel_rfl) (fun _ _ _ h => h) (ag rfl hs rfl f118) ?yr24c3 (fun a25 h25 => ?kr24c3)
                      case yr24c3 => intro w; first | (go_simp; done) | (go_simp; with_reducible rfl)
                      replace f2 := ab h25 2 _ rfl f2
                      replace f8 := ab h25 8 _ rfl f8
                      replace f118 := ab h25 118 _ rfl f118
                      replace f122 := ab h25 122 _ rfl f122
                      replace f123 := ab h25 123 _ rfl f123
                      clear f124
                      have f125 := put_eq h25 hs rfl
                      replace hs := ah h25 hs
                      refine aD (v := Value.int IntKind.u8 (typed[k].toNat : Int)) (j := 17) (i := 25) (d := 126) rfl (by kernel_rfl) (by kernel_rfl) (by kernel_rfl) (fun _ _ _ h => h) (ag rfl hs rfl f118) ?yr25c3 (fun a26 h26 => ?kr25c3)
                      case yr25c3 => intro w; first | (go_simp; done) | (go_simp; with_reducible rfl)
                      replace f2 := ab h26 2 _ rfl f2
                      replace f8 := ab h26 8 _ rfl f8
                      replace f118 := ab h26 118 _ rfl f118
                      replace f122 := ab h26 122 _ rfl f122
                      clear f123
                      clear f125
                      have f126 := put_eq h26 hs rfl
                      replace hs := ah h26 hs
                      refine aD (v := Value.bool true) (j := 17) (i := 26) (d := 127) rfl (by kernel_rfl) (by kernel_rfl) (by kernel_rfl) (fun _ _ _ h => h) (ag rfl hs rfl f118) ?yr26c3 (fun a27 h27 => ?kr26c3)
                      case yr26c3 => intro w; first | (go_simp; done) | (go_simp; with_reducible rfl)
                      replace f2 := ab h27 2 _ rfl f2
                      replace f8 := ab h27 8 _ rfl f8
                      replace f118 := ab h27 118 _ rfl f118
                      clear f122
                      clear f126
                      have f127 := put_eq h27 hs rfl
                      replace hs := ah h27 hs
                      refine bO (v := Value.bool true) (i := 27) (d := 128) rfl (by kernel_rfl) (by kernel_rfl) (by kernel_rfl) (fun _ _ _ h => h) ?yr27c3 (fun a28 h28 => ?kr27c3)
                      case yr27c3 => intro w; first | (go_simp; done) | (go_simp; with_reducible rfl)
                      replace f2 := ab h28 2 _ rfl f2
                      replace f8 := ab h28 8 _ rfl f8
                      clear f118
                      clear f127
                      have f128 := put_eq h28 hs rfl
                      replace hs := ah h28 hs
                      refine bO (v := Value.bool true) (i := 28) (d := 129) rfl (by kernel_rfl) (by kernel_rfl) (by kernel_rfl) (fun _ _ _ h => h) ?yr28c3 (fun a29 h29 => ?kr28c3)
                      case yr28c3 => intro w; first | (go_simp; done) | (go_simp; with_reducible rfl)
                      replace f2 := ab h29 2 _ rfl f2
                      replace f8 := ab h29 8 _ rfl f8
                      clear f128
                      have f129 := put_eq h29 hs rfl
                      replace hs := ah h29 hs
                      refine aD (v := Value.string meant) (j := 28) (i := 29) (d := 130) rfl (by kernel_rfl) (by kernel_rfl) (by kernel_rfl) (fun _ _ _ h => h) (ag rfl hs rfl f129) ?yr29c3 (fun a30 h30 => ?kr29c3)
                      case yr29c3 => intro w; first | (go_simp; done) | (go_simp; with_reducible rfl)
                      replace f2 := ab h30 2 _ rfl f2
                      replace f8 := ab h30 8 _ rfl f8
                      replace f129 := ab h30 129 _ rfl f129
                      have f130 := put_eq h30 hs rfl
                      replace hs := ah h30 hs
                      refine aD (v := Value.int IntKind.i64 ((i : Int) + 1)) (j := 28) (i := 30) (d := 131) rfl (by kernel_rfl) (by kernel_rfl) (by kernel_rfl) (fun _ _ _ h => h) (ag rfl hs rfl f129) ?yr30c3 (fun a31 h31 => ?kr30c3)
                      case yr30c3 => intro w; first | (go_simp; done) | (go_simp; with_reducible rfl)
                      replace f2 := ab h31 2 _ rfl f2
                      replace f8 := ab h31 8 _ rfl f8
                      replace f129 := ab h31 129 _ rfl f129
                      replace f130 := ab h31 130 _ rfl f130
                      have f131 := put_eq h31 hs rfl
                      replace hs := ah h31 hs
                      refine aD (v := Value.int IntKind.i64 (i : Int)) (j := 28) (i := 31) (d := 132) rfl (by kernel_rfl) (by kernel_rfl) (by kernel_rfl) (fun _ _ _ h => h) (ag rfl hs rfl f129) ?yr31c3 (fun a32 h32 => ?kr31c3)
                      case yr31c3 => intro w; first | (go_simp; done) | (go_simp; with_reducible rfl)
                      replace f2 := ab h32 2 _ rfl f2
                      replace f8 := ab h32 8 _ rfl f8
                      replace f129 := ab h32 129 _ rfl f129
                      replace f130 := ab h32 130 _ rfl f130
                      clear f131
                      have f132 := put_eq h32 hs rfl
                      replace hs := ah h32 hs
                      refine aD (v := Value.int IntKind.u8 (meant[i].toNat : Int)) (j := 28) (i := 32) (d := 133) rfl (by kernel_rfl) (by kernel_rfl) (by kernel_rfl) (fun _ _ _ h => h) (ag rfl hs rfl f129) ?yr32c3 (fun a33 h33 => ?kr32c3)
                      case yr32c3 => intro w; first | (go_simp; done) | (go_simp; with_reducible rfl)
                      replace f2 := ab h33 2 _ rfl f2
                      replace f8 := ab h33 8 _ rfl f8
                      replace f129 := ab h33 129 _ rfl f129
                      clear f130
                      clear f132
                      have f133 := put_eq h33 hs rfl
                      replace hs := ah h33 hs
                      refine aD (v := Value.string meant) (j := 28) (i := 33) (d := 134) rfl (by kernel_rfl) (by kernel_rfl) (by kernel_rfl) (fun _ _ _ h => h) (ag rfl hs rfl f129) ?yr33c3 (fun a34 h34 => ?kr33c3)
                      case yr33c3 => intro w; first | (go_simp; done) | (go_simp; with_reducible rfl)
                      clear f2
                      replace f8 := ab h34 8 _ rfl f8
                      replace f129 := ab h34 129 _ rfl f129
                      replace f133 := ab h34 133 _ rfl f133
                      have f134 := put_eq h34 hs rfl
                      replace hs := ah h34 hs
                      refine aD (v := Value.int IntKind.i64 ((i : Int) + 1)) (j := 28) (i := 34) (d := 135) rfl (by kernel_rfl) (by kernel_rfl) (by kernel_rfl) (fun _ _ _ h => h) (ag rfl hs rfl f129) ?yr34c3 (fun a35 h35 => ?kr34c3)
                      case yr34c3 => intro w; first | (go_simp; done) | (go_simp; with_reducible rfl)
                      clear f8
                      replace f129 := ab h35 129 _ rfl f129
                      replace f133 := ab h35 133 _ rfl f133
                      replace f134 := ab h35 134 _ rfl f134
                      have f135 := put_eq h35 hs rfl
                      replace hs := ah h35 hs
                      refine aD (v := Value.int IntKind.i64 (j : Int)) (j := 28) (i := 35) (d := 136) rfl (by kernel_rfl) (by kernel_rfl) (by kernel_rfl) (fun _ _ _ h => h) (ag rfl hs rfl f129) ?yr35c3 (fun a36 h36 => ?kr35c3)
                      case yr35c3 => intro w; first | (go_simp; done) | (go_simp; with_reducible rfl)
                      replace f129 := ab h36 129 _ rfl f129
                      replace f133 := ab h36 133 _ rfl f133
                      replace f134 := ab h36 134 _ rfl f134
                      clear f135
                      have f136 := put_eq h36 hs rfl
                      replace hs := ah h36 hs
                      refine aD (v := Value.int IntKind.u8 (meant[j].toNat : Int)) (j := 28) (i := 36) (d := 137) rfl (by kernel_rfl) (by kernel_rfl) (by kernel_rfl) (fun _ _ _ h => h) (ag rfl hs rfl f129) ?yr36c3 (fun a37 h37 => ?kr36c3)
                      case yr36c3 => intro w; first | (go_simp; done) | (go_simp; with_reducible rfl)
                      replace f129 := ab h37 129 _ rfl f129
                      replace f133 := ab h37 133 _ rfl f133
                      clear f134
                      clear f136
                      have f137 := put_eq h37 hs rfl
                      replace hs := ah h37 hs
                      refine aD (v := Value.bool false) (j := 28) (i := 37) (d := 138) rfl (by kernel_rfl) (by kernel_rfl) (by kernel_rfl) (fun _ _ _ h => h) (ag rfl hs rfl f129) ?yr37c3 (fun a38 h38 => ?kr37c3)
                      case yr37c3 => intro w; first | (go_simp; done) | (go_simp; with_reducible rfl)
                      replace f129 := ab h38 129 _ rfl f129
                      clear f133
                      clear f137
                      have f138 := put_eq h38 hs rfl
                      replace hs := ah h38 hs
                      refine bO (v := Value.bool false) (i := 38) (d := 139) rfl (by kernel_rfl) (by kernel_rfl) (by kernel_rfl) (fun _ _ _ h => h) ?yr38c3 (fun a39 h39 => ?kr38c3)
                      case yr38c3 => intro w; first | (go_simp; done) | (go_simp; with_reducible rfl)
                      clear f129
                      clear f138
                      have f139 := put_eq h39 hs rfl
                      replace hs := ah h39 hs
                      refine wpAny_done (by kernel_rfl) ?_ _
                      clear f139 hs
                      subst h39 h38 h37 h36 h35 h34 h33 h32 h31 h30 h29 h28 h27 h26 h25 h24 h23 h22 h21 h20 h19 h18 h17 h16 h15 h14 h13 h12 h11 h10 h9 h8 h7 h6 h5 h4 h3 h2 h1 hA
                      simp only [Act.put, List.setIfInBounds_toArray, List.set_cons_succ, List.set_cons_zero]
                      go_wp2
                      go_roundg (typed.size + 1 - (k + 1 + 1))
                      case measure => omega
                      case rel =>
                        refine ⟨k + 1 + 1, by omega, by omega, by congr 1, ?_⟩
                        first | refine (br hI6 _ ?_).drew | refine (br hI6 _ ?_).drew.drew | refine br hI6 _ ?_
                        trace_state
                        have hb1 := hle (i + 1) (k + 1) (by omega) (by omega)
                        have hb2 := hle i (k + 1) (by omega) (by omega)
                        have hb3 := hle (i + 1) k (by omega) (by omega)
                        have hb4 := hle i k (by omega) (by omega)
                        have hq1 := prod (i + 1) (by omega) c1 hc1
                        have hq2 := prod (k + 1) (by omega) c2 hc2
                        have hq3 := prod i (by omega) c1 hc1
                        have hq4 := prod k (by omega) c2 hc2
                        have hpp := hp (meant[i]'(by omega)) (typed[k]'(by omega))
                        simp only [Int.natCast_add, Int.natCast_one] at hb1 hb2 hb3 hb4 hq1 hq2
                        have hz := hz ()
                        simp (disch := omega) only [IntWalk.wrap64_in, IntWalk.i64_in]
                        rw [hz] at hb1 ⊢
                        omega
                  · skip
                    replace hz : Unit → Z (i + 1) (k + 1) = min (min (min (Z i (k + 1) + c1) (Z (i + 1) k + c2)) (Z i k + p (meant[i]) (typed[k]))) (Z j q + c0) := fun _ => by
                      clear hz
                      obtain rfl : i = j + 1 := by omega
                      obtain rfl : k = q + 1 := by omega
                      exact zsw j q (by omega) (by omega) ⟨e1, e2, e3⟩
                    have e1a : (meant[i] = typed[q]) = True := eq_true e1
                    have e1b : (meant[i].toNat = typed[q].toNat) = True := eq_true (congrArg UInt8.toNat e1)
                    have e1c : ((meant[i].toNat : Int) = (typed[q].toNat : Int)) = True := eq_true (congrArg (fun z : UInt8 => (z.toNat : Int)) e1)
                    have e2a : (meant[j] = typed[k]) = True := eq_true e2
                    have e2b : (meant[j].toNat = typed[k].toNat) = True := eq_true (congrArg UInt8.toNat e2)
                    have e2c : ((meant[j].toNat : Int) = (typed[k].toNat : Int)) = True := eq_true (congrArg (fun z : UInt8 => (z.toNat : Int)) e2)
                    have e3a : (meant[i] = meant[j]) = False := eq_false e3
                    have e3b : (meant[i].toNat = meant[j].toNat) = False := eq_false (fun h => e3 (UInt8.toNat_inj.1 h))
                    have e3c : ((meant[i].toNat : Int) = (meant[j].toNat : Int)) = False := eq_false (fun h => e3 (UInt8.toNat_inj.1 (Int.ofNat_inj.1 h)))
                    clear e1 e2 e3
                    as_aux_lemma =>
                      have bS : w6.cell? ⟨w.heap.size, 0, none⟩ = some (.int .i64 c0) := hI6.box.cell (i := 0) (by decide)
                      have tS : w6.cell? ⟨w.heap.size + 1, j, none⟩ = some (.slice (some ⟨R' j, 0, none⟩) (typed.size + 1) (typed.size + 1)) := by simpa [kT, show j < i + 1 + 1 by omega] using hI6.top.cell (i := j) (by omega)
                      have dS : w6.cell? ⟨R' j, q, none⟩ = some (.int .i64 (Z j q)) := (hI6.done j (by omega)).cell (by omega)
                      go_wp2
                      refine wp_region_any (by kernel_rfl) ?_
                      change wpAny _ _ _ _ _ _ _ (World.drew _)
                      refine kO (fun a0 hA => ?_)
                      have f8 : a0.tmps.getD 8 undef = Value.int IntKind.i64 ((i : Int) + 1) := by rw [hA]; rfl
                      have f9 : a0.tmps.getD 9 undef = Value.int IntKind.i64 ((k : Int) + 1) := by rw [hA]; rfl
                      have f1 : a0.tmps.getD 1 undef = Value.string typed := by rw [hA]; rfl
                      have f2 : a0.tmps.getD 2 undef = Value.string meant := by rw [hA]; rfl
                      have wq : IntKind.i64.wrap (q : Int) = (q : Int) := wrap_small (by omega) (by omega)
                      have wj : IntKind.i64.wrap (j : Int) = (j : Int) := wrap_small (by omega) (by omega)
                      have wi : IntKind.i64.wrap (i : Int) = (i : Int) := wrap_small (by omega) (by omega)
                      have wk : IntKind.i64.wrap (k : Int) = (k : Int) := wrap_small (by omega) (by omega)
                      have hs : a0.tmps.size = 170 := by rw [hA]; rfl
                      refine bO (v := Value.int IntKind.i64 ((i : Int) + 1)) (i := 0) (d := 101) rfl (by kernel_rfl) (by kernel_rfl) (by kernel_rfl) (fun _ _ _ h => h) ?yr0c4 (fun a1 h1 => ?kr0c4)
                      case yr0c4 => intro w; first | (go_simp; done) | (go_simp; with_reducible rfl)
                      replace f1 := ab h1 1 _ rfl f1
                      replace f2 := ab h1 2 _ rfl f2
                      replace f8 := ab h1 8 _ rfl f8
                      replace f9 := ab h1 9 _ rfl f9
                      have f101 := put_eq h1 hs rfl
                      replace hs := ah h1 hs
                      refine bO (v := Value.bool true) (i := 1) (d := 102) rfl (by kernel_rfl) (by kernel_rfl) (by kernel_rfl) (fun _ _ _ h => h) ?yr1c4 (fun a2 h2 => ?kr1c4)
                      case yr1c4 => intro w; first | (go_simp; done) | (go_simp; with_reducible rfl)
                      replace f1 := ab h2 1 _ rfl f1
                      replace f2 := ab h2 2 _ rfl f2
                      replace f8 := ab h2 8 _ rfl f8
                      replace f9 := ab h2 9 _ rfl f9
                      clear f101
                      have f102 := put_eq h2 hs rfl
                      replace hs := ah h2 hs
                      refine bO (v := Value.bool true) (i := 2) (d := 103) rfl (by kernel_rfl) (by kernel_rfl) (by kernel_rfl) (fun _ _ _ h => h) ?yr2c4 (fun a3 h3 => ?kr2c4)
                      case yr2c4 => intro w; first | (go_simp; done) | (go_simp; with_reducible rfl)
                      replace f1 := ab h3 1 _ rfl f1
                      replace f2 := ab h3 2 _ rfl f2
                      replace f8 := ab h3 8 _ rfl f8
                      replace f9 := ab h3 9 _ rfl f9
                      clear f102
                      have f103 := put_eq h3 hs rfl
                      replace hs := ah h3 hs
                      refine aD (v := Value.int IntKind.i64 ((k : Int) + 1)) (j := 2) (i := 3) (d := 104) rfl (by kernel_rfl) (by kernel_rfl) (by kernel_rfl) (fun _ _ _ h => h) (ag rfl hs rfl f103) ?yr3c4 (fun a4 h4 => ?kr3c4)
                      case yr3c4 => intro w; first | (go_simp; done) | (go_simp; with_reducible rfl)
                      replace f1 := ab h4 1 _ rfl f1
                      replace f2 := ab h4 2 _ rfl f2
                      replace f8 := ab h4 8 _ rfl f8
                      replace f9 := ab h4 9 _ rfl f9
                      replace f103 := ab h4 103 _ rfl f103
                      have f104 := put_eq h4 hs rfl
                      replace hs := ah h4 hs
                      refine aD (v := Value.bool true) (j := 2) (i := 4) (d := 105) rfl (by kernel_rfl) (by kernel_rfl) (by kernel_rfl) (fun _ _ _ h => h) (ag rfl hs rfl f103) ?yr4c4 (fun a5 h5 => ?kr4c4)
                      case yr4c4 => intro w; first | (go_simp; done) | (go_simp; with_reducible rfl)
                      replace f1 := ab h5 1 _ rfl f1
                      replace f2 := ab h5 2 _ rfl f2
                      replace f8 := ab h5 8 _ rfl f8
                      replace f9 := ab h5 9 _ rfl f9
                      replace f103 := ab h5 103 _ rfl f103
                      clear f104
                      have f105 := put_eq h5 hs rfl
                      replace hs := ah h5 hs
                      refine bO (v := Value.bool true) (i := 5) (d := 106) rfl (by kernel_rfl) (by kernel_rfl) (by kernel_rfl) (fun _ _ _ h => h) ?yr5c4 (fun a6 h6 => ?kr5c4)
                      case yr5c4 => intro w; first | (go_simp; done) | (go_simp; with_reducible rfl)
                      replace f1 := ab h6 1 _ rfl f1
                      replace f2 := ab h6 2 _ rfl f2
                      replace f8 := ab h6 8 _ rfl f8
                      replace f9 := ab h6 9 _ rfl f9
                      clear f103
                      clear f105
                      have f106 := put_eq h6 hs rfl
                      replace hs := ah h6 hs
                      refine bO (v := Value.bool true) (i := 6) (d := 107) rfl (by kernel_rfl) (by kernel_rfl) (by kernel_rfl) (fun _ _ _ h => h) ?yr6c4 (fun a7 h7 => ?kr6c4)
                      case yr6c4 => intro w; first | (go_simp; done) | (go_simp; with_reducible rfl)
                      replace f1 := ab h7 1 _ rfl f1
                      replace f2 := ab h7 2 _ rfl f2
                      replace f8 := ab h7 8 _ rfl f8
                      replace f9 := ab h7 9 _ rfl f9
                      clear f106
                      have f107 := put_eq h7 hs rfl
                      replace hs := ah h7 hs
                      refine aD (v := Value.string meant) (j := 6) (i := 7) (d := 108) rfl (by kernel_rfl) (by kernel_rfl) (by kernel_rfl) (fun _ _ _ h => h) (ag rfl hs rfl f107) ?yr7c4 (fun a8 h8 => ?kr7c4)
                      case yr7c4 => intro w; first | (go_simp; done) | (go_simp; with_reducible rfl)
                      replace f1 := ab h8 1 _ rfl f1
                      replace f2 := ab h8 2 _ rfl f2
                      replace f8 := ab h8 8 _ rfl f8
                      replace f9 := ab h8 9 _ rfl f9
                      replace f107 := ab h8 107 _ rfl f107
                      have f108 := put_eq h8 hs rfl
                      replace hs := ah h8 hs
                      refine aD (v := Value.int IntKind.i64 ((i : Int) + 1)) (j := 6) (i := 8) (d := 109) rfl (by kernel_rfl) (by kernel_rfl) (by kernel_rfl) (fun _ _ _ h => h) (ag rfl hs rfl f107) ?yr8c4 (fun a9 h9 => ?kr8c4)
                      case yr8c4 => intro w; first | (go_simp; done) | (go_simp; with_reducible rfl)
                      replace f1 := ab h9 1 _ rfl f1
                      replace f2 := ab h9 2 _ rfl f2
                      replace f8 := ab h9 8 _ rfl f8
                      replace f9 := ab h9 9 _ rfl f9
                      replace f107 := ab h9 107 _ rfl f107
                      replace f108 := ab h9 108 _ rfl f108
                      have f109 := put_eq h9 hs rfl
                      replace hs := ah h9 hs
                      refine aD (v := Value.int IntKind.i64 (i : Int)) (j := 6) (i := 9) (d := 110) rfl (by kernel_rfl) (by kernel_rfl) (by kernel_rfl) (fun _ _ _ h => h) (ag rfl hs rfl f107) ?yr9c4 (fun a10 h10 => ?kr9c4)
                      case yr9c4 => intro w; first | (go_simp; done) | (go_simp; with_reducible rfl)
                      replace f1 := ab h10 1 _ rfl f1
                      replace f2 := ab h10 2 _ rfl f2
                      replace f8 := ab h10 8 _ rfl f8
                      replace f9 := ab h10 9 _ rfl f9
                      replace f107 := ab h10 107 _ rfl f107
                      replace f108 := ab h10 108 _ rfl f108
                      clear f109
                      have f110 := put_eq h10 hs rfl
                      replace hs := ah h10 hs
                      refine aD (v := Value.int IntKind.u8 (meant[i].toNat : Int)) (j := 6) (i := 10) (d := 111) rfl (by kernel_rfl) (by kernel_rfl) (by kernel_rfl) (fun _ _ _ h => h) (ag rfl hs rfl f107) ?yr10c4 (fun a11 h11 => ?kr10c4)
                      case yr10c4 => intro w; first | (go_simp; done) | (go_simp; with_reducible rfl)
                      replace f1 := ab h11 1 _ rfl f1
                      replace f2 := ab h11 2 _ rfl f2
                      replace f8 := ab h11 8 _ rfl f8
                      replace f9 := ab h11 9 _ rfl f9
                      replace f107 := ab h11 107 _ rfl f107
                      clear f108
                      clear f110
                      have f111 := put_eq h11 hs rfl
                      replace hs := ah h11 hs
                      refine aD (v := Value.string typed) (j := 6) (i := 11) (d := 112) rfl (by kernel_rfl) (by kernel_rfl) (by kernel_rfl) (fun _ _ _ h => h) (ag rfl hs rfl f107) ?yr11c4 (fun a12 h12 => ?kr11c4)
                      case yr11c4 => intro w; first | (go_simp; done) | (go_simp; with_reducible rfl)
                      replace f1 := ab h12 1 _ rfl f1
                      replace f2 := ab h12 2 _ rfl f2
                      replace f8 := ab h12 8 _ rfl f8
                      replace f9 := ab h12 9 _ rfl f9
                      replace f107 := ab h12 107 _ rfl f107
                      replace f111 := ab h12 111 _ rfl f111
                      have f112 := put_eq h12 hs rfl
                      replace hs := ah h12 hs
                      refine aD (v := Value.int IntKind.i64 ((k : Int) + 1)) (j := 6) (i := 12) (d := 113) rfl (by kernel_rfl) (by kernel_rfl) (by kernel_rfl) (fun _ _ _ h => h) (ag rfl hs rfl f107) ?yr12c4 (fun a13 h13 => ?kr12c4)
                      case yr12c4 => intro w; first | (go_simp; done) | (go_simp; with_reducible rfl)
                      replace f1 := ab h13 1 _ rfl f1
                      replace f2 := ab h13 2 _ rfl f2
                      replace f8 := ab h13 8 _ rfl f8
                      replace f9 := ab h13 9 _ rfl f9
                      replace f107 := ab h13 107 _ rfl f107
                      replace f111 := ab h13 111 _ rfl f111
                      replace f112 := ab h13 112 _ rfl f112
                      have f113 := put_eq h13 hs rfl
                      replace hs := ah h13 hs
                      refine aD (v := Value.int IntKind.i64 (q : Int)) (j := 6) (i := 13) (d := 114) rfl (by kernel_rfl) (by kernel_rfl) (by kernel_rfl) (fun _ _ _ h => h) (ag rfl hs rfl f107) ?yr13c4 (fun a14 h14 => ?kr13c4)
                      case yr13c4 => intro w; first | (go_simp; done) | (go_simp; with_reducible rfl)
                      replace f1 := ab h14 1 _ rfl f1
                      replace f2 := ab h14 2 _ rfl f2
                      replace f8 := ab h14 8 _ rfl f8
                      replace f9 := ab h14 9 _ rfl f9
                      replace f107 := ab h14 107 _ rfl f107
                      replace f111 := ab h14 111 _ rfl f111
                      replace f112 := ab h14 112 _ rfl f112
                      clear f113
                      have f114 := put_eq h14 hs rfl
                      replace hs := ah h14 hs
                      refine aD (v := Value.int IntKind.u8 (typed[q].toNat : Int)) (j := 6) (i := 14) (d := 115) rfl (by kernel_rfl) (by kernel_rfl) (by kernel_rfl) (fun _ _ _ h => h) (ag rfl hs rfl f107) ?yr14c4 (fun a15 h15 => ?kr14c4)
                      case yr14c4 => intro w; first | (go_simp; done) | (go_simp; with_reducible rfl)
                      replace f1 := ab h15 1 _ rfl f1
                      replace f2 := ab h15 2 _ rfl f2
                      replace f8 := ab h15 8 _ rfl f8
                      replace f9 := ab h15 9 _ rfl f9
                      replace f107 := ab h15 107 _ rfl f107
                      replace f111 := ab h15 111 _ rfl f111
                      clear f112
                      clear f114
                      have f115 := put_eq h15 hs rfl
                      replace hs := ah h15 hs
                      refine aD (v := Value.bool true) (j := 6) (i := 15) (d := 116) rfl (by kernel_rfl) (by kernel_rfl) (by kernel_rfl) (fun _ _ _ h => h) (ag rfl hs rfl f107) ?yr15c4 (fun a16 h16 => ?kr15c4)
                      case yr15c4 => intro w; first | (go_simp; done) | (go_simp; with_reducible rfl)
                      replace f1 := ab h16 1 _ rfl f1
                      replace f2 := ab h16 2 _ rfl f2
                      replace f8 := ab h16 8 _ rfl f8
                      replace f9 := ab h16 9 _ rfl f9
                      replace f107 := ab h16 107 _ rfl f107
                      clear f111
                      clear f115
                      have f116 := put_eq h16 hs rfl
                      replace hs := ah h16 hs
                      refine bO (v := Value.bool true) (i := 16) (d := 117) rfl (by kernel_rfl) (by kernel_rfl) (by kernel_rfl) (fun _ _ _ h => h) ?yr16c4 (fun a17 h17 => ?kr16c4)
                      case yr16c4 => intro w; first | (go_simp; done) | (go_simp; with_reducible rfl)
                      replace f1 := ab h17 1 _ rfl f1
                      replace f2 := ab h17 2 _ rfl f2
                      replace f8 := ab h17 8 _ rfl f8
                      replace f9 := ab h17 9 _ rfl f9
                      clear f107
                      clear f116
                      have f117 := put_eq h17 hs rfl
                      replace hs := ah h17 hs
                      refine bO (v := Value.bool true) (i := 17) (d := 118) rfl (by kernel_rfl) (by kernel_rfl) (by kernel_rfl) (fun _ _ _ h => h) ?yr17c4 (fun a18 h18 => ?kr17c4)
                      case yr17c4 => intro w; first | (go_simp; done) | (go_simp; with_reducible rfl)
                      replace f1 := ab h18 1 _ rfl f1
                      replace f2 := ab h18 2 _ rfl f2
                      replace f8 := ab h18 8 _ rfl f8
                      replace f9 := ab h18 9 _ rfl f9
                      clear f117
                      have f118 := put_eq h18 hs rfl
                      replace hs := ah h18 hs
                      refine aD (v := Value.string meant) (j := 17) (i := 18) (d := 119) rfl (by kernel_rfl) (by kernel_rfl) (by kernel_rfl) (fun _ _ _ h => h) (ag rfl hs rfl f118) ?yr18c4 (fun a19 h19 => ?kr18c4)
                      case yr18c4 => intro w; first | (go_simp; done) | (go_simp; with_reducible rfl)
                      replace f1 := ab h19 1 _ rfl f1
                      replace f2 := ab h19 2 _ rfl f2
                      replace f8 := ab h19 8 _ rfl f8
                      replace f9 := ab h19 9 _ rfl f9
                      replace f118 := ab h19 118 _ rfl f118
                      have f119 := put_eq h19 hs rfl
                      replace hs := ah h19 hs
                      refine aD (v := Value.int IntKind.i64 ((i : Int) + 1)) (j := 17) (i := 19) (d := 120) rfl (by kernel_rfl) (by kernel_rfl) (by kernel_rfl) (fun _ _ _ h => h) (ag rfl hs rfl f118) ?yr19c4 (fun a20 h20 => ?kr19c4)
                      case yr19c4 => intro w; first | (go_simp; done) | (go_simp; with_reducible rfl)
                      replace f1 := ab h20 1 _ rfl f1
                      replace f2 := ab h20 2 _ rfl f2
                      replace f8 := ab h20 8 _ rfl f8
                      replace f9 := ab h20 9 _ rfl f9
                      replace f118 := ab h20 118 _ rfl f118
                      replace f119 := ab h20 119 _ rfl f119
                      have f120 := put_eq h20 hs rfl
                      replace hs := ah h20 hs
                      refine aD (v := Value.int IntKind.i64 (j : Int)) (j := 17) (i := 20) (d := 121) rfl (by kernel_rfl) (by kernel_rfl) (by kernel_rfl) (fun _ _ _ h => h) (ag rfl hs rfl f118) ?yr20c4 (fun a21 h21 => ?kr20c4)
                      case yr20c4 => intro w; first | (go_simp; done) | (go_simp; with_reducible rfl)
                      replace f1 := ab h21 1 _ rfl f1
                      replace f2 := ab h21 2 _ rfl f2
                      replace f8 := ab h21 8 _ rfl f8
                      replace f9 := ab h21 9 _ rfl f9
                      replace f118 := ab h21 118 _ rfl f118
                      replace f119 := ab h21 119 _ rfl f119
                      clear f120
                      have f121 := put_eq h21 hs rfl
                      replace hs := ah h21 hs
                      refine aD (v := Value.int IntKind.u8 (meant[j].toNat : Int)) (j := 17) (i := 21) (d := 122) rfl (by kernel_rfl) (by kernel_rfl) (by kernel_rfl) (fun _ _ _ h => h) (ag rfl hs rfl f118) ?yr21c4 (fun a22 h22 => ?kr21c4)
                      case yr21c4 => intro w; first | (go_simp; done) | (go_simp; with_reducible rfl)
                      replace f1 := ab h22 1 _ rfl f1
                      replace f2 := ab h22 2 _ rfl f2
                      replace f8 := ab h22 8 _ rfl f8
                      replace f9 := ab h22 9 _ rfl f9
                      replace f118 := ab h22 118 _ rfl f118
                      clear f119
                      clear f121
                      have f122 := put_eq h22 hs rfl
                      replace hs := ah h22 hs
                      refine aD (v := Value.string typed) (j := 17) (i := 22) (d := 123) rfl (by kernel_rfl) (by kernel_rfl) (by kernel_rfl) (fun _ _ _ h => h) (ag rfl hs rfl f118) ?yr22c4 (fun a23 h23 => ?kr22c4)
                      case yr22c4 => intro w; first | (go_simp; done) | (go_simp; with_reducible rfl)
                      clear f1
                      replace f2 := ab h23 2 _ rfl f2
                      replace f8 := ab h23 8 _ rfl f8
                      replace f9 := ab h23 9 _ rfl f9
                      replace f118 := ab h23 118 _ rfl f118
                      replace f122 := ab h23 122 _ rfl f122
                      have f123 := put_eq h23 hs rfl
                      replace hs := ah h23 hs
                      refine aD (v := Value.int IntKind.i64 ((k : Int) + 1)) (j := 17) (i := 23) (d := 124) rfl (by kernel_rfl) (by kernel_rfl) (by kernel_rfl) (fun _ _ _ h => h) (ag rfl hs rfl f118) ?yr23c4 (fun a24 h24 => ?kr23c4)
                      case yr23c4 => intro w; first | (go_simp; done) | (go_simp; with_reducible rfl)
                      replace f2 := ab h24 2 _ rfl f2
                      replace f8 := ab h24 8 _ rfl f8
                      clear f9
                      replace f118 := ab h24 118 _ rfl f118
                      replace f122 := ab h24 122 _ rfl f122
                      replace f123 := ab h24 123 _ rfl f123
                      have f124 := put_eq h24 hs rfl
                      replace hs := ah h24 hs
                      refine aD (v := Value.int IntKind.i64 (k : Int)) (j := 17) (i := 24) (d := 125) rfl (by kernel_rfl) (by kernel_rfl) (by kernel_rfl) (fun _ _ _ h => h) (ag rfl hs rfl f118) ?yr24c4 (fun a25 h25 => ?kr24c4)
                      case yr24c4 => intro w; first | (go_simp; done) | (go_simp; with_reducible rfl)
                      replace f2 := ab h25 2 _ rfl f2
                      replace f8 := ab h25 8 _ rfl f8
                      replace f118 := ab h25 118 _ rfl f118
                      replace f122 := ab h25 122 _ rfl f122
                      replace f123 := ab h25 123 _ rfl f123
                      clear f124
                      have f125 := put_eq h25 hs rfl
                      replace hs := ah h25 hs
                      refine aD (v := Value.int IntKind.u8 (typed[k].toNat : Int)) (j := 17) (i := 25) (d := 126) rfl (by kernel_rfl) (by kernel_rfl) (by kernel_rfl) (fun _ _ _ h => h) (ag rfl hs rfl f118) ?yr25c4 (fun a26 h26 => ?kr25c4)
                      case yr25c4 => intro w; first | (go_simp; done) | (go_simp; with_reducible rfl)
                      replace f2 := ab h26 2 _ rfl f2
                      replace f8 := ab h26 8 _ rfl f8
                      replace f118 := ab h26 118 _ rfl f118
                      replace f122 := ab h26 122 _ rfl f122
                      clear f123
                      clear f125
                      have f126 := put_eq h26 hs rfl
                      replace hs := ah h26 hs
                      refine aD (v := Value.bool true) (j := 17) (i := 26) (d := 127) rfl (by kernel_rfl) (by kernel_rfl) (by kernel_rfl) (fun _ _ _ h => h) (ag rfl hs rfl f118) ?yr26c4 (fun a27 h27 => ?kr26c4)
                      case yr26c4 => intro w; first | (go_simp; done) | (go_simp; with_reducible rfl)
                      replace f2 := ab h27 2 _ rfl f2
                      replace f8 := ab h27 8 _ rfl f8
                      replace f118 := ab h27 118 _ rfl f118
                      clear f122
                      clear f126
                      have f127 := put_eq h27 hs rfl
                      replace hs := ah h27 hs
                      refine bO (v := Value.bool true) (i := 27) (d := 128) rfl (by kernel_rfl) (by kernel_rfl) (by kernel_rfl) (fun _ _ _ h => h) ?yr27c4 (fun a28 h28 => ?kr27c4)
                      case yr27c4 => intro w; first | (go_simp; done) | (go_simp; with_reducible rfl)
                      replace f2 := ab h28 2 _ rfl f2
                      replace f8 := ab h28 8 _ rfl f8
                      clear f118
                      clear f127
                      have f128 := put_eq h28 hs rfl
                      replace hs := ah h28 hs
                      refine bO (v := Value.bool true) (i := 28) (d := 129) rfl (by kernel_rfl) (by kernel_rfl) (by kernel_rfl) (fun _ _ _ h => h) ?yr28c4 (fun a29 h29 => ?kr28c4)
                      case yr28c4 => intro w; first | (go_simp; done) | (go_simp; with_reducible rfl)
                      replace f2 := ab h29 2 _ rfl f2
                      replace f8 := ab h29 8 _ rfl f8
                      clear f128
                      have f129 := put_eq h29 hs rfl
                      replace hs := ah h29 hs
                      refine aD (v := Value.string meant) (j := 28) (i := 29) (d := 130) rfl (by kernel_rfl) (by kernel_rfl) (by kernel_rfl) (fun _ _ _ h => h) (ag rfl hs rfl f129) ?yr29c4 (fun a30 h30 => ?kr29c4)
                      case yr29c4 => intro w; first | (go_simp; done) | (go_simp; with_reducible rfl)
                      replace f2 := ab h30 2 _ rfl f2
                      replace f8 := ab h30 8 _ rfl f8
                      replace f129 := ab h30 129 _ rfl f129
                      have f130 := put_eq h30 hs rfl
                      replace hs := ah h30 hs
                      refine aD (v := Value.int IntKind.i64 ((i : Int) + 1)) (j := 28) (i := 30) (d := 131) rfl (by kernel_rfl) (by kernel_rfl) (by kernel_rfl) (fun _ _ _ h => h) (ag rfl hs rfl f129) ?yr30c4 (fun a31 h31 => ?kr30c4)
                      case yr30c4 => intro w; first | (go_simp; done) | (go_simp; with_reducible rfl)
                      replace f2 := ab h31 2 _ rfl f2
                      replace f8 := ab h31 8 _ rfl f8
                      replace f129 := ab h31 129 _ rfl f129
                      replace f130 := ab h31 130 _ rfl f130
                      have f131 := put_eq h31 hs rfl
                      replace hs := ah h31 hs
                      refine aD (v := Value.int IntKind.i64 (i : Int)) (j := 28) (i := 31) (d := 132) rfl (by kernel_rfl) (by kernel_rfl) (by kernel_rfl) (fun _ _ _ h => h) (ag rfl hs rfl f129) ?yr31c4 (fun a32 h32 => ?kr31c4)
                      case yr31c4 => intro w; first | (go_simp; done) | (go_simp; with_reducible rfl)
                      replace f2 := ab h32 2 _ rfl f2
                      replace f8 := ab h32 8 _ rfl f8
                      replace f129 := ab h32 129 _ rfl f129
                      replace f130 := ab h32 130 _ rfl f130
                      clear f131
                      have f132 := put_eq h32 hs rfl
                      replace hs := ah h32 hs
                      refine aD (v := Value.int IntKind.u8 (meant[i].toNat : Int)) (j := 28) (i := 32) (d := 133) rfl (by kernel_rfl) (by kernel_rfl) (by kernel_rfl) (fun _ _ _ h => h) (ag rfl hs rfl f129) ?yr32c4 (fun a33 h33 => ?kr32c4)
                      case yr32c4 => intro w; first | (go_simp; done) | (go_simp; with_reducible rfl)
                      replace f2 := ab h33 2 _ rfl f2
                      replace f8 := ab h33 8 _ rfl f8
                      replace f129 := ab h33 129 _ rfl f129
                      clear f130
                      clear f132
                      have f133 := put_eq h33 hs rfl
                      replace hs := ah h33 hs
                      refine aD (v := Value.string meant) (j := 28) (i := 33) (d := 134) rfl (by kernel_rfl) (by kernel_rfl) (by kernel_rfl) (fun _ _ _ h => h) (ag rfl hs rfl f129) ?yr33c4 (fun a34 h34 => ?kr33c4)
                      case yr33c4 => intro w; first | (go_simp; done) | (go_simp; with_reducible rfl)
                      clear f2
                      replace f8 := ab h34 8 _ rfl f8
                      replace f129 := ab h34 129 _ rfl f129
                      replace f133 := ab h34 133 _ rfl f133
                      have f134 := put_eq h34 hs rfl
                      replace hs := ah h34 hs
                      refine aD (v := Value.int IntKind.i64 ((i : Int) + 1)) (j := 28) (i := 34) (d := 135) rfl (by kernel_rfl) (by kernel_rfl) (by kernel_rfl) (fun _ _ _ h => h) (ag rfl hs rfl f129) ?yr34c4 (fun a35 h35 => ?kr34c4)
                      case yr34c4 => intro w; first | (go_simp; done) | (go_simp; with_reducible rfl)
                      clear f8
                      replace f129 := ab h35 129 _ rfl f129
                      replace f133 := ab h35 133 _ rfl f133
                      replace f134 := ab h35 134 _ rfl f134
                      have f135 := put_eq h35 hs rfl
                      replace hs := ah h35 hs
                      refine aD (v := Value.int IntKind.i64 (j : Int)) (j := 28) (i := 35) (d := 136) rfl (by kernel_rfl) (by kernel_rfl) (by kernel_rfl) (fun _ _ _ h => h) (ag rfl hs rfl f129) ?yr35c4 (fun a36 h36 => ?kr35c4)
                      case yr35c4 => intro w; first | (go_simp; done) | (go_simp; with_reducible rfl)
                      replace f129 := ab h36 129 _ rfl f129
                      replace f133 := ab h36 133 _ rfl f133
                      replace f134 := ab h36 134 _ rfl f134
                      clear f135
                      have f136 := put_eq h36 hs rfl
                      replace hs := ah h36 hs
                      refine aD (v := Value.int IntKind.u8 (meant[j].toNat : Int)) (j := 28) (i := 36) (d := 137) rfl (by kernel_rfl) (by kernel_rfl) (by kernel_rfl) (fun _ _ _ h => h) (ag rfl hs rfl f129) ?yr36c4 (fun a37 h37 => ?kr36c4)
                      case yr36c4 => intro w; first | (go_simp; done) | (go_simp; with_reducible rfl)
                      replace f129 := ab h37 129 _ rfl f129
                      replace f133 := ab h37 133 _ rfl f133
                      clear f134
                      clear f136
                      have f137 := put_eq h37 hs rfl
                      replace hs := ah h37 hs
                      refine aD (v := Value.bool true) (j := 28) (i := 37) (d := 138) rfl (by kernel_rfl) (by kernel_rfl) (by kernel_rfl) (fun _ _ _ h => h) (ag rfl hs rfl f129) ?yr37c4 (fun a38 h38 => ?kr37c4)
                      case yr37c4 => intro w; first | (go_simp; done) | (go_simp; with_reducible rfl)
                      replace f129 := ab h38 129 _ rfl f129
                      clear f133
                      clear f137
                      have f138 := put_eq h38 hs rfl
                      replace hs := ah h38 hs
                      refine bO (v := Value.bool true) (i := 38) (d := 139) rfl (by kernel_rfl) (by kernel_rfl) (by kernel_rfl) (fun _ _ _ h => h) ?yr38c4 (fun a39 h39 => ?kr38c4)
                      case yr38c4 => intro w; first | (go_simp; done) | (go_simp; with_reducible rfl)
                      clear f129
                      clear f138
                      have f139 := put_eq h39 hs rfl
                      replace hs := ah h39 hs
                      refine wpAny_done (by kernel_rfl) ?_ _
                      clear f139 hs
                      subst h39 h38 h37 h36 h35 h34 h33 h32 h31 h30 h29 h28 h27 h26 h25 h24 h23 h22 h21 h20 h19 h18 h17 h16 h15 h14 h13 h12 h11 h10 h9 h8 h7 h6 h5 h4 h3 h2 h1 hA
                      simp only [Act.put, List.setIfInBounds_toArray, List.set_cons_succ, List.set_cons_zero]
                      go_wp2
                      go_region
                      go_wp2
                      go_roundg (typed.size + 1 - (k + 1 + 1))
                      case measure => omega
                      case rel =>
                        refine ⟨k + 1 + 1, by omega, by omega, by congr 1, ?_⟩
                        first | refine (br hI6 _ ?_).drew | refine (br hI6 _ ?_).drew.drew | refine br hI6 _ ?_
                        trace_state
                        have hb1 := hle (i + 1) (k + 1) (by omega) (by omega)
                        have hb2 := hle i (k + 1) (by omega) (by omega)
                        have hb3 := hle (i + 1) k (by omega) (by omega)
                        have hb4 := hle i k (by omega) (by omega)
                        have hq1 := prod (i + 1) (by omega) c1 hc1
                        have hq2 := prod (k + 1) (by omega) c2 hc2
                        have hq3 := prod i (by omega) c1 hc1
                        have hq4 := prod k (by omega) c2 hc2
                        have hpp := hp (meant[i]'(by omega)) (typed[k]'(by omega))
                        have hb5 := hle j q (by omega) (by omega)
                        have hq5 := prod j (by omega) c1 hc1
                        have hq6 := prod q (by omega) c2 hc2
                        simp only [Int.natCast_add, Int.natCast_one] at hb1 hb2 hb3 hb4 hq1 hq2
                        have hz := hz ()
                        simp (disch := omega) only [IntWalk.wrap64_in, IntWalk.i64_in]
                        rw [hz] at hb1 ⊢
                        omega
                · skip
                  replace hz := fun (_ : Unit) => hz (fun i2 k2 h3 h4 h5 => by obtain rfl : i2 = j := (by omega); exact e2 h5.2.1)
                  have e1a : (meant[i] = typed[q]) = True := eq_true e1
                  have e1b : (meant[i].toNat = typed[q].toNat) = True := eq_true (congrArg UInt8.toNat e1)
                  have e1c : ((meant[i].toNat : Int) = (typed[q].toNat : Int)) = True := eq_true (congrArg (fun z : UInt8 => (z.toNat : Int)) e1)
                  have e2a : (meant[j] = typed[k]) = False := eq_false e2
                  have e2b : (meant[j].toNat = typed[k].toNat) = False := eq_false (fun h => e2 (UInt8.toNat_inj.1 h))
                  have e2c : ((meant[j].toNat : Int) = (typed[k].toNat : Int)) = False := eq_false (fun h => e2 (UInt8.toNat_inj.1 (Int.ofNat_inj.1 h)))
                  clear e1 e2
                  as_aux_lemma =>
                    go_wp2
                    refine wp_region_any (by kernel_rfl) ?_
                    change wpAny _ _ _ _ _ _ _ (World.drew _)
                    refine kO (fun a0 hA => ?_)
                    have f8 : a0.tmps.getD 8 undef = Value.int IntKind.i64 ((i : Int) + 1) := by rw [hA]; rfl
                    have f9 : a0.tmps.getD 9 undef = Value.int IntKind.i64 ((k : Int) + 1) := by rw [hA]; rfl
                    have f1 : a0.tmps.getD 1 undef = Value.string typed := by rw [hA]; rfl
                    have f2 : a0.tmps.getD 2 undef = Value.string meant := by rw [hA]; rfl
                    have wq : IntKind.i64.wrap (q : Int) = (q : Int) := wrap_small (by omega) (by omega)
                    have wj : IntKind.i64.wrap (j : Int) = (j : Int) := wrap_small (by omega) (by omega)
                    have wi : IntKind.i64.wrap (i : Int) = (i : Int) := wrap_small (by omega) (by omega)
                    have wk : IntKind.i64.wrap (k : Int) = (k : Int) := wrap_small (by omega) (by omega)
                    have hs : a0.tmps.size = 170 := by rw [hA]; rfl
                    refine bO (v := Value.int IntKind.i64 ((i : Int) + 1)) (i := 0) (d := 101) rfl (by kernel_rfl) (by kernel_rfl) (by kernel_rfl) (fun _ _ _ h => h) ?yr0c2 (fun a1 h1 => ?kr0c2)
                    case yr0c2 => intro w; first | (go_simp; done) | (go_simp; with_reducible rfl)
                    replace f1 := ab h1 1 _ rfl f1
                    replace f2 := ab h1 2 _ rfl f2
                    replace f8 := ab h1 8 _ rfl f8
                    replace f9 := ab h1 9 _ rfl f9
                    have f101 := put_eq h1 hs rfl
                    replace hs := ah h1 hs
                    refine bO (v := Value.bool true) (i := 1) (d := 102) rfl (by kernel_rfl) (by kernel_rfl) (by kernel_rfl) (fun _ _ _ h => h) ?yr1c2 (fun a2 h2 => ?kr1c2)
                    case yr1c2 => intro w; first | (go_simp; done) | (go_simp; with_reducible rfl)
                    replace f1 := ab h2 1 _ rfl f1
                    replace f2 := ab h2 2 _ rfl f2
                    replace f8 := ab h2 8 _ rfl f8
                    replace f9 := ab h2 9 _ rfl f9
                    clear f101
                    have f102 := put_eq h2 hs rfl
                    replace hs := ah h2 hs
                    refine bO (v := Value.bool true) (i := 2) (d := 103) rfl (by kernel_rfl) (by kernel_rfl) (by kernel_rfl) (fun _ _ _ h => h) ?yr2c2 (fun a3 h3 => ?kr2c2)
                    case yr2c2 => intro w; first | (go_simp; done) | (go_simp; with_reducible rfl)
                    replace f1 := ab h3 1 _ rfl f1
                    replace f2 := ab h3 2 _ rfl f2
                    replace f8 := ab h3 8 _ rfl f8
                    replace f9 := ab h3 9 _ rfl f9
                    clear f102
                    have f103 := put_eq h3 hs rfl
                    replace hs := ah h3 hs
                    refine aD (v := Value.int IntKind.i64 ((k : Int) + 1)) (j := 2) (i := 3) (d := 104) rfl (by kernel_rfl) (by kernel_rfl) (by kernel_rfl) (fun _ _ _ h => h) (ag rfl hs rfl f103) ?yr3c2 (fun a4 h4 => ?kr3c2)
                    case yr3c2 => intro w; first | (go_simp; done) | (go_simp; with_reducible rfl)
                    replace f1 := ab h4 1 _ rfl f1
                    replace f2 := ab h4 2 _ rfl f2
                    replace f8 := ab h4 8 _ rfl f8
                    replace f9 := ab h4 9 _ rfl f9
                    replace f103 := ab h4 103 _ rfl f103
                    have f104 := put_eq h4 hs rfl
                    replace hs := ah h4 hs
                    refine aD (v := Value.bool true) (j := 2) (i := 4) (d := 105) rfl (by kernel_rfl) (by kernel_rfl) (by kernel_rfl) (fun _ _ _ h => h) (ag rfl hs rfl f103) ?yr4c2 (fun a5 h5 => ?kr4c2)
                    case yr4c2 => intro w; first | (go_simp; done) | (go_simp; with_reducible rfl)
                    replace f1 := ab h5 1 _ rfl f1
                    replace f2 := ab h5 2 _ rfl f2
                    replace f8 := ab h5 8 _ rfl f8
                    replace f9 := ab h5 9 _ rfl f9
                    replace f103 := ab h5 103 _ rfl f103
                    clear f104
                    have f105 := put_eq h5 hs rfl
                    replace hs := ah h5 hs
                    refine bO (v := Value.bool true) (i := 5) (d := 106) rfl (by kernel_rfl) (by kernel_rfl) (by kernel_rfl) (fun _ _ _ h => h) ?yr5c2 (fun a6 h6 => ?kr5c2)
                    case yr5c2 => intro w; first | (go_simp; done) | (go_simp; with_reducible rfl)
                    replace f1 := ab h6 1 _ rfl f1
                    replace f2 := ab h6 2 _ rfl f2
                    replace f8 := ab h6 8 _ rfl f8
                    replace f9 := ab h6 9 _ rfl f9
                    clear f103
                    clear f105
                    have f106 := put_eq h6 hs rfl
                    replace hs := ah h6 hs
                    refine bO (v := Value.bool true) (i := 6) (d := 107) rfl (by kernel_rfl) (by kernel_rfl) (by kernel_rfl) (fun _ _ _ h => h) ?yr6c2 (fun a7 h7 => ?kr6c2)
                    case yr6c2 => intro w; first | (go_simp; done) | (go_simp; with_reducible rfl)
                    replace f1 := ab h7 1 _ rfl f1
                    replace f2 := ab h7 2 _ rfl f2
                    replace f8 := ab h7 8 _ rfl f8
                    replace f9 := ab h7 9 _ rfl f9
                    clear f106
                    have f107 := put_eq h7 hs rfl
                    replace hs := ah h7 hs
                    refine aD (v := Value.string meant) (j := 6) (i := 7) (d := 108) rfl (by kernel_rfl) (by kernel_rfl) (by kernel_rfl) (fun _ _ _ h => h) (ag rfl hs rfl f107) ?yr7c2 (fun a8 h8 => ?kr7c2)
                    case yr7c2 => intro w; first | (go_simp; done) | (go_simp; with_reducible rfl)
                    replace f1 := ab h8 1 _ rfl f1
                    replace f2 := ab h8 2 _ rfl f2
                    replace f8 := ab h8 8 _ rfl f8
                    replace f9 := ab h8 9 _ rfl f9
                    replace f107 := ab h8 107 _ rfl f107
                    have f108 := put_eq h8 hs rfl
                    replace hs := ah h8 hs
                    refine aD (v := Value.int IntKind.i64 ((i : Int) + 1)) (j := 6) (i := 8) (d := 109) rfl (by kernel_rfl) (by kernel_rfl) (by kernel_rfl) (fun _ _ _ h => h) (ag rfl hs rfl f107) ?yr8c2 (fun a9 h9 => ?kr8c2)
                    case yr8c2 => intro w; first | (go_simp; done) | (go_simp; with_reducible rfl)
                    replace f1 := ab h9 1 _ rfl f1
                    replace f2 := ab h9 2 _ rfl f2
                    replace f8 := ab h9 8 _ rfl f8
                    replace f9 := ab h9 9 _ rfl f9
                    replace f107 := ab h9 107 _ rfl f107
                    replace f108 := ab h9 108 _ rfl f108
                    have f109 := put_eq h9 hs rfl
                    replace hs := ah h9 hs
                    refine aD (v := Value.int IntKind.i64 (i : Int)) (j := 6) (i := 9) (d := 110) rfl (by kernel_rfl) (by kernel_rfl) (by kernel_rfl) (fun _ _ _ h => h) (ag rfl hs rfl f107) ?yr9c2 (fun a10 h10 => ?kr9c2)
                    case yr9c2 => intro w; first | (go_simp; done) | (go_simp; with_reducible rfl)
                    replace f1 := ab h10 1 _ rfl f1
                    replace f2 := ab h10 2 _ rfl f2
                    replace f8 := ab h10 8 _ rfl f8
                    replace f9 := ab h10 9 _ rfl f9
                    replace f107 := ab h10 107 _ rfl f107
                    replace f108 := ab h10 108 _ rfl f108
                    clear f109
                    have f110 := put_eq h10 hs rfl
                    replace hs := ah h10 hs
                    refine aD (v := Value.int IntKind.u8 (meant[i].toNat : Int)) (j := 6) (i := 10) (d := 111) rfl (by kernel_rfl) (by kernel_rfl) (by kernel_rfl) (fun _ _ _ h => h) (ag rfl hs rfl f107) ?yr10c2 (fun a11 h11 => ?kr10c2)
                    case yr10c2 => intro w; first | (go_simp; done) | (go_simp; with_reducible rfl)
                    replace f1 := ab h11 1 _ rfl f1
                    replace f2 := ab h11 2 _ rfl f2
                    replace f8 := ab h11 8 _ rfl f8
                    replace f9 := ab h11 9 _ rfl f9
                    replace f107 := ab h11 107 _ rfl f107
                    clear f108
                    clear f110
                    have f111 := put_eq h11 hs rfl
                    replace hs := ah h11 hs
                    refine aD (v := Value.string typed) (j := 6) (i := 11) (d := 112) rfl (by kernel_rfl) (by kernel_rfl) (by kernel_rfl) (fun _ _ _ h => h) (ag rfl hs rfl f107) ?yr11c2 (fun a12 h12 => ?kr11c2)
                    case yr11c2 => intro w; first | (go_simp; done) | (go_simp; with_reducible rfl)
                    replace f1 := ab h12 1 _ rfl f1
                    replace f2 := ab h12 2 _ rfl f2
                    replace f8 := ab h12 8 _ rfl f8
                    replace f9 := ab h12 9 _ rfl f9
                    replace f107 := ab h12 107 _ rfl f107
                    replace f111 := ab h12 111 _ rfl f111
                    have f112 := put_eq h12 hs rfl
                    replace hs := ah h12 hs
                    refine aD (v := Value.int IntKind.i64 ((k : Int) + 1)) (j := 6) (i := 12) (d := 113) rfl (by kernel_rfl) (by kernel_rfl) (by kernel_rfl) (fun _ _ _ h => h) (ag rfl hs rfl f107) ?yr12c2 (fun a13 h13 => ?kr12c2)
                    case yr12c2 => intro w; first | (go_simp; done) | (go_simp; with_reducible rfl)
                    replace f1 := ab h13 1 _ rfl f1
                    replace f2 := ab h13 2 _ rfl f2
                    replace f8 := ab h13 8 _ rfl f8
                    replace f9 := ab h13 9 _ rfl f9
                    replace f107 := ab h13 107 _ rfl f107
                    replace f111 := ab h13 111 _ rfl f111
                    replace f112 := ab h13 112 _ rfl f112
                    have f113 := put_eq h13 hs rfl
                    replace hs := ah h13 hs
                    refine aD (v := Value.int IntKind.i64 (q : Int)) (j := 6) (i := 13) (d := 114) rfl (by kernel_rfl) (by kernel_rfl) (by kernel_rfl) (fun _ _ _ h => h) (ag rfl hs rfl f107) ?yr13c2 (fun a14 h14 => ?kr13c2)
                    case yr13c2 => intro w; first | (go_simp; done) | (go_simp; with_reducible rfl)
                    replace f1 := ab h14 1 _ rfl f1
                    replace f2 := ab h14 2 _ rfl f2
                    replace f8 := ab h14 8 _ rfl f8
                    replace f9 := ab h14 9 _ rfl f9
                    replace f107 := ab h14 107 _ rfl f107
                    replace f111 := ab h14 111 _ rfl f111
                    replace f112 := ab h14 112 _ rfl f112
                    clear f113
                    have f114 := put_eq h14 hs rfl
                    replace hs := ah h14 hs
                    refine aD (v := Value.int IntKind.u8 (typed[q].toNat : Int)) (j := 6) (i := 14) (d := 115) rfl (by kernel_rfl) (by kernel_rfl) (by kernel_rfl) (fun _ _ _ h => h) (ag rfl hs rfl f107) ?yr14c2 (fun a15 h15 => ?kr14c2)
                    case yr14c2 => intro w; first | (go_simp; done) | (go_simp; with_reducible rfl)
                    replace f1 := ab h15 1 _ rfl f1
                    replace f2 := ab h15 2 _ rfl f2
                    replace f8 := ab h15 8 _ rfl f8
                    replace f9 := ab h15 9 _ rfl f9
                    replace f107 := ab h15 107 _ rfl f107
                    replace f111 := ab h15 111 _ rfl f111
                    clear f112
                    clear f114
                    have f115 := put_eq h15 hs rfl
                    replace hs := ah h15 hs
                    refine aD (v := Value.bool true) (j := 6) (i := 15) (d := 116) rfl (by kernel_rfl) (by kernel_rfl) (by kernel_rfl) (fun _ _ _ h => h) (ag rfl hs rfl f107) ?yr15c2 (fun a16 h16 => ?kr15c2)
                    case yr15c2 => intro w; first | (go_simp; done) | (go_simp; with_reducible rfl)
                    replace f1 := ab h16 1 _ rfl f1
                    replace f2 := ab h16 2 _ rfl f2
                    replace f8 := ab h16 8 _ rfl f8
                    replace f9 := ab h16 9 _ rfl f9
                    replace f107 := ab h16 107 _ rfl f107
                    clear f111
                    clear f115
                    have f116 := put_eq h16 hs rfl
                    replace hs := ah h16 hs
                    refine bO (v := Value.bool true) (i := 16) (d := 117) rfl (by kernel_rfl) (by kernel_rfl) (by kernel_rfl) (fun _ _ _ h => h) ?yr16c2 (fun a17 h17 => ?kr16c2)
                    case yr16c2 => intro w; first | (go_simp; done) | (go_simp; with_reducible rfl)
                    replace f1 := ab h17 1 _ rfl f1
                    replace f2 := ab h17 2 _ rfl f2
                    replace f8 := ab h17 8 _ rfl f8
                    replace f9 := ab h17 9 _ rfl f9
                    clear f107
                    clear f116
                    have f117 := put_eq h17 hs rfl
                    replace hs := ah h17 hs
                    refine bO (v := Value.bool true) (i := 17) (d := 118) rfl (by kernel_rfl) (by kernel_rfl) (by kernel_rfl) (fun _ _ _ h => h) ?yr17c2 (fun a18 h18 => ?kr17c2)
                    case yr17c2 => intro w; first | (go_simp; done) | (go_simp; with_reducible rfl)
                    replace f1 := ab h18 1 _ rfl f1
                    replace f2 := ab h18 2 _ rfl f2
                    replace f8 := ab h18 8 _ rfl f8
                    replace f9 := ab h18 9 _ rfl f9
                    clear f117
                    have f118 := put_eq h18 hs rfl
                    replace hs := ah h18 hs
                    refine aD (v := Value.string meant) (j := 17) (i := 18) (d := 119) rfl (by kernel_rfl) (by kernel_rfl) (by kernel_rfl) (fun _ _ _ h => h) (ag rfl hs rfl f118) ?yr18c2 (fun a19 h19 => ?kr18c2)
                    case yr18c2 => intro w; first | (go_simp; done) | (go_simp; with_reducible rfl)
                    replace f1 := ab h19 1 _ rfl f1
                    clear f2
                    replace f8 := ab h19 8 _ rfl f8
                    replace f9 := ab h19 9 _ rfl f9
                    replace f118 := ab h19 118 _ rfl f118
                    have f119 := put_eq h19 hs rfl
                    replace hs := ah h19 hs
                    refine aD (v := Value.int IntKind.i64 ((i : Int) + 1)) (j := 17) (i := 19) (d := 120) rfl (by kernel_rfl) (by kernel_rfl) (by kernel_rfl) (fun _ _ _ h => h) (ag rfl hs rfl f118) ?yr19c2 (fun a20 h20 => ?kr19c2)
                    case yr19c2 => intro w; first | (go_simp; done) | (go_simp; with_reducible rfl)
                    replace f1 := ab h20 1 _ rfl f1
                    clear f8
                    replace f9 := ab h20 9 _ rfl f9
                    replace f118 := ab h20 118 _ rfl f118
                    replace f119 := ab h20 119 _ rfl f119
                    have f120 := put_eq h20 hs rfl
                    replace hs := ah h20 hs
                    refine aD (v := Value.int IntKind.i64 (j : Int)) (j := 17) (i := 20) (d := 121) rfl (by kernel_rfl) (by kernel_rfl) (by kernel_rfl) (fun _ _ _ h => h) (ag rfl hs rfl f118) ?yr20c2 (fun a21 h21 => ?kr20c2)
                    case yr20c2 => intro w; first | (go_simp; done) | (go_simp; with_reducible rfl)
                    replace f1 := ab h21 1 _ rfl f1
                    replace f9 := ab h21 9 _ rfl f9
                    replace f118 := ab h21 118 _ rfl f118
                    replace f119 := ab h21 119 _ rfl f119
                    clear f120
                    have f121 := put_eq h21 hs rfl
                    replace hs := ah h21 hs
                    refine aD (v := Value.int IntKind.u8 (meant[j].toNat : Int)) (j := 17) (i := 21) (d := 122) rfl (by kernel_rfl) (by kernel_rfl) (by kernel_rfl) (fun _ _ _ h => h) (ag rfl hs rfl f118) ?yr21c2 (fun a22 h22 => ?kr21c2)
                    case yr21c2 => intro w; first | (go_simp; done) | (go_simp; with_reducible rfl)
                    replace f1 := ab h22 1 _ rfl f1
                    replace f9 := ab h22 9 _ rfl f9
                    replace f118 := ab h22 118 _ rfl f118
                    clear f119
                    clear f121
                    have f122 := put_eq h22 hs rfl
                    replace hs := ah h22 hs
                    refine aD (v := Value.string typed) (j := 17) (i := 22) (d := 123) rfl (by kernel_rfl) (by kernel_rfl) (by kernel_rfl) (fun _ _ _ h => h) (ag rfl hs rfl f118) ?yr22c2 (fun a23 h23 => ?kr22c2)
                    case yr22c2 => intro w; first | (go_simp; done) | (go_simp; with_reducible rfl)
                    clear f1
                    replace f9 := ab h23 9 _ rfl f9
                    replace f118 := ab h23 118 _ rfl f118
                    replace f122 := ab h23 122 _ rfl f122
                    have f123 := put_eq h23 hs rfl
                    replace hs := ah h23 hs
                    refine aD (v := Value.int IntKind.i64 ((k : Int) + 1)) (j := 17) (i := 23) (d := 124) rfl (by kernel_rfl) (by kernel_rfl) (by kernel_rfl) (fun _ _ _ h => h) (ag rfl hs rfl f118) ?yr23c2 (fun a24 h24 => ?kr23c2)
                    case yr23c2 => intro w; first | (go_simp; done) | (go_simp; with_reducible rfl)
                    clear f9
                    replace f118 := ab h24 118 _ rfl f118
                    replace f122 := ab h24 122 _ rfl f122
                    replace f123 := ab h24 123 _ rfl f123
                    have f124 := put_eq h24 hs rfl
                    replace hs := ah h24 hs
                    refine aD (v := Value.int IntKind.i64 (k : Int)) (j := 17) (i := 24) (d := 125) rfl (by kernel_rfl) (by kernel_rfl) (by kernel_rfl) (fun _ _ _ h => h) (ag rfl hs rfl f118) ?yr24c2 (fun a25 h25 => ?kr24c2)
                    case yr24c2 => intro w; first | (go_simp; done) | (go_simp; with_reducible rfl)
                    replace f118 := ab h25 118 _ rfl f118
                    replace f122 := ab h25 122 _ rfl f122
                    replace f123 := ab h25 123 _ rfl f123
                    clear f124
                    have f125 := put_eq h25 hs rfl
                    replace hs := ah h25 hs
                    refine aD (v := Value.int IntKind.u8 (typed[k].toNat : Int)) (j := 17) (i := 25) (d := 126) rfl (by kernel_rfl) (by kernel_rfl) (by kernel_rfl) (fun _ _ _ h => h) (ag rfl hs rfl f118) ?yr25c2 (fun a26 h26 => ?kr25c2)
                    case yr25c2 => intro w; first | (go_simp; done) | (go_simp; with_reducible rfl)
                    replace f118 := ab h26 118 _ rfl f118
                    replace f122 := ab h26 122 _ rfl f122
                    clear f123
                    clear f125
                    have f126 := put_eq h26 hs rfl
                    replace hs := ah h26 hs
                    refine aD (v := Value.bool false) (j := 17) (i := 26) (d := 127) rfl (by kernel_rfl) (by kernel_rfl) (by kernel_rfl) (fun _ _ _ h => h) (ag rfl hs rfl f118) ?yr26c2 (fun a27 h27 => ?kr26c2)
                    case yr26c2 => intro w; first | (go_simp; done) | (go_simp; with_reducible rfl)
                    replace f118 := ab h27 118 _ rfl f118
                    clear f122
                    clear f126
                    have f127 := put_eq h27 hs rfl
                    replace hs := ah h27 hs
                    refine bO (v := Value.bool false) (i := 27) (d := 128) rfl (by kernel_rfl) (by kernel_rfl) (by kernel_rfl) (fun _ _ _ h => h) ?yr27c2 (fun a28 h28 => ?kr27c2)
                    case yr27c2 => intro w; first | (go_simp; done) | (go_simp; with_reducible rfl)
                    clear f118
                    clear f127
                    have f128 := put_eq h28 hs rfl
                    replace hs := ah h28 hs
                    refine bO (v := Value.bool false) (i := 28) (d := 129) rfl (by kernel_rfl) (by kernel_rfl) (by kernel_rfl) (fun _ _ _ h => h) ?yr28c2 (fun a29 h29 => ?kr28c2)
                    case yr28c2 => intro w; first | (go_simp; done) | (go_simp; with_reducible rfl)
                    clear f128
                    have f129 := put_eq h29 hs rfl
                    replace hs := ah h29 hs
                    refine takeN (j := 28) (i := 29) (d := 130) rfl (by kernel_rfl) (by kernel_rfl) (by kernel_rfl) (fun _ _ _ h => h) (ag rfl hs rfl f129) (fun a30 h30 => ?kr29c2)
                    replace f129 := ab h30 129 _ rfl f129
                    replace hs := ah h30 hs
                    refine takeN (j := 28) (i := 30) (d := 131) rfl (by kernel_rfl) (by kernel_rfl) (by kernel_rfl) (fun _ _ _ h => h) (ag rfl hs rfl f129) (fun a31 h31 => ?kr30c2)
                    replace f129 := ab h31 129 _ rfl f129
                    replace hs := ah h31 hs
                    refine takeN (j := 28) (i := 31) (d := 132) rfl (by kernel_rfl) (by kernel_rfl) (by kernel_rfl) (fun _ _ _ h => h) (ag rfl hs rfl f129) (fun a32 h32 => ?kr31c2)
                    replace f129 := ab h32 129 _ rfl f129
                    replace hs := ah h32 hs
                    refine takeN (j := 28) (i := 32) (d := 133) rfl (by kernel_rfl) (by kernel_rfl) (by kernel_rfl) (fun _ _ _ h => h) (ag rfl hs rfl f129) (fun a33 h33 => ?kr32c2)
                    replace f129 := ab h33 129 _ rfl f129
                    replace hs := ah h33 hs
                    refine takeN (j := 28) (i := 33) (d := 134) rfl (by kernel_rfl) (by kernel_rfl) (by kernel_rfl) (fun _ _ _ h => h) (ag rfl hs rfl f129) (fun a34 h34 => ?kr33c2)
                    replace f129 := ab h34 129 _ rfl f129
                    replace hs := ah h34 hs
                    refine takeN (j := 28) (i := 34) (d := 135) rfl (by kernel_rfl) (by kernel_rfl) (by kernel_rfl) (fun _ _ _ h => h) (ag rfl hs rfl f129) (fun a35 h35 => ?kr34c2)
                    replace f129 := ab h35 129 _ rfl f129
                    replace hs := ah h35 hs
                    refine takeN (j := 28) (i := 35) (d := 136) rfl (by kernel_rfl) (by kernel_rfl) (by kernel_rfl) (fun _ _ _ h => h) (ag rfl hs rfl f129) (fun a36 h36 => ?kr35c2)
                    replace f129 := ab h36 129 _ rfl f129
                    replace hs := ah h36 hs
                    refine takeN (j := 28) (i := 36) (d := 137) rfl (by kernel_rfl) (by kernel_rfl) (by kernel_rfl) (fun _ _ _ h => h) (ag rfl hs rfl f129) (fun a37 h37 => ?kr36c2)
                    replace f129 := ab h37 129 _ rfl f129
                    replace hs := ah h37 hs
                    refine takeN (j := 28) (i := 37) (d := 138) rfl (by kernel_rfl) (by kernel_rfl) (by kernel_rfl) (fun _ _ _ h => h) (ag rfl hs rfl f129) (fun a38 h38 => ?kr37c2)
                    replace f129 := ab h38 129 _ rfl f129
                    have f138 := put_eq h38 hs rfl
                    replace hs := ah h38 hs
                    refine bO (v := Value.bool false) (i := 38) (d := 139) rfl (by kernel_rfl) (by kernel_rfl) (by kernel_rfl) (fun _ _ _ h => h) ?yr38c2 (fun a39 h39 => ?kr38c2)
                    case yr38c2 => intro w; first | (go_simp; done) | (go_simp; with_reducible rfl)
                    clear f129
                    clear f138
                    have f139 := put_eq h39 hs rfl
                    replace hs := ah h39 hs
                    refine wpAny_done (by kernel_rfl) ?_ _
                    clear f139 hs
                    subst h39 h38 h37 h36 h35 h34 h33 h32 h31 h30 h29 h28 h27 h26 h25 h24 h23 h22 h21 h20 h19 h18 h17 h16 h15 h14 h13 h12 h11 h10 h9 h8 h7 h6 h5 h4 h3 h2 h1 hA
                    simp only [Act.put, List.setIfInBounds_toArray, List.set_cons_succ, List.set_cons_zero]
                    go_wp2
                    go_roundg (typed.size + 1 - (k + 1 + 1))
                    case measure => omega
                    case rel =>
                      refine ⟨k + 1 + 1, by omega, by omega, by congr 1, ?_⟩
                      first | refine (br hI6 _ ?_).drew | refine (br hI6 _ ?_).drew.drew | refine br hI6 _ ?_
                      trace_state
                      have hb1 := hle (i + 1) (k + 1) (by omega) (by omega)
                      have hb2 := hle i (k + 1) (by omega) (by omega)
                      have hb3 := hle (i + 1) k (by omega) (by omega)
                      have hb4 := hle i k (by omega) (by omega)
                      have hq1 := prod (i + 1) (by omega) c1 hc1
                      have hq2 := prod (k + 1) (by omega) c2 hc2
                      have hq3 := prod i (by omega) c1 hc1
                      have hq4 := prod k (by omega) c2 hc2
                      have hpp := hp (meant[i]'(by omega)) (typed[k]'(by omega))
                      simp only [Int.natCast_add, Int.natCast_one] at hb1 hb2 hb3 hb4 hq1 hq2
                      have hz := hz ()
                      simp (disch := omega) only [IntWalk.wrap64_in, IntWalk.i64_in]
                      rw [hz] at hb1 ⊢
                      omega
              · skip
                replace hz := fun (_ : Unit) => hz (fun i2 k2 h3 h4 h5 => by obtain rfl : k2 = q := (by omega); exact e1 h5.1)
                have e1a : (meant[i] = typed[q]) = False := eq_false e1
                have e1b : (meant[i].toNat = typed[q].toNat) = False := eq_false (fun h => e1 (UInt8.toNat_inj.1 h))
                have e1c : ((meant[i].toNat : Int) = (typed[q].toNat : Int)) = False := eq_false (fun h => e1 (UInt8.toNat_inj.1 (Int.ofNat_inj.1 h)))
                clear e1
                as_aux_lemma =>
                  go_wp2
                  refine wp_region_any (by kernel_rfl) ?_
                  change wpAny _ _ _ _ _ _ _ (World.drew _)
                  refine kO (fun a0 hA => ?_)
                  have f8 : a0.tmps.getD 8 undef = Value.int IntKind.i64 ((i : Int) + 1) := by rw [hA]; rfl
                  have f9 : a0.tmps.getD 9 undef = Value.int IntKind.i64 ((k : Int) + 1) := by rw [hA]; rfl
                  have f1 : a0.tmps.getD 1 undef = Value.string typed := by rw [hA]; rfl
                  have f2 : a0.tmps.getD 2 undef = Value.string meant := by rw [hA]; rfl
                  have wq : IntKind.i64.wrap (q : Int) = (q : Int) := wrap_small (by omega) (by omega)
                  have wj : IntKind.i64.wrap (j : Int) = (j : Int) := wrap_small (by omega) (by omega)
                  have wi : IntKind.i64.wrap (i : Int) = (i : Int) := wrap_small (by omega) (by omega)
                  have wk : IntKind.i64.wrap (k : Int) = (k : Int) := wrap_small (by omega) (by omega)
                  have hs : a0.tmps.size = 170 := by rw [hA]; rfl
                  refine bO (v := Value.int IntKind.i64 ((i : Int) + 1)) (i := 0) (d := 101) rfl (by kernel_rfl) (by kernel_rfl) (by kernel_rfl) (fun _ _ _ h => h) ?yr0c1 (fun a1 h1 => ?kr0c1)
                  case yr0c1 => intro w; first | (go_simp; done) | (go_simp; with_reducible rfl)
                  replace f1 := ab h1 1 _ rfl f1
                  replace f2 := ab h1 2 _ rfl f2
                  replace f8 := ab h1 8 _ rfl f8
                  replace f9 := ab h1 9 _ rfl f9
                  have f101 := put_eq h1 hs rfl
                  replace hs := ah h1 hs
                  refine bO (v := Value.bool true) (i := 1) (d := 102) rfl (by kernel_rfl) (by kernel_rfl) (by kernel_rfl) (fun _ _ _ h => h) ?yr1c1 (fun a2 h2 => ?kr1c1)
                  case yr1c1 => intro w; first | (go_simp; done) | (go_simp; with_reducible rfl)
                  replace f1 := ab h2 1 _ rfl f1
                  replace f2 := ab h2 2 _ rfl f2
                  replace f8 := ab h2 8 _ rfl f8
                  replace f9 := ab h2 9 _ rfl f9
                  clear f101
                  have f102 := put_eq h2 hs rfl
                  replace hs := ah h2 hs
                  refine bO (v := Value.bool true) (i := 2) (d := 103) rfl (by kernel_rfl) (by kernel_rfl) (by kernel_rfl) (fun _ _ _ h => h) ?yr2c1 (fun a3 h3 => ?kr2c1)
                  case yr2c1 => intro w; first | (go_simp; done) | (go_simp; with_reducible rfl)
                  replace f1 := ab h3 1 _ rfl f1
                  replace f2 := ab h3 2 _ rfl f2
                  replace f8 := ab h3 8 _ rfl f8
                  replace f9 := ab h3 9 _ rfl f9
                  clear f102
                  have f103 := put_eq h3 hs rfl
                  replace hs := ah h3 hs
                  refine aD (v := Value.int IntKind.i64 ((k : Int) + 1)) (j := 2) (i := 3) (d := 104) rfl (by kernel_rfl) (by kernel_rfl) (by kernel_rfl) (fun _ _ _ h => h) (ag rfl hs rfl f103) ?yr3c1 (fun a4 h4 => ?kr3c1)
                  case yr3c1 => intro w; first | (go_simp; done) | (go_simp; with_reducible rfl)
                  replace f1 := ab h4 1 _ rfl f1
                  replace f2 := ab h4 2 _ rfl f2
                  replace f8 := ab h4 8 _ rfl f8
                  replace f9 := ab h4 9 _ rfl f9
                  replace f103 := ab h4 103 _ rfl f103
                  have f104 := put_eq h4 hs rfl
                  replace hs := ah h4 hs
                  refine aD (v := Value.bool true) (j := 2) (i := 4) (d := 105) rfl (by kernel_rfl) (by kernel_rfl) (by kernel_rfl) (fun _ _ _ h => h) (ag rfl hs rfl f103) ?yr4c1 (fun a5 h5 => ?kr4c1)
                  case yr4c1 => intro w; first | (go_simp; done) | (go_simp; with_reducible rfl)
                  replace f1 := ab h5 1 _ rfl f1
                  replace f2 := ab h5 2 _ rfl f2
                  replace f8 := ab h5 8 _ rfl f8
                  replace f9 := ab h5 9 _ rfl f9
                  replace f103 := ab h5 103 _ rfl f103
                  clear f104
                  have f105 := put_eq h5 hs rfl
                  replace hs := ah h5 hs
                  refine bO (v := Value.bool true) (i := 5) (d := 106) rfl (by kernel_rfl) (by kernel_rfl) (by kernel_rfl) (fun _ _ _ h => h) ?yr5c1 (fun a6 h6 => ?kr5c1)
                  case yr5c1 => intro w; first | (go_simp; done) | (go_simp; with_reducible rfl)
                  replace f1 := ab h6 1 _ rfl f1
                  replace f2 := ab h6 2 _ rfl f2
                  replace f8 := ab h6 8 _ rfl f8
                  replace f9 := ab h6 9 _ rfl f9
                  clear f103
                  clear f105
                  have f106 := put_eq h6 hs rfl
                  replace hs := ah h6 hs
                  refine bO (v := Value.bool true) (i := 6) (d := 107) rfl (by kernel_rfl) (by kernel_rfl) (by kernel_rfl) (fun _ _ _ h => h) ?yr6c1 (fun a7 h7 => ?kr6c1)
                  case yr6c1 => intro w; first | (go_simp; done) | (go_simp; with_reducible rfl)
                  replace f1 := ab h7 1 _ rfl f1
                  replace f2 := ab h7 2 _ rfl f2
                  replace f8 := ab h7 8 _ rfl f8
                  replace f9 := ab h7 9 _ rfl f9
                  clear f106
                  have f107 := put_eq h7 hs rfl
                  replace hs := ah h7 hs
                  refine aD (v := Value.string meant) (j := 6) (i := 7) (d := 108) rfl (by kernel_rfl) (by kernel_rfl) (by kernel_rfl) (fun _ _ _ h => h) (ag rfl hs rfl f107) ?yr7c1 (fun a8 h8 => ?kr7c1)
                  case yr7c1 => intro w; first | (go_simp; done) | (go_simp; with_reducible rfl)
                  replace f1 := ab h8 1 _ rfl f1
                  clear f2
                  replace f8 := ab h8 8 _ rfl f8
                  replace f9 := ab h8 9 _ rfl f9
                  replace f107 := ab h8 107 _ rfl f107
                  have f108 := put_eq h8 hs rfl
                  replace hs := ah h8 hs
                  refine aD (v := Value.int IntKind.i64 ((i : Int) + 1)) (j := 6) (i := 8) (d := 109) rfl (by kernel_rfl) (by kernel_rfl) (by kernel_rfl) (fun _ _ _ h => h) (ag rfl hs rfl f107) ?yr8c1 (fun a9 h9 => ?kr8c1)
                  case yr8c1 => intro w; first | (go_simp; done) | (go_simp; with_reducible rfl)
                  replace f1 := ab h9 1 _ rfl f1
                  clear f8
                  replace f9 := ab h9 9 _ rfl f9
                  replace f107 := ab h9 107 _ rfl f107
                  replace f108 := ab h9 108 _ rfl f108
                  have f109 := put_eq h9 hs rfl
                  replace hs := ah h9 hs
                  refine aD (v := Value.int IntKind.i64 (i : Int)) (j := 6) (i := 9) (d := 110) rfl (by kernel_rfl) (by kernel_rfl) (by kernel_rfl) (fun _ _ _ h => h) (ag rfl hs rfl f107) ?yr9c1 (fun a10 h10 => ?kr9c1)
                  case yr9c1 => intro w; first | (go_simp; done) | (go_simp; with_reducible rfl)
                  replace f1 := ab h10 1 _ rfl f1
                  replace f9 := ab h10 9 _ rfl f9
                  replace f107 := ab h10 107 _ rfl f107
                  replace f108 := ab h10 108 _ rfl f108
                  clear f109
                  have f110 := put_eq h10 hs rfl
                  replace hs := ah h10 hs
                  refine aD (v := Value.int IntKind.u8 (meant[i].toNat : Int)) (j := 6) (i := 10) (d := 111) rfl (by kernel_rfl) (by kernel_rfl) (by kernel_rfl) (fun _ _ _ h => h) (ag rfl hs rfl f107) ?yr10c1 (fun a11 h11 => ?kr10c1)
                  case yr10c1 => intro w; first | (go_simp; done) | (go_simp; with_reducible rfl)
                  replace f1 := ab h11 1 _ rfl f1
                  replace f9 := ab h11 9 _ rfl f9
                  replace f107 := ab h11 107 _ rfl f107
                  clear f108
                  clear f110
                  have f111 := put_eq h11 hs rfl
                  replace hs := ah h11 hs
                  refine aD (v := Value.string typed) (j := 6) (i := 11) (d := 112) rfl (by kernel_rfl) (by kernel_rfl) (by kernel_rfl) (fun _ _ _ h => h) (ag rfl hs rfl f107) ?yr11c1 (fun a12 h12 => ?kr11c1)
                  case yr11c1 => intro w; first | (go_simp; done) | (go_simp; with_reducible rfl)
                  clear f1
                  replace f9 := ab h12 9 _ rfl f9
                  replace f107 := ab h12 107 _ rfl f107
                  replace f111 := ab h12 111 _ rfl f111
                  have f112 := put_eq h12 hs rfl
                  replace hs := ah h12 hs
                  refine aD (v := Value.int IntKind.i64 ((k : Int) + 1)) (j := 6) (i := 12) (d := 113) rfl (by kernel_rfl) (by kernel_rfl) (by kernel_rfl) (fun _ _ _ h => h) (ag rfl hs rfl f107) ?yr12c1 (fun a13 h13 => ?kr12c1)
                  case yr12c1 => intro w; first | (go_simp; done) | (go_simp; with_reducible rfl)
                  clear f9
                  replace f107 := ab h13 107 _ rfl f107
                  replace f111 := ab h13 111 _ rfl f111
                  replace f112 := ab h13 112 _ rfl f112
                  have f113 := put_eq h13 hs rfl
                  replace hs := ah h13 hs
                  refine aD (v := Value.int IntKind.i64 (q : Int)) (j := 6) (i := 13) (d := 114) rfl (by kernel_rfl) (by kernel_rfl) (by kernel_rfl) (fun _ _ _ h => h) (ag rfl hs rfl f107) ?yr13c1 (fun a14 h14 => ?kr13c1)
                  case yr13c1 => intro w; first | (go_simp; done) | (go_simp; with_reducible rfl)
                  replace f107 := ab h14 107 _ rfl f107
                  replace f111 := ab h14 111 _ rfl f111
                  replace f112 := ab h14 112 _ rfl f112
                  clear f113
                  have f114 := put_eq h14 hs rfl
                  replace hs := ah h14 hs
                  refine aD (v := Value.int IntKind.u8 (typed[q].toNat : Int)) (j := 6) (i := 14) (d := 115) rfl (by kernel_rfl) (by kernel_rfl) (by kernel_rfl) (fun _ _ _ h => h) (ag rfl hs rfl f107) ?yr14c1 (fun a15 h15 => ?kr14c1)
                  case yr14c1 => intro w; first | (go_simp; done) | (go_simp; with_reducible rfl)
                  replace f107 := ab h15 107 _ rfl f107
                  replace f111 := ab h15 111 _ rfl f111
                  clear f112
                  clear f114
                  have f115 := put_eq h15 hs rfl
                  replace hs := ah h15 hs
                  refine aD (v := Value.bool false) (j := 6) (i := 15) (d := 116) rfl (by kernel_rfl) (by kernel_rfl) (by kernel_rfl) (fun _ _ _ h => h) (ag rfl hs rfl f107) ?yr15c1 (fun a16 h16 => ?kr15c1)
                  case yr15c1 => intro w; first | (go_simp; done) | (go_simp; with_reducible rfl)
                  replace f107 := ab h16 107 _ rfl f107
                  clear f111
                  clear f115
                  have f116 := put_eq h16 hs rfl
                  replace hs := ah h16 hs
                  refine bO (v := Value.bool false) (i := 16) (d := 117) rfl (by kernel_rfl) (by kernel_rfl) (by kernel_rfl) (fun _ _ _ h => h) ?yr16c1 (fun a17 h17 => ?kr16c1)
                  case yr16c1 => intro w; first | (go_simp; done) | (go_simp; with_reducible rfl)
                  clear f107
                  clear f116
                  have f117 := put_eq h17 hs rfl
                  replace hs := ah h17 hs
                  refine bO (v := Value.bool false) (i := 17) (d := 118) rfl (by kernel_rfl) (by kernel_rfl) (by kernel_rfl) (fun _ _ _ h => h) ?yr17c1 (fun a18 h18 => ?kr17c1)
                  case yr17c1 => intro w; first | (go_simp; done) | (go_simp; with_reducible rfl)
                  clear f117
                  have f118 := put_eq h18 hs rfl
                  replace hs := ah h18 hs
                  refine takeN (j := 17) (i := 18) (d := 119) rfl (by kernel_rfl) (by kernel_rfl) (by kernel_rfl) (fun _ _ _ h => h) (ag rfl hs rfl f118) (fun a19 h19 => ?kr18c1)
                  replace f118 := ab h19 118 _ rfl f118
                  replace hs := ah h19 hs
                  refine takeN (j := 17) (i := 19) (d := 120) rfl (by kernel_rfl) (by kernel_rfl) (by kernel_rfl) (fun _ _ _ h => h) (ag rfl hs rfl f118) (fun a20 h20 => ?kr19c1)
                  replace f118 := ab h20 118 _ rfl f118
                  replace hs := ah h20 hs
                  refine takeN (j := 17) (i := 20) (d := 121) rfl (by kernel_rfl) (by kernel_rfl) (by kernel_rfl) (fun _ _ _ h => h) (ag rfl hs rfl f118) (fun a21 h21 => ?kr20c1)
                  replace f118 := ab h21 118 _ rfl f118
                  replace hs := ah h21 hs
                  refine takeN (j := 17) (i := 21) (d := 122) rfl (by kernel_rfl) (by kernel_rfl) (by kernel_rfl) (fun _ _ _ h => h) (ag rfl hs rfl f118) (fun a22 h22 => ?kr21c1)
                  replace f118 := ab h22 118 _ rfl f118
                  replace hs := ah h22 hs
                  refine takeN (j := 17) (i := 22) (d := 123) rfl (by kernel_rfl) (by kernel_rfl) (by kernel_rfl) (fun _ _ _ h => h) (ag rfl hs rfl f118) (fun a23 h23 => ?kr22c1)
                  replace f118 := ab h23 118 _ rfl f118
                  replace hs := ah h23 hs
                  refine takeN (j := 17) (i := 23) (d := 124) rfl (by kernel_rfl) (by kernel_rfl) (by kernel_rfl) (fun _ _ _ h => h) (ag rfl hs rfl f118) (fun a24 h24 => ?kr23c1)
                  replace f118 := ab h24 118 _ rfl f118
                  replace hs := ah h24 hs
                  refine takeN (j := 17) (i := 24) (d := 125) rfl (by kernel_rfl) (by kernel_rfl) (by kernel_rfl) (fun _ _ _ h => h) (ag rfl hs rfl f118) (fun a25 h25 => ?kr24c1)
                  replace f118 := ab h25 118 _ rfl f118
                  replace hs := ah h25 hs
                  refine takeN (j := 17) (i := 25) (d := 126) rfl (by kernel_rfl) (by kernel_rfl) (by kernel_rfl) (fun _ _ _ h => h) (ag rfl hs rfl f118) (fun a26 h26 => ?kr25c1)
                  replace f118 := ab h26 118 _ rfl f118
                  replace hs := ah h26 hs
                  refine takeN (j := 17) (i := 26) (d := 127) rfl (by kernel_rfl) (by kernel_rfl) (by kernel_rfl) (fun _ _ _ h => h) (ag rfl hs rfl f118) (fun a27 h27 => ?kr26c1)
                  replace f118 := ab h27 118 _ rfl f118
                  have f127 := put_eq h27 hs rfl
                  replace hs := ah h27 hs
                  refine bO (v := Value.bool false) (i := 27) (d := 128) rfl (by kernel_rfl) (by kernel_rfl) (by kernel_rfl) (fun _ _ _ h => h) ?yr27c1 (fun a28 h28 => ?kr27c1)
                  case yr27c1 => intro w; first | (go_simp; done) | (go_simp; with_reducible rfl)
                  clear f118
                  clear f127
                  have f128 := put_eq h28 hs rfl
                  replace hs := ah h28 hs
                  refine bO (v := Value.bool false) (i := 28) (d := 129) rfl (by kernel_rfl) (by kernel_rfl) (by kernel_rfl) (fun _ _ _ h => h) ?yr28c1 (fun a29 h29 => ?kr28c1)
                  case yr28c1 => intro w; first | (go_simp; done) | (go_simp; with_reducible rfl)
                  clear f128
                  have f129 := put_eq h29 hs rfl
                  replace hs := ah h29 hs
                  refine takeN (j := 28) (i := 29) (d := 130) rfl (by kernel_rfl) (by kernel_rfl) (by kernel_rfl) (fun _ _ _ h => h) (ag rfl hs rfl f129) (fun a30 h30 => ?kr29c1)
                  replace f129 := ab h30 129 _ rfl f129
                  replace hs := ah h30 hs
                  refine takeN (j := 28) (i := 30) (d := 131) rfl (by kernel_rfl) (by kernel_rfl) (by kernel_rfl) (fun _ _ _ h => h) (ag rfl hs rfl f129) (fun a31 h31 => ?kr30c1)
                  replace f129 := ab h31 129 _ rfl f129
                  replace hs := ah h31 hs
                  refine takeN (j := 28) (i := 31) (d := 132) rfl (by kernel_rfl) (by kernel_rfl) (by kernel_rfl) (fun _ _ _ h => h) (ag rfl hs rfl f129) (fun a32 h32 => ?kr31c1)
                  replace f129 := ab h32 129 _ rfl f129
                  replace hs := ah h32 hs
                  refine takeN (j := 28) (i := 32) (d := 133) rfl (by kernel_rfl) (by kernel_rfl) (by kernel_rfl) (fun _ _ _ h => h) (ag rfl hs rfl f129) (fun a33 h33 => ?kr32c1)
                  replace f129 := ab h33 129 _ rfl f129
                  replace hs := ah h33 hs
                  refine takeN (j := 28) (i := 33) (d := 134) rfl (by kernel_rfl) (by kernel_rfl) (by kernel_rfl) (fun _ _ _ h => h) (ag rfl hs rfl f129) (fun a34 h34 => ?kr33c1)
                  replace f129 := ab h34 129 _ rfl f129
                  replace hs := ah h34 hs
                  refine takeN (j := 28) (i := 34) (d := 135) rfl (by kernel_rfl) (by kernel_rfl) (by kernel_rfl) (fun _ _ _ h => h) (ag rfl hs rfl f129) (fun a35 h35 => ?kr34c1)
                  replace f129 := ab h35 129 _ rfl f129
                  replace hs := ah h35 hs
                  refine takeN (j := 28) (i := 35) (d := 136) rfl (by kernel_rfl) (by kernel_rfl) (by kernel_rfl) (fun _ _ _ h => h) (ag rfl hs rfl f129) (fun a36 h36 => ?kr35c1)
                  replace f129 := ab h36 129 _ rfl f129
                  replace hs := ah h36 hs
                  refine takeN (j := 28) (i := 36) (d := 137) rfl (by kernel_rfl) (by kernel_rfl) (by kernel_rfl) (fun _ _ _ h => h) (ag rfl hs rfl f129) (fun a37 h37 => ?kr36c1)
                  replace f129 := ab h37 129 _ rfl f129
                  replace hs := ah h37 hs
                  refine takeN (j := 28) (i := 37) (d := 138) rfl (by kernel_rfl) (by kernel_rfl) (by kernel_rfl) (fun _ _ _ h => h) (ag rfl hs rfl f129) (fun a38 h38 => ?kr37c1)
                  replace f129 := ab h38 129 _ rfl f129
                  have f138 := put_eq h38 hs rfl
                  replace hs := ah h38 hs
                  refine bO (v := Value.bool false) (i := 38) (d := 139) rfl (by kernel_rfl) (by kernel_rfl) (by kernel_rfl) (fun _ _ _ h => h) ?yr38c1 (fun a39 h39 => ?kr38c1)
                  case yr38c1 => intro w; first | (go_simp; done) | (go_simp; with_reducible rfl)
                  clear f129
                  clear f138
                  have f139 := put_eq h39 hs rfl
                  replace hs := ah h39 hs
                  refine wpAny_done (by kernel_rfl) ?_ _
                  clear f139 hs
                  subst h39 h38 h37 h36 h35 h34 h33 h32 h31 h30 h29 h28 h27 h26 h25 h24 h23 h22 h21 h20 h19 h18 h17 h16 h15 h14 h13 h12 h11 h10 h9 h8 h7 h6 h5 h4 h3 h2 h1 hA
                  simp only [Act.put, List.setIfInBounds_toArray, List.set_cons_succ, List.set_cons_zero]
                  go_wp2
                  go_roundg (typed.size + 1 - (k + 1 + 1))
                  case measure => omega
                  case rel =>
                    refine ⟨k + 1 + 1, by omega, by omega, by congr 1, ?_⟩
                    first | refine (br hI6 _ ?_).drew | refine (br hI6 _ ?_).drew.drew | refine br hI6 _ ?_
                    trace_state
                    have hb1 := hle (i + 1) (k + 1) (by omega) (by omega)
                    have hb2 := hle i (k + 1) (by omega) (by omega)
                    have hb3 := hle (i + 1) k (by omega) (by omega)
                    have hb4 := hle i k (by omega) (by omega)
                    have hq1 := prod (i + 1) (by omega) c1 hc1
                    have hq2 := prod (k + 1) (by omega) c2 hc2
                    have hq3 := prod i (by omega) c1 hc1
                    have hq4 := prod k (by omega) c2 hc2
                    have hpp := hp (meant[i]'(by omega)) (typed[k]'(by omega))
                    simp only [Int.natCast_add, Int.natCast_one] at hb1 hb2 hb3 hb4 hq1 hq2
                    have hz := hz ()
                    simp (disch := omega) only [IntWalk.wrap64_in, IntWalk.i64_in]
                    rw [hz] at hb1 ⊢
                    omega
        · go_wp2
          go_roundg (meant.size + 1 - (i + 1))
          case measure => omega
          case rel =>
            obtain rfl : k = typed.size + 1 := by omega
            exact ⟨i + 1, R', by omega, rfl, by simp, Dm hI⟩
    · obtain rfl : i = meant.size + 1 := by omega
      have e1 : wr.cell? ⟨w.heap.size + 1, meant.size, none⟩ = some (.slice (some ⟨R meant.size, 0, none⟩) (typed.size + 1) (typed.size + 1)) := by simpa [kT] using hO.top.cell (i := meant.size) (by omega)
      have e2 : wr.cell? ⟨R meant.size, typed.size, none⟩ = some (.int .i64 (Z meant.size typed.size)) := (hO.done meant.size (by omega)).cell (by omega)
      go_wp2
      go_ret
      exact ⟨rfl, hO.since⟩
end Go.Proofs.Ytbbmofoiipjbgaa
