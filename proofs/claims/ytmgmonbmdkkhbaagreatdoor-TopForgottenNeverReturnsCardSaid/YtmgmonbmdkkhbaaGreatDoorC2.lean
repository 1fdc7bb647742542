/- From what the rows of this seat lay down about package-level variables to the tables that its contracts lean on. No condition. -/
import Derived.Test.YtmgmonbmdkkhbaaGreatDoorC1
import Derived.Test.YtmgmonbmdkkhbaaGreatDoorRows
import Derived.HandedShaped
import Derived.Lib.LaidTab
import Derived.Shelf.Vars
set_option linter.unusedSimpArgs false
set_option linter.unusedVariables false
open Nat renaming reduceBEq→zA,reduceAdd→zB,reduceSub→zC,reduceMul→zD,reduceLeDiff→zE
open Int renaming reduceLT→zF,reduceLE→zG,reduceToNat→zH,reduceNeg→zI
namespace Go.Proofs.YtmgmonbmdkkhbaaGreatDoor
open Go.ChangeShapes Go.WideShapes Go.ChangeAt Go.RowKit
section
variable {H:Type} {enc:TypeId×Value→H}
theorem GI {a:Assume} {C:Checked} {os:Os} {f:FuncId} {fn:Func} {s:ChangeSpec} {conds:List PathCond} {apart fresh handsOn again:Bool} {X:World→Array Value→Prop} (hX: ∀(w w':World)(args:Array Value),w.heap=w'.heap→X w args→X w' args)(own:ownKnob C.prog.godebug=none)(started:os.Started)(X2:C.prog.inits.idxOf? f=none)(cC:C.prog.funcs[f]?=some fn)(witness: ∃(w:World)(tape:Tape)(i:Input),w.os=os∧(w.forCall tape i).Shaped C.prog∧i.vars=[]∧Input.okWide C.prog (w.forCall tape i) .any w.heap.size f i∧((s.pre enc C.prog fn conds apart (w.forCall tape i).memory i.args∧X (w.forCall tape i).memory i.args)∧sizedMet enc C.prog fn (OpenSpec.ofChange s) apart (w.forCall tape i).memory i.args)∧a.holds C.prog (lone (Frame.enter C.prog f i.args .normal) [] (w.forCall tape i)))(KX: ∀(W:World)(base:Nat)(args:Array Value)(ds gs:List (DataW H))(before:List MemPlace),(∀(j:Nat)t v,fn.params[j]?=some t→args[j]?=some v→Value.okWide C.prog W .any base t v)→DataW.Whole enc C.prog fn.params.toList s.vars apart W args.toList ds gs before→X W args→W.ShapedOpen C.prog→Calls C.prog f args W fun e W'=> ∃v,e= .returned v∧s.post enc C.prog fn apart fresh handsOn again W args v W'):ReturnsInHanded a C os f .any (fun w args=>(s.pre enc C.prog fn conds apart w args∧X w args)∧sizedMet enc C.prog fn (OpenSpec.ofChange s) apart w args) (s.post enc C.prog fn apart fresh handsOn again):=by
 refine returnsInHanded_of_calls own started X2 witness ?_;intro w tape i _ vA _ cP r7 _;obtain⟨_,_,_,Zp,Kk,_,_,_,_,jg⟩:=cP;have e:Zp=fn:=Option.some.inj (Kk.symm.trans cC)
 subst e;obtain⟨⟨⟨ds,gs,before,hw,_⟩,hx⟩,_⟩:=r7;have hw':=DataW.Whole.of_heap (w':=w.forCall tape i) (by rfl) hw;refine(KX (w.forCall tape i) w.heap.size i.args ds gs before jg hw' (hX _ _ _ (by rfl) hx) vA).mono fun e W'⟨v,he,hp⟩=>?_
 subst he;exact ChangeSpec.post_blind hp
end
def mM:List (String×DataW Unit):=[("math/bits.deBruijn32tab",Rows.laid_math_bits_deBruijn32tab),("math/bits.deBruijn64tab",Rows.laid_math_bits_deBruijn64tab),("internal/strconv.uint64pow10",Rows.laid_internal_strconv_uint64pow10)]
theorem GJ(w w':World)(_:Array Value)(hh:w.heap=w'.heap)(h:laidMet Tryz.prog mM w):laidMet Tryz.prog mM w':=h.of_heap hh
theorem KY:(Rows.laid_internal_strconv_uint64pow10:DataW Unit)=Lib.tabData .u64 ((List.range 20).map fun i=>((10^i:Nat):Int)):=by rfl
theorem xq:Tryz.prog.globalNamed "internal/strconv.uint64pow10" =some 1:=by kernel_rfl
theorem KZ:(Tryz.prog.globals[1]?).map (·.type)=some 217:=by kernel_rfl
theorem Rv {W:World} (hs:W.ShapedOpen Tryz.prog)(hl:laidMet Tryz.prog mM W):nF W fun g=>g<W.heap.size:=by
 intro g hg;simp only[Lx,List.mem_cons,List.not_mem_nil,or_false]at hg;rcases hg with rfl|rfl;(·obtain⟨m,hm⟩:=cell_of_shapedOpen_int (P:=Tryz.prog) (g:=0) (t:=3) (zero:= #[.int .i64 0]) (k:=.i64) hs (of_decide_eq_true (by kernel_rfl)) (by kernel_rfl) rfl (by kernel_rfl) (by kernel_rfl) (by kernel_rfl);unfold World.cell? at hm;cases ho:W.heap[0]? with|none=>rw[ho]at hm;cases hm|some o=>refine⟨(Array.getElem?_eq_some_iff.1 ho).1,o,rfl,?_⟩;rw[ho]at hm;cases o with|cells cs e r=>exact⟨m,cs,e,r,rfl,hm⟩|_=>cases hm)
 ·obtain⟨ps,⟨_,_,_,_,_,_,_,_,_,_,⟨_,_,_,_,_,_,_,_,_,_,⟨g',t',cs,fuel,p,q,dM,LK,we,hd,_,_⟩,_⟩,_⟩,_⟩:=hl;obtain rfl:=Option.some.inj (xq.symm.trans dM);obtain rfl:=Option.some.inj (KZ.symm.trans LK);rw[KY]at hd;have xI:=Lib.cells_of_tab (P:=Tryz.prog) (t:=217) (e:=180) (n:=20) (by kernel_rfl) (by kernel_rfl) (by kernel_rfl) (by kernel_rfl) hd;unfold World.var? at we;rw[xq]at we;simp only[Option.bind_some]at we;cases ho:W.heap[1]? with|none=>rw[ho]at we;cases we|some o=>refine⟨(Array.getElem?_eq_some_iff.1 ho).1,o,rfl,?_⟩;rw[ho]at we;cases o with|cells c e r=>injection we with we;subst we;exact⟨e,r,by rw[←xI]⟩|_=>cases we
def aj9:Lit→Value|.int k z=>.int k z|_=>undef
def ak0:DataW Unit→List Value|.lit l=>[aj9 l]|_=>[]
def ak1:DataW Unit→List Value|.lit l=>[aj9 l]|.agg xs=>xs.flatMap ak0|_=>[]
def ak2:DataW Unit→List Value|.agg xs=>xs.flatMap ak1|_=>[]
def put(g:Nat)(d:DataW Unit)(h:Array Obj):Array Obj:=h.modify g fun|.cells _ t r=>.cells (ak2 d).toArray t r|o=>o
noncomputable def xu(os:Os):World:= { World.holding Tryz.prog os ⟨#[],#[],[]⟩with heap:=put 1 Rows.laid_internal_strconv_uint64pow10 (put 2 Rows.laid_math_bits_deBruijn32tab (put 3 Rows.laid_math_bits_deBruijn64tab (World.holding Tryz.prog os ⟨#[],#[],[]⟩).heap)) }
theorem K0(os:Os)(args:Array Value):laidMet Tryz.prog mM ((xu os).forCall (fun _ _=>0) ⟨#[],args,[]⟩).memory:=laidMet_of_run' 8 (by kernel_rfl) (by kernel_rfl)
theorem X3(w:World):laidMetH Tryz.prog mM w=laidMet Tryz.prog mM w:=by unfold laidMetH;(have e:(mM.filter fun x=>x.2.handleName?.isSome)=[]:=by kernel_rfl);rw[e]
theorem K1 {H:Type} {enc:TypeId×Value→H} {fn:Func} {c:OpenClaim} {s:ChangeSpec} (hl:c.laid=mM):c.pre enc Tryz.prog fn (OpenSpec.ofChange s)=fun w args=>(s.pre enc Tryz.prog fn c.domain c.apart w args∧laidMet Tryz.prog mM w)∧sizedMet enc Tryz.prog fn (OpenSpec.ofChange s) c.apart w args:=by
 funext w args;rw[←X3];unfold OpenClaim.pre OpenClaim.preLaid;rw[hl];rfl
theorem K3:ownKnob Tryz.prog.godebug=none:=by kernel_rfl
theorem K4:laidOutB env.P=true:=by kernel_rfl
end Go.Proofs.YtmgmonbmdkkhbaaGreatDoor
