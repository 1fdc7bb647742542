/-
  What a callee leaves that was handed local blocks. Nothing here is trusted; no condition.
-/
import Derived.Test.YtgpkijnphchkpaaGreatA2
import Derived.Laws.Closers25b
import Derived.ChangeKeysEq
import Derived.Laws.BytesArg
import Derived.Lib.AppendZerosOnto
import Derived.MapKept
import Derived.Maps.RangeRun
set_option linter.unusedSimpArgs false
set_option linter.unusedVariables false
namespace Go.Proofs.YtgpkijnphchkpaaGreat
open Go.RowKit
theorem OS(k:IntKind) {n:Int} (h:k.min≤n∧n≤k.max):k.wrap n=n:=by obtain⟨h1,h2⟩:=h;cases k<;>simp[IntKind.min,IntKind.max,IntKind.wrap,IntKind.bits,IntKind.signed]at* <;>omega
theorem P8(k:IntKind):k.min≤0:=by cases k<;>decide
theorem SH(k:IntKind):0≤k.max:=by cases k<;>decide
theorem Q9(P:Program)(w:World)(op:BinOp)(t:Nat)(x y:Operand)(k l:IntKind)(m n:Int):(eqGuard op t x y (.int k m) (.int l n)).run P w= .ok () w:=by
 unfold eqGuard;simp only[Sem.run_ite];split<;>rfl
theorem ZZ(P:Program)(w:World)(op:BinOp)(t:Nat)(x y:Operand)(m n:ByteArray):(eqGuard op t x y (.string m) (.string n)).run P w= .ok () w:=by
 unfold eqGuard;simp only[Sem.run_ite];split<;>rfl
theorem TZ(P:Program)(w:World)(op:BinOp)(t:Nat)(x y:Operand)(m n:Bool):(eqGuard op t x y (.bool m) (.bool n)).run P w= .ok () w:=by
 unfold eqGuard;simp only[Sem.run_ite];split<;>rfl
theorem max_lt(k:IntKind):k.max<2^k.bits:=by cases k<;>decide
theorem Ra(k:IntKind) {x:Int} (h0:0≤x)(h1:x≤k.max):(BitVec.ofInt k.bits x).toNat=x.toNat:=by
 have h2:=max_lt k;rw[BitVec.toNat_ofInt];have h3:x%((2^k.bits:Nat):Int)=x:=Int.emod_eq_of_lt h0 (by push_cast;omega);rw[h3]
theorem aS4 {E:Env} {c:Ctx} {op:BinOp} {k:IntKind} {x y:Int} {t:Nat} {w:World} {Kl:Out→Prop} (hx:k.min≤x∧x≤k.max)(hy:k.min≤y∧y≤k.max)(h:Ml E (Sq op k x y) Kl): ∃p v,Kl (.val p)∧ep c p v∧(binOp op t (.int k x) (.int k y)).run E.P w= .ok v w:=by
 have CD:=P8 k;(have kF: ∀(r:Int),(∃v,(binOp op t (.int k x) (.int k y)).run E.P w= .ok v w∧v= .int k (k.wrap r))→Ml E (arith k r) Kl→ ∃p v,Kl (.val p)∧ep c p v∧(binOp op t (.int k x) (.int k y)).run E.P w= .ok v w:=by rintro r⟨v,hv,rfl⟩⟨hr,hK⟩;exact⟨_,_,hK,MY hr,by rw[hv,OS k hr]⟩)
 (have fX: ∀(b:Bool),(binOp op t (.int k x) (.int k y)).run E.P w= .ok (.bool b) w→Ml E (OF b) Kl→ ∃p v,Kl (.val p)∧ep c p v∧(binOp op t (.int k x) (.int k y)).run E.P w= .ok v w:=by intro b hb hK;exact⟨_,_,hK,MI,hb⟩)
 cases op<;>simp only[Sq]at h;(case add=>exact kF _ ⟨_,by simp[binOp,Op.intArith],rfl⟩ h);(case sub=>exact kF _ ⟨_,by simp[binOp,Op.intArith],rfl⟩ h);(case mul=>exact kF _ ⟨_,by simp[binOp,Op.intArith],rfl⟩ h)
 (case quo=>obtain⟨⟨h0,h1⟩,hK⟩:=h;(have hq:k.min≤x/y∧x/y≤k.max:=by have e1:0≤x/y:=Int.ediv_nonneg h0 (by omega);have e2:x/y≤x:=Int.ediv_le_self _ h0;omega);refine⟨_,_,hK,MY hq,?_⟩;simp only[binOp,ne_eq,not_true_eq_false,if_false,Op.intDiv];rw[if_neg (by omega)];simp only[Sem.run_pure,Int.tdiv_eq_ediv_of_nonneg h0,OS k hq])
 (case rem=>obtain⟨⟨h0,h1⟩,hK⟩:=h;(have hq:k.min≤x%y∧x%y≤k.max:=by have e1:0≤x%y:=Int.emod_nonneg _ (by omega);have e2:x%y<y:=Int.emod_lt_of_pos _ h1;omega);refine⟨_,_,hK,MY hq,?_⟩;simp only[binOp,ne_eq,not_true_eq_false,if_false,Op.intDiv];rw[if_neg (by omega)];simp only[Sem.run_pure,Int.tmod_eq_emod_of_nonneg h0])
 (case and=>obtain⟨⟨h0,h1⟩,hK⟩:=h;have e1:x.toNat &&& y.toNat≤x.toNat:=Nat.and_le_left;(have hr:k.min≤((x.toNat &&& y.toNat:Nat):Int)∧((x.toNat &&& y.toNat:Nat):Int)≤k.max:=by omega);refine⟨_,_,hK,MY hr,?_⟩;simp only[binOp,ne_eq,not_true_eq_false,if_false,Op.intBits,Sem.run_pure,BitVec.toNat_and,Ra k h0 hx.2,Ra k h1 hy.2,OS k hr])
 (case or=>obtain⟨⟨h0,h1⟩,hK⟩:=h;(have hr:k.min≤((x.toNat ||| y.toNat:Nat):Int)∧((x.toNat ||| y.toNat:Nat):Int)≤k.max:=by refine⟨by omega,?_⟩;(have hp: ∃b:Nat,k.max=((2^b-1:Nat):Int):=by cases k;(·exact⟨7,by decide⟩);(·exact⟨15,by decide⟩);(·exact⟨31,by decide⟩);(·exact⟨63,by decide⟩);(·exact⟨8,by decide⟩);(·exact⟨16,by decide⟩);(·exact⟨32,by decide⟩);·exact⟨64,by decide⟩);obtain⟨b,hb⟩:=hp;have iC:0<2^b:=Nat.two_pow_pos b;have:x.toNat ||| y.toNat<2^b:=Nat.or_lt_two_pow (by omega) (by omega);omega);refine⟨_,_,hK,MY hr,?_⟩;simp only[binOp,ne_eq,not_true_eq_false,if_false,Op.intBits,Sem.run_pure,BitVec.toNat_or,Ra k h0 hx.2,Ra k h1 hy.2,OS k hr])
 (case lss=>exact fX _ (by simp[binOp,Op.intCmp]) h);(case leq=>exact fX _ (by simp[binOp,Op.intCmp]) h);(case gtr=>exact fX _ (by simp[binOp,Op.intCmp]) h);(case geq=>exact fX _ (by simp[binOp,Op.intCmp]) h)
 (case eql=>refine fX _ ?_ h;simp only[binOp,ne_eq,not_true_eq_false,if_false,Op.intCmp,Sem.run_pure];rfl);(case neq=>refine fX _ ?_ h;simp only[binOp,ne_eq,not_true_eq_false,if_false,Op.intCmp,Sem.run_pure];rfl)
 all_goals exact h.elim
theorem ar2 {E:Env} {c:Ctx} {op:BinOp} {k l:IntKind} {x y:Int} {t:Nat} {w:World} {Kl:Out→Prop} (hx:k.min≤x∧x≤k.max)(h:Ml E (QB op k x y) Kl): ∃p v,Kl (.val p)∧ep c p v∧(binOp op t (.int k x) (.int l y)).run E.P w= .ok v w:=by
 have CD:=P8 k;cases op<;>simp only[QB]at h;(case shl=>obtain⟨⟨h0,h1⟩,hr,hK⟩:=h;refine⟨_,_,hK,MY hr,?_⟩;simp only[binOp,Op.shift];rw[if_neg (by omega)];(have e1:min y.toNat k.bits=y.toNat:=by omega);simp only[e1,Sem.run_pure,OS k hr])
 (case shr=>obtain⟨⟨CE,h0,h1⟩,hK⟩:=h;have iC:(0:Int)<2^y.toNat:=Int.pow_pos (by omega);(have hq:k.min≤x/2^y.toNat∧x/2^y.toNat≤k.max:=by have e1:0≤x/2^y.toNat:=Int.ediv_nonneg CE (by omega);have e2:x/2^y.toNat≤x:=Int.ediv_le_self _ CE;omega);refine⟨_,_,hK,MY hq,?_⟩;simp only[binOp,Op.shift];rw[if_neg (by omega)];(have e1:min y.toNat k.bits=y.toNat:=by omega);simp only[e1,Sem.run_pure];rw[Int.fdiv_eq_ediv_of_nonneg _ (by omega)])
 all_goals exact h.elim
theorem toList_mk(x:List UInt8):(⟨x.toArray⟩:ByteArray).toList=x:=by rw[ByteArray.toList_eq]
theorem YY: ∀(x y:List UInt8),Op.bytesLess x y=bytesLess x y|_,[]=>(by simp[Op.bytesLess,bytesLess])|[],_::_=>(by simp[Op.bytesLess,bytesLess])|a::x,b::y=>by simp only[Op.bytesLess,bytesLess,YY x y]
theorem aS5 {E:Env} {c:Ctx} {op:BinOp} {x y:List UInt8} {t:Nat} {w:World} {Kl:Out→Prop} (h:Ml E (Sr op x y) Kl): ∃p v,Kl (.val p)∧ep c p v∧(binOp op t (.string ⟨x.toArray⟩) (.string ⟨y.toArray⟩)).run E.P w= .ok v w:=by
 cases op<;>simp only[Sr]at h;(case add=>obtain⟨hl,hK⟩:=h;refine⟨_,_,hK,SD (by rw[List.length_append];exact hl),?_⟩;(have e1:(⟨x.toArray⟩:ByteArray).size=x.length:=by simp[ByteArray.size]);(have e2:(⟨y.toArray⟩:ByteArray).size=y.length:=by simp[ByteArray.size]);(have e3:(⟨x.toArray⟩:ByteArray)++⟨y.toArray⟩=⟨(x++y).toArray⟩:=by apply ByteArray.ext;rw[ByteArray.data_append];simp);simp only[binOp,Op.stringOp,e1,e2,e3,Sem.run_ite];rw[if_neg (by simp[IntKind.max,IntKind.signed,IntKind.bits];omega)];rfl)
 (case eql=>refine⟨_,_,h,MI,?_⟩;(have e:(x==y)=decide (x=y):=by rw[Bool.eq_iff_iff];simp);simp only[binOp,Op.stringOp,toList_mk,Sem.run_pure,e]);(case neq=>refine⟨_,_,h,MI,?_⟩;(have e:(x==y)=decide (x=y):=by rw[Bool.eq_iff_iff];simp);simp only[binOp,Op.stringOp,toList_mk,Sem.run_pure,e])
 (case lss=>refine⟨_,_,h,MI,?_⟩;simp only[binOp,Op.stringOp,toList_mk,Sem.run_pure,YY]);(case geq=>refine⟨_,_,h,MI,?_⟩;simp only[binOp,Op.stringOp,toList_mk,Sem.run_pure,YY])
 all_goals exact h.elim
end Go.Proofs.YtgpkijnphchkpaaGreat
namespace Go.Proofs.YtgpkijnphchkpaaGreat
open Go.RowKit
section
variable {E:Env}
def QN(E:Env)(t:Nat):Ty→Prop|.int _=>True|.bool=>True|.str=>True|.st _=>E.cmp t=true|_=>False
theorem UW(hE:L6 E) {t:Nat} (h:E.cmp t=true):(∃R,E.ty t=some (.st R))∧E.P.eqGuardType E.P.depth t=false∧((∃fs,E.P.underlying t=some (.struct fs)∧PF E.ty E.cmp fs.toList=true∧E.P.stoodInHeld t=false)∨ ∃m e,E.P.underlying t=some (.array m e)∧TQ E.ty E.cmp e=true):=by
 have h1:=hE.cmp t h;simp only[al1,Bool.and_eq_true,Bool.not_eq_true']at h1;obtain⟨h1,h4⟩:=h1;split at h1;(·rename_i fs R hu hT;simp only[Bool.and_eq_true,Bool.not_eq_true']at h1;exact⟨⟨R,hT⟩,h4,.inl ⟨fs,hu,h1.1.1,h1.2⟩⟩)
 (·rename_i m e R hu hT;exact⟨⟨R,hT⟩,h4,.inr ⟨m,e,hu,h1⟩⟩);·cases h1
theorem ar3(hE:L6 E) {w:World} {M:Mem} {d:Nat} (ih: ∀(T:Ty)(t:Nat)(x y:T.den)(v u:Value)(r:Bool),MZ E t T→QN E t T→Na T x w M v→Na T y w M u→QA T x y=some r→dep T≤d→(Op.equalIn (d+1) t v u).run E.P w= .ok r w): ∀(fs:List Field)(R:Ty)(off:Nat),MC E.ty fs R off=true→PF E.ty E.cmp fs=true→ ∀(x y:R.den)(r:Bool)(xs ys:Array Value),dep R≤d→off+R.cells≤xs.size→off+R.cells≤ys.size→L3 R x w M ((xs.toList.drop off).take R.cells)→L3 R y w M ((ys.toList.drop off).take R.cells)→QA R x y=some r→(Op.eqFields (d+1) xs ys fs).run E.P w= .ok r w:=by
 (have one: ∀(f:Field)(T:Ty)(off:Nat)(x y:T.den)(r:Bool)(xs ys:Array Value),Nat.beq f.offset off=true→SB E.ty f.type T=true→(match E.ty f.type with|some (.int _)=>true|some .bool=>true|some .str=>true|some (.st _)=>E.cmp f.type|_=>false)=true→dep T≤d→off+T.cells≤xs.size→off+T.cells≤ys.size→L3 T x w M ((xs.toList.drop off).take T.cells)→L3 T y w M ((ys.toList.drop off).take T.cells)→QA T x y=some r→ ∃v u,(Go.part f.type xs f.offset).run E.P w= .ok v w∧(Go.part f.type ys f.offset).run E.P w= .ok u w∧(Op.equalIn (d+1) f.type v u).run E.P w= .ok r w:=by intro f T off x y r xs ys h1 h2 hc hd hx hy nG re hb;have eJ:=Nat.eq_of_beq_eq_true h1;(have hT:E.ty f.type=some T:=by unfold SB at h2;split at h2;(·rename_i U hU;rw[Ty.Nc h2]at hU;exact hU);·cases h2);have hf:=hE.facts hT;rw[hT]at hc;(have hk:QN E f.type T:=by cases T<;>first|trivial|exact hc|cases hc);(have oD: ∀(z:T.den)(vs:List Value),L3 T z w M vs→Na T z w M (valOf T vs):=by intro z vs hr;have:=O1 hf.val hr;have hv:=hf.val;cases T<;>first|exact this|cases hv);exact⟨_,_,by rw[eJ];exact P7 hf hx,by rw[eJ];exact P7 hf hy,ih T f.type x y _ _ r hf hk (oD x _ nG) (oD y _ re) hb hd⟩)
 intro fs;induction fs with|nil=>intro R off h;cases h|cons f fs Dj=>intro R off h hc x y r xs ys hd hx hy nG re hb;simp only[PF,Bool.and_eq_true]at hc;cases fs with|nil=>simp only[MC,Bool.and_eq_true]at h;obtain⟨⟨⟨⟨h1,h2⟩,h3⟩,h4⟩,h5⟩:=h;obtain⟨v,u,e1,e2,e3⟩:=one f R off x y r xs ys h1 h2 hc.1 hd hx hy nG re hb;(have hn:f.name≠ "_" :=by simpa using h5);simp only[Op.eqFields];rw[if_pos hn];simp only[Sem.run_bind,e1,e2,e3,Result.andThen_ok,Sem.run_ite];cases r<;>simp|cons g gs=>cases R with|pair a b=>have h':=h;simp only[MC,Bool.and_eq_true]at h;obtain⟨⟨⟨⟨⟨h1,h2⟩,h3⟩,h4⟩,h5⟩,h6⟩:=h;simp only[QA]at hb;split at hb;(·rename_i p q hp hq;simp only[Option.some.injEq]at hb;(have Jx:dep a≤d:=by simp only[dep]at hd;omega);(have Jy:dep b≤d:=by simp only[dep]at hd;omega);simp only[Ty.cells]at hx hy nG re;obtain⟨va,vb,hv,qL,u2⟩:=nG;obtain⟨ua,ub,hu,Ai,Dk⟩:=re;(have split: ∀(zs:Array Value)(za zb:List Value),za.length=a.cells→zb.length=b.cells→(zs.toList.drop off).take (a.cells+b.cells)=za++zb→(zs.toList.drop off).take a.cells=za∧(zs.toList.drop (off+a.cells)).take b.cells=zb:=by intro zs za zb jn Aj he;constructor;(·have:=congrArg (List.take a.cells) he;rw[List.take_take,Nat.min_eq_left (by omega),←jn,List.take_left]at this;rw[←jn];exact this);·have:=congrArg (List.drop a.cells) he;rw[List.drop_take,List.drop_drop,←jn,List.drop_left]at this;rw[←jn];rw[show za.length+b.cells-za.length=b.cells from by omega]at this;exact this);obtain⟨e1,e2⟩:=split xs va vb (MA _ _ _ _ _ qL) (MA _ _ _ _ _ u2) hv;obtain⟨e3,e4⟩:=split ys ua ub (MA _ _ _ _ _ Ai) (MA _ _ _ _ _ Dk) hu;obtain⟨v,u,f1,f2,f3⟩:=one f a off x.1 y.1 p xs ys h1 h2 hc.1 Jx (by omega) (by omega) (by rw[e1];exact qL) (by rw[e3];exact Ai) hp;have rest:=Dj b (off+a.cells) (by unfold MC;exact h6) hc.2 x.2 y.2 q xs ys Jy (by omega) (by omega) (by rw[e2];exact u2) (by rw[e4];exact Dk) hq;(have hn:f.name≠ "_" :=by simpa using h5);rw[Op.eqFields];rw[if_pos hn];simp only[Sem.run_bind,f1,f2,f3,Result.andThen_ok,Sem.run_ite];subst hb;cases p;(·simp);·simpa using rest);(·cases hb)|_=>simp only[MC]at h;cases h
theorem ay4(hE:L6 E) {w:World} {M:Mem} {d:Nat} {e:Nat} {V:Ty} (hV:E.ty e=some V)(hc:TQ E.ty E.cmp e=true)(FZ:dep V≤d)(ih: ∀(T:Ty)(t:Nat)(x y:T.den)(v u:Value)(r:Bool),MZ E t T→QN E t T→Na T x w M v→Na T y w M u→QA T x y=some r→dep T≤d→(Op.equalIn (d+1) t v u).run E.P w= .ok r w): ∀(m k:Nat)(x y:(rowOf V (m+1)).den)(r:Bool)(xs ys:Array Value),(k+(m+1))*V.cells≤xs.size→(k+(m+1))*V.cells≤ys.size→L3 (rowOf V (m+1)) x w M ((xs.toList.drop (k*V.cells)).take ((m+1)*V.cells))→L3 (rowOf V (m+1)) y w M ((ys.toList.drop (k*V.cells)).take ((m+1)*V.cells))→QA (rowOf V (m+1)) x y=some r→(Op.eqItems (d+1) e V.cells xs ys (List.range' k (m+1))).run E.P w= .ok r w:=by
 have hf:=hE.facts hV;(have hk:QN E e V:=by unfold TQ at hc;rw[hV]at hc;cases V<;>first|trivial|exact hc|cases hc);(have oD: ∀(z:V.den)(vs:List Value),L3 V z w M vs→Na V z w M (valOf V vs):=by intro z vs hr;have:=O1 hf.val hr;have hv:=hf.val;cases V<;>first|exact this|cases hv)
 (have one: ∀(k:Nat)(x y:V.den)(r:Bool)(xs ys:Array Value),(k+1)*V.cells≤xs.size→(k+1)*V.cells≤ys.size→L3 V x w M ((xs.toList.drop (k*V.cells)).take V.cells)→L3 V y w M ((ys.toList.drop (k*V.cells)).take V.cells)→QA V x y=some r→ ∃v u,(Go.part e xs (k*V.cells)).run E.P w= .ok v w∧(Go.part e ys (k*V.cells)).run E.P w= .ok u w∧(Op.equalIn (d+1) e v u).run E.P w= .ok r w:=by intro k x y r xs ys hx hy nG re hb;rw[Nat.add_mul,Nat.one_mul]at hx hy;exact⟨_,_,P7 hf hx,P7 hf hy,ih V e x y _ _ r hf hk (oD x _ nG) (oD y _ re) hb FZ⟩)
 intro m;induction m with|zero=>intro k x y r xs ys hx hy nG re hb;simp only[Nat.zero_add,Nat.one_mul]at nG re;obtain⟨v,u,e1,e2,e3⟩:=one k x y r xs ys hx hy nG re hb;rw[List.range'_succ,List.range'_zero];simp only[Op.eqItems,Sem.run_bind,e1,e2,e3,Result.andThen_ok,Sem.run_ite];cases r<;>simp|succ m F0=>intro k x y r xs ys hx hy nG re hb;simp only[rowOf,QA]at hb;split at hb;(·rename_i p q hp hq;simp only[Option.some.injEq]at hb;obtain⟨va,vb,hv,qL,u2⟩:=nG;obtain⟨ua,ub,hu,Ai,Dk⟩:=re;have jn:=MA _ _ _ _ _ qL;have Aj:=MA _ _ _ _ _ u2;have F1:=MA _ _ _ _ _ Ai;have Jz:=MA _ _ _ _ _ Dk;(have split: ∀(zs:Array Value)(za zb:List Value),za.length=V.cells→(zs.toList.drop (k*V.cells)).take ((m+1+1)*V.cells)=za++zb→(zs.toList.drop (k*V.cells)).take V.cells=za∧(zs.toList.drop ((k+1)*V.cells)).take ((m+1)*V.cells)=zb:=by intro zs za zb jn he;have hle:V.cells≤(m+1+1)*V.cells:=Nat.le_mul_of_pos_left _ (by omega);constructor;(·have:=congrArg (List.take V.cells) he;rw[List.take_take,Nat.min_eq_left hle,←jn,List.take_left]at this;rw[←jn];exact this);·have:=congrArg (List.drop V.cells) he;rw[List.drop_take,List.drop_drop,←jn,List.drop_left,jn]at this;rw[show(m+1+1)*V.cells-V.cells=(m+1)*V.cells from by rw[Nat.add_mul (m+1) 1];omega,show k*V.cells+V.cells=(k+1)*V.cells from by rw[Nat.add_mul,Nat.one_mul]]at this;exact this);obtain⟨e1,e2⟩:=split xs va vb jn hv;obtain⟨e3,e4⟩:=split ys ua ub F1 hu;have hmul:(k+1)*V.cells≤(k+(m+1+1))*V.cells:=Nat.mul_le_mul_right _ (by omega);obtain⟨v,u,f1,f2,f3⟩:=one k x.1 y.1 p xs ys (by omega) (by omega) (by rw[e1];exact qL) (by rw[e3];exact Ai) hp;have rest:=F0 (k+1) x.2 y.2 q xs ys (by rw[show k+1+(m+1)=k+(m+1+1)from by omega];exact hx) (by rw[show k+1+(m+1)=k+(m+1+1)from by omega];exact hy) (by rw[e2];exact u2) (by rw[e4];exact Dk) hq;rw[List.range'_succ];simp only[Op.eqItems,Sem.run_bind,f1,f2,f3,Result.andThen_ok,Sem.run_ite];subst hb;cases p;(·simp);·simpa using rest);·cases hb
theorem ay5(hE:L6 E) {w:World} {M:Mem} : ∀(d:Nat)(T:Ty)(t:Nat)(x y:T.den)(v u:Value)(r:Bool),MZ E t T→QN E t T→Na T x w M v→Na T y w M u→QA T x y=some r→dep T≤d→(Op.equalIn (d+1) t v u).run E.P w= .ok r w:=by
 intro d;induction d with|zero=>intro T t x y v u r hf hk hv hu hb hd;(cases T with|int k=>obtain⟨hv,_⟩:=hv;injection hv with hv;subst hv;obtain⟨hu,_⟩:=hu;injection hu with hu;subst hu;obtain⟨dd,hu,hs⟩:=hf.To;(cases dd<;>first|cases hs|skip);rename_i k';simp only[QA,Option.some.injEq]at hb;subst hb;rw[run_equalIn_int _ _ _ _ _ _ _ hu];rfl|bool=>obtain⟨rfl⟩:=hv;obtain⟨rfl⟩:=hu;obtain⟨dd,hu,hs⟩:=hf.To;(have fY:dd= .bool:=by cases dd<;>first|rfl|cases hs);subst fY;simp only[QA,Option.some.injEq]at hb;subst hb;exact run_equalIn_bool' _ _ _ _ _ hu|str=>obtain⟨hv,_⟩:=hv;injection hv with hv;subst hv;obtain⟨hu,_⟩:=hu;injection hu with hu;subst hu;obtain⟨dd,hu,hs⟩:=hf.To;(have fY:dd= .string:=by cases dd<;>first|rfl|cases hs);subst fY;simp only[QA,Option.some.injEq]at hb;subst hb;rw[run_equalIn_string _ _ _ _ _ hu,toList_mk,toList_mk];(have e:(x==y)=decide (x=y):=by rw[Bool.eq_iff_iff];simp);rw[e]|st R=>simp only[dep]at hd;omega|_=>cases hk)|succ d ih=>intro T t x y v u r hf hk hv hu hb hd;cases T with|int k=>obtain⟨hv,_⟩:=hv;injection hv with hv;subst hv;obtain⟨hu,_⟩:=hu;injection hu with hu;subst hu;obtain⟨dd,hu,hs⟩:=hf.To;(cases dd<;>first|cases hs|skip);rename_i k';simp only[QA,Option.some.injEq]at hb;subst hb;rw[run_equalIn_int _ _ _ _ _ _ _ hu];rfl|bool=>obtain⟨rfl⟩:=hv;obtain⟨rfl⟩:=hu;obtain⟨dd,hu,hs⟩:=hf.To;(have fY:dd= .bool:=by cases dd<;>first|rfl|cases hs);subst fY;simp only[QA,Option.some.injEq]at hb;subst hb;exact run_equalIn_bool' _ _ _ _ _ hu|str=>obtain⟨hv,_⟩:=hv;injection hv with hv;subst hv;obtain⟨hu,_⟩:=hu;injection hu with hu;subst hu;obtain⟨dd,hu,hs⟩:=hf.To;(have fY:dd= .string:=by cases dd<;>first|rfl|cases hs);subst fY;simp only[QA,Option.some.injEq]at hb;subst hb;rw[run_equalIn_string _ _ _ _ _ hu,toList_mk,toList_mk];(have e:(x==y)=decide (x=y):=by rw[Bool.eq_iff_iff];simp);rw[e]|st R=>obtain⟨⟨R',Ig⟩,_,Dl⟩:=UW hE hk;obtain⟨vs,rfl,oD⟩:=hv;obtain⟨us,rfl,EX⟩:=hu;rcases Dl with⟨fs,rf,A6,cS⟩|⟨m,e,rf,A6⟩;(case inr=>rcases hf.agg hE with⟨fs,kG,_⟩|⟨m',e',V,kG,hV,rfl,A4,FO,hm⟩;(·rw[rf]at kG;cases kG);·rw[rf]at kG;injection kG with kG;injection kG with h1 h2;subst h1;subst h2;obtain⟨i,hi,bt,_⟩:=(hE.facts hV).info;(have b7:E.P.cellsOf e=V.cells:=by simp[Program.cellsOf,hi,bt]);rw[run_equalIn_array w (d+1) vs.toArray us.toArray rf hi,b7,List.range_eq_range'];obtain⟨m,rfl⟩: ∃k,m=k+1:=⟨m-1,by omega⟩;(have hlen: ∀(V:Ty)(k:Nat),(rowOf V k).cells=k*V.cells:=by intro V k;induction k with|zero=>simp[rowOf,Ty.cells]|succ k ih=>cases k with|zero=>simp[rowOf]|succ k=>simp only[rowOf,Ty.cells,ih,Nat.add_mul];omega);(have yq: ∀(V:Ty)(k:Nat),dep V≤dep (rowOf V (k+1)):=by intro V k;cases k with|zero=>exact Nat.le_refl _|succ k=>simp only[rowOf,dep];omega);have l1:=MA _ _ _ _ _ oD;have l2:=MA _ _ _ _ _ EX;rw[hlen]at l1 l2;have me:=yq V m;simp only[dep]at hd;refine ay4 hE hV A6 (by omega) ih m 0 x y r vs.toArray us.toArray (by simp[l1]) (by simp[l2]) ?_ ?_ hb;(·simpa[List.take_of_length_le (Nat.le_of_eq l1)]using oD);·simpa[List.take_of_length_le (Nat.le_of_eq l2)]using EX);(have xV:E.P.fieldsOf t=fs:=by simp[Program.fieldsOf,rf]);(have bm:MC E.ty fs.toList R 0=true:=by obtain⟨dd,sq,hs⟩:=hf.To;rw[rf]at sq;injection sq with sq;subst sq;exact hs);rw[run_equalIn_struct w (d+1) t vs.toArray us.toArray (by rw[xV];exact rf) cS,xV];have l1:=MA _ _ _ _ _ oD;have l2:=MA _ _ _ _ _ EX;refine ar3 hE ih fs.toList R 0 bm A6 x y r vs.toArray us.toArray (by simp only[dep]at hd;omega) (by simp[l1]) (by simp[l2]) ?_ ?_ hb;(·simpa[List.take_of_length_le (Nat.le_of_eq l1)]using oD);(·simpa[List.take_of_length_le (Nat.le_of_eq l2)]using EX)|_=>cases hk
theorem VN {P:Program} (w:World)(d:Nat) {t e:TypeId} (x:Option Addr)(hu:P.underlying t=some (.pointer e)):(Op.equalIn (d+1) t (.pointer x) (.pointer none)).run P w= .ok x.isNone w:=by
 unfold Op.equalIn;cases x<;>simp[run_underlying hu]
theorem ay6(hE:L6 E) {n:Nat} {w0:World} {S0:Cx} {s:St} {a:Act} {w:World} {ν:Nat→Value} {S:Nat→Prop} {F:Np} (h:Full n w0 S0 s a w ν S) {t:Nat} {neg:Bool} {p q:PV} {v u:Value} {xo yo:Operand} {Kl:Out→Prop} (hp:ep h.c p v)(hq:ep h.c q u)(ab:Ml E (Ss E F s.bl t neg p q) Kl): ∃r v',Kl (.val r)∧ep h.c r v'∧(do eqGuard (if neg then .neq else .eql) t xo yo v u;binOp (if neg then .neq else .eql) t v u:Go.Sem Value).run E.P w= .ok v' w:=by
 unfold Ss at ab;split at ab;(·rename_i T hT;split at ab;(·rename_i r gD;unfold af3 at gD;split at gD;(case h_2=>cases gD);rename_i U;split at gD;(case h_2=>cases gD);obtain⟨dd,rh,hs⟩:=(hE.facts hT).To;(obtain⟨e,rfl⟩: ∃e,dd= .pointer e:=by cases dd<;>first|exact⟨_,rfl⟩|cases hs);simp only[ep]at hq;subst hq;(have fin: ∀(ad:Option Addr),v= .pointer ad→r=ad.isNone→ ∃r v',Kl (.val r)∧ep h.c r v'∧(do eqGuard (if neg then .neq else .eql) t xo yo v (.pointer none);binOp (if neg then .neq else .eql) t v (.pointer none):Go.Sem Value).run E.P w= .ok v' w:=by intro ad hv hr;subst hv;subst hr;have he:=VN (P:=E.P) w 9999 ad rh;refine⟨_,.bool (QC neg ad.isNone),ab,MI,?_⟩;cases neg<;>simp[eqGuard,binOp,Op.equal,Op.maxDepth,he,QC]);split at gD;(·simp only[ep]at hp;injection gD with gD;exact fin none hp gD.symm);(·simp only[ep,RF,Na,L3]at hp;obtain⟨_,g,ob,cs,hv,_⟩:=hp;simp only[List.cons.injEq,and_true]at hv;injection gD with gD;exact fin _ hv gD.symm);(·simp only[ep]at hp;obtain⟨_,g,ob,cs,hv,_⟩:=hp;injection gD with gD;exact fin _ hv gD.symm);(·simp only[ep]at hp;obtain⟨_,g,_,hv⟩:=hp;injection gD with gD;exact fin _ hv gD.symm);·cases gD);split at ab;(·rename_i x y hx hy vD;split at ab;(·rename_i r hb;have hf:=hE.facts hT;have hR:Reads F s h.c ⟨fun b=>S b∨b<w.heap.size,L4 w0 S0⟩:=⟨rfl,h.W.MS,fun b hb=>.inl hb,fun id _⟨b,hb⟩g hg=>.inr (h.Pe hb hg).2.2⟩;have hv:=NW hR (.inl hf.own) hx hp;have hu:=NW hR (.inl hf.own) hy hq;cases T with|bool=>obtain⟨vu⟩:=hv;obtain⟨iw⟩:=hu;obtain⟨dd,rh,hs⟩:=hf.To;(have fY:dd= .bool:=by cases dd<;>first|rfl|cases hs);subst fY;simp only[QA,Option.some.injEq]at hb;subst hb;have he:=run_equalIn_bool' (P:=E.P) w 9999 t x y rh;refine⟨_,_,ab,MI,?_⟩;cases neg;(·simp only[Bool.false_eq_true,if_false,Sem.run_bind,TZ,Result.andThen_ok,binOp,Op.equal,Op.maxDepth,he,Sem.run_pure,QC]);(·simp only[if_true,Sem.run_bind,TZ,Result.andThen_ok,binOp,Op.equal,Op.maxDepth,he,Sem.run_pure,QC])|st R=>simp only[aw6,Bool.and_eq_true]at vD;obtain⟨_,oV,_⟩:=UW hE vD.1;have yq:=Nat.le_of_ble_eq_true vD.2;have he:(Op.equalIn 10000 t v u).run E.P w= .ok r w:=ay5 hE 9999 (.st R) t x y v u r hf vD.1 hv hu hb (by simp only[dep];omega);obtain⟨vs,rfl,_⟩:=hv;obtain⟨us,rfl,_⟩:=hu;refine⟨_,_,ab,MI,?_⟩;cases neg;(·simp only[Bool.false_eq_true,if_false,Sem.run_bind,run_eqGuard_agg (P:=E.P) w _ t xo yo _ _ oV,Result.andThen_ok,run_eql_struct,he,QC]);(·simp only[if_true,Sem.run_bind,run_eqGuard_agg (P:=E.P) w _ t xo yo _ _ oV,Result.andThen_ok,run_neq_struct,he,QC])|_=>cases vD);·exact ab.elim);·exact ab.elim)
 ·exact ab.elim
end
end Go.Proofs.YtgpkijnphchkpaaGreat
namespace Go.Proofs.YtgpkijnphchkpaaGreat
open Go.RowKit
section
variable {E:Env} {n:Nat} {w0:World} {S0:Cx} {s:St} {a:Act} {w:World} {ν:Nat→Value} {S:Nat→Prop} {F:Np} {o:Oper} {K:St→Prop} {Q:Exit→Act→World→Prop}
theorem T0 {P:Program} (w:World)(d:Nat) {t e:TypeId} (aa:Option Addr)(m cap:Nat)(hu:P.underlying t=some (.slice e)):(Op.equalIn (d+1) t (.slice aa m cap) (.slice none 0 0)).run P w= .ok aa.isNone w:=by
 unfold Op.equalIn;cases aa<;>simp[run_underlying hu]
theorem ay7(hE:L6 E)(h:Full n w0 S0 s a w ν S)(ho:MV n o=true) {op:BinOp} {t:Nat} {x y:Operand} {t2:Nat} (ak:o.op= .binOp op t x y t2)(ab:Ml E (LM E F s o) (fun l=>K (s.fin o.dst l))):o.wp E.P a w (fun a' w'=> ∃s',K s'∧Rel n w0 S0 s' a' w') Q:=by
 simp only[LM,ak]at ab;have hx:=h.ev (L5 ho (x:=x) (by simp[ak,Op.operands]));have hy:=h.ev (L5 ho (x:=y) (by simp[ak,Op.operands]));(have fin: ∀(p:PV)(v:Value),K (s.fin o.dst (.val p))→ep h.c p v→(do eqGuard op t x y (a.eval x) (a.eval y);binOp op t (a.eval x) (a.eval y):Go.Sem Value).run E.P w= .ok v w→o.wp E.P a w (fun a' w'=> ∃s',K s'∧Rel n w0 S0 s' a' w') Q:=by intro p v hK hp hr;refine h.val ho (v:=v) ?_ hp hK;simp only[execOp,ak];rw[Sem.run_bind,hr];simp only[Result.andThen_ok,Sem.run_pure])
 (have Dm: ∀(neg:Bool)(oo:Out),op=(if neg then .neq else .eql)→RH E F t neg (s.ev x) (s.ev y)=some oo→Ml E oo (fun l=>K (s.fin o.dst l))→o.wp E.P a w (fun a' w'=> ∃s',K s'∧Rel n w0 S0 s' a' w') Q:=by intro neg oo vE hn hK;unfold RH at hn;split at hn;(case h_2=>cases hn);rename_i rj;rw[rj]at hy;simp only[ep]at hy;split at hn;(case h_2=>cases hn);rename_i U hT;obtain⟨e,hu,_⟩:=(hE.facts hT).elem hE;(have aJ: ∀(aa:Option Addr)(m cap:Nat),a.eval x= .slice aa m cap→(do eqGuard op t x y (a.eval x) (a.eval y);binOp op t (a.eval x) (a.eval y):Go.Sem Value).run E.P w= .ok (.bool (QC neg aa.isNone)) w:=by intro aa m cap hv;rw[hv,hy,vE];have he:=T0 (P:=E.P) w 9999 aa m cap hu;cases neg<;>simp[eqGuard,binOp,Op.equal,Op.maxDepth,he,QC]);split at hn;(·rename_i V xs kD;injection hn with hn;subst hn;rw[kD]at hx;simp only[ep]at hx;obtain⟨_,aa,cap,hv,hle,gQ,bx⟩:=hx;injection hv with hv;refine fin _ _ (hK (QC neg aa.isNone) (fun hb=>?_)) MI (aJ _ _ _ hv);rcases bx with rfl|⟨g,ob,rfl,_⟩;(·rfl);·cases neg<;>simp[QC]at hb);(·rename_i kD;injection hn with hn;subst hn;rw[kD]at hx;simp only[ep]at hx;exact fin _ _ hK MI (aJ none 0 0 hx));·cases hn)
 split at ab;(·rename_i oo hn;unfold Su at hn;split at hn;(·exact Dm false oo rfl hn ab);(·exact Dm true oo rfl hn ab);·cases hn);simp only[Wm]at ab;split at ab
 (·rename_i k m l m' kD rj;rw[kD]at hx;rw[rj]at hy;obtain⟨qR,nG⟩:=ME hx;obtain⟨u7,re⟩:=ME hy;split at ab;(·obtain⟨p,v,hK,hp,hr⟩:=ar2 (c:=h.c) (l:=l) (t:=t) (w:=w) nG ab;refine fin p v hK hp ?_;simp only[qR,u7,Sem.run_bind,Q9,Result.andThen_ok,hr]);·split at ab;(·rename_i hk;have fH:=NI hk;subst fH;split at ab;(·rename_i oE;(have vE:op= .rem:=by simp only[Bool.and_eq_true]at oE;cases op<;>first|rfl|exact absurd oE.2 (by decide));subst vE;obtain⟨h0,hK⟩:=ab;change Int at m;change Int at m';have h0:(0:Int)<m':=h0;(have hq:k.min≤Int.tmod m m'∧Int.tmod m m'≤k.max:=by have CD:=P8 k;have A5:=SH k;rcases Int.le_total 0 m with hm|hm;(·rw[Int.tmod_eq_emod_of_nonneg hm];have e1:0≤m%m':=Int.emod_nonneg _ (by omega);have e2:m%m'<m':=Int.emod_lt_of_pos _ h0;omega);·obtain⟨q,rfl⟩: ∃q,m= -q:=⟨-m,by omega⟩;rw[Int.neg_tmod,Int.tmod_eq_emod_of_nonneg (by omega)];have e1:0≤q%m':=Int.emod_nonneg _ (by omega);(have e2:q%m'≤q:=by rcases Int.lt_or_le q m' with h'|h';(·rw[Int.emod_eq_of_lt (by omega) h'];exact Int.le_refl _);·have:=Int.emod_lt_of_pos q h0;omega);omega);refine fin _ (.int k (Int.tmod m m')) hK (MY hq) ?_;simp only[qR,u7,Sem.run_bind,Q9,Result.andThen_ok,binOp,ne_eq,not_true_eq_false,if_false,Op.intDiv];rw[if_neg (by omega)];rfl);split at ab;(·rename_i oE;(have vE:op= .quo:=by simp only[Bool.and_eq_true]at oE;cases op<;>first|rfl|exact absurd oE.2 (by decide));subst vE;obtain⟨h0,hK⟩:=ab;change Int at m;change Int at m';have h0:(0:Int)<m':=h0;(have hq:k.min≤Int.tdiv m m'∧Int.tdiv m m'≤k.max:=by have CD:=P8 k;have A5:=SH k;rcases Int.le_total 0 m with hm|hm;(·rw[Int.tdiv_eq_ediv_of_nonneg hm];have e1:0≤m/m':=Int.ediv_nonneg hm (by omega);have e2:m/m'≤m:=Int.ediv_le_self m' hm;omega);·obtain⟨q,rfl⟩: ∃q,m= -q:=⟨-m,by omega⟩;rw[Int.neg_tdiv,Int.tdiv_eq_ediv_of_nonneg (by omega)];have e1:0≤q/m':=Int.ediv_nonneg (by omega) (by omega);have e2:q/m'≤q:=Int.ediv_le_self m' (by omega);omega);refine fin _ (.int k (Int.tdiv m m')) hK (MY hq) ?_;simp only[qR,u7,Sem.run_bind,Q9,Result.andThen_ok,binOp,ne_eq,not_true_eq_false,if_false,Op.intDiv];rw[if_neg (by omega),OS k hq];rfl);·obtain⟨p,v,hK,hp,hr⟩:=aS4 (c:=h.c) (t:=t) (w:=w) nG re ab;refine fin p v hK hp ?_;simp only[qR,u7,Sem.run_bind,Q9,Result.andThen_ok,hr]);·exact ab.elim)
 (·rename_i m m' kD rj;rw[kD]at hx;rw[rj]at hy;obtain⟨qR,nG⟩:=NK hx;obtain⟨u7,re⟩:=NK hy;obtain⟨p,v,hK,hp,hr⟩:=aS5 (c:=h.c) (t:=t) (w:=w) ab;refine fin p v hK hp ?_;simp only[qR,u7,Sem.run_bind,ZZ,Result.andThen_ok,hr])
 ·split at ab;(·obtain⟨r,v',hK,hr,aJ⟩:=ay6 hE h (neg:=false) (xo:=x) (yo:=y) hx hy ab;exact fin r v' hK hr aJ);(·obtain⟨r,v',hK,hr,aJ⟩:=ay6 hE h (neg:=true) (xo:=x) (yo:=y) hx hy ab;exact fin r v' hK hr aJ);·exact ab.elim
theorem aS6(h:Full n w0 S0 s a w ν S)(ho:MV n o=true) {op:UnOp} {t:Nat} {x:Operand} (ak:o.op= .unOp op t x)(ab:Ml E (LM E F s o) (fun l=>K (s.fin o.dst l))):o.wp E.P a w (fun a' w'=> ∃s',K s'∧Rel n w0 S0 s' a' w') Q:=by
 simp only[LM,ak]at ab;have hx:=h.ev (L5 ho (x:=x) (by simp[ak,Op.operands]));split at ab;(·rename_i b aY;rw[aY]at hx;have hv:=P2 hx;refine h.val ho ?_ MI ab;simp[execOp,ak,hv,Op.unary])
 (·rename_i k m aY;rw[aY]at hx;obtain⟨hv,_⟩:=ME hx;obtain⟨hr,hK⟩:=ab;refine h.val ho ?_ (MY hr) hK;simp only[execOp,ak,hv,Op.unary,Op.intArith,Sem.run_bind,Sem.run_pure,Result.andThen_ok,OS k hr])
 ·exact ab.elim
theorem ar4 {k l:IntKind} (h:widens k l=true) {x:Int} (hx:k.min≤x∧x≤k.max):l.min≤x∧x≤l.max:=by
 cases k<;>cases l<;>first|(simp[IntKind.min,IntKind.max,IntKind.signed,IntKind.bits]at*;omega)|cases h
theorem T3 {w:World} {M:Mem} : ∀(xs:List Int)(vs:List Value),(∀i y,xs[i]?=some y→L3 (.int .u8) y w M ((vs.drop i).take 1))→vs.length=xs.length→vs=xs.map (Value.int .u8)|[],vs,_,hl=>(by simpa using hl)|x::xs,[],_,hl=>(by simp at hl)|x::xs,v::vs,h,hl=>by obtain⟨h0,_⟩:=h 0 x rfl;simp at h0;subst h0;have:=T3 xs vs (fun i y hy=>by simpa using h (i+1) y (by simpa using hy)) (by simpa using hl);rw[this];rfl
theorem Source.bt2 {T:Ty} {xs:List T.den} {w:World} {M:Mem} {a:Option Addr} {len cap:Nat} (h:L3 (.sl T) xs w M [.slice a len cap]):len=xs.length∧ ∃news,Source w T.cells a xs.length news∧ ∀i y,xs[i]?=some y→L3 T y w M ((news.drop (i*T.cells)).take T.cells):=by
 obtain⟨a',fG,hv,h1,h2,h3⟩:=h;injection hv with hv;injection hv with e1 e2 e3;subst e1;refine⟨e2,?_⟩;rcases h3 with rfl|⟨g,ob,rfl,hS,cc⟩;(·exact⟨[],⟨by simp,.inl rfl,by simp⟩,fun i y hy=>by simp at hy⟩)
 ·obtain⟨vs,hl,hc,iD,hr⟩:=SZ xs cc;exact⟨vs,⟨hl,.inr ⟨_,rfl,fun j u hj=>by rw[NX];exact hc j u hj⟩,iD⟩,hr⟩
theorem Full.content(h:Full n w0 S0 s a w ν S) {T:Ty} {p:PV} {xs:List T.den} {v:Value} (gu:Ma T=0)(hx:Pb F s.bl T p=some xs)(hp:ep h.c p v): ∃aa c news,v= .slice aa xs.length c∧Source w T.cells aa xs.length news∧ ∀i y,xs[i]?=some y→L3 T y w ⟨S,L4 w0 S0⟩ ((news.drop (i*T.cells)).take T.cells):=by
 (have own: ∀(id:Nat)(U:Ty)(ys:List U.den)(te:Option Nat),look id s.bl=some (.arr U ys te)→ ∀aa len cap,ν id= .slice aa len cap→len=ys.length∧ ∃news,Source w U.cells aa ys.length news∧ ∀i y,ys[i]?=some y→L3 U y w ⟨S,L4 w0 S0⟩ ((news.drop (i*U.cells)).take U.cells):=by intro id U ys te hl aa len cap br;obtain⟨dD,iy,u,hu,vw,bx⟩:=h.W.MS _ _ hl;simp only[List.cons.injEq,and_true]at hu;rw[br]at hu;subst hu;rcases bx with⟨hn,rfl⟩|⟨g,ob,fG,cur,e,kc,hle,Ab,iA,hB,hh,gv,cc⟩;(·injection hn with e1 e2 e3;subst e1;subst e2;exact⟨rfl,[],⟨by simp,.inl rfl,by simp⟩,fun i y hy=>by simp at hy⟩);·injection kc with e1 e2 e3;subst e1;obtain⟨vs,oM,hc,iD,hr⟩:=SZ ys cc;exact⟨e2,vs,⟨oM,.inr ⟨_,rfl,fun j u hj=>by rw[NX];exact hc j u hj⟩,iD⟩,hr⟩)
 cases p with|iv U y=>simp only[Pb]at hx;obtain⟨e,hx⟩:=Ty.Mo hx;subst e;simp only at hx;subst hx;simp only[ep]at hp;have bu:L3 (.sl T) y w ⟨S,L4 w0 S0⟩ [v]:=hp.2;obtain⟨aa,cap,hv,dQ⟩:=bu;injection hv with hv;obtain⟨_,news,h1,h2⟩:=Source.bt2 (h:=(by rw[←hv];exact hp.2:L3 (.sl T) y w ⟨S,L4 w0 S0⟩ [.slice aa (List.length y) cap]));exact⟨aa,cap,news,hv,h1,h2⟩|LV id=>simp only[Pb]at hx;split at hx;(·rename_i U ys te hl;obtain⟨hl,_⟩:=MW hl;obtain⟨e,hx⟩:=Ty.Mo hx;injection e with e;subst e;simp only at hx;subst hx;simp only[ep]at hp;obtain⟨hd,br,aa,len,cap,hv⟩:=hp;simp only[Full.c]at br;obtain⟨hlen,news,h1,h2⟩:=own id _ _ _ hl aa len cap (by rw[←br,hv]);subst hlen;exact⟨aa,cap,news,hv,h1,h2⟩);(·cases hx)|Ps id sz off len=>simp only[Pb]at hx;split at hx;(·rename_i U ys te hl;obtain⟨hl,_⟩:=MW hl;split at hx;(case h_2=>cases hx);rename_i bt;have bt:=Nat.eq_of_beq_eq_true bt;obtain⟨e,hx⟩:=Ty.Mo hx;injection e with e;subst e;simp only at hx;subst hx;simp only[ep]at hp;obtain⟨hd,aa,m,cap,b,br,hn,gQ,hv,hb⟩:=hp;obtain⟨hlen,news,h1,h2⟩:=own id _ _ _ hl aa m cap br;subst hlen;(have mc:((ys.drop off).take len).length=len:=by simp;omega);refine⟨b,cap-off,(news.drop (off*U.cells)).take (len*U.cells),by rw[mc];exact hv,⟨?_,?_,fun u hu=>h1.one u (List.mem_of_mem_drop (List.mem_of_mem_take hu))⟩,fun i y hy=>?_⟩;(·rw[mc,List.length_take,List.length_drop,h1.len];(have:off*U.cells+len*U.cells≤ys.length*U.cells:=by rw[←Nat.add_mul];exact Nat.mul_le_mul_right _ hn);omega);(·rw[mc];by_cases hz:len=0;(·exact .inl hz);·right;obtain⟨g,ob,ha,dG⟩:=hb (by omega);rcases h1.cells with h0|⟨ad,CF,hc⟩;(·omega);·rw[ha]at CF;injection CF with CF;subst CF;refine⟨_,dG,fun j u hj=>?_⟩;(have qN:j<len*U.cells:=by rcases Nat.lt_or_ge j (len*U.cells)with h'|h';(·exact h');·rw[List.getElem?_eq_none (by rw[List.length_take];omega)]at hj;cases hj);rw[List.getElem?_take,if_pos qN,List.getElem?_drop]at hj;have:=hc _ u hj;rw[NX]at this⊢;rw[bt,Nat.add_assoc];exact this);·(have hi:i<len:=by rcases Nat.lt_or_ge i len with h'|h';(·exact h');·rw[List.getElem?_eq_none (by omega)]at hy;cases hy);rw[List.getElem?_take,if_pos hi,List.getElem?_drop]at hy;have:=h2 _ y hy;rw[List.drop_take,List.drop_drop,List.take_take];(have e1:off*U.cells+i*U.cells=(off+i)*U.cells:=by rw[Nat.add_mul]);(have e2:U.cells≤len*U.cells-i*U.cells:=by have:(i+1)*U.cells≤len*U.cells:=Nat.mul_le_mul_right _ hi;rw[Nat.add_mul]at this;omega);rw[e1,Nat.min_eq_left e2];exact this);(·cases hx)|clip U y=>simp only[Pb]at hx;obtain⟨e,hx⟩:=Ty.Mo hx;injection e with e;subst e;simp only at hx;subst hx;simp only[ep]at hp;obtain⟨_,⟨aa,m,rfl⟩,bu⟩:=hp;obtain⟨hlen,news,h1,h2⟩:=Source.bt2 (h:=(bu:L3 (.sl U) y w ⟨S,L4 w0 S0⟩ [.slice aa m m]));subst hlen;exact⟨aa,_,news,rfl,h1,h2⟩|Ms=>simp only[Pb,Option.some.injEq]at hx;subst hx;simp only[ep]at hp;exact⟨none,0,[],hp,⟨by simp,.inl rfl,by simp⟩,fun i y hy=>by simp at hy⟩|_=>simp only[Pb]at hx;cases hx
theorem ag5(hE:L6 E)(h:Full n w0 S0 s a w ν S)(ho:MV n o=true) {t1 t:Nat} {x:Operand} (ak:o.op= .convert t1 t x)(ab:Ml E (LM E F s o) (fun l=>K (s.fin o.dst l))):o.wp E.P a w (fun a' w'=> ∃s',K s'∧Rel n w0 S0 s' a' w') Q:=by
 simp only[LM,ak,Tn]at ab;have hx:=h.ev (L5 ho (x:=x) (by simp[ak,Op.operands]));split at ab;(·rename_i k0 l A1 hT;obtain⟨d1,vt,yr⟩:=(hE.facts A1).To;obtain⟨d2,rh,mi⟩:=(hE.facts hT).To;(have ix:d2= .int l:=by(cases d2<;>first|cases mi|skip);rename_i k';rw[NI mi]);subst ix;split at ab;(·rename_i k m aY;rw[aY]at hx;obtain⟨hv,hr⟩:=ME hx;(have aJ:(execOp a.eval o).run E.P w= .ok (.value (.int l (l.wrap m))) w:=by simp[execOp,ak,hv,convert,run_underlying vt,run_underlying rh,Conv.intToInt]);split at ab;(·rename_i hw;have cm:=ar4 hw hr;rw[OS l cm]at aJ;exact h.val ho aJ (MY cm) ab);·exact h.val ho aJ (MY (wrap_within l m)) ab);·exact ab.elim)
 (·rename_i A1 hT;obtain⟨d1,vt,yr⟩:=(hE.facts A1).To;obtain⟨d2,rh,mi⟩:=(hE.facts hT).To;(have ix:d2= .string:=by cases d2<;>first|rfl|cases mi);subst ix;(have me:d1= .string:=by cases d1<;>first|rfl|cases yr);subst me;split at ab;(·rename_i y aY;rw[aY]at hx;obtain⟨hv,hr⟩:=NK hx;refine h.val ho ?_ (SD hr) ab;simp[execOp,ak,hv,convert,run_underlying vt,run_underlying rh]);·exact ab.elim)
 (·rename_i k A1 hT;split at ab;(·rename_i xs hk qW;have hk:=NI hk;subst hk;obtain⟨e,vt,he,ff,_⟩:=(hE.facts A1).elem hE;obtain⟨d2,rh,mi⟩:=(hE.facts hT).To;(have ix:d2= .string:=by cases d2<;>first|rfl|cases mi);subst ix;obtain⟨d3,F2,Ip⟩:=ff.To;(have CC:d3= .int .u8:=by(cases d3<;>first|cases Ip|skip);rename_i k';rw[NI Ip]);subst CC;obtain⟨aa,c,news,hv,dU,bu⟩:=h.content (T:=.int .u8) rfl qW hx;have Dn:=T3 (M:=⟨S,L4 w0 S0⟩) (w:=w) xs news (fun i y hy=>by simpa[Ty.cells]using bu i y hy) (by simpa[Ty.cells]using dU.len);(have mc:xs.length≤9223372036854775807:=by have hR:Reads F s h.c ⟨fun b=>S b∨b<w.heap.size,L4 w0 S0⟩:=⟨rfl,h.W.MS,fun b hb=>.inl hb,fun id _⟨b,hb⟩g hg=>.inr (h.Pe hb hg).2.2⟩;exact(OR _ _ _ _ _ (ZI hR qW hx)).1);refine h.val ho (v:=.string ⟨(xs.map fun n:Int=>UInt8.ofNat n.toNat).toArray⟩) ?_ (SD (by simpa using mc)) ab;(have Dp:(convert t1 t (a.eval x)).run E.P w= .ok (.string ⟨(xs.map fun n:Int=>UInt8.ofNat n.toNat).toArray⟩) w:=by rw[hv];rcases dU.cells with h0|⟨ad,rfl,hc⟩;(·have EY:xs=[]:=List.eq_nil_of_length_eq_zero h0;subst EY;cases aa with|none=>exact run_convert_bytes_nil w t1 e vt F2 _ _ t rh|some ad=>rw[run_convert_bytes_string w t1 t e _ _ _ vt F2 rh];simp[Conv.bytesToString,loadCells,loadCellsFrom];rfl);·rw[run_convert_bytes_string w t1 t e _ _ _ vt F2 rh];have hl:=run_loadCells_list (P:=E.P) w ad news hc;rw[Dn,List.length_map]at hl;rw[run_bytesToString w ad xs.length c xs hl,foldl_push_bytes];simp[ByteArray.empty,ByteArray.emptyWithCapacity];rfl);simp only[execOp,ak,Sem.run_bind,Dp,Result.andThen_ok,Sem.run_pure]);·exact ab.elim)
 ·exact ab.elim
theorem SI {w:World} {M:Mem} : ∀(T:Ty)(vs:List Value),T.zer=true→Nq T=some vs→L3 T (M3 T) w M vs:=by
 intro T;induction T with|unit=>intro vs _ h;simp only[Nq,Option.some.injEq]at h;subst h;rfl|int k=>intro vs _ h;simp only[Nq,Option.some.injEq]at h;subst h;exact⟨rfl,P8 k,SH k⟩|bool=>intro vs _ h;simp only[Nq,Option.some.injEq]at h;subst h;rfl|str=>intro vs _ h;simp only[Nq,Option.some.injEq]at h;subst h;exact⟨rfl,by simp[M3]⟩|sl t=>intro vs _ h;simp only[Nq,Option.some.injEq]at h;subst h;exact⟨none,0,rfl,Nat.le_refl _,by omega,.inl rfl⟩|own t=>intro vs hz h;cases hz|Mj a b=>intro vs hz h;cases hz|ptr t=>intro vs hz h;cases hz|OM f t=>intro vs hz h;cases hz|mp a b=>intro vs _ h;simp only[Nq,Option.some.injEq]at h;subst h;exact⟨by simp[M3],.inl ⟨rfl,rfl⟩⟩|LY=>intro vs hz h;cases hz|st t ih=>intro vs hz h;exact ih vs hz h|pair a b da cI=>intro vs hz h;simp only[Ty.zer,Bool.and_eq_true]at hz;simp only[Nq]at h;split at h;(·rename_i x y hx hy;simp only[Option.some.injEq]at h;subst h;exact⟨x,y,rfl,da x hz.1 hx,cI y hz.2 hy⟩);·cases h
theorem XS (z : Array Value) (n i : Nat) (hi : i < n) : ((Builtin.zeroCells z n).toList.drop (i * z.size)).take z.size = z.toList := by
  apply List.ext_getElem?
  intro j
  rw [List.getElem?_take]
  by_cases hj : j < z.size
  · rw [if_pos hj, List.getElem?_drop]
    have bo : i * z.size + j < n * z.size := by
      calc i * z.size + j < i * z.size + z.size := by omega
        _ = (i + 1) * z.size := by rw [Nat.add_mul]; omega
        _ ≤ n * z.size := Nat.mul_le_mul_right _ hi
    have A7 : (i * z.size + j) % z.size = j := by
      rw [Nat.add_comm, Nat.add_mul_mod_self_right, Nat.mod_eq_of_lt hj]
    simp only [Builtin.zeroCells, Array.getElem?_toList, Array.getElem?_map]
    rw [Array.getElem?_eq_getElem (by simpa using bo)]
    simp only [Option.map_some, Array.getElem_range, A7]
    rw [getElem!_pos z j hj, Array.getElem?_eq_getElem hj]
  · rw [if_neg hj, List.getElem?_eq_none (by rw [Array.length_toList]; omega)]
theorem ag6 {te el:Option Nat} {w:World} {v u:Value} (h:OK te w v)(hv:u=v) {t':Nat} (hk:ak6 te el=some t'):OK (some t') w u∧el=some t':=by
 unfold ak6 at hk;split at hk;(·rename_i a b;split at hk;(·rename_i fC;injection hk with hk;subst hk;rw[hv];exact⟨h,by rw[Nat.eq_of_beq_eq_true fC]⟩);·cases hk)
 ·cases hk
theorem ar5 (hE : L6 E) (h : Full n w0 S0 s a w ν S) (ho : MV n o = true) {c : Call} (ak : o.op = .call c) (dV : c.callee = .builtin .append) (ab : Ml E (LM E F s o) (fun l => K (s.fin o.dst l))) : o.wp E.P a w (fun a' w' => ∃ s', K s' ∧ Rel n w0 S0 s' a' w') Q := by
  obtain ⟨callee, args, argTypes⟩ := c
  simp only at dV
  subst dV
  simp only [LM, ak] at ab
  split at ab
  · rename_i t u p q d dD aY hd
    split at ab
    · rename_i T hT
      obtain ⟨xo, yo, ez⟩ : ∃ xo yo, args = #[xo, yo] := by
        have hl : args.toList.length = 2 := by have := congrArg List.length aY; rw [TV, List.length_map] at this; simpa using this
        match hh : args.toList, hl with
        | [xo, yo], _ => exact ⟨xo, yo, Array.toList_inj.1 (by rw [hh])⟩
      subst ez
      simp only [MP, List.cons.injEq, and_true] at aY
      obtain ⟨hp, hq⟩ := aY
      have ra : argTypes = #[t, u] := Array.toList_inj.1 (by rw [dD])
      subst ra
      have hx := h.ev (L5 ho (x := xo) (by simp [ak, Op.operands, Call.operands]))
      have hy := h.ev (L5 ho (x := yo) (by simp [ak, Op.operands, Call.operands]))
      rw [hp] at hx
      rw [hq] at hy
      obtain ⟨e, hu, he, ff, eu, iC⟩ := (hE.facts hT).elem hE
      have gu := ff.own
      have aJ : ∀ v' w', (Builtin.append_ #[t, u] o.type #[a.eval xo, a.eval yo]).run E.P w = .ok v' w' → (execOp a.eval o).run E.P w = .ok (.value v') w' := by
        intro v' w' hr
        simp [execOp, ak, resolve, invoke, builtin, hr]
      -- the source
      have src : ∀ ys, Ri E F s.bl T t u q = some ys → ∃ news, Src E.P T.cells u (a.eval yo) ys.length news w ∧ ∀ i y, ys[i]? = some y → L3 T y w ⟨S, L4 w0 S0⟩ ((news.drop (i * T.cells)).take T.cells) := by
        intro ys fF
        simp only [Ri] at fF
        split at fF
        · rename_i F3
          have F3 := Nat.eq_of_beq_eq_true F3
          subst F3
          obtain ⟨aa, c, news, hv, h1, h2⟩ := h.content gu fF hy
          exact ⟨news, by rw [hv]; exact h1.src hu c, h2⟩
        · split at fF
          · rename_i hU
            split at fF
            · split at fF
              · rename_i k hk z A8
                have A8 := NI A8
                subst A8
                simp only [Option.some.injEq] at fF
                subst fF
                obtain ⟨hv, hl⟩ := NK hy
                obtain ⟨dd, yt, oC⟩ := (hE.facts hU).To
                have fY : dd = .string := by cases dd <;> first | rfl | cases oC
                subst fY
                have hs := Src.ofString (w := w) yt (⟨z.toArray⟩ : ByteArray)
                have bt : (⟨z.toArray⟩ : ByteArray).size = z.length := by simp [ByteArray.size]
                have EZ : byteCells ⟨z.toArray⟩ = z.map fun c => Value.int .u8 (c.toNat : Int) := by simp [byteCells]
                rw [bt, EZ] at hs
                refine ⟨_, by rw [hv, List.length_map]; exact hs, fun i y hy => ?_⟩
                rw [List.getElem?_map] at hy
                cases hz : z[i]? with
                | none => rw [hz] at hy; cases hy
                | some c =>
                  rw [hz] at hy
                  simp only [Option.map_some, Option.some.injEq] at hy
                  subst hy
                  have hi : i < z.length := (List.getElem?_eq_some_iff.1 hz).1
                  have hd : ((z.map fun c => Value.int .u8 (c.toNat : Int)).drop i).take 1 = [Value.int .u8 (c.toNat : Int)] := by
                    rw [List.drop_eq_getElem_cons (by rw [List.length_map]; exact hi)]
                    simp only [List.getElem_map, List.take_succ_cons, List.take_zero]
                    rw [(List.getElem?_eq_some_iff.1 hz).2]
                  simp only [Ty.cells, Nat.mul_one]
                  rw [hd]
                  have := UInt8.toNat_lt c
                  exact ⟨rfl, by show (0 : Int) ≤ _; omega, by show (_ : Int) ≤ 255; omega⟩
              · cases fF
            · cases fF
          · cases fF
      -- onto a local array, of which a part may be taken
      have Dq : ∀ (id j : Nat) (xs ys : List T.den) (v : Value) (zs : List T.den) (te tf : Option Nat), look id s.bl = some (.arr T zs te) → (∀ t', tf = some t' → OK (some t') w v ∧ E.XK t = some t') → j < P0 → (j = id ∨ look j s.bl = none) → Ri E F s.bl T t u q = some ys → a.eval xo = v → L3 (.own T) xs w ⟨S, L4 w0 S0⟩ [v] → (∀ g, LZ v = some g → LZ (ν id) = some g) → xs.length + ys.length ≤ 1099511627776 → K (s.fin o.dst (.append id j (.arr T (xs ++ ys) tf))) →
          o.wp E.P a w (fun a' w' => ∃ s', K s' ∧ Rel n w0 S0 s' a' w') Q := by
        intro id j xs ys v zs te tf hl E1 hj tz fF hv eK mj hlen hK
        obtain ⟨news, dU, bu⟩ := src ys fF
        obtain ⟨v', w', hr, iF, gS, yu, jk, A9⟩ := QJ hE (ty := o.type) hT gu eK h.W.lt h.W.size dU bu hlen
        refine M8 (aJ v' w' (by rw [hv]; exact hr)) ⟨_, hK, ?_⟩
        simp only [St.fin, hd]
        have F4 : NN w w' (LZ (ν id)) := by
          refine ⟨gS.os, gS.tape, gS.output, gS.size, fun k hk bf => gS.block k hk (fun e => bf (by rw [mj k e.symm])), gS.drawn⟩
        refine (h.app (v' := v') (My ho d hd) hl hj tz F4 yu (fun g hg => ?_) (b' := .arr T (xs ++ ys) tf) (fun D => ⟨?_, gu, by simpa using iF⟩)).rel
        rotate_left
        · cases F5 : tf with
          | none => exact M9 _ _
          | some t' =>
            obtain ⟨g1, g2⟩ := E1 t' F5
            exact (A9 t' (hE.XK t t' g2) g1).Qn (by simp) fun _ _ => rfl
        rcases jk g hg with hf | hf
        · exact .inl (mj g hf)
        · exact .inr hf
      -- whichever name it has
      have Ak : ∀ (id : Nat) (xs ys : List T.den) (v : Value) (zs : List T.den) (r : Prop) (te tf : Option Nat), look id s.bl = some (.arr T zs te) → (∀ t', tf = some t' → OK (some t') w v ∧ E.XK t = some t') → Ri E F s.bl T t u q = some ys → a.eval xo = v → L3 (.own T) xs w ⟨S, L4 w0 S0⟩ [v] → (∀ g, LZ v = some g → LZ (ν id) = some g) → (r → xs.length + ys.length ≤ 1099511627776) →
          Ml E (match Nat.ble P0 id with | false => .MU r (.append id id (.arr T (xs ++ ys) tf)) | true => match look d s.bl with | none => .MU r (.append id d (.arr T (xs ++ ys) tf)) | some _ => .fail 70) (fun l => K (s.fin o.dst l)) →
          o.wp E.P a w (fun a' w' => ∃ s', K s' ∧ Rel n w0 S0 s' a' w') Q := by
        intro id xs ys v zs r te tf hl E1 fF hv eK mj hlen hK
        split at hK
        · rename_i hb
          have hj : id < P0 := by
            rcases Nat.lt_or_ge id P0 with h' | h'
            · exact h'
            · rw [Nat.ble_eq_true_of_le h'] at hb; cases hb
          exact Dq id id xs ys v zs te tf hl E1 hj (.inl rfl) fF hv eK mj (hlen hK.1) hK.2
        · split at hK
          · rename_i hn
            have hj : d < P0 := Nat.lt_of_lt_of_le (My ho d hd) (Nat.le_trans h.TT (by decide))
            exact Dq id d xs ys v zs te tf hl E1 hj (.inr hn) fF hv eK mj (hlen hK.1) hK.2
          · exact hK.elim
      -- onto a part without room: a new array
      have Dr : ∀ (id : Nat) (r : Prop) (ys : List T.den) (b : Option Addr) (zs : List T.den) (te : Option Nat), look id s.bl = some (.arr T zs te) → Ri E F s.bl T t u q = some ys → a.eval xo = .slice b 0 0 → ys ≠ [] → ys.length ≤ 1099511627776 →
          Ml E (match Nat.ble P0 id with | false => .MU r (.append id id (.arr T ys)) | true => match look d s.bl with | none => .MU r (.append id d (.arr T ys)) | some _ => .fail 70) (fun l => K (s.fin o.dst l)) →
          o.wp E.P a w (fun a' w' => ∃ s', K s' ∧ Rel n w0 S0 s' a' w') Q := by
        intro id r ys b zs te hl fF hv bf hlen hK
        obtain ⟨news, dU, bu⟩ := src ys fF
        obtain ⟨v', w', hr, iF, gS, yu, jk⟩ := Qd hE (ty := o.type) hT gu (xs := []) (a := b) (m := 0) ⟨b, 0, rfl, Nat.le_refl _, by omega, .inl rfl⟩ h.W.lt h.W.size dU bu bf (by simpa using hlen)
        have fin : ∀ j, j < P0 → (j = id ∨ look j s.bl = none) → K (s.fin o.dst (.append id j (.arr T ys))) → o.wp E.P a w (fun a' w' => ∃ s', K s' ∧ Rel n w0 S0 s' a' w') Q := by
          intro j hj tz hK
          refine M8 (aJ v' w' (by rw [hv]; exact hr)) ⟨_, hK, ?_⟩
          simp only [St.fin, hd]
          exact (h.app (v' := v') (My ho d hd) hl hj tz ⟨gS.os, gS.tape, gS.output, gS.size, fun k hk _ => gS.block k hk (by simp), gS.drawn⟩ yu (fun g hg => .inr (jk g hg)) (b' := .arr T ys) (fun D => ⟨M9 _ _, gu, by simpa using iF⟩)).rel
        split at hK
        · rename_i hb
          have hj : id < P0 := by
            rcases Nat.lt_or_ge id P0 with h' | h'
            · exact h'
            · rw [Nat.ble_eq_true_of_le h'] at hb; cases hb
          exact fin id hj (.inl rfl) hK.2
        · split at hK
          · rename_i hn
            have hj : d < P0 := Nat.lt_of_lt_of_le (My ho d hd) (Nat.le_trans h.TT (by decide))
            exact fin d hj (.inr hn) hK.2
          · exact hK.elim
      split at ab
      · rename_i hint
        split at ab
        · rename_i k m zc iG xW hl
          obtain ⟨⟨h0, h1⟩, hK⟩ := ab
          change Int at m
          have h0 : (0 : Int) < m := h0
          have h1 : m ≤ (1073741824 : Int) := h1
          obtain ⟨kn, JA⟩ : ∃ kn, E.P.underlying u = some (.int kn) := by
            cases hU : E.ty u with
            | none => rw [hU] at hint; cases hint
            | some U =>
              rw [hU] at hint
              cases U with
              | int kn =>
                obtain ⟨dd, yt, oC⟩ := (hE.facts hU).To
                cases dd <;> first | exact ⟨_, yt⟩ | cases oC
              | _ => cases hint
          obtain ⟨u7, _⟩ := ME hy
          simp only [ep] at hx
          obtain ⟨i, hi, bt, Ac, oR, z, hz, qO⟩ := ff.info
          obtain ⟨zv, u4, _, _⟩ := SE (c := h.c) T zc xW
          rw [hz] at oR
          have nH := QL oR u4
          have hm : m = ((m.toNat : Nat) : Int) := by omega
          have hb : m.toNat * i.bytes ≤ 140737488355328 := by
            calc m.toNat * i.bytes ≤ 1099511627776 * 128 := Nat.mul_le_mul (by omega) Ac
              _ = 140737488355328 := by decide
          have vF := _root_.Go.Lib.run_append_grow_zeros (P := E.P) w t u o.type e i z k kn hu JA hi hz none 0 0 [] (run_firstCells_none _ _ _ _ _) m.toNat (by omega) (by rw [bt]; omega) (by omega) (by omega) (by omega) (growslice_fits (by omega) (by simpa using hb))
          simp only [Nat.zero_add] at vF
          rw [← hm] at vF
          have JB := SI (w := w) (M := ⟨S, L4 w0 S0⟩) T zv iG u4
          have hg := UQ (E := E) (e := e) (w := w) (M := ⟨S, L4 w0 S0⟩) (zs := List.replicate m.toNat (M3 T)) qO gu h.W.lt h.W.size (by rw [List.length_replicate]; omega) (Builtin.zeroCells z.cells m.toNat).toList (by rw [List.length_replicate, Array.length_toList, al4, qO]) (fun i y hy => by
            rw [List.getElem?_replicate] at hy
            split at hy
            · rename_i hj
              simp only [Option.some.injEq] at hy
              subst hy
              rw [← qO, XS _ _ _ hj, nH]
              exact JB
            · cases hy) 0
          simp only [List.length_replicate] at hg
          refine M8 (aJ _ _ (by rw [hx, u7]; exact vF)) ⟨_, hK, ?_⟩
          simp only [St.fin, hd]
          refine h.US (My ho d hd) hl gu ⟨rfl, rfl, rfl, by simp, fun k hk _ => Below.heap_alloc w.drew _ k hk, fun _ => Nat.le_succ _⟩ ⟨_, _, _, rfl⟩ (fun g hg => by injection hg with hg; simp at hg; omega) ?_ (M9 _ _)
          have sv : (([] : List Value).toArray ++ Builtin.zeroCells z.cells m.toNat) = (Builtin.zeroCells z.cells m.toNat).toList.toArray := by simp
          rw [sv]
          exact hg
        · exact ab.elim
      split at ab
      · unfold ML at ab
        split at ab
        · rename_i ys U zs fF hl
          split at ab
          · rename_i xs dT
            obtain ⟨e', er⟩ := Ty.Mo dT
            injection e' with e'
            subst e'
            simp only at er
            subst er
            simp only [ep] at hx
            obtain ⟨_, ⟨aa, m, hv⟩, oW⟩ := hx
            obtain ⟨news, dU, bu⟩ := src ys fF
            obtain ⟨⟨bf, hlen⟩, hK⟩ := ab
            rw [hv] at oW
            obtain ⟨v', w', hr, iF, gS, yu, jk⟩ := Qd hE (ty := o.type) hT gu oW h.W.lt h.W.size dU bu bf hlen
            refine M8 (aJ v' w' (by rw [hv]; exact hr)) ⟨_, hK, ?_⟩
            simp only [St.fin, hd]
            exact h.US (My ho d hd) hl gu gS yu jk iF (M9 _ _)
          · exact ab.elim
        · exact ab.elim
      cases bU : RI F s.bl T d p (Ri E F s.bl T t u q) (E.XK t) with
      | MU r Ds =>
        rw [bU] at ab
        simp only [RI] at bU
        split at bU
        case h_2 => cases bU
        rename_i ys fF
        split at bU
        · injection bU with e1 e2
          subst e1; subst e2
          simp only at ab
          split at ab
          · rename_i hl
            obtain ⟨hlen, hK⟩ := ab
            simp only [ep] at hx
            obtain ⟨news, dU, bu⟩ := src ys fF
            have eK : L3 (.own T) ([] : List T.den) w ⟨S, L4 w0 S0⟩ [.slice none 0 0] := ⟨_, rfl, by simp, .inl ⟨rfl, rfl⟩⟩
            obtain ⟨v', w', hr, iF, gS, yu, jk, A9⟩ := QJ hE (ty := o.type) hT gu eK h.W.lt h.W.size dU bu (by simpa using hlen)
            refine M8 (aJ v' w' (by rw [hx]; exact hr)) ⟨_, hK, ?_⟩
            simp only [St.fin, hd]
            exact h.US (My ho d hd) hl gu gS yu (fun g hg => by rcases jk g hg with hf | hf; cases hf; exact hf) (by simpa using iF) (by
              cases JC : E.XK t with
              | none => exact M9 _ _
              | some t' => exact A9 t' (hE.XK t t' JC) (fun t2 _ g hg => by cases hg))
          · exact ab.elim
        · split at bU <;> cases bU
        · rename_i id
          split at bU
          · rename_i U zs te hl
            obtain ⟨hl, _⟩ := MW hl
            split at bU
            · rename_i xs dT
              obtain ⟨e', er⟩ := Ty.Mo dT
              injection e' with e'
              subst e'
              simp only at er
              subst er
              injection bU with e1 e2
              subst e1; subst e2
              simp only [ep] at hx
              obtain ⟨dD, _, hb⟩ := h.W.MS _ _ hl
              have br : a.eval xo = ν id := hx.2.1
              exact Ak id _ ys _ _ _ _ _ hl (fun t' tA => ag6 dD rfl tA) fF br hb (fun g hg => hg) (fun h => h) ab
            · cases bU
          · cases bU
        · rename_i id sz off len
          split at bU
          · rename_i U zs te hl
            obtain ⟨hl, _⟩ := MW hl
            split at bU
            · rename_i xs dT bt
              have bt := Nat.eq_of_beq_eq_true bt
              obtain ⟨e', er⟩ := Ty.Mo dT
              injection e' with e'
              subst e'
              simp only at er
              subst er
              injection bU with e1 e2
              subst e1; subst e2
              simp only [ep] at hx
              obtain ⟨fY, aa, m, cap, b, br, hn, gQ, hv, hb⟩ := hx
              obtain ⟨dD, iy, u, iw, vw, bx⟩ := h.W.MS _ _ hl
              simp only [List.cons.injEq, and_true] at iw
              simp only [Full.c] at br
              rw [br] at iw
              subst iw
              have F6 : (off < zs.length ∨ off = zs.length ∧ len = 0 ∧ ys ≠ []) ∧ len + ys.length ≤ 1099511627776 := by
                simp only at ab
                split at ab
                · exact ab.1
                · split at ab
                  · exact ab.1
                  · exact ab.elim
              by_cases eJ : off < cap
              case neg =>
                have K9 : zs.length = m := by
                  rcases bx with ⟨iE, rfl⟩ | ⟨g, ob, fG, cur, e', kc, _⟩
                  · injection iE with _ h2 _; simp [h2]
                  · injection kc with _ h2 _; exact h2.symm
                obtain ⟨h1, h2⟩ := F6
                rcases h1 with h1 | ⟨h1, h3, h4⟩
                · omega
                subst h3
                have Dt : cap - off = 0 := by omega
                rw [Dt] at hv
                rw [List.take_zero, List.nil_append] at ab
                exact Dr id _ ys b zs te hl fF hv h4 (by omega) ab
              rcases bx with ⟨iE, rfl⟩ | ⟨g, ob, fG, cur, e', kc, hle, Ab, iA, hB, hh, gv, cc⟩
              · injection iE with _ _ h3
                omega
              · injection kc with e1 e2 e3
                subst e1; subst e2; subst e3
                obtain ⟨g', La, ha, dG⟩ := hb (by omega)
                injection ha with ha
                injection ha with yv Ba
                subst yv; subst Ba
                have mc : ((zs.drop off).take len).length = len := by simp; omega
                refine Ak id _ ys (a.eval xo) zs _ _ none hl (fun _ h => by cases h) fF rfl ?_ (fun Lb Du => ?_) (fun hr => by rw [mc]; exact hr.2) ab
                · rw [hv, dG]
                  refine ⟨_, rfl, by rw [mc]; omega, .inr ⟨g, ob + off * sz, cap - off, cur, e', by rw [mc], by rw [mc]; omega, by omega, iA, hB, hh, ?_, fun i y hy => ?_⟩⟩
                  · rw [bt, Nat.add_assoc, ← Nat.add_mul, show off + (cap - off) = cap from by omega]
                    exact gv
                  · have hi : i < len := by
                      rcases Nat.lt_or_ge i len with h' | h'
                      · exact h'
                      · rw [List.getElem?_eq_none (by omega)] at hy; cases hy
                    rw [List.getElem?_take, if_pos hi, List.getElem?_drop] at hy
                    obtain ⟨cs, h1, h2, h3⟩ := cc _ y hy
                    refine ⟨cs, h1, ?_, h3⟩
                    rw [bt, Nat.add_assoc, ← Nat.add_mul]
                    exact h2
                · rw [hv, dG] at Du
                  rw [br]
                  exact Du
            · cases bU
          · cases bU
        · cases bU
      | both o1 o2 =>
        rw [bU] at ab
        simp only [RI] at bU
        split at bU
        case h_2 => cases bU
        rename_i ys fF
        split at bU
        · cases bU
        · rename_i U zs
          split at bU
          · rename_i xs dT hl
            obtain ⟨e', er⟩ := Ty.Mo dT
            injection e' with e'
            subst e'
            simp only at er
            subst er
            injection bU with e1 e2
            subst e1; subst e2
            obtain ⟨sx, Dv⟩ := ab
            have CE := hx
            simp only [ep] at hx
            obtain ⟨_, ⟨aa, m, hv⟩, oW⟩ := hx
            obtain ⟨news, dU, bu⟩ := src ys fF
            by_cases bf : ys = []
            · have hK := sx bf
              subst bf
              refine h.val ho (v := a.eval xo) (aJ _ _ ?_) CE hK
              have kb := dU.len
              have iB := dU.cells
              simp only [List.length_nil] at kb iB
              obtain ⟨e, hu, he, ff, eu, iC⟩ := (hE.facts hT).elem hE
              obtain ⟨i, hi, bt, _⟩ := ff.info
              have hn : news = [] := List.eq_nil_of_length_eq_zero (by rw [dU.newsLen]; simp)
              subst hn
              rw [← bt] at iB
              rw [hv]
              rcases dU.kind with ⟨e2, hk⟩ | hk
              all_goals
                cases aa with
                | none => simp [Builtin.append_, run_underlying hu, run_underlying hk, sizeOf, typeInfo, hi, kb, iB]
                | some aa => simp [Builtin.append_, run_underlying hu, run_underlying hk, sizeOf, typeInfo, hi, kb, iB, storeCells]
            · obtain ⟨hlen, hK⟩ := Dv bf
              rw [hv] at oW
              obtain ⟨v', w', hr, iF, gS, yu, jk⟩ := Qd hE (ty := o.type) hT gu oW h.W.lt h.W.size dU bu bf hlen
              refine M8 (aJ v' w' (by rw [hv]; exact hr)) ⟨_, hK, ?_⟩
              simp only [St.fin, hd]
              exact h.US (My ho d hd) hl gu gS yu jk iF (M9 _ _)
          · cases bU
        · repeat' split at bU
          all_goals cases bU
        · repeat' split at bU
          all_goals cases bU
        · cases bU
      | _ =>
        rw [bU] at ab
        simp only [RI] at bU
        repeat' split at bU
        all_goals first
          | (cases bU; done)
          | exact ab.elim
    · exact ab.elim
  · exact ab.elim
end
end Go.Proofs.YtgpkijnphchkpaaGreat
namespace Go.Proofs.YtgpkijnphchkpaaGreat
open Go.RowKit
section
variable {E:Env} {n:Nat} {w0:World} {S0:Cx} {s:St} {a:Act} {w:World} {ν:Nat→Value} {S:Nat→Prop} {F:Np} {o:Oper} {K:St→Prop} {Q:Exit→Act→World→Prop}
theorem WE {T:Ty} : ∀(ps:List (Nat×PV))(vs:List (Nat×Value))(i:Nat)(xs:List T.den)(cells:Array Value)(R:T.den→List Value→Prop),(∀x cs,R x cs→cs.length=T.cells)→ps.length=vs.length→RL F s.bl T i ps=some xs→(∀(k:Nat)(p:Nat×PV)(v:Nat×Value),ps[k]?=some p→vs[k]?=some v→p.1=v.1∧ ∀x,PV.refs p.2=false→PV.Qb p.2=[]→exp F s.bl T p.2=some x→R x v.2.cells.toList)→i*T.cells+ps.length*T.cells=cells.size→ ∃out,Instr.fill (fun i=>some (i*T.cells,T.cells)) cells vs=some out∧out.size=cells.size∧xs.length=ps.length∧out.toList.take (i*T.cells)=cells.toList.take (i*T.cells)∧ ∀k x,xs[k]?=some x→R x ((out.toList.drop ((i+k)*T.cells)).take T.cells)|[],[],i,xs,cells,R,hR,_,h,_,hs=>(by simp only[RL,Option.some.injEq]at h;subst h;exact⟨cells,rfl,rfl,rfl,rfl,fun k x hk=>by simp at hk⟩)|[],_::_,_,_,_,_,_,hl,_,_,_=>(by cases hl)|_::_,[],_,_,_,_,_,hl,_,_,_=>(by cases hl)|p::ps,v::vs,i,xs,cells,R,hR,hl,h,hr,hs=>by simp only[RL]at h;split at h;(·rename_i x F7 iu tG hx;split at h;(·rename_i ys fF;simp only[Option.some.injEq]at h;subst h;have E3:=Nat.eq_of_beq_eq_true F7;obtain⟨u3,aT⟩:=hr 0 p v rfl rfl;have F8:=aT x iu tG hx;have mb:=hR _ _ F8;obtain⟨vi,vv⟩:=v;simp only at u3 mb F8;(have xX:vi=i:=by rw[←u3,E3]);subst xX;simp only[List.length_cons]at hs;(have bt:vi*T.cells+T.cells+ps.length*T.cells=cells.size:=by rw[←hs,Nat.add_mul];omega);(have oQ:vv.cells.size=T.cells:=by simpa using mb);rw[ZR rfl oQ (by omega)];(have bd:(cells.toList.take (vi*T.cells)++vv.cells.toList++cells.toList.drop (vi*T.cells+vv.cells.size)).toArray.size=cells.size:=by simp only[List.size_toArray,List.length_append,List.length_take,List.length_drop,Array.length_toList];omega);obtain⟨out,h1,h2,h3,h4,h5⟩:=WE ps vs (vi+1) ys _ R hR (by simpa using hl) fF (fun k p' v' tC vu=>hr (k+1) p' v' tC vu) (by rw[bd,Nat.add_mul];omega);(have nE:(cells.toList.take (vi*T.cells)).length=vi*T.cells:=by simp only[List.length_take,Array.length_toList];omega);(have gw:out.toList.take ((vi+1)*T.cells)=cells.toList.take (vi*T.cells)++vv.cells.toList:=by rw[h4];(have e:(vi+1)*T.cells=(cells.toList.take (vi*T.cells)++vv.cells.toList).length:=by rw[List.length_append,nE,mb,Nat.add_mul];omega);rw[e,List.take_left]);refine⟨out,h1,h2.trans bd,by simp[h3],?_,fun k y hk=>?_⟩;(·have:=congrArg (List.take (vi*T.cells)) gw;rw[List.take_take,Nat.min_eq_left (by rw[Nat.add_mul];omega),List.take_append_of_le_length (by omega),List.take_take,Nat.min_self]at this;exact this);·cases k with|zero=>simp at hk;subst hk;have:=congrArg (List.drop (vi*T.cells)) gw;have e0:(cells.toList.take (vi*T.cells)).drop (vi*T.cells)=[]:=List.drop_of_length_le (by omega);rw[List.drop_take,List.drop_append_of_le_length (by omega),e0,List.nil_append]at this;rw[show(vi+1)*T.cells-vi*T.cells=T.cells from by rw[Nat.add_mul];omega]at this;rw[Nat.add_zero,this];exact F8|succ k=>have:=h5 k y (by simpa using hk);rw[show vi+(k+1)=vi+1+k from by omega];exact this);·cases h);·cases h
theorem Full.grow(h:Full n w0 S0 s a w ν S) {w':World} {S':Nat→Prop} (hw:NN w w' none)(h1: ∀b,S b→S' b)(h2: ∀b,S' b→S b∨w.heap.size≤b)(h3: ∀b,S' b→b<w'.heap.size):Full n w0 S0 s a w' ν S':=by
 have hle:Ctx.Le ⟨ν,s.D,w,⟨S,L4 w0 S0⟩⟩ ⟨ν,s.D,w',⟨S',L4 w0 S0⟩⟩:=⟨fun b hb=>hw.block b (h.W.lt b hb) (by simp),h1,fun _ h=>h,fun _ _=>rfl⟩;refine⟨h.below.grown hw (by simp),fun b hb=>h1 b (h.XQ b hb),fun b hb=>?_,⟨h3,fun g hg=>h.W.size g (Nat.le_trans hw.size hg),fun i c hc=>?_,h.W.ne⟩,fun t=>NV hle (h.N9 t),h.size,h.defers,h.TT,h.kept,h.YS⟩
 (·rcases h2 b hb with h'|h';(·exact h.fresh b h');·exact .inr (h.W.size b h'));·refine Ru hle rfl rfl (fun g hg=>?_) (h.W.MS i c hc);obtain⟨e1,e2,e3⟩:=h.Pe hc hg;refine⟨hw.block g e3 (by simp),fun _ vG=>?_⟩;rcases h2 g vG with h'|h';(·exact e2 h');·omega
theorem XT(hE:L6 E)(h:Full n w0 S0 s a w ν S)(ho:MV n o=true) {t m:Nat} {parts:Array (Nat×Operand)} (ak:o.op= .buildSlice t m parts)(ab:Ml E (LM E F s o) (fun l=>K (s.fin o.dst l))):o.wp E.P a w (fun a' w'=> ∃s',K s'∧Rel n w0 S0 s' a' w') Q:=by
 simp only[LM,ak]at ab;split at ab;(·rename_i T d hT hd;split at ab;(·rename_i xs hl A9 hb;simp only[Bool.and_eq_true]at hb;have hm:=Nat.eq_of_beq_eq_true hb.1;have Bb:=Nat.le_of_ble_eq_true hb.2;obtain⟨e,hu,he,ff,eu,iC⟩:=(hE.facts hT).elem hE;obtain⟨i,hi,bt,Ac,_,z,hz,qO⟩:=ff.info;(have qV: ∀(k:Nat)(p:Nat×PV)(v:Nat×Value),(Nn s parts.toList)[k]?=some p→((parts.map fun x=>(x.1,a.eval x.2)).toList)[k]?=some v→p.1=v.1∧ ∀x,PV.refs p.2=false→PV.Qb p.2=[]→exp F s.bl T p.2=some x→L3 T x w ⟨S,L4 w0 S0⟩ v.2.cells.toList:=by intro k p v hk hv;rw[PG,List.getElem?_map]at hk;simp only[Array.toList_map,List.getElem?_map]at hv;cases hx:parts.toList[k]? with|none=>rw[hx]at hk;cases hk|some x=>rw[hx]at hk hv;simp only[Option.map_some,Option.some.injEq]at hk hv;subst hk;subst hv;refine⟨rfl,fun y h1 h2 h3=>?_⟩;have aY:=h.ev (x:=x.2) (L5 ho (by have hm:x∈parts:=Array.mem_toList_iff.1 (List.mem_of_getElem? hx);simp only[ak,Op.operands,List.mem_toArray,List.mem_map];exact⟨x,Array.mem_toList_iff.2 hm,rfl⟩));exact QG eu (h.ay0 ff.own h1 h2 h3 aY));(have hlen:(Nn s parts.toList).length=((parts.map fun x=>(x.1,a.eval x.2)).toList).length:=by simp[PG]);(have oB:(Nn s parts.toList).length=m:=by rw[←hm];simp[PG]);(have main: ∀cells:Array Value,cells.size=m*T.cells→ ∃out,Instr.fill (fun i=>some (i*T.cells,T.cells)) cells (parts.map fun x=>(x.1,a.eval x.2)).toList=some out∧out.size=m*T.cells∧xs.length=m∧ ∀k x,xs[k]?=some x→L3 T x w ⟨S,L4 w0 S0⟩ ((out.toList.drop (k*T.cells)).take T.cells):=by intro cells hc;obtain⟨out,h1,h2,h3,h4,h5⟩:=WE (F:=F) (s:=s) (Nn s parts.toList) _ 0 xs cells (fun x cs=>L3 T x w ⟨S,L4 w0 S0⟩ cs) (fun x cs hr=>MA _ _ _ _ _ hr) hlen A9 qV (by rw[oB,hc];omega);exact⟨out,h1,by rw[h2,hc],by rw[h3,oB],fun k x hk=>by simpa using h5 k x hk⟩);(have fin: ∀out:Array Value,out.size=m*T.cells→xs.length=m→(∀k x,xs[k]?=some x→L3 T x w ⟨S,L4 w0 S0⟩ ((out.toList.drop (k*T.cells)).take T.cells))→ ∃s',K s'∧Rel n w0 S0 s' (a.put o.dst (.slice (some ⟨w.heap.size,0,none⟩) m m)) (w.alloc (.cells out e)):=by intro out Bc u9 JD;have hh:(w.alloc (.cells out e)).heap[w.heap.size]?=some (.cells out e (0,0)):=_root_.Go.heap_alloc_new w _;have JE:m≤16777216:=Nat.le_trans (Nat.le_mul_of_pos_right m iC) Bb;have cc: ∀k x,xs[k]?=some x→L3 T x (w.alloc (.cells out e)) ⟨S,L4 w0 S0⟩ ((out.toList.drop (k*T.cells)).take T.cells):=fun k x hk=>LX (w:=w) (fun b hb=>Below.heap_alloc w _ b (h.W.lt b hb)) (fun _ h=>h) _ _ _ ff.own (JD k x hk);split at ab;(·simp only[Ml]at ab;refine⟨_,ab,?_⟩;have hg:=h.grow (S':=fun b=>S b∨b=w.heap.size) (NJ w (.cells out e) none) (fun b hb=>.inl hb) (fun b hb=>hb.imp id (fun e=>by omega)) (fun b hb=>by simp only[World.alloc,Array.size_push];rcases hb with hb|hb;(·have:=h.W.lt b hb;omega);·omega);refine(hg.put (My ho) ?_).rel;(suffices cP:L3 (.sl T) xs (w.alloc (.cells out e)) ⟨fun b=>S b∨b=w.heap.size,L4 w0 S0⟩ [.slice (some ⟨w.heap.size,0,none⟩) m m]by unfold PA;split;(·simp only[ep];exact⟨ff.own,⟨_,m,rfl⟩,cP⟩);·simp only[ep];exact⟨ff.own,cP⟩);refine⟨_,m,by rw[u9],by omega,by omega,.inr ⟨w.heap.size,0,rfl,.inr rfl,?_⟩⟩;refine VV (vs:=out.toList) (by simp[Bc,u9]) (fun j u hj=>?_) (fun k x hk=>?_);(·show(w.alloc (.cells out e)).cell? _=_;rw[cell_of_row _ _ _ _ _ _ hh,Nat.zero_add];simpa using hj);·exact LX (w:=w.alloc (.cells out e)) (M:=⟨S,L4 w0 S0⟩) (M':=⟨fun b=>S b∨b=w.heap.size,L4 w0 S0⟩) (fun b _=>rfl) (fun _ h=>.inl h) _ _ _ ff.own (cc k x hk));·simp only[Ml,St.fin,hd]at ab;refine⟨_,ab,?_⟩;rw[hd];refine h.US (v:=.slice (some ⟨w.heap.size,0,none⟩) m m) (My ho d hd) hl ff.own (NJ w _ none) ⟨_,_,_,rfl⟩ (fun g hg=>by injection hg with hg;simp at hg;omega) ?_ (M9 _ _);refine⟨_,rfl,by omega,.inr ⟨w.heap.size,0,m,out,e,by rw[u9],by omega,by omega,fun hS=>absurd (h.W.lt _ hS) (by simp),h.W.size _ (Nat.le_refl _),hh,by omega,?_⟩⟩;refine VV (vs:=out.toList) (by simp[Bc,u9]) (fun j u hj=>?_) (fun k x hk=>?_);(·rw[cell_of_row _ _ _ _ _ _ hh,Nat.zero_add];simpa using hj);·exact cc k x hk);(have Iq: ¬(m*T.cells>2^24):=by omega);by_cases h0:m*T.cells=0;(·obtain⟨out,h1,h2,h3,h4⟩:=main ((Array.range (m*T.cells)).map fun j=>(#[]:Array Value)[j%(#[]:Array Value).size]!) (by simp);refine M8 (v:=.slice (some ⟨w.heap.size,0,none⟩) m m) (w':=w.alloc (.cells out e)) ?_ (fin out h2 h3 h4);simp only[execOp,ak,Instr.buildSlice,Sem.run_bind,run_underlying hu,Result.andThen_ok,ff.sizeOf w,Sem.run_ite,Iq,if_false,h0,if_true,Sem.run_pure];rw[h0]at h1;simp only[h1,Sem.run_bind,newRow,run_newObj,Result.andThen_ok,Sem.run_pure];rfl);·obtain⟨out,h1,h2,h3,h4⟩:=main ((Array.range (m*T.cells)).map fun j=>z.cells[j%z.cells.size]!) (by simp);refine M8 (v:=.slice (some ⟨w.heap.size,0,none⟩) m m) (w':=w.alloc (.cells out e)) ?_ (fin out h2 h3 h4);simp only[execOp,ak,Instr.buildSlice,Sem.run_bind,run_underlying hu,Result.andThen_ok,ff.sizeOf w,Sem.run_ite,Iq,if_false,h0,Sem.run_pure,zeroValue,typeInfo,run_program,hi,hz,h1,newRow,run_newObj];rfl);·exact ab.elim)
 ·exact ab.elim
theorem XU (hE : L6 E) (h : Full n w0 S0 s a w ν S) (ho : MV n o = true) {t d : Nat} {x y : Operand} {T : Ty} {zc : List PV} {k k' : IntKind} {m0 : Int} (iG : T.zer = true) (ak : o.op = .makeSlice t x y) (hT : E.ty t = some (.sl T)) (hd : o.dst = some d) (hl : look d s.bl = none) (xW : zeroCells T = some zc)
    (qR : a.eval x = .int k m0) (u7 : a.eval y = .int k' m0) (h0 : 0 ≤ m0) (h2 : m0 ≤ 1099511627776) (ab : K ⟨(d, .LV d) :: s.sl, (d, .arr T (List.replicate (Int.toNat m0) (M3 T))) :: s.bl⟩) : o.wp E.P a w (fun a' w' => ∃ s', K s' ∧ Rel n w0 S0 s' a' w') Q := by
  obtain ⟨e, hu, he, ff, eu, iC⟩ := (hE.facts hT).elem hE
  obtain ⟨i, hi, bt, Ac, oR, z, hz, qO⟩ := ff.info
  obtain ⟨zv, u4, _, _⟩ := SE (c := h.c) T zc xW
  rw [hz] at oR
  have nH := QL oR u4
  have Bd : (i.bytes : Int) * m0 ≤ 281474976710656 := by
    have e1 : (i.bytes : Int) * m0 ≤ 128 * 1099511627776 := Int.mul_le_mul (by omega) h2 h0 (by omega)
    omega
  have hr := run_make (P := E.P) w t e i z hu hi hz k k' m0 m0 h0 (Int.le_refl _) Bd (by omega)
  rw [bt] at hr
  refine M8 (v := .slice (some ⟨w.heap.size, 0, none⟩) (Int.toNat m0) (Int.toNat m0)) (w' := w.alloc (.cells (madeCells z.cells (Int.toNat m0 * T.cells)) e)) ?_ ⟨_, ab, ?_⟩
  · simp only [execOp, ak, qR, u7, Sem.run_bind, hr, Result.andThen_ok, Sem.run_pure]
  · rw [hd]
    have hh : (w.alloc (.cells (madeCells z.cells (Int.toNat m0 * T.cells)) e)).heap[w.heap.size]? = some (.cells (madeCells z.cells (Int.toNat m0 * T.cells)) e (0, 0)) := _root_.Go.heap_alloc_new w _
    have JE : Int.toNat m0 ≤ 1099511627776 := by omega
    refine h.US (My ho d hd) hl ff.own (NJ w _ none) ⟨_, _, _, rfl⟩ (fun g hg => by injection hg with hg; simp at hg; omega) ?_ (M9 _ _)
    refine ⟨_, rfl, by rw [List.length_replicate]; omega, .inr ⟨w.heap.size, 0, Int.toNat m0, _, e, by rw [List.length_replicate], by rw [List.length_replicate]; omega, by omega, fun hS => absurd (h.W.lt _ hS) (by simp), h.W.size _ (Nat.le_refl _), hh, by rw [size_madeCells]; omega, fun j q hq => ?_⟩⟩
    rw [List.getElem?_replicate] at hq
    split at hq
    · rename_i hj
      simp only [Option.some.injEq] at hq
      subst hq
      refine ⟨zv, MA _ _ _ _ _ (SI (w := w) (M := ⟨S, L4 w0 S0⟩) T zv iG u4), fun k u hk => ?_, SI T zv iG u4⟩
      have fH : k < T.cells := by rw [← MA _ _ _ _ _ (SI (w := w) (M := ⟨S, L4 w0 S0⟩) T zv iG u4)]; exact (List.getElem?_eq_some_iff.1 hk).1
      rw [cell_of_row _ _ _ _ _ _ hh, Nat.zero_add]
      have bo : j * T.cells + k < Int.toNat m0 * T.cells := by
        calc j * T.cells + k < j * T.cells + T.cells := by omega
          _ = (j + 1) * T.cells := by rw [Nat.add_mul]; omega
          _ ≤ Int.toNat m0 * T.cells := Nat.mul_le_mul_right _ hj
      have A7 : (j * T.cells + k) % z.cells.size = k := by
        rw [qO, Nat.add_comm, Nat.add_mul_mod_self_right, Nat.mod_eq_of_lt fH]
      simp only [madeCells, Array.getElem?_map]
      rw [Array.getElem?_eq_getElem (by simpa using bo)]
      simp only [Option.map_some, Array.getElem_range, A7]
      rw [getElem!_pos z.cells k (by omega)]
      rw [← nH] at hk
      simp only [Array.getElem?_toList] at hk
      rw [Array.getElem?_eq_getElem (by omega)] at hk
      exact hk
    · cases hq
theorem YZ(hE:L6 E)(h:Full n w0 S0 s a w ν S)(ho:MV n o=true) {t:Nat} {x y:Operand} (ak:o.op= .makeSlice t x y)(ab:Ml E (LM E F s o) (fun l=>K (s.fin o.dst l))):o.wp E.P a w (fun a' w'=> ∃s',K s'∧Rel n w0 S0 s' a' w') Q:=by
 simp only[LM,ak]at ab;have hx:=h.ev (L5 ho (x:=x) (by simp[ak,Op.operands]));have hy:=h.ev (L5 ho (x:=y) (by simp[ak,Op.operands]));split at ab;(·rename_i T d k m k' m' hT hd kD rj;split at ab;(·rename_i zc hl xW iG;obtain⟨⟨h0,h1,h2⟩,ab⟩:=ab;simp only[Ml,St.fin,hd]at ab;rw[kD]at hx;rw[rj]at hy;obtain⟨qR,_⟩:=ME hx;obtain⟨u7,_⟩:=ME hy;subst h1;exact XU hE h ho iG ak hT hd hl xW qR u7 h0 h2 ab);·exact ab.elim)
 ·exact ab.elim
end
end Go.Proofs.YtgpkijnphchkpaaGreat
namespace Go.Proofs.YtgpkijnphchkpaaGreat
open Go.RowKit
theorem by1 {w w':World} {M M':Mem} : ∀(T:Ty)(x:T.den)(vs:List Value),T.flat=true→L3 T x w M vs→L3 T x w' M' vs:=by
 intro T;induction T with|unit=>intro x vs _ h;exact h|int k=>intro x vs _ h;exact h|bool=>intro x vs _ h;exact h|str=>intro x vs _ h;exact h|sl t=>intro x vs hf;cases hf|own t=>intro x vs hf;cases hf|ptr t=>intro x vs hf;cases hf|OM f t=>intro x vs hf;cases hf|mp a b=>intro x vs hf;cases hf|LY=>intro x vs _ h;exact h|Mj a b=>intro x vs _ h;exact h.elim|st t ih=>intro x vs hf h;exact ih x vs hf h|pair a b da cI=>intro x vs hf h;simp only[Ty.flat,Bool.and_eq_true]at hf;obtain⟨va,vb,rfl,h1,h2⟩:=h;exact⟨va,vb,rfl,da _ _ hf.1 h1,cI _ _ hf.2 h2⟩
theorem Y0 {w w':World} {M M':Mem} {T:Ty} {x:T.den} {v:Value} (hf:T.flat=true)(h:Na T x w M v):Na T x w' M' v:=by
 cases T with|unit=>exact h|pair a b=>exact h|Mj a b=>exact h|st t=>obtain⟨vs,rfl,h⟩:=h;exact⟨vs,rfl,by1 t x vs hf h⟩|int k=>exact h|bool=>exact h|str=>exact h|sl t=>cases hf|own t=>cases hf|ptr t=>cases hf|OM f t=>cases hf|mp a b=>cases hf|LY=>exact h
theorem by2 {w w':World} {M M':Mem} : ∀(T:Ty)(x:T.den)(vs:List Value),T.flat=true→XL T x w M vs→XL T x w' M' vs:=by
 intro T;induction T with|Mj a b da cI=>intro x vs hf h;simp only[Ty.flat,Bool.and_eq_true]at hf;obtain⟨v,r,rfl,h1,h2⟩:=h;exact⟨v,r,rfl,Y0 hf.1 h1,cI _ _ hf.2 h2⟩|_=>intro x vs hf h;obtain⟨v,rfl,h⟩:=h;exact⟨v,rfl,Y0 hf h⟩
theorem ay8 {w w':World} {M M':Mem} {T:Ty} {x:T.den} {v:Value} (hf:T.flat=true)(h:RF T x w M v):RF T x w' M' v:=by
 cases T;(case Mj a b=>obtain⟨vs,rfl,h⟩:=h;exact⟨vs,rfl,by2 _ x vs hf h⟩);all_goals exact Y0 (w:=w) (w':=w') (M:=M) (M':=M') (x:=x) (v:=v) hf h
theorem Ya: ∀(T:Ty),T.flat=true→Ma T=0:=by intro T;induction T<;>simp_all[Ty.flat,Ma]
section
variable {E:Env} {n:Nat} {w0:World} {S0:Cx} {s:St} {a:Act} {w:World} {ν:Nat→Value} {S:Nat→Prop} {F:Np} {o:Oper} {K:St→Prop} {Q:Exit→Act→World→Prop}
theorem by3(hE:L6 E)(h:Full n w0 S0 s a w ν S)(ho:MV n o=true) {c:Call} (ak:o.op= .call c)(dV:c.callee= .builtin .cap)(ab:Ml E (LM E F s o) (fun l=>K (s.fin o.dst l))):o.wp E.P a w (fun a' w'=> ∃s',K s'∧Rel n w0 S0 s' a' w') Q:=by
 obtain⟨callee,args,argTypes⟩:=c;simp only at dV;subst dV;simp only[LM,ak]at ab;split at ab;(·rename_i t aY dD;(obtain⟨xo,ez⟩: ∃xo,args= #[xo]:=by(have hl:args.toList.length=1:=by have:=congrArg List.length aY;rw[TV,List.length_map]at this;simpa using this);match hh:args.toList,hl with|[xo],_=>exact⟨xo,Array.toList_inj.1 (by rw[hh])⟩);subst ez;simp only[MP,List.cons.injEq,and_true]at aY;have ra:argTypes= #[t]:=Array.toList_inj.1 (by rw[dD]);subst ra;have hx:=h.ev (L5 ho (x:=xo) (by simp[ak,Op.operands,Call.operands]));rw[aY]at hx;simp only[ep]at hx;split at ab;(·rename_i U hT;obtain⟨e,hu,_⟩:=(hE.facts hT).elem hE;refine h.val ho (v:=.int .i64 0) ?_ (MY (by simp[IntKind.min,IntKind.max,IntKind.signed,IntKind.bits])) ab;simp[execOp,ak,resolve,invoke,builtin,Builtin.cap_,run_underlying hu,hx,goInt]);·exact ab.elim)
 ·exact ab.elim
theorem by4(hE:L6 E)(h:Full n w0 S0 s a w ν S)(ho:MV n o=true) {c:Call} (ak:o.op= .call c)(dV:c.callee= .builtin .len)(ab:Ml E (LM E F s o) (fun l=>K (s.fin o.dst l))):o.wp E.P a w (fun a' w'=> ∃s',K s'∧Rel n w0 S0 s' a' w') Q:=by
 obtain⟨callee,args,argTypes⟩:=c;simp only at dV;subst dV;simp only[LM,ak]at ab;split at ab;(·rename_i p t aY dD;(obtain⟨xo,ez⟩: ∃xo,args= #[xo]:=by(have hl:args.toList.length=1:=by have:=congrArg List.length aY;rw[TV,List.length_map]at this;simpa using this);match hh:args.toList,hl with|[xo],_=>exact⟨xo,Array.toList_inj.1 (by rw[hh])⟩);subst ez;simp only[MP,List.cons.injEq,and_true]at aY;have ra:argTypes= #[t]:=Array.toList_inj.1 (by rw[dD]);subst ra;have hx:=h.ev (L5 ho (x:=xo) (by simp[ak,Op.operands,Call.operands]));rw[aY]at hx;(have fin: ∀m:Nat,m≤9223372036854775807→(Builtin.len_ #[t] o.type #[a.eval xo]).run E.P w= .ok (.int .i64 m) w→Ml E (XN m) (fun l=>K (s.fin o.dst l))→o.wp E.P a w (fun a' w'=> ∃s',K s'∧Rel n w0 S0 s' a' w') Q:=by intro m hm hr hK;refine h.val ho (v:=.int .i64 m) ?_ (MY (by simp[IntKind.min,IntKind.max,IntKind.signed,IntKind.bits];omega)) hK;simp[execOp,ak,resolve,invoke,builtin,hr]);simp only[XO]at ab;split at ab;(·rename_i hT;obtain⟨d,hu,oC⟩:=(hE.facts hT).To;(have hd:d= .string:=by cases d<;>first|rfl|cases oC);subst hd;split at ab;(·rename_i y;obtain⟨hv,hl⟩:=NK hx;(have bt:(⟨y.toArray⟩:ByteArray).size=y.length:=by simp[ByteArray.size]);refine fin _ hl ?_ ab;simp[Builtin.len_,run_underlying hu,hv,goInt,bt]);·exact ab.elim);(·rename_i U hT;obtain⟨e,hu,_⟩:=(hE.facts hT).elem hE;(have hlen: ∀(aa:Option Addr)(m cap:Nat),a.eval xo= .slice aa m cap→(Builtin.len_ #[t] o.type #[a.eval xo]).run E.P w= .ok (.int .i64 m) w:=by intro aa m cap hv;simp[Builtin.len_,run_underlying hu,hv,goInt]);split at ab;(·rename_i U' xs;simp only[ep]at hx;obtain⟨_,aa,cap,hv,h1,h2,_⟩:=hx;injection hv with hv;exact fin _ (Nat.le_trans h1 h2) (hlen _ _ _ hv) ab);(·rename_i id;split at ab;(·rename_i U' xs te hl;obtain⟨hl,_⟩:=MW hl;simp only[ep]at hx;obtain⟨hd,br,aa,m,cap,hv⟩:=hx;obtain⟨dD,_,u,iw,vw,bx⟩:=h.W.MS _ _ hl;simp only[List.cons.injEq,and_true]at iw;simp only[Full.c]at br;(have hm:m=xs.length:=by rw[br,iw]at hv;rcases bx with⟨rfl,rfl⟩|⟨g,ob,fG,cur,e',rfl,_⟩;(·injection hv with e1 e2 e3;exact e2.symm);·injection hv with e1 e2 e3;exact e2.symm);subst hm;exact fin _ vw (hlen _ _ _ hv) ab);·exact ab.elim);(·rename_i id sz off len;obtain⟨hl,hK⟩:=ab;simp only[ep]at hx;obtain⟨hd,aa,m,cap,b,br,hn,gQ,hv,hb⟩:=hx;exact fin _ hl (hlen _ _ _ hv) hK);(·simp only[ep]at hx;exact fin 0 (by omega) (hlen _ _ _ hx) ab);·exact ab.elim);(·rename_i K' V' hT;obtain⟨d,hu,oC⟩:=(hE.facts hT).To;(obtain⟨k',e',rfl⟩: ∃k' e',d= .map k' e':=by cases d<;>first|exact⟨_,_,rfl⟩|cases oC);split at ab;(·rename_i id;split at ab;(·rename_i K2 V2 es hl;obtain⟨hl,_⟩:=MW hl;simp only[ep]at hx;obtain⟨_,br,_⟩:=hx;obtain⟨_,_,h0,r,ae,clock,h1,_,_,h4,_,h6,_⟩:=h.W.MS _ _ hl;simp only[Full.c]at br;(have br:a.eval xo= .map (some r):=by rw[br];exact h1);refine fin _ h0 ?_ ab;simp[Builtin.len_,run_underlying hu,br,MapKept.run_getObj_map h4,goInt,h6]);·exact ab.elim);·exact ab.elim);·exact ab.elim)
 ·exact ab.elim
theorem RU {P:Program} {c:Ctx} (mx:Bool) {k:IntKind} {Kl:Out→Prop} : ∀(ps:List PV)(vs:List Value)(x:Int),k.min≤x∧x≤k.max→LO c ps vs→Ml E (Qc mx k x ps) Kl→ ∃z,Kl (.val (.iv (.int k) z))∧k.min≤z∧z≤k.max∧(vs.foldlM (if mx then Builtin.max2 else Builtin.min2) (.int k x)).run P w= .ok (.int k z) w|[],vs,x,hx,hp,h=>(by simp only[LO]at hp;subst hp;exact⟨x,h,hx.1,hx.2,by simp⟩)|p::ps,vs,x,hx,hp,h=>by simp only[LO]at hp;obtain⟨v,r,rfl,h1,h2⟩:=hp;cases p with|iv T y=>(cases T with|int l=>simp only[Qc]at h;split at h;(·rename_i hk;have hk:=NI hk;subst hk;obtain⟨rfl,hy⟩:=ME h1;change Int at y;cases mx;(·(have hz:k.min≤min x (y:Int)∧min x (y:Int)≤k.max:=by(have e1:min x (y:Int)=x∨min x (y:Int)=y:=by rcases Int.le_total x y with h|h<;>simp[Int.min_def,h]<;>omega);rcases e1 with e|e<;>rw[e]<;>assumption);obtain⟨z,Be,Bf,Bg,vH⟩:=RU false ps r _ hz h2 h;refine⟨z,Be,Bf,Bg,?_⟩;rw[List.foldlM_cons,Sem.run_bind];(have e:Builtin.min2 (.int k x) (.int k y)=pure (.int k (min x (y:Int))):=by simp only[Builtin.min2,Int.min_def];congr 2;by_cases hc:x≤(y:Int);(·rw[if_pos hc,if_neg (by omega)]);·rw[if_neg hc,if_pos (by omega)]);simp only[Bool.false_eq_true,if_false]at vH⊢;rw[e];simpa using vH);·(have hz:k.min≤max x (y:Int)∧max x (y:Int)≤k.max:=by(have e1:max x (y:Int)=x∨max x (y:Int)=y:=by rcases Int.le_total x y with h|h<;>simp[Int.max_def,h]<;>omega);rcases e1 with e|e<;>rw[e]<;>assumption);obtain⟨z,Be,Bf,Bg,vH⟩:=RU true ps r _ hz h2 h;refine⟨z,Be,Bf,Bg,?_⟩;rw[List.foldlM_cons,Sem.run_bind];(have e:Builtin.max2 (.int k x) (.int k y)=pure (.int k (max x (y:Int))):=by simp only[Builtin.max2,Int.max_def];congr 2;by_cases hc:x≤(y:Int);(·rw[if_pos hc];by_cases hd:(y:Int)>x;(·rw[if_pos hd]);·rw[if_neg hd];omega);·rw[if_neg hc,if_neg (by omega)]);simp only[if_true]at vH⊢;rw[e];simpa using vH);(·exact h.elim)|_=>simp only[Qc]at h;exact h.elim)|_=>simp only[Qc]at h;exact h.elim
theorem by5(h:Full n w0 S0 s a w ν S)(ho:MV n o=true) {c:Call} (ak:o.op= .call c)(dV:c.callee= .builtin .min)(ab:Ml E (LM E F s o) (fun l=>K (s.fin o.dst l))):o.wp E.P a w (fun a' w'=> ∃s',K s'∧Rel n w0 S0 s' a' w') Q:=by
 obtain⟨callee,args,argTypes⟩:=c;simp only at dV;subst dV;simp only[LM,ak]at ab;split at ab;(·rename_i k x r aY;have aV:=O2 h args.toList (fun y hy=>L5 ho (by simp only[ak,Op.operands,Call.operands];simpa using hy));rw[aY]at aV;simp only[LO]at aV;obtain⟨v,vs,oQ,h1,h2⟩:=aV;obtain⟨rfl,hx⟩:=ME h1;obtain⟨z,Be,Bf,Bg,vH⟩:=RU (P:=E.P) (w:=w) false r vs x hx h2 ab;refine h.val ho (v:=.int k z) ?_ (MY ⟨Bf,Bg⟩) Be;(have hl:(args.map a.eval).toList= .int k x::vs:=by simpa using oQ);simp only[Bool.false_eq_true,if_false]at vH;simp only[execOp,ak,resolve,invoke,builtin,Builtin.min_,Sem.run_bind,Sem.run_pure,Result.andThen_ok,hl,vH])
 ·exact ab.elim
theorem by6(h:Full n w0 S0 s a w ν S)(ho:MV n o=true) {c:Call} (ak:o.op= .call c)(dV:c.callee= .builtin .max)(ab:Ml E (LM E F s o) (fun l=>K (s.fin o.dst l))):o.wp E.P a w (fun a' w'=> ∃s',K s'∧Rel n w0 S0 s' a' w') Q:=by
 obtain⟨callee,args,argTypes⟩:=c;simp only at dV;subst dV;simp only[LM,ak]at ab;split at ab;(·rename_i k x r aY;have aV:=O2 h args.toList (fun y hy=>L5 ho (by simp only[ak,Op.operands,Call.operands];simpa using hy));rw[aY]at aV;simp only[LO]at aV;obtain⟨v,vs,oQ,h1,h2⟩:=aV;obtain⟨rfl,hx⟩:=ME h1;obtain⟨z,Be,Bf,Bg,vH⟩:=RU (P:=E.P) (w:=w) true r vs x hx h2 ab;refine h.val ho (v:=.int k z) ?_ (MY ⟨Bf,Bg⟩) Be;(have hl:(args.map a.eval).toList= .int k x::vs:=by simpa using oQ);simp only[if_true]at vH;simp only[execOp,ak,resolve,invoke,builtin,Builtin.max_,Sem.run_bind,Sem.run_pure,Result.andThen_ok,hl,vH])
 ·exact ab.elim
end
end Go.Proofs.YtgpkijnphchkpaaGreat
namespace Go.Proofs.YtgpkijnphchkpaaGreat
open Go.RowKit Go.MapKept
/-! ### Keys -/
def Qf:(T:Ty)→T.den→List Value|.int k,x=>[.int k x]|.bool,x=>[.bool x]|.str,x=>[.string ⟨x.toArray⟩]|.pair a b,x=>Qf a x.1++Qf b x.2|.st t,x=>Qf t x|_,_=>[]
theorem MX {w:World} {M:Mem} : ∀(T:Ty)(x:T.den)(vs:List Value),Oe T=true→L3 T x w M vs→vs=Qf T x:=by
 intro T;induction T with|int k=>intro x vs _ h;exact h.1|bool=>intro x vs _ h;exact h|str=>intro x vs _ h;exact h.1|pair a b da cI=>intro x vs hp h;simp only[Oe,Bool.and_eq_true]at hp;obtain⟨va,vb,rfl,h1,h2⟩:=h;rw[da _ _ hp.1 h1,cI _ _ hp.2 h2];rfl|st t ih=>intro x vs hp h;exact ih x vs hp h|_=>intro x vs hp;cases hp
theorem Y1: ∀(T:Ty)(x y:T.den),Oe T=true→(Pp T x y=true↔x=y):=by
 intro T;induction T with|int k=>intro x y _;simp[Pp]|bool=>intro x y _;simp[Pp]|str=>intro x y _;simp[Pp]|pair a b da cI=>intro x y hp;simp only[Oe,Bool.and_eq_true]at hp;simp only[Pp,Bool.and_eq_true,da _ _ hp.1,cI _ _ hp.2];exact⟨fun h=>Prod.ext h.1 h.2,fun h=>by rw[h];exact⟨rfl,rfl⟩⟩|st t ih=>intro x y hp;exact ih x y hp|_=>intro x y hp;cases hp
theorem ay9: ∀(T:Ty)(x y:T.den),Oe T=true→QA T x y=some (Pp T x y):=by
 intro T;induction T with|int k=>intro x y _;rfl|bool=>intro x y _;rfl|str=>intro x y _;rfl|pair a b da cI=>intro x y hp;simp only[Oe,Bool.and_eq_true]at hp;simp only[QA,Pp,da _ _ hp.1,cI _ _ hp.2]|st t ih=>intro x y hp;exact ih x y hp|_=>intro x y hp;cases hp
theorem RV {E:Env} {t:Nat} {K:Ty} (h:YN E t K=true):Oe K=true∧QN E t K∧dep K≤101∧K.val=true:=by
 cases K with|int k=>exact⟨rfl,trivial,by simp[dep],rfl⟩|bool=>exact⟨rfl,trivial,by simp[dep],rfl⟩|str=>exact⟨rfl,trivial,by simp[dep],rfl⟩|st R=>simp only[YN,Bool.and_eq_true]at h;have:=Nat.le_of_ble_eq_true h.2;exact⟨h.1.2,h.1.1,by simp only[dep];omega,rfl⟩|_=>cases h
theorem WG: ∀(T:Ty)(x:T.den),Oe T=true→ ∀u,u∈Qf T x→ ∀n,Instr.sameBits n u u=true:=by
 intro T;induction T with|int k=>intro x _ u hu n;simp only[Qf,List.mem_singleton]at hu;subst hu;cases n<;>simp[Instr.sameBits]|bool=>intro x _ u hu n;simp only[Qf,List.mem_singleton]at hu;subst hu;cases n<;>simp[Instr.sameBits]|str=>intro x _ u hu n;simp only[Qf,List.mem_singleton]at hu;subst hu;cases n<;>(simp only[Instr.sameBits];exact(bytes_beq _ _).2 rfl)|pair a b da cI=>intro x hp u hu n;simp only[Oe,Bool.and_eq_true]at hp;simp only[Qf]at hu;rcases List.mem_append.1 hu with hu|hu;(·exact da _ hp.1 u hu n);(·exact cI _ hp.2 u hu n)|st t ih=>intro x hp u hu n;exact ih x hp u hu n|_=>intro x hp;cases hp
theorem T4 {p:Value→Value→Bool} : ∀(l:List Value),(∀u,u∈l→p u u=true)→(l.zip l).all (fun x=>p x.1 x.2)=true|[],_=>rfl|u::l,h=>by simp only[List.zip_cons_cons,List.all_cons,Bool.and_eq_true];exact⟨h u (List.mem_cons_self ..),T4 l fun v hv=>h v (List.mem_cons_of_mem _ hv)⟩
theorem T5 {P:Program} {w w2:World} {M:Mem} {K:Ty} {x:K.den} {v:Value} (hp:Oe K=true)(hv:K.val=true)(h:Na K x w M v):(Instr.keyThatStays v v).run P w2= .ok v w2:=by
 (have hs:Instr.sameBits 10000 v v=true:=by cases K with|int k=>obtain⟨h,_⟩:=h;injection h with h;subst h;simp[Instr.sameBits]|bool=>have h:[v]=[.bool x]:=h;injection h with h;subst h;simp[Instr.sameBits]|str=>obtain⟨h,_⟩:=h;injection h with h;subst h;simp only[Instr.sameBits];exact(bytes_beq _ _).2 rfl|st R=>obtain⟨vs,rfl,hr⟩:=h;have e:=MX R x vs hp hr;subst e;simp only[Instr.sameBits,beq_self_eq_true,Bool.true_and];exact T4 _ fun u hu=>WG R x hp u hu _|_=>first|cases hp|cases hv)
 simp[Instr.keyThatStays,hs]
section
variable {E:Env} {w:World} {M:Mem}
theorem Z0(hE:L6 E): ∀(fs:List Field)(R:Ty)(off:Nat),MC E.ty fs R off=true→PF E.ty E.cmp fs=true→ ∀(x:R.den)(xs:Array Value),off+R.cells≤xs.size→L3 R x w M ((xs.toList.drop off).take R.cells)→ ∀f,f∈fs→f.name≠ "_" ∧ ∃(T:Ty)(y:T.den)(v:Value),E.ty f.type=some T∧QN E f.type T∧dep T≤dep R∧(Go.part f.type xs f.offset).run E.P w= .ok v w∧Na T y w M v:=by
 (have one: ∀(f:Field)(T:Ty)(off:Nat)(y:T.den)(xs:Array Value),Nat.beq f.offset off=true→SB E.ty f.type T=true→(match E.ty f.type with|some (.int _)=>true|some .bool=>true|some .str=>true|some (.st _)=>E.cmp f.type|_=>false)=true→off+T.cells≤xs.size→L3 T y w M ((xs.toList.drop off).take T.cells)→ ∃v:Value,E.ty f.type=some T∧QN E f.type T∧(Go.part f.type xs f.offset).run E.P w= .ok v w∧Na T y w M v:=by intro f T off y xs h1 h2 hc hx hr;have eJ:=Nat.eq_of_beq_eq_true h1;(have hT:E.ty f.type=some T:=by unfold SB at h2;split at h2;(·rename_i U hU;rw[Ty.Nc h2]at hU;exact hU);·cases h2);have hf:=hE.facts hT;rw[hT]at hc;(have hk:QN E f.type T:=by cases T<;>first|trivial|exact hc|cases hc);(have oD:Na T y w M (valOf T ((xs.toList.drop off).take T.cells)):=by have:=O1 hf.val hr;have hv:=hf.val;cases T<;>first|exact this|cases hv);exact⟨_,hT,hk,by rw[eJ];exact P7 hf hx,oD⟩)
 intro fs;induction fs with|nil=>intro R off h;cases h|cons f fs Dj=>intro R off h hc x xs hx hr g hg;simp only[PF,Bool.and_eq_true]at hc;cases fs with|nil=>simp only[MC,Bool.and_eq_true,Bool.not_eq_true']at h;obtain⟨⟨⟨⟨h1,h2⟩,h3⟩,h4⟩,h5⟩:=h;rcases List.mem_cons.1 hg with rfl|hg;(·obtain⟨v,e1,e2,e3,e4⟩:=one g R off x xs h1 h2 hc.1 hx hr;exact⟨by simpa using h5,R,x,v,e1,e2,Nat.le_refl _,e3,e4⟩);(·cases hg)|cons f2 Lc=>cases R with|pair a b=>simp only[MC,Bool.and_eq_true,Bool.not_eq_true']at h;obtain⟨⟨⟨⟨⟨h1,h2⟩,h3⟩,h4⟩,h5⟩,h6⟩:=h;simp only[Ty.cells]at hx hr;obtain⟨va,vb,hv,qL,u2⟩:=hr;have jn:=MA _ _ _ _ _ qL;have Aj:=MA _ _ _ _ _ u2;(have e1:(xs.toList.drop off).take a.cells=va:=by have:=congrArg (List.take a.cells) hv;rw[List.take_take,Nat.min_eq_left (by omega),←jn,List.take_left]at this;rw[←jn];exact this);(have e2:(xs.toList.drop (off+a.cells)).take b.cells=vb:=by have:=congrArg (List.drop a.cells) hv;rw[List.drop_take,List.drop_drop,←jn,List.drop_left,jn]at this;rw[show a.cells+b.cells-a.cells=b.cells from by omega]at this;exact this);rcases List.mem_cons.1 hg with rfl|hg;(·obtain⟨v,e3,e4,e5,e6⟩:=one g a off x.1 xs h1 h2 hc.1 (by omega) (by rw[e1];exact qL);exact⟨by simpa using h5,a,x.1,v,e3,e4,by simp only[dep];omega,e5,e6⟩);(·obtain⟨n1,T,y,v,e3,e4,e5,e6⟩:=Dj b (off+a.cells) h6 hc.2 x.2 xs (by omega) (by rw[e2];exact u2) g hg;exact⟨n1,T,y,v,e3,e4,by simp only[dep];omega,e6⟩)|_=>simp only[MC]at h;cases h
theorem ag7 {V:Ty} (hV:V.val=true): ∀(m k:Nat)(x:(rowOf V (m+1)).den)(xs:Array Value),(k+(m+1))*V.cells≤xs.size→L3 (rowOf V (m+1)) x w M ((xs.toList.drop (k*V.cells)).take ((m+1)*V.cells))→ ∀i,k≤i→i<k+(m+1)→ ∃y:V.den,L3 V y w M ((xs.toList.drop (i*V.cells)).take V.cells):=by
 intro m;induction m with|zero=>intro k x xs hx hr i h1 h2;(have:i=k:=by omega);subst this;simp only[Nat.zero_add,Nat.one_mul]at hr;exact⟨x,hr⟩|succ m ih=>intro k x xs hx hr i h1 h2;obtain⟨va,vb,hv,qL,u2⟩:=hr;have jn:=MA _ _ _ _ _ qL;have hle:V.cells≤(m+1+1)*V.cells:=Nat.le_mul_of_pos_left _ (by omega);(have e1:(xs.toList.drop (k*V.cells)).take V.cells=va:=by have:=congrArg (List.take V.cells) hv;rw[List.take_take,Nat.min_eq_left hle,←jn,List.take_left]at this;rw[←jn];exact this);(have e2:(xs.toList.drop ((k+1)*V.cells)).take ((m+1)*V.cells)=vb:=by have:=congrArg (List.drop V.cells) hv;rw[List.drop_take,List.drop_drop,←jn,List.drop_left,jn]at this;rw[show(m+1+1)*V.cells-V.cells=(m+1)*V.cells from by rw[Nat.add_mul (m+1) 1];omega,show k*V.cells+V.cells=(k+1)*V.cells from by rw[Nat.add_mul,Nat.one_mul]]at this;exact this);by_cases oN:i=k;(·subst oN;exact⟨x.1,by rw[e1];exact qL⟩);·exact ih (k+1) x.2 xs (by rw[show k+1+(m+1)=k+(m+1+1)from by omega];exact hx) (by rw[e2];exact u2) i (by omega) (by omega)
theorem S4 (hE : L6 E) : ∀ (d : Nat) (K : Ty) (t : Nat) (x : K.den) (v : Value), E.ty t = some K → QN E t K → Na K x w M v → dep K ≤ d → ∀ em, (Instr.checkKey em (d + 1) t v).run E.P w = .ok () w := by
  intro d
  induction d with
  | zero =>
    intro K t x v hT hk hv hd em
    have hf := hE.facts hT
    obtain ⟨dd, hu, hs⟩ := hf.To
    rw [Instr.checkKey]
    simp only [Sem.run_bind, run_underlying hu, Result.andThen_ok]
    cases K with
    | int k => cases dd <;> first | cases hs | (obtain ⟨hv, _⟩ := hv; injection hv with hv; subst hv; rfl)
    | bool => have hv : [v] = [.bool x] := hv; injection hv with hv; subst hv; cases dd <;> first | rfl | cases hs
    | str => obtain ⟨hv, _⟩ := hv; injection hv with hv; subst hv; cases dd <;> first | rfl | cases hs
    | st R => simp only [dep] at hd; omega
    | _ => cases hk
  | succ d ih =>
    intro K t x v hT hk hv hd em
    have hf := hE.facts hT
    obtain ⟨dd, hu, hs⟩ := hf.To
    rw [Instr.checkKey]
    simp only [Sem.run_bind, run_underlying hu, Result.andThen_ok]
    cases K with
    | int k => cases dd <;> first | cases hs | (obtain ⟨hv, _⟩ := hv; injection hv with hv; subst hv; rfl)
    | bool => have hv : [v] = [.bool x] := hv; injection hv with hv; subst hv; cases dd <;> first | rfl | cases hs
    | str => obtain ⟨hv, _⟩ := hv; injection hv with hv; subst hv; cases dd <;> first | rfl | cases hs
    | st R =>
      obtain ⟨vs, rfl, hr⟩ := hv
      have hlen := MA _ _ _ _ _ hr
      obtain ⟨_, _, bx⟩ := UW hE hk
      simp only [dep] at hd
      rcases bx with ⟨fs, iw, JF, _⟩ | ⟨m, e, iw, E4⟩
      · rw [hu] at iw
        injection iw with iw
        subst iw
        simp only
        rw [← Array.forIn_toList]
        have each := Z0 hE fs.toList R 0 hs JF x vs.toArray (by simp [hlen]) (by simp only [List.drop_zero]; rw [List.take_of_length_le (by simp [hlen])]; exact hr)
        generalize fs.toList = L at each
        induction L with
        | nil => simp
        | cons f L F9 =>
          obtain ⟨hn, T, y, u, JG, JH, Ld, p1, bu⟩ := each f (List.mem_cons_self ..)
          have p2 := ih T f.type y u JG JH bu (by omega) em
          simp only [List.forIn_cons, Sem.run_bind, hn, ne_eq, not_false_eq_true, if_true, Result.andThen_ok, p1, p2, Sem.run_pure]
          have hL := F9 fun g hg => each g (List.mem_cons_of_mem _ hg)
          simp only [Sem.run_bind, ne_eq, Sem.run_pure] at hL
          exact hL
      · rw [hu] at iw
        injection iw with iw
        subst iw
        simp only [Nd] at hs
        split at hs
        · rename_i V hV
          simp only [Bool.and_eq_true] at hs
          obtain ⟨⟨⟨h1, h2⟩, h3⟩, h4⟩ := hs
          have h4 := Nat.le_of_ble_eq_true h4
          obtain ⟨m', rfl⟩ : ∃ m', m = m' + 1 := ⟨m - 1, by omega⟩
          have hR := Ty.Nc h1
          subst hR
          have E5 := hE.facts hV
          have JI : QN E e V := by
            unfold TQ at E4
            rw [hV] at E4
            cases V <;> first | trivial | exact E4 | cases E4
          have FZ : dep V ≤ d := by
            have : ∀ n, dep V ≤ dep (rowOf V (n + 1)) := by
              intro n
              cases n with
              | zero => exact Nat.le_refl _
              | succ n => simp only [rowOf, dep]; omega
            have := this m'
            omega
          have rl := SF V (m' + 1)
          have each := ag7 (w := w) (M := M) h2 m' 0 x vs.toArray (by simp [hlen, rl]) (by simp only [Nat.zero_mul, List.drop_zero]; rw [List.take_of_length_le (by simp [hlen, rl])]; exact hr)
          simp only [Std.Legacy.Range.forIn_eq_forIn_range', Std.Legacy.Range.size, Nat.sub_zero, Nat.add_one_sub_one, Nat.div_one]
          have vI : ∀ i, i ∈ List.range' 0 (m' + 1) → ∃ y : V.den, i < m' + 1 ∧ L3 V y w M ((vs.toArray.toList.drop (i * V.cells)).take V.cells) := by
            intro i hi
            have jR : i < m' + 1 := by simpa using hi
            obtain ⟨y, hy⟩ := each i (Nat.zero_le _) (by omega)
            exact ⟨y, jR, hy⟩
          generalize List.range' 0 (m' + 1) = is at vI
          induction is with
          | nil => simp
          | cons i is F9 =>
            obtain ⟨y, hi, hy⟩ := vI i (List.mem_cons_self ..)
            have hle : i * V.cells + V.cells ≤ vs.toArray.size := by
              rw [List.size_toArray, hlen, rl]
              calc i * V.cells + V.cells = (i + 1) * V.cells := by rw [Nat.add_mul, Nat.one_mul]
                _ ≤ (m' + 1) * V.cells := Nat.mul_le_mul_right _ hi
            have p1 := P7 E5 (w := w) (cs := vs.toArray) (off := i * V.cells) hle
            have oD : Na V y w M (valOf V ((vs.toArray.toList.drop (i * V.cells)).take V.cells)) := by
              have := O1 E5.val hy
              have hv := E5.val
              cases V <;> first | exact this | cases hv
            have p2 := ih V e y _ hV JI oD FZ em
            simp only [List.forIn_cons, Sem.run_bind, E5.sizeOf w, Result.andThen_ok, p1, p2, Sem.run_pure]
            have hL := F9 fun j hj => vI j (List.mem_cons_of_mem _ hj)
            simp only [Sem.run_bind, Sem.run_pure] at hL
            exact hL
        · cases hs
    | _ => cases hk
/-! ### A map's entries -/
def RW(w:World)(M:Mem)(K V:Ty):List (K.den×V.den)→List MapEntry→Prop|[],[]=>True|y::es,e::l=>(∃ca cb,e.key=valOf K ca∧L3 K y.1 w M ca∧e.val=valOf V cb∧L3 V y.2 w M cb)∧RW w M K V es l|_,_=>False
theorem RX {K V:Ty} : ∀(es:List (K.den×V.den))(l:List MapEntry),l.length=es.length→(∀(i:Nat)(y:K.den×V.den),es[i]?=some y→ ∃(e:MapEntry)(ca cb:List Value),l[i]?=some e∧e.key=valOf K ca∧L3 K y.1 w M ca∧e.val=valOf V cb∧L3 V y.2 w M cb)→RW w M K V es l|[],[],_,_=>trivial|[],_::_,h,_=>(by simp at h)|_::_,[],h,_=>(by simp at h)|y::es,e::l,hl,h=>by obtain⟨e',ca,cb,h1,h2⟩:=h 0 y rfl;simp only[List.getElem?_cons_zero,Option.some.injEq]at h1;subst h1;exact⟨⟨ca,cb,h2⟩,RX es l (by simpa using hl) fun i z hz=>by simpa using h (i+1) z (by simpa using hz)⟩
theorem QO {T:Ty} {x:T.den} {vs:List Value} (hT:T.val=true)(h:L3 T x w M vs):Na T x w M (valOf T vs):=by have:=O1 hT h;cases T<;>first|exact this|cases hT
def OL {K V:Type} (eq:K→K→Bool):List (K×V)→K→Option Nat|[],_=>none|p::r,k=>bif eq k p.1 then some 0 else(match OL eq r k with|some i=>some (i+1)|none=>none)
theorem S5 {K V:Type} (eq:K→K→Bool)(k:K): ∀(es:List (K×V)),Mg eq es k=(OL eq es k).bind fun i=>(es[i]?).map (·.2)|[]=>rfl|p::r=>by simp only[Mg,OL];cases eq k p.1 with|true=>rfl|false=>simp only[cond_false,S5 eq k r];cases OL eq r k<;>rfl
theorem Rw {K V:Type} (eq:K→K→Bool)(k:K)(v:V): ∀(es:List (K×V)),Nh eq es k v=(match OL eq es k with|some i=>es.set i (k,v)|none=>es++ [(k,v)])|[]=>rfl|p::r=>by simp only[Nh,OL];cases eq k p.1 with|true=>rfl|false=>simp only[cond_false,Rw eq k v r];cases OL eq r k<;>rfl
theorem T6 {K V:Type} (eq:K→K→Bool)(k:K): ∀(es:List (K×V))(i:Nat),OL eq es k=some i→ ∃p,es[i]?=some p∧eq k p.1=true|[],i,h=>(by cases h)|p::r,i,h=>by simp only[OL]at h;cases hb:eq k p.1 with|true=>rw[hb]at h;injection h with h;subst h;exact⟨p,rfl,hb⟩|false=>rw[hb]at h;simp only[cond_false]at h;split at h;(·rename_i j hj;injection h with h;subst h;obtain⟨q,h1,h2⟩:=T6 eq k r j hj;exact⟨q,by simpa using h1,h2⟩);·cases h
theorem ar6 {K:Ty} {x y:K.den} {u v:Value} (hp:Oe K=true)(hv:K.val=true)(hx:Na K x w M u)(hy:Na K y w M v):x=y→u=v:=by
 intro e;subst e;cases K with|int k=>have hx:L3 (.int k) x w M [u]:=hx;have hy:L3 (.int k) x w M [v]:=hy;have:=(MX _ _ _ hp hx).trans (MX _ _ _ hp hy).symm;simpa using this|bool=>have hx:L3 .bool x w M [u]:=hx;have hy:L3 .bool x w M [v]:=hy;have:=(MX _ _ _ hp hx).trans (MX _ _ _ hp hy).symm;simpa using this|str=>have hx:L3 .str x w M [u]:=hx;have hy:L3 .str x w M [v]:=hy;have:=(MX _ _ _ hp hx).trans (MX _ _ _ hp hy).symm;simpa using this|st R=>obtain⟨vs,rfl,h1⟩:=hx;obtain⟨us,rfl,h2⟩:=hy;rw[MX R _ _ hp h1,MX R _ _ hp h2]|_=>first|cases hp|cases hv
def OW {K V:Ty} (es:List (K.den×V.den))(l:List MapEntry)(k:K.den)(i0:Nat)(res:Option (Nat×Value)):Prop:=match OL (Pp K) es k with|none=>res=none|some i=> ∃e,l[i]?=some e∧res=some (i0+i,e.val)
theorem WH(hE:L6 E) {K V:Ty} {kt:Nat} (hT:E.ty kt=some K)(hk:YN E kt K=true) {k:K.den} {kv:Value} (jl:Na K k w M kv): ∀(es:List (K.den×V.den))(l:List MapEntry)(i0:Nat),RW w M K V es l→ ∃res,(Instr.findAsking kt kv l i0).run E.P w= .ok res w∧OW es l k i0 res|[],[],i0,_=>⟨none,by simp[Instr.findAsking],rfl⟩|[],_::_,_,h=>h.elim|_::_,[],_,h=>h.elim|y::es,e::l,i0,h=>by obtain⟨⟨ca,cb,h1,h2,h3,h4⟩,h5⟩:=h;obtain⟨hp,Dw,hd,eu⟩:=RV hk;(have JJ:Na K y.1 w M e.key:=by rw[h1];exact QO eu h2);have heq:(Op.equal kt kv e.key).run E.P w= .ok (Pp K k y.1) w:=ay5 hE 9999 K kt k y.1 kv e.key _ (hE.facts hT) Dw jl JJ (ay9 K k y.1 hp) (by omega);cases hb:Pp K k y.1 with|true=>rw[hb]at heq;exact⟨some (i0,e.val),by simp[Instr.findAsking,heq],by simp only[OW,OL,hb,cond_true];exact⟨e,rfl,rfl⟩⟩|false=>rw[hb]at heq;obtain⟨res,hr,hf⟩:=WH hE hT hk jl es l (i0+1) h5;refine⟨res,by simp[Instr.findAsking,heq,hr],?_⟩;simp only[OW,OL,hb,cond_false]at hf⊢;cases hm:OL (Pp K) es k with|none=>rw[hm]at hf;exact hf|some i=>rw[hm]at hf;obtain⟨e',gC,vJ⟩:=hf;exact⟨e',by simpa using gC,by rw[vJ];simp only[Option.some.injEq,Prod.mk.injEq,and_true];omega⟩
theorem T7 {K V:Ty} {d:TypeDesc} (hs:(match K with|.int l=>(match d with|.int k=>Px k l|_=>false)|.bool=>(match d with|.bool=>true|_=>false)|.str=>(match d with|.string=>true|_=>false)|_=>false)=true) {k:K.den} {kv:Value} (jl:Na K k w M kv): ∀(es:List (K.den×V.den))(l:List MapEntry)(i0:Nat),RW w M K V es l→ ∃res,Instr.findNow d kv l i0=some res∧OW es l k i0 res|[],[],i0,_=>⟨none,rfl,rfl⟩|[],_::_,_,h=>h.elim|_::_,[],_,h=>h.elim|y::es,e::l,i0,h=>by obtain⟨⟨ca,cb,h1,h2,h3,h4⟩,h5⟩:=h;(have iH:Instr.sameNow d kv e.key=some (Pp K k y.1):=by cases K with|int kk=>have jl:L3 (.int kk) k w M [kv]:=jl;have e1:=MX (.int kk) k _ rfl jl;have e2:=MX (.int kk) y.1 _ rfl h2;simp only[Qf,List.cons.injEq,and_true]at e1 e2;subst e1;rw[h1,e2];(cases d<;>first|(cases hs;done)|skip);simp only[Instr.sameNow,valOf,List.headD_cons,if_true,Pp];congr 1|bool=>have jl:L3 .bool k w M [kv]:=jl;have e1:=MX .bool k _ rfl jl;have e2:=MX .bool y.1 _ rfl h2;simp only[Qf,List.cons.injEq,and_true]at e1 e2;subst e1;rw[h1,e2];(cases d<;>first|rfl|(cases hs;done))|str=>have jl:L3 .str k w M [kv]:=jl;have e1:=MX .str k _ rfl jl;have e2:=MX .str y.1 _ rfl h2;simp only[Qf,List.cons.injEq,and_true]at e1 e2;subst e1;rw[h1,e2];(have hb: ∀a b:List UInt8,((⟨a.toArray⟩:ByteArray)==⟨b.toArray⟩)=decide (a=b):=by intro a b;rw[Bool.eq_iff_iff,bytes_beq,decide_eq_true_iff];constructor;(·intro h;injection h with h;simpa using congrArg Array.toList h);·intro h;rw[h]);(cases d<;>first|(cases hs;done)|skip);simp only[Instr.sameNow,valOf,List.headD_cons,hb,Pp]|_=>cases hs);cases hb:Pp K k y.1 with|true=>rw[hb]at iH;exact⟨some (i0,e.val),by simp[Instr.findNow,iH],by simp only[OW,OL,hb,cond_true];exact⟨e,rfl,rfl⟩⟩|false=>rw[hb]at iH;obtain⟨res,hr,hf⟩:=T7 hs jl es l (i0+1) h5;refine⟨res,by simp[Instr.findNow,iH,hr],?_⟩;simp only[OW,OL,hb,cond_false]at hf⊢;cases hm:OL (Pp K) es k with|none=>rw[hm]at hf;exact hf|some i=>rw[hm]at hf;obtain⟨e',gC,vJ⟩:=hf;exact⟨e',by simpa using gC,by rw[vJ];simp only[Option.some.injEq,Prod.mk.injEq,and_true];omega⟩
theorem T8(hE:L6 E) {K V:Ty} {kt:Nat} (hT:E.ty kt=some K)(hk:YN E kt K=true) {k:K.den} {kv:Value} (jl:Na K k w M kv)(es:List (K.den×V.den))(l:List MapEntry)(h:RW w M K V es l): ∃res,(Instr.findKey kt kv l).run E.P w= .ok res w∧OW es l k 0 res:=by
 obtain⟨d,hu,hs⟩:=(hE.facts hT).To;(have now: ∀res,Instr.findNow d kv l 0=some res→(Instr.findKey kt kv l).run E.P w= .ok res w:=fun res hr=>by simp[Instr.findKey,run_underlying hu,hr])
 (have ask:Instr.findNow d kv l 0=none→ ∃res,(Instr.findKey kt kv l).run E.P w= .ok res w∧OW es l k 0 res:=fun hr=>by obtain⟨res,h1,h2⟩:=WH hE hT hk jl es l 0 h;exact⟨res,by simp[Instr.findKey,run_underlying hu,hr,h1],h2⟩)
 cases K with|int kk=>obtain⟨res,h1,h2⟩:=T7 (d:=d) (by cases d<;>first|exact hs|cases hs) jl es l 0 h;exact⟨res,now res h1,h2⟩|bool=>obtain⟨res,h1,h2⟩:=T7 (d:=d) (by cases d<;>first|exact hs|cases hs) jl es l 0 h;exact⟨res,now res h1,h2⟩|str=>obtain⟨res,h1,h2⟩:=T7 (d:=d) (by cases d<;>first|exact hs|cases hs) jl es l 0 h;exact⟨res,now res h1,h2⟩|st R=>(match es,l,h with|[],[],_=>exact⟨none,now none rfl,rfl⟩|y::es,e::l,h=>refine ask ?_;simp only[Nd]at hs;cases d<;>first|(cases hs;done)|rfl)|_=>cases hk
end
end Go.Proofs.YtgpkijnphchkpaaGreat
namespace Go.Proofs.YtgpkijnphchkpaaGreat
open Go.RowKit Go.MapKept
section
variable {E:Env} {n:Nat} {w0:World} {S0:Cx} {s:St} {a:Act} {w:World} {ν:Nat→Value} {S:Nat→Prop} {F:Np} {o:Oper} {K:St→Prop} {Q:Exit→Act→World→Prop}
theorem WJ(hE:L6 E) {t:Nat} {A B:Ty} (hT:E.ty t=some (.mp A B)): ∃k v,E.P.underlying t=some (.map k v)∧E.ty k=some A∧E.ty v=some B∧A.val=true∧B.val=true∧Ma A=0∧Ma B=0:=by
 have hf:=hE.facts hT;obtain⟨d,hu,hs⟩:=hf.To;have ho:=hf.own;simp only[Ma]at ho;cases d with|map k v=>simp only[Nd,Bool.and_eq_true]at hs;obtain⟨⟨⟨h1,h2⟩,h3⟩,h4⟩:=hs;(have is: ∀(u:Nat)(U:Ty),SB E.ty u U=true→E.ty u=some U:=by intro u U h;unfold SB at h;split at h;(·rename_i X hX;rw[Ty.Nc h]at hX;exact hX);·cases h);exact⟨k,v,hu,is _ _ h1,is _ _ h2,h3,h4,by omega,by omega⟩|_=>simp only[Nd]at hs;cases hs
theorem al7(hE:L6 E) {t kt:Nat} (hk:E.mapKey t=some kt) {k v:Nat} (hu:E.P.underlying t=some (.map k v)):kt=k:=by
 have:=hE.mapKey t kt hk;unfold al2 at this;rw[hu]at this;exact Nat.eq_of_beq_eq_true this
theorem ag8(hE:L6 E)(h:Full n w0 S0 s a w ν S)(ho:MV n o=true) {t:Nat} (ak:o.op= .makeMap t none)(ab:Ml E (LM E F s o) (fun l=>K (s.fin o.dst l))):o.wp E.P a w (fun a' w'=> ∃s',K s'∧Rel n w0 S0 s' a' w') Q:=by
 simp only[LM,ak]at ab;split at ab;(·rename_i A B d hT hd;split at ab;(·rename_i hl;simp only[Ml,St.fin,hd]at ab;obtain⟨k,v,hu,_,_,_,_,xZ,sy⟩:=WJ hE hT;(have hr:(execOp a.eval o).run E.P w= .ok (.value (.map (some w.heap.size))) (w.alloc (.map #[] 0)):=by simp only[execOp,ak,Instr.makeMap,Option.map_none,Sem.run_bind,Result.andThen_ok,Sem.run_pure];rfl);refine M8 hr ⟨_,ab,?_⟩;rw[hd];have hh:(w.alloc (.map #[] 0)).heap[w.heap.size]?=some (.map #[] 0):=_root_.Go.heap_alloc_new w _;refine(h.new (b:=.mp A B []) (p:=.lmap d) (v:=.map (some w.heap.size)) (val:=.map (some w.heap.size)) (My ho d hd) hl (NJ w _ none) (fun g hg=>h.beyond (by injection hg with hg;omega)) ?_ ?_).rel;(·refine⟨xZ,sy,by simp,w.heap.size,#[],0,by simp,h.W.size _ (Nat.le_refl _),fun hS=>absurd (h.W.lt _ hS) (by simp),hh,⟨rfl,fun i e hi=>by simp at hi⟩,rfl,fun i y hy=>by simp at hy⟩);·simp only[ep];exact⟨⟨_,Mf _ _ _⟩,by simp,_,rfl⟩);·exact ab.elim)
 ·exact ab.elim
theorem Full.entries(h:Full n w0 S0 s a w ν S) {A B:Ty} {p:PV} {v:Value} {es:List (A.den×B.den)} (hx:Sg F s.bl A B p=some es)(hp:ep h.c p v):(v= .map none∧es=[])∨ ∃(r:Nat)(ae:Array MapEntry)(clock:Nat),v= .map (some r)∧w.heap[r]?=some (.map ae clock)∧Si ae clock∧ae.size=es.length∧RW w ⟨S,L4 w0 S0⟩ A B es ae.toList:=by
 cases p with|iv U y=>simp only[Sg]at hx;obtain⟨e,hx⟩:=Ty.Mo hx;subst e;simp only at hx;subst hx;simp only[ep]at hp;obtain⟨_,hp⟩:=hp;have hp:L3 (.mp A B) y w ⟨S,L4 w0 S0⟩ [v]:=hp;obtain⟨_,hc⟩:=hp;rcases hc with⟨hv,he⟩|⟨r,ae,clock,hv,hS,hh,hb,hs,hr⟩;(·injection hv with hv;exact .inl ⟨hv,he⟩);(·injection hv with hv;exact .inr ⟨r,ae,clock,hv,hh,hb,hs,RX _ _ (by simpa using hs) (by simpa using hr)⟩)|lmap id=>simp only[Sg]at hx;split at hx;(·rename_i A' B' ys hl;obtain⟨hl,_⟩:=MW hl;obtain⟨e,hx⟩:=Ty.Mo hx;injection e with e1 e2;subst e1;subst e2;simp only at hx;subst hx;simp only[ep]at hp;obtain⟨bm,iz,h0,r,ae,clock,h1,h2,h3,h4,h5,h6,h7⟩:=h.W.MS _ _ hl;refine .inr ⟨r,ae,clock,?_,h4,h5,h6,RX _ _ (by simpa using h6) (by simpa using h7)⟩;rw[hp.2.1];exact h1);(·cases hx)|_=>simp only[Sg]at hx;cases hx
theorem Z1: ∀(T:Ty),Oe T=true→T.flat=true:=by intro T;induction T<;>simp_all[Oe,Ty.flat]
theorem Full.key(h:Full n w0 S0 s a w ν S) {A:Ty} {kt:Nat} (hk:YN E kt A=true) {q:PV} {v:Value} {k:A.den} (hx:exp F s.bl A q=some k)(hq:ep h.c q v)(M:Mem):Na A k w M v:=by
 obtain⟨hp,_,_,_⟩:=RV hk;have eQ:=Z1 A hp;have hR:Reads F s h.c ⟨fun b=>b<w.heap.size,L4 w0 S0⟩:=⟨rfl,h.W.MS,fun b hb=>h.W.lt b hb,fun id _⟨b,hb⟩g hg=>(h.Pe hb hg).2.2⟩
 exact Y0 eQ (NW hR (.inl (Ya A eQ)) hx hq)
theorem az0: ∀(T:Ty),T.zer=true→ ∃vs,Nq T=some vs:=by
 intro T;induction T with|pair a b da cI=>intro h;simp only[Ty.zer,Bool.and_eq_true]at h;obtain⟨x,hx⟩:=da h.1;obtain⟨y,hy⟩:=cI h.2;exact⟨x++y,by simp only[Nq,hx,hy]⟩|st t ih=>intro h;exact ih h|_=>intro h;first|exact⟨_,rfl⟩|cases h
theorem UX {T:Ty} {z:Value} {M:Mem} (hz:SA (some z) T=true)(hT:T.zer=true)(hv:T.val=true):Na T (M3 T) w M z:=by
 obtain⟨vs,oQ⟩:=az0 T hT;have hr:=SI (w:=w) (M:=M) T vs hT oQ;unfold SA at hz;rw[oQ]at hz;simp only at hz;split at hz;(·split at hz;(·rename_i cs;have:=Q6 hz;exact⟨vs,by rw[←this],hr⟩);·cases hz)
 ·split at hz;(·rename_i cS _ u;have:=RQ hz;subst this;cases T<;>first|exact hr|(cases hv;done)|(exact absurd rfl (cS _)));·cases hz
theorem Y2 {c:Ctx} {T:Ty} {z:Value} {cs:List PV} (hz:SA (some z) T=true)(hv:T.val=true)(hc:zeroCells T=some cs)(qO:z.cells.size=T.cells):ep c (join T cs) z:=by
 obtain⟨vs,u4,aT,h1⟩:=SE (c:=c) T cs hc;have JK:=QL hz u4;(have eu:z=valOf T vs:=by unfold SA at hz;rw[u4]at hz;simp only at hz;split at hz;(·split at hz;(·rename_i oO;have:=Q6 hz;simp only[valOf];rw[←this]);·cases hz);·split at hz;(·rename_i cS _ u;have:=RQ hz;subst this;cases T<;>first|rfl|(cases hv;done)|(exact absurd rfl (cS _)));·cases hz)
 rw[eu];exact P6 (by rw[←JK,Array.length_toList,qO]) hv h1 aT
theorem Pf {c:Ctx} {ps:List PV} {vs:List Value} (h:LO c ps vs):ep c (.Mj ps) (.tuple vs.toArray):=by simp only[ep];exact⟨vs,rfl,h⟩
theorem Qu {c:Ctx} {p q:PV} {u v:Value} (h1:ep c p u)(h2:ep c q v):LO c [p,q] [u,v]:=by simp only[LO];exact⟨_,_,rfl,h1,_,_,rfl,h2,rfl⟩
def WK(z:Value):Option (Nat×Value)→Value|some (_,v)=>v|none=>z
theorem WL {P:Program} {t kt ve:TypeId} {xv kv z:Value} {ok:Bool} {l:List MapEntry} {res:Option (Nat×Value)} (hu:P.underlying t=some (.map kt ve))(tH:(xv= .map none∧l=[])∨ ∃(r:Nat)(ae:Array MapEntry)(clock:Nat),xv= .map (some r)∧w.heap[r]?=some (.map ae clock)∧ae.toList=l)(sA: ∀em,(Instr.checkKey em 10000 kt kv).run P w= .ok () w)(di:(Instr.findKey kt kv l).run P w= .ok res w)(hz:(zeroValue ve).run P w= .ok z w):(Instr.lookup t xv kv ok).run P w= .ok (if ok then .tuple #[WK z res,.bool res.isSome]else WK z res) w:=by
 unfold Instr.lookup;rcases tH with⟨rfl,rfl⟩|⟨r,ae,clock,rfl,hh,rfl⟩;(·cases res with|none=>cases ok<;>simp[run_underlying hu,sA,di,hz,WK]|some p=>cases ok<;>simp[run_underlying hu,sA,di,WK])
 ·cases res with|none=>cases ok<;>simp[run_underlying hu,MapKept.run_getObj_map hh,sA,di,hz,WK]|some p=>cases ok<;>simp[run_underlying hu,MapKept.run_getObj_map hh,sA,di,WK]
theorem ar7(hE:L6 E)(h:Full n w0 S0 s a w ν S)(ho:MV n o=true) {t:Nat} {x y:Operand} {ok:Bool} (ak:o.op= .lookup t x y ok)(ab:Ml E (LM E F s o) (fun l=>K (s.fin o.dst l))):o.wp E.P a w (fun a' w'=> ∃s',K s'∧Rel n w0 S0 s' a' w') Q:=by
 simp only[LM,ak,RO]at ab;have hx:=h.ev (L5 ho (x:=x) (by simp[ak,Op.operands]));have hy:=h.ev (L5 ho (x:=y) (by simp[ak,Op.operands]));split at ab;(·rename_i A B kt hT Ga;split at ab;(·rename_i es k Bh hk dK;obtain⟨k',ve,hu,Bi,Gb,vf,oF,xZ,sy⟩:=WJ hE hT;have A8:=al7 hE Ga hu;subst A8;obtain⟨hp,Dw,yq,_⟩:=RV dK;have rm:=h.entries Bh hx;have jl:=h.key dK hk hy ⟨S,L4 w0 S0⟩;obtain⟨i,hi,bt,Ac,oR,z,hz,qO⟩:=(hE.facts Gb).info;rw[hz]at oR;(have Dx:(zeroValue ve).run E.P w= .ok z w:=by simp only[zeroValue,typeInfo,Sem.run_bind,run_program,Result.andThen_ok,hi,hz,Sem.run_pure]);have sA: ∀em,(Instr.checkKey em 10000 kt (a.eval y)).run E.P w= .ok () w:=fun em=>S4 hE 9999 A kt k _ Bi Dw jl (by omega) em;(obtain⟨res,l,tH,di,bG,hl⟩: ∃(res:Option (Nat×Value))(l:List MapEntry),((a.eval x= .map none∧l=[])∨ ∃(r:Nat)(ae:Array MapEntry)(clock:Nat),a.eval x= .map (some r)∧w.heap[r]?=some (.map ae clock)∧ae.toList=l)∧(Instr.findKey kt (a.eval y) l).run E.P w= .ok res w∧OW es l k 0 res∧RW w ⟨S,L4 w0 S0⟩ A B es l:=by rcases rm with⟨hv,rfl⟩|⟨r,ae,clock,hv,hh,hb,hs,hr⟩;(·obtain⟨res,h1,h2⟩:=T8 hE (V:=B) Bi dK jl [] [] trivial;exact⟨res,[],.inl ⟨hv,rfl⟩,h1,h2,trivial⟩);·obtain⟨res,h1,h2⟩:=T8 hE (V:=B) Bi dK jl es ae.toList hr;exact⟨res,ae.toList,.inr ⟨r,ae,clock,hv,hh,rfl⟩,h1,h2,hr⟩);(have Dy:(execOp a.eval o).run E.P w= .ok (.value (if ok then .tuple #[WK z res,.bool res.isSome]else WK z res)) w:=by simp only[execOp,ak,Sem.run_bind,WL (ok:=ok) hu tH sA di Dx,Result.andThen_ok,Sem.run_pure]);cases hm:OL (Pp A) es k with|none=>simp only[OW,hm]at bG;subst bG;(have yw:Mg (Pp A) es k=none:=by rw[S5,hm];rfl);have aJ:=Dy;simp only[WK,Option.isSome_none]at aJ;(have Dz:ep h.c (Ws B) z:=by unfold Ws;split;(·rename_i iG;exact MB sy (UX oR iG oF) oF);·split;(·rename_i cs qU;exact Y2 oR oF qU qO);·simp only[ep]);split at ab;(·rename_i iG;rw[yw]at ab;refine h.val ho aJ ?_ ab;simp only[Option.getD_none,Bool.false_eq_true,if_false];exact MB sy (UX oR iG oF) oF);(·exact h.val ho aJ (by simpa using Dz) (ab.2 yw));(·refine h.val ho aJ ?_ (ab.2 yw);have h2:ep h.c (.iv .bool false) (.bool false):=MI;simp only[if_true];exact Pf (Qu Dz h2));(·obtain⟨v,hv,_⟩:=ab;rw[yw]at hv;cases hv);(·rename_i iG _;rw[yw]at ab;refine h.val ho aJ ?_ ab;have h2:ep h.c (.iv .bool false) (.bool false):=MI;simp only[if_true];exact Pf (Qu (MB sy (UX oR iG oF) oF) h2));(·obtain⟨v,hv,_⟩:=ab;rw[yw]at hv;cases hv)|some j=>simp only[OW,hm]at bG;obtain⟨e,he,rfl⟩:=bG;obtain⟨yy,rp,_⟩:=T6 _ _ _ _ hm;(have vB:Mg (Pp A) es k=some yy.2:=by rw[S5,hm];simp[rp]);(have aY:Na B yy.2 w ⟨S,L4 w0 S0⟩ e.val:=by(have at_: ∀(es:List (A.den×B.den))(l:List MapEntry)(j:Nat)(yy:A.den×B.den)(e:MapEntry),RW w ⟨S,L4 w0 S0⟩ A B es l→es[j]?=some yy→l[j]?=some e→Na B yy.2 w ⟨S,L4 w0 S0⟩ e.val:=by intro es;induction es with|nil=>intro l j yy e _ h1;simp at h1|cons p es ih=>intro l j yy e hl h1 h2;cases l with|nil=>exact hl.elim|cons q l=>cases j with|zero=>simp only[List.getElem?_cons_zero,Option.some.injEq]at h1 h2;subst h1;subst h2;obtain⟨⟨ca,cb,_,_,h3,h4⟩,_⟩:=hl;rw[h3];exact QO oF h4|succ j=>exact ih l j yy e hl.2 (by simpa using h1) (by simpa using h2));exact at_ es l j yy e hl rp he);have aJ:=Dy;simp only[WK,Option.isSome_some]at aJ;have u3:ep h.c (.iv B yy.2) e.val:=MB sy aY oF;split at ab;(·rename_i iG;rw[vB]at ab;exact h.val ho aJ (by simpa using u3) ab);(·exact h.val ho aJ (by simpa using u3) (ab.1 _ vB));(·refine h.val ho aJ ?_ (ab.1 _ vB);have h2:ep h.c (.iv .bool true) (.bool true):=MI;simp only[if_true];exact Pf (Qu u3 h2));(·obtain⟨v,hv,eL⟩:=ab;rw[vB]at hv;injection hv with hv;subst hv;exact h.val ho aJ (by simpa using u3) eL);(·rw[vB]at ab;refine h.val ho aJ ?_ ab;have h2:ep h.c (.iv .bool true) (.bool true):=MI;simp only[if_true];exact Pf (Qu u3 h2));·obtain⟨v,hv,eL⟩:=ab;rw[vB]at hv;injection hv with hv;subst hv;refine h.val ho aJ ?_ eL;have h2:ep h.c (.iv .bool true) (.bool true):=MI;simp only[if_true];exact Pf (Qu u3 h2));·exact ab.elim)
 ·exact ab.elim
theorem Yb {T:Ty} {x:T.den} {M:Mem} {v:Value} (hT:T.val=true)(h:Na T x w M v):v=valOf T v.cells.toList∧L3 T x w M v.cells.toList:=by
 refine⟨?_,QG hT h⟩;cases T with|st t=>obtain⟨vs,rfl,_⟩:=h;rfl|unit=>cases hT|pair a b=>cases hT|Mj a b=>cases hT|_=>have hr:=QG hT h;have hl:=MA _ _ _ _ _ hr;simp only[Ty.cells]at hl;have h1:=TO _ _ _ _ _ h v (List.mem_singleton.2 rfl);cases v<;>first|rfl|(simp[Value.oneCell']at h1;done)
theorem Rb(w:World)(r:Nat)(o:Obj):NN w { w with heap:=w.heap.setIfInBounds r o } (some r):=⟨rfl,rfl,rfl,by simp,fun k _ hk=>by have Gc:r≠k:=fun e=>hk (by rw[e]);simp[Gc],fun _=>Nat.le_refl _⟩
theorem Yc {w w':World} {M M':Mem} {A B:Ty} (hA:Ma A=0)(hB:Ma B=0)(hw: ∀b,M.S b→w'.heap[b]?=w.heap[b]?)(hS: ∀b,M.S b→M'.S b): ∀(es:List (A.den×B.den))(l:List MapEntry),RW w M A B es l→RW w' M' A B es l|[],[],_=>trivial|[],_::_,h=>h.elim|_::_,[],h=>h.elim|y::es,e::l,h=>by obtain⟨⟨ca,cb,h1,h2,h3,h4⟩,h5⟩:=h;exact⟨⟨ca,cb,h1,LX hw hS _ _ _ hA h2,h3,LX hw hS _ _ _ hB h4⟩,Yc hA hB hw hS es l h5⟩
theorem T9 {w:World} {M:Mem} {A B:Ty} : ∀(es:List (A.den×B.den))(l:List MapEntry),RW w M A B es l→l.length=es.length|[],[],_=>rfl|[],_::_,h=>h.elim|_::_,[],h=>h.elim|y::es,e::l,h=>by simp[T9 es l h.2]
theorem Ua {w:World} {M:Mem} {A B:Ty} : ∀(es:List (A.den×B.den))(l:List MapEntry),RW w M A B es l→ ∀(i:Nat)(y:A.den×B.den),es[i]?=some y→ ∃(e:MapEntry)(ca cb:List Value),l[i]?=some e∧e.key=valOf A ca∧L3 A y.1 w M ca∧e.val=valOf B cb∧L3 B y.2 w M cb|[],[],_,i,y,hy=>(by simp at hy)|[],_::_,h,_,_,_=>h.elim|_::_,[],h,_,_,_=>h.elim|y::es,e::l,h,i,z,hz=>by cases i with|zero=>simp only[List.getElem?_cons_zero,Option.some.injEq]at hz;subst hz;obtain⟨⟨ca,cb,h1⟩,_⟩:=h;exact⟨e,ca,cb,rfl,h1⟩|succ i=>simpa using Ua es l h.2 i z (by simpa using hz)
theorem Z2 {w:World} {M:Mem} {A B:Ty} {y:A.den×B.den} {f:MapEntry} (hf: ∃ca cb,f.key=valOf A ca∧L3 A y.1 w M ca∧f.val=valOf B cb∧L3 B y.2 w M cb): ∀(es:List (A.den×B.den))(l:List MapEntry)(i:Nat),RW w M A B es l→RW w M A B (es.set i y) (l.set i f)|[],[],_,_=>trivial|[],_::_,_,h=>h.elim|_::_,[],_,h=>h.elim|z::es,e::l,i,h=>by cases i with|zero=>exact⟨hf,h.2⟩|succ i=>exact⟨h.1,Z2 hf es l i h.2⟩
theorem Yd {w:World} {M:Mem} {A B:Ty} {y:A.den×B.den} {f:MapEntry} (hf: ∃ca cb,f.key=valOf A ca∧L3 A y.1 w M ca∧f.val=valOf B cb∧L3 B y.2 w M cb): ∀(es:List (A.den×B.den))(l:List MapEntry),RW w M A B es l→RW w M A B (es++ [y]) (l++ [f])|[],[],_=>⟨hf,trivial⟩|[],_::_,h=>h.elim|_::_,[],h=>h.elim|z::es,e::l,h=>⟨h.1,Yd hf es l h.2⟩
theorem Ub(hE:L6 E)(h:Full n w0 S0 s a w ν S)(ho:MV n o=true) {t:Nat} {x y z:Operand} (ak:o.op= .mapUpdate t x y z∨o.op= .insert t x y z)(ab:Ml E (LM E F s o) (fun l=>K (s.fin o.dst l))):o.wp E.P a w (fun a' w'=> ∃s',K s'∧Rel n w0 S0 s' a' w') Q:=by
 (have ab:Ml E (match o.dst with|none=>QE E F s.bl t (s.ev x) (s.ev y) (s.ev z)|some _=>.fail 79) (fun l=>K (s.fin o.dst l)):=by cases hd:o.dst with|none=>rcases ak with ak|ak<;>(simp only[LM,ak,hd]at ab;exact ab)|some d=>rcases ak with ak|ak<;>(simp only[LM,ak,hd]at ab;exact ab))
 (have mem: ∀u,u=x∨u=y∨u=z→RR u=true:=by intro u hu;refine L5 ho ?_;rcases ak with ak|ak<;>rcases hu with rfl|rfl|rfl<;>simp[ak,Op.operands]);have hx:=h.ev (mem x (.inl rfl))
 have hy:=h.ev (mem y (.inr (.inl rfl)));have hz:=h.ev (mem z (.inr (.inr rfl)));(have DA: ∀w',(Instr.mapUpdate t (a.eval x) (a.eval y) (a.eval z)).run E.P w= .ok () w'→(execOp a.eval o).run E.P w= .ok .skip w':=by intro w' hr;rcases ak with ak|ak<;>simp only[execOp,ak,Sem.run_bind,hr,Result.andThen_ok,Sem.run_pure])
 split at ab;(·rename_i hd;simp only[QE]at ab;split at ab;(·rename_i A B kt hT Ga;split at ab;(·rename_i id aY;split at ab;(·rename_i A' B' zs hl;obtain⟨hl,_⟩:=MW hl;split at ab;(·rename_i es k v dT hk dK xY su JL JM hv;obtain⟨e',er⟩:=Ty.Mo dT;injection e' with e1 e2;subst e1;subst e2;simp only at er;subst er;obtain⟨hlen,hK⟩:=ab;obtain⟨k',ve,hu,Bi,Gb,vf,oF,xZ,sy⟩:=WJ hE hT;have A8:=al7 hE Ga hu;subst A8;obtain⟨hp,Dw,yq,_⟩:=RV dK;have jl:=h.key dK hk hy ⟨S,L4 w0 S0⟩;have DB:Na _ v w ⟨S,L4 w0 S0⟩ (a.eval z):=h.ay0 sy JL JM hv hz;rw[aY]at hx;simp only[ep]at hx;obtain⟨_,Dh,_⟩:=hx;obtain⟨bm,iz,h0,r,ae,clock,h1,h2,h3,h4,h5,h6,h7⟩:=h.W.MS _ _ hl;simp only[Full.c]at Dh;simp only at h1 h2 h3 h4;have E6:=RX (w:=w) (M:=⟨S,L4 w0 S0⟩) zs ae.toList (by simpa using h6) (by simpa using h7);obtain⟨res,di,bG⟩:=T8 hE (V:=B') Bi dK jl zs ae.toList E6;have sA: ∀em,(Instr.checkKey em 10000 kt (a.eval y)).run E.P w= .ok () w:=fun em=>S4 hE 9999 _ kt k _ Bi Dw jl (by omega) em;(have dR:LZ (ν id)=some r:=by rw[h1];rfl);(have hf: ∀bb:Nat,∃ca cb,(⟨a.eval y,a.eval z,bb⟩:MapEntry).key=valOf A' ca∧L3 A' k w ⟨S,L4 w0 S0⟩ ca∧(⟨a.eval y,a.eval z,bb⟩:MapEntry).val=valOf B' cb∧L3 B' v w ⟨S,L4 w0 S0⟩ cb:=fun bb=>by obtain⟨g1,g2⟩:=Yb vf jl;obtain⟨g3,g4⟩:=Yb oF DB;exact⟨_,_,g1,g2,g3,g4⟩);(have fin: ∀(bO:Array MapEntry)(bE:Nat),(Instr.mapUpdate t (a.eval x) (a.eval y) (a.eval z)).run E.P w= .ok () { w with heap:=w.heap.setIfInBounds r (.map bO bE) } →Si bO bE→RW w ⟨S,L4 w0 S0⟩ A' B' (Nh (Pp A') zs k v) bO.toList→o.wp E.P a w (fun a' w'=> ∃s',K s'∧Rel n w0 S0 s' a' w') Q:=by intro bO bE aJ dG cm;refine QK (DA _ aJ) ⟨_,hK,?_⟩;rw[hd];have gS:=Rb w r (.map bO bE);have hS: ∀b,S b→({ w with heap:=w.heap.setIfInBounds r (.map bO bE) } :World).heap[b]?=w.heap[b]?:=fun b hb=>gS.block b (h.W.lt b hb) (fun e=>by injection e with e;subst e;exact h3 hb);have uZ:({ w with heap:=w.heap.setIfInBounds r (.map bO bE) } :World).heap[r]?=some (.map bO bE):=(MapKept.heap_set h4).1;have DC:=Yc (M:=⟨S,L4 w0 S0⟩) (M':=⟨S,L4 w0 S0⟩) bm iz hS (fun _ h=>h) _ _ cm;refine(h.Tr (b':=.mp A' B' (Nh (Pp A') zs k v)) hl (by rw[dR];exact gS) ?_).rel;exact⟨bm,iz,hlen,r,bO,bE,h1,h2,h3,uZ,dG,by simpa using T9 _ _ DC,fun i yy rp=>by simpa using Ua _ _ DC i yy rp⟩);cases hm:OL (Pp A') zs k with|none=>simp only[OW,hm]at bG;subst bG;refine fin (ae.push ⟨a.eval y,a.eval z,clock⟩) (clock+1) ?_ ?_ ?_;(·rw[Dh,h1];simp[Instr.mapUpdate,run_underlying hu,MapKept.run_getObj_map h4,sA,di,MapKept.run_setObj_map _ h4]);(·obtain⟨hc,hb⟩:=h5;subst hc;refine⟨by simp,fun i e hi=>?_⟩;rw[Array.getElem?_push]at hi;split at hi;(·rename_i vg;injection hi with hi;subst hi;exact vg.symm);·exact hb i e hi);(·rw[Rw,hm];simp only[Array.toList_push];exact Yd (hf clock) zs ae.toList E6)|some j=>simp only[OW,hm]at bG;obtain⟨e,he,rfl⟩:=bG;obtain⟨yy,rp,heq⟩:=T6 _ _ _ _ hm;have heq:=(Y1 _ _ _ hp).1 heq;(have gC:ae[j]?=some e:=by simpa using he);obtain⟨e2,ca,cb,g1,g2,g3,g4,g5⟩:=Ua zs ae.toList E6 j yy rp;rw[he]at g1;injection g1 with g1;subst g1;(have Bj:e.key=a.eval y:=by refine ar6 (M:=⟨S,L4 w0 S0⟩) (w:=w) hp vf (x:=yy.1) (y:=k) ?_ jl heq.symm;rw[g2];exact QO vf g3);refine fin (ae.modify j fun e=> { e with key:=a.eval y,val:=a.eval z }) clock ?_ ?_ ?_;(·rw[Dh,h1];simp[Instr.mapUpdate,run_underlying hu,MapKept.run_getObj_map h4,sA,di,gC,Bj,T5 hp vf jl,MapKept.run_setObj_map _ h4]);(·obtain⟨hc,hb⟩:=h5;refine⟨by simpa using hc,fun i e2 hi=>?_⟩;rw[Array.getElem?_modify]at hi;split at hi;(·rename_i bT;subst bT;rw[gC]at hi;simp only[Option.map_some,Option.some.injEq]at hi;subst hi;exact hb _ e gC);·exact hb i e2 hi);·rw[Rw,hm];(have Gd:(ae.modify j fun e=> { e with key:=a.eval y,val:=a.eval z }).toList=ae.toList.set j ⟨a.eval y,a.eval z,e.born⟩:=by apply List.ext_getElem?;intro i;rw[Array.getElem?_toList,Array.getElem?_modify,List.getElem?_set];by_cases bT:j=i;(·subst bT;have qN:j<ae.toList.length:=(List.getElem?_eq_some_iff.1 he).1;rw[gC,if_pos rfl,if_pos rfl,if_pos qN];rfl);·simp[bT]);rw[Gd];exact Z2 (hf e.born) zs ae.toList j E6);·exact ab.elim);·exact ab.elim);·exact ab.elim);·exact ab.elim)
 ·exact ab.elim
end
end Go.Proofs.YtgpkijnphchkpaaGreat
namespace Go.Proofs.YtgpkijnphchkpaaGreat
open Go.RowKit
section
variable {E:Env} {n:Nat} {w0:World} {S0:Cx} {s:St} {a:Act} {w:World} {ν:Nat→Value} {S:Nat→Prop} {F:Np} {o:Oper} {K:St→Prop} {Q:Exit→Act→World→Prop}
theorem ag9(s:ByteArray)(i:Nat):(Utf8.decode s i).1≤1114111:=by
 (have hv: ∀c:Nat,Utf8.valid (c:Int)=true→c≤1114111:=by intro c h;unfold Utf8.valid at h;simp only[Bool.or_eq_true,Bool.and_eq_true,decide_eq_true_eq]at h;omega)
 unfold Utf8.decode;simp only;split;(·simp only;omega);·split;(·split;(·simp only;omega);·simp only[Utf8.runeError];omega);·split;(·split;(·rename_i h;simp only[Bool.and_eq_true]at h;exact hv _ h.2);·simp only[Utf8.runeError];omega);·split;(·split;(·rename_i h;simp only[Bool.and_eq_true]at h;exact hv _ h.2);·simp only[Utf8.runeError];omega);·simp only[Utf8.runeError];omega
theorem Full.bt3(h:Full n w0 S0 s a w ν S) {d:Nat} (hd:d<n)(hl:look d s.bl=none) {ob:Obj} {b:L9} (hb: ∀c:Ctx,c.ν d= .pointer (some ⟨w.heap.size,0,none⟩)→c.M.O w.heap.size→ ¬c.M.S w.heap.size→c.w.heap[w.heap.size]?=some ob→Ctx.Le h.c c→Q2 c d b):Rel n w0 S0 ⟨(d,.ref d 0)::s.sl,(d,b)::s.bl⟩ (a.put (some d) (.pointer (some ⟨w.heap.size,0,none⟩))) (w.alloc ob):=by
 have hh:(w.alloc ob).heap[w.heap.size]?=some ob:=_root_.Go.heap_alloc_new w _;refine(h.new (b:=b) (p:=.ref d 0) (v:=.pointer (some ⟨w.heap.size,0,none⟩)) (val:=.pointer (some ⟨w.heap.size,0,none⟩)) hd hl (NJ w _ none) (fun g hg=>h.beyond (by injection hg with hg;simp only at hg;omega)) ?_ ?_).rel
 (·refine hb _ (by simp) (h.W.size _ (Nat.le_refl _)) (fun hS=>absurd (h.W.lt _ hS) (by simp)) hh ⟨fun g hg=>?_,fun _ h=>h,fun i hi=>?_,fun i hi=>?_⟩;(·exact(NJ w ob none).block g (h.W.lt g hg) (by simp));(·obtain⟨c,hc⟩:=hi;(have bf:i≠d:=by rintro rfl;rw[hl]at hc;cases hc);exact⟨c,by rw[L1 _ _ bf];exact hc⟩);·obtain⟨c,hc⟩:=hi;(have bf:i≠d:=by rintro rfl;rw[hl]at hc;cases hc);simp[Full.c,bf])
 ·simp only[ep];exact⟨⟨_,Mf _ _ _⟩,w.heap.size,by simp,rfl⟩
theorem az1(hE:L6 E)(h:Full n w0 S0 s a w ν S)(ho:MV n o=true) {t:Nat} {x:Operand} (ak:o.op= .range t x)(ab:Ml E (LM E F s o) (fun l=>K (s.fin o.dst l))):o.wp E.P a w (fun a' w'=> ∃s',K s'∧Rel n w0 S0 s' a' w') Q:=by
 simp only[LM,ak]at ab;have hx:=h.ev (L5 ho (x:=x) (by simp[ak,Op.operands]));split at ab;(·rename_i d hd;split at ab;(·rename_i hl;have x7:=My ho d hd;simp only[af4]at ab;split at ab;(·rename_i hT;obtain⟨dd,hu,hs⟩:=(hE.facts hT).To;(have fY:dd= .string:=by cases dd<;>first|rfl|cases hs);subst fY;split at ab;(·rename_i y aY;rw[aY]at hx;obtain⟨hv,hlen⟩:=NK hx;simp only[Ml,St.fin,hd]at ab;(have hr:(execOp a.eval o).run E.P w= .ok (.value (.pointer (some ⟨w.heap.size,0,none⟩))) (w.alloc (.stringIter ⟨y.toArray⟩ 0)):=by simp only[execOp,ak,Instr.range,hv,Sem.run_bind,run_underlying hu,Result.andThen_ok,Sem.run_pure];rfl);refine M8 hr ⟨_,ab,?_⟩;rw[hd];exact h.bt3 x7 hl fun c h1 h2 h3 h4 _=>⟨_,h1,h2,h3,h4,hlen⟩);·exact ab.elim);(·rename_i A B hT;obtain⟨k,v,hu,_,_,_,_,xZ,sy⟩:=WJ hE hT;split at ab;(·rename_i es Bh;have rm:=h.entries Bh hx;(have go: ∀(src:PV),ep h.c src (a.eval x)→K ⟨(d,.ref d 0)::s.sl,(d,.it [src] es.length [])::s.bl⟩→o.wp E.P a w (fun a' w'=> ∃s',K s'∧Rel n w0 S0 s' a' w') Q:=by intro src dU hK;(obtain⟨m,hm,hr⟩: ∃m:Option Nat,a.eval x= .map m∧(execOp a.eval o).run E.P w= .ok (.value (.pointer (some ⟨w.heap.size,0,none⟩))) (w.alloc (.mapIter m es.length #[] es.length)):=by rcases rm with⟨hv,rfl⟩|⟨r,ae,clock,hv,hh,hb,hs,_⟩;(·refine⟨none,hv,?_⟩;simp only[execOp,ak,Instr.range,hv,Sem.run_bind,run_underlying hu,Result.andThen_ok,Sem.run_pure];rfl);·refine⟨some r,hv,?_⟩;have hc:clock=es.length:=hb.1.trans hs;subst hc;simp only[execOp,ak,Instr.range,hv,Sem.run_bind,run_underlying hu,MapKept.run_getObj_map hh,Result.andThen_ok,Sem.run_pure];rfl);refine M8 hr ⟨_,hK,?_⟩;rw[hd];refine h.bt3 x7 hl fun c h1 h2 h3 h4 hle=>⟨_,m,h1,h2,h3,h4,?_⟩;simp only[LO];exact⟨_,[],rfl,NV hle (by rw[←hm];exact dU),rfl⟩);split at ab;(·rename_i K' V' y aY;simp only[Ml,St.fin,hd]at ab;exact go _ (by rw[←aY];exact hx) ab);(·rename_i id aY;simp only[Ml,St.fin,hd]at ab;exact go _ (by rw[←aY];exact hx) ab);·exact ab.elim);·exact ab.elim);·exact ab.elim);·exact ab.elim)
 ·exact ab.elim
theorem Full.behind(h:Full n w0 S0 s a w ν S) {src:List PV} {m:Option Nat} {A B:Ty} {es:List (A.den×B.den)} (hx:Rs E F s.bl src=some ⟨A,B,es⟩)(hp:LO h.c src [.map m]):Ma A=0∧Ma B=0∧A.val=true∧B.val=true∧((m=none∧es=[])∨ ∃(r:Nat)(ae:Array MapEntry)(clock:Nat),m=some r∧w.heap[r]?=some (.map ae clock)∧Si ae clock∧RW w ⟨S,L4 w0 S0⟩ A B es ae.toList):=by
 unfold Rs at hx;split at hx;(·rename_i K' V' ys;split at hx;(case h_2=>cases hx);rename_i Ge Gf;injection hx with hx;injection hx with e1 e2;subst e1;have e2:=eq_of_heq e2;injection e2 with e2 e3;subst e2;have e3:=eq_of_heq e3;subst e3;simp only[LO,ep]at hp;obtain⟨v,r,hv,⟨ho,hr⟩,_⟩:=hp;injection hv with hv;subst hv;simp only[Ma]at ho;refine⟨by omega,by omega,Ge,Gf,?_⟩;have hr:L3 (.mp K' V') ys w ⟨S,L4 w0 S0⟩ [.map m]:=hr;rcases hr.2 with⟨hv,he⟩|⟨r,ae,clock,hv,hS,hh,hb,hs,hr⟩;(·injection hv with hv;injection hv with hv;exact .inl ⟨hv,he⟩);·injection hv with hv;injection hv with hv;exact .inr ⟨r,ae,clock,hv,hh,hb,RX _ _ (by simpa using hs) (by simpa using hr)⟩)
 (·rename_i id;split at hx;(·rename_i K' V' ys hl;obtain⟨hl,_⟩:=MW hl;split at hx;(case h_2=>cases hx);rename_i Ge Gf;injection hx with hx;injection hx with e1 e2;subst e1;have e2:=eq_of_heq e2;injection e2 with e2 e3;subst e2;have e3:=eq_of_heq e3;subst e3;simp only[LO,ep]at hp;obtain⟨v,r,hv,⟨_,br,_⟩,_⟩:=hp;injection hv with hv;subst hv;obtain⟨bm,iz,h0,r,ae,clock,h1,h2,h3,h4,h5,h6,h7⟩:=h.W.MS _ _ hl;refine⟨bm,iz,Ge,Gf,.inr ⟨r,ae,clock,?_,h4,h5,RX _ _ (by simpa using h6) (by simpa using h7)⟩⟩;simp only[Full.c]at br;simp only at h1;rw[h1]at br;injection br);·cases hx)
 ·cases hx
theorem aS7(hE:L6 E)(h:Full n w0 S0 s a w ν S)(ho:MV n o=true) {x:Operand} {Gg:Bool} (ak:o.op= .next x Gg)(ab:Ml E (LM E F s o) (fun l=>K (s.fin o.dst l))):o.wp E.P a w (fun a' w'=> ∃s',K s'∧Rel n w0 S0 s' a' w') Q:=by
 simp only[LM,ak,ax2]at ab;have hx:=h.ev (L5 ho (x:=x) (by simp[ak,Op.operands]));split at ab;(·rename_i id aY;rw[aY]at hx;simp only[ep]at hx;obtain⟨_,g,hg,hv⟩:=hx;simp only[Full.c]at hg;(have Tr: ∀ {b b':L9} {w':World} {p:PV} {v:Value},look id s.bl=some b→NN w w' (some g)→Q2 ⟨ν,s.D,w',⟨S,L4 w0 S0⟩⟩ id b'→ep ⟨ν,s.D,w',⟨S,L4 w0 S0⟩⟩ p v→K (s.fin o.dst (.Tr id b' p))→(execOp a.eval o).run E.P w= .ok (.value v) w'→o.wp E.P a w (fun a' w'=> ∃s',K s'∧Rel n w0 S0 s' a' w') Q:=by intro b b' w' p v hl hw hb hp hK aJ;refine M8 aJ ⟨_,hK,?_⟩;have hu:=h.Tr (b':=b') hl (by rw[hg];exact hw) hb;(have hD:(⟨s.sl,(id,b')::s.bl⟩:St).D=s.D:=by funext i;refine propext ⟨fun⟨c,hc⟩=>?_,fun⟨c,hc⟩=>?_⟩;(·by_cases hi:i=id;(·subst hi;exact⟨b,hl⟩);·rw[L1 _ _ hi]at hc;exact⟨c,hc⟩);·by_cases hi:i=id;(·subst hi;exact⟨b',Mf _ _ _⟩);·exact⟨c,by rw[L1 _ _ hi];exact hc⟩);have tC:=hu.put (p:=p) (v:=v) (My ho) (by simp only[Full.c,hD];exact hp);(have gx:s.fin o.dst (.Tr id b' p)=(⟨s.sl,(id,b')::s.bl⟩:St).put o.dst p:=by simp only[St.fin];cases o.dst<;>rfl);rw[gx];exact tC.rel);(have Bk:(Instr.next (a.eval x) Gg o.type).run E.P w= .ok (.tuple #[.bool false]) w→K (s.fin o.dst (.val (.Mj [.iv .bool false])))→o.wp E.P a w (fun a' w'=> ∃s',K s'∧Rel n w0 S0 s' a' w') Q:=by intro hr hK;refine h.val ho (v:=.tuple #[.bool false]) ?_ ?_ hK;(·simp only[execOp,ak,Sem.run_bind,hr,Result.andThen_ok,Sem.run_pure]);·exact Pf (vs:=[.bool false]) (by simp only[LO];exact⟨_,[],rfl,MI,rfl⟩));(have exec: ∀v w',(Instr.next (a.eval x) Gg o.type).run E.P w= .ok v w'→(execOp a.eval o).run E.P w= .ok (.value v) w':=fun v w' hr=>by simp only[execOp,ak,Sem.run_bind,hr,Result.andThen_ok,Sem.run_pure]);split at ab;(·rename_i y pos hl;obtain⟨hl,_⟩:=MW hl;obtain⟨g',h1,h2,h3,h4,h5⟩:=h.W.MS _ _ hl;simp only at h1 h2 h3 h4;rw[hg]at h1;(obtain rfl:g=g':=by injection h1 with e1;injection e1 with e1;injection e1);split at ab;(·obtain⟨Bc,u9⟩:=ab;(have bt:(⟨y.toArray⟩:ByteArray).size=y.length:=by simp[ByteArray.size]);(have vK: ∀o',(setObj g o').run E.P w= .ok () { w with heap:=w.heap.setIfInBounds g o' } :=fun o'=>by simp[setObj,Sem.run,h4]);by_cases hp:pos<y.length;(·have hK:=Bc hp;have hd:=ag9 ⟨y.toArray⟩ pos;refine Tr hl (Rb w g (.stringIter ⟨y.toArray⟩ (pos+(Utf8.decode ⟨y.toArray⟩ pos).2))) ?_ ?_ hK (exec (.tuple #[.bool true,.int .i64 (pos:Int),.int .i32 ((Utf8.decode ⟨y.toArray⟩ pos).1:Int)]) _ ?_);(·exact⟨g,hg,h2,h3,(MapKept.heap_set h4).1,h5⟩);(·refine Pf (vs:=[.bool true,.int .i64 (pos:Int),.int .i32 ((Utf8.decode ⟨y.toArray⟩ pos).1:Int)]) ?_;simp only[LO];exact⟨_,_,rfl,MI,_,_,rfl,MY (by show(-9223372036854775808:Int)≤_∧_≤(9223372036854775807:Int);omega),_,_,rfl,MY (by show(-2147483648:Int)≤_∧_≤(2147483647:Int);omega),rfl⟩);·simp only[hv,Instr.next,Sem.run_bind];rw[show(getObj g).run E.P w= .ok (.stringIter ⟨y.toArray⟩ pos) w from by simp[getObj,Sem.run,h4]];simp only[Result.andThen_ok,bt,hp,if_true,Sem.run_bind,vK,Sem.run_pure];rfl);·refine Bk ?_ (u9 (by omega));simp only[hv,Instr.next,Sem.run_bind];rw[show(getObj g).run E.P w= .ok (.stringIter ⟨y.toArray⟩ pos) w from by simp[getObj,Sem.run,h4]];simp only[Result.andThen_ok,bt,hp,if_false,Sem.run_pure]);·exact ab.elim);(·rename_i src since seen hl;obtain⟨hl,_⟩:=MW hl;obtain⟨g',m,h1,h2,h3,h4,h6⟩:=h.W.MS _ _ hl;simp only at h1 h2 h3 h4;rw[hg]at h1;(obtain rfl:g=g':=by injection h1 with e1;injection e1 with e1;injection e1);split at ab;(·rename_i A B es Bh;obtain⟨vL,Bc,u9⟩:=ab;obtain⟨xZ,sy,vf,oF,bx⟩:=h.behind Bh h6;rcases bx with⟨rfl,rfl⟩|⟨r,ae,clock,rfl,hh,hb,hr⟩;(·refine Bk ?_ (u9 (fun i hi=>by simp at hi));simp only[hv,Instr.next,Sem.run_bind];rw[show(getObj g).run E.P w= .ok (.mapIter none since seen.toArray since) w from by simp[getObj,Sem.run,h4]];simp only[Result.andThen_ok,Sem.run_pure]);·have hlen:=T9 _ _ hr;(have bt:ae.size=es.length:=by simpa using hlen);obtain⟨Bl,kH⟩:=hb;(have hold: ∀y,y∈ae.toList→y.born<since:=fun y hy=>by obtain⟨i,hi⟩:=List.getElem?_of_mem hy;(have jR:ae[i]?=some y:=by simpa using hi);rw[kH i y jR,←vL,←bt];exact(Array.getElem?_eq_some_iff.1 jR).1);(have Al: ∀y,y∈(leftOf ae seen.toArray).toList↔ ∃i,ae[i]?=some y∧i∉seen:=by intro y;unfold leftOf;simp only[Array.toList_filter,List.mem_filter,Array.mem_toList_iff];constructor;(·rintro⟨h1,h2⟩;obtain⟨i,hi⟩:=Array.getElem?_of_mem h1;refine⟨i,hi,?_⟩;rw[←kH i y hi];simpa using h2);·rintro⟨i,hi,hn⟩;refine⟨Array.mem_of_getElem? hi,?_⟩;rw[kH i y hi];simpa using hn);rcases run_next_at (P:=E.P) w o.type g r since since seen.toArray ae clock h4 hh hold (Nat.le_refl _)with⟨h0,aJ⟩|⟨e,he,w1,oG,aJ⟩;(·refine Bk (by rw[hv];exact aJ) (u9 fun i hi=>?_);by_cases cQ:i∈seen;(·exact cQ);·exfalso;(have vg:i<ae.size:=by omega);have:=(Al ae[i]).2 ⟨i,by simp,cQ⟩;have kb:(leftOf ae seen.toArray).toList=[]:=List.eq_nil_of_length_eq_zero (by simpa using h0);rw[kb]at this;cases this);·obtain⟨i,hi,cQ⟩:=(Al e).1 he;(have vg:i<es.length:=by rw[←bt];exact(Array.getElem?_eq_some_iff.1 hi).1);obtain⟨yy,rp⟩: ∃yy,es[i]?=some yy:=⟨_,List.getElem?_eq_getElem vg⟩;have hK:=Bc i ⟨vg,cQ⟩ yy rp;obtain⟨e2,ca,cb,g1,g2,g3,g4,g5⟩:=Ua es ae.toList hr i yy rp;(have jR:ae.toList[i]?=some e:=by simpa using hi);rw[jR]at g1;injection g1 with g1;subst g1;have x8:=kH i e hi;(have gS:NN w (ChangeMaps.setBlock w1 g (.mapIter (some r) since (seen.toArray.push e.born) clock)) (some g):=by rcases oG with rfl|rfl;(·exact Rb _ g _);·refine⟨rfl,rfl,rfl,by simp[ChangeMaps.setBlock],fun k _ hk=>?_,fun _=>?_⟩;(·have Gc:g≠k:=fun e=>hk (by rw[e]);show(w.drew.heap.setIfInBounds g _)[k]?=w.heap[k]?;rw[Array.getElem?_setIfInBounds_ne Gc];rfl);·exact Nat.le_succ _);have C7: ∀b,S b→(ChangeMaps.setBlock w1 g (.mapIter (some r) since (seen.toArray.push e.born) clock)).heap[b]?=w.heap[b]?:=fun b hb=>gS.block b (h.W.lt b hb) (fun e=>by injection e with e;subst e;exact h3 hb);have Bm:Ctx.Le ⟨ν,s.D,w,⟨S,L4 w0 S0⟩⟩ ⟨ν,s.D,ChangeMaps.setBlock w1 g (.mapIter (some r) since (seen.toArray.push e.born) clock),⟨S,L4 w0 S0⟩⟩:=⟨C7,fun _ h=>h,fun _ h=>h,fun _ _=>rfl⟩;(have Gh:w1.heap[g]?=some (.mapIter (some r) since seen.toArray since):=by rcases oG with rfl|rfl<;>exact h4);(have qU:clock=since:=by omega);refine Tr hl gS ?_ ?_ hK (exec _ _ (by rw[hv];exact aJ));(·refine⟨g,some r,hg,h2,h3,?_,MD Bm h6⟩;have:=(MapKept.heap_set (o':=Obj.mapIter (some r) since (seen.toArray.push e.born) clock) Gh).1;rw[x8,qU]at this⊢;simpa[ChangeMaps.setBlock]using this);·have hk:ep h.c (.iv A yy.1) e.key:=MB xZ (by rw[g2];exact QO vf g3) vf;have DB:ep h.c (.iv B yy.2) e.val:=MB sy (by rw[g4];exact QO oF g5) oF;refine Pf (vs:=[.bool true,e.key,e.val]) ?_;simp only[LO];exact⟨_,_,rfl,MI,_,_,rfl,NV Bm hk,_,_,rfl,NV Bm DB,rfl⟩);·exact ab.elim);·exact ab.elim)
 ·exact ab.elim
theorem az2(hE:L6 E)(h:Full n w0 S0 s a w ν S)(ho:MV n o=true) {x:Operand} (ak:o.op= .entry x)(ab:Ml E (LM E F s o) (fun l=>K (s.fin o.dst l))):o.wp E.P a w (fun a' w'=> ∃s',K s'∧Rel n w0 S0 s' a' w') Q:=by
 simp only[LM,ak,af5]at ab;have hx:=h.ev (L5 ho (x:=x) (by simp[ak,Op.operands]));split at ab;(·rename_i id aY;rw[aY]at hx;simp only[ep]at hx;obtain⟨_,g,hg,hv⟩:=hx;simp only[Full.c]at hg;split at ab;(·rename_i src since seen hl;obtain⟨hl,_⟩:=MW hl;obtain⟨g',m,h1,h2,h3,h4,h6⟩:=h.W.MS _ _ hl;simp only at h1 h2 h3 h4;rw[hg]at h1;(obtain rfl:g=g':=by injection h1 with e1;injection e1 with e1;injection e1);split at ab;(·rename_i A B es Bh;obtain⟨vL,yy,⟨i,cT,rp⟩,hK⟩:=ab;obtain⟨xZ,sy,vf,oF,bx⟩:=h.behind Bh h6;rcases bx with⟨_,rfl⟩|⟨r,ae,clock,rfl,hh,hb,hr⟩;(·simp at rp);·obtain⟨ss,EU⟩: ∃ss,seen=ss++ [i]:=List.getLast?_eq_some_iff.1 cT;have hlen:=T9 _ _ hr;(have bt:ae.size=es.length:=by simpa using hlen);obtain⟨Bl,kH⟩:=hb;obtain⟨e,ca,cb,g1,g2,g3,g4,g5⟩:=Ua es ae.toList hr i yy rp;(have hi:ae[i]?=some e:=by simpa using g1);have x8:=kH i e hi;(have qU:since=clock:=by omega);(have eP:(ae.toList.map (·.born)).Nodup:=by(have:ae.toList.map (·.born)=List.range ae.size:=by apply List.ext_getElem;(·simp);·intro j h1 h2;simp only[List.getElem_map,List.getElem_range,Array.getElem_toList];exact kH j _ (Array.getElem?_eq_getElem (by simpa using h1)));rw[this];exact List.nodup_range);(have Ir:w.heap[g]?=some (.mapIter (some r) since (ss.toArray.push e.born) clock):=by rw[h4,EU,x8,←qU];simp);have aJ:=run_entry_at (P:=E.P) w g r since ss.toArray ae clock e Ir hh (Array.mem_toList_iff.2 (Array.mem_of_getElem? hi)) eP;refine h.val ho (v:=.tuple #[e.key,e.val]) ?_ ?_ hK;(·simp only[execOp,ak,hv,Sem.run_bind,aJ,Result.andThen_ok,Sem.run_pure]);·have hk:ep h.c (.iv A yy.1) e.key:=MB xZ (by rw[g2];exact QO vf g3) vf;have DB:ep h.c (.iv B yy.2) e.val:=MB sy (by rw[g4];exact QO oF g5) oF;exact Pf (Qu hk DB));·exact ab.elim);·exact ab.elim)
 ·exact ab.elim
end
end Go.Proofs.YtgpkijnphchkpaaGreat
namespace Go.Proofs.YtgpkijnphchkpaaGreat
open Go.RowKit
structure Ctx.LeR(ks:List Nat)(ρ:Nat→Nat)(c c':Ctx):Prop where
 heap: ∀b,c.M.S b→c'.w.heap[b]?=c.w.heap[b]?
 S: ∀b,c.M.S b→c'.M.S b
 D: ∀i,LS i ks=true→c.D i→c'.D (ρ i)
 ν: ∀i,LS i ks=true→c.D i→c'.ν (ρ i)=c.ν i
mutual theorem QP {ks:List Nat} {ρ:Nat→Nat} {c c':Ctx} (hc:c.LeR ks ρ c'): ∀ {p:PV} {v:Value},PV.ZF ks p=true→ep c p v→ep c' (p.ND ρ) v|.iv T x,v,_,h=>(by simp only[PV.ND,ep]at h⊢;exact⟨h.1,O0 hc.heap hc.S h.1 h.2⟩)|.ref id off,v,hi,h=>(by simp only[PV.ND,ep]at h⊢;obtain⟨hd,g,h1,h2⟩:=h;exact⟨hc.D _ hi hd,g,by rw[hc.ν _ hi hd];exact h1,h2⟩)|.NF T x off,v,_,h=>(by simp only[PV.ND,ep]at h⊢;obtain⟨ho,g,o,cs,h1,h2,h3,h4,h5⟩:=h;exact⟨ho,g,o,cs,h1,hc.S _ h2,h3,h4.mono (hc.heap _ h2),LX hc.heap hc.S _ _ _ ho h5⟩)|.LV id,v,hi,h=>(by simp only[PV.ND,ep]at h⊢;exact⟨hc.D _ hi h.1,by rw[hc.ν _ hi h.1];exact h.2.1,h.2.2⟩)|.lmap id,v,hi,h=>(by simp only[PV.ND,ep]at h⊢;exact⟨hc.D _ hi h.1,by rw[hc.ν _ hi h.1];exact h.2.1,h.2.2⟩)|.Ps id sz off len,v,hi,h=>(by simp only[PV.ND,ep]at h⊢;obtain⟨hd,a,n,cap,b,h1,h2⟩:=h;exact⟨hc.D _ hi hd,a,n,cap,b,by rw[hc.ν _ hi hd];exact h1,h2⟩)|.OG id sz i off,v,hi,h=>(by simp only[PV.ND,ep]at h⊢;obtain⟨hd,g,o,n,cap,h1,h2⟩:=h;exact⟨hc.D _ hi hd,g,o,n,cap,by rw[hc.ν _ hi hd];exact h1,h2⟩)|.agg cs,v,hi,h=>(by simp only[PV.ND,ep]at h⊢;obtain⟨vs,h1,h0,h2⟩:=h;exact⟨vs,h1,h0,Nx hc hi h2⟩)|.Mj cs,v,hi,h=>(by simp only[PV.ND,ep]at h⊢;obtain⟨vs,h1,h2⟩:=h;exact⟨vs,h1,Nx hc hi h2⟩)|.Ms,v,_,h=>(by simp only[PV.ND,ep]at h⊢;exact h)|.M0,v,_,h=>(by simp only[PV.ND,ep]at h⊢;exact h)|.Py i base T n j,v,hi,h=>(by simp only[PV.ND,ep]at h⊢;obtain⟨hd,h0,hn,g,h1,h2⟩:=h;exact⟨hc.D _ hi hd,h0,hn,g,by rw[hc.ν _ hi hd];exact h1,h2⟩)|.VM f cs,v,hi,h=>(by simp only[PV.ND,ep]at h⊢;obtain⟨vs,h1,h2⟩:=h;exact⟨vs,h1,Nx hc hi h2⟩)|.Sl f cs,v,hi,h=>(by simp only[PV.ND,ep]at h⊢;obtain⟨vs,h1,h2⟩:=h;exact⟨vs,h1,Nx hc hi h2⟩)|.Wi id,v,hi,h=>(by simp only[PV.ND,ep]at h⊢;obtain⟨hd,g,h1,h2⟩:=h;exact⟨hc.D _ hi hd,g,by rw[hc.ν _ hi hd];exact h1,h2⟩)|.clip T xs,v,_,h=>(by simp only[PV.ND,ep]at h⊢;exact⟨h.1,h.2.1,LX hc.heap hc.S (.sl T) _ _ h.1 h.2.2⟩)|.fn f cs,v,hi,h=>(by simp only[PV.ND,ep]at h⊢;obtain⟨vs,h1,h2⟩:=h;exact⟨vs,h1,Nx hc hi h2⟩)|.any,v,_,h=>by simp only[PV.ND,ep]theorem Nx {ks:List Nat} {ρ:Nat→Nat} {c c':Ctx} (hc:c.LeR ks ρ c'): ∀ {ps:List PV} {vs:List Value},PV.Pz ks ps=true→LO c ps vs→LO c' (PV.NG ρ ps) vs|[],vs,_,h=>(by simp only[PV.NG,LO]at h⊢;exact h)|p::ps,vs,hi,h=>by simp only[PV.Pz,Bool.and_eq_true]at hi;simp only[PV.NG,LO]at h⊢;obtain⟨v,r,h1,h2,h3⟩:=h;exact⟨v,r,h1,QP hc hi.1 h2,Nx hc hi.2 h3⟩end
def WM(ks:List Nat):L9→Bool|.box cs _=>PV.Pz ks cs|.it cs _ _=>PV.Pz ks cs|.gh _ cs=>PV.Pz ks cs|_=>true
theorem Oi {c:Ctx} {i:Nat} {b:L9} (h:Q2 c i b) {g:Nat} (hg:LZ (c.ν i)=some g):c.M.O g∧ ¬c.M.S g∧g<c.w.heap.size:=by
 cases b with|box cs te=>obtain⟨_,g',vs,e,h1,h2,h3,h4,_⟩:=h;rw[h1]at hg;injection hg with hg;simp only at hg;subst hg;exact⟨h2,h3,(Array.getElem?_eq_some_iff.1 h4).1⟩|arr T xs te=>obtain⟨_,ho,v,hv,_,h2⟩:=h;injection hv with hv;rw[hv]at hg;rcases h2 with⟨rfl,_⟩|⟨g',o,cap,cur,e,rfl,h3,h4,h5,h6,h7,_⟩;(·cases hg);(·injection hg with hg;simp only at hg;subst hg;exact⟨h6,h5,(Array.getElem?_eq_some_iff.1 h7).1⟩)|mp K V es=>obtain⟨_,_,_,r,ae,clock,h1,h2,h3,h4,_⟩:=h;rw[h1]at hg;injection hg with hg;subst hg;exact⟨h2,h3,(Array.getElem?_eq_some_iff.1 h4).1⟩|it src since seen=>obtain⟨g',m,h1,h2,h3,h4,_⟩:=h;rw[h1]at hg;injection hg with hg;simp only at hg;subst hg;exact⟨h2,h3,(Array.getElem?_eq_some_iff.1 h4).1⟩|XJ x pos=>obtain⟨g',h1,h2,h3,h4,_⟩:=h;rw[h1]at hg;injection hg with hg;simp only at hg;subst hg;exact⟨h2,h3,(Array.getElem?_eq_some_iff.1 h4).1⟩|gh o cs=>obtain⟨g',vs,h1,h2,h3,h4,_⟩:=h;rw[h1]at hg;injection hg with hg;simp only at hg;subst hg;exact⟨h2,h3,(Array.getElem?_eq_some_iff.1 h4).1⟩
theorem SJ {ks:List Nat} {ρ:Nat→Nat} {c c':Ctx} (hc:c.LeR ks ρ c') {i:Nat} {b:L9} (hi:WM ks b=true)(br:c'.ν (ρ i)=c.ν i)(hg: ∀g,LZ (c.ν i)=some g→c'.w.heap[g]?=c.w.heap[g]?∧c'.M.O g∧ ¬c'.M.S g)(h:Q2 c i b):Q2 c' (ρ i) (b.map (PV.NG ρ)):=by
 cases b with|box cs te=>obtain⟨dD,g,vs,e,h1,h2,h3,h4,h0,h5⟩:=h;obtain⟨e1,e2,e3⟩:=hg g (by rw[h1];rfl);exact⟨dD.Qn br fun g kI=>(hg g kI).1,g,vs,e,by rw[br];exact h1,e2,e3,by rw[e1];exact h4,h0,Nx hc hi h5⟩|arr T xs te=>obtain⟨dD,ho,v,hv,h1,h2⟩:=h;injection hv with hv;refine⟨dD.Qn br fun g kI=>(hg g kI).1,ho,v,by rw[br,hv],h1,?_⟩;rcases h2 with h2|⟨g,o,cap,cur,e,rfl,h3,h4,h5,h6,h7,h8,h9⟩;(·exact .inl h2);(·obtain⟨e1,e2,e3⟩:=hg g (by rw[hv];rfl);refine .inr ⟨g,o,cap,cur,e,rfl,h3,h4,e3,e2,by rw[e1];exact h7,h8,fun i y hy=>?_⟩;obtain⟨cs,hl,nD,hr⟩:=h9 i y hy;exact⟨cs,hl,nD.mono e1,LX hc.heap hc.S _ _ _ ho hr⟩)|mp K V es=>obtain⟨bm,iz,h0,r,ae,clock,h1,h2,h3,h4,h5,h6,h7⟩:=h;obtain⟨e1,e2,e3⟩:=hg r (by rw[h1];rfl);refine⟨bm,iz,h0,r,ae,clock,by rw[br];exact h1,e2,e3,by rw[e1];exact h4,h5,h6,fun i y hy=>?_⟩;obtain⟨e,ca,cb,a1,a2,a3,a4,a5⟩:=h7 i y hy;exact⟨e,ca,cb,a1,a2,LX hc.heap hc.S _ _ _ bm a3,a4,LX hc.heap hc.S _ _ _ iz a5⟩|it src since seen=>obtain⟨g,m,h1,h2,h3,h4,h6⟩:=h;obtain⟨e1,e2,e3⟩:=hg g (by rw[h1];rfl);exact⟨g,m,by rw[br];exact h1,e2,e3,by rw[e1];exact h4,Nx hc hi h6⟩|XJ x pos=>obtain⟨g,h1,h2,h3,h4,h5⟩:=h;obtain⟨e1,e2,e3⟩:=hg g (by rw[h1];rfl);exact⟨g,by rw[br];exact h1,e2,e3,by rw[e1];exact h4,h5⟩|gh o cs=>obtain⟨g,vs,h1,h2,h3,h4,h6⟩:=h;obtain⟨e1,e2,e3⟩:=hg g (by rw[h1];rfl);exact⟨g,vs,by rw[br];exact h1,e2,e3,by rw[e1];exact h4,Nx hc hi h6⟩
/-! ### Names -/
theorem NY {i:Nat} : ∀ {l:List Nat},LS i l=true↔i∈l|[]=>(by simp[LS])|k::r=>by simp only[LS,List.mem_cons];cases hb:Nat.beq i k with|true=>simp[Nat.eq_of_beq_eq_true hb]|false=>(have bf:i≠k:=by rintro rfl;simp at hb);simp[bf,NY (l:=r)]
theorem Z3 {i:Nat} : ∀ {l:List Nat} {j:Nat},j≤idxOf i l j|[],j=>Nat.le_refl _|k::r,j=>by simp only[idxOf];cases Nat.beq i k with|true=>exact Nat.le_refl _|false=>exact Nat.le_trans (Nat.le_succ j) (Z3 (l:=r) (j:=j+1))
theorem al8 {i:Nat} : ∀ {l:List Nat} {j:Nat},LS i l=true→Oy l (idxOf i l j-j)=i∧idxOf i l j-j<l.length|[],j,h=>(by cases h)|k::r,j,h=>by simp only[idxOf];simp only[LS]at h;cases hb:Nat.beq i k with|true=>simp only[cond_true,Nat.sub_self,Oy,List.length_cons];exact⟨(Nat.eq_of_beq_eq_true hb).symm,by omega⟩|false=>simp only[hb,cond_false]at h⊢;obtain⟨h1,h2⟩:=al8 (l:=r) (j:=j+1) h;have hle:=Z3 (i:=i) (l:=r) (j:=j+1);rw[show idxOf i r (j+1)-j=(idxOf i r (j+1)-(j+1))+1 from by omega];simp only[Oy,List.length_cons];exact⟨h1,by omega⟩
theorem Uc: ∀ {l:List Nat} {j:Nat},j<l.length→LS (Oy l j) l=true|[],j,h=>(by simp at h)|x::r,0,_=>(by simp[Oy,LS])|x::r,j+1,h=>by simp only[Oy,LS];rw[Uc (l:=r) (by simpa using h)];cases Nat.beq (Oy r j) x<;>rfl
theorem al9: ∀ {l:List Nat} {j k:Nat},RN l=true→j<l.length→idxOf (Oy l j) l k=k+j|[],j,k,_,h=>(by simp at h)|x::r,0,k,_,_=>(by simp[Oy,idxOf])|x::r,j+1,k,hn,h=>by simp only[RN,Bool.and_eq_true,Bool.not_eq_true']at hn;(have hj:j<r.length:=by simpa using h);simp only[Oy,idxOf];(have hb:Nat.beq (Oy r j) x=false:=by cases hb:Nat.beq (Oy r j) x with|false=>rfl|true=>have:=Nat.eq_of_beq_eq_true hb;rw[←this,Uc hj]at hn;cases hn.1);rw[hb,cond_false,al9 hn.2 hj];omega
theorem VW {i:Nat} {ids:List Nat} (h:LS i ids=true):P0≤fwd ids i∧Oy ids (fwd ids i-P0)=i∧fwd ids i-P0<ids.length:=by
 obtain⟨h1,h2⟩:=al8 (j:=0) h;unfold fwd;rw[Nat.add_sub_cancel_left];exact⟨by omega,by simpa using h1,by simpa using h2⟩
theorem Ud {ids:List Nat} {j:Nat} (hn:RN ids=true)(hj:j<ids.length):fwd ids (Oy ids j)=P0+j:=by unfold fwd;rw[al9 hn hj];omega
theorem Rc {ids:List Nat} {bl:List (Nat×L9)} {k:Nat} : ∀ {l:List Nat} {j:Nat},(∀i,i∈l→i∈ids)→look k (Nb ids bl l j)=if j≤k∧k-j<l.length then(look (Oy l (k-j)) bl).map (L9.map (PV.NG (fwd ids)))else none|[],j,_=>(by simp[Nb,look])|i::r,j,hl=>by have ih:=Rc (k:=k) (bl:=bl) (l:=r) (j:=j+1) (fun x hx=>hl x (List.mem_cons_of_mem _ hx));by_cases hk:k=j;(·subst hk;simp only[Nb,Nat.sub_self,Oy,List.length_cons,Nat.le_refl,true_and,Nat.zero_lt_succ,if_true];cases hb:look i bl with|none=>simp only[Option.map_none];rw[ih,if_neg (by omega)]|some b=>simp only[Mf,Option.map_some]);·(have e:look k (Nb ids bl (i::r) j)=look k (Nb ids bl r (j+1)):=by simp only[Nb];cases look i bl with|none=>rfl|some b=>exact L1 _ _ hk);rw[e,ih];by_cases FQ:j≤k;(·rw[show k-j=(k-(j+1))+1 from by omega];simp only[Oy,List.length_cons];by_cases h2:k-(j+1)<r.length;(·rw[if_pos ⟨by omega,h2⟩,if_pos ⟨FQ,by omega⟩]);·rw[if_neg (by omega),if_neg (by omega)]);·rw[if_neg (by omega),if_neg (by omega)]
theorem ON {ρ:Nat→Nat} {k:Nat} {b:L9} : ∀ {bl:List (Nat×L9)},(∀i c,look i bl=some c→ρ i=ρ k→i=k)→look k bl=some b→look (ρ k) (Qk ρ bl)=some (b.map (PV.NG ρ))|[],_,h=>(by cases h)|p::r,ml,h=>by simp only[Qk,look]at h⊢;cases hb:Nat.beq k p.1 with|true=>simp only[hb,cond_true,Option.some.injEq]at h;subst h;have:=Nat.eq_of_beq_eq_true hb;subst this;simp|false=>simp only[hb,cond_false]at h;(have bf:k≠p.1:=by intro e;rw[e]at hb;simp at hb);(have hp:look p.1 (p::r)=some p.2:=by simp[look]);(have:Nat.beq (ρ k) (ρ p.1)=false:=by cases hc:Nat.beq (ρ k) (ρ p.1)with|false=>rfl|true=>exact absurd (ml p.1 p.2 hp (Nat.eq_of_beq_eq_true hc).symm).symm bf);rw[this,cond_false];refine ON (fun i c hc he=>?_) h;by_cases E7:i=p.1;(·rw[E7]at he⊢;exact ml p.1 p.2 hp he);·exact ml i c (by rw[show(p::r)=((p.1,p.2)::r)from rfl,L1 _ _ E7];exact hc) he
theorem QQ {ρ:Nat→Nat} {i:Nat} {b:L9} : ∀ {bl:List (Nat×L9)},(∀j k c e,look j bl=some c→look k bl=some e→ρ j=ρ k→j=k)→look i (Qk ρ bl)=some b→ ∃k c,ρ k=i∧look k bl=some c∧b=c.map (PV.NG ρ)|[],_,h=>(by cases h)|p::r,ml,h=>by simp only[Qk,look]at h;(have hp:look p.1 (p::r)=some p.2:=by simp[look]);cases hb:Nat.beq i (ρ p.1)with|true=>simp only[hb,cond_true,Option.some.injEq]at h;exact⟨p.1,p.2,(Nat.eq_of_beq_eq_true hb).symm,hp,h.symm⟩|false=>simp only[hb,cond_false]at h;(have bf:i≠ρ p.1:=by intro e;rw[e]at hb;simp at hb);(have up: ∀j c,look j r=some c→j=p.1∨look j (p::r)=some c:=by intro j c hc;by_cases hj:j=p.1;(·exact .inl hj);·exact .inr (by rw[show(p::r)=((p.1,p.2)::r)from rfl,L1 _ _ hj];exact hc));obtain⟨k,c,h1,h2,h3⟩:=QQ (bl:=r) (fun j k c e hj hk he=>by rcases up j c hj with h'|h';(·rcases up k e hk with yx|yx;(·rw[h',yx]);·exact ml j k p.2 e (by rw[h'];exact hp) yx he);·rcases up k e hk with yx|yx;(·exact ml j k c p.2 h' (by rw[yx];exact hp) he);·exact ml j k c e h' yx he) h;refine⟨k,c,h1,?_,h3⟩;rcases up k c h2 with h'|h';(·exact absurd (by rw[←h1,h']) bf);·exact h'
theorem Rd {k:Nat} : ∀ {a b:List (Nat×L9)},look k (a++b)=(match look k a with|some x=>some x|none=>look k b)|[],b=>(by simp[look])|p::r,b=>by simp only[List.cons_append,look];cases Nat.beq k p.1 with|true=>rfl|false=>exact Rd (a:=r)
theorem NC {id:Nat} : ∀ {bl:List (Nat×L9)},LS id (keys bl)=true→ ∃b,look id bl=some b|[],h=>(by cases h)|p::r,h=>by simp only[keys,List.map_cons,LS]at h;simp only[look];cases hb:Nat.beq id p.1 with|true=>exact⟨p.2,rfl⟩|false=>simp only[hb,cond_false]at h⊢;exact NC h
theorem WN {bl':List (Nat×L9)} {i:Nat} : ∀ {l:List Nat} {j:Nat},LS i (M4 bl' l j)=true↔ ∃k,k<l.length∧Oy l k=i∧look (j+k) bl'=none|[],j=>(by simp[M4,LS])|x::r,j=>by have ih:=WN (bl':=bl') (i:=i) (l:=r) (j:=j+1);simp only[M4];constructor;(·intro h;cases hl:look j bl' with|some b=>rw[hl]at h;obtain⟨k,h1,h2,h3⟩:=ih.1 h;exact⟨k+1,by simpa using h1,by simpa[Oy]using h2,by rw[←h3];congr 1;omega⟩|none=>rw[hl]at h;simp only[LS]at h;cases hb:Nat.beq i x with|true=>exact⟨0,by simp,by simp[Oy,Nat.eq_of_beq_eq_true hb],by simpa using hl⟩|false=>simp only[hb,cond_false]at h;obtain⟨k,h1,h2,h3⟩:=ih.1 h;exact⟨k+1,by simpa using h1,by simpa[Oy]using h2,by rw[←h3];congr 1;omega⟩);·rintro⟨k,h1,h2,h3⟩;cases k with|zero=>simp only[Nat.add_zero]at h3;simp only[Oy]at h2;rw[h3];simp[LS,h2]|succ k=>have:=ih.2 ⟨k,by simpa using h1,by simpa[Oy]using h2,by rw[←h3];congr 1;omega⟩;cases look j bl' with|some b=>exact this|none=>simp only[LS,this];cases Nat.beq i x<;>rfl
end Go.Proofs.YtgpkijnphchkpaaGreat
namespace Go.Proofs.YtgpkijnphchkpaaGreat
open Go.RowKit
section
variable {E:Env} {n:Nat} {w0:World} {S0:Cx} {s:St} {a:Act} {w:World} {ν:Nat→Value} {S:Nat→Prop}
def QR(S:Nat→Prop)(s:St)(ν:Nat→Value)(ks:List Nat):Nat→Prop:=fun g=>S g∨ ∃i,LS i ks=true∧s.D i∧LZ (ν i)=some g
def mkF(f:Nat):Value:=.func (.func f) #[] #[]
theorem Z4 {c:Ctx} : ∀ {cs:List PV} {l:List Nat} {vs:List Value},aq4 cs=some l→LO c cs vs→vs=l.map mkF|[],l,vs,h,hp=>(by simp only[aq4,Option.some.injEq]at h;subst h;simp only[LO]at hp;exact hp)|p::r,l,vs,h,hp=>by unfold aq4 at h;split at h;(·rename_i he;cases he);(·rename_i f r' he;injection he with e1 e2;subst e1;subst e2;split at h;(·rename_i l' hl;injection h with h;subst h;simp only[LO]at hp;obtain⟨v,r,rfl,hv,hr⟩:=hp;simp only[ep]at hv;have vM:[v]=[Value.func (.func f) #[] #[]]:=hv.2;injection vM with vM;rw[vM,Z4 hl hr];rfl);·cases h);·cases h
theorem Z5 {w:World} {M:Mem} : ∀(x:Nat)(l:List Nat),L3 (XM (x::l)) (aw4 (x::l)) w M ((x::l).map mkF)|x,[]=>rfl|x,y::r=>⟨[mkF x],(y::r).map mkF,rfl,rfl,Z5 y r⟩
theorem WO: ∀(x:Nat)(l:List Nat),(XM (x::l)).cells=(x::l).length|x,[]=>rfl|x,y::r=>by show 1+(XM (y::r)).cells=_;rw[WO y r];simp only[List.length_cons];omega
theorem Ye: ∀l:List Nat,Ma (XM l)=0|[]=>rfl|[_]=>rfl|x::y::r=>by show Ma .LY+Ma (XM (y::r))=0;rw[Ye (y::r)];rfl
mutual theorem Yf {c c':Ctx} {ks:List Nat} {bl:List (Nat×L9)} (hw:c'.w=c.w)(hS: ∀b,c.M.S b→c'.M.S b)(hD: ∀i,LS i ks=false→c.D i→c'.D i)(br:c'.ν=c.ν)(hb: ∀i b,look i bl=some b→Q2 c i b)(hl: ∀i,LS i ks=true→c.D i→ ∀g,LZ (c.ν i)=some g→c'.M.S g): ∀ {p:PV} {v:Value},ep c p v→ep c' (p.Mb ks bl) v|.iv T x,v,h=>(by simp only[PV.Mb,ep]at h⊢;exact⟨h.1,O0 (fun _ _=>by rw[hw]) hS h.1 h.2⟩)|.ref i off,v,h=>(by simp only[PV.Mb];cases hi:LS i ks;(·simp only[cond_false,ep]at h⊢;obtain⟨hd,g,h1,h2⟩:=h;exact⟨hD _ hi hd,g,by rw[br];exact h1,h2⟩);·simp only[cond_true];split;(·rename_i cs te oX;split;(·rename_i x l Nt;simp only[ep]at h⊢;obtain⟨hd,g,h1,h2⟩:=h;obtain⟨_,g',vs,e,e1,_,_,e2,_,e3⟩:=hb _ _ oX;rw[h1]at e1;injection e1 with e1;injection e1 with e1;injection e1 with e1;subst e1;have oQ:=Z4 Nt e3;refine⟨Ye (x::l),g,0,vs.toList,by rw[h2];simp,hl i hi hd g (by rw[h1];rfl),by rw[oQ,List.length_map];exact(WO x l).symm,fun j v hj=>?_,?_⟩;(·rw[hw];simp only[World.cell?,e2,Nat.zero_add];simpa using hj);·rw[oQ];exact Z5 x l);·simp only[ep]);·simp only[ep])|.NF T x off,v,h=>(by simp only[PV.Mb,ep]at h⊢;obtain⟨ho,g,o,cs,h1,h2,h3,h4,h5⟩:=h;exact⟨ho,g,o,cs,h1,hS _ h2,h3,h4.mono (by rw[hw]),LX (fun _ _=>by rw[hw]) hS _ _ _ ho h5⟩)|.LV i,v,h=>(by simp only[PV.Mb];cases hi:LS i ks;(·simp only[cond_false,ep]at h⊢;exact⟨hD _ hi h.1,by rw[br];exact h.2.1,h.2.2⟩);·simp only[cond_true];split;(·rename_i T xs te oX;simp only[ep]at h⊢;obtain⟨gu,eK⟩:=Rt (hb _ _ oX);refine⟨by simpa[Ma]using gu,?_⟩;have:=SY (M':=c'.M) gu hS eK (hl i hi h.1);rw[h.2.1,hw];exact this);·simp only[ep])|.Ps i sz off len,v,h=>(by simp only[PV.Mb];cases hi:LS i ks;(·simp only[cond_false,ep]at h⊢;obtain⟨hd,a,n,cap,b,h1,h2⟩:=h;exact⟨hD _ hi hd,a,n,cap,b,by rw[br];exact h1,h2⟩);·simp only[cond_true];split;(·rename_i T xs te oX;split;(·rename_i bt;have bt:=Nat.eq_of_beq_eq_true bt;simp only[ep]at h⊢;obtain⟨hd,a,n,cap,b,Gi,hn,gQ,rfl,dG⟩:=h;obtain⟨gu,eK⟩:=Rt (hb _ _ oX);refine⟨by simpa[Ma]using gu,?_⟩;have cP:=SY (M':=c'.M) gu hS eK (hl i hi hd);rw[Gi]at cP;(have hlen:n=xs.length:=by obtain⟨a',fG,hv,_⟩:=cP;injection hv with hv;injection hv);subst hlen;subst bt;rw[hw];exact VS cP hn dG);·simp only[ep]);·simp only[ep])|.OG i sz j off,v,h=>(by simp only[PV.Mb];cases hi:LS i ks;(·simp only[cond_false,ep]at h⊢;obtain⟨hd,g,o,n,cap,h1,h2⟩:=h;exact⟨hD _ hi hd,g,o,n,cap,by rw[br];exact h1,h2⟩);·simp only[cond_true,ep])|.lmap i,v,h=>(by simp only[PV.Mb];cases hi:LS i ks;(·simp only[cond_false,ep]at h⊢;exact⟨hD _ hi h.1,by rw[br];exact h.2.1,h.2.2⟩);·simp only[cond_true];split;(·rename_i K V es oX;simp only[ep]at h⊢;obtain⟨bm,iz,h0,r,ae,clock,h1,h2,h3,h4,h5,h6,h7⟩:=hb _ _ oX;refine⟨by simp only[Ma];omega,?_⟩;rw[hw];exact al0 bm iz hS h0 (by rw[h.2.1,h1]) (hl i hi h.1 r (by rw[h1];rfl)) h4 h5 h6 h7);·simp only[ep])|.agg cs,v,h=>(by simp only[PV.Mb,ep]at h⊢;obtain⟨vs,h1,h0,h2⟩:=h;exact⟨vs,h1,h0,NP hw hS hD br hb hl h2⟩)|.Mj cs,v,h=>(by simp only[PV.Mb,ep]at h⊢;obtain⟨vs,h1,h2⟩:=h;exact⟨vs,h1,NP hw hS hD br hb hl h2⟩)|.Ms,v,h=>(by simp only[PV.Mb,ep]at h⊢;exact h)|.M0,v,h=>(by simp only[PV.Mb,ep]at h⊢;exact h)|.Py i base T n j,v,h=>(by simp only[PV.Mb];cases hi:LS i ks;(·simp only[cond_false,ep]at h⊢;obtain⟨hd,h0,hn,g,h1,h2⟩:=h;exact⟨hD _ hi hd,h0,hn,g,by rw[br];exact h1,h2⟩);·simp only[cond_true,ep])|.VM f cs,v,h=>(by simp only[PV.Mb,ep]at h⊢;obtain⟨vs,h1,h2⟩:=h;exact⟨vs,h1,NP hw hS hD br hb hl h2⟩)|.Sl f cs,v,h=>(by simp only[PV.Mb,ep]at h⊢;obtain⟨vs,h1,h2⟩:=h;exact⟨vs,h1,NP hw hS hD br hb hl h2⟩)|.Wi i,v,h=>(by simp only[PV.Mb];cases hi:LS i ks;(·simp only[cond_false,ep]at h⊢;obtain⟨hd,g,h1,h2⟩:=h;exact⟨hD _ hi hd,g,by rw[br];exact h1,h2⟩);·simp only[cond_true,ep])|.clip T xs,v,h=>(by simp only[PV.Mb,ep]at h⊢;exact⟨h.1,h.2.1,LX (fun _ _=>by rw[hw]) hS (.sl T) _ _ h.1 h.2.2⟩)|.fn f cs,v,h=>(by simp only[PV.Mb,ep]at h⊢;obtain⟨vs,h1,h2⟩:=h;exact⟨vs,h1,NP hw hS hD br hb hl h2⟩)|.any,v,h=>by simp only[PV.Mb,ep]theorem NP {c c':Ctx} {ks:List Nat} {bl:List (Nat×L9)} (hw:c'.w=c.w)(hS: ∀b,c.M.S b→c'.M.S b)(hD: ∀i,LS i ks=false→c.D i→c'.D i)(br:c'.ν=c.ν)(hb: ∀i b,look i bl=some b→Q2 c i b)(hl: ∀i,LS i ks=true→c.D i→ ∀g,LZ (c.ν i)=some g→c'.M.S g): ∀ {ps:List PV} {vs:List Value},LO c ps vs→LO c' (PV.OE ks bl ps) vs|[],vs,h=>(by simp only[PV.OE,LO]at h⊢;exact h)|p::ps,vs,h=>by simp only[PV.OE,LO]at h⊢;obtain⟨v,r,h1,h2,h3⟩:=h;exact⟨v,r,h1,Yf hw hS hD br hb hl h2,NP hw hS hD br hb hl h3⟩end
theorem UY(s:St)(ks:List Nat)(i:Nat):look i (s.Mb ks).bl=bif LS i ks then none else(look i s.bl).map (L9.map (PV.OE ks s.bl)):=by simp only[St.Mb,N3,RT]
theorem az3(s:St)(ks:List Nat)(t:Nat):(s.Mb ks).get t=(s.get t).Mb ks s.bl:=by simp only[St.get,St.Mb,OV];cases look t s.sl<;>simp[PV.Mb]
theorem Full.NH(h:Full n w0 S0 s a w ν S)(ks:List Nat):Full n w0 S0 (s.Mb ks) a w ν (QR S s ν ks):=by
 have hS: ∀b,S b→QR S s ν ks b:=fun b hb=>.inl hb;(have hD: ∀i,LS i ks=false→s.D i→(s.Mb ks).D i:=by rintro i hi⟨b,hb⟩;exact⟨b.map (PV.OE ks s.bl),by rw[UY,hi,hb];rfl⟩)
 have hl: ∀i,LS i ks=true→s.D i→ ∀g,LZ (ν i)=some g→QR S s ν ks g:=fun i hi hd g hg=>.inr ⟨i,hi,hd,hg⟩;(have TU: ∀i b,look i (s.Mb ks).bl=some b→LS i ks=false∧ ∃b0,look i s.bl=some b0∧b=b0.map (PV.OE ks s.bl):=by intro i b hb;rw[UY]at hb;cases hi:LS i ks with|true=>rw[hi]at hb;cases hb|false=>rw[hi,cond_false]at hb;cases hl:look i s.bl with|none=>rw[hl]at hb;cases hb|some b0=>rw[hl]at hb;injection hb with hb;exact⟨rfl,b0,rfl,hb.symm⟩)
 refine⟨h.below,fun b hb=>hS b (h.XQ b hb),fun b hb=>?_,⟨fun b hb=>?_,h.W.size,fun i b hb=>?_,fun i j b c bT hi hj=>?_⟩,fun t=>?_,h.size,h.defers,h.TT,fun i hi hd=>?_,h.YS⟩
 (·rcases hb with hb|⟨i,_,⟨b0,dj⟩,hg⟩;(·exact h.fresh b hb);·exact .inr (h.Pe dj hg).1);(·rcases hb with hb|⟨i,_,⟨b0,dj⟩,hg⟩;(·exact h.W.lt b hb);·exact(h.Pe dj hg).2.2)
 (·obtain⟨hi,b0,dj,rfl⟩:=TU i b hb;have hr:=h.W.MS i b0 dj;(have iA: ∀g,LZ (ν i)=some g→ ¬QR S s ν ks g:=by rintro g hg(hs|⟨j,hj,⟨bj,JN⟩,kB⟩);(·exact(h.Pe dj hg).2.1 hs);·(have bT:i≠j:=by rintro rfl;rw[hi]at hj;cases hj);exact h.W.ne i j b0 bj bT dj JN g hg kB);cases b0 with|box cs te=>obtain⟨dD,g,vs,e,h1,h2,h3,h4,h0,h5⟩:=hr;exact⟨dD.Qn rfl fun _ _=>rfl,g,vs,e,h1,h2,iA g (by simp only at h1;rw[h1];rfl),h4,h0,NP (c:=⟨ν,s.D,w,⟨S,L4 w0 S0⟩⟩) (c':=⟨ν,(s.Mb ks).D,w,⟨QR S s ν ks,L4 w0 S0⟩⟩) rfl hS hD rfl h.W.MS hl h5⟩|arr T xs te=>obtain⟨dD,ho,v,hv,h1,h2⟩:=hr;injection hv with hv;simp only at hv;refine⟨dD.Qn rfl fun _ _=>rfl,ho,v,by simp only[hv],h1,?_⟩;rcases h2 with h2|⟨g,o,cap,cur,e,rfl,h3,h4,h5,h6,h7,h8,h9⟩;(·exact .inl h2);(·refine .inr ⟨g,o,cap,cur,e,rfl,h3,h4,iA g (by rw[hv];rfl),h6,h7,h8,fun i y hy=>?_⟩;obtain⟨cs,hl,nD,hr⟩:=h9 i y hy;exact⟨cs,hl,nD,LX (fun _ _=>rfl) hS _ _ _ ho hr⟩)|mp K V es=>obtain⟨bm,iz,h0,r,ae,clock,h1,h2,h3,h4,h5,h6,h7⟩:=hr;refine⟨bm,iz,h0,r,ae,clock,h1,h2,iA r (by simp only at h1;rw[h1];rfl),h4,h5,h6,fun i y hy=>?_⟩;obtain⟨e,ca,cb,a1,a2,a3,a4,a5⟩:=h7 i y hy;exact⟨e,ca,cb,a1,a2,LX (fun _ _=>rfl) hS _ _ _ bm a3,a4,LX (fun _ _=>rfl) hS _ _ _ iz a5⟩|it src since seen=>obtain⟨g,m,h1,h2,h3,h4,h6⟩:=hr;exact⟨g,m,h1,h2,iA g (by simp only at h1;rw[h1];rfl),h4,NP (c:=⟨ν,s.D,w,⟨S,L4 w0 S0⟩⟩) (c':=⟨ν,(s.Mb ks).D,w,⟨QR S s ν ks,L4 w0 S0⟩⟩) rfl hS hD rfl h.W.MS hl h6⟩|XJ x pos=>obtain⟨g,h1,h2,h3,h4,h5⟩:=hr;exact⟨g,h1,h2,iA g (by simp only at h1;rw[h1];rfl),h4,h5⟩|gh o cs=>obtain⟨g,vs,h1,h2,h3,h4,h6⟩:=hr;exact⟨g,vs,h1,h2,iA g (by simp only at h1;rw[h1];rfl),h4,NP (c:=⟨ν,s.D,w,⟨S,L4 w0 S0⟩⟩) (c':=⟨ν,(s.Mb ks).D,w,⟨QR S s ν ks,L4 w0 S0⟩⟩) rfl hS hD rfl h.W.MS hl h6⟩)
 (·obtain⟨_,b0,dj,_⟩:=TU i b hi;obtain⟨_,c0,iB,_⟩:=TU j c hj;exact h.W.ne i j b0 c0 bT dj iB);(·rw[az3];exact Yf (c:=⟨ν,s.D,w,⟨S,L4 w0 S0⟩⟩) (c':=⟨ν,(s.Mb ks).D,w,⟨QR S s ν ks,L4 w0 S0⟩⟩) rfl hS hD rfl h.W.MS hl (h.N9 t))
 ·obtain⟨b,hb⟩:=hd;obtain⟨_,b0,dj,_⟩:=TU i b hb;exact h.kept i hi ⟨b0,dj⟩
/-! ### Blocks handed to a callee -/
def VX(ν:Nat→Value)(ids:List Nat):Nat→Value:=fun k=>ν (Oy ids (k-P0))
theorem N4 {s:St} {ids:List Nat} {k:Nat} {b:L9} (h:look k (Nb ids s.bl ids P0)=some b):P0≤k∧k-P0<ids.length∧ ∃b0,look (Oy ids (k-P0)) s.bl=some b0∧b=b0.map (PV.NG (fwd ids)):=by
 rw[Rc (fun _ h=>h)]at h;split at h;(·rename_i hc;cases hl:look (Oy ids (k-P0)) s.bl with|none=>rw[hl]at h;cases h|some b0=>rw[hl]at h;injection h with h;exact⟨hc.1,hc.2,b0,rfl,h.symm⟩)
 ·cases h
theorem az4 {s:St} {ids:List Nat} {i:Nat} (hi:LS i ids=true)(hd:s.D i):(⟨[],Nb ids s.bl ids P0⟩:St).D (fwd ids i):=by
 obtain⟨b,hb⟩:=hd;obtain⟨h1,h2,h3⟩:=VW hi;refine⟨b.map (PV.NG (fwd ids)),?_⟩;simp only;rw[Rc (fun _ h=>h),if_pos ⟨h1,h3⟩,h2,hb];rfl
def cxC(S:Nat→Prop)(s:St)(ν:Nat→Value)(ids:List Nat):Cx:=⟨S,Pd (VX ν ids) (Nb ids s.bl ids P0),VX ν ids,[]⟩
theorem Ue {s:St} {ν:Nat→Value} {ids:List Nat} {g:Nat} (h:Pd (VX ν ids) (Nb ids s.bl ids P0) g): ∃i b,LS i ids=true∧look i s.bl=some b∧LZ (ν i)=some g:=by
 obtain⟨k,b,hk,hg⟩:=h;obtain⟨h1,h2,b0,dj,_⟩:=N4 hk;exact⟨_,b0,Uc h2,dj,hg⟩
theorem Yg {ks:List Nat} {bl:List (Nat×L9)} : ∀ {l:List Nat} {i:Nat} {b:L9},Sx ks bl l=true→i∈l→look i bl=some b→WM ks b=true|[],i,b,_,h,_=>(by cases h)|x::r,i,b,h,hi,hb=>by simp only[Sx,Bool.and_eq_true]at h;rcases List.mem_cons.1 hi with rfl|hi;(·have h1:=h.1;rw[hb]at h1;cases b<;>first|exact h1|rfl);·exact Yg h.2 hi hb
theorem Full.ah0(h:Full n w0 S0 s a w ν S) {ids:List Nat} (eP:RN ids=true)(cQ:Sx ids s.bl ids=true):TN ⟨[],Nb ids s.bl ids P0⟩ (VX ν ids) w ⟨S,L4 w (cxC S s ν ids)⟩∧(∀g,Pd (VX ν ids) (Nb ids s.bl ids P0) g→g<w.heap.size)∧ ∀(S1:Nat→Prop),(∀b,S b→S1 b)→Ctx.LeR ids (fwd ids) ⟨ν,s.D,w,⟨S,L4 w0 S0⟩⟩ ⟨VX ν ids,(⟨[],Nb ids s.bl ids P0⟩:St).D,w,⟨S1,L4 w (cxC S s ν ids)⟩⟩:=by
 (have br: ∀i,LS i ids=true→VX ν ids (fwd ids i)=ν i:=by intro i hi;unfold VX;rw[(VW hi).2.1]);have hle: ∀(S1:Nat→Prop),(∀b,S b→S1 b)→Ctx.LeR ids (fwd ids) ⟨ν,s.D,w,⟨S,L4 w0 S0⟩⟩ ⟨VX ν ids,(⟨[],Nb ids s.bl ids P0⟩:St).D,w,⟨S1,L4 w (cxC S s ν ids)⟩⟩:=fun S1 CG=>⟨fun _ _=>rfl,CG,fun i hi hd=>az4 hi hd,fun i hi _=>br i hi⟩
 refine⟨⟨h.W.lt,fun b hb=>.inl hb,fun k b hb=>?_,fun k l b c fH hk hl g hg b9=>?_⟩,fun g hg=>?_,hle⟩;(·obtain⟨h1,h2,b0,dj,rfl⟩:=N4 hb;have hm:=Uc h2;(have hf:fwd ids (Oy ids (k-P0))=k:=by rw[Ud eP h2];omega);have:=SJ (hle S (fun _ h=>h)) (i:=Oy ids (k-P0)) (b:=b0) (Yg cQ (NY.1 hm) dj) (br _ hm) (fun g hg=>⟨rfl,.inr ⟨k,_,hb,hg⟩,(h.Pe dj hg).2.1⟩) (h.W.MS _ b0 dj);rw[hf]at this;exact this)
 (·obtain⟨h1,h2,b0,dj,_⟩:=N4 hk;obtain⟨h3,h4,c0,iB,_⟩:=N4 hl;refine h.W.ne (Oy ids (k-P0)) (Oy ids (l-P0)) b0 c0 (fun e=>fH ?_) dj iB g hg b9;have e1:=Ud eP h2;have e2:=Ud eP h4;rw[e,e2]at e1;omega)
 ·obtain⟨i,b,_,hb,b9⟩:=Ue hg;exact(h.Pe hb b9).2.2
end
end Go.Proofs.YtgpkijnphchkpaaGreat
namespace Go.Proofs.YtgpkijnphchkpaaGreat
open Go.RowKit
mutual theorem Rx {c:Ctx} {bl:List (Nat×L9)} (hD: ∀i,c.D i→ ∃b,look i bl=some b): ∀ {p:PV} {v:Value},ep c p v→PV.ZF (keys bl) p=true|.iv T x,v,h=>rfl|.ref i off,v,h=>(by simp only[ep]at h;obtain⟨b,hb⟩:=hD _ h.1;exact Nj hb)|.NF T x off,v,h=>rfl|.LV i,v,h=>(by simp only[ep]at h;obtain⟨b,hb⟩:=hD _ h.1;exact Nj hb)|.Ps i sz off len,v,h=>(by simp only[ep]at h;obtain⟨b,hb⟩:=hD _ h.1;exact Nj hb)|.OG i sz j off,v,h=>(by simp only[ep]at h;obtain⟨b,hb⟩:=hD _ h.1;exact Nj hb)|.lmap i,v,h=>(by simp only[ep]at h;obtain⟨b,hb⟩:=hD _ h.1;exact Nj hb)|.agg cs,v,h=>(by simp only[ep]at h;obtain⟨vs,_,_,h2⟩:=h;exact N8 hD h2)|.Mj cs,v,h=>(by simp only[ep]at h;obtain⟨vs,_,h2⟩:=h;exact N8 hD h2)|.Ms,v,h=>rfl|.M0,v,h=>rfl|.Py i base T n j,v,h=>(by simp only[ep]at h;obtain⟨b,hb⟩:=hD _ h.1;exact Nj hb)|.VM f cs,v,h=>(by simp only[ep]at h;obtain⟨vs,_,h2⟩:=h;exact N8 hD h2)|.Sl f cs,v,h=>(by simp only[ep]at h;obtain⟨vs,_,h2⟩:=h;exact N8 hD h2)|.Wi i,v,h=>(by simp only[ep]at h;obtain⟨b,hb⟩:=hD _ h.1;exact Nj hb)|.clip T xs,v,h=>rfl|.fn f cs,v,h=>(by simp only[ep]at h;obtain⟨vs,_,h2⟩:=h;exact N8 hD h2)|.any,v,h=>rfl theorem N8 {c:Ctx} {bl:List (Nat×L9)} (hD: ∀i,c.D i→ ∃b,look i bl=some b): ∀ {ps:List PV} {vs:List Value},LO c ps vs→PV.Pz (keys bl) ps=true|[],vs,h=>rfl|p::ps,vs,h=>by simp only[LO]at h;obtain⟨v,r,_,h2,h3⟩:=h;simp only[PV.Pz,Rx hD h2,N8 hD h3,Bool.and_self]end
theorem S6 {c:Ctx} {bl:List (Nat×L9)} (hD: ∀i,c.D i→ ∃b,look i bl=some b) {i:Nat} {b:L9} (h:Q2 c i b):WM (keys bl) b=true:=by
 cases b with|box cs te=>obtain⟨_,g,vs,e,_,_,_,_,_,h5⟩:=h;exact N8 hD h5|it cs a b=>obtain⟨g,m,_,_,_,_,h6⟩:=h;exact N8 hD h6|gh o cs=>obtain⟨g,vs,_,_,_,_,h6⟩:=h;exact N8 hD h6|_=>rfl
theorem Z6 {bl':List (Nat×L9)} : ∀ {bl:List (Nat×L9)} {k:Nat} {b:L9},Wy bl bl'=true→look k bl=some b→look k bl'=none→ ∃T xs te,b= .arr T xs te|[],k,b,_,h,_=>(by cases h)|p::r,k,b,hk,h,hn=>by simp only[Wy,Bool.and_eq_true]at hk;simp only[look]at h;cases hb:Nat.beq k p.1 with|true=>simp only[hb,cond_true,Option.some.injEq]at h;subst h;have:=Nat.eq_of_beq_eq_true hb;subst this;have h1:=hk.1;rw[hn]at h1;(cases hp:p.2 with|arr T xs te=>exact⟨T,xs,te,rfl⟩|box cs te=>rw[hp]at h1;cases h1|mp K V es=>rw[hp]at h1;cases h1|it a b c=>rw[hp]at h1;cases h1|XJ a b=>rw[hp]at h1;cases h1|gh a b=>rw[hp]at h1;cases h1)|false=>simp only[hb,cond_false]at h;exact Z6 hk.2 h hn
theorem am0 {bl:List (Nat×L9)} {used:List Nat} {d:Option Nat} : ∀ {l:List (Nat×L9)} {k:Nat} {b:L9},ag0 bl used d l=true→look k l=some b→(P0≤k∧ ∃c,look k bl=some c)∨(k<P0∧ ∃e,d=some e∧k<100000∧k+100000*(e+1)<P0∧LS (k+100000*(e+1)) used=false)|[],k,b,_,h=>(by cases h)|(p1,p2)::r,k,b,hn,h=>by obtain⟨p,hp⟩: ∃p:Nat×L9,p=(p1,p2):=⟨_,rfl⟩;(obtain rfl:p.1=p1:=by rw[hp]);(obtain rfl:p.2=p2:=by rw[hp]);clear hp;simp only[ag0,Bool.and_eq_true]at hn;simp only[look]at h;cases hb:Nat.beq k p.1 with|true=>have:=Nat.eq_of_beq_eq_true hb;subst this;have h1:=hn.1;split at h1;(·rename_i bN;have hle:=Nat.le_of_ble_eq_true bN;cases hl:look p.1 bl with|none=>rw[hl]at h1;cases h1|some c=>exact .inl ⟨hle,c,rfl⟩);(·rename_i bN;(have bo:p.1<P0:=by rcases Nat.lt_or_ge p.1 P0 with h'|h';(·exact h');·rw[Nat.ble_eq_true_of_le h']at bN;cases bN);cases d with|none=>cases h1|some e=>simp only[Bool.and_eq_true,Nat.blt_eq,Bool.not_eq_true']at h1;exact .inr ⟨bo,e,rfl,h1.1.1,h1.1.2,h1.2⟩)|false=>simp only[hb,cond_false]at h;exact am0 hn.2 h
section
variable {E:Env} {n:Nat} {w0:World} {S0:Cx} {s:St} {a:Act} {w:World} {ν:Nat→Value} {S:Nat→Prop}
theorem RY {ids:List Nat} {d k:Nat} (h:P0≤k):back ids d k=Oy ids (k-P0):=by unfold back;rw[Nat.ble_eq_true_of_le h];rfl
theorem S7 {ids:List Nat} {d k:Nat} (h:k<P0):back ids d k=k+100000*(d+1):=by
 unfold back;(have:Nat.ble P0 k=false:=by cases hb:Nat.ble P0 k with|false=>rfl|true=>have:=Nat.le_of_ble_eq_true hb;omega);rw[this];rfl
def Oz(s:St)(d:Nat)(ids:List Nat)(bl':List (Nat×L9)):List (Nat×L9):=Qk (back ids d) bl'++Ng ids (s.kill (M4 bl' ids P0)).bl
noncomputable def Qo(ν ν':Nat→Value)(d:Nat)(bl':List (Nat×L9)):Nat→Value:=fun i=>match Nat.ble (100000*(d+1)) i,look (i-100000*(d+1)) bl' with|true,some _=>bif Nat.blt (i-100000*(d+1)) 100000 then ν' (i-100000*(d+1))else ν i|_,_=>ν i
theorem Full.Nf(h:Full n w0 S0 s a w ν S) {ids:List Nat} {d:Option Nat} {p:PV} {v:Value} {bl':List (Nat×L9)} {w':World} {ν':Nat→Value} {S':Nat→Prop} (eP:RN ids=true)(cQ:Sx ids s.bl ids=true)(hk:Kept (Pd (VX ν ids) (Nb ids s.bl ids P0)) w w')(h1: ∀b,S b→S' b)(h2: ∀b,S' b→S b∨L4 w (cxC S s ν ids) b)(h3: ∀i,P0≤i→(⟨[],bl'⟩:St).D i→ν' i=VX ν ids i)(hW:TN ⟨[],bl'⟩ ν' w' ⟨S',L4 w (cxC S s ν ids)⟩)(hp:ep ⟨ν',(⟨[],bl'⟩:St).D,w',⟨S',L4 w (cxC S s ν ids)⟩⟩ p v)(jS:Wy (Nb ids s.bl ids P0) bl'=true)(bd:ag0 (Nb ids s.bl ids P0) (keys s.bl) d bl'=true)(hd: ∀e,d=some e→e<n): ∃vN,Full n w0 S0 (s.Ol d ids p bl') (a.put d v) w' vN S':=by
 obtain⟨dd,fY⟩: ∃dd:Nat,dd=(match d with|some e=>e|none=>0):=⟨_,rfl⟩;(have dR:(s.Ol d ids p bl').bl=Oz s dd ids bl':=by subst fY;cases d<;>rfl);(have cP: ∀t,(s.Ol d ids p bl').get t=match d with|some e=>if t=e then p.ND (back ids dd)else((s.get t).kill (M4 bl' ids P0))|none=>(s.get t).kill (M4 bl' ids P0):=by intro t;subst fY;cases d with|none=>exact WA s _ t|some e=>simp only[St.Ol,St.get];by_cases ht:t=e;(·subst ht;simp only[Mf,if_true]);·rw[L1 _ _ ht,if_neg ht];have:=WA s (M4 bl' ids P0) t;simp only[St.get]at this;exact this)
 (have cR: ∀k b,look k bl'=some b→(P0≤k∧k-P0<ids.length∧ ∃b0,look (Oy ids (k-P0)) s.bl=some b0)∨(k<P0∧d=some dd∧k<100000∧k+100000*(dd+1)<P0∧look (k+100000*(dd+1)) s.bl=none):=by intro k b hb;rcases am0 bd hb with⟨hle,c,hc⟩|⟨bo,e,he,Gj,DD,Gk⟩;(·obtain⟨_,h5,b0,dj,_⟩:=N4 hc;exact .inl ⟨hle,h5,b0,dj⟩);·subst he;simp only at fY;subst fY;refine .inr ⟨bo,rfl,Gj,DD,?_⟩;cases hl:look (k+100000*(dd+1)) s.bl with|none=>rfl|some b=>rw[Nj hl]at Gk;cases Gk)
 (have ml: ∀j k c e,look j bl'=some c→look k bl'=some e→back ids dd j=back ids dd k→j=k:=by intro j k c e hj hk he;rcases cR j c hj with⟨a1,a2,b0,a3⟩|⟨a1,_,a2,a3,a4⟩;(·rcases cR k e hk with⟨b1,b2,c0,b3⟩|⟨b1,_,b2,b3,b4⟩;(·rw[RY a1,RY b1]at he;have e1:=Ud eP a2;have e2:=Ud eP b2;rw[he,e2]at e1;omega);·rw[RY a1,S7 b1]at he;rw[he,b4]at a3;cases a3);·rcases cR k e hk with⟨b1,b2,c0,b3⟩|⟨b1,_,b2,b3,b4⟩;(·rw[S7 a1,RY b1]at he;rw[←he,a4]at b3;cases b3);·rw[S7 a1,S7 b1]at he;omega)
 (have fI: ∀i,s.D i→Qo ν ν' dd bl' i=ν i:=by rintro i⟨b,hb⟩;unfold Qo;split;(·rename_i c bN hl;cases bo:Nat.blt (i-100000*(dd+1)) 100000 with|false=>rfl|true=>have hle:=Nat.le_of_ble_eq_true bN;rw[Nat.blt_eq]at bo;rcases cR _ c hl with⟨a1,_⟩|⟨_,_,_,_,a4⟩;(·unfold P0 at a1;omega);·rw[show i-100000*(dd+1)+100000*(dd+1)=i from by omega,hb]at a4;cases a4);·rfl)
 (have kJ: ∀k b,look k bl'=some b→Qo ν ν' dd bl' (back ids dd k)=ν' k:=by intro k b hb;rcases cR k b hb with⟨a1,a2,b0,a3⟩|⟨a1,_,a2,a3,a4⟩;(·rw[RY a1,fI _ ⟨b0,a3⟩,h3 k a1 ⟨b,hb⟩];rfl);·rw[S7 a1];unfold Qo;rw[Nat.ble_eq_true_of_le (by omega),show k+100000*(dd+1)-100000*(dd+1)=k from by omega,hb];(have:Nat.blt k 100000=true:=by rw[Nat.blt_eq];exact a2);simp only[this,cond_true])
 (have vO: ∀k b,look k bl'=some b→look (back ids dd k) (Oz s dd ids bl')=some (b.map (PV.NG (back ids dd))):=by intro k b hb;unfold Oz;rw[Rd,ON (fun i c hc he=>ml i k c b hc hb he) hb])
 (have Bn: ∀i,LS i ids=false→s.D i→ ∃b,look i (Oz s dd ids bl')=some b:=by rintro i hi⟨b,hb⟩;unfold Oz;rw[Rd];cases look i (Qk (back ids dd) bl')with|some x=>exact⟨x,rfl⟩|none=>exact⟨b.map (PV.Nm (M4 bl' ids P0)),by simp only;rw[N3,hi,cond_false,Qt,hb];rfl⟩)
 (have kK: ∀i b,look i (Oz s dd ids bl')=some b→(∃k c,back ids dd k=i∧look k bl'=some c∧b=c.map (PV.NG (back ids dd)))∨(LS i ids=false∧ ∃b0,look i s.bl=some b0∧b=b0.map (PV.Nm (M4 bl' ids P0))):=by intro i b hb;unfold Oz at hb;rw[Rd]at hb;cases hr:look i (Qk (back ids dd) bl')with|some x=>rw[hr]at hb;injection hb with hb;subst hb;exact .inl (QQ ml hr)|none=>rw[hr]at hb;simp only at hb;rw[N3]at hb;cases hi:LS i ids with|true=>rw[hi]at hb;cases hb|false=>rw[hi,cond_false,Qt]at hb;cases hl:look i s.bl with|none=>rw[hl]at hb;cases hb|some b0=>rw[hl]at hb;injection hb with hb;exact .inr ⟨rfl,b0,rfl,hb.symm⟩)
 (have vP: ∀g,Pd (VX ν ids) (Nb ids s.bl ids P0) g→L4 w0 S0 g∧ ¬S g∧g<w.heap.size:=fun g hg=>by obtain⟨i,b,_,hb,b9⟩:=Ue hg;exact h.Pe hb b9);(have eK: ∀g,L4 w (cxC S s ν ids) g→L4 w0 S0 g:=fun g hg=>by rcases hg with hg|hg;(·exact h.W.size g hg);·exact(vP g hg).1)
 (have vQ: ∀i,LS i ids=true→s.D i→LS i (M4 bl' ids P0)=false→ ∃b,look (fwd ids i) bl'=some b:=by intro i hi _ sB;obtain⟨f1,f2,f3⟩:=VW hi;cases hl:look (fwd ids i) bl' with|some b=>exact⟨b,rfl⟩|none=>have:=(WN (bl':=bl') (i:=i) (l:=ids) (j:=P0)).2 ⟨fwd ids i-P0,f3,f2,by rw[show P0+(fwd ids i-P0)=fwd ids i from by omega];exact hl⟩;rw[this]at sB;cases sB)
 (have hD: ∀i,s.D i→LS i (M4 bl' ids P0)=false→(⟨[],Oz s dd ids bl'⟩:St).D i:=by intro i hi sB;cases hm:LS i ids with|false=>exact Bn i hm hi|true=>obtain⟨b,hb⟩:=vQ i hm hi sB;have:=vO _ b hb;obtain⟨f1,f2,f3⟩:=VW hm;rw[RY f1,f2]at this;exact⟨_,this⟩)
 have DE:Ctx.ZL (M4 bl' ids P0) ⟨ν,s.D,w,⟨S,L4 w0 S0⟩⟩ ⟨Qo ν ν' dd bl',(⟨[],Oz s dd ids bl'⟩:St).D,w',⟨S',L4 w0 S0⟩⟩:=⟨fun b hb=>hk.block b (h.W.lt b hb) (fun hf=>(vP b hf).2.1 hb),h1,hD,fun i hi _=>fI i hi⟩
 (have yj:ZM ⟨ν,s.D,w,⟨S,L4 w0 S0⟩⟩ (M4 bl' ids P0):=by rintro i hi⟨b,hb⟩;obtain⟨k,e1,e2,e3⟩:=WN.1 hi;(have oB:look (P0+k) (Nb ids s.bl ids P0)=some (b.map (PV.NG (fwd ids))):=by rw[Rc (fun _ h=>h),if_pos ⟨by omega,by omega⟩,show P0+k-P0=k from by omega,e2,hb];rfl);obtain⟨T,xs,te,x8⟩:=Z6 jS oB e3;cases b with|arr T xs te=>obtain⟨dD,_,u,hu,_,hc⟩:=h.W.MS i _ hb;injection hu with hu;simp only at hu⊢;rw[hu];rcases hc with⟨hc,_⟩|⟨g,o,cap,cur,e,hc,_⟩<;>subst hc<;>exact⟨_,_,_,rfl⟩|box cs te=>cases x8|mp K V es=>cases x8|it a b c=>cases x8|XJ a b=>cases x8|gh a b=>cases x8)
 have DF:Ctx.LeR (keys bl') (back ids dd) ⟨ν',(⟨[],bl'⟩:St).D,w',⟨S',L4 w (cxC S s ν ids)⟩⟩ ⟨Qo ν ν' dd bl',(⟨[],Oz s dd ids bl'⟩:St).D,w',⟨S',L4 w0 S0⟩⟩:=⟨fun _ _=>rfl,fun _ h=>h,fun i _⟨b,hb⟩=>⟨_,vO i b hb⟩,fun i _⟨b,hb⟩=>kJ i b hb⟩
 (have mS:TN ⟨[],Oz s dd ids bl'⟩ (Qo ν ν' dd bl') w' ⟨S',L4 w0 S0⟩:=by refine⟨hW.lt,fun b hb=>h.W.size b (Nat.le_trans hk.size hb),fun i b hb=>?_,fun i j b c bT hi hj g hg b9=>?_⟩;(·rcases kK i b hb with⟨k,c,rfl,hc,rfl⟩|⟨hi,b0,dj,rfl⟩;(·have hr:=hW.MS k c hc;exact SJ DF (S6 (fun i hi=>hi) hr) (kJ k c hc) (fun g hg=>⟨rfl,eK g (Oi hr hg).1,(Oi hr hg).2.1⟩) hr);·refine X6 DE yj rfl (fI i ⟨b0,dj⟩) (fun g hg=>?_) (h.W.MS i b0 dj);obtain⟨g1,g2,g3⟩:=h.Pe dj hg;(have yw: ¬Pd (VX ν ids) (Nb ids s.bl ids P0) g:=by intro hf;obtain⟨j,c0,hj,iB,kB⟩:=Ue hf;exact h.W.ne i j b0 c0 (by rintro rfl;rw[hi]at hj;cases hj) dj iB g hg kB);refine⟨hk.block g g3 yw,fun _ vG=>?_⟩;rcases h2 g vG with h'|h'|h';(·exact g2 h');(·omega);·exact yw h');·(have AB: ∀(k:Nat)(c:L9)(j:Nat)(c0:L9),look k bl'=some c→LS j ids=false→look j s.bl=some c0→LZ (ν' k)=some g→LZ (ν j)=some g→False:=by intro k c j c0 hc hj iB vr kB;obtain⟨g1,g2,g3⟩:=h.Pe iB kB;rcases(Oi (hW.MS k c hc) vr).1 with h'|h';(·exact absurd g3 (Nat.not_lt.2 h'));·obtain⟨j',JO,kC,Gl,Gm⟩:=Ue h';exact h.W.ne j j' c0 JO (by rintro rfl;rw[hj]at kC;cases kC) iB Gl g kB Gm);rcases kK i b hi with⟨k,c1,rfl,qQ,_⟩|⟨JP,b0,dj,_⟩;(·rw[kJ k c1 qQ]at hg;rcases kK j c hj with⟨l,c2,rfl,Ah,_⟩|⟨Is,c0,iB,_⟩;(·rw[kJ l c2 Ah]at b9;exact hW.ne k l c1 c2 (fun e=>bT (by rw[e])) qQ Ah g hg b9);·rw[fI j ⟨c0,iB⟩]at b9;exact AB k c1 j c0 qQ Is iB hg b9);·rw[fI i ⟨b0,dj⟩]at hg;rcases kK j c hj with⟨l,c2,rfl,Ah,_⟩|⟨Is,c0,iB,_⟩;(·rw[kJ l c2 Ah]at b9;exact AB l c2 i b0 Ah JP dj b9 hg);·rw[fI j ⟨c0,iB⟩]at b9;exact h.W.ne i j b0 c0 bT dj iB g hg b9)
 (have Bo:(s.Ol d ids p bl').D=(⟨[],Oz s dd ids bl'⟩:St).D:=by unfold St.D;rw[dR]);refine⟨Qo ν ν' dd bl',⟨⟨hk.os.trans h.below.os,hk.tape.trans h.below.tape,hk.output.trans h.below.output,Nat.le_trans h.below.size hk.size,fun b hb hx=>?_,fun hd=>Nat.le_trans (h.below.drawn hd) (hk.drawn hd)⟩,fun b hb=>h1 b (h.XQ b hb),fun b hb=>?_,⟨mS.lt,mS.size,fun i b hb=>?_,fun i j b c bT hi hj=>?_⟩,fun t=>?_,?_,?_,h.TT,fun i hi mP=>?_,h.YS⟩⟩
 (·rw[hk.block b (Nat.lt_of_lt_of_le hb h.below.size) (fun hf=>?_),h.below.block b hb hx];rcases(vP b hf).1 with h'|h';(·omega);·exact hx h');(·rcases h2 b hb with h'|h';(·exact h.fresh b h');·exact .inr (eK b h'))
 (·rw[dR]at hb;rw[Bo];exact mS.MS i b hb);(·rw[dR]at hi hj;exact mS.ne i j b c bT hi hj);(·rw[Bo,cP t];have hold:ep ⟨Qo ν ν' dd bl',(⟨[],Oz s dd ids bl'⟩:St).D,w',⟨S',L4 w0 S0⟩⟩ ((s.get t).kill (M4 bl' ids P0)) (a.tmps.getD t undef):=UO DE yj (h.N9 t);cases d with|none=>exact hold|some e=>by_cases ht:t=e;(·subst ht;simp only[if_true];have JQ:=hd t rfl;(have:(a.put (some t) v).tmps.getD t undef=v:=by simp[Act.put,h.size,JQ]);rw[this];exact QP DF (Rx (fun i hi=>hi) hp) hp);·show ep _ (if t=e then p.ND (back ids dd)else(s.get t).kill (M4 bl' ids P0)) _;rw[if_neg ht];(have:(a.put (some e) v).tmps.getD t undef=a.tmps.getD t undef:=by simp only[Act.put,Array.getD_eq_getD_getElem?];rw[Array.getElem?_setIfInBounds_ne (by omega)]);rw[this];exact hold)
 (·rw[TS];exact h.size);(·rw[RS];exact h.defers);·rw[Bo]at mP;obtain⟨b,hb⟩:=mP;rcases kK i b hb with⟨k,c,rfl,hc,_⟩|⟨_,b0,dj,_⟩;(·rcases cR k c hc with⟨a1,a2,b0,a3⟩|⟨a1,_,a2,a3,a4⟩;(·rw[RY a1]at hi⊢;rw[fI _ ⟨b0,a3⟩];exact h.kept _ hi ⟨b0,a3⟩);·rw[S7 a1]at hi;omega);·rw[fI i ⟨b0,dj⟩];exact h.kept i hi ⟨b0,dj⟩
end
end Go.Proofs.YtgpkijnphchkpaaGreat
