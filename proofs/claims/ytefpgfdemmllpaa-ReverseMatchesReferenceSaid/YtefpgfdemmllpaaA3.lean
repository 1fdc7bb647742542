/-
  What a callee leaves that was handed local blocks. Nothing here is trusted; no condition.
-/
import Derived.Test.YtefpgfdemmllpaaA2
import Derived.Laws.Closers25b
import Derived.ChangeKeysEq
import Derived.Laws.BytesArg
import Derived.Lib.AppendZerosOnto
import Derived.MapKept
import Derived.Maps.RangeRun
set_option linter.unusedSimpArgs false
set_option linter.unusedVariables false
namespace Go.Proofs.Ytefpgfdemmllpaa
open Go.RowKit
theorem j9(k:IntKind) {n:Int} (h:k.min≤n∧n≤k.max):k.wrap n=n:=by obtain⟨h1,h2⟩:=h;cases k<;>simp[IntKind.min,IntKind.max,IntKind.wrap,IntKind.bits,IntKind.signed]at* <;>omega
theorem iz(k:IntKind):k.min≤0:=by cases k<;>decide
theorem mU(k:IntKind):0≤k.max:=by cases k<;>decide
theorem ka(P:Program)(w:World)(op:BinOp)(t:Nat)(x y:Operand)(k l:IntKind)(m n:Int):(eqGuard op t x y (.int k m) (.int l n)).run P w= .ok () w:=by
 unfold eqGuard;simp only[Sem.run_ite];split<;>rfl
theorem B2(P:Program)(w:World)(op:BinOp)(t:Nat)(x y:Operand)(m n:ByteArray):(eqGuard op t x y (.string m) (.string n)).run P w= .ok () w:=by
 unfold eqGuard;simp only[Sem.run_ite];split<;>rfl
theorem qh(P:Program)(w:World)(op:BinOp)(t:Nat)(x y:Operand)(m n:Bool):(eqGuard op t x y (.bool m) (.bool n)).run P w= .ok () w:=by
 unfold eqGuard;simp only[Sem.run_ite];split<;>rfl
theorem max_lt(k:IntKind):k.max<2^k.bits:=by cases k<;>decide
theorem kb(k:IntKind) {x:Int} (h0:0≤x)(h1:x≤k.max):(BitVec.ofInt k.bits x).toNat=x.toNat:=by
 have h2:=max_lt k;rw[BitVec.toNat_ofInt];have h3:x%((2^k.bits:Nat):Int)=x:=Int.emod_eq_of_lt h0 (by push_cast;omega);rw[h3]
theorem OH {E:Env} {c:Ctx} {op:BinOp} {k:IntKind} {x y:Int} {t:Nat} {w:World} {Kl:Out→Prop} (hx:k.min≤x∧x≤k.max)(hy:k.min≤y∧y≤k.max)(h:a8 E (oJ op k x y) Kl): ∃p v,Kl (.val p)∧ae c p v∧(binOp op t (.int k x) (.int k y)).run E.P w= .ok v w:=by
 have hmn:=iz k;(have vp: ∀(r:Int),(∃v,(binOp op t (.int k x) (.int k y)).run E.P w= .ok v w∧v= .int k (k.wrap r))→a8 E (arith k r) Kl→ ∃p v,Kl (.val p)∧ae c p v∧(binOp op t (.int k x) (.int k y)).run E.P w= .ok v w:=by rintro r⟨v,hv,rfl⟩⟨hr,hK⟩;exact⟨_,_,hK,cm hr,by rw[hv,j9 k hr]⟩)
 (have nJ: ∀(b:Bool),(binOp op t (.int k x) (.int k y)).run E.P w= .ok (.bool b) w→a8 E (fp b) Kl→ ∃p v,Kl (.val p)∧ae c p v∧(binOp op t (.int k x) (.int k y)).run E.P w= .ok v w:=by intro b hb hK;exact⟨_,_,hK,bI,hb⟩)
 cases op<;>simp only[oJ]at h;(case add=>exact vp _ ⟨_,by simp[binOp,Op.intArith],rfl⟩ h);(case sub=>exact vp _ ⟨_,by simp[binOp,Op.intArith],rfl⟩ h);(case mul=>exact vp _ ⟨_,by simp[binOp,Op.intArith],rfl⟩ h)
 (case quo=>obtain⟨⟨h0,h1⟩,hK⟩:=h;(have hq:k.min≤x/y∧x/y≤k.max:=by have e1:0≤x/y:=Int.ediv_nonneg h0 (by omega);have e2:x/y≤x:=Int.ediv_le_self _ h0;omega);refine⟨_,_,hK,cm hq,?_⟩;simp only[binOp,ne_eq,not_true_eq_false,if_false,Op.intDiv];rw[if_neg (by omega)];simp only[Sem.run_pure,Int.tdiv_eq_ediv_of_nonneg h0,j9 k hq])
 (case rem=>obtain⟨⟨h0,h1⟩,hK⟩:=h;(have hq:k.min≤x%y∧x%y≤k.max:=by have e1:0≤x%y:=Int.emod_nonneg _ (by omega);have e2:x%y<y:=Int.emod_lt_of_pos _ h1;omega);refine⟨_,_,hK,cm hq,?_⟩;simp only[binOp,ne_eq,not_true_eq_false,if_false,Op.intDiv];rw[if_neg (by omega)];simp only[Sem.run_pure,Int.tmod_eq_emod_of_nonneg h0])
 (case and=>obtain⟨⟨h0,h1⟩,hK⟩:=h;have e1:x.toNat &&& y.toNat≤x.toNat:=Nat.and_le_left;(have hr:k.min≤((x.toNat &&& y.toNat:Nat):Int)∧((x.toNat &&& y.toNat:Nat):Int)≤k.max:=by omega);refine⟨_,_,hK,cm hr,?_⟩;simp only[binOp,ne_eq,not_true_eq_false,if_false,Op.intBits,Sem.run_pure,BitVec.toNat_and,kb k h0 hx.2,kb k h1 hy.2,j9 k hr])
 (case or=>obtain⟨⟨h0,h1⟩,hK⟩:=h;(have hr:k.min≤((x.toNat ||| y.toNat:Nat):Int)∧((x.toNat ||| y.toNat:Nat):Int)≤k.max:=by refine⟨by omega,?_⟩;(have hp: ∃b:Nat,k.max=((2^b-1:Nat):Int):=by cases k;(·exact⟨7,by decide⟩);(·exact⟨15,by decide⟩);(·exact⟨31,by decide⟩);(·exact⟨63,by decide⟩);(·exact⟨8,by decide⟩);(·exact⟨16,by decide⟩);(·exact⟨32,by decide⟩);·exact⟨64,by decide⟩);obtain⟨b,hb⟩:=hp;have my:0<2^b:=Nat.two_pow_pos b;have:x.toNat ||| y.toNat<2^b:=Nat.or_lt_two_pow (by omega) (by omega);omega);refine⟨_,_,hK,cm hr,?_⟩;simp only[binOp,ne_eq,not_true_eq_false,if_false,Op.intBits,Sem.run_pure,BitVec.toNat_or,kb k h0 hx.2,kb k h1 hy.2,j9 k hr])
 (case lss=>exact nJ _ (by simp[binOp,Op.intCmp]) h);(case leq=>exact nJ _ (by simp[binOp,Op.intCmp]) h);(case gtr=>exact nJ _ (by simp[binOp,Op.intCmp]) h);(case geq=>exact nJ _ (by simp[binOp,Op.intCmp]) h)
 (case eql=>refine nJ _ ?_ h;simp only[binOp,ne_eq,not_true_eq_false,if_false,Op.intCmp,Sem.run_pure];rfl);(case neq=>refine nJ _ ?_ h;simp only[binOp,ne_eq,not_true_eq_false,if_false,Op.intCmp,Sem.run_pure];rfl)
 all_goals exact h.elim
theorem H3 {E:Env} {c:Ctx} {op:BinOp} {k l:IntKind} {x y:Int} {t:Nat} {w:World} {Kl:Out→Prop} (hx:k.min≤x∧x≤k.max)(h:a8 E (jx op k x y) Kl): ∃p v,Kl (.val p)∧ae c p v∧(binOp op t (.int k x) (.int l y)).run E.P w= .ok v w:=by
 have hmn:=iz k;cases op<;>simp only[jx]at h;(case shl=>obtain⟨⟨h0,h1⟩,hr,hK⟩:=h;refine⟨_,_,hK,cm hr,?_⟩;simp only[binOp,Op.shift];rw[if_neg (by omega)];(have e1:min y.toNat k.bits=y.toNat:=by omega);simp only[e1,Sem.run_pure,j9 k hr])
 (case shr=>obtain⟨⟨hx0,h0,h1⟩,hK⟩:=h;have my:(0:Int)<2^y.toNat:=Int.pow_pos (by omega);(have hq:k.min≤x/2^y.toNat∧x/2^y.toNat≤k.max:=by have e1:0≤x/2^y.toNat:=Int.ediv_nonneg hx0 (by omega);have e2:x/2^y.toNat≤x:=Int.ediv_le_self _ hx0;omega);refine⟨_,_,hK,cm hq,?_⟩;simp only[binOp,Op.shift];rw[if_neg (by omega)];(have e1:min y.toNat k.bits=y.toNat:=by omega);simp only[e1,Sem.run_pure];rw[Int.fdiv_eq_ediv_of_nonneg _ (by omega)])
 all_goals exact h.elim
theorem toList_mk(x:List UInt8):(⟨x.toArray⟩:ByteArray).toList=x:=by rw[ByteArray.toList_eq]
theorem Ak: ∀(x y:List UInt8),Op.bytesLess x y=bytesLess x y|_,[]=>(by simp[Op.bytesLess,bytesLess])|[],_::_=>(by simp[Op.bytesLess,bytesLess])|a::x,b::y=>by simp only[Op.bytesLess,bytesLess,Ak x y]
theorem OK {E:Env} {c:Ctx} {op:BinOp} {x y:List UInt8} {t:Nat} {w:World} {Kl:Out→Prop} (h:a8 E (oK op x y) Kl): ∃p v,Kl (.val p)∧ae c p v∧(binOp op t (.string ⟨x.toArray⟩) (.string ⟨y.toArray⟩)).run E.P w= .ok v w:=by
 cases op<;>simp only[oK]at h;(case add=>obtain⟨hl,hK⟩:=h;refine⟨_,_,hK,mQ (by rw[List.length_append];exact hl),?_⟩;(have e1:(⟨x.toArray⟩:ByteArray).size=x.length:=by simp[ByteArray.size]);(have e2:(⟨y.toArray⟩:ByteArray).size=y.length:=by simp[ByteArray.size]);(have e3:(⟨x.toArray⟩:ByteArray)++⟨y.toArray⟩=⟨(x++y).toArray⟩:=by apply ByteArray.ext;rw[ByteArray.data_append];simp);simp only[binOp,Op.stringOp,e1,e2,e3,Sem.run_ite];rw[if_neg (by simp[IntKind.max,IntKind.signed,IntKind.bits];omega)];rfl)
 (case eql=>refine⟨_,_,h,bI,?_⟩;(have e:(x==y)=decide (x=y):=by rw[Bool.eq_iff_iff];simp);simp only[binOp,Op.stringOp,toList_mk,Sem.run_pure,e]);(case neq=>refine⟨_,_,h,bI,?_⟩;(have e:(x==y)=decide (x=y):=by rw[Bool.eq_iff_iff];simp);simp only[binOp,Op.stringOp,toList_mk,Sem.run_pure,e])
 (case lss=>refine⟨_,_,h,bI,?_⟩;simp only[binOp,Op.stringOp,toList_mk,Sem.run_pure,Ak]);(case geq=>refine⟨_,_,h,bI,?_⟩;simp only[binOp,Op.stringOp,toList_mk,Sem.run_pure,Ak])
 all_goals exact h.elim
end Go.Proofs.Ytefpgfdemmllpaa
namespace Go.Proofs.Ytefpgfdemmllpaa
open Go.RowKit
section
variable {E:Env}
def jN(E:Env)(t:Nat):Ty→Prop|.int _=>True|.bool=>True|.str=>True|.st _=>E.cmp t=true|_=>False
theorem sd(hE:aI E) {t:Nat} (h:E.cmp t=true):(∃R,E.ty t=some (.st R))∧E.P.eqGuardType E.P.depth t=false∧((∃fs,E.P.underlying t=some (.struct fs)∧gR E.ty E.cmp fs.toList=true∧E.P.stoodInHeld t=false)∨ ∃m e,E.P.underlying t=some (.array m e)∧p8 E.ty E.cmp e=true):=by
 have h1:=hE.cmp t h;simp only[Ge,Bool.and_eq_true,Bool.not_eq_true']at h1;obtain⟨h1,h4⟩:=h1;split at h1;(·rename_i fs R hu hT;simp only[Bool.and_eq_true,Bool.not_eq_true']at h1;exact⟨⟨R,hT⟩,h4,.inl ⟨fs,hu,h1.1.1,h1.2⟩⟩)
 (·rename_i m e R hu hT;exact⟨⟨R,hT⟩,h4,.inr ⟨m,e,hu,h1⟩⟩);·cases h1
theorem H4(hE:aI E) {w:World} {M:Mem} {d:Nat} (ih: ∀(T:Ty)(t:Nat)(x y:T.den)(v u:Value)(r:Bool),cq E t T→jN E t T→cH T x w M v→cH T y w M u→jv T x y=some r→dep T≤d→(Op.equalIn (d+1) t v u).run E.P w= .ok r w): ∀(fs:List Field)(R:Ty)(off:Nat),bA E.ty fs R off=true→gR E.ty E.cmp fs=true→ ∀(x y:R.den)(r:Bool)(xs ys:Array Value),dep R≤d→off+R.cells≤xs.size→off+R.cells≤ys.size→aB R x w M ((xs.toList.drop off).take R.cells)→aB R y w M ((ys.toList.drop off).take R.cells)→jv R x y=some r→(Op.eqFields (d+1) xs ys fs).run E.P w= .ok r w:=by
 (have one: ∀(f:Field)(T:Ty)(off:Nat)(x y:T.den)(r:Bool)(xs ys:Array Value),Nat.beq f.offset off=true→mN E.ty f.type T=true→(match E.ty f.type with|some (.int _)=>true|some .bool=>true|some .str=>true|some (.st _)=>E.cmp f.type|_=>false)=true→dep T≤d→off+T.cells≤xs.size→off+T.cells≤ys.size→aB T x w M ((xs.toList.drop off).take T.cells)→aB T y w M ((ys.toList.drop off).take T.cells)→jv T x y=some r→ ∃v u,(Go.part f.type xs f.offset).run E.P w= .ok v w∧(Go.part f.type ys f.offset).run E.P w= .ok u w∧(Op.equalIn (d+1) f.type v u).run E.P w= .ok r w:=by intro f T off x y r xs ys h1 h2 hc hd hx hy Al ED hb;have kF:=Nat.eq_of_beq_eq_true h1;(have hT:E.ty f.type=some T:=by unfold mN at h2;split at h2;(·rename_i U hU;rw[Ty.cJ h2]at hU;exact hU);·cases h2);have hf:=hE.facts hT;rw[hT]at hc;(have hk:jN E f.type T:=by cases T<;>first|trivial|exact hc|cases hc);(have Gq: ∀(z:T.den)(vs:List Value),aB T z w M vs→cH T z w M (valOf T vs):=by intro z vs hr;have:=fM hf.val hr;have hv:=hf.val;cases T<;>first|exact this|cases hv);exact⟨_,_,by rw[kF];exact iy hf hx,by rw[kF];exact iy hf hy,ih T f.type x y _ _ r hf hk (Gq x _ Al) (Gq y _ ED) hb hd⟩)
 intro fs;induction fs with|nil=>intro R off h;cases h|cons f fs ihf=>intro R off h hc x y r xs ys hd hx hy Al ED hb;simp only[gR,Bool.and_eq_true]at hc;cases fs with|nil=>simp only[bA,Bool.and_eq_true]at h;obtain⟨⟨⟨⟨h1,h2⟩,h3⟩,h4⟩,h5⟩:=h;obtain⟨v,u,e1,e2,e3⟩:=one f R off x y r xs ys h1 h2 hc.1 hd hx hy Al ED hb;(have hn:f.name≠ "_" :=by simpa using h5);simp only[Op.eqFields];rw[if_pos hn];simp only[Sem.run_bind,e1,e2,e3,Result.andThen_ok,Sem.run_ite];cases r<;>simp|cons g gs=>cases R with|pair a b=>have h':=h;simp only[bA,Bool.and_eq_true]at h;obtain⟨⟨⟨⟨⟨h1,h2⟩,h3⟩,h4⟩,h5⟩,h6⟩:=h;simp only[jv]at hb;split at hb;(·rename_i p q hp hq;simp only[Option.some.injEq]at hb;(have hda:dep a≤d:=by simp only[dep]at hd;omega);(have hdb:dep b≤d:=by simp only[dep]at hd;omega);simp only[Ty.cells]at hx hy Al ED;obtain⟨va,vb,hv,D8,JE⟩:=Al;obtain⟨ua,ub,hu,TW,hsb⟩:=ED;(have split: ∀(zs:Array Value)(za zb:List Value),za.length=a.cells→zb.length=b.cells→(zs.toList.drop off).take (a.cells+b.cells)=za++zb→(zs.toList.drop off).take a.cells=za∧(zs.toList.drop (off+a.cells)).take b.cells=zb:=by intro zs za zb tg hlb he;constructor;(·have:=congrArg (List.take a.cells) he;rw[List.take_take,Nat.min_eq_left (by omega),←tg,List.take_left]at this;rw[←tg];exact this);·have:=congrArg (List.drop a.cells) he;rw[List.drop_take,List.drop_drop,←tg,List.drop_left]at this;rw[←tg];rw[show za.length+b.cells-za.length=b.cells from by omega]at this;exact this);obtain⟨e1,e2⟩:=split xs va vb (bx _ _ _ _ _ D8) (bx _ _ _ _ _ JE) hv;obtain⟨e3,e4⟩:=split ys ua ub (bx _ _ _ _ _ TW) (bx _ _ _ _ _ hsb) hu;obtain⟨v,u,f1,f2,f3⟩:=one f a off x.1 y.1 p xs ys h1 h2 hc.1 hda (by omega) (by omega) (by rw[e1];exact D8) (by rw[e3];exact TW) hp;have rest:=ihf b (off+a.cells) (by unfold bA;exact h6) hc.2 x.2 y.2 q xs ys hdb (by omega) (by omega) (by rw[e2];exact JE) (by rw[e4];exact hsb) hq;(have hn:f.name≠ "_" :=by simpa using h5);rw[Op.eqFields];rw[if_pos hn];simp only[Sem.run_bind,f1,f2,f3,Result.andThen_ok,Sem.run_ite];subst hb;cases p;(·simp);·simpa using rest);(·cases hb)|_=>simp only[bA]at h;cases h
theorem Kq(hE:aI E) {w:World} {M:Mem} {d:Nat} {e:Nat} {V:Ty} (hV:E.ty e=some V)(hc:p8 E.ty E.cmp e=true)(hdV:dep V≤d)(ih: ∀(T:Ty)(t:Nat)(x y:T.den)(v u:Value)(r:Bool),cq E t T→jN E t T→cH T x w M v→cH T y w M u→jv T x y=some r→dep T≤d→(Op.equalIn (d+1) t v u).run E.P w= .ok r w): ∀(m k:Nat)(x y:(rowOf V (m+1)).den)(r:Bool)(xs ys:Array Value),(k+(m+1))*V.cells≤xs.size→(k+(m+1))*V.cells≤ys.size→aB (rowOf V (m+1)) x w M ((xs.toList.drop (k*V.cells)).take ((m+1)*V.cells))→aB (rowOf V (m+1)) y w M ((ys.toList.drop (k*V.cells)).take ((m+1)*V.cells))→jv (rowOf V (m+1)) x y=some r→(Op.eqItems (d+1) e V.cells xs ys (List.range' k (m+1))).run E.P w= .ok r w:=by
 have hf:=hE.facts hV;(have hk:jN E e V:=by unfold p8 at hc;rw[hV]at hc;cases V<;>first|trivial|exact hc|cases hc);(have Gq: ∀(z:V.den)(vs:List Value),aB V z w M vs→cH V z w M (valOf V vs):=by intro z vs hr;have:=fM hf.val hr;have hv:=hf.val;cases V<;>first|exact this|cases hv)
 (have one: ∀(k:Nat)(x y:V.den)(r:Bool)(xs ys:Array Value),(k+1)*V.cells≤xs.size→(k+1)*V.cells≤ys.size→aB V x w M ((xs.toList.drop (k*V.cells)).take V.cells)→aB V y w M ((ys.toList.drop (k*V.cells)).take V.cells)→jv V x y=some r→ ∃v u,(Go.part e xs (k*V.cells)).run E.P w= .ok v w∧(Go.part e ys (k*V.cells)).run E.P w= .ok u w∧(Op.equalIn (d+1) e v u).run E.P w= .ok r w:=by intro k x y r xs ys hx hy Al ED hb;rw[Nat.add_mul,Nat.one_mul]at hx hy;exact⟨_,_,iy hf hx,iy hf hy,ih V e x y _ _ r hf hk (Gq x _ Al) (Gq y _ ED) hb hdV⟩)
 intro m;induction m with|zero=>intro k x y r xs ys hx hy Al ED hb;simp only[Nat.zero_add,Nat.one_mul]at Al ED;obtain⟨v,u,e1,e2,e3⟩:=one k x y r xs ys hx hy Al ED hb;rw[List.range'_succ,List.range'_zero];simp only[Op.eqItems,Sem.run_bind,e1,e2,e3,Result.andThen_ok,Sem.run_ite];cases r<;>simp|succ m ihm=>intro k x y r xs ys hx hy Al ED hb;simp only[rowOf,jv]at hb;split at hb;(·rename_i p q hp hq;simp only[Option.some.injEq]at hb;obtain⟨va,vb,hv,D8,JE⟩:=Al;obtain⟨ua,ub,hu,TW,hsb⟩:=ED;have tg:=bx _ _ _ _ _ D8;have hlb:=bx _ _ _ _ _ JE;have as0:=bx _ _ _ _ _ TW;have aC6:=bx _ _ _ _ _ hsb;(have split: ∀(zs:Array Value)(za zb:List Value),za.length=V.cells→(zs.toList.drop (k*V.cells)).take ((m+1+1)*V.cells)=za++zb→(zs.toList.drop (k*V.cells)).take V.cells=za∧(zs.toList.drop ((k+1)*V.cells)).take ((m+1)*V.cells)=zb:=by intro zs za zb tg he;have hle:V.cells≤(m+1+1)*V.cells:=Nat.le_mul_of_pos_left _ (by omega);constructor;(·have:=congrArg (List.take V.cells) he;rw[List.take_take,Nat.min_eq_left hle,←tg,List.take_left]at this;rw[←tg];exact this);·have:=congrArg (List.drop V.cells) he;rw[List.drop_take,List.drop_drop,←tg,List.drop_left,tg]at this;rw[show(m+1+1)*V.cells-V.cells=(m+1)*V.cells from by rw[Nat.add_mul (m+1) 1];omega,show k*V.cells+V.cells=(k+1)*V.cells from by rw[Nat.add_mul,Nat.one_mul]]at this;exact this);obtain⟨e1,e2⟩:=split xs va vb tg hv;obtain⟨e3,e4⟩:=split ys ua ub as0 hu;have hmul:(k+1)*V.cells≤(k+(m+1+1))*V.cells:=Nat.mul_le_mul_right _ (by omega);obtain⟨v,u,f1,f2,f3⟩:=one k x.1 y.1 p xs ys (by omega) (by omega) (by rw[e1];exact D8) (by rw[e3];exact TW) hp;have rest:=ihm (k+1) x.2 y.2 q xs ys (by rw[show k+1+(m+1)=k+(m+1+1)from by omega];exact hx) (by rw[show k+1+(m+1)=k+(m+1+1)from by omega];exact hy) (by rw[e2];exact JE) (by rw[e4];exact hsb) hq;rw[List.range'_succ];simp only[Op.eqItems,Sem.run_bind,f1,f2,f3,Result.andThen_ok,Sem.run_ite];subst hb;cases p;(·simp);·simpa using rest);·cases hb
theorem Kr(hE:aI E) {w:World} {M:Mem} : ∀(d:Nat)(T:Ty)(t:Nat)(x y:T.den)(v u:Value)(r:Bool),cq E t T→jN E t T→cH T x w M v→cH T y w M u→jv T x y=some r→dep T≤d→(Op.equalIn (d+1) t v u).run E.P w= .ok r w:=by
 intro d;induction d with|zero=>intro T t x y v u r hf hk hv hu hb hd;(cases T with|int k=>obtain⟨hv,_⟩:=hv;injection hv with hv;subst hv;obtain⟨hu,_⟩:=hu;injection hu with hu;subst hu;obtain⟨dd,hu,hs⟩:=hf.ow;(cases dd<;>first|cases hs|skip);rename_i k';simp only[jv,Option.some.injEq]at hb;subst hb;rw[run_equalIn_int _ _ _ _ _ _ _ hu];rfl|bool=>obtain⟨rfl⟩:=hv;obtain⟨rfl⟩:=hu;obtain⟨dd,hu,hs⟩:=hf.ow;(have nK:dd= .bool:=by cases dd<;>first|rfl|cases hs);subst nK;simp only[jv,Option.some.injEq]at hb;subst hb;exact run_equalIn_bool' _ _ _ _ _ hu|str=>obtain⟨hv,_⟩:=hv;injection hv with hv;subst hv;obtain⟨hu,_⟩:=hu;injection hu with hu;subst hu;obtain⟨dd,hu,hs⟩:=hf.ow;(have nK:dd= .string:=by cases dd<;>first|rfl|cases hs);subst nK;simp only[jv,Option.some.injEq]at hb;subst hb;rw[run_equalIn_string _ _ _ _ _ hu,toList_mk,toList_mk];(have e:(x==y)=decide (x=y):=by rw[Bool.eq_iff_iff];simp);rw[e]|st R=>simp only[dep]at hd;omega|_=>cases hk)|succ d ih=>intro T t x y v u r hf hk hv hu hb hd;cases T with|int k=>obtain⟨hv,_⟩:=hv;injection hv with hv;subst hv;obtain⟨hu,_⟩:=hu;injection hu with hu;subst hu;obtain⟨dd,hu,hs⟩:=hf.ow;(cases dd<;>first|cases hs|skip);rename_i k';simp only[jv,Option.some.injEq]at hb;subst hb;rw[run_equalIn_int _ _ _ _ _ _ _ hu];rfl|bool=>obtain⟨rfl⟩:=hv;obtain⟨rfl⟩:=hu;obtain⟨dd,hu,hs⟩:=hf.ow;(have nK:dd= .bool:=by cases dd<;>first|rfl|cases hs);subst nK;simp only[jv,Option.some.injEq]at hb;subst hb;exact run_equalIn_bool' _ _ _ _ _ hu|str=>obtain⟨hv,_⟩:=hv;injection hv with hv;subst hv;obtain⟨hu,_⟩:=hu;injection hu with hu;subst hu;obtain⟨dd,hu,hs⟩:=hf.ow;(have nK:dd= .string:=by cases dd<;>first|rfl|cases hs);subst nK;simp only[jv,Option.some.injEq]at hb;subst hb;rw[run_equalIn_string _ _ _ _ _ hu,toList_mk,toList_mk];(have e:(x==y)=decide (x=y):=by rw[Bool.eq_iff_iff];simp);rw[e]|st R=>obtain⟨⟨R',hT'⟩,_,ab4⟩:=sd hE hk;obtain⟨vs,rfl,Gq⟩:=hv;obtain⟨us,rfl,hru⟩:=hu;rcases ab4 with⟨fs,EE,Vg,gG⟩|⟨m,e,EE,Vg⟩;(case inr=>rcases hf.agg hE with⟨fs,vq,_⟩|⟨m',e',V,vq,hV,rfl,hVv,hV1,hm⟩;(·rw[EE]at vq;cases vq);·rw[EE]at vq;injection vq with vq;injection vq with h1 h2;subst h1;subst h2;obtain⟨i,hi,cP,_⟩:=(hE.facts hV).info;(have dT:E.P.cellsOf e=V.cells:=by simp[Program.cellsOf,hi,cP]);rw[run_equalIn_array w (d+1) vs.toArray us.toArray EE hi,dT,List.range_eq_range'];obtain⟨m,rfl⟩: ∃k,m=k+1:=⟨m-1,by omega⟩;(have hlen: ∀(V:Ty)(k:Nat),(rowOf V k).cells=k*V.cells:=by intro V k;induction k with|zero=>simp[rowOf,Ty.cells]|succ k ih=>cases k with|zero=>simp[rowOf]|succ k=>simp only[rowOf,Ty.cells,ih,Nat.add_mul];omega);(have OL: ∀(V:Ty)(k:Nat),dep V≤dep (rowOf V (k+1)):=by intro V k;cases k with|zero=>exact Nat.le_refl _|succ k=>simp only[rowOf,dep];omega);have l1:=bx _ _ _ _ _ Gq;have l2:=bx _ _ _ _ _ hru;rw[hlen]at l1 l2;have xN:=OL V m;simp only[dep]at hd;refine Kq hE hV Vg (by omega) ih m 0 x y r vs.toArray us.toArray (by simp[l1]) (by simp[l2]) ?_ ?_ hb;(·simpa[List.take_of_length_le (Nat.le_of_eq l1)]using Gq);·simpa[List.take_of_length_le (Nat.le_of_eq l2)]using hru);(have N8:E.P.fieldsOf t=fs:=by simp[Program.fieldsOf,EE]);(have ck:bA E.ty fs.toList R 0=true:=by obtain⟨dd,JF,hs⟩:=hf.ow;rw[EE]at JF;injection JF with JF;subst JF;exact hs);rw[run_equalIn_struct w (d+1) t vs.toArray us.toArray (by rw[N8];exact EE) gG,N8];have l1:=bx _ _ _ _ _ Gq;have l2:=bx _ _ _ _ _ hru;refine H4 hE ih fs.toList R 0 ck Vg x y r vs.toArray us.toArray (by simp only[dep]at hd;omega) (by simp[l1]) (by simp[l2]) ?_ ?_ hb;(·simpa[List.take_of_length_le (Nat.le_of_eq l1)]using Gq);(·simpa[List.take_of_length_le (Nat.le_of_eq l2)]using hru)|_=>cases hk
theorem tY {P:Program} (w:World)(d:Nat) {t e:TypeId} (x:Option Addr)(hu:P.underlying t=some (.pointer e)):(Op.equalIn (d+1) t (.pointer x) (.pointer none)).run P w= .ok x.isNone w:=by
 unfold Op.equalIn;cases x<;>simp[run_underlying hu]
theorem Ks(hE:aI E) {n:Nat} {w0:World} {S0:Cx} {s:St} {a:Act} {w:World} {ν:Nat→Value} {S:Nat→Prop} {F:cT} (h:Full n w0 S0 s a w ν S) {t:Nat} {neg:Bool} {p q:PV} {v u:Value} {xo yo:Operand} {Kl:Out→Prop} (hp:ae h.c p v)(hq:ae h.c q u)(ab:a8 E (mG E F s.bl t neg p q) Kl): ∃r v',Kl (.val r)∧ae h.c r v'∧(do eqGuard (if neg then .neq else .eql) t xo yo v u;binOp (if neg then .neq else .eql) t v u:Go.Sem Value).run E.P w= .ok v' w:=by
 unfold mG at ab;split at ab;(·rename_i T hT;split at ab;(·rename_i r rT;unfold Eh at rT;split at rT;(case h_2=>cases rT);rename_i U;split at rT;(case h_2=>cases rT);obtain⟨dd,H5,hs⟩:=(hE.facts hT).ow;(obtain⟨e,rfl⟩: ∃e,dd= .pointer e:=by cases dd<;>first|exact⟨_,rfl⟩|cases hs);simp only[ae]at hq;subst hq;(have fin: ∀(ad:Option Addr),v= .pointer ad→r=ad.isNone→ ∃r v',Kl (.val r)∧ae h.c r v'∧(do eqGuard (if neg then .neq else .eql) t xo yo v (.pointer none);binOp (if neg then .neq else .eql) t v (.pointer none):Go.Sem Value).run E.P w= .ok v' w:=by intro ad hv hr;subst hv;subst hr;have he:=tY (P:=E.P) w 9999 ad H5;refine⟨_,.bool (jy neg ad.isNone),ab,bI,?_⟩;cases neg<;>simp[eqGuard,binOp,Op.equal,Op.maxDepth,he,jy]);split at rT;(·simp only[ae]at hp;injection rT with rT;exact fin none hp rT.symm);(·simp only[ae,lz,cH,aB]at hp;obtain⟨_,g,ob,cs,hv,_⟩:=hp;simp only[List.cons.injEq,and_true]at hv;injection rT with rT;exact fin _ hv rT.symm);(·simp only[ae]at hp;obtain⟨_,g,ob,cs,hv,_⟩:=hp;injection rT with rT;exact fin _ hv rT.symm);(·simp only[ae]at hp;obtain⟨_,g,_,hv⟩:=hp;injection rT with rT;exact fin _ hv rT.symm);·cases rT);split at ab;(·rename_i x y hx hy Kt;split at ab;(·rename_i r hb;have hf:=hE.facts hT;have hR:Reads F s h.c ⟨fun b=>S b∨b<w.heap.size,aF w0 S0⟩:=⟨rfl,h.W.cc,fun b hb=>.inl hb,fun id _⟨b,hb⟩g hg=>.inr (h.gF hb hg).2.2⟩;have hv:=dZ hR (.inl hf.own) hx hp;have hu:=dZ hR (.inl hf.own) hy hq;cases T with|bool=>obtain⟨Kd⟩:=hv;obtain⟨nI⟩:=hu;obtain⟨dd,H5,hs⟩:=hf.ow;(have nK:dd= .bool:=by cases dd<;>first|rfl|cases hs);subst nK;simp only[jv,Option.some.injEq]at hb;subst hb;have he:=run_equalIn_bool' (P:=E.P) w 9999 t x y H5;refine⟨_,_,ab,bI,?_⟩;cases neg;(·simp only[Bool.false_eq_true,if_false,Sem.run_bind,qh,Result.andThen_ok,binOp,Op.equal,Op.maxDepth,he,Sem.run_pure,jy]);(·simp only[if_true,Sem.run_bind,qh,Result.andThen_ok,binOp,Op.equal,Op.maxDepth,he,Sem.run_pure,jy])|st R=>simp only[JZ,Bool.and_eq_true]at Kt;obtain⟨_,Ob,_⟩:=sd hE Kt.1;have OL:=Nat.le_of_ble_eq_true Kt.2;have he:(Op.equalIn 10000 t v u).run E.P w= .ok r w:=Kr hE 9999 (.st R) t x y v u r hf Kt.1 hv hu hb (by simp only[dep];omega);obtain⟨vs,rfl,_⟩:=hv;obtain⟨us,rfl,_⟩:=hu;refine⟨_,_,ab,bI,?_⟩;cases neg;(·simp only[Bool.false_eq_true,if_false,Sem.run_bind,run_eqGuard_agg (P:=E.P) w _ t xo yo _ _ Ob,Result.andThen_ok,run_eql_struct,he,jy]);(·simp only[if_true,Sem.run_bind,run_eqGuard_agg (P:=E.P) w _ t xo yo _ _ Ob,Result.andThen_ok,run_neq_struct,he,jy])|_=>cases Kt);·exact ab.elim);·exact ab.elim)
 ·exact ab.elim
end
end Go.Proofs.Ytefpgfdemmllpaa
namespace Go.Proofs.Ytefpgfdemmllpaa
open Go.RowKit
section
variable {E:Env} {n:Nat} {w0:World} {S0:Cx} {s:St} {a:Act} {w:World} {ν:Nat→Value} {S:Nat→Prop} {F:cT} {o:Oper} {K:St→Prop} {Q:Exit→Act→World→Prop}
theorem qi {P:Program} (w:World)(d:Nat) {t e:TypeId} (aa:Option Addr)(m cap:Nat)(hu:P.underlying t=some (.slice e)):(Op.equalIn (d+1) t (.slice aa m cap) (.slice none 0 0)).run P w= .ok aa.isNone w:=by
 unfold Op.equalIn;cases aa<;>simp[run_underlying hu]
theorem Ku(hE:aI E)(h:Full n w0 S0 s a w ν S)(ho:cd n o=true) {op:BinOp} {t:Nat} {x y:Operand} {t2:Nat} (aK:o.op= .binOp op t x y t2)(ab:a8 E (ai E F s o) (fun l=>K (s.fin o.dst l))):o.wp E.P a w (fun a' w'=> ∃s',K s'∧Rel n w0 S0 s' a' w') Q:=by
 simp only[ai,aK]at ab;have hx:=h.ev (aD ho (x:=x) (by simp[aK,Op.operands]));have hy:=h.ev (aD ho (x:=y) (by simp[aK,Op.operands]));(have fin: ∀(p:PV)(v:Value),K (s.fin o.dst (.val p))→ae h.c p v→(do eqGuard op t x y (a.eval x) (a.eval y);binOp op t (a.eval x) (a.eval y):Go.Sem Value).run E.P w= .ok v w→o.wp E.P a w (fun a' w'=> ∃s',K s'∧Rel n w0 S0 s' a' w') Q:=by intro p v hK hp hr;refine h.val ho (v:=v) ?_ hp hK;simp only[execOp,aK];rw[Sem.run_bind,hr];simp only[Result.andThen_ok,Sem.run_pure])
 (have ab5: ∀(neg:Bool)(oo:Out),op=(if neg then .neq else .eql)→lB E F t neg (s.ev x) (s.ev y)=some oo→a8 E oo (fun l=>K (s.fin o.dst l))→o.wp E.P a w (fun a' w'=> ∃s',K s'∧Rel n w0 S0 s' a' w') Q:=by intro neg oo Kv hn hK;unfold lB at hn;split at hn;(case h_2=>cases hn);rename_i EF;rw[EF]at hy;simp only[ae]at hy;split at hn;(case h_2=>cases hn);rename_i U hT;obtain⟨e,hu,_⟩:=(hE.facts hT).elem hE;(have aV: ∀(aa:Option Addr)(m cap:Nat),a.eval x= .slice aa m cap→(do eqGuard op t x y (a.eval x) (a.eval y);binOp op t (a.eval x) (a.eval y):Go.Sem Value).run E.P w= .ok (.bool (jy neg aa.isNone)) w:=by intro aa m cap hv;rw[hv,hy,Kv];have he:=qi (P:=E.P) w 9999 aa m cap hu;cases neg<;>simp[eqGuard,binOp,Op.equal,Op.maxDepth,he,jy]);split at hn;(·rename_i V xs vm;injection hn with hn;subst hn;rw[vm]at hx;simp only[ae]at hx;obtain⟨_,aa,cap,hv,hle,oN,cG⟩:=hx;injection hv with hv;refine fin _ _ (hK (jy neg aa.isNone) (fun hb=>?_)) bI (aV _ _ _ hv);rcases cG with rfl|⟨g,ob,rfl,_⟩;(·rfl);·cases neg<;>simp[jy]at hb);(·rename_i vm;injection hn with hn;subst hn;rw[vm]at hx;simp only[ae]at hx;exact fin _ _ hK bI (aV none 0 0 hx));·cases hn)
 split at ab;(·rename_i oo hn;unfold oL at hn;split at hn;(·exact ab5 false oo rfl hn ab);(·exact ab5 true oo rfl hn ab);·cases hn);simp only[xS]at ab;split at ab
 (·rename_i k m l m' vm EF;rw[vm]at hx;rw[EF]at hy;obtain⟨Ee,Al⟩:=bC hx;obtain⟨JM,ED⟩:=bC hy;split at ab;(·obtain⟨p,v,hK,hp,hr⟩:=H3 (c:=h.c) (l:=l) (t:=t) (w:=w) Al ab;refine fin p v hK hp ?_;simp only[Ee,JM,Sem.run_bind,ka,Result.andThen_ok,hr]);·split at ab;(·rename_i hk;have Ed:=dI hk;subst Ed;split at ab;(·rename_i Oc;(have Kv:op= .rem:=by simp only[Bool.and_eq_true]at Oc;cases op<;>first|rfl|exact absurd Oc.2 (by decide));subst Kv;obtain⟨h0,hK⟩:=ab;change Int at m;change Int at m';have h0:(0:Int)<m':=h0;(have hq:k.min≤Int.tmod m m'∧Int.tmod m m'≤k.max:=by have hmn:=iz k;have Vf:=mU k;rcases Int.le_total 0 m with hm|hm;(·rw[Int.tmod_eq_emod_of_nonneg hm];have e1:0≤m%m':=Int.emod_nonneg _ (by omega);have e2:m%m'<m':=Int.emod_lt_of_pos _ h0;omega);·obtain⟨q,rfl⟩: ∃q,m= -q:=⟨-m,by omega⟩;rw[Int.neg_tmod,Int.tmod_eq_emod_of_nonneg (by omega)];have e1:0≤q%m':=Int.emod_nonneg _ (by omega);(have e2:q%m'≤q:=by rcases Int.lt_or_le q m' with h'|h';(·rw[Int.emod_eq_of_lt (by omega) h'];exact Int.le_refl _);·have:=Int.emod_lt_of_pos q h0;omega);omega);refine fin _ (.int k (Int.tmod m m')) hK (cm hq) ?_;simp only[Ee,JM,Sem.run_bind,ka,Result.andThen_ok,binOp,ne_eq,not_true_eq_false,if_false,Op.intDiv];rw[if_neg (by omega)];rfl);split at ab;(·rename_i Oc;(have Kv:op= .quo:=by simp only[Bool.and_eq_true]at Oc;cases op<;>first|rfl|exact absurd Oc.2 (by decide));subst Kv;obtain⟨h0,hK⟩:=ab;change Int at m;change Int at m';have h0:(0:Int)<m':=h0;(have hq:k.min≤Int.tdiv m m'∧Int.tdiv m m'≤k.max:=by have hmn:=iz k;have Vf:=mU k;rcases Int.le_total 0 m with hm|hm;(·rw[Int.tdiv_eq_ediv_of_nonneg hm];have e1:0≤m/m':=Int.ediv_nonneg hm (by omega);have e2:m/m'≤m:=Int.ediv_le_self m' hm;omega);·obtain⟨q,rfl⟩: ∃q,m= -q:=⟨-m,by omega⟩;rw[Int.neg_tdiv,Int.tdiv_eq_ediv_of_nonneg (by omega)];have e1:0≤q/m':=Int.ediv_nonneg (by omega) (by omega);have e2:q/m'≤q:=Int.ediv_le_self m' (by omega);omega);refine fin _ (.int k (Int.tdiv m m')) hK (cm hq) ?_;simp only[Ee,JM,Sem.run_bind,ka,Result.andThen_ok,binOp,ne_eq,not_true_eq_false,if_false,Op.intDiv];rw[if_neg (by omega),j9 k hq];rfl);·obtain⟨p,v,hK,hp,hr⟩:=OH (c:=h.c) (t:=t) (w:=w) Al ED ab;refine fin p v hK hp ?_;simp only[Ee,JM,Sem.run_bind,ka,Result.andThen_ok,hr]);·exact ab.elim)
 (·rename_i m m' vm EF;rw[vm]at hx;rw[EF]at hy;obtain⟨Ee,Al⟩:=dK hx;obtain⟨JM,ED⟩:=dK hy;obtain⟨p,v,hK,hp,hr⟩:=OK (c:=h.c) (t:=t) (w:=w) ab;refine fin p v hK hp ?_;simp only[Ee,JM,Sem.run_bind,B2,Result.andThen_ok,hr])
 ·split at ab;(·obtain⟨r,v',hK,hr,aV⟩:=Ks hE h (neg:=false) (xo:=x) (yo:=y) hx hy ab;exact fin r v' hK hr aV);(·obtain⟨r,v',hK,hr,aV⟩:=Ks hE h (neg:=true) (xo:=x) (yo:=y) hx hy ab;exact fin r v' hK hr aV);·exact ab.elim
theorem OM(h:Full n w0 S0 s a w ν S)(ho:cd n o=true) {op:UnOp} {t:Nat} {x:Operand} (aK:o.op= .unOp op t x)(ab:a8 E (ai E F s o) (fun l=>K (s.fin o.dst l))):o.wp E.P a w (fun a' w'=> ∃s',K s'∧Rel n w0 S0 s' a' w') Q:=by
 simp only[ai,aK]at ab;have hx:=h.ev (aD ho (x:=x) (by simp[aK,Op.operands]));split at ab;(·rename_i b bS;rw[bS]at hx;have hv:=il hx;refine h.val ho ?_ bI ab;simp[execOp,aK,hv,Op.unary])
 (·rename_i k m bS;rw[bS]at hx;obtain⟨hv,_⟩:=bC hx;obtain⟨hr,hK⟩:=ab;refine h.val ho ?_ (cm hr) hK;simp only[execOp,aK,hv,Op.unary,Op.intArith,Sem.run_bind,Sem.run_pure,Result.andThen_ok,j9 k hr])
 ·exact ab.elim
theorem H6 {k l:IntKind} (h:widens k l=true) {x:Int} (hx:k.min≤x∧x≤k.max):l.min≤x∧x≤l.max:=by
 cases k<;>cases l<;>first|(simp[IntKind.min,IntKind.max,IntKind.signed,IntKind.bits]at*;omega)|cases h
theorem qj {w:World} {M:Mem} : ∀(xs:List Int)(vs:List Value),(∀i y,xs[i]?=some y→aB (.int .u8) y w M ((vs.drop i).take 1))→vs.length=xs.length→vs=xs.map (Value.int .u8)|[],vs,_,hl=>(by simpa using hl)|x::xs,[],_,hl=>(by simp at hl)|x::xs,v::vs,h,hl=>by obtain⟨h0,_⟩:=h 0 x rfl;simp at h0;subst h0;have:=qj xs vs (fun i y hy=>by simpa using h (i+1) y (by simpa using hy)) (by simpa using hl);rw[this];rfl
theorem Source.TX {T:Ty} {xs:List T.den} {w:World} {M:Mem} {a:Option Addr} {len cap:Nat} (h:aB (.sl T) xs w M [.slice a len cap]):len=xs.length∧ ∃news,Source w T.cells a xs.length news∧ ∀i y,xs[i]?=some y→aB T y w M ((news.drop (i*T.cells)).take T.cells):=by
 obtain⟨a',mL,hv,h1,h2,h3⟩:=h;injection hv with hv;injection hv with e1 e2 e3;subst e1;refine⟨e2,?_⟩;rcases h3 with rfl|⟨g,ob,rfl,hS,eD⟩;(·exact⟨[],⟨by simp,.inl rfl,by simp⟩,fun i y hy=>by simp at hy⟩)
 ·obtain⟨vs,hl,hc,qd,hr⟩:=nF xs eD;exact⟨vs,⟨hl,.inr ⟨_,rfl,fun j u hj=>by rw[dJ];exact hc j u hj⟩,qd⟩,hr⟩
theorem Full.content(h:Full n w0 S0 s a w ν S) {T:Ty} {p:PV} {xs:List T.den} {v:Value} (nD:aL T=0)(hx:gd F s.bl T p=some xs)(hp:ae h.c p v): ∃aa c news,v= .slice aa xs.length c∧Source w T.cells aa xs.length news∧ ∀i y,xs[i]?=some y→aB T y w ⟨S,aF w0 S0⟩ ((news.drop (i*T.cells)).take T.cells):=by
 (have own: ∀(id:Nat)(U:Ty)(ys:List U.den)(te:Option Nat),look id s.bl=some (.arr U ys te)→ ∀aa len cap,ν id= .slice aa len cap→len=ys.length∧ ∃news,Source w U.cells aa ys.length news∧ ∀i y,ys[i]?=some y→aB U y w ⟨S,aF w0 S0⟩ ((news.drop (i*U.cells)).take U.cells):=by intro id U ys te hl aa len cap cX;obtain⟨ik,pZ,u,hu,JJ,cG⟩:=h.W.cc _ _ hl;simp only[List.cons.injEq,and_true]at hu;rw[cX]at hu;subst hu;rcases cG with⟨hn,rfl⟩|⟨g,ob,mL,cur,e,vj,hle,TR,rS,hB,hh,gS,eD⟩;(·injection hn with e1 e2 e3;subst e1;subst e2;exact⟨rfl,[],⟨by simp,.inl rfl,by simp⟩,fun i y hy=>by simp at hy⟩);·injection vj with e1 e2 e3;subst e1;obtain⟨vs,BJ,hc,qd,hr⟩:=nF ys eD;exact⟨e2,vs,⟨BJ,.inr ⟨_,rfl,fun j u hj=>by rw[dJ];exact hc j u hj⟩,qd⟩,hr⟩)
 cases p with|iv U y=>simp only[gd]at hx;obtain⟨e,hx⟩:=Ty.aZ hx;subst e;simp only at hx;subst hx;simp only[ae]at hp;have cE:aB (.sl T) y w ⟨S,aF w0 S0⟩ [v]:=hp.2;obtain⟨aa,cap,hv,jF⟩:=cE;injection hv with hv;obtain⟨_,news,h1,h2⟩:=Source.TX (h:=(by rw[←hv];exact hp.2:aB (.sl T) y w ⟨S,aF w0 S0⟩ [.slice aa (List.length y) cap]));exact⟨aa,cap,news,hv,h1,h2⟩|aE id=>simp only[gd]at hx;split at hx;(·rename_i U ys te hl;obtain⟨hl,_⟩:=cj hl;obtain⟨e,hx⟩:=Ty.aZ hx;injection e with e;subst e;simp only at hx;subst hx;simp only[ae]at hp;obtain⟨hd,cX,aa,len,cap,hv⟩:=hp;simp only[Full.c]at cX;obtain⟨hlen,news,h1,h2⟩:=own id _ _ _ hl aa len cap (by rw[←cX,hv]);subst hlen;exact⟨aa,cap,news,hv,h1,h2⟩);(·cases hx)|iH id sz off len=>simp only[gd]at hx;split at hx;(·rename_i U ys te hl;obtain⟨hl,_⟩:=cj hl;split at hx;(case h_2=>cases hx);rename_i cP;have cP:=Nat.eq_of_beq_eq_true cP;obtain⟨e,hx⟩:=Ty.aZ hx;injection e with e;subst e;simp only at hx;subst hx;simp only[ae]at hp;obtain⟨hd,aa,m,cap,b,cX,hn,oN,hv,hb⟩:=hp;obtain⟨hlen,news,h1,h2⟩:=own id _ _ _ hl aa m cap cX;subst hlen;(have yC:((ys.drop off).take len).length=len:=by simp;omega);refine⟨b,cap-off,(news.drop (off*U.cells)).take (len*U.cells),by rw[yC];exact hv,⟨?_,?_,fun u hu=>h1.one u (List.mem_of_mem_drop (List.mem_of_mem_take hu))⟩,fun i y hy=>?_⟩;(·rw[yC,List.length_take,List.length_drop,h1.len];(have:off*U.cells+len*U.cells≤ys.length*U.cells:=by rw[←Nat.add_mul];exact Nat.mul_le_mul_right _ hn);omega);(·rw[yC];by_cases hz:len=0;(·exact .inl hz);·right;obtain⟨g,ob,ha,j5⟩:=hb (by omega);rcases h1.cells with h0|⟨ad,had,hc⟩;(·omega);·rw[ha]at had;injection had with had;subst had;refine⟨_,j5,fun j u hj=>?_⟩;(have N7:j<len*U.cells:=by rcases Nat.lt_or_ge j (len*U.cells)with h'|h';(·exact h');·rw[List.getElem?_eq_none (by rw[List.length_take];omega)]at hj;cases hj);rw[List.getElem?_take,if_pos N7,List.getElem?_drop]at hj;have:=hc _ u hj;rw[dJ]at this⊢;rw[cP,Nat.add_assoc];exact this);·(have hi:i<len:=by rcases Nat.lt_or_ge i len with h'|h';(·exact h');·rw[List.getElem?_eq_none (by omega)]at hy;cases hy);rw[List.getElem?_take,if_pos hi,List.getElem?_drop]at hy;have:=h2 _ y hy;rw[List.drop_take,List.drop_drop,List.take_take];(have e1:off*U.cells+i*U.cells=(off+i)*U.cells:=by rw[Nat.add_mul]);(have e2:U.cells≤len*U.cells-i*U.cells:=by have:(i+1)*U.cells≤len*U.cells:=Nat.mul_le_mul_right _ hi;rw[Nat.add_mul]at this;omega);rw[e1,Nat.min_eq_left e2];exact this);(·cases hx)|clip U y=>simp only[gd]at hx;obtain⟨e,hx⟩:=Ty.aZ hx;injection e with e;subst e;simp only at hx;subst hx;simp only[ae]at hp;obtain⟨_,⟨aa,m,rfl⟩,cE⟩:=hp;obtain⟨hlen,news,h1,h2⟩:=Source.TX (h:=(cE:aB (.sl U) y w ⟨S,aF w0 S0⟩ [.slice aa m m]));subst hlen;exact⟨aa,_,news,rfl,h1,h2⟩|bF=>simp only[gd,Option.some.injEq]at hx;subst hx;simp only[ae]at hp;exact⟨none,0,[],hp,⟨by simp,.inl rfl,by simp⟩,fun i y hy=>by simp at hy⟩|_=>simp only[gd]at hx;cases hx
theorem EG(hE:aI E)(h:Full n w0 S0 s a w ν S)(ho:cd n o=true) {t1 t:Nat} {x:Operand} (aK:o.op= .convert t1 t x)(ab:a8 E (ai E F s o) (fun l=>K (s.fin o.dst l))):o.wp E.P a w (fun a' w'=> ∃s',K s'∧Rel n w0 S0 s' a' w') Q:=by
 simp only[ai,aK,ov]at ab;have hx:=h.ev (aD ho (x:=x) (by simp[aK,Op.operands]));split at ab;(·rename_i k0 l Vd hT;obtain⟨d1,OA,hs1⟩:=(hE.facts Vd).ow;obtain⟨d2,H5,xY⟩:=(hE.facts hT).ow;(have th:d2= .int l:=by(cases d2<;>first|cases xY|skip);rename_i k';rw[dI xY]);subst th;split at ab;(·rename_i k m bS;rw[bS]at hx;obtain⟨hv,hr⟩:=bC hx;(have aV:(execOp a.eval o).run E.P w= .ok (.value (.int l (l.wrap m))) w:=by simp[execOp,aK,hv,convert,run_underlying OA,run_underlying H5,Conv.intToInt]);split at ab;(·rename_i hw;have gD:=H6 hw hr;rw[j9 l gD]at aV;exact h.val ho aV (cm gD) ab);·exact h.val ho aV (cm (wrap_within l m)) ab);·exact ab.elim)
 (·rename_i Vd hT;obtain⟨d1,OA,hs1⟩:=(hE.facts Vd).ow;obtain⟨d2,H5,xY⟩:=(hE.facts hT).ow;(have th:d2= .string:=by cases d2<;>first|rfl|cases xY);subst th;(have xN:d1= .string:=by cases d1<;>first|rfl|cases hs1);subst xN;split at ab;(·rename_i y bS;rw[bS]at hx;obtain⟨hv,hr⟩:=dK hx;refine h.val ho ?_ (mQ hr) ab;simp[execOp,aK,hv,convert,run_underlying OA,run_underlying H5]);·exact ab.elim)
 (·rename_i k Vd hT;split at ab;(·rename_i xs hk Ew;have hk:=dI hk;subst hk;obtain⟨e,OA,he,mP,_⟩:=(hE.facts Vd).elem hE;obtain⟨d2,H5,xY⟩:=(hE.facts hT).ow;(have th:d2= .string:=by cases d2<;>first|rfl|cases xY);subst th;obtain⟨d3,hu3,hs3⟩:=mP.ow;(have hd3:d3= .int .u8:=by(cases d3<;>first|cases hs3|skip);rename_i k';rw[dI hs3]);subst hd3;obtain⟨aa,c,news,hv,kV,cE⟩:=h.content (T:=.int .u8) rfl Ew hx;have ab6:=qj (M:=⟨S,aF w0 S0⟩) (w:=w) xs news (fun i y hy=>by simpa[Ty.cells]using cE i y hy) (by simpa[Ty.cells]using kV.len);(have yC:xs.length≤9223372036854775807:=by have hR:Reads F s h.c ⟨fun b=>S b∨b<w.heap.size,aF w0 S0⟩:=⟨rfl,h.W.cc,fun b hb=>.inl hb,fun id _⟨b,hb⟩g hg=>.inr (h.gF hb hg).2.2⟩;exact(fc _ _ _ _ _ (By hR Ew hx)).1);refine h.val ho (v:=.string ⟨(xs.map fun n:Int=>UInt8.ofNat n.toNat).toArray⟩) ?_ (mQ (by simpa using yC)) ab;(have ab7:(convert t1 t (a.eval x)).run E.P w= .ok (.string ⟨(xs.map fun n:Int=>UInt8.ofNat n.toNat).toArray⟩) w:=by rw[hv];rcases kV.cells with h0|⟨ad,rfl,hc⟩;(·have hxe:xs=[]:=List.eq_nil_of_length_eq_zero h0;subst hxe;cases aa with|none=>exact run_convert_bytes_nil w t1 e OA hu3 _ _ t H5|some ad=>rw[run_convert_bytes_string w t1 t e _ _ _ OA hu3 H5];simp[Conv.bytesToString,loadCells,loadCellsFrom];rfl);·rw[run_convert_bytes_string w t1 t e _ _ _ OA hu3 H5];have hl:=run_loadCells_list (P:=E.P) w ad news hc;rw[ab6,List.length_map]at hl;rw[run_bytesToString w ad xs.length c xs hl,foldl_push_bytes];simp[ByteArray.empty,ByteArray.emptyWithCapacity];rfl);simp only[execOp,aK,Sem.run_bind,ab7,Result.andThen_ok,Sem.run_pure]);·exact ab.elim)
 ·exact ab.elim
theorem mV {w:World} {M:Mem} : ∀(T:Ty)(vs:List Value),T.F7=true→cU T=some vs→aB T (de T) w M vs:=by
 intro T;induction T with|unit=>intro vs _ h;simp only[cU,Option.some.injEq]at h;subst h;rfl|int k=>intro vs _ h;simp only[cU,Option.some.injEq]at h;subst h;exact⟨rfl,iz k,mU k⟩|bool=>intro vs _ h;simp only[cU,Option.some.injEq]at h;subst h;rfl|str=>intro vs _ h;simp only[cU,Option.some.injEq]at h;subst h;exact⟨rfl,by simp[de]⟩|sl t=>intro vs _ h;simp only[cU,Option.some.injEq]at h;subst h;exact⟨none,0,rfl,Nat.le_refl _,by omega,.inl rfl⟩|own t=>intro vs hz h;cases hz|bk a b=>intro vs hz h;cases hz|ptr t=>intro vs hz h;cases hz|iF f t=>intro vs hz h;cases hz|mp a b=>intro vs _ h;simp only[cU,Option.some.injEq]at h;subst h;exact⟨by simp[de],.inl ⟨rfl,rfl⟩⟩|ba=>intro vs hz h;cases hz|st t ih=>intro vs hz h;exact ih vs hz h|pair a b gE fK=>intro vs hz h;simp only[Ty.F7,Bool.and_eq_true]at hz;simp only[cU]at h;split at h;(·rename_i x y hx hy;simp only[Option.some.injEq]at h;subst h;exact⟨x,y,rfl,gE x hz.1 hx,fK y hz.2 hy⟩);·cases h
theorem xZ (z : Array Value) (n i : Nat) (hi : i < n) : ((Builtin.zeroCells z n).toList.drop (i * z.size)).take z.size = z.toList := by
  apply List.ext_getElem?
  intro j
  rw [List.getElem?_take]
  by_cases hj : j < z.size
  · rw [if_pos hj, List.getElem?_drop]
    have cM : i * z.size + j < n * z.size := by
      calc i * z.size + j < i * z.size + z.size := by omega
        _ = (i + 1) * z.size := by rw [Nat.add_mul]; omega
        _ ≤ n * z.size := Nat.mul_le_mul_right _ hi
    have Vh : (i * z.size + j) % z.size = j := by
      rw [Nat.add_comm, Nat.add_mul_mod_self_right, Nat.mod_eq_of_lt hj]
    simp only [Builtin.zeroCells, Array.getElem?_toList, Array.getElem?_map]
    rw [Array.getElem?_eq_getElem (by simpa using cM)]
    simp only [Option.map_some, Array.getElem_range, Vh]
    rw [getElem!_pos z j hj, Array.getElem?_eq_getElem hj]
  · rw [if_neg hj, List.getElem?_eq_none (by rw [Array.length_toList]; omega)]
theorem EH {te el:Option Nat} {w:World} {v u:Value} (h:fw te w v)(hv:u=v) {t':Nat} (hk:F9 te el=some t'):fw (some t') w u∧el=some t':=by
 unfold F9 at hk;split at hk;(·rename_i a b;split at hk;(·rename_i mr;injection hk with hk;subst hk;rw[hv];exact⟨h,by rw[Nat.eq_of_beq_eq_true mr]⟩);·cases hk);·cases hk
theorem H7 (hE : aI E) (h : Full n w0 S0 s a w ν S) (ho : cd n o = true) {c : Call} (aK : o.op = .call c) (jO : c.callee = .builtin .append) (ab : a8 E (ai E F s o) (fun l => K (s.fin o.dst l))) : o.wp E.P a w (fun a' w' => ∃ s', K s' ∧ Rel n w0 S0 s' a' w') Q := by
  obtain ⟨callee, args, argTypes⟩ := c
  simp only at jO
  subst jO
  simp only [ai, aK] at ab
  split at ab
  · rename_i t u p q d ik bS hd
    split at ab
    · rename_i T hT
      obtain ⟨xo, yo, kc⟩ : ∃ xo yo, args = #[xo, yo] := by
        have hl : args.toList.length = 2 := by have := congrArg List.length bS; rw [qc, List.length_map] at this; simpa using this
        match hh : args.toList, hl with
        | [xo, yo], _ => exact ⟨xo, yo, Array.toList_inj.1 (by rw [hh])⟩
      subst kc
      simp only [b7, List.cons.injEq, and_true] at bS
      obtain ⟨hp, hq⟩ := bS
      have JL : argTypes = #[t, u] := Array.toList_inj.1 (by rw [ik])
      subst JL
      have hx := h.ev (aD ho (x := xo) (by simp [aK, Op.operands, Call.operands]))
      have hy := h.ev (aD ho (x := yo) (by simp [aK, Op.operands, Call.operands]))
      rw [hp] at hx
      rw [hq] at hy
      obtain ⟨e, hu, he, mP, og, my⟩ := (hE.facts hT).elem hE
      have nD := mP.own
      have aV : ∀ v' w', (Builtin.append_ #[t, u] o.type #[a.eval xo, a.eval yo]).run E.P w = .ok v' w' → (execOp a.eval o).run E.P w = .ok (.value v') w' := by
        intro v' w' hr
        simp [execOp, aK, resolve, invoke, builtin, hr]
      -- the source
      have src : ∀ ys, lC E F s.bl T t u q = some ys → ∃ news, Src E.P T.cells u (a.eval yo) ys.length news w ∧ ∀ i y, ys[i]? = some y → aB T y w ⟨S, aF w0 S0⟩ ((news.drop (i * T.cells)).take T.cells) := by
        intro ys mB
        simp only [lC] at mB
        split at mB
        · rename_i htu
          have htu := Nat.eq_of_beq_eq_true htu
          subst htu
          obtain ⟨aa, c, news, hv, h1, h2⟩ := h.content nD mB hy
          exact ⟨news, by rw [hv]; exact h1.src hu c, h2⟩
        · split at mB
          · rename_i hU
            split at mB
            · split at mB
              · rename_i k hk z Vi
                have Vi := dI Vi
                subst Vi
                simp only [Option.some.injEq] at mB
                subst mB
                obtain ⟨hv, hl⟩ := dK hy
                obtain ⟨dd, ON, Bn⟩ := (hE.facts hU).ow
                have nK : dd = .string := by cases dd <;> first | rfl | cases Bn
                subst nK
                have hs := Src.ofString (w := w) ON (⟨z.toArray⟩ : ByteArray)
                have cP : (⟨z.toArray⟩ : ByteArray).size = z.length := by simp [ByteArray.size]
                have hbc : byteCells ⟨z.toArray⟩ = z.map fun c => Value.int .u8 (c.toNat : Int) := by simp [byteCells]
                rw [cP, hbc] at hs
                refine ⟨_, by rw [hv, List.length_map]; exact hs, fun i y hy => ?_⟩
                rw [List.getElem?_map] at hy
                cases hz : z[i]? with
                | none => rw [hz] at hy; cases hy
                | some c =>
                  rw [hz] at hy
                  simp only [Option.map_some, Option.some.injEq] at hy
                  subst hy
                  have hi : i < z.length := (List.getElem?_eq_some_iff.1 hz).1
                  have hd : ((z.map fun c => Value.int .u8 (c.toNat : Int)).drop i).take 1 = [Value.int .u8 (c.toNat : Int)] := by
                    rw [List.drop_eq_getElem_cons (by rw [List.length_map]; exact hi)]
                    simp only [List.getElem_map, List.take_succ_cons, List.take_zero]
                    rw [(List.getElem?_eq_some_iff.1 hz).2]
                  simp only [Ty.cells, Nat.mul_one]
                  rw [hd]
                  have := UInt8.toNat_lt c
                  exact ⟨rfl, by show (0 : Int) ≤ _; omega, by show (_ : Int) ≤ 255; omega⟩
              · cases mB
            · cases mB
          · cases mB
      -- onto a local array, of which a part may be taken
      have ab8 : ∀ (id j : Nat) (xs ys : List T.den) (v : Value) (zs : List T.den) (te tf : Option Nat), look id s.bl = some (.arr T zs te) → (∀ t', tf = some t' → fw (some t') w v ∧ E.D5 t = some t') → j < P0 → (j = id ∨ look j s.bl = none) → lC E F s.bl T t u q = some ys → a.eval xo = v → aB (.own T) xs w ⟨S, aF w0 S0⟩ [v] → (∀ g, aq v = some g → aq (ν id) = some g) → xs.length + ys.length ≤ 1099511627776 → K (s.fin o.dst (.append id j (.arr T (xs ++ ys) tf))) →
          o.wp E.P a w (fun a' w' => ∃ s', K s' ∧ Rel n w0 S0 s' a' w') Q := by
        intro id j xs ys v zs te tf hl htf hj Ep mB hv ix x5 hlen hK
        obtain ⟨news, kV, cE⟩ := src ys mB
        obtain ⟨v', w', hr, qk, oR, OO, tZ, Vj⟩ := jH hE (ty := o.type) hT nD ix h.W.lt h.W.size kV cE hlen
        refine cD (aV v' w' (by rw [hv]; exact hr)) ⟨_, hK, ?_⟩
        simp only [St.fin, hd]
        have as1 : dD w w' (aq (ν id)) := by
          refine ⟨oR.os, oR.tape, oR.output, oR.size, fun k hk cu => oR.block k hk (fun e => cu (by rw [x5 k e.symm])), oR.drawn⟩
        refine (h.app (v' := v') (bq ho d hd) hl hj Ep as1 OO (fun g hg => ?_) (b' := .arr T (xs ++ ys) tf) (fun D => ⟨?_, nD, by simpa using qk⟩)).rel
        rotate_left
        · cases as2 : tf with
          | none => exact cF _ _
          | some t' =>
            obtain ⟨g1, g2⟩ := htf t' as2
            exact (Vj t' (hE.D5 t t' g2) g1).iY (by simp) fun _ _ => rfl
        rcases tZ g hg with hf | hf
        · exact .inl (x5 g hf)
        · exact .inr hf
      -- whichever name it has
      have TY : ∀ (id : Nat) (xs ys : List T.den) (v : Value) (zs : List T.den) (r : Prop) (te tf : Option Nat), look id s.bl = some (.arr T zs te) → (∀ t', tf = some t' → fw (some t') w v ∧ E.D5 t = some t') → lC E F s.bl T t u q = some ys → a.eval xo = v → aB (.own T) xs w ⟨S, aF w0 S0⟩ [v] → (∀ g, aq v = some g → aq (ν id) = some g) → (r → xs.length + ys.length ≤ 1099511627776) →
          a8 E (match Nat.ble P0 id with | false => .b9 r (.append id id (.arr T (xs ++ ys) tf)) | true => match look d s.bl with | none => .b9 r (.append id d (.arr T (xs ++ ys) tf)) | some _ => .fail 70) (fun l => K (s.fin o.dst l)) →
          o.wp E.P a w (fun a' w' => ∃ s', K s' ∧ Rel n w0 S0 s' a' w') Q := by
        intro id xs ys v zs r te tf hl htf mB hv ix x5 hlen hK
        split at hK
        · rename_i hb
          have hj : id < P0 := by
            rcases Nat.lt_or_ge id P0 with h' | h'
            · exact h'
            · rw [Nat.ble_eq_true_of_le h'] at hb; cases hb
          exact ab8 id id xs ys v zs te tf hl htf hj (.inl rfl) mB hv ix x5 (hlen hK.1) hK.2
        · split at hK
          · rename_i hn
            have hj : d < P0 := Nat.lt_of_lt_of_le (bq ho d hd) (Nat.le_trans h.Aa (by decide))
            exact ab8 id d xs ys v zs te tf hl htf hj (.inr hn) mB hv ix x5 (hlen hK.1) hK.2
          · exact hK.elim
      -- onto a part without room: a new array
      have ab9 : ∀ (id : Nat) (r : Prop) (ys : List T.den) (b : Option Addr) (zs : List T.den) (te : Option Nat), look id s.bl = some (.arr T zs te) → lC E F s.bl T t u q = some ys → a.eval xo = .slice b 0 0 → ys ≠ [] → ys.length ≤ 1099511627776 →
          a8 E (match Nat.ble P0 id with | false => .b9 r (.append id id (.arr T ys)) | true => match look d s.bl with | none => .b9 r (.append id d (.arr T ys)) | some _ => .fail 70) (fun l => K (s.fin o.dst l)) →
          o.wp E.P a w (fun a' w' => ∃ s', K s' ∧ Rel n w0 S0 s' a' w') Q := by
        intro id r ys b zs te hl mB hv cu hlen hK
        obtain ⟨news, kV, cE⟩ := src ys mB
        obtain ⟨v', w', hr, qk, oR, OO, tZ⟩ := iK hE (ty := o.type) hT nD (xs := []) (a := b) (m := 0) ⟨b, 0, rfl, Nat.le_refl _, by omega, .inl rfl⟩ h.W.lt h.W.size kV cE cu (by simpa using hlen)
        have fin : ∀ j, j < P0 → (j = id ∨ look j s.bl = none) → K (s.fin o.dst (.append id j (.arr T ys))) → o.wp E.P a w (fun a' w' => ∃ s', K s' ∧ Rel n w0 S0 s' a' w') Q := by
          intro j hj Ep hK
          refine cD (aV v' w' (by rw [hv]; exact hr)) ⟨_, hK, ?_⟩
          simp only [St.fin, hd]
          exact (h.app (v' := v') (bq ho d hd) hl hj Ep ⟨oR.os, oR.tape, oR.output, oR.size, fun k hk _ => oR.block k hk (by simp), oR.drawn⟩ OO (fun g hg => .inr (tZ g hg)) (b' := .arr T ys) (fun D => ⟨cF _ _, nD, by simpa using qk⟩)).rel
        split at hK
        · rename_i hb
          have hj : id < P0 := by
            rcases Nat.lt_or_ge id P0 with h' | h'
            · exact h'
            · rw [Nat.ble_eq_true_of_le h'] at hb; cases hb
          exact fin id hj (.inl rfl) hK.2
        · split at hK
          · rename_i hn
            have hj : d < P0 := Nat.lt_of_lt_of_le (bq ho d hd) (Nat.le_trans h.Aa (by decide))
            exact fin d hj (.inr hn) hK.2
          · exact hK.elim
      split at ab
      · rename_i hint
        split at ab
        · rename_i k m zc ql N9 hl
          obtain ⟨⟨h0, h1⟩, hK⟩ := ab
          change Int at m
          have h0 : (0 : Int) < m := h0
          have h1 : m ≤ (1073741824 : Int) := h1
          obtain ⟨kn, hun⟩ : ∃ kn, E.P.underlying u = some (.int kn) := by
            cases hU : E.ty u with
            | none => rw [hU] at hint; cases hint
            | some U =>
              rw [hU] at hint
              cases U with
              | int kn =>
                obtain ⟨dd, ON, Bn⟩ := (hE.facts hU).ow
                cases dd <;> first | exact ⟨_, ON⟩ | cases Bn
              | _ => cases hint
          obtain ⟨JM, _⟩ := bC hy
          simp only [ae] at hx
          obtain ⟨i, hi, cP, TS, BP, z, hz, Eb⟩ := mP.info
          obtain ⟨zv, JI, _, _⟩ := mR (c := h.c) T zc N9
          rw [hz] at BP
          have Am := jJ BP JI
          have hm : m = ((m.toNat : Nat) : Int) := by omega
          have hb : m.toNat * i.bytes ≤ 140737488355328 := by
            calc m.toNat * i.bytes ≤ 1099511627776 * 128 := Nat.mul_le_mul (by omega) TS
              _ = 140737488355328 := by decide
          have Kw := _root_.Go.Lib.run_append_grow_zeros (P := E.P) w t u o.type e i z k kn hu hun hi hz none 0 0 [] (run_firstCells_none _ _ _ _ _) m.toNat (by omega) (by rw [cP]; omega) (by omega) (by omega) (by omega) (growslice_fits (by omega) (by simpa using hb))
          simp only [Nat.zero_add] at Kw
          rw [← hm] at Kw
          have hrz := mV (w := w) (M := ⟨S, aF w0 S0⟩) T zv ql JI
          have hg := r7 (E := E) (e := e) (w := w) (M := ⟨S, aF w0 S0⟩) (zs := List.replicate m.toNat (de T)) Eb nD h.W.lt h.W.size (by rw [List.length_replicate]; omega) (Builtin.zeroCells z.cells m.toNat).toList (by rw [List.length_replicate, Array.length_toList, Gh, Eb]) (fun i y hy => by
            rw [List.getElem?_replicate] at hy
            split at hy
            · rename_i hj
              simp only [Option.some.injEq] at hy
              subst hy
              rw [← Eb, xZ _ _ _ hj, Am]
              exact hrz
            · cases hy) 0
          simp only [List.length_replicate] at hg
          refine cD (aV _ _ (by rw [hx, JM]; exact Kw)) ⟨_, hK, ?_⟩
          simp only [St.fin, hd]
          refine h.r9 (bq ho d hd) hl nD ⟨rfl, rfl, rfl, by simp, fun k hk _ => Below.heap_alloc w.drew _ k hk, fun _ => Nat.le_succ _⟩ ⟨_, _, _, rfl⟩ (fun g hg => by injection hg with hg; simp at hg; omega) ?_ (cF _ _)
          have Gr : (([] : List Value).toArray ++ Builtin.zeroCells z.cells m.toNat) = (Builtin.zeroCells z.cells m.toNat).toList.toArray := by simp
          rw [Gr]
          exact hg
        · exact ab.elim
      split at ab
      · unfold dg at ab
        split at ab
        · rename_i ys U zs mB hl
          split at ab
          · rename_i xs jM
            obtain ⟨e', kR⟩ := Ty.aZ jM
            injection e' with e'
            subst e'
            simp only at kR
            subst kR
            simp only [ae] at hx
            obtain ⟨_, ⟨aa, m, hv⟩, B3⟩ := hx
            obtain ⟨news, kV, cE⟩ := src ys mB
            obtain ⟨⟨cu, hlen⟩, hK⟩ := ab
            rw [hv] at B3
            obtain ⟨v', w', hr, qk, oR, OO, tZ⟩ := iK hE (ty := o.type) hT nD B3 h.W.lt h.W.size kV cE cu hlen
            refine cD (aV v' w' (by rw [hv]; exact hr)) ⟨_, hK, ?_⟩
            simp only [St.fin, hd]
            exact h.r9 (bq ho d hd) hl nD oR OO tZ qk (cF _ _)
          · exact ab.elim
        · exact ab.elim
      cases ea : nA F s.bl T d p (lC E F s.bl T t u q) (E.D5 t) with
      | b9 r ac0 =>
        rw [ea] at ab
        simp only [nA] at ea
        split at ea
        case h_2 => cases ea
        rename_i ys mB
        split at ea
        · injection ea with e1 e2
          subst e1; subst e2
          simp only at ab
          split at ab
          · rename_i hl
            obtain ⟨hlen, hK⟩ := ab
            simp only [ae] at hx
            obtain ⟨news, kV, cE⟩ := src ys mB
            have ix : aB (.own T) ([] : List T.den) w ⟨S, aF w0 S0⟩ [.slice none 0 0] := ⟨_, rfl, by simp, .inl ⟨rfl, rfl⟩⟩
            obtain ⟨v', w', hr, qk, oR, OO, tZ, Vj⟩ := jH hE (ty := o.type) hT nD ix h.W.lt h.W.size kV cE (by simpa using hlen)
            refine cD (aV v' w' (by rw [hx]; exact hr)) ⟨_, hK, ?_⟩
            simp only [St.fin, hd]
            exact h.r9 (bq ho d hd) hl nD oR OO (fun g hg => by rcases tZ g hg with hf | hf; cases hf; exact hf) (by simpa using qk) (by
              cases hem : E.D5 t with
              | none => exact cF _ _
              | some t' => exact Vj t' (hE.D5 t t' hem) (fun t2 _ g hg => by cases hg))
          · exact ab.elim
        · split at ea <;> cases ea
        · rename_i id
          split at ea
          · rename_i U zs te hl
            obtain ⟨hl, _⟩ := cj hl
            split at ea
            · rename_i xs jM
              obtain ⟨e', kR⟩ := Ty.aZ jM
              injection e' with e'
              subst e'
              simp only at kR
              subst kR
              injection ea with e1 e2
              subst e1; subst e2
              simp only [ae] at hx
              obtain ⟨ik, _, hb⟩ := h.W.cc _ _ hl
              have cX : a.eval xo = ν id := hx.2.1
              exact TY id _ ys _ _ _ _ _ hl (fun t' Ac => EH ik rfl Ac) mB cX hb (fun g hg => hg) (fun h => h) ab
            · cases ea
          · cases ea
        · rename_i id sz off len
          split at ea
          · rename_i U zs te hl
            obtain ⟨hl, _⟩ := cj hl
            split at ea
            · rename_i xs jM cP
              have cP := Nat.eq_of_beq_eq_true cP
              obtain ⟨e', kR⟩ := Ty.aZ jM
              injection e' with e'
              subst e'
              simp only at kR
              subst kR
              injection ea with e1 e2
              subst e1; subst e2
              simp only [ae] at hx
              obtain ⟨nK, aa, m, cap, b, cX, hn, oN, hv, hb⟩ := hx
              obtain ⟨ik, pZ, u, nI, JJ, cG⟩ := h.W.cc _ _ hl
              simp only [List.cons.injEq, and_true] at nI
              simp only [Full.c] at cX
              rw [cX] at nI
              subst nI
              have as3 : (off < zs.length ∨ off = zs.length ∧ len = 0 ∧ ys ≠ []) ∧ len + ys.length ≤ 1099511627776 := by
                simp only at ab
                split at ab
                · exact ab.1
                · split at ab
                  · exact ab.1
                  · exact ab.elim
              by_cases kF : off < cap
              case neg =>
                have hzm : zs.length = m := by
                  rcases cG with ⟨oh, rfl⟩ | ⟨g, ob, mL, cur, e', vj, _⟩
                  · injection oh with _ h2 _; simp [h2]
                  · injection vj with _ h2 _; exact h2.symm
                obtain ⟨h1, h2⟩ := as3
                rcases h1 with h1 | ⟨h1, h3, h4⟩
                · omega
                subst h3
                have ac1 : cap - off = 0 := by omega
                rw [ac1] at hv
                rw [List.take_zero, List.nil_append] at ab
                exact ab9 id _ ys b zs te hl mB hv h4 (by omega) ab
              rcases cG with ⟨oh, rfl⟩ | ⟨g, ob, mL, cur, e', vj, hle, TR, rS, hB, hh, gS, eD⟩
              · injection oh with _ _ h3
                omega
              · injection vj with e1 e2 e3
                subst e1; subst e2; subst e3
                obtain ⟨g', ob', ha, j5⟩ := hb (by omega)
                injection ha with ha
                injection ha with Vk H8
                subst Vk; subst H8
                have yC : ((zs.drop off).take len).length = len := by simp; omega
                refine TY id _ ys (a.eval xo) zs _ _ none hl (fun _ h => by cases h) mB rfl ?_ (fun g'' ac2 => ?_) (fun hr => by rw [yC]; exact hr.2) ab
                · rw [hv, j5]
                  refine ⟨_, rfl, by rw [yC]; omega, .inr ⟨g, ob + off * sz, cap - off, cur, e', by rw [yC], by rw [yC]; omega, by omega, rS, hB, hh, ?_, fun i y hy => ?_⟩⟩
                  · rw [cP, Nat.add_assoc, ← Nat.add_mul, show off + (cap - off) = cap from by omega]
                    exact gS
                  · have hi : i < len := by
                      rcases Nat.lt_or_ge i len with h' | h'
                      · exact h'
                      · rw [List.getElem?_eq_none (by omega)] at hy; cases hy
                    rw [List.getElem?_take, if_pos hi, List.getElem?_drop] at hy
                    obtain ⟨cs, h1, h2, h3⟩ := eD _ y hy
                    refine ⟨cs, h1, ?_, h3⟩
                    rw [cP, Nat.add_assoc, ← Nat.add_mul]
                    exact h2
                · rw [hv, j5] at ac2
                  rw [cX]
                  exact ac2
            · cases ea
          · cases ea
        · cases ea
      | both o1 o2 =>
        rw [ea] at ab
        simp only [nA] at ea
        split at ea
        case h_2 => cases ea
        rename_i ys mB
        split at ea
        · cases ea
        · rename_i U zs
          split at ea
          · rename_i xs jM hl
            obtain ⟨e', kR⟩ := Ty.aZ jM
            injection e' with e'
            subst e'
            simp only at kR
            subst kR
            injection ea with e1 e2
            subst e1; subst e2
            obtain ⟨Gt, ac3⟩ := ab
            have hx0 := hx
            simp only [ae] at hx
            obtain ⟨_, ⟨aa, m, hv⟩, B3⟩ := hx
            obtain ⟨news, kV, cE⟩ := src ys mB
            by_cases cu : ys = []
            · have hK := Gt cu
              subst cu
              refine h.val ho (v := a.eval xo) (aV _ _ ?_) hx0 hK
              have Ec := kV.len
              have mn := kV.cells
              simp only [List.length_nil] at Ec mn
              obtain ⟨e, hu, he, mP, og, my⟩ := (hE.facts hT).elem hE
              obtain ⟨i, hi, cP, _⟩ := mP.info
              have hn : news = [] := List.eq_nil_of_length_eq_zero (by rw [kV.newsLen]; simp)
              subst hn
              rw [← cP] at mn
              rw [hv]
              rcases kV.kind with ⟨e2, hk⟩ | hk
              all_goals
                cases aa with
                | none => simp [Builtin.append_, run_underlying hu, run_underlying hk, sizeOf, typeInfo, hi, Ec, mn]
                | some aa => simp [Builtin.append_, run_underlying hu, run_underlying hk, sizeOf, typeInfo, hi, Ec, mn, storeCells]
            · obtain ⟨hlen, hK⟩ := ac3 cu
              rw [hv] at B3
              obtain ⟨v', w', hr, qk, oR, OO, tZ⟩ := iK hE (ty := o.type) hT nD B3 h.W.lt h.W.size kV cE cu hlen
              refine cD (aV v' w' (by rw [hv]; exact hr)) ⟨_, hK, ?_⟩
              simp only [St.fin, hd]
              exact h.r9 (bq ho d hd) hl nD oR OO tZ qk (cF _ _)
          · cases ea
        · repeat' split at ea
          all_goals cases ea
        · repeat' split at ea
          all_goals cases ea
        · cases ea
      | _ =>
        rw [ea] at ab
        simp only [nA] at ea
        repeat' split at ea
        all_goals first
          | (cases ea; done)
          | exact ab.elim
    · exact ab.elim
  · exact ab.elim
end
end Go.Proofs.Ytefpgfdemmllpaa
namespace Go.Proofs.Ytefpgfdemmllpaa
open Go.RowKit
section
variable {E:Env} {n:Nat} {w0:World} {S0:Cx} {s:St} {a:Act} {w:World} {ν:Nat→Value} {S:Nat→Prop} {F:cT} {o:Oper} {K:St→Prop} {Q:Exit→Act→World→Prop}
theorem vr {T:Ty} : ∀(ps:List (Nat×PV))(vs:List (Nat×Value))(i:Nat)(xs:List T.den)(cells:Array Value)(R:T.den→List Value→Prop),(∀x cs,R x cs→cs.length=T.cells)→ps.length=vs.length→lG F s.bl T i ps=some xs→(∀(k:Nat)(p:Nat×PV)(v:Nat×Value),ps[k]?=some p→vs[k]?=some v→p.1=v.1∧ ∀x,PV.refs p.2=false→PV.iI p.2=[]→exp F s.bl T p.2=some x→R x v.2.cells.toList)→i*T.cells+ps.length*T.cells=cells.size→ ∃out,Instr.fill (fun i=>some (i*T.cells,T.cells)) cells vs=some out∧out.size=cells.size∧xs.length=ps.length∧out.toList.take (i*T.cells)=cells.toList.take (i*T.cells)∧ ∀k x,xs[k]?=some x→R x ((out.toList.drop ((i+k)*T.cells)).take T.cells)|[],[],i,xs,cells,R,hR,_,h,_,hs=>(by simp only[lG,Option.some.injEq]at h;subst h;exact⟨cells,rfl,rfl,rfl,rfl,fun k x hk=>by simp at hk⟩)|[],_::_,_,_,_,_,_,hl,_,_,_=>(by cases hl)|_::_,[],_,_,_,_,_,hl,_,_,_=>(by cases hl)|p::ps,v::vs,i,xs,cells,R,hR,hl,h,hr,hs=>by simp only[lG]at h;split at h;(·rename_i x as4 Kh H2 hx;split at h;(·rename_i ys mB;simp only[Option.some.injEq]at h;subst h;have hpi:=Nat.eq_of_beq_eq_true as4;obtain⟨JH,bf⟩:=hr 0 p v rfl rfl;have hRx:=bf x Kh H2 hx;have xW:=hR _ _ hRx;obtain⟨vi,vv⟩:=v;simp only at JH xW hRx;(have Oa:vi=i:=by rw[←JH,hpi]);subst Oa;simp only[List.length_cons]at hs;(have cP:vi*T.cells+T.cells+ps.length*T.cells=cells.size:=by rw[←hs,Nat.add_mul];omega);(have Ae:vv.cells.size=T.cells:=by simpa using xW);rw[BS rfl Ae (by omega)];(have b6:(cells.toList.take (vi*T.cells)++vv.cells.toList++cells.toList.drop (vi*T.cells+vv.cells.size)).toArray.size=cells.size:=by simp only[List.size_toArray,List.length_append,List.length_take,List.length_drop,Array.length_toList];omega);obtain⟨out,h1,h2,h3,h4,h5⟩:=vr ps vs (vi+1) ys _ R hR (by simpa using hl) mB (fun k p' v' BU Kd=>hr (k+1) p' v' BU Kd) (by rw[b6,Nat.add_mul];omega);(have Ad:(cells.toList.take (vi*T.cells)).length=vi*T.cells:=by simp only[List.length_take,Array.length_toList];omega);(have qm:out.toList.take ((vi+1)*T.cells)=cells.toList.take (vi*T.cells)++vv.cells.toList:=by rw[h4];(have e:(vi+1)*T.cells=(cells.toList.take (vi*T.cells)++vv.cells.toList).length:=by rw[List.length_append,Ad,xW,Nat.add_mul];omega);rw[e,List.take_left]);refine⟨out,h1,h2.trans b6,by simp[h3],?_,fun k y hk=>?_⟩;(·have:=congrArg (List.take (vi*T.cells)) qm;rw[List.take_take,Nat.min_eq_left (by rw[Nat.add_mul];omega),List.take_append_of_le_length (by omega),List.take_take,Nat.min_self]at this;exact this);·cases k with|zero=>simp at hk;subst hk;have:=congrArg (List.drop (vi*T.cells)) qm;have e0:(cells.toList.take (vi*T.cells)).drop (vi*T.cells)=[]:=List.drop_of_length_le (by omega);rw[List.drop_take,List.drop_append_of_le_length (by omega),e0,List.nil_append]at this;rw[show(vi+1)*T.cells-vi*T.cells=T.cells from by rw[Nat.add_mul];omega]at this;rw[Nat.add_zero,this];exact hRx|succ k=>have:=h5 k y (by simpa using hk);rw[show vi+(k+1)=vi+1+k from by omega];exact this);·cases h);·cases h
theorem Full.grow(h:Full n w0 S0 s a w ν S) {w':World} {S':Nat→Prop} (hw:dD w w' none)(h1: ∀b,S b→S' b)(h2: ∀b,S' b→S b∨w.heap.size≤b)(h3: ∀b,S' b→b<w'.heap.size):Full n w0 S0 s a w' ν S':=by
 have hle:Ctx.Le ⟨ν,s.D,w,⟨S,aF w0 S0⟩⟩ ⟨ν,s.D,w',⟨S',aF w0 S0⟩⟩:=⟨fun b hb=>hw.block b (h.W.lt b hb) (by simp),h1,fun _ h=>h,fun _ _=>rfl⟩;refine⟨h.below.grown hw (by simp),fun b hb=>h1 b (h.BC b hb),fun b hb=>?_,⟨h3,fun g hg=>h.W.size g (Nat.le_trans hw.size hg),fun i c hc=>?_,h.W.ne⟩,fun t=>eI hle (h.fq t),h.size,h.defers,h.Aa,h.kept,h.D9⟩
 (·rcases h2 b hb with h'|h';(·exact h.fresh b h');·exact .inr (h.W.size b h'));·refine nE hle rfl rfl (fun g hg=>?_) (h.W.cc i c hc);obtain⟨e1,e2,e3⟩:=h.gF hc hg;refine⟨hw.block g e3 (by simp),fun _ Kx=>?_⟩;rcases h2 g Kx with h'|h';(·exact e2 h');·omega
theorem x6(hE:aI E)(h:Full n w0 S0 s a w ν S)(ho:cd n o=true) {t m:Nat} {parts:Array (Nat×Operand)} (aK:o.op= .buildSlice t m parts)(ab:a8 E (ai E F s o) (fun l=>K (s.fin o.dst l))):o.wp E.P a w (fun a' w'=> ∃s',K s'∧Rel n w0 S0 s' a' w') Q:=by
 simp only[ai,aK]at ab;split at ab;(·rename_i T d hT hd;split at ab;(·rename_i xs hl Vj hb;simp only[Bool.and_eq_true]at hb;have hm:=Nat.eq_of_beq_eq_true hb.1;have Vl:=Nat.le_of_ble_eq_true hb.2;obtain⟨e,hu,he,mP,og,my⟩:=(hE.facts hT).elem hE;obtain⟨i,hi,cP,TS,_,z,hz,Eb⟩:=mP.info;(have Eu: ∀(k:Nat)(p:Nat×PV)(v:Nat×Value),(cS s parts.toList)[k]?=some p→((parts.map fun x=>(x.1,a.eval x.2)).toList)[k]?=some v→p.1=v.1∧ ∀x,PV.refs p.2=false→PV.iI p.2=[]→exp F s.bl T p.2=some x→aB T x w ⟨S,aF w0 S0⟩ v.2.cells.toList:=by intro k p v hk hv;rw[gT,List.getElem?_map]at hk;simp only[Array.toList_map,List.getElem?_map]at hv;cases hx:parts.toList[k]? with|none=>rw[hx]at hk;cases hk|some x=>rw[hx]at hk hv;simp only[Option.map_some,Option.some.injEq]at hk hv;subst hk;subst hv;refine⟨rfl,fun y h1 h2 h3=>?_⟩;have bS:=h.ev (x:=x.2) (aD ho (by have hm:x∈parts:=Array.mem_toList_iff.1 (List.mem_of_getElem? hx);simp only[aK,Op.operands,List.mem_toArray,List.mem_map];exact⟨x,Array.mem_toList_iff.2 hm,rfl⟩));exact jC og (h.Kf mP.own h1 h2 h3 bS));(have hlen:(cS s parts.toList).length=((parts.map fun x=>(x.1,a.eval x.2)).toList).length:=by simp[gT]);(have xM:(cS s parts.toList).length=m:=by rw[←hm];simp[gT]);(have main: ∀cells:Array Value,cells.size=m*T.cells→ ∃out,Instr.fill (fun i=>some (i*T.cells,T.cells)) cells (parts.map fun x=>(x.1,a.eval x.2)).toList=some out∧out.size=m*T.cells∧xs.length=m∧ ∀k x,xs[k]?=some x→aB T x w ⟨S,aF w0 S0⟩ ((out.toList.drop (k*T.cells)).take T.cells):=by intro cells hc;obtain⟨out,h1,h2,h3,h4,h5⟩:=vr (F:=F) (s:=s) (cS s parts.toList) _ 0 xs cells (fun x cs=>aB T x w ⟨S,aF w0 S0⟩ cs) (fun x cs hr=>bx _ _ _ _ _ hr) hlen Vj Eu (by rw[xM,hc];omega);exact⟨out,h1,by rw[h2,hc],by rw[h3,xM],fun k x hk=>by simpa using h5 k x hk⟩);(have fin: ∀out:Array Value,out.size=m*T.cells→xs.length=m→(∀k x,xs[k]?=some x→aB T x w ⟨S,aF w0 S0⟩ ((out.toList.drop (k*T.cells)).take T.cells))→ ∃s',K s'∧Rel n w0 S0 s' (a.put o.dst (.slice (some ⟨w.heap.size,0,none⟩) m m)) (w.alloc (.cells out e)):=by intro out Gu Bo ho3;have hh:(w.alloc (.cells out e)).heap[w.heap.size]?=some (.cells out e (0,0)):=_root_.Go.heap_alloc_new w _;have hmb:m≤16777216:=Nat.le_trans (Nat.le_mul_of_pos_right m my) Vl;have eD: ∀k x,xs[k]?=some x→aB T x (w.alloc (.cells out e)) ⟨S,aF w0 S0⟩ ((out.toList.drop (k*T.cells)).take T.cells):=fun k x hk=>au (w:=w) (fun b hb=>Below.heap_alloc w _ b (h.W.lt b hb)) (fun _ h=>h) _ _ _ mP.own (ho3 k x hk);split at ab;(·simp only[a8]at ab;refine⟨_,ab,?_⟩;have hg:=h.grow (S':=fun b=>S b∨b=w.heap.size) (ey w (.cells out e) none) (fun b hb=>.inl hb) (fun b hb=>hb.imp id (fun e=>by omega)) (fun b hb=>by simp only[World.alloc,Array.size_push];rcases hb with hb|hb;(·have:=h.W.lt b hb;omega);·omega);refine(hg.put (bq ho) ?_).rel;(suffices kQ:aB (.sl T) xs (w.alloc (.cells out e)) ⟨fun b=>S b∨b=w.heap.size,aF w0 S0⟩ [.slice (some ⟨w.heap.size,0,none⟩) m m]by unfold lD;split;(·simp only[ae];exact⟨mP.own,⟨_,m,rfl⟩,kQ⟩);·simp only[ae];exact⟨mP.own,kQ⟩);refine⟨_,m,by rw[Bo],by omega,by omega,.inr ⟨w.heap.size,0,rfl,.inr rfl,?_⟩⟩;refine uq (vs:=out.toList) (by simp[Gu,Bo]) (fun j u hj=>?_) (fun k x hk=>?_);(·show(w.alloc (.cells out e)).cell? _=_;rw[cell_of_row _ _ _ _ _ _ hh,Nat.zero_add];simpa using hj);·exact au (w:=w.alloc (.cells out e)) (M:=⟨S,aF w0 S0⟩) (M':=⟨fun b=>S b∨b=w.heap.size,aF w0 S0⟩) (fun b _=>rfl) (fun _ h=>.inl h) _ _ _ mP.own (eD k x hk));·simp only[a8,St.fin,hd]at ab;refine⟨_,ab,?_⟩;rw[hd];refine h.r9 (v:=.slice (some ⟨w.heap.size,0,none⟩) m m) (bq ho d hd) hl mP.own (ey w _ none) ⟨_,_,_,rfl⟩ (fun g hg=>by injection hg with hg;simp at hg;omega) ?_ (cF _ _);refine⟨_,rfl,by omega,.inr ⟨w.heap.size,0,m,out,e,by rw[Bo],by omega,by omega,fun hS=>absurd (h.W.lt _ hS) (by simp),h.W.size _ (Nat.le_refl _),hh,by omega,?_⟩⟩;refine uq (vs:=out.toList) (by simp[Gu,Bo]) (fun j u hj=>?_) (fun k x hk=>?_);(·rw[cell_of_row _ _ _ _ _ _ hh,Nat.zero_add];simpa using hj);·exact eD k x hk);(have hns: ¬(m*T.cells>2^24):=by omega);by_cases h0:m*T.cells=0;(·obtain⟨out,h1,h2,h3,h4⟩:=main ((Array.range (m*T.cells)).map fun j=>(#[]:Array Value)[j%(#[]:Array Value).size]!) (by simp);refine cD (v:=.slice (some ⟨w.heap.size,0,none⟩) m m) (w':=w.alloc (.cells out e)) ?_ (fin out h2 h3 h4);simp only[execOp,aK,Instr.buildSlice,Sem.run_bind,run_underlying hu,Result.andThen_ok,mP.sizeOf w,Sem.run_ite,hns,if_false,h0,if_true,Sem.run_pure];rw[h0]at h1;simp only[h1,Sem.run_bind,newRow,run_newObj,Result.andThen_ok,Sem.run_pure];rfl);·obtain⟨out,h1,h2,h3,h4⟩:=main ((Array.range (m*T.cells)).map fun j=>z.cells[j%z.cells.size]!) (by simp);refine cD (v:=.slice (some ⟨w.heap.size,0,none⟩) m m) (w':=w.alloc (.cells out e)) ?_ (fin out h2 h3 h4);simp only[execOp,aK,Instr.buildSlice,Sem.run_bind,run_underlying hu,Result.andThen_ok,mP.sizeOf w,Sem.run_ite,hns,if_false,h0,Sem.run_pure,zeroValue,typeInfo,run_program,hi,hz,h1,newRow,run_newObj];rfl);·exact ab.elim)
 ·exact ab.elim
theorem x7 (hE : aI E) (h : Full n w0 S0 s a w ν S) (ho : cd n o = true) {t d : Nat} {x y : Operand} {T : Ty} {zc : List PV} {k k' : IntKind} {m0 : Int} (ql : T.F7 = true) (aK : o.op = .makeSlice t x y) (hT : E.ty t = some (.sl T)) (hd : o.dst = some d) (hl : look d s.bl = none) (N9 : zeroCells T = some zc)
    (Ee : a.eval x = .int k m0) (JM : a.eval y = .int k' m0) (h0 : 0 ≤ m0) (h2 : m0 ≤ 1099511627776) (ab : K ⟨(d, .aE d) :: s.sl, (d, .arr T (List.replicate (Int.toNat m0) (de T))) :: s.bl⟩) : o.wp E.P a w (fun a' w' => ∃ s', K s' ∧ Rel n w0 S0 s' a' w') Q := by
  obtain ⟨e, hu, he, mP, og, my⟩ := (hE.facts hT).elem hE
  obtain ⟨i, hi, cP, TS, BP, z, hz, Eb⟩ := mP.info
  obtain ⟨zv, JI, _, _⟩ := mR (c := h.c) T zc N9
  rw [hz] at BP
  have Am := jJ BP JI
  have Vm : (i.bytes : Int) * m0 ≤ 281474976710656 := by
    have e1 : (i.bytes : Int) * m0 ≤ 128 * 1099511627776 := Int.mul_le_mul (by omega) h2 h0 (by omega)
    omega
  have hr := run_make (P := E.P) w t e i z hu hi hz k k' m0 m0 h0 (Int.le_refl _) Vm (by omega)
  rw [cP] at hr
  refine cD (v := .slice (some ⟨w.heap.size, 0, none⟩) (Int.toNat m0) (Int.toNat m0)) (w' := w.alloc (.cells (madeCells z.cells (Int.toNat m0 * T.cells)) e)) ?_ ⟨_, ab, ?_⟩
  · simp only [execOp, aK, Ee, JM, Sem.run_bind, hr, Result.andThen_ok, Sem.run_pure]
  · rw [hd]
    have hh : (w.alloc (.cells (madeCells z.cells (Int.toNat m0 * T.cells)) e)).heap[w.heap.size]? = some (.cells (madeCells z.cells (Int.toNat m0 * T.cells)) e (0, 0)) := _root_.Go.heap_alloc_new w _
    have hmb : Int.toNat m0 ≤ 1099511627776 := by omega
    refine h.r9 (bq ho d hd) hl mP.own (ey w _ none) ⟨_, _, _, rfl⟩ (fun g hg => by injection hg with hg; simp at hg; omega) ?_ (cF _ _)
    refine ⟨_, rfl, by rw [List.length_replicate]; omega, .inr ⟨w.heap.size, 0, Int.toNat m0, _, e, by rw [List.length_replicate], by rw [List.length_replicate]; omega, by omega, fun hS => absurd (h.W.lt _ hS) (by simp), h.W.size _ (Nat.le_refl _), hh, by rw [size_madeCells]; omega, fun j q hq => ?_⟩⟩
    rw [List.getElem?_replicate] at hq
    split at hq
    · rename_i hj
      simp only [Option.some.injEq] at hq
      subst hq
      refine ⟨zv, bx _ _ _ _ _ (mV (w := w) (M := ⟨S, aF w0 S0⟩) T zv ql JI), fun k u hk => ?_, mV T zv ql JI⟩
      have Ed : k < T.cells := by rw [← bx _ _ _ _ _ (mV (w := w) (M := ⟨S, aF w0 S0⟩) T zv ql JI)]; exact (List.getElem?_eq_some_iff.1 hk).1
      rw [cell_of_row _ _ _ _ _ _ hh, Nat.zero_add]
      have cM : j * T.cells + k < Int.toNat m0 * T.cells := by
        calc j * T.cells + k < j * T.cells + T.cells := by omega
          _ = (j + 1) * T.cells := by rw [Nat.add_mul]; omega
          _ ≤ Int.toNat m0 * T.cells := Nat.mul_le_mul_right _ hj
      have Vh : (j * T.cells + k) % z.cells.size = k := by
        rw [Eb, Nat.add_comm, Nat.add_mul_mod_self_right, Nat.mod_eq_of_lt Ed]
      simp only [madeCells, Array.getElem?_map]
      rw [Array.getElem?_eq_getElem (by simpa using cM)]
      simp only [Option.map_some, Array.getElem_range, Vh]
      rw [getElem!_pos z.cells k (by omega)]
      rw [← Am] at hk
      simp only [Array.getElem?_toList] at hk
      rw [Array.getElem?_eq_getElem (by omega)] at hk
      exact hk
    · cases hq
theorem An(hE:aI E)(h:Full n w0 S0 s a w ν S)(ho:cd n o=true) {t:Nat} {x y:Operand} (aK:o.op= .makeSlice t x y)(ab:a8 E (ai E F s o) (fun l=>K (s.fin o.dst l))):o.wp E.P a w (fun a' w'=> ∃s',K s'∧Rel n w0 S0 s' a' w') Q:=by
 simp only[ai,aK]at ab;have hx:=h.ev (aD ho (x:=x) (by simp[aK,Op.operands]));have hy:=h.ev (aD ho (x:=y) (by simp[aK,Op.operands]));split at ab;(·rename_i T d k m k' m' hT hd vm EF;split at ab;(·rename_i zc hl N9 ql;obtain⟨⟨h0,h1,h2⟩,ab⟩:=ab;simp only[a8,St.fin,hd]at ab;rw[vm]at hx;rw[EF]at hy;obtain⟨Ee,_⟩:=bC hx;obtain⟨JM,_⟩:=bC hy;subst h1;exact x7 hE h ho ql aK hT hd hl N9 Ee JM h0 h2 ab);·exact ab.elim)
 ·exact ab.elim
end
end Go.Proofs.Ytefpgfdemmllpaa
namespace Go.Proofs.Ytefpgfdemmllpaa
open Go.RowKit
theorem Vn {w w':World} {M M':Mem} : ∀(T:Ty)(x:T.den)(vs:List Value),T.flat=true→aB T x w M vs→aB T x w' M' vs:=by
 intro T;induction T with|unit=>intro x vs _ h;exact h|int k=>intro x vs _ h;exact h|bool=>intro x vs _ h;exact h|str=>intro x vs _ h;exact h|sl t=>intro x vs hf;cases hf|own t=>intro x vs hf;cases hf|ptr t=>intro x vs hf;cases hf|iF f t=>intro x vs hf;cases hf|mp a b=>intro x vs hf;cases hf|ba=>intro x vs _ h;exact h|bk a b=>intro x vs _ h;exact h.elim|st t ih=>intro x vs hf h;exact ih x vs hf h|pair a b gE fK=>intro x vs hf h;simp only[Ty.flat,Bool.and_eq_true]at hf;obtain⟨va,vb,rfl,h1,h2⟩:=h;exact⟨va,vb,rfl,gE _ _ hf.1 h1,fK _ _ hf.2 h2⟩
theorem Ao {w w':World} {M M':Mem} {T:Ty} {x:T.den} {v:Value} (hf:T.flat=true)(h:cH T x w M v):cH T x w' M' v:=by
 cases T with|unit=>exact h|pair a b=>exact h|bk a b=>exact h|st t=>obtain⟨vs,rfl,h⟩:=h;exact⟨vs,rfl,Vn t x vs hf h⟩|int k=>exact h|bool=>exact h|str=>exact h|sl t=>cases hf|own t=>cases hf|ptr t=>cases hf|iF f t=>cases hf|mp a b=>cases hf|ba=>exact h
theorem Vo {w w':World} {M M':Mem} : ∀(T:Ty)(x:T.den)(vs:List Value),T.flat=true→xQ T x w M vs→xQ T x w' M' vs:=by
 intro T;induction T with|bk a b gE fK=>intro x vs hf h;simp only[Ty.flat,Bool.and_eq_true]at hf;obtain⟨v,r,rfl,h1,h2⟩:=h;exact⟨v,r,rfl,Ao hf.1 h1,fK _ _ hf.2 h2⟩|_=>intro x vs hf h;obtain⟨v,rfl,h⟩:=h;exact⟨v,rfl,Ao hf h⟩
theorem Ky {w w':World} {M M':Mem} {T:Ty} {x:T.den} {v:Value} (hf:T.flat=true)(h:lz T x w M v):lz T x w' M' v:=by
 cases T;(case bk a b=>obtain⟨vs,rfl,h⟩:=h;exact⟨vs,rfl,Vo _ x vs hf h⟩);all_goals exact Ao (w:=w) (w':=w') (M:=M) (M':=M') (x:=x) (v:=v) hf h
theorem yG: ∀(T:Ty),T.flat=true→aL T=0:=by intro T;induction T<;>simp_all[Ty.flat,aL]
section
variable {E:Env} {n:Nat} {w0:World} {S0:Cx} {s:St} {a:Act} {w:World} {ν:Nat→Value} {S:Nat→Prop} {F:cT} {o:Oper} {K:St→Prop} {Q:Exit→Act→World→Prop}
theorem Vp(hE:aI E)(h:Full n w0 S0 s a w ν S)(ho:cd n o=true) {c:Call} (aK:o.op= .call c)(jO:c.callee= .builtin .cap)(ab:a8 E (ai E F s o) (fun l=>K (s.fin o.dst l))):o.wp E.P a w (fun a' w'=> ∃s',K s'∧Rel n w0 S0 s' a' w') Q:=by
 obtain⟨callee,args,argTypes⟩:=c;simp only at jO;subst jO;simp only[ai,aK]at ab;split at ab;(·rename_i t bS ik;(obtain⟨xo,kc⟩: ∃xo,args= #[xo]:=by(have hl:args.toList.length=1:=by have:=congrArg List.length bS;rw[qc,List.length_map]at this;simpa using this);match hh:args.toList,hl with|[xo],_=>exact⟨xo,Array.toList_inj.1 (by rw[hh])⟩);subst kc;simp only[b7,List.cons.injEq,and_true]at bS;have JL:argTypes= #[t]:=Array.toList_inj.1 (by rw[ik]);subst JL;have hx:=h.ev (aD ho (x:=xo) (by simp[aK,Op.operands,Call.operands]));rw[bS]at hx;simp only[ae]at hx;split at ab;(·rename_i U hT;obtain⟨e,hu,_⟩:=(hE.facts hT).elem hE;refine h.val ho (v:=.int .i64 0) ?_ (cm (by simp[IntKind.min,IntKind.max,IntKind.signed,IntKind.bits])) ab;simp[execOp,aK,resolve,invoke,builtin,Builtin.cap_,run_underlying hu,hx,goInt]);·exact ab.elim)
 ·exact ab.elim
theorem Vq(hE:aI E)(h:Full n w0 S0 s a w ν S)(ho:cd n o=true) {c:Call} (aK:o.op= .call c)(jO:c.callee= .builtin .len)(ab:a8 E (ai E F s o) (fun l=>K (s.fin o.dst l))):o.wp E.P a w (fun a' w'=> ∃s',K s'∧Rel n w0 S0 s' a' w') Q:=by
 obtain⟨callee,args,argTypes⟩:=c;simp only at jO;subst jO;simp only[ai,aK]at ab;split at ab;(·rename_i p t bS ik;(obtain⟨xo,kc⟩: ∃xo,args= #[xo]:=by(have hl:args.toList.length=1:=by have:=congrArg List.length bS;rw[qc,List.length_map]at this;simpa using this);match hh:args.toList,hl with|[xo],_=>exact⟨xo,Array.toList_inj.1 (by rw[hh])⟩);subst kc;simp only[b7,List.cons.injEq,and_true]at bS;have JL:argTypes= #[t]:=Array.toList_inj.1 (by rw[ik]);subst JL;have hx:=h.ev (aD ho (x:=xo) (by simp[aK,Op.operands,Call.operands]));rw[bS]at hx;(have fin: ∀m:Nat,m≤9223372036854775807→(Builtin.len_ #[t] o.type #[a.eval xo]).run E.P w= .ok (.int .i64 m) w→a8 E (xT m) (fun l=>K (s.fin o.dst l))→o.wp E.P a w (fun a' w'=> ∃s',K s'∧Rel n w0 S0 s' a' w') Q:=by intro m hm hr hK;refine h.val ho (v:=.int .i64 m) ?_ (cm (by simp[IntKind.min,IntKind.max,IntKind.signed,IntKind.bits];omega)) hK;simp[execOp,aK,resolve,invoke,builtin,hr]);simp only[xU]at ab;split at ab;(·rename_i hT;obtain⟨d,hu,Bn⟩:=(hE.facts hT).ow;(have hd:d= .string:=by cases d<;>first|rfl|cases Bn);subst hd;split at ab;(·rename_i y;obtain⟨hv,hl⟩:=dK hx;(have cP:(⟨y.toArray⟩:ByteArray).size=y.length:=by simp[ByteArray.size]);refine fin _ hl ?_ ab;simp[Builtin.len_,run_underlying hu,hv,goInt,cP]);·exact ab.elim);(·rename_i U hT;obtain⟨e,hu,_⟩:=(hE.facts hT).elem hE;(have hlen: ∀(aa:Option Addr)(m cap:Nat),a.eval xo= .slice aa m cap→(Builtin.len_ #[t] o.type #[a.eval xo]).run E.P w= .ok (.int .i64 m) w:=by intro aa m cap hv;simp[Builtin.len_,run_underlying hu,hv,goInt]);split at ab;(·rename_i U' xs;simp only[ae]at hx;obtain⟨_,aa,cap,hv,h1,h2,_⟩:=hx;injection hv with hv;exact fin _ (Nat.le_trans h1 h2) (hlen _ _ _ hv) ab);(·rename_i id;split at ab;(·rename_i U' xs te hl;obtain⟨hl,_⟩:=cj hl;simp only[ae]at hx;obtain⟨hd,cX,aa,m,cap,hv⟩:=hx;obtain⟨ik,_,u,nI,JJ,cG⟩:=h.W.cc _ _ hl;simp only[List.cons.injEq,and_true]at nI;simp only[Full.c]at cX;(have hm:m=xs.length:=by rw[cX,nI]at hv;rcases cG with⟨rfl,rfl⟩|⟨g,ob,mL,cur,e',rfl,_⟩;(·injection hv with e1 e2 e3;exact e2.symm);·injection hv with e1 e2 e3;exact e2.symm);subst hm;exact fin _ JJ (hlen _ _ _ hv) ab);·exact ab.elim);(·rename_i id sz off len;obtain⟨hl,hK⟩:=ab;simp only[ae]at hx;obtain⟨hd,aa,m,cap,b,cX,hn,oN,hv,hb⟩:=hx;exact fin _ hl (hlen _ _ _ hv) hK);(·simp only[ae]at hx;exact fin 0 (by omega) (hlen _ _ _ hx) ab);·exact ab.elim);(·rename_i K' V' hT;obtain⟨d,hu,Bn⟩:=(hE.facts hT).ow;(obtain⟨k',e',rfl⟩: ∃k' e',d= .map k' e':=by cases d<;>first|exact⟨_,_,rfl⟩|cases Bn);split at ab;(·rename_i id;split at ab;(·rename_i K2 V2 es hl;obtain⟨hl,_⟩:=cj hl;simp only[ae]at hx;obtain⟨_,cX,_⟩:=hx;obtain⟨_,_,h0,r,ay,clock,h1,_,_,h4,_,h6,_⟩:=h.W.cc _ _ hl;simp only[Full.c]at cX;(have cX:a.eval xo= .map (some r):=by rw[cX];exact h1);refine fin _ h0 ?_ ab;simp[Builtin.len_,run_underlying hu,cX,MapKept.run_getObj_map h4,goInt,h6]);·exact ab.elim);·exact ab.elim);·exact ab.elim)
 ·exact ab.elim
theorem lO {P:Program} {c:Ctx} (mx:Bool) {k:IntKind} {Kl:Out→Prop} : ∀(ps:List PV)(vs:List Value)(x:Int),k.min≤x∧x≤k.max→ah c ps vs→a8 E (iJ mx k x ps) Kl→ ∃z,Kl (.val (.iv (.int k) z))∧k.min≤z∧z≤k.max∧(vs.foldlM (if mx then Builtin.max2 else Builtin.min2) (.int k x)).run P w= .ok (.int k z) w|[],vs,x,hx,hp,h=>(by simp only[ah]at hp;subst hp;exact⟨x,h,hx.1,hx.2,by simp⟩)|p::ps,vs,x,hx,hp,h=>by simp only[ah]at hp;obtain⟨v,r,rfl,h1,h2⟩:=hp;cases p with|iv T y=>(cases T with|int l=>simp only[iJ]at h;split at h;(·rename_i hk;have hk:=dI hk;subst hk;obtain⟨rfl,hy⟩:=bC h1;change Int at y;cases mx;(·(have hz:k.min≤min x (y:Int)∧min x (y:Int)≤k.max:=by(have e1:min x (y:Int)=x∨min x (y:Int)=y:=by rcases Int.le_total x y with h|h<;>simp[Int.min_def,h]<;>omega);rcases e1 with e|e<;>rw[e]<;>assumption);obtain⟨z,Vr,Vs,Vt,Kz⟩:=lO false ps r _ hz h2 h;refine⟨z,Vr,Vs,Vt,?_⟩;rw[List.foldlM_cons,Sem.run_bind];(have e:Builtin.min2 (.int k x) (.int k y)=pure (.int k (min x (y:Int))):=by simp only[Builtin.min2,Int.min_def];congr 2;by_cases hc:x≤(y:Int);(·rw[if_pos hc,if_neg (by omega)]);·rw[if_neg hc,if_pos (by omega)]);simp only[Bool.false_eq_true,if_false]at Kz⊢;rw[e];simpa using Kz);·(have hz:k.min≤max x (y:Int)∧max x (y:Int)≤k.max:=by(have e1:max x (y:Int)=x∨max x (y:Int)=y:=by rcases Int.le_total x y with h|h<;>simp[Int.max_def,h]<;>omega);rcases e1 with e|e<;>rw[e]<;>assumption);obtain⟨z,Vr,Vs,Vt,Kz⟩:=lO true ps r _ hz h2 h;refine⟨z,Vr,Vs,Vt,?_⟩;rw[List.foldlM_cons,Sem.run_bind];(have e:Builtin.max2 (.int k x) (.int k y)=pure (.int k (max x (y:Int))):=by simp only[Builtin.max2,Int.max_def];congr 2;by_cases hc:x≤(y:Int);(·rw[if_pos hc];by_cases hd:(y:Int)>x;(·rw[if_pos hd]);·rw[if_neg hd];omega);·rw[if_neg hc,if_neg (by omega)]);simp only[if_true]at Kz⊢;rw[e];simpa using Kz);(·exact h.elim)|_=>simp only[iJ]at h;exact h.elim)|_=>simp only[iJ]at h;exact h.elim
theorem Vu(h:Full n w0 S0 s a w ν S)(ho:cd n o=true) {c:Call} (aK:o.op= .call c)(jO:c.callee= .builtin .min)(ab:a8 E (ai E F s o) (fun l=>K (s.fin o.dst l))):o.wp E.P a w (fun a' w'=> ∃s',K s'∧Rel n w0 S0 s' a' w') Q:=by
 obtain⟨callee,args,argTypes⟩:=c;simp only at jO;subst jO;simp only[ai,aK]at ab;split at ab;(·rename_i k x r bS;have bw:=fN h args.toList (fun y hy=>aD ho (by simp only[aK,Op.operands,Call.operands];simpa using hy));rw[bS]at bw;simp only[ah]at bw;obtain⟨v,vs,Ae,h1,h2⟩:=bw;obtain⟨rfl,hx⟩:=bC h1;obtain⟨z,Vr,Vs,Vt,Kz⟩:=lO (P:=E.P) (w:=w) false r vs x hx h2 ab;refine h.val ho (v:=.int k z) ?_ (cm ⟨Vs,Vt⟩) Vr;(have hl:(args.map a.eval).toList= .int k x::vs:=by simpa using Ae);simp only[Bool.false_eq_true,if_false]at Kz;simp only[execOp,aK,resolve,invoke,builtin,Builtin.min_,Sem.run_bind,Sem.run_pure,Result.andThen_ok,hl,Kz])
 ·exact ab.elim
theorem Vv(h:Full n w0 S0 s a w ν S)(ho:cd n o=true) {c:Call} (aK:o.op= .call c)(jO:c.callee= .builtin .max)(ab:a8 E (ai E F s o) (fun l=>K (s.fin o.dst l))):o.wp E.P a w (fun a' w'=> ∃s',K s'∧Rel n w0 S0 s' a' w') Q:=by
 obtain⟨callee,args,argTypes⟩:=c;simp only at jO;subst jO;simp only[ai,aK]at ab;split at ab;(·rename_i k x r bS;have bw:=fN h args.toList (fun y hy=>aD ho (by simp only[aK,Op.operands,Call.operands];simpa using hy));rw[bS]at bw;simp only[ah]at bw;obtain⟨v,vs,Ae,h1,h2⟩:=bw;obtain⟨rfl,hx⟩:=bC h1;obtain⟨z,Vr,Vs,Vt,Kz⟩:=lO (P:=E.P) (w:=w) true r vs x hx h2 ab;refine h.val ho (v:=.int k z) ?_ (cm ⟨Vs,Vt⟩) Vr;(have hl:(args.map a.eval).toList= .int k x::vs:=by simpa using Ae);simp only[if_true]at Kz;simp only[execOp,aK,resolve,invoke,builtin,Builtin.max_,Sem.run_bind,Sem.run_pure,Result.andThen_ok,hl,Kz])
 ·exact ab.elim
end
end Go.Proofs.Ytefpgfdemmllpaa
namespace Go.Proofs.Ytefpgfdemmllpaa
open Go.RowKit Go.MapKept
/-! ### Keys -/
def iN:(T:Ty)→T.den→List Value|.int k,x=>[.int k x]|.bool,x=>[.bool x]|.str,x=>[.string ⟨x.toArray⟩]|.pair a b,x=>iN a x.1++iN b x.2|.st t,x=>iN t x|_,_=>[]
theorem cl {w:World} {M:Mem} : ∀(T:Ty)(x:T.den)(vs:List Value),eK T=true→aB T x w M vs→vs=iN T x:=by
 intro T;induction T with|int k=>intro x vs _ h;exact h.1|bool=>intro x vs _ h;exact h|str=>intro x vs _ h;exact h.1|pair a b gE fK=>intro x vs hp h;simp only[eK,Bool.and_eq_true]at hp;obtain⟨va,vb,rfl,h1,h2⟩:=h;rw[gE _ _ hp.1 h1,fK _ _ hp.2 h2];rfl|st t ih=>intro x vs hp h;exact ih x vs hp h|_=>intro x vs hp;cases hp
theorem ur: ∀(T:Ty)(x y:T.den),eK T=true→(fy T x y=true↔x=y):=by
 intro T;induction T with|int k=>intro x y _;simp[fy]|bool=>intro x y _;simp[fy]|str=>intro x y _;simp[fy]|pair a b gE fK=>intro x y hp;simp only[eK,Bool.and_eq_true]at hp;simp only[fy,Bool.and_eq_true,gE _ _ hp.1,fK _ _ hp.2];exact⟨fun h=>Prod.ext h.1 h.2,fun h=>by rw[h];exact⟨rfl,rfl⟩⟩|st t ih=>intro x y hp;exact ih x y hp|_=>intro x y hp;cases hp
theorem KA: ∀(T:Ty)(x y:T.den),eK T=true→jv T x y=some (fy T x y):=by
 intro T;induction T with|int k=>intro x y _;rfl|bool=>intro x y _;rfl|str=>intro x y _;rfl|pair a b gE fK=>intro x y hp;simp only[eK,Bool.and_eq_true]at hp;simp only[jv,fy,gE _ _ hp.1,fK _ _ hp.2]|st t ih=>intro x y hp;exact ih x y hp|_=>intro x y hp;cases hp
theorem lP {E:Env} {t:Nat} {K:Ty} (h:zY E t K=true):eK K=true∧jN E t K∧dep K≤101∧K.val=true:=by
 cases K with|int k=>exact⟨rfl,trivial,by simp[dep],rfl⟩|bool=>exact⟨rfl,trivial,by simp[dep],rfl⟩|str=>exact⟨rfl,trivial,by simp[dep],rfl⟩|st R=>simp only[zY,Bool.and_eq_true]at h;have:=Nat.le_of_ble_eq_true h.2;exact⟨h.1.2,h.1.1,by simp only[dep];omega,rfl⟩|_=>cases h
theorem vt: ∀(T:Ty)(x:T.den),eK T=true→ ∀u,u∈iN T x→ ∀n,Instr.sameBits n u u=true:=by
 intro T;induction T with|int k=>intro x _ u hu n;simp only[iN,List.mem_singleton]at hu;subst hu;cases n<;>simp[Instr.sameBits]|bool=>intro x _ u hu n;simp only[iN,List.mem_singleton]at hu;subst hu;cases n<;>simp[Instr.sameBits]|str=>intro x _ u hu n;simp only[iN,List.mem_singleton]at hu;subst hu;cases n<;>(simp only[Instr.sameBits];exact(bytes_beq _ _).2 rfl)|pair a b gE fK=>intro x hp u hu n;simp only[eK,Bool.and_eq_true]at hp;simp only[iN]at hu;rcases List.mem_append.1 hu with hu|hu;(·exact gE _ hp.1 u hu n);(·exact fK _ hp.2 u hu n)|st t ih=>intro x hp u hu n;exact ih x hp u hu n|_=>intro x hp;cases hp
theorem qn {p:Value→Value→Bool} : ∀(l:List Value),(∀u,u∈l→p u u=true)→(l.zip l).all (fun x=>p x.1 x.2)=true|[],_=>rfl|u::l,h=>by simp only[List.zip_cons_cons,List.all_cons,Bool.and_eq_true];exact⟨h u (List.mem_cons_self ..),qn l fun v hv=>h v (List.mem_cons_of_mem _ hv)⟩
theorem qo {P:Program} {w w2:World} {M:Mem} {K:Ty} {x:K.den} {v:Value} (hp:eK K=true)(hv:K.val=true)(h:cH K x w M v):(Instr.keyThatStays v v).run P w2= .ok v w2:=by
 (have hs:Instr.sameBits 10000 v v=true:=by cases K with|int k=>obtain⟨h,_⟩:=h;injection h with h;subst h;simp[Instr.sameBits]|bool=>have h:[v]=[.bool x]:=h;injection h with h;subst h;simp[Instr.sameBits]|str=>obtain⟨h,_⟩:=h;injection h with h;subst h;simp only[Instr.sameBits];exact(bytes_beq _ _).2 rfl|st R=>obtain⟨vs,rfl,hr⟩:=h;have e:=cl R x vs hp hr;subst e;simp only[Instr.sameBits,beq_self_eq_true,Bool.true_and];exact qn _ fun u hu=>vt R x hp u hu _|_=>first|cases hp|cases hv)
 simp[Instr.keyThatStays,hs]
section
variable {E:Env} {w:World} {M:Mem}
theorem B4(hE:aI E): ∀(fs:List Field)(R:Ty)(off:Nat),bA E.ty fs R off=true→gR E.ty E.cmp fs=true→ ∀(x:R.den)(xs:Array Value),off+R.cells≤xs.size→aB R x w M ((xs.toList.drop off).take R.cells)→ ∀f,f∈fs→f.name≠ "_" ∧ ∃(T:Ty)(y:T.den)(v:Value),E.ty f.type=some T∧jN E f.type T∧dep T≤dep R∧(Go.part f.type xs f.offset).run E.P w= .ok v w∧cH T y w M v:=by
 (have one: ∀(f:Field)(T:Ty)(off:Nat)(y:T.den)(xs:Array Value),Nat.beq f.offset off=true→mN E.ty f.type T=true→(match E.ty f.type with|some (.int _)=>true|some .bool=>true|some .str=>true|some (.st _)=>E.cmp f.type|_=>false)=true→off+T.cells≤xs.size→aB T y w M ((xs.toList.drop off).take T.cells)→ ∃v:Value,E.ty f.type=some T∧jN E f.type T∧(Go.part f.type xs f.offset).run E.P w= .ok v w∧cH T y w M v:=by intro f T off y xs h1 h2 hc hx hr;have kF:=Nat.eq_of_beq_eq_true h1;(have hT:E.ty f.type=some T:=by unfold mN at h2;split at h2;(·rename_i U hU;rw[Ty.cJ h2]at hU;exact hU);·cases h2);have hf:=hE.facts hT;rw[hT]at hc;(have hk:jN E f.type T:=by cases T<;>first|trivial|exact hc|cases hc);(have Gq:cH T y w M (valOf T ((xs.toList.drop off).take T.cells)):=by have:=fM hf.val hr;have hv:=hf.val;cases T<;>first|exact this|cases hv);exact⟨_,hT,hk,by rw[kF];exact iy hf hx,Gq⟩)
 intro fs;induction fs with|nil=>intro R off h;cases h|cons f fs ihf=>intro R off h hc x xs hx hr g hg;simp only[gR,Bool.and_eq_true]at hc;cases fs with|nil=>simp only[bA,Bool.and_eq_true,Bool.not_eq_true']at h;obtain⟨⟨⟨⟨h1,h2⟩,h3⟩,h4⟩,h5⟩:=h;rcases List.mem_cons.1 hg with rfl|hg;(·obtain⟨v,e1,e2,e3,e4⟩:=one g R off x xs h1 h2 hc.1 hx hr;exact⟨by simpa using h5,R,x,v,e1,e2,Nat.le_refl _,e3,e4⟩);(·cases hg)|cons f2 fs2=>cases R with|pair a b=>simp only[bA,Bool.and_eq_true,Bool.not_eq_true']at h;obtain⟨⟨⟨⟨⟨h1,h2⟩,h3⟩,h4⟩,h5⟩,h6⟩:=h;simp only[Ty.cells]at hx hr;obtain⟨va,vb,hv,D8,JE⟩:=hr;have tg:=bx _ _ _ _ _ D8;have hlb:=bx _ _ _ _ _ JE;(have e1:(xs.toList.drop off).take a.cells=va:=by have:=congrArg (List.take a.cells) hv;rw[List.take_take,Nat.min_eq_left (by omega),←tg,List.take_left]at this;rw[←tg];exact this);(have e2:(xs.toList.drop (off+a.cells)).take b.cells=vb:=by have:=congrArg (List.drop a.cells) hv;rw[List.drop_take,List.drop_drop,←tg,List.drop_left,tg]at this;rw[show a.cells+b.cells-a.cells=b.cells from by omega]at this;exact this);rcases List.mem_cons.1 hg with rfl|hg;(·obtain⟨v,e3,e4,e5,e6⟩:=one g a off x.1 xs h1 h2 hc.1 (by omega) (by rw[e1];exact D8);exact⟨by simpa using h5,a,x.1,v,e3,e4,by simp only[dep];omega,e5,e6⟩);(·obtain⟨n1,T,y,v,e3,e4,e5,e6⟩:=ihf b (off+a.cells) h6 hc.2 x.2 xs (by omega) (by rw[e2];exact JE) g hg;exact⟨n1,T,y,v,e3,e4,by simp only[dep];omega,e6⟩)|_=>simp only[bA]at h;cases h
theorem EI {V:Ty} (hV:V.val=true): ∀(m k:Nat)(x:(rowOf V (m+1)).den)(xs:Array Value),(k+(m+1))*V.cells≤xs.size→aB (rowOf V (m+1)) x w M ((xs.toList.drop (k*V.cells)).take ((m+1)*V.cells))→ ∀i,k≤i→i<k+(m+1)→ ∃y:V.den,aB V y w M ((xs.toList.drop (i*V.cells)).take V.cells):=by
 intro m;induction m with|zero=>intro k x xs hx hr i h1 h2;(have:i=k:=by omega);subst this;simp only[Nat.zero_add,Nat.one_mul]at hr;exact⟨x,hr⟩|succ m ih=>intro k x xs hx hr i h1 h2;obtain⟨va,vb,hv,D8,JE⟩:=hr;have tg:=bx _ _ _ _ _ D8;have hle:V.cells≤(m+1+1)*V.cells:=Nat.le_mul_of_pos_left _ (by omega);(have e1:(xs.toList.drop (k*V.cells)).take V.cells=va:=by have:=congrArg (List.take V.cells) hv;rw[List.take_take,Nat.min_eq_left hle,←tg,List.take_left]at this;rw[←tg];exact this);(have e2:(xs.toList.drop ((k+1)*V.cells)).take ((m+1)*V.cells)=vb:=by have:=congrArg (List.drop V.cells) hv;rw[List.drop_take,List.drop_drop,←tg,List.drop_left,tg]at this;rw[show(m+1+1)*V.cells-V.cells=(m+1)*V.cells from by rw[Nat.add_mul (m+1) 1];omega,show k*V.cells+V.cells=(k+1)*V.cells from by rw[Nat.add_mul,Nat.one_mul]]at this;exact this);by_cases BK:i=k;(·subst BK;exact⟨x.1,by rw[e1];exact D8⟩);·exact ih (k+1) x.2 xs (by rw[show k+1+(m+1)=k+(m+1+1)from by omega];exact hx) (by rw[e2];exact JE) i (by omega) (by omega)
theorem nL (hE : aI E) : ∀ (d : Nat) (K : Ty) (t : Nat) (x : K.den) (v : Value), E.ty t = some K → jN E t K → cH K x w M v → dep K ≤ d → ∀ em, (Instr.checkKey em (d + 1) t v).run E.P w = .ok () w := by
  intro d
  induction d with
  | zero =>
    intro K t x v hT hk hv hd em
    have hf := hE.facts hT
    obtain ⟨dd, hu, hs⟩ := hf.ow
    rw [Instr.checkKey]
    simp only [Sem.run_bind, run_underlying hu, Result.andThen_ok]
    cases K with
    | int k => cases dd <;> first | cases hs | (obtain ⟨hv, _⟩ := hv; injection hv with hv; subst hv; rfl)
    | bool => have hv : [v] = [.bool x] := hv; injection hv with hv; subst hv; cases dd <;> first | rfl | cases hs
    | str => obtain ⟨hv, _⟩ := hv; injection hv with hv; subst hv; cases dd <;> first | rfl | cases hs
    | st R => simp only [dep] at hd; omega
    | _ => cases hk
  | succ d ih =>
    intro K t x v hT hk hv hd em
    have hf := hE.facts hT
    obtain ⟨dd, hu, hs⟩ := hf.ow
    rw [Instr.checkKey]
    simp only [Sem.run_bind, run_underlying hu, Result.andThen_ok]
    cases K with
    | int k => cases dd <;> first | cases hs | (obtain ⟨hv, _⟩ := hv; injection hv with hv; subst hv; rfl)
    | bool => have hv : [v] = [.bool x] := hv; injection hv with hv; subst hv; cases dd <;> first | rfl | cases hs
    | str => obtain ⟨hv, _⟩ := hv; injection hv with hv; subst hv; cases dd <;> first | rfl | cases hs
    | st R =>
      obtain ⟨vs, rfl, hr⟩ := hv
      have hlen := bx _ _ _ _ _ hr
      obtain ⟨_, _, cG⟩ := sd hE hk
      simp only [dep] at hd
      rcases cG with ⟨fs, nI, hfc, _⟩ | ⟨m, e, nI, hec⟩
      · rw [hu] at nI
        injection nI with nI
        subst nI
        simp only
        rw [← Array.forIn_toList]
        have each := B4 hE fs.toList R 0 hs hfc x vs.toArray (by simp [hlen]) (by simp only [List.drop_zero]; rw [List.take_of_length_le (by simp [hlen])]; exact hr)
        generalize fs.toList = L at each
        induction L with
        | nil => simp
        | cons f L ihL =>
          obtain ⟨hn, T, y, u, hTy, hkT, hdT, p1, cE⟩ := each f (List.mem_cons_self ..)
          have p2 := ih T f.type y u hTy hkT cE (by omega) em
          simp only [List.forIn_cons, Sem.run_bind, hn, ne_eq, not_false_eq_true, if_true, Result.andThen_ok, p1, p2, Sem.run_pure]
          have hL := ihL fun g hg => each g (List.mem_cons_of_mem _ hg)
          simp only [Sem.run_bind, ne_eq, Sem.run_pure] at hL
          exact hL
      · rw [hu] at nI
        injection nI with nI
        subst nI
        simp only [cK] at hs
        split at hs
        · rename_i V hV
          simp only [Bool.and_eq_true] at hs
          obtain ⟨⟨⟨h1, h2⟩, h3⟩, h4⟩ := hs
          have h4 := Nat.le_of_ble_eq_true h4
          obtain ⟨m', rfl⟩ : ∃ m', m = m' + 1 := ⟨m - 1, by omega⟩
          have hR := Ty.cJ h1
          subst hR
          have hfV := hE.facts hV
          have hkV : jN E e V := by
            unfold p8 at hec
            rw [hV] at hec
            cases V <;> first | trivial | exact hec | cases hec
          have hdV : dep V ≤ d := by
            have : ∀ n, dep V ≤ dep (rowOf V (n + 1)) := by
              intro n
              cases n with
              | zero => exact Nat.le_refl _
              | succ n => simp only [rowOf, dep]; omega
            have := this m'
            omega
          have EJ := mS V (m' + 1)
          have each := EI (w := w) (M := M) h2 m' 0 x vs.toArray (by simp [hlen, EJ]) (by simp only [Nat.zero_mul, List.drop_zero]; rw [List.take_of_length_le (by simp [hlen, EJ])]; exact hr)
          simp only [Std.Legacy.Range.forIn_eq_forIn_range', Std.Legacy.Range.size, Nat.sub_zero, Nat.add_one_sub_one, Nat.div_one]
          have KB : ∀ i, i ∈ List.range' 0 (m' + 1) → ∃ y : V.den, i < m' + 1 ∧ aB V y w M ((vs.toArray.toList.drop (i * V.cells)).take V.cells) := by
            intro i hi
            have s8 : i < m' + 1 := by simpa using hi
            obtain ⟨y, hy⟩ := each i (Nat.zero_le _) (by omega)
            exact ⟨y, s8, hy⟩
          generalize List.range' 0 (m' + 1) = is at KB
          induction is with
          | nil => simp
          | cons i is ihL =>
            obtain ⟨y, hi, hy⟩ := KB i (List.mem_cons_self ..)
            have hle : i * V.cells + V.cells ≤ vs.toArray.size := by
              rw [List.size_toArray, hlen, EJ]
              calc i * V.cells + V.cells = (i + 1) * V.cells := by rw [Nat.add_mul, Nat.one_mul]
                _ ≤ (m' + 1) * V.cells := Nat.mul_le_mul_right _ hi
            have p1 := iy hfV (w := w) (cs := vs.toArray) (off := i * V.cells) hle
            have Gq : cH V y w M (valOf V ((vs.toArray.toList.drop (i * V.cells)).take V.cells)) := by
              have := fM hfV.val hy
              have hv := hfV.val
              cases V <;> first | exact this | cases hv
            have p2 := ih V e y _ hV hkV Gq hdV em
            simp only [List.forIn_cons, Sem.run_bind, hfV.sizeOf w, Result.andThen_ok, p1, p2, Sem.run_pure]
            have hL := ihL fun j hj => KB j (List.mem_cons_of_mem _ hj)
            simp only [Sem.run_bind, Sem.run_pure] at hL
            exact hL
        · cases hs
    | _ => cases hk
/-! ### A map's entries -/
def lQ(w:World)(M:Mem)(K V:Ty):List (K.den×V.den)→List MapEntry→Prop|[],[]=>True|y::es,e::l=>(∃ca cb,e.key=valOf K ca∧aB K y.1 w M ca∧e.val=valOf V cb∧aB V y.2 w M cb)∧lQ w M K V es l|_,_=>False
theorem lR {K V:Ty} : ∀(es:List (K.den×V.den))(l:List MapEntry),l.length=es.length→(∀(i:Nat)(y:K.den×V.den),es[i]?=some y→ ∃(e:MapEntry)(ca cb:List Value),l[i]?=some e∧e.key=valOf K ca∧aB K y.1 w M ca∧e.val=valOf V cb∧aB V y.2 w M cb)→lQ w M K V es l|[],[],_,_=>trivial|[],_::_,h,_=>(by simp at h)|_::_,[],h,_=>(by simp at h)|y::es,e::l,hl,h=>by obtain⟨e',ca,cb,h1,h2⟩:=h 0 y rfl;simp only[List.getElem?_cons_zero,Option.some.injEq]at h1;subst h1;exact⟨⟨ca,cb,h2⟩,lR es l (by simpa using hl) fun i z hz=>by simpa using h (i+1) z (by simpa using hz)⟩
theorem jP {T:Ty} {x:T.den} {vs:List Value} (hT:T.val=true)(h:aB T x w M vs):cH T x w M (valOf T vs):=by have:=fM hT h;cases T<;>first|exact this|cases hT
def fx {K V:Type} (eq:K→K→Bool):List (K×V)→K→Option Nat|[],_=>none|p::r,k=>bif eq k p.1 then some 0 else(match fx eq r k with|some i=>some (i+1)|none=>none)
theorem nM {K V:Type} (eq:K→K→Bool)(k:K): ∀(es:List (K×V)),aR eq es k=(fx eq es k).bind fun i=>(es[i]?).map (·.2)|[]=>rfl|p::r=>by simp only[aR,fx];cases eq k p.1 with|true=>rfl|false=>simp only[cond_false,nM eq k r];cases fx eq r k<;>rfl
theorem kW {K V:Type} (eq:K→K→Bool)(k:K)(v:V): ∀(es:List (K×V)),cr eq es k v=(match fx eq es k with|some i=>es.set i (k,v)|none=>es++ [(k,v)])|[]=>rfl|p::r=>by simp only[cr,fx];cases eq k p.1 with|true=>rfl|false=>simp only[cond_false,kW eq k v r];cases fx eq r k<;>rfl
theorem qp {K V:Type} (eq:K→K→Bool)(k:K): ∀(es:List (K×V))(i:Nat),fx eq es k=some i→ ∃p,es[i]?=some p∧eq k p.1=true|[],i,h=>(by cases h)|p::r,i,h=>by simp only[fx]at h;cases hb:eq k p.1 with|true=>rw[hb]at h;injection h with h;subst h;exact⟨p,rfl,hb⟩|false=>rw[hb]at h;simp only[cond_false]at h;split at h;(·rename_i j hj;injection h with h;subst h;obtain⟨q,h1,h2⟩:=qp eq k r j hj;exact⟨q,by simpa using h1,h2⟩);·cases h
theorem H9 {K:Ty} {x y:K.den} {u v:Value} (hp:eK K=true)(hv:K.val=true)(hx:cH K x w M u)(hy:cH K y w M v):x=y→u=v:=by
 intro e;subst e;cases K with|int k=>have hx:aB (.int k) x w M [u]:=hx;have hy:aB (.int k) x w M [v]:=hy;have:=(cl _ _ _ hp hx).trans (cl _ _ _ hp hy).symm;simpa using this|bool=>have hx:aB .bool x w M [u]:=hx;have hy:aB .bool x w M [v]:=hy;have:=(cl _ _ _ hp hx).trans (cl _ _ _ hp hy).symm;simpa using this|str=>have hx:aB .str x w M [u]:=hx;have hy:aB .str x w M [v]:=hy;have:=(cl _ _ _ hp hx).trans (cl _ _ _ hp hy).symm;simpa using this|st R=>obtain⟨vs,rfl,h1⟩:=hx;obtain⟨us,rfl,h2⟩:=hy;rw[cl R _ _ hp h1,cl R _ _ hp h2]|_=>first|cases hp|cases hv
def fF {K V:Ty} (es:List (K.den×V.den))(l:List MapEntry)(k:K.den)(i0:Nat)(res:Option (Nat×Value)):Prop:=match fx (fy K) es k with|none=>res=none|some i=> ∃e,l[i]?=some e∧res=some (i0+i,e.val)
theorem vu(hE:aI E) {K V:Ty} {kt:Nat} (hT:E.ty kt=some K)(hk:zY E kt K=true) {k:K.den} {kv:Value} (rU:cH K k w M kv): ∀(es:List (K.den×V.den))(l:List MapEntry)(i0:Nat),lQ w M K V es l→ ∃res,(Instr.findAsking kt kv l i0).run E.P w= .ok res w∧fF es l k i0 res|[],[],i0,_=>⟨none,by simp[Instr.findAsking],rfl⟩|[],_::_,_,h=>h.elim|_::_,[],_,h=>h.elim|y::es,e::l,i0,h=>by obtain⟨⟨ca,cb,h1,h2,h3,h4⟩,h5⟩:=h;obtain⟨hp,hek,hd,og⟩:=lP hk;(have hrk:cH K y.1 w M e.key:=by rw[h1];exact jP og h2);have heq:(Op.equal kt kv e.key).run E.P w= .ok (fy K k y.1) w:=Kr hE 9999 K kt k y.1 kv e.key _ (hE.facts hT) hek rU hrk (KA K k y.1 hp) (by omega);cases hb:fy K k y.1 with|true=>rw[hb]at heq;exact⟨some (i0,e.val),by simp[Instr.findAsking,heq],by simp only[fF,fx,hb,cond_true];exact⟨e,rfl,rfl⟩⟩|false=>rw[hb]at heq;obtain⟨res,hr,hf⟩:=vu hE hT hk rU es l (i0+1) h5;refine⟨res,by simp[Instr.findAsking,heq,hr],?_⟩;simp only[fF,fx,hb,cond_false]at hf⊢;cases hm:fx (fy K) es k with|none=>rw[hm]at hf;exact hf|some i=>rw[hm]at hf;obtain⟨e',tX,EK⟩:=hf;exact⟨e',by simpa using tX,by rw[EK];simp only[Option.some.injEq,Prod.mk.injEq,and_true];omega⟩
theorem qq {K V:Ty} {d:TypeDesc} (hs:(match K with|.int l=>(match d with|.int k=>iG k l|_=>false)|.bool=>(match d with|.bool=>true|_=>false)|.str=>(match d with|.string=>true|_=>false)|_=>false)=true) {k:K.den} {kv:Value} (rU:cH K k w M kv): ∀(es:List (K.den×V.den))(l:List MapEntry)(i0:Nat),lQ w M K V es l→ ∃res,Instr.findNow d kv l i0=some res∧fF es l k i0 res|[],[],i0,_=>⟨none,rfl,rfl⟩|[],_::_,_,h=>h.elim|_::_,[],_,h=>h.elim|y::es,e::l,i0,h=>by obtain⟨⟨ca,cb,h1,h2,h3,h4⟩,h5⟩:=h;(have qu:Instr.sameNow d kv e.key=some (fy K k y.1):=by cases K with|int kk=>have rU:aB (.int kk) k w M [kv]:=rU;have e1:=cl (.int kk) k _ rfl rU;have e2:=cl (.int kk) y.1 _ rfl h2;simp only[iN,List.cons.injEq,and_true]at e1 e2;subst e1;rw[h1,e2];(cases d<;>first|(cases hs;done)|skip);simp only[Instr.sameNow,valOf,List.headD_cons,if_true,fy];congr 1|bool=>have rU:aB .bool k w M [kv]:=rU;have e1:=cl .bool k _ rfl rU;have e2:=cl .bool y.1 _ rfl h2;simp only[iN,List.cons.injEq,and_true]at e1 e2;subst e1;rw[h1,e2];(cases d<;>first|rfl|(cases hs;done))|str=>have rU:aB .str k w M [kv]:=rU;have e1:=cl .str k _ rfl rU;have e2:=cl .str y.1 _ rfl h2;simp only[iN,List.cons.injEq,and_true]at e1 e2;subst e1;rw[h1,e2];(have hb: ∀a b:List UInt8,((⟨a.toArray⟩:ByteArray)==⟨b.toArray⟩)=decide (a=b):=by intro a b;rw[Bool.eq_iff_iff,bytes_beq,decide_eq_true_iff];constructor;(·intro h;injection h with h;simpa using congrArg Array.toList h);·intro h;rw[h]);(cases d<;>first|(cases hs;done)|skip);simp only[Instr.sameNow,valOf,List.headD_cons,hb,fy]|_=>cases hs);cases hb:fy K k y.1 with|true=>rw[hb]at qu;exact⟨some (i0,e.val),by simp[Instr.findNow,qu],by simp only[fF,fx,hb,cond_true];exact⟨e,rfl,rfl⟩⟩|false=>rw[hb]at qu;obtain⟨res,hr,hf⟩:=qq hs rU es l (i0+1) h5;refine⟨res,by simp[Instr.findNow,qu,hr],?_⟩;simp only[fF,fx,hb,cond_false]at hf⊢;cases hm:fx (fy K) es k with|none=>rw[hm]at hf;exact hf|some i=>rw[hm]at hf;obtain⟨e',tX,EK⟩:=hf;exact⟨e',by simpa using tX,by rw[EK];simp only[Option.some.injEq,Prod.mk.injEq,and_true];omega⟩
theorem qv(hE:aI E) {K V:Ty} {kt:Nat} (hT:E.ty kt=some K)(hk:zY E kt K=true) {k:K.den} {kv:Value} (rU:cH K k w M kv)(es:List (K.den×V.den))(l:List MapEntry)(h:lQ w M K V es l): ∃res,(Instr.findKey kt kv l).run E.P w= .ok res w∧fF es l k 0 res:=by
 obtain⟨d,hu,hs⟩:=(hE.facts hT).ow;(have now: ∀res,Instr.findNow d kv l 0=some res→(Instr.findKey kt kv l).run E.P w= .ok res w:=fun res hr=>by simp[Instr.findKey,run_underlying hu,hr])
 (have ask:Instr.findNow d kv l 0=none→ ∃res,(Instr.findKey kt kv l).run E.P w= .ok res w∧fF es l k 0 res:=fun hr=>by obtain⟨res,h1,h2⟩:=vu hE hT hk rU es l 0 h;exact⟨res,by simp[Instr.findKey,run_underlying hu,hr,h1],h2⟩)
 cases K with|int kk=>obtain⟨res,h1,h2⟩:=qq (d:=d) (by cases d<;>first|exact hs|cases hs) rU es l 0 h;exact⟨res,now res h1,h2⟩|bool=>obtain⟨res,h1,h2⟩:=qq (d:=d) (by cases d<;>first|exact hs|cases hs) rU es l 0 h;exact⟨res,now res h1,h2⟩|str=>obtain⟨res,h1,h2⟩:=qq (d:=d) (by cases d<;>first|exact hs|cases hs) rU es l 0 h;exact⟨res,now res h1,h2⟩|st R=>(match es,l,h with|[],[],_=>exact⟨none,now none rfl,rfl⟩|y::es,e::l,h=>refine ask ?_;simp only[cK]at hs;cases d<;>first|(cases hs;done)|rfl)|_=>cases hk
end
end Go.Proofs.Ytefpgfdemmllpaa
namespace Go.Proofs.Ytefpgfdemmllpaa
open Go.RowKit Go.MapKept
section
variable {E:Env} {n:Nat} {w0:World} {S0:Cx} {s:St} {a:Act} {w:World} {ν:Nat→Value} {S:Nat→Prop} {F:cT} {o:Oper} {K:St→Prop} {Q:Exit→Act→World→Prop}
theorem vw(hE:aI E) {t:Nat} {A B:Ty} (hT:E.ty t=some (.mp A B)): ∃k v,E.P.underlying t=some (.map k v)∧E.ty k=some A∧E.ty v=some B∧A.val=true∧B.val=true∧aL A=0∧aL B=0:=by
 have hf:=hE.facts hT;obtain⟨d,hu,hs⟩:=hf.ow;have ho:=hf.own;simp only[aL]at ho;cases d with|map k v=>simp only[cK,Bool.and_eq_true]at hs;obtain⟨⟨⟨h1,h2⟩,h3⟩,h4⟩:=hs;(have is: ∀(u:Nat)(U:Ty),mN E.ty u U=true→E.ty u=some U:=by intro u U h;unfold mN at h;split at h;(·rename_i X hX;rw[Ty.cJ h]at hX;exact hX);·cases h);exact⟨k,v,hu,is _ _ h1,is _ _ h2,h3,h4,by omega,by omega⟩|_=>simp only[cK]at hs;cases hs
theorem Gv(hE:aI E) {t kt:Nat} (hk:E.mapKey t=some kt) {k v:Nat} (hu:E.P.underlying t=some (.map k v)):kt=k:=by
 have:=hE.mapKey t kt hk;unfold Gf at this;rw[hu]at this;exact Nat.eq_of_beq_eq_true this
theorem EL(hE:aI E)(h:Full n w0 S0 s a w ν S)(ho:cd n o=true) {t:Nat} (aK:o.op= .makeMap t none)(ab:a8 E (ai E F s o) (fun l=>K (s.fin o.dst l))):o.wp E.P a w (fun a' w'=> ∃s',K s'∧Rel n w0 S0 s' a' w') Q:=by
 simp only[ai,aK]at ab;split at ab;(·rename_i A B d hT hd;split at ab;(·rename_i hl;simp only[a8,St.fin,hd]at ab;obtain⟨k,v,hu,_,_,_,_,Od,Gw⟩:=vw hE hT;(have hr:(execOp a.eval o).run E.P w= .ok (.value (.map (some w.heap.size))) (w.alloc (.map #[] 0)):=by simp only[execOp,aK,Instr.makeMap,Option.map_none,Sem.run_bind,Result.andThen_ok,Sem.run_pure];rfl);refine cD hr ⟨_,ab,?_⟩;rw[hd];have hh:(w.alloc (.map #[] 0)).heap[w.heap.size]?=some (.map #[] 0):=_root_.Go.heap_alloc_new w _;refine(h.new (b:=.mp A B []) (p:=.lmap d) (v:=.map (some w.heap.size)) (val:=.map (some w.heap.size)) (bq ho d hd) hl (ey w _ none) (fun g hg=>h.beyond (by injection hg with hg;omega)) ?_ ?_).rel;(·refine⟨Od,Gw,by simp,w.heap.size,#[],0,by simp,h.W.size _ (Nat.le_refl _),fun hS=>absurd (h.W.lt _ hS) (by simp),hh,⟨rfl,fun i e hi=>by simp at hi⟩,rfl,fun i y hy=>by simp at hy⟩);·simp only[ae];exact⟨⟨_,aY _ _ _⟩,by simp,_,rfl⟩);·exact ab.elim)
 ·exact ab.elim
theorem Full.entries(h:Full n w0 S0 s a w ν S) {A B:Ty} {p:PV} {v:Value} {es:List (A.den×B.den)} (hx:mw F s.bl A B p=some es)(hp:ae h.c p v):(v= .map none∧es=[])∨ ∃(r:Nat)(ay:Array MapEntry)(clock:Nat),v= .map (some r)∧w.heap[r]?=some (.map ay clock)∧mC ay clock∧ay.size=es.length∧lQ w ⟨S,aF w0 S0⟩ A B es ay.toList:=by
 cases p with|iv U y=>simp only[mw]at hx;obtain⟨e,hx⟩:=Ty.aZ hx;subst e;simp only at hx;subst hx;simp only[ae]at hp;obtain⟨_,hp⟩:=hp;have hp:aB (.mp A B) y w ⟨S,aF w0 S0⟩ [v]:=hp;obtain⟨_,hc⟩:=hp;rcases hc with⟨hv,he⟩|⟨r,ay,clock,hv,hS,hh,hb,hs,hr⟩;(·injection hv with hv;exact .inl ⟨hv,he⟩);(·injection hv with hv;exact .inr ⟨r,ay,clock,hv,hh,hb,hs,lR _ _ (by simpa using hs) (by simpa using hr)⟩)|lmap id=>simp only[mw]at hx;split at hx;(·rename_i A' B' ys hl;obtain⟨hl,_⟩:=cj hl;obtain⟨e,hx⟩:=Ty.aZ hx;injection e with e1 e2;subst e1;subst e2;simp only at hx;subst hx;simp only[ae]at hp;obtain⟨ck,p6,h0,r,ay,clock,h1,h2,h3,h4,h5,h6,h7⟩:=h.W.cc _ _ hl;refine .inr ⟨r,ay,clock,?_,h4,h5,h6,lR _ _ (by simpa using h6) (by simpa using h7)⟩;rw[hp.2.1];exact h1);(·cases hx)|_=>simp only[mw]at hx;cases hx
theorem B5: ∀(T:Ty),eK T=true→T.flat=true:=by intro T;induction T<;>simp_all[eK,Ty.flat]
theorem Full.key(h:Full n w0 S0 s a w ν S) {A:Ty} {kt:Nat} (hk:zY E kt A=true) {q:PV} {v:Value} {k:A.den} (hx:exp F s.bl A q=some k)(hq:ae h.c q v)(M:Mem):cH A k w M v:=by
 obtain⟨hp,_,_,_⟩:=lP hk;have u9:=B5 A hp;have hR:Reads F s h.c ⟨fun b=>b<w.heap.size,aF w0 S0⟩:=⟨rfl,h.W.cc,fun b hb=>h.W.lt b hb,fun id _⟨b,hb⟩g hg=>(h.gF hb hg).2.2⟩
 exact Ao u9 (dZ hR (.inl (yG A u9)) hx hq)
theorem KC: ∀(T:Ty),T.F7=true→ ∃vs,cU T=some vs:=by
 intro T;induction T with|pair a b gE fK=>intro h;simp only[Ty.F7,Bool.and_eq_true]at h;obtain⟨x,hx⟩:=gE h.1;obtain⟨y,hy⟩:=fK h.2;exact⟨x++y,by simp only[cU,hx,hy]⟩|st t ih=>intro h;exact ih h|_=>intro h;first|exact⟨_,rfl⟩|cases h
theorem se {T:Ty} {z:Value} {M:Mem} (hz:mM (some z) T=true)(hT:T.F7=true)(hv:T.val=true):cH T (de T) w M z:=by
 obtain⟨vs,Ae⟩:=KC T hT;have hr:=mV (w:=w) (M:=M) T vs hT Ae;unfold mM at hz;rw[Ae]at hz;simp only at hz;split at hz;(·split at hz;(·rename_i cs;have:=j6 hz;exact⟨vs,by rw[←this],hr⟩);·cases hz)
 ·split at hz;(·rename_i gG _ u;have:=lL hz;subst this;cases T<;>first|exact hr|(cases hv;done)|(exact absurd rfl (gG _)));·cases hz
theorem Ap {c:Ctx} {T:Ty} {z:Value} {cs:List PV} (hz:mM (some z) T=true)(hv:T.val=true)(hc:zeroCells T=some cs)(Eb:z.cells.size=T.cells):ae c (join T cs) z:=by
 obtain⟨vs,JI,bf,h1⟩:=mR (c:=c) T cs hc;have hz':=jJ hz JI;(have og:z=valOf T vs:=by unfold mM at hz;rw[JI]at hz;simp only at hz;split at hz;(·split at hz;(·rename_i BL;have:=j6 hz;simp only[valOf];rw[←this]);·cases hz);·split at hz;(·rename_i gG _ u;have:=lL hz;subst this;cases T<;>first|rfl|(cases hv;done)|(exact absurd rfl (gG _)));·cases hz)
 rw[og];exact iu (by rw[←hz',Array.length_toList,Eb]) hv h1 bf
theorem gk {c:Ctx} {ps:List PV} {vs:List Value} (h:ah c ps vs):ae c (.bk ps) (.tuple vs.toArray):=by simp only[ae];exact⟨vs,rfl,h⟩
theorem jl {c:Ctx} {p q:PV} {u v:Value} (h1:ae c p u)(h2:ae c q v):ah c [p,q] [u,v]:=by simp only[ah];exact⟨_,_,rfl,h1,_,_,rfl,h2,rfl⟩
def vy(z:Value):Option (Nat×Value)→Value|some (_,v)=>v|none=>z
theorem vz {P:Program} {t kt ve:TypeId} {xv kv z:Value} {ok:Bool} {l:List MapEntry} {res:Option (Nat×Value)} (hu:P.underlying t=some (.map kt ve))(Ia:(xv= .map none∧l=[])∨ ∃(r:Nat)(ay:Array MapEntry)(clock:Nat),xv= .map (some r)∧w.heap[r]?=some (.map ay clock)∧ay.toList=l)(Gx: ∀em,(Instr.checkKey em 10000 kt kv).run P w= .ok () w)(gJ:(Instr.findKey kt kv l).run P w= .ok res w)(hz:(zeroValue ve).run P w= .ok z w):(Instr.lookup t xv kv ok).run P w= .ok (if ok then .tuple #[vy z res,.bool res.isSome]else vy z res) w:=by
 unfold Instr.lookup;rcases Ia with⟨rfl,rfl⟩|⟨r,ay,clock,rfl,hh,rfl⟩;(·cases res with|none=>cases ok<;>simp[run_underlying hu,Gx,gJ,hz,vy]|some p=>cases ok<;>simp[run_underlying hu,Gx,gJ,vy])
 ·cases res with|none=>cases ok<;>simp[run_underlying hu,MapKept.run_getObj_map hh,Gx,gJ,hz,vy]|some p=>cases ok<;>simp[run_underlying hu,MapKept.run_getObj_map hh,Gx,gJ,vy]
theorem Ib(hE:aI E)(h:Full n w0 S0 s a w ν S)(ho:cd n o=true) {t:Nat} {x y:Operand} {ok:Bool} (aK:o.op= .lookup t x y ok)(ab:a8 E (ai E F s o) (fun l=>K (s.fin o.dst l))):o.wp E.P a w (fun a' w'=> ∃s',K s'∧Rel n w0 S0 s' a' w') Q:=by
 simp only[ai,aK,lJ]at ab;have hx:=h.ev (aD ho (x:=x) (by simp[aK,Op.operands]));have hy:=h.ev (aD ho (x:=y) (by simp[aK,Op.operands]));split at ab;(·rename_i A B kt hT hkt;split at ab;(·rename_i es k Vw hk uc;obtain⟨k',ve,hu,Vx,hTB,JN,Bp,Od,Gw⟩:=vw hE hT;have Vi:=Gv hE hkt hu;subst Vi;obtain⟨hp,hek,OL,_⟩:=lP uc;have EM:=h.entries Vw hx;have rU:=h.key uc hk hy ⟨S,aF w0 S0⟩;obtain⟨i,hi,cP,TS,BP,z,hz,Eb⟩:=(hE.facts hTB).info;rw[hz]at BP;(have ac4:(zeroValue ve).run E.P w= .ok z w:=by simp only[zeroValue,typeInfo,Sem.run_bind,run_program,Result.andThen_ok,hi,hz,Sem.run_pure]);have Gx: ∀em,(Instr.checkKey em 10000 kt (a.eval y)).run E.P w= .ok () w:=fun em=>nL hE 9999 A kt k _ Vx hek rU (by omega) em;(obtain⟨res,l,Ia,gJ,dh,hl⟩: ∃(res:Option (Nat×Value))(l:List MapEntry),((a.eval x= .map none∧l=[])∨ ∃(r:Nat)(ay:Array MapEntry)(clock:Nat),a.eval x= .map (some r)∧w.heap[r]?=some (.map ay clock)∧ay.toList=l)∧(Instr.findKey kt (a.eval y) l).run E.P w= .ok res w∧fF es l k 0 res∧lQ w ⟨S,aF w0 S0⟩ A B es l:=by rcases EM with⟨hv,rfl⟩|⟨r,ay,clock,hv,hh,hb,hs,hr⟩;(·obtain⟨res,h1,h2⟩:=qv hE (V:=B) Vx uc rU [] [] trivial;exact⟨res,[],.inl ⟨hv,rfl⟩,h1,h2,trivial⟩);·obtain⟨res,h1,h2⟩:=qv hE (V:=B) Vx uc rU es ay.toList hr;exact⟨res,ay.toList,.inr ⟨r,ay,clock,hv,hh,rfl⟩,h1,h2,hr⟩);(have ac5:(execOp a.eval o).run E.P w= .ok (.value (if ok then .tuple #[vy z res,.bool res.isSome]else vy z res)) w:=by simp only[execOp,aK,Sem.run_bind,vz (ok:=ok) hu Ia Gx gJ ac4,Result.andThen_ok,Sem.run_pure]);cases hm:fx (fy A) es k with|none=>simp only[fF,hm]at dh;subst dh;(have OP:aR (fy A) es k=none:=by rw[nM,hm];rfl);have aV:=ac5;simp only[vy,Option.isSome_none]at aV;(have ac6:ae h.c (uZ B) z:=by unfold uZ;split;(·rename_i ql;exact bz Gw (se BP ql Bp) Bp);·split;(·rename_i cs BQ;exact Ap BP Bp BQ Eb);·simp only[ae]);split at ab;(·rename_i ql;rw[OP]at ab;refine h.val ho aV ?_ ab;simp only[Option.getD_none,Bool.false_eq_true,if_false];exact bz Gw (se BP ql Bp) Bp);(·exact h.val ho aV (by simpa using ac6) (ab.2 OP));(·refine h.val ho aV ?_ (ab.2 OP);have h2:ae h.c (.iv .bool false) (.bool false):=bI;simp only[if_true];exact gk (jl ac6 h2));(·obtain⟨v,hv,_⟩:=ab;rw[OP]at hv;cases hv);(·rename_i ql _;rw[OP]at ab;refine h.val ho aV ?_ ab;have h2:ae h.c (.iv .bool false) (.bool false):=bI;simp only[if_true];exact gk (jl (bz Gw (se BP ql Bp) Bp) h2));(·obtain⟨v,hv,_⟩:=ab;rw[OP]at hv;cases hv)|some j=>simp only[fF,hm]at dh;obtain⟨e,he,rfl⟩:=dh;obtain⟨yy,EN,_⟩:=qp _ _ _ _ hm;(have Kk:aR (fy A) es k=some yy.2:=by rw[nM,hm];simp[EN]);(have bS:cH B yy.2 w ⟨S,aF w0 S0⟩ e.val:=by(have at_: ∀(es:List (A.den×B.den))(l:List MapEntry)(j:Nat)(yy:A.den×B.den)(e:MapEntry),lQ w ⟨S,aF w0 S0⟩ A B es l→es[j]?=some yy→l[j]?=some e→cH B yy.2 w ⟨S,aF w0 S0⟩ e.val:=by intro es;induction es with|nil=>intro l j yy e _ h1;simp at h1|cons p es ih=>intro l j yy e hl h1 h2;cases l with|nil=>exact hl.elim|cons q l=>cases j with|zero=>simp only[List.getElem?_cons_zero,Option.some.injEq]at h1 h2;subst h1;subst h2;obtain⟨⟨ca,cb,_,_,h3,h4⟩,_⟩:=hl;rw[h3];exact jP Bp h4|succ j=>exact ih l j yy e hl.2 (by simpa using h1) (by simpa using h2));exact at_ es l j yy e hl EN he);have aV:=ac5;simp only[vy,Option.isSome_some]at aV;have JH:ae h.c (.iv B yy.2) e.val:=bz Gw bS Bp;split at ab;(·rename_i ql;rw[Kk]at ab;exact h.val ho aV (by simpa using JH) ab);(·exact h.val ho aV (by simpa using JH) (ab.1 _ Kk));(·refine h.val ho aV ?_ (ab.1 _ Kk);have h2:ae h.c (.iv .bool true) (.bool true):=bI;simp only[if_true];exact gk (jl JH h2));(·obtain⟨v,hv,rV⟩:=ab;rw[Kk]at hv;injection hv with hv;subst hv;exact h.val ho aV (by simpa using JH) rV);(·rw[Kk]at ab;refine h.val ho aV ?_ ab;have h2:ae h.c (.iv .bool true) (.bool true):=bI;simp only[if_true];exact gk (jl JH h2));·obtain⟨v,hv,rV⟩:=ab;rw[Kk]at hv;injection hv with hv;subst hv;refine h.val ho aV ?_ rV;have h2:ae h.c (.iv .bool true) (.bool true):=bI;simp only[if_true];exact gk (jl JH h2));·exact ab.elim)
 ·exact ab.elim
theorem yH {T:Ty} {x:T.den} {M:Mem} {v:Value} (hT:T.val=true)(h:cH T x w M v):v=valOf T v.cells.toList∧aB T x w M v.cells.toList:=by
 refine⟨?_,jC hT h⟩;cases T with|st t=>obtain⟨vs,rfl,_⟩:=h;rfl|unit=>cases hT|pair a b=>cases hT|bk a b=>cases hT|_=>have hr:=jC hT h;have hl:=bx _ _ _ _ _ hr;simp only[Ty.cells]at hl;have h1:=pY _ _ _ _ _ h v (List.mem_singleton.2 rfl);cases v<;>first|rfl|(simp[Value.oneCell']at h1;done)
theorem kd(w:World)(r:Nat)(o:Obj):dD w { w with heap:=w.heap.setIfInBounds r o } (some r):=⟨rfl,rfl,rfl,by simp,fun k _ hk=>by have hkr:r≠k:=fun e=>hk (by rw[e]);simp[hkr],fun _=>Nat.le_refl _⟩
theorem yI {w w':World} {M M':Mem} {A B:Ty} (hA:aL A=0)(hB:aL B=0)(hw: ∀b,M.S b→w'.heap[b]?=w.heap[b]?)(hS: ∀b,M.S b→M'.S b): ∀(es:List (A.den×B.den))(l:List MapEntry),lQ w M A B es l→lQ w' M' A B es l|[],[],_=>trivial|[],_::_,h=>h.elim|_::_,[],h=>h.elim|y::es,e::l,h=>by obtain⟨⟨ca,cb,h1,h2,h3,h4⟩,h5⟩:=h;exact⟨⟨ca,cb,h1,au hw hS _ _ _ hA h2,h3,au hw hS _ _ _ hB h4⟩,yI hA hB hw hS es l h5⟩
theorem qw {w:World} {M:Mem} {A B:Ty} : ∀(es:List (A.den×B.den))(l:List MapEntry),lQ w M A B es l→l.length=es.length|[],[],_=>rfl|[],_::_,h=>h.elim|_::_,[],h=>h.elim|y::es,e::l,h=>by simp[qw es l h.2]
theorem qx {w:World} {M:Mem} {A B:Ty} : ∀(es:List (A.den×B.den))(l:List MapEntry),lQ w M A B es l→ ∀(i:Nat)(y:A.den×B.den),es[i]?=some y→ ∃(e:MapEntry)(ca cb:List Value),l[i]?=some e∧e.key=valOf A ca∧aB A y.1 w M ca∧e.val=valOf B cb∧aB B y.2 w M cb|[],[],_,i,y,hy=>(by simp at hy)|[],_::_,h,_,_,_=>h.elim|_::_,[],h,_,_,_=>h.elim|y::es,e::l,h,i,z,hz=>by cases i with|zero=>simp only[List.getElem?_cons_zero,Option.some.injEq]at hz;subst hz;obtain⟨⟨ca,cb,h1⟩,_⟩:=h;exact⟨e,ca,cb,rfl,h1⟩|succ i=>simpa using qx es l h.2 i z (by simpa using hz)
theorem B6 {w:World} {M:Mem} {A B:Ty} {y:A.den×B.den} {f:MapEntry} (hf: ∃ca cb,f.key=valOf A ca∧aB A y.1 w M ca∧f.val=valOf B cb∧aB B y.2 w M cb): ∀(es:List (A.den×B.den))(l:List MapEntry)(i:Nat),lQ w M A B es l→lQ w M A B (es.set i y) (l.set i f)|[],[],_,_=>trivial|[],_::_,_,h=>h.elim|_::_,[],_,h=>h.elim|z::es,e::l,i,h=>by cases i with|zero=>exact⟨hf,h.2⟩|succ i=>exact⟨h.1,B6 hf es l i h.2⟩
theorem yJ {w:World} {M:Mem} {A B:Ty} {y:A.den×B.den} {f:MapEntry} (hf: ∃ca cb,f.key=valOf A ca∧aB A y.1 w M ca∧f.val=valOf B cb∧aB B y.2 w M cb): ∀(es:List (A.den×B.den))(l:List MapEntry),lQ w M A B es l→lQ w M A B (es++ [y]) (l++ [f])|[],[],_=>⟨hf,trivial⟩|[],_::_,h=>h.elim|_::_,[],h=>h.elim|z::es,e::l,h=>⟨h.1,yJ hf es l h.2⟩
theorem qy(hE:aI E)(h:Full n w0 S0 s a w ν S)(ho:cd n o=true) {t:Nat} {x y z:Operand} (aK:o.op= .mapUpdate t x y z∨o.op= .insert t x y z)(ab:a8 E (ai E F s o) (fun l=>K (s.fin o.dst l))):o.wp E.P a w (fun a' w'=> ∃s',K s'∧Rel n w0 S0 s' a' w') Q:=by
 (have ab:a8 E (match o.dst with|none=>jA E F s.bl t (s.ev x) (s.ev y) (s.ev z)|some _=>.fail 79) (fun l=>K (s.fin o.dst l)):=by cases hd:o.dst with|none=>rcases aK with aK|aK<;>(simp only[ai,aK,hd]at ab;exact ab)|some d=>rcases aK with aK|aK<;>(simp only[ai,aK,hd]at ab;exact ab))
 (have mem: ∀u,u=x∨u=y∨u=z→lM u=true:=by intro u hu;refine aD ho ?_;rcases aK with aK|aK<;>rcases hu with rfl|rfl|rfl<;>simp[aK,Op.operands]);have hx:=h.ev (mem x (.inl rfl))
 have hy:=h.ev (mem y (.inr (.inl rfl)));have hz:=h.ev (mem z (.inr (.inr rfl)));(have ac7: ∀w',(Instr.mapUpdate t (a.eval x) (a.eval y) (a.eval z)).run E.P w= .ok () w'→(execOp a.eval o).run E.P w= .ok .skip w':=by intro w' hr;rcases aK with aK|aK<;>simp only[execOp,aK,Sem.run_bind,hr,Result.andThen_ok,Sem.run_pure])
 split at ab;(·rename_i hd;simp only[jA]at ab;split at ab;(·rename_i A B kt hT hkt;split at ab;(·rename_i id bS;split at ab;(·rename_i A' B' zs hl;obtain⟨hl,_⟩:=cj hl;split at ab;(·rename_i es k v jM hk uc Gn Gp hr3 hr4 hv;obtain⟨e',kR⟩:=Ty.aZ jM;injection e' with e1 e2;subst e1;subst e2;simp only at kR;subst kR;obtain⟨hlen,hK⟩:=ab;obtain⟨k',ve,hu,Vx,hTB,JN,Bp,Od,Gw⟩:=vw hE hT;have Vi:=Gv hE hkt hu;subst Vi;obtain⟨hp,hek,OL,_⟩:=lP uc;have rU:=h.key uc hk hy ⟨S,aF w0 S0⟩;have hvv:cH _ v w ⟨S,aF w0 S0⟩ (a.eval z):=h.Kf Gw hr3 hr4 hv hz;rw[bS]at hx;simp only[ae]at hx;obtain⟨_,hxv,_⟩:=hx;obtain⟨ck,p6,h0,r,ay,clock,h1,h2,h3,h4,h5,h6,h7⟩:=h.W.cc _ _ hl;simp only[Full.c]at hxv;simp only at h1 h2 h3 h4;have hl7:=lR (w:=w) (M:=⟨S,aF w0 S0⟩) zs ay.toList (by simpa using h6) (by simpa using h7);obtain⟨res,gJ,dh⟩:=qv hE (V:=B') Vx uc rU zs ay.toList hl7;have Gx: ∀em,(Instr.checkKey em 10000 kt (a.eval y)).run E.P w= .ok () w:=fun em=>nL hE 9999 _ kt k _ Vx hek rU (by omega) em;(have ji:aq (ν id)=some r:=by rw[h1];rfl);(have hf: ∀bb:Nat,∃ca cb,(⟨a.eval y,a.eval z,bb⟩:MapEntry).key=valOf A' ca∧aB A' k w ⟨S,aF w0 S0⟩ ca∧(⟨a.eval y,a.eval z,bb⟩:MapEntry).val=valOf B' cb∧aB B' v w ⟨S,aF w0 S0⟩ cb:=fun bb=>by obtain⟨g1,g2⟩:=yH JN rU;obtain⟨g3,g4⟩:=yH Bp hvv;exact⟨_,_,g1,g2,g3,g4⟩);(have fin: ∀(dL:Array MapEntry)(c7:Nat),(Instr.mapUpdate t (a.eval x) (a.eval y) (a.eval z)).run E.P w= .ok () { w with heap:=w.heap.setIfInBounds r (.map dL c7) } →mC dL c7→lQ w ⟨S,aF w0 S0⟩ A' B' (cr (fy A') zs k v) dL.toList→o.wp E.P a w (fun a' w'=> ∃s',K s'∧Rel n w0 S0 s' a' w') Q:=by intro dL c7 aV j5 gD;refine jI (ac7 _ aV) ⟨_,hK,?_⟩;rw[hd];have oR:=kd w r (.map dL c7);have hS: ∀b,S b→({ w with heap:=w.heap.setIfInBounds r (.map dL c7) } :World).heap[b]?=w.heap[b]?:=fun b hb=>oR.block b (h.W.lt b hb) (fun e=>by injection e with e;subst e;exact h3 hb);have JD:({ w with heap:=w.heap.setIfInBounds r (.map dL c7) } :World).heap[r]?=some (.map dL c7):=(MapKept.heap_set h4).1;have ac8:=yI (M:=⟨S,aF w0 S0⟩) (M':=⟨S,aF w0 S0⟩) ck p6 hS (fun _ h=>h) _ _ gD;refine(h.pO (b':=.mp A' B' (cr (fy A') zs k v)) hl (by rw[ji];exact oR) ?_).rel;exact⟨ck,p6,hlen,r,dL,c7,h1,h2,h3,JD,j5,by simpa using qw _ _ ac8,fun i yy EN=>by simpa using qx _ _ ac8 i yy EN⟩);cases hm:fx (fy A') zs k with|none=>simp only[fF,hm]at dh;subst dh;refine fin (ay.push ⟨a.eval y,a.eval z,clock⟩) (clock+1) ?_ ?_ ?_;(·rw[hxv,h1];simp[Instr.mapUpdate,run_underlying hu,MapKept.run_getObj_map h4,Gx,gJ,MapKept.run_setObj_map _ h4]);(·obtain⟨hc,hb⟩:=h5;subst hc;refine⟨by simp,fun i e hi=>?_⟩;rw[Array.getElem?_push]at hi;split at hi;(·rename_i JO;injection hi with hi;subst hi;exact JO.symm);·exact hb i e hi);(·rw[kW,hm];simp only[Array.toList_push];exact yJ (hf clock) zs ay.toList hl7)|some j=>simp only[fF,hm]at dh;obtain⟨e,he,rfl⟩:=dh;obtain⟨yy,EN,heq⟩:=qp _ _ _ _ hm;have heq:=(ur _ _ _ hp).1 heq;(have tX:ay[j]?=some e:=by simpa using he);obtain⟨e2,ca,cb,g1,g2,g3,g4,g5⟩:=qx zs ay.toList hl7 j yy EN;rw[he]at g1;injection g1 with g1;subst g1;(have Vy:e.key=a.eval y:=by refine H9 (M:=⟨S,aF w0 S0⟩) (w:=w) hp JN (x:=yy.1) (y:=k) ?_ rU heq.symm;rw[g2];exact jP JN g3);refine fin (ay.modify j fun e=> { e with key:=a.eval y,val:=a.eval z }) clock ?_ ?_ ?_;(·rw[hxv,h1];simp[Instr.mapUpdate,run_underlying hu,MapKept.run_getObj_map h4,Gx,gJ,tX,Vy,qo hp JN rU,MapKept.run_setObj_map _ h4]);(·obtain⟨hc,hb⟩:=h5;refine⟨by simpa using hc,fun i e2 hi=>?_⟩;rw[Array.getElem?_modify]at hi;split at hi;(·rename_i eL;subst eL;rw[tX]at hi;simp only[Option.map_some,Option.some.injEq]at hi;subst hi;exact hb _ e tX);·exact hb i e2 hi);·rw[kW,hm];(have as5:(ay.modify j fun e=> { e with key:=a.eval y,val:=a.eval z }).toList=ay.toList.set j ⟨a.eval y,a.eval z,e.born⟩:=by apply List.ext_getElem?;intro i;rw[Array.getElem?_toList,Array.getElem?_modify,List.getElem?_set];by_cases eL:j=i;(·subst eL;have N7:j<ay.toList.length:=(List.getElem?_eq_some_iff.1 he).1;rw[tX,if_pos rfl,if_pos rfl,if_pos N7];rfl);·simp[eL]);rw[as5];exact B6 (hf e.born) zs ay.toList j hl7);·exact ab.elim);·exact ab.elim);·exact ab.elim);·exact ab.elim)
 ·exact ab.elim
end
end Go.Proofs.Ytefpgfdemmllpaa
namespace Go.Proofs.Ytefpgfdemmllpaa
open Go.RowKit
section
variable {E:Env} {n:Nat} {w0:World} {S0:Cx} {s:St} {a:Act} {w:World} {ν:Nat→Value} {S:Nat→Prop} {F:cT} {o:Oper} {K:St→Prop} {Q:Exit→Act→World→Prop}
theorem EO(s:ByteArray)(i:Nat):(Utf8.decode s i).1≤1114111:=by
 (have hv: ∀c:Nat,Utf8.valid (c:Int)=true→c≤1114111:=by intro c h;unfold Utf8.valid at h;simp only[Bool.or_eq_true,Bool.and_eq_true,decide_eq_true_eq]at h;omega)
 unfold Utf8.decode;simp only;split;(·simp only;omega);·split;(·split;(·simp only;omega);·simp only[Utf8.runeError];omega);·split;(·split;(·rename_i h;simp only[Bool.and_eq_true]at h;exact hv _ h.2);·simp only[Utf8.runeError];omega);·split;(·split;(·rename_i h;simp only[Bool.and_eq_true]at h;exact hv _ h.2);·simp only[Utf8.runeError];omega);·simp only[Utf8.runeError];omega
theorem Full.TZ(h:Full n w0 S0 s a w ν S) {d:Nat} (hd:d<n)(hl:look d s.bl=none) {ob:Obj} {b:aO} (hb: ∀c:Ctx,c.ν d= .pointer (some ⟨w.heap.size,0,none⟩)→c.M.O w.heap.size→ ¬c.M.S w.heap.size→c.w.heap[w.heap.size]?=some ob→Ctx.Le h.c c→jB c d b):Rel n w0 S0 ⟨(d,.ref d 0)::s.sl,(d,b)::s.bl⟩ (a.put (some d) (.pointer (some ⟨w.heap.size,0,none⟩))) (w.alloc ob):=by
 have hh:(w.alloc ob).heap[w.heap.size]?=some ob:=_root_.Go.heap_alloc_new w _;refine(h.new (b:=b) (p:=.ref d 0) (v:=.pointer (some ⟨w.heap.size,0,none⟩)) (val:=.pointer (some ⟨w.heap.size,0,none⟩)) hd hl (ey w _ none) (fun g hg=>h.beyond (by injection hg with hg;simp only at hg;omega)) ?_ ?_).rel
 (·refine hb _ (by simp) (h.W.size _ (Nat.le_refl _)) (fun hS=>absurd (h.W.lt _ hS) (by simp)) hh ⟨fun g hg=>?_,fun _ h=>h,fun i hi=>?_,fun i hi=>?_⟩;(·exact(ey w ob none).block g (h.W.lt g hg) (by simp));(·obtain⟨c,hc⟩:=hi;(have cu:i≠d:=by rintro rfl;rw[hl]at hc;cases hc);exact⟨c,by rw[aS _ _ cu];exact hc⟩);·obtain⟨c,hc⟩:=hi;(have cu:i≠d:=by rintro rfl;rw[hl]at hc;cases hc);simp[Full.c,cu])
 ·simp only[ae];exact⟨⟨_,aY _ _ _⟩,w.heap.size,by simp,rfl⟩
theorem KD(hE:aI E)(h:Full n w0 S0 s a w ν S)(ho:cd n o=true) {t:Nat} {x:Operand} (aK:o.op= .range t x)(ab:a8 E (ai E F s o) (fun l=>K (s.fin o.dst l))):o.wp E.P a w (fun a' w'=> ∃s',K s'∧Rel n w0 S0 s' a' w') Q:=by
 simp only[ai,aK]at ab;have hx:=h.ev (aD ho (x:=x) (by simp[aK,Op.operands]));split at ab;(·rename_i d hd;split at ab;(·rename_i hl;have Oe:=bq ho d hd;simp only[Ei]at ab;split at ab;(·rename_i hT;obtain⟨dd,hu,hs⟩:=(hE.facts hT).ow;(have nK:dd= .string:=by cases dd<;>first|rfl|cases hs);subst nK;split at ab;(·rename_i y bS;rw[bS]at hx;obtain⟨hv,hlen⟩:=dK hx;simp only[a8,St.fin,hd]at ab;(have hr:(execOp a.eval o).run E.P w= .ok (.value (.pointer (some ⟨w.heap.size,0,none⟩))) (w.alloc (.stringIter ⟨y.toArray⟩ 0)):=by simp only[execOp,aK,Instr.range,hv,Sem.run_bind,run_underlying hu,Result.andThen_ok,Sem.run_pure];rfl);refine cD hr ⟨_,ab,?_⟩;rw[hd];exact h.TZ Oe hl fun c h1 h2 h3 h4 _=>⟨_,h1,h2,h3,h4,hlen⟩);·exact ab.elim);(·rename_i A B hT;obtain⟨k,v,hu,_,_,_,_,Od,Gw⟩:=vw hE hT;split at ab;(·rename_i es Vw;have EM:=h.entries Vw hx;(have go: ∀(src:PV),ae h.c src (a.eval x)→K ⟨(d,.ref d 0)::s.sl,(d,.it [src] es.length [])::s.bl⟩→o.wp E.P a w (fun a' w'=> ∃s',K s'∧Rel n w0 S0 s' a' w') Q:=by intro src kV hK;(obtain⟨m,hm,hr⟩: ∃m:Option Nat,a.eval x= .map m∧(execOp a.eval o).run E.P w= .ok (.value (.pointer (some ⟨w.heap.size,0,none⟩))) (w.alloc (.mapIter m es.length #[] es.length)):=by rcases EM with⟨hv,rfl⟩|⟨r,ay,clock,hv,hh,hb,hs,_⟩;(·refine⟨none,hv,?_⟩;simp only[execOp,aK,Instr.range,hv,Sem.run_bind,run_underlying hu,Result.andThen_ok,Sem.run_pure];rfl);·refine⟨some r,hv,?_⟩;have hc:clock=es.length:=hb.1.trans hs;subst hc;simp only[execOp,aK,Instr.range,hv,Sem.run_bind,run_underlying hu,MapKept.run_getObj_map hh,Result.andThen_ok,Sem.run_pure];rfl);refine cD hr ⟨_,hK,?_⟩;rw[hd];refine h.TZ Oe hl fun c h1 h2 h3 h4 hle=>⟨_,m,h1,h2,h3,h4,?_⟩;simp only[ah];exact⟨_,[],rfl,eI hle (by rw[←hm];exact kV),rfl⟩);split at ab;(·rename_i K' V' y bS;simp only[a8,St.fin,hd]at ab;exact go _ (by rw[←bS];exact hx) ab);(·rename_i id bS;simp only[a8,St.fin,hd]at ab;exact go _ (by rw[←bS];exact hx) ab);·exact ab.elim);·exact ab.elim);·exact ab.elim);·exact ab.elim)
 ·exact ab.elim
theorem Full.behind(h:Full n w0 S0 s a w ν S) {src:List PV} {m:Option Nat} {A B:Ty} {es:List (A.den×B.den)} (hx:kO E F s.bl src=some ⟨A,B,es⟩)(hp:ah h.c src [.map m]):aL A=0∧aL B=0∧A.val=true∧B.val=true∧((m=none∧es=[])∨ ∃(r:Nat)(ay:Array MapEntry)(clock:Nat),m=some r∧w.heap[r]?=some (.map ay clock)∧mC ay clock∧lQ w ⟨S,aF w0 S0⟩ A B es ay.toList):=by
 unfold kO at hx;split at hx;(·rename_i K' V' ys;split at hx;(case h_2=>cases hx);rename_i hvK hvV;injection hx with hx;injection hx with e1 e2;subst e1;have e2:=eq_of_heq e2;injection e2 with e2 e3;subst e2;have e3:=eq_of_heq e3;subst e3;simp only[ah,ae]at hp;obtain⟨v,r,hv,⟨ho,hr⟩,_⟩:=hp;injection hv with hv;subst hv;simp only[aL]at ho;refine⟨by omega,by omega,hvK,hvV,?_⟩;have hr:aB (.mp K' V') ys w ⟨S,aF w0 S0⟩ [.map m]:=hr;rcases hr.2 with⟨hv,he⟩|⟨r,ay,clock,hv,hS,hh,hb,hs,hr⟩;(·injection hv with hv;injection hv with hv;exact .inl ⟨hv,he⟩);·injection hv with hv;injection hv with hv;exact .inr ⟨r,ay,clock,hv,hh,hb,lR _ _ (by simpa using hs) (by simpa using hr)⟩)
 (·rename_i id;split at hx;(·rename_i K' V' ys hl;obtain⟨hl,_⟩:=cj hl;split at hx;(case h_2=>cases hx);rename_i hvK hvV;injection hx with hx;injection hx with e1 e2;subst e1;have e2:=eq_of_heq e2;injection e2 with e2 e3;subst e2;have e3:=eq_of_heq e3;subst e3;simp only[ah,ae]at hp;obtain⟨v,r,hv,⟨_,cX,_⟩,_⟩:=hp;injection hv with hv;subst hv;obtain⟨ck,p6,h0,r,ay,clock,h1,h2,h3,h4,h5,h6,h7⟩:=h.W.cc _ _ hl;refine⟨ck,p6,hvK,hvV,.inr ⟨r,ay,clock,?_,h4,h5,lR _ _ (by simpa using h6) (by simpa using h7)⟩⟩;simp only[Full.c]at cX;simp only at h1;rw[h1]at cX;injection cX);·cases hx)
 ·cases hx
theorem OQ(hE:aI E)(h:Full n w0 S0 s a w ν S)(ho:cd n o=true) {x:Operand} {isS:Bool} (aK:o.op= .next x isS)(ab:a8 E (ai E F s o) (fun l=>K (s.fin o.dst l))):o.wp E.P a w (fun a' w'=> ∃s',K s'∧Rel n w0 S0 s' a' w') Q:=by
 simp only[ai,aK,J3]at ab;have hx:=h.ev (aD ho (x:=x) (by simp[aK,Op.operands]));split at ab;(·rename_i id bS;rw[bS]at hx;simp only[ae]at hx;obtain⟨_,g,hg,hv⟩:=hx;simp only[Full.c]at hg;(have pO: ∀ {b b':aO} {w':World} {p:PV} {v:Value},look id s.bl=some b→dD w w' (some g)→jB ⟨ν,s.D,w',⟨S,aF w0 S0⟩⟩ id b'→ae ⟨ν,s.D,w',⟨S,aF w0 S0⟩⟩ p v→K (s.fin o.dst (.pO id b' p))→(execOp a.eval o).run E.P w= .ok (.value v) w'→o.wp E.P a w (fun a' w'=> ∃s',K s'∧Rel n w0 S0 s' a' w') Q:=by intro b b' w' p v hl hw hb hp hK aV;refine cD aV ⟨_,hK,?_⟩;have hu:=h.pO (b':=b') hl (by rw[hg];exact hw) hb;(have hD:(⟨s.sl,(id,b')::s.bl⟩:St).D=s.D:=by funext i;refine propext ⟨fun⟨c,hc⟩=>?_,fun⟨c,hc⟩=>?_⟩;(·by_cases hi:i=id;(·subst hi;exact⟨b,hl⟩);·rw[aS _ _ hi]at hc;exact⟨c,hc⟩);·by_cases hi:i=id;(·subst hi;exact⟨b',aY _ _ _⟩);·exact⟨c,by rw[aS _ _ hi];exact hc⟩);have BU:=hu.put (p:=p) (v:=v) (bq ho) (by simp only[Full.c,hD];exact hp);(have Ic:s.fin o.dst (.pO id b' p)=(⟨s.sl,(id,b')::s.bl⟩:St).put o.dst p:=by simp only[St.fin];cases o.dst<;>rfl);rw[Ic];exact BU.rel);(have Vz:(Instr.next (a.eval x) isS o.type).run E.P w= .ok (.tuple #[.bool false]) w→K (s.fin o.dst (.val (.bk [.iv .bool false])))→o.wp E.P a w (fun a' w'=> ∃s',K s'∧Rel n w0 S0 s' a' w') Q:=by intro hr hK;refine h.val ho (v:=.tuple #[.bool false]) ?_ ?_ hK;(·simp only[execOp,aK,Sem.run_bind,hr,Result.andThen_ok,Sem.run_pure]);·exact gk (vs:=[.bool false]) (by simp only[ah];exact⟨_,[],rfl,bI,rfl⟩));(have exec: ∀v w',(Instr.next (a.eval x) isS o.type).run E.P w= .ok v w'→(execOp a.eval o).run E.P w= .ok (.value v) w':=fun v w' hr=>by simp only[execOp,aK,Sem.run_bind,hr,Result.andThen_ok,Sem.run_pure]);split at ab;(·rename_i y pos hl;obtain⟨hl,_⟩:=cj hl;obtain⟨g',h1,h2,h3,h4,h5⟩:=h.W.cc _ _ hl;simp only at h1 h2 h3 h4;rw[hg]at h1;(obtain rfl:g=g':=by injection h1 with e1;injection e1 with e1;injection e1);split at ab;(·obtain⟨Gu,Bo⟩:=ab;(have cP:(⟨y.toArray⟩:ByteArray).size=y.length:=by simp[ByteArray.size]);(have KE: ∀o',(setObj g o').run E.P w= .ok () { w with heap:=w.heap.setIfInBounds g o' } :=fun o'=>by simp[setObj,Sem.run,h4]);by_cases hp:pos<y.length;(·have hK:=Gu hp;have hd:=EO ⟨y.toArray⟩ pos;refine pO hl (kd w g (.stringIter ⟨y.toArray⟩ (pos+(Utf8.decode ⟨y.toArray⟩ pos).2))) ?_ ?_ hK (exec (.tuple #[.bool true,.int .i64 (pos:Int),.int .i32 ((Utf8.decode ⟨y.toArray⟩ pos).1:Int)]) _ ?_);(·exact⟨g,hg,h2,h3,(MapKept.heap_set h4).1,h5⟩);(·refine gk (vs:=[.bool true,.int .i64 (pos:Int),.int .i32 ((Utf8.decode ⟨y.toArray⟩ pos).1:Int)]) ?_;simp only[ah];exact⟨_,_,rfl,bI,_,_,rfl,cm (by show(-9223372036854775808:Int)≤_∧_≤(9223372036854775807:Int);omega),_,_,rfl,cm (by show(-2147483648:Int)≤_∧_≤(2147483647:Int);omega),rfl⟩);·simp only[hv,Instr.next,Sem.run_bind];rw[show(getObj g).run E.P w= .ok (.stringIter ⟨y.toArray⟩ pos) w from by simp[getObj,Sem.run,h4]];simp only[Result.andThen_ok,cP,hp,if_true,Sem.run_bind,KE,Sem.run_pure];rfl);·refine Vz ?_ (Bo (by omega));simp only[hv,Instr.next,Sem.run_bind];rw[show(getObj g).run E.P w= .ok (.stringIter ⟨y.toArray⟩ pos) w from by simp[getObj,Sem.run,h4]];simp only[Result.andThen_ok,cP,hp,if_false,Sem.run_pure]);·exact ab.elim);(·rename_i src since seen hl;obtain⟨hl,_⟩:=cj hl;obtain⟨g',m,h1,h2,h3,h4,h6⟩:=h.W.cc _ _ hl;simp only at h1 h2 h3 h4;rw[hg]at h1;(obtain rfl:g=g':=by injection h1 with e1;injection e1 with e1;injection e1);split at ab;(·rename_i A B es Vw;obtain⟨KF,Gu,Bo⟩:=ab;obtain⟨Od,Gw,JN,Bp,cG⟩:=h.behind Vw h6;rcases cG with⟨rfl,rfl⟩|⟨r,ay,clock,rfl,hh,hb,hr⟩;(·refine Vz ?_ (Bo (fun i hi=>by simp at hi));simp only[hv,Instr.next,Sem.run_bind];rw[show(getObj g).run E.P w= .ok (.mapIter none since seen.toArray since) w from by simp[getObj,Sem.run,h4]];simp only[Result.andThen_ok,Sem.run_pure]);·have hlen:=qw _ _ hr;(have cP:ay.size=es.length:=by simpa using hlen);obtain⟨VA,vA⟩:=hb;(have hold: ∀y,y∈ay.toList→y.born<since:=fun y hy=>by obtain⟨i,hi⟩:=List.getElem?_of_mem hy;(have s8:ay[i]?=some y:=by simpa using hi);rw[vA i y s8,←KF,←cP];exact(Array.getElem?_eq_some_iff.1 s8).1);(have ke: ∀y,y∈(leftOf ay seen.toArray).toList↔ ∃i,ay[i]?=some y∧i∉seen:=by intro y;unfold leftOf;simp only[Array.toList_filter,List.mem_filter,Array.mem_toList_iff];constructor;(·rintro⟨h1,h2⟩;obtain⟨i,hi⟩:=Array.getElem?_of_mem h1;refine⟨i,hi,?_⟩;rw[←vA i y hi];simpa using h2);·rintro⟨i,hi,hn⟩;refine⟨Array.mem_of_getElem? hi,?_⟩;rw[vA i y hi];simpa using hn);rcases run_next_at (P:=E.P) w o.type g r since since seen.toArray ay clock h4 hh hold (Nat.le_refl _)with⟨h0,aV⟩|⟨e,he,w1,hw1,aV⟩;(·refine Vz (by rw[hv];exact aV) (Bo fun i hi=>?_);by_cases jk:i∈seen;(·exact jk);·exfalso;(have JO:i<ay.size:=by omega);have:=(ke ay[i]).2 ⟨i,by simp,jk⟩;have Ec:(leftOf ay seen.toArray).toList=[]:=List.eq_nil_of_length_eq_zero (by simpa using h0);rw[Ec]at this;cases this);·obtain⟨i,hi,jk⟩:=(ke e).1 he;(have JO:i<es.length:=by rw[←cP];exact(Array.getElem?_eq_some_iff.1 hi).1);obtain⟨yy,EN⟩: ∃yy,es[i]?=some yy:=⟨_,List.getElem?_eq_getElem JO⟩;have hK:=Gu i ⟨JO,jk⟩ yy EN;obtain⟨e2,ca,cb,g1,g2,g3,g4,g5⟩:=qx es ay.toList hr i yy EN;(have s8:ay.toList[i]?=some e:=by simpa using hi);rw[s8]at g1;injection g1 with g1;subst g1;have Gy:=vA i e hi;(have oR:dD w (ChangeMaps.setBlock w1 g (.mapIter (some r) since (seen.toArray.push e.born) clock)) (some g):=by rcases hw1 with rfl|rfl;(·exact kd _ g _);·refine⟨rfl,rfl,rfl,by simp[ChangeMaps.setBlock],fun k _ hk=>?_,fun _=>?_⟩;(·have hkr:g≠k:=fun e=>hk (by rw[e]);show(w.drew.heap.setIfInBounds g _)[k]?=w.heap[k]?;rw[Array.getElem?_setIfInBounds_ne hkr];rfl);·exact Nat.le_succ _);have hSg: ∀b,S b→(ChangeMaps.setBlock w1 g (.mapIter (some r) since (seen.toArray.push e.born) clock)).heap[b]?=w.heap[b]?:=fun b hb=>oR.block b (h.W.lt b hb) (fun e=>by injection e with e;subst e;exact h3 hb);have VB:Ctx.Le ⟨ν,s.D,w,⟨S,aF w0 S0⟩⟩ ⟨ν,s.D,ChangeMaps.setBlock w1 g (.mapIter (some r) since (seen.toArray.push e.born) clock),⟨S,aF w0 S0⟩⟩:=⟨hSg,fun _ h=>h,fun _ h=>h,fun _ _=>rfl⟩;(have hg1:w1.heap[g]?=some (.mapIter (some r) since seen.toArray since):=by rcases hw1 with rfl|rfl<;>exact h4);(have BQ:clock=since:=by omega);refine pO hl oR ?_ ?_ hK (exec _ _ (by rw[hv];exact aV));(·refine⟨g,some r,hg,h2,h3,?_,bZ VB h6⟩;have:=(MapKept.heap_set (o':=Obj.mapIter (some r) since (seen.toArray.push e.born) clock) hg1).1;rw[Gy,BQ]at this⊢;simpa[ChangeMaps.setBlock]using this);·have hk:ae h.c (.iv A yy.1) e.key:=bz Od (by rw[g2];exact jP JN g3) JN;have hvv:ae h.c (.iv B yy.2) e.val:=bz Gw (by rw[g4];exact jP Bp g5) Bp;refine gk (vs:=[.bool true,e.key,e.val]) ?_;simp only[ah];exact⟨_,_,rfl,bI,_,_,rfl,eI VB hk,_,_,rfl,eI VB hvv,rfl⟩);·exact ab.elim);·exact ab.elim)
 ·exact ab.elim
theorem KG(hE:aI E)(h:Full n w0 S0 s a w ν S)(ho:cd n o=true) {x:Operand} (aK:o.op= .entry x)(ab:a8 E (ai E F s o) (fun l=>K (s.fin o.dst l))):o.wp E.P a w (fun a' w'=> ∃s',K s'∧Rel n w0 S0 s' a' w') Q:=by
 simp only[ai,aK,Ej]at ab;have hx:=h.ev (aD ho (x:=x) (by simp[aK,Op.operands]));split at ab;(·rename_i id bS;rw[bS]at hx;simp only[ae]at hx;obtain⟨_,g,hg,hv⟩:=hx;simp only[Full.c]at hg;split at ab;(·rename_i src since seen hl;obtain⟨hl,_⟩:=cj hl;obtain⟨g',m,h1,h2,h3,h4,h6⟩:=h.W.cc _ _ hl;simp only at h1 h2 h3 h4;rw[hg]at h1;(obtain rfl:g=g':=by injection h1 with e1;injection e1 with e1;injection e1);split at ab;(·rename_i A B es Vw;obtain⟨KF,yy,⟨i,ac9,EN⟩,hK⟩:=ab;obtain⟨Od,Gw,JN,Bp,cG⟩:=h.behind Vw h6;rcases cG with⟨_,rfl⟩|⟨r,ay,clock,rfl,hh,hb,hr⟩;(·simp at EN);·obtain⟨ss,hss⟩: ∃ss,seen=ss++ [i]:=List.getLast?_eq_some_iff.1 ac9;have hlen:=qw _ _ hr;(have cP:ay.size=es.length:=by simpa using hlen);obtain⟨VA,vA⟩:=hb;obtain⟨e,ca,cb,g1,g2,g3,g4,g5⟩:=qx es ay.toList hr i yy EN;(have hi:ay[i]?=some e:=by simpa using g1);have Gy:=vA i e hi;(have BQ:since=clock:=by omega);(have oS:(ay.toList.map (·.born)).Nodup:=by(have:ay.toList.map (·.born)=List.range ay.size:=by apply List.ext_getElem;(·simp);·intro j h1 h2;simp only[List.getElem_map,List.getElem_range,Array.getElem_toList];exact vA j _ (Array.getElem?_eq_getElem (by simpa using h1)));rw[this];exact List.nodup_range);(have h4':w.heap[g]?=some (.mapIter (some r) since (ss.toArray.push e.born) clock):=by rw[h4,hss,Gy,←BQ];simp);have aV:=run_entry_at (P:=E.P) w g r since ss.toArray ay clock e h4' hh (Array.mem_toList_iff.2 (Array.mem_of_getElem? hi)) oS;refine h.val ho (v:=.tuple #[e.key,e.val]) ?_ ?_ hK;(·simp only[execOp,aK,hv,Sem.run_bind,aV,Result.andThen_ok,Sem.run_pure]);·have hk:ae h.c (.iv A yy.1) e.key:=bz Od (by rw[g2];exact jP JN g3) JN;have hvv:ae h.c (.iv B yy.2) e.val:=bz Gw (by rw[g4];exact jP Bp g5) Bp;exact gk (jl hk hvv));·exact ab.elim);·exact ab.elim)
 ·exact ab.elim
end
end Go.Proofs.Ytefpgfdemmllpaa
namespace Go.Proofs.Ytefpgfdemmllpaa
open Go.RowKit
structure Ctx.OR(ks:List Nat)(ρ:Nat→Nat)(c c':Ctx):Prop where
 heap: ∀b,c.M.S b→c'.w.heap[b]?=c.w.heap[b]?
 S: ∀b,c.M.S b→c'.M.S b
 D: ∀i,aj i ks=true→c.D i→c'.D (ρ i)
 ν: ∀i,aj i ks=true→c.D i→c'.ν (ρ i)=c.ν i
mutual theorem kX {ks:List Nat} {ρ:Nat→Nat} {c c':Ctx} (hc:c.OR ks ρ c'): ∀ {p:PV} {v:Value},PV.D6 ks p=true→ae c p v→ae c' (p.fE ρ) v|.iv T x,v,_,h=>(by simp only[PV.fE,ae]at h⊢;exact⟨h.1,fL hc.heap hc.S h.1 h.2⟩)|.ref id off,v,hi,h=>(by simp only[PV.fE,ae]at h⊢;obtain⟨hd,g,h1,h2⟩:=h;exact⟨hc.D _ hi hd,g,by rw[hc.ν _ hi hd];exact h1,h2⟩)|.eh T x off,v,_,h=>(by simp only[PV.fE,ae]at h⊢;obtain⟨ho,g,o,cs,h1,h2,h3,h4,h5⟩:=h;exact⟨ho,g,o,cs,h1,hc.S _ h2,h3,h4.mono (hc.heap _ h2),au hc.heap hc.S _ _ _ ho h5⟩)|.aE id,v,hi,h=>(by simp only[PV.fE,ae]at h⊢;exact⟨hc.D _ hi h.1,by rw[hc.ν _ hi h.1];exact h.2.1,h.2.2⟩)|.lmap id,v,hi,h=>(by simp only[PV.fE,ae]at h⊢;exact⟨hc.D _ hi h.1,by rw[hc.ν _ hi h.1];exact h.2.1,h.2.2⟩)|.iH id sz off len,v,hi,h=>(by simp only[PV.fE,ae]at h⊢;obtain⟨hd,a,n,cap,b,h1,h2⟩:=h;exact⟨hc.D _ hi hd,a,n,cap,b,by rw[hc.ν _ hi hd];exact h1,h2⟩)|.fu id sz i off,v,hi,h=>(by simp only[PV.fE,ae]at h⊢;obtain⟨hd,g,o,n,cap,h1,h2⟩:=h;exact⟨hc.D _ hi hd,g,o,n,cap,by rw[hc.ν _ hi hd];exact h1,h2⟩)|.agg cs,v,hi,h=>(by simp only[PV.fE,ae]at h⊢;obtain⟨vs,h1,h0,h2⟩:=h;exact⟨vs,h1,h0,dH hc hi h2⟩)|.bk cs,v,hi,h=>(by simp only[PV.fE,ae]at h⊢;obtain⟨vs,h1,h2⟩:=h;exact⟨vs,h1,dH hc hi h2⟩)|.bF,v,_,h=>(by simp only[PV.fE,ae]at h⊢;exact h)|.bT,v,_,h=>(by simp only[PV.fE,ae]at h⊢;exact h)|.gP i base T n j,v,hi,h=>(by simp only[PV.fE,ae]at h⊢;obtain⟨hd,h0,hn,g,h1,h2⟩:=h;exact⟨hc.D _ hi hd,h0,hn,g,by rw[hc.ν _ hi hd];exact h1,h2⟩)|.tU f cs,v,hi,h=>(by simp only[PV.fE,ae]at h⊢;obtain⟨vs,h1,h2⟩:=h;exact⟨vs,h1,dH hc hi h2⟩)|.mD f cs,v,hi,h=>(by simp only[PV.fE,ae]at h⊢;obtain⟨vs,h1,h2⟩:=h;exact⟨vs,h1,dH hc hi h2⟩)|.clip T xs,v,_,h=>(by simp only[PV.fE,ae]at h⊢;exact⟨h.1,h.2.1,au hc.heap hc.S (.sl T) _ _ h.1 h.2.2⟩)|.fn f cs,v,hi,h=>(by simp only[PV.fE,ae]at h⊢;obtain⟨vs,h1,h2⟩:=h;exact⟨vs,h1,dH hc hi h2⟩)|.any,v,_,h=>by simp only[PV.fE,ae]theorem dH {ks:List Nat} {ρ:Nat→Nat} {c c':Ctx} (hc:c.OR ks ρ c'): ∀ {ps:List PV} {vs:List Value},PV.jY ks ps=true→ah c ps vs→ah c' (PV.fY ρ ps) vs|[],vs,_,h=>(by simp only[PV.fY,ah]at h⊢;exact h)|p::ps,vs,hi,h=>by simp only[PV.jY,Bool.and_eq_true]at hi;simp only[PV.fY,ah]at h⊢;obtain⟨v,r,h1,h2,h3⟩:=h;exact⟨v,r,h1,kX hc hi.1 h2,dH hc hi.2 h3⟩end
def vB(ks:List Nat):aO→Bool|.box cs _=>PV.jY ks cs|.it cs _ _=>PV.jY ks cs|_=>true
theorem gm {c:Ctx} {i:Nat} {b:aO} (h:jB c i b) {g:Nat} (hg:aq (c.ν i)=some g):c.M.O g∧ ¬c.M.S g∧g<c.w.heap.size:=by
 cases b with|box cs te=>obtain⟨_,g',vs,e,h1,h2,h3,h4,_⟩:=h;rw[h1]at hg;injection hg with hg;simp only at hg;subst hg;exact⟨h2,h3,(Array.getElem?_eq_some_iff.1 h4).1⟩|arr T xs te=>obtain⟨_,ho,v,hv,_,h2⟩:=h;injection hv with hv;rw[hv]at hg;rcases h2 with⟨rfl,_⟩|⟨g',o,cap,cur,e,rfl,h3,h4,h5,h6,h7,_⟩;(·cases hg);(·injection hg with hg;simp only at hg;subst hg;exact⟨h6,h5,(Array.getElem?_eq_some_iff.1 h7).1⟩)|mp K V es=>obtain⟨_,_,_,r,ay,clock,h1,h2,h3,h4,_⟩:=h;rw[h1]at hg;injection hg with hg;subst hg;exact⟨h2,h3,(Array.getElem?_eq_some_iff.1 h4).1⟩|it src since seen=>obtain⟨g',m,h1,h2,h3,h4,_⟩:=h;rw[h1]at hg;injection hg with hg;simp only at hg;subst hg;exact⟨h2,h3,(Array.getElem?_eq_some_iff.1 h4).1⟩|xL x pos=>obtain⟨g',h1,h2,h3,h4,_⟩:=h;rw[h1]at hg;injection hg with hg;simp only at hg;subst hg;exact⟨h2,h3,(Array.getElem?_eq_some_iff.1 h4).1⟩
theorem qz {ks:List Nat} {ρ:Nat→Nat} {c c':Ctx} (hc:c.OR ks ρ c') {i:Nat} {b:aO} (hi:vB ks b=true)(cX:c'.ν (ρ i)=c.ν i)(hg: ∀g,aq (c.ν i)=some g→c'.w.heap[g]?=c.w.heap[g]?∧c'.M.O g∧ ¬c'.M.S g)(h:jB c i b):jB c' (ρ i) (b.map (PV.fY ρ)):=by
 cases b with|box cs te=>obtain⟨ik,g,vs,e,h1,h2,h3,h4,h0,h5⟩:=h;obtain⟨e1,e2,e3⟩:=hg g (by rw[h1];rfl);exact⟨ik.iY cX fun g vC=>(hg g vC).1,g,vs,e,by rw[cX];exact h1,e2,e3,by rw[e1];exact h4,h0,dH hc hi h5⟩|arr T xs te=>obtain⟨ik,ho,v,hv,h1,h2⟩:=h;injection hv with hv;refine⟨ik.iY cX fun g vC=>(hg g vC).1,ho,v,by rw[cX,hv],h1,?_⟩;rcases h2 with h2|⟨g,o,cap,cur,e,rfl,h3,h4,h5,h6,h7,h8,h9⟩;(·exact .inl h2);(·obtain⟨e1,e2,e3⟩:=hg g (by rw[hv];rfl);refine .inr ⟨g,o,cap,cur,e,rfl,h3,h4,e3,e2,by rw[e1];exact h7,h8,fun i y hy=>?_⟩;obtain⟨cs,hl,zZ,hr⟩:=h9 i y hy;exact⟨cs,hl,zZ.mono e1,au hc.heap hc.S _ _ _ ho hr⟩)|mp K V es=>obtain⟨ck,p6,h0,r,ay,clock,h1,h2,h3,h4,h5,h6,h7⟩:=h;obtain⟨e1,e2,e3⟩:=hg r (by rw[h1];rfl);refine⟨ck,p6,h0,r,ay,clock,by rw[cX];exact h1,e2,e3,by rw[e1];exact h4,h5,h6,fun i y hy=>?_⟩;obtain⟨e,ca,cb,a1,a2,a3,a4,a5⟩:=h7 i y hy;exact⟨e,ca,cb,a1,a2,au hc.heap hc.S _ _ _ ck a3,a4,au hc.heap hc.S _ _ _ p6 a5⟩|it src since seen=>obtain⟨g,m,h1,h2,h3,h4,h6⟩:=h;obtain⟨e1,e2,e3⟩:=hg g (by rw[h1];rfl);exact⟨g,m,by rw[cX];exact h1,e2,e3,by rw[e1];exact h4,dH hc hi h6⟩|xL x pos=>obtain⟨g,h1,h2,h3,h4,h5⟩:=h;obtain⟨e1,e2,e3⟩:=hg g (by rw[h1];rfl);exact⟨g,by rw[cX];exact h1,e2,e3,by rw[e1];exact h4,h5⟩
/-! ### Names -/
theorem eb {i:Nat} : ∀ {l:List Nat},aj i l=true↔i∈l|[]=>(by simp[aj])|k::r=>by simp only[aj,List.mem_cons];cases hb:Nat.beq i k with|true=>simp[Nat.eq_of_beq_eq_true hb]|false=>(have cu:i≠k:=by rintro rfl;simp at hb);simp[cu,eb (l:=r)]
theorem B7 {i:Nat} : ∀ {l:List Nat} {j:Nat},j≤idxOf i l j|[],j=>Nat.le_refl _|k::r,j=>by simp only[idxOf];cases Nat.beq i k with|true=>exact Nat.le_refl _|false=>exact Nat.le_trans (Nat.le_succ j) (B7 (l:=r) (j:=j+1))
theorem Gz {i:Nat} : ∀ {l:List Nat} {j:Nat},aj i l=true→fa l (idxOf i l j-j)=i∧idxOf i l j-j<l.length|[],j,h=>(by cases h)|k::r,j,h=>by simp only[idxOf];simp only[aj]at h;cases hb:Nat.beq i k with|true=>simp only[cond_true,Nat.sub_self,fa,List.length_cons];exact⟨(Nat.eq_of_beq_eq_true hb).symm,by omega⟩|false=>simp only[hb,cond_false]at h⊢;obtain⟨h1,h2⟩:=Gz (l:=r) (j:=j+1) h;have hle:=B7 (i:=i) (l:=r) (j:=j+1);rw[show idxOf i r (j+1)-j=(idxOf i r (j+1)-(j+1))+1 from by omega];simp only[fa,List.length_cons];exact⟨h1,by omega⟩
theorem qA: ∀ {l:List Nat} {j:Nat},j<l.length→aj (fa l j) l=true|[],j,h=>(by simp at h)|x::r,0,_=>(by simp[fa,aj])|x::r,j+1,h=>by simp only[fa,aj];rw[qA (l:=r) (by simpa using h)];cases Nat.beq (fa r j) x<;>rfl
theorem GA: ∀ {l:List Nat} {j k:Nat},lI l=true→j<l.length→idxOf (fa l j) l k=k+j|[],j,k,_,h=>(by simp at h)|x::r,0,k,_,_=>(by simp[fa,idxOf])|x::r,j+1,k,hn,h=>by simp only[lI,Bool.and_eq_true,Bool.not_eq_true']at hn;(have hj:j<r.length:=by simpa using h);simp only[fa,idxOf];(have hb:Nat.beq (fa r j) x=false:=by cases hb:Nat.beq (fa r j) x with|false=>rfl|true=>have:=Nat.eq_of_beq_eq_true hb;rw[←this,qA hj]at hn;cases hn.1);rw[hb,cond_false,GA hn.2 hj];omega
theorem uu {i:Nat} {ids:List Nat} (h:aj i ids=true):P0≤fwd ids i∧fa ids (fwd ids i-P0)=i∧fwd ids i-P0<ids.length:=by
 obtain⟨h1,h2⟩:=Gz (j:=0) h;unfold fwd;rw[Nat.add_sub_cancel_left];exact⟨by omega,by simpa using h1,by simpa using h2⟩
theorem qB {ids:List Nat} {j:Nat} (hn:lI ids=true)(hj:j<ids.length):fwd ids (fa ids j)=P0+j:=by unfold fwd;rw[GA hn hj];omega
theorem kf {ids:List Nat} {bl:List (Nat×aO)} {k:Nat} : ∀ {l:List Nat} {j:Nat},(∀i,i∈l→i∈ids)→look k (cI ids bl l j)=if j≤k∧k-j<l.length then(look (fa l (k-j)) bl).map (aO.map (PV.fY (fwd ids)))else none|[],j,_=>(by simp[cI,look])|i::r,j,hl=>by have ih:=kf (k:=k) (bl:=bl) (l:=r) (j:=j+1) (fun x hx=>hl x (List.mem_cons_of_mem _ hx));by_cases hk:k=j;(·subst hk;simp only[cI,Nat.sub_self,fa,List.length_cons,Nat.le_refl,true_and,Nat.zero_lt_succ,if_true];cases hb:look i bl with|none=>simp only[Option.map_none];rw[ih,if_neg (by omega)]|some b=>simp only[aY,Option.map_some]);·(have e:look k (cI ids bl (i::r) j)=look k (cI ids bl r (j+1)):=by simp only[cI];cases look i bl with|none=>rfl|some b=>exact aS _ _ hk);rw[e,ih];by_cases hjk:j≤k;(·rw[show k-j=(k-(j+1))+1 from by omega];simp only[fa,List.length_cons];by_cases h2:k-(j+1)<r.length;(·rw[if_pos ⟨by omega,h2⟩,if_pos ⟨hjk,by omega⟩]);·rw[if_neg (by omega),if_neg (by omega)]);·rw[if_neg (by omega),if_neg (by omega)]
theorem im {ρ:Nat→Nat} {k:Nat} {b:aO} : ∀ {bl:List (Nat×aO)},(∀i c,look i bl=some c→ρ i=ρ k→i=k)→look k bl=some b→look (ρ k) (iT ρ bl)=some (b.map (PV.fY ρ))|[],_,h=>(by cases h)|p::r,x8,h=>by simp only[iT,look]at h⊢;cases hb:Nat.beq k p.1 with|true=>simp only[hb,cond_true,Option.some.injEq]at h;subst h;have:=Nat.eq_of_beq_eq_true hb;subst this;simp|false=>simp only[hb,cond_false]at h;(have cu:k≠p.1:=by intro e;rw[e]at hb;simp at hb);(have hp:look p.1 (p::r)=some p.2:=by simp[look]);(have:Nat.beq (ρ k) (ρ p.1)=false:=by cases hc:Nat.beq (ρ k) (ρ p.1)with|false=>rfl|true=>exact absurd (x8 p.1 p.2 hp (Nat.eq_of_beq_eq_true hc).symm).symm cu);rw[this,cond_false];refine im (fun i c hc he=>?_) h;by_cases hip:i=p.1;(·rw[hip]at he⊢;exact x8 p.1 p.2 hp he);·exact x8 i c (by rw[show(p::r)=((p.1,p.2)::r)from rfl,aS _ _ hip];exact hc) he
theorem lS {ρ:Nat→Nat} {i:Nat} {b:aO} : ∀ {bl:List (Nat×aO)},(∀j k c e,look j bl=some c→look k bl=some e→ρ j=ρ k→j=k)→look i (iT ρ bl)=some b→ ∃k c,ρ k=i∧look k bl=some c∧b=c.map (PV.fY ρ)|[],_,h=>(by cases h)|p::r,x8,h=>by simp only[iT,look]at h;(have hp:look p.1 (p::r)=some p.2:=by simp[look]);cases hb:Nat.beq i (ρ p.1)with|true=>simp only[hb,cond_true,Option.some.injEq]at h;exact⟨p.1,p.2,(Nat.eq_of_beq_eq_true hb).symm,hp,h.symm⟩|false=>simp only[hb,cond_false]at h;(have cu:i≠ρ p.1:=by intro e;rw[e]at hb;simp at hb);(have up: ∀j c,look j r=some c→j=p.1∨look j (p::r)=some c:=by intro j c hc;by_cases hj:j=p.1;(·exact .inl hj);·exact .inr (by rw[show(p::r)=((p.1,p.2)::r)from rfl,aS _ _ hj];exact hc));obtain⟨k,c,h1,h2,h3⟩:=lS (bl:=r) (fun j k c e hj hk he=>by rcases up j c hj with h'|h';(·rcases up k e hk with OS|OS;(·rw[h',OS]);·exact x8 j k p.2 e (by rw[h'];exact hp) OS he);·rcases up k e hk with OS|OS;(·exact x8 j k c p.2 h' (by rw[OS];exact hp) he);·exact x8 j k c e h' OS he) h;refine⟨k,c,h1,?_,h3⟩;rcases up k c h2 with h'|h';(·exact absurd (by rw[←h1,h']) cu);·exact h'
theorem kg {k:Nat} : ∀ {a b:List (Nat×aO)},look k (a++b)=(match look k a with|some x=>some x|none=>look k b)|[],b=>(by simp[look])|p::r,b=>by simp only[List.cons_append,look];cases Nat.beq k p.1 with|true=>rfl|false=>exact kg (a:=r)
theorem dQ {id:Nat} : ∀ {bl:List (Nat×aO)},aj id (keys bl)=true→ ∃b,look id bl=some b|[],h=>(by cases h)|p::r,h=>by simp only[keys,List.map_cons,aj]at h;simp only[look];cases hb:Nat.beq id p.1 with|true=>exact⟨p.2,rfl⟩|false=>simp only[hb,cond_false]at h⊢;exact dQ h
theorem vD {bl':List (Nat×aO)} {i:Nat} : ∀ {l:List Nat} {j:Nat},aj i (cx bl' l j)=true↔ ∃k,k<l.length∧fa l k=i∧look (j+k) bl'=none|[],j=>(by simp[cx,aj])|x::r,j=>by have ih:=vD (bl':=bl') (i:=i) (l:=r) (j:=j+1);simp only[cx];constructor;(·intro h;cases hl:look j bl' with|some b=>rw[hl]at h;obtain⟨k,h1,h2,h3⟩:=ih.1 h;exact⟨k+1,by simpa using h1,by simpa[fa]using h2,by rw[←h3];congr 1;omega⟩|none=>rw[hl]at h;simp only[aj]at h;cases hb:Nat.beq i x with|true=>exact⟨0,by simp,by simp[fa,Nat.eq_of_beq_eq_true hb],by simpa using hl⟩|false=>simp only[hb,cond_false]at h;obtain⟨k,h1,h2,h3⟩:=ih.1 h;exact⟨k+1,by simpa using h1,by simpa[fa]using h2,by rw[←h3];congr 1;omega⟩);·rintro⟨k,h1,h2,h3⟩;cases k with|zero=>simp only[Nat.add_zero]at h3;simp only[fa]at h2;rw[h3];simp[aj,h2]|succ k=>have:=ih.2 ⟨k,by simpa using h1,by simpa[fa]using h2,by rw[←h3];congr 1;omega⟩;cases look j bl' with|some b=>exact this|none=>simp only[aj,this];cases Nat.beq i x<;>rfl
end Go.Proofs.Ytefpgfdemmllpaa
namespace Go.Proofs.Ytefpgfdemmllpaa
open Go.RowKit
section
variable {E:Env} {n:Nat} {w0:World} {S0:Cx} {s:St} {a:Act} {w:World} {ν:Nat→Value} {S:Nat→Prop}
def ki(S:Nat→Prop)(s:St)(ν:Nat→Value)(ks:List Nat):Nat→Prop:=fun g=>S g∨ ∃i,aj i ks=true∧s.D i∧aq (ν i)=some g
def mkF(f:Nat):Value:=.func (.func f) #[] #[]
theorem B8 {c:Ctx} : ∀ {cs:List PV} {l:List Nat} {vs:List Value},HM cs=some l→ah c cs vs→vs=l.map mkF|[],l,vs,h,hp=>(by simp only[HM,Option.some.injEq]at h;subst h;simp only[ah]at hp;exact hp)|p::r,l,vs,h,hp=>by unfold HM at h;split at h;(·rename_i he;cases he);(·rename_i f r' he;injection he with e1 e2;subst e1;subst e2;split at h;(·rename_i l' hl;injection h with h;subst h;simp only[ah]at hp;obtain⟨v,r,rfl,hv,hr⟩:=hp;simp only[ae]at hv;have OT:[v]=[Value.func (.func f) #[] #[]]:=hv.2;injection OT with OT;rw[OT,B8 hl hr];rfl);·cases h);·cases h
theorem B9 {w:World} {M:Mem} : ∀(x:Nat)(l:List Nat),aB (xR (x::l)) (JX (x::l)) w M ((x::l).map mkF)|x,[]=>rfl|x,y::r=>⟨[mkF x],(y::r).map mkF,rfl,rfl,B9 y r⟩
theorem vE: ∀(x:Nat)(l:List Nat),(xR (x::l)).cells=(x::l).length|x,[]=>rfl|x,y::r=>by show 1+(xR (y::r)).cells=_;rw[vE y r];simp only[List.length_cons];omega
theorem yK: ∀l:List Nat,aL (xR l)=0|[]=>rfl|[_]=>rfl|x::y::r=>by show aL .ba+aL (xR (y::r))=0;rw[yK (y::r)];rfl
mutual theorem yL {c c':Ctx} {ks:List Nat} {bl:List (Nat×aO)} (hw:c'.w=c.w)(hS: ∀b,c.M.S b→c'.M.S b)(hD: ∀i,aj i ks=false→c.D i→c'.D i)(cX:c'.ν=c.ν)(hb: ∀i b,look i bl=some b→jB c i b)(hl: ∀i,aj i ks=true→c.D i→ ∀g,aq (c.ν i)=some g→c'.M.S g): ∀ {p:PV} {v:Value},ae c p v→ae c' (p.aP ks bl) v|.iv T x,v,h=>(by simp only[PV.aP,ae]at h⊢;exact⟨h.1,fL (fun _ _=>by rw[hw]) hS h.1 h.2⟩)|.ref i off,v,h=>(by simp only[PV.aP];cases hi:aj i ks;(·simp only[cond_false,ae]at h⊢;obtain⟨hd,g,h1,h2⟩:=h;exact⟨hD _ hi hd,g,by rw[cX];exact h1,h2⟩);·simp only[cond_true];split;(·rename_i cs te JP;split;(·rename_i x l db;simp only[ae]at h⊢;obtain⟨hd,g,h1,h2⟩:=h;obtain⟨_,g',vs,e,e1,_,_,e2,_,e3⟩:=hb _ _ JP;rw[h1]at e1;injection e1 with e1;injection e1 with e1;injection e1 with e1;subst e1;have Ae:=B8 db e3;refine⟨yK (x::l),g,0,vs.toList,by rw[h2];simp,hl i hi hd g (by rw[h1];rfl),by rw[Ae,List.length_map];exact(vE x l).symm,fun j v hj=>?_,?_⟩;(·rw[hw];simp only[World.cell?,e2,Nat.zero_add];simpa using hj);·rw[Ae];exact B9 x l);·simp only[ae]);·simp only[ae])|.eh T x off,v,h=>(by simp only[PV.aP,ae]at h⊢;obtain⟨ho,g,o,cs,h1,h2,h3,h4,h5⟩:=h;exact⟨ho,g,o,cs,h1,hS _ h2,h3,h4.mono (by rw[hw]),au (fun _ _=>by rw[hw]) hS _ _ _ ho h5⟩)|.aE i,v,h=>(by simp only[PV.aP];cases hi:aj i ks;(·simp only[cond_false,ae]at h⊢;exact⟨hD _ hi h.1,by rw[cX];exact h.2.1,h.2.2⟩);·simp only[cond_true];split;(·rename_i T xs te JP;simp only[ae]at h⊢;obtain⟨nD,ix⟩:=kP (hb _ _ JP);refine⟨by simpa[aL]using nD,?_⟩;have:=nC (M':=c'.M) nD hS ix (hl i hi h.1);rw[h.2.1,hw];exact this);·simp only[ae])|.iH i sz off len,v,h=>(by simp only[PV.aP];cases hi:aj i ks;(·simp only[cond_false,ae]at h⊢;obtain⟨hd,a,n,cap,b,h1,h2⟩:=h;exact⟨hD _ hi hd,a,n,cap,b,by rw[cX];exact h1,h2⟩);·simp only[cond_true];split;(·rename_i T xs te JP;split;(·rename_i cP;have cP:=Nat.eq_of_beq_eq_true cP;simp only[ae]at h⊢;obtain⟨hd,a,n,cap,b,as6,hn,oN,rfl,j5⟩:=h;obtain⟨nD,ix⟩:=kP (hb _ _ JP);refine⟨by simpa[aL]using nD,?_⟩;have kQ:=nC (M':=c'.M) nD hS ix (hl i hi hd);rw[as6]at kQ;(have hlen:n=xs.length:=by obtain⟨a',mL,hv,_⟩:=kQ;injection hv with hv;injection hv);subst hlen;subst cP;rw[hw];exact uo kQ hn j5);·simp only[ae]);·simp only[ae])|.fu i sz j off,v,h=>(by simp only[PV.aP];cases hi:aj i ks;(·simp only[cond_false,ae]at h⊢;obtain⟨hd,g,o,n,cap,h1,h2⟩:=h;exact⟨hD _ hi hd,g,o,n,cap,by rw[cX];exact h1,h2⟩);·simp only[cond_true,ae])|.lmap i,v,h=>(by simp only[PV.aP];cases hi:aj i ks;(·simp only[cond_false,ae]at h⊢;exact⟨hD _ hi h.1,by rw[cX];exact h.2.1,h.2.2⟩);·simp only[cond_true];split;(·rename_i K V es JP;simp only[ae]at h⊢;obtain⟨ck,p6,h0,r,ay,clock,h1,h2,h3,h4,h5,h6,h7⟩:=hb _ _ JP;refine⟨by simp only[aL];omega,?_⟩;rw[hw];exact Gd ck p6 hS h0 (by rw[h.2.1,h1]) (hl i hi h.1 r (by rw[h1];rfl)) h4 h5 h6 h7);·simp only[ae])|.agg cs,v,h=>(by simp only[PV.aP,ae]at h⊢;obtain⟨vs,h1,h0,h2⟩:=h;exact⟨vs,h1,h0,eA hw hS hD cX hb hl h2⟩)|.bk cs,v,h=>(by simp only[PV.aP,ae]at h⊢;obtain⟨vs,h1,h2⟩:=h;exact⟨vs,h1,eA hw hS hD cX hb hl h2⟩)|.bF,v,h=>(by simp only[PV.aP,ae]at h⊢;exact h)|.bT,v,h=>(by simp only[PV.aP,ae]at h⊢;exact h)|.gP i base T n j,v,h=>(by simp only[PV.aP];cases hi:aj i ks;(·simp only[cond_false,ae]at h⊢;obtain⟨hd,h0,hn,g,h1,h2⟩:=h;exact⟨hD _ hi hd,h0,hn,g,by rw[cX];exact h1,h2⟩);·simp only[cond_true,ae])|.tU f cs,v,h=>(by simp only[PV.aP,ae]at h⊢;obtain⟨vs,h1,h2⟩:=h;exact⟨vs,h1,eA hw hS hD cX hb hl h2⟩)|.mD f cs,v,h=>(by simp only[PV.aP,ae]at h⊢;obtain⟨vs,h1,h2⟩:=h;exact⟨vs,h1,eA hw hS hD cX hb hl h2⟩)|.clip T xs,v,h=>(by simp only[PV.aP,ae]at h⊢;exact⟨h.1,h.2.1,au (fun _ _=>by rw[hw]) hS (.sl T) _ _ h.1 h.2.2⟩)|.fn f cs,v,h=>(by simp only[PV.aP,ae]at h⊢;obtain⟨vs,h1,h2⟩:=h;exact⟨vs,h1,eA hw hS hD cX hb hl h2⟩)|.any,v,h=>by simp only[PV.aP,ae]theorem eA {c c':Ctx} {ks:List Nat} {bl:List (Nat×aO)} (hw:c'.w=c.w)(hS: ∀b,c.M.S b→c'.M.S b)(hD: ∀i,aj i ks=false→c.D i→c'.D i)(cX:c'.ν=c.ν)(hb: ∀i b,look i bl=some b→jB c i b)(hl: ∀i,aj i ks=true→c.D i→ ∀g,aq (c.ν i)=some g→c'.M.S g): ∀ {ps:List PV} {vs:List Value},ah c ps vs→ah c' (PV.gh ks bl ps) vs|[],vs,h=>(by simp only[PV.gh,ah]at h⊢;exact h)|p::ps,vs,h=>by simp only[PV.gh,ah]at h⊢;obtain⟨v,r,h1,h2,h3⟩:=h;exact⟨v,r,h1,yL hw hS hD cX hb hl h2,eA hw hS hD cX hb hl h3⟩end
theorem sg(s:St)(ks:List Nat)(i:Nat):look i (s.aP ks).bl=bif aj i ks then none else(look i s.bl).map (aO.map (PV.gh ks s.bl)):=by simp only[St.aP,eX,oO]
theorem KH(s:St)(ks:List Nat)(t:Nat):(s.aP ks).get t=(s.get t).aP ks s.bl:=by simp only[St.get,St.aP,jG];cases look t s.sl<;>simp[PV.aP]
theorem Full.dC(h:Full n w0 S0 s a w ν S)(ks:List Nat):Full n w0 S0 (s.aP ks) a w ν (ki S s ν ks):=by
 have hS: ∀b,S b→ki S s ν ks b:=fun b hb=>.inl hb;(have hD: ∀i,aj i ks=false→s.D i→(s.aP ks).D i:=by rintro i hi⟨b,hb⟩;exact⟨b.map (PV.gh ks s.bl),by rw[sg,hi,hb];rfl⟩)
 have hl: ∀i,aj i ks=true→s.D i→ ∀g,aq (ν i)=some g→ki S s ν ks g:=fun i hi hd g hg=>.inr ⟨i,hi,hd,hg⟩;(have qb: ∀i b,look i (s.aP ks).bl=some b→aj i ks=false∧ ∃b0,look i s.bl=some b0∧b=b0.map (PV.gh ks s.bl):=by intro i b hb;rw[sg]at hb;cases hi:aj i ks with|true=>rw[hi]at hb;cases hb|false=>rw[hi,cond_false]at hb;cases hl:look i s.bl with|none=>rw[hl]at hb;cases hb|some b0=>rw[hl]at hb;injection hb with hb;exact⟨rfl,b0,rfl,hb.symm⟩)
 refine⟨h.below,fun b hb=>hS b (h.BC b hb),fun b hb=>?_,⟨fun b hb=>?_,h.W.size,fun i b hb=>?_,fun i j b c eL hi hj=>?_⟩,fun t=>?_,h.size,h.defers,h.Aa,fun i hi hd=>?_,h.D9⟩
 (·rcases hb with hb|⟨i,_,⟨b0,gn⟩,hg⟩;(·exact h.fresh b hb);·exact .inr (h.gF gn hg).1);(·rcases hb with hb|⟨i,_,⟨b0,gn⟩,hg⟩;(·exact h.W.lt b hb);·exact(h.gF gn hg).2.2)
 (·obtain⟨hi,b0,gn,rfl⟩:=qb i b hb;have hr:=h.W.cc i b0 gn;(have rS: ∀g,aq (ν i)=some g→ ¬ki S s ν ks g:=by rintro g hg(hs|⟨j,hj,⟨bj,hbj⟩,Eo⟩);(·exact(h.gF gn hg).2.1 hs);·(have eL:i≠j:=by rintro rfl;rw[hi]at hj;cases hj);exact h.W.ne i j b0 bj eL gn hbj g hg Eo);cases b0 with|box cs te=>obtain⟨ik,g,vs,e,h1,h2,h3,h4,h0,h5⟩:=hr;exact⟨ik.iY rfl fun _ _=>rfl,g,vs,e,h1,h2,rS g (by simp only at h1;rw[h1];rfl),h4,h0,eA (c:=⟨ν,s.D,w,⟨S,aF w0 S0⟩⟩) (c':=⟨ν,(s.aP ks).D,w,⟨ki S s ν ks,aF w0 S0⟩⟩) rfl hS hD rfl h.W.cc hl h5⟩|arr T xs te=>obtain⟨ik,ho,v,hv,h1,h2⟩:=hr;injection hv with hv;simp only at hv;refine⟨ik.iY rfl fun _ _=>rfl,ho,v,by simp only[hv],h1,?_⟩;rcases h2 with h2|⟨g,o,cap,cur,e,rfl,h3,h4,h5,h6,h7,h8,h9⟩;(·exact .inl h2);(·refine .inr ⟨g,o,cap,cur,e,rfl,h3,h4,rS g (by rw[hv];rfl),h6,h7,h8,fun i y hy=>?_⟩;obtain⟨cs,hl,zZ,hr⟩:=h9 i y hy;exact⟨cs,hl,zZ,au (fun _ _=>rfl) hS _ _ _ ho hr⟩)|mp K V es=>obtain⟨ck,p6,h0,r,ay,clock,h1,h2,h3,h4,h5,h6,h7⟩:=hr;refine⟨ck,p6,h0,r,ay,clock,h1,h2,rS r (by simp only at h1;rw[h1];rfl),h4,h5,h6,fun i y hy=>?_⟩;obtain⟨e,ca,cb,a1,a2,a3,a4,a5⟩:=h7 i y hy;exact⟨e,ca,cb,a1,a2,au (fun _ _=>rfl) hS _ _ _ ck a3,a4,au (fun _ _=>rfl) hS _ _ _ p6 a5⟩|it src since seen=>obtain⟨g,m,h1,h2,h3,h4,h6⟩:=hr;exact⟨g,m,h1,h2,rS g (by simp only at h1;rw[h1];rfl),h4,eA (c:=⟨ν,s.D,w,⟨S,aF w0 S0⟩⟩) (c':=⟨ν,(s.aP ks).D,w,⟨ki S s ν ks,aF w0 S0⟩⟩) rfl hS hD rfl h.W.cc hl h6⟩|xL x pos=>obtain⟨g,h1,h2,h3,h4,h5⟩:=hr;exact⟨g,h1,h2,rS g (by simp only at h1;rw[h1];rfl),h4,h5⟩)
 (·obtain⟨_,b0,gn,_⟩:=qb i b hi;obtain⟨_,c0,mn,_⟩:=qb j c hj;exact h.W.ne i j b0 c0 eL gn mn);(·rw[KH];exact yL (c:=⟨ν,s.D,w,⟨S,aF w0 S0⟩⟩) (c':=⟨ν,(s.aP ks).D,w,⟨ki S s ν ks,aF w0 S0⟩⟩) rfl hS hD rfl h.W.cc hl (h.fq t))
 ·obtain⟨b,hb⟩:=hd;obtain⟨_,b0,gn,_⟩:=qb i b hb;exact h.kept i hi ⟨b0,gn⟩
/-! ### Blocks handed to a callee -/
def uv(ν:Nat→Value)(ids:List Nat):Nat→Value:=fun k=>ν (fa ids (k-P0))
theorem eo {s:St} {ids:List Nat} {k:Nat} {b:aO} (h:look k (cI ids s.bl ids P0)=some b):P0≤k∧k-P0<ids.length∧ ∃b0,look (fa ids (k-P0)) s.bl=some b0∧b=b0.map (PV.fY (fwd ids)):=by
 rw[kf (fun _ h=>h)]at h;split at h;(·rename_i hc;cases hl:look (fa ids (k-P0)) s.bl with|none=>rw[hl]at h;cases h|some b0=>rw[hl]at h;injection h with h;exact⟨hc.1,hc.2,b0,rfl,h.symm⟩)
 ·cases h
theorem KI {s:St} {ids:List Nat} {i:Nat} (hi:aj i ids=true)(hd:s.D i):(⟨[],cI ids s.bl ids P0⟩:St).D (fwd ids i):=by
 obtain⟨b,hb⟩:=hd;obtain⟨h1,h2,h3⟩:=uu hi;refine⟨b.map (PV.fY (fwd ids)),?_⟩;simp only;rw[kf (fun _ h=>h),if_pos ⟨h1,h3⟩,h2,hb];rfl
def T0(S:Nat→Prop)(s:St)(ν:Nat→Value)(ids:List Nat):Cx:=⟨S,fb (uv ν ids) (cI ids s.bl ids P0),uv ν ids,[]⟩
theorem qC {s:St} {ν:Nat→Value} {ids:List Nat} {g:Nat} (h:fb (uv ν ids) (cI ids s.bl ids P0) g): ∃i b,aj i ids=true∧look i s.bl=some b∧aq (ν i)=some g:=by
 obtain⟨k,b,hk,hg⟩:=h;obtain⟨h1,h2,b0,gn,_⟩:=eo hk;exact⟨_,b0,qA h2,gn,hg⟩
theorem yM {ks:List Nat} {bl:List (Nat×aO)} : ∀ {l:List Nat} {i:Nat} {b:aO},mJ ks bl l=true→i∈l→look i bl=some b→vB ks b=true|[],i,b,_,h,_=>(by cases h)|x::r,i,b,h,hi,hb=>by simp only[mJ,Bool.and_eq_true]at h;rcases List.mem_cons.1 hi with rfl|hi;(·have h1:=h.1;rw[hb]at h1;cases b<;>first|exact h1|rfl);·exact yM h.2 hi hb
theorem Full.EP(h:Full n w0 S0 s a w ν S) {ids:List Nat} (oS:lI ids=true)(jk:mJ ids s.bl ids=true):pX ⟨[],cI ids s.bl ids P0⟩ (uv ν ids) w ⟨S,aF w (T0 S s ν ids)⟩∧(∀g,fb (uv ν ids) (cI ids s.bl ids P0) g→g<w.heap.size)∧ ∀(S1:Nat→Prop),(∀b,S b→S1 b)→Ctx.OR ids (fwd ids) ⟨ν,s.D,w,⟨S,aF w0 S0⟩⟩ ⟨uv ν ids,(⟨[],cI ids s.bl ids P0⟩:St).D,w,⟨S1,aF w (T0 S s ν ids)⟩⟩:=by
 (have cX: ∀i,aj i ids=true→uv ν ids (fwd ids i)=ν i:=by intro i hi;unfold uv;rw[(uu hi).2.1]);have hle: ∀(S1:Nat→Prop),(∀b,S b→S1 b)→Ctx.OR ids (fwd ids) ⟨ν,s.D,w,⟨S,aF w0 S0⟩⟩ ⟨uv ν ids,(⟨[],cI ids s.bl ids P0⟩:St).D,w,⟨S1,aF w (T0 S s ν ids)⟩⟩:=fun S1 hS1=>⟨fun _ _=>rfl,hS1,fun i hi hd=>KI hi hd,fun i hi _=>cX i hi⟩
 refine⟨⟨h.W.lt,fun b hb=>.inl hb,fun k b hb=>?_,fun k l b c Ed hk hl g hg eg=>?_⟩,fun g hg=>?_,hle⟩;(·obtain⟨h1,h2,b0,gn,rfl⟩:=eo hb;have hm:=qA h2;(have hf:fwd ids (fa ids (k-P0))=k:=by rw[qB oS h2];omega);have:=qz (hle S (fun _ h=>h)) (i:=fa ids (k-P0)) (b:=b0) (yM jk (eb.1 hm) gn) (cX _ hm) (fun g hg=>⟨rfl,.inr ⟨k,_,hb,hg⟩,(h.gF gn hg).2.1⟩) (h.W.cc _ b0 gn);rw[hf]at this;exact this)
 (·obtain⟨h1,h2,b0,gn,_⟩:=eo hk;obtain⟨h3,h4,c0,mn,_⟩:=eo hl;refine h.W.ne (fa ids (k-P0)) (fa ids (l-P0)) b0 c0 (fun e=>Ed ?_) gn mn g hg eg;have e1:=qB oS h2;have e2:=qB oS h4;rw[e,e2]at e1;omega)
 ·obtain⟨i,b,_,hb,eg⟩:=qC hg;exact(h.gF hb eg).2.2
end
end Go.Proofs.Ytefpgfdemmllpaa
namespace Go.Proofs.Ytefpgfdemmllpaa
open Go.RowKit
mutual theorem nN {c:Ctx} {bl:List (Nat×aO)} (hD: ∀i,c.D i→ ∃b,look i bl=some b): ∀ {p:PV} {v:Value},ae c p v→PV.D6 (keys bl) p=true|.iv T x,v,h=>rfl|.ref i off,v,h=>(by simp only[ae]at h;obtain⟨b,hb⟩:=hD _ h.1;exact cY hb)|.eh T x off,v,h=>rfl|.aE i,v,h=>(by simp only[ae]at h;obtain⟨b,hb⟩:=hD _ h.1;exact cY hb)|.iH i sz off len,v,h=>(by simp only[ae]at h;obtain⟨b,hb⟩:=hD _ h.1;exact cY hb)|.fu i sz j off,v,h=>(by simp only[ae]at h;obtain⟨b,hb⟩:=hD _ h.1;exact cY hb)|.lmap i,v,h=>(by simp only[ae]at h;obtain⟨b,hb⟩:=hD _ h.1;exact cY hb)|.agg cs,v,h=>(by simp only[ae]at h;obtain⟨vs,_,_,h2⟩:=h;exact eZ hD h2)|.bk cs,v,h=>(by simp only[ae]at h;obtain⟨vs,_,h2⟩:=h;exact eZ hD h2)|.bF,v,h=>rfl|.bT,v,h=>rfl|.gP i base T n j,v,h=>(by simp only[ae]at h;obtain⟨b,hb⟩:=hD _ h.1;exact cY hb)|.tU f cs,v,h=>(by simp only[ae]at h;obtain⟨vs,_,h2⟩:=h;exact eZ hD h2)|.mD f cs,v,h=>(by simp only[ae]at h;obtain⟨vs,_,h2⟩:=h;exact eZ hD h2)|.clip T xs,v,h=>rfl|.fn f cs,v,h=>(by simp only[ae]at h;obtain⟨vs,_,h2⟩:=h;exact eZ hD h2)|.any,v,h=>rfl theorem eZ {c:Ctx} {bl:List (Nat×aO)} (hD: ∀i,c.D i→ ∃b,look i bl=some b): ∀ {ps:List PV} {vs:List Value},ah c ps vs→PV.jY (keys bl) ps=true|[],vs,h=>rfl|p::ps,vs,h=>by simp only[ah]at h;obtain⟨v,r,_,h2,h3⟩:=h;simp only[PV.jY,nN hD h2,eZ hD h3,Bool.and_self]end
theorem sh {c:Ctx} {bl:List (Nat×aO)} (hD: ∀i,c.D i→ ∃b,look i bl=some b) {i:Nat} {b:aO} (h:jB c i b):vB (keys bl) b=true:=by
 cases b with|box cs te=>obtain⟨_,g,vs,e,_,_,_,_,_,h5⟩:=h;exact eZ hD h5|it cs a b=>obtain⟨g,m,_,_,_,_,h6⟩:=h;exact eZ hD h6|_=>rfl
theorem Ca {bl':List (Nat×aO)} : ∀ {bl:List (Nat×aO)} {k:Nat} {b:aO},u4 bl bl'=true→look k bl=some b→look k bl'=none→ ∃T xs te,b= .arr T xs te|[],k,b,_,h,_=>(by cases h)|p::r,k,b,hk,h,hn=>by simp only[u4,Bool.and_eq_true]at hk;simp only[look]at h;cases hb:Nat.beq k p.1 with|true=>simp only[hb,cond_true,Option.some.injEq]at h;subst h;have:=Nat.eq_of_beq_eq_true hb;subst this;have h1:=hk.1;rw[hn]at h1;(cases hp:p.2 with|arr T xs te=>exact⟨T,xs,te,rfl⟩|box cs te=>rw[hp]at h1;cases h1|mp K V es=>rw[hp]at h1;cases h1|it a b c=>rw[hp]at h1;cases h1|xL a b=>rw[hp]at h1;cases h1)|false=>simp only[hb,cond_false]at h;exact Ca hk.2 h hn
theorem GB {bl:List (Nat×aO)} {used:List Nat} {d:Option Nat} : ∀ {l:List (Nat×aO)} {k:Nat} {b:aO},Em bl used d l=true→look k l=some b→(P0≤k∧ ∃c,look k bl=some c)∨(k<P0∧ ∃e,d=some e∧k<100000∧k+100000*(e+1)<P0∧aj (k+100000*(e+1)) used=false)|[],k,b,_,h=>(by cases h)|(p1,p2)::r,k,b,hn,h=>by obtain⟨p,hp⟩: ∃p:Nat×aO,p=(p1,p2):=⟨_,rfl⟩;(obtain rfl:p.1=p1:=by rw[hp]);(obtain rfl:p.2=p2:=by rw[hp]);clear hp;simp only[Em,Bool.and_eq_true]at hn;simp only[look]at h;cases hb:Nat.beq k p.1 with|true=>have:=Nat.eq_of_beq_eq_true hb;subst this;have h1:=hn.1;split at h1;(·rename_i dE;have hle:=Nat.le_of_ble_eq_true dE;cases hl:look p.1 bl with|none=>rw[hl]at h1;cases h1|some c=>exact .inl ⟨hle,c,rfl⟩);(·rename_i dE;(have cM:p.1<P0:=by rcases Nat.lt_or_ge p.1 P0 with h'|h';(·exact h');·rw[Nat.ble_eq_true_of_le h']at dE;cases dE);cases d with|none=>cases h1|some e=>simp only[Bool.and_eq_true,Nat.blt_eq,Bool.not_eq_true']at h1;exact .inr ⟨cM,e,rfl,h1.1.1,h1.1.2,h1.2⟩)|false=>simp only[hb,cond_false]at h;exact GB hn.2 h
section
variable {E:Env} {n:Nat} {w0:World} {S0:Cx} {s:St} {a:Act} {w:World} {ν:Nat→Value} {S:Nat→Prop}
theorem lT {ids:List Nat} {d k:Nat} (h:P0≤k):back ids d k=fa ids (k-P0):=by unfold back;rw[Nat.ble_eq_true_of_le h];rfl
theorem nO {ids:List Nat} {d k:Nat} (h:k<P0):back ids d k=k+100000*(d+1):=by
 unfold back;(have:Nat.ble P0 k=false:=by cases hb:Nat.ble P0 k with|false=>rfl|true=>have:=Nat.le_of_ble_eq_true hb;omega);rw[this];rfl
def ff(s:St)(d:Nat)(ids:List Nat)(bl':List (Nat×aO)):List (Nat×aO):=iT (back ids d) bl'++dB ids (s.kill (cx bl' ids P0)).bl
noncomputable def iZ(ν ν':Nat→Value)(d:Nat)(bl':List (Nat×aO)):Nat→Value:=fun i=>match Nat.ble (100000*(d+1)) i,look (i-100000*(d+1)) bl' with|true,some _=>bif Nat.blt (i-100000*(d+1)) 100000 then ν' (i-100000*(d+1))else ν i|_,_=>ν i
theorem Full.cL(h:Full n w0 S0 s a w ν S) {ids:List Nat} {d:Option Nat} {p:PV} {v:Value} {bl':List (Nat×aO)} {w':World} {ν':Nat→Value} {S':Nat→Prop} (oS:lI ids=true)(jk:mJ ids s.bl ids=true)(hk:Kept (fb (uv ν ids) (cI ids s.bl ids P0)) w w')(h1: ∀b,S b→S' b)(h2: ∀b,S' b→S b∨aF w (T0 S s ν ids) b)(h3: ∀i,P0≤i→(⟨[],bl'⟩:St).D i→ν' i=uv ν ids i)(hW:pX ⟨[],bl'⟩ ν' w' ⟨S',aF w (T0 S s ν ids)⟩)(hp:ae ⟨ν',(⟨[],bl'⟩:St).D,w',⟨S',aF w (T0 S s ν ids)⟩⟩ p v)(ti:u4 (cI ids s.bl ids P0) bl'=true)(b6:Em (cI ids s.bl ids P0) (keys s.bl) d bl'=true)(hd: ∀e,d=some e→e<n): ∃KJ,Full n w0 S0 (s.eT d ids p bl') (a.put d v) w' KJ S':=by
 obtain⟨dd,nK⟩: ∃dd:Nat,dd=(match d with|some e=>e|none=>0):=⟨_,rfl⟩;(have ji:(s.eT d ids p bl').bl=ff s dd ids bl':=by subst nK;cases d<;>rfl);(have kQ: ∀t,(s.eT d ids p bl').get t=match d with|some e=>if t=e then p.fE (back ids dd)else((s.get t).kill (cx bl' ids P0))|none=>(s.get t).kill (cx bl' ids P0):=by intro t;subst nK;cases d with|none=>exact u6 s _ t|some e=>simp only[St.eT,St.get];by_cases ht:t=e;(·subst ht;simp only[aY,if_true]);·rw[aS _ _ ht,if_neg ht];have:=u6 s (cx bl' ids P0) t;simp only[St.get]at this;exact this)
 (have gj: ∀k b,look k bl'=some b→(P0≤k∧k-P0<ids.length∧ ∃b0,look (fa ids (k-P0)) s.bl=some b0)∨(k<P0∧d=some dd∧k<100000∧k+100000*(dd+1)<P0∧look (k+100000*(dd+1)) s.bl=none):=by intro k b hb;rcases GB b6 hb with⟨hle,c,hc⟩|⟨cM,e,he,hk1,hk2,hk3⟩;(·obtain⟨_,h5,b0,gn,_⟩:=eo hc;exact .inl ⟨hle,h5,b0,gn⟩);·subst he;simp only at nK;subst nK;refine .inr ⟨cM,rfl,hk1,hk2,?_⟩;cases hl:look (k+100000*(dd+1)) s.bl with|none=>rfl|some b=>rw[cY hl]at hk3;cases hk3)
 (have x8: ∀j k c e,look j bl'=some c→look k bl'=some e→back ids dd j=back ids dd k→j=k:=by intro j k c e hj hk he;rcases gj j c hj with⟨a1,a2,b0,a3⟩|⟨a1,_,a2,a3,a4⟩;(·rcases gj k e hk with⟨b1,b2,c0,b3⟩|⟨b1,_,b2,b3,b4⟩;(·rw[lT a1,lT b1]at he;have e1:=qB oS a2;have e2:=qB oS b2;rw[he,e2]at e1;omega);·rw[lT a1,nO b1]at he;rw[he,b4]at a3;cases a3);·rcases gj k e hk with⟨b1,b2,c0,b3⟩|⟨b1,_,b2,b3,b4⟩;(·rw[nO a1,lT b1]at he;rw[←he,a4]at b3;cases b3);·rw[nO a1,nO b1]at he;omega)
 (have mW: ∀i,s.D i→iZ ν ν' dd bl' i=ν i:=by rintro i⟨b,hb⟩;unfold iZ;split;(·rename_i c dE hl;cases cM:Nat.blt (i-100000*(dd+1)) 100000 with|false=>rfl|true=>have hle:=Nat.le_of_ble_eq_true dE;rw[Nat.blt_eq]at cM;rcases gj _ c hl with⟨a1,_⟩|⟨_,_,_,_,a4⟩;(·unfold P0 at a1;omega);·rw[show i-100000*(dd+1)+100000*(dd+1)=i from by omega,hb]at a4;cases a4);·rfl)
 (have vF: ∀k b,look k bl'=some b→iZ ν ν' dd bl' (back ids dd k)=ν' k:=by intro k b hb;rcases gj k b hb with⟨a1,a2,b0,a3⟩|⟨a1,_,a2,a3,a4⟩;(·rw[lT a1,mW _ ⟨b0,a3⟩,h3 k a1 ⟨b,hb⟩];rfl);·rw[nO a1];unfold iZ;rw[Nat.ble_eq_true_of_le (by omega),show k+100000*(dd+1)-100000*(dd+1)=k from by omega,hb];(have:Nat.blt k 100000=true:=by rw[Nat.blt_eq];exact a2);simp only[this,cond_true])
 (have KK: ∀k b,look k bl'=some b→look (back ids dd k) (ff s dd ids bl')=some (b.map (PV.fY (back ids dd))):=by intro k b hb;unfold ff;rw[kg,im (fun i c hc he=>x8 i k c b hc hb he) hb])
 (have VC: ∀i,aj i ids=false→s.D i→ ∃b,look i (ff s dd ids bl')=some b:=by rintro i hi⟨b,hb⟩;unfold ff;rw[kg];cases look i (iT (back ids dd) bl')with|some x=>exact⟨x,rfl⟩|none=>exact⟨b.map (PV.gI (cx bl' ids P0)),by simp only;rw[eX,hi,cond_false,jh,hb];rfl⟩)
 (have vG: ∀i b,look i (ff s dd ids bl')=some b→(∃k c,back ids dd k=i∧look k bl'=some c∧b=c.map (PV.fY (back ids dd)))∨(aj i ids=false∧ ∃b0,look i s.bl=some b0∧b=b0.map (PV.gI (cx bl' ids P0))):=by intro i b hb;unfold ff at hb;rw[kg]at hb;cases hr:look i (iT (back ids dd) bl')with|some x=>rw[hr]at hb;injection hb with hb;subst hb;exact .inl (lS x8 hr)|none=>rw[hr]at hb;simp only at hb;rw[eX]at hb;cases hi:aj i ids with|true=>rw[hi]at hb;cases hb|false=>rw[hi,cond_false,jh]at hb;cases hl:look i s.bl with|none=>rw[hl]at hb;cases hb|some b0=>rw[hl]at hb;injection hb with hb;exact .inr ⟨rfl,b0,rfl,hb.symm⟩)
 (have KL: ∀g,fb (uv ν ids) (cI ids s.bl ids P0) g→aF w0 S0 g∧ ¬S g∧g<w.heap.size:=fun g hg=>by obtain⟨i,b,_,hb,eg⟩:=qC hg;exact h.gF hb eg);(have ix: ∀g,aF w (T0 S s ν ids) g→aF w0 S0 g:=fun g hg=>by rcases hg with hg|hg;(·exact h.W.size g hg);·exact(KL g hg).1)
 (have KM: ∀i,aj i ids=true→s.D i→aj i (cx bl' ids P0)=false→ ∃b,look (fwd ids i) bl'=some b:=by intro i hi _ GC;obtain⟨f1,f2,f3⟩:=uu hi;cases hl:look (fwd ids i) bl' with|some b=>exact⟨b,rfl⟩|none=>have:=(vD (bl':=bl') (i:=i) (l:=ids) (j:=P0)).2 ⟨fwd ids i-P0,f3,f2,by rw[show P0+(fwd ids i-P0)=fwd ids i from by omega];exact hl⟩;rw[this]at GC;cases GC)
 (have hD: ∀i,s.D i→aj i (cx bl' ids P0)=false→(⟨[],ff s dd ids bl'⟩:St).D i:=by intro i hi GC;cases hm:aj i ids with|false=>exact VC i hm hi|true=>obtain⟨b,hb⟩:=KM i hm hi GC;have:=KK _ b hb;obtain⟨f1,f2,f3⟩:=uu hm;rw[lT f1,f2]at this;exact⟨_,this⟩)
 have ad0:Ctx.BD (cx bl' ids P0) ⟨ν,s.D,w,⟨S,aF w0 S0⟩⟩ ⟨iZ ν ν' dd bl',(⟨[],ff s dd ids bl'⟩:St).D,w',⟨S',aF w0 S0⟩⟩:=⟨fun b hb=>hk.block b (h.W.lt b hb) (fun hf=>(KL b hf).2.1 hb),h1,hD,fun i hi _=>mW i hi⟩
 (have TQ:BE ⟨ν,s.D,w,⟨S,aF w0 S0⟩⟩ (cx bl' ids P0):=by rintro i hi⟨b,hb⟩;obtain⟨k,e1,e2,e3⟩:=vD.1 hi;(have xM:look (P0+k) (cI ids s.bl ids P0)=some (b.map (PV.fY (fwd ids))):=by rw[kf (fun _ h=>h),if_pos ⟨by omega,by omega⟩,show P0+k-P0=k from by omega,e2,hb];rfl);obtain⟨T,xs,te,Gy⟩:=Ca ti xM e3;cases b with|arr T xs te=>obtain⟨ik,_,u,hu,_,hc⟩:=h.W.cc i _ hb;injection hu with hu;simp only at hu⊢;rw[hu];rcases hc with⟨hc,_⟩|⟨g,o,cap,cur,e,hc,_⟩<;>subst hc<;>exact⟨_,_,_,rfl⟩|box cs te=>cases Gy|mp K V es=>cases Gy|it a b c=>cases Gy|xL a b=>cases Gy)
 have ad1:Ctx.OR (keys bl') (back ids dd) ⟨ν',(⟨[],bl'⟩:St).D,w',⟨S',aF w (T0 S s ν ids)⟩⟩ ⟨iZ ν ν' dd bl',(⟨[],ff s dd ids bl'⟩:St).D,w',⟨S',aF w0 S0⟩⟩:=⟨fun _ _=>rfl,fun _ h=>h,fun i _⟨b,hb⟩=>⟨_,KK i b hb⟩,fun i _⟨b,hb⟩=>vF i b hb⟩
 (have Cb:pX ⟨[],ff s dd ids bl'⟩ (iZ ν ν' dd bl') w' ⟨S',aF w0 S0⟩:=by refine⟨hW.lt,fun b hb=>h.W.size b (Nat.le_trans hk.size hb),fun i b hb=>?_,fun i j b c eL hi hj g hg eg=>?_⟩;(·rcases vG i b hb with⟨k,c,rfl,hc,rfl⟩|⟨hi,b0,gn,rfl⟩;(·have hr:=hW.cc k c hc;exact qz ad1 (sh (fun i hi=>hi) hr) (vF k c hc) (fun g hg=>⟨rfl,ix g (gm hr hg).1,(gm hr hg).2.1⟩) hr);·refine yz ad0 TQ rfl (mW i ⟨b0,gn⟩) (fun g hg=>?_) (h.W.cc i b0 gn);obtain⟨g1,g2,g3⟩:=h.gF gn hg;(have OP: ¬fb (uv ν ids) (cI ids s.bl ids P0) g:=by intro hf;obtain⟨j,c0,hj,mn,Eo⟩:=qC hf;exact h.W.ne i j b0 c0 (by rintro rfl;rw[hi]at hj;cases hj) gn mn g hg Eo);refine⟨hk.block g g3 OP,fun _ Kx=>?_⟩;rcases h2 g Kx with h'|h'|h';(·exact g2 h');(·omega);·exact OP h');·(have AB: ∀(k:Nat)(c:aO)(j:Nat)(c0:aO),look k bl'=some c→aj j ids=false→look j s.bl=some c0→aq (ν' k)=some g→aq (ν j)=some g→False:=by intro k c j c0 hc hj mn Ka Eo;obtain⟨g1,g2,g3⟩:=h.gF mn Eo;rcases(gm (hW.cc k c hc) Ka).1 with h'|h';(·exact absurd g3 (Nat.not_lt.2 h'));·obtain⟨j',c0',tW,as7,as8⟩:=qC h';exact h.W.ne j j' c0 c0' (by rintro rfl;rw[hj]at tW;cases tW) mn as7 g Eo as8);rcases vG i b hi with⟨k,c1,rfl,Bm,_⟩|⟨hi1,b0,gn,_⟩;(·rw[vF k c1 Bm]at hg;rcases vG j c hj with⟨l,c2,rfl,TV,_⟩|⟨hj1,c0,mn,_⟩;(·rw[vF l c2 TV]at eg;exact hW.ne k l c1 c2 (fun e=>eL (by rw[e])) Bm TV g hg eg);·rw[mW j ⟨c0,mn⟩]at eg;exact AB k c1 j c0 Bm hj1 mn hg eg);·rw[mW i ⟨b0,gn⟩]at hg;rcases vG j c hj with⟨l,c2,rfl,TV,_⟩|⟨hj1,c0,mn,_⟩;(·rw[vF l c2 TV]at eg;exact AB l c2 i b0 TV hi1 gn eg hg);·rw[mW j ⟨c0,mn⟩]at eg;exact h.W.ne i j b0 c0 eL gn mn g hg eg)
 (have VD:(s.eT d ids p bl').D=(⟨[],ff s dd ids bl'⟩:St).D:=by unfold St.D;rw[ji]);refine⟨iZ ν ν' dd bl',⟨⟨hk.os.trans h.below.os,hk.tape.trans h.below.tape,hk.output.trans h.below.output,Nat.le_trans h.below.size hk.size,fun b hb hx=>?_,fun hd=>Nat.le_trans (h.below.drawn hd) (hk.drawn hd)⟩,fun b hb=>h1 b (h.BC b hb),fun b hb=>?_,⟨Cb.lt,Cb.size,fun i b hb=>?_,fun i j b c eL hi hj=>?_⟩,fun t=>?_,?_,?_,h.Aa,fun i hi yx=>?_,h.D9⟩⟩
 (·rw[hk.block b (Nat.lt_of_lt_of_le hb h.below.size) (fun hf=>?_),h.below.block b hb hx];rcases(KL b hf).1 with h'|h';(·omega);·exact hx h');(·rcases h2 b hb with h'|h';(·exact h.fresh b h');·exact .inr (ix b h'))
 (·rw[ji]at hb;rw[VD];exact Cb.cc i b hb);(·rw[ji]at hi hj;exact Cb.ne i j b c eL hi hj);(·rw[VD,kQ t];have hold:ae ⟨iZ ν ν' dd bl',(⟨[],ff s dd ids bl'⟩:St).D,w',⟨S',aF w0 S0⟩⟩ ((s.get t).kill (cx bl' ids P0)) (a.tmps.getD t undef):=r5 ad0 TQ (h.fq t);cases d with|none=>exact hold|some e=>by_cases ht:t=e;(·subst ht;simp only[if_true];have htn:=hd t rfl;(have:(a.put (some t) v).tmps.getD t undef=v:=by simp[Act.put,h.size,htn]);rw[this];exact kX ad1 (nN (fun i hi=>hi) hp) hp);·show ae _ (if t=e then p.fE (back ids dd)else(s.get t).kill (cx bl' ids P0)) _;rw[if_neg ht];(have:(a.put (some e) v).tmps.getD t undef=a.tmps.getD t undef:=by simp only[Act.put,Array.getD_eq_getD_getElem?];rw[Array.getElem?_setIfInBounds_ne (by omega)]);rw[this];exact hold)
 (·rw[qa];exact h.size);(·rw[lN];exact h.defers);·rw[VD]at yx;obtain⟨b,hb⟩:=yx;rcases vG i b hb with⟨k,c,rfl,hc,_⟩|⟨_,b0,gn,_⟩;(·rcases gj k c hc with⟨a1,a2,b0,a3⟩|⟨a1,_,a2,a3,a4⟩;(·rw[lT a1]at hi⊢;rw[mW _ ⟨b0,a3⟩];exact h.kept _ hi ⟨b0,a3⟩);·rw[nO a1]at hi;omega);·rw[mW i ⟨b0,gn⟩];exact h.kept i hi ⟨b0,gn⟩
end
end Go.Proofs.Ytefpgfdemmllpaa
