/-
  What a callee leaves that was handed local blocks. Nothing here is trusted; no condition.
-/
import Derived.Test.YtbbmofoiipjbgaaA2
import Derived.Laws.Closers25b
import Derived.ChangeKeysEq
import Derived.Laws.BytesArg
import Derived.Lib.AppendZerosOnto
import Derived.MapKept
import Derived.Maps.RangeRun
set_option linter.unusedSimpArgs false
set_option linter.unusedVariables false
namespace Go.Proofs.Ytbbmofoiipjbgaa
variable {cH:Prop} [fV cH]
open Go.RowKit
theorem eW(k:IntKind) {n:Int} (h:k.min≤n∧n≤k.max):k.wrap n=n:=by obtain⟨h1,h2⟩:=h;cases k<;>simp[IntKind.min,IntKind.max,IntKind.wrap,IntKind.bits,IntKind.signed]at* <;>omega
theorem fb(k:IntKind):k.min≤0:=by cases k<;>decide
theorem jZ(k:IntKind):0≤k.max:=by cases k<;>decide
theorem gP(P:Program)(w:World)(op:BinOp)(t:Nat)(x y:Operand)(k l:IntKind)(m n:Int):(eqGuard op t x y (.int k m) (.int l n)).run P w= .ok () w:=by
 unfold eqGuard;simp only[Sem.run_ite];split<;>rfl
theorem ux(P:Program)(w:World)(op:BinOp)(t:Nat)(x y:Operand)(m n:ByteArray):(eqGuard op t x y (.string m) (.string n)).run P w= .ok () w:=by
 unfold eqGuard;simp only[Sem.run_ite];split<;>rfl
theorem l4(P:Program)(w:World)(op:BinOp)(t:Nat)(x y:Operand)(m n:Bool):(eqGuard op t x y (.bool m) (.bool n)).run P w= .ok () w:=by
 unfold eqGuard;simp only[Sem.run_ite];split<;>rfl
theorem max_lt(k:IntKind):k.max<2^k.bits:=by cases k<;>decide
theorem gQ(k:IntKind) {x:Int} (h0:0≤x)(h1:x≤k.max):(BitVec.ofInt k.bits x).toNat=x.toNat:=by
 have h2:=max_lt k;rw[BitVec.toNat_ofInt];have h3:x%((2^k.bits:Nat):Int)=x:=Int.emod_eq_of_lt h0 (by push_cast;omega);rw[h3]
theorem D4 {E:Env} {c:Ctx} {op:BinOp} {k:IntKind} {x y:Int} {t:Nat} {w:World} {Kl:Out→Prop} (hx:k.min≤x∧x≤k.max)(hy:k.min≤y∧y≤k.max)(h:aP E (jF op k x y) Kl): ∃p v,Kl (.val p)∧ai c p v∧(binOp op t (.int k x) (.int k y)).run E.P w= .ok v w:=by
 have N2:=fb k;(have pf: ∀(r:Int),(∃v,(binOp op t (.int k x) (.int k y)).run E.P w= .ok v w∧v= .int k (k.wrap r))→aP E (arith k r) Kl→ ∃p v,Kl (.val p)∧ai c p v∧(binOp op t (.int k x) (.int k y)).run E.P w= .ok v w:=by rintro r⟨v,hv,rfl⟩⟨hr,hK⟩;exact⟨_,_,hK,bK hr,by rw[hv,eW k hr]⟩)
 (have kA: ∀(b:Bool),(binOp op t (.int k x) (.int k y)).run E.P w= .ok (.bool b) w→aP E (dK b) Kl→ ∃p v,Kl (.val p)∧ai c p v∧(binOp op t (.int k x) (.int k y)).run E.P w= .ok v w:=by intro b hb hK;exact⟨_,_,hK,bs,hb⟩)
 cases op<;>simp only[jF]at h;(case add=>exact pf _ ⟨_,by simp[binOp,Op.intArith],rfl⟩ h);(case sub=>exact pf _ ⟨_,by simp[binOp,Op.intArith],rfl⟩ h);(case mul=>exact pf _ ⟨_,by simp[binOp,Op.intArith],rfl⟩ h)
 (case quo=>obtain⟨⟨h0,h1⟩,hK⟩:=h;(have hq:k.min≤x/y∧x/y≤k.max:=by have e1:0≤x/y:=Int.ediv_nonneg h0 (by omega);have e2:x/y≤x:=Int.ediv_le_self _ h0;omega);refine⟨_,_,hK,bK hq,?_⟩;simp only[binOp,ne_eq,not_true_eq_false,if_false,Op.intDiv];rw[if_neg (by omega)];simp only[Sem.run_pure,Int.tdiv_eq_ediv_of_nonneg h0,eW k hq])
 (case rem=>obtain⟨⟨h0,h1⟩,hK⟩:=h;(have hq:k.min≤x%y∧x%y≤k.max:=by have e1:0≤x%y:=Int.emod_nonneg _ (by omega);have e2:x%y<y:=Int.emod_lt_of_pos _ h1;omega);refine⟨_,_,hK,bK hq,?_⟩;simp only[binOp,ne_eq,not_true_eq_false,if_false,Op.intDiv];rw[if_neg (by omega)];simp only[Sem.run_pure,Int.tmod_eq_emod_of_nonneg h0])
 (case and=>obtain⟨⟨h0,h1⟩,hK⟩:=h;have e1:x.toNat &&& y.toNat≤x.toNat:=Nat.and_le_left;(have hr:k.min≤((x.toNat &&& y.toNat:Nat):Int)∧((x.toNat &&& y.toNat:Nat):Int)≤k.max:=by omega);refine⟨_,_,hK,bK hr,?_⟩;simp only[binOp,ne_eq,not_true_eq_false,if_false,Op.intBits,Sem.run_pure,BitVec.toNat_and,gQ k h0 hx.2,gQ k h1 hy.2,eW k hr])
 (case or=>obtain⟨⟨h0,h1⟩,hK⟩:=h;(have hr:k.min≤((x.toNat ||| y.toNat:Nat):Int)∧((x.toNat ||| y.toNat:Nat):Int)≤k.max:=by refine⟨by omega,?_⟩;(have hp: ∃b:Nat,k.max=((2^b-1:Nat):Int):=by cases k;(·exact⟨7,by decide⟩);(·exact⟨15,by decide⟩);(·exact⟨31,by decide⟩);(·exact⟨63,by decide⟩);(·exact⟨8,by decide⟩);(·exact⟨16,by decide⟩);(·exact⟨32,by decide⟩);·exact⟨64,by decide⟩);obtain⟨b,hb⟩:=hp;have ni:0<2^b:=Nat.two_pow_pos b;have:x.toNat ||| y.toNat<2^b:=Nat.or_lt_two_pow (by omega) (by omega);omega);refine⟨_,_,hK,bK hr,?_⟩;simp only[binOp,ne_eq,not_true_eq_false,if_false,Op.intBits,Sem.run_pure,BitVec.toNat_or,gQ k h0 hx.2,gQ k h1 hy.2,eW k hr])
 (case lss=>exact kA _ (by simp[binOp,Op.intCmp]) h);(case leq=>exact kA _ (by simp[binOp,Op.intCmp]) h);(case gtr=>exact kA _ (by simp[binOp,Op.intCmp]) h);(case geq=>exact kA _ (by simp[binOp,Op.intCmp]) h)
 (case eql=>refine kA _ ?_ h;simp only[binOp,ne_eq,not_true_eq_false,if_false,Op.intCmp,Sem.run_pure];rfl);(case neq=>refine kA _ ?_ h;simp only[binOp,ne_eq,not_true_eq_false,if_false,Op.intCmp,Sem.run_pure];rfl)
 all_goals exact h.elim
theorem zn {E:Env} {c:Ctx} {op:BinOp} {k l:IntKind} {x y:Int} {t:Nat} {w:World} {Kl:Out→Prop} (hx:k.min≤x∧x≤k.max)(h:aP E (fY op k x y) Kl): ∃p v,Kl (.val p)∧ai c p v∧(binOp op t (.int k x) (.int l y)).run E.P w= .ok v w:=by
 have N2:=fb k;cases op<;>simp only[fY]at h;(case shl=>obtain⟨⟨h0,h1⟩,hr,hK⟩:=h;refine⟨_,_,hK,bK hr,?_⟩;simp only[binOp,Op.shift];rw[if_neg (by omega)];(have e1:min y.toNat k.bits=y.toNat:=by omega);simp only[e1,Sem.run_pure,eW k hr])
 (case shr=>obtain⟨⟨Kv,h0,h1⟩,hK⟩:=h;have ni:(0:Int)<2^y.toNat:=Int.pow_pos (by omega);(have hq:k.min≤x/2^y.toNat∧x/2^y.toNat≤k.max:=by have e1:0≤x/2^y.toNat:=Int.ediv_nonneg Kv (by omega);have e2:x/2^y.toNat≤x:=Int.ediv_le_self _ Kv;omega);refine⟨_,_,hK,bK hq,?_⟩;simp only[binOp,Op.shift];rw[if_neg (by omega)];(have e1:min y.toNat k.bits=y.toNat:=by omega);simp only[e1,Sem.run_pure];rw[Int.fdiv_eq_ediv_of_nonneg _ (by omega)])
 all_goals exact h.elim
theorem toList_mk(x:List UInt8):(⟨x.toArray⟩:ByteArray).toList=x:=by rw[ByteArray.toList_eq]
theorem sA: ∀(x y:List UInt8),Op.bytesLess x y=bytesLess x y|_,[]=>(by simp[Op.bytesLess,bytesLess])|[],_::_=>(by simp[Op.bytesLess,bytesLess])|a::x,b::y=>by simp only[Op.bytesLess,bytesLess,sA x y]
theorem D5 {E:Env} {c:Ctx} {op:BinOp} {x y:List UInt8} {t:Nat} {w:World} {Kl:Out→Prop} (h:aP E (jG op x y) Kl): ∃p v,Kl (.val p)∧ai c p v∧(binOp op t (.string ⟨x.toArray⟩) (.string ⟨y.toArray⟩)).run E.P w= .ok v w:=by
 cases op<;>simp only[jG]at h;(case add=>obtain⟨hl,hK⟩:=h;refine⟨_,_,hK,jV (by rw[List.length_append];exact hl),?_⟩;(have e1:(⟨x.toArray⟩:ByteArray).size=x.length:=by simp[ByteArray.size]);(have e2:(⟨y.toArray⟩:ByteArray).size=y.length:=by simp[ByteArray.size]);(have e3:(⟨x.toArray⟩:ByteArray)++⟨y.toArray⟩=⟨(x++y).toArray⟩:=by apply ByteArray.ext;rw[ByteArray.data_append];simp);simp only[binOp,Op.stringOp,e1,e2,e3,Sem.run_ite];rw[if_neg (by simp[IntKind.max,IntKind.signed,IntKind.bits];omega)];rfl)
 (case eql=>refine⟨_,_,h,bs,?_⟩;(have e:(x==y)=decide (x=y):=by rw[Bool.eq_iff_iff];simp);simp only[binOp,Op.stringOp,toList_mk,Sem.run_pure,e]);(case neq=>refine⟨_,_,h,bs,?_⟩;(have e:(x==y)=decide (x=y):=by rw[Bool.eq_iff_iff];simp);simp only[binOp,Op.stringOp,toList_mk,Sem.run_pure,e])
 (case lss=>refine⟨_,_,h,bs,?_⟩;simp only[binOp,Op.stringOp,toList_mk,Sem.run_pure,sA]);(case geq=>refine⟨_,_,h,bs,?_⟩;simp only[binOp,Op.stringOp,toList_mk,Sem.run_pure,sA])
 all_goals exact h.elim
end Go.Proofs.Ytbbmofoiipjbgaa
namespace Go.Proofs.Ytbbmofoiipjbgaa
variable {cH:Prop} [fV cH]
open Go.RowKit
section
variable {E:Env}
def gu(E:Env)(t:Nat):Ty→Prop|.int _=>True|.bool=>True|.str=>True|.st _=>E.cmp t=true|_=>False
theorem np(hE:aA E) {t:Nat} (h:E.cmp t=true):(∃R,E.ty t=some (.st R))∧E.P.eqGuardType E.P.depth t=false∧((∃fs,E.P.underlying t=some (.struct fs)∧eN E.ty E.cmp fs.toList=true∧E.P.stoodInHeld t=false)∨ ∃m e,E.P.underlying t=some (.array m e)∧lV E.ty E.cmp e=true):=by
 have h1:=hE.cmp t h;simp only[xX,Bool.and_eq_true,Bool.not_eq_true']at h1;obtain⟨h1,h4⟩:=h1;split at h1;(·rename_i fs R hu hT;simp only[Bool.and_eq_true,Bool.not_eq_true']at h1;exact⟨⟨R,hT⟩,h4,.inl ⟨fs,hu,h1.1.1,h1.2⟩⟩)
 (·rename_i m e R hu hT;exact⟨⟨R,hT⟩,h4,.inr ⟨m,e,hu,h1⟩⟩);·cases h1
theorem zo(hE:aA E) {w:World} {M:Mem} {d:Nat} (ih: ∀(T:Ty)(t:Nat)(x y:T.den)(v u:Value)(r:Bool),bL E t T→gu E t T→b8 T x w M v→b8 T y w M u→fX T x y=some r→dep T≤d→(Op.equalIn (d+1) t v u).run E.P w= .ok r w): ∀(fs:List Field)(R:Ty)(off:Nat),bn E.ty fs R off=true→eN E.ty E.cmp fs=true→ ∀(x y:R.den)(r:Bool)(xs ys:Array Value),dep R≤d→off+R.cells≤xs.size→off+R.cells≤ys.size→av R x w M ((xs.toList.drop off).take R.cells)→av R y w M ((ys.toList.drop off).take R.cells)→fX R x y=some r→(Op.eqFields (d+1) xs ys fs).run E.P w= .ok r w:=by
 (have one: ∀(f:Field)(T:Ty)(off:Nat)(x y:T.den)(r:Bool)(xs ys:Array Value),Nat.beq f.offset off=true→jQ E.ty f.type T=true→(match E.ty f.type with|some (.int _)=>true|some .bool=>true|some .str=>true|some (.st _)=>E.cmp f.type|_=>false)=true→dep T≤d→off+T.cells≤xs.size→off+T.cells≤ys.size→av T x w M ((xs.toList.drop off).take T.cells)→av T y w M ((ys.toList.drop off).take T.cells)→fX T x y=some r→ ∃v u,(Go.part f.type xs f.offset).run E.P w= .ok v w∧(Go.part f.type ys f.offset).run E.P w= .ok u w∧(Op.equalIn (d+1) f.type v u).run E.P w= .ok r w:=by intro f T off x y r xs ys h1 h2 hc hd hx hy sB wC hb;have iJ:=Nat.eq_of_beq_eq_true h1;(have hT:E.ty f.type=some T:=by unfold jQ at h2;split at h2;(·rename_i U hU;rw[Ty.bZ h2]at hU;exact hU);·cases h2);have hf:=hE.facts hT;rw[hT]at hc;(have hk:gu E f.type T:=by cases T<;>first|trivial|exact hc|cases hc);(have tD: ∀(z:T.den)(vs:List Value),av T z w M vs→b8 T z w M (valOf T vs):=by intro z vs hr;have:=ed hf.val hr;have hv:=hf.val;cases T<;>first|exact this|cases hv);exact⟨_,_,by rw[iJ];exact fa hf hx,by rw[iJ];exact fa hf hy,ih T f.type x y _ _ r hf hk (tD x _ sB) (tD y _ wC) hb hd⟩)
 intro fs;induction fs with|nil=>intro R off h;cases h|cons f fs K5=>intro R off h hc x y r xs ys hd hx hy sB wC hb;simp only[eN,Bool.and_eq_true]at hc;cases fs with|nil=>simp only[bn,Bool.and_eq_true]at h;obtain⟨⟨⟨⟨h1,h2⟩,h3⟩,h4⟩,h5⟩:=h;obtain⟨v,u,e1,e2,e3⟩:=one f R off x y r xs ys h1 h2 hc.1 hd hx hy sB wC hb;(have hn:f.name≠ "_" :=by simpa using h5);simp only[Op.eqFields];rw[if_pos hn];simp only[Sem.run_bind,e1,e2,e3,Result.andThen_ok,Sem.run_ite];cases r<;>simp|cons g gs=>cases R with|pair a b=>have h':=h;simp only[bn,Bool.and_eq_true]at h;obtain⟨⟨⟨⟨⟨h1,h2⟩,h3⟩,h4⟩,h5⟩,h6⟩:=h;simp only[fX]at hb;split at hb;(·rename_i p q hp hq;simp only[Option.some.injEq]at hb;(have Uj:dep a≤d:=by simp only[dep]at hd;omega);(have Uk:dep b≤d:=by simp only[dep]at hd;omega);simp only[Ty.cells]at hx hy sB wC;obtain⟨va,vb,hv,zg,AI⟩:=sB;obtain⟨ua,ub,hu,F0,K6⟩:=wC;(have split: ∀(zs:Array Value)(za zb:List Value),za.length=a.cells→zb.length=b.cells→(zs.toList.drop off).take (a.cells+b.cells)=za++zb→(zs.toList.drop off).take a.cells=za∧(zs.toList.drop (off+a.cells)).take b.cells=zb:=by intro zs za zb oz Kw he;constructor;(·have:=congrArg (List.take a.cells) he;rw[List.take_take,Nat.min_eq_left (by omega),←oz,List.take_left]at this;rw[←oz];exact this);·have:=congrArg (List.drop a.cells) he;rw[List.drop_take,List.drop_drop,←oz,List.drop_left]at this;rw[←oz];rw[show za.length+b.cells-za.length=b.cells from by omega]at this;exact this);obtain⟨e1,e2⟩:=split xs va vb (bk _ _ _ _ _ zg) (bk _ _ _ _ _ AI) hv;obtain⟨e3,e4⟩:=split ys ua ub (bk _ _ _ _ _ F0) (bk _ _ _ _ _ K6) hu;obtain⟨v,u,f1,f2,f3⟩:=one f a off x.1 y.1 p xs ys h1 h2 hc.1 Uj (by omega) (by omega) (by rw[e1];exact zg) (by rw[e3];exact F0) hp;have rest:=K5 b (off+a.cells) (by unfold bn;exact h6) hc.2 x.2 y.2 q xs ys Uk (by omega) (by omega) (by rw[e2];exact AI) (by rw[e4];exact K6) hq;(have hn:f.name≠ "_" :=by simpa using h5);rw[Op.eqFields];rw[if_pos hn];simp only[Sem.run_bind,f1,f2,f3,Result.andThen_ok,Sem.run_ite];subst hb;cases p;(·simp);·simpa using rest);(·cases hb)|_=>simp only[bn]at h;cases h
theorem Bt(hE:aA E) {w:World} {M:Mem} {d:Nat} {e:Nat} {V:Ty} (hV:E.ty e=some V)(hc:lV E.ty E.cmp e=true)(N3:dep V≤d)(ih: ∀(T:Ty)(t:Nat)(x y:T.den)(v u:Value)(r:Bool),bL E t T→gu E t T→b8 T x w M v→b8 T y w M u→fX T x y=some r→dep T≤d→(Op.equalIn (d+1) t v u).run E.P w= .ok r w): ∀(m k:Nat)(x y:(rowOf V (m+1)).den)(r:Bool)(xs ys:Array Value),(k+(m+1))*V.cells≤xs.size→(k+(m+1))*V.cells≤ys.size→av (rowOf V (m+1)) x w M ((xs.toList.drop (k*V.cells)).take ((m+1)*V.cells))→av (rowOf V (m+1)) y w M ((ys.toList.drop (k*V.cells)).take ((m+1)*V.cells))→fX (rowOf V (m+1)) x y=some r→(Op.eqItems (d+1) e V.cells xs ys (List.range' k (m+1))).run E.P w= .ok r w:=by
 have hf:=hE.facts hV;(have hk:gu E e V:=by unfold lV at hc;rw[hV]at hc;cases V<;>first|trivial|exact hc|cases hc);(have tD: ∀(z:V.den)(vs:List Value),av V z w M vs→b8 V z w M (valOf V vs):=by intro z vs hr;have:=ed hf.val hr;have hv:=hf.val;cases V<;>first|exact this|cases hv)
 (have one: ∀(k:Nat)(x y:V.den)(r:Bool)(xs ys:Array Value),(k+1)*V.cells≤xs.size→(k+1)*V.cells≤ys.size→av V x w M ((xs.toList.drop (k*V.cells)).take V.cells)→av V y w M ((ys.toList.drop (k*V.cells)).take V.cells)→fX V x y=some r→ ∃v u,(Go.part e xs (k*V.cells)).run E.P w= .ok v w∧(Go.part e ys (k*V.cells)).run E.P w= .ok u w∧(Op.equalIn (d+1) e v u).run E.P w= .ok r w:=by intro k x y r xs ys hx hy sB wC hb;rw[Nat.add_mul,Nat.one_mul]at hx hy;exact⟨_,_,fa hf hx,fa hf hy,ih V e x y _ _ r hf hk (tD x _ sB) (tD y _ wC) hb N3⟩)
 intro m;induction m with|zero=>intro k x y r xs ys hx hy sB wC hb;simp only[Nat.zero_add,Nat.one_mul]at sB wC;obtain⟨v,u,e1,e2,e3⟩:=one k x y r xs ys hx hy sB wC hb;rw[List.range'_succ,List.range'_zero];simp only[Op.eqItems,Sem.run_bind,e1,e2,e3,Result.andThen_ok,Sem.run_ite];cases r<;>simp|succ m N4=>intro k x y r xs ys hx hy sB wC hb;simp only[rowOf,fX]at hb;split at hb;(·rename_i p q hp hq;simp only[Option.some.injEq]at hb;obtain⟨va,vb,hv,zg,AI⟩:=sB;obtain⟨ua,ub,hu,F0,K6⟩:=wC;have oz:=bk _ _ _ _ _ zg;have Kw:=bk _ _ _ _ _ AI;have N5:=bk _ _ _ _ _ F0;have Ul:=bk _ _ _ _ _ K6;(have split: ∀(zs:Array Value)(za zb:List Value),za.length=V.cells→(zs.toList.drop (k*V.cells)).take ((m+1+1)*V.cells)=za++zb→(zs.toList.drop (k*V.cells)).take V.cells=za∧(zs.toList.drop ((k+1)*V.cells)).take ((m+1)*V.cells)=zb:=by intro zs za zb oz he;have hle:V.cells≤(m+1+1)*V.cells:=Nat.le_mul_of_pos_left _ (by omega);constructor;(·have:=congrArg (List.take V.cells) he;rw[List.take_take,Nat.min_eq_left hle,←oz,List.take_left]at this;rw[←oz];exact this);·have:=congrArg (List.drop V.cells) he;rw[List.drop_take,List.drop_drop,←oz,List.drop_left,oz]at this;rw[show(m+1+1)*V.cells-V.cells=(m+1)*V.cells from by rw[Nat.add_mul (m+1) 1];omega,show k*V.cells+V.cells=(k+1)*V.cells from by rw[Nat.add_mul,Nat.one_mul]]at this;exact this);obtain⟨e1,e2⟩:=split xs va vb oz hv;obtain⟨e3,e4⟩:=split ys ua ub N5 hu;have hmul:(k+1)*V.cells≤(k+(m+1+1))*V.cells:=Nat.mul_le_mul_right _ (by omega);obtain⟨v,u,f1,f2,f3⟩:=one k x.1 y.1 p xs ys (by omega) (by omega) (by rw[e1];exact zg) (by rw[e3];exact F0) hp;have rest:=N4 (k+1) x.2 y.2 q xs ys (by rw[show k+1+(m+1)=k+(m+1+1)from by omega];exact hx) (by rw[show k+1+(m+1)=k+(m+1+1)from by omega];exact hy) (by rw[e2];exact AI) (by rw[e4];exact K6) hq;rw[List.range'_succ];simp only[Op.eqItems,Sem.run_bind,f1,f2,f3,Result.andThen_ok,Sem.run_ite];subst hb;cases p;(·simp);·simpa using rest);·cases hb
theorem Bu(hE:aA E) {w:World} {M:Mem} : ∀(d:Nat)(T:Ty)(t:Nat)(x y:T.den)(v u:Value)(r:Bool),bL E t T→gu E t T→b8 T x w M v→b8 T y w M u→fX T x y=some r→dep T≤d→(Op.equalIn (d+1) t v u).run E.P w= .ok r w:=by
 intro d;induction d with|zero=>intro T t x y v u r hf hk hv hu hb hd;(cases T with|int k=>obtain⟨hv,_⟩:=hv;injection hv with hv;subst hv;obtain⟨hu,_⟩:=hu;injection hu with hu;subst hu;obtain⟨dd,hu,hs⟩:=hf.kV;(cases dd<;>first|cases hs|skip);rename_i k';simp only[fX,Option.some.injEq]at hb;subst hb;rw[run_equalIn_int _ _ _ _ _ _ _ hu];rfl|bool=>obtain⟨rfl⟩:=hv;obtain⟨rfl⟩:=hu;obtain⟨dd,hu,hs⟩:=hf.kV;(have kB:dd= .bool:=by cases dd<;>first|rfl|cases hs);subst kB;simp only[fX,Option.some.injEq]at hb;subst hb;exact run_equalIn_bool' _ _ _ _ _ hu|str=>obtain⟨hv,_⟩:=hv;injection hv with hv;subst hv;obtain⟨hu,_⟩:=hu;injection hu with hu;subst hu;obtain⟨dd,hu,hs⟩:=hf.kV;(have kB:dd= .string:=by cases dd<;>first|rfl|cases hs);subst kB;simp only[fX,Option.some.injEq]at hb;subst hb;rw[run_equalIn_string _ _ _ _ _ hu,toList_mk,toList_mk];(have e:(x==y)=decide (x=y):=by rw[Bool.eq_iff_iff];simp);rw[e]|st R=>simp only[dep]at hd;omega|_=>cases hk)|succ d ih=>intro T t x y v u r hf hk hv hu hb hd;cases T with|int k=>obtain⟨hv,_⟩:=hv;injection hv with hv;subst hv;obtain⟨hu,_⟩:=hu;injection hu with hu;subst hu;obtain⟨dd,hu,hs⟩:=hf.kV;(cases dd<;>first|cases hs|skip);rename_i k';simp only[fX,Option.some.injEq]at hb;subst hb;rw[run_equalIn_int _ _ _ _ _ _ _ hu];rfl|bool=>obtain⟨rfl⟩:=hv;obtain⟨rfl⟩:=hu;obtain⟨dd,hu,hs⟩:=hf.kV;(have kB:dd= .bool:=by cases dd<;>first|rfl|cases hs);subst kB;simp only[fX,Option.some.injEq]at hb;subst hb;exact run_equalIn_bool' _ _ _ _ _ hu|str=>obtain⟨hv,_⟩:=hv;injection hv with hv;subst hv;obtain⟨hu,_⟩:=hu;injection hu with hu;subst hu;obtain⟨dd,hu,hs⟩:=hf.kV;(have kB:dd= .string:=by cases dd<;>first|rfl|cases hs);subst kB;simp only[fX,Option.some.injEq]at hb;subst hb;rw[run_equalIn_string _ _ _ _ _ hu,toList_mk,toList_mk];(have e:(x==y)=decide (x=y):=by rw[Bool.eq_iff_iff];simp);rw[e]|st R=>obtain⟨⟨R',Se⟩,_,K7⟩:=np hE hk;obtain⟨vs,rfl,tD⟩:=hv;obtain⟨us,rfl,Nc⟩:=hu;rcases K7 with⟨fs,wD,GS,iw⟩|⟨m,e,wD,GS⟩;(case inr=>rcases hf.agg hE with⟨fs,pg,_⟩|⟨m',e',V,pg,hV,rfl,NY,NQ,hm⟩;(·rw[wD]at pg;cases pg);·rw[wD]at pg;injection pg with pg;injection pg with h1 h2;subst h1;subst h2;obtain⟨i,hi,cr,_⟩:=(hE.facts hV).info;(have dv:E.P.cellsOf e=V.cells:=by simp[Program.cellsOf,hi,cr]);rw[run_equalIn_array w (d+1) vs.toArray us.toArray wD hi,dv,List.range_eq_range'];obtain⟨m,rfl⟩: ∃k,m=k+1:=⟨m-1,by omega⟩;(have hlen: ∀(V:Ty)(k:Nat),(rowOf V k).cells=k*V.cells:=by intro V k;induction k with|zero=>simp[rowOf,Ty.cells]|succ k ih=>cases k with|zero=>simp[rowOf]|succ k=>simp only[rowOf,Ty.cells,ih,Nat.add_mul];omega);(have D6: ∀(V:Ty)(k:Nat),dep V≤dep (rowOf V (k+1)):=by intro V k;cases k with|zero=>exact Nat.le_refl _|succ k=>simp only[rowOf,dep];omega);have l1:=bk _ _ _ _ _ tD;have l2:=bk _ _ _ _ _ Nc;rw[hlen]at l1 l2;have tC:=D6 V m;simp only[dep]at hd;refine Bt hE hV GS (by omega) ih m 0 x y r vs.toArray us.toArray (by simp[l1]) (by simp[l2]) ?_ ?_ hb;(·simpa[List.take_of_length_le (Nat.le_of_eq l1)]using tD);·simpa[List.take_of_length_le (Nat.le_of_eq l2)]using Nc);(have Dz:E.P.fieldsOf t=fs:=by simp[Program.fieldsOf,wD]);(have cM:bn E.ty fs.toList R 0=true:=by obtain⟨dd,AJ,hs⟩:=hf.kV;rw[wD]at AJ;injection AJ with AJ;subst AJ;exact hs);rw[run_equalIn_struct w (d+1) t vs.toArray us.toArray (by rw[Dz];exact wD) iw,Dz];have l1:=bk _ _ _ _ _ tD;have l2:=bk _ _ _ _ _ Nc;refine zo hE ih fs.toList R 0 cM GS x y r vs.toArray us.toArray (by simp only[dep]at hd;omega) (by simp[l1]) (by simp[l2]) ?_ ?_ hb;(·simpa[List.take_of_length_le (Nat.le_of_eq l1)]using tD);(·simpa[List.take_of_length_le (Nat.le_of_eq l2)]using Nc)|_=>cases hk
theorem oe {P:Program} (w:World)(d:Nat) {t e:TypeId} (x:Option Addr)(hu:P.underlying t=some (.pointer e)):(Op.equalIn (d+1) t (.pointer x) (.pointer none)).run P w= .ok x.isNone w:=by
 unfold Op.equalIn;cases x<;>simp[run_underlying hu]
theorem Bv(hE:aA E) {n:Nat} {w0:World} {S0:Cx} {s:St} {a:Act} {w:World} {ν:Nat→Value} {S:Nat→Prop} {F:cm} (h:Full n w0 S0 s a w ν S) {t:Nat} {neg:Bool} {p q:PV} {v u:Value} {xo yo:Operand} {Kl:Out→Prop} (hp:ai h.c p v)(hq:ai h.c q u)(ae:aP E (jH E F s.bl t neg p q) Kl): ∃r v',Kl (.val r)∧ai h.c r v'∧(do eqGuard (if neg then .neq else .eql) t xo yo v u;binOp (if neg then .neq else .eql) t v u:Go.Sem Value).run E.P w= .ok v' w:=by
 unfold jH at ae;split at ae;(·rename_i T hT;split at ae;(·rename_i r qT;unfold vQ at qT;split at qT;(case h_2=>cases qT);rename_i U;split at qT;(case h_2=>cases qT);obtain⟨dd,Bw,hs⟩:=(hE.facts hT).kV;(obtain⟨e,rfl⟩: ∃e,dd= .pointer e:=by cases dd<;>first|exact⟨_,rfl⟩|cases hs);simp only[ai]at hq;subst hq;(have fin: ∀(ad:Option Addr),v= .pointer ad→r=ad.isNone→ ∃r v',Kl (.val r)∧ai h.c r v'∧(do eqGuard (if neg then .neq else .eql) t xo yo v (.pointer none);binOp (if neg then .neq else .eql) t v (.pointer none):Go.Sem Value).run E.P w= .ok v' w:=by intro ad hv hr;subst hv;subst hr;have he:=oe (P:=E.P) w 9999 ad Bw;refine⟨_,.bool (fZ neg ad.isNone),ae,bs,?_⟩;cases neg<;>simp[eqGuard,binOp,Op.equal,Op.maxDepth,he,fZ]);split at qT;(·simp only[ai]at hp;injection qT with qT;exact fin none hp qT.symm);(·simp only[ai,iy,b8,av]at hp;obtain⟨_,g,ob,cs,hv,_⟩:=hp;simp only[List.cons.injEq,and_true]at hv;injection qT with qT;exact fin _ hv qT.symm);(·simp only[ai]at hp;obtain⟨_,g,ob,cs,hv,_⟩:=hp;injection qT with qT;exact fin _ hv qT.symm);(·simp only[ai]at hp;obtain⟨_,g,_,hv⟩:=hp;injection qT with qT;exact fin _ hv qT.symm);·cases qT);split at ae;(·rename_i x y hx hy Bx;split at ae;(·rename_i r hb;have hf:=hE.facts hT;have hR:Reads F s h.c ⟨fun b=>S b∨b<w.heap.size,ax w0 S0⟩:=⟨rfl,h.W.bJ,fun b hb=>.inl hb,fun id _⟨b,hb⟩g hg=>.inr (h.eF hb hg).2.2⟩;have hv:=di hR (.inl hf.own) hx hp;have hu:=di hR (.inl hf.own) hy hq;cases T with|bool=>obtain⟨FX⟩:=hv;obtain⟨lJ⟩:=hu;obtain⟨dd,Bw,hs⟩:=hf.kV;(have kB:dd= .bool:=by cases dd<;>first|rfl|cases hs);subst kB;simp only[fX,Option.some.injEq]at hb;subst hb;have he:=run_equalIn_bool' (P:=E.P) w 9999 t x y Bw;refine⟨_,_,ae,bs,?_⟩;cases neg;(·simp only[Bool.false_eq_true,if_false,Sem.run_bind,l4,Result.andThen_ok,binOp,Op.equal,Op.maxDepth,he,Sem.run_pure,fZ]);(·simp only[if_true,Sem.run_bind,l4,Result.andThen_ok,binOp,Op.equal,Op.maxDepth,he,Sem.run_pure,fZ])|st R=>simp only[A1,Bool.and_eq_true]at Bx;obtain⟨_,DD,_⟩:=np hE Bx.1;have D6:=Nat.le_of_ble_eq_true Bx.2;have he:(Op.equalIn 10000 t v u).run E.P w= .ok r w:=Bu hE 9999 (.st R) t x y v u r hf Bx.1 hv hu hb (by simp only[dep];omega);obtain⟨vs,rfl,_⟩:=hv;obtain⟨us,rfl,_⟩:=hu;refine⟨_,_,ae,bs,?_⟩;cases neg;(·simp only[Bool.false_eq_true,if_false,Sem.run_bind,run_eqGuard_agg (P:=E.P) w _ t xo yo _ _ DD,Result.andThen_ok,run_eql_struct,he,fZ]);(·simp only[if_true,Sem.run_bind,run_eqGuard_agg (P:=E.P) w _ t xo yo _ _ DD,Result.andThen_ok,run_neq_struct,he,fZ])|_=>cases Bx);·exact ae.elim);·exact ae.elim)
 ·exact ae.elim
end
end Go.Proofs.Ytbbmofoiipjbgaa
namespace Go.Proofs.Ytbbmofoiipjbgaa
variable {cH:Prop} [fV cH]
open Go.RowKit
section
variable {E:Env} {n:Nat} {w0:World} {S0:Cx} {s:St} {a:Act} {w:World} {ν:Nat→Value} {S:Nat→Prop} {F:cm} {o:Oper} {K:St→Prop} {Q:Exit→Act→World→Prop}
theorem l5 {P:Program} (w:World)(d:Nat) {t e:TypeId} (aa:Option Addr)(m cap:Nat)(hu:P.underlying t=some (.slice e)):(Op.equalIn (d+1) t (.slice aa m cap) (.slice none 0 0)).run P w= .ok aa.isNone w:=by
 unfold Op.equalIn;cases aa<;>simp[run_underlying hu]
theorem By(hE:aA E)(h:Full n w0 S0 s a w ν S)(ho:bF n o=true) {op:BinOp} {t:Nat} {x y:Operand} {t2:Nat} (aC:o.op= .binOp op t x y t2)(ae:aP E (aj E F s o) (fun l=>K (s.fin o.dst l))):o.wp E.P a w (fun a' w'=> ∃s',K s'∧Rel n w0 S0 s' a' w') Q:=by
 simp only[aj,aC]at ae;have hx:=h.ev (aw ho (x:=x) (by simp[aC,Op.operands]));have hy:=h.ev (aw ho (x:=y) (by simp[aC,Op.operands]));(have fin: ∀(p:PV)(v:Value),K (s.fin o.dst (.val p))→ai h.c p v→(do eqGuard op t x y (a.eval x) (a.eval y);binOp op t (a.eval x) (a.eval y):Go.Sem Value).run E.P w= .ok v w→o.wp E.P a w (fun a' w'=> ∃s',K s'∧Rel n w0 S0 s' a' w') Q:=by intro p v hK hp hr;refine h.val ho (v:=v) ?_ hp hK;simp only[execOp,aC];rw[Sem.run_bind,hr];simp only[Result.andThen_ok,Sem.run_pure])
 (have K8: ∀(neg:Bool)(oo:Out),op=(if neg then .neq else .eql)→iA E F t neg (s.ev x) (s.ev y)=some oo→aP E oo (fun l=>K (s.fin o.dst l))→o.wp E.P a w (fun a' w'=> ∃s',K s'∧Rel n w0 S0 s' a' w') Q:=by intro neg oo Bz hn hK;unfold iA at hn;split at hn;(case h_2=>cases hn);rename_i wE;rw[wE]at hy;simp only[ai]at hy;split at hn;(case h_2=>cases hn);rename_i U hT;obtain⟨e,hu,_⟩:=(hE.facts hT).elem hE;(have aU: ∀(aa:Option Addr)(m cap:Nat),a.eval x= .slice aa m cap→(do eqGuard op t x y (a.eval x) (a.eval y);binOp op t (a.eval x) (a.eval y):Go.Sem Value).run E.P w= .ok (.bool (fZ neg aa.isNone)) w:=by intro aa m cap hv;rw[hv,hy,Bz];have he:=l5 (P:=E.P) w 9999 aa m cap hu;cases neg<;>simp[eqGuard,binOp,Op.equal,Op.maxDepth,he,fZ]);split at hn;(·rename_i V xs pd;injection hn with hn;subst hn;rw[pd]at hx;simp only[ai]at hx;obtain⟨_,aa,cap,hv,hle,ld,cj⟩:=hx;injection hv with hv;refine fin _ _ (hK (fZ neg aa.isNone) (fun hb=>?_)) bs (aU _ _ _ hv);rcases cj with rfl|⟨g,ob,rfl,_⟩;(·rfl);·cases neg<;>simp[fZ]at hb);(·rename_i pd;injection hn with hn;subst hn;rw[pd]at hx;simp only[ai]at hx;exact fin _ _ hK bs (aU none 0 0 hx));·cases hn)
 split at ae;(·rename_i oo hn;unfold jI at hn;split at hn;(·exact K8 false oo rfl hn ae);(·exact K8 true oo rfl hn ae);·cases hn);simp only[oR]at ae;split at ae
 (·rename_i k m l m' pd wE;rw[pd]at hx;rw[wE]at hy;obtain⟨vM,sB⟩:=bo hx;obtain⟨AO,wC⟩:=bo hy;split at ae;(·obtain⟨p,v,hK,hp,hr⟩:=zn (c:=h.c) (l:=l) (t:=t) (w:=w) sB ae;refine fin p v hK hp ?_;simp only[vM,AO,Sem.run_bind,gP,Result.andThen_ok,hr]);·split at ae;(·rename_i hk;have tA:=cG hk;subst tA;split at ae;(·rename_i tE;(have Bz:op= .rem:=by simp only[Bool.and_eq_true]at tE;cases op<;>first|rfl|exact absurd tE.2 (by decide));subst Bz;obtain⟨h0,hK⟩:=ae;change Int at m;change Int at m';have h0:(0:Int)<m':=h0;(have hq:k.min≤Int.tmod m m'∧Int.tmod m m'≤k.max:=by have N2:=fb k;have GR:=jZ k;rcases Int.le_total 0 m with hm|hm;(·rw[Int.tmod_eq_emod_of_nonneg hm];have e1:0≤m%m':=Int.emod_nonneg _ (by omega);have e2:m%m'<m':=Int.emod_lt_of_pos _ h0;omega);·obtain⟨q,rfl⟩: ∃q,m= -q:=⟨-m,by omega⟩;rw[Int.neg_tmod,Int.tmod_eq_emod_of_nonneg (by omega)];have e1:0≤q%m':=Int.emod_nonneg _ (by omega);(have e2:q%m'≤q:=by rcases Int.lt_or_le q m' with h'|h';(·rw[Int.emod_eq_of_lt (by omega) h'];exact Int.le_refl _);·have:=Int.emod_lt_of_pos q h0;omega);omega);refine fin _ (.int k (Int.tmod m m')) hK (bK hq) ?_;simp only[vM,AO,Sem.run_bind,gP,Result.andThen_ok,binOp,ne_eq,not_true_eq_false,if_false,Op.intDiv];rw[if_neg (by omega)];rfl);split at ae;(·rename_i tE;(have Bz:op= .quo:=by simp only[Bool.and_eq_true]at tE;cases op<;>first|rfl|exact absurd tE.2 (by decide));subst Bz;obtain⟨h0,hK⟩:=ae;change Int at m;change Int at m';have h0:(0:Int)<m':=h0;(have hq:k.min≤Int.tdiv m m'∧Int.tdiv m m'≤k.max:=by have N2:=fb k;have GR:=jZ k;rcases Int.le_total 0 m with hm|hm;(·rw[Int.tdiv_eq_ediv_of_nonneg hm];have e1:0≤m/m':=Int.ediv_nonneg hm (by omega);have e2:m/m'≤m:=Int.ediv_le_self m' hm;omega);·obtain⟨q,rfl⟩: ∃q,m= -q:=⟨-m,by omega⟩;rw[Int.neg_tdiv,Int.tdiv_eq_ediv_of_nonneg (by omega)];have e1:0≤q/m':=Int.ediv_nonneg (by omega) (by omega);have e2:q/m'≤q:=Int.ediv_le_self m' (by omega);omega);refine fin _ (.int k (Int.tdiv m m')) hK (bK hq) ?_;simp only[vM,AO,Sem.run_bind,gP,Result.andThen_ok,binOp,ne_eq,not_true_eq_false,if_false,Op.intDiv];rw[if_neg (by omega),eW k hq];rfl);·obtain⟨p,v,hK,hp,hr⟩:=D4 (c:=h.c) (t:=t) (w:=w) sB wC ae;refine fin p v hK hp ?_;simp only[vM,AO,Sem.run_bind,gP,Result.andThen_ok,hr]);·exact ae.elim)
 (·rename_i m m' pd wE;rw[pd]at hx;rw[wE]at hy;obtain⟨vM,sB⟩:=cI hx;obtain⟨AO,wC⟩:=cI hy;obtain⟨p,v,hK,hp,hr⟩:=D5 (c:=h.c) (t:=t) (w:=w) ae;refine fin p v hK hp ?_;simp only[vM,AO,Sem.run_bind,ux,Result.andThen_ok,hr])
 ·split at ae;(·obtain⟨r,v',hK,hr,aU⟩:=Bv hE h (neg:=false) (xo:=x) (yo:=y) hx hy ae;exact fin r v' hK hr aU);(·obtain⟨r,v',hK,hr,aU⟩:=Bv hE h (neg:=true) (xo:=x) (yo:=y) hx hy ae;exact fin r v' hK hr aU);·exact ae.elim
theorem D7(h:Full n w0 S0 s a w ν S)(ho:bF n o=true) {op:UnOp} {t:Nat} {x:Operand} (aC:o.op= .unOp op t x)(ae:aP E (aj E F s o) (fun l=>K (s.fin o.dst l))):o.wp E.P a w (fun a' w'=> ∃s',K s'∧Rel n w0 S0 s' a' w') Q:=by
 simp only[aj,aC]at ae;have hx:=h.ev (aw ho (x:=x) (by simp[aC,Op.operands]));split at ae;(·rename_i b bt;rw[bt]at hx;have hv:=eV hx;refine h.val ho ?_ bs ae;simp[execOp,aC,hv,Op.unary])
 (·rename_i k m bt;rw[bt]at hx;obtain⟨hv,_⟩:=bo hx;obtain⟨hr,hK⟩:=ae;refine h.val ho ?_ (bK hr) hK;simp only[execOp,aC,hv,Op.unary,Op.intArith,Sem.run_bind,Sem.run_pure,Result.andThen_ok,eW k hr])
 ·exact ae.elim
theorem zp {k l:IntKind} (h:widens k l=true) {x:Int} (hx:k.min≤x∧x≤k.max):l.min≤x∧x≤l.max:=by
 cases k<;>cases l<;>first|(simp[IntKind.min,IntKind.max,IntKind.signed,IntKind.bits]at*;omega)|cases h
theorem l6 {w:World} {M:Mem} : ∀(xs:List Int)(vs:List Value),(∀i y,xs[i]?=some y→av (.int .u8) y w M ((vs.drop i).take 1))→vs.length=xs.length→vs=xs.map (Value.int .u8)|[],vs,_,hl=>(by simpa using hl)|x::xs,[],_,hl=>(by simp at hl)|x::xs,v::vs,h,hl=>by obtain⟨h0,_⟩:=h 0 x rfl;simp at h0;subst h0;have:=l6 xs vs (fun i y hy=>by simpa using h (i+1) y (by simpa using hy)) (by simpa using hl);rw[this];rfl
theorem Source.F1 {T:Ty} {xs:List T.den} {w:World} {M:Mem} {a:Option Addr} {len cap:Nat} (h:av (.sl T) xs w M [.slice a len cap]):len=xs.length∧ ∃news,Source w T.cells a xs.length news∧ ∀i y,xs[i]?=some y→av T y w M ((news.drop (i*T.cells)).take T.cells):=by
 obtain⟨a',jO,hv,h1,h2,h3⟩:=h;injection hv with hv;injection hv with e1 e2 e3;subst e1;refine⟨e2,?_⟩;rcases h3 with rfl|⟨g,ob,rfl,hS,dP⟩;(·exact⟨[],⟨by simp,.inl rfl,by simp⟩,fun i y hy=>by simp at hy⟩)
 ·obtain⟨vs,hl,hc,wm,hr⟩:=kx xs dP;exact⟨vs,⟨hl,.inr ⟨_,rfl,fun j u hj=>by rw[cS];exact hc j u hj⟩,wm⟩,hr⟩
theorem Full.content(h:Full n w0 S0 s a w ν S) {T:Ty} {p:PV} {xs:List T.den} {v:Value} (kQ:aB T=0)(hx:eo F s.bl T p=some xs)(hp:ai h.c p v): ∃aa c news,v= .slice aa xs.length c∧Source w T.cells aa xs.length news∧ ∀i y,xs[i]?=some y→av T y w ⟨S,ax w0 S0⟩ ((news.drop (i*T.cells)).take T.cells):=by
 (have own: ∀(id:Nat)(U:Ty)(ys:List U.den)(te:Option Nat),look id s.bl=some (.arr U ys te)→ ∀aa len cap,ν id= .slice aa len cap→len=ys.length∧ ∃news,Source w U.cells aa ys.length news∧ ∀i y,ys[i]?=some y→av U y w ⟨S,ax w0 S0⟩ ((news.drop (i*U.cells)).take U.cells):=by intro id U ys te hl aa len cap cg;obtain⟨fm,lR,u,hu,Bl,cj⟩:=h.W.bJ _ _ hl;simp only[List.cons.injEq,and_true]at hu;rw[cg]at hu;subst hu;rcases cj with⟨hn,rfl⟩|⟨g,ob,jO,cur,e,od,hle,FT,lT,hB,hh,o9,dP⟩;(·injection hn with e1 e2 e3;subst e1;subst e2;exact⟨rfl,[],⟨by simp,.inl rfl,by simp⟩,fun i y hy=>by simp at hy⟩);·injection od with e1 e2 e3;subst e1;obtain⟨vs,Dy,hc,wm,hr⟩:=kx ys dP;exact⟨e2,vs,⟨Dy,.inr ⟨_,rfl,fun j u hj=>by rw[cS];exact hc j u hj⟩,wm⟩,hr⟩)
 cases p with|iv U y=>simp only[eo]at hx;obtain⟨e,hx⟩:=Ty.aT hx;subst e;simp only at hx;subst hx;simp only[ai]at hp;have bW:av (.sl T) y w ⟨S,ax w0 S0⟩ [v]:=hp.2;obtain⟨aa,cap,hv,eZ⟩:=bW;injection hv with hv;obtain⟨_,news,h1,h2⟩:=Source.F1 (h:=(by rw[←hv];exact hp.2:av (.sl T) y w ⟨S,ax w0 S0⟩ [.slice aa (List.length y) cap]));exact⟨aa,cap,news,hv,h1,h2⟩|aE id=>simp only[eo]at hx;split at hx;(·rename_i U ys te hl;obtain⟨hl,_⟩:=bH hl;obtain⟨e,hx⟩:=Ty.aT hx;injection e with e;subst e;simp only at hx;subst hx;simp only[ai]at hp;obtain⟨hd,cg,aa,len,cap,hv⟩:=hp;simp only[Full.c]at cg;obtain⟨hlen,news,h1,h2⟩:=own id _ _ _ hl aa len cap (by rw[←cg,hv]);subst hlen;exact⟨aa,cap,news,hv,h1,h2⟩);(·cases hx)|kp id sz off len=>simp only[eo]at hx;split at hx;(·rename_i U ys te hl;obtain⟨hl,_⟩:=bH hl;split at hx;(case h_2=>cases hx);rename_i cr;have cr:=Nat.eq_of_beq_eq_true cr;obtain⟨e,hx⟩:=Ty.aT hx;injection e with e;subst e;simp only at hx;subst hx;simp only[ai]at hp;obtain⟨hd,aa,m,cap,b,cg,hn,ld,hv,hb⟩:=hp;obtain⟨hlen,news,h1,h2⟩:=own id _ _ _ hl aa m cap cg;subst hlen;(have x9:((ys.drop off).take len).length=len:=by simp;omega);refine⟨b,cap-off,(news.drop (off*U.cells)).take (len*U.cells),by rw[x9];exact hv,⟨?_,?_,fun u hu=>h1.one u (List.mem_of_mem_drop (List.mem_of_mem_take hu))⟩,fun i y hy=>?_⟩;(·rw[x9,List.length_take,List.length_drop,h1.len];(have:off*U.cells+len*U.cells≤ys.length*U.cells:=by rw[←Nat.add_mul];exact Nat.mul_le_mul_right _ hn);omega);(·rw[x9];by_cases hz:len=0;(·exact .inl hz);·right;obtain⟨g,ob,ha,lf⟩:=hb (by omega);rcases h1.cells with h0|⟨ad,Nd,hc⟩;(·omega);·rw[ha]at Nd;injection Nd with Nd;subst Nd;refine⟨_,lf,fun j u hj=>?_⟩;(have Bf:j<len*U.cells:=by rcases Nat.lt_or_ge j (len*U.cells)with h'|h';(·exact h');·rw[List.getElem?_eq_none (by rw[List.length_take];omega)]at hj;cases hj);rw[List.getElem?_take,if_pos Bf,List.getElem?_drop]at hj;have:=hc _ u hj;rw[cS]at this⊢;rw[cr,Nat.add_assoc];exact this);·(have hi:i<len:=by rcases Nat.lt_or_ge i len with h'|h';(·exact h');·rw[List.getElem?_eq_none (by omega)]at hy;cases hy);rw[List.getElem?_take,if_pos hi,List.getElem?_drop]at hy;have:=h2 _ y hy;rw[List.drop_take,List.drop_drop,List.take_take];(have e1:off*U.cells+i*U.cells=(off+i)*U.cells:=by rw[Nat.add_mul]);(have e2:U.cells≤len*U.cells-i*U.cells:=by have:(i+1)*U.cells≤len*U.cells:=Nat.mul_le_mul_right _ hi;rw[Nat.add_mul]at this;omega);rw[e1,Nat.min_eq_left e2];exact this);(·cases hx)|clip U y=>simp only[eo]at hx;obtain⟨e,hx⟩:=Ty.aT hx;injection e with e;subst e;simp only at hx;subst hx;simp only[ai]at hp;obtain⟨_,⟨aa,m,rfl⟩,bW⟩:=hp;obtain⟨hlen,news,h1,h2⟩:=Source.F1 (h:=(bW:av (.sl U) y w ⟨S,ax w0 S0⟩ [.slice aa m m]));subst hlen;exact⟨aa,_,news,rfl,h1,h2⟩|bM=>simp only[eo,Option.some.injEq]at hx;subst hx;simp only[ai]at hp;exact⟨none,0,[],hp,⟨by simp,.inl rfl,by simp⟩,fun i y hy=>by simp at hy⟩|_=>simp only[eo]at hx;cases hx
theorem wF(hE:aA E)(h:Full n w0 S0 s a w ν S)(ho:bF n o=true) {t1 t:Nat} {x:Operand} (aC:o.op= .convert t1 t x)(ae:aP E (aj E F s o) (fun l=>K (s.fin o.dst l))):o.wp E.P a w (fun a' w'=> ∃s',K s'∧Rel n w0 S0 s' a' w') Q:=by
 simp only[aj,aC,kU]at ae;have hx:=h.ev (aw ho (x:=x) (by simp[aC,Op.operands]));split at ae;(·rename_i k0 l GP hT;obtain⟨d1,DT,GU⟩:=(hE.facts GP).kV;obtain⟨d2,Bw,vN⟩:=(hE.facts hT).kV;(have qJ:d2= .int l:=by(cases d2<;>first|cases vN|skip);rename_i k';rw[cG vN]);subst qJ;split at ae;(·rename_i k m bt;rw[bt]at hx;obtain⟨hv,hr⟩:=bo hx;(have aU:(execOp a.eval o).run E.P w= .ok (.value (.int l (l.wrap m))) w:=by simp[execOp,aC,hv,convert,run_underlying DT,run_underlying Bw,Conv.intToInt]);split at ae;(·rename_i hw;have nf:=zp hw hr;rw[eW l nf]at aU;exact h.val ho aU (bK nf) ae);·exact h.val ho aU (bK (wrap_within l m)) ae);·exact ae.elim)
 (·rename_i GP hT;obtain⟨d1,DT,GU⟩:=(hE.facts GP).kV;obtain⟨d2,Bw,vN⟩:=(hE.facts hT).kV;(have qJ:d2= .string:=by cases d2<;>first|rfl|cases vN);subst qJ;(have tC:d1= .string:=by cases d1<;>first|rfl|cases GU);subst tC;split at ae;(·rename_i y bt;rw[bt]at hx;obtain⟨hv,hr⟩:=cI hx;refine h.val ho ?_ (jV hr) ae;simp[execOp,aC,hv,convert,run_underlying DT,run_underlying Bw]);·exact ae.elim)
 (·rename_i k GP hT;split at ae;(·rename_i xs hk wv;have hk:=cG hk;subst hk;obtain⟨e,DT,he,jT,_⟩:=(hE.facts GP).elem hE;obtain⟨d2,Bw,vN⟩:=(hE.facts hT).kV;(have qJ:d2= .string:=by cases d2<;>first|rfl|cases vN);subst qJ;obtain⟨d3,N6,Sp⟩:=jT.kV;(have Ku:d3= .int .u8:=by(cases d3<;>first|cases Sp|skip);rename_i k';rw[cG Sp]);subst Ku;obtain⟨aa,c,news,hv,g9,bW⟩:=h.content (T:=.int .u8) rfl wv hx;have K9:=l6 (M:=⟨S,ax w0 S0⟩) (w:=w) xs news (fun i y hy=>by simpa[Ty.cells]using bW i y hy) (by simpa[Ty.cells]using g9.len);(have x9:xs.length≤9223372036854775807:=by have hR:Reads F s h.c ⟨fun b=>S b∨b<w.heap.size,ax w0 S0⟩:=⟨rfl,h.W.bJ,fun b hb=>.inl hb,fun id _⟨b,hb⟩g hg=>.inr (h.eF hb hg).2.2⟩;exact(dT _ _ _ _ _ (tO hR wv hx)).1);refine h.val ho (v:=.string ⟨(xs.map fun n:Int=>UInt8.ofNat n.toNat).toArray⟩) ?_ (jV (by simpa using x9)) ae;(have La:(convert t1 t (a.eval x)).run E.P w= .ok (.string ⟨(xs.map fun n:Int=>UInt8.ofNat n.toNat).toArray⟩) w:=by rw[hv];rcases g9.cells with h0|⟨ad,rfl,hc⟩;(·have Um:xs=[]:=List.eq_nil_of_length_eq_zero h0;subst Um;cases aa with|none=>exact run_convert_bytes_nil w t1 e DT N6 _ _ t Bw|some ad=>rw[run_convert_bytes_string w t1 t e _ _ _ DT N6 Bw];simp[Conv.bytesToString,loadCells,loadCellsFrom];rfl);·rw[run_convert_bytes_string w t1 t e _ _ _ DT N6 Bw];have hl:=run_loadCells_list (P:=E.P) w ad news hc;rw[K9,List.length_map]at hl;rw[run_bytesToString w ad xs.length c xs hl,foldl_push_bytes];simp[ByteArray.empty,ByteArray.emptyWithCapacity];rfl);simp only[execOp,aC,Sem.run_bind,La,Result.andThen_ok,Sem.run_pure]);·exact ae.elim)
 ·exact ae.elim
theorem j0 {w:World} {M:Mem} : ∀(T:Ty)(vs:List Value),T.xR=true→cq T=some vs→av T (cy T) w M vs:=by
 intro T;induction T with|unit=>intro vs _ h;simp only[cq,Option.some.injEq]at h;subst h;rfl|int k=>intro vs _ h;simp only[cq,Option.some.injEq]at h;subst h;exact⟨rfl,fb k,jZ k⟩|bool=>intro vs _ h;simp only[cq,Option.some.injEq]at h;subst h;rfl|str=>intro vs _ h;simp only[cq,Option.some.injEq]at h;subst h;exact⟨rfl,by simp[cy]⟩|sl t=>intro vs _ h;simp only[cq,Option.some.injEq]at h;subst h;exact⟨none,0,rfl,Nat.le_refl _,by omega,.inl rfl⟩|own t=>intro vs hz h;cases hz|bC a b=>intro vs hz h;cases hz|ptr t=>intro vs hz h;cases hz|ea f t=>intro vs hz h;cases hz|mp a b=>intro vs _ h;simp only[cq,Option.some.injEq]at h;subst h;exact⟨by simp[cy],.inl ⟨rfl,rfl⟩⟩|bG=>intro vs hz h;cases hz|st t ih=>intro vs hz h;exact ih vs hz h|pair a b et dR=>intro vs hz h;simp only[Ty.xR,Bool.and_eq_true]at hz;simp only[cq]at h;split at h;(·rename_i x y hx hy;simp only[Option.some.injEq]at h;subst h;exact⟨x,y,rfl,et x hz.1 hx,dR y hz.2 hy⟩);·cases h
theorem qU (z : Array Value) (n i : Nat) (hi : i < n) : ((Builtin.zeroCells z n).toList.drop (i * z.size)).take z.size = z.toList := by
  apply List.ext_getElem?
  intro j
  rw [List.getElem?_take]
  by_cases hj : j < z.size
  · rw [if_pos hj, List.getElem?_drop]
    have cX : i * z.size + j < n * z.size := by
      calc i * z.size + j < i * z.size + z.size := by omega
        _ = (i + 1) * z.size := by rw [Nat.add_mul]; omega
        _ ≤ n * z.size := Nat.mul_le_mul_right _ hi
    have GV : (i * z.size + j) % z.size = j := by
      rw [Nat.add_comm, Nat.add_mul_mod_self_right, Nat.mod_eq_of_lt hj]
    simp only [Builtin.zeroCells, Array.getElem?_toList, Array.getElem?_map]
    rw [Array.getElem?_eq_getElem (by simpa using cX)]
    simp only [Option.map_some, Array.getElem_range, GV]
    rw [getElem!_pos z j hj, Array.getElem?_eq_getElem hj]
  · rw [if_neg hj, List.getElem?_eq_none (by rw [Array.length_toList]; omega)]
theorem wG {te el:Option Nat} {w:World} {v u:Value} (h:dN te w v)(hv:u=v) {t':Nat} (hk:xS te el=some t'):dN (some t') w u∧el=some t':=by
 unfold xS at hk;split at hk;(·rename_i a b;split at hk;(·rename_i og;injection hk with hk;subst hk;rw[hv];exact⟨h,by rw[Nat.eq_of_beq_eq_true og]⟩);·cases hk);·cases hk
theorem zq (hE : aA E) (h : Full n w0 S0 s a w ν S) (ho : bF n o = true) {c : Call} (aC : o.op = .call c) (gv : c.callee = .builtin .append) (ae : aP E (aj E F s o) (fun l => K (s.fin o.dst l))) : o.wp E.P a w (fun a' w' => ∃ s', K s' ∧ Rel n w0 S0 s' a' w') Q := by
  obtain ⟨callee, args, argTypes⟩ := c
  simp only at gv
  subst gv
  simp only [aj, aC] at ae
  split at ae
  · rename_i t u p q d fm bt hd
    split at ae
    · rename_i T hT
      obtain ⟨xo, yo, gR⟩ : ∃ xo yo, args = #[xo, yo] := by
        have hl : args.toList.length = 2 := by have := congrArg List.length bt; rw [lY, List.length_map] at this; simpa using this
        match hh : args.toList, hl with
        | [xo, yo], _ => exact ⟨xo, yo, Array.toList_inj.1 (by rw [hh])⟩
      subst gR
      simp only [bB, List.cons.injEq, and_true] at bt
      obtain ⟨hp, hq⟩ := bt
      have ya : argTypes = #[t, u] := Array.toList_inj.1 (by rw [fm])
      subst ya
      have hx := h.ev (aw ho (x := xo) (by simp [aC, Op.operands, Call.operands]))
      have hy := h.ev (aw ho (x := yo) (by simp [aC, Op.operands, Call.operands]))
      rw [hp] at hx
      rw [hq] at hy
      obtain ⟨e, hu, he, jT, kR, ni⟩ := (hE.facts hT).elem hE
      have kQ := jT.own
      have aU : ∀ v' w', (Builtin.append_ #[t, u] o.type #[a.eval xo, a.eval yo]).run E.P w = .ok v' w' → (execOp a.eval o).run E.P w = .ok (.value v') w' := by
        intro v' w' hr
        simp [execOp, aC, resolve, invoke, builtin, hr]
      -- the source
      have src : ∀ ys, g6 E F s.bl T t u q = some ys → ∃ news, Src E.P T.cells u (a.eval yo) ys.length news w ∧ ∀ i y, ys[i]? = some y → av T y w ⟨S, ax w0 S0⟩ ((news.drop (i * T.cells)).take T.cells) := by
        intro ys jA
        simp only [g6] at jA
        split at jA
        · rename_i N7
          have N7 := Nat.eq_of_beq_eq_true N7
          subst N7
          obtain ⟨aa, c, news, hv, h1, h2⟩ := h.content kQ jA hy
          exact ⟨news, by rw [hv]; exact h1.src hu c, h2⟩
        · split at jA
          · rename_i hU
            split at jA
            · split at jA
              · rename_i k hk z GW
                have GW := cG GW
                subst GW
                simp only [Option.some.injEq] at jA
                subst jA
                obtain ⟨hv, hl⟩ := cI hy
                obtain ⟨dd, D8, tB⟩ := (hE.facts hU).kV
                have kB : dd = .string := by cases dd <;> first | rfl | cases tB
                subst kB
                have hs := Src.ofString (w := w) D8 (⟨z.toArray⟩ : ByteArray)
                have cr : (⟨z.toArray⟩ : ByteArray).size = z.length := by simp [ByteArray.size]
                have Un : byteCells ⟨z.toArray⟩ = z.map fun c => Value.int .u8 (c.toNat : Int) := by simp [byteCells]
                rw [cr, Un] at hs
                refine ⟨_, by rw [hv, List.length_map]; exact hs, fun i y hy => ?_⟩
                rw [List.getElem?_map] at hy
                cases hz : z[i]? with
                | none => rw [hz] at hy; cases hy
                | some c =>
                  rw [hz] at hy
                  simp only [Option.map_some, Option.some.injEq] at hy
                  subst hy
                  have hi : i < z.length := (List.getElem?_eq_some_iff.1 hz).1
                  have hd : ((z.map fun c => Value.int .u8 (c.toNat : Int)).drop i).take 1 = [Value.int .u8 (c.toNat : Int)] := by
                    rw [List.drop_eq_getElem_cons (by rw [List.length_map]; exact hi)]
                    simp only [List.getElem_map, List.take_succ_cons, List.take_zero]
                    rw [(List.getElem?_eq_some_iff.1 hz).2]
                  simp only [Ty.cells, Nat.mul_one]
                  rw [hd]
                  have := UInt8.toNat_lt c
                  exact ⟨rfl, by show (0 : Int) ≤ _; omega, by show (_ : Int) ≤ 255; omega⟩
              · cases jA
            · cases jA
          · cases jA
      -- onto a local array, of which a part may be taken
      have Lb : ∀ (id j : Nat) (xs ys : List T.den) (v : Value) (zs : List T.den) (te tf : Option Nat), look id s.bl = some (.arr T zs te) → (∀ t', tf = some t' → dN (some t') w v ∧ E.yU t = some t') → j < P0 → (j = id ∨ look j s.bl = none) → g6 E F s.bl T t u q = some ys → a.eval xo = v → av (.own T) xs w ⟨S, ax w0 S0⟩ [v] → (∀ g, aI v = some g → aI (ν id) = some g) → xs.length + ys.length ≤ 274877906944 → K (s.fin o.dst (.append id j (.arr T (xs ++ ys) tf))) →
          o.wp E.P a w (fun a' w' => ∃ s', K s' ∧ Rel n w0 S0 s' a' w') Q := by
        intro id j xs ys v zs te tf hl Nf hj zh jA hv jq qV hlen hK
        obtain ⟨news, g9, bW⟩ := src ys jA
        obtain ⟨v', w', hr, l7, oh, D9, mV, GX⟩ := jU hE (ty := o.type) hT kQ jq h.W.lt h.W.size g9 bW hlen
        refine bV (aU v' w' (by rw [hv]; exact hr)) ⟨_, hK, ?_⟩
        simp only [St.fin, hd]
        have N8 : dn w w' (aI (ν id)) := by
          refine ⟨oh.os, oh.tape, oh.output, oh.size, fun k hk cA => oh.block k hk (fun e => cA (by rw [qV k e.symm])), oh.drawn⟩
        refine (h.app (v' := v') (ba ho d hd) hl hj zh N8 D9 (fun g hg => ?_) (b' := .arr T (xs ++ ys) tf) (fun D => ⟨?_, kQ, by simpa using l7⟩)).rel
        rotate_left
        · cases N9 : tf with
          | none => exact bX _ _
          | some t' =>
            obtain ⟨g1, g2⟩ := Nf t' N9
            exact (GX t' (hE.yU t t' g2) g1).eE (by simp) fun _ _ => rfl
        rcases mV g hg with hf | hf
        · exact .inl (qV g hf)
        · exact .inr hf
      -- whichever name it has
      have F2 : ∀ (id : Nat) (xs ys : List T.den) (v : Value) (zs : List T.den) (r : Prop) (te tf : Option Nat), look id s.bl = some (.arr T zs te) → (∀ t', tf = some t' → dN (some t') w v ∧ E.yU t = some t') → g6 E F s.bl T t u q = some ys → a.eval xo = v → av (.own T) xs w ⟨S, ax w0 S0⟩ [v] → (∀ g, aI v = some g → aI (ν id) = some g) → (r → xs.length + ys.length ≤ 274877906944) →
          aP E (match Nat.ble P0 id with | false => .bE r (.append id id (.arr T (xs ++ ys) tf)) | true => match look d s.bl with | none => .bE r (.append id d (.arr T (xs ++ ys) tf)) | some _ => .fail 70) (fun l => K (s.fin o.dst l)) →
          o.wp E.P a w (fun a' w' => ∃ s', K s' ∧ Rel n w0 S0 s' a' w') Q := by
        intro id xs ys v zs r te tf hl Nf jA hv jq qV hlen hK
        split at hK
        · rename_i hb
          have hj : id < P0 := by
            rcases Nat.lt_or_ge id P0 with h' | h'
            · exact h'
            · rw [Nat.ble_eq_true_of_le h'] at hb; cases hb
          exact Lb id id xs ys v zs te tf hl Nf hj (.inl rfl) jA hv jq qV (hlen hK.1) hK.2
        · split at hK
          · rename_i hn
            have hj : d < P0 := Nat.lt_of_lt_of_le (ba ho d hd) (Nat.le_trans h.vI (by decide))
            exact Lb id d xs ys v zs te tf hl Nf hj (.inr hn) jA hv jq qV (hlen hK.1) hK.2
          · exact hK.elim
      -- onto a part without room: a new array
      have Lc : ∀ (id : Nat) (r : Prop) (ys : List T.den) (b : Option Addr) (zs : List T.den) (te : Option Nat), look id s.bl = some (.arr T zs te) → g6 E F s.bl T t u q = some ys → a.eval xo = .slice b 0 0 → ys ≠ [] → ys.length ≤ 274877906944 →
          aP E (match Nat.ble P0 id with | false => .bE r (.append id id (.arr T ys)) | true => match look d s.bl with | none => .bE r (.append id d (.arr T ys)) | some _ => .fail 70) (fun l => K (s.fin o.dst l)) →
          o.wp E.P a w (fun a' w' => ∃ s', K s' ∧ Rel n w0 S0 s' a' w') Q := by
        intro id r ys b zs te hl jA hv cA hlen hK
        obtain ⟨news, g9, bW⟩ := src ys jA
        obtain ⟨v', w', hr, l7, oh, D9, mV⟩ := fo hE (ty := o.type) hT kQ (xs := []) (a := b) (m := 0) ⟨b, 0, rfl, Nat.le_refl _, by omega, .inl rfl⟩ h.W.lt h.W.size g9 bW cA (by simpa using hlen)
        have fin : ∀ j, j < P0 → (j = id ∨ look j s.bl = none) → K (s.fin o.dst (.append id j (.arr T ys))) → o.wp E.P a w (fun a' w' => ∃ s', K s' ∧ Rel n w0 S0 s' a' w') Q := by
          intro j hj zh hK
          refine bV (aU v' w' (by rw [hv]; exact hr)) ⟨_, hK, ?_⟩
          simp only [St.fin, hd]
          exact (h.app (v' := v') (ba ho d hd) hl hj zh ⟨oh.os, oh.tape, oh.output, oh.size, fun k hk _ => oh.block k hk (by simp), oh.drawn⟩ D9 (fun g hg => .inr (mV g hg)) (b' := .arr T ys) (fun D => ⟨bX _ _, kQ, by simpa using l7⟩)).rel
        split at hK
        · rename_i hb
          have hj : id < P0 := by
            rcases Nat.lt_or_ge id P0 with h' | h'
            · exact h'
            · rw [Nat.ble_eq_true_of_le h'] at hb; cases hb
          exact fin id hj (.inl rfl) hK.2
        · split at hK
          · rename_i hn
            have hj : d < P0 := Nat.lt_of_lt_of_le (ba ho d hd) (Nat.le_trans h.vI (by decide))
            exact fin d hj (.inr hn) hK.2
          · exact hK.elim
      split at ae
      · rename_i hint
        split at ae
        · rename_i k m zc l8 DB hl
          obtain ⟨⟨h0, h1⟩, hK⟩ := ae
          change Int at m
          have h0 : (0 : Int) < m := h0
          have h1 : m ≤ (1073741824 : Int) := h1
          obtain ⟨kn, Uo⟩ : ∃ kn, E.P.underlying u = some (.int kn) := by
            cases hU : E.ty u with
            | none => rw [hU] at hint; cases hint
            | some U =>
              rw [hU] at hint
              cases U with
              | int kn =>
                obtain ⟨dd, D8, tB⟩ := (hE.facts hU).kV
                cases dd <;> first | exact ⟨_, D8⟩ | cases tB
              | _ => cases hint
          obtain ⟨AO, _⟩ := bo hy
          simp only [ai] at hx
          obtain ⟨i, hi, cr, FU, uf, z, hz, vK⟩ := jT.info
          obtain ⟨zv, AL, _, _⟩ := jW (c := h.c) T zc DB
          rw [hz] at uf
          have sC := gn uf AL
          have hm : m = ((m.toNat : Nat) : Int) := by omega
          have hb : m.toNat * i.bytes ≤ 140737488355328 := by
            calc m.toNat * i.bytes ≤ 274877906944 * 512 := Nat.mul_le_mul (by omega) FU
              _ = 140737488355328 := by decide
          have BA := _root_.Go.Lib.run_append_grow_zeros (P := E.P) w t u o.type e i z k kn hu Uo hi hz none 0 0 [] (run_firstCells_none _ _ _ _ _) m.toNat (by omega) (by rw [cr]; omega) (by omega) (by omega) (by omega) (growslice_fits (by omega) (by simpa using hb))
          simp only [Nat.zero_add] at BA
          rw [← hm] at BA
          have Up := j0 (w := w) (M := ⟨S, ax w0 S0⟩) T zv l8 AL
          have hg := nh (E := E) (e := e) (w := w) (M := ⟨S, ax w0 S0⟩) (zs := List.replicate m.toNat (cy T)) vK kQ h.W.lt h.W.size (by rw [List.length_replicate]; omega) (Builtin.zeroCells z.cells m.toNat).toList (by rw [List.length_replicate, Array.length_toList, x6, vK]) (fun i y hy => by
            rw [List.getElem?_replicate] at hy
            split at hy
            · rename_i hj
              simp only [Option.some.injEq] at hy
              subst hy
              rw [← vK, qU _ _ _ hj, sC]
              exact Up
            · cases hy) 0
          simp only [List.length_replicate] at hg
          refine bV (aU _ _ (by rw [hx, AO]; exact BA)) ⟨_, hK, ?_⟩
          simp only [St.fin, hd]
          refine h.nk (ba ho d hd) hl kQ ⟨rfl, rfl, rfl, by simp, fun k hk _ => Below.heap_alloc w.drew _ k hk, fun _ => Nat.le_succ _⟩ ⟨_, _, _, rfl⟩ (fun g hg => by injection hg with hg; simp at hg; omega) ?_ (bX _ _)
          have DE : (([] : List Value).toArray ++ Builtin.zeroCells z.cells m.toNat) = (Builtin.zeroCells z.cells m.toNat).toList.toArray := by simp
          rw [DE]
          exact hg
        · exact ae.elim
      split at ae
      · unfold ou at ae
        split at ae
        · rename_i ys U zs jA hl
          split at ae
          · rename_i xs gr
            obtain ⟨e', fp⟩ := Ty.aT gr
            injection e' with e'
            subst e'
            simp only at fp
            subst fp
            simp only [ai] at hx
            obtain ⟨_, ⟨aa, m, hv⟩, uy⟩ := hx
            obtain ⟨news, g9, bW⟩ := src ys jA
            obtain ⟨⟨cA, hlen⟩, hK⟩ := ae
            rw [hv] at uy
            obtain ⟨v', w', hr, l7, oh, D9, mV⟩ := fo hE (ty := o.type) hT kQ uy h.W.lt h.W.size g9 bW cA hlen
            refine bV (aU v' w' (by rw [hv]; exact hr)) ⟨_, hK, ?_⟩
            simp only [St.fin, hd]
            exact h.nk (ba ho d hd) hl kQ oh D9 mV l7 (bX _ _)
          · exact ae.elim
        · exact ae.elim
      cases cT : iB F s.bl T d p (g6 E F s.bl T t u q) (E.yU t) with
      | bE r Uq =>
        rw [cT] at ae
        simp only [iB] at cT
        split at cT
        case h_2 => cases cT
        rename_i ys jA
        split at cT
        · injection cT with e1 e2
          subst e1; subst e2
          simp only at ae
          split at ae
          · rename_i hl
            obtain ⟨hlen, hK⟩ := ae
            simp only [ai] at hx
            obtain ⟨news, g9, bW⟩ := src ys jA
            have jq : av (.own T) ([] : List T.den) w ⟨S, ax w0 S0⟩ [.slice none 0 0] := ⟨_, rfl, by simp, .inl ⟨rfl, rfl⟩⟩
            obtain ⟨v', w', hr, l7, oh, D9, mV, GX⟩ := jU hE (ty := o.type) hT kQ jq h.W.lt h.W.size g9 bW (by simpa using hlen)
            refine bV (aU v' w' (by rw [hx]; exact hr)) ⟨_, hK, ?_⟩
            simp only [St.fin, hd]
            exact h.nk (ba ho d hd) hl kQ oh D9 (fun g hg => by rcases mV g hg with hf | hf; cases hf; exact hf) (by simpa using l7) (by
              cases Ur : E.yU t with
              | none => exact bX _ _
              | some t' => exact GX t' (hE.yU t t' Ur) (fun t2 _ g hg => by cases hg))
          · exact ae.elim
        · split at cT <;> cases cT
        · rename_i id
          split at cT
          · rename_i U zs te hl
            obtain ⟨hl, _⟩ := bH hl
            split at cT
            · rename_i xs gr
              obtain ⟨e', fp⟩ := Ty.aT gr
              injection e' with e'
              subst e'
              simp only at fp
              subst fp
              injection cT with e1 e2
              subst e1; subst e2
              simp only [ai] at hx
              obtain ⟨fm, _, hb⟩ := h.W.bJ _ _ hl
              have cg : a.eval xo = ν id := hx.2.1
              exact F2 id _ ys _ _ _ _ _ hl (fun t' GI => wG fm rfl GI) jA cg hb (fun g hg => hg) (fun h => h) ae
            · cases cT
          · cases cT
        · rename_i id sz off len
          split at cT
          · rename_i U zs te hl
            obtain ⟨hl, _⟩ := bH hl
            split at cT
            · rename_i xs gr cr
              have cr := Nat.eq_of_beq_eq_true cr
              obtain ⟨e', fp⟩ := Ty.aT gr
              injection e' with e'
              subst e'
              simp only at fp
              subst fp
              injection cT with e1 e2
              subst e1; subst e2
              simp only [ai] at hx
              obtain ⟨kB, aa, m, cap, b, cg, hn, ld, hv, hb⟩ := hx
              obtain ⟨fm, lR, u, lJ, Bl, cj⟩ := h.W.bJ _ _ hl
              simp only [List.cons.injEq, and_true] at lJ
              simp only [Full.c] at cg
              rw [cg] at lJ
              subst lJ
              have Oa : (off < zs.length ∨ off = zs.length ∧ len = 0 ∧ ys ≠ []) ∧ len + ys.length ≤ 274877906944 := by
                simp only at ae
                split at ae
                · exact ae.1
                · split at ae
                  · exact ae.1
                  · exact ae.elim
              by_cases iJ : off < cap
              case neg =>
                have VI : zs.length = m := by
                  rcases cj with ⟨qS, rfl⟩ | ⟨g, ob, jO, cur, e', od, _⟩
                  · injection qS with _ h2 _; simp [h2]
                  · injection od with _ h2 _; exact h2.symm
                obtain ⟨h1, h2⟩ := Oa
                rcases h1 with h1 | ⟨h1, h3, h4⟩
                · omega
                subst h3
                have Ld : cap - off = 0 := by omega
                rw [Ld] at hv
                rw [List.take_zero, List.nil_append] at ae
                exact Lc id _ ys b zs te hl jA hv h4 (by omega) ae
              rcases cj with ⟨qS, rfl⟩ | ⟨g, ob, jO, cur, e', od, hle, FT, lT, hB, hh, o9, dP⟩
              · injection qS with _ _ h3
                omega
              · injection od with e1 e2 e3
                subst e1; subst e2; subst e3
                obtain ⟨g', VJ, ha, lf⟩ := hb (by omega)
                injection ha with ha
                injection ha with GY GZ
                subst GY; subst GZ
                have x9 : ((zs.drop off).take len).length = len := by simp; omega
                refine F2 id _ ys (a.eval xo) zs _ _ none hl (fun _ h => by cases h) jA rfl ?_ (fun VK Lf => ?_) (fun hr => by rw [x9]; exact hr.2) ae
                · rw [hv, lf]
                  refine ⟨_, rfl, by rw [x9]; omega, .inr ⟨g, ob + off * sz, cap - off, cur, e', by rw [x9], by rw [x9]; omega, by omega, lT, hB, hh, ?_, fun i y hy => ?_⟩⟩
                  · rw [cr, Nat.add_assoc, ← Nat.add_mul, show off + (cap - off) = cap from by omega]
                    exact o9
                  · have hi : i < len := by
                      rcases Nat.lt_or_ge i len with h' | h'
                      · exact h'
                      · rw [List.getElem?_eq_none (by omega)] at hy; cases hy
                    rw [List.getElem?_take, if_pos hi, List.getElem?_drop] at hy
                    obtain ⟨cs, h1, h2, h3⟩ := dP _ y hy
                    refine ⟨cs, h1, ?_, h3⟩
                    rw [cr, Nat.add_assoc, ← Nat.add_mul]
                    exact h2
                · rw [hv, lf] at Lf
                  rw [cg]
                  exact Lf
            · cases cT
          · cases cT
        · cases cT
      | both o1 o2 =>
        rw [cT] at ae
        simp only [iB] at cT
        split at cT
        case h_2 => cases cT
        rename_i ys jA
        split at cT
        · cases cT
        · rename_i U zs
          split at cT
          · rename_i xs gr hl
            obtain ⟨e', fp⟩ := Ty.aT gr
            injection e' with e'
            subst e'
            simp only at fp
            subst fp
            injection cT with e1 e2
            subst e1; subst e2
            obtain ⟨yb, Lg⟩ := ae
            have Kv := hx
            simp only [ai] at hx
            obtain ⟨_, ⟨aa, m, hv⟩, uy⟩ := hx
            obtain ⟨news, g9, bW⟩ := src ys jA
            by_cases cA : ys = []
            · have hK := yb cA
              subst cA
              refine h.val ho (v := a.eval xo) (aU _ _ ?_) Kv hK
              have DA := g9.len
              have lH := g9.cells
              simp only [List.length_nil] at DA lH
              obtain ⟨e, hu, he, jT, kR, ni⟩ := (hE.facts hT).elem hE
              obtain ⟨i, hi, cr, _⟩ := jT.info
              have hn : news = [] := List.eq_nil_of_length_eq_zero (by rw [g9.newsLen]; simp)
              subst hn
              rw [← cr] at lH
              rw [hv]
              rcases g9.kind with ⟨e2, hk⟩ | hk
              all_goals
                cases aa with
                | none => simp [Builtin.append_, run_underlying hu, run_underlying hk, sizeOf, typeInfo, hi, DA, lH]
                | some aa => simp [Builtin.append_, run_underlying hu, run_underlying hk, sizeOf, typeInfo, hi, DA, lH, storeCells]
            · obtain ⟨hlen, hK⟩ := Lg cA
              rw [hv] at uy
              obtain ⟨v', w', hr, l7, oh, D9, mV⟩ := fo hE (ty := o.type) hT kQ uy h.W.lt h.W.size g9 bW cA hlen
              refine bV (aU v' w' (by rw [hv]; exact hr)) ⟨_, hK, ?_⟩
              simp only [St.fin, hd]
              exact h.nk (ba ho d hd) hl kQ oh D9 mV l7 (bX _ _)
          · cases cT
        · repeat' split at cT
          all_goals cases cT
        · repeat' split at cT
          all_goals cases cT
        · cases cT
      | _ =>
        rw [cT] at ae
        simp only [iB] at cT
        repeat' split at cT
        all_goals first
          | (cases cT; done)
          | exact ae.elim
    · exact ae.elim
  · exact ae.elim
end
end Go.Proofs.Ytbbmofoiipjbgaa
namespace Go.Proofs.Ytbbmofoiipjbgaa
variable {cH:Prop} [fV cH]
open Go.RowKit
section
variable {E:Env} {n:Nat} {w0:World} {S0:Cx} {s:St} {a:Act} {w:World} {ν:Nat→Value} {S:Nat→Prop} {F:cm} {o:Oper} {K:St→Prop} {Q:Exit→Act→World→Prop}
theorem ph {T:Ty} : ∀(ps:List (Nat×PV))(vs:List (Nat×Value))(i:Nat)(xs:List T.den)(cells:Array Value)(R:T.den→List Value→Prop),(∀x cs,R x cs→cs.length=T.cells)→ps.length=vs.length→iE F s.bl T i ps=some xs→(∀(k:Nat)(p:Nat×PV)(v:Nat×Value),ps[k]?=some p→vs[k]?=some v→p.1=v.1∧ ∀x,PV.refs p.2=false→PV.fg p.2=[]→exp F s.bl T p.2=some x→R x v.2.cells.toList)→i*T.cells+ps.length*T.cells=cells.size→ ∃out,Instr.fill (fun i=>some (i*T.cells,T.cells)) cells vs=some out∧out.size=cells.size∧xs.length=ps.length∧out.toList.take (i*T.cells)=cells.toList.take (i*T.cells)∧ ∀k x,xs[k]?=some x→R x ((out.toList.drop ((i+k)*T.cells)).take T.cells)|[],[],i,xs,cells,R,hR,_,h,_,hs=>(by simp only[iE,Option.some.injEq]at h;subst h;exact⟨cells,rfl,rfl,rfl,rfl,fun k x hk=>by simp at hk⟩)|[],_::_,_,_,_,_,_,hl,_,_,_=>(by cases hl)|_::_,[],_,_,_,_,_,hl,_,_,_=>(by cases hl)|p::ps,v::vs,i,xs,cells,R,hR,hl,h,hr,hs=>by simp only[iE]at h;split at h;(·rename_i x Ob lI zm hx;split at h;(·rename_i ys jA;simp only[Option.some.injEq]at h;subst h;have Ng:=Nat.eq_of_beq_eq_true Ob;obtain⟨AK,aX⟩:=hr 0 p v rfl rfl;have Oc:=aX x lI zm hx;have qQ:=hR _ _ Oc;obtain⟨vi,vv⟩:=v;simp only at AK qQ Oc;(have DC:vi=i:=by rw[←AK,Ng]);subst DC;simp only[List.length_cons]at hs;(have cr:vi*T.cells+T.cells+ps.length*T.cells=cells.size:=by rw[←hs,Nat.add_mul];omega);(have wg:vv.cells.size=T.cells:=by simpa using qQ);rw[uh rfl wg (by omega)];(have js:(cells.toList.take (vi*T.cells)++vv.cells.toList++cells.toList.drop (vi*T.cells+vv.cells.size)).toArray.size=cells.size:=by simp only[List.size_toArray,List.length_append,List.length_take,List.length_drop,Array.length_toList];omega);obtain⟨out,h1,h2,h3,h4,h5⟩:=ph ps vs (vi+1) ys _ R hR (by simpa using hl) jA (fun k p' v' FW FX=>hr (k+1) p' v' FW FX) (by rw[js,Nat.add_mul];omega);(have wc:(cells.toList.take (vi*T.cells)).length=vi*T.cells:=by simp only[List.length_take,Array.length_toList];omega);(have qW:out.toList.take ((vi+1)*T.cells)=cells.toList.take (vi*T.cells)++vv.cells.toList:=by rw[h4];(have e:(vi+1)*T.cells=(cells.toList.take (vi*T.cells)++vv.cells.toList).length:=by rw[List.length_append,wc,qQ,Nat.add_mul];omega);rw[e,List.take_left]);refine⟨out,h1,h2.trans js,by simp[h3],?_,fun k y hk=>?_⟩;(·have:=congrArg (List.take (vi*T.cells)) qW;rw[List.take_take,Nat.min_eq_left (by rw[Nat.add_mul];omega),List.take_append_of_le_length (by omega),List.take_take,Nat.min_self]at this;exact this);·cases k with|zero=>simp at hk;subst hk;have:=congrArg (List.drop (vi*T.cells)) qW;have e0:(cells.toList.take (vi*T.cells)).drop (vi*T.cells)=[]:=List.drop_of_length_le (by omega);rw[List.drop_take,List.drop_append_of_le_length (by omega),e0,List.nil_append]at this;rw[show(vi+1)*T.cells-vi*T.cells=T.cells from by rw[Nat.add_mul];omega]at this;rw[Nat.add_zero,this];exact Oc|succ k=>have:=h5 k y (by simpa using hk);rw[show vi+(k+1)=vi+1+k from by omega];exact this);·cases h);·cases h
theorem Full.grow(h:Full n w0 S0 s a w ν S) {w':World} {S':Nat→Prop} (hw:dn w w' none)(h1: ∀b,S b→S' b)(h2: ∀b,S' b→S b∨w.heap.size≤b)(h3: ∀b,S' b→b<w'.heap.size):Full n w0 S0 s a w' ν S':=by
 have hle:Ctx.Le ⟨ν,s.D,w,⟨S,ax w0 S0⟩⟩ ⟨ν,s.D,w',⟨S',ax w0 S0⟩⟩:=⟨fun b hb=>hw.block b (h.W.lt b hb) (by simp),h1,fun _ h=>h,fun _ _=>rfl⟩;refine⟨h.below.grown hw (by simp),fun b hb=>h1 b (h.vH b hb),fun b hb=>?_,⟨h3,fun g hg=>h.W.size g (Nat.le_trans hw.size hg),fun i c hc=>?_,h.W.ne⟩,fun t=>dh hle (h.ee t),h.size,h.defers,h.vI,h.kept,h.vZ⟩
 (·rcases h2 b hb with h'|h';(·exact h.fresh b h');·exact .inr (h.W.size b h'));·refine ku hle rfl rfl (fun g hg=>?_) (h.W.bJ i c hc);obtain⟨e1,e2,e3⟩:=h.eF hc hg;refine⟨hw.block g e3 (by simp),fun _ BB=>?_⟩;rcases h2 g BB with h'|h';(·exact e2 h');·omega
theorem qX(hE:aA E)(h:Full n w0 S0 s a w ν S)(ho:bF n o=true) {t m:Nat} {parts:Array (Nat×Operand)} (aC:o.op= .buildSlice t m parts)(ae:aP E (aj E F s o) (fun l=>K (s.fin o.dst l))):o.wp E.P a w (fun a' w'=> ∃s',K s'∧Rel n w0 S0 s' a' w') Q:=by
 simp only[aj,aC]at ae;split at ae;(·rename_i T d hT hd;split at ae;(·rename_i xs hl GX hb;simp only[Bool.and_eq_true]at hb;have hm:=Nat.eq_of_beq_eq_true hb.1;have G0:=Nat.le_of_ble_eq_true hb.2;obtain⟨e,hu,he,jT,kR,ni⟩:=(hE.facts hT).elem hE;obtain⟨i,hi,cr,FU,_,z,hz,vK⟩:=jT.info;(have wo: ∀(k:Nat)(p:Nat×PV)(v:Nat×Value),(ck s parts.toList)[k]?=some p→((parts.map fun x=>(x.1,a.eval x.2)).toList)[k]?=some v→p.1=v.1∧ ∀x,PV.refs p.2=false→PV.fg p.2=[]→exp F s.bl T p.2=some x→av T x w ⟨S,ax w0 S0⟩ v.2.cells.toList:=by intro k p v hk hv;rw[eP,List.getElem?_map]at hk;simp only[Array.toList_map,List.getElem?_map]at hv;cases hx:parts.toList[k]? with|none=>rw[hx]at hk;cases hk|some x=>rw[hx]at hk hv;simp only[Option.map_some,Option.some.injEq]at hk hv;subst hk;subst hv;refine⟨rfl,fun y h1 h2 h3=>?_⟩;have bt:=h.ev (x:=x.2) (aw ho (by have hm:x∈parts:=Array.mem_toList_iff.1 (List.mem_of_getElem? hx);simp only[aC,Op.operands,List.mem_toArray,List.mem_map];exact⟨x,Array.mem_toList_iff.2 hm,rfl⟩));exact gd kR (h.Bk jT.own h1 h2 h3 bt));(have hlen:(ck s parts.toList).length=((parts.map fun x=>(x.1,a.eval x.2)).toList).length:=by simp[eP]);(have Bi:(ck s parts.toList).length=m:=by rw[←hm];simp[eP]);(have main: ∀cells:Array Value,cells.size=m*T.cells→ ∃out,Instr.fill (fun i=>some (i*T.cells,T.cells)) cells (parts.map fun x=>(x.1,a.eval x.2)).toList=some out∧out.size=m*T.cells∧xs.length=m∧ ∀k x,xs[k]?=some x→av T x w ⟨S,ax w0 S0⟩ ((out.toList.drop (k*T.cells)).take T.cells):=by intro cells hc;obtain⟨out,h1,h2,h3,h4,h5⟩:=ph (F:=F) (s:=s) (ck s parts.toList) _ 0 xs cells (fun x cs=>av T x w ⟨S,ax w0 S0⟩ cs) (fun x cs hr=>bk _ _ _ _ _ hr) hlen GX wo (by rw[Bi,hc];omega);exact⟨out,h1,by rw[h2,hc],by rw[h3,Bi],fun k x hk=>by simpa using h5 k x hk⟩);(have fin: ∀out:Array Value,out.size=m*T.cells→xs.length=m→(∀k x,xs[k]?=some x→av T x w ⟨S,ax w0 S0⟩ ((out.toList.drop (k*T.cells)).take T.cells))→ ∃s',K s'∧Rel n w0 S0 s' (a.put o.dst (.slice (some ⟨w.heap.size,0,none⟩) m m)) (w.alloc (.cells out e)):=by intro out Kx Ea Us;have hh:(w.alloc (.cells out e)).heap[w.heap.size]?=some (.cells out e (0,0)):=_root_.Go.heap_alloc_new w _;have Ut:m≤16777216:=Nat.le_trans (Nat.le_mul_of_pos_right m ni) G0;have dP: ∀k x,xs[k]?=some x→av T x (w.alloc (.cells out e)) ⟨S,ax w0 S0⟩ ((out.toList.drop (k*T.cells)).take T.cells):=fun k x hk=>ao (w:=w) (fun b hb=>Below.heap_alloc w _ b (h.W.lt b hb)) (fun _ h=>h) _ _ _ jT.own (Us k x hk);split at ae;(·simp only[aP]at ae;refine⟨_,ae,?_⟩;have hg:=h.grow (S':=fun b=>S b∨b=w.heap.size) (da w (.cells out e) none) (fun b hb=>.inl hb) (fun b hb=>hb.imp id (fun e=>by omega)) (fun b hb=>by simp only[World.alloc,Array.size_push];rcases hb with hb|hb;(·have:=h.W.lt b hb;omega);·omega);refine(hg.put (ba ho) ?_).rel;(suffices kP:av (.sl T) xs (w.alloc (.cells out e)) ⟨fun b=>S b∨b=w.heap.size,ax w0 S0⟩ [.slice (some ⟨w.heap.size,0,none⟩) m m]by unfold GA;split;(·simp only[ai];exact⟨jT.own,⟨_,m,rfl⟩,kP⟩);·simp only[ai];exact⟨jT.own,kP⟩);refine⟨_,m,by rw[Ea],by omega,by omega,.inr ⟨w.heap.size,0,rfl,.inr rfl,?_⟩⟩;refine oy (vs:=out.toList) (by simp[Kx,Ea]) (fun j u hj=>?_) (fun k x hk=>?_);(·show(w.alloc (.cells out e)).cell? _=_;rw[cell_of_row _ _ _ _ _ _ hh,Nat.zero_add];simpa using hj);·exact ao (w:=w.alloc (.cells out e)) (M:=⟨S,ax w0 S0⟩) (M':=⟨fun b=>S b∨b=w.heap.size,ax w0 S0⟩) (fun b _=>rfl) (fun _ h=>.inl h) _ _ _ jT.own (dP k x hk));·simp only[aP,St.fin,hd]at ae;refine⟨_,ae,?_⟩;rw[hd];refine h.nk (v:=.slice (some ⟨w.heap.size,0,none⟩) m m) (ba ho d hd) hl jT.own (da w _ none) ⟨_,_,_,rfl⟩ (fun g hg=>by injection hg with hg;simp at hg;omega) ?_ (bX _ _);refine⟨_,rfl,by omega,.inr ⟨w.heap.size,0,m,out,e,by rw[Ea],by omega,by omega,fun hS=>absurd (h.W.lt _ hS) (by simp),h.W.size _ (Nat.le_refl _),hh,by omega,?_⟩⟩;refine oy (vs:=out.toList) (by simp[Kx,Ea]) (fun j u hj=>?_) (fun k x hk=>?_);(·rw[cell_of_row _ _ _ _ _ _ hh,Nat.zero_add];simpa using hj);·exact dP k x hk);(have Sq: ¬(m*T.cells>2^24):=by omega);by_cases h0:m*T.cells=0;(·obtain⟨out,h1,h2,h3,h4⟩:=main ((Array.range (m*T.cells)).map fun j=>(#[]:Array Value)[j%(#[]:Array Value).size]!) (by simp);refine bV (v:=.slice (some ⟨w.heap.size,0,none⟩) m m) (w':=w.alloc (.cells out e)) ?_ (fin out h2 h3 h4);simp only[execOp,aC,Instr.buildSlice,Sem.run_bind,run_underlying hu,Result.andThen_ok,jT.sizeOf w,Sem.run_ite,Sq,if_false,h0,if_true,Sem.run_pure];rw[h0]at h1;simp only[h1,Sem.run_bind,newRow,run_newObj,Result.andThen_ok,Sem.run_pure];rfl);·obtain⟨out,h1,h2,h3,h4⟩:=main ((Array.range (m*T.cells)).map fun j=>z.cells[j%z.cells.size]!) (by simp);refine bV (v:=.slice (some ⟨w.heap.size,0,none⟩) m m) (w':=w.alloc (.cells out e)) ?_ (fin out h2 h3 h4);simp only[execOp,aC,Instr.buildSlice,Sem.run_bind,run_underlying hu,Result.andThen_ok,jT.sizeOf w,Sem.run_ite,Sq,if_false,h0,Sem.run_pure,zeroValue,typeInfo,run_program,hi,hz,h1,newRow,run_newObj];rfl);·exact ae.elim)
 ·exact ae.elim
theorem qY (hE : aA E) (h : Full n w0 S0 s a w ν S) (ho : bF n o = true) {t d : Nat} {x y : Operand} {T : Ty} {zc : List PV} {k k' : IntKind} {m0 : Int} (l8 : T.xR = true) (aC : o.op = .makeSlice t x y) (hT : E.ty t = some (.sl T)) (hd : o.dst = some d) (hl : look d s.bl = none) (DB : zeroCells T = some zc)
    (vM : a.eval x = .int k m0) (AO : a.eval y = .int k' m0) (h0 : 0 ≤ m0) (h2 : m0 ≤ 274877906944) (ae : K ⟨(d, .aE d) :: s.sl, (d, .arr T (List.replicate (Int.toNat m0) (cy T))) :: s.bl⟩) : o.wp E.P a w (fun a' w' => ∃ s', K s' ∧ Rel n w0 S0 s' a' w') Q := by
  obtain ⟨e, hu, he, jT, kR, ni⟩ := (hE.facts hT).elem hE
  obtain ⟨i, hi, cr, FU, uf, z, hz, vK⟩ := jT.info
  obtain ⟨zv, AL, _, _⟩ := jW (c := h.c) T zc DB
  rw [hz] at uf
  have sC := gn uf AL
  have G1 : (i.bytes : Int) * m0 ≤ 281474976710656 := by
    have e1 : (i.bytes : Int) * m0 ≤ 512 * 274877906944 := Int.mul_le_mul (by omega) h2 h0 (by omega)
    omega
  have hr := run_make (P := E.P) w t e i z hu hi hz k k' m0 m0 h0 (Int.le_refl _) G1 (by omega)
  rw [cr] at hr
  refine bV (v := .slice (some ⟨w.heap.size, 0, none⟩) (Int.toNat m0) (Int.toNat m0)) (w' := w.alloc (.cells (madeCells z.cells (Int.toNat m0 * T.cells)) e)) ?_ ⟨_, ae, ?_⟩
  · simp only [execOp, aC, vM, AO, Sem.run_bind, hr, Result.andThen_ok, Sem.run_pure]
  · rw [hd]
    have hh : (w.alloc (.cells (madeCells z.cells (Int.toNat m0 * T.cells)) e)).heap[w.heap.size]? = some (.cells (madeCells z.cells (Int.toNat m0 * T.cells)) e (0, 0)) := _root_.Go.heap_alloc_new w _
    have Ut : Int.toNat m0 ≤ 274877906944 := by omega
    refine h.nk (ba ho d hd) hl jT.own (da w _ none) ⟨_, _, _, rfl⟩ (fun g hg => by injection hg with hg; simp at hg; omega) ?_ (bX _ _)
    refine ⟨_, rfl, by rw [List.length_replicate]; omega, .inr ⟨w.heap.size, 0, Int.toNat m0, _, e, by rw [List.length_replicate], by rw [List.length_replicate]; omega, by omega, fun hS => absurd (h.W.lt _ hS) (by simp), h.W.size _ (Nat.le_refl _), hh, by rw [size_madeCells]; omega, fun j q hq => ?_⟩⟩
    rw [List.getElem?_replicate] at hq
    split at hq
    · rename_i hj
      simp only [Option.some.injEq] at hq
      subst hq
      refine ⟨zv, bk _ _ _ _ _ (j0 (w := w) (M := ⟨S, ax w0 S0⟩) T zv l8 AL), fun k u hk => ?_, j0 T zv l8 AL⟩
      have tA : k < T.cells := by rw [← bk _ _ _ _ _ (j0 (w := w) (M := ⟨S, ax w0 S0⟩) T zv l8 AL)]; exact (List.getElem?_eq_some_iff.1 hk).1
      rw [cell_of_row _ _ _ _ _ _ hh, Nat.zero_add]
      have cX : j * T.cells + k < Int.toNat m0 * T.cells := by
        calc j * T.cells + k < j * T.cells + T.cells := by omega
          _ = (j + 1) * T.cells := by rw [Nat.add_mul]; omega
          _ ≤ Int.toNat m0 * T.cells := Nat.mul_le_mul_right _ hj
      have GV : (j * T.cells + k) % z.cells.size = k := by
        rw [vK, Nat.add_comm, Nat.add_mul_mod_self_right, Nat.mod_eq_of_lt tA]
      simp only [madeCells, Array.getElem?_map]
      rw [Array.getElem?_eq_getElem (by simpa using cX)]
      simp only [Option.map_some, Array.getElem_range, GV]
      rw [getElem!_pos z.cells k (by omega)]
      rw [← sC] at hk
      simp only [Array.getElem?_toList] at hk
      rw [Array.getElem?_eq_getElem (by omega)] at hk
      exact hk
    · cases hq
theorem sD(hE:aA E)(h:Full n w0 S0 s a w ν S)(ho:bF n o=true) {t:Nat} {x y:Operand} (aC:o.op= .makeSlice t x y)(ae:aP E (aj E F s o) (fun l=>K (s.fin o.dst l))):o.wp E.P a w (fun a' w'=> ∃s',K s'∧Rel n w0 S0 s' a' w') Q:=by
 simp only[aj,aC]at ae;have hx:=h.ev (aw ho (x:=x) (by simp[aC,Op.operands]));have hy:=h.ev (aw ho (x:=y) (by simp[aC,Op.operands]));split at ae;(·rename_i T d k m k' m' hT hd pd wE;split at ae;(·rename_i zc hl DB l8;obtain⟨⟨h0,h1,h2⟩,ae⟩:=ae;simp only[aP,St.fin,hd]at ae;rw[pd]at hx;rw[wE]at hy;obtain⟨vM,_⟩:=bo hx;obtain⟨AO,_⟩:=bo hy;subst h1;exact qY hE h ho l8 aC hT hd hl DB vM AO h0 h2 ae);·exact ae.elim)
 ·exact ae.elim
end
end Go.Proofs.Ytbbmofoiipjbgaa
namespace Go.Proofs.Ytbbmofoiipjbgaa
variable {cH:Prop} [fV cH]
open Go.RowKit
theorem G2 {w w':World} {M M':Mem} : ∀(T:Ty)(x:T.den)(vs:List Value),T.flat=true→av T x w M vs→av T x w' M' vs:=by
 intro T;induction T with|unit=>intro x vs _ h;exact h|int k=>intro x vs _ h;exact h|bool=>intro x vs _ h;exact h|str=>intro x vs _ h;exact h|sl t=>intro x vs hf;cases hf|own t=>intro x vs hf;cases hf|ptr t=>intro x vs hf;cases hf|ea f t=>intro x vs hf;cases hf|mp a b=>intro x vs hf;cases hf|bG=>intro x vs _ h;exact h|bC a b=>intro x vs _ h;exact h.elim|st t ih=>intro x vs hf h;exact ih x vs hf h|pair a b et dR=>intro x vs hf h;simp only[Ty.flat,Bool.and_eq_true]at hf;obtain⟨va,vb,rfl,h1,h2⟩:=h;exact⟨va,vb,rfl,et _ _ hf.1 h1,dR _ _ hf.2 h2⟩
theorem sE {w w':World} {M M':Mem} {T:Ty} {x:T.den} {v:Value} (hf:T.flat=true)(h:b8 T x w M v):b8 T x w' M' v:=by
 cases T with|unit=>exact h|pair a b=>exact h|bC a b=>exact h|st t=>obtain⟨vs,rfl,h⟩:=h;exact⟨vs,rfl,G2 t x vs hf h⟩|int k=>exact h|bool=>exact h|str=>exact h|sl t=>cases hf|own t=>cases hf|ptr t=>cases hf|ea f t=>cases hf|mp a b=>cases hf|bG=>exact h
theorem G3 {w w':World} {M M':Mem} : ∀(T:Ty)(x:T.den)(vs:List Value),T.flat=true→qL T x w M vs→qL T x w' M' vs:=by
 intro T;induction T with|bC a b et dR=>intro x vs hf h;simp only[Ty.flat,Bool.and_eq_true]at hf;obtain⟨v,r,rfl,h1,h2⟩:=h;exact⟨v,r,rfl,sE hf.1 h1,dR _ _ hf.2 h2⟩|_=>intro x vs hf h;obtain⟨v,rfl,h⟩:=h;exact⟨v,rfl,sE hf h⟩
theorem BC {w w':World} {M M':Mem} {T:Ty} {x:T.den} {v:Value} (hf:T.flat=true)(h:iy T x w M v):iy T x w' M' v:=by
 cases T;(case bC a b=>obtain⟨vs,rfl,h⟩:=h;exact⟨vs,rfl,G3 _ x vs hf h⟩);all_goals exact sE (w:=w) (w':=w') (M:=M) (M':=M') (x:=x) (v:=v) hf h
theorem rz: ∀(T:Ty),T.flat=true→aB T=0:=by intro T;induction T<;>simp_all[Ty.flat,aB]
section
variable {E:Env} {n:Nat} {w0:World} {S0:Cx} {s:St} {a:Act} {w:World} {ν:Nat→Value} {S:Nat→Prop} {F:cm} {o:Oper} {K:St→Prop} {Q:Exit→Act→World→Prop}
theorem G4(hE:aA E)(h:Full n w0 S0 s a w ν S)(ho:bF n o=true) {c:Call} (aC:o.op= .call c)(gv:c.callee= .builtin .cap)(ae:aP E (aj E F s o) (fun l=>K (s.fin o.dst l))):o.wp E.P a w (fun a' w'=> ∃s',K s'∧Rel n w0 S0 s' a' w') Q:=by
 obtain⟨callee,args,argTypes⟩:=c;simp only at gv;subst gv;simp only[aj,aC]at ae;split at ae;(·rename_i t bt fm;(obtain⟨xo,gR⟩: ∃xo,args= #[xo]:=by(have hl:args.toList.length=1:=by have:=congrArg List.length bt;rw[lY,List.length_map]at this;simpa using this);match hh:args.toList,hl with|[xo],_=>exact⟨xo,Array.toList_inj.1 (by rw[hh])⟩);subst gR;simp only[bB,List.cons.injEq,and_true]at bt;have ya:argTypes= #[t]:=Array.toList_inj.1 (by rw[fm]);subst ya;have hx:=h.ev (aw ho (x:=xo) (by simp[aC,Op.operands,Call.operands]));rw[bt]at hx;simp only[ai]at hx;split at ae;(·rename_i U hT;obtain⟨e,hu,_⟩:=(hE.facts hT).elem hE;refine h.val ho (v:=.int .i64 0) ?_ (bK (by simp[IntKind.min,IntKind.max,IntKind.signed,IntKind.bits])) ae;simp[execOp,aC,resolve,invoke,builtin,Builtin.cap_,run_underlying hu,hx,goInt]);·exact ae.elim)
 ·exact ae.elim
theorem G5(hE:aA E)(h:Full n w0 S0 s a w ν S)(ho:bF n o=true) {c:Call} (aC:o.op= .call c)(gv:c.callee= .builtin .len)(ae:aP E (aj E F s o) (fun l=>K (s.fin o.dst l))):o.wp E.P a w (fun a' w'=> ∃s',K s'∧Rel n w0 S0 s' a' w') Q:=by
 obtain⟨callee,args,argTypes⟩:=c;simp only at gv;subst gv;simp only[aj,aC]at ae;split at ae;(·rename_i p t bt fm;(obtain⟨xo,gR⟩: ∃xo,args= #[xo]:=by(have hl:args.toList.length=1:=by have:=congrArg List.length bt;rw[lY,List.length_map]at this;simpa using this);match hh:args.toList,hl with|[xo],_=>exact⟨xo,Array.toList_inj.1 (by rw[hh])⟩);subst gR;simp only[bB,List.cons.injEq,and_true]at bt;have ya:argTypes= #[t]:=Array.toList_inj.1 (by rw[fm]);subst ya;have hx:=h.ev (aw ho (x:=xo) (by simp[aC,Op.operands,Call.operands]));rw[bt]at hx;(have fin: ∀m:Nat,m≤9223372036854775807→(Builtin.len_ #[t] o.type #[a.eval xo]).run E.P w= .ok (.int .i64 m) w→aP E (qN m) (fun l=>K (s.fin o.dst l))→o.wp E.P a w (fun a' w'=> ∃s',K s'∧Rel n w0 S0 s' a' w') Q:=by intro m hm hr hK;refine h.val ho (v:=.int .i64 m) ?_ (bK (by simp[IntKind.min,IntKind.max,IntKind.signed,IntKind.bits];omega)) hK;simp[execOp,aC,resolve,invoke,builtin,hr]);simp only[qO]at ae;split at ae;(·rename_i hT;obtain⟨d,hu,tB⟩:=(hE.facts hT).kV;(have hd:d= .string:=by cases d<;>first|rfl|cases tB);subst hd;split at ae;(·rename_i y;obtain⟨hv,hl⟩:=cI hx;(have cr:(⟨y.toArray⟩:ByteArray).size=y.length:=by simp[ByteArray.size]);refine fin _ hl ?_ ae;simp[Builtin.len_,run_underlying hu,hv,goInt,cr]);·exact ae.elim);(·rename_i U hT;obtain⟨e,hu,_⟩:=(hE.facts hT).elem hE;(have hlen: ∀(aa:Option Addr)(m cap:Nat),a.eval xo= .slice aa m cap→(Builtin.len_ #[t] o.type #[a.eval xo]).run E.P w= .ok (.int .i64 m) w:=by intro aa m cap hv;simp[Builtin.len_,run_underlying hu,hv,goInt]);split at ae;(·rename_i U' xs;simp only[ai]at hx;obtain⟨_,aa,cap,hv,h1,h2,_⟩:=hx;injection hv with hv;exact fin _ (Nat.le_trans h1 h2) (hlen _ _ _ hv) ae);(·rename_i id;split at ae;(·rename_i U' xs te hl;obtain⟨hl,_⟩:=bH hl;simp only[ai]at hx;obtain⟨hd,cg,aa,m,cap,hv⟩:=hx;obtain⟨fm,_,u,lJ,Bl,cj⟩:=h.W.bJ _ _ hl;simp only[List.cons.injEq,and_true]at lJ;simp only[Full.c]at cg;(have hm:m=xs.length:=by rw[cg,lJ]at hv;rcases cj with⟨rfl,rfl⟩|⟨g,ob,jO,cur,e',rfl,_⟩;(·injection hv with e1 e2 e3;exact e2.symm);·injection hv with e1 e2 e3;exact e2.symm);subst hm;exact fin _ Bl (hlen _ _ _ hv) ae);·exact ae.elim);(·rename_i id sz off len;obtain⟨hl,hK⟩:=ae;simp only[ai]at hx;obtain⟨hd,aa,m,cap,b,cg,hn,ld,hv,hb⟩:=hx;exact fin _ hl (hlen _ _ _ hv) hK);(·simp only[ai]at hx;exact fin 0 (by omega) (hlen _ _ _ hx) ae);·exact ae.elim);(·rename_i K' V' hT;obtain⟨d,hu,tB⟩:=(hE.facts hT).kV;(obtain⟨k',e',rfl⟩: ∃k' e',d= .map k' e':=by cases d<;>first|exact⟨_,_,rfl⟩|cases tB);split at ae;(·rename_i id;split at ae;(·rename_i K2 V2 es hl;obtain⟨hl,_⟩:=bH hl;simp only[ai]at hx;obtain⟨_,cg,_⟩:=hx;obtain⟨_,_,h0,r,aO,clock,h1,_,_,h4,_,h6,_⟩:=h.W.bJ _ _ hl;simp only[Full.c]at cg;(have cg:a.eval xo= .map (some r):=by rw[cg];exact h1);refine fin _ h0 ?_ ae;simp[Builtin.len_,run_underlying hu,cg,MapKept.run_getObj_map h4,goInt,h6]);·exact ae.elim);·exact ae.elim);·exact ae.elim)
 ·exact ae.elim
theorem iO {P:Program} {c:Ctx} (mx:Bool) {k:IntKind} {Kl:Out→Prop} : ∀(ps:List PV)(vs:List Value)(x:Int),k.min≤x∧x≤k.max→ak c ps vs→aP E (fj mx k x ps) Kl→ ∃z,Kl (.val (.iv (.int k) z))∧k.min≤z∧z≤k.max∧(vs.foldlM (if mx then Builtin.max2 else Builtin.min2) (.int k x)).run P w= .ok (.int k z) w|[],vs,x,hx,hp,h=>(by simp only[ak]at hp;subst hp;exact⟨x,h,hx.1,hx.2,by simp⟩)|p::ps,vs,x,hx,hp,h=>by simp only[ak]at hp;obtain⟨v,r,rfl,h1,h2⟩:=hp;cases p with|iv T y=>(cases T with|int l=>simp only[fj]at h;split at h;(·rename_i hk;have hk:=cG hk;subst hk;obtain⟨rfl,hy⟩:=bo h1;change Int at y;cases mx;(·(have hz:k.min≤min x (y:Int)∧min x (y:Int)≤k.max:=by(have e1:min x (y:Int)=x∨min x (y:Int)=y:=by rcases Int.le_total x y with h|h<;>simp[Int.min_def,h]<;>omega);rcases e1 with e|e<;>rw[e]<;>assumption);obtain⟨z,G6,G7,G8,BD⟩:=iO false ps r _ hz h2 h;refine⟨z,G6,G7,G8,?_⟩;rw[List.foldlM_cons,Sem.run_bind];(have e:Builtin.min2 (.int k x) (.int k y)=pure (.int k (min x (y:Int))):=by simp only[Builtin.min2,Int.min_def];congr 2;by_cases hc:x≤(y:Int);(·rw[if_pos hc,if_neg (by omega)]);·rw[if_neg hc,if_pos (by omega)]);simp only[Bool.false_eq_true,if_false]at BD⊢;rw[e];simpa using BD);·(have hz:k.min≤max x (y:Int)∧max x (y:Int)≤k.max:=by(have e1:max x (y:Int)=x∨max x (y:Int)=y:=by rcases Int.le_total x y with h|h<;>simp[Int.max_def,h]<;>omega);rcases e1 with e|e<;>rw[e]<;>assumption);obtain⟨z,G6,G7,G8,BD⟩:=iO true ps r _ hz h2 h;refine⟨z,G6,G7,G8,?_⟩;rw[List.foldlM_cons,Sem.run_bind];(have e:Builtin.max2 (.int k x) (.int k y)=pure (.int k (max x (y:Int))):=by simp only[Builtin.max2,Int.max_def];congr 2;by_cases hc:x≤(y:Int);(·rw[if_pos hc];by_cases hd:(y:Int)>x;(·rw[if_pos hd]);·rw[if_neg hd];omega);·rw[if_neg hc,if_neg (by omega)]);simp only[if_true]at BD⊢;rw[e];simpa using BD);(·exact h.elim)|_=>simp only[fj]at h;exact h.elim)|_=>simp only[fj]at h;exact h.elim
theorem G9(h:Full n w0 S0 s a w ν S)(ho:bF n o=true) {c:Call} (aC:o.op= .call c)(gv:c.callee= .builtin .min)(ae:aP E (aj E F s o) (fun l=>K (s.fin o.dst l))):o.wp E.P a w (fun a' w'=> ∃s',K s'∧Rel n w0 S0 s' a' w') Q:=by
 obtain⟨callee,args,argTypes⟩:=c;simp only at gv;subst gv;simp only[aj,aC]at ae;split at ae;(·rename_i k x r bt;have bx:=ef h args.toList (fun y hy=>aw ho (by simp only[aC,Op.operands,Call.operands];simpa using hy));rw[bt]at bx;simp only[ak]at bx;obtain⟨v,vs,wg,h1,h2⟩:=bx;obtain⟨rfl,hx⟩:=bo h1;obtain⟨z,G6,G7,G8,BD⟩:=iO (P:=E.P) (w:=w) false r vs x hx h2 ae;refine h.val ho (v:=.int k z) ?_ (bK ⟨G7,G8⟩) G6;(have hl:(args.map a.eval).toList= .int k x::vs:=by simpa using wg);simp only[Bool.false_eq_true,if_false]at BD;simp only[execOp,aC,resolve,invoke,builtin,Builtin.min_,Sem.run_bind,Sem.run_pure,Result.andThen_ok,hl,BD])
 ·exact ae.elim
theorem Ha(h:Full n w0 S0 s a w ν S)(ho:bF n o=true) {c:Call} (aC:o.op= .call c)(gv:c.callee= .builtin .max)(ae:aP E (aj E F s o) (fun l=>K (s.fin o.dst l))):o.wp E.P a w (fun a' w'=> ∃s',K s'∧Rel n w0 S0 s' a' w') Q:=by
 obtain⟨callee,args,argTypes⟩:=c;simp only at gv;subst gv;simp only[aj,aC]at ae;split at ae;(·rename_i k x r bt;have bx:=ef h args.toList (fun y hy=>aw ho (by simp only[aC,Op.operands,Call.operands];simpa using hy));rw[bt]at bx;simp only[ak]at bx;obtain⟨v,vs,wg,h1,h2⟩:=bx;obtain⟨rfl,hx⟩:=bo h1;obtain⟨z,G6,G7,G8,BD⟩:=iO (P:=E.P) (w:=w) true r vs x hx h2 ae;refine h.val ho (v:=.int k z) ?_ (bK ⟨G7,G8⟩) G6;(have hl:(args.map a.eval).toList= .int k x::vs:=by simpa using wg);simp only[if_true]at BD;simp only[execOp,aC,resolve,invoke,builtin,Builtin.max_,Sem.run_bind,Sem.run_pure,Result.andThen_ok,hl,BD])
 ·exact ae.elim
end
end Go.Proofs.Ytbbmofoiipjbgaa
namespace Go.Proofs.Ytbbmofoiipjbgaa
variable {cH:Prop} [fV cH]
open Go.RowKit Go.MapKept
/-! ### Keys -/
def ft:(T:Ty)→T.den→List Value|.int k,x=>[.int k x]|.bool,x=>[.bool x]|.str,x=>[.string ⟨x.toArray⟩]|.pair a b,x=>ft a x.1++ft b x.2|.st t,x=>ft t x|_,_=>[]
theorem bI {w:World} {M:Mem} : ∀(T:Ty)(x:T.den)(vs:List Value),dm T=true→av T x w M vs→vs=ft T x:=by
 intro T;induction T with|int k=>intro x vs _ h;exact h.1|bool=>intro x vs _ h;exact h|str=>intro x vs _ h;exact h.1|pair a b et dR=>intro x vs hp h;simp only[dm,Bool.and_eq_true]at hp;obtain⟨va,vb,rfl,h1,h2⟩:=h;rw[et _ _ hp.1 h1,dR _ _ hp.2 h2];rfl|st t ih=>intro x vs hp h;exact ih x vs hp h|_=>intro x vs hp;cases hp
theorem Eb: ∀(T:Ty)(x y:T.den),dm T=true→(jy T x y=true↔x=y):=by
 intro T;induction T with|int k=>intro x y _;simp[jy]|bool=>intro x y _;simp[jy]|str=>intro x y _;simp[jy]|pair a b et dR=>intro x y hp;simp only[dm,Bool.and_eq_true]at hp;simp only[jy,Bool.and_eq_true,et _ _ hp.1,dR _ _ hp.2];exact⟨fun h=>Prod.ext h.1 h.2,fun h=>by rw[h];exact⟨rfl,rfl⟩⟩|st t ih=>intro x y hp;exact ih x y hp|_=>intro x y hp;cases hp
theorem BE: ∀(T:Ty)(x y:T.den),dm T=true→fX T x y=some (jy T x y):=by
 intro T;induction T with|int k=>intro x y _;rfl|bool=>intro x y _;rfl|str=>intro x y _;rfl|pair a b et dR=>intro x y hp;simp only[dm,Bool.and_eq_true]at hp;simp only[fX,jy,et _ _ hp.1,dR _ _ hp.2]|st t ih=>intro x y hp;exact ih x y hp|_=>intro x y hp;cases hp
theorem iP {E:Env} {t:Nat} {K:Ty} (h:tL E t K=true):dm K=true∧gu E t K∧dep K≤101∧K.val=true:=by
 cases K with|int k=>exact⟨rfl,trivial,by simp[dep],rfl⟩|bool=>exact⟨rfl,trivial,by simp[dep],rfl⟩|str=>exact⟨rfl,trivial,by simp[dep],rfl⟩|st R=>simp only[tL,Bool.and_eq_true]at h;have:=Nat.le_of_ble_eq_true h.2;exact⟨h.1.2,h.1.1,by simp only[dep];omega,rfl⟩|_=>cases h
theorem pj: ∀(T:Ty)(x:T.den),dm T=true→ ∀u,u∈ft T x→ ∀n,Instr.sameBits n u u=true:=by
 intro T;induction T with|int k=>intro x _ u hu n;simp only[ft,List.mem_singleton]at hu;subst hu;cases n<;>simp[Instr.sameBits]|bool=>intro x _ u hu n;simp only[ft,List.mem_singleton]at hu;subst hu;cases n<;>simp[Instr.sameBits]|str=>intro x _ u hu n;simp only[ft,List.mem_singleton]at hu;subst hu;cases n<;>(simp only[Instr.sameBits];exact(bytes_beq _ _).2 rfl)|pair a b et dR=>intro x hp u hu n;simp only[dm,Bool.and_eq_true]at hp;simp only[ft]at hu;rcases List.mem_append.1 hu with hu|hu;(·exact et _ hp.1 u hu n);(·exact dR _ hp.2 u hu n)|st t ih=>intro x hp u hu n;exact ih x hp u hu n|_=>intro x hp;cases hp
theorem l9 {p:Value→Value→Bool} : ∀(l:List Value),(∀u,u∈l→p u u=true)→(l.zip l).all (fun x=>p x.1 x.2)=true|[],_=>rfl|u::l,h=>by simp only[List.zip_cons_cons,List.all_cons,Bool.and_eq_true];exact⟨h u (List.mem_cons_self ..),l9 l fun v hv=>h v (List.mem_cons_of_mem _ hv)⟩
theorem sF {P:Program} {w w2:World} {M:Mem} {K:Ty} {x:K.den} {v:Value} (hp:dm K=true)(hv:K.val=true)(h:b8 K x w M v):(Instr.keyThatStays v v).run P w2= .ok v w2:=by
 (have hs:Instr.sameBits 10000 v v=true:=by cases K with|int k=>obtain⟨h,_⟩:=h;injection h with h;subst h;simp[Instr.sameBits]|bool=>have h:[v]=[.bool x]:=h;injection h with h;subst h;simp[Instr.sameBits]|str=>obtain⟨h,_⟩:=h;injection h with h;subst h;simp only[Instr.sameBits];exact(bytes_beq _ _).2 rfl|st R=>obtain⟨vs,rfl,hr⟩:=h;have e:=bI R x vs hp hr;subst e;simp only[Instr.sameBits,beq_self_eq_true,Bool.true_and];exact l9 _ fun u hu=>pj R x hp u hu _|_=>first|cases hp|cases hv)
 simp[Instr.keyThatStays,hs]
section
variable {E:Env} {w:World} {M:Mem}
theorem uz(hE:aA E): ∀(fs:List Field)(R:Ty)(off:Nat),bn E.ty fs R off=true→eN E.ty E.cmp fs=true→ ∀(x:R.den)(xs:Array Value),off+R.cells≤xs.size→av R x w M ((xs.toList.drop off).take R.cells)→ ∀f,f∈fs→f.name≠ "_" ∧ ∃(T:Ty)(y:T.den)(v:Value),E.ty f.type=some T∧gu E f.type T∧dep T≤dep R∧(Go.part f.type xs f.offset).run E.P w= .ok v w∧b8 T y w M v:=by
 (have one: ∀(f:Field)(T:Ty)(off:Nat)(y:T.den)(xs:Array Value),Nat.beq f.offset off=true→jQ E.ty f.type T=true→(match E.ty f.type with|some (.int _)=>true|some .bool=>true|some .str=>true|some (.st _)=>E.cmp f.type|_=>false)=true→off+T.cells≤xs.size→av T y w M ((xs.toList.drop off).take T.cells)→ ∃v:Value,E.ty f.type=some T∧gu E f.type T∧(Go.part f.type xs f.offset).run E.P w= .ok v w∧b8 T y w M v:=by intro f T off y xs h1 h2 hc hx hr;have iJ:=Nat.eq_of_beq_eq_true h1;(have hT:E.ty f.type=some T:=by unfold jQ at h2;split at h2;(·rename_i U hU;rw[Ty.bZ h2]at hU;exact hU);·cases h2);have hf:=hE.facts hT;rw[hT]at hc;(have hk:gu E f.type T:=by cases T<;>first|trivial|exact hc|cases hc);(have tD:b8 T y w M (valOf T ((xs.toList.drop off).take T.cells)):=by have:=ed hf.val hr;have hv:=hf.val;cases T<;>first|exact this|cases hv);exact⟨_,hT,hk,by rw[iJ];exact fa hf hx,tD⟩)
 intro fs;induction fs with|nil=>intro R off h;cases h|cons f fs K5=>intro R off h hc x xs hx hr g hg;simp only[eN,Bool.and_eq_true]at hc;cases fs with|nil=>simp only[bn,Bool.and_eq_true,Bool.not_eq_true']at h;obtain⟨⟨⟨⟨h1,h2⟩,h3⟩,h4⟩,h5⟩:=h;rcases List.mem_cons.1 hg with rfl|hg;(·obtain⟨v,e1,e2,e3,e4⟩:=one g R off x xs h1 h2 hc.1 hx hr;exact⟨by simpa using h5,R,x,v,e1,e2,Nat.le_refl _,e3,e4⟩);(·cases hg)|cons f2 VL=>cases R with|pair a b=>simp only[bn,Bool.and_eq_true,Bool.not_eq_true']at h;obtain⟨⟨⟨⟨⟨h1,h2⟩,h3⟩,h4⟩,h5⟩,h6⟩:=h;simp only[Ty.cells]at hx hr;obtain⟨va,vb,hv,zg,AI⟩:=hr;have oz:=bk _ _ _ _ _ zg;have Kw:=bk _ _ _ _ _ AI;(have e1:(xs.toList.drop off).take a.cells=va:=by have:=congrArg (List.take a.cells) hv;rw[List.take_take,Nat.min_eq_left (by omega),←oz,List.take_left]at this;rw[←oz];exact this);(have e2:(xs.toList.drop (off+a.cells)).take b.cells=vb:=by have:=congrArg (List.drop a.cells) hv;rw[List.drop_take,List.drop_drop,←oz,List.drop_left,oz]at this;rw[show a.cells+b.cells-a.cells=b.cells from by omega]at this;exact this);rcases List.mem_cons.1 hg with rfl|hg;(·obtain⟨v,e3,e4,e5,e6⟩:=one g a off x.1 xs h1 h2 hc.1 (by omega) (by rw[e1];exact zg);exact⟨by simpa using h5,a,x.1,v,e3,e4,by simp only[dep];omega,e5,e6⟩);(·obtain⟨n1,T,y,v,e3,e4,e5,e6⟩:=K5 b (off+a.cells) h6 hc.2 x.2 xs (by omega) (by rw[e2];exact AI) g hg;exact⟨n1,T,y,v,e3,e4,by simp only[dep];omega,e6⟩)|_=>simp only[bn]at h;cases h
theorem wH {V:Ty} (hV:V.val=true): ∀(m k:Nat)(x:(rowOf V (m+1)).den)(xs:Array Value),(k+(m+1))*V.cells≤xs.size→av (rowOf V (m+1)) x w M ((xs.toList.drop (k*V.cells)).take ((m+1)*V.cells))→ ∀i,k≤i→i<k+(m+1)→ ∃y:V.den,av V y w M ((xs.toList.drop (i*V.cells)).take V.cells):=by
 intro m;induction m with|zero=>intro k x xs hx hr i h1 h2;(have:i=k:=by omega);subst this;simp only[Nat.zero_add,Nat.one_mul]at hr;exact⟨x,hr⟩|succ m ih=>intro k x xs hx hr i h1 h2;obtain⟨va,vb,hv,zg,AI⟩:=hr;have oz:=bk _ _ _ _ _ zg;have hle:V.cells≤(m+1+1)*V.cells:=Nat.le_mul_of_pos_left _ (by omega);(have e1:(xs.toList.drop (k*V.cells)).take V.cells=va:=by have:=congrArg (List.take V.cells) hv;rw[List.take_take,Nat.min_eq_left hle,←oz,List.take_left]at this;rw[←oz];exact this);(have e2:(xs.toList.drop ((k+1)*V.cells)).take ((m+1)*V.cells)=vb:=by have:=congrArg (List.drop V.cells) hv;rw[List.drop_take,List.drop_drop,←oz,List.drop_left,oz]at this;rw[show(m+1+1)*V.cells-V.cells=(m+1)*V.cells from by rw[Nat.add_mul (m+1) 1];omega,show k*V.cells+V.cells=(k+1)*V.cells from by rw[Nat.add_mul,Nat.one_mul]]at this;exact this);by_cases tY:i=k;(·subst tY;exact⟨x.1,by rw[e1];exact zg⟩);·exact ih (k+1) x.2 xs (by rw[show k+1+(m+1)=k+(m+1+1)from by omega];exact hx) (by rw[e2];exact AI) i (by omega) (by omega)
theorem rA (hE : aA E) : ∀ (d : Nat) (K : Ty) (t : Nat) (x : K.den) (v : Value), E.ty t = some K → gu E t K → b8 K x w M v → dep K ≤ d → ∀ em, (Instr.checkKey em (d + 1) t v).run E.P w = .ok () w := by
  intro d
  induction d with
  | zero =>
    intro K t x v hT hk hv hd em
    have hf := hE.facts hT
    obtain ⟨dd, hu, hs⟩ := hf.kV
    rw [Instr.checkKey]
    simp only [Sem.run_bind, run_underlying hu, Result.andThen_ok]
    cases K with
    | int k => cases dd <;> first | cases hs | (obtain ⟨hv, _⟩ := hv; injection hv with hv; subst hv; rfl)
    | bool => have hv : [v] = [.bool x] := hv; injection hv with hv; subst hv; cases dd <;> first | rfl | cases hs
    | str => obtain ⟨hv, _⟩ := hv; injection hv with hv; subst hv; cases dd <;> first | rfl | cases hs
    | st R => simp only [dep] at hd; omega
    | _ => cases hk
  | succ d ih =>
    intro K t x v hT hk hv hd em
    have hf := hE.facts hT
    obtain ⟨dd, hu, hs⟩ := hf.kV
    rw [Instr.checkKey]
    simp only [Sem.run_bind, run_underlying hu, Result.andThen_ok]
    cases K with
    | int k => cases dd <;> first | cases hs | (obtain ⟨hv, _⟩ := hv; injection hv with hv; subst hv; rfl)
    | bool => have hv : [v] = [.bool x] := hv; injection hv with hv; subst hv; cases dd <;> first | rfl | cases hs
    | str => obtain ⟨hv, _⟩ := hv; injection hv with hv; subst hv; cases dd <;> first | rfl | cases hs
    | st R =>
      obtain ⟨vs, rfl, hr⟩ := hv
      have hlen := bk _ _ _ _ _ hr
      obtain ⟨_, _, cj⟩ := np hE hk
      simp only [dep] at hd
      rcases cj with ⟨fs, lJ, Uu, _⟩ | ⟨m, e, lJ, Nh⟩
      · rw [hu] at lJ
        injection lJ with lJ
        subst lJ
        simp only
        rw [← Array.forIn_toList]
        have each := uz hE fs.toList R 0 hs Uu x vs.toArray (by simp [hlen]) (by simp only [List.drop_zero]; rw [List.take_of_length_le (by simp [hlen])]; exact hr)
        generalize fs.toList = L at each
        induction L with
        | nil => simp
        | cons f L Od =>
          obtain ⟨hn, T, y, u, Uv, Uw, VM, p1, bW⟩ := each f (List.mem_cons_self ..)
          have p2 := ih T f.type y u Uv Uw bW (by omega) em
          simp only [List.forIn_cons, Sem.run_bind, hn, ne_eq, not_false_eq_true, if_true, Result.andThen_ok, p1, p2, Sem.run_pure]
          have hL := Od fun g hg => each g (List.mem_cons_of_mem _ hg)
          simp only [Sem.run_bind, ne_eq, Sem.run_pure] at hL
          exact hL
      · rw [hu] at lJ
        injection lJ with lJ
        subst lJ
        simp only [b6] at hs
        split at hs
        · rename_i V hV
          simp only [Bool.and_eq_true] at hs
          obtain ⟨⟨⟨h1, h2⟩, h3⟩, h4⟩ := hs
          have h4 := Nat.le_of_ble_eq_true h4
          obtain ⟨m', rfl⟩ : ∃ m', m = m' + 1 := ⟨m - 1, by omega⟩
          have hR := Ty.bZ h1
          subst hR
          have Ni := hE.facts hV
          have Ux : gu E e V := by
            unfold lV at Nh
            rw [hV] at Nh
            cases V <;> first | trivial | exact Nh | cases Nh
          have N3 : dep V ≤ d := by
            have : ∀ n, dep V ≤ dep (rowOf V (n + 1)) := by
              intro n
              cases n with
              | zero => exact Nat.le_refl _
              | succ n => simp only [rowOf, dep]; omega
            have := this m'
            omega
          have wI := jX V (m' + 1)
          have each := wH (w := w) (M := M) h2 m' 0 x vs.toArray (by simp [hlen, wI]) (by simp only [Nat.zero_mul, List.drop_zero]; rw [List.take_of_length_le (by simp [hlen, wI])]; exact hr)
          simp only [Std.Legacy.Range.forIn_eq_forIn_range', Std.Legacy.Range.size, Nat.sub_zero, Nat.add_one_sub_one, Nat.div_one]
          have BF : ∀ i, i ∈ List.range' 0 (m' + 1) → ∃ y : V.den, i < m' + 1 ∧ av V y w M ((vs.toArray.toList.drop (i * V.cells)).take V.cells) := by
            intro i hi
            have sq : i < m' + 1 := by simpa using hi
            obtain ⟨y, hy⟩ := each i (Nat.zero_le _) (by omega)
            exact ⟨y, sq, hy⟩
          generalize List.range' 0 (m' + 1) = is at BF
          induction is with
          | nil => simp
          | cons i is Od =>
            obtain ⟨y, hi, hy⟩ := BF i (List.mem_cons_self ..)
            have hle : i * V.cells + V.cells ≤ vs.toArray.size := by
              rw [List.size_toArray, hlen, wI]
              calc i * V.cells + V.cells = (i + 1) * V.cells := by rw [Nat.add_mul, Nat.one_mul]
                _ ≤ (m' + 1) * V.cells := Nat.mul_le_mul_right _ hi
            have p1 := fa Ni (w := w) (cs := vs.toArray) (off := i * V.cells) hle
            have tD : b8 V y w M (valOf V ((vs.toArray.toList.drop (i * V.cells)).take V.cells)) := by
              have := ed Ni.val hy
              have hv := Ni.val
              cases V <;> first | exact this | cases hv
            have p2 := ih V e y _ hV Ux tD N3 em
            simp only [List.forIn_cons, Sem.run_bind, Ni.sizeOf w, Result.andThen_ok, p1, p2, Sem.run_pure]
            have hL := Od fun j hj => BF j (List.mem_cons_of_mem _ hj)
            simp only [Sem.run_bind, Sem.run_pure] at hL
            exact hL
        · cases hs
    | _ => cases hk
/-! ### A map's entries -/
def jt(w:World)(M:Mem)(K V:Ty):List (K.den×V.den)→List MapEntry→Prop|[],[]=>True|y::es,e::l=>(∃ca cb,e.key=valOf K ca∧av K y.1 w M ca∧e.val=valOf V cb∧av V y.2 w M cb)∧jt w M K V es l|_,_=>False
theorem kC {K V:Ty} : ∀(es:List (K.den×V.den))(l:List MapEntry),l.length=es.length→(∀(i:Nat)(y:K.den×V.den),es[i]?=some y→ ∃(e:MapEntry)(ca cb:List Value),l[i]?=some e∧e.key=valOf K ca∧av K y.1 w M ca∧e.val=valOf V cb∧av V y.2 w M cb)→jt w M K V es l|[],[],_,_=>trivial|[],_::_,h,_=>(by simp at h)|_::_,[],h,_=>(by simp at h)|y::es,e::l,hl,h=>by obtain⟨e',ca,cb,h1,h2⟩:=h 0 y rfl;simp only[List.getElem?_cons_zero,Option.some.injEq]at h1;subst h1;exact⟨⟨ca,cb,h2⟩,kC es l (by simpa using hl) fun i z hz=>by simpa using h (i+1) z (by simpa using hz)⟩
theorem gw {T:Ty} {x:T.den} {vs:List Value} (hT:T.val=true)(h:av T x w M vs):b8 T x w M (valOf T vs):=by have:=ed hT h;cases T<;>first|exact this|cases hT
def ju {K V:Type} (eq:K→K→Bool):List (K×V)→K→Option Nat|[],_=>none|p::r,k=>bif eq k p.1 then some 0 else(match ju eq r k with|some i=>some (i+1)|none=>none)
theorem nq {K V:Type} (eq:K→K→Bool)(k:K): ∀(es:List (K×V)),gL eq es k=(ju eq es k).bind fun i=>(es[i]?).map (·.2)|[]=>rfl|p::r=>by simp only[gL,ju];cases eq k p.1 with|true=>rfl|false=>simp only[cond_false,nq eq k r];cases ju eq r k<;>rfl
theorem pr {K V:Type} (eq:K→K→Bool)(k:K)(v:V): ∀(es:List (K×V)),vR eq es k v=(match ju eq es k with|some i=>es.set i (k,v)|none=>es++ [(k,v)])|[]=>rfl|p::r=>by simp only[vR,ju];cases eq k p.1 with|true=>rfl|false=>simp only[cond_false,pr eq k v r];cases ju eq r k<;>rfl
theorem sG {K V:Type} (eq:K→K→Bool)(k:K): ∀(es:List (K×V))(i:Nat),ju eq es k=some i→ ∃p,es[i]?=some p∧eq k p.1=true|[],i,h=>(by cases h)|p::r,i,h=>by simp only[ju]at h;cases hb:eq k p.1 with|true=>rw[hb]at h;injection h with h;subst h;exact⟨p,rfl,hb⟩|false=>rw[hb]at h;simp only[cond_false]at h;split at h;(·rename_i j hj;injection h with h;subst h;obtain⟨q,h1,h2⟩:=sG eq k r j hj;exact⟨q,by simpa using h1,h2⟩);·cases h
theorem zr {K:Ty} {x y:K.den} {u v:Value} (hp:dm K=true)(hv:K.val=true)(hx:b8 K x w M u)(hy:b8 K y w M v):x=y→u=v:=by
 intro e;subst e;cases K with|int k=>have hx:av (.int k) x w M [u]:=hx;have hy:av (.int k) x w M [v]:=hy;have:=(bI _ _ _ hp hx).trans (bI _ _ _ hp hy).symm;simpa using this|bool=>have hx:av .bool x w M [u]:=hx;have hy:av .bool x w M [v]:=hy;have:=(bI _ _ _ hp hx).trans (bI _ _ _ hp hy).symm;simpa using this|str=>have hx:av .str x w M [u]:=hx;have hy:av .str x w M [v]:=hy;have:=(bI _ _ _ hp hx).trans (bI _ _ _ hp hy).symm;simpa using this|st R=>obtain⟨vs,rfl,h1⟩:=hx;obtain⟨us,rfl,h2⟩:=hy;rw[bI R _ _ hp h1,bI R _ _ hp h2]|_=>first|cases hp|cases hv
def eR {K V:Ty} (es:List (K.den×V.den))(l:List MapEntry)(k:K.den)(i0:Nat)(res:Option (Nat×Value)):Prop:=match ju (jy K) es k with|none=>res=none|some i=> ∃e,l[i]?=some e∧res=some (i0+i,e.val)
theorem pz(hE:aA E) {K V:Ty} {kt:Nat} (hT:E.ty kt=some K)(hk:tL E kt K=true) {k:K.den} {kv:Value} (mW:b8 K k w M kv): ∀(es:List (K.den×V.den))(l:List MapEntry)(i0:Nat),jt w M K V es l→ ∃res,(Instr.findAsking kt kv l i0).run E.P w= .ok res w∧eR es l k i0 res|[],[],i0,_=>⟨none,by simp[Instr.findAsking],rfl⟩|[],_::_,_,h=>h.elim|_::_,[],_,h=>h.elim|y::es,e::l,i0,h=>by obtain⟨⟨ca,cb,h1,h2,h3,h4⟩,h5⟩:=h;obtain⟨hp,Lh,hd,kR⟩:=iP hk;(have Uy:b8 K y.1 w M e.key:=by rw[h1];exact gw kR h2);have heq:(Op.equal kt kv e.key).run E.P w= .ok (jy K k y.1) w:=Bu hE 9999 K kt k y.1 kv e.key _ (hE.facts hT) Lh mW Uy (BE K k y.1 hp) (by omega);cases hb:jy K k y.1 with|true=>rw[hb]at heq;exact⟨some (i0,e.val),by simp[Instr.findAsking,heq],by simp only[eR,ju,hb,cond_true];exact⟨e,rfl,rfl⟩⟩|false=>rw[hb]at heq;obtain⟨res,hr,hf⟩:=pz hE hT hk mW es l (i0+1) h5;refine⟨res,by simp[Instr.findAsking,heq,hr],?_⟩;simp only[eR,ju,hb,cond_false]at hf⊢;cases hm:ju (jy K) es k with|none=>rw[hm]at hf;exact hf|some i=>rw[hm]at hf;obtain⟨e',wb,BG⟩:=hf;exact⟨e',by simpa using wb,by rw[BG];simp only[Option.some.injEq,Prod.mk.injEq,and_true];omega⟩
theorem oB {K V:Ty} {d:TypeDesc} (hs:(match K with|.int l=>(match d with|.int k=>eK k l|_=>false)|.bool=>(match d with|.bool=>true|_=>false)|.str=>(match d with|.string=>true|_=>false)|_=>false)=true) {k:K.den} {kv:Value} (mW:b8 K k w M kv): ∀(es:List (K.den×V.den))(l:List MapEntry)(i0:Nat),jt w M K V es l→ ∃res,Instr.findNow d kv l i0=some res∧eR es l k i0 res|[],[],i0,_=>⟨none,rfl,rfl⟩|[],_::_,_,h=>h.elim|_::_,[],_,h=>h.elim|y::es,e::l,i0,h=>by obtain⟨⟨ca,cb,h1,h2,h3,h4⟩,h5⟩:=h;(have ma:Instr.sameNow d kv e.key=some (jy K k y.1):=by cases K with|int kk=>have mW:av (.int kk) k w M [kv]:=mW;have e1:=bI (.int kk) k _ rfl mW;have e2:=bI (.int kk) y.1 _ rfl h2;simp only[ft,List.cons.injEq,and_true]at e1 e2;subst e1;rw[h1,e2];(cases d<;>first|(cases hs;done)|skip);simp only[Instr.sameNow,valOf,List.headD_cons,if_true,jy];congr 1|bool=>have mW:av .bool k w M [kv]:=mW;have e1:=bI .bool k _ rfl mW;have e2:=bI .bool y.1 _ rfl h2;simp only[ft,List.cons.injEq,and_true]at e1 e2;subst e1;rw[h1,e2];(cases d<;>first|rfl|(cases hs;done))|str=>have mW:av .str k w M [kv]:=mW;have e1:=bI .str k _ rfl mW;have e2:=bI .str y.1 _ rfl h2;simp only[ft,List.cons.injEq,and_true]at e1 e2;subst e1;rw[h1,e2];(have hb: ∀a b:List UInt8,((⟨a.toArray⟩:ByteArray)==⟨b.toArray⟩)=decide (a=b):=by intro a b;rw[Bool.eq_iff_iff,bytes_beq,decide_eq_true_iff];constructor;(·intro h;injection h with h;simpa using congrArg Array.toList h);·intro h;rw[h]);(cases d<;>first|(cases hs;done)|skip);simp only[Instr.sameNow,valOf,List.headD_cons,hb,jy]|_=>cases hs);cases hb:jy K k y.1 with|true=>rw[hb]at ma;exact⟨some (i0,e.val),by simp[Instr.findNow,ma],by simp only[eR,ju,hb,cond_true];exact⟨e,rfl,rfl⟩⟩|false=>rw[hb]at ma;obtain⟨res,hr,hf⟩:=oB hs mW es l (i0+1) h5;refine⟨res,by simp[Instr.findNow,ma,hr],?_⟩;simp only[eR,ju,hb,cond_false]at hf⊢;cases hm:ju (jy K) es k with|none=>rw[hm]at hf;exact hf|some i=>rw[hm]at hf;obtain⟨e',wb,BG⟩:=hf;exact⟨e',by simpa using wb,by rw[BG];simp only[Option.some.injEq,Prod.mk.injEq,and_true];omega⟩
theorem pA(hE:aA E) {K V:Ty} {kt:Nat} (hT:E.ty kt=some K)(hk:tL E kt K=true) {k:K.den} {kv:Value} (mW:b8 K k w M kv)(es:List (K.den×V.den))(l:List MapEntry)(h:jt w M K V es l): ∃res,(Instr.findKey kt kv l).run E.P w= .ok res w∧eR es l k 0 res:=by
 obtain⟨d,hu,hs⟩:=(hE.facts hT).kV;(have now: ∀res,Instr.findNow d kv l 0=some res→(Instr.findKey kt kv l).run E.P w= .ok res w:=fun res hr=>by simp[Instr.findKey,run_underlying hu,hr])
 (have ask:Instr.findNow d kv l 0=none→ ∃res,(Instr.findKey kt kv l).run E.P w= .ok res w∧eR es l k 0 res:=fun hr=>by obtain⟨res,h1,h2⟩:=pz hE hT hk mW es l 0 h;exact⟨res,by simp[Instr.findKey,run_underlying hu,hr,h1],h2⟩)
 cases K with|int kk=>obtain⟨res,h1,h2⟩:=oB (d:=d) (by cases d<;>first|exact hs|cases hs) mW es l 0 h;exact⟨res,now res h1,h2⟩|bool=>obtain⟨res,h1,h2⟩:=oB (d:=d) (by cases d<;>first|exact hs|cases hs) mW es l 0 h;exact⟨res,now res h1,h2⟩|str=>obtain⟨res,h1,h2⟩:=oB (d:=d) (by cases d<;>first|exact hs|cases hs) mW es l 0 h;exact⟨res,now res h1,h2⟩|st R=>(match es,l,h with|[],[],_=>exact⟨none,now none rfl,rfl⟩|y::es,e::l,h=>refine ask ?_;simp only[b6]at hs;cases d<;>first|(cases hs;done)|rfl)|_=>cases hk
end
end Go.Proofs.Ytbbmofoiipjbgaa
namespace Go.Proofs.Ytbbmofoiipjbgaa
variable {cH:Prop} [fV cH]
open Go.RowKit Go.MapKept
section
variable {E:Env} {n:Nat} {w0:World} {S0:Cx} {s:St} {a:Act} {w:World} {ν:Nat→Value} {S:Nat→Prop} {F:cm} {o:Oper} {K:St→Prop} {Q:Exit→Act→World→Prop}
theorem pB(hE:aA E) {t:Nat} {A B:Ty} (hT:E.ty t=some (.mp A B)): ∃k v,E.P.underlying t=some (.map k v)∧E.ty k=some A∧E.ty v=some B∧A.val=true∧B.val=true∧aB A=0∧aB B=0:=by
 have hf:=hE.facts hT;obtain⟨d,hu,hs⟩:=hf.kV;have ho:=hf.own;simp only[aB]at ho;cases d with|map k v=>simp only[b6,Bool.and_eq_true]at hs;obtain⟨⟨⟨h1,h2⟩,h3⟩,h4⟩:=hs;(have is: ∀(u:Nat)(U:Ty),jQ E.ty u U=true→E.ty u=some U:=by intro u U h;unfold jQ at h;split at h;(·rename_i X hX;rw[Ty.bZ h]at hX;exact hX);·cases h);exact⟨k,v,hu,is _ _ h1,is _ _ h2,h3,h4,by omega,by omega⟩|_=>simp only[b6]at hs;cases hs
theorem yc(hE:aA E) {t kt:Nat} (hk:E.mapKey t=some kt) {k v:Nat} (hu:E.P.underlying t=some (.map k v)):kt=k:=by
 have:=hE.mapKey t kt hk;unfold xY at this;rw[hu]at this;exact Nat.eq_of_beq_eq_true this
theorem wJ(hE:aA E)(h:Full n w0 S0 s a w ν S)(ho:bF n o=true) {t:Nat} (aC:o.op= .makeMap t none)(ae:aP E (aj E F s o) (fun l=>K (s.fin o.dst l))):o.wp E.P a w (fun a' w'=> ∃s',K s'∧Rel n w0 S0 s' a' w') Q:=by
 simp only[aj,aC]at ae;split at ae;(·rename_i A B d hT hd;split at ae;(·rename_i hl;simp only[aP,St.fin,hd]at ae;obtain⟨k,v,hu,_,_,_,_,DF,yd⟩:=pB hE hT;(have hr:(execOp a.eval o).run E.P w= .ok (.value (.map (some w.heap.size))) (w.alloc (.map #[] 0)):=by simp only[execOp,aC,Instr.makeMap,Option.map_none,Sem.run_bind,Result.andThen_ok,Sem.run_pure];rfl);refine bV hr ⟨_,ae,?_⟩;rw[hd];have hh:(w.alloc (.map #[] 0)).heap[w.heap.size]?=some (.map #[] 0):=_root_.Go.heap_alloc_new w _;refine(h.new (b:=.mp A B []) (p:=.lmap d) (v:=.map (some w.heap.size)) (val:=.map (some w.heap.size)) (ba ho d hd) hl (da w _ none) (fun g hg=>h.beyond (by injection hg with hg;omega)) ?_ ?_).rel;(·refine⟨DF,yd,by simp,w.heap.size,#[],0,by simp,h.W.size _ (Nat.le_refl _),fun hS=>absurd (h.W.lt _ hS) (by simp),hh,⟨rfl,fun i e hi=>by simp at hi⟩,rfl,fun i y hy=>by simp at hy⟩);·simp only[ai];exact⟨⟨_,aS _ _ _⟩,by simp,_,rfl⟩);·exact ae.elim)
 ·exact ae.elim
theorem Full.entries(h:Full n w0 S0 s a w ν S) {A B:Ty} {p:PV} {v:Value} {es:List (A.den×B.den)} (hx:jo F s.bl A B p=some es)(hp:ai h.c p v):(v= .map none∧es=[])∨ ∃(r:Nat)(aO:Array MapEntry)(clock:Nat),v= .map (some r)∧w.heap[r]?=some (.map aO clock)∧m5 aO clock∧aO.size=es.length∧jt w ⟨S,ax w0 S0⟩ A B es aO.toList:=by
 cases p with|iv U y=>simp only[jo]at hx;obtain⟨e,hx⟩:=Ty.aT hx;subst e;simp only at hx;subst hx;simp only[ai]at hp;obtain⟨_,hp⟩:=hp;have hp:av (.mp A B) y w ⟨S,ax w0 S0⟩ [v]:=hp;obtain⟨_,hc⟩:=hp;rcases hc with⟨hv,he⟩|⟨r,aO,clock,hv,hS,hh,hb,hs,hr⟩;(·injection hv with hv;exact .inl ⟨hv,he⟩);(·injection hv with hv;exact .inr ⟨r,aO,clock,hv,hh,hb,hs,kC _ _ (by simpa using hs) (by simpa using hr)⟩)|lmap id=>simp only[jo]at hx;split at hx;(·rename_i A' B' ys hl;obtain⟨hl,_⟩:=bH hl;obtain⟨e,hx⟩:=Ty.aT hx;injection e with e1 e2;subst e1;subst e2;simp only at hx;subst hx;simp only[ai]at hp;obtain⟨cM,lS,h0,r,aO,clock,h1,h2,h3,h4,h5,h6,h7⟩:=h.W.bJ _ _ hl;refine .inr ⟨r,aO,clock,?_,h4,h5,h6,kC _ _ (by simpa using h6) (by simpa using h7)⟩;rw[hp.2.1];exact h1);(·cases hx)|_=>simp only[jo]at hx;cases hx
theorem uA: ∀(T:Ty),dm T=true→T.flat=true:=by intro T;induction T<;>simp_all[dm,Ty.flat]
theorem Full.key(h:Full n w0 S0 s a w ν S) {A:Ty} {kt:Nat} (hk:tL E kt A=true) {q:PV} {v:Value} {k:A.den} (hx:exp F s.bl A q=some k)(hq:ai h.c q v)(M:Mem):b8 A k w M v:=by
 obtain⟨hp,_,_,_⟩:=iP hk;have su:=uA A hp;have hR:Reads F s h.c ⟨fun b=>b<w.heap.size,ax w0 S0⟩:=⟨rfl,h.W.bJ,fun b hb=>h.W.lt b hb,fun id _⟨b,hb⟩g hg=>(h.eF hb hg).2.2⟩
 exact sE su (di hR (.inl (rz A su)) hx hq)
theorem BH: ∀(T:Ty),T.xR=true→ ∃vs,cq T=some vs:=by
 intro T;induction T with|pair a b et dR=>intro h;simp only[Ty.xR,Bool.and_eq_true]at h;obtain⟨x,hx⟩:=et h.1;obtain⟨y,hy⟩:=dR h.2;exact⟨x++y,by simp only[cq,hx,hy]⟩|st t ih=>intro h;exact ih h|_=>intro h;first|exact⟨_,rfl⟩|cases h
theorem nr {T:Ty} {z:Value} {M:Mem} (hz:jP (some z) T=true)(hT:T.xR=true)(hv:T.val=true):b8 T (cy T) w M z:=by
 obtain⟨vs,wg⟩:=BH T hT;have hr:=j0 (w:=w) (M:=M) T vs hT wg;unfold jP at hz;rw[wg]at hz;simp only at hz;split at hz;(·split at hz;(·rename_i cs;have:=gM hz;exact⟨vs,by rw[←this],hr⟩);·cases hz)
 ·split at hz;(·rename_i iw _ u;have:=iK hz;subst this;cases T<;>first|exact hr|(cases hv;done)|(exact absurd rfl (iw _)));·cases hz
theorem sH {c:Ctx} {T:Ty} {z:Value} {cs:List PV} (hz:jP (some z) T=true)(hv:T.val=true)(hc:zeroCells T=some cs)(vK:z.cells.size=T.cells):ai c (join T cs) z:=by
 obtain⟨vs,AL,aX,h1⟩:=jW (c:=c) T cs hc;have Uz:=gn hz AL;(have kR:z=valOf T vs:=by unfold jP at hz;rw[AL]at hz;simp only at hz;split at hz;(·split at hz;(·rename_i tZ;have:=gM hz;simp only[valOf];rw[←this]);·cases hz);·split at hz;(·rename_i iw _ u;have:=iK hz;subst this;cases T<;>first|rfl|(cases hv;done)|(exact absurd rfl (iw _)));·cases hz)
 rw[kR];exact e9 (by rw[←Uz,Array.length_toList,vK]) hv h1 aX
theorem ey {c:Ctx} {ps:List PV} {vs:List Value} (h:ak c ps vs):ai c (.bC ps) (.tuple vs.toArray):=by simp only[ai];exact⟨vs,rfl,h⟩
theorem fR {c:Ctx} {p q:PV} {u v:Value} (h1:ai c p u)(h2:ai c q v):ak c [p,q] [u,v]:=by simp only[ak];exact⟨_,_,rfl,h1,_,_,rfl,h2,rfl⟩
def qZ(z:Value):Option (Nat×Value)→Value|some (_,v)=>v|none=>z
theorem wK {P:Program} {t kt ve:TypeId} {xv kv z:Value} {ok:Bool} {l:List MapEntry} {res:Option (Nat×Value)} (hu:P.underlying t=some (.map kt ve))(zt:(xv= .map none∧l=[])∨ ∃(r:Nat)(aO:Array MapEntry)(clock:Nat),xv= .map (some r)∧w.heap[r]?=some (.map aO clock)∧aO.toList=l)(Ec: ∀em,(Instr.checkKey em 10000 kt kv).run P w= .ok () w)(ik:(Instr.findKey kt kv l).run P w= .ok res w)(hz:(zeroValue ve).run P w= .ok z w):(Instr.lookup t xv kv ok).run P w= .ok (if ok then .tuple #[qZ z res,.bool res.isSome]else qZ z res) w:=by
 unfold Instr.lookup;rcases zt with⟨rfl,rfl⟩|⟨r,aO,clock,rfl,hh,rfl⟩;(·cases res with|none=>cases ok<;>simp[run_underlying hu,Ec,ik,hz,qZ]|some p=>cases ok<;>simp[run_underlying hu,Ec,ik,qZ])
 ·cases res with|none=>cases ok<;>simp[run_underlying hu,MapKept.run_getObj_map hh,Ec,ik,hz,qZ]|some p=>cases ok<;>simp[run_underlying hu,MapKept.run_getObj_map hh,Ec,ik,qZ]
theorem zu(hE:aA E)(h:Full n w0 S0 s a w ν S)(ho:bF n o=true) {t:Nat} {x y:Operand} {ok:Bool} (aC:o.op= .lookup t x y ok)(ae:aP E (aj E F s o) (fun l=>K (s.fin o.dst l))):o.wp E.P a w (fun a' w'=> ∃s',K s'∧Rel n w0 S0 s' a' w') Q:=by
 simp only[aj,aC,iH]at ae;have hx:=h.ev (aw ho (x:=x) (by simp[aC,Op.operands]));have hy:=h.ev (aw ho (x:=y) (by simp[aC,Op.operands]));split at ae;(·rename_i A B kt hT Hb;split at ae;(·rename_i es k Hc hk uB;obtain⟨k',ve,hu,Hd,Oe,AP,tF,DF,yd⟩:=pB hE hT;have GW:=yc hE Hb hu;subst GW;obtain⟨hp,Lh,D6,_⟩:=iP uB;have He:=h.entries Hc hx;have mW:=h.key uB hk hy ⟨S,ax w0 S0⟩;obtain⟨i,hi,cr,FU,uf,z,hz,vK⟩:=(hE.facts Oe).info;rw[hz]at uf;(have Li:(zeroValue ve).run E.P w= .ok z w:=by simp only[zeroValue,typeInfo,Sem.run_bind,run_program,Result.andThen_ok,hi,hz,Sem.run_pure]);have Ec: ∀em,(Instr.checkKey em 10000 kt (a.eval y)).run E.P w= .ok () w:=fun em=>rA hE 9999 A kt k _ Hd Lh mW (by omega) em;(obtain⟨res,l,zt,ik,iQ,hl⟩: ∃(res:Option (Nat×Value))(l:List MapEntry),((a.eval x= .map none∧l=[])∨ ∃(r:Nat)(aO:Array MapEntry)(clock:Nat),a.eval x= .map (some r)∧w.heap[r]?=some (.map aO clock)∧aO.toList=l)∧(Instr.findKey kt (a.eval y) l).run E.P w= .ok res w∧eR es l k 0 res∧jt w ⟨S,ax w0 S0⟩ A B es l:=by rcases He with⟨hv,rfl⟩|⟨r,aO,clock,hv,hh,hb,hs,hr⟩;(·obtain⟨res,h1,h2⟩:=pA hE (V:=B) Hd uB mW [] [] trivial;exact⟨res,[],.inl ⟨hv,rfl⟩,h1,h2,trivial⟩);·obtain⟨res,h1,h2⟩:=pA hE (V:=B) Hd uB mW es aO.toList hr;exact⟨res,aO.toList,.inr ⟨r,aO,clock,hv,hh,rfl⟩,h1,h2,hr⟩);(have Lj:(execOp a.eval o).run E.P w= .ok (.value (if ok then .tuple #[qZ z res,.bool res.isSome]else qZ z res)) w:=by simp only[execOp,aC,Sem.run_bind,wK (ok:=ok) hu zt Ec ik Li,Result.andThen_ok,Sem.run_pure]);cases hm:ju (jy A) es k with|none=>simp only[eR,hm]at iQ;subst iQ;(have Ed:gL (jy A) es k=none:=by rw[nq,hm];rfl);have aU:=Lj;simp only[qZ,Option.isSome_none]at aU;(have Lk:ai h.c (oY B) z:=by unfold oY;split;(·rename_i l8;exact bm yd (nr uf l8 tF) tF);·split;(·rename_i cs wh;exact sH uf tF wh vK);·simp only[ai]);split at ae;(·rename_i l8;rw[Ed]at ae;refine h.val ho aU ?_ ae;simp only[Option.getD_none,Bool.false_eq_true,if_false];exact bm yd (nr uf l8 tF) tF);(·exact h.val ho aU (by simpa using Lk) (ae.2 Ed));(·refine h.val ho aU ?_ (ae.2 Ed);have h2:ai h.c (.iv .bool false) (.bool false):=bs;simp only[if_true];exact ey (fR Lk h2));(·obtain⟨v,hv,_⟩:=ae;rw[Ed]at hv;cases hv);(·rename_i l8 _;rw[Ed]at ae;refine h.val ho aU ?_ ae;have h2:ai h.c (.iv .bool false) (.bool false):=bs;simp only[if_true];exact ey (fR (bm yd (nr uf l8 tF) tF) h2));(·obtain⟨v,hv,_⟩:=ae;rw[Ed]at hv;cases hv)|some j=>simp only[eR,hm]at iQ;obtain⟨e,he,rfl⟩:=iQ;obtain⟨yy,AQ,_⟩:=sG _ _ _ _ hm;(have Bo:gL (jy A) es k=some yy.2:=by rw[nq,hm];simp[AQ]);(have bt:b8 B yy.2 w ⟨S,ax w0 S0⟩ e.val:=by(have at_: ∀(es:List (A.den×B.den))(l:List MapEntry)(j:Nat)(yy:A.den×B.den)(e:MapEntry),jt w ⟨S,ax w0 S0⟩ A B es l→es[j]?=some yy→l[j]?=some e→b8 B yy.2 w ⟨S,ax w0 S0⟩ e.val:=by intro es;induction es with|nil=>intro l j yy e _ h1;simp at h1|cons p es ih=>intro l j yy e hl h1 h2;cases l with|nil=>exact hl.elim|cons q l=>cases j with|zero=>simp only[List.getElem?_cons_zero,Option.some.injEq]at h1 h2;subst h1;subst h2;obtain⟨⟨ca,cb,_,_,h3,h4⟩,_⟩:=hl;rw[h3];exact gw tF h4|succ j=>exact ih l j yy e hl.2 (by simpa using h1) (by simpa using h2));exact at_ es l j yy e hl AQ he);have aU:=Lj;simp only[qZ,Option.isSome_some]at aU;have AK:ai h.c (.iv B yy.2) e.val:=bm yd bt tF;split at ae;(·rename_i l8;rw[Bo]at ae;exact h.val ho aU (by simpa using AK) ae);(·exact h.val ho aU (by simpa using AK) (ae.1 _ Bo));(·refine h.val ho aU ?_ (ae.1 _ Bo);have h2:ai h.c (.iv .bool true) (.bool true):=bs;simp only[if_true];exact ey (fR AK h2));(·obtain⟨v,hv,hH⟩:=ae;rw[Bo]at hv;injection hv with hv;subst hv;exact h.val ho aU (by simpa using AK) hH);(·rw[Bo]at ae;refine h.val ho aU ?_ ae;have h2:ai h.c (.iv .bool true) (.bool true):=bs;simp only[if_true];exact ey (fR AK h2));·obtain⟨v,hv,hH⟩:=ae;rw[Bo]at hv;injection hv with hv;subst hv;refine h.val ho aU ?_ hH;have h2:ai h.c (.iv .bool true) (.bool true):=bs;simp only[if_true];exact ey (fR AK h2));·exact ae.elim)
 ·exact ae.elim
theorem rB {T:Ty} {x:T.den} {M:Mem} {v:Value} (hT:T.val=true)(h:b8 T x w M v):v=valOf T v.cells.toList∧av T x w M v.cells.toList:=by
 refine⟨?_,gd hT h⟩;cases T with|st t=>obtain⟨vs,rfl,_⟩:=h;rfl|unit=>cases hT|pair a b=>cases hT|bC a b=>cases hT|_=>have hr:=gd hT h;have hl:=bk _ _ _ _ _ hr;simp only[Ty.cells]at hl;have h1:=lQ _ _ _ _ _ h v (List.mem_singleton.2 rfl);cases v<;>first|rfl|(simp[Value.oneCell']at h1;done)
theorem j4(w:World)(r:Nat)(o:Obj):dn w { w with heap:=w.heap.setIfInBounds r o } (some r):=⟨rfl,rfl,rfl,by simp,fun k _ hk=>by have Of:r≠k:=fun e=>hk (by rw[e]);simp[Of],fun _=>Nat.le_refl _⟩
theorem rC {w w':World} {M M':Mem} {A B:Ty} (hA:aB A=0)(hB:aB B=0)(hw: ∀b,M.S b→w'.heap[b]?=w.heap[b]?)(hS: ∀b,M.S b→M'.S b): ∀(es:List (A.den×B.den))(l:List MapEntry),jt w M A B es l→jt w' M' A B es l|[],[],_=>trivial|[],_::_,h=>h.elim|_::_,[],h=>h.elim|y::es,e::l,h=>by obtain⟨⟨ca,cb,h1,h2,h3,h4⟩,h5⟩:=h;exact⟨⟨ca,cb,h1,ao hw hS _ _ _ hA h2,h3,ao hw hS _ _ _ hB h4⟩,rC hA hB hw hS es l h5⟩
theorem mb {w:World} {M:Mem} {A B:Ty} : ∀(es:List (A.den×B.den))(l:List MapEntry),jt w M A B es l→l.length=es.length|[],[],_=>rfl|[],_::_,h=>h.elim|_::_,[],h=>h.elim|y::es,e::l,h=>by simp[mb es l h.2]
theorem mc {w:World} {M:Mem} {A B:Ty} : ∀(es:List (A.den×B.den))(l:List MapEntry),jt w M A B es l→ ∀(i:Nat)(y:A.den×B.den),es[i]?=some y→ ∃(e:MapEntry)(ca cb:List Value),l[i]?=some e∧e.key=valOf A ca∧av A y.1 w M ca∧e.val=valOf B cb∧av B y.2 w M cb|[],[],_,i,y,hy=>(by simp at hy)|[],_::_,h,_,_,_=>h.elim|_::_,[],h,_,_,_=>h.elim|y::es,e::l,h,i,z,hz=>by cases i with|zero=>simp only[List.getElem?_cons_zero,Option.some.injEq]at hz;subst hz;obtain⟨⟨ca,cb,h1⟩,_⟩:=h;exact⟨e,ca,cb,rfl,h1⟩|succ i=>simpa using mc es l h.2 i z (by simpa using hz)
theorem uC {w:World} {M:Mem} {A B:Ty} {y:A.den×B.den} {f:MapEntry} (hf: ∃ca cb,f.key=valOf A ca∧av A y.1 w M ca∧f.val=valOf B cb∧av B y.2 w M cb): ∀(es:List (A.den×B.den))(l:List MapEntry)(i:Nat),jt w M A B es l→jt w M A B (es.set i y) (l.set i f)|[],[],_,_=>trivial|[],_::_,_,h=>h.elim|_::_,[],_,h=>h.elim|z::es,e::l,i,h=>by cases i with|zero=>exact⟨hf,h.2⟩|succ i=>exact⟨h.1,uC hf es l i h.2⟩
theorem rD {w:World} {M:Mem} {A B:Ty} {y:A.den×B.den} {f:MapEntry} (hf: ∃ca cb,f.key=valOf A ca∧av A y.1 w M ca∧f.val=valOf B cb∧av B y.2 w M cb): ∀(es:List (A.den×B.den))(l:List MapEntry),jt w M A B es l→jt w M A B (es++ [y]) (l++ [f])|[],[],_=>⟨hf,trivial⟩|[],_::_,h=>h.elim|_::_,[],h=>h.elim|z::es,e::l,h=>⟨h.1,rD hf es l h.2⟩
theorem me(hE:aA E)(h:Full n w0 S0 s a w ν S)(ho:bF n o=true) {t:Nat} {x y z:Operand} (aC:o.op= .mapUpdate t x y z∨o.op= .insert t x y z)(ae:aP E (aj E F s o) (fun l=>K (s.fin o.dst l))):o.wp E.P a w (fun a' w'=> ∃s',K s'∧Rel n w0 S0 s' a' w') Q:=by
 (have ae:aP E (match o.dst with|none=>gb E F s.bl t (s.ev x) (s.ev y) (s.ev z)|some _=>.fail 79) (fun l=>K (s.fin o.dst l)):=by cases hd:o.dst with|none=>rcases aC with aC|aC<;>(simp only[aj,aC,hd]at ae;exact ae)|some d=>rcases aC with aC|aC<;>(simp only[aj,aC,hd]at ae;exact ae))
 (have mem: ∀u,u=x∨u=y∨u=z→iL u=true:=by intro u hu;refine aw ho ?_;rcases aC with aC|aC<;>rcases hu with rfl|rfl|rfl<;>simp[aC,Op.operands]);have hx:=h.ev (mem x (.inl rfl))
 have hy:=h.ev (mem y (.inr (.inl rfl)));have hz:=h.ev (mem z (.inr (.inr rfl)));(have Ll: ∀w',(Instr.mapUpdate t (a.eval x) (a.eval y) (a.eval z)).run E.P w= .ok () w'→(execOp a.eval o).run E.P w= .ok .skip w':=by intro w' hr;rcases aC with aC|aC<;>simp only[execOp,aC,Sem.run_bind,hr,Result.andThen_ok,Sem.run_pure])
 split at ae;(·rename_i hd;simp only[gb]at ae;split at ae;(·rename_i A B kt hT Hb;split at ae;(·rename_i id bt;split at ae;(·rename_i A' B' zs hl;obtain⟨hl,_⟩:=bH hl;split at ae;(·rename_i es k v gr hk uB Nb AN UA UB hv;obtain⟨e',fp⟩:=Ty.aT gr;injection e' with e1 e2;subst e1;subst e2;simp only at fp;subst fp;obtain⟨hlen,hK⟩:=ae;obtain⟨k',ve,hu,Hd,Oe,AP,tF,DF,yd⟩:=pB hE hT;have GW:=yc hE Hb hu;subst GW;obtain⟨hp,Lh,D6,_⟩:=iP uB;have mW:=h.key uB hk hy ⟨S,ax w0 S0⟩;have Lm:b8 _ v w ⟨S,ax w0 S0⟩ (a.eval z):=h.Bk yd UA UB hv hz;rw[bt]at hx;simp only[ai]at hx;obtain⟨_,K3,_⟩:=hx;obtain⟨cM,lS,h0,r,aO,clock,h1,h2,h3,h4,h5,h6,h7⟩:=h.W.bJ _ _ hl;simp only[Full.c]at K3;simp only at h1 h2 h3 h4;have Nj:=kC (w:=w) (M:=⟨S,ax w0 S0⟩) zs aO.toList (by simpa using h6) (by simpa using h7);obtain⟨res,ik,iQ⟩:=pA hE (V:=B') Hd uB mW zs aO.toList Nj;have Ec: ∀em,(Instr.checkKey em 10000 kt (a.eval y)).run E.P w= .ok () w:=fun em=>rA hE 9999 _ kt k _ Hd Lh mW (by omega) em;(have uj:aI (ν id)=some r:=by rw[h1];rfl);(have hf: ∀bb:Nat,∃ca cb,(⟨a.eval y,a.eval z,bb⟩:MapEntry).key=valOf A' ca∧av A' k w ⟨S,ax w0 S0⟩ ca∧(⟨a.eval y,a.eval z,bb⟩:MapEntry).val=valOf B' cb∧av B' v w ⟨S,ax w0 S0⟩ cb:=fun bb=>by obtain⟨g1,g2⟩:=rB AP mW;obtain⟨g3,g4⟩:=rB tF Lm;exact⟨_,_,g1,g2,g3,g4⟩);(have fin: ∀(mf:Array MapEntry)(j5:Nat),(Instr.mapUpdate t (a.eval x) (a.eval y) (a.eval z)).run E.P w= .ok () { w with heap:=w.heap.setIfInBounds r (.map mf j5) } →m5 mf j5→jt w ⟨S,ax w0 S0⟩ A' B' (vR (jy A') zs k v) mf.toList→o.wp E.P a w (fun a' w'=> ∃s',K s'∧Rel n w0 S0 s' a' w') Q:=by intro mf j5 aU lf nf;refine gm (Ll _ aU) ⟨_,hK,?_⟩;rw[hd];have oh:=j4 w r (.map mf j5);have hS: ∀b,S b→({ w with heap:=w.heap.setIfInBounds r (.map mf j5) } :World).heap[b]?=w.heap[b]?:=fun b hb=>oh.block b (h.W.lt b hb) (fun e=>by injection e with e;subst e;exact h3 hb);have AG:({ w with heap:=w.heap.setIfInBounds r (.map mf j5) } :World).heap[r]?=some (.map mf j5):=(MapKept.heap_set h4).1;have Ln:=rC (M:=⟨S,ax w0 S0⟩) (M':=⟨S,ax w0 S0⟩) cM lS hS (fun _ h=>h) _ _ nf;refine(h.kZ (b':=.mp A' B' (vR (jy A') zs k v)) hl (by rw[uj];exact oh) ?_).rel;exact⟨cM,lS,hlen,r,mf,j5,h1,h2,h3,AG,lf,by simpa using mb _ _ Ln,fun i yy AQ=>by simpa using mc _ _ Ln i yy AQ⟩);cases hm:ju (jy A') zs k with|none=>simp only[eR,hm]at iQ;subst iQ;refine fin (aO.push ⟨a.eval y,a.eval z,clock⟩) (clock+1) ?_ ?_ ?_;(·rw[K3,h1];simp[Instr.mapUpdate,run_underlying hu,MapKept.run_getObj_map h4,Ec,ik,MapKept.run_setObj_map _ h4]);(·obtain⟨hc,hb⟩:=h5;subst hc;refine⟨by simp,fun i e hi=>?_⟩;rw[Array.getElem?_push]at hi;split at hi;(·rename_i BI;injection hi with hi;subst hi;exact BI.symm);·exact hb i e hi);(·rw[pr,hm];simp only[Array.toList_push];exact rD (hf clock) zs aO.toList Nj)|some j=>simp only[eR,hm]at iQ;obtain⟨e,he,rfl⟩:=iQ;obtain⟨yy,AQ,heq⟩:=sG _ _ _ _ hm;have heq:=(Eb _ _ _ hp).1 heq;(have wb:aO[j]?=some e:=by simpa using he);obtain⟨e2,ca,cb,g1,g2,g3,g4,g5⟩:=mc zs aO.toList Nj j yy AQ;rw[he]at g1;injection g1 with g1;subst g1;(have Og:e.key=a.eval y:=by refine zr (M:=⟨S,ax w0 S0⟩) (w:=w) hp AP (x:=yy.1) (y:=k) ?_ mW heq.symm;rw[g2];exact gw AP g3);refine fin (aO.modify j fun e=> { e with key:=a.eval y,val:=a.eval z }) clock ?_ ?_ ?_;(·rw[K3,h1];simp[Instr.mapUpdate,run_underlying hu,MapKept.run_getObj_map h4,Ec,ik,wb,Og,sF hp AP mW,MapKept.run_setObj_map _ h4]);(·obtain⟨hc,hb⟩:=h5;refine⟨by simpa using hc,fun i e2 hi=>?_⟩;rw[Array.getElem?_modify]at hi;split at hi;(·rename_i ew;subst ew;rw[wb]at hi;simp only[Option.map_some,Option.some.injEq]at hi;subst hi;exact hb _ e wb);·exact hb i e2 hi);·rw[pr,hm];(have Hf:(aO.modify j fun e=> { e with key:=a.eval y,val:=a.eval z }).toList=aO.toList.set j ⟨a.eval y,a.eval z,e.born⟩:=by apply List.ext_getElem?;intro i;rw[Array.getElem?_toList,Array.getElem?_modify,List.getElem?_set];by_cases ew:j=i;(·subst ew;have Bf:j<aO.toList.length:=(List.getElem?_eq_some_iff.1 he).1;rw[wb,if_pos rfl,if_pos rfl,if_pos Bf];rfl);·simp[ew]);rw[Hf];exact uC (hf e.born) zs aO.toList j Nj);·exact ae.elim);·exact ae.elim);·exact ae.elim);·exact ae.elim)
 ·exact ae.elim
end
end Go.Proofs.Ytbbmofoiipjbgaa
namespace Go.Proofs.Ytbbmofoiipjbgaa
variable {cH:Prop} [fV cH]
open Go.RowKit
section
variable {E:Env} {n:Nat} {w0:World} {S0:Cx} {s:St} {a:Act} {w:World} {ν:Nat→Value} {S:Nat→Prop} {F:cm} {o:Oper} {K:St→Prop} {Q:Exit→Act→World→Prop}
theorem wL(s:ByteArray)(i:Nat):(Utf8.decode s i).1≤1114111:=by
 (have hv: ∀c:Nat,Utf8.valid (c:Int)=true→c≤1114111:=by intro c h;unfold Utf8.valid at h;simp only[Bool.or_eq_true,Bool.and_eq_true,decide_eq_true_eq]at h;omega)
 unfold Utf8.decode;simp only;split;(·simp only;omega);·split;(·split;(·simp only;omega);·simp only[Utf8.runeError];omega);·split;(·split;(·rename_i h;simp only[Bool.and_eq_true]at h;exact hv _ h.2);·simp only[Utf8.runeError];omega);·split;(·split;(·rename_i h;simp only[Bool.and_eq_true]at h;exact hv _ h.2);·simp only[Utf8.runeError];omega);·simp only[Utf8.runeError];omega
theorem Full.F3(h:Full n w0 S0 s a w ν S) {d:Nat} (hd:d<n)(hl:look d s.bl=none) {ob:Obj} {b:aJ} (hb: ∀c:Ctx,c.ν d= .pointer (some ⟨w.heap.size,0,none⟩)→c.M.O w.heap.size→ ¬c.M.S w.heap.size→c.w.heap[w.heap.size]?=some ob→Ctx.Le h.c c→gE c d b):Rel n w0 S0 ⟨(d,.ref d 0)::s.sl,(d,b)::s.bl⟩ (a.put (some d) (.pointer (some ⟨w.heap.size,0,none⟩))) (w.alloc ob):=by
 have hh:(w.alloc ob).heap[w.heap.size]?=some ob:=_root_.Go.heap_alloc_new w _;refine(h.new (b:=b) (p:=.ref d 0) (v:=.pointer (some ⟨w.heap.size,0,none⟩)) (val:=.pointer (some ⟨w.heap.size,0,none⟩)) hd hl (da w _ none) (fun g hg=>h.beyond (by injection hg with hg;simp only at hg;omega)) ?_ ?_).rel
 (·refine hb _ (by simp) (h.W.size _ (Nat.le_refl _)) (fun hS=>absurd (h.W.lt _ hS) (by simp)) hh ⟨fun g hg=>?_,fun _ h=>h,fun i hi=>?_,fun i hi=>?_⟩;(·exact(da w ob none).block g (h.W.lt g hg) (by simp));(·obtain⟨c,hc⟩:=hi;(have cA:i≠d:=by rintro rfl;rw[hl]at hc;cases hc);exact⟨c,by rw[aF _ _ cA];exact hc⟩);·obtain⟨c,hc⟩:=hi;(have cA:i≠d:=by rintro rfl;rw[hl]at hc;cases hc);simp[Full.c,cA])
 ·simp only[ai];exact⟨⟨_,aS _ _ _⟩,w.heap.size,by simp,rfl⟩
theorem BJ(hE:aA E)(h:Full n w0 S0 s a w ν S)(ho:bF n o=true) {t:Nat} {x:Operand} (aC:o.op= .range t x)(ae:aP E (aj E F s o) (fun l=>K (s.fin o.dst l))):o.wp E.P a w (fun a' w'=> ∃s',K s'∧Rel n w0 S0 s' a' w') Q:=by
 simp only[aj,aC]at ae;have hx:=h.ev (aw ho (x:=x) (by simp[aC,Op.operands]));split at ae;(·rename_i d hd;split at ae;(·rename_i hl;have Nk:=ba ho d hd;simp only[vS]at ae;split at ae;(·rename_i hT;obtain⟨dd,hu,hs⟩:=(hE.facts hT).kV;(have kB:dd= .string:=by cases dd<;>first|rfl|cases hs);subst kB;split at ae;(·rename_i y bt;rw[bt]at hx;obtain⟨hv,hlen⟩:=cI hx;simp only[aP,St.fin,hd]at ae;(have hr:(execOp a.eval o).run E.P w= .ok (.value (.pointer (some ⟨w.heap.size,0,none⟩))) (w.alloc (.stringIter ⟨y.toArray⟩ 0)):=by simp only[execOp,aC,Instr.range,hv,Sem.run_bind,run_underlying hu,Result.andThen_ok,Sem.run_pure];rfl);refine bV hr ⟨_,ae,?_⟩;rw[hd];exact h.F3 Nk hl fun c h1 h2 h3 h4 _=>⟨_,h1,h2,h3,h4,hlen⟩);·exact ae.elim);(·rename_i A B hT;obtain⟨k,v,hu,_,_,_,_,DF,yd⟩:=pB hE hT;split at ae;(·rename_i es Hc;have He:=h.entries Hc hx;(have go: ∀(src:PV),ai h.c src (a.eval x)→K ⟨(d,.ref d 0)::s.sl,(d,.it [src] es.length [])::s.bl⟩→o.wp E.P a w (fun a' w'=> ∃s',K s'∧Rel n w0 S0 s' a' w') Q:=by intro src g9 hK;(obtain⟨m,hm,hr⟩: ∃m:Option Nat,a.eval x= .map m∧(execOp a.eval o).run E.P w= .ok (.value (.pointer (some ⟨w.heap.size,0,none⟩))) (w.alloc (.mapIter m es.length #[] es.length)):=by rcases He with⟨hv,rfl⟩|⟨r,aO,clock,hv,hh,hb,hs,_⟩;(·refine⟨none,hv,?_⟩;simp only[execOp,aC,Instr.range,hv,Sem.run_bind,run_underlying hu,Result.andThen_ok,Sem.run_pure];rfl);·refine⟨some r,hv,?_⟩;have hc:clock=es.length:=hb.1.trans hs;subst hc;simp only[execOp,aC,Instr.range,hv,Sem.run_bind,run_underlying hu,MapKept.run_getObj_map hh,Result.andThen_ok,Sem.run_pure];rfl);refine bV hr ⟨_,hK,?_⟩;rw[hd];refine h.F3 Nk hl fun c h1 h2 h3 h4 hle=>⟨_,m,h1,h2,h3,h4,?_⟩;simp only[ak];exact⟨_,[],rfl,dh hle (by rw[←hm];exact g9),rfl⟩);split at ae;(·rename_i K' V' y bt;simp only[aP,St.fin,hd]at ae;exact go _ (by rw[←bt];exact hx) ae);(·rename_i id bt;simp only[aP,St.fin,hd]at ae;exact go _ (by rw[←bt];exact hx) ae);·exact ae.elim);·exact ae.elim);·exact ae.elim);·exact ae.elim)
 ·exact ae.elim
theorem Full.behind(h:Full n w0 S0 s a w ν S) {src:List PV} {m:Option Nat} {A B:Ty} {es:List (A.den×B.den)} (hx:ie E F s.bl src=some ⟨A,B,es⟩)(hp:ak h.c src [.map m]):aB A=0∧aB B=0∧A.val=true∧B.val=true∧((m=none∧es=[])∨ ∃(r:Nat)(aO:Array MapEntry)(clock:Nat),m=some r∧w.heap[r]?=some (.map aO clock)∧m5 aO clock∧jt w ⟨S,ax w0 S0⟩ A B es aO.toList):=by
 unfold ie at hx;split at hx;(·rename_i K' V' ys;split at hx;(case h_2=>cases hx);rename_i Oh Oi;injection hx with hx;injection hx with e1 e2;subst e1;have e2:=eq_of_heq e2;injection e2 with e2 e3;subst e2;have e3:=eq_of_heq e3;subst e3;simp only[ak,ai]at hp;obtain⟨v,r,hv,⟨ho,hr⟩,_⟩:=hp;injection hv with hv;subst hv;simp only[aB]at ho;refine⟨by omega,by omega,Oh,Oi,?_⟩;have hr:av (.mp K' V') ys w ⟨S,ax w0 S0⟩ [.map m]:=hr;rcases hr.2 with⟨hv,he⟩|⟨r,aO,clock,hv,hS,hh,hb,hs,hr⟩;(·injection hv with hv;injection hv with hv;exact .inl ⟨hv,he⟩);·injection hv with hv;injection hv with hv;exact .inr ⟨r,aO,clock,hv,hh,hb,kC _ _ (by simpa using hs) (by simpa using hr)⟩)
 (·rename_i id;split at hx;(·rename_i K' V' ys hl;obtain⟨hl,_⟩:=bH hl;split at hx;(case h_2=>cases hx);rename_i Oh Oi;injection hx with hx;injection hx with e1 e2;subst e1;have e2:=eq_of_heq e2;injection e2 with e2 e3;subst e2;have e3:=eq_of_heq e3;subst e3;simp only[ak,ai]at hp;obtain⟨v,r,hv,⟨_,cg,_⟩,_⟩:=hp;injection hv with hv;subst hv;obtain⟨cM,lS,h0,r,aO,clock,h1,h2,h3,h4,h5,h6,h7⟩:=h.W.bJ _ _ hl;refine⟨cM,lS,Oh,Oi,.inr ⟨r,aO,clock,?_,h4,h5,kC _ _ (by simpa using h6) (by simpa using h7)⟩⟩;simp only[Full.c]at cg;simp only at h1;rw[h1]at cg;injection cg);·cases hx)
 ·cases hx
theorem Ee(hE:aA E)(h:Full n w0 S0 s a w ν S)(ho:bF n o=true) {x:Operand} {Oj:Bool} (aC:o.op= .next x Oj)(ae:aP E (aj E F s o) (fun l=>K (s.fin o.dst l))):o.wp E.P a w (fun a' w'=> ∃s',K s'∧Rel n w0 S0 s' a' w') Q:=by
 simp only[aj,aC,A7]at ae;have hx:=h.ev (aw ho (x:=x) (by simp[aC,Op.operands]));split at ae;(·rename_i id bt;rw[bt]at hx;simp only[ai]at hx;obtain⟨_,g,hg,hv⟩:=hx;simp only[Full.c]at hg;(have kZ: ∀ {b b':aJ} {w':World} {p:PV} {v:Value},look id s.bl=some b→dn w w' (some g)→gE ⟨ν,s.D,w',⟨S,ax w0 S0⟩⟩ id b'→ai ⟨ν,s.D,w',⟨S,ax w0 S0⟩⟩ p v→K (s.fin o.dst (.kZ id b' p))→(execOp a.eval o).run E.P w= .ok (.value v) w'→o.wp E.P a w (fun a' w'=> ∃s',K s'∧Rel n w0 S0 s' a' w') Q:=by intro b b' w' p v hl hw hb hp hK aU;refine bV aU ⟨_,hK,?_⟩;have hu:=h.kZ (b':=b') hl (by rw[hg];exact hw) hb;(have hD:(⟨s.sl,(id,b')::s.bl⟩:St).D=s.D:=by funext i;refine propext ⟨fun⟨c,hc⟩=>?_,fun⟨c,hc⟩=>?_⟩;(·by_cases hi:i=id;(·subst hi;exact⟨b,hl⟩);·rw[aF _ _ hi]at hc;exact⟨c,hc⟩);·by_cases hi:i=id;(·subst hi;exact⟨b',aS _ _ _⟩);·exact⟨c,by rw[aF _ _ hi];exact hc⟩);have FW:=hu.put (p:=p) (v:=v) (ba ho) (by simp only[Full.c,hD];exact hp);(have pC:s.fin o.dst (.kZ id b' p)=(⟨s.sl,(id,b')::s.bl⟩:St).put o.dst p:=by simp only[St.fin];cases o.dst<;>rfl);rw[pC];exact FW.rel);(have Hg:(Instr.next (a.eval x) Oj o.type).run E.P w= .ok (.tuple #[.bool false]) w→K (s.fin o.dst (.val (.bC [.iv .bool false])))→o.wp E.P a w (fun a' w'=> ∃s',K s'∧Rel n w0 S0 s' a' w') Q:=by intro hr hK;refine h.val ho (v:=.tuple #[.bool false]) ?_ ?_ hK;(·simp only[execOp,aC,Sem.run_bind,hr,Result.andThen_ok,Sem.run_pure]);·exact ey (vs:=[.bool false]) (by simp only[ak];exact⟨_,[],rfl,bs,rfl⟩));(have exec: ∀v w',(Instr.next (a.eval x) Oj o.type).run E.P w= .ok v w'→(execOp a.eval o).run E.P w= .ok (.value v) w':=fun v w' hr=>by simp only[execOp,aC,Sem.run_bind,hr,Result.andThen_ok,Sem.run_pure]);split at ae;(·rename_i y pos hl;obtain⟨hl,_⟩:=bH hl;obtain⟨g',h1,h2,h3,h4,h5⟩:=h.W.bJ _ _ hl;simp only at h1 h2 h3 h4;rw[hg]at h1;(obtain rfl:g=g':=by injection h1 with e1;injection e1 with e1;injection e1);split at ae;(·obtain⟨Kx,Ea⟩:=ae;(have cr:(⟨y.toArray⟩:ByteArray).size=y.length:=by simp[ByteArray.size]);(have UC: ∀o',(setObj g o').run E.P w= .ok () { w with heap:=w.heap.setIfInBounds g o' } :=fun o'=>by simp[setObj,Sem.run,h4]);by_cases hp:pos<y.length;(·have hK:=Kx hp;have hd:=wL ⟨y.toArray⟩ pos;refine kZ hl (j4 w g (.stringIter ⟨y.toArray⟩ (pos+(Utf8.decode ⟨y.toArray⟩ pos).2))) ?_ ?_ hK (exec (.tuple #[.bool true,.int .i64 (pos:Int),.int .i32 ((Utf8.decode ⟨y.toArray⟩ pos).1:Int)]) _ ?_);(·exact⟨g,hg,h2,h3,(MapKept.heap_set h4).1,h5⟩);(·refine ey (vs:=[.bool true,.int .i64 (pos:Int),.int .i32 ((Utf8.decode ⟨y.toArray⟩ pos).1:Int)]) ?_;simp only[ak];exact⟨_,_,rfl,bs,_,_,rfl,bK (by show(-9223372036854775808:Int)≤_∧_≤(9223372036854775807:Int);omega),_,_,rfl,bK (by show(-2147483648:Int)≤_∧_≤(2147483647:Int);omega),rfl⟩);·simp only[hv,Instr.next,Sem.run_bind];rw[show(getObj g).run E.P w= .ok (.stringIter ⟨y.toArray⟩ pos) w from by simp[getObj,Sem.run,h4]];simp only[Result.andThen_ok,cr,hp,if_true,Sem.run_bind,UC,Sem.run_pure];rfl);·refine Hg ?_ (Ea (by omega));simp only[hv,Instr.next,Sem.run_bind];rw[show(getObj g).run E.P w= .ok (.stringIter ⟨y.toArray⟩ pos) w from by simp[getObj,Sem.run,h4]];simp only[Result.andThen_ok,cr,hp,if_false,Sem.run_pure]);·exact ae.elim);(·rename_i src since seen hl;obtain⟨hl,_⟩:=bH hl;obtain⟨g',m,h1,h2,h3,h4,h6⟩:=h.W.bJ _ _ hl;simp only at h1 h2 h3 h4;rw[hg]at h1;(obtain rfl:g=g':=by injection h1 with e1;injection e1 with e1;injection e1);split at ae;(·rename_i A B es Hc;obtain⟨BK,Kx,Ea⟩:=ae;obtain⟨DF,yd,AP,tF,cj⟩:=h.behind Hc h6;rcases cj with⟨rfl,rfl⟩|⟨r,aO,clock,rfl,hh,hb,hr⟩;(·refine Hg ?_ (Ea (fun i hi=>by simp at hi));simp only[hv,Instr.next,Sem.run_bind];rw[show(getObj g).run E.P w= .ok (.mapIter none since seen.toArray since) w from by simp[getObj,Sem.run,h4]];simp only[Result.andThen_ok,Sem.run_pure]);·have hlen:=mb _ _ hr;(have cr:aO.size=es.length:=by simpa using hlen);obtain⟨Hh,pD⟩:=hb;(have hold: ∀y,y∈aO.toList→y.born<since:=fun y hy=>by obtain⟨i,hi⟩:=List.getElem?_of_mem hy;(have sq:aO[i]?=some y:=by simpa using hi);rw[pD i y sq,←BK,←cr];exact(Array.getElem?_eq_some_iff.1 sq).1);(have F4: ∀y,y∈(leftOf aO seen.toArray).toList↔ ∃i,aO[i]?=some y∧i∉seen:=by intro y;unfold leftOf;simp only[Array.toList_filter,List.mem_filter,Array.mem_toList_iff];constructor;(·rintro⟨h1,h2⟩;obtain⟨i,hi⟩:=Array.getElem?_of_mem h1;refine⟨i,hi,?_⟩;rw[←pD i y hi];simpa using h2);·rintro⟨i,hi,hn⟩;refine⟨Array.mem_of_getElem? hi,?_⟩;rw[pD i y hi];simpa using hn);rcases run_next_at (P:=E.P) w o.type g r since since seen.toArray aO clock h4 hh hold (Nat.le_refl _)with⟨h0,aU⟩|⟨e,he,w1,Sr,aU⟩;(·refine Hg (by rw[hv];exact aU) (Ea fun i hi=>?_);by_cases fG:i∈seen;(·exact fG);·exfalso;(have BI:i<aO.size:=by omega);have:=(F4 aO[i]).2 ⟨i,by simp,fG⟩;have DA:(leftOf aO seen.toArray).toList=[]:=List.eq_nil_of_length_eq_zero (by simpa using h0);rw[DA]at this;cases this);·obtain⟨i,hi,fG⟩:=(F4 e).1 he;(have BI:i<es.length:=by rw[←cr];exact(Array.getElem?_eq_some_iff.1 hi).1);obtain⟨yy,AQ⟩: ∃yy,es[i]?=some yy:=⟨_,List.getElem?_eq_getElem BI⟩;have hK:=Kx i ⟨BI,fG⟩ yy AQ;obtain⟨e2,ca,cb,g1,g2,g3,g4,g5⟩:=mc es aO.toList hr i yy AQ;(have sq:aO.toList[i]?=some e:=by simpa using hi);rw[sq]at g1;injection g1 with g1;subst g1;have Ef:=pD i e hi;(have oh:dn w (ChangeMaps.setBlock w1 g (.mapIter (some r) since (seen.toArray.push e.born) clock)) (some g):=by rcases Sr with rfl|rfl;(·exact j4 _ g _);·refine⟨rfl,rfl,rfl,by simp[ChangeMaps.setBlock],fun k _ hk=>?_,fun _=>?_⟩;(·have Of:g≠k:=fun e=>hk (by rw[e]);show(w.drew.heap.setIfInBounds g _)[k]?=w.heap[k]?;rw[Array.getElem?_setIfInBounds_ne Of];rfl);·exact Nat.le_succ _);have NN: ∀b,S b→(ChangeMaps.setBlock w1 g (.mapIter (some r) since (seen.toArray.push e.born) clock)).heap[b]?=w.heap[b]?:=fun b hb=>oh.block b (h.W.lt b hb) (fun e=>by injection e with e;subst e;exact h3 hb);have Hi:Ctx.Le ⟨ν,s.D,w,⟨S,ax w0 S0⟩⟩ ⟨ν,s.D,ChangeMaps.setBlock w1 g (.mapIter (some r) since (seen.toArray.push e.born) clock),⟨S,ax w0 S0⟩⟩:=⟨NN,fun _ h=>h,fun _ h=>h,fun _ _=>rfl⟩;(have UD:w1.heap[g]?=some (.mapIter (some r) since seen.toArray since):=by rcases Sr with rfl|rfl<;>exact h4);(have wh:clock=since:=by omega);refine kZ hl oh ?_ ?_ hK (exec _ _ (by rw[hv];exact aU));(·refine⟨g,some r,hg,h2,h3,?_,bu Hi h6⟩;have:=(MapKept.heap_set (o':=Obj.mapIter (some r) since (seen.toArray.push e.born) clock) UD).1;rw[Ef,wh]at this⊢;simpa[ChangeMaps.setBlock]using this);·have hk:ai h.c (.iv A yy.1) e.key:=bm DF (by rw[g2];exact gw AP g3) AP;have Lm:ai h.c (.iv B yy.2) e.val:=bm yd (by rw[g4];exact gw tF g5) tF;refine ey (vs:=[.bool true,e.key,e.val]) ?_;simp only[ak];exact⟨_,_,rfl,bs,_,_,rfl,dh Hi hk,_,_,rfl,dh Hi Lm,rfl⟩);·exact ae.elim);·exact ae.elim)
 ·exact ae.elim
theorem BL(hE:aA E)(h:Full n w0 S0 s a w ν S)(ho:bF n o=true) {x:Operand} (aC:o.op= .entry x)(ae:aP E (aj E F s o) (fun l=>K (s.fin o.dst l))):o.wp E.P a w (fun a' w'=> ∃s',K s'∧Rel n w0 S0 s' a' w') Q:=by
 simp only[aj,aC,vT]at ae;have hx:=h.ev (aw ho (x:=x) (by simp[aC,Op.operands]));split at ae;(·rename_i id bt;rw[bt]at hx;simp only[ai]at hx;obtain⟨_,g,hg,hv⟩:=hx;simp only[Full.c]at hg;split at ae;(·rename_i src since seen hl;obtain⟨hl,_⟩:=bH hl;obtain⟨g',m,h1,h2,h3,h4,h6⟩:=h.W.bJ _ _ hl;simp only at h1 h2 h3 h4;rw[hg]at h1;(obtain rfl:g=g':=by injection h1 with e1;injection e1 with e1;injection e1);split at ae;(·rename_i A B es Hc;obtain⟨BK,yy,⟨i,mg,AQ⟩,hK⟩:=ae;obtain⟨DF,yd,AP,tF,cj⟩:=h.behind Hc h6;rcases cj with⟨_,rfl⟩|⟨r,aO,clock,rfl,hh,hb,hr⟩;(·simp at AQ);·obtain⟨ss,Na⟩: ∃ss,seen=ss++ [i]:=List.getLast?_eq_some_iff.1 mg;have hlen:=mb _ _ hr;(have cr:aO.size=es.length:=by simpa using hlen);obtain⟨Hh,pD⟩:=hb;obtain⟨e,ca,cb,g1,g2,g3,g4,g5⟩:=mc es aO.toList hr i yy AQ;(have hi:aO[i]?=some e:=by simpa using g1);have Ef:=pD i e hi;(have wh:since=clock:=by omega);(have ix:(aO.toList.map (·.born)).Nodup:=by(have:aO.toList.map (·.born)=List.range aO.size:=by apply List.ext_getElem;(·simp);·intro j h1 h2;simp only[List.getElem_map,List.getElem_range,Array.getElem_toList];exact pD j _ (Array.getElem?_eq_getElem (by simpa using h1)));rw[this];exact List.nodup_range);(have UE:w.heap[g]?=some (.mapIter (some r) since (ss.toArray.push e.born) clock):=by rw[h4,Na,Ef,←wh];simp);have aU:=run_entry_at (P:=E.P) w g r since ss.toArray aO clock e UE hh (Array.mem_toList_iff.2 (Array.mem_of_getElem? hi)) ix;refine h.val ho (v:=.tuple #[e.key,e.val]) ?_ ?_ hK;(·simp only[execOp,aC,hv,Sem.run_bind,aU,Result.andThen_ok,Sem.run_pure]);·have hk:ai h.c (.iv A yy.1) e.key:=bm DF (by rw[g2];exact gw AP g3) AP;have Lm:ai h.c (.iv B yy.2) e.val:=bm yd (by rw[g4];exact gw tF g5) tF;exact ey (fR hk Lm));·exact ae.elim);·exact ae.elim)
 ·exact ae.elim
end
end Go.Proofs.Ytbbmofoiipjbgaa
namespace Go.Proofs.Ytbbmofoiipjbgaa
variable {cH:Prop} [fV cH]
open Go.RowKit
structure Ctx.F5(ks:List Nat)(ρ:Nat→Nat)(c c':Ctx):Prop where
 heap: ∀b,c.M.S b→c'.w.heap[b]?=c.w.heap[b]?
 S: ∀b,c.M.S b→c'.M.S b
 D: ∀i,an i ks=true→c.D i→c'.D (ρ i)
 ν: ∀i,an i ks=true→c.D i→c'.ν (ρ i)=c.ν i
mutual theorem j6 {ks:List Nat} {ρ:Nat→Nat} {c c':Ctx} (hc:c.F5 ks ρ c'): ∀ {p:PV} {v:Value},PV.Dw ks p=true→ai c p v→ai c' (p.fO ρ) v|.iv T x,v,_,h=>(by simp only[PV.fO,ai]at h⊢;exact⟨h.1,ec hc.heap hc.S h.1 h.2⟩)|.ref id off,v,hi,h=>(by simp only[PV.fO,ai]at h⊢;obtain⟨hd,g,h1,h2⟩:=h;exact⟨hc.D _ hi hd,g,by rw[hc.ν _ hi hd];exact h1,h2⟩)|.cK T x off,v,_,h=>(by simp only[PV.fO,ai]at h⊢;obtain⟨ho,g,o,cs,h1,h2,h3,h4,h5⟩:=h;exact⟨ho,g,o,cs,h1,hc.S _ h2,h3,h4.mono (hc.heap _ h2),ao hc.heap hc.S _ _ _ ho h5⟩)|.aE id,v,hi,h=>(by simp only[PV.fO,ai]at h⊢;exact⟨hc.D _ hi h.1,by rw[hc.ν _ hi h.1];exact h.2.1,h.2.2⟩)|.lmap id,v,hi,h=>(by simp only[PV.fO,ai]at h⊢;exact⟨hc.D _ hi h.1,by rw[hc.ν _ hi h.1];exact h.2.1,h.2.2⟩)|.kp id sz off len,v,hi,h=>(by simp only[PV.fO,ai]at h⊢;obtain⟨hd,a,n,cap,b,h1,h2⟩:=h;exact⟨hc.D _ hi hd,a,n,cap,b,by rw[hc.ν _ hi hd];exact h1,h2⟩)|.dL id sz i off,v,hi,h=>(by simp only[PV.fO,ai]at h⊢;obtain⟨hd,g,o,n,cap,h1,h2⟩:=h;exact⟨hc.D _ hi hd,g,o,n,cap,by rw[hc.ν _ hi hd];exact h1,h2⟩)|.agg cs,v,hi,h=>(by simp only[PV.fO,ai]at h⊢;obtain⟨vs,h1,h0,h2⟩:=h;exact⟨vs,h1,h0,cz hc hi h2⟩)|.bC cs,v,hi,h=>(by simp only[PV.fO,ai]at h⊢;obtain⟨vs,h1,h2⟩:=h;exact⟨vs,h1,cz hc hi h2⟩)|.bM,v,_,h=>(by simp only[PV.fO,ai]at h⊢;exact h)|.cn,v,_,h=>(by simp only[PV.fO,ai]at h⊢;exact h)|.eL i base T n j,v,hi,h=>(by simp only[PV.fO,ai]at h⊢;obtain⟨hd,h0,hn,g,h1,h2⟩:=h;exact⟨hc.D _ hi hd,h0,hn,g,by rw[hc.ν _ hi hd];exact h1,h2⟩)|.oa f cs,v,hi,h=>(by simp only[PV.fO,ai]at h⊢;obtain⟨vs,h1,h2⟩:=h;exact⟨vs,h1,cz hc hi h2⟩)|.m6 f cs,v,hi,h=>(by simp only[PV.fO,ai]at h⊢;obtain⟨vs,h1,h2⟩:=h;exact⟨vs,h1,cz hc hi h2⟩)|.qH id,v,hi,h=>(by simp only[PV.fO,ai]at h⊢;obtain⟨hd,g,h1,h2⟩:=h;exact⟨hc.D _ hi hd,g,by rw[hc.ν _ hi hd];exact h1,h2⟩)|.clip T xs,v,_,h=>(by simp only[PV.fO,ai]at h⊢;exact⟨h.1,h.2.1,ao hc.heap hc.S (.sl T) _ _ h.1 h.2.2⟩)|.fn f cs,v,hi,h=>(by simp only[PV.fO,ai]at h⊢;obtain⟨vs,h1,h2⟩:=h;exact⟨vs,h1,cz hc hi h2⟩)|.any,v,_,h=>by simp only[PV.fO,ai]theorem cz {ks:List Nat} {ρ:Nat→Nat} {c c':Ctx} (hc:c.F5 ks ρ c'): ∀ {ps:List PV} {vs:List Value},PV.fF ks ps=true→ak c ps vs→ak c' (PV.eD ρ ps) vs|[],vs,_,h=>(by simp only[PV.eD,ak]at h⊢;exact h)|p::ps,vs,hi,h=>by simp only[PV.fF,Bool.and_eq_true]at hi;simp only[PV.eD,ak]at h⊢;obtain⟨v,r,h1,h2,h3⟩:=h;exact⟨v,r,h1,j6 hc hi.1 h2,cz hc hi.2 h3⟩end
def pE(ks:List Nat):aJ→Bool|.box cs _=>PV.fF ks cs|.it cs _ _=>PV.fF ks cs|.gh _ cs=>PV.fF ks cs|_=>true
theorem fH {c:Ctx} {i:Nat} {b:aJ} (h:gE c i b) {g:Nat} (hg:aI (c.ν i)=some g):c.M.O g∧ ¬c.M.S g∧g<c.w.heap.size:=by
 cases b with|box cs te=>obtain⟨_,g',vs,e,h1,h2,h3,h4,_⟩:=h;rw[h1]at hg;injection hg with hg;simp only at hg;subst hg;exact⟨h2,h3,(Array.getElem?_eq_some_iff.1 h4).1⟩|arr T xs te=>obtain⟨_,ho,v,hv,_,h2⟩:=h;injection hv with hv;rw[hv]at hg;rcases h2 with⟨rfl,_⟩|⟨g',o,cap,cur,e,rfl,h3,h4,h5,h6,h7,_⟩;(·cases hg);(·injection hg with hg;simp only at hg;subst hg;exact⟨h6,h5,(Array.getElem?_eq_some_iff.1 h7).1⟩)|mp K V es=>obtain⟨_,_,_,r,aO,clock,h1,h2,h3,h4,_⟩:=h;rw[h1]at hg;injection hg with hg;subst hg;exact⟨h2,h3,(Array.getElem?_eq_some_iff.1 h4).1⟩|it src since seen=>obtain⟨g',m,h1,h2,h3,h4,_⟩:=h;rw[h1]at hg;injection hg with hg;simp only at hg;subst hg;exact⟨h2,h3,(Array.getElem?_eq_some_iff.1 h4).1⟩|qI x pos=>obtain⟨g',h1,h2,h3,h4,_⟩:=h;rw[h1]at hg;injection hg with hg;simp only at hg;subst hg;exact⟨h2,h3,(Array.getElem?_eq_some_iff.1 h4).1⟩|gh o cs=>obtain⟨g',vs,h1,h2,h3,h4,_⟩:=h;rw[h1]at hg;injection hg with hg;simp only at hg;subst hg;exact⟨h2,h3,(Array.getElem?_eq_some_iff.1 h4).1⟩
theorem pF {ks:List Nat} {ρ:Nat→Nat} {c c':Ctx} (hc:c.F5 ks ρ c') {i:Nat} {b:aJ} (hi:pE ks b=true)(cg:c'.ν (ρ i)=c.ν i)(hg: ∀g,aI (c.ν i)=some g→c'.w.heap[g]?=c.w.heap[g]?∧c'.M.O g∧ ¬c'.M.S g)(h:gE c i b):gE c' (ρ i) (b.map (PV.eD ρ)):=by
 cases b with|box cs te=>obtain⟨fm,g,vs,e,h1,h2,h3,h4,h0,h5⟩:=h;obtain⟨e1,e2,e3⟩:=hg g (by rw[h1];rfl);exact⟨fm.eE cg fun g pG=>(hg g pG).1,g,vs,e,by rw[cg];exact h1,e2,e3,by rw[e1];exact h4,h0,cz hc hi h5⟩|arr T xs te=>obtain⟨fm,ho,v,hv,h1,h2⟩:=h;injection hv with hv;refine⟨fm.eE cg fun g pG=>(hg g pG).1,ho,v,by rw[cg,hv],h1,?_⟩;rcases h2 with h2|⟨g,o,cap,cur,e,rfl,h3,h4,h5,h6,h7,h8,h9⟩;(·exact .inl h2);(·obtain⟨e1,e2,e3⟩:=hg g (by rw[hv];rfl);refine .inr ⟨g,o,cap,cur,e,rfl,h3,h4,e3,e2,by rw[e1];exact h7,h8,fun i y hy=>?_⟩;obtain⟨cs,hl,Ba,hr⟩:=h9 i y hy;exact⟨cs,hl,Ba.mono e1,ao hc.heap hc.S _ _ _ ho hr⟩)|mp K V es=>obtain⟨cM,lS,h0,r,aO,clock,h1,h2,h3,h4,h5,h6,h7⟩:=h;obtain⟨e1,e2,e3⟩:=hg r (by rw[h1];rfl);refine⟨cM,lS,h0,r,aO,clock,by rw[cg];exact h1,e2,e3,by rw[e1];exact h4,h5,h6,fun i y hy=>?_⟩;obtain⟨e,ca,cb,a1,a2,a3,a4,a5⟩:=h7 i y hy;exact⟨e,ca,cb,a1,a2,ao hc.heap hc.S _ _ _ cM a3,a4,ao hc.heap hc.S _ _ _ lS a5⟩|it src since seen=>obtain⟨g,m,h1,h2,h3,h4,h6⟩:=h;obtain⟨e1,e2,e3⟩:=hg g (by rw[h1];rfl);exact⟨g,m,by rw[cg];exact h1,e2,e3,by rw[e1];exact h4,cz hc hi h6⟩|qI x pos=>obtain⟨g,h1,h2,h3,h4,h5⟩:=h;obtain⟨e1,e2,e3⟩:=hg g (by rw[h1];rfl);exact⟨g,by rw[cg];exact h1,e2,e3,by rw[e1];exact h4,h5⟩|gh o cs=>obtain⟨g,vs,h1,h2,h3,h4,h6⟩:=h;obtain⟨e1,e2,e3⟩:=hg g (by rw[h1];rfl);exact⟨g,vs,by rw[cg];exact h1,e2,e3,by rw[e1];exact h4,cz hc hi h6⟩
/-! ### Names -/
theorem cU {i:Nat} : ∀ {l:List Nat},an i l=true↔i∈l|[]=>(by simp[an])|k::r=>by simp only[an,List.mem_cons];cases hb:Nat.beq i k with|true=>simp[Nat.eq_of_beq_eq_true hb]|false=>(have cA:i≠k:=by rintro rfl;simp at hb);simp[cA,cU (l:=r)]
theorem uD {i:Nat} : ∀ {l:List Nat} {j:Nat},j≤idxOf i l j|[],j=>Nat.le_refl _|k::r,j=>by simp only[idxOf];cases Nat.beq i k with|true=>exact Nat.le_refl _|false=>exact Nat.le_trans (Nat.le_succ j) (uD (l:=r) (j:=j+1))
theorem ye {i:Nat} : ∀ {l:List Nat} {j:Nat},an i l=true→dE l (idxOf i l j-j)=i∧idxOf i l j-j<l.length|[],j,h=>(by cases h)|k::r,j,h=>by simp only[idxOf];simp only[an]at h;cases hb:Nat.beq i k with|true=>simp only[cond_true,Nat.sub_self,dE,List.length_cons];exact⟨(Nat.eq_of_beq_eq_true hb).symm,by omega⟩|false=>simp only[hb,cond_false]at h⊢;obtain⟨h1,h2⟩:=ye (l:=r) (j:=j+1) h;have hle:=uD (i:=i) (l:=r) (j:=j+1);rw[show idxOf i r (j+1)-j=(idxOf i r (j+1)-(j+1))+1 from by omega];simp only[dE,List.length_cons];exact⟨h1,by omega⟩
theorem mh: ∀ {l:List Nat} {j:Nat},j<l.length→an (dE l j) l=true|[],j,h=>(by simp at h)|x::r,0,_=>(by simp[dE,an])|x::r,j+1,h=>by simp only[dE,an];rw[mh (l:=r) (by simpa using h)];cases Nat.beq (dE r j) x<;>rfl
theorem yf: ∀ {l:List Nat} {j k:Nat},iG l=true→j<l.length→idxOf (dE l j) l k=k+j|[],j,k,_,h=>(by simp at h)|x::r,0,k,_,_=>(by simp[dE,idxOf])|x::r,j+1,k,hn,h=>by simp only[iG,Bool.and_eq_true,Bool.not_eq_true']at hn;(have hj:j<r.length:=by simpa using h);simp only[dE,idxOf];(have hb:Nat.beq (dE r j) x=false:=by cases hb:Nat.beq (dE r j) x with|false=>rfl|true=>have:=Nat.eq_of_beq_eq_true hb;rw[←this,mh hj]at hn;cases hn.1);rw[hb,cond_false,yf hn.2 hj];omega
theorem oC {i:Nat} {ids:List Nat} (h:an i ids=true):P0≤fwd ids i∧dE ids (fwd ids i-P0)=i∧fwd ids i-P0<ids.length:=by
 obtain⟨h1,h2⟩:=ye (j:=0) h;unfold fwd;rw[Nat.add_sub_cancel_left];exact⟨by omega,by simpa using h1,by simpa using h2⟩
theorem ml {ids:List Nat} {j:Nat} (hn:iG ids=true)(hj:j<ids.length):fwd ids (dE ids j)=P0+j:=by unfold fwd;rw[yf hn hj];omega
theorem gS {ids:List Nat} {bl:List (Nat×aJ)} {k:Nat} : ∀ {l:List Nat} {j:Nat},(∀i,i∈l→i∈ids)→look k (bY ids bl l j)=if j≤k∧k-j<l.length then(look (dE l (k-j)) bl).map (aJ.map (PV.eD (fwd ids)))else none|[],j,_=>(by simp[bY,look])|i::r,j,hl=>by have ih:=gS (k:=k) (bl:=bl) (l:=r) (j:=j+1) (fun x hx=>hl x (List.mem_cons_of_mem _ hx));by_cases hk:k=j;(·subst hk;simp only[bY,Nat.sub_self,dE,List.length_cons,Nat.le_refl,true_and,Nat.zero_lt_succ,if_true];cases hb:look i bl with|none=>simp only[Option.map_none];rw[ih,if_neg (by omega)]|some b=>simp only[aS,Option.map_some]);·(have e:look k (bY ids bl (i::r) j)=look k (bY ids bl r (j+1)):=by simp only[bY];cases look i bl with|none=>rfl|some b=>exact aF _ _ hk);rw[e,ih];by_cases GL:j≤k;(·rw[show k-j=(k-(j+1))+1 from by omega];simp only[dE,List.length_cons];by_cases h2:k-(j+1)<r.length;(·rw[if_pos ⟨by omega,h2⟩,if_pos ⟨GL,by omega⟩]);·rw[if_neg (by omega),if_neg (by omega)]);·rw[if_neg (by omega),if_neg (by omega)]
theorem hJ {ρ:Nat→Nat} {k:Nat} {b:aJ} : ∀ {bl:List (Nat×aJ)},(∀i c,look i bl=some c→ρ i=ρ k→i=k)→look k bl=some b→look (ρ k) (jg ρ bl)=some (b.map (PV.eD ρ))|[],_,h=>(by cases h)|p::r,q1,h=>by simp only[jg,look]at h⊢;cases hb:Nat.beq k p.1 with|true=>simp only[hb,cond_true,Option.some.injEq]at h;subst h;have:=Nat.eq_of_beq_eq_true hb;subst this;simp|false=>simp only[hb,cond_false]at h;(have cA:k≠p.1:=by intro e;rw[e]at hb;simp at hb);(have hp:look p.1 (p::r)=some p.2:=by simp[look]);(have:Nat.beq (ρ k) (ρ p.1)=false:=by cases hc:Nat.beq (ρ k) (ρ p.1)with|false=>rfl|true=>exact absurd (q1 p.1 p.2 hp (Nat.eq_of_beq_eq_true hc).symm).symm cA);rw[this,cond_false];refine hJ (fun i c hc he=>?_) h;by_cases Nl:i=p.1;(·rw[Nl]at he⊢;exact q1 p.1 p.2 hp he);·exact q1 i c (by rw[show(p::r)=((p.1,p.2)::r)from rfl,aF _ _ Nl];exact hc) he
theorem ll {ρ:Nat→Nat} {i:Nat} {b:aJ} : ∀ {bl:List (Nat×aJ)},(∀j k c e,look j bl=some c→look k bl=some e→ρ j=ρ k→j=k)→look i (jg ρ bl)=some b→ ∃k c,ρ k=i∧look k bl=some c∧b=c.map (PV.eD ρ)|[],_,h=>(by cases h)|p::r,q1,h=>by simp only[jg,look]at h;(have hp:look p.1 (p::r)=some p.2:=by simp[look]);cases hb:Nat.beq i (ρ p.1)with|true=>simp only[hb,cond_true,Option.some.injEq]at h;exact⟨p.1,p.2,(Nat.eq_of_beq_eq_true hb).symm,hp,h.symm⟩|false=>simp only[hb,cond_false]at h;(have cA:i≠ρ p.1:=by intro e;rw[e]at hb;simp at hb);(have up: ∀j c,look j r=some c→j=p.1∨look j (p::r)=some c:=by intro j c hc;by_cases hj:j=p.1;(·exact .inl hj);·exact .inr (by rw[show(p::r)=((p.1,p.2)::r)from rfl,aF _ _ hj];exact hc));obtain⟨k,c,h1,h2,h3⟩:=ll (bl:=r) (fun j k c e hj hk he=>by rcases up j c hj with h'|h';(·rcases up k e hk with Hj|Hj;(·rw[h',Hj]);·exact q1 j k p.2 e (by rw[h'];exact hp) Hj he);·rcases up k e hk with Hj|Hj;(·exact q1 j k c p.2 h' (by rw[Hj];exact hp) he);·exact q1 j k c e h' Hj he) h;refine⟨k,c,h1,?_,h3⟩;rcases up k c h2 with h'|h';(·exact absurd (by rw[←h1,h']) cA);·exact h'
theorem gT {k:Nat} : ∀ {a b:List (Nat×aJ)},look k (a++b)=(match look k a with|some x=>some x|none=>look k b)|[],b=>(by simp[look])|p::r,b=>by simp only[List.cons_append,look];cases Nat.beq k p.1 with|true=>rfl|false=>exact gT (a:=r)
theorem cE {id:Nat} : ∀ {bl:List (Nat×aJ)},an id (keys bl)=true→ ∃b,look id bl=some b|[],h=>(by cases h)|p::r,h=>by simp only[keys,List.map_cons,an]at h;simp only[look];cases hb:Nat.beq id p.1 with|true=>exact⟨p.2,rfl⟩|false=>simp only[hb,cond_false]at h⊢;exact cE h
theorem pH {bl':List (Nat×aJ)} {i:Nat} : ∀ {l:List Nat} {j:Nat},an i (bP bl' l j)=true↔ ∃k,k<l.length∧dE l k=i∧look (j+k) bl'=none|[],j=>(by simp[bP,an])|x::r,j=>by have ih:=pH (bl':=bl') (i:=i) (l:=r) (j:=j+1);simp only[bP];constructor;(·intro h;cases hl:look j bl' with|some b=>rw[hl]at h;obtain⟨k,h1,h2,h3⟩:=ih.1 h;exact⟨k+1,by simpa using h1,by simpa[dE]using h2,by rw[←h3];congr 1;omega⟩|none=>rw[hl]at h;simp only[an]at h;cases hb:Nat.beq i x with|true=>exact⟨0,by simp,by simp[dE,Nat.eq_of_beq_eq_true hb],by simpa using hl⟩|false=>simp only[hb,cond_false]at h;obtain⟨k,h1,h2,h3⟩:=ih.1 h;exact⟨k+1,by simpa using h1,by simpa[dE]using h2,by rw[←h3];congr 1;omega⟩);·rintro⟨k,h1,h2,h3⟩;cases k with|zero=>simp only[Nat.add_zero]at h3;simp only[dE]at h2;rw[h3];simp[an,h2]|succ k=>have:=ih.2 ⟨k,by simpa using h1,by simpa[dE]using h2,by rw[←h3];congr 1;omega⟩;cases look j bl' with|some b=>exact this|none=>simp only[an,this];cases Nat.beq i x<;>rfl
end Go.Proofs.Ytbbmofoiipjbgaa
namespace Go.Proofs.Ytbbmofoiipjbgaa
variable {cH:Prop} [fV cH]
open Go.RowKit
section
variable {E:Env} {n:Nat} {w0:World} {S0:Cx} {s:St} {a:Act} {w:World} {ν:Nat→Value} {S:Nat→Prop}
def il(S:Nat→Prop)(s:St)(ν:Nat→Value)(ks:List Nat):Nat→Prop:=fun g=>S g∨ ∃i,an i ks=true∧s.D i∧aI (ν i)=some g
def Nm(f:Nat):Value:=.func (.func f) #[] #[]
theorem uE {c:Ctx} : ∀ {cs:List PV} {l:List Nat} {vs:List Value},yW cs=some l→ak c cs vs→vs=l.map Nm|[],l,vs,h,hp=>(by simp only[yW,Option.some.injEq]at h;subst h;simp only[ak]at hp;exact hp)|p::r,l,vs,h,hp=>by unfold yW at h;split at h;(·rename_i he;cases he);(·rename_i f r' he;injection he with e1 e2;subst e1;subst e2;split at h;(·rename_i l' hl;injection h with h;subst h;simp only[ak]at hp;obtain⟨v,r,rfl,hv,hr⟩:=hp;simp only[ai]at hv;have BM:[v]=[Value.func (.func f) #[] #[]]:=hv.2;injection BM with BM;rw[BM,uE hl hr];rfl);·cases h);·cases h
theorem uF {w:World} {M:Mem} : ∀(x:Nat)(l:List Nat),av (qM (x::l)) (AZ (x::l)) w M ((x::l).map Nm)|x,[]=>rfl|x,y::r=>⟨[Nm x],(y::r).map Nm,rfl,rfl,uF y r⟩
theorem pI: ∀(x:Nat)(l:List Nat),(qM (x::l)).cells=(x::l).length|x,[]=>rfl|x,y::r=>by show 1+(qM (y::r)).cells=_;rw[pI y r];simp only[List.length_cons];omega
theorem rE: ∀l:List Nat,aB (qM l)=0|[]=>rfl|[_]=>rfl|x::y::r=>by show aB .bG+aB (qM (y::r))=0;rw[rE (y::r)];rfl
mutual theorem rF {c c':Ctx} {ks:List Nat} {bl:List (Nat×aJ)} (hw:c'.w=c.w)(hS: ∀b,c.M.S b→c'.M.S b)(hD: ∀i,an i ks=false→c.D i→c'.D i)(cg:c'.ν=c.ν)(hb: ∀i b,look i bl=some b→gE c i b)(hl: ∀i,an i ks=true→c.D i→ ∀g,aI (c.ν i)=some g→c'.M.S g): ∀ {p:PV} {v:Value},ai c p v→ai c' (p.aH ks bl) v|.iv T x,v,h=>(by simp only[PV.aH,ai]at h⊢;exact⟨h.1,ec (fun _ _=>by rw[hw]) hS h.1 h.2⟩)|.ref i off,v,h=>(by simp only[PV.aH];cases hi:an i ks;(·simp only[cond_false,ai]at h⊢;obtain⟨hd,g,h1,h2⟩:=h;exact⟨hD _ hi hd,g,by rw[cg];exact h1,h2⟩);·simp only[cond_true];split;(·rename_i cs te uG;split;(·rename_i x l dx;simp only[ai]at h⊢;obtain⟨hd,g,h1,h2⟩:=h;obtain⟨_,g',vs,e,e1,_,_,e2,_,e3⟩:=hb _ _ uG;rw[h1]at e1;injection e1 with e1;injection e1 with e1;injection e1 with e1;subst e1;have wg:=uE dx e3;refine⟨rE (x::l),g,0,vs.toList,by rw[h2];simp,hl i hi hd g (by rw[h1];rfl),by rw[wg,List.length_map];exact(pI x l).symm,fun j v hj=>?_,?_⟩;(·rw[hw];simp only[World.cell?,e2,Nat.zero_add];simpa using hj);·rw[wg];exact uF x l);·simp only[ai]);·simp only[ai])|.cK T x off,v,h=>(by simp only[PV.aH,ai]at h⊢;obtain⟨ho,g,o,cs,h1,h2,h3,h4,h5⟩:=h;exact⟨ho,g,o,cs,h1,hS _ h2,h3,h4.mono (by rw[hw]),ao (fun _ _=>by rw[hw]) hS _ _ _ ho h5⟩)|.aE i,v,h=>(by simp only[PV.aH];cases hi:an i ks;(·simp only[cond_false,ai]at h⊢;exact⟨hD _ hi h.1,by rw[cg];exact h.2.1,h.2.2⟩);·simp only[cond_true];split;(·rename_i T xs te uG;simp only[ai]at h⊢;obtain⟨kQ,jq⟩:=ig (hb _ _ uG);refine⟨by simpa[aB]using kQ,?_⟩;have:=kr (M':=c'.M) kQ hS jq (hl i hi h.1);rw[h.2.1,hw];exact this);·simp only[ai])|.kp i sz off len,v,h=>(by simp only[PV.aH];cases hi:an i ks;(·simp only[cond_false,ai]at h⊢;obtain⟨hd,a,n,cap,b,h1,h2⟩:=h;exact⟨hD _ hi hd,a,n,cap,b,by rw[cg];exact h1,h2⟩);·simp only[cond_true];split;(·rename_i T xs te uG;split;(·rename_i cr;have cr:=Nat.eq_of_beq_eq_true cr;simp only[ai]at h⊢;obtain⟨hd,a,n,cap,b,Ok,hn,ld,rfl,lf⟩:=h;obtain⟨kQ,jq⟩:=ig (hb _ _ uG);refine⟨by simpa[aB]using kQ,?_⟩;have kP:=kr (M':=c'.M) kQ hS jq (hl i hi hd);rw[Ok]at kP;(have hlen:n=xs.length:=by obtain⟨a',jO,hv,_⟩:=kP;injection hv with hv;injection hv);subst hlen;subst cr;rw[hw];exact ow kP hn lf);·simp only[ai]);·simp only[ai])|.dL i sz j off,v,h=>(by simp only[PV.aH];cases hi:an i ks;(·simp only[cond_false,ai]at h⊢;obtain⟨hd,g,o,n,cap,h1,h2⟩:=h;exact⟨hD _ hi hd,g,o,n,cap,by rw[cg];exact h1,h2⟩);·simp only[cond_true,ai])|.lmap i,v,h=>(by simp only[PV.aH];cases hi:an i ks;(·simp only[cond_false,ai]at h⊢;exact⟨hD _ hi h.1,by rw[cg];exact h.2.1,h.2.2⟩);·simp only[cond_true];split;(·rename_i K V es uG;simp only[ai]at h⊢;obtain⟨cM,lS,h0,r,aO,clock,h1,h2,h3,h4,h5,h6,h7⟩:=hb _ _ uG;refine⟨by simp only[aB];omega,?_⟩;rw[hw];exact xW cM lS hS h0 (by rw[h.2.1,h1]) (hl i hi h.1 r (by rw[h1];rfl)) h4 h5 h6 h7);·simp only[ai])|.agg cs,v,h=>(by simp only[PV.aH,ai]at h⊢;obtain⟨vs,h1,h0,h2⟩:=h;exact⟨vs,h1,h0,cN hw hS hD cg hb hl h2⟩)|.bC cs,v,h=>(by simp only[PV.aH,ai]at h⊢;obtain⟨vs,h1,h2⟩:=h;exact⟨vs,h1,cN hw hS hD cg hb hl h2⟩)|.bM,v,h=>(by simp only[PV.aH,ai]at h⊢;exact h)|.cn,v,h=>(by simp only[PV.aH,ai]at h⊢;exact h)|.eL i base T n j,v,h=>(by simp only[PV.aH];cases hi:an i ks;(·simp only[cond_false,ai]at h⊢;obtain⟨hd,h0,hn,g,h1,h2⟩:=h;exact⟨hD _ hi hd,h0,hn,g,by rw[cg];exact h1,h2⟩);·simp only[cond_true,ai])|.oa f cs,v,h=>(by simp only[PV.aH,ai]at h⊢;obtain⟨vs,h1,h2⟩:=h;exact⟨vs,h1,cN hw hS hD cg hb hl h2⟩)|.m6 f cs,v,h=>(by simp only[PV.aH,ai]at h⊢;obtain⟨vs,h1,h2⟩:=h;exact⟨vs,h1,cN hw hS hD cg hb hl h2⟩)|.qH i,v,h=>(by simp only[PV.aH];cases hi:an i ks;(·simp only[cond_false,ai]at h⊢;obtain⟨hd,g,h1,h2⟩:=h;exact⟨hD _ hi hd,g,by rw[cg];exact h1,h2⟩);·simp only[cond_true,ai])|.clip T xs,v,h=>(by simp only[PV.aH,ai]at h⊢;exact⟨h.1,h.2.1,ao (fun _ _=>by rw[hw]) hS (.sl T) _ _ h.1 h.2.2⟩)|.fn f cs,v,h=>(by simp only[PV.aH,ai]at h⊢;obtain⟨vs,h1,h2⟩:=h;exact⟨vs,h1,cN hw hS hD cg hb hl h2⟩)|.any,v,h=>by simp only[PV.aH,ai]theorem cN {c c':Ctx} {ks:List Nat} {bl:List (Nat×aJ)} (hw:c'.w=c.w)(hS: ∀b,c.M.S b→c'.M.S b)(hD: ∀i,an i ks=false→c.D i→c'.D i)(cg:c'.ν=c.ν)(hb: ∀i b,look i bl=some b→gE c i b)(hl: ∀i,an i ks=true→c.D i→ ∀g,aI (c.ν i)=some g→c'.M.S g): ∀ {ps:List PV} {vs:List Value},ak c ps vs→ak c' (PV.ep ks bl ps) vs|[],vs,h=>(by simp only[PV.ep,ak]at h⊢;exact h)|p::ps,vs,h=>by simp only[PV.ep,ak]at h⊢;obtain⟨v,r,h1,h2,h3⟩:=h;exact⟨v,r,h1,rF hw hS hD cg hb hl h2,cN hw hS hD cg hb hl h3⟩end
theorem ns(s:St)(ks:List Nat)(i:Nat):look i (s.aH ks).bl=bif an i ks then none else(look i s.bl).map (aJ.map (PV.ep ks s.bl)):=by simp only[St.aH,c8,iN]
theorem BN(s:St)(ks:List Nat)(t:Nat):(s.aH ks).get t=(s.get t).aH ks s.bl:=by simp only[St.get,St.aH,eO];cases look t s.sl<;>simp[PV.aH]
theorem Full.cL(h:Full n w0 S0 s a w ν S)(ks:List Nat):Full n w0 S0 (s.aH ks) a w ν (il S s ν ks):=by
 have hS: ∀b,S b→il S s ν ks b:=fun b hb=>.inl hb;(have hD: ∀i,an i ks=false→s.D i→(s.aH ks).D i:=by rintro i hi⟨b,hb⟩;exact⟨b.map (PV.ep ks s.bl),by rw[ns,hi,hb];rfl⟩)
 have hl: ∀i,an i ks=true→s.D i→ ∀g,aI (ν i)=some g→il S s ν ks g:=fun i hi hd g hg=>.inr ⟨i,hi,hd,hg⟩;(have sr: ∀i b,look i (s.aH ks).bl=some b→an i ks=false∧ ∃b0,look i s.bl=some b0∧b=b0.map (PV.ep ks s.bl):=by intro i b hb;rw[ns]at hb;cases hi:an i ks with|true=>rw[hi]at hb;cases hb|false=>rw[hi,cond_false]at hb;cases hl:look i s.bl with|none=>rw[hl]at hb;cases hb|some b0=>rw[hl]at hb;injection hb with hb;exact⟨rfl,b0,rfl,hb.symm⟩)
 refine⟨h.below,fun b hb=>hS b (h.vH b hb),fun b hb=>?_,⟨fun b hb=>?_,h.W.size,fun i b hb=>?_,fun i j b c ew hi hj=>?_⟩,fun t=>?_,h.size,h.defers,h.vI,fun i hi hd=>?_,h.vZ⟩
 (·rcases hb with hb|⟨i,_,⟨b0,kS⟩,hg⟩;(·exact h.fresh b hb);·exact .inr (h.eF kS hg).1);(·rcases hb with hb|⟨i,_,⟨b0,kS⟩,hg⟩;(·exact h.W.lt b hb);·exact(h.eF kS hg).2.2)
 (·obtain⟨hi,b0,kS,rfl⟩:=sr i b hb;have hr:=h.W.bJ i b0 kS;(have lT: ∀g,aI (ν i)=some g→ ¬il S s ν ks g:=by rintro g hg(hs|⟨j,hj,⟨bj,UF⟩,wa⟩);(·exact(h.eF kS hg).2.1 hs);·(have ew:i≠j:=by rintro rfl;rw[hi]at hj;cases hj);exact h.W.ne i j b0 bj ew kS UF g hg wa);cases b0 with|box cs te=>obtain⟨fm,g,vs,e,h1,h2,h3,h4,h0,h5⟩:=hr;exact⟨fm.eE rfl fun _ _=>rfl,g,vs,e,h1,h2,lT g (by simp only at h1;rw[h1];rfl),h4,h0,cN (c:=⟨ν,s.D,w,⟨S,ax w0 S0⟩⟩) (c':=⟨ν,(s.aH ks).D,w,⟨il S s ν ks,ax w0 S0⟩⟩) rfl hS hD rfl h.W.bJ hl h5⟩|arr T xs te=>obtain⟨fm,ho,v,hv,h1,h2⟩:=hr;injection hv with hv;simp only at hv;refine⟨fm.eE rfl fun _ _=>rfl,ho,v,by simp only[hv],h1,?_⟩;rcases h2 with h2|⟨g,o,cap,cur,e,rfl,h3,h4,h5,h6,h7,h8,h9⟩;(·exact .inl h2);(·refine .inr ⟨g,o,cap,cur,e,rfl,h3,h4,lT g (by rw[hv];rfl),h6,h7,h8,fun i y hy=>?_⟩;obtain⟨cs,hl,Ba,hr⟩:=h9 i y hy;exact⟨cs,hl,Ba,ao (fun _ _=>rfl) hS _ _ _ ho hr⟩)|mp K V es=>obtain⟨cM,lS,h0,r,aO,clock,h1,h2,h3,h4,h5,h6,h7⟩:=hr;refine⟨cM,lS,h0,r,aO,clock,h1,h2,lT r (by simp only at h1;rw[h1];rfl),h4,h5,h6,fun i y hy=>?_⟩;obtain⟨e,ca,cb,a1,a2,a3,a4,a5⟩:=h7 i y hy;exact⟨e,ca,cb,a1,a2,ao (fun _ _=>rfl) hS _ _ _ cM a3,a4,ao (fun _ _=>rfl) hS _ _ _ lS a5⟩|it src since seen=>obtain⟨g,m,h1,h2,h3,h4,h6⟩:=hr;exact⟨g,m,h1,h2,lT g (by simp only at h1;rw[h1];rfl),h4,cN (c:=⟨ν,s.D,w,⟨S,ax w0 S0⟩⟩) (c':=⟨ν,(s.aH ks).D,w,⟨il S s ν ks,ax w0 S0⟩⟩) rfl hS hD rfl h.W.bJ hl h6⟩|qI x pos=>obtain⟨g,h1,h2,h3,h4,h5⟩:=hr;exact⟨g,h1,h2,lT g (by simp only at h1;rw[h1];rfl),h4,h5⟩|gh o cs=>obtain⟨g,vs,h1,h2,h3,h4,h6⟩:=hr;exact⟨g,vs,h1,h2,lT g (by simp only at h1;rw[h1];rfl),h4,cN (c:=⟨ν,s.D,w,⟨S,ax w0 S0⟩⟩) (c':=⟨ν,(s.aH ks).D,w,⟨il S s ν ks,ax w0 S0⟩⟩) rfl hS hD rfl h.W.bJ hl h6⟩)
 (·obtain⟨_,b0,kS,_⟩:=sr i b hi;obtain⟨_,c0,lH,_⟩:=sr j c hj;exact h.W.ne i j b0 c0 ew kS lH);(·rw[BN];exact rF (c:=⟨ν,s.D,w,⟨S,ax w0 S0⟩⟩) (c':=⟨ν,(s.aH ks).D,w,⟨il S s ν ks,ax w0 S0⟩⟩) rfl hS hD rfl h.W.bJ hl (h.ee t))
 ·obtain⟨b,hb⟩:=hd;obtain⟨_,b0,kS,_⟩:=sr i b hb;exact h.kept i hi ⟨b0,kS⟩
/-! ### Blocks handed to a callee -/
def oD(ν:Nat→Value)(ids:List Nat):Nat→Value:=fun k=>ν (dE ids (k-P0))
theorem c9 {s:St} {ids:List Nat} {k:Nat} {b:aJ} (h:look k (bY ids s.bl ids P0)=some b):P0≤k∧k-P0<ids.length∧ ∃b0,look (dE ids (k-P0)) s.bl=some b0∧b=b0.map (PV.eD (fwd ids)):=by
 rw[gS (fun _ h=>h)]at h;split at h;(·rename_i hc;cases hl:look (dE ids (k-P0)) s.bl with|none=>rw[hl]at h;cases h|some b0=>rw[hl]at h;injection h with h;exact⟨hc.1,hc.2,b0,rfl,h.symm⟩)
 ·cases h
theorem BO {s:St} {ids:List Nat} {i:Nat} (hi:an i ids=true)(hd:s.D i):(⟨[],bY ids s.bl ids P0⟩:St).D (fwd ids i):=by
 obtain⟨b,hb⟩:=hd;obtain⟨h1,h2,h3⟩:=oC hi;refine⟨b.map (PV.eD (fwd ids)),?_⟩;simp only;rw[gS (fun _ h=>h),if_pos ⟨h1,h3⟩,h2,hb];rfl
def F6(S:Nat→Prop)(s:St)(ν:Nat→Value)(ids:List Nat):Cx:=⟨S,fk (oD ν ids) (bY ids s.bl ids P0),oD ν ids,[]⟩
theorem mn {s:St} {ν:Nat→Value} {ids:List Nat} {g:Nat} (h:fk (oD ν ids) (bY ids s.bl ids P0) g): ∃i b,an i ids=true∧look i s.bl=some b∧aI (ν i)=some g:=by
 obtain⟨k,b,hk,hg⟩:=h;obtain⟨h1,h2,b0,kS,_⟩:=c9 hk;exact⟨_,b0,mh h2,kS,hg⟩
theorem rG {ks:List Nat} {bl:List (Nat×aJ)} : ∀ {l:List Nat} {i:Nat} {b:aJ},jL ks bl l=true→i∈l→look i bl=some b→pE ks b=true|[],i,b,_,h,_=>(by cases h)|x::r,i,b,h,hi,hb=>by simp only[jL,Bool.and_eq_true]at h;rcases List.mem_cons.1 hi with rfl|hi;(·have h1:=h.1;rw[hb]at h1;cases b<;>first|exact h1|rfl);·exact rG h.2 hi hb
theorem Full.wM(h:Full n w0 S0 s a w ν S) {ids:List Nat} (ix:iG ids=true)(fG:jL ids s.bl ids=true):na ⟨[],bY ids s.bl ids P0⟩ (oD ν ids) w ⟨S,ax w (F6 S s ν ids)⟩∧(∀g,fk (oD ν ids) (bY ids s.bl ids P0) g→g<w.heap.size)∧ ∀(S1:Nat→Prop),(∀b,S b→S1 b)→Ctx.F5 ids (fwd ids) ⟨ν,s.D,w,⟨S,ax w0 S0⟩⟩ ⟨oD ν ids,(⟨[],bY ids s.bl ids P0⟩:St).D,w,⟨S1,ax w (F6 S s ν ids)⟩⟩:=by
 (have cg: ∀i,an i ids=true→oD ν ids (fwd ids i)=ν i:=by intro i hi;unfold oD;rw[(oC hi).2.1]);have hle: ∀(S1:Nat→Prop),(∀b,S b→S1 b)→Ctx.F5 ids (fwd ids) ⟨ν,s.D,w,⟨S,ax w0 S0⟩⟩ ⟨oD ν ids,(⟨[],bY ids s.bl ids P0⟩:St).D,w,⟨S1,ax w (F6 S s ν ids)⟩⟩:=fun S1 Ol=>⟨fun _ _=>rfl,Ol,fun i hi hd=>BO hi hd,fun i hi _=>cg i hi⟩
 refine⟨⟨h.W.lt,fun b hb=>.inl hb,fun k b hb=>?_,fun k l b c tA hk hl g hg dV=>?_⟩,fun g hg=>?_,hle⟩;(·obtain⟨h1,h2,b0,kS,rfl⟩:=c9 hb;have hm:=mh h2;(have hf:fwd ids (dE ids (k-P0))=k:=by rw[ml ix h2];omega);have:=pF (hle S (fun _ h=>h)) (i:=dE ids (k-P0)) (b:=b0) (rG fG (cU.1 hm) kS) (cg _ hm) (fun g hg=>⟨rfl,.inr ⟨k,_,hb,hg⟩,(h.eF kS hg).2.1⟩) (h.W.bJ _ b0 kS);rw[hf]at this;exact this)
 (·obtain⟨h1,h2,b0,kS,_⟩:=c9 hk;obtain⟨h3,h4,c0,lH,_⟩:=c9 hl;refine h.W.ne (dE ids (k-P0)) (dE ids (l-P0)) b0 c0 (fun e=>tA ?_) kS lH g hg dV;have e1:=ml ix h2;have e2:=ml ix h4;rw[e,e2]at e1;omega)
 ·obtain⟨i,b,_,hb,dV⟩:=mn hg;exact(h.eF hb dV).2.2
end
end Go.Proofs.Ytbbmofoiipjbgaa
namespace Go.Proofs.Ytbbmofoiipjbgaa
variable {cH:Prop} [fV cH]
open Go.RowKit
mutual theorem nt {c:Ctx} {bl:List (Nat×aJ)} (hD: ∀i,c.D i→ ∃b,look i bl=some b): ∀ {p:PV} {v:Value},ai c p v→PV.Dw (keys bl) p=true|.iv T x,v,h=>rfl|.ref i off,v,h=>(by simp only[ai]at h;obtain⟨b,hb⟩:=hD _ h.1;exact cd hb)|.cK T x off,v,h=>rfl|.aE i,v,h=>(by simp only[ai]at h;obtain⟨b,hb⟩:=hD _ h.1;exact cd hb)|.kp i sz off len,v,h=>(by simp only[ai]at h;obtain⟨b,hb⟩:=hD _ h.1;exact cd hb)|.dL i sz j off,v,h=>(by simp only[ai]at h;obtain⟨b,hb⟩:=hD _ h.1;exact cd hb)|.lmap i,v,h=>(by simp only[ai]at h;obtain⟨b,hb⟩:=hD _ h.1;exact cd hb)|.agg cs,v,h=>(by simp only[ai]at h;obtain⟨vs,_,_,h2⟩:=h;exact de hD h2)|.bC cs,v,h=>(by simp only[ai]at h;obtain⟨vs,_,h2⟩:=h;exact de hD h2)|.bM,v,h=>rfl|.cn,v,h=>rfl|.eL i base T n j,v,h=>(by simp only[ai]at h;obtain⟨b,hb⟩:=hD _ h.1;exact cd hb)|.oa f cs,v,h=>(by simp only[ai]at h;obtain⟨vs,_,h2⟩:=h;exact de hD h2)|.m6 f cs,v,h=>(by simp only[ai]at h;obtain⟨vs,_,h2⟩:=h;exact de hD h2)|.qH i,v,h=>(by simp only[ai]at h;obtain⟨b,hb⟩:=hD _ h.1;exact cd hb)|.clip T xs,v,h=>rfl|.fn f cs,v,h=>(by simp only[ai]at h;obtain⟨vs,_,h2⟩:=h;exact de hD h2)|.any,v,h=>rfl theorem de {c:Ctx} {bl:List (Nat×aJ)} (hD: ∀i,c.D i→ ∃b,look i bl=some b): ∀ {ps:List PV} {vs:List Value},ak c ps vs→PV.fF (keys bl) ps=true|[],vs,h=>rfl|p::ps,vs,h=>by simp only[ak]at h;obtain⟨v,r,_,h2,h3⟩:=h;simp only[PV.fF,nt hD h2,de hD h3,Bool.and_self]end
theorem rH {c:Ctx} {bl:List (Nat×aJ)} (hD: ∀i,c.D i→ ∃b,look i bl=some b) {i:Nat} {b:aJ} (h:gE c i b):pE (keys bl) b=true:=by
 cases b with|box cs te=>obtain⟨_,g,vs,e,_,_,_,_,_,h5⟩:=h;exact de hD h5|it cs a b=>obtain⟨g,m,_,_,_,_,h6⟩:=h;exact de hD h6|gh o cs=>obtain⟨g,vs,_,_,_,_,h6⟩:=h;exact de hD h6|_=>rfl
theorem uH {bl':List (Nat×aJ)} : ∀ {bl:List (Nat×aJ)} {k:Nat} {b:aJ},o6 bl bl'=true→look k bl=some b→look k bl'=none→ ∃T xs te,b= .arr T xs te|[],k,b,_,h,_=>(by cases h)|p::r,k,b,hk,h,hn=>by simp only[o6,Bool.and_eq_true]at hk;simp only[look]at h;cases hb:Nat.beq k p.1 with|true=>simp only[hb,cond_true,Option.some.injEq]at h;subst h;have:=Nat.eq_of_beq_eq_true hb;subst this;have h1:=hk.1;rw[hn]at h1;(cases hp:p.2 with|arr T xs te=>exact⟨T,xs,te,rfl⟩|box cs te=>rw[hp]at h1;cases h1|mp K V es=>rw[hp]at h1;cases h1|it a b c=>rw[hp]at h1;cases h1|qI a b=>rw[hp]at h1;cases h1|gh a b=>rw[hp]at h1;cases h1)|false=>simp only[hb,cond_false]at h;exact uH hk.2 h hn
theorem yg {bl:List (Nat×aJ)} {used:List Nat} {d:Option Nat} : ∀ {l:List (Nat×aJ)} {k:Nat} {b:aJ},vY bl used d l=true→look k l=some b→(P0≤k∧ ∃c,look k bl=some c)∨(k<P0∧ ∃e,d=some e∧k<100000∧k+100000*(e+1)<P0∧an (k+100000*(e+1)) used=false)|[],k,b,_,h=>(by cases h)|(p1,p2)::r,k,b,hn,h=>by obtain⟨p,hp⟩: ∃p:Nat×aJ,p=(p1,p2):=⟨_,rfl⟩;(obtain rfl:p.1=p1:=by rw[hp]);(obtain rfl:p.2=p2:=by rw[hp]);clear hp;simp only[vY,Bool.and_eq_true]at hn;simp only[look]at h;cases hb:Nat.beq k p.1 with|true=>have:=Nat.eq_of_beq_eq_true hb;subst this;have h1:=hn.1;split at h1;(·rename_i cF;have hle:=Nat.le_of_ble_eq_true cF;cases hl:look p.1 bl with|none=>rw[hl]at h1;cases h1|some c=>exact .inl ⟨hle,c,rfl⟩);(·rename_i cF;(have cX:p.1<P0:=by rcases Nat.lt_or_ge p.1 P0 with h'|h';(·exact h');·rw[Nat.ble_eq_true_of_le h']at cF;cases cF);cases d with|none=>cases h1|some e=>simp only[Bool.and_eq_true,Nat.blt_eq,Bool.not_eq_true']at h1;exact .inr ⟨cX,e,rfl,h1.1.1,h1.1.2,h1.2⟩)|false=>simp only[hb,cond_false]at h;exact yg hn.2 h
section
variable {E:Env} {n:Nat} {w0:World} {S0:Cx} {s:St} {a:Act} {w:World} {ν:Nat→Value} {S:Nat→Prop}
theorem iR {ids:List Nat} {d k:Nat} (h:P0≤k):back ids d k=dE ids (k-P0):=by unfold back;rw[Nat.ble_eq_true_of_le h];rfl
theorem kD {ids:List Nat} {d k:Nat} (h:k<P0):back ids d k=k+100000*(d+1):=by
 unfold back;(have:Nat.ble P0 k=false:=by cases hb:Nat.ble P0 k with|false=>rfl|true=>have:=Nat.le_of_ble_eq_true hb;omega);rw[this];rfl
def dG(s:St)(d:Nat)(ids:List Nat)(bl':List (Nat×aJ)):List (Nat×aJ):=jg (back ids d) bl'++b9 ids (s.kill (bP bl' ids P0)).bl
noncomputable def fI(ν ν':Nat→Value)(d:Nat)(bl':List (Nat×aJ)):Nat→Value:=fun i=>match Nat.ble (100000*(d+1)) i,look (i-100000*(d+1)) bl' with|true,some _=>bif Nat.blt (i-100000*(d+1)) 100000 then ν' (i-100000*(d+1))else ν i|_,_=>ν i
theorem Full.b7(h:Full n w0 S0 s a w ν S) {ids:List Nat} {d:Option Nat} {p:PV} {v:Value} {bl':List (Nat×aJ)} {w':World} {ν':Nat→Value} {S':Nat→Prop} (ix:iG ids=true)(fG:jL ids s.bl ids=true)(hk:Kept (fk (oD ν ids) (bY ids s.bl ids P0)) w w')(h1: ∀b,S b→S' b)(h2: ∀b,S' b→S b∨ax w (F6 S s ν ids) b)(h3: ∀i,P0≤i→(⟨[],bl'⟩:St).D i→ν' i=oD ν ids i)(hW:na ⟨[],bl'⟩ ν' w' ⟨S',ax w (F6 S s ν ids)⟩)(hp:ai ⟨ν',(⟨[],bl'⟩:St).D,w',⟨S',ax w (F6 S s ν ids)⟩⟩ p v)(nT:o6 (bY ids s.bl ids P0) bl'=true)(js:vY (bY ids s.bl ids P0) (keys s.bl) d bl'=true)(hd: ∀e,d=some e→e<n): ∃BP,Full n w0 S0 (s.dy d ids p bl') (a.put d v) w' BP S':=by
 obtain⟨dd,kB⟩: ∃dd:Nat,dd=(match d with|some e=>e|none=>0):=⟨_,rfl⟩;(have uj:(s.dy d ids p bl').bl=dG s dd ids bl':=by subst kB;cases d<;>rfl);(have kP: ∀t,(s.dy d ids p bl').get t=match d with|some e=>if t=e then p.fO (back ids dd)else((s.get t).kill (bP bl' ids P0))|none=>(s.get t).kill (bP bl' ids P0):=by intro t;subst kB;cases d with|none=>exact o8 s _ t|some e=>simp only[St.dy,St.get];by_cases ht:t=e;(·subst ht;simp only[aS,if_true]);·rw[aF _ _ ht,if_neg ht];have:=o8 s (bP bl' ids P0) t;simp only[St.get]at this;exact this)
 (have eu: ∀k b,look k bl'=some b→(P0≤k∧k-P0<ids.length∧ ∃b0,look (dE ids (k-P0)) s.bl=some b0)∨(k<P0∧d=some dd∧k<100000∧k+100000*(dd+1)<P0∧look (k+100000*(dd+1)) s.bl=none):=by intro k b hb;rcases yg js hb with⟨hle,c,hc⟩|⟨cX,e,he,Ss,UG,Su⟩;(·obtain⟨_,h5,b0,kS,_⟩:=c9 hc;exact .inl ⟨hle,h5,b0,kS⟩);·subst he;simp only at kB;subst kB;refine .inr ⟨cX,rfl,Ss,UG,?_⟩;cases hl:look (k+100000*(dd+1)) s.bl with|none=>rfl|some b=>rw[cd hl]at Su;cases Su)
 (have q1: ∀j k c e,look j bl'=some c→look k bl'=some e→back ids dd j=back ids dd k→j=k:=by intro j k c e hj hk he;rcases eu j c hj with⟨a1,a2,b0,a3⟩|⟨a1,_,a2,a3,a4⟩;(·rcases eu k e hk with⟨b1,b2,c0,b3⟩|⟨b1,_,b2,b3,b4⟩;(·rw[iR a1,iR b1]at he;have e1:=ml ix a2;have e2:=ml ix b2;rw[he,e2]at e1;omega);·rw[iR a1,kD b1]at he;rw[he,b4]at a3;cases a3);·rcases eu k e hk with⟨b1,b2,c0,b3⟩|⟨b1,_,b2,b3,b4⟩;(·rw[kD a1,iR b1]at he;rw[←he,a4]at b3;cases b3);·rw[kD a1,kD b1]at he;omega)
 (have j7: ∀i,s.D i→fI ν ν' dd bl' i=ν i:=by rintro i⟨b,hb⟩;unfold fI;split;(·rename_i c cF hl;cases cX:Nat.blt (i-100000*(dd+1)) 100000 with|false=>rfl|true=>have hle:=Nat.le_of_ble_eq_true cF;rw[Nat.blt_eq]at cX;rcases eu _ c hl with⟨a1,_⟩|⟨_,_,_,_,a4⟩;(·unfold P0 at a1;omega);·rw[show i-100000*(dd+1)+100000*(dd+1)=i from by omega,hb]at a4;cases a4);·rfl)
 (have pJ: ∀k b,look k bl'=some b→fI ν ν' dd bl' (back ids dd k)=ν' k:=by intro k b hb;rcases eu k b hb with⟨a1,a2,b0,a3⟩|⟨a1,_,a2,a3,a4⟩;(·rw[iR a1,j7 _ ⟨b0,a3⟩,h3 k a1 ⟨b,hb⟩];rfl);·rw[kD a1];unfold fI;rw[Nat.ble_eq_true_of_le (by omega),show k+100000*(dd+1)-100000*(dd+1)=k from by omega,hb];(have:Nat.blt k 100000=true:=by rw[Nat.blt_eq];exact a2);simp only[this,cond_true])
 (have BQ: ∀k b,look k bl'=some b→look (back ids dd k) (dG s dd ids bl')=some (b.map (PV.eD (back ids dd))):=by intro k b hb;unfold dG;rw[gT,hJ (fun i c hc he=>q1 i k c b hc hb he) hb])
 (have Hk: ∀i,an i ids=false→s.D i→ ∃b,look i (dG s dd ids bl')=some b:=by rintro i hi⟨b,hb⟩;unfold dG;rw[gT];cases look i (jg (back ids dd) bl')with|some x=>exact⟨x,rfl⟩|none=>exact⟨b.map (PV.cf (bP bl' ids P0)),by simp only;rw[c8,hi,cond_false,fP,hb];rfl⟩)
 (have pK: ∀i b,look i (dG s dd ids bl')=some b→(∃k c,back ids dd k=i∧look k bl'=some c∧b=c.map (PV.eD (back ids dd)))∨(an i ids=false∧ ∃b0,look i s.bl=some b0∧b=b0.map (PV.cf (bP bl' ids P0))):=by intro i b hb;unfold dG at hb;rw[gT]at hb;cases hr:look i (jg (back ids dd) bl')with|some x=>rw[hr]at hb;injection hb with hb;subst hb;exact .inl (ll q1 hr)|none=>rw[hr]at hb;simp only at hb;rw[c8]at hb;cases hi:an i ids with|true=>rw[hi]at hb;cases hb|false=>rw[hi,cond_false,fP]at hb;cases hl:look i s.bl with|none=>rw[hl]at hb;cases hb|some b0=>rw[hl]at hb;injection hb with hb;exact .inr ⟨rfl,b0,rfl,hb.symm⟩)
 (have BR: ∀g,fk (oD ν ids) (bY ids s.bl ids P0) g→ax w0 S0 g∧ ¬S g∧g<w.heap.size:=fun g hg=>by obtain⟨i,b,_,hb,dV⟩:=mn hg;exact h.eF hb dV);(have jq: ∀g,ax w (F6 S s ν ids) g→ax w0 S0 g:=fun g hg=>by rcases hg with hg|hg;(·exact h.W.size g hg);·exact(BR g hg).1)
 (have BS: ∀i,an i ids=true→s.D i→an i (bP bl' ids P0)=false→ ∃b,look (fwd ids i) bl'=some b:=by intro i hi _ yh;obtain⟨f1,f2,f3⟩:=oC hi;cases hl:look (fwd ids i) bl' with|some b=>exact⟨b,rfl⟩|none=>have:=(pH (bl':=bl') (i:=i) (l:=ids) (j:=P0)).2 ⟨fwd ids i-P0,f3,f2,by rw[show P0+(fwd ids i-P0)=fwd ids i from by omega];exact hl⟩;rw[this]at yh;cases yh)
 (have hD: ∀i,s.D i→an i (bP bl' ids P0)=false→(⟨[],dG s dd ids bl'⟩:St).D i:=by intro i hi yh;cases hm:an i ids with|false=>exact Hk i hm hi|true=>obtain⟨b,hb⟩:=BS i hm hi yh;have:=BQ _ b hb;obtain⟨f1,f2,f3⟩:=oC hm;rw[iR f1,f2]at this;exact⟨_,this⟩)
 have Lo:Ctx.tT (bP bl' ids P0) ⟨ν,s.D,w,⟨S,ax w0 S0⟩⟩ ⟨fI ν ν' dd bl',(⟨[],dG s dd ids bl'⟩:St).D,w',⟨S',ax w0 S0⟩⟩:=⟨fun b hb=>hk.block b (h.W.lt b hb) (fun hf=>(BR b hf).2.1 hb),h1,hD,fun i hi _=>j7 i hi⟩
 (have DP:tU ⟨ν,s.D,w,⟨S,ax w0 S0⟩⟩ (bP bl' ids P0):=by rintro i hi⟨b,hb⟩;obtain⟨k,e1,e2,e3⟩:=pH.1 hi;(have Bi:look (P0+k) (bY ids s.bl ids P0)=some (b.map (PV.eD (fwd ids))):=by rw[gS (fun _ h=>h),if_pos ⟨by omega,by omega⟩,show P0+k-P0=k from by omega,e2,hb];rfl);obtain⟨T,xs,te,Ef⟩:=uH nT Bi e3;cases b with|arr T xs te=>obtain⟨fm,_,u,hu,_,hc⟩:=h.W.bJ i _ hb;injection hu with hu;simp only at hu⊢;rw[hu];rcases hc with⟨hc,_⟩|⟨g,o,cap,cur,e,hc,_⟩<;>subst hc<;>exact⟨_,_,_,rfl⟩|box cs te=>cases Ef|mp K V es=>cases Ef|it a b c=>cases Ef|qI a b=>cases Ef|gh a b=>cases Ef)
 have Lp:Ctx.F5 (keys bl') (back ids dd) ⟨ν',(⟨[],bl'⟩:St).D,w',⟨S',ax w (F6 S s ν ids)⟩⟩ ⟨fI ν ν' dd bl',(⟨[],dG s dd ids bl'⟩:St).D,w',⟨S',ax w0 S0⟩⟩:=⟨fun _ _=>rfl,fun _ h=>h,fun i _⟨b,hb⟩=>⟨_,BQ i b hb⟩,fun i _⟨b,hb⟩=>pJ i b hb⟩
 (have uI:na ⟨[],dG s dd ids bl'⟩ (fI ν ν' dd bl') w' ⟨S',ax w0 S0⟩:=by refine⟨hW.lt,fun b hb=>h.W.size b (Nat.le_trans hk.size hb),fun i b hb=>?_,fun i j b c ew hi hj g hg dV=>?_⟩;(·rcases pK i b hb with⟨k,c,rfl,hc,rfl⟩|⟨hi,b0,kS,rfl⟩;(·have hr:=hW.bJ k c hc;exact pF Lp (rH (fun i hi=>hi) hr) (pJ k c hc) (fun g hg=>⟨rfl,jq g (fH hr hg).1,(fH hr hg).2.1⟩) hr);·refine rm Lo DP rfl (j7 i ⟨b0,kS⟩) (fun g hg=>?_) (h.W.bJ i b0 kS);obtain⟨g1,g2,g3⟩:=h.eF kS hg;(have Ed: ¬fk (oD ν ids) (bY ids s.bl ids P0) g:=by intro hf;obtain⟨j,c0,hj,lH,wa⟩:=mn hf;exact h.W.ne i j b0 c0 (by rintro rfl;rw[hi]at hj;cases hj) kS lH g hg wa);refine⟨hk.block g g3 Ed,fun _ BB=>?_⟩;rcases h2 g BB with h'|h'|h';(·exact g2 h');(·omega);·exact Ed h');·(have AB: ∀(k:Nat)(c:aJ)(j:Nat)(c0:aJ),look k bl'=some c→an j ids=false→look j s.bl=some c0→aI (ν' k)=some g→aI (ν j)=some g→False:=by intro k c j c0 hc hj lH DQ wa;obtain⟨g1,g2,g3⟩:=h.eF lH wa;rcases(fH (hW.bJ k c hc) DQ).1 with h'|h';(·exact absurd g3 (Nat.not_lt.2 h'));·obtain⟨j',UH,FR,Om,On⟩:=mn h';exact h.W.ne j j' c0 UH (by rintro rfl;rw[hj]at FR;cases FR) lH Om g wa On);rcases pK i b hi with⟨k,c1,rfl,mU,_⟩|⟨Sv,b0,kS,_⟩;(·rw[pJ k c1 mU]at hg;rcases pK j c hj with⟨l,c2,rfl,oA,_⟩|⟨Oo,c0,lH,_⟩;(·rw[pJ l c2 oA]at dV;exact hW.ne k l c1 c2 (fun e=>ew (by rw[e])) mU oA g hg dV);·rw[j7 j ⟨c0,lH⟩]at dV;exact AB k c1 j c0 mU Oo lH hg dV);·rw[j7 i ⟨b0,kS⟩]at hg;rcases pK j c hj with⟨l,c2,rfl,oA,_⟩|⟨Oo,c0,lH,_⟩;(·rw[pJ l c2 oA]at dV;exact AB l c2 i b0 oA Sv kS dV hg);·rw[j7 j ⟨c0,lH⟩]at dV;exact h.W.ne i j b0 c0 ew kS lH g hg dV)
 (have Hl:(s.dy d ids p bl').D=(⟨[],dG s dd ids bl'⟩:St).D:=by unfold St.D;rw[uj]);refine⟨fI ν ν' dd bl',⟨⟨hk.os.trans h.below.os,hk.tape.trans h.below.tape,hk.output.trans h.below.output,Nat.le_trans h.below.size hk.size,fun b hb hx=>?_,fun hd=>Nat.le_trans (h.below.drawn hd) (hk.drawn hd)⟩,fun b hb=>h1 b (h.vH b hb),fun b hb=>?_,⟨uI.lt,uI.size,fun i b hb=>?_,fun i j b c ew hi hj=>?_⟩,fun t=>?_,?_,?_,h.vI,fun i hi rl=>?_,h.vZ⟩⟩
 (·rw[hk.block b (Nat.lt_of_lt_of_le hb h.below.size) (fun hf=>?_),h.below.block b hb hx];rcases(BR b hf).1 with h'|h';(·omega);·exact hx h');(·rcases h2 b hb with h'|h';(·exact h.fresh b h');·exact .inr (jq b h'))
 (·rw[uj]at hb;rw[Hl];exact uI.bJ i b hb);(·rw[uj]at hi hj;exact uI.ne i j b c ew hi hj);(·rw[Hl,kP t];have hold:ai ⟨fI ν ν' dd bl',(⟨[],dG s dd ids bl'⟩:St).D,w',⟨S',ax w0 S0⟩⟩ ((s.get t).kill (bP bl' ids P0)) (a.tmps.getD t undef):=nc Lo DP (h.ee t);cases d with|none=>exact hold|some e=>by_cases ht:t=e;(·subst ht;simp only[if_true];have UI:=hd t rfl;(have:(a.put (some t) v).tmps.getD t undef=v:=by simp[Act.put,h.size,UI]);rw[this];exact j6 Lp (nt (fun i hi=>hi) hp) hp);·show ai _ (if t=e then p.fO (back ids dd)else(s.get t).kill (bP bl' ids P0)) _;rw[if_neg ht];(have:(a.put (some e) v).tmps.getD t undef=a.tmps.getD t undef:=by simp only[Act.put,Array.getD_eq_getD_getElem?];rw[Array.getElem?_setIfInBounds_ne (by omega)]);rw[this];exact hold)
 (·rw[lX];exact h.size);(·rw[iM];exact h.defers);·rw[Hl]at rl;obtain⟨b,hb⟩:=rl;rcases pK i b hb with⟨k,c,rfl,hc,_⟩|⟨_,b0,kS,_⟩;(·rcases eu k c hc with⟨a1,a2,b0,a3⟩|⟨a1,_,a2,a3,a4⟩;(·rw[iR a1]at hi⊢;rw[j7 _ ⟨b0,a3⟩];exact h.kept _ hi ⟨b0,a3⟩);·rw[kD a1]at hi;omega);·rw[j7 i ⟨b0,kS⟩];exact h.kept i hi ⟨b0,kS⟩
end
end Go.Proofs.Ytbbmofoiipjbgaa
