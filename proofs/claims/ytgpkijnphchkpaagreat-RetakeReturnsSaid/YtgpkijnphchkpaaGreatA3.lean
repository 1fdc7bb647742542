/-
  What a callee leaves that was handed local blocks. Nothing here is trusted; no condition.
-/
import Derived.Test.YtgpkijnphchkpaaGreatA2
import Derived.Laws.Closers25b
import Derived.ChangeKeysEq
import Derived.Laws.BytesArg
import Derived.Lib.AppendZerosOnto
import Derived.MapKept
import Derived.Maps.RangeRun
set_option linter.unusedSimpArgs false
set_option linter.unusedVariables false
namespace Go.Proofs.YtgpkijnphchkpaaGreat
variable {dV:Prop} [jY dV]
open Go.RowKit
theorem gj(k:IntKind) {n:Int} (h:k.min≤n∧n≤k.max):k.wrap n=n:=by obtain⟨h1,h2⟩:=h;cases k<;>simp[IntKind.min,IntKind.max,IntKind.wrap,IntKind.bits,IntKind.signed]at* <;>omega
theorem jO(k:IntKind):k.min≤0:=by cases k<;>decide
theorem pW(k:IntKind):0≤k.max:=by cases k<;>decide
theorem mj(P:Program)(w:World)(op:BinOp)(t:Nat)(x y:Operand)(k l:IntKind)(m n:Int):(eqGuard op t x y (.int k m) (.int l n)).run P w= .ok () w:=by
 unfold eqGuard;simp only[Sem.run_ite];split<;>rfl
theorem GW(P:Program)(w:World)(op:BinOp)(t:Nat)(x y:Operand)(m n:ByteArray):(eqGuard op t x y (.string m) (.string n)).run P w= .ok () w:=by
 unfold eqGuard;simp only[Sem.run_ite];split<;>rfl
theorem tS(P:Program)(w:World)(op:BinOp)(t:Nat)(x y:Operand)(m n:Bool):(eqGuard op t x y (.bool m) (.bool n)).run P w= .ok () w:=by
 unfold eqGuard;simp only[Sem.run_ite];split<;>rfl
theorem max_lt(k:IntKind):k.max<2^k.bits:=by cases k<;>decide
theorem fW(k:IntKind) {x:Int} (h0:0≤x)(h1:x≤k.max):(BitVec.ofInt k.bits x).toNat=x.toNat:=by
 have h2:=max_lt k;rw[BitVec.toNat_ofInt];have h3:x%((2^k.bits:Nat):Int)=x:=Int.emod_eq_of_lt h0 (by push_cast;omega);rw[h3]
theorem Wc {E:Env} {c:Ctx} {op:BinOp} {k:IntKind} {x y:Int} {t:Nat} {w:World} {Kl:Out→Prop} (hx:k.min≤x∧x≤k.max)(hy:k.min≤y∧y≤k.max)(h:br E (pD op k x y) Kl): ∃p v,Kl (.val p)∧ag c p v∧(binOp op t (.int k x) (.int k y)).run E.P w= .ok v w:=by
 have hmn:=jO k;(have zM: ∀(r:Int),(∃v,(binOp op t (.int k x) (.int k y)).run E.P w= .ok v w∧v= .int k (k.wrap r))→br E (arith k r) Kl→ ∃p v,Kl (.val p)∧ag c p v∧(binOp op t (.int k x) (.int k y)).run E.P w= .ok v w:=by rintro r⟨v,hv,rfl⟩⟨hr,hK⟩;exact⟨_,_,hK,bW hr,by rw[hv,gj k hr]⟩)
 (have qW: ∀(b:Bool),(binOp op t (.int k x) (.int k y)).run E.P w= .ok (.bool b) w→br E (fM b) Kl→ ∃p v,Kl (.val p)∧ag c p v∧(binOp op t (.int k x) (.int k y)).run E.P w= .ok v w:=by intro b hb hK;exact⟨_,_,hK,bN,hb⟩)
 cases op<;>simp only[pD]at h;(case add=>exact zM _ ⟨_,by simp[binOp,Op.intArith],rfl⟩ h);(case sub=>exact zM _ ⟨_,by simp[binOp,Op.intArith],rfl⟩ h);(case mul=>exact zM _ ⟨_,by simp[binOp,Op.intArith],rfl⟩ h)
 (case quo=>obtain⟨⟨h0,h1⟩,hK⟩:=h;(have hq:k.min≤x/y∧x/y≤k.max:=by have e1:0≤x/y:=Int.ediv_nonneg h0 (by omega);have e2:x/y≤x:=Int.ediv_le_self _ h0;omega);refine⟨_,_,hK,bW hq,?_⟩;simp only[binOp,ne_eq,not_true_eq_false,if_false,Op.intDiv];rw[if_neg (by omega)];simp only[Sem.run_pure,Int.tdiv_eq_ediv_of_nonneg h0,gj k hq])
 (case rem=>obtain⟨⟨h0,h1⟩,hK⟩:=h;(have hq:k.min≤x%y∧x%y≤k.max:=by have e1:0≤x%y:=Int.emod_nonneg _ (by omega);have e2:x%y<y:=Int.emod_lt_of_pos _ h1;omega);refine⟨_,_,hK,bW hq,?_⟩;simp only[binOp,ne_eq,not_true_eq_false,if_false,Op.intDiv];rw[if_neg (by omega)];simp only[Sem.run_pure,Int.tmod_eq_emod_of_nonneg h0])
 (case and=>obtain⟨⟨h0,h1⟩,hK⟩:=h;have e1:x.toNat &&& y.toNat≤x.toNat:=Nat.and_le_left;(have hr:k.min≤((x.toNat &&& y.toNat:Nat):Int)∧((x.toNat &&& y.toNat:Nat):Int)≤k.max:=by omega);refine⟨_,_,hK,bW hr,?_⟩;simp only[binOp,ne_eq,not_true_eq_false,if_false,Op.intBits,Sem.run_pure,BitVec.toNat_and,fW k h0 hx.2,fW k h1 hy.2,gj k hr])
 (case or=>obtain⟨⟨h0,h1⟩,hK⟩:=h;(have hr:k.min≤((x.toNat ||| y.toNat:Nat):Int)∧((x.toNat ||| y.toNat:Nat):Int)≤k.max:=by refine⟨by omega,?_⟩;(have hp: ∃b:Nat,k.max=((2^b-1:Nat):Int):=by cases k;(·exact⟨7,by decide⟩);(·exact⟨15,by decide⟩);(·exact⟨31,by decide⟩);(·exact⟨63,by decide⟩);(·exact⟨8,by decide⟩);(·exact⟨16,by decide⟩);(·exact⟨32,by decide⟩);·exact⟨64,by decide⟩);obtain⟨b,hb⟩:=hp;have oY:0<2^b:=Nat.two_pow_pos b;have:x.toNat ||| y.toNat<2^b:=Nat.or_lt_two_pow (by omega) (by omega);omega);refine⟨_,_,hK,bW hr,?_⟩;simp only[binOp,ne_eq,not_true_eq_false,if_false,Op.intBits,Sem.run_pure,BitVec.toNat_or,fW k h0 hx.2,fW k h1 hy.2,gj k hr])
 (case andNot=>obtain⟨⟨h0,h1⟩,hK⟩:=h;have e1:x.toNat &&& (2^k.bits-1-y.toNat)≤x.toNat:=Nat.and_le_left;(have hr:k.min≤((x.toNat &&& (2^k.bits-1-y.toNat):Nat):Int)∧((x.toNat &&& (2^k.bits-1-y.toNat):Nat):Int)≤k.max:=by omega);refine⟨_,_,hK,bW hr,?_⟩;simp only[binOp,ne_eq,not_true_eq_false,if_false,Op.intBits,Sem.run_pure,BitVec.toNat_and,BitVec.toNat_not,fW k (by omega:0≤x) hx.2,fW k h1 hy.2,gj k hr])
 (case lss=>exact qW _ (by simp[binOp,Op.intCmp]) h);(case leq=>exact qW _ (by simp[binOp,Op.intCmp]) h);(case gtr=>exact qW _ (by simp[binOp,Op.intCmp]) h);(case geq=>exact qW _ (by simp[binOp,Op.intCmp]) h)
 (case eql=>refine qW _ ?_ h;simp only[binOp,ne_eq,not_true_eq_false,if_false,Op.intCmp,Sem.run_pure];rfl);(case neq=>refine qW _ ?_ h;simp only[binOp,ne_eq,not_true_eq_false,if_false,Op.intCmp,Sem.run_pure];rfl)
 all_goals exact h.elim
theorem NN {E:Env} {c:Ctx} {op:BinOp} {k l:IntKind} {x y:Int} {t:Nat} {w:World} {Kl:Out→Prop} (hx:k.min≤x∧x≤k.max)(h:br E (kW op k x y) Kl): ∃p v,Kl (.val p)∧ag c p v∧(binOp op t (.int k x) (.int l y)).run E.P w= .ok v w:=by
 have hmn:=jO k;cases op<;>simp only[kW]at h;(case shl=>obtain⟨⟨h0,h1⟩,hr,hK⟩:=h;refine⟨_,_,hK,bW hr,?_⟩;simp only[binOp,Op.shift];rw[if_neg (by omega)];(have e1:min y.toNat k.bits=y.toNat:=by omega);simp only[e1,Sem.run_pure,gj k hr])
 (case shr=>obtain⟨⟨hx0,h0,h1⟩,hK⟩:=h;have oY:(0:Int)<2^y.toNat:=Int.pow_pos (by omega);(have hq:k.min≤x/2^y.toNat∧x/2^y.toNat≤k.max:=by have e1:0≤x/2^y.toNat:=Int.ediv_nonneg hx0 (by omega);have e2:x/2^y.toNat≤x:=Int.ediv_le_self _ hx0;omega);refine⟨_,_,hK,bW hq,?_⟩;simp only[binOp,Op.shift];rw[if_neg (by omega)];(have e1:min y.toNat k.bits=y.toNat:=by omega);simp only[e1,Sem.run_pure];rw[Int.fdiv_eq_ediv_of_nonneg _ (by omega)])
 all_goals exact h.elim
theorem toList_mk(x:List UInt8):(⟨x.toArray⟩:ByteArray).toList=x:=by rw[ByteArray.toList_eq]
theorem Ey: ∀(x y:List UInt8),Op.bytesLess x y=bytesLess x y|_,[]=>(by simp[Op.bytesLess,bytesLess])|[],_::_=>(by simp[Op.bytesLess,bytesLess])|a::x,b::y=>by simp only[Op.bytesLess,bytesLess,Ey x y]
theorem Wd {E:Env} {c:Ctx} {op:BinOp} {x y:List UInt8} {t:Nat} {w:World} {Kl:Out→Prop} (h:br E (pE op x y) Kl): ∃p v,Kl (.val p)∧ag c p v∧(binOp op t (.string ⟨x.toArray⟩) (.string ⟨y.toArray⟩)).run E.P w= .ok v w:=by
 cases op<;>simp only[pE]at h;(case add=>obtain⟨hl,hK⟩:=h;refine⟨_,_,hK,pR (by rw[List.length_append];exact hl),?_⟩;(have e1:(⟨x.toArray⟩:ByteArray).size=x.length:=by simp[ByteArray.size]);(have e2:(⟨y.toArray⟩:ByteArray).size=y.length:=by simp[ByteArray.size]);(have e3:(⟨x.toArray⟩:ByteArray)++⟨y.toArray⟩=⟨(x++y).toArray⟩:=by apply ByteArray.ext;rw[ByteArray.data_append];simp);simp only[binOp,Op.stringOp,e1,e2,e3,Sem.run_ite];rw[if_neg (by simp[IntKind.max,IntKind.signed,IntKind.bits];omega)];rfl)
 (case eql=>refine⟨_,_,h,bN,?_⟩;(have e:(x==y)=decide (x=y):=by rw[Bool.eq_iff_iff];simp);simp only[binOp,Op.stringOp,toList_mk,Sem.run_pure,e]);(case neq=>refine⟨_,_,h,bN,?_⟩;(have e:(x==y)=decide (x=y):=by rw[Bool.eq_iff_iff];simp);simp only[binOp,Op.stringOp,toList_mk,Sem.run_pure,e])
 (case lss=>refine⟨_,_,h,bN,?_⟩;simp only[binOp,Op.stringOp,toList_mk,Sem.run_pure,Ey]);(case geq=>refine⟨_,_,h,bN,?_⟩;simp only[binOp,Op.stringOp,toList_mk,Sem.run_pure,Ey])
 all_goals exact h.elim
end Go.Proofs.YtgpkijnphchkpaaGreat
namespace Go.Proofs.YtgpkijnphchkpaaGreat
variable {dV:Prop} [jY dV]
open Go.RowKit
section
variable {E:Env}
def lq(E:Env)(t:Nat):Ty→Prop|.int _=>True|.bool=>True|.str=>True|.st _=>E.cmp t=true|_=>False
theorem vW(hE:aG E) {t:Nat} (h:E.cmp t=true):(∃R,E.ty t=some (.st R))∧E.P.eqGuardType E.P.depth t=false∧((∃fs,E.P.underlying t=some (.struct fs)∧jm E.ty E.cmp fs.toList=true∧E.P.stoodInHeld t=false)∨ ∃m e,E.P.underlying t=some (.array m e)∧tJ E.ty E.cmp e=true):=by
 have h1:=hE.cmp t h;simp only[LC,Bool.and_eq_true,Bool.not_eq_true']at h1;obtain⟨h1,h4⟩:=h1;split at h1;(·rename_i fs R hu hT;simp only[Bool.and_eq_true,Bool.not_eq_true']at h1;exact⟨⟨R,hT⟩,h4,.inl ⟨fs,hu,h1.1.1,h1.2⟩⟩)
 (·rename_i m e R hu hT;exact⟨⟨R,hT⟩,h4,.inr ⟨m,e,hu,h1⟩⟩);·cases h1
theorem NO(hE:aG E) {w:World} {M:Mem} {d:Nat} (ih: ∀(T:Ty)(t:Nat)(x y:T.den)(v u:Value)(r:Bool),cI E t T→lq E t T→dt T x w M v→dt T y w M u→kV T x y=some r→dep T≤d→(Op.equalIn (d+1) t v u).run E.P w= .ok r w): ∀(fs:List Field)(R:Ty)(off:Nat),bT E.ty fs R off=true→jm E.ty E.cmp fs=true→ ∀(x y:R.den)(r:Bool)(xs ys:Array Value),dep R≤d→off+R.cells≤xs.size→off+R.cells≤ys.size→aH R x w M ((xs.toList.drop off).take R.cells)→aH R y w M ((ys.toList.drop off).take R.cells)→kV R x y=some r→(Op.eqFields (d+1) xs ys fs).run E.P w= .ok r w:=by
 (have one: ∀(f:Field)(T:Ty)(off:Nat)(x y:T.den)(r:Bool)(xs ys:Array Value),Nat.beq f.offset off=true→pN E.ty f.type T=true→(match E.ty f.type with|some (.int _)=>true|some .bool=>true|some .str=>true|some (.st _)=>E.cmp f.type|_=>false)=true→dep T≤d→off+T.cells≤xs.size→off+T.cells≤ys.size→aH T x w M ((xs.toList.drop off).take T.cells)→aH T y w M ((ys.toList.drop off).take T.cells)→kV T x y=some r→ ∃v u,(Go.part f.type xs f.offset).run E.P w= .ok v w∧(Go.part f.type ys f.offset).run E.P w= .ok u w∧(Op.equalIn (d+1) f.type v u).run E.P w= .ok r w:=by intro f T off x y r xs ys h1 h2 hc hd hx hy vX JP hb;have mL:=Nat.eq_of_beq_eq_true h1;(have hT:E.ty f.type=some T:=by unfold pN at h2;split at h2;(·rename_i U hU;rw[Ty.dm h2]at hU;exact hU);·cases h2);have hf:=hE.facts hT;rw[hT]at hc;(have hk:lq E f.type T:=by cases T<;>first|trivial|exact hc|cases hc);(have Gg: ∀(z:T.den)(vs:List Value),aH T z w M vs→dt T z w M (valOf T vs):=by intro z vs hr;have:=ij hf.val hr;have hv:=hf.val;cases T<;>first|exact this|cases hv);exact⟨_,_,by rw[mL];exact jN hf hx,by rw[mL];exact jN hf hy,ih T f.type x y _ _ r hf hk (Gg x _ vX) (Gg y _ JP) hb hd⟩)
 intro fs;induction fs with|nil=>intro R off h;cases h|cons f fs ihf=>intro R off h hc x y r xs ys hd hx hy vX JP hb;simp only[jm,Bool.and_eq_true]at hc;cases fs with|nil=>simp only[bT,Bool.and_eq_true]at h;obtain⟨⟨⟨⟨h1,h2⟩,h3⟩,h4⟩,h5⟩:=h;obtain⟨v,u,e1,e2,e3⟩:=one f R off x y r xs ys h1 h2 hc.1 hd hx hy vX JP hb;(have hn:f.name≠ "_" :=by simpa using h5);simp only[Op.eqFields];rw[if_pos hn];simp only[Sem.run_bind,e1,e2,e3,Result.andThen_ok,Sem.run_ite];cases r<;>simp|cons g gs=>cases R with|pair a b=>have h':=h;simp only[bT,Bool.and_eq_true]at h;obtain⟨⟨⟨⟨⟨h1,h2⟩,h3⟩,h4⟩,h5⟩,h6⟩:=h;simp only[kV]at hb;split at hb;(·rename_i p q hp hq;simp only[Option.some.injEq]at hb;(have hda:dep a≤d:=by simp only[dep]at hd;omega);(have hdb:dep b≤d:=by simp only[dep]at hd;omega);simp only[Ty.cells]at hx hy vX JP;obtain⟨va,vb,hv,Jl,Py⟩:=vX;obtain⟨ua,ub,hu,hsa,hsb⟩:=JP;(have split: ∀(zs:Array Value)(za zb:List Value),za.length=a.cells→zb.length=b.cells→(zs.toList.drop off).take (a.cells+b.cells)=za++zb→(zs.toList.drop off).take a.cells=za∧(zs.toList.drop (off+a.cells)).take b.cells=zb:=by intro zs za zb ym hlb he;constructor;(·have:=congrArg (List.take a.cells) he;rw[List.take_take,Nat.min_eq_left (by omega),←ym,List.take_left]at this;rw[←ym];exact this);·have:=congrArg (List.drop a.cells) he;rw[List.drop_take,List.drop_drop,←ym,List.drop_left]at this;rw[←ym];rw[show za.length+b.cells-za.length=b.cells from by omega]at this;exact this);obtain⟨e1,e2⟩:=split xs va vb (bR _ _ _ _ _ Jl) (bR _ _ _ _ _ Py) hv;obtain⟨e3,e4⟩:=split ys ua ub (bR _ _ _ _ _ hsa) (bR _ _ _ _ _ hsb) hu;obtain⟨v,u,f1,f2,f3⟩:=one f a off x.1 y.1 p xs ys h1 h2 hc.1 hda (by omega) (by omega) (by rw[e1];exact Jl) (by rw[e3];exact hsa) hp;have rest:=ihf b (off+a.cells) (by unfold bT;exact h6) hc.2 x.2 y.2 q xs ys hdb (by omega) (by omega) (by rw[e2];exact Py) (by rw[e4];exact hsb) hq;(have hn:f.name≠ "_" :=by simpa using h5);rw[Op.eqFields];rw[if_pos hn];simp only[Sem.run_bind,f1,f2,f3,Result.andThen_ok,Sem.run_ite];subst hb;cases p;(·simp);·simpa using rest);(·cases hb)|_=>simp only[bT]at h;cases h
theorem Qw(hE:aG E) {w:World} {M:Mem} {d:Nat} {e:Nat} {V:Ty} (hV:E.ty e=some V)(hc:tJ E.ty E.cmp e=true)(hdV:dep V≤d)(ih: ∀(T:Ty)(t:Nat)(x y:T.den)(v u:Value)(r:Bool),cI E t T→lq E t T→dt T x w M v→dt T y w M u→kV T x y=some r→dep T≤d→(Op.equalIn (d+1) t v u).run E.P w= .ok r w): ∀(m k:Nat)(x y:(rowOf V (m+1)).den)(r:Bool)(xs ys:Array Value),(k+(m+1))*V.cells≤xs.size→(k+(m+1))*V.cells≤ys.size→aH (rowOf V (m+1)) x w M ((xs.toList.drop (k*V.cells)).take ((m+1)*V.cells))→aH (rowOf V (m+1)) y w M ((ys.toList.drop (k*V.cells)).take ((m+1)*V.cells))→kV (rowOf V (m+1)) x y=some r→(Op.eqItems (d+1) e V.cells xs ys (List.range' k (m+1))).run E.P w= .ok r w:=by
 have hf:=hE.facts hV;(have hk:lq E e V:=by unfold tJ at hc;rw[hV]at hc;cases V<;>first|trivial|exact hc|cases hc);(have Gg: ∀(z:V.den)(vs:List Value),aH V z w M vs→dt V z w M (valOf V vs):=by intro z vs hr;have:=ij hf.val hr;have hv:=hf.val;cases V<;>first|exact this|cases hv)
 (have one: ∀(k:Nat)(x y:V.den)(r:Bool)(xs ys:Array Value),(k+1)*V.cells≤xs.size→(k+1)*V.cells≤ys.size→aH V x w M ((xs.toList.drop (k*V.cells)).take V.cells)→aH V y w M ((ys.toList.drop (k*V.cells)).take V.cells)→kV V x y=some r→ ∃v u,(Go.part e xs (k*V.cells)).run E.P w= .ok v w∧(Go.part e ys (k*V.cells)).run E.P w= .ok u w∧(Op.equalIn (d+1) e v u).run E.P w= .ok r w:=by intro k x y r xs ys hx hy vX JP hb;rw[Nat.add_mul,Nat.one_mul]at hx hy;exact⟨_,_,jN hf hx,jN hf hy,ih V e x y _ _ r hf hk (Gg x _ vX) (Gg y _ JP) hb hdV⟩)
 intro m;induction m with|zero=>intro k x y r xs ys hx hy vX JP hb;simp only[Nat.zero_add,Nat.one_mul]at vX JP;obtain⟨v,u,e1,e2,e3⟩:=one k x y r xs ys hx hy vX JP hb;rw[List.range'_succ,List.range'_zero];simp only[Op.eqItems,Sem.run_bind,e1,e2,e3,Result.andThen_ok,Sem.run_ite];cases r<;>simp|succ m ihm=>intro k x y r xs ys hx hy vX JP hb;simp only[rowOf,kV]at hb;split at hb;(·rename_i p q hp hq;simp only[Option.some.injEq]at hb;obtain⟨va,vb,hv,Jl,Py⟩:=vX;obtain⟨ua,ub,hu,hsa,hsb⟩:=JP;have ym:=bR _ _ _ _ _ Jl;have hlb:=bR _ _ _ _ _ Py;have bp8:=bR _ _ _ _ _ hsa;have bA0:=bR _ _ _ _ _ hsb;(have split: ∀(zs:Array Value)(za zb:List Value),za.length=V.cells→(zs.toList.drop (k*V.cells)).take ((m+1+1)*V.cells)=za++zb→(zs.toList.drop (k*V.cells)).take V.cells=za∧(zs.toList.drop ((k+1)*V.cells)).take ((m+1)*V.cells)=zb:=by intro zs za zb ym he;have hle:V.cells≤(m+1+1)*V.cells:=Nat.le_mul_of_pos_left _ (by omega);constructor;(·have:=congrArg (List.take V.cells) he;rw[List.take_take,Nat.min_eq_left hle,←ym,List.take_left]at this;rw[←ym];exact this);·have:=congrArg (List.drop V.cells) he;rw[List.drop_take,List.drop_drop,←ym,List.drop_left,ym]at this;rw[show(m+1+1)*V.cells-V.cells=(m+1)*V.cells from by rw[Nat.add_mul (m+1) 1];omega,show k*V.cells+V.cells=(k+1)*V.cells from by rw[Nat.add_mul,Nat.one_mul]]at this;exact this);obtain⟨e1,e2⟩:=split xs va vb ym hv;obtain⟨e3,e4⟩:=split ys ua ub bp8 hu;have hmul:(k+1)*V.cells≤(k+(m+1+1))*V.cells:=Nat.mul_le_mul_right _ (by omega);obtain⟨v,u,f1,f2,f3⟩:=one k x.1 y.1 p xs ys (by omega) (by omega) (by rw[e1];exact Jl) (by rw[e3];exact hsa) hp;have rest:=ihm (k+1) x.2 y.2 q xs ys (by rw[show k+1+(m+1)=k+(m+1+1)from by omega];exact hx) (by rw[show k+1+(m+1)=k+(m+1+1)from by omega];exact hy) (by rw[e2];exact Py) (by rw[e4];exact hsb) hq;rw[List.range'_succ];simp only[Op.eqItems,Sem.run_bind,f1,f2,f3,Result.andThen_ok,Sem.run_ite];subst hb;cases p;(·simp);·simpa using rest);·cases hb
theorem Qx(hE:aG E) {w:World} {M:Mem} : ∀(d:Nat)(T:Ty)(t:Nat)(x y:T.den)(v u:Value)(r:Bool),cI E t T→lq E t T→dt T x w M v→dt T y w M u→kV T x y=some r→dep T≤d→(Op.equalIn (d+1) t v u).run E.P w= .ok r w:=by
 intro d;induction d with|zero=>intro T t x y v u r hf hk hv hu hb hd;(cases T with|int k=>obtain⟨hv,_⟩:=hv;injection hv with hv;subst hv;obtain⟨hu,_⟩:=hu;injection hu with hu;subst hu;obtain⟨dd,hu,hs⟩:=hf.rJ;(cases dd<;>first|cases hs|skip);rename_i k';simp only[kV,Option.some.injEq]at hb;subst hb;rw[run_equalIn_int _ _ _ _ _ _ _ hu];rfl|bool=>obtain⟨rfl⟩:=hv;obtain⟨rfl⟩:=hu;obtain⟨dd,hu,hs⟩:=hf.rJ;(have pf:dd= .bool:=by cases dd<;>first|rfl|cases hs);subst pf;simp only[kV,Option.some.injEq]at hb;subst hb;exact run_equalIn_bool' _ _ _ _ _ hu|str=>obtain⟨hv,_⟩:=hv;injection hv with hv;subst hv;obtain⟨hu,_⟩:=hu;injection hu with hu;subst hu;obtain⟨dd,hu,hs⟩:=hf.rJ;(have pf:dd= .string:=by cases dd<;>first|rfl|cases hs);subst pf;simp only[kV,Option.some.injEq]at hb;subst hb;rw[run_equalIn_string _ _ _ _ _ hu,toList_mk,toList_mk];(have e:(x==y)=decide (x=y):=by rw[Bool.eq_iff_iff];simp);rw[e]|st R=>simp only[dep]at hd;omega|_=>cases hk)|succ d ih=>intro T t x y v u r hf hk hv hu hb hd;cases T with|int k=>obtain⟨hv,_⟩:=hv;injection hv with hv;subst hv;obtain⟨hu,_⟩:=hu;injection hu with hu;subst hu;obtain⟨dd,hu,hs⟩:=hf.rJ;(cases dd<;>first|cases hs|skip);rename_i k';simp only[kV,Option.some.injEq]at hb;subst hb;rw[run_equalIn_int _ _ _ _ _ _ _ hu];rfl|bool=>obtain⟨rfl⟩:=hv;obtain⟨rfl⟩:=hu;obtain⟨dd,hu,hs⟩:=hf.rJ;(have pf:dd= .bool:=by cases dd<;>first|rfl|cases hs);subst pf;simp only[kV,Option.some.injEq]at hb;subst hb;exact run_equalIn_bool' _ _ _ _ _ hu|str=>obtain⟨hv,_⟩:=hv;injection hv with hv;subst hv;obtain⟨hu,_⟩:=hu;injection hu with hu;subst hu;obtain⟨dd,hu,hs⟩:=hf.rJ;(have pf:dd= .string:=by cases dd<;>first|rfl|cases hs);subst pf;simp only[kV,Option.some.injEq]at hb;subst hb;rw[run_equalIn_string _ _ _ _ _ hu,toList_mk,toList_mk];(have e:(x==y)=decide (x=y):=by rw[Bool.eq_iff_iff];simp);rw[e]|st R=>obtain⟨⟨R',hT'⟩,_,pX⟩:=vW hE hk;obtain⟨vs,rfl,Gg⟩:=hv;obtain⟨us,rfl,hru⟩:=hu;rcases pX with⟨fs,JQ,aB8,di⟩|⟨m,e,JQ,aB8⟩;(case inr=>rcases hf.agg hE with⟨fs,zN,_⟩|⟨m',e',V,zN,hV,rfl,hVv,hV1,hm⟩;(·rw[JQ]at zN;cases zN);·rw[JQ]at zN;injection zN with zN;injection zN with h1 h2;subst h1;subst h2;obtain⟨i,hi,de,_⟩:=(hE.facts hV).info;(have fb:E.P.cellsOf e=V.cells:=by simp[Program.cellsOf,hi,de]);rw[run_equalIn_array w (d+1) vs.toArray us.toArray JQ hi,fb,List.range_eq_range'];obtain⟨m,rfl⟩: ∃k,m=k+1:=⟨m-1,by omega⟩;(have hlen: ∀(V:Ty)(k:Nat),(rowOf V k).cells=k*V.cells:=by intro V k;induction k with|zero=>simp[rowOf,Ty.cells]|succ k ih=>cases k with|zero=>simp[rowOf]|succ k=>simp only[rowOf,Ty.cells,ih,Nat.add_mul];omega);(have We: ∀(V:Ty)(k:Nat),dep V≤dep (rowOf V (k+1)):=by intro V k;cases k with|zero=>exact Nat.le_refl _|succ k=>simp only[rowOf,dep];omega);have l1:=bR _ _ _ _ _ Gg;have l2:=bR _ _ _ _ _ hru;rw[hlen]at l1 l2;have BW:=We V m;simp only[dep]at hd;refine Qw hE hV aB8 (by omega) ih m 0 x y r vs.toArray us.toArray (by simp[l1]) (by simp[l2]) ?_ ?_ hb;(·simpa[List.take_of_length_le (Nat.le_of_eq l1)]using Gg);·simpa[List.take_of_length_le (Nat.le_of_eq l2)]using hru);(have VE:E.P.fieldsOf t=fs:=by simp[Program.fieldsOf,JQ]);(have dg:bT E.ty fs.toList R 0=true:=by obtain⟨dd,Pz,hs⟩:=hf.rJ;rw[JQ]at Pz;injection Pz with Pz;subst Pz;exact hs);rw[run_equalIn_struct w (d+1) t vs.toArray us.toArray (by rw[VE];exact JQ) di,VE];have l1:=bR _ _ _ _ _ Gg;have l2:=bR _ _ _ _ _ hru;refine NO hE ih fs.toList R 0 dg aB8 x y r vs.toArray us.toArray (by simp only[dep]at hd;omega) (by simp[l1]) (by simp[l2]) ?_ ?_ hb;(·simpa[List.take_of_length_le (Nat.le_of_eq l1)]using Gg);(·simpa[List.take_of_length_le (Nat.le_of_eq l2)]using hru)|_=>cases hk
theorem yn {P:Program} (w:World)(d:Nat) {t e:TypeId} (x:Option Addr)(hu:P.underlying t=some (.pointer e)):(Op.equalIn (d+1) t (.pointer x) (.pointer none)).run P w= .ok x.isNone w:=by
 unfold Op.equalIn;cases x<;>simp[run_underlying hu]
theorem Qy(hE:aG E) {n:Nat} {w0:World} {S0:Cx} {s:St} {a:Act} {w:World} {ν:Nat→Value} {S:Nat→Prop} {F:dF} (h:Full n w0 S0 s a w ν S) {t:Nat} {neg:Bool} {p q:PV} {v u:Value} {xo yo:Operand} {Kl:Out→Prop} (hp:ag h.c p v)(hq:ag h.c q u)(ab:br E (pF E F s.bl t neg p q) Kl): ∃r v',Kl (.val r)∧ag h.c r v'∧(do eqGuard (if neg then .neq else .eql) t xo yo v u;binOp (if neg then .neq else .eql) t v u:Go.Sem Value).run E.P w= .ok v' w:=by
 unfold pF at ab;split at ab;(·rename_i T hT;split at ab;(·rename_i r tn;unfold Ju at tn;split at tn;(case h_2=>cases tn);rename_i U;split at tn;(case h_2=>cases tn);obtain⟨dd,JR,hs⟩:=(hE.facts hT).rJ;(obtain⟨e,rfl⟩: ∃e,dd= .pointer e:=by cases dd<;>first|exact⟨_,rfl⟩|cases hs);simp only[ag]at hq;subst hq;(have fin: ∀(ad:Option Addr),v= .pointer ad→r=ad.isNone→ ∃r v',Kl (.val r)∧ag h.c r v'∧(do eqGuard (if neg then .neq else .eql) t xo yo v (.pointer none);binOp (if neg then .neq else .eql) t v (.pointer none):Go.Sem Value).run E.P w= .ok v' w:=by intro ad hv hr;subst hv;subst hr;have he:=yn (P:=E.P) w 9999 ad JR;refine⟨_,.bool (iF neg ad.isNone),ab,bN,?_⟩;cases neg<;>simp[eqGuard,binOp,Op.equal,Op.maxDepth,he,iF]);split at tn;(·simp only[ag]at hp;injection tn with tn;exact fin none hp tn.symm);(·simp only[ag,oV,dt,aH]at hp;obtain⟨_,g,ob,cs,hv,_⟩:=hp;simp only[List.cons.injEq,and_true]at hv;injection tn with tn;exact fin _ hv tn.symm);(·simp only[ag]at hp;obtain⟨_,g,ob,cs,hv,_⟩:=hp;injection tn with tn;exact fin _ hv tn.symm);(·simp only[ag]at hp;obtain⟨_,g,_,hv⟩:=hp;injection tn with tn;exact fin _ hv tn.symm);·cases tn);split at ab;(·rename_i x y hx hy Qz;split at ab;(·rename_i r hb;have hf:=hE.facts hT;have hR:Reads F s h.c ⟨fun b=>S b∨b<w.heap.size,aK w0 S0⟩:=⟨rfl,h.W.cA,fun b hb=>.inl hb,fun id _⟨b,hb⟩g hg=>.inr (h.iH hb hg).2.2⟩;have hv:=fB hR (.inl hf.own) hx hp;have hu:=fB hR (.inl hf.own) hy hq;cases T with|bool=>obtain⟨Ql⟩:=hv;obtain⟨tr⟩:=hu;obtain⟨dd,JR,hs⟩:=hf.rJ;(have pf:dd= .bool:=by cases dd<;>first|rfl|cases hs);subst pf;simp only[kV,Option.some.injEq]at hb;subst hb;have he:=run_equalIn_bool' (P:=E.P) w 9999 t x y JR;refine⟨_,_,ab,bN,?_⟩;cases neg;(·simp only[Bool.false_eq_true,if_false,Sem.run_bind,tS,Result.andThen_ok,binOp,Op.equal,Op.maxDepth,he,Sem.run_pure,iF]);(·simp only[if_true,Sem.run_bind,tS,Result.andThen_ok,binOp,Op.equal,Op.maxDepth,he,Sem.run_pure,iF])|st R=>simp only[P6,Bool.and_eq_true]at Qz;obtain⟨_,LL,_⟩:=vW hE Qz.1;have We:=Nat.le_of_ble_eq_true Qz.2;have he:(Op.equalIn 10000 t v u).run E.P w= .ok r w:=Qx hE 9999 (.st R) t x y v u r hf Qz.1 hv hu hb (by simp only[dep];omega);obtain⟨vs,rfl,_⟩:=hv;obtain⟨us,rfl,_⟩:=hu;refine⟨_,_,ab,bN,?_⟩;cases neg;(·simp only[Bool.false_eq_true,if_false,Sem.run_bind,run_eqGuard_agg (P:=E.P) w _ t xo yo _ _ LL,Result.andThen_ok,run_eql_struct,he,iF]);(·simp only[if_true,Sem.run_bind,run_eqGuard_agg (P:=E.P) w _ t xo yo _ _ LL,Result.andThen_ok,run_neq_struct,he,iF])|_=>cases Qz);·exact ab.elim);·exact ab.elim)
 ·exact ab.elim
end
end Go.Proofs.YtgpkijnphchkpaaGreat
namespace Go.Proofs.YtgpkijnphchkpaaGreat
variable {dV:Prop} [jY dV]
open Go.RowKit
section
variable {E:Env} {n:Nat} {w0:World} {S0:Cx} {s:St} {a:Act} {w:World} {ν:Nat→Value} {S:Nat→Prop} {F:dF} {o:Oper} {K:St→Prop} {Q:Exit→Act→World→Prop}
theorem tT {P:Program} (w:World)(d:Nat) {t e:TypeId} (aa:Option Addr)(m cap:Nat)(hu:P.underlying t=some (.slice e)):(Op.equalIn (d+1) t (.slice aa m cap) (.slice none 0 0)).run P w= .ok aa.isNone w:=by
 unfold Op.equalIn;cases aa<;>simp[run_underlying hu]
theorem QA(hE:aG E)(h:Full n w0 S0 s a w ν S)(ho:bJ n o=true) {op:BinOp} {t:Nat} {x y:Operand} {t2:Nat} (aJ:o.op= .binOp op t x y t2)(ab:br E (aj E F s o) (fun l=>K (s.fin o.dst l))):o.wp E.P a w (fun a' w'=> ∃s',K s'∧Rel n w0 S0 s' a' w') Q:=by
 simp only[aj,aJ]at ab;have hx:=h.ev (az ho (x:=x) (by simp[aJ,Op.operands]));have hy:=h.ev (az ho (x:=y) (by simp[aJ,Op.operands]));(have fin: ∀(p:PV)(v:Value),K (s.fin o.dst (.val p))→ag h.c p v→(do eqGuard op t x y (a.eval x) (a.eval y);binOp op t (a.eval x) (a.eval y):Go.Sem Value).run E.P w= .ok v w→o.wp E.P a w (fun a' w'=> ∃s',K s'∧Rel n w0 S0 s' a' w') Q:=by intro p v hK hp hr;refine h.val ho (v:=v) ?_ hp hK;simp only[execOp,aJ];rw[Sem.run_bind,hr];simp only[Result.andThen_ok,Sem.run_pure])
 (have a98: ∀(neg:Bool)(oo:Out),op=(if neg then .neq else .eql)→nO E F t neg (s.ev x) (s.ev y)=some oo→br E oo (fun l=>K (s.fin o.dst l))→o.wp E.P a w (fun a' w'=> ∃s',K s'∧Rel n w0 S0 s' a' w') Q:=by intro neg oo NP hn hK;unfold nO at hn;split at hn;(case h_3=>cases hn);(case h_2=>rename_i Ez;rw[Ez]at hy;simp only[ag]at hy;split at hn;(case h_2=>cases hn);rename_i A B hT;(obtain⟨kt,vt,hu⟩: ∃k v,E.P.underlying t=some (.map k v):=by obtain⟨d,hu,hs⟩:=(hE.facts hT).rJ;cases d with|map k v=>exact⟨k,v,hu⟩|_=>simp only[cU]at hs;cases hs);(have aU: ∀(m:Option Nat),a.eval x= .map m→(do eqGuard op t x y (a.eval x) (a.eval y);binOp op t (a.eval x) (a.eval y):Go.Sem Value).run E.P w= .ok (.bool (iF neg m.isNone)) w:=by intro m hv;rw[hv,hy,NP];(have he:(Op.equalIn 10000 t (.map m) (.map none)).run E.P w= .ok m.isNone w:=by unfold Op.equalIn;cases m<;>simp[run_underlying hu]);cases neg<;>simp[eqGuard,binOp,Op.equal,Op.maxDepth,he,iF]);split at hn;(·rename_i pV;injection hn with hn;subst hn;rw[pV]at hx;simp only[ag]at hx;obtain⟨_,_,r,hv⟩:=hx;exact fin _ _ hK bN (aU (some r) hv));(·rename_i pV;injection hn with hn;subst hn;rw[pV]at hx;simp only[ag]at hx;exact fin _ _ hK bN (aU none hx));·cases hn);rename_i Ez;rw[Ez]at hy;simp only[ag]at hy;split at hn;(case h_2=>cases hn);rename_i U hT;obtain⟨e,hu,_⟩:=(hE.facts hT).elem hE;(have aU: ∀(aa:Option Addr)(m cap:Nat),a.eval x= .slice aa m cap→(do eqGuard op t x y (a.eval x) (a.eval y);binOp op t (a.eval x) (a.eval y):Go.Sem Value).run E.P w= .ok (.bool (iF neg aa.isNone)) w:=by intro aa m cap hv;rw[hv,hy,NP];have he:=tT (P:=E.P) w 9999 aa m cap hu;cases neg<;>simp[eqGuard,binOp,Op.equal,Op.maxDepth,he,iF]);split at hn;(·rename_i V xs pV;injection hn with hn;subst hn;rw[pV]at hx;simp only[ag]at hx;obtain⟨_,aa,cap,hv,hle,rH,dy⟩:=hx;injection hv with hv;refine fin _ _ (hK (iF neg aa.isNone) (fun hb=>?_)) bN (aU _ _ _ hv);rcases dy with rfl|⟨g,ob,rfl,_⟩;(·rfl);·cases neg<;>simp[iF]at hb);(·rename_i pV;injection hn with hn;subst hn;rw[pV]at hx;simp only[ag]at hx;exact fin _ _ hK bN (aU none 0 0 hx));·cases hn)
 split at ab;(·rename_i oo hn;unfold pG at hn;split at hn;(·exact a98 false oo rfl hn ab);(·exact a98 true oo rfl hn ab);·cases hn);simp only[zg]at ab;split at ab
 (·rename_i k m l m' pV Ez;rw[pV]at hx;rw[Ez]at hy;obtain⟨Jq,vX⟩:=bf hx;obtain⟨PF,JP⟩:=bf hy;split at ab;(·obtain⟨p,v,hK,hp,hr⟩:=NN (c:=h.c) (l:=l) (t:=t) (w:=w) vX ab;refine fin p v hK hp ?_;simp only[Jq,PF,Sem.run_bind,mj,Result.andThen_ok,hr]);·split at ab;(·rename_i hk;have pc:=en hk;subst pc;split at ab;(·rename_i Gh;(have NP:op= .rem:=by simp only[Bool.and_eq_true]at Gh;cases op<;>first|rfl|exact absurd Gh.2 (by decide));subst NP;obtain⟨h0,hK⟩:=ab;change Int at m;change Int at m';have h0:(0:Int)<m':=h0;(have hq:k.min≤Int.tmod m m'∧Int.tmod m m'≤k.max:=by have hmn:=jO k;have hmx:=pW k;rcases Int.le_total 0 m with hm|hm;(·rw[Int.tmod_eq_emod_of_nonneg hm];have e1:0≤m%m':=Int.emod_nonneg _ (by omega);have e2:m%m'<m':=Int.emod_lt_of_pos _ h0;omega);·obtain⟨q,rfl⟩: ∃q,m= -q:=⟨-m,by omega⟩;rw[Int.neg_tmod,Int.tmod_eq_emod_of_nonneg (by omega)];have e1:0≤q%m':=Int.emod_nonneg _ (by omega);(have e2:q%m'≤q:=by rcases Int.lt_or_le q m' with h'|h';(·rw[Int.emod_eq_of_lt (by omega) h'];exact Int.le_refl _);·have:=Int.emod_lt_of_pos q h0;omega);omega);refine fin _ (.int k (Int.tmod m m')) hK (bW hq) ?_;simp only[Jq,PF,Sem.run_bind,mj,Result.andThen_ok,binOp,ne_eq,not_true_eq_false,if_false,Op.intDiv];rw[if_neg (by omega)];rfl);split at ab;(·rename_i Gh;(have NP:op= .quo:=by simp only[Bool.and_eq_true]at Gh;cases op<;>first|rfl|exact absurd Gh.2 (by decide));subst NP;obtain⟨h0,hK⟩:=ab;change Int at m;change Int at m';have h0:(0:Int)<m':=h0;(have hq:k.min≤Int.tdiv m m'∧Int.tdiv m m'≤k.max:=by have hmn:=jO k;have hmx:=pW k;rcases Int.le_total 0 m with hm|hm;(·rw[Int.tdiv_eq_ediv_of_nonneg hm];have e1:0≤m/m':=Int.ediv_nonneg hm (by omega);have e2:m/m'≤m:=Int.ediv_le_self m' hm;omega);·obtain⟨q,rfl⟩: ∃q,m= -q:=⟨-m,by omega⟩;rw[Int.neg_tdiv,Int.tdiv_eq_ediv_of_nonneg (by omega)];have e1:0≤q/m':=Int.ediv_nonneg (by omega) (by omega);have e2:q/m'≤q:=Int.ediv_le_self m' (by omega);omega);refine fin _ (.int k (Int.tdiv m m')) hK (bW hq) ?_;simp only[Jq,PF,Sem.run_bind,mj,Result.andThen_ok,binOp,ne_eq,not_true_eq_false,if_false,Op.intDiv];rw[if_neg (by omega),gj k hq];rfl);·obtain⟨p,v,hK,hp,hr⟩:=Wc (c:=h.c) (t:=t) (w:=w) vX JP ab;refine fin p v hK hp ?_;simp only[Jq,PF,Sem.run_bind,mj,Result.andThen_ok,hr]);·exact ab.elim)
 (·rename_i m m' pV Ez;rw[pV]at hx;rw[Ez]at hy;obtain⟨Jq,vX⟩:=ep hx;obtain⟨PF,JP⟩:=ep hy;obtain⟨p,v,hK,hp,hr⟩:=Wd (c:=h.c) (t:=t) (w:=w) ab;refine fin p v hK hp ?_;simp only[Jq,PF,Sem.run_bind,GW,Result.andThen_ok,hr])
 ·split at ab;(·obtain⟨r,v',hK,hr,aU⟩:=Qy hE h (neg:=false) (xo:=x) (yo:=y) hx hy ab;exact fin r v' hK hr aU);(·obtain⟨r,v',hK,hr,aU⟩:=Qy hE h (neg:=true) (xo:=x) (yo:=y) hx hy ab;exact fin r v' hK hr aU);·exact ab.elim
theorem Wf(h:Full n w0 S0 s a w ν S)(ho:bJ n o=true) {op:UnOp} {t:Nat} {x:Operand} (aJ:o.op= .unOp op t x)(ab:br E (aj E F s o) (fun l=>K (s.fin o.dst l))):o.wp E.P a w (fun a' w'=> ∃s',K s'∧Rel n w0 S0 s' a' w') Q:=by
 simp only[aj,aJ]at ab;have hx:=h.ev (az ho (x:=x) (by simp[aJ,Op.operands]));split at ab;(·rename_i b bQ;rw[bQ]at hx;have hv:=jK hx;refine h.val ho ?_ bN ab;simp[execOp,aJ,hv,Op.unary])
 (·rename_i k m bQ;rw[bQ]at hx;obtain⟨hv,_⟩:=bf hx;obtain⟨hr,hK⟩:=ab;refine h.val ho ?_ (bW hr) hK;simp only[execOp,aJ,hv,Op.unary,Op.intArith,Sem.run_bind,Sem.run_pure,Result.andThen_ok,gj k hr])
 (·rename_i k m bQ;rw[bQ]at hx;obtain⟨hv,_⟩:=bf hx;cases k<;>first|exact ab.elim|(obtain⟨hr,hK⟩:=ab;change Int at m;have hr:(0:Int)≤m∧m≤255:=hr;(have oQ:IntKind.u8.min≤(255-m:Int)∧(255-m:Int)≤IntKind.u8.max:=by show(0:Int)≤_∧_≤(255:Int);omega);refine h.val ho ?_ (bW oQ) hK;(have e1:(BitVec.ofInt 8 255 ^^^ BitVec.ofInt 8 m).toNat=(255-m).toNat:=by(have e2:BitVec.ofInt 8 255=BitVec.allOnes 8:=by decide);have e4:(BitVec.ofInt 8 m).toNat=m.toNat:=fW .u8 hr.1 hr.2;rw[e2,BitVec.allOnes_xor,BitVec.toNat_not,e4];omega);(have e3:(IntKind.u8.wrap ((BitVec.ofInt 8 255 ^^^ BitVec.ofInt 8 m).toNat:Int))=255-m:=by rw[e1,gj .u8 (by show(0:Int)≤_∧_≤(255:Int);omega)];omega);simp only[execOp,aJ,hv,Op.unary,Op.intBits,Sem.run_bind,Sem.run_pure,Result.andThen_ok];exact congrArg (fun z=>Result.ok (Next.value (Value.int .u8 z)) w) e3))
 ·exact ab.elim
theorem NQ {k l:IntKind} (h:widens k l=true) {x:Int} (hx:k.min≤x∧x≤k.max):l.min≤x∧x≤l.max:=by
 cases k<;>cases l<;>first|(simp[IntKind.min,IntKind.max,IntKind.signed,IntKind.bits]at*;omega)|cases h
theorem tU {w:World} {M:Mem} : ∀(xs:List Int)(vs:List Value),(∀i y,xs[i]?=some y→aH (.int .u8) y w M ((vs.drop i).take 1))→vs.length=xs.length→vs=xs.map (Value.int .u8)|[],vs,_,hl=>(by simpa using hl)|x::xs,[],_,hl=>(by simp at hl)|x::xs,v::vs,h,hl=>by obtain⟨h0,_⟩:=h 0 x rfl;simp at h0;subst h0;have:=tU xs vs (fun i y hy=>by simpa using h (i+1) y (by simpa using hy)) (by simpa using hl);rw[this];rfl
theorem Source.aw0 {T:Ty} {xs:List T.den} {w:World} {M:Mem} {a:Option Addr} {len cap:Nat} (h:aH (.sl T) xs w M [.slice a len cap]):len=xs.length∧ ∃news,Source w T.cells a xs.length news∧ ∀i y,xs[i]?=some y→aH T y w M ((news.drop (i*T.cells)).take T.cells):=by
 obtain⟨a',pL,hv,h1,h2,h3⟩:=h;injection hv with hv;injection hv with e1 e2 e3;subst e1;refine⟨e2,?_⟩;rcases h3 with rfl|⟨g,ob,rfl,hS,fw⟩;(·exact⟨[],⟨by simp,.inl rfl,by simp⟩,fun i y hy=>by simp at hy⟩)
 ·obtain⟨vs,hl,hc,qT,hr⟩:=qS xs fw;exact⟨vs,⟨hl,.inr ⟨_,rfl,fun j u hj=>by rw[eP];exact hc j u hj⟩,qT⟩,hr⟩
theorem Full.content(h:Full n w0 S0 s a w ν S) {T:Ty} {p:PV} {xs:List T.den} {v:Value} (rI:aR T=0)(hx:iD F s.bl T p=some xs)(hp:ag h.c p v): ∃aa c news,v= .slice aa xs.length c∧Source w T.cells aa xs.length news∧ ∀i y,xs[i]?=some y→aH T y w ⟨S,aK w0 S0⟩ ((news.drop (i*T.cells)).take T.cells):=by
 (have own: ∀(id:Nat)(U:Ty)(ys:List U.den)(te:Option Nat),look id s.bl=some (.arr U ys te)→ ∀aa len cap,ν id= .slice aa len cap→len=ys.length∧ ∃news,Source w U.cells aa ys.length news∧ ∀i y,ys[i]?=some y→aH U y w ⟨S,aK w0 S0⟩ ((news.drop (i*U.cells)).take U.cells):=by intro id U ys te hl aa len cap cJ;obtain⟨jJ,tF,u,hu,Qo,dy⟩:=h.W.cA _ _ hl;simp only[List.cons.injEq,and_true]at hu;rw[cJ]at hu;subst hu;rcases dy with⟨hn,rfl⟩|⟨g,ob,pL,cur,e,yl,hle,hcm,tH,hB,hh,rK,fw⟩;(·injection hn with e1 e2 e3;subst e1;subst e2;exact⟨rfl,[],⟨by simp,.inl rfl,by simp⟩,fun i y hy=>by simp at hy⟩);·injection yl with e1 e2 e3;subst e1;obtain⟨vs,JA,hc,qT,hr⟩:=qS ys fw;exact⟨e2,vs,⟨JA,.inr ⟨_,rfl,fun j u hj=>by rw[eP];exact hc j u hj⟩,qT⟩,hr⟩)
 cases p with|iv U y=>simp only[iD]at hx;obtain⟨e,hx⟩:=Ty.bA hx;subst e;simp only at hx;subst hx;simp only[ag]at hp;have dG:aH (.sl T) y w ⟨S,aK w0 S0⟩ [v]:=hp.2;obtain⟨aa,cap,hv,fT⟩:=dG;injection hv with hv;obtain⟨_,news,h1,h2⟩:=Source.aw0 (h:=(by rw[←hv];exact hp.2:aH (.sl T) y w ⟨S,aK w0 S0⟩ [.slice aa (List.length y) cap]));exact⟨aa,cap,news,hv,h1,h2⟩|aF id=>simp only[iD]at hx;split at hx;(·rename_i U ys te hl;obtain⟨hl,_⟩:=cE hl;obtain⟨e,hx⟩:=Ty.bA hx;injection e with e;subst e;simp only at hx;subst hx;simp only[ag]at hp;obtain⟨hd,cJ,aa,len,cap,hv⟩:=hp;simp only[Full.c]at cJ;obtain⟨hlen,news,h1,h2⟩:=own id _ _ _ hl aa len cap (by rw[←cJ,hv]);subst hlen;exact⟨aa,cap,news,hv,h1,h2⟩);(·cases hx)|jI id sz off len=>simp only[iD]at hx;split at hx;(·rename_i U ys te hl;obtain⟨hl,_⟩:=cE hl;split at hx;(case h_2=>cases hx);rename_i de;have de:=Nat.eq_of_beq_eq_true de;obtain⟨e,hx⟩:=Ty.bA hx;injection e with e;subst e;simp only at hx;subst hx;simp only[ag]at hp;obtain⟨hd,aa,m,cap,b,cJ,hn,rH,hv,hb⟩:=hp;obtain⟨hlen,news,h1,h2⟩:=own id _ _ _ hl aa m cap cJ;subst hlen;(have zL:((ys.drop off).take len).length=len:=by simp;omega);refine⟨b,cap-off,(news.drop (off*U.cells)).take (len*U.cells),by rw[zL];exact hv,⟨?_,?_,fun u hu=>h1.one u (List.mem_of_mem_drop (List.mem_of_mem_take hu))⟩,fun i y hy=>?_⟩;(·rw[zL,List.length_take,List.length_drop,h1.len];(have:off*U.cells+len*U.cells≤ys.length*U.cells:=by rw[←Nat.add_mul];exact Nat.mul_le_mul_right _ hn);omega);(·rw[zL];by_cases hz:len=0;(·exact .inl hz);·right;obtain⟨g,ob,ha,jl⟩:=hb (by omega);rcases h1.cells with h0|⟨ad,had,hc⟩;(·omega);·rw[ha]at had;injection had with had;subst had;refine⟨_,jl,fun j u hj=>?_⟩;(have ND:j<len*U.cells:=by rcases Nat.lt_or_ge j (len*U.cells)with h'|h';(·exact h');·rw[List.getElem?_eq_none (by rw[List.length_take];omega)]at hj;cases hj);rw[List.getElem?_take,if_pos ND,List.getElem?_drop]at hj;have:=hc _ u hj;rw[eP]at this⊢;rw[de,Nat.add_assoc];exact this);·(have hi:i<len:=by rcases Nat.lt_or_ge i len with h'|h';(·exact h');·rw[List.getElem?_eq_none (by omega)]at hy;cases hy);rw[List.getElem?_take,if_pos hi,List.getElem?_drop]at hy;have:=h2 _ y hy;rw[List.drop_take,List.drop_drop,List.take_take];(have e1:off*U.cells+i*U.cells=(off+i)*U.cells:=by rw[Nat.add_mul]);(have e2:U.cells≤len*U.cells-i*U.cells:=by have:(i+1)*U.cells≤len*U.cells:=Nat.mul_le_mul_right _ hi;rw[Nat.add_mul]at this;omega);rw[e1,Nat.min_eq_left e2];exact this);(·cases hx)|clip U y=>simp only[iD]at hx;obtain⟨e,hx⟩:=Ty.bA hx;injection e with e;subst e;simp only at hx;subst hx;simp only[ag]at hp;obtain⟨_,⟨aa,m,rfl⟩,dG⟩:=hp;obtain⟨hlen,news,h1,h2⟩:=Source.aw0 (h:=(dG:aH (.sl U) y w ⟨S,aK w0 S0⟩ [.slice aa m m]));subst hlen;exact⟨aa,_,news,rfl,h1,h2⟩|bI=>simp only[iD,Option.some.injEq]at hx;subst hx;simp only[ag]at hp;exact⟨none,0,[],hp,⟨by simp,.inl rfl,by simp⟩,fun i y hy=>by simp at hy⟩|_=>simp only[iD]at hx;cases hx
theorem JS(hE:aG E)(h:Full n w0 S0 s a w ν S)(ho:bJ n o=true) {t1 t:Nat} {x:Operand} (aJ:o.op= .convert t1 t x)(ab:br E (aj E F s o) (fun l=>K (s.fin o.dst l))):o.wp E.P a w (fun a' w'=> ∃s',K s'∧Rel n w0 S0 s' a' w') Q:=by
 simp only[aj,aJ,rO]at ab;have hx:=h.ev (az ho (x:=x) (by simp[aJ,Op.operands]));split at ab;(·rename_i k0 l hT1 hT;obtain⟨d1,Qi,QB⟩:=(hE.facts hT1).rJ;obtain⟨d2,JR,vE⟩:=(hE.facts hT).rJ;(have vD:d2= .int l:=by(cases d2<;>first|cases vE|skip);rename_i k';rw[en vE]);subst vD;split at ab;(·rename_i k m bQ;rw[bQ]at hx;obtain⟨hv,hr⟩:=bf hx;(have aU:(execOp a.eval o).run E.P w= .ok (.value (.int l (l.wrap m))) w:=by simp[execOp,aJ,hv,convert,run_underlying Qi,run_underlying JR,Conv.intToInt]);split at ab;(·rename_i hw;have jX:=NQ hw hr;rw[gj l jX]at aU;exact h.val ho aU (bW jX) ab);·exact h.val ho aU (bW (wrap_within l m)) ab);·exact ab.elim)
 (·rename_i hT1 hT;obtain⟨d1,Qi,QB⟩:=(hE.facts hT1).rJ;obtain⟨d2,JR,vE⟩:=(hE.facts hT).rJ;(have vD:d2= .string:=by cases d2<;>first|rfl|cases vE);subst vD;(have BW:d1= .string:=by cases d1<;>first|rfl|cases QB);subst BW;split at ab;(·rename_i y bQ;rw[bQ]at hx;obtain⟨hv,hr⟩:=ep hx;refine h.val ho ?_ (pR hr) ab;simp[execOp,aJ,hv,convert,run_underlying Qi,run_underlying JR]);·exact ab.elim)
 (·rename_i k hT1 hT;split at ab;(·rename_i xs hk Ge;have hk:=en hk;subst hk;obtain⟨e,Qi,he,pQ,_⟩:=(hE.facts hT1).elem hE;obtain⟨d2,JR,vE⟩:=(hE.facts hT).rJ;(have vD:d2= .string:=by cases d2<;>first|rfl|cases vE);subst vD;obtain⟨d3,hu3,Wg⟩:=pQ.rJ;(have hd3:d3= .int .u8:=by(cases d3<;>first|cases Wg|skip);rename_i k';rw[en Wg]);subst hd3;obtain⟨aa,c,news,hv,lr,dG⟩:=h.content (T:=.int .u8) rfl Ge hx;have a99:=tU (M:=⟨S,aK w0 S0⟩) (w:=w) xs news (fun i y hy=>by simpa[Ty.cells]using dG i y hy) (by simpa[Ty.cells]using lr.len);(have zL:xs.length≤9223372036854775807:=by have hR:Reads F s h.c ⟨fun b=>S b∨b<w.heap.size,aK w0 S0⟩:=⟨rfl,h.W.cA,fun b hb=>.inl hb,fun id _⟨b,hb⟩g hg=>.inr (h.iH hb hg).2.2⟩;exact(gQ _ _ _ _ _ (Gv hR Ge hx)).1);refine h.val ho (v:=.string ⟨(xs.map fun n:Int=>UInt8.ofNat n.toNat).toArray⟩) ?_ (pR (by simpa using zL)) ab;(have ba0:(convert t1 t (a.eval x)).run E.P w= .ok (.string ⟨(xs.map fun n:Int=>UInt8.ofNat n.toNat).toArray⟩) w:=by rw[hv];rcases lr.cells with h0|⟨ad,rfl,hc⟩;(·have hxe:xs=[]:=List.eq_nil_of_length_eq_zero h0;subst hxe;cases aa with|none=>exact run_convert_bytes_nil w t1 e Qi hu3 _ _ t JR|some ad=>rw[run_convert_bytes_string w t1 t e _ _ _ Qi hu3 JR];simp[Conv.bytesToString,loadCells,loadCellsFrom];rfl);·rw[run_convert_bytes_string w t1 t e _ _ _ Qi hu3 JR];have hl:=run_loadCells_list (P:=E.P) w ad news hc;rw[a99,List.length_map]at hl;rw[run_bytesToString w ad xs.length c xs hl,foldl_push_bytes];simp[ByteArray.empty,ByteArray.emptyWithCapacity];rfl);simp only[execOp,aJ,Sem.run_bind,ba0,Result.andThen_ok,Sem.run_pure]);·exact ab.elim)
 ·exact ab.elim
theorem pY {w:World} {M:Mem} : ∀(T:Ty)(vs:List Value),T.Lu=true→dH T=some vs→aH T (dA T) w M vs:=by
 intro T;induction T with|unit=>intro vs _ h;simp only[dH,Option.some.injEq]at h;subst h;rfl|int k=>intro vs _ h;simp only[dH,Option.some.injEq]at h;subst h;exact⟨rfl,jO k,pW k⟩|bool=>intro vs _ h;simp only[dH,Option.some.injEq]at h;subst h;rfl|str=>intro vs _ h;simp only[dH,Option.some.injEq]at h;subst h;exact⟨rfl,by simp[dA]⟩|sl t=>intro vs _ h;simp only[dH,Option.some.injEq]at h;subst h;exact⟨none,0,rfl,Nat.le_refl _,by omega,.inl rfl⟩|own t=>intro vs hz h;cases hz|bq a b=>intro vs hz h;cases hz|ptr t=>intro vs hz h;cases hz|eY f t=>intro vs hz h;cases hz|mp a b=>intro vs _ h;simp only[dH,Option.some.injEq]at h;subst h;exact⟨by simp[dA],.inl ⟨rfl,rfl⟩⟩|aD=>intro vs hz h;cases hz|st t ih=>intro vs hz h;exact ih vs hz h|pair a b iG gP=>intro vs hz h;simp only[Ty.Lu,Bool.and_eq_true]at hz;simp only[dH]at h;split at h;(·rename_i x y hx hy;simp only[Option.some.injEq]at h;subst h;exact⟨x,y,rfl,iG x hz.1 hx,gP y hz.2 hy⟩);·cases h
theorem Ci (z : Array Value) (n i : Nat) (hi : i < n) : ((Builtin.zeroCells z n).toList.drop (i * z.size)).take z.size = z.toList := by
  apply List.ext_getElem?
  intro j
  rw [List.getElem?_take]
  by_cases hj : j < z.size
  · rw [if_pos hj, List.getElem?_drop]
    have dh : i * z.size + j < n * z.size := by
      calc i * z.size + j < i * z.size + z.size := by omega
        _ = (i + 1) * z.size := by rw [Nat.add_mul]; omega
        _ ≤ n * z.size := Nat.mul_le_mul_right _ hi
    have aB9 : (i * z.size + j) % z.size = j := by
      rw [Nat.add_comm, Nat.add_mul_mod_self_right, Nat.mod_eq_of_lt hj]
    simp only [Builtin.zeroCells, Array.getElem?_toList, Array.getElem?_map]
    rw [Array.getElem?_eq_getElem (by simpa using dh)]
    simp only [Option.map_some, Array.getElem_range, aB9]
    rw [getElem!_pos z j hj, Array.getElem?_eq_getElem hj]
  · rw [if_neg hj, List.getElem?_eq_none (by rw [Array.length_toList]; omega)]
theorem JT {te el:Option Nat} {w:World} {v u:Value} (h:gz te w v)(hv:u=v) {t':Nat} (hk:Lw te el=some t'):gz (some t') w u∧el=some t':=by
 unfold Lw at hk;split at hk;(·rename_i a b;split at hk;(·rename_i oR;injection hk with hk;subst hk;rw[hv];exact⟨h,by rw[Nat.eq_of_beq_eq_true oR]⟩);·cases hk);·cases hk
theorem NR (hE : aG E) (h : Full n w0 S0 s a w ν S) (ho : bJ n o = true) {c : Call} (aJ : o.op = .call c) (lu : c.callee = .builtin .append) (ab : br E (aj E F s o) (fun l => K (s.fin o.dst l))) : o.wp E.P a w (fun a' w' => ∃ s', K s' ∧ Rel n w0 S0 s' a' w') Q := by
  obtain ⟨callee, args, argTypes⟩ := c
  simp only at lu
  subst lu
  simp only [aj, aJ] at ab
  split at ab
  · rename_i t u p q d jJ bQ hd
    split at ab
    · rename_i T hT
      obtain ⟨xo, yo, kB⟩ : ∃ xo yo, args = #[xo, yo] := by
        have hl : args.toList.length = 2 := by have := congrArg List.length bQ; rw [tN, List.length_map] at this; simpa using this
        match hh : args.toList, hl with
        | [xo, yo], _ => exact ⟨xo, yo, Array.toList_inj.1 (by rw [hh])⟩
      subst kB
      simp only [cz, List.cons.injEq, and_true] at bQ
      obtain ⟨hp, hq⟩ := bQ
      have Ch : argTypes = #[t, u] := Array.toList_inj.1 (by rw [jJ])
      subst Ch
      have hx := h.ev (az ho (x := xo) (by simp [aJ, Op.operands, Call.operands]))
      have hy := h.ev (az ho (x := yo) (by simp [aJ, Op.operands, Call.operands]))
      rw [hp] at hx
      rw [hq] at hy
      obtain ⟨e, hu, he, pQ, oX, oY⟩ := (hE.facts hT).elem hE
      have rI := pQ.own
      have aU : ∀ v' w', (Builtin.append_ #[t, u] o.type #[a.eval xo, a.eval yo]).run E.P w = .ok v' w' → (execOp a.eval o).run E.P w = .ok (.value v') w' := by
        intro v' w' hr
        simp [execOp, aJ, resolve, invoke, builtin, hr]
      -- the source
      have src : ∀ ys, mI E F s.bl T t u q = some ys → ∃ news, Src E.P T.cells u (a.eval yo) ys.length news w ∧ ∀ i y, ys[i]? = some y → aH T y w ⟨S, aK w0 S0⟩ ((news.drop (i * T.cells)).take T.cells) := by
        intro ys pe
        simp only [mI] at pe
        split at pe
        · rename_i htu
          have htu := Nat.eq_of_beq_eq_true htu
          subst htu
          obtain ⟨aa, c, news, hv, h1, h2⟩ := h.content rI pe hy
          exact ⟨news, by rw [hv]; exact h1.src hu c, h2⟩
        · split at pe
          · rename_i hU
            split at pe
            · split at pe
              · rename_i k hk z hkk
                have hkk := en hkk
                subst hkk
                simp only [Option.some.injEq] at pe
                subst pe
                obtain ⟨hv, hl⟩ := ep hy
                obtain ⟨dd, Wh, Gf⟩ := (hE.facts hU).rJ
                have pf : dd = .string := by cases dd <;> first | rfl | cases Gf
                subst pf
                have hs := Src.ofString (w := w) Wh (⟨z.toArray⟩ : ByteArray)
                have de : (⟨z.toArray⟩ : ByteArray).size = z.length := by simp [ByteArray.size]
                have hbc : byteCells ⟨z.toArray⟩ = z.map fun c => Value.int .u8 (c.toNat : Int) := by simp [byteCells]
                rw [de, hbc] at hs
                refine ⟨_, by rw [hv, List.length_map]; exact hs, fun i y hy => ?_⟩
                rw [List.getElem?_map] at hy
                cases hz : z[i]? with
                | none => rw [hz] at hy; cases hy
                | some c =>
                  rw [hz] at hy
                  simp only [Option.map_some, Option.some.injEq] at hy
                  subst hy
                  have hi : i < z.length := (List.getElem?_eq_some_iff.1 hz).1
                  have hd : ((z.map fun c => Value.int .u8 (c.toNat : Int)).drop i).take 1 = [Value.int .u8 (c.toNat : Int)] := by
                    rw [List.drop_eq_getElem_cons (by rw [List.length_map]; exact hi)]
                    simp only [List.getElem_map, List.take_succ_cons, List.take_zero]
                    rw [(List.getElem?_eq_some_iff.1 hz).2]
                  simp only [Ty.cells, Nat.mul_one]
                  rw [hd]
                  have := UInt8.toNat_lt c
                  exact ⟨rfl, by show (0 : Int) ≤ _; omega, by show (_ : Int) ≤ 255; omega⟩
              · cases pe
            · cases pe
          · cases pe
      -- onto a local array, of which a part may be taken
      have ba1 : ∀ (id j : Nat) (xs ys : List T.den) (v : Value) (zs : List T.den) (te tf : Option Nat), look id s.bl = some (.arr T zs te) → (∀ t', tf = some t' → gz (some t') w v ∧ E.Ef t = some t') → j < P0 → (j = id ∨ look j s.bl = none) → mI E F s.bl T t u q = some ys → a.eval xo = v → aH (.own T) xs w ⟨S, aK w0 S0⟩ [v] → (∀ g, aE v = some g → aE (ν id) = some g) → xs.length + ys.length ≤ 274877906944 → K (s.fin o.dst (.append id j (.arr T (xs ++ ys) tf))) →
          o.wp E.P a w (fun a' w' => ∃ s', K s' ∧ Rel n w0 S0 s' a' w') Q := by
        intro id j xs ys v zs te tf hl htf hj NC pe hv mM Cj hlen hK
        obtain ⟨news, lr, dG⟩ := src ys pe
        obtain ⟨v', w', hr, tV, sq, Wi, vF, hel⟩ := lg hE (ty := o.type) hT rI mM h.W.lt h.W.size lr dG hlen
        refine cY (aU v' w' (by rw [hv]; exact hr)) ⟨_, hK, ?_⟩
        simp only [St.fin, hd]
        have bp9 : eN w w' (aE (ν id)) := by
          refine ⟨sq.os, sq.tape, sq.output, sq.size, fun k hk bY => sq.block k hk (fun e => bY (by rw [Cj k e.symm])), sq.drawn⟩
        refine (h.app (v' := v') (bp ho d hd) hl hj NC bp9 Wi (fun g hg => ?_) (b' := .arr T (xs ++ ys) tf) (fun D => ⟨?_, rI, by simpa using tV⟩)).rel
        rotate_left
        · cases bq0 : tf with
          | none => exact da _ _
          | some t' =>
            obtain ⟨g1, g2⟩ := htf t' bq0
            exact (hel t' (hE.Ef t t' g2) g1).mV (by simp) fun _ _ => rfl
        rcases vF g hg with hf | hf
        · exact .inl (Cj g hf)
        · exact .inr hf
      -- whichever name it has
      have aw1 : ∀ (id : Nat) (xs ys : List T.den) (v : Value) (zs : List T.den) (r : Prop) (te tf : Option Nat), look id s.bl = some (.arr T zs te) → (∀ t', tf = some t' → gz (some t') w v ∧ E.Ef t = some t') → mI E F s.bl T t u q = some ys → a.eval xo = v → aH (.own T) xs w ⟨S, aK w0 S0⟩ [v] → (∀ g, aE v = some g → aE (ν id) = some g) → (r → xs.length + ys.length ≤ 274877906944) →
          br E (match Nat.ble P0 id with | false => .cv r (.append id id (.arr T (xs ++ ys) tf)) | true => match look d s.bl with | none => .cv r (.append id d (.arr T (xs ++ ys) tf)) | some _ => .fail 70) (fun l => K (s.fin o.dst l)) →
          o.wp E.P a w (fun a' w' => ∃ s', K s' ∧ Rel n w0 S0 s' a' w') Q := by
        intro id xs ys v zs r te tf hl htf pe hv mM Cj hlen hK
        split at hK
        · rename_i hb
          have hj : id < P0 := by
            rcases Nat.lt_or_ge id P0 with h' | h'
            · exact h'
            · rw [Nat.ble_eq_true_of_le h'] at hb; cases hb
          exact ba1 id id xs ys v zs te tf hl htf hj (.inl rfl) pe hv mM Cj (hlen hK.1) hK.2
        · split at hK
          · rename_i hn
            have hj : d < P0 := Nat.lt_of_lt_of_le (bp ho d hd) (Nat.le_trans h.sj (by decide))
            exact ba1 id d xs ys v zs te tf hl htf hj (.inr hn) pe hv mM Cj (hlen hK.1) hK.2
          · exact hK.elim
      -- onto a part without room: a new array
      have ba2 : ∀ (id : Nat) (r : Prop) (ys : List T.den) (b : Option Addr) (zs : List T.den) (te : Option Nat), look id s.bl = some (.arr T zs te) → mI E F s.bl T t u q = some ys → a.eval xo = .slice b 0 0 → ys ≠ [] → ys.length ≤ 274877906944 →
          br E (match Nat.ble P0 id with | false => .cv r (.append id id (.arr T ys)) | true => match look d s.bl with | none => .cv r (.append id d (.arr T ys)) | some _ => .fail 70) (fun l => K (s.fin o.dst l)) →
          o.wp E.P a w (fun a' w' => ∃ s', K s' ∧ Rel n w0 S0 s' a' w') Q := by
        intro id r ys b zs te hl pe hv bY hlen hK
        obtain ⟨news, lr, dG⟩ := src ys pe
        obtain ⟨v', w', hr, tV, sq, Wi, vF⟩ := ki hE (ty := o.type) hT rI (xs := []) (a := b) (m := 0) ⟨b, 0, rfl, Nat.le_refl _, by omega, .inl rfl⟩ h.W.lt h.W.size lr dG bY (by simpa using hlen)
        have fin : ∀ j, j < P0 → (j = id ∨ look j s.bl = none) → K (s.fin o.dst (.append id j (.arr T ys))) → o.wp E.P a w (fun a' w' => ∃ s', K s' ∧ Rel n w0 S0 s' a' w') Q := by
          intro j hj NC hK
          refine cY (aU v' w' (by rw [hv]; exact hr)) ⟨_, hK, ?_⟩
          simp only [St.fin, hd]
          exact (h.app (v' := v') (bp ho d hd) hl hj NC ⟨sq.os, sq.tape, sq.output, sq.size, fun k hk _ => sq.block k hk (by simp), sq.drawn⟩ Wi (fun g hg => .inr (vF g hg)) (b' := .arr T ys) (fun D => ⟨da _ _, rI, by simpa using tV⟩)).rel
        split at hK
        · rename_i hb
          have hj : id < P0 := by
            rcases Nat.lt_or_ge id P0 with h' | h'
            · exact h'
            · rw [Nat.ble_eq_true_of_le h'] at hb; cases hb
          exact fin id hj (.inl rfl) hK.2
        · split at hK
          · rename_i hn
            have hj : d < P0 := Nat.lt_of_lt_of_le (bp ho d hd) (Nat.le_trans h.sj (by decide))
            exact fin d hj (.inr hn) hK.2
          · exact hK.elim
      split at ab
      · rename_i hint
        split at ab
        · rename_i k m zc tW VF hl
          obtain ⟨⟨h0, h1⟩, hK⟩ := ab
          change Int at m
          have h0 : (0 : Int) < m := h0
          have h1 : m ≤ (1073741824 : Int) := h1
          obtain ⟨kn, hun⟩ : ∃ kn, E.P.underlying u = some (.int kn) := by
            cases hU : E.ty u with
            | none => rw [hU] at hint; cases hint
            | some U =>
              rw [hU] at hint
              cases U with
              | int kn =>
                obtain ⟨dd, Wh, Gf⟩ := (hE.facts hU).rJ
                cases dd <;> first | exact ⟨_, Wh⟩ | cases Gf
              | _ => cases hint
          obtain ⟨PF, _⟩ := bf hy
          simp only [ag] at hx
          obtain ⟨i, hi, de, hby, GG, z, hz, Jn⟩ := pQ.info
          obtain ⟨zv, JE, _, _⟩ := pS (c := h.c) T zc VF
          rw [hz] at GG
          have EA := lj GG JE
          have hm : m = ((m.toNat : Nat) : Int) := by omega
          have hb : m.toNat * i.bytes ≤ 140737488355328 := by
            calc m.toNat * i.bytes ≤ 274877906944 * 512 := Nat.mul_le_mul (by omega) hby
              _ = 140737488355328 := by decide
          have QC := _root_.Go.Lib.run_append_grow_zeros (P := E.P) w t u o.type e i z k kn hu hun hi hz none 0 0 [] (run_firstCells_none _ _ _ _ _) m.toNat (by omega) (by rw [de]; omega) (by omega) (by omega) (by omega) (growslice_fits (by omega) (by simpa using hb))
          simp only [Nat.zero_add] at QC
          rw [← hm] at QC
          have hrz := pY (w := w) (M := ⟨S, aK w0 S0⟩) T zv tW JE
          have hg := vQ (E := E) (e := e) (w := w) (M := ⟨S, aK w0 S0⟩) (zs := List.replicate m.toNat (dA T)) Jn rI h.W.lt h.W.size (by rw [List.length_replicate]; omega) (Builtin.zeroCells z.cells m.toNat).toList (by rw [List.length_replicate, Array.length_toList, LG, Jn]) (fun i y hy => by
            rw [List.getElem?_replicate] at hy
            split at hy
            · rename_i hj
              simp only [Option.some.injEq] at hy
              subst hy
              rw [← Jn, Ci _ _ _ hj, EA]
              exact hrz
            · cases hy) 0
          simp only [List.length_replicate] at hg
          refine cY (aU _ _ (by rw [hx, PF]; exact QC)) ⟨_, hK, ?_⟩
          simp only [St.fin, hd]
          refine h.vS (bp ho d hd) hl rI ⟨rfl, rfl, rfl, by simp, fun k hk _ => Below.heap_alloc w.drew _ k hk, fun _ => Nat.le_succ _⟩ ⟨_, _, _, rfl⟩ (fun g hg => by injection hg with hg; simp at hg; omega) ?_ (da _ _)
          have LM : (([] : List Value).toArray ++ Builtin.zeroCells z.cells m.toNat) = (Builtin.zeroCells z.cells m.toNat).toList.toArray := by simp
          rw [LM]
          exact hg
        · exact ab.elim
      split at ab
      · unfold bC at ab
        split at ab
        · rename_i ys U zs pe hl
          split at ab
          · rename_i xs lp
            obtain ⟨e', mY⟩ := Ty.bA lp
            injection e' with e'
            subst e'
            simp only at mY
            subst mY
            simp only [ag] at hx
            obtain ⟨_, ⟨aa, m, hv⟩, GX⟩ := hx
            obtain ⟨news, lr, dG⟩ := src ys pe
            obtain ⟨⟨bY, hlen⟩, hK⟩ := ab
            rw [hv] at GX
            obtain ⟨v', w', hr, tV, sq, Wi, vF⟩ := ki hE (ty := o.type) hT rI GX h.W.lt h.W.size lr dG bY hlen
            refine cY (aU v' w' (by rw [hv]; exact hr)) ⟨_, hK, ?_⟩
            simp only [St.fin, hd]
            exact h.vS (bp ho d hd) hl rI sq Wi vF tV (da _ _)
          · exact ab.elim
        · exact ab.elim
      cases eQ : nP F s.bl T d p (mI E F s.bl T t u q) (E.Ef t) with
      | cv r ba3 =>
        rw [eQ] at ab
        simp only [nP] at eQ
        split at eQ
        case h_2 => cases eQ
        rename_i ys pe
        split at eQ
        · injection eQ with e1 e2
          subst e1; subst e2
          simp only at ab
          split at ab
          · rename_i hl
            obtain ⟨hlen, hK⟩ := ab
            simp only [ag] at hx
            obtain ⟨news, lr, dG⟩ := src ys pe
            have mM : aH (.own T) ([] : List T.den) w ⟨S, aK w0 S0⟩ [.slice none 0 0] := ⟨_, rfl, by simp, .inl ⟨rfl, rfl⟩⟩
            obtain ⟨v', w', hr, tV, sq, Wi, vF, hel⟩ := lg hE (ty := o.type) hT rI mM h.W.lt h.W.size lr dG (by simpa using hlen)
            refine cY (aU v' w' (by rw [hx]; exact hr)) ⟨_, hK, ?_⟩
            simp only [St.fin, hd]
            exact h.vS (bp ho d hd) hl rI sq Wi (fun g hg => by rcases vF g hg with hf | hf; cases hf; exact hf) (by simpa using tV) (by
              cases hem : E.Ef t with
              | none => exact da _ _
              | some t' => exact hel t' (hE.Ef t t' hem) (fun t2 _ g hg => by cases hg))
          · exact ab.elim
        · split at eQ <;> cases eQ
        · rename_i id
          split at eQ
          · rename_i U zs te hl
            obtain ⟨hl, _⟩ := cE hl
            split at eQ
            · rename_i xs lp
              obtain ⟨e', mY⟩ := Ty.bA lp
              injection e' with e'
              subst e'
              simp only at mY
              subst mY
              injection eQ with e1 e2
              subst e1; subst e2
              simp only [ag] at hx
              obtain ⟨jJ, _, hb⟩ := h.W.cA _ _ hl
              have cJ : a.eval xo = ν id := hx.2.1
              exact aw1 id _ ys _ _ _ _ _ hl (fun t' NF => JT jJ rfl NF) pe cJ hb (fun g hg => hg) (fun h => h) ab
            · cases eQ
          · cases eQ
        · rename_i id sz off len
          split at eQ
          · rename_i U zs te hl
            obtain ⟨hl, _⟩ := cE hl
            split at eQ
            · rename_i xs lp de
              have de := Nat.eq_of_beq_eq_true de
              obtain ⟨e', mY⟩ := Ty.bA lp
              injection e' with e'
              subst e'
              simp only at mY
              subst mY
              injection eQ with e1 e2
              subst e1; subst e2
              simp only [ag] at hx
              obtain ⟨pf, aa, m, cap, b, cJ, hn, rH, hv, hb⟩ := hx
              obtain ⟨jJ, tF, u, tr, Qo, dy⟩ := h.W.cA _ _ hl
              simp only [List.cons.injEq, and_true] at tr
              simp only [Full.c] at cJ
              rw [cJ] at tr
              subst tr
              have bq1 : (off < zs.length ∨ off = zs.length ∧ len = 0 ∧ ys ≠ []) ∧ len + ys.length ≤ 274877906944 := by
                simp only at ab
                split at ab
                · exact ab.1
                · split at ab
                  · exact ab.1
                  · exact ab.elim
              by_cases mL : off < cap
              case neg =>
                have hzm : zs.length = m := by
                  rcases dy with ⟨tP, rfl⟩ | ⟨g, ob, pL, cur, e', yl, _⟩
                  · injection tP with _ h2 _; simp [h2]
                  · injection yl with _ h2 _; exact h2.symm
                obtain ⟨h1, h2⟩ := bq1
                rcases h1 with h1 | ⟨h1, h3, h4⟩
                · omega
                subst h3
                have ba4 : cap - off = 0 := by omega
                rw [ba4] at hv
                rw [List.take_zero, List.nil_append] at ab
                exact ba2 id _ ys b zs te hl pe hv h4 (by omega) ab
              rcases dy with ⟨tP, rfl⟩ | ⟨g, ob, pL, cur, e', yl, hle, hcm, tH, hB, hh, rK, fw⟩
              · injection tP with _ _ h3
                omega
              · injection yl with e1 e2 e3
                subst e1; subst e2; subst e3
                obtain ⟨g', ob', ha, jl⟩ := hb (by omega)
                injection ha with ha
                injection ha with Wj Wl
                subst Wj; subst Wl
                have zL : ((zs.drop off).take len).length = len := by simp; omega
                refine aw1 id _ ys (a.eval xo) zs _ _ none hl (fun _ h => by cases h) pe rfl ?_ (fun g'' ba5 => ?_) (fun hr => by rw [zL]; exact hr.2) ab
                · rw [hv, jl]
                  refine ⟨_, rfl, by rw [zL]; omega, .inr ⟨g, ob + off * sz, cap - off, cur, e', by rw [zL], by rw [zL]; omega, by omega, tH, hB, hh, ?_, fun i y hy => ?_⟩⟩
                  · rw [de, Nat.add_assoc, ← Nat.add_mul, show off + (cap - off) = cap from by omega]
                    exact rK
                  · have hi : i < len := by
                      rcases Nat.lt_or_ge i len with h' | h'
                      · exact h'
                      · rw [List.getElem?_eq_none (by omega)] at hy; cases hy
                    rw [List.getElem?_take, if_pos hi, List.getElem?_drop] at hy
                    obtain ⟨cs, h1, h2, h3⟩ := fw _ y hy
                    refine ⟨cs, h1, ?_, h3⟩
                    rw [de, Nat.add_assoc, ← Nat.add_mul]
                    exact h2
                · rw [hv, jl] at ba5
                  rw [cJ]
                  exact ba5
            · cases eQ
          · cases eQ
        · cases eQ
      | both o1 o2 =>
        rw [eQ] at ab
        simp only [nP] at eQ
        split at eQ
        case h_2 => cases eQ
        rename_i ys pe
        split at eQ
        · cases eQ
        · rename_i U zs
          split at eQ
          · rename_i xs lp hl
            obtain ⟨e', mY⟩ := Ty.bA lp
            injection e' with e'
            subst e'
            simp only at mY
            subst mY
            injection eQ with e1 e2
            subst e1; subst e2
            obtain ⟨LN, ba6⟩ := ab
            have hx0 := hx
            simp only [ag] at hx
            obtain ⟨_, ⟨aa, m, hv⟩, GX⟩ := hx
            obtain ⟨news, lr, dG⟩ := src ys pe
            by_cases bY : ys = []
            · have hK := LN bY
              subst bY
              refine h.val ho (v := a.eval xo) (aU _ _ ?_) hx0 hK
              have Cf := lr.len
              have tL := lr.cells
              simp only [List.length_nil] at Cf tL
              obtain ⟨e, hu, he, pQ, oX, oY⟩ := (hE.facts hT).elem hE
              obtain ⟨i, hi, de, _⟩ := pQ.info
              have hn : news = [] := List.eq_nil_of_length_eq_zero (by rw [lr.newsLen]; simp)
              subst hn
              rw [← de] at tL
              rw [hv]
              rcases lr.kind with ⟨e2, hk⟩ | hk
              all_goals
                cases aa with
                | none => simp [Builtin.append_, run_underlying hu, run_underlying hk, sizeOf, typeInfo, hi, Cf, tL]
                | some aa => simp [Builtin.append_, run_underlying hu, run_underlying hk, sizeOf, typeInfo, hi, Cf, tL, storeCells]
            · obtain ⟨hlen, hK⟩ := ba6 bY
              rw [hv] at GX
              obtain ⟨v', w', hr, tV, sq, Wi, vF⟩ := ki hE (ty := o.type) hT rI GX h.W.lt h.W.size lr dG bY hlen
              refine cY (aU v' w' (by rw [hv]; exact hr)) ⟨_, hK, ?_⟩
              simp only [St.fin, hd]
              exact h.vS (bp ho d hd) hl rI sq Wi vF tV (da _ _)
          · cases eQ
        · repeat' split at eQ
          all_goals cases eQ
        · repeat' split at eQ
          all_goals cases eQ
        · cases eQ
      | _ =>
        rw [eQ] at ab
        simp only [nP] at eQ
        repeat' split at eQ
        all_goals first
          | (cases eQ; done)
          | exact ab.elim
    · exact ab.elim
  · exact ab.elim
end
end Go.Proofs.YtgpkijnphchkpaaGreat
namespace Go.Proofs.YtgpkijnphchkpaaGreat
variable {dV:Prop} [jY dV]
open Go.RowKit
section
variable {E:Env} {n:Nat} {w0:World} {S0:Cx} {s:St} {a:Act} {w:World} {ν:Nat→Value} {S:Nat→Prop} {F:dF} {o:Oper} {K:St→Prop} {Q:Exit→Act→World→Prop}
theorem zO {T:Ty} : ∀(ps:List (Nat×PV))(vs:List (Nat×Value))(i:Nat)(xs:List T.den)(cells:Array Value)(R:T.den→List Value→Prop),(∀x cs,R x cs→cs.length=T.cells)→ps.length=vs.length→nS F s.bl T i ps=some xs→(∀(k:Nat)(p:Nat×PV)(v:Nat×Value),ps[k]?=some p→vs[k]?=some v→p.1=v.1∧ ∀x,PV.refs p.2=false→PV.ka p.2=[]→exp F s.bl T p.2=some x→R x v.2.cells.toList)→i*T.cells+ps.length*T.cells=cells.size→ ∃out,Instr.fill (fun i=>some (i*T.cells,T.cells)) cells vs=some out∧out.size=cells.size∧xs.length=ps.length∧out.toList.take (i*T.cells)=cells.toList.take (i*T.cells)∧ ∀k x,xs[k]?=some x→R x ((out.toList.drop ((i+k)*T.cells)).take T.cells)|[],[],i,xs,cells,R,hR,_,h,_,hs=>(by simp only[nS,Option.some.injEq]at h;subst h;exact⟨cells,rfl,rfl,rfl,rfl,fun k x hk=>by simp at hk⟩)|[],_::_,_,_,_,_,_,hl,_,_,_=>(by cases hl)|_::_,[],_,_,_,_,_,hl,_,_,_=>(by cases hl)|p::ps,v::vs,i,xs,cells,R,hR,hl,h,hr,hs=>by simp only[nS]at h;split at h;(·rename_i x bq2 tq NM hx;split at h;(·rename_i ys pe;simp only[Option.some.injEq]at h;subst h;have hpi:=Nat.eq_of_beq_eq_true bq2;obtain⟨Jo,bF⟩:=hr 0 p v rfl rfl;have hRx:=bF x tq NM hx;have Cd:=hR _ _ hRx;obtain⟨vi,vv⟩:=v;simp only at Jo Cd hRx;(have VI:vi=i:=by rw[←Jo,hpi]);subst VI;simp only[List.length_cons]at hs;(have de:vi*T.cells+T.cells+ps.length*T.cells=cells.size:=by rw[←hs,Nat.add_mul];omega);(have tk:vv.cells.size=T.cells:=by simpa using Cd);rw[GJ rfl tk (by omega)];(have cQ:(cells.toList.take (vi*T.cells)++vv.cells.toList++cells.toList.drop (vi*T.cells+vv.cells.size)).toArray.size=cells.size:=by simp only[List.size_toArray,List.length_append,List.length_take,List.length_drop,Array.length_toList];omega);obtain⟨out,h1,h2,h3,h4,h5⟩:=zO ps vs (vi+1) ys _ R hR (by simpa using hl) pe (fun k p' v' NI Ql=>hr (k+1) p' v' NI Ql) (by rw[cQ,Nat.add_mul];omega);(have BV:(cells.toList.take (vi*T.cells)).length=vi*T.cells:=by simp only[List.length_take,Array.length_toList];omega);(have jq:out.toList.take ((vi+1)*T.cells)=cells.toList.take (vi*T.cells)++vv.cells.toList:=by rw[h4];(have e:(vi+1)*T.cells=(cells.toList.take (vi*T.cells)++vv.cells.toList).length:=by rw[List.length_append,BV,Cd,Nat.add_mul];omega);rw[e,List.take_left]);refine⟨out,h1,h2.trans cQ,by simp[h3],?_,fun k y hk=>?_⟩;(·have:=congrArg (List.take (vi*T.cells)) jq;rw[List.take_take,Nat.min_eq_left (by rw[Nat.add_mul];omega),List.take_append_of_le_length (by omega),List.take_take,Nat.min_self]at this;exact this);·cases k with|zero=>simp at hk;subst hk;have:=congrArg (List.drop (vi*T.cells)) jq;have e0:(cells.toList.take (vi*T.cells)).drop (vi*T.cells)=[]:=List.drop_of_length_le (by omega);rw[List.drop_take,List.drop_append_of_le_length (by omega),e0,List.nil_append]at this;rw[show(vi+1)*T.cells-vi*T.cells=T.cells from by rw[Nat.add_mul];omega]at this;rw[Nat.add_zero,this];exact hRx|succ k=>have:=h5 k y (by simpa using hk);rw[show vi+(k+1)=vi+1+k from by omega];exact this);·cases h);·cases h
theorem Full.grow(h:Full n w0 S0 s a w ν S) {w':World} {S':Nat→Prop} (hw:eN w w' none)(h1: ∀b,S b→S' b)(h2: ∀b,S' b→S b∨w.heap.size≤b)(h3: ∀b,S' b→b<w'.heap.size):Full n w0 S0 s a w' ν S':=by
 have hle:Ctx.Le ⟨ν,s.D,w,⟨S,aK w0 S0⟩⟩ ⟨ν,s.D,w',⟨S',aK w0 S0⟩⟩:=⟨fun b hb=>hw.block b (h.W.lt b hb) (by simp),h1,fun _ h=>h,fun _ _=>rfl⟩;refine⟨h.below.grown hw (by simp),fun b hb=>h1 b (h.Cc b hb),fun b hb=>?_,⟨h3,fun g hg=>h.W.size g (Nat.le_trans hw.size hg),fun i c hc=>?_,h.W.ne⟩,fun t=>eO hle (h.fe t),h.size,h.defers,h.sj,h.kept,h.Ep⟩
 (·rcases h2 b hb with h'|h';(·exact h.fresh b h');·exact .inr (h.W.size b h'));·refine mX hle rfl rfl (fun g hg=>?_) (h.W.cA i c hc);obtain⟨e1,e2,e3⟩:=h.iH hc hg;refine⟨hw.block g e3 (by simp),fun _ QD=>?_⟩;rcases h2 g QD with h'|h';(·exact e2 h');·omega
theorem Ck(hE:aG E)(h:Full n w0 S0 s a w ν S)(ho:bJ n o=true) {t m:Nat} {parts:Array (Nat×Operand)} (aJ:o.op= .buildSlice t m parts)(ab:br E (aj E F s o) (fun l=>K (s.fin o.dst l))):o.wp E.P a w (fun a' w'=> ∃s',K s'∧Rel n w0 S0 s' a' w') Q:=by
 simp only[aj,aJ]at ab;split at ab;(·rename_i T d hT hd;split at ab;(·rename_i xs hl hel hb;simp only[Bool.and_eq_true]at hb;have hm:=Nat.eq_of_beq_eq_true hb.1;have aC0:=Nat.le_of_ble_eq_true hb.2;obtain⟨e,hu,he,pQ,oX,oY⟩:=(hE.facts hT).elem hE;obtain⟨i,hi,de,hby,_,z,hz,Jn⟩:=pQ.info;(have JF: ∀(k:Nat)(p:Nat×PV)(v:Nat×Value),(dB s parts.toList)[k]?=some p→((parts.map fun x=>(x.1,a.eval x.2)).toList)[k]?=some v→p.1=v.1∧ ∀x,PV.refs p.2=false→PV.ka p.2=[]→exp F s.bl T p.2=some x→aH T x w ⟨S,aK w0 S0⟩ v.2.cells.toList:=by intro k p v hk hv;rw[jo,List.getElem?_map]at hk;simp only[Array.toList_map,List.getElem?_map]at hv;cases hx:parts.toList[k]? with|none=>rw[hx]at hk;cases hk|some x=>rw[hx]at hk hv;simp only[Option.map_some,Option.some.injEq]at hk hv;subst hk;subst hv;refine⟨rfl,fun y h1 h2 h3=>?_⟩;have bQ:=h.ev (x:=x.2) (az ho (by have hm:x∈parts:=Array.mem_toList_iff.1 (List.mem_of_getElem? hx);simp only[aJ,Op.operands,List.mem_toArray,List.mem_map];exact⟨x,Array.mem_toList_iff.2 hm,rfl⟩));exact lb oX (h.Qn pQ.own h1 h2 h3 bQ));(have hlen:(dB s parts.toList).length=((parts.map fun x=>(x.1,a.eval x.2)).toList).length:=by simp[jo]);(have xp:(dB s parts.toList).length=m:=by rw[←hm];simp[jo]);(have main: ∀cells:Array Value,cells.size=m*T.cells→ ∃out,Instr.fill (fun i=>some (i*T.cells,T.cells)) cells (parts.map fun x=>(x.1,a.eval x.2)).toList=some out∧out.size=m*T.cells∧xs.length=m∧ ∀k x,xs[k]?=some x→aH T x w ⟨S,aK w0 S0⟩ ((out.toList.drop (k*T.cells)).take T.cells):=by intro cells hc;obtain⟨out,h1,h2,h3,h4,h5⟩:=zO (F:=F) (s:=s) (dB s parts.toList) _ 0 xs cells (fun x cs=>aH T x w ⟨S,aK w0 S0⟩ cs) (fun x cs hr=>bR _ _ _ _ _ hr) hlen hel JF (by rw[xp,hc];omega);exact⟨out,h1,by rw[h2,hc],by rw[h3,xp],fun k x hk=>by simpa using h5 k x hk⟩);(have fin: ∀out:Array Value,out.size=m*T.cells→xs.length=m→(∀k x,xs[k]?=some x→aH T x w ⟨S,aK w0 S0⟩ ((out.toList.drop (k*T.cells)).take T.cells))→ ∃s',K s'∧Rel n w0 S0 s' (a.put o.dst (.slice (some ⟨w.heap.size,0,none⟩) m m)) (w.alloc (.cells out e)):=by intro out ho1 QE ho3;have hh:(w.alloc (.cells out e)).heap[w.heap.size]?=some (.cells out e (0,0)):=_root_.Go.heap_alloc_new w _;have hmb:m≤16777216:=Nat.le_trans (Nat.le_mul_of_pos_right m oY) aC0;have fw: ∀k x,xs[k]?=some x→aH T x (w.alloc (.cells out e)) ⟨S,aK w0 S0⟩ ((out.toList.drop (k*T.cells)).take T.cells):=fun k x hk=>aB (w:=w) (fun b hb=>Below.heap_alloc w _ b (h.W.lt b hb)) (fun _ h=>h) _ _ _ pQ.own (ho3 k x hk);split at ab;(·simp only[br]at ab;refine⟨_,ab,?_⟩;have hg:=h.grow (S':=fun b=>S b∨b=w.heap.size) (dC w (.cells out e) none) (fun b hb=>.inl hb) (fun b hb=>hb.imp id (fun e=>by omega)) (fun b hb=>by simp only[World.alloc,Array.size_push];rcases hb with hb|hb;(·have:=h.W.lt b hb;omega);·omega);refine(hg.put (bp ho) ?_).rel;(suffices jW:aH (.sl T) xs (w.alloc (.cells out e)) ⟨fun b=>S b∨b=w.heap.size,aK w0 S0⟩ [.slice (some ⟨w.heap.size,0,none⟩) m m]by unfold ft;split;(·simp only[ag];exact⟨pQ.own,⟨_,m,rfl⟩,jW⟩);·simp only[ag];exact⟨pQ.own,jW⟩);refine⟨_,m,by rw[QE],by omega,by omega,.inr ⟨w.heap.size,0,rfl,.inr rfl,?_⟩⟩;refine yD (vs:=out.toList) (by simp[ho1,QE]) (fun j u hj=>?_) (fun k x hk=>?_);(·show(w.alloc (.cells out e)).cell? _=_;rw[cell_of_row _ _ _ _ _ _ hh,Nat.zero_add];simpa using hj);·exact aB (w:=w.alloc (.cells out e)) (M:=⟨S,aK w0 S0⟩) (M':=⟨fun b=>S b∨b=w.heap.size,aK w0 S0⟩) (fun b _=>rfl) (fun _ h=>.inl h) _ _ _ pQ.own (fw k x hk));·simp only[br,St.fin,hd]at ab;refine⟨_,ab,?_⟩;rw[hd];refine h.vS (v:=.slice (some ⟨w.heap.size,0,none⟩) m m) (bp ho d hd) hl pQ.own (dC w _ none) ⟨_,_,_,rfl⟩ (fun g hg=>by injection hg with hg;simp at hg;omega) ?_ (da _ _);refine⟨_,rfl,by omega,.inr ⟨w.heap.size,0,m,out,e,by rw[QE],by omega,by omega,fun hS=>absurd (h.W.lt _ hS) (by simp),h.W.size _ (Nat.le_refl _),hh,by omega,?_⟩⟩;refine yD (vs:=out.toList) (by simp[ho1,QE]) (fun j u hj=>?_) (fun k x hk=>?_);(·rw[cell_of_row _ _ _ _ _ _ hh,Nat.zero_add];simpa using hj);·exact fw k x hk);(have LO: ¬(m*T.cells>2^24):=by omega);by_cases h0:m*T.cells=0;(·obtain⟨out,h1,h2,h3,h4⟩:=main ((Array.range (m*T.cells)).map fun j=>(#[]:Array Value)[j%(#[]:Array Value).size]!) (by simp);refine cY (v:=.slice (some ⟨w.heap.size,0,none⟩) m m) (w':=w.alloc (.cells out e)) ?_ (fin out h2 h3 h4);simp only[execOp,aJ,Instr.buildSlice,Sem.run_bind,run_underlying hu,Result.andThen_ok,pQ.sizeOf w,Sem.run_ite,LO,if_false,h0,if_true,Sem.run_pure];rw[h0]at h1;simp only[h1,Sem.run_bind,newRow,run_newObj,Result.andThen_ok,Sem.run_pure];rfl);·obtain⟨out,h1,h2,h3,h4⟩:=main ((Array.range (m*T.cells)).map fun j=>z.cells[j%z.cells.size]!) (by simp);refine cY (v:=.slice (some ⟨w.heap.size,0,none⟩) m m) (w':=w.alloc (.cells out e)) ?_ (fin out h2 h3 h4);simp only[execOp,aJ,Instr.buildSlice,Sem.run_bind,run_underlying hu,Result.andThen_ok,pQ.sizeOf w,Sem.run_ite,LO,if_false,h0,Sem.run_pure,zeroValue,typeInfo,run_program,hi,hz,h1,newRow,run_newObj];rfl);·exact ab.elim)
 ·exact ab.elim
theorem Cm (hE : aG E) (h : Full n w0 S0 s a w ν S) (ho : bJ n o = true) {t d : Nat} {x y : Operand} {T : Ty} {zc : List PV} {k k' : IntKind} {m0 m1 : Int} (tW : T.Lu = true) (aJ : o.op = .makeSlice t x y) (hT : E.ty t = some (.sl T)) (hd : o.dst = some d) (hl : look d s.bl = none) (VF : zeroCells T = some zc)
    (Jq : a.eval x = .int k m0) (PF : a.eval y = .int k' m1) (h0 : 0 ≤ m0) (h1 : m0 ≤ m1) (h2 : m1 ≤ 274877906944) (ab : K ⟨(d, .aF d) :: s.sl, (d, .arr T (List.replicate (Int.toNat m0) (dA T))) :: s.bl⟩) : o.wp E.P a w (fun a' w' => ∃ s', K s' ∧ Rel n w0 S0 s' a' w') Q := by
  obtain ⟨e, hu, he, pQ, oX, oY⟩ := (hE.facts hT).elem hE
  obtain ⟨i, hi, de, hby, GG, z, hz, Jn⟩ := pQ.info
  obtain ⟨zv, JE, _, _⟩ := pS (c := h.c) T zc VF
  rw [hz] at GG
  have EA := lj GG JE
  have aC1 : (i.bytes : Int) * m1 ≤ 281474976710656 := by
    have e1 : (i.bytes : Int) * m1 ≤ 512 * 274877906944 := Int.mul_le_mul (by omega) h2 (by omega) (by omega)
    omega
  have hr := run_make (P := E.P) w t e i z hu hi hz k k' m0 m1 h0 h1 aC1 (by omega)
  rw [de] at hr
  refine cY (v := .slice (some ⟨w.heap.size, 0, none⟩) (Int.toNat m0) (Int.toNat m1)) (w' := w.alloc (.cells (madeCells z.cells (Int.toNat m1 * T.cells)) e)) ?_ ⟨_, ab, ?_⟩
  · simp only [execOp, aJ, Jq, PF, Sem.run_bind, hr, Result.andThen_ok, Sem.run_pure]
  · rw [hd]
    have hh : (w.alloc (.cells (madeCells z.cells (Int.toNat m1 * T.cells)) e)).heap[w.heap.size]? = some (.cells (madeCells z.cells (Int.toNat m1 * T.cells)) e (0, 0)) := _root_.Go.heap_alloc_new w _
    have hmb : Int.toNat m1 ≤ 274877906944 := by omega
    refine h.vS (bp ho d hd) hl pQ.own (dC w _ none) ⟨_, _, _, rfl⟩ (fun g hg => by injection hg with hg; simp at hg; omega) ?_ (da _ _)
    refine ⟨_, rfl, by rw [List.length_replicate]; omega, .inr ⟨w.heap.size, 0, Int.toNat m1, _, e, by rw [List.length_replicate], by rw [List.length_replicate]; omega, by omega, fun hS => absurd (h.W.lt _ hS) (by simp), h.W.size _ (Nat.le_refl _), hh, by rw [size_madeCells]; omega, fun j q hq => ?_⟩⟩
    rw [List.getElem?_replicate] at hq
    split at hq
    · rename_i hj
      simp only [Option.some.injEq] at hq
      subst hq
      refine ⟨zv, bR _ _ _ _ _ (pY (w := w) (M := ⟨S, aK w0 S0⟩) T zv tW JE), fun k u hk => ?_, pY T zv tW JE⟩
      have pc : k < T.cells := by rw [← bR _ _ _ _ _ (pY (w := w) (M := ⟨S, aK w0 S0⟩) T zv tW JE)]; exact (List.getElem?_eq_some_iff.1 hk).1
      rw [cell_of_row _ _ _ _ _ _ hh, Nat.zero_add]
      have dh : j * T.cells + k < Int.toNat m1 * T.cells := by
        calc j * T.cells + k < j * T.cells + T.cells := by omega
          _ = (j + 1) * T.cells := by rw [Nat.add_mul]; omega
          _ ≤ Int.toNat m1 * T.cells := Nat.mul_le_mul_right _ (by omega)
      have aB9 : (j * T.cells + k) % z.cells.size = k := by
        rw [Jn, Nat.add_comm, Nat.add_mul_mod_self_right, Nat.mod_eq_of_lt pc]
      simp only [madeCells, Array.getElem?_map]
      rw [Array.getElem?_eq_getElem (by simpa using dh)]
      simp only [Option.map_some, Array.getElem_range, aB9]
      rw [getElem!_pos z.cells k (by omega)]
      rw [← EA] at hk
      simp only [Array.getElem?_toList] at hk
      rw [Array.getElem?_eq_getElem (by omega)] at hk
      exact hk
    · cases hq
theorem EB(hE:aG E)(h:Full n w0 S0 s a w ν S)(ho:bJ n o=true) {t:Nat} {x y:Operand} (aJ:o.op= .makeSlice t x y)(ab:br E (aj E F s o) (fun l=>K (s.fin o.dst l))):o.wp E.P a w (fun a' w'=> ∃s',K s'∧Rel n w0 S0 s' a' w') Q:=by
 simp only[aj,aJ]at ab;have hx:=h.ev (az ho (x:=x) (by simp[aJ,Op.operands]));have hy:=h.ev (az ho (x:=y) (by simp[aJ,Op.operands]));split at ab;(·rename_i T d k m k' m' hT hd pV Ez;split at ab;(·rename_i zc hl VF tW;obtain⟨hmk,ab⟩:=ab;obtain⟨h0,h1,h2⟩:=aB1 hmk;simp only[br,St.fin,hd]at ab;rw[pV]at hx;rw[Ez]at hy;obtain⟨Jq,_⟩:=bf hx;obtain⟨PF,_⟩:=bf hy;exact Cm hE h ho tW aJ hT hd hl VF Jq PF h0 h1 h2 ab);·exact ab.elim)
 ·exact ab.elim
end
end Go.Proofs.YtgpkijnphchkpaaGreat
namespace Go.Proofs.YtgpkijnphchkpaaGreat
variable {dV:Prop} [jY dV]
open Go.RowKit
theorem aC2 {w w':World} {M M':Mem} : ∀(T:Ty)(x:T.den)(vs:List Value),T.flat=true→aH T x w M vs→aH T x w' M' vs:=by
 intro T;induction T with|unit=>intro x vs _ h;exact h|int k=>intro x vs _ h;exact h|bool=>intro x vs _ h;exact h|str=>intro x vs _ h;exact h|sl t=>intro x vs hf;cases hf|own t=>intro x vs hf;cases hf|ptr t=>intro x vs hf;cases hf|eY f t=>intro x vs hf;cases hf|mp a b=>intro x vs hf;cases hf|aD=>intro x vs _ h;exact h|bq a b=>intro x vs _ h;exact h.elim|st t ih=>intro x vs hf h;exact ih x vs hf h|pair a b iG gP=>intro x vs hf h;simp only[Ty.flat,Bool.and_eq_true]at hf;obtain⟨va,vb,rfl,h1,h2⟩:=h;exact⟨va,vb,rfl,iG _ _ hf.1 h1,gP _ _ hf.2 h2⟩
theorem EC {w w':World} {M M':Mem} {T:Ty} {x:T.den} {v:Value} (hf:T.flat=true)(h:dt T x w M v):dt T x w' M' v:=by
 cases T with|unit=>exact h|pair a b=>exact h|bq a b=>exact h|st t=>obtain⟨vs,rfl,h⟩:=h;exact⟨vs,rfl,aC2 t x vs hf h⟩|int k=>exact h|bool=>exact h|str=>exact h|sl t=>cases hf|own t=>cases hf|ptr t=>cases hf|eY f t=>cases hf|mp a b=>cases hf|aD=>exact h
theorem aC3 {w w':World} {M M':Mem} : ∀(T:Ty)(x:T.den)(vs:List Value),T.flat=true→B7 T x w M vs→B7 T x w' M' vs:=by
 intro T;induction T with|bq a b iG gP=>intro x vs hf h;simp only[Ty.flat,Bool.and_eq_true]at hf;obtain⟨v,r,rfl,h1,h2⟩:=h;exact⟨v,r,rfl,EC hf.1 h1,gP _ _ hf.2 h2⟩|_=>intro x vs hf h;obtain⟨v,rfl,h⟩:=h;exact⟨v,rfl,EC hf h⟩
theorem QF {w w':World} {M M':Mem} {T:Ty} {x:T.den} {v:Value} (hf:T.flat=true)(h:oV T x w M v):oV T x w' M' v:=by
 cases T;(case bq a b=>obtain⟨vs,rfl,h⟩:=h;exact⟨vs,rfl,aC3 _ x vs hf h⟩);all_goals exact EC (w:=w) (w':=w') (M:=M) (M':=M') (x:=x) (v:=v) hf h
theorem CY: ∀(T:Ty),T.flat=true→aR T=0:=by intro T;induction T<;>simp_all[Ty.flat,aR]
section
variable {E:Env} {n:Nat} {w0:World} {S0:Cx} {s:St} {a:Act} {w:World} {ν:Nat→Value} {S:Nat→Prop} {F:dF} {o:Oper} {K:St→Prop} {Q:Exit→Act→World→Prop}
theorem aC4(hE:aG E)(h:Full n w0 S0 s a w ν S)(ho:bJ n o=true) {c:Call} (aJ:o.op= .call c)(lu:c.callee= .builtin .cap)(ab:br E (aj E F s o) (fun l=>K (s.fin o.dst l))):o.wp E.P a w (fun a' w'=> ∃s',K s'∧Rel n w0 S0 s' a' w') Q:=by
 obtain⟨callee,args,argTypes⟩:=c;simp only at lu;subst lu;simp only[aj,aJ]at ab;split at ab;(·rename_i t bQ jJ;(obtain⟨xo,kB⟩: ∃xo,args= #[xo]:=by(have hl:args.toList.length=1:=by have:=congrArg List.length bQ;rw[tN,List.length_map]at this;simpa using this);match hh:args.toList,hl with|[xo],_=>exact⟨xo,Array.toList_inj.1 (by rw[hh])⟩);subst kB;simp only[cz,List.cons.injEq,and_true]at bQ;have Ch:argTypes= #[t]:=Array.toList_inj.1 (by rw[jJ]);subst Ch;have hx:=h.ev (az ho (x:=xo) (by simp[aJ,Op.operands,Call.operands]));rw[bQ]at hx;simp only[ag]at hx;split at ab;(·rename_i U hT;obtain⟨e,hu,_⟩:=(hE.facts hT).elem hE;refine h.val ho (v:=.int .i64 0) ?_ (bW (by simp[IntKind.min,IntKind.max,IntKind.signed,IntKind.bits])) ab;simp[execOp,aJ,resolve,invoke,builtin,Builtin.cap_,run_underlying hu,hx,goInt]);·exact ab.elim)
 ·exact ab.elim
theorem aC5(hE:aG E)(h:Full n w0 S0 s a w ν S)(ho:bJ n o=true) {c:Call} (aJ:o.op= .call c)(lu:c.callee= .builtin .len)(ab:br E (aj E F s o) (fun l=>K (s.fin o.dst l))):o.wp E.P a w (fun a' w'=> ∃s',K s'∧Rel n w0 S0 s' a' w') Q:=by
 obtain⟨callee,args,argTypes⟩:=c;simp only at lu;subst lu;simp only[aj,aJ]at ab;split at ab;(·rename_i p t bQ jJ;(obtain⟨xo,kB⟩: ∃xo,args= #[xo]:=by(have hl:args.toList.length=1:=by have:=congrArg List.length bQ;rw[tN,List.length_map]at this;simpa using this);match hh:args.toList,hl with|[xo],_=>exact⟨xo,Array.toList_inj.1 (by rw[hh])⟩);subst kB;simp only[cz,List.cons.injEq,and_true]at bQ;have Ch:argTypes= #[t]:=Array.toList_inj.1 (by rw[jJ]);subst Ch;have hx:=h.ev (az ho (x:=xo) (by simp[aJ,Op.operands,Call.operands]));rw[bQ]at hx;(have fin: ∀m:Nat,m≤9223372036854775807→(Builtin.len_ #[t] o.type #[a.eval xo]).run E.P w= .ok (.int .i64 m) w→br E (zh m) (fun l=>K (s.fin o.dst l))→o.wp E.P a w (fun a' w'=> ∃s',K s'∧Rel n w0 S0 s' a' w') Q:=by intro m hm hr hK;refine h.val ho (v:=.int .i64 m) ?_ (bW (by simp[IntKind.min,IntKind.max,IntKind.signed,IntKind.bits];omega)) hK;simp[execOp,aJ,resolve,invoke,builtin,hr]);simp only[B9]at ab;split at ab;(·rename_i hT;obtain⟨d,hu,Gf⟩:=(hE.facts hT).rJ;(have hd:d= .string:=by cases d<;>first|rfl|cases Gf);subst hd;split at ab;(·rename_i y;obtain⟨hv,hl⟩:=ep hx;(have de:(⟨y.toArray⟩:ByteArray).size=y.length:=by simp[ByteArray.size]);refine fin _ hl ?_ ab;simp[Builtin.len_,run_underlying hu,hv,goInt,de]);·exact ab.elim);(·rename_i U hT;obtain⟨e,hu,_⟩:=(hE.facts hT).elem hE;(have hlen: ∀(aa:Option Addr)(m cap:Nat),a.eval xo= .slice aa m cap→(Builtin.len_ #[t] o.type #[a.eval xo]).run E.P w= .ok (.int .i64 m) w:=by intro aa m cap hv;simp[Builtin.len_,run_underlying hu,hv,goInt]);split at ab;(·rename_i U' xs;simp only[ag]at hx;obtain⟨_,aa,cap,hv,h1,h2,_⟩:=hx;injection hv with hv;exact fin _ (Nat.le_trans h1 h2) (hlen _ _ _ hv) ab);(·rename_i id;split at ab;(·rename_i U' xs te hl;obtain⟨hl,_⟩:=cE hl;simp only[ag]at hx;obtain⟨hd,cJ,aa,m,cap,hv⟩:=hx;obtain⟨jJ,_,u,tr,Qo,dy⟩:=h.W.cA _ _ hl;simp only[List.cons.injEq,and_true]at tr;simp only[Full.c]at cJ;(have hm:m=xs.length:=by rw[cJ,tr]at hv;rcases dy with⟨rfl,rfl⟩|⟨g,ob,pL,cur,e',rfl,_⟩;(·injection hv with e1 e2 e3;exact e2.symm);·injection hv with e1 e2 e3;exact e2.symm);subst hm;exact fin _ Qo (hlen _ _ _ hv) ab);·exact ab.elim);(·rename_i id sz off len;obtain⟨hl,hK⟩:=ab;simp only[ag]at hx;obtain⟨hd,aa,m,cap,b,cJ,hn,rH,hv,hb⟩:=hx;exact fin _ hl (hlen _ _ _ hv) hK);(·simp only[ag]at hx;exact fin 0 (by omega) (hlen _ _ _ hx) ab);·exact ab.elim);(·rename_i K' V' hT;obtain⟨d,hu,Gf⟩:=(hE.facts hT).rJ;(obtain⟨k',e',rfl⟩: ∃k' e',d= .map k' e':=by cases d<;>first|exact⟨_,_,rfl⟩|cases Gf);split at ab;(·rename_i id;split at ab;(·rename_i K2 V2 es hl;obtain⟨hl,_⟩:=cE hl;simp only[ag]at hx;obtain⟨_,cJ,_⟩:=hx;obtain⟨_,_,h0,r,ax,clock,h1,_,_,h4,_,h6,_⟩:=h.W.cA _ _ hl;simp only[Full.c]at cJ;(have cJ:a.eval xo= .map (some r):=by rw[cJ];exact h1);refine fin _ h0 ?_ ab;simp[Builtin.len_,run_underlying hu,cJ,MapKept.run_getObj_map h4,goInt,h6]);·exact ab.elim);(·simp only[ag]at hx;refine fin 0 (by omega) ?_ ab;simp[Builtin.len_,run_underlying hu,hx,goInt]);·exact ab.elim);·exact ab.elim)
 ·exact ab.elim
theorem nY {P:Program} {c:Ctx} (mx:Bool) {k:IntKind} {Kl:Out→Prop} : ∀(ps:List PV)(vs:List Value)(x:Int),k.min≤x∧x≤k.max→ai c ps vs→br E (kf mx k x ps) Kl→ ∃z,Kl (.val (.iv (.int k) z))∧k.min≤z∧z≤k.max∧(vs.foldlM (if mx then Builtin.max2 else Builtin.min2) (.int k x)).run P w= .ok (.int k z) w|[],vs,x,hx,hp,h=>(by simp only[ai]at hp;subst hp;exact⟨x,h,hx.1,hx.2,by simp⟩)|p::ps,vs,x,hx,hp,h=>by simp only[ai]at hp;obtain⟨v,r,rfl,h1,h2⟩:=hp;cases p with|iv T y=>(cases T with|int l=>simp only[kf]at h;split at h;(·rename_i hk;have hk:=en hk;subst hk;obtain⟨rfl,hy⟩:=bf h1;change Int at y;cases mx;(·(have hz:k.min≤min x (y:Int)∧min x (y:Int)≤k.max:=by(have e1:min x (y:Int)=x∨min x (y:Int)=y:=by rcases Int.le_total x y with h|h<;>simp[Int.min_def,h]<;>omega);rcases e1 with e|e<;>rw[e]<;>assumption);obtain⟨z,hz1,hz2,hz3,QG⟩:=nY false ps r _ hz h2 h;refine⟨z,hz1,hz2,hz3,?_⟩;rw[List.foldlM_cons,Sem.run_bind];(have e:Builtin.min2 (.int k x) (.int k y)=pure (.int k (min x (y:Int))):=by simp only[Builtin.min2,Int.min_def];congr 2;by_cases hc:x≤(y:Int);(·rw[if_pos hc,if_neg (by omega)]);·rw[if_neg hc,if_pos (by omega)]);simp only[Bool.false_eq_true,if_false]at QG⊢;rw[e];simpa using QG);·(have hz:k.min≤max x (y:Int)∧max x (y:Int)≤k.max:=by(have e1:max x (y:Int)=x∨max x (y:Int)=y:=by rcases Int.le_total x y with h|h<;>simp[Int.max_def,h]<;>omega);rcases e1 with e|e<;>rw[e]<;>assumption);obtain⟨z,hz1,hz2,hz3,QG⟩:=nY true ps r _ hz h2 h;refine⟨z,hz1,hz2,hz3,?_⟩;rw[List.foldlM_cons,Sem.run_bind];(have e:Builtin.max2 (.int k x) (.int k y)=pure (.int k (max x (y:Int))):=by simp only[Builtin.max2,Int.max_def];congr 2;by_cases hc:x≤(y:Int);(·rw[if_pos hc];by_cases hd:(y:Int)>x;(·rw[if_pos hd]);·rw[if_neg hd];omega);·rw[if_neg hc,if_neg (by omega)]);simp only[if_true]at QG⊢;rw[e];simpa using QG);(·exact h.elim)|_=>simp only[kf]at h;exact h.elim)|_=>simp only[kf]at h;exact h.elim
theorem aC6(h:Full n w0 S0 s a w ν S)(ho:bJ n o=true) {c:Call} (aJ:o.op= .call c)(lu:c.callee= .builtin .min)(ab:br E (aj E F s o) (fun l=>K (s.fin o.dst l))):o.wp E.P a w (fun a' w'=> ∃s',K s'∧Rel n w0 S0 s' a' w') Q:=by
 obtain⟨callee,args,argTypes⟩:=c;simp only at lu;subst lu;simp only[aj,aJ]at ab;split at ab;(·rename_i k x r bQ;have bo:=ik h args.toList (fun y hy=>az ho (by simp only[aJ,Op.operands,Call.operands];simpa using hy));rw[bQ]at bo;simp only[ai]at bo;obtain⟨v,vs,tk,h1,h2⟩:=bo;obtain⟨rfl,hx⟩:=bf h1;obtain⟨z,hz1,hz2,hz3,QG⟩:=nY (P:=E.P) (w:=w) false r vs x hx h2 ab;refine h.val ho (v:=.int k z) ?_ (bW ⟨hz2,hz3⟩) hz1;(have hl:(args.map a.eval).toList= .int k x::vs:=by simpa using tk);simp only[Bool.false_eq_true,if_false]at QG;simp only[execOp,aJ,resolve,invoke,builtin,Builtin.min_,Sem.run_bind,Sem.run_pure,Result.andThen_ok,hl,QG])
 ·exact ab.elim
theorem aC7(h:Full n w0 S0 s a w ν S)(ho:bJ n o=true) {c:Call} (aJ:o.op= .call c)(lu:c.callee= .builtin .max)(ab:br E (aj E F s o) (fun l=>K (s.fin o.dst l))):o.wp E.P a w (fun a' w'=> ∃s',K s'∧Rel n w0 S0 s' a' w') Q:=by
 obtain⟨callee,args,argTypes⟩:=c;simp only at lu;subst lu;simp only[aj,aJ]at ab;split at ab;(·rename_i k x r bQ;have bo:=ik h args.toList (fun y hy=>az ho (by simp only[aJ,Op.operands,Call.operands];simpa using hy));rw[bQ]at bo;simp only[ai]at bo;obtain⟨v,vs,tk,h1,h2⟩:=bo;obtain⟨rfl,hx⟩:=bf h1;obtain⟨z,hz1,hz2,hz3,QG⟩:=nY (P:=E.P) (w:=w) true r vs x hx h2 ab;refine h.val ho (v:=.int k z) ?_ (bW ⟨hz2,hz3⟩) hz1;(have hl:(args.map a.eval).toList= .int k x::vs:=by simpa using tk);simp only[if_true]at QG;simp only[execOp,aJ,resolve,invoke,builtin,Builtin.max_,Sem.run_bind,Sem.run_pure,Result.andThen_ok,hl,QG])
 ·exact ab.elim
end
end Go.Proofs.YtgpkijnphchkpaaGreat
namespace Go.Proofs.YtgpkijnphchkpaaGreat
variable {dV:Prop} [jY dV]
open Go.RowKit Go.MapKept
/-! ### Keys -/
def ko:(T:Ty)→T.den→List Value|.int k,x=>[.int k x]|.bool,x=>[.bool x]|.str,x=>[.string ⟨x.toArray⟩]|.pair a b,x=>ko a x.1++ko b x.2|.st t,x=>ko t x|_,_=>[]
theorem cG {w:World} {M:Mem} : ∀(T:Ty)(x:T.den)(vs:List Value),fF T=true→aH T x w M vs→vs=ko T x:=by
 intro T;induction T with|int k=>intro x vs _ h;exact h.1|bool=>intro x vs _ h;exact h|str=>intro x vs _ h;exact h.1|pair a b iG gP=>intro x vs hp h;simp only[fF,Bool.and_eq_true]at hp;obtain⟨va,vb,rfl,h1,h2⟩:=h;rw[iG _ _ hp.1 h1,gP _ _ hp.2 h2];rfl|st t ih=>intro x vs hp h;exact ih x vs hp h|_=>intro x vs hp;cases hp
theorem yE: ∀(T:Ty)(x y:T.den),fF T=true→(gF T x y=true↔x=y):=by
 intro T;induction T with|int k=>intro x y _;simp[gF]|bool=>intro x y _;simp[gF]|str=>intro x y _;simp[gF]|pair a b iG gP=>intro x y hp;simp only[fF,Bool.and_eq_true]at hp;simp only[gF,Bool.and_eq_true,iG _ _ hp.1,gP _ _ hp.2];exact⟨fun h=>Prod.ext h.1 h.2,fun h=>by rw[h];exact⟨rfl,rfl⟩⟩|st t ih=>intro x y hp;exact ih x y hp|_=>intro x y hp;cases hp
theorem QH: ∀(T:Ty)(x y:T.den),fF T=true→kV T x y=some (gF T x y):=by
 intro T;induction T with|int k=>intro x y _;rfl|bool=>intro x y _;rfl|str=>intro x y _;rfl|pair a b iG gP=>intro x y hp;simp only[fF,Bool.and_eq_true]at hp;simp only[kV,gF,iG _ _ hp.1,gP _ _ hp.2]|st t ih=>intro x y hp;exact ih x y hp|_=>intro x y hp;cases hp
theorem nZ {E:Env} {t:Nat} {K:Ty} (h:Ei E t K=true):fF K=true∧lq E t K∧dep K≤101∧K.val=true:=by
 cases K with|int k=>exact⟨rfl,trivial,by simp[dep],rfl⟩|bool=>exact⟨rfl,trivial,by simp[dep],rfl⟩|str=>exact⟨rfl,trivial,by simp[dep],rfl⟩|st R=>simp only[Ei,Bool.and_eq_true]at h;have:=Nat.le_of_ble_eq_true h.2;exact⟨h.1.2,h.1.1,by simp only[dep];omega,rfl⟩|_=>cases h
theorem zP: ∀(T:Ty)(x:T.den),fF T=true→ ∀u,u∈ko T x→ ∀n,Instr.sameBits n u u=true:=by
 intro T;induction T with|int k=>intro x _ u hu n;simp only[ko,List.mem_singleton]at hu;subst hu;cases n<;>simp[Instr.sameBits]|bool=>intro x _ u hu n;simp only[ko,List.mem_singleton]at hu;subst hu;cases n<;>simp[Instr.sameBits]|str=>intro x _ u hu n;simp only[ko,List.mem_singleton]at hu;subst hu;cases n<;>(simp only[Instr.sameBits];exact(bytes_beq _ _).2 rfl)|pair a b iG gP=>intro x hp u hu n;simp only[fF,Bool.and_eq_true]at hp;simp only[ko]at hu;rcases List.mem_append.1 hu with hu|hu;(·exact iG _ hp.1 u hu n);(·exact gP _ hp.2 u hu n)|st t ih=>intro x hp u hu n;exact ih x hp u hu n|_=>intro x hp;cases hp
theorem tX {p:Value→Value→Bool} : ∀(l:List Value),(∀u,u∈l→p u u=true)→(l.zip l).all (fun x=>p x.1 x.2)=true|[],_=>rfl|u::l,h=>by simp only[List.zip_cons_cons,List.all_cons,Bool.and_eq_true];exact⟨h u (List.mem_cons_self ..),tX l fun v hv=>h v (List.mem_cons_of_mem _ hv)⟩
theorem tY {P:Program} {w w2:World} {M:Mem} {K:Ty} {x:K.den} {v:Value} (hp:fF K=true)(hv:K.val=true)(h:dt K x w M v):(Instr.keyThatStays v v).run P w2= .ok v w2:=by
 (have hs:Instr.sameBits 10000 v v=true:=by cases K with|int k=>obtain⟨h,_⟩:=h;injection h with h;subst h;simp[Instr.sameBits]|bool=>have h:[v]=[.bool x]:=h;injection h with h;subst h;simp[Instr.sameBits]|str=>obtain⟨h,_⟩:=h;injection h with h;subst h;simp only[Instr.sameBits];exact(bytes_beq _ _).2 rfl|st R=>obtain⟨vs,rfl,hr⟩:=h;have e:=cG R x vs hp hr;subst e;simp only[Instr.sameBits,beq_self_eq_true,Bool.true_and];exact tX _ fun u hu=>zP R x hp u hu _|_=>first|cases hp|cases hv)
 simp[Instr.keyThatStays,hs]
section
variable {E:Env} {w:World} {M:Mem}
theorem GY(hE:aG E): ∀(fs:List Field)(R:Ty)(off:Nat),bT E.ty fs R off=true→jm E.ty E.cmp fs=true→ ∀(x:R.den)(xs:Array Value),off+R.cells≤xs.size→aH R x w M ((xs.toList.drop off).take R.cells)→ ∀f,f∈fs→f.name≠ "_" ∧ ∃(T:Ty)(y:T.den)(v:Value),E.ty f.type=some T∧lq E f.type T∧dep T≤dep R∧(Go.part f.type xs f.offset).run E.P w= .ok v w∧dt T y w M v:=by
 (have one: ∀(f:Field)(T:Ty)(off:Nat)(y:T.den)(xs:Array Value),Nat.beq f.offset off=true→pN E.ty f.type T=true→(match E.ty f.type with|some (.int _)=>true|some .bool=>true|some .str=>true|some (.st _)=>E.cmp f.type|_=>false)=true→off+T.cells≤xs.size→aH T y w M ((xs.toList.drop off).take T.cells)→ ∃v:Value,E.ty f.type=some T∧lq E f.type T∧(Go.part f.type xs f.offset).run E.P w= .ok v w∧dt T y w M v:=by intro f T off y xs h1 h2 hc hx hr;have mL:=Nat.eq_of_beq_eq_true h1;(have hT:E.ty f.type=some T:=by unfold pN at h2;split at h2;(·rename_i U hU;rw[Ty.dm h2]at hU;exact hU);·cases h2);have hf:=hE.facts hT;rw[hT]at hc;(have hk:lq E f.type T:=by cases T<;>first|trivial|exact hc|cases hc);(have Gg:dt T y w M (valOf T ((xs.toList.drop off).take T.cells)):=by have:=ij hf.val hr;have hv:=hf.val;cases T<;>first|exact this|cases hv);exact⟨_,hT,hk,by rw[mL];exact jN hf hx,Gg⟩)
 intro fs;induction fs with|nil=>intro R off h;cases h|cons f fs ihf=>intro R off h hc x xs hx hr g hg;simp only[jm,Bool.and_eq_true]at hc;cases fs with|nil=>simp only[bT,Bool.and_eq_true,Bool.not_eq_true']at h;obtain⟨⟨⟨⟨h1,h2⟩,h3⟩,h4⟩,h5⟩:=h;rcases List.mem_cons.1 hg with rfl|hg;(·obtain⟨v,e1,e2,e3,e4⟩:=one g R off x xs h1 h2 hc.1 hx hr;exact⟨by simpa using h5,R,x,v,e1,e2,Nat.le_refl _,e3,e4⟩);(·cases hg)|cons f2 fs2=>cases R with|pair a b=>simp only[bT,Bool.and_eq_true,Bool.not_eq_true']at h;obtain⟨⟨⟨⟨⟨h1,h2⟩,h3⟩,h4⟩,h5⟩,h6⟩:=h;simp only[Ty.cells]at hx hr;obtain⟨va,vb,hv,Jl,Py⟩:=hr;have ym:=bR _ _ _ _ _ Jl;have hlb:=bR _ _ _ _ _ Py;(have e1:(xs.toList.drop off).take a.cells=va:=by have:=congrArg (List.take a.cells) hv;rw[List.take_take,Nat.min_eq_left (by omega),←ym,List.take_left]at this;rw[←ym];exact this);(have e2:(xs.toList.drop (off+a.cells)).take b.cells=vb:=by have:=congrArg (List.drop a.cells) hv;rw[List.drop_take,List.drop_drop,←ym,List.drop_left,ym]at this;rw[show a.cells+b.cells-a.cells=b.cells from by omega]at this;exact this);rcases List.mem_cons.1 hg with rfl|hg;(·obtain⟨v,e3,e4,e5,e6⟩:=one g a off x.1 xs h1 h2 hc.1 (by omega) (by rw[e1];exact Jl);exact⟨by simpa using h5,a,x.1,v,e3,e4,by simp only[dep];omega,e5,e6⟩);(·obtain⟨n1,T,y,v,e3,e4,e5,e6⟩:=ihf b (off+a.cells) h6 hc.2 x.2 xs (by omega) (by rw[e2];exact Py) g hg;exact⟨n1,T,y,v,e3,e4,by simp only[dep];omega,e6⟩)|_=>simp only[bT]at h;cases h
theorem JU {V:Ty} (hV:V.val=true): ∀(m k:Nat)(x:(rowOf V (m+1)).den)(xs:Array Value),(k+(m+1))*V.cells≤xs.size→aH (rowOf V (m+1)) x w M ((xs.toList.drop (k*V.cells)).take ((m+1)*V.cells))→ ∀i,k≤i→i<k+(m+1)→ ∃y:V.den,aH V y w M ((xs.toList.drop (i*V.cells)).take V.cells):=by
 intro m;induction m with|zero=>intro k x xs hx hr i h1 h2;(have:i=k:=by omega);subst this;simp only[Nat.zero_add,Nat.one_mul]at hr;exact⟨x,hr⟩|succ m ih=>intro k x xs hx hr i h1 h2;obtain⟨va,vb,hv,Jl,Py⟩:=hr;have ym:=bR _ _ _ _ _ Jl;have hle:V.cells≤(m+1+1)*V.cells:=Nat.le_mul_of_pos_left _ (by omega);(have e1:(xs.toList.drop (k*V.cells)).take V.cells=va:=by have:=congrArg (List.take V.cells) hv;rw[List.take_take,Nat.min_eq_left hle,←ym,List.take_left]at this;rw[←ym];exact this);(have e2:(xs.toList.drop ((k+1)*V.cells)).take ((m+1)*V.cells)=vb:=by have:=congrArg (List.drop V.cells) hv;rw[List.drop_take,List.drop_drop,←ym,List.drop_left,ym]at this;rw[show(m+1+1)*V.cells-V.cells=(m+1)*V.cells from by rw[Nat.add_mul (m+1) 1];omega,show k*V.cells+V.cells=(k+1)*V.cells from by rw[Nat.add_mul,Nat.one_mul]]at this;exact this);by_cases Er:i=k;(·subst Er;exact⟨x.1,by rw[e1];exact Jl⟩);·exact ih (k+1) x.2 xs (by rw[show k+1+(m+1)=k+(m+1+1)from by omega];exact hx) (by rw[e2];exact Py) i (by omega) (by omega)
theorem qX (hE : aG E) : ∀ (d : Nat) (K : Ty) (t : Nat) (x : K.den) (v : Value), E.ty t = some K → lq E t K → dt K x w M v → dep K ≤ d → ∀ em, (Instr.checkKey em (d + 1) t v).run E.P w = .ok () w := by
  intro d
  induction d with
  | zero =>
    intro K t x v hT hk hv hd em
    have hf := hE.facts hT
    obtain ⟨dd, hu, hs⟩ := hf.rJ
    rw [Instr.checkKey]
    simp only [Sem.run_bind, run_underlying hu, Result.andThen_ok]
    cases K with
    | int k => cases dd <;> first | cases hs | (obtain ⟨hv, _⟩ := hv; injection hv with hv; subst hv; rfl)
    | bool => have hv : [v] = [.bool x] := hv; injection hv with hv; subst hv; cases dd <;> first | rfl | cases hs
    | str => obtain ⟨hv, _⟩ := hv; injection hv with hv; subst hv; cases dd <;> first | rfl | cases hs
    | st R => simp only [dep] at hd; omega
    | _ => cases hk
  | succ d ih =>
    intro K t x v hT hk hv hd em
    have hf := hE.facts hT
    obtain ⟨dd, hu, hs⟩ := hf.rJ
    rw [Instr.checkKey]
    simp only [Sem.run_bind, run_underlying hu, Result.andThen_ok]
    cases K with
    | int k => cases dd <;> first | cases hs | (obtain ⟨hv, _⟩ := hv; injection hv with hv; subst hv; rfl)
    | bool => have hv : [v] = [.bool x] := hv; injection hv with hv; subst hv; cases dd <;> first | rfl | cases hs
    | str => obtain ⟨hv, _⟩ := hv; injection hv with hv; subst hv; cases dd <;> first | rfl | cases hs
    | st R =>
      obtain ⟨vs, rfl, hr⟩ := hv
      have hlen := bR _ _ _ _ _ hr
      obtain ⟨_, _, dy⟩ := vW hE hk
      simp only [dep] at hd
      rcases dy with ⟨fs, tr, hfc, _⟩ | ⟨m, e, tr, hec⟩
      · rw [hu] at tr
        injection tr with tr
        subst tr
        simp only
        rw [← Array.forIn_toList]
        have each := GY hE fs.toList R 0 hs hfc x vs.toArray (by simp [hlen]) (by simp only [List.drop_zero]; rw [List.take_of_length_le (by simp [hlen])]; exact hr)
        generalize fs.toList = L at each
        induction L with
        | nil => simp
        | cons f L ihL =>
          obtain ⟨hn, T, y, u, hTy, hkT, hdT, p1, dG⟩ := each f (List.mem_cons_self ..)
          have p2 := ih T f.type y u hTy hkT dG (by omega) em
          simp only [List.forIn_cons, Sem.run_bind, hn, ne_eq, not_false_eq_true, if_true, Result.andThen_ok, p1, p2, Sem.run_pure]
          have hL := ihL fun g hg => each g (List.mem_cons_of_mem _ hg)
          simp only [Sem.run_bind, ne_eq, Sem.run_pure] at hL
          exact hL
      · rw [hu] at tr
        injection tr with tr
        subst tr
        simp only [cU] at hs
        split at hs
        · rename_i V hV
          simp only [Bool.and_eq_true] at hs
          obtain ⟨⟨⟨h1, h2⟩, h3⟩, h4⟩ := hs
          have h4 := Nat.le_of_ble_eq_true h4
          obtain ⟨m', rfl⟩ : ∃ m', m = m' + 1 := ⟨m - 1, by omega⟩
          have hR := Ty.dm h1
          subst hR
          have hfV := hE.facts hV
          have hkV : lq E e V := by
            unfold tJ at hec
            rw [hV] at hec
            cases V <;> first | trivial | exact hec | cases hec
          have hdV : dep V ≤ d := by
            have : ∀ n, dep V ≤ dep (rowOf V (n + 1)) := by
              intro n
              cases n with
              | zero => exact Nat.le_refl _
              | succ n => simp only [rowOf, dep]; omega
            have := this m'
            omega
          have JV := pT V (m' + 1)
          have each := JU (w := w) (M := M) h2 m' 0 x vs.toArray (by simp [hlen, JV]) (by simp only [Nat.zero_mul, List.drop_zero]; rw [List.take_of_length_le (by simp [hlen, JV])]; exact hr)
          simp only [Std.Legacy.Range.forIn_eq_forIn_range', Std.Legacy.Range.size, Nat.sub_zero, Nat.add_one_sub_one, Nat.div_one]
          have QI : ∀ i, i ∈ List.range' 0 (m' + 1) → ∃ y : V.den, i < m' + 1 ∧ aH V y w M ((vs.toArray.toList.drop (i * V.cells)).take V.cells) := by
            intro i hi
            have vN : i < m' + 1 := by simpa using hi
            obtain ⟨y, hy⟩ := each i (Nat.zero_le _) (by omega)
            exact ⟨y, vN, hy⟩
          generalize List.range' 0 (m' + 1) = is at QI
          induction is with
          | nil => simp
          | cons i is ihL =>
            obtain ⟨y, hi, hy⟩ := QI i (List.mem_cons_self ..)
            have hle : i * V.cells + V.cells ≤ vs.toArray.size := by
              rw [List.size_toArray, hlen, JV]
              calc i * V.cells + V.cells = (i + 1) * V.cells := by rw [Nat.add_mul, Nat.one_mul]
                _ ≤ (m' + 1) * V.cells := Nat.mul_le_mul_right _ hi
            have p1 := jN hfV (w := w) (cs := vs.toArray) (off := i * V.cells) hle
            have Gg : dt V y w M (valOf V ((vs.toArray.toList.drop (i * V.cells)).take V.cells)) := by
              have := ij hfV.val hy
              have hv := hfV.val
              cases V <;> first | exact this | cases hv
            have p2 := ih V e y _ hV hkV Gg hdV em
            simp only [List.forIn_cons, Sem.run_bind, hfV.sizeOf w, Result.andThen_ok, p1, p2, Sem.run_pure]
            have hL := ihL fun j hj => QI j (List.mem_cons_of_mem _ hj)
            simp only [Sem.run_bind, Sem.run_pure] at hL
            exact hL
        · cases hs
    | _ => cases hk
/-! ### A map's entries -/
def oa(w:World)(M:Mem)(K V:Ty):List (K.den×V.den)→List MapEntry→Prop|[],[]=>True|y::es,e::l=>(∃ca cb,e.key=valOf K ca∧aH K y.1 w M ca∧e.val=valOf V cb∧aH V y.2 w M cb)∧oa w M K V es l|_,_=>False
theorem oc {K V:Ty} : ∀(es:List (K.den×V.den))(l:List MapEntry),l.length=es.length→(∀(i:Nat)(y:K.den×V.den),es[i]?=some y→ ∃(e:MapEntry)(ca cb:List Value),l[i]?=some e∧e.key=valOf K ca∧aH K y.1 w M ca∧e.val=valOf V cb∧aH V y.2 w M cb)→oa w M K V es l|[],[],_,_=>trivial|[],_::_,h,_=>(by simp at h)|_::_,[],h,_=>(by simp at h)|y::es,e::l,hl,h=>by obtain⟨e',ca,cb,h1,h2⟩:=h 0 y rfl;simp only[List.getElem?_cons_zero,Option.some.injEq]at h1;subst h1;exact⟨⟨ca,cb,h2⟩,oc es l (by simpa using hl) fun i z hz=>by simpa using h (i+1) z (by simpa using hz)⟩
theorem lx {T:Ty} {x:T.den} {vs:List Value} (hT:T.val=true)(h:aH T x w M vs):dt T x w M (valOf T vs):=by have:=ij hT h;cases T<;>first|exact this|cases hT
def gA {K V:Type} (eq:K→K→Bool):List (K×V)→K→Option Nat|[],_=>none|p::r,k=>bif eq k p.1 then some 0 else(match gA eq r k with|some i=>some (i+1)|none=>none)
theorem qY {K V:Type} (eq:K→K→Bool)(k:K): ∀(es:List (K×V)),aL eq es k=(gA eq es k).bind fun i=>(es[i]?).map (·.2)|[]=>rfl|p::r=>by simp only[aL,gA];cases eq k p.1 with|true=>rfl|false=>simp only[cond_false,qY eq k r];cases gA eq r k<;>rfl
theorem nf {K V:Type} (eq:K→K→Bool)(k:K)(v:V): ∀(es:List (K×V)),cT eq es k v=(match gA eq es k with|some i=>es.set i (k,v)|none=>es++ [(k,v)])|[]=>rfl|p::r=>by simp only[cT,gA];cases eq k p.1 with|true=>rfl|false=>simp only[cond_false,nf eq k v r];cases gA eq r k<;>rfl
theorem tZ {K V:Type} (eq:K→K→Bool)(k:K): ∀(es:List (K×V))(i:Nat),gA eq es k=some i→ ∃p,es[i]?=some p∧eq k p.1=true|[],i,h=>(by cases h)|p::r,i,h=>by simp only[gA]at h;cases hb:eq k p.1 with|true=>rw[hb]at h;injection h with h;subst h;exact⟨p,rfl,hb⟩|false=>rw[hb]at h;simp only[cond_false]at h;split at h;(·rename_i j hj;injection h with h;subst h;obtain⟨q,h1,h2⟩:=tZ eq k r j hj;exact⟨q,by simpa using h1,h2⟩);·cases h
theorem NS {K:Ty} {x y:K.den} {u v:Value} (hp:fF K=true)(hv:K.val=true)(hx:dt K x w M u)(hy:dt K y w M v):x=y→u=v:=by
 intro e;subst e;cases K with|int k=>have hx:aH (.int k) x w M [u]:=hx;have hy:aH (.int k) x w M [v]:=hy;have:=(cG _ _ _ hp hx).trans (cG _ _ _ hp hy).symm;simpa using this|bool=>have hx:aH .bool x w M [u]:=hx;have hy:aH .bool x w M [v]:=hy;have:=(cG _ _ _ hp hx).trans (cG _ _ _ hp hy).symm;simpa using this|str=>have hx:aH .str x w M [u]:=hx;have hy:aH .str x w M [v]:=hy;have:=(cG _ _ _ hp hx).trans (cG _ _ _ hp hy).symm;simpa using this|st R=>obtain⟨vs,rfl,h1⟩:=hx;obtain⟨us,rfl,h2⟩:=hy;rw[cG R _ _ hp h1,cG R _ _ hp h2]|_=>first|cases hp|cases hv
def gW {K V:Ty} (es:List (K.den×V.den))(l:List MapEntry)(k:K.den)(i0:Nat)(res:Option (Nat×Value)):Prop:=match gA (gF K) es k with|none=>res=none|some i=> ∃e,l[i]?=some e∧res=some (i0+i,e.val)
theorem zQ(hE:aG E) {K V:Ty} {kt:Nat} (hT:E.ty kt=some K)(hk:Ei E kt K=true) {k:K.den} {kv:Value} (vG:dt K k w M kv): ∀(es:List (K.den×V.den))(l:List MapEntry)(i0:Nat),oa w M K V es l→ ∃res,(Instr.findAsking kt kv l i0).run E.P w= .ok res w∧gW es l k i0 res|[],[],i0,_=>⟨none,by simp[Instr.findAsking],rfl⟩|[],_::_,_,h=>h.elim|_::_,[],_,h=>h.elim|y::es,e::l,i0,h=>by obtain⟨⟨ca,cb,h1,h2,h3,h4⟩,h5⟩:=h;obtain⟨hp,PG,hd,oX⟩:=nZ hk;(have hrk:dt K y.1 w M e.key:=by rw[h1];exact lx oX h2);have heq:(Op.equal kt kv e.key).run E.P w= .ok (gF K k y.1) w:=Qx hE 9999 K kt k y.1 kv e.key _ (hE.facts hT) PG vG hrk (QH K k y.1 hp) (by omega);cases hb:gF K k y.1 with|true=>rw[hb]at heq;exact⟨some (i0,e.val),by simp[Instr.findAsking,heq],by simp only[gW,gA,hb,cond_true];exact⟨e,rfl,rfl⟩⟩|false=>rw[hb]at heq;obtain⟨res,hr,hf⟩:=zQ hE hT hk vG es l (i0+1) h5;refine⟨res,by simp[Instr.findAsking,heq,hr],?_⟩;simp only[gW,gA,hb,cond_false]at hf⊢;cases hm:gA (gF K) es k with|none=>rw[hm]at hf;exact hf|some i=>rw[hm]at hf;obtain⟨e',yk,mN⟩:=hf;exact⟨e',by simpa using yk,by rw[mN];simp only[Option.some.injEq,Prod.mk.injEq,and_true];omega⟩
theorem uc {K V:Ty} {d:TypeDesc} (hs:(match K with|.int l=>(match d with|.int k=>jZ k l|_=>false)|.bool=>(match d with|.bool=>true|_=>false)|.str=>(match d with|.string=>true|_=>false)|_=>false)=true) {k:K.den} {kv:Value} (vG:dt K k w M kv): ∀(es:List (K.den×V.den))(l:List MapEntry)(i0:Nat),oa w M K V es l→ ∃res,Instr.findNow d kv l i0=some res∧gW es l k i0 res|[],[],i0,_=>⟨none,rfl,rfl⟩|[],_::_,_,h=>h.elim|_::_,[],_,h=>h.elim|y::es,e::l,i0,h=>by obtain⟨⟨ca,cb,h1,h2,h3,h4⟩,h5⟩:=h;(have ud:Instr.sameNow d kv e.key=some (gF K k y.1):=by cases K with|int kk=>have vG:aH (.int kk) k w M [kv]:=vG;have e1:=cG (.int kk) k _ rfl vG;have e2:=cG (.int kk) y.1 _ rfl h2;simp only[ko,List.cons.injEq,and_true]at e1 e2;subst e1;rw[h1,e2];(cases d<;>first|(cases hs;done)|skip);simp only[Instr.sameNow,valOf,List.headD_cons,if_true,gF];congr 1|bool=>have vG:aH .bool k w M [kv]:=vG;have e1:=cG .bool k _ rfl vG;have e2:=cG .bool y.1 _ rfl h2;simp only[ko,List.cons.injEq,and_true]at e1 e2;subst e1;rw[h1,e2];(cases d<;>first|rfl|(cases hs;done))|str=>have vG:aH .str k w M [kv]:=vG;have e1:=cG .str k _ rfl vG;have e2:=cG .str y.1 _ rfl h2;simp only[ko,List.cons.injEq,and_true]at e1 e2;subst e1;rw[h1,e2];(have hb: ∀a b:List UInt8,((⟨a.toArray⟩:ByteArray)==⟨b.toArray⟩)=decide (a=b):=by intro a b;rw[Bool.eq_iff_iff,bytes_beq,decide_eq_true_iff];constructor;(·intro h;injection h with h;simpa using congrArg Array.toList h);·intro h;rw[h]);(cases d<;>first|(cases hs;done)|skip);simp only[Instr.sameNow,valOf,List.headD_cons,hb,gF]|_=>cases hs);cases hb:gF K k y.1 with|true=>rw[hb]at ud;exact⟨some (i0,e.val),by simp[Instr.findNow,ud],by simp only[gW,gA,hb,cond_true];exact⟨e,rfl,rfl⟩⟩|false=>rw[hb]at ud;obtain⟨res,hr,hf⟩:=uc hs vG es l (i0+1) h5;refine⟨res,by simp[Instr.findNow,ud,hr],?_⟩;simp only[gW,gA,hb,cond_false]at hf⊢;cases hm:gA (gF K) es k with|none=>rw[hm]at hf;exact hf|some i=>rw[hm]at hf;obtain⟨e',yk,mN⟩:=hf;exact⟨e',by simpa using yk,by rw[mN];simp only[Option.some.injEq,Prod.mk.injEq,and_true];omega⟩
theorem ue(hE:aG E) {K V:Ty} {kt:Nat} (hT:E.ty kt=some K)(hk:Ei E kt K=true) {k:K.den} {kv:Value} (vG:dt K k w M kv)(es:List (K.den×V.den))(l:List MapEntry)(h:oa w M K V es l): ∃res,(Instr.findKey kt kv l).run E.P w= .ok res w∧gW es l k 0 res:=by
 obtain⟨d,hu,hs⟩:=(hE.facts hT).rJ;(have now: ∀res,Instr.findNow d kv l 0=some res→(Instr.findKey kt kv l).run E.P w= .ok res w:=fun res hr=>by simp[Instr.findKey,run_underlying hu,hr])
 (have ask:Instr.findNow d kv l 0=none→ ∃res,(Instr.findKey kt kv l).run E.P w= .ok res w∧gW es l k 0 res:=fun hr=>by obtain⟨res,h1,h2⟩:=zQ hE hT hk vG es l 0 h;exact⟨res,by simp[Instr.findKey,run_underlying hu,hr,h1],h2⟩)
 cases K with|int kk=>obtain⟨res,h1,h2⟩:=uc (d:=d) (by cases d<;>first|exact hs|cases hs) vG es l 0 h;exact⟨res,now res h1,h2⟩|bool=>obtain⟨res,h1,h2⟩:=uc (d:=d) (by cases d<;>first|exact hs|cases hs) vG es l 0 h;exact⟨res,now res h1,h2⟩|str=>obtain⟨res,h1,h2⟩:=uc (d:=d) (by cases d<;>first|exact hs|cases hs) vG es l 0 h;exact⟨res,now res h1,h2⟩|st R=>(match es,l,h with|[],[],_=>exact⟨none,now none rfl,rfl⟩|y::es,e::l,h=>refine ask ?_;simp only[cU]at hs;cases d<;>first|(cases hs;done)|rfl)|_=>cases hk
end
end Go.Proofs.YtgpkijnphchkpaaGreat
namespace Go.Proofs.YtgpkijnphchkpaaGreat
variable {dV:Prop} [jY dV]
open Go.RowKit Go.MapKept
section
variable {E:Env} {n:Nat} {w0:World} {S0:Cx} {s:St} {a:Act} {w:World} {ν:Nat→Value} {S:Nat→Prop} {F:dF} {o:Oper} {K:St→Prop} {Q:Exit→Act→World→Prop}
theorem zR(hE:aG E) {t:Nat} {A B:Ty} (hT:E.ty t=some (.mp A B)): ∃k v,E.P.underlying t=some (.map k v)∧E.ty k=some A∧E.ty v=some B∧A.val=true∧B.val=true∧aR A=0∧aR B=0:=by
 have hf:=hE.facts hT;obtain⟨d,hu,hs⟩:=hf.rJ;have ho:=hf.own;simp only[aR]at ho;cases d with|map k v=>simp only[cU,Bool.and_eq_true]at hs;obtain⟨⟨⟨h1,h2⟩,h3⟩,h4⟩:=hs;(have is: ∀(u:Nat)(U:Ty),pN E.ty u U=true→E.ty u=some U:=by intro u U h;unfold pN at h;split at h;(·rename_i X hX;rw[Ty.dm h]at hX;exact hX);·cases h);exact⟨k,v,hu,is _ _ h1,is _ _ h2,h3,h4,by omega,by omega⟩|_=>simp only[cU]at hs;cases hs
theorem LP(hE:aG E) {t kt:Nat} (hk:E.mapKey t=some kt) {k v:Nat} (hu:E.P.underlying t=some (.map k v)):kt=k:=by
 have:=hE.mapKey t kt hk;unfold LD at this;rw[hu]at this;exact Nat.eq_of_beq_eq_true this
theorem JW(hE:aG E)(h:Full n w0 S0 s a w ν S)(ho:bJ n o=true) {t:Nat} (aJ:o.op= .makeMap t none)(ab:br E (aj E F s o) (fun l=>K (s.fin o.dst l))):o.wp E.P a w (fun a' w'=> ∃s',K s'∧Rel n w0 S0 s' a' w') Q:=by
 simp only[aj,aJ]at ab;split at ab;(·rename_i A B d hT hd;split at ab;(·rename_i hl;simp only[br,St.fin,hd]at ab;obtain⟨k,v,hu,_,_,_,_,VJ,LQ⟩:=zR hE hT;(have hr:(execOp a.eval o).run E.P w= .ok (.value (.map (some w.heap.size))) (w.alloc (.map #[] 0)):=by simp only[execOp,aJ,Instr.makeMap,Option.map_none,Sem.run_bind,Result.andThen_ok,Sem.run_pure];rfl);refine cY hr ⟨_,ab,?_⟩;rw[hd];have hh:(w.alloc (.map #[] 0)).heap[w.heap.size]?=some (.map #[] 0):=_root_.Go.heap_alloc_new w _;refine(h.new (b:=.mp A B []) (p:=.lmap d) (v:=.map (some w.heap.size)) (val:=.map (some w.heap.size)) (bp ho d hd) hl (dC w _ none) (fun g hg=>h.beyond (by injection hg with hg;omega)) ?_ ?_).rel;(·refine⟨VJ,LQ,by simp,w.heap.size,#[],0,by simp,h.W.size _ (Nat.le_refl _),fun hS=>absurd (h.W.lt _ hS) (by simp),hh,⟨rfl,fun i e hi=>by simp at hi⟩,rfl,fun i y hy=>by simp at hy⟩);·simp only[ag];exact⟨⟨_,aM _ _ _⟩,by simp,_,rfl⟩);·exact ab.elim)
 ·exact ab.elim
theorem Full.entries(h:Full n w0 S0 s a w ν S) {A B:Ty} {p:PV} {v:Value} {es:List (A.den×B.den)} (hx:mS F s.bl A B p=some es)(hp:ag h.c p v):(v= .map none∧es=[])∨ ∃(r:Nat)(ax:Array MapEntry)(clock:Nat),v= .map (some r)∧w.heap[r]?=some (.map ax clock)∧ph ax clock∧ax.size=es.length∧oa w ⟨S,aK w0 S0⟩ A B es ax.toList:=by
 cases p with|iv U y=>simp only[mS]at hx;obtain⟨e,hx⟩:=Ty.bA hx;subst e;simp only at hx;subst hx;simp only[ag]at hp;obtain⟨_,hp⟩:=hp;have hp:aH (.mp A B) y w ⟨S,aK w0 S0⟩ [v]:=hp;obtain⟨_,hc⟩:=hp;rcases hc with⟨hv,he⟩|⟨r,ax,clock,hv,hS,hh,hb,hs,hr⟩;(·injection hv with hv;exact .inl ⟨hv,he⟩);(·injection hv with hv;exact .inr ⟨r,ax,clock,hv,hh,hb,hs,oc _ _ (by simpa using hs) (by simpa using hr)⟩)|lmap id=>simp only[mS]at hx;split at hx;(·rename_i A' B' ys hl;obtain⟨hl,_⟩:=cE hl;obtain⟨e,hx⟩:=Ty.bA hx;injection e with e1 e2;subst e1;subst e2;simp only at hx;subst hx;simp only[ag]at hp;obtain⟨dg,tG,h0,r,ax,clock,h1,h2,h3,h4,h5,h6,h7⟩:=h.W.cA _ _ hl;refine .inr ⟨r,ax,clock,?_,h4,h5,h6,oc _ _ (by simpa using h6) (by simpa using h7)⟩;rw[hp.2.1];exact h1);(·cases hx)|dP=>simp only[mS,Option.some.injEq]at hx;simp only[ag]at hp;exact .inl ⟨hp,hx.symm⟩|_=>simp only[mS]at hx;cases hx
theorem GZ: ∀(T:Ty),fF T=true→T.flat=true:=by intro T;induction T<;>simp_all[fF,Ty.flat]
theorem Full.key(h:Full n w0 S0 s a w ν S) {A:Ty} {kt:Nat} (hk:Ei E kt A=true) {q:PV} {v:Value} {k:A.den} (hx:exp F s.bl A q=some k)(hq:ag h.c q v)(M:Mem):dt A k w M v:=by
 obtain⟨hp,_,_,_⟩:=nZ hk;have pb:=GZ A hp;have hR:Reads F s h.c ⟨fun b=>b<w.heap.size,aK w0 S0⟩:=⟨rfl,h.W.cA,fun b hb=>h.W.lt b hb,fun id _⟨b,hb⟩g hg=>(h.iH hb hg).2.2⟩
 exact EC pb (fB hR (.inl (CY A pb)) hx hq)
theorem QJ: ∀(T:Ty),T.Lu=true→ ∃vs,dH T=some vs:=by
 intro T;induction T with|pair a b iG gP=>intro h;simp only[Ty.Lu,Bool.and_eq_true]at h;obtain⟨x,hx⟩:=iG h.1;obtain⟨y,hy⟩:=gP h.2;exact⟨x++y,by simp only[dH,hx,hy]⟩|st t ih=>intro h;exact ih h|_=>intro h;first|exact⟨_,rfl⟩|cases h
theorem vY {T:Ty} {z:Value} {M:Mem} (hz:pM (some z) T=true)(hT:T.Lu=true)(hv:T.val=true):dt T (dA T) w M z:=by
 obtain⟨vs,tk⟩:=QJ T hT;have hr:=pY (w:=w) (M:=M) T vs hT tk;unfold pM at hz;rw[tk]at hz;simp only at hz;split at hz;(·split at hz;(·rename_i cs;have:=mf hz;exact⟨vs,by rw[←this],hr⟩);·cases hz)
 ·split at hz;(·rename_i di _ u;have:=nV hz;subst this;cases T<;>first|exact hr|(cases hv;done)|(exact absurd rfl (di _)));·cases hz
theorem ED {c:Ctx} {T:Ty} {z:Value} {cs:List PV} (hz:pM (some z) T=true)(hv:T.val=true)(hc:zeroCells T=some cs)(Jn:z.cells.size=T.cells):ag c (join T cs) z:=by
 obtain⟨vs,JE,bF,h1⟩:=pS (c:=c) T cs hc;have hz':=lj hz JE;(have oX:z=valOf T vs:=by unfold pM at hz;rw[JE]at hz;simp only at hz;split at hz;(·split at hz;(·rename_i jn;have:=mf hz;simp only[valOf];rw[←this]);·cases hz);·split at hz;(·rename_i di _ u;have:=nV hz;subst this;cases T<;>first|rfl|(cases hv;done)|(exact absurd rfl (di _)));·cases hz)
 rw[oX];exact jM (by rw[←hz',Array.length_toList,Jn]) hv h1 bF
theorem iJ {c:Ctx} {ps:List PV} {vs:List Value} (h:ai c ps vs):ag c (.bq ps) (.tuple vs.toArray):=by simp only[ag];exact⟨vs,rfl,h⟩
theorem kM {c:Ctx} {p q:PV} {u v:Value} (h1:ag c p u)(h2:ag c q v):ai c [p,q] [u,v]:=by simp only[ai];exact⟨_,_,rfl,h1,_,_,rfl,h2,rfl⟩
def yp(z:Value):Option (Nat×Value)→Value|some (_,v)=>v|none=>z
theorem sr {P:Program} {t kt ve:TypeId} {xv kv z:Value} {ok:Bool} {l:List MapEntry} {res:Option (Nat×Value)} (hu:P.underlying t=some (.map kt ve))(su:(xv= .map none∧l=[])∨ ∃(r:Nat)(ax:Array MapEntry)(clock:Nat),xv= .map (some r)∧w.heap[r]?=some (.map ax clock)∧ax.toList=l)(LR: ∀em,(Instr.checkKey em 10000 kt kv).run P w= .ok () w)(jf:(Instr.findKey kt kv l).run P w= .ok res w)(hz:(zeroValue ve).run P w= .ok z w):(Instr.lookup t xv kv ok).run P w= .ok (if ok then .tuple #[yp z res,.bool res.isSome]else yp z res) w:=by
 unfold Instr.lookup;rcases su with⟨rfl,rfl⟩|⟨r,ax,clock,rfl,hh,rfl⟩;(·cases res with|none=>cases ok<;>simp[run_underlying hu,LR,jf,hz,yp]|some p=>cases ok<;>simp[run_underlying hu,LR,jf,yp])
 ·cases res with|none=>cases ok<;>simp[run_underlying hu,MapKept.run_getObj_map hh,LR,jf,hz,yp]|some p=>cases ok<;>simp[run_underlying hu,MapKept.run_getObj_map hh,LR,jf,yp]
theorem NT(hE:aG E)(h:Full n w0 S0 s a w ν S)(ho:bJ n o=true) {t:Nat} {x y:Operand} {ok:Bool} (aJ:o.op= .lookup t x y ok)(ab:br E (aj E F s o) (fun l=>K (s.fin o.dst l))):o.wp E.P a w (fun a' w'=> ∃s',K s'∧Rel n w0 S0 s' a' w') Q:=by
 simp only[aj,aJ,nT]at ab;have hx:=h.ev (az ho (x:=x) (by simp[aJ,Op.operands]));have hy:=h.ev (az ho (x:=y) (by simp[aJ,Op.operands]));split at ab;(·rename_i A B kt hT hkt;split at ab;(·rename_i es k hes hk od;obtain⟨k',ve,hu,hTA,hTB,PI,Gi,VJ,LQ⟩:=zR hE hT;have hkk:=LP hE hkt hu;subst hkk;obtain⟨hp,PG,We,_⟩:=nZ od;have yq:=h.entries hes hx;have vG:=h.key od hk hy ⟨S,aK w0 S0⟩;obtain⟨i,hi,de,hby,GG,z,hz,Jn⟩:=(hE.facts hTB).info;rw[hz]at GG;(have ba7:(zeroValue ve).run E.P w= .ok z w:=by simp only[zeroValue,typeInfo,Sem.run_bind,run_program,Result.andThen_ok,hi,hz,Sem.run_pure]);have LR: ∀em,(Instr.checkKey em 10000 kt (a.eval y)).run E.P w= .ok () w:=fun em=>qX hE 9999 A kt k _ hTA PG vG (by omega) em;(obtain⟨res,l,su,jf,dR,hl⟩: ∃(res:Option (Nat×Value))(l:List MapEntry),((a.eval x= .map none∧l=[])∨ ∃(r:Nat)(ax:Array MapEntry)(clock:Nat),a.eval x= .map (some r)∧w.heap[r]?=some (.map ax clock)∧ax.toList=l)∧(Instr.findKey kt (a.eval y) l).run E.P w= .ok res w∧gW es l k 0 res∧oa w ⟨S,aK w0 S0⟩ A B es l:=by rcases yq with⟨hv,rfl⟩|⟨r,ax,clock,hv,hh,hb,hs,hr⟩;(·obtain⟨res,h1,h2⟩:=ue hE (V:=B) hTA od vG [] [] trivial;exact⟨res,[],.inl ⟨hv,rfl⟩,h1,h2,trivial⟩);·obtain⟨res,h1,h2⟩:=ue hE (V:=B) hTA od vG es ax.toList hr;exact⟨res,ax.toList,.inr ⟨r,ax,clock,hv,hh,rfl⟩,h1,h2,hr⟩);(have QK:(execOp a.eval o).run E.P w= .ok (.value (if ok then .tuple #[yp z res,.bool res.isSome]else yp z res)) w:=by simp only[execOp,aJ,Sem.run_bind,sr (ok:=ok) hu su LR jf ba7,Result.andThen_ok,Sem.run_pure]);cases hm:gA (gF A) es k with|none=>simp only[gW,hm]at dR;subst dR;(have Wm:aL (gF A) es k=none:=by rw[qY,hm];rfl);have aU:=QK;simp only[yp,Option.isSome_none]at aU;(have ba8:ag h.c (zn B) z:=by unfold zn;split;(·rename_i tW;exact bS LQ (vY GG tW Gi) Gi);·split;(·rename_i cs Gd;exact ED GG Gi Gd Jn);·simp only[ag]);split at ab;(·rename_i tW;rw[Wm]at ab;refine h.val ho aU ?_ ab;simp only[Option.getD_none,Bool.false_eq_true,if_false];exact bS LQ (vY GG tW Gi) Gi);(·exact h.val ho aU (by simpa using ba8) (ab.2 Wm));(·refine h.val ho aU ?_ (ab.2 Wm);have h2:ag h.c (.iv .bool false) (.bool false):=bN;simp only[if_true];exact iJ (kM ba8 h2));(·obtain⟨v,hv,_⟩:=ab;rw[Wm]at hv;cases hv);(·rename_i tW _;rw[Wm]at ab;refine h.val ho aU ?_ ab;have h2:ag h.c (.iv .bool false) (.bool false):=bN;simp only[if_true];exact iJ (kM (bS LQ (vY GG tW Gi) Gi) h2));(·obtain⟨v,hv,_⟩:=ab;rw[Wm]at hv;cases hv)|some j=>simp only[gW,hm]at dR;obtain⟨e,he,rfl⟩:=dR;obtain⟨yy,JX,_⟩:=tZ _ _ _ _ hm;(have JL:aL (gF A) es k=some yy.2:=by rw[qY,hm];simp[JX]);(have bQ:dt B yy.2 w ⟨S,aK w0 S0⟩ e.val:=by(have at_: ∀(es:List (A.den×B.den))(l:List MapEntry)(j:Nat)(yy:A.den×B.den)(e:MapEntry),oa w ⟨S,aK w0 S0⟩ A B es l→es[j]?=some yy→l[j]?=some e→dt B yy.2 w ⟨S,aK w0 S0⟩ e.val:=by intro es;induction es with|nil=>intro l j yy e _ h1;simp at h1|cons p es ih=>intro l j yy e hl h1 h2;cases l with|nil=>exact hl.elim|cons q l=>cases j with|zero=>simp only[List.getElem?_cons_zero,Option.some.injEq]at h1 h2;subst h1;subst h2;obtain⟨⟨ca,cb,_,_,h3,h4⟩,_⟩:=hl;rw[h3];exact lx Gi h4|succ j=>exact ih l j yy e hl.2 (by simpa using h1) (by simpa using h2));exact at_ es l j yy e hl JX he);have aU:=QK;simp only[yp,Option.isSome_some]at aU;have Jo:ag h.c (.iv B yy.2) e.val:=bS LQ bQ Gi;split at ab;(·rename_i tW;rw[JL]at ab;exact h.val ho aU (by simpa using Jo) ab);(·exact h.val ho aU (by simpa using Jo) (ab.1 _ JL));(·refine h.val ho aU ?_ (ab.1 _ JL);have h2:ag h.c (.iv .bool true) (.bool true):=bN;simp only[if_true];exact iJ (kM Jo h2));(·obtain⟨v,hv,oS⟩:=ab;rw[JL]at hv;injection hv with hv;subst hv;exact h.val ho aU (by simpa using Jo) oS);(·rw[JL]at ab;refine h.val ho aU ?_ ab;have h2:ag h.c (.iv .bool true) (.bool true):=bN;simp only[if_true];exact iJ (kM Jo h2));·obtain⟨v,hv,oS⟩:=ab;rw[JL]at hv;injection hv with hv;subst hv;refine h.val ho aU ?_ oS;have h2:ag h.c (.iv .bool true) (.bool true):=bN;simp only[if_true];exact iJ (kM Jo h2));·exact ab.elim)
 ·exact ab.elim
theorem CZ {T:Ty} {x:T.den} {M:Mem} {v:Value} (hT:T.val=true)(h:dt T x w M v):v=valOf T v.cells.toList∧aH T x w M v.cells.toList:=by
 refine⟨?_,lb hT h⟩;cases T with|st t=>obtain⟨vs,rfl,_⟩:=h;rfl|unit=>cases hT|pair a b=>cases hT|bq a b=>cases hT|_=>have hr:=lb hT h;have hl:=bR _ _ _ _ _ hr;simp only[Ty.cells]at hl;have h1:=tE _ _ _ _ _ h v (List.mem_singleton.2 rfl);cases v<;>first|rfl|(simp[Value.oneCell']at h1;done)
theorem ml(w:World)(r:Nat)(o:Obj):eN w { w with heap:=w.heap.setIfInBounds r o } (some r):=⟨rfl,rfl,rfl,by simp,fun k _ hk=>by have hkr:r≠k:=fun e=>hk (by rw[e]);simp[hkr],fun _=>Nat.le_refl _⟩
theorem C0 {w w':World} {M M':Mem} {A B:Ty} (hA:aR A=0)(hB:aR B=0)(hw: ∀b,M.S b→w'.heap[b]?=w.heap[b]?)(hS: ∀b,M.S b→M'.S b): ∀(es:List (A.den×B.den))(l:List MapEntry),oa w M A B es l→oa w' M' A B es l|[],[],_=>trivial|[],_::_,h=>h.elim|_::_,[],h=>h.elim|y::es,e::l,h=>by obtain⟨⟨ca,cb,h1,h2,h3,h4⟩,h5⟩:=h;exact⟨⟨ca,cb,h1,aB hw hS _ _ _ hA h2,h3,aB hw hS _ _ _ hB h4⟩,C0 hA hB hw hS es l h5⟩
theorem uf {w:World} {M:Mem} {A B:Ty} : ∀(es:List (A.den×B.den))(l:List MapEntry),oa w M A B es l→l.length=es.length|[],[],_=>rfl|[],_::_,h=>h.elim|_::_,[],h=>h.elim|y::es,e::l,h=>by simp[uf es l h.2]
theorem ug {w:World} {M:Mem} {A B:Ty} : ∀(es:List (A.den×B.den))(l:List MapEntry),oa w M A B es l→ ∀(i:Nat)(y:A.den×B.den),es[i]?=some y→ ∃(e:MapEntry)(ca cb:List Value),l[i]?=some e∧e.key=valOf A ca∧aH A y.1 w M ca∧e.val=valOf B cb∧aH B y.2 w M cb|[],[],_,i,y,hy=>(by simp at hy)|[],_::_,h,_,_,_=>h.elim|_::_,[],h,_,_,_=>h.elim|y::es,e::l,h,i,z,hz=>by cases i with|zero=>simp only[List.getElem?_cons_zero,Option.some.injEq]at hz;subst hz;obtain⟨⟨ca,cb,h1⟩,_⟩:=h;exact⟨e,ca,cb,rfl,h1⟩|succ i=>simpa using ug es l h.2 i z (by simpa using hz)
theorem G0 {w:World} {M:Mem} {A B:Ty} {y:A.den×B.den} {f:MapEntry} (hf: ∃ca cb,f.key=valOf A ca∧aH A y.1 w M ca∧f.val=valOf B cb∧aH B y.2 w M cb): ∀(es:List (A.den×B.den))(l:List MapEntry)(i:Nat),oa w M A B es l→oa w M A B (es.set i y) (l.set i f)|[],[],_,_=>trivial|[],_::_,_,h=>h.elim|_::_,[],_,h=>h.elim|z::es,e::l,i,h=>by cases i with|zero=>exact⟨hf,h.2⟩|succ i=>exact⟨h.1,G0 hf es l i h.2⟩
theorem C1 {w:World} {M:Mem} {A B:Ty} {y:A.den×B.den} {f:MapEntry} (hf: ∃ca cb,f.key=valOf A ca∧aH A y.1 w M ca∧f.val=valOf B cb∧aH B y.2 w M cb): ∀(es:List (A.den×B.den))(l:List MapEntry),oa w M A B es l→oa w M A B (es++ [y]) (l++ [f])|[],[],_=>⟨hf,trivial⟩|[],_::_,h=>h.elim|_::_,[],h=>h.elim|z::es,e::l,h=>⟨h.1,C1 hf es l h.2⟩
theorem uh(hE:aG E)(h:Full n w0 S0 s a w ν S)(ho:bJ n o=true) {t:Nat} {x y z:Operand} (aJ:o.op= .mapUpdate t x y z∨o.op= .insert t x y z)(ab:br E (aj E F s o) (fun l=>K (s.fin o.dst l))):o.wp E.P a w (fun a' w'=> ∃s',K s'∧Rel n w0 S0 s' a' w') Q:=by
 (have ab:br E (match o.dst with|none=>kZ E F s.bl t (s.ev x) (s.ev y) (s.ev z)|some _=>.fail 79) (fun l=>K (s.fin o.dst l)):=by cases hd:o.dst with|none=>rcases aJ with aJ|aJ<;>(simp only[aj,aJ,hd]at ab;exact ab)|some d=>rcases aJ with aJ|aJ<;>(simp only[aj,aJ,hd]at ab;exact ab))
 (have mem: ∀u,u=x∨u=y∨u=z→mg u=true:=by intro u hu;refine az ho ?_;rcases aJ with aJ|aJ<;>rcases hu with rfl|rfl|rfl<;>simp[aJ,Op.operands]);have hx:=h.ev (mem x (.inl rfl))
 have hy:=h.ev (mem y (.inr (.inl rfl)));have hz:=h.ev (mem z (.inr (.inr rfl)));(have LS: ∀w',(Instr.mapUpdate t (a.eval x) (a.eval y) (a.eval z)).run E.P w= .ok () w'→(execOp a.eval o).run E.P w= .ok .skip w':=by intro w' hr;rcases aJ with aJ|aJ<;>simp only[execOp,aJ,Sem.run_bind,hr,Result.andThen_ok,Sem.run_pure])
 split at ab;(·rename_i hd;simp only[kZ]at ab;split at ab;(·rename_i A B kt hT hkt;split at ab;(·rename_i id bQ;split at ab;(·rename_i A' B' zs hl;obtain⟨hl,_⟩:=cE hl;split at ab;(·rename_i es k v lp hk od JM oQ VK hr4 hv;obtain⟨e',mY⟩:=Ty.bA lp;injection e' with e1 e2;subst e1;subst e2;simp only at mY;subst mY;obtain⟨hlen,hK⟩:=ab;obtain⟨k',ve,hu,hTA,hTB,PI,Gi,VJ,LQ⟩:=zR hE hT;have hkk:=LP hE hkt hu;subst hkk;obtain⟨hp,PG,We,_⟩:=nZ od;have vG:=h.key od hk hy ⟨S,aK w0 S0⟩;have hvv:dt _ v w ⟨S,aK w0 S0⟩ (a.eval z):=h.Qn LQ VK hr4 hv hz;rw[bQ]at hx;simp only[ag]at hx;obtain⟨_,nc,_⟩:=hx;obtain⟨dg,tG,h0,r,ax,clock,h1,h2,h3,h4,h5,h6,h7⟩:=h.W.cA _ _ hl;simp only[Full.c]at nc;simp only at h1 h2 h3 h4;have hl7:=oc (w:=w) (M:=⟨S,aK w0 S0⟩) zs ax.toList (by simpa using h6) (by simpa using h7);obtain⟨res,jf,dR⟩:=ue hE (V:=B') hTA od vG zs ax.toList hl7;have LR: ∀em,(Instr.checkKey em 10000 kt (a.eval y)).run E.P w= .ok () w:=fun em=>qX hE 9999 _ kt k _ hTA PG vG (by omega) em;(have kj:aE (ν id)=some r:=by rw[h1];rfl);(have hf: ∀bb:Nat,∃ca cb,(⟨a.eval y,a.eval z,bb⟩:MapEntry).key=valOf A' ca∧aH A' k w ⟨S,aK w0 S0⟩ ca∧(⟨a.eval y,a.eval z,bb⟩:MapEntry).val=valOf B' cb∧aH B' v w ⟨S,aK w0 S0⟩ cb:=fun bb=>by obtain⟨g1,g2⟩:=CZ PI vG;obtain⟨g3,g4⟩:=CZ Gi hvv;exact⟨_,_,g1,g2,g3,g4⟩);(have fin: ∀(er:Array MapEntry)(dN:Nat),(Instr.mapUpdate t (a.eval x) (a.eval y) (a.eval z)).run E.P w= .ok () { w with heap:=w.heap.setIfInBounds r (.map er dN) } →ph er dN→oa w ⟨S,aK w0 S0⟩ A' B' (cT (gF A') zs k v) er.toList→o.wp E.P a w (fun a' w'=> ∃s',K s'∧Rel n w0 S0 s' a' w') Q:=by intro er dN aU jl jX;refine lh (LS _ aU) ⟨_,hK,?_⟩;rw[hd];have sq:=ml w r (.map er dN);have hS: ∀b,S b→({ w with heap:=w.heap.setIfInBounds r (.map er dN) } :World).heap[b]?=w.heap[b]?:=fun b hb=>sq.block b (h.W.lt b hb) (fun e=>by injection e with e;subst e;exact h3 hb);have CO:({ w with heap:=w.heap.setIfInBounds r (.map er dN) } :World).heap[r]?=some (.map er dN):=(MapKept.heap_set h4).1;have ba9:=C0 (M:=⟨S,aK w0 S0⟩) (M':=⟨S,aK w0 S0⟩) dg tG hS (fun _ h=>h) _ _ jX;refine(h.upd (b':=.mp A' B' (cT (gF A') zs k v)) hl (by rw[kj];exact sq) ?_).rel;exact⟨dg,tG,hlen,r,er,dN,h1,h2,h3,CO,jl,by simpa using uf _ _ ba9,fun i yy JX=>by simpa using ug _ _ ba9 i yy JX⟩);cases hm:gA (gF A') zs k with|none=>simp only[gW,hm]at dR;subst dR;refine fin (ax.push ⟨a.eval y,a.eval z,clock⟩) (clock+1) ?_ ?_ ?_;(·rw[nc,h1];simp[Instr.mapUpdate,run_underlying hu,MapKept.run_getObj_map h4,LR,jf,MapKept.run_setObj_map _ h4]);(·obtain⟨hc,hb⟩:=h5;subst hc;refine⟨by simp,fun i e hi=>?_⟩;rw[Array.getElem?_push]at hi;split at hi;(·rename_i vZ;injection hi with hi;subst hi;exact vZ.symm);·exact hb i e hi);(·rw[nf,hm];simp only[Array.toList_push];exact C1 (hf clock) zs ax.toList hl7)|some j=>simp only[gW,hm]at dR;obtain⟨e,he,rfl⟩:=dR;obtain⟨yy,JX,heq⟩:=tZ _ _ _ _ hm;have heq:=(yE _ _ _ hp).1 heq;(have yk:ax[j]?=some e:=by simpa using he);obtain⟨e2,ca,cb,g1,g2,g3,g4,g5⟩:=ug zs ax.toList hl7 j yy JX;rw[he]at g1;injection g1 with g1;subst g1;(have aC8:e.key=a.eval y:=by refine NS (M:=⟨S,aK w0 S0⟩) (w:=w) hp PI (x:=yy.1) (y:=k) ?_ vG heq.symm;rw[g2];exact lx PI g3);refine fin (ax.modify j fun e=> { e with key:=a.eval y,val:=a.eval z }) clock ?_ ?_ ?_;(·rw[nc,h1];simp[Instr.mapUpdate,run_underlying hu,MapKept.run_getObj_map h4,LR,jf,yk,aC8,tY hp PI vG,MapKept.run_setObj_map _ h4]);(·obtain⟨hc,hb⟩:=h5;refine⟨by simpa using hc,fun i e2 hi=>?_⟩;rw[Array.getElem?_modify]at hi;split at hi;(·rename_i fv;subst fv;rw[yk]at hi;simp only[Option.map_some,Option.some.injEq]at hi;subst hi;exact hb _ e yk);·exact hb i e2 hi);·rw[nf,hm];(have NU:(ax.modify j fun e=> { e with key:=a.eval y,val:=a.eval z }).toList=ax.toList.set j ⟨a.eval y,a.eval z,e.born⟩:=by apply List.ext_getElem?;intro i;rw[Array.getElem?_toList,Array.getElem?_modify,List.getElem?_set];by_cases fv:j=i;(·subst fv;have ND:j<ax.toList.length:=(List.getElem?_eq_some_iff.1 he).1;rw[yk,if_pos rfl,if_pos rfl,if_pos ND];rfl);·simp[fv]);rw[NU];exact G0 (hf e.born) zs ax.toList j hl7);·exact ab.elim);·exact ab.elim);·exact ab.elim);·exact ab.elim)
 ·exact ab.elim
end
end Go.Proofs.YtgpkijnphchkpaaGreat
namespace Go.Proofs.YtgpkijnphchkpaaGreat
variable {dV:Prop} [jY dV]
open Go.RowKit
section
variable {E:Env} {n:Nat} {w0:World} {S0:Cx} {s:St} {a:Act} {w:World} {ν:Nat→Value} {S:Nat→Prop} {F:dF} {o:Oper} {K:St→Prop} {Q:Exit→Act→World→Prop}
theorem JY(s:ByteArray)(i:Nat):(Utf8.decode s i).1≤1114111:=by
 (have hv: ∀c:Nat,Utf8.valid (c:Int)=true→c≤1114111:=by intro c h;unfold Utf8.valid at h;simp only[Bool.or_eq_true,Bool.and_eq_true,decide_eq_true_eq]at h;omega)
 unfold Utf8.decode;simp only;split;(·simp only;omega);·split;(·split;(·simp only;omega);·simp only[Utf8.runeError];omega);·split;(·split;(·rename_i h;simp only[Bool.and_eq_true]at h;exact hv _ h.2);·simp only[Utf8.runeError];omega);·split;(·split;(·rename_i h;simp only[Bool.and_eq_true]at h;exact hv _ h.2);·simp only[Utf8.runeError];omega);·simp only[Utf8.runeError];omega
theorem Full.aw2(h:Full n w0 S0 s a w ν S) {d:Nat} (hd:d<n)(hl:look d s.bl=none) {ob:Obj} {b:aO} (hb: ∀c:Ctx,c.ν d= .pointer (some ⟨w.heap.size,0,none⟩)→c.M.O w.heap.size→ ¬c.M.S w.heap.size→c.w.heap[w.heap.size]?=some ob→Ctx.Le h.c c→lY c d b):Rel n w0 S0 ⟨(d,.ref d 0)::s.sl,(d,b)::s.bl⟩ (a.put (some d) (.pointer (some ⟨w.heap.size,0,none⟩))) (w.alloc ob):=by
 have hh:(w.alloc ob).heap[w.heap.size]?=some ob:=_root_.Go.heap_alloc_new w _;refine(h.new (b:=b) (p:=.ref d 0) (v:=.pointer (some ⟨w.heap.size,0,none⟩)) (val:=.pointer (some ⟨w.heap.size,0,none⟩)) hd hl (dC w _ none) (fun g hg=>h.beyond (by injection hg with hg;simp only at hg;omega)) ?_ ?_).rel
 (·refine hb _ (by simp) (h.W.size _ (Nat.le_refl _)) (fun hS=>absurd (h.W.lt _ hS) (by simp)) hh ⟨fun g hg=>?_,fun _ h=>h,fun i hi=>?_,fun i hi=>?_⟩;(·exact(dC w ob none).block g (h.W.lt g hg) (by simp));(·obtain⟨c,hc⟩:=hi;(have bY:i≠d:=by rintro rfl;rw[hl]at hc;cases hc);exact⟨c,by rw[aC _ _ bY];exact hc⟩);·obtain⟨c,hc⟩:=hi;(have bY:i≠d:=by rintro rfl;rw[hl]at hc;cases hc);simp[Full.c,bY])
 ·simp only[ag];exact⟨⟨_,aM _ _ _⟩,w.heap.size,by simp,rfl⟩
theorem QL(hE:aG E)(h:Full n w0 S0 s a w ν S)(ho:bJ n o=true) {t:Nat} {x:Operand} (aJ:o.op= .range t x)(ab:br E (aj E F s o) (fun l=>K (s.fin o.dst l))):o.wp E.P a w (fun a' w'=> ∃s',K s'∧Rel n w0 S0 s' a' w') Q:=by
 simp only[aj,aJ]at ab;have hx:=h.ev (az ho (x:=x) (by simp[aJ,Op.operands]));split at ab;(·rename_i d hd;split at ab;(·rename_i hl;have PM:=bp ho d hd;simp only[Jv]at ab;split at ab;(·rename_i hT;obtain⟨dd,hu,hs⟩:=(hE.facts hT).rJ;(have pf:dd= .string:=by cases dd<;>first|rfl|cases hs);subst pf;split at ab;(·rename_i y bQ;rw[bQ]at hx;obtain⟨hv,hlen⟩:=ep hx;simp only[br,St.fin,hd]at ab;(have hr:(execOp a.eval o).run E.P w= .ok (.value (.pointer (some ⟨w.heap.size,0,none⟩))) (w.alloc (.stringIter ⟨y.toArray⟩ 0)):=by simp only[execOp,aJ,Instr.range,hv,Sem.run_bind,run_underlying hu,Result.andThen_ok,Sem.run_pure];rfl);refine cY hr ⟨_,ab,?_⟩;rw[hd];exact h.aw2 PM hl fun c h1 h2 h3 h4 _=>⟨_,h1,h2,h3,h4,hlen⟩);·exact ab.elim);(·rename_i A B hT;obtain⟨k,v,hu,_,_,_,_,VJ,LQ⟩:=zR hE hT;split at ab;(·rename_i es hes;have yq:=h.entries hes hx;(have go: ∀(src:PV),ag h.c src (a.eval x)→K ⟨(d,.ref d 0)::s.sl,(d,.it [src] es.length [])::s.bl⟩→o.wp E.P a w (fun a' w'=> ∃s',K s'∧Rel n w0 S0 s' a' w') Q:=by intro src lr hK;(obtain⟨m,hm,hr⟩: ∃m:Option Nat,a.eval x= .map m∧(execOp a.eval o).run E.P w= .ok (.value (.pointer (some ⟨w.heap.size,0,none⟩))) (w.alloc (.mapIter m es.length #[] es.length)):=by rcases yq with⟨hv,rfl⟩|⟨r,ax,clock,hv,hh,hb,hs,_⟩;(·refine⟨none,hv,?_⟩;simp only[execOp,aJ,Instr.range,hv,Sem.run_bind,run_underlying hu,Result.andThen_ok,Sem.run_pure];rfl);·refine⟨some r,hv,?_⟩;have hc:clock=es.length:=hb.1.trans hs;subst hc;simp only[execOp,aJ,Instr.range,hv,Sem.run_bind,run_underlying hu,MapKept.run_getObj_map hh,Result.andThen_ok,Sem.run_pure];rfl);refine cY hr ⟨_,hK,?_⟩;rw[hd];refine h.aw2 PM hl fun c h1 h2 h3 h4 hle=>⟨_,m,h1,h2,h3,h4,?_⟩;simp only[ai];exact⟨_,[],rfl,eO hle (by rw[←hm];exact lr),rfl⟩);split at ab;(·rename_i K' V' y bQ;simp only[br,St.fin,hd]at ab;exact go _ (by rw[←bQ];exact hx) ab);(·rename_i id bQ;simp only[br,St.fin,hd]at ab;exact go _ (by rw[←bQ];exact hx) ab);(·rename_i bQ;simp only[br,St.fin,hd]at ab;rw[bQ]at hx;simp only[ag]at hx;refine go _ ?_ ab;rw[hx];exact⟨by simp only[aR];omega,Nat.zero_le _,.inl ⟨rfl,rfl⟩⟩);·exact ab.elim);·exact ab.elim);·exact ab.elim);·exact ab.elim)
 ·exact ab.elim
theorem Full.behind(h:Full n w0 S0 s a w ν S) {src:List PV} {m:Option Nat} {A B:Ty} {es:List (A.den×B.den)} (hx:mU E F s.bl src=some ⟨A,B,es⟩)(hp:ai h.c src [.map m]):aR A=0∧aR B=0∧A.val=true∧B.val=true∧((m=none∧es=[])∨ ∃(r:Nat)(ax:Array MapEntry)(clock:Nat),m=some r∧w.heap[r]?=some (.map ax clock)∧ph ax clock∧oa w ⟨S,aK w0 S0⟩ A B es ax.toList):=by
 unfold mU at hx;split at hx;(·rename_i K' V' ys;split at hx;(case h_2=>cases hx);rename_i hvK hvV;injection hx with hx;injection hx with e1 e2;subst e1;have e2:=eq_of_heq e2;injection e2 with e2 e3;subst e2;have e3:=eq_of_heq e3;subst e3;simp only[ai,ag]at hp;obtain⟨v,r,hv,⟨ho,hr⟩,_⟩:=hp;injection hv with hv;subst hv;simp only[aR]at ho;refine⟨by omega,by omega,hvK,hvV,?_⟩;have hr:aH (.mp K' V') ys w ⟨S,aK w0 S0⟩ [.map m]:=hr;rcases hr.2 with⟨hv,he⟩|⟨r,ax,clock,hv,hS,hh,hb,hs,hr⟩;(·injection hv with hv;injection hv with hv;exact .inl ⟨hv,he⟩);·injection hv with hv;injection hv with hv;exact .inr ⟨r,ax,clock,hv,hh,hb,oc _ _ (by simpa using hs) (by simpa using hr)⟩)
 (·rename_i id;split at hx;(·rename_i K' V' ys hl;obtain⟨hl,_⟩:=cE hl;split at hx;(case h_2=>cases hx);rename_i hvK hvV;injection hx with hx;injection hx with e1 e2;subst e1;have e2:=eq_of_heq e2;injection e2 with e2 e3;subst e2;have e3:=eq_of_heq e3;subst e3;simp only[ai,ag]at hp;obtain⟨v,r,hv,⟨_,cJ,_⟩,_⟩:=hp;injection hv with hv;subst hv;obtain⟨dg,tG,h0,r,ax,clock,h1,h2,h3,h4,h5,h6,h7⟩:=h.W.cA _ _ hl;refine⟨dg,tG,hvK,hvV,.inr ⟨r,ax,clock,?_,h4,h5,oc _ _ (by simpa using h6) (by simpa using h7)⟩⟩;simp only[Full.c]at cJ;simp only at h1;rw[h1]at cJ;injection cJ);·cases hx)
 ·cases hx
theorem Wn(hE:aG E)(h:Full n w0 S0 s a w ν S)(ho:bJ n o=true) {x:Operand} {isS:Bool} (aJ:o.op= .next x isS)(ab:br E (aj E F s o) (fun l=>K (s.fin o.dst l))):o.wp E.P a w (fun a' w'=> ∃s',K s'∧Rel n w0 S0 s' a' w') Q:=by
 simp only[aj,aJ,Qc]at ab;have hx:=h.ev (az ho (x:=x) (by simp[aJ,Op.operands]));split at ab;(·rename_i id bQ;rw[bQ]at hx;simp only[ag]at hx;obtain⟨_,g,hg,hv⟩:=hx;simp only[Full.c]at hg;(have upd: ∀ {b b':aO} {w':World} {p:PV} {v:Value},look id s.bl=some b→eN w w' (some g)→lY ⟨ν,s.D,w',⟨S,aK w0 S0⟩⟩ id b'→ag ⟨ν,s.D,w',⟨S,aK w0 S0⟩⟩ p v→K (s.fin o.dst (.upd id b' p))→(execOp a.eval o).run E.P w= .ok (.value v) w'→o.wp E.P a w (fun a' w'=> ∃s',K s'∧Rel n w0 S0 s' a' w') Q:=by intro b b' w' p v hl hw hb hp hK aU;refine cY aU ⟨_,hK,?_⟩;have hu:=h.upd (b':=b') hl (by rw[hg];exact hw) hb;(have hD:(⟨s.sl,(id,b')::s.bl⟩:St).D=s.D:=by funext i;refine propext ⟨fun⟨c,hc⟩=>?_,fun⟨c,hc⟩=>?_⟩;(·by_cases hi:i=id;(·subst hi;exact⟨b,hl⟩);·rw[aC _ _ hi]at hc;exact⟨c,hc⟩);·by_cases hi:i=id;(·subst hi;exact⟨b',aM _ _ _⟩);·exact⟨c,by rw[aC _ _ hi];exact hc⟩);have NI:=hu.put (p:=p) (v:=v) (bp ho) (by simp only[Full.c,hD];exact hp);(have jP:s.fin o.dst (.upd id b' p)=(⟨s.sl,(id,b')::s.bl⟩:St).put o.dst p:=by simp only[St.fin];cases o.dst<;>rfl);rw[jP];exact NI.rel);(have aC9:(Instr.next (a.eval x) isS o.type).run E.P w= .ok (.tuple #[.bool false]) w→K (s.fin o.dst (.val (.bq [.iv .bool false])))→o.wp E.P a w (fun a' w'=> ∃s',K s'∧Rel n w0 S0 s' a' w') Q:=by intro hr hK;refine h.val ho (v:=.tuple #[.bool false]) ?_ ?_ hK;(·simp only[execOp,aJ,Sem.run_bind,hr,Result.andThen_ok,Sem.run_pure]);·exact iJ (vs:=[.bool false]) (by simp only[ai];exact⟨_,[],rfl,bN,rfl⟩));(have exec: ∀v w',(Instr.next (a.eval x) isS o.type).run E.P w= .ok v w'→(execOp a.eval o).run E.P w= .ok (.value v) w':=fun v w' hr=>by simp only[execOp,aJ,Sem.run_bind,hr,Result.andThen_ok,Sem.run_pure]);split at ab;(·rename_i y pos hl;obtain⟨hl,_⟩:=cE hl;obtain⟨g',h1,h2,h3,h4,h5⟩:=h.W.cA _ _ hl;simp only at h1 h2 h3 h4;rw[hg]at h1;(obtain rfl:g=g':=by injection h1 with e1;injection e1 with e1;injection e1);split at ab;(·obtain⟨ho1,QE⟩:=ab;(have de:(⟨y.toArray⟩:ByteArray).size=y.length:=by simp[ByteArray.size]);(have JZ: ∀o',(setObj g o').run E.P w= .ok () { w with heap:=w.heap.setIfInBounds g o' } :=fun o'=>by simp[setObj,Sem.run,h4]);by_cases hp:pos<y.length;(·have hK:=ho1 hp;have hd:=JY ⟨y.toArray⟩ pos;refine upd hl (ml w g (.stringIter ⟨y.toArray⟩ (pos+(Utf8.decode ⟨y.toArray⟩ pos).2))) ?_ ?_ hK (exec (.tuple #[.bool true,.int .i64 (pos:Int),.int .i32 ((Utf8.decode ⟨y.toArray⟩ pos).1:Int)]) _ ?_);(·exact⟨g,hg,h2,h3,(MapKept.heap_set h4).1,h5⟩);(·refine iJ (vs:=[.bool true,.int .i64 (pos:Int),.int .i32 ((Utf8.decode ⟨y.toArray⟩ pos).1:Int)]) ?_;simp only[ai];exact⟨_,_,rfl,bN,_,_,rfl,bW (by show(-9223372036854775808:Int)≤_∧_≤(9223372036854775807:Int);omega),_,_,rfl,bW (by show(-2147483648:Int)≤_∧_≤(2147483647:Int);omega),rfl⟩);·simp only[hv,Instr.next,Sem.run_bind];rw[show(getObj g).run E.P w= .ok (.stringIter ⟨y.toArray⟩ pos) w from by simp[getObj,Sem.run,h4]];simp only[Result.andThen_ok,de,hp,if_true,Sem.run_bind,JZ,Sem.run_pure];rfl);·refine aC9 ?_ (QE (by omega));simp only[hv,Instr.next,Sem.run_bind];rw[show(getObj g).run E.P w= .ok (.stringIter ⟨y.toArray⟩ pos) w from by simp[getObj,Sem.run,h4]];simp only[Result.andThen_ok,de,hp,if_false,Sem.run_pure]);·exact ab.elim);(·rename_i src since seen hl;obtain⟨hl,_⟩:=cE hl;obtain⟨g',m,h1,h2,h3,h4,h6⟩:=h.W.cA _ _ hl;simp only at h1 h2 h3 h4;rw[hg]at h1;(obtain rfl:g=g':=by injection h1 with e1;injection e1 with e1;injection e1);split at ab;(·rename_i A B es hes;obtain⟨QM,ho1,QE⟩:=ab;obtain⟨VJ,LQ,PI,Gi,dy⟩:=h.behind hes h6;rcases dy with⟨rfl,rfl⟩|⟨r,ax,clock,rfl,hh,hb,hr⟩;(·refine aC9 ?_ (QE (fun i hi=>by simp at hi));simp only[hv,Instr.next,Sem.run_bind];rw[show(getObj g).run E.P w= .ok (.mapIter none since seen.toArray since) w from by simp[getObj,Sem.run,h4]];simp only[Result.andThen_ok,Sem.run_pure]);·have hlen:=uf _ _ hr;(have de:ax.size=es.length:=by simpa using hlen);obtain⟨aD0,zS⟩:=hb;(have hold: ∀y,y∈ax.toList→y.born<since:=fun y hy=>by obtain⟨i,hi⟩:=List.getElem?_of_mem hy;(have vN:ax[i]?=some y:=by simpa using hi);rw[zS i y vN,←QM,←de];exact(Array.getElem?_eq_some_iff.1 vN).1);(have aw3: ∀y,y∈(leftOf ax seen.toArray).toList↔ ∃i,ax[i]?=some y∧i∉seen:=by intro y;unfold leftOf;simp only[Array.toList_filter,List.mem_filter,Array.mem_toList_iff];constructor;(·rintro⟨h1,h2⟩;obtain⟨i,hi⟩:=Array.getElem?_of_mem h1;refine⟨i,hi,?_⟩;rw[←zS i y hi];simpa using h2);·rintro⟨i,hi,hn⟩;refine⟨Array.mem_of_getElem? hi,?_⟩;rw[zS i y hi];simpa using hn);rcases run_next_at (P:=E.P) w o.type g r since since seen.toArray ax clock h4 hh hold (Nat.le_refl _)with⟨h0,aU⟩|⟨e,he,w1,QN,aU⟩;(·refine aC9 (by rw[hv];exact aU) (QE fun i hi=>?_);by_cases iZ:i∈seen;(·exact iZ);·exfalso;(have vZ:i<ax.size:=by omega);have:=(aw3 ax[i]).2 ⟨i,by simp,iZ⟩;have Cf:(leftOf ax seen.toArray).toList=[]:=List.eq_nil_of_length_eq_zero (by simpa using h0);rw[Cf]at this;cases this);·obtain⟨i,hi,iZ⟩:=(aw3 e).1 he;(have vZ:i<es.length:=by rw[←de];exact(Array.getElem?_eq_some_iff.1 hi).1);obtain⟨yy,JX⟩: ∃yy,es[i]?=some yy:=⟨_,List.getElem?_eq_getElem vZ⟩;have hK:=ho1 i ⟨vZ,iZ⟩ yy JX;obtain⟨e2,ca,cb,g1,g2,g3,g4,g5⟩:=ug es ax.toList hr i yy JX;(have vN:ax.toList[i]?=some e:=by simpa using hi);rw[vN]at g1;injection g1 with g1;subst g1;have VL:=zS i e hi;(have sq:eN w (ChangeMaps.setBlock w1 g (.mapIter (some r) since (seen.toArray.push e.born) clock)) (some g):=by rcases QN with rfl|rfl;(·exact ml _ g _);·refine⟨rfl,rfl,rfl,by simp[ChangeMaps.setBlock],fun k _ hk=>?_,fun _=>?_⟩;(·have hkr:g≠k:=fun e=>hk (by rw[e]);show(w.drew.heap.setIfInBounds g _)[k]?=w.heap[k]?;rw[Array.getElem?_setIfInBounds_ne hkr];rfl);·exact Nat.le_succ _);have hSg: ∀b,S b→(ChangeMaps.setBlock w1 g (.mapIter (some r) since (seen.toArray.push e.born) clock)).heap[b]?=w.heap[b]?:=fun b hb=>sq.block b (h.W.lt b hb) (fun e=>by injection e with e;subst e;exact h3 hb);have aD1:Ctx.Le ⟨ν,s.D,w,⟨S,aK w0 S0⟩⟩ ⟨ν,s.D,ChangeMaps.setBlock w1 g (.mapIter (some r) since (seen.toArray.push e.born) clock),⟨S,aK w0 S0⟩⟩:=⟨hSg,fun _ h=>h,fun _ h=>h,fun _ _=>rfl⟩;(have hg1:w1.heap[g]?=some (.mapIter (some r) since seen.toArray since):=by rcases QN with rfl|rfl<;>exact h4);(have Gd:clock=since:=by omega);refine upd hl sq ?_ ?_ hK (exec _ _ (by rw[hv];exact aU));(·refine⟨g,some r,hg,h2,h3,?_,bM aD1 h6⟩;have:=(MapKept.heap_set (o':=Obj.mapIter (some r) since (seen.toArray.push e.born) clock) hg1).1;rw[VL,Gd]at this⊢;simpa[ChangeMaps.setBlock]using this);·have hk:ag h.c (.iv A yy.1) e.key:=bS VJ (by rw[g2];exact lx PI g3) PI;have hvv:ag h.c (.iv B yy.2) e.val:=bS LQ (by rw[g4];exact lx Gi g5) Gi;refine iJ (vs:=[.bool true,e.key,e.val]) ?_;simp only[ai];exact⟨_,_,rfl,bN,_,_,rfl,eO aD1 hk,_,_,rfl,eO aD1 hvv,rfl⟩);·exact ab.elim);·exact ab.elim)
 ·exact ab.elim
theorem QO(hE:aG E)(h:Full n w0 S0 s a w ν S)(ho:bJ n o=true) {x:Operand} (aJ:o.op= .entry x)(ab:br E (aj E F s o) (fun l=>K (s.fin o.dst l))):o.wp E.P a w (fun a' w'=> ∃s',K s'∧Rel n w0 S0 s' a' w') Q:=by
 simp only[aj,aJ,Jw]at ab;have hx:=h.ev (az ho (x:=x) (by simp[aJ,Op.operands]));split at ab;(·rename_i id bQ;rw[bQ]at hx;simp only[ag]at hx;obtain⟨_,g,hg,hv⟩:=hx;simp only[Full.c]at hg;split at ab;(·rename_i src since seen hl;obtain⟨hl,_⟩:=cE hl;obtain⟨g',m,h1,h2,h3,h4,h6⟩:=h.W.cA _ _ hl;simp only at h1 h2 h3 h4;rw[hg]at h1;(obtain rfl:g=g':=by injection h1 with e1;injection e1 with e1;injection e1);split at ab;(·rename_i A B es hes;obtain⟨QM,yy,⟨i,bb0,JX⟩,hK⟩:=ab;obtain⟨VJ,LQ,PI,Gi,dy⟩:=h.behind hes h6;rcases dy with⟨_,rfl⟩|⟨r,ax,clock,rfl,hh,hb,hr⟩;(·simp at JX);·obtain⟨ss,hss⟩: ∃ss,seen=ss++ [i]:=List.getLast?_eq_some_iff.1 bb0;have hlen:=uf _ _ hr;(have de:ax.size=es.length:=by simpa using hlen);obtain⟨aD0,zS⟩:=hb;obtain⟨e,ca,cb,g1,g2,g3,g4,g5⟩:=ug es ax.toList hr i yy JX;(have hi:ax[i]?=some e:=by simpa using g1);have VL:=zS i e hi;(have Gd:since=clock:=by omega);(have cN:(ax.toList.map (·.born)).Nodup:=by(have:ax.toList.map (·.born)=List.range ax.size:=by apply List.ext_getElem;(·simp);·intro j h1 h2;simp only[List.getElem_map,List.getElem_range,Array.getElem_toList];exact zS j _ (Array.getElem?_eq_getElem (by simpa using h1)));rw[this];exact List.nodup_range);(have h4':w.heap[g]?=some (.mapIter (some r) since (ss.toArray.push e.born) clock):=by rw[h4,hss,VL,←Gd];simp);have aU:=run_entry_at (P:=E.P) w g r since ss.toArray ax clock e h4' hh (Array.mem_toList_iff.2 (Array.mem_of_getElem? hi)) cN;refine h.val ho (v:=.tuple #[e.key,e.val]) ?_ ?_ hK;(·simp only[execOp,aJ,hv,Sem.run_bind,aU,Result.andThen_ok,Sem.run_pure]);·have hk:ag h.c (.iv A yy.1) e.key:=bS VJ (by rw[g2];exact lx PI g3) PI;have hvv:ag h.c (.iv B yy.2) e.val:=bS LQ (by rw[g4];exact lx Gi g5) Gi;exact iJ (kM hk hvv));·exact ab.elim);·exact ab.elim)
 ·exact ab.elim
end
end Go.Proofs.YtgpkijnphchkpaaGreat
namespace Go.Proofs.YtgpkijnphchkpaaGreat
variable {dV:Prop} [jY dV]
open Go.RowKit
structure Ctx.VM(ks:List Nat)(ρ:Nat→Nat)(c c':Ctx):Prop where
 heap: ∀b,c.M.S b→c'.w.heap[b]?=c.w.heap[b]?
 S: ∀b,c.M.S b→c'.M.S b
 D: ∀i,ak i ks=true→c.D i→c'.D (ρ i)
 ν: ∀i,ak i ks=true→c.D i→c'.ν (ρ i)=c.ν i
mutual theorem iK {ks:List Nat} {ρ:Nat→Nat} {c c':Ctx} (hc:c.VM ks ρ c'): ∀ {p:PV} {v:Value},PV.oN ks p=true→ag c p v→ag c' (p.ef ρ) v|.iv T x,v,_,h=>(by simp only[PV.ef,ag]at h⊢;exact⟨h.1,ig hc.heap hc.S h.1 h.2⟩)|.ref id off,v,hi,h=>(by simp only[PV.ef,ag]at h⊢;obtain⟨hd,g,h1,h2⟩:=h;exact⟨hc.D _ hi hd,g,by rw[hc.ν _ hi hd];exact h1,h2⟩)|.dU T x off,v,_,h=>(by simp only[PV.ef,ag]at h⊢;obtain⟨ho,g,o,cs,h1,h2,h3,h4,h5⟩:=h;exact⟨ho,g,o,cs,h1,hc.S _ h2,h3,h4.mono (hc.heap _ h2),aB hc.heap hc.S _ _ _ ho h5⟩)|.aF id,v,hi,h=>(by simp only[PV.ef,ag]at h⊢;exact⟨hc.D _ hi h.1,by rw[hc.ν _ hi h.1];exact h.2.1,h.2.2⟩)|.lmap id,v,hi,h=>(by simp only[PV.ef,ag]at h⊢;exact⟨hc.D _ hi h.1,by rw[hc.ν _ hi h.1];exact h.2.1,h.2.2⟩)|.jI id sz off len,v,hi,h=>(by simp only[PV.ef,ag]at h⊢;obtain⟨hd,a,n,cap,b,h1,h2⟩:=h;exact⟨hc.D _ hi hd,a,n,cap,b,by rw[hc.ν _ hi hd];exact h1,h2⟩)|.gx id sz i off,v,hi,h=>(by simp only[PV.ef,ag]at h⊢;obtain⟨hd,g,o,n,cap,h1,h2⟩:=h;exact⟨hc.D _ hi hd,g,o,n,cap,by rw[hc.ν _ hi hd];exact h1,h2⟩)|.agg cs,v,hi,h=>(by simp only[PV.ef,ag]at h⊢;obtain⟨vs,h1,h0,h2⟩:=h;exact⟨vs,h1,h0,dw hc hi h2⟩)|.bq cs,v,hi,h=>(by simp only[PV.ef,ag]at h⊢;obtain⟨vs,h1,h2⟩:=h;exact⟨vs,h1,dw hc hi h2⟩)|.bI,v,_,h=>(by simp only[PV.ef,ag]at h⊢;exact h)|.dc,v,_,h=>(by simp only[PV.ef,ag]at h⊢;exact h)|.dP,v,_,h=>(by simp only[PV.ef,ag]at h⊢;exact h)|.jj i base T n j,v,hi,h=>(by simp only[PV.ef,ag]at h⊢;obtain⟨hd,h0,hn,g,h1,h2⟩:=h;exact⟨hc.D _ hi hd,h0,hn,g,by rw[hc.ν _ hi hd];exact h1,h2⟩)|.yh f cs,v,hi,h=>(by simp only[PV.ef,ag]at h⊢;obtain⟨vs,h1,h2⟩:=h;exact⟨vs,h1,dw hc hi h2⟩)|.pj f cs,v,hi,h=>(by simp only[PV.ef,ag]at h⊢;obtain⟨vs,h1,h2⟩:=h;exact⟨vs,h1,dw hc hi h2⟩)|.cN hk id,v,hi,h=>(by simp only[PV.ef,ag]at h⊢;obtain⟨hd,g,h1,h2⟩:=h;exact⟨hc.D _ hi hd,g,by rw[hc.ν _ hi hd];exact h1,h2⟩)|.clip T xs,v,_,h=>(by simp only[PV.ef,ag]at h⊢;exact⟨h.1,h.2.1,aB hc.heap hc.S (.sl T) _ _ h.1 h.2.2⟩)|.fn f cs,v,hi,h=>(by simp only[PV.ef,ag]at h⊢;obtain⟨vs,h1,h2⟩:=h;exact⟨vs,h1,dw hc hi h2⟩)|.any,v,_,h=>by simp only[PV.ef,ag]theorem dw {ks:List Nat} {ρ:Nat→Nat} {c c':Ctx} (hc:c.VM ks ρ c'): ∀ {ps:List PV} {vs:List Value},PV.eh ks ps=true→ai c ps vs→ai c' (PV.dM ρ ps) vs|[],vs,_,h=>(by simp only[PV.dM,ai]at h⊢;exact h)|p::ps,vs,hi,h=>by simp only[PV.eh,Bool.and_eq_true]at hi;simp only[PV.dM,ai]at h⊢;obtain⟨v,r,h1,h2,h3⟩:=h;exact⟨v,r,h1,iK hc hi.1 h2,dw hc hi.2 h3⟩end
def fO(ks:List Nat):aO→Bool|.box cs _=>PV.eh ks cs|.it cs _ _=>PV.eh ks cs|.gh _ cs=>PV.eh ks cs|_=>true
theorem gR {c:Ctx} {i:Nat} {b:aO} (h:lY c i b) {g:Nat} (hg:aE (c.ν i)=some g):c.M.O g∧ ¬c.M.S g∧g<c.w.heap.size:=by
 cases b with|box cs te=>obtain⟨_,g',vs,e,h1,h2,h3,h4,_⟩:=h;rw[h1]at hg;injection hg with hg;simp only at hg;subst hg;exact⟨h2,h3,(Array.getElem?_eq_some_iff.1 h4).1⟩|arr T xs te=>obtain⟨_,ho,v,hv,_,h2⟩:=h;injection hv with hv;rw[hv]at hg;rcases h2 with⟨rfl,_⟩|⟨g',o,cap,cur,e,rfl,h3,h4,h5,h6,h7,_⟩;(·cases hg);(·injection hg with hg;simp only at hg;subst hg;exact⟨h6,h5,(Array.getElem?_eq_some_iff.1 h7).1⟩)|mp K V es=>obtain⟨_,_,_,r,ax,clock,h1,h2,h3,h4,_⟩:=h;rw[h1]at hg;injection hg with hg;subst hg;exact⟨h2,h3,(Array.getElem?_eq_some_iff.1 h4).1⟩|it src since seen=>obtain⟨g',m,h1,h2,h3,h4,_⟩:=h;rw[h1]at hg;injection hg with hg;simp only at hg;subst hg;exact⟨h2,h3,(Array.getElem?_eq_some_iff.1 h4).1⟩|zd x pos=>obtain⟨g',h1,h2,h3,h4,_⟩:=h;rw[h1]at hg;injection hg with hg;simp only at hg;subst hg;exact⟨h2,h3,(Array.getElem?_eq_some_iff.1 h4).1⟩|gh o cs=>obtain⟨g',vs,h1,h2,h3,h4,_⟩:=h;rw[h1]at hg;injection hg with hg;simp only at hg;subst hg;exact⟨h2,h3,(Array.getElem?_eq_some_iff.1 h4).1⟩
theorem pZ {ks:List Nat} {ρ:Nat→Nat} {c c':Ctx} (hc:c.VM ks ρ c') {i:Nat} {b:aO} (hi:fO ks b=true)(cJ:c'.ν (ρ i)=c.ν i)(hg: ∀g,aE (c.ν i)=some g→c'.w.heap[g]?=c.w.heap[g]?∧c'.M.O g∧ ¬c'.M.S g)(h:lY c i b):lY c' (ρ i) (b.map (PV.dM ρ)):=by
 cases b with|box cs te=>obtain⟨jJ,g,vs,e,h1,h2,h3,h4,h0,h5⟩:=h;obtain⟨e1,e2,e3⟩:=hg g (by rw[h1];rfl);exact⟨jJ.mV cJ fun g xu=>(hg g xu).1,g,vs,e,by rw[cJ];exact h1,e2,e3,by rw[e1];exact h4,h0,dw hc hi h5⟩|arr T xs te=>obtain⟨jJ,ho,v,hv,h1,h2⟩:=h;injection hv with hv;refine⟨jJ.mV cJ fun g xu=>(hg g xu).1,ho,v,by rw[cJ,hv],h1,?_⟩;rcases h2 with h2|⟨g,o,cap,cur,e,rfl,h3,h4,h5,h6,h7,h8,h9⟩;(·exact .inl h2);(·obtain⟨e1,e2,e3⟩:=hg g (by rw[hv];rfl);refine .inr ⟨g,o,cap,cur,e,rfl,h3,h4,e3,e2,by rw[e1];exact h7,h8,fun i y hy=>?_⟩;obtain⟨cs,hl,Ej,hr⟩:=h9 i y hy;exact⟨cs,hl,Ej.mono e1,aB hc.heap hc.S _ _ _ ho hr⟩)|mp K V es=>obtain⟨dg,tG,h0,r,ax,clock,h1,h2,h3,h4,h5,h6,h7⟩:=h;obtain⟨e1,e2,e3⟩:=hg r (by rw[h1];rfl);refine⟨dg,tG,h0,r,ax,clock,by rw[cJ];exact h1,e2,e3,by rw[e1];exact h4,h5,h6,fun i y hy=>?_⟩;obtain⟨e,ca,cb,a1,a2,a3,a4,a5⟩:=h7 i y hy;exact⟨e,ca,cb,a1,a2,aB hc.heap hc.S _ _ _ dg a3,a4,aB hc.heap hc.S _ _ _ tG a5⟩|it src since seen=>obtain⟨g,m,h1,h2,h3,h4,h6⟩:=h;obtain⟨e1,e2,e3⟩:=hg g (by rw[h1];rfl);exact⟨g,m,by rw[cJ];exact h1,e2,e3,by rw[e1];exact h4,dw hc hi h6⟩|zd x pos=>obtain⟨g,h1,h2,h3,h4,h5⟩:=h;obtain⟨e1,e2,e3⟩:=hg g (by rw[h1];rfl);exact⟨g,by rw[cJ];exact h1,e2,e3,by rw[e1];exact h4,h5⟩|gh o cs=>obtain⟨g,vs,h1,h2,h3,h4,h6⟩:=h;obtain⟨e1,e2,e3⟩:=hg g (by rw[h1];rfl);exact⟨g,vs,by rw[cJ];exact h1,e2,e3,by rw[e1];exact h4,dw hc hi h6⟩
/-! ### Names -/
theorem eu {i:Nat} : ∀ {l:List Nat},ak i l=true↔i∈l|[]=>(by simp[ak])|k::r=>by simp only[ak,List.mem_cons];cases hb:Nat.beq i k with|true=>simp[Nat.eq_of_beq_eq_true hb]|false=>(have bY:i≠k:=by rintro rfl;simp at hb);simp[bY,eu (l:=r)]
theorem G1 {i:Nat} : ∀ {l:List Nat} {j:Nat},j≤idxOf i l j|[],j=>Nat.le_refl _|k::r,j=>by simp only[idxOf];cases Nat.beq i k with|true=>exact Nat.le_refl _|false=>exact Nat.le_trans (Nat.le_succ j) (G1 (l:=r) (j:=j+1))
theorem LU {i:Nat} : ∀ {l:List Nat} {j:Nat},ak i l=true→gd l (idxOf i l j-j)=i∧idxOf i l j-j<l.length|[],j,h=>(by cases h)|k::r,j,h=>by simp only[idxOf];simp only[ak]at h;cases hb:Nat.beq i k with|true=>simp only[cond_true,Nat.sub_self,gd,List.length_cons];exact⟨(Nat.eq_of_beq_eq_true hb).symm,by omega⟩|false=>simp only[hb,cond_false]at h⊢;obtain⟨h1,h2⟩:=LU (l:=r) (j:=j+1) h;have hle:=G1 (i:=i) (l:=r) (j:=j+1);rw[show idxOf i r (j+1)-j=(idxOf i r (j+1)-(j+1))+1 from by omega];simp only[gd,List.length_cons];exact⟨h1,by omega⟩
theorem ui: ∀ {l:List Nat} {j:Nat},j<l.length→ak (gd l j) l=true|[],j,h=>(by simp at h)|x::r,0,_=>(by simp[gd,ak])|x::r,j+1,h=>by simp only[gd,ak];rw[ui (l:=r) (by simpa using h)];cases Nat.beq (gd r j) x<;>rfl
theorem LV: ∀ {l:List Nat} {j k:Nat},ke l=true→j<l.length→idxOf (gd l j) l k=k+j|[],j,k,_,h=>(by simp at h)|x::r,0,k,_,_=>(by simp[gd,idxOf])|x::r,j+1,k,hn,h=>by simp only[ke,Bool.and_eq_true,Bool.not_eq_true']at hn;(have hj:j<r.length:=by simpa using h);simp only[gd,idxOf];(have hb:Nat.beq (gd r j) x=false:=by cases hb:Nat.beq (gd r j) x with|false=>rfl|true=>have:=Nat.eq_of_beq_eq_true hb;rw[←this,ui hj]at hn;cases hn.1);rw[hb,cond_false,LV hn.2 hj];omega
theorem uj {i:Nat} {ids:List Nat} (h:ak i ids=true):P0≤fwd ids i∧gd ids (fwd ids i-P0)=i∧fwd ids i-P0<ids.length:=by
 obtain⟨h1,h2⟩:=LU (j:=0) h;unfold fwd;rw[Nat.add_sub_cancel_left];exact⟨by omega,by simpa using h1,by simpa using h2⟩
theorem uk {ids:List Nat} {j:Nat} (hn:ke ids=true)(hj:j<ids.length):fwd ids (gd ids j)=P0+j:=by unfold fwd;rw[LV hn hj];omega
theorem mn {ids:List Nat} {bl:List (Nat×aO)} {k:Nat} : ∀ {l:List Nat} {j:Nat},(∀i,i∈l→i∈ids)→look k (passed ids bl l j)=if j≤k∧k-j<l.length then(look (gd l (k-j)) bl).map (aO.map (PV.dM (fwd ids)))else none|[],j,_=>(by simp[passed,look])|i::r,j,hl=>by have ih:=mn (k:=k) (bl:=bl) (l:=r) (j:=j+1) (fun x hx=>hl x (List.mem_cons_of_mem _ hx));by_cases hk:k=j;(·subst hk;simp only[passed,Nat.sub_self,gd,List.length_cons,Nat.le_refl,true_and,Nat.zero_lt_succ,if_true];cases hb:look i bl with|none=>simp only[Option.map_none];rw[ih,if_neg (by omega)]|some b=>simp only[aM,Option.map_some]);·(have e:look k (passed ids bl (i::r) j)=look k (passed ids bl r (j+1)):=by simp only[passed];cases look i bl with|none=>rfl|some b=>exact aC _ _ hk);rw[e,ih];by_cases hjk:j≤k;(·rw[show k-j=(k-(j+1))+1 from by omega];simp only[gd,List.length_cons];by_cases h2:k-(j+1)<r.length;(·rw[if_pos ⟨by omega,h2⟩,if_pos ⟨hjk,by omega⟩]);·rw[if_neg (by omega),if_neg (by omega)]);·rw[if_neg (by omega),if_neg (by omega)]
theorem gG {ρ:Nat→Nat} {k:Nat} {b:aO} : ∀ {bl:List (Nat×aO)},(∀i c,look i bl=some c→ρ i=ρ k→i=k)→look k bl=some b→look (ρ k) (je ρ bl)=some (b.map (PV.dM ρ))|[],_,h=>(by cases h)|p::r,Cn,h=>by simp only[je,look]at h⊢;cases hb:Nat.beq k p.1 with|true=>simp only[hb,cond_true,Option.some.injEq]at h;subst h;have:=Nat.eq_of_beq_eq_true hb;subst this;simp|false=>simp only[hb,cond_false]at h;(have bY:k≠p.1:=by intro e;rw[e]at hb;simp at hb);(have hp:look p.1 (p::r)=some p.2:=by simp[look]);(have:Nat.beq (ρ k) (ρ p.1)=false:=by cases hc:Nat.beq (ρ k) (ρ p.1)with|false=>rfl|true=>exact absurd (Cn p.1 p.2 hp (Nat.eq_of_beq_eq_true hc).symm).symm bY);rw[this,cond_false];refine gG (fun i c hc he=>?_) h;by_cases hip:i=p.1;(·rw[hip]at he⊢;exact Cn p.1 p.2 hp he);·exact Cn i c (by rw[show(p::r)=((p.1,p.2)::r)from rfl,aC _ _ hip];exact hc) he
theorem ly {ρ:Nat→Nat} {i:Nat} {b:aO} : ∀ {bl:List (Nat×aO)},(∀j k c e,look j bl=some c→look k bl=some e→ρ j=ρ k→j=k)→look i (je ρ bl)=some b→ ∃k c,ρ k=i∧look k bl=some c∧b=c.map (PV.dM ρ)|[],_,h=>(by cases h)|p::r,Cn,h=>by simp only[je,look]at h;(have hp:look p.1 (p::r)=some p.2:=by simp[look]);cases hb:Nat.beq i (ρ p.1)with|true=>simp only[hb,cond_true,Option.some.injEq]at h;exact⟨p.1,p.2,(Nat.eq_of_beq_eq_true hb).symm,hp,h.symm⟩|false=>simp only[hb,cond_false]at h;(have bY:i≠ρ p.1:=by intro e;rw[e]at hb;simp at hb);(have up: ∀j c,look j r=some c→j=p.1∨look j (p::r)=some c:=by intro j c hc;by_cases hj:j=p.1;(·exact .inl hj);·exact .inr (by rw[show(p::r)=((p.1,p.2)::r)from rfl,aC _ _ hj];exact hc));obtain⟨k,c,h1,h2,h3⟩:=ly (bl:=r) (fun j k c e hj hk he=>by rcases up j c hj with h'|h';(·rcases up k e hk with h''|h'';(·rw[h',h'']);·exact Cn j k p.2 e (by rw[h'];exact hp) h'' he);·rcases up k e hk with h''|h'';(·exact Cn j k c p.2 h' (by rw[h''];exact hp) he);·exact Cn j k c e h' h'' he) h;refine⟨k,c,h1,?_,h3⟩;rcases up k c h2 with h'|h';(·exact absurd (by rw[←h1,h']) bY);·exact h'
theorem mq {k:Nat} : ∀ {a b:List (Nat×aO)},look k (a++b)=(match look k a with|some x=>some x|none=>look k b)|[],b=>(by simp[look])|p::r,b=>by simp only[List.cons_append,look];cases Nat.beq k p.1 with|true=>rfl|false=>exact mq (a:=r)
theorem dZ {id:Nat} : ∀ {bl:List (Nat×aO)},ak id (keys bl)=true→ ∃b,look id bl=some b|[],h=>(by cases h)|p::r,h=>by simp only[keys,List.map_cons,ak]at h;simp only[look];cases hb:Nat.beq id p.1 with|true=>exact⟨p.2,rfl⟩|false=>simp only[hb,cond_false]at h⊢;exact dZ h
theorem zT {bl':List (Nat×aO)} {i:Nat} : ∀ {l:List Nat} {j:Nat},ak i (cR bl' l j)=true↔ ∃k,k<l.length∧gd l k=i∧look (j+k) bl'=none|[],j=>(by simp[cR,ak])|x::r,j=>by have ih:=zT (bl':=bl') (i:=i) (l:=r) (j:=j+1);simp only[cR];constructor;(·intro h;cases hl:look j bl' with|some b=>rw[hl]at h;obtain⟨k,h1,h2,h3⟩:=ih.1 h;exact⟨k+1,by simpa using h1,by simpa[gd]using h2,by rw[←h3];congr 1;omega⟩|none=>rw[hl]at h;simp only[ak]at h;cases hb:Nat.beq i x with|true=>exact⟨0,by simp,by simp[gd,Nat.eq_of_beq_eq_true hb],by simpa using hl⟩|false=>simp only[hb,cond_false]at h;obtain⟨k,h1,h2,h3⟩:=ih.1 h;exact⟨k+1,by simpa using h1,by simpa[gd]using h2,by rw[←h3];congr 1;omega⟩);·rintro⟨k,h1,h2,h3⟩;cases k with|zero=>simp only[Nat.add_zero]at h3;simp only[gd]at h2;rw[h3];simp[ak,h2]|succ k=>have:=ih.2 ⟨k,by simpa using h1,by simpa[gd]using h2,by rw[←h3];congr 1;omega⟩;cases look j bl' with|some b=>exact this|none=>simp only[ak,this];cases Nat.beq i x<;>rfl
end Go.Proofs.YtgpkijnphchkpaaGreat
namespace Go.Proofs.YtgpkijnphchkpaaGreat
variable {dV:Prop} [jY dV]
open Go.RowKit
section
variable {E:Env} {n:Nat} {w0:World} {S0:Cx} {s:St} {a:Act} {w:World} {ν:Nat→Value} {S:Nat→Prop}
def lz(S:Nat→Prop)(s:St)(ν:Nat→Value)(ks:List Nat):Nat→Prop:=fun g=>S g∨ ∃i,ak i ks=true∧s.D i∧aE (ν i)=some g
def mkF(f:Nat):Value:=.func (.func f) #[] #[]
theorem G2 {c:Ctx} : ∀ {cs:List PV} {l:List Nat} {vs:List Value},Ns cs=some l→ai c cs vs→vs=l.map mkF|[],l,vs,h,hp=>(by simp only[Ns,Option.some.injEq]at h;subst h;simp only[ai]at hp;exact hp)|p::r,l,vs,h,hp=>by unfold Ns at h;split at h;(·rename_i he;cases he);(·rename_i f r' he;injection he with e1 e2;subst e1;subst e2;split at h;(·rename_i l' hl;injection h with h;subst h;simp only[ai]at hp;obtain⟨v,r,rfl,hv,hr⟩:=hp;simp only[ag]at hv;have Wo:[v]=[Value.func (.func f) #[] #[]]:=hv.2;injection Wo with Wo;rw[Wo,G2 hl hr];rfl);·cases h);·cases h
theorem G3 {w:World} {M:Mem} : ∀(x:Nat)(l:List Nat),aH (B8 (x::l)) (P4 (x::l)) w M ((x::l).map mkF)|x,[]=>rfl|x,y::r=>⟨[mkF x],(y::r).map mkF,rfl,rfl,G3 y r⟩
theorem zU: ∀(x:Nat)(l:List Nat),(B8 (x::l)).cells=(x::l).length|x,[]=>rfl|x,y::r=>by show 1+(B8 (y::r)).cells=_;rw[zU y r];simp only[List.length_cons];omega
theorem C2: ∀l:List Nat,aR (B8 l)=0|[]=>rfl|[_]=>rfl|x::y::r=>by show aR .aD+aR (B8 (y::r))=0;rw[C2 (y::r)];rfl
mutual theorem C3 {c c':Ctx} {ks:List Nat} {bl:List (Nat×aO)} (hw:c'.w=c.w)(hS: ∀b,c.M.S b→c'.M.S b)(hD: ∀i,ak i ks=false→c.D i→c'.D i)(cJ:c'.ν=c.ν)(hb: ∀i b,look i bl=some b→lY c i b)(hl: ∀i,ak i ks=true→c.D i→ ∀g,aE (c.ν i)=some g→c'.M.S g): ∀ {p:PV} {v:Value},ag c p v→ag c' (p.aQ ks bl) v|.iv T x,v,h=>(by simp only[PV.aQ,ag]at h⊢;exact⟨h.1,ig (fun _ _=>by rw[hw]) hS h.1 h.2⟩)|.ref i off,v,h=>(by simp only[PV.aQ];cases hi:ak i ks;(·simp only[cond_false,ag]at h⊢;obtain⟨hd,g,h1,h2⟩:=h;exact⟨hD _ hi hd,g,by rw[cJ];exact h1,h2⟩);·simp only[cond_true];split;(·rename_i cs te G4;split;(·rename_i x l dJ;simp only[ag]at h⊢;obtain⟨hd,g,h1,h2⟩:=h;obtain⟨_,g',vs,e,e1,_,_,e2,_,e3⟩:=hb _ _ G4;rw[h1]at e1;injection e1 with e1;injection e1 with e1;injection e1 with e1;subst e1;have tk:=G2 dJ e3;refine⟨C2 (x::l),g,0,vs.toList,by rw[h2];simp,hl i hi hd g (by rw[h1];rfl),by rw[tk,List.length_map];exact(zU x l).symm,fun j v hj=>?_,?_⟩;(·rw[hw];simp only[World.cell?,e2,Nat.zero_add];simpa using hj);·rw[tk];exact G3 x l);·simp only[ag]);·simp only[ag])|.dU T x off,v,h=>(by simp only[PV.aQ,ag]at h⊢;obtain⟨ho,g,o,cs,h1,h2,h3,h4,h5⟩:=h;exact⟨ho,g,o,cs,h1,hS _ h2,h3,h4.mono (by rw[hw]),aB (fun _ _=>by rw[hw]) hS _ _ _ ho h5⟩)|.aF i,v,h=>(by simp only[PV.aQ];cases hi:ak i ks;(·simp only[cond_false,ag]at h⊢;exact⟨hD _ hi h.1,by rw[cJ];exact h.2.1,h.2.2⟩);·simp only[cond_true];split;(·rename_i T xs te G4;simp only[ag]at h⊢;obtain⟨rI,mM⟩:=mW (hb _ _ G4);refine⟨by simpa[aR]using rI,?_⟩;have:=qQ (M':=c'.M) rI hS mM (hl i hi h.1);rw[h.2.1,hw];exact this);·simp only[ag])|.jI i sz off len,v,h=>(by simp only[PV.aQ];cases hi:ak i ks;(·simp only[cond_false,ag]at h⊢;obtain⟨hd,a,n,cap,b,h1,h2⟩:=h;exact⟨hD _ hi hd,a,n,cap,b,by rw[cJ];exact h1,h2⟩);·simp only[cond_true];split;(·rename_i T xs te G4;split;(·rename_i de;have de:=Nat.eq_of_beq_eq_true de;simp only[ag]at h⊢;obtain⟨hd,a,n,cap,b,bq3,hn,rH,rfl,jl⟩:=h;obtain⟨rI,mM⟩:=mW (hb _ _ G4);refine⟨by simpa[aR]using rI,?_⟩;have jW:=qQ (M':=c'.M) rI hS mM (hl i hi hd);rw[bq3]at jW;(have hlen:n=xs.length:=by obtain⟨a',pL,hv,_⟩:=jW;injection hv with hv;injection hv);subst hlen;subst de;rw[hw];exact yC jW hn jl);·simp only[ag]);·simp only[ag])|.gx i sz j off,v,h=>(by simp only[PV.aQ];cases hi:ak i ks;(·simp only[cond_false,ag]at h⊢;obtain⟨hd,g,o,n,cap,h1,h2⟩:=h;exact⟨hD _ hi hd,g,o,n,cap,by rw[cJ];exact h1,h2⟩);·simp only[cond_true,ag])|.lmap i,v,h=>(by simp only[PV.aQ];cases hi:ak i ks;(·simp only[cond_false,ag]at h⊢;exact⟨hD _ hi h.1,by rw[cJ];exact h.2.1,h.2.2⟩);·simp only[cond_true];split;(·rename_i K V es G4;simp only[ag]at h⊢;obtain⟨dg,tG,h0,r,ax,clock,h1,h2,h3,h4,h5,h6,h7⟩:=hb _ _ G4;refine⟨by simp only[aR];omega,?_⟩;rw[hw];exact LB dg tG hS h0 (by rw[h.2.1,h1]) (hl i hi h.1 r (by rw[h1];rfl)) h4 h5 h6 h7);·simp only[ag])|.agg cs,v,h=>(by simp only[PV.aQ,ag]at h⊢;obtain⟨vs,h1,h0,h2⟩:=h;exact⟨vs,h1,h0,eA hw hS hD cJ hb hl h2⟩)|.bq cs,v,h=>(by simp only[PV.aQ,ag]at h⊢;obtain⟨vs,h1,h2⟩:=h;exact⟨vs,h1,eA hw hS hD cJ hb hl h2⟩)|.bI,v,h=>(by simp only[PV.aQ,ag]at h⊢;exact h)|.dc,v,h=>(by simp only[PV.aQ,ag]at h⊢;exact h)|.dP,v,h=>(by simp only[PV.aQ,ag]at h⊢;exact h)|.jj i base T n j,v,h=>(by simp only[PV.aQ];cases hi:ak i ks;(·simp only[cond_false,ag]at h⊢;obtain⟨hd,h0,hn,g,h1,h2⟩:=h;exact⟨hD _ hi hd,h0,hn,g,by rw[cJ];exact h1,h2⟩);·simp only[cond_true,ag])|.yh f cs,v,h=>(by simp only[PV.aQ,ag]at h⊢;obtain⟨vs,h1,h2⟩:=h;exact⟨vs,h1,eA hw hS hD cJ hb hl h2⟩)|.pj f cs,v,h=>(by simp only[PV.aQ,ag]at h⊢;obtain⟨vs,h1,h2⟩:=h;exact⟨vs,h1,eA hw hS hD cJ hb hl h2⟩)|.cN hk i,v,h=>(by simp only[PV.aQ];cases hi:ak i ks;(·simp only[cond_false,ag]at h⊢;obtain⟨hd,g,h1,h2⟩:=h;exact⟨hD _ hi hd,g,by rw[cJ];exact h1,h2⟩);·simp only[cond_true,ag])|.clip T xs,v,h=>(by simp only[PV.aQ,ag]at h⊢;exact⟨h.1,h.2.1,aB (fun _ _=>by rw[hw]) hS (.sl T) _ _ h.1 h.2.2⟩)|.fn f cs,v,h=>(by simp only[PV.aQ,ag]at h⊢;obtain⟨vs,h1,h2⟩:=h;exact⟨vs,h1,eA hw hS hD cJ hb hl h2⟩)|.any,v,h=>by simp only[PV.aQ,ag]theorem eA {c c':Ctx} {ks:List Nat} {bl:List (Nat×aO)} (hw:c'.w=c.w)(hS: ∀b,c.M.S b→c'.M.S b)(hD: ∀i,ak i ks=false→c.D i→c'.D i)(cJ:c'.ν=c.ν)(hb: ∀i b,look i bl=some b→lY c i b)(hl: ∀i,ak i ks=true→c.D i→ ∀g,aE (c.ν i)=some g→c'.M.S g): ∀ {ps:List PV} {vs:List Value},ai c ps vs→ai c' (PV.fL ks bl ps) vs|[],vs,h=>(by simp only[PV.fL,ai]at h⊢;exact h)|p::ps,vs,h=>by simp only[PV.fL,ai]at h⊢;obtain⟨v,r,h1,h2,h3⟩:=h;exact⟨v,r,h1,C3 hw hS hD cJ hb hl h2,eA hw hS hD cJ hb hl h3⟩end
theorem wa(s:St)(ks:List Nat)(i:Nat):look i (s.aQ ks).bl=bif ak i ks then none else(look i s.bl).map (aO.map (PV.fL ks s.bl)):=by simp only[St.aQ,ff,nX]
theorem QP(s:St)(ks:List Nat)(t:Nat):(s.aQ ks).get t=(s.get t).aQ ks s.bl:=by simp only[St.get,St.aQ,gV];cases look t s.sl<;>simp[PV.aQ]
theorem Full.ej(h:Full n w0 S0 s a w ν S)(ks:List Nat):Full n w0 S0 (s.aQ ks) a w ν (lz S s ν ks):=by
 have hS: ∀b,S b→lz S s ν ks b:=fun b hb=>.inl hb;(have hD: ∀i,ak i ks=false→s.D i→(s.aQ ks).D i:=by rintro i hi⟨b,hb⟩;exact⟨b.map (PV.fL ks s.bl),by rw[wa,hi,hb];rfl⟩)
 have hl: ∀i,ak i ks=true→s.D i→ ∀g,aE (ν i)=some g→lz S s ν ks g:=fun i hi hd g hg=>.inr ⟨i,hi,hd,hg⟩;(have kg: ∀i b,look i (s.aQ ks).bl=some b→ak i ks=false∧ ∃b0,look i s.bl=some b0∧b=b0.map (PV.fL ks s.bl):=by intro i b hb;rw[wa]at hb;cases hi:ak i ks with|true=>rw[hi]at hb;cases hb|false=>rw[hi,cond_false]at hb;cases hl:look i s.bl with|none=>rw[hl]at hb;cases hb|some b0=>rw[hl]at hb;injection hb with hb;exact⟨rfl,b0,rfl,hb.symm⟩)
 refine⟨h.below,fun b hb=>hS b (h.Cc b hb),fun b hb=>?_,⟨fun b hb=>?_,h.W.size,fun i b hb=>?_,fun i j b c fv hi hj=>?_⟩,fun t=>?_,h.size,h.defers,h.sj,fun i hi hd=>?_,h.Ep⟩
 (·rcases hb with hb|⟨i,_,⟨b0,ja⟩,hg⟩;(·exact h.fresh b hb);·exact .inr (h.iH ja hg).1);(·rcases hb with hb|⟨i,_,⟨b0,ja⟩,hg⟩;(·exact h.W.lt b hb);·exact(h.iH ja hg).2.2)
 (·obtain⟨hi,b0,ja,rfl⟩:=kg i b hb;have hr:=h.W.cA i b0 ja;(have tH: ∀g,aE (ν i)=some g→ ¬lz S s ν ks g:=by rintro g hg(hs|⟨j,hj,⟨bj,hbj⟩,zw⟩);(·exact(h.iH ja hg).2.1 hs);·(have fv:i≠j:=by rintro rfl;rw[hi]at hj;cases hj);exact h.W.ne i j b0 bj fv ja hbj g hg zw);cases b0 with|box cs te=>obtain⟨jJ,g,vs,e,h1,h2,h3,h4,h0,h5⟩:=hr;exact⟨jJ.mV rfl fun _ _=>rfl,g,vs,e,h1,h2,tH g (by simp only at h1;rw[h1];rfl),h4,h0,eA (c:=⟨ν,s.D,w,⟨S,aK w0 S0⟩⟩) (c':=⟨ν,(s.aQ ks).D,w,⟨lz S s ν ks,aK w0 S0⟩⟩) rfl hS hD rfl h.W.cA hl h5⟩|arr T xs te=>obtain⟨jJ,ho,v,hv,h1,h2⟩:=hr;injection hv with hv;simp only at hv;refine⟨jJ.mV rfl fun _ _=>rfl,ho,v,by simp only[hv],h1,?_⟩;rcases h2 with h2|⟨g,o,cap,cur,e,rfl,h3,h4,h5,h6,h7,h8,h9⟩;(·exact .inl h2);(·refine .inr ⟨g,o,cap,cur,e,rfl,h3,h4,tH g (by rw[hv];rfl),h6,h7,h8,fun i y hy=>?_⟩;obtain⟨cs,hl,Ej,hr⟩:=h9 i y hy;exact⟨cs,hl,Ej,aB (fun _ _=>rfl) hS _ _ _ ho hr⟩)|mp K V es=>obtain⟨dg,tG,h0,r,ax,clock,h1,h2,h3,h4,h5,h6,h7⟩:=hr;refine⟨dg,tG,h0,r,ax,clock,h1,h2,tH r (by simp only at h1;rw[h1];rfl),h4,h5,h6,fun i y hy=>?_⟩;obtain⟨e,ca,cb,a1,a2,a3,a4,a5⟩:=h7 i y hy;exact⟨e,ca,cb,a1,a2,aB (fun _ _=>rfl) hS _ _ _ dg a3,a4,aB (fun _ _=>rfl) hS _ _ _ tG a5⟩|it src since seen=>obtain⟨g,m,h1,h2,h3,h4,h6⟩:=hr;exact⟨g,m,h1,h2,tH g (by simp only at h1;rw[h1];rfl),h4,eA (c:=⟨ν,s.D,w,⟨S,aK w0 S0⟩⟩) (c':=⟨ν,(s.aQ ks).D,w,⟨lz S s ν ks,aK w0 S0⟩⟩) rfl hS hD rfl h.W.cA hl h6⟩|zd x pos=>obtain⟨g,h1,h2,h3,h4,h5⟩:=hr;exact⟨g,h1,h2,tH g (by simp only at h1;rw[h1];rfl),h4,h5⟩|gh o cs=>obtain⟨g,vs,h1,h2,h3,h4,h6⟩:=hr;exact⟨g,vs,h1,h2,tH g (by simp only at h1;rw[h1];rfl),h4,eA (c:=⟨ν,s.D,w,⟨S,aK w0 S0⟩⟩) (c':=⟨ν,(s.aQ ks).D,w,⟨lz S s ν ks,aK w0 S0⟩⟩) rfl hS hD rfl h.W.cA hl h6⟩)
 (·obtain⟨_,b0,ja,_⟩:=kg i b hi;obtain⟨_,c0,tL,_⟩:=kg j c hj;exact h.W.ne i j b0 c0 fv ja tL);(·rw[QP];exact C3 (c:=⟨ν,s.D,w,⟨S,aK w0 S0⟩⟩) (c':=⟨ν,(s.aQ ks).D,w,⟨lz S s ν ks,aK w0 S0⟩⟩) rfl hS hD rfl h.W.cA hl (h.fe t))
 ·obtain⟨b,hb⟩:=hd;obtain⟨_,b0,ja,_⟩:=kg i b hb;exact h.kept i hi ⟨b0,ja⟩
/-! ### Blocks handed to a callee -/
def wb(ν:Nat→Value)(ids:List Nat):Nat→Value:=fun k=>ν (gd ids (k-P0))
theorem dT {s:St} {ids:List Nat} {k:Nat} {b:aO} (h:look k (passed ids s.bl ids P0)=some b):P0≤k∧k-P0<ids.length∧ ∃b0,look (gd ids (k-P0)) s.bl=some b0∧b=b0.map (PV.dM (fwd ids)):=by
 rw[mn (fun _ h=>h)]at h;split at h;(·rename_i hc;cases hl:look (gd ids (k-P0)) s.bl with|none=>rw[hl]at h;cases h|some b0=>rw[hl]at h;injection h with h;exact⟨hc.1,hc.2,b0,rfl,h.symm⟩)
 ·cases h
theorem QQ {s:St} {ids:List Nat} {i:Nat} (hi:ak i ids=true)(hd:s.D i):(⟨[],passed ids s.bl ids P0⟩:St).D (fwd ids i):=by
 obtain⟨b,hb⟩:=hd;obtain⟨h1,h2,h3⟩:=uj hi;refine⟨b.map (PV.dM (fwd ids)),?_⟩;simp only;rw[mn (fun _ h=>h),if_pos ⟨h1,h3⟩,h2,hb];rfl
def cxC(S:Nat→Prop)(s:St)(ν:Nat→Value)(ids:List Nat):Cx:=⟨S,gi (wb ν ids) (passed ids s.bl ids P0),wb ν ids,[]⟩
theorem um {s:St} {ν:Nat→Value} {ids:List Nat} {g:Nat} (h:gi (wb ν ids) (passed ids s.bl ids P0) g): ∃i b,ak i ids=true∧look i s.bl=some b∧aE (ν i)=some g:=by
 obtain⟨k,b,hk,hg⟩:=h;obtain⟨h1,h2,b0,ja,_⟩:=dT hk;exact⟨_,b0,ui h2,ja,hg⟩
theorem wc {ks:List Nat} {bl:List (Nat×aO)} : ∀ {l:List Nat} {i:Nat} {b:aO},kY ks bl l=true→i∈l→look i bl=some b→fO ks b=true|[],i,b,_,h,_=>(by cases h)|x::r,i,b,h,hi,hb=>by simp only[kY,Bool.and_eq_true]at h;rcases List.mem_cons.1 hi with rfl|hi;(·have h1:=h.1;rw[hb]at h1;cases b<;>first|exact h1|rfl);·exact wc h.2 hi hb
theorem Full.handed(h:Full n w0 S0 s a w ν S) {ids:List Nat} (cN:ke ids=true)(iZ:kY ids s.bl ids=true):tB ⟨[],passed ids s.bl ids P0⟩ (wb ν ids) w ⟨S,aK w (cxC S s ν ids)⟩∧(∀g,gi (wb ν ids) (passed ids s.bl ids P0) g→g<w.heap.size)∧ ∀(S1:Nat→Prop),(∀b,S b→S1 b)→Ctx.VM ids (fwd ids) ⟨ν,s.D,w,⟨S,aK w0 S0⟩⟩ ⟨wb ν ids,(⟨[],passed ids s.bl ids P0⟩:St).D,w,⟨S1,aK w (cxC S s ν ids)⟩⟩:=by
 (have cJ: ∀i,ak i ids=true→wb ν ids (fwd ids i)=ν i:=by intro i hi;unfold wb;rw[(uj hi).2.1]);have hle: ∀(S1:Nat→Prop),(∀b,S b→S1 b)→Ctx.VM ids (fwd ids) ⟨ν,s.D,w,⟨S,aK w0 S0⟩⟩ ⟨wb ν ids,(⟨[],passed ids s.bl ids P0⟩:St).D,w,⟨S1,aK w (cxC S s ν ids)⟩⟩:=fun S1 hS1=>⟨fun _ _=>rfl,hS1,fun i hi hd=>QQ hi hd,fun i hi _=>cJ i hi⟩
 refine⟨⟨h.W.lt,fun b hb=>.inl hb,fun k b hb=>?_,fun k l b c pc hk hl g hg fu=>?_⟩,fun g hg=>?_,hle⟩;(·obtain⟨h1,h2,b0,ja,rfl⟩:=dT hb;have hm:=ui h2;(have hf:fwd ids (gd ids (k-P0))=k:=by rw[uk cN h2];omega);have:=pZ (hle S (fun _ h=>h)) (i:=gd ids (k-P0)) (b:=b0) (wc iZ (eu.1 hm) ja) (cJ _ hm) (fun g hg=>⟨rfl,.inr ⟨k,_,hb,hg⟩,(h.iH ja hg).2.1⟩) (h.W.cA _ b0 ja);rw[hf]at this;exact this)
 (·obtain⟨h1,h2,b0,ja,_⟩:=dT hk;obtain⟨h3,h4,c0,tL,_⟩:=dT hl;refine h.W.ne (gd ids (k-P0)) (gd ids (l-P0)) b0 c0 (fun e=>pc ?_) ja tL g hg fu;have e1:=uk cN h2;have e2:=uk cN h4;rw[e,e2]at e1;omega)
 ·obtain⟨i,b,_,hb,fu⟩:=um hg;exact(h.iH hb fu).2.2
end
end Go.Proofs.YtgpkijnphchkpaaGreat
namespace Go.Proofs.YtgpkijnphchkpaaGreat
variable {dV:Prop} [jY dV]
open Go.RowKit
mutual theorem ng {c:Ctx} {bl:List (Nat×aO)} (hD: ∀i,c.D i→ ∃b,look i bl=some b): ∀ {p:PV} {v:Value},ag c p v→PV.oN (keys bl) p=true|.iv T x,v,h=>rfl|.ref i off,v,h=>(by simp only[ag]at h;obtain⟨b,hb⟩:=hD _ h.1;exact dv hb)|.dU T x off,v,h=>rfl|.aF i,v,h=>(by simp only[ag]at h;obtain⟨b,hb⟩:=hD _ h.1;exact dv hb)|.jI i sz off len,v,h=>(by simp only[ag]at h;obtain⟨b,hb⟩:=hD _ h.1;exact dv hb)|.gx i sz j off,v,h=>(by simp only[ag]at h;obtain⟨b,hb⟩:=hD _ h.1;exact dv hb)|.lmap i,v,h=>(by simp only[ag]at h;obtain⟨b,hb⟩:=hD _ h.1;exact dv hb)|.agg cs,v,h=>(by simp only[ag]at h;obtain⟨vs,_,_,h2⟩:=h;exact fk hD h2)|.bq cs,v,h=>(by simp only[ag]at h;obtain⟨vs,_,h2⟩:=h;exact fk hD h2)|.bI,v,h=>rfl|.dc,v,h=>rfl|.dP,v,h=>rfl|.jj i base T n j,v,h=>(by simp only[ag]at h;obtain⟨b,hb⟩:=hD _ h.1;exact dv hb)|.yh f cs,v,h=>(by simp only[ag]at h;obtain⟨vs,_,h2⟩:=h;exact fk hD h2)|.pj f cs,v,h=>(by simp only[ag]at h;obtain⟨vs,_,h2⟩:=h;exact fk hD h2)|.cN hk i,v,h=>(by simp only[ag]at h;obtain⟨b,hb⟩:=hD _ h.1;exact dv hb)|.clip T xs,v,h=>rfl|.fn f cs,v,h=>(by simp only[ag]at h;obtain⟨vs,_,h2⟩:=h;exact fk hD h2)|.any,v,h=>rfl theorem fk {c:Ctx} {bl:List (Nat×aO)} (hD: ∀i,c.D i→ ∃b,look i bl=some b): ∀ {ps:List PV} {vs:List Value},ai c ps vs→PV.eh (keys bl) ps=true|[],vs,h=>rfl|p::ps,vs,h=>by simp only[ai]at h;obtain⟨v,r,_,h2,h3⟩:=h;simp only[PV.eh,ng hD h2,fk hD h3,Bool.and_self]end
theorem qZ {c:Ctx} {bl:List (Nat×aO)} (hD: ∀i,c.D i→ ∃b,look i bl=some b) {i:Nat} {b:aO} (h:lY c i b):fO (keys bl) b=true:=by
 cases b with|box cs te=>obtain⟨_,g,vs,e,_,_,_,_,_,h5⟩:=h;exact fk hD h5|it cs a b=>obtain⟨g,m,_,_,_,_,h6⟩:=h;exact fk hD h6|gh o cs=>obtain⟨g,vs,_,_,_,_,h6⟩:=h;exact fk hD h6|_=>rfl
theorem G5 {bl':List (Nat×aO)} : ∀ {bl:List (Nat×aO)} {k:Nat} {b:aO},rP bl bl'=true→look k bl=some b→look k bl'=none→ ∃T xs te,b= .arr T xs te|[],k,b,_,h,_=>(by cases h)|p::r,k,b,hk,h,hn=>by simp only[rP,Bool.and_eq_true]at hk;simp only[look]at h;cases hb:Nat.beq k p.1 with|true=>simp only[hb,cond_true,Option.some.injEq]at h;subst h;have:=Nat.eq_of_beq_eq_true hb;subst this;have h1:=hk.1;rw[hn]at h1;(cases hp:p.2 with|arr T xs te=>exact⟨T,xs,te,rfl⟩|box cs te=>rw[hp]at h1;cases h1|mp K V es=>rw[hp]at h1;cases h1|it a b c=>rw[hp]at h1;cases h1|zd a b=>rw[hp]at h1;cases h1|gh a b=>rw[hp]at h1;cases h1)|false=>simp only[hb,cond_false]at h;exact G5 hk.2 h hn
theorem LW {bl:List (Nat×aO)} {used:List Nat} {d:Option Nat} : ∀ {l:List (Nat×aO)} {k:Nat} {b:aO},Cb bl used d l=true→look k l=some b→(P0≤k∧ ∃c,look k bl=some c)∨(k<P0∧ ∃e,d=some e∧k<100000∧k+100000*(e+1)<P0∧ak (k+100000*(e+1)) used=false)|[],k,b,_,h=>(by cases h)|(p1,p2)::r,k,b,hn,h=>by obtain⟨p,hp⟩: ∃p:Nat×aO,p=(p1,p2):=⟨_,rfl⟩;(obtain rfl:p.1=p1:=by rw[hp]);(obtain rfl:p.2=p2:=by rw[hp]);clear hp;simp only[Cb,Bool.and_eq_true]at hn;simp only[look]at h;cases hb:Nat.beq k p.1 with|true=>have:=Nat.eq_of_beq_eq_true hb;subst this;have h1:=hn.1;split at h1;(·rename_i ek;have hle:=Nat.le_of_ble_eq_true ek;cases hl:look p.1 bl with|none=>rw[hl]at h1;cases h1|some c=>exact .inl ⟨hle,c,rfl⟩);(·rename_i ek;(have dh:p.1<P0:=by rcases Nat.lt_or_ge p.1 P0 with h'|h';(·exact h');·rw[Nat.ble_eq_true_of_le h']at ek;cases ek);cases d with|none=>cases h1|some e=>simp only[Bool.and_eq_true,Nat.blt_eq,Bool.not_eq_true']at h1;exact .inr ⟨dh,e,rfl,h1.1.1,h1.1.2,h1.2⟩)|false=>simp only[hb,cond_false]at h;exact LW hn.2 h
section
variable {E:Env} {n:Nat} {w0:World} {S0:Cx} {s:St} {a:Act} {w:World} {ν:Nat→Value} {S:Nat→Prop}
theorem oe {ids:List Nat} {d k:Nat} (h:P0≤k):back ids d k=gd ids (k-P0):=by unfold back;rw[Nat.ble_eq_true_of_le h];rfl
theorem ra {ids:List Nat} {d k:Nat} (h:k<P0):back ids d k=k+100000*(d+1):=by
 unfold back;(have:Nat.ble P0 k=false:=by cases hb:Nat.ble P0 k with|false=>rfl|true=>have:=Nat.le_of_ble_eq_true hb;omega);rw[this];rfl
def gk(s:St)(d:Nat)(ids:List Nat)(bl':List (Nat×aO)):List (Nat×aO):=je (back ids d) bl'++cj ids (s.kill (cR bl' ids P0)).bl
noncomputable def kE(ν ν':Nat→Value)(d:Nat)(bl':List (Nat×aO)):Nat→Value:=fun i=>match Nat.ble (100000*(d+1)) i,look (i-100000*(d+1)) bl' with|true,some _=>bif Nat.blt (i-100000*(d+1)) 100000 then ν' (i-100000*(d+1))else ν i|_,_=>ν i
theorem Full.cZ(h:Full n w0 S0 s a w ν S) {ids:List Nat} {d:Option Nat} {p:PV} {v:Value} {bl':List (Nat×aO)} {w':World} {ν':Nat→Value} {S':Nat→Prop} (cN:ke ids=true)(iZ:kY ids s.bl ids=true)(hk:Kept (gi (wb ν ids) (passed ids s.bl ids P0)) w w')(h1: ∀b,S b→S' b)(h2: ∀b,S' b→S b∨aK w (cxC S s ν ids) b)(h3: ∀i,P0≤i→(⟨[],bl'⟩:St).D i→ν' i=wb ν ids i)(hW:tB ⟨[],bl'⟩ ν' w' ⟨S',aK w (cxC S s ν ids)⟩)(hp:ag ⟨ν',(⟨[],bl'⟩:St).D,w',⟨S',aK w (cxC S s ν ids)⟩⟩ p v)(mr:rP (passed ids s.bl ids P0) bl'=true)(cQ:Cb (passed ids s.bl ids P0) (keys s.bl) d bl'=true)(hd: ∀e,d=some e→e<n): ∃J0,Full n w0 S0 (s.eo d ids p bl') (a.put d v) w' J0 S':=by
 obtain⟨dd,pf⟩: ∃dd:Nat,dd=(match d with|some e=>e|none=>0):=⟨_,rfl⟩;(have kj:(s.eo d ids p bl').bl=gk s dd ids bl':=by subst pf;cases d<;>rfl);(have jW: ∀t,(s.eo d ids p bl').get t=match d with|some e=>if t=e then p.ef (back ids dd)else((s.get t).kill (cR bl' ids P0))|none=>(s.get t).kill (cR bl' ids P0):=by intro t;subst pf;cases d with|none=>exact zx s _ t|some e=>simp only[St.eo,St.get];by_cases ht:t=e;(·subst ht;simp only[aM,if_true]);·rw[aC _ _ ht,if_neg ht];have:=zx s (cR bl' ids P0) t;simp only[St.get]at this;exact this)
 (have iI: ∀k b,look k bl'=some b→(P0≤k∧k-P0<ids.length∧ ∃b0,look (gd ids (k-P0)) s.bl=some b0)∨(k<P0∧d=some dd∧k<100000∧k+100000*(dd+1)<P0∧look (k+100000*(dd+1)) s.bl=none):=by intro k b hb;rcases LW cQ hb with⟨hle,c,hc⟩|⟨dh,e,he,hk1,hk2,J1⟩;(·obtain⟨_,h5,b0,ja,_⟩:=dT hc;exact .inl ⟨hle,h5,b0,ja⟩);·subst he;simp only at pf;subst pf;refine .inr ⟨dh,rfl,hk1,hk2,?_⟩;cases hl:look (k+100000*(dd+1)) s.bl with|none=>rfl|some b=>rw[dv hl]at J1;cases J1)
 (have Cn: ∀j k c e,look j bl'=some c→look k bl'=some e→back ids dd j=back ids dd k→j=k:=by intro j k c e hj hk he;rcases iI j c hj with⟨a1,a2,b0,a3⟩|⟨a1,_,a2,a3,a4⟩;(·rcases iI k e hk with⟨b1,b2,c0,b3⟩|⟨b1,_,b2,b3,b4⟩;(·rw[oe a1,oe b1]at he;have e1:=uk cN a2;have e2:=uk cN b2;rw[he,e2]at e1;omega);·rw[oe a1,ra b1]at he;rw[he,b4]at a3;cases a3);·rcases iI k e hk with⟨b1,b2,c0,b3⟩|⟨b1,_,b2,b3,b4⟩;(·rw[ra a1,oe b1]at he;rw[←he,a4]at b3;cases b3);·rw[ra a1,ra b1]at he;omega)
 (have qa: ∀i,s.D i→kE ν ν' dd bl' i=ν i:=by rintro i⟨b,hb⟩;unfold kE;split;(·rename_i c ek hl;cases dh:Nat.blt (i-100000*(dd+1)) 100000 with|false=>rfl|true=>have hle:=Nat.le_of_ble_eq_true ek;rw[Nat.blt_eq]at dh;rcases iI _ c hl with⟨a1,_⟩|⟨_,_,_,_,a4⟩;(·unfold P0 at a1;omega);·rw[show i-100000*(dd+1)+100000*(dd+1)=i from by omega,hb]at a4;cases a4);·rfl)
 (have zV: ∀k b,look k bl'=some b→kE ν ν' dd bl' (back ids dd k)=ν' k:=by intro k b hb;rcases iI k b hb with⟨a1,a2,b0,a3⟩|⟨a1,_,a2,a3,a4⟩;(·rw[oe a1,qa _ ⟨b0,a3⟩,h3 k a1 ⟨b,hb⟩];rfl);·rw[ra a1];unfold kE;rw[Nat.ble_eq_true_of_le (by omega),show k+100000*(dd+1)-100000*(dd+1)=k from by omega,hb];(have:Nat.blt k 100000=true:=by rw[Nat.blt_eq];exact a2);simp only[this,cond_true])
 (have QR: ∀k b,look k bl'=some b→look (back ids dd k) (gk s dd ids bl')=some (b.map (PV.dM (back ids dd))):=by intro k b hb;unfold gk;rw[mq,gG (fun i c hc he=>Cn i k c b hc hb he) hb])
 (have aD2: ∀i,ak i ids=false→s.D i→ ∃b,look i (gk s dd ids bl')=some b:=by rintro i hi⟨b,hb⟩;unfold gk;rw[mq];cases look i (je (back ids dd) bl')with|some x=>exact⟨x,rfl⟩|none=>exact⟨b.map (PV.cy (cR bl' ids P0)),by simp only;rw[ff,hi,cond_false,qR,hb];rfl⟩)
 (have zW: ∀i b,look i (gk s dd ids bl')=some b→(∃k c,back ids dd k=i∧look k bl'=some c∧b=c.map (PV.dM (back ids dd)))∨(ak i ids=false∧ ∃b0,look i s.bl=some b0∧b=b0.map (PV.cy (cR bl' ids P0))):=by intro i b hb;unfold gk at hb;rw[mq]at hb;cases hr:look i (je (back ids dd) bl')with|some x=>rw[hr]at hb;injection hb with hb;subst hb;exact .inl (ly Cn hr)|none=>rw[hr]at hb;simp only at hb;rw[ff]at hb;cases hi:ak i ids with|true=>rw[hi]at hb;cases hb|false=>rw[hi,cond_false,qR]at hb;cases hl:look i s.bl with|none=>rw[hl]at hb;cases hb|some b0=>rw[hl]at hb;injection hb with hb;exact .inr ⟨rfl,b0,rfl,hb.symm⟩)
 (have QS: ∀g,gi (wb ν ids) (passed ids s.bl ids P0) g→aK w0 S0 g∧ ¬S g∧g<w.heap.size:=fun g hg=>by obtain⟨i,b,_,hb,fu⟩:=um hg;exact h.iH hb fu);(have mM: ∀g,aK w (cxC S s ν ids) g→aK w0 S0 g:=fun g hg=>by rcases hg with hg|hg;(·exact h.W.size g hg);·exact(QS g hg).1)
 (have QT: ∀i,ak i ids=true→s.D i→ak i (cR bl' ids P0)=false→ ∃b,look (fwd ids i) bl'=some b:=by intro i hi _ LX;obtain⟨f1,f2,f3⟩:=uj hi;cases hl:look (fwd ids i) bl' with|some b=>exact⟨b,rfl⟩|none=>have:=(zT (bl':=bl') (i:=i) (l:=ids) (j:=P0)).2 ⟨fwd ids i-P0,f3,f2,by rw[show P0+(fwd ids i-P0)=fwd ids i from by omega];exact hl⟩;rw[this]at LX;cases LX)
 (have hD: ∀i,s.D i→ak i (cR bl' ids P0)=false→(⟨[],gk s dd ids bl'⟩:St).D i:=by intro i hi LX;cases hm:ak i ids with|false=>exact aD2 i hm hi|true=>obtain⟨b,hb⟩:=QT i hm hi LX;have:=QR _ b hb;obtain⟨f1,f2,f3⟩:=uj hm;rw[oe f1,f2]at this;exact⟨_,this⟩)
 have bb1:Ctx.Gz (cR bl' ids P0) ⟨ν,s.D,w,⟨S,aK w0 S0⟩⟩ ⟨kE ν ν' dd bl',(⟨[],gk s dd ids bl'⟩:St).D,w',⟨S',aK w0 S0⟩⟩:=⟨fun b hb=>hk.block b (h.W.lt b hb) (fun hf=>(QS b hf).2.1 hb),h1,hD,fun i hi _=>qa i hi⟩
 (have V1:GA ⟨ν,s.D,w,⟨S,aK w0 S0⟩⟩ (cR bl' ids P0):=by rintro i hi⟨b,hb⟩;obtain⟨k,e1,e2,e3⟩:=zT.1 hi;(have xp:look (P0+k) (passed ids s.bl ids P0)=some (b.map (PV.dM (fwd ids))):=by rw[mn (fun _ h=>h),if_pos ⟨by omega,by omega⟩,show P0+k-P0=k from by omega,e2,hb];rfl);obtain⟨T,xs,te,VL⟩:=G5 mr xp e3;cases b with|arr T xs te=>obtain⟨jJ,_,u,hu,_,hc⟩:=h.W.cA i _ hb;injection hu with hu;simp only at hu⊢;rw[hu];rcases hc with⟨hc,_⟩|⟨g,o,cap,cur,e,hc,_⟩<;>subst hc<;>exact⟨_,_,_,rfl⟩|box cs te=>cases VL|mp K V es=>cases VL|it a b c=>cases VL|zd a b=>cases VL|gh a b=>cases VL)
 have bb2:Ctx.VM (keys bl') (back ids dd) ⟨ν',(⟨[],bl'⟩:St).D,w',⟨S',aK w (cxC S s ν ids)⟩⟩ ⟨kE ν ν' dd bl',(⟨[],gk s dd ids bl'⟩:St).D,w',⟨S',aK w0 S0⟩⟩:=⟨fun _ _=>rfl,fun _ h=>h,fun i _⟨b,hb⟩=>⟨_,QR i b hb⟩,fun i _⟨b,hb⟩=>zV i b hb⟩
 (have Co:tB ⟨[],gk s dd ids bl'⟩ (kE ν ν' dd bl') w' ⟨S',aK w0 S0⟩:=by refine⟨hW.lt,fun b hb=>h.W.size b (Nat.le_trans hk.size hb),fun i b hb=>?_,fun i j b c fv hi hj g hg fu=>?_⟩;(·rcases zW i b hb with⟨k,c,rfl,hc,rfl⟩|⟨hi,b0,ja,rfl⟩;(·have hr:=hW.cA k c hc;exact pZ bb2 (qZ (fun i hi=>hi) hr) (zV k c hc) (fun g hg=>⟨rfl,mM g (gR hr hg).1,(gR hr hg).2.1⟩) hr);·refine CS bb1 V1 rfl (qa i ⟨b0,ja⟩) (fun g hg=>?_) (h.W.cA i b0 ja);obtain⟨g1,g2,g3⟩:=h.iH ja hg;(have Wm: ¬gi (wb ν ids) (passed ids s.bl ids P0) g:=by intro hf;obtain⟨j,c0,hj,tL,zw⟩:=um hf;exact h.W.ne i j b0 c0 (by rintro rfl;rw[hi]at hj;cases hj) ja tL g hg zw);refine⟨hk.block g g3 Wm,fun _ QD=>?_⟩;rcases h2 g QD with h'|h'|h';(·exact g2 h');(·omega);·exact Wm h');·(have AB: ∀(k:Nat)(c:aO)(j:Nat)(c0:aO),look k bl'=some c→ak j ids=false→look j s.bl=some c0→aE (ν' k)=some g→aE (ν j)=some g→False:=by intro k c j c0 hc hj tL zy zw;obtain⟨g1,g2,g3⟩:=h.iH tL zw;rcases(gR (hW.cA k c hc) zy).1 with h'|h';(·exact absurd g3 (Nat.not_lt.2 h'));·obtain⟨j',c0',BU,bq4,bq5⟩:=um h';exact h.W.ne j j' c0 c0' (by rintro rfl;rw[hj]at BU;cases BU) tL bq4 g zw bq5);rcases zW i b hi with⟨k,c1,rfl,Jp,_⟩|⟨hi1,b0,ja,_⟩;(·rw[zV k c1 Jp]at hg;rcases zW j c hj with⟨l,c2,rfl,hc2,_⟩|⟨hj1,c0,tL,_⟩;(·rw[zV l c2 hc2]at fu;exact hW.ne k l c1 c2 (fun e=>fv (by rw[e])) Jp hc2 g hg fu);·rw[qa j ⟨c0,tL⟩]at fu;exact AB k c1 j c0 Jp hj1 tL hg fu);·rw[qa i ⟨b0,ja⟩]at hg;rcases zW j c hj with⟨l,c2,rfl,hc2,_⟩|⟨hj1,c0,tL,_⟩;(·rw[zV l c2 hc2]at fu;exact AB l c2 i b0 hc2 hi1 ja fu hg);·rw[qa j ⟨c0,tL⟩]at fu;exact h.W.ne i j b0 c0 fv ja tL g hg fu)
 (have aD3:(s.eo d ids p bl').D=(⟨[],gk s dd ids bl'⟩:St).D:=by unfold St.D;rw[kj]);refine⟨kE ν ν' dd bl',⟨⟨hk.os.trans h.below.os,hk.tape.trans h.below.tape,hk.output.trans h.below.output,Nat.le_trans h.below.size hk.size,fun b hb hx=>?_,fun hd=>Nat.le_trans (h.below.drawn hd) (hk.drawn hd)⟩,fun b hb=>h1 b (h.Cc b hb),fun b hb=>?_,⟨Co.lt,Co.size,fun i b hb=>?_,fun i j b c fv hi hj=>?_⟩,fun t=>?_,?_,?_,h.sj,fun i hi CR=>?_,h.Ep⟩⟩
 (·rw[hk.block b (Nat.lt_of_lt_of_le hb h.below.size) (fun hf=>?_),h.below.block b hb hx];rcases(QS b hf).1 with h'|h';(·omega);·exact hx h');(·rcases h2 b hb with h'|h';(·exact h.fresh b h');·exact .inr (mM b h'))
 (·rw[kj]at hb;rw[aD3];exact Co.cA i b hb);(·rw[kj]at hi hj;exact Co.ne i j b c fv hi hj);(·rw[aD3,jW t];have hold:ag ⟨kE ν ν' dd bl',(⟨[],gk s dd ids bl'⟩:St).D,w',⟨S',aK w0 S0⟩⟩ ((s.get t).kill (cR bl' ids P0)) (a.tmps.getD t undef):=vO bb1 V1 (h.fe t);cases d with|none=>exact hold|some e=>by_cases ht:t=e;(·subst ht;simp only[if_true];have htn:=hd t rfl;(have:(a.put (some t) v).tmps.getD t undef=v:=by simp[Act.put,h.size,htn]);rw[this];exact iK bb2 (ng (fun i hi=>hi) hp) hp);·show ag _ (if t=e then p.ef (back ids dd)else(s.get t).kill (cR bl' ids P0)) _;rw[if_neg ht];(have:(a.put (some e) v).tmps.getD t undef=a.tmps.getD t undef:=by simp only[Act.put,Array.getD_eq_getD_getElem?];rw[Array.getElem?_setIfInBounds_ne (by omega)]);rw[this];exact hold)
 (·rw[tK];exact h.size);(·rw[nW];exact h.defers);·rw[aD3]at CR;obtain⟨b,hb⟩:=CR;rcases zW i b hb with⟨k,c,rfl,hc,_⟩|⟨_,b0,ja,_⟩;(·rcases iI k c hc with⟨a1,a2,b0,a3⟩|⟨a1,_,a2,a3,a4⟩;(·rw[oe a1]at hi⊢;rw[qa _ ⟨b0,a3⟩];exact h.kept _ hi ⟨b0,a3⟩);·rw[ra a1]at hi;omega);·rw[qa i ⟨b0,ja⟩];exact h.kept i hi ⟨b0,ja⟩
end
end Go.Proofs.YtgpkijnphchkpaaGreat
