/-
  What a callee leaves that was handed local blocks. Nothing here is trusted; no condition.
-/
import Derived.Test.YtgpkijnphchkpaaGreatA2
import Derived.Laws.Closers25b
import Derived.ChangeKeysEq
import Derived.Laws.BytesArg
import Derived.Lib.AppendZerosOnto
import Derived.MapKept
import Derived.Maps.RangeRun
set_option linter.unusedSimpArgs false
set_option linter.unusedVariables false
namespace Go.Proofs.YtgpkijnphchkpaaGreat
variable {dM:Prop} [jN dM]
open Go.RowKit
theorem fV(k:IntKind) {n:Int} (h:k.min≤n∧n≤k.max):k.wrap n=n:=by obtain⟨h1,h2⟩:=h;cases k<;>simp[IntKind.min,IntKind.max,IntKind.wrap,IntKind.bits,IntKind.signed]at* <;>omega
theorem jD(k:IntKind):k.min≤0:=by cases k<;>decide
theorem oO(k:IntKind):0≤k.max:=by cases k<;>decide
theorem lL(P:Program)(w:World)(op:BinOp)(t:Nat)(x y:Operand)(k l:IntKind)(m n:Int):(eqGuard op t x y (.int k m) (.int l n)).run P w= .ok () w:=by
 unfold eqGuard;simp only[Sem.run_ite];split<;>rfl
theorem Fa(P:Program)(w:World)(op:BinOp)(t:Nat)(x y:Operand)(m n:ByteArray):(eqGuard op t x y (.string m) (.string n)).run P w= .ok () w:=by
 unfold eqGuard;simp only[Sem.run_ite];split<;>rfl
theorem sy(P:Program)(w:World)(op:BinOp)(t:Nat)(x y:Operand)(m n:Bool):(eqGuard op t x y (.bool m) (.bool n)).run P w= .ok () w:=by
 unfold eqGuard;simp only[Sem.run_ite];split<;>rfl
theorem max_lt(k:IntKind):k.max<2^k.bits:=by cases k<;>decide
theorem fM(k:IntKind) {x:Int} (h0:0≤x)(h1:x≤k.max):(BitVec.ofInt k.bits x).toNat=x.toNat:=by
 have h2:=max_lt k;rw[BitVec.toNat_ofInt];have h3:x%((2^k.bits:Nat):Int)=x:=Int.emod_eq_of_lt h0 (by push_cast;omega);rw[h3]
theorem UK {E:Env} {c:Ctx} {op:BinOp} {k:IntKind} {x y:Int} {t:Nat} {w:World} {Kl:Out→Prop} (hx:k.min≤x∧x≤k.max)(hy:k.min≤y∧y≤k.max)(h:bo E (ou op k x y) Kl): ∃p v,Kl (.val p)∧ag c p v∧(binOp op t (.int k x) (.int k y)).run E.P w= .ok v w:=by
 have hmn:=jD k;(have xY: ∀(r:Int),(∃v,(binOp op t (.int k x) (.int k y)).run E.P w= .ok v w∧v= .int k (k.wrap r))→bo E (arith k r) Kl→ ∃p v,Kl (.val p)∧ag c p v∧(binOp op t (.int k x) (.int k y)).run E.P w= .ok v w:=by rintro r⟨v,hv,rfl⟩⟨hr,hK⟩;exact⟨_,_,hK,bT hr,by rw[hv,fV k hr]⟩)
 (have pX: ∀(b:Bool),(binOp op t (.int k x) (.int k y)).run E.P w= .ok (.bool b) w→bo E (fC b) Kl→ ∃p v,Kl (.val p)∧ag c p v∧(binOp op t (.int k x) (.int k y)).run E.P w= .ok v w:=by intro b hb hK;exact⟨_,_,hK,bK,hb⟩)
 cases op<;>simp only[ou]at h;(case add=>exact xY _ ⟨_,by simp[binOp,Op.intArith],rfl⟩ h);(case sub=>exact xY _ ⟨_,by simp[binOp,Op.intArith],rfl⟩ h);(case mul=>exact xY _ ⟨_,by simp[binOp,Op.intArith],rfl⟩ h)
 (case quo=>obtain⟨⟨h0,h1⟩,hK⟩:=h;(have hq:k.min≤x/y∧x/y≤k.max:=by have e1:0≤x/y:=Int.ediv_nonneg h0 (by omega);have e2:x/y≤x:=Int.ediv_le_self _ h0;omega);refine⟨_,_,hK,bT hq,?_⟩;simp only[binOp,ne_eq,not_true_eq_false,if_false,Op.intDiv];rw[if_neg (by omega)];simp only[Sem.run_pure,Int.tdiv_eq_ediv_of_nonneg h0,fV k hq])
 (case rem=>obtain⟨⟨h0,h1⟩,hK⟩:=h;(have hq:k.min≤x%y∧x%y≤k.max:=by have e1:0≤x%y:=Int.emod_nonneg _ (by omega);have e2:x%y<y:=Int.emod_lt_of_pos _ h1;omega);refine⟨_,_,hK,bT hq,?_⟩;simp only[binOp,ne_eq,not_true_eq_false,if_false,Op.intDiv];rw[if_neg (by omega)];simp only[Sem.run_pure,Int.tmod_eq_emod_of_nonneg h0])
 (case and=>obtain⟨⟨h0,h1⟩,hK⟩:=h;have e1:x.toNat &&& y.toNat≤x.toNat:=Nat.and_le_left;(have hr:k.min≤((x.toNat &&& y.toNat:Nat):Int)∧((x.toNat &&& y.toNat:Nat):Int)≤k.max:=by omega);refine⟨_,_,hK,bT hr,?_⟩;simp only[binOp,ne_eq,not_true_eq_false,if_false,Op.intBits,Sem.run_pure,BitVec.toNat_and,fM k h0 hx.2,fM k h1 hy.2,fV k hr])
 (case or=>obtain⟨⟨h0,h1⟩,hK⟩:=h;(have hr:k.min≤((x.toNat ||| y.toNat:Nat):Int)∧((x.toNat ||| y.toNat:Nat):Int)≤k.max:=by refine⟨by omega,?_⟩;(have hp: ∃b:Nat,k.max=((2^b-1:Nat):Int):=by cases k;(·exact⟨7,by decide⟩);(·exact⟨15,by decide⟩);(·exact⟨31,by decide⟩);(·exact⟨63,by decide⟩);(·exact⟨8,by decide⟩);(·exact⟨16,by decide⟩);(·exact⟨32,by decide⟩);·exact⟨64,by decide⟩);obtain⟨b,hb⟩:=hp;have n5:0<2^b:=Nat.two_pow_pos b;have:x.toNat ||| y.toNat<2^b:=Nat.or_lt_two_pow (by omega) (by omega);omega);refine⟨_,_,hK,bT hr,?_⟩;simp only[binOp,ne_eq,not_true_eq_false,if_false,Op.intBits,Sem.run_pure,BitVec.toNat_or,fM k h0 hx.2,fM k h1 hy.2,fV k hr])
 (case andNot=>obtain⟨⟨h0,h1⟩,hK⟩:=h;have e1:x.toNat &&& (2^k.bits-1-y.toNat)≤x.toNat:=Nat.and_le_left;(have hr:k.min≤((x.toNat &&& (2^k.bits-1-y.toNat):Nat):Int)∧((x.toNat &&& (2^k.bits-1-y.toNat):Nat):Int)≤k.max:=by omega);refine⟨_,_,hK,bT hr,?_⟩;simp only[binOp,ne_eq,not_true_eq_false,if_false,Op.intBits,Sem.run_pure,BitVec.toNat_and,BitVec.toNat_not,fM k (by omega:0≤x) hx.2,fM k h1 hy.2,fV k hr])
 (case lss=>exact pX _ (by simp[binOp,Op.intCmp]) h);(case leq=>exact pX _ (by simp[binOp,Op.intCmp]) h);(case gtr=>exact pX _ (by simp[binOp,Op.intCmp]) h);(case geq=>exact pX _ (by simp[binOp,Op.intCmp]) h)
 (case eql=>refine pX _ ?_ h;simp only[binOp,ne_eq,not_true_eq_false,if_false,Op.intCmp,Sem.run_pure];rfl);(case neq=>refine pX _ ?_ h;simp only[binOp,ne_eq,not_true_eq_false,if_false,Op.intCmp,Sem.run_pure];rfl)
 all_goals exact h.elim
theorem Mf {E:Env} {c:Ctx} {op:BinOp} {k l:IntKind} {x y:Int} {t:Nat} {w:World} {Kl:Out→Prop} (hx:k.min≤x∧x≤k.max)(h:bo E (kD op k x y) Kl): ∃p v,Kl (.val p)∧ag c p v∧(binOp op t (.int k x) (.int l y)).run E.P w= .ok v w:=by
 have hmn:=jD k;cases op<;>simp only[kD]at h;(case shl=>obtain⟨⟨h0,h1⟩,hr,hK⟩:=h;refine⟨_,_,hK,bT hr,?_⟩;simp only[binOp,Op.shift];rw[if_neg (by omega)];(have e1:min y.toNat k.bits=y.toNat:=by omega);simp only[e1,Sem.run_pure,fV k hr])
 (case shr=>obtain⟨⟨hx0,h0,h1⟩,hK⟩:=h;have n5:(0:Int)<2^y.toNat:=Int.pow_pos (by omega);(have hq:k.min≤x/2^y.toNat∧x/2^y.toNat≤k.max:=by have e1:0≤x/2^y.toNat:=Int.ediv_nonneg hx0 (by omega);have e2:x/2^y.toNat≤x:=Int.ediv_le_self _ hx0;omega);refine⟨_,_,hK,bT hq,?_⟩;simp only[binOp,Op.shift];rw[if_neg (by omega)];(have e1:min y.toNat k.bits=y.toNat:=by omega);simp only[e1,Sem.run_pure];rw[Int.fdiv_eq_ediv_of_nonneg _ (by omega)])
 all_goals exact h.elim
theorem toList_mk(x:List UInt8):(⟨x.toArray⟩:ByteArray).toList=x:=by rw[ByteArray.toList_eq]
theorem CV: ∀(x y:List UInt8),Op.bytesLess x y=bytesLess x y|_,[]=>(by simp[Op.bytesLess,bytesLess])|[],_::_=>(by simp[Op.bytesLess,bytesLess])|a::x,b::y=>by simp only[Op.bytesLess,bytesLess,CV x y]
theorem UL {E:Env} {c:Ctx} {op:BinOp} {x y:List UInt8} {t:Nat} {w:World} {Kl:Out→Prop} (h:bo E (ov op x y) Kl): ∃p v,Kl (.val p)∧ag c p v∧(binOp op t (.string ⟨x.toArray⟩) (.string ⟨y.toArray⟩)).run E.P w= .ok v w:=by
 cases op<;>simp only[ov]at h;(case add=>obtain⟨hl,hK⟩:=h;refine⟨_,_,hK,oJ (by rw[List.length_append];exact hl),?_⟩;(have e1:(⟨x.toArray⟩:ByteArray).size=x.length:=by simp[ByteArray.size]);(have e2:(⟨y.toArray⟩:ByteArray).size=y.length:=by simp[ByteArray.size]);(have e3:(⟨x.toArray⟩:ByteArray)++⟨y.toArray⟩=⟨(x++y).toArray⟩:=by apply ByteArray.ext;rw[ByteArray.data_append];simp);simp only[binOp,Op.stringOp,e1,e2,e3,Sem.run_ite];rw[if_neg (by simp[IntKind.max,IntKind.signed,IntKind.bits];omega)];rfl)
 (case eql=>refine⟨_,_,h,bK,?_⟩;(have e:(x==y)=decide (x=y):=by rw[Bool.eq_iff_iff];simp);simp only[binOp,Op.stringOp,toList_mk,Sem.run_pure,e]);(case neq=>refine⟨_,_,h,bK,?_⟩;(have e:(x==y)=decide (x=y):=by rw[Bool.eq_iff_iff];simp);simp only[binOp,Op.stringOp,toList_mk,Sem.run_pure,e])
 (case lss=>refine⟨_,_,h,bK,?_⟩;simp only[binOp,Op.stringOp,toList_mk,Sem.run_pure,CV]);(case geq=>refine⟨_,_,h,bK,?_⟩;simp only[binOp,Op.stringOp,toList_mk,Sem.run_pure,CV])
 all_goals exact h.elim
end Go.Proofs.YtgpkijnphchkpaaGreat
namespace Go.Proofs.YtgpkijnphchkpaaGreat
variable {dM:Prop} [jN dM]
open Go.RowKit
section
variable {E:Env}
def kQ(E:Env)(t:Nat):Ty→Prop|.int _=>True|.bool=>True|.str=>True|.st _=>E.cmp t=true|_=>False
theorem ux(hE:aG E) {t:Nat} (h:E.cmp t=true):(∃R,E.ty t=some (.st R))∧E.P.eqGuardType E.P.depth t=false∧((∃fs,E.P.underlying t=some (.struct fs)∧jb E.ty E.cmp fs.toList=true∧E.P.stoodInHeld t=false)∨ ∃m e,E.P.underlying t=some (.array m e)∧si E.ty E.cmp e=true):=by
 have h1:=hE.cmp t h;simp only[J5,Bool.and_eq_true,Bool.not_eq_true']at h1;obtain⟨h1,h4⟩:=h1;split at h1;(·rename_i fs R hu hT;simp only[Bool.and_eq_true,Bool.not_eq_true']at h1;exact⟨⟨R,hT⟩,h4,.inl ⟨fs,hu,h1.1.1,h1.2⟩⟩)
 (·rename_i m e R hu hT;exact⟨⟨R,hT⟩,h4,.inr ⟨m,e,hu,h1⟩⟩);·cases h1
theorem Mg(hE:aG E) {w:World} {M:Mem} {d:Nat} (ih: ∀(T:Ty)(t:Nat)(x y:T.den)(v u:Value)(r:Bool),cE E t T→kQ E t T→de T x w M v→de T y w M u→kC T x y=some r→dep T≤d→(Op.equalIn (d+1) t v u).run E.P w= .ok r w): ∀(fs:List Field)(R:Ty)(off:Nat),bQ E.ty fs R off=true→jb E.ty E.cmp fs=true→ ∀(x y:R.den)(r:Bool)(xs ys:Array Value),dep R≤d→off+R.cells≤xs.size→off+R.cells≤ys.size→aH R x w M ((xs.toList.drop off).take R.cells)→aH R y w M ((ys.toList.drop off).take R.cells)→kC R x y=some r→(Op.eqFields (d+1) xs ys fs).run E.P w= .ok r w:=by
 (have one: ∀(f:Field)(T:Ty)(off:Nat)(x y:T.den)(r:Bool)(xs ys:Array Value),Nat.beq f.offset off=true→oF E.ty f.type T=true→(match E.ty f.type with|some (.int _)=>true|some .bool=>true|some .str=>true|some (.st _)=>E.cmp f.type|_=>false)=true→dep T≤d→off+T.cells≤xs.size→off+T.cells≤ys.size→aH T x w M ((xs.toList.drop off).take T.cells)→aH T y w M ((ys.toList.drop off).take T.cells)→kC T x y=some r→ ∃v u,(Go.part f.type xs f.offset).run E.P w= .ok v w∧(Go.part f.type ys f.offset).run E.P w= .ok u w∧(Op.equalIn (d+1) f.type v u).run E.P w= .ok r w:=by intro f T off x y r xs ys h1 h2 hc hd hx hy uy Ii hb;have l7:=Nat.eq_of_beq_eq_true h1;(have hT:E.ty f.type=some T:=by unfold oF at h2;split at h2;(·rename_i U hU;rw[Ty.db h2]at hU;exact hU);·cases h2);have hf:=hE.facts hT;rw[hT]at hc;(have hk:kQ E f.type T:=by cases T<;>first|trivial|exact hc|cases hc);(have Ez: ∀(z:T.den)(vs:List Value),aH T z w M vs→de T z w M (valOf T vs):=by intro z vs hr;have:=gX hf.val hr;have hv:=hf.val;cases T<;>first|exact this|cases hv);exact⟨_,_,by rw[l7];exact jC hf hx,by rw[l7];exact jC hf hy,ih T f.type x y _ _ r hf hk (Ez x _ uy) (Ez y _ Ii) hb hd⟩)
 intro fs;induction fs with|nil=>intro R off h;cases h|cons f fs ihf=>intro R off h hc x y r xs ys hd hx hy uy Ii hb;simp only[jb,Bool.and_eq_true]at hc;cases fs with|nil=>simp only[bQ,Bool.and_eq_true]at h;obtain⟨⟨⟨⟨h1,h2⟩,h3⟩,h4⟩,h5⟩:=h;obtain⟨v,u,e1,e2,e3⟩:=one f R off x y r xs ys h1 h2 hc.1 hd hx hy uy Ii hb;(have hn:f.name≠ "_" :=by simpa using h5);simp only[Op.eqFields];rw[if_pos hn];simp only[Sem.run_bind,e1,e2,e3,Result.andThen_ok,Sem.run_ite];cases r<;>simp|cons g gs=>cases R with|pair a b=>have h':=h;simp only[bQ,Bool.and_eq_true]at h;obtain⟨⟨⟨⟨⟨h1,h2⟩,h3⟩,h4⟩,h5⟩,h6⟩:=h;simp only[kC]at hb;split at hb;(·rename_i p q hp hq;simp only[Option.some.injEq]at hb;(have hda:dep a≤d:=by simp only[dep]at hd;omega);(have hdb:dep b≤d:=by simp only[dep]at hd;omega);simp only[Ty.cells]at hx hy uy Ii;obtain⟨va,vb,hv,HJ,NU⟩:=uy;obtain⟨ua,ub,hu,hsa,hsb⟩:=Ii;(have split: ∀(zs:Array Value)(za zb:List Value),za.length=a.cells→zb.length=b.cells→(zs.toList.drop off).take (a.cells+b.cells)=za++zb→(zs.toList.drop off).take a.cells=za∧(zs.toList.drop (off+a.cells)).take b.cells=zb:=by intro zs za zb wG hlb he;constructor;(·have:=congrArg (List.take a.cells) he;rw[List.take_take,Nat.min_eq_left (by omega),←wG,List.take_left]at this;rw[←wG];exact this);·have:=congrArg (List.drop a.cells) he;rw[List.drop_take,List.drop_drop,←wG,List.drop_left]at this;rw[←wG];rw[show za.length+b.cells-za.length=b.cells from by omega]at this;exact this);obtain⟨e1,e2⟩:=split xs va vb (bO _ _ _ _ _ HJ) (bO _ _ _ _ _ NU) hv;obtain⟨e3,e4⟩:=split ys ua ub (bO _ _ _ _ _ hsa) (bO _ _ _ _ _ hsb) hu;obtain⟨v,u,f1,f2,f3⟩:=one f a off x.1 y.1 p xs ys h1 h2 hc.1 hda (by omega) (by omega) (by rw[e1];exact HJ) (by rw[e3];exact hsa) hp;have rest:=ihf b (off+a.cells) (by unfold bQ;exact h6) hc.2 x.2 y.2 q xs ys hdb (by omega) (by omega) (by rw[e2];exact NU) (by rw[e4];exact hsb) hq;(have hn:f.name≠ "_" :=by simpa using h5);rw[Op.eqFields];rw[if_pos hn];simp only[Sem.run_bind,f1,f2,f3,Result.andThen_ok,Sem.run_ite];subst hb;cases p;(·simp);·simpa using rest);(·cases hb)|_=>simp only[bQ]at h;cases h
theorem OM(hE:aG E) {w:World} {M:Mem} {d:Nat} {e:Nat} {V:Ty} (hV:E.ty e=some V)(hc:si E.ty E.cmp e=true)(hdV:dep V≤d)(ih: ∀(T:Ty)(t:Nat)(x y:T.den)(v u:Value)(r:Bool),cE E t T→kQ E t T→de T x w M v→de T y w M u→kC T x y=some r→dep T≤d→(Op.equalIn (d+1) t v u).run E.P w= .ok r w): ∀(m k:Nat)(x y:(rowOf V (m+1)).den)(r:Bool)(xs ys:Array Value),(k+(m+1))*V.cells≤xs.size→(k+(m+1))*V.cells≤ys.size→aH (rowOf V (m+1)) x w M ((xs.toList.drop (k*V.cells)).take ((m+1)*V.cells))→aH (rowOf V (m+1)) y w M ((ys.toList.drop (k*V.cells)).take ((m+1)*V.cells))→kC (rowOf V (m+1)) x y=some r→(Op.eqItems (d+1) e V.cells xs ys (List.range' k (m+1))).run E.P w= .ok r w:=by
 have hf:=hE.facts hV;(have hk:kQ E e V:=by unfold si at hc;rw[hV]at hc;cases V<;>first|trivial|exact hc|cases hc);(have Ez: ∀(z:V.den)(vs:List Value),aH V z w M vs→de V z w M (valOf V vs):=by intro z vs hr;have:=gX hf.val hr;have hv:=hf.val;cases V<;>first|exact this|cases hv)
 (have one: ∀(k:Nat)(x y:V.den)(r:Bool)(xs ys:Array Value),(k+1)*V.cells≤xs.size→(k+1)*V.cells≤ys.size→aH V x w M ((xs.toList.drop (k*V.cells)).take V.cells)→aH V y w M ((ys.toList.drop (k*V.cells)).take V.cells)→kC V x y=some r→ ∃v u,(Go.part e xs (k*V.cells)).run E.P w= .ok v w∧(Go.part e ys (k*V.cells)).run E.P w= .ok u w∧(Op.equalIn (d+1) e v u).run E.P w= .ok r w:=by intro k x y r xs ys hx hy uy Ii hb;rw[Nat.add_mul,Nat.one_mul]at hx hy;exact⟨_,_,jC hf hx,jC hf hy,ih V e x y _ _ r hf hk (Ez x _ uy) (Ez y _ Ii) hb hdV⟩)
 intro m;induction m with|zero=>intro k x y r xs ys hx hy uy Ii hb;simp only[Nat.zero_add,Nat.one_mul]at uy Ii;obtain⟨v,u,e1,e2,e3⟩:=one k x y r xs ys hx hy uy Ii hb;rw[List.range'_succ,List.range'_zero];simp only[Op.eqItems,Sem.run_bind,e1,e2,e3,Result.andThen_ok,Sem.run_ite];cases r<;>simp|succ m ihm=>intro k x y r xs ys hx hy uy Ii hb;simp only[rowOf,kC]at hb;split at hb;(·rename_i p q hp hq;simp only[Option.some.injEq]at hb;obtain⟨va,vb,hv,HJ,NU⟩:=uy;obtain⟨ua,ub,hu,hsa,hsb⟩:=Ii;have wG:=bO _ _ _ _ _ HJ;have hlb:=bO _ _ _ _ _ NU;have bh5:=bO _ _ _ _ _ hsa;have bs5:=bO _ _ _ _ _ hsb;(have split: ∀(zs:Array Value)(za zb:List Value),za.length=V.cells→(zs.toList.drop (k*V.cells)).take ((m+1+1)*V.cells)=za++zb→(zs.toList.drop (k*V.cells)).take V.cells=za∧(zs.toList.drop ((k+1)*V.cells)).take ((m+1)*V.cells)=zb:=by intro zs za zb wG he;have hle:V.cells≤(m+1+1)*V.cells:=Nat.le_mul_of_pos_left _ (by omega);constructor;(·have:=congrArg (List.take V.cells) he;rw[List.take_take,Nat.min_eq_left hle,←wG,List.take_left]at this;rw[←wG];exact this);·have:=congrArg (List.drop V.cells) he;rw[List.drop_take,List.drop_drop,←wG,List.drop_left,wG]at this;rw[show(m+1+1)*V.cells-V.cells=(m+1)*V.cells from by rw[Nat.add_mul (m+1) 1];omega,show k*V.cells+V.cells=(k+1)*V.cells from by rw[Nat.add_mul,Nat.one_mul]]at this;exact this);obtain⟨e1,e2⟩:=split xs va vb wG hv;obtain⟨e3,e4⟩:=split ys ua ub bh5 hu;have hmul:(k+1)*V.cells≤(k+(m+1+1))*V.cells:=Nat.mul_le_mul_right _ (by omega);obtain⟨v,u,f1,f2,f3⟩:=one k x.1 y.1 p xs ys (by omega) (by omega) (by rw[e1];exact HJ) (by rw[e3];exact hsa) hp;have rest:=ihm (k+1) x.2 y.2 q xs ys (by rw[show k+1+(m+1)=k+(m+1+1)from by omega];exact hx) (by rw[show k+1+(m+1)=k+(m+1+1)from by omega];exact hy) (by rw[e2];exact NU) (by rw[e4];exact hsb) hq;rw[List.range'_succ];simp only[Op.eqItems,Sem.run_bind,f1,f2,f3,Result.andThen_ok,Sem.run_ite];subst hb;cases p;(·simp);·simpa using rest);·cases hb
theorem ON(hE:aG E) {w:World} {M:Mem} : ∀(d:Nat)(T:Ty)(t:Nat)(x y:T.den)(v u:Value)(r:Bool),cE E t T→kQ E t T→de T x w M v→de T y w M u→kC T x y=some r→dep T≤d→(Op.equalIn (d+1) t v u).run E.P w= .ok r w:=by
 intro d;induction d with|zero=>intro T t x y v u r hf hk hv hu hb hd;(cases T with|int k=>obtain⟨hv,_⟩:=hv;injection hv with hv;subst hv;obtain⟨hu,_⟩:=hu;injection hu with hu;subst hu;obtain⟨dd,hu,hs⟩:=hf.qw;(cases dd<;>first|cases hs|skip);rename_i k';simp only[kC,Option.some.injEq]at hb;subst hb;rw[run_equalIn_int _ _ _ _ _ _ _ hu];rfl|bool=>obtain⟨rfl⟩:=hv;obtain⟨rfl⟩:=hu;obtain⟨dd,hu,hs⟩:=hf.qw;(have od:dd= .bool:=by cases dd<;>first|rfl|cases hs);subst od;simp only[kC,Option.some.injEq]at hb;subst hb;exact run_equalIn_bool' _ _ _ _ _ hu|str=>obtain⟨hv,_⟩:=hv;injection hv with hv;subst hv;obtain⟨hu,_⟩:=hu;injection hu with hu;subst hu;obtain⟨dd,hu,hs⟩:=hf.qw;(have od:dd= .string:=by cases dd<;>first|rfl|cases hs);subst od;simp only[kC,Option.some.injEq]at hb;subst hb;rw[run_equalIn_string _ _ _ _ _ hu,toList_mk,toList_mk];(have e:(x==y)=decide (x=y):=by rw[Bool.eq_iff_iff];simp);rw[e]|st R=>simp only[dep]at hd;omega|_=>cases hk)|succ d ih=>intro T t x y v u r hf hk hv hu hb hd;cases T with|int k=>obtain⟨hv,_⟩:=hv;injection hv with hv;subst hv;obtain⟨hu,_⟩:=hu;injection hu with hu;subst hu;obtain⟨dd,hu,hs⟩:=hf.qw;(cases dd<;>first|cases hs|skip);rename_i k';simp only[kC,Option.some.injEq]at hb;subst hb;rw[run_equalIn_int _ _ _ _ _ _ _ hu];rfl|bool=>obtain⟨rfl⟩:=hv;obtain⟨rfl⟩:=hu;obtain⟨dd,hu,hs⟩:=hf.qw;(have od:dd= .bool:=by cases dd<;>first|rfl|cases hs);subst od;simp only[kC,Option.some.injEq]at hb;subst hb;exact run_equalIn_bool' _ _ _ _ _ hu|str=>obtain⟨hv,_⟩:=hv;injection hv with hv;subst hv;obtain⟨hu,_⟩:=hu;injection hu with hu;subst hu;obtain⟨dd,hu,hs⟩:=hf.qw;(have od:dd= .string:=by cases dd<;>first|rfl|cases hs);subst od;simp only[kC,Option.some.injEq]at hb;subst hb;rw[run_equalIn_string _ _ _ _ _ hu,toList_mk,toList_mk];(have e:(x==y)=decide (x=y):=by rw[Bool.eq_iff_iff];simp);rw[e]|st R=>obtain⟨⟨R',hT'⟩,_,oP⟩:=ux hE hk;obtain⟨vs,rfl,Ez⟩:=hv;obtain⟨us,rfl,hru⟩:=hu;rcases oP with⟨fs,Ij,at3,c8⟩|⟨m,e,Ij,at3⟩;(case inr=>rcases hf.agg hE with⟨fs,xZ,_⟩|⟨m',e',V,xZ,hV,rfl,hVv,hV1,hm⟩;(·rw[Ij]at xZ;cases xZ);·rw[Ij]at xZ;injection xZ with xZ;injection xZ with h1 h2;subst h1;subst h2;obtain⟨i,hi,cY,_⟩:=(hE.facts hV).info;(have eT:E.P.cellsOf e=V.cells:=by simp[Program.cellsOf,hi,cY]);rw[run_equalIn_array w (d+1) vs.toArray us.toArray Ij hi,eT,List.range_eq_range'];obtain⟨m,rfl⟩: ∃k,m=k+1:=⟨m-1,by omega⟩;(have hlen: ∀(V:Ty)(k:Nat),(rowOf V k).cells=k*V.cells:=by intro V k;induction k with|zero=>simp[rowOf,Ty.cells]|succ k ih=>cases k with|zero=>simp[rowOf]|succ k=>simp only[rowOf,Ty.cells,ih,Nat.add_mul];omega);(have UM: ∀(V:Ty)(k:Nat),dep V≤dep (rowOf V (k+1)):=by intro V k;cases k with|zero=>exact Nat.le_refl _|succ k=>simp only[rowOf,dep];omega);have l1:=bO _ _ _ _ _ Ez;have l2:=bO _ _ _ _ _ hru;rw[hlen]at l1 l2;have Al:=UM V m;simp only[dep]at hd;refine OM hE hV at3 (by omega) ih m 0 x y r vs.toArray us.toArray (by simp[l1]) (by simp[l2]) ?_ ?_ hb;(·simpa[List.take_of_length_le (Nat.le_of_eq l1)]using Ez);·simpa[List.take_of_length_le (Nat.le_of_eq l2)]using hru);(have Ud:E.P.fieldsOf t=fs:=by simp[Program.fieldsOf,Ij]);(have cZ:bQ E.ty fs.toList R 0=true:=by obtain⟨dd,NV,hs⟩:=hf.qw;rw[Ij]at NV;injection NV with NV;subst NV;exact hs);rw[run_equalIn_struct w (d+1) t vs.toArray us.toArray (by rw[Ud];exact Ij) c8,Ud];have l1:=bO _ _ _ _ _ Ez;have l2:=bO _ _ _ _ _ hru;refine Mg hE ih fs.toList R 0 cZ at3 x y r vs.toArray us.toArray (by simp only[dep]at hd;omega) (by simp[l1]) (by simp[l2]) ?_ ?_ hb;(·simpa[List.take_of_length_le (Nat.le_of_eq l1)]using Ez);(·simpa[List.take_of_length_le (Nat.le_of_eq l2)]using hru)|_=>cases hk
theorem wH {P:Program} (w:World)(d:Nat) {t e:TypeId} (x:Option Addr)(hu:P.underlying t=some (.pointer e)):(Op.equalIn (d+1) t (.pointer x) (.pointer none)).run P w= .ok x.isNone w:=by
 unfold Op.equalIn;cases x<;>simp[run_underlying hu]
theorem OO(hE:aG E) {n:Nat} {w0:World} {S0:Cx} {s:St} {a:Act} {w:World} {ν:Nat→Value} {S:Nat→Prop} {F:dw} (h:Full n w0 S0 s a w ν S) {t:Nat} {neg:Bool} {p q:PV} {v u:Value} {xo yo:Operand} {Kl:Out→Prop} (hp:ag h.c p v)(hq:ag h.c q u)(ab:bo E (ow E F s.bl t neg p q) Kl): ∃r v',Kl (.val r)∧ag h.c r v'∧(do eqGuard (if neg then .neq else .eql) t xo yo v u;binOp (if neg then .neq else .eql) t v u:Go.Sem Value).run E.P w= .ok v' w:=by
 unfold ow at ab;split at ab;(·rename_i T hT;split at ab;(·rename_i r rX;unfold HU at rX;split at rX;(case h_2=>cases rX);rename_i U;split at rX;(case h_2=>cases rX);obtain⟨dd,Ik,hs⟩:=(hE.facts hT).qw;(obtain⟨e,rfl⟩: ∃e,dd= .pointer e:=by cases dd<;>first|exact⟨_,rfl⟩|cases hs);simp only[ag]at hq;subst hq;(have fin: ∀(ad:Option Addr),v= .pointer ad→r=ad.isNone→ ∃r v',Kl (.val r)∧ag h.c r v'∧(do eqGuard (if neg then .neq else .eql) t xo yo v (.pointer none);binOp (if neg then .neq else .eql) t v (.pointer none):Go.Sem Value).run E.P w= .ok v' w:=by intro ad hv hr;subst hv;subst hr;have he:=wH (P:=E.P) w 9999 ad Ik;refine⟨_,.bool (iq neg ad.isNone),ab,bK,?_⟩;cases neg<;>simp[eqGuard,binOp,Op.equal,Op.maxDepth,he,iq]);split at rX;(·simp only[ag]at hp;injection rX with rX;exact fin none hp rX.symm);(·simp only[ag,nX,de,aH]at hp;obtain⟨_,g,ob,cs,hv,_⟩:=hp;simp only[List.cons.injEq,and_true]at hv;injection rX with rX;exact fin _ hv rX.symm);(·simp only[ag]at hp;obtain⟨_,g,ob,cs,hv,_⟩:=hp;injection rX with rX;exact fin _ hv rX.symm);(·simp only[ag]at hp;obtain⟨_,g,_,hv⟩:=hp;injection rX with rX;exact fin _ hv rX.symm);·cases rX);split at ab;(·rename_i x y hx hy OP;split at ab;(·rename_i r hb;have hf:=hE.facts hT;have hR:Reads F s h.c ⟨fun b=>S b∨b<w.heap.size,aL w0 S0⟩:=⟨rfl,h.W.cv,fun b hb=>.inl hb,fun id _⟨b,hb⟩g hg=>.inr (h.iu hb hg).2.2⟩;have hv:=fo hR (.inl hf.own) hx hp;have hu:=fo hR (.inl hf.own) hy hq;cases T with|bool=>obtain⟨Oz⟩:=hv;obtain⟨r0⟩:=hu;obtain⟨dd,Ik,hs⟩:=hf.qw;(have od:dd= .bool:=by cases dd<;>first|rfl|cases hs);subst od;simp only[kC,Option.some.injEq]at hb;subst hb;have he:=run_equalIn_bool' (P:=E.P) w 9999 t x y Ik;refine⟨_,_,ab,bK,?_⟩;cases neg;(·simp only[Bool.false_eq_true,if_false,Sem.run_bind,sy,Result.andThen_ok,binOp,Op.equal,Op.maxDepth,he,Sem.run_pure,iq]);(·simp only[if_true,Sem.run_bind,sy,Result.andThen_ok,binOp,Op.equal,Op.maxDepth,he,Sem.run_pure,iq])|st R=>simp only[Og,Bool.and_eq_true]at OP;obtain⟨_,Kc,_⟩:=ux hE OP.1;have UM:=Nat.le_of_ble_eq_true OP.2;have he:(Op.equalIn 10000 t v u).run E.P w= .ok r w:=ON hE 9999 (.st R) t x y v u r hf OP.1 hv hu hb (by simp only[dep];omega);obtain⟨vs,rfl,_⟩:=hv;obtain⟨us,rfl,_⟩:=hu;refine⟨_,_,ab,bK,?_⟩;cases neg;(·simp only[Bool.false_eq_true,if_false,Sem.run_bind,run_eqGuard_agg (P:=E.P) w _ t xo yo _ _ Kc,Result.andThen_ok,run_eql_struct,he,iq]);(·simp only[if_true,Sem.run_bind,run_eqGuard_agg (P:=E.P) w _ t xo yo _ _ Kc,Result.andThen_ok,run_neq_struct,he,iq])|_=>cases OP);·exact ab.elim);·exact ab.elim)
 ·exact ab.elim
end
end Go.Proofs.YtgpkijnphchkpaaGreat
namespace Go.Proofs.YtgpkijnphchkpaaGreat
variable {dM:Prop} [jN dM]
open Go.RowKit
section
variable {E:Env} {n:Nat} {w0:World} {S0:Cx} {s:St} {a:Act} {w:World} {ν:Nat→Value} {S:Nat→Prop} {F:dw} {o:Oper} {K:St→Prop} {Q:Exit→Act→World→Prop}
theorem sA {P:Program} (w:World)(d:Nat) {t e:TypeId} (aa:Option Addr)(m cap:Nat)(hu:P.underlying t=some (.slice e)):(Op.equalIn (d+1) t (.slice aa m cap) (.slice none 0 0)).run P w= .ok aa.isNone w:=by
 unfold Op.equalIn;cases aa<;>simp[run_underlying hu]
theorem OQ(hE:aG E)(h:Full n w0 S0 s a w ν S)(ho:bG n o=true) {op:BinOp} {t:Nat} {x y:Operand} {t2:Nat} (aK:o.op= .binOp op t x y t2)(ab:bo E (aj E F s o) (fun l=>K (s.fin o.dst l))):o.wp E.P a w (fun a' w'=> ∃s',K s'∧Rel n w0 S0 s' a' w') Q:=by
 simp only[aj,aK]at ab;have hx:=h.ev (az ho (x:=x) (by simp[aK,Op.operands]));have hy:=h.ev (az ho (x:=y) (by simp[aK,Op.operands]));(have fin: ∀(p:PV)(v:Value),K (s.fin o.dst (.val p))→ag h.c p v→(do eqGuard op t x y (a.eval x) (a.eval y);binOp op t (a.eval x) (a.eval y):Go.Sem Value).run E.P w= .ok v w→o.wp E.P a w (fun a' w'=> ∃s',K s'∧Rel n w0 S0 s' a' w') Q:=by intro p v hK hp hr;refine h.val ho (v:=v) ?_ hp hK;simp only[execOp,aK];rw[Sem.run_bind,hr];simp only[Result.andThen_ok,Sem.run_pure])
 (have a13: ∀(neg:Bool)(oo:Out),op=(if neg then .neq else .eql)→m6 E F t neg (s.ev x) (s.ev y)=some oo→bo E oo (fun l=>K (s.fin o.dst l))→o.wp E.P a w (fun a' w'=> ∃s',K s'∧Rel n w0 S0 s' a' w') Q:=by intro neg oo Mh hn hK;unfold m6 at hn;split at hn;(case h_3=>cases hn);(case h_2=>rename_i CW;rw[CW]at hy;simp only[ag]at hy;split at hn;(case h_2=>cases hn);rename_i A B hT;(obtain⟨kt,vt,hu⟩: ∃k v,E.P.underlying t=some (.map k v):=by obtain⟨d,hu,hs⟩:=(hE.facts hT).qw;cases d with|map k v=>exact⟨k,v,hu⟩|_=>simp only[cP]at hs;cases hs);(have aU: ∀(m:Option Nat),a.eval x= .map m→(do eqGuard op t x y (a.eval x) (a.eval y);binOp op t (a.eval x) (a.eval y):Go.Sem Value).run E.P w= .ok (.bool (iq neg m.isNone)) w:=by intro m hv;rw[hv,hy,Mh];(have he:(Op.equalIn 10000 t (.map m) (.map none)).run E.P w= .ok m.isNone w:=by unfold Op.equalIn;cases m<;>simp[run_underlying hu]);cases neg<;>simp[eqGuard,binOp,Op.equal,Op.maxDepth,he,iq]);split at hn;(·rename_i oN;injection hn with hn;subst hn;rw[oN]at hx;simp only[ag]at hx;obtain⟨_,_,r,hv⟩:=hx;exact fin _ _ hK bK (aU (some r) hv));(·rename_i oN;injection hn with hn;subst hn;rw[oN]at hx;simp only[ag]at hx;exact fin _ _ hK bK (aU none hx));·cases hn);rename_i CW;rw[CW]at hy;simp only[ag]at hy;split at hn;(case h_2=>cases hn);rename_i U hT;obtain⟨e,hu,_⟩:=(hE.facts hT).elem hE;(have aU: ∀(aa:Option Addr)(m cap:Nat),a.eval x= .slice aa m cap→(do eqGuard op t x y (a.eval x) (a.eval y);binOp op t (a.eval x) (a.eval y):Go.Sem Value).run E.P w= .ok (.bool (iq neg aa.isNone)) w:=by intro aa m cap hv;rw[hv,hy,Mh];have he:=sA (P:=E.P) w 9999 aa m cap hu;cases neg<;>simp[eqGuard,binOp,Op.equal,Op.maxDepth,he,iq]);split at hn;(·rename_i V xs oN;injection hn with hn;subst hn;rw[oN]at hx;simp only[ag]at hx;obtain⟨_,aa,cap,hv,hle,qu,dj⟩:=hx;injection hv with hv;refine fin _ _ (hK (iq neg aa.isNone) (fun hb=>?_)) bK (aU _ _ _ hv);rcases dj with rfl|⟨g,ob,rfl,_⟩;(·rfl);·cases neg<;>simp[iq]at hb);(·rename_i oN;injection hn with hn;subst hn;rw[oN]at hx;simp only[ag]at hx;exact fin _ _ hK bK (aU none 0 0 hx));·cases hn)
 split at ab;(·rename_i oo hn;unfold oy at hn;split at hn;(·exact a13 false oo rfl hn ab);(·exact a13 true oo rfl hn ab);·cases hn);simp only[xD]at ab;split at ab
 (·rename_i k m l m' oN CW;rw[oN]at hx;rw[CW]at hy;obtain⟨HP,uy⟩:=a9 hx;obtain⟨NY,Ii⟩:=a9 hy;split at ab;(·obtain⟨p,v,hK,hp,hr⟩:=Mf (c:=h.c) (l:=l) (t:=t) (w:=w) uy ab;refine fin p v hK hp ?_;simp only[HP,NY,Sem.run_bind,lL,Result.andThen_ok,hr]);·split at ab;(·rename_i hk;have oa:=ea hk;subst oa;split at ab;(·rename_i EA;(have Mh:op= .rem:=by simp only[Bool.and_eq_true]at EA;cases op<;>first|rfl|exact absurd EA.2 (by decide));subst Mh;obtain⟨h0,hK⟩:=ab;change Int at m;change Int at m';have h0:(0:Int)<m':=h0;(have hq:k.min≤Int.tmod m m'∧Int.tmod m m'≤k.max:=by have hmn:=jD k;have hmx:=oO k;rcases Int.le_total 0 m with hm|hm;(·rw[Int.tmod_eq_emod_of_nonneg hm];have e1:0≤m%m':=Int.emod_nonneg _ (by omega);have e2:m%m'<m':=Int.emod_lt_of_pos _ h0;omega);·obtain⟨q,rfl⟩: ∃q,m= -q:=⟨-m,by omega⟩;rw[Int.neg_tmod,Int.tmod_eq_emod_of_nonneg (by omega)];have e1:0≤q%m':=Int.emod_nonneg _ (by omega);(have e2:q%m'≤q:=by rcases Int.lt_or_le q m' with h'|h';(·rw[Int.emod_eq_of_lt (by omega) h'];exact Int.le_refl _);·have:=Int.emod_lt_of_pos q h0;omega);omega);refine fin _ (.int k (Int.tmod m m')) hK (bT hq) ?_;simp only[HP,NY,Sem.run_bind,lL,Result.andThen_ok,binOp,ne_eq,not_true_eq_false,if_false,Op.intDiv];rw[if_neg (by omega)];rfl);split at ab;(·rename_i EA;(have Mh:op= .quo:=by simp only[Bool.and_eq_true]at EA;cases op<;>first|rfl|exact absurd EA.2 (by decide));subst Mh;obtain⟨h0,hK⟩:=ab;change Int at m;change Int at m';have h0:(0:Int)<m':=h0;(have hq:k.min≤Int.tdiv m m'∧Int.tdiv m m'≤k.max:=by have hmn:=jD k;have hmx:=oO k;rcases Int.le_total 0 m with hm|hm;(·rw[Int.tdiv_eq_ediv_of_nonneg hm];have e1:0≤m/m':=Int.ediv_nonneg hm (by omega);have e2:m/m'≤m:=Int.ediv_le_self m' hm;omega);·obtain⟨q,rfl⟩: ∃q,m= -q:=⟨-m,by omega⟩;rw[Int.neg_tdiv,Int.tdiv_eq_ediv_of_nonneg (by omega)];have e1:0≤q/m':=Int.ediv_nonneg (by omega) (by omega);have e2:q/m'≤q:=Int.ediv_le_self m' (by omega);omega);refine fin _ (.int k (Int.tdiv m m')) hK (bT hq) ?_;simp only[HP,NY,Sem.run_bind,lL,Result.andThen_ok,binOp,ne_eq,not_true_eq_false,if_false,Op.intDiv];rw[if_neg (by omega),fV k hq];rfl);·obtain⟨p,v,hK,hp,hr⟩:=UK (c:=h.c) (t:=t) (w:=w) uy Ii ab;refine fin p v hK hp ?_;simp only[HP,NY,Sem.run_bind,lL,Result.andThen_ok,hr]);·exact ab.elim)
 (·rename_i m m' oN CW;rw[oN]at hx;rw[CW]at hy;obtain⟨HP,uy⟩:=ec hx;obtain⟨NY,Ii⟩:=ec hy;obtain⟨p,v,hK,hp,hr⟩:=UL (c:=h.c) (t:=t) (w:=w) ab;refine fin p v hK hp ?_;simp only[HP,NY,Sem.run_bind,Fa,Result.andThen_ok,hr])
 ·split at ab;(·obtain⟨r,v',hK,hr,aU⟩:=OO hE h (neg:=false) (xo:=x) (yo:=y) hx hy ab;exact fin r v' hK hr aU);(·obtain⟨r,v',hK,hr,aU⟩:=OO hE h (neg:=true) (xo:=x) (yo:=y) hx hy ab;exact fin r v' hK hr aU);·exact ab.elim
theorem UN(h:Full n w0 S0 s a w ν S)(ho:bG n o=true) {op:UnOp} {t:Nat} {x:Operand} (aK:o.op= .unOp op t x)(ab:bo E (aj E F s o) (fun l=>K (s.fin o.dst l))):o.wp E.P a w (fun a' w'=> ∃s',K s'∧Rel n w0 S0 s' a' w') Q:=by
 simp only[aj,aK]at ab;have hx:=h.ev (az ho (x:=x) (by simp[aK,Op.operands]));split at ab;(·rename_i b bN;rw[bN]at hx;have hv:=jz hx;refine h.val ho ?_ bK ab;simp[execOp,aK,hv,Op.unary])
 (·rename_i k m bN;rw[bN]at hx;obtain⟨hv,_⟩:=a9 hx;obtain⟨hr,hK⟩:=ab;refine h.val ho ?_ (bT hr) hK;simp only[execOp,aK,hv,Op.unary,Op.intArith,Sem.run_bind,Sem.run_pure,Result.andThen_ok,fV k hr])
 (·rename_i k m bN;rw[bN]at hx;obtain⟨hv,_⟩:=a9 hx;cases k<;>first|exact ab.elim|(obtain⟨hr,hK⟩:=ab;change Int at m;have hr:(0:Int)≤m∧m≤255:=hr;(have nT:IntKind.u8.min≤(255-m:Int)∧(255-m:Int)≤IntKind.u8.max:=by show(0:Int)≤_∧_≤(255:Int);omega);refine h.val ho ?_ (bT nT) hK;(have e1:(BitVec.ofInt 8 255 ^^^ BitVec.ofInt 8 m).toNat=(255-m).toNat:=by(have e2:BitVec.ofInt 8 255=BitVec.allOnes 8:=by decide);have e4:(BitVec.ofInt 8 m).toNat=m.toNat:=fM .u8 hr.1 hr.2;rw[e2,BitVec.allOnes_xor,BitVec.toNat_not,e4];omega);(have e3:(IntKind.u8.wrap ((BitVec.ofInt 8 255 ^^^ BitVec.ofInt 8 m).toNat:Int))=255-m:=by rw[e1,fV .u8 (by show(0:Int)≤_∧_≤(255:Int);omega)];omega);simp only[execOp,aK,hv,Op.unary,Op.intBits,Sem.run_bind,Sem.run_pure,Result.andThen_ok];exact congrArg (fun z=>Result.ok (Next.value (Value.int .u8 z)) w) e3))
 ·exact ab.elim
theorem Mj {k l:IntKind} (h:widens k l=true) {x:Int} (hx:k.min≤x∧x≤k.max):l.min≤x∧x≤l.max:=by
 cases k<;>cases l<;>first|(simp[IntKind.min,IntKind.max,IntKind.signed,IntKind.bits]at*;omega)|cases h
theorem sB {w:World} {M:Mem} : ∀(xs:List Int)(vs:List Value),(∀i y,xs[i]?=some y→aH (.int .u8) y w M ((vs.drop i).take 1))→vs.length=xs.length→vs=xs.map (Value.int .u8)|[],vs,_,hl=>(by simpa using hl)|x::xs,[],_,hl=>(by simp at hl)|x::xs,v::vs,h,hl=>by obtain⟨h0,_⟩:=h 0 x rfl;simp at h0;subst h0;have:=sB xs vs (fun i y hy=>by simpa using h (i+1) y (by simpa using hy)) (by simpa using hl);rw[this];rfl
theorem Source.an2 {T:Ty} {xs:List T.den} {w:World} {M:Mem} {a:Option Addr} {len cap:Nat} (h:aH (.sl T) xs w M [.slice a len cap]):len=xs.length∧ ∃news,Source w T.cells a xs.length news∧ ∀i y,xs[i]?=some y→aH T y w M ((news.drop (i*T.cells)).take T.cells):=by
 obtain⟨a',oD,hv,h1,h2,h3⟩:=h;injection hv with hv;injection hv with e1 e2 e3;subst e1;refine⟨e2,?_⟩;rcases h3 with rfl|⟨g,ob,rfl,hS,fj⟩;(·exact⟨[],⟨by simp,.inl rfl,by simp⟩,fun i y hy=>by simp at hy⟩)
 ·obtain⟨vs,hl,hc,pU,hr⟩:=pT xs fj;exact⟨vs,⟨hl,.inr ⟨_,rfl,fun j u hj=>by rw[eH];exact hc j u hj⟩,pU⟩,hr⟩
theorem Full.content(h:Full n w0 S0 s a w ν S) {T:Ty} {p:PV} {xs:List T.den} {v:Value} (qv:aR T=0)(hx:il F s.bl T p=some xs)(hp:ag h.c p v): ∃aa c news,v= .slice aa xs.length c∧Source w T.cells aa xs.length news∧ ∀i y,xs[i]?=some y→aH T y w ⟨S,aL w0 S0⟩ ((news.drop (i*T.cells)).take T.cells):=by
 (have own: ∀(id:Nat)(U:Ty)(ys:List U.den)(te:Option Nat),look id s.bl=some (.arr U ys te)→ ∀aa len cap,ν id= .slice aa len cap→len=ys.length∧ ∃news,Source w U.cells aa ys.length news∧ ∀i y,ys[i]?=some y→aH U y w ⟨S,aL w0 S0⟩ ((news.drop (i*U.cells)).take U.cells):=by intro id U ys te hl aa len cap cG;obtain⟨jy,sd,u,hu,OC,dj⟩:=h.W.cv _ _ hl;simp only[List.cons.injEq,and_true]at hu;rw[cG]at hu;subst hu;rcases dj with⟨hn,rfl⟩|⟨g,ob,oD,cur,e,wF,hle,hcm,sg,hB,hh,qx,fj⟩;(·injection hn with e1 e2 e3;subst e1;subst e2;exact⟨rfl,[],⟨by simp,.inl rfl,by simp⟩,fun i y hy=>by simp at hy⟩);·injection wF with e1 e2 e3;subst e1;obtain⟨vs,H0,hc,pU,hr⟩:=pT ys fj;exact⟨e2,vs,⟨H0,.inr ⟨_,rfl,fun j u hj=>by rw[eH];exact hc j u hj⟩,pU⟩,hr⟩)
 cases p with|iv U y=>simp only[il]at hx;obtain⟨e,hx⟩:=Ty.bw hx;subst e;simp only at hx;subst hx;simp only[ag]at hp;have dx:aH (.sl T) y w ⟨S,aL w0 S0⟩ [v]:=hp.2;obtain⟨aa,cap,hv,fJ⟩:=dx;injection hv with hv;obtain⟨_,news,h1,h2⟩:=Source.an2 (h:=(by rw[←hv];exact hp.2:aH (.sl T) y w ⟨S,aL w0 S0⟩ [.slice aa (List.length y) cap]));exact⟨aa,cap,news,hv,h1,h2⟩|aF id=>simp only[il]at hx;split at hx;(·rename_i U ys te hl;obtain⟨hl,_⟩:=cy hl;obtain⟨e,hx⟩:=Ty.bw hx;injection e with e;subst e;simp only at hx;subst hx;simp only[ag]at hp;obtain⟨hd,cG,aa,len,cap,hv⟩:=hp;simp only[Full.c]at cG;obtain⟨hlen,news,h1,h2⟩:=own id _ _ _ hl aa len cap (by rw[←cG,hv]);subst hlen;exact⟨aa,cap,news,hv,h1,h2⟩);(·cases hx)|jx id sz off len=>simp only[il]at hx;split at hx;(·rename_i U ys te hl;obtain⟨hl,_⟩:=cy hl;split at hx;(case h_2=>cases hx);rename_i cY;have cY:=Nat.eq_of_beq_eq_true cY;obtain⟨e,hx⟩:=Ty.bw hx;injection e with e;subst e;simp only at hx;subst hx;simp only[ag]at hp;obtain⟨hd,aa,m,cap,b,cG,hn,qu,hv,hb⟩:=hp;obtain⟨hlen,news,h1,h2⟩:=own id _ _ _ hl aa m cap cG;subst hlen;(have xX:((ys.drop off).take len).length=len:=by simp;omega);refine⟨b,cap-off,(news.drop (off*U.cells)).take (len*U.cells),by rw[xX];exact hv,⟨?_,?_,fun u hu=>h1.one u (List.mem_of_mem_drop (List.mem_of_mem_take hu))⟩,fun i y hy=>?_⟩;(·rw[xX,List.length_take,List.length_drop,h1.len];(have:off*U.cells+len*U.cells≤ys.length*U.cells:=by rw[←Nat.add_mul];exact Nat.mul_le_mul_right _ hn);omega);(·rw[xX];by_cases hz:len=0;(·exact .inl hz);·right;obtain⟨g,ob,ha,ja⟩:=hb (by omega);rcases h1.cells with h0|⟨ad,had,hc⟩;(·omega);·rw[ha]at had;injection had with had;subst had;refine⟨_,ja,fun j u hj=>?_⟩;(have L4:j<len*U.cells:=by rcases Nat.lt_or_ge j (len*U.cells)with h'|h';(·exact h');·rw[List.getElem?_eq_none (by rw[List.length_take];omega)]at hj;cases hj);rw[List.getElem?_take,if_pos L4,List.getElem?_drop]at hj;have:=hc _ u hj;rw[eH]at this⊢;rw[cY,Nat.add_assoc];exact this);·(have hi:i<len:=by rcases Nat.lt_or_ge i len with h'|h';(·exact h');·rw[List.getElem?_eq_none (by omega)]at hy;cases hy);rw[List.getElem?_take,if_pos hi,List.getElem?_drop]at hy;have:=h2 _ y hy;rw[List.drop_take,List.drop_drop,List.take_take];(have e1:off*U.cells+i*U.cells=(off+i)*U.cells:=by rw[Nat.add_mul]);(have e2:U.cells≤len*U.cells-i*U.cells:=by have:(i+1)*U.cells≤len*U.cells:=Nat.mul_le_mul_right _ hi;rw[Nat.add_mul]at this;omega);rw[e1,Nat.min_eq_left e2];exact this);(·cases hx)|clip U y=>simp only[il]at hx;obtain⟨e,hx⟩:=Ty.bw hx;injection e with e;subst e;simp only at hx;subst hx;simp only[ag]at hp;obtain⟨_,⟨aa,m,rfl⟩,dx⟩:=hp;obtain⟨hlen,news,h1,h2⟩:=Source.an2 (h:=(dx:aH (.sl U) y w ⟨S,aL w0 S0⟩ [.slice aa m m]));subst hlen;exact⟨aa,_,news,rfl,h1,h2⟩|bF=>simp only[il,Option.some.injEq]at hx;subst hx;simp only[ag]at hp;exact⟨none,0,[],hp,⟨by simp,.inl rfl,by simp⟩,fun i y hy=>by simp at hy⟩|_=>simp only[il]at hx;cases hx
theorem Il(hE:aG E)(h:Full n w0 S0 s a w ν S)(ho:bG n o=true) {t1 t:Nat} {x:Operand} (aK:o.op= .convert t1 t x)(ab:bo E (aj E F s o) (fun l=>K (s.fin o.dst l))):o.wp E.P a w (fun a' w'=> ∃s',K s'∧Rel n w0 S0 s' a' w') Q:=by
 simp only[aj,aK,qB]at ab;have hx:=h.ev (az ho (x:=x) (by simp[aK,Op.operands]));split at ab;(·rename_i k0 l hT1 hT;obtain⟨d1,Ow,OR⟩:=(hE.facts hT1).qw;obtain⟨d2,Ik,tY⟩:=(hE.facts hT).qw;(have tX:d2= .int l:=by(cases d2<;>first|cases tY|skip);rename_i k';rw[ea tY]);subst tX;split at ab;(·rename_i k m bN;rw[bN]at hx;obtain⟨hv,hr⟩:=a9 hx;(have aU:(execOp a.eval o).run E.P w= .ok (.value (.int l (l.wrap m))) w:=by simp[execOp,aK,hv,convert,run_underlying Ow,run_underlying Ik,Conv.intToInt]);split at ab;(·rename_i hw;have jM:=Mj hw hr;rw[fV l jM]at aU;exact h.val ho aU (bT jM) ab);·exact h.val ho aU (bT (wrap_within l m)) ab);·exact ab.elim)
 (·rename_i hT1 hT;obtain⟨d1,Ow,OR⟩:=(hE.facts hT1).qw;obtain⟨d2,Ik,tY⟩:=(hE.facts hT).qw;(have tX:d2= .string:=by cases d2<;>first|rfl|cases tY);subst tX;(have Al:d1= .string:=by cases d1<;>first|rfl|cases OR);subst Al;split at ab;(·rename_i y bN;rw[bN]at hx;obtain⟨hv,hr⟩:=ec hx;refine h.val ho ?_ (oJ hr) ab;simp[execOp,aK,hv,convert,run_underlying Ow,run_underlying Ik]);·exact ab.elim)
 (·rename_i k hT1 hT;split at ab;(·rename_i xs hk Ex;have hk:=ea hk;subst hk;obtain⟨e,Ow,he,oI,_⟩:=(hE.facts hT1).elem hE;obtain⟨d2,Ik,tY⟩:=(hE.facts hT).qw;(have tX:d2= .string:=by cases d2<;>first|rfl|cases tY);subst tX;obtain⟨d3,hu3,UO⟩:=oI.qw;(have hd3:d3= .int .u8:=by(cases d3<;>first|cases UO|skip);rename_i k';rw[ea UO]);subst hd3;obtain⟨aa,c,news,hv,kR,dx⟩:=h.content (T:=.int .u8) rfl Ex hx;have a14:=sB (M:=⟨S,aL w0 S0⟩) (w:=w) xs news (fun i y hy=>by simpa[Ty.cells]using dx i y hy) (by simpa[Ty.cells]using kR.len);(have xX:xs.length≤9223372036854775807:=by have hR:Reads F s h.c ⟨fun b=>S b∨b<w.heap.size,aL w0 S0⟩:=⟨rfl,h.W.cv,fun b hb=>.inl hb,fun id _⟨b,hb⟩g hg=>.inr (h.iu hb hg).2.2⟩;exact(gF _ _ _ _ _ (EL hR Ex hx)).1);refine h.val ho (v:=.string ⟨(xs.map fun n:Int=>UInt8.ofNat n.toNat).toArray⟩) ?_ (oJ (by simpa using xX)) ab;(have a15:(convert t1 t (a.eval x)).run E.P w= .ok (.string ⟨(xs.map fun n:Int=>UInt8.ofNat n.toNat).toArray⟩) w:=by rw[hv];rcases kR.cells with h0|⟨ad,rfl,hc⟩;(·have hxe:xs=[]:=List.eq_nil_of_length_eq_zero h0;subst hxe;cases aa with|none=>exact run_convert_bytes_nil w t1 e Ow hu3 _ _ t Ik|some ad=>rw[run_convert_bytes_string w t1 t e _ _ _ Ow hu3 Ik];simp[Conv.bytesToString,loadCells,loadCellsFrom];rfl);·rw[run_convert_bytes_string w t1 t e _ _ _ Ow hu3 Ik];have hl:=run_loadCells_list (P:=E.P) w ad news hc;rw[a14,List.length_map]at hl;rw[run_bytesToString w ad xs.length c xs hl,foldl_push_bytes];simp[ByteArray.empty,ByteArray.emptyWithCapacity];rfl);simp only[execOp,aK,Sem.run_bind,a15,Result.andThen_ok,Sem.run_pure]);·exact ab.elim)
 ·exact ab.elim
theorem oQ {w:World} {M:Mem} : ∀(T:Ty)(vs:List Value),T.JY=true→dy T=some vs→aH T (dm T) w M vs:=by
 intro T;induction T with|unit=>intro vs _ h;simp only[dy,Option.some.injEq]at h;subst h;rfl|int k=>intro vs _ h;simp only[dy,Option.some.injEq]at h;subst h;exact⟨rfl,jD k,oO k⟩|bool=>intro vs _ h;simp only[dy,Option.some.injEq]at h;subst h;rfl|str=>intro vs _ h;simp only[dy,Option.some.injEq]at h;subst h;exact⟨rfl,by simp[dm]⟩|sl t=>intro vs _ h;simp only[dy,Option.some.injEq]at h;subst h;exact⟨none,0,rfl,Nat.le_refl _,by omega,.inl rfl⟩|own t=>intro vs hz h;cases hz|bn a b=>intro vs hz h;cases hz|ptr t=>intro vs hz h;cases hz|eQ f t=>intro vs hz h;cases hz|mp a b=>intro vs _ h;simp only[dy,Option.some.injEq]at h;subst h;exact⟨by simp[dm],.inl ⟨rfl,rfl⟩⟩|aD=>intro vs hz h;cases hz|st t ih=>intro vs hz h;exact ih vs hz h|pair a b ir gE=>intro vs hz h;simp only[Ty.JY,Bool.and_eq_true]at hz;simp only[dy]at h;split at h;(·rename_i x y hx hy;simp only[Option.some.injEq]at h;subst h;exact⟨x,y,rfl,ir x hz.1 hx,gE y hz.2 hy⟩);·cases h
theorem AG (z : Array Value) (n i : Nat) (hi : i < n) : ((Builtin.zeroCells z n).toList.drop (i * z.size)).take z.size = z.toList := by
  apply List.ext_getElem?
  intro j
  rw [List.getElem?_take]
  by_cases hj : j < z.size
  · rw [if_pos hj, List.getElem?_drop]
    have c7 : i * z.size + j < n * z.size := by
      calc i * z.size + j < i * z.size + z.size := by omega
        _ = (i + 1) * z.size := by rw [Nat.add_mul]; omega
        _ ≤ n * z.size := Nat.mul_le_mul_right _ hi
    have at4 : (i * z.size + j) % z.size = j := by
      rw [Nat.add_comm, Nat.add_mul_mod_self_right, Nat.mod_eq_of_lt hj]
    simp only [Builtin.zeroCells, Array.getElem?_toList, Array.getElem?_map]
    rw [Array.getElem?_eq_getElem (by simpa using c7)]
    simp only [Option.map_some, Array.getElem_range, at4]
    rw [getElem!_pos z j hj, Array.getElem?_eq_getElem hj]
  · rw [if_neg hj, List.getElem?_eq_none (by rw [Array.length_toList]; omega)]
theorem Im {te el:Option Nat} {w:World} {v u:Value} (h:gp te w v)(hv:u=v) {t':Nat} (hk:JZ te el=some t'):gp (some t') w u∧el=some t':=by
 unfold JZ at hk;split at hk;(·rename_i a b;split at hk;(·rename_i nU;injection hk with hk;subst hk;rw[hv];exact⟨h,by rw[Nat.eq_of_beq_eq_true nU]⟩);·cases hk);·cases hk
theorem Mk (hE : aG E) (h : Full n w0 S0 s a w ν S) (ho : bG n o = true) {c : Call} (aK : o.op = .call c) (kS : c.callee = .builtin .append) (ab : bo E (aj E F s o) (fun l => K (s.fin o.dst l))) : o.wp E.P a w (fun a' w' => ∃ s', K s' ∧ Rel n w0 S0 s' a' w') Q := by
  obtain ⟨callee, args, argTypes⟩ := c
  simp only at kS
  subst kS
  simp only [aj, aK] at ab
  split at ab
  · rename_i t u p q d jy bN hd
    split at ab
    · rename_i T hT
      obtain ⟨xo, yo, j8⟩ : ∃ xo yo, args = #[xo, yo] := by
        have hl : args.toList.length = 2 := by have := congrArg List.length bN; rw [sq, List.length_map] at this; simpa using this
        match hh : args.toList, hl with
        | [xo, yo], _ => exact ⟨xo, yo, Array.toList_inj.1 (by rw [hh])⟩
      subst j8
      simp only [ct, List.cons.injEq, and_true] at bN
      obtain ⟨hp, hq⟩ := bN
      have AF : argTypes = #[t, u] := Array.toList_inj.1 (by rw [jy])
      subst AF
      have hx := h.ev (az ho (x := xo) (by simp [aK, Op.operands, Call.operands]))
      have hy := h.ev (az ho (x := yo) (by simp [aK, Op.operands, Call.operands]))
      rw [hp] at hx
      rw [hq] at hy
      obtain ⟨e, hu, he, oI, nZ, n5⟩ := (hE.facts hT).elem hE
      have qv := oI.own
      have aU : ∀ v' w', (Builtin.append_ #[t, u] o.type #[a.eval xo, a.eval yo]).run E.P w = .ok v' w' → (execOp a.eval o).run E.P w = .ok (.value v') w' := by
        intro v' w' hr
        simp [execOp, aK, resolve, invoke, builtin, hr]
      -- the source
      have src : ∀ ys, l4 E F s.bl T t u q = some ys → ∃ news, Src E.P T.cells u (a.eval yo) ys.length news w ∧ ∀ i y, ys[i]? = some y → aH T y w ⟨S, aL w0 S0⟩ ((news.drop (i * T.cells)).take T.cells) := by
        intro ys oc
        simp only [l4] at oc
        split at oc
        · rename_i htu
          have htu := Nat.eq_of_beq_eq_true htu
          subst htu
          obtain ⟨aa, c, news, hv, h1, h2⟩ := h.content qv oc hy
          exact ⟨news, by rw [hv]; exact h1.src hu c, h2⟩
        · split at oc
          · rename_i hU
            split at oc
            · split at oc
              · rename_i k hk z hkk
                have hkk := ea hkk
                subst hkk
                simp only [Option.some.injEq] at oc
                subst oc
                obtain ⟨hv, hl⟩ := ec hy
                obtain ⟨dd, UP, Ey⟩ := (hE.facts hU).qw
                have od : dd = .string := by cases dd <;> first | rfl | cases Ey
                subst od
                have hs := Src.ofString (w := w) UP (⟨z.toArray⟩ : ByteArray)
                have cY : (⟨z.toArray⟩ : ByteArray).size = z.length := by simp [ByteArray.size]
                have hbc : byteCells ⟨z.toArray⟩ = z.map fun c => Value.int .u8 (c.toNat : Int) := by simp [byteCells]
                rw [cY, hbc] at hs
                refine ⟨_, by rw [hv, List.length_map]; exact hs, fun i y hy => ?_⟩
                rw [List.getElem?_map] at hy
                cases hz : z[i]? with
                | none => rw [hz] at hy; cases hy
                | some c =>
                  rw [hz] at hy
                  simp only [Option.map_some, Option.some.injEq] at hy
                  subst hy
                  have hi : i < z.length := (List.getElem?_eq_some_iff.1 hz).1
                  have hd : ((z.map fun c => Value.int .u8 (c.toNat : Int)).drop i).take 1 = [Value.int .u8 (c.toNat : Int)] := by
                    rw [List.drop_eq_getElem_cons (by rw [List.length_map]; exact hi)]
                    simp only [List.getElem_map, List.take_succ_cons, List.take_zero]
                    rw [(List.getElem?_eq_some_iff.1 hz).2]
                  simp only [Ty.cells, Nat.mul_one]
                  rw [hd]
                  have := UInt8.toNat_lt c
                  exact ⟨rfl, by show (0 : Int) ≤ _; omega, by show (_ : Int) ≤ 255; omega⟩
              · cases oc
            · cases oc
          · cases oc
      -- onto a local array, of which a part may be taken
      have a16 : ∀ (id j : Nat) (xs ys : List T.den) (v : Value) (zs : List T.den) (te tf : Option Nat), look id s.bl = some (.arr T zs te) → (∀ t', tf = some t' → gp (some t') w v ∧ E.CF t = some t') → j < P0 → (j = id ∨ look j s.bl = none) → l4 E F s.bl T t u q = some ys → a.eval xo = v → aH (.own T) xs w ⟨S, aL w0 S0⟩ [v] → (∀ g, aE v = some g → aE (ν id) = some g) → xs.length + ys.length ≤ 274877906944 → K (s.fin o.dst (.append id j (.arr T (xs ++ ys) tf))) →
          o.wp E.P a w (fun a' w' => ∃ s', K s' ∧ Rel n w0 S0 s' a' w') Q := by
        intro id j xs ys v zs te tf hl htf hj L3 oc hv l8 AH hlen hK
        obtain ⟨news, kR, dx⟩ := src ys oc
        obtain ⟨v', w', hr, sC, qY, UQ, tZ, hel⟩ := kK hE (ty := o.type) hT qv l8 h.W.lt h.W.size kR dx hlen
        refine cU (aU v' w' (by rw [hv]; exact hr)) ⟨_, hK, ?_⟩
        simp only [St.fin, hd]
        have bh6 : eF w w' (aE (ν id)) := by
          refine ⟨qY.os, qY.tape, qY.output, qY.size, fun k hk bW => qY.block k hk (fun e => bW (by rw [AH k e.symm])), qY.drawn⟩
        refine (h.app (v' := v') (bm ho d hd) hl hj L3 bh6 UQ (fun g hg => ?_) (b' := .arr T (xs ++ ys) tf) (fun D => ⟨?_, qv, by simpa using sC⟩)).rel
        rotate_left
        · cases bh7 : tf with
          | none => exact cW _ _
          | some t' =>
            obtain ⟨g1, g2⟩ := htf t' bh7
            exact (hel t' (hE.CF t t' g2) g1).mi (by simp) fun _ _ => rfl
        rcases tZ g hg with hf | hf
        · exact .inl (AH g hf)
        · exact .inr hf
      -- whichever name it has
      have an3 : ∀ (id : Nat) (xs ys : List T.den) (v : Value) (zs : List T.den) (r : Prop) (te tf : Option Nat), look id s.bl = some (.arr T zs te) → (∀ t', tf = some t' → gp (some t') w v ∧ E.CF t = some t') → l4 E F s.bl T t u q = some ys → a.eval xo = v → aH (.own T) xs w ⟨S, aL w0 S0⟩ [v] → (∀ g, aE v = some g → aE (ν id) = some g) → (r → xs.length + ys.length ≤ 274877906944) →
          bo E (match Nat.ble P0 id with | false => .cm r (.append id id (.arr T (xs ++ ys) tf)) | true => match look d s.bl with | none => .cm r (.append id d (.arr T (xs ++ ys) tf)) | some _ => .fail 70) (fun l => K (s.fin o.dst l)) →
          o.wp E.P a w (fun a' w' => ∃ s', K s' ∧ Rel n w0 S0 s' a' w') Q := by
        intro id xs ys v zs r te tf hl htf oc hv l8 AH hlen hK
        split at hK
        · rename_i hb
          have hj : id < P0 := by
            rcases Nat.lt_or_ge id P0 with h' | h'
            · exact h'
            · rw [Nat.ble_eq_true_of_le h'] at hb; cases hb
          exact a16 id id xs ys v zs te tf hl htf hj (.inl rfl) oc hv l8 AH (hlen hK.1) hK.2
        · split at hK
          · rename_i hn
            have hj : d < P0 := Nat.lt_of_lt_of_le (bm ho d hd) (Nat.le_trans h.qV (by decide))
            exact a16 id d xs ys v zs te tf hl htf hj (.inr hn) oc hv l8 AH (hlen hK.1) hK.2
          · exact hK.elim
      -- onto a part without room: a new array
      have a17 : ∀ (id : Nat) (r : Prop) (ys : List T.den) (b : Option Addr) (zs : List T.den) (te : Option Nat), look id s.bl = some (.arr T zs te) → l4 E F s.bl T t u q = some ys → a.eval xo = .slice b 0 0 → ys ≠ [] → ys.length ≤ 274877906944 →
          bo E (match Nat.ble P0 id with | false => .cm r (.append id id (.arr T ys)) | true => match look d s.bl with | none => .cm r (.append id d (.arr T ys)) | some _ => .fail 70) (fun l => K (s.fin o.dst l)) →
          o.wp E.P a w (fun a' w' => ∃ s', K s' ∧ Rel n w0 S0 s' a' w') Q := by
        intro id r ys b zs te hl oc hv bW hlen hK
        obtain ⟨news, kR, dx⟩ := src ys oc
        obtain ⟨v', w', hr, sC, qY, UQ, tZ⟩ := jV hE (ty := o.type) hT qv (xs := []) (a := b) (m := 0) ⟨b, 0, rfl, Nat.le_refl _, by omega, .inl rfl⟩ h.W.lt h.W.size kR dx bW (by simpa using hlen)
        have fin : ∀ j, j < P0 → (j = id ∨ look j s.bl = none) → K (s.fin o.dst (.append id j (.arr T ys))) → o.wp E.P a w (fun a' w' => ∃ s', K s' ∧ Rel n w0 S0 s' a' w') Q := by
          intro j hj L3 hK
          refine cU (aU v' w' (by rw [hv]; exact hr)) ⟨_, hK, ?_⟩
          simp only [St.fin, hd]
          exact (h.app (v' := v') (bm ho d hd) hl hj L3 ⟨qY.os, qY.tape, qY.output, qY.size, fun k hk _ => qY.block k hk (by simp), qY.drawn⟩ UQ (fun g hg => .inr (tZ g hg)) (b' := .arr T ys) (fun D => ⟨cW _ _, qv, by simpa using sC⟩)).rel
        split at hK
        · rename_i hb
          have hj : id < P0 := by
            rcases Nat.lt_or_ge id P0 with h' | h'
            · exact h'
            · rw [Nat.ble_eq_true_of_le h'] at hb; cases hb
          exact fin id hj (.inl rfl) hK.2
        · split at hK
          · rename_i hn
            have hj : d < P0 := Nat.lt_of_lt_of_le (bm ho d hd) (Nat.le_trans h.qV (by decide))
            exact fin d hj (.inr hn) hK.2
          · exact hK.elim
      split at ab
      · rename_i hint
        split at ab
        · rename_i k m zc sD Ue hl
          obtain ⟨⟨h0, h1⟩, hK⟩ := ab
          change Int at m
          have h0 : (0 : Int) < m := h0
          have h1 : m ≤ (1073741824 : Int) := h1
          obtain ⟨kn, hun⟩ : ∃ kn, E.P.underlying u = some (.int kn) := by
            cases hU : E.ty u with
            | none => rw [hU] at hint; cases hint
            | some U =>
              rw [hU] at hint
              cases U with
              | int kn =>
                obtain ⟨dd, UP, Ey⟩ := (hE.facts hU).qw
                cases dd <;> first | exact ⟨_, UP⟩ | cases Ey
              | _ => cases hint
          obtain ⟨NY, _⟩ := a9 hy
          simp only [ag] at hx
          obtain ⟨i, hi, cY, hby, EW, z, hz, HL⟩ := oI.info
          obtain ⟨zv, H5, _, _⟩ := oK (c := h.c) T zc Ue
          rw [hz] at EW
          have CX := kM EW H5
          have hm : m = ((m.toNat : Nat) : Int) := by omega
          have hb : m.toNat * i.bytes ≤ 140737488355328 := by
            calc m.toNat * i.bytes ≤ 274877906944 * 512 := Nat.mul_le_mul (by omega) hby
              _ = 140737488355328 := by decide
          have OS := _root_.Go.Lib.run_append_grow_zeros (P := E.P) w t u o.type e i z k kn hu hun hi hz none 0 0 [] (run_firstCells_none _ _ _ _ _) m.toNat (by omega) (by rw [cY]; omega) (by omega) (by omega) (by omega) (growslice_fits (by omega) (by simpa using hb))
          simp only [Nat.zero_add] at OS
          rw [← hm] at OS
          have hrz := oQ (w := w) (M := ⟨S, aL w0 S0⟩) T zv sD H5
          have hg := uo (E := E) (e := e) (w := w) (M := ⟨S, aL w0 S0⟩) (zs := List.replicate m.toNat (dm T)) HL qv h.W.lt h.W.size (by rw [List.length_replicate]; omega) (Builtin.zeroCells z.cells m.toNat).toList (by rw [List.length_replicate, Array.length_toList, J8, HL]) (fun i y hy => by
            rw [List.getElem?_replicate] at hy
            split at hy
            · rename_i hj
              simp only [Option.some.injEq] at hy
              subst hy
              rw [← HL, AG _ _ _ hj, CX]
              exact hrz
            · cases hy) 0
          simp only [List.length_replicate] at hg
          refine cU (aU _ _ (by rw [hx, NY]; exact OS)) ⟨_, hK, ?_⟩
          simp only [St.fin, hd]
          refine h.ur (bm ho d hd) hl qv ⟨rfl, rfl, rfl, by simp, fun k hk _ => Below.heap_alloc w.drew _ k hk, fun _ => Nat.le_succ _⟩ ⟨_, _, _, rfl⟩ (fun g hg => by injection hg with hg; simp at hg; omega) ?_ (cW _ _)
          have Kd : (([] : List Value).toArray ++ Builtin.zeroCells z.cells m.toNat) = (Builtin.zeroCells z.cells m.toNat).toList.toArray := by simp
          rw [Kd]
          exact hg
        · exact ab.elim
      split at ab
      · unfold bz at ab
        split at ab
        · rename_i ys U zs oc hl
          split at ab
          · rename_i xs kP
            obtain ⟨e', mn⟩ := Ty.bw kP
            injection e' with e'
            subst e'
            simp only at mn
            subst mn
            simp only [ag] at hx
            obtain ⟨_, ⟨aa, m, hv⟩, Fb⟩ := hx
            obtain ⟨news, kR, dx⟩ := src ys oc
            obtain ⟨⟨bW, hlen⟩, hK⟩ := ab
            rw [hv] at Fb
            obtain ⟨v', w', hr, sC, qY, UQ, tZ⟩ := jV hE (ty := o.type) hT qv Fb h.W.lt h.W.size kR dx bW hlen
            refine cU (aU v' w' (by rw [hv]; exact hr)) ⟨_, hK, ?_⟩
            simp only [St.fin, hd]
            exact h.ur (bm ho d hd) hl qv qY UQ tZ sC (cW _ _)
          · exact ab.elim
        · exact ab.elim
      cases eI : m7 F s.bl T d p (l4 E F s.bl T t u q) (E.CF t) with
      | cm r a18 =>
        rw [eI] at ab
        simp only [m7] at eI
        split at eI
        case h_2 => cases eI
        rename_i ys oc
        split at eI
        · injection eI with e1 e2
          subst e1; subst e2
          simp only at ab
          split at ab
          · rename_i hl
            obtain ⟨hlen, hK⟩ := ab
            simp only [ag] at hx
            obtain ⟨news, kR, dx⟩ := src ys oc
            have l8 : aH (.own T) ([] : List T.den) w ⟨S, aL w0 S0⟩ [.slice none 0 0] := ⟨_, rfl, by simp, .inl ⟨rfl, rfl⟩⟩
            obtain ⟨v', w', hr, sC, qY, UQ, tZ, hel⟩ := kK hE (ty := o.type) hT qv l8 h.W.lt h.W.size kR dx (by simpa using hlen)
            refine cU (aU v' w' (by rw [hx]; exact hr)) ⟨_, hK, ?_⟩
            simp only [St.fin, hd]
            exact h.ur (bm ho d hd) hl qv qY UQ (fun g hg => by rcases tZ g hg with hf | hf; cases hf; exact hf) (by simpa using sC) (by
              cases hem : E.CF t with
              | none => exact cW _ _
              | some t' => exact hel t' (hE.CF t t' hem) (fun t2 _ g hg => by cases hg))
          · exact ab.elim
        · split at eI <;> cases eI
        · rename_i id
          split at eI
          · rename_i U zs te hl
            obtain ⟨hl, _⟩ := cy hl
            split at eI
            · rename_i xs kP
              obtain ⟨e', mn⟩ := Ty.bw kP
              injection e' with e'
              subst e'
              simp only at mn
              subst mn
              injection eI with e1 e2
              subst e1; subst e2
              simp only [ag] at hx
              obtain ⟨jy, _, hb⟩ := h.W.cv _ _ hl
              have cG : a.eval xo = ν id := hx.2.1
              exact an3 id _ ys _ _ _ _ _ hl (fun t' L5 => Im jy rfl L5) oc cG hb (fun g hg => hg) (fun h => h) ab
            · cases eI
          · cases eI
        · rename_i id sz off len
          split at eI
          · rename_i U zs te hl
            obtain ⟨hl, _⟩ := cy hl
            split at eI
            · rename_i xs kP cY
              have cY := Nat.eq_of_beq_eq_true cY
              obtain ⟨e', mn⟩ := Ty.bw kP
              injection e' with e'
              subst e'
              simp only at mn
              subst mn
              injection eI with e1 e2
              subst e1; subst e2
              simp only [ag] at hx
              obtain ⟨od, aa, m, cap, b, cG, hn, qu, hv, hb⟩ := hx
              obtain ⟨jy, sd, u, r0, OC, dj⟩ := h.W.cv _ _ hl
              simp only [List.cons.injEq, and_true] at r0
              simp only [Full.c] at cG
              rw [cG] at r0
              subst r0
              have bh8 : (off < zs.length ∨ off = zs.length ∧ len = 0 ∧ ys ≠ []) ∧ len + ys.length ≤ 274877906944 := by
                simp only at ab
                split at ab
                · exact ab.1
                · split at ab
                  · exact ab.1
                  · exact ab.elim
              by_cases l7 : off < cap
              case neg =>
                have hzm : zs.length = m := by
                  rcases dj with ⟨su, rfl⟩ | ⟨g, ob, oD, cur, e', wF, _⟩
                  · injection su with _ h2 _; simp [h2]
                  · injection wF with _ h2 _; exact h2.symm
                obtain ⟨h1, h2⟩ := bh8
                rcases h1 with h1 | ⟨h1, h3, h4⟩
                · omega
                subst h3
                have a19 : cap - off = 0 := by omega
                rw [a19] at hv
                rw [List.take_zero, List.nil_append] at ab
                exact a17 id _ ys b zs te hl oc hv h4 (by omega) ab
              rcases dj with ⟨su, rfl⟩ | ⟨g, ob, oD, cur, e', wF, hle, hcm, sg, hB, hh, qx, fj⟩
              · injection su with _ _ h3
                omega
              · injection wF with e1 e2 e3
                subst e1; subst e2; subst e3
                obtain ⟨g', ob', ha, ja⟩ := hb (by omega)
                injection ha with ha
                injection ha with UR US
                subst UR; subst US
                have xX : ((zs.drop off).take len).length = len := by simp; omega
                refine an3 id _ ys (a.eval xo) zs _ _ none hl (fun _ h => by cases h) oc rfl ?_ (fun g'' a20 => ?_) (fun hr => by rw [xX]; exact hr.2) ab
                · rw [hv, ja]
                  refine ⟨_, rfl, by rw [xX]; omega, .inr ⟨g, ob + off * sz, cap - off, cur, e', by rw [xX], by rw [xX]; omega, by omega, sg, hB, hh, ?_, fun i y hy => ?_⟩⟩
                  · rw [cY, Nat.add_assoc, ← Nat.add_mul, show off + (cap - off) = cap from by omega]
                    exact qx
                  · have hi : i < len := by
                      rcases Nat.lt_or_ge i len with h' | h'
                      · exact h'
                      · rw [List.getElem?_eq_none (by omega)] at hy; cases hy
                    rw [List.getElem?_take, if_pos hi, List.getElem?_drop] at hy
                    obtain ⟨cs, h1, h2, h3⟩ := fj _ y hy
                    refine ⟨cs, h1, ?_, h3⟩
                    rw [cY, Nat.add_assoc, ← Nat.add_mul]
                    exact h2
                · rw [hv, ja] at a20
                  rw [cG]
                  exact a20
            · cases eI
          · cases eI
        · cases eI
      | both o1 o2 =>
        rw [eI] at ab
        simp only [m7] at eI
        split at eI
        case h_2 => cases eI
        rename_i ys oc
        split at eI
        · cases eI
        · rename_i U zs
          split at eI
          · rename_i xs kP hl
            obtain ⟨e', mn⟩ := Ty.bw kP
            injection e' with e'
            subst e'
            simp only at mn
            subst mn
            injection eI with e1 e2
            subst e1; subst e2
            obtain ⟨Ke, a21⟩ := ab
            have hx0 := hx
            simp only [ag] at hx
            obtain ⟨_, ⟨aa, m, hv⟩, Fb⟩ := hx
            obtain ⟨news, kR, dx⟩ := src ys oc
            by_cases bW : ys = []
            · have hK := Ke bW
              subst bW
              refine h.val ho (v := a.eval xo) (aU _ _ ?_) hx0 hK
              have AD := kR.len
              have sm := kR.cells
              simp only [List.length_nil] at AD sm
              obtain ⟨e, hu, he, oI, nZ, n5⟩ := (hE.facts hT).elem hE
              obtain ⟨i, hi, cY, _⟩ := oI.info
              have hn : news = [] := List.eq_nil_of_length_eq_zero (by rw [kR.newsLen]; simp)
              subst hn
              rw [← cY] at sm
              rw [hv]
              rcases kR.kind with ⟨e2, hk⟩ | hk
              all_goals
                cases aa with
                | none => simp [Builtin.append_, run_underlying hu, run_underlying hk, sizeOf, typeInfo, hi, AD, sm]
                | some aa => simp [Builtin.append_, run_underlying hu, run_underlying hk, sizeOf, typeInfo, hi, AD, sm, storeCells]
            · obtain ⟨hlen, hK⟩ := a21 bW
              rw [hv] at Fb
              obtain ⟨v', w', hr, sC, qY, UQ, tZ⟩ := jV hE (ty := o.type) hT qv Fb h.W.lt h.W.size kR dx bW hlen
              refine cU (aU v' w' (by rw [hv]; exact hr)) ⟨_, hK, ?_⟩
              simp only [St.fin, hd]
              exact h.ur (bm ho d hd) hl qv qY UQ tZ sC (cW _ _)
          · cases eI
        · repeat' split at eI
          all_goals cases eI
        · repeat' split at eI
          all_goals cases eI
        · cases eI
      | _ =>
        rw [eI] at ab
        simp only [m7] at eI
        repeat' split at eI
        all_goals first
          | (cases eI; done)
          | exact ab.elim
    · exact ab.elim
  · exact ab.elim
end
end Go.Proofs.YtgpkijnphchkpaaGreat
namespace Go.Proofs.YtgpkijnphchkpaaGreat
variable {dM:Prop} [jN dM]
open Go.RowKit
section
variable {E:Env} {n:Nat} {w0:World} {S0:Cx} {s:St} {a:Act} {w:World} {ν:Nat→Value} {S:Nat→Prop} {F:dw} {o:Oper} {K:St→Prop} {Q:Exit→Act→World→Prop}
theorem x7 {T:Ty} : ∀(ps:List (Nat×PV))(vs:List (Nat×Value))(i:Nat)(xs:List T.den)(cells:Array Value)(R:T.den→List Value→Prop),(∀x cs,R x cs→cs.length=T.cells)→ps.length=vs.length→na F s.bl T i ps=some xs→(∀(k:Nat)(p:Nat×PV)(v:Nat×Value),ps[k]?=some p→vs[k]?=some v→p.1=v.1∧ ∀x,PV.refs p.2=false→PV.jP p.2=[]→exp F s.bl T p.2=some x→R x v.2.cells.toList)→i*T.cells+ps.length*T.cells=cells.size→ ∃out,Instr.fill (fun i=>some (i*T.cells,T.cells)) cells vs=some out∧out.size=cells.size∧xs.length=ps.length∧out.toList.take (i*T.cells)=cells.toList.take (i*T.cells)∧ ∀k x,xs[k]?=some x→R x ((out.toList.drop ((i+k)*T.cells)).take T.cells)|[],[],i,xs,cells,R,hR,_,h,_,hs=>(by simp only[na,Option.some.injEq]at h;subst h;exact⟨cells,rfl,rfl,rfl,rfl,fun k x hk=>by simp at hk⟩)|[],_::_,_,_,_,_,_,hl,_,_,_=>(by cases hl)|_::_,[],_,_,_,_,_,hl,_,_,_=>(by cases hl)|p::ps,v::vs,i,xs,cells,R,hR,hl,h,hr,hs=>by simp only[na]at h;split at h;(·rename_i x bh9 rZ Me hx;split at h;(·rename_i ys oc;simp only[Option.some.injEq]at h;subst h;have hpi:=Nat.eq_of_beq_eq_true bh9;obtain⟨HM,bC⟩:=hr 0 p v rfl rfl;have hRx:=bC x rZ Me hx;have Az:=hR _ _ hRx;obtain⟨vi,vv⟩:=v;simp only at HM Az hRx;(have Uh:vi=i:=by rw[←HM,hpi]);subst Uh;simp only[List.length_cons]at hs;(have cY:vi*T.cells+T.cells+ps.length*T.cells=cells.size:=by rw[←hs,Nat.add_mul];omega);(have rW:vv.cells.size=T.cells:=by simpa using Az);rw[EY rfl rW (by omega)];(have cK:(cells.toList.take (vi*T.cells)++vv.cells.toList++cells.toList.drop (vi*T.cells+vv.cells.size)).toArray.size=cells.size:=by simp only[List.size_toArray,List.length_append,List.length_take,List.length_drop,Array.length_toList];omega);obtain⟨out,h1,h2,h3,h4,h5⟩:=x7 ps vs (vi+1) ys _ R hR (by simpa using hl) oc (fun k p' v' Ma Oz=>hr (k+1) p' v' Ma Oz) (by rw[cK,Nat.add_mul];omega);(have Ak:(cells.toList.take (vi*T.cells)).length=vi*T.cells:=by simp only[List.length_take,Array.length_toList];omega);(have je:out.toList.take ((vi+1)*T.cells)=cells.toList.take (vi*T.cells)++vv.cells.toList:=by rw[h4];(have e:(vi+1)*T.cells=(cells.toList.take (vi*T.cells)++vv.cells.toList).length:=by rw[List.length_append,Ak,Az,Nat.add_mul];omega);rw[e,List.take_left]);refine⟨out,h1,h2.trans cK,by simp[h3],?_,fun k y hk=>?_⟩;(·have:=congrArg (List.take (vi*T.cells)) je;rw[List.take_take,Nat.min_eq_left (by rw[Nat.add_mul];omega),List.take_append_of_le_length (by omega),List.take_take,Nat.min_self]at this;exact this);·cases k with|zero=>simp at hk;subst hk;have:=congrArg (List.drop (vi*T.cells)) je;have e0:(cells.toList.take (vi*T.cells)).drop (vi*T.cells)=[]:=List.drop_of_length_le (by omega);rw[List.drop_take,List.drop_append_of_le_length (by omega),e0,List.nil_append]at this;rw[show(vi+1)*T.cells-vi*T.cells=T.cells from by rw[Nat.add_mul];omega]at this;rw[Nat.add_zero,this];exact hRx|succ k=>have:=h5 k y (by simpa using hk);rw[show vi+(k+1)=vi+1+k from by omega];exact this);·cases h);·cases h
theorem Full.grow(h:Full n w0 S0 s a w ν S) {w':World} {S':Nat→Prop} (hw:eF w w' none)(h1: ∀b,S b→S' b)(h2: ∀b,S' b→S b∨w.heap.size≤b)(h3: ∀b,S' b→b<w'.heap.size):Full n w0 S0 s a w' ν S':=by
 have hle:Ctx.Le ⟨ν,s.D,w,⟨S,aL w0 S0⟩⟩ ⟨ν,s.D,w',⟨S',aL w0 S0⟩⟩:=⟨fun b hb=>hw.block b (h.W.lt b hb) (by simp),h1,fun _ h=>h,fun _ _=>rfl⟩;refine⟨h.below.grown hw (by simp),fun b hb=>h1 b (h.Ay b hb),fun b hb=>?_,⟨h3,fun g hg=>h.W.size g (Nat.le_trans hw.size hg),fun i c hc=>?_,h.W.ne⟩,fun t=>eG hle (h.eU t),h.size,h.defers,h.qV,h.kept,h.CO⟩
 (·rcases h2 b hb with h'|h';(·exact h.fresh b h');·exact .inr (h.W.size b h'));·refine ml hle rfl rfl (fun g hg=>?_) (h.W.cv i c hc);obtain⟨e1,e2,e3⟩:=h.iu hc hg;refine⟨hw.block g e3 (by simp),fun _ OT=>?_⟩;rcases h2 g OT with h'|h';(·exact e2 h');·omega
theorem AI(hE:aG E)(h:Full n w0 S0 s a w ν S)(ho:bG n o=true) {t m:Nat} {parts:Array (Nat×Operand)} (aK:o.op= .buildSlice t m parts)(ab:bo E (aj E F s o) (fun l=>K (s.fin o.dst l))):o.wp E.P a w (fun a' w'=> ∃s',K s'∧Rel n w0 S0 s' a' w') Q:=by
 simp only[aj,aK]at ab;split at ab;(·rename_i T d hT hd;split at ab;(·rename_i xs hl hel hb;simp only[Bool.and_eq_true]at hb;have hm:=Nat.eq_of_beq_eq_true hb.1;have at5:=Nat.le_of_ble_eq_true hb.2;obtain⟨e,hu,he,oI,nZ,n5⟩:=(hE.facts hT).elem hE;obtain⟨i,hi,cY,hby,_,z,hz,HL⟩:=oI.info;(have H6: ∀(k:Nat)(p:Nat×PV)(v:Nat×Value),(dp s parts.toList)[k]?=some p→((parts.map fun x=>(x.1,a.eval x.2)).toList)[k]?=some v→p.1=v.1∧ ∀x,PV.refs p.2=false→PV.jP p.2=[]→exp F s.bl T p.2=some x→aH T x w ⟨S,aL w0 S0⟩ v.2.cells.toList:=by intro k p v hk hv;rw[jd,List.getElem?_map]at hk;simp only[Array.toList_map,List.getElem?_map]at hv;cases hx:parts.toList[k]? with|none=>rw[hx]at hk;cases hk|some x=>rw[hx]at hk hv;simp only[Option.map_some,Option.some.injEq]at hk hv;subst hk;subst hv;refine⟨rfl,fun y h1 h2 h3=>?_⟩;have bN:=h.ev (x:=x.2) (az ho (by have hm:x∈parts:=Array.mem_toList_iff.1 (List.mem_of_getElem? hx);simp only[aK,Op.operands,List.mem_toArray,List.mem_map];exact⟨x,Array.mem_toList_iff.2 hm,rfl⟩));exact kH nZ (h.OB oI.own h1 h2 h3 bN));(have hlen:(dp s parts.toList).length=((parts.map fun x=>(x.1,a.eval x.2)).toList).length:=by simp[jd]);(have vJ:(dp s parts.toList).length=m:=by rw[←hm];simp[jd]);(have main: ∀cells:Array Value,cells.size=m*T.cells→ ∃out,Instr.fill (fun i=>some (i*T.cells,T.cells)) cells (parts.map fun x=>(x.1,a.eval x.2)).toList=some out∧out.size=m*T.cells∧xs.length=m∧ ∀k x,xs[k]?=some x→aH T x w ⟨S,aL w0 S0⟩ ((out.toList.drop (k*T.cells)).take T.cells):=by intro cells hc;obtain⟨out,h1,h2,h3,h4,h5⟩:=x7 (F:=F) (s:=s) (dp s parts.toList) _ 0 xs cells (fun x cs=>aH T x w ⟨S,aL w0 S0⟩ cs) (fun x cs hr=>bO _ _ _ _ _ hr) hlen hel H6 (by rw[vJ,hc];omega);exact⟨out,h1,by rw[h2,hc],by rw[h3,vJ],fun k x hk=>by simpa using h5 k x hk⟩);(have fin: ∀out:Array Value,out.size=m*T.cells→xs.length=m→(∀k x,xs[k]?=some x→aH T x w ⟨S,aL w0 S0⟩ ((out.toList.drop (k*T.cells)).take T.cells))→ ∃s',K s'∧Rel n w0 S0 s' (a.put o.dst (.slice (some ⟨w.heap.size,0,none⟩) m m)) (w.alloc (.cells out e)):=by intro out ho1 OU ho3;have hh:(w.alloc (.cells out e)).heap[w.heap.size]?=some (.cells out e (0,0)):=_root_.Go.heap_alloc_new w _;have hmb:m≤16777216:=Nat.le_trans (Nat.le_mul_of_pos_right m n5) at5;have fj: ∀k x,xs[k]?=some x→aH T x (w.alloc (.cells out e)) ⟨S,aL w0 S0⟩ ((out.toList.drop (k*T.cells)).take T.cells):=fun k x hk=>aB (w:=w) (fun b hb=>Below.heap_alloc w _ b (h.W.lt b hb)) (fun _ h=>h) _ _ _ oI.own (ho3 k x hk);split at ab;(·simp only[bo]at ab;refine⟨_,ab,?_⟩;have hg:=h.grow (S':=fun b=>S b∨b=w.heap.size) (dt w (.cells out e) none) (fun b hb=>.inl hb) (fun b hb=>hb.imp id (fun e=>by omega)) (fun b hb=>by simp only[World.alloc,Array.size_push];rcases hb with hb|hb;(·have:=h.W.lt b hb;omega);·omega);refine(hg.put (bm ho) ?_).rel;(suffices jL:aH (.sl T) xs (w.alloc (.cells out e)) ⟨fun b=>S b∨b=w.heap.size,aL w0 S0⟩ [.slice (some ⟨w.heap.size,0,none⟩) m m]by unfold fg;split;(·simp only[ag];exact⟨oI.own,⟨_,m,rfl⟩,jL⟩);·simp only[ag];exact⟨oI.own,jL⟩);refine⟨_,m,by rw[OU],by omega,by omega,.inr ⟨w.heap.size,0,rfl,.inr rfl,?_⟩⟩;refine wU (vs:=out.toList) (by simp[ho1,OU]) (fun j u hj=>?_) (fun k x hk=>?_);(·show(w.alloc (.cells out e)).cell? _=_;rw[cell_of_row _ _ _ _ _ _ hh,Nat.zero_add];simpa using hj);·exact aB (w:=w.alloc (.cells out e)) (M:=⟨S,aL w0 S0⟩) (M':=⟨fun b=>S b∨b=w.heap.size,aL w0 S0⟩) (fun b _=>rfl) (fun _ h=>.inl h) _ _ _ oI.own (fj k x hk));·simp only[bo,St.fin,hd]at ab;refine⟨_,ab,?_⟩;rw[hd];refine h.ur (v:=.slice (some ⟨w.heap.size,0,none⟩) m m) (bm ho d hd) hl oI.own (dt w _ none) ⟨_,_,_,rfl⟩ (fun g hg=>by injection hg with hg;simp at hg;omega) ?_ (cW _ _);refine⟨_,rfl,by omega,.inr ⟨w.heap.size,0,m,out,e,by rw[OU],by omega,by omega,fun hS=>absurd (h.W.lt _ hS) (by simp),h.W.size _ (Nat.le_refl _),hh,by omega,?_⟩⟩;refine wU (vs:=out.toList) (by simp[ho1,OU]) (fun j u hj=>?_) (fun k x hk=>?_);(·rw[cell_of_row _ _ _ _ _ _ hh,Nat.zero_add];simpa using hj);·exact fj k x hk);(have Kf: ¬(m*T.cells>2^24):=by omega);by_cases h0:m*T.cells=0;(·obtain⟨out,h1,h2,h3,h4⟩:=main ((Array.range (m*T.cells)).map fun j=>(#[]:Array Value)[j%(#[]:Array Value).size]!) (by simp);refine cU (v:=.slice (some ⟨w.heap.size,0,none⟩) m m) (w':=w.alloc (.cells out e)) ?_ (fin out h2 h3 h4);simp only[execOp,aK,Instr.buildSlice,Sem.run_bind,run_underlying hu,Result.andThen_ok,oI.sizeOf w,Sem.run_ite,Kf,if_false,h0,if_true,Sem.run_pure];rw[h0]at h1;simp only[h1,Sem.run_bind,newRow,run_newObj,Result.andThen_ok,Sem.run_pure];rfl);·obtain⟨out,h1,h2,h3,h4⟩:=main ((Array.range (m*T.cells)).map fun j=>z.cells[j%z.cells.size]!) (by simp);refine cU (v:=.slice (some ⟨w.heap.size,0,none⟩) m m) (w':=w.alloc (.cells out e)) ?_ (fin out h2 h3 h4);simp only[execOp,aK,Instr.buildSlice,Sem.run_bind,run_underlying hu,Result.andThen_ok,oI.sizeOf w,Sem.run_ite,Kf,if_false,h0,Sem.run_pure,zeroValue,typeInfo,run_program,hi,hz,h1,newRow,run_newObj];rfl);·exact ab.elim)
 ·exact ab.elim
theorem AJ (hE : aG E) (h : Full n w0 S0 s a w ν S) (ho : bG n o = true) {t d : Nat} {x y : Operand} {T : Ty} {zc : List PV} {k k' : IntKind} {m0 m1 : Int} (sD : T.JY = true) (aK : o.op = .makeSlice t x y) (hT : E.ty t = some (.sl T)) (hd : o.dst = some d) (hl : look d s.bl = none) (Ue : zeroCells T = some zc)
    (HP : a.eval x = .int k m0) (NY : a.eval y = .int k' m1) (h0 : 0 ≤ m0) (h1 : m0 ≤ m1) (h2 : m1 ≤ 274877906944) (ab : K ⟨(d, .aF d) :: s.sl, (d, .arr T (List.replicate (Int.toNat m0) (dm T))) :: s.bl⟩) : o.wp E.P a w (fun a' w' => ∃ s', K s' ∧ Rel n w0 S0 s' a' w') Q := by
  obtain ⟨e, hu, he, oI, nZ, n5⟩ := (hE.facts hT).elem hE
  obtain ⟨i, hi, cY, hby, EW, z, hz, HL⟩ := oI.info
  obtain ⟨zv, H5, _, _⟩ := oK (c := h.c) T zc Ue
  rw [hz] at EW
  have CX := kM EW H5
  have at6 : (i.bytes : Int) * m1 ≤ 281474976710656 := by
    have e1 : (i.bytes : Int) * m1 ≤ 512 * 274877906944 := Int.mul_le_mul (by omega) h2 (by omega) (by omega)
    omega
  have hr := run_make (P := E.P) w t e i z hu hi hz k k' m0 m1 h0 h1 at6 (by omega)
  rw [cY] at hr
  refine cU (v := .slice (some ⟨w.heap.size, 0, none⟩) (Int.toNat m0) (Int.toNat m1)) (w' := w.alloc (.cells (madeCells z.cells (Int.toNat m1 * T.cells)) e)) ?_ ⟨_, ab, ?_⟩
  · simp only [execOp, aK, HP, NY, Sem.run_bind, hr, Result.andThen_ok, Sem.run_pure]
  · rw [hd]
    have hh : (w.alloc (.cells (madeCells z.cells (Int.toNat m1 * T.cells)) e)).heap[w.heap.size]? = some (.cells (madeCells z.cells (Int.toNat m1 * T.cells)) e (0, 0)) := _root_.Go.heap_alloc_new w _
    have hmb : Int.toNat m1 ≤ 274877906944 := by omega
    refine h.ur (bm ho d hd) hl oI.own (dt w _ none) ⟨_, _, _, rfl⟩ (fun g hg => by injection hg with hg; simp at hg; omega) ?_ (cW _ _)
    refine ⟨_, rfl, by rw [List.length_replicate]; omega, .inr ⟨w.heap.size, 0, Int.toNat m1, _, e, by rw [List.length_replicate], by rw [List.length_replicate]; omega, by omega, fun hS => absurd (h.W.lt _ hS) (by simp), h.W.size _ (Nat.le_refl _), hh, by rw [size_madeCells]; omega, fun j q hq => ?_⟩⟩
    rw [List.getElem?_replicate] at hq
    split at hq
    · rename_i hj
      simp only [Option.some.injEq] at hq
      subst hq
      refine ⟨zv, bO _ _ _ _ _ (oQ (w := w) (M := ⟨S, aL w0 S0⟩) T zv sD H5), fun k u hk => ?_, oQ T zv sD H5⟩
      have oa : k < T.cells := by rw [← bO _ _ _ _ _ (oQ (w := w) (M := ⟨S, aL w0 S0⟩) T zv sD H5)]; exact (List.getElem?_eq_some_iff.1 hk).1
      rw [cell_of_row _ _ _ _ _ _ hh, Nat.zero_add]
      have c7 : j * T.cells + k < Int.toNat m1 * T.cells := by
        calc j * T.cells + k < j * T.cells + T.cells := by omega
          _ = (j + 1) * T.cells := by rw [Nat.add_mul]; omega
          _ ≤ Int.toNat m1 * T.cells := Nat.mul_le_mul_right _ (by omega)
      have at4 : (j * T.cells + k) % z.cells.size = k := by
        rw [HL, Nat.add_comm, Nat.add_mul_mod_self_right, Nat.mod_eq_of_lt oa]
      simp only [madeCells, Array.getElem?_map]
      rw [Array.getElem?_eq_getElem (by simpa using c7)]
      simp only [Option.map_some, Array.getElem_range, at4]
      rw [getElem!_pos z.cells k (by omega)]
      rw [← CX] at hk
      simp only [Array.getElem?_toList] at hk
      rw [Array.getElem?_eq_getElem (by omega)] at hk
      exact hk
    · cases hq
theorem CY(hE:aG E)(h:Full n w0 S0 s a w ν S)(ho:bG n o=true) {t:Nat} {x y:Operand} (aK:o.op= .makeSlice t x y)(ab:bo E (aj E F s o) (fun l=>K (s.fin o.dst l))):o.wp E.P a w (fun a' w'=> ∃s',K s'∧Rel n w0 S0 s' a' w') Q:=by
 simp only[aj,aK]at ab;have hx:=h.ev (az ho (x:=x) (by simp[aK,Op.operands]));have hy:=h.ev (az ho (x:=y) (by simp[aK,Op.operands]));split at ab;(·rename_i T d k m k' m' hT hd oN CW;split at ab;(·rename_i zc hl Ue sD;obtain⟨hmk,ab⟩:=ab;obtain⟨h0,h1,h2⟩:=as4 hmk;simp only[bo,St.fin,hd]at ab;rw[oN]at hx;rw[CW]at hy;obtain⟨HP,_⟩:=a9 hx;obtain⟨NY,_⟩:=a9 hy;exact AJ hE h ho sD aK hT hd hl Ue HP NY h0 h1 h2 ab);·exact ab.elim)
 ·exact ab.elim
end
end Go.Proofs.YtgpkijnphchkpaaGreat
namespace Go.Proofs.YtgpkijnphchkpaaGreat
variable {dM:Prop} [jN dM]
open Go.RowKit
theorem at7 {w w':World} {M M':Mem} : ∀(T:Ty)(x:T.den)(vs:List Value),T.flat=true→aH T x w M vs→aH T x w' M' vs:=by
 intro T;induction T with|unit=>intro x vs _ h;exact h|int k=>intro x vs _ h;exact h|bool=>intro x vs _ h;exact h|str=>intro x vs _ h;exact h|sl t=>intro x vs hf;cases hf|own t=>intro x vs hf;cases hf|ptr t=>intro x vs hf;cases hf|eQ f t=>intro x vs hf;cases hf|mp a b=>intro x vs hf;cases hf|aD=>intro x vs _ h;exact h|bn a b=>intro x vs _ h;exact h.elim|st t ih=>intro x vs hf h;exact ih x vs hf h|pair a b ir gE=>intro x vs hf h;simp only[Ty.flat,Bool.and_eq_true]at hf;obtain⟨va,vb,rfl,h1,h2⟩:=h;exact⟨va,vb,rfl,ir _ _ hf.1 h1,gE _ _ hf.2 h2⟩
theorem CZ {w w':World} {M M':Mem} {T:Ty} {x:T.den} {v:Value} (hf:T.flat=true)(h:de T x w M v):de T x w' M' v:=by
 cases T with|unit=>exact h|pair a b=>exact h|bn a b=>exact h|st t=>obtain⟨vs,rfl,h⟩:=h;exact⟨vs,rfl,at7 t x vs hf h⟩|int k=>exact h|bool=>exact h|str=>exact h|sl t=>cases hf|own t=>cases hf|ptr t=>cases hf|eQ f t=>cases hf|mp a b=>cases hf|aD=>exact h
theorem at8 {w w':World} {M M':Mem} : ∀(T:Ty)(x:T.den)(vs:List Value),T.flat=true→At T x w M vs→At T x w' M' vs:=by
 intro T;induction T with|bn a b ir gE=>intro x vs hf h;simp only[Ty.flat,Bool.and_eq_true]at hf;obtain⟨v,r,rfl,h1,h2⟩:=h;exact⟨v,r,rfl,CZ hf.1 h1,gE _ _ hf.2 h2⟩|_=>intro x vs hf h;obtain⟨v,rfl,h⟩:=h;exact⟨v,rfl,CZ hf h⟩
theorem OV {w w':World} {M M':Mem} {T:Ty} {x:T.den} {v:Value} (hf:T.flat=true)(h:nX T x w M v):nX T x w' M' v:=by
 cases T;(case bn a b=>obtain⟨vs,rfl,h⟩:=h;exact⟨vs,rfl,at8 _ x vs hf h⟩);all_goals exact CZ (w:=w) (w':=w') (M:=M) (M':=M') (x:=x) (v:=v) hf h
theorem Bk: ∀(T:Ty),T.flat=true→aR T=0:=by intro T;induction T<;>simp_all[Ty.flat,aR]
section
variable {E:Env} {n:Nat} {w0:World} {S0:Cx} {s:St} {a:Act} {w:World} {ν:Nat→Value} {S:Nat→Prop} {F:dw} {o:Oper} {K:St→Prop} {Q:Exit→Act→World→Prop}
theorem at9(hE:aG E)(h:Full n w0 S0 s a w ν S)(ho:bG n o=true) {c:Call} (aK:o.op= .call c)(kS:c.callee= .builtin .cap)(ab:bo E (aj E F s o) (fun l=>K (s.fin o.dst l))):o.wp E.P a w (fun a' w'=> ∃s',K s'∧Rel n w0 S0 s' a' w') Q:=by
 obtain⟨callee,args,argTypes⟩:=c;simp only at kS;subst kS;simp only[aj,aK]at ab;split at ab;(·rename_i t bN jy;(obtain⟨xo,j8⟩: ∃xo,args= #[xo]:=by(have hl:args.toList.length=1:=by have:=congrArg List.length bN;rw[sq,List.length_map]at this;simpa using this);match hh:args.toList,hl with|[xo],_=>exact⟨xo,Array.toList_inj.1 (by rw[hh])⟩);subst j8;simp only[ct,List.cons.injEq,and_true]at bN;have AF:argTypes= #[t]:=Array.toList_inj.1 (by rw[jy]);subst AF;have hx:=h.ev (az ho (x:=xo) (by simp[aK,Op.operands,Call.operands]));rw[bN]at hx;simp only[ag]at hx;split at ab;(·rename_i U hT;obtain⟨e,hu,_⟩:=(hE.facts hT).elem hE;refine h.val ho (v:=.int .i64 0) ?_ (bT (by simp[IntKind.min,IntKind.max,IntKind.signed,IntKind.bits])) ab;simp[execOp,aK,resolve,invoke,builtin,Builtin.cap_,run_underlying hu,hx,goInt]);·exact ab.elim)
 ·exact ab.elim
theorem au0(hE:aG E)(h:Full n w0 S0 s a w ν S)(ho:bG n o=true) {c:Call} (aK:o.op= .call c)(kS:c.callee= .builtin .len)(ab:bo E (aj E F s o) (fun l=>K (s.fin o.dst l))):o.wp E.P a w (fun a' w'=> ∃s',K s'∧Rel n w0 S0 s' a' w') Q:=by
 obtain⟨callee,args,argTypes⟩:=c;simp only at kS;subst kS;simp only[aj,aK]at ab;split at ab;(·rename_i p t bN jy;(obtain⟨xo,j8⟩: ∃xo,args= #[xo]:=by(have hl:args.toList.length=1:=by have:=congrArg List.length bN;rw[sq,List.length_map]at this;simpa using this);match hh:args.toList,hl with|[xo],_=>exact⟨xo,Array.toList_inj.1 (by rw[hh])⟩);subst j8;simp only[ct,List.cons.injEq,and_true]at bN;have AF:argTypes= #[t]:=Array.toList_inj.1 (by rw[jy]);subst AF;have hx:=h.ev (az ho (x:=xo) (by simp[aK,Op.operands,Call.operands]));rw[bN]at hx;(have fin: ∀m:Nat,m≤9223372036854775807→(Builtin.len_ #[t] o.type #[a.eval xo]).run E.P w= .ok (.int .i64 m) w→bo E (xE m) (fun l=>K (s.fin o.dst l))→o.wp E.P a w (fun a' w'=> ∃s',K s'∧Rel n w0 S0 s' a' w') Q:=by intro m hm hr hK;refine h.val ho (v:=.int .i64 m) ?_ (bT (by simp[IntKind.min,IntKind.max,IntKind.signed,IntKind.bits];omega)) hK;simp[execOp,aK,resolve,invoke,builtin,hr]);simp only[Av]at ab;split at ab;(·rename_i hT;obtain⟨d,hu,Ey⟩:=(hE.facts hT).qw;(have hd:d= .string:=by cases d<;>first|rfl|cases Ey);subst hd;split at ab;(·rename_i y;obtain⟨hv,hl⟩:=ec hx;(have cY:(⟨y.toArray⟩:ByteArray).size=y.length:=by simp[ByteArray.size]);refine fin _ hl ?_ ab;simp[Builtin.len_,run_underlying hu,hv,goInt,cY]);·exact ab.elim);(·rename_i U hT;obtain⟨e,hu,_⟩:=(hE.facts hT).elem hE;(have hlen: ∀(aa:Option Addr)(m cap:Nat),a.eval xo= .slice aa m cap→(Builtin.len_ #[t] o.type #[a.eval xo]).run E.P w= .ok (.int .i64 m) w:=by intro aa m cap hv;simp[Builtin.len_,run_underlying hu,hv,goInt]);split at ab;(·rename_i U' xs;simp only[ag]at hx;obtain⟨_,aa,cap,hv,h1,h2,_⟩:=hx;injection hv with hv;exact fin _ (Nat.le_trans h1 h2) (hlen _ _ _ hv) ab);(·rename_i id;split at ab;(·rename_i U' xs te hl;obtain⟨hl,_⟩:=cy hl;simp only[ag]at hx;obtain⟨hd,cG,aa,m,cap,hv⟩:=hx;obtain⟨jy,_,u,r0,OC,dj⟩:=h.W.cv _ _ hl;simp only[List.cons.injEq,and_true]at r0;simp only[Full.c]at cG;(have hm:m=xs.length:=by rw[cG,r0]at hv;rcases dj with⟨rfl,rfl⟩|⟨g,ob,oD,cur,e',rfl,_⟩;(·injection hv with e1 e2 e3;exact e2.symm);·injection hv with e1 e2 e3;exact e2.symm);subst hm;exact fin _ OC (hlen _ _ _ hv) ab);·exact ab.elim);(·rename_i id sz off len;obtain⟨hl,hK⟩:=ab;simp only[ag]at hx;obtain⟨hd,aa,m,cap,b,cG,hn,qu,hv,hb⟩:=hx;exact fin _ hl (hlen _ _ _ hv) hK);(·simp only[ag]at hx;exact fin 0 (by omega) (hlen _ _ _ hx) ab);·exact ab.elim);(·rename_i K' V' hT;obtain⟨d,hu,Ey⟩:=(hE.facts hT).qw;(obtain⟨k',e',rfl⟩: ∃k' e',d= .map k' e':=by cases d<;>first|exact⟨_,_,rfl⟩|cases Ey);split at ab;(·rename_i id;split at ab;(·rename_i K2 V2 es hl;obtain⟨hl,_⟩:=cy hl;simp only[ag]at hx;obtain⟨_,cG,_⟩:=hx;obtain⟨_,_,h0,r,ax,clock,h1,_,_,h4,_,h6,_⟩:=h.W.cv _ _ hl;simp only[Full.c]at cG;(have cG:a.eval xo= .map (some r):=by rw[cG];exact h1);refine fin _ h0 ?_ ab;simp[Builtin.len_,run_underlying hu,cG,MapKept.run_getObj_map h4,goInt,h6]);·exact ab.elim);(·simp only[ag]at hx;refine fin 0 (by omega) ?_ ab;simp[Builtin.len_,run_underlying hu,hx,goInt]);·exact ab.elim);·exact ab.elim)
 ·exact ab.elim
theorem ni {P:Program} {c:Ctx} (mx:Bool) {k:IntKind} {Kl:Out→Prop} : ∀(ps:List PV)(vs:List Value)(x:Int),k.min≤x∧x≤k.max→ai c ps vs→bo E (jT mx k x ps) Kl→ ∃z,Kl (.val (.iv (.int k) z))∧k.min≤z∧z≤k.max∧(vs.foldlM (if mx then Builtin.max2 else Builtin.min2) (.int k x)).run P w= .ok (.int k z) w|[],vs,x,hx,hp,h=>(by simp only[ai]at hp;subst hp;exact⟨x,h,hx.1,hx.2,by simp⟩)|p::ps,vs,x,hx,hp,h=>by simp only[ai]at hp;obtain⟨v,r,rfl,h1,h2⟩:=hp;cases p with|iv T y=>(cases T with|int l=>simp only[jT]at h;split at h;(·rename_i hk;have hk:=ea hk;subst hk;obtain⟨rfl,hy⟩:=a9 h1;change Int at y;cases mx;(·(have hz:k.min≤min x (y:Int)∧min x (y:Int)≤k.max:=by(have e1:min x (y:Int)=x∨min x (y:Int)=y:=by rcases Int.le_total x y with h|h<;>simp[Int.min_def,h]<;>omega);rcases e1 with e|e<;>rw[e]<;>assumption);obtain⟨z,hz1,hz2,hz3,OW⟩:=ni false ps r _ hz h2 h;refine⟨z,hz1,hz2,hz3,?_⟩;rw[List.foldlM_cons,Sem.run_bind];(have e:Builtin.min2 (.int k x) (.int k y)=pure (.int k (min x (y:Int))):=by simp only[Builtin.min2,Int.min_def];congr 2;by_cases hc:x≤(y:Int);(·rw[if_pos hc,if_neg (by omega)]);·rw[if_neg hc,if_pos (by omega)]);simp only[Bool.false_eq_true,if_false]at OW⊢;rw[e];simpa using OW);·(have hz:k.min≤max x (y:Int)∧max x (y:Int)≤k.max:=by(have e1:max x (y:Int)=x∨max x (y:Int)=y:=by rcases Int.le_total x y with h|h<;>simp[Int.max_def,h]<;>omega);rcases e1 with e|e<;>rw[e]<;>assumption);obtain⟨z,hz1,hz2,hz3,OW⟩:=ni true ps r _ hz h2 h;refine⟨z,hz1,hz2,hz3,?_⟩;rw[List.foldlM_cons,Sem.run_bind];(have e:Builtin.max2 (.int k x) (.int k y)=pure (.int k (max x (y:Int))):=by simp only[Builtin.max2,Int.max_def];congr 2;by_cases hc:x≤(y:Int);(·rw[if_pos hc];by_cases hd:(y:Int)>x;(·rw[if_pos hd]);·rw[if_neg hd];omega);·rw[if_neg hc,if_neg (by omega)]);simp only[if_true]at OW⊢;rw[e];simpa using OW);(·exact h.elim)|_=>simp only[jT]at h;exact h.elim)|_=>simp only[jT]at h;exact h.elim
theorem au1(h:Full n w0 S0 s a w ν S)(ho:bG n o=true) {c:Call} (aK:o.op= .call c)(kS:c.callee= .builtin .min)(ab:bo E (aj E F s o) (fun l=>K (s.fin o.dst l))):o.wp E.P a w (fun a' w'=> ∃s',K s'∧Rel n w0 S0 s' a' w') Q:=by
 obtain⟨callee,args,argTypes⟩:=c;simp only at kS;subst kS;simp only[aj,aK]at ab;split at ab;(·rename_i k x r bN;have bk:=gY h args.toList (fun y hy=>az ho (by simp only[aK,Op.operands,Call.operands];simpa using hy));rw[bN]at bk;simp only[ai]at bk;obtain⟨v,vs,rW,h1,h2⟩:=bk;obtain⟨rfl,hx⟩:=a9 h1;obtain⟨z,hz1,hz2,hz3,OW⟩:=ni (P:=E.P) (w:=w) false r vs x hx h2 ab;refine h.val ho (v:=.int k z) ?_ (bT ⟨hz2,hz3⟩) hz1;(have hl:(args.map a.eval).toList= .int k x::vs:=by simpa using rW);simp only[Bool.false_eq_true,if_false]at OW;simp only[execOp,aK,resolve,invoke,builtin,Builtin.min_,Sem.run_bind,Sem.run_pure,Result.andThen_ok,hl,OW])
 ·exact ab.elim
theorem au2(h:Full n w0 S0 s a w ν S)(ho:bG n o=true) {c:Call} (aK:o.op= .call c)(kS:c.callee= .builtin .max)(ab:bo E (aj E F s o) (fun l=>K (s.fin o.dst l))):o.wp E.P a w (fun a' w'=> ∃s',K s'∧Rel n w0 S0 s' a' w') Q:=by
 obtain⟨callee,args,argTypes⟩:=c;simp only at kS;subst kS;simp only[aj,aK]at ab;split at ab;(·rename_i k x r bN;have bk:=gY h args.toList (fun y hy=>az ho (by simp only[aK,Op.operands,Call.operands];simpa using hy));rw[bN]at bk;simp only[ai]at bk;obtain⟨v,vs,rW,h1,h2⟩:=bk;obtain⟨rfl,hx⟩:=a9 h1;obtain⟨z,hz1,hz2,hz3,OW⟩:=ni (P:=E.P) (w:=w) true r vs x hx h2 ab;refine h.val ho (v:=.int k z) ?_ (bT ⟨hz2,hz3⟩) hz1;(have hl:(args.map a.eval).toList= .int k x::vs:=by simpa using rW);simp only[if_true]at OW;simp only[execOp,aK,resolve,invoke,builtin,Builtin.max_,Sem.run_bind,Sem.run_pure,Result.andThen_ok,hl,OW])
 ·exact ab.elim
end
end Go.Proofs.YtgpkijnphchkpaaGreat
namespace Go.Proofs.YtgpkijnphchkpaaGreat
variable {dM:Prop} [jN dM]
open Go.RowKit Go.MapKept
/-! ### Keys -/
def jY:(T:Ty)→T.den→List Value|.int k,x=>[.int k x]|.bool,x=>[.bool x]|.str,x=>[.string ⟨x.toArray⟩]|.pair a b,x=>jY a x.1++jY b x.2|.st t,x=>jY t x|_,_=>[]
theorem cz {w:World} {M:Mem} : ∀(T:Ty)(x:T.den)(vs:List Value),fu T=true→aH T x w M vs→vs=jY T x:=by
 intro T;induction T with|int k=>intro x vs _ h;exact h.1|bool=>intro x vs _ h;exact h|str=>intro x vs _ h;exact h.1|pair a b ir gE=>intro x vs hp h;simp only[fu,Bool.and_eq_true]at hp;obtain⟨va,vb,rfl,h1,h2⟩:=h;rw[ir _ _ hp.1 h1,gE _ _ hp.2 h2];rfl|st t ih=>intro x vs hp h;exact ih x vs hp h|_=>intro x vs hp;cases hp
theorem wV: ∀(T:Ty)(x y:T.den),fu T=true→(gv T x y=true↔x=y):=by
 intro T;induction T with|int k=>intro x y _;simp[gv]|bool=>intro x y _;simp[gv]|str=>intro x y _;simp[gv]|pair a b ir gE=>intro x y hp;simp only[fu,Bool.and_eq_true]at hp;simp only[gv,Bool.and_eq_true,ir _ _ hp.1,gE _ _ hp.2];exact⟨fun h=>Prod.ext h.1 h.2,fun h=>by rw[h];exact⟨rfl,rfl⟩⟩|st t ih=>intro x y hp;exact ih x y hp|_=>intro x y hp;cases hp
theorem OX: ∀(T:Ty)(x y:T.den),fu T=true→kC T x y=some (gv T x y):=by
 intro T;induction T with|int k=>intro x y _;rfl|bool=>intro x y _;rfl|str=>intro x y _;rfl|pair a b ir gE=>intro x y hp;simp only[fu,Bool.and_eq_true]at hp;simp only[kC,gv,ir _ _ hp.1,gE _ _ hp.2]|st t ih=>intro x y hp;exact ih x y hp|_=>intro x y hp;cases hp
theorem nj {E:Env} {t:Nat} {K:Ty} (h:CI E t K=true):fu K=true∧kQ E t K∧dep K≤101∧K.val=true:=by
 cases K with|int k=>exact⟨rfl,trivial,by simp[dep],rfl⟩|bool=>exact⟨rfl,trivial,by simp[dep],rfl⟩|str=>exact⟨rfl,trivial,by simp[dep],rfl⟩|st R=>simp only[CI,Bool.and_eq_true]at h;have:=Nat.le_of_ble_eq_true h.2;exact⟨h.1.2,h.1.1,by simp only[dep];omega,rfl⟩|_=>cases h
theorem x8: ∀(T:Ty)(x:T.den),fu T=true→ ∀u,u∈jY T x→ ∀n,Instr.sameBits n u u=true:=by
 intro T;induction T with|int k=>intro x _ u hu n;simp only[jY,List.mem_singleton]at hu;subst hu;cases n<;>simp[Instr.sameBits]|bool=>intro x _ u hu n;simp only[jY,List.mem_singleton]at hu;subst hu;cases n<;>simp[Instr.sameBits]|str=>intro x _ u hu n;simp only[jY,List.mem_singleton]at hu;subst hu;cases n<;>(simp only[Instr.sameBits];exact(bytes_beq _ _).2 rfl)|pair a b ir gE=>intro x hp u hu n;simp only[fu,Bool.and_eq_true]at hp;simp only[jY]at hu;rcases List.mem_append.1 hu with hu|hu;(·exact ir _ hp.1 u hu n);(·exact gE _ hp.2 u hu n)|st t ih=>intro x hp u hu n;exact ih x hp u hu n|_=>intro x hp;cases hp
theorem sE {p:Value→Value→Bool} : ∀(l:List Value),(∀u,u∈l→p u u=true)→(l.zip l).all (fun x=>p x.1 x.2)=true|[],_=>rfl|u::l,h=>by simp only[List.zip_cons_cons,List.all_cons,Bool.and_eq_true];exact⟨h u (List.mem_cons_self ..),sE l fun v hv=>h v (List.mem_cons_of_mem _ hv)⟩
theorem sF {P:Program} {w w2:World} {M:Mem} {K:Ty} {x:K.den} {v:Value} (hp:fu K=true)(hv:K.val=true)(h:de K x w M v):(Instr.keyThatStays v v).run P w2= .ok v w2:=by
 (have hs:Instr.sameBits 10000 v v=true:=by cases K with|int k=>obtain⟨h,_⟩:=h;injection h with h;subst h;simp[Instr.sameBits]|bool=>have h:[v]=[.bool x]:=h;injection h with h;subst h;simp[Instr.sameBits]|str=>obtain⟨h,_⟩:=h;injection h with h;subst h;simp only[Instr.sameBits];exact(bytes_beq _ _).2 rfl|st R=>obtain⟨vs,rfl,hr⟩:=h;have e:=cz R x vs hp hr;subst e;simp only[Instr.sameBits,beq_self_eq_true,Bool.true_and];exact sE _ fun u hu=>x8 R x hp u hu _|_=>first|cases hp|cases hv)
 simp[Instr.keyThatStays,hs]
section
variable {E:Env} {w:World} {M:Mem}
theorem Fc(hE:aG E): ∀(fs:List Field)(R:Ty)(off:Nat),bQ E.ty fs R off=true→jb E.ty E.cmp fs=true→ ∀(x:R.den)(xs:Array Value),off+R.cells≤xs.size→aH R x w M ((xs.toList.drop off).take R.cells)→ ∀f,f∈fs→f.name≠ "_" ∧ ∃(T:Ty)(y:T.den)(v:Value),E.ty f.type=some T∧kQ E f.type T∧dep T≤dep R∧(Go.part f.type xs f.offset).run E.P w= .ok v w∧de T y w M v:=by
 (have one: ∀(f:Field)(T:Ty)(off:Nat)(y:T.den)(xs:Array Value),Nat.beq f.offset off=true→oF E.ty f.type T=true→(match E.ty f.type with|some (.int _)=>true|some .bool=>true|some .str=>true|some (.st _)=>E.cmp f.type|_=>false)=true→off+T.cells≤xs.size→aH T y w M ((xs.toList.drop off).take T.cells)→ ∃v:Value,E.ty f.type=some T∧kQ E f.type T∧(Go.part f.type xs f.offset).run E.P w= .ok v w∧de T y w M v:=by intro f T off y xs h1 h2 hc hx hr;have l7:=Nat.eq_of_beq_eq_true h1;(have hT:E.ty f.type=some T:=by unfold oF at h2;split at h2;(·rename_i U hU;rw[Ty.db h2]at hU;exact hU);·cases h2);have hf:=hE.facts hT;rw[hT]at hc;(have hk:kQ E f.type T:=by cases T<;>first|trivial|exact hc|cases hc);(have Ez:de T y w M (valOf T ((xs.toList.drop off).take T.cells)):=by have:=gX hf.val hr;have hv:=hf.val;cases T<;>first|exact this|cases hv);exact⟨_,hT,hk,by rw[l7];exact jC hf hx,Ez⟩)
 intro fs;induction fs with|nil=>intro R off h;cases h|cons f fs ihf=>intro R off h hc x xs hx hr g hg;simp only[jb,Bool.and_eq_true]at hc;cases fs with|nil=>simp only[bQ,Bool.and_eq_true,Bool.not_eq_true']at h;obtain⟨⟨⟨⟨h1,h2⟩,h3⟩,h4⟩,h5⟩:=h;rcases List.mem_cons.1 hg with rfl|hg;(·obtain⟨v,e1,e2,e3,e4⟩:=one g R off x xs h1 h2 hc.1 hx hr;exact⟨by simpa using h5,R,x,v,e1,e2,Nat.le_refl _,e3,e4⟩);(·cases hg)|cons f2 fs2=>cases R with|pair a b=>simp only[bQ,Bool.and_eq_true,Bool.not_eq_true']at h;obtain⟨⟨⟨⟨⟨h1,h2⟩,h3⟩,h4⟩,h5⟩,h6⟩:=h;simp only[Ty.cells]at hx hr;obtain⟨va,vb,hv,HJ,NU⟩:=hr;have wG:=bO _ _ _ _ _ HJ;have hlb:=bO _ _ _ _ _ NU;(have e1:(xs.toList.drop off).take a.cells=va:=by have:=congrArg (List.take a.cells) hv;rw[List.take_take,Nat.min_eq_left (by omega),←wG,List.take_left]at this;rw[←wG];exact this);(have e2:(xs.toList.drop (off+a.cells)).take b.cells=vb:=by have:=congrArg (List.drop a.cells) hv;rw[List.drop_take,List.drop_drop,←wG,List.drop_left,wG]at this;rw[show a.cells+b.cells-a.cells=b.cells from by omega]at this;exact this);rcases List.mem_cons.1 hg with rfl|hg;(·obtain⟨v,e3,e4,e5,e6⟩:=one g a off x.1 xs h1 h2 hc.1 (by omega) (by rw[e1];exact HJ);exact⟨by simpa using h5,a,x.1,v,e3,e4,by simp only[dep];omega,e5,e6⟩);(·obtain⟨n1,T,y,v,e3,e4,e5,e6⟩:=ihf b (off+a.cells) h6 hc.2 x.2 xs (by omega) (by rw[e2];exact NU) g hg;exact⟨n1,T,y,v,e3,e4,by simp only[dep];omega,e6⟩)|_=>simp only[bQ]at h;cases h
theorem Io {V:Ty} (hV:V.val=true): ∀(m k:Nat)(x:(rowOf V (m+1)).den)(xs:Array Value),(k+(m+1))*V.cells≤xs.size→aH (rowOf V (m+1)) x w M ((xs.toList.drop (k*V.cells)).take ((m+1)*V.cells))→ ∀i,k≤i→i<k+(m+1)→ ∃y:V.den,aH V y w M ((xs.toList.drop (i*V.cells)).take V.cells):=by
 intro m;induction m with|zero=>intro k x xs hx hr i h1 h2;(have:i=k:=by omega);subst this;simp only[Nat.zero_add,Nat.one_mul]at hr;exact⟨x,hr⟩|succ m ih=>intro k x xs hx hr i h1 h2;obtain⟨va,vb,hv,HJ,NU⟩:=hr;have wG:=bO _ _ _ _ _ HJ;have hle:V.cells≤(m+1+1)*V.cells:=Nat.le_mul_of_pos_left _ (by omega);(have e1:(xs.toList.drop (k*V.cells)).take V.cells=va:=by have:=congrArg (List.take V.cells) hv;rw[List.take_take,Nat.min_eq_left hle,←wG,List.take_left]at this;rw[←wG];exact this);(have e2:(xs.toList.drop ((k+1)*V.cells)).take ((m+1)*V.cells)=vb:=by have:=congrArg (List.drop V.cells) hv;rw[List.drop_take,List.drop_drop,←wG,List.drop_left,wG]at this;rw[show(m+1+1)*V.cells-V.cells=(m+1)*V.cells from by rw[Nat.add_mul (m+1) 1];omega,show k*V.cells+V.cells=(k+1)*V.cells from by rw[Nat.add_mul,Nat.one_mul]]at this;exact this);by_cases CP:i=k;(·subst CP;exact⟨x.1,by rw[e1];exact HJ⟩);·exact ih (k+1) x.2 xs (by rw[show k+1+(m+1)=k+(m+1+1)from by omega];exact hx) (by rw[e2];exact NU) i (by omega) (by omega)
theorem pY (hE : aG E) : ∀ (d : Nat) (K : Ty) (t : Nat) (x : K.den) (v : Value), E.ty t = some K → kQ E t K → de K x w M v → dep K ≤ d → ∀ em, (Instr.checkKey em (d + 1) t v).run E.P w = .ok () w := by
  intro d
  induction d with
  | zero =>
    intro K t x v hT hk hv hd em
    have hf := hE.facts hT
    obtain ⟨dd, hu, hs⟩ := hf.qw
    rw [Instr.checkKey]
    simp only [Sem.run_bind, run_underlying hu, Result.andThen_ok]
    cases K with
    | int k => cases dd <;> first | cases hs | (obtain ⟨hv, _⟩ := hv; injection hv with hv; subst hv; rfl)
    | bool => have hv : [v] = [.bool x] := hv; injection hv with hv; subst hv; cases dd <;> first | rfl | cases hs
    | str => obtain ⟨hv, _⟩ := hv; injection hv with hv; subst hv; cases dd <;> first | rfl | cases hs
    | st R => simp only [dep] at hd; omega
    | _ => cases hk
  | succ d ih =>
    intro K t x v hT hk hv hd em
    have hf := hE.facts hT
    obtain ⟨dd, hu, hs⟩ := hf.qw
    rw [Instr.checkKey]
    simp only [Sem.run_bind, run_underlying hu, Result.andThen_ok]
    cases K with
    | int k => cases dd <;> first | cases hs | (obtain ⟨hv, _⟩ := hv; injection hv with hv; subst hv; rfl)
    | bool => have hv : [v] = [.bool x] := hv; injection hv with hv; subst hv; cases dd <;> first | rfl | cases hs
    | str => obtain ⟨hv, _⟩ := hv; injection hv with hv; subst hv; cases dd <;> first | rfl | cases hs
    | st R =>
      obtain ⟨vs, rfl, hr⟩ := hv
      have hlen := bO _ _ _ _ _ hr
      obtain ⟨_, _, dj⟩ := ux hE hk
      simp only [dep] at hd
      rcases dj with ⟨fs, r0, hfc, _⟩ | ⟨m, e, r0, hec⟩
      · rw [hu] at r0
        injection r0 with r0
        subst r0
        simp only
        rw [← Array.forIn_toList]
        have each := Fc hE fs.toList R 0 hs hfc x vs.toArray (by simp [hlen]) (by simp only [List.drop_zero]; rw [List.take_of_length_le (by simp [hlen])]; exact hr)
        generalize fs.toList = L at each
        induction L with
        | nil => simp
        | cons f L ihL =>
          obtain ⟨hn, T, y, u, hTy, hkT, hdT, p1, dx⟩ := each f (List.mem_cons_self ..)
          have p2 := ih T f.type y u hTy hkT dx (by omega) em
          simp only [List.forIn_cons, Sem.run_bind, hn, ne_eq, not_false_eq_true, if_true, Result.andThen_ok, p1, p2, Sem.run_pure]
          have hL := ihL fun g hg => each g (List.mem_cons_of_mem _ hg)
          simp only [Sem.run_bind, ne_eq, Sem.run_pure] at hL
          exact hL
      · rw [hu] at r0
        injection r0 with r0
        subst r0
        simp only [cP] at hs
        split at hs
        · rename_i V hV
          simp only [Bool.and_eq_true] at hs
          obtain ⟨⟨⟨h1, h2⟩, h3⟩, h4⟩ := hs
          have h4 := Nat.le_of_ble_eq_true h4
          obtain ⟨m', rfl⟩ : ∃ m', m = m' + 1 := ⟨m - 1, by omega⟩
          have hR := Ty.db h1
          subst hR
          have hfV := hE.facts hV
          have hkV : kQ E e V := by
            unfold si at hec
            rw [hV] at hec
            cases V <;> first | trivial | exact hec | cases hec
          have hdV : dep V ≤ d := by
            have : ∀ n, dep V ≤ dep (rowOf V (n + 1)) := by
              intro n
              cases n with
              | zero => exact Nat.le_refl _
              | succ n => simp only [rowOf, dep]; omega
            have := this m'
            omega
          have Ip := oL V (m' + 1)
          have each := Io (w := w) (M := M) h2 m' 0 x vs.toArray (by simp [hlen, Ip]) (by simp only [Nat.zero_mul, List.drop_zero]; rw [List.take_of_length_le (by simp [hlen, Ip])]; exact hr)
          simp only [Std.Legacy.Range.forIn_eq_forIn_range', Std.Legacy.Range.size, Nat.sub_zero, Nat.add_one_sub_one, Nat.div_one]
          have OY : ∀ i, i ∈ List.range' 0 (m' + 1) → ∃ y : V.den, i < m' + 1 ∧ aH V y w M ((vs.toArray.toList.drop (i * V.cells)).take V.cells) := by
            intro i hi
            have uj : i < m' + 1 := by simpa using hi
            obtain ⟨y, hy⟩ := each i (Nat.zero_le _) (by omega)
            exact ⟨y, uj, hy⟩
          generalize List.range' 0 (m' + 1) = is at OY
          induction is with
          | nil => simp
          | cons i is ihL =>
            obtain ⟨y, hi, hy⟩ := OY i (List.mem_cons_self ..)
            have hle : i * V.cells + V.cells ≤ vs.toArray.size := by
              rw [List.size_toArray, hlen, Ip]
              calc i * V.cells + V.cells = (i + 1) * V.cells := by rw [Nat.add_mul, Nat.one_mul]
                _ ≤ (m' + 1) * V.cells := Nat.mul_le_mul_right _ hi
            have p1 := jC hfV (w := w) (cs := vs.toArray) (off := i * V.cells) hle
            have Ez : de V y w M (valOf V ((vs.toArray.toList.drop (i * V.cells)).take V.cells)) := by
              have := gX hfV.val hy
              have hv := hfV.val
              cases V <;> first | exact this | cases hv
            have p2 := ih V e y _ hV hkV Ez hdV em
            simp only [List.forIn_cons, Sem.run_bind, hfV.sizeOf w, Result.andThen_ok, p1, p2, Sem.run_pure]
            have hL := ihL fun j hj => OY j (List.mem_cons_of_mem _ hj)
            simp only [Sem.run_bind, Sem.run_pure] at hL
            exact hL
        · cases hs
    | _ => cases hk
/-! ### A map's entries -/
def nk(w:World)(M:Mem)(K V:Ty):List (K.den×V.den)→List MapEntry→Prop|[],[]=>True|y::es,e::l=>(∃ca cb,e.key=valOf K ca∧aH K y.1 w M ca∧e.val=valOf V cb∧aH V y.2 w M cb)∧nk w M K V es l|_,_=>False
theorem nm {K V:Ty} : ∀(es:List (K.den×V.den))(l:List MapEntry),l.length=es.length→(∀(i:Nat)(y:K.den×V.den),es[i]?=some y→ ∃(e:MapEntry)(ca cb:List Value),l[i]?=some e∧e.key=valOf K ca∧aH K y.1 w M ca∧e.val=valOf V cb∧aH V y.2 w M cb)→nk w M K V es l|[],[],_,_=>trivial|[],_::_,h,_=>(by simp at h)|_::_,[],h,_=>(by simp at h)|y::es,e::l,hl,h=>by obtain⟨e',ca,cb,h1,h2⟩:=h 0 y rfl;simp only[List.getElem?_cons_zero,Option.some.injEq]at h1;subst h1;exact⟨⟨ca,cb,h2⟩,nm es l (by simpa using hl) fun i z hz=>by simpa using h (i+1) z (by simpa using hz)⟩
theorem kT {T:Ty} {x:T.den} {vs:List Value} (hT:T.val=true)(h:aH T x w M vs):de T x w M (valOf T vs):=by have:=gX hT h;cases T<;>first|exact this|cases hT
def gq {K V:Type} (eq:K→K→Bool):List (K×V)→K→Option Nat|[],_=>none|p::r,k=>bif eq k p.1 then some 0 else(match gq eq r k with|some i=>some (i+1)|none=>none)
theorem pZ {K V:Type} (eq:K→K→Bool)(k:K): ∀(es:List (K×V)),aJ eq es k=(gq eq es k).bind fun i=>(es[i]?).map (·.2)|[]=>rfl|p::r=>by simp only[aJ,gq];cases eq k p.1 with|true=>rfl|false=>simp only[cond_false,pZ eq k r];cases gq eq r k<;>rfl
theorem my {K V:Type} (eq:K→K→Bool)(k:K)(v:V): ∀(es:List (K×V)),cO eq es k v=(match gq eq es k with|some i=>es.set i (k,v)|none=>es++ [(k,v)])|[]=>rfl|p::r=>by simp only[cO,gq];cases eq k p.1 with|true=>rfl|false=>simp only[cond_false,my eq k v r];cases gq eq r k<;>rfl
theorem sG {K V:Type} (eq:K→K→Bool)(k:K): ∀(es:List (K×V))(i:Nat),gq eq es k=some i→ ∃p,es[i]?=some p∧eq k p.1=true|[],i,h=>(by cases h)|p::r,i,h=>by simp only[gq]at h;cases hb:eq k p.1 with|true=>rw[hb]at h;injection h with h;subst h;exact⟨p,rfl,hb⟩|false=>rw[hb]at h;simp only[cond_false]at h;split at h;(·rename_i j hj;injection h with h;subst h;obtain⟨q,h1,h2⟩:=sG eq k r j hj;exact⟨q,by simpa using h1,h2⟩);·cases h
theorem Ml {K:Ty} {x y:K.den} {u v:Value} (hp:fu K=true)(hv:K.val=true)(hx:de K x w M u)(hy:de K y w M v):x=y→u=v:=by
 intro e;subst e;cases K with|int k=>have hx:aH (.int k) x w M [u]:=hx;have hy:aH (.int k) x w M [v]:=hy;have:=(cz _ _ _ hp hx).trans (cz _ _ _ hp hy).symm;simpa using this|bool=>have hx:aH .bool x w M [u]:=hx;have hy:aH .bool x w M [v]:=hy;have:=(cz _ _ _ hp hx).trans (cz _ _ _ hp hy).symm;simpa using this|str=>have hx:aH .str x w M [u]:=hx;have hy:aH .str x w M [v]:=hy;have:=(cz _ _ _ hp hx).trans (cz _ _ _ hp hy).symm;simpa using this|st R=>obtain⟨vs,rfl,h1⟩:=hx;obtain⟨us,rfl,h2⟩:=hy;rw[cz R _ _ hp h1,cz R _ _ hp h2]|_=>first|cases hp|cases hv
def gM {K V:Ty} (es:List (K.den×V.den))(l:List MapEntry)(k:K.den)(i0:Nat)(res:Option (Nat×Value)):Prop:=match gq (gv K) es k with|none=>res=none|some i=> ∃e,l[i]?=some e∧res=some (i0+i,e.val)
theorem x9(hE:aG E) {K V:Ty} {kt:Nat} (hT:E.ty kt=some K)(hk:CI E kt K=true) {k:K.den} {kv:Value} (uc:de K k w M kv): ∀(es:List (K.den×V.den))(l:List MapEntry)(i0:Nat),nk w M K V es l→ ∃res,(Instr.findAsking kt kv l i0).run E.P w= .ok res w∧gM es l k i0 res|[],[],i0,_=>⟨none,by simp[Instr.findAsking],rfl⟩|[],_::_,_,h=>h.elim|_::_,[],_,h=>h.elim|y::es,e::l,i0,h=>by obtain⟨⟨ca,cb,h1,h2,h3,h4⟩,h5⟩:=h;obtain⟨hp,NZ,hd,nZ⟩:=nj hk;(have hrk:de K y.1 w M e.key:=by rw[h1];exact kT nZ h2);have heq:(Op.equal kt kv e.key).run E.P w= .ok (gv K k y.1) w:=ON hE 9999 K kt k y.1 kv e.key _ (hE.facts hT) NZ uc hrk (OX K k y.1 hp) (by omega);cases hb:gv K k y.1 with|true=>rw[hb]at heq;exact⟨some (i0,e.val),by simp[Instr.findAsking,heq],by simp only[gM,gq,hb,cond_true];exact⟨e,rfl,rfl⟩⟩|false=>rw[hb]at heq;obtain⟨res,hr,hf⟩:=x9 hE hT hk uc es l (i0+1) h5;refine⟨res,by simp[Instr.findAsking,heq,hr],?_⟩;simp only[gM,gq,hb,cond_false]at hf⊢;cases hm:gq (gv K) es k with|none=>rw[hm]at hf;exact hf|some i=>rw[hm]at hf;obtain⟨e',wE,l9⟩:=hf;exact⟨e',by simpa using wE,by rw[l9];simp only[Option.some.injEq,Prod.mk.injEq,and_true];omega⟩
theorem sH {K V:Ty} {d:TypeDesc} (hs:(match K with|.int l=>(match d with|.int k=>jO k l|_=>false)|.bool=>(match d with|.bool=>true|_=>false)|.str=>(match d with|.string=>true|_=>false)|_=>false)=true) {k:K.den} {kv:Value} (uc:de K k w M kv): ∀(es:List (K.den×V.den))(l:List MapEntry)(i0:Nat),nk w M K V es l→ ∃res,Instr.findNow d kv l i0=some res∧gM es l k i0 res|[],[],i0,_=>⟨none,rfl,rfl⟩|[],_::_,_,h=>h.elim|_::_,[],_,h=>h.elim|y::es,e::l,i0,h=>by obtain⟨⟨ca,cb,h1,h2,h3,h4⟩,h5⟩:=h;(have sI:Instr.sameNow d kv e.key=some (gv K k y.1):=by cases K with|int kk=>have uc:aH (.int kk) k w M [kv]:=uc;have e1:=cz (.int kk) k _ rfl uc;have e2:=cz (.int kk) y.1 _ rfl h2;simp only[jY,List.cons.injEq,and_true]at e1 e2;subst e1;rw[h1,e2];(cases d<;>first|(cases hs;done)|skip);simp only[Instr.sameNow,valOf,List.headD_cons,if_true,gv];congr 1|bool=>have uc:aH .bool k w M [kv]:=uc;have e1:=cz .bool k _ rfl uc;have e2:=cz .bool y.1 _ rfl h2;simp only[jY,List.cons.injEq,and_true]at e1 e2;subst e1;rw[h1,e2];(cases d<;>first|rfl|(cases hs;done))|str=>have uc:aH .str k w M [kv]:=uc;have e1:=cz .str k _ rfl uc;have e2:=cz .str y.1 _ rfl h2;simp only[jY,List.cons.injEq,and_true]at e1 e2;subst e1;rw[h1,e2];(have hb: ∀a b:List UInt8,((⟨a.toArray⟩:ByteArray)==⟨b.toArray⟩)=decide (a=b):=by intro a b;rw[Bool.eq_iff_iff,bytes_beq,decide_eq_true_iff];constructor;(·intro h;injection h with h;simpa using congrArg Array.toList h);·intro h;rw[h]);(cases d<;>first|(cases hs;done)|skip);simp only[Instr.sameNow,valOf,List.headD_cons,hb,gv]|_=>cases hs);cases hb:gv K k y.1 with|true=>rw[hb]at sI;exact⟨some (i0,e.val),by simp[Instr.findNow,sI],by simp only[gM,gq,hb,cond_true];exact⟨e,rfl,rfl⟩⟩|false=>rw[hb]at sI;obtain⟨res,hr,hf⟩:=sH hs uc es l (i0+1) h5;refine⟨res,by simp[Instr.findNow,sI,hr],?_⟩;simp only[gM,gq,hb,cond_false]at hf⊢;cases hm:gq (gv K) es k with|none=>rw[hm]at hf;exact hf|some i=>rw[hm]at hf;obtain⟨e',wE,l9⟩:=hf;exact⟨e',by simpa using wE,by rw[l9];simp only[Option.some.injEq,Prod.mk.injEq,and_true];omega⟩
theorem sJ(hE:aG E) {K V:Ty} {kt:Nat} (hT:E.ty kt=some K)(hk:CI E kt K=true) {k:K.den} {kv:Value} (uc:de K k w M kv)(es:List (K.den×V.den))(l:List MapEntry)(h:nk w M K V es l): ∃res,(Instr.findKey kt kv l).run E.P w= .ok res w∧gM es l k 0 res:=by
 obtain⟨d,hu,hs⟩:=(hE.facts hT).qw;(have now: ∀res,Instr.findNow d kv l 0=some res→(Instr.findKey kt kv l).run E.P w= .ok res w:=fun res hr=>by simp[Instr.findKey,run_underlying hu,hr])
 (have ask:Instr.findNow d kv l 0=none→ ∃res,(Instr.findKey kt kv l).run E.P w= .ok res w∧gM es l k 0 res:=fun hr=>by obtain⟨res,h1,h2⟩:=x9 hE hT hk uc es l 0 h;exact⟨res,by simp[Instr.findKey,run_underlying hu,hr,h1],h2⟩)
 cases K with|int kk=>obtain⟨res,h1,h2⟩:=sH (d:=d) (by cases d<;>first|exact hs|cases hs) uc es l 0 h;exact⟨res,now res h1,h2⟩|bool=>obtain⟨res,h1,h2⟩:=sH (d:=d) (by cases d<;>first|exact hs|cases hs) uc es l 0 h;exact⟨res,now res h1,h2⟩|str=>obtain⟨res,h1,h2⟩:=sH (d:=d) (by cases d<;>first|exact hs|cases hs) uc es l 0 h;exact⟨res,now res h1,h2⟩|st R=>(match es,l,h with|[],[],_=>exact⟨none,now none rfl,rfl⟩|y::es,e::l,h=>refine ask ?_;simp only[cP]at hs;cases d<;>first|(cases hs;done)|rfl)|_=>cases hk
end
end Go.Proofs.YtgpkijnphchkpaaGreat
namespace Go.Proofs.YtgpkijnphchkpaaGreat
variable {dM:Prop} [jN dM]
open Go.RowKit Go.MapKept
section
variable {E:Env} {n:Nat} {w0:World} {S0:Cx} {s:St} {a:Act} {w:World} {ν:Nat→Value} {S:Nat→Prop} {F:dw} {o:Oper} {K:St→Prop} {Q:Exit→Act→World→Prop}
theorem ya(hE:aG E) {t:Nat} {A B:Ty} (hT:E.ty t=some (.mp A B)): ∃k v,E.P.underlying t=some (.map k v)∧E.ty k=some A∧E.ty v=some B∧A.val=true∧B.val=true∧aR A=0∧aR B=0:=by
 have hf:=hE.facts hT;obtain⟨d,hu,hs⟩:=hf.qw;have ho:=hf.own;simp only[aR]at ho;cases d with|map k v=>simp only[cP,Bool.and_eq_true]at hs;obtain⟨⟨⟨h1,h2⟩,h3⟩,h4⟩:=hs;(have is: ∀(u:Nat)(U:Ty),oF E.ty u U=true→E.ty u=some U:=by intro u U h;unfold oF at h;split at h;(·rename_i X hX;rw[Ty.db h]at hX;exact hX);·cases h);exact⟨k,v,hu,is _ _ h1,is _ _ h2,h3,h4,by omega,by omega⟩|_=>simp only[cP]at hs;cases hs
theorem Kg(hE:aG E) {t kt:Nat} (hk:E.mapKey t=some kt) {k v:Nat} (hu:E.P.underlying t=some (.map k v)):kt=k:=by
 have:=hE.mapKey t kt hk;unfold J6 at this;rw[hu]at this;exact Nat.eq_of_beq_eq_true this
theorem Iq(hE:aG E)(h:Full n w0 S0 s a w ν S)(ho:bG n o=true) {t:Nat} (aK:o.op= .makeMap t none)(ab:bo E (aj E F s o) (fun l=>K (s.fin o.dst l))):o.wp E.P a w (fun a' w'=> ∃s',K s'∧Rel n w0 S0 s' a' w') Q:=by
 simp only[aj,aK]at ab;split at ab;(·rename_i A B d hT hd;split at ab;(·rename_i hl;simp only[bo,St.fin,hd]at ab;obtain⟨k,v,hu,_,_,_,_,Ui,Kh⟩:=ya hE hT;(have hr:(execOp a.eval o).run E.P w= .ok (.value (.map (some w.heap.size))) (w.alloc (.map #[] 0)):=by simp only[execOp,aK,Instr.makeMap,Option.map_none,Sem.run_bind,Result.andThen_ok,Sem.run_pure];rfl);refine cU hr ⟨_,ab,?_⟩;rw[hd];have hh:(w.alloc (.map #[] 0)).heap[w.heap.size]?=some (.map #[] 0):=_root_.Go.heap_alloc_new w _;refine(h.new (b:=.mp A B []) (p:=.lmap d) (v:=.map (some w.heap.size)) (val:=.map (some w.heap.size)) (bm ho d hd) hl (dt w _ none) (fun g hg=>h.beyond (by injection hg with hg;omega)) ?_ ?_).rel;(·refine⟨Ui,Kh,by simp,w.heap.size,#[],0,by simp,h.W.size _ (Nat.le_refl _),fun hS=>absurd (h.W.lt _ hS) (by simp),hh,⟨rfl,fun i e hi=>by simp at hi⟩,rfl,fun i y hy=>by simp at hy⟩);·simp only[ag];exact⟨⟨_,aM _ _ _⟩,by simp,_,rfl⟩);·exact ab.elim)
 ·exact ab.elim
theorem Full.entries(h:Full n w0 S0 s a w ν S) {A B:Ty} {p:PV} {v:Value} {es:List (A.den×B.den)} (hx:mf F s.bl A B p=some es)(hp:ag h.c p v):(v= .map none∧es=[])∨ ∃(r:Nat)(ax:Array MapEntry)(clock:Nat),v= .map (some r)∧w.heap[r]?=some (.map ax clock)∧og ax clock∧ax.size=es.length∧nk w ⟨S,aL w0 S0⟩ A B es ax.toList:=by
 cases p with|iv U y=>simp only[mf]at hx;obtain⟨e,hx⟩:=Ty.bw hx;subst e;simp only at hx;subst hx;simp only[ag]at hp;obtain⟨_,hp⟩:=hp;have hp:aH (.mp A B) y w ⟨S,aL w0 S0⟩ [v]:=hp;obtain⟨_,hc⟩:=hp;rcases hc with⟨hv,he⟩|⟨r,ax,clock,hv,hS,hh,hb,hs,hr⟩;(·injection hv with hv;exact .inl ⟨hv,he⟩);(·injection hv with hv;exact .inr ⟨r,ax,clock,hv,hh,hb,hs,nm _ _ (by simpa using hs) (by simpa using hr)⟩)|lmap id=>simp only[mf]at hx;split at hx;(·rename_i A' B' ys hl;obtain⟨hl,_⟩:=cy hl;obtain⟨e,hx⟩:=Ty.bw hx;injection e with e1 e2;subst e1;subst e2;simp only at hx;subst hx;simp only[ag]at hp;obtain⟨cZ,se,h0,r,ax,clock,h1,h2,h3,h4,h5,h6,h7⟩:=h.W.cv _ _ hl;refine .inr ⟨r,ax,clock,?_,h4,h5,h6,nm _ _ (by simpa using h6) (by simpa using h7)⟩;rw[hp.2.1];exact h1);(·cases hx)|dG=>simp only[mf,Option.some.injEq]at hx;simp only[ag]at hp;exact .inl ⟨hp,hx.symm⟩|_=>simp only[mf]at hx;cases hx
theorem Fe: ∀(T:Ty),fu T=true→T.flat=true:=by intro T;induction T<;>simp_all[fu,Ty.flat]
theorem Full.key(h:Full n w0 S0 s a w ν S) {A:Ty} {kt:Nat} (hk:CI E kt A=true) {q:PV} {v:Value} {k:A.den} (hx:exp F s.bl A q=some k)(hq:ag h.c q v)(M:Mem):de A k w M v:=by
 obtain⟨hp,_,_,_⟩:=nj hk;have n9:=Fe A hp;have hR:Reads F s h.c ⟨fun b=>b<w.heap.size,aL w0 S0⟩:=⟨rfl,h.W.cv,fun b hb=>h.W.lt b hb,fun id _⟨b,hb⟩g hg=>(h.iu hb hg).2.2⟩
 exact CZ n9 (fo hR (.inl (Bk A n9)) hx hq)
theorem OZ: ∀(T:Ty),T.JY=true→ ∃vs,dy T=some vs:=by
 intro T;induction T with|pair a b ir gE=>intro h;simp only[Ty.JY,Bool.and_eq_true]at h;obtain⟨x,hx⟩:=ir h.1;obtain⟨y,hy⟩:=gE h.2;exact⟨x++y,by simp only[dy,hx,hy]⟩|st t ih=>intro h;exact ih h|_=>intro h;first|exact⟨_,rfl⟩|cases h
theorem uz {T:Ty} {z:Value} {M:Mem} (hz:oE (some z) T=true)(hT:T.JY=true)(hv:T.val=true):de T (dm T) w M z:=by
 obtain⟨vs,rW⟩:=OZ T hT;have hr:=oQ (w:=w) (M:=M) T vs hT rW;unfold oE at hz;rw[rW]at hz;simp only at hz;split at hz;(·split at hz;(·rename_i cs;have:=lH hz;exact⟨vs,by rw[←this],hr⟩);·cases hz)
 ·split at hz;(·rename_i c8 _ u;have:=nf hz;subst this;cases T<;>first|exact hr|(cases hv;done)|(exact absurd rfl (c8 _)));·cases hz
theorem C0 {c:Ctx} {T:Ty} {z:Value} {cs:List PV} (hz:oE (some z) T=true)(hv:T.val=true)(hc:zeroCells T=some cs)(HL:z.cells.size=T.cells):ag c (join T cs) z:=by
 obtain⟨vs,H5,bC,h1⟩:=oK (c:=c) T cs hc;have hz':=kM hz H5;(have nZ:z=valOf T vs:=by unfold oE at hz;rw[H5]at hz;simp only at hz;split at hz;(·split at hz;(·rename_i jc;have:=lH hz;simp only[valOf];rw[←this]);·cases hz);·split at hz;(·rename_i c8 _ u;have:=nf hz;subst this;cases T<;>first|rfl|(cases hv;done)|(exact absurd rfl (c8 _)));·cases hz)
 rw[nZ];exact jB (by rw[←hz',Array.length_toList,HL]) hv h1 bC
theorem ix {c:Ctx} {ps:List PV} {vs:List Value} (h:ai c ps vs):ag c (.bn ps) (.tuple vs.toArray):=by simp only[ag];exact⟨vs,rfl,h⟩
theorem ko {c:Ctx} {p q:PV} {u v:Value} (h1:ag c p u)(h2:ag c q v):ai c [p,q] [u,v]:=by simp only[ai];exact⟨_,_,rfl,h1,_,_,rfl,h2,rfl⟩
def wI(z:Value):Option (Nat×Value)→Value|some (_,v)=>v|none=>z
theorem qZ {P:Program} {t kt ve:TypeId} {xv kv z:Value} {ok:Bool} {l:List MapEntry} {res:Option (Nat×Value)} (hu:P.underlying t=some (.map kt ve))(ra:(xv= .map none∧l=[])∨ ∃(r:Nat)(ax:Array MapEntry)(clock:Nat),xv= .map (some r)∧w.heap[r]?=some (.map ax clock)∧ax.toList=l)(Ki: ∀em,(Instr.checkKey em 10000 kt kv).run P w= .ok () w)(iT:(Instr.findKey kt kv l).run P w= .ok res w)(hz:(zeroValue ve).run P w= .ok z w):(Instr.lookup t xv kv ok).run P w= .ok (if ok then .tuple #[wI z res,.bool res.isSome]else wI z res) w:=by
 unfold Instr.lookup;rcases ra with⟨rfl,rfl⟩|⟨r,ax,clock,rfl,hh,rfl⟩;(·cases res with|none=>cases ok<;>simp[run_underlying hu,Ki,iT,hz,wI]|some p=>cases ok<;>simp[run_underlying hu,Ki,iT,wI])
 ·cases res with|none=>cases ok<;>simp[run_underlying hu,MapKept.run_getObj_map hh,Ki,iT,hz,wI]|some p=>cases ok<;>simp[run_underlying hu,MapKept.run_getObj_map hh,Ki,iT,wI]
theorem Mm(hE:aG E)(h:Full n w0 S0 s a w ν S)(ho:bG n o=true) {t:Nat} {x y:Operand} {ok:Bool} (aK:o.op= .lookup t x y ok)(ab:bo E (aj E F s o) (fun l=>K (s.fin o.dst l))):o.wp E.P a w (fun a' w'=> ∃s',K s'∧Rel n w0 S0 s' a' w') Q:=by
 simp only[aj,aK,nb]at ab;have hx:=h.ev (az ho (x:=x) (by simp[aK,Op.operands]));have hy:=h.ev (az ho (x:=y) (by simp[aK,Op.operands]));split at ab;(·rename_i A B kt hT hkt;split at ab;(·rename_i es k hes hk nn;obtain⟨k',ve,hu,hTA,hTB,N0,EB,Ui,Kh⟩:=ya hE hT;have hkk:=Kg hE hkt hu;subst hkk;obtain⟨hp,NZ,UM,_⟩:=nj nn;have wJ:=h.entries hes hx;have uc:=h.key nn hk hy ⟨S,aL w0 S0⟩;obtain⟨i,hi,cY,hby,EW,z,hz,HL⟩:=(hE.facts hTB).info;rw[hz]at EW;(have a22:(zeroValue ve).run E.P w= .ok z w:=by simp only[zeroValue,typeInfo,Sem.run_bind,run_program,Result.andThen_ok,hi,hz,Sem.run_pure]);have Ki: ∀em,(Instr.checkKey em 10000 kt (a.eval y)).run E.P w= .ok () w:=fun em=>pY hE 9999 A kt k _ hTA NZ uc (by omega) em;(obtain⟨res,l,ra,iT,dI,hl⟩: ∃(res:Option (Nat×Value))(l:List MapEntry),((a.eval x= .map none∧l=[])∨ ∃(r:Nat)(ax:Array MapEntry)(clock:Nat),a.eval x= .map (some r)∧w.heap[r]?=some (.map ax clock)∧ax.toList=l)∧(Instr.findKey kt (a.eval y) l).run E.P w= .ok res w∧gM es l k 0 res∧nk w ⟨S,aL w0 S0⟩ A B es l:=by rcases wJ with⟨hv,rfl⟩|⟨r,ax,clock,hv,hh,hb,hs,hr⟩;(·obtain⟨res,h1,h2⟩:=sJ hE (V:=B) hTA nn uc [] [] trivial;exact⟨res,[],.inl ⟨hv,rfl⟩,h1,h2,trivial⟩);·obtain⟨res,h1,h2⟩:=sJ hE (V:=B) hTA nn uc es ax.toList hr;exact⟨res,ax.toList,.inr ⟨r,ax,clock,hv,hh,rfl⟩,h1,h2,hr⟩);(have O0:(execOp a.eval o).run E.P w= .ok (.value (if ok then .tuple #[wI z res,.bool res.isSome]else wI z res)) w:=by simp only[execOp,aK,Sem.run_bind,qZ (ok:=ok) hu ra Ki iT a22,Result.andThen_ok,Sem.run_pure]);cases hm:gq (gv A) es k with|none=>simp only[gM,hm]at dI;subst dI;(have UT:aJ (gv A) es k=none:=by rw[pZ,hm];rfl);have aU:=O0;simp only[wI,Option.isSome_none]at aU;(have a23:ag h.c (xK B) z:=by unfold xK;split;(·rename_i sD;exact bP Kh (uz EW sD EB) EB);·split;(·rename_i cs Ew;exact C0 EW EB Ew HL);·simp only[ag]);split at ab;(·rename_i sD;rw[UT]at ab;refine h.val ho aU ?_ ab;simp only[Option.getD_none,Bool.false_eq_true,if_false];exact bP Kh (uz EW sD EB) EB);(·exact h.val ho aU (by simpa using a23) (ab.2 UT));(·refine h.val ho aU ?_ (ab.2 UT);have h2:ag h.c (.iv .bool false) (.bool false):=bK;simp only[if_true];exact ix (ko a23 h2));(·obtain⟨v,hv,_⟩:=ab;rw[UT]at hv;cases hv);(·rename_i sD _;rw[UT]at ab;refine h.val ho aU ?_ ab;have h2:ag h.c (.iv .bool false) (.bool false):=bK;simp only[if_true];exact ix (ko (bP Kh (uz EW sD EB) EB) h2));(·obtain⟨v,hv,_⟩:=ab;rw[UT]at hv;cases hv)|some j=>simp only[gM,hm]at dI;obtain⟨e,he,rfl⟩:=dI;obtain⟨yy,Ir,_⟩:=sG _ _ _ _ hm;(have Ic:aJ (gv A) es k=some yy.2:=by rw[pZ,hm];simp[Ir]);(have bN:de B yy.2 w ⟨S,aL w0 S0⟩ e.val:=by(have at_: ∀(es:List (A.den×B.den))(l:List MapEntry)(j:Nat)(yy:A.den×B.den)(e:MapEntry),nk w ⟨S,aL w0 S0⟩ A B es l→es[j]?=some yy→l[j]?=some e→de B yy.2 w ⟨S,aL w0 S0⟩ e.val:=by intro es;induction es with|nil=>intro l j yy e _ h1;simp at h1|cons p es ih=>intro l j yy e hl h1 h2;cases l with|nil=>exact hl.elim|cons q l=>cases j with|zero=>simp only[List.getElem?_cons_zero,Option.some.injEq]at h1 h2;subst h1;subst h2;obtain⟨⟨ca,cb,_,_,h3,h4⟩,_⟩:=hl;rw[h3];exact kT EB h4|succ j=>exact ih l j yy e hl.2 (by simpa using h1) (by simpa using h2));exact at_ es l j yy e hl Ir he);have aU:=O0;simp only[wI,Option.isSome_some]at aU;have HM:ag h.c (.iv B yy.2) e.val:=bP Kh bN EB;split at ab;(·rename_i sD;rw[Ic]at ab;exact h.val ho aU (by simpa using HM) ab);(·exact h.val ho aU (by simpa using HM) (ab.1 _ Ic));(·refine h.val ho aU ?_ (ab.1 _ Ic);have h2:ag h.c (.iv .bool true) (.bool true):=bK;simp only[if_true];exact ix (ko HM h2));(·obtain⟨v,hv,nV⟩:=ab;rw[Ic]at hv;injection hv with hv;subst hv;exact h.val ho aU (by simpa using HM) nV);(·rw[Ic]at ab;refine h.val ho aU ?_ ab;have h2:ag h.c (.iv .bool true) (.bool true):=bK;simp only[if_true];exact ix (ko HM h2));·obtain⟨v,hv,nV⟩:=ab;rw[Ic]at hv;injection hv with hv;subst hv;refine h.val ho aU ?_ nV;have h2:ag h.c (.iv .bool true) (.bool true):=bK;simp only[if_true];exact ix (ko HM h2));·exact ab.elim)
 ·exact ab.elim
theorem Bl {T:Ty} {x:T.den} {M:Mem} {v:Value} (hT:T.val=true)(h:de T x w M v):v=valOf T v.cells.toList∧aH T x w M v.cells.toList:=by
 refine⟨?_,kH hT h⟩;cases T with|st t=>obtain⟨vs,rfl,_⟩:=h;rfl|unit=>cases hT|pair a b=>cases hT|bn a b=>cases hT|_=>have hr:=kH hT h;have hl:=bO _ _ _ _ _ hr;simp only[Ty.cells]at hl;have h1:=sc _ _ _ _ _ h v (List.mem_singleton.2 rfl);cases v<;>first|rfl|(simp[Value.oneCell']at h1;done)
theorem lM(w:World)(r:Nat)(o:Obj):eF w { w with heap:=w.heap.setIfInBounds r o } (some r):=⟨rfl,rfl,rfl,by simp,fun k _ hk=>by have hkr:r≠k:=fun e=>hk (by rw[e]);simp[hkr],fun _=>Nat.le_refl _⟩
theorem Bm {w w':World} {M M':Mem} {A B:Ty} (hA:aR A=0)(hB:aR B=0)(hw: ∀b,M.S b→w'.heap[b]?=w.heap[b]?)(hS: ∀b,M.S b→M'.S b): ∀(es:List (A.den×B.den))(l:List MapEntry),nk w M A B es l→nk w' M' A B es l|[],[],_=>trivial|[],_::_,h=>h.elim|_::_,[],h=>h.elim|y::es,e::l,h=>by obtain⟨⟨ca,cb,h1,h2,h3,h4⟩,h5⟩:=h;exact⟨⟨ca,cb,h1,aB hw hS _ _ _ hA h2,h3,aB hw hS _ _ _ hB h4⟩,Bm hA hB hw hS es l h5⟩
theorem sK {w:World} {M:Mem} {A B:Ty} : ∀(es:List (A.den×B.den))(l:List MapEntry),nk w M A B es l→l.length=es.length|[],[],_=>rfl|[],_::_,h=>h.elim|_::_,[],h=>h.elim|y::es,e::l,h=>by simp[sK es l h.2]
theorem sL {w:World} {M:Mem} {A B:Ty} : ∀(es:List (A.den×B.den))(l:List MapEntry),nk w M A B es l→ ∀(i:Nat)(y:A.den×B.den),es[i]?=some y→ ∃(e:MapEntry)(ca cb:List Value),l[i]?=some e∧e.key=valOf A ca∧aH A y.1 w M ca∧e.val=valOf B cb∧aH B y.2 w M cb|[],[],_,i,y,hy=>(by simp at hy)|[],_::_,h,_,_,_=>h.elim|_::_,[],h,_,_,_=>h.elim|y::es,e::l,h,i,z,hz=>by cases i with|zero=>simp only[List.getElem?_cons_zero,Option.some.injEq]at hz;subst hz;obtain⟨⟨ca,cb,h1⟩,_⟩:=h;exact⟨e,ca,cb,rfl,h1⟩|succ i=>simpa using sL es l h.2 i z (by simpa using hz)
theorem Ff {w:World} {M:Mem} {A B:Ty} {y:A.den×B.den} {f:MapEntry} (hf: ∃ca cb,f.key=valOf A ca∧aH A y.1 w M ca∧f.val=valOf B cb∧aH B y.2 w M cb): ∀(es:List (A.den×B.den))(l:List MapEntry)(i:Nat),nk w M A B es l→nk w M A B (es.set i y) (l.set i f)|[],[],_,_=>trivial|[],_::_,_,h=>h.elim|_::_,[],_,h=>h.elim|z::es,e::l,i,h=>by cases i with|zero=>exact⟨hf,h.2⟩|succ i=>exact⟨h.1,Ff hf es l i h.2⟩
theorem Bn {w:World} {M:Mem} {A B:Ty} {y:A.den×B.den} {f:MapEntry} (hf: ∃ca cb,f.key=valOf A ca∧aH A y.1 w M ca∧f.val=valOf B cb∧aH B y.2 w M cb): ∀(es:List (A.den×B.den))(l:List MapEntry),nk w M A B es l→nk w M A B (es++ [y]) (l++ [f])|[],[],_=>⟨hf,trivial⟩|[],_::_,h=>h.elim|_::_,[],h=>h.elim|z::es,e::l,h=>⟨h.1,Bn hf es l h.2⟩
theorem sM(hE:aG E)(h:Full n w0 S0 s a w ν S)(ho:bG n o=true) {t:Nat} {x y z:Operand} (aK:o.op= .mapUpdate t x y z∨o.op= .insert t x y z)(ab:bo E (aj E F s o) (fun l=>K (s.fin o.dst l))):o.wp E.P a w (fun a' w'=> ∃s',K s'∧Rel n w0 S0 s' a' w') Q:=by
 (have ab:bo E (match o.dst with|none=>kG E F s.bl t (s.ev x) (s.ev y) (s.ev z)|some _=>.fail 79) (fun l=>K (s.fin o.dst l)):=by cases hd:o.dst with|none=>rcases aK with aK|aK<;>(simp only[aj,aK,hd]at ab;exact ab)|some d=>rcases aK with aK|aK<;>(simp only[aj,aK,hd]at ab;exact ab))
 (have mem: ∀u,u=x∨u=y∨u=z→lI u=true:=by intro u hu;refine az ho ?_;rcases aK with aK|aK<;>rcases hu with rfl|rfl|rfl<;>simp[aK,Op.operands]);have hx:=h.ev (mem x (.inl rfl))
 have hy:=h.ev (mem y (.inr (.inl rfl)));have hz:=h.ev (mem z (.inr (.inr rfl)));(have Kj: ∀w',(Instr.mapUpdate t (a.eval x) (a.eval y) (a.eval z)).run E.P w= .ok () w'→(execOp a.eval o).run E.P w= .ok .skip w':=by intro w' hr;rcases aK with aK|aK<;>simp only[execOp,aK,Sem.run_bind,hr,Result.andThen_ok,Sem.run_pure])
 split at ab;(·rename_i hd;simp only[kG]at ab;split at ab;(·rename_i A B kt hT hkt;split at ab;(·rename_i id bN;split at ab;(·rename_i A' B' zs hl;obtain⟨hl,_⟩:=cy hl;split at ab;(·rename_i es k v kP hk nn Ie nT Uj hr4 hv;obtain⟨e',mn⟩:=Ty.bw kP;injection e' with e1 e2;subst e1;subst e2;simp only at mn;subst mn;obtain⟨hlen,hK⟩:=ab;obtain⟨k',ve,hu,hTA,hTB,N0,EB,Ui,Kh⟩:=ya hE hT;have hkk:=Kg hE hkt hu;subst hkk;obtain⟨hp,NZ,UM,_⟩:=nj nn;have uc:=h.key nn hk hy ⟨S,aL w0 S0⟩;have hvv:de _ v w ⟨S,aL w0 S0⟩ (a.eval z):=h.OB Kh Uj hr4 hv hz;rw[bN]at hx;simp only[ag]at hx;obtain⟨_,mw,_⟩:=hx;obtain⟨cZ,se,h0,r,ax,clock,h1,h2,h3,h4,h5,h6,h7⟩:=h.W.cv _ _ hl;simp only[Full.c]at mw;simp only at h1 h2 h3 h4;have hl7:=nm (w:=w) (M:=⟨S,aL w0 S0⟩) zs ax.toList (by simpa using h6) (by simpa using h7);obtain⟨res,iT,dI⟩:=sJ hE (V:=B') hTA nn uc zs ax.toList hl7;have Ki: ∀em,(Instr.checkKey em 10000 kt (a.eval y)).run E.P w= .ok () w:=fun em=>pY hE 9999 _ kt k _ hTA NZ uc (by omega) em;(have jW:aE (ν id)=some r:=by rw[h1];rfl);(have hf: ∀bb:Nat,∃ca cb,(⟨a.eval y,a.eval z,bb⟩:MapEntry).key=valOf A' ca∧aH A' k w ⟨S,aL w0 S0⟩ ca∧(⟨a.eval y,a.eval z,bb⟩:MapEntry).val=valOf B' cb∧aH B' v w ⟨S,aL w0 S0⟩ cb:=fun bb=>by obtain⟨g1,g2⟩:=Bl N0 uc;obtain⟨g3,g4⟩:=Bl EB hvv;exact⟨_,_,g1,g2,g3,g4⟩);(have fin: ∀(ee:Array MapEntry)(dE:Nat),(Instr.mapUpdate t (a.eval x) (a.eval y) (a.eval z)).run E.P w= .ok () { w with heap:=w.heap.setIfInBounds r (.map ee dE) } →og ee dE→nk w ⟨S,aL w0 S0⟩ A' B' (cO (gv A') zs k v) ee.toList→o.wp E.P a w (fun a' w'=> ∃s',K s'∧Rel n w0 S0 s' a' w') Q:=by intro ee dE aU ja jM;refine kL (Kj _ aU) ⟨_,hK,?_⟩;rw[hd];have qY:=lM w r (.map ee dE);have hS: ∀b,S b→({ w with heap:=w.heap.setIfInBounds r (.map ee dE) } :World).heap[b]?=w.heap[b]?:=fun b hb=>qY.block b (h.W.lt b hb) (fun e=>by injection e with e;subst e;exact h3 hb);have Ba:({ w with heap:=w.heap.setIfInBounds r (.map ee dE) } :World).heap[r]?=some (.map ee dE):=(MapKept.heap_set h4).1;have a24:=Bm (M:=⟨S,aL w0 S0⟩) (M':=⟨S,aL w0 S0⟩) cZ se hS (fun _ h=>h) _ _ jM;refine(h.upd (b':=.mp A' B' (cO (gv A') zs k v)) hl (by rw[jW];exact qY) ?_).rel;exact⟨cZ,se,hlen,r,ee,dE,h1,h2,h3,Ba,ja,by simpa using sK _ _ a24,fun i yy Ir=>by simpa using sL _ _ a24 i yy Ir⟩);cases hm:gq (gv A') zs k with|none=>simp only[gM,hm]at dI;subst dI;refine fin (ax.push ⟨a.eval y,a.eval z,clock⟩) (clock+1) ?_ ?_ ?_;(·rw[mw,h1];simp[Instr.mapUpdate,run_underlying hu,MapKept.run_getObj_map h4,Ki,iT,MapKept.run_setObj_map _ h4]);(·obtain⟨hc,hb⟩:=h5;subst hc;refine⟨by simp,fun i e hi=>?_⟩;rw[Array.getElem?_push]at hi;split at hi;(·rename_i uA;injection hi with hi;subst hi;exact uA.symm);·exact hb i e hi);(·rw[my,hm];simp only[Array.toList_push];exact Bn (hf clock) zs ax.toList hl7)|some j=>simp only[gM,hm]at dI;obtain⟨e,he,rfl⟩:=dI;obtain⟨yy,Ir,heq⟩:=sG _ _ _ _ hm;have heq:=(wV _ _ _ hp).1 heq;(have wE:ax[j]?=some e:=by simpa using he);obtain⟨e2,ca,cb,g1,g2,g3,g4,g5⟩:=sL zs ax.toList hl7 j yy Ir;rw[he]at g1;injection g1 with g1;subst g1;(have au3:e.key=a.eval y:=by refine Ml (M:=⟨S,aL w0 S0⟩) (w:=w) hp N0 (x:=yy.1) (y:=k) ?_ uc heq.symm;rw[g2];exact kT N0 g3);refine fin (ax.modify j fun e=> { e with key:=a.eval y,val:=a.eval z }) clock ?_ ?_ ?_;(·rw[mw,h1];simp[Instr.mapUpdate,run_underlying hu,MapKept.run_getObj_map h4,Ki,iT,wE,au3,sF hp N0 uc,MapKept.run_setObj_map _ h4]);(·obtain⟨hc,hb⟩:=h5;refine⟨by simpa using hc,fun i e2 hi=>?_⟩;rw[Array.getElem?_modify]at hi;split at hi;(·rename_i fi;subst fi;rw[wE]at hi;simp only[Option.map_some,Option.some.injEq]at hi;subst hi;exact hb _ e wE);·exact hb i e2 hi);·rw[my,hm];(have Mn:(ax.modify j fun e=> { e with key:=a.eval y,val:=a.eval z }).toList=ax.toList.set j ⟨a.eval y,a.eval z,e.born⟩:=by apply List.ext_getElem?;intro i;rw[Array.getElem?_toList,Array.getElem?_modify,List.getElem?_set];by_cases fi:j=i;(·subst fi;have L4:j<ax.toList.length:=(List.getElem?_eq_some_iff.1 he).1;rw[wE,if_pos rfl,if_pos rfl,if_pos L4];rfl);·simp[fi]);rw[Mn];exact Ff (hf e.born) zs ax.toList j hl7);·exact ab.elim);·exact ab.elim);·exact ab.elim);·exact ab.elim)
 ·exact ab.elim
end
end Go.Proofs.YtgpkijnphchkpaaGreat
namespace Go.Proofs.YtgpkijnphchkpaaGreat
variable {dM:Prop} [jN dM]
open Go.RowKit
section
variable {E:Env} {n:Nat} {w0:World} {S0:Cx} {s:St} {a:Act} {w:World} {ν:Nat→Value} {S:Nat→Prop} {F:dw} {o:Oper} {K:St→Prop} {Q:Exit→Act→World→Prop}
theorem Is(s:ByteArray)(i:Nat):(Utf8.decode s i).1≤1114111:=by
 (have hv: ∀c:Nat,Utf8.valid (c:Int)=true→c≤1114111:=by intro c h;unfold Utf8.valid at h;simp only[Bool.or_eq_true,Bool.and_eq_true,decide_eq_true_eq]at h;omega)
 unfold Utf8.decode;simp only;split;(·simp only;omega);·split;(·split;(·simp only;omega);·simp only[Utf8.runeError];omega);·split;(·split;(·rename_i h;simp only[Bool.and_eq_true]at h;exact hv _ h.2);·simp only[Utf8.runeError];omega);·split;(·split;(·rename_i h;simp only[Bool.and_eq_true]at h;exact hv _ h.2);·simp only[Utf8.runeError];omega);·simp only[Utf8.runeError];omega
theorem Full.an4(h:Full n w0 S0 s a w ν S) {d:Nat} (hd:d<n)(hl:look d s.bl=none) {ob:Obj} {b:aO} (hb: ∀c:Ctx,c.ν d= .pointer (some ⟨w.heap.size,0,none⟩)→c.M.O w.heap.size→ ¬c.M.S w.heap.size→c.w.heap[w.heap.size]?=some ob→Ctx.Le h.c c→lB c d b):Rel n w0 S0 ⟨(d,.ref d 0)::s.sl,(d,b)::s.bl⟩ (a.put (some d) (.pointer (some ⟨w.heap.size,0,none⟩))) (w.alloc ob):=by
 have hh:(w.alloc ob).heap[w.heap.size]?=some ob:=_root_.Go.heap_alloc_new w _;refine(h.new (b:=b) (p:=.ref d 0) (v:=.pointer (some ⟨w.heap.size,0,none⟩)) (val:=.pointer (some ⟨w.heap.size,0,none⟩)) hd hl (dt w _ none) (fun g hg=>h.beyond (by injection hg with hg;simp only at hg;omega)) ?_ ?_).rel
 (·refine hb _ (by simp) (h.W.size _ (Nat.le_refl _)) (fun hS=>absurd (h.W.lt _ hS) (by simp)) hh ⟨fun g hg=>?_,fun _ h=>h,fun i hi=>?_,fun i hi=>?_⟩;(·exact(dt w ob none).block g (h.W.lt g hg) (by simp));(·obtain⟨c,hc⟩:=hi;(have bW:i≠d:=by rintro rfl;rw[hl]at hc;cases hc);exact⟨c,by rw[aC _ _ bW];exact hc⟩);·obtain⟨c,hc⟩:=hi;(have bW:i≠d:=by rintro rfl;rw[hl]at hc;cases hc);simp[Full.c,bW])
 ·simp only[ag];exact⟨⟨_,aM _ _ _⟩,w.heap.size,by simp,rfl⟩
theorem O1(hE:aG E)(h:Full n w0 S0 s a w ν S)(ho:bG n o=true) {t:Nat} {x:Operand} (aK:o.op= .range t x)(ab:bo E (aj E F s o) (fun l=>K (s.fin o.dst l))):o.wp E.P a w (fun a' w'=> ∃s',K s'∧Rel n w0 S0 s' a' w') Q:=by
 simp only[aj,aK]at ab;have hx:=h.ev (az ho (x:=x) (by simp[aK,Op.operands]));split at ab;(·rename_i d hd;split at ab;(·rename_i hl;have N1:=bm ho d hd;simp only[HV]at ab;split at ab;(·rename_i hT;obtain⟨dd,hu,hs⟩:=(hE.facts hT).qw;(have od:dd= .string:=by cases dd<;>first|rfl|cases hs);subst od;split at ab;(·rename_i y bN;rw[bN]at hx;obtain⟨hv,hlen⟩:=ec hx;simp only[bo,St.fin,hd]at ab;(have hr:(execOp a.eval o).run E.P w= .ok (.value (.pointer (some ⟨w.heap.size,0,none⟩))) (w.alloc (.stringIter ⟨y.toArray⟩ 0)):=by simp only[execOp,aK,Instr.range,hv,Sem.run_bind,run_underlying hu,Result.andThen_ok,Sem.run_pure];rfl);refine cU hr ⟨_,ab,?_⟩;rw[hd];exact h.an4 N1 hl fun c h1 h2 h3 h4 _=>⟨_,h1,h2,h3,h4,hlen⟩);·exact ab.elim);(·rename_i A B hT;obtain⟨k,v,hu,_,_,_,_,Ui,Kh⟩:=ya hE hT;split at ab;(·rename_i es hes;have wJ:=h.entries hes hx;(have go: ∀(src:PV),ag h.c src (a.eval x)→K ⟨(d,.ref d 0)::s.sl,(d,.it [src] es.length [])::s.bl⟩→o.wp E.P a w (fun a' w'=> ∃s',K s'∧Rel n w0 S0 s' a' w') Q:=by intro src kR hK;(obtain⟨m,hm,hr⟩: ∃m:Option Nat,a.eval x= .map m∧(execOp a.eval o).run E.P w= .ok (.value (.pointer (some ⟨w.heap.size,0,none⟩))) (w.alloc (.mapIter m es.length #[] es.length)):=by rcases wJ with⟨hv,rfl⟩|⟨r,ax,clock,hv,hh,hb,hs,_⟩;(·refine⟨none,hv,?_⟩;simp only[execOp,aK,Instr.range,hv,Sem.run_bind,run_underlying hu,Result.andThen_ok,Sem.run_pure];rfl);·refine⟨some r,hv,?_⟩;have hc:clock=es.length:=hb.1.trans hs;subst hc;simp only[execOp,aK,Instr.range,hv,Sem.run_bind,run_underlying hu,MapKept.run_getObj_map hh,Result.andThen_ok,Sem.run_pure];rfl);refine cU hr ⟨_,hK,?_⟩;rw[hd];refine h.an4 N1 hl fun c h1 h2 h3 h4 hle=>⟨_,m,h1,h2,h3,h4,?_⟩;simp only[ai];exact⟨_,[],rfl,eG hle (by rw[←hm];exact kR),rfl⟩);split at ab;(·rename_i K' V' y bN;simp only[bo,St.fin,hd]at ab;exact go _ (by rw[←bN];exact hx) ab);(·rename_i id bN;simp only[bo,St.fin,hd]at ab;exact go _ (by rw[←bN];exact hx) ab);(·rename_i bN;simp only[bo,St.fin,hd]at ab;rw[bN]at hx;simp only[ag]at hx;refine go _ ?_ ab;rw[hx];exact⟨by simp only[aR];omega,Nat.zero_le _,.inl ⟨rfl,rfl⟩⟩);·exact ab.elim);·exact ab.elim);·exact ab.elim);·exact ab.elim)
 ·exact ab.elim
theorem Full.behind(h:Full n w0 S0 s a w ν S) {src:List PV} {m:Option Nat} {A B:Ty} {es:List (A.den×B.den)} (hx:mh E F s.bl src=some ⟨A,B,es⟩)(hp:ai h.c src [.map m]):aR A=0∧aR B=0∧A.val=true∧B.val=true∧((m=none∧es=[])∨ ∃(r:Nat)(ax:Array MapEntry)(clock:Nat),m=some r∧w.heap[r]?=some (.map ax clock)∧og ax clock∧nk w ⟨S,aL w0 S0⟩ A B es ax.toList):=by
 unfold mh at hx;split at hx;(·rename_i K' V' ys;split at hx;(case h_2=>cases hx);rename_i hvK hvV;injection hx with hx;injection hx with e1 e2;subst e1;have e2:=eq_of_heq e2;injection e2 with e2 e3;subst e2;have e3:=eq_of_heq e3;subst e3;simp only[ai,ag]at hp;obtain⟨v,r,hv,⟨ho,hr⟩,_⟩:=hp;injection hv with hv;subst hv;simp only[aR]at ho;refine⟨by omega,by omega,hvK,hvV,?_⟩;have hr:aH (.mp K' V') ys w ⟨S,aL w0 S0⟩ [.map m]:=hr;rcases hr.2 with⟨hv,he⟩|⟨r,ax,clock,hv,hS,hh,hb,hs,hr⟩;(·injection hv with hv;injection hv with hv;exact .inl ⟨hv,he⟩);·injection hv with hv;injection hv with hv;exact .inr ⟨r,ax,clock,hv,hh,hb,nm _ _ (by simpa using hs) (by simpa using hr)⟩)
 (·rename_i id;split at hx;(·rename_i K' V' ys hl;obtain⟨hl,_⟩:=cy hl;split at hx;(case h_2=>cases hx);rename_i hvK hvV;injection hx with hx;injection hx with e1 e2;subst e1;have e2:=eq_of_heq e2;injection e2 with e2 e3;subst e2;have e3:=eq_of_heq e3;subst e3;simp only[ai,ag]at hp;obtain⟨v,r,hv,⟨_,cG,_⟩,_⟩:=hp;injection hv with hv;subst hv;obtain⟨cZ,se,h0,r,ax,clock,h1,h2,h3,h4,h5,h6,h7⟩:=h.W.cv _ _ hl;refine⟨cZ,se,hvK,hvV,.inr ⟨r,ax,clock,?_,h4,h5,nm _ _ (by simpa using h6) (by simpa using h7)⟩⟩;simp only[Full.c]at cG;simp only at h1;rw[h1]at cG;injection cG);·cases hx)
 ·cases hx
theorem UU(hE:aG E)(h:Full n w0 S0 s a w ν S)(ho:bG n o=true) {x:Operand} {isS:Bool} (aK:o.op= .next x isS)(ab:bo E (aj E F s o) (fun l=>K (s.fin o.dst l))):o.wp E.P a w (fun a' w'=> ∃s',K s'∧Rel n w0 S0 s' a' w') Q:=by
 simp only[aj,aK,On]at ab;have hx:=h.ev (az ho (x:=x) (by simp[aK,Op.operands]));split at ab;(·rename_i id bN;rw[bN]at hx;simp only[ag]at hx;obtain⟨_,g,hg,hv⟩:=hx;simp only[Full.c]at hg;(have upd: ∀ {b b':aO} {w':World} {p:PV} {v:Value},look id s.bl=some b→eF w w' (some g)→lB ⟨ν,s.D,w',⟨S,aL w0 S0⟩⟩ id b'→ag ⟨ν,s.D,w',⟨S,aL w0 S0⟩⟩ p v→K (s.fin o.dst (.upd id b' p))→(execOp a.eval o).run E.P w= .ok (.value v) w'→o.wp E.P a w (fun a' w'=> ∃s',K s'∧Rel n w0 S0 s' a' w') Q:=by intro b b' w' p v hl hw hb hp hK aU;refine cU aU ⟨_,hK,?_⟩;have hu:=h.upd (b':=b') hl (by rw[hg];exact hw) hb;(have hD:(⟨s.sl,(id,b')::s.bl⟩:St).D=s.D:=by funext i;refine propext ⟨fun⟨c,hc⟩=>?_,fun⟨c,hc⟩=>?_⟩;(·by_cases hi:i=id;(·subst hi;exact⟨b,hl⟩);·rw[aC _ _ hi]at hc;exact⟨c,hc⟩);·by_cases hi:i=id;(·subst hi;exact⟨b',aM _ _ _⟩);·exact⟨c,by rw[aC _ _ hi];exact hc⟩);have Ma:=hu.put (p:=p) (v:=v) (bm ho) (by simp only[Full.c,hD];exact hp);(have jE:s.fin o.dst (.upd id b' p)=(⟨s.sl,(id,b')::s.bl⟩:St).put o.dst p:=by simp only[St.fin];cases o.dst<;>rfl);rw[jE];exact Ma.rel);(have au4:(Instr.next (a.eval x) isS o.type).run E.P w= .ok (.tuple #[.bool false]) w→K (s.fin o.dst (.val (.bn [.iv .bool false])))→o.wp E.P a w (fun a' w'=> ∃s',K s'∧Rel n w0 S0 s' a' w') Q:=by intro hr hK;refine h.val ho (v:=.tuple #[.bool false]) ?_ ?_ hK;(·simp only[execOp,aK,Sem.run_bind,hr,Result.andThen_ok,Sem.run_pure]);·exact ix (vs:=[.bool false]) (by simp only[ai];exact⟨_,[],rfl,bK,rfl⟩));(have exec: ∀v w',(Instr.next (a.eval x) isS o.type).run E.P w= .ok v w'→(execOp a.eval o).run E.P w= .ok (.value v) w':=fun v w' hr=>by simp only[execOp,aK,Sem.run_bind,hr,Result.andThen_ok,Sem.run_pure]);split at ab;(·rename_i y pos hl;obtain⟨hl,_⟩:=cy hl;obtain⟨g',h1,h2,h3,h4,h5⟩:=h.W.cv _ _ hl;simp only at h1 h2 h3 h4;rw[hg]at h1;(obtain rfl:g=g':=by injection h1 with e1;injection e1 with e1;injection e1);split at ab;(·obtain⟨ho1,OU⟩:=ab;(have cY:(⟨y.toArray⟩:ByteArray).size=y.length:=by simp[ByteArray.size]);(have It: ∀o',(setObj g o').run E.P w= .ok () { w with heap:=w.heap.setIfInBounds g o' } :=fun o'=>by simp[setObj,Sem.run,h4]);by_cases hp:pos<y.length;(·have hK:=ho1 hp;have hd:=Is ⟨y.toArray⟩ pos;refine upd hl (lM w g (.stringIter ⟨y.toArray⟩ (pos+(Utf8.decode ⟨y.toArray⟩ pos).2))) ?_ ?_ hK (exec (.tuple #[.bool true,.int .i64 (pos:Int),.int .i32 ((Utf8.decode ⟨y.toArray⟩ pos).1:Int)]) _ ?_);(·exact⟨g,hg,h2,h3,(MapKept.heap_set h4).1,h5⟩);(·refine ix (vs:=[.bool true,.int .i64 (pos:Int),.int .i32 ((Utf8.decode ⟨y.toArray⟩ pos).1:Int)]) ?_;simp only[ai];exact⟨_,_,rfl,bK,_,_,rfl,bT (by show(-9223372036854775808:Int)≤_∧_≤(9223372036854775807:Int);omega),_,_,rfl,bT (by show(-2147483648:Int)≤_∧_≤(2147483647:Int);omega),rfl⟩);·simp only[hv,Instr.next,Sem.run_bind];rw[show(getObj g).run E.P w= .ok (.stringIter ⟨y.toArray⟩ pos) w from by simp[getObj,Sem.run,h4]];simp only[Result.andThen_ok,cY,hp,if_true,Sem.run_bind,It,Sem.run_pure];rfl);·refine au4 ?_ (OU (by omega));simp only[hv,Instr.next,Sem.run_bind];rw[show(getObj g).run E.P w= .ok (.stringIter ⟨y.toArray⟩ pos) w from by simp[getObj,Sem.run,h4]];simp only[Result.andThen_ok,cY,hp,if_false,Sem.run_pure]);·exact ab.elim);(·rename_i src since seen hl;obtain⟨hl,_⟩:=cy hl;obtain⟨g',m,h1,h2,h3,h4,h6⟩:=h.W.cv _ _ hl;simp only at h1 h2 h3 h4;rw[hg]at h1;(obtain rfl:g=g':=by injection h1 with e1;injection e1 with e1;injection e1);split at ab;(·rename_i A B es hes;obtain⟨O2,ho1,OU⟩:=ab;obtain⟨Ui,Kh,N0,EB,dj⟩:=h.behind hes h6;rcases dj with⟨rfl,rfl⟩|⟨r,ax,clock,rfl,hh,hb,hr⟩;(·refine au4 ?_ (OU (fun i hi=>by simp at hi));simp only[hv,Instr.next,Sem.run_bind];rw[show(getObj g).run E.P w= .ok (.mapIter none since seen.toArray since) w from by simp[getObj,Sem.run,h4]];simp only[Result.andThen_ok,Sem.run_pure]);·have hlen:=sK _ _ hr;(have cY:ax.size=es.length:=by simpa using hlen);obtain⟨au5,yb⟩:=hb;(have hold: ∀y,y∈ax.toList→y.born<since:=fun y hy=>by obtain⟨i,hi⟩:=List.getElem?_of_mem hy;(have uj:ax[i]?=some y:=by simpa using hi);rw[yb i y uj,←O2,←cY];exact(Array.getElem?_eq_some_iff.1 uj).1);(have an5: ∀y,y∈(leftOf ax seen.toArray).toList↔ ∃i,ax[i]?=some y∧i∉seen:=by intro y;unfold leftOf;simp only[Array.toList_filter,List.mem_filter,Array.mem_toList_iff];constructor;(·rintro⟨h1,h2⟩;obtain⟨i,hi⟩:=Array.getElem?_of_mem h1;refine⟨i,hi,?_⟩;rw[←yb i y hi];simpa using h2);·rintro⟨i,hi,hn⟩;refine⟨Array.mem_of_getElem? hi,?_⟩;rw[yb i y hi];simpa using hn);rcases run_next_at (P:=E.P) w o.type g r since since seen.toArray ax clock h4 hh hold (Nat.le_refl _)with⟨h0,aU⟩|⟨e,he,w1,O3,aU⟩;(·refine au4 (by rw[hv];exact aU) (OU fun i hi=>?_);by_cases iN:i∈seen;(·exact iN);·exfalso;(have uA:i<ax.size:=by omega);have:=(an5 ax[i]).2 ⟨i,by simp,iN⟩;have AD:(leftOf ax seen.toArray).toList=[]:=List.eq_nil_of_length_eq_zero (by simpa using h0);rw[AD]at this;cases this);·obtain⟨i,hi,iN⟩:=(an5 e).1 he;(have uA:i<es.length:=by rw[←cY];exact(Array.getElem?_eq_some_iff.1 hi).1);obtain⟨yy,Ir⟩: ∃yy,es[i]?=some yy:=⟨_,List.getElem?_eq_getElem uA⟩;have hK:=ho1 i ⟨uA,iN⟩ yy Ir;obtain⟨e2,ca,cb,g1,g2,g3,g4,g5⟩:=sL es ax.toList hr i yy Ir;(have uj:ax.toList[i]?=some e:=by simpa using hi);rw[uj]at g1;injection g1 with g1;subst g1;have Uk:=yb i e hi;(have qY:eF w (ChangeMaps.setBlock w1 g (.mapIter (some r) since (seen.toArray.push e.born) clock)) (some g):=by rcases O3 with rfl|rfl;(·exact lM _ g _);·refine⟨rfl,rfl,rfl,by simp[ChangeMaps.setBlock],fun k _ hk=>?_,fun _=>?_⟩;(·have hkr:g≠k:=fun e=>hk (by rw[e]);show(w.drew.heap.setIfInBounds g _)[k]?=w.heap[k]?;rw[Array.getElem?_setIfInBounds_ne hkr];rfl);·exact Nat.le_succ _);have hSg: ∀b,S b→(ChangeMaps.setBlock w1 g (.mapIter (some r) since (seen.toArray.push e.born) clock)).heap[b]?=w.heap[b]?:=fun b hb=>qY.block b (h.W.lt b hb) (fun e=>by injection e with e;subst e;exact h3 hb);have au6:Ctx.Le ⟨ν,s.D,w,⟨S,aL w0 S0⟩⟩ ⟨ν,s.D,ChangeMaps.setBlock w1 g (.mapIter (some r) since (seen.toArray.push e.born) clock),⟨S,aL w0 S0⟩⟩:=⟨hSg,fun _ h=>h,fun _ h=>h,fun _ _=>rfl⟩;(have hg1:w1.heap[g]?=some (.mapIter (some r) since seen.toArray since):=by rcases O3 with rfl|rfl<;>exact h4);(have Ew:clock=since:=by omega);refine upd hl qY ?_ ?_ hK (exec _ _ (by rw[hv];exact aU));(·refine⟨g,some r,hg,h2,h3,?_,bJ au6 h6⟩;have:=(MapKept.heap_set (o':=Obj.mapIter (some r) since (seen.toArray.push e.born) clock) hg1).1;rw[Uk,Ew]at this⊢;simpa[ChangeMaps.setBlock]using this);·have hk:ag h.c (.iv A yy.1) e.key:=bP Ui (by rw[g2];exact kT N0 g3) N0;have hvv:ag h.c (.iv B yy.2) e.val:=bP Kh (by rw[g4];exact kT EB g5) EB;refine ix (vs:=[.bool true,e.key,e.val]) ?_;simp only[ai];exact⟨_,_,rfl,bK,_,_,rfl,eG au6 hk,_,_,rfl,eG au6 hvv,rfl⟩);·exact ab.elim);·exact ab.elim)
 ·exact ab.elim
theorem O4(hE:aG E)(h:Full n w0 S0 s a w ν S)(ho:bG n o=true) {x:Operand} (aK:o.op= .entry x)(ab:bo E (aj E F s o) (fun l=>K (s.fin o.dst l))):o.wp E.P a w (fun a' w'=> ∃s',K s'∧Rel n w0 S0 s' a' w') Q:=by
 simp only[aj,aK,HW]at ab;have hx:=h.ev (az ho (x:=x) (by simp[aK,Op.operands]));split at ab;(·rename_i id bN;rw[bN]at hx;simp only[ag]at hx;obtain⟨_,g,hg,hv⟩:=hx;simp only[Full.c]at hg;split at ab;(·rename_i src since seen hl;obtain⟨hl,_⟩:=cy hl;obtain⟨g',m,h1,h2,h3,h4,h6⟩:=h.W.cv _ _ hl;simp only at h1 h2 h3 h4;rw[hg]at h1;(obtain rfl:g=g':=by injection h1 with e1;injection e1 with e1;injection e1);split at ab;(·rename_i A B es hes;obtain⟨O2,yy,⟨i,a25,Ir⟩,hK⟩:=ab;obtain⟨Ui,Kh,N0,EB,dj⟩:=h.behind hes h6;rcases dj with⟨_,rfl⟩|⟨r,ax,clock,rfl,hh,hb,hr⟩;(·simp at Ir);·obtain⟨ss,hss⟩: ∃ss,seen=ss++ [i]:=List.getLast?_eq_some_iff.1 a25;have hlen:=sK _ _ hr;(have cY:ax.size=es.length:=by simpa using hlen);obtain⟨au5,yb⟩:=hb;obtain⟨e,ca,cb,g1,g2,g3,g4,g5⟩:=sL es ax.toList hr i yy Ir;(have hi:ax[i]?=some e:=by simpa using g1);have Uk:=yb i e hi;(have Ew:since=clock:=by omega);(have cH:(ax.toList.map (·.born)).Nodup:=by(have:ax.toList.map (·.born)=List.range ax.size:=by apply List.ext_getElem;(·simp);·intro j h1 h2;simp only[List.getElem_map,List.getElem_range,Array.getElem_toList];exact yb j _ (Array.getElem?_eq_getElem (by simpa using h1)));rw[this];exact List.nodup_range);(have h4':w.heap[g]?=some (.mapIter (some r) since (ss.toArray.push e.born) clock):=by rw[h4,hss,Uk,←Ew];simp);have aU:=run_entry_at (P:=E.P) w g r since ss.toArray ax clock e h4' hh (Array.mem_toList_iff.2 (Array.mem_of_getElem? hi)) cH;refine h.val ho (v:=.tuple #[e.key,e.val]) ?_ ?_ hK;(·simp only[execOp,aK,hv,Sem.run_bind,aU,Result.andThen_ok,Sem.run_pure]);·have hk:ag h.c (.iv A yy.1) e.key:=bP Ui (by rw[g2];exact kT N0 g3) N0;have hvv:ag h.c (.iv B yy.2) e.val:=bP Kh (by rw[g4];exact kT EB g5) EB;exact ix (ko hk hvv));·exact ab.elim);·exact ab.elim)
 ·exact ab.elim
end
end Go.Proofs.YtgpkijnphchkpaaGreat
namespace Go.Proofs.YtgpkijnphchkpaaGreat
variable {dM:Prop} [jN dM]
open Go.RowKit
structure Ctx.Ul(ks:List Nat)(ρ:Nat→Nat)(c c':Ctx):Prop where
 heap: ∀b,c.M.S b→c'.w.heap[b]?=c.w.heap[b]?
 S: ∀b,c.M.S b→c'.M.S b
 D: ∀i,ak i ks=true→c.D i→c'.D (ρ i)
 ν: ∀i,ak i ks=true→c.D i→c'.ν (ρ i)=c.ν i
mutual theorem iy {ks:List Nat} {ρ:Nat→Nat} {c c':Ctx} (hc:c.Ul ks ρ c'): ∀ {p:PV} {v:Value},PV.nQ ks p=true→ag c p v→ag c' (p.dV ρ) v|.iv T x,v,_,h=>(by simp only[PV.dV,ag]at h⊢;exact⟨h.1,gW hc.heap hc.S h.1 h.2⟩)|.ref id off,v,hi,h=>(by simp only[PV.dV,ag]at h⊢;obtain⟨hd,g,h1,h2⟩:=h;exact⟨hc.D _ hi hd,g,by rw[hc.ν _ hi hd];exact h1,h2⟩)|.dL T x off,v,_,h=>(by simp only[PV.dV,ag]at h⊢;obtain⟨ho,g,o,cs,h1,h2,h3,h4,h5⟩:=h;exact⟨ho,g,o,cs,h1,hc.S _ h2,h3,h4.mono (hc.heap _ h2),aB hc.heap hc.S _ _ _ ho h5⟩)|.aF id,v,hi,h=>(by simp only[PV.dV,ag]at h⊢;exact⟨hc.D _ hi h.1,by rw[hc.ν _ hi h.1];exact h.2.1,h.2.2⟩)|.lmap id,v,hi,h=>(by simp only[PV.dV,ag]at h⊢;exact⟨hc.D _ hi h.1,by rw[hc.ν _ hi h.1];exact h.2.1,h.2.2⟩)|.jx id sz off len,v,hi,h=>(by simp only[PV.dV,ag]at h⊢;obtain⟨hd,a,n,cap,b,h1,h2⟩:=h;exact⟨hc.D _ hi hd,a,n,cap,b,by rw[hc.ν _ hi hd];exact h1,h2⟩)|.gm id sz i off,v,hi,h=>(by simp only[PV.dV,ag]at h⊢;obtain⟨hd,g,o,n,cap,h1,h2⟩:=h;exact⟨hc.D _ hi hd,g,o,n,cap,by rw[hc.ν _ hi hd];exact h1,h2⟩)|.agg cs,v,hi,h=>(by simp only[PV.dV,ag]at h⊢;obtain⟨vs,h1,h0,h2⟩:=h;exact⟨vs,h1,h0,di hc hi h2⟩)|.bn cs,v,hi,h=>(by simp only[PV.dV,ag]at h⊢;obtain⟨vs,h1,h2⟩:=h;exact⟨vs,h1,di hc hi h2⟩)|.bF,v,_,h=>(by simp only[PV.dV,ag]at h⊢;exact h)|.cX,v,_,h=>(by simp only[PV.dV,ag]at h⊢;exact h)|.dG,v,_,h=>(by simp only[PV.dV,ag]at h⊢;exact h)|.iY i base T n j,v,hi,h=>(by simp only[PV.dV,ag]at h⊢;obtain⟨hd,h0,hn,g,h1,h2⟩:=h;exact⟨hc.D _ hi hd,h0,hn,g,by rw[hc.ν _ hi hd];exact h1,h2⟩)|.wB f cs,v,hi,h=>(by simp only[PV.dV,ag]at h⊢;obtain⟨vs,h1,h2⟩:=h;exact⟨vs,h1,di hc hi h2⟩)|.oh f cs,v,hi,h=>(by simp only[PV.dV,ag]at h⊢;obtain⟨vs,h1,h2⟩:=h;exact⟨vs,h1,di hc hi h2⟩)|.cH hk id,v,hi,h=>(by simp only[PV.dV,ag]at h⊢;obtain⟨hd,g,h1,h2⟩:=h;exact⟨hc.D _ hi hd,g,by rw[hc.ν _ hi hd];exact h1,h2⟩)|.clip T xs,v,_,h=>(by simp only[PV.dV,ag]at h⊢;exact⟨h.1,h.2.1,aB hc.heap hc.S (.sl T) _ _ h.1 h.2.2⟩)|.fn f cs,v,hi,h=>(by simp only[PV.dV,ag]at h⊢;obtain⟨vs,h1,h2⟩:=h;exact⟨vs,h1,di hc hi h2⟩)|.any,v,_,h=>by simp only[PV.dV,ag]theorem di {ks:List Nat} {ρ:Nat→Nat} {c c':Ctx} (hc:c.Ul ks ρ c'): ∀ {ps:List PV} {vs:List Value},PV.dX ks ps=true→ai c ps vs→ai c' (PV.dD ρ ps) vs|[],vs,_,h=>(by simp only[PV.dD,ai]at h⊢;exact h)|p::ps,vs,hi,h=>by simp only[PV.dX,Bool.and_eq_true]at hi;simp only[PV.dD,ai]at h⊢;obtain⟨v,r,h1,h2,h3⟩:=h;exact⟨v,r,h1,iy hc hi.1 h2,di hc hi.2 h3⟩end
def fE(ks:List Nat):aO→Bool|.box cs _=>PV.dX ks cs|.it cs _ _=>PV.dX ks cs|.gh _ cs=>PV.dX ks cs|_=>true
theorem gG {c:Ctx} {i:Nat} {b:aO} (h:lB c i b) {g:Nat} (hg:aE (c.ν i)=some g):c.M.O g∧ ¬c.M.S g∧g<c.w.heap.size:=by
 cases b with|box cs te=>obtain⟨_,g',vs,e,h1,h2,h3,h4,_⟩:=h;rw[h1]at hg;injection hg with hg;simp only at hg;subst hg;exact⟨h2,h3,(Array.getElem?_eq_some_iff.1 h4).1⟩|arr T xs te=>obtain⟨_,ho,v,hv,_,h2⟩:=h;injection hv with hv;rw[hv]at hg;rcases h2 with⟨rfl,_⟩|⟨g',o,cap,cur,e,rfl,h3,h4,h5,h6,h7,_⟩;(·cases hg);(·injection hg with hg;simp only at hg;subst hg;exact⟨h6,h5,(Array.getElem?_eq_some_iff.1 h7).1⟩)|mp K V es=>obtain⟨_,_,_,r,ax,clock,h1,h2,h3,h4,_⟩:=h;rw[h1]at hg;injection hg with hg;subst hg;exact⟨h2,h3,(Array.getElem?_eq_some_iff.1 h4).1⟩|it src since seen=>obtain⟨g',m,h1,h2,h3,h4,_⟩:=h;rw[h1]at hg;injection hg with hg;simp only at hg;subst hg;exact⟨h2,h3,(Array.getElem?_eq_some_iff.1 h4).1⟩|xA x pos=>obtain⟨g',h1,h2,h3,h4,_⟩:=h;rw[h1]at hg;injection hg with hg;simp only at hg;subst hg;exact⟨h2,h3,(Array.getElem?_eq_some_iff.1 h4).1⟩|gh o cs=>obtain⟨g',vs,h1,h2,h3,h4,_⟩:=h;rw[h1]at hg;injection hg with hg;simp only at hg;subst hg;exact⟨h2,h3,(Array.getElem?_eq_some_iff.1 h4).1⟩
theorem oR {ks:List Nat} {ρ:Nat→Nat} {c c':Ctx} (hc:c.Ul ks ρ c') {i:Nat} {b:aO} (hi:fE ks b=true)(cG:c'.ν (ρ i)=c.ν i)(hg: ∀g,aE (c.ν i)=some g→c'.w.heap[g]?=c.w.heap[g]?∧c'.M.O g∧ ¬c'.M.S g)(h:lB c i b):lB c' (ρ i) (b.map (PV.dD ρ)):=by
 cases b with|box cs te=>obtain⟨jy,g,vs,e,h1,h2,h3,h4,h0,h5⟩:=h;obtain⟨e1,e2,e3⟩:=hg g (by rw[h1];rfl);exact⟨jy.mi cG fun g vM=>(hg g vM).1,g,vs,e,by rw[cG];exact h1,e2,e3,by rw[e1];exact h4,h0,di hc hi h5⟩|arr T xs te=>obtain⟨jy,ho,v,hv,h1,h2⟩:=h;injection hv with hv;refine⟨jy.mi cG fun g vM=>(hg g vM).1,ho,v,by rw[cG,hv],h1,?_⟩;rcases h2 with h2|⟨g,o,cap,cur,e,rfl,h3,h4,h5,h6,h7,h8,h9⟩;(·exact .inl h2);(·obtain⟨e1,e2,e3⟩:=hg g (by rw[hv];rfl);refine .inr ⟨g,o,cap,cur,e,rfl,h3,h4,e3,e2,by rw[e1];exact h7,h8,fun i y hy=>?_⟩;obtain⟨cs,hl,CJ,hr⟩:=h9 i y hy;exact⟨cs,hl,CJ.mono e1,aB hc.heap hc.S _ _ _ ho hr⟩)|mp K V es=>obtain⟨cZ,se,h0,r,ax,clock,h1,h2,h3,h4,h5,h6,h7⟩:=h;obtain⟨e1,e2,e3⟩:=hg r (by rw[h1];rfl);refine⟨cZ,se,h0,r,ax,clock,by rw[cG];exact h1,e2,e3,by rw[e1];exact h4,h5,h6,fun i y hy=>?_⟩;obtain⟨e,ca,cb,a1,a2,a3,a4,a5⟩:=h7 i y hy;exact⟨e,ca,cb,a1,a2,aB hc.heap hc.S _ _ _ cZ a3,a4,aB hc.heap hc.S _ _ _ se a5⟩|it src since seen=>obtain⟨g,m,h1,h2,h3,h4,h6⟩:=h;obtain⟨e1,e2,e3⟩:=hg g (by rw[h1];rfl);exact⟨g,m,by rw[cG];exact h1,e2,e3,by rw[e1];exact h4,di hc hi h6⟩|xA x pos=>obtain⟨g,h1,h2,h3,h4,h5⟩:=h;obtain⟨e1,e2,e3⟩:=hg g (by rw[h1];rfl);exact⟨g,by rw[cG];exact h1,e2,e3,by rw[e1];exact h4,h5⟩|gh o cs=>obtain⟨g,vs,h1,h2,h3,h4,h6⟩:=h;obtain⟨e1,e2,e3⟩:=hg g (by rw[h1];rfl);exact⟨g,vs,by rw[cG];exact h1,e2,e3,by rw[e1];exact h4,di hc hi h6⟩
/-! ### Names -/
theorem ef {i:Nat} : ∀ {l:List Nat},ak i l=true↔i∈l|[]=>(by simp[ak])|k::r=>by simp only[ak,List.mem_cons];cases hb:Nat.beq i k with|true=>simp[Nat.eq_of_beq_eq_true hb]|false=>(have bW:i≠k:=by rintro rfl;simp at hb);simp[bW,ef (l:=r)]
theorem Fg {i:Nat} : ∀ {l:List Nat} {j:Nat},j≤idxOf i l j|[],j=>Nat.le_refl _|k::r,j=>by simp only[idxOf];cases Nat.beq i k with|true=>exact Nat.le_refl _|false=>exact Nat.le_trans (Nat.le_succ j) (Fg (l:=r) (j:=j+1))
theorem Kk {i:Nat} : ∀ {l:List Nat} {j:Nat},ak i l=true→fT l (idxOf i l j-j)=i∧idxOf i l j-j<l.length|[],j,h=>(by cases h)|k::r,j,h=>by simp only[idxOf];simp only[ak]at h;cases hb:Nat.beq i k with|true=>simp only[cond_true,Nat.sub_self,fT,List.length_cons];exact⟨(Nat.eq_of_beq_eq_true hb).symm,by omega⟩|false=>simp only[hb,cond_false]at h⊢;obtain⟨h1,h2⟩:=Kk (l:=r) (j:=j+1) h;have hle:=Fg (i:=i) (l:=r) (j:=j+1);rw[show idxOf i r (j+1)-j=(idxOf i r (j+1)-(j+1))+1 from by omega];simp only[fT,List.length_cons];exact⟨h1,by omega⟩
theorem sN: ∀ {l:List Nat} {j:Nat},j<l.length→ak (fT l j) l=true|[],j,h=>(by simp at h)|x::r,0,_=>(by simp[fT,ak])|x::r,j+1,h=>by simp only[fT,ak];rw[sN (l:=r) (by simpa using h)];cases Nat.beq (fT r j) x<;>rfl
theorem Km: ∀ {l:List Nat} {j k:Nat},jS l=true→j<l.length→idxOf (fT l j) l k=k+j|[],j,k,_,h=>(by simp at h)|x::r,0,k,_,_=>(by simp[fT,idxOf])|x::r,j+1,k,hn,h=>by simp only[jS,Bool.and_eq_true,Bool.not_eq_true']at hn;(have hj:j<r.length:=by simpa using h);simp only[fT,idxOf];(have hb:Nat.beq (fT r j) x=false:=by cases hb:Nat.beq (fT r j) x with|false=>rfl|true=>have:=Nat.eq_of_beq_eq_true hb;rw[←this,sN hj]at hn;cases hn.1);rw[hb,cond_false,Km hn.2 hj];omega
theorem sP {i:Nat} {ids:List Nat} (h:ak i ids=true):P0≤fwd ids i∧fT ids (fwd ids i-P0)=i∧fwd ids i-P0<ids.length:=by
 obtain⟨h1,h2⟩:=Kk (j:=0) h;unfold fwd;rw[Nat.add_sub_cancel_left];exact⟨by omega,by simpa using h1,by simpa using h2⟩
theorem sQ {ids:List Nat} {j:Nat} (hn:jS ids=true)(hj:j<ids.length):fwd ids (fT ids j)=P0+j:=by unfold fwd;rw[Km hn hj];omega
theorem lN {ids:List Nat} {bl:List (Nat×aO)} {k:Nat} : ∀ {l:List Nat} {j:Nat},(∀i,i∈l→i∈ids)→look k (passed ids bl l j)=if j≤k∧k-j<l.length then(look (fT l (k-j)) bl).map (aO.map (PV.dD (fwd ids)))else none|[],j,_=>(by simp[passed,look])|i::r,j,hl=>by have ih:=lN (k:=k) (bl:=bl) (l:=r) (j:=j+1) (fun x hx=>hl x (List.mem_cons_of_mem _ hx));by_cases hk:k=j;(·subst hk;simp only[passed,Nat.sub_self,fT,List.length_cons,Nat.le_refl,true_and,Nat.zero_lt_succ,if_true];cases hb:look i bl with|none=>simp only[Option.map_none];rw[ih,if_neg (by omega)]|some b=>simp only[aM,Option.map_some]);·(have e:look k (passed ids bl (i::r) j)=look k (passed ids bl r (j+1)):=by simp only[passed];cases look i bl with|none=>rfl|some b=>exact aC _ _ hk);rw[e,ih];by_cases hjk:j≤k;(·rw[show k-j=(k-(j+1))+1 from by omega];simp only[fT,List.length_cons];by_cases h2:k-(j+1)<r.length;(·rw[if_pos ⟨by omega,h2⟩,if_pos ⟨hjk,by omega⟩]);·rw[if_neg (by omega),if_neg (by omega)]);·rw[if_neg (by omega),if_neg (by omega)]
theorem gw {ρ:Nat→Nat} {k:Nat} {b:aO} : ∀ {bl:List (Nat×aO)},(∀i c,look i bl=some c→ρ i=ρ k→i=k)→look k bl=some b→look (ρ k) (iS ρ bl)=some (b.map (PV.dD ρ))|[],_,h=>(by cases h)|p::r,AK,h=>by simp only[iS,look]at h⊢;cases hb:Nat.beq k p.1 with|true=>simp only[hb,cond_true,Option.some.injEq]at h;subst h;have:=Nat.eq_of_beq_eq_true hb;subst this;simp|false=>simp only[hb,cond_false]at h;(have bW:k≠p.1:=by intro e;rw[e]at hb;simp at hb);(have hp:look p.1 (p::r)=some p.2:=by simp[look]);(have:Nat.beq (ρ k) (ρ p.1)=false:=by cases hc:Nat.beq (ρ k) (ρ p.1)with|false=>rfl|true=>exact absurd (AK p.1 p.2 hp (Nat.eq_of_beq_eq_true hc).symm).symm bW);rw[this,cond_false];refine gw (fun i c hc he=>?_) h;by_cases hip:i=p.1;(·rw[hip]at he⊢;exact AK p.1 p.2 hp he);·exact AK i c (by rw[show(p::r)=((p.1,p.2)::r)from rfl,aC _ _ hip];exact hc) he
theorem kU {ρ:Nat→Nat} {i:Nat} {b:aO} : ∀ {bl:List (Nat×aO)},(∀j k c e,look j bl=some c→look k bl=some e→ρ j=ρ k→j=k)→look i (iS ρ bl)=some b→ ∃k c,ρ k=i∧look k bl=some c∧b=c.map (PV.dD ρ)|[],_,h=>(by cases h)|p::r,AK,h=>by simp only[iS,look]at h;(have hp:look p.1 (p::r)=some p.2:=by simp[look]);cases hb:Nat.beq i (ρ p.1)with|true=>simp only[hb,cond_true,Option.some.injEq]at h;exact⟨p.1,p.2,(Nat.eq_of_beq_eq_true hb).symm,hp,h.symm⟩|false=>simp only[hb,cond_false]at h;(have bW:i≠ρ p.1:=by intro e;rw[e]at hb;simp at hb);(have up: ∀j c,look j r=some c→j=p.1∨look j (p::r)=some c:=by intro j c hc;by_cases hj:j=p.1;(·exact .inl hj);·exact .inr (by rw[show(p::r)=((p.1,p.2)::r)from rfl,aC _ _ hj];exact hc));obtain⟨k,c,h1,h2,h3⟩:=kU (bl:=r) (fun j k c e hj hk he=>by rcases up j c hj with h'|h';(·rcases up k e hk with h''|h'';(·rw[h',h'']);·exact AK j k p.2 e (by rw[h'];exact hp) h'' he);·rcases up k e hk with h''|h'';(·exact AK j k c p.2 h' (by rw[h''];exact hp) he);·exact AK j k c e h' h'' he) h;refine⟨k,c,h1,?_,h3⟩;rcases up k c h2 with h'|h';(·exact absurd (by rw[←h1,h']) bW);·exact h'
theorem lO {k:Nat} : ∀ {a b:List (Nat×aO)},look k (a++b)=(match look k a with|some x=>some x|none=>look k b)|[],b=>(by simp[look])|p::r,b=>by simp only[List.cons_append,look];cases Nat.beq k p.1 with|true=>rfl|false=>exact lO (a:=r)
theorem dQ {id:Nat} : ∀ {bl:List (Nat×aO)},ak id (keys bl)=true→ ∃b,look id bl=some b|[],h=>(by cases h)|p::r,h=>by simp only[keys,List.map_cons,ak]at h;simp only[look];cases hb:Nat.beq id p.1 with|true=>exact⟨p.2,rfl⟩|false=>simp only[hb,cond_false]at h⊢;exact dQ h
theorem yc {bl':List (Nat×aO)} {i:Nat} : ∀ {l:List Nat} {j:Nat},ak i (cM bl' l j)=true↔ ∃k,k<l.length∧fT l k=i∧look (j+k) bl'=none|[],j=>(by simp[cM,ak])|x::r,j=>by have ih:=yc (bl':=bl') (i:=i) (l:=r) (j:=j+1);simp only[cM];constructor;(·intro h;cases hl:look j bl' with|some b=>rw[hl]at h;obtain⟨k,h1,h2,h3⟩:=ih.1 h;exact⟨k+1,by simpa using h1,by simpa[fT]using h2,by rw[←h3];congr 1;omega⟩|none=>rw[hl]at h;simp only[ak]at h;cases hb:Nat.beq i x with|true=>exact⟨0,by simp,by simp[fT,Nat.eq_of_beq_eq_true hb],by simpa using hl⟩|false=>simp only[hb,cond_false]at h;obtain⟨k,h1,h2,h3⟩:=ih.1 h;exact⟨k+1,by simpa using h1,by simpa[fT]using h2,by rw[←h3];congr 1;omega⟩);·rintro⟨k,h1,h2,h3⟩;cases k with|zero=>simp only[Nat.add_zero]at h3;simp only[fT]at h2;rw[h3];simp[ak,h2]|succ k=>have:=ih.2 ⟨k,by simpa using h1,by simpa[fT]using h2,by rw[←h3];congr 1;omega⟩;cases look j bl' with|some b=>exact this|none=>simp only[ak,this];cases Nat.beq i x<;>rfl
end Go.Proofs.YtgpkijnphchkpaaGreat
namespace Go.Proofs.YtgpkijnphchkpaaGreat
variable {dM:Prop} [jN dM]
open Go.RowKit
section
variable {E:Env} {n:Nat} {w0:World} {S0:Cx} {s:St} {a:Act} {w:World} {ν:Nat→Value} {S:Nat→Prop}
def kV(S:Nat→Prop)(s:St)(ν:Nat→Value)(ks:List Nat):Nat→Prop:=fun g=>S g∨ ∃i,ak i ks=true∧s.D i∧aE (ν i)=some g
def mkF(f:Nat):Value:=.func (.func f) #[] #[]
theorem Fh {c:Ctx} : ∀ {cs:List PV} {l:List Nat} {vs:List Value},LS cs=some l→ai c cs vs→vs=l.map mkF|[],l,vs,h,hp=>(by simp only[LS,Option.some.injEq]at h;subst h;simp only[ai]at hp;exact hp)|p::r,l,vs,h,hp=>by unfold LS at h;split at h;(·rename_i he;cases he);(·rename_i f r' he;injection he with e1 e2;subst e1;subst e2;split at h;(·rename_i l' hl;injection h with h;subst h;simp only[ai]at hp;obtain⟨v,r,rfl,hv,hr⟩:=hp;simp only[ag]at hv;have UW:[v]=[Value.func (.func f) #[] #[]]:=hv.2;injection UW with UW;rw[UW,Fh hl hr];rfl);·cases h);·cases h
theorem Fi {w:World} {M:Mem} : ∀(x:Nat)(l:List Nat),aH (Au (x::l)) (Oe (x::l)) w M ((x::l).map mkF)|x,[]=>rfl|x,y::r=>⟨[mkF x],(y::r).map mkF,rfl,rfl,Fi y r⟩
theorem yd: ∀(x:Nat)(l:List Nat),(Au (x::l)).cells=(x::l).length|x,[]=>rfl|x,y::r=>by show 1+(Au (y::r)).cells=_;rw[yd y r];simp only[List.length_cons];omega
theorem Bo: ∀l:List Nat,aR (Au l)=0|[]=>rfl|[_]=>rfl|x::y::r=>by show aR .aD+aR (Au (y::r))=0;rw[Bo (y::r)];rfl
mutual theorem Bp {c c':Ctx} {ks:List Nat} {bl:List (Nat×aO)} (hw:c'.w=c.w)(hS: ∀b,c.M.S b→c'.M.S b)(hD: ∀i,ak i ks=false→c.D i→c'.D i)(cG:c'.ν=c.ν)(hb: ∀i b,look i bl=some b→lB c i b)(hl: ∀i,ak i ks=true→c.D i→ ∀g,aE (c.ν i)=some g→c'.M.S g): ∀ {p:PV} {v:Value},ag c p v→ag c' (p.aQ ks bl) v|.iv T x,v,h=>(by simp only[PV.aQ,ag]at h⊢;exact⟨h.1,gW (fun _ _=>by rw[hw]) hS h.1 h.2⟩)|.ref i off,v,h=>(by simp only[PV.aQ];cases hi:ak i ks;(·simp only[cond_false,ag]at h⊢;obtain⟨hd,g,h1,h2⟩:=h;exact⟨hD _ hi hd,g,by rw[cG];exact h1,h2⟩);·simp only[cond_true];split;(·rename_i cs te Fj;split;(·rename_i x l dA;simp only[ag]at h⊢;obtain⟨hd,g,h1,h2⟩:=h;obtain⟨_,g',vs,e,e1,_,_,e2,_,e3⟩:=hb _ _ Fj;rw[h1]at e1;injection e1 with e1;injection e1 with e1;injection e1 with e1;subst e1;have rW:=Fh dA e3;refine⟨Bo (x::l),g,0,vs.toList,by rw[h2];simp,hl i hi hd g (by rw[h1];rfl),by rw[rW,List.length_map];exact(yd x l).symm,fun j v hj=>?_,?_⟩;(·rw[hw];simp only[World.cell?,e2,Nat.zero_add];simpa using hj);·rw[rW];exact Fi x l);·simp only[ag]);·simp only[ag])|.dL T x off,v,h=>(by simp only[PV.aQ,ag]at h⊢;obtain⟨ho,g,o,cs,h1,h2,h3,h4,h5⟩:=h;exact⟨ho,g,o,cs,h1,hS _ h2,h3,h4.mono (by rw[hw]),aB (fun _ _=>by rw[hw]) hS _ _ _ ho h5⟩)|.aF i,v,h=>(by simp only[PV.aQ];cases hi:ak i ks;(·simp only[cond_false,ag]at h⊢;exact⟨hD _ hi h.1,by rw[cG];exact h.2.1,h.2.2⟩);·simp only[cond_true];split;(·rename_i T xs te Fj;simp only[ag]at h⊢;obtain⟨qv,l8⟩:=mj (hb _ _ Fj);refine⟨by simpa[aR]using qv,?_⟩;have:=pR (M':=c'.M) qv hS l8 (hl i hi h.1);rw[h.2.1,hw];exact this);·simp only[ag])|.jx i sz off len,v,h=>(by simp only[PV.aQ];cases hi:ak i ks;(·simp only[cond_false,ag]at h⊢;obtain⟨hd,a,n,cap,b,h1,h2⟩:=h;exact⟨hD _ hi hd,a,n,cap,b,by rw[cG];exact h1,h2⟩);·simp only[cond_true];split;(·rename_i T xs te Fj;split;(·rename_i cY;have cY:=Nat.eq_of_beq_eq_true cY;simp only[ag]at h⊢;obtain⟨hd,a,n,cap,b,bi0,hn,qu,rfl,ja⟩:=h;obtain⟨qv,l8⟩:=mj (hb _ _ Fj);refine⟨by simpa[aR]using qv,?_⟩;have jL:=pR (M':=c'.M) qv hS l8 (hl i hi hd);rw[bi0]at jL;(have hlen:n=xs.length:=by obtain⟨a',oD,hv,_⟩:=jL;injection hv with hv;injection hv);subst hlen;subst cY;rw[hw];exact wT jL hn ja);·simp only[ag]);·simp only[ag])|.gm i sz j off,v,h=>(by simp only[PV.aQ];cases hi:ak i ks;(·simp only[cond_false,ag]at h⊢;obtain⟨hd,g,o,n,cap,h1,h2⟩:=h;exact⟨hD _ hi hd,g,o,n,cap,by rw[cG];exact h1,h2⟩);·simp only[cond_true,ag])|.lmap i,v,h=>(by simp only[PV.aQ];cases hi:ak i ks;(·simp only[cond_false,ag]at h⊢;exact⟨hD _ hi h.1,by rw[cG];exact h.2.1,h.2.2⟩);·simp only[cond_true];split;(·rename_i K V es Fj;simp only[ag]at h⊢;obtain⟨cZ,se,h0,r,ax,clock,h1,h2,h3,h4,h5,h6,h7⟩:=hb _ _ Fj;refine⟨by simp only[aR];omega,?_⟩;rw[hw];exact J4 cZ se hS h0 (by rw[h.2.1,h1]) (hl i hi h.1 r (by rw[h1];rfl)) h4 h5 h6 h7);·simp only[ag])|.agg cs,v,h=>(by simp only[PV.aQ,ag]at h⊢;obtain⟨vs,h1,h0,h2⟩:=h;exact⟨vs,h1,h0,ek hw hS hD cG hb hl h2⟩)|.bn cs,v,h=>(by simp only[PV.aQ,ag]at h⊢;obtain⟨vs,h1,h2⟩:=h;exact⟨vs,h1,ek hw hS hD cG hb hl h2⟩)|.bF,v,h=>(by simp only[PV.aQ,ag]at h⊢;exact h)|.cX,v,h=>(by simp only[PV.aQ,ag]at h⊢;exact h)|.dG,v,h=>(by simp only[PV.aQ,ag]at h⊢;exact h)|.iY i base T n j,v,h=>(by simp only[PV.aQ];cases hi:ak i ks;(·simp only[cond_false,ag]at h⊢;obtain⟨hd,h0,hn,g,h1,h2⟩:=h;exact⟨hD _ hi hd,h0,hn,g,by rw[cG];exact h1,h2⟩);·simp only[cond_true,ag])|.wB f cs,v,h=>(by simp only[PV.aQ,ag]at h⊢;obtain⟨vs,h1,h2⟩:=h;exact⟨vs,h1,ek hw hS hD cG hb hl h2⟩)|.oh f cs,v,h=>(by simp only[PV.aQ,ag]at h⊢;obtain⟨vs,h1,h2⟩:=h;exact⟨vs,h1,ek hw hS hD cG hb hl h2⟩)|.cH hk i,v,h=>(by simp only[PV.aQ];cases hi:ak i ks;(·simp only[cond_false,ag]at h⊢;obtain⟨hd,g,h1,h2⟩:=h;exact⟨hD _ hi hd,g,by rw[cG];exact h1,h2⟩);·simp only[cond_true,ag])|.clip T xs,v,h=>(by simp only[PV.aQ,ag]at h⊢;exact⟨h.1,h.2.1,aB (fun _ _=>by rw[hw]) hS (.sl T) _ _ h.1 h.2.2⟩)|.fn f cs,v,h=>(by simp only[PV.aQ,ag]at h⊢;obtain⟨vs,h1,h2⟩:=h;exact⟨vs,h1,ek hw hS hD cG hb hl h2⟩)|.any,v,h=>by simp only[PV.aQ,ag]theorem ek {c c':Ctx} {ks:List Nat} {bl:List (Nat×aO)} (hw:c'.w=c.w)(hS: ∀b,c.M.S b→c'.M.S b)(hD: ∀i,ak i ks=false→c.D i→c'.D i)(cG:c'.ν=c.ν)(hb: ∀i b,look i bl=some b→lB c i b)(hl: ∀i,ak i ks=true→c.D i→ ∀g,aE (c.ν i)=some g→c'.M.S g): ∀ {ps:List PV} {vs:List Value},ai c ps vs→ai c' (PV.fB ks bl ps) vs|[],vs,h=>(by simp only[PV.fB,ai]at h⊢;exact h)|p::ps,vs,h=>by simp only[PV.fB,ai]at h⊢;obtain⟨v,r,h1,h2,h3⟩:=h;exact⟨v,r,h1,Bp hw hS hD cG hb hl h2,ek hw hS hD cG hb hl h3⟩end
theorem uB(s:St)(ks:List Nat)(i:Nat):look i (s.aQ ks).bl=bif ak i ks then none else(look i s.bl).map (aO.map (PV.fB ks s.bl)):=by simp only[St.aQ,eV,nh]
theorem O5(s:St)(ks:List Nat)(t:Nat):(s.aQ ks).get t=(s.get t).aQ ks s.bl:=by simp only[St.get,St.aQ,gK];cases look t s.sl<;>simp[PV.aQ]
theorem Full.dY(h:Full n w0 S0 s a w ν S)(ks:List Nat):Full n w0 S0 (s.aQ ks) a w ν (kV S s ν ks):=by
 have hS: ∀b,S b→kV S s ν ks b:=fun b hb=>.inl hb;(have hD: ∀i,ak i ks=false→s.D i→(s.aQ ks).D i:=by rintro i hi⟨b,hb⟩;exact⟨b.map (PV.fB ks s.bl),by rw[uB,hi,hb];rfl⟩)
 have hl: ∀i,ak i ks=true→s.D i→ ∀g,aE (ν i)=some g→kV S s ν ks g:=fun i hi hd g hg=>.inr ⟨i,hi,hd,hg⟩;(have jU: ∀i b,look i (s.aQ ks).bl=some b→ak i ks=false∧ ∃b0,look i s.bl=some b0∧b=b0.map (PV.fB ks s.bl):=by intro i b hb;rw[uB]at hb;cases hi:ak i ks with|true=>rw[hi]at hb;cases hb|false=>rw[hi,cond_false]at hb;cases hl:look i s.bl with|none=>rw[hl]at hb;cases hb|some b0=>rw[hl]at hb;injection hb with hb;exact⟨rfl,b0,rfl,hb.symm⟩)
 refine⟨h.below,fun b hb=>hS b (h.Ay b hb),fun b hb=>?_,⟨fun b hb=>?_,h.W.size,fun i b hb=>?_,fun i j b c fi hi hj=>?_⟩,fun t=>?_,h.size,h.defers,h.qV,fun i hi hd=>?_,h.CO⟩
 (·rcases hb with hb|⟨i,_,⟨b0,iO⟩,hg⟩;(·exact h.fresh b hb);·exact .inr (h.iu iO hg).1);(·rcases hb with hb|⟨i,_,⟨b0,iO⟩,hg⟩;(·exact h.W.lt b hb);·exact(h.iu iO hg).2.2)
 (·obtain⟨hi,b0,iO,rfl⟩:=jU i b hb;have hr:=h.W.cv i b0 iO;(have sg: ∀g,aE (ν i)=some g→ ¬kV S s ν ks g:=by rintro g hg(hs|⟨j,hj,⟨bj,hbj⟩,xR⟩);(·exact(h.iu iO hg).2.1 hs);·(have fi:i≠j:=by rintro rfl;rw[hi]at hj;cases hj);exact h.W.ne i j b0 bj fi iO hbj g hg xR);cases b0 with|box cs te=>obtain⟨jy,g,vs,e,h1,h2,h3,h4,h0,h5⟩:=hr;exact⟨jy.mi rfl fun _ _=>rfl,g,vs,e,h1,h2,sg g (by simp only at h1;rw[h1];rfl),h4,h0,ek (c:=⟨ν,s.D,w,⟨S,aL w0 S0⟩⟩) (c':=⟨ν,(s.aQ ks).D,w,⟨kV S s ν ks,aL w0 S0⟩⟩) rfl hS hD rfl h.W.cv hl h5⟩|arr T xs te=>obtain⟨jy,ho,v,hv,h1,h2⟩:=hr;injection hv with hv;simp only at hv;refine⟨jy.mi rfl fun _ _=>rfl,ho,v,by simp only[hv],h1,?_⟩;rcases h2 with h2|⟨g,o,cap,cur,e,rfl,h3,h4,h5,h6,h7,h8,h9⟩;(·exact .inl h2);(·refine .inr ⟨g,o,cap,cur,e,rfl,h3,h4,sg g (by rw[hv];rfl),h6,h7,h8,fun i y hy=>?_⟩;obtain⟨cs,hl,CJ,hr⟩:=h9 i y hy;exact⟨cs,hl,CJ,aB (fun _ _=>rfl) hS _ _ _ ho hr⟩)|mp K V es=>obtain⟨cZ,se,h0,r,ax,clock,h1,h2,h3,h4,h5,h6,h7⟩:=hr;refine⟨cZ,se,h0,r,ax,clock,h1,h2,sg r (by simp only at h1;rw[h1];rfl),h4,h5,h6,fun i y hy=>?_⟩;obtain⟨e,ca,cb,a1,a2,a3,a4,a5⟩:=h7 i y hy;exact⟨e,ca,cb,a1,a2,aB (fun _ _=>rfl) hS _ _ _ cZ a3,a4,aB (fun _ _=>rfl) hS _ _ _ se a5⟩|it src since seen=>obtain⟨g,m,h1,h2,h3,h4,h6⟩:=hr;exact⟨g,m,h1,h2,sg g (by simp only at h1;rw[h1];rfl),h4,ek (c:=⟨ν,s.D,w,⟨S,aL w0 S0⟩⟩) (c':=⟨ν,(s.aQ ks).D,w,⟨kV S s ν ks,aL w0 S0⟩⟩) rfl hS hD rfl h.W.cv hl h6⟩|xA x pos=>obtain⟨g,h1,h2,h3,h4,h5⟩:=hr;exact⟨g,h1,h2,sg g (by simp only at h1;rw[h1];rfl),h4,h5⟩|gh o cs=>obtain⟨g,vs,h1,h2,h3,h4,h6⟩:=hr;exact⟨g,vs,h1,h2,sg g (by simp only at h1;rw[h1];rfl),h4,ek (c:=⟨ν,s.D,w,⟨S,aL w0 S0⟩⟩) (c':=⟨ν,(s.aQ ks).D,w,⟨kV S s ν ks,aL w0 S0⟩⟩) rfl hS hD rfl h.W.cv hl h6⟩)
 (·obtain⟨_,b0,iO,_⟩:=jU i b hi;obtain⟨_,c0,sm,_⟩:=jU j c hj;exact h.W.ne i j b0 c0 fi iO sm);(·rw[O5];exact Bp (c:=⟨ν,s.D,w,⟨S,aL w0 S0⟩⟩) (c':=⟨ν,(s.aQ ks).D,w,⟨kV S s ν ks,aL w0 S0⟩⟩) rfl hS hD rfl h.W.cv hl (h.eU t))
 ·obtain⟨b,hb⟩:=hd;obtain⟨_,b0,iO,_⟩:=jU i b hb;exact h.kept i hi ⟨b0,iO⟩
/-! ### Blocks handed to a callee -/
def uD(ν:Nat→Value)(ids:List Nat):Nat→Value:=fun k=>ν (fT ids (k-P0))
theorem dK {s:St} {ids:List Nat} {k:Nat} {b:aO} (h:look k (passed ids s.bl ids P0)=some b):P0≤k∧k-P0<ids.length∧ ∃b0,look (fT ids (k-P0)) s.bl=some b0∧b=b0.map (PV.dD (fwd ids)):=by
 rw[lN (fun _ h=>h)]at h;split at h;(·rename_i hc;cases hl:look (fT ids (k-P0)) s.bl with|none=>rw[hl]at h;cases h|some b0=>rw[hl]at h;injection h with h;exact⟨hc.1,hc.2,b0,rfl,h.symm⟩)
 ·cases h
theorem O6 {s:St} {ids:List Nat} {i:Nat} (hi:ak i ids=true)(hd:s.D i):(⟨[],passed ids s.bl ids P0⟩:St).D (fwd ids i):=by
 obtain⟨b,hb⟩:=hd;obtain⟨h1,h2,h3⟩:=sP hi;refine⟨b.map (PV.dD (fwd ids)),?_⟩;simp only;rw[lN (fun _ h=>h),if_pos ⟨h1,h3⟩,h2,hb];rfl
def cxC(S:Nat→Prop)(s:St)(ν:Nat→Value)(ids:List Nat):Cx:=⟨S,fU (uD ν ids) (passed ids s.bl ids P0),uD ν ids,[]⟩
theorem sS {s:St} {ν:Nat→Value} {ids:List Nat} {g:Nat} (h:fU (uD ν ids) (passed ids s.bl ids P0) g): ∃i b,ak i ids=true∧look i s.bl=some b∧aE (ν i)=some g:=by
 obtain⟨k,b,hk,hg⟩:=h;obtain⟨h1,h2,b0,iO,_⟩:=dK hk;exact⟨_,b0,sN h2,iO,hg⟩
theorem uE {ks:List Nat} {bl:List (Nat×aO)} : ∀ {l:List Nat} {i:Nat} {b:aO},kF ks bl l=true→i∈l→look i bl=some b→fE ks b=true|[],i,b,_,h,_=>(by cases h)|x::r,i,b,h,hi,hb=>by simp only[kF,Bool.and_eq_true]at h;rcases List.mem_cons.1 hi with rfl|hi;(·have h1:=h.1;rw[hb]at h1;cases b<;>first|exact h1|rfl);·exact uE h.2 hi hb
theorem Full.handed(h:Full n w0 S0 s a w ν S) {ids:List Nat} (cH:jS ids=true)(iN:kF ids s.bl ids=true):r8 ⟨[],passed ids s.bl ids P0⟩ (uD ν ids) w ⟨S,aL w (cxC S s ν ids)⟩∧(∀g,fU (uD ν ids) (passed ids s.bl ids P0) g→g<w.heap.size)∧ ∀(S1:Nat→Prop),(∀b,S b→S1 b)→Ctx.Ul ids (fwd ids) ⟨ν,s.D,w,⟨S,aL w0 S0⟩⟩ ⟨uD ν ids,(⟨[],passed ids s.bl ids P0⟩:St).D,w,⟨S1,aL w (cxC S s ν ids)⟩⟩:=by
 (have cG: ∀i,ak i ids=true→uD ν ids (fwd ids i)=ν i:=by intro i hi;unfold uD;rw[(sP hi).2.1]);have hle: ∀(S1:Nat→Prop),(∀b,S b→S1 b)→Ctx.Ul ids (fwd ids) ⟨ν,s.D,w,⟨S,aL w0 S0⟩⟩ ⟨uD ν ids,(⟨[],passed ids s.bl ids P0⟩:St).D,w,⟨S1,aL w (cxC S s ν ids)⟩⟩:=fun S1 hS1=>⟨fun _ _=>rfl,hS1,fun i hi hd=>O6 hi hd,fun i hi _=>cG i hi⟩
 refine⟨⟨h.W.lt,fun b hb=>.inl hb,fun k b hb=>?_,fun k l b c oa hk hl g hg fh=>?_⟩,fun g hg=>?_,hle⟩;(·obtain⟨h1,h2,b0,iO,rfl⟩:=dK hb;have hm:=sN h2;(have hf:fwd ids (fT ids (k-P0))=k:=by rw[sQ cH h2];omega);have:=oR (hle S (fun _ h=>h)) (i:=fT ids (k-P0)) (b:=b0) (uE iN (ef.1 hm) iO) (cG _ hm) (fun g hg=>⟨rfl,.inr ⟨k,_,hb,hg⟩,(h.iu iO hg).2.1⟩) (h.W.cv _ b0 iO);rw[hf]at this;exact this)
 (·obtain⟨h1,h2,b0,iO,_⟩:=dK hk;obtain⟨h3,h4,c0,sm,_⟩:=dK hl;refine h.W.ne (fT ids (k-P0)) (fT ids (l-P0)) b0 c0 (fun e=>oa ?_) iO sm g hg fh;have e1:=sQ cH h2;have e2:=sQ cH h4;rw[e,e2]at e1;omega)
 ·obtain⟨i,b,_,hb,fh⟩:=sS hg;exact(h.iu hb fh).2.2
end
end Go.Proofs.YtgpkijnphchkpaaGreat
namespace Go.Proofs.YtgpkijnphchkpaaGreat
variable {dM:Prop} [jN dM]
open Go.RowKit
mutual theorem mz {c:Ctx} {bl:List (Nat×aO)} (hD: ∀i,c.D i→ ∃b,look i bl=some b): ∀ {p:PV} {v:Value},ag c p v→PV.nQ (keys bl) p=true|.iv T x,v,h=>rfl|.ref i off,v,h=>(by simp only[ag]at h;obtain⟨b,hb⟩:=hD _ h.1;exact dh hb)|.dL T x off,v,h=>rfl|.aF i,v,h=>(by simp only[ag]at h;obtain⟨b,hb⟩:=hD _ h.1;exact dh hb)|.jx i sz off len,v,h=>(by simp only[ag]at h;obtain⟨b,hb⟩:=hD _ h.1;exact dh hb)|.gm i sz j off,v,h=>(by simp only[ag]at h;obtain⟨b,hb⟩:=hD _ h.1;exact dh hb)|.lmap i,v,h=>(by simp only[ag]at h;obtain⟨b,hb⟩:=hD _ h.1;exact dh hb)|.agg cs,v,h=>(by simp only[ag]at h;obtain⟨vs,_,_,h2⟩:=h;exact e9 hD h2)|.bn cs,v,h=>(by simp only[ag]at h;obtain⟨vs,_,h2⟩:=h;exact e9 hD h2)|.bF,v,h=>rfl|.cX,v,h=>rfl|.dG,v,h=>rfl|.iY i base T n j,v,h=>(by simp only[ag]at h;obtain⟨b,hb⟩:=hD _ h.1;exact dh hb)|.wB f cs,v,h=>(by simp only[ag]at h;obtain⟨vs,_,h2⟩:=h;exact e9 hD h2)|.oh f cs,v,h=>(by simp only[ag]at h;obtain⟨vs,_,h2⟩:=h;exact e9 hD h2)|.cH hk i,v,h=>(by simp only[ag]at h;obtain⟨b,hb⟩:=hD _ h.1;exact dh hb)|.clip T xs,v,h=>rfl|.fn f cs,v,h=>(by simp only[ag]at h;obtain⟨vs,_,h2⟩:=h;exact e9 hD h2)|.any,v,h=>rfl theorem e9 {c:Ctx} {bl:List (Nat×aO)} (hD: ∀i,c.D i→ ∃b,look i bl=some b): ∀ {ps:List PV} {vs:List Value},ai c ps vs→PV.dX (keys bl) ps=true|[],vs,h=>rfl|p::ps,vs,h=>by simp only[ai]at h;obtain⟨v,r,_,h2,h3⟩:=h;simp only[PV.dX,mz hD h2,e9 hD h3,Bool.and_self]end
theorem p6 {c:Ctx} {bl:List (Nat×aO)} (hD: ∀i,c.D i→ ∃b,look i bl=some b) {i:Nat} {b:aO} (h:lB c i b):fE (keys bl) b=true:=by
 cases b with|box cs te=>obtain⟨_,g,vs,e,_,_,_,_,_,h5⟩:=h;exact e9 hD h5|it cs a b=>obtain⟨g,m,_,_,_,_,h6⟩:=h;exact e9 hD h6|gh o cs=>obtain⟨g,vs,_,_,_,_,h6⟩:=h;exact e9 hD h6|_=>rfl
theorem Fk {bl':List (Nat×aO)} : ∀ {bl:List (Nat×aO)} {k:Nat} {b:aO},qC bl bl'=true→look k bl=some b→look k bl'=none→ ∃T xs te,b= .arr T xs te|[],k,b,_,h,_=>(by cases h)|p::r,k,b,hk,h,hn=>by simp only[qC,Bool.and_eq_true]at hk;simp only[look]at h;cases hb:Nat.beq k p.1 with|true=>simp only[hb,cond_true,Option.some.injEq]at h;subst h;have:=Nat.eq_of_beq_eq_true hb;subst this;have h1:=hk.1;rw[hn]at h1;(cases hp:p.2 with|arr T xs te=>exact⟨T,xs,te,rfl⟩|box cs te=>rw[hp]at h1;cases h1|mp K V es=>rw[hp]at h1;cases h1|it a b c=>rw[hp]at h1;cases h1|xA a b=>rw[hp]at h1;cases h1|gh a b=>rw[hp]at h1;cases h1)|false=>simp only[hb,cond_false]at h;exact Fk hk.2 h hn
theorem Kn {bl:List (Nat×aO)} {used:List Nat} {d:Option Nat} : ∀ {l:List (Nat×aO)} {k:Nat} {b:aO},Ax bl used d l=true→look k l=some b→(P0≤k∧ ∃c,look k bl=some c)∨(k<P0∧ ∃e,d=some e∧k<100000∧k+100000*(e+1)<P0∧ak (k+100000*(e+1)) used=false)|[],k,b,_,h=>(by cases h)|(p1,p2)::r,k,b,hn,h=>by obtain⟨p,hp⟩: ∃p:Nat×aO,p=(p1,p2):=⟨_,rfl⟩;(obtain rfl:p.1=p1:=by rw[hp]);(obtain rfl:p.2=p2:=by rw[hp]);clear hp;simp only[Ax,Bool.and_eq_true]at hn;simp only[look]at h;cases hb:Nat.beq k p.1 with|true=>have:=Nat.eq_of_beq_eq_true hb;subst this;have h1:=hn.1;split at h1;(·rename_i dZ;have hle:=Nat.le_of_ble_eq_true dZ;cases hl:look p.1 bl with|none=>rw[hl]at h1;cases h1|some c=>exact .inl ⟨hle,c,rfl⟩);(·rename_i dZ;(have c7:p.1<P0:=by rcases Nat.lt_or_ge p.1 P0 with h'|h';(·exact h');·rw[Nat.ble_eq_true_of_le h']at dZ;cases dZ);cases d with|none=>cases h1|some e=>simp only[Bool.and_eq_true,Nat.blt_eq,Bool.not_eq_true']at h1;exact .inr ⟨c7,e,rfl,h1.1.1,h1.1.2,h1.2⟩)|false=>simp only[hb,cond_false]at h;exact Kn hn.2 h
section
variable {E:Env} {n:Nat} {w0:World} {S0:Cx} {s:St} {a:Act} {w:World} {ν:Nat→Value} {S:Nat→Prop}
theorem np {ids:List Nat} {d k:Nat} (h:P0≤k):back ids d k=fT ids (k-P0):=by unfold back;rw[Nat.ble_eq_true_of_le h];rfl
theorem p7 {ids:List Nat} {d k:Nat} (h:k<P0):back ids d k=k+100000*(d+1):=by
 unfold back;(have:Nat.ble P0 k=false:=by cases hb:Nat.ble P0 k with|false=>rfl|true=>have:=Nat.le_of_ble_eq_true hb;omega);rw[this];rfl
def fW(s:St)(d:Nat)(ids:List Nat)(bl':List (Nat×aO)):List (Nat×aO):=iS (back ids d) bl'++b7 ids (s.kill (cM bl' ids P0)).bl
noncomputable def kb(ν ν':Nat→Value)(d:Nat)(bl':List (Nat×aO)):Nat→Value:=fun i=>match Nat.ble (100000*(d+1)) i,look (i-100000*(d+1)) bl' with|true,some _=>bif Nat.blt (i-100000*(d+1)) 100000 then ν' (i-100000*(d+1))else ν i|_,_=>ν i
theorem Full.cV(h:Full n w0 S0 s a w ν S) {ids:List Nat} {d:Option Nat} {p:PV} {v:Value} {bl':List (Nat×aO)} {w':World} {ν':Nat→Value} {S':Nat→Prop} (cH:jS ids=true)(iN:kF ids s.bl ids=true)(hk:Kept (fU (uD ν ids) (passed ids s.bl ids P0)) w w')(h1: ∀b,S b→S' b)(h2: ∀b,S' b→S b∨aL w (cxC S s ν ids) b)(h3: ∀i,P0≤i→(⟨[],bl'⟩:St).D i→ν' i=uD ν ids i)(hW:r8 ⟨[],bl'⟩ ν' w' ⟨S',aL w (cxC S s ν ids)⟩)(hp:ag ⟨ν',(⟨[],bl'⟩:St).D,w',⟨S',aL w (cxC S s ν ids)⟩⟩ p v)(lP:qC (passed ids s.bl ids P0) bl'=true)(cK:Ax (passed ids s.bl ids P0) (keys s.bl) d bl'=true)(hd: ∀e,d=some e→e<n): ∃Iu,Full n w0 S0 (s.eb d ids p bl') (a.put d v) w' Iu S':=by
 obtain⟨dd,od⟩: ∃dd:Nat,dd=(match d with|some e=>e|none=>0):=⟨_,rfl⟩;(have jW:(s.eb d ids p bl').bl=fW s dd ids bl':=by subst od;cases d<;>rfl);(have jL: ∀t,(s.eb d ids p bl').get t=match d with|some e=>if t=e then p.dV (back ids dd)else((s.get t).kill (cM bl' ids P0))|none=>(s.get t).kill (cM bl' ids P0):=by intro t;subst od;cases d with|none=>exact xS s _ t|some e=>simp only[St.eb,St.get];by_cases ht:t=e;(·subst ht;simp only[aM,if_true]);·rw[aC _ _ ht,if_neg ht];have:=xS s (cM bl' ids P0) t;simp only[St.get]at this;exact this)
 (have iw: ∀k b,look k bl'=some b→(P0≤k∧k-P0<ids.length∧ ∃b0,look (fT ids (k-P0)) s.bl=some b0)∨(k<P0∧d=some dd∧k<100000∧k+100000*(dd+1)<P0∧look (k+100000*(dd+1)) s.bl=none):=by intro k b hb;rcases Kn cK hb with⟨hle,c,hc⟩|⟨c7,e,he,hk1,hk2,Iv⟩;(·obtain⟨_,h5,b0,iO,_⟩:=dK hc;exact .inl ⟨hle,h5,b0,iO⟩);·subst he;simp only at od;subst od;refine .inr ⟨c7,rfl,hk1,hk2,?_⟩;cases hl:look (k+100000*(dd+1)) s.bl with|none=>rfl|some b=>rw[dh hl]at Iv;cases Iv)
 (have AK: ∀j k c e,look j bl'=some c→look k bl'=some e→back ids dd j=back ids dd k→j=k:=by intro j k c e hj hk he;rcases iw j c hj with⟨a1,a2,b0,a3⟩|⟨a1,_,a2,a3,a4⟩;(·rcases iw k e hk with⟨b1,b2,c0,b3⟩|⟨b1,_,b2,b3,b4⟩;(·rw[np a1,np b1]at he;have e1:=sQ cH a2;have e2:=sQ cH b2;rw[he,e2]at e1;omega);·rw[np a1,p7 b1]at he;rw[he,b4]at a3;cases a3);·rcases iw k e hk with⟨b1,b2,c0,b3⟩|⟨b1,_,b2,b3,b4⟩;(·rw[p7 a1,np b1]at he;rw[←he,a4]at b3;cases b3);·rw[p7 a1,p7 b1]at he;omega)
 (have oS: ∀i,s.D i→kb ν ν' dd bl' i=ν i:=by rintro i⟨b,hb⟩;unfold kb;split;(·rename_i c dZ hl;cases c7:Nat.blt (i-100000*(dd+1)) 100000 with|false=>rfl|true=>have hle:=Nat.le_of_ble_eq_true dZ;rw[Nat.blt_eq]at c7;rcases iw _ c hl with⟨a1,_⟩|⟨_,_,_,_,a4⟩;(·unfold P0 at a1;omega);·rw[show i-100000*(dd+1)+100000*(dd+1)=i from by omega,hb]at a4;cases a4);·rfl)
 (have ye: ∀k b,look k bl'=some b→kb ν ν' dd bl' (back ids dd k)=ν' k:=by intro k b hb;rcases iw k b hb with⟨a1,a2,b0,a3⟩|⟨a1,_,a2,a3,a4⟩;(·rw[np a1,oS _ ⟨b0,a3⟩,h3 k a1 ⟨b,hb⟩];rfl);·rw[p7 a1];unfold kb;rw[Nat.ble_eq_true_of_le (by omega),show k+100000*(dd+1)-100000*(dd+1)=k from by omega,hb];(have:Nat.blt k 100000=true:=by rw[Nat.blt_eq];exact a2);simp only[this,cond_true])
 (have O8: ∀k b,look k bl'=some b→look (back ids dd k) (fW s dd ids bl')=some (b.map (PV.dD (back ids dd))):=by intro k b hb;unfold fW;rw[lO,gw (fun i c hc he=>AK i k c b hc hb he) hb])
 (have au7: ∀i,ak i ids=false→s.D i→ ∃b,look i (fW s dd ids bl')=some b:=by rintro i hi⟨b,hb⟩;unfold fW;rw[lO];cases look i (iS (back ids dd) bl')with|some x=>exact⟨x,rfl⟩|none=>exact⟨b.map (PV.cr (cM bl' ids P0)),by simp only;rw[eV,hi,cond_false,pS,hb];rfl⟩)
 (have yf: ∀i b,look i (fW s dd ids bl')=some b→(∃k c,back ids dd k=i∧look k bl'=some c∧b=c.map (PV.dD (back ids dd)))∨(ak i ids=false∧ ∃b0,look i s.bl=some b0∧b=b0.map (PV.cr (cM bl' ids P0))):=by intro i b hb;unfold fW at hb;rw[lO]at hb;cases hr:look i (iS (back ids dd) bl')with|some x=>rw[hr]at hb;injection hb with hb;subst hb;exact .inl (kU AK hr)|none=>rw[hr]at hb;simp only at hb;rw[eV]at hb;cases hi:ak i ids with|true=>rw[hi]at hb;cases hb|false=>rw[hi,cond_false,pS]at hb;cases hl:look i s.bl with|none=>rw[hl]at hb;cases hb|some b0=>rw[hl]at hb;injection hb with hb;exact .inr ⟨rfl,b0,rfl,hb.symm⟩)
 (have O9: ∀g,fU (uD ν ids) (passed ids s.bl ids P0) g→aL w0 S0 g∧ ¬S g∧g<w.heap.size:=fun g hg=>by obtain⟨i,b,_,hb,fh⟩:=sS hg;exact h.iu hb fh);(have l8: ∀g,aL w (cxC S s ν ids) g→aL w0 S0 g:=fun g hg=>by rcases hg with hg|hg;(·exact h.W.size g hg);·exact(O9 g hg).1)
 (have Pa: ∀i,ak i ids=true→s.D i→ak i (cM bl' ids P0)=false→ ∃b,look (fwd ids i) bl'=some b:=by intro i hi _ Ko;obtain⟨f1,f2,f3⟩:=sP hi;cases hl:look (fwd ids i) bl' with|some b=>exact⟨b,rfl⟩|none=>have:=(yc (bl':=bl') (i:=i) (l:=ids) (j:=P0)).2 ⟨fwd ids i-P0,f3,f2,by rw[show P0+(fwd ids i-P0)=fwd ids i from by omega];exact hl⟩;rw[this]at Ko;cases Ko)
 (have hD: ∀i,s.D i→ak i (cM bl' ids P0)=false→(⟨[],fW s dd ids bl'⟩:St).D i:=by intro i hi Ko;cases hm:ak i ids with|false=>exact au7 i hm hi|true=>obtain⟨b,hb⟩:=Pa i hm hi Ko;have:=O8 _ b hb;obtain⟨f1,f2,f3⟩:=sP hm;rw[np f1,f2]at this;exact⟨_,this⟩)
 have a26:Ctx.EP (cM bl' ids P0) ⟨ν,s.D,w,⟨S,aL w0 S0⟩⟩ ⟨kb ν ν' dd bl',(⟨[],fW s dd ids bl'⟩:St).D,w',⟨S',aL w0 S0⟩⟩:=⟨fun b hb=>hk.block b (h.W.lt b hb) (fun hf=>(O9 b hf).2.1 hb),h1,hD,fun i hi _=>oS i hi⟩
 (have UA:ER ⟨ν,s.D,w,⟨S,aL w0 S0⟩⟩ (cM bl' ids P0):=by rintro i hi⟨b,hb⟩;obtain⟨k,e1,e2,e3⟩:=yc.1 hi;(have vJ:look (P0+k) (passed ids s.bl ids P0)=some (b.map (PV.dD (fwd ids))):=by rw[lN (fun _ h=>h),if_pos ⟨by omega,by omega⟩,show P0+k-P0=k from by omega,e2,hb];rfl);obtain⟨T,xs,te,Uk⟩:=Fk lP vJ e3;cases b with|arr T xs te=>obtain⟨jy,_,u,hu,_,hc⟩:=h.W.cv i _ hb;injection hu with hu;simp only at hu⊢;rw[hu];rcases hc with⟨hc,_⟩|⟨g,o,cap,cur,e,hc,_⟩<;>subst hc<;>exact⟨_,_,_,rfl⟩|box cs te=>cases Uk|mp K V es=>cases Uk|it a b c=>cases Uk|xA a b=>cases Uk|gh a b=>cases Uk)
 have a27:Ctx.Ul (keys bl') (back ids dd) ⟨ν',(⟨[],bl'⟩:St).D,w',⟨S',aL w (cxC S s ν ids)⟩⟩ ⟨kb ν ν' dd bl',(⟨[],fW s dd ids bl'⟩:St).D,w',⟨S',aL w0 S0⟩⟩:=⟨fun _ _=>rfl,fun _ h=>h,fun i _⟨b,hb⟩=>⟨_,O8 i b hb⟩,fun i _⟨b,hb⟩=>ye i b hb⟩
 (have AL:r8 ⟨[],fW s dd ids bl'⟩ (kb ν ν' dd bl') w' ⟨S',aL w0 S0⟩:=by refine⟨hW.lt,fun b hb=>h.W.size b (Nat.le_trans hk.size hb),fun i b hb=>?_,fun i j b c fi hi hj g hg fh=>?_⟩;(·rcases yf i b hb with⟨k,c,rfl,hc,rfl⟩|⟨hi,b0,iO,rfl⟩;(·have hr:=hW.cv k c hc;exact oR a27 (p6 (fun i hi=>hi) hr) (ye k c hc) (fun g hg=>⟨rfl,l8 g (gG hr hg).1,(gG hr hg).2.1⟩) hr);·refine Be a26 UA rfl (oS i ⟨b0,iO⟩) (fun g hg=>?_) (h.W.cv i b0 iO);obtain⟨g1,g2,g3⟩:=h.iu iO hg;(have UT: ¬fU (uD ν ids) (passed ids s.bl ids P0) g:=by intro hf;obtain⟨j,c0,hj,sm,xR⟩:=sS hf;exact h.W.ne i j b0 c0 (by rintro rfl;rw[hi]at hj;cases hj) iO sm g hg xR);refine⟨hk.block g g3 UT,fun _ OT=>?_⟩;rcases h2 g OT with h'|h'|h';(·exact g2 h');(·omega);·exact UT h');·(have AB: ∀(k:Nat)(c:aO)(j:Nat)(c0:aO),look k bl'=some c→ak j ids=false→look j s.bl=some c0→aE (ν' k)=some g→aE (ν j)=some g→False:=by intro k c j c0 hc hj sm xT xR;obtain⟨g1,g2,g3⟩:=h.iu sm xR;rcases(gG (hW.cv k c hc) xT).1 with h'|h';(·exact absurd g3 (Nat.not_lt.2 h'));·obtain⟨j',c0',Aj,bi1,bi2⟩:=sS h';exact h.W.ne j j' c0 c0' (by rintro rfl;rw[hj]at Aj;cases Aj) sm bi1 g xR bi2);rcases yf i b hi with⟨k,c1,rfl,HO,_⟩|⟨hi1,b0,iO,_⟩;(·rw[ye k c1 HO]at hg;rcases yf j c hj with⟨l,c2,rfl,hc2,_⟩|⟨hj1,c0,sm,_⟩;(·rw[ye l c2 hc2]at fh;exact hW.ne k l c1 c2 (fun e=>fi (by rw[e])) HO hc2 g hg fh);·rw[oS j ⟨c0,sm⟩]at fh;exact AB k c1 j c0 HO hj1 sm hg fh);·rw[oS i ⟨b0,iO⟩]at hg;rcases yf j c hj with⟨l,c2,rfl,hc2,_⟩|⟨hj1,c0,sm,_⟩;(·rw[ye l c2 hc2]at fh;exact AB l c2 i b0 hc2 hi1 iO fh hg);·rw[oS j ⟨c0,sm⟩]at fh;exact h.W.ne i j b0 c0 fi iO sm g hg fh)
 (have au8:(s.eb d ids p bl').D=(⟨[],fW s dd ids bl'⟩:St).D:=by unfold St.D;rw[jW]);refine⟨kb ν ν' dd bl',⟨⟨hk.os.trans h.below.os,hk.tape.trans h.below.tape,hk.output.trans h.below.output,Nat.le_trans h.below.size hk.size,fun b hb hx=>?_,fun hd=>Nat.le_trans (h.below.drawn hd) (hk.drawn hd)⟩,fun b hb=>h1 b (h.Ay b hb),fun b hb=>?_,⟨AL.lt,AL.size,fun i b hb=>?_,fun i j b c fi hi hj=>?_⟩,fun t=>?_,?_,?_,h.qV,fun i hi Bd=>?_,h.CO⟩⟩
 (·rw[hk.block b (Nat.lt_of_lt_of_le hb h.below.size) (fun hf=>?_),h.below.block b hb hx];rcases(O9 b hf).1 with h'|h';(·omega);·exact hx h');(·rcases h2 b hb with h'|h';(·exact h.fresh b h');·exact .inr (l8 b h'))
 (·rw[jW]at hb;rw[au8];exact AL.cv i b hb);(·rw[jW]at hi hj;exact AL.ne i j b c fi hi hj);(·rw[au8,jL t];have hold:ag ⟨kb ν ν' dd bl',(⟨[],fW s dd ids bl'⟩:St).D,w',⟨S',aL w0 S0⟩⟩ ((s.get t).kill (cM bl' ids P0)) (a.tmps.getD t undef):=uk a26 UA (h.eU t);cases d with|none=>exact hold|some e=>by_cases ht:t=e;(·subst ht;simp only[if_true];have htn:=hd t rfl;(have:(a.put (some t) v).tmps.getD t undef=v:=by simp[Act.put,h.size,htn]);rw[this];exact iy a27 (mz (fun i hi=>hi) hp) hp);·show ag _ (if t=e then p.dV (back ids dd)else(s.get t).kill (cM bl' ids P0)) _;rw[if_neg ht];(have:(a.put (some e) v).tmps.getD t undef=a.tmps.getD t undef:=by simp only[Act.put,Array.getD_eq_getD_getElem?];rw[Array.getElem?_setIfInBounds_ne (by omega)]);rw[this];exact hold)
 (·rw[sj];exact h.size);(·rw[ng];exact h.defers);·rw[au8]at Bd;obtain⟨b,hb⟩:=Bd;rcases yf i b hb with⟨k,c,rfl,hc,_⟩|⟨_,b0,iO,_⟩;(·rcases iw k c hc with⟨a1,a2,b0,a3⟩|⟨a1,_,a2,a3,a4⟩;(·rw[np a1]at hi⊢;rw[oS _ ⟨b0,a3⟩];exact h.kept _ hi ⟨b0,a3⟩);·rw[p7 a1]at hi;omega);·rw[oS i ⟨b0,iO⟩];exact h.kept i hi ⟨b0,iO⟩
end
end Go.Proofs.YtgpkijnphchkpaaGreat
