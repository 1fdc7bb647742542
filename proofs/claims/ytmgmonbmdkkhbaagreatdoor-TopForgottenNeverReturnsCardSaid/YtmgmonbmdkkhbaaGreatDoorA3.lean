/-
  What a callee leaves that was handed local blocks. Nothing here is trusted; no condition.
-/
import Derived.Test.YtmgmonbmdkkhbaaGreatDoorA2
import Derived.Laws.Closers25b
import Derived.ChangeKeysEq
import Derived.Laws.BytesArg
import Derived.Lib.AppendZerosOnto
import Derived.MapKept
import Derived.Maps.RangeRun
set_option linter.unusedSimpArgs false
set_option linter.unusedVariables false
namespace Go.Proofs.YtmgmonbmdkkhbaaGreatDoor
variable {c8:Prop} [hZ c8]
open Go.RowKit
theorem eg(k:IntKind) {n:Int} (h:k.min≤n∧n≤k.max):k.wrap n=n:=by obtain⟨h1,h2⟩:=h;cases k<;>simp[IntKind.min,IntKind.max,IntKind.wrap,IntKind.bits,IntKind.signed]at* <;>omega
theorem gF(k:IntKind):k.min≤0:=by cases k<;>decide
theorem l4(k:IntKind):0≤k.max:=by cases k<;>decide
theorem jq(P:Program)(w:World)(op:BinOp)(t:Nat)(x y:Operand)(k l:IntKind)(m n:Int):(eqGuard op t x y (.int k m) (.int l n)).run P w= .ok () w:=by
 unfold eqGuard;simp only[Sem.run_ite];split<;>rfl
theorem Ac(P:Program)(w:World)(op:BinOp)(t:Nat)(x y:Operand)(m n:ByteArray):(eqGuard op t x y (.string m) (.string n)).run P w= .ok () w:=by
 unfold eqGuard;simp only[Sem.run_ite];split<;>rfl
theorem pa(P:Program)(w:World)(op:BinOp)(t:Nat)(x y:Operand)(m n:Bool):(eqGuard op t x y (.bool m) (.bool n)).run P w= .ok () w:=by
 unfold eqGuard;simp only[Sem.run_ite];split<;>rfl
theorem max_lt(k:IntKind):k.max<2^k.bits:=by cases k<;>decide
theorem jr(k:IntKind) {x:Int} (h0:0≤x)(h1:x≤k.max):(BitVec.ofInt k.bits x).toNat=x.toNat:=by
 have h2:=max_lt k;rw[BitVec.toNat_ofInt];have h3:x%((2^k.bits:Nat):Int)=x:=Int.emod_eq_of_lt h0 (by push_cast;omega);rw[h3]
theorem LR {E:Env} {c:Ctx} {op:BinOp} {k:IntKind} {x y:Int} {t:Nat} {w:World} {Kl:Out→Prop} (hx:k.min≤x∧x≤k.max)(hy:k.min≤y∧y≤k.max)(h:aR E (lH op k x y) Kl): ∃p v,Kl (.val p)∧ag c p v∧(binOp op t (.int k x) (.int k y)).run E.P w= .ok v w:=by
 have hmn:=gF k;(have tz: ∀(r:Int),(∃v,(binOp op t (.int k x) (.int k y)).run E.P w= .ok v w∧v= .int k (k.wrap r))→aR E (arith k r) Kl→ ∃p v,Kl (.val p)∧ag c p v∧(binOp op t (.int k x) (.int k y)).run E.P w= .ok v w:=by rintro r⟨v,hv,rfl⟩⟨hr,hK⟩;exact⟨_,_,hK,bZ hr,by rw[hv,eg k hr]⟩)
 (have mX: ∀(b:Bool),(binOp op t (.int k x) (.int k y)).run E.P w= .ok (.bool b) w→aR E (eU b) Kl→ ∃p v,Kl (.val p)∧ag c p v∧(binOp op t (.int k x) (.int k y)).run E.P w= .ok v w:=by intro b hb hK;exact⟨_,_,hK,bz,hb⟩)
 cases op<;>simp only[lH]at h;(case add=>exact tz _ ⟨_,by simp[binOp,Op.intArith],rfl⟩ h);(case sub=>exact tz _ ⟨_,by simp[binOp,Op.intArith],rfl⟩ h);(case mul=>exact tz _ ⟨_,by simp[binOp,Op.intArith],rfl⟩ h)
 (case quo=>obtain⟨⟨h0,h1⟩,hK⟩:=h;(have hq:k.min≤x/y∧x/y≤k.max:=by have e1:0≤x/y:=Int.ediv_nonneg h0 (by omega);have e2:x/y≤x:=Int.ediv_le_self _ h0;omega);refine⟨_,_,hK,bZ hq,?_⟩;simp only[binOp,ne_eq,not_true_eq_false,if_false,Op.intDiv];rw[if_neg (by omega)];simp only[Sem.run_pure,Int.tdiv_eq_ediv_of_nonneg h0,eg k hq])
 (case rem=>obtain⟨⟨h0,h1⟩,hK⟩:=h;(have hq:k.min≤x%y∧x%y≤k.max:=by have e1:0≤x%y:=Int.emod_nonneg _ (by omega);have e2:x%y<y:=Int.emod_lt_of_pos _ h1;omega);refine⟨_,_,hK,bZ hq,?_⟩;simp only[binOp,ne_eq,not_true_eq_false,if_false,Op.intDiv];rw[if_neg (by omega)];simp only[Sem.run_pure,Int.tmod_eq_emod_of_nonneg h0])
 (case and=>obtain⟨⟨h0,h1⟩,hK⟩:=h;have e1:x.toNat &&& y.toNat≤x.toNat:=Nat.and_le_left;(have hr:k.min≤((x.toNat &&& y.toNat:Nat):Int)∧((x.toNat &&& y.toNat:Nat):Int)≤k.max:=by omega);refine⟨_,_,hK,bZ hr,?_⟩;simp only[binOp,ne_eq,not_true_eq_false,if_false,Op.intBits,Sem.run_pure,BitVec.toNat_and,jr k h0 hx.2,jr k h1 hy.2,eg k hr])
 (case or=>obtain⟨⟨h0,h1⟩,hK⟩:=h;(have hr:k.min≤((x.toNat ||| y.toNat:Nat):Int)∧((x.toNat ||| y.toNat:Nat):Int)≤k.max:=by refine⟨by omega,?_⟩;(have hp: ∃b:Nat,k.max=((2^b-1:Nat):Int):=by cases k;(·exact⟨7,by decide⟩);(·exact⟨15,by decide⟩);(·exact⟨31,by decide⟩);(·exact⟨63,by decide⟩);(·exact⟨8,by decide⟩);(·exact⟨16,by decide⟩);(·exact⟨32,by decide⟩);·exact⟨64,by decide⟩);obtain⟨b,hb⟩:=hp;have qH:0<2^b:=Nat.two_pow_pos b;have:x.toNat ||| y.toNat<2^b:=Nat.or_lt_two_pow (by omega) (by omega);omega);refine⟨_,_,hK,bZ hr,?_⟩;simp only[binOp,ne_eq,not_true_eq_false,if_false,Op.intBits,Sem.run_pure,BitVec.toNat_or,jr k h0 hx.2,jr k h1 hy.2,eg k hr])
 (case lss=>exact mX _ (by simp[binOp,Op.intCmp]) h);(case leq=>exact mX _ (by simp[binOp,Op.intCmp]) h);(case gtr=>exact mX _ (by simp[binOp,Op.intCmp]) h);(case geq=>exact mX _ (by simp[binOp,Op.intCmp]) h)
 (case eql=>refine mX _ ?_ h;simp only[binOp,ne_eq,not_true_eq_false,if_false,Op.intCmp,Sem.run_pure];rfl);(case neq=>refine mX _ ?_ h;simp only[binOp,ne_eq,not_true_eq_false,if_false,Op.intCmp,Sem.run_pure];rfl)
 all_goals exact h.elim
theorem Fq {E:Env} {c:Ctx} {op:BinOp} {k l:IntKind} {x y:Int} {t:Nat} {w:World} {Kl:Out→Prop} (hx:k.min≤x∧x≤k.max)(h:aR E (iD op k x y) Kl): ∃p v,Kl (.val p)∧ag c p v∧(binOp op t (.int k x) (.int l y)).run E.P w= .ok v w:=by
 have hmn:=gF k;cases op<;>simp only[iD]at h;(case shl=>obtain⟨⟨h0,h1⟩,hr,hK⟩:=h;refine⟨_,_,hK,bZ hr,?_⟩;simp only[binOp,Op.shift];rw[if_neg (by omega)];(have e1:min y.toNat k.bits=y.toNat:=by omega);simp only[e1,Sem.run_pure,eg k hr])
 (case shr=>obtain⟨⟨Lh,h0,h1⟩,hK⟩:=h;have qH:(0:Int)<2^y.toNat:=Int.pow_pos (by omega);(have hq:k.min≤x/2^y.toNat∧x/2^y.toNat≤k.max:=by have e1:0≤x/2^y.toNat:=Int.ediv_nonneg Lh (by omega);have e2:x/2^y.toNat≤x:=Int.ediv_le_self _ Lh;omega);refine⟨_,_,hK,bZ hq,?_⟩;simp only[binOp,Op.shift];rw[if_neg (by omega)];(have e1:min y.toNat k.bits=y.toNat:=by omega);simp only[e1,Sem.run_pure];rw[Int.fdiv_eq_ediv_of_nonneg _ (by omega)])
 all_goals exact h.elim
theorem toList_mk(x:List UInt8):(⟨x.toArray⟩:ByteArray).toList=x:=by rw[ByteArray.toList_eq]
theorem xO: ∀(x y:List UInt8),Op.bytesLess x y=bytesLess x y|_,[]=>(by simp[Op.bytesLess,bytesLess])|[],_::_=>(by simp[Op.bytesLess,bytesLess])|a::x,b::y=>by simp only[Op.bytesLess,bytesLess,xO x y]
theorem LS {E:Env} {c:Ctx} {op:BinOp} {x y:List UInt8} {t:Nat} {w:World} {Kl:Out→Prop} (h:aR E (lI op x y) Kl): ∃p v,Kl (.val p)∧ag c p v∧(binOp op t (.string ⟨x.toArray⟩) (.string ⟨y.toArray⟩)).run E.P w= .ok v w:=by
 cases op<;>simp only[lI]at h;(case add=>obtain⟨hl,hK⟩:=h;refine⟨_,_,hK,lY (by rw[List.length_append];exact hl),?_⟩;(have e1:(⟨x.toArray⟩:ByteArray).size=x.length:=by simp[ByteArray.size]);(have e2:(⟨y.toArray⟩:ByteArray).size=y.length:=by simp[ByteArray.size]);(have e3:(⟨x.toArray⟩:ByteArray)++⟨y.toArray⟩=⟨(x++y).toArray⟩:=by apply ByteArray.ext;rw[ByteArray.data_append];simp);simp only[binOp,Op.stringOp,e1,e2,e3,Sem.run_ite];rw[if_neg (by simp[IntKind.max,IntKind.signed,IntKind.bits];omega)];rfl)
 (case eql=>refine⟨_,_,h,bz,?_⟩;(have e:(x==y)=decide (x=y):=by rw[Bool.eq_iff_iff];simp);simp only[binOp,Op.stringOp,toList_mk,Sem.run_pure,e]);(case neq=>refine⟨_,_,h,bz,?_⟩;(have e:(x==y)=decide (x=y):=by rw[Bool.eq_iff_iff];simp);simp only[binOp,Op.stringOp,toList_mk,Sem.run_pure,e])
 (case lss=>refine⟨_,_,h,bz,?_⟩;simp only[binOp,Op.stringOp,toList_mk,Sem.run_pure,xO]);(case geq=>refine⟨_,_,h,bz,?_⟩;simp only[binOp,Op.stringOp,toList_mk,Sem.run_pure,xO])
 all_goals exact h.elim
end Go.Proofs.YtmgmonbmdkkhbaaGreatDoor
namespace Go.Proofs.YtmgmonbmdkkhbaaGreatDoor
variable {c8:Prop} [hZ c8]
open Go.RowKit
section
variable {E:Env}
def iS(E:Env)(t:Nat):Ty→Prop|.int _=>True|.bool=>True|.str=>True|.st _=>E.cmp t=true|_=>False
theorem qM(hE:aE E) {t:Nat} (h:E.cmp t=true):(∃R,E.ty t=some (.st R))∧E.P.eqGuardType E.P.depth t=false∧((∃fs,E.P.underlying t=some (.struct fs)∧gm E.ty E.cmp fs.toList=true∧E.P.stoodInHeld t=false)∨ ∃m e,E.P.underlying t=some (.array m e)∧oX E.ty E.cmp e=true):=by
 have h1:=hE.cmp t h;simp only[DT,Bool.and_eq_true,Bool.not_eq_true']at h1;obtain⟨h1,h4⟩:=h1;split at h1;(·rename_i fs R hu hT;simp only[Bool.and_eq_true,Bool.not_eq_true']at h1;exact⟨⟨R,hT⟩,h4,.inl ⟨fs,hu,h1.1.1,h1.2⟩⟩)
 (·rename_i m e R hu hT;exact⟨⟨R,hT⟩,h4,.inr ⟨m,e,hu,h1⟩⟩);·cases h1
theorem Fs(hE:aE E) {w:World} {M:Mem} {d:Nat} (ih: ∀(T:Ty)(t:Nat)(x y:T.den)(v u:Value)(r:Bool),b5 E t T→iS E t T→cw T x w M v→cw T y w M u→iC T x y=some r→dep T≤d→(Op.equalIn (d+1) t v u).run E.P w= .ok r w): ∀(fs:List Field)(R:Ty)(off:Nat),bp E.ty fs R off=true→gm E.ty E.cmp fs=true→ ∀(x y:R.den)(r:Bool)(xs ys:Array Value),dep R≤d→off+R.cells≤xs.size→off+R.cells≤ys.size→aA R x w M ((xs.toList.drop off).take R.cells)→aA R y w M ((ys.toList.drop off).take R.cells)→iC R x y=some r→(Op.eqFields (d+1) xs ys fs).run E.P w= .ok r w:=by
 (have one: ∀(f:Field)(T:Ty)(off:Nat)(x y:T.den)(r:Bool)(xs ys:Array Value),Nat.beq f.offset off=true→lS E.ty f.type T=true→(match E.ty f.type with|some (.int _)=>true|some .bool=>true|some .str=>true|some (.st _)=>E.cmp f.type|_=>false)=true→dep T≤d→off+T.cells≤xs.size→off+T.cells≤ys.size→aA T x w M ((xs.toList.drop off).take T.cells)→aA T y w M ((ys.toList.drop off).take T.cells)→iC T x y=some r→ ∃v u,(Go.part f.type xs f.offset).run E.P w= .ok v w∧(Go.part f.type ys f.offset).run E.P w= .ok u w∧(Op.equalIn (d+1) f.type v u).run E.P w= .ok r w:=by intro f T off x y r xs ys h1 h2 hc hd hx hy xP Cp hb;have kC:=Nat.eq_of_beq_eq_true h1;(have hT:E.ty f.type=some T:=by unfold lS at h2;split at h2;(·rename_i U hU;rw[Ty.ct h2]at hU;exact hU);·cases h2);have hf:=hE.facts hT;rw[hT]at hc;(have hk:iS E f.type T:=by cases T<;>first|trivial|exact hc|cases hc);(have y4: ∀(z:T.den)(vs:List Value),aA T z w M vs→cw T z w M (valOf T vs):=by intro z vs hr;have:=fy hf.val hr;have hv:=hf.val;cases T<;>first|exact this|cases hv);exact⟨_,_,by rw[kC];exact gE hf hx,by rw[kC];exact gE hf hy,ih T f.type x y _ _ r hf hk (y4 x _ xP) (y4 y _ Cp) hb hd⟩)
 intro fs;induction fs with|nil=>intro R off h;cases h|cons f fs YT=>intro R off h hc x y r xs ys hd hx hy xP Cp hb;simp only[gm,Bool.and_eq_true]at hc;cases fs with|nil=>simp only[bp,Bool.and_eq_true]at h;obtain⟨⟨⟨⟨h1,h2⟩,h3⟩,h4⟩,h5⟩:=h;obtain⟨v,u,e1,e2,e3⟩:=one f R off x y r xs ys h1 h2 hc.1 hd hx hy xP Cp hb;(have hn:f.name≠ "_" :=by simpa using h5);simp only[Op.eqFields];rw[if_pos hn];simp only[Sem.run_bind,e1,e2,e3,Result.andThen_ok,Sem.run_ite];cases r<;>simp|cons g gs=>cases R with|pair a b=>have h':=h;simp only[bp,Bool.and_eq_true]at h;obtain⟨⟨⟨⟨⟨h1,h2⟩,h3⟩,h4⟩,h5⟩,h6⟩:=h;simp only[iC]at hb;split at hb;(·rename_i p q hp hq;simp only[Option.some.injEq]at hb;(have hda:dep a≤d:=by simp only[dep]at hd;omega);(have hdb:dep b≤d:=by simp only[dep]at hd;omega);simp only[Ty.cells]at hx hy xP Cp;obtain⟨va,vb,hv,Cc,DS⟩:=xP;obtain⟨ua,ub,hu,RL,YU⟩:=Cp;(have split: ∀(zs:Array Value)(za zb:List Value),za.length=a.cells→zb.length=b.cells→(zs.toList.drop off).take (a.cells+b.cells)=za++zb→(zs.toList.drop off).take a.cells=za∧(zs.toList.drop (off+a.cells)).take b.cells=zb:=by intro zs za zb rZ Yb he;constructor;(·have:=congrArg (List.take a.cells) he;rw[List.take_take,Nat.min_eq_left (by omega),←rZ,List.take_left]at this;rw[←rZ];exact this);·have:=congrArg (List.drop a.cells) he;rw[List.drop_take,List.drop_drop,←rZ,List.drop_left]at this;rw[←rZ];rw[show za.length+b.cells-za.length=b.cells from by omega]at this;exact this);obtain⟨e1,e2⟩:=split xs va vb (bn _ _ _ _ _ Cc) (bn _ _ _ _ _ DS) hv;obtain⟨e3,e4⟩:=split ys ua ub (bn _ _ _ _ _ RL) (bn _ _ _ _ _ YU) hu;obtain⟨v,u,f1,f2,f3⟩:=one f a off x.1 y.1 p xs ys h1 h2 hc.1 hda (by omega) (by omega) (by rw[e1];exact Cc) (by rw[e3];exact RL) hp;have rest:=YT b (off+a.cells) (by unfold bp;exact h6) hc.2 x.2 y.2 q xs ys hdb (by omega) (by omega) (by rw[e2];exact DS) (by rw[e4];exact YU) hq;(have hn:f.name≠ "_" :=by simpa using h5);rw[Op.eqFields];rw[if_pos hn];simp only[Sem.run_bind,f1,f2,f3,Result.andThen_ok,Sem.run_ite];subst hb;cases p;(·simp);·simpa using rest);(·cases hb)|_=>simp only[bp]at h;cases h
theorem Hy(hE:aE E) {w:World} {M:Mem} {d:Nat} {e:Nat} {V:Ty} (hV:E.ty e=some V)(hc:oX E.ty E.cmp e=true)(hdV:dep V≤d)(ih: ∀(T:Ty)(t:Nat)(x y:T.den)(v u:Value)(r:Bool),b5 E t T→iS E t T→cw T x w M v→cw T y w M u→iC T x y=some r→dep T≤d→(Op.equalIn (d+1) t v u).run E.P w= .ok r w): ∀(m k:Nat)(x y:(rowOf V (m+1)).den)(r:Bool)(xs ys:Array Value),(k+(m+1))*V.cells≤xs.size→(k+(m+1))*V.cells≤ys.size→aA (rowOf V (m+1)) x w M ((xs.toList.drop (k*V.cells)).take ((m+1)*V.cells))→aA (rowOf V (m+1)) y w M ((ys.toList.drop (k*V.cells)).take ((m+1)*V.cells))→iC (rowOf V (m+1)) x y=some r→(Op.eqItems (d+1) e V.cells xs ys (List.range' k (m+1))).run E.P w= .ok r w:=by
 have hf:=hE.facts hV;(have hk:iS E e V:=by unfold oX at hc;rw[hV]at hc;cases V<;>first|trivial|exact hc|cases hc);(have y4: ∀(z:V.den)(vs:List Value),aA V z w M vs→cw V z w M (valOf V vs):=by intro z vs hr;have:=fy hf.val hr;have hv:=hf.val;cases V<;>first|exact this|cases hv)
 (have one: ∀(k:Nat)(x y:V.den)(r:Bool)(xs ys:Array Value),(k+1)*V.cells≤xs.size→(k+1)*V.cells≤ys.size→aA V x w M ((xs.toList.drop (k*V.cells)).take V.cells)→aA V y w M ((ys.toList.drop (k*V.cells)).take V.cells)→iC V x y=some r→ ∃v u,(Go.part e xs (k*V.cells)).run E.P w= .ok v w∧(Go.part e ys (k*V.cells)).run E.P w= .ok u w∧(Op.equalIn (d+1) e v u).run E.P w= .ok r w:=by intro k x y r xs ys hx hy xP Cp hb;rw[Nat.add_mul,Nat.one_mul]at hx hy;exact⟨_,_,gE hf hx,gE hf hy,ih V e x y _ _ r hf hk (y4 x _ xP) (y4 y _ Cp) hb hdV⟩)
 intro m;induction m with|zero=>intro k x y r xs ys hx hy xP Cp hb;simp only[Nat.zero_add,Nat.one_mul]at xP Cp;obtain⟨v,u,e1,e2,e3⟩:=one k x y r xs ys hx hy xP Cp hb;rw[List.range'_succ,List.range'_zero];simp only[Op.eqItems,Sem.run_bind,e1,e2,e3,Result.andThen_ok,Sem.run_ite];cases r<;>simp|succ m ihm=>intro k x y r xs ys hx hy xP Cp hb;simp only[rowOf,iC]at hb;split at hb;(·rename_i p q hp hq;simp only[Option.some.injEq]at hb;obtain⟨va,vb,hv,Cc,DS⟩:=xP;obtain⟨ua,ub,hu,RL,YU⟩:=Cp;have rZ:=bn _ _ _ _ _ Cc;have Yb:=bn _ _ _ _ _ DS;have am1:=bn _ _ _ _ _ RL;have az3:=bn _ _ _ _ _ YU;(have split: ∀(zs:Array Value)(za zb:List Value),za.length=V.cells→(zs.toList.drop (k*V.cells)).take ((m+1+1)*V.cells)=za++zb→(zs.toList.drop (k*V.cells)).take V.cells=za∧(zs.toList.drop ((k+1)*V.cells)).take ((m+1)*V.cells)=zb:=by intro zs za zb rZ he;have hle:V.cells≤(m+1+1)*V.cells:=Nat.le_mul_of_pos_left _ (by omega);constructor;(·have:=congrArg (List.take V.cells) he;rw[List.take_take,Nat.min_eq_left hle,←rZ,List.take_left]at this;rw[←rZ];exact this);·have:=congrArg (List.drop V.cells) he;rw[List.drop_take,List.drop_drop,←rZ,List.drop_left,rZ]at this;rw[show(m+1+1)*V.cells-V.cells=(m+1)*V.cells from by rw[Nat.add_mul (m+1) 1];omega,show k*V.cells+V.cells=(k+1)*V.cells from by rw[Nat.add_mul,Nat.one_mul]]at this;exact this);obtain⟨e1,e2⟩:=split xs va vb rZ hv;obtain⟨e3,e4⟩:=split ys ua ub am1 hu;have hmul:(k+1)*V.cells≤(k+(m+1+1))*V.cells:=Nat.mul_le_mul_right _ (by omega);obtain⟨v,u,f1,f2,f3⟩:=one k x.1 y.1 p xs ys (by omega) (by omega) (by rw[e1];exact Cc) (by rw[e3];exact RL) hp;have rest:=ihm (k+1) x.2 y.2 q xs ys (by rw[show k+1+(m+1)=k+(m+1+1)from by omega];exact hx) (by rw[show k+1+(m+1)=k+(m+1+1)from by omega];exact hy) (by rw[e2];exact DS) (by rw[e4];exact YU) hq;rw[List.range'_succ];simp only[Op.eqItems,Sem.run_bind,f1,f2,f3,Result.andThen_ok,Sem.run_ite];subst hb;cases p;(·simp);·simpa using rest);·cases hb
theorem Hz(hE:aE E) {w:World} {M:Mem} : ∀(d:Nat)(T:Ty)(t:Nat)(x y:T.den)(v u:Value)(r:Bool),b5 E t T→iS E t T→cw T x w M v→cw T y w M u→iC T x y=some r→dep T≤d→(Op.equalIn (d+1) t v u).run E.P w= .ok r w:=by
 intro d;induction d with|zero=>intro T t x y v u r hf hk hv hu hb hd;(cases T with|int k=>obtain⟨hv,_⟩:=hv;injection hv with hv;subst hv;obtain⟨hu,_⟩:=hu;injection hu with hu;subst hu;obtain⟨dd,hu,hs⟩:=hf.nJ;(cases dd<;>first|cases hs|skip);rename_i k';simp only[iC,Option.some.injEq]at hb;subst hb;rw[run_equalIn_int _ _ _ _ _ _ _ hu];rfl|bool=>obtain⟨rfl⟩:=hv;obtain⟨rfl⟩:=hu;obtain⟨dd,hu,hs⟩:=hf.nJ;(have mY:dd= .bool:=by cases dd<;>first|rfl|cases hs);subst mY;simp only[iC,Option.some.injEq]at hb;subst hb;exact run_equalIn_bool' _ _ _ _ _ hu|str=>obtain⟨hv,_⟩:=hv;injection hv with hv;subst hv;obtain⟨hu,_⟩:=hu;injection hu with hu;subst hu;obtain⟨dd,hu,hs⟩:=hf.nJ;(have mY:dd= .string:=by cases dd<;>first|rfl|cases hs);subst mY;simp only[iC,Option.some.injEq]at hb;subst hb;rw[run_equalIn_string _ _ _ _ _ hu,toList_mk,toList_mk];(have e:(x==y)=decide (x=y):=by rw[Bool.eq_iff_iff];simp);rw[e]|st R=>simp only[dep]at hd;omega|_=>cases hk)|succ d ih=>intro T t x y v u r hf hk hv hu hb hd;cases T with|int k=>obtain⟨hv,_⟩:=hv;injection hv with hv;subst hv;obtain⟨hu,_⟩:=hu;injection hu with hu;subst hu;obtain⟨dd,hu,hs⟩:=hf.nJ;(cases dd<;>first|cases hs|skip);rename_i k';simp only[iC,Option.some.injEq]at hb;subst hb;rw[run_equalIn_int _ _ _ _ _ _ _ hu];rfl|bool=>obtain⟨rfl⟩:=hv;obtain⟨rfl⟩:=hu;obtain⟨dd,hu,hs⟩:=hf.nJ;(have mY:dd= .bool:=by cases dd<;>first|rfl|cases hs);subst mY;simp only[iC,Option.some.injEq]at hb;subst hb;exact run_equalIn_bool' _ _ _ _ _ hu|str=>obtain⟨hv,_⟩:=hv;injection hv with hv;subst hv;obtain⟨hu,_⟩:=hu;injection hu with hu;subst hu;obtain⟨dd,hu,hs⟩:=hf.nJ;(have mY:dd= .string:=by cases dd<;>first|rfl|cases hs);subst mY;simp only[iC,Option.some.injEq]at hb;subst hb;rw[run_equalIn_string _ _ _ _ _ hu,toList_mk,toList_mk];(have e:(x==y)=decide (x=y):=by rw[Bool.eq_iff_iff];simp);rw[e]|st R=>obtain⟨⟨R',hT'⟩,_,YV⟩:=qM hE hk;obtain⟨vs,rfl,y4⟩:=hv;obtain⟨us,rfl,RM⟩:=hu;rcases YV with⟨fs,Cq,SZ,fW⟩|⟨m,e,Cq,SZ⟩;(case inr=>rcases hf.agg hE with⟨fs,tA,_⟩|⟨m',e',V,tA,hV,rfl,hVv,hV1,hm⟩;(·rw[Cq]at tA;cases tA);·rw[Cq]at tA;injection tA with tA;injection tA with h1 h2;subst h1;subst h2;obtain⟨i,hi,cM,_⟩:=(hE.facts hV).info;(have dJ:E.P.cellsOf e=V.cells:=by simp[Program.cellsOf,hi,cM]);rw[run_equalIn_array w (d+1) vs.toArray us.toArray Cq hi,dJ,List.range_eq_range'];obtain⟨m,rfl⟩: ∃k,m=k+1:=⟨m-1,by omega⟩;(have hlen: ∀(V:Ty)(k:Nat),(rowOf V k).cells=k*V.cells:=by intro V k;induction k with|zero=>simp[rowOf,Ty.cells]|succ k ih=>cases k with|zero=>simp[rowOf]|succ k=>simp only[rowOf,Ty.cells,ih,Nat.add_mul];omega);(have LU: ∀(V:Ty)(k:Nat),dep V≤dep (rowOf V (k+1)):=by intro V k;cases k with|zero=>exact Nat.le_refl _|succ k=>simp only[rowOf,dep];omega);have l1:=bn _ _ _ _ _ y4;have l2:=bn _ _ _ _ _ RM;rw[hlen]at l1 l2;have y2:=LU V m;simp only[dep]at hd;refine Hy hE hV SZ (by omega) ih m 0 x y r vs.toArray us.toArray (by simp[l1]) (by simp[l2]) ?_ ?_ hb;(·simpa[List.take_of_length_le (Nat.le_of_eq l1)]using y4);·simpa[List.take_of_length_le (Nat.le_of_eq l2)]using RM);(have Lc:E.P.fieldsOf t=fs:=by simp[Program.fieldsOf,Cq]);(have cP:bp E.ty fs.toList R 0=true:=by obtain⟨dd,DV,hs⟩:=hf.nJ;rw[Cq]at DV;injection DV with DV;subst DV;exact hs);rw[run_equalIn_struct w (d+1) t vs.toArray us.toArray (by rw[Lc];exact Cq) fW,Lc];have l1:=bn _ _ _ _ _ y4;have l2:=bn _ _ _ _ _ RM;refine Fs hE ih fs.toList R 0 cP SZ x y r vs.toArray us.toArray (by simp only[dep]at hd;omega) (by simp[l1]) (by simp[l2]) ?_ ?_ hb;(·simpa[List.take_of_length_le (Nat.le_of_eq l1)]using y4);(·simpa[List.take_of_length_le (Nat.le_of_eq l2)]using RM)|_=>cases hk
theorem r5 {P:Program} (w:World)(d:Nat) {t e:TypeId} (x:Option Addr)(hu:P.underlying t=some (.pointer e)):(Op.equalIn (d+1) t (.pointer x) (.pointer none)).run P w= .ok x.isNone w:=by
 unfold Op.equalIn;cases x<;>simp[run_underlying hu]
theorem HA(hE:aE E) {n:Nat} {w0:World} {S0:Cx} {s:St} {a:Act} {w:World} {ν:Nat→Value} {S:Nat→Prop} {F:cG} (h:Full n w0 S0 s a w ν S) {t:Nat} {neg:Bool} {p q:PV} {v u:Value} {xo yo:Operand} {Kl:Out→Prop} (hp:ag h.c p v)(hq:ag h.c q u)(ab:aR E (lJ E F s.bl t neg p q) Kl): ∃r v',Kl (.val r)∧ag h.c r v'∧(do eqGuard (if neg then .neq else .eql) t xo yo v u;binOp (if neg then .neq else .eql) t v u:Go.Sem Value).run E.P w= .ok v' w:=by
 unfold lJ at ab;split at ab;(·rename_i T hT;split at ab;(·rename_i r vJ;unfold B5 at vJ;split at vJ;(case h_2=>cases vJ);rename_i U;split at vJ;(case h_2=>cases vJ);obtain⟨dd,Ft,hs⟩:=(hE.facts hT).nJ;(obtain⟨e,rfl⟩: ∃e,dd= .pointer e:=by cases dd<;>first|exact⟨_,rfl⟩|cases hs);simp only[ag]at hq;subst hq;(have fin: ∀(ad:Option Addr),v= .pointer ad→r=ad.isNone→ ∃r v',Kl (.val r)∧ag h.c r v'∧(do eqGuard (if neg then .neq else .eql) t xo yo v (.pointer none);binOp (if neg then .neq else .eql) t v (.pointer none):Go.Sem Value).run E.P w= .ok v' w:=by intro ad hv hr;subst hv;subst hr;have he:=r5 (P:=E.P) w 9999 ad Ft;refine⟨_,.bool (iE neg ad.isNone),ab,bz,?_⟩;cases neg<;>simp[eqGuard,binOp,Op.equal,Op.maxDepth,he,iE]);split at vJ;(·simp only[ag]at hp;injection vJ with vJ;exact fin none hp vJ.symm);(·simp only[ag,jD,cw,aA]at hp;obtain⟨_,g,ob,cs,hv,_⟩:=hp;simp only[List.cons.injEq,and_true]at hv;injection vJ with vJ;exact fin _ hv vJ.symm);(·simp only[ag]at hp;obtain⟨_,g,ob,cs,hv,_⟩:=hp;injection vJ with vJ;exact fin _ hv vJ.symm);(·simp only[ag]at hp;obtain⟨_,g,_,hv⟩:=hp;injection vJ with vJ;exact fin _ hv vJ.symm);·cases vJ);split at ab;(·rename_i x y hx hy HB;split at ab;(·rename_i r hb;have hf:=hE.facts hT;have hR:Reads F s h.c ⟨fun b=>S b∨b<w.heap.size,aB w0 S0⟩:=⟨rfl,h.W.bM,fun b hb=>.inl hb,fun id _⟨b,hb⟩g hg=>.inr (h.fX hb hg).2.2⟩;have hv:=dX hR (.inl hf.own) hx hp;have hu:=dX hR (.inl hf.own) hy hq;cases T with|bool=>obtain⟨hv'⟩:=hv;obtain⟨mW⟩:=hu;obtain⟨dd,Ft,hs⟩:=hf.nJ;(have mY:dd= .bool:=by cases dd<;>first|rfl|cases hs);subst mY;simp only[iC,Option.some.injEq]at hb;subst hb;have he:=run_equalIn_bool' (P:=E.P) w 9999 t x y Ft;refine⟨_,_,ab,bz,?_⟩;cases neg;(·simp only[Bool.false_eq_true,if_false,Sem.run_bind,pa,Result.andThen_ok,binOp,Op.equal,Op.maxDepth,he,Sem.run_pure,iE]);(·simp only[if_true,Sem.run_bind,pa,Result.andThen_ok,binOp,Op.equal,Op.maxDepth,he,Sem.run_pure,iE])|st R=>simp only[G8,Bool.and_eq_true]at HB;obtain⟨_,Li,_⟩:=qM hE HB.1;have LU:=Nat.le_of_ble_eq_true HB.2;have he:(Op.equalIn 10000 t v u).run E.P w= .ok r w:=Hz hE 9999 (.st R) t x y v u r hf HB.1 hv hu hb (by simp only[dep];omega);obtain⟨vs,rfl,_⟩:=hv;obtain⟨us,rfl,_⟩:=hu;refine⟨_,_,ab,bz,?_⟩;cases neg;(·simp only[Bool.false_eq_true,if_false,Sem.run_bind,run_eqGuard_agg (P:=E.P) w _ t xo yo _ _ Li,Result.andThen_ok,run_eql_struct,he,iE]);(·simp only[if_true,Sem.run_bind,run_eqGuard_agg (P:=E.P) w _ t xo yo _ _ Li,Result.andThen_ok,run_neq_struct,he,iE])|_=>cases HB);·exact ab.elim);·exact ab.elim)
 ·exact ab.elim
end
end Go.Proofs.YtmgmonbmdkkhbaaGreatDoor
namespace Go.Proofs.YtmgmonbmdkkhbaaGreatDoor
variable {c8:Prop} [hZ c8]
open Go.RowKit
section
variable {E:Env} {n:Nat} {w0:World} {S0:Cx} {s:St} {a:Act} {w:World} {ν:Nat→Value} {S:Nat→Prop} {F:cG} {o:Oper} {K:St→Prop} {Q:Exit→Act→World→Prop}
theorem pb {P:Program} (w:World)(d:Nat) {t e:TypeId} (aa:Option Addr)(m cap:Nat)(hu:P.underlying t=some (.slice e)):(Op.equalIn (d+1) t (.slice aa m cap) (.slice none 0 0)).run P w= .ok aa.isNone w:=by
 unfold Op.equalIn;cases aa<;>simp[run_underlying hu]
theorem HD(hE:aE E)(h:Full n w0 S0 s a w ν S)(ho:bK n o=true) {op:BinOp} {t:Nat} {x y:Operand} {t2:Nat} (aK:o.op= .binOp op t x y t2)(ab:aR E (ai E F s o) (fun l=>K (s.fin o.dst l))):o.wp E.P a w (fun a' w'=> ∃s',K s'∧Rel n w0 S0 s' a' w') Q:=by
 simp only[ai,aK]at ab;have hx:=h.ev (aC ho (x:=x) (by simp[aK,Op.operands]));have hy:=h.ev (aC ho (x:=y) (by simp[aK,Op.operands]));(have fin: ∀(p:PV)(v:Value),K (s.fin o.dst (.val p))→ag h.c p v→(do eqGuard op t x y (a.eval x) (a.eval y);binOp op t (a.eval x) (a.eval y):Go.Sem Value).run E.P w= .ok v w→o.wp E.P a w (fun a' w'=> ∃s',K s'∧Rel n w0 S0 s' a' w') Q:=by intro p v hK hp hr;refine h.val ho (v:=v) ?_ hp hK;simp only[execOp,aK];rw[Sem.run_bind,hr];simp only[Result.andThen_ok,Sem.run_pure])
 (have YW: ∀(neg:Bool)(oo:Out),op=(if neg then .neq else .eql)→kp E F t neg (s.ev x) (s.ev y)=some oo→aR E oo (fun l=>K (s.fin o.dst l))→o.wp E.P a w (fun a' w'=> ∃s',K s'∧Rel n w0 S0 s' a' w') Q:=by intro neg oo HE hn hK;unfold kp at hn;split at hn;(case h_2=>cases hn);rename_i Cr;rw[Cr]at hy;simp only[ag]at hy;split at hn;(case h_2=>cases hn);rename_i U hT;obtain⟨e,hu,_⟩:=(hE.facts hT).elem hE;(have aX: ∀(aa:Option Addr)(m cap:Nat),a.eval x= .slice aa m cap→(do eqGuard op t x y (a.eval x) (a.eval y);binOp op t (a.eval x) (a.eval y):Go.Sem Value).run E.P w= .ok (.bool (iE neg aa.isNone)) w:=by intro aa m cap hv;rw[hv,hy,HE];have he:=pb (P:=E.P) w 9999 aa m cap hu;cases neg<;>simp[eqGuard,binOp,Op.equal,Op.maxDepth,he,iE]);split at hn;(·rename_i V xs tv;injection hn with hn;subst hn;rw[tv]at hx;simp only[ag]at hx;obtain⟨_,aa,cap,hv,hle,jP,cm⟩:=hx;injection hv with hv;refine fin _ _ (hK (iE neg aa.isNone) (fun hb=>?_)) bz (aX _ _ _ hv);rcases cm with rfl|⟨g,ob,rfl,_⟩;(·rfl);·cases neg<;>simp[iE]at hb);(·rename_i tv;injection hn with hn;subst hn;rw[tv]at hx;simp only[ag]at hx;exact fin _ _ hK bz (aX none 0 0 hx));·cases hn)
 split at ab;(·rename_i oo hn;unfold lK at hn;split at hn;(·exact YW false oo rfl hn ab);(·exact YW true oo rfl hn ab);·cases hn);simp only[sW]at ab;split at ab
 (·rename_i k m l m' tv Cr;rw[tv]at hx;rw[Cr]at hy;obtain⟨BY,xP⟩:=br hx;obtain⟨GS,Cp⟩:=br hy;split at ab;(·obtain⟨p,v,hK,hp,hr⟩:=Fq (c:=h.c) (l:=l) (t:=t) (w:=w) xP ab;refine fin p v hK hp ?_;simp only[BY,GS,Sem.run_bind,jq,Result.andThen_ok,hr]);·split at ab;(·rename_i hk;have tp:=de hk;subst tp;split at ab;(·rename_i y5;(have HE:op= .rem:=by simp only[Bool.and_eq_true]at y5;cases op<;>first|rfl|exact absurd y5.2 (by decide));subst HE;obtain⟨h0,hK⟩:=ab;change Int at m;change Int at m';have h0:(0:Int)<m':=h0;(have hq:k.min≤Int.tmod m m'∧Int.tmod m m'≤k.max:=by have hmn:=gF k;have SY:=l4 k;rcases Int.le_total 0 m with hm|hm;(·rw[Int.tmod_eq_emod_of_nonneg hm];have e1:0≤m%m':=Int.emod_nonneg _ (by omega);have e2:m%m'<m':=Int.emod_lt_of_pos _ h0;omega);·obtain⟨q,rfl⟩: ∃q,m= -q:=⟨-m,by omega⟩;rw[Int.neg_tmod,Int.tmod_eq_emod_of_nonneg (by omega)];have e1:0≤q%m':=Int.emod_nonneg _ (by omega);(have e2:q%m'≤q:=by rcases Int.lt_or_le q m' with h'|h';(·rw[Int.emod_eq_of_lt (by omega) h'];exact Int.le_refl _);·have:=Int.emod_lt_of_pos q h0;omega);omega);refine fin _ (.int k (Int.tmod m m')) hK (bZ hq) ?_;simp only[BY,GS,Sem.run_bind,jq,Result.andThen_ok,binOp,ne_eq,not_true_eq_false,if_false,Op.intDiv];rw[if_neg (by omega)];rfl);split at ab;(·rename_i y5;(have HE:op= .quo:=by simp only[Bool.and_eq_true]at y5;cases op<;>first|rfl|exact absurd y5.2 (by decide));subst HE;obtain⟨h0,hK⟩:=ab;change Int at m;change Int at m';have h0:(0:Int)<m':=h0;(have hq:k.min≤Int.tdiv m m'∧Int.tdiv m m'≤k.max:=by have hmn:=gF k;have SY:=l4 k;rcases Int.le_total 0 m with hm|hm;(·rw[Int.tdiv_eq_ediv_of_nonneg hm];have e1:0≤m/m':=Int.ediv_nonneg hm (by omega);have e2:m/m'≤m:=Int.ediv_le_self m' hm;omega);·obtain⟨q,rfl⟩: ∃q,m= -q:=⟨-m,by omega⟩;rw[Int.neg_tdiv,Int.tdiv_eq_ediv_of_nonneg (by omega)];have e1:0≤q/m':=Int.ediv_nonneg (by omega) (by omega);have e2:q/m'≤q:=Int.ediv_le_self m' (by omega);omega);refine fin _ (.int k (Int.tdiv m m')) hK (bZ hq) ?_;simp only[BY,GS,Sem.run_bind,jq,Result.andThen_ok,binOp,ne_eq,not_true_eq_false,if_false,Op.intDiv];rw[if_neg (by omega),eg k hq];rfl);·obtain⟨p,v,hK,hp,hr⟩:=LR (c:=h.c) (t:=t) (w:=w) xP Cp ab;refine fin p v hK hp ?_;simp only[BY,GS,Sem.run_bind,jq,Result.andThen_ok,hr]);·exact ab.elim)
 (·rename_i m m' tv Cr;rw[tv]at hx;rw[Cr]at hy;obtain⟨BY,xP⟩:=dk hx;obtain⟨GS,Cp⟩:=dk hy;obtain⟨p,v,hK,hp,hr⟩:=LS (c:=h.c) (t:=t) (w:=w) ab;refine fin p v hK hp ?_;simp only[BY,GS,Sem.run_bind,Ac,Result.andThen_ok,hr])
 ·split at ab;(·obtain⟨r,v',hK,hr,aX⟩:=HA hE h (neg:=false) (xo:=x) (yo:=y) hx hy ab;exact fin r v' hK hr aX);(·obtain⟨r,v',hK,hr,aX⟩:=HA hE h (neg:=true) (xo:=x) (yo:=y) hx hy ab;exact fin r v' hK hr aX);·exact ab.elim
theorem LV(h:Full n w0 S0 s a w ν S)(ho:bK n o=true) {op:UnOp} {t:Nat} {x:Operand} (aK:o.op= .unOp op t x)(ab:aR E (ai E F s o) (fun l=>K (s.fin o.dst l))):o.wp E.P a w (fun a' w'=> ∃s',K s'∧Rel n w0 S0 s' a' w') Q:=by
 simp only[ai,aK]at ab;have hx:=h.ev (aC ho (x:=x) (by simp[aK,Op.operands]));split at ab;(·rename_i b bx;rw[bx]at hx;have hv:=gx hx;refine h.val ho ?_ bz ab;simp[execOp,aK,hv,Op.unary])
 (·rename_i k m bx;rw[bx]at hx;obtain⟨hv,_⟩:=br hx;obtain⟨hr,hK⟩:=ab;refine h.val ho ?_ (bZ hr) hK;simp only[execOp,aK,hv,Op.unary,Op.intArith,Sem.run_bind,Sem.run_pure,Result.andThen_ok,eg k hr])
 ·exact ab.elim
theorem Fu {k l:IntKind} (h:widens k l=true) {x:Int} (hx:k.min≤x∧x≤k.max):l.min≤x∧x≤l.max:=by
 cases k<;>cases l<;>first|(simp[IntKind.min,IntKind.max,IntKind.signed,IntKind.bits]at*;omega)|cases h
theorem pc {w:World} {M:Mem} : ∀(xs:List Int)(vs:List Value),(∀i y,xs[i]?=some y→aA (.int .u8) y w M ((vs.drop i).take 1))→vs.length=xs.length→vs=xs.map (Value.int .u8)|[],vs,_,hl=>(by simpa using hl)|x::xs,[],_,hl=>(by simp at hl)|x::xs,v::vs,h,hl=>by obtain⟨h0,_⟩:=h 0 x rfl;simp at h0;subst h0;have:=pc xs vs (fun i y hy=>by simpa using h (i+1) y (by simpa using hy)) (by simpa using hl);rw[this];rfl
theorem Source.RN {T:Ty} {xs:List T.den} {w:World} {M:Mem} {a:Option Addr} {len cap:Nat} (h:aA (.sl T) xs w M [.slice a len cap]):len=xs.length∧ ∃news,Source w T.cells a xs.length news∧ ∀i y,xs[i]?=some y→aA T y w M ((news.drop (i*T.cells)).take T.cells):=by
 obtain⟨a',lQ,hv,h1,h2,h3⟩:=h;injection hv with hv;injection hv with e1 e2 e3;subst e1;refine⟨e2,?_⟩;rcases h3 with rfl|⟨g,ob,rfl,hS,fA⟩;(·exact⟨[],⟨by simp,.inl rfl,by simp⟩,fun i y hy=>by simp at hy⟩)
 ·obtain⟨vs,hl,hc,Cg,hr⟩:=mT xs fA;exact⟨vs,⟨hl,.inr ⟨_,rfl,fun j u hj=>by rw[dj];exact hc j u hj⟩,Cg⟩,hr⟩
theorem Full.content(h:Full n w0 S0 s a w ν S) {T:Ty} {p:PV} {xs:List T.den} {v:Value} (mR:aJ T=0)(hx:fH F s.bl T p=some xs)(hp:ag h.c p v): ∃aa c news,v= .slice aa xs.length c∧Source w T.cells aa xs.length news∧ ∀i y,xs[i]?=some y→aA T y w ⟨S,aB w0 S0⟩ ((news.drop (i*T.cells)).take T.cells):=by
 (have own: ∀(id:Nat)(U:Ty)(ys:List U.den)(te:Option Nat),look id s.bl=some (.arr U ys te)→ ∀aa len cap,ν id= .slice aa len cap→len=ys.length∧ ∃news,Source w U.cells aa ys.length news∧ ∀i y,ys[i]?=some y→aA U y w ⟨S,aB w0 S0⟩ ((news.drop (i*U.cells)).take U.cells):=by intro id U ys te hl aa len cap cj;obtain⟨gn,oS,u,hu,Hq,cm⟩:=h.W.bM _ _ hl;simp only[List.cons.injEq,and_true]at hu;rw[cj]at hu;subst hu;rcases cm with⟨hn,rfl⟩|⟨g,ob,lQ,cur,e,rY,hle,Lb,oV,hB,hh,tk,fA⟩;(·injection hn with e1 e2 e3;subst e1;subst e2;exact⟨rfl,[],⟨by simp,.inl rfl,by simp⟩,fun i y hy=>by simp at hy⟩);·injection rY with e1 e2 e3;subst e1;obtain⟨vs,La,hc,Cg,hr⟩:=mT ys fA;exact⟨e2,vs,⟨La,.inr ⟨_,rfl,fun j u hj=>by rw[dj];exact hc j u hj⟩,Cg⟩,hr⟩)
 cases p with|iv U y=>simp only[fH]at hx;obtain⟨e,hx⟩:=Ty.aW hx;subst e;simp only at hx;subst hx;simp only[ag]at hp;have bN:aA (.sl T) y w ⟨S,aB w0 S0⟩ [v]:=hp.2;obtain⟨aa,cap,hv,fL⟩:=bN;injection hv with hv;obtain⟨_,news,h1,h2⟩:=Source.RN (h:=(by rw[←hv];exact hp.2:aA (.sl T) y w ⟨S,aB w0 S0⟩ [.slice aa (List.length y) cap]));exact⟨aa,cap,news,hv,h1,h2⟩|aI id=>simp only[fH]at hx;split at hx;(·rename_i U ys te hl;obtain⟨hl,_⟩:=bW hl;obtain⟨e,hx⟩:=Ty.aW hx;injection e with e;subst e;simp only at hx;subst hx;simp only[ag]at hp;obtain⟨hd,cj,aa,len,cap,hv⟩:=hp;simp only[Full.c]at cj;obtain⟨hlen,news,h1,h2⟩:=own id _ _ _ hl aa len cap (by rw[←cj,hv]);subst hlen;exact⟨aa,cap,news,hv,h1,h2⟩);(·cases hx)|lz id sz off len=>simp only[fH]at hx;split at hx;(·rename_i U ys te hl;obtain⟨hl,_⟩:=bW hl;split at hx;(case h_2=>cases hx);rename_i cM;have cM:=Nat.eq_of_beq_eq_true cM;obtain⟨e,hx⟩:=Ty.aW hx;injection e with e;subst e;simp only at hx;subst hx;simp only[ag]at hp;obtain⟨hd,aa,m,cap,b,cj,hn,jP,hv,hb⟩:=hp;obtain⟨hlen,news,h1,h2⟩:=own id _ _ _ hl aa m cap cj;subst hlen;(have D0:((ys.drop off).take len).length=len:=by simp;omega);refine⟨b,cap-off,(news.drop (off*U.cells)).take (len*U.cells),by rw[D0];exact hv,⟨?_,?_,fun u hu=>h1.one u (List.mem_of_mem_drop (List.mem_of_mem_take hu))⟩,fun i y hy=>?_⟩;(·rw[D0,List.length_take,List.length_drop,h1.len];(have:off*U.cells+len*U.cells≤ys.length*U.cells:=by rw[←Nat.add_mul];exact Nat.mul_le_mul_right _ hn);omega);(·rw[D0];by_cases hz:len=0;(·exact .inl hz);·right;obtain⟨g,ob,ha,mQ⟩:=hb (by omega);rcases h1.cells with h0|⟨ad,had,hc⟩;(·omega);·rw[ha]at had;injection had with had;subst had;refine⟨_,mQ,fun j u hj=>?_⟩;(have LG:j<len*U.cells:=by rcases Nat.lt_or_ge j (len*U.cells)with h'|h';(·exact h');·rw[List.getElem?_eq_none (by rw[List.length_take];omega)]at hj;cases hj);rw[List.getElem?_take,if_pos LG,List.getElem?_drop]at hj;have:=hc _ u hj;rw[dj]at this⊢;rw[cM,Nat.add_assoc];exact this);·(have hi:i<len:=by rcases Nat.lt_or_ge i len with h'|h';(·exact h');·rw[List.getElem?_eq_none (by omega)]at hy;cases hy);rw[List.getElem?_take,if_pos hi,List.getElem?_drop]at hy;have:=h2 _ y hy;rw[List.drop_take,List.drop_drop,List.take_take];(have e1:off*U.cells+i*U.cells=(off+i)*U.cells:=by rw[Nat.add_mul]);(have e2:U.cells≤len*U.cells-i*U.cells:=by have:(i+1)*U.cells≤len*U.cells:=Nat.mul_le_mul_right _ hi;rw[Nat.add_mul]at this;omega);rw[e1,Nat.min_eq_left e2];exact this);(·cases hx)|clip U y=>simp only[fH]at hx;obtain⟨e,hx⟩:=Ty.aW hx;injection e with e;subst e;simp only at hx;subst hx;simp only[ag]at hp;obtain⟨_,⟨aa,m,rfl⟩,bN⟩:=hp;obtain⟨hlen,news,h1,h2⟩:=Source.RN (h:=(bN:aA (.sl U) y w ⟨S,aB w0 S0⟩ [.slice aa m m]));subst hlen;exact⟨aa,_,news,rfl,h1,h2⟩|bE=>simp only[fH,Option.some.injEq]at hx;subst hx;simp only[ag]at hp;exact⟨none,0,[],hp,⟨by simp,.inl rfl,by simp⟩,fun i y hy=>by simp at hy⟩|_=>simp only[fH]at hx;cases hx
theorem Cs(hE:aE E)(h:Full n w0 S0 s a w ν S)(ho:bK n o=true) {t1 t:Nat} {x:Operand} (aK:o.op= .convert t1 t x)(ab:aR E (ai E F s o) (fun l=>K (s.fin o.dst l))):o.wp E.P a w (fun a' w'=> ∃s',K s'∧Rel n w0 S0 s' a' w') Q:=by
 simp only[ai,aK,nI]at ab;have hx:=h.ev (aC ho (x:=x) (by simp[aK,Op.operands]));split at ab;(·rename_i k0 l SV hT;obtain⟨d1,LI,HF⟩:=(hE.facts SV).nJ;obtain⟨d2,Ft,y3⟩:=(hE.facts hT).nJ;(have vB:d2= .int l:=by(cases d2<;>first|cases y3|skip);rename_i k';rw[de y3]);subst vB;split at ab;(·rename_i k m bx;rw[bx]at hx;obtain⟨hv,hr⟩:=br hx;(have aX:(execOp a.eval o).run E.P w= .ok (.value (.int l (l.wrap m))) w:=by simp[execOp,aK,hv,convert,run_underlying LI,run_underlying Ft,Conv.intToInt]);split at ab;(·rename_i hw;have lV:=Fu hw hr;rw[eg l lV]at aX;exact h.val ho aX (bZ lV) ab);·exact h.val ho aX (bZ (wrap_within l m)) ab);·exact ab.elim)
 (·rename_i SV hT;obtain⟨d1,LI,HF⟩:=(hE.facts SV).nJ;obtain⟨d2,Ft,y3⟩:=(hE.facts hT).nJ;(have vB:d2= .string:=by cases d2<;>first|rfl|cases y3);subst vB;(have y2:d1= .string:=by cases d1<;>first|rfl|cases HF);subst y2;split at ab;(·rename_i y bx;rw[bx]at hx;obtain⟨hv,hr⟩:=dk hx;refine h.val ho ?_ (lY hr) ab;simp[execOp,aK,hv,convert,run_underlying LI,run_underlying Ft]);·exact ab.elim)
 (·rename_i k SV hT;split at ab;(·rename_i xs hk Cj;have hk:=de hk;subst hk;obtain⟨e,LI,he,lW,_⟩:=(hE.facts SV).elem hE;obtain⟨d2,Ft,y3⟩:=(hE.facts hT).nJ;(have vB:d2= .string:=by cases d2<;>first|rfl|cases y3);subst vB;obtain⟨d3,hu3,hs3⟩:=lW.nJ;(have BZ:d3= .int .u8:=by(cases d3<;>first|cases hs3|skip);rename_i k';rw[de hs3]);subst BZ;obtain⟨aa,c,news,hv,jI,bN⟩:=h.content (T:=.int .u8) rfl Cj hx;have YX:=pc (M:=⟨S,aB w0 S0⟩) (w:=w) xs news (fun i y hy=>by simpa[Ty.cells]using bN i y hy) (by simpa[Ty.cells]using jI.len);(have D0:xs.length≤9223372036854775807:=by have hR:Reads F s h.c ⟨fun b=>S b∨b<w.heap.size,aB w0 S0⟩:=⟨rfl,h.W.bM,fun b hb=>.inl hb,fun id _⟨b,hb⟩g hg=>.inr (h.fX hb hg).2.2⟩;exact(eJ _ _ _ _ _ (zo hR Cj hx)).1);refine h.val ho (v:=.string ⟨(xs.map fun n:Int=>UInt8.ofNat n.toNat).toArray⟩) ?_ (lY (by simpa using D0)) ab;(have YY:(convert t1 t (a.eval x)).run E.P w= .ok (.string ⟨(xs.map fun n:Int=>UInt8.ofNat n.toNat).toArray⟩) w:=by rw[hv];rcases jI.cells with h0|⟨ad,rfl,hc⟩;(·have hxe:xs=[]:=List.eq_nil_of_length_eq_zero h0;subst hxe;cases aa with|none=>exact run_convert_bytes_nil w t1 e LI hu3 _ _ t Ft|some ad=>rw[run_convert_bytes_string w t1 t e _ _ _ LI hu3 Ft];simp[Conv.bytesToString,loadCells,loadCellsFrom];rfl);·rw[run_convert_bytes_string w t1 t e _ _ _ LI hu3 Ft];have hl:=run_loadCells_list (P:=E.P) w ad news hc;rw[YX,List.length_map]at hl;rw[run_bytesToString w ad xs.length c xs hl,foldl_push_bytes];simp[ByteArray.empty,ByteArray.emptyWithCapacity];rfl);simp only[execOp,aK,Sem.run_bind,YY,Result.andThen_ok,Sem.run_pure]);·exact ab.elim)
 ·exact ab.elim
theorem l5 {w:World} {M:Mem} : ∀(T:Ty)(vs:List Value),T.DL=true→cI T=some vs→aA T (cD T) w M vs:=by
 intro T;induction T with|unit=>intro vs _ h;simp only[cI,Option.some.injEq]at h;subst h;rfl|int k=>intro vs _ h;simp only[cI,Option.some.injEq]at h;subst h;exact⟨rfl,gF k,l4 k⟩|bool=>intro vs _ h;simp only[cI,Option.some.injEq]at h;subst h;rfl|str=>intro vs _ h;simp only[cI,Option.some.injEq]at h;subst h;exact⟨rfl,by simp[cD]⟩|sl t=>intro vs _ h;simp only[cI,Option.some.injEq]at h;subst h;exact⟨none,0,rfl,Nat.le_refl _,by omega,.inl rfl⟩|own t=>intro vs hz h;cases hz|aP a b=>intro vs hz h;cases hz|ptr t=>intro vs hz h;cases hz|fh f t=>intro vs hz h;cases hz|mp a b=>intro vs _ h;simp only[cI,Option.some.injEq]at h;subst h;exact⟨by simp[cD],.inl ⟨rfl,rfl⟩⟩|aq=>intro vs hz h;cases hz|st t ih=>intro vs hz h;exact ih vs hz h|pair a b fK fi=>intro vs hz h;simp only[Ty.DL,Bool.and_eq_true]at hz;simp only[cI]at h;split at h;(·rename_i x y hx hy;simp only[Option.some.injEq]at h;subst h;exact⟨x,y,rfl,fK x hz.1 hx,fi y hz.2 hy⟩);·cases h
theorem vL (z : Array Value) (n i : Nat) (hi : i < n) : ((Builtin.zeroCells z n).toList.drop (i * z.size)).take z.size = z.toList := by
  apply List.ext_getElem?
  intro j
  rw [List.getElem?_take]
  by_cases hj : j < z.size
  · rw [if_pos hj, List.getElem?_drop]
    have cN : i * z.size + j < n * z.size := by
      calc i * z.size + j < i * z.size + z.size := by omega
        _ = (i + 1) * z.size := by rw [Nat.add_mul]; omega
        _ ≤ n * z.size := Nat.mul_le_mul_right _ hi
    have S3 : (i * z.size + j) % z.size = j := by
      rw [Nat.add_comm, Nat.add_mul_mod_self_right, Nat.mod_eq_of_lt hj]
    simp only [Builtin.zeroCells, Array.getElem?_toList, Array.getElem?_map]
    rw [Array.getElem?_eq_getElem (by simpa using cN)]
    simp only [Option.map_some, Array.getElem_range, S3]
    rw [getElem!_pos z j hj, Array.getElem?_eq_getElem hj]
  · rw [if_neg hj, List.getElem?_eq_none (by rw [Array.length_toList]; omega)]
theorem Ct {te el:Option Nat} {w:World} {v u:Value} (h:eZ te w v)(hv:u=v) {t':Nat} (hk:DM te el=some t'):eZ (some t') w u∧el=some t':=by
 unfold DM at hk;split at hk;(·rename_i a b;split at hk;(·rename_i nL;injection hk with hk;subst hk;rw[hv];exact⟨h,by rw[Nat.eq_of_beq_eq_true nL]⟩);·cases hk);·cases hk
theorem Fv (hE : aE E) (h : Full n w0 S0 s a w ν S) (ho : bK n o = true) {c : Call} (aK : o.op = .call c) (iT : c.callee = .builtin .append) (ab : aR E (ai E F s o) (fun l => K (s.fin o.dst l))) : o.wp E.P a w (fun a' w' => ∃ s', K s' ∧ Rel n w0 S0 s' a' w') Q := by
  obtain ⟨callee, args, argTypes⟩ := c
  simp only at iT
  subst iT
  simp only [ai, aK] at ab
  split at ab
  · rename_i t u p q d gn bx hd
    split at ab
    · rename_i T hT
      obtain ⟨xo, yo, js⟩ : ∃ xo yo, args = #[xo, yo] := by
        have hl : args.toList.length = 2 := by have := congrArg List.length bx; rw [o0, List.length_map] at this; simpa using this
        match hh : args.toList, hl with
        | [xo, yo], _ => exact ⟨xo, yo, Array.toList_inj.1 (by rw [hh])⟩
      subst js
      simp only [bJ, List.cons.injEq, and_true] at bx
      obtain ⟨hp, hq⟩ := bx
      have Aa : argTypes = #[t, u] := Array.toList_inj.1 (by rw [gn])
      subst Aa
      have hx := h.ev (aC ho (x := xo) (by simp [aK, Op.operands, Call.operands]))
      have hy := h.ev (aC ho (x := yo) (by simp [aK, Op.operands, Call.operands]))
      rw [hp] at hx
      rw [hq] at hy
      obtain ⟨e, hu, he, lW, jg, qH⟩ := (hE.facts hT).elem hE
      have mR := lW.own
      have aX : ∀ v' w', (Builtin.append_ #[t, u] o.type #[a.eval xo, a.eval yo]).run E.P w = .ok v' w' → (execOp a.eval o).run E.P w = .ok (.value v') w' := by
        intro v' w' hr
        simp [execOp, aK, resolve, invoke, builtin, hr]
      -- the source
      have src : ∀ ys, jE E F s.bl T t u q = some ys → ∃ news, Src E.P T.cells u (a.eval yo) ys.length news w ∧ ∀ i y, ys[i]? = some y → aA T y w ⟨S, aB w0 S0⟩ ((news.drop (i * T.cells)).take T.cells) := by
        intro ys kH
        simp only [jE] at kH
        split at kH
        · rename_i htu
          have htu := Nat.eq_of_beq_eq_true htu
          subst htu
          obtain ⟨aa, c, news, hv, h1, h2⟩ := h.content mR kH hy
          exact ⟨news, by rw [hv]; exact h1.src hu c, h2⟩
        · split at kH
          · rename_i hU
            split at kH
            · split at kH
              · rename_i k hk z S4
                have S4 := de S4
                subst S4
                simp only [Option.some.injEq] at kH
                subst kH
                obtain ⟨hv, hl⟩ := dk hy
                obtain ⟨dd, LW, vA⟩ := (hE.facts hU).nJ
                have mY : dd = .string := by cases dd <;> first | rfl | cases vA
                subst mY
                have hs := Src.ofString (w := w) LW (⟨z.toArray⟩ : ByteArray)
                have cM : (⟨z.toArray⟩ : ByteArray).size = z.length := by simp [ByteArray.size]
                have hbc : byteCells ⟨z.toArray⟩ = z.map fun c => Value.int .u8 (c.toNat : Int) := by simp [byteCells]
                rw [cM, hbc] at hs
                refine ⟨_, by rw [hv, List.length_map]; exact hs, fun i y hy => ?_⟩
                rw [List.getElem?_map] at hy
                cases hz : z[i]? with
                | none => rw [hz] at hy; cases hy
                | some c =>
                  rw [hz] at hy
                  simp only [Option.map_some, Option.some.injEq] at hy
                  subst hy
                  have hi : i < z.length := (List.getElem?_eq_some_iff.1 hz).1
                  have hd : ((z.map fun c => Value.int .u8 (c.toNat : Int)).drop i).take 1 = [Value.int .u8 (c.toNat : Int)] := by
                    rw [List.drop_eq_getElem_cons (by rw [List.length_map]; exact hi)]
                    simp only [List.getElem_map, List.take_succ_cons, List.take_zero]
                    rw [(List.getElem?_eq_some_iff.1 hz).2]
                  simp only [Ty.cells, Nat.mul_one]
                  rw [hd]
                  have := UInt8.toNat_lt c
                  exact ⟨rfl, by show (0 : Int) ≤ _; omega, by show (_ : Int) ≤ 255; omega⟩
              · cases kH
            · cases kH
          · cases kH
      -- onto a local array, of which a part may be taken
      have YZ : ∀ (id j : Nat) (xs ys : List T.den) (v : Value) (zs : List T.den) (te tf : Option Nat), look id s.bl = some (.arr T zs te) → (∀ t', tf = some t' → eZ (some t') w v ∧ E.E7 t = some t') → j < P0 → (j = id ∨ look j s.bl = none) → jE E F s.bl T t u q = some ys → a.eval xo = v → aA (.own T) xs w ⟨S, aB w0 S0⟩ [v] → (∀ g, aG v = some g → aG (ν id) = some g) → xs.length + ys.length ≤ 274877906944 → K (s.fin o.dst (.append id j (.arr T (xs ++ ys) tf))) →
          o.wp E.P a w (fun a' w' => ∃ s', K s' ∧ Rel n w0 S0 s' a' w') Q := by
        intro id j xs ys v zs te tf hl htf hj Fi kH hv jQ vM hlen hK
        obtain ⟨news, jI, bN⟩ := src ys kH
        obtain ⟨v', w', hr, pd, r6, LX, qu, RO⟩ := lX hE (ty := o.type) hT mR jQ h.W.lt h.W.size jI bN hlen
        refine cf (aX v' w' (by rw [hv]; exact hr)) ⟨_, hK, ?_⟩
        simp only [St.fin, hd]
        have am2 : dz w w' (aG (ν id)) := by
          refine ⟨r6.os, r6.tape, r6.output, r6.size, fun k hk cz => r6.block k hk (fun e => cz (by rw [vM k e.symm])), r6.drawn⟩
        refine (h.app (v' := v') (bg ho d hd) hl hj Fi am2 LX (fun g hg => ?_) (b' := .arr T (xs ++ ys) tf) (fun D => ⟨?_, mR, by simpa using pd⟩)).rel
        rotate_left
        · cases am3 : tf with
          | none => exact cl _ _
          | some t' =>
            obtain ⟨g1, g2⟩ := htf t' am3
            exact (RO t' (hE.E7 t t' g2) g1).oQ (by simp) fun _ _ => rfl
        rcases qu g hg with hf | hf
        · exact .inl (vM g hf)
        · exact .inr hf
      -- whichever name it has
      have RP : ∀ (id : Nat) (xs ys : List T.den) (v : Value) (zs : List T.den) (r : Prop) (te tf : Option Nat), look id s.bl = some (.arr T zs te) → (∀ t', tf = some t' → eZ (some t') w v ∧ E.E7 t = some t') → jE E F s.bl T t u q = some ys → a.eval xo = v → aA (.own T) xs w ⟨S, aB w0 S0⟩ [v] → (∀ g, aG v = some g → aG (ν id) = some g) → (r → xs.length + ys.length ≤ 274877906944) →
          aR E (match Nat.ble P0 id with | false => .bU r (.append id id (.arr T (xs ++ ys) tf)) | true => match look d s.bl with | none => .bU r (.append id d (.arr T (xs ++ ys) tf)) | some _ => .fail 70) (fun l => K (s.fin o.dst l)) →
          o.wp E.P a w (fun a' w' => ∃ s', K s' ∧ Rel n w0 S0 s' a' w') Q := by
        intro id xs ys v zs r te tf hl htf kH hv jQ vM hlen hK
        split at hK
        · rename_i hb
          have hj : id < P0 := by
            rcases Nat.lt_or_ge id P0 with h' | h'
            · exact h'
            · rw [Nat.ble_eq_true_of_le h'] at hb; cases hb
          exact YZ id id xs ys v zs te tf hl htf hj (.inl rfl) kH hv jQ vM (hlen hK.1) hK.2
        · split at hK
          · rename_i hn
            have hj : d < P0 := Nat.lt_of_lt_of_le (bg ho d hd) (Nat.le_trans h.nV (by decide))
            exact YZ id d xs ys v zs te tf hl htf hj (.inr hn) kH hv jQ vM (hlen hK.1) hK.2
          · exact hK.elim
      -- onto a part without room: a new array
      have Y0 : ∀ (id : Nat) (r : Prop) (ys : List T.den) (b : Option Addr) (zs : List T.den) (te : Option Nat), look id s.bl = some (.arr T zs te) → jE E F s.bl T t u q = some ys → a.eval xo = .slice b 0 0 → ys ≠ [] → ys.length ≤ 274877906944 →
          aR E (match Nat.ble P0 id with | false => .bU r (.append id id (.arr T ys)) | true => match look d s.bl with | none => .bU r (.append id d (.arr T ys)) | some _ => .fail 70) (fun l => K (s.fin o.dst l)) →
          o.wp E.P a w (fun a' w' => ∃ s', K s' ∧ Rel n w0 S0 s' a' w') Q := by
        intro id r ys b zs te hl kH hv cz hlen hK
        obtain ⟨news, jI, bN⟩ := src ys kH
        obtain ⟨v', w', hr, pd, r6, LX, qu⟩ := gO hE (ty := o.type) hT mR (xs := []) (a := b) (m := 0) ⟨b, 0, rfl, Nat.le_refl _, by omega, .inl rfl⟩ h.W.lt h.W.size jI bN cz (by simpa using hlen)
        have fin : ∀ j, j < P0 → (j = id ∨ look j s.bl = none) → K (s.fin o.dst (.append id j (.arr T ys))) → o.wp E.P a w (fun a' w' => ∃ s', K s' ∧ Rel n w0 S0 s' a' w') Q := by
          intro j hj Fi hK
          refine cf (aX v' w' (by rw [hv]; exact hr)) ⟨_, hK, ?_⟩
          simp only [St.fin, hd]
          exact (h.app (v' := v') (bg ho d hd) hl hj Fi ⟨r6.os, r6.tape, r6.output, r6.size, fun k hk _ => r6.block k hk (by simp), r6.drawn⟩ LX (fun g hg => .inr (qu g hg)) (b' := .arr T ys) (fun D => ⟨cl _ _, mR, by simpa using pd⟩)).rel
        split at hK
        · rename_i hb
          have hj : id < P0 := by
            rcases Nat.lt_or_ge id P0 with h' | h'
            · exact h'
            · rw [Nat.ble_eq_true_of_le h'] at hb; cases hb
          exact fin id hj (.inl rfl) hK.2
        · split at hK
          · rename_i hn
            have hj : d < P0 := Nat.lt_of_lt_of_le (bg ho d hd) (Nat.le_trans h.nV (by decide))
            exact fin d hj (.inr hn) hK.2
          · exact hK.elim
      split at ab
      · rename_i hint
        split at ab
        · rename_i k m zc pe Ld hl
          obtain ⟨⟨h0, h1⟩, hK⟩ := ab
          change Int at m
          have h0 : (0 : Int) < m := h0
          have h1 : m ≤ (1073741824 : Int) := h1
          obtain ⟨kn, hun⟩ : ∃ kn, E.P.underlying u = some (.int kn) := by
            cases hU : E.ty u with
            | none => rw [hU] at hint; cases hint
            | some U =>
              rw [hU] at hint
              cases U with
              | int kn =>
                obtain ⟨dd, LW, vA⟩ := (hE.facts hU).nJ
                cases dd <;> first | exact ⟨_, LW⟩ | cases vA
              | _ => cases hint
          obtain ⟨GS, _⟩ := br hy
          simp only [ag] at hx
          obtain ⟨i, hi, cM, RC, zP, z, hz, BW⟩ := lW.info
          obtain ⟨zv, GN, _, _⟩ := lZ (c := h.c) T zc Ld
          rw [hz] at zP
          have xQ := iN zP GN
          have hm : m = ((m.toNat : Nat) : Int) := by omega
          have hb : m.toNat * i.bytes ≤ 140737488355328 := by
            calc m.toNat * i.bytes ≤ 274877906944 * 512 := Nat.mul_le_mul (by omega) RC
              _ = 140737488355328 := by decide
          have HG := _root_.Go.Lib.run_append_grow_zeros (P := E.P) w t u o.type e i z k kn hu hun hi hz none 0 0 [] (run_firstCells_none _ _ _ _ _) m.toNat (by omega) (by rw [cM]; omega) (by omega) (by omega) (by omega) (growslice_fits (by omega) (by simpa using hb))
          simp only [Nat.zero_add] at HG
          rw [← hm] at HG
          have hrz := l5 (w := w) (M := ⟨S, aB w0 S0⟩) T zv pe GN
          have hg := qG (E := E) (e := e) (w := w) (M := ⟨S, aB w0 S0⟩) (zs := List.replicate m.toNat (cD T)) BW mR h.W.lt h.W.size (by rw [List.length_replicate]; omega) (Builtin.zeroCells z.cells m.toNat).toList (by rw [List.length_replicate, Array.length_toList, DX, BW]) (fun i y hy => by
            rw [List.getElem?_replicate] at hy
            split at hy
            · rename_i hj
              simp only [Option.some.injEq] at hy
              subst hy
              rw [← BW, vL _ _ _ hj, xQ]
              exact hrz
            · cases hy) 0
          simp only [List.length_replicate] at hg
          refine cf (aX _ _ (by rw [hx, GS]; exact HG)) ⟨_, hK, ?_⟩
          simp only [St.fin, hd]
          refine h.qJ (bg ho d hd) hl mR ⟨rfl, rfl, rfl, by simp, fun k hk _ => Below.heap_alloc w.drew _ k hk, fun _ => Nat.le_succ _⟩ ⟨_, _, _, rfl⟩ (fun g hg => by injection hg with hg; simp at hg; omega) ?_ (cl _ _)
          have Lj : (([] : List Value).toArray ++ Builtin.zeroCells z.cells m.toNat) = (Builtin.zeroCells z.cells m.toNat).toList.toArray := by simp
          rw [Lj]
          exact hg
        · exact ab.elim
      split at ab
      · unfold dw at ab
        split at ab
        · rename_i ys U zs kH hl
          split at ab
          · rename_i xs iR
            obtain ⟨e', jH⟩ := Ty.aW iR
            injection e' with e'
            subst e'
            simp only at jH
            subst jH
            simp only [ag] at hx
            obtain ⟨_, ⟨aa, m, hv⟩, Ad⟩ := hx
            obtain ⟨news, jI, bN⟩ := src ys kH
            obtain ⟨⟨cz, hlen⟩, hK⟩ := ab
            rw [hv] at Ad
            obtain ⟨v', w', hr, pd, r6, LX, qu⟩ := gO hE (ty := o.type) hT mR Ad h.W.lt h.W.size jI bN cz hlen
            refine cf (aX v' w' (by rw [hv]; exact hr)) ⟨_, hK, ?_⟩
            simp only [St.fin, hd]
            exact h.qJ (bg ho d hd) hl mR r6 LX qu pd (cl _ _)
          · exact ab.elim
        · exact ab.elim
      cases dA : kq F s.bl T d p (jE E F s.bl T t u q) (E.E7 t) with
      | bU r az4 =>
        rw [dA] at ab
        simp only [kq] at dA
        split at dA
        case h_2 => cases dA
        rename_i ys kH
        split at dA
        · injection dA with e1 e2
          subst e1; subst e2
          simp only at ab
          split at ab
          · rename_i hl
            obtain ⟨hlen, hK⟩ := ab
            simp only [ag] at hx
            obtain ⟨news, jI, bN⟩ := src ys kH
            have jQ : aA (.own T) ([] : List T.den) w ⟨S, aB w0 S0⟩ [.slice none 0 0] := ⟨_, rfl, by simp, .inl ⟨rfl, rfl⟩⟩
            obtain ⟨v', w', hr, pd, r6, LX, qu, RO⟩ := lX hE (ty := o.type) hT mR jQ h.W.lt h.W.size jI bN (by simpa using hlen)
            refine cf (aX v' w' (by rw [hx]; exact hr)) ⟨_, hK, ?_⟩
            simp only [St.fin, hd]
            exact h.qJ (bg ho d hd) hl mR r6 LX (fun g hg => by rcases qu g hg with hf | hf; cases hf; exact hf) (by simpa using pd) (by
              cases hem : E.E7 t with
              | none => exact cl _ _
              | some t' => exact RO t' (hE.E7 t t' hem) (fun t2 _ g hg => by cases hg))
          · exact ab.elim
        · split at dA <;> cases dA
        · rename_i id
          split at dA
          · rename_i U zs te hl
            obtain ⟨hl, _⟩ := bW hl
            split at dA
            · rename_i xs iR
              obtain ⟨e', jH⟩ := Ty.aW iR
              injection e' with e'
              subst e'
              simp only at jH
              subst jH
              injection dA with e1 e2
              subst e1; subst e2
              simp only [ag] at hx
              obtain ⟨gn, _, hb⟩ := h.W.bM _ _ hl
              have cj : a.eval xo = ν id := hx.2.1
              exact RP id _ ys _ _ _ _ _ hl (fun t' LK => Ct gn rfl LK) kH cj hb (fun g hg => hg) (fun h => h) ab
            · cases dA
          · cases dA
        · rename_i id sz off len
          split at dA
          · rename_i U zs te hl
            obtain ⟨hl, _⟩ := bW hl
            split at dA
            · rename_i xs iR cM
              have cM := Nat.eq_of_beq_eq_true cM
              obtain ⟨e', jH⟩ := Ty.aW iR
              injection e' with e'
              subst e'
              simp only at jH
              subst jH
              injection dA with e1 e2
              subst e1; subst e2
              simp only [ag] at hx
              obtain ⟨mY, aa, m, cap, b, cj, hn, jP, hv, hb⟩ := hx
              obtain ⟨gn, oS, u, mW, Hq, cm⟩ := h.W.bM _ _ hl
              simp only [List.cons.injEq, and_true] at mW
              simp only [Full.c] at cj
              rw [cj] at mW
              subst mW
              have am4 : (off < zs.length ∨ off = zs.length ∧ len = 0 ∧ ys ≠ []) ∧ len + ys.length ≤ 274877906944 := by
                simp only at ab
                split at ab
                · exact ab.1
                · split at ab
                  · exact ab.1
                  · exact ab.elim
              by_cases kC : off < cap
              case neg =>
                have hzm : zs.length = m := by
                  rcases cm with ⟨tn, rfl⟩ | ⟨g, ob, lQ, cur, e', rY, _⟩
                  · injection tn with _ h2 _; simp [h2]
                  · injection rY with _ h2 _; exact h2.symm
                obtain ⟨h1, h2⟩ := am4
                rcases h1 with h1 | ⟨h1, h3, h4⟩
                · omega
                subst h3
                have Y1 : cap - off = 0 := by omega
                rw [Y1] at hv
                rw [List.take_zero, List.nil_append] at ab
                exact Y0 id _ ys b zs te hl kH hv h4 (by omega) ab
              rcases cm with ⟨tn, rfl⟩ | ⟨g, ob, lQ, cur, e', rY, hle, Lb, oV, hB, hh, tk, fA⟩
              · injection tn with _ _ h3
                omega
              · injection rY with e1 e2 e3
                subst e1; subst e2; subst e3
                obtain ⟨g', ob', ha, mQ⟩ := hb (by omega)
                injection ha with ha
                injection ha with HH Lk
                subst HH; subst Lk
                have D0 : ((zs.drop off).take len).length = len := by simp; omega
                refine RP id _ ys (a.eval xo) zs _ _ none hl (fun _ h => by cases h) kH rfl ?_ (fun g'' Y2 => ?_) (fun hr => by rw [D0]; exact hr.2) ab
                · rw [hv, mQ]
                  refine ⟨_, rfl, by rw [D0]; omega, .inr ⟨g, ob + off * sz, cap - off, cur, e', by rw [D0], by rw [D0]; omega, by omega, oV, hB, hh, ?_, fun i y hy => ?_⟩⟩
                  · rw [cM, Nat.add_assoc, ← Nat.add_mul, show off + (cap - off) = cap from by omega]
                    exact tk
                  · have hi : i < len := by
                      rcases Nat.lt_or_ge i len with h' | h'
                      · exact h'
                      · rw [List.getElem?_eq_none (by omega)] at hy; cases hy
                    rw [List.getElem?_take, if_pos hi, List.getElem?_drop] at hy
                    obtain ⟨cs, h1, h2, h3⟩ := fA _ y hy
                    refine ⟨cs, h1, ?_, h3⟩
                    rw [cM, Nat.add_assoc, ← Nat.add_mul]
                    exact h2
                · rw [hv, mQ] at Y2
                  rw [cj]
                  exact Y2
            · cases dA
          · cases dA
        · cases dA
      | both o1 o2 =>
        rw [dA] at ab
        simp only [kq] at dA
        split at dA
        case h_2 => cases dA
        rename_i ys kH
        split at dA
        · cases dA
        · rename_i U zs
          split at dA
          · rename_i xs iR hl
            obtain ⟨e', jH⟩ := Ty.aW iR
            injection e' with e'
            subst e'
            simp only at jH
            subst jH
            injection dA with e1 e2
            subst e1; subst e2
            obtain ⟨D2, Y3⟩ := ab
            have Lh := hx
            simp only [ag] at hx
            obtain ⟨_, ⟨aa, m, hv⟩, Ad⟩ := hx
            obtain ⟨news, jI, bN⟩ := src ys kH
            by_cases cz : ys = []
            · have hK := D2 cz
              subst cz
              refine h.val ho (v := a.eval xo) (aX _ _ ?_) Lh hK
              have Fj := jI.len
              have nK := jI.cells
              simp only [List.length_nil] at Fj nK
              obtain ⟨e, hu, he, lW, jg, qH⟩ := (hE.facts hT).elem hE
              obtain ⟨i, hi, cM, _⟩ := lW.info
              have hn : news = [] := List.eq_nil_of_length_eq_zero (by rw [jI.newsLen]; simp)
              subst hn
              rw [← cM] at nK
              rw [hv]
              rcases jI.kind with ⟨e2, hk⟩ | hk
              all_goals
                cases aa with
                | none => simp [Builtin.append_, run_underlying hu, run_underlying hk, sizeOf, typeInfo, hi, Fj, nK]
                | some aa => simp [Builtin.append_, run_underlying hu, run_underlying hk, sizeOf, typeInfo, hi, Fj, nK, storeCells]
            · obtain ⟨hlen, hK⟩ := Y3 cz
              rw [hv] at Ad
              obtain ⟨v', w', hr, pd, r6, LX, qu⟩ := gO hE (ty := o.type) hT mR Ad h.W.lt h.W.size jI bN cz hlen
              refine cf (aX v' w' (by rw [hv]; exact hr)) ⟨_, hK, ?_⟩
              simp only [St.fin, hd]
              exact h.qJ (bg ho d hd) hl mR r6 LX qu pd (cl _ _)
          · cases dA
        · repeat' split at dA
          all_goals cases dA
        · repeat' split at dA
          all_goals cases dA
        · cases dA
      | _ =>
        rw [dA] at ab
        simp only [kq] at dA
        repeat' split at dA
        all_goals first
          | (cases dA; done)
          | exact ab.elim
    · exact ab.elim
  · exact ab.elim
end
end Go.Proofs.YtmgmonbmdkkhbaaGreatDoor
namespace Go.Proofs.YtmgmonbmdkkhbaaGreatDoor
variable {c8:Prop} [hZ c8]
open Go.RowKit
section
variable {E:Env} {n:Nat} {w0:World} {S0:Cx} {s:St} {a:Act} {w:World} {ν:Nat→Value} {S:Nat→Prop} {F:cG} {o:Oper} {K:St→Prop} {Q:Exit→Act→World→Prop}
theorem tB {T:Ty} : ∀(ps:List (Nat×PV))(vs:List (Nat×Value))(i:Nat)(xs:List T.den)(cells:Array Value)(R:T.den→List Value→Prop),(∀x cs,R x cs→cs.length=T.cells)→ps.length=vs.length→kx F s.bl T i ps=some xs→(∀(k:Nat)(p:Nat×PV)(v:Nat×Value),ps[k]?=some p→vs[k]?=some v→p.1=v.1∧ ∀x,PV.refs p.2=false→PV.gK p.2=[]→exp F s.bl T p.2=some x→R x v.2.cells.toList)→i*T.cells+ps.length*T.cells=cells.size→ ∃out,Instr.fill (fun i=>some (i*T.cells,T.cells)) cells vs=some out∧out.size=cells.size∧xs.length=ps.length∧out.toList.take (i*T.cells)=cells.toList.take (i*T.cells)∧ ∀k x,xs[k]?=some x→R x ((out.toList.drop ((i+k)*T.cells)).take T.cells)|[],[],i,xs,cells,R,hR,_,h,_,hs=>(by simp only[kx,Option.some.injEq]at h;subst h;exact⟨cells,rfl,rfl,rfl,rfl,fun k x hk=>by simp at hk⟩)|[],_::_,_,_,_,_,_,hl,_,_,_=>(by cases hl)|_::_,[],_,_,_,_,_,hl,_,_,_=>(by cases hl)|p::ps,v::vs,i,xs,cells,R,hR,hl,h,hr,hs=>by simp only[kx]at h;split at h;(·rename_i x am5 oI Fp hx;split at h;(·rename_i ys kH;simp only[Option.some.injEq]at h;subst h;have hpi:=Nat.eq_of_beq_eq_true am5;obtain⟨GM,aY⟩:=hr 0 p v rfl rfl;have hRx:=aY x oI Fp hx;have vy:=hR _ _ hRx;obtain⟨vi,vv⟩:=v;simp only at GM vy hRx;(have Lf:vi=i:=by rw[←GM,hpi]);subst Lf;simp only[List.length_cons]at hs;(have cM:vi*T.cells+T.cells+ps.length*T.cells=cells.size:=by rw[←hs,Nat.add_mul];omega);(have zO:vv.cells.size=T.cells:=by simpa using vy);rw[zS rfl zO (by omega)];(have fY:(cells.toList.take (vi*T.cells)++vv.cells.toList++cells.toList.drop (vi*T.cells+vv.cells.size)).toArray.size=cells.size:=by simp only[List.size_toArray,List.length_append,List.length_take,List.length_drop,Array.length_toList];omega);obtain⟨out,h1,h2,h3,h4,h5⟩:=tB ps vs (vi+1) ys _ R hR (by simpa using hl) kH (fun k p' v' RE hv'=>hr (k+1) p' v' RE hv') (by rw[fY,Nat.add_mul];omega);(have vH:(cells.toList.take (vi*T.cells)).length=vi*T.cells:=by simp only[List.length_take,Array.length_toList];omega);(have r7:out.toList.take ((vi+1)*T.cells)=cells.toList.take (vi*T.cells)++vv.cells.toList:=by rw[h4];(have e:(vi+1)*T.cells=(cells.toList.take (vi*T.cells)++vv.cells.toList).length:=by rw[List.length_append,vH,vy,Nat.add_mul];omega);rw[e,List.take_left]);refine⟨out,h1,h2.trans fY,by simp[h3],?_,fun k y hk=>?_⟩;(·have:=congrArg (List.take (vi*T.cells)) r7;rw[List.take_take,Nat.min_eq_left (by rw[Nat.add_mul];omega),List.take_append_of_le_length (by omega),List.take_take,Nat.min_self]at this;exact this);·cases k with|zero=>simp at hk;subst hk;have:=congrArg (List.drop (vi*T.cells)) r7;have e0:(cells.toList.take (vi*T.cells)).drop (vi*T.cells)=[]:=List.drop_of_length_le (by omega);rw[List.drop_take,List.drop_append_of_le_length (by omega),e0,List.nil_append]at this;rw[show(vi+1)*T.cells-vi*T.cells=T.cells from by rw[Nat.add_mul];omega]at this;rw[Nat.add_zero,this];exact hRx|succ k=>have:=h5 k y (by simpa using hk);rw[show vi+(k+1)=vi+1+k from by omega];exact this);·cases h);·cases h
theorem Full.grow(h:Full n w0 S0 s a w ν S) {w':World} {S':Nat→Prop} (hw:dz w w' none)(h1: ∀b,S b→S' b)(h2: ∀b,S' b→S b∨w.heap.size≤b)(h3: ∀b,S' b→b<w'.heap.size):Full n w0 S0 s a w' ν S':=by
 have hle:Ctx.Le ⟨ν,s.D,w,⟨S,aB w0 S0⟩⟩ ⟨ν,s.D,w',⟨S',aB w0 S0⟩⟩:=⟨fun b hb=>hw.block b (h.W.lt b hb) (by simp),h1,fun _ h=>h,fun _ _=>rfl⟩;refine⟨h.below.grown hw (by simp),fun b hb=>h1 b (h.zt b hb),fun b hb=>?_,⟨h3,fun g hg=>h.W.size g (Nat.le_trans hw.size hg),fun i c hc=>?_,h.W.ne⟩,fun t=>dW hle (h.eV t),h.size,h.defers,h.nV,h.kept,h.BT⟩
 (·rcases h2 b hb with h'|h';(·exact h.fresh b h');·exact .inr (h.W.size b h'));·refine mS hle rfl rfl (fun g hg=>?_) (h.W.bM i c hc);obtain⟨e1,e2,e3⟩:=h.fX hc hg;refine⟨hw.block g e3 (by simp),fun _ HI=>?_⟩;rcases h2 g HI with h'|h';(·exact e2 h');·omega
theorem vN(hE:aE E)(h:Full n w0 S0 s a w ν S)(ho:bK n o=true) {t m:Nat} {parts:Array (Nat×Operand)} (aK:o.op= .buildSlice t m parts)(ab:aR E (ai E F s o) (fun l=>K (s.fin o.dst l))):o.wp E.P a w (fun a' w'=> ∃s',K s'∧Rel n w0 S0 s' a' w') Q:=by
 simp only[ai,aK]at ab;split at ab;(·rename_i T d hT hd;split at ab;(·rename_i xs hl RO hb;simp only[Bool.and_eq_true]at hb;have hm:=Nat.eq_of_beq_eq_true hb.1;have S5:=Nat.le_of_ble_eq_true hb.2;obtain⟨e,hu,he,lW,jg,qH⟩:=(hE.facts hT).elem hE;obtain⟨i,hi,cM,RC,_,z,hz,BW⟩:=lW.info;(have Ch: ∀(k:Nat)(p:Nat×PV)(v:Nat×Value),(cE s parts.toList)[k]?=some p→((parts.map fun x=>(x.1,a.eval x.2)).toList)[k]?=some v→p.1=v.1∧ ∀x,PV.refs p.2=false→PV.gK p.2=[]→exp F s.bl T p.2=some x→aA T x w ⟨S,aB w0 S0⟩ v.2.cells.toList:=by intro k p v hk hv;rw[gp,List.getElem?_map]at hk;simp only[Array.toList_map,List.getElem?_map]at hv;cases hx:parts.toList[k]? with|none=>rw[hx]at hk;cases hk|some x=>rw[hx]at hk hv;simp only[Option.map_some,Option.some.injEq]at hk hv;subst hk;subst hv;refine⟨rfl,fun y h1 h2 h3=>?_⟩;have bx:=h.ev (x:=x.2) (aC ho (by have hm:x∈parts:=Array.mem_toList_iff.1 (List.mem_of_getElem? hx);simp only[aK,Op.operands,List.mem_toArray,List.mem_map];exact⟨x,Array.mem_toList_iff.2 hm,rfl⟩));exact iJ jg (h.Hp lW.own h1 h2 h3 bx));(have hlen:(cE s parts.toList).length=((parts.map fun x=>(x.1,a.eval x.2)).toList).length:=by simp[gp]);(have Hn:(cE s parts.toList).length=m:=by rw[←hm];simp[gp]);(have main: ∀cells:Array Value,cells.size=m*T.cells→ ∃out,Instr.fill (fun i=>some (i*T.cells,T.cells)) cells (parts.map fun x=>(x.1,a.eval x.2)).toList=some out∧out.size=m*T.cells∧xs.length=m∧ ∀k x,xs[k]?=some x→aA T x w ⟨S,aB w0 S0⟩ ((out.toList.drop (k*T.cells)).take T.cells):=by intro cells hc;obtain⟨out,h1,h2,h3,h4,h5⟩:=tB (F:=F) (s:=s) (cE s parts.toList) _ 0 xs cells (fun x cs=>aA T x w ⟨S,aB w0 S0⟩ cs) (fun x cs hr=>bn _ _ _ _ _ hr) hlen RO Ch (by rw[Hn,hc];omega);exact⟨out,h1,by rw[h2,hc],by rw[h3,Hn],fun k x hk=>by simpa using h5 k x hk⟩);(have fin: ∀out:Array Value,out.size=m*T.cells→xs.length=m→(∀k x,xs[k]?=some x→aA T x w ⟨S,aB w0 S0⟩ ((out.toList.drop (k*T.cells)).take T.cells))→ ∃s',K s'∧Rel n w0 S0 s' (a.put o.dst (.slice (some ⟨w.heap.size,0,none⟩) m m)) (w.alloc (.cells out e)):=by intro out Cu y6 ho3;have hh:(w.alloc (.cells out e)).heap[w.heap.size]?=some (.cells out e (0,0)):=_root_.Go.heap_alloc_new w _;have hmb:m≤16777216:=Nat.le_trans (Nat.le_mul_of_pos_right m qH) S5;have fA: ∀k x,xs[k]?=some x→aA T x (w.alloc (.cells out e)) ⟨S,aB w0 S0⟩ ((out.toList.drop (k*T.cells)).take T.cells):=fun k x hk=>au (w:=w) (fun b hb=>Below.heap_alloc w _ b (h.W.lt b hb)) (fun _ h=>h) _ _ _ lW.own (ho3 k x hk);split at ab;(·simp only[aR]at ab;refine⟨_,ab,?_⟩;have hg:=h.grow (S':=fun b=>S b∨b=w.heap.size) (dN w (.cells out e) none) (fun b hb=>.inl hb) (fun b hb=>hb.imp id (fun e=>by omega)) (fun b hb=>by simp only[World.alloc,Array.size_push];rcases hb with hb|hb;(·have:=h.W.lt b hb;omega);·omega);refine(hg.put (bg ho) ?_).rel;(suffices lB:aA (.sl T) xs (w.alloc (.cells out e)) ⟨fun b=>S b∨b=w.heap.size,aB w0 S0⟩ [.slice (some ⟨w.heap.size,0,none⟩) m m]by unfold nT;split;(·simp only[ag];exact⟨lW.own,⟨_,m,rfl⟩,lB⟩);·simp only[ag];exact⟨lW.own,lB⟩);refine⟨_,m,by rw[y6],by omega,by omega,.inr ⟨w.heap.size,0,rfl,.inr rfl,?_⟩⟩;refine sj (vs:=out.toList) (by simp[Cu,y6]) (fun j u hj=>?_) (fun k x hk=>?_);(·show(w.alloc (.cells out e)).cell? _=_;rw[cell_of_row _ _ _ _ _ _ hh,Nat.zero_add];simpa using hj);·exact au (w:=w.alloc (.cells out e)) (M:=⟨S,aB w0 S0⟩) (M':=⟨fun b=>S b∨b=w.heap.size,aB w0 S0⟩) (fun b _=>rfl) (fun _ h=>.inl h) _ _ _ lW.own (fA k x hk));·simp only[aR,St.fin,hd]at ab;refine⟨_,ab,?_⟩;rw[hd];refine h.qJ (v:=.slice (some ⟨w.heap.size,0,none⟩) m m) (bg ho d hd) hl lW.own (dN w _ none) ⟨_,_,_,rfl⟩ (fun g hg=>by injection hg with hg;simp at hg;omega) ?_ (cl _ _);refine⟨_,rfl,by omega,.inr ⟨w.heap.size,0,m,out,e,by rw[y6],by omega,by omega,fun hS=>absurd (h.W.lt _ hS) (by simp),h.W.size _ (Nat.le_refl _),hh,by omega,?_⟩⟩;refine sj (vs:=out.toList) (by simp[Cu,y6]) (fun j u hj=>?_) (fun k x hk=>?_);(·rw[cell_of_row _ _ _ _ _ _ hh,Nat.zero_add];simpa using hj);·exact fA k x hk);(have hns: ¬(m*T.cells>2^24):=by omega);by_cases h0:m*T.cells=0;(·obtain⟨out,h1,h2,h3,h4⟩:=main ((Array.range (m*T.cells)).map fun j=>(#[]:Array Value)[j%(#[]:Array Value).size]!) (by simp);refine cf (v:=.slice (some ⟨w.heap.size,0,none⟩) m m) (w':=w.alloc (.cells out e)) ?_ (fin out h2 h3 h4);simp only[execOp,aK,Instr.buildSlice,Sem.run_bind,run_underlying hu,Result.andThen_ok,lW.sizeOf w,Sem.run_ite,hns,if_false,h0,if_true,Sem.run_pure];rw[h0]at h1;simp only[h1,Sem.run_bind,newRow,run_newObj,Result.andThen_ok,Sem.run_pure];rfl);·obtain⟨out,h1,h2,h3,h4⟩:=main ((Array.range (m*T.cells)).map fun j=>z.cells[j%z.cells.size]!) (by simp);refine cf (v:=.slice (some ⟨w.heap.size,0,none⟩) m m) (w':=w.alloc (.cells out e)) ?_ (fin out h2 h3 h4);simp only[execOp,aK,Instr.buildSlice,Sem.run_bind,run_underlying hu,Result.andThen_ok,lW.sizeOf w,Sem.run_ite,hns,if_false,h0,Sem.run_pure,zeroValue,typeInfo,run_program,hi,hz,h1,newRow,run_newObj];rfl);·exact ab.elim)
 ·exact ab.elim
theorem vO (hE : aE E) (h : Full n w0 S0 s a w ν S) (ho : bK n o = true) {t d : Nat} {x y : Operand} {T : Ty} {zc : List PV} {k k' : IntKind} {m0 : Int} (pe : T.DL = true) (aK : o.op = .makeSlice t x y) (hT : E.ty t = some (.sl T)) (hd : o.dst = some d) (hl : look d s.bl = none) (Ld : zeroCells T = some zc)
    (BY : a.eval x = .int k m0) (GS : a.eval y = .int k' m0) (h0 : 0 ≤ m0) (h2 : m0 ≤ 274877906944) (ab : K ⟨(d, .aI d) :: s.sl, (d, .arr T (List.replicate (Int.toNat m0) (cD T))) :: s.bl⟩) : o.wp E.P a w (fun a' w' => ∃ s', K s' ∧ Rel n w0 S0 s' a' w') Q := by
  obtain ⟨e, hu, he, lW, jg, qH⟩ := (hE.facts hT).elem hE
  obtain ⟨i, hi, cM, RC, zP, z, hz, BW⟩ := lW.info
  obtain ⟨zv, GN, _, _⟩ := lZ (c := h.c) T zc Ld
  rw [hz] at zP
  have xQ := iN zP GN
  have S6 : (i.bytes : Int) * m0 ≤ 281474976710656 := by
    have e1 : (i.bytes : Int) * m0 ≤ 512 * 274877906944 := Int.mul_le_mul (by omega) h2 h0 (by omega)
    omega
  have hr := run_make (P := E.P) w t e i z hu hi hz k k' m0 m0 h0 (Int.le_refl _) S6 (by omega)
  rw [cM] at hr
  refine cf (v := .slice (some ⟨w.heap.size, 0, none⟩) (Int.toNat m0) (Int.toNat m0)) (w' := w.alloc (.cells (madeCells z.cells (Int.toNat m0 * T.cells)) e)) ?_ ⟨_, ab, ?_⟩
  · simp only [execOp, aK, BY, GS, Sem.run_bind, hr, Result.andThen_ok, Sem.run_pure]
  · rw [hd]
    have hh : (w.alloc (.cells (madeCells z.cells (Int.toNat m0 * T.cells)) e)).heap[w.heap.size]? = some (.cells (madeCells z.cells (Int.toNat m0 * T.cells)) e (0, 0)) := _root_.Go.heap_alloc_new w _
    have hmb : Int.toNat m0 ≤ 274877906944 := by omega
    refine h.qJ (bg ho d hd) hl lW.own (dN w _ none) ⟨_, _, _, rfl⟩ (fun g hg => by injection hg with hg; simp at hg; omega) ?_ (cl _ _)
    refine ⟨_, rfl, by rw [List.length_replicate]; omega, .inr ⟨w.heap.size, 0, Int.toNat m0, _, e, by rw [List.length_replicate], by rw [List.length_replicate]; omega, by omega, fun hS => absurd (h.W.lt _ hS) (by simp), h.W.size _ (Nat.le_refl _), hh, by rw [size_madeCells]; omega, fun j q hq => ?_⟩⟩
    rw [List.getElem?_replicate] at hq
    split at hq
    · rename_i hj
      simp only [Option.some.injEq] at hq
      subst hq
      refine ⟨zv, bn _ _ _ _ _ (l5 (w := w) (M := ⟨S, aB w0 S0⟩) T zv pe GN), fun k u hk => ?_, l5 T zv pe GN⟩
      have tp : k < T.cells := by rw [← bn _ _ _ _ _ (l5 (w := w) (M := ⟨S, aB w0 S0⟩) T zv pe GN)]; exact (List.getElem?_eq_some_iff.1 hk).1
      rw [cell_of_row _ _ _ _ _ _ hh, Nat.zero_add]
      have cN : j * T.cells + k < Int.toNat m0 * T.cells := by
        calc j * T.cells + k < j * T.cells + T.cells := by omega
          _ = (j + 1) * T.cells := by rw [Nat.add_mul]; omega
          _ ≤ Int.toNat m0 * T.cells := Nat.mul_le_mul_right _ hj
      have S3 : (j * T.cells + k) % z.cells.size = k := by
        rw [BW, Nat.add_comm, Nat.add_mul_mod_self_right, Nat.mod_eq_of_lt tp]
      simp only [madeCells, Array.getElem?_map]
      rw [Array.getElem?_eq_getElem (by simpa using cN)]
      simp only [Option.map_some, Array.getElem_range, S3]
      rw [getElem!_pos z.cells k (by omega)]
      rw [← xQ] at hk
      simp only [Array.getElem?_toList] at hk
      rw [Array.getElem?_eq_getElem (by omega)] at hk
      exact hk
    · cases hq
theorem xR(hE:aE E)(h:Full n w0 S0 s a w ν S)(ho:bK n o=true) {t:Nat} {x y:Operand} (aK:o.op= .makeSlice t x y)(ab:aR E (ai E F s o) (fun l=>K (s.fin o.dst l))):o.wp E.P a w (fun a' w'=> ∃s',K s'∧Rel n w0 S0 s' a' w') Q:=by
 simp only[ai,aK]at ab;have hx:=h.ev (aC ho (x:=x) (by simp[aK,Op.operands]));have hy:=h.ev (aC ho (x:=y) (by simp[aK,Op.operands]));split at ab;(·rename_i T d k m k' m' hT hd tv Cr;split at ab;(·rename_i zc hl Ld pe;obtain⟨⟨h0,h1,h2⟩,ab⟩:=ab;simp only[aR,St.fin,hd]at ab;rw[tv]at hx;rw[Cr]at hy;obtain⟨BY,_⟩:=br hx;obtain⟨GS,_⟩:=br hy;subst h1;exact vO hE h ho pe aK hT hd hl Ld BY GS h0 h2 ab);·exact ab.elim)
 ·exact ab.elim
end
end Go.Proofs.YtmgmonbmdkkhbaaGreatDoor
namespace Go.Proofs.YtmgmonbmdkkhbaaGreatDoor
variable {c8:Prop} [hZ c8]
open Go.RowKit
theorem S7 {w w':World} {M M':Mem} : ∀(T:Ty)(x:T.den)(vs:List Value),T.flat=true→aA T x w M vs→aA T x w' M' vs:=by
 intro T;induction T with|unit=>intro x vs _ h;exact h|int k=>intro x vs _ h;exact h|bool=>intro x vs _ h;exact h|str=>intro x vs _ h;exact h|sl t=>intro x vs hf;cases hf|own t=>intro x vs hf;cases hf|ptr t=>intro x vs hf;cases hf|fh f t=>intro x vs hf;cases hf|mp a b=>intro x vs hf;cases hf|aq=>intro x vs _ h;exact h|aP a b=>intro x vs _ h;exact h.elim|st t ih=>intro x vs hf h;exact ih x vs hf h|pair a b fK fi=>intro x vs hf h;simp only[Ty.flat,Bool.and_eq_true]at hf;obtain⟨va,vb,rfl,h1,h2⟩:=h;exact⟨va,vb,rfl,fK _ _ hf.1 h1,fi _ _ hf.2 h2⟩
theorem xS {w w':World} {M M':Mem} {T:Ty} {x:T.den} {v:Value} (hf:T.flat=true)(h:cw T x w M v):cw T x w' M' v:=by
 cases T with|unit=>exact h|pair a b=>exact h|aP a b=>exact h|st t=>obtain⟨vs,rfl,h⟩:=h;exact⟨vs,rfl,S7 t x vs hf h⟩|int k=>exact h|bool=>exact h|str=>exact h|sl t=>cases hf|own t=>cases hf|ptr t=>cases hf|fh f t=>cases hf|mp a b=>cases hf|aq=>exact h
theorem S8 {w w':World} {M M':Mem} : ∀(T:Ty)(x:T.den)(vs:List Value),T.flat=true→vC T x w M vs→vC T x w' M' vs:=by
 intro T;induction T with|aP a b fK fi=>intro x vs hf h;simp only[Ty.flat,Bool.and_eq_true]at hf;obtain⟨v,r,rfl,h1,h2⟩:=h;exact⟨v,r,rfl,xS hf.1 h1,fi _ _ hf.2 h2⟩|_=>intro x vs hf h;obtain⟨v,rfl,h⟩:=h;exact⟨v,rfl,xS hf h⟩
theorem HJ {w w':World} {M M':Mem} {T:Ty} {x:T.den} {v:Value} (hf:T.flat=true)(h:jD T x w M v):jD T x w' M' v:=by
 cases T;(case aP a b=>obtain⟨vs,rfl,h⟩:=h;exact⟨vs,rfl,S8 _ x vs hf h⟩);all_goals exact xS (w:=w) (w':=w') (M:=M) (M':=M') (x:=x) (v:=v) hf h
theorem wy: ∀(T:Ty),T.flat=true→aJ T=0:=by intro T;induction T<;>simp_all[Ty.flat,aJ]
section
variable {E:Env} {n:Nat} {w0:World} {S0:Cx} {s:St} {a:Act} {w:World} {ν:Nat→Value} {S:Nat→Prop} {F:cG} {o:Oper} {K:St→Prop} {Q:Exit→Act→World→Prop}
theorem S9(hE:aE E)(h:Full n w0 S0 s a w ν S)(ho:bK n o=true) {c:Call} (aK:o.op= .call c)(iT:c.callee= .builtin .cap)(ab:aR E (ai E F s o) (fun l=>K (s.fin o.dst l))):o.wp E.P a w (fun a' w'=> ∃s',K s'∧Rel n w0 S0 s' a' w') Q:=by
 obtain⟨callee,args,argTypes⟩:=c;simp only at iT;subst iT;simp only[ai,aK]at ab;split at ab;(·rename_i t bx gn;(obtain⟨xo,js⟩: ∃xo,args= #[xo]:=by(have hl:args.toList.length=1:=by have:=congrArg List.length bx;rw[o0,List.length_map]at this;simpa using this);match hh:args.toList,hl with|[xo],_=>exact⟨xo,Array.toList_inj.1 (by rw[hh])⟩);subst js;simp only[bJ,List.cons.injEq,and_true]at bx;have Aa:argTypes= #[t]:=Array.toList_inj.1 (by rw[gn]);subst Aa;have hx:=h.ev (aC ho (x:=xo) (by simp[aK,Op.operands,Call.operands]));rw[bx]at hx;simp only[ag]at hx;split at ab;(·rename_i U hT;obtain⟨e,hu,_⟩:=(hE.facts hT).elem hE;refine h.val ho (v:=.int .i64 0) ?_ (bZ (by simp[IntKind.min,IntKind.max,IntKind.signed,IntKind.bits])) ab;simp[execOp,aK,resolve,invoke,builtin,Builtin.cap_,run_underlying hu,hx,goInt]);·exact ab.elim)
 ·exact ab.elim
theorem Ta(hE:aE E)(h:Full n w0 S0 s a w ν S)(ho:bK n o=true) {c:Call} (aK:o.op= .call c)(iT:c.callee= .builtin .len)(ab:aR E (ai E F s o) (fun l=>K (s.fin o.dst l))):o.wp E.P a w (fun a' w'=> ∃s',K s'∧Rel n w0 S0 s' a' w') Q:=by
 obtain⟨callee,args,argTypes⟩:=c;simp only at iT;subst iT;simp only[ai,aK]at ab;split at ab;(·rename_i p t bx gn;(obtain⟨xo,js⟩: ∃xo,args= #[xo]:=by(have hl:args.toList.length=1:=by have:=congrArg List.length bx;rw[o0,List.length_map]at this;simpa using this);match hh:args.toList,hl with|[xo],_=>exact⟨xo,Array.toList_inj.1 (by rw[hh])⟩);subst js;simp only[bJ,List.cons.injEq,and_true]at bx;have Aa:argTypes= #[t]:=Array.toList_inj.1 (by rw[gn]);subst Aa;have hx:=h.ev (aC ho (x:=xo) (by simp[aK,Op.operands,Call.operands]));rw[bx]at hx;(have fin: ∀m:Nat,m≤9223372036854775807→(Builtin.len_ #[t] o.type #[a.eval xo]).run E.P w= .ok (.int .i64 m) w→aR E (vE m) (fun l=>K (s.fin o.dst l))→o.wp E.P a w (fun a' w'=> ∃s',K s'∧Rel n w0 S0 s' a' w') Q:=by intro m hm hr hK;refine h.val ho (v:=.int .i64 m) ?_ (bZ (by simp[IntKind.min,IntKind.max,IntKind.signed,IntKind.bits];omega)) hK;simp[execOp,aK,resolve,invoke,builtin,hr]);simp only[rX]at ab;split at ab;(·rename_i hT;obtain⟨d,hu,vA⟩:=(hE.facts hT).nJ;(have hd:d= .string:=by cases d<;>first|rfl|cases vA);subst hd;split at ab;(·rename_i y;obtain⟨hv,hl⟩:=dk hx;(have cM:(⟨y.toArray⟩:ByteArray).size=y.length:=by simp[ByteArray.size]);refine fin _ hl ?_ ab;simp[Builtin.len_,run_underlying hu,hv,goInt,cM]);·exact ab.elim);(·rename_i U hT;obtain⟨e,hu,_⟩:=(hE.facts hT).elem hE;(have hlen: ∀(aa:Option Addr)(m cap:Nat),a.eval xo= .slice aa m cap→(Builtin.len_ #[t] o.type #[a.eval xo]).run E.P w= .ok (.int .i64 m) w:=by intro aa m cap hv;simp[Builtin.len_,run_underlying hu,hv,goInt]);split at ab;(·rename_i U' xs;simp only[ag]at hx;obtain⟨_,aa,cap,hv,h1,h2,_⟩:=hx;injection hv with hv;exact fin _ (Nat.le_trans h1 h2) (hlen _ _ _ hv) ab);(·rename_i id;split at ab;(·rename_i U' xs te hl;obtain⟨hl,_⟩:=bW hl;simp only[ag]at hx;obtain⟨hd,cj,aa,m,cap,hv⟩:=hx;obtain⟨gn,_,u,mW,Hq,cm⟩:=h.W.bM _ _ hl;simp only[List.cons.injEq,and_true]at mW;simp only[Full.c]at cj;(have hm:m=xs.length:=by rw[cj,mW]at hv;rcases cm with⟨rfl,rfl⟩|⟨g,ob,lQ,cur,e',rfl,_⟩;(·injection hv with e1 e2 e3;exact e2.symm);·injection hv with e1 e2 e3;exact e2.symm);subst hm;exact fin _ Hq (hlen _ _ _ hv) ab);·exact ab.elim);(·rename_i id sz off len;obtain⟨hl,hK⟩:=ab;simp only[ag]at hx;obtain⟨hd,aa,m,cap,b,cj,hn,jP,hv,hb⟩:=hx;exact fin _ hl (hlen _ _ _ hv) hK);(·simp only[ag]at hx;exact fin 0 (by omega) (hlen _ _ _ hx) ab);·exact ab.elim);(·rename_i K' V' hT;obtain⟨d,hu,vA⟩:=(hE.facts hT).nJ;(obtain⟨k',e',rfl⟩: ∃k' e',d= .map k' e':=by cases d<;>first|exact⟨_,_,rfl⟩|cases vA);split at ab;(·rename_i id;split at ab;(·rename_i K2 V2 es hl;obtain⟨hl,_⟩:=bW hl;simp only[ag]at hx;obtain⟨_,cj,_⟩:=hx;obtain⟨_,_,h0,r,aT,clock,h1,_,_,h4,_,h6,_⟩:=h.W.bM _ _ hl;simp only[Full.c]at cj;(have cj:a.eval xo= .map (some r):=by rw[cj];exact h1);refine fin _ h0 ?_ ab;simp[Builtin.len_,run_underlying hu,cj,MapKept.run_getObj_map h4,goInt,h6]);·exact ab.elim);·exact ab.elim);·exact ab.elim)
 ·exact ab.elim
theorem kI {P:Program} {c:Ctx} (mx:Bool) {k:IntKind} {Kl:Out→Prop} : ∀(ps:List PV)(vs:List Value)(x:Int),k.min≤x∧x≤k.max→aj c ps vs→aR E (gN mx k x ps) Kl→ ∃z,Kl (.val (.iv (.int k) z))∧k.min≤z∧z≤k.max∧(vs.foldlM (if mx then Builtin.max2 else Builtin.min2) (.int k x)).run P w= .ok (.int k z) w|[],vs,x,hx,hp,h=>(by simp only[aj]at hp;subst hp;exact⟨x,h,hx.1,hx.2,by simp⟩)|p::ps,vs,x,hx,hp,h=>by simp only[aj]at hp;obtain⟨v,r,rfl,h1,h2⟩:=hp;cases p with|iv T y=>(cases T with|int l=>simp only[gN]at h;split at h;(·rename_i hk;have hk:=de hk;subst hk;obtain⟨rfl,hy⟩:=br h1;change Int at y;cases mx;(·(have hz:k.min≤min x (y:Int)∧min x (y:Int)≤k.max:=by(have e1:min x (y:Int)=x∨min x (y:Int)=y:=by rcases Int.le_total x y with h|h<;>simp[Int.min_def,h]<;>omega);rcases e1 with e|e<;>rw[e]<;>assumption);obtain⟨z,Tb,Tc,Td,HK⟩:=kI false ps r _ hz h2 h;refine⟨z,Tb,Tc,Td,?_⟩;rw[List.foldlM_cons,Sem.run_bind];(have e:Builtin.min2 (.int k x) (.int k y)=pure (.int k (min x (y:Int))):=by simp only[Builtin.min2,Int.min_def];congr 2;by_cases hc:x≤(y:Int);(·rw[if_pos hc,if_neg (by omega)]);·rw[if_neg hc,if_pos (by omega)]);simp only[Bool.false_eq_true,if_false]at HK⊢;rw[e];simpa using HK);·(have hz:k.min≤max x (y:Int)∧max x (y:Int)≤k.max:=by(have e1:max x (y:Int)=x∨max x (y:Int)=y:=by rcases Int.le_total x y with h|h<;>simp[Int.max_def,h]<;>omega);rcases e1 with e|e<;>rw[e]<;>assumption);obtain⟨z,Tb,Tc,Td,HK⟩:=kI true ps r _ hz h2 h;refine⟨z,Tb,Tc,Td,?_⟩;rw[List.foldlM_cons,Sem.run_bind];(have e:Builtin.max2 (.int k x) (.int k y)=pure (.int k (max x (y:Int))):=by simp only[Builtin.max2,Int.max_def];congr 2;by_cases hc:x≤(y:Int);(·rw[if_pos hc];by_cases hd:(y:Int)>x;(·rw[if_pos hd]);·rw[if_neg hd];omega);·rw[if_neg hc,if_neg (by omega)]);simp only[if_true]at HK⊢;rw[e];simpa using HK);(·exact h.elim)|_=>simp only[gN]at h;exact h.elim)|_=>simp only[gN]at h;exact h.elim
theorem Te(h:Full n w0 S0 s a w ν S)(ho:bK n o=true) {c:Call} (aK:o.op= .call c)(iT:c.callee= .builtin .min)(ab:aR E (ai E F s o) (fun l=>K (s.fin o.dst l))):o.wp E.P a w (fun a' w'=> ∃s',K s'∧Rel n w0 S0 s' a' w') Q:=by
 obtain⟨callee,args,argTypes⟩:=c;simp only at iT;subst iT;simp only[ai,aK]at ab;split at ab;(·rename_i k x r bx;have bt:=fB h args.toList (fun y hy=>aC ho (by simp only[aK,Op.operands,Call.operands];simpa using hy));rw[bx]at bt;simp only[aj]at bt;obtain⟨v,vs,zO,h1,h2⟩:=bt;obtain⟨rfl,hx⟩:=br h1;obtain⟨z,Tb,Tc,Td,HK⟩:=kI (P:=E.P) (w:=w) false r vs x hx h2 ab;refine h.val ho (v:=.int k z) ?_ (bZ ⟨Tc,Td⟩) Tb;(have hl:(args.map a.eval).toList= .int k x::vs:=by simpa using zO);simp only[Bool.false_eq_true,if_false]at HK;simp only[execOp,aK,resolve,invoke,builtin,Builtin.min_,Sem.run_bind,Sem.run_pure,Result.andThen_ok,hl,HK])
 ·exact ab.elim
theorem Tf(h:Full n w0 S0 s a w ν S)(ho:bK n o=true) {c:Call} (aK:o.op= .call c)(iT:c.callee= .builtin .max)(ab:aR E (ai E F s o) (fun l=>K (s.fin o.dst l))):o.wp E.P a w (fun a' w'=> ∃s',K s'∧Rel n w0 S0 s' a' w') Q:=by
 obtain⟨callee,args,argTypes⟩:=c;simp only at iT;subst iT;simp only[ai,aK]at ab;split at ab;(·rename_i k x r bx;have bt:=fB h args.toList (fun y hy=>aC ho (by simp only[aK,Op.operands,Call.operands];simpa using hy));rw[bx]at bt;simp only[aj]at bt;obtain⟨v,vs,zO,h1,h2⟩:=bt;obtain⟨rfl,hx⟩:=br h1;obtain⟨z,Tb,Tc,Td,HK⟩:=kI (P:=E.P) (w:=w) true r vs x hx h2 ab;refine h.val ho (v:=.int k z) ?_ (bZ ⟨Tc,Td⟩) Tb;(have hl:(args.map a.eval).toList= .int k x::vs:=by simpa using zO);simp only[if_true]at HK;simp only[execOp,aK,resolve,invoke,builtin,Builtin.max_,Sem.run_bind,Sem.run_pure,Result.andThen_ok,hl,HK])
 ·exact ab.elim
end
end Go.Proofs.YtmgmonbmdkkhbaaGreatDoor
namespace Go.Proofs.YtmgmonbmdkkhbaaGreatDoor
variable {c8:Prop} [hZ c8]
open Go.RowKit Go.MapKept
/-! ### Keys -/
def gR:(T:Ty)→T.den→List Value|.int k,x=>[.int k x]|.bool,x=>[.bool x]|.str,x=>[.string ⟨x.toArray⟩]|.pair a b,x=>gR a x.1++gR b x.2|.st t,x=>gR t x|_,_=>[]
theorem bX {w:World} {M:Mem} : ∀(T:Ty)(x:T.den)(vs:List Value),eb T=true→aA T x w M vs→vs=gR T x:=by
 intro T;induction T with|int k=>intro x vs _ h;exact h.1|bool=>intro x vs _ h;exact h|str=>intro x vs _ h;exact h.1|pair a b fK fi=>intro x vs hp h;simp only[eb,Bool.and_eq_true]at hp;obtain⟨va,vb,rfl,h1,h2⟩:=h;rw[fK _ _ hp.1 h1,fi _ _ hp.2 h2];rfl|st t ih=>intro x vs hp h;exact ih x vs hp h|_=>intro x vs hp;cases hp
theorem LY: ∀(T:Ty)(x y:T.den),eb T=true→(jM T x y=true↔x=y):=by
 intro T;induction T with|int k=>intro x y _;simp[jM]|bool=>intro x y _;simp[jM]|str=>intro x y _;simp[jM]|pair a b fK fi=>intro x y hp;simp only[eb,Bool.and_eq_true]at hp;simp only[jM,Bool.and_eq_true,fK _ _ hp.1,fi _ _ hp.2];exact⟨fun h=>Prod.ext h.1 h.2,fun h=>by rw[h];exact⟨rfl,rfl⟩⟩|st t ih=>intro x y hp;exact ih x y hp|_=>intro x y hp;cases hp
theorem HL: ∀(T:Ty)(x y:T.den),eb T=true→iC T x y=some (jM T x y):=by
 intro T;induction T with|int k=>intro x y _;rfl|bool=>intro x y _;rfl|str=>intro x y _;rfl|pair a b fK fi=>intro x y hp;simp only[eb,Bool.and_eq_true]at hp;simp only[iC,jM,fK _ _ hp.1,fi _ _ hp.2]|st t ih=>intro x y hp;exact ih x y hp|_=>intro x y hp;cases hp
theorem kJ {E:Env} {t:Nat} {K:Ty} (h:zl E t K=true):eb K=true∧iS E t K∧dep K≤101∧K.val=true:=by
 cases K with|int k=>exact⟨rfl,trivial,by simp[dep],rfl⟩|bool=>exact⟨rfl,trivial,by simp[dep],rfl⟩|str=>exact⟨rfl,trivial,by simp[dep],rfl⟩|st R=>simp only[zl,Bool.and_eq_true]at h;have:=Nat.le_of_ble_eq_true h.2;exact⟨h.1.2,h.1.1,by simp only[dep];omega,rfl⟩|_=>cases h
theorem tC: ∀(T:Ty)(x:T.den),eb T=true→ ∀u,u∈gR T x→ ∀n,Instr.sameBits n u u=true:=by
 intro T;induction T with|int k=>intro x _ u hu n;simp only[gR,List.mem_singleton]at hu;subst hu;cases n<;>simp[Instr.sameBits]|bool=>intro x _ u hu n;simp only[gR,List.mem_singleton]at hu;subst hu;cases n<;>simp[Instr.sameBits]|str=>intro x _ u hu n;simp only[gR,List.mem_singleton]at hu;subst hu;cases n<;>(simp only[Instr.sameBits];exact(bytes_beq _ _).2 rfl)|pair a b fK fi=>intro x hp u hu n;simp only[eb,Bool.and_eq_true]at hp;simp only[gR]at hu;rcases List.mem_append.1 hu with hu|hu;(·exact fK _ hp.1 u hu n);(·exact fi _ hp.2 u hu n)|st t ih=>intro x hp u hu n;exact ih x hp u hu n|_=>intro x hp;cases hp
theorem pf {p:Value→Value→Bool} : ∀(l:List Value),(∀u,u∈l→p u u=true)→(l.zip l).all (fun x=>p x.1 x.2)=true|[],_=>rfl|u::l,h=>by simp only[List.zip_cons_cons,List.all_cons,Bool.and_eq_true];exact⟨h u (List.mem_cons_self ..),pf l fun v hv=>h v (List.mem_cons_of_mem _ hv)⟩
theorem xT {P:Program} {w w2:World} {M:Mem} {K:Ty} {x:K.den} {v:Value} (hp:eb K=true)(hv:K.val=true)(h:cw K x w M v):(Instr.keyThatStays v v).run P w2= .ok v w2:=by
 (have hs:Instr.sameBits 10000 v v=true:=by cases K with|int k=>obtain⟨h,_⟩:=h;injection h with h;subst h;simp[Instr.sameBits]|bool=>have h:[v]=[.bool x]:=h;injection h with h;subst h;simp[Instr.sameBits]|str=>obtain⟨h,_⟩:=h;injection h with h;subst h;simp only[Instr.sameBits];exact(bytes_beq _ _).2 rfl|st R=>obtain⟨vs,rfl,hr⟩:=h;have e:=bX R x vs hp hr;subst e;simp only[Instr.sameBits,beq_self_eq_true,Bool.true_and];exact pf _ fun u hu=>tC R x hp u hu _|_=>first|cases hp|cases hv)
 simp[Instr.keyThatStays,hs]
section
variable {E:Env} {w:World} {M:Mem}
theorem Ae(hE:aE E): ∀(fs:List Field)(R:Ty)(off:Nat),bp E.ty fs R off=true→gm E.ty E.cmp fs=true→ ∀(x:R.den)(xs:Array Value),off+R.cells≤xs.size→aA R x w M ((xs.toList.drop off).take R.cells)→ ∀f,f∈fs→f.name≠ "_" ∧ ∃(T:Ty)(y:T.den)(v:Value),E.ty f.type=some T∧iS E f.type T∧dep T≤dep R∧(Go.part f.type xs f.offset).run E.P w= .ok v w∧cw T y w M v:=by
 (have one: ∀(f:Field)(T:Ty)(off:Nat)(y:T.den)(xs:Array Value),Nat.beq f.offset off=true→lS E.ty f.type T=true→(match E.ty f.type with|some (.int _)=>true|some .bool=>true|some .str=>true|some (.st _)=>E.cmp f.type|_=>false)=true→off+T.cells≤xs.size→aA T y w M ((xs.toList.drop off).take T.cells)→ ∃v:Value,E.ty f.type=some T∧iS E f.type T∧(Go.part f.type xs f.offset).run E.P w= .ok v w∧cw T y w M v:=by intro f T off y xs h1 h2 hc hx hr;have kC:=Nat.eq_of_beq_eq_true h1;(have hT:E.ty f.type=some T:=by unfold lS at h2;split at h2;(·rename_i U hU;rw[Ty.ct h2]at hU;exact hU);·cases h2);have hf:=hE.facts hT;rw[hT]at hc;(have hk:iS E f.type T:=by cases T<;>first|trivial|exact hc|cases hc);(have y4:cw T y w M (valOf T ((xs.toList.drop off).take T.cells)):=by have:=fy hf.val hr;have hv:=hf.val;cases T<;>first|exact this|cases hv);exact⟨_,hT,hk,by rw[kC];exact gE hf hx,y4⟩)
 intro fs;induction fs with|nil=>intro R off h;cases h|cons f fs YT=>intro R off h hc x xs hx hr g hg;simp only[gm,Bool.and_eq_true]at hc;cases fs with|nil=>simp only[bp,Bool.and_eq_true,Bool.not_eq_true']at h;obtain⟨⟨⟨⟨h1,h2⟩,h3⟩,h4⟩,h5⟩:=h;rcases List.mem_cons.1 hg with rfl|hg;(·obtain⟨v,e1,e2,e3,e4⟩:=one g R off x xs h1 h2 hc.1 hx hr;exact⟨by simpa using h5,R,x,v,e1,e2,Nat.le_refl _,e3,e4⟩);(·cases hg)|cons f2 fs2=>cases R with|pair a b=>simp only[bp,Bool.and_eq_true,Bool.not_eq_true']at h;obtain⟨⟨⟨⟨⟨h1,h2⟩,h3⟩,h4⟩,h5⟩,h6⟩:=h;simp only[Ty.cells]at hx hr;obtain⟨va,vb,hv,Cc,DS⟩:=hr;have rZ:=bn _ _ _ _ _ Cc;have Yb:=bn _ _ _ _ _ DS;(have e1:(xs.toList.drop off).take a.cells=va:=by have:=congrArg (List.take a.cells) hv;rw[List.take_take,Nat.min_eq_left (by omega),←rZ,List.take_left]at this;rw[←rZ];exact this);(have e2:(xs.toList.drop (off+a.cells)).take b.cells=vb:=by have:=congrArg (List.drop a.cells) hv;rw[List.drop_take,List.drop_drop,←rZ,List.drop_left,rZ]at this;rw[show a.cells+b.cells-a.cells=b.cells from by omega]at this;exact this);rcases List.mem_cons.1 hg with rfl|hg;(·obtain⟨v,e3,e4,e5,e6⟩:=one g a off x.1 xs h1 h2 hc.1 (by omega) (by rw[e1];exact Cc);exact⟨by simpa using h5,a,x.1,v,e3,e4,by simp only[dep];omega,e5,e6⟩);(·obtain⟨n1,T,y,v,e3,e4,e5,e6⟩:=YT b (off+a.cells) h6 hc.2 x.2 xs (by omega) (by rw[e2];exact DS) g hg;exact⟨n1,T,y,v,e3,e4,by simp only[dep];omega,e6⟩)|_=>simp only[bp]at h;cases h
theorem Cv {V:Ty} (hV:V.val=true): ∀(m k:Nat)(x:(rowOf V (m+1)).den)(xs:Array Value),(k+(m+1))*V.cells≤xs.size→aA (rowOf V (m+1)) x w M ((xs.toList.drop (k*V.cells)).take ((m+1)*V.cells))→ ∀i,k≤i→i<k+(m+1)→ ∃y:V.den,aA V y w M ((xs.toList.drop (i*V.cells)).take V.cells):=by
 intro m;induction m with|zero=>intro k x xs hx hr i h1 h2;(have:i=k:=by omega);subst this;simp only[Nat.zero_add,Nat.one_mul]at hr;exact⟨x,hr⟩|succ m ih=>intro k x xs hx hr i h1 h2;obtain⟨va,vb,hv,Cc,DS⟩:=hr;have rZ:=bn _ _ _ _ _ Cc;have hle:V.cells≤(m+1+1)*V.cells:=Nat.le_mul_of_pos_left _ (by omega);(have e1:(xs.toList.drop (k*V.cells)).take V.cells=va:=by have:=congrArg (List.take V.cells) hv;rw[List.take_take,Nat.min_eq_left hle,←rZ,List.take_left]at this;rw[←rZ];exact this);(have e2:(xs.toList.drop ((k+1)*V.cells)).take ((m+1)*V.cells)=vb:=by have:=congrArg (List.drop V.cells) hv;rw[List.drop_take,List.drop_drop,←rZ,List.drop_left,rZ]at this;rw[show(m+1+1)*V.cells-V.cells=(m+1)*V.cells from by rw[Nat.add_mul (m+1) 1];omega,show k*V.cells+V.cells=(k+1)*V.cells from by rw[Nat.add_mul,Nat.one_mul]]at this;exact this);by_cases zJ:i=k;(·subst zJ;exact⟨x.1,by rw[e1];exact Cc⟩);·exact ih (k+1) x.2 xs (by rw[show k+1+(m+1)=k+(m+1+1)from by omega];exact hx) (by rw[e2];exact DS) i (by omega) (by omega)
theorem wz (hE : aE E) : ∀ (d : Nat) (K : Ty) (t : Nat) (x : K.den) (v : Value), E.ty t = some K → iS E t K → cw K x w M v → dep K ≤ d → ∀ em, (Instr.checkKey em (d + 1) t v).run E.P w = .ok () w := by
  intro d
  induction d with
  | zero =>
    intro K t x v hT hk hv hd em
    have hf := hE.facts hT
    obtain ⟨dd, hu, hs⟩ := hf.nJ
    rw [Instr.checkKey]
    simp only [Sem.run_bind, run_underlying hu, Result.andThen_ok]
    cases K with
    | int k => cases dd <;> first | cases hs | (obtain ⟨hv, _⟩ := hv; injection hv with hv; subst hv; rfl)
    | bool => have hv : [v] = [.bool x] := hv; injection hv with hv; subst hv; cases dd <;> first | rfl | cases hs
    | str => obtain ⟨hv, _⟩ := hv; injection hv with hv; subst hv; cases dd <;> first | rfl | cases hs
    | st R => simp only [dep] at hd; omega
    | _ => cases hk
  | succ d ih =>
    intro K t x v hT hk hv hd em
    have hf := hE.facts hT
    obtain ⟨dd, hu, hs⟩ := hf.nJ
    rw [Instr.checkKey]
    simp only [Sem.run_bind, run_underlying hu, Result.andThen_ok]
    cases K with
    | int k => cases dd <;> first | cases hs | (obtain ⟨hv, _⟩ := hv; injection hv with hv; subst hv; rfl)
    | bool => have hv : [v] = [.bool x] := hv; injection hv with hv; subst hv; cases dd <;> first | rfl | cases hs
    | str => obtain ⟨hv, _⟩ := hv; injection hv with hv; subst hv; cases dd <;> first | rfl | cases hs
    | st R =>
      obtain ⟨vs, rfl, hr⟩ := hv
      have hlen := bn _ _ _ _ _ hr
      obtain ⟨_, _, cm⟩ := qM hE hk
      simp only [dep] at hd
      rcases cm with ⟨fs, mW, hfc, _⟩ | ⟨m, e, mW, hec⟩
      · rw [hu] at mW
        injection mW with mW
        subst mW
        simp only
        rw [← Array.forIn_toList]
        have each := Ae hE fs.toList R 0 hs hfc x vs.toArray (by simp [hlen]) (by simp only [List.drop_zero]; rw [List.take_of_length_le (by simp [hlen])]; exact hr)
        generalize fs.toList = L at each
        induction L with
        | nil => simp
        | cons f L ihL =>
          obtain ⟨hn, T, y, u, hTy, hkT, hdT, p1, bN⟩ := each f (List.mem_cons_self ..)
          have p2 := ih T f.type y u hTy hkT bN (by omega) em
          simp only [List.forIn_cons, Sem.run_bind, hn, ne_eq, not_false_eq_true, if_true, Result.andThen_ok, p1, p2, Sem.run_pure]
          have hL := ihL fun g hg => each g (List.mem_cons_of_mem _ hg)
          simp only [Sem.run_bind, ne_eq, Sem.run_pure] at hL
          exact hL
      · rw [hu] at mW
        injection mW with mW
        subst mW
        simp only [cu] at hs
        split at hs
        · rename_i V hV
          simp only [Bool.and_eq_true] at hs
          obtain ⟨⟨⟨h1, h2⟩, h3⟩, h4⟩ := hs
          have h4 := Nat.le_of_ble_eq_true h4
          obtain ⟨m', rfl⟩ : ∃ m', m = m' + 1 := ⟨m - 1, by omega⟩
          have hR := Ty.ct h1
          subst hR
          have hfV := hE.facts hV
          have hkV : iS E e V := by
            unfold oX at hec
            rw [hV] at hec
            cases V <;> first | trivial | exact hec | cases hec
          have hdV : dep V ≤ d := by
            have : ∀ n, dep V ≤ dep (rowOf V (n + 1)) := by
              intro n
              cases n with
              | zero => exact Nat.le_refl _
              | succ n => simp only [rowOf, dep]; omega
            have := this m'
            omega
          have nY := l0 V (m' + 1)
          have each := Cv (w := w) (M := M) h2 m' 0 x vs.toArray (by simp [hlen, nY]) (by simp only [Nat.zero_mul, List.drop_zero]; rw [List.take_of_length_le (by simp [hlen, nY])]; exact hr)
          simp only [Std.Legacy.Range.forIn_eq_forIn_range', Std.Legacy.Range.size, Nat.sub_zero, Nat.add_one_sub_one, Nat.div_one]
          have HM : ∀ i, i ∈ List.range' 0 (m' + 1) → ∃ y : V.den, i < m' + 1 ∧ aA V y w M ((vs.toArray.toList.drop (i * V.cells)).take V.cells) := by
            intro i hi
            have xG : i < m' + 1 := by simpa using hi
            obtain ⟨y, hy⟩ := each i (Nat.zero_le _) (by omega)
            exact ⟨y, xG, hy⟩
          generalize List.range' 0 (m' + 1) = is at HM
          induction is with
          | nil => simp
          | cons i is ihL =>
            obtain ⟨y, hi, hy⟩ := HM i (List.mem_cons_self ..)
            have hle : i * V.cells + V.cells ≤ vs.toArray.size := by
              rw [List.size_toArray, hlen, nY]
              calc i * V.cells + V.cells = (i + 1) * V.cells := by rw [Nat.add_mul, Nat.one_mul]
                _ ≤ (m' + 1) * V.cells := Nat.mul_le_mul_right _ hi
            have p1 := gE hfV (w := w) (cs := vs.toArray) (off := i * V.cells) hle
            have y4 : cw V y w M (valOf V ((vs.toArray.toList.drop (i * V.cells)).take V.cells)) := by
              have := fy hfV.val hy
              have hv := hfV.val
              cases V <;> first | exact this | cases hv
            have p2 := ih V e y _ hV hkV y4 hdV em
            simp only [List.forIn_cons, Sem.run_bind, hfV.sizeOf w, Result.andThen_ok, p1, p2, Sem.run_pure]
            have hL := ihL fun j hj => HM j (List.mem_cons_of_mem _ hj)
            simp only [Sem.run_bind, Sem.run_pure] at hL
            exact hL
        · cases hs
    | _ => cases hk
/-! ### A map's entries -/
def lu(w:World)(M:Mem)(K V:Ty):List (K.den×V.den)→List MapEntry→Prop|[],[]=>True|y::es,e::l=>(∃ca cb,e.key=valOf K ca∧aA K y.1 w M ca∧e.val=valOf V cb∧aA V y.2 w M cb)∧lu w M K V es l|_,_=>False
theorem mZ {K V:Ty} : ∀(es:List (K.den×V.den))(l:List MapEntry),l.length=es.length→(∀(i:Nat)(y:K.den×V.den),es[i]?=some y→ ∃(e:MapEntry)(ca cb:List Value),l[i]?=some e∧e.key=valOf K ca∧aA K y.1 w M ca∧e.val=valOf V cb∧aA V y.2 w M cb)→lu w M K V es l|[],[],_,_=>trivial|[],_::_,h,_=>(by simp at h)|_::_,[],h,_=>(by simp at h)|y::es,e::l,hl,h=>by obtain⟨e',ca,cb,h1,h2⟩:=h 0 y rfl;simp only[List.getElem?_cons_zero,Option.some.injEq]at h1;subst h1;exact⟨⟨ca,cb,h2⟩,mZ es l (by simpa using hl) fun i z hz=>by simpa using h (i+1) z (by simpa using hz)⟩
theorem iU {T:Ty} {x:T.den} {vs:List Value} (hT:T.val=true)(h:aA T x w M vs):cw T x w M (valOf T vs):=by have:=fy hT h;cases T<;>first|exact this|cases hT
def lx {K V:Type} (eq:K→K→Bool):List (K×V)→K→Option Nat|[],_=>none|p::r,k=>bif eq k p.1 then some 0 else(match lx eq r k with|some i=>some (i+1)|none=>none)
theorem qN {K V:Type} (eq:K→K→Bool)(k:K): ∀(es:List (K×V)),ga eq es k=(lx eq es k).bind fun i=>(es[i]?).map (·.2)|[]=>rfl|p::r=>by simp only[ga,lx];cases eq k p.1 with|true=>rfl|false=>simp only[cond_false,qN eq k r];cases lx eq r k<;>rfl
theorem tD {K V:Type} (eq:K→K→Bool)(k:K)(v:V): ∀(es:List (K×V)),zk eq es k v=(match lx eq es k with|some i=>es.set i (k,v)|none=>es++ [(k,v)])|[]=>rfl|p::r=>by simp only[zk,lx];cases eq k p.1 with|true=>rfl|false=>simp only[cond_false,tD eq k v r];cases lx eq r k<;>rfl
theorem xU {K V:Type} (eq:K→K→Bool)(k:K): ∀(es:List (K×V))(i:Nat),lx eq es k=some i→ ∃p,es[i]?=some p∧eq k p.1=true|[],i,h=>(by cases h)|p::r,i,h=>by simp only[lx]at h;cases hb:eq k p.1 with|true=>rw[hb]at h;injection h with h;subst h;exact⟨p,rfl,hb⟩|false=>rw[hb]at h;simp only[cond_false]at h;split at h;(·rename_i j hj;injection h with h;subst h;obtain⟨q,h1,h2⟩:=xU eq k r j hj;exact⟨q,by simpa using h1,h2⟩);·cases h
theorem Fw {K:Ty} {x y:K.den} {u v:Value} (hp:eb K=true)(hv:K.val=true)(hx:cw K x w M u)(hy:cw K y w M v):x=y→u=v:=by
 intro e;subst e;cases K with|int k=>have hx:aA (.int k) x w M [u]:=hx;have hy:aA (.int k) x w M [v]:=hy;have:=(bX _ _ _ hp hx).trans (bX _ _ _ hp hy).symm;simpa using this|bool=>have hx:aA .bool x w M [u]:=hx;have hy:aA .bool x w M [v]:=hy;have:=(bX _ _ _ hp hx).trans (bX _ _ _ hp hy).symm;simpa using this|str=>have hx:aA .str x w M [u]:=hx;have hy:aA .str x w M [v]:=hy;have:=(bX _ _ _ hp hx).trans (bX _ _ _ hp hy).symm;simpa using this|st R=>obtain⟨vs,rfl,h1⟩:=hx;obtain⟨us,rfl,h2⟩:=hy;rw[bX R _ _ hp h1,bX R _ _ hp h2]|_=>first|cases hp|cases hv
def gr {K V:Ty} (es:List (K.den×V.den))(l:List MapEntry)(k:K.den)(i0:Nat)(res:Option (Nat×Value)):Prop:=match lx (jM K) es k with|none=>res=none|some i=> ∃e,l[i]?=some e∧res=some (i0+i,e.val)
theorem tE(hE:aE E) {K V:Ty} {kt:Nat} (hT:E.ty kt=some K)(hk:zl E kt K=true) {k:K.den} {kv:Value} (qv:cw K k w M kv): ∀(es:List (K.den×V.den))(l:List MapEntry)(i0:Nat),lu w M K V es l→ ∃res,(Instr.findAsking kt kv l i0).run E.P w= .ok res w∧gr es l k i0 res|[],[],i0,_=>⟨none,by simp[Instr.findAsking],rfl⟩|[],_::_,_,h=>h.elim|_::_,[],_,h=>h.elim|y::es,e::l,i0,h=>by obtain⟨⟨ca,cb,h1,h2,h3,h4⟩,h5⟩:=h;obtain⟨hp,Y4,hd,jg⟩:=kJ hk;(have hrk:cw K y.1 w M e.key:=by rw[h1];exact iU jg h2);have heq:(Op.equal kt kv e.key).run E.P w= .ok (jM K k y.1) w:=Hz hE 9999 K kt k y.1 kv e.key _ (hE.facts hT) Y4 qv hrk (HL K k y.1 hp) (by omega);cases hb:jM K k y.1 with|true=>rw[hb]at heq;exact⟨some (i0,e.val),by simp[Instr.findAsking,heq],by simp only[gr,lx,hb,cond_true];exact⟨e,rfl,rfl⟩⟩|false=>rw[hb]at heq;obtain⟨res,hr,hf⟩:=tE hE hT hk qv es l (i0+1) h5;refine⟨res,by simp[Instr.findAsking,heq,hr],?_⟩;simp only[gr,lx,hb,cond_false]at hf⊢;cases hm:lx (jM K) es k with|none=>rw[hm]at hf;exact hf|some i=>rw[hm]at hf;obtain⟨e',BV,HO⟩:=hf;exact⟨e',by simpa using BV,by rw[HO];simp only[Option.some.injEq,Prod.mk.injEq,and_true];omega⟩
theorem sq {K V:Ty} {d:TypeDesc} (hs:(match K with|.int l=>(match d with|.int k=>gk k l|_=>false)|.bool=>(match d with|.bool=>true|_=>false)|.str=>(match d with|.string=>true|_=>false)|_=>false)=true) {k:K.den} {kv:Value} (qv:cw K k w M kv): ∀(es:List (K.den×V.den))(l:List MapEntry)(i0:Nat),lu w M K V es l→ ∃res,Instr.findNow d kv l i0=some res∧gr es l k i0 res|[],[],i0,_=>⟨none,rfl,rfl⟩|[],_::_,_,h=>h.elim|_::_,[],_,h=>h.elim|y::es,e::l,i0,h=>by obtain⟨⟨ca,cb,h1,h2,h3,h4⟩,h5⟩:=h;(have pg:Instr.sameNow d kv e.key=some (jM K k y.1):=by cases K with|int kk=>have qv:aA (.int kk) k w M [kv]:=qv;have e1:=bX (.int kk) k _ rfl qv;have e2:=bX (.int kk) y.1 _ rfl h2;simp only[gR,List.cons.injEq,and_true]at e1 e2;subst e1;rw[h1,e2];(cases d<;>first|(cases hs;done)|skip);simp only[Instr.sameNow,valOf,List.headD_cons,if_true,jM];congr 1|bool=>have qv:aA .bool k w M [kv]:=qv;have e1:=bX .bool k _ rfl qv;have e2:=bX .bool y.1 _ rfl h2;simp only[gR,List.cons.injEq,and_true]at e1 e2;subst e1;rw[h1,e2];(cases d<;>first|rfl|(cases hs;done))|str=>have qv:aA .str k w M [kv]:=qv;have e1:=bX .str k _ rfl qv;have e2:=bX .str y.1 _ rfl h2;simp only[gR,List.cons.injEq,and_true]at e1 e2;subst e1;rw[h1,e2];(have hb: ∀a b:List UInt8,((⟨a.toArray⟩:ByteArray)==⟨b.toArray⟩)=decide (a=b):=by intro a b;rw[Bool.eq_iff_iff,bytes_beq,decide_eq_true_iff];constructor;(·intro h;injection h with h;simpa using congrArg Array.toList h);·intro h;rw[h]);(cases d<;>first|(cases hs;done)|skip);simp only[Instr.sameNow,valOf,List.headD_cons,hb,jM]|_=>cases hs);cases hb:jM K k y.1 with|true=>rw[hb]at pg;exact⟨some (i0,e.val),by simp[Instr.findNow,pg],by simp only[gr,lx,hb,cond_true];exact⟨e,rfl,rfl⟩⟩|false=>rw[hb]at pg;obtain⟨res,hr,hf⟩:=sq hs qv es l (i0+1) h5;refine⟨res,by simp[Instr.findNow,pg,hr],?_⟩;simp only[gr,lx,hb,cond_false]at hf⊢;cases hm:lx (jM K) es k with|none=>rw[hm]at hf;exact hf|some i=>rw[hm]at hf;obtain⟨e',BV,HO⟩:=hf;exact⟨e',by simpa using BV,by rw[HO];simp only[Option.some.injEq,Prod.mk.injEq,and_true];omega⟩
theorem tF(hE:aE E) {K V:Ty} {kt:Nat} (hT:E.ty kt=some K)(hk:zl E kt K=true) {k:K.den} {kv:Value} (qv:cw K k w M kv)(es:List (K.den×V.den))(l:List MapEntry)(h:lu w M K V es l): ∃res,(Instr.findKey kt kv l).run E.P w= .ok res w∧gr es l k 0 res:=by
 obtain⟨d,hu,hs⟩:=(hE.facts hT).nJ;(have now: ∀res,Instr.findNow d kv l 0=some res→(Instr.findKey kt kv l).run E.P w= .ok res w:=fun res hr=>by simp[Instr.findKey,run_underlying hu,hr])
 (have ask:Instr.findNow d kv l 0=none→ ∃res,(Instr.findKey kt kv l).run E.P w= .ok res w∧gr es l k 0 res:=fun hr=>by obtain⟨res,h1,h2⟩:=tE hE hT hk qv es l 0 h;exact⟨res,by simp[Instr.findKey,run_underlying hu,hr,h1],h2⟩)
 cases K with|int kk=>obtain⟨res,h1,h2⟩:=sq (d:=d) (by cases d<;>first|exact hs|cases hs) qv es l 0 h;exact⟨res,now res h1,h2⟩|bool=>obtain⟨res,h1,h2⟩:=sq (d:=d) (by cases d<;>first|exact hs|cases hs) qv es l 0 h;exact⟨res,now res h1,h2⟩|str=>obtain⟨res,h1,h2⟩:=sq (d:=d) (by cases d<;>first|exact hs|cases hs) qv es l 0 h;exact⟨res,now res h1,h2⟩|st R=>(match es,l,h with|[],[],_=>exact⟨none,now none rfl,rfl⟩|y::es,e::l,h=>refine ask ?_;simp only[cu]at hs;cases d<;>first|(cases hs;done)|rfl)|_=>cases hk
end
end Go.Proofs.YtmgmonbmdkkhbaaGreatDoor
namespace Go.Proofs.YtmgmonbmdkkhbaaGreatDoor
variable {c8:Prop} [hZ c8]
open Go.RowKit Go.MapKept
section
variable {E:Env} {n:Nat} {w0:World} {S0:Cx} {s:St} {a:Act} {w:World} {ν:Nat→Value} {S:Nat→Prop} {F:cG} {o:Oper} {K:St→Prop} {Q:Exit→Act→World→Prop}
theorem tG(hE:aE E) {t:Nat} {A B:Ty} (hT:E.ty t=some (.mp A B)): ∃k v,E.P.underlying t=some (.map k v)∧E.ty k=some A∧E.ty v=some B∧A.val=true∧B.val=true∧aJ A=0∧aJ B=0:=by
 have hf:=hE.facts hT;obtain⟨d,hu,hs⟩:=hf.nJ;have ho:=hf.own;simp only[aJ]at ho;cases d with|map k v=>simp only[cu,Bool.and_eq_true]at hs;obtain⟨⟨⟨h1,h2⟩,h3⟩,h4⟩:=hs;(have is: ∀(u:Nat)(U:Ty),lS E.ty u U=true→E.ty u=some U:=by intro u U h;unfold lS at h;split at h;(·rename_i X hX;rw[Ty.ct h]at hX;exact hX);·cases h);exact⟨k,v,hu,is _ _ h1,is _ _ h2,h3,h4,by omega,by omega⟩|_=>simp only[cu]at hs;cases hs
theorem D3(hE:aE E) {t kt:Nat} (hk:E.mapKey t=some kt) {k v:Nat} (hu:E.P.underlying t=some (.map k v)):kt=k:=by
 have:=hE.mapKey t kt hk;unfold DU at this;rw[hu]at this;exact Nat.eq_of_beq_eq_true this
theorem Cw(hE:aE E)(h:Full n w0 S0 s a w ν S)(ho:bK n o=true) {t:Nat} (aK:o.op= .makeMap t none)(ab:aR E (ai E F s o) (fun l=>K (s.fin o.dst l))):o.wp E.P a w (fun a' w'=> ∃s',K s'∧Rel n w0 S0 s' a' w') Q:=by
 simp only[ai,aK]at ab;split at ab;(·rename_i A B d hT hd;split at ab;(·rename_i hl;simp only[aR,St.fin,hd]at ab;obtain⟨k,v,hu,_,_,_,_,Ll,D4⟩:=tG hE hT;(have hr:(execOp a.eval o).run E.P w= .ok (.value (.map (some w.heap.size))) (w.alloc (.map #[] 0)):=by simp only[execOp,aK,Instr.makeMap,Option.map_none,Sem.run_bind,Result.andThen_ok,Sem.run_pure];rfl);refine cf hr ⟨_,ab,?_⟩;rw[hd];have hh:(w.alloc (.map #[] 0)).heap[w.heap.size]?=some (.map #[] 0):=_root_.Go.heap_alloc_new w _;refine(h.new (b:=.mp A B []) (p:=.lmap d) (v:=.map (some w.heap.size)) (val:=.map (some w.heap.size)) (bg ho d hd) hl (dN w _ none) (fun g hg=>h.beyond (by injection hg with hg;omega)) ?_ ?_).rel;(·refine⟨Ll,D4,by simp,w.heap.size,#[],0,by simp,h.W.size _ (Nat.le_refl _),fun hS=>absurd (h.W.lt _ hS) (by simp),hh,⟨rfl,fun i e hi=>by simp at hi⟩,rfl,fun i y hy=>by simp at hy⟩);·simp only[ag];exact⟨⟨_,aV _ _ _⟩,by simp,_,rfl⟩);·exact ab.elim)
 ·exact ab.elim
theorem Full.entries(h:Full n w0 S0 s a w ν S) {A B:Ty} {p:PV} {v:Value} {es:List (A.den×B.den)} (hx:lq F s.bl A B p=some es)(hp:ag h.c p v):(v= .map none∧es=[])∨ ∃(r:Nat)(aT:Array MapEntry)(clock:Nat),v= .map (some r)∧w.heap[r]?=some (.map aT clock)∧qy aT clock∧aT.size=es.length∧lu w ⟨S,aB w0 S0⟩ A B es aT.toList:=by
 cases p with|iv U y=>simp only[lq]at hx;obtain⟨e,hx⟩:=Ty.aW hx;subst e;simp only at hx;subst hx;simp only[ag]at hp;obtain⟨_,hp⟩:=hp;have hp:aA (.mp A B) y w ⟨S,aB w0 S0⟩ [v]:=hp;obtain⟨_,hc⟩:=hp;rcases hc with⟨hv,he⟩|⟨r,aT,clock,hv,hS,hh,hb,hs,hr⟩;(·injection hv with hv;exact .inl ⟨hv,he⟩);(·injection hv with hv;exact .inr ⟨r,aT,clock,hv,hh,hb,hs,mZ _ _ (by simpa using hs) (by simpa using hr)⟩)|lmap id=>simp only[lq]at hx;split at hx;(·rename_i A' B' ys hl;obtain⟨hl,_⟩:=bW hl;obtain⟨e,hx⟩:=Ty.aW hx;injection e with e1 e2;subst e1;subst e2;simp only at hx;subst hx;simp only[ag]at hp;obtain⟨cP,oU,h0,r,aT,clock,h1,h2,h3,h4,h5,h6,h7⟩:=h.W.bM _ _ hl;refine .inr ⟨r,aT,clock,?_,h4,h5,h6,mZ _ _ (by simpa using h6) (by simpa using h7)⟩;rw[hp.2.1];exact h1);(·cases hx)|_=>simp only[lq]at hx;cases hx
theorem Af: ∀(T:Ty),eb T=true→T.flat=true:=by intro T;induction T<;>simp_all[eb,Ty.flat]
theorem Full.key(h:Full n w0 S0 s a w ν S) {A:Ty} {kt:Nat} (hk:zl E kt A=true) {q:PV} {v:Value} {k:A.den} (hx:exp F s.bl A q=some k)(hq:ag h.c q v)(M:Mem):cw A k w M v:=by
 obtain⟨hp,_,_,_⟩:=kJ hk;have vK:=Af A hp;have hR:Reads F s h.c ⟨fun b=>b<w.heap.size,aB w0 S0⟩:=⟨rfl,h.W.bM,fun b hb=>h.W.lt b hb,fun id _⟨b,hb⟩g hg=>(h.fX hb hg).2.2⟩
 exact xS vK (dX hR (.inl (wy A vK)) hx hq)
theorem HP: ∀(T:Ty),T.DL=true→ ∃vs,cI T=some vs:=by
 intro T;induction T with|pair a b fK fi=>intro h;simp only[Ty.DL,Bool.and_eq_true]at h;obtain⟨x,hx⟩:=fK h.1;obtain⟨y,hy⟩:=fi h.2;exact⟨x++y,by simp only[cI,hx,hy]⟩|st t ih=>intro h;exact ih h|_=>intro h;first|exact⟨_,rfl⟩|cases h
theorem qO {T:Ty} {z:Value} {M:Mem} (hz:lR (some z) T=true)(hT:T.DL=true)(hv:T.val=true):cw T (cD T) w M z:=by
 obtain⟨vs,zO⟩:=HP T hT;have hr:=l5 (w:=w) (M:=M) T vs hT zO;unfold lR at hz;rw[zO]at hz;simp only at hz;split at hz;(·split at hz;(·rename_i cs;have:=jm hz;exact⟨vs,by rw[←this],hr⟩);·cases hz)
 ·split at hz;(·rename_i fW _ u;have:=kD hz;subst this;cases T<;>first|exact hr|(cases hv;done)|(exact absurd rfl (fW _)));·cases hz
theorem xV {c:Ctx} {T:Ty} {z:Value} {cs:List PV} (hz:lR (some z) T=true)(hv:T.val=true)(hc:zeroCells T=some cs)(BW:z.cells.size=T.cells):ag c (join T cs) z:=by
 obtain⟨vs,GN,aY,h1⟩:=lZ (c:=c) T cs hc;have hz':=iN hz GN;(have jg:z=valOf T vs:=by unfold lR at hz;rw[GN]at hz;simp only at hz;split at hz;(·split at hz;(·rename_i zK;have:=jm hz;simp only[valOf];rw[←this]);·cases hz);·split at hz;(·rename_i fW _ u;have:=kD hz;subst this;cases T<;>first|rfl|(cases hv;done)|(exact absurd rfl (fW _)));·cases hz)
 rw[jg];exact gD (by rw[←hz',Array.length_toList,BW]) hv h1 aY
theorem fN {c:Ctx} {ps:List PV} {vs:List Value} (h:aj c ps vs):ag c (.aP ps) (.tuple vs.toArray):=by simp only[ag];exact⟨vs,rfl,h⟩
theorem iu {c:Ctx} {p q:PV} {u v:Value} (h1:ag c p u)(h2:ag c q v):aj c [p,q] [u,v]:=by simp only[aj];exact⟨_,_,rfl,h1,_,_,rfl,h2,rfl⟩
def vP(z:Value):Option (Nat×Value)→Value|some (_,v)=>v|none=>z
theorem Cy {P:Program} {t kt ve:TypeId} {xv kv z:Value} {ok:Bool} {l:List MapEntry} {res:Option (Nat×Value)} (hu:P.underlying t=some (.map kt ve))(Fx:(xv= .map none∧l=[])∨ ∃(r:Nat)(aT:Array MapEntry)(clock:Nat),xv= .map (some r)∧w.heap[r]?=some (.map aT clock)∧aT.toList=l)(LZ: ∀em,(Instr.checkKey em 10000 kt kv).run P w= .ok () w)(jS:(Instr.findKey kt kv l).run P w= .ok res w)(hz:(zeroValue ve).run P w= .ok z w):(Instr.lookup t xv kv ok).run P w= .ok (if ok then .tuple #[vP z res,.bool res.isSome]else vP z res) w:=by
 unfold Instr.lookup;rcases Fx with⟨rfl,rfl⟩|⟨r,aT,clock,rfl,hh,rfl⟩;(·cases res with|none=>cases ok<;>simp[run_underlying hu,LZ,jS,hz,vP]|some p=>cases ok<;>simp[run_underlying hu,LZ,jS,vP])
 ·cases res with|none=>cases ok<;>simp[run_underlying hu,MapKept.run_getObj_map hh,LZ,jS,hz,vP]|some p=>cases ok<;>simp[run_underlying hu,MapKept.run_getObj_map hh,LZ,jS,vP]
theorem Fy(hE:aE E)(h:Full n w0 S0 s a w ν S)(ho:bK n o=true) {t:Nat} {x y:Operand} {ok:Bool} (aK:o.op= .lookup t x y ok)(ab:aR E (ai E F s o) (fun l=>K (s.fin o.dst l))):o.wp E.P a w (fun a' w'=> ∃s',K s'∧Rel n w0 S0 s' a' w') Q:=by
 simp only[ai,aK,kA]at ab;have hx:=h.ev (aC ho (x:=x) (by simp[aK,Op.operands]));have hy:=h.ev (aC ho (x:=y) (by simp[aK,Op.operands]));split at ab;(·rename_i A B kt hT hkt;split at ab;(·rename_i es k Tg hk Ag;obtain⟨k',ve,hu,Th,hTB,GU,y7,Ll,D4⟩:=tG hE hT;have S4:=D3 hE hkt hu;subst S4;obtain⟨hp,Y4,LU,_⟩:=kJ Ag;have Ti:=h.entries Tg hx;have qv:=h.key Ag hk hy ⟨S,aB w0 S0⟩;obtain⟨i,hi,cM,RC,zP,z,hz,BW⟩:=(hE.facts hTB).info;rw[hz]at zP;(have Y5:(zeroValue ve).run E.P w= .ok z w:=by simp only[zeroValue,typeInfo,Sem.run_bind,run_program,Result.andThen_ok,hi,hz,Sem.run_pure]);have LZ: ∀em,(Instr.checkKey em 10000 kt (a.eval y)).run E.P w= .ok () w:=fun em=>wz hE 9999 A kt k _ Th Y4 qv (by omega) em;(obtain⟨res,l,Fx,jS,kK,hl⟩: ∃(res:Option (Nat×Value))(l:List MapEntry),((a.eval x= .map none∧l=[])∨ ∃(r:Nat)(aT:Array MapEntry)(clock:Nat),a.eval x= .map (some r)∧w.heap[r]?=some (.map aT clock)∧aT.toList=l)∧(Instr.findKey kt (a.eval y) l).run E.P w= .ok res w∧gr es l k 0 res∧lu w ⟨S,aB w0 S0⟩ A B es l:=by rcases Ti with⟨hv,rfl⟩|⟨r,aT,clock,hv,hh,hb,hs,hr⟩;(·obtain⟨res,h1,h2⟩:=tF hE (V:=B) Th Ag qv [] [] trivial;exact⟨res,[],.inl ⟨hv,rfl⟩,h1,h2,trivial⟩);·obtain⟨res,h1,h2⟩:=tF hE (V:=B) Th Ag qv es aT.toList hr;exact⟨res,aT.toList,.inr ⟨r,aT,clock,hv,hh,rfl⟩,h1,h2,hr⟩);(have Y6:(execOp a.eval o).run E.P w= .ok (.value (if ok then .tuple #[vP z res,.bool res.isSome]else vP z res)) w:=by simp only[execOp,aK,Sem.run_bind,Cy (ok:=ok) hu Fx LZ jS Y5,Result.andThen_ok,Sem.run_pure]);cases hm:lx (jM A) es k with|none=>simp only[gr,hm]at kK;subst kK;(have L0:ga (jM A) es k=none:=by rw[qN,hm];rfl);have aX:=Y6;simp only[vP,Option.isSome_none]at aX;(have Y7:ag h.c (s5 B) z:=by unfold s5;split;(·rename_i pe;exact bo D4 (qO zP pe y7) y7);·split;(·rename_i cs xI;exact xV zP y7 xI BW);·simp only[ag]);split at ab;(·rename_i pe;rw[L0]at ab;refine h.val ho aX ?_ ab;simp only[Option.getD_none,Bool.false_eq_true,if_false];exact bo D4 (qO zP pe y7) y7);(·exact h.val ho aX (by simpa using Y7) (ab.2 L0));(·refine h.val ho aX ?_ (ab.2 L0);have h2:ag h.c (.iv .bool false) (.bool false):=bz;simp only[if_true];exact fN (iu Y7 h2));(·obtain⟨v,hv,_⟩:=ab;rw[L0]at hv;cases hv);(·rename_i pe _;rw[L0]at ab;refine h.val ho aX ?_ ab;have h2:ag h.c (.iv .bool false) (.bool false):=bz;simp only[if_true];exact fN (iu (bo D4 (qO zP pe y7) y7) h2));(·obtain⟨v,hv,_⟩:=ab;rw[L0]at hv;cases hv)|some j=>simp only[gr,hm]at kK;obtain⟨e,he,rfl⟩:=kK;obtain⟨yy,GV,_⟩:=xU _ _ _ _ hm;(have Ht:ga (jM A) es k=some yy.2:=by rw[qN,hm];simp[GV]);(have bx:cw B yy.2 w ⟨S,aB w0 S0⟩ e.val:=by(have at_: ∀(es:List (A.den×B.den))(l:List MapEntry)(j:Nat)(yy:A.den×B.den)(e:MapEntry),lu w ⟨S,aB w0 S0⟩ A B es l→es[j]?=some yy→l[j]?=some e→cw B yy.2 w ⟨S,aB w0 S0⟩ e.val:=by intro es;induction es with|nil=>intro l j yy e _ h1;simp at h1|cons p es ih=>intro l j yy e hl h1 h2;cases l with|nil=>exact hl.elim|cons q l=>cases j with|zero=>simp only[List.getElem?_cons_zero,Option.some.injEq]at h1 h2;subst h1;subst h2;obtain⟨⟨ca,cb,_,_,h3,h4⟩,_⟩:=hl;rw[h3];exact iU y7 h4|succ j=>exact ih l j yy e hl.2 (by simpa using h1) (by simpa using h2));exact at_ es l j yy e hl GV he);have aX:=Y6;simp only[vP,Option.isSome_some]at aX;have GM:ag h.c (.iv B yy.2) e.val:=bo D4 bx y7;split at ab;(·rename_i pe;rw[Ht]at ab;exact h.val ho aX (by simpa using GM) ab);(·exact h.val ho aX (by simpa using GM) (ab.1 _ Ht));(·refine h.val ho aX ?_ (ab.1 _ Ht);have h2:ag h.c (.iv .bool true) (.bool true):=bz;simp only[if_true];exact fN (iu GM h2));(·obtain⟨v,hv,iw⟩:=ab;rw[Ht]at hv;injection hv with hv;subst hv;exact h.val ho aX (by simpa using GM) iw);(·rw[Ht]at ab;refine h.val ho aX ?_ ab;have h2:ag h.c (.iv .bool true) (.bool true):=bz;simp only[if_true];exact fN (iu GM h2));·obtain⟨v,hv,iw⟩:=ab;rw[Ht]at hv;injection hv with hv;subst hv;refine h.val ho aX ?_ iw;have h2:ag h.c (.iv .bool true) (.bool true):=bz;simp only[if_true];exact fN (iu GM h2));·exact ab.elim)
 ·exact ab.elim
theorem wA {T:Ty} {x:T.den} {M:Mem} {v:Value} (hT:T.val=true)(h:cw T x w M v):v=valOf T v.cells.toList∧aA T x w M v.cells.toList:=by
 refine⟨?_,iJ hT h⟩;cases T with|st t=>obtain⟨vs,rfl,_⟩:=h;rfl|unit=>cases hT|pair a b=>cases hT|aP a b=>cases hT|_=>have hr:=iJ hT h;have hl:=bn _ _ _ _ _ hr;simp only[Ty.cells]at hl;have h1:=oR _ _ _ _ _ h v (List.mem_singleton.2 rfl);cases v<;>first|rfl|(simp[Value.oneCell']at h1;done)
theorem l6(w:World)(r:Nat)(o:Obj):dz w { w with heap:=w.heap.setIfInBounds r o } (some r):=⟨rfl,rfl,rfl,by simp,fun k _ hk=>by have hkr:r≠k:=fun e=>hk (by rw[e]);simp[hkr],fun _=>Nat.le_refl _⟩
theorem wB {w w':World} {M M':Mem} {A B:Ty} (hA:aJ A=0)(hB:aJ B=0)(hw: ∀b,M.S b→w'.heap[b]?=w.heap[b]?)(hS: ∀b,M.S b→M'.S b): ∀(es:List (A.den×B.den))(l:List MapEntry),lu w M A B es l→lu w' M' A B es l|[],[],_=>trivial|[],_::_,h=>h.elim|_::_,[],h=>h.elim|y::es,e::l,h=>by obtain⟨⟨ca,cb,h1,h2,h3,h4⟩,h5⟩:=h;exact⟨⟨ca,cb,h1,au hw hS _ _ _ hA h2,h3,au hw hS _ _ _ hB h4⟩,wB hA hB hw hS es l h5⟩
theorem ph {w:World} {M:Mem} {A B:Ty} : ∀(es:List (A.den×B.den))(l:List MapEntry),lu w M A B es l→l.length=es.length|[],[],_=>rfl|[],_::_,h=>h.elim|_::_,[],h=>h.elim|y::es,e::l,h=>by simp[ph es l h.2]
theorem pj {w:World} {M:Mem} {A B:Ty} : ∀(es:List (A.den×B.den))(l:List MapEntry),lu w M A B es l→ ∀(i:Nat)(y:A.den×B.den),es[i]?=some y→ ∃(e:MapEntry)(ca cb:List Value),l[i]?=some e∧e.key=valOf A ca∧aA A y.1 w M ca∧e.val=valOf B cb∧aA B y.2 w M cb|[],[],_,i,y,hy=>(by simp at hy)|[],_::_,h,_,_,_=>h.elim|_::_,[],h,_,_,_=>h.elim|y::es,e::l,h,i,z,hz=>by cases i with|zero=>simp only[List.getElem?_cons_zero,Option.some.injEq]at hz;subst hz;obtain⟨⟨ca,cb,h1⟩,_⟩:=h;exact⟨e,ca,cb,rfl,h1⟩|succ i=>simpa using pj es l h.2 i z (by simpa using hz)
theorem Ah {w:World} {M:Mem} {A B:Ty} {y:A.den×B.den} {f:MapEntry} (hf: ∃ca cb,f.key=valOf A ca∧aA A y.1 w M ca∧f.val=valOf B cb∧aA B y.2 w M cb): ∀(es:List (A.den×B.den))(l:List MapEntry)(i:Nat),lu w M A B es l→lu w M A B (es.set i y) (l.set i f)|[],[],_,_=>trivial|[],_::_,_,h=>h.elim|_::_,[],_,h=>h.elim|z::es,e::l,i,h=>by cases i with|zero=>exact⟨hf,h.2⟩|succ i=>exact⟨h.1,Ah hf es l i h.2⟩
theorem wC {w:World} {M:Mem} {A B:Ty} {y:A.den×B.den} {f:MapEntry} (hf: ∃ca cb,f.key=valOf A ca∧aA A y.1 w M ca∧f.val=valOf B cb∧aA B y.2 w M cb): ∀(es:List (A.den×B.den))(l:List MapEntry),lu w M A B es l→lu w M A B (es++ [y]) (l++ [f])|[],[],_=>⟨hf,trivial⟩|[],_::_,h=>h.elim|_::_,[],h=>h.elim|z::es,e::l,h=>⟨h.1,wC hf es l h.2⟩
theorem pr(hE:aE E)(h:Full n w0 S0 s a w ν S)(ho:bK n o=true) {t:Nat} {x y z:Operand} (aK:o.op= .mapUpdate t x y z∨o.op= .insert t x y z)(ab:aR E (ai E F s o) (fun l=>K (s.fin o.dst l))):o.wp E.P a w (fun a' w'=> ∃s',K s'∧Rel n w0 S0 s' a' w') Q:=by
 (have ab:aR E (match o.dst with|none=>iG E F s.bl t (s.ev x) (s.ev y) (s.ev z)|some _=>.fail 79) (fun l=>K (s.fin o.dst l)):=by cases hd:o.dst with|none=>rcases aK with aK|aK<;>(simp only[ai,aK,hd]at ab;exact ab)|some d=>rcases aK with aK|aK<;>(simp only[ai,aK,hd]at ab;exact ab))
 (have mem: ∀u,u=x∨u=y∨u=z→kE u=true:=by intro u hu;refine aC ho ?_;rcases aK with aK|aK<;>rcases hu with rfl|rfl|rfl<;>simp[aK,Op.operands]);have hx:=h.ev (mem x (.inl rfl))
 have hy:=h.ev (mem y (.inr (.inl rfl)));have hz:=h.ev (mem z (.inr (.inr rfl)));(have Y8: ∀w',(Instr.mapUpdate t (a.eval x) (a.eval y) (a.eval z)).run E.P w= .ok () w'→(execOp a.eval o).run E.P w= .ok .skip w':=by intro w' hr;rcases aK with aK|aK<;>simp only[execOp,aK,Sem.run_bind,hr,Result.andThen_ok,Sem.run_pure])
 split at ab;(·rename_i hd;simp only[iG]at ab;split at ab;(·rename_i A B kt hT hkt;split at ab;(·rename_i id bx;split at ab;(·rename_i A' B' zs hl;obtain⟨hl,_⟩:=bW hl;split at ab;(·rename_i es k v iR hk Ag hr1 D1 hr3 hr4 hv;obtain⟨e',jH⟩:=Ty.aW iR;injection e' with e1 e2;subst e1;subst e2;simp only at jH;subst jH;obtain⟨hlen,hK⟩:=ab;obtain⟨k',ve,hu,Th,hTB,GU,y7,Ll,D4⟩:=tG hE hT;have S4:=D3 hE hkt hu;subst S4;obtain⟨hp,Y4,LU,_⟩:=kJ Ag;have qv:=h.key Ag hk hy ⟨S,aB w0 S0⟩;have Y9:cw _ v w ⟨S,aB w0 S0⟩ (a.eval z):=h.Hp D4 hr3 hr4 hv hz;rw[bx]at hx;simp only[ag]at hx;obtain⟨_,YR,_⟩:=hx;obtain⟨cP,oU,h0,r,aT,clock,h1,h2,h3,h4,h5,h6,h7⟩:=h.W.bM _ _ hl;simp only[Full.c]at YR;simp only at h1 h2 h3 h4;have hl7:=mZ (w:=w) (M:=⟨S,aB w0 S0⟩) zs aT.toList (by simpa using h6) (by simpa using h7);obtain⟨res,jS,kK⟩:=tF hE (V:=B') Th Ag qv zs aT.toList hl7;have LZ: ∀em,(Instr.checkKey em 10000 kt (a.eval y)).run E.P w= .ok () w:=fun em=>wz hE 9999 _ kt k _ Th Y4 qv (by omega) em;(have gP:aG (ν id)=some r:=by rw[h1];rfl);(have hf: ∀bb:Nat,∃ca cb,(⟨a.eval y,a.eval z,bb⟩:MapEntry).key=valOf A' ca∧aA A' k w ⟨S,aB w0 S0⟩ ca∧(⟨a.eval y,a.eval z,bb⟩:MapEntry).val=valOf B' cb∧aA B' v w ⟨S,aB w0 S0⟩ cb:=fun bb=>by obtain⟨g1,g2⟩:=wA GU qv;obtain⟨g3,g4⟩:=wA y7 Y9;exact⟨_,_,g1,g2,g3,g4⟩);(have fin: ∀(pz:Array MapEntry)(l7:Nat),(Instr.mapUpdate t (a.eval x) (a.eval y) (a.eval z)).run E.P w= .ok () { w with heap:=w.heap.setIfInBounds r (.map pz l7) } →qy pz l7→lu w ⟨S,aB w0 S0⟩ A' B' (zk (jM A') zs k v) pz.toList→o.wp E.P a w (fun a' w'=> ∃s',K s'∧Rel n w0 S0 s' a' w') Q:=by intro pz l7 aX mQ lV;refine iM (Y8 _ aX) ⟨_,hK,?_⟩;rw[hd];have r6:=l6 w r (.map pz l7);have hS: ∀b,S b→({ w with heap:=w.heap.setIfInBounds r (.map pz l7) } :World).heap[b]?=w.heap[b]?:=fun b hb=>r6.block b (h.W.lt b hb) (fun e=>by injection e with e;subst e;exact h3 hb);have GL:({ w with heap:=w.heap.setIfInBounds r (.map pz l7) } :World).heap[r]?=some (.map pz l7):=(MapKept.heap_set h4).1;have Za:=wB (M:=⟨S,aB w0 S0⟩) (M':=⟨S,aB w0 S0⟩) cP oU hS (fun _ h=>h) _ _ lV;refine(h.nS (b':=.mp A' B' (zk (jM A') zs k v)) hl (by rw[gP];exact r6) ?_).rel;exact⟨cP,oU,hlen,r,pz,l7,h1,h2,h3,GL,mQ,by simpa using ph _ _ Za,fun i yy GV=>by simpa using pj _ _ Za i yy GV⟩);cases hm:lx (jM A') zs k with|none=>simp only[gr,hm]at kK;subst kK;refine fin (aT.push ⟨a.eval y,a.eval z,clock⟩) (clock+1) ?_ ?_ ?_;(·rw[YR,h1];simp[Instr.mapUpdate,run_underlying hu,MapKept.run_getObj_map h4,LZ,jS,MapKept.run_setObj_map _ h4]);(·obtain⟨hc,hb⟩:=h5;subst hc;refine⟨by simp,fun i e hi=>?_⟩;rw[Array.getElem?_push]at hi;split at hi;(·rename_i Yc;injection hi with hi;subst hi;exact Yc.symm);·exact hb i e hi);(·rw[tD,hm];simp only[Array.toList_push];exact wC (hf clock) zs aT.toList hl7)|some j=>simp only[gr,hm]at kK;obtain⟨e,he,rfl⟩:=kK;obtain⟨yy,GV,heq⟩:=xU _ _ _ _ hm;have heq:=(LY _ _ _ hp).1 heq;(have BV:aT[j]?=some e:=by simpa using he);obtain⟨e2,ca,cb,g1,g2,g3,g4,g5⟩:=pj zs aT.toList hl7 j yy GV;rw[he]at g1;injection g1 with g1;subst g1;(have am6:e.key=a.eval y:=by refine Fw (M:=⟨S,aB w0 S0⟩) (w:=w) hp GU (x:=yy.1) (y:=k) ?_ qv heq.symm;rw[g2];exact iU GU g3);refine fin (aT.modify j fun e=> { e with key:=a.eval y,val:=a.eval z }) clock ?_ ?_ ?_;(·rw[YR,h1];simp[Instr.mapUpdate,run_underlying hu,MapKept.run_getObj_map h4,LZ,jS,BV,am6,xT hp GU qv,MapKept.run_setObj_map _ h4]);(·obtain⟨hc,hb⟩:=h5;refine⟨by simpa using hc,fun i e2 hi=>?_⟩;rw[Array.getElem?_modify]at hi;split at hi;(·rename_i dG;subst dG;rw[BV]at hi;simp only[Option.map_some,Option.some.injEq]at hi;subst hi;exact hb _ e BV);·exact hb i e2 hi);·rw[tD,hm];(have Tj:(aT.modify j fun e=> { e with key:=a.eval y,val:=a.eval z }).toList=aT.toList.set j ⟨a.eval y,a.eval z,e.born⟩:=by apply List.ext_getElem?;intro i;rw[Array.getElem?_toList,Array.getElem?_modify,List.getElem?_set];by_cases dG:j=i;(·subst dG;have LG:j<aT.toList.length:=(List.getElem?_eq_some_iff.1 he).1;rw[BV,if_pos rfl,if_pos rfl,if_pos LG];rfl);·simp[dG]);rw[Tj];exact Ah (hf e.born) zs aT.toList j hl7);·exact ab.elim);·exact ab.elim);·exact ab.elim);·exact ab.elim)
 ·exact ab.elim
end
end Go.Proofs.YtmgmonbmdkkhbaaGreatDoor
namespace Go.Proofs.YtmgmonbmdkkhbaaGreatDoor
variable {c8:Prop} [hZ c8]
open Go.RowKit
section
variable {E:Env} {n:Nat} {w0:World} {S0:Cx} {s:St} {a:Act} {w:World} {ν:Nat→Value} {S:Nat→Prop} {F:cG} {o:Oper} {K:St→Prop} {Q:Exit→Act→World→Prop}
theorem Cz(s:ByteArray)(i:Nat):(Utf8.decode s i).1≤1114111:=by
 (have hv: ∀c:Nat,Utf8.valid (c:Int)=true→c≤1114111:=by intro c h;unfold Utf8.valid at h;simp only[Bool.or_eq_true,Bool.and_eq_true,decide_eq_true_eq]at h;omega)
 unfold Utf8.decode;simp only;split;(·simp only;omega);·split;(·split;(·simp only;omega);·simp only[Utf8.runeError];omega);·split;(·split;(·rename_i h;simp only[Bool.and_eq_true]at h;exact hv _ h.2);·simp only[Utf8.runeError];omega);·split;(·split;(·rename_i h;simp only[Bool.and_eq_true]at h;exact hv _ h.2);·simp only[Utf8.runeError];omega);·simp only[Utf8.runeError];omega
theorem Full.RQ(h:Full n w0 S0 s a w ν S) {d:Nat} (hd:d<n)(hl:look d s.bl=none) {ob:Obj} {b:aL} (hb: ∀c:Ctx,c.ν d= .pointer (some ⟨w.heap.size,0,none⟩)→c.M.O w.heap.size→ ¬c.M.S w.heap.size→c.w.heap[w.heap.size]?=some ob→Ctx.Le h.c c→iH c d b):Rel n w0 S0 ⟨(d,.ref d 0)::s.sl,(d,b)::s.bl⟩ (a.put (some d) (.pointer (some ⟨w.heap.size,0,none⟩))) (w.alloc ob):=by
 have hh:(w.alloc ob).heap[w.heap.size]?=some ob:=_root_.Go.heap_alloc_new w _;refine(h.new (b:=b) (p:=.ref d 0) (v:=.pointer (some ⟨w.heap.size,0,none⟩)) (val:=.pointer (some ⟨w.heap.size,0,none⟩)) hd hl (dN w _ none) (fun g hg=>h.beyond (by injection hg with hg;simp only at hg;omega)) ?_ ?_).rel
 (·refine hb _ (by simp) (h.W.size _ (Nat.le_refl _)) (fun hS=>absurd (h.W.lt _ hS) (by simp)) hh ⟨fun g hg=>?_,fun _ h=>h,fun i hi=>?_,fun i hi=>?_⟩;(·exact(dN w ob none).block g (h.W.lt g hg) (by simp));(·obtain⟨c,hc⟩:=hi;(have cz:i≠d:=by rintro rfl;rw[hl]at hc;cases hc);exact⟨c,by rw[aM _ _ cz];exact hc⟩);·obtain⟨c,hc⟩:=hi;(have cz:i≠d:=by rintro rfl;rw[hl]at hc;cases hc);simp[Full.c,cz])
 ·simp only[ag];exact⟨⟨_,aV _ _ _⟩,w.heap.size,by simp,rfl⟩
theorem HR(hE:aE E)(h:Full n w0 S0 s a w ν S)(ho:bK n o=true) {t:Nat} {x:Operand} (aK:o.op= .range t x)(ab:aR E (ai E F s o) (fun l=>K (s.fin o.dst l))):o.wp E.P a w (fun a' w'=> ∃s',K s'∧Rel n w0 S0 s' a' w') Q:=by
 simp only[ai,aK]at ab;have hx:=h.ev (aC ho (x:=x) (by simp[aK,Op.operands]));split at ab;(·rename_i d hd;split at ab;(·rename_i hl;have hdn:=bg ho d hd;simp only[B6]at ab;split at ab;(·rename_i hT;obtain⟨dd,hu,hs⟩:=(hE.facts hT).nJ;(have mY:dd= .string:=by cases dd<;>first|rfl|cases hs);subst mY;split at ab;(·rename_i y bx;rw[bx]at hx;obtain⟨hv,hlen⟩:=dk hx;simp only[aR,St.fin,hd]at ab;(have hr:(execOp a.eval o).run E.P w= .ok (.value (.pointer (some ⟨w.heap.size,0,none⟩))) (w.alloc (.stringIter ⟨y.toArray⟩ 0)):=by simp only[execOp,aK,Instr.range,hv,Sem.run_bind,run_underlying hu,Result.andThen_ok,Sem.run_pure];rfl);refine cf hr ⟨_,ab,?_⟩;rw[hd];exact h.RQ hdn hl fun c h1 h2 h3 h4 _=>⟨_,h1,h2,h3,h4,hlen⟩);·exact ab.elim);(·rename_i A B hT;obtain⟨k,v,hu,_,_,_,_,Ll,D4⟩:=tG hE hT;split at ab;(·rename_i es Tg;have Ti:=h.entries Tg hx;(have go: ∀(src:PV),ag h.c src (a.eval x)→K ⟨(d,.ref d 0)::s.sl,(d,.it [src] es.length [])::s.bl⟩→o.wp E.P a w (fun a' w'=> ∃s',K s'∧Rel n w0 S0 s' a' w') Q:=by intro src jI hK;(obtain⟨m,hm,hr⟩: ∃m:Option Nat,a.eval x= .map m∧(execOp a.eval o).run E.P w= .ok (.value (.pointer (some ⟨w.heap.size,0,none⟩))) (w.alloc (.mapIter m es.length #[] es.length)):=by rcases Ti with⟨hv,rfl⟩|⟨r,aT,clock,hv,hh,hb,hs,_⟩;(·refine⟨none,hv,?_⟩;simp only[execOp,aK,Instr.range,hv,Sem.run_bind,run_underlying hu,Result.andThen_ok,Sem.run_pure];rfl);·refine⟨some r,hv,?_⟩;have hc:clock=es.length:=hb.1.trans hs;subst hc;simp only[execOp,aK,Instr.range,hv,Sem.run_bind,run_underlying hu,MapKept.run_getObj_map hh,Result.andThen_ok,Sem.run_pure];rfl);refine cf hr ⟨_,hK,?_⟩;rw[hd];refine h.RQ hdn hl fun c h1 h2 h3 h4 hle=>⟨_,m,h1,h2,h3,h4,?_⟩;simp only[aj];exact⟨_,[],rfl,dW hle (by rw[←hm];exact jI),rfl⟩);split at ab;(·rename_i K' V' y bx;simp only[aR,St.fin,hd]at ab;exact go _ (by rw[←bx];exact hx) ab);(·rename_i id bx;simp only[aR,St.fin,hd]at ab;exact go _ (by rw[←bx];exact hx) ab);·exact ab.elim);·exact ab.elim);·exact ab.elim);·exact ab.elim)
 ·exact ab.elim
theorem Full.behind(h:Full n w0 S0 s a w ν S) {src:List PV} {m:Option Nat} {A B:Ty} {es:List (A.den×B.den)} (hx:jN E F s.bl src=some ⟨A,B,es⟩)(hp:aj h.c src [.map m]):aJ A=0∧aJ B=0∧A.val=true∧B.val=true∧((m=none∧es=[])∨ ∃(r:Nat)(aT:Array MapEntry)(clock:Nat),m=some r∧w.heap[r]?=some (.map aT clock)∧qy aT clock∧lu w ⟨S,aB w0 S0⟩ A B es aT.toList):=by
 unfold jN at hx;split at hx;(·rename_i K' V' ys;split at hx;(case h_2=>cases hx);rename_i hvK hvV;injection hx with hx;injection hx with e1 e2;subst e1;have e2:=eq_of_heq e2;injection e2 with e2 e3;subst e2;have e3:=eq_of_heq e3;subst e3;simp only[aj,ag]at hp;obtain⟨v,r,hv,⟨ho,hr⟩,_⟩:=hp;injection hv with hv;subst hv;simp only[aJ]at ho;refine⟨by omega,by omega,hvK,hvV,?_⟩;have hr:aA (.mp K' V') ys w ⟨S,aB w0 S0⟩ [.map m]:=hr;rcases hr.2 with⟨hv,he⟩|⟨r,aT,clock,hv,hS,hh,hb,hs,hr⟩;(·injection hv with hv;injection hv with hv;exact .inl ⟨hv,he⟩);·injection hv with hv;injection hv with hv;exact .inr ⟨r,aT,clock,hv,hh,hb,mZ _ _ (by simpa using hs) (by simpa using hr)⟩)
 (·rename_i id;split at hx;(·rename_i K' V' ys hl;obtain⟨hl,_⟩:=bW hl;split at hx;(case h_2=>cases hx);rename_i hvK hvV;injection hx with hx;injection hx with e1 e2;subst e1;have e2:=eq_of_heq e2;injection e2 with e2 e3;subst e2;have e3:=eq_of_heq e3;subst e3;simp only[aj,ag]at hp;obtain⟨v,r,hv,⟨_,cj,_⟩,_⟩:=hp;injection hv with hv;subst hv;obtain⟨cP,oU,h0,r,aT,clock,h1,h2,h3,h4,h5,h6,h7⟩:=h.W.bM _ _ hl;refine⟨cP,oU,hvK,hvV,.inr ⟨r,aT,clock,?_,h4,h5,mZ _ _ (by simpa using h6) (by simpa using h7)⟩⟩;simp only[Full.c]at cj;simp only at h1;rw[h1]at cj;injection cj);·cases hx)
 ·cases hx
theorem L1(hE:aE E)(h:Full n w0 S0 s a w ν S)(ho:bK n o=true) {x:Operand} {isS:Bool} (aK:o.op= .next x isS)(ab:aR E (ai E F s o) (fun l=>K (s.fin o.dst l))):o.wp E.P a w (fun a' w'=> ∃s',K s'∧Rel n w0 S0 s' a' w') Q:=by
 simp only[ai,aK,He]at ab;have hx:=h.ev (aC ho (x:=x) (by simp[aK,Op.operands]));split at ab;(·rename_i id bx;rw[bx]at hx;simp only[ag]at hx;obtain⟨_,g,hg,hv⟩:=hx;simp only[Full.c]at hg;(have nS: ∀ {b b':aL} {w':World} {p:PV} {v:Value},look id s.bl=some b→dz w w' (some g)→iH ⟨ν,s.D,w',⟨S,aB w0 S0⟩⟩ id b'→ag ⟨ν,s.D,w',⟨S,aB w0 S0⟩⟩ p v→K (s.fin o.dst (.nS id b' p))→(execOp a.eval o).run E.P w= .ok (.value v) w'→o.wp E.P a w (fun a' w'=> ∃s',K s'∧Rel n w0 S0 s' a' w') Q:=by intro b b' w' p v hl hw hb hp hK aX;refine cf aX ⟨_,hK,?_⟩;have hu:=h.nS (b':=b') hl (by rw[hg];exact hw) hb;(have hD:(⟨s.sl,(id,b')::s.bl⟩:St).D=s.D:=by funext i;refine propext ⟨fun⟨c,hc⟩=>?_,fun⟨c,hc⟩=>?_⟩;(·by_cases hi:i=id;(·subst hi;exact⟨b,hl⟩);·rw[aM _ _ hi]at hc;exact⟨c,hc⟩);·by_cases hi:i=id;(·subst hi;exact⟨b',aV _ _ _⟩);·exact⟨c,by rw[aM _ _ hi];exact hc⟩);have RE:=hu.put (p:=p) (v:=v) (bg ho) (by simp only[Full.c,hD];exact hp);(have nZ:s.fin o.dst (.nS id b' p)=(⟨s.sl,(id,b')::s.bl⟩:St).put o.dst p:=by simp only[St.fin];cases o.dst<;>rfl);rw[nZ];exact RE.rel);(have over:(Instr.next (a.eval x) isS o.type).run E.P w= .ok (.tuple #[.bool false]) w→K (s.fin o.dst (.val (.aP [.iv .bool false])))→o.wp E.P a w (fun a' w'=> ∃s',K s'∧Rel n w0 S0 s' a' w') Q:=by intro hr hK;refine h.val ho (v:=.tuple #[.bool false]) ?_ ?_ hK;(·simp only[execOp,aK,Sem.run_bind,hr,Result.andThen_ok,Sem.run_pure]);·exact fN (vs:=[.bool false]) (by simp only[aj];exact⟨_,[],rfl,bz,rfl⟩));(have exec: ∀v w',(Instr.next (a.eval x) isS o.type).run E.P w= .ok v w'→(execOp a.eval o).run E.P w= .ok (.value v) w':=fun v w' hr=>by simp only[execOp,aK,Sem.run_bind,hr,Result.andThen_ok,Sem.run_pure]);split at ab;(·rename_i y pos hl;obtain⟨hl,_⟩:=bW hl;obtain⟨g',h1,h2,h3,h4,h5⟩:=h.W.bM _ _ hl;simp only at h1 h2 h3 h4;rw[hg]at h1;(obtain rfl:g=g':=by injection h1 with e1;injection e1 with e1;injection e1);split at ab;(·obtain⟨Cu,y6⟩:=ab;(have cM:(⟨y.toArray⟩:ByteArray).size=y.length:=by simp[ByteArray.size]);(have hgo: ∀o',(setObj g o').run E.P w= .ok () { w with heap:=w.heap.setIfInBounds g o' } :=fun o'=>by simp[setObj,Sem.run,h4]);by_cases hp:pos<y.length;(·have hK:=Cu hp;have hd:=Cz ⟨y.toArray⟩ pos;refine nS hl (l6 w g (.stringIter ⟨y.toArray⟩ (pos+(Utf8.decode ⟨y.toArray⟩ pos).2))) ?_ ?_ hK (exec (.tuple #[.bool true,.int .i64 (pos:Int),.int .i32 ((Utf8.decode ⟨y.toArray⟩ pos).1:Int)]) _ ?_);(·exact⟨g,hg,h2,h3,(MapKept.heap_set h4).1,h5⟩);(·refine fN (vs:=[.bool true,.int .i64 (pos:Int),.int .i32 ((Utf8.decode ⟨y.toArray⟩ pos).1:Int)]) ?_;simp only[aj];exact⟨_,_,rfl,bz,_,_,rfl,bZ (by show(-9223372036854775808:Int)≤_∧_≤(9223372036854775807:Int);omega),_,_,rfl,bZ (by show(-2147483648:Int)≤_∧_≤(2147483647:Int);omega),rfl⟩);·simp only[hv,Instr.next,Sem.run_bind];rw[show(getObj g).run E.P w= .ok (.stringIter ⟨y.toArray⟩ pos) w from by simp[getObj,Sem.run,h4]];simp only[Result.andThen_ok,cM,hp,if_true,Sem.run_bind,hgo,Sem.run_pure];rfl);·refine over ?_ (y6 (by omega));simp only[hv,Instr.next,Sem.run_bind];rw[show(getObj g).run E.P w= .ok (.stringIter ⟨y.toArray⟩ pos) w from by simp[getObj,Sem.run,h4]];simp only[Result.andThen_ok,cM,hp,if_false,Sem.run_pure]);·exact ab.elim);(·rename_i src since seen hl;obtain⟨hl,_⟩:=bW hl;obtain⟨g',m,h1,h2,h3,h4,h6⟩:=h.W.bM _ _ hl;simp only at h1 h2 h3 h4;rw[hg]at h1;(obtain rfl:g=g':=by injection h1 with e1;injection e1 with e1;injection e1);split at ab;(·rename_i A B es Tg;obtain⟨HS,Cu,y6⟩:=ab;obtain⟨Ll,D4,GU,y7,cm⟩:=h.behind Tg h6;rcases cm with⟨rfl,rfl⟩|⟨r,aT,clock,rfl,hh,hb,hr⟩;(·refine over ?_ (y6 (fun i hi=>by simp at hi));simp only[hv,Instr.next,Sem.run_bind];rw[show(getObj g).run E.P w= .ok (.mapIter none since seen.toArray since) w from by simp[getObj,Sem.run,h4]];simp only[Result.andThen_ok,Sem.run_pure]);·have hlen:=ph _ _ hr;(have cM:aT.size=es.length:=by simpa using hlen);obtain⟨Tk,tH⟩:=hb;(have hold: ∀y,y∈aT.toList→y.born<since:=fun y hy=>by obtain⟨i,hi⟩:=List.getElem?_of_mem hy;(have xG:aT[i]?=some y:=by simpa using hi);rw[tH i y xG,←HS,←cM];exact(Array.getElem?_eq_some_iff.1 xG).1);(have RR: ∀y,y∈(leftOf aT seen.toArray).toList↔ ∃i,aT[i]?=some y∧i∉seen:=by intro y;unfold leftOf;simp only[Array.toList_filter,List.mem_filter,Array.mem_toList_iff];constructor;(·rintro⟨h1,h2⟩;obtain⟨i,hi⟩:=Array.getElem?_of_mem h1;refine⟨i,hi,?_⟩;rw[←tH i y hi];simpa using h2);·rintro⟨i,hi,hn⟩;refine⟨Array.mem_of_getElem? hi,?_⟩;rw[tH i y hi];simpa using hn);rcases run_next_at (P:=E.P) w o.type g r since since seen.toArray aT clock h4 hh hold (Nat.le_refl _)with⟨h0,aX⟩|⟨e,he,w1,hw1,aX⟩;(·refine over (by rw[hv];exact aX) (y6 fun i hi=>?_);by_cases iQ:i∈seen;(·exact iQ);·exfalso;(have Yc:i<aT.size:=by omega);have:=(RR aT[i]).2 ⟨i,by simp,iQ⟩;have Fj:(leftOf aT seen.toArray).toList=[]:=List.eq_nil_of_length_eq_zero (by simpa using h0);rw[Fj]at this;cases this);·obtain⟨i,hi,iQ⟩:=(RR e).1 he;(have Yc:i<es.length:=by rw[←cM];exact(Array.getElem?_eq_some_iff.1 hi).1);obtain⟨yy,GV⟩: ∃yy,es[i]?=some yy:=⟨_,List.getElem?_eq_getElem Yc⟩;have hK:=Cu i ⟨Yc,iQ⟩ yy GV;obtain⟨e2,ca,cb,g1,g2,g3,g4,g5⟩:=pj es aT.toList hr i yy GV;(have xG:aT.toList[i]?=some e:=by simpa using hi);rw[xG]at g1;injection g1 with g1;subst g1;have L2:=tH i e hi;(have r6:dz w (ChangeMaps.setBlock w1 g (.mapIter (some r) since (seen.toArray.push e.born) clock)) (some g):=by rcases hw1 with rfl|rfl;(·exact l6 _ g _);·refine⟨rfl,rfl,rfl,by simp[ChangeMaps.setBlock],fun k _ hk=>?_,fun _=>?_⟩;(·have hkr:g≠k:=fun e=>hk (by rw[e]);show(w.drew.heap.setIfInBounds g _)[k]?=w.heap[k]?;rw[Array.getElem?_setIfInBounds_ne hkr];rfl);·exact Nat.le_succ _);have hSg: ∀b,S b→(ChangeMaps.setBlock w1 g (.mapIter (some r) since (seen.toArray.push e.born) clock)).heap[b]?=w.heap[b]?:=fun b hb=>r6.block b (h.W.lt b hb) (fun e=>by injection e with e;subst e;exact h3 hb);have Tl:Ctx.Le ⟨ν,s.D,w,⟨S,aB w0 S0⟩⟩ ⟨ν,s.D,ChangeMaps.setBlock w1 g (.mapIter (some r) since (seen.toArray.push e.born) clock),⟨S,aB w0 S0⟩⟩:=⟨hSg,fun _ h=>h,fun _ h=>h,fun _ _=>rfl⟩;(have hg1:w1.heap[g]?=some (.mapIter (some r) since seen.toArray since):=by rcases hw1 with rfl|rfl<;>exact h4);(have xI:clock=since:=by omega);refine nS hl r6 ?_ ?_ hK (exec _ _ (by rw[hv];exact aX));(·refine⟨g,some r,hg,h2,h3,?_,bB Tl h6⟩;have:=(MapKept.heap_set (o':=Obj.mapIter (some r) since (seen.toArray.push e.born) clock) hg1).1;rw[L2,xI]at this⊢;simpa[ChangeMaps.setBlock]using this);·have hk:ag h.c (.iv A yy.1) e.key:=bo Ll (by rw[g2];exact iU GU g3) GU;have Y9:ag h.c (.iv B yy.2) e.val:=bo D4 (by rw[g4];exact iU y7 g5) y7;refine fN (vs:=[.bool true,e.key,e.val]) ?_;simp only[aj];exact⟨_,_,rfl,bz,_,_,rfl,dW Tl hk,_,_,rfl,dW Tl Y9,rfl⟩);·exact ab.elim);·exact ab.elim)
 ·exact ab.elim
theorem HT(hE:aE E)(h:Full n w0 S0 s a w ν S)(ho:bK n o=true) {x:Operand} (aK:o.op= .entry x)(ab:aR E (ai E F s o) (fun l=>K (s.fin o.dst l))):o.wp E.P a w (fun a' w'=> ∃s',K s'∧Rel n w0 S0 s' a' w') Q:=by
 simp only[ai,aK,B7]at ab;have hx:=h.ev (aC ho (x:=x) (by simp[aK,Op.operands]));split at ab;(·rename_i id bx;rw[bx]at hx;simp only[ag]at hx;obtain⟨_,g,hg,hv⟩:=hx;simp only[Full.c]at hg;split at ab;(·rename_i src since seen hl;obtain⟨hl,_⟩:=bW hl;obtain⟨g',m,h1,h2,h3,h4,h6⟩:=h.W.bM _ _ hl;simp only at h1 h2 h3 h4;rw[hg]at h1;(obtain rfl:g=g':=by injection h1 with e1;injection e1 with e1;injection e1);split at ab;(·rename_i A B es Tg;obtain⟨HS,yy,⟨i,fb,GV⟩,hK⟩:=ab;obtain⟨Ll,D4,GU,y7,cm⟩:=h.behind Tg h6;rcases cm with⟨_,rfl⟩|⟨r,aT,clock,rfl,hh,hb,hr⟩;(·simp at GV);·obtain⟨ss,hss⟩: ∃ss,seen=ss++ [i]:=List.getLast?_eq_some_iff.1 fb;have hlen:=ph _ _ hr;(have cM:aT.size=es.length:=by simpa using hlen);obtain⟨Tk,tH⟩:=hb;obtain⟨e,ca,cb,g1,g2,g3,g4,g5⟩:=pj es aT.toList hr i yy GV;(have hi:aT[i]?=some e:=by simpa using g1);have L2:=tH i e hi;(have xI:since=clock:=by omega);(have jL:(aT.toList.map (·.born)).Nodup:=by(have:aT.toList.map (·.born)=List.range aT.size:=by apply List.ext_getElem;(·simp);·intro j h1 h2;simp only[List.getElem_map,List.getElem_range,Array.getElem_toList];exact tH j _ (Array.getElem?_eq_getElem (by simpa using h1)));rw[this];exact List.nodup_range);(have h4':w.heap[g]?=some (.mapIter (some r) since (ss.toArray.push e.born) clock):=by rw[h4,hss,L2,←xI];simp);have aX:=run_entry_at (P:=E.P) w g r since ss.toArray aT clock e h4' hh (Array.mem_toList_iff.2 (Array.mem_of_getElem? hi)) jL;refine h.val ho (v:=.tuple #[e.key,e.val]) ?_ ?_ hK;(·simp only[execOp,aK,hv,Sem.run_bind,aX,Result.andThen_ok,Sem.run_pure]);·have hk:ag h.c (.iv A yy.1) e.key:=bo Ll (by rw[g2];exact iU GU g3) GU;have Y9:ag h.c (.iv B yy.2) e.val:=bo D4 (by rw[g4];exact iU y7 g5) y7;exact fN (iu hk Y9));·exact ab.elim);·exact ab.elim)
 ·exact ab.elim
end
end Go.Proofs.YtmgmonbmdkkhbaaGreatDoor
namespace Go.Proofs.YtmgmonbmdkkhbaaGreatDoor
variable {c8:Prop} [hZ c8]
open Go.RowKit
structure Ctx.Lm(ks:List Nat)(ρ:Nat→Nat)(c c':Ctx):Prop where
 heap: ∀b,c.M.S b→c'.w.heap[b]?=c.w.heap[b]?
 S: ∀b,c.M.S b→c'.M.S b
 D: ∀i,al i ks=true→c.D i→c'.D (ρ i)
 ν: ∀i,al i ks=true→c.D i→c'.ν (ρ i)=c.ν i
mutual theorem iV {ks:List Nat} {ρ:Nat→Nat} {c c':Ctx} (hc:c.Lm ks ρ c'): ∀ {p:PV} {v:Value},PV.K8 ks p=true→ag c p v→ag c' (p.ew ρ) v|.iv T x,v,_,h=>(by simp only[PV.ew,ag]at h⊢;exact⟨h.1,eK hc.heap hc.S h.1 h.2⟩)|.ref id off,v,hi,h=>(by simp only[PV.ew,ag]at h⊢;obtain⟨hd,g,h1,h2⟩:=h;exact⟨hc.D _ hi hd,g,by rw[hc.ν _ hi hd];exact h1,h2⟩)|.di T x off,v,_,h=>(by simp only[PV.ew,ag]at h⊢;obtain⟨ho,g,o,cs,h1,h2,h3,h4,h5⟩:=h;exact⟨ho,g,o,cs,h1,hc.S _ h2,h3,h4.mono (hc.heap _ h2),au hc.heap hc.S _ _ _ ho h5⟩)|.aI id,v,hi,h=>(by simp only[PV.ew,ag]at h⊢;exact⟨hc.D _ hi h.1,by rw[hc.ν _ hi h.1];exact h.2.1,h.2.2⟩)|.lmap id,v,hi,h=>(by simp only[PV.ew,ag]at h⊢;exact⟨hc.D _ hi h.1,by rw[hc.ν _ hi h.1];exact h.2.1,h.2.2⟩)|.lz id sz off len,v,hi,h=>(by simp only[PV.ew,ag]at h⊢;obtain⟨hd,a,n,cap,b,h1,h2⟩:=h;exact⟨hc.D _ hi hd,a,n,cap,b,by rw[hc.ν _ hi hd];exact h1,h2⟩)|.eX id sz i off,v,hi,h=>(by simp only[PV.ew,ag]at h⊢;obtain⟨hd,g,o,n,cap,h1,h2⟩:=h;exact⟨hc.D _ hi hd,g,o,n,cap,by rw[hc.ν _ hi hd];exact h1,h2⟩)|.agg cs,v,hi,h=>(by simp only[PV.ew,ag]at h⊢;obtain⟨vs,h1,h0,h2⟩:=h;exact⟨vs,h1,h0,cO hc hi h2⟩)|.aP cs,v,hi,h=>(by simp only[PV.ew,ag]at h⊢;obtain⟨vs,h1,h2⟩:=h;exact⟨vs,h1,cO hc hi h2⟩)|.bE,v,_,h=>(by simp only[PV.ew,ag]at h⊢;exact h)|.bT,v,_,h=>(by simp only[PV.ew,ag]at h⊢;exact h)|.gl i base T n j,v,hi,h=>(by simp only[PV.ew,ag]at h⊢;obtain⟨hd,h0,hn,g,h1,h2⟩:=h;exact⟨hc.D _ hi hd,h0,hn,g,by rw[hc.ν _ hi hd];exact h1,h2⟩)|.rW f cs,v,hi,h=>(by simp only[PV.ew,ag]at h⊢;obtain⟨vs,h1,h2⟩:=h;exact⟨vs,h1,cO hc hi h2⟩)|.qz f cs,v,hi,h=>(by simp only[PV.ew,ag]at h⊢;obtain⟨vs,h1,h2⟩:=h;exact⟨vs,h1,cO hc hi h2⟩)|.vx id,v,hi,h=>(by simp only[PV.ew,ag]at h⊢;obtain⟨hd,g,h1,h2⟩:=h;exact⟨hc.D _ hi hd,g,by rw[hc.ν _ hi hd];exact h1,h2⟩)|.clip T xs,v,_,h=>(by simp only[PV.ew,ag]at h⊢;exact⟨h.1,h.2.1,au hc.heap hc.S (.sl T) _ _ h.1 h.2.2⟩)|.fn f cs,v,hi,h=>(by simp only[PV.ew,ag]at h⊢;obtain⟨vs,h1,h2⟩:=h;exact⟨vs,h1,cO hc hi h2⟩)|.any,v,_,h=>by simp only[PV.ew,ag]theorem cO {ks:List Nat} {ρ:Nat→Nat} {c c':Ctx} (hc:c.Lm ks ρ c'): ∀ {ps:List PV} {vs:List Value},PV.ia ks ps=true→aj c ps vs→aj c' (PV.ek ρ ps) vs|[],vs,_,h=>(by simp only[PV.ek,aj]at h⊢;exact h)|p::ps,vs,hi,h=>by simp only[PV.ia,Bool.and_eq_true]at hi;simp only[PV.ek,aj]at h⊢;obtain⟨v,r,h1,h2,h3⟩:=h;exact⟨v,r,h1,iV hc hi.1 h2,cO hc hi.2 h3⟩end
def tI(ks:List Nat):aL→Bool|.box cs _=>PV.ia ks cs|.it cs _ _=>PV.ia ks cs|.gh _ cs=>PV.ia ks cs|_=>true
theorem eh {c:Ctx} {i:Nat} {b:aL} (h:iH c i b) {g:Nat} (hg:aG (c.ν i)=some g):c.M.O g∧ ¬c.M.S g∧g<c.w.heap.size:=by
 cases b with|box cs te=>obtain⟨_,g',vs,e,h1,h2,h3,h4,_⟩:=h;rw[h1]at hg;injection hg with hg;simp only at hg;subst hg;exact⟨h2,h3,(Array.getElem?_eq_some_iff.1 h4).1⟩|arr T xs te=>obtain⟨_,ho,v,hv,_,h2⟩:=h;injection hv with hv;rw[hv]at hg;rcases h2 with⟨rfl,_⟩|⟨g',o,cap,cur,e,rfl,h3,h4,h5,h6,h7,_⟩;(·cases hg);(·injection hg with hg;simp only at hg;subst hg;exact⟨h6,h5,(Array.getElem?_eq_some_iff.1 h7).1⟩)|mp K V es=>obtain⟨_,_,_,r,aT,clock,h1,h2,h3,h4,_⟩:=h;rw[h1]at hg;injection hg with hg;subst hg;exact⟨h2,h3,(Array.getElem?_eq_some_iff.1 h4).1⟩|it src since seen=>obtain⟨g',m,h1,h2,h3,h4,_⟩:=h;rw[h1]at hg;injection hg with hg;simp only at hg;subst hg;exact⟨h2,h3,(Array.getElem?_eq_some_iff.1 h4).1⟩|sT x pos=>obtain⟨g',h1,h2,h3,h4,_⟩:=h;rw[h1]at hg;injection hg with hg;simp only at hg;subst hg;exact⟨h2,h3,(Array.getElem?_eq_some_iff.1 h4).1⟩|gh o cs=>obtain⟨g',vs,h1,h2,h3,h4,_⟩:=h;rw[h1]at hg;injection hg with hg;simp only at hg;subst hg;exact⟨h2,h3,(Array.getElem?_eq_some_iff.1 h4).1⟩
theorem l8 {ks:List Nat} {ρ:Nat→Nat} {c c':Ctx} (hc:c.Lm ks ρ c') {i:Nat} {b:aL} (hi:tI ks b=true)(cj:c'.ν (ρ i)=c.ν i)(hg: ∀g,aG (c.ν i)=some g→c'.w.heap[g]?=c.w.heap[g]?∧c'.M.O g∧ ¬c'.M.S g)(h:iH c i b):iH c' (ρ i) (b.map (PV.ek ρ)):=by
 cases b with|box cs te=>obtain⟨gn,g,vs,e,h1,h2,h3,h4,h0,h5⟩:=h;obtain⟨e1,e2,e3⟩:=hg g (by rw[h1];rfl);exact⟨gn.oQ cj fun g tJ=>(hg g tJ).1,g,vs,e,by rw[cj];exact h1,e2,e3,by rw[e1];exact h4,h0,cO hc hi h5⟩|arr T xs te=>obtain⟨gn,ho,v,hv,h1,h2⟩:=h;injection hv with hv;refine⟨gn.oQ cj fun g tJ=>(hg g tJ).1,ho,v,by rw[cj,hv],h1,?_⟩;rcases h2 with h2|⟨g,o,cap,cur,e,rfl,h3,h4,h5,h6,h7,h8,h9⟩;(·exact .inl h2);(·obtain⟨e1,e2,e3⟩:=hg g (by rw[hv];rfl);refine .inr ⟨g,o,cap,cur,e,rfl,h3,h4,e3,e2,by rw[e1];exact h7,h8,fun i y hy=>?_⟩;obtain⟨cs,hl,Ff,hr⟩:=h9 i y hy;exact⟨cs,hl,Ff.mono e1,au hc.heap hc.S _ _ _ ho hr⟩)|mp K V es=>obtain⟨cP,oU,h0,r,aT,clock,h1,h2,h3,h4,h5,h6,h7⟩:=h;obtain⟨e1,e2,e3⟩:=hg r (by rw[h1];rfl);refine⟨cP,oU,h0,r,aT,clock,by rw[cj];exact h1,e2,e3,by rw[e1];exact h4,h5,h6,fun i y hy=>?_⟩;obtain⟨e,ca,cb,a1,a2,a3,a4,a5⟩:=h7 i y hy;exact⟨e,ca,cb,a1,a2,au hc.heap hc.S _ _ _ cP a3,a4,au hc.heap hc.S _ _ _ oU a5⟩|it src since seen=>obtain⟨g,m,h1,h2,h3,h4,h6⟩:=h;obtain⟨e1,e2,e3⟩:=hg g (by rw[h1];rfl);exact⟨g,m,by rw[cj];exact h1,e2,e3,by rw[e1];exact h4,cO hc hi h6⟩|sT x pos=>obtain⟨g,h1,h2,h3,h4,h5⟩:=h;obtain⟨e1,e2,e3⟩:=hg g (by rw[h1];rfl);exact⟨g,by rw[cj];exact h1,e2,e3,by rw[e1];exact h4,h5⟩|gh o cs=>obtain⟨g,vs,h1,h2,h3,h4,h6⟩:=h;obtain⟨e1,e2,e3⟩:=hg g (by rw[h1];rfl);exact⟨g,vs,by rw[cj];exact h1,e2,e3,by rw[e1];exact h4,cO hc hi h6⟩
/-! ### Names -/
theorem dB {i:Nat} : ∀ {l:List Nat},al i l=true↔i∈l|[]=>(by simp[al])|k::r=>by simp only[al,List.mem_cons];cases hb:Nat.beq i k with|true=>simp[Nat.eq_of_beq_eq_true hb]|false=>(have cz:i≠k:=by rintro rfl;simp at hb);simp[cz,dB (l:=r)]
theorem Ai {i:Nat} : ∀ {l:List Nat} {j:Nat},j≤idxOf i l j|[],j=>Nat.le_refl _|k::r,j=>by simp only[idxOf];cases Nat.beq i k with|true=>exact Nat.le_refl _|false=>exact Nat.le_trans (Nat.le_succ j) (Ai (l:=r) (j:=j+1))
theorem D5 {i:Nat} : ∀ {l:List Nat} {j:Nat},al i l=true→eI l (idxOf i l j-j)=i∧idxOf i l j-j<l.length|[],j,h=>(by cases h)|k::r,j,h=>by simp only[idxOf];simp only[al]at h;cases hb:Nat.beq i k with|true=>simp only[cond_true,Nat.sub_self,eI,List.length_cons];exact⟨(Nat.eq_of_beq_eq_true hb).symm,by omega⟩|false=>simp only[hb,cond_false]at h⊢;obtain⟨h1,h2⟩:=D5 (l:=r) (j:=j+1) h;have hle:=Ai (i:=i) (l:=r) (j:=j+1);rw[show idxOf i r (j+1)-j=(idxOf i r (j+1)-(j+1))+1 from by omega];simp only[eI,List.length_cons];exact⟨h1,by omega⟩
theorem pA: ∀ {l:List Nat} {j:Nat},j<l.length→al (eI l j) l=true|[],j,h=>(by simp at h)|x::r,0,_=>(by simp[eI,al])|x::r,j+1,h=>by simp only[eI,al];rw[pA (l:=r) (by simpa using h)];cases Nat.beq (eI r j) x<;>rfl
theorem D6: ∀ {l:List Nat} {j k:Nat},kz l=true→j<l.length→idxOf (eI l j) l k=k+j|[],j,k,_,h=>(by simp at h)|x::r,0,k,_,_=>(by simp[eI,idxOf])|x::r,j+1,k,hn,h=>by simp only[kz,Bool.and_eq_true,Bool.not_eq_true']at hn;(have hj:j<r.length:=by simpa using h);simp only[eI,idxOf];(have hb:Nat.beq (eI r j) x=false:=by cases hb:Nat.beq (eI r j) x with|false=>rfl|true=>have:=Nat.eq_of_beq_eq_true hb;rw[←this,pA hj]at hn;cases hn.1);rw[hb,cond_false,D6 hn.2 hj];omega
theorem su {i:Nat} {ids:List Nat} (h:al i ids=true):P0≤fwd ids i∧eI ids (fwd ids i-P0)=i∧fwd ids i-P0<ids.length:=by
 obtain⟨h1,h2⟩:=D5 (j:=0) h;unfold fwd;rw[Nat.add_sub_cancel_left];exact⟨by omega,by simpa using h1,by simpa using h2⟩
theorem pB {ids:List Nat} {j:Nat} (hn:kz ids=true)(hj:j<ids.length):fwd ids (eI ids j)=P0+j:=by unfold fwd;rw[D6 hn hj];omega
theorem jt {ids:List Nat} {bl:List (Nat×aL)} {k:Nat} : ∀ {l:List Nat} {j:Nat},(∀i,i∈l→i∈ids)→look k (cq ids bl l j)=if j≤k∧k-j<l.length then(look (eI l (k-j)) bl).map (aL.map (PV.ek (fwd ids)))else none|[],j,_=>(by simp[cq,look])|i::r,j,hl=>by have ih:=jt (k:=k) (bl:=bl) (l:=r) (j:=j+1) (fun x hx=>hl x (List.mem_cons_of_mem _ hx));by_cases hk:k=j;(·subst hk;simp only[cq,Nat.sub_self,eI,List.length_cons,Nat.le_refl,true_and,Nat.zero_lt_succ,if_true];cases hb:look i bl with|none=>simp only[Option.map_none];rw[ih,if_neg (by omega)]|some b=>simp only[aV,Option.map_some]);·(have e:look k (cq ids bl (i::r) j)=look k (cq ids bl r (j+1)):=by simp only[cq];cases look i bl with|none=>rfl|some b=>exact aM _ _ hk);rw[e,ih];by_cases YK:j≤k;(·rw[show k-j=(k-(j+1))+1 from by omega];simp only[eI,List.length_cons];by_cases h2:k-(j+1)<r.length;(·rw[if_pos ⟨by omega,h2⟩,if_pos ⟨YK,by omega⟩]);·rw[if_neg (by omega),if_neg (by omega)]);·rw[if_neg (by omega),if_neg (by omega)]
theorem fc {ρ:Nat→Nat} {k:Nat} {b:aL} : ∀ {bl:List (Nat×aL)},(∀i c,look i bl=some c→ρ i=ρ k→i=k)→look k bl=some b→look (ρ k) (fw ρ bl)=some (b.map (PV.ek ρ))|[],_,h=>(by cases h)|p::r,vQ,h=>by simp only[fw,look]at h⊢;cases hb:Nat.beq k p.1 with|true=>simp only[hb,cond_true,Option.some.injEq]at h;subst h;have:=Nat.eq_of_beq_eq_true hb;subst this;simp|false=>simp only[hb,cond_false]at h;(have cz:k≠p.1:=by intro e;rw[e]at hb;simp at hb);(have hp:look p.1 (p::r)=some p.2:=by simp[look]);(have:Nat.beq (ρ k) (ρ p.1)=false:=by cases hc:Nat.beq (ρ k) (ρ p.1)with|false=>rfl|true=>exact absurd (vQ p.1 p.2 hp (Nat.eq_of_beq_eq_true hc).symm).symm cz);rw[this,cond_false];refine fc (fun i c hc he=>?_) h;by_cases hip:i=p.1;(·rw[hip]at he⊢;exact vQ p.1 p.2 hp he);·exact vQ i c (by rw[show(p::r)=((p.1,p.2)::r)from rfl,aM _ _ hip];exact hc) he
theorem iW {ρ:Nat→Nat} {i:Nat} {b:aL} : ∀ {bl:List (Nat×aL)},(∀j k c e,look j bl=some c→look k bl=some e→ρ j=ρ k→j=k)→look i (fw ρ bl)=some b→ ∃k c,ρ k=i∧look k bl=some c∧b=c.map (PV.ek ρ)|[],_,h=>(by cases h)|p::r,vQ,h=>by simp only[fw,look]at h;(have hp:look p.1 (p::r)=some p.2:=by simp[look]);cases hb:Nat.beq i (ρ p.1)with|true=>simp only[hb,cond_true,Option.some.injEq]at h;exact⟨p.1,p.2,(Nat.eq_of_beq_eq_true hb).symm,hp,h.symm⟩|false=>simp only[hb,cond_false]at h;(have cz:i≠ρ p.1:=by intro e;rw[e]at hb;simp at hb);(have up: ∀j c,look j r=some c→j=p.1∨look j (p::r)=some c:=by intro j c hc;by_cases hj:j=p.1;(·exact .inl hj);·exact .inr (by rw[show(p::r)=((p.1,p.2)::r)from rfl,aM _ _ hj];exact hc));obtain⟨k,c,h1,h2,h3⟩:=iW (bl:=r) (fun j k c e hj hk he=>by rcases up j c hj with h'|h';(·rcases up k e hk with Tm|Tm;(·rw[h',Tm]);·exact vQ j k p.2 e (by rw[h'];exact hp) Tm he);·rcases up k e hk with Tm|Tm;(·exact vQ j k c p.2 h' (by rw[Tm];exact hp) he);·exact vQ j k c e h' Tm he) h;refine⟨k,c,h1,?_,h3⟩;rcases up k c h2 with h'|h';(·exact absurd (by rw[←h1,h']) cz);·exact h'
theorem ju {k:Nat} : ∀ {a b:List (Nat×aL)},look k (a++b)=(match look k a with|some x=>some x|none=>look k b)|[],b=>(by simp[look])|p::r,b=>by simp only[List.cons_append,look];cases Nat.beq k p.1 with|true=>rfl|false=>exact ju (a:=r)
theorem cT {id:Nat} : ∀ {bl:List (Nat×aL)},al id (keys bl)=true→ ∃b,look id bl=some b|[],h=>(by cases h)|p::r,h=>by simp only[keys,List.map_cons,al]at h;simp only[look];cases hb:Nat.beq id p.1 with|true=>exact⟨p.2,rfl⟩|false=>simp only[hb,cond_false]at h⊢;exact cT h
theorem tK {bl':List (Nat×aL)} {i:Nat} : ∀ {l:List Nat} {j:Nat},al i (b8 bl' l j)=true↔ ∃k,k<l.length∧eI l k=i∧look (j+k) bl'=none|[],j=>(by simp[b8,al])|x::r,j=>by have ih:=tK (bl':=bl') (i:=i) (l:=r) (j:=j+1);simp only[b8];constructor;(·intro h;cases hl:look j bl' with|some b=>rw[hl]at h;obtain⟨k,h1,h2,h3⟩:=ih.1 h;exact⟨k+1,by simpa using h1,by simpa[eI]using h2,by rw[←h3];congr 1;omega⟩|none=>rw[hl]at h;simp only[al]at h;cases hb:Nat.beq i x with|true=>exact⟨0,by simp,by simp[eI,Nat.eq_of_beq_eq_true hb],by simpa using hl⟩|false=>simp only[hb,cond_false]at h;obtain⟨k,h1,h2,h3⟩:=ih.1 h;exact⟨k+1,by simpa using h1,by simpa[eI]using h2,by rw[←h3];congr 1;omega⟩);·rintro⟨k,h1,h2,h3⟩;cases k with|zero=>simp only[Nat.add_zero]at h3;simp only[eI]at h2;rw[h3];simp[al,h2]|succ k=>have:=ih.2 ⟨k,by simpa using h1,by simpa[eI]using h2,by rw[←h3];congr 1;omega⟩;cases look j bl' with|some b=>exact this|none=>simp only[al,this];cases Nat.beq i x<;>rfl
end Go.Proofs.YtmgmonbmdkkhbaaGreatDoor
namespace Go.Proofs.YtmgmonbmdkkhbaaGreatDoor
variable {c8:Prop} [hZ c8]
open Go.RowKit
section
variable {E:Env} {n:Nat} {w0:World} {S0:Cx} {s:St} {a:Act} {w:World} {ν:Nat→Value} {S:Nat→Prop}
def jT(S:Nat→Prop)(s:St)(ν:Nat→Value)(ks:List Nat):Nat→Prop:=fun g=>S g∨ ∃i,al i ks=true∧s.D i∧aG (ν i)=some g
def mkF(f:Nat):Value:=.func (.func f) #[] #[]
theorem Aj {c:Ctx} : ∀ {cs:List PV} {l:List Nat} {vs:List Value},E9 cs=some l→aj c cs vs→vs=l.map mkF|[],l,vs,h,hp=>(by simp only[E9,Option.some.injEq]at h;subst h;simp only[aj]at hp;exact hp)|p::r,l,vs,h,hp=>by unfold E9 at h;split at h;(·rename_i he;cases he);(·rename_i f r' he;injection he with e1 e2;subst e1;subst e2;split at h;(·rename_i l' hl;injection h with h;subst h;simp only[aj]at hp;obtain⟨v,r,rfl,hv,hr⟩:=hp;simp only[ag]at hv;have Fz:[v]=[Value.func (.func f) #[] #[]]:=hv.2;injection Fz with Fz;rw[Fz,Aj hl hr];rfl);·cases h);·cases h
theorem Ak {w:World} {M:Mem} : ∀(x:Nat)(l:List Nat),aA (vD (x::l)) (G6 (x::l)) w M ((x::l).map mkF)|x,[]=>rfl|x,y::r=>⟨[mkF x],(y::r).map mkF,rfl,rfl,Ak y r⟩
theorem tL: ∀(x:Nat)(l:List Nat),(vD (x::l)).cells=(x::l).length|x,[]=>rfl|x,y::r=>by show 1+(vD (y::r)).cells=_;rw[tL y r];simp only[List.length_cons];omega
theorem wD: ∀l:List Nat,aJ (vD l)=0|[]=>rfl|[_]=>rfl|x::y::r=>by show aJ .aq+aJ (vD (y::r))=0;rw[wD (y::r)];rfl
mutual theorem wE {c c':Ctx} {ks:List Nat} {bl:List (Nat×aL)} (hw:c'.w=c.w)(hS: ∀b,c.M.S b→c'.M.S b)(hD: ∀i,al i ks=false→c.D i→c'.D i)(cj:c'.ν=c.ν)(hb: ∀i b,look i bl=some b→iH c i b)(hl: ∀i,al i ks=true→c.D i→ ∀g,aG (c.ν i)=some g→c'.M.S g): ∀ {p:PV} {v:Value},ag c p v→ag c' (p.aN ks bl) v|.iv T x,v,h=>(by simp only[PV.aN,ag]at h⊢;exact⟨h.1,eK (fun _ _=>by rw[hw]) hS h.1 h.2⟩)|.ref i off,v,h=>(by simp only[PV.aN];cases hi:al i ks;(·simp only[cond_false,ag]at h⊢;obtain⟨hd,g,h1,h2⟩:=h;exact⟨hD _ hi hd,g,by rw[cj];exact h1,h2⟩);·simp only[cond_true];split;(·rename_i cs te Al;split;(·rename_i x l cC;simp only[ag]at h⊢;obtain⟨hd,g,h1,h2⟩:=h;obtain⟨_,g',vs,e,e1,_,_,e2,_,e3⟩:=hb _ _ Al;rw[h1]at e1;injection e1 with e1;injection e1 with e1;injection e1 with e1;subst e1;have zO:=Aj cC e3;refine⟨wD (x::l),g,0,vs.toList,by rw[h2];simp,hl i hi hd g (by rw[h1];rfl),by rw[zO,List.length_map];exact(tL x l).symm,fun j v hj=>?_,?_⟩;(·rw[hw];simp only[World.cell?,e2,Nat.zero_add];simpa using hj);·rw[zO];exact Ak x l);·simp only[ag]);·simp only[ag])|.di T x off,v,h=>(by simp only[PV.aN,ag]at h⊢;obtain⟨ho,g,o,cs,h1,h2,h3,h4,h5⟩:=h;exact⟨ho,g,o,cs,h1,hS _ h2,h3,h4.mono (by rw[hw]),au (fun _ _=>by rw[hw]) hS _ _ _ ho h5⟩)|.aI i,v,h=>(by simp only[PV.aN];cases hi:al i ks;(·simp only[cond_false,ag]at h⊢;exact⟨hD _ hi h.1,by rw[cj];exact h.2.1,h.2.2⟩);·simp only[cond_true];split;(·rename_i T xs te Al;simp only[ag]at h⊢;obtain⟨mR,jQ⟩:=jO (hb _ _ Al);refine⟨by simpa[aJ]using mR,?_⟩;have:=mP (M':=c'.M) mR hS jQ (hl i hi h.1);rw[h.2.1,hw];exact this);·simp only[ag])|.lz i sz off len,v,h=>(by simp only[PV.aN];cases hi:al i ks;(·simp only[cond_false,ag]at h⊢;obtain⟨hd,a,n,cap,b,h1,h2⟩:=h;exact⟨hD _ hi hd,a,n,cap,b,by rw[cj];exact h1,h2⟩);·simp only[cond_true];split;(·rename_i T xs te Al;split;(·rename_i cM;have cM:=Nat.eq_of_beq_eq_true cM;simp only[ag]at h⊢;obtain⟨hd,a,n,cap,b,am7,hn,jP,rfl,mQ⟩:=h;obtain⟨mR,jQ⟩:=jO (hb _ _ Al);refine⟨by simpa[aJ]using mR,?_⟩;have lB:=mP (M':=c'.M) mR hS jQ (hl i hi hd);rw[am7]at lB;(have hlen:n=xs.length:=by obtain⟨a',lQ,hv,_⟩:=lB;injection hv with hv;injection hv);subst hlen;subst cM;rw[hw];exact si lB hn mQ);·simp only[ag]);·simp only[ag])|.eX i sz j off,v,h=>(by simp only[PV.aN];cases hi:al i ks;(·simp only[cond_false,ag]at h⊢;obtain⟨hd,g,o,n,cap,h1,h2⟩:=h;exact⟨hD _ hi hd,g,o,n,cap,by rw[cj];exact h1,h2⟩);·simp only[cond_true,ag])|.lmap i,v,h=>(by simp only[PV.aN];cases hi:al i ks;(·simp only[cond_false,ag]at h⊢;exact⟨hD _ hi h.1,by rw[cj];exact h.2.1,h.2.2⟩);·simp only[cond_true];split;(·rename_i K V es Al;simp only[ag]at h⊢;obtain⟨cP,oU,h0,r,aT,clock,h1,h2,h3,h4,h5,h6,h7⟩:=hb _ _ Al;refine⟨by simp only[aJ];omega,?_⟩;rw[hw];exact DR cP oU hS h0 (by rw[h.2.1,h1]) (hl i hi h.1 r (by rw[h1];rfl)) h4 h5 h6 h7);·simp only[ag])|.agg cs,v,h=>(by simp only[PV.aN,ag]at h⊢;obtain⟨vs,h1,h0,h2⟩:=h;exact⟨vs,h1,h0,dt hw hS hD cj hb hl h2⟩)|.aP cs,v,h=>(by simp only[PV.aN,ag]at h⊢;obtain⟨vs,h1,h2⟩:=h;exact⟨vs,h1,dt hw hS hD cj hb hl h2⟩)|.bE,v,h=>(by simp only[PV.aN,ag]at h⊢;exact h)|.bT,v,h=>(by simp only[PV.aN,ag]at h⊢;exact h)|.gl i base T n j,v,h=>(by simp only[PV.aN];cases hi:al i ks;(·simp only[cond_false,ag]at h⊢;obtain⟨hd,h0,hn,g,h1,h2⟩:=h;exact⟨hD _ hi hd,h0,hn,g,by rw[cj];exact h1,h2⟩);·simp only[cond_true,ag])|.rW f cs,v,h=>(by simp only[PV.aN,ag]at h⊢;obtain⟨vs,h1,h2⟩:=h;exact⟨vs,h1,dt hw hS hD cj hb hl h2⟩)|.qz f cs,v,h=>(by simp only[PV.aN,ag]at h⊢;obtain⟨vs,h1,h2⟩:=h;exact⟨vs,h1,dt hw hS hD cj hb hl h2⟩)|.vx i,v,h=>(by simp only[PV.aN];cases hi:al i ks;(·simp only[cond_false,ag]at h⊢;obtain⟨hd,g,h1,h2⟩:=h;exact⟨hD _ hi hd,g,by rw[cj];exact h1,h2⟩);·simp only[cond_true,ag])|.clip T xs,v,h=>(by simp only[PV.aN,ag]at h⊢;exact⟨h.1,h.2.1,au (fun _ _=>by rw[hw]) hS (.sl T) _ _ h.1 h.2.2⟩)|.fn f cs,v,h=>(by simp only[PV.aN,ag]at h⊢;obtain⟨vs,h1,h2⟩:=h;exact⟨vs,h1,dt hw hS hD cj hb hl h2⟩)|.any,v,h=>by simp only[PV.aN,ag]theorem dt {c c':Ctx} {ks:List Nat} {bl:List (Nat×aL)} (hw:c'.w=c.w)(hS: ∀b,c.M.S b→c'.M.S b)(hD: ∀i,al i ks=false→c.D i→c'.D i)(cj:c'.ν=c.ν)(hb: ∀i b,look i bl=some b→iH c i b)(hl: ∀i,al i ks=true→c.D i→ ∀g,aG (c.ν i)=some g→c'.M.S g): ∀ {ps:List PV} {vs:List Value},aj c ps vs→aj c' (PV.fI ks bl ps) vs|[],vs,h=>(by simp only[PV.fI,aj]at h⊢;exact h)|p::ps,vs,h=>by simp only[PV.fI,aj]at h⊢;obtain⟨v,r,h1,h2,h3⟩:=h;exact⟨v,r,h1,wE hw hS hD cj hb hl h2,dt hw hS hD cj hb hl h3⟩end
theorem qP(s:St)(ks:List Nat)(i:Nat):look i (s.aN ks).bl=bif al i ks then none else(look i s.bl).map (aL.map (PV.fI ks s.bl)):=by simp only[St.aN,dK,kG]
theorem HU(s:St)(ks:List Nat)(t:Nat):(s.aN ks).get t=(s.get t).aN ks s.bl:=by simp only[St.get,St.aN,fk];cases look t s.sl<;>simp[PV.aN]
theorem Full.dp(h:Full n w0 S0 s a w ν S)(ks:List Nat):Full n w0 S0 (s.aN ks) a w ν (jT S s ν ks):=by
 have hS: ∀b,S b→jT S s ν ks b:=fun b hb=>.inl hb;(have hD: ∀i,al i ks=false→s.D i→(s.aN ks).D i:=by rintro i hi⟨b,hb⟩;exact⟨b.map (PV.fI ks s.bl),by rw[qP,hi,hb];rfl⟩)
 have hl: ∀i,al i ks=true→s.D i→ ∀g,aG (ν i)=some g→jT S s ν ks g:=fun i hi hd g hg=>.inr ⟨i,hi,hd,hg⟩;(have xH: ∀i b,look i (s.aN ks).bl=some b→al i ks=false∧ ∃b0,look i s.bl=some b0∧b=b0.map (PV.fI ks s.bl):=by intro i b hb;rw[qP]at hb;cases hi:al i ks with|true=>rw[hi]at hb;cases hb|false=>rw[hi,cond_false]at hb;cases hl:look i s.bl with|none=>rw[hl]at hb;cases hb|some b0=>rw[hl]at hb;injection hb with hb;exact⟨rfl,b0,rfl,hb.symm⟩)
 refine⟨h.below,fun b hb=>hS b (h.zt b hb),fun b hb=>?_,⟨fun b hb=>?_,h.W.size,fun i b hb=>?_,fun i j b c dG hi hj=>?_⟩,fun t=>?_,h.size,h.defers,h.nV,fun i hi hd=>?_,h.BT⟩
 (·rcases hb with hb|⟨i,_,⟨b0,nG⟩,hg⟩;(·exact h.fresh b hb);·exact .inr (h.fX nG hg).1);(·rcases hb with hb|⟨i,_,⟨b0,nG⟩,hg⟩;(·exact h.W.lt b hb);·exact(h.fX nG hg).2.2)
 (·obtain⟨hi,b0,nG,rfl⟩:=xH i b hb;have hr:=h.W.bM i b0 nG;(have oV: ∀g,aG (ν i)=some g→ ¬jT S s ν ks g:=by rintro g hg(hs|⟨j,hj,⟨bj,hbj⟩,Ce⟩);(·exact(h.fX nG hg).2.1 hs);·(have dG:i≠j:=by rintro rfl;rw[hi]at hj;cases hj);exact h.W.ne i j b0 bj dG nG hbj g hg Ce);cases b0 with|box cs te=>obtain⟨gn,g,vs,e,h1,h2,h3,h4,h0,h5⟩:=hr;exact⟨gn.oQ rfl fun _ _=>rfl,g,vs,e,h1,h2,oV g (by simp only at h1;rw[h1];rfl),h4,h0,dt (c:=⟨ν,s.D,w,⟨S,aB w0 S0⟩⟩) (c':=⟨ν,(s.aN ks).D,w,⟨jT S s ν ks,aB w0 S0⟩⟩) rfl hS hD rfl h.W.bM hl h5⟩|arr T xs te=>obtain⟨gn,ho,v,hv,h1,h2⟩:=hr;injection hv with hv;simp only at hv;refine⟨gn.oQ rfl fun _ _=>rfl,ho,v,by simp only[hv],h1,?_⟩;rcases h2 with h2|⟨g,o,cap,cur,e,rfl,h3,h4,h5,h6,h7,h8,h9⟩;(·exact .inl h2);(·refine .inr ⟨g,o,cap,cur,e,rfl,h3,h4,oV g (by rw[hv];rfl),h6,h7,h8,fun i y hy=>?_⟩;obtain⟨cs,hl,Ff,hr⟩:=h9 i y hy;exact⟨cs,hl,Ff,au (fun _ _=>rfl) hS _ _ _ ho hr⟩)|mp K V es=>obtain⟨cP,oU,h0,r,aT,clock,h1,h2,h3,h4,h5,h6,h7⟩:=hr;refine⟨cP,oU,h0,r,aT,clock,h1,h2,oV r (by simp only at h1;rw[h1];rfl),h4,h5,h6,fun i y hy=>?_⟩;obtain⟨e,ca,cb,a1,a2,a3,a4,a5⟩:=h7 i y hy;exact⟨e,ca,cb,a1,a2,au (fun _ _=>rfl) hS _ _ _ cP a3,a4,au (fun _ _=>rfl) hS _ _ _ oU a5⟩|it src since seen=>obtain⟨g,m,h1,h2,h3,h4,h6⟩:=hr;exact⟨g,m,h1,h2,oV g (by simp only at h1;rw[h1];rfl),h4,dt (c:=⟨ν,s.D,w,⟨S,aB w0 S0⟩⟩) (c':=⟨ν,(s.aN ks).D,w,⟨jT S s ν ks,aB w0 S0⟩⟩) rfl hS hD rfl h.W.bM hl h6⟩|sT x pos=>obtain⟨g,h1,h2,h3,h4,h5⟩:=hr;exact⟨g,h1,h2,oV g (by simp only at h1;rw[h1];rfl),h4,h5⟩|gh o cs=>obtain⟨g,vs,h1,h2,h3,h4,h6⟩:=hr;exact⟨g,vs,h1,h2,oV g (by simp only at h1;rw[h1];rfl),h4,dt (c:=⟨ν,s.D,w,⟨S,aB w0 S0⟩⟩) (c':=⟨ν,(s.aN ks).D,w,⟨jT S s ν ks,aB w0 S0⟩⟩) rfl hS hD rfl h.W.bM hl h6⟩)
 (·obtain⟨_,b0,nG,_⟩:=xH i b hi;obtain⟨_,c0,nK,_⟩:=xH j c hj;exact h.W.ne i j b0 c0 dG nG nK);(·rw[HU];exact wE (c:=⟨ν,s.D,w,⟨S,aB w0 S0⟩⟩) (c':=⟨ν,(s.aN ks).D,w,⟨jT S s ν ks,aB w0 S0⟩⟩) rfl hS hD rfl h.W.bM hl (h.eV t))
 ·obtain⟨b,hb⟩:=hd;obtain⟨_,b0,nG,_⟩:=xH i b hb;exact h.kept i hi ⟨b0,nG⟩
/-! ### Blocks handed to a callee -/
def sv(ν:Nat→Value)(ids:List Nat):Nat→Value:=fun k=>ν (eI ids (k-P0))
theorem dL {s:St} {ids:List Nat} {k:Nat} {b:aL} (h:look k (cq ids s.bl ids P0)=some b):P0≤k∧k-P0<ids.length∧ ∃b0,look (eI ids (k-P0)) s.bl=some b0∧b=b0.map (PV.ek (fwd ids)):=by
 rw[jt (fun _ h=>h)]at h;split at h;(·rename_i hc;cases hl:look (eI ids (k-P0)) s.bl with|none=>rw[hl]at h;cases h|some b0=>rw[hl]at h;injection h with h;exact⟨hc.1,hc.2,b0,rfl,h.symm⟩)
 ·cases h
theorem HV {s:St} {ids:List Nat} {i:Nat} (hi:al i ids=true)(hd:s.D i):(⟨[],cq ids s.bl ids P0⟩:St).D (fwd ids i):=by
 obtain⟨b,hb⟩:=hd;obtain⟨h1,h2,h3⟩:=su hi;refine⟨b.map (PV.ek (fwd ids)),?_⟩;simp only;rw[jt (fun _ h=>h),if_pos ⟨h1,h3⟩,h2,hb];rfl
def RS(S:Nat→Prop)(s:St)(ν:Nat→Value)(ids:List Nat):Cx:=⟨S,da (sv ν ids) (cq ids s.bl ids P0),sv ν ids,[]⟩
theorem pC {s:St} {ν:Nat→Value} {ids:List Nat} {g:Nat} (h:da (sv ν ids) (cq ids s.bl ids P0) g): ∃i b,al i ids=true∧look i s.bl=some b∧aG (ν i)=some g:=by
 obtain⟨k,b,hk,hg⟩:=h;obtain⟨h1,h2,b0,nG,_⟩:=dL hk;exact⟨_,b0,pA h2,nG,hg⟩
theorem wF {ks:List Nat} {bl:List (Nat×aL)} : ∀ {l:List Nat} {i:Nat} {b:aL},lN ks bl l=true→i∈l→look i bl=some b→tI ks b=true|[],i,b,_,h,_=>(by cases h)|x::r,i,b,h,hi,hb=>by simp only[lN,Bool.and_eq_true]at h;rcases List.mem_cons.1 hi with rfl|hi;(·have h1:=h.1;rw[hb]at h1;cases b<;>first|exact h1|rfl);·exact wF h.2 hi hb
theorem Full.handed(h:Full n w0 S0 s a w ν S) {ids:List Nat} (jL:kz ids=true)(iQ:lN ids s.bl ids=true):nE ⟨[],cq ids s.bl ids P0⟩ (sv ν ids) w ⟨S,aB w (RS S s ν ids)⟩∧(∀g,da (sv ν ids) (cq ids s.bl ids P0) g→g<w.heap.size)∧ ∀(S1:Nat→Prop),(∀b,S b→S1 b)→Ctx.Lm ids (fwd ids) ⟨ν,s.D,w,⟨S,aB w0 S0⟩⟩ ⟨sv ν ids,(⟨[],cq ids s.bl ids P0⟩:St).D,w,⟨S1,aB w (RS S s ν ids)⟩⟩:=by
 (have cj: ∀i,al i ids=true→sv ν ids (fwd ids i)=ν i:=by intro i hi;unfold sv;rw[(su hi).2.1]);have hle: ∀(S1:Nat→Prop),(∀b,S b→S1 b)→Ctx.Lm ids (fwd ids) ⟨ν,s.D,w,⟨S,aB w0 S0⟩⟩ ⟨sv ν ids,(⟨[],cq ids s.bl ids P0⟩:St).D,w,⟨S1,aB w (RS S s ν ids)⟩⟩:=fun S1 hS1=>⟨fun _ _=>rfl,hS1,fun i hi hd=>HV hi hd,fun i hi _=>cj i hi⟩
 refine⟨⟨h.W.lt,fun b hb=>.inl hb,fun k b hb=>?_,fun k l b c tp hk hl g hg dM=>?_⟩,fun g hg=>?_,hle⟩;(·obtain⟨h1,h2,b0,nG,rfl⟩:=dL hb;have hm:=pA h2;(have hf:fwd ids (eI ids (k-P0))=k:=by rw[pB jL h2];omega);have:=l8 (hle S (fun _ h=>h)) (i:=eI ids (k-P0)) (b:=b0) (wF iQ (dB.1 hm) nG) (cj _ hm) (fun g hg=>⟨rfl,.inr ⟨k,_,hb,hg⟩,(h.fX nG hg).2.1⟩) (h.W.bM _ b0 nG);rw[hf]at this;exact this)
 (·obtain⟨h1,h2,b0,nG,_⟩:=dL hk;obtain⟨h3,h4,c0,nK,_⟩:=dL hl;refine h.W.ne (eI ids (k-P0)) (eI ids (l-P0)) b0 c0 (fun e=>tp ?_) nG nK g hg dM;have e1:=pB jL h2;have e2:=pB jL h4;rw[e,e2]at e1;omega)
 ·obtain⟨i,b,_,hb,dM⟩:=pC hg;exact(h.fX hb dM).2.2
end
end Go.Proofs.YtmgmonbmdkkhbaaGreatDoor
namespace Go.Proofs.YtmgmonbmdkkhbaaGreatDoor
variable {c8:Prop} [hZ c8]
open Go.RowKit
mutual theorem jU {c:Ctx} {bl:List (Nat×aL)} (hD: ∀i,c.D i→ ∃b,look i bl=some b): ∀ {p:PV} {v:Value},ag c p v→PV.K8 (keys bl) p=true|.iv T x,v,h=>rfl|.ref i off,v,h=>(by simp only[ag]at h;obtain⟨b,hb⟩:=hD _ h.1;exact cA hb)|.di T x off,v,h=>rfl|.aI i,v,h=>(by simp only[ag]at h;obtain⟨b,hb⟩:=hD _ h.1;exact cA hb)|.lz i sz off len,v,h=>(by simp only[ag]at h;obtain⟨b,hb⟩:=hD _ h.1;exact cA hb)|.eX i sz j off,v,h=>(by simp only[ag]at h;obtain⟨b,hb⟩:=hD _ h.1;exact cA hb)|.lmap i,v,h=>(by simp only[ag]at h;obtain⟨b,hb⟩:=hD _ h.1;exact cA hb)|.agg cs,v,h=>(by simp only[ag]at h;obtain⟨vs,_,_,h2⟩:=h;exact dQ hD h2)|.aP cs,v,h=>(by simp only[ag]at h;obtain⟨vs,_,h2⟩:=h;exact dQ hD h2)|.bE,v,h=>rfl|.bT,v,h=>rfl|.gl i base T n j,v,h=>(by simp only[ag]at h;obtain⟨b,hb⟩:=hD _ h.1;exact cA hb)|.rW f cs,v,h=>(by simp only[ag]at h;obtain⟨vs,_,h2⟩:=h;exact dQ hD h2)|.qz f cs,v,h=>(by simp only[ag]at h;obtain⟨vs,_,h2⟩:=h;exact dQ hD h2)|.vx i,v,h=>(by simp only[ag]at h;obtain⟨b,hb⟩:=hD _ h.1;exact cA hb)|.clip T xs,v,h=>rfl|.fn f cs,v,h=>(by simp only[ag]at h;obtain⟨vs,_,h2⟩:=h;exact dQ hD h2)|.any,v,h=>rfl theorem dQ {c:Ctx} {bl:List (Nat×aL)} (hD: ∀i,c.D i→ ∃b,look i bl=some b): ∀ {ps:List PV} {vs:List Value},aj c ps vs→PV.ia (keys bl) ps=true|[],vs,h=>rfl|p::ps,vs,h=>by simp only[aj]at h;obtain⟨v,r,_,h2,h3⟩:=h;simp only[PV.ia,jU hD h2,dQ hD h3,Bool.and_self]end
theorem na {c:Ctx} {bl:List (Nat×aL)} (hD: ∀i,c.D i→ ∃b,look i bl=some b) {i:Nat} {b:aL} (h:iH c i b):tI (keys bl) b=true:=by
 cases b with|box cs te=>obtain⟨_,g,vs,e,_,_,_,_,_,h5⟩:=h;exact dQ hD h5|it cs a b=>obtain⟨g,m,_,_,_,_,h6⟩:=h;exact dQ hD h6|gh o cs=>obtain⟨g,vs,_,_,_,_,h6⟩:=h;exact dQ hD h6|_=>rfl
theorem Am {bl':List (Nat×aL)} : ∀ {bl:List (Nat×aL)} {k:Nat} {b:aL},th bl bl'=true→look k bl=some b→look k bl'=none→ ∃T xs te,b= .arr T xs te|[],k,b,_,h,_=>(by cases h)|p::r,k,b,hk,h,hn=>by simp only[th,Bool.and_eq_true]at hk;simp only[look]at h;cases hb:Nat.beq k p.1 with|true=>simp only[hb,cond_true,Option.some.injEq]at h;subst h;have:=Nat.eq_of_beq_eq_true hb;subst this;have h1:=hk.1;rw[hn]at h1;(cases hp:p.2 with|arr T xs te=>exact⟨T,xs,te,rfl⟩|box cs te=>rw[hp]at h1;cases h1|mp K V es=>rw[hp]at h1;cases h1|it a b c=>rw[hp]at h1;cases h1|sT a b=>rw[hp]at h1;cases h1|gh a b=>rw[hp]at h1;cases h1)|false=>simp only[hb,cond_false]at h;exact Am hk.2 h hn
theorem D7 {bl:List (Nat×aL)} {used:List Nat} {d:Option Nat} : ∀ {l:List (Nat×aL)} {k:Nat} {b:aL},Cd bl used d l=true→look k l=some b→(P0≤k∧ ∃c,look k bl=some c)∨(k<P0∧ ∃e,d=some e∧k<100000∧k+100000*(e+1)<P0∧al (k+100000*(e+1)) used=false)|[],k,b,_,h=>(by cases h)|(p1,p2)::r,k,b,hn,h=>by obtain⟨p,hp⟩: ∃p:Nat×aL,p=(p1,p2):=⟨_,rfl⟩;(obtain rfl:p.1=p1:=by rw[hp]);(obtain rfl:p.2=p2:=by rw[hp]);clear hp;simp only[Cd,Bool.and_eq_true]at hn;simp only[look]at h;cases hb:Nat.beq k p.1 with|true=>have:=Nat.eq_of_beq_eq_true hb;subst this;have h1:=hn.1;split at h1;(·rename_i db;have hle:=Nat.le_of_ble_eq_true db;cases hl:look p.1 bl with|none=>rw[hl]at h1;cases h1|some c=>exact .inl ⟨hle,c,rfl⟩);(·rename_i db;(have cN:p.1<P0:=by rcases Nat.lt_or_ge p.1 P0 with h'|h';(·exact h');·rw[Nat.ble_eq_true_of_le h']at db;cases db);cases d with|none=>cases h1|some e=>simp only[Bool.and_eq_true,Nat.blt_eq,Bool.not_eq_true']at h1;exact .inr ⟨cN,e,rfl,h1.1.1,h1.1.2,h1.2⟩)|false=>simp only[hb,cond_false]at h;exact D7 hn.2 h
section
variable {E:Env} {n:Nat} {w0:World} {S0:Cx} {s:St} {a:Act} {w:World} {ν:Nat→Value} {S:Nat→Prop}
theorem kL {ids:List Nat} {d k:Nat} (h:P0≤k):back ids d k=eI ids (k-P0):=by unfold back;rw[Nat.ble_eq_true_of_le h];rfl
theorem nb {ids:List Nat} {d k:Nat} (h:k<P0):back ids d k=k+100000*(d+1):=by
 unfold back;(have:Nat.ble P0 k=false:=by cases hb:Nat.ble P0 k with|false=>rfl|true=>have:=Nat.le_of_ble_eq_true hb;omega);rw[this];rfl
def eM(s:St)(d:Nat)(ids:List Nat)(bl':List (Nat×aL)):List (Nat×aL):=fw (back ids d) bl'++cy ids (s.kill (b8 bl' ids P0)).bl
noncomputable def ib(ν ν':Nat→Value)(d:Nat)(bl':List (Nat×aL)):Nat→Value:=fun i=>match Nat.ble (100000*(d+1)) i,look (i-100000*(d+1)) bl' with|true,some _=>bif Nat.blt (i-100000*(d+1)) 100000 then ν' (i-100000*(d+1))else ν i|_,_=>ν i
theorem Full.cx(h:Full n w0 S0 s a w ν S) {ids:List Nat} {d:Option Nat} {p:PV} {v:Value} {bl':List (Nat×aL)} {w':World} {ν':Nat→Value} {S':Nat→Prop} (jL:kz ids=true)(iQ:lN ids s.bl ids=true)(hk:Kept (da (sv ν ids) (cq ids s.bl ids P0)) w w')(h1: ∀b,S b→S' b)(h2: ∀b,S' b→S b∨aB w (RS S s ν ids) b)(h3: ∀i,P0≤i→(⟨[],bl'⟩:St).D i→ν' i=sv ν ids i)(hW:nE ⟨[],bl'⟩ ν' w' ⟨S',aB w (RS S s ν ids)⟩)(hp:ag ⟨ν',(⟨[],bl'⟩:St).D,w',⟨S',aB w (RS S s ν ids)⟩⟩ p v)(l9:th (cq ids s.bl ids P0) bl'=true)(fY:Cd (cq ids s.bl ids P0) (keys s.bl) d bl'=true)(hd: ∀e,d=some e→e<n): ∃HW,Full n w0 S0 (s.ey d ids p bl') (a.put d v) w' HW S':=by
 obtain⟨dd,mY⟩: ∃dd:Nat,dd=(match d with|some e=>e|none=>0):=⟨_,rfl⟩;(have gP:(s.ey d ids p bl').bl=eM s dd ids bl':=by subst mY;cases d<;>rfl);(have lB: ∀t,(s.ey d ids p bl').get t=match d with|some e=>if t=e then p.ew (back ids dd)else((s.get t).kill (b8 bl' ids P0))|none=>(s.get t).kill (b8 bl' ids P0):=by intro t;subst mY;cases d with|none=>exact tj s _ t|some e=>simp only[St.ey,St.get];by_cases ht:t=e;(·subst ht;simp only[aV,if_true]);·rw[aM _ _ ht,if_neg ht];have:=tj s (b8 bl' ids P0) t;simp only[St.get]at this;exact this)
 (have fM: ∀k b,look k bl'=some b→(P0≤k∧k-P0<ids.length∧ ∃b0,look (eI ids (k-P0)) s.bl=some b0)∨(k<P0∧d=some dd∧k<100000∧k+100000*(dd+1)<P0∧look (k+100000*(dd+1)) s.bl=none):=by intro k b hb;rcases D7 fY hb with⟨hle,c,hc⟩|⟨cN,e,he,GW,Yd,hk3⟩;(·obtain⟨_,h5,b0,nG,_⟩:=dL hc;exact .inl ⟨hle,h5,b0,nG⟩);·subst he;simp only at mY;subst mY;refine .inr ⟨cN,rfl,GW,Yd,?_⟩;cases hl:look (k+100000*(dd+1)) s.bl with|none=>rfl|some b=>rw[cA hl]at hk3;cases hk3)
 (have vQ: ∀j k c e,look j bl'=some c→look k bl'=some e→back ids dd j=back ids dd k→j=k:=by intro j k c e hj hk he;rcases fM j c hj with⟨a1,a2,b0,a3⟩|⟨a1,_,a2,a3,a4⟩;(·rcases fM k e hk with⟨b1,b2,c0,b3⟩|⟨b1,_,b2,b3,b4⟩;(·rw[kL a1,kL b1]at he;have e1:=pB jL a2;have e2:=pB jL b2;rw[he,e2]at e1;omega);·rw[kL a1,nb b1]at he;rw[he,b4]at a3;cases a3);·rcases fM k e hk with⟨b1,b2,c0,b3⟩|⟨b1,_,b2,b3,b4⟩;(·rw[nb a1,kL b1]at he;rw[←he,a4]at b3;cases b3);·rw[nb a1,nb b1]at he;omega)
 (have ma: ∀i,s.D i→ib ν ν' dd bl' i=ν i:=by rintro i⟨b,hb⟩;unfold ib;split;(·rename_i c db hl;cases cN:Nat.blt (i-100000*(dd+1)) 100000 with|false=>rfl|true=>have hle:=Nat.le_of_ble_eq_true db;rw[Nat.blt_eq]at cN;rcases fM _ c hl with⟨a1,_⟩|⟨_,_,_,_,a4⟩;(·unfold P0 at a1;omega);·rw[show i-100000*(dd+1)+100000*(dd+1)=i from by omega,hb]at a4;cases a4);·rfl)
 (have tM: ∀k b,look k bl'=some b→ib ν ν' dd bl' (back ids dd k)=ν' k:=by intro k b hb;rcases fM k b hb with⟨a1,a2,b0,a3⟩|⟨a1,_,a2,a3,a4⟩;(·rw[kL a1,ma _ ⟨b0,a3⟩,h3 k a1 ⟨b,hb⟩];rfl);·rw[nb a1];unfold ib;rw[Nat.ble_eq_true_of_le (by omega),show k+100000*(dd+1)-100000*(dd+1)=k from by omega,hb];(have:Nat.blt k 100000=true:=by rw[Nat.blt_eq];exact a2);simp only[this,cond_true])
 (have HX: ∀k b,look k bl'=some b→look (back ids dd k) (eM s dd ids bl')=some (b.map (PV.ek (back ids dd))):=by intro k b hb;unfold eM;rw[ju,fc (fun i c hc he=>vQ i k c b hc hb he) hb])
 (have Tn: ∀i,al i ids=false→s.D i→ ∃b,look i (eM s dd ids bl')=some b:=by rintro i hi⟨b,hb⟩;unfold eM;rw[ju];cases look i (fw (back ids dd) bl')with|some x=>exact⟨x,rfl⟩|none=>exact⟨b.map (PV.cB (b8 bl' ids P0)),by simp only;rw[dK,hi,cond_false,ir,hb];rfl⟩)
 (have tN: ∀i b,look i (eM s dd ids bl')=some b→(∃k c,back ids dd k=i∧look k bl'=some c∧b=c.map (PV.ek (back ids dd)))∨(al i ids=false∧ ∃b0,look i s.bl=some b0∧b=b0.map (PV.cB (b8 bl' ids P0))):=by intro i b hb;unfold eM at hb;rw[ju]at hb;cases hr:look i (fw (back ids dd) bl')with|some x=>rw[hr]at hb;injection hb with hb;subst hb;exact .inl (iW vQ hr)|none=>rw[hr]at hb;simp only at hb;rw[dK]at hb;cases hi:al i ids with|true=>rw[hi]at hb;cases hb|false=>rw[hi,cond_false,ir]at hb;cases hl:look i s.bl with|none=>rw[hl]at hb;cases hb|some b0=>rw[hl]at hb;injection hb with hb;exact .inr ⟨rfl,b0,rfl,hb.symm⟩)
 (have HY: ∀g,da (sv ν ids) (cq ids s.bl ids P0) g→aB w0 S0 g∧ ¬S g∧g<w.heap.size:=fun g hg=>by obtain⟨i,b,_,hb,dM⟩:=pC hg;exact h.fX hb dM);(have jQ: ∀g,aB w (RS S s ν ids) g→aB w0 S0 g:=fun g hg=>by rcases hg with hg|hg;(·exact h.W.size g hg);·exact(HY g hg).1)
 (have HZ: ∀i,al i ids=true→s.D i→al i (b8 bl' ids P0)=false→ ∃b,look (fwd ids i) bl'=some b:=by intro i hi _ D8;obtain⟨f1,f2,f3⟩:=su hi;cases hl:look (fwd ids i) bl' with|some b=>exact⟨b,rfl⟩|none=>have:=(tK (bl':=bl') (i:=i) (l:=ids) (j:=P0)).2 ⟨fwd ids i-P0,f3,f2,by rw[show P0+(fwd ids i-P0)=fwd ids i from by omega];exact hl⟩;rw[this]at D8;cases D8)
 (have hD: ∀i,s.D i→al i (b8 bl' ids P0)=false→(⟨[],eM s dd ids bl'⟩:St).D i:=by intro i hi D8;cases hm:al i ids with|false=>exact Tn i hm hi|true=>obtain⟨b,hb⟩:=HZ i hm hi D8;have:=HX _ b hb;obtain⟨f1,f2,f3⟩:=su hm;rw[kL f1,f2]at this;exact⟨_,this⟩)
 have Zb:Ctx.zu (b8 bl' ids P0) ⟨ν,s.D,w,⟨S,aB w0 S0⟩⟩ ⟨ib ν ν' dd bl',(⟨[],eM s dd ids bl'⟩:St).D,w',⟨S',aB w0 S0⟩⟩:=⟨fun b hb=>hk.block b (h.W.lt b hb) (fun hf=>(HY b hf).2.1 hb),h1,hD,fun i hi _=>ma i hi⟩
 (have LC:zw ⟨ν,s.D,w,⟨S,aB w0 S0⟩⟩ (b8 bl' ids P0):=by rintro i hi⟨b,hb⟩;obtain⟨k,e1,e2,e3⟩:=tK.1 hi;(have Hn:look (P0+k) (cq ids s.bl ids P0)=some (b.map (PV.ek (fwd ids))):=by rw[jt (fun _ h=>h),if_pos ⟨by omega,by omega⟩,show P0+k-P0=k from by omega,e2,hb];rfl);obtain⟨T,xs,te,L2⟩:=Am l9 Hn e3;cases b with|arr T xs te=>obtain⟨gn,_,u,hu,_,hc⟩:=h.W.bM i _ hb;injection hu with hu;simp only at hu⊢;rw[hu];rcases hc with⟨hc,_⟩|⟨g,o,cap,cur,e,hc,_⟩<;>subst hc<;>exact⟨_,_,_,rfl⟩|box cs te=>cases L2|mp K V es=>cases L2|it a b c=>cases L2|sT a b=>cases L2|gh a b=>cases L2)
 have Zc:Ctx.Lm (keys bl') (back ids dd) ⟨ν',(⟨[],bl'⟩:St).D,w',⟨S',aB w (RS S s ν ids)⟩⟩ ⟨ib ν ν' dd bl',(⟨[],eM s dd ids bl'⟩:St).D,w',⟨S',aB w0 S0⟩⟩:=⟨fun _ _=>rfl,fun _ h=>h,fun i _⟨b,hb⟩=>⟨_,HX i b hb⟩,fun i _⟨b,hb⟩=>tM i b hb⟩
 (have ry:nE ⟨[],eM s dd ids bl'⟩ (ib ν ν' dd bl') w' ⟨S',aB w0 S0⟩:=by refine⟨hW.lt,fun b hb=>h.W.size b (Nat.le_trans hk.size hb),fun i b hb=>?_,fun i j b c dG hi hj g hg dM=>?_⟩;(·rcases tN i b hb with⟨k,c,rfl,hc,rfl⟩|⟨hi,b0,nG,rfl⟩;(·have hr:=hW.bM k c hc;exact l8 Zc (na (fun i hi=>hi) hr) (tM k c hc) (fun g hg=>⟨rfl,jQ g (eh hr hg).1,(eh hr hg).2.1⟩) hr);·refine wo Zb LC rfl (ma i ⟨b0,nG⟩) (fun g hg=>?_) (h.W.bM i b0 nG);obtain⟨g1,g2,g3⟩:=h.fX nG hg;(have L0: ¬da (sv ν ids) (cq ids s.bl ids P0) g:=by intro hf;obtain⟨j,c0,hj,nK,Ce⟩:=pC hf;exact h.W.ne i j b0 c0 (by rintro rfl;rw[hi]at hj;cases hj) nG nK g hg Ce);refine⟨hk.block g g3 L0,fun _ HI=>?_⟩;rcases h2 g HI with h'|h'|h';(·exact g2 h');(·omega);·exact L0 h');·(have AB: ∀(k:Nat)(c:aL)(j:Nat)(c0:aL),look k bl'=some c→al j ids=false→look j s.bl=some c0→aG (ν' k)=some g→aG (ν j)=some g→False:=by intro k c j c0 hc hj nK LD Ce;obtain⟨g1,g2,g3⟩:=h.fX nK Ce;rcases(eh (hW.bM k c hc) LD).1 with h'|h';(·exact absurd g3 (Nat.not_lt.2 h'));·obtain⟨j',c0',SN,am8,am9⟩:=pC h';exact h.W.ne j j' c0 c0' (by rintro rfl;rw[hj]at SN;cases SN) nK am8 g Ce am9);rcases tN i b hi with⟨k,c1,rfl,GQ,_⟩|⟨hi1,b0,nG,_⟩;(·rw[tM k c1 GQ]at hg;rcases tN j c hj with⟨l,c2,rfl,RJ,_⟩|⟨hj1,c0,nK,_⟩;(·rw[tM l c2 RJ]at dM;exact hW.ne k l c1 c2 (fun e=>dG (by rw[e])) GQ RJ g hg dM);·rw[ma j ⟨c0,nK⟩]at dM;exact AB k c1 j c0 GQ hj1 nK hg dM);·rw[ma i ⟨b0,nG⟩]at hg;rcases tN j c hj with⟨l,c2,rfl,RJ,_⟩|⟨hj1,c0,nK,_⟩;(·rw[tM l c2 RJ]at dM;exact AB l c2 i b0 RJ hi1 nG dM hg);·rw[ma j ⟨c0,nK⟩]at dM;exact h.W.ne i j b0 c0 dG nG nK g hg dM)
 (have To:(s.ey d ids p bl').D=(⟨[],eM s dd ids bl'⟩:St).D:=by unfold St.D;rw[gP]);refine⟨ib ν ν' dd bl',⟨⟨hk.os.trans h.below.os,hk.tape.trans h.below.tape,hk.output.trans h.below.output,Nat.le_trans h.below.size hk.size,fun b hb hx=>?_,fun hd=>Nat.le_trans (h.below.drawn hd) (hk.drawn hd)⟩,fun b hb=>h1 b (h.zt b hb),fun b hb=>?_,⟨ry.lt,ry.size,fun i b hb=>?_,fun i j b c dG hi hj=>?_⟩,fun t=>?_,?_,?_,h.nV,fun i hi wm=>?_,h.BT⟩⟩
 (·rw[hk.block b (Nat.lt_of_lt_of_le hb h.below.size) (fun hf=>?_),h.below.block b hb hx];rcases(HY b hf).1 with h'|h';(·omega);·exact hx h');(·rcases h2 b hb with h'|h';(·exact h.fresh b h');·exact .inr (jQ b h'))
 (·rw[gP]at hb;rw[To];exact ry.bM i b hb);(·rw[gP]at hi hj;exact ry.ne i j b c dG hi hj);(·rw[To,lB t];have hold:ag ⟨ib ν ν' dd bl',(⟨[],eM s dd ids bl'⟩:St).D,w',⟨S',aB w0 S0⟩⟩ ((s.get t).kill (b8 bl' ids P0)) (a.tmps.getD t undef):=qE Zb LC (h.eV t);cases d with|none=>exact hold|some e=>by_cases ht:t=e;(·subst ht;simp only[if_true];have htn:=hd t rfl;(have:(a.put (some t) v).tmps.getD t undef=v:=by simp[Act.put,h.size,htn]);rw[this];exact iV Zc (jU (fun i hi=>hi) hp) hp);·show ag _ (if t=e then p.ew (back ids dd)else(s.get t).kill (b8 bl' ids P0)) _;rw[if_neg ht];(have:(a.put (some e) v).tmps.getD t undef=a.tmps.getD t undef:=by simp only[Act.put,Array.getD_eq_getD_getElem?];rw[Array.getElem?_setIfInBounds_ne (by omega)]);rw[this];exact hold)
 (·rw[oZ];exact h.size);(·rw[kF];exact h.defers);·rw[To]at wm;obtain⟨b,hb⟩:=wm;rcases tN i b hb with⟨k,c,rfl,hc,_⟩|⟨_,b0,nG,_⟩;(·rcases fM k c hc with⟨a1,a2,b0,a3⟩|⟨a1,_,a2,a3,a4⟩;(·rw[kL a1]at hi⊢;rw[ma _ ⟨b0,a3⟩];exact h.kept _ hi ⟨b0,a3⟩);·rw[nb a1]at hi;omega);·rw[ma i ⟨b0,nG⟩];exact h.kept i hi ⟨b0,nG⟩
end
end Go.Proofs.YtmgmonbmdkkhbaaGreatDoor
