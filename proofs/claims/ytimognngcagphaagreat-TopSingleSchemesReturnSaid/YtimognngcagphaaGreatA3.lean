/-
  What a callee leaves that was handed local blocks. Nothing here is trusted; no condition.
-/
import Derived.Test.YtimognngcagphaaGreatA2
import Derived.Laws.Closers25b
import Derived.ChangeKeysEq
import Derived.Laws.BytesArg
import Derived.Lib.AppendZerosOnto
import Derived.MapKept
import Derived.Maps.RangeRun
set_option linter.all false
namespace Go.Proofs.YtimognngcagphaaGreat
section
variable {en:Prop} [lj en]
open Go.RowKit
theorem lg(k:IntKind) {n:Int} (h:k.min≤n∧n≤k.max):k.wrap n=n:=by obtain⟨h1,h2⟩:=h;cases k<;>simp[IntKind.min,IntKind.max,IntKind.wrap,IntKind.bits,IntKind.signed]at* <;>omega
theorem lu(k:IntKind):k.min≤0:=by cases k<;>decide
theorem rW(k:IntKind):0≤k.max:=by cases k<;>decide
theorem nM(P:Program)(w:World)(op:BinOp)(t:Nat)(x y:Operand)(k l:IntKind)(m n:Int):(eqGuard op t x y (.int k m) (.int l n)).run P w= .ok () w:=by
 unfold eqGuard;simp only[Sem.run_ite];split<;>rfl
theorem JR(P:Program)(w:World)(op:BinOp)(t:Nat)(x y:Operand)(m n:ByteArray):(eqGuard op t x y (.string m) (.string n)).run P w= .ok () w:=by
 unfold eqGuard;simp only[Sem.run_ite];split<;>rfl
theorem wF(P:Program)(w:World)(op:BinOp)(t:Nat)(x y:Operand)(m n:Bool):(eqGuard op t x y (.bool m) (.bool n)).run P w= .ok () w:=by
 unfold eqGuard;simp only[Sem.run_ite];split<;>rfl
theorem max_lt(k:IntKind):k.max<2^k.bits:=by cases k<;>decide
theorem hZ(k:IntKind) {x:Int} (h0:0≤x)(h1:x≤k.max):(BitVec.ofInt k.bits x).toNat=x.toNat:=by
 have h2:=max_lt k;rw[BitVec.toNat_ofInt];have h3:x%((2^k.bits:Nat):Int)=x:=Int.emod_eq_of_lt h0 (by push_cast;omega);rw[h3]
theorem ab0 {E:Env} {c:Ctx} {op:BinOp} {k:IntKind} {x y:Int} {t:Nat} {w:World} {Kl:Out→Prop} (hx:k.min≤x∧x≤k.max)(hy:k.min≤y∧y≤k.max)(h:aZ E (rA op k x y) Kl): ∃p v,Kl (.val p)∧ag c p v∧(binOp op t (.int k x) (.int k y)).run E.P w= .ok v w:=by
 have hmn:=lu k;(have Cs: ∀(r:Int),(∃v,(binOp op t (.int k x) (.int k y)).run E.P w= .ok v w∧v= .int k (k.wrap r))→aZ E (arith k r) Kl→ ∃p v,Kl (.val p)∧ag c p v∧(binOp op t (.int k x) (.int k y)).run E.P w= .ok v w:=by rintro r⟨v,hv,rfl⟩⟨hr,hK⟩;exact⟨_,_,hK,cj hr,by rw[hv,lg k hr]⟩)
 (have tr: ∀(b:Bool),(binOp op t (.int k x) (.int k y)).run E.P w= .ok (.bool b) w→aZ E (fN b) Kl→ ∃p v,Kl (.val p)∧ag c p v∧(binOp op t (.int k x) (.int k y)).run E.P w= .ok v w:=by intro b hb hK;exact⟨_,_,hK,bM,hb⟩)
 cases op<;>simp only[rA]at h;(case add=>exact Cs _ ⟨_,by simp[binOp,Op.intArith],rfl⟩ h);(case sub=>exact Cs _ ⟨_,by simp[binOp,Op.intArith],rfl⟩ h);(case mul=>exact Cs _ ⟨_,by simp[binOp,Op.intArith],rfl⟩ h)
 (case quo=>obtain⟨⟨h0,h1⟩,hK⟩:=h;(have hq:k.min≤x/y∧x/y≤k.max:=by have e1:0≤x/y:=Int.ediv_nonneg h0 v6;have e2:x/y≤x:=Int.ediv_le_self _ h0;omega);refine⟨_,_,hK,cj hq,?_⟩;simp only[binOp,ne_eq,not_true_eq_false,if_false,Op.intDiv];rw[if_neg v6];simp only[Sem.run_pure,Int.tdiv_eq_ediv_of_nonneg h0,lg k hq])
 (case rem=>obtain⟨⟨h0,h1⟩,hK⟩:=h;(have hq:k.min≤x%y∧x%y≤k.max:=by have e1:0≤x%y:=Int.emod_nonneg _ v6;have e2:x%y<y:=Int.emod_lt_of_pos _ h1;omega);refine⟨_,_,hK,cj hq,?_⟩;simp only[binOp,ne_eq,not_true_eq_false,if_false,Op.intDiv];rw[if_neg v6];simp only[Sem.run_pure,Int.tmod_eq_emod_of_nonneg h0])
 (case and=>obtain⟨⟨h0,h1⟩,hK⟩:=h;have e1:x.toNat &&& y.toNat≤x.toNat:=Nat.and_le_left;(have hr:k.min≤((x.toNat &&& y.toNat:Nat):Int)∧((x.toNat &&& y.toNat:Nat):Int)≤k.max:=by omega);refine⟨_,_,hK,cj hr,?_⟩;simp only[binOp,ne_eq,not_true_eq_false,if_false,Op.intBits,Sem.run_pure,BitVec.toNat_and,hZ k h0 hx.2,hZ k h1 hy.2,lg k hr])
 (case or=>obtain⟨⟨h0,h1⟩,hK⟩:=h;(have hr:k.min≤((x.toNat ||| y.toNat:Nat):Int)∧((x.toNat ||| y.toNat:Nat):Int)≤k.max:=by refine⟨v6,?_⟩;(have hp: ∃b:Nat,k.max=((2^b-1:Nat):Int):=by cases k;(·exact⟨7,by decide⟩);(·exact⟨15,by decide⟩);(·exact⟨31,by decide⟩);(·exact⟨63,by decide⟩);(·exact⟨8,by decide⟩);(·exact⟨16,by decide⟩);(·exact⟨32,by decide⟩);·exact⟨64,by decide⟩);obtain⟨b,hb⟩:=hp;have rR:0<2^b:=Nat.two_pow_pos b;have:x.toNat ||| y.toNat<2^b:=Nat.or_lt_two_pow v6 v6;omega);refine⟨_,_,hK,cj hr,?_⟩;simp only[binOp,ne_eq,not_true_eq_false,if_false,Op.intBits,Sem.run_pure,BitVec.toNat_or,hZ k h0 hx.2,hZ k h1 hy.2,lg k hr])
 (case andNot=>obtain⟨⟨h0,h1⟩,hK⟩:=h;have e1:x.toNat &&& (2^k.bits-1-y.toNat)≤x.toNat:=Nat.and_le_left;(have hr:k.min≤((x.toNat &&& (2^k.bits-1-y.toNat):Nat):Int)∧((x.toNat &&& (2^k.bits-1-y.toNat):Nat):Int)≤k.max:=by omega);refine⟨_,_,hK,cj hr,?_⟩;simp only[binOp,ne_eq,not_true_eq_false,if_false,Op.intBits,Sem.run_pure,BitVec.toNat_and,BitVec.toNat_not,hZ k (by omega:0≤x) hx.2,hZ k h1 hy.2,lg k hr])
 (case lss=>exact tr _ (by simp[binOp,Op.intCmp]) h);(case leq=>exact tr _ (by simp[binOp,Op.intCmp]) h);(case gtr=>exact tr _ (by simp[binOp,Op.intCmp]) h);(case geq=>exact tr _ (by simp[binOp,Op.intCmp]) h)
 (case eql=>refine tr _ ?_ h;simp only[binOp,ne_eq,not_true_eq_false,if_false,Op.intCmp,Sem.run_pure];rfl);(case neq=>refine tr _ ?_ h;simp only[binOp,ne_eq,not_true_eq_false,if_false,Op.intCmp,Sem.run_pure];rfl)
 all_goals exact h.elim
theorem RA {E:Env} {c:Ctx} {op:BinOp} {k l:IntKind} {x y:Int} {t:Nat} {w:World} {Kl:Out→Prop} (hx:k.min≤x∧x≤k.max)(h:aZ E (mH op k x y) Kl): ∃p v,Kl (.val p)∧ag c p v∧(binOp op t (.int k x) (.int l y)).run E.P w= .ok v w:=by
 have hmn:=lu k;cases op<;>simp only[mH]at h;(case shl=>obtain⟨⟨h0,h1⟩,hr,hK⟩:=h;refine⟨_,_,hK,cj hr,?_⟩;simp only[binOp,Op.shift];rw[if_neg v6];have e1:min y.toNat k.bits=y.toNat:=v6;simp only[e1,Sem.run_pure,lg k hr])
 (case shr=>obtain⟨⟨hx0,h0,h1⟩,hK⟩:=h;have rR:(0:Int)<2^y.toNat:=Int.pow_pos v6;(have hq:k.min≤x/2^y.toNat∧x/2^y.toNat≤k.max:=by have e1:0≤x/2^y.toNat:=Int.ediv_nonneg hx0 v6;have e2:x/2^y.toNat≤x:=Int.ediv_le_self _ hx0;omega);refine⟨_,_,hK,cj hq,?_⟩;simp only[binOp,Op.shift];rw[if_neg v6];have e1:min y.toNat k.bits=y.toNat:=v6;simp only[e1,Sem.run_pure];rw[Int.fdiv_eq_ediv_of_nonneg _ v6])
 all_goals exact h.elim
theorem toList_mk(x:List UInt8):(⟨x.toArray⟩:ByteArray).toList=x:=by rw[ByteArray.toList_eq]
theorem wG: ∀(x y:List UInt8),Op.bytesLess x y=bytesLess x y|_,[]=>(by simp[Op.bytesLess,bytesLess])|[],_::_=>(by simp[Op.bytesLess,bytesLess])|a::x,b::y=>by simp only[Op.bytesLess,bytesLess,wG x y]
theorem ab1 {E:Env} {c:Ctx} {op:BinOp} {x y:List UInt8} {t:Nat} {w:World} {Kl:Out→Prop} (h:aZ E (rB op x y) Kl): ∃p v,Kl (.val p)∧ag c p v∧(binOp op t (.string ⟨x.toArray⟩) (.string ⟨y.toArray⟩)).run E.P w= .ok v w:=by
 cases op<;>simp only[rB]at h;(case add=>obtain⟨hl,hK⟩:=h;refine⟨_,_,hK,rS (by rw[y9];exact hl),?_⟩;(have e1:(⟨x.toArray⟩:ByteArray).size=x.length:=by simp[ByteArray.size]);(have e2:(⟨y.toArray⟩:ByteArray).size=y.length:=by simp[ByteArray.size]);(have e3:(⟨x.toArray⟩:ByteArray)++⟨y.toArray⟩=⟨(x++y).toArray⟩:=by apply ByteArray.ext;rw[ByteArray.data_append];simp);simp only[binOp,Op.stringOp,e1,e2,e3,Sem.run_ite];rw[if_neg (by simp[IntKind.max,IntKind.signed,IntKind.bits];omega)];rfl)
 (case eql=>refine⟨_,_,h,bM,?_⟩;(have e:(x==y)=decide (x=y):=by rw[Bool.eq_iff_iff];simp);simp only[binOp,Op.stringOp,toList_mk,Sem.run_pure,e]);(case neq=>refine⟨_,_,h,bM,?_⟩;(have e:(x==y)=decide (x=y):=by rw[Bool.eq_iff_iff];simp);simp only[binOp,Op.stringOp,toList_mk,Sem.run_pure,e])
 (case lss=>refine⟨_,_,h,bM,?_⟩;simp only[binOp,Op.stringOp,toList_mk,Sem.run_pure,wG]);(case geq=>refine⟨_,_,h,bM,?_⟩;simp only[binOp,Op.stringOp,toList_mk,Sem.run_pure,wG])
 (case gtr=>refine⟨_,_,h,bM,?_⟩;(have e:(x==y)=decide (x=y):=by rw[Bool.eq_iff_iff];simp);simp only[binOp,Op.stringOp,toList_mk,Sem.run_pure,wG,e]);(case leq=>refine⟨_,_,h,bM,?_⟩;(have e:(x==y)=decide (x=y):=by rw[Bool.eq_iff_iff];simp);simp only[binOp,Op.stringOp,toList_mk,Sem.run_pure,wG,e])
 all_goals exact h.elim
end
section
variable {en:Prop} [lj en]
open Go.RowKit
section
variable {E:Env}
def mU(E:Env)(t:Nat):Ty→Prop|.int _=>True|.bool=>True|.str=>True|.st _=>E.cmp t=true|_=>False
theorem yE(hE:aI E) {t:Nat} (h:E.cmp t=true):(∃R,E.ty t=some (.st R))∧E.P.eqGuardType E.P.depth t=false∧((∃fs,E.P.underlying t=some (.struct fs)∧kE E.ty E.cmp fs.toList=true∧E.P.stoodInHeld t=false)∨ ∃m e,E.P.underlying t=some (.array m e)∧wq E.ty E.cmp e=true):=by
 have h1:=hE.cmp t h;simp only[O9,z8,Bool.not_eq_true']at h1;obtain⟨h1,h4⟩:=h1;split at h1;(·rename_i fs R hu hT;simp only[z8,Bool.not_eq_true']at h1;exact⟨⟨R,hT⟩,h4,.inl ⟨fs,hu,h1.1.1,h1.2⟩⟩)
 (·rename_i m e R hu hT;exact⟨⟨R,hT⟩,h4,.inr ⟨m,e,hu,h1⟩⟩);·cases h1
theorem RB(hE:aI E) {w:World} {M:Mem} {d:Nat} (ih: ∀(T:Ty)(t:Nat)(x y:T.den)(v u:Value)(r:Bool),cS E t T→mU E t T→dc T x w M v→dc T y w M u→mG T x y=some r→dep T≤d→(Op.equalIn (d+1) t v u).run E.P w= .ok r w): ∀(fs:List Field)(R:Ty)(off:Nat),bX E.ty fs R off=true→kE E.ty E.cmp fs=true→ ∀(x y:R.den)(r:Bool)(xs ys:Array Value),dep R≤d→off+R.cells≤xs.size→off+R.cells≤ys.size→aH R x w M ((xs.toList.drop off).take R.cells)→aH R y w M ((ys.toList.drop off).take R.cells)→mG R x y=some r→(Op.eqFields (d+1) xs ys fs).run E.P w= .ok r w:=by
 (have one: ∀(f:Field)(T:Ty)(off:Nat)(x y:T.den)(r:Bool)(xs ys:Array Value),Nat.beq f.offset off=true→rL E.ty f.type T=true→(match E.ty f.type with|some (.int _)=>true|some .bool=>true|some .str=>true|some (.st _)=>E.cmp f.type|_=>false)=true→dep T≤d→off+T.cells≤xs.size→off+T.cells≤ys.size→aH T x w M ((xs.toList.drop off).take T.cells)→aH T y w M ((ys.toList.drop off).take T.cells)→mG T x y=some r→ ∃v u,(Go.part f.type xs f.offset).run E.P w= .ok v w∧(Go.part f.type ys f.offset).run E.P w= .ok u w∧(Op.equalIn (d+1) f.type v u).run E.P w= .ok r w:=by intro f T off x y r xs ys h1 h2 hc hd hx hy yF Nc hb;have lJ:=y6 h1;(have hT:E.ty f.type=some T:=by unfold rL at h2;split at h2;(·rename_i U hU;rw[Ty.dw h2]at hU;exact hU);·cases h2);have hf:=hE.facts hT;rw[hT]at hc;(have hk:mU E f.type T:=by cases T<;>first|trivial|exact hc|cases hc);(have Jl: ∀(z:T.den)(vs:List Value),aH T z w M vs→dc T z w M (valOf T vs):=by intro z vs hr;have:=jn hf.val hr;have hv:=hf.val;cases T<;>first|exact this|cases hv);exact⟨_,_,by rw[lJ];exact lr hf hx,by rw[lJ];exact lr hf hy,ih T f.type x y _ _ r hf hk (Jl x _ yF) (Jl y _ Nc) hb hd⟩)
 intro fs;induction fs with|nil=>intro R off h;cases h|cons f fs ihf=>intro R off h hc x y r xs ys hd hx hy yF Nc hb;simp only[kE,z8]at hc;cases fs with|nil=>simp only[bX,z8]at h;obtain⟨⟨⟨⟨h1,h2⟩,h3⟩,h4⟩,h5⟩:=h;obtain⟨v,u,e1,e2,e3⟩:=one f R off x y r xs ys h1 h2 hc.1 hd hx hy yF Nc hb;(have hn:f.name≠ "_" :=by simpa using h5);simp only[Op.eqFields];rw[if_pos hn];simp only[Sem.run_bind,e1,e2,e3,Result.andThen_ok,Sem.run_ite];cases r<;>simp|cons g gs=>cases R with|pair a b=>have h':=h;simp only[bX,z8]at h;obtain⟨⟨⟨⟨⟨h1,h2⟩,h3⟩,h4⟩,h5⟩,h6⟩:=h;simp only[mG]at hb;split at hb;(·rename_i p q hp hq;simp only[y5]at hb;(have hda:dep a≤d:=by simp only[dep]at hd;omega);(have hdb:dep b≤d:=by simp only[dep]at hd;omega);simp only[Ty.cells]at hx hy yF Nc;obtain⟨va,vb,hv,MD,Tw⟩:=yF;obtain⟨ua,ub,hu,hsa,hsb⟩:=Nc;(have split: ∀(zs:Array Value)(za zb:List Value),za.length=a.cells→zb.length=b.cells→(zs.toList.drop off).take (a.cells+b.cells)=za++zb→(zs.toList.drop off).take a.cells=za∧(zs.toList.drop (off+a.cells)).take b.cells=zb:=by intro zs za zb A5 hlb he;constructor;(·have:=congrArg (List.take a.cells) he;rw[List.take_take,Nat.min_eq_left v6,←A5,List.take_left]at this;rw[←A5];exact this);·have:=congrArg (List.drop a.cells) he;rw[List.drop_take,List.drop_drop,←A5,List.drop_left]at this;rw[←A5];rw[show za.length+b.cells-za.length=b.cells from by omega]at this;exact this);obtain⟨e1,e2⟩:=split xs va vb (bV _ _ _ _ _ MD) (bV _ _ _ _ _ Tw) hv;obtain⟨e3,e4⟩:=split ys ua ub (bV _ _ _ _ _ hsa) (bV _ _ _ _ _ hsb) hu;obtain⟨v,u,f1,f2,f3⟩:=one f a off x.1 y.1 p xs ys h1 h2 hc.1 hda v6 v6 (by rw[e1];exact MD) (by rw[e3];exact hsa) hp;have rest:=ihf b (off+a.cells) (by unfold bX;exact h6) hc.2 x.2 y.2 q xs ys hdb v6 v6 (by rw[e2];exact Tw) (by rw[e4];exact hsb) hq;(have hn:f.name≠ "_" :=by simpa using h5);rw[Op.eqFields];rw[if_pos hn];simp only[Sem.run_bind,f1,f2,f3,Result.andThen_ok,Sem.run_ite];subst hb;cases p;(·simp);·simpa using rest);(·cases hb)|_=>simp only[bX]at h;cases h
theorem Um(hE:aI E) {w:World} {M:Mem} {d:Nat} {e:Nat} {V:Ty} (hV:E.ty e=some V)(hc:wq E.ty E.cmp e=true)(hdV:dep V≤d)(ih: ∀(T:Ty)(t:Nat)(x y:T.den)(v u:Value)(r:Bool),cS E t T→mU E t T→dc T x w M v→dc T y w M u→mG T x y=some r→dep T≤d→(Op.equalIn (d+1) t v u).run E.P w= .ok r w): ∀(m k:Nat)(x y:(rowOf V (m+1)).den)(r:Bool)(xs ys:Array Value),(k+(m+1))*V.cells≤xs.size→(k+(m+1))*V.cells≤ys.size→aH (rowOf V (m+1)) x w M ((xs.toList.drop (k*V.cells)).take ((m+1)*V.cells))→aH (rowOf V (m+1)) y w M ((ys.toList.drop (k*V.cells)).take ((m+1)*V.cells))→mG (rowOf V (m+1)) x y=some r→(Op.eqItems (d+1) e V.cells xs ys (List.range' k (m+1))).run E.P w= .ok r w:=by
 have hf:=hE.facts hV;(have hk:mU E e V:=by unfold wq at hc;rw[hV]at hc;cases V<;>first|trivial|exact hc|cases hc);(have Jl: ∀(z:V.den)(vs:List Value),aH V z w M vs→dc V z w M (valOf V vs):=by intro z vs hr;have:=jn hf.val hr;have hv:=hf.val;cases V<;>first|exact this|cases hv)
 (have one: ∀(k:Nat)(x y:V.den)(r:Bool)(xs ys:Array Value),(k+1)*V.cells≤xs.size→(k+1)*V.cells≤ys.size→aH V x w M ((xs.toList.drop (k*V.cells)).take V.cells)→aH V y w M ((ys.toList.drop (k*V.cells)).take V.cells)→mG V x y=some r→ ∃v u,(Go.part e xs (k*V.cells)).run E.P w= .ok v w∧(Go.part e ys (k*V.cells)).run E.P w= .ok u w∧(Op.equalIn (d+1) e v u).run E.P w= .ok r w:=by intro k x y r xs ys hx hy yF Nc hb;rw[Nat.add_mul,Nat.one_mul]at hx hy;exact⟨_,_,lr hf hx,lr hf hy,ih V e x y _ _ r hf hk (Jl x _ yF) (Jl y _ Nc) hb hdV⟩)
 intro m;induction m with|zero=>intro k x y r xs ys hx hy yF Nc hb;simp only[Nat.zero_add,Nat.one_mul]at yF Nc;obtain⟨v,u,e1,e2,e3⟩:=one k x y r xs ys hx hy yF Nc hb;rw[List.range'_succ,List.range'_zero];simp only[Op.eqItems,Sem.run_bind,e1,e2,e3,Result.andThen_ok,Sem.run_ite];cases r<;>simp|succ m ihm=>intro k x y r xs ys hx hy yF Nc hb;simp only[rowOf,mG]at hb;split at hb;(·rename_i p q hp hq;simp only[y5]at hb;obtain⟨va,vb,hv,MD,Tw⟩:=yF;obtain⟨ua,ub,hu,hsa,hsb⟩:=Nc;have A5:=bV _ _ _ _ _ MD;have hlb:=bV _ _ _ _ _ Tw;have bQ4:=bV _ _ _ _ _ hsa;have bZ0:=bV _ _ _ _ _ hsb;(have split: ∀(zs:Array Value)(za zb:List Value),za.length=V.cells→(zs.toList.drop (k*V.cells)).take ((m+1+1)*V.cells)=za++zb→(zs.toList.drop (k*V.cells)).take V.cells=za∧(zs.toList.drop ((k+1)*V.cells)).take ((m+1)*V.cells)=zb:=by intro zs za zb A5 he;have hle:V.cells≤(m+1+1)*V.cells:=Nat.le_mul_of_pos_left _ v6;constructor;(·have:=congrArg (List.take V.cells) he;rw[List.take_take,Nat.min_eq_left hle,←A5,List.take_left]at this;rw[←A5];exact this);·have:=congrArg (List.drop V.cells) he;rw[List.drop_take,List.drop_drop,←A5,List.drop_left,A5]at this;rw[show(m+1+1)*V.cells-V.cells=(m+1)*V.cells from by rw[Nat.add_mul (m+1) 1];omega,show k*V.cells+V.cells=(k+1)*V.cells from by rw[Nat.add_mul,Nat.one_mul]]at this;exact this);obtain⟨e1,e2⟩:=split xs va vb A5 hv;obtain⟨e3,e4⟩:=split ys ua ub bQ4 hu;have hmul:(k+1)*V.cells≤(k+(m+1+1))*V.cells:=Nat.mul_le_mul_right _ v6;obtain⟨v,u,f1,f2,f3⟩:=one k x.1 y.1 p xs ys v6 v6 (by rw[e1];exact MD) (by rw[e3];exact hsa) hp;have rest:=ihm (k+1) x.2 y.2 q xs ys (by rw[show k+1+(m+1)=k+(m+1+1)from by omega];exact hx) (by rw[show k+1+(m+1)=k+(m+1+1)from by omega];exact hy) (by rw[e2];exact Tw) (by rw[e4];exact hsb) hq;rw[List.range'_succ];simp only[Op.eqItems,Sem.run_bind,f1,f2,f3,Result.andThen_ok,Sem.run_ite];subst hb;cases p;(·simp);·simpa using rest);·cases hb
theorem Un(hE:aI E) {w:World} {M:Mem} : ∀(d:Nat)(T:Ty)(t:Nat)(x y:T.den)(v u:Value)(r:Bool),cS E t T→mU E t T→dc T x w M v→dc T y w M u→mG T x y=some r→dep T≤d→(Op.equalIn (d+1) t v u).run E.P w= .ok r w:=by
 intro d;induction d with|zero=>intro T t x y v u r hf hk hv hu hb hd;(cases T with|int k=>obtain⟨hv,_⟩:=hv;injection hv with hv;subst hv;obtain⟨hu,_⟩:=hu;injection hu with hu;subst hu;obtain⟨dd,hu,hs⟩:=hf.sZ;(cases dd<;>first|cases hs|skip);rename_i k';simp only[mG,y5]at hb;subst hb;rw[run_equalIn_int _ _ _ _ _ _ _ hu];rfl|bool=>obtain⟨rfl⟩:=hv;obtain⟨rfl⟩:=hu;obtain⟨dd,hu,hs⟩:=hf.sZ;(have tv:dd= .bool:=by cases dd<;>first|rfl|cases hs);subst tv;simp only[mG,y5]at hb;subst hb;exact run_equalIn_bool' _ _ _ _ _ hu|str=>obtain⟨hv,_⟩:=hv;injection hv with hv;subst hv;obtain⟨hu,_⟩:=hu;injection hu with hu;subst hu;obtain⟨dd,hu,hs⟩:=hf.sZ;(have tv:dd= .string:=by cases dd<;>first|rfl|cases hs);subst tv;simp only[mG,y5]at hb;subst hb;rw[run_equalIn_string _ _ _ _ _ hu,toList_mk,toList_mk];(have e:(x==y)=decide (x=y):=by rw[Bool.eq_iff_iff];simp);rw[e]|st R=>simp only[dep]at hd;omega|_=>cases hk)|succ d ih=>intro T t x y v u r hf hk hv hu hb hd;cases T with|int k=>obtain⟨hv,_⟩:=hv;injection hv with hv;subst hv;obtain⟨hu,_⟩:=hu;injection hu with hu;subst hu;obtain⟨dd,hu,hs⟩:=hf.sZ;(cases dd<;>first|cases hs|skip);rename_i k';simp only[mG,y5]at hb;subst hb;rw[run_equalIn_int _ _ _ _ _ _ _ hu];rfl|bool=>obtain⟨rfl⟩:=hv;obtain⟨rfl⟩:=hu;obtain⟨dd,hu,hs⟩:=hf.sZ;(have tv:dd= .bool:=by cases dd<;>first|rfl|cases hs);subst tv;simp only[mG,y5]at hb;subst hb;exact run_equalIn_bool' _ _ _ _ _ hu|str=>obtain⟨hv,_⟩:=hv;injection hv with hv;subst hv;obtain⟨hu,_⟩:=hu;injection hu with hu;subst hu;obtain⟨dd,hu,hs⟩:=hf.sZ;(have tv:dd= .string:=by cases dd<;>first|rfl|cases hs);subst tv;simp only[mG,y5]at hb;subst hb;rw[run_equalIn_string _ _ _ _ _ hu,toList_mk,toList_mk];(have e:(x==y)=decide (x=y):=by rw[Bool.eq_iff_iff];simp);rw[e]|st R=>obtain⟨⟨R',hT'⟩,_,Ct⟩:=yE hE hk;obtain⟨vs,rfl,Jl⟩:=hv;obtain⟨us,rfl,hru⟩:=hu;rcases Ct with⟨fs,Nd,aZ5,cw⟩|⟨m,e,Nd,aZ5⟩;(case inr=>rcases hf.agg hE with⟨fs,Cu,_⟩|⟨m',e',V,Cu,hV,rfl,hVv,hV1,hm⟩;(·rw[Nd]at Cu;cases Cu);·rw[Nd]at Cu;injection Cu with Cu;injection Cu with h1 h2;subst h1;subst h2;obtain⟨i,hi,cY,_⟩:=(hE.facts hV).info;(have fA:E.P.cellsOf e=V.cells:=by simp[Program.cellsOf,hi,cY]);rw[run_equalIn_array w (d+1) vs.toArray us.toArray Nd hi,fA,List.range_eq_range'];obtain⟨m,rfl⟩: ∃k,m=k+1:=⟨m-1,v6⟩;(have hlen: ∀(V:Ty)(k:Nat),(rowOf V k).cells=k*V.cells:=by intro V k;induction k with|zero=>simp[rowOf,Ty.cells]|succ k ih=>cases k with|zero=>simp[rowOf]|succ k=>simp only[rowOf,Ty.cells,ih,Nat.add_mul];omega);(have RC: ∀(V:Ty)(k:Nat),dep V≤dep (rowOf V (k+1)):=by intro V k;cases k with|zero=>exact x8|succ k=>simp only[rowOf,dep];omega);have l1:=bV _ _ _ _ _ Jl;have l2:=bV _ _ _ _ _ hru;rw[hlen]at l1 l2;have Ad:=RC V m;simp only[dep]at hd;refine Um hE hV aZ5 v6 ih m 0 x y r vs.toArray us.toArray (by simp[l1]) (by simp[l2]) ?_ ?_ hb;(·simpa[wt (Nat.le_of_eq l1)]using Jl);·simpa[wt (Nat.le_of_eq l2)]using hru);(have ZM:E.P.fieldsOf t=fs:=by simp[Program.fieldsOf,Nd]);(have dy:bX E.ty fs.toList R 0=true:=by obtain⟨dd,Pb,hs⟩:=hf.sZ;rw[Nd]at Pb;injection Pb with Pb;subst Pb;exact hs);rw[run_equalIn_struct w (d+1) t vs.toArray us.toArray (by rw[ZM];exact Nd) cw,ZM];have l1:=bV _ _ _ _ _ Jl;have l2:=bV _ _ _ _ _ hru;refine RB hE ih fs.toList R 0 dy aZ5 x y r vs.toArray us.toArray (by simp only[dep]at hd;omega) (by simp[l1]) (by simp[l2]) ?_ ?_ hb;(·simpa[wt (Nat.le_of_eq l1)]using Jl);(·simpa[wt (Nat.le_of_eq l2)]using hru)|_=>cases hk
theorem A6 {P:Program} (w:World)(d:Nat) {t e:TypeId} (x:Option Addr)(hu:P.underlying t=some (.pointer e)):(Op.equalIn (d+1) t (.pointer x) (.pointer none)).run P w= .ok x.isNone w:=by
 unfold Op.equalIn;cases x<;>simp[run_underlying hu]
theorem Uo(hE:aI E) {n:Nat} {w0:World} {S0:Cx} {s:St} {a:Act} {w:World} {ν:Nat→Value} {S:Nat→Prop} {F:dI} (h:Full n w0 S0 s a w ν S) {t:Nat} {neg:Bool} {p q:PV} {v u:Value} {xo yo:Operand} {Kl:Out→Prop} (hp:ag h.c p v)(hq:ag h.c q u)(ab:aZ E (rC E F s.bl t neg p q) Kl): ∃r v',Kl (.val r)∧ag h.c r v'∧(do eqGuard (if neg then .neq else .eql) t xo yo v u;binOp (if neg then .neq else .eql) t v u:Go.Sem Value).run E.P w= .ok v' w:=by
 unfold rC at ab;split at ab;(·rename_i T hT;split at ab;(·rename_i r yk;unfold MS at yk;split at yk;(case h_2=>cases yk);rename_i U;split at yk;(case h_2=>cases yk);obtain⟨dd,Nf,hs⟩:=(hE.facts hT).sZ;(obtain⟨e,rfl⟩: ∃e,dd= .pointer e:=by cases dd<;>first|exact⟨_,rfl⟩|cases hs);simp only[ag]at hq;subst hq;(have fin: ∀(ad:Option Addr),v= .pointer ad→r=ad.isNone→ ∃r v',Kl (.val r)∧ag h.c r v'∧(do eqGuard (if neg then .neq else .eql) t xo yo v (.pointer none);binOp (if neg then .neq else .eql) t v (.pointer none):Go.Sem Value).run E.P w= .ok v' w:=by intro ad hv hr;subst hv;subst hr;have he:=A6 (P:=E.P) w 9999 ad Nf;refine⟨_,.bool (jK neg ad.isNone),ab,bM,?_⟩;cases neg<;>simp[eqGuard,binOp,Op.equal,Op.maxDepth,he,jK]);split at yk;(·simp only[ag]at hp;injection yk with yk;exact fin none hp yk.symm);(·simp only[ag,ra,dc,aH]at hp;obtain⟨_,g,ob,cs,hv,_⟩:=hp;simp only[List.cons.injEq,and_true]at hv;injection yk with yk;exact fin _ hv yk.symm);(·simp only[ag]at hp;obtain⟨_,g,ob,cs,hv,_⟩:=hp;injection yk with yk;exact fin _ hv yk.symm);(·simp only[ag]at hp;obtain⟨_,g,_,hv⟩:=hp;injection yk with yk;exact fin _ hv yk.symm);·cases yk);split at ab;(·rename_i x y hx hy Up;split at ab;(·rename_i r hb;have hf:=hE.facts hT;have hR:Reads F s h.c ⟨fun b=>S b∨b<w.heap.size,aJ w0 S0⟩:=⟨rfl,h.W.cD,fun b hb=>.inl hb,fun id _⟨b,hb⟩g hg=>.inr (h.iF hb hg).2.2⟩;have hv:=gC hR (.inl hf.own) hx hp;have hu:=gC hR (.inl hf.own) hy hq;cases T with|bool=>obtain⟨Ub⟩:=hv;obtain⟨jO⟩:=hu;obtain⟨dd,Nf,hs⟩:=hf.sZ;(have tv:dd= .bool:=by cases dd<;>first|rfl|cases hs);subst tv;simp only[mG,y5]at hb;subst hb;have he:=run_equalIn_bool' (P:=E.P) w 9999 t x y Nf;refine⟨_,_,ab,bM,?_⟩;cases neg;(·simp only[Bool.false_eq_true,if_false,Sem.run_bind,wF,Result.andThen_ok,binOp,Op.equal,Op.maxDepth,he,Sem.run_pure,jK]);(·simp only[if_true,Sem.run_bind,wF,Result.andThen_ok,binOp,Op.equal,Op.maxDepth,he,Sem.run_pure,jK])|st R=>simp only[TT,z8]at Up;obtain⟨_,Pj,_⟩:=yE hE Up.1;have RC:=Nat.le_of_ble_eq_true Up.2;have he:(Op.equalIn 10000 t v u).run E.P w= .ok r w:=Un hE 9999 (.st R) t x y v u r hf Up.1 hv hu hb (by simp only[dep];omega);obtain⟨vs,rfl,_⟩:=hv;obtain⟨us,rfl,_⟩:=hu;refine⟨_,_,ab,bM,?_⟩;cases neg;(·simp only[Bool.false_eq_true,if_false,Sem.run_bind,run_eqGuard_agg (P:=E.P) w _ t xo yo _ _ Pj,Result.andThen_ok,run_eql_struct,he,jK]);(·simp only[if_true,Sem.run_bind,run_eqGuard_agg (P:=E.P) w _ t xo yo _ _ Pj,Result.andThen_ok,run_neq_struct,he,jK])|_=>cases Up);·exact ab.elim);·exact ab.elim)
 ·exact ab.elim
end
end
section
variable {en:Prop} [lj en]
open Go.RowKit
section
variable {E:Env} {n:Nat} {w0:World} {S0:Cx} {s:St} {a:Act} {w:World} {ν:Nat→Value} {S:Nat→Prop} {F:dI} {o:Oper} {K:St→Prop} {Q:Exit→Act→World→Prop}
theorem wH {P:Program} (w:World)(d:Nat) {t e:TypeId} (aa:Option Addr)(m cap:Nat)(hu:P.underlying t=some (.slice e)):(Op.equalIn (d+1) t (.slice aa m cap) (.slice none 0 0)).run P w= .ok aa.isNone w:=by
 unfold Op.equalIn;cases aa<;>simp[run_underlying hu]
theorem Uq(hE:aI E)(h:Full n w0 S0 s a w ν S)(ho:bL n o=true) {op:BinOp} {t:Nat} {x y:Operand} {t2:Nat} (aK:o.op= .binOp op t x y t2)(ab:aZ E (aq E F s o) (fun l=>K (s.fin o.dst l))):o.wp E.P a w (fun a' w'=> ∃s',K s'∧Rel n w0 S0 s' a' w') Q:=by
 simp only[aq,aK]at ab;have hx:=h.ev (aA ho (x:=x) (by simp[aK,Op.operands]));have hy:=h.ev (aA ho (x:=y) (by simp[aK,Op.operands]));(have fin: ∀(p:PV)(v:Value),K (s.fin o.dst (.val p))→ag h.c p v→(do eqGuard op t x y (a.eval x) (a.eval y);binOp op t (a.eval x) (a.eval y):Go.Sem Value).run E.P w= .ok v w→o.wp E.P a w (fun a' w'=> ∃s',K s'∧Rel n w0 S0 s' a' w') Q:=by intro p v hK hp hr;refine h.val ho (v:=v) ?_ hp hK;simp only[execOp,aK];rw[Sem.run_bind,hr];simp only[Result.andThen_ok,Sem.run_pure])
 (have bA3: ∀(neg:Bool)(oo:Out),op=(if neg then .neq else .eql)→pU E F t neg (s.ev x) (s.ev y)=some oo→aZ E oo (fun l=>K (s.fin o.dst l))→o.wp E.P a w (fun a' w'=> ∃s',K s'∧Rel n w0 S0 s' a' w') Q:=by intro neg oo RD hn hK;unfold pU at hn;split at hn;(case h_3=>cases hn);(case h_2=>rename_i HF;rw[HF]at hy;simp only[ag]at hy;split at hn;(case h_2=>cases hn);rename_i A B hT;(obtain⟨kt,vt,hu⟩: ∃k v,E.P.underlying t=some (.map k v):=by obtain⟨d,hu,hs⟩:=(hE.facts hT).sZ;cases d with|map k v=>exact⟨k,v,hu⟩|_=>simp only[di]at hs;cases hs);(have aT: ∀(m:Option Nat),a.eval x= .map m→(do eqGuard op t x y (a.eval x) (a.eval y);binOp op t (a.eval x) (a.eval y):Go.Sem Value).run E.P w= .ok (.bool (jK neg m.isNone)) w:=by intro m hv;rw[hv,hy,RD];(have he:(Op.equalIn 10000 t (.map m) (.map none)).run E.P w= .ok m.isNone w:=by unfold Op.equalIn;cases m<;>simp[run_underlying hu]);cases neg<;>simp[eqGuard,binOp,Op.equal,Op.maxDepth,he,jK]);split at hn;(·rename_i uP;injection hn with hn;subst hn;rw[uP]at hx;simp only[ag]at hx;obtain⟨_,_,r,hv⟩:=hx;exact fin _ _ hK bM (aT (some r) hv));(·rename_i uP;injection hn with hn;subst hn;rw[uP]at hx;simp only[ag]at hx;exact fin _ _ hK bM (aT none hx));·cases hn);rename_i HF;rw[HF]at hy;simp only[ag]at hy;split at hn;(case h_2=>cases hn);rename_i U hT;obtain⟨e,hu,_⟩:=(hE.facts hT).elem hE;(have aT: ∀(aa:Option Addr)(m cap:Nat),a.eval x= .slice aa m cap→(do eqGuard op t x y (a.eval x) (a.eval y);binOp op t (a.eval x) (a.eval y):Go.Sem Value).run E.P w= .ok (.bool (jK neg aa.isNone)) w:=by intro aa m cap hv;rw[hv,hy,RD];have he:=wH (P:=E.P) w 9999 aa m cap hu;cases neg<;>simp[eqGuard,binOp,Op.equal,Op.maxDepth,he,jK]);split at hn;(·rename_i V xs uP;injection hn with hn;subst hn;rw[uP]at hx;simp only[ag]at hx;obtain⟨_,aa,cap,hv,hle,ud,cZ⟩:=hx;injection hv with hv;refine fin _ _ (hK (jK neg aa.isNone) (fun hb=>?_)) bM (aT _ _ _ hv);rcases cZ with rfl|⟨g,ob,rfl,_⟩;(·rfl);·cases neg<;>simp[jK]at hb);(·rename_i uP;injection hn with hn;subst hn;rw[uP]at hx;simp only[ag]at hx;exact fin _ _ hK bM (aT none 0 0 hx));·cases hn)
 split at ab;(·rename_i oo hn;unfold rD at hn;split at hn;(·exact bA3 false oo rfl hn ab);(·exact bA3 true oo rfl hn ab);·cases hn);simp only[BZ]at ab;split at ab
 (·rename_i k m l m' uP HF;rw[uP]at hx;rw[HF]at hy;obtain⟨MG,yF⟩:=bp hx;obtain⟨TC,Nc⟩:=bp hy;split at ab;(·obtain⟨p,v,hK,hp,hr⟩:=RA (c:=h.c) (l:=l) (t:=t) (w:=w) yF ab;refine fin p v hK hp ?_;simp only[MG,TC,Sem.run_bind,nM,Result.andThen_ok,hr]);·split at ab;(·rename_i hk;have yl:=eU hk;subst yl;split at ab;(·rename_i Jm;(have RD:op= .rem:=by simp only[z8]at Jm;cases op<;>first|rfl|exact absurd Jm.2 (by decide));subst RD;obtain⟨h0,hK⟩:=ab;change Int at m;change Int at m';have h0:(0:Int)<m':=h0;(have hq:k.min≤Int.tmod m m'∧Int.tmod m m'≤k.max:=by have hmn:=lu k;have hmx:=rW k;rcases Int.le_total 0 m with hm|hm;(·rw[Int.tmod_eq_emod_of_nonneg hm];have e1:0≤m%m':=Int.emod_nonneg _ v6;have e2:m%m'<m':=Int.emod_lt_of_pos _ h0;omega);·obtain⟨q,rfl⟩: ∃q,m= -q:=⟨-m,v6⟩;rw[Int.neg_tmod,Int.tmod_eq_emod_of_nonneg v6];have e1:0≤q%m':=Int.emod_nonneg _ v6;(have e2:q%m'≤q:=by rcases Int.lt_or_le q m' with h'|h';(·rw[Int.emod_eq_of_lt v6 h'];exact Int.le_refl _);·have:=Int.emod_lt_of_pos q h0;omega);omega);refine fin _ (.int k (Int.tmod m m')) hK (cj hq) ?_;simp only[MG,TC,Sem.run_bind,nM,Result.andThen_ok,binOp,ne_eq,not_true_eq_false,if_false,Op.intDiv];rw[if_neg v6];rfl);split at ab;(·rename_i Jm;(have RD:op= .quo:=by simp only[z8]at Jm;cases op<;>first|rfl|exact absurd Jm.2 (by decide));subst RD;obtain⟨h0,hK⟩:=ab;change Int at m;change Int at m';have h0:(0:Int)<m':=h0;(have hq:k.min≤Int.tdiv m m'∧Int.tdiv m m'≤k.max:=by have hmn:=lu k;have hmx:=rW k;rcases Int.le_total 0 m with hm|hm;(·rw[Int.tdiv_eq_ediv_of_nonneg hm];have e1:0≤m/m':=Int.ediv_nonneg hm v6;have e2:m/m'≤m:=Int.ediv_le_self m' hm;omega);·obtain⟨q,rfl⟩: ∃q,m= -q:=⟨-m,v6⟩;rw[Int.neg_tdiv,Int.tdiv_eq_ediv_of_nonneg v6];have e1:0≤q/m':=Int.ediv_nonneg v6 v6;have e2:q/m'≤q:=Int.ediv_le_self m' v6;omega);refine fin _ (.int k (Int.tdiv m m')) hK (cj hq) ?_;simp only[MG,TC,Sem.run_bind,nM,Result.andThen_ok,binOp,ne_eq,not_true_eq_false,if_false,Op.intDiv];rw[if_neg v6,lg k hq];rfl);·obtain⟨p,v,hK,hp,hr⟩:=ab0 (c:=h.c) (t:=t) (w:=w) yF Nc ab;refine fin p v hK hp ?_;simp only[MG,TC,Sem.run_bind,nM,Result.andThen_ok,hr]);·exact ab.elim)
 (·rename_i m m' uP HF;rw[uP]at hx;rw[HF]at hy;obtain⟨MG,yF⟩:=eY hx;obtain⟨TC,Nc⟩:=eY hy;obtain⟨p,v,hK,hp,hr⟩:=ab1 (c:=h.c) (t:=t) (w:=w) ab;refine fin p v hK hp ?_;simp only[MG,TC,Sem.run_bind,JR,Result.andThen_ok,hr])
 ·split at ab;(·obtain⟨r,v',hK,hr,aT⟩:=Uo hE h (neg:=false) (xo:=x) (yo:=y) hx hy ab;exact fin r v' hK hr aT);(·obtain⟨r,v',hK,hr,aT⟩:=Uo hE h (neg:=true) (xo:=x) (yo:=y) hx hy ab;exact fin r v' hK hr aT);·exact ab.elim
theorem ab2(h:Full n w0 S0 s a w ν S)(ho:bL n o=true) {op:UnOp} {t:Nat} {x:Operand} (aK:o.op= .unOp op t x)(ab:aZ E (aq E F s o) (fun l=>K (s.fin o.dst l))):o.wp E.P a w (fun a' w'=> ∃s',K s'∧Rel n w0 S0 s' a' w') Q:=by
 simp only[aq,aK]at ab;have hx:=h.ev (aA ho (x:=x) (by simp[aK,Op.operands]));split at ab;(·rename_i b cg;rw[cg]at hx;have hv:=lb hx;refine h.val ho ?_ bM ab;simp[execOp,aK,hv,Op.unary])
 (·rename_i k m cg;rw[cg]at hx;obtain⟨hv,_⟩:=bp hx;obtain⟨hr,hK⟩:=ab;refine h.val ho ?_ (cj hr) hK;simp only[execOp,aK,hv,Op.unary,Op.intArith,Sem.run_bind,Sem.run_pure,Result.andThen_ok,lg k hr])
 (·rename_i k m cg;rw[cg]at hx;obtain⟨hv,_⟩:=bp hx;cases k<;>first|exact ab.elim|(obtain⟨hr,hK⟩:=ab;change Int at m;have hr:(0:Int)≤m∧m≤255:=hr;(have pQ:IntKind.u8.min≤(255-m:Int)∧(255-m:Int)≤IntKind.u8.max:=by show(0:Int)≤_∧_≤(255:Int);omega);refine h.val ho ?_ (cj pQ) hK;(have e1:(BitVec.ofInt 8 255 ^^^ BitVec.ofInt 8 m).toNat=(255-m).toNat:=by(have e2:BitVec.ofInt 8 255=BitVec.allOnes 8:=by decide);have e4:(BitVec.ofInt 8 m).toNat=m.toNat:=hZ .u8 hr.1 hr.2;rw[e2,BitVec.allOnes_xor,BitVec.toNat_not,e4];omega);(have e3:(IntKind.u8.wrap ((BitVec.ofInt 8 255 ^^^ BitVec.ofInt 8 m).toNat:Int))=255-m:=by rw[e1,lg .u8 (by show(0:Int)≤_∧_≤(255:Int);omega)];omega);simp only[execOp,aK,hv,Op.unary,Op.intBits,Sem.run_bind,Sem.run_pure,Result.andThen_ok];exact congrArg (fun z=>Result.ok (Next.value (Value.int .u8 z)) w) e3))
 ·exact ab.elim
theorem RE {k l:IntKind} (h:widens k l=true) {x:Int} (hx:k.min≤x∧x≤k.max):l.min≤x∧x≤l.max:=by
 cases k<;>cases l<;>first|(simp[IntKind.min,IntKind.max,IntKind.signed,IntKind.bits]at*;omega)|cases h
theorem wI {w:World} {M:Mem} : ∀(xs:List Int)(vs:List Value),(∀i y,xs[i]?=some y→aH (.int .u8) y w M ((vs.drop i).take 1))→vs.length=xs.length→vs=xs.map (Value.int .u8)|[],vs,_,hl=>(by simpa using hl)|x::xs,[],_,hl=>(by simp at hl)|x::xs,v::vs,h,hl=>by obtain⟨h0,_⟩:=h 0 x rfl;simp at h0;subst h0;have:=wI xs vs (fun i y hy=>by simpa using h (i+1) y (by simpa using hy)) (by simpa using hl);rw[this];rfl
theorem Source.aT4 {T:Ty} {xs:List T.den} {w:World} {M:Mem} {a:Option Addr} {len cap:Nat} (h:aH (.sl T) xs w M [.slice a len cap]):len=xs.length∧ ∃news,Source w T.cells a xs.length news∧ ∀i y,xs[i]?=some y→aH T y w M ((news.drop (i*T.cells)).take T.cells):=by
 obtain⟨a',rJ,hv,h1,h2,h3⟩:=h;injection hv with hv;injection hv with e1 e2 e3;subst e1;refine⟨e2,?_⟩;rcases h3 with rfl|⟨g,ob,rfl,hS,gq⟩;(·exact⟨[],⟨by simp,.inl rfl,by simp⟩,fun i y hy=>by simp at hy⟩)
 ·obtain⟨vs,hl,hc,Cm,hr⟩:=ti xs gq;exact⟨vs,⟨hl,.inr ⟨_,rfl,fun j u hj=>by rw[eX];exact hc j u hj⟩,Cm⟩,hr⟩
theorem Full.content(h:Full n w0 S0 s a w ν S) {T:Ty} {p:PV} {xs:List T.den} {v:Value} (nB:aR T=0)(hx:jI F s.bl T p=some xs)(hp:ag h.c p v): ∃aa c news,v= .slice aa xs.length c∧Source w T.cells aa xs.length news∧ ∀i y,xs[i]?=some y→aH T y w ⟨S,aJ w0 S0⟩ ((news.drop (i*T.cells)).take T.cells):=by
 (have own: ∀(id:Nat)(U:Ty)(ys:List U.den)(te:Option Nat),look id s.bl=some (.arr U ys te)→ ∀aa len cap,ν id= .slice aa len cap→len=ys.length∧ ∃news,Source w U.cells aa ys.length news∧ ∀i y,ys[i]?=some y→aH U y w ⟨S,aJ w0 S0⟩ ((news.drop (i*U.cells)).take U.cells):=by intro id U ys te hl aa len cap cE;obtain⟨kd,wk,u,hu,Ue,cZ⟩:=h.W.cD _ _ hl;simp only[List.cons.injEq,and_true]at hu;rw[cE]at hu;subst hu;rcases cZ with⟨hn,rfl⟩|⟨g,ob,rJ,cur,e,tp,hle,hcm,vW,hB,hh,ue,gq⟩;(·injection hn with e1 e2 e3;subst e1;subst e2;exact⟨rfl,[],⟨by simp,.inl rfl,by simp⟩,fun i y hy=>by simp at hy⟩);·injection tp with e1 e2 e3;subst e1;obtain⟨vs,ZK,hc,Cm,hr⟩:=ti ys gq;exact⟨e2,vs,⟨ZK,.inr ⟨_,rfl,fun j u hj=>by rw[eX];exact hc j u hj⟩,Cm⟩,hr⟩)
 cases p with|iv U y=>simp only[jI]at hx;obtain⟨e,hx⟩:=Ty.bE hx;subst e;simp only at hx;subst hx;simp only[ag]at hp;have dL:aH (.sl T) y w ⟨S,aJ w0 S0⟩ [v]:=hp.2;obtain⟨aa,cap,hv,mN⟩:=dL;injection hv with hv;obtain⟨_,news,h1,h2⟩:=Source.aT4 (h:=(by rw[←hv];exact hp.2:aH (.sl T) y w ⟨S,aJ w0 S0⟩ [.slice aa (List.length y) cap]));exact⟨aa,cap,news,hv,h1,h2⟩|aB id=>simp only[jI]at hx;split at hx;(·rename_i U ys te hl;obtain⟨hl,_⟩:=cM hl;obtain⟨e,hx⟩:=Ty.bE hx;injection e with e;subst e;simp only at hx;subst hx;simp only[ag]at hp;obtain⟨hd,cE,aa,len,cap,hv⟩:=hp;simp only[Full.c]at cE;obtain⟨hlen,news,h1,h2⟩:=own id _ _ _ hl aa len cap (by rw[←cE,hv]);subst hlen;exact⟨aa,cap,news,hv,h1,h2⟩);(·cases hx)|ll id sz off len=>simp only[jI]at hx;split at hx;(·rename_i U ys te hl;obtain⟨hl,_⟩:=cM hl;split at hx;(case h_2=>cases hx);rename_i cY;have cY:=y6 cY;obtain⟨e,hx⟩:=Ty.bE hx;injection e with e;subst e;simp only at hx;subst hx;simp only[ag]at hp;obtain⟨hd,aa,m,cap,b,cE,hn,ud,hv,hb⟩:=hp;obtain⟨hlen,news,h1,h2⟩:=own id _ _ _ hl aa m cap cE;subst hlen;(have EV:((ys.drop off).take len).length=len:=by simp;omega);refine⟨b,cap-off,(news.drop (off*U.cells)).take (len*U.cells),by rw[EV];exact hv,⟨?_,?_,fun u hu=>h1.one u (List.mem_of_mem_drop (List.mem_of_mem_take hu))⟩,fun i y hy=>?_⟩;(·rw[EV,List.length_take,List.length_drop,h1.len];(have:off*U.cells+len*U.cells≤ys.length*U.cells:=by rw[←Nat.add_mul];exact Nat.mul_le_mul_right _ hn);omega);(·rw[EV];by_cases hz:len=0;(·exact .inl hz);·right;obtain⟨g,ob,ha,jf⟩:=hb v6;rcases h1.cells with h0|⟨ad,had,hc⟩;(·omega);·rw[ha]at had;injection had with had;subst had;refine⟨_,jf,fun j u hj=>?_⟩;(have ZL:j<len*U.cells:=by rcases Nat.lt_or_ge j (len*U.cells)with h'|h';(·exact h');·rw[List.getElem?_eq_none (by rw[List.length_take];omega)]at hj;cases hj);rw[List.getElem?_take,if_pos ZL,List.getElem?_drop]at hj;have:=hc _ u hj;rw[eX]at this⊢;rw[cY,Nat.add_assoc];exact this);·(have hi:i<len:=by rcases Nat.lt_or_ge i len with h'|h';(·exact h');·rw[List.getElem?_eq_none v6]at hy;cases hy);rw[List.getElem?_take,if_pos hi,List.getElem?_drop]at hy;have:=h2 _ y hy;rw[List.drop_take,List.drop_drop,List.take_take];(have e1:off*U.cells+i*U.cells=(off+i)*U.cells:=by rw[Nat.add_mul]);(have e2:U.cells≤len*U.cells-i*U.cells:=by have:(i+1)*U.cells≤len*U.cells:=Nat.mul_le_mul_right _ hi;rw[Nat.add_mul]at this;omega);rw[e1,Nat.min_eq_left e2];exact this);(·cases hx)|clip U y=>simp only[jI]at hx;obtain⟨e,hx⟩:=Ty.bE hx;injection e with e;subst e;simp only at hx;subst hx;simp only[ag]at hp;obtain⟨_,⟨aa,m,rfl⟩,dL⟩:=hp;obtain⟨hlen,news,h1,h2⟩:=Source.aT4 (h:=(dL:aH (.sl U) y w ⟨S,aJ w0 S0⟩ [.slice aa m m]));subst hlen;exact⟨aa,_,news,rfl,h1,h2⟩|bO=>simp only[jI,y5]at hx;subst hx;simp only[ag]at hp;exact⟨none,0,[],hp,⟨by simp,.inl rfl,by simp⟩,fun i y hy=>by simp at hy⟩|_=>simp only[jI]at hx;cases hx
theorem Ng(hE:aI E)(h:Full n w0 S0 s a w ν S)(ho:bL n o=true) {t1 t:Nat} {x:Operand} (aK:o.op= .convert t1 t x)(ab:aZ E (aq E F s o) (fun l=>K (s.fin o.dst l))):o.wp E.P a w (fun a' w'=> ∃s',K s'∧Rel n w0 S0 s' a' w') Q:=by
 simp only[aq,aK,uq]at ab;have hx:=h.ev (aA ho (x:=x) (by simp[aK,Op.operands]));split at ab;(·rename_i k0 l hT1 hT;obtain⟨d1,T8,Nh⟩:=(hE.facts hT1).sZ;obtain⟨d2,Nf,tq⟩:=(hE.facts hT).sZ;(have ug:d2= .int l:=by(cases d2<;>first|cases tq|skip);rename_i k';rw[eU tq]);subst ug;split at ab;(·rename_i k m cg;rw[cg]at hx;obtain⟨hv,hr⟩:=bp hx;(have aT:(execOp a.eval o).run E.P w= .ok (.value (.int l (l.wrap m))) w:=by simp[execOp,aK,hv,convert,run_underlying T8,run_underlying Nf,Conv.intToInt]);split at ab;(·rename_i hw;have kF:=RE hw hr;rw[lg l kF]at aT;exact h.val ho aT (cj kF) ab);·exact h.val ho aT (cj (wrap_within l m)) ab);·exact ab.elim)
 (·rename_i hT1 hT;obtain⟨d1,T8,Nh⟩:=(hE.facts hT1).sZ;obtain⟨d2,Nf,tq⟩:=(hE.facts hT).sZ;(have ug:d2= .string:=by cases d2<;>first|rfl|cases tq);subst ug;(have Ad:d1= .string:=by cases d1<;>first|rfl|cases Nh);subst Ad;split at ab;(·rename_i y cg;rw[cg]at hx;obtain⟨hv,hr⟩:=eY hx;refine h.val ho ?_ (rS hr) ab;simp[execOp,aK,hv,convert,run_underlying T8,run_underlying Nf]);·exact ab.elim)
 (·rename_i k hT1 hT;split at ab;(·rename_i xs hk ET;have hk:=eU hk;subst hk;obtain⟨e,T8,he,rQ,_⟩:=(hE.facts hT1).elem hE;obtain⟨d2,Nf,tq⟩:=(hE.facts hT).sZ;(have ug:d2= .string:=by cases d2<;>first|rfl|cases tq);subst ug;obtain⟨d3,hu3,hs3⟩:=rQ.sZ;(have hd3:d3= .int .u8:=by(cases d3<;>first|cases hs3|skip);rename_i k';rw[eU hs3]);subst hd3;obtain⟨aa,c,news,hv,mV,dL⟩:=h.content (T:=.int .u8) rfl ET hx;have bA4:=wI (M:=⟨S,aJ w0 S0⟩) (w:=w) xs news (fun i y hy=>by simpa[Ty.cells]using dL i y hy) (by simpa[Ty.cells]using mV.len);(have EV:xs.length≤9223372036854775807:=by have hR:Reads F s h.c ⟨fun b=>S b∨b<w.heap.size,aJ w0 S0⟩:=⟨rfl,h.W.cD,fun b hb=>.inl hb,fun id _⟨b,hb⟩g hg=>.inr (h.iF hb hg).2.2⟩;exact(gO _ _ _ _ _ (Jx hR ET hx)).1);refine h.val ho (v:=.string ⟨(xs.map fun n:Int=>UInt8.ofNat n.toNat).toArray⟩) ?_ (rS (by simpa using EV)) ab;(have bA5:(convert t1 t (a.eval x)).run E.P w= .ok (.string ⟨(xs.map fun n:Int=>UInt8.ofNat n.toNat).toArray⟩) w:=by rw[hv];rcases mV.cells with h0|⟨ad,rfl,hc⟩;(·have hxe:xs=[]:=List.eq_nil_of_length_eq_zero h0;subst hxe;cases aa with|none=>exact run_convert_bytes_nil w t1 e T8 hu3 _ _ t Nf|some ad=>rw[run_convert_bytes_string w t1 t e _ _ _ T8 hu3 Nf];simp[Conv.bytesToString,loadCells,loadCellsFrom];rfl);·rw[run_convert_bytes_string w t1 t e _ _ _ T8 hu3 Nf];have hl:=run_loadCells_list (P:=E.P) w ad news hc;rw[bA4,List.length_map]at hl;rw[run_bytesToString w ad xs.length c xs hl,foldl_push_bytes];simp[ByteArray.empty,ByteArray.emptyWithCapacity];rfl);simp only[execOp,aK,Sem.run_bind,bA5,Result.andThen_ok,Sem.run_pure]);·exact ab.elim)
 ·exact ab.elim
theorem rX {w:World} {M:Mem} : ∀(T:Ty)(vs:List Value),T.O2=true→dM T=some vs→aH T (er T) w M vs:=by
 intro T;induction T with|unit=>intro vs _ h;simp only[dM,y5]at h;subst h;rfl|int k=>intro vs _ h;simp only[dM,y5]at h;subst h;exact⟨rfl,lu k,rW k⟩|bool=>intro vs _ h;simp only[dM,y5]at h;subst h;rfl|str=>intro vs _ h;simp only[dM,y5]at h;subst h;exact⟨rfl,by simp[er]⟩|sl t=>intro vs _ h;simp only[dM,y5]at h;subst h;exact⟨none,0,rfl,x8,v6,.inl rfl⟩|own t=>intro vs hz h;cases hz|bG a b=>intro vs hz h;cases hz|ptr t=>intro vs hz h;cases hz|iO f t=>intro vs hz h;cases hz|mp a b=>intro vs _ h;simp only[dM,y5]at h;subst h;exact⟨by simp[er],.inl ⟨rfl,rfl⟩⟩|aL=>intro vs hz h;cases hz|st t ih=>intro vs hz h;exact ih vs hz h|pair a b jE iP=>intro vs hz h;simp only[Ty.O2,z8]at hz;simp only[dM]at h;split at h;(·rename_i x y hx hy;simp only[y5]at h;subst h;exact⟨x,y,rfl,jE x hz.1 hx,iP y hz.2 hy⟩);·cases h
theorem EW (z : Array Value) (n i : Nat) (hi : i < n) : ((Builtin.zeroCells z n).toList.drop (i * z.size)).take z.size = z.toList := by
  apply List.ext_getElem?
  intro j
  rw [List.getElem?_take]
  by_cases hj : j < z.size
  · rw [if_pos hj, List.getElem?_drop]
    have cu : i * z.size + j < n * z.size := by
      calc i * z.size + j < i * z.size + z.size := by omega
        _ = (i + 1) * z.size := by rw [Nat.add_mul]; omega
        _ ≤ n * z.size := Nat.mul_le_mul_right _ hi
    have aZ6 : (i * z.size + j) % z.size = j := by
      rw [Nat.add_comm, Nat.add_mul_mod_self_right, Nat.mod_eq_of_lt hj]
    simp only [Builtin.zeroCells, Array.getElem?_toList, Array.getElem?_map]
    rw [Array.getElem?_eq_getElem (by simpa using cu)]
    simp only [Option.map_some, Array.getElem_range, aZ6]
    rw [getElem!_pos z j hj, Array.getElem?_eq_getElem hj]
  · rw [if_neg hj, List.getElem?_eq_none (by rw [Array.length_toList]; omega)]
theorem Ni {te el:Option Nat} {w:World} {v u:Value} (h:iE te w v)(hv:u=v) {t':Nat} (hk:O3 te el=some t'):iE (some t') w u∧el=some t':=by
 unfold O3 at hk;split at hk;(·rename_i a b;split at hk;(·rename_i iu;injection hk with hk;subst hk;rw[hv];exact⟨h,by rw[y6 iu]⟩);·cases hk);·cases hk
theorem RF (hE : aI E) (h : Full n w0 S0 s a w ν S) (ho : bL n o = true) {c : Call} (aK : o.op = .call c) (mW : c.callee = .builtin .append) (ab : aZ E (aq E F s o) (fun l => K (s.fin o.dst l))) : o.wp E.P a w (fun a' w' => ∃ s', K s' ∧ Rel n w0 S0 s' a' w') Q := by
  obtain ⟨callee, args, argTypes⟩ := c
  simp only at mW
  subst mW
  simp only [aq, aK] at ab
  split at ab
  · rename_i t u p q d kd cg hd
    split at ab
    · rename_i T hT
      obtain ⟨xo, yo, nN⟩ : ∃ xo yo, args = #[xo, yo] := by
        have hl : args.toList.length = 2 := by have := congrArg List.length cg; rw [wz, List.length_map] at this; simpa using this
        match hh : args.toList, hl with
        | [xo, yo], _ => exact ⟨xo, yo, Array.toList_inj.1 (by rw [hh])⟩
      subst nN
      simp only [cL, List.cons.injEq, and_true] at cg
      obtain ⟨hp, hq⟩ := cg
      have vY : argTypes = #[t, u] := Array.toList_inj.1 (by rw [kd])
      subst vY
      have hx := h.ev (aA ho (x := xo) (by simp [aK, Op.operands, Call.operands]))
      have hy := h.ev (aA ho (x := yo) (by simp [aK, Op.operands, Call.operands]))
      rw [hp] at hx
      rw [hq] at hy
      obtain ⟨e, hu, he, rQ, oK, rR⟩ := (hE.facts hT).elem hE
      have nB := rQ.own
      have aT : ∀ v' w', (Builtin.append_ #[t, u] o.type #[a.eval xo, a.eval yo]).run E.P w = .ok v' w' → (execOp a.eval o).run E.P w = .ok (.value v') w' := by
        intro v' w' hr
        simp [execOp, aK, resolve, invoke, builtin, hr]
      -- the source
      have src : ∀ ys, oi E F s.bl T t u q = some ys → ∃ news, Src E.P T.cells u (a.eval yo) ys.length news w ∧ ∀ i y, ys[i]? = some y → aH T y w ⟨S, aJ w0 S0⟩ ((news.drop (i * T.cells)).take T.cells) := by
        intro ys qh
        simp only [oi] at qh
        split at qh
        · rename_i htu
          have htu := y6 htu
          subst htu
          obtain ⟨aa, c, news, hv, h1, h2⟩ := h.content nB qh hy
          exact ⟨news, by rw [hv]; exact h1.src hu c, h2⟩
        · split at qh
          · rename_i hU
            split at qh
            · split at qh
              · rename_i k hk z Ur
                have Ur := eU Ur
                subst Ur
                simp only [y5] at qh
                subst qh
                obtain ⟨hv, hl⟩ := eY hy
                obtain ⟨dd, MH, Jk⟩ := (hE.facts hU).sZ
                have tv : dd = .string := by cases dd <;> first | rfl | cases Jk
                subst tv
                have hs := Src.ofString (w := w) MH (⟨z.toArray⟩ : ByteArray)
                have cY : (⟨z.toArray⟩ : ByteArray).size = z.length := by simp [ByteArray.size]
                have hbc : byteCells ⟨z.toArray⟩ = z.map fun c => Value.int .u8 (c.toNat : Int) := by simp [byteCells]
                rw [cY, hbc] at hs
                refine ⟨_, by rw [hv, List.length_map]; exact hs, fun i y hy => ?_⟩
                rw [List.getElem?_map] at hy
                cases hz : z[i]? with
                | none => rw [hz] at hy; cases hy
                | some c =>
                  rw [hz] at hy
                  simp only [Option.map_some, y5] at hy
                  subst hy
                  have hi : i < z.length := (z6 hz).1
                  have hd : ((z.map fun c => Value.int .u8 (c.toNat : Int)).drop i).take 1 = [Value.int .u8 (c.toNat : Int)] := by
                    rw [List.drop_eq_getElem_cons (by rw [List.length_map]; exact hi)]
                    simp only [List.getElem_map, List.take_succ_cons, List.take_zero]
                    rw [(z6 hz).2]
                  simp only [Ty.cells, Nat.mul_one]
                  rw [hd]
                  have := UInt8.toNat_lt c
                  exact ⟨rfl, by show (0 : Int) ≤ _; omega, by show (_ : Int) ≤ 255; omega⟩
              · cases qh
            · cases qh
          · cases qh
      -- onto a local array, of which a part may be taken
      have bA6 : ∀ (id j : Nat) (xs ys : List T.den) (v : Value) (zs : List T.den) (te tf : Option Nat), look id s.bl = some (.arr T zs te) → (∀ t', tf = some t' → iE (some t') w v ∧ E.ED t = some t') → j < P0 → (j = id ∨ look j s.bl = none) → oi E F s.bl T t u q = some ys → a.eval xo = v → aH (.own T) xs w ⟨S, aJ w0 S0⟩ [v] → (∀ g, aM v = some g → aM (ν id) = some g) → xs.length + ys.length ≤ 274877906944 → K (s.fin o.dst (.append id j (.arr T (xs ++ ys) tf))) →
          o.wp E.P a w (fun a' w' => ∃ s', K s' ∧ Rel n w0 S0 s' a' w') Q := by
        intro id j xs ys v zs te tf hl htf hj FH qh hv iH hblk hlen hK
        obtain ⟨news, mV, dL⟩ := src ys qh
        obtain ⟨v', w', hr, wJ, tz, Pk, ym, hel⟩ := mP hE (ty := o.type) hT nB iH h.W.lt h.W.size mV dL hlen
        refine cO (aT v' w' (by rw [hv]; exact hr)) ⟨_, hK, ?_⟩
        simp only [St.fin, hd]
        have bQ5 : eP w w' (aM (ν id)) := by
          refine ⟨tz.os, tz.tape, tz.output, tz.size, fun k hk bS => tz.block k hk (fun e => bS (by rw [hblk k e.symm])), tz.drawn⟩
        refine (h.app (v' := v') (bo ho d hd) hl hj FH bQ5 Pk (fun g hg => ?_) (b' := .arr T (xs ++ ys) tf) (fun D => ⟨?_, nB, by simpa using wJ⟩)).rel
        rotate_left
        · cases bQ6 : tf with
          | none => exact cA _ _
          | some t' =>
            obtain ⟨g1, g2⟩ := htf t' bQ6
            exact (hel t' (hE.ED t t' g2) g1).oH (by simp) fun _ _ => rfl
        rcases ym g (oG Pk hg) with hf | hf
        · exact .inl (dx (hblk g hf))
        · exact .inr hf
      -- whichever name it has
      have aT5 : ∀ (id : Nat) (xs ys : List T.den) (v : Value) (zs : List T.den) (r : Prop) (te tf : Option Nat), look id s.bl = some (.arr T zs te) → (∀ t', tf = some t' → iE (some t') w v ∧ E.ED t = some t') → oi E F s.bl T t u q = some ys → a.eval xo = v → aH (.own T) xs w ⟨S, aJ w0 S0⟩ [v] → (∀ g, aM v = some g → aM (ν id) = some g) → (r → xs.length + ys.length ≤ 274877906944) →
          aZ E (match Nat.ble P0 id with | false => .cI r (.append id id (.arr T (xs ++ ys) tf)) | true => match look d s.bl with | none => .cI r (.append id d (.arr T (xs ++ ys) tf)) | some _ => .fail 70) (fun l => K (s.fin o.dst l)) →
          o.wp E.P a w (fun a' w' => ∃ s', K s' ∧ Rel n w0 S0 s' a' w') Q := by
        intro id xs ys v zs r te tf hl htf qh hv iH hblk hlen hK
        split at hK
        · rename_i hb
          have hj : id < P0 := by
            rcases Nat.lt_or_ge id P0 with h' | h'
            · exact h'
            · rw [Nat.ble_eq_true_of_le h'] at hb; cases hb
          exact bA6 id id xs ys v zs te tf hl htf hj (.inl rfl) qh hv iH hblk (hlen hK.1) hK.2
        · split at hK
          · rename_i hn
            have hj : d < P0 := Nat.lt_of_lt_of_le (bo ho d hd) (Nat.le_trans h.rM (by decide))
            exact bA6 id d xs ys v zs te tf hl htf hj (.inr hn) qh hv iH hblk (hlen hK.1) hK.2
          · exact hK.elim
      -- onto a part without room: a new array
      have bA7 : ∀ (id : Nat) (r : Prop) (ys : List T.den) (b : Option Addr) (zs : List T.den) (te : Option Nat), look id s.bl = some (.arr T zs te) → oi E F s.bl T t u q = some ys → a.eval xo = .slice b 0 0 → ys ≠ [] → ys.length ≤ 274877906944 →
          aZ E (match Nat.ble P0 id with | false => .cI r (.append id id (.arr T ys)) | true => match look d s.bl with | none => .cI r (.append id d (.arr T ys)) | some _ => .fail 70) (fun l => K (s.fin o.dst l)) →
          o.wp E.P a w (fun a' w' => ∃ s', K s' ∧ Rel n w0 S0 s' a' w') Q := by
        intro id r ys b zs te hl qh hv bS hlen hK
        obtain ⟨news, mV, dL⟩ := src ys qh
        obtain ⟨v', w', hr, wJ, tz, Pk, ym⟩ := lK hE (ty := o.type) hT nB (xs := []) (a := b) (m := 0) ⟨b, 0, rfl, x8, by omega, .inl rfl⟩ h.W.lt h.W.size mV dL bS (by simpa using hlen)
        have fin : ∀ j, j < P0 → (j = id ∨ look j s.bl = none) → K (s.fin o.dst (.append id j (.arr T ys))) → o.wp E.P a w (fun a' w' => ∃ s', K s' ∧ Rel n w0 S0 s' a' w') Q := by
          intro j hj FH hK
          refine cO (aT v' w' (by rw [hv]; exact hr)) ⟨_, hK, ?_⟩
          simp only [St.fin, hd]
          exact (h.app (v' := v') (bo ho d hd) hl hj FH ⟨tz.os, tz.tape, tz.output, tz.size, fun k hk _ => tz.block k hk (by simp), tz.drawn⟩ Pk (fun g hg => .inr (ym g (oG Pk hg))) (b' := .arr T ys) (fun D => ⟨cA _ _, nB, by simpa using wJ⟩)).rel
        split at hK
        · rename_i hb
          have hj : id < P0 := by
            rcases Nat.lt_or_ge id P0 with h' | h'
            · exact h'
            · rw [Nat.ble_eq_true_of_le h'] at hb; cases hb
          exact fin id hj (.inl rfl) hK.2
        · split at hK
          · rename_i hn
            have hj : d < P0 := Nat.lt_of_lt_of_le (bo ho d hd) (Nat.le_trans h.rM (by decide))
            exact fin d hj (.inr hn) hK.2
          · exact hK.elim
      split at ab
      · rename_i hint
        split at ab
        · rename_i k m zc wK ZN hl
          obtain ⟨⟨h0, h1⟩, hK⟩ := ab
          change Int at m
          have h0 : (0 : Int) < m := h0
          have h1 : m ≤ (1073741824 : Int) := h1
          obtain ⟨kn, hun⟩ : ∃ kn, E.P.underlying u = some (.int kn) := by
            cases hU : E.ty u with
            | none => rw [hU] at hint; cases hint
            | some U =>
              rw [hU] at hint
              cases U with
              | int kn =>
                obtain ⟨dd, MH, Jk⟩ := (hE.facts hU).sZ
                cases dd <;> first | exact ⟨_, MH⟩ | cases Jk
              | _ => cases hint
          obtain ⟨TC, _⟩ := bp hy
          simp only [ag] at hx
          obtain ⟨i, hi, cY, hby, JF, z, hz, ME⟩ := rQ.info
          obtain ⟨zv, JJ, _, _⟩ := rT (c := h.c) T zc ZN
          rw [hz] at JF
          have HG := mQ JF JJ
          have hm : m = ((m.toNat : Nat) : Int) := by omega
          have hb : m.toNat * i.bytes ≤ 140737488355328 := by
            calc m.toNat * i.bytes ≤ 274877906944 * 512 := Nat.mul_le_mul v6 hby
              _ = 140737488355328 := by decide
          have Us := _root_.Go.Lib.run_append_grow_zeros (P := E.P) w t u o.type e i z k kn hu hun hi hz none 0 0 [] (run_firstCells_none _ _ _ _ _) m.toNat v6 (by rw [cY]; omega) v6 v6 v6 (growslice_fits v6 (by simpa using hb))
          simp only [Nat.zero_add] at Us
          rw [← hm] at Us
          have hrz := rX (w := w) (M := ⟨S, aJ w0 S0⟩) T zv wK JJ
          have hg := yz (E := E) (e := e) (w := w) (M := ⟨S, aJ w0 S0⟩) (zs := List.replicate m.toNat (er T)) ME nB h.W.lt h.W.size (by rw [List.length_replicate]; omega) (Builtin.zeroCells z.cells m.toNat).toList (by rw [List.length_replicate, Array.length_toList, Pd, ME]) (fun i y hy => by
            rw [List.getElem?_replicate] at hy
            split at hy
            · rename_i hj
              simp only [y5] at hy
              subst hy
              rw [← ME, EW _ _ _ hj, HG]
              exact hrz
            · cases hy) 0
          simp only [List.length_replicate] at hg
          refine cO (aT _ _ (by rw [hx, TC]; exact Us)) ⟨_, hK, ?_⟩
          simp only [St.fin, hd]
          refine h.yB (bo ho d hd) hl nB ⟨rfl, rfl, rfl, by simp, fun k hk _ => Below.heap_alloc w.drew _ k hk, fun _ => Nat.le_succ _⟩ ⟨_, _, _, rfl⟩ (fun g hg => by injection hg with hg; simp at hg; omega) ?_ (cA _ _)
          have HH : (([] : List Value).toArray ++ Builtin.zeroCells z.cells m.toNat) = (Builtin.zeroCells z.cells m.toNat).toList.toArray := by simp
          rw [HH]
          exact hg
        · exact ab.elim
      split at ab
      · unfold bH at ab
        split at ab
        · rename_i ys U zs qh hl
          split at ab
          · rename_i xs mT
            obtain ⟨e', ov⟩ := Ty.bE mT
            injection e' with e'
            subst e'
            simp only at ov
            subst ov
            simp only [ag] at hx
            obtain ⟨_, ⟨aa, m, hv⟩, JS⟩ := hx
            obtain ⟨news, mV, dL⟩ := src ys qh
            obtain ⟨⟨bS, hlen⟩, hK⟩ := ab
            rw [hv] at JS
            obtain ⟨v', w', hr, wJ, tz, Pk, ym⟩ := lK hE (ty := o.type) hT nB JS h.W.lt h.W.size mV dL bS hlen
            refine cO (aT v' w' (by rw [hv]; exact hr)) ⟨_, hK, ?_⟩
            simp only [St.fin, hd]
            exact h.yB (bo ho d hd) hl nB tz Pk (fun g hg => ym g (oG Pk hg)) wJ (cA _ _)
          · exact ab.elim
        · exact ab.elim
      cases fG : pV F s.bl T d p (oi E F s.bl T t u q) (E.ED t) with
      | cI r bA8 =>
        rw [fG] at ab
        simp only [pV] at fG
        split at fG
        case h_2 => cases fG
        rename_i ys qh
        split at fG
        · injection fG with e1 e2
          subst e1; subst e2
          simp only at ab
          split at ab
          · rename_i hl
            obtain ⟨hlen, hK⟩ := ab
            simp only [ag] at hx
            obtain ⟨news, mV, dL⟩ := src ys qh
            have iH : aH (.own T) ([] : List T.den) w ⟨S, aJ w0 S0⟩ [.slice none 0 0] := ⟨_, rfl, by simp, .inl ⟨rfl, rfl⟩⟩
            obtain ⟨v', w', hr, wJ, tz, Pk, ym, hel⟩ := mP hE (ty := o.type) hT nB iH h.W.lt h.W.size mV dL (by simpa using hlen)
            refine cO (aT v' w' (by rw [hx]; exact hr)) ⟨_, hK, ?_⟩
            simp only [St.fin, hd]
            exact h.yB (bo ho d hd) hl nB tz Pk (fun g hg => by rcases ym g (oG Pk hg) with hf | hf; cases hf; exact hf) (by simpa using wJ) (by
              cases hem : E.ED t with
              | none => exact cA _ _
              | some t' => exact hel t' (hE.ED t t' hem) (fun t2 _ g hg => by cases hg))
          · exact ab.elim
        · split at fG <;> cases fG
        · rename_i id
          split at fG
          · rename_i U zs te hl
            obtain ⟨hl, _⟩ := cM hl
            split at fG
            · rename_i xs mT
              obtain ⟨e', ov⟩ := Ty.bE mT
              injection e' with e'
              subst e'
              simp only at ov
              subst ov
              injection fG with e1 e2
              subst e1; subst e2
              simp only [ag] at hx
              obtain ⟨kd, _, hb⟩ := h.W.cD _ _ hl
              have cE : a.eval xo = ν id := hx.2.1
              exact aT5 id _ ys _ _ _ _ _ hl (fun t' Rr => Ni kd rfl Rr) qh cE hb (fun g hg => hg) (fun h => h) ab
            · cases fG
          · cases fG
        · rename_i id sz off len
          split at fG
          · rename_i U zs te hl
            obtain ⟨hl, _⟩ := cM hl
            split at fG
            · rename_i xs mT cY
              have cY := y6 cY
              obtain ⟨e', ov⟩ := Ty.bE mT
              injection e' with e'
              subst e'
              simp only at ov
              subst ov
              injection fG with e1 e2
              subst e1; subst e2
              simp only [ag] at hx
              obtain ⟨tv, aa, m, cap, b, cE, hn, ud, hv, hb⟩ := hx
              obtain ⟨kd, wk, u, jO, Ue, cZ⟩ := h.W.cD _ _ hl
              simp only [List.cons.injEq, and_true] at jO
              simp only [Full.c] at cE
              rw [cE] at jO
              subst jO
              have bQ7 : (off < zs.length ∨ off = zs.length ∧ len = 0 ∧ ys ≠ []) ∧ len + ys.length ≤ 274877906944 := by
                simp only at ab
                split at ab
                · exact ab.1
                · split at ab
                  · exact ab.1
                  · exact ab.elim
              by_cases lJ : off < cap
              case neg =>
                have hzm : zs.length = m := by
                  rcases cZ with ⟨rb, rfl⟩ | ⟨g, ob, rJ, cur, e', tp, _⟩
                  · injection rb with _ h2 _; simp [h2]
                  · injection tp with _ h2 _; exact h2.symm
                obtain ⟨h1, h2⟩ := bQ7
                rcases h1 with h1 | ⟨h1, h3, h4⟩
                · omega
                subst h3
                have bA9 : cap - off = 0 := by omega
                rw [bA9] at hv
                rw [List.take_zero, List.nil_append] at ab
                exact bA7 id _ ys b zs te hl qh hv h4 v6 ab
              rcases cZ with ⟨rb, rfl⟩ | ⟨g, ob, rJ, cur, e', tp, hle, hcm, vW, hB, hh, ue, gq⟩
              · injection rb with _ _ h3
                omega
              · injection tp with e1 e2 e3
                subst e1; subst e2; subst e3
                obtain ⟨g', ob', ha, jf⟩ := hb v6
                injection ha with ha
                injection ha with ha1 ha2
                subst ha1; subst ha2
                have EV : ((zs.drop off).take len).length = len := by simp; omega
                refine aT5 id _ ys (a.eval xo) zs _ _ none hl (fun _ h => by cases h) qh rfl ?_ (fun g'' bB0 => ?_) (fun hr => by rw [EV]; exact hr.2) ab
                · rw [hv, jf]
                  refine ⟨_, rfl, by rw [EV]; omega, .inr ⟨g, ob + off * sz, cap - off, cur, e', by rw [EV], by rw [EV]; omega, by omega, vW, hB, hh, ?_, fun i y hy => ?_⟩⟩
                  · rw [cY, Nat.add_assoc, ← Nat.add_mul, show off + (cap - off) = cap from by omega]
                    exact ue
                  · have hi : i < len := by
                      rcases Nat.lt_or_ge i len with h' | h'
                      · exact h'
                      · rw [List.getElem?_eq_none v6] at hy; cases hy
                    rw [List.getElem?_take, if_pos hi, List.getElem?_drop] at hy
                    obtain ⟨cs, h1, h2, h3⟩ := gq _ y hy
                    refine ⟨cs, h1, ?_, h3⟩
                    rw [cY, Nat.add_assoc, ← Nat.add_mul]
                    exact h2
                · rw [hv, jf] at bB0
                  rw [cE]
                  exact bB0
            · cases fG
          · cases fG
        · cases fG
      | both o1 o2 =>
        rw [fG] at ab
        simp only [pV] at fG
        split at fG
        case h_2 => cases fG
        rename_i ys qh
        split at fG
        · cases fG
        · rename_i U zs
          split at fG
          · rename_i xs mT hl
            obtain ⟨e', ov⟩ := Ty.bE mT
            injection e' with e'
            subst e'
            simp only at ov
            subst ov
            injection fG with e1 e2
            subst e1; subst e2
            obtain ⟨Pl, bB1⟩ := ab
            have hx0 := hx
            simp only [ag] at hx
            obtain ⟨_, ⟨aa, m, hv⟩, JS⟩ := hx
            obtain ⟨news, mV, dL⟩ := src ys qh
            by_cases bS : ys = []
            · have hK := Pl bS
              subst bS
              refine h.val ho (v := a.eval xo) (aT _ _ ?_) hx0 hK
              have Jh := mV.len
              have th := mV.cells
              simp only [List.length_nil] at Jh th
              obtain ⟨e, hu, he, rQ, oK, rR⟩ := (hE.facts hT).elem hE
              obtain ⟨i, hi, cY, _⟩ := rQ.info
              have hn : news = [] := List.eq_nil_of_length_eq_zero (by rw [mV.newsLen]; simp)
              subst hn
              rw [← cY] at th
              rw [hv]
              rcases mV.kind with ⟨e2, hk⟩ | hk
              all_goals
                cases aa with
                | none => simp [Builtin.append_, run_underlying hu, run_underlying hk, sizeOf, typeInfo, hi, Jh, th]
                | some aa => simp [Builtin.append_, run_underlying hu, run_underlying hk, sizeOf, typeInfo, hi, Jh, th, storeCells]
            · obtain ⟨hlen, hK⟩ := bB1 bS
              rw [hv] at JS
              obtain ⟨v', w', hr, wJ, tz, Pk, ym⟩ := lK hE (ty := o.type) hT nB JS h.W.lt h.W.size mV dL bS hlen
              refine cO (aT v' w' (by rw [hv]; exact hr)) ⟨_, hK, ?_⟩
              simp only [St.fin, hd]
              exact h.yB (bo ho d hd) hl nB tz Pk (fun g hg => ym g (oG Pk hg)) wJ (cA _ _)
          · cases fG
        · repeat' split at fG
          all_goals cases fG
        · repeat' split at fG
          all_goals cases fG
        · cases fG
      | _ =>
        rw [fG] at ab
        simp only [pV] at fG
        repeat' split at fG
        all_goals first
          | (cases fG; done)
          | exact ab.elim
    · exact ab.elim
  · exact ab.elim
end
end
section
variable {en:Prop} [lj en]
open Go.RowKit
section
variable {E:Env} {n:Nat} {w0:World} {S0:Cx} {s:St} {a:Act} {w:World} {ν:Nat→Value} {S:Nat→Prop} {F:dI} {o:Oper} {K:St→Prop} {Q:Exit→Act→World→Prop}
theorem Cv {T:Ty} : ∀(ps:List (Nat×PV))(vs:List (Nat×Value))(i:Nat)(xs:List T.den)(cells:Array Value)(R:T.den→List Value→Prop),(∀x cs,R x cs→cs.length=T.cells)→ps.length=vs.length→pY F s.bl T i ps=some xs→(∀(k:Nat)(p:Nat×PV)(v:Nat×Value),ps[k]?=some p→vs[k]?=some v→p.1=v.1∧ ∀x,PV.refs p.2=false→PV.lF p.2=[]→exp F s.bl T p.2=some x→R x v.2.cells.toList)→i*T.cells+ps.length*T.cells=cells.size→ ∃out,Instr.fill (fun i=>some (i*T.cells,T.cells)) cells vs=some out∧out.size=cells.size∧xs.length=ps.length∧out.toList.take (i*T.cells)=cells.toList.take (i*T.cells)∧ ∀k x,xs[k]?=some x→R x ((out.toList.drop ((i+k)*T.cells)).take T.cells)|[],[],i,xs,cells,R,hR,_,h,_,hs=>(by simp only[pY,y5]at h;subst h;exact⟨cells,rfl,rfl,rfl,rfl,fun k x hk=>by simp at hk⟩)|[],_::_,_,_,_,_,_,hl,_,_,_=>(by cases hl)|_::_,[],_,_,_,_,_,hl,_,_,_=>(by cases hl)|p::ps,v::vs,i,xs,cells,R,hR,hl,h,hr,hs=>by simp only[pY]at h;split at h;(·rename_i x bQ8 vX Ry hx;split at h;(·rename_i ys qh;simp only[y5]at h;subst h;have hpi:=y6 bQ8;obtain⟨Tz,bF⟩:=hr 0 p v rfl rfl;have hRx:=bF x vX Ry hx;have EP:=hR _ _ hRx;obtain⟨vi,vv⟩:=v;simp only at Tz EP hRx;(have ZP:vi=i:=by rw[←Tz,hpi]);subst ZP;simp only[x6]at hs;(have cY:vi*T.cells+T.cells+ps.length*T.cells=cells.size:=by rw[←hs,Nat.add_mul];omega);(have uN:vv.cells.size=T.cells:=by simpa using EP);rw[JH rfl uN v6];(have dA:(cells.toList.take (vi*T.cells)++vv.cells.toList++cells.toList.drop (vi*T.cells+vv.cells.size)).toArray.size=cells.size:=by simp only[List.size_toArray,y9,List.length_take,List.length_drop,Array.length_toList];omega);obtain⟨out,h1,h2,h3,h4,h5⟩:=Cv ps vs (vi+1) ys _ R hR (by simpa using hl) qh (fun k p' v' Rv Ub=>hr (k+1) p' v' Rv Ub) (by rw[dA,Nat.add_mul];omega);(have A3:(cells.toList.take (vi*T.cells)).length=vi*T.cells:=by simp only[List.length_take,Array.length_toList];omega);(have jF:out.toList.take ((vi+1)*T.cells)=cells.toList.take (vi*T.cells)++vv.cells.toList:=by rw[h4];(have e:(vi+1)*T.cells=(cells.toList.take (vi*T.cells)++vv.cells.toList).length:=by rw[y9,A3,EP,Nat.add_mul];omega);rw[e,List.take_left]);refine⟨out,h1,h2.trans dA,by simp[h3],?_,fun k y hk=>?_⟩;(·have:=congrArg (List.take (vi*T.cells)) jF;rw[List.take_take,Nat.min_eq_left (by rw[Nat.add_mul];omega),List.take_append_of_le_length v6,List.take_take,Nat.min_self]at this;exact this);·cases k with|zero=>simp at hk;subst hk;have:=congrArg (List.drop (vi*T.cells)) jF;have e0:(cells.toList.take (vi*T.cells)).drop (vi*T.cells)=[]:=List.drop_of_length_le v6;rw[List.drop_take,List.drop_append_of_le_length v6,e0,List.nil_append]at this;rw[show(vi+1)*T.cells-vi*T.cells=T.cells from by rw[Nat.add_mul];omega]at this;rw[Nat.add_zero,this];exact hRx|succ k=>have:=h5 k y (by simpa using hk);rw[show vi+(k+1)=vi+1+k from by omega];exact this);·cases h);·cases h
theorem Full.grow(h:Full n w0 S0 s a w ν S) {w':World} {S':Nat→Prop} (hw:eP w w' none)(h1: ∀b,S b→S' b)(h2: ∀b,S' b→S b∨w.heap.size≤b)(h3: ∀b,S' b→b<w'.heap.size):Full n w0 S0 s a w' ν S':=by
 have hle:Ctx.Le ⟨ν,s.D,w,⟨S,aJ w0 S0⟩⟩ ⟨ν,s.D,w',⟨S',aJ w0 S0⟩⟩:=⟨fun b hb=>hw.block b (h.W.lt b hb) (by simp),h1,fun _ h=>h,fun _ _=>rfl⟩;refine⟨h.below.grown hw (by simp),fun b hb=>h1 b (h.FC b hb),fun b hb=>?_,⟨h3,fun g hg=>h.W.size g (Nat.le_trans hw.size hg),fun i c hc=>?_,h.W.ne⟩,fun t=>gB hle (h.gn t),h.size,h.defers,h.rM,h.kept,h.Hu⟩
 (·rcases h2 b hb with h'|h';(·exact h.fresh b h');·exact .inr (h.W.size b h'));·refine tc hle rfl rfl (fun g hg=>?_) (h.W.cD i c hc);obtain⟨e1,e2,e3⟩:=h.iF hc hg;refine⟨hw.block g e3 (by simp),fun _ Ut=>?_⟩;rcases h2 g Ut with h'|h';(·exact e2 h');·omega
theorem EX(hE:aI E)(h:Full n w0 S0 s a w ν S)(ho:bL n o=true) {t m:Nat} {parts:Array (Nat×Operand)} (aK:o.op= .buildSlice t m parts)(ab:aZ E (aq E F s o) (fun l=>K (s.fin o.dst l))):o.wp E.P a w (fun a' w'=> ∃s',K s'∧Rel n w0 S0 s' a' w') Q:=by
 simp only[aq,aK]at ab;split at ab;(·rename_i T d hT hd;split at ab;(·rename_i xs hl hel hb;simp only[z8]at hb;have hm:=y6 hb.1;have aZ7:=Nat.le_of_ble_eq_true hb.2;obtain⟨e,hu,he,rQ,oK,rR⟩:=(hE.facts hT).elem hE;obtain⟨i,hi,cY,hby,_,z,hz,ME⟩:=rQ.info;(have M5: ∀(k:Nat)(p:Nat×PV)(v:Nat×Value),(dJ s parts.toList)[k]?=some p→((parts.map fun x=>(x.1,a.eval x.2)).toList)[k]?=some v→p.1=v.1∧ ∀x,PV.refs p.2=false→PV.lF p.2=[]→exp F s.bl T p.2=some x→aH T x w ⟨S,aJ w0 S0⟩ v.2.cells.toList:=by intro k p v hk hv;rw[kH,List.getElem?_map]at hk;simp only[Array.toList_map,List.getElem?_map]at hv;cases hx:parts.toList[k]? with|none=>rw[hx]at hk;cases hk|some x=>rw[hx]at hk hv;simp only[Option.map_some,y5]at hk hv;subst hk;subst hv;refine⟨rfl,fun y h1 h2 h3=>?_⟩;have cg:=h.ev (x:=x.2) (aA ho (by have hm:x∈parts:=Array.mem_toList_iff.1 (x7 hx);simp only[aK,Op.operands,List.mem_toArray,List.mem_map];exact⟨x,Array.mem_toList_iff.2 hm,rfl⟩));exact mK oK (h.Ud rQ.own h1 h2 h3 cg));(have hlen:(dJ s parts.toList).length=((parts.map fun x=>(x.1,a.eval x.2)).toList).length:=by simp[kH]);(have pP:(dJ s parts.toList).length=m:=by rw[←hm];simp[kH]);(have main: ∀cells:Array Value,cells.size=m*T.cells→ ∃out,Instr.fill (fun i=>some (i*T.cells,T.cells)) cells (parts.map fun x=>(x.1,a.eval x.2)).toList=some out∧out.size=m*T.cells∧xs.length=m∧ ∀k x,xs[k]?=some x→aH T x w ⟨S,aJ w0 S0⟩ ((out.toList.drop (k*T.cells)).take T.cells):=by intro cells hc;obtain⟨out,h1,h2,h3,h4,h5⟩:=Cv (F:=F) (s:=s) (dJ s parts.toList) _ 0 xs cells (fun x cs=>aH T x w ⟨S,aJ w0 S0⟩ cs) (fun x cs hr=>bV _ _ _ _ _ hr) hlen hel M5 (by rw[pP,hc];omega);exact⟨out,h1,by rw[h2,hc],by rw[h3,pP],fun k x hk=>by simpa using h5 k x hk⟩);(have fin: ∀out:Array Value,out.size=m*T.cells→xs.length=m→(∀k x,xs[k]?=some x→aH T x w ⟨S,aJ w0 S0⟩ ((out.toList.drop (k*T.cells)).take T.cells))→ ∃s',K s'∧Rel n w0 S0 s' (a.put o.dst (.slice (some ⟨w.heap.size,0,none⟩) m m)) (w.alloc (.cells out e)):=by intro out MI FN ho3;have hh:(w.alloc (.cells out e)).heap[w.heap.size]?=some (.cells out e (0,0)):=_root_.Go.heap_alloc_new w _;have hmb:m≤16777216:=Nat.le_trans (Nat.le_mul_of_pos_right m rR) aZ7;have gq: ∀k x,xs[k]?=some x→aH T x (w.alloc (.cells out e)) ⟨S,aJ w0 S0⟩ ((out.toList.drop (k*T.cells)).take T.cells):=fun k x hk=>aD (w:=w) (fun b hb=>Below.heap_alloc w _ b (h.W.lt b hb)) (fun _ h=>h) _ _ _ rQ.own (ho3 k x hk);split at ab;(·simp only[aZ]at ab;refine⟨_,ab,?_⟩;have hg:=h.grow (S':=fun b=>S b∨b=w.heap.size) (dK w (.cells out e) none) (fun b hb=>.inl hb) (fun b hb=>hb.imp id (fun e=>by omega)) (fun b hb=>by simp only[World.alloc,Array.size_push];rcases hb with hb|hb;(·have:=h.W.lt b hb;omega);·omega);refine(hg.put (bo ho) ?_).rel;(suffices lV:aH (.sl T) xs (w.alloc (.cells out e)) ⟨fun b=>S b∨b=w.heap.size,aJ w0 S0⟩ [.slice (some ⟨w.heap.size,0,none⟩) m m]by unfold gH;split;(·simp only[ag];exact⟨rQ.own,⟨_,m,rfl⟩,lV⟩);·simp only[ag];exact⟨rQ.own,lV⟩);refine⟨_,m,by rw[FN],v6,v6,.inr ⟨w.heap.size,0,rfl,.inr rfl,?_⟩⟩;refine Bm (vs:=out.toList) (by simp[MI,FN]) (fun j u hj=>?_) (fun k x hk=>?_);(·show(w.alloc (.cells out e)).cell? _=_;rw[cell_of_row _ _ _ _ _ _ hh,Nat.zero_add];simpa using hj);·exact aD (w:=w.alloc (.cells out e)) (M:=⟨S,aJ w0 S0⟩) (M':=⟨fun b=>S b∨b=w.heap.size,aJ w0 S0⟩) (fun b _=>rfl) (fun _ h=>.inl h) _ _ _ rQ.own (gq k x hk));·simp only[aZ,St.fin,hd]at ab;refine⟨_,ab,?_⟩;rw[hd];refine h.yB (v:=.slice (some ⟨w.heap.size,0,none⟩) m m) (bo ho d hd) hl rQ.own (dK w _ none) ⟨_,_,_,rfl⟩ (fun g hg=>by injection hg with hg;simp at hg;omega) ?_ (cA _ _);refine⟨_,rfl,v6,.inr ⟨w.heap.size,0,m,out,e,by rw[FN],v6,v6,fun hS=>absurd (h.W.lt _ hS) (by simp),h.W.size _ (x8),hh,v6,?_⟩⟩;refine Bm (vs:=out.toList) (by simp[MI,FN]) (fun j u hj=>?_) (fun k x hk=>?_);(·rw[cell_of_row _ _ _ _ _ _ hh,Nat.zero_add];simpa using hj);·exact gq k x hk);(have Pm: ¬(m*T.cells>2^24):=by omega);by_cases h0:m*T.cells=0;(·obtain⟨out,h1,h2,h3,h4⟩:=main ((Array.range (m*T.cells)).map fun j=>(#[]:Array Value)[j%(#[]:Array Value).size]!) (by simp);refine cO (v:=.slice (some ⟨w.heap.size,0,none⟩) m m) (w':=w.alloc (.cells out e)) ?_ (fin out h2 h3 h4);simp only[execOp,aK,Instr.buildSlice,Sem.run_bind,run_underlying hu,Result.andThen_ok,rQ.sizeOf w,Sem.run_ite,Pm,if_false,h0,if_true,Sem.run_pure];rw[h0]at h1;simp only[h1,Sem.run_bind,newRow,run_newObj,Result.andThen_ok,Sem.run_pure];rfl);·obtain⟨out,h1,h2,h3,h4⟩:=main ((Array.range (m*T.cells)).map fun j=>z.cells[j%z.cells.size]!) (by simp);refine cO (v:=.slice (some ⟨w.heap.size,0,none⟩) m m) (w':=w.alloc (.cells out e)) ?_ (fin out h2 h3 h4);simp only[execOp,aK,Instr.buildSlice,Sem.run_bind,run_underlying hu,Result.andThen_ok,rQ.sizeOf w,Sem.run_ite,Pm,if_false,h0,Sem.run_pure,zeroValue,typeInfo,run_program,hi,hz,h1,newRow,run_newObj];rfl);·exact ab.elim)
 ·exact ab.elim
theorem EY (hE : aI E) (h : Full n w0 S0 s a w ν S) (ho : bL n o = true) {t d : Nat} {x y : Operand} {T : Ty} {zc : List PV} {k k' : IntKind} {m0 m1 : Int} (wK : T.O2 = true) (aK : o.op = .makeSlice t x y) (hT : E.ty t = some (.sl T)) (hd : o.dst = some d) (hl : look d s.bl = none) (ZN : zeroCells T = some zc)
    (MG : a.eval x = .int k m0) (TC : a.eval y = .int k' m1) (h0 : 0 ≤ m0) (h1 : m0 ≤ m1) (h2 : m1 ≤ 274877906944) (ab : K ⟨(d, .aB d) :: s.sl, (d, .arr T (List.replicate (Int.toNat m0) (er T))) :: s.bl⟩) : o.wp E.P a w (fun a' w' => ∃ s', K s' ∧ Rel n w0 S0 s' a' w') Q := by
  obtain ⟨e, hu, he, rQ, oK, rR⟩ := (hE.facts hT).elem hE
  obtain ⟨i, hi, cY, hby, JF, z, hz, ME⟩ := rQ.info
  obtain ⟨zv, JJ, _, _⟩ := rT (c := h.c) T zc ZN
  rw [hz] at JF
  have HG := mQ JF JJ
  have aZ8 : (i.bytes : Int) * m1 ≤ 281474976710656 := by
    have e1 : (i.bytes : Int) * m1 ≤ 512 * 274877906944 := Int.mul_le_mul v6 h2 v6 v6
    omega
  have hr := run_make (P := E.P) w t e i z hu hi hz k k' m0 m1 h0 h1 aZ8 v6
  rw [cY] at hr
  refine cO (v := .slice (some ⟨w.heap.size, 0, none⟩) (Int.toNat m0) (Int.toNat m1)) (w' := w.alloc (.cells (madeCells z.cells (Int.toNat m1 * T.cells)) e)) ?_ ⟨_, ab, ?_⟩
  · simp only [execOp, aK, MG, TC, Sem.run_bind, hr, Result.andThen_ok, Sem.run_pure]
  · rw [hd]
    have hh : (w.alloc (.cells (madeCells z.cells (Int.toNat m1 * T.cells)) e)).heap[w.heap.size]? = some (.cells (madeCells z.cells (Int.toNat m1 * T.cells)) e (0, 0)) := _root_.Go.heap_alloc_new w _
    have hmb : Int.toNat m1 ≤ 274877906944 := by omega
    refine h.yB (bo ho d hd) hl rQ.own (dK w _ none) ⟨_, _, _, rfl⟩ (fun g hg => by injection hg with hg; simp at hg; omega) ?_ (cA _ _)
    refine ⟨_, rfl, by rw [List.length_replicate]; omega, .inr ⟨w.heap.size, 0, Int.toNat m1, _, e, by rw [List.length_replicate], by rw [List.length_replicate]; omega, by omega, fun hS => absurd (h.W.lt _ hS) (by simp), h.W.size _ (x8), hh, by rw [size_madeCells]; omega, fun j q hq => ?_⟩⟩
    rw [List.getElem?_replicate] at hq
    split at hq
    · rename_i hj
      simp only [y5] at hq
      subst hq
      refine ⟨zv, bV _ _ _ _ _ (rX (w := w) (M := ⟨S, aJ w0 S0⟩) T zv wK JJ), fun k u hk => ?_, rX T zv wK JJ⟩
      have yl : k < T.cells := by rw [← bV _ _ _ _ _ (rX (w := w) (M := ⟨S, aJ w0 S0⟩) T zv wK JJ)]; exact (z6 hk).1
      rw [cell_of_row _ _ _ _ _ _ hh, Nat.zero_add]
      have cu : j * T.cells + k < Int.toNat m1 * T.cells := by
        calc j * T.cells + k < j * T.cells + T.cells := by omega
          _ = (j + 1) * T.cells := by rw [Nat.add_mul]; omega
          _ ≤ Int.toNat m1 * T.cells := Nat.mul_le_mul_right _ v6
      have aZ6 : (j * T.cells + k) % z.cells.size = k := by
        rw [ME, Nat.add_comm, Nat.add_mul_mod_self_right, Nat.mod_eq_of_lt yl]
      simp only [madeCells, Array.getElem?_map]
      rw [Array.getElem?_eq_getElem (by simpa using cu)]
      simp only [Option.map_some, Array.getElem_range, aZ6]
      rw [getElem!_pos z.cells k v6]
      rw [← HG] at hk
      simp only [Array.getElem?_toList] at hk
      rw [Array.getElem?_eq_getElem v6] at hk
      exact hk
    · cases hq
theorem HI(hE:aI E)(h:Full n w0 S0 s a w ν S)(ho:bL n o=true) {t:Nat} {x y:Operand} (aK:o.op= .makeSlice t x y)(ab:aZ E (aq E F s o) (fun l=>K (s.fin o.dst l))):o.wp E.P a w (fun a' w'=> ∃s',K s'∧Rel n w0 S0 s' a' w') Q:=by
 simp only[aq,aK]at ab;have hx:=h.ev (aA ho (x:=x) (by simp[aK,Op.operands]));have hy:=h.ev (aA ho (x:=y) (by simp[aK,Op.operands]));split at ab;(·rename_i T d k m k' m' hT hd uP HF;split at ab;(·rename_i zc hl ZN wK;obtain⟨hmk,ab⟩:=ab;obtain⟨h0,h1,h2⟩:=aY7 hmk;simp only[aZ,St.fin,hd]at ab;rw[uP]at hx;rw[HF]at hy;obtain⟨MG,_⟩:=bp hx;obtain⟨TC,_⟩:=bp hy;exact EY hE h ho wK aK hT hd hl ZN MG TC h0 h1 h2 ab);·exact ab.elim)
 ·exact ab.elim
end
end
section
variable {en:Prop} [lj en]
open Go.RowKit
theorem aZ9 {w w':World} {M M':Mem} : ∀(T:Ty)(x:T.den)(vs:List Value),T.flat=true→aH T x w M vs→aH T x w' M' vs:=by
 intro T;induction T with|unit=>intro x vs _ h;exact h|int k=>intro x vs _ h;exact h|bool=>intro x vs _ h;exact h|str=>intro x vs _ h;exact h|sl t=>intro x vs hf;cases hf|own t=>intro x vs hf;cases hf|ptr t=>intro x vs hf;cases hf|iO f t=>intro x vs hf;cases hf|mp a b=>intro x vs hf;cases hf|aL=>intro x vs _ h;exact h|bG a b=>intro x vs _ h;exact h.elim|st t ih=>intro x vs hf h;exact ih x vs hf h|pair a b jE iP=>intro x vs hf h;simp only[Ty.flat,z8]at hf;obtain⟨va,vb,rfl,h1,h2⟩:=h;exact⟨va,vb,rfl,jE _ _ hf.1 h1,iP _ _ hf.2 h2⟩
theorem HJ {w w':World} {M M':Mem} {T:Ty} {x:T.den} {v:Value} (hf:T.flat=true)(h:dc T x w M v):dc T x w' M' v:=by
 cases T with|unit=>exact h|pair a b=>exact h|bG a b=>exact h|st t=>obtain⟨vs,rfl,h⟩:=h;exact⟨vs,rfl,aZ9 t x vs hf h⟩|int k=>exact h|bool=>exact h|str=>exact h|sl t=>cases hf|own t=>cases hf|ptr t=>cases hf|iO f t=>cases hf|mp a b=>cases hf|aL=>exact h
theorem a00 {w w':World} {M M':Mem} : ∀(T:Ty)(x:T.den)(vs:List Value),T.flat=true→EL T x w M vs→EL T x w' M' vs:=by
 intro T;induction T with|bG a b jE iP=>intro x vs hf h;simp only[Ty.flat,z8]at hf;obtain⟨v,r,rfl,h1,h2⟩:=h;exact⟨v,r,rfl,HJ hf.1 h1,iP _ _ hf.2 h2⟩|_=>intro x vs hf h;obtain⟨v,rfl,h⟩:=h;exact⟨v,rfl,HJ hf h⟩
theorem Uu {w w':World} {M M':Mem} {T:Ty} {x:T.den} {v:Value} (hf:T.flat=true)(h:ra T x w M v):ra T x w' M' v:=by
 cases T;(case bG a b=>obtain⟨vs,rfl,h⟩:=h;exact⟨vs,rfl,a00 _ x vs hf h⟩);all_goals exact HJ (w:=w) (w':=w') (M:=M) (M':=M') (x:=x) (v:=v) hf h
theorem FO: ∀(T:Ty),T.flat=true→aR T=0:=by intro T;induction T<;>simp_all[Ty.flat,aR]
section
variable {E:Env} {n:Nat} {w0:World} {S0:Cx} {s:St} {a:Act} {w:World} {ν:Nat→Value} {S:Nat→Prop} {F:dI} {o:Oper} {K:St→Prop} {Q:Exit→Act→World→Prop}
theorem a01(hE:aI E)(h:Full n w0 S0 s a w ν S)(ho:bL n o=true) {c:Call} (aK:o.op= .call c)(mW:c.callee= .builtin .cap)(ab:aZ E (aq E F s o) (fun l=>K (s.fin o.dst l))):o.wp E.P a w (fun a' w'=> ∃s',K s'∧Rel n w0 S0 s' a' w') Q:=by
 obtain⟨callee,args,argTypes⟩:=c;simp only at mW;subst mW;simp only[aq,aK]at ab;split at ab;(·rename_i t cg kd;(obtain⟨xo,nN⟩: ∃xo,args= #[xo]:=by(have hl:args.toList.length=1:=by have:=congrArg List.length cg;rw[wz,List.length_map]at this;simpa using this);match hh:args.toList,hl with|[xo],_=>exact⟨xo,Array.toList_inj.1 (by rw[hh])⟩);subst nN;simp only[cL,List.cons.injEq,and_true]at cg;have vY:argTypes= #[t]:=Array.toList_inj.1 (by rw[kd]);subst vY;have hx:=h.ev (aA ho (x:=xo) (by simp[aK,Op.operands,Call.operands]));rw[cg]at hx;simp only[ag]at hx;split at ab;(·rename_i U hT;obtain⟨e,hu,_⟩:=(hE.facts hT).elem hE;refine h.val ho (v:=.int .i64 0) ?_ (cj (by simp[IntKind.min,IntKind.max,IntKind.signed,IntKind.bits])) ab;simp[execOp,aK,resolve,invoke,builtin,Builtin.cap_,run_underlying hu,hx,goInt]);·exact ab.elim)
 ·exact ab.elim
theorem a02(hE:aI E)(h:Full n w0 S0 s a w ν S)(ho:bL n o=true) {c:Call} (aK:o.op= .call c)(mW:c.callee= .builtin .len)(ab:aZ E (aq E F s o) (fun l=>K (s.fin o.dst l))):o.wp E.P a w (fun a' w'=> ∃s',K s'∧Rel n w0 S0 s' a' w') Q:=by
 obtain⟨callee,args,argTypes⟩:=c;simp only at mW;subst mW;simp only[aq,aK]at ab;split at ab;(·rename_i p t cg kd;(obtain⟨xo,nN⟩: ∃xo,args= #[xo]:=by(have hl:args.toList.length=1:=by have:=congrArg List.length cg;rw[wz,List.length_map]at this;simpa using this);match hh:args.toList,hl with|[xo],_=>exact⟨xo,Array.toList_inj.1 (by rw[hh])⟩);subst nN;simp only[cL,List.cons.injEq,and_true]at cg;have vY:argTypes= #[t]:=Array.toList_inj.1 (by rw[kd]);subst vY;have hx:=h.ev (aA ho (x:=xo) (by simp[aK,Op.operands,Call.operands]));rw[cg]at hx;(have fin: ∀m:Nat,m≤9223372036854775807→(Builtin.len_ #[t] o.type #[a.eval xo]).run E.P w= .ok (.int .i64 m) w→aZ E (B0 m) (fun l=>K (s.fin o.dst l))→o.wp E.P a w (fun a' w'=> ∃s',K s'∧Rel n w0 S0 s' a' w') Q:=by intro m hm hr hK;refine h.val ho (v:=.int .i64 m) ?_ (cj (by simp[IntKind.min,IntKind.max,IntKind.signed,IntKind.bits];omega)) hK;simp[execOp,aK,resolve,invoke,builtin,hr]);simp only[EN]at ab;split at ab;(·rename_i hT;obtain⟨d,hu,Jk⟩:=(hE.facts hT).sZ;(have hd:d= .string:=by cases d<;>first|rfl|cases Jk);subst hd;split at ab;(·rename_i y;obtain⟨hv,hl⟩:=eY hx;(have cY:(⟨y.toArray⟩:ByteArray).size=y.length:=by simp[ByteArray.size]);refine fin _ hl ?_ ab;simp[Builtin.len_,run_underlying hu,hv,goInt,cY]);·exact ab.elim);(·rename_i U hT;obtain⟨e,hu,_⟩:=(hE.facts hT).elem hE;(have hlen: ∀(aa:Option Addr)(m cap:Nat),a.eval xo= .slice aa m cap→(Builtin.len_ #[t] o.type #[a.eval xo]).run E.P w= .ok (.int .i64 m) w:=by intro aa m cap hv;simp[Builtin.len_,run_underlying hu,hv,goInt]);split at ab;(·rename_i U' xs;simp only[ag]at hx;obtain⟨_,aa,cap,hv,h1,h2,_⟩:=hx;injection hv with hv;exact fin _ (Nat.le_trans h1 h2) (hlen _ _ _ hv) ab);(·rename_i id;split at ab;(·rename_i U' xs te hl;obtain⟨hl,_⟩:=cM hl;simp only[ag]at hx;obtain⟨hd,cE,aa,m,cap,hv⟩:=hx;obtain⟨kd,_,u,jO,Ue,cZ⟩:=h.W.cD _ _ hl;simp only[List.cons.injEq,and_true]at jO;simp only[Full.c]at cE;(have hm:m=xs.length:=by rw[cE,jO]at hv;rcases cZ with⟨rfl,rfl⟩|⟨g,ob,rJ,cur,e',rfl,_⟩;(·injection hv with e1 e2 e3;exact e2.symm);·injection hv with e1 e2 e3;exact e2.symm);subst hm;exact fin _ Ue (hlen _ _ _ hv) ab);·exact ab.elim);(·rename_i id sz off len;obtain⟨hl,hK⟩:=ab;simp only[ag]at hx;obtain⟨hd,aa,m,cap,b,cE,hn,ud,hv,hb⟩:=hx;exact fin _ hl (hlen _ _ _ hv) hK);(·simp only[ag]at hx;exact fin 0 v6 (hlen _ _ _ hx) ab);·exact ab.elim);(·rename_i K' V' hT;obtain⟨d,hu,Jk⟩:=(hE.facts hT).sZ;(obtain⟨k',e',rfl⟩: ∃k' e',d= .map k' e':=by cases d<;>first|exact⟨_,_,rfl⟩|cases Jk);split at ab;(·rename_i id;split at ab;(·rename_i K2 V2 es hl;obtain⟨hl,_⟩:=cM hl;simp only[ag]at hx;obtain⟨_,cE,_⟩:=hx;obtain⟨_,_,h0,r,ay,clock,h1,_,_,h4,_,h6,_⟩:=h.W.cD _ _ hl;simp only[Full.c]at cE;(have cE:a.eval xo= .map (some r):=by rw[cE];exact h1);refine fin _ h0 ?_ ab;simp[Builtin.len_,run_underlying hu,cE,MapKept.run_getObj_map h4,goInt,h6]);·exact ab.elim);(·simp only[ag]at hx;refine fin 0 v6 ?_ ab;simp[Builtin.len_,run_underlying hu,hx,goInt]);·exact ab.elim);·exact ab.elim)
 ·exact ab.elim
theorem qi {P:Program} {c:Ctx} (mx:Bool) {k:IntKind} {Kl:Out→Prop} : ∀(ps:List PV)(vs:List Value)(x:Int),k.min≤x∧x≤k.max→aj c ps vs→aZ E (lI mx k x ps) Kl→ ∃z,Kl (.val (.iv (.int k) z))∧k.min≤z∧z≤k.max∧(vs.foldlM (if mx then Builtin.max2 else Builtin.min2) (.int k x)).run P w= .ok (.int k z) w|[],vs,x,hx,hp,h=>(by simp only[aj]at hp;subst hp;exact⟨x,h,hx.1,hx.2,by simp⟩)|p::ps,vs,x,hx,hp,h=>by simp only[aj]at hp;obtain⟨v,r,rfl,h1,h2⟩:=hp;cases p with|iv T y=>(cases T with|int l=>simp only[lI]at h;split at h;(·rename_i hk;have hk:=eU hk;subst hk;obtain⟨rfl,hy⟩:=bp h1;change Int at y;cases mx;(·(have hz:k.min≤min x (y:Int)∧min x (y:Int)≤k.max:=by(have e1:min x (y:Int)=x∨min x (y:Int)=y:=by rcases Int.le_total x y with h|h<;>simp[Int.min_def,h]<;>omega);rcases e1 with e|e<;>rw[e]<;>assumption);obtain⟨z,hz1,TD,hz3,Uv⟩:=qi false ps r _ hz h2 h;refine⟨z,hz1,TD,hz3,?_⟩;rw[List.foldlM_cons,Sem.run_bind];(have e:Builtin.min2 (.int k x) (.int k y)=pure (.int k (min x (y:Int))):=by simp only[Builtin.min2,Int.min_def];congr 2;by_cases hc:x≤(y:Int);(·rw[if_pos hc,if_neg v6]);·rw[if_neg hc,if_pos v6]);simp only[Bool.false_eq_true,if_false]at Uv⊢;rw[e];simpa using Uv);·(have hz:k.min≤max x (y:Int)∧max x (y:Int)≤k.max:=by(have e1:max x (y:Int)=x∨max x (y:Int)=y:=by rcases Int.le_total x y with h|h<;>simp[Int.max_def,h]<;>omega);rcases e1 with e|e<;>rw[e]<;>assumption);obtain⟨z,hz1,TD,hz3,Uv⟩:=qi true ps r _ hz h2 h;refine⟨z,hz1,TD,hz3,?_⟩;rw[List.foldlM_cons,Sem.run_bind];(have e:Builtin.max2 (.int k x) (.int k y)=pure (.int k (max x (y:Int))):=by simp only[Builtin.max2,Int.max_def];congr 2;by_cases hc:x≤(y:Int);(·rw[if_pos hc];by_cases hd:(y:Int)>x;(·rw[if_pos hd]);·rw[if_neg hd];omega);·rw[if_neg hc,if_neg v6]);simp only[if_true]at Uv⊢;rw[e];simpa using Uv);(·exact h.elim)|_=>simp only[lI]at h;exact h.elim)|_=>simp only[lI]at h;exact h.elim
theorem a03(h:Full n w0 S0 s a w ν S)(ho:bL n o=true) {c:Call} (aK:o.op= .call c)(mW:c.callee= .builtin .min)(ab:aZ E (aq E F s o) (fun l=>K (s.fin o.dst l))):o.wp E.P a w (fun a' w'=> ∃s',K s'∧Rel n w0 S0 s' a' w') Q:=by
 obtain⟨callee,args,argTypes⟩:=c;simp only at mW;subst mW;simp only[aq,aK]at ab;split at ab;(·rename_i k x r cg;have bt:=jo h args.toList (fun y hy=>aA ho (by simp only[aK,Op.operands,Call.operands];simpa using hy));rw[cg]at bt;simp only[aj]at bt;obtain⟨v,vs,uN,h1,h2⟩:=bt;obtain⟨rfl,hx⟩:=bp h1;obtain⟨z,hz1,TD,hz3,Uv⟩:=qi (P:=E.P) (w:=w) false r vs x hx h2 ab;refine h.val ho (v:=.int k z) ?_ (cj ⟨TD,hz3⟩) hz1;(have hl:(args.map a.eval).toList= .int k x::vs:=by simpa using uN);simp only[Bool.false_eq_true,if_false]at Uv;simp only[execOp,aK,resolve,invoke,builtin,Builtin.min_,Sem.run_bind,Sem.run_pure,Result.andThen_ok,hl,Uv])
 ·exact ab.elim
theorem a04(h:Full n w0 S0 s a w ν S)(ho:bL n o=true) {c:Call} (aK:o.op= .call c)(mW:c.callee= .builtin .max)(ab:aZ E (aq E F s o) (fun l=>K (s.fin o.dst l))):o.wp E.P a w (fun a' w'=> ∃s',K s'∧Rel n w0 S0 s' a' w') Q:=by
 obtain⟨callee,args,argTypes⟩:=c;simp only at mW;subst mW;simp only[aq,aK]at ab;split at ab;(·rename_i k x r cg;have bt:=jo h args.toList (fun y hy=>aA ho (by simp only[aK,Op.operands,Call.operands];simpa using hy));rw[cg]at bt;simp only[aj]at bt;obtain⟨v,vs,uN,h1,h2⟩:=bt;obtain⟨rfl,hx⟩:=bp h1;obtain⟨z,hz1,TD,hz3,Uv⟩:=qi (P:=E.P) (w:=w) true r vs x hx h2 ab;refine h.val ho (v:=.int k z) ?_ (cj ⟨TD,hz3⟩) hz1;(have hl:(args.map a.eval).toList= .int k x::vs:=by simpa using uN);simp only[if_true]at Uv;simp only[execOp,aK,resolve,invoke,builtin,Builtin.max_,Sem.run_bind,Sem.run_pure,Result.andThen_ok,hl,Uv])
 ·exact ab.elim
end
end
section
variable {en:Prop} [lj en]
open Go.RowKit Go.MapKept
/-! ### Keys -/
def fq:(T:Ty)→T.den→List Value|.int k,x=>[.int k x]|.bool,x=>[.bool x]|.str,x=>[.string ⟨x.toArray⟩]|.pair a b,x=>fq a x.1++fq b x.2|.st t,x=>fq t x|_,_=>[]
theorem cJ {w:World} {M:Mem} : ∀(T:Ty)(x:T.den)(vs:List Value),ew T=true→aH T x w M vs→vs=fq T x:=by
 intro T;induction T with|int k=>intro x vs _ h;exact h.1|bool=>intro x vs _ h;exact h|str=>intro x vs _ h;exact h.1|pair a b jE iP=>intro x vs hp h;simp only[ew,z8]at hp;obtain⟨va,vb,rfl,h1,h2⟩:=h;rw[jE _ _ hp.1 h1,iP _ _ hp.2 h2];rfl|st t ih=>intro x vs hp h;exact ih x vs hp h|_=>intro x vs hp;cases hp
theorem nO: ∀(T:Ty)(x y:T.den),ew T=true→(fO T x y=true↔x=y):=by
 intro T;induction T with|int k=>intro x y _;simp[fO]|bool=>intro x y _;simp[fO]|str=>intro x y _;simp[fO]|pair a b jE iP=>intro x y hp;simp only[ew,z8]at hp;simp only[fO,z8,jE _ _ hp.1,iP _ _ hp.2];exact⟨fun h=>Prod.ext h.1 h.2,fun h=>by rw[h];exact⟨rfl,rfl⟩⟩|st t ih=>intro x y hp;exact ih x y hp|_=>intro x y hp;cases hp
theorem Uw: ∀(T:Ty)(x y:T.den),ew T=true→mG T x y=some (fO T x y):=by
 intro T;induction T with|int k=>intro x y _;rfl|bool=>intro x y _;rfl|str=>intro x y _;rfl|pair a b jE iP=>intro x y hp;simp only[ew,z8]at hp;simp only[mG,fO,jE _ _ hp.1,iP _ _ hp.2]|st t ih=>intro x y hp;exact ih x y hp|_=>intro x y hp;cases hp
theorem kJ {E:Env} {t:Nat} {K:Ty} (h:Ca E t K=true):ew K=true∧mU E t K∧dep K≤101∧K.val=true:=by
 cases K with|int k=>exact⟨rfl,trivial,by simp[dep],rfl⟩|bool=>exact⟨rfl,trivial,by simp[dep],rfl⟩|str=>exact⟨rfl,trivial,by simp[dep],rfl⟩|st R=>simp only[Ca,z8]at h;have:=Nat.le_of_ble_eq_true h.2;exact⟨h.1.2,h.1.1,by simp only[dep];omega,rfl⟩|_=>cases h
theorem Cw: ∀(T:Ty)(x:T.den),ew T=true→ ∀u,u∈fq T x→ ∀n,Instr.sameBits n u u=true:=by
 intro T;induction T with|int k=>intro x _ u hu n;simp only[fq,List.mem_singleton]at hu;subst hu;cases n<;>simp[Instr.sameBits]|bool=>intro x _ u hu n;simp only[fq,List.mem_singleton]at hu;subst hu;cases n<;>simp[Instr.sameBits]|str=>intro x _ u hu n;simp only[fq,List.mem_singleton]at hu;subst hu;cases n<;>(simp only[Instr.sameBits];exact(bytes_beq _ _).2 rfl)|pair a b jE iP=>intro x hp u hu n;simp only[ew,z8]at hp;simp only[fq]at hu;rcases ws hu with hu|hu;(·exact jE _ hp.1 u hu n);(·exact iP _ hp.2 u hu n)|st t ih=>intro x hp u hu n;exact ih x hp u hu n|_=>intro x hp;cases hp
theorem wL {p:Value→Value→Bool} : ∀(l:List Value),(∀u,u∈l→p u u=true)→(l.zip l).all (fun x=>p x.1 x.2)=true|[],_=>rfl|u::l,h=>by simp only[List.zip_cons_cons,List.all_cons,z8];exact⟨h u (y8 ..),wL l fun v hv=>h v (y7 _ hv)⟩
theorem qj {P:Program} {w w2:World} {M:Mem} {K:Ty} {x:K.den} {v:Value} (hp:ew K=true)(hv:K.val=true)(h:dc K x w M v):(Instr.keyThatStays v v).run P w2= .ok v w2:=by
 (have hs:Instr.sameBits 10000 v v=true:=by cases K with|int k=>obtain⟨h,_⟩:=h;injection h with h;subst h;simp[Instr.sameBits]|bool=>have h:[v]=[.bool x]:=h;injection h with h;subst h;simp[Instr.sameBits]|str=>obtain⟨h,_⟩:=h;injection h with h;subst h;simp only[Instr.sameBits];exact(bytes_beq _ _).2 rfl|st R=>obtain⟨vs,rfl,hr⟩:=h;have e:=cJ R x vs hp hr;subst e;simp only[Instr.sameBits,beq_self_eq_true,Bool.true_and];exact wL _ fun u hu=>Cw R x hp u hu _|_=>first|cases hp|cases hv)
 simp[Instr.keyThatStays,hs]
section
variable {E:Env} {w:World} {M:Mem}
theorem JT(hE:aI E): ∀(fs:List Field)(R:Ty)(off:Nat),bX E.ty fs R off=true→kE E.ty E.cmp fs=true→ ∀(x:R.den)(xs:Array Value),off+R.cells≤xs.size→aH R x w M ((xs.toList.drop off).take R.cells)→ ∀f,f∈fs→f.name≠ "_" ∧ ∃(T:Ty)(y:T.den)(v:Value),E.ty f.type=some T∧mU E f.type T∧dep T≤dep R∧(Go.part f.type xs f.offset).run E.P w= .ok v w∧dc T y w M v:=by
 (have one: ∀(f:Field)(T:Ty)(off:Nat)(y:T.den)(xs:Array Value),Nat.beq f.offset off=true→rL E.ty f.type T=true→(match E.ty f.type with|some (.int _)=>true|some .bool=>true|some .str=>true|some (.st _)=>E.cmp f.type|_=>false)=true→off+T.cells≤xs.size→aH T y w M ((xs.toList.drop off).take T.cells)→ ∃v:Value,E.ty f.type=some T∧mU E f.type T∧(Go.part f.type xs f.offset).run E.P w= .ok v w∧dc T y w M v:=by intro f T off y xs h1 h2 hc hx hr;have lJ:=y6 h1;(have hT:E.ty f.type=some T:=by unfold rL at h2;split at h2;(·rename_i U hU;rw[Ty.dw h2]at hU;exact hU);·cases h2);have hf:=hE.facts hT;rw[hT]at hc;(have hk:mU E f.type T:=by cases T<;>first|trivial|exact hc|cases hc);(have Jl:dc T y w M (valOf T ((xs.toList.drop off).take T.cells)):=by have:=jn hf.val hr;have hv:=hf.val;cases T<;>first|exact this|cases hv);exact⟨_,hT,hk,by rw[lJ];exact lr hf hx,Jl⟩)
 intro fs;induction fs with|nil=>intro R off h;cases h|cons f fs ihf=>intro R off h hc x xs hx hr g hg;simp only[kE,z8]at hc;cases fs with|nil=>simp only[bX,z8,Bool.not_eq_true']at h;obtain⟨⟨⟨⟨h1,h2⟩,h3⟩,h4⟩,h5⟩:=h;rcases wl hg with rfl|hg;(·obtain⟨v,e1,e2,e3,e4⟩:=one g R off x xs h1 h2 hc.1 hx hr;exact⟨by simpa using h5,R,x,v,e1,e2,x8,e3,e4⟩);(·cases hg)|cons f2 fs2=>cases R with|pair a b=>simp only[bX,z8,Bool.not_eq_true']at h;obtain⟨⟨⟨⟨⟨h1,h2⟩,h3⟩,h4⟩,h5⟩,h6⟩:=h;simp only[Ty.cells]at hx hr;obtain⟨va,vb,hv,MD,Tw⟩:=hr;have A5:=bV _ _ _ _ _ MD;have hlb:=bV _ _ _ _ _ Tw;(have e1:(xs.toList.drop off).take a.cells=va:=by have:=congrArg (List.take a.cells) hv;rw[List.take_take,Nat.min_eq_left v6,←A5,List.take_left]at this;rw[←A5];exact this);(have e2:(xs.toList.drop (off+a.cells)).take b.cells=vb:=by have:=congrArg (List.drop a.cells) hv;rw[List.drop_take,List.drop_drop,←A5,List.drop_left,A5]at this;rw[show a.cells+b.cells-a.cells=b.cells from by omega]at this;exact this);rcases wl hg with rfl|hg;(·obtain⟨v,e3,e4,e5,e6⟩:=one g a off x.1 xs h1 h2 hc.1 v6 (by rw[e1];exact MD);exact⟨by simpa using h5,a,x.1,v,e3,e4,by simp only[dep];omega,e5,e6⟩);(·obtain⟨n1,T,y,v,e3,e4,e5,e6⟩:=ihf b (off+a.cells) h6 hc.2 x.2 xs v6 (by rw[e2];exact Tw) g hg;exact⟨n1,T,y,v,e3,e4,by simp only[dep];omega,e6⟩)|_=>simp only[bX]at h;cases h
theorem Nj {V:Ty} (hV:V.val=true): ∀(m k:Nat)(x:(rowOf V (m+1)).den)(xs:Array Value),(k+(m+1))*V.cells≤xs.size→aH (rowOf V (m+1)) x w M ((xs.toList.drop (k*V.cells)).take ((m+1)*V.cells))→ ∀i,k≤i→i<k+(m+1)→ ∃y:V.den,aH V y w M ((xs.toList.drop (i*V.cells)).take V.cells):=by
 intro m;induction m with|zero=>intro k x xs hx hr i h1 h2;(have:i=k:=by omega);subst this;simp only[Nat.zero_add,Nat.one_mul]at hr;exact⟨x,hr⟩|succ m ih=>intro k x xs hx hr i h1 h2;obtain⟨va,vb,hv,MD,Tw⟩:=hr;have A5:=bV _ _ _ _ _ MD;have hle:V.cells≤(m+1+1)*V.cells:=Nat.le_mul_of_pos_left _ v6;(have e1:(xs.toList.drop (k*V.cells)).take V.cells=va:=by have:=congrArg (List.take V.cells) hv;rw[List.take_take,Nat.min_eq_left hle,←A5,List.take_left]at this;rw[←A5];exact this);(have e2:(xs.toList.drop ((k+1)*V.cells)).take ((m+1)*V.cells)=vb:=by have:=congrArg (List.drop V.cells) hv;rw[List.drop_take,List.drop_drop,←A5,List.drop_left,A5]at this;rw[show(m+1+1)*V.cells-V.cells=(m+1)*V.cells from by rw[Nat.add_mul (m+1) 1];omega,show k*V.cells+V.cells=(k+1)*V.cells from by rw[Nat.add_mul,Nat.one_mul]]at this;exact this);by_cases Hw:i=k;(·subst Hw;exact⟨x.1,by rw[e1];exact MD⟩);·exact ih (k+1) x.2 xs (by rw[show k+1+(m+1)=k+(m+1+1)from by omega];exact hx) (by rw[e2];exact Tw) i v6 v6
theorem mn (hE : aI E) : ∀ (d : Nat) (K : Ty) (t : Nat) (x : K.den) (v : Value), E.ty t = some K → mU E t K → dc K x w M v → dep K ≤ d → ∀ em, (Instr.checkKey em (d + 1) t v).run E.P w = .ok () w := by
  intro d
  induction d with
  | zero =>
    intro K t x v hT hk hv hd em
    have hf := hE.facts hT
    obtain ⟨dd, hu, hs⟩ := hf.sZ
    rw [Instr.checkKey]
    simp only [Sem.run_bind, run_underlying hu, Result.andThen_ok]
    cases K with
    | int k => cases dd <;> first | cases hs | (obtain ⟨hv, _⟩ := hv; injection hv with hv; subst hv; rfl)
    | bool => have hv : [v] = [.bool x] := hv; injection hv with hv; subst hv; cases dd <;> first | rfl | cases hs
    | str => obtain ⟨hv, _⟩ := hv; injection hv with hv; subst hv; cases dd <;> first | rfl | cases hs
    | st R => simp only [dep] at hd; omega
    | _ => cases hk
  | succ d ih =>
    intro K t x v hT hk hv hd em
    have hf := hE.facts hT
    obtain ⟨dd, hu, hs⟩ := hf.sZ
    rw [Instr.checkKey]
    simp only [Sem.run_bind, run_underlying hu, Result.andThen_ok]
    cases K with
    | int k => cases dd <;> first | cases hs | (obtain ⟨hv, _⟩ := hv; injection hv with hv; subst hv; rfl)
    | bool => have hv : [v] = [.bool x] := hv; injection hv with hv; subst hv; cases dd <;> first | rfl | cases hs
    | str => obtain ⟨hv, _⟩ := hv; injection hv with hv; subst hv; cases dd <;> first | rfl | cases hs
    | st R =>
      obtain ⟨vs, rfl, hr⟩ := hv
      have hlen := bV _ _ _ _ _ hr
      obtain ⟨_, _, cZ⟩ := yE hE hk
      simp only [dep] at hd
      rcases cZ with ⟨fs, jO, hfc, _⟩ | ⟨m, e, jO, hec⟩
      · rw [hu] at jO
        injection jO with jO
        subst jO
        simp only
        rw [← Array.forIn_toList]
        have each := JT hE fs.toList R 0 hs hfc x vs.toArray (by simp [hlen]) (by simp only [List.drop_zero]; rw [wt (by simp [hlen])]; exact hr)
        generalize fs.toList = L at each
        induction L with
        | nil => simp
        | cons f L ihL =>
          obtain ⟨hn, T, y, u, hTy, hkT, hdT, p1, dL⟩ := each f (y8 ..)
          have p2 := ih T f.type y u hTy hkT dL v6 em
          simp only [List.forIn_cons, Sem.run_bind, hn, ne_eq, not_false_eq_true, if_true, Result.andThen_ok, p1, p2, Sem.run_pure]
          have hL := ihL fun g hg => each g (y7 _ hg)
          simp only [Sem.run_bind, ne_eq, Sem.run_pure] at hL
          exact hL
      · rw [hu] at jO
        injection jO with jO
        subst jO
        simp only [di] at hs
        split at hs
        · rename_i V hV
          simp only [z8] at hs
          obtain ⟨⟨⟨h1, h2⟩, h3⟩, h4⟩ := hs
          have h4 := Nat.le_of_ble_eq_true h4
          obtain ⟨m', rfl⟩ : ∃ m', m = m' + 1 := ⟨m - 1, by omega⟩
          have hR := Ty.dw h1
          subst hR
          have hfV := hE.facts hV
          have hkV : mU E e V := by
            unfold wq at hec
            rw [hV] at hec
            cases V <;> first | trivial | exact hec | cases hec
          have hdV : dep V ≤ d := by
            have : ∀ n, dep V ≤ dep (rowOf V (n + 1)) := by
              intro n
              cases n with
              | zero => exact x8
              | succ n => simp only [rowOf, dep]; omega
            have := this m'
            omega
          have Nk := rU V (m' + 1)
          have each := Nj (w := w) (M := M) h2 m' 0 x vs.toArray (by simp [hlen, Nk]) (by simp only [Nat.zero_mul, List.drop_zero]; rw [wt (by simp [hlen, Nk])]; exact hr)
          simp only [Std.Legacy.Range.forIn_eq_forIn_range', Std.Legacy.Range.size, Nat.sub_zero, Nat.add_one_sub_one, Nat.div_one]
          have Ux : ∀ i, i ∈ List.range' 0 (m' + 1) → ∃ y : V.den, i < m' + 1 ∧ aH V y w M ((vs.toArray.toList.drop (i * V.cells)).take V.cells) := by
            intro i hi
            have zZ : i < m' + 1 := by simpa using hi
            obtain ⟨y, hy⟩ := each i (x9) v6
            exact ⟨y, zZ, hy⟩
          generalize List.range' 0 (m' + 1) = is at Ux
          induction is with
          | nil => simp
          | cons i is ihL =>
            obtain ⟨y, hi, hy⟩ := Ux i (y8 ..)
            have hle : i * V.cells + V.cells ≤ vs.toArray.size := by
              rw [List.size_toArray, hlen, Nk]
              calc i * V.cells + V.cells = (i + 1) * V.cells := by rw [Nat.add_mul, Nat.one_mul]
                _ ≤ (m' + 1) * V.cells := Nat.mul_le_mul_right _ hi
            have p1 := lr hfV (w := w) (cs := vs.toArray) (off := i * V.cells) hle
            have Jl : dc V y w M (valOf V ((vs.toArray.toList.drop (i * V.cells)).take V.cells)) := by
              have := jn hfV.val hy
              have hv := hfV.val
              cases V <;> first | exact this | cases hv
            have p2 := ih V e y _ hV hkV Jl hdV em
            simp only [List.forIn_cons, Sem.run_bind, hfV.sizeOf w, Result.andThen_ok, p1, p2, Sem.run_pure]
            have hL := ihL fun j hj => Ux j (y7 _ hj)
            simp only [Sem.run_bind, Sem.run_pure] at hL
            exact hL
        · cases hs
    | _ => cases hk
/-! ### A map's entries -/
def oO(w:World)(M:Mem)(K V:Ty):List (K.den×V.den)→List MapEntry→Prop|[],[]=>True|y::es,e::l=>(∃ca cb,e.key=valOf K ca∧aH K y.1 w M ca∧e.val=valOf V cb∧aH V y.2 w M cb)∧oO w M K V es l|_,_=>False
theorem qk {K V:Ty} : ∀(es:List (K.den×V.den))(l:List MapEntry),l.length=es.length→(∀(i:Nat)(y:K.den×V.den),es[i]?=some y→ ∃(e:MapEntry)(ca cb:List Value),l[i]?=some e∧e.key=valOf K ca∧aH K y.1 w M ca∧e.val=valOf V cb∧aH V y.2 w M cb)→oO w M K V es l|[],[],_,_=>trivial|[],_::_,h,_=>(by simp at h)|_::_,[],h,_=>(by simp at h)|y::es,e::l,hl,h=>by obtain⟨e',ca,cb,h1,h2⟩:=h 0 y rfl;simp only[List.getElem?_cons_zero,y5]at h1;subst h1;exact⟨⟨ca,cb,h2⟩,qk es l (by simpa using hl) fun i z hz=>by simpa using h (i+1) z (by simpa using hz)⟩
theorem mX {T:Ty} {x:T.den} {vs:List Value} (hT:T.val=true)(h:aH T x w M vs):dc T x w M (valOf T vs):=by have:=jn hT h;cases T<;>first|exact this|cases hT
def ia {K V:Type} (eq:K→K→Bool):List (K×V)→K→Option Nat|[],_=>none|p::r,k=>bif eq k p.1 then some 0 else(match ia eq r k with|some i=>some (i+1)|none=>none)
theorem tA {K V:Type} (eq:K→K→Bool)(k:K): ∀(es:List (K×V)),aN eq es k=(ia eq es k).bind fun i=>(es[i]?).map (·.2)|[]=>rfl|p::r=>by simp only[aN,ia];cases eq k p.1 with|true=>rfl|false=>simp only[cond_false,tA eq k r];cases ia eq r k<;>rfl
theorem oP {K V:Type} (eq:K→K→Bool)(k:K)(v:V): ∀(es:List (K×V)),cU eq es k v=(match ia eq es k with|some i=>es.set i (k,v)|none=>es++ [(k,v)])|[]=>rfl|p::r=>by simp only[cU,ia];cases eq k p.1 with|true=>rfl|false=>simp only[cond_false,oP eq k v r];cases ia eq r k<;>rfl
theorem wM {K V:Type} (eq:K→K→Bool)(k:K): ∀(es:List (K×V))(i:Nat),ia eq es k=some i→ ∃p,es[i]?=some p∧eq k p.1=true|[],i,h=>(by cases h)|p::r,i,h=>by simp only[ia]at h;cases hb:eq k p.1 with|true=>rw[hb]at h;injection h with h;subst h;exact⟨p,rfl,hb⟩|false=>rw[hb]at h;simp only[cond_false]at h;split at h;(·rename_i j hj;injection h with h;subst h;obtain⟨q,h1,h2⟩:=wM eq k r j hj;exact⟨q,by simpa using h1,h2⟩);·cases h
theorem RG {K:Ty} {x y:K.den} {u v:Value} (hp:ew K=true)(hv:K.val=true)(hx:dc K x w M u)(hy:dc K y w M v):x=y→u=v:=by
 intro e;subst e;cases K with|int k=>have hx:aH (.int k) x w M [u]:=hx;have hy:aH (.int k) x w M [v]:=hy;have:=(cJ _ _ _ hp hx).trans (cJ _ _ _ hp hy).symm;simpa using this|bool=>have hx:aH .bool x w M [u]:=hx;have hy:aH .bool x w M [v]:=hy;have:=(cJ _ _ _ hp hx).trans (cJ _ _ _ hp hy).symm;simpa using this|str=>have hx:aH .str x w M [u]:=hx;have hy:aH .str x w M [v]:=hy;have:=(cJ _ _ _ hp hx).trans (cJ _ _ _ hp hy).symm;simpa using this|st R=>obtain⟨vs,rfl,h1⟩:=hx;obtain⟨us,rfl,h2⟩:=hy;rw[cJ R _ _ hp h1,cJ R _ _ hp h2]|_=>first|cases hp|cases hv
def ib {K V:Ty} (es:List (K.den×V.den))(l:List MapEntry)(k:K.den)(i0:Nat)(res:Option (Nat×Value)):Prop:=match ia (fO K) es k with|none=>res=none|some i=> ∃e,l[i]?=some e∧res=some (i0+i,e.val)
theorem Cy(hE:aI E) {K V:Ty} {kt:Nat} (hT:E.ty kt=some K)(hk:Ca E kt K=true) {k:K.den} {kv:Value} (rm:dc K k w M kv): ∀(es:List (K.den×V.den))(l:List MapEntry)(i0:Nat),oO w M K V es l→ ∃res,(Instr.findAsking kt kv l i0).run E.P w= .ok res w∧ib es l k i0 res|[],[],i0,_=>⟨none,by simp[Instr.findAsking],rfl⟩|[],_::_,_,h=>h.elim|_::_,[],_,h=>h.elim|y::es,e::l,i0,h=>by obtain⟨⟨ca,cb,h1,h2,h3,h4⟩,h5⟩:=h;obtain⟨hp,MJ,hd,oK⟩:=kJ hk;(have hrk:dc K y.1 w M e.key:=by rw[h1];exact mX oK h2);have heq:(Op.equal kt kv e.key).run E.P w= .ok (fO K k y.1) w:=Un hE 9999 K kt k y.1 kv e.key _ (hE.facts hT) MJ rm hrk (Uw K k y.1 hp) v6;cases hb:fO K k y.1 with|true=>rw[hb]at heq;exact⟨some (i0,e.val),by simp[Instr.findAsking,heq],by simp only[ib,ia,hb,cond_true];exact⟨e,rfl,rfl⟩⟩|false=>rw[hb]at heq;obtain⟨res,hr,hf⟩:=Cy hE hT hk rm es l (i0+1) h5;refine⟨res,by simp[Instr.findAsking,heq,hr],?_⟩;simp only[ib,ia,hb,cond_false]at hf⊢;cases hm:ia (fO K) es k with|none=>rw[hm]at hf;exact hf|some i=>rw[hm]at hf;obtain⟨e',A2,lW⟩:=hf;exact⟨e',by simpa using A2,by rw[lW];simp only[y5,Prod.mk.injEq,and_true];omega⟩
theorem wN {K V:Ty} {d:TypeDesc} (hs:(match K with|.int l=>(match d with|.int k=>lE k l|_=>false)|.bool=>(match d with|.bool=>true|_=>false)|.str=>(match d with|.string=>true|_=>false)|_=>false)=true) {k:K.den} {kv:Value} (rm:dc K k w M kv): ∀(es:List (K.den×V.den))(l:List MapEntry)(i0:Nat),oO w M K V es l→ ∃res,Instr.findNow d kv l i0=some res∧ib es l k i0 res|[],[],i0,_=>⟨none,rfl,rfl⟩|[],_::_,_,h=>h.elim|_::_,[],_,h=>h.elim|y::es,e::l,i0,h=>by obtain⟨⟨ca,cb,h1,h2,h3,h4⟩,h5⟩:=h;(have wO:Instr.sameNow d kv e.key=some (fO K k y.1):=by cases K with|int kk=>have rm:aH (.int kk) k w M [kv]:=rm;have e1:=cJ (.int kk) k _ rfl rm;have e2:=cJ (.int kk) y.1 _ rfl h2;simp only[fq,List.cons.injEq,and_true]at e1 e2;subst e1;rw[h1,e2];(cases d<;>first|(cases hs;done)|skip);simp only[Instr.sameNow,valOf,List.headD_cons,if_true,fO];congr 1|bool=>have rm:aH .bool k w M [kv]:=rm;have e1:=cJ .bool k _ rfl rm;have e2:=cJ .bool y.1 _ rfl h2;simp only[fq,List.cons.injEq,and_true]at e1 e2;subst e1;rw[h1,e2];(cases d<;>first|rfl|(cases hs;done))|str=>have rm:aH .str k w M [kv]:=rm;have e1:=cJ .str k _ rfl rm;have e2:=cJ .str y.1 _ rfl h2;simp only[fq,List.cons.injEq,and_true]at e1 e2;subst e1;rw[h1,e2];(have hb: ∀a b:List UInt8,((⟨a.toArray⟩:ByteArray)==⟨b.toArray⟩)=decide (a=b):=by intro a b;rw[Bool.eq_iff_iff,bytes_beq,decide_eq_true_iff];constructor;(·intro h;injection h with h;simpa using congrArg Array.toList h);·intro h;rw[h]);(cases d<;>first|(cases hs;done)|skip);simp only[Instr.sameNow,valOf,List.headD_cons,hb,fO]|_=>cases hs);cases hb:fO K k y.1 with|true=>rw[hb]at wO;exact⟨some (i0,e.val),by simp[Instr.findNow,wO],by simp only[ib,ia,hb,cond_true];exact⟨e,rfl,rfl⟩⟩|false=>rw[hb]at wO;obtain⟨res,hr,hf⟩:=wN hs rm es l (i0+1) h5;refine⟨res,by simp[Instr.findNow,wO,hr],?_⟩;simp only[ib,ia,hb,cond_false]at hf⊢;cases hm:ia (fO K) es k with|none=>rw[hm]at hf;exact hf|some i=>rw[hm]at hf;obtain⟨e',A2,lW⟩:=hf;exact⟨e',by simpa using A2,by rw[lW];simp only[y5,Prod.mk.injEq,and_true];omega⟩
theorem oQ(hE:aI E) {K V:Ty} {kt:Nat} (hT:E.ty kt=some K)(hk:Ca E kt K=true) {k:K.den} {kv:Value} (rm:dc K k w M kv)(es:List (K.den×V.den))(l:List MapEntry)(h:oO w M K V es l): ∃res,(Instr.findKey kt kv l).run E.P w= .ok res w∧ib es l k 0 res:=by
 obtain⟨d,hu,hs⟩:=(hE.facts hT).sZ;(have now: ∀res,Instr.findNow d kv l 0=some res→(Instr.findKey kt kv l).run E.P w= .ok res w:=fun res hr=>by simp[Instr.findKey,run_underlying hu,hr])
 (have ask:Instr.findNow d kv l 0=none→ ∃res,(Instr.findKey kt kv l).run E.P w= .ok res w∧ib es l k 0 res:=fun hr=>by obtain⟨res,h1,h2⟩:=Cy hE hT hk rm es l 0 h;exact⟨res,by simp[Instr.findKey,run_underlying hu,hr,h1],h2⟩)
 cases K with|int kk=>obtain⟨res,h1,h2⟩:=wN (d:=d) (by cases d<;>first|exact hs|cases hs) rm es l 0 h;exact⟨res,now res h1,h2⟩|bool=>obtain⟨res,h1,h2⟩:=wN (d:=d) (by cases d<;>first|exact hs|cases hs) rm es l 0 h;exact⟨res,now res h1,h2⟩|str=>obtain⟨res,h1,h2⟩:=wN (d:=d) (by cases d<;>first|exact hs|cases hs) rm es l 0 h;exact⟨res,now res h1,h2⟩|st R=>(match es,l,h with|[],[],_=>exact⟨none,now none rfl,rfl⟩|y::es,e::l,h=>refine ask ?_;simp only[di]at hs;cases d<;>first|(cases hs;done)|rfl)|_=>cases hk
end
end
section
variable {en:Prop} [lj en]
open Go.RowKit Go.MapKept
section
variable {E:Env} {n:Nat} {w0:World} {S0:Cx} {s:St} {a:Act} {w:World} {ν:Nat→Value} {S:Nat→Prop} {F:dI} {o:Oper} {K:St→Prop} {Q:Exit→Act→World→Prop}
theorem Cz(hE:aI E) {t:Nat} {A B:Ty} (hT:E.ty t=some (.mp A B)): ∃k v,E.P.underlying t=some (.map k v)∧E.ty k=some A∧E.ty v=some B∧A.val=true∧B.val=true∧aR A=0∧aR B=0:=by
 have hf:=hE.facts hT;obtain⟨d,hu,hs⟩:=hf.sZ;have ho:=hf.own;simp only[aR]at ho;cases d with|map k v=>simp only[di,z8]at hs;obtain⟨⟨⟨h1,h2⟩,h3⟩,h4⟩:=hs;(have is: ∀(u:Nat)(U:Ty),rL E.ty u U=true→E.ty u=some U:=by intro u U h;unfold rL at h;split at h;(·rename_i X hX;rw[Ty.dw h]at hX;exact hX);·cases h);exact⟨k,v,hu,is _ _ h1,is _ _ h2,h3,h4,v6,v6⟩|_=>simp only[di]at hs;cases hs
theorem Pn(hE:aI E) {t kt:Nat} (hk:E.mapKey t=some kt) {k v:Nat} (hu:E.P.underlying t=some (.map k v)):kt=k:=by
 have:=hE.mapKey t kt hk;unfold Pa at this;rw[hu]at this;exact y6 this
theorem Nl(hE:aI E)(h:Full n w0 S0 s a w ν S)(ho:bL n o=true) {t:Nat} (aK:o.op= .makeMap t none)(ab:aZ E (aq E F s o) (fun l=>K (s.fin o.dst l))):o.wp E.P a w (fun a' w'=> ∃s',K s'∧Rel n w0 S0 s' a' w') Q:=by
 simp only[aq,aK]at ab;split at ab;(·rename_i A B d hT hd;split at ab;(·rename_i hl;simp only[aZ,St.fin,hd]at ab;obtain⟨k,v,hu,_,_,_,_,ZQ,Po⟩:=Cz hE hT;(have hr:(execOp a.eval o).run E.P w= .ok (.value (.map (some w.heap.size))) (w.alloc (.map #[] 0)):=by simp only[execOp,aK,Instr.makeMap,Option.map_none,Sem.run_bind,Result.andThen_ok,Sem.run_pure];rfl);refine cO hr ⟨_,ab,?_⟩;rw[hd];have hh:(w.alloc (.map #[] 0)).heap[w.heap.size]?=some (.map #[] 0):=_root_.Go.heap_alloc_new w _;refine(h.new (b:=.mp A B []) (p:=.lmap d) (v:=.map (some w.heap.size)) (val:=.map (some w.heap.size)) (bo ho d hd) hl (dK w _ none) (fun g hg=>h.beyond (by injection hg with hg;omega)) ?_ ?_).rel;(·refine⟨ZQ,Po,by simp,w.heap.size,#[],0,by simp,h.W.size _ (x8),fun hS=>absurd (h.W.lt _ hS) (by simp),hh,⟨rfl,fun i e hi=>by simp at hi⟩,rfl,fun i y hy=>by simp at hy⟩);·simp only[ag];exact⟨⟨_,aw _ _ _⟩,by simp,_,rfl⟩);·exact ab.elim)
 ·exact ab.elim
theorem Full.entries(h:Full n w0 S0 s a w ν S) {A B:Ty} {p:PV} {v:Value} {es:List (A.den×B.den)} (hx:oD F s.bl A B p=some es)(hp:ag h.c p v):(v= .map none∧es=[])∨ ∃(r:Nat)(ay:Array MapEntry)(clock:Nat),v= .map (some r)∧w.heap[r]?=some (.map ay clock)∧ru ay clock∧ay.size=es.length∧oO w ⟨S,aJ w0 S0⟩ A B es ay.toList:=by
 cases p with|iv U y=>simp only[oD]at hx;obtain⟨e,hx⟩:=Ty.bE hx;subst e;simp only at hx;subst hx;simp only[ag]at hp;obtain⟨_,hp⟩:=hp;have hp:aH (.mp A B) y w ⟨S,aJ w0 S0⟩ [v]:=hp;obtain⟨_,hc⟩:=hp;rcases hc with⟨hv,he⟩|⟨r,ay,clock,hv,hS,hh,hb,hs,hr⟩;(·injection hv with hv;exact .inl ⟨hv,he⟩);(·injection hv with hv;exact .inr ⟨r,ay,clock,hv,hh,hb,hs,qk _ _ (by simpa using hs) (by simpa using hr)⟩)|lmap id=>simp only[oD]at hx;split at hx;(·rename_i A' B' ys hl;obtain⟨hl,_⟩:=cM hl;obtain⟨e,hx⟩:=Ty.bE hx;injection e with e1 e2;subst e1;subst e2;simp only at hx;subst hx;simp only[ag]at hp;obtain⟨dy,wm,h0,r,ay,clock,h1,h2,h3,h4,h5,h6,h7⟩:=h.W.cD _ _ hl;refine .inr ⟨r,ay,clock,?_,h4,h5,h6,qk _ _ (by simpa using h6) (by simpa using h7)⟩;rw[hp.2.1];exact h1);(·cases hx)|dV=>simp only[oD,y5]at hx;simp only[ag]at hp;exact .inl ⟨hp,hx.symm⟩|_=>simp only[oD]at hx;cases hx
theorem JU: ∀(T:Ty),ew T=true→T.flat=true:=by intro T;induction T<;>simp_all[ew,Ty.flat]
theorem Full.key(h:Full n w0 S0 s a w ν S) {A:Ty} {kt:Nat} (hk:Ca E kt A=true) {q:PV} {v:Value} {k:A.den} (hx:exp F s.bl A q=some k)(hq:ag h.c q v)(M:Mem):dc A k w M v:=by
 obtain⟨hp,_,_,_⟩:=kJ hk;have A4:=JU A hp;have hR:Reads F s h.c ⟨fun b=>b<w.heap.size,aJ w0 S0⟩:=⟨rfl,h.W.cD,fun b hb=>h.W.lt b hb,fun id _⟨b,hb⟩g hg=>(h.iF hb hg).2.2⟩
 exact HJ A4 (gC hR (.inl (FO A A4)) hx hq)
theorem Uy: ∀(T:Ty),T.O2=true→ ∃vs,dM T=some vs:=by
 intro T;induction T with|pair a b jE iP=>intro h;simp only[Ty.O2,z8]at h;obtain⟨x,hx⟩:=jE h.1;obtain⟨y,hy⟩:=iP h.2;exact⟨x++y,by simp only[dM,hx,hy]⟩|st t ih=>intro h;exact ih h|_=>intro h;first|exact⟨_,rfl⟩|cases h
theorem yG {T:Ty} {z:Value} {M:Mem} (hz:rK (some z) T=true)(hT:T.O2=true)(hv:T.val=true):dc T (er T) w M z:=by
 obtain⟨vs,uN⟩:=Uy T hT;have hr:=rX (w:=w) (M:=M) T vs hT uN;unfold rK at hz;rw[uN]at hz;simp only at hz;split at hz;(·split at hz;(·rename_i cs;have:=nJ hz;exact⟨vs,by rw[←this],hr⟩);·cases hz)
 ·split at hz;(·rename_i cw _ u;have:=qd hz;subst this;cases T<;>first|exact hr|(cases hv;done)|(exact absurd rfl (cw _)));·cases hz
theorem HK {c:Ctx} {T:Ty} {z:Value} {cs:List PV} (hz:rK (some z) T=true)(hv:T.val=true)(hc:zeroCells T=some cs)(ME:z.cells.size=T.cells):ag c (join T cs) z:=by
 obtain⟨vs,JJ,bF,h1⟩:=rT (c:=c) T cs hc;have hz':=mQ hz JJ;(have oK:z=valOf T vs:=by unfold rK at hz;rw[JJ]at hz;simp only at hz;split at hz;(·split at hz;(·rename_i uL;have:=nJ hz;simp only[valOf];rw[←this]);·cases hz);·split at hz;(·rename_i cw _ u;have:=qd hz;subst this;cases T<;>first|rfl|(cases hv;done)|(exact absurd rfl (cw _)));·cases hz)
 rw[oK];exact lq (by rw[←hz',Array.length_toList,ME]) hv h1 bF
theorem jP {c:Ctx} {ps:List PV} {vs:List Value} (h:aj c ps vs):ag c (.bG ps) (.tuple vs.toArray):=by simp only[ag];exact⟨vs,rfl,h⟩
theorem mq {c:Ctx} {p q:PV} {u v:Value} (h1:ag c p u)(h2:ag c q v):aj c [p,q] [u,v]:=by simp only[aj];exact⟨_,_,rfl,h1,_,_,rfl,h2,rfl⟩
def rY(z:Value):Option (Nat×Value)→Value|some (_,v)=>v|none=>z
theorem ql {P:Program} {t kt ve:TypeId} {xv kv z:Value} {ok:Bool} {l:List MapEntry} {res:Option (Nat×Value)} (hu:P.underlying t=some (.map kt ve))(CA:(xv= .map none∧l=[])∨ ∃(r:Nat)(ay:Array MapEntry)(clock:Nat),xv= .map (some r)∧w.heap[r]?=some (.map ay clock)∧ay.toList=l)(HL: ∀em,(Instr.checkKey em 10000 kt kv).run P w= .ok () w)(ic:(Instr.findKey kt kv l).run P w= .ok res w)(hz:(zeroValue ve).run P w= .ok z w):(Instr.lookup t xv kv ok).run P w= .ok (if ok then .tuple #[rY z res,.bool res.isSome]else rY z res) w:=by
 unfold Instr.lookup;rcases CA with⟨rfl,rfl⟩|⟨r,ay,clock,rfl,hh,rfl⟩;(·cases res with|none=>cases ok<;>simp[run_underlying hu,HL,ic,hz,rY]|some p=>cases ok<;>simp[run_underlying hu,HL,ic,rY])
 ·cases res with|none=>cases ok<;>simp[run_underlying hu,MapKept.run_getObj_map hh,HL,ic,hz,rY]|some p=>cases ok<;>simp[run_underlying hu,MapKept.run_getObj_map hh,HL,ic,rY]
theorem RH(hE:aI E)(h:Full n w0 S0 s a w ν S)(ho:bL n o=true) {t:Nat} {x y:Operand} {ok:Bool} (aK:o.op= .lookup t x y ok)(ab:aZ E (aq E F s o) (fun l=>K (s.fin o.dst l))):o.wp E.P a w (fun a' w'=> ∃s',K s'∧Rel n w0 S0 s' a' w') Q:=by
 simp only[aq,aK,qb]at ab;have hx:=h.ev (aA ho (x:=x) (by simp[aK,Op.operands]));have hy:=h.ev (aA ho (x:=y) (by simp[aK,Op.operands]));split at ab;(·rename_i A B kt hT hkt;split at ab;(·rename_i es k Uz hk JV;obtain⟨k',ve,hu,hTA,hTB,TE,Jn,ZQ,Po⟩:=Cz hE hT;have Ur:=Pn hE hkt hu;subst Ur;obtain⟨hp,MJ,RC,_⟩:=kJ JV;have EZ:=h.entries Uz hx;have rm:=h.key JV hk hy ⟨S,aJ w0 S0⟩;obtain⟨i,hi,cY,hby,JF,z,hz,ME⟩:=(hE.facts hTB).info;rw[hz]at JF;(have bB2:(zeroValue ve).run E.P w= .ok z w:=by simp only[zeroValue,typeInfo,Sem.run_bind,run_program,Result.andThen_ok,hi,hz,Sem.run_pure]);have HL: ∀em,(Instr.checkKey em 10000 kt (a.eval y)).run E.P w= .ok () w:=fun em=>mn hE 9999 A kt k _ hTA MJ rm v6 em;(obtain⟨res,l,CA,ic,bQ,hl⟩: ∃(res:Option (Nat×Value))(l:List MapEntry),((a.eval x= .map none∧l=[])∨ ∃(r:Nat)(ay:Array MapEntry)(clock:Nat),a.eval x= .map (some r)∧w.heap[r]?=some (.map ay clock)∧ay.toList=l)∧(Instr.findKey kt (a.eval y) l).run E.P w= .ok res w∧ib es l k 0 res∧oO w ⟨S,aJ w0 S0⟩ A B es l:=by rcases EZ with⟨hv,rfl⟩|⟨r,ay,clock,hv,hh,hb,hs,hr⟩;(·obtain⟨res,h1,h2⟩:=oQ hE (V:=B) hTA JV rm [] [] trivial;exact⟨res,[],.inl ⟨hv,rfl⟩,h1,h2,trivial⟩);·obtain⟨res,h1,h2⟩:=oQ hE (V:=B) hTA JV rm es ay.toList hr;exact⟨res,ay.toList,.inr ⟨r,ay,clock,hv,hh,rfl⟩,h1,h2,hr⟩);(have Nn:(execOp a.eval o).run E.P w= .ok (.value (if ok then .tuple #[rY z res,.bool res.isSome]else rY z res)) w:=by simp only[execOp,aK,Sem.run_bind,ql (ok:=ok) hu CA HL ic bB2,Result.andThen_ok,Sem.run_pure]);cases hm:ia (fO A) es k with|none=>simp only[ib,hm]at bQ;subst bQ;(have E1:aN (fO A) es k=none:=by rw[tA,hm];rfl);have aT:=Nn;simp only[rY,Option.isSome_none]at aT;(have bB3:ag h.c (Cb B) z:=by unfold Cb;split;(·rename_i wK;exact bW Po (yG JF wK Jn) Jn);·split;(·rename_i cs ES;exact HK JF Jn ES ME);·simp only[ag]);split at ab;(·rename_i wK;rw[E1]at ab;refine h.val ho aT ?_ ab;simp only[Option.getD_none,Bool.false_eq_true,if_false];exact bW Po (yG JF wK Jn) Jn);(·exact h.val ho aT (by simpa using bB3) (ab.2 E1));(·refine h.val ho aT ?_ (ab.2 E1);have h2:ag h.c (.iv .bool false) (.bool false):=bM;simp only[if_true];exact jP (mq bB3 h2));(·obtain⟨v,hv,_⟩:=ab;rw[E1]at hv;cases hv);(·rename_i wK _;rw[E1]at ab;refine h.val ho aT ?_ ab;have h2:ag h.c (.iv .bool false) (.bool false):=bM;simp only[if_true];exact jP (mq (bW Po (yG JF wK Jn) Jn) h2));(·obtain⟨v,hv,_⟩:=ab;rw[E1]at hv;cases hv)|some j=>simp only[ib,hm]at bQ;obtain⟨e,he,rfl⟩:=bQ;obtain⟨yy,Jo,_⟩:=wM _ _ _ _ hm;(have Uh:aN (fO A) es k=some yy.2:=by rw[tA,hm];simp[Jo]);(have cg:dc B yy.2 w ⟨S,aJ w0 S0⟩ e.val:=by(have at_: ∀(es:List (A.den×B.den))(l:List MapEntry)(j:Nat)(yy:A.den×B.den)(e:MapEntry),oO w ⟨S,aJ w0 S0⟩ A B es l→es[j]?=some yy→l[j]?=some e→dc B yy.2 w ⟨S,aJ w0 S0⟩ e.val:=by intro es;induction es with|nil=>intro l j yy e _ h1;simp at h1|cons p es ih=>intro l j yy e hl h1 h2;cases l with|nil=>exact hl.elim|cons q l=>cases j with|zero=>simp only[List.getElem?_cons_zero,y5]at h1 h2;subst h1;subst h2;obtain⟨⟨ca,cb,_,_,h3,h4⟩,_⟩:=hl;rw[h3];exact mX Jn h4|succ j=>exact ih l j yy e hl.2 (by simpa using h1) (by simpa using h2));exact at_ es l j yy e hl Jo he);have aT:=Nn;simp only[rY,Option.isSome_some]at aT;have Tz:ag h.c (.iv B yy.2) e.val:=bW Po cg Jn;split at ab;(·rename_i wK;rw[Uh]at ab;exact h.val ho aT (by simpa using Tz) ab);(·exact h.val ho aT (by simpa using Tz) (ab.1 _ Uh));(·refine h.val ho aT ?_ (ab.1 _ Uh);have h2:ag h.c (.iv .bool true) (.bool true):=bM;simp only[if_true];exact jP (mq Tz h2));(·obtain⟨v,hv,nD⟩:=ab;rw[Uh]at hv;injection hv with hv;subst hv;exact h.val ho aT (by simpa using Tz) nD);(·rw[Uh]at ab;refine h.val ho aT ?_ ab;have h2:ag h.c (.iv .bool true) (.bool true):=bM;simp only[if_true];exact jP (mq Tz h2));·obtain⟨v,hv,nD⟩:=ab;rw[Uh]at hv;injection hv with hv;subst hv;refine h.val ho aT ?_ nD;have h2:ag h.c (.iv .bool true) (.bool true):=bM;simp only[if_true];exact jP (mq Tz h2));·exact ab.elim)
 ·exact ab.elim
theorem yH {T:Ty} {x:T.den} {M:Mem} {v:Value} (hT:T.val=true)(h:dc T x w M v):v=valOf T v.cells.toList∧aH T x w M v.cells.toList:=by
 refine⟨?_,mK hT h⟩;cases T with|st t=>obtain⟨vs,rfl,_⟩:=h;rfl|unit=>cases hT|pair a b=>cases hT|bG a b=>cases hT|_=>have hr:=mK hT h;have hl:=bV _ _ _ _ _ hr;simp only[Ty.cells]at hl;have h1:=wj _ _ _ _ _ h v (List.mem_singleton.2 rfl);cases v<;>first|rfl|(simp[Value.oneCell']at h1;done)
theorem nP(w:World)(r:Nat)(o:Obj):eP w { w with heap:=w.heap.setIfInBounds r o } (some r):=⟨rfl,rfl,rfl,by simp,fun k _ hk=>by have hkr:r≠k:=fun e=>hk (by rw[e]);simp[hkr],fun _=>x8⟩
theorem FP {w w':World} {M M':Mem} {A B:Ty} (hA:aR A=0)(hB:aR B=0)(hw: ∀b,M.S b→w'.heap[b]?=w.heap[b]?)(hS: ∀b,M.S b→M'.S b): ∀(es:List (A.den×B.den))(l:List MapEntry),oO w M A B es l→oO w' M' A B es l|[],[],_=>trivial|[],_::_,h=>h.elim|_::_,[],h=>h.elim|y::es,e::l,h=>by obtain⟨⟨ca,cb,h1,h2,h3,h4⟩,h5⟩:=h;exact⟨⟨ca,cb,h1,aD hw hS _ _ _ hA h2,h3,aD hw hS _ _ _ hB h4⟩,FP hA hB hw hS es l h5⟩
theorem wP {w:World} {M:Mem} {A B:Ty} : ∀(es:List (A.den×B.den))(l:List MapEntry),oO w M A B es l→l.length=es.length|[],[],_=>rfl|[],_::_,h=>h.elim|_::_,[],h=>h.elim|y::es,e::l,h=>by simp[wP es l h.2]
theorem wQ {w:World} {M:Mem} {A B:Ty} : ∀(es:List (A.den×B.den))(l:List MapEntry),oO w M A B es l→ ∀(i:Nat)(y:A.den×B.den),es[i]?=some y→ ∃(e:MapEntry)(ca cb:List Value),l[i]?=some e∧e.key=valOf A ca∧aH A y.1 w M ca∧e.val=valOf B cb∧aH B y.2 w M cb|[],[],_,i,y,hy=>(by simp at hy)|[],_::_,h,_,_,_=>h.elim|_::_,[],h,_,_,_=>h.elim|y::es,e::l,h,i,z,hz=>by cases i with|zero=>simp only[List.getElem?_cons_zero,y5]at hz;subst hz;obtain⟨⟨ca,cb,h1⟩,_⟩:=h;exact⟨e,ca,cb,rfl,h1⟩|succ i=>simpa using wQ es l h.2 i z (by simpa using hz)
theorem JW {w:World} {M:Mem} {A B:Ty} {y:A.den×B.den} {f:MapEntry} (hf: ∃ca cb,f.key=valOf A ca∧aH A y.1 w M ca∧f.val=valOf B cb∧aH B y.2 w M cb): ∀(es:List (A.den×B.den))(l:List MapEntry)(i:Nat),oO w M A B es l→oO w M A B (es.set i y) (l.set i f)|[],[],_,_=>trivial|[],_::_,_,h=>h.elim|_::_,[],_,h=>h.elim|z::es,e::l,i,h=>by cases i with|zero=>exact⟨hf,h.2⟩|succ i=>exact⟨h.1,JW hf es l i h.2⟩
theorem FQ {w:World} {M:Mem} {A B:Ty} {y:A.den×B.den} {f:MapEntry} (hf: ∃ca cb,f.key=valOf A ca∧aH A y.1 w M ca∧f.val=valOf B cb∧aH B y.2 w M cb): ∀(es:List (A.den×B.den))(l:List MapEntry),oO w M A B es l→oO w M A B (es++ [y]) (l++ [f])|[],[],_=>⟨hf,trivial⟩|[],_::_,h=>h.elim|_::_,[],h=>h.elim|z::es,e::l,h=>⟨h.1,FQ hf es l h.2⟩
theorem wR(hE:aI E)(h:Full n w0 S0 s a w ν S)(ho:bL n o=true) {t:Nat} {x y z:Operand} (aK:o.op= .mapUpdate t x y z∨o.op= .insert t x y z)(ab:aZ E (aq E F s o) (fun l=>K (s.fin o.dst l))):o.wp E.P a w (fun a' w'=> ∃s',K s'∧Rel n w0 S0 s' a' w') Q:=by
 (have ab:aZ E (match o.dst with|none=>mJ E F s.bl t (s.ev x) (s.ev y) (s.ev z)|some _=>.fail 79) (fun l=>K (s.fin o.dst l)):=by cases hd:o.dst with|none=>rcases aK with aK|aK<;>(simp only[aq,aK,hd]at ab;exact ab)|some d=>rcases aK with aK|aK<;>(simp only[aq,aK,hd]at ab;exact ab))
 (have mem: ∀u,u=x∨u=y∨u=z→qe u=true:=by intro u hu;refine aA ho ?_;rcases aK with aK|aK<;>rcases hu with rfl|rfl|rfl<;>simp[aK,Op.operands]);have hx:=h.ev (mem x (.inl rfl))
 have hy:=h.ev (mem y (.inr (.inl rfl)));have hz:=h.ev (mem z (.inr (.inr rfl)));(have Pp: ∀w',(Instr.mapUpdate t (a.eval x) (a.eval y) (a.eval z)).run E.P w= .ok () w'→(execOp a.eval o).run E.P w= .ok .skip w':=by intro w' hr;rcases aK with aK|aK<;>simp only[execOp,aK,Sem.run_bind,hr,Result.andThen_ok,Sem.run_pure])
 split at ab;(·rename_i hd;simp only[mJ]at ab;split at ab;(·rename_i A B kt hT hkt;split at ab;(·rename_i id cg;split at ab;(·rename_i A' B' zs hl;obtain⟨hl,_⟩:=cM hl;split at ab;(·rename_i es k v mT hk JV HD pQ hr3 hr4 hv;obtain⟨e',ov⟩:=Ty.bE mT;injection e' with e1 e2;subst e1;subst e2;simp only at ov;subst ov;obtain⟨hlen,hK⟩:=ab;obtain⟨k',ve,hu,hTA,hTB,TE,Jn,ZQ,Po⟩:=Cz hE hT;have Ur:=Pn hE hkt hu;subst Ur;obtain⟨hp,MJ,RC,_⟩:=kJ JV;have rm:=h.key JV hk hy ⟨S,aJ w0 S0⟩;have hvv:dc _ v w ⟨S,aJ w0 S0⟩ (a.eval z):=h.Ud Po hr3 hr4 hv hz;rw[cg]at hx;simp only[ag]at hx;obtain⟨_,kj,_⟩:=hx;obtain⟨dy,wm,h0,r,ay,clock,h1,h2,h3,h4,h5,h6,h7⟩:=h.W.cD _ _ hl;simp only[Full.c]at kj;simp only at h1 h2 h3 h4;have hl7:=qk (w:=w) (M:=⟨S,aJ w0 S0⟩) zs ay.toList (by simpa using h6) (by simpa using h7);obtain⟨res,ic,bQ⟩:=oQ hE (V:=B') hTA JV rm zs ay.toList hl7;have HL: ∀em,(Instr.checkKey em 10000 kt (a.eval y)).run E.P w= .ok () w:=fun em=>mn hE 9999 _ kt k _ hTA MJ rm v6 em;(have gD:aM (ν id)=some r:=by rw[h1];rfl);(have hf: ∀bb:Nat,∃ca cb,(⟨a.eval y,a.eval z,bb⟩:MapEntry).key=valOf A' ca∧aH A' k w ⟨S,aJ w0 S0⟩ ca∧(⟨a.eval y,a.eval z,bb⟩:MapEntry).val=valOf B' cb∧aH B' v w ⟨S,aJ w0 S0⟩ cb:=fun bb=>by obtain⟨g1,g2⟩:=yH TE rm;obtain⟨g3,g4⟩:=yH Jn hvv;exact⟨_,_,g1,g2,g3,g4⟩);(have fin: ∀(eZ:Array MapEntry)(ef:Nat),(Instr.mapUpdate t (a.eval x) (a.eval y) (a.eval z)).run E.P w= .ok () { w with heap:=w.heap.setIfInBounds r (.map eZ ef) } →ru eZ ef→oO w ⟨S,aJ w0 S0⟩ A' B' (cU (fO A') zs k v) eZ.toList→o.wp E.P a w (fun a' w'=> ∃s',K s'∧Rel n w0 S0 s' a' w') Q:=by intro eZ ef aT jf kF;refine kG (Pp _ aT) ⟨_,hK,?_⟩;rw[hd];have tz:=nP w r (.map eZ ef);have hS: ∀b,S b→({ w with heap:=w.heap.setIfInBounds r (.map eZ ef) } :World).heap[b]?=w.heap[b]?:=fun b hb=>tz.block b (h.W.lt b hb) (fun e=>by injection e with e;subst e;exact h3 hb);have FA:({ w with heap:=w.heap.setIfInBounds r (.map eZ ef) } :World).heap[r]?=some (.map eZ ef):=(MapKept.heap_set h4).1;have bB4:=FP (M:=⟨S,aJ w0 S0⟩) (M':=⟨S,aJ w0 S0⟩) dy wm hS (fun _ h=>h) _ _ kF;refine(h.upd (b':=.mp A' B' (cU (fO A') zs k v)) hl (by rw[gD];exact tz) ?_).rel;exact⟨dy,wm,hlen,r,eZ,ef,h1,h2,h3,FA,jf,by simpa using wP _ _ bB4,fun i yy Jo=>by simpa using wQ _ _ bB4 i yy Jo⟩);cases hm:ia (fO A') zs k with|none=>simp only[ib,hm]at bQ;subst bQ;refine fin (ay.push ⟨a.eval y,a.eval z,clock⟩) (clock+1) ?_ ?_ ?_;(·rw[kj,h1];simp[Instr.mapUpdate,run_underlying hu,MapKept.run_getObj_map h4,HL,ic,MapKept.run_setObj_map _ h4]);(·obtain⟨hc,hb⟩:=h5;subst hc;refine⟨by simp,fun i e hi=>?_⟩;rw[Array.getElem?_push]at hi;split at hi;(·rename_i wS;injection hi with hi;subst hi;exact wS.symm);·exact hb i e hi);(·rw[oP,hm];simp only[Array.toList_push];exact FQ (hf clock) zs ay.toList hl7)|some j=>simp only[ib,hm]at bQ;obtain⟨e,he,rfl⟩:=bQ;obtain⟨yy,Jo,heq⟩:=wM _ _ _ _ hm;have heq:=(nO _ _ _ hp).1 heq;(have A2:ay[j]?=some e:=by simpa using he);obtain⟨e2,ca,cb,g1,g2,g3,g4,g5⟩:=wQ zs ay.toList hl7 j yy Jo;rw[he]at g1;injection g1 with g1;subst g1;(have a05:e.key=a.eval y:=by refine RG (M:=⟨S,aJ w0 S0⟩) (w:=w) hp TE (x:=yy.1) (y:=k) ?_ rm heq.symm;rw[g2];exact mX TE g3);refine fin (ay.modify j fun e=> { e with key:=a.eval y,val:=a.eval z }) clock ?_ ?_ ?_;(·rw[kj,h1];simp[Instr.mapUpdate,run_underlying hu,MapKept.run_getObj_map h4,HL,ic,A2,a05,qj hp TE rm,MapKept.run_setObj_map _ h4]);(·obtain⟨hc,hb⟩:=h5;refine⟨by simpa using hc,fun i e2 hi=>?_⟩;rw[Array.getElem?_modify]at hi;split at hi;(·rename_i eQ;subst eQ;rw[A2]at hi;simp only[Option.map_some,y5]at hi;subst hi;exact hb _ e A2);·exact hb i e2 hi);·rw[oP,hm];(have E3:(ay.modify j fun e=> { e with key:=a.eval y,val:=a.eval z }).toList=ay.toList.set j ⟨a.eval y,a.eval z,e.born⟩:=by apply List.ext_getElem?;intro i;rw[Array.getElem?_toList,Array.getElem?_modify,List.getElem?_set];by_cases eQ:j=i;(·subst eQ;have ZL:j<ay.toList.length:=(z6 he).1;rw[A2,if_pos rfl,if_pos rfl,if_pos ZL];rfl);·simp[eQ]);rw[E3];exact JW (hf e.born) zs ay.toList j hl7);·exact ab.elim);·exact ab.elim);·exact ab.elim);·exact ab.elim)
 ·exact ab.elim
end
end
section
variable {en:Prop} [lj en]
open Go.RowKit
section
variable {E:Env} {n:Nat} {w0:World} {S0:Cx} {s:St} {a:Act} {w:World} {ν:Nat→Value} {S:Nat→Prop} {F:dI} {o:Oper} {K:St→Prop} {Q:Exit→Act→World→Prop}
theorem No(s:ByteArray)(i:Nat):(Utf8.decode s i).1≤1114111:=by
 (have hv: ∀c:Nat,Utf8.valid (c:Int)=true→c≤1114111:=by intro c h;unfold Utf8.valid at h;simp only[Bool.or_eq_true,z8,decide_eq_true_eq]at h;omega)
 unfold Utf8.decode;simp only;split;(·simp only;omega);·split;(·split;(·simp only;omega);·simp only[Utf8.runeError];omega);·split;(·split;(·rename_i h;simp only[z8]at h;exact hv _ h.2);·simp only[Utf8.runeError];omega);·split;(·split;(·rename_i h;simp only[z8]at h;exact hv _ h.2);·simp only[Utf8.runeError];omega);·simp only[Utf8.runeError];omega
theorem Full.aT6(h:Full n w0 S0 s a w ν S) {d:Nat} (hd:d<n)(hl:look d s.bl=none) {ob:Obj} {b:aQ} (hb: ∀c:Ctx,c.ν d= .pointer (some ⟨w.heap.size,0,none⟩)→c.M.O w.heap.size→ ¬c.M.S w.heap.size→c.w.heap[w.heap.size]?=some ob→Ctx.Le h.c c→kC c d b):Rel n w0 S0 ⟨(d,.ref d 0)::s.sl,(d,b)::s.bl⟩ (a.put (some d) (.pointer (some ⟨w.heap.size,0,none⟩))) (w.alloc ob):=by
 have hh:(w.alloc ob).heap[w.heap.size]?=some ob:=_root_.Go.heap_alloc_new w _;refine(h.new (b:=b) (p:=.ref d 0) (v:=.pointer (some ⟨w.heap.size,0,none⟩)) (val:=.pointer (some ⟨w.heap.size,0,none⟩)) hd hl (dK w _ none) (fun g hg=>h.beyond (by injection hg with hg;simp only at hg;omega)) ?_ ?_).rel
 (·refine hb _ (by simp) (h.W.size _ (x8)) (fun hS=>absurd (h.W.lt _ hS) (by simp)) hh ⟨fun g hg=>?_,fun _ h=>h,fun i hi=>?_,fun i hi=>?_⟩;(·exact(dK w ob none).block g (h.W.lt g hg) (by simp));(·obtain⟨c,hc⟩:=hi;(have bS:i≠d:=by rintro rfl;rw[hl]at hc;cases hc);exact⟨c,by rw[al _ _ bS];exact hc⟩);·obtain⟨c,hc⟩:=hi;(have bS:i≠d:=by rintro rfl;rw[hl]at hc;cases hc);simp[Full.c,bS])
 ·simp only[ag];exact⟨⟨_,aw _ _ _⟩,w.heap.size,by simp,rfl⟩
theorem UA(hE:aI E)(h:Full n w0 S0 s a w ν S)(ho:bL n o=true) {t:Nat} {x:Operand} (aK:o.op= .range t x)(ab:aZ E (aq E F s o) (fun l=>K (s.fin o.dst l))):o.wp E.P a w (fun a' w'=> ∃s',K s'∧Rel n w0 S0 s' a' w') Q:=by
 simp only[aq,aK]at ab;have hx:=h.ev (aA ho (x:=x) (by simp[aK,Op.operands]));split at ab;(·rename_i d hd;split at ab;(·rename_i hl;have MK:=bo ho d hd;simp only[MT]at ab;split at ab;(·rename_i hT;obtain⟨dd,hu,hs⟩:=(hE.facts hT).sZ;(have tv:dd= .string:=by cases dd<;>first|rfl|cases hs);subst tv;split at ab;(·rename_i y cg;rw[cg]at hx;obtain⟨hv,hlen⟩:=eY hx;simp only[aZ,St.fin,hd]at ab;(have hr:(execOp a.eval o).run E.P w= .ok (.value (.pointer (some ⟨w.heap.size,0,none⟩))) (w.alloc (.stringIter ⟨y.toArray⟩ 0)):=by simp only[execOp,aK,Instr.range,hv,Sem.run_bind,run_underlying hu,Result.andThen_ok,Sem.run_pure];rfl);refine cO hr ⟨_,ab,?_⟩;rw[hd];exact h.aT6 MK hl fun c h1 h2 h3 h4 _=>⟨_,h1,h2,h3,h4,hlen⟩);·exact ab.elim);(·rename_i A B hT;obtain⟨k,v,hu,_,_,_,_,ZQ,Po⟩:=Cz hE hT;split at ab;(·rename_i es Uz;have EZ:=h.entries Uz hx;(have go: ∀(src:PV),ag h.c src (a.eval x)→K ⟨(d,.ref d 0)::s.sl,(d,.it [src] es.length [])::s.bl⟩→o.wp E.P a w (fun a' w'=> ∃s',K s'∧Rel n w0 S0 s' a' w') Q:=by intro src mV hK;(obtain⟨m,hm,hr⟩: ∃m:Option Nat,a.eval x= .map m∧(execOp a.eval o).run E.P w= .ok (.value (.pointer (some ⟨w.heap.size,0,none⟩))) (w.alloc (.mapIter m es.length #[] es.length)):=by rcases EZ with⟨hv,rfl⟩|⟨r,ay,clock,hv,hh,hb,hs,_⟩;(·refine⟨none,hv,?_⟩;simp only[execOp,aK,Instr.range,hv,Sem.run_bind,run_underlying hu,Result.andThen_ok,Sem.run_pure];rfl);·refine⟨some r,hv,?_⟩;have hc:clock=es.length:=hb.1.trans hs;subst hc;simp only[execOp,aK,Instr.range,hv,Sem.run_bind,run_underlying hu,MapKept.run_getObj_map hh,Result.andThen_ok,Sem.run_pure];rfl);refine cO hr ⟨_,hK,?_⟩;rw[hd];refine h.aT6 MK hl fun c h1 h2 h3 h4 hle=>⟨_,m,h1,h2,h3,h4,?_⟩;simp only[aj];exact⟨_,[],rfl,gB hle (by rw[←hm];exact mV),rfl⟩);split at ab;(·rename_i K' V' y cg;simp only[aZ,St.fin,hd]at ab;exact go _ (by rw[←cg];exact hx) ab);(·rename_i id cg;simp only[aZ,St.fin,hd]at ab;exact go _ (by rw[←cg];exact hx) ab);(·rename_i cg;simp only[aZ,St.fin,hd]at ab;rw[cg]at hx;simp only[ag]at hx;refine go _ ?_ ab;rw[hx];exact⟨by simp only[aR];omega,x9,.inl ⟨rfl,rfl⟩⟩);·exact ab.elim);·exact ab.elim);·exact ab.elim);·exact ab.elim)
 ·exact ab.elim
theorem Full.behind(h:Full n w0 S0 s a w ν S) {src:List PV} {m:Option Nat} {A B:Ty} {es:List (A.den×B.den)} (hx:oF E F s.bl src=some ⟨A,B,es⟩)(hp:aj h.c src [.map m]):aR A=0∧aR B=0∧A.val=true∧B.val=true∧((m=none∧es=[])∨ ∃(r:Nat)(ay:Array MapEntry)(clock:Nat),m=some r∧w.heap[r]?=some (.map ay clock)∧ru ay clock∧oO w ⟨S,aJ w0 S0⟩ A B es ay.toList):=by
 unfold oF at hx;split at hx;(·rename_i K' V' ys;split at hx;(case h_2=>cases hx);rename_i hvK hvV;injection hx with hx;injection hx with e1 e2;subst e1;have e2:=eq_of_heq e2;injection e2 with e2 e3;subst e2;have e3:=eq_of_heq e3;subst e3;simp only[aj,ag]at hp;obtain⟨v,r,hv,⟨ho,hr⟩,_⟩:=hp;injection hv with hv;subst hv;simp only[aR]at ho;refine⟨v6,v6,hvK,hvV,?_⟩;have hr:aH (.mp K' V') ys w ⟨S,aJ w0 S0⟩ [.map m]:=hr;rcases hr.2 with⟨hv,he⟩|⟨r,ay,clock,hv,hS,hh,hb,hs,hr⟩;(·injection hv with hv;injection hv with hv;exact .inl ⟨hv,he⟩);·injection hv with hv;injection hv with hv;exact .inr ⟨r,ay,clock,hv,hh,hb,qk _ _ (by simpa using hs) (by simpa using hr)⟩)
 (·rename_i id;split at hx;(·rename_i K' V' ys hl;obtain⟨hl,_⟩:=cM hl;split at hx;(case h_2=>cases hx);rename_i hvK hvV;injection hx with hx;injection hx with e1 e2;subst e1;have e2:=eq_of_heq e2;injection e2 with e2 e3;subst e2;have e3:=eq_of_heq e3;subst e3;simp only[aj,ag]at hp;obtain⟨v,r,hv,⟨_,cE,_⟩,_⟩:=hp;injection hv with hv;subst hv;obtain⟨dy,wm,h0,r,ay,clock,h1,h2,h3,h4,h5,h6,h7⟩:=h.W.cD _ _ hl;refine⟨dy,wm,hvK,hvV,.inr ⟨r,ay,clock,?_,h4,h5,qk _ _ (by simpa using h6) (by simpa using h7)⟩⟩;simp only[Full.c]at cE;simp only at h1;rw[h1]at cE;injection cE);·cases hx)
 ·cases hx
theorem ab3(hE:aI E)(h:Full n w0 S0 s a w ν S)(ho:bL n o=true) {x:Operand} {isS:Bool} (aK:o.op= .next x isS)(ab:aZ E (aq E F s o) (fun l=>K (s.fin o.dst l))):o.wp E.P a w (fun a' w'=> ∃s',K s'∧Rel n w0 S0 s' a' w') Q:=by
 simp only[aq,aK,TZ]at ab;have hx:=h.ev (aA ho (x:=x) (by simp[aK,Op.operands]));split at ab;(·rename_i id cg;rw[cg]at hx;simp only[ag]at hx;obtain⟨_,g,hg,hv⟩:=hx;simp only[Full.c]at hg;(have upd: ∀ {b b':aQ} {w':World} {p:PV} {v:Value},look id s.bl=some b→eP w w' (some g)→kC ⟨ν,s.D,w',⟨S,aJ w0 S0⟩⟩ id b'→ag ⟨ν,s.D,w',⟨S,aJ w0 S0⟩⟩ p v→K (s.fin o.dst (.upd id b' p))→(execOp a.eval o).run E.P w= .ok (.value v) w'→o.wp E.P a w (fun a' w'=> ∃s',K s'∧Rel n w0 S0 s' a' w') Q:=by intro b b' w' p v hl hw hb hp hK aT;refine cO aT ⟨_,hK,?_⟩;have hu:=h.upd (b':=b') hl (by rw[hg];exact hw) hb;(have hD:(⟨s.sl,(id,b')::s.bl⟩:St).D=s.D:=by funext i;refine propext ⟨fun⟨c,hc⟩=>?_,fun⟨c,hc⟩=>?_⟩;(·by_cases hi:i=id;(·subst hi;exact⟨b,hl⟩);·rw[al _ _ hi]at hc;exact⟨c,hc⟩);·by_cases hi:i=id;(·subst hi;exact⟨b',aw _ _ _⟩);·exact⟨c,by rw[al _ _ hi];exact hc⟩);have Rv:=hu.put (p:=p) (v:=v) (bo ho) (by simp only[Full.c,hD];exact hp);(have gT:s.fin o.dst (.upd id b' p)=(⟨s.sl,(id,b')::s.bl⟩:St).put o.dst p:=by simp only[St.fin];cases o.dst<;>rfl);rw[gT];exact Rv.rel);(have a06:(Instr.next (a.eval x) isS o.type).run E.P w= .ok (.tuple #[.bool false]) w→K (s.fin o.dst (.val (.bG [.iv .bool false])))→o.wp E.P a w (fun a' w'=> ∃s',K s'∧Rel n w0 S0 s' a' w') Q:=by intro hr hK;refine h.val ho (v:=.tuple #[.bool false]) ?_ ?_ hK;(·simp only[execOp,aK,Sem.run_bind,hr,Result.andThen_ok,Sem.run_pure]);·exact jP (vs:=[.bool false]) (by simp only[aj];exact⟨_,[],rfl,bM,rfl⟩));(have exec: ∀v w',(Instr.next (a.eval x) isS o.type).run E.P w= .ok v w'→(execOp a.eval o).run E.P w= .ok (.value v) w':=fun v w' hr=>by simp only[execOp,aK,Sem.run_bind,hr,Result.andThen_ok,Sem.run_pure]);split at ab;(·rename_i y pos hl;obtain⟨hl,_⟩:=cM hl;obtain⟨g',h1,h2,h3,h4,h5⟩:=h.W.cD _ _ hl;simp only at h1 h2 h3 h4;rw[hg]at h1;(obtain rfl:g=g':=by injection h1 with e1;injection e1 with e1;injection e1);split at ab;(·obtain⟨MI,FN⟩:=ab;(have cY:(⟨y.toArray⟩:ByteArray).size=y.length:=by simp[ByteArray.size]);(have Bn: ∀o',(setObj g o').run E.P w= .ok () { w with heap:=w.heap.setIfInBounds g o' } :=fun o'=>by simp[setObj,Sem.run,h4]);by_cases hp:pos<y.length;(·have hK:=MI hp;have hd:=No ⟨y.toArray⟩ pos;refine upd hl (nP w g (.stringIter ⟨y.toArray⟩ (pos+(Utf8.decode ⟨y.toArray⟩ pos).2))) ?_ ?_ hK (exec (.tuple #[.bool true,.int .i64 (pos:Int),.int .i32 ((Utf8.decode ⟨y.toArray⟩ pos).1:Int)]) _ ?_);(·exact⟨g,hg,h2,h3,(MapKept.heap_set h4).1,h5⟩);(·refine jP (vs:=[.bool true,.int .i64 (pos:Int),.int .i32 ((Utf8.decode ⟨y.toArray⟩ pos).1:Int)]) ?_;simp only[aj];exact⟨_,_,rfl,bM,_,_,rfl,cj (by show(-9223372036854775808:Int)≤_∧_≤(9223372036854775807:Int);omega),_,_,rfl,cj (by show(-2147483648:Int)≤_∧_≤(2147483647:Int);omega),rfl⟩);·simp only[hv,Instr.next,Sem.run_bind];rw[show(getObj g).run E.P w= .ok (.stringIter ⟨y.toArray⟩ pos) w from by simp[getObj,Sem.run,h4]];simp only[Result.andThen_ok,cY,hp,if_true,Sem.run_bind,Bn,Sem.run_pure];rfl);·refine a06 ?_ (FN v6);simp only[hv,Instr.next,Sem.run_bind];rw[show(getObj g).run E.P w= .ok (.stringIter ⟨y.toArray⟩ pos) w from by simp[getObj,Sem.run,h4]];simp only[Result.andThen_ok,cY,hp,if_false,Sem.run_pure]);·exact ab.elim);(·rename_i src since seen hl;obtain⟨hl,_⟩:=cM hl;obtain⟨g',m,h1,h2,h3,h4,h6⟩:=h.W.cD _ _ hl;simp only at h1 h2 h3 h4;rw[hg]at h1;(obtain rfl:g=g':=by injection h1 with e1;injection e1 with e1;injection e1);split at ab;(·rename_i A B es Uz;obtain⟨UB,MI,FN⟩:=ab;obtain⟨ZQ,Po,TE,Jn,cZ⟩:=h.behind Uz h6;rcases cZ with⟨rfl,rfl⟩|⟨r,ay,clock,rfl,hh,hb,hr⟩;(·refine a06 ?_ (FN (fun i hi=>by simp at hi));simp only[hv,Instr.next,Sem.run_bind];rw[show(getObj g).run E.P w= .ok (.mapIter none since seen.toArray since) w from by simp[getObj,Sem.run,h4]];simp only[Result.andThen_ok,Sem.run_pure]);·have hlen:=wP _ _ hr;(have cY:ay.size=es.length:=by simpa using hlen);obtain⟨a07,CB⟩:=hb;(have hold: ∀y,y∈ay.toList→y.born<since:=fun y hy=>by obtain⟨i,hi⟩:=List.getElem?_of_mem hy;(have zZ:ay[i]?=some y:=by simpa using hi);rw[CB i y zZ,←UB,←cY];exact(z7 zZ).1);(have aT7: ∀y,y∈(leftOf ay seen.toArray).toList↔ ∃i,ay[i]?=some y∧i∉seen:=by intro y;unfold leftOf;simp only[Array.toList_filter,List.mem_filter,Array.mem_toList_iff];constructor;(·rintro⟨h1,h2⟩;obtain⟨i,hi⟩:=Array.getElem?_of_mem h1;refine⟨i,hi,?_⟩;rw[←CB i y hi];simpa using h2);·rintro⟨i,hi,hn⟩;refine⟨Array.mem_of_getElem? hi,?_⟩;rw[CB i y hi];simpa using hn);rcases run_next_at (P:=E.P) w o.type g r since since seen.toArray ay clock h4 hh hold (x8)with⟨h0,aT⟩|⟨e,he,w1,EE,aT⟩;(·refine a06 (by rw[hv];exact aT) (FN fun i hi=>?_);by_cases lf:i∈seen;(·exact lf);·exfalso;have wS:i<ay.size:=v6;have:=(aT7 ay[i]).2 ⟨i,by simp,lf⟩;have Jh:(leftOf ay seen.toArray).toList=[]:=List.eq_nil_of_length_eq_zero (by simpa using h0);rw[Jh]at this;cases this);·obtain⟨i,hi,lf⟩:=(aT7 e).1 he;(have wS:i<es.length:=by rw[←cY];exact(z7 hi).1);obtain⟨yy,Jo⟩: ∃yy,es[i]?=some yy:=⟨_,List.getElem?_eq_getElem wS⟩;have hK:=MI i ⟨wS,lf⟩ yy Jo;obtain⟨e2,ca,cb,g1,g2,g3,g4,g5⟩:=wQ es ay.toList hr i yy Jo;(have zZ:ay.toList[i]?=some e:=by simpa using hi);rw[zZ]at g1;injection g1 with g1;subst g1;have FR:=CB i e hi;(have tz:eP w (ChangeMaps.setBlock w1 g (.mapIter (some r) since (seen.toArray.push e.born) clock)) (some g):=by rcases EE with rfl|rfl;(·exact nP _ g _);·refine⟨rfl,rfl,rfl,by simp[ChangeMaps.setBlock],fun k _ hk=>?_,fun _=>?_⟩;(·have hkr:g≠k:=fun e=>hk (by rw[e]);show(w.drew.heap.setIfInBounds g _)[k]?=w.heap[k]?;rw[Array.getElem?_setIfInBounds_ne hkr];rfl);·exact Nat.le_succ _);have hSg: ∀b,S b→(ChangeMaps.setBlock w1 g (.mapIter (some r) since (seen.toArray.push e.born) clock)).heap[b]?=w.heap[b]?:=fun b hb=>tz.block b (h.W.lt b hb) (fun e=>by injection e with e;subst e;exact h3 hb);have a08:Ctx.Le ⟨ν,s.D,w,⟨S,aJ w0 S0⟩⟩ ⟨ν,s.D,ChangeMaps.setBlock w1 g (.mapIter (some r) since (seen.toArray.push e.born) clock),⟨S,aJ w0 S0⟩⟩:=⟨hSg,fun _ h=>h,fun _ h=>h,fun _ _=>rfl⟩;(have hg1:w1.heap[g]?=some (.mapIter (some r) since seen.toArray since):=by rcases EE with rfl|rfl<;>exact h4);have ES:clock=since:=v6;refine upd hl tz ?_ ?_ hK (exec _ _ (by rw[hv];exact aT));(·refine⟨g,some r,hg,h2,h3,?_,cc a08 h6⟩;have:=(MapKept.heap_set (o':=Obj.mapIter (some r) since (seen.toArray.push e.born) clock) hg1).1;rw[FR,ES]at this⊢;simpa[ChangeMaps.setBlock]using this);·have hk:ag h.c (.iv A yy.1) e.key:=bW ZQ (by rw[g2];exact mX TE g3) TE;have hvv:ag h.c (.iv B yy.2) e.val:=bW Po (by rw[g4];exact mX Jn g5) Jn;refine jP (vs:=[.bool true,e.key,e.val]) ?_;simp only[aj];exact⟨_,_,rfl,bM,_,_,rfl,gB a08 hk,_,_,rfl,gB a08 hvv,rfl⟩);·exact ab.elim);·exact ab.elim)
 ·exact ab.elim
theorem UC(hE:aI E)(h:Full n w0 S0 s a w ν S)(ho:bL n o=true) {x:Operand} (aK:o.op= .entry x)(ab:aZ E (aq E F s o) (fun l=>K (s.fin o.dst l))):o.wp E.P a w (fun a' w'=> ∃s',K s'∧Rel n w0 S0 s' a' w') Q:=by
 simp only[aq,aK,MU]at ab;have hx:=h.ev (aA ho (x:=x) (by simp[aK,Op.operands]));split at ab;(·rename_i id cg;rw[cg]at hx;simp only[ag]at hx;obtain⟨_,g,hg,hv⟩:=hx;simp only[Full.c]at hg;split at ab;(·rename_i src since seen hl;obtain⟨hl,_⟩:=cM hl;obtain⟨g',m,h1,h2,h3,h4,h6⟩:=h.W.cD _ _ hl;simp only at h1 h2 h3 h4;rw[hg]at h1;(obtain rfl:g=g':=by injection h1 with e1;injection e1 with e1;injection e1);split at ab;(·rename_i A B es Uz;obtain⟨UB,yy,⟨i,bB5,Jo⟩,hK⟩:=ab;obtain⟨ZQ,Po,TE,Jn,cZ⟩:=h.behind Uz h6;rcases cZ with⟨_,rfl⟩|⟨r,ay,clock,rfl,hh,hb,hr⟩;(·simp at Jo);·obtain⟨ss,hss⟩: ∃ss,seen=ss++ [i]:=List.getLast?_eq_some_iff.1 bB5;have hlen:=wP _ _ hr;(have cY:ay.size=es.length:=by simpa using hlen);obtain⟨a07,CB⟩:=hb;obtain⟨e,ca,cb,g1,g2,g3,g4,g5⟩:=wQ es ay.toList hr i yy Jo;(have hi:ay[i]?=some e:=by simpa using g1);have FR:=CB i e hi;have ES:since=clock:=v6;(have bU:(ay.toList.map (·.born)).Nodup:=by(have:ay.toList.map (·.born)=List.range ay.size:=by apply List.ext_getElem;(·simp);·intro j h1 h2;simp only[List.getElem_map,List.getElem_range,Array.getElem_toList];exact CB j _ (Array.getElem?_eq_getElem (by simpa using h1)));rw[this];exact List.nodup_range);(have h4':w.heap[g]?=some (.mapIter (some r) since (ss.toArray.push e.born) clock):=by rw[h4,hss,FR,←ES];simp);have aT:=run_entry_at (P:=E.P) w g r since ss.toArray ay clock e h4' hh (Array.mem_toList_iff.2 (Array.mem_of_getElem? hi)) bU;refine h.val ho (v:=.tuple #[e.key,e.val]) ?_ ?_ hK;(·simp only[execOp,aK,hv,Sem.run_bind,aT,Result.andThen_ok,Sem.run_pure]);·have hk:ag h.c (.iv A yy.1) e.key:=bW ZQ (by rw[g2];exact mX TE g3) TE;have hvv:ag h.c (.iv B yy.2) e.val:=bW Po (by rw[g4];exact mX Jn g5) Jn;exact jP (mq hk hvv));·exact ab.elim);·exact ab.elim)
 ·exact ab.elim
end
end
section
variable {en:Prop} [lj en]
open Go.RowKit
structure Ctx.ZR(ks:List Nat)(ρ:Nat→Nat)(c c':Ctx):Prop where
 heap: ∀b,c.M.S b→c'.w.heap[b]?=c.w.heap[b]?
 S: ∀b,c.M.S b→c'.M.S b
 D: ∀i,ao i ks=true→c.D i→c'.D (ρ i)
 ν: ∀i,ao i ks=true→c.D i→c'.ν (ρ i)=c.ν i
mutual theorem mY {ks:List Nat} {ρ:Nat→Nat} {c c':Ctx} (hc:c.ZR ks ρ c'): ∀ {p:PV} {v:Value},PV.uJ ks p=true→ag c p v→ag c' (p.eN ρ) v|.iv T x,v,_,h=>(by simp only[PV.eN,ag]at h⊢;exact⟨h.1,jm hc.heap hc.S h.1 h.2⟩)|.ref id off,v,hi,h=>(by simp only[PV.eN,ag]at h⊢;obtain⟨hd,g,h1,h2⟩:=h;exact⟨hc.D _ hi hd,g,by rw[hc.ν _ hi hd];exact h1,h2⟩)|.eV T x off,v,_,h=>(by simp only[PV.eN,ag]at h⊢;obtain⟨ho,g,o,cs,h1,h2,h3,h4,h5⟩:=h;exact⟨ho,g,o,cs,h1,hc.S _ h2,h3,h4.mono (hc.heap _ h2),aD hc.heap hc.S _ _ _ ho h5⟩)|.aB id,v,hi,h=>(by simp only[PV.eN,ag]at h⊢;exact⟨hc.D _ hi h.1,by rw[hc.ν _ hi h.1];exact h.2.1,h.2.2⟩)|.lmap id,v,hi,h=>(by simp only[PV.eN,ag]at h⊢;exact⟨hc.D _ hi h.1,by rw[hc.ν _ hi h.1];exact h.2.1,h.2.2⟩)|.ll id sz off len,v,hi,h=>(by simp only[PV.eN,ag]at h⊢;obtain⟨hd,a,n,cap,b,h1,h2⟩:=h;exact⟨hc.D _ hi hd,a,n,cap,b,by rw[hc.ν _ hi hd];exact h1,h2⟩)|.il id sz i off,v,hi,h=>(by simp only[PV.eN,ag]at h⊢;obtain⟨hd,g,o,n,cap,h1,h2⟩:=h;exact⟨hc.D _ hi hd,g,o,n,cap,by rw[hc.ν _ hi hd];exact h1,h2⟩)|.agg cs,v,hi,h=>(by simp only[PV.eN,ag]at h⊢;obtain⟨vs,h1,h0,h2⟩:=h;exact⟨vs,h1,h0,eu hc hi h2⟩)|.bG cs,v,hi,h=>(by simp only[PV.eN,ag]at h⊢;obtain⟨vs,h1,h2⟩:=h;exact⟨vs,h1,eu hc hi h2⟩)|.bO,v,_,h=>(by simp only[PV.eN,ag]at h⊢;exact h)|.cv,v,_,h=>(by simp only[PV.eN,ag]at h⊢;exact h)|.dV,v,_,h=>(by simp only[PV.eN,ag]at h⊢;exact h)|.ke i base T n j,v,hi,h=>(by simp only[PV.eN,ag]at h⊢;obtain⟨hd,h0,hn,g,h1,h2⟩:=h;exact⟨hc.D _ hi hd,h0,hn,g,by rw[hc.ν _ hi hd];exact h1,h2⟩)|.zW f cs,v,hi,h=>(by simp only[PV.eN,ag]at h⊢;obtain⟨vs,h1,h2⟩:=h;exact⟨vs,h1,eu hc hi h2⟩)|.rk f cs,v,hi,h=>(by simp only[PV.eN,ag]at h⊢;obtain⟨vs,h1,h2⟩:=h;exact⟨vs,h1,eu hc hi h2⟩)|.bU hk id,v,hi,h=>(by simp only[PV.eN,ag]at h⊢;exact⟨hc.D _ hi h.1,by rw[hc.ν _ hi h.1];exact h.2⟩)|.clip T xs,v,_,h=>(by simp only[PV.eN,ag]at h⊢;exact⟨h.1,h.2.1,aD hc.heap hc.S (.sl T) _ _ h.1 h.2.2⟩)|.fn f cs,v,hi,h=>(by simp only[PV.eN,ag]at h⊢;obtain⟨vs,h1,h2⟩:=h;exact⟨vs,h1,eu hc hi h2⟩)|.any,v,_,h=>by simp only[PV.eN,ag]theorem eu {ks:List Nat} {ρ:Nat→Nat} {c c':Ctx} (hc:c.ZR ks ρ c'): ∀ {ps:List PV} {vs:List Value},PV.gm ks ps=true→aj c ps vs→aj c' (PV.im ρ ps) vs|[],vs,_,h=>(by simp only[PV.im,aj]at h⊢;exact h)|p::ps,vs,hi,h=>by simp only[PV.gm,z8]at hi;simp only[PV.im,aj]at h⊢;obtain⟨v,r,h1,h2,h3⟩:=h;exact⟨v,r,h1,mY hc hi.1 h2,eu hc hi.2 h3⟩end
def iA(ks:List Nat):aQ→Bool|.box cs _=>PV.gm ks cs|.it cs _ _=>PV.gm ks cs|.gh _ cs=>PV.gm ks cs|_=>true
theorem jQ {c:Ctx} {i:Nat} {b:aQ} (h:kC c i b) {g:Nat} (hg:dh (c.ν i) g):c.M.O g∧ ¬c.M.S g∧g<c.w.heap.size:=by
 cases b with|box cs te=>obtain⟨_,g',vs,e,h1,h2,h3,h4,_⟩:=h;rw[h1]at hg;injection hg with hg;simp only at hg;subst hg;exact⟨h2,h3,(z7 h4).1⟩|arr T xs te=>obtain⟨_,ho,v,hv,_,h2⟩:=h;injection hv with hv;rw[hv]at hg;rcases h2 with⟨rfl,_⟩|⟨g',o,cap,cur,e,rfl,h3,h4,h5,h6,h7,_⟩;(·cases hg);(·injection hg with hg;simp only at hg;subst hg;exact⟨h6,h5,(z7 h7).1⟩)|mp K V es=>obtain⟨_,_,_,r,ay,clock,h1,h2,h3,h4,_⟩:=h;rw[h1]at hg;injection hg with hg;subst hg;exact⟨h2,h3,(z7 h4).1⟩|it src since seen=>obtain⟨g',m,h1,h2,h3,h4,_⟩:=h;rw[h1]at hg;injection hg with hg;simp only at hg;subst hg;exact⟨h2,h3,(z7 h4).1⟩|Bj x pos=>obtain⟨g',h1,h2,h3,h4,_⟩:=h;rw[h1]at hg;injection hg with hg;simp only at hg;subst hg;exact⟨h2,h3,(z7 h4).1⟩|gh o cs=>obtain⟨g',vs,h1,h2,h3,h4,_⟩:=h;rw[h1]at hg;injection hg with hg;simp only at hg;subst hg;exact⟨h2,h3,(z7 h4).1⟩|ln T xss=>exact JB h hg
theorem rZ {ks:List Nat} {ρ:Nat→Nat} {c c':Ctx} (hc:c.ZR ks ρ c') {i:Nat} {b:aQ} (hi:iA ks b=true)(cE:c'.ν (ρ i)=c.ν i)(hg: ∀g,dh (c.ν i) g→c'.w.heap[g]?=c.w.heap[g]?∧c'.M.O g∧ ¬c'.M.S g)(h:kC c i b):kC c' (ρ i) (b.map (PV.im ρ)):=by
 cases b with|box cs te=>obtain⟨kd,g,vs,e,h1,h2,h3,h4,h0,h5⟩:=h;obtain⟨e1,e2,e3⟩:=hg g (by rw[h1];rfl);exact⟨kd.oH cE fun g uh=>(hg g (dx uh)).1,g,vs,e,by rw[cE];exact h1,e2,e3,by rw[e1];exact h4,h0,eu hc hi h5⟩|arr T xs te=>obtain⟨kd,ho,v,hv,h1,h2⟩:=h;injection hv with hv;refine⟨kd.oH cE fun g uh=>(hg g (dx uh)).1,ho,v,by rw[cE,hv],h1,?_⟩;rcases h2 with h2|⟨g,o,cap,cur,e,rfl,h3,h4,h5,h6,h7,h8,h9⟩;(·exact .inl h2);(·obtain⟨e1,e2,e3⟩:=hg g (by rw[hv];rfl);refine .inr ⟨g,o,cap,cur,e,rfl,h3,h4,e3,e2,by rw[e1];exact h7,h8,fun i y hy=>?_⟩;obtain⟨cs,hl,Cd,hr⟩:=h9 i y hy;exact⟨cs,hl,Cd.mono e1,aD hc.heap hc.S _ _ _ ho hr⟩)|mp K V es=>obtain⟨dy,wm,h0,r,ay,clock,h1,h2,h3,h4,h5,h6,h7⟩:=h;obtain⟨e1,e2,e3⟩:=hg r (by rw[h1];rfl);refine⟨dy,wm,h0,r,ay,clock,by rw[cE];exact h1,e2,e3,by rw[e1];exact h4,h5,h6,fun i y hy=>?_⟩;obtain⟨e,ca,cb,a1,a2,a3,a4,a5⟩:=h7 i y hy;exact⟨e,ca,cb,a1,a2,aD hc.heap hc.S _ _ _ dy a3,a4,aD hc.heap hc.S _ _ _ wm a5⟩|it src since seen=>obtain⟨g,m,h1,h2,h3,h4,h6⟩:=h;obtain⟨e1,e2,e3⟩:=hg g (by rw[h1];rfl);exact⟨g,m,by rw[cE];exact h1,e2,e3,by rw[e1];exact h4,eu hc hi h6⟩|Bj x pos=>obtain⟨g,h1,h2,h3,h4,h5⟩:=h;obtain⟨e1,e2,e3⟩:=hg g (by rw[h1];rfl);exact⟨g,by rw[cE];exact h1,e2,e3,by rw[e1];exact h4,h5⟩|gh o cs=>obtain⟨g,vs,h1,h2,h3,h4,h6⟩:=h;obtain⟨e1,e2,e3⟩:=hg g (by rw[h1];rfl);exact⟨g,vs,by rw[cE];exact h1,e2,e3,by rw[e1];exact h4,eu hc hi h6⟩|ln T xss=>exact rO hc.heap hc.S cE (fun g iQ _ _=>hg g iQ) h
/-! ### Names -/
theorem fa {i:Nat} : ∀ {l:List Nat},ao i l=true↔i∈l|[]=>(by simp[ao])|k::r=>by simp only[ao,List.mem_cons];cases hb:Nat.beq i k with|true=>simp[y6 hb]|false=>(have bS:i≠k:=by rintro rfl;simp at hb);simp[bS,fa (l:=r)]
theorem JX {i:Nat} : ∀ {l:List Nat} {j:Nat},j≤idxOf i l j|[],j=>x8|k::r,j=>by simp only[idxOf];cases Nat.beq i k with|true=>exact x8|false=>exact Nat.le_trans (Nat.le_succ j) (JX (l:=r) (j:=j+1))
theorem Pq {i:Nat} : ∀ {l:List Nat} {j:Nat},ao i l=true→iq l (idxOf i l j-j)=i∧idxOf i l j-j<l.length|[],j,h=>(by cases h)|k::r,j,h=>by simp only[idxOf];simp only[ao]at h;cases hb:Nat.beq i k with|true=>simp only[cond_true,Nat.sub_self,iq,x6];exact⟨(y6 hb).symm,v6⟩|false=>simp only[hb,cond_false]at h⊢;obtain⟨h1,h2⟩:=Pq (l:=r) (j:=j+1) h;have hle:=JX (i:=i) (l:=r) (j:=j+1);rw[show idxOf i r (j+1)-j=(idxOf i r (j+1)-(j+1))+1 from by omega];simp only[iq,x6];exact⟨h1,v6⟩
theorem wT: ∀ {l:List Nat} {j:Nat},j<l.length→ao (iq l j) l=true|[],j,h=>(by simp at h)|x::r,0,_=>(by simp[iq,ao])|x::r,j+1,h=>by simp only[iq,ao];rw[wT (l:=r) (by simpa using h)];cases Nat.beq (iq r j) x<;>rfl
theorem Pr: ∀ {l:List Nat} {j k:Nat},qa l=true→j<l.length→idxOf (iq l j) l k=k+j|[],j,k,_,h=>(by simp at h)|x::r,0,k,_,_=>(by simp[iq,idxOf])|x::r,j+1,k,hn,h=>by simp only[qa,z8,Bool.not_eq_true']at hn;(have hj:j<r.length:=by simpa using h);simp only[iq,idxOf];(have hb:Nat.beq (iq r j) x=false:=by cases hb:Nat.beq (iq r j) x with|false=>rfl|true=>have:=y6 hb;rw[←this,wT hj]at hn;cases hn.1);rw[hb,cond_false,Pr hn.2 hj];omega
theorem Bo {i:Nat} {ids:List Nat} (h:ao i ids=true):P0≤fwd ids i∧iq ids (fwd ids i-P0)=i∧fwd ids i-P0<ids.length:=by
 obtain⟨h1,h2⟩:=Pq (j:=0) h;unfold fwd;rw[Nat.add_sub_cancel_left];exact⟨v6,by simpa using h1,by simpa using h2⟩
theorem wU {ids:List Nat} {j:Nat} (hn:qa ids=true)(hj:j<ids.length):fwd ids (iq ids j)=P0+j:=by unfold fwd;rw[Pr hn hj];omega
theorem nQ {ids:List Nat} {bl:List (Nat×aQ)} {k:Nat} : ∀ {l:List Nat} {j:Nat},(∀i,i∈l→i∈ids)→look k (passed ids bl l j)=if j≤k∧k-j<l.length then(look (iq l (k-j)) bl).map (aQ.map (PV.im (fwd ids)))else none|[],j,_=>(by simp[passed,look])|i::r,j,hl=>by have ih:=nQ (k:=k) (bl:=bl) (l:=r) (j:=j+1) (fun x hx=>hl x (y7 _ hx));by_cases hk:k=j;(·subst hk;simp only[passed,Nat.sub_self,iq,x6,Nat.le_refl,true_and,Nat.zero_lt_succ,if_true];cases hb:look i bl with|none=>simp only[Option.map_none];rw[ih,if_neg v6]|some b=>simp only[aw,Option.map_some]);·(have e:look k (passed ids bl (i::r) j)=look k (passed ids bl r (j+1)):=by simp only[passed];cases look i bl with|none=>rfl|some b=>exact al _ _ hk);rw[e,ih];by_cases hjk:j≤k;(·rw[show k-j=(k-(j+1))+1 from by omega];simp only[iq,x6];by_cases h2:k-(j+1)<r.length;(·rw[if_pos ⟨v6,h2⟩,if_pos ⟨hjk,v6⟩]);·rw[if_neg v6,if_neg v6]);·rw[if_neg v6,if_neg v6]
theorem iT {ρ:Nat→Nat} {k:Nat} {b:aQ} : ∀ {bl:List (Nat×aQ)},(∀i c,look i bl=some c→ρ i=ρ k→i=k)→look k bl=some b→look (ρ k) (kr ρ bl)=some (b.map (PV.im ρ))|[],_,h=>(by cases h)|p::r,E4,h=>by simp only[kr,look]at h⊢;cases hb:Nat.beq k p.1 with|true=>simp only[hb,cond_true,y5]at h;subst h;have:=y6 hb;subst this;simp|false=>simp only[hb,cond_false]at h;(have bS:k≠p.1:=by intro e;rw[e]at hb;simp at hb);(have hp:look p.1 (p::r)=some p.2:=by simp[look]);(have:Nat.beq (ρ k) (ρ p.1)=false:=by cases hc:Nat.beq (ρ k) (ρ p.1)with|false=>rfl|true=>exact absurd (E4 p.1 p.2 hp (y6 hc).symm).symm bS);rw[this,cond_false];refine iT (fun i c hc he=>?_) h;by_cases hip:i=p.1;(·rw[hip]at he⊢;exact E4 p.1 p.2 hp he);·exact E4 i c (by rw[show(p::r)=((p.1,p.2)::r)from rfl,al _ _ hip];exact hc) he
theorem mZ {ρ:Nat→Nat} {i:Nat} {b:aQ} : ∀ {bl:List (Nat×aQ)},(∀j k c e,look j bl=some c→look k bl=some e→ρ j=ρ k→j=k)→look i (kr ρ bl)=some b→ ∃k c,ρ k=i∧look k bl=some c∧b=c.map (PV.im ρ)|[],_,h=>(by cases h)|p::r,E4,h=>by simp only[kr,look]at h;(have hp:look p.1 (p::r)=some p.2:=by simp[look]);cases hb:Nat.beq i (ρ p.1)with|true=>simp only[hb,cond_true,y5]at h;exact⟨p.1,p.2,(y6 hb).symm,hp,h.symm⟩|false=>simp only[hb,cond_false]at h;(have bS:i≠ρ p.1:=by intro e;rw[e]at hb;simp at hb);(have up: ∀j c,look j r=some c→j=p.1∨look j (p::r)=some c:=by intro j c hc;by_cases hj:j=p.1;(·exact .inl hj);·exact .inr (by rw[show(p::r)=((p.1,p.2)::r)from rfl,al _ _ hj];exact hc));obtain⟨k,c,h1,h2,h3⟩:=mZ (bl:=r) (fun j k c e hj hk he=>by rcases up j c hj with h'|h';(·rcases up k e hk with h''|h'';(·rw[h',h'']);·exact E4 j k p.2 e (by rw[h'];exact hp) h'' he);·rcases up k e hk with h''|h'';(·exact E4 j k c p.2 h' (by rw[h''];exact hp) he);·exact E4 j k c e h' h'' he) h;refine⟨k,c,h1,?_,h3⟩;rcases up k c h2 with h'|h';(·exact absurd (by rw[←h1,h']) bS);·exact h'
theorem nR {k:Nat} : ∀ {a b:List (Nat×aQ)},look k (a++b)=(match look k a with|some x=>some x|none=>look k b)|[],b=>(by simp[look])|p::r,b=>by simp only[List.cons_append,look];cases Nat.beq k p.1 with|true=>rfl|false=>exact nR (a:=r)
theorem eB {id:Nat} : ∀ {bl:List (Nat×aQ)},ao id (keys bl)=true→ ∃b,look id bl=some b|[],h=>(by cases h)|p::r,h=>by simp only[keys,List.map_cons,ao]at h;simp only[look];cases hb:Nat.beq id p.1 with|true=>exact⟨p.2,rfl⟩|false=>simp only[hb,cond_false]at h⊢;exact eB h
theorem CC {bl':List (Nat×aQ)} {i:Nat} : ∀ {l:List Nat} {j:Nat},ao i (de bl' l j)=true↔ ∃k,k<l.length∧iq l k=i∧look (j+k) bl'=none|[],j=>(by simp[de,ao])|x::r,j=>by have ih:=CC (bl':=bl') (i:=i) (l:=r) (j:=j+1);simp only[de];constructor;(·intro h;cases hl:look j bl' with|some b=>rw[hl]at h;obtain⟨k,h1,h2,h3⟩:=ih.1 h;exact⟨k+1,by simpa using h1,by simpa[iq]using h2,by rw[←h3];congr 1;omega⟩|none=>rw[hl]at h;simp only[ao]at h;cases hb:Nat.beq i x with|true=>exact⟨0,by simp,by simp[iq,y6 hb],by simpa using hl⟩|false=>simp only[hb,cond_false]at h;obtain⟨k,h1,h2,h3⟩:=ih.1 h;exact⟨k+1,by simpa using h1,by simpa[iq]using h2,by rw[←h3];congr 1;omega⟩);·rintro⟨k,h1,h2,h3⟩;cases k with|zero=>simp only[Nat.add_zero]at h3;simp only[iq]at h2;rw[h3];simp[ao,h2]|succ k=>have:=ih.2 ⟨k,by simpa using h1,by simpa[iq]using h2,by rw[←h3];congr 1;omega⟩;cases look j bl' with|some b=>exact this|none=>simp only[ao,this];cases Nat.beq i x<;>rfl
end
section
variable {en:Prop} [lj en]
open Go.RowKit
section
variable {E:Env} {n:Nat} {w0:World} {S0:Cx} {s:St} {a:Act} {w:World} {ν:Nat→Value} {S:Nat→Prop}
def lT(S:Nat→Prop)(s:St)(ν:Nat→Value)(ks:List Nat):Nat→Prop:=fun g=>S g∨ ∃i,ao i ks=true∧s.D i∧dh (ν i) g
def mkF(f:Nat):Value:=.func (.func f) #[] #[]
theorem JY {c:Ctx} : ∀ {cs:List PV} {l:List Nat} {vs:List Value},Rh cs=some l→aj c cs vs→vs=l.map mkF|[],l,vs,h,hp=>(by simp only[Rh,y5]at h;subst h;simp only[aj]at hp;exact hp)|p::r,l,vs,h,hp=>by unfold Rh at h;split at h;(·rename_i he;cases he);(·rename_i f r' he;injection he with e1 e2;subst e1;subst e2;split at h;(·rename_i l' hl;injection h with h;subst h;simp only[aj]at hp;obtain⟨v,r,rfl,hv,hr⟩:=hp;simp only[ag]at hv;have ML:[v]=[Value.func (.func f) #[] #[]]:=hv.2;injection ML with ML;rw[ML,JY hl hr];rfl);·cases h);·cases h
theorem JZ {w:World} {M:Mem} : ∀(x:Nat)(l:List Nat),aH (EM (x::l)) (TR (x::l)) w M ((x::l).map mkF)|x,[]=>rfl|x,y::r=>⟨[mkF x],(y::r).map mkF,rfl,rfl,JZ y r⟩
theorem CD: ∀(x:Nat)(l:List Nat),(EM (x::l)).cells=(x::l).length|x,[]=>rfl|x,y::r=>by show 1+(EM (y::r)).cells=_;rw[CD y r];simp only[x6];omega
theorem FT: ∀l:List Nat,aR (EM l)=0|[]=>rfl|[_]=>rfl|x::y::r=>by show aR .aL+aR (EM (y::r))=0;rw[FT (y::r)];rfl
mutual theorem FU {c c':Ctx} {ks:List Nat} {bl:List (Nat×aQ)} (hw:c'.w=c.w)(hS: ∀b,c.M.S b→c'.M.S b)(hD: ∀i,ao i ks=false→c.D i→c'.D i)(cE:c'.ν=c.ν)(hb: ∀i b,look i bl=some b→kC c i b)(hl: ∀i,ao i ks=true→c.D i→ ∀g,dh (c.ν i) g→c'.M.S g): ∀ {p:PV} {v:Value},ag c p v→ag c' (p.aO ks bl) v|.iv T x,v,h=>(by simp only[PV.aO,ag]at h⊢;exact⟨h.1,jm (fun _ _=>by rw[hw]) hS h.1 h.2⟩)|.ref i off,v,h=>(by simp only[PV.aO];cases hi:ao i ks;(·simp only[cond_false,ag]at h⊢;obtain⟨hd,g,h1,h2⟩:=h;exact⟨hD _ hi hd,g,by rw[cE];exact h1,h2⟩);·simp only[cond_true];split;(·rename_i cs te J0;split;(·rename_i x l cW;simp only[ag]at h⊢;obtain⟨hd,g,h1,h2⟩:=h;obtain⟨_,g',vs,e,e1,_,_,e2,_,e3⟩:=hb _ _ J0;rw[h1]at e1;injection e1 with e1;injection e1 with e1;injection e1 with e1;subst e1;have uN:=JY cW e3;refine⟨FT (x::l),g,0,vs.toList,by rw[h2];simp,hl i hi hd g (by rw[h1];rfl),by rw[uN,List.length_map];exact(CD x l).symm,fun j v hj=>?_,?_⟩;(·rw[hw];simp only[World.cell?,e2,Nat.zero_add];simpa using hj);·rw[uN];exact JZ x l);·simp only[ag]);·simp only[ag])|.eV T x off,v,h=>(by simp only[PV.aO,ag]at h⊢;obtain⟨ho,g,o,cs,h1,h2,h3,h4,h5⟩:=h;exact⟨ho,g,o,cs,h1,hS _ h2,h3,h4.mono (by rw[hw]),aD (fun _ _=>by rw[hw]) hS _ _ _ ho h5⟩)|.aB i,v,h=>(by simp only[PV.aO];cases hi:ao i ks;(·simp only[cond_false,ag]at h⊢;exact⟨hD _ hi h.1,by rw[cE];exact h.2.1,h.2.2⟩);·simp only[cond_true];split;(·rename_i T xs te J0;simp only[ag]at h⊢;obtain⟨nB,iH⟩:=oI (hb _ _ J0);refine⟨by simpa[aR]using nB,?_⟩;have:=sY (M':=c'.M) nB hS iH (hl i hi h.1);rw[h.2.1,hw];exact this);·simp only[ag])|.ll i sz off len,v,h=>(by simp only[PV.aO];cases hi:ao i ks;(·simp only[cond_false,ag]at h⊢;obtain⟨hd,a,n,cap,b,h1,h2⟩:=h;exact⟨hD _ hi hd,a,n,cap,b,by rw[cE];exact h1,h2⟩);·simp only[cond_true];split;(·rename_i T xs te J0;split;(·rename_i cY;have cY:=y6 cY;simp only[ag]at h⊢;obtain⟨hd,a,n,cap,b,bQ9,hn,ud,rfl,jf⟩:=h;obtain⟨nB,iH⟩:=oI (hb _ _ J0);refine⟨by simpa[aR]using nB,?_⟩;have lV:=sY (M':=c'.M) nB hS iH (hl i hi hd);rw[bQ9]at lV;(have hlen:n=xs.length:=by obtain⟨a',rJ,hv,_⟩:=lV;injection hv with hv;injection hv);subst hlen;subst cY;rw[hw];exact Bl lV hn jf);·simp only[ag]);·simp only[ag])|.il i sz j off,v,h=>(by simp only[PV.aO];cases hi:ao i ks;(·simp only[cond_false,ag]at h⊢;obtain⟨hd,g,o,n,cap,h1,h2⟩:=h;exact⟨hD _ hi hd,g,o,n,cap,by rw[cE];exact h1,h2⟩);·simp only[cond_true,ag])|.lmap i,v,h=>(by simp only[PV.aO];cases hi:ao i ks;(·simp only[cond_false,ag]at h⊢;exact⟨hD _ hi h.1,by rw[cE];exact h.2.1,h.2.2⟩);·simp only[cond_true];split;(·rename_i K V es J0;simp only[ag]at h⊢;obtain⟨dy,wm,h0,r,ay,clock,h1,h2,h3,h4,h5,h6,h7⟩:=hb _ _ J0;refine⟨by simp only[aR];omega,?_⟩;rw[hw];exact O8 dy wm hS h0 (by rw[h.2.1,h1]) (hl i hi h.1 r (by rw[h1];rfl)) h4 h5 h6 h7);·simp only[ag])|.agg cs,v,h=>(by simp only[PV.aO,ag]at h⊢;obtain⟨vs,h1,h0,h2⟩:=h;exact⟨vs,h1,h0,ft hw hS hD cE hb hl h2⟩)|.bG cs,v,h=>(by simp only[PV.aO,ag]at h⊢;obtain⟨vs,h1,h2⟩:=h;exact⟨vs,h1,ft hw hS hD cE hb hl h2⟩)|.bO,v,h=>(by simp only[PV.aO,ag]at h⊢;exact h)|.cv,v,h=>(by simp only[PV.aO,ag]at h⊢;exact h)|.dV,v,h=>(by simp only[PV.aO,ag]at h⊢;exact h)|.ke i base T n j,v,h=>(by simp only[PV.aO];cases hi:ao i ks;(·simp only[cond_false,ag]at h⊢;obtain⟨hd,h0,hn,g,h1,h2⟩:=h;exact⟨hD _ hi hd,h0,hn,g,by rw[cE];exact h1,h2⟩);·simp only[cond_true,ag])|.zW f cs,v,h=>(by simp only[PV.aO,ag]at h⊢;obtain⟨vs,h1,h2⟩:=h;exact⟨vs,h1,ft hw hS hD cE hb hl h2⟩)|.rk f cs,v,h=>(by simp only[PV.aO,ag]at h⊢;obtain⟨vs,h1,h2⟩:=h;exact⟨vs,h1,ft hw hS hD cE hb hl h2⟩)|.bU hk i,v,h=>(by simp only[PV.aO];cases hi:ao i ks;(·simp only[cond_false,ag]at h⊢;exact⟨hD _ hi h.1,by rw[cE];exact h.2⟩);·simp only[cond_true,ag])|.clip T xs,v,h=>(by simp only[PV.aO,ag]at h⊢;exact⟨h.1,h.2.1,aD (fun _ _=>by rw[hw]) hS (.sl T) _ _ h.1 h.2.2⟩)|.fn f cs,v,h=>(by simp only[PV.aO,ag]at h⊢;obtain⟨vs,h1,h2⟩:=h;exact⟨vs,h1,ft hw hS hD cE hb hl h2⟩)|.any,v,h=>by simp only[PV.aO,ag]theorem ft {c c':Ctx} {ks:List Nat} {bl:List (Nat×aQ)} (hw:c'.w=c.w)(hS: ∀b,c.M.S b→c'.M.S b)(hD: ∀i,ao i ks=false→c.D i→c'.D i)(cE:c'.ν=c.ν)(hb: ∀i b,look i bl=some b→kC c i b)(hl: ∀i,ao i ks=true→c.D i→ ∀g,dh (c.ν i) g→c'.M.S g): ∀ {ps:List PV} {vs:List Value},aj c ps vs→aj c' (PV.iR ks bl ps) vs|[],vs,h=>(by simp only[PV.iR,aj]at h⊢;exact h)|p::ps,vs,h=>by simp only[PV.iR,aj]at h⊢;obtain⟨v,r,h1,h2,h3⟩:=h;exact⟨v,r,h1,FU hw hS hD cE hb hl h2,ft hw hS hD cE hb hl h3⟩end
theorem yI(s:St)(ks:List Nat)(i:Nat):look i (s.aO ks).bl=bif ao i ks then none else(look i s.bl).map (aQ.map (PV.iR ks s.bl)):=by simp only[St.aO,eW,qg]
theorem UD(s:St)(ks:List Nat)(t:Nat):(s.aO ks).get t=(s.get t).aO ks s.bl:=by simp only[St.get,St.aO,jg];cases look t s.sl<;>simp[PV.aO]
theorem Full.eO(h:Full n w0 S0 s a w ν S)(ks:List Nat):Full n w0 S0 (s.aO ks) a w ν (lT S s ν ks):=by
 have hS: ∀b,S b→lT S s ν ks b:=fun b hb=>.inl hb;(have hD: ∀i,ao i ks=false→s.D i→(s.aO ks).D i:=by rintro i hi⟨b,hb⟩;exact⟨b.map (PV.iR ks s.bl),by rw[yI,hi,hb];rfl⟩)
 have hl: ∀i,ao i ks=true→s.D i→ ∀g,dh (ν i) g→lT S s ν ks g:=fun i hi hd g hg=>.inr ⟨i,hi,hd,hg⟩;(have iG: ∀i b,look i (s.aO ks).bl=some b→ao i ks=false∧ ∃b0,look i s.bl=some b0∧b=b0.map (PV.iR ks s.bl):=by intro i b hb;rw[yI]at hb;cases hi:ao i ks with|true=>rw[hi]at hb;cases hb|false=>rw[hi,cond_false]at hb;cases hl:look i s.bl with|none=>rw[hl]at hb;cases hb|some b0=>rw[hl]at hb;injection hb with hb;exact⟨rfl,b0,rfl,hb.symm⟩)
 refine⟨h.below,fun b hb=>hS b (h.FC b hb),fun b hb=>?_,⟨fun b hb=>?_,h.W.size,fun i b hb=>?_,fun i j b c eQ hi hj=>?_⟩,fun t=>?_,h.size,h.defers,h.rM,fun i hi hd=>?_,h.Hu⟩
 (·rcases hb with hb|⟨i,_,⟨b0,jR⟩,hg⟩;(·exact h.fresh b hb);·exact .inr (h.iF jR hg).1);(·rcases hb with hb|⟨i,_,⟨b0,jR⟩,hg⟩;(·exact h.W.lt b hb);·exact(h.iF jR hg).2.2)
 (·obtain⟨hi,b0,jR,rfl⟩:=iG i b hb;have hr:=h.W.cD i b0 jR;(have vW: ∀g,dh (ν i) g→ ¬lT S s ν ks g:=by rintro g hg(hs|⟨j,hj,⟨bj,hbj⟩,kf⟩);(·exact(h.iF jR hg).2.1 hs);·(have eQ:i≠j:=by rintro rfl;rw[hi]at hj;cases hj);exact h.W.ne i j b0 bj eQ jR hbj g hg kf);cases b0 with|box cs te=>obtain⟨kd,g,vs,e,h1,h2,h3,h4,h0,h5⟩:=hr;exact⟨kd.oH rfl fun _ _=>rfl,g,vs,e,h1,h2,vW g (by simp only at h1;rw[h1];rfl),h4,h0,ft (c:=⟨ν,s.D,w,⟨S,aJ w0 S0⟩⟩) (c':=⟨ν,(s.aO ks).D,w,⟨lT S s ν ks,aJ w0 S0⟩⟩) rfl hS hD rfl h.W.cD hl h5⟩|arr T xs te=>obtain⟨kd,ho,v,hv,h1,h2⟩:=hr;injection hv with hv;simp only at hv;refine⟨kd.oH rfl fun _ _=>rfl,ho,v,by simp only[hv],h1,?_⟩;rcases h2 with h2|⟨g,o,cap,cur,e,rfl,h3,h4,h5,h6,h7,h8,h9⟩;(·exact .inl h2);(·refine .inr ⟨g,o,cap,cur,e,rfl,h3,h4,vW g (by rw[hv];rfl),h6,h7,h8,fun i y hy=>?_⟩;obtain⟨cs,hl,Cd,hr⟩:=h9 i y hy;exact⟨cs,hl,Cd,aD (fun _ _=>rfl) hS _ _ _ ho hr⟩)|mp K V es=>obtain⟨dy,wm,h0,r,ay,clock,h1,h2,h3,h4,h5,h6,h7⟩:=hr;refine⟨dy,wm,h0,r,ay,clock,h1,h2,vW r (by simp only at h1;rw[h1];rfl),h4,h5,h6,fun i y hy=>?_⟩;obtain⟨e,ca,cb,a1,a2,a3,a4,a5⟩:=h7 i y hy;exact⟨e,ca,cb,a1,a2,aD (fun _ _=>rfl) hS _ _ _ dy a3,a4,aD (fun _ _=>rfl) hS _ _ _ wm a5⟩|it src since seen=>obtain⟨g,m,h1,h2,h3,h4,h6⟩:=hr;exact⟨g,m,h1,h2,vW g (by simp only at h1;rw[h1];rfl),h4,ft (c:=⟨ν,s.D,w,⟨S,aJ w0 S0⟩⟩) (c':=⟨ν,(s.aO ks).D,w,⟨lT S s ν ks,aJ w0 S0⟩⟩) rfl hS hD rfl h.W.cD hl h6⟩|Bj x pos=>obtain⟨g,h1,h2,h3,h4,h5⟩:=hr;exact⟨g,h1,h2,vW g (by simp only at h1;rw[h1];rfl),h4,h5⟩|ln T xss=>exact rO (c:=⟨ν,s.D,w,⟨S,aJ w0 S0⟩⟩) (c':=⟨ν,(s.aO ks).D,w,⟨lT S s ν ks,aJ w0 S0⟩⟩) (fun _ _=>rfl) hS rfl (fun g iQ hO _=>⟨rfl,hO,vW g iQ⟩) hr|gh o cs=>obtain⟨g,vs,h1,h2,h3,h4,h6⟩:=hr;exact⟨g,vs,h1,h2,vW g (by simp only at h1;rw[h1];rfl),h4,ft (c:=⟨ν,s.D,w,⟨S,aJ w0 S0⟩⟩) (c':=⟨ν,(s.aO ks).D,w,⟨lT S s ν ks,aJ w0 S0⟩⟩) rfl hS hD rfl h.W.cD hl h6⟩)
 (·obtain⟨_,b0,jR,_⟩:=iG i b hi;obtain⟨_,c0,th,_⟩:=iG j c hj;exact h.W.ne i j b0 c0 eQ jR th);(·rw[UD];exact FU (c:=⟨ν,s.D,w,⟨S,aJ w0 S0⟩⟩) (c':=⟨ν,(s.aO ks).D,w,⟨lT S s ν ks,aJ w0 S0⟩⟩) rfl hS hD rfl h.W.cD hl (h.gn t))
 ·obtain⟨b,hb⟩:=hd;obtain⟨_,b0,jR,_⟩:=iG i b hb;exact h.kept i hi ⟨b0,jR⟩
/-! ### Blocks handed to a callee -/
def Bp(ν:Nat→Value)(ids:List Nat):Nat→Value:=fun k=>ν (iq ids (k-P0))
theorem fP {s:St} {ids:List Nat} {k:Nat} {b:aQ} (h:look k (passed ids s.bl ids P0)=some b):P0≤k∧k-P0<ids.length∧ ∃b0,look (iq ids (k-P0)) s.bl=some b0∧b=b0.map (PV.im (fwd ids)):=by
 rw[nQ (fun _ h=>h)]at h;split at h;(·rename_i hc;cases hl:look (iq ids (k-P0)) s.bl with|none=>rw[hl]at h;cases h|some b0=>rw[hl]at h;injection h with h;exact⟨hc.1,hc.2,b0,rfl,h.symm⟩)
 ·cases h
theorem UE {s:St} {ids:List Nat} {i:Nat} (hi:ao i ids=true)(hd:s.D i):(⟨[],passed ids s.bl ids P0⟩:St).D (fwd ids i):=by
 obtain⟨b,hb⟩:=hd;obtain⟨h1,h2,h3⟩:=Bo hi;refine⟨b.map (PV.im (fwd ids)),?_⟩;simp only;rw[nQ (fun _ h=>h),if_pos ⟨h1,h3⟩,h2,hb];rfl
def cxC(S:Nat→Prop)(s:St)(ν:Nat→Value)(ids:List Nat):Cx:=⟨S,iS (Bp ν ids) (passed ids s.bl ids P0),Bp ν ids,[]⟩
theorem wV {s:St} {ν:Nat→Value} {ids:List Nat} {g:Nat} (h:iS (Bp ν ids) (passed ids s.bl ids P0) g): ∃i b,ao i ids=true∧look i s.bl=some b∧dh (ν i) g:=by
 obtain⟨k,b,hk,hg⟩:=h;obtain⟨h1,h2,b0,jR,_⟩:=fP hk;exact⟨_,b0,wT h2,jR,hg⟩
theorem FV {ks:List Nat} {bl:List (Nat×aQ)} : ∀ {l:List Nat} {i:Nat} {b:aQ},rG ks bl l=true→i∈l→look i bl=some b→iA ks b=true|[],i,b,_,h,_=>(by cases h)|x::r,i,b,h,hi,hb=>by simp only[rG,z8]at h;rcases wl hi with rfl|hi;(·have h1:=h.1;rw[hb]at h1;cases b<;>first|exact h1|rfl);·exact FV h.2 hi hb
theorem Full.handed(h:Full n w0 S0 s a w ν S) {ids:List Nat} (bU:qa ids=true)(lf:rG ids s.bl ids=true):yt ⟨[],passed ids s.bl ids P0⟩ (Bp ν ids) w ⟨S,aJ w (cxC S s ν ids)⟩∧(∀g,iS (Bp ν ids) (passed ids s.bl ids P0) g→g<w.heap.size)∧ ∀(S1:Nat→Prop),(∀b,S b→S1 b)→Ctx.ZR ids (fwd ids) ⟨ν,s.D,w,⟨S,aJ w0 S0⟩⟩ ⟨Bp ν ids,(⟨[],passed ids s.bl ids P0⟩:St).D,w,⟨S1,aJ w (cxC S s ν ids)⟩⟩:=by
 (have cE: ∀i,ao i ids=true→Bp ν ids (fwd ids i)=ν i:=by intro i hi;unfold Bp;rw[(Bo hi).2.1]);have hle: ∀(S1:Nat→Prop),(∀b,S b→S1 b)→Ctx.ZR ids (fwd ids) ⟨ν,s.D,w,⟨S,aJ w0 S0⟩⟩ ⟨Bp ν ids,(⟨[],passed ids s.bl ids P0⟩:St).D,w,⟨S1,aJ w (cxC S s ν ids)⟩⟩:=fun S1 hS1=>⟨fun _ _=>rfl,hS1,fun i hi hd=>UE hi hd,fun i hi _=>cE i hi⟩
 refine⟨⟨h.W.lt,fun b hb=>.inl hb,fun k b hb=>?_,fun k l b c yl hk hl g hg ee=>?_⟩,fun g hg=>?_,hle⟩;(·obtain⟨h1,h2,b0,jR,rfl⟩:=fP hb;have hm:=wT h2;(have hf:fwd ids (iq ids (k-P0))=k:=by rw[wU bU h2];omega);have:=rZ (hle S (fun _ h=>h)) (i:=iq ids (k-P0)) (b:=b0) (FV lf (fa.1 hm) jR) (cE _ hm) (fun g hg=>⟨rfl,.inr ⟨k,_,hb,hg⟩,(h.iF jR hg).2.1⟩) (h.W.cD _ b0 jR);rw[hf]at this;exact this)
 (·obtain⟨h1,h2,b0,jR,_⟩:=fP hk;obtain⟨h3,h4,c0,th,_⟩:=fP hl;refine h.W.ne (iq ids (k-P0)) (iq ids (l-P0)) b0 c0 (fun e=>yl ?_) jR th g hg ee;have e1:=wU bU h2;have e2:=wU bU h4;rw[e,e2]at e1;omega)
 ·obtain⟨i,b,_,hb,ee⟩:=wV hg;exact(h.iF hb ee).2.2
end
end
section
variable {en:Prop} [lj en]
open Go.RowKit
mutual theorem oR {c:Ctx} {bl:List (Nat×aQ)} (hD: ∀i,c.D i→ ∃b,look i bl=some b): ∀ {p:PV} {v:Value},ag c p v→PV.uJ (keys bl) p=true|.iv T x,v,h=>rfl|.ref i off,v,h=>(by simp only[ag]at h;obtain⟨b,hb⟩:=hD _ h.1;exact dC hb)|.eV T x off,v,h=>rfl|.aB i,v,h=>(by simp only[ag]at h;obtain⟨b,hb⟩:=hD _ h.1;exact dC hb)|.ll i sz off len,v,h=>(by simp only[ag]at h;obtain⟨b,hb⟩:=hD _ h.1;exact dC hb)|.il i sz j off,v,h=>(by simp only[ag]at h;obtain⟨b,hb⟩:=hD _ h.1;exact dC hb)|.lmap i,v,h=>(by simp only[ag]at h;obtain⟨b,hb⟩:=hD _ h.1;exact dC hb)|.agg cs,v,h=>(by simp only[ag]at h;obtain⟨vs,_,_,h2⟩:=h;exact fW hD h2)|.bG cs,v,h=>(by simp only[ag]at h;obtain⟨vs,_,h2⟩:=h;exact fW hD h2)|.bO,v,h=>rfl|.cv,v,h=>rfl|.dV,v,h=>rfl|.ke i base T n j,v,h=>(by simp only[ag]at h;obtain⟨b,hb⟩:=hD _ h.1;exact dC hb)|.zW f cs,v,h=>(by simp only[ag]at h;obtain⟨vs,_,h2⟩:=h;exact fW hD h2)|.rk f cs,v,h=>(by simp only[ag]at h;obtain⟨vs,_,h2⟩:=h;exact fW hD h2)|.bU hk i,v,h=>(by simp only[ag]at h;obtain⟨b,hb⟩:=hD _ h.1;exact dC hb)|.clip T xs,v,h=>rfl|.fn f cs,v,h=>(by simp only[ag]at h;obtain⟨vs,_,h2⟩:=h;exact fW hD h2)|.any,v,h=>rfl theorem fW {c:Ctx} {bl:List (Nat×aQ)} (hD: ∀i,c.D i→ ∃b,look i bl=some b): ∀ {ps:List PV} {vs:List Value},aj c ps vs→PV.gm (keys bl) ps=true|[],vs,h=>rfl|p::ps,vs,h=>by simp only[aj]at h;obtain⟨v,r,_,h2,h3⟩:=h;simp only[PV.gm,oR hD h2,fW hD h3,Bool.and_self]end
theorem tB {c:Ctx} {bl:List (Nat×aQ)} (hD: ∀i,c.D i→ ∃b,look i bl=some b) {i:Nat} {b:aQ} (h:kC c i b):iA (keys bl) b=true:=by
 cases b with|box cs te=>obtain⟨_,g,vs,e,_,_,_,_,_,h5⟩:=h;exact fW hD h5|it cs a b=>obtain⟨g,m,_,_,_,_,h6⟩:=h;exact fW hD h6|gh o cs=>obtain⟨g,vs,_,_,_,_,h6⟩:=h;exact fW hD h6|_=>rfl
theorem J1 {bl':List (Nat×aQ)} : ∀ {bl:List (Nat×aQ)} {k:Nat} {b:aQ},Ci bl bl'=true→look k bl=some b→look k bl'=none→(∃T xs te,b= .arr T xs te)∨ ∃T xss,b= .ln T xss|[],k,b,_,h,_=>(by cases h)|p::r,k,b,hk,h,hn=>by simp only[Ci,z8]at hk;simp only[look]at h;cases hb:Nat.beq k p.1 with|true=>simp only[hb,cond_true,y5]at h;subst h;have:=y6 hb;subst this;have h1:=hk.1;rw[hn]at h1;(cases hp:p.2 with|arr T xs te=>exact .inl ⟨T,xs,te,rfl⟩|ln T xss=>exact .inr ⟨T,xss,rfl⟩|box cs te=>rw[hp]at h1;cases h1|mp K V es=>rw[hp]at h1;cases h1|it a b c=>rw[hp]at h1;cases h1|Bj a b=>rw[hp]at h1;cases h1|gh a b=>rw[hp]at h1;cases h1)|false=>simp only[hb,cond_false]at h;exact J1 hk.2 h hn
theorem Ps {bl:List (Nat×aQ)} {used:List Nat} {d:Option Nat} : ∀ {l:List (Nat×aQ)} {k:Nat} {b:aQ},MY bl used d l=true→look k l=some b→(P0≤k∧ ∃c,look k bl=some c)∨(k<P0∧ ∃e,d=some e∧k<100000∧k+100000*(e+1)<P0∧ao (k+100000*(e+1)) used=false)|[],k,b,_,h=>(by cases h)|(p1,p2)::r,k,b,hn,h=>by obtain⟨p,hp⟩: ∃p:Nat×aQ,p=(p1,p2):=⟨_,rfl⟩;(obtain rfl:p.1=p1:=by rw[hp]);(obtain rfl:p.2=p2:=by rw[hp]);clear hp;simp only[MY,z8]at hn;simp only[look]at h;cases hb:Nat.beq k p.1 with|true=>have:=y6 hb;subst this;have h1:=hn.1;split at h1;(·rename_i eR;have hle:=Nat.le_of_ble_eq_true eR;cases hl:look p.1 bl with|none=>rw[hl]at h1;cases h1|some c=>exact .inl ⟨hle,c,rfl⟩);(·rename_i eR;(have cu:p.1<P0:=by rcases Nat.lt_or_ge p.1 P0 with h'|h';(·exact h');·rw[Nat.ble_eq_true_of_le h']at eR;cases eR);cases d with|none=>cases h1|some e=>simp only[z8,Nat.blt_eq,Bool.not_eq_true']at h1;exact .inr ⟨cu,e,rfl,h1.1.1,h1.1.2,h1.2⟩)|false=>simp only[hb,cond_false]at h;exact Ps hn.2 h
section
variable {E:Env} {n:Nat} {w0:World} {S0:Cx} {s:St} {a:Act} {w:World} {ν:Nat→Value} {S:Nat→Prop}
theorem qm {ids:List Nat} {d k:Nat} (h:P0≤k):back ids d k=iq ids (k-P0):=by unfold back;rw[Nat.ble_eq_true_of_le h];rfl
theorem tC {ids:List Nat} {d k:Nat} (h:k<P0):back ids d k=k+100000*(d+1):=by
 unfold back;(have:Nat.ble P0 k=false:=by cases hb:Nat.ble P0 k with|false=>rfl|true=>have:=Nat.le_of_ble_eq_true hb;omega);rw[this];rfl
def iw(s:St)(d:Nat)(ids:List Nat)(bl':List (Nat×aQ)):List (Nat×aQ):=kr (back ids d) bl'++bA ids (s.kill (de bl' ids P0)).bl
noncomputable def lX(ν ν':Nat→Value)(d:Nat)(bl':List (Nat×aQ)):Nat→Value:=fun i=>match Nat.ble (100000*(d+1)) i,look (i-100000*(d+1)) bl' with|true,some _=>bif Nat.blt (i-100000*(d+1)) 100000 then ν' (i-100000*(d+1))else ν i|_,_=>ν i
theorem Full.dz(h:Full n w0 S0 s a w ν S) {ids:List Nat} {d:Option Nat} {p:PV} {v:Value} {bl':List (Nat×aQ)} {w':World} {ν':Nat→Value} {S':Nat→Prop} (bU:qa ids=true)(lf:rG ids s.bl ids=true)(hk:Kept (iS (Bp ν ids) (passed ids s.bl ids P0)) w w')(h1: ∀b,S b→S' b)(h2: ∀b,S' b→S b∨aJ w (cxC S s ν ids) b)(h3: ∀i,P0≤i→(⟨[],bl'⟩:St).D i→ν' i=Bp ν ids i)(hW:yt ⟨[],bl'⟩ ν' w' ⟨S',aJ w (cxC S s ν ids)⟩)(hp:ag ⟨ν',(⟨[],bl'⟩:St).D,w',⟨S',aJ w (cxC S s ν ids)⟩⟩ p v)(Ae:Ci (passed ids s.bl ids P0) bl'=true)(dA:MY (passed ids s.bl ids P0) (keys s.bl) d bl'=true)(hd: ∀e,d=some e→e<n): ∃UF,Full n w0 S0 (s.gW d ids p bl') (a.put d v) w' UF S':=by
 obtain⟨dd,tv⟩: ∃dd:Nat,dd=(match d with|some e=>e|none=>0):=⟨_,rfl⟩;(have gD:(s.gW d ids p bl').bl=iw s dd ids bl':=by subst tv;cases d<;>rfl);(have lV: ∀t,(s.gW d ids p bl').get t=match d with|some e=>if t=e then p.eN (back ids dd)else((s.get t).kill (de bl' ids P0))|none=>(s.get t).kill (de bl' ids P0):=by intro t;subst tv;cases d with|none=>exact wv s _ t|some e=>simp only[St.gW,St.get];by_cases ht:t=e;(·subst ht;simp only[aw,if_true]);·rw[al _ _ ht,if_neg ht];have:=wv s (de bl' ids P0) t;simp only[St.get]at this;exact this)
 (have jM: ∀k b,look k bl'=some b→(P0≤k∧k-P0<ids.length∧ ∃b0,look (iq ids (k-P0)) s.bl=some b0)∨(k<P0∧d=some dd∧k<100000∧k+100000*(dd+1)<P0∧look (k+100000*(dd+1)) s.bl=none):=by intro k b hb;rcases Ps dA hb with⟨hle,c,hc⟩|⟨cu,e,he,hk1,hk2,hk3⟩;(·obtain⟨_,h5,b0,jR,_⟩:=fP hc;exact .inl ⟨hle,h5,b0,jR⟩);·subst he;simp only at tv;subst tv;refine .inr ⟨cu,rfl,hk1,hk2,?_⟩;cases hl:look (k+100000*(dd+1)) s.bl with|none=>rfl|some b=>rw[dC hl]at hk3;cases hk3)
 (have E4: ∀j k c e,look j bl'=some c→look k bl'=some e→back ids dd j=back ids dd k→j=k:=by intro j k c e hj hk he;rcases jM j c hj with⟨a1,a2,b0,a3⟩|⟨a1,_,a2,a3,a4⟩;(·rcases jM k e hk with⟨b1,b2,c0,b3⟩|⟨b1,_,b2,b3,b4⟩;(·rw[qm a1,qm b1]at he;have e1:=wU bU a2;have e2:=wU bU b2;rw[he,e2]at e1;omega);·rw[qm a1,tC b1]at he;rw[he,b4]at a3;cases a3);·rcases jM k e hk with⟨b1,b2,c0,b3⟩|⟨b1,_,b2,b3,b4⟩;(·rw[tC a1,qm b1]at he;rw[←he,a4]at b3;cases b3);·rw[tC a1,tC b1]at he;omega)
 (have sc: ∀i,s.D i→lX ν ν' dd bl' i=ν i:=by rintro i⟨b,hb⟩;unfold lX;split;(·rename_i c eR hl;cases cu:Nat.blt (i-100000*(dd+1)) 100000 with|false=>rfl|true=>have hle:=Nat.le_of_ble_eq_true eR;rw[Nat.blt_eq]at cu;rcases jM _ c hl with⟨a1,_⟩|⟨_,_,_,_,a4⟩;(·unfold P0 at a1;omega);·rw[show i-100000*(dd+1)+100000*(dd+1)=i from by omega,hb]at a4;cases a4);·rfl)
 (have CE: ∀k b,look k bl'=some b→lX ν ν' dd bl' (back ids dd k)=ν' k:=by intro k b hb;rcases jM k b hb with⟨a1,a2,b0,a3⟩|⟨a1,_,a2,a3,a4⟩;(·rw[qm a1,sc _ ⟨b0,a3⟩,h3 k a1 ⟨b,hb⟩];rfl);·rw[tC a1];unfold lX;rw[Nat.ble_eq_true_of_le v6,show k+100000*(dd+1)-100000*(dd+1)=k from by omega,hb];(have:Nat.blt k 100000=true:=by rw[Nat.blt_eq];exact a2);simp only[this,cond_true])
 (have UG: ∀k b,look k bl'=some b→look (back ids dd k) (iw s dd ids bl')=some (b.map (PV.im (back ids dd))):=by intro k b hb;unfold iw;rw[nR,iT (fun i c hc he=>E4 i k c b hc hb he) hb])
 (have a09: ∀i,ao i ids=false→s.D i→ ∃b,look i (iw s dd ids bl')=some b:=by rintro i hi⟨b,hb⟩;unfold iw;rw[nR];cases look i (kr (back ids dd) bl')with|some x=>exact⟨x,rfl⟩|none=>exact⟨b.map (PV.cK (de bl' ids P0)),by simp only;rw[eW,hi,cond_false,oJ,hb];rfl⟩)
 (have CF: ∀i b,look i (iw s dd ids bl')=some b→(∃k c,back ids dd k=i∧look k bl'=some c∧b=c.map (PV.im (back ids dd)))∨(ao i ids=false∧ ∃b0,look i s.bl=some b0∧b=b0.map (PV.cK (de bl' ids P0))):=by intro i b hb;unfold iw at hb;rw[nR]at hb;cases hr:look i (kr (back ids dd) bl')with|some x=>rw[hr]at hb;injection hb with hb;subst hb;exact .inl (mZ E4 hr)|none=>rw[hr]at hb;simp only at hb;rw[eW]at hb;cases hi:ao i ids with|true=>rw[hi]at hb;cases hb|false=>rw[hi,cond_false,oJ]at hb;cases hl:look i s.bl with|none=>rw[hl]at hb;cases hb|some b0=>rw[hl]at hb;injection hb with hb;exact .inr ⟨rfl,b0,rfl,hb.symm⟩)
 (have FW: ∀g,iS (Bp ν ids) (passed ids s.bl ids P0) g→aJ w0 S0 g∧ ¬S g∧g<w.heap.size:=fun g hg=>by obtain⟨i,b,_,hb,ee⟩:=wV hg;exact h.iF hb ee);(have iH: ∀g,aJ w (cxC S s ν ids) g→aJ w0 S0 g:=fun g hg=>by rcases hg with hg|hg;(·exact h.W.size g hg);·exact(FW g hg).1)
 (have UH: ∀i,ao i ids=true→s.D i→ao i (de bl' ids P0)=false→ ∃b,look (fwd ids i) bl'=some b:=by intro i hi _ Pt;obtain⟨f1,f2,f3⟩:=Bo hi;cases hl:look (fwd ids i) bl' with|some b=>exact⟨b,rfl⟩|none=>have:=(CC (bl':=bl') (i:=i) (l:=ids) (j:=P0)).2 ⟨fwd ids i-P0,f3,f2,by rw[show P0+(fwd ids i-P0)=fwd ids i from by omega];exact hl⟩;rw[this]at Pt;cases Pt)
 (have hD: ∀i,s.D i→ao i (de bl' ids P0)=false→(⟨[],iw s dd ids bl'⟩:St).D i:=by intro i hi Pt;cases hm:ao i ids with|false=>exact a09 i hm hi|true=>obtain⟨b,hb⟩:=UH i hm hi Pt;have:=UG _ b hb;obtain⟨f1,f2,f3⟩:=Bo hm;rw[qm f1,f2]at this;exact⟨_,this⟩)
 have bB6:Ctx.FF (de bl' ids P0) ⟨ν,s.D,w,⟨S,aJ w0 S0⟩⟩ ⟨lX ν ν' dd bl',(⟨[],iw s dd ids bl'⟩:St).D,w',⟨S',aJ w0 S0⟩⟩:=⟨fun b hb=>hk.block b (h.W.lt b hb) (fun hf=>(FW b hf).2.1 hb),h1,hD,fun i hi _=>sc i hi⟩
 (have Tx:FG ⟨ν,s.D,w,⟨S,aJ w0 S0⟩⟩ (de bl' ids P0):=by rintro i hi⟨b,hb⟩;obtain⟨k,e1,e2,e3⟩:=CC.1 hi;(have pP:look (P0+k) (passed ids s.bl ids P0)=some (b.map (PV.im (fwd ids))):=by rw[nQ (fun _ h=>h),if_pos ⟨v6,v6⟩,show P0+k-P0=k from by omega,e2,hb];rfl);rcases J1 Ae pP e3 with⟨T,xs,te,FR⟩|⟨T,xss,FR⟩;(·cases b with|arr T xs te=>obtain⟨kd,_,u,hu,_,hc⟩:=h.W.cD i _ hb;injection hu with hu;simp only at hu⊢;rw[hu];rcases hc with⟨hc,_⟩|⟨g,o,cap,cur,e,hc,_⟩<;>subst hc<;>exact .inl ⟨_,_,_,rfl⟩|box cs te=>cases FR|mp K V es=>cases FR|it a b c=>cases FR|Bj a b=>cases FR|gh a b=>cases FR|ln a b=>cases FR);·cases b with|ln T xss=>obtain⟨_,us,hu,_⟩:=h.W.cD i _ hb;exact .inr ⟨us,hu⟩|box cs te=>cases FR|arr a b c=>cases FR|mp K V es=>cases FR|it a b c=>cases FR|Bj a b=>cases FR|gh a b=>cases FR)
 have bB7:Ctx.ZR (keys bl') (back ids dd) ⟨ν',(⟨[],bl'⟩:St).D,w',⟨S',aJ w (cxC S s ν ids)⟩⟩ ⟨lX ν ν' dd bl',(⟨[],iw s dd ids bl'⟩:St).D,w',⟨S',aJ w0 S0⟩⟩:=⟨fun _ _=>rfl,fun _ h=>h,fun i _⟨b,hb⟩=>⟨_,UG i b hb⟩,fun i _⟨b,hb⟩=>CE i b hb⟩
 (have J2:yt ⟨[],iw s dd ids bl'⟩ (lX ν ν' dd bl') w' ⟨S',aJ w0 S0⟩:=by refine⟨hW.lt,fun b hb=>h.W.size b (Nat.le_trans hk.size hb),fun i b hb=>?_,fun i j b c eQ hi hj g hg ee=>?_⟩;(·rcases CF i b hb with⟨k,c,rfl,hc,rfl⟩|⟨hi,b0,jR,rfl⟩;(·have hr:=hW.cD k c hc;exact rZ bB7 (tB (fun i hi=>hi) hr) (CE k c hc) (fun g hg=>⟨rfl,iH g (jQ hr hg).1,(jQ hr hg).2.1⟩) hr);·refine yw bB6 Tx rfl (sc i ⟨b0,jR⟩) (fun g hg=>?_) (h.W.cD i b0 jR);obtain⟨g1,g2,g3⟩:=h.iF jR hg;(have E1: ¬iS (Bp ν ids) (passed ids s.bl ids P0) g:=by intro hf;obtain⟨j,c0,hj,th,kf⟩:=wV hf;exact h.W.ne i j b0 c0 (by rintro rfl;rw[hi]at hj;cases hj) jR th g hg kf);refine⟨hk.block g g3 E1,fun _ Ut=>?_⟩;rcases h2 g Ut with h'|h'|h';(·exact g2 h');(·omega);·exact E1 h');·(have AB: ∀(k:Nat)(c:aQ)(j:Nat)(c0:aQ),look k bl'=some c→ao j ids=false→look j s.bl=some c0→dh (ν' k) g→dh (ν j) g→False:=by intro k c j c0 hc hj th ur kf;obtain⟨g1,g2,g3⟩:=h.iF th kf;rcases(jQ (hW.cD k c hc) ur).1 with h'|h';(·exact absurd g3 (Nat.not_lt.2 h'));·obtain⟨j',c0',Aa,bR0,bR1⟩:=wV h';exact h.W.ne j j' c0 c0' (by rintro rfl;rw[hj]at Aa;cases Aa) th bR0 g kf bR1);rcases CF i b hi with⟨k,c1,rfl,Jj,_⟩|⟨hi1,b0,jR,_⟩;(·rw[CE k c1 Jj]at hg;rcases CF j c hj with⟨l,c2,rfl,hc2,_⟩|⟨hj1,c0,th,_⟩;(·rw[CE l c2 hc2]at ee;exact hW.ne k l c1 c2 (fun e=>eQ (by rw[e])) Jj hc2 g hg ee);·rw[sc j ⟨c0,th⟩]at ee;exact AB k c1 j c0 Jj hj1 th hg ee);·rw[sc i ⟨b0,jR⟩]at hg;rcases CF j c hj with⟨l,c2,rfl,hc2,_⟩|⟨hj1,c0,th,_⟩;(·rw[CE l c2 hc2]at ee;exact AB l c2 i b0 hc2 hi1 jR ee hg);·rw[sc j ⟨c0,th⟩]at ee;exact h.W.ne i j b0 c0 eQ jR th g hg ee)
 (have a10:(s.gW d ids p bl').D=(⟨[],iw s dd ids bl'⟩:St).D:=by unfold St.D;rw[gD]);refine⟨lX ν ν' dd bl',⟨⟨hk.os.trans h.below.os,hk.tape.trans h.below.tape,hk.output.trans h.below.output,Nat.le_trans h.below.size hk.size,fun b hb hx=>?_,fun hd=>Nat.le_trans (h.below.drawn hd) (hk.drawn hd)⟩,fun b hb=>h1 b (h.FC b hb),fun b hb=>?_,⟨J2.lt,J2.size,fun i b hb=>?_,fun i j b c eQ hi hj=>?_⟩,fun t=>?_,?_,?_,h.rM,fun i hi FD=>?_,h.Hu⟩⟩
 (·rw[hk.block b (Nat.lt_of_lt_of_le hb h.below.size) (fun hf=>?_),h.below.block b hb hx];rcases(FW b hf).1 with h'|h';(·omega);·exact hx h');(·rcases h2 b hb with h'|h';(·exact h.fresh b h');·exact .inr (iH b h'))
 (·rw[gD]at hb;rw[a10];exact J2.cD i b hb);(·rw[gD]at hi hj;exact J2.ne i j b c eQ hi hj);(·rw[a10,lV t];have hold:ag ⟨lX ν ν' dd bl',(⟨[],iw s dd ids bl'⟩:St).D,w',⟨S',aJ w0 S0⟩⟩ ((s.get t).kill (de bl' ids P0)) (a.tmps.getD t undef):=tg bB6 Tx (h.gn t);cases d with|none=>exact hold|some e=>by_cases ht:t=e;(·subst ht;simp only[if_true];have htn:=hd t rfl;(have:(a.put (some t) v).tmps.getD t undef=v:=by simp[Act.put,h.size,htn]);rw[this];exact mY bB7 (oR (fun i hi=>hi) hp) hp);·show ag _ (if t=e then p.eN (back ids dd)else(s.get t).kill (de bl' ids P0)) _;rw[if_neg ht];(have:(a.put (some e) v).tmps.getD t undef=a.tmps.getD t undef:=by simp only[Act.put,Array.getD_eq_getD_getElem?];rw[Array.getElem?_setIfInBounds_ne v6]);rw[this];exact hold)
 (·rw[wu];exact h.size);(·rw[qf];exact h.defers);·rw[a10]at FD;obtain⟨b,hb⟩:=FD;rcases CF i b hb with⟨k,c,rfl,hc,_⟩|⟨_,b0,jR,_⟩;(·rcases jM k c hc with⟨a1,a2,b0,a3⟩|⟨a1,_,a2,a3,a4⟩;(·rw[qm a1]at hi⊢;rw[sc _ ⟨b0,a3⟩];exact h.kept _ hi ⟨b0,a3⟩);·rw[tC a1]at hi;omega);·rw[sc i ⟨b0,jR⟩];exact h.kept i hi ⟨b0,jR⟩
end
end
end Go.Proofs.YtimognngcagphaaGreat
