/-
  What a callee leaves that was handed local blocks. Nothing here is trusted; no condition.
-/
import Derived.Test.YtefpgfdemmllpaaA2
import Derived.Laws.Closers25b
import Derived.ChangeKeysEq
import Derived.Laws.BytesArg
import Derived.Lib.AppendZerosOnto
import Derived.MapKept
import Derived.Maps.RangeRun
set_option linter.unusedSimpArgs false
set_option linter.unusedVariables false
namespace Go.Proofs.Ytefpgfdemmllpaa
open Go.RowKit

theorem wrap_in (k:IntKind) {n:Int} (h:k.min ≤ n ∧ n ≤ k.max):k.wrap n = n:=by
  obtain ⟨h1,h2⟩:=h
  cases k <;> simp [IntKind.min,IntKind.max,IntKind.wrap,IntKind.bits,IntKind.signed] at * <;> omega
theorem min_le_zero (k:IntKind):k.min ≤ 0:=by cases k <;> decide
theorem zero_le_max (k:IntKind):0 ≤ k.max:=by cases k <;> decide

theorem eqGuard_int (P:Program) (w:World) (op:BinOp) (t:Nat) (x y:Operand) (k l:IntKind) (m n:Int):(eqGuard op t x y (.int k m) (.int l n)).run P w = .ok () w:=by
  unfold eqGuard
  simp only [Sem.run_ite]
  split <;> rfl
theorem eqGuard_str (P:Program) (w:World) (op:BinOp) (t:Nat) (x y:Operand) (m n:ByteArray):(eqGuard op t x y (.string m) (.string n)).run P w = .ok () w:=by
  unfold eqGuard
  simp only [Sem.run_ite]
  split <;> rfl
theorem eqGuard_bool (P:Program) (w:World) (op:BinOp) (t:Nat) (x y:Operand) (m n:Bool):(eqGuard op t x y (.bool m) (.bool n)).run P w = .ok () w:=by
  unfold eqGuard
  simp only [Sem.run_ite]
  split <;> rfl

theorem max_lt (k:IntKind):k.max < 2 ^ k.bits:=by cases k <;> decide
theorem ofInt_toNat (k:IntKind) {x:Int} (h0:0 ≤ x) (h1:x ≤ k.max):(BitVec.ofInt k.bits x).toNat = x.toNat:=by
  have h2:=max_lt k
  rw [BitVec.toNat_ofInt]
  have h3:x % ((2 ^ k.bits:Nat):Int) = x:=Int.emod_eq_of_lt h0 (by push_cast; omega)
  rw [h3]

theorem bin_int {E:Env} {c:Ctx} {op:BinOp} {k:IntKind} {x y:Int} {t:Nat} {w:World} {Kl:Out → Prop} (hx:k.min ≤ x ∧ x ≤ k.max) (hy:k.min ≤ y ∧ y ≤ k.max) (h:OutK E (binInt op k x y) Kl) :
    ∃ p v,Kl (.val p) ∧ PRel c p v ∧ (binOp op t (.int k x) (.int k y)).run E.P w = .ok v w:=by
  have hmn:=min_le_zero k
  have arith_ok:∀ (r:Int),(∃ v,(binOp op t (.int k x) (.int k y)).run E.P w = .ok v w ∧ v = .int k (k.wrap r)) → OutK E (arith k r) Kl → ∃ p v,Kl (.val p) ∧ PRel c p v ∧ (binOp op t (.int k x) (.int k y)).run E.P w = .ok v w:=by
    rintro r ⟨v,hv,rfl⟩ ⟨hr,hK⟩
    exact ⟨_,_,hK,PRel_int hr,by rw [hv,wrap_in k hr]⟩
  have bool_ok:∀ (b:Bool),(binOp op t (.int k x) (.int k y)).run E.P w = .ok (.bool b) w → OutK E (boolV b) Kl → ∃ p v,Kl (.val p) ∧ PRel c p v ∧ (binOp op t (.int k x) (.int k y)).run E.P w = .ok v w:=by
    intro b hb hK
    exact ⟨_,_,hK,PRel_bool,hb⟩
  cases op <;> simp only [binInt] at h
  case add => exact arith_ok _ ⟨_,by simp [binOp,Op.intArith],rfl⟩ h
  case sub => exact arith_ok _ ⟨_,by simp [binOp,Op.intArith],rfl⟩ h
  case mul => exact arith_ok _ ⟨_,by simp [binOp,Op.intArith],rfl⟩ h
  case quo =>
    obtain ⟨⟨h0,h1⟩,hK⟩:=h
    have hq:k.min ≤ x / y ∧ x / y ≤ k.max:=by
      have e1:0 ≤ x / y:=Int.ediv_nonneg h0 (by omega)
      have e2:x / y ≤ x:=Int.ediv_le_self _ h0
      omega
    refine ⟨_,_,hK,PRel_int hq,?_⟩
    simp only [binOp,ne_eq,not_true_eq_false,if_false,Op.intDiv]
    rw [if_neg (by omega)]
    simp only [Sem.run_pure,Int.tdiv_eq_ediv_of_nonneg h0,wrap_in k hq]
  case rem =>
    obtain ⟨⟨h0,h1⟩,hK⟩:=h
    have hq:k.min ≤ x % y ∧ x % y ≤ k.max:=by
      have e1:0 ≤ x % y:=Int.emod_nonneg _ (by omega)
      have e2:x % y < y:=Int.emod_lt_of_pos _ h1
      omega
    refine ⟨_,_,hK,PRel_int hq,?_⟩
    simp only [binOp,ne_eq,not_true_eq_false,if_false,Op.intDiv]
    rw [if_neg (by omega)]
    simp only [Sem.run_pure,Int.tmod_eq_emod_of_nonneg h0]
  case and =>
    obtain ⟨⟨h0,h1⟩,hK⟩:=h
    have e1:x.toNat &&& y.toNat ≤ x.toNat:=Nat.and_le_left
    have hr:k.min ≤ ((x.toNat &&& y.toNat:Nat):Int) ∧ ((x.toNat &&& y.toNat:Nat):Int) ≤ k.max:=by omega
    refine ⟨_,_,hK,PRel_int hr,?_⟩
    simp only [binOp,ne_eq,not_true_eq_false,if_false,Op.intBits,Sem.run_pure,BitVec.toNat_and,ofInt_toNat k h0 hx.2,ofInt_toNat k h1 hy.2,wrap_in k hr]
  case or =>
    obtain ⟨⟨h0,h1⟩,hK⟩:=h
    have hr:k.min ≤ ((x.toNat ||| y.toNat:Nat):Int) ∧ ((x.toNat ||| y.toNat:Nat):Int) ≤ k.max:=by
      refine ⟨by omega,?_⟩
      have hp:∃ b:Nat,k.max = ((2 ^ b - 1:Nat):Int):=by
        cases k
        · exact ⟨7,by decide⟩
        · exact ⟨15,by decide⟩
        · exact ⟨31,by decide⟩
        · exact ⟨63,by decide⟩
        · exact ⟨8,by decide⟩
        · exact ⟨16,by decide⟩
        · exact ⟨32,by decide⟩
        · exact ⟨64,by decide⟩
      obtain ⟨b,hb⟩:=hp
      have hpos:0 < 2 ^ b:=Nat.two_pow_pos b
      have:x.toNat ||| y.toNat < 2 ^ b:=Nat.or_lt_two_pow (by omega) (by omega)
      omega
    refine ⟨_,_,hK,PRel_int hr,?_⟩
    simp only [binOp,ne_eq,not_true_eq_false,if_false,Op.intBits,Sem.run_pure,BitVec.toNat_or,ofInt_toNat k h0 hx.2,ofInt_toNat k h1 hy.2,wrap_in k hr]
  case lss => exact bool_ok _ (by simp [binOp,Op.intCmp]) h
  case leq => exact bool_ok _ (by simp [binOp,Op.intCmp]) h
  case gtr => exact bool_ok _ (by simp [binOp,Op.intCmp]) h
  case geq => exact bool_ok _ (by simp [binOp,Op.intCmp]) h
  case eql =>
    refine bool_ok _ ?_ h
    simp only [binOp,ne_eq,not_true_eq_false,if_false,Op.intCmp,Sem.run_pure]
    rfl
  case neq =>
    refine bool_ok _ ?_ h
    simp only [binOp,ne_eq,not_true_eq_false,if_false,Op.intCmp,Sem.run_pure]
    rfl
  all_goals exact h.elim

theorem shift_int {E:Env} {c:Ctx} {op:BinOp} {k l:IntKind} {x y:Int} {t:Nat} {w:World} {Kl:Out → Prop} (hx:k.min ≤ x ∧ x ≤ k.max) (h:OutK E (shiftInt op k x y) Kl) :
    ∃ p v,Kl (.val p) ∧ PRel c p v ∧ (binOp op t (.int k x) (.int l y)).run E.P w = .ok v w:=by
  have hmn:=min_le_zero k
  cases op <;> simp only [shiftInt] at h
  case shl =>
    obtain ⟨⟨h0,h1⟩,hr,hK⟩:=h
    refine ⟨_,_,hK,PRel_int hr,?_⟩
    simp only [binOp,Op.shift]
    rw [if_neg (by omega)]
    have e1:min y.toNat k.bits = y.toNat:=by omega
    simp only [e1,Sem.run_pure,wrap_in k hr]
  case shr =>
    obtain ⟨⟨hx0,h0,h1⟩,hK⟩:=h
    have hpos:(0:Int) < 2 ^ y.toNat:=Int.pow_pos (by omega)
    have hq:k.min ≤ x / 2 ^ y.toNat ∧ x / 2 ^ y.toNat ≤ k.max:=by
      have e1:0 ≤ x / 2 ^ y.toNat:=Int.ediv_nonneg hx0 (by omega)
      have e2:x / 2 ^ y.toNat ≤ x:=Int.ediv_le_self _ hx0
      omega
    refine ⟨_,_,hK,PRel_int hq,?_⟩
    simp only [binOp,Op.shift]
    rw [if_neg (by omega)]
    have e1:min y.toNat k.bits = y.toNat:=by omega
    simp only [e1,Sem.run_pure]
    rw [Int.fdiv_eq_ediv_of_nonneg _ (by omega)]
  all_goals exact h.elim

theorem toList_mk (x:List UInt8):(⟨x.toArray⟩:ByteArray).toList = x:=by
  rw [ByteArray.toList_eq]
theorem less_eq:∀ (x y:List UInt8),Op.bytesLess x y = bytesLess x y
  | _,[] => by simp [Op.bytesLess,bytesLess]
  | [],_ :: _ => by simp [Op.bytesLess,bytesLess]
  | a :: x,b :: y => by simp only [Op.bytesLess,bytesLess,less_eq x y]

theorem bin_str {E:Env} {c:Ctx} {op:BinOp} {x y:List UInt8} {t:Nat} {w:World} {Kl:Out → Prop} (h:OutK E (binStr op x y) Kl) :
    ∃ p v,Kl (.val p) ∧ PRel c p v ∧ (binOp op t (.string ⟨x.toArray⟩) (.string ⟨y.toArray⟩)).run E.P w = .ok v w:=by
  cases op <;> simp only [binStr] at h
  case add =>
    obtain ⟨hl,hK⟩:=h
    refine ⟨_,_,hK,PRel_str (by rw [List.length_append]; exact hl),?_⟩
    have e1:(⟨x.toArray⟩:ByteArray).size = x.length:=by simp [ByteArray.size]
    have e2:(⟨y.toArray⟩:ByteArray).size = y.length:=by simp [ByteArray.size]
    have e3:(⟨x.toArray⟩:ByteArray) ++ ⟨y.toArray⟩ = ⟨(x ++ y).toArray⟩:=by
      apply ByteArray.ext
      rw [ByteArray.data_append]
      simp
    simp only [binOp,Op.stringOp,e1,e2,e3,Sem.run_ite]
    rw [if_neg (by simp [IntKind.max,IntKind.signed,IntKind.bits]; omega)]
    rfl
  case eql =>
    refine ⟨_,_,h,PRel_bool,?_⟩
    have e:(x == y) = decide (x = y):=by rw [Bool.eq_iff_iff]; simp
    simp only [binOp,Op.stringOp,toList_mk,Sem.run_pure,e]
  case neq =>
    refine ⟨_,_,h,PRel_bool,?_⟩
    have e:(x == y) = decide (x = y):=by rw [Bool.eq_iff_iff]; simp
    simp only [binOp,Op.stringOp,toList_mk,Sem.run_pure,e]
  case lss =>
    refine ⟨_,_,h,PRel_bool,?_⟩
    simp only [binOp,Op.stringOp,toList_mk,Sem.run_pure,less_eq]
  case geq =>
    refine ⟨_,_,h,PRel_bool,?_⟩
    simp only [binOp,Op.stringOp,toList_mk,Sem.run_pure,less_eq]
  all_goals exact h.elim
end Go.Proofs.Ytefpgfdemmllpaa
namespace Go.Proofs.Ytefpgfdemmllpaa
open Go.RowKit

section
variable {E:Env}

def eqKind (E:Env) (t:Nat):Ty → Prop
  | .int _ => True | .bool => True | .str => True | .st _ => E.cmp t = true | _ => False

theorem cmp_facts (hE:EnvOK E) {t:Nat} (h:E.cmp t = true):(∃ R,E.ty t = some (.st R)) ∧ E.P.eqGuardType E.P.depth t = false ∧
    ((∃ fs,E.P.underlying t = some (.struct fs) ∧ fieldsCmp E.ty E.cmp fs.toList = true ∧ E.P.stoodInHeld t = false) ∨ ∃ m e,E.P.underlying t = some (.array m e) ∧ elemCmp E.ty E.cmp e = true):=by
  have h1:=hE.cmp t h
  simp only [cmpOK,Bool.and_eq_true,Bool.not_eq_true'] at h1
  obtain ⟨h1,h4⟩:=h1
  split at h1
  · rename_i fs R hu hT
    simp only [Bool.and_eq_true,Bool.not_eq_true'] at h1
    exact ⟨⟨R,hT⟩,h4,.inl ⟨fs,hu,h1.1.1,h1.2⟩⟩
  · rename_i m e R hu hT
    exact ⟨⟨R,hT⟩,h4,.inr ⟨m,e,hu,h1⟩⟩
  · cases h1

theorem eq_fields (hE:EnvOK E) {w:World} {M:Mem} {d:Nat}
    (ih:∀ (T:Ty) (t:Nat) (x y:T.den) (v u:Value) (r:Bool),TyFacts E t T → eqKind E t T → RepV T x w M v → RepV T y w M u → beqD T x y = some r → dep T ≤ d → (Op.equalIn (d + 1) t v u).run E.P w = .ok r w) :
    ∀ (fs:List Field) (R:Ty) (off:Nat),fieldsOK E.ty fs R off = true → fieldsCmp E.ty E.cmp fs = true → ∀ (x y:R.den) (r:Bool) (xs ys:Array Value),dep R ≤ d → off + R.cells ≤ xs.size → off + R.cells ≤ ys.size →
      RepC R x w M ((xs.toList.drop off).take R.cells) → RepC R y w M ((ys.toList.drop off).take R.cells) → beqD R x y = some r → (Op.eqFields (d + 1) xs ys fs).run E.P w = .ok r w:=by
  have one:∀ (f:Field) (T:Ty) (off:Nat) (x y:T.den) (r:Bool) (xs ys:Array Value),Nat.beq f.offset off = true → tyIs E.ty f.type T = true → (match E.ty f.type with | some (.int _) => true | some .bool => true | some .str => true | some (.st _) => E.cmp f.type | _ => false) = true →
      dep T ≤ d → off + T.cells ≤ xs.size → off + T.cells ≤ ys.size → RepC T x w M ((xs.toList.drop off).take T.cells) → RepC T y w M ((ys.toList.drop off).take T.cells) → beqD T x y = some r →
      ∃ v u,(Go.part f.type xs f.offset).run E.P w = .ok v w ∧ (Go.part f.type ys f.offset).run E.P w = .ok u w ∧ (Op.equalIn (d + 1) f.type v u).run E.P w = .ok r w:=by
    intro f T off x y r xs ys h1 h2 hc hd hx hy hrx hry hb
    have hoff:=Nat.eq_of_beq_eq_true h1
    have hT:E.ty f.type = some T:=by
      unfold tyIs at h2
      split at h2
      · rename_i U hU
        rw [Ty.eq_spec h2] at hU
        exact hU
      · cases h2
    have hf:=hE.facts hT
    rw [hT] at hc
    have hk:eqKind E f.type T:=by
      cases T <;> first | trivial | exact hc | cases hc
    have hrv:∀ (z:T.den) (vs:List Value),RepC T z w M vs → RepV T z w M (valOf T vs):=by
      intro z vs hr
      have:=valOf_cells hf.val hr
      have hv:=hf.val
      cases T <;> first | exact this | cases hv
    exact ⟨_,_,by rw [hoff]; exact run_part hf hx,by rw [hoff]; exact run_part hf hy,ih T f.type x y _ _ r hf hk (hrv x _ hrx) (hrv y _ hry) hb hd⟩
  intro fs
  induction fs with
  | nil => intro R off h; cases h
  | cons f fs ihf =>
    intro R off h hc x y r xs ys hd hx hy hrx hry hb
    simp only [fieldsCmp,Bool.and_eq_true] at hc
    cases fs with
    | nil =>
      simp only [fieldsOK,Bool.and_eq_true] at h
      obtain ⟨⟨⟨⟨h1,h2⟩,h3⟩,h4⟩,h5⟩:=h
      obtain ⟨v,u,e1,e2,e3⟩:=one f R off x y r xs ys h1 h2 hc.1 hd hx hy hrx hry hb
      have hn : f.name ≠ "_" := by simpa using h5
      simp only [Op.eqFields]
      rw [if_pos hn]
      simp only [Sem.run_bind,e1,e2,e3,Result.andThen_ok,Sem.run_ite]
      cases r <;> simp
    | cons g gs =>
      cases R with
      | pair a b =>
        have h':=h
        simp only [fieldsOK,Bool.and_eq_true] at h
        obtain ⟨⟨⟨⟨⟨h1,h2⟩,h3⟩,h4⟩,h5⟩,h6⟩:=h
        simp only [beqD] at hb
        split at hb
        · rename_i p q hp hq
          simp only [Option.some.injEq] at hb
          have hda:dep a ≤ d:=by simp only [dep] at hd; omega
          have hdb:dep b ≤ d:=by simp only [dep] at hd; omega
          simp only [Ty.cells] at hx hy hrx hry
          obtain ⟨va,vb,hv,hra,hrb⟩:=hrx
          obtain ⟨ua,ub,hu,hsa,hsb⟩:=hry
          have split:∀ (zs:Array Value) (za zb:List Value),za.length = a.cells → zb.length = b.cells → (zs.toList.drop off).take (a.cells + b.cells) = za ++ zb → (zs.toList.drop off).take a.cells = za ∧ (zs.toList.drop (off + a.cells)).take b.cells = zb:=by
            intro zs za zb hla hlb he
            constructor
            · have:=congrArg (List.take a.cells) he
              rw [List.take_take,Nat.min_eq_left (by omega),← hla,List.take_left] at this
              rw [← hla]
              exact this
            · have:=congrArg (List.drop a.cells) he
              rw [List.drop_take,List.drop_drop,← hla,List.drop_left] at this
              rw [← hla]
              rw [show za.length + b.cells - za.length = b.cells from by omega] at this
              exact this
          obtain ⟨e1,e2⟩:=split xs va vb (RepC_len _ _ _ _ _ hra) (RepC_len _ _ _ _ _ hrb) hv
          obtain ⟨e3,e4⟩:=split ys ua ub (RepC_len _ _ _ _ _ hsa) (RepC_len _ _ _ _ _ hsb) hu
          obtain ⟨v,u,f1,f2,f3⟩:=one f a off x.1 y.1 p xs ys h1 h2 hc.1 hda (by omega) (by omega) (by rw [e1]; exact hra) (by rw [e3]; exact hsa) hp
          have rest:=ihf b (off + a.cells) (by unfold fieldsOK; exact h6) hc.2 x.2 y.2 q xs ys hdb (by omega) (by omega) (by rw [e2]; exact hrb) (by rw [e4]; exact hsb) hq
          have hn : f.name ≠ "_" := by simpa using h5
          rw [Op.eqFields]
          rw [if_pos hn]
          simp only [Sem.run_bind,f1,f2,f3,Result.andThen_ok,Sem.run_ite]
          subst hb
          cases p
          · simp
          · simpa using rest
        · cases hb
      | _ => simp only [fieldsOK] at h; cases h

theorem eq_items (hE:EnvOK E) {w:World} {M:Mem} {d:Nat} {e:Nat} {V:Ty} (hV:E.ty e = some V) (hc:elemCmp E.ty E.cmp e = true) (hdV:dep V ≤ d)
    (ih:∀ (T:Ty) (t:Nat) (x y:T.den) (v u:Value) (r:Bool),TyFacts E t T → eqKind E t T → RepV T x w M v → RepV T y w M u → beqD T x y = some r → dep T ≤ d → (Op.equalIn (d + 1) t v u).run E.P w = .ok r w) :
    ∀ (m k:Nat) (x y:(rowOf V (m + 1)).den) (r:Bool) (xs ys:Array Value),(k + (m + 1)) * V.cells ≤ xs.size → (k + (m + 1)) * V.cells ≤ ys.size →
      RepC (rowOf V (m + 1)) x w M ((xs.toList.drop (k * V.cells)).take ((m + 1) * V.cells)) → RepC (rowOf V (m + 1)) y w M ((ys.toList.drop (k * V.cells)).take ((m + 1) * V.cells)) → beqD (rowOf V (m + 1)) x y = some r →
      (Op.eqItems (d + 1) e V.cells xs ys (List.range' k (m + 1))).run E.P w = .ok r w:=by
  have hf:=hE.facts hV
  have hk:eqKind E e V:=by
    unfold elemCmp at hc
    rw [hV] at hc
    cases V <;> first | trivial | exact hc | cases hc
  have hrv:∀ (z:V.den) (vs:List Value),RepC V z w M vs → RepV V z w M (valOf V vs):=by
    intro z vs hr
    have:=valOf_cells hf.val hr
    have hv:=hf.val
    cases V <;> first | exact this | cases hv
  have one:∀ (k:Nat) (x y:V.den) (r:Bool) (xs ys:Array Value),(k + 1) * V.cells ≤ xs.size → (k + 1) * V.cells ≤ ys.size → RepC V x w M ((xs.toList.drop (k * V.cells)).take V.cells) → RepC V y w M ((ys.toList.drop (k * V.cells)).take V.cells) → beqD V x y = some r →
      ∃ v u,(Go.part e xs (k * V.cells)).run E.P w = .ok v w ∧ (Go.part e ys (k * V.cells)).run E.P w = .ok u w ∧ (Op.equalIn (d + 1) e v u).run E.P w = .ok r w:=by
    intro k x y r xs ys hx hy hrx hry hb
    rw [Nat.add_mul,Nat.one_mul] at hx hy
    exact ⟨_,_,run_part hf hx,run_part hf hy,ih V e x y _ _ r hf hk (hrv x _ hrx) (hrv y _ hry) hb hdV⟩
  intro m
  induction m with
  | zero =>
    intro k x y r xs ys hx hy hrx hry hb
    simp only [Nat.zero_add,Nat.one_mul] at hrx hry
    obtain ⟨v,u,e1,e2,e3⟩:=one k x y r xs ys hx hy hrx hry hb
    rw [List.range'_succ,List.range'_zero]
    simp only [Op.eqItems,Sem.run_bind,e1,e2,e3,Result.andThen_ok,Sem.run_ite]
    cases r <;> simp
  | succ m ihm =>
    intro k x y r xs ys hx hy hrx hry hb
    simp only [rowOf,beqD] at hb
    split at hb
    · rename_i p q hp hq
      simp only [Option.some.injEq] at hb
      obtain ⟨va,vb,hv,hra,hrb⟩:=hrx
      obtain ⟨ua,ub,hu,hsa,hsb⟩:=hry
      have hla:=RepC_len _ _ _ _ _ hra
      have hlb:=RepC_len _ _ _ _ _ hrb
      have hsla:=RepC_len _ _ _ _ _ hsa
      have hslb:=RepC_len _ _ _ _ _ hsb
      have split:∀ (zs:Array Value) (za zb:List Value),za.length = V.cells → (zs.toList.drop (k * V.cells)).take ((m + 1 + 1) * V.cells) = za ++ zb → (zs.toList.drop (k * V.cells)).take V.cells = za ∧ (zs.toList.drop ((k + 1) * V.cells)).take ((m + 1) * V.cells) = zb:=by
        intro zs za zb hla he
        have hle:V.cells ≤ (m + 1 + 1) * V.cells:=Nat.le_mul_of_pos_left _ (by omega)
        constructor
        · have:=congrArg (List.take V.cells) he
          rw [List.take_take,Nat.min_eq_left hle,← hla,List.take_left] at this
          rw [← hla]
          exact this
        · have:=congrArg (List.drop V.cells) he
          rw [List.drop_take,List.drop_drop,← hla,List.drop_left,hla] at this
          rw [show (m + 1 + 1) * V.cells - V.cells = (m + 1) * V.cells from by rw [Nat.add_mul (m + 1) 1]; omega,show k * V.cells + V.cells = (k + 1) * V.cells from by rw [Nat.add_mul,Nat.one_mul]] at this
          exact this
      obtain ⟨e1,e2⟩:=split xs va vb hla hv
      obtain ⟨e3,e4⟩:=split ys ua ub hsla hu
      have hmul:(k + 1) * V.cells ≤ (k + (m + 1 + 1)) * V.cells:=Nat.mul_le_mul_right _ (by omega)
      obtain ⟨v,u,f1,f2,f3⟩:=one k x.1 y.1 p xs ys (by omega) (by omega) (by rw [e1]; exact hra) (by rw [e3]; exact hsa) hp
      have rest:=ihm (k + 1) x.2 y.2 q xs ys (by rw [show k + 1 + (m + 1) = k + (m + 1 + 1) from by omega]; exact hx) (by rw [show k + 1 + (m + 1) = k + (m + 1 + 1) from by omega]; exact hy) (by rw [e2]; exact hrb) (by rw [e4]; exact hsb) hq
      rw [List.range'_succ]
      simp only [Op.eqItems,Sem.run_bind,f1,f2,f3,Result.andThen_ok,Sem.run_ite]
      subst hb
      cases p
      · simp
      · simpa using rest
    · cases hb

theorem eq_val (hE:EnvOK E) {w:World} {M:Mem}:∀ (d:Nat) (T:Ty) (t:Nat) (x y:T.den) (v u:Value) (r:Bool),TyFacts E t T → eqKind E t T → RepV T x w M v → RepV T y w M u → beqD T x y = some r → dep T ≤ d → (Op.equalIn (d + 1) t v u).run E.P w = .ok r w:=by
  intro d
  induction d with
  | zero =>
    intro T t x y v u r hf hk hv hu hb hd
    cases T with
    | int k =>
      obtain ⟨hv,_⟩:=hv; injection hv with hv; subst hv
      obtain ⟨hu,_⟩:=hu; injection hu with hu; subst hu
      obtain ⟨dd,hu,hs⟩:=hf.und
      cases dd <;> first | cases hs | skip
      rename_i k'
      simp only [beqD,Option.some.injEq] at hb
      subst hb
      rw [run_equalIn_int _ _ _ _ _ _ _ hu]
      rfl
    | bool =>
      obtain ⟨rfl⟩:=hv
      obtain ⟨rfl⟩:=hu
      obtain ⟨dd,hu,hs⟩:=hf.und
      have hdd:dd = .bool:=by cases dd <;> first | rfl | cases hs
      subst hdd
      simp only [beqD,Option.some.injEq] at hb
      subst hb
      exact run_equalIn_bool' _ _ _ _ _ hu
    | str =>
      obtain ⟨hv,_⟩:=hv; injection hv with hv; subst hv
      obtain ⟨hu,_⟩:=hu; injection hu with hu; subst hu
      obtain ⟨dd,hu,hs⟩:=hf.und
      have hdd:dd = .string:=by cases dd <;> first | rfl | cases hs
      subst hdd
      simp only [beqD,Option.some.injEq] at hb
      subst hb
      rw [run_equalIn_string _ _ _ _ _ hu,toList_mk,toList_mk]
      have e:(x == y) = decide (x = y):=by rw [Bool.eq_iff_iff]; simp
      rw [e]
    | st R => simp only [dep] at hd; omega
    | _ => cases hk
  | succ d ih =>
    intro T t x y v u r hf hk hv hu hb hd
    cases T with
    | int k =>
      obtain ⟨hv,_⟩:=hv; injection hv with hv; subst hv
      obtain ⟨hu,_⟩:=hu; injection hu with hu; subst hu
      obtain ⟨dd,hu,hs⟩:=hf.und
      cases dd <;> first | cases hs | skip
      rename_i k'
      simp only [beqD,Option.some.injEq] at hb
      subst hb
      rw [run_equalIn_int _ _ _ _ _ _ _ hu]
      rfl
    | bool =>
      obtain ⟨rfl⟩:=hv
      obtain ⟨rfl⟩:=hu
      obtain ⟨dd,hu,hs⟩:=hf.und
      have hdd:dd = .bool:=by cases dd <;> first | rfl | cases hs
      subst hdd
      simp only [beqD,Option.some.injEq] at hb
      subst hb
      exact run_equalIn_bool' _ _ _ _ _ hu
    | str =>
      obtain ⟨hv,_⟩:=hv; injection hv with hv; subst hv
      obtain ⟨hu,_⟩:=hu; injection hu with hu; subst hu
      obtain ⟨dd,hu,hs⟩:=hf.und
      have hdd:dd = .string:=by cases dd <;> first | rfl | cases hs
      subst hdd
      simp only [beqD,Option.some.injEq] at hb
      subst hb
      rw [run_equalIn_string _ _ _ _ _ hu,toList_mk,toList_mk]
      have e:(x == y) = decide (x = y):=by rw [Bool.eq_iff_iff]; simp
      rw [e]
    | st R =>
      obtain ⟨⟨R',hT'⟩,_,hkind⟩:=cmp_facts hE hk
      obtain ⟨vs,rfl,hrv⟩:=hv
      obtain ⟨us,rfl,hru⟩:=hu
      rcases hkind with ⟨fs,hund,hcmp,hst⟩ | ⟨m,e,hund,hcmp⟩
      case inr =>
        rcases hf.agg hE with ⟨fs,hund',_⟩ | ⟨m',e',V,hund',hV,rfl,hVv,hV1,hm⟩
        · rw [hund] at hund'; cases hund'
        · rw [hund] at hund'
          injection hund' with hund'
          injection hund' with h1 h2
          subst h1; subst h2
          obtain ⟨i,hi,hsz,_⟩:=(hE.facts hV).info
          have hcell:E.P.cellsOf e = V.cells:=by simp [Program.cellsOf,hi,hsz]
          rw [run_equalIn_array w (d + 1) vs.toArray us.toArray hund hi,hcell,List.range_eq_range']
          obtain ⟨m,rfl⟩:∃ k,m = k + 1:=⟨m - 1,by omega⟩
          have hlen:∀ (V:Ty) (k:Nat),(rowOf V k).cells = k * V.cells:=by
            intro V k
            induction k with
            | zero => simp [rowOf,Ty.cells]
            | succ k ih =>
              cases k with
              | zero => simp [rowOf]
              | succ k => simp only [rowOf,Ty.cells,ih,Nat.add_mul]; omega
          have hdep:∀ (V:Ty) (k:Nat),dep V ≤ dep (rowOf V (k + 1)):=by
            intro V k
            cases k with
            | zero => exact Nat.le_refl _
            | succ k => simp only [rowOf,dep]; omega
          have l1:=RepC_len _ _ _ _ _ hrv
          have l2:=RepC_len _ _ _ _ _ hru
          rw [hlen] at l1 l2
          have hd1:=hdep V m
          simp only [dep] at hd
          refine eq_items hE hV hcmp (by omega) ih m 0 x y r vs.toArray us.toArray (by simp [l1]) (by simp [l2]) ?_ ?_ hb
          · simpa [List.take_of_length_le (Nat.le_of_eq l1)] using hrv
          · simpa [List.take_of_length_le (Nat.le_of_eq l2)] using hru
      have hfo:E.P.fieldsOf t = fs:=by simp [Program.fieldsOf,hund]
      have hok:fieldsOK E.ty fs.toList R 0 = true:=by
        obtain ⟨dd,hd',hs⟩:=hf.und
        rw [hund] at hd'
        injection hd' with hd'
        subst hd'
        exact hs
      rw [run_equalIn_struct w (d + 1) t vs.toArray us.toArray (by rw [hfo]; exact hund) hst,hfo]
      have l1:=RepC_len _ _ _ _ _ hrv
      have l2:=RepC_len _ _ _ _ _ hru
      refine eq_fields hE ih fs.toList R 0 hok hcmp x y r vs.toArray us.toArray (by simp only [dep] at hd; omega) (by simp [l1]) (by simp [l2]) ?_ ?_ hb
      · simpa [List.take_of_length_le (Nat.le_of_eq l1)] using hrv
      · simpa [List.take_of_length_le (Nat.le_of_eq l2)] using hru
    | _ => cases hk

theorem run_equalIn_ptr {P:Program} (w:World) (d:Nat) {t e:TypeId} (x:Option Addr) (hu:P.underlying t = some (.pointer e)):(Op.equalIn (d + 1) t (.pointer x) (.pointer none)).run P w = .ok x.isNone w:=by
  unfold Op.equalIn
  cases x <;> simp [run_underlying hu]
theorem bin_eq (hE:EnvOK E) {n:Nat} {w0:World} {S0:Cx} {s:St} {a:Act} {w:World} {ν:Nat → Value} {S:Nat → Prop} {F:Reg} (h:Full n w0 S0 s a w ν S) {t:Nat} {neg:Bool} {p q:PV} {v u:Value} {xo yo:Operand} {Kl:Out → Prop}
    (hp:PRel h.c p v) (hq:PRel h.c q u) (hout:OutK E (binEq E F s.bl t neg p q) Kl) :
    ∃ r v',Kl (.val r) ∧ PRel h.c r v' ∧ (do eqGuard (if neg then .neq else .eql) t xo yo v u; binOp (if neg then .neq else .eql) t v u:Go.Sem Value).run E.P w = .ok v' w:=by
  unfold binEq at hout
  split at hout
  · rename_i T hT
    split at hout
    · rename_i r hpn
      unfold ptrNil at hpn
      split at hpn
      case h_2 => cases hpn
      rename_i U
      split at hpn
      case h_2 => cases hpn
      obtain ⟨dd,hu2,hs⟩:=(hE.facts hT).und
      obtain ⟨e,rfl⟩:∃ e,dd = .pointer e:=by cases dd <;> first | exact ⟨_,rfl⟩ | cases hs
      simp only [PRel] at hq
      subst hq
      have fin:∀ (ad:Option Addr),v = .pointer ad → r = ad.isNone → ∃ r v',Kl (.val r) ∧ PRel h.c r v' ∧ (do eqGuard (if neg then .neq else .eql) t xo yo v (.pointer none); binOp (if neg then .neq else .eql) t v (.pointer none):Go.Sem Value).run E.P w = .ok v' w:=by
        intro ad hv hr
        subst hv; subst hr
        have he:=run_equalIn_ptr (P:=E.P) w 9999 ad hu2
        refine ⟨_,.bool (negIf neg ad.isNone),hout,PRel_bool,?_⟩
        cases neg <;> simp [eqGuard,binOp,Op.equal,Op.maxDepth,he,negIf]
      split at hpn
      · simp only [PRel] at hp
        injection hpn with hpn
        exact fin none hp hpn.symm
      · simp only [PRel,RepR,RepV,RepC] at hp
        obtain ⟨_,g,ob,cs,hv,_⟩:=hp
        simp only [List.cons.injEq,and_true] at hv
        injection hpn with hpn
        exact fin _ hv hpn.symm
      · simp only [PRel] at hp
        obtain ⟨_,g,ob,cs,hv,_⟩:=hp
        injection hpn with hpn
        exact fin _ hv hpn.symm
      · simp only [PRel] at hp
        obtain ⟨_,g,_,hv⟩:=hp
        injection hpn with hpn
        exact fin _ hv hpn.symm
      · cases hpn
    split at hout
    · rename_i x y hx hy hcan
      split at hout
      · rename_i r hb
        have hf:=hE.facts hT
        -- the data,in whatever memory
        have hR:Reads F s h.c ⟨fun b => S b ∨ b < w.heap.size,own0 w0 S0⟩:=⟨rfl,h.W.blk,fun b hb => .inl hb,fun id _ ⟨b,hb⟩ g hg => .inr (h.blkB hb hg).2.2⟩
        have hv:=exp_sound hR (.inl hf.own) hx hp
        have hu:=exp_sound hR (.inl hf.own) hy hq
        cases T with
        | bool =>
          obtain ⟨hv'⟩:=hv
          obtain ⟨hu'⟩:=hu
          obtain ⟨dd,hu2,hs⟩:=hf.und
          have hdd:dd = .bool:=by cases dd <;> first | rfl | cases hs
          subst hdd
          simp only [beqD,Option.some.injEq] at hb
          subst hb
          have he:=run_equalIn_bool' (P:=E.P) w 9999 t x y hu2
          refine ⟨_,_,hout,PRel_bool,?_⟩
          cases neg
          · simp only [Bool.false_eq_true,if_false,Sem.run_bind,eqGuard_bool,Result.andThen_ok,binOp,Op.equal,Op.maxDepth,he,Sem.run_pure,negIf]
          · simp only [if_true,Sem.run_bind,eqGuard_bool,Result.andThen_ok,binOp,Op.equal,Op.maxDepth,he,Sem.run_pure,negIf]
        | st R =>
          simp only [canEq,Bool.and_eq_true] at hcan
          obtain ⟨_,hgd,_⟩:=cmp_facts hE hcan.1
          have hdep:=Nat.le_of_ble_eq_true hcan.2
          have he:(Op.equalIn 10000 t v u).run E.P w = .ok r w:=eq_val hE 9999 (.st R) t x y v u r hf hcan.1 hv hu hb (by simp only [dep]; omega)
          obtain ⟨vs,rfl,_⟩:=hv
          obtain ⟨us,rfl,_⟩:=hu
          refine ⟨_,_,hout,PRel_bool,?_⟩
          cases neg
          · simp only [Bool.false_eq_true,if_false,Sem.run_bind,run_eqGuard_agg (P:=E.P) w _ t xo yo _ _ hgd,Result.andThen_ok,run_eql_struct,he,negIf]
          · simp only [if_true,Sem.run_bind,run_eqGuard_agg (P:=E.P) w _ t xo yo _ _ hgd,Result.andThen_ok,run_neq_struct,he,negIf]
        | _ => cases hcan
      · exact hout.elim
    · exact hout.elim
  · exact hout.elim
end
end Go.Proofs.Ytefpgfdemmllpaa
namespace Go.Proofs.Ytefpgfdemmllpaa
open Go.RowKit

section
variable {E:Env} {n:Nat} {w0:World} {S0:Cx} {s:St} {a:Act} {w:World} {ν:Nat → Value} {S:Nat → Prop} {F:Reg} {o:Oper} {K:St → Prop} {Q:Exit → Act → World → Prop}

theorem run_equalIn_slice {P:Program} (w:World) (d:Nat) {t e:TypeId} (aa:Option Addr) (m cap:Nat) (hu:P.underlying t = some (.slice e)):(Op.equalIn (d + 1) t (.slice aa m cap) (.slice none 0 0)).run P w = .ok aa.isNone w:=by
  unfold Op.equalIn
  cases aa <;> simp [run_underlying hu]
theorem op_binOp (hE:EnvOK E) (h:Full n w0 S0 s a w ν S) (ho:opOK n o = true) {op:BinOp} {t:Nat} {x y:Operand} {t2:Nat} (hop:o.op = .binOp op t x y t2) (hout:OutK E (stepF E F s o) (fun l => K (s.fin o.dst l))):o.wp E.P a w (fun a' w' => ∃ s',K s' ∧ Rel n w0 S0 s' a' w') Q:=by
  simp only [stepF,hop] at hout
  have hx:=h.ev (opOK_arg ho (x:=x) (by simp [hop,Op.operands]))
  have hy:=h.ev (opOK_arg ho (x:=y) (by simp [hop,Op.operands]))
  have fin:∀ (p:PV) (v:Value),K (s.fin o.dst (.val p)) → PRel h.c p v → (do eqGuard op t x y (a.eval x) (a.eval y); binOp op t (a.eval x) (a.eval y):Go.Sem Value).run E.P w = .ok v w → o.wp E.P a w (fun a' w' => ∃ s',K s' ∧ Rel n w0 S0 s' a' w') Q:=by
    intro p v hK hp hr
    refine h.val ho (v:=v) ?_ hp hK
    simp only [execOp,hop]
    rw [Sem.run_bind,hr]
    simp only [Result.andThen_ok,Sem.run_pure]
  have nil1:∀ (neg:Bool) (oo:Out),op = (if neg then .neq else .eql) → nilCmp1 E F t neg (s.ev x) (s.ev y) = some oo → OutK E oo (fun l => K (s.fin o.dst l)) → o.wp E.P a w (fun a' w' => ∃ s',K s' ∧ Rel n w0 S0 s' a' w') Q:=by
    intro neg oo hop' hn hK
    unfold nilCmp1 at hn
    split at hn
    case h_2 => cases hn
    rename_i hevy
    rw [hevy] at hy
    simp only [PRel] at hy
    split at hn
    case h_2 => cases hn
    rename_i U hT
    obtain ⟨e,hu,_⟩:=(hE.facts hT).elem hE
    have hrun:∀ (aa:Option Addr) (m cap:Nat),a.eval x = .slice aa m cap → (do eqGuard op t x y (a.eval x) (a.eval y); binOp op t (a.eval x) (a.eval y):Go.Sem Value).run E.P w = .ok (.bool (negIf neg aa.isNone)) w:=by
      intro aa m cap hv
      rw [hv,hy,hop']
      have he:=run_equalIn_slice (P:=E.P) w 9999 aa m cap hu
      cases neg <;> simp [eqGuard,binOp,Op.equal,Op.maxDepth,he,negIf]
    split at hn
    · rename_i V xs hevx
      injection hn with hn
      subst hn
      rw [hevx] at hx
      simp only [PRel] at hx
      obtain ⟨_,aa,cap,hv,hle,hcap,hcase⟩:=hx
      injection hv with hv
      refine fin _ _ (hK (negIf neg aa.isNone) (fun hb => ?_)) PRel_bool (hrun _ _ _ hv)
      rcases hcase with rfl | ⟨g,ob,rfl,_⟩
      · rfl
      · cases neg <;> simp [negIf] at hb
    · rename_i hevx
      injection hn with hn
      subst hn
      rw [hevx] at hx
      simp only [PRel] at hx
      exact fin _ _ hK PRel_bool (hrun none 0 0 hx)
    · cases hn
  split at hout
  · rename_i oo hn
    unfold nilCmp at hn
    split at hn
    · exact nil1 false oo rfl hn hout
    · exact nil1 true oo rfl hn hout
    · cases hn
  simp only [binO] at hout
  split at hout
  · rename_i k m l m' hevx hevy
    rw [hevx] at hx
    rw [hevy] at hy
    obtain ⟨hvx,hrx⟩:=PRel_val_int hx
    obtain ⟨hvy,hry⟩:=PRel_val_int hy
    split at hout
    · obtain ⟨p,v,hK,hp,hr⟩:=shift_int (c:=h.c) (l:=l) (t:=t) (w:=w) hrx hout
      refine fin p v hK hp ?_
      simp only [hvx,hvy,Sem.run_bind,eqGuard_int,Result.andThen_ok,hr]
    · split at hout
      · rename_i hk
        have hkl:=kindEq_spec hk
        subst hkl
        split at hout
        · rename_i htm
          have hop':op = .rem:=by
            simp only [Bool.and_eq_true] at htm
            cases op <;> first | rfl | exact absurd htm.2 (by decide)
          subst hop'
          obtain ⟨h0,hK⟩:=hout
          change Int at m
          change Int at m'
          have h0:(0:Int) < m':=h0
          have hq:k.min ≤ Int.tmod m m' ∧ Int.tmod m m' ≤ k.max:=by
            have hmn:=min_le_zero k
            have hmx:=zero_le_max k
            rcases Int.le_total 0 m with hm | hm
            · rw [Int.tmod_eq_emod_of_nonneg hm]
              have e1:0 ≤ m % m':=Int.emod_nonneg _ (by omega)
              have e2:m % m' < m':=Int.emod_lt_of_pos _ h0
              omega
            · obtain ⟨q,rfl⟩:∃ q,m = -q:=⟨-m,by omega⟩
              rw [Int.neg_tmod,Int.tmod_eq_emod_of_nonneg (by omega)]
              have e1:0 ≤ q % m':=Int.emod_nonneg _ (by omega)
              have e2:q % m' ≤ q:=by
                rcases Int.lt_or_le q m' with h' | h'
                · rw [Int.emod_eq_of_lt (by omega) h']; exact Int.le_refl _
                · have:=Int.emod_lt_of_pos q h0; omega
              omega
          refine fin _ (.int k (Int.tmod m m')) hK (PRel_int hq) ?_
          simp only [hvx,hvy,Sem.run_bind,eqGuard_int,Result.andThen_ok,binOp,ne_eq,not_true_eq_false,if_false,Op.intDiv]
          rw [if_neg (by omega)]
          rfl
        split at hout
        · rename_i htm
          have hop':op = .quo:=by
            simp only [Bool.and_eq_true] at htm
            cases op <;> first | rfl | exact absurd htm.2 (by decide)
          subst hop'
          obtain ⟨h0,hK⟩:=hout
          change Int at m
          change Int at m'
          have h0:(0:Int) < m':=h0
          have hq:k.min ≤ Int.tdiv m m' ∧ Int.tdiv m m' ≤ k.max:=by
            have hmn:=min_le_zero k
            have hmx:=zero_le_max k
            rcases Int.le_total 0 m with hm | hm
            · rw [Int.tdiv_eq_ediv_of_nonneg hm]
              have e1:0 ≤ m / m':=Int.ediv_nonneg hm (by omega)
              have e2:m / m' ≤ m:=Int.ediv_le_self m' hm
              omega
            · obtain ⟨q,rfl⟩:∃ q,m = -q:=⟨-m,by omega⟩
              rw [Int.neg_tdiv,Int.tdiv_eq_ediv_of_nonneg (by omega)]
              have e1:0 ≤ q / m':=Int.ediv_nonneg (by omega) (by omega)
              have e2:q / m' ≤ q:=Int.ediv_le_self m' (by omega)
              omega
          refine fin _ (.int k (Int.tdiv m m')) hK (PRel_int hq) ?_
          simp only [hvx,hvy,Sem.run_bind,eqGuard_int,Result.andThen_ok,binOp,ne_eq,not_true_eq_false,if_false,Op.intDiv]
          rw [if_neg (by omega),wrap_in k hq]
          rfl
        · obtain ⟨p,v,hK,hp,hr⟩:=bin_int (c:=h.c) (t:=t) (w:=w) hrx hry hout
          refine fin p v hK hp ?_
          simp only [hvx,hvy,Sem.run_bind,eqGuard_int,Result.andThen_ok,hr]
      · exact hout.elim
  · rename_i m m' hevx hevy
    rw [hevx] at hx
    rw [hevy] at hy
    obtain ⟨hvx,hrx⟩:=PRel_val_str hx
    obtain ⟨hvy,hry⟩:=PRel_val_str hy
    obtain ⟨p,v,hK,hp,hr⟩:=bin_str (c:=h.c) (t:=t) (w:=w) hout
    refine fin p v hK hp ?_
    simp only [hvx,hvy,Sem.run_bind,eqGuard_str,Result.andThen_ok,hr]
  · split at hout
    · obtain ⟨r,v',hK,hr,hrun⟩:=bin_eq hE h (neg:=false) (xo:=x) (yo:=y) hx hy hout
      exact fin r v' hK hr hrun
    · obtain ⟨r,v',hK,hr,hrun⟩:=bin_eq hE h (neg:=true) (xo:=x) (yo:=y) hx hy hout
      exact fin r v' hK hr hrun
    · exact hout.elim

theorem op_unOp (h:Full n w0 S0 s a w ν S) (ho:opOK n o = true) {op:UnOp} {t:Nat} {x:Operand} (hop:o.op = .unOp op t x) (hout:OutK E (stepF E F s o) (fun l => K (s.fin o.dst l))):o.wp E.P a w (fun a' w' => ∃ s',K s' ∧ Rel n w0 S0 s' a' w') Q:=by
  simp only [stepF,hop] at hout
  have hx:=h.ev (opOK_arg ho (x:=x) (by simp [hop,Op.operands]))
  split at hout
  · rename_i b hev
    rw [hev] at hx
    have hv:=PRel_val_bool hx
    refine h.val ho ?_ PRel_bool hout
    simp [execOp,hop,hv,Op.unary]
  · rename_i k m hev
    rw [hev] at hx
    obtain ⟨hv,_⟩:=PRel_val_int hx
    obtain ⟨hr,hK⟩:=hout
    refine h.val ho ?_ (PRel_int hr) hK
    simp only [execOp,hop,hv,Op.unary,Op.intArith,Sem.run_bind,Sem.run_pure,Result.andThen_ok,wrap_in k hr]
  · exact hout.elim

theorem widens_ok {k l:IntKind} (h:widens k l = true) {x:Int} (hx:k.min ≤ x ∧ x ≤ k.max):l.min ≤ x ∧ x ≤ l.max:=by
  cases k <;> cases l <;> first | (simp [IntKind.min,IntKind.max,IntKind.signed,IntKind.bits] at *; omega) | cases h

theorem bytes_of_row {w:World} {M:Mem}:∀ (xs:List Int) (vs:List Value),(∀ i y,xs[i]? = some y → RepC (.int .u8) y w M ((vs.drop i).take 1)) → vs.length = xs.length → vs = xs.map (Value.int .u8)
  | [],vs,_,hl => by simpa using hl
  | x :: xs,[],_,hl => by simp at hl
  | x :: xs,v :: vs,h,hl => by
    obtain ⟨h0,_⟩:=h 0 x rfl
    simp at h0
    subst h0
    have:=bytes_of_row xs vs (fun i y hy => by simpa using h (i + 1) y (by simpa using hy)) (by simpa using hl)
    rw [this]
    rfl

theorem Source.of_sl {T:Ty} {xs:List T.den} {w:World} {M:Mem} {a:Option Addr} {len cap:Nat} (h:RepC (.sl T) xs w M [.slice a len cap]):len = xs.length ∧ ∃ news,Source w T.cells a xs.length news ∧ ∀ i y,xs[i]? = some y → RepC T y w M ((news.drop (i * T.cells)).take T.cells):=by
  obtain ⟨a',cap',hv,h1,h2,h3⟩:=h
  injection hv with hv
  injection hv with e1 e2 e3
  subst e1
  refine ⟨e2,?_⟩
  rcases h3 with rfl | ⟨g,ob,rfl,hS,hrows⟩
  · exact ⟨[],⟨by simp,.inl rfl,by simp⟩,fun i y hy => by simp at hy⟩
  · obtain ⟨vs,hl,hc,h1',hr⟩:=row_cells xs hrows
    exact ⟨vs,⟨hl,.inr ⟨_,rfl,fun j u hj => by rw [addr_add]; exact hc j u hj⟩,h1'⟩,hr⟩

theorem Full.content (h:Full n w0 S0 s a w ν S) {T:Ty} {p:PV} {xs:List T.den} {v:Value} (hoT:owns T = 0) (hx:asSl F s.bl T p = some xs) (hp:PRel h.c p v) :
    ∃ aa c news,v = .slice aa xs.length c ∧ Source w T.cells aa xs.length news ∧ ∀ i y,xs[i]? = some y → RepC T y w ⟨S,own0 w0 S0⟩ ((news.drop (i * T.cells)).take T.cells):=by
  -- local arrays are owned rows; all others are unwritten memory
  have own:∀ (id:Nat) (U:Ty) (ys:List U.den) (te:Option Nat),look id s.bl = some (.arr U ys te) → ∀ aa len cap,ν id = .slice aa len cap → len = ys.length ∧ ∃ news,Source w U.cells aa ys.length news ∧ ∀ i y,ys[i]? = some y → RepC U y w ⟨S,own0 w0 S0⟩ ((news.drop (i * U.cells)).take U.cells):=by
    intro id U ys te hl aa len cap hν
    obtain ⟨hty,hoU,u,hu,hlx,hcase⟩:=h.W.blk _ _ hl
    simp only [List.cons.injEq,and_true] at hu
    rw [hν] at hu
    subst hu
    rcases hcase with ⟨hn,rfl⟩ | ⟨g,ob,cap',cur,e,hs',hle,hcm,hnS,hB,hh,hfit,hrows⟩
    · injection hn with e1 e2 e3
      subst e1; subst e2
      exact ⟨rfl,[],⟨by simp,.inl rfl,by simp⟩,fun i y hy => by simp at hy⟩
    · injection hs' with e1 e2 e3
      subst e1
      obtain ⟨vs,hl',hc,h1',hr⟩:=row_cells ys hrows
      exact ⟨e2,vs,⟨hl',.inr ⟨_,rfl,fun j u hj => by rw [addr_add]; exact hc j u hj⟩,h1'⟩,hr⟩
  cases p with
  | iv U y =>
    simp only [asSl] at hx
    obtain ⟨e,hx⟩:=Ty.cast_some hx
    subst e
    simp only at hx
    subst hx
    simp only [PRel] at hp
    have hrep:RepC (.sl T) y w ⟨S,own0 w0 S0⟩ [v]:=hp.2
    obtain ⟨aa,cap,hv,hrest⟩:=hrep
    injection hv with hv
    obtain ⟨_,news,h1,h2⟩:=Source.of_sl (h:=(by rw [← hv]; exact hp.2:RepC (.sl T) y w ⟨S,own0 w0 S0⟩ [.slice aa (List.length y) cap]))
    exact ⟨aa,cap,news,hv,h1,h2⟩
  | lfull id =>
    simp only [asSl] at hx
    split at hx
    · rename_i U ys te hl
      obtain ⟨hl,_⟩:=lk_some hl
      obtain ⟨e,hx⟩:=Ty.cast_some hx
      injection e with e
      subst e
      simp only at hx
      subst hx
      simp only [PRel] at hp
      obtain ⟨hd,hν,aa,len,cap,hv⟩:=hp
      simp only [Full.c] at hν
      obtain ⟨hlen,news,h1,h2⟩:=own id _ _ _ hl aa len cap (by rw [← hν,hv])
      subst hlen
      exact ⟨aa,cap,news,hv,h1,h2⟩
    · cases hx
  | lsl id sz off len =>
    simp only [asSl] at hx
    split at hx
    · rename_i U ys te hl
      obtain ⟨hl,_⟩:=lk_some hl
      split at hx
      case h_2 => cases hx
      rename_i hsz
      have hsz:=Nat.eq_of_beq_eq_true hsz
      obtain ⟨e,hx⟩:=Ty.cast_some hx
      injection e with e
      subst e
      simp only at hx
      subst hx
      simp only [PRel] at hp
      obtain ⟨hd,aa,m,cap,b,hν,hn,hcap,hv,hb⟩:=hp
      obtain ⟨hlen,news,h1,h2⟩:=own id _ _ _ hl aa m cap hν
      subst hlen
      have hxl:((ys.drop off).take len).length = len:=by simp; omega
      refine ⟨b,cap - off,(news.drop (off * U.cells)).take (len * U.cells),by rw [hxl]; exact hv,⟨?_,?_,fun u hu => h1.one u (List.mem_of_mem_drop (List.mem_of_mem_take hu))⟩,fun i y hy => ?_⟩
      · rw [hxl,List.length_take,List.length_drop,h1.len]
        have:off * U.cells + len * U.cells ≤ ys.length * U.cells:=by rw [← Nat.add_mul]; exact Nat.mul_le_mul_right _ hn
        omega
      · rw [hxl]
        by_cases hz:len = 0
        · exact .inl hz
        · right
          obtain ⟨g,ob,ha,hb'⟩:=hb (by omega)
          rcases h1.cells with h0 | ⟨ad,had,hc⟩
          · omega
          · rw [ha] at had
            injection had with had
            subst had
            refine ⟨_,hb',fun j u hj => ?_⟩
            have hjl:j < len * U.cells:=by
              rcases Nat.lt_or_ge j (len * U.cells) with h' | h'
              · exact h'
              · rw [List.getElem?_eq_none (by rw [List.length_take]; omega)] at hj; cases hj
            rw [List.getElem?_take,if_pos hjl,List.getElem?_drop] at hj
            have:=hc _ u hj
            rw [addr_add] at this ⊢
            rw [hsz,Nat.add_assoc]
            exact this
      · have hi:i < len:=by
          rcases Nat.lt_or_ge i len with h' | h'
          · exact h'
          · rw [List.getElem?_eq_none (by omega)] at hy; cases hy
        rw [List.getElem?_take,if_pos hi,List.getElem?_drop] at hy
        have:=h2 _ y hy
        rw [List.drop_take,List.drop_drop,List.take_take]
        have e1:off * U.cells + i * U.cells = (off + i) * U.cells:=by rw [Nat.add_mul]
        have e2:U.cells ≤ len * U.cells - i * U.cells:=by
          have:(i + 1) * U.cells ≤ len * U.cells:=Nat.mul_le_mul_right _ hi
          rw [Nat.add_mul] at this
          omega
        rw [e1,Nat.min_eq_left e2]
        exact this
    · cases hx
  | clip U y =>
    simp only [asSl] at hx
    obtain ⟨e,hx⟩:=Ty.cast_some hx
    injection e with e
    subst e
    simp only at hx
    subst hx
    simp only [PRel] at hp
    obtain ⟨_,⟨aa,m,rfl⟩,hrep⟩:=hp
    obtain ⟨hlen,news,h1,h2⟩:=Source.of_sl (h:=(hrep:RepC (.sl U) y w ⟨S,own0 w0 S0⟩ [.slice aa m m]))
    subst hlen
    exact ⟨aa,_,news,rfl,h1,h2⟩
  | nilsl =>
    simp only [asSl,Option.some.injEq] at hx
    subst hx
    simp only [PRel] at hp
    exact ⟨none,0,[],hp,⟨by simp,.inl rfl,by simp⟩,fun i y hy => by simp at hy⟩
  | _ => simp only [asSl] at hx; cases hx

theorem op_convert (hE:EnvOK E) (h:Full n w0 S0 s a w ν S) (ho:opOK n o = true) {t1 t:Nat} {x:Operand} (hop:o.op = .convert t1 t x) (hout:OutK E (stepF E F s o) (fun l => K (s.fin o.dst l))):o.wp E.P a w (fun a' w' => ∃ s',K s' ∧ Rel n w0 S0 s' a' w') Q:=by
  simp only [stepF,hop,convO] at hout
  have hx:=h.ev (opOK_arg ho (x:=x) (by simp [hop,Op.operands]))
  split at hout
  · rename_i k0 l hT1 hT
    obtain ⟨d1,hu1,hs1⟩:=(hE.facts hT1).und
    obtain ⟨d2,hu2,hs2⟩:=(hE.facts hT).und
    have hd2:d2 = .int l:=by
      cases d2 <;> first | cases hs2 | skip
      rename_i k'
      rw [kindEq_spec hs2]
    subst hd2
    split at hout
    · rename_i k m hev
      rw [hev] at hx
      obtain ⟨hv,hr⟩:=PRel_val_int hx
      have hrun:(execOp a.eval o).run E.P w = .ok (.value (.int l (l.wrap m))) w:=by
        simp [execOp,hop,hv,convert,run_underlying hu1,run_underlying hu2,Conv.intToInt]
      split at hout
      · rename_i hw
        have hr':=widens_ok hw hr
        rw [wrap_in l hr'] at hrun
        exact h.val ho hrun (PRel_int hr') hout
      · exact h.val ho hrun (PRel_int (wrap_within l m)) hout
    · exact hout.elim
  · rename_i hT1 hT
    obtain ⟨d1,hu1,hs1⟩:=(hE.facts hT1).und
    obtain ⟨d2,hu2,hs2⟩:=(hE.facts hT).und
    have hd2:d2 = .string:=by cases d2 <;> first | rfl | cases hs2
    subst hd2
    have hd1:d1 = .string:=by cases d1 <;> first | rfl | cases hs1
    subst hd1
    split at hout
    · rename_i y hev
      rw [hev] at hx
      obtain ⟨hv,hr⟩:=PRel_val_str hx
      refine h.val ho ?_ (PRel_str hr) hout
      simp [execOp,hop,hv,convert,run_underlying hu1,run_underlying hu2]
    · exact hout.elim
  · rename_i k hT1 hT
    split at hout
    · rename_i xs hk hxs
      have hk:=kindEq_spec hk
      subst hk
      obtain ⟨e,hu1,he,hfe,_⟩:=(hE.facts hT1).elem hE
      obtain ⟨d2,hu2,hs2⟩:=(hE.facts hT).und
      have hd2:d2 = .string:=by cases d2 <;> first | rfl | cases hs2
      subst hd2
      obtain ⟨d3,hu3,hs3⟩:=hfe.und
      have hd3:d3 = .int .u8:=by
        cases d3 <;> first | cases hs3 | skip
        rename_i k'
        rw [kindEq_spec hs3]
      subst hd3
      obtain ⟨aa,c,news,hv,hsrc,hrep⟩:=h.content (T:=.int .u8) rfl hxs hx
      have hnews:=bytes_of_row (M:=⟨S,own0 w0 S0⟩) (w:=w) xs news (fun i y hy => by simpa [Ty.cells] using hrep i y hy) (by simpa [Ty.cells] using hsrc.len)
      have hxl:xs.length ≤ 9223372036854775807:=by
        have hR:Reads F s h.c ⟨fun b => S b ∨ b < w.heap.size,own0 w0 S0⟩:=⟨rfl,h.W.blk,fun b hb => .inl hb,fun id _ ⟨b,hb⟩ g hg => .inr (h.blkB hb hg).2.2⟩
        exact (RepC_ok _ _ _ _ _ (asSl_rep hR hxs hx)).1
      refine h.val ho (v:=.string ⟨(xs.map fun n:Int => UInt8.ofNat n.toNat).toArray⟩) ?_ (PRel_str (by simpa using hxl)) hout
      have hconv:(convert t1 t (a.eval x)).run E.P w = .ok (.string ⟨(xs.map fun n:Int => UInt8.ofNat n.toNat).toArray⟩) w:=by
        rw [hv]
        rcases hsrc.cells with h0 | ⟨ad,rfl,hc⟩
        · have hxe:xs = []:=List.eq_nil_of_length_eq_zero h0
          subst hxe
          cases aa with
          | none => exact run_convert_bytes_nil w t1 e hu1 hu3 _ _ t hu2
          | some ad =>
            rw [run_convert_bytes_string w t1 t e _ _ _ hu1 hu3 hu2]
            simp [Conv.bytesToString,loadCells,loadCellsFrom]
            rfl
        · rw [run_convert_bytes_string w t1 t e _ _ _ hu1 hu3 hu2]
          have hl:=run_loadCells_list (P:=E.P) w ad news hc
          rw [hnews,List.length_map] at hl
          rw [run_bytesToString w ad xs.length c xs hl,foldl_push_bytes]
          simp [ByteArray.empty,ByteArray.emptyWithCapacity]
          rfl
      simp only [execOp,hop,Sem.run_bind,hconv,Result.andThen_ok,Sem.run_pure]
    · exact hout.elim
  · exact hout.elim

theorem zero_rep {w:World} {M:Mem}:∀ (T:Ty) (vs:List Value),T.zer = true → zeroVals T = some vs → RepC T (zeroDen T) w M vs:=by
  intro T
  induction T with
  | unit => intro vs _ h; simp only [zeroVals,Option.some.injEq] at h; subst h; rfl
  | int k => intro vs _ h; simp only [zeroVals,Option.some.injEq] at h; subst h; exact ⟨rfl,min_le_zero k,zero_le_max k⟩
  | bool => intro vs _ h; simp only [zeroVals,Option.some.injEq] at h; subst h; rfl
  | str => intro vs _ h; simp only [zeroVals,Option.some.injEq] at h; subst h; exact ⟨rfl,by simp [zeroDen]⟩
  | sl t => intro vs _ h; simp only [zeroVals,Option.some.injEq] at h; subst h; exact ⟨none,0,rfl,Nat.le_refl _,by omega,.inl rfl⟩
  | own t => intro vs hz h; cases hz
  | tup a b => intro vs hz h; cases hz
  | ptr t => intro vs hz h; cases hz
  | clo f t => intro vs hz h; cases hz
  | mp a b => intro vs _ h; simp only [zeroVals,Option.some.injEq] at h; subst h; exact ⟨by simp [zeroDen],.inl ⟨rfl,rfl⟩⟩
  | fnv => intro vs hz h; cases hz
  | st t ih => intro vs hz h; exact ih vs hz h
  | pair a b iha ihb =>
    intro vs hz h
    simp only [Ty.zer,Bool.and_eq_true] at hz
    simp only [zeroVals] at h
    split at h
    · rename_i x y hx hy
      simp only [Option.some.injEq] at h
      subst h
      exact ⟨x,y,rfl,iha x hz.1 hx,ihb y hz.2 hy⟩
    · cases h

theorem zeroCells_row (z:Array Value) (n i:Nat) (hi:i < n):((Builtin.zeroCells z n).toList.drop (i * z.size)).take z.size = z.toList:=by
  apply List.ext_getElem?
  intro j
  rw [List.getElem?_take]
  by_cases hj:j < z.size
  · rw [if_pos hj,List.getElem?_drop]
    have hlt:i * z.size + j < n * z.size:=by
      calc i * z.size + j < i * z.size + z.size:=by omega
        _ = (i + 1) * z.size:=by rw [Nat.add_mul]; omega
        _ ≤ n * z.size:=Nat.mul_le_mul_right _ hi
    have hmod:(i * z.size + j) % z.size = j:=by
      rw [Nat.add_comm,Nat.add_mul_mod_self_right,Nat.mod_eq_of_lt hj]
    simp only [Builtin.zeroCells,Array.getElem?_toList,Array.getElem?_map]
    rw [Array.getElem?_eq_getElem (by simpa using hlt)]
    simp only [Option.map_some,Array.getElem_range,hmod]
    rw [getElem!_pos z j hj,Array.getElem?_eq_getElem hj]
  · rw [if_neg hj,List.getElem?_eq_none (by rw [Array.length_toList]; omega)]

theorem keepE_some {te el:Option Nat} {w:World} {v u:Value} (h:elemIs te w v) (hv:u = v) {t':Nat} (hk:keepE te el = some t'):elemIs (some t') w u ∧ el = some t':=by
  unfold keepE at hk
  split at hk
  · rename_i a b
    split at hk
    · rename_i hab
      injection hk with hk
      subst hk
      rw [hv]
      exact ⟨h,by rw [Nat.eq_of_beq_eq_true hab]⟩
    · cases hk
  · cases hk
theorem op_append (hE:EnvOK E) (h:Full n w0 S0 s a w ν S) (ho:opOK n o = true) {c:Call} (hop:o.op = .call c) (hcal:c.callee = .builtin .append) (hout:OutK E (stepF E F s o) (fun l => K (s.fin o.dst l))):o.wp E.P a w (fun a' w' => ∃ s',K s' ∧ Rel n w0 S0 s' a' w') Q:=by
  obtain ⟨callee,args,argTypes⟩:=c
  simp only at hcal
  subst hcal
  simp only [stepF,hop] at hout
  split at hout
  · rename_i t u p q d hty hev hd
    split at hout
    · rename_i T hT
      obtain ⟨xo,yo,hargs⟩:∃ xo yo,args = #[xo,yo]:=by
        have hl:args.toList.length = 2:=by have:=congrArg List.length hev; rw [evAll_eq,List.length_map] at this; simpa using this
        match hh:args.toList,hl with
        | [xo,yo],_ => exact ⟨xo,yo,Array.toList_inj.1 (by rw [hh])⟩
      subst hargs
      simp only [evAll,List.cons.injEq,and_true] at hev
      obtain ⟨hp,hq⟩:=hev
      have hat:argTypes = #[t,u]:=Array.toList_inj.1 (by rw [hty])
      subst hat
      have hx:=h.ev (opOK_arg ho (x:=xo) (by simp [hop,Op.operands,Call.operands]))
      have hy:=h.ev (opOK_arg ho (x:=yo) (by simp [hop,Op.operands,Call.operands]))
      rw [hp] at hx
      rw [hq] at hy
      obtain ⟨e,hu,he,hfe,hval,hpos⟩:=(hE.facts hT).elem hE
      have hoT:=hfe.own
      have hrun:∀ v' w',(Builtin.append_ #[t,u] o.type #[a.eval xo,a.eval yo]).run E.P w = .ok v' w' → (execOp a.eval o).run E.P w = .ok (.value v') w':=by
        intro v' w' hr
        simp [execOp,hop,resolve,invoke,builtin,hr]
      -- the source
      have src:∀ ys,appSrc E F s.bl T t u q = some ys → ∃ news,Src E.P T.cells u (a.eval yo) ys.length news w ∧ ∀ i y,ys[i]? = some y → RepC T y w ⟨S,own0 w0 S0⟩ ((news.drop (i * T.cells)).take T.cells):=by
        intro ys hys
        simp only [appSrc] at hys
        split at hys
        · rename_i htu
          have htu:=Nat.eq_of_beq_eq_true htu
          subst htu
          obtain ⟨aa,c,news,hv,h1,h2⟩:=h.content hoT hys hy
          exact ⟨news,by rw [hv]; exact h1.src hu c,h2⟩
        · split at hys
          · rename_i hU
            split at hys
            · split at hys
              · rename_i k hk z hkk
                have hkk:=kindEq_spec hkk
                subst hkk
                simp only [Option.some.injEq] at hys
                subst hys
                obtain ⟨hv,hl⟩:=PRel_val_str hy
                obtain ⟨dd,hud,hsh⟩:=(hE.facts hU).und
                have hdd:dd = .string:=by cases dd <;> first | rfl | cases hsh
                subst hdd
                have hs:=Src.ofString (w:=w) hud (⟨z.toArray⟩:ByteArray)
                have hsz:(⟨z.toArray⟩:ByteArray).size = z.length:=by simp [ByteArray.size]
                have hbc:byteCells ⟨z.toArray⟩ = z.map fun c => Value.int .u8 (c.toNat:Int):=by simp [byteCells]
                rw [hsz,hbc] at hs
                refine ⟨_,by rw [hv,List.length_map]; exact hs,fun i y hy => ?_⟩
                rw [List.getElem?_map] at hy
                cases hz:z[i]? with
                | none => rw [hz] at hy; cases hy
                | some c =>
                  rw [hz] at hy
                  simp only [Option.map_some,Option.some.injEq] at hy
                  subst hy
                  have hi:i < z.length:=(List.getElem?_eq_some_iff.1 hz).1
                  have hd:((z.map fun c => Value.int .u8 (c.toNat:Int)).drop i).take 1 = [Value.int .u8 (c.toNat:Int)]:=by
                    rw [List.drop_eq_getElem_cons (by rw [List.length_map]; exact hi)]
                    simp only [List.getElem_map,List.take_succ_cons,List.take_zero]
                    rw [(List.getElem?_eq_some_iff.1 hz).2]
                  simp only [Ty.cells,Nat.mul_one]
                  rw [hd]
                  have:=UInt8.toNat_lt c
                  exact ⟨rfl,by show (0:Int) ≤ _; omega,by show (_:Int) ≤ 255; omega⟩
              · cases hys
            · cases hys
          · cases hys
      -- onto a local array,of which a part may be taken
      have onto:∀ (id j:Nat) (xs ys:List T.den) (v:Value) (zs:List T.den) (te tf:Option Nat),look id s.bl = some (.arr T zs te) → (∀ t',tf = some t' → elemIs (some t') w v ∧ E.elm t = some t') → j < P0 → (j = id ∨ look j s.bl = none) → appSrc E F s.bl T t u q = some ys → a.eval xo = v → RepC (.own T) xs w ⟨S,own0 w0 S0⟩ [v] → (∀ g,blockOf v = some g → blockOf (ν id) = some g) → xs.length + ys.length ≤ 1099511627776 → K (s.fin o.dst (.append id j (.arr T (xs ++ ys) tf))) →
          o.wp E.P a w (fun a' w' => ∃ s',K s' ∧ Rel n w0 S0 s' a' w') Q:=by
        intro id j xs ys v zs te tf hl htf hj hjn hys hv hown hblk hlen hK
        obtain ⟨news,hsrc,hrep⟩:=src ys hys
        obtain ⟨v',w',hr,hown',hgr,hsv,hfr,hel⟩:=run_append_arr hE (ty:=o.type) hT hoT hown h.W.lt h.W.size hsrc hrep hlen
        refine wp_of_val (hrun v' w' (by rw [hv]; exact hr)) ⟨_,hK,?_⟩
        simp only [St.fin,hd]
        have hgr':GrownD w w' (blockOf (ν id)):=by
          refine ⟨hgr.os,hgr.tape,hgr.output,hgr.size,fun k hk hne => hgr.block k hk (fun e => hne (by rw [hblk k e.symm])),hgr.drawn⟩
        refine (h.app (v':=v') (opOK_dst ho d hd) hl hj hjn hgr' hsv (fun g hg => ?_) (b':=.arr T (xs ++ ys) tf) (fun D => ⟨?_,hoT,by simpa using hown'⟩)).rel
        rotate_left
        · cases htf':tf with
          | none => exact elemIs_none _ _
          | some t' =>
            obtain ⟨g1,g2⟩:=htf t' htf'
            exact (hel t' (hE.elm t t' g2) g1).keep (by simp) fun _ _ => rfl
        rcases hfr g hg with hf | hf
        · exact .inl (hblk g hf)
        · exact .inr hf
      -- whichever name it has
      have onto':∀ (id:Nat) (xs ys:List T.den) (v:Value) (zs:List T.den) (r:Prop) (te tf:Option Nat),look id s.bl = some (.arr T zs te) → (∀ t',tf = some t' → elemIs (some t') w v ∧ E.elm t = some t') → appSrc E F s.bl T t u q = some ys → a.eval xo = v → RepC (.own T) xs w ⟨S,own0 w0 S0⟩ [v] → (∀ g,blockOf v = some g → blockOf (ν id) = some g) → (r → xs.length + ys.length ≤ 1099511627776) →
          OutK E (match Nat.ble P0 id with | false => .need r (.append id id (.arr T (xs ++ ys) tf)) | true => match look d s.bl with | none => .need r (.append id d (.arr T (xs ++ ys) tf)) | some _ => .fail 70) (fun l => K (s.fin o.dst l)) →
          o.wp E.P a w (fun a' w' => ∃ s',K s' ∧ Rel n w0 S0 s' a' w') Q:=by
        intro id xs ys v zs r te tf hl htf hys hv hown hblk hlen hK
        split at hK
        · rename_i hb
          have hj:id < P0:=by
            rcases Nat.lt_or_ge id P0 with h' | h'
            · exact h'
            · rw [Nat.ble_eq_true_of_le h'] at hb; cases hb
          exact onto id id xs ys v zs te tf hl htf hj (.inl rfl) hys hv hown hblk (hlen hK.1) hK.2
        · split at hK
          · rename_i hn
            have hj:d < P0:=Nat.lt_of_lt_of_le (opOK_dst ho d hd) (Nat.le_trans h.few (by decide))
            exact onto id d xs ys v zs te tf hl htf hj (.inr hn) hys hv hown hblk (hlen hK.1) hK.2
          · exact hK.elim
      -- onto a part without room: a new array
      have ontoE:∀ (id:Nat) (r:Prop) (ys:List T.den) (b:Option Addr) (zs:List T.den) (te:Option Nat),look id s.bl = some (.arr T zs te) → appSrc E F s.bl T t u q = some ys → a.eval xo = .slice b 0 0 → ys ≠ [] → ys.length ≤ 1099511627776 →
          OutK E (match Nat.ble P0 id with | false => .need r (.append id id (.arr T ys)) | true => match look d s.bl with | none => .need r (.append id d (.arr T ys)) | some _ => .fail 70) (fun l => K (s.fin o.dst l)) →
          o.wp E.P a w (fun a' w' => ∃ s',K s' ∧ Rel n w0 S0 s' a' w') Q:=by
        intro id r ys b zs te hl hys hv hne hlen hK
        obtain ⟨news,hsrc,hrep⟩:=src ys hys
        obtain ⟨v',w',hr,hown',hgr,hsv,hfr⟩:=run_append_clip hE (ty:=o.type) hT hoT (xs:=[]) (a:=b) (m:=0) ⟨b,0,rfl,Nat.le_refl _,by omega,.inl rfl⟩ h.W.lt h.W.size hsrc hrep hne (by simpa using hlen)
        have fin:∀ j,j < P0 → (j = id ∨ look j s.bl = none) → K (s.fin o.dst (.append id j (.arr T ys))) → o.wp E.P a w (fun a' w' => ∃ s',K s' ∧ Rel n w0 S0 s' a' w') Q:=by
          intro j hj hjn hK
          refine wp_of_val (hrun v' w' (by rw [hv]; exact hr)) ⟨_,hK,?_⟩
          simp only [St.fin,hd]
          exact (h.app (v':=v') (opOK_dst ho d hd) hl hj hjn ⟨hgr.os,hgr.tape,hgr.output,hgr.size,fun k hk _ => hgr.block k hk (by simp),hgr.drawn⟩ hsv (fun g hg => .inr (hfr g hg)) (b':=.arr T ys) (fun D => ⟨elemIs_none _ _,hoT,by simpa using hown'⟩)).rel
        split at hK
        · rename_i hb
          have hj:id < P0:=by
            rcases Nat.lt_or_ge id P0 with h' | h'
            · exact h'
            · rw [Nat.ble_eq_true_of_le h'] at hb; cases hb
          exact fin id hj (.inl rfl) hK.2
        · split at hK
          · rename_i hn
            have hj:d < P0:=Nat.lt_of_lt_of_le (opOK_dst ho d hd) (Nat.le_trans h.few (by decide))
            exact fin d hj (.inr hn) hK.2
          · exact hK.elim
      split at hout
      · rename_i hint
        split at hout
        · rename_i k m zc hzer hzc hl
          obtain ⟨⟨h0,h1⟩,hK⟩:=hout
          change Int at m
          have h0:(0:Int) < m:=h0
          have h1:m ≤ (1073741824:Int):=h1
          obtain ⟨kn,hun⟩:∃ kn,E.P.underlying u = some (.int kn):=by
            cases hU:E.ty u with
            | none => rw [hU] at hint; cases hint
            | some U =>
              rw [hU] at hint
              cases U with
              | int kn =>
                obtain ⟨dd,hud,hsh⟩:=(hE.facts hU).und
                cases dd <;> first | exact ⟨_,hud⟩ | cases hsh
              | _ => cases hint
          obtain ⟨hvy,_⟩:=PRel_val_int hy
          simp only [PRel] at hx
          obtain ⟨i,hi,hsz,hby,hzo,z,hz,hzs⟩:=hfe.info
          obtain ⟨zv,hzv,_,_⟩:=zero_rel (c:=h.c) T zc hzc
          rw [hz] at hzo
          have hzcells:=zero_cells hzo hzv
          have hm:m = ((m.toNat:Nat):Int):=by omega
          have hb:m.toNat * i.bytes ≤ 140737488355328:=by
            calc m.toNat * i.bytes ≤ 1099511627776 * 128:=Nat.mul_le_mul (by omega) hby
              _ = 140737488355328:=by decide
          have hrun0:=_root_.Go.Lib.run_append_grow_zeros (P:=E.P) w t u o.type e i z k kn hu hun hi hz none 0 0 [] (run_firstCells_none _ _ _ _ _) m.toNat (by omega) (by rw [hsz]; omega) (by omega) (by omega) (by omega) (growslice_fits (by omega) (by simpa using hb))
          simp only [Nat.zero_add] at hrun0
          rw [← hm] at hrun0
          have hrz:=zero_rep (w:=w) (M:=⟨S,own0 w0 S0⟩) T zv hzer hzv
          have hg:=grown_own (E:=E) (e:=e) (w:=w) (M:=⟨S,own0 w0 S0⟩) (zs:=List.replicate m.toNat (zeroDen T)) hzs hoT h.W.lt h.W.size (by rw [List.length_replicate]; omega) (Builtin.zeroCells z.cells m.toNat).toList (by rw [List.length_replicate,Array.length_toList,size_zc,hzs]) (fun i y hy => by
            rw [List.getElem?_replicate] at hy
            split at hy
            · rename_i hj
              simp only [Option.some.injEq] at hy
              subst hy
              rw [← hzs,zeroCells_row _ _ _ hj,hzcells]
              exact hrz
            · cases hy) 0
          simp only [List.length_replicate] at hg
          refine wp_of_val (hrun _ _ (by rw [hx,hvy]; exact hrun0)) ⟨_,hK,?_⟩
          simp only [St.fin,hd]
          refine h.newArr (opOK_dst ho d hd) hl hoT ⟨rfl,rfl,rfl,by simp,fun k hk _ => Below.heap_alloc w.drew _ k hk,fun _ => Nat.le_succ _⟩ ⟨_,_,_,rfl⟩ (fun g hg => by injection hg with hg; simp at hg; omega) ?_ (elemIs_none _ _)
          have hap:(([]:List Value).toArray ++ Builtin.zeroCells z.cells m.toNat) = (Builtin.zeroCells z.cells m.toNat).toList.toArray:=by simp
          rw [hap]
          exact hg
        · exact hout.elim
      split at hout
      · unfold appendC at hout
        split at hout
        · rename_i ys U zs hys hl
          split at hout
          · rename_i xs hcast
            obtain ⟨e',hx'⟩:=Ty.cast_some hcast
            injection e' with e'
            subst e'
            simp only at hx'
            subst hx'
            simp only [PRel] at hx
            obtain ⟨_,⟨aa,m,hv⟩,hrep0⟩:=hx
            obtain ⟨news,hsrc,hrep⟩:=src ys hys
            obtain ⟨⟨hne,hlen⟩,hK⟩:=hout
            rw [hv] at hrep0
            obtain ⟨v',w',hr,hown',hgr,hsv,hfr⟩:=run_append_clip hE (ty:=o.type) hT hoT hrep0 h.W.lt h.W.size hsrc hrep hne hlen
            refine wp_of_val (hrun v' w' (by rw [hv]; exact hr)) ⟨_,hK,?_⟩
            simp only [St.fin,hd]
            exact h.newArr (opOK_dst ho d hd) hl hoT hgr hsv hfr hown' (elemIs_none _ _)
          · exact hout.elim
        · exact hout.elim
      cases happ:appendO F s.bl T d p (appSrc E F s.bl T t u q) (E.elm t) with
      | need r out1 =>
        rw [happ] at hout
        simp only [appendO] at happ
        split at happ
        case h_2 => cases happ
        rename_i ys hys
        split at happ
        · injection happ with e1 e2
          subst e1; subst e2
          simp only at hout
          split at hout
          · rename_i hl
            obtain ⟨hlen,hK⟩:=hout
            simp only [PRel] at hx
            obtain ⟨news,hsrc,hrep⟩:=src ys hys
            have hown:RepC (.own T) ([]:List T.den) w ⟨S,own0 w0 S0⟩ [.slice none 0 0]:=⟨_,rfl,by simp,.inl ⟨rfl,rfl⟩⟩
            obtain ⟨v',w',hr,hown',hgr,hsv,hfr,hel⟩:=run_append_arr hE (ty:=o.type) hT hoT hown h.W.lt h.W.size hsrc hrep (by simpa using hlen)
            refine wp_of_val (hrun v' w' (by rw [hx]; exact hr)) ⟨_,hK,?_⟩
            simp only [St.fin,hd]
            exact h.newArr (opOK_dst ho d hd) hl hoT hgr hsv (fun g hg => by rcases hfr g hg with hf | hf; cases hf; exact hf) (by simpa using hown') (by
              cases hem:E.elm t with
              | none => exact elemIs_none _ _
              | some t' => exact hel t' (hE.elm t t' hem) (fun t2 _ g hg => by cases hg))
          · exact hout.elim
        · split at happ <;> cases happ
        · rename_i id
          split at happ
          · rename_i U zs te hl
            obtain ⟨hl,_⟩:=lk_some hl
            split at happ
            · rename_i xs hcast
              obtain ⟨e',hx'⟩:=Ty.cast_some hcast
              injection e' with e'
              subst e'
              simp only at hx'
              subst hx'
              injection happ with e1 e2
              subst e1; subst e2
              simp only [PRel] at hx
              obtain ⟨hty,_,hb⟩:=h.W.blk _ _ hl
              have hν:a.eval xo = ν id:=hx.2.1
              exact onto' id _ ys _ _ _ _ _ hl (fun t' ht' => keepE_some hty rfl ht') hys hν hb (fun g hg => hg) (fun h => h) hout
            · cases happ
          · cases happ
        · rename_i id sz off len
          split at happ
          · rename_i U zs te hl
            obtain ⟨hl,_⟩:=lk_some hl
            split at happ
            · rename_i xs hcast hsz
              have hsz:=Nat.eq_of_beq_eq_true hsz
              obtain ⟨e',hx'⟩:=Ty.cast_some hcast
              injection e' with e'
              subst e'
              simp only at hx'
              subst hx'
              injection happ with e1 e2
              subst e1; subst e2
              simp only [PRel] at hx
              obtain ⟨hdd,aa,m,cap,b,hν,hn,hcap,hv,hb⟩:=hx
              obtain ⟨hty,hoU,u,hu',hlx,hcase⟩:=h.W.blk _ _ hl
              simp only [List.cons.injEq,and_true] at hu'
              simp only [Full.c] at hν
              rw [hν] at hu'
              subst hu'
              have hreq:(off < zs.length ∨ off = zs.length ∧ len = 0 ∧ ys ≠ []) ∧ len + ys.length ≤ 1099511627776:=by
                simp only at hout
                split at hout
                · exact hout.1
                · split at hout
                  · exact hout.1
                  · exact hout.elim
              by_cases hoff:off < cap
              case neg =>
                have hzm:zs.length = m:=by
                  rcases hcase with ⟨hnil,rfl⟩ | ⟨g,ob,cap',cur,e',hs',_⟩
                  · injection hnil with _ h2 _; simp [h2]
                  · injection hs' with _ h2 _; exact h2.symm
                obtain ⟨h1,h2⟩:=hreq
                rcases h1 with h1 | ⟨h1,h3,h4⟩
                · omega
                subst h3
                have hcap0:cap - off = 0:=by omega
                rw [hcap0] at hv
                rw [List.take_zero,List.nil_append] at hout
                exact ontoE id _ ys b zs te hl hys hv h4 (by omega) hout
              rcases hcase with ⟨hnil,rfl⟩ | ⟨g,ob,cap',cur,e',hs',hle,hcm,hnS,hB,hh,hfit,hrows⟩
              · injection hnil with _ _ h3
                omega
              · injection hs' with e1 e2 e3
                subst e1; subst e2; subst e3
                obtain ⟨g',ob',ha,hb'⟩:=hb (by omega)
                injection ha with ha
                injection ha with ha1 ha2
                subst ha1; subst ha2
                have hxl:((zs.drop off).take len).length = len:=by simp; omega
                refine onto' id _ ys (a.eval xo) zs _ _ none hl (fun _ h => by cases h) hys rfl ?_ (fun g'' hg'' => ?_) (fun hr => by rw [hxl]; exact hr.2) hout
                · rw [hv,hb']
                  refine ⟨_,rfl,by rw [hxl]; omega,.inr ⟨g,ob + off * sz,cap - off,cur,e',by rw [hxl],by rw [hxl]; omega,by omega,hnS,hB,hh,?_,fun i y hy => ?_⟩⟩
                  · rw [hsz,Nat.add_assoc,← Nat.add_mul,show off + (cap - off) = cap from by omega]
                    exact hfit
                  · have hi:i < len:=by
                      rcases Nat.lt_or_ge i len with h' | h'
                      · exact h'
                      · rw [List.getElem?_eq_none (by omega)] at hy; cases hy
                    rw [List.getElem?_take,if_pos hi,List.getElem?_drop] at hy
                    obtain ⟨cs,h1,h2,h3⟩:=hrows _ y hy
                    refine ⟨cs,h1,?_,h3⟩
                    rw [hsz,Nat.add_assoc,← Nat.add_mul]
                    exact h2
                · rw [hv,hb'] at hg''
                  rw [hν]
                  exact hg''
            · cases happ
          · cases happ
        · cases happ
      | both o1 o2 =>
        rw [happ] at hout
        simp only [appendO] at happ
        split at happ
        case h_2 => cases happ
        rename_i ys hys
        split at happ
        · cases happ
        · rename_i U zs
          split at happ
          · rename_i xs hcast hl
            obtain ⟨e',hx'⟩:=Ty.cast_some hcast
            injection e' with e'
            subst e'
            simp only at hx'
            subst hx'
            injection happ with e1 e2
            subst e1; subst e2
            obtain ⟨hout1,hout2⟩:=hout
            have hx0:=hx
            simp only [PRel] at hx
            obtain ⟨_,⟨aa,m,hv⟩,hrep0⟩:=hx
            obtain ⟨news,hsrc,hrep⟩:=src ys hys
            by_cases hne:ys = []
            · have hK:=hout1 hne
              subst hne
              refine h.val ho (v:=a.eval xo) (hrun _ _ ?_) hx0 hK
              have hl0:=hsrc.len
              have hc0:=hsrc.cells
              simp only [List.length_nil] at hl0 hc0
              obtain ⟨e,hu,he,hfe,hval,hpos⟩:=(hE.facts hT).elem hE
              obtain ⟨i,hi,hsz,_⟩:=hfe.info
              have hn:news = []:=List.eq_nil_of_length_eq_zero (by rw [hsrc.newsLen]; simp)
              subst hn
              rw [← hsz] at hc0
              rw [hv]
              rcases hsrc.kind with ⟨e2,hk⟩ | hk
              all_goals
                cases aa with
                | none => simp [Builtin.append_,run_underlying hu,run_underlying hk,sizeOf,typeInfo,hi,hl0,hc0]
                | some aa => simp [Builtin.append_,run_underlying hu,run_underlying hk,sizeOf,typeInfo,hi,hl0,hc0,storeCells]
            · obtain ⟨hlen,hK⟩:=hout2 hne
              rw [hv] at hrep0
              obtain ⟨v',w',hr,hown',hgr,hsv,hfr⟩:=run_append_clip hE (ty:=o.type) hT hoT hrep0 h.W.lt h.W.size hsrc hrep hne hlen
              refine wp_of_val (hrun v' w' (by rw [hv]; exact hr)) ⟨_,hK,?_⟩
              simp only [St.fin,hd]
              exact h.newArr (opOK_dst ho d hd) hl hoT hgr hsv hfr hown' (elemIs_none _ _)
          · cases happ
        · repeat' split at happ
          all_goals cases happ
        · repeat' split at happ
          all_goals cases happ
        · cases happ
      | _ =>
        rw [happ] at hout
        simp only [appendO] at happ
        repeat' split at happ
        all_goals first
          | (cases happ; done)
          | exact hout.elim
    · exact hout.elim
  · exact hout.elim
end
end Go.Proofs.Ytefpgfdemmllpaa
namespace Go.Proofs.Ytefpgfdemmllpaa
open Go.RowKit

section
variable {E:Env} {n:Nat} {w0:World} {S0:Cx} {s:St} {a:Act} {w:World} {ν:Nat → Value} {S:Nat → Prop} {F:Reg} {o:Oper} {K:St → Prop} {Q:Exit → Act → World → Prop}

theorem fill_elems {T:Ty}:∀ (ps:List (Nat × PV)) (vs:List (Nat × Value)) (i:Nat) (xs:List T.den) (cells:Array Value) (R:T.den → List Value → Prop),
    (∀ x cs,R x cs → cs.length = T.cells) → ps.length = vs.length → elemsO F s.bl T i ps = some xs → (∀ (k:Nat) (p:Nat × PV) (v:Nat × Value),ps[k]? = some p → vs[k]? = some v → p.1 = v.1 ∧ ∀ x,PV.refs p.2 = false → PV.arrs p.2 = [] → exp F s.bl T p.2 = some x → R x v.2.cells.toList) →
    i * T.cells + ps.length * T.cells = cells.size →
    ∃ out,Instr.fill (fun i => some (i * T.cells,T.cells)) cells vs = some out ∧ out.size = cells.size ∧ xs.length = ps.length ∧ out.toList.take (i * T.cells) = cells.toList.take (i * T.cells) ∧ ∀ k x,xs[k]? = some x → R x ((out.toList.drop ((i + k) * T.cells)).take T.cells)
  | [],[],i,xs,cells,R,hR,_,h,_,hs => by
    simp only [elemsO,Option.some.injEq] at h
    subst h
    exact ⟨cells,rfl,rfl,rfl,rfl,fun k x hk => by simp at hk⟩
  | [],_ :: _,_,_,_,_,_,hl,_,_,_ => by cases hl
  | _ :: _,[],_,_,_,_,_,hl,_,_,_ => by cases hl
  | p :: ps,v :: vs,i,xs,cells,R,hR,hl,h,hr,hs => by
    simp only [elemsO] at h
    split at h
    · rename_i x hbeq hrf har hx
      split at h
      · rename_i ys hys
        simp only [Option.some.injEq] at h
        subst h
        have hpi:=Nat.eq_of_beq_eq_true hbeq
        obtain ⟨hpv,hrel⟩:=hr 0 p v rfl rfl
        have hRx:=hrel x hrf har hx
        have hvl:=hR _ _ hRx
        obtain ⟨vi,vv⟩:=v
        simp only at hpv hvl hRx
        have hvi:vi = i:=by rw [← hpv,hpi]
        subst hvi
        simp only [List.length_cons] at hs
        have hsz:vi * T.cells + T.cells + ps.length * T.cells = cells.size:=by rw [← hs,Nat.add_mul]; omega
        have hvs:vv.cells.size = T.cells:=by simpa using hvl
        rw [fill_one rfl hvs (by omega)]
        have hnew:(cells.toList.take (vi * T.cells) ++ vv.cells.toList ++ cells.toList.drop (vi * T.cells + vv.cells.size)).toArray.size = cells.size:=by
          simp only [List.size_toArray,List.length_append,List.length_take,List.length_drop,Array.length_toList]
          omega
        obtain ⟨out,h1,h2,h3,h4,h5⟩:=fill_elems ps vs (vi + 1) ys _ R hR (by simpa using hl) hys (fun k p' v' hp' hv' => hr (k + 1) p' v' hp' hv') (by rw [hnew,Nat.add_mul]; omega)
        have htl:(cells.toList.take (vi * T.cells)).length = vi * T.cells:=by simp only [List.length_take,Array.length_toList]; omega
        have hpre:out.toList.take ((vi + 1) * T.cells) = cells.toList.take (vi * T.cells) ++ vv.cells.toList:=by
          rw [h4]
          have e:(vi + 1) * T.cells = (cells.toList.take (vi * T.cells) ++ vv.cells.toList).length:=by rw [List.length_append,htl,hvl,Nat.add_mul]; omega
          rw [e,List.take_left]
        refine ⟨out,h1,h2.trans hnew,by simp [h3],?_,fun k y hk => ?_⟩
        · have:=congrArg (List.take (vi * T.cells)) hpre
          rw [List.take_take,Nat.min_eq_left (by rw [Nat.add_mul]; omega),List.take_append_of_le_length (by omega),List.take_take,Nat.min_self] at this
          exact this
        · cases k with
          | zero =>
            simp at hk
            subst hk
            have:=congrArg (List.drop (vi * T.cells)) hpre
            have e0:(cells.toList.take (vi * T.cells)).drop (vi * T.cells) = []:=List.drop_of_length_le (by omega)
            rw [List.drop_take,List.drop_append_of_le_length (by omega),e0,List.nil_append] at this
            rw [show (vi + 1) * T.cells - vi * T.cells = T.cells from by rw [Nat.add_mul]; omega] at this
            rw [Nat.add_zero,this]
            exact hRx
          | succ k =>
            have:=h5 k y (by simpa using hk)
            rw [show vi + (k + 1) = vi + 1 + k from by omega]
            exact this
      · cases h
    · cases h

theorem Full.grow (h:Full n w0 S0 s a w ν S) {w':World} {S':Nat → Prop} (hw:GrownD w w' none) (h1:∀ b,S b → S' b) (h2:∀ b,S' b → S b ∨ w.heap.size ≤ b) (h3:∀ b,S' b → b < w'.heap.size):Full n w0 S0 s a w' ν S':=by
  have hle:Ctx.Le ⟨ν,s.D,w,⟨S,own0 w0 S0⟩⟩ ⟨ν,s.D,w',⟨S',own0 w0 S0⟩⟩:=⟨fun b hb => hw.block b (h.W.lt b hb) (by simp),h1,fun _ h => h,fun _ _ => rfl⟩
  refine ⟨h.below.grown hw (by simp),fun b hb => h1 b (h.inS b hb),fun b hb => ?_,⟨h3,fun g hg => h.W.size g (Nat.le_trans hw.size hg),fun i c hc => ?_,h.W.ne⟩,fun t => PRel_mono hle (h.slots t),h.size,h.defers,h.few,h.kept,h.tab⟩
  · rcases h2 b hb with h' | h'
    · exact h.fresh b h'
    · exact .inr (h.W.size b h')
  · refine BRel_keep hle rfl rfl (fun g hg => ?_) (h.W.blk i c hc)
    obtain ⟨e1,e2,e3⟩:=h.blkB hc hg
    refine ⟨hw.block g e3 (by simp),fun _ hS' => ?_⟩
    rcases h2 g hS' with h' | h'
    · exact e2 h'
    · omega

theorem op_buildSlice (hE:EnvOK E) (h:Full n w0 S0 s a w ν S) (ho:opOK n o = true) {t m:Nat} {parts:Array (Nat × Operand)} (hop:o.op = .buildSlice t m parts) (hout:OutK E (stepF E F s o) (fun l => K (s.fin o.dst l))):o.wp E.P a w (fun a' w' => ∃ s',K s' ∧ Rel n w0 S0 s' a' w') Q:=by
  simp only [stepF,hop] at hout
  split at hout
  · rename_i T d hT hd
    split at hout
    · rename_i xs hl hel hb
      simp only [Bool.and_eq_true] at hb
      have hm:=Nat.eq_of_beq_eq_true hb.1
      have hsmall:=Nat.le_of_ble_eq_true hb.2
      obtain ⟨e,hu,he,hfe,hval,hpos⟩:=(hE.facts hT).elem hE
      obtain ⟨i,hi,hsz,hby,_,z,hz,hzs⟩:=hfe.info
      have hparts:∀ (k:Nat) (p:Nat × PV) (v:Nat × Value),(evParts s parts.toList)[k]? = some p → ((parts.map fun x => (x.1,a.eval x.2)).toList)[k]? = some v → p.1 = v.1 ∧ ∀ x,PV.refs p.2 = false → PV.arrs p.2 = [] → exp F s.bl T p.2 = some x → RepC T x w ⟨S,own0 w0 S0⟩ v.2.cells.toList:=by
        intro k p v hk hv
        rw [evParts_eq,List.getElem?_map] at hk
        simp only [Array.toList_map,List.getElem?_map] at hv
        cases hx:parts.toList[k]? with
        | none => rw [hx] at hk; cases hk
        | some x =>
          rw [hx] at hk hv
          simp only [Option.map_some,Option.some.injEq] at hk hv
          subst hk; subst hv
          refine ⟨rfl,fun y h1 h2 h3 => ?_⟩
          have hev:=h.ev (x:=x.2) (opOK_arg ho (by
            have hm:x ∈ parts:=Array.mem_toList_iff.1 (List.mem_of_getElem? hx)
            simp only [hop,Op.operands,List.mem_toArray,List.mem_map]
            exact ⟨x,Array.mem_toList_iff.2 hm,rfl⟩))
          exact RepV_cells hval (h.expNo hfe.own h1 h2 h3 hev)
      have hlen:(evParts s parts.toList).length = ((parts.map fun x => (x.1,a.eval x.2)).toList).length:=by simp [evParts_eq]
      have hpl:(evParts s parts.toList).length = m:=by rw [← hm]; simp [evParts_eq]
      have main:∀ cells:Array Value,cells.size = m * T.cells → ∃ out,Instr.fill (fun i => some (i * T.cells,T.cells)) cells (parts.map fun x => (x.1,a.eval x.2)).toList = some out ∧ out.size = m * T.cells ∧ xs.length = m ∧ ∀ k x,xs[k]? = some x → RepC T x w ⟨S,own0 w0 S0⟩ ((out.toList.drop (k * T.cells)).take T.cells):=by
        intro cells hc
        obtain ⟨out,h1,h2,h3,h4,h5⟩:=fill_elems (F:=F) (s:=s) (evParts s parts.toList) _ 0 xs cells (fun x cs => RepC T x w ⟨S,own0 w0 S0⟩ cs) (fun x cs hr => RepC_len _ _ _ _ _ hr) hlen hel hparts (by rw [hpl,hc]; omega)
        exact ⟨out,h1,by rw [h2,hc],by rw [h3,hpl],fun k x hk => by simpa using h5 k x hk⟩
      have fin:∀ out:Array Value,out.size = m * T.cells → xs.length = m → (∀ k x,xs[k]? = some x → RepC T x w ⟨S,own0 w0 S0⟩ ((out.toList.drop (k * T.cells)).take T.cells)) → ∃ s',K s' ∧ Rel n w0 S0 s' (a.put o.dst (.slice (some ⟨w.heap.size,0,none⟩) m m)) (w.alloc (.cells out e)):=by
        intro out ho1 ho2 ho3
        have hh:(w.alloc (.cells out e)).heap[w.heap.size]? = some (.cells out e (0,0)):=_root_.Go.heap_alloc_new w _
        have hmb:m ≤ 16777216:=Nat.le_trans (Nat.le_mul_of_pos_right m hpos) hsmall
        have hrows:∀ k x,xs[k]? = some x → RepC T x (w.alloc (.cells out e)) ⟨S,own0 w0 S0⟩ ((out.toList.drop (k * T.cells)).take T.cells):=fun k x hk => RepC_mono (w:=w) (fun b hb => Below.heap_alloc w _ b (h.W.lt b hb)) (fun _ h => h) _ _ _ hfe.own (ho3 k x hk)
        split at hout
        · simp only [OutK] at hout
          refine ⟨_,hout,?_⟩
          have hg:=h.grow (S':=fun b => S b ∨ b = w.heap.size) (grownD_alloc w (.cells out e) none) (fun b hb => .inl hb) (fun b hb => hb.imp id (fun e => by omega)) (fun b hb => by
            simp only [World.alloc,Array.size_push]
            rcases hb with hb | hb
            · have:=h.W.lt b hb; omega
            · omega)
          refine (hg.put (opOK_dst ho) ?_).rel
          suffices hsl:RepC (.sl T) xs (w.alloc (.cells out e)) ⟨fun b => S b ∨ b = w.heap.size,own0 w0 S0⟩ [.slice (some ⟨w.heap.size,0,none⟩) m m] by
            unfold litP
            split
            · simp only [PRel]
              exact ⟨hfe.own,⟨_,m,rfl⟩,hsl⟩
            · simp only [PRel]
              exact ⟨hfe.own,hsl⟩
          refine ⟨_,m,by rw [ho2],by omega,by omega,.inr ⟨w.heap.size,0,rfl,.inr rfl,?_⟩⟩
          refine rows_of (vs:=out.toList) (by simp [ho1,ho2]) (fun j u hj => ?_) (fun k x hk => ?_)
          · show (w.alloc (.cells out e)).cell? _ = _
            rw [cell_of_row _ _ _ _ _ _ hh,Nat.zero_add]
            simpa using hj
          · exact RepC_mono (w:=w.alloc (.cells out e)) (M:=⟨S,own0 w0 S0⟩) (M':=⟨fun b => S b ∨ b = w.heap.size,own0 w0 S0⟩) (fun b _ => rfl) (fun _ h => .inl h) _ _ _ hfe.own (hrows k x hk)
        · simp only [OutK,St.fin,hd] at hout
          refine ⟨_,hout,?_⟩
          rw [hd]
          refine h.newArr (v:=.slice (some ⟨w.heap.size,0,none⟩) m m) (opOK_dst ho d hd) hl hfe.own (grownD_alloc w _ none) ⟨_,_,_,rfl⟩ (fun g hg => by injection hg with hg; simp at hg; omega) ?_ (elemIs_none _ _)
          refine ⟨_,rfl,by omega,.inr ⟨w.heap.size,0,m,out,e,by rw [ho2],by omega,by omega,fun hS => absurd (h.W.lt _ hS) (by simp),h.W.size _ (Nat.le_refl _),hh,by omega,?_⟩⟩
          refine rows_of (vs:=out.toList) (by simp [ho1,ho2]) (fun j u hj => ?_) (fun k x hk => ?_)
          · rw [cell_of_row _ _ _ _ _ _ hh,Nat.zero_add]
            simpa using hj
          · exact hrows k x hk
      have hns:¬ (m * T.cells > 2 ^ 24):=by omega
      by_cases h0:m * T.cells = 0
      · obtain ⟨out,h1,h2,h3,h4⟩:=main ((Array.range (m * T.cells)).map fun j => (#[]:Array Value)[j % (#[]:Array Value).size]!) (by simp)
        refine wp_of_val (v:=.slice (some ⟨w.heap.size,0,none⟩) m m) (w':=w.alloc (.cells out e)) ?_ (fin out h2 h3 h4)
        simp only [execOp,hop,Instr.buildSlice,Sem.run_bind,run_underlying hu,Result.andThen_ok,hfe.sizeOf w,Sem.run_ite,hns,if_false,h0,if_true,Sem.run_pure]
        rw [h0] at h1
        simp only [h1,Sem.run_bind,newRow,run_newObj,Result.andThen_ok,Sem.run_pure]
        rfl
      · obtain ⟨out,h1,h2,h3,h4⟩:=main ((Array.range (m * T.cells)).map fun j => z.cells[j % z.cells.size]!) (by simp)
        refine wp_of_val (v:=.slice (some ⟨w.heap.size,0,none⟩) m m) (w':=w.alloc (.cells out e)) ?_ (fin out h2 h3 h4)
        simp only [execOp,hop,Instr.buildSlice,Sem.run_bind,run_underlying hu,Result.andThen_ok,hfe.sizeOf w,Sem.run_ite,hns,if_false,h0,Sem.run_pure,zeroValue,typeInfo,run_program,hi,hz,h1,newRow,run_newObj]
        rfl
    · exact hout.elim
  · exact hout.elim

theorem makeSlice_aux (hE:EnvOK E) (h:Full n w0 S0 s a w ν S) (ho:opOK n o = true) {t d:Nat} {x y:Operand} {T:Ty} {zc:List PV} {k k':IntKind} {m0:Int} (hzer:T.zer = true) (hop:o.op = .makeSlice t x y) (hT:E.ty t = some (.sl T)) (hd:o.dst = some d) (hl:look d s.bl = none) (hzc:zeroCells T = some zc)
    (hvx:a.eval x = .int k m0) (hvy:a.eval y = .int k' m0) (h0:0 ≤ m0) (h2:m0 ≤ 1099511627776) (hout:K ⟨(d,.lfull d) :: s.sl,(d,.arr T (List.replicate (Int.toNat m0) (zeroDen T))) :: s.bl⟩):o.wp E.P a w (fun a' w' => ∃ s',K s' ∧ Rel n w0 S0 s' a' w') Q:=by
  obtain ⟨e,hu,he,hfe,hval,hpos⟩:=(hE.facts hT).elem hE
  obtain ⟨i,hi,hsz,hby,hzo,z,hz,hzs⟩:=hfe.info
  obtain ⟨zv,hzv,_,_⟩:=zero_rel (c:=h.c) T zc hzc
  rw [hz] at hzo
  have hzcells:=zero_cells hzo hzv
  have hbytes:(i.bytes:Int) * m0 ≤ 281474976710656:=by
    have e1:(i.bytes:Int) * m0 ≤ 128 * 1099511627776:=Int.mul_le_mul (by omega) h2 h0 (by omega)
    omega
  have hr:=run_make (P:=E.P) w t e i z hu hi hz k k' m0 m0 h0 (Int.le_refl _) hbytes (by omega)
  rw [hsz] at hr
  refine wp_of_val (v:=.slice (some ⟨w.heap.size,0,none⟩) (Int.toNat m0) (Int.toNat m0)) (w':=w.alloc (.cells (madeCells z.cells (Int.toNat m0 * T.cells)) e)) ?_ ⟨_,hout,?_⟩
  · simp only [execOp,hop,hvx,hvy,Sem.run_bind,hr,Result.andThen_ok,Sem.run_pure]
  · rw [hd]
    have hh:(w.alloc (.cells (madeCells z.cells (Int.toNat m0 * T.cells)) e)).heap[w.heap.size]? = some (.cells (madeCells z.cells (Int.toNat m0 * T.cells)) e (0,0)):=_root_.Go.heap_alloc_new w _
    have hmb:Int.toNat m0 ≤ 1099511627776:=by omega
    refine h.newArr (opOK_dst ho d hd) hl hfe.own (grownD_alloc w _ none) ⟨_,_,_,rfl⟩ (fun g hg => by injection hg with hg; simp at hg; omega) ?_ (elemIs_none _ _)
    refine ⟨_,rfl,by rw [List.length_replicate]; omega,.inr ⟨w.heap.size,0,Int.toNat m0,_,e,by rw [List.length_replicate],by rw [List.length_replicate]; omega,by omega,fun hS => absurd (h.W.lt _ hS) (by simp),h.W.size _ (Nat.le_refl _),hh,by rw [size_madeCells]; omega,fun j q hq => ?_⟩⟩
    rw [List.getElem?_replicate] at hq
    split at hq
    · rename_i hj
      simp only [Option.some.injEq] at hq
      subst hq
      refine ⟨zv,RepC_len _ _ _ _ _ (zero_rep (w:=w) (M:=⟨S,own0 w0 S0⟩) T zv hzer hzv),fun k u hk => ?_,zero_rep T zv hzer hzv⟩
      have hkl:k < T.cells:=by rw [← RepC_len _ _ _ _ _ (zero_rep (w:=w) (M:=⟨S,own0 w0 S0⟩) T zv hzer hzv)]; exact (List.getElem?_eq_some_iff.1 hk).1
      rw [cell_of_row _ _ _ _ _ _ hh,Nat.zero_add]
      have hlt:j * T.cells + k < Int.toNat m0 * T.cells:=by
        calc j * T.cells + k < j * T.cells + T.cells:=by omega
          _ = (j + 1) * T.cells:=by rw [Nat.add_mul]; omega
          _ ≤ Int.toNat m0 * T.cells:=Nat.mul_le_mul_right _ hj
      have hmod:(j * T.cells + k) % z.cells.size = k:=by
        rw [hzs,Nat.add_comm,Nat.add_mul_mod_self_right,Nat.mod_eq_of_lt hkl]
      simp only [madeCells,Array.getElem?_map]
      rw [Array.getElem?_eq_getElem (by simpa using hlt)]
      simp only [Option.map_some,Array.getElem_range,hmod]
      rw [getElem!_pos z.cells k (by omega)]
      rw [← hzcells] at hk
      simp only [Array.getElem?_toList] at hk
      rw [Array.getElem?_eq_getElem (by omega)] at hk
      exact hk
    · cases hq

theorem op_makeSlice (hE:EnvOK E) (h:Full n w0 S0 s a w ν S) (ho:opOK n o = true) {t:Nat} {x y:Operand} (hop:o.op = .makeSlice t x y) (hout:OutK E (stepF E F s o) (fun l => K (s.fin o.dst l))):o.wp E.P a w (fun a' w' => ∃ s',K s' ∧ Rel n w0 S0 s' a' w') Q:=by
  simp only [stepF,hop] at hout
  have hx:=h.ev (opOK_arg ho (x:=x) (by simp [hop,Op.operands]))
  have hy:=h.ev (opOK_arg ho (x:=y) (by simp [hop,Op.operands]))
  split at hout
  · rename_i T d k m k' m' hT hd hevx hevy
    split at hout
    · rename_i zc hl hzc hzer
      obtain ⟨⟨h0,h1,h2⟩,hout⟩:=hout
      simp only [OutK,St.fin,hd] at hout
      rw [hevx] at hx
      rw [hevy] at hy
      obtain ⟨hvx,_⟩:=PRel_val_int hx
      obtain ⟨hvy,_⟩:=PRel_val_int hy
      subst h1
      exact makeSlice_aux hE h ho hzer hop hT hd hl hzc hvx hvy h0 h2 hout
    · exact hout.elim
  · exact hout.elim
end
end Go.Proofs.Ytefpgfdemmllpaa
namespace Go.Proofs.Ytefpgfdemmllpaa
open Go.RowKit

theorem flat_C {w w':World} {M M':Mem}:∀ (T:Ty) (x:T.den) (vs:List Value),T.flat = true → RepC T x w M vs → RepC T x w' M' vs:=by
  intro T
  induction T with
  | unit => intro x vs _ h; exact h
  | int k => intro x vs _ h; exact h
  | bool => intro x vs _ h; exact h
  | str => intro x vs _ h; exact h
  | sl t => intro x vs hf; cases hf
  | own t => intro x vs hf; cases hf
  | ptr t => intro x vs hf; cases hf
  | clo f t => intro x vs hf; cases hf
  | mp a b => intro x vs hf; cases hf
  | fnv => intro x vs _ h; exact h
  | tup a b => intro x vs _ h; exact h.elim
  | st t ih => intro x vs hf h; exact ih x vs hf h
  | pair a b iha ihb =>
    intro x vs hf h
    simp only [Ty.flat,Bool.and_eq_true] at hf
    obtain ⟨va,vb,rfl,h1,h2⟩:=h
    exact ⟨va,vb,rfl,iha _ _ hf.1 h1,ihb _ _ hf.2 h2⟩
theorem flat_V {w w':World} {M M':Mem} {T:Ty} {x:T.den} {v:Value} (hf:T.flat = true) (h:RepV T x w M v):RepV T x w' M' v:=by
  cases T with
  | unit => exact h
  | pair a b => exact h
  | tup a b => exact h
  | st t => obtain ⟨vs,rfl,h⟩:=h; exact ⟨vs,rfl,flat_C t x vs hf h⟩
  | int k => exact h
  | bool => exact h
  | str => exact h
  | sl t => cases hf
  | own t => cases hf
  | ptr t => cases hf
  | clo f t => cases hf
  | mp a b => cases hf
  | fnv => exact h
theorem flat_T {w w':World} {M M':Mem}:∀ (T:Ty) (x:T.den) (vs:List Value),T.flat = true → RepT T x w M vs → RepT T x w' M' vs:=by
  intro T
  induction T with
  | tup a b iha ihb =>
    intro x vs hf h
    simp only [Ty.flat,Bool.and_eq_true] at hf
    obtain ⟨v,r,rfl,h1,h2⟩:=h
    exact ⟨v,r,rfl,flat_V hf.1 h1,ihb _ _ hf.2 h2⟩
  | _ => intro x vs hf h; obtain ⟨v,rfl,h⟩:=h; exact ⟨v,rfl,flat_V hf h⟩
theorem flat_R {w w':World} {M M':Mem} {T:Ty} {x:T.den} {v:Value} (hf:T.flat = true) (h:RepR T x w M v):RepR T x w' M' v:=by
  cases T
  case tup a b => obtain ⟨vs,rfl,h⟩:=h; exact ⟨vs,rfl,flat_T _ x vs hf h⟩
  all_goals exact flat_V (w:=w) (w':=w') (M:=M) (M':=M') (x:=x) (v:=v) hf h
theorem flat_owns:∀ (T:Ty),T.flat = true → owns T = 0:=by
  intro T
  induction T <;> simp_all [Ty.flat,owns]

section
variable {E:Env} {n:Nat} {w0:World} {S0:Cx} {s:St} {a:Act} {w:World} {ν:Nat → Value} {S:Nat → Prop} {F:Reg} {o:Oper} {K:St → Prop} {Q:Exit → Act → World → Prop}

theorem op_cap (hE:EnvOK E) (h:Full n w0 S0 s a w ν S) (ho:opOK n o = true) {c:Call} (hop:o.op = .call c) (hcal:c.callee = .builtin .cap) (hout:OutK E (stepF E F s o) (fun l => K (s.fin o.dst l))):o.wp E.P a w (fun a' w' => ∃ s',K s' ∧ Rel n w0 S0 s' a' w') Q:=by
  obtain ⟨callee,args,argTypes⟩:=c
  simp only at hcal
  subst hcal
  simp only [stepF,hop] at hout
  split at hout
  · rename_i t hev hty
    obtain ⟨xo,hargs⟩:∃ xo,args = #[xo]:=by
      have hl:args.toList.length = 1:=by have:=congrArg List.length hev; rw [evAll_eq,List.length_map] at this; simpa using this
      match hh:args.toList,hl with
      | [xo],_ => exact ⟨xo,Array.toList_inj.1 (by rw [hh])⟩
    subst hargs
    simp only [evAll,List.cons.injEq,and_true] at hev
    have hat:argTypes = #[t]:=Array.toList_inj.1 (by rw [hty])
    subst hat
    have hx:=h.ev (opOK_arg ho (x:=xo) (by simp [hop,Op.operands,Call.operands]))
    rw [hev] at hx
    simp only [PRel] at hx
    split at hout
    · rename_i U hT
      obtain ⟨e,hu,_⟩:=(hE.facts hT).elem hE
      refine h.val ho (v:=.int .i64 0) ?_ (PRel_int (by simp [IntKind.min,IntKind.max,IntKind.signed,IntKind.bits])) hout
      simp [execOp,hop,resolve,invoke,builtin,Builtin.cap_,run_underlying hu,hx,goInt]
    · exact hout.elim
  · exact hout.elim

theorem op_len (hE:EnvOK E) (h:Full n w0 S0 s a w ν S) (ho:opOK n o = true) {c:Call} (hop:o.op = .call c) (hcal:c.callee = .builtin .len) (hout:OutK E (stepF E F s o) (fun l => K (s.fin o.dst l))):o.wp E.P a w (fun a' w' => ∃ s',K s' ∧ Rel n w0 S0 s' a' w') Q:=by
  obtain ⟨callee,args,argTypes⟩:=c
  simp only at hcal
  subst hcal
  simp only [stepF,hop] at hout
  split at hout
  · rename_i p t hev hty
    obtain ⟨xo,hargs⟩:∃ xo,args = #[xo]:=by
      have hl:args.toList.length = 1:=by have:=congrArg List.length hev; rw [evAll_eq,List.length_map] at this; simpa using this
      match hh:args.toList,hl with
      | [xo],_ => exact ⟨xo,Array.toList_inj.1 (by rw [hh])⟩
    subst hargs
    simp only [evAll,List.cons.injEq,and_true] at hev
    have hat:argTypes = #[t]:=Array.toList_inj.1 (by rw [hty])
    subst hat
    have hx:=h.ev (opOK_arg ho (x:=xo) (by simp [hop,Op.operands,Call.operands]))
    rw [hev] at hx
    have fin:∀ m:Nat,m ≤ 9223372036854775807 → (Builtin.len_ #[t] o.type #[a.eval xo]).run E.P w = .ok (.int .i64 m) w → OutK E (intV m) (fun l => K (s.fin o.dst l)) → o.wp E.P a w (fun a' w' => ∃ s',K s' ∧ Rel n w0 S0 s' a' w') Q:=by
      intro m hm hr hK
      refine h.val ho (v:=.int .i64 m) ?_ (PRel_int (by simp [IntKind.min,IntKind.max,IntKind.signed,IntKind.bits]; omega)) hK
      simp [execOp,hop,resolve,invoke,builtin,hr]
    simp only [lenO] at hout
    split at hout
    · rename_i hT
      obtain ⟨d,hu,hsh⟩:=(hE.facts hT).und
      have hd:d = .string:=by cases d <;> first | rfl | cases hsh
      subst hd
      split at hout
      · rename_i y
        obtain ⟨hv,hl⟩:=PRel_val_str hx
        have hsz:(⟨y.toArray⟩:ByteArray).size = y.length:=by simp [ByteArray.size]
        refine fin _ hl ?_ hout
        simp [Builtin.len_,run_underlying hu,hv,goInt,hsz]
      · exact hout.elim
    · rename_i U hT
      obtain ⟨e,hu,_⟩:=(hE.facts hT).elem hE
      have hlen:∀ (aa:Option Addr) (m cap:Nat),a.eval xo = .slice aa m cap → (Builtin.len_ #[t] o.type #[a.eval xo]).run E.P w = .ok (.int .i64 m) w:=by
        intro aa m cap hv
        simp [Builtin.len_,run_underlying hu,hv,goInt]
      split at hout
      · rename_i U' xs
        simp only [PRel] at hx
        obtain ⟨_,aa,cap,hv,h1,h2,_⟩:=hx
        injection hv with hv
        exact fin _ (Nat.le_trans h1 h2) (hlen _ _ _ hv) hout
      · rename_i id
        split at hout
        · rename_i U' xs te hl
          obtain ⟨hl,_⟩:=lk_some hl
          simp only [PRel] at hx
          obtain ⟨hd,hν,aa,m,cap,hv⟩:=hx
          obtain ⟨hty,_,u,hu',hlx,hcase⟩:=h.W.blk _ _ hl
          simp only [List.cons.injEq,and_true] at hu'
          simp only [Full.c] at hν
          have hm:m = xs.length:=by
            rw [hν,hu'] at hv
            rcases hcase with ⟨rfl,rfl⟩ | ⟨g,ob,cap',cur,e',rfl,_⟩
            · injection hv with e1 e2 e3; exact e2.symm
            · injection hv with e1 e2 e3; exact e2.symm
          subst hm
          exact fin _ hlx (hlen _ _ _ hv) hout
        · exact hout.elim
      · rename_i id sz off len
        obtain ⟨hl,hK⟩:=hout
        simp only [PRel] at hx
        obtain ⟨hd,aa,m,cap,b,hν,hn,hcap,hv,hb⟩:=hx
        exact fin _ hl (hlen _ _ _ hv) hK
      · simp only [PRel] at hx
        exact fin 0 (by omega) (hlen _ _ _ hx) hout
      · exact hout.elim
    · rename_i K' V' hT
      obtain ⟨d,hu,hsh⟩:=(hE.facts hT).und
      obtain ⟨k',e',rfl⟩:∃ k' e',d = .map k' e':=by cases d <;> first | exact ⟨_,_,rfl⟩ | cases hsh
      split at hout
      · rename_i id
        split at hout
        · rename_i K2 V2 es hl
          obtain ⟨hl,_⟩:=lk_some hl
          simp only [PRel] at hx
          obtain ⟨_,hν,_⟩:=hx
          obtain ⟨_,_,h0,r,ents,clock,h1,_,_,h4,_,h6,_⟩:=h.W.blk _ _ hl
          simp only [Full.c] at hν
          have hν:a.eval xo = .map (some r):=by rw [hν]; exact h1
          refine fin _ h0 ?_ hout
          simp [Builtin.len_,run_underlying hu,hν,MapKept.run_getObj_map h4,goInt,h6]
        · exact hout.elim
      · exact hout.elim
    · exact hout.elim
  · exact hout.elim

theorem minMax_run {P:Program} {c:Ctx} (mx:Bool) {k:IntKind} {Kl:Out → Prop}:∀ (ps:List PV) (vs:List Value) (x:Int),k.min ≤ x ∧ x ≤ k.max → PRels c ps vs → OutK E (minMax mx k x ps) Kl →
    ∃ z,Kl (.val (.iv (.int k) z)) ∧ k.min ≤ z ∧ z ≤ k.max ∧ (vs.foldlM (if mx then Builtin.max2 else Builtin.min2) (.int k x)).run P w = .ok (.int k z) w
  | [],vs,x,hx,hp,h => by
    simp only [PRels] at hp
    subst hp
    exact ⟨x,h,hx.1,hx.2,by simp⟩
  | p :: ps,vs,x,hx,hp,h => by
    simp only [PRels] at hp
    obtain ⟨v,r,rfl,h1,h2⟩:=hp
    cases p with
    | iv T y =>
      cases T with
      | int l =>
        simp only [minMax] at h
        split at h
        · rename_i hk
          have hk:=kindEq_spec hk
          subst hk
          obtain ⟨rfl,hy⟩:=PRel_val_int h1
          change Int at y
          cases mx
          · have hz:k.min ≤ min x (y:Int) ∧ min x (y:Int) ≤ k.max:=by
              have e1:min x (y:Int) = x ∨ min x (y:Int) = y:=by rcases Int.le_total x y with h | h <;> simp [Int.min_def,h] <;> omega
              rcases e1 with e | e <;> rw [e] <;> assumption
            obtain ⟨z,hz1,hz2,hz3,hz4⟩:=minMax_run false ps r _ hz h2 h
            refine ⟨z,hz1,hz2,hz3,?_⟩
            rw [List.foldlM_cons,Sem.run_bind]
            have e:Builtin.min2 (.int k x) (.int k y) = pure (.int k (min x (y:Int))):=by
              simp only [Builtin.min2,Int.min_def]
              congr 2
              by_cases hc:x ≤ (y:Int)
              · rw [if_pos hc,if_neg (by omega)]
              · rw [if_neg hc,if_pos (by omega)]
            simp only [Bool.false_eq_true,if_false] at hz4 ⊢
            rw [e]
            simpa using hz4
          · have hz:k.min ≤ max x (y:Int) ∧ max x (y:Int) ≤ k.max:=by
              have e1:max x (y:Int) = x ∨ max x (y:Int) = y:=by rcases Int.le_total x y with h | h <;> simp [Int.max_def,h] <;> omega
              rcases e1 with e | e <;> rw [e] <;> assumption
            obtain ⟨z,hz1,hz2,hz3,hz4⟩:=minMax_run true ps r _ hz h2 h
            refine ⟨z,hz1,hz2,hz3,?_⟩
            rw [List.foldlM_cons,Sem.run_bind]
            have e:Builtin.max2 (.int k x) (.int k y) = pure (.int k (max x (y:Int))):=by
              simp only [Builtin.max2,Int.max_def]
              congr 2
              by_cases hc:x ≤ (y:Int)
              · rw [if_pos hc]
                by_cases hd:(y:Int) > x
                · rw [if_pos hd]
                · rw [if_neg hd]; omega
              · rw [if_neg hc,if_neg (by omega)]
            simp only [if_true] at hz4 ⊢
            rw [e]
            simpa using hz4
        · exact h.elim
      | _ => simp only [minMax] at h; exact h.elim
    | _ => simp only [minMax] at h; exact h.elim

theorem op_min (h:Full n w0 S0 s a w ν S) (ho:opOK n o = true) {c:Call} (hop:o.op = .call c) (hcal:c.callee = .builtin .min) (hout:OutK E (stepF E F s o) (fun l => K (s.fin o.dst l))):o.wp E.P a w (fun a' w' => ∃ s',K s' ∧ Rel n w0 S0 s' a' w') Q:=by
  obtain ⟨callee,args,argTypes⟩:=c
  simp only at hcal
  subst hcal
  simp only [stepF,hop] at hout
  split at hout
  · rename_i k x r hev
    have hall:=evAll_rel h args.toList (fun y hy => opOK_arg ho (by simp only [hop,Op.operands,Call.operands]; simpa using hy))
    rw [hev] at hall
    simp only [PRels] at hall
    obtain ⟨v,vs,hvs,h1,h2⟩:=hall
    obtain ⟨rfl,hx⟩:=PRel_val_int h1
    obtain ⟨z,hz1,hz2,hz3,hz4⟩:=minMax_run (P:=E.P) (w:=w) false r vs x hx h2 hout
    refine h.val ho (v:=.int k z) ?_ (PRel_int ⟨hz2,hz3⟩) hz1
    have hl:(args.map a.eval).toList = .int k x :: vs:=by simpa using hvs
    simp only [Bool.false_eq_true,if_false] at hz4
    simp only [execOp,hop,resolve,invoke,builtin,Builtin.min_,Sem.run_bind,Sem.run_pure,Result.andThen_ok,hl,hz4]
  · exact hout.elim
theorem op_max (h:Full n w0 S0 s a w ν S) (ho:opOK n o = true) {c:Call} (hop:o.op = .call c) (hcal:c.callee = .builtin .max) (hout:OutK E (stepF E F s o) (fun l => K (s.fin o.dst l))):o.wp E.P a w (fun a' w' => ∃ s',K s' ∧ Rel n w0 S0 s' a' w') Q:=by
  obtain ⟨callee,args,argTypes⟩:=c
  simp only at hcal
  subst hcal
  simp only [stepF,hop] at hout
  split at hout
  · rename_i k x r hev
    have hall:=evAll_rel h args.toList (fun y hy => opOK_arg ho (by simp only [hop,Op.operands,Call.operands]; simpa using hy))
    rw [hev] at hall
    simp only [PRels] at hall
    obtain ⟨v,vs,hvs,h1,h2⟩:=hall
    obtain ⟨rfl,hx⟩:=PRel_val_int h1
    obtain ⟨z,hz1,hz2,hz3,hz4⟩:=minMax_run (P:=E.P) (w:=w) true r vs x hx h2 hout
    refine h.val ho (v:=.int k z) ?_ (PRel_int ⟨hz2,hz3⟩) hz1
    have hl:(args.map a.eval).toList = .int k x :: vs:=by simpa using hvs
    simp only [if_true] at hz4
    simp only [execOp,hop,resolve,invoke,builtin,Builtin.max_,Sem.run_bind,Sem.run_pure,Result.andThen_ok,hl,hz4]
  · exact hout.elim
end
end Go.Proofs.Ytefpgfdemmllpaa
namespace Go.Proofs.Ytefpgfdemmllpaa
open Go.RowKit Go.MapKept

/-! ### Keys -/

def valsOf:(T:Ty) → T.den → List Value
  | .int k,x => [.int k x] | .bool,x => [.bool x] | .str,x => [.string ⟨x.toArray⟩]
  | .pair a b,x => valsOf a x.1 ++ valsOf b x.2 | .st t,x => valsOf t x | _,_ => []
theorem plain_vals {w:World} {M:Mem}:∀ (T:Ty) (x:T.den) (vs:List Value),plainK T = true → RepC T x w M vs → vs = valsOf T x:=by
  intro T
  induction T with
  | int k => intro x vs _ h; exact h.1
  | bool => intro x vs _ h; exact h
  | str => intro x vs _ h; exact h.1
  | pair a b iha ihb =>
    intro x vs hp h
    simp only [plainK,Bool.and_eq_true] at hp
    obtain ⟨va,vb,rfl,h1,h2⟩:=h
    rw [iha _ _ hp.1 h1,ihb _ _ hp.2 h2]; rfl
  | st t ih => intro x vs hp h; exact ih x vs hp h
  | _ => intro x vs hp; cases hp
theorem eqB_iff:∀ (T:Ty) (x y:T.den),plainK T = true → (eqB T x y = true ↔ x = y):=by
  intro T
  induction T with
  | int k => intro x y _; simp [eqB]
  | bool => intro x y _; simp [eqB]
  | str => intro x y _; simp [eqB]
  | pair a b iha ihb =>
    intro x y hp
    simp only [plainK,Bool.and_eq_true] at hp
    simp only [eqB,Bool.and_eq_true,iha _ _ hp.1,ihb _ _ hp.2]
    exact ⟨fun h => Prod.ext h.1 h.2,fun h => by rw [h]; exact ⟨rfl,rfl⟩⟩
  | st t ih => intro x y hp; exact ih x y hp
  | _ => intro x y hp; cases hp
theorem beqD_eqB:∀ (T:Ty) (x y:T.den),plainK T = true → beqD T x y = some (eqB T x y):=by
  intro T
  induction T with
  | int k => intro x y _; rfl
  | bool => intro x y _; rfl
  | str => intro x y _; rfl
  | pair a b iha ihb =>
    intro x y hp
    simp only [plainK,Bool.and_eq_true] at hp
    simp only [beqD,eqB,iha _ _ hp.1,ihb _ _ hp.2]
  | st t ih => intro x y hp; exact ih x y hp
  | _ => intro x y hp; cases hp
theorem keyT_plain {E:Env} {t:Nat} {K:Ty} (h:keyT E t K = true):plainK K = true ∧ eqKind E t K ∧ dep K ≤ 101 ∧ K.val = true:=by
  cases K with
  | int k => exact ⟨rfl,trivial,by simp [dep],rfl⟩
  | bool => exact ⟨rfl,trivial,by simp [dep],rfl⟩
  | str => exact ⟨rfl,trivial,by simp [dep],rfl⟩
  | st R =>
    simp only [keyT,Bool.and_eq_true] at h
    have:=Nat.le_of_ble_eq_true h.2
    exact ⟨h.1.2,h.1.1,by simp only [dep]; omega,rfl⟩
  | _ => cases h

theorem sameBits_plain:∀ (T:Ty) (x:T.den),plainK T = true → ∀ u,u ∈ valsOf T x → ∀ n,Instr.sameBits n u u = true:=by
  intro T
  induction T with
  | int k => intro x _ u hu n; simp only [valsOf,List.mem_singleton] at hu; subst hu; cases n <;> simp [Instr.sameBits]
  | bool => intro x _ u hu n; simp only [valsOf,List.mem_singleton] at hu; subst hu; cases n <;> simp [Instr.sameBits]
  | str => intro x _ u hu n; simp only [valsOf,List.mem_singleton] at hu; subst hu; cases n <;> (simp only [Instr.sameBits]; exact (bytes_beq _ _).2 rfl)
  | pair a b iha ihb =>
    intro x hp u hu n
    simp only [plainK,Bool.and_eq_true] at hp
    simp only [valsOf] at hu
    rcases List.mem_append.1 hu with hu | hu
    · exact iha _ hp.1 u hu n
    · exact ihb _ hp.2 u hu n
  | st t ih => intro x hp u hu n; exact ih x hp u hu n
  | _ => intro x hp; cases hp
theorem zip_self_all {p:Value → Value → Bool}:∀ (l:List Value),(∀ u,u ∈ l → p u u = true) → (l.zip l).all (fun x => p x.1 x.2) = true
  | [],_ => rfl
  | u :: l,h => by
    simp only [List.zip_cons_cons,List.all_cons,Bool.and_eq_true]
    exact ⟨h u (List.mem_cons_self ..),zip_self_all l fun v hv => h v (List.mem_cons_of_mem _ hv)⟩
theorem keyStays_run {P:Program} {w w2:World} {M:Mem} {K:Ty} {x:K.den} {v:Value} (hp:plainK K = true) (hv:K.val = true) (h:RepV K x w M v):(Instr.keyThatStays v v).run P w2 = .ok v w2:=by
  have hs:Instr.sameBits 10000 v v = true:=by
    cases K with
    | int k => obtain ⟨h,_⟩:=h; injection h with h; subst h; simp [Instr.sameBits]
    | bool => have h:[v] = [.bool x]:=h; injection h with h; subst h; simp [Instr.sameBits]
    | str => obtain ⟨h,_⟩:=h; injection h with h; subst h; simp only [Instr.sameBits]; exact (bytes_beq _ _).2 rfl
    | st R =>
      obtain ⟨vs,rfl,hr⟩:=h
      have e:=plain_vals R x vs hp hr
      subst e
      simp only [Instr.sameBits,beq_self_eq_true,Bool.true_and]
      exact zip_self_all _ fun u hu => sameBits_plain R x hp u hu _
    | _ => first | cases hp | cases hv
  simp [Instr.keyThatStays,hs]

section
variable {E:Env} {w:World} {M:Mem}

theorem fields_each (hE:EnvOK E):∀ (fs:List Field) (R:Ty) (off:Nat),fieldsOK E.ty fs R off = true → fieldsCmp E.ty E.cmp fs = true → ∀ (x:R.den) (xs:Array Value),off + R.cells ≤ xs.size →
    RepC R x w M ((xs.toList.drop off).take R.cells) → ∀ f, f ∈ fs → f.name ≠ "_" ∧ ∃ (T : Ty) (y : T.den) (v : Value), E.ty f.type = some T ∧ eqKind E f.type T ∧ dep T ≤ dep R ∧ (Go.part f.type xs f.offset).run E.P w = .ok v w ∧ RepV T y w M v := by
  have one:∀ (f:Field) (T:Ty) (off:Nat) (y:T.den) (xs:Array Value),Nat.beq f.offset off = true → tyIs E.ty f.type T = true → (match E.ty f.type with | some (.int _) => true | some .bool => true | some .str => true | some (.st _) => E.cmp f.type | _ => false) = true →
      off + T.cells ≤ xs.size → RepC T y w M ((xs.toList.drop off).take T.cells) → ∃ v:Value,E.ty f.type = some T ∧ eqKind E f.type T ∧ (Go.part f.type xs f.offset).run E.P w = .ok v w ∧ RepV T y w M v:=by
    intro f T off y xs h1 h2 hc hx hr
    have hoff:=Nat.eq_of_beq_eq_true h1
    have hT:E.ty f.type = some T:=by
      unfold tyIs at h2
      split at h2
      · rename_i U hU
        rw [Ty.eq_spec h2] at hU
        exact hU
      · cases h2
    have hf:=hE.facts hT
    rw [hT] at hc
    have hk:eqKind E f.type T:=by
      cases T <;> first | trivial | exact hc | cases hc
    have hrv:RepV T y w M (valOf T ((xs.toList.drop off).take T.cells)):=by
      have:=valOf_cells hf.val hr
      have hv:=hf.val
      cases T <;> first | exact this | cases hv
    exact ⟨_,hT,hk,by rw [hoff]; exact run_part hf hx,hrv⟩
  intro fs
  induction fs with
  | nil => intro R off h; cases h
  | cons f fs ihf =>
    intro R off h hc x xs hx hr g hg
    simp only [fieldsCmp,Bool.and_eq_true] at hc
    cases fs with
    | nil =>
      simp only [fieldsOK,Bool.and_eq_true,Bool.not_eq_true'] at h
      obtain ⟨⟨⟨⟨h1,h2⟩,h3⟩,h4⟩,h5⟩:=h
      rcases List.mem_cons.1 hg with rfl | hg
      · obtain ⟨v,e1,e2,e3,e4⟩:=one g R off x xs h1 h2 hc.1 hx hr
        exact ⟨by simpa using h5,R,x,v,e1,e2,Nat.le_refl _,e3,e4⟩
      · cases hg
    | cons f2 fs2 =>
      cases R with
      | pair a b =>
        simp only [fieldsOK,Bool.and_eq_true,Bool.not_eq_true'] at h
        obtain ⟨⟨⟨⟨⟨h1,h2⟩,h3⟩,h4⟩,h5⟩,h6⟩:=h
        simp only [Ty.cells] at hx hr
        obtain ⟨va,vb,hv,hra,hrb⟩:=hr
        have hla:=RepC_len _ _ _ _ _ hra
        have hlb:=RepC_len _ _ _ _ _ hrb
        have e1:(xs.toList.drop off).take a.cells = va:=by
          have:=congrArg (List.take a.cells) hv
          rw [List.take_take,Nat.min_eq_left (by omega),← hla,List.take_left] at this
          rw [← hla]; exact this
        have e2:(xs.toList.drop (off + a.cells)).take b.cells = vb:=by
          have:=congrArg (List.drop a.cells) hv
          rw [List.drop_take,List.drop_drop,← hla,List.drop_left,hla] at this
          rw [show a.cells + b.cells - a.cells = b.cells from by omega] at this
          exact this
        rcases List.mem_cons.1 hg with rfl | hg
        · obtain ⟨v,e3,e4,e5,e6⟩:=one g a off x.1 xs h1 h2 hc.1 (by omega) (by rw [e1]; exact hra)
          exact ⟨by simpa using h5,a,x.1,v,e3,e4,by simp only [dep]; omega,e5,e6⟩
        · obtain ⟨n1,T,y,v,e3,e4,e5,e6⟩:=ihf b (off + a.cells) h6 hc.2 x.2 xs (by omega) (by rw [e2]; exact hrb) g hg
          exact ⟨n1,T,y,v,e3,e4,by simp only [dep]; omega,e6⟩
      | _ => simp only [fieldsOK] at h; cases h

theorem items_each {V:Ty} (hV:V.val = true):∀ (m k:Nat) (x:(rowOf V (m + 1)).den) (xs:Array Value),(k + (m + 1)) * V.cells ≤ xs.size →
    RepC (rowOf V (m + 1)) x w M ((xs.toList.drop (k * V.cells)).take ((m + 1) * V.cells)) → ∀ i,k ≤ i → i < k + (m + 1) → ∃ y:V.den,RepC V y w M ((xs.toList.drop (i * V.cells)).take V.cells):=by
  intro m
  induction m with
  | zero =>
    intro k x xs hx hr i h1 h2
    have:i = k:=by omega
    subst this
    simp only [Nat.zero_add,Nat.one_mul] at hr
    exact ⟨x,hr⟩
  | succ m ih =>
    intro k x xs hx hr i h1 h2
    obtain ⟨va,vb,hv,hra,hrb⟩:=hr
    have hla:=RepC_len _ _ _ _ _ hra
    have hle:V.cells ≤ (m + 1 + 1) * V.cells:=Nat.le_mul_of_pos_left _ (by omega)
    have e1:(xs.toList.drop (k * V.cells)).take V.cells = va:=by
      have:=congrArg (List.take V.cells) hv
      rw [List.take_take,Nat.min_eq_left hle,← hla,List.take_left] at this
      rw [← hla]; exact this
    have e2:(xs.toList.drop ((k + 1) * V.cells)).take ((m + 1) * V.cells) = vb:=by
      have:=congrArg (List.drop V.cells) hv
      rw [List.drop_take,List.drop_drop,← hla,List.drop_left,hla] at this
      rw [show (m + 1 + 1) * V.cells - V.cells = (m + 1) * V.cells from by rw [Nat.add_mul (m + 1) 1]; omega,show k * V.cells + V.cells = (k + 1) * V.cells from by rw [Nat.add_mul,Nat.one_mul]] at this
      exact this
    by_cases hik:i = k
    · subst hik
      exact ⟨x.1,by rw [e1]; exact hra⟩
    · exact ih (k + 1) x.2 xs (by rw [show k + 1 + (m + 1) = k + (m + 1 + 1) from by omega]; exact hx) (by rw [e2]; exact hrb) i (by omega) (by omega)

theorem check_run (hE:EnvOK E):∀ (d:Nat) (K:Ty) (t:Nat) (x:K.den) (v:Value),E.ty t = some K → eqKind E t K → RepV K x w M v → dep K ≤ d → ∀ em,(Instr.checkKey em (d + 1) t v).run E.P w = .ok () w:=by
  intro d
  induction d with
  | zero =>
    intro K t x v hT hk hv hd em
    have hf:=hE.facts hT
    obtain ⟨dd,hu,hs⟩:=hf.und
    rw [Instr.checkKey]
    simp only [Sem.run_bind,run_underlying hu,Result.andThen_ok]
    cases K with
    | int k => cases dd <;> first | cases hs | (obtain ⟨hv,_⟩:=hv; injection hv with hv; subst hv; rfl)
    | bool => have hv:[v] = [.bool x]:=hv; injection hv with hv; subst hv; cases dd <;> first | rfl | cases hs
    | str => obtain ⟨hv,_⟩:=hv; injection hv with hv; subst hv; cases dd <;> first | rfl | cases hs
    | st R => simp only [dep] at hd; omega
    | _ => cases hk
  | succ d ih =>
    intro K t x v hT hk hv hd em
    have hf:=hE.facts hT
    obtain ⟨dd,hu,hs⟩:=hf.und
    rw [Instr.checkKey]
    simp only [Sem.run_bind,run_underlying hu,Result.andThen_ok]
    cases K with
    | int k => cases dd <;> first | cases hs | (obtain ⟨hv,_⟩:=hv; injection hv with hv; subst hv; rfl)
    | bool => have hv:[v] = [.bool x]:=hv; injection hv with hv; subst hv; cases dd <;> first | rfl | cases hs
    | str => obtain ⟨hv,_⟩:=hv; injection hv with hv; subst hv; cases dd <;> first | rfl | cases hs
    | st R =>
      obtain ⟨vs,rfl,hr⟩:=hv
      have hlen:=RepC_len _ _ _ _ _ hr
      obtain ⟨_,_,hcase⟩:=cmp_facts hE hk
      simp only [dep] at hd
      rcases hcase with ⟨fs,hu',hfc,_⟩ | ⟨m,e,hu',hec⟩
      · rw [hu] at hu'
        injection hu' with hu'
        subst hu'
        simp only
        rw [← Array.forIn_toList]
        have each:=fields_each hE fs.toList R 0 hs hfc x vs.toArray (by simp [hlen]) (by simp only [List.drop_zero]; rw [List.take_of_length_le (by simp [hlen])]; exact hr)
        generalize fs.toList = L at each
        induction L with
        | nil => simp
        | cons f L ihL =>
          obtain ⟨hn,T,y,u,hTy,hkT,hdT,p1,hrep⟩:=each f (List.mem_cons_self ..)
          have p2:=ih T f.type y u hTy hkT hrep (by omega) em
          simp only [List.forIn_cons,Sem.run_bind,hn,ne_eq,not_false_eq_true,if_true,Result.andThen_ok,p1,p2,Sem.run_pure]
          have hL:=ihL fun g hg => each g (List.mem_cons_of_mem _ hg)
          simp only [Sem.run_bind,ne_eq,Sem.run_pure] at hL
          exact hL
      · rw [hu] at hu'
        injection hu' with hu'
        subst hu'
        simp only [shapeOK] at hs
        split at hs
        · rename_i V hV
          simp only [Bool.and_eq_true] at hs
          obtain ⟨⟨⟨h1,h2⟩,h3⟩,h4⟩:=hs
          have h4:=Nat.le_of_ble_eq_true h4
          obtain ⟨m',rfl⟩:∃ m',m = m' + 1:=⟨m - 1,by omega⟩
          have hR:=Ty.eq_spec h1
          subst hR
          have hfV:=hE.facts hV
          have hkV:eqKind E e V:=by
            unfold elemCmp at hec
            rw [hV] at hec
            cases V <;> first | trivial | exact hec | cases hec
          have hdV:dep V ≤ d:=by
            have:∀ n,dep V ≤ dep (rowOf V (n + 1)):=by
              intro n
              cases n with
              | zero => exact Nat.le_refl _
              | succ n => simp only [rowOf,dep]; omega
            have:=this m'
            omega
          have hcells:=rowOf_cells V (m' + 1)
          have each:=items_each (w:=w) (M:=M) h2 m' 0 x vs.toArray (by simp [hlen,hcells]) (by simp only [Nat.zero_mul,List.drop_zero]; rw [List.take_of_length_le (by simp [hlen,hcells])]; exact hr)
          simp only [Std.Legacy.Range.forIn_eq_forIn_range',Std.Legacy.Range.size,Nat.sub_zero,Nat.add_one_sub_one,Nat.div_one]
          have each':∀ i,i ∈ List.range' 0 (m' + 1) → ∃ y:V.den,i < m' + 1 ∧ RepC V y w M ((vs.toArray.toList.drop (i * V.cells)).take V.cells):=by
            intro i hi
            have hi':i < m' + 1:=by simpa using hi
            obtain ⟨y,hy⟩:=each i (Nat.zero_le _) (by omega)
            exact ⟨y,hi',hy⟩
          generalize List.range' 0 (m' + 1) = is at each'
          induction is with
          | nil => simp
          | cons i is ihL =>
            obtain ⟨y,hi,hy⟩:=each' i (List.mem_cons_self ..)
            have hle:i * V.cells + V.cells ≤ vs.toArray.size:=by
              rw [List.size_toArray,hlen,hcells]
              calc i * V.cells + V.cells = (i + 1) * V.cells:=by rw [Nat.add_mul,Nat.one_mul]
                _ ≤ (m' + 1) * V.cells:=Nat.mul_le_mul_right _ hi
            have p1:=run_part hfV (w:=w) (cs:=vs.toArray) (off:=i * V.cells) hle
            have hrv:RepV V y w M (valOf V ((vs.toArray.toList.drop (i * V.cells)).take V.cells)):=by
              have:=valOf_cells hfV.val hy
              have hv:=hfV.val
              cases V <;> first | exact this | cases hv
            have p2:=ih V e y _ hV hkV hrv hdV em
            simp only [List.forIn_cons,Sem.run_bind,hfV.sizeOf w,Result.andThen_ok,p1,p2,Sem.run_pure]
            have hL:=ihL fun j hj => each' j (List.mem_cons_of_mem _ hj)
            simp only [Sem.run_bind,Sem.run_pure] at hL
            exact hL
        · cases hs
    | _ => cases hk

/-! ### A map's entries -/

def EntR (w:World) (M:Mem) (K V:Ty):List (K.den × V.den) → List MapEntry → Prop
  | [],[] => True
  | y :: es,e :: l => (∃ ca cb,e.key = valOf K ca ∧ RepC K y.1 w M ca ∧ e.val = valOf V cb ∧ RepC V y.2 w M cb) ∧ EntR w M K V es l
  | _,_ => False
theorem EntR_of {K V:Ty}:∀ (es:List (K.den × V.den)) (l:List MapEntry),l.length = es.length →
    (∀ (i:Nat) (y:K.den × V.den),es[i]? = some y → ∃ (e:MapEntry) (ca cb:List Value),l[i]? = some e ∧ e.key = valOf K ca ∧ RepC K y.1 w M ca ∧ e.val = valOf V cb ∧ RepC V y.2 w M cb) → EntR w M K V es l
  | [],[],_,_ => trivial
  | [],_ :: _,h,_ => by simp at h
  | _ :: _,[],h,_ => by simp at h
  | y :: es,e :: l,hl,h => by
    obtain ⟨e',ca,cb,h1,h2⟩:=h 0 y rfl
    simp only [List.getElem?_cons_zero,Option.some.injEq] at h1
    subst h1
    exact ⟨⟨ca,cb,h2⟩,EntR_of es l (by simpa using hl) fun i z hz => by simpa using h (i + 1) z (by simpa using hz)⟩
theorem repV_val {T:Ty} {x:T.den} {vs:List Value} (hT:T.val = true) (h:RepC T x w M vs):RepV T x w M (valOf T vs):=by
  have:=valOf_cells hT h
  cases T <;> first | exact this | cases hT

def mpos {K V:Type} (eq:K → K → Bool):List (K × V) → K → Option Nat
  | [],_ => none | p :: r,k => bif eq k p.1 then some 0 else (match mpos eq r k with | some i => some (i + 1) | none => none)
theorem mfind_pos {K V:Type} (eq:K → K → Bool) (k:K):∀ (es:List (K × V)),mfind eq es k = (mpos eq es k).bind fun i => (es[i]?).map (·.2)
  | [] => rfl
  | p :: r => by
    simp only [mfind,mpos]
    cases eq k p.1 with
    | true => rfl
    | false =>
      simp only [cond_false,mfind_pos eq k r]
      cases mpos eq r k <;> rfl
theorem mset_pos {K V:Type} (eq:K → K → Bool) (k:K) (v:V):∀ (es:List (K × V)),mset eq es k v = (match mpos eq es k with | some i => es.set i (k,v) | none => es ++ [(k,v)])
  | [] => rfl
  | p :: r => by
    simp only [mset,mpos]
    cases eq k p.1 with
    | true => rfl
    | false =>
      simp only [cond_false,mset_pos eq k v r]
      cases mpos eq r k <;> rfl
theorem mpos_lt {K V:Type} (eq:K → K → Bool) (k:K):∀ (es:List (K × V)) (i:Nat),mpos eq es k = some i → ∃ p,es[i]? = some p ∧ eq k p.1 = true
  | [],i,h => by cases h
  | p :: r,i,h => by
    simp only [mpos] at h
    cases hb:eq k p.1 with
    | true => rw [hb] at h; injection h with h; subst h; exact ⟨p,rfl,hb⟩
    | false =>
      rw [hb] at h
      simp only [cond_false] at h
      split at h
      · rename_i j hj
        injection h with h
        subst h
        obtain ⟨q,h1,h2⟩:=mpos_lt eq k r j hj
        exact ⟨q,by simpa using h1,h2⟩
      · cases h

theorem valOf_key {K:Ty} {x y:K.den} {u v:Value} (hp:plainK K = true) (hv:K.val = true) (hx:RepV K x w M u) (hy:RepV K y w M v):x = y → u = v:=by
  intro e
  subst e
  cases K with
  | int k => have hx:RepC (.int k) x w M [u]:=hx; have hy:RepC (.int k) x w M [v]:=hy; have:=(plain_vals _ _ _ hp hx).trans (plain_vals _ _ _ hp hy).symm; simpa using this
  | bool => have hx:RepC .bool x w M [u]:=hx; have hy:RepC .bool x w M [v]:=hy; have:=(plain_vals _ _ _ hp hx).trans (plain_vals _ _ _ hp hy).symm; simpa using this
  | str => have hx:RepC .str x w M [u]:=hx; have hy:RepC .str x w M [v]:=hy; have:=(plain_vals _ _ _ hp hx).trans (plain_vals _ _ _ hp hy).symm; simpa using this
  | st R =>
    obtain ⟨vs,rfl,h1⟩:=hx
    obtain ⟨us,rfl,h2⟩:=hy
    rw [plain_vals R _ _ hp h1,plain_vals R _ _ hp h2]
  | _ => first | cases hp | cases hv

def FoundR {K V:Ty} (es:List (K.den × V.den)) (l:List MapEntry) (k:K.den) (i0:Nat) (res:Option (Nat × Value)):Prop:=match mpos (eqB K) es k with
  | none => res = none
  | some i => ∃ e,l[i]? = some e ∧ res = some (i0 + i,e.val)

theorem asking_run (hE:EnvOK E) {K V:Ty} {kt:Nat} (hT:E.ty kt = some K) (hk:keyT E kt K = true) {k:K.den} {kv:Value} (hkv:RepV K k w M kv):∀ (es:List (K.den × V.den)) (l:List MapEntry) (i0:Nat),EntR w M K V es l →
    ∃ res,(Instr.findAsking kt kv l i0).run E.P w = .ok res w ∧ FoundR es l k i0 res
  | [],[],i0,_ => ⟨none,by simp [Instr.findAsking],rfl⟩
  | [],_ :: _,_,h => h.elim
  | _ :: _,[],_,h => h.elim
  | y :: es,e :: l,i0,h => by
    obtain ⟨⟨ca,cb,h1,h2,h3,h4⟩,h5⟩:=h
    obtain ⟨hp,hek,hd,hval⟩:=keyT_plain hk
    have hrk:RepV K y.1 w M e.key:=by rw [h1]; exact repV_val hval h2
    have heq:(Op.equal kt kv e.key).run E.P w = .ok (eqB K k y.1) w:=eq_val hE 9999 K kt k y.1 kv e.key _ (hE.facts hT) hek hkv hrk (beqD_eqB K k y.1 hp) (by omega)
    cases hb:eqB K k y.1 with
    | true =>
      rw [hb] at heq
      exact ⟨some (i0,e.val),by simp [Instr.findAsking,heq],by simp only [FoundR,mpos,hb,cond_true]; exact ⟨e,rfl,rfl⟩⟩
    | false =>
      rw [hb] at heq
      obtain ⟨res,hr,hf⟩:=asking_run hE hT hk hkv es l (i0 + 1) h5
      refine ⟨res,by simp [Instr.findAsking,heq,hr],?_⟩
      simp only [FoundR,mpos,hb,cond_false] at hf ⊢
      cases hm:mpos (eqB K) es k with
      | none => rw [hm] at hf; exact hf
      | some i =>
        rw [hm] at hf
        obtain ⟨e',he',hres⟩:=hf
        exact ⟨e',by simpa using he',by rw [hres]; simp only [Option.some.injEq,Prod.mk.injEq,and_true]; omega⟩

theorem now_run {K V:Ty} {d:TypeDesc} (hs:(match K with | .int l => (match d with | .int k => kindEq k l | _ => false) | .bool => (match d with | .bool => true | _ => false) | .str => (match d with | .string => true | _ => false) | _ => false) = true)
    {k:K.den} {kv:Value} (hkv:RepV K k w M kv):∀ (es:List (K.den × V.den)) (l:List MapEntry) (i0:Nat),EntR w M K V es l → ∃ res,Instr.findNow d kv l i0 = some res ∧ FoundR es l k i0 res
  | [],[],i0,_ => ⟨none,rfl,rfl⟩
  | [],_ :: _,_,h => h.elim
  | _ :: _,[],_,h => h.elim
  | y :: es,e :: l,i0,h => by
    obtain ⟨⟨ca,cb,h1,h2,h3,h4⟩,h5⟩:=h
    have hsame:Instr.sameNow d kv e.key = some (eqB K k y.1):=by
      cases K with
      | int kk =>
        have hkv:RepC (.int kk) k w M [kv]:=hkv
        have e1:=plain_vals (.int kk) k _ rfl hkv
        have e2:=plain_vals (.int kk) y.1 _ rfl h2
        simp only [valsOf,List.cons.injEq,and_true] at e1 e2
        subst e1
        rw [h1,e2]
        cases d <;> first | (cases hs; done) | skip
        simp only [Instr.sameNow,valOf,List.headD_cons,if_true,eqB]
        congr 1
      | bool =>
        have hkv:RepC .bool k w M [kv]:=hkv
        have e1:=plain_vals .bool k _ rfl hkv
        have e2:=plain_vals .bool y.1 _ rfl h2
        simp only [valsOf,List.cons.injEq,and_true] at e1 e2
        subst e1
        rw [h1,e2]
        cases d <;> first | rfl | (cases hs; done)
      | str =>
        have hkv:RepC .str k w M [kv]:=hkv
        have e1:=plain_vals .str k _ rfl hkv
        have e2:=plain_vals .str y.1 _ rfl h2
        simp only [valsOf,List.cons.injEq,and_true] at e1 e2
        subst e1
        rw [h1,e2]
        have hb:∀ a b:List UInt8,((⟨a.toArray⟩:ByteArray) == ⟨b.toArray⟩) = decide (a = b):=by
          intro a b
          rw [Bool.eq_iff_iff,bytes_beq,decide_eq_true_iff]
          constructor
          · intro h; injection h with h; simpa using congrArg Array.toList h
          · intro h; rw [h]
        cases d <;> first | (cases hs; done) | skip
        simp only [Instr.sameNow,valOf,List.headD_cons,hb,eqB]
      | _ => cases hs
    cases hb:eqB K k y.1 with
    | true =>
      rw [hb] at hsame
      exact ⟨some (i0,e.val),by simp [Instr.findNow,hsame],by simp only [FoundR,mpos,hb,cond_true]; exact ⟨e,rfl,rfl⟩⟩
    | false =>
      rw [hb] at hsame
      obtain ⟨res,hr,hf⟩:=now_run hs hkv es l (i0 + 1) h5
      refine ⟨res,by simp [Instr.findNow,hsame,hr],?_⟩
      simp only [FoundR,mpos,hb,cond_false] at hf ⊢
      cases hm:mpos (eqB K) es k with
      | none => rw [hm] at hf; exact hf
      | some i =>
        rw [hm] at hf
        obtain ⟨e',he',hres⟩:=hf
        exact ⟨e',by simpa using he',by rw [hres]; simp only [Option.some.injEq,Prod.mk.injEq,and_true]; omega⟩

theorem find_run (hE:EnvOK E) {K V:Ty} {kt:Nat} (hT:E.ty kt = some K) (hk:keyT E kt K = true) {k:K.den} {kv:Value} (hkv:RepV K k w M kv) (es:List (K.den × V.den)) (l:List MapEntry) (h:EntR w M K V es l) :
    ∃ res,(Instr.findKey kt kv l).run E.P w = .ok res w ∧ FoundR es l k 0 res:=by
  obtain ⟨d,hu,hs⟩:=(hE.facts hT).und
  have now:∀ res,Instr.findNow d kv l 0 = some res → (Instr.findKey kt kv l).run E.P w = .ok res w:=fun res hr => by simp [Instr.findKey,run_underlying hu,hr]
  have ask:Instr.findNow d kv l 0 = none → ∃ res,(Instr.findKey kt kv l).run E.P w = .ok res w ∧ FoundR es l k 0 res:=fun hr => by
    obtain ⟨res,h1,h2⟩:=asking_run hE hT hk hkv es l 0 h
    exact ⟨res,by simp [Instr.findKey,run_underlying hu,hr,h1],h2⟩
  cases K with
  | int kk => obtain ⟨res,h1,h2⟩:=now_run (d:=d) (by cases d <;> first | exact hs | cases hs) hkv es l 0 h; exact ⟨res,now res h1,h2⟩
  | bool => obtain ⟨res,h1,h2⟩:=now_run (d:=d) (by cases d <;> first | exact hs | cases hs) hkv es l 0 h; exact ⟨res,now res h1,h2⟩
  | str => obtain ⟨res,h1,h2⟩:=now_run (d:=d) (by cases d <;> first | exact hs | cases hs) hkv es l 0 h; exact ⟨res,now res h1,h2⟩
  | st R =>
    match es,l,h with
    | [],[],_ => exact ⟨none,now none rfl,rfl⟩
    | y :: es,e :: l,h =>
      refine ask ?_
      simp only [shapeOK] at hs
      cases d <;> first | (cases hs; done) | rfl
  | _ => cases hk
end
end Go.Proofs.Ytefpgfdemmllpaa
namespace Go.Proofs.Ytefpgfdemmllpaa
open Go.RowKit Go.MapKept

section
variable {E:Env} {n:Nat} {w0:World} {S0:Cx} {s:St} {a:Act} {w:World} {ν:Nat → Value} {S:Nat → Prop} {F:Reg} {o:Oper} {K:St → Prop} {Q:Exit → Act → World → Prop}

theorem map_ty (hE:EnvOK E) {t:Nat} {A B:Ty} (hT:E.ty t = some (.mp A B)):∃ k v,E.P.underlying t = some (.map k v) ∧ E.ty k = some A ∧ E.ty v = some B ∧ A.val = true ∧ B.val = true ∧ owns A = 0 ∧ owns B = 0:=by
  have hf:=hE.facts hT
  obtain ⟨d,hu,hs⟩:=hf.und
  have ho:=hf.own
  simp only [owns] at ho
  cases d with
  | map k v =>
    simp only [shapeOK,Bool.and_eq_true] at hs
    obtain ⟨⟨⟨h1,h2⟩,h3⟩,h4⟩:=hs
    have is:∀ (u:Nat) (U:Ty),tyIs E.ty u U = true → E.ty u = some U:=by
      intro u U h
      unfold tyIs at h
      split at h
      · rename_i X hX
        rw [Ty.eq_spec h] at hX
        exact hX
      · cases h
    exact ⟨k,v,hu,is _ _ h1,is _ _ h2,h3,h4,by omega,by omega⟩
  | _ => simp only [shapeOK] at hs; cases hs
theorem map_key (hE:EnvOK E) {t kt:Nat} (hk:E.mapKey t = some kt) {k v:Nat} (hu:E.P.underlying t = some (.map k v)):kt = k:=by
  have:=hE.mapKey t kt hk
  unfold keyOK at this
  rw [hu] at this
  exact Nat.eq_of_beq_eq_true this

theorem op_makeMap (hE:EnvOK E) (h:Full n w0 S0 s a w ν S) (ho:opOK n o = true) {t:Nat} (hop:o.op = .makeMap t none) (hout:OutK E (stepF E F s o) (fun l => K (s.fin o.dst l))):o.wp E.P a w (fun a' w' => ∃ s',K s' ∧ Rel n w0 S0 s' a' w') Q:=by
  simp only [stepF,hop] at hout
  split at hout
  · rename_i A B d hT hd
    split at hout
    · rename_i hl
      simp only [OutK,St.fin,hd] at hout
      obtain ⟨k,v,hu,_,_,_,_,hoA,hoB⟩:=map_ty hE hT
      have hr:(execOp a.eval o).run E.P w = .ok (.value (.map (some w.heap.size))) (w.alloc (.map #[] 0)):=by
        simp only [execOp,hop,Instr.makeMap,Option.map_none,Sem.run_bind,Result.andThen_ok,Sem.run_pure]
        rfl
      refine wp_of_val hr ⟨_,hout,?_⟩
      rw [hd]
      have hh:(w.alloc (.map #[] 0)).heap[w.heap.size]? = some (.map #[] 0):=_root_.Go.heap_alloc_new w _
      refine (h.new (b:=.mp A B []) (p:=.lmap d) (v:=.map (some w.heap.size)) (val:=.map (some w.heap.size)) (opOK_dst ho d hd) hl (grownD_alloc w _ none) (fun g hg => h.beyond (by injection hg with hg; omega)) ?_ ?_).rel
      · refine ⟨hoA,hoB,by simp,w.heap.size,#[],0,by simp,h.W.size _ (Nat.le_refl _),fun hS => absurd (h.W.lt _ hS) (by simp),hh,⟨rfl,fun i e hi => by simp at hi⟩,rfl,fun i y hy => by simp at hy⟩
      · simp only [PRel]
        exact ⟨⟨_,look_cons_self _ _ _⟩,by simp,_,rfl⟩
    · exact hout.elim
  · exact hout.elim

theorem Full.entries (h:Full n w0 S0 s a w ν S) {A B:Ty} {p:PV} {v:Value} {es:List (A.den × B.den)} (hx:asMp F s.bl A B p = some es) (hp:PRel h.c p v) :
    (v = .map none ∧ es = []) ∨ ∃ (r:Nat) (ents:Array MapEntry) (clock:Nat),v = .map (some r) ∧ w.heap[r]? = some (.map ents clock) ∧ Births ents clock ∧ ents.size = es.length ∧ EntR w ⟨S,own0 w0 S0⟩ A B es ents.toList:=by
  cases p with
  | iv U y =>
    simp only [asMp] at hx
    obtain ⟨e,hx⟩:=Ty.cast_some hx
    subst e
    simp only at hx
    subst hx
    simp only [PRel] at hp
    obtain ⟨_,hp⟩:=hp
    have hp:RepC (.mp A B) y w ⟨S,own0 w0 S0⟩ [v]:=hp
    obtain ⟨_,hc⟩:=hp
    rcases hc with ⟨hv,he⟩ | ⟨r,ents,clock,hv,hS,hh,hb,hs,hr⟩
    · injection hv with hv
      exact .inl ⟨hv,he⟩
    · injection hv with hv
      exact .inr ⟨r,ents,clock,hv,hh,hb,hs,EntR_of _ _ (by simpa using hs) (by simpa using hr)⟩
  | lmap id =>
    simp only [asMp] at hx
    split at hx
    · rename_i A' B' ys hl
      obtain ⟨hl,_⟩:=lk_some hl
      obtain ⟨e,hx⟩:=Ty.cast_some hx
      injection e with e1 e2
      subst e1; subst e2
      simp only at hx
      subst hx
      simp only [PRel] at hp
      obtain ⟨hok,hov,h0,r,ents,clock,h1,h2,h3,h4,h5,h6,h7⟩:=h.W.blk _ _ hl
      refine .inr ⟨r,ents,clock,?_,h4,h5,h6,EntR_of _ _ (by simpa using h6) (by simpa using h7)⟩
      rw [hp.2.1]
      exact h1
    · cases hx
  | _ => simp only [asMp] at hx; cases hx

theorem plainK_flat:∀ (T:Ty),plainK T = true → T.flat = true:=by
  intro T
  induction T <;> simp_all [plainK,Ty.flat]

theorem Full.key (h:Full n w0 S0 s a w ν S) {A:Ty} {kt:Nat} (hk:keyT E kt A = true) {q:PV} {v:Value} {k:A.den} (hx:exp F s.bl A q = some k) (hq:PRel h.c q v) (M:Mem):RepV A k w M v:=by
  obtain ⟨hp,_,_,_⟩:=keyT_plain hk
  have hfl:=plainK_flat A hp
  have hR:Reads F s h.c ⟨fun b => b < w.heap.size,own0 w0 S0⟩:=⟨rfl,h.W.blk,fun b hb => h.W.lt b hb,fun id _ ⟨b,hb⟩ g hg => (h.blkB hb hg).2.2⟩
  exact flat_V hfl (exp_sound hR (.inl (flat_owns A hfl)) hx hq)

theorem zer_vals:∀ (T:Ty),T.zer = true → ∃ vs,zeroVals T = some vs:=by
  intro T
  induction T with
  | pair a b iha ihb =>
    intro h
    simp only [Ty.zer,Bool.and_eq_true] at h
    obtain ⟨x,hx⟩:=iha h.1
    obtain ⟨y,hy⟩:=ihb h.2
    exact ⟨x ++ y,by simp only [zeroVals,hx,hy]⟩
  | st t ih => intro h; exact ih h
  | _ => intro h; first | exact ⟨_,rfl⟩ | cases h
theorem zero_repV {T:Ty} {z:Value} {M:Mem} (hz:zeroOK (some z) T = true) (hT:T.zer = true) (hv:T.val = true):RepV T (zeroDen T) w M z:=by
  obtain ⟨vs,hvs⟩:=zer_vals T hT
  have hr:=zero_rep (w:=w) (M:=M) T vs hT hvs
  unfold zeroOK at hz
  rw [hvs] at hz
  simp only at hz
  split at hz
  · split at hz
    · rename_i cs
      have:=valsEq_spec hz
      exact ⟨vs,by rw [← this],hr⟩
    · cases hz
  · split at hz
    · rename_i hst _ u
      have:=valEq_spec hz
      subst this
      cases T <;> first | exact hr | (cases hv; done) | (exact absurd rfl (hst _))
    · cases hz

theorem zeroJoin_rel {c:Ctx} {T:Ty} {z:Value} {cs:List PV} (hz:zeroOK (some z) T = true) (hv:T.val = true) (hc:zeroCells T = some cs) (hzs:z.cells.size = T.cells):PRel c (join T cs) z:=by
  obtain ⟨vs,hzv,hrel,h1⟩:=zero_rel (c:=c) T cs hc
  have hz':=zero_cells hz hzv
  have hval:z = valOf T vs:=by
    unfold zeroOK at hz
    rw [hzv] at hz
    simp only at hz
    split at hz
    · split at hz
      · rename_i cs'
        have:=valsEq_spec hz
        simp only [valOf]
        rw [← this]
      · cases hz
    · split at hz
      · rename_i hst _ u
        have:=valEq_spec hz
        subst this
        cases T <;> first | rfl | (cases hv; done) | (exact absurd rfl (hst _))
      · cases hz
  rw [hval]
  exact join_rel (by rw [← hz',Array.length_toList,hzs]) hv h1 hrel
theorem PRel_tup {c:Ctx} {ps:List PV} {vs:List Value} (h:PRels c ps vs):PRel c (.tup ps) (.tuple vs.toArray):=by
  simp only [PRel]
  exact ⟨vs,rfl,h⟩
theorem PRels_two {c:Ctx} {p q:PV} {u v:Value} (h1:PRel c p u) (h2:PRel c q v):PRels c [p,q] [u,v]:=by
  simp only [PRels]
  exact ⟨_,_,rfl,h1,_,_,rfl,h2,rfl⟩
def resV (z:Value):Option (Nat × Value) → Value
  | some (_,v) => v | none => z
theorem run_lookup {P:Program} {t kt ve:TypeId} {xv kv z:Value} {ok:Bool} {l:List MapEntry} {res:Option (Nat × Value)} (hu:P.underlying t = some (.map kt ve))
    (hget:(xv = .map none ∧ l = []) ∨ ∃ (r:Nat) (ents:Array MapEntry) (clock:Nat),xv = .map (some r) ∧ w.heap[r]? = some (.map ents clock) ∧ ents.toList = l)
    (hck:∀ em,(Instr.checkKey em 10000 kt kv).run P w = .ok () w) (hfind:(Instr.findKey kt kv l).run P w = .ok res w) (hz:(zeroValue ve).run P w = .ok z w) :
    (Instr.lookup t xv kv ok).run P w = .ok (if ok then .tuple #[resV z res,.bool res.isSome] else resV z res) w:=by
  unfold Instr.lookup
  rcases hget with ⟨rfl,rfl⟩ | ⟨r,ents,clock,rfl,hh,rfl⟩
  · cases res with
    | none => cases ok <;> simp [run_underlying hu,hck,hfind,hz,resV]
    | some p => cases ok <;> simp [run_underlying hu,hck,hfind,resV]
  · cases res with
    | none => cases ok <;> simp [run_underlying hu,MapKept.run_getObj_map hh,hck,hfind,hz,resV]
    | some p => cases ok <;> simp [run_underlying hu,MapKept.run_getObj_map hh,hck,hfind,resV]

theorem op_lookup (hE:EnvOK E) (h:Full n w0 S0 s a w ν S) (ho:opOK n o = true) {t:Nat} {x y:Operand} {ok:Bool} (hop:o.op = .lookup t x y ok) (hout:OutK E (stepF E F s o) (fun l => K (s.fin o.dst l))):o.wp E.P a w (fun a' w' => ∃ s',K s' ∧ Rel n w0 S0 s' a' w') Q:=by
  simp only [stepF,hop,lookupO] at hout
  have hx:=h.ev (opOK_arg ho (x:=x) (by simp [hop,Op.operands]))
  have hy:=h.ev (opOK_arg ho (x:=y) (by simp [hop,Op.operands]))
  split at hout
  · rename_i A B kt hT hkt
    split at hout
    · rename_i es k hes hk hkey
      obtain ⟨k',ve,hu,hTA,hTB,hvA,hvB,hoA,hoB⟩:=map_ty hE hT
      have hkk:=map_key hE hkt hu
      subst hkk
      obtain ⟨hp,hek,hdep,_⟩:=keyT_plain hkey
      have hent:=h.entries hes hx
      have hkv:=h.key hkey hk hy ⟨S,own0 w0 S0⟩
      obtain ⟨i,hi,hsz,hby,hzo,z,hz,hzs⟩:=(hE.facts hTB).info
      rw [hz] at hzo
      have hzrun:(zeroValue ve).run E.P w = .ok z w:=by
        simp only [zeroValue,typeInfo,Sem.run_bind,run_program,Result.andThen_ok,hi,hz,Sem.run_pure]
      have hck:∀ em,(Instr.checkKey em 10000 kt (a.eval y)).run E.P w = .ok () w:=fun em => check_run hE 9999 A kt k _ hTA hek hkv (by omega) em
      -- what is found
      obtain ⟨res,l,hget,hfind,hfound,hl⟩:∃ (res:Option (Nat × Value)) (l:List MapEntry),((a.eval x = .map none ∧ l = []) ∨ ∃ (r:Nat) (ents:Array MapEntry) (clock:Nat),a.eval x = .map (some r) ∧ w.heap[r]? = some (.map ents clock) ∧ ents.toList = l) ∧
          (Instr.findKey kt (a.eval y) l).run E.P w = .ok res w ∧ FoundR es l k 0 res ∧ EntR w ⟨S,own0 w0 S0⟩ A B es l:=by
        rcases hent with ⟨hv,rfl⟩ | ⟨r,ents,clock,hv,hh,hb,hs,hr⟩
        · obtain ⟨res,h1,h2⟩:=find_run hE (V:=B) hTA hkey hkv [] [] trivial
          exact ⟨res,[],.inl ⟨hv,rfl⟩,h1,h2,trivial⟩
        · obtain ⟨res,h1,h2⟩:=find_run hE (V:=B) hTA hkey hkv es ents.toList hr
          exact ⟨res,ents.toList,.inr ⟨r,ents,clock,hv,hh,rfl⟩,h1,h2,hr⟩
      have run1:(execOp a.eval o).run E.P w = .ok (.value (if ok then .tuple #[resV z res,.bool res.isSome] else resV z res)) w:=by
        simp only [execOp,hop,Sem.run_bind,run_lookup (ok:=ok) hu hget hck hfind hzrun,Result.andThen_ok,Sem.run_pure]
      cases hm:mpos (eqB A) es k with
      | none =>
        simp only [FoundR,hm] at hfound
        subst hfound
        have hnf:mfind (eqB A) es k = none:=by rw [mfind_pos,hm]; rfl
        have hrun:=run1
        simp only [resV,Option.isSome_none] at hrun
        have hzpv:PRel h.c (zeroPV B) z:=by
          unfold zeroPV
          split
          · rename_i hzer
            exact PRel_iv_one hoB (zero_repV hzo hzer hvB) hvB
          · split
            · rename_i cs hcs
              exact zeroJoin_rel hzo hvB hcs hzs
            · simp only [PRel]
        split at hout
        · rename_i hzer
          rw [hnf] at hout
          refine h.val ho hrun ?_ hout
          simp only [Option.getD_none,Bool.false_eq_true,if_false]
          exact PRel_iv_one hoB (zero_repV hzo hzer hvB) hvB
        · exact h.val ho hrun (by simpa using hzpv) (hout.2 hnf)
        · refine h.val ho hrun ?_ (hout.2 hnf)
          have h2:PRel h.c (.iv .bool false) (.bool false):=PRel_bool
          simp only [if_true]
          exact PRel_tup (PRels_two hzpv h2)
        · obtain ⟨v,hv,_⟩:=hout
          rw [hnf] at hv; cases hv
        · rename_i hzer _
          rw [hnf] at hout
          refine h.val ho hrun ?_ hout
          have h2:PRel h.c (.iv .bool false) (.bool false):=PRel_bool
          simp only [if_true]
          exact PRel_tup (PRels_two (PRel_iv_one hoB (zero_repV hzo hzer hvB) hvB) h2)
        · obtain ⟨v,hv,_⟩:=hout
          rw [hnf] at hv; cases hv
      | some j =>
        simp only [FoundR,hm] at hfound
        obtain ⟨e,he,rfl⟩:=hfound
        obtain ⟨yy,hyy,_⟩:=mpos_lt _ _ _ _ hm
        have hff:mfind (eqB A) es k = some yy.2:=by rw [mfind_pos,hm]; simp [hyy]
        have hev:RepV B yy.2 w ⟨S,own0 w0 S0⟩ e.val:=by
          have at_:∀ (es:List (A.den × B.den)) (l:List MapEntry) (j:Nat) (yy:A.den × B.den) (e:MapEntry),EntR w ⟨S,own0 w0 S0⟩ A B es l → es[j]? = some yy → l[j]? = some e → RepV B yy.2 w ⟨S,own0 w0 S0⟩ e.val:=by
            intro es
            induction es with
            | nil => intro l j yy e _ h1; simp at h1
            | cons p es ih =>
              intro l j yy e hl h1 h2
              cases l with
              | nil => exact hl.elim
              | cons q l =>
                cases j with
                | zero =>
                  simp only [List.getElem?_cons_zero,Option.some.injEq] at h1 h2
                  subst h1; subst h2
                  obtain ⟨⟨ca,cb,_,_,h3,h4⟩,_⟩:=hl
                  rw [h3]
                  exact repV_val hvB h4
                | succ j => exact ih l j yy e hl.2 (by simpa using h1) (by simpa using h2)
          exact at_ es l j yy e hl hyy he
        have hrun:=run1
        simp only [resV,Option.isSome_some] at hrun
        have hpv:PRel h.c (.iv B yy.2) e.val:=PRel_iv_one hoB hev hvB
        split at hout
        · rename_i hzer
          rw [hff] at hout
          exact h.val ho hrun (by simpa using hpv) hout
        · exact h.val ho hrun (by simpa using hpv) (hout.1 _ hff)
        · refine h.val ho hrun ?_ (hout.1 _ hff)
          have h2:PRel h.c (.iv .bool true) (.bool true):=PRel_bool
          simp only [if_true]
          exact PRel_tup (PRels_two hpv h2)
        · obtain ⟨v,hv,hk'⟩:=hout
          rw [hff] at hv
          injection hv with hv
          subst hv
          exact h.val ho hrun (by simpa using hpv) hk'
        · rw [hff] at hout
          refine h.val ho hrun ?_ hout
          have h2:PRel h.c (.iv .bool true) (.bool true):=PRel_bool
          simp only [if_true]
          exact PRel_tup (PRels_two hpv h2)
        · obtain ⟨v,hv,hk'⟩:=hout
          rw [hff] at hv
          injection hv with hv
          subst hv
          refine h.val ho hrun ?_ hk'
          have h2:PRel h.c (.iv .bool true) (.bool true):=PRel_bool
          simp only [if_true]
          exact PRel_tup (PRels_two hpv h2)
    · exact hout.elim
  · exact hout.elim

theorem repV_back {T:Ty} {x:T.den} {M:Mem} {v:Value} (hT:T.val = true) (h:RepV T x w M v):v = valOf T v.cells.toList ∧ RepC T x w M v.cells.toList:=by
  refine ⟨?_,RepV_cells hT h⟩
  cases T with
  | st t => obtain ⟨vs,rfl,_⟩:=h; rfl
  | unit => cases hT
  | pair a b => cases hT
  | tup a b => cases hT
  | _ =>
    have hr:=RepV_cells hT h
    have hl:=RepC_len _ _ _ _ _ hr
    simp only [Ty.cells] at hl
    have h1:=RepC_one _ _ _ _ _ h v (List.mem_singleton.2 rfl)
    cases v <;> first | rfl | (simp [Value.oneCell'] at h1; done)

theorem grownBy_set (w:World) (r:Nat) (o:Obj):GrownD w { w with heap:=w.heap.setIfInBounds r o } (some r) :=
  ⟨rfl,rfl,rfl,by simp,fun k _ hk => by
    have hkr:r ≠ k:=fun e => hk (by rw [e])
    simp [hkr],fun _ => Nat.le_refl _⟩

theorem EntR_mono {w w':World} {M M':Mem} {A B:Ty} (hA:owns A = 0) (hB:owns B = 0) (hw:∀ b,M.S b → w'.heap[b]? = w.heap[b]?) (hS:∀ b,M.S b → M'.S b):∀ (es:List (A.den × B.den)) (l:List MapEntry),EntR w M A B es l → EntR w' M' A B es l
  | [],[],_ => trivial
  | [],_ :: _,h => h.elim
  | _ :: _,[],h => h.elim
  | y :: es,e :: l,h => by
    obtain ⟨⟨ca,cb,h1,h2,h3,h4⟩,h5⟩:=h
    exact ⟨⟨ca,cb,h1,RepC_mono hw hS _ _ _ hA h2,h3,RepC_mono hw hS _ _ _ hB h4⟩,EntR_mono hA hB hw hS es l h5⟩
theorem EntR_len {w:World} {M:Mem} {A B:Ty}:∀ (es:List (A.den × B.den)) (l:List MapEntry),EntR w M A B es l → l.length = es.length
  | [],[],_ => rfl
  | [],_ :: _,h => h.elim
  | _ :: _,[],h => h.elim
  | y :: es,e :: l,h => by simp [EntR_len es l h.2]
theorem EntR_at {w:World} {M:Mem} {A B:Ty}:∀ (es:List (A.den × B.den)) (l:List MapEntry),EntR w M A B es l → ∀ (i:Nat) (y:A.den × B.den),es[i]? = some y → ∃ (e:MapEntry) (ca cb:List Value),l[i]? = some e ∧ e.key = valOf A ca ∧ RepC A y.1 w M ca ∧ e.val = valOf B cb ∧ RepC B y.2 w M cb
  | [],[],_,i,y,hy => by simp at hy
  | [],_ :: _,h,_,_,_ => h.elim
  | _ :: _,[],h,_,_,_ => h.elim
  | y :: es,e :: l,h,i,z,hz => by
    cases i with
    | zero =>
      simp only [List.getElem?_cons_zero,Option.some.injEq] at hz
      subst hz
      obtain ⟨⟨ca,cb,h1⟩,_⟩:=h
      exact ⟨e,ca,cb,rfl,h1⟩
    | succ i => simpa using EntR_at es l h.2 i z (by simpa using hz)
theorem EntR_set {w:World} {M:Mem} {A B:Ty} {y:A.den × B.den} {f:MapEntry} (hf:∃ ca cb,f.key = valOf A ca ∧ RepC A y.1 w M ca ∧ f.val = valOf B cb ∧ RepC B y.2 w M cb):∀ (es:List (A.den × B.den)) (l:List MapEntry) (i:Nat),EntR w M A B es l → EntR w M A B (es.set i y) (l.set i f)
  | [],[],_,_ => trivial
  | [],_ :: _,_,h => h.elim
  | _ :: _,[],_,h => h.elim
  | z :: es,e :: l,i,h => by
    cases i with
    | zero => exact ⟨hf,h.2⟩
    | succ i => exact ⟨h.1,EntR_set hf es l i h.2⟩
theorem EntR_push {w:World} {M:Mem} {A B:Ty} {y:A.den × B.den} {f:MapEntry} (hf:∃ ca cb,f.key = valOf A ca ∧ RepC A y.1 w M ca ∧ f.val = valOf B cb ∧ RepC B y.2 w M cb):∀ (es:List (A.den × B.den)) (l:List MapEntry),EntR w M A B es l → EntR w M A B (es ++ [y]) (l ++ [f])
  | [],[],_ => ⟨hf,trivial⟩
  | [],_ :: _,h => h.elim
  | _ :: _,[],h => h.elim
  | z :: es,e :: l,h => ⟨h.1,EntR_push hf es l h.2⟩

theorem op_mapUpdate (hE:EnvOK E) (h:Full n w0 S0 s a w ν S) (ho:opOK n o = true) {t:Nat} {x y z:Operand} (hop:o.op = .mapUpdate t x y z ∨ o.op = .insert t x y z) (hout:OutK E (stepF E F s o) (fun l => K (s.fin o.dst l))):o.wp E.P a w (fun a' w' => ∃ s',K s' ∧ Rel n w0 S0 s' a' w') Q:=by
  have hout:OutK E (match o.dst with | none => mapUpdateO E F s.bl t (s.ev x) (s.ev y) (s.ev z) | some _ => .fail 79) (fun l => K (s.fin o.dst l)):=by
    cases hd:o.dst with
    | none => rcases hop with hop | hop <;> (simp only [stepF,hop,hd] at hout; exact hout)
    | some d => rcases hop with hop | hop <;> (simp only [stepF,hop,hd] at hout; exact hout)
  have mem:∀ u,u = x ∨ u = y ∨ u = z → constOK u = true:=by
    intro u hu
    refine opOK_arg ho ?_
    rcases hop with hop | hop <;> rcases hu with rfl | rfl | rfl <;> simp [hop,Op.operands]
  have hx:=h.ev (mem x (.inl rfl))
  have hy:=h.ev (mem y (.inr (.inl rfl)))
  have hz:=h.ev (mem z (.inr (.inr rfl)))
  have hexec:∀ w',(Instr.mapUpdate t (a.eval x) (a.eval y) (a.eval z)).run E.P w = .ok () w' → (execOp a.eval o).run E.P w = .ok .skip w':=by
    intro w' hr
    rcases hop with hop | hop <;> simp only [execOp,hop,Sem.run_bind,hr,Result.andThen_ok,Sem.run_pure]
  split at hout
  · rename_i hd
    simp only [mapUpdateO] at hout
    split at hout
    · rename_i A B kt hT hkt
      split at hout
      · rename_i id hev
        split at hout
        · rename_i A' B' zs hl
          obtain ⟨hl,_⟩:=lk_some hl
          split at hout
          · rename_i es k v hcast hk hkey hr1 hr2 hr3 hr4 hv
            obtain ⟨e',hx'⟩:=Ty.cast_some hcast
            injection e' with e1 e2
            subst e1; subst e2
            simp only at hx'
            subst hx'
            obtain ⟨hlen,hK⟩:=hout
            obtain ⟨k',ve,hu,hTA,hTB,hvA,hvB,hoA,hoB⟩:=map_ty hE hT
            have hkk:=map_key hE hkt hu
            subst hkk
            obtain ⟨hp,hek,hdep,_⟩:=keyT_plain hkey
            have hkv:=h.key hkey hk hy ⟨S,own0 w0 S0⟩
            have hvv:RepV _ v w ⟨S,own0 w0 S0⟩ (a.eval z):=h.expNo hoB hr3 hr4 hv hz
            rw [hev] at hx
            simp only [PRel] at hx
            obtain ⟨_,hxv,_⟩:=hx
            obtain ⟨hok,hov,h0,r,ents,clock,h1,h2,h3,h4,h5,h6,h7⟩:=h.W.blk _ _ hl
            simp only [Full.c] at hxv
            simp only at h1 h2 h3 h4
            have hl7:=EntR_of (w:=w) (M:=⟨S,own0 w0 S0⟩) zs ents.toList (by simpa using h6) (by simpa using h7)
            obtain ⟨res,hfind,hfound⟩:=find_run hE (V:=B') hTA hkey hkv zs ents.toList hl7
            have hck:∀ em,(Instr.checkKey em 10000 kt (a.eval y)).run E.P w = .ok () w:=fun em => check_run hE 9999 _ kt k _ hTA hek hkv (by omega) em
            have hbl:blockOf (ν id) = some r:=by rw [h1]; rfl
            have hf:∀ bb:Nat,∃ ca cb,(⟨a.eval y,a.eval z,bb⟩:MapEntry).key = valOf A' ca ∧ RepC A' k w ⟨S,own0 w0 S0⟩ ca ∧ (⟨a.eval y,a.eval z,bb⟩:MapEntry).val = valOf B' cb ∧ RepC B' v w ⟨S,own0 w0 S0⟩ cb:=fun bb => by
              obtain ⟨g1,g2⟩:=repV_back hvA hkv
              obtain ⟨g3,g4⟩:=repV_back hvB hvv
              exact ⟨_,_,g1,g2,g3,g4⟩
            -- behind the store
            have fin:∀ (ents':Array MapEntry) (clock':Nat),(Instr.mapUpdate t (a.eval x) (a.eval y) (a.eval z)).run E.P w = .ok () { w with heap:=w.heap.setIfInBounds r (.map ents' clock') } → Births ents' clock' → EntR w ⟨S,own0 w0 S0⟩ A' B' (mset (eqB A') zs k v) ents'.toList →
                o.wp E.P a w (fun a' w' => ∃ s',K s' ∧ Rel n w0 S0 s' a' w') Q:=by
              intro ents' clock' hrun hb' hr'
              refine wp_of_skip (hexec _ hrun) ⟨_,hK,?_⟩
              rw [hd]
              have hgr:=grownBy_set w r (.map ents' clock')
              have hS:∀ b,S b → ({ w with heap:=w.heap.setIfInBounds r (.map ents' clock') }:World).heap[b]? = w.heap[b]?:=fun b hb => hgr.block b (h.W.lt b hb) (fun e => by injection e with e; subst e; exact h3 hb)
              have hh':({ w with heap:=w.heap.setIfInBounds r (.map ents' clock') }:World).heap[r]? = some (.map ents' clock'):=(MapKept.heap_set h4).1
              have hr2':=EntR_mono (M:=⟨S,own0 w0 S0⟩) (M':=⟨S,own0 w0 S0⟩) hok hov hS (fun _ h => h) _ _ hr'
              refine (h.upd (b':=.mp A' B' (mset (eqB A') zs k v)) hl (by rw [hbl]; exact hgr) ?_).rel
              exact ⟨hok,hov,hlen,r,ents',clock',h1,h2,h3,hh',hb',by simpa using EntR_len _ _ hr2',fun i yy hyy => by simpa using EntR_at _ _ hr2' i yy hyy⟩
            cases hm:mpos (eqB A') zs k with
            | none =>
              simp only [FoundR,hm] at hfound
              subst hfound
              refine fin (ents.push ⟨a.eval y,a.eval z,clock⟩) (clock + 1) ?_ ?_ ?_
              · rw [hxv,h1]
                simp [Instr.mapUpdate,run_underlying hu,MapKept.run_getObj_map h4,hck,hfind,MapKept.run_setObj_map _ h4]
              · obtain ⟨hc,hb⟩:=h5
                subst hc
                refine ⟨by simp,fun i e hi => ?_⟩
                rw [Array.getElem?_push] at hi
                split at hi
                · rename_i hil
                  injection hi with hi
                  subst hi
                  exact hil.symm
                · exact hb i e hi
              · rw [mset_pos,hm]
                simp only [Array.toList_push]
                exact EntR_push (hf clock) zs ents.toList hl7
            | some j =>
              simp only [FoundR,hm] at hfound
              obtain ⟨e,he,rfl⟩:=hfound
              obtain ⟨yy,hyy,heq⟩:=mpos_lt _ _ _ _ hm
              have heq:=(eqB_iff _ _ _ hp).1 heq
              have he':ents[j]? = some e:=by simpa using he
              obtain ⟨e2,ca,cb,g1,g2,g3,g4,g5⟩:=EntR_at zs ents.toList hl7 j yy hyy
              rw [he] at g1
              injection g1 with g1
              subst g1
              have hkeq:e.key = a.eval y:=by
                refine valOf_key (M:=⟨S,own0 w0 S0⟩) (w:=w) hp hvA (x:=yy.1) (y:=k) ?_ hkv heq.symm
                rw [g2]; exact repV_val hvA g3
              refine fin (ents.modify j fun e => { e with key:=a.eval y,val:=a.eval z }) clock ?_ ?_ ?_
              · rw [hxv,h1]
                simp [Instr.mapUpdate,run_underlying hu,MapKept.run_getObj_map h4,hck,hfind,he',hkeq,keyStays_run hp hvA hkv,MapKept.run_setObj_map _ h4]
              · obtain ⟨hc,hb⟩:=h5
                refine ⟨by simpa using hc,fun i e2 hi => ?_⟩
                rw [Array.getElem?_modify] at hi
                split at hi
                · rename_i hij
                  subst hij
                  rw [he'] at hi
                  simp only [Option.map_some,Option.some.injEq] at hi
                  subst hi
                  exact hb _ e he'
                · exact hb i e2 hi
              · rw [mset_pos,hm]
                have hset:(ents.modify j fun e => { e with key:=a.eval y,val:=a.eval z }).toList = ents.toList.set j ⟨a.eval y,a.eval z,e.born⟩:=by
                  apply List.ext_getElem?
                  intro i
                  rw [Array.getElem?_toList,Array.getElem?_modify,List.getElem?_set]
                  by_cases hij:j = i
                  · subst hij
                    have hjl:j < ents.toList.length:=(List.getElem?_eq_some_iff.1 he).1
                    rw [he',if_pos rfl,if_pos rfl,if_pos hjl]
                    rfl
                  · simp [hij]
                rw [hset]
                exact EntR_set (hf e.born) zs ents.toList j hl7
          · exact hout.elim
        · exact hout.elim
      · exact hout.elim
    · exact hout.elim
  · exact hout.elim
end
end Go.Proofs.Ytefpgfdemmllpaa
namespace Go.Proofs.Ytefpgfdemmllpaa
open Go.RowKit

section
variable {E:Env} {n:Nat} {w0:World} {S0:Cx} {s:St} {a:Act} {w:World} {ν:Nat → Value} {S:Nat → Prop} {F:Reg} {o:Oper} {K:St → Prop} {Q:Exit → Act → World → Prop}

theorem decode_max (s:ByteArray) (i:Nat):(Utf8.decode s i).1 ≤ 1114111:=by
  have hv:∀ c:Nat,Utf8.valid (c:Int) = true → c ≤ 1114111:=by
    intro c h
    unfold Utf8.valid at h
    simp only [Bool.or_eq_true,Bool.and_eq_true,decide_eq_true_eq] at h
    omega
  unfold Utf8.decode
  simp only
  split
  · simp only; omega
  · split
    · split
      · simp only; omega
      · simp only [Utf8.runeError]; omega
    · split
      · split
        · rename_i h
          simp only [Bool.and_eq_true] at h
          exact hv _ h.2
        · simp only [Utf8.runeError]; omega
      · split
        · split
          · rename_i h
            simp only [Bool.and_eq_true] at h
            exact hv _ h.2
          · simp only [Utf8.runeError]; omega
        · simp only [Utf8.runeError]; omega

theorem Full.newIt (h:Full n w0 S0 s a w ν S) {d:Nat} (hd:d < n) (hl:look d s.bl = none) {ob:Obj} {b:Blk}
    (hb:∀ c:Ctx,c.ν d = .pointer (some ⟨w.heap.size,0,none⟩) → c.M.O w.heap.size → ¬ c.M.S w.heap.size → c.w.heap[w.heap.size]? = some ob → Ctx.Le h.c c → BRel c d b) :
    Rel n w0 S0 ⟨(d,.ref d 0) :: s.sl,(d,b) :: s.bl⟩ (a.put (some d) (.pointer (some ⟨w.heap.size,0,none⟩))) (w.alloc ob):=by
  have hh:(w.alloc ob).heap[w.heap.size]? = some ob:=_root_.Go.heap_alloc_new w _
  refine (h.new (b:=b) (p:=.ref d 0) (v:=.pointer (some ⟨w.heap.size,0,none⟩)) (val:=.pointer (some ⟨w.heap.size,0,none⟩)) hd hl (grownD_alloc w _ none) (fun g hg => h.beyond (by injection hg with hg; simp only at hg; omega)) ?_ ?_).rel
  · refine hb _ (by simp) (h.W.size _ (Nat.le_refl _)) (fun hS => absurd (h.W.lt _ hS) (by simp)) hh ⟨fun g hg => ?_,fun _ h => h,fun i hi => ?_,fun i hi => ?_⟩
    · exact (grownD_alloc w ob none).block g (h.W.lt g hg) (by simp)
    · obtain ⟨c,hc⟩:=hi
      have hne:i ≠ d:=by rintro rfl; rw [hl] at hc; cases hc
      exact ⟨c,by rw [look_cons_ne _ _ hne]; exact hc⟩
    · obtain ⟨c,hc⟩:=hi
      have hne:i ≠ d:=by rintro rfl; rw [hl] at hc; cases hc
      simp [Full.c,hne]
  · simp only [PRel]
    exact ⟨⟨_,look_cons_self _ _ _⟩,w.heap.size,by simp,rfl⟩

theorem op_range (hE:EnvOK E) (h:Full n w0 S0 s a w ν S) (ho:opOK n o = true) {t:Nat} {x:Operand} (hop:o.op = .range t x) (hout:OutK E (stepF E F s o) (fun l => K (s.fin o.dst l))):o.wp E.P a w (fun a' w' => ∃ s',K s' ∧ Rel n w0 S0 s' a' w') Q:=by
  simp only [stepF,hop] at hout
  have hx:=h.ev (opOK_arg ho (x:=x) (by simp [hop,Op.operands]))
  split at hout
  · rename_i d hd
    split at hout
    · rename_i hl
      have hdn:=opOK_dst ho d hd
      simp only [rangeO] at hout
      split at hout
      · rename_i hT
        obtain ⟨dd,hu,hs⟩:=(hE.facts hT).und
        have hdd:dd = .string:=by cases dd <;> first | rfl | cases hs
        subst hdd
        split at hout
        · rename_i y hev
          rw [hev] at hx
          obtain ⟨hv,hlen⟩:=PRel_val_str hx
          simp only [OutK,St.fin,hd] at hout
          have hr:(execOp a.eval o).run E.P w = .ok (.value (.pointer (some ⟨w.heap.size,0,none⟩))) (w.alloc (.stringIter ⟨y.toArray⟩ 0)):=by
            simp only [execOp,hop,Instr.range,hv,Sem.run_bind,run_underlying hu,Result.andThen_ok,Sem.run_pure]
            rfl
          refine wp_of_val hr ⟨_,hout,?_⟩
          rw [hd]
          exact h.newIt hdn hl fun c h1 h2 h3 h4 _ => ⟨_,h1,h2,h3,h4,hlen⟩
        · exact hout.elim
      · rename_i A B hT
        obtain ⟨k,v,hu,_,_,_,_,hoA,hoB⟩:=map_ty hE hT
        split at hout
        · rename_i es hes
          have hent:=h.entries hes hx
          have go:∀ (src:PV),PRel h.c src (a.eval x) → K ⟨(d,.ref d 0) :: s.sl,(d,.it [src] es.length []) :: s.bl⟩ → o.wp E.P a w (fun a' w' => ∃ s',K s' ∧ Rel n w0 S0 s' a' w') Q:=by
            intro src hsrc hK
            obtain ⟨m,hm,hr⟩:∃ m:Option Nat,a.eval x = .map m ∧ (execOp a.eval o).run E.P w = .ok (.value (.pointer (some ⟨w.heap.size,0,none⟩))) (w.alloc (.mapIter m es.length #[] es.length)):=by
              rcases hent with ⟨hv,rfl⟩ | ⟨r,ents,clock,hv,hh,hb,hs,_⟩
              · refine ⟨none,hv,?_⟩
                simp only [execOp,hop,Instr.range,hv,Sem.run_bind,run_underlying hu,Result.andThen_ok,Sem.run_pure]
                rfl
              · refine ⟨some r,hv,?_⟩
                have hc:clock = es.length:=hb.1.trans hs
                subst hc
                simp only [execOp,hop,Instr.range,hv,Sem.run_bind,run_underlying hu,MapKept.run_getObj_map hh,Result.andThen_ok,Sem.run_pure]
                rfl
            refine wp_of_val hr ⟨_,hK,?_⟩
            rw [hd]
            refine h.newIt hdn hl fun c h1 h2 h3 h4 hle => ⟨_,m,h1,h2,h3,h4,?_⟩
            simp only [PRels]
            exact ⟨_,[],rfl,PRel_mono hle (by rw [← hm]; exact hsrc),rfl⟩
          split at hout
          · rename_i K' V' y hev
            simp only [OutK,St.fin,hd] at hout
            exact go _ (by rw [← hev]; exact hx) hout
          · rename_i id hev
            simp only [OutK,St.fin,hd] at hout
            exact go _ (by rw [← hev]; exact hx) hout
          · exact hout.elim
        · exact hout.elim
      · exact hout.elim
    · exact hout.elim
  · exact hout.elim

theorem Full.behind (h:Full n w0 S0 s a w ν S) {src:List PV} {m:Option Nat} {A B:Ty} {es:List (A.den × B.den)} (hx:itEntries E F s.bl src = some ⟨A,B,es⟩) (hp:PRels h.c src [.map m]) :
    owns A = 0 ∧ owns B = 0 ∧ A.val = true ∧ B.val = true ∧ ((m = none ∧ es = []) ∨ ∃ (r:Nat) (ents:Array MapEntry) (clock:Nat),m = some r ∧ w.heap[r]? = some (.map ents clock) ∧ Births ents clock ∧ EntR w ⟨S,own0 w0 S0⟩ A B es ents.toList):=by
  unfold itEntries at hx
  split at hx
  · rename_i K' V' ys
    split at hx
    case h_2 => cases hx
    rename_i hvK hvV
    injection hx with hx
    injection hx with e1 e2
    subst e1
    have e2:=eq_of_heq e2
    injection e2 with e2 e3
    subst e2
    have e3:=eq_of_heq e3
    subst e3
    simp only [PRels,PRel] at hp
    obtain ⟨v,r,hv,⟨ho,hr⟩,_⟩:=hp
    injection hv with hv
    subst hv
    simp only [owns] at ho
    refine ⟨by omega,by omega,hvK,hvV,?_⟩
    have hr:RepC (.mp K' V') ys w ⟨S,own0 w0 S0⟩ [.map m]:=hr
    rcases hr.2 with ⟨hv,he⟩ | ⟨r,ents,clock,hv,hS,hh,hb,hs,hr⟩
    · injection hv with hv; injection hv with hv
      exact .inl ⟨hv,he⟩
    · injection hv with hv; injection hv with hv
      exact .inr ⟨r,ents,clock,hv,hh,hb,EntR_of _ _ (by simpa using hs) (by simpa using hr)⟩
  · rename_i id
    split at hx
    · rename_i K' V' ys hl
      obtain ⟨hl,_⟩:=lk_some hl
      split at hx
      case h_2 => cases hx
      rename_i hvK hvV
      injection hx with hx
      injection hx with e1 e2
      subst e1
      have e2:=eq_of_heq e2
      injection e2 with e2 e3
      subst e2
      have e3:=eq_of_heq e3
      subst e3
      simp only [PRels,PRel] at hp
      obtain ⟨v,r,hv,⟨_,hν,_⟩,_⟩:=hp
      injection hv with hv
      subst hv
      obtain ⟨hok,hov,h0,r,ents,clock,h1,h2,h3,h4,h5,h6,h7⟩:=h.W.blk _ _ hl
      refine ⟨hok,hov,hvK,hvV,.inr ⟨r,ents,clock,?_,h4,h5,EntR_of _ _ (by simpa using h6) (by simpa using h7)⟩⟩
      simp only [Full.c] at hν
      simp only at h1
      rw [h1] at hν
      injection hν
    · cases hx
  · cases hx

theorem op_next (hE:EnvOK E) (h:Full n w0 S0 s a w ν S) (ho:opOK n o = true) {x:Operand} {isS:Bool} (hop:o.op = .next x isS) (hout:OutK E (stepF E F s o) (fun l => K (s.fin o.dst l))):o.wp E.P a w (fun a' w' => ∃ s',K s' ∧ Rel n w0 S0 s' a' w') Q:=by
  simp only [stepF,hop,nextO] at hout
  have hx:=h.ev (opOK_arg ho (x:=x) (by simp [hop,Op.operands]))
  split at hout
  · rename_i id hev
    rw [hev] at hx
    simp only [PRel] at hx
    obtain ⟨_,g,hg,hv⟩:=hx
    simp only [Full.c] at hg
    -- behind a step: the iterator's block is written,the slot too
    have upd:∀ {b b':Blk} {w':World} {p:PV} {v:Value},look id s.bl = some b → GrownD w w' (some g) → BRel ⟨ν,s.D,w',⟨S,own0 w0 S0⟩⟩ id b' → PRel ⟨ν,s.D,w',⟨S,own0 w0 S0⟩⟩ p v → K (s.fin o.dst (.upd id b' p)) →
        (execOp a.eval o).run E.P w = .ok (.value v) w' → o.wp E.P a w (fun a' w' => ∃ s',K s' ∧ Rel n w0 S0 s' a' w') Q:=by
      intro b b' w' p v hl hw hb hp hK hrun
      refine wp_of_val hrun ⟨_,hK,?_⟩
      have hu:=h.upd (b':=b') hl (by rw [hg]; exact hw) hb
      have hD:(⟨s.sl,(id,b') :: s.bl⟩:St).D = s.D:=by
        funext i
        refine propext ⟨fun ⟨c,hc⟩ => ?_,fun ⟨c,hc⟩ => ?_⟩
        · by_cases hi:i = id
          · subst hi; exact ⟨b,hl⟩
          · rw [look_cons_ne _ _ hi] at hc; exact ⟨c,hc⟩
        · by_cases hi:i = id
          · subst hi; exact ⟨b',look_cons_self _ _ _⟩
          · exact ⟨c,by rw [look_cons_ne _ _ hi]; exact hc⟩
      have hp':=hu.put (p:=p) (v:=v) (opOK_dst ho) (by simp only [Full.c,hD]; exact hp)
      have hfin:s.fin o.dst (.upd id b' p) = (⟨s.sl,(id,b') :: s.bl⟩:St).put o.dst p:=by
        simp only [St.fin]
        cases o.dst <;> rfl
      rw [hfin]
      exact hp'.rel
    have over:(Instr.next (a.eval x) isS o.type).run E.P w = .ok (.tuple #[.bool false]) w → K (s.fin o.dst (.val (.tup [.iv .bool false]))) → o.wp E.P a w (fun a' w' => ∃ s',K s' ∧ Rel n w0 S0 s' a' w') Q:=by
      intro hr hK
      refine h.val ho (v:=.tuple #[.bool false]) ?_ ?_ hK
      · simp only [execOp,hop,Sem.run_bind,hr,Result.andThen_ok,Sem.run_pure]
      · exact PRel_tup (vs:=[.bool false]) (by simp only [PRels]; exact ⟨_,[],rfl,PRel_bool,rfl⟩)
    have exec:∀ v w',(Instr.next (a.eval x) isS o.type).run E.P w = .ok v w' → (execOp a.eval o).run E.P w = .ok (.value v) w':=fun v w' hr => by
      simp only [execOp,hop,Sem.run_bind,hr,Result.andThen_ok,Sem.run_pure]
    split at hout
    · rename_i y pos hl
      obtain ⟨hl,_⟩:=lk_some hl
      obtain ⟨g',h1,h2,h3,h4,h5⟩:=h.W.blk _ _ hl
      simp only at h1 h2 h3 h4
      rw [hg] at h1
      obtain rfl:g = g':=by injection h1 with e1; injection e1 with e1; injection e1
      split at hout
      · obtain ⟨ho1,ho2⟩:=hout
        have hsz:(⟨y.toArray⟩:ByteArray).size = y.length:=by simp [ByteArray.size]
        have hgo:∀ o',(setObj g o').run E.P w = .ok () { w with heap:=w.heap.setIfInBounds g o' }:=fun o' => by simp [setObj,Sem.run,h4]
        by_cases hp:pos < y.length
        · have hK:=ho1 hp
          have hd:=decode_max ⟨y.toArray⟩ pos
          refine upd hl (grownBy_set w g (.stringIter ⟨y.toArray⟩ (pos + (Utf8.decode ⟨y.toArray⟩ pos).2))) ?_ ?_ hK (exec (.tuple #[.bool true,.int .i64 (pos:Int),.int .i32 ((Utf8.decode ⟨y.toArray⟩ pos).1:Int)]) _ ?_)
          · exact ⟨g,hg,h2,h3,(MapKept.heap_set h4).1,h5⟩
          · refine PRel_tup (vs:=[.bool true,.int .i64 (pos:Int),.int .i32 ((Utf8.decode ⟨y.toArray⟩ pos).1:Int)]) ?_
            simp only [PRels]
            exact ⟨_,_,rfl,PRel_bool,_,_,rfl,PRel_int (by show (-9223372036854775808:Int) ≤ _ ∧ _ ≤ (9223372036854775807:Int); omega),_,_,rfl,PRel_int (by show (-2147483648:Int) ≤ _ ∧ _ ≤ (2147483647:Int); omega),rfl⟩
          · simp only [hv,Instr.next,Sem.run_bind]
            rw [show (getObj g).run E.P w = .ok (.stringIter ⟨y.toArray⟩ pos) w from by simp [getObj,Sem.run,h4]]
            simp only [Result.andThen_ok,hsz,hp,if_true,Sem.run_bind,hgo,Sem.run_pure]
            rfl
        · refine over ?_ (ho2 (by omega))
          simp only [hv,Instr.next,Sem.run_bind]
          rw [show (getObj g).run E.P w = .ok (.stringIter ⟨y.toArray⟩ pos) w from by simp [getObj,Sem.run,h4]]
          simp only [Result.andThen_ok,hsz,hp,if_false,Sem.run_pure]
      · exact hout.elim
    · rename_i src since seen hl
      obtain ⟨hl,_⟩:=lk_some hl
      obtain ⟨g',m,h1,h2,h3,h4,h6⟩:=h.W.blk _ _ hl
      simp only at h1 h2 h3 h4
      rw [hg] at h1
      obtain rfl:g = g':=by injection h1 with e1; injection e1 with e1; injection e1
      split at hout
      · rename_i A B es hes
        obtain ⟨hsince,ho1,ho2⟩:=hout
        obtain ⟨hoA,hoB,hvA,hvB,hcase⟩:=h.behind hes h6
        rcases hcase with ⟨rfl,rfl⟩ | ⟨r,ents,clock,rfl,hh,hb,hr⟩
        · refine over ?_ (ho2 (fun i hi => by simp at hi))
          simp only [hv,Instr.next,Sem.run_bind]
          rw [show (getObj g).run E.P w = .ok (.mapIter none since seen.toArray since) w from by simp [getObj,Sem.run,h4]]
          simp only [Result.andThen_ok,Sem.run_pure]
        · have hlen:=EntR_len _ _ hr
          have hsz:ents.size = es.length:=by simpa using hlen
          obtain ⟨hclock,hborn⟩:=hb
          have hold:∀ y,y ∈ ents.toList → y.born < since:=fun y hy => by
            obtain ⟨i,hi⟩:=List.getElem?_of_mem hy
            have hi':ents[i]? = some y:=by simpa using hi
            rw [hborn i y hi',← hsince,← hsz]
            exact (Array.getElem?_eq_some_iff.1 hi').1
          have hleft:∀ y,y ∈ (leftOf ents seen.toArray).toList ↔ ∃ i,ents[i]? = some y ∧ i ∉ seen:=by
            intro y
            unfold leftOf
            simp only [Array.toList_filter,List.mem_filter,Array.mem_toList_iff]
            constructor
            · rintro ⟨h1,h2⟩
              obtain ⟨i,hi⟩:=Array.getElem?_of_mem h1
              refine ⟨i,hi,?_⟩
              rw [← hborn i y hi]
              simpa using h2
            · rintro ⟨i,hi,hn⟩
              refine ⟨Array.mem_of_getElem? hi,?_⟩
              rw [hborn i y hi]
              simpa using hn
          rcases run_next_at (P:=E.P) w o.type g r since since seen.toArray ents clock h4 hh hold (Nat.le_refl _) with ⟨h0,hrun⟩ | ⟨e,he,w1,hw1,hrun⟩
          · refine over (by rw [hv]; exact hrun) (ho2 fun i hi => ?_)
            by_cases hin:i ∈ seen
            · exact hin
            · exfalso
              have hil:i < ents.size:=by omega
              have:=(hleft ents[i]).2 ⟨i,by simp,hin⟩
              have hl0:(leftOf ents seen.toArray).toList = []:=List.eq_nil_of_length_eq_zero (by simpa using h0)
              rw [hl0] at this
              cases this
          · obtain ⟨i,hi,hin⟩:=(hleft e).1 he
            have hil:i < es.length:=by rw [← hsz]; exact (Array.getElem?_eq_some_iff.1 hi).1
            obtain ⟨yy,hyy⟩:∃ yy,es[i]? = some yy:=⟨_,List.getElem?_eq_getElem hil⟩
            have hK:=ho1 i ⟨hil,hin⟩ yy hyy
            obtain ⟨e2,ca,cb,g1,g2,g3,g4,g5⟩:=EntR_at es ents.toList hr i yy hyy
            have hi':ents.toList[i]? = some e:=by simpa using hi
            rw [hi'] at g1
            injection g1 with g1
            subst g1
            have hbe:=hborn i e hi
            have hgr:GrownD w (ChangeMaps.setBlock w1 g (.mapIter (some r) since (seen.toArray.push e.born) clock)) (some g):=by
              rcases hw1 with rfl | rfl
              · exact grownBy_set _ g _
              · refine ⟨rfl,rfl,rfl,by simp [ChangeMaps.setBlock],fun k _ hk => ?_,fun _ => ?_⟩
                · have hkr:g ≠ k:=fun e => hk (by rw [e])
                  show (w.drew.heap.setIfInBounds g _)[k]? = w.heap[k]?
                  rw [Array.getElem?_setIfInBounds_ne hkr]
                  rfl
                · exact Nat.le_succ _
            have hSg:∀ b,S b → (ChangeMaps.setBlock w1 g (.mapIter (some r) since (seen.toArray.push e.born) clock)).heap[b]? = w.heap[b]?:=fun b hb => hgr.block b (h.W.lt b hb) (fun e => by injection e with e; subst e; exact h3 hb)
            have hleC:Ctx.Le ⟨ν,s.D,w,⟨S,own0 w0 S0⟩⟩ ⟨ν,s.D,ChangeMaps.setBlock w1 g (.mapIter (some r) since (seen.toArray.push e.born) clock),⟨S,own0 w0 S0⟩⟩:=⟨hSg,fun _ h => h,fun _ h => h,fun _ _ => rfl⟩
            have hg1:w1.heap[g]? = some (.mapIter (some r) since seen.toArray since):=by rcases hw1 with rfl | rfl <;> exact h4
            have hcs:clock = since:=by omega
            refine upd hl hgr ?_ ?_ hK (exec _ _ (by rw [hv]; exact hrun))
            · refine ⟨g,some r,hg,h2,h3,?_,PRels_mono hleC h6⟩
              have:=(MapKept.heap_set (o':=Obj.mapIter (some r) since (seen.toArray.push e.born) clock) hg1).1
              rw [hbe,hcs] at this ⊢
              simpa [ChangeMaps.setBlock] using this
            · have hk:PRel h.c (.iv A yy.1) e.key:=PRel_iv_one hoA (by rw [g2]; exact repV_val hvA g3) hvA
              have hvv:PRel h.c (.iv B yy.2) e.val:=PRel_iv_one hoB (by rw [g4]; exact repV_val hvB g5) hvB
              refine PRel_tup (vs:=[.bool true,e.key,e.val]) ?_
              simp only [PRels]
              exact ⟨_,_,rfl,PRel_bool,_,_,rfl,PRel_mono hleC hk,_,_,rfl,PRel_mono hleC hvv,rfl⟩
      · exact hout.elim
    · exact hout.elim
  · exact hout.elim

theorem op_entry (hE:EnvOK E) (h:Full n w0 S0 s a w ν S) (ho:opOK n o = true) {x:Operand} (hop:o.op = .entry x) (hout:OutK E (stepF E F s o) (fun l => K (s.fin o.dst l))):o.wp E.P a w (fun a' w' => ∃ s',K s' ∧ Rel n w0 S0 s' a' w') Q:=by
  simp only [stepF,hop,entryO] at hout
  have hx:=h.ev (opOK_arg ho (x:=x) (by simp [hop,Op.operands]))
  split at hout
  · rename_i id hev
    rw [hev] at hx
    simp only [PRel] at hx
    obtain ⟨_,g,hg,hv⟩:=hx
    simp only [Full.c] at hg
    split at hout
    · rename_i src since seen hl
      obtain ⟨hl,_⟩:=lk_some hl
      obtain ⟨g',m,h1,h2,h3,h4,h6⟩:=h.W.blk _ _ hl
      simp only at h1 h2 h3 h4
      rw [hg] at h1
      obtain rfl:g = g':=by injection h1 with e1; injection e1 with e1; injection e1
      split at hout
      · rename_i A B es hes
        obtain ⟨hsince,yy,⟨i,hlast,hyy⟩,hK⟩:=hout
        obtain ⟨hoA,hoB,hvA,hvB,hcase⟩:=h.behind hes h6
        rcases hcase with ⟨_,rfl⟩ | ⟨r,ents,clock,rfl,hh,hb,hr⟩
        · simp at hyy
        · obtain ⟨ss,hss⟩:∃ ss,seen = ss ++ [i]:=List.getLast?_eq_some_iff.1 hlast
          have hlen:=EntR_len _ _ hr
          have hsz:ents.size = es.length:=by simpa using hlen
          obtain ⟨hclock,hborn⟩:=hb
          obtain ⟨e,ca,cb,g1,g2,g3,g4,g5⟩:=EntR_at es ents.toList hr i yy hyy
          have hi:ents[i]? = some e:=by simpa using g1
          have hbe:=hborn i e hi
          have hcs:since = clock:=by omega
          have hnd:(ents.toList.map (·.born)).Nodup:=by
            have:ents.toList.map (·.born) = List.range ents.size:=by
              apply List.ext_getElem
              · simp
              · intro j h1 h2
                simp only [List.getElem_map,List.getElem_range,Array.getElem_toList]
                exact hborn j _ (Array.getElem?_eq_getElem (by simpa using h1))
            rw [this]
            exact List.nodup_range
          have h4':w.heap[g]? = some (.mapIter (some r) since (ss.toArray.push e.born) clock):=by
            rw [h4,hss,hbe,← hcs]
            simp
          have hrun:=run_entry_at (P:=E.P) w g r since ss.toArray ents clock e h4' hh (Array.mem_toList_iff.2 (Array.mem_of_getElem? hi)) hnd
          refine h.val ho (v:=.tuple #[e.key,e.val]) ?_ ?_ hK
          · simp only [execOp,hop,hv,Sem.run_bind,hrun,Result.andThen_ok,Sem.run_pure]
          · have hk:PRel h.c (.iv A yy.1) e.key:=PRel_iv_one hoA (by rw [g2]; exact repV_val hvA g3) hvA
            have hvv:PRel h.c (.iv B yy.2) e.val:=PRel_iv_one hoB (by rw [g4]; exact repV_val hvB g5) hvB
            exact PRel_tup (PRels_two hk hvv)
      · exact hout.elim
    · exact hout.elim
  · exact hout.elim
end
end Go.Proofs.Ytefpgfdemmllpaa
namespace Go.Proofs.Ytefpgfdemmllpaa
open Go.RowKit

structure Ctx.LeR (ks:List Nat) (ρ:Nat → Nat) (c c':Ctx):Prop where
  heap:∀ b,c.M.S b → c'.w.heap[b]? = c.w.heap[b]?
  S:∀ b,c.M.S b → c'.M.S b
  D:∀ i,mem1 i ks = true → c.D i → c'.D (ρ i)
  ν:∀ i,mem1 i ks = true → c.D i → c'.ν (ρ i) = c.ν i

mutual
theorem PRel_ren {ks:List Nat} {ρ:Nat → Nat} {c c':Ctx} (hc:c.LeR ks ρ c'):∀ {p:PV} {v:Value},PV.inn ks p = true → PRel c p v → PRel c' (p.ren ρ) v
  | .iv T x,v,_,h => by simp only [PV.ren,PRel] at h ⊢; exact ⟨h.1,RepR_mono hc.heap hc.S h.1 h.2⟩
  | .ref id off,v,hi,h => by simp only [PV.ren,PRel] at h ⊢; obtain ⟨hd,g,h1,h2⟩:=h; exact ⟨hc.D _ hi hd,g,by rw [hc.ν _ hi hd]; exact h1,h2⟩
  | .eptr T x off,v,_,h => by
    simp only [PV.ren,PRel] at h ⊢
    obtain ⟨ho,g,o,cs,h1,h2,h3,h4,h5⟩:=h
    exact ⟨ho,g,o,cs,h1,hc.S _ h2,h3,h4.mono (hc.heap _ h2),RepC_mono hc.heap hc.S _ _ _ ho h5⟩
  | .lfull id,v,hi,h => by simp only [PV.ren,PRel] at h ⊢; exact ⟨hc.D _ hi h.1,by rw [hc.ν _ hi h.1]; exact h.2.1,h.2.2⟩
  | .lmap id,v,hi,h => by simp only [PV.ren,PRel] at h ⊢; exact ⟨hc.D _ hi h.1,by rw [hc.ν _ hi h.1]; exact h.2.1,h.2.2⟩
  | .lsl id sz off len,v,hi,h => by
    simp only [PV.ren,PRel] at h ⊢
    obtain ⟨hd,a,n,cap,b,h1,h2⟩:=h
    exact ⟨hc.D _ hi hd,a,n,cap,b,by rw [hc.ν _ hi hd]; exact h1,h2⟩
  | .lptr id sz i off,v,hi,h => by
    simp only [PV.ren,PRel] at h ⊢
    obtain ⟨hd,g,o,n,cap,h1,h2⟩:=h
    exact ⟨hc.D _ hi hd,g,o,n,cap,by rw [hc.ν _ hi hd]; exact h1,h2⟩
  | .agg cs,v,hi,h => by simp only [PV.ren,PRel] at h ⊢; obtain ⟨vs,h1,h0,h2⟩:=h; exact ⟨vs,h1,h0,PRels_ren hc hi h2⟩
  | .tup cs,v,hi,h => by simp only [PV.ren,PRel] at h ⊢; obtain ⟨vs,h1,h2⟩:=h; exact ⟨vs,h1,PRels_ren hc hi h2⟩
  | .nilsl,v,_,h => by simp only [PV.ren,PRel] at h ⊢; exact h
  | .nilptr,v,_,h => by simp only [PV.ren,PRel] at h ⊢; exact h
  | .aptr i base T n j,v,hi,h => by simp only [PV.ren,PRel] at h ⊢; obtain ⟨hd,h0,hn,g,h1,h2⟩:=h; exact ⟨hc.D _ hi hd,h0,hn,g,by rw [hc.ν _ hi hd]; exact h1,h2⟩
  | .bnd f cs,v,hi,h => by simp only [PV.ren,PRel] at h ⊢; obtain ⟨vs,h1,h2⟩:=h; exact ⟨vs,h1,PRels_ren hc hi h2⟩
  | .ifc f cs,v,hi,h => by simp only [PV.ren,PRel] at h ⊢; obtain ⟨vs,h1,h2⟩:=h; exact ⟨vs,h1,PRels_ren hc hi h2⟩
  | .clip T xs,v,_,h => by simp only [PV.ren,PRel] at h ⊢; exact ⟨h.1,h.2.1,RepC_mono hc.heap hc.S (.sl T) _ _ h.1 h.2.2⟩
  | .fn f cs,v,hi,h => by simp only [PV.ren,PRel] at h ⊢; obtain ⟨vs,h1,h2⟩:=h; exact ⟨vs,h1,PRels_ren hc hi h2⟩
  | .any,v,_,h => by simp only [PV.ren,PRel]
theorem PRels_ren {ks:List Nat} {ρ:Nat → Nat} {c c':Ctx} (hc:c.LeR ks ρ c'):∀ {ps:List PV} {vs:List Value},PV.innL ks ps = true → PRels c ps vs → PRels c' (PV.renL ρ ps) vs
  | [],vs,_,h => by simp only [PV.renL,PRels] at h ⊢; exact h
  | p :: ps,vs,hi,h => by
    simp only [PV.innL,Bool.and_eq_true] at hi
    simp only [PV.renL,PRels] at h ⊢
    obtain ⟨v,r,h1,h2,h3⟩:=h
    exact ⟨v,r,h1,PRel_ren hc hi.1 h2,PRels_ren hc hi.2 h3⟩
end

def blkIn (ks:List Nat):Blk → Bool
  | .box cs _ => PV.innL ks cs | .it cs _ _ => PV.innL ks cs | _ => true
theorem BRel_at {c:Ctx} {i:Nat} {b:Blk} (h:BRel c i b) {g:Nat} (hg:blockOf (c.ν i) = some g):c.M.O g ∧ ¬ c.M.S g ∧ g < c.w.heap.size:=by
  cases b with
  | box cs te =>
    obtain ⟨_,g',vs,e,h1,h2,h3,h4,_⟩:=h
    rw [h1] at hg
    injection hg with hg
    simp only at hg
    subst hg
    exact ⟨h2,h3,(Array.getElem?_eq_some_iff.1 h4).1⟩
  | arr T xs te =>
    obtain ⟨_,ho,v,hv,_,h2⟩:=h
    injection hv with hv
    rw [hv] at hg
    rcases h2 with ⟨rfl,_⟩ | ⟨g',o,cap,cur,e,rfl,h3,h4,h5,h6,h7,_⟩
    · cases hg
    · injection hg with hg
      simp only at hg
      subst hg
      exact ⟨h6,h5,(Array.getElem?_eq_some_iff.1 h7).1⟩
  | mp K V es =>
    obtain ⟨_,_,_,r,ents,clock,h1,h2,h3,h4,_⟩:=h
    rw [h1] at hg
    injection hg with hg
    subst hg
    exact ⟨h2,h3,(Array.getElem?_eq_some_iff.1 h4).1⟩
  | it src since seen =>
    obtain ⟨g',m,h1,h2,h3,h4,_⟩:=h
    rw [h1] at hg
    injection hg with hg
    simp only at hg
    subst hg
    exact ⟨h2,h3,(Array.getElem?_eq_some_iff.1 h4).1⟩
  | sit x pos =>
    obtain ⟨g',h1,h2,h3,h4,_⟩:=h
    rw [h1] at hg
    injection hg with hg
    simp only at hg
    subst hg
    exact ⟨h2,h3,(Array.getElem?_eq_some_iff.1 h4).1⟩
theorem BRel_ren {ks:List Nat} {ρ:Nat → Nat} {c c':Ctx} (hc:c.LeR ks ρ c') {i:Nat} {b:Blk} (hi:blkIn ks b = true) (hν:c'.ν (ρ i) = c.ν i)
    (hg:∀ g,blockOf (c.ν i) = some g → c'.w.heap[g]? = c.w.heap[g]? ∧ c'.M.O g ∧ ¬ c'.M.S g) (h:BRel c i b):BRel c' (ρ i) (b.map (PV.renL ρ)):=by
  cases b with
  | box cs te =>
    obtain ⟨hty,g,vs,e,h1,h2,h3,h4,h0,h5⟩:=h
    obtain ⟨e1,e2,e3⟩:=hg g (by rw [h1]; rfl)
    exact ⟨hty.keep hν fun g hgv => (hg g hgv).1,g,vs,e,by rw [hν]; exact h1,e2,e3,by rw [e1]; exact h4,h0,PRels_ren hc hi h5⟩
  | arr T xs te =>
    obtain ⟨hty,ho,v,hv,h1,h2⟩:=h
    injection hv with hv
    refine ⟨hty.keep hν fun g hgv => (hg g hgv).1,ho,v,by rw [hν,hv],h1,?_⟩
    rcases h2 with h2 | ⟨g,o,cap,cur,e,rfl,h3,h4,h5,h6,h7,h8,h9⟩
    · exact .inl h2
    · obtain ⟨e1,e2,e3⟩:=hg g (by rw [hv]; rfl)
      refine .inr ⟨g,o,cap,cur,e,rfl,h3,h4,e3,e2,by rw [e1]; exact h7,h8,fun i y hy => ?_⟩
      obtain ⟨cs,hl,hca,hr⟩:=h9 i y hy
      exact ⟨cs,hl,hca.mono e1,RepC_mono hc.heap hc.S _ _ _ ho hr⟩
  | mp K V es =>
    obtain ⟨hok,hov,h0,r,ents,clock,h1,h2,h3,h4,h5,h6,h7⟩:=h
    obtain ⟨e1,e2,e3⟩:=hg r (by rw [h1]; rfl)
    refine ⟨hok,hov,h0,r,ents,clock,by rw [hν]; exact h1,e2,e3,by rw [e1]; exact h4,h5,h6,fun i y hy => ?_⟩
    obtain ⟨e,ca,cb,a1,a2,a3,a4,a5⟩:=h7 i y hy
    exact ⟨e,ca,cb,a1,a2,RepC_mono hc.heap hc.S _ _ _ hok a3,a4,RepC_mono hc.heap hc.S _ _ _ hov a5⟩
  | it src since seen =>
    obtain ⟨g,m,h1,h2,h3,h4,h6⟩:=h
    obtain ⟨e1,e2,e3⟩:=hg g (by rw [h1]; rfl)
    exact ⟨g,m,by rw [hν]; exact h1,e2,e3,by rw [e1]; exact h4,PRels_ren hc hi h6⟩
  | sit x pos =>
    obtain ⟨g,h1,h2,h3,h4,h5⟩:=h
    obtain ⟨e1,e2,e3⟩:=hg g (by rw [h1]; rfl)
    exact ⟨g,by rw [hν]; exact h1,e2,e3,by rw [e1]; exact h4,h5⟩

/-! ### Names -/

theorem mem1_iff {i:Nat}:∀ {l:List Nat},mem1 i l = true ↔ i ∈ l
  | [] => by simp [mem1]
  | k :: r => by
    simp only [mem1,List.mem_cons]
    cases hb:Nat.beq i k with
    | true => simp [Nat.eq_of_beq_eq_true hb]
    | false =>
      have hne:i ≠ k:=by rintro rfl; simp at hb
      simp [hne,mem1_iff (l:=r)]
theorem idxOf_le {i:Nat}:∀ {l:List Nat} {j:Nat},j ≤ idxOf i l j
  | [],j => Nat.le_refl _
  | k :: r,j => by
    simp only [idxOf]
    cases Nat.beq i k with
    | true => exact Nat.le_refl _
    | false => exact Nat.le_trans (Nat.le_succ j) (idxOf_le (l:=r) (j:=j + 1))
theorem nth_idx {i:Nat}:∀ {l:List Nat} {j:Nat},mem1 i l = true → nthN l (idxOf i l j - j) = i ∧ idxOf i l j - j < l.length
  | [],j,h => by cases h
  | k :: r,j,h => by
    simp only [idxOf]
    simp only [mem1] at h
    cases hb:Nat.beq i k with
    | true => simp only [cond_true,Nat.sub_self,nthN,List.length_cons]; exact ⟨(Nat.eq_of_beq_eq_true hb).symm,by omega⟩
    | false =>
      simp only [hb,cond_false] at h ⊢
      obtain ⟨h1,h2⟩:=nth_idx (l:=r) (j:=j + 1) h
      have hle:=idxOf_le (i:=i) (l:=r) (j:=j + 1)
      rw [show idxOf i r (j + 1) - j = (idxOf i r (j + 1) - (j + 1)) + 1 from by omega]
      simp only [nthN,List.length_cons]
      exact ⟨h1,by omega⟩
theorem nthN_mem:∀ {l:List Nat} {j:Nat},j < l.length → mem1 (nthN l j) l = true
  | [],j,h => by simp at h
  | x :: r,0,_ => by simp [nthN,mem1]
  | x :: r,j + 1,h => by
    simp only [nthN,mem1]
    rw [nthN_mem (l:=r) (by simpa using h)]
    cases Nat.beq (nthN r j) x <;> rfl
theorem idx_nth:∀ {l:List Nat} {j k:Nat},nodupB l = true → j < l.length → idxOf (nthN l j) l k = k + j
  | [],j,k,_,h => by simp at h
  | x :: r,0,k,_,_ => by simp [nthN,idxOf]
  | x :: r,j + 1,k,hn,h => by
    simp only [nodupB,Bool.and_eq_true,Bool.not_eq_true'] at hn
    have hj:j < r.length:=by simpa using h
    simp only [nthN,idxOf]
    have hb:Nat.beq (nthN r j) x = false:=by
      cases hb:Nat.beq (nthN r j) x with
      | false => rfl
      | true =>
        have:=Nat.eq_of_beq_eq_true hb
        rw [← this,nthN_mem hj] at hn
        cases hn.1
    rw [hb,cond_false,idx_nth hn.2 hj]
    omega
theorem fwd_sub {i:Nat} {ids:List Nat} (h:mem1 i ids = true):P0 ≤ fwd ids i ∧ nthN ids (fwd ids i - P0) = i ∧ fwd ids i - P0 < ids.length:=by
  obtain ⟨h1,h2⟩:=nth_idx (j:=0) h
  unfold fwd
  rw [Nat.add_sub_cancel_left]
  exact ⟨by omega,by simpa using h1,by simpa using h2⟩
theorem fwd_nth {ids:List Nat} {j:Nat} (hn:nodupB ids = true) (hj:j < ids.length):fwd ids (nthN ids j) = P0 + j:=by
  unfold fwd
  rw [idx_nth hn hj]
  omega

theorem look_passed {ids:List Nat} {bl:List (Nat × Blk)} {k:Nat}:∀ {l:List Nat} {j:Nat},(∀ i,i ∈ l → i ∈ ids) → look k (passed ids bl l j) = if j ≤ k ∧ k - j < l.length then (look (nthN l (k - j)) bl).map (Blk.map (PV.renL (fwd ids))) else none
  | [],j,_ => by simp [passed,look]
  | i :: r,j,hl => by
    have ih:=look_passed (k:=k) (bl:=bl) (l:=r) (j:=j + 1) (fun x hx => hl x (List.mem_cons_of_mem _ hx))
    by_cases hk:k = j
    · subst hk
      simp only [passed,Nat.sub_self,nthN,List.length_cons,Nat.le_refl,true_and,Nat.zero_lt_succ,if_true]
      cases hb:look i bl with
      | none => simp only [Option.map_none]; rw [ih,if_neg (by omega)]
      | some b => simp only [look_cons_self,Option.map_some]
    · have e:look k (passed ids bl (i :: r) j) = look k (passed ids bl r (j + 1)):=by
        simp only [passed]
        cases look i bl with
        | none => rfl
        | some b => exact look_cons_ne _ _ hk
      rw [e,ih]
      by_cases hjk:j ≤ k
      · rw [show k - j = (k - (j + 1)) + 1 from by omega]
        simp only [nthN,List.length_cons]
        by_cases h2:k - (j + 1) < r.length
        · rw [if_pos ⟨by omega,h2⟩,if_pos ⟨hjk,by omega⟩]
        · rw [if_neg (by omega),if_neg (by omega)]
      · rw [if_neg (by omega),if_neg (by omega)]
theorem look_renBl_of {ρ:Nat → Nat} {k:Nat} {b:Blk}:∀ {bl:List (Nat × Blk)},(∀ i c,look i bl = some c → ρ i = ρ k → i = k) → look k bl = some b → look (ρ k) (renBl ρ bl) = some (b.map (PV.renL ρ))
  | [],_,h => by cases h
  | p :: r,hinj,h => by
    simp only [renBl,look] at h ⊢
    cases hb:Nat.beq k p.1 with
    | true =>
      simp only [hb,cond_true,Option.some.injEq] at h
      subst h
      have:=Nat.eq_of_beq_eq_true hb
      subst this
      simp
    | false =>
      simp only [hb,cond_false] at h
      have hne:k ≠ p.1:=by intro e; rw [e] at hb; simp at hb
      have hp:look p.1 (p :: r) = some p.2:=by simp [look]
      have:Nat.beq (ρ k) (ρ p.1) = false:=by
        cases hc:Nat.beq (ρ k) (ρ p.1) with
        | false => rfl
        | true => exact absurd (hinj p.1 p.2 hp (Nat.eq_of_beq_eq_true hc).symm).symm hne
      rw [this,cond_false]
      refine look_renBl_of (fun i c hc he => ?_) h
      by_cases hip:i = p.1
      · rw [hip] at he ⊢; exact hinj p.1 p.2 hp he
      · exact hinj i c (by rw [show (p :: r) = ((p.1,p.2) :: r) from rfl,look_cons_ne _ _ hip]; exact hc) he
theorem look_renBl {ρ:Nat → Nat} {i:Nat} {b:Blk}:∀ {bl:List (Nat × Blk)},(∀ j k c e,look j bl = some c → look k bl = some e → ρ j = ρ k → j = k) → look i (renBl ρ bl) = some b → ∃ k c,ρ k = i ∧ look k bl = some c ∧ b = c.map (PV.renL ρ)
  | [],_,h => by cases h
  | p :: r,hinj,h => by
    simp only [renBl,look] at h
    have hp:look p.1 (p :: r) = some p.2:=by simp [look]
    cases hb:Nat.beq i (ρ p.1) with
    | true =>
      simp only [hb,cond_true,Option.some.injEq] at h
      exact ⟨p.1,p.2,(Nat.eq_of_beq_eq_true hb).symm,hp,h.symm⟩
    | false =>
      simp only [hb,cond_false] at h
      have hne:i ≠ ρ p.1:=by intro e; rw [e] at hb; simp at hb
      have up:∀ j c,look j r = some c → j = p.1 ∨ look j (p :: r) = some c:=by
        intro j c hc
        by_cases hj:j = p.1
        · exact .inl hj
        · exact .inr (by rw [show (p :: r) = ((p.1,p.2) :: r) from rfl,look_cons_ne _ _ hj]; exact hc)
      obtain ⟨k,c,h1,h2,h3⟩:=look_renBl (bl:=r) (fun j k c e hj hk he => by
        rcases up j c hj with h' | h'
        · rcases up k e hk with h'' | h''
          · rw [h',h'']
          · exact hinj j k p.2 e (by rw [h']; exact hp) h'' he
        · rcases up k e hk with h'' | h''
          · exact hinj j k c p.2 h' (by rw [h'']; exact hp) he
          · exact hinj j k c e h' h'' he) h
      refine ⟨k,c,h1,?_,h3⟩
      rcases up k c h2 with h' | h'
      · exact absurd (by rw [← h1,h']) hne
      · exact h'
theorem look_append {k:Nat}:∀ {a b:List (Nat × Blk)},look k (a ++ b) = (match look k a with | some x => some x | none => look k b)
  | [],b => by simp [look]
  | p :: r,b => by
    simp only [List.cons_append,look]
    cases Nat.beq k p.1 with
    | true => rfl
    | false => exact look_append (a:=r)
theorem mem1_keys' {id:Nat}:∀ {bl:List (Nat × Blk)},mem1 id (keys bl) = true → ∃ b,look id bl = some b
  | [],h => by cases h
  | p :: r,h => by
    simp only [keys,List.map_cons,mem1] at h
    simp only [look]
    cases hb:Nat.beq id p.1 with
    | true => exact ⟨p.2,rfl⟩
    | false => simp only [hb,cond_false] at h ⊢; exact mem1_keys' h
theorem dead_iff {bl':List (Nat × Blk)} {i:Nat}:∀ {l:List Nat} {j:Nat},mem1 i (deadIds bl' l j) = true ↔ ∃ k,k < l.length ∧ nthN l k = i ∧ look (j + k) bl' = none
  | [],j => by simp [deadIds,mem1]
  | x :: r,j => by
    have ih:=dead_iff (bl':=bl') (i:=i) (l:=r) (j:=j + 1)
    simp only [deadIds]
    constructor
    · intro h
      cases hl:look j bl' with
      | some b =>
        rw [hl] at h
        obtain ⟨k,h1,h2,h3⟩:=ih.1 h
        exact ⟨k + 1,by simpa using h1,by simpa [nthN] using h2,by rw [← h3]; congr 1; omega⟩
      | none =>
        rw [hl] at h
        simp only [mem1] at h
        cases hb:Nat.beq i x with
        | true => exact ⟨0,by simp,by simp [nthN,Nat.eq_of_beq_eq_true hb],by simpa using hl⟩
        | false =>
          simp only [hb,cond_false] at h
          obtain ⟨k,h1,h2,h3⟩:=ih.1 h
          exact ⟨k + 1,by simpa using h1,by simpa [nthN] using h2,by rw [← h3]; congr 1; omega⟩
    · rintro ⟨k,h1,h2,h3⟩
      cases k with
      | zero =>
        simp only [Nat.add_zero] at h3
        simp only [nthN] at h2
        rw [h3]
        simp [mem1,h2]
      | succ k =>
        have:=ih.2 ⟨k,by simpa using h1,by simpa [nthN] using h2,by rw [← h3]; congr 1; omega⟩
        cases look j bl' with
        | some b => exact this
        | none => simp only [mem1,this]; cases Nat.beq i x <;> rfl
end Go.Proofs.Ytefpgfdemmllpaa
namespace Go.Proofs.Ytefpgfdemmllpaa
open Go.RowKit

section
variable {E:Env} {n:Nat} {w0:World} {S0:Cx} {s:St} {a:Act} {w:World} {ν:Nat → Value} {S:Nat → Prop}

def withS (S:Nat → Prop) (s:St) (ν:Nat → Value) (ks:List Nat):Nat → Prop:=fun g => S g ∨ ∃ i,mem1 i ks = true ∧ s.D i ∧ blockOf (ν i) = some g

def mkF (f:Nat):Value:=.func (.func f) #[] #[]
theorem fnv_rels {c:Ctx}:∀ {cs:List PV} {l:List Nat} {vs:List Value},fnvs cs = some l → PRels c cs vs → vs = l.map mkF
  | [],l,vs,h,hp => by
    simp only [fnvs,Option.some.injEq] at h
    subst h
    simp only [PRels] at hp
    exact hp
  | p :: r,l,vs,h,hp => by
    unfold fnvs at h
    split at h
    · rename_i he; cases he
    · rename_i f r' he
      injection he with e1 e2
      subst e1; subst e2
      split at h
      · rename_i l' hl
        injection h with h
        subst h
        simp only [PRels] at hp
        obtain ⟨v,r,rfl,hv,hr⟩:=hp
        simp only [PRel] at hv
        have hv2:[v] = [Value.func (.func f) #[] #[]]:=hv.2
        injection hv2 with hv2
        rw [hv2,fnv_rels hl hr]
        rfl
      · cases h
    · cases h
theorem rep_rowD {w:World} {M:Mem}:∀ (x:Nat) (l:List Nat),RepC (fnvR (x :: l)) (rowD (x :: l)) w M ((x :: l).map mkF)
  | x,[] => rfl
  | x,y :: r => ⟨[mkF x],(y :: r).map mkF,rfl,rfl,rep_rowD y r⟩
theorem cells_fnvR:∀ (x:Nat) (l:List Nat),(fnvR (x :: l)).cells = (x :: l).length
  | x,[] => rfl
  | x,y :: r => by
    show 1 + (fnvR (y :: r)).cells = _
    rw [cells_fnvR y r]
    simp only [List.length_cons]
    omega
theorem owns_fnvR:∀ l:List Nat,owns (fnvR l) = 0
  | [] => rfl
  | [_] => rfl
  | x :: y :: r => by
    show owns .fnv + owns (fnvR (y :: r)) = 0
    rw [owns_fnvR (y :: r)]
    rfl
mutual
theorem PRel_seal {c c':Ctx} {ks:List Nat} {bl:List (Nat × Blk)} (hw:c'.w = c.w) (hS:∀ b,c.M.S b → c'.M.S b) (hD:∀ i,mem1 i ks = false → c.D i → c'.D i) (hν:c'.ν = c.ν) (hb:∀ i b,look i bl = some b → BRel c i b)
    (hl:∀ i,mem1 i ks = true → c.D i → ∀ g,blockOf (c.ν i) = some g → c'.M.S g):∀ {p:PV} {v:Value},PRel c p v → PRel c' (p.sealw ks bl) v
  | .iv T x,v,h => by simp only [PV.sealw,PRel] at h ⊢; exact ⟨h.1,RepR_mono (fun _ _ => by rw [hw]) hS h.1 h.2⟩
  | .ref i off,v,h => by
    simp only [PV.sealw]
    cases hi:mem1 i ks
    · simp only [cond_false,PRel] at h ⊢; obtain ⟨hd,g,h1,h2⟩:=h; exact ⟨hD _ hi hd,g,by rw [hν]; exact h1,h2⟩
    · simp only [cond_true]
      split
      · rename_i cs te hlk
        split
        · rename_i x l hfn
          simp only [PRel] at h ⊢
          obtain ⟨hd,g,h1,h2⟩:=h
          obtain ⟨_,g',vs,e,e1,_,_,e2,_,e3⟩:=hb _ _ hlk
          rw [h1] at e1
          injection e1 with e1; injection e1 with e1; injection e1 with e1
          subst e1
          have hvs:=fnv_rels hfn e3
          refine ⟨owns_fnvR (x :: l),g,0,vs.toList,by rw [h2]; simp,hl i hi hd g (by rw [h1]; rfl),by rw [hvs,List.length_map]; exact (cells_fnvR x l).symm,fun j v hj => ?_,?_⟩
          · rw [hw]
            simp only [World.cell?,e2,Nat.zero_add]
            simpa using hj
          · rw [hvs]
            exact rep_rowD x l
        · simp only [PRel]
      · simp only [PRel]
  | .eptr T x off,v,h => by
    simp only [PV.sealw,PRel] at h ⊢
    obtain ⟨ho,g,o,cs,h1,h2,h3,h4,h5⟩:=h
    exact ⟨ho,g,o,cs,h1,hS _ h2,h3,h4.mono (by rw [hw]),RepC_mono (fun _ _ => by rw [hw]) hS _ _ _ ho h5⟩
  | .lfull i,v,h => by
    simp only [PV.sealw]
    cases hi:mem1 i ks
    · simp only [cond_false,PRel] at h ⊢; exact ⟨hD _ hi h.1,by rw [hν]; exact h.2.1,h.2.2⟩
    · simp only [cond_true]
      split
      · rename_i T xs te hlk
        simp only [PRel] at h ⊢
        obtain ⟨hoT,hown⟩:=own_block (hb _ _ hlk)
        refine ⟨by simpa [owns] using hoT,?_⟩
        have:=sl_of_own (M':=c'.M) hoT hS hown (hl i hi h.1)
        rw [h.2.1,hw]
        exact this
      · simp only [PRel]
  | .lsl i sz off len,v,h => by
    simp only [PV.sealw]
    cases hi:mem1 i ks
    · simp only [cond_false,PRel] at h ⊢
      obtain ⟨hd,a,n,cap,b,h1,h2⟩:=h
      exact ⟨hD _ hi hd,a,n,cap,b,by rw [hν]; exact h1,h2⟩
    · simp only [cond_true]
      split
      · rename_i T xs te hlk
        split
        · rename_i hsz
          have hsz:=Nat.eq_of_beq_eq_true hsz
          simp only [PRel] at h ⊢
          obtain ⟨hd,a,n,cap,b,hν',hn,hcap,rfl,hb'⟩:=h
          obtain ⟨hoT,hown⟩:=own_block (hb _ _ hlk)
          refine ⟨by simpa [owns] using hoT,?_⟩
          have hsl:=sl_of_own (M':=c'.M) hoT hS hown (hl i hi hd)
          rw [hν'] at hsl
          have hlen:n = xs.length:=by
            obtain ⟨a',cap',hv,_⟩:=hsl
            injection hv with hv
            injection hv
          subst hlen
          subst hsz
          rw [hw]
          exact sl_part hsl hn hb'
        · simp only [PRel]
      · simp only [PRel]
  | .lptr i sz j off,v,h => by
    simp only [PV.sealw]
    cases hi:mem1 i ks
    · simp only [cond_false,PRel] at h ⊢
      obtain ⟨hd,g,o,n,cap,h1,h2⟩:=h
      exact ⟨hD _ hi hd,g,o,n,cap,by rw [hν]; exact h1,h2⟩
    · simp only [cond_true,PRel]
  | .lmap i,v,h => by
    simp only [PV.sealw]
    cases hi:mem1 i ks
    · simp only [cond_false,PRel] at h ⊢; exact ⟨hD _ hi h.1,by rw [hν]; exact h.2.1,h.2.2⟩
    · simp only [cond_true]
      split
      · rename_i K V es hlk
        simp only [PRel] at h ⊢
        obtain ⟨hok,hov,h0,r,ents,clock,h1,h2,h3,h4,h5,h6,h7⟩:=hb _ _ hlk
        refine ⟨by simp only [owns]; omega,?_⟩
        rw [hw]
        exact mp_mono hok hov hS h0 (by rw [h.2.1,h1]) (hl i hi h.1 r (by rw [h1]; rfl)) h4 h5 h6 h7
      · simp only [PRel]
  | .agg cs,v,h => by simp only [PV.sealw,PRel] at h ⊢; obtain ⟨vs,h1,h0,h2⟩:=h; exact ⟨vs,h1,h0,PRels_seal hw hS hD hν hb hl h2⟩
  | .tup cs,v,h => by simp only [PV.sealw,PRel] at h ⊢; obtain ⟨vs,h1,h2⟩:=h; exact ⟨vs,h1,PRels_seal hw hS hD hν hb hl h2⟩
  | .nilsl,v,h => by simp only [PV.sealw,PRel] at h ⊢; exact h
  | .nilptr,v,h => by simp only [PV.sealw,PRel] at h ⊢; exact h
  | .aptr i base T n j,v,h => by
    simp only [PV.sealw]
    cases hi:mem1 i ks
    · simp only [cond_false,PRel] at h ⊢; obtain ⟨hd,h0,hn,g,h1,h2⟩:=h; exact ⟨hD _ hi hd,h0,hn,g,by rw [hν]; exact h1,h2⟩
    · simp only [cond_true,PRel]
  | .bnd f cs,v,h => by simp only [PV.sealw,PRel] at h ⊢; obtain ⟨vs,h1,h2⟩:=h; exact ⟨vs,h1,PRels_seal hw hS hD hν hb hl h2⟩
  | .ifc f cs,v,h => by simp only [PV.sealw,PRel] at h ⊢; obtain ⟨vs,h1,h2⟩:=h; exact ⟨vs,h1,PRels_seal hw hS hD hν hb hl h2⟩
  | .clip T xs,v,h => by simp only [PV.sealw,PRel] at h ⊢; exact ⟨h.1,h.2.1,RepC_mono (fun _ _ => by rw [hw]) hS (.sl T) _ _ h.1 h.2.2⟩
  | .fn f cs,v,h => by simp only [PV.sealw,PRel] at h ⊢; obtain ⟨vs,h1,h2⟩:=h; exact ⟨vs,h1,PRels_seal hw hS hD hν hb hl h2⟩
  | .any,v,h => by simp only [PV.sealw,PRel]
theorem PRels_seal {c c':Ctx} {ks:List Nat} {bl:List (Nat × Blk)} (hw:c'.w = c.w) (hS:∀ b,c.M.S b → c'.M.S b) (hD:∀ i,mem1 i ks = false → c.D i → c'.D i) (hν:c'.ν = c.ν) (hb:∀ i b,look i bl = some b → BRel c i b)
    (hl:∀ i,mem1 i ks = true → c.D i → ∀ g,blockOf (c.ν i) = some g → c'.M.S g):∀ {ps:List PV} {vs:List Value},PRels c ps vs → PRels c' (PV.sealL ks bl ps) vs
  | [],vs,h => by simp only [PV.sealL,PRels] at h ⊢; exact h
  | p :: ps,vs,h => by
    simp only [PV.sealL,PRels] at h ⊢
    obtain ⟨v,r,h1,h2,h3⟩:=h
    exact ⟨v,r,h1,PRel_seal hw hS hD hν hb hl h2,PRels_seal hw hS hD hν hb hl h3⟩
end

theorem seal_look (s:St) (ks:List Nat) (i:Nat):look i (s.sealw ks).bl = bif mem1 i ks then none else (look i s.bl).map (Blk.map (PV.sealL ks s.bl)):=by
  simp only [St.sealw,look_dropBl,look_mapBl]
theorem get_seal (s:St) (ks:List Nat) (t:Nat):(s.sealw ks).get t = (s.get t).sealw ks s.bl:=by
  simp only [St.get,St.sealw,look_mapSl]
  cases look t s.sl <;> simp [PV.sealw]

theorem Full.sealed (h:Full n w0 S0 s a w ν S) (ks:List Nat):Full n w0 S0 (s.sealw ks) a w ν (withS S s ν ks):=by
  have hS:∀ b,S b → withS S s ν ks b:=fun b hb => .inl hb
  have hD:∀ i,mem1 i ks = false → s.D i → (s.sealw ks).D i:=by
    rintro i hi ⟨b,hb⟩
    exact ⟨b.map (PV.sealL ks s.bl),by rw [seal_look,hi,hb]; rfl⟩
  have hl:∀ i,mem1 i ks = true → s.D i → ∀ g,blockOf (ν i) = some g → withS S s ν ks g:=fun i hi hd g hg => .inr ⟨i,hi,hd,hg⟩
  have old:∀ i b,look i (s.sealw ks).bl = some b → mem1 i ks = false ∧ ∃ b0,look i s.bl = some b0 ∧ b = b0.map (PV.sealL ks s.bl):=by
    intro i b hb
    rw [seal_look] at hb
    cases hi:mem1 i ks with
    | true => rw [hi] at hb; cases hb
    | false =>
      rw [hi,cond_false] at hb
      cases hl:look i s.bl with
      | none => rw [hl] at hb; cases hb
      | some b0 => rw [hl] at hb; injection hb with hb; exact ⟨rfl,b0,rfl,hb.symm⟩
  refine ⟨h.below,fun b hb => hS b (h.inS b hb),fun b hb => ?_,⟨fun b hb => ?_,h.W.size,fun i b hb => ?_,fun i j b c hij hi hj => ?_⟩,fun t => ?_,h.size,h.defers,h.few,fun i hi hd => ?_,h.tab⟩
  · rcases hb with hb | ⟨i,_,⟨b0,hb0⟩,hg⟩
    · exact h.fresh b hb
    · exact .inr (h.blkB hb0 hg).1
  · rcases hb with hb | ⟨i,_,⟨b0,hb0⟩,hg⟩
    · exact h.W.lt b hb
    · exact (h.blkB hb0 hg).2.2
  · obtain ⟨hi,b0,hb0,rfl⟩:=old i b hb
    have hr:=h.W.blk i b0 hb0
    have hnS:∀ g,blockOf (ν i) = some g → ¬ withS S s ν ks g:=by
      rintro g hg (hs | ⟨j,hj,⟨bj,hbj⟩,hgj⟩)
      · exact (h.blkB hb0 hg).2.1 hs
      · have hij:i ≠ j:=by rintro rfl; rw [hi] at hj; cases hj
        exact h.W.ne i j b0 bj hij hb0 hbj g hg hgj
    cases b0 with
    | box cs te =>
      obtain ⟨hty,g,vs,e,h1,h2,h3,h4,h0,h5⟩:=hr
      exact ⟨hty.keep rfl fun _ _ => rfl,g,vs,e,h1,h2,hnS g (by simp only at h1; rw [h1]; rfl),h4,h0,PRels_seal (c:=⟨ν,s.D,w,⟨S,own0 w0 S0⟩⟩) (c':=⟨ν,(s.sealw ks).D,w,⟨withS S s ν ks,own0 w0 S0⟩⟩) rfl hS hD rfl h.W.blk hl h5⟩
    | arr T xs te =>
      obtain ⟨hty,ho,v,hv,h1,h2⟩:=hr
      injection hv with hv
      simp only at hv
      refine ⟨hty.keep rfl fun _ _ => rfl,ho,v,by simp only [hv],h1,?_⟩
      rcases h2 with h2 | ⟨g,o,cap,cur,e,rfl,h3,h4,h5,h6,h7,h8,h9⟩
      · exact .inl h2
      · refine .inr ⟨g,o,cap,cur,e,rfl,h3,h4,hnS g (by rw [hv]; rfl),h6,h7,h8,fun i y hy => ?_⟩
        obtain ⟨cs,hl,hca,hr⟩:=h9 i y hy
        exact ⟨cs,hl,hca,RepC_mono (fun _ _ => rfl) hS _ _ _ ho hr⟩
    | mp K V es =>
      obtain ⟨hok,hov,h0,r,ents,clock,h1,h2,h3,h4,h5,h6,h7⟩:=hr
      refine ⟨hok,hov,h0,r,ents,clock,h1,h2,hnS r (by simp only at h1; rw [h1]; rfl),h4,h5,h6,fun i y hy => ?_⟩
      obtain ⟨e,ca,cb,a1,a2,a3,a4,a5⟩:=h7 i y hy
      exact ⟨e,ca,cb,a1,a2,RepC_mono (fun _ _ => rfl) hS _ _ _ hok a3,a4,RepC_mono (fun _ _ => rfl) hS _ _ _ hov a5⟩
    | it src since seen =>
      obtain ⟨g,m,h1,h2,h3,h4,h6⟩:=hr
      exact ⟨g,m,h1,h2,hnS g (by simp only at h1; rw [h1]; rfl),h4,PRels_seal (c:=⟨ν,s.D,w,⟨S,own0 w0 S0⟩⟩) (c':=⟨ν,(s.sealw ks).D,w,⟨withS S s ν ks,own0 w0 S0⟩⟩) rfl hS hD rfl h.W.blk hl h6⟩
    | sit x pos =>
      obtain ⟨g,h1,h2,h3,h4,h5⟩:=hr
      exact ⟨g,h1,h2,hnS g (by simp only at h1; rw [h1]; rfl),h4,h5⟩
  · obtain ⟨_,b0,hb0,_⟩:=old i b hi
    obtain ⟨_,c0,hc0,_⟩:=old j c hj
    exact h.W.ne i j b0 c0 hij hb0 hc0
  · rw [get_seal]
    exact PRel_seal (c:=⟨ν,s.D,w,⟨S,own0 w0 S0⟩⟩) (c':=⟨ν,(s.sealw ks).D,w,⟨withS S s ν ks,own0 w0 S0⟩⟩) rfl hS hD rfl h.W.blk hl (h.slots t)
  · obtain ⟨b,hb⟩:=hd
    obtain ⟨_,b0,hb0,_⟩:=old i b hb
    exact h.kept i hi ⟨b0,hb0⟩

/-! ### Blocks handed to a callee -/

def nuC (ν:Nat → Value) (ids:List Nat):Nat → Value:=fun k => ν (nthN ids (k - P0))

theorem handed_look {s:St} {ids:List Nat} {k:Nat} {b:Blk} (h:look k (passed ids s.bl ids P0) = some b):P0 ≤ k ∧ k - P0 < ids.length ∧ ∃ b0,look (nthN ids (k - P0)) s.bl = some b0 ∧ b = b0.map (PV.renL (fwd ids)):=by
  rw [look_passed (fun _ h => h)] at h
  split at h
  · rename_i hc
    cases hl:look (nthN ids (k - P0)) s.bl with
    | none => rw [hl] at h; cases h
    | some b0 => rw [hl] at h; injection h with h; exact ⟨hc.1,hc.2,b0,rfl,h.symm⟩
  · cases h
theorem handed_D {s:St} {ids:List Nat} {i:Nat} (hi:mem1 i ids = true) (hd:s.D i):(⟨[],passed ids s.bl ids P0⟩:St).D (fwd ids i):=by
  obtain ⟨b,hb⟩:=hd
  obtain ⟨h1,h2,h3⟩:=fwd_sub hi
  refine ⟨b.map (PV.renL (fwd ids)),?_⟩
  simp only
  rw [look_passed (fun _ h => h),if_pos ⟨h1,h3⟩,h2,hb]
  rfl

def cxC (S:Nat → Prop) (s:St) (ν:Nat → Value) (ids:List Nat):Cx:=⟨S,foot (nuC ν ids) (passed ids s.bl ids P0),nuC ν ids,[]⟩

theorem foot_iff {s:St} {ν:Nat → Value} {ids:List Nat} {g:Nat} (h:foot (nuC ν ids) (passed ids s.bl ids P0) g):∃ i b,mem1 i ids = true ∧ look i s.bl = some b ∧ blockOf (ν i) = some g:=by
  obtain ⟨k,b,hk,hg⟩:=h
  obtain ⟨h1,h2,b0,hb0,_⟩:=handed_look hk
  exact ⟨_,b0,nthN_mem h2,hb0,hg⟩

theorem innIds_at {ks:List Nat} {bl:List (Nat × Blk)}:∀ {l:List Nat} {i:Nat} {b:Blk},innIds ks bl l = true → i ∈ l → look i bl = some b → blkIn ks b = true
  | [],i,b,_,h,_ => by cases h
  | x :: r,i,b,h,hi,hb => by
    simp only [innIds,Bool.and_eq_true] at h
    rcases List.mem_cons.1 hi with rfl | hi
    · have h1:=h.1
      rw [hb] at h1
      cases b <;> first | exact h1 | rfl
    · exact innIds_at h.2 hi hb

theorem Full.handed (h:Full n w0 S0 s a w ν S) {ids:List Nat} (hnd:nodupB ids = true) (hin:innIds ids s.bl ids = true) :
    WRel ⟨[],passed ids s.bl ids P0⟩ (nuC ν ids) w ⟨S,own0 w (cxC S s ν ids)⟩ ∧ (∀ g,foot (nuC ν ids) (passed ids s.bl ids P0) g → g < w.heap.size) ∧
      ∀ (S1:Nat → Prop),(∀ b,S b → S1 b) → Ctx.LeR ids (fwd ids) ⟨ν,s.D,w,⟨S,own0 w0 S0⟩⟩ ⟨nuC ν ids,(⟨[],passed ids s.bl ids P0⟩:St).D,w,⟨S1,own0 w (cxC S s ν ids)⟩⟩:=by
  have hν:∀ i,mem1 i ids = true → nuC ν ids (fwd ids i) = ν i:=by
    intro i hi
    unfold nuC
    rw [(fwd_sub hi).2.1]
  have hle:∀ (S1:Nat → Prop),(∀ b,S b → S1 b) → Ctx.LeR ids (fwd ids) ⟨ν,s.D,w,⟨S,own0 w0 S0⟩⟩ ⟨nuC ν ids,(⟨[],passed ids s.bl ids P0⟩:St).D,w,⟨S1,own0 w (cxC S s ν ids)⟩⟩:=fun S1 hS1 =>
    ⟨fun _ _ => rfl,hS1,fun i hi hd => handed_D hi hd,fun i hi _ => hν i hi⟩
  refine ⟨⟨h.W.lt,fun b hb => .inl hb,fun k b hb => ?_,fun k l b c hkl hk hl g hg hg' => ?_⟩,fun g hg => ?_,hle⟩
  · obtain ⟨h1,h2,b0,hb0,rfl⟩:=handed_look hb
    have hm:=nthN_mem h2
    have hf:fwd ids (nthN ids (k - P0)) = k:=by rw [fwd_nth hnd h2]; omega
    have:=BRel_ren (hle S (fun _ h => h)) (i:=nthN ids (k - P0)) (b:=b0) (innIds_at hin (mem1_iff.1 hm) hb0) (hν _ hm) (fun g hg => ⟨rfl,.inr ⟨k,_,hb,hg⟩,(h.blkB hb0 hg).2.1⟩) (h.W.blk _ b0 hb0)
    rw [hf] at this
    exact this
  · obtain ⟨h1,h2,b0,hb0,_⟩:=handed_look hk
    obtain ⟨h3,h4,c0,hc0,_⟩:=handed_look hl
    refine h.W.ne (nthN ids (k - P0)) (nthN ids (l - P0)) b0 c0 (fun e => hkl ?_) hb0 hc0 g hg hg'
    have e1:=fwd_nth hnd h2
    have e2:=fwd_nth hnd h4
    rw [e,e2] at e1
    omega
  · obtain ⟨i,b,_,hb,hg'⟩:=foot_iff hg
    exact (h.blkB hb hg').2.2
end
end Go.Proofs.Ytefpgfdemmllpaa
namespace Go.Proofs.Ytefpgfdemmllpaa
open Go.RowKit

mutual
theorem PRel_keys {c:Ctx} {bl:List (Nat × Blk)} (hD:∀ i,c.D i → ∃ b,look i bl = some b):∀ {p:PV} {v:Value},PRel c p v → PV.inn (keys bl) p = true
  | .iv T x,v,h => rfl
  | .ref i off,v,h => by simp only [PRel] at h; obtain ⟨b,hb⟩:=hD _ h.1; exact mem1_keys hb
  | .eptr T x off,v,h => rfl
  | .lfull i,v,h => by simp only [PRel] at h; obtain ⟨b,hb⟩:=hD _ h.1; exact mem1_keys hb
  | .lsl i sz off len,v,h => by simp only [PRel] at h; obtain ⟨b,hb⟩:=hD _ h.1; exact mem1_keys hb
  | .lptr i sz j off,v,h => by simp only [PRel] at h; obtain ⟨b,hb⟩:=hD _ h.1; exact mem1_keys hb
  | .lmap i,v,h => by simp only [PRel] at h; obtain ⟨b,hb⟩:=hD _ h.1; exact mem1_keys hb
  | .agg cs,v,h => by simp only [PRel] at h; obtain ⟨vs,_,_,h2⟩:=h; exact PRels_keys hD h2
  | .tup cs,v,h => by simp only [PRel] at h; obtain ⟨vs,_,h2⟩:=h; exact PRels_keys hD h2
  | .nilsl,v,h => rfl
  | .nilptr,v,h => rfl
  | .aptr i base T n j,v,h => by simp only [PRel] at h; obtain ⟨b,hb⟩:=hD _ h.1; exact mem1_keys hb
  | .bnd f cs,v,h => by simp only [PRel] at h; obtain ⟨vs,_,h2⟩:=h; exact PRels_keys hD h2
  | .ifc f cs,v,h => by simp only [PRel] at h; obtain ⟨vs,_,h2⟩:=h; exact PRels_keys hD h2
  | .clip T xs,v,h => rfl
  | .fn f cs,v,h => by simp only [PRel] at h; obtain ⟨vs,_,h2⟩:=h; exact PRels_keys hD h2
  | .any,v,h => rfl
theorem PRels_keys {c:Ctx} {bl:List (Nat × Blk)} (hD:∀ i,c.D i → ∃ b,look i bl = some b):∀ {ps:List PV} {vs:List Value},PRels c ps vs → PV.innL (keys bl) ps = true
  | [],vs,h => rfl
  | p :: ps,vs,h => by
    simp only [PRels] at h
    obtain ⟨v,r,_,h2,h3⟩:=h
    simp only [PV.innL,PRel_keys hD h2,PRels_keys hD h3,Bool.and_self]
end
theorem BRel_keys {c:Ctx} {bl:List (Nat × Blk)} (hD:∀ i,c.D i → ∃ b,look i bl = some b) {i:Nat} {b:Blk} (h:BRel c i b):blkIn (keys bl) b = true:=by
  cases b with
  | box cs te => obtain ⟨_,g,vs,e,_,_,_,_,_,h5⟩:=h; exact PRels_keys hD h5
  | it cs a b => obtain ⟨g,m,_,_,_,_,h6⟩:=h; exact PRels_keys hD h6
  | _ => rfl

theorem keepB_at {bl':List (Nat × Blk)}:∀ {bl:List (Nat × Blk)} {k:Nat} {b:Blk},keepB bl bl' = true → look k bl = some b → look k bl' = none → ∃ T xs te,b = .arr T xs te
  | [],k,b,_,h,_ => by cases h
  | p :: r,k,b,hk,h,hn => by
    simp only [keepB,Bool.and_eq_true] at hk
    simp only [look] at h
    cases hb:Nat.beq k p.1 with
    | true =>
      simp only [hb,cond_true,Option.some.injEq] at h
      subst h
      have:=Nat.eq_of_beq_eq_true hb
      subst this
      have h1:=hk.1
      rw [hn] at h1
      cases hp:p.2 with
      | arr T xs te => exact ⟨T,xs,te,rfl⟩
      | box cs te => rw [hp] at h1; cases h1
      | mp K V es => rw [hp] at h1; cases h1
      | it a b c => rw [hp] at h1; cases h1
      | sit a b => rw [hp] at h1; cases h1
    | false => simp only [hb,cond_false] at h; exact keepB_at hk.2 h hn
theorem newB_at {bl:List (Nat × Blk)} {used:List Nat} {d:Option Nat}:∀ {l:List (Nat × Blk)} {k:Nat} {b:Blk},newB bl used d l = true → look k l = some b →
    (P0 ≤ k ∧ ∃ c,look k bl = some c) ∨ (k < P0 ∧ ∃ e,d = some e ∧ k < 100000 ∧ k + 100000 * (e + 1) < P0 ∧ mem1 (k + 100000 * (e + 1)) used = false)
  | [],k,b,_,h => by cases h
  | (p1,p2) :: r,k,b,hn,h => by
    obtain ⟨p,hp⟩:∃ p:Nat × Blk,p = (p1,p2):=⟨_,rfl⟩
    obtain rfl:p.1 = p1:=by rw [hp]
    obtain rfl:p.2 = p2:=by rw [hp]
    clear hp
    simp only [newB,Bool.and_eq_true] at hn
    simp only [look] at h
    cases hb:Nat.beq k p.1 with
    | true =>
      have:=Nat.eq_of_beq_eq_true hb
      subst this
      have h1:=hn.1
      split at h1
      · rename_i hble
        have hle:=Nat.le_of_ble_eq_true hble
        cases hl:look p.1 bl with
        | none => rw [hl] at h1; cases h1
        | some c => exact .inl ⟨hle,c,rfl⟩
      · rename_i hble
        have hlt:p.1 < P0:=by
          rcases Nat.lt_or_ge p.1 P0 with h' | h'
          · exact h'
          · rw [Nat.ble_eq_true_of_le h'] at hble; cases hble
        cases d with
        | none => cases h1
        | some e =>
          simp only [Bool.and_eq_true,Nat.blt_eq,Bool.not_eq_true'] at h1
          exact .inr ⟨hlt,e,rfl,h1.1.1,h1.1.2,h1.2⟩
    | false => simp only [hb,cond_false] at h; exact newB_at hn.2 h

section
variable {E:Env} {n:Nat} {w0:World} {S0:Cx} {s:St} {a:Act} {w:World} {ν:Nat → Value} {S:Nat → Prop}

theorem back_hi {ids:List Nat} {d k:Nat} (h:P0 ≤ k):back ids d k = nthN ids (k - P0):=by
  unfold back; rw [Nat.ble_eq_true_of_le h]; rfl
theorem back_lo {ids:List Nat} {d k:Nat} (h:k < P0):back ids d k = k + 100000 * (d + 1):=by
  unfold back
  have:Nat.ble P0 k = false:=by
    cases hb:Nat.ble P0 k with
    | false => rfl
    | true => have:=Nat.le_of_ble_eq_true hb; omega
  rw [this]; rfl

def afterBl (s:St) (d:Nat) (ids:List Nat) (bl':List (Nat × Blk)):List (Nat × Blk):=renBl (back ids d) bl' ++ dropBl ids (s.kill (deadIds bl' ids P0)).bl
noncomputable def afterNu (ν ν':Nat → Value) (d:Nat) (bl':List (Nat × Blk)):Nat → Value:=fun i =>
  match Nat.ble (100000 * (d + 1)) i,look (i - 100000 * (d + 1)) bl' with
  | true,some _ => bif Nat.blt (i - 100000 * (d + 1)) 100000 then ν' (i - 100000 * (d + 1)) else ν i
  | _,_ => ν i

theorem Full.hret (h:Full n w0 S0 s a w ν S) {ids:List Nat} {d:Option Nat} {p:PV} {v:Value} {bl':List (Nat × Blk)} {w':World} {ν':Nat → Value} {S':Nat → Prop}
    (hnd:nodupB ids = true) (hin:innIds ids s.bl ids = true) (hk:Kept (foot (nuC ν ids) (passed ids s.bl ids P0)) w w') (h1:∀ b,S b → S' b) (h2:∀ b,S' b → S b ∨ own0 w (cxC S s ν ids) b)
    (h3:∀ i,P0 ≤ i → (⟨[],bl'⟩:St).D i → ν' i = nuC ν ids i) (hW:WRel ⟨[],bl'⟩ ν' w' ⟨S',own0 w (cxC S s ν ids)⟩) (hp:PRel ⟨ν',(⟨[],bl'⟩:St).D,w',⟨S',own0 w (cxC S s ν ids)⟩⟩ p v)
    (hkeep:keepB (passed ids s.bl ids P0) bl' = true) (hnew:newB (passed ids s.bl ids P0) (keys s.bl) d bl' = true) (hd:∀ e,d = some e → e < n) :
    ∃ ν'',Full n w0 S0 (s.hret0 d ids p bl') (a.put d v) w' ν'' S':=by
  -- the destination,or 0
  obtain ⟨dd,hdd⟩:∃ dd:Nat,dd = (match d with | some e => e | none => 0):=⟨_,rfl⟩
  have hbl:(s.hret0 d ids p bl').bl = afterBl s dd ids bl':=by
    subst hdd; cases d <;> rfl
  have hsl:∀ t,(s.hret0 d ids p bl').get t = match d with | some e => if t = e then p.ren (back ids dd) else ((s.get t).kill (deadIds bl' ids P0)) | none => (s.get t).kill (deadIds bl' ids P0):=by
    intro t
    subst hdd
    cases d with
    | none => exact get_kill s _ t
    | some e =>
      simp only [St.hret0,St.get]
      by_cases ht:t = e
      · subst ht; simp only [look_cons_self,if_true]
      · rw [look_cons_ne _ _ ht,if_neg ht]
        have:=get_kill s (deadIds bl' ids P0) t
        simp only [St.get] at this
        exact this
  have hfresh:∀ k b,look k bl' = some b → (P0 ≤ k ∧ k - P0 < ids.length ∧ ∃ b0,look (nthN ids (k - P0)) s.bl = some b0) ∨ (k < P0 ∧ d = some dd ∧ k < 100000 ∧ k + 100000 * (dd + 1) < P0 ∧ look (k + 100000 * (dd + 1)) s.bl = none):=by
    intro k b hb
    rcases newB_at hnew hb with ⟨hle,c,hc⟩ | ⟨hlt,e,he,hk1,hk2,hk3⟩
    · obtain ⟨_,h5,b0,hb0,_⟩:=handed_look hc
      exact .inl ⟨hle,h5,b0,hb0⟩
    · subst he
      simp only at hdd
      subst hdd
      refine .inr ⟨hlt,rfl,hk1,hk2,?_⟩
      cases hl:look (k + 100000 * (dd + 1)) s.bl with
      | none => rfl
      | some b => rw [mem1_keys hl] at hk3; cases hk3
  -- the new names are different
  have hinj:∀ j k c e,look j bl' = some c → look k bl' = some e → back ids dd j = back ids dd k → j = k:=by
    intro j k c e hj hk he
    rcases hfresh j c hj with ⟨a1,a2,b0,a3⟩ | ⟨a1,_,a2,a3,a4⟩
    · rcases hfresh k e hk with ⟨b1,b2,c0,b3⟩ | ⟨b1,_,b2,b3,b4⟩
      · rw [back_hi a1,back_hi b1] at he
        have e1:=fwd_nth hnd a2
        have e2:=fwd_nth hnd b2
        rw [he,e2] at e1
        omega
      · rw [back_hi a1,back_lo b1] at he
        rw [he,b4] at a3; cases a3
    · rcases hfresh k e hk with ⟨b1,b2,c0,b3⟩ | ⟨b1,_,b2,b3,b4⟩
      · rw [back_lo a1,back_hi b1] at he
        rw [← he,a4] at b3; cases b3
      · rw [back_lo a1,back_lo b1] at he
        omega
  -- where the blocks lie
  have hνold:∀ i,s.D i → afterNu ν ν' dd bl' i = ν i:=by
    rintro i ⟨b,hb⟩
    unfold afterNu
    split
    · rename_i c hble hl
      cases hlt:Nat.blt (i - 100000 * (dd + 1)) 100000 with
      | false => rfl
      | true =>
        have hle:=Nat.le_of_ble_eq_true hble
        rw [Nat.blt_eq] at hlt
        rcases hfresh _ c hl with ⟨a1,_⟩ | ⟨_,_,_,_,a4⟩
        · unfold P0 at a1; omega
        · rw [show i - 100000 * (dd + 1) + 100000 * (dd + 1) = i from by omega,hb] at a4; cases a4
    · rfl
  have hνnew:∀ k b,look k bl' = some b → afterNu ν ν' dd bl' (back ids dd k) = ν' k:=by
    intro k b hb
    rcases hfresh k b hb with ⟨a1,a2,b0,a3⟩ | ⟨a1,_,a2,a3,a4⟩
    · rw [back_hi a1,hνold _ ⟨b0,a3⟩,h3 k a1 ⟨b,hb⟩]; rfl
    · rw [back_lo a1]
      unfold afterNu
      rw [Nat.ble_eq_true_of_le (by omega),show k + 100000 * (dd + 1) - 100000 * (dd + 1) = k from by omega,hb]
      have:Nat.blt k 100000 = true:=by rw [Nat.blt_eq]; exact a2
      simp only [this,cond_true]
  -- the blocks behind the call
  have hlookA:∀ k b,look k bl' = some b → look (back ids dd k) (afterBl s dd ids bl') = some (b.map (PV.renL (back ids dd))):=by
    intro k b hb
    unfold afterBl
    rw [look_append,look_renBl_of (fun i c hc he => hinj i k c b hc hb he) hb]
  have hlookB:∀ i,mem1 i ids = false → s.D i → ∃ b,look i (afterBl s dd ids bl') = some b:=by
    rintro i hi ⟨b,hb⟩
    unfold afterBl
    rw [look_append]
    cases look i (renBl (back ids dd) bl') with
    | some x => exact ⟨x,rfl⟩
    | none => exact ⟨b.map (PV.killL (deadIds bl' ids P0)),by simp only; rw [look_dropBl,hi,cond_false,kill_look,hb]; rfl⟩
  have hcases:∀ i b,look i (afterBl s dd ids bl') = some b → (∃ k c,back ids dd k = i ∧ look k bl' = some c ∧ b = c.map (PV.renL (back ids dd))) ∨ (mem1 i ids = false ∧ ∃ b0,look i s.bl = some b0 ∧ b = b0.map (PV.killL (deadIds bl' ids P0))):=by
    intro i b hb
    unfold afterBl at hb
    rw [look_append] at hb
    cases hr:look i (renBl (back ids dd) bl') with
    | some x => rw [hr] at hb; injection hb with hb; subst hb; exact .inl (look_renBl hinj hr)
    | none =>
      rw [hr] at hb
      simp only at hb
      rw [look_dropBl] at hb
      cases hi:mem1 i ids with
      | true => rw [hi] at hb; cases hb
      | false =>
        rw [hi,cond_false,kill_look] at hb
        cases hl:look i s.bl with
        | none => rw [hl] at hb; cases hb
        | some b0 => rw [hl] at hb; injection hb with hb; exact .inr ⟨rfl,b0,rfl,hb.symm⟩
  have hfoot:∀ g,foot (nuC ν ids) (passed ids s.bl ids P0) g → own0 w0 S0 g ∧ ¬ S g ∧ g < w.heap.size:=fun g hg => by
    obtain ⟨i,b,_,hb,hg'⟩:=foot_iff hg
    exact h.blkB hb hg'
  have hown:∀ g,own0 w (cxC S s ν ids) g → own0 w0 S0 g:=fun g hg => by
    rcases hg with hg | hg
    · exact h.W.size g hg
    · exact (hfoot g hg).1
  have hnotdead:∀ i,mem1 i ids = true → s.D i → mem1 i (deadIds bl' ids P0) = false → ∃ b,look (fwd ids i) bl' = some b:=by
    intro i hi _ hdead
    obtain ⟨f1,f2,f3⟩:=fwd_sub hi
    cases hl:look (fwd ids i) bl' with
    | some b => exact ⟨b,rfl⟩
    | none =>
      have:=(dead_iff (bl':=bl') (i:=i) (l:=ids) (j:=P0)).2 ⟨fwd ids i - P0,f3,f2,by rw [show P0 + (fwd ids i - P0) = fwd ids i from by omega]; exact hl⟩
      rw [this] at hdead; cases hdead
  have hD:∀ i,s.D i → mem1 i (deadIds bl' ids P0) = false → (⟨[],afterBl s dd ids bl'⟩:St).D i:=by
    intro i hi hdead
    cases hm:mem1 i ids with
    | false => exact hlookB i hm hi
    | true =>
      obtain ⟨b,hb⟩:=hnotdead i hm hi hdead
      have:=hlookA _ b hb
      obtain ⟨f1,f2,f3⟩:=fwd_sub hm
      rw [back_hi f1,f2] at this
      exact ⟨_,this⟩
  have hleK:Ctx.LeBut (deadIds bl' ids P0) ⟨ν,s.D,w,⟨S,own0 w0 S0⟩⟩ ⟨afterNu ν ν' dd bl',(⟨[],afterBl s dd ids bl'⟩:St).D,w',⟨S',own0 w0 S0⟩⟩ :=
    ⟨fun b hb => hk.block b (h.W.lt b hb) (fun hf => (hfoot b hf).2.1 hb),h1,hD,fun i hi _ => hνold i hi⟩
  have hnb:NoBox ⟨ν,s.D,w,⟨S,own0 w0 S0⟩⟩ (deadIds bl' ids P0):=by
    rintro i hi ⟨b,hb⟩
    obtain ⟨k,e1,e2,e3⟩:=dead_iff.1 hi
    have hpl:look (P0 + k) (passed ids s.bl ids P0) = some (b.map (PV.renL (fwd ids))):=by
      rw [look_passed (fun _ h => h),if_pos ⟨by omega,by omega⟩,show P0 + k - P0 = k from by omega,e2,hb]
      rfl
    obtain ⟨T,xs,te,hbe⟩:=keepB_at hkeep hpl e3
    cases b with
    | arr T xs te =>
      obtain ⟨hty,_,u,hu,_,hc⟩:=h.W.blk i _ hb
      injection hu with hu
      simp only at hu ⊢
      rw [hu]
      rcases hc with ⟨hc,_⟩ | ⟨g,o,cap,cur,e,hc,_⟩ <;> subst hc <;> exact ⟨_,_,_,rfl⟩
    | box cs te => cases hbe
    | mp K V es => cases hbe
    | it a b c => cases hbe
    | sit a b => cases hbe
  have hleR:Ctx.LeR (keys bl') (back ids dd) ⟨ν',(⟨[],bl'⟩:St).D,w',⟨S',own0 w (cxC S s ν ids)⟩⟩ ⟨afterNu ν ν' dd bl',(⟨[],afterBl s dd ids bl'⟩:St).D,w',⟨S',own0 w0 S0⟩⟩ :=
    ⟨fun _ _ => rfl,fun _ h => h,fun i _ ⟨b,hb⟩ => ⟨_,hlookA i b hb⟩,fun i _ ⟨b,hb⟩ => hνnew i b hb⟩
  have hW':WRel ⟨[],afterBl s dd ids bl'⟩ (afterNu ν ν' dd bl') w' ⟨S',own0 w0 S0⟩:=by
    refine ⟨hW.lt,fun b hb => h.W.size b (Nat.le_trans hk.size hb),fun i b hb => ?_,fun i j b c hij hi hj g hg hg' => ?_⟩
    · rcases hcases i b hb with ⟨k,c,rfl,hc,rfl⟩ | ⟨hi,b0,hb0,rfl⟩
      · have hr:=hW.blk k c hc
        exact BRel_ren hleR (BRel_keys (fun i hi => hi) hr) (hνnew k c hc) (fun g hg => ⟨rfl,hown g (BRel_at hr hg).1,(BRel_at hr hg).2.1⟩) hr
      · refine BRel_kill hleK hnb rfl (hνold i ⟨b0,hb0⟩) (fun g hg => ?_) (h.W.blk i b0 hb0)
        obtain ⟨g1,g2,g3⟩:=h.blkB hb0 hg
        have hnf:¬ foot (nuC ν ids) (passed ids s.bl ids P0) g:=by
          intro hf
          obtain ⟨j,c0,hj,hc0,hgj⟩:=foot_iff hf
          exact h.W.ne i j b0 c0 (by rintro rfl; rw [hi] at hj; cases hj) hb0 hc0 g hg hgj
        refine ⟨hk.block g g3 hnf,fun _ hS' => ?_⟩
        rcases h2 g hS' with h' | h' | h'
        · exact g2 h'
        · omega
        · exact hnf h'
    · -- two blocks in one place
      have AB:∀ (k:Nat) (c:Blk) (j:Nat) (c0:Blk),look k bl' = some c → mem1 j ids = false → look j s.bl = some c0 → blockOf (ν' k) = some g → blockOf (ν j) = some g → False:=by
        intro k c j c0 hc hj hc0 hgk hgj
        obtain ⟨g1,g2,g3⟩:=h.blkB hc0 hgj
        rcases (BRel_at (hW.blk k c hc) hgk).1 with h' | h'
        · exact absurd g3 (Nat.not_lt.2 h')
        · obtain ⟨j',c0',hj',hc0',hgj'⟩:=foot_iff h'
          exact h.W.ne j j' c0 c0' (by rintro rfl; rw [hj] at hj'; cases hj') hc0 hc0' g hgj hgj'
      rcases hcases i b hi with ⟨k,c1,rfl,hc1,_⟩ | ⟨hi1,b0,hb0,_⟩
      · rw [hνnew k c1 hc1] at hg
        rcases hcases j c hj with ⟨l,c2,rfl,hc2,_⟩ | ⟨hj1,c0,hc0,_⟩
        · rw [hνnew l c2 hc2] at hg'
          exact hW.ne k l c1 c2 (fun e => hij (by rw [e])) hc1 hc2 g hg hg'
        · rw [hνold j ⟨c0,hc0⟩] at hg'
          exact AB k c1 j c0 hc1 hj1 hc0 hg hg'
      · rw [hνold i ⟨b0,hb0⟩] at hg
        rcases hcases j c hj with ⟨l,c2,rfl,hc2,_⟩ | ⟨hj1,c0,hc0,_⟩
        · rw [hνnew l c2 hc2] at hg'
          exact AB l c2 i b0 hc2 hi1 hb0 hg' hg
        · rw [hνold j ⟨c0,hc0⟩] at hg'
          exact h.W.ne i j b0 c0 hij hb0 hc0 g hg hg'
  have hDeq:(s.hret0 d ids p bl').D = (⟨[],afterBl s dd ids bl'⟩:St).D:=by
    unfold St.D; rw [hbl]
  refine ⟨afterNu ν ν' dd bl',⟨⟨hk.os.trans h.below.os,hk.tape.trans h.below.tape,hk.output.trans h.below.output,Nat.le_trans h.below.size hk.size,fun b hb hx => ?_,fun hd => Nat.le_trans (h.below.drawn hd) (hk.drawn hd)⟩,fun b hb => h1 b (h.inS b hb),fun b hb => ?_,⟨hW'.lt,hW'.size,fun i b hb => ?_,fun i j b c hij hi hj => ?_⟩,fun t => ?_,?_,?_,h.few,fun i hi hDi => ?_,h.tab⟩⟩
  · rw [hk.block b (Nat.lt_of_lt_of_le hb h.below.size) (fun hf => ?_),h.below.block b hb hx]
    rcases (hfoot b hf).1 with h' | h'
    · omega
    · exact hx h'
  · rcases h2 b hb with h' | h'
    · exact h.fresh b h'
    · exact .inr (hown b h')
  · rw [hbl] at hb; rw [hDeq]; exact hW'.blk i b hb
  · rw [hbl] at hi hj; exact hW'.ne i j b c hij hi hj
  · rw [hDeq,hsl t]
    have hold:PRel ⟨afterNu ν ν' dd bl',(⟨[],afterBl s dd ids bl'⟩:St).D,w',⟨S',own0 w0 S0⟩⟩ ((s.get t).kill (deadIds bl' ids P0)) (a.tmps.getD t undef):=PRel_kill hleK hnb (h.slots t)
    cases d with
    | none => exact hold
    | some e =>
      by_cases ht:t = e
      · subst ht
        simp only [if_true]
        have htn:=hd t rfl
        have:(a.put (some t) v).tmps.getD t undef = v:=by simp [Act.put,h.size,htn]
        rw [this]
        exact PRel_ren hleR (PRel_keys (fun i hi => hi) hp) hp
      · show PRel _ (if t = e then p.ren (back ids dd) else (s.get t).kill (deadIds bl' ids P0)) _
        rw [if_neg ht]
        have:(a.put (some e) v).tmps.getD t undef = a.tmps.getD t undef:=by
          simp only [Act.put,Array.getD_eq_getD_getElem?]
          rw [Array.getElem?_setIfInBounds_ne (by omega)]
        rw [this]
        exact hold
  · rw [size_put]; exact h.size
  · rw [defers_put]; exact h.defers
  · rw [hDeq] at hDi
    obtain ⟨b,hb⟩:=hDi
    rcases hcases i b hb with ⟨k,c,rfl,hc,_⟩ | ⟨_,b0,hb0,_⟩
    · rcases hfresh k c hc with ⟨a1,a2,b0,a3⟩ | ⟨a1,_,a2,a3,a4⟩
      · rw [back_hi a1] at hi ⊢
        rw [hνold _ ⟨b0,a3⟩]
        exact h.kept _ hi ⟨b0,a3⟩
      · rw [back_lo a1] at hi; omega
    · rw [hνold i ⟨b0,hb0⟩]; exact h.kept i hi ⟨b0,hb0⟩
end
end Go.Proofs.Ytefpgfdemmllpaa
