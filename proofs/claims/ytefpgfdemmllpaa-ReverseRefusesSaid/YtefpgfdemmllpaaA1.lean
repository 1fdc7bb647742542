/-
  One operation: what the abstract step says holds of the model's step. Nothing here is trusted; no condition.
-/
import Derived.Below
import Derived.Calls
import Derived.Orders
import Derived.WalkKit
set_option linter.unusedSimpArgs false
set_option linter.unusedVariables false
namespace Go.Proofs.Ytefpgfdemmllpaa

inductive Ty where
  | unit | int (k:IntKind) | bool | str | sl (t:Ty) | own (t:Ty) | pair (a b:Ty) | st (t:Ty) | tup (a b:Ty) | ptr (t:Ty) | clo (f:Nat) (t:Ty)
  | mp (k v:Ty) | fnv

@[reducible] def Ty.den:Ty → Type
  | .unit => Unit | .int _ => Int | .bool => Bool | .str => List UInt8 | .sl t => List t.den | .own t => List t.den
  | .pair a b => a.den × b.den | .st t => t.den | .tup a b => a.den × b.den | .ptr t => t.den | .clo _ t => t.den
  | .mp k v => List (k.den × v.den) | .fnv => Nat

def Ty.cells:Ty → Nat
  | .unit => 0 | .pair a b => a.cells + b.cells | .st t => t.cells | .int _ => 1 | .bool => 1 | .str => 1 | .sl _ => 1 | .own _ => 1 | .tup _ _ => 1 | .ptr _ => 1 | .clo _ _ => 1 | .mp _ _ => 1 | .fnv => 1

def kindEq:IntKind → IntKind → Bool
  | .i8,.i8 => true | .i16,.i16 => true | .i32,.i32 => true | .i64,.i64 => true | .u8,.u8 => true | .u16,.u16 => true | .u32,.u32 => true | .u64,.u64 => true
  | _,_ => false
theorem kindEq_spec {a b:IntKind} (h:kindEq a b = true):a = b:=by cases a <;> cases b <;> first | rfl | cases h
def Ty.eq:Ty → Ty → Bool
  | .unit,.unit => true | .int k,.int l => kindEq k l | .bool,.bool => true | .str,.str => true
  | .sl a,.sl b => a.eq b | .own a,.own b => a.eq b | .pair a b,.pair c d => a.eq c && b.eq d | .st a,.st b => a.eq b
  | .tup a b,.tup c d => a.eq c && b.eq d | .ptr a,.ptr b => a.eq b | .clo f a,.clo g b => Nat.beq f g && a.eq b
  | .mp a b,.mp c d => a.eq c && b.eq d | .fnv,.fnv => true
  | _,_ => false
theorem Ty.eq_spec:∀ {a b:Ty},a.eq b = true → a = b:=by
  intro a
  induction a with
  | unit => intro b h; cases b <;> first | rfl | cases h
  | int k => intro b h; cases b <;> first | (rw [kindEq_spec h]) | cases h
  | bool => intro b h; cases b <;> first | rfl | cases h
  | str => intro b h; cases b <;> first | rfl | cases h
  | sl t ih => intro b h; cases b <;> first | (rw [ih h]) | cases h
  | own t ih => intro b h; cases b <;> first | (rw [ih h]) | cases h
  | st t ih => intro b h; cases b <;> first | (rw [ih h]) | cases h
  | ptr t ih => intro b h; cases b <;> first | (rw [ih h]) | cases h
  | pair x y ihx ihy =>
    intro b h
    cases b with
    | pair c d => simp only [Ty.eq,Bool.and_eq_true] at h; rw [ihx h.1,ihy h.2]
    | _ => cases h
  | tup x y ihx ihy =>
    intro b h
    cases b with
    | tup c d => simp only [Ty.eq,Bool.and_eq_true] at h; rw [ihx h.1,ihy h.2]
    | _ => cases h
  | clo f t ih =>
    intro b h
    cases b with
    | clo g u => simp only [Ty.eq,Bool.and_eq_true] at h; rw [ih h.2,Nat.eq_of_beq_eq_true h.1]
    | _ => cases h
  | mp x y ihx ihy =>
    intro b h
    cases b with
    | mp c d => simp only [Ty.eq,Bool.and_eq_true] at h; rw [ihx h.1,ihy h.2]
    | _ => cases h
  | fnv => intro b h; cases b <;> first | rfl | cases h
def Ty.cast (U T:Ty) (x:U.den):Option T.den:=if h:U.eq T = true then some (Ty.eq_spec h ▸ x) else none
theorem Ty.cast_some {U T:Ty} {x:U.den} {y:T.den} (h:Ty.cast U T x = some y):∃ e:U = T,e ▸ x = y:=by
  unfold Ty.cast at h
  split at h
  · rename_i he
    have e:=Ty.eq_spec he
    subst e
    exact ⟨rfl,by injection h⟩
  · cases h

def Ty.ok:(T:Ty) → T.den → Prop
  | .unit,_ => True | .int k,x => k.min ≤ x ∧ x ≤ k.max | .bool,_ => True | .str,x => x.length ≤ 9223372036854775807
  | .sl t,x => x.length ≤ 9223372036854775807 ∧ ∀ y,y ∈ x → t.ok y
  | .own t,x => x.length ≤ 9223372036854775807 ∧ ∀ y,y ∈ x → t.ok y
  | .pair a b,x => a.ok x.1 ∧ b.ok x.2 | .st t,x => t.ok x | .tup a b,x => a.ok x.1 ∧ b.ok x.2 | .ptr t,x => t.ok x | .clo _ t,x => t.ok x
  | .mp k v,x => x.length ≤ 9223372036854775807 ∧ ∀ y,y ∈ x → k.ok y.1 ∧ v.ok y.2 | .fnv,_ => True

def Ty.flat:Ty → Bool
  | .unit => true | .int _ => true | .bool => true | .str => true | .sl _ => false | .own _ => false | .pair a b => a.flat && b.flat | .st t => t.flat
  | .tup a b => a.flat && b.flat | .ptr _ => false | .clo _ _ => false | .mp _ _ => false | .fnv => true

structure Mem where
  S:Nat → Prop
  O:Nat → Prop

def valOf (T:Ty) (vs:List Value):Value:=match T with
  | .st _ => .agg vs.toArray
  | _ => vs.headD undef

def Births (ents:Array MapEntry) (clock:Nat):Prop:=clock = ents.size ∧ ∀ (i:Nat) (e:MapEntry),ents[i]? = some e → e.born = i

def CellsAt (w:World) (g o:Nat) (cs:List Value):Prop:=∀ j v,cs[j]? = some v → w.cell? ⟨g,o + j,none⟩ = some v

def RepC:(T:Ty) → T.den → World → Mem → List Value → Prop
  | .unit,_,_,_,vs => vs = []
  | .int k,x,_,_,vs => vs = [.int k x] ∧ k.min ≤ x ∧ x ≤ k.max
  | .bool,x,_,_,vs => vs = [.bool x]
  | .str,x,_,_,vs => vs = [.string ⟨x.toArray⟩] ∧ x.length ≤ 9223372036854775807
  | .sl t,x,w,M,vs => ∃ a cap,vs = [.slice a x.length cap] ∧ x.length ≤ cap ∧ cap ≤ 9223372036854775807 ∧
      (x = [] ∨ ∃ g o,a = some ⟨g,o,none⟩ ∧ M.S g ∧ ∀ i y,x[i]? = some y → ∃ cs,cs.length = t.cells ∧ CellsAt w g (o + i * t.cells) cs ∧ RepC t y w M cs)
  | .own t,x,w,M,vs => ∃ v,vs = [v] ∧ x.length ≤ 9223372036854775807 ∧ ((v = .slice none 0 0 ∧ x = []) ∨ ∃ g o cap cur e,v = .slice (some ⟨g,o,none⟩) x.length cap ∧ x.length ≤ cap ∧ cap ≤ 9223372036854775807 ∧ ¬ M.S g ∧ M.O g ∧
      w.heap[g]? = some (.cells cur e (0,0)) ∧ o + cap * t.cells ≤ cur.size ∧ ∀ i y,x[i]? = some y → ∃ cs,cs.length = t.cells ∧ CellsAt w g (o + i * t.cells) cs ∧ RepC t y w M cs)
  | .pair a b,x,w,M,vs => ∃ va vb,vs = va ++ vb ∧ RepC a x.1 w M va ∧ RepC b x.2 w M vb
  | .st t,x,w,M,vs => RepC t x w M vs
  | .tup _ _,_,_,_,_ => False
  | .ptr t,x,w,M,vs => ∃ g o cs,vs = [.pointer (some ⟨g,o,none⟩)] ∧ M.S g ∧ cs.length = t.cells ∧ CellsAt w g o cs ∧ RepC t x w M cs
  | .clo f t,x,w,M,vs => ∃ caps,vs = [.func (.func f) #[] caps.toArray] ∧ RepC t x w M caps
  | .mp k v,x,w,M,vs => x.length ≤ 9223372036854775807 ∧ ((vs = [.map none] ∧ x = []) ∨ ∃ (r:Nat) (ents:Array MapEntry) (clock:Nat),vs = [.map (some r)] ∧ M.S r ∧ w.heap[r]? = some (.map ents clock) ∧ Births ents clock ∧ ents.size = x.length ∧
      ∀ (i:Nat) (y:k.den × v.den),x[i]? = some y → ∃ (e:MapEntry) (ca cb:List Value),ents[i]? = some e ∧ e.key = valOf k ca ∧ RepC k y.1 w M ca ∧ e.val = valOf v cb ∧ RepC v y.2 w M cb)
  | .fnv,f,_,_,vs => vs = [.func (.func f) #[] #[]]

def RepV:(T:Ty) → T.den → World → Mem → Value → Prop
  | .unit,_,_,_,v => v = .tuple #[]
  | .st t,x,w,M,v => ∃ vs,v = .agg vs.toArray ∧ RepC t x w M vs
  | .pair _ _,_,_,_,_ => False
  | .tup _ _,_,_,_,_ => False
  | .int k,x,w,M,v => RepC (.int k) x w M [v]
  | .bool,x,w,M,v => RepC .bool x w M [v]
  | .str,x,w,M,v => RepC .str x w M [v]
  | .sl t,x,w,M,v => RepC (.sl t) x w M [v]
  | .own t,x,w,M,v => RepC (.own t) x w M [v]
  | .ptr t,x,w,M,v => RepC (.ptr t) x w M [v]
  | .clo f t,x,w,M,v => RepC (.clo f t) x w M [v]
  | .mp a b,x,w,M,v => RepC (.mp a b) x w M [v]
  | .fnv,x,w,M,v => RepC .fnv x w M [v]

def RepT:(T:Ty) → T.den → World → Mem → List Value → Prop
  | .tup a b,x,w,M,vs => ∃ v r,vs = v :: r ∧ RepV a x.1 w M v ∧ RepT b x.2 w M r
  | T,x,w,M,vs => ∃ v,vs = [v] ∧ RepV T x w M v

def RepR:(T:Ty) → T.den → World → Mem → Value → Prop
  | .tup a b,x,w,M,v => ∃ vs,v = .tuple vs.toArray ∧ RepT (.tup a b) x w M vs
  | T,x,w,M,v => RepV T x w M v
end Go.Proofs.Ytefpgfdemmllpaa
namespace Go.Proofs.Ytefpgfdemmllpaa

inductive PV where
  | iv (T:Ty) (x:T.den)
  | ref (id off:Nat)
  | eptr (T:Ty) (x:T.den) (off:Nat)
  | lfull (id:Nat)
  | lsl (id sz off len:Nat)
  | lptr (id sz i off:Nat)
  | agg (cs:List PV)
  | tup (vs:List PV)
  | nilsl
  | fn (f:Nat) (caps:List PV)
  | lmap (id:Nat)
  | nilptr
  | clip (T:Ty) (xs:List T.den)
  | aptr (id base:Nat) (T:Ty) (n:Nat) (i:Int)
  | bnd (f:Nat) (first:List PV)
  | ifc (t:Nat) (cs:List PV)
  | any

inductive Blk where
  | box (cs:List PV) (e:Option Nat:=none)
  | arr (T:Ty) (xs:List T.den) (e:Option Nat:=none)
  | mp (K V:Ty) (es:List (K.den × V.den))
  | it (src:List PV) (since:Nat) (seen:List Nat)
  | sit (s:List UInt8) (pos:Nat)

structure St where
  sl:List (Nat × PV)
  bl:List (Nat × Blk)

def look {α:Type}:Nat → List (Nat × α) → Option α
  | _,[] => none
  | t,p :: r => bif Nat.beq t p.1 then some p.2 else look t r
def mem1:Nat → List Nat → Bool
  | _,[] => false
  | t,u :: r => bif Nat.beq t u then true else mem1 t r
structure Reg where
  h:List Nat
  e:Bool
def lk (F:Reg) (bl:List (Nat × Blk)) (id:Nat):Option Blk:=bif mem1 id F.h then none else look id bl
def P0:Nat:=1000000000

def St.get (s:St) (t:Nat):PV:=match look t s.sl with | some v => v | none => .any
def St.set (s:St) (t:Nat) (v:PV):St:=⟨(t,v) :: s.sl,s.bl⟩
def St.put (s:St) (t:Option Nat) (v:PV):St:=match t with | some t => s.set t v | none => s

structure Env where
  P:Program
  ty:Nat → Option Ty
  str:Nat → Bool
  cmp:Nat → Bool
  fn:Nat → Option (List Ty × Ty)
  hfn:Nat → Option (List (Option Ty))
  mapKey:Nat → Option Nat
  ro:Nat → Nat → Bool
  tm:Bool
  boxT:Nat → Bool
  elm:Nat → Option Nat
  nd:Nat → Bool
  con:Nat → Bool
  px:Nat → Bool
  fl:Nat → Nat → List (List Nat)
  emp:Nat → Bool
  stp:Nat → Nat → Bool
  meth:Nat → String → Option (Nat × Option Nat)
def Env.go (E:Env):Env:={ E with stp:=fun _ _ => false }

def bytesOf (s:ByteArray):List UInt8:=s.data.toList
def cval:Value → PV
  | .int k n => .iv (.int k) n | .bool b => .iv .bool b | .string s => .iv .str (bytesOf s) | .slice none 0 0 => .nilsl | .pointer none => .nilptr | _ => .any
def St.ev (s:St):Operand → PV
  | .tmp t => s.get t | .const v => cval v | .global _ => .any | .func f => .fn f []

def cellsOf:(T:Ty) → T.den → List PV
  | .unit,_ => [] | .pair a b,x => cellsOf a x.1 ++ cellsOf b x.2 | .st t,x => cellsOf t x
  | .int k,x => [.iv (.int k) x] | .bool,x => [.iv .bool x] | .str,x => [.iv .str x] | .sl t,x => [.iv (.sl t) x] | .own t,x => [.iv (.own t) x]
  | .tup a b,x => [.iv (.tup a b) x] | .ptr t,x => [.iv (.ptr t) x] | .clo f t,x => [.iv (.clo f t) x]
  | .mp a b,x => [.iv (.mp a b) x] | .fnv,x => [.iv .fnv x]
def Ty.val:Ty → Bool
  | .unit => false | .pair _ _ => false | .tup _ _ => false
  | .int _ => true | .bool => true | .str => true | .sl _ => true | .own _ => true | .st _ => true | .ptr _ => true | .clo _ _ => true | .mp _ _ => true | .fnv => true
def PV.cells:PV → Option (List PV)
  | .iv T x => (match T.val with | true => some (cellsOf T x) | false => none) | .agg cs => some cs | .tup _ => none | .any => none
  | .ref a b => some [.ref a b] | .eptr T x o => some [.eptr T x o] | .lfull i => some [.lfull i] | .lsl a b c d => some [.lsl a b c d] | .lptr a b c d => some [.lptr a b c d]
  | .nilsl => some [.nilsl] | .fn f cs => some [.fn f cs] | .lmap i => some [.lmap i] | .nilptr => some [.nilptr] | .clip T xs => some [.clip T xs] | .aptr a b T n i => some [.aptr a b T n i] | .bnd f cs => some [.bnd f cs] | .ifc f cs => some [.ifc f cs]

def aggCells:PV → Option (List PV)
  | .iv T x => (match T,x with | .st R,x => some (cellsOf (.st R) x) | _,_ => none) | .agg cs => some cs | _ => none

def noOwn:Ty → Bool
  | .own _ => false | .pair a b => noOwn a && noOwn b | .st t => noOwn t | .tup a b => noOwn a && noOwn b | .sl t => noOwn t | .ptr t => noOwn t | .clo _ t => noOwn t
  | .unit => true | .int _ => true | .bool => true | .str => true | .mp a b => noOwn a && noOwn b | .fnv => true
def mpZ (T:Ty):Bool:=noOwn T
def zeroCells:Ty → Option (List PV)
  | .unit => some [] | .int k => some [.iv (.int k) (0:Int)] | .bool => some [.iv .bool false] | .str => some [.iv .str ([]:List UInt8)]
  | .sl _ => some [.nilsl] | .own _ => none | .pair a b => match zeroCells a,zeroCells b with | some x,some y => some (x ++ y) | _,_ => none
  | .st t => zeroCells t | .tup _ _ => none | .ptr _ => some [.nilptr] | .clo _ _ => none | .mp a b => (match mpZ (.mp a b) with | true => some [.iv (.mp a b) ([]:List (a.den × b.den))] | false => some [.any]) | .fnv => some [.any]
def Ty.zer:Ty → Bool
  | .unit => true | .int _ => true | .bool => true | .str => true | .sl _ => true | .own _ => false | .pair a b => a.zer && b.zer | .st t => t.zer | .tup _ _ => false | .ptr _ => false | .clo _ _ => false | .mp _ _ => true | .fnv => false
def zeroDen:(T:Ty) → T.den
  | .unit => () | .int _ => (0:Int) | .bool => false | .str => ([]:List UInt8) | .sl t => ([]:List t.den) | .own t => ([]:List t.den) | .pair a b => (zeroDen a,zeroDen b)
  | .st t => zeroDen t | .tup a b => (zeroDen a,zeroDen b) | .ptr t => zeroDen t | .clo _ t => zeroDen t
  | .mp a b => ([]:List (a.den × b.den)) | .fnv => (0:Nat)

def withR {α:Type} (x:Option α) (r:List PV):Option (α × List PV):=match x with | some x => some (x,r) | none => none
def fstOf {α:Type} (x:Option (α × List PV)):Option α:=match x with | some (x,[]) => some x | _ => none
def asLit (T:Ty):PV → Option T.den
  | .iv U x => Ty.cast U T x | _ => none
def asSl (F:Reg) (bl:List (Nat × Blk)) (t:Ty):PV → Option (List t.den)
  | .iv U x => Ty.cast U (.sl t) x
  | .lfull id => match lk F bl id with | some (.arr U xs _) => Ty.cast (.sl U) (.sl t) xs | _ => none
  | .lsl id sz off len => match lk F bl id with
    | some (.arr U xs _) => (match Nat.beq sz U.cells with | true => Ty.cast (.sl U) (.sl t) ((xs.drop off).take len) | false => none)
    | _ => none
  | .nilsl => some []
  | .clip U xs => Ty.cast (.sl U) (.sl t) xs
  | _ => none
def asOwn (bl:List (Nat × Blk)) (t:Ty):PV → Option (List t.den)
  | .lfull id => match look id bl with | some (.arr U xs _) => Ty.cast (.sl U) (.sl t) xs | _ => none
  | .nilsl => some []
  | _ => none
def asMp (F:Reg) (bl:List (Nat × Blk)) (k v:Ty):PV → Option (List (k.den × v.den))
  | .iv U x => Ty.cast U (.mp k v) x
  | .lmap id => match lk F bl id with | some (.mp K V es) => Ty.cast (.mp K V) (.mp k v) es | _ => none
  | _ => none
def asFnv:PV → Option Nat
  | .iv U x => Ty.cast U .fnv x
  | .fn f [] => some f
  | _ => none
def boxAt (F:Reg) (bl:List (Nat × Blk)) (id off:Nat):Option (List PV):=match off,lk F bl id with
  | 0,some (.box cs _) => some cs
  | _,_ => none
def pk (F:Reg) (bl:List (Nat × Blk)):(T:Ty) → List PV → Option (T.den × List PV)
  | .unit,cs => some ((),cs)
  | .pair a b,cs => match pk F bl a cs with
    | some (x,r) => match pk F bl b r with | some (y,r') => some ((x,y),r') | none => none
    | none => none
  | .st t,cs => pk F bl t cs
  | .tup _ _,_ => none
  | .int k,cs => match cs with | c :: r => withR (asLit (.int k) c) r | [] => none
  | .bool,cs => match cs with | c :: r => withR (asLit .bool c) r | [] => none
  | .str,cs => match cs with | c :: r => withR (asLit .str c) r | [] => none
  | .sl t,cs => match cs with | c :: r => withR (asSl F bl t c) r | [] => none
  | .own t,cs => match cs with | c :: r => withR (asOwn bl t c) r | [] => none
  | .mp a b,cs => match cs with | c :: r => withR (asMp F bl a b c) r | [] => none
  | .fnv,cs => match cs with | c :: r => withR (asFnv c) r | [] => none
  | .ptr t,cs => match cs with
    | c :: r => match c with
      | .iv U x => withR (Ty.cast U (.ptr t) x) r
      | .eptr U x off => match off with | 0 => withR (Ty.cast U t x) r | _ + 1 => none
      | .ref id off => match boxAt F bl id off with | some cs => withR (fstOf (pk F bl t cs)) r | none => none
      | _ => none
    | [] => none
  | .clo f t,cs => match cs with
    | c :: r => match c with
      | .iv U x => withR (Ty.cast U (.clo f t) x) r
      | .fn g caps => bif Nat.beq f g then withR (fstOf (pk F bl t caps)) r else none
      | _ => none
    | [] => none

def exp (F:Reg) (bl:List (Nat × Blk)) (T:Ty) (p:PV):Option T.den :=
  match T with
  | .st t => match p with
    | .iv U x => Ty.cast U (.st t) x
    | .agg cs => fstOf (pk F bl t cs)
    | _ => none
  | .unit => none
  | .pair _ _ => none
  | .tup _ _ => none
  | T => fstOf (pk F bl T [p])

def expAll (F:Reg) (bl:List (Nat × Blk)):List Ty → List PV → Option (List (Sigma Ty.den))
  | [],[] => some []
  | T :: Ts,p :: ps => match exp F bl T p with
    | some x => match expAll F bl Ts ps with | some r => some (⟨T,x⟩ :: r) | none => none
    | none => none
  | _,_ => none

def expT (F:Reg) (bl:List (Nat × Blk)):(T:Ty) → List PV → Option T.den
  | .tup a b,ps => match ps with
    | p :: r => match exp F bl a p with
      | some x => match expT F bl b r with | some y => some (x,y) | none => none
      | none => none
    | [] => none
  | T,ps => match ps with
    | [p] => exp F bl T p
    | _ => none
def expR (F:Reg) (bl:List (Nat × Blk)) (T:Ty) (ps:List PV):Option T.den :=
  match T with
  | .unit => match ps with | [] => some () | _ :: _ => none
  | T => expT F bl T ps

mutual
def PV.arrs:PV → List Nat
  | .lfull i => [i] | .lsl i _ _ _ => [i] | .lptr i _ _ _ => [i] | .lmap i => [i] | .agg cs => PV.arrsL cs | .tup cs => PV.arrsL cs | .fn _ cs => PV.arrsL cs | .bnd _ cs => PV.arrsL cs | .ifc _ cs => PV.arrsL cs | .aptr _ _ _ _ _ => []
  | .iv _ _ => [] | .ref _ _ => [] | .eptr _ _ _ => [] | .nilsl => [] | .nilptr => [] | .clip _ _ => [] | .any => []
def PV.arrsL:List PV → List Nat
  | [] => [] | p :: ps => PV.arrs p ++ PV.arrsL ps
end
mutual
def PV.refs:PV → Bool
  | .ref _ _ => true | .aptr _ _ _ _ _ => true | .bnd _ cs => PV.refsL cs | .ifc _ cs => PV.refsL cs | .agg cs => PV.refsL cs | .tup cs => PV.refsL cs | .fn _ cs => PV.refsL cs
  | .lfull _ => false | .lmap _ => false | .lsl _ _ _ _ => false | .lptr _ _ _ _ => false | .iv _ _ => false | .eptr _ _ _ => false | .nilsl => false | .nilptr => false | .clip _ _ => false | .any => false
def PV.refsL:List PV → Bool
  | [] => false | p :: ps => PV.refs p || PV.refsL ps
end
mutual
def PV.ids:PV → List Nat
  | .ref i _ => [i] | .lfull i => [i] | .lsl i _ _ _ => [i] | .lptr i _ _ _ => [i] | .lmap i => [i] | .agg cs => PV.idsL cs | .tup cs => PV.idsL cs | .fn _ cs => PV.idsL cs | .bnd _ cs => PV.idsL cs | .ifc _ cs => PV.idsL cs | .aptr i _ _ _ _ => [i]
  | .iv _ _ => [] | .eptr _ _ _ => [] | .nilsl => [] | .nilptr => [] | .clip _ _ => [] | .any => []
def PV.idsL:List PV → List Nat
  | [] => [] | p :: ps => PV.ids p ++ PV.idsL ps
end
mutual
def PV.kill (ks:List Nat):PV → PV
  | .lfull i => bif mem1 i ks then .any else .lfull i
  | .lsl i a b c => bif mem1 i ks then .any else .lsl i a b c
  | .lptr i a b c => bif mem1 i ks then .any else .lptr i a b c
  | .agg cs => .agg (PV.killL ks cs) | .tup cs => .tup (PV.killL ks cs) | .fn f cs => .fn f (PV.killL ks cs) | .bnd f cs => .bnd f (PV.killL ks cs) | .ifc f cs => .ifc f (PV.killL ks cs) | .aptr i b T n j => .aptr i b T n j
  | .iv T x => .iv T x | .ref a b => .ref a b | .eptr T x o => .eptr T x o | .nilsl => .nilsl | .lmap i => .lmap i | .nilptr => .nilptr | .clip T x => .clip T x | .any => .any
def PV.killL (ks:List Nat):List PV → List PV
  | [] => [] | p :: ps => PV.kill ks p :: PV.killL ks ps
end
mutual
def PV.ren (ρ:Nat → Nat):PV → PV
  | .lfull i => .lfull (ρ i) | .lsl i a b c => .lsl (ρ i) a b c | .lptr i a b c => .lptr (ρ i) a b c | .ref i o => .ref (ρ i) o | .lmap i => .lmap (ρ i)
  | .agg cs => .agg (PV.renL ρ cs) | .tup cs => .tup (PV.renL ρ cs) | .fn f cs => .fn f (PV.renL ρ cs) | .bnd f cs => .bnd f (PV.renL ρ cs) | .ifc f cs => .ifc f (PV.renL ρ cs) | .aptr i b T n j => .aptr (ρ i) b T n j
  | .iv T x => .iv T x | .eptr T x o => .eptr T x o | .nilsl => .nilsl | .nilptr => .nilptr | .clip T x => .clip T x | .any => .any
def PV.renL (ρ:Nat → Nat):List PV → List PV
  | [] => [] | p :: ps => PV.ren ρ p :: PV.renL ρ ps
end
def fnvR:List Nat → Ty
  | [] => .unit | [_] => .fnv | _ :: y :: r => .pair .fnv (fnvR (y :: r))
def rowD:(l:List Nat) → (fnvR l).den
  | [] => () | [x] => x | x :: y :: r => (x,rowD (y :: r))
def rowL:(T:Ty) → T.den → Option (List Nat)
  | .fnv,x => some [x]
  | .pair .fnv B,x => match rowL B x.2 with | some l => some (x.1 :: l) | none => none
  | _,_ => none
theorem rowL_rowD:∀ (x:Nat) (l:List Nat),rowL (fnvR (x :: l)) (rowD (x :: l)) = some (x :: l)
  | _,[] => rfl
  | x,y :: r => by simp only [fnvR,rowD,rowL,rowL_rowD y r]
def fnvs:List PV → Option (List Nat)
  | [] => some []
  | .iv .fnv f :: r => match fnvs r with | some l => some (f :: l) | none => none
  | _ => none
mutual
def PV.sealw (ks:List Nat) (bl:List (Nat × Blk)):PV → PV
  | .lfull i => bif mem1 i ks then (match look i bl with | some (.arr T xs _) => .iv (.sl T) xs | _ => .any) else .lfull i
  | .lsl i a b c => bif mem1 i ks then (match look i bl with | some (.arr T xs _) => (match Nat.beq a T.cells with | true => .iv (.sl T) ((xs.drop b).take c) | false => .any) | _ => .any) else .lsl i a b c
  | .lptr i a b c => bif mem1 i ks then .any else .lptr i a b c
  | .lmap i => bif mem1 i ks then (match look i bl with | some (.mp K V es) => .iv (.mp K V) es | _ => .any) else .lmap i
  | .ref i o => bif mem1 i ks then (match look i bl with | some (.box cs _) => (match fnvs cs with | some (x :: l) => .eptr (.st (fnvR (x :: l))) (rowD (x :: l)) o | _ => .any) | _ => .any) else .ref i o
  | .agg cs => .agg (PV.sealL ks bl cs) | .tup cs => .tup (PV.sealL ks bl cs) | .fn f cs => .fn f (PV.sealL ks bl cs) | .bnd f cs => .bnd f (PV.sealL ks bl cs) | .ifc f cs => .ifc f (PV.sealL ks bl cs) | .aptr i b T n j => bif mem1 i ks then .any else .aptr i b T n j
  | .iv U x => .iv U x | .eptr U x o => .eptr U x o | .nilsl => .nilsl | .nilptr => .nilptr | .clip U x => .clip U x | .any => .any
def PV.sealL (ks:List Nat) (bl:List (Nat × Blk)):List PV → List PV
  | [] => [] | p :: ps => PV.sealw ks bl p :: PV.sealL ks bl ps
end
mutual
def PV.inn (ks:List Nat):PV → Bool
  | .ref i _ => mem1 i ks | .lfull i => mem1 i ks | .lsl i _ _ _ => mem1 i ks | .lptr i _ _ _ => mem1 i ks | .lmap i => mem1 i ks
  | .agg cs => PV.innL ks cs | .tup cs => PV.innL ks cs | .fn _ cs => PV.innL ks cs | .bnd _ cs => PV.innL ks cs | .ifc _ cs => PV.innL ks cs | .aptr i _ _ _ _ => mem1 i ks
  | .iv _ _ => true | .eptr _ _ _ => true | .nilsl => true | .nilptr => true | .clip _ _ => true | .any => true
def PV.innL (ks:List Nat):List PV → Bool
  | [] => true | p :: ps => PV.inn ks p && PV.innL ks ps
end
def mapSl (f:PV → PV):List (Nat × PV) → List (Nat × PV)
  | [] => [] | p :: r => (p.1,f p.2) :: mapSl f r
def Blk.map (f:List PV → List PV):Blk → Blk
  | .box cs e => .box (f cs) e | .arr T xs e => .arr T xs e | .mp K V es => .mp K V es | .it cs a b => .it (f cs) a b | .sit x p => .sit x p
def mapBl (f:List PV → List PV):List (Nat × Blk) → List (Nat × Blk)
  | [] => [] | p :: r => (p.1,p.2.map f) :: mapBl f r
def dropBl (ks:List Nat):List (Nat × Blk) → List (Nat × Blk)
  | [] => [] | p :: r => bif mem1 p.1 ks then dropBl ks r else p :: dropBl ks r
def St.kill (s:St) (ks:List Nat):St:=⟨mapSl (PV.kill ks) s.sl,mapBl (PV.killL ks) s.bl⟩
def St.sealw (s:St) (ks:List Nat):St:=⟨mapSl (PV.sealw ks s.bl) s.sl,dropBl ks (mapBl (PV.sealL ks s.bl) s.bl)⟩

/-! A call that is handed local blocks: their names among themselves, and back. -/
def idxOf (i:Nat):List Nat → Nat → Nat
  | [],j => j | k :: r,j => bif Nat.beq i k then j else idxOf i r (j + 1)
def nthN:List Nat → Nat → Nat
  | [],_ => 0 | x :: _,0 => x | _ :: r,n + 1 => nthN r n
def fwd (ids:List Nat) (i:Nat):Nat:=P0 + idxOf i ids 0
def back (ids:List Nat) (d:Nat) (i:Nat):Nat:=bif Nat.ble P0 i then nthN ids (i - P0) else i + 100000 * (d + 1)
def renBl (ρ:Nat → Nat):List (Nat × Blk) → List (Nat × Blk)
  | [] => [] | p :: r => (ρ p.1,p.2.map (PV.renL ρ)) :: renBl ρ r
def blkIds:Option Blk → List Nat
  | some (.box cs _) => PV.idsL cs | some (.it cs _ _) => PV.idsL cs | _ => []
def reach (bl:List (Nat × Blk)):Nat → List Nat → List Nat → List Nat
  | 0,_,acc => acc
  | _ + 1,[],acc => acc
  | n + 1,i :: r,acc => match mem1 i acc with | true => reach bl n r acc | false => reach bl n (r ++ blkIds (look i bl)) (acc ++ [i])
def passed (ids:List Nat) (bl:List (Nat × Blk)):List Nat → Nat → List (Nat × Blk)
  | [],_ => []
  | i :: r,j => match look i bl with | some b => (j,b.map (PV.renL (fwd ids))) :: passed ids bl r (j + 1) | none => passed ids bl r (j + 1)
def deadIds (bl':List (Nat × Blk)):List Nat → Nat → List Nat
  | [],_ => []
  | i :: r,j => match look j bl' with | some _ => deadIds bl' r (j + 1) | none => i :: deadIds bl' r (j + 1)
def St.hret0 (s:St) (d:Option Nat) (ids:List Nat) (p:PV) (bl':List (Nat × Blk)):St:=match d with
  | some d => ⟨(d,p.ren (back ids d)) :: (s.kill (deadIds bl' ids P0)).sl,renBl (back ids d) bl' ++ dropBl ids (s.kill (deadIds bl' ids P0)).bl⟩
  | none => ⟨(s.kill (deadIds bl' ids P0)).sl,renBl (back ids 0) bl' ++ dropBl ids (s.kill (deadIds bl' ids P0)).bl⟩
def St.hret (s:St) (d:Option Nat) (ids:List Nat) (p:PV) (bl':List (Nat × Blk)):St:=match ids with
  | [] => s.hret0 d [] p bl'
  | i :: r => match Nat.beq i 2000000001 with
    | false => s.hret0 d (i :: r) p bl'
    | true => match r with | k :: r => (s.sealw [k]).hret0 d r p bl' | [] => s
def notMark:List Nat → Bool
  | [] => true | i :: _ => match Nat.beq i 2000000001 with | true => false | false => true

inductive Out where
  | fail (why:Nat)
  | val (v:PV)
  | new (v:PV) (b:Blk)
  | store (id:Nat) (b:Blk)
  | append (id j:Nat) (b:Blk)
  | hret (ids:List Nat) (p:PV) (bl:List (Nat × Blk))
  | sealed (ks:List Nat) (v:PV)
  | need (p:Prop) (o:Out)
  | exi (T:Ty) (p:T.den → Prop) (o:T.den → Out)
  | call (f:Nat) (args:List (Sigma Ty.den)) (T:Ty) (o:T.den → Out)
  | ncall (f:Nat) (args:List (Sigma Ty.den)) (T:Ty) (o:T.den → Out)
  | upd (id:Nat) (b:Blk) (v:PV)
  | sstore (ks:List Nat) (id:Nat) (b:Blk)
  | imp (p:Prop) (o:Out)
  | both (a b:Out)
  | allx (T:Ty) (p:T.den → Prop) (o:T.den → Out)
  | alln (p:Nat → Prop) (o:Nat → Out)
  | hcall (f:Nat) (args:List PV) (bl:List (Nat × Blk)) (ids:List Nat) (flat:Bool) (used:List Nat) (d:Option Nat)
  | hncall (f:Nat) (args:List PV) (bl:List (Nat × Blk)) (ids:List Nat) (flat:Bool) (used:List Nat) (d:Option Nat)

def St.fin (s:St) (d:Option Nat):Out → St
  | .val v => s.put d v
  | .new v b => match d with | some d => ⟨(d,v) :: s.sl,(d,b) :: s.bl⟩ | none => s
  | .store id b => ⟨s.sl,(id,b) :: s.bl⟩
  | .append id j b => match d with | some d => ⟨(d,.lfull j) :: (s.kill [id]).sl,(j,b) :: dropBl [id] (s.kill [id]).bl⟩ | none => s
  | .hret ids p bl => s.hret d ids p bl
  | .sealed ks v => (s.sealw ks).put d v
  | .upd id b v => match d with | some d => ⟨(d,v) :: s.sl,(id,b) :: s.bl⟩ | none => ⟨s.sl,(id,b) :: s.bl⟩
  | .sstore ks id b => ⟨(s.sealw ks).sl,(id,b) :: (s.sealw ks).bl⟩
  | _ => s

def fieldOff:Ty → Nat → Nat
  | .pair a b,f => match f with | 0 => 0 | f + 1 => a.cells + fieldOff b f
  | _,_ => 0
def fieldTy:Ty → Nat → Ty
  | .pair a b,f => match f with | 0 => a | f + 1 => fieldTy b f
  | T,_ => T
def offOf:Ty → Nat → Nat
  | .st t,f => fieldOff t f
  | _,_ => 0
def fldTy:Ty → Nat → Ty
  | .st t,f => fieldTy t f
  | T,_ => T
def elemTy:Ty → Ty
  | .sl t => t | .st t => fieldTy t 0 | T => T
def chainLen:Ty → Nat
  | .pair _ b => 1 + chainLen b | _ => 1
def arrLen:Ty → Nat
  | .st t => chainLen t | _ => 0

def join (T:Ty) (cs:List PV):PV:=match T with
  | .st _ => .agg cs
  | _ => match cs with | c :: _ => c | [] => .any
def part (T U:Ty) (x:U.den) (off:Nat):PV:=match T.eq U,off with
  | true,0 => .iv U x
  | _,_ => join T (((cellsOf U x).drop off).take T.cells)

def widens:IntKind → IntKind → Bool
  | .u8,.u8 => true | .u8,.i16 => true | .u8,.i32 => true | .u8,.i64 => true | .u8,.u16 => true | .u8,.u32 => true | .u8,.u64 => true
  | .i8,.i8 => true | .i8,.i16 => true | .i8,.i32 => true | .i8,.i64 => true
  | .i16,.i16 => true | .i16,.i32 => true | .i16,.i64 => true
  | .u16,.u16 => true | .u16,.i32 => true | .u16,.i64 => true | .u16,.u32 => true | .u16,.u64 => true
  | .i32,.i32 => true | .i32,.i64 => true | .u32,.u32 => true | .u32,.i64 => true | .u32,.u64 => true | .i64,.i64 => true | .u64,.u64 => true
  | _,_ => false

def beqD:(T:Ty) → T.den → T.den → Option Bool
  | .int _,x,y => some (decide (x = y)) | .bool,x,y => some (x == y) | .str,x,y => some (decide (x = y))
  | .pair a b,x,y => match beqD a x.1 y.1,beqD b x.2 y.2 with | some p,some q => some (p && q) | _,_ => none
  | .st t,x,y => beqD t x y
  | _,_,_ => none

def bytesLess:List UInt8 → List UInt8 → Bool
  | _,[] => false
  | [],_ :: _ => true
  | a :: x,b :: y => decide (a < b) || (a == b && bytesLess x y)

def arith (k:IntKind) (r:Int):Out:=.need (k.min ≤ r ∧ r ≤ k.max) (.val (.iv (.int k) r))
def boolV (b:Bool):Out:=.val (.iv .bool b)
def binInt (op:BinOp) (k:IntKind) (x y:Int):Out:=match op with
  | .add => arith k (x + y) | .sub => arith k (x - y) | .mul => arith k (x * y)
  | .quo => .need (0 ≤ x ∧ 0 < y) (.val (.iv (.int k) (x / y:Int)))
  | .rem => .need (0 ≤ x ∧ 0 < y) (.val (.iv (.int k) (x % y:Int)))
  | .and => .need (0 ≤ x ∧ 0 ≤ y) (.val (.iv (.int k) ((x.toNat &&& y.toNat:Nat):Int)))
  | .or => .need (0 ≤ x ∧ 0 ≤ y) (.val (.iv (.int k) ((x.toNat ||| y.toNat:Nat):Int)))
  | .lss => boolV (decide (x < y)) | .leq => boolV (decide (x ≤ y)) | .gtr => boolV (decide (y < x)) | .geq => boolV (decide (y ≤ x))
  | .eql => boolV (decide (x = y)) | .neq => boolV (!decide (x = y))
  | _ => .fail 1
def shiftInt (op:BinOp) (k:IntKind) (x y:Int):Out:=match op with
  | .shl => .need (0 ≤ y ∧ y < k.bits) (arith k (x * 2 ^ y.toNat))
  | .shr => .need (0 ≤ x ∧ 0 ≤ y ∧ y < k.bits) (.val (.iv (.int k) (x / 2 ^ y.toNat:Int)))
  | _ => .fail 2
def binStr (op:BinOp) (x y:List UInt8):Out:=match op with
  | .add => .need (x.length + y.length ≤ 9223372036854775807) (.val (.iv .str (x ++ y:List UInt8)))
  | .eql => boolV (decide (x = y)) | .neq => boolV (!decide (x = y))
  | .lss => boolV (bytesLess x y) | .geq => boolV (!bytesLess x y)
  | _ => .fail 3
def negIf (neg b:Bool):Bool:=match neg with | true => !b | false => b
def dep:Ty → Nat
  | .pair a b => dep a + dep b | .st t => 1 + dep t | _ => 0
def canEq (E:Env) (t:Nat):Ty → Bool
  | .bool => true | .st R => E.cmp t && Nat.ble (dep R) 100 | _ => false
def ptrNil (T:Ty) (a b:PV):Option Bool:=match T with
  | .ptr _ => (match b with
    | .nilptr => (match a with | .nilptr => some true | .iv (.ptr _) _ => some false | .eptr _ _ _ => some false | .ref _ _ => some false | _ => none)
    | _ => none)
  | _ => none
def binEq (E:Env) (F:Reg) (bl:List (Nat × Blk)) (t:Nat) (neg:Bool) (a b:PV):Out:=match E.ty t with
  | some T => match ptrNil T a b with
   | some r => boolV (negIf neg r)
   | none => match exp F bl T a,exp F bl T b,canEq E t T with
    | some x,some y,true => match beqD T x y with
      | some r => boolV (negIf neg r)
      | none => .fail 4
    | _,_,_ => .fail 5
  | none => .fail 6
def isRem:BinOp → Bool | .rem => true | _ => false
def isQuo:BinOp → Bool | .quo => true | _ => false
def isShift:BinOp → Bool | .shl => true | .shr => true | _ => false
def binO (E:Env) (F:Reg) (bl:List (Nat × Blk)) (op:BinOp) (t:Nat) (a b:PV):Out:=match a,b with
  | .iv (.int k) x,.iv (.int l) y => match isShift op with
    | true => shiftInt op k x y
    | false => match kindEq k l with
      | true => (match E.tm && isRem op with | true => .need (0 < y) (.val (.iv (.int k) (Int.tmod x y))) | false => (match E.tm && isQuo op with | true => .need (0 < y) (.val (.iv (.int k) (Int.tdiv x y))) | false => binInt op k x y))
      | false => .fail 7
  | .iv .str x,.iv .str y => binStr op x y
  | _,_ => match op with
    | .eql => binEq E F bl t false a b
    | .neq => binEq E F bl t true a b
    | _ => .fail 8

def nilCmp1 (E:Env) (F:Reg) (t:Nat) (neg:Bool) (a b:PV):Option Out:=match b with
  | .nilsl => (match F.e,E.ty t with
    | true,some (.sl _) => (match a with
      | .iv (.sl _) xs => some (.allx .bool (fun r => negIf neg r = true → xs = []) fun r => .val (.iv .bool r))
      | .nilsl => some (boolV (negIf neg true))
      | _ => none)
    | _,_ => none)
  | _ => none
def nilCmp (E:Env) (F:Reg) (op:BinOp) (t:Nat) (a b:PV):Option Out:=match op with
  | .eql => nilCmp1 E F t false a b
  | .neq => nilCmp1 E F t true a b
  | _ => none
def intV (n:Nat):Out:=.val (.iv (.int .i64) (n:Int))
def lenO (E:Env) (F:Reg) (bl:List (Nat × Blk)) (t:Nat) (p:PV):Out:=match E.ty t with
  | some .str => match p with
    | .iv .str xs => intV xs.length
    | _ => .fail 10
  | some (.sl _) => match p with
    | .iv (.sl _) xs => intV xs.length
    | .lfull id => match lk F bl id with | some (.arr _ xs _) => intV xs.length | _ => .fail 10
    | .lsl _ _ _ len => .need (len ≤ 9223372036854775807) (intV len)
    | .nilsl => intV 0
    | _ => .fail 10
  | some (.mp _ _) => match p with
    | .lmap id => match lk F bl id with | some (.mp _ _ es) => intV es.length | _ => .fail 10
    | _ => .fail 10
  | _ => .fail 11

def isIntT:Option Ty → Bool | some (.int _) => true | _ => false
def appSrc (E:Env) (F:Reg) (bl:List (Nat × Blk)) (T:Ty) (t u:Nat) (q:PV):Option (List T.den):=match Nat.beq t u with
  | true => asSl F bl T q
  | false => match E.ty u with
    | some .str => match T with
      | .int k => match kindEq k .u8,q with | true,.iv .str x => some (x.map fun c:UInt8 => (c.toNat:Int)) | _,_ => none
      | _ => none
    | _ => none
def keepE (e el:Option Nat):Option Nat:=match e,el with | some a,some b => (match Nat.beq a b with | true => some a | false => none) | _,_ => none
def appendO (F:Reg) (bl:List (Nat × Blk)) (T:Ty) (d:Nat) (p:PV) (src:Option (List T.den)) (el:Option Nat):Out:=match src with
  | some ys => match p with
    | .nilsl => .need (ys.length ≤ 1099511627776) (.new (.lfull 0) (.arr T ys el))
    | .clip U xs => match Ty.cast (.sl U) (.sl T) xs,look d bl with
      | some xs,none => .both (.imp (ys = []) (.val p)) (.imp (ys ≠ []) (.need (xs.length + ys.length ≤ 1099511627776) (.new (.lfull d) (.arr T (xs ++ ys)))))
      | _,_ => .fail 12
    | .lfull id => match lk F bl id with
      | some (.arr U xs e) => match Ty.cast (.sl U) (.sl T) xs with
        | some xs => .need (xs.length + ys.length ≤ 1099511627776) (.append id 0 (.arr T (xs ++ ys) (keepE e el)))
        | none => .fail 12
      | _ => .fail 13
    | .lsl id sz off len => match lk F bl id with
      | some (.arr U xs _) => match Ty.cast (.sl U) (.sl T) xs,Nat.beq sz U.cells with
        | some xs,true => .need ((off < xs.length ∨ off = xs.length ∧ len = 0 ∧ ys ≠ []) ∧ len + ys.length ≤ 1099511627776) (.append id 0 (.arr T ((xs.drop off).take len ++ ys)))
        | _,_ => .fail 14
      | _ => .fail 15
    | _ => .fail 16
  | none => .fail 17

def litP (T:Ty) (xs:List T.den):PV:=match xs with
  | [] => .clip T []
  | x :: r => .iv (.sl T) (x :: r)
def appendC (bl:List (Nat × Blk)) (T:Ty) (d:Nat) (p:PV) (src:Option (List T.den)):Out:=match src,p,look d bl with
  | some ys,.clip U xs,none => (match Ty.cast (.sl U) (.sl T) xs with
    | some xs => .need (ys ≠ [] ∧ xs.length + ys.length ≤ 1099511627776) (.new (.lfull d) (.arr T (xs ++ ys)))
    | none => .fail 12)
  | _,_,_ => .fail 12
def cut {α:Type} (xs:List α) (lo hi:Option Int):List α:=match lo,hi with
  | none,none => xs | none,some h => xs.take h.toNat | some l,none => xs.drop l.toNat | some l,some h => (xs.drop l.toNat).take (h.toNat - l.toNat)
def inCut (n:Int) (lo hi:Option Int):Prop:=match lo,hi with
  | none,none => True | none,some h => 0 ≤ h ∧ h ≤ n | some l,none => 0 ≤ l ∧ l ≤ n | some l,some h => 0 ≤ l ∧ l ≤ h ∧ h ≤ n
def cutLo:Option Int → Nat | none => 0 | some l => l.toNat
def cutHi (n:Nat):Option Int → Nat | none => n | some h => h.toNat
def sliceO (F:Reg) (bl:List (Nat × Blk)) (ar:Bool) (T:Ty) (p:PV) (lo hi:Option Int):Out:=match T with
  | .str => match p with
    | .iv .str s => .need (inCut s.length lo hi) (.val (.iv .str (cut s lo hi)))
    | _ => .fail 18
  | .sl T => match p with
    | .iv (.sl U) xs => match Ty.cast (.sl U) (.sl T) xs with
      | some xs => .need (inCut xs.length lo hi) (.val (.iv (.sl T) (cut xs lo hi)))
      | none => .fail 18
    | .lfull id => match lk F bl id with
      | some (.arr U xs _) => match Nat.beq U.cells T.cells with
        | true => .need (inCut xs.length lo hi) (.val (.lsl id T.cells (cutLo lo) (cutHi xs.length hi - cutLo lo)))
        | false => .fail 18
      | _ => .fail 18
    | .lsl id sz off len => match Nat.beq sz T.cells with
      | true => .need (inCut len lo hi) (.val (.lsl id sz (off + cutLo lo) (cutHi len hi - cutLo lo)))
      | false => .fail 18
    | .nilsl => .need (inCut 0 lo hi) (.val .nilsl)
    | _ => .fail 19
  | .st R => match p with
    | .eptr (.st U) x 0 => match rowL U x,lo,hi with
      | some l,none,none => (match Nat.beq (chainLen R) l.length && (fieldTy R 0).eq .fnv && ar && Nat.ble l.length 1000 with | true => .val (.iv (.sl .fnv) l) | false => .fail 19)
      | _,_,_ => .fail 19
    | _ => .fail 19
  | _ => .fail 19
def slice3O (T:Ty) (p:PV) (lo hi:Option Int) (m:Int):Out:=match T with
  | .sl T => match p with
    | .iv (.sl U) xs => match Ty.cast (.sl U) (.sl T) xs,hi with
      | some xs,some h => .need (inCut xs.length lo hi ∧ m = h) (.val (.clip T (cut xs lo hi)))
      | _,_ => .fail 18
    | .clip U xs => match Ty.cast (.sl U) (.sl T) xs,hi with
      | some xs,some h => .need (inCut xs.length lo hi ∧ m = h) (.val (.clip T (cut xs lo hi)))
      | _,_ => .fail 18
    | _ => .fail 19
  | _ => .fail 19
def litK:Ty → Bool
  | .int _ => true | .bool => true | .str => true | _ => false
def litsOf (T:Ty):List PV → Option (List T.den)
  | [] => some []
  | c :: r => match asLit T c,litsOf T r with | some x,some xs => some (x :: xs) | _,_ => none
def setC (T:Ty) (i:Int) (y:T.den):Nat → List T.den → List PV
  | _,[] => [] | j,x :: r => .iv T (if i = (j:Int) then y else x) :: setC T i y (j + 1) r
def bound (s:St):Option Operand → Option (Option Int)
  | none => some none
  | some x => match s.ev x with | .iv (.int _) n => some (some n) | _ => none

def indexO (E:Env) (F:Reg) (bl:List (Nat × Blk)) (t:Nat) (p:PV) (i:Int):Out:=match p with
  | .iv (.sl T) xs => match E.ty t with
    | some (.sl U) => match T.eq U with
      | true => .need (0 ≤ i) (.exi T (fun x => xs[i.toNat]? = some x) fun x => .val (.eptr T x 0))
      | false => .fail 20
    | _ => .fail 20
  | .lfull id => match lk F bl id,E.ty t with
    | some (.arr T xs _),some (.sl U) => match T.eq U with
      | true => .need (0 ≤ i ∧ i < xs.length) (.val (.lptr id T.cells i.toNat 0))
      | false => .fail 20
    | _,_ => .fail 20
  | .lsl id sz off len => match E.ty t with
    | some (.sl U) => match Nat.beq sz U.cells with
      | true => .need (0 ≤ i ∧ i < len) (.val (.lptr id sz (off + i.toNat) 0))
      | false => .fail 20
    | _ => .fail 20
  | .ref id off => match E.ty t,E.str t with
    | some (.st T),false => match Nat.ble 5 (chainLen T) && Nat.beq (fieldTy T 0).cells 1 with
      | true => .need (0 ≤ i ∧ i < chainLen T) (.val (.aptr id off (fieldTy T 0) (chainLen T) i))
      | false => .need (0 ≤ i ∧ i < chainLen T) (.val (.ref id (off + i.toNat * (fieldTy T 0).cells)))
    | _,_ => .fail 21
  | .eptr U x off => match E.ty t,E.str t with
    | some (.st T),false => .need (0 ≤ i ∧ i < chainLen T) (.val (.eptr U x (off + i.toNat * (fieldTy T 0).cells)))
    | _,_ => .fail 22
  | _ => .fail 23

def loadO (E:Env) (F:Reg) (bl:List (Nat × Blk)) (t:Nat) (p:PV):Out:=match E.ty t with
  | some T => match p with
    | .ref id off => match lk F bl id with
      | some (.box cs _) => match Nat.ble (off + T.cells) cs.length with
        | true => .val (join T ((cs.drop off).take T.cells))
        | false => .fail 24
      | _ => .fail 25
    | .eptr U x off => match Nat.ble (off + T.cells) U.cells with
      | true => .val (part T U x off)
      | false => .fail 26
    | .lptr id sz i off => match lk F bl id with
      | some (.arr U xs _) => match Nat.ble (off + T.cells) U.cells,Nat.beq sz U.cells with
        | true,true => .exi U (fun x => xs[i]? = some x) fun x => .val (part T U x off)
        | _,_ => .fail 27
      | _ => .fail 28
    | .aptr id base U m i => match lk F bl id with
      | some (.box cs _) => match litsOf U ((cs.drop base).take m),T.eq U && litK U && Nat.ble (base + m) cs.length with
        | some xs,true => .exi U (fun x => xs[i.toNat]? = some x) fun x => .val (.iv U x)
        | _,_ => .fail 27
      | _ => .fail 28
    | _ => .fail 29
  | none => .fail 30

def lenEq {α:Type}:List α → Nat → Bool
  | [],0 => true | _ :: r,n + 1 => lenEq r n | _,_ => false
def putB:(U:Ty) → Nat → PV → Option (U.den → U.den)
  | .bool,off,q => match off,q with | 0,.iv .bool y => some (fun _ => y) | _,_ => none
  | .int k,off,q => match off,q with | 0,.iv (.int k') y => (match Ty.eq (.int k) (.int k') with | true => some (fun _ => y) | false => none) | _,_ => none
  | .str,off,q => match off,q with | 0,.iv .str y => some (fun _ => y) | _,_ => none
  | .st V,off,q => putB V off q
  | .pair A B,off,q => match Nat.blt off A.cells with
    | true => (match putB A off q with | some f => some (fun x => (f x.1,x.2)) | none => none)
    | false => (match putB B (off - A.cells) q with | some f => some (fun x => (x.1,f x.2)) | none => none)
  | _,_,_ => none
def stOK:List Nat → Nat → Bool
  | [],_ => true
  | x :: r,id => (match Nat.ble 2000000000 x with | true => Nat.beq x (2000000000 + id) | false => true) && stOK r id
def lkS (F:Reg) (bl:List (Nat × Blk)) (id:Nat):Option Blk:=match stOK F.h id with | true => lk F bl id | false => none
def storeO (E:Env) (F:Reg) (bl:List (Nat × Blk)) (t:Nat) (p q:PV):Out:=match E.ty t with
  | some T => match q.cells with
    | some vs => match lenEq vs T.cells with
      | true => match p with
        | .ref id off => match lkS F bl id with
          | some (.box cs e) => match Nat.ble (off + T.cells) cs.length with
            | true => .store id (.box (cs.take off ++ vs ++ cs.drop (off + T.cells)) e)
            | false => .fail 31
          | _ => .fail 32
        | .lptr id sz i off => match lkS F bl id with
          | some (.arr U xs _) => match T.eq U && Nat.beq sz U.cells,off with
            | true,0 => match PV.refs q,PV.arrs q,exp F bl U q with
              | false,[],some y => .store id (.arr U (xs.set i y))
              | _,_,_ => .fail 33
            | _,_ => match Nat.beq sz U.cells,putB U off q with
              | true,some f => .store id (.arr U (xs.modify i f))
              | _,_ => .fail 34
          | _ => .fail 35
        | .aptr id base U m i => match lkS F bl id with
          | some (.box cs e) => match litsOf U ((cs.drop base).take m),T.eq U && litK U && Nat.ble (base + m) cs.length,asLit U q with
            | some xs,true,some y => .store id (.box (cs.take base ++ setC U i y 0 xs ++ cs.drop (base + m)) e)
            | _,_,_ => .fail 34
          | _ => .fail 35
        | _ => .fail 36
      | false => .fail 37
    | none => .fail 38
  | none => .fail 39

def fillO (T:Ty):List (Nat × PV) → List PV → Option (List PV)
  | [],cs => some cs
  | p :: r,cs => match p.2.cells with
    | some vs => match lenEq vs (fldTy T p.1).cells,Nat.ble (offOf T p.1 + vs.length) cs.length,Nat.blt p.1 (arrLen T) with
      | true,true,true => fillO T r (cs.take (offOf T p.1) ++ vs ++ cs.drop (offOf T p.1 + vs.length))
      | _,_,_ => none
    | none => none
def buildO (E:Env) (t:Nat) (parts:List (Nat × PV)):Out:=match E.ty t with
  | some (.st T) => match zeroCells (.st T) with
    | some z => match fillO (.st T) parts z with | some cs => .val (.agg cs) | none => .fail 40
    | none => .fail 41
  | _ => .fail 42
def elemsO (F:Reg) (bl:List (Nat × Blk)) (T:Ty):Nat → List (Nat × PV) → Option (List T.den)
  | _,[] => some []
  | i,p :: r => match Nat.beq p.1 i,PV.refs p.2,PV.arrs p.2,exp F bl T p.2 with
    | true,false,[],some x => match elemsO F bl T (i + 1) r with | some xs => some (x :: xs) | none => none
    | _,_,_,_ => none
def evParts (s:St):List (Nat × Operand) → List (Nat × PV)
  | [] => [] | p :: r => (p.1,s.ev p.2) :: evParts s r
def evAll (s:St):List Operand → List PV
  | [] => [] | x :: r => s.ev x :: evAll s r

def capsOf:(T:Ty) → T.den → List PV
  | .pair a b,x => capsOf a x.1 ++ capsOf b x.2
  | .ptr t,x => [.eptr t x 0]
  | T,x => cellsOf T x
def nthPV:List PV → Nat → Option PV
  | [],_ => none | v :: _,0 => some v | _ :: r,n + 1 => nthPV r n
def extractD:(T:Ty) → T.den → Nat → Option PV
  | .tup a b,x,i => match i with | 0 => some (.iv a x.1) | i + 1 => extractD b x.2 i
  | T,x,i => match i with | 0 => some (.iv T x) | _ + 1 => none
def extractO (p:PV) (i:Nat):Option PV:=match p with
  | .tup vs => nthPV vs i
  | .iv T x => (match T,x with | .tup a b,x => extractD (.tup a b) x i | _,_ => none)
  | _ => none

def owns:Ty → Nat
  | .own t => 1 + owns t | .pair a b => owns a + owns b | .st t => owns t | .tup a b => owns a + owns b | .sl t => owns t | .ptr t => owns t | .clo _ t => owns t
  | .unit => 0 | .int _ => 0 | .bool => 0 | .str => 0 | .mp a b => owns a + owns b | .fnv => 0

def keys (bl:List (Nat × Blk)):List Nat:=bl.map (·.1)
def lastN:List Ty → Nat → List Ty
  | [],_ => [] | T :: Ts,n => match Nat.ble (Ts.length + 1) n with | true => T :: Ts | false => lastN Ts n
def chainT:List Ty → Ty
  | [] => .unit | [T] => T | T :: U :: r => .pair T (chainT (U :: r))
def cloO (E:Env) (F:Reg) (bl:List (Nat × Blk)) (g:Nat) (caps:List PV):Option PV:=match E.fn g with
  | some (As,_) => match fstOf (pk F bl (chainT (lastN As caps.length)) caps) with
    | some x => some (.iv (.clo g (chainT (lastN As caps.length))) x)
    | none => none
  | none => none
def hArg (E:Env) (F:Reg) (bl:List (Nat × Blk)):Option Ty → PV → Option PV
  | some T,p => match exp F bl T p with | some x => some (.iv T x) | none => none
  | none,p => match p with
    | .fn g caps => match cloO E F bl g caps with | some q => some q | none => some p
    | .any => none
    | _ => some p
def hArgs (E:Env) (F:Reg) (bl:List (Nat × Blk)):List (Option Ty) → List PV → Option (List PV)
  | [],[] => some []
  | T :: Ts,p :: ps => match hArg E F bl T p,hArgs E F bl Ts ps with | some q,some qs => some (q :: qs) | _,_ => none
  | _,_ => none
def nodupB:List Nat → Bool
  | [] => true | i :: r => !(mem1 i r) && nodupB r
def innIds (ks:List Nat) (bl:List (Nat × Blk)):List Nat → Bool
  | [] => true | i :: r => (match look i bl with | some (.box cs _) => PV.innL ks cs | some (.it cs _ _) => PV.innL ks cs | _ => true) && innIds ks bl r
def hcallX (nd:Bool) (s:St) (f:Nat) (ps:List PV) (ids idsR:List Nat) (d:Option Nat):Out:=match notMark ids && (nodupB ids && PV.innL ids ps && innIds ids s.bl ids) with
  | true => (match nd with | true => .hncall f (PV.renL (fwd ids) ps) (passed ids s.bl ids P0) idsR false (keys s.bl) d | false => .hcall f (PV.renL (fwd ids) ps) (passed ids s.bl ids P0) idsR false (keys s.bl) d)
  | false => .fail 49
def hcall1 (nd:Bool) (s:St) (f:Nat) (ps:List PV) (ids:List Nat) (d:Option Nat):Out:=hcallX nd s f ps ids ids d
def dArr:List (Option Ty) → List PV → List Nat
  | some _ :: r,p :: ps => PV.arrs p ++ dArr r ps
  | none :: r,_ :: ps => dArr r ps
  | _,_ => []
def hcallS (E:Env) (s:St) (d:Option Nat) (f:Nat) (As:List (Option Ty)) (args:List PV) (ks:List Nat):Out:=match ks with
  | [k] => (match hArgs E ⟨keys (s.sealw [k]).bl,true⟩ (s.sealw [k]).bl As (PV.sealL [k] s.bl args) with
    | some ps => hcallX (E.nd f) (s.sealw [k]) f ps (reach (s.sealw [k]).bl 60 (PV.idsL ps) []) (2000000001 :: k :: reach (s.sealw [k]).bl 60 (PV.idsL ps) []) d
    | none => .fail 48)
  | _ => .fail 47
def hcallO (E:Env) (F:Reg) (s:St) (d:Option Nat) (f:Nat) (As:List (Option Ty)) (args:List PV):Out:=match hArgs E ⟨keys s.bl,true⟩ s.bl As args with
  | some ps => hcall1 (E.nd f) s f ps (reach s.bl 60 (PV.idsL ps) []) d
  | none => match hArgs E F s.bl As args with
    | some ps => match PV.innL [] ps with
      | true => .hcall f ps [] [] true (keys s.bl) d
      | false => hcallS E s d f As args (dArr As args)
    | none => .fail 48
def callO (E:Env) (F:Reg) (s:St) (d:Option Nat) (f:Nat) (args:List PV):Out:=match E.fn f with
  | some (As,T) => match expAll F s.bl As args with
    | some xs => match E.nd f with
      | true => (match PV.arrsL args,PV.refsL args,F.e with | [],false,true => .ncall f xs T fun r => .val (.iv T r) | _,_,_ => .fail 44)
      | false => match T.flat,PV.arrsL args,PV.refsL args,F.e with
        | true,_,_,_ => .call f xs T fun r => .val (.iv T r)
        | false,[],false,_ => .call f xs T fun r => .val (.iv T r)
        | false,i :: r,false,true => .call f xs T fun x => .sealed (i :: r) (.iv T x)
        | false,_,_,_ => .fail 44
    | none => .fail 45
  | none => match E.hfn f,F.e with
    | some As,true => hcallO E F s d f As args
    | _,_ => .fail 46

def invokeO (E:Env) (F:Reg) (s:St) (d:Option Nat) (recv:PV) (name:String) (args:List PV):Out:=match recv with
  | .ifc t [p] => match E.meth t name with
    | some (f,none) => callO E F s d f (p :: args)
    | some (f,some e) => match p with
      | .ref id off => match E.ty e,lk F s.bl id with
        | some T,some (.box cs _) => (match Nat.ble (off + T.cells) cs.length with | true => callO E F s d f (join T ((cs.drop off).take T.cells) :: args) | false => .fail 99)
        | _,_ => .fail 99
      | _ => .fail 99
    | none => .fail 99
  | _ => .fail 99
def assertO (p:PV) (u:Nat) (ok:Bool):Out:=match p with
  | .ifc t [q] => (match Nat.beq t u,ok with | true,true => .val (.tup [q,.iv .bool true]) | true,false => .val q | _,_ => .fail 100)
  | _ => .fail 100
def convO (E:Env) (F:Reg) (bl:List (Nat × Blk)) (t1 t:Nat) (p:PV):Out:=match E.ty t1,E.ty t with
  | some (.int _),some (.int l) => match p with
    | .iv (.int k) n => match widens k l with | true => .val (.iv (.int l) n) | false => .val (.iv (.int l) (l.wrap n))
    | _ => .fail 47
  | some .str,some .str => match p with
    | .iv .str x => .val (.iv .str x)
    | _ => .fail 47
  | some (.sl (.int k)),some .str => match kindEq k .u8,asSl F bl (.int .u8) p with
    | true,some xs => .val (.iv .str (xs.map fun n:Int => UInt8.ofNat n.toNat))
    | _,_ => .fail 48
  | _,_ => .fail 49

def minMax (mx:Bool) (k:IntKind) (x:Int):List PV → Out
  | [] => .val (.iv (.int k) x)
  | .iv (.int l) y :: r => (match kindEq k l with | true => minMax mx k (match mx with | true => max x y | false => min x y) r | false => .fail 50)
  | _ => .fail 50

def pickO (b:Bool) (x y:PV):Out:=match b with | true => .val x | false => .val y

def mfind {K V:Type} (eq:K → K → Bool):List (K × V) → K → Option V
  | [],_ => none | p :: r,k => bif eq k p.1 then some p.2 else mfind eq r k
def mset {K V:Type} (eq:K → K → Bool):List (K × V) → K → V → List (K × V)
  | [],k,v => [(k,v)] | p :: r,k,v => bif eq k p.1 then (k,v) :: r else p :: mset eq r k v
def plainK:Ty → Bool
  | .int _ => true | .bool => true | .str => true | .pair a b => plainK a && plainK b | .st t => plainK t | _ => false
def keyT (E:Env) (t:Nat):Ty → Bool
  | .int _ => true | .bool => true | .str => true | .st R => E.cmp t && plainK R && Nat.ble (dep R) 100 | _ => false
def eqB:(T:Ty) → T.den → T.den → Bool
  | .int _,x,y => decide (x = y) | .bool,x,y => x == y | .str,x,y => decide (x = y)
  | .pair a b,x,y => eqB a x.1 y.1 && eqB b x.2 y.2
  | .st t,x,y => eqB t x y
  | _,_,_ => false
def zeroPV (V:Ty):PV:=match V.zer with
  | true => .iv V (zeroDen V)
  | false => match zeroCells V with | some cs => join V cs | none => .any
def lookupO (E:Env) (F:Reg) (bl:List (Nat × Blk)) (t:Nat) (p q:PV) (ok:Bool):Out:=match E.ty t,E.mapKey t with
  | some (.mp K V),some kt => match asMp F bl K V p,exp F bl K q,keyT E kt K with
    | some es,some k,true => match ok,V.zer,F.e with
      | false,true,_ => .val (.iv V ((mfind (eqB K) es k).getD (zeroDen V)))
      | false,false,true => .both (.allx V (fun v => mfind (eqB K) es k = some v) fun v => .val (.iv V v)) (.imp (mfind (eqB K) es k = none) (.val (zeroPV V)))
      | true,_,true => .both (.allx V (fun v => mfind (eqB K) es k = some v) fun v => .val (.tup [.iv V v,.iv .bool true])) (.imp (mfind (eqB K) es k = none) (.val (.tup [zeroPV V,.iv .bool false])))
      | false,false,false => .exi V (fun v => mfind (eqB K) es k = some v) fun v => .val (.iv V v)
      | true,true,false => .val (.tup [.iv V ((mfind (eqB K) es k).getD (zeroDen V)),.iv .bool (mfind (eqB K) es k).isSome])
      | true,false,false => .exi V (fun v => mfind (eqB K) es k = some v) fun v => .val (.tup [.iv V v,.iv .bool true])
    | _,_,_ => .fail 80
  | _,_ => .fail 81
def mapUpdateO (E:Env) (F:Reg) (bl:List (Nat × Blk)) (t:Nat) (p q r:PV):Out:=match E.ty t,E.mapKey t with
  | some (.mp K V),some kt => match p with
    | .lmap id => match lk F bl id with
      | some (.mp K' V' es) => match Ty.cast (.mp K' V') (.mp K V) es,exp F bl K q,keyT E kt K,PV.refs q,PV.arrs q,PV.refs r,PV.arrs r,exp F bl V r with
        | some es,some k,true,false,[],false,[],some v => .need ((mset (eqB K) es k v).length ≤ 9223372036854775807) (.store id (.mp K V (mset (eqB K) es k v)))
        | _,_,_,_,_,_,_,_ => .fail 82
      | _ => .fail 83
    | _ => .fail 84
  | _,_ => .fail 85
def itEntries (E:Env) (F:Reg) (bl:List (Nat × Blk)):List PV → Option ((K:Ty) × (V:Ty) × List (K.den × V.den))
  | [.iv (.mp K V) es] => match K.val,V.val with | true,true => some ⟨K,V,es⟩ | _,_ => none
  | [.lmap id] => match lk F bl id with | some (.mp K V es) => (match K.val,V.val with | true,true => some ⟨K,V,es⟩ | _,_ => none) | _ => none
  | _ => none
def rangeO (E:Env) (F:Reg) (bl:List (Nat × Blk)) (t d:Nat) (p:PV):Out:=match E.ty t with
  | some .str => match p with
    | .iv .str x => .new (.ref d 0) (.sit x 0)
    | _ => .fail 86
  | some (.mp K V) => match asMp F bl K V p with
    | some es => match p with
      | .iv (.mp K' V') x => .new (.ref d 0) (.it [.iv (.mp K' V') x] es.length [])
      | .lmap id => .new (.ref d 0) (.it [.lmap id] es.length [])
      | _ => .fail 87
    | none => .fail 88
  | _ => .fail 89
def nextO (E:Env) (F:Reg) (bl:List (Nat × Blk)) (isStr:Bool) (p:PV):Out:=match p with
  | .ref id 0 => match lk F bl id with
    | some (.sit x pos) => match isStr with
      | true => .both (.imp (pos < x.length) (.upd id (.sit x (pos + (Utf8.decode ⟨x.toArray⟩ pos).2)) (.tup [.iv .bool true,.iv (.int .i64) (pos:Int),.iv (.int .i32) ((Utf8.decode ⟨x.toArray⟩ pos).1:Int)])))
          (.imp (x.length ≤ pos) (.val (.tup [.iv .bool false])))
      | false => .fail 90
    | some (.it src since seen) => match isStr,itEntries E F bl src with
      | false,some ⟨K,V,es⟩ => .need (es.length = since) (.both
          (.alln (fun i => i < es.length ∧ i ∉ seen) fun i => .allx (.pair K V) (fun x => es[i]? = some x) fun x => .upd id (.it src since (seen ++ [i])) (.tup [.iv .bool true,.iv K x.1,.iv V x.2]))
          (.imp (∀ i,i < es.length → i ∈ seen) (.val (.tup [.iv .bool false]))))
      | _,_ => .fail 91
    | _ => .fail 92
  | _ => .fail 93
def entryO (E:Env) (F:Reg) (bl:List (Nat × Blk)) (p:PV):Out:=match p with
  | .ref id 0 => match lk F bl id with
    | some (.it src since seen) => match itEntries E F bl src with
      | some ⟨K,V,es⟩ => .need (es.length = since) (.exi (.pair K V) (fun x => ∃ i,seen.getLast? = some i ∧ es[i]? = some x) fun x => .val (.tup [.iv K x.1,.iv V x.2]))
      | none => .fail 95
    | _ => .fail 96
  | _ => .fail 97

def sealS (F:Reg) (p q:PV):List Nat:=match p with
  | .lptr _ _ _ _ => (match F.e with | true => PV.arrs q | false => [])
  | _ => []
def stepF (E:Env) (F:Reg) (s:St) (o:Oper):Out :=
  match o.op with
  | .move x => .val (s.ev x)
  | .assign x => .val (s.ev x)
  | .pick c a b => match s.ev c with | .iv .bool b' => pickO b' (s.ev a) (s.ev b) | _ => .fail 51
  | .alloc t => match E.ty t,o.dst with
    | some T,some d => match look d s.bl,zeroCells T with
      | none,some cs => .new (.ref d 0) (.box cs (bif E.boxT t then some t else none))
      | _,_ => .fail 52
    | _,_ => .fail 53
  | .box _ x => match o.dst,(s.ev x).cells with
    | some d,some cs => match look d s.bl with
      | none => .new (.ref d 0) (.box cs)
      | some _ => .fail 54
    | _,_ => .fail 55
  | .build t parts => match E.emp t,parts.toList with
    | true,[] => .val (.agg [])
    | _,_ => buildO E t (evParts s parts.toList)
  | .buildSlice t n parts => match E.ty t,o.dst with
    | some (.sl T),some d => match look d s.bl,elemsO F s.bl T 0 (evParts s parts.toList),Nat.beq parts.toList.length n && Nat.ble (n * T.cells) 16777216 with
      | none,some xs,true => (match E.ro d t with | true => .val (litP T xs) | false => .new (.lfull d) (.arr T xs))
      | _,_,_ => .fail 56
    | _,_ => .fail 57
  | .load t x => loadO E F s.bl t (s.ev x)
  | .store t x y => match o.dst with
    | none => match sealS F (s.ev x) (s.ev y) with
      | [] => storeO E F s.bl t (s.ev x) (s.ev y)
      | k :: ks => match storeO E F (s.sealw (k :: ks)).bl t ((s.sealw (k :: ks)).ev x) ((s.sealw (k :: ks)).ev y) with
        | .store i b => .sstore (k :: ks) i b
        | _ => .fail 33
    | some _ => .fail 39
  | .binOp op t x y _ => match nilCmp E F op t (s.ev x) (s.ev y) with | some o => o | none => binO E F s.bl op t (s.ev x) (s.ev y)
  | .unOp op _ x => match op,s.ev x with
    | .not,.iv .bool b => boolV (!b)
    | .neg,.iv (.int k) n => arith k (0 - n)
    | _,_ => .fail 58
  | .convert t1 t x => convO E F s.bl t1 t (s.ev x)
  | .makeSlice t n c => match E.ty t,o.dst,s.ev n,s.ev c with
    | some (.sl T),some d,.iv (.int _) n,.iv (.int _) c => match look d s.bl,zeroCells T,T.zer with
      | none,some _,true => .need (0 ≤ n ∧ n = c ∧ n ≤ 1099511627776) (.new (.lfull d) (.arr T (List.replicate n.toNat (zeroDen T))))
      | _,_,_ => .fail 59
    | _,_,_,_ => .fail 60
  | .makeInterface t x => match E.con t with | true => .val (.ifc t [s.ev x]) | false => .fail 61
  | .makeFunc (.func f) first caps => match first.toList with
    | [] => .val (.fn f (evAll s caps.toList))
    | x :: r => match caps.toList with | [] => .val (.bnd f (evAll s (x :: r))) | _ :: _ => .fail 61
  | .slice t x lo hi mx => match bound s lo,bound s hi,E.ty t with
    | some lo,some hi,some T => (match mx with
      | none => sliceO F s.bl (!E.str t) T (s.ev x) lo hi
      | some m => match s.ev m with | .iv (.int _) m => slice3O T (s.ev x) lo hi m | _ => .fail 62)
    | _,_,_ => .fail 62
  | .fieldAddr t x f => match E.ty t with
    | some T => match Nat.blt f (arrLen T) && E.str t with
      | true => match s.ev x with
        | .ref id off => .val (.ref id (off + offOf T f))
        | .eptr U x off => .val (.eptr U x (off + offOf T f))
        | .lptr id sz i off => .val (.lptr id sz i (off + offOf T f))
        | _ => .fail 63
      | false => .fail 63
    | none => .fail 63
  | .field t x f => match E.ty t,aggCells (s.ev x) with
    | some T,some cs => match Nat.ble (offOf T f + (fldTy T f).cells) cs.length,Nat.blt f (arrLen T) && E.str t with
      | true,true => .val (join (fldTy T f) ((cs.drop (offOf T f)).take (fldTy T f).cells))
      | _,_ => .fail 64
    | _,_ => .fail 65
  | .indexAddr t x i => match s.ev i with
    | .iv (.int _) n => indexO E F s.bl t (s.ev x) n
    | _ => .fail 66
  | .index t x i => match s.ev x,s.ev i,E.ty t with
    | .iv .str xs,.iv (.int _) n,some .str => .need (0 ≤ n) (.exi (.int .u8) (fun c:Int => ∃ u:UInt8,xs[n.toNat]? = some u ∧ c = u.toNat) fun c => .val (.iv (.int .u8) c))
    | .iv .str xs,_,_ => .fail 67
    | p,.iv (.int _) n,some (.st R) => match aggCells p,E.str t with
      | some cs,false => match litsOf (fieldTy R 0) cs,litK (fieldTy R 0) with
        | some xs,true => .need (0 ≤ n ∧ n < chainLen R) (.exi (fieldTy R 0) (fun x => xs[n.toNat]? = some x) fun x => .val (.iv (fieldTy R 0) x))
        | _,_ => .fail 67
      | _,_ => .fail 67
    | _,_,_ => .fail 67
  | .extract x i => match extractO (s.ev x) i with | some v => .val v | none => .fail 67
  | .call c => match c.callee with
    | .value g => match s.ev g with
      | .fn f caps => callO E F s o.dst f (evAll s c.args.toList ++ caps)
      | .iv .fnv f => callO E F s o.dst f (evAll s c.args.toList)
      | .bnd f ps => callO E F s o.dst f (ps ++ evAll s c.args.toList)
      | .iv (.clo f t) x => callO E F s o.dst f (evAll s c.args.toList ++ capsOf t x)
      | _ => .fail 68
    | .invoke recv name => invokeO E F s o.dst (s.ev recv) name (evAll s c.args.toList)
    | .builtin .len => match evAll s c.args.toList,c.argTypes.toList with | [p],[t] => lenO E F s.bl t p | _,_ => .fail 69
    | .builtin .cap => match evAll s c.args.toList,c.argTypes.toList with | [.nilsl],[t] => (match E.ty t with | some (.sl _) => intV 0 | _ => .fail 69) | _,_ => .fail 69
    | .builtin .append => match c.argTypes.toList,evAll s c.args.toList,o.dst with
      | t :: u :: [],p :: q :: [],some d => match E.ty t with
        | some (.sl T) => match isIntT (E.ty u) with
         | true => (match p,q,T.zer,zeroCells T,look d s.bl with
          | .nilsl,.iv (.int _) m,true,some _,none => .need (0 < m ∧ m ≤ 1073741824) (.new (.lfull d) (.arr T (List.replicate m.toNat (zeroDen T))))
          | _,_,_,_,_ => .fail 72)
         | false => match E.ro (d + 1000) o.type with
          | true => appendC s.bl T d p (appSrc E F s.bl T t u q)
          | false => match appendO F s.bl T d p (appSrc E F s.bl T t u q) (E.elm t) with
            | .need r (.new _ b) => match look d s.bl with | none => .need r (.new (.lfull d) b) | some _ => .fail 70
            | .need r (.append id _ b) => match Nat.ble P0 id with
              | false => .need r (.append id id b)
              | true => match look d s.bl with | none => .need r (.append id d b) | some _ => .fail 70
            | o => o
        | _ => .fail 71
      | _,_,_ => .fail 72
    | .builtin .min => match evAll s c.args.toList with | .iv (.int k) x :: r => minMax false k x r | _ => .fail 73
    | .builtin .max => match evAll s c.args.toList with | .iv (.int k) x :: r => minMax true k x r | _ => .fail 74
    | _ => .fail 75
  | .makeMap t none => match E.ty t,o.dst with
    | some (.mp K V),some d => match look d s.bl with
      | none => .new (.lmap d) (.mp K V [])
      | some _ => .fail 77
    | _,_ => .fail 78
  | .lookup t x y ok => lookupO E F s.bl t (s.ev x) (s.ev y) ok
  | .mapUpdate t x y z => match o.dst with | none => mapUpdateO E F s.bl t (s.ev x) (s.ev y) (s.ev z) | some _ => .fail 79
  | .insert t x y z => match o.dst with | none => mapUpdateO E F s.bl t (s.ev x) (s.ev y) (s.ev z) | some _ => .fail 79
  | .range t x => match o.dst with
    | some d => match look d s.bl with
      | none => rangeO E F s.bl t d (s.ev x)
      | some _ => .fail 94
    | none => .fail 94
  | .next x b => nextO E F s.bl b (s.ev x)
  | .entry x => entryO E F s.bl (s.ev x)
  | .typeAssert x _ u ok => (match E.con u with | true => assertO (s.ev x) u ok | false => .fail 100)
  | .nilCheck x => (match s.ev x with
    | .ref id off => .val (.ref id off)
    | .eptr U y off => .val (.eptr U y off)
    | .lptr id sz i off => .val (.lptr id sz i off)
    | .iv (.ptr U) y => .val (.eptr U y 0)
    | _ => .fail 98)
  | _ => .fail 76
end Go.Proofs.Ytefpgfdemmllpaa
namespace Go.Proofs.Ytefpgfdemmllpaa
open Go.RowKit

def blockOf:Value → Option Nat
  | .pointer (some a) => some a.block
  | .slice (some a) _ _ => some a.block
  | .map (some r) => some r
  | _ => none

structure Ctx where
  ν:Nat → Value
  D:Nat → Prop
  w:World
  M:Mem

mutual
def PRel (c:Ctx):PV → Value → Prop
  | .iv T x,v => owns T = 0 ∧ RepR T x c.w c.M v
  | .ref id off,v => c.D id ∧ ∃ g,c.ν id = .pointer (some ⟨g,0,none⟩) ∧ v = .pointer (some ⟨g,off,none⟩)
  | .eptr T x off,v => owns T = 0 ∧ ∃ g o cs,v = .pointer (some ⟨g,o + off,none⟩) ∧ c.M.S g ∧ cs.length = T.cells ∧ CellsAt c.w g o cs ∧ RepC T x c.w c.M cs
  | .lfull id,v => c.D id ∧ v = c.ν id ∧ ∃ a n cap,v = .slice a n cap
  | .lsl id sz off len,v => c.D id ∧ ∃ a n cap b,c.ν id = .slice a n cap ∧ off + len ≤ n ∧ n ≤ cap ∧ v = .slice b len (cap - off) ∧ (off < cap → ∃ g o,a = some ⟨g,o,none⟩ ∧ b = some ⟨g,o + off * sz,none⟩)
  | .lptr id sz i off,v => c.D id ∧ ∃ g o n cap,c.ν id = .slice (some ⟨g,o,none⟩) n cap ∧ i < n ∧ v = .pointer (some ⟨g,o + i * sz + off,none⟩)
  | .agg cs,v => ∃ vs:List Value,v = .agg vs.toArray ∧ (∀ u,u ∈ vs → u.oneCell' = true) ∧ PRels c cs vs
  | .tup cs,v => ∃ vs:List Value,v = .tuple vs.toArray ∧ PRels c cs vs
  | .nilsl,v => v = .slice none 0 0
  | .fn f cs,v => ∃ vs:List Value,v = .func (.func f) #[] vs.toArray ∧ PRels c cs vs
  | .lmap id,v => c.D id ∧ v = c.ν id ∧ ∃ r,v = .map (some r)
  | .nilptr,v => v = .pointer none
  | .clip T xs,v => owns T = 0 ∧ (∃ a n,v = .slice a n n) ∧ RepC (.sl T) xs c.w c.M [v]
  | .aptr id base _ n i,v => c.D id ∧ 0 ≤ i ∧ i < n ∧ ∃ g,c.ν id = .pointer (some ⟨g,0,none⟩) ∧ v = .pointer (some ⟨g,base + i.toNat,none⟩)
  | .bnd f cs,v => ∃ vs:List Value,v = .func (.func f) vs.toArray #[] ∧ PRels c cs vs
  | .ifc t cs,v => ∃ u,v = .iface t u ∧ PRels c cs [u]
  | .any,_ => True
def PRels (c:Ctx):List PV → List Value → Prop
  | [],vs => vs = []
  | p :: ps,vs => ∃ v r,vs = v :: r ∧ PRel c p v ∧ PRels c ps r
end

def offV:Value → Nat
  | .pointer (some a) => a.off
  | .slice (some a) _ _ => a.off
  | _ => 0
def elemIs (te:Option Nat) (w:World) (v:Value):Prop:=∀ t,te = some t → ∀ g,blockOf v = some g → offV v = 0 ∧ ∃ cs fz,w.heap[g]? = some (.cells cs t fz)
theorem elemIs_none (w:World) (v:Value):elemIs none w v:=fun _ h => by cases h
theorem elemIs.keep {te:Option Nat} {w w':World} {v v':Value} (h:elemIs te w v) (hv:v' = v) (hw:∀ g,blockOf v = some g → w'.heap[g]? = w.heap[g]?):elemIs te w' v':=fun t ht g hg => by
  rw [hv] at hg ⊢
  obtain ⟨h0,cs,fz,h1⟩:=h t ht g hg
  exact ⟨h0,cs,fz,by rw [hw g hg]; exact h1⟩
theorem elemIs.turn {te:Option Nat} {w w':World} {v:Value} {g:Nat} {vs vs':Array Value} {e:TypeId} {fz fz':Nat × Nat} (h:elemIs te w v) (hv:blockOf v = some g) (hh:w.heap[g]? = some (.cells vs e fz)) (hh':w'.heap[g]? = some (.cells vs' e fz')):elemIs te w' v:=fun t ht g' hg' => by
  obtain ⟨h0,cs,f,h1⟩:=h t ht g' hg'
  rw [hv] at hg'
  obtain rfl:=Option.some.inj hg'
  rw [hh] at h1
  injection h1 with h1
  injection h1 with _ h2
  subst h2
  exact ⟨h0,_,_,hh'⟩
def BRel (c:Ctx) (id:Nat):Blk → Prop
  | .box cs te => elemIs te c.w (c.ν id) ∧ ∃ g vs e,c.ν id = .pointer (some ⟨g,0,none⟩) ∧ c.M.O g ∧ ¬ c.M.S g ∧ c.w.heap[g]? = some (.cells vs e (0,0)) ∧ (∀ u,u ∈ vs.toList → u.oneCell' = true) ∧ PRels c cs vs.toList
  | .arr T xs te => elemIs te c.w (c.ν id) ∧ owns T = 0 ∧ RepC (.own T) xs c.w c.M [c.ν id]
  | .mp K V es => owns K = 0 ∧ owns V = 0 ∧ es.length ≤ 9223372036854775807 ∧ ∃ (r:Nat) (ents:Array MapEntry) (clock:Nat),c.ν id = .map (some r) ∧ c.M.O r ∧ ¬ c.M.S r ∧ c.w.heap[r]? = some (.map ents clock) ∧ Births ents clock ∧ ents.size = es.length ∧
      ∀ (i:Nat) (y:K.den × V.den),es[i]? = some y → ∃ (e:MapEntry) (ca cb:List Value),ents[i]? = some e ∧ e.key = valOf K ca ∧ RepC K y.1 c.w c.M ca ∧ e.val = valOf V cb ∧ RepC V y.2 c.w c.M cb
  | .it src since seen => ∃ (g:Nat) (m:Option Nat),c.ν id = .pointer (some ⟨g,0,none⟩) ∧ c.M.O g ∧ ¬ c.M.S g ∧ c.w.heap[g]? = some (.mapIter m since seen.toArray since) ∧ PRels c src [.map m]
  | .sit x pos => ∃ g:Nat,c.ν id = .pointer (some ⟨g,0,none⟩) ∧ c.M.O g ∧ ¬ c.M.S g ∧ c.w.heap[g]? = some (.stringIter ⟨x.toArray⟩ pos) ∧ x.length ≤ 9223372036854775807

def St.D (s:St) (id:Nat):Prop:=∃ b,look id s.bl = some b

structure WRel (s:St) (ν:Nat → Value) (w:World) (M:Mem):Prop where
  lt:∀ b,M.S b → b < w.heap.size
  size:∀ b,w.heap.size ≤ b → M.O b
  blk:∀ id b,look id s.bl = some b → BRel ⟨ν,s.D,w,M⟩ id b
  ne:∀ i j b c,i ≠ j → look i s.bl = some b → look j s.bl = some c → ∀ g,blockOf (ν i) = some g → blockOf (ν j) ≠ some g

def drF:Prop:=False
structure GrownD (w w':World) (row:Option Nat):Prop where
  os:w'.os = w.os
  tape:w'.tape = w.tape
  output:w'.output = w.output
  size:w.heap.size ≤ w'.heap.size
  block:∀ k,k < w.heap.size → some k ≠ row → w'.heap[k]? = w.heap[k]?
  drawn:drF → w.drawn ≤ w'.drawn
theorem grownD_of {w w':World} {row:Option Nat} (h:w.grownBy w' row) (hd:drF → w.drawn ≤ w'.drawn):GrownD w w' row:=⟨h.os,h.tape,h.output,h.size,h.block,hd⟩
theorem grownD_alloc (w:World) (o:Obj) (row:Option Nat):GrownD w (w.alloc o) row:=grownD_of (World.grownBy_alloc w o row) fun _ => Nat.le_refl _

structure Kept (X:Nat → Prop) (w w':World):Prop where
  os:w'.os = w.os
  tape:w'.tape = w.tape
  output:w'.output = w.output
  size:w.heap.size ≤ w'.heap.size
  block:∀ k,k < w.heap.size → ¬ X k → w'.heap[k]? = w.heap[k]?
  drawn:drF → w.drawn ≤ w'.drawn
theorem Kept.refl (X:Nat → Prop) (w:World):Kept X w w:=⟨rfl,rfl,rfl,Nat.le_refl _,fun _ _ _ => rfl,fun _ => Nat.le_refl _⟩
theorem Kept.drew {X:Nat → Prop} {a w:World} (h:Kept X a w):Kept X a w.drew:=⟨h.os,h.tape,h.output,h.size,h.block,fun hd => Nat.le_succ_of_le (h.drawn hd)⟩
theorem Kept.grown {X:Nat → Prop} {a w w':World} {row:Option Nat} (h:Kept X a w) (hg:GrownD w w' row) (hr:∀ k,row = some k → a.heap.size ≤ k ∨ X k):Kept X a w' :=
  ⟨hg.os.trans h.os,hg.tape.trans h.tape,hg.output.trans h.output,Nat.le_trans h.size hg.size,fun k hk hx => (hg.block k (Nat.lt_of_lt_of_le hk h.size) (fun e => by
    rcases hr k e.symm with h' | h'
    · omega
    · exact hx h')).trans (h.block k hk hx),fun hd => Nat.le_trans (h.drawn hd) (hg.drawn hd)⟩

structure Cx where
  S:Nat → Prop
  X:Nat → Prop
  ν:Nat → Value
  df:List Deferred
def own0 (w0:World) (C:Cx):Nat → Prop:=fun g => w0.heap.size ≤ g ∨ C.X g

def tabB:List Nat:=[]
def tabIs (_:Nat) (_:Obj):Prop:=True
def Tabs (w:World) (S:Nat → Prop):Prop:=∀ g,g ∈ tabB → S g ∧ ∃ o,w.heap[g]? = some o ∧ tabIs g o
def TabX (w0:World) (C:Cx):Prop:=Tabs w0 C.S ∧ ∀ g,g ∈ tabB → ¬ C.X g
theorem Tabs.kept {w w':World} {S S':Nat → Prop} {X:Nat → Prop} (h:Tabs w S) (hS:∀ b,S b → S' b) (hk:Kept X w w') (hX:∀ g,g ∈ tabB → ¬ X g):Tabs w' S':=fun g hg => by
  obtain ⟨h1,o,h2,h3⟩:=h g hg
  exact ⟨hS g h1,o,by rw [hk.block g (Array.getElem?_eq_some_iff.1 h2).1 (hX g hg)]; exact h2,h3⟩

def Rel (n:Nat) (w0:World) (S0:Cx) (s:St) (a:Act) (w:World):Prop :=
  ∃ ν S,Kept S0.X w0 w ∧ (∀ b,S0.S b → S b) ∧ (∀ b,S b → S0.S b ∨ own0 w0 S0 b) ∧ WRel s ν w ⟨S,own0 w0 S0⟩ ∧
    (∀ t,PRel ⟨ν,s.D,w,⟨S,own0 w0 S0⟩⟩ (s.get t) (a.tmps.getD t undef)) ∧ a.tmps.size = n ∧ a.defers = S0.df ∧ n ≤ 100000 ∧ (∀ i,P0 ≤ i → s.D i → ν i = S0.ν i) ∧ TabX w0 S0

def Post (w:World) (S:Nat → Prop) (T:Ty) (r:T.den) (v:Value) (w':World):Prop :=
  (Below w.heap.size w w' ∧ (drF → w.drawn ≤ w'.drawn)) ∧ ∃ S':Nat → Prop,(∀ b,S b → S' b) ∧ (∀ b,S' b → S b ∨ w.heap.size ≤ b) ∧ (∀ b,S' b → b < w'.heap.size) ∧ RepR T r w' ⟨S',fun g => w.heap.size ≤ g⟩ v

def RepAs (w:World) (M:Mem):List (Sigma Ty.den) → List Value → Prop
  | [],vs => vs = []
  | x :: xs,vs => ∃ v r,vs = v :: r ∧ owns x.1 = 0 ∧ RepV x.1 x.2 w M v ∧ RepAs w M xs r

def PC (E:Env) (f:Nat) (xs:List (Sigma Ty.den)) (T:Ty) (r:T.den):Prop :=
  ∀ (w:World) (S:Nat → Prop) (vs:List Value),(∀ b,S b → b < w.heap.size) → Tabs w S → RepAs w ⟨S,fun g => w.heap.size ≤ g⟩ xs vs →
    Calls E.P f vs.toArray w fun e w' => ∃ v,e = .returned v ∧ Post w S T r v w'

def PN (E:Env) (f:Nat) (xs:List (Sigma Ty.den)) (T:Ty) (Y:T.den → Prop):Prop :=
  ∀ (w:World) (S:Nat → Prop) (vs:List Value),(∀ b,S b → b < w.heap.size) → Tabs w S → RepAs w ⟨S,fun g => w.heap.size ≤ g⟩ xs vs →
    Calls E.P f vs.toArray w fun e w' => ∃ v r,e = .returned v ∧ Y r ∧ Post w S T r v w'
theorem PC.pn {E:Env} {f:Nat} {xs:List (Sigma Ty.den)} {T:Ty} {r:T.den} {Y:T.den → Prop} (h:PC E f xs T r) (hr:Y r):PN E f xs T Y:=by
  intro w S vs h1 h2 h3
  refine (h w S vs h1 h2 h3).mono ?_
  rintro e w' ⟨v,he,hp⟩
  exact ⟨v,r,he,hr,hp⟩

def foot (ν:Nat → Value) (bl:List (Nat × Blk)):Nat → Prop:=fun g => ∃ i b,look i bl = some b ∧ blockOf (ν i) = some g
def PostH (w0:World) (C:Cx) (p:PV) (bl:List (Nat × Blk)) (v:Value) (w:World):Prop :=
  Kept C.X w0 w ∧ ∃ ν S,(∀ b,C.S b → S b) ∧ (∀ b,S b → C.S b ∨ own0 w0 C b) ∧ (∀ i,P0 ≤ i → (⟨[],bl⟩:St).D i → ν i = C.ν i) ∧
    WRel ⟨[],bl⟩ ν w ⟨S,own0 w0 C⟩ ∧ PRel ⟨ν,(⟨[],bl⟩:St).D,w,⟨S,own0 w0 C⟩⟩ p v
def HC (E:Env) (f:Nat) (args:List PV) (bl:List (Nat × Blk)) (p:PV) (bl':List (Nat × Blk)):Prop :=
  ∀ (w:World) (S:Nat → Prop) (ν:Nat → Value) (vs:List Value),(∀ b,S b → b < w.heap.size) → Tabs w S → (∀ g,foot ν bl g → g < w.heap.size) → (∀ i b,look i bl = some b → P0 ≤ i) →
    WRel ⟨[],bl⟩ ν w ⟨S,own0 w ⟨S,foot ν bl,ν,[]⟩⟩ → PRels ⟨ν,(⟨[],bl⟩:St).D,w,⟨S,own0 w ⟨S,foot ν bl,ν,[]⟩⟩⟩ args vs →
    Calls E.P f vs.toArray w fun e w' => ∃ v,e = .returned v ∧ PostH w ⟨S,foot ν bl,ν,[]⟩ p bl' v w'

def HN (E:Env) (f:Nat) (args:List PV) (bl:List (Nat × Blk)) (T:Ty) (Y:T.den → Prop) (p:T.den → PV) (bl':T.den → List (Nat × Blk)):Prop :=
  ∀ (w:World) (S:Nat → Prop) (ν:Nat → Value) (vs:List Value),(∀ b,S b → b < w.heap.size) → Tabs w S → (∀ g,foot ν bl g → g < w.heap.size) → (∀ i b,look i bl = some b → P0 ≤ i) →
    WRel ⟨[],bl⟩ ν w ⟨S,own0 w ⟨S,foot ν bl,ν,[]⟩⟩ → PRels ⟨ν,(⟨[],bl⟩:St).D,w,⟨S,own0 w ⟨S,foot ν bl,ν,[]⟩⟩⟩ args vs →
    Calls E.P f vs.toArray w fun e w' => ∃ v r,e = .returned v ∧ Y r ∧ PostH w ⟨S,foot ν bl,ν,[]⟩ (p r) (bl' r) v w'
theorem HC.hn {E:Env} {f:Nat} {args:List PV} {bl:List (Nat × Blk)} {T:Ty} {Y:T.den → Prop} {p:T.den → PV} {bl':T.den → List (Nat × Blk)} (r:T.den) (hY:Y r) (h:HC E f args bl (p r) (bl' r)):HN E f args bl T Y p bl':=by
  intro w S ν vs h1 h2 h3 h4 h5 h6
  refine (h w S ν vs h1 h2 h3 h4 h5 h6).mono ?_
  rintro e w' ⟨v,he,hp⟩
  exact ⟨v,r,he,hY,hp⟩
theorem HN.mono {E:Env} {f:Nat} {args:List PV} {bl:List (Nat × Blk)} {T:Ty} {Y Y':T.den → Prop} {p:T.den → PV} {bl':T.den → List (Nat × Blk)} (h:HN E f args bl T Y p bl') (hY:∀ r,Y r → Y' r):HN E f args bl T Y' p bl':=by
  intro w S ν vs h1 h2 h3 h4 h5 h6
  refine (h w S ν vs h1 h2 h3 h4 h5 h6).mono ?_
  rintro e w' ⟨v,r,he,hy,hp⟩
  exact ⟨v,r,he,hY r hy,hp⟩

def chOK (ch:List PanicEntry):Prop:=∃ t x,ch = [{ v:=.iface t x,recovered:=false }]
def XC (E:Env) (f:Nat) (xs:List (Sigma Ty.den)):Prop :=
  ∀ (w:World) (S:Nat → Prop) (vs:List Value),(∀ b,S b → b < w.heap.size) → Tabs w S → RepAs w ⟨S,fun g => w.heap.size ≤ g⟩ xs vs →
    Calls E.P f vs.toArray w fun e w' => ∃ ch,e = .panicked ch ∧ chOK ch ∧ Below w.heap.size w w' ∧ (drF → w.drawn ≤ w'.drawn)
def XH (E:Env) (f:Nat) (args:List PV) (bl bl':List (Nat × Blk)):Prop :=
  ∀ (w:World) (S:Nat → Prop) (ν:Nat → Value) (vs:List Value),(∀ b,S b → b < w.heap.size) → Tabs w S → (∀ g,foot ν bl g → g < w.heap.size) → (∀ i b,look i bl = some b → P0 ≤ i) →
    WRel ⟨[],bl⟩ ν w ⟨S,own0 w ⟨S,foot ν bl,ν,[]⟩⟩ → PRels ⟨ν,(⟨[],bl⟩:St).D,w,⟨S,own0 w ⟨S,foot ν bl,ν,[]⟩⟩⟩ args vs →
    Calls E.P f vs.toArray w fun e w' => ∃ ch,e = .panicked ch ∧ chOK ch ∧ PostH w ⟨S,foot ν bl,ν,[]⟩ .any bl' undef w'

def Ends (P:Program) (f:Nat) (todo:List Item) (a:Act) (w:World) (R:FrameMode → Act → World → Prop):Prop :=
  ∀ (b:Frame) (cs:List Frame),b.fn = f → b.kind = .normal → ∃ u a' w' td,R u a' w' ∧ Steps P (lone (b.at a todo) cs w) (lone { b.at a' td with mode:=u } cs w')

theorem Ends.step {P:Program} {f:Nat} {todo todo':List Item} {a a':Act} {w w':World} {R:FrameMode → Act → World → Prop}
    (h:∀ (b:Frame) (cs:List Frame),Steps P (lone (b.at a todo) cs w) (lone (b.at a' todo') cs w')) (h':Ends P f todo' a' w' R):Ends P f todo a w R:=by
  intro b cs hb hk
  obtain ⟨u,a2,w'',td,hR,hs⟩:=h' b cs hb hk
  exact ⟨u,a2,w'',td,hR,(h b cs).trans hs⟩

structure Goal where
  f:Nat
  n:Nat
  rv:List ResultVar
  p:PV
  bl:List (Nat × Blk)
  more:Option ((T:Ty) × (T.den → Prop) × (T.den → PV) × (T.den → List (Nat × Blk)))
  pan:Bool
def PostG (w0:World) (C:Cx) (G:Goal) (v:Value) (w:World):Prop:=match G.more with
  | none => PostH w0 C G.p G.bl v w
  | some Y => ∃ r:Y.1.den,Y.2.1 r ∧ PostH w0 C (Y.2.2.1 r) (Y.2.2.2 r) v w

def keepG (G:Goal):List (Nat × Nat):=match G.pan,G.p with
  | true,.fn t [.ref i _] => [(t,i)]
  | true,.fn t [.ref i _,.fn t2 [.ref i2 _]] => [(t,i),(t2,i2)]
  | _,_ => []
def keepA (G:Goal) (C:Cx) (a:Act):Prop:=∀ t i,(t,i) ∈ keepG G → a.tmps.getD t undef = C.ν i
def PostU (P:Program) (w0:World) (C:Cx) (G:Goal):FrameMode → Act → World → Prop
  | .returning,a,w => G.pan = false ∧ a.defers = C.df ∧ ∃ fn v,P.funcs[G.f]? = some fn ∧ (results fn a.tmps).run P w = .ok v w ∧ PostG w0 C G v w
  | .panicking ch,a,w => G.pan = true ∧ a.defers = C.df ∧ chOK ch ∧ keepA G C a ∧ PostH w0 C .any G.bl undef w
  | .run,_,_ => False

inductive WI where
  | code (c:Code) | blk (id:Nat) | loop (c:Code) | tail (all:List Oper) (orders:List (List Nat)) | rest (all B:List Oper)
def WI.item:WI → Item
  | .code c => .code c | .blk id => .inBlock id | .loop c => .inLoop c | .tail _ _ => .code .skip | .rest _ _ => .code .skip
def items:List WI → List Item
  | [] => [] | x :: r => x.item :: items r

def Walks (E:Env) (G:Goal) (todo:List WI) (s:St):Prop :=
  ∀ (w0:World) (S0:Cx) (a:Act) (w:World),Rel G.n w0 S0 s a w → Ends E.P G.f (items todo) a w (PostU E.P w0 S0 G)

/-! ### What representation keeps -/

theorem RepC_len:∀ (T:Ty) (x:T.den) (w:World) (M:Mem) (vs:List Value),RepC T x w M vs → vs.length = T.cells:=by
  intro T
  induction T with
  | unit => intro x w M vs h; simp [RepC] at h; simp [h,Ty.cells]
  | int k => intro x w M vs h; simp [RepC] at h; simp [h.1,Ty.cells]
  | bool => intro x w M vs h; simp [RepC] at h; simp [h,Ty.cells]
  | str => intro x w M vs h; simp [RepC] at h; simp [h.1,Ty.cells]
  | sl t ih => intro x w M vs h; obtain ⟨a,cap,rfl,_⟩:=h; simp [Ty.cells]
  | own t ih => intro x w M vs h; obtain ⟨v,rfl,_⟩:=h; simp [Ty.cells]
  | pair a b iha ihb => intro x w M vs h; obtain ⟨va,vb,rfl,h1,h2⟩:=h; simp [Ty.cells,iha _ _ _ _ h1,ihb _ _ _ _ h2]
  | st t ih => intro x w M vs h; exact ih _ _ _ _ h
  | tup a b => intro x w M vs h; exact h.elim
  | ptr t ih => intro x w M vs h; obtain ⟨g,o,cs,rfl,_⟩:=h; simp [Ty.cells]
  | clo f t ih => intro x w M vs h; obtain ⟨caps,rfl,_⟩:=h; simp [Ty.cells]
  | mp a b => intro x w M vs h; rcases h.2 with h | ⟨r,ents,clock,h,_⟩ <;> simp [h,Ty.cells]
  | fnv => intro x w M vs h; simp [RepC] at h; simp [h,Ty.cells]

theorem RepC_ok:∀ (T:Ty) (x:T.den) (w:World) (M:Mem) (vs:List Value),RepC T x w M vs → T.ok x:=by
  intro T
  induction T with
  | unit => intro x w M vs h; trivial
  | int k => intro x w M vs h; exact h.2
  | bool => intro x w M vs h; trivial
  | str => intro x w M vs h; exact h.2
  | sl t ih =>
    intro x w M vs h
    obtain ⟨a,cap,rfl,h1,h2,h3⟩:=h
    refine ⟨Nat.le_trans h1 h2,fun y hy => ?_⟩
    rcases h3 with rfl | ⟨g,o,_,_,h4⟩
    · cases hy
    · obtain ⟨i,hi⟩:=List.getElem?_of_mem hy
      obtain ⟨cs,_,_,hr⟩:=h4 i y hi
      exact ih _ _ _ _ hr
  | own t ih =>
    intro x w M vs h
    obtain ⟨v,rfl,h1,h3⟩:=h
    refine ⟨h1,fun y hy => ?_⟩
    rcases h3 with ⟨_,rfl⟩ | ⟨g,o,cap,cur,e,_,_,_,_,_,_,_,h4⟩
    · cases hy
    · obtain ⟨i,hi⟩:=List.getElem?_of_mem hy
      obtain ⟨cs,_,_,hr⟩:=h4 i y hi
      exact ih _ _ _ _ hr
  | pair a b iha ihb => intro x w M vs h; obtain ⟨va,vb,rfl,h1,h2⟩:=h; exact ⟨iha _ _ _ _ h1,ihb _ _ _ _ h2⟩
  | st t ih => intro x w M vs h; exact ih _ _ _ _ h
  | tup a b => intro x w M vs h; exact h.elim
  | ptr t ih => intro x w M vs h; obtain ⟨g,o,cs,rfl,_,_,_,h⟩:=h; exact ih _ _ _ _ h
  | clo f t ih => intro x w M vs h; obtain ⟨caps,rfl,h⟩:=h; exact ih _ _ _ _ h
  | mp a b iha ihb =>
    intro x w M vs h
    refine ⟨h.1,fun y hy => ?_⟩
    rcases h.2 with ⟨_,rfl⟩ | ⟨r,ents,clock,_,_,_,_,_,h4⟩
    · cases hy
    · obtain ⟨i,hi⟩:=List.getElem?_of_mem hy
      obtain ⟨e,ca,cb,_,_,h1,_,h2⟩:=h4 i y hi
      exact ⟨iha _ _ _ _ h1,ihb _ _ _ _ h2⟩
  | fnv => intro x w M vs h; trivial

theorem CellsAt.mono {w w':World} {g o:Nat} {cs:List Value} (h:CellsAt w g o cs) (hg:w'.heap[g]? = w.heap[g]?):CellsAt w' g o cs:=by
  intro j v hj
  rw [← h j v hj]
  simp [World.cell?,hg]

theorem RepC_mono {w w':World} {M M':Mem} (hw:∀ b,M.S b → w'.heap[b]? = w.heap[b]?) (hS:∀ b,M.S b → M'.S b) :
    ∀ (T:Ty) (x:T.den) (vs:List Value),owns T = 0 → RepC T x w M vs → RepC T x w' M' vs:=by
  intro T
  induction T with
  | unit => intro x vs _ h; exact h
  | int k => intro x vs _ h; exact h
  | bool => intro x vs _ h; exact h
  | str => intro x vs _ h; exact h
  | sl t ih =>
    intro x vs ho h
    obtain ⟨a,cap,rfl,h1,h2,h3⟩:=h
    refine ⟨a,cap,rfl,h1,h2,?_⟩
    rcases h3 with h3 | ⟨g,o,ha,hg,h4⟩
    · exact .inl h3
    · refine .inr ⟨g,o,ha,hS g hg,fun i y hy => ?_⟩
      obtain ⟨cs,hl,hc,hr⟩:=h4 i y hy
      exact ⟨cs,hl,hc.mono (hw g hg),ih _ _ ho hr⟩
  | own t ih => intro x vs ho h; simp [owns] at ho
  | pair a b iha ihb =>
    intro x vs ho h
    simp [owns] at ho
    obtain ⟨va,vb,rfl,h1,h2⟩:=h
    exact ⟨va,vb,rfl,iha _ _ ho.1 h1,ihb _ _ ho.2 h2⟩
  | st t ih => intro x vs ho h; exact ih _ _ (by simpa [owns] using ho) h
  | tup a b => intro x vs _ h; exact h.elim
  | ptr t ih => intro x vs ho h; obtain ⟨g,o,cs,rfl,h1,h2,h3,h4⟩:=h; exact ⟨g,o,cs,rfl,hS g h1,h2,h3.mono (hw g h1),ih _ _ ho h4⟩
  | clo f t ih => intro x vs ho h; obtain ⟨caps,rfl,h⟩:=h; exact ⟨caps,rfl,ih _ _ ho h⟩
  | mp a b iha ihb =>
    intro x vs ho h
    simp [owns] at ho
    refine ⟨h.1,?_⟩
    rcases h.2 with h | ⟨r,ents,clock,h1,h2,h3,h4,h5,h6⟩
    · exact .inl h
    · refine .inr ⟨r,ents,clock,h1,hS r h2,by rw [hw r h2]; exact h3,h4,h5,fun i y hy => ?_⟩
      obtain ⟨e,ca,cb,e1,e2,e3,e4,e5⟩:=h6 i y hy
      exact ⟨e,ca,cb,e1,e2,iha _ _ ho.1 e3,e4,ihb _ _ ho.2 e5⟩
  | fnv => intro x vs _ h; exact h

theorem RepV_mono {w w':World} {M M':Mem} (hw:∀ b,M.S b → w'.heap[b]? = w.heap[b]?) (hS:∀ b,M.S b → M'.S b)
    {T:Ty} {x:T.den} {v:Value} (ho:owns T = 0) (h:RepV T x w M v):RepV T x w' M' v:=by
  cases T with
  | unit => exact h
  | pair a b => exact h
  | tup a b => exact h
  | st t => obtain ⟨vs,rfl,h⟩:=h; exact ⟨vs,rfl,RepC_mono hw hS t x vs ho h⟩
  | int k => exact RepC_mono hw hS (.int k) x [v] ho h
  | bool => exact RepC_mono hw hS .bool x [v] ho h
  | str => exact RepC_mono hw hS .str x [v] ho h
  | sl t => exact RepC_mono hw hS (.sl t) x [v] ho h
  | own t => exact RepC_mono hw hS (.own t) x [v] ho h
  | ptr t => exact RepC_mono hw hS (.ptr t) x [v] ho h
  | clo f t => exact RepC_mono hw hS (.clo f t) x [v] ho h
  | mp a b => exact RepC_mono hw hS (.mp a b) x [v] ho h
  | fnv => exact RepC_mono hw hS .fnv x [v] ho h

theorem RepT_mono {w w':World} {M M':Mem} (hw:∀ b,M.S b → w'.heap[b]? = w.heap[b]?) (hS:∀ b,M.S b → M'.S b) :
    ∀ (T:Ty) (x:T.den) (vs:List Value),owns T = 0 → RepT T x w M vs → RepT T x w' M' vs:=by
  intro T
  induction T with
  | tup a b iha ihb =>
    intro x vs ho h
    simp [owns] at ho
    obtain ⟨v,r,rfl,h1,h2⟩:=h
    exact ⟨v,r,rfl,RepV_mono hw hS ho.1 h1,ihb _ _ ho.2 h2⟩
  | _ => intro x vs ho h; obtain ⟨v,rfl,h⟩:=h; exact ⟨v,rfl,RepV_mono hw hS ho h⟩

theorem RepR_mono {w w':World} {M M':Mem} (hw:∀ b,M.S b → w'.heap[b]? = w.heap[b]?) (hS:∀ b,M.S b → M'.S b)
    {T:Ty} {x:T.den} {v:Value} (ho:owns T = 0) (h:RepR T x w M v):RepR T x w' M' v:=by
  cases T
  case tup a b => obtain ⟨vs,rfl,h⟩:=h; exact ⟨vs,rfl,RepT_mono hw hS _ x vs ho h⟩
  all_goals exact RepV_mono (x:=x) (v:=v) hw hS ho h

theorem RepV_cells {T:Ty} {x:T.den} {w:World} {M:Mem} {v:Value} (hT:T.val = true) (h:RepV T x w M v):RepC T x w M v.cells.toList:=by
  cases T with
  | unit => cases hT
  | pair a b => cases hT
  | tup a b => cases hT
  | st t => obtain ⟨vs,rfl,h⟩:=h; simpa [Value.cells,RepC] using h
  | int k => obtain ⟨hv,h⟩:=h; obtain ⟨rfl⟩:=hv; exact ⟨rfl,h⟩
  | bool => obtain ⟨rfl⟩:=h; rfl
  | str => obtain ⟨hv,h⟩:=h; obtain ⟨rfl⟩:=hv; exact ⟨rfl,h⟩
  | sl t => obtain ⟨a,cap,hv,h⟩:=h; obtain ⟨rfl⟩:=hv; exact ⟨a,cap,rfl,h⟩
  | own t =>
    obtain ⟨u,hv,h1,h⟩:=h
    injection hv with hv
    subst hv
    rcases h with ⟨rfl,h⟩ | ⟨g,o,cap,cur,e,rfl,h⟩
    · exact ⟨_,rfl,h1,.inl ⟨rfl,h⟩⟩
    · exact ⟨_,rfl,h1,.inr ⟨g,o,cap,cur,e,rfl,h⟩⟩
  | ptr t => obtain ⟨g,o,cs,hv,h⟩:=h; obtain ⟨rfl⟩:=hv; exact ⟨g,o,cs,rfl,h⟩
  | clo f t => obtain ⟨caps,hv,h⟩:=h; obtain ⟨rfl⟩:=hv; exact ⟨caps,rfl,h⟩
  | mp a b =>
    obtain ⟨h1,h⟩:=h
    rcases h with ⟨hv,hx⟩ | ⟨r,ents,clock,hv,h⟩
    · obtain ⟨rfl⟩:=hv; exact ⟨h1,.inl ⟨rfl,hx⟩⟩
    · obtain ⟨rfl⟩:=hv; exact ⟨h1,.inr ⟨r,ents,clock,rfl,h⟩⟩
  | fnv => obtain ⟨rfl⟩:=h; rfl

/-! ### The relation of slots -/

structure Ctx.Le (c c':Ctx):Prop where
  heap:∀ b,c.M.S b → c'.w.heap[b]? = c.w.heap[b]?
  S:∀ b,c.M.S b → c'.M.S b
  D:∀ i,c.D i → c'.D i
  ν:∀ i,c.D i → c'.ν i = c.ν i

mutual
theorem PRel_mono {c c':Ctx} (hc:c.Le c'):∀ {p:PV} {v:Value},PRel c p v → PRel c' p v
  | .iv T x,v,h => by simp only [PRel] at h ⊢; exact ⟨h.1,RepR_mono hc.heap hc.S h.1 h.2⟩
  | .ref id off,v,h => by simp only [PRel] at h ⊢; obtain ⟨hd,g,h1,h2⟩:=h; exact ⟨hc.D _ hd,g,by rw [hc.ν _ hd]; exact h1,h2⟩
  | .eptr T x off,v,h => by
    simp only [PRel] at h ⊢
    obtain ⟨ho,g,o,cs,h1,h2,h3,h4,h5⟩:=h
    exact ⟨ho,g,o,cs,h1,hc.S _ h2,h3,h4.mono (hc.heap _ h2),RepC_mono hc.heap hc.S _ _ _ ho h5⟩
  | .lfull id,v,h => by simp only [PRel] at h ⊢; exact ⟨hc.D _ h.1,by rw [hc.ν _ h.1]; exact h.2.1,h.2.2⟩
  | .lsl id sz off len,v,h => by
    simp only [PRel] at h ⊢
    obtain ⟨hd,a,n,cap,b,h1,h2⟩:=h
    exact ⟨hc.D _ hd,a,n,cap,b,by rw [hc.ν _ hd]; exact h1,h2⟩
  | .lptr id sz i off,v,h => by
    simp only [PRel] at h ⊢
    obtain ⟨hd,g,o,n,cap,h1,h2⟩:=h
    exact ⟨hc.D _ hd,g,o,n,cap,by rw [hc.ν _ hd]; exact h1,h2⟩
  | .agg cs,v,h => by simp only [PRel] at h ⊢; obtain ⟨vs,h1,h0,h2⟩:=h; exact ⟨vs,h1,h0,PRels_mono hc h2⟩
  | .tup cs,v,h => by simp only [PRel] at h ⊢; obtain ⟨vs,h1,h2⟩:=h; exact ⟨vs,h1,PRels_mono hc h2⟩
  | .nilsl,v,h => by simp only [PRel] at h ⊢; exact h
  | .fn f cs,v,h => by simp only [PRel] at h ⊢; obtain ⟨vs,h1,h2⟩:=h; exact ⟨vs,h1,PRels_mono hc h2⟩
  | .lmap id,v,h => by simp only [PRel] at h ⊢; exact ⟨hc.D _ h.1,by rw [hc.ν _ h.1]; exact h.2.1,h.2.2⟩
  | .nilptr,v,h => by simp only [PRel] at h ⊢; exact h
  | .clip T xs,v,h => by simp only [PRel] at h ⊢; exact ⟨h.1,h.2.1,RepC_mono hc.heap hc.S (.sl T) _ _ h.1 h.2.2⟩
  | .aptr id base T n i,v,h => by simp only [PRel] at h ⊢; obtain ⟨hd,h0,h1,g,h2,h3⟩:=h; exact ⟨hc.D _ hd,h0,h1,g,by rw [hc.ν _ hd]; exact h2,h3⟩
  | .bnd f cs,v,h => by simp only [PRel] at h ⊢; obtain ⟨vs,h1,h2⟩:=h; exact ⟨vs,h1,PRels_mono hc h2⟩
  | .ifc f cs,v,h => by simp only [PRel] at h ⊢; obtain ⟨vs,h1,h2⟩:=h; exact ⟨vs,h1,PRels_mono hc h2⟩
  | .any,v,h => by simp only [PRel]
theorem PRels_mono {c c':Ctx} (hc:c.Le c'):∀ {ps:List PV} {vs:List Value},PRels c ps vs → PRels c' ps vs
  | [],vs,h => by simp only [PRels] at h ⊢; exact h
  | p :: ps,vs,h => by
    simp only [PRels] at h ⊢
    obtain ⟨v,r,h1,h2,h3⟩:=h
    exact ⟨v,r,h1,PRel_mono hc h2,PRels_mono hc h3⟩
end

theorem PRels_append {c:Ctx}:∀ {ps qs:List PV} {vs us:List Value},PRels c ps vs → PRels c qs us → PRels c (ps ++ qs) (vs ++ us)
  | [],qs,vs,us,h,h' => by simp only [PRels] at h; subst h; simpa using h'
  | p :: ps,qs,vs,us,h,h' => by
    simp only [PRels] at h
    obtain ⟨v,r,rfl,h1,h2⟩:=h
    simp only [List.cons_append,PRels]
    exact ⟨v,_,rfl,h1,PRels_append h2 h'⟩
theorem PRels_len {c:Ctx}:∀ {ps:List PV} {vs:List Value},PRels c ps vs → ps.length = vs.length
  | [],vs,h => by simp only [PRels] at h; simp [h]
  | p :: ps,vs,h => by
    simp only [PRels] at h
    obtain ⟨v,r,rfl,_,h2⟩:=h
    simp [PRels_len h2]
theorem PRels_drop {c:Ctx}:∀ (n:Nat) {ps:List PV} {vs:List Value},PRels c ps vs → PRels c (ps.drop n) (vs.drop n)
  | 0,ps,vs,h => by simpa using h
  | n + 1,[],vs,h => by simp only [PRels] at h; subst h; simp [PRels]
  | n + 1,p :: ps,vs,h => by
    simp only [PRels] at h
    obtain ⟨v,r,rfl,_,h2⟩:=h
    simpa using PRels_drop n h2
theorem PRels_take {c:Ctx}:∀ (n:Nat) {ps:List PV} {vs:List Value},PRels c ps vs → PRels c (ps.take n) (vs.take n)
  | 0,ps,vs,h => by simp [PRels]
  | n + 1,[],vs,h => by simp only [PRels] at h; subst h; simp [PRels]
  | n + 1,p :: ps,vs,h => by
    simp only [PRels] at h
    obtain ⟨v,r,rfl,h1,h2⟩:=h
    simp only [List.take_succ_cons,PRels]
    exact ⟨v,_,rfl,h1,PRels_take n h2⟩
theorem PRel_iv_one {c:Ctx} {T:Ty} {x:T.den} {v:Value} (ho:owns T = 0) (h:RepV T x c.w c.M v) (hT:T.val = true):PRel c (.iv T x) v:=by
  simp only [PRel]
  refine ⟨ho,?_⟩
  cases T <;> first | exact h | cases hT

theorem PRels_cellsOf {c:Ctx}:∀ (T:Ty) (x:T.den) (vs:List Value),owns T = 0 → RepC T x c.w c.M vs → PRels c (cellsOf T x) vs:=by
  intro T
  induction T with
  | unit => intro x vs _ h; simp only [RepC] at h; subst h; simp [cellsOf,PRels]
  | pair a b iha ihb =>
    intro x vs ho h
    simp [owns] at ho
    obtain ⟨va,vb,rfl,h1,h2⟩:=h
    simp only [cellsOf]
    exact PRels_append (iha _ _ ho.1 h1) (ihb _ _ ho.2 h2)
  | st t ih => intro x vs ho h; simp only [cellsOf]; exact ih _ _ ho h
  | tup a b => intro x vs _ h; exact h.elim
  | own t => intro x vs ho h; simp [owns] at ho
  | int k => intro x vs ho h; obtain ⟨rfl,h1⟩:=h; simp only [cellsOf,PRels]; exact ⟨_,[],rfl,PRel_iv_one ho ⟨rfl,h1⟩ rfl,rfl⟩
  | bool => intro x vs ho h; simp only [RepC] at h; subst h; simp only [cellsOf,PRels]; exact ⟨_,[],rfl,PRel_iv_one ho rfl rfl,rfl⟩
  | str => intro x vs ho h; obtain ⟨rfl,h1⟩:=h; simp only [cellsOf,PRels]; exact ⟨_,[],rfl,PRel_iv_one ho ⟨rfl,h1⟩ rfl,rfl⟩
  | sl t => intro x vs ho h; obtain ⟨a,cap,rfl,h1⟩:=h; simp only [cellsOf,PRels]; exact ⟨_,[],rfl,PRel_iv_one ho ⟨a,cap,rfl,h1⟩ rfl,rfl⟩
  | ptr t => intro x vs ho h; obtain ⟨g,o,cs,rfl,h1⟩:=h; simp only [cellsOf,PRels]; exact ⟨_,[],rfl,PRel_iv_one ho ⟨g,o,cs,rfl,h1⟩ rfl,rfl⟩
  | clo f t => intro x vs ho h; obtain ⟨caps,rfl,h1⟩:=h; simp only [cellsOf,PRels]; exact ⟨_,[],rfl,PRel_iv_one ho ⟨caps,rfl,h1⟩ rfl,rfl⟩
  | mp a b =>
    intro x vs ho h
    simp only [cellsOf,PRels]
    rcases h.2 with ⟨rfl,_⟩ | ⟨r,ents,clock,rfl,_⟩
    · exact ⟨_,[],rfl,PRel_iv_one ho h rfl,rfl⟩
    · exact ⟨_,[],rfl,PRel_iv_one ho h rfl,rfl⟩
  | fnv => intro x vs ho h; obtain ⟨rfl⟩:=h; simp only [cellsOf,PRels]; exact ⟨_,[],rfl,PRel_iv_one (T:=.fnv) ho rfl rfl,rfl⟩

theorem RepC_one:∀ (T:Ty) (x:T.den) (w:World) (M:Mem) (vs:List Value),RepC T x w M vs → ∀ u,u ∈ vs → u.oneCell' = true:=by
  intro T
  induction T with
  | unit => intro x w M vs h; simp [RepC] at h; simp [h]
  | int k => intro x w M vs h; obtain ⟨rfl,_⟩:=h; simp [Value.oneCell']
  | bool => intro x w M vs h; simp [RepC] at h; simp [h,Value.oneCell']
  | str => intro x w M vs h; obtain ⟨rfl,_⟩:=h; simp [Value.oneCell']
  | sl t ih => intro x w M vs h; obtain ⟨a,cap,rfl,_⟩:=h; simp [Value.oneCell']
  | own t ih =>
    intro x w M vs h; obtain ⟨v,rfl,_,h⟩:=h
    rcases h with ⟨rfl,_⟩ | ⟨g,o,cap,cur,e,rfl,_⟩ <;> simp [Value.oneCell']
  | pair a b iha ihb =>
    intro x w M vs h u hu
    obtain ⟨va,vb,rfl,h1,h2⟩:=h
    rcases List.mem_append.1 hu with hu | hu
    · exact iha _ _ _ _ h1 u hu
    · exact ihb _ _ _ _ h2 u hu
  | st t ih => intro x w M vs h; exact ih _ _ _ _ h
  | tup a b => intro x w M vs h; exact h.elim
  | ptr t ih => intro x w M vs h; obtain ⟨g,o,cs,rfl,_⟩:=h; simp [Value.oneCell']
  | clo f t ih => intro x w M vs h; obtain ⟨caps,rfl,_⟩:=h; simp [Value.oneCell']
  | mp a b => intro x w M vs h; rcases h.2 with ⟨rfl,_⟩ | ⟨r,ents,clock,rfl,_⟩ <;> simp [Value.oneCell']
  | fnv => intro x w M vs h; obtain ⟨rfl⟩:=h; simp [Value.oneCell']

theorem PRel_cells {c:Ctx} {p:PV} {v:Value} {cs:List PV} (h:PRel c p v) (hc:p.cells = some cs):PRels c cs v.cells.toList ∧ ∀ u,u ∈ v.cells.toList → u.oneCell' = true:=by
  cases p with
  | iv T x =>
    simp only [PV.cells] at hc
    split at hc
    · rename_i hT
      injection hc with hc
      subst hc
      simp only [PRel] at h
      have hr:RepC T x c.w c.M v.cells.toList:=by
        refine RepV_cells hT ?_
        cases T <;> first | exact h.2 | cases hT
      exact ⟨PRels_cellsOf T x _ h.1 hr,RepC_one _ _ _ _ _ hr⟩
    · cases hc
  | agg ps =>
    simp only [PV.cells,Option.some.injEq] at hc
    subst hc
    simp only [PRel] at h
    obtain ⟨vs,rfl,h0,h⟩:=h
    simp only [Value.cells]
    exact ⟨h,h0⟩
  | tup _ => cases hc
  | any => cases hc
  | ref id off =>
    simp only [PV.cells,Option.some.injEq] at hc; subst hc
    have h':=h
    simp only [PRel] at h; obtain ⟨_,g,_,rfl⟩:=h
    simp only [Value.cells,PRels]; exact ⟨⟨_,[],rfl,h',rfl⟩,by simp [Value.oneCell']⟩
  | eptr T x off =>
    simp only [PV.cells,Option.some.injEq] at hc; subst hc
    have h':=h
    simp only [PRel] at h; obtain ⟨_,g,o,cs,rfl,_⟩:=h
    simp only [Value.cells,PRels]; exact ⟨⟨_,[],rfl,h',rfl⟩,by simp [Value.oneCell']⟩
  | lfull id =>
    simp only [PV.cells,Option.some.injEq] at hc; subst hc
    have h':=h
    simp only [PRel] at h; obtain ⟨_,_,a,n,cap,rfl⟩:=h
    simp only [Value.cells,PRels]; exact ⟨⟨_,[],rfl,h',rfl⟩,by simp [Value.oneCell']⟩
  | lsl id sz off len =>
    simp only [PV.cells,Option.some.injEq] at hc; subst hc
    have h':=h
    simp only [PRel] at h; obtain ⟨_,a,n,cap,b,_,_,_,rfl,_⟩:=h
    simp only [Value.cells,PRels]; exact ⟨⟨_,[],rfl,h',rfl⟩,by simp [Value.oneCell']⟩
  | lptr id sz i off =>
    simp only [PV.cells,Option.some.injEq] at hc; subst hc
    have h':=h
    simp only [PRel] at h; obtain ⟨_,g,o,n,cap,_,_,rfl⟩:=h
    simp only [Value.cells,PRels]; exact ⟨⟨_,[],rfl,h',rfl⟩,by simp [Value.oneCell']⟩
  | nilsl =>
    simp only [PV.cells,Option.some.injEq] at hc; subst hc
    have h':=h
    simp only [PRel] at h; subst h
    simp only [Value.cells,PRels]; exact ⟨⟨_,[],rfl,h',rfl⟩,by simp [Value.oneCell']⟩
  | fn f ps =>
    simp only [PV.cells,Option.some.injEq] at hc; subst hc
    have h':=h
    simp only [PRel] at h; obtain ⟨vs,rfl,_⟩:=h
    simp only [Value.cells,PRels]; exact ⟨⟨_,[],rfl,h',rfl⟩,by simp [Value.oneCell']⟩
  | lmap id =>
    simp only [PV.cells,Option.some.injEq] at hc; subst hc
    have h':=h
    simp only [PRel] at h; obtain ⟨_,_,r,rfl⟩:=h
    simp only [Value.cells,PRels]; exact ⟨⟨_,[],rfl,h',rfl⟩,by simp [Value.oneCell']⟩
  | nilptr =>
    simp only [PV.cells,Option.some.injEq] at hc; subst hc
    have h':=h
    simp only [PRel] at h; subst h
    simp only [Value.cells,PRels]; exact ⟨⟨_,[],rfl,h',rfl⟩,by simp [Value.oneCell']⟩
  | aptr id base T n i =>
    simp only [PV.cells,Option.some.injEq] at hc; subst hc
    have h':=h
    simp only [PRel] at h; obtain ⟨_,_,_,g,_,rfl⟩:=h
    simp only [Value.cells,PRels]; exact ⟨⟨_,[],rfl,h',rfl⟩,by simp [Value.oneCell']⟩
  | bnd f ps =>
    simp only [PV.cells,Option.some.injEq] at hc; subst hc
    have h':=h
    simp only [PRel] at h; obtain ⟨vs,rfl,_⟩:=h
    simp only [Value.cells,PRels]; exact ⟨⟨_,[],rfl,h',rfl⟩,by simp [Value.oneCell']⟩
  | ifc f ps =>
    simp only [PV.cells,Option.some.injEq] at hc; subst hc
    have h':=h
    simp only [PRel] at h; obtain ⟨u,rfl,_⟩:=h
    simp only [Value.cells,PRels]; exact ⟨⟨_,[],rfl,h',rfl⟩,by simp [Value.oneCell']⟩
  | clip T xs =>
    simp only [PV.cells,Option.some.injEq] at hc; subst hc
    have h':=h
    simp only [PRel] at h; obtain ⟨_,⟨a,n,rfl⟩,_⟩:=h
    simp only [Value.cells,PRels]; exact ⟨⟨_,[],rfl,h',rfl⟩,by simp [Value.oneCell']⟩
end Go.Proofs.Ytefpgfdemmllpaa
namespace Go.Proofs.Ytefpgfdemmllpaa
open Go.RowKit

theorem lk_some {F:Reg} {bl:List (Nat × Blk)} {id:Nat} {b:Blk} (h:lk F bl id = some b):look id bl = some b ∧ mem1 id F.h = false:=by
  unfold lk at h
  cases hm:mem1 id F.h <;> simp [hm] at h
  exact ⟨h,rfl⟩
theorem lkS_some {F:Reg} {bl:List (Nat × Blk)} {id:Nat} {b:Blk} (h:lkS F bl id = some b):look id bl = some b ∧ mem1 id F.h = false ∧ stOK F.h id = true:=by
  unfold lkS at h
  cases hm:stOK F.h id with
  | false => rw [hm] at h; cases h
  | true => rw [hm] at h; exact ⟨(lk_some h).1,(lk_some h).2,rfl⟩
theorem stOK_mem {g id:Nat}:∀ {h:List Nat},mem1 (2000000000 + g) h = true → stOK h id = true → id = g
  | [],h1,_ => by cases h1
  | x :: r,h1,h2 => by
    simp only [stOK,Bool.and_eq_true] at h2
    unfold mem1 at h1
    cases hb:Nat.beq (2000000000 + g) x with
    | true =>
      have hx:=Nat.eq_of_beq_eq_true hb
      subst hx
      have hle:Nat.ble 2000000000 (2000000000 + g) = true:=Nat.ble_eq_true_of_le (by omega)
      rw [hle] at h2
      have:=Nat.eq_of_beq_eq_true h2.1
      omega
    | false => rw [hb] at h1; exact stOK_mem h1 h2.2


structure Reads (F:Reg) (s:St) (c:Ctx) (M':Mem):Prop where
  D:c.D = s.D
  blk:∀ id b,look id s.bl = some b → BRel c id b
  S:∀ b,c.M.S b → M'.S b
  loc:∀ id,mem1 id F.h = false → c.D id → ∀ g,blockOf (c.ν id) = some g → M'.S g

theorem own_block {c:Ctx} {id:Nat} {T:Ty} {xs:List T.den} {te:Option Nat} (h:BRel c id (.arr T xs te)):owns T = 0 ∧ RepC (.own T) xs c.w c.M [c.ν id]:=h.2

theorem sl_of_own {T:Ty} {xs:List T.den} {w:World} {M M':Mem} {v:Value} (ho:owns T = 0) (hS:∀ b,M.S b → M'.S b) (h:RepC (.own T) xs w M [v]) (hl:∀ g,blockOf v = some g → M'.S g) :
    RepC (.sl T) xs w M' [v]:=by
  obtain ⟨u,hv,h1,h⟩:=h
  injection hv with hv
  subst hv
  rcases h with ⟨rfl,rfl⟩ | ⟨g,o,cap,cur,e,rfl,h2,h3,_,_,h4,h5,h6⟩
  · exact ⟨none,0,rfl,Nat.le_refl _,by omega,.inl rfl⟩
  · refine ⟨_,_,rfl,h2,h3,.inr ⟨g,o,rfl,hl g rfl,fun i y hy => ?_⟩⟩
    obtain ⟨cs,hc,hca,hr⟩:=h6 i y hy
    exact ⟨cs,hc,hca,RepC_mono (M:=M) (fun _ _ => rfl) hS _ _ _ ho hr⟩

theorem sl_part {T:Ty} {xs:List T.den} {w:World} {M:Mem} {a b:Option Addr} {cap off len:Nat} (h:RepC (.sl T) xs w M [.slice a xs.length cap]) (hn:off + len ≤ xs.length)
    (hb:off < cap → ∃ g o,a = some ⟨g,o,none⟩ ∧ b = some ⟨g,o + off * T.cells,none⟩):RepC (.sl T) ((xs.drop off).take len) w M [.slice b len (cap - off)]:=by
  obtain ⟨a',cap',hv,h1,h2,h3⟩:=h
  obtain ⟨rfl,rfl⟩:a' = a ∧ cap' = cap:=by injection hv with hv; injection hv with h1 _ h2; exact ⟨h1.symm,h2.symm⟩
  have hlen:((xs.drop off).take len).length = len:=by simp; omega
  refine ⟨b,cap' - off,by rw [hlen],by rw [hlen]; omega,by omega,?_⟩
  by_cases hz:len = 0
  · left; subst hz; simp
  · obtain ⟨g,o,hga,hgb⟩:=hb (by omega)
    rcases h3 with h3 | ⟨g',o',hga',hg,h4⟩
    · subst h3; simp at hn; omega
    · rw [hga] at hga'
      obtain ⟨rfl,rfl⟩:g = g' ∧ o = o':=by injection hga' with e; injection e with e1 e2; exact ⟨e1,e2⟩
      refine .inr ⟨g,o + off * T.cells,hgb,hg,fun i y hy => ?_⟩
      have hi:i < len:=by
        rcases Nat.lt_or_ge i len with h | h
        · exact h
        · rw [List.getElem?_eq_none (by omega)] at hy; cases hy
      have hy':xs[off + i]? = some y:=by
        rw [List.getElem?_take,if_pos hi,List.getElem?_drop] at hy; exact hy
      obtain ⟨cs,hl,hc,hr⟩:=h4 _ _ hy'
      refine ⟨cs,hl,?_,hr⟩
      have e:o + (off + i) * T.cells = o + off * T.cells + i * T.cells:=by rw [Nat.add_mul]; omega
      rwa [e] at hc

section
variable {F:Reg} {s:St} {c:Ctx} {M':Mem}

theorem asLit_sound (hR:Reads F s c M') {T:Ty} {p:PV} {x:T.den} {v:Value} (hT:T.val = true) (h:asLit T p = some x) (hp:PRel c p v):owns T = 0 ∧ RepV T x c.w M' v:=by
  cases p <;> simp only [asLit] at h <;> first | cases h | skip
  rename_i U y
  obtain ⟨e,hx⟩:=Ty.cast_some h
  subst e
  simp only at hx
  subst hx
  simp only [PRel] at hp
  refine ⟨hp.1,RepV_mono (M:=c.M) (fun _ _ => rfl) hR.S hp.1 ?_⟩
  cases U <;> first | exact hp.2 | cases hT

theorem asSl_rep (hR:Reads F s c M') {t:Ty} {p:PV} {x:List t.den} {v:Value} (h:asSl F s.bl t p = some x) (hp:PRel c p v):RepC (.sl t) x c.w M' [v]:=by
  cases p with
  | iv U y =>
    simp only [asSl] at h
    obtain ⟨e,hx⟩:=Ty.cast_some h
    subst e
    simp only at hx
    subst hx
    simp only [PRel] at hp
    exact RepC_mono (M:=c.M) (fun _ _ => rfl) hR.S (.sl t) _ _ hp.1 hp.2
  | lfull id =>
    simp only [asSl] at h
    split at h
    · rename_i U xs te hl
      obtain ⟨hl,hF⟩:=lk_some hl
      obtain ⟨e,hx⟩:=Ty.cast_some h
      injection e with e
      subst e
      simp only at hx
      subst hx
      obtain ⟨hoU,hb⟩:=own_block (hR.blk _ _ hl)
      simp only [PRel] at hp
      rw [hp.2.1]
      exact sl_of_own hoU hR.S hb (hR.loc id hF hp.1)
    · cases h
  | lsl id sz off len =>
    simp only [asSl] at h
    split at h
    · rename_i U xs te hl
      obtain ⟨hl,hF⟩:=lk_some hl
      split at h
      case h_2 => cases h
      rename_i hsz
      have hsz:=Nat.eq_of_beq_eq_true hsz
      obtain ⟨e,hx⟩:=Ty.cast_some h
      injection e with e
      subst e
      simp only at hx
      subst hx
      obtain ⟨hoU,hb⟩:=own_block (hR.blk _ _ hl)
      simp only [PRel] at hp
      obtain ⟨hd,a,n,cap,b,hν,hn,hcap,rfl,hb'⟩:=hp
      have hsl:=sl_of_own hoU hR.S hb (hR.loc id hF hd)
      rw [hν] at hsl
      have hlen:n = xs.length:=by
        obtain ⟨a',cap',hv,_⟩:=hsl
        injection hv with hv
        injection hv
      subst hlen
      subst hsz
      exact sl_part hsl hn hb'
    · cases h
  | nilsl =>
    simp only [asSl,Option.some.injEq] at h
    subst h
    simp only [PRel] at hp
    subst hp
    exact ⟨none,0,rfl,Nat.le_refl _,by omega,.inl rfl⟩
  | clip U xs =>
    simp only [asSl] at h
    obtain ⟨e,hx⟩:=Ty.cast_some h
    injection e with e
    subst e
    simp only at hx
    subst hx
    simp only [PRel] at hp
    exact RepC_mono (M:=c.M) (fun _ _ => rfl) hR.S (.sl _) _ _ hp.1 hp.2.2
  | _ => simp only [asSl] at h; cases h

theorem asOwn_rep (hR:Reads F s c M') (hM:M' = c.M) {t:Ty} {p:PV} {x:List t.den} {v:Value} (h:asOwn s.bl t p = some x) (hp:PRel c p v):RepC (.own t) x c.w M' [v]:=by
  cases p with
  | lfull id =>
    simp only [asOwn] at h
    split at h
    · rename_i U xs te hl
      obtain ⟨e,hx⟩:=Ty.cast_some h
      injection e with e
      subst e
      simp only at hx
      subst hx
      obtain ⟨hoU,hb⟩:=own_block (hR.blk _ _ hl)
      simp only [PRel] at hp
      rw [hp.2.1,hM]
      exact hb
    · cases h
  | nilsl =>
    simp only [asOwn,Option.some.injEq] at h
    subst h
    simp only [PRel] at hp
    subst hp
    exact ⟨_,rfl,by simp,.inl ⟨rfl,rfl⟩⟩
  | _ => simp only [asOwn] at h; cases h

theorem mp_mono {k v:Ty} {es:List (k.den × v.den)} {w:World} {M M':Mem} {val:Value} (hok:owns k = 0) (hov:owns v = 0) (hS:∀ b,M.S b → M'.S b) {r:Nat} {ents:Array MapEntry} {clock:Nat}
    (h0:es.length ≤ 9223372036854775807) (h1:val = .map (some r)) (h2:M'.S r) (h3:w.heap[r]? = some (.map ents clock)) (h4:Births ents clock) (h5:ents.size = es.length)
    (h6:∀ (i:Nat) (y:k.den × v.den),es[i]? = some y → ∃ (e:MapEntry) (ca cb:List Value),ents[i]? = some e ∧ e.key = valOf k ca ∧ RepC k y.1 w M ca ∧ e.val = valOf v cb ∧ RepC v y.2 w M cb):RepC (.mp k v) es w M' [val]:=by
  refine ⟨h0,.inr ⟨r,ents,clock,by rw [h1],h2,h3,h4,h5,fun i y hy => ?_⟩⟩
  obtain ⟨e,ca,cb,e1,e2,e3,e4,e5⟩:=h6 i y hy
  exact ⟨e,ca,cb,e1,e2,RepC_mono (M:=M) (fun _ _ => rfl) hS _ _ _ hok e3,e4,RepC_mono (M:=M) (fun _ _ => rfl) hS _ _ _ hov e5⟩

theorem asMp_rep (hR:Reads F s c M') {k v:Ty} {p:PV} {x:List (k.den × v.den)} {val:Value} (h:asMp F s.bl k v p = some x) (hp:PRel c p val):RepC (.mp k v) x c.w M' [val]:=by
  cases p with
  | iv U y =>
    simp only [asMp] at h
    obtain ⟨e,hx⟩:=Ty.cast_some h
    subst e
    simp only at hx
    subst hx
    simp only [PRel] at hp
    exact RepC_mono (M:=c.M) (fun _ _ => rfl) hR.S (.mp k v) _ _ hp.1 hp.2
  | lmap id =>
    simp only [asMp] at h
    split at h
    · rename_i K V es hl
      obtain ⟨hl,hF⟩:=lk_some hl
      obtain ⟨e,hx⟩:=Ty.cast_some h
      injection e with e1 e2
      subst e1; subst e2
      simp only at hx
      subst hx
      obtain ⟨hok,hov,h0,r,ents,clock,h1,h2,h3,h4,h5,h6,h7⟩:=hR.blk _ _ hl
      simp only [PRel] at hp
      exact mp_mono hok hov hR.S h0 (by rw [hp.2.1,h1]) (hR.loc id hF hp.1 r (by rw [h1]; rfl)) h4 h5 h6 h7
    · cases h
  | _ => simp only [asMp] at h; cases h

theorem asFnv_rep {p:PV} {x:Nat} {w:World} {M:Mem} {val:Value} (h:asFnv p = some x) (hp:PRel c p val):RepC .fnv x w M [val]:=by
  cases p with
  | iv U y =>
    simp only [asFnv] at h
    obtain ⟨e,hx⟩:=Ty.cast_some h
    subst e
    simp only at hx
    subst hx
    simp only [PRel] at hp
    exact hp.2
  | fn f cs =>
    cases cs with
    | nil =>
      simp only [asFnv,Option.some.injEq] at h
      subst h
      simp only [PRel,PRels] at hp
      obtain ⟨vs,rfl,rfl⟩:=hp
      rfl
    | cons a b => simp [asFnv] at h
  | _ => simp only [asFnv] at h; cases h

theorem withR_some {α:Type} {x:Option α} {r r':List PV} {y:α} (h:withR x r = some (y,r')):x = some y ∧ r = r':=by
  cases x <;> simp [withR] at h
  exact ⟨by rw [h.1],h.2⟩
theorem fstOf_some {α:Type} {x:Option (α × List PV)} {y:α} (h:fstOf x = some y):x = some (y,[]):=by
  unfold fstOf at h
  split at h
  · injection h with h; subst h; rfl
  · cases h
theorem boxAt_some {id off:Nat} {cs:List PV} (h:boxAt F s.bl id off = some cs):off = 0 ∧ (∃ te,look id s.bl = some (.box cs te)) ∧ mem1 id F.h = false:=by
  unfold boxAt at h
  split at h
  · rename_i h'
    injection h with h
    subst h
    obtain ⟨h1,h2⟩:=lk_some h'
    exact ⟨rfl,⟨_,h1⟩,h2⟩
  · cases h

theorem lit_one (hR:Reads F s c M') {T:Ty} {ps:List PV} {x:T.den} {r:List PV} {vs:List Value} (hT:T.val = true) (hc:∀ v,RepV T x c.w M' v → RepC T x c.w M' [v])
    (h:(match ps with | q :: r => withR (asLit T q) r | [] => none) = some (x,r)) (hp:PRels c ps vs):∃ va vb,vs = va ++ vb ∧ RepC T x c.w M' va ∧ PRels c r vb:=by
  cases ps with
  | nil => cases h
  | cons q qs =>
    obtain ⟨hx,rfl⟩:=withR_some h
    simp only [PRels] at hp
    obtain ⟨v,rr,rfl,h1,h2⟩:=hp
    exact ⟨[v],rr,rfl,hc v (asLit_sound hR hT hx h1).2,h2⟩

theorem pk_sound (hR:Reads F s c M'):∀ (T:Ty) (ps:List PV) (x:T.den) (r:List PV) (vs:List Value),(owns T = 0 ∨ M' = c.M) → pk F s.bl T ps = some (x,r) → PRels c ps vs →
    ∃ va vb,vs = va ++ vb ∧ RepC T x c.w M' va ∧ PRels c r vb:=by
  intro T
  induction T with
  | unit =>
    intro ps x r vs ho h hp
    simp only [pk,Option.some.injEq,Prod.mk.injEq] at h
    obtain ⟨_,rfl⟩:=h
    exact ⟨[],vs,rfl,rfl,hp⟩
  | pair a b iha ihb =>
    intro ps x r vs ho h hp
    have hoa:owns a = 0 ∨ M' = c.M:=by
      rcases ho with ho | ho
      · simp [owns] at ho; exact .inl ho.1
      · exact .inr ho
    have hob:owns b = 0 ∨ M' = c.M:=by
      rcases ho with ho | ho
      · simp [owns] at ho; exact .inl ho.2
      · exact .inr ho
    simp only [pk] at h
    split at h
    · rename_i y r1 h1
      split at h
      · rename_i z r2 h2
        simp only [Option.some.injEq,Prod.mk.injEq] at h
        obtain ⟨rfl,rfl⟩:=h
        obtain ⟨va,vb,rfl,hra,hpa⟩:=iha ps y r1 vs hoa h1 hp
        obtain ⟨vc,vd,rfl,hrb,hpb⟩:=ihb r1 z r2 vb hob h2 hpa
        exact ⟨va ++ vc,vd,by simp,⟨va,vc,rfl,hra,hrb⟩,hpb⟩
      · cases h
    · cases h
  | st t ih =>
    intro ps x r vs ho h hp
    simp only [pk] at h
    exact ih ps x r vs (by simpa [owns] using ho) h hp
  | tup a b => intro ps x r vs ho h hp; simp only [pk] at h; cases h
  | int k => intro ps x r vs ho h hp; simp only [pk] at h; exact lit_one hR rfl (fun _ h => h) h hp
  | bool => intro ps x r vs ho h hp; simp only [pk] at h; exact lit_one hR rfl (fun _ h => h) h hp
  | str => intro ps x r vs ho h hp; simp only [pk] at h; exact lit_one hR rfl (fun _ h => h) h hp
  | sl t ih =>
    intro ps x r vs ho h hp
    simp only [pk] at h
    split at h
    · obtain ⟨hx,rfl⟩:=withR_some h
      simp only [PRels] at hp
      obtain ⟨v,rr,rfl,h1,h2⟩:=hp
      exact ⟨[v],rr,rfl,asSl_rep hR hx h1,h2⟩
    · cases h
  | own t ih =>
    intro ps x r vs ho h hp
    have hM:M' = c.M:=by
      rcases ho with ho | ho
      · simp [owns] at ho
      · exact ho
    simp only [pk] at h
    split at h
    · obtain ⟨hx,rfl⟩:=withR_some h
      simp only [PRels] at hp
      obtain ⟨v,rr,rfl,h1,h2⟩:=hp
      exact ⟨[v],rr,rfl,asOwn_rep hR hM hx h1,h2⟩
    · cases h
  | ptr t ih =>
    intro ps x r vs ho h hp
    have hos:owns t = 0 ∨ M' = c.M:=by simpa [owns] using ho
    simp only [pk] at h
    split at h
    · simp only [PRels] at hp
      obtain ⟨v,rr,rfl,h1,h2⟩:=hp
      split at h
      · obtain ⟨hx,rfl⟩:=withR_some h
        obtain ⟨e,hx⟩:=Ty.cast_some hx
        subst e
        simp only at hx
        subst hx
        simp only [PRel] at h1
        exact ⟨[v],rr,rfl,RepC_mono (M:=c.M) (fun _ _ => rfl) hR.S (.ptr t) _ _ h1.1 h1.2,h2⟩
      · split at h
        · obtain ⟨hx,rfl⟩:=withR_some h
          obtain ⟨e,hx⟩:=Ty.cast_some hx
          subst e
          simp only at hx
          subst hx
          simp only [PRel] at h1
          obtain ⟨hoU,g,o,cs,rfl,hg,hl,hc,hr⟩:=h1
          exact ⟨[_],rr,rfl,⟨g,o,cs,rfl,hR.S _ hg,hl,hc,RepC_mono (M:=c.M) (fun _ _ => rfl) hR.S _ _ _ hoU hr⟩,h2⟩
        · cases h
      · rename_i id off
        split at h
        · rename_i cs hb
          obtain ⟨hx,rfl⟩:=withR_some h
          have hpk:=fstOf_some hx
          obtain ⟨rfl,⟨te,hl⟩,hF⟩:=boxAt_some hb
          simp only [PRel] at h1
          obtain ⟨hd,g,hg,rfl⟩:=h1
          obtain ⟨_,g',us,e,hg',hB,hnS,hh,_,hrel⟩:=hR.blk _ _ hl
          rw [hg] at hg'
          obtain rfl:g = g':=by injection hg' with e1; injection e1 with e1; injection e1
          obtain ⟨va,vb,hv,hrep,hrest⟩:=ih cs x [] us.toList hos hpk hrel
          simp only [PRels] at hrest
          subst hrest
          rw [List.append_nil] at hv
          refine ⟨[_],rr,rfl,⟨g,0,va,rfl,hR.loc id hF hd g (by rw [hg]; rfl),RepC_len _ _ _ _ _ hrep,fun j u hj => ?_,hrep⟩,h2⟩
          rw [cell_of_row c.w g _ us e (0,0) hh,← Array.getElem?_toList,hv,Nat.zero_add]
          exact hj
        · cases h
      · cases h
    · cases h
  | clo f t ih =>
    intro ps x r vs ho h hp
    have hos:owns t = 0 ∨ M' = c.M:=by simpa [owns] using ho
    simp only [pk] at h
    split at h
    · simp only [PRels] at hp
      obtain ⟨v,rr,rfl,h1,h2⟩:=hp
      split at h
      · obtain ⟨hx,rfl⟩:=withR_some h
        obtain ⟨e,hx⟩:=Ty.cast_some hx
        subst e
        simp only at hx
        subst hx
        simp only [PRel] at h1
        exact ⟨[v],rr,rfl,RepC_mono (M:=c.M) (fun _ _ => rfl) hR.S (.clo f t) _ _ h1.1 h1.2,h2⟩
      · rename_i g caps
        cases hb:Nat.beq f g with
        | false => simp [hb] at h
        | true =>
          simp only [hb,cond_true] at h
          have hfg:=Nat.eq_of_beq_eq_true hb
          subst hfg
          obtain ⟨hx,rfl⟩:=withR_some h
          have hpk:=fstOf_some hx
          simp only [PRel] at h1
          obtain ⟨us,rfl,hrel⟩:=h1
          obtain ⟨va,vb,hv,hrep,hrest⟩:=ih caps x [] us hos hpk hrel
          simp only [PRels] at hrest
          subst hrest
          rw [List.append_nil] at hv
          subst hv
          exact ⟨[_],rr,rfl,⟨us,rfl,hrep⟩,h2⟩
      · cases h
    · cases h
  | mp a b iha ihb =>
    intro ps x r vs ho h hp
    simp only [pk] at h
    split at h
    · obtain ⟨hx,rfl⟩:=withR_some h
      simp only [PRels] at hp
      obtain ⟨v,rr,rfl,h1,h2⟩:=hp
      exact ⟨[v],rr,rfl,asMp_rep hR hx h1,h2⟩
    · cases h
  | fnv =>
    intro ps x r vs ho h hp
    simp only [pk] at h
    split at h
    · obtain ⟨hx,rfl⟩:=withR_some h
      simp only [PRels] at hp
      obtain ⟨v,rr,rfl,h1,h2⟩:=hp
      exact ⟨[v],rr,rfl,asFnv_rep hx h1,h2⟩
    · cases h
end
end Go.Proofs.Ytefpgfdemmllpaa
namespace Go.Proofs.Ytefpgfdemmllpaa
open Go.RowKit

section
variable {F:Reg} {s:St} {c:Ctx} {M':Mem}

theorem repV_of_repC {T:Ty} {x:T.den} {w:World} {M:Mem} {v:Value} (hT:T.val = true) (hs:∀ t,T ≠ .st t) (h:RepC T x w M [v]):RepV T x w M v:=by
  cases T <;> first | exact h | exact absurd rfl (hs _) | cases hT

theorem pkOne (hR:Reads F s c M') {T:Ty} {p:PV} {x:T.den} {v:Value} (hT:T.val = true) (hs:∀ t,T ≠ .st t) (ho:owns T = 0 ∨ M' = c.M) (h:fstOf (pk F s.bl T [p]) = some x) (hp:PRel c p v) :
    RepV T x c.w M' v:=by
  have hpk:=fstOf_some h
  obtain ⟨va,vb,hv,hrep,hrest⟩:=pk_sound hR T [p] x [] [v] ho hpk (by simp only [PRels]; exact ⟨v,[],rfl,hp,rfl⟩)
  simp only [PRels] at hrest
  subst hrest
  rw [List.append_nil] at hv
  subst hv
  exact repV_of_repC hT hs hrep

theorem exp_sound (hR:Reads F s c M') {T:Ty} {p:PV} {x:T.den} {v:Value} (ho:owns T = 0 ∨ M' = c.M) (h:exp F s.bl T p = some x) (hp:PRel c p v):RepV T x c.w M' v:=by
  cases T with
  | st t =>
    simp only [exp] at h
    split at h
    · rename_i U y
      obtain ⟨e,hx⟩:=Ty.cast_some h
      subst e
      simp only at hx
      subst hx
      simp only [PRel] at hp
      exact RepV_mono (M:=c.M) (fun _ _ => rfl) hR.S hp.1 hp.2
    · rename_i cs
      have hpk:=fstOf_some h
      simp only [PRel] at hp
      obtain ⟨us,rfl,_,hrel⟩:=hp
      obtain ⟨va,vb,hv,hrep,hrest⟩:=pk_sound hR t cs x [] us (by simpa [owns] using ho) hpk hrel
      simp only [PRels] at hrest
      subst hrest
      rw [List.append_nil] at hv
      subst hv
      exact ⟨us,rfl,hrep⟩
    · cases h
  | unit => simp only [exp] at h; cases h
  | pair a b => simp only [exp] at h; cases h
  | tup a b => simp only [exp] at h; cases h
  | int k => exact pkOne hR rfl (fun _ => by simp) ho (by simpa only [exp] using h) hp
  | bool => exact pkOne hR rfl (fun _ => by simp) ho (by simpa only [exp] using h) hp
  | str => exact pkOne hR rfl (fun _ => by simp) ho (by simpa only [exp] using h) hp
  | sl t => exact pkOne hR rfl (fun _ => by simp) ho (by simpa only [exp] using h) hp
  | own t => exact pkOne hR rfl (fun _ => by simp) ho (by simpa only [exp] using h) hp
  | ptr t => exact pkOne hR rfl (fun _ => by simp) ho (by simpa only [exp] using h) hp
  | clo f t => exact pkOne hR rfl (fun _ => by simp) ho (by simpa only [exp] using h) hp
  | mp a b => exact pkOne hR rfl (fun _ => by simp) ho (by simpa only [exp] using h) hp
  | fnv => exact pkOne hR rfl (fun _ => by simp) ho (by simpa only [exp] using h) hp

theorem expAll_sound (hR:Reads F s c M'):∀ (Ts:List Ty) (ps:List PV) (xs:List (Sigma Ty.den)) (vs:List Value),(∀ T,T ∈ Ts → owns T = 0) → expAll F s.bl Ts ps = some xs → PRels c ps vs → RepAs c.w M' xs vs:=by
  intro Ts
  induction Ts with
  | nil =>
    intro ps xs vs ho h hp
    cases ps with
    | nil => simp only [expAll,Option.some.injEq] at h; subst h; simpa only [RepAs,PRels] using hp
    | cons p ps => simp [expAll] at h
  | cons T Ts ih =>
    intro ps xs vs ho h hp
    cases ps with
    | nil => simp [expAll] at h
    | cons p ps =>
      simp only [expAll] at h
      split at h
      · rename_i x hx
        split at h
        · rename_i r hr
          simp only [Option.some.injEq] at h
          subst h
          simp only [PRels] at hp
          obtain ⟨v,us,rfl,h1,h2⟩:=hp
          have hoT:=ho T (by simp)
          exact ⟨v,us,rfl,hoT,exp_sound hR (.inl hoT) hx h1,ih ps r us (fun T' hT' => ho T' (by simp [hT'])) hr h2⟩
        · cases h
      · cases h

theorem expT_sound (hR:Reads F s c M'):∀ (T:Ty) (ps:List PV) (x:T.den) (vs:List Value),(owns T = 0 ∨ M' = c.M) → expT F s.bl T ps = some x → PRels c ps vs → RepT T x c.w M' vs:=by
  intro T
  induction T with
  | tup a b iha ihb =>
    intro ps x vs ho h hp
    have hoa:owns a = 0 ∨ M' = c.M:=by
      rcases ho with ho | ho
      · simp [owns] at ho; exact .inl ho.1
      · exact .inr ho
    have hob:owns b = 0 ∨ M' = c.M:=by
      rcases ho with ho | ho
      · simp [owns] at ho; exact .inl ho.2
      · exact .inr ho
    simp only [expT] at h
    split at h
    · rename_i p r
      simp only [PRels] at hp
      obtain ⟨v,us,rfl,h1,h2⟩:=hp
      split at h
      · rename_i y hy
        split at h
        · rename_i z hz
          simp only [Option.some.injEq] at h
          subst h
          exact ⟨v,us,rfl,exp_sound hR hoa hy h1,ihb r z us hob hz h2⟩
        · cases h
      · cases h
    · cases h
  | _ =>
    intro ps x vs ho h hp
    simp only [expT] at h
    split at h
    · simp only [PRels] at hp
      obtain ⟨v,us,rfl,h1,h2⟩:=hp
      subst h2
      exact ⟨v,rfl,exp_sound hR ho h h1⟩
    · cases h
end

/-! ### Parts of values -/

theorem join_rel {c:Ctx} {T:Ty} {cs:List PV} {vs:List Value} (hl:vs.length = T.cells) (hT:T.val = true) (h1:∀ u,u ∈ vs → u.oneCell' = true) (h:PRels c cs vs):PRel c (join T cs) (valOf T vs):=by
  cases T with
  | st t => simp only [join,valOf,PRel]; exact ⟨vs,rfl,h1,h⟩
  | unit => cases hT
  | pair a b => cases hT
  | tup a b => cases hT
  | _ =>
    simp only [Ty.cells] at hl
    match vs,hl with
    | [v],_ =>
      cases cs with
      | nil => simp [PRels] at h
      | cons p ps =>
        simp only [PRels] at h
        obtain ⟨u,r,hu,h1,h2⟩:=h
        injection hu with hu hr
        subst hu
        exact h1

theorem valOf_cells {T:Ty} {x:T.den} {w:World} {M:Mem} {vs:List Value} (hT:T.val = true) (h:RepC T x w M vs):RepR T x w M (valOf T vs):=by
  have hl:=RepC_len _ _ _ _ _ h
  cases T with
  | st t => exact ⟨vs,rfl,h⟩
  | unit => cases hT
  | pair a b => cases hT
  | tup a b => cases hT
  | _ =>
    simp only [Ty.cells] at hl
    match vs,hl with
    | [v],_ => exact h

theorem part_rel {c:Ctx} {T U:Ty} {x:U.den} {vs:List Value} {off:Nat} (ho:owns U = 0) (hT:T.val = true) (hoff:off + T.cells ≤ U.cells) (h:RepC U x c.w c.M vs) :
    PRel c (part T U x off) (valOf T ((vs.drop off).take T.cells)):=by
  have hl:=RepC_len _ _ _ _ _ h
  have hj:PRel c (join T (((cellsOf U x).drop off).take T.cells)) (valOf T ((vs.drop off).take T.cells)) :=
    join_rel (by simp; omega) hT (fun u hu => RepC_one _ _ _ _ _ h u (List.mem_of_mem_drop (List.mem_of_mem_take hu))) (PRels_take _ (PRels_drop _ (PRels_cellsOf U x vs ho h)))
  unfold part
  split
  · rename_i he
    have e:=Ty.eq_spec he
    subst e
    simp only [List.drop_zero]
    rw [List.take_of_length_le (by omega)]
    simp only [PRel]
    exact ⟨ho,valOf_cells hT h⟩
  · exact hj

/-! ### The program's tables -/

def zeroVals:Ty → Option (List Value)
  | .unit => some [] | .int k => some [.int k 0] | .bool => some [.bool false] | .str => some [.string ⟨#[]⟩]
  | .sl _ => some [.slice none 0 0] | .own _ => none | .pair a b => match zeroVals a,zeroVals b with | some x,some y => some (x ++ y) | _,_ => none
  | .st t => zeroVals t | .tup _ _ => none | .ptr _ => some [.pointer none] | .clo _ _ => none | .mp _ _ => some [.map none] | .fnv => some [.nilFunc]

def valEq:Value → Value → Bool
  | .int k n,.int l m => kindEq k l && decide (n = m)
  | .bool a,.bool b => a == b
  | .string a,.string b => decide (a.data.toList = b.data.toList)
  | .slice none n c,.slice none m d => decide (n = m) && decide (c = d)
  | .map none,.map none => true
  | .pointer none,.pointer none => true
  | .nilFunc,.nilFunc => true
  | _,_ => false
theorem valEq_spec {a b:Value} (h:valEq a b = true):a = b:=by
  unfold valEq at h
  split at h
  · simp only [Bool.and_eq_true,decide_eq_true_eq] at h
    rw [kindEq_spec h.1,h.2]
  · rw [eq_of_beq h]
  · rename_i a b
    have h':=of_decide_eq_true h
    obtain ⟨⟨a⟩⟩:=a
    obtain ⟨⟨b⟩⟩:=b
    simp only at h'
    subst h'
    rfl
  · simp only [Bool.and_eq_true,decide_eq_true_eq] at h
    rw [h.1,h.2]
  · rfl
  · rfl
  · rfl
  · cases h
def valsEq:List Value → List Value → Bool
  | [],[] => true | a :: r,b :: s => valEq a b && valsEq r s | _,_ => false
theorem valsEq_spec:∀ {a b:List Value},valsEq a b = true → a = b
  | [],[],_ => rfl
  | a :: r,b :: s,h => by
    simp only [valsEq,Bool.and_eq_true] at h
    rw [valEq_spec h.1,valsEq_spec h.2]
  | [],_ :: _,h => by cases h
  | _ :: _,[],h => by cases h
def zeroOK (z:Option Value) (T:Ty):Bool:=match zeroVals T with
  | none => true
  | some vs => match z with
    | none => false
    | some v => match T with
      | .st _ => (match v with | .agg cs => valsEq cs.toList vs | _ => false)
      | _ => (match vs with | [u] => valEq v u | _ => false)

def tyIs (ty:Nat → Option Ty) (t:Nat) (T:Ty):Bool:=match ty t with | some U => U.eq T | none => false
def fieldsOK (ty:Nat → Option Ty):List Field → Ty → Nat → Bool
  | [],_,_ => false
  | f :: fs,R,off => match fs with
    | [] => Nat.beq f.offset off && tyIs ty f.type R && Nat.ble 1 R.cells && R.val && !(f.name == "_")
    | _ :: _ => match R with
      | .pair a b => Nat.beq f.offset off && tyIs ty f.type a && Nat.ble 1 a.cells && a.val && !(f.name == "_") && fieldsOK ty fs b (off + a.cells)
      | _ => false
def rowOf (T:Ty):Nat → Ty
  | 0 => .unit | 1 => T | n + 2 => .pair T (rowOf T (n + 1))
def shapeOK (ty:Nat → Option Ty) (d:TypeDesc) (T:Ty):Bool:=match T with
  | .int l => (match d with | .int k => kindEq k l | _ => false)
  | .bool => (match d with | .bool => true | _ => false)
  | .str => (match d with | .string => true | _ => false)
  | .sl U => (match d with | .slice e => tyIs ty e U && U.val && Nat.ble 1 U.cells | _ => false)
  | .st R => (match d with
    | .struct fs => fieldsOK ty fs.toList R 0
    | .array n e => (match ty e with | some V => R.eq (rowOf V n) && V.val && Nat.ble 1 V.cells && Nat.ble 2 n | none => false)
    | _ => false)
  | .ptr U => (match d with | .pointer e => (match U with | .unit => true | U => tyIs ty e U) | _ => false)
  | .clo _ _ => (match d with | .func _ _ _ => true | _ => false)
  | .fnv => (match d with | .func _ _ _ => true | _ => false)
  | .mp K V => (match d with | .map k v => tyIs ty k K && tyIs ty v V && K.val && V.val | _ => false)
  | .unit => false | .own _ => false | .pair _ _ => false | .tup _ _ => false
def tyOK (P:Program) (ty:Nat → Option Ty) (str:Nat → Bool) (t:Nat) (T:Ty):Bool:=match P.info? t,P.underlying t with
  | some i,some d => Nat.beq i.size T.cells && Nat.ble i.bytes 128 && zeroOK i.zero T && shapeOK ty d T && Nat.beq (owns T) 0 && T.val && (match i.zero with | some z => Nat.beq z.cells.size i.size | none => false) && (match T with | .st _ => (match d with | .struct _ => str t | _ => !str t) | _ => true)
  | _,_ => false

def fieldsCmp (ty:Nat → Option Ty) (cmp:Nat → Bool):List Field → Bool
  | [] => true
  | f :: fs => (match ty f.type with | some (.int _) => true | some .bool => true | some .str => true | some (.st _) => cmp f.type | _ => false) && fieldsCmp ty cmp fs
def elemCmp (ty:Nat → Option Ty) (cmp:Nat → Bool) (e:Nat):Bool:=match ty e with | some (.int _) => true | some .bool => true | some .str => true | some (.st _) => cmp e | _ => false
def cmpOK (P:Program) (ty:Nat → Option Ty) (str cmp:Nat → Bool) (t:Nat):Bool:=(match P.underlying t,ty t with
  | some (.struct fs),some (.st _) => fieldsCmp ty cmp fs.toList && str t && !(P.stoodInHeld t)
  | some (.array _ e),some (.st _) => elemCmp ty cmp e
  | _,_ => false) && !(P.eqGuardType P.depth t)

def fnOK (P:Program) (f:Nat) (As:List Ty):Bool:=(match P.funcs[f]? with
  | some fn => fn.body.isSome && !(fn.name == "runtime.NumGoroutine")
  | none => false) && As.all fun T => Nat.beq (owns T) 0

def keyOK (P:Program) (t k:Nat):Bool:=match P.underlying t with
  | some (.map k' _) => Nat.beq k k'
  | _ => false
def conB (P:Program) (t:Nat):Bool:=match P.underlying t with
  | some (.interface _) => false
  | some _ => true
  | none => false
def empB (P:Program) (t:Nat):Bool:=match P.info? t,P.underlying t with
  | some i,some (.struct fs) => fs.toList.isEmpty && (match i.zero with | some (.agg cs) => cs.toList.isEmpty | _ => false)
  | _,_ => false
def methB (P:Program) (t:Nat) (s:String) (f:Nat) (md:Option Nat):Bool:=match P.info? t,P.underlying t with
  | some i,some (.pointer e) => (match i.methods.find? (·.name == s) with
    | some m => m.path.isEmpty && (match m.func,md with
      | some (g,true),none => Nat.beq g f
      | some (g,false),some e' => Nat.beq g f && Nat.beq e e'
      | _,_ => false)
    | none => false)
  | _,_ => false
structure EnvOK (E:Env):Prop where
  ty:∀ t T,E.ty t = some T → tyOK E.P E.ty E.str t T = true
  fn:∀ f As T,E.fn f = some (As,T) → fnOK E.P f As = true
  res:∀ f As T,E.fn f = some (As,T) → owns T = 0
  hfn:∀ f As,E.hfn f = some As → fnOK E.P f (As.filterMap id) = true
  cmp:∀ t,E.cmp t = true → cmpOK E.P E.ty E.str E.cmp t = true
  mapKey:∀ t k,E.mapKey t = some k → keyOK E.P t k = true
  mixed:E.P.follows .mixedOrders = true
  elm:∀ t e,E.elm t = some e → E.P.underlying t = some (.slice e)
  con:∀ t,E.con t = true → conB E.P t = true
  emp:∀ t,E.emp t = true → empB E.P t = true
  meth:∀ t s f md,E.meth t s = some (f,md) → methB E.P t s f md = true

structure TyFacts (E:Env) (t:Nat) (T:Ty):Prop where
  info:∃ i,E.P.info? t = some i ∧ i.size = T.cells ∧ i.bytes ≤ 128 ∧ zeroOK i.zero T = true ∧ ∃ z,i.zero = some z ∧ z.cells.size = T.cells
  und:∃ d,E.P.underlying t = some d ∧ shapeOK E.ty d T = true
  own:owns T = 0
  val:T.val = true
  str:∀ R d,T = .st R → E.P.underlying t = some d → (match d with | .struct _ => E.str t | _ => !E.str t) = true

theorem EnvOK.facts {E:Env} (h:EnvOK E) {t:Nat} {T:Ty} (ht:E.ty t = some T):TyFacts E t T:=by
  have h1:=h.ty t T ht
  unfold tyOK at h1
  split at h1
  · rename_i i d hi hd
    simp only [Bool.and_eq_true] at h1
    obtain ⟨⟨⟨⟨⟨⟨⟨h2,h3⟩,h4⟩,h5⟩,h6⟩,h7⟩,h8⟩,h9⟩:=h1
    have hz:∃ z,i.zero = some z ∧ z.cells.size = T.cells:=by
      split at h8
      · rename_i z hz; exact ⟨z,hz,(Nat.eq_of_beq_eq_true h8).trans (Nat.eq_of_beq_eq_true h2)⟩
      · cases h8
    exact ⟨⟨i,hi,Nat.eq_of_beq_eq_true h2,Nat.le_of_ble_eq_true h3,h4,hz⟩,⟨d,hd,h5⟩,Nat.eq_of_beq_eq_true h6,h7,fun R d' hR hd' => by subst hR; rw [hd] at hd'; injection hd' with hd'; subst hd'; exact h9⟩
  · cases h1

def isSt:Ty → Bool
  | .st _ => true | _ => false
theorem TyFacts.isAgg {E:Env} {t:Nat} {T:Ty} (h:TyFacts E t T) (w:World):(Go.isAgg t).run E.P w = .ok (isSt T) w:=by
  obtain ⟨d,hd,hs⟩:=h.und
  unfold Go.isAgg
  simp only [Sem.run_bind,run_underlying hd,Result.andThen_ok]
  cases T <;> cases d <;> first | rfl | cases hs

theorem TyFacts.sizeOf {E:Env} {t:Nat} {T:Ty} (h:TyFacts E t T) (w:World):(Go.sizeOf t).run E.P w = .ok T.cells w:=by
  obtain ⟨i,hi,hs,_⟩:=h.info
  simp [Go.sizeOf,typeInfo,hi,hs]

theorem run_loadVar {E:Env} {t:Nat} {T:Ty} (h:TyFacts E t T) {w:World} {g o:Nat} {vs:List Value} (hl:vs.length = T.cells) (hc:CellsAt w g o vs) :
    (loadVar t ⟨g,o,none⟩).run E.P w = .ok (valOf T vs) w:=by
  have hcell:∀ j v,vs[j]? = some v → w.cell? ((⟨g,o,none⟩:Addr).add j) = some v:=by
    intro j v hj
    rw [show (⟨g,o,none⟩:Addr).add j = ⟨g,o + j,none⟩ from by unfold Addr.add; split <;> simp_all]
    exact hc j v hj
  unfold loadVar
  simp only [Sem.run_bind,h.isAgg w,Result.andThen_ok]
  have hT:=h.val
  cases T with
  | st r =>
    simp only [isSt,if_true,Sem.run_bind,h.sizeOf w,Result.andThen_ok]
    rw [← hl,run_loadCells_list w _ vs hcell]
    rfl
  | unit => cases hT
  | pair a b => cases hT
  | tup a b => cases hT
  | _ =>
    simp only [Ty.cells] at hl
    match vs,hl with
    | [v],_ =>
      have h0:=hcell 0 v rfl
      simp only [Addr.add,if_true] at h0
      simp [isSt,run_load,h0,valOf]
end Go.Proofs.Ytefpgfdemmllpaa
namespace Go.Proofs.Ytefpgfdemmllpaa
open Go.RowKit

def keepB:List (Nat × Blk) → List (Nat × Blk) → Bool
  | [],_ => true
  | p :: r,bl => (match p.2 with
    | .arr _ _ _ => true
    | .box _ _ => (match look p.1 bl with | some (.box _ _) => true | _ => false)
    | .mp _ _ _ => (match look p.1 bl with | some (.mp _ _ _) => true | _ => false)
    | .it _ _ _ => (match look p.1 bl with | some (.it _ _ _) => true | _ => false)
    | .sit _ _ => (match look p.1 bl with | some (.sit _ _) => true | _ => false)) && keepB r bl
def newB (bl:List (Nat × Blk)) (used:List Nat) (d:Option Nat):List (Nat × Blk) → Bool
  | [] => true
  | (k,_) :: r => (match Nat.ble P0 k with
    | true => (match look k bl with | some _ => true | none => false)
    | false => (match d with
      | some d => Nat.blt k 100000 && Nat.blt (k + 100000 * (d + 1)) P0 && !(mem1 (k + 100000 * (d + 1)) used)
      | none => false)) && newB bl used d r
def flatP:PV → Bool
  | .iv T _ => T.flat | _ => false
def nilB:List (Nat × Blk) → Bool
  | [] => true | _ => false
def hOK (bl bl':List (Nat × Blk)) (fl:Bool) (used:List Nat) (d:Option Nat) (p:PV):Bool:=keepB bl bl' && newB bl used d bl' && (!fl || (flatP p && nilB bl'))
def okP:PV → Prop
  | .iv T x => T.ok x | _ => True
def okBl (bl:List (Nat × Blk)):Prop:=(∀ i T xs te,look i bl = some (.arr T xs te) → (Ty.sl T).ok xs) ∧ ∀ i K V es,look i bl = some (.mp K V es) → (Ty.mp K V).ok es

def OutK (E:Env):Out → (Out → Prop) → Prop
  | .need p o,K => p ∧ OutK E o K
  | .exi T p f,K => ∃ x:T.den,p x ∧ OutK E (f x) K
  | .call f xs T g,K => ∃ r:T.den,PC E f xs T r ∧ (T.ok r → OutK E (g r) K)
  | .ncall f xs T g,K => ∃ Y:T.den → Prop,PN E f xs T Y ∧ ∀ r,Y r → T.ok r → OutK E (g r) K
  | .fail _,_ => False
  | .val v,K => K (.val v)
  | .new v b,K => K (.new v b)
  | .store i b,K => K (.store i b)
  | .append i j b,K => K (.append i j b)
  | .hret ids p bl,K => K (.hret ids p bl)
  | .sealed ks v,K => K (.sealed ks v)
  | .upd i b v,K => K (.upd i b v)
  | .sstore ks i b,K => K (.sstore ks i b)
  | .imp p o,K => p → OutK E o K
  | .both a b,K => OutK E a K ∧ OutK E b K
  | .allx T p f,K => ∀ x:T.den,p x → OutK E (f x) K
  | .alln p f,K => ∀ i:Nat,p i → OutK E (f i) K
  | .hcall f args bl ids fl used d,K => ∃ p bl',HC E f args bl p bl' ∧ hOK bl bl' fl used d p = true ∧ (okP p → okBl bl' → K (.hret ids p bl'))
  | .hncall f args bl ids fl used d,K => ∃ (T:Ty) (Y:T.den → Prop) (p:T.den → PV) (bl':T.den → List (Nat × Blk)),HN E f args bl T Y p bl' ∧ ∀ r,Y r → hOK bl (bl' r) fl used d (p r) = true ∧ (okP (p r) → okBl (bl' r) → K (.hret ids (p r) (bl' r)))

def valOK:Value → Bool
  | .int k n => decide (k.min ≤ n ∧ n ≤ k.max)
  | .string s => decide (s.size ≤ 9223372036854775807)
  | _ => true
def constOK:Operand → Bool
  | .const v => valOK v
  | _ => true
def opOK (n:Nat) (o:Oper):Bool:=(o.op.operands.toList.all constOK) && (match o.dst with | some d => Nat.blt d n | none => true)

theorem cval_rel {c:Ctx} {v:Value} (h:valOK v = true):PRel c (cval v) v:=by
  cases v with
  | bool b => simp only [cval,PRel]; exact ⟨rfl,rfl⟩
  | int k n => simp only [cval,PRel]; simp only [valOK,decide_eq_true_eq] at h; exact ⟨rfl,rfl,h⟩
  | string s =>
    simp only [cval,PRel]
    simp only [valOK,decide_eq_true_eq] at h
    refine ⟨rfl,?_,h⟩
    simp [bytesOf]
  | slice a n c' =>
    cases a with
    | none =>
      cases n <;> cases c' <;> simp only [cval,PRel]
    | some a => simp only [cval,PRel]
  | pointer a => cases a <;> simp only [cval,PRel]
  | _ => simp only [cval,PRel]

theorem ev_rel {c:Ctx} {s:St} {a:Act} (h:∀ t,PRel c (s.get t) (a.tmps.getD t undef)) {x:Operand} (hx:constOK x = true):PRel c (s.ev x) (a.eval x):=by
  cases x with
  | tmp t => exact h t
  | const v => exact cval_rel hx
  | global g => simp only [St.ev,PRel]
  | func f => simp only [St.ev,Act.eval,PRel]; exact ⟨[],rfl,rfl⟩

theorem look_cons_self {α:Type} (i:Nat) (v:α) (r:List (Nat × α)):look i ((i,v) :: r) = some v:=by
  simp [look,Nat.beq_refl]
theorem look_cons_ne {α:Type} {i j:Nat} (v:α) (r:List (Nat × α)) (h:i ≠ j):look i ((j,v) :: r) = look i r:=by
  have:Nat.beq i j = false:=by
    cases hb:Nat.beq i j
    · rfl
    · exact absurd (Nat.eq_of_beq_eq_true hb) h
  simp [look,this]
theorem get_set_self (s:St) (d:Nat) (p:PV):(s.set d p).get d = p:=by simp [St.get,St.set,look_cons_self]
theorem get_set_ne (s:St) {t d:Nat} (p:PV) (h:t ≠ d):(s.set d p).get t = s.get t:=by simp [St.get,St.set,look_cons_ne _ _ h]

theorem slots_put {c:Ctx} {s s':St} {a:Act} {n:Nat} {d:Nat} {p:PV} {v:Value} (h:∀ t,PRel c (s.get t) (a.tmps.getD t undef)) (hn:a.tmps.size = n) (hd:d < n)
    (hs:∀ t,s'.get t = if t = d then p else s.get t) (hp:PRel c p v):∀ t,PRel c (s'.get t) ((a.put (some d) v).tmps.getD t undef):=by
  intro t
  rw [hs]
  by_cases ht:t = d
  · subst ht
    simp [Act.put,hn,hd,hp]
  · rw [if_neg ht]
    have:(a.put (some d) v).tmps.getD t undef = a.tmps.getD t undef:=by
      simp only [Act.put,Array.getD_eq_getD_getElem?]
      rw [Array.getElem?_setIfInBounds_ne (by omega)]
    rw [this]
    exact h t

theorem size_put (a:Act) (d:Option Tmp) (v:Value):(a.put d v).tmps.size = a.tmps.size:=by
  cases d <;> simp [Act.put]
theorem defers_put (a:Act) (d:Option Tmp) (v:Value):(a.put d v).defers = a.defers:=by
  cases d <;> rfl

structure Full (n:Nat) (w0:World) (S0:Cx) (s:St) (a:Act) (w:World) (ν:Nat → Value) (S:Nat → Prop):Prop where
  below:Kept S0.X w0 w
  inS:∀ b,S0.S b → S b
  fresh:∀ b,S b → S0.S b ∨ own0 w0 S0 b
  W:WRel s ν w ⟨S,own0 w0 S0⟩
  slots:∀ t,PRel ⟨ν,s.D,w,⟨S,own0 w0 S0⟩⟩ (s.get t) (a.tmps.getD t undef)
  size:a.tmps.size = n
  defers:a.defers = S0.df
  few:n ≤ 100000
  kept:∀ i,P0 ≤ i → s.D i → ν i = S0.ν i
  tab:TabX w0 S0
theorem Full.rel {n:Nat} {w0:World} {S0:Cx} {s:St} {a:Act} {w:World} {ν:Nat → Value} {S:Nat → Prop} (h:Full n w0 S0 s a w ν S):Rel n w0 S0 s a w :=
  ⟨ν,S,h.below,h.inS,h.fresh,h.W,h.slots,h.size,h.defers,h.few,h.kept,h.tab⟩
theorem Rel.full {n:Nat} {w0:World} {S0:Cx} {s:St} {a:Act} {w:World} (h:Rel n w0 S0 s a w):∃ ν S,Full n w0 S0 s a w ν S:=by
  obtain ⟨ν,S,h1,h2,h3,h4,h5,h6,h7,h8,h9,h10⟩:=h
  exact ⟨ν,S,⟨h1,h2,h3,h4,h5,h6,h7,h8,h9,h10⟩⟩

theorem BRel_keep {c c':Ctx} (hc:c.Le c') (hB:c'.M.O = c.M.O) {id:Nat} {b:Blk} (hν:c'.ν id = c.ν id) (hg:∀ g,blockOf (c.ν id) = some g → c'.w.heap[g]? = c.w.heap[g]? ∧ (¬ c.M.S g → ¬ c'.M.S g)) (h:BRel c id b):BRel c' id b:=by
  cases b with
  | box cs te =>
    obtain ⟨hty,g,vs,e,h1,h2,h3,h4,h0,h5⟩:=h
    obtain ⟨e1,e2⟩:=hg g (by rw [h1]; rfl)
    exact ⟨hty.keep hν fun g hg' => (hg g hg').1,g,vs,e,by rw [hν]; exact h1,by rw [hB]; exact h2,e2 h3,by rw [e1]; exact h4,h0,PRels_mono hc h5⟩
  | arr T xs te =>
    obtain ⟨hty,ho,v,hv,h1,h2⟩:=h
    injection hv with hv
    refine ⟨hty.keep hν fun g hg' => (hg g hg').1,ho,v,by rw [hν,hv],h1,?_⟩
    rcases h2 with h2 | ⟨g,o,cap,cur,e,rfl,h3,h4,h5,h6,h7,h8,h9⟩
    · exact .inl h2
    · obtain ⟨e1,e2⟩:=hg g (by rw [hv]; rfl)
      refine .inr ⟨g,o,cap,cur,e,rfl,h3,h4,e2 h5,by rw [hB]; exact h6,by rw [e1]; exact h7,h8,fun i y hy => ?_⟩
      obtain ⟨cs,hl,hca,hr⟩:=h9 i y hy
      exact ⟨cs,hl,hca.mono e1,RepC_mono hc.heap hc.S _ _ _ ho hr⟩
  | mp K V es =>
    obtain ⟨hok,hov,h0,r,ents,clock,h1,h2,h3,h4,h5,h6,h7⟩:=h
    obtain ⟨e1,e2⟩:=hg r (by rw [h1]; rfl)
    refine ⟨hok,hov,h0,r,ents,clock,by rw [hν]; exact h1,by rw [hB]; exact h2,e2 h3,by rw [e1]; exact h4,h5,h6,fun i y hy => ?_⟩
    obtain ⟨e,ca,cb,a1,a2,a3,a4,a5⟩:=h7 i y hy
    exact ⟨e,ca,cb,a1,a2,RepC_mono hc.heap hc.S _ _ _ hok a3,a4,RepC_mono hc.heap hc.S _ _ _ hov a5⟩
  | it src since seen =>
    obtain ⟨g,m,h1,h2,h3,h4,h6⟩:=h
    obtain ⟨e1,e2⟩:=hg g (by rw [h1]; rfl)
    exact ⟨g,m,by rw [hν]; exact h1,by rw [hB]; exact h2,e2 h3,by rw [e1]; exact h4,PRels_mono hc h6⟩
  | sit x pos =>
    obtain ⟨g,h1,h2,h3,h4,h5⟩:=h
    obtain ⟨e1,e2⟩:=hg g (by rw [h1]; rfl)
    exact ⟨g,by rw [hν]; exact h1,by rw [hB]; exact h2,e2 h3,by rw [e1]; exact h4,h5⟩

section
variable {n:Nat} {w0:World} {S0:Cx} {s:St} {a:Act} {w:World} {ν:Nat → Value} {S:Nat → Prop}

def Full.c (_h:Full n w0 S0 s a w ν S):Ctx:=⟨ν,s.D,w,⟨S,own0 w0 S0⟩⟩
theorem Full.tabs (h:Full n w0 S0 s a w ν S):Tabs w S:=h.tab.1.kept h.inS h.below h.tab.2

theorem Full.ev (h:Full n w0 S0 s a w ν S) {x:Operand} (hx:constOK x = true):PRel h.c (s.ev x) (a.eval x):=ev_rel h.slots hx

theorem Full.put (h:Full n w0 S0 s a w ν S) {d:Option Nat} {p:PV} {v:Value} (hd:∀ e,d = some e → e < n) (hp:PRel h.c p v):Full n w0 S0 (s.put d p) (a.put d v) w ν S:=by
  cases d with
  | none => exact ⟨h.below,h.inS,h.fresh,h.W,h.slots,h.size,h.defers,h.few,h.kept,h.tab⟩
  | some d =>
    refine ⟨h.below,h.inS,h.fresh,⟨h.W.lt,h.W.size,h.W.blk,h.W.ne⟩,?_,?_,?_,h.few,h.kept,h.tab⟩
    · refine slots_put (c:=⟨ν,s.D,w,⟨S,own0 w0 S0⟩⟩) h.slots h.size (hd d rfl) (fun t => ?_) hp
      by_cases ht:t = d
      · subst ht; simp [St.put,get_set_self]
      · simp [St.put,get_set_ne _ _ ht,ht]
    · rw [size_put]; exact h.size
    · rw [defers_put]; exact h.defers

theorem Full.drew (h:Full n w0 S0 s a w ν S):Full n w0 S0 s a w.drew ν S:=by
  have hle:Ctx.Le ⟨ν,s.D,w,⟨S,own0 w0 S0⟩⟩ ⟨ν,s.D,w.drew,⟨S,own0 w0 S0⟩⟩:=⟨fun _ _ => rfl,fun _ h => h,fun _ h => h,fun _ _ => rfl⟩
  refine ⟨h.below.drew,h.inS,h.fresh,⟨h.W.lt,h.W.size,fun id b hb => ?_,h.W.ne⟩,fun t => PRel_mono hle (h.slots t),h.size,h.defers,h.few,h.kept,h.tab⟩
  exact BRel_keep hle rfl rfl (fun g _ => ⟨rfl,fun h => h⟩) (h.W.blk id b hb)

theorem Full.blkB (h:Full n w0 S0 s a w ν S) {id:Nat} {b:Blk} (hl:look id s.bl = some b) {g:Nat} (hg:blockOf (ν id) = some g):own0 w0 S0 g ∧ ¬ S g ∧ g < w.heap.size:=by
  have hb:=h.W.blk id b hl
  cases b with
  | box cs te =>
    obtain ⟨_,g',vs,e,h1,h2,h3,h4,_⟩:=hb
    simp only at h1
    rw [h1] at hg
    injection hg with hg
    simp only at hg
    subst hg
    exact ⟨h2,h3,(Array.getElem?_eq_some_iff.1 h4).1⟩
  | arr T xs te =>
    obtain ⟨_,ho,v,hv,_,h2⟩:=hb
    injection hv with hv
    simp only at hv
    rw [hv] at hg
    rcases h2 with ⟨rfl,_⟩ | ⟨g',o,cap,cur,e,rfl,h3,h4,h5,h6,h7,_⟩
    · cases hg
    · injection hg with hg
      simp only at hg
      subst hg
      exact ⟨h6,h5,(Array.getElem?_eq_some_iff.1 h7).1⟩
  | mp K V es =>
    obtain ⟨_,_,_,r,ents,clock,h1,h2,h3,h4,_⟩:=hb
    simp only at h1
    rw [h1] at hg
    injection hg with hg
    subst hg
    exact ⟨h2,h3,(Array.getElem?_eq_some_iff.1 h4).1⟩
  | it src since seen =>
    obtain ⟨g',m,h1,h2,h3,h4,_⟩:=hb
    simp only at h1
    rw [h1] at hg
    injection hg with hg
    simp only at hg
    subst hg
    exact ⟨h2,h3,(Array.getElem?_eq_some_iff.1 h4).1⟩
  | sit x pos =>
    obtain ⟨g',h1,h2,h3,h4,_⟩:=hb
    simp only at h1
    rw [h1] at hg
    injection hg with hg
    simp only at hg
    subst hg
    exact ⟨h2,h3,(Array.getElem?_eq_some_iff.1 h4).1⟩

theorem Full.new (h:Full n w0 S0 s a w ν S) {d:Nat} {p:PV} {b:Blk} {v val:Value} {w':World} (hd:d < n) (hl:look d s.bl = none) (hw:GrownD w w' none)
    (hfresh:∀ g,blockOf val = some g → ∀ i c,look i s.bl = some c → blockOf (ν i) ≠ some g)
    (hb:BRel ⟨fun i => if i = d then val else ν i,(⟨(d,p) :: s.sl,(d,b) :: s.bl⟩:St).D,w',⟨S,own0 w0 S0⟩⟩ d b)
    (hp:PRel ⟨fun i => if i = d then val else ν i,(⟨(d,p) :: s.sl,(d,b) :: s.bl⟩:St).D,w',⟨S,own0 w0 S0⟩⟩ p v) :
    Full n w0 S0 ⟨(d,p) :: s.sl,(d,b) :: s.bl⟩ (a.put (some d) v) w' (fun i => if i = d then val else ν i) S:=by
  have hD:∀ i,s.D i → i ≠ d ∧ (⟨(d,p) :: s.sl,(d,b) :: s.bl⟩:St).D i:=by
    rintro i ⟨c,hc⟩
    have hne:i ≠ d:=by rintro rfl; rw [hl] at hc; cases hc
    exact ⟨hne,c,by rw [look_cons_ne _ _ hne]; exact hc⟩
  have hle:Ctx.Le ⟨ν,s.D,w,⟨S,own0 w0 S0⟩⟩ ⟨fun i => if i = d then val else ν i,(⟨(d,p) :: s.sl,(d,b) :: s.bl⟩:St).D,w',⟨S,own0 w0 S0⟩⟩ :=
    ⟨fun g hg => hw.block g (h.W.lt g hg) (by simp),fun _ h => h,fun i hi => (hD i hi).2,fun i hi => by simp [(hD i hi).1]⟩
  refine ⟨h.below.grown hw (by simp),h.inS,h.fresh,⟨fun g hg => Nat.lt_of_lt_of_le (h.W.lt g hg) hw.size,fun g hg => h.W.size g (Nat.le_trans hw.size hg),fun i c hc => ?_,fun i j c e hij hi hj g hgi hgj => ?_⟩,?_,?_,?_,h.few,fun i hi hDi => ?_,h.tab⟩
  · by_cases hi:i = d
    · subst hi
      rw [look_cons_self] at hc
      injection hc with hc
      subst hc
      exact hb
    · rw [look_cons_ne _ _ hi] at hc
      refine BRel_keep hle rfl (by simp [hi]) (fun g hg => ?_) (h.W.blk i c hc)
      obtain ⟨_,_,hlt⟩:=h.blkB hc hg
      exact ⟨hw.block g hlt (by simp),fun h => h⟩
  · by_cases hid:i = d
    · subst hid
      have hjd:j ≠ i:=fun e => hij e.symm
      rw [look_cons_ne _ _ hjd] at hj
      simp only [if_true] at hgi
      simp only [hjd,if_false] at hgj
      exact hfresh g hgi j _ hj hgj
    · rw [look_cons_ne _ _ hid] at hi
      simp only [hid,if_false] at hgi
      by_cases hjd:j = d
      · subst hjd
        simp only [if_true] at hgj
        exact hfresh g hgj i _ hi hgi
      · rw [look_cons_ne _ _ hjd] at hj
        simp only [hjd,if_false] at hgj
        exact h.W.ne i j c e hij hi hj g hgi hgj
  · refine slots_put (s:=s) (fun t => PRel_mono hle (h.slots t)) h.size hd (fun t => ?_) hp
    by_cases ht:t = d
    · subst ht; simp [St.get,look_cons_self]
    · simp [St.get,look_cons_ne _ _ ht,ht]
  · rw [size_put]; exact h.size
  · rw [defers_put]; exact h.defers
  · have hne:i ≠ d:=by have:=h.few; unfold P0 at hi; omega
    simp only [hne,if_false]
    obtain ⟨c,hc⟩:=hDi
    rw [look_cons_ne _ _ hne] at hc
    exact h.kept i hi ⟨c,hc⟩

theorem Full.upd (h:Full n w0 S0 s a w ν S) {id:Nat} {b b':Blk} {w':World} (hl:look id s.bl = some b) (hw:GrownD w w' (blockOf (ν id)))
    (hb:BRel ⟨ν,s.D,w',⟨S,own0 w0 S0⟩⟩ id b'):Full n w0 S0 ⟨s.sl,(id,b') :: s.bl⟩ a w' ν S:=by
  have hD:(⟨s.sl,(id,b') :: s.bl⟩:St).D = s.D:=by
    funext i
    refine propext ⟨fun ⟨c,hc⟩ => ?_,fun ⟨c,hc⟩ => ?_⟩
    · by_cases hi:i = id
      · subst hi; exact ⟨b,hl⟩
      · rw [look_cons_ne _ _ hi] at hc; exact ⟨c,hc⟩
    · by_cases hi:i = id
      · subst hi; exact ⟨b',look_cons_self _ _ _⟩
      · exact ⟨c,by rw [look_cons_ne _ _ hi]; exact hc⟩
  have hS:∀ g,S g → w'.heap[g]? = w.heap[g]?:=fun g hg => hw.block g (h.W.lt g hg) (fun e => (h.blkB hl e.symm).2.1 hg)
  have hle:Ctx.Le ⟨ν,s.D,w,⟨S,own0 w0 S0⟩⟩ ⟨ν,s.D,w',⟨S,own0 w0 S0⟩⟩:=⟨hS,fun _ h => h,fun _ h => h,fun _ _ => rfl⟩
  refine ⟨h.below.grown hw (fun g hg => (h.blkB hl hg).1),h.inS,h.fresh,⟨fun g hg => Nat.lt_of_lt_of_le (h.W.lt g hg) hw.size,fun g hg => h.W.size g (Nat.le_trans hw.size hg),fun i c hc => ?_,fun i j c e hij hi hj g hgi hgj => ?_⟩,?_,h.size,h.defers,h.few,fun i hi hDi => h.kept i hi (by rw [← hD]; exact hDi),h.tab⟩
  · rw [hD]
    by_cases hi:i = id
    · subst hi
      rw [look_cons_self] at hc
      injection hc with hc
      subst hc
      exact hb
    · rw [look_cons_ne _ _ hi] at hc
      refine BRel_keep hle rfl rfl (fun g hg => ?_) (h.W.blk i c hc)
      exact ⟨hw.block g (h.blkB hc hg).2.2 (fun e => h.W.ne i id c b hi hc hl g hg e.symm),fun h => h⟩
  · have hi':∃ c',look i s.bl = some c':=by have:(⟨s.sl,(id,b') :: s.bl⟩:St).D i:=⟨c,hi⟩; rw [hD] at this; exact this
    have hj':∃ c',look j s.bl = some c':=by have:(⟨s.sl,(id,b') :: s.bl⟩:St).D j:=⟨e,hj⟩; rw [hD] at this; exact this
    obtain ⟨c',hc'⟩:=hi'
    obtain ⟨e',he'⟩:=hj'
    exact h.W.ne i j c' e' hij hc' he' g hgi hgj
  · intro t
    rw [hD]
    exact PRel_mono hle (h.slots t)

theorem Full.beyond (h:Full n w0 S0 s a w ν S) {g:Nat} (hg:w.heap.size ≤ g):∀ i c,look i s.bl = some c → blockOf (ν i) ≠ some g:=by
  intro i c hi hgi
  have:=(h.blkB hi hgi).2.2
  omega

theorem Full.reads (h:Full n w0 S0 s a w ν S) (F:Reg) {M':Mem} (hS:∀ b,S b → M'.S b) (hl:∀ id,mem1 id F.h = false → s.D id → ∀ g,blockOf (ν id) = some g → M'.S g):Reads F s h.c M' :=
  ⟨rfl,h.W.blk,hS,hl⟩
end
end Go.Proofs.Ytefpgfdemmllpaa
