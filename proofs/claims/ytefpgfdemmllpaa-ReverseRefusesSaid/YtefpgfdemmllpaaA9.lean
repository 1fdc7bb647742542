/-
  From the reading of arguments to the data that they represent; a law's row from its contract. Nothing here is trusted; no condition.
-/
import Derived.Test.YtefpgfdemmllpaaA8
import Derived.ProofKit
import Derived.OpenShut
import Derived.Deep.Slices
set_option linter.unusedSimpArgs false
set_option linter.unusedVariables false
namespace Go.Proofs.Ytefpgfdemmllpaa

abbrev PwT:=Nat → List WI → St → Prop
abbrev PoT:=Nat → List Oper → List Nat → List (List Nat) → List Oper → List WI → St → Prop
abbrev PqT:=Nat → Out → Option Nat → List Oper → List Nat → List (List Nat) → List Oper → List WI → St → Prop
structure Pack (E:Env) (G:Goal) where
  W:PwT
  O:PoT
  Q:PqT
  hW:W = pw E G
  hO:O = po E G
  hQ:Q = pq E G
theorem pack_ne (E:Env) (G:Goal):Nonempty (Pack E G):=⟨⟨_,_,_,rfl,rfl,rfl⟩⟩
noncomputable def PW (E:Env) (G:Goal):PwT:=(Classical.choice (pack_ne E G)).W
noncomputable def PO (E:Env) (G:Goal):PoT:=(Classical.choice (pack_ne E G)).O
noncomputable def PQ (E:Env) (G:Goal):PqT:=(Classical.choice (pack_ne E G)).Q
theorem PW_eq (E:Env) (G:Goal):PW E G = pw E G:=(Classical.choice (pack_ne E G)).hW
theorem PO_eq (E:Env) (G:Goal):PO E G = po E G:=(Classical.choice (pack_ne E G)).hO
theorem PQ_eq (E:Env) (G:Goal):PQ E G = pq E G:=(Classical.choice (pack_ne E G)).hQ

def PB (E:Env) (G:Goal) (n:Nat) (v:PV) (a b:Code) (k:List WI) (s:St):Prop:=match v with
  | .iv .bool c => (c = true → PW E G n (.code a :: k) s) ∧ (c = false → PW E G n (.code b :: k) s)
  | _ => Stuck 1001
def PK (E:Env) (G:Goal) (n:Nat) (v:PV) (d:Nat) (want:Bool) (o:Oper) (all:List Oper) (N:List Nat) (acc:List (List Nat)) (os:List Oper) (k:List WI) (s:St):Prop:=match v with
  | .iv .bool b => (b = want → PQ E G n (stepF E (forb all N acc o) (s.set d (.iv .bool want)) o) o.dst all N (step1 N acc o) os k (s.set d (.iv .bool want))) ∧
      (b = !want → PO E G n all N (step1 N acc o) os k ((s.set d (.iv .bool (!want))).put o.dst (.tup [])))
  | .tup [] => PO E G n all N (step1 N acc o) os k (s.put o.dst (.tup []))
  | _ => Stuck 1004
def PH (E:Env) (G:Goal) (n:Nat) (g:Option Nat) (want:Bool) (o:Oper) (all:List Oper) (N:List Nat) (acc:List (List Nat)) (os:List Oper) (k:List WI) (s:St):Prop:=match g with
  | some d => PK E G n (s.get d) d want o all N acc os k s
  | none => Stuck 1005
def PX (E:Env) (G:Goal) (n:Nat) (k:Option (List WI)) (s:St):Prop:=match k with | some k => PW E G n k s | none => Stuck 1002

section
variable {E:Env} {G:Goal} {n:Nat} {d:Option Nat} {all:List Oper} {N:List Nat} {acc:List (List Nat)} {os:List Oper} {k:List WI} {s:St}
theorem PQ_need {p:Prop} {o:Out}:PQ E G (n + 1) (.need p o) d all N acc os k s = (p ∧ PQ E G n o d all N acc os k s):=by simp only [PQ_eq,pq]
theorem PQ_exi {T:Ty} {p:T.den → Prop} {f:T.den → Out}:PQ E G (n + 1) (.exi T p f) d all N acc os k s = ∃ x:T.den,p x ∧ PQ E G n (f x) d all N acc os k s:=by simp only [PQ_eq,pq]
theorem PQ_call {f:Nat} {xs:List (Sigma Ty.den)} {T:Ty} {g:T.den → Out}:PQ E G (n + 1) (.call f xs T g) d all N acc os k s = ∃ r:T.den,PC E f xs T r ∧ (T.ok r → PQ E G n (g r) d all N acc os k s):=by simp only [PQ_eq,pq]
theorem PQ_ncall {f:Nat} {xs:List (Sigma Ty.den)} {T:Ty} {g:T.den → Out}:PQ E G (n + 1) (.ncall f xs T g) d all N acc os k s = ∃ Y:T.den → Prop,PN E f xs T Y ∧ ∀ r,Y r → T.ok r → PQ E G n (g r) d all N acc os k s:=by simp only [PQ_eq,pq]
theorem PQ_val {v:PV}:PQ E G (n + 1) (.val v) d all N acc os k s = PO E G n all N acc os k (s.put d v):=by simp only [PQ_eq,PO_eq,pq]
theorem PQ_new {v:PV} {b:Blk} {d:Nat}:PQ E G (n + 1) (.new v b) (some d) all N acc os k s = PO E G n all N acc os k ⟨(d,v) :: s.sl,(d,b) :: s.bl⟩:=by simp only [PQ_eq,PO_eq,pq]
theorem PQ_store {i:Nat} {b:Blk}:PQ E G (n + 1) (.store i b) d all N acc os k s = PO E G n all N acc os k ⟨s.sl,(i,b) :: s.bl⟩:=by simp only [PQ_eq,PO_eq,pq]
theorem PQ_append {i j:Nat} {b:Blk} {d:Nat}:PQ E G (n + 1) (.append i j b) (some d) all N acc os k s = PO E G n all N acc os k ⟨(d,.lfull j) :: (s.kill [i]).sl,(j,b) :: dropBl [i] (s.kill [i]).bl⟩:=by simp only [PQ_eq,PO_eq,pq]
theorem PQ_sealed {ks:List Nat} {v:PV}:PQ E G (n + 1) (.sealed ks v) d all N acc os k s = PO E G n all N acc os k ((s.sealw ks).put d v):=by simp only [PQ_eq,PO_eq,pq]
theorem PQ_upd {i:Nat} {b:Blk} {v:PV} {d:Nat}:PQ E G (n + 1) (.upd i b v) (some d) all N acc os k s = PO E G n all N acc os k ⟨(d,v) :: s.sl,(i,b) :: s.bl⟩:=by simp only [PQ_eq,PO_eq,pq]
theorem PQ_imp {p:Prop} {o:Out}:PQ E G (n + 1) (.imp p o) d all N acc os k s = (p → PQ E G n o d all N acc os k s):=by simp only [PQ_eq,pq]
theorem PQ_both {a b:Out}:PQ E G (n + 1) (.both a b) d all N acc os k s = (PQ E G n a d all N acc os k s ∧ PQ E G n b d all N acc os k s):=by simp only [PQ_eq,pq]
theorem PQ_allx {T:Ty} {p:T.den → Prop} {f:T.den → Out}:PQ E G (n + 1) (.allx T p f) d all N acc os k s = ∀ x:T.den,p x → PQ E G n (f x) d all N acc os k s:=by simp only [PQ_eq,pq]
theorem PQ_alln {p:Nat → Prop} {f:Nat → Out}:PQ E G (n + 1) (.alln p f) d all N acc os k s = ∀ x:Nat,p x → PQ E G n (f x) d all N acc os k s:=by simp only [PQ_eq,pq]
def HQ (E:Env) (G:Goal) (n:Nat) (f:Nat) (args:List PV) (bl:List (Nat × Blk)) (ids:List Nat) (fl:Bool) (used:List Nat) (d' d:Option Nat) (all:List Oper) (N:List Nat) (acc:List (List Nat)) (os:List Oper) (k:List WI) (s:St):Prop :=
  ∃ p bl',HC E f args bl p bl' ∧ hOK bl bl' fl used d' p = true ∧ (okP p → okBl bl' → PO E G n all N acc os k (s.hret d ids p bl'))
def HNQ (E:Env) (G:Goal) (n:Nat) (f:Nat) (args:List PV) (bl:List (Nat × Blk)) (ids:List Nat) (fl:Bool) (used:List Nat) (d' d:Option Nat) (all:List Oper) (N:List Nat) (acc:List (List Nat)) (os:List Oper) (k:List WI) (s:St):Prop :=
  ∃ (T:Ty) (Y:T.den → Prop) (p:T.den → PV) (bl':T.den → List (Nat × Blk)),HN E f args bl T Y p bl' ∧ ∀ r,Y r → hOK bl (bl' r) fl used d' (p r) = true ∧ (okP (p r) → okBl (bl' r) → PO E G n all N acc os k (s.hret d ids (p r) (bl' r)))
theorem PQ_hncall {f:Nat} {args:List PV} {bl:List (Nat × Blk)} {ids:List Nat} {fl:Bool} {used:List Nat} {d':Option Nat}:PQ E G (n + 1) (.hncall f args bl ids fl used d') d all N acc os k s = HNQ E G n f args bl ids fl used d' d all N acc os k s:=by simp only [PQ_eq,PO_eq,pq,HNQ]
theorem go_HN {f:Nat} {args:List PV} {bl:List (Nat × Blk)} {T:Ty} {Y:T.den → Prop} {p:T.den → PV} {bl':T.den → List (Nat × Blk)}:HN E.go f args bl T Y p bl' = HN E f args bl T Y p bl':=rfl
theorem PQ_hcall {f:Nat} {args:List PV} {bl:List (Nat × Blk)} {ids:List Nat} {fl:Bool} {used:List Nat} {d':Option Nat}:PQ E G (n + 1) (.hcall f args bl ids fl used d') d all N acc os k s = HQ E G n f args bl ids fl used d' d all N acc os k s:=by simp only [PQ_eq,PO_eq,pq,HQ]
theorem PO_nil:PO E G (n + 1) all N acc [] k s = PW E G n k s:=by simp only [PO_eq,PW_eq,po]
def PJ (E:Env) (G:Goal) (n:Nat) (cp:Bool) (o:Oper) (all:List Oper) (N:List Nat) (acc:List (List Nat)) (os:List Oper) (k:List WI) (s:St):Prop:=match cp with
  | false => PQ E G n (stepF E (forb all N acc o) s o) o.dst all N (step1 N acc o) os k s
  | true => PQ E G n (stepF E (forb all N acc o) s o) o.dst all N (step1 N acc o) os k s ∨ boomP E G s o
theorem PO_none {f n':Nat} {rv:List ResultVar} {p:PV} {bl:List (Nat × Blk)} {mo:Option ((T:Ty) × (T.den → Prop) × (T.den → PV) × (T.den → List (Nat × Blk)))} {dst:Option Tmp} {op:Op} {ty:TypeId} {pos:String} {af:Array Edge}:PO E ⟨f,n',rv,p,bl,mo,false⟩ (n + 1) all N acc (⟨dst,op,ty,pos,af,none⟩ :: os) k s =
    PQ E ⟨f,n',rv,p,bl,mo,false⟩ n (stepF E (forb all N acc ⟨dst,op,ty,pos,af,none⟩) s ⟨dst,op,ty,pos,af,none⟩) dst all N (step1 N acc ⟨dst,op,ty,pos,af,none⟩) os k s:=by simp only [PO_eq,PQ_eq,po,canPan]
theorem PO_noneX {f n':Nat} {rv:List ResultVar} {p:PV} {bl:List (Nat × Blk)} {mo:Option ((T:Ty) × (T.den → Prop) × (T.den → PV) × (T.den → List (Nat × Blk)))} {dst:Option Tmp} {op:Op} {ty:TypeId} {pos:String} {af:Array Edge}:PO E ⟨f,n',rv,p,bl,mo,true⟩ (n + 1) all N acc (⟨dst,op,ty,pos,af,none⟩ :: os) k s =
    PJ E ⟨f,n',rv,p,bl,mo,true⟩ n (canPan E ⟨f,n',rv,p,bl,mo,true⟩ N s ⟨dst,op,ty,pos,af,none⟩) ⟨dst,op,ty,pos,af,none⟩ all N acc os k s:=by
  simp only [PO_eq,po]
  unfold PJ
  rw [PQ_eq]
  rfl
theorem PJ_f {o:Oper}:PJ E G n false o all N acc os k s = PQ E G n (stepF E (forb all N acc o) s o) o.dst all N (step1 N acc o) os k s:=rfl
theorem PJ_t {o:Oper}:PJ E G n true o all N acc os k s = (PQ E G n (stepF E (forb all N acc o) s o) o.dst all N (step1 N acc o) os k s ∨ boomP E G s o):=rfl
theorem PQ_sstore {ks:List Nat} {i:Nat} {b:Blk}:PQ E G (n + 1) (.sstore ks i b) d all N acc os k s = PO E G n all N acc os k ⟨(s.sealw ks).sl,(i,b) :: (s.sealw ks).bl⟩:=by simp only [PQ_eq,PO_eq,pq]
theorem PO_some {dst:Option Tmp} {op:Op} {ty:TypeId} {pos:String} {af:Array Edge} {j:Nat} {want:Bool}:PO E G (n + 1) all N acc (⟨dst,op,ty,pos,af,some (j,want)⟩ :: os) k s =
    PH E G n (guardDst all j) want ⟨dst,op,ty,pos,af,some (j,want)⟩ all N acc os k s:=by
  simp only [PO_eq,po]
  unfold PH
  cases guardDst all j with
  | none => rfl
  | some d =>
    simp only [PK,PO_eq,PQ_eq]
    rfl
theorem PH_some {d:Nat} {want:Bool} {o:Oper}:PH E G n (some d) want o all N acc os k s = PK E G n (s.get d) d want o all N acc os k s:=rfl
theorem PK_tt {d:Nat} {o:Oper}:PK E G n (.iv .bool true) d true o all N acc os k s = PQ E G n (stepF E (forb all N acc o) (s.set d (.iv .bool true)) o) o.dst all N (step1 N acc o) os k (s.set d (.iv .bool true)):=by simp [PK]
theorem PK_ff {d:Nat} {o:Oper}:PK E G n (.iv .bool false) d false o all N acc os k s = PQ E G n (stepF E (forb all N acc o) (s.set d (.iv .bool false)) o) o.dst all N (step1 N acc o) os k (s.set d (.iv .bool false)):=by simp [PK]
theorem PK_tf {d:Nat} {o:Oper}:PK E G n (.iv .bool true) d false o all N acc os k s = PO E G n all N (step1 N acc o) os k ((s.set d (.iv .bool true)).put o.dst (.tup [])):=by simp [PK]
theorem PK_ft {d:Nat} {o:Oper}:PK E G n (.iv .bool false) d true o all N acc os k s = PO E G n all N (step1 N acc o) os k ((s.set d (.iv .bool false)).put o.dst (.tup [])):=by simp [PK]
theorem PK_undef {d:Nat} {want:Bool} {o:Oper}:PK E G n (.tup []) d want o all N acc os k s = PO E G n all N (step1 N acc o) os k (s.put o.dst (.tup [])):=rfl
theorem PK_dec_t {d:Nat} {o:Oper} {p:Prop} [Decidable p]:PK E G n (.iv .bool (decide p)) d true o all N acc os k s = ((p → PQ E G n (stepF E (forb all N acc o) (s.set d (.iv .bool true)) o) o.dst all N (step1 N acc o) os k (s.set d (.iv .bool true))) ∧
    (¬p → PO E G n all N (step1 N acc o) os k ((s.set d (.iv .bool false)).put o.dst (.tup [])))):=by simp [PK]
theorem PK_dec_f {d:Nat} {o:Oper} {p:Prop} [Decidable p]:PK E G n (.iv .bool (decide p)) d false o all N acc os k s = ((¬p → PQ E G n (stepF E (forb all N acc o) (s.set d (.iv .bool false)) o) o.dst all N (step1 N acc o) os k (s.set d (.iv .bool false))) ∧
    (p → PO E G n all N (step1 N acc o) os k ((s.set d (.iv .bool true)).put o.dst (.tup [])))):=by simp [PK]
theorem PB_t {a b:Code}:PB E G n (.iv .bool true) a b k s = PW E G n (.code a :: k) s:=by simp [PB]
theorem PB_f {a b:Code}:PB E G n (.iv .bool false) a b k s = PW E G n (.code b :: k) s:=by simp [PB]
theorem PB_dec {a b:Code} {p:Prop} [Decidable p]:PB E G n (.iv .bool (decide p)) a b k s = ((p → PW E G n (.code a :: k) s) ∧ (¬p → PW E G n (.code b :: k) s)):=by simp [PB]
theorem PB_ndec {a b:Code} {p:Prop} [Decidable p]:PB E G n (.iv .bool !(decide p)) a b k s = ((p → PW E G n (.code b :: k) s) ∧ (¬p → PW E G n (.code a :: k) s)):=by simp [PB,and_comm]
theorem PK_ndec_t {d:Nat} {o:Oper} {p:Prop} [Decidable p]:PK E G n (.iv .bool !(decide p)) d true o all N acc os k s = ((¬p → PQ E G n (stepF E (forb all N acc o) (s.set d (.iv .bool true)) o) o.dst all N (step1 N acc o) os k (s.set d (.iv .bool true))) ∧
    (p → PO E G n all N (step1 N acc o) os k ((s.set d (.iv .bool false)).put o.dst (.tup [])))):=by simp [PK]
theorem PK_ndec_f {d:Nat} {o:Oper} {p:Prop} [Decidable p]:PK E G n (.iv .bool !(decide p)) d false o all N acc os k s = ((p → PQ E G n (stepF E (forb all N acc o) (s.set d (.iv .bool false)) o) o.dst all N (step1 N acc o) os k (s.set d (.iv .bool false))) ∧
    (¬p → PO E G n all N (step1 N acc o) os k ((s.set d (.iv .bool true)).put o.dst (.tup [])))):=by simp [PK]
theorem PX_some {k:List WI}:PX E G n (some k) s = PW E G n k s:=rfl
theorem PW_nil:PW E G (n + 1) [] s = retP E G s:=by simp only [PW_eq,pw]
theorem PW_blk {i:Nat}:PW E G (n + 1) (.blk i :: k) s = PW E G n k s:=by simp only [PW_eq,pw]
theorem PW_inLoop {c:Code}:PW E G (n + 1) (.loop c :: k) s = Walks E G (.loop c :: k) s:=by simp only [PW_eq,pw]
theorem PW_skip:PW E G (n + 1) (.code .skip :: k) s = PW E G n k s:=by simp only [PW_eq,pw]
theorem PW_seq {a b:Code}:PW E G (n + 1) (.code (.seq a b) :: k) s = PW E G n (.code a :: .code b :: k) s:=by simp only [PW_eq,pw]
def PS (E:Env) (G:Goal) (n:Nat) (b:Bool) (i:Nat) (ops:List Oper) (k:List WI) (s:St):Prop:=match b with
  | true => Walks E G (.code (.region i ⟨ops⟩ false) :: k) s
  | false => PO E G n ops [] [] ops k s
theorem PW_reg {i:Nat} {ops:List Oper}:PW E G (n + 1) (.code (.region i ⟨ops⟩ false) :: k) s = PS E G n (E.stp G.f i) i ops k s:=by
  simp only [PW_eq,pw]
  unfold PS
  rw [PO_eq]
  cases E.stp G.f i <;> rfl
theorem PS_f {i:Nat} {ops:List Oper}:PS E G n false i ops k s = PO E G n ops [] [] ops k s:=rfl
theorem PS_t {i:Nat} {ops:List Oper}:PS E G n true i ops k s = Walks E G (.code (.region i ⟨ops⟩ false) :: k) s:=rfl
def PD (E:Env) (G:Goal) (n:Nat) (l:List (List Nat)) (ops:List Oper) (k:List WI) (s:St):Prop:=match l with
  | [] => PO E G n ops (madeD ops) [] ops k s
  | x :: l => match cutOf (x :: l) with
    | some c => PO E G n ops (madeD ops) [] (ops.take c) (.rest ops (ops.drop c) :: k) s
    | none => keepOff G ops = true ∧ PW E G n (.tail ops (x :: l) :: k) s
def PSd (E:Env) (G:Goal) (n:Nat) (b:Bool) (i:Nat) (ops:List Oper) (k:List WI) (s:St):Prop:=match b with
  | true => Walks E G (.code (.region i ⟨ops⟩ true) :: k) s
  | false => PD E G n (E.fl G.f i) ops k s
theorem PW_draw {i:Nat} {ops:List Oper}:PW E G (n + 1) (.code (.region i ⟨ops⟩ true) :: k) s = PSd E G n (E.stp G.f i) i ops k s:=by
  simp only [PW_eq,pw]
  unfold PSd PD
  rw [PW_eq,PO_eq]
  cases E.stp G.f i <;> cases E.fl G.f i <;> rfl
theorem PSd_f {i:Nat} {ops:List Oper}:PSd E G n false i ops k s = PD E G n (E.fl G.f i) ops k s:=rfl
theorem PSd_t {i:Nat} {ops:List Oper}:PSd E G n true i ops k s = Walks E G (.code (.region i ⟨ops⟩ true) :: k) s:=rfl
theorem PD_nil {ops:List Oper}:PD E G n [] ops k s = PO E G n ops (madeD ops) [] ops k s:=rfl
theorem PD_cons {i:Nat} {x:List Nat} {l:List (List Nat)} {ops:List Oper}:PD E G n ((i :: x) :: l) ops k s = (keepOff G ops = true ∧ PW E G n (.tail ops ((i :: x) :: l) :: k) s):=rfl
theorem PD_cut {c:Nat} {x:List Nat} {l:List (List Nat)} {ops:List Oper}:PD E G n ([] :: (c :: x) :: l) ops k s = PO E G n ops (madeD ops) [] (ops.take c) (.rest ops (ops.drop c) :: k) s:=rfl
def PTh (E:Env) (G:Goal) (n:Nat) (hs:List Nat) (all:List Oper) (orders:List (List Nat)) (k:List WI) (s:St):Prop:=match hs with
  | [] => PW E G n k s
  | h :: hs => pt E G n all orders (h :: hs) k s
def PTs (E:Env) (G:Goal):Nat → List Nat → List Oper → List (List Nat) → List WI → St → Prop
  | 0,_,_,_,_,_ => Stuck 1000
  | _ + 1,[],_,_,_,_ => True
  | n + 1,h :: hs,all,orders,k,s => (match nthO all h with
      | some o => PO E G n all [] [] [o] (.tail all (tailsOf h orders) :: k) s
      | none => Stuck 1008) ∧ PTs E G n hs all orders k s
theorem PTs_eq {all:List Oper} {orders:List (List Nat)}:∀ (n:Nat) (hs:List Nat),pt E G n all orders hs k s = PTs E G n hs all orders k s
  | 0,_ => by simp only [pt,PTs]
  | n + 1,[] => by simp only [pt,PTs]
  | n + 1,h :: hs => by simp only [pt,PTs,PTs_eq n hs,PO_eq]; rfl
theorem PW_tail {all:List Oper} {orders:List (List Nat)}:PW E G (n + 1) (.tail all orders :: k) s = PTh E G n (headsOf orders) all orders k s:=by
  simp only [PW_eq,pw]
  unfold PTh
  rw [PW_eq]
  cases headsOf orders <;> rfl
theorem PW_rest {all B:List Oper}:PW E G (n + 1) (.rest all B :: k) s = PO E G n all [] [] B k s:=by simp only [PW_eq,PO_eq,pw]
theorem PTh_nil {all:List Oper} {orders:List (List Nat)}:PTh E G n [] all orders k s = PW E G n k s:=rfl
theorem PTh_cons {h:Nat} {hs:List Nat} {all:List Oper} {orders:List (List Nat)}:PTh E G n (h :: hs) all orders k s = PTs E G n (h :: hs) all orders k s:=PTs_eq n (h :: hs)
theorem PTs_nil {all:List Oper} {orders:List (List Nat)}:PTs E G (n + 1) [] all orders k s = True:=rfl
def PTo (E:Env) (G:Goal) (n:Nat) (o:Option Oper) (all:List Oper) (orders:List (List Nat)) (k:List WI) (s:St):Prop:=match o with
  | some o => PO E G n all [] [] [o] (.tail all orders :: k) s
  | none => Stuck 1008
theorem PTs_cons {h:Nat} {hs:List Nat} {all:List Oper} {orders:List (List Nat)}:PTs E G (n + 1) (h :: hs) all orders k s = (PTo E G n (nthO all h) all (tailsOf h orders) k s ∧ PTs E G n hs all orders k s):=rfl
theorem PTo_some {o:Oper} {all:List Oper} {orders:List (List Nat)}:PTo E G n (some o) all orders k s = PO E G n all [] [] [o] (.tail all orders :: k) s:=rfl
theorem PW_cond {x:Operand} {a b:Code}:PW E G (n + 1) (.code (.cond x a b) :: k) s = PB E G n (s.ev x) a b k s:=by simp only [PW_eq,PB,pw]; rfl
theorem PW_block {i:Nat} {b:Code}:PW E G (n + 1) (.code (.block i b) :: k) s = PW E G n (.code b :: .blk i :: k) s:=by simp only [PW_eq,pw]
theorem PW_loop {b:Code}:PW E G (n + 1) (.code (.loop b) :: k) s = Walks E G (.code (.loop b) :: k) s:=by simp only [PW_eq,pw]
theorem PW_exit {i:Nat}:PW E G (n + 1) (.code (.exit i) :: k) s = PX E G n (exitW i k) s:=by simp only [PW_eq,PX,pw]; rfl
theorem PW_ret:PW E G (n + 1) (.code .ret :: k) s = retP E G s:=by simp only [PW_eq,pw]
end

theorem EnvOK.go {E:Env} (h:EnvOK E):EnvOK E.go:=⟨h.ty,h.fn,h.res,h.hfn,h.cmp,h.mapKey,h.mixed,h.elm,h.con,h.emp,h.meth⟩
section
variable {E:Env}
theorem go_ty {t:Nat}:E.go.ty t = E.ty t:=rfl
theorem go_str {t:Nat}:E.go.str t = E.str t:=rfl
theorem go_cmp {t:Nat}:E.go.cmp t = E.cmp t:=rfl
theorem go_fn {t:Nat}:E.go.fn t = E.fn t:=rfl
theorem go_hfn {t:Nat}:E.go.hfn t = E.hfn t:=rfl
theorem go_key {t:Nat}:E.go.mapKey t = E.mapKey t:=rfl
theorem go_ro {d t:Nat}:E.go.ro d t = E.ro d t:=rfl
theorem go_tm:E.go.tm = E.tm:=rfl
theorem go_bx {t:Nat}:E.go.boxT t = E.boxT t:=rfl
theorem go_el {t:Nat}:E.go.elm t = E.elm t:=rfl
theorem go_nd {t:Nat}:E.go.nd t = E.nd t:=rfl
theorem go_meth {t:Nat} {m:String}:E.go.meth t m = E.meth t m:=rfl
theorem go_con {t:Nat}:E.go.con t = E.con t:=rfl
theorem go_px {t:Nat}:E.go.px t = E.px t:=rfl
theorem go_fl {f i:Nat}:E.go.fl f i = E.fl f i:=rfl
theorem go_emp {t:Nat}:E.go.emp t = E.emp t:=rfl
theorem go_stp {f i:Nat}:E.go.stp f i = false:=rfl
theorem go_PC {f:Nat} {xs:List (Sigma Ty.den)} {T:Ty} {r:T.den}:PC E.go f xs T r = PC E f xs T r:=rfl
theorem go_PN {f:Nat} {xs:List (Sigma Ty.den)} {T:Ty} {Y:T.den → Prop}:PN E.go f xs T Y = PN E f xs T Y:=rfl
theorem go_HC {f:Nat} {args:List PV} {bl bl':List (Nat × Blk)} {p:PV}:HC E.go f args bl p bl' = HC E f args bl p bl':=rfl
theorem go_XC {f:Nat} {xs:List (Sigma Ty.den)}:XC E.go f xs = XC E f xs:=rfl
theorem go_XH {f:Nat} {args:List PV} {bl bl':List (Nat × Blk)}:XH E.go f args bl bl' = XH E f args bl bl':=rfl
theorem go_Walks {G:Goal} {k:List WI} {s:St}:Walks E.go G k s = Walks E G k s:=rfl
end
theorem PW_sound {E:Env} (hE:EnvOK E) {G:Goal} (hG:GoalOK E G) (m:Nat) (todo:List WI) (s:St) (hok:okT (drE E G.f drB (ordB2 E) cutB) G.n todo = true) (h:PW E G m todo s):Walks E G todo s :=
  pw_sound hE hG (draw_sound hE) (ord_sound hE) (cut_sound hE) m todo s hok (by rw [← PW_eq]; exact h)
theorem PW_go {E:Env} (hE:EnvOK E) {G:Goal} (hG:GoalOK E G) (m:Nat) (todo:List WI) (s:St) (hok:okT (drE E.go G.f drB (ordB2 E.go) cutB) G.n todo = true) (h:PW E.go G m todo s):Walks E G todo s :=
  PW_sound (E:=E.go) hE.go ⟨hG.1⟩ m todo s hok h
theorem PC.of_PW {E:Env} (hE:EnvOK E) {f n m:Nat} {fn:Func} {c:Code} {xs:List (Sigma Ty.den)} {T:Ty} {r:T.den}
    (hfn:E.P.funcs[f]? = some fn) (hb:fn.body = some c) (hn:fn.ntmps = n) (hlen:Nat.ble xs.length n = true) (hfew:Nat.ble n 100000 = true) (hok:okT (drE E f drB (ordB2 E) cutB) n [.code c] = true)
    (h:oks xs → PW E ⟨f,n,fn.results.toList,.iv T r,[],none,false⟩ m [.code c] ⟨entrySl 0 (ivs xs),[]⟩):PC E f xs T r :=
  PC.of_walk hfn hb hn hlen hfew fun hx => PW_sound hE (G:=⟨f,n,fn.results.toList,.iv T r,[],none,false⟩) ⟨fn,hfn,rfl⟩ m _ _ hok (h hx)
theorem PN.of_PW {E:Env} (hE:EnvOK E) {f n m:Nat} {fn:Func} {c:Code} {xs:List (Sigma Ty.den)} {T:Ty} {Y:T.den → Prop}
    (hfn:E.P.funcs[f]? = some fn) (hb:fn.body = some c) (hn:fn.ntmps = n) (hlen:Nat.ble xs.length n = true) (hfew:Nat.ble n 100000 = true) (hok:okT (drE E f drB (ordB2 E) cutB) n [.code c] = true)
    (h:oks xs → PW E ⟨f,n,fn.results.toList,.any,[],some ⟨T,Y,fun r => .iv T r,fun _ => []⟩,false⟩ m [.code c] ⟨entrySl 0 (ivs xs),[]⟩):PN E f xs T Y :=
  PN.of_walk hfn hb hn hlen hfew fun hx => PW_sound hE (G:=⟨f,n,fn.results.toList,.any,[],some ⟨T,Y,fun r => .iv T r,fun _ => []⟩,false⟩) ⟨fn,hfn,rfl⟩ m _ _ hok (h hx)
theorem HN.of_PW {E:Env} (hE:EnvOK E) {f n m:Nat} {fn:Func} {c:Code} {args:List PV} {bl:List (Nat × Blk)} {T:Ty} {Y:T.den → Prop} {p:T.den → PV} {bl':T.den → List (Nat × Blk)}
    (hfn:E.P.funcs[f]? = some fn) (hb:fn.body = some c) (hn:fn.ntmps = n) (hlen:Nat.ble args.length n = true) (hfew:Nat.ble n 100000 = true) (hok:okT (drE E f drB (ordB2 E) cutB) n [.code c] = true)
    (h:okPs args → okBl bl → PW E ⟨f,n,fn.results.toList,.any,[],some ⟨T,Y,p,bl'⟩,false⟩ m [.code c] ⟨entrySl 0 args,bl⟩):HN E f args bl T Y p bl' :=
  HN.of_walk hfn hb hn hlen hfew fun h1 h2 => PW_sound hE (G:=⟨f,n,fn.results.toList,.any,[],some ⟨T,Y,p,bl'⟩,false⟩) ⟨fn,hfn,rfl⟩ m _ _ hok (h h1 h2)
theorem HC.of_PW {E:Env} (hE:EnvOK E) {f n m:Nat} {fn:Func} {c:Code} {args:List PV} {bl bl':List (Nat × Blk)} {p:PV}
    (hfn:E.P.funcs[f]? = some fn) (hb:fn.body = some c) (hn:fn.ntmps = n) (hlen:Nat.ble args.length n = true) (hfew:Nat.ble n 100000 = true) (hok:okT (drE E f drB (ordB2 E) cutB) n [.code c] = true)
    (h:okPs args → okBl bl → PW E ⟨f,n,fn.results.toList,p,bl',none,false⟩ m [.code c] ⟨entrySl 0 args,bl⟩):HC E f args bl p bl' :=
  HC.of_walk hfn hb hn hlen hfew fun h1 h2 => PW_sound hE (G:=⟨f,n,fn.results.toList,p,bl',none,false⟩) ⟨fn,hfn,rfl⟩ m _ _ hok (h h1 h2)

theorem XC.of_PW {E:Env} (hE:EnvOK E) {f n m:Nat} {fn:Func} {c:Code} {xs:List (Sigma Ty.den)}
    (hfn:E.P.funcs[f]? = some fn) (hb:fn.body = some c) (hn:fn.ntmps = n) (hlen:Nat.ble xs.length n = true) (hfew:Nat.ble n 100000 = true) (hok:okT (drE E f drB (ordB2 E) cutB) n [.code c] = true)
    (h:oks xs → PW E ⟨f,n,fn.results.toList,.any,[],none,true⟩ m [.code c] ⟨entrySl 0 (ivs xs),[]⟩):XC E f xs :=
  XC.of_walk hfn hb hn hlen hfew fun hx => PW_sound hE (G:=⟨f,n,fn.results.toList,.any,[],none,true⟩) ⟨fn,hfn,rfl⟩ m _ _ hok (h hx)
theorem XH.of_PW {E:Env} (hE:EnvOK E) {f n m:Nat} {fn:Func} {c:Code} {args:List PV} {bl bl':List (Nat × Blk)}
    (hfn:E.P.funcs[f]? = some fn) (hb:fn.body = some c) (hn:fn.ntmps = n) (hlen:Nat.ble args.length n = true) (hfew:Nat.ble n 100000 = true) (hok:okT (drE E f drB (ordB2 E) cutB) n [.code c] = true)
    (h:okPs args → okBl bl → PW E ⟨f,n,fn.results.toList,.any,bl',none,true⟩ m [.code c] ⟨entrySl 0 args,bl⟩):XH E f args bl bl' :=
  XH.of_walk hfn hb hn hlen hfew fun h1 h2 => PW_sound hE (G:=⟨f,n,fn.results.toList,.any,bl',none,true⟩) ⟨fn,hfn,rfl⟩ m _ _ hok (h h1 h2)

theorem nbeq (a b:Nat):Nat.beq a b = (a == b):=by
  cases h:Nat.beq a b with
  | true => simp [Nat.eq_of_beq_eq_true h]
  | false =>
    have:a ≠ b:=by rintro rfl; simp at h
    simp [this]
theorem nble (a b:Nat):Nat.ble a b = decide (a ≤ b):=by
  cases h:Nat.ble a b with
  | true => simp [Nat.le_of_ble_eq_true h]
  | false =>
    have:¬ a ≤ b:=by intro h'; rw [Nat.ble_eq_true_of_le h'] at h; cases h
    simp [this]
theorem nblt (a b:Nat):Nat.blt a b = decide (a + 1 ≤ b):=by
  show Nat.blt a b = decide (a < b)
  cases h:Nat.blt a b with
  | true => rw [Nat.blt_eq] at h; simp [h]
  | false =>
    have:¬ a < b:=by intro h'; rw [← Nat.blt_eq] at h'; rw [h'] at h; cases h
    simp [this]

theorem Walks.loopW {E:Env} {G:Goal} {c:Code} {k:List WI} {s:St} {X:Type} (st:X → St) (inv:X → Prop) (m:X → Nat) (x0:X) (hle:Le s (st x0)) (hinv:inv x0)
    (h:∀ x,inv x → (∀ (s:St) (y:X),Le s (st y) → inv y → m y < m x → Walks E G (.loop c :: k) s) → Walks E G (.code c :: .loop c :: k) (st x)):Walks E G (.code (.loop c) :: k) s :=
  Walks.weaken hle (Walks.loop st inv m h x0 hinv)
end Go.Proofs.Ytefpgfdemmllpaa
namespace Go.Proofs.Ytefpgfdemmllpaa
open Go.RowKit

def permF (l:List (Nat × Nat)) (i:Nat):Nat:=match look i l with | some j => j | none => i
def swapL:List (Nat × Nat) → List (Nat × Nat)
  | [] => [] | p :: r => (p.2,p.1) :: swapL r
def inverse (l:List (Nat × Nat)):List (Nat × Nat) → Bool
  | [] => true | p :: r => Nat.beq (permF l p.1) p.2 && Nat.blt p.1 P0 && inverse l r
def permB (l:List (Nat × Nat)):Bool:=inverse l l && inverse (swapL l) (swapL l)

theorem look_mem {l:List (Nat × Nat)} {i j:Nat} (h:look i l = some j):(i,j) ∈ l:=by
  induction l with
  | nil => cases h
  | cons p r ih =>
    simp only [look] at h
    cases hb:Nat.beq i p.1 with
    | true =>
      simp only [hb,cond_true,Option.some.injEq] at h
      have:=Nat.eq_of_beq_eq_true hb
      rw [List.mem_cons]
      left
      obtain ⟨a,b⟩:=p
      simp only at h this
      rw [this,h]
    | false => simp only [hb,cond_false] at h; exact List.mem_cons_of_mem _ (ih h)
theorem mem_look {l:List (Nat × Nat)} {i j:Nat} (h:(i,j) ∈ l):∃ k,look i l = some k:=by
  induction l with
  | nil => cases h
  | cons p r ih =>
    simp only [look]
    cases hb:Nat.beq i p.1 with
    | true => exact ⟨p.2,rfl⟩
    | false =>
      rcases List.mem_cons.1 h with h | h
      · subst h; simp at hb
      · exact ih h
theorem mem_swapL {i j:Nat}:∀ {l:List (Nat × Nat)},(i,j) ∈ l → (j,i) ∈ swapL l
  | [],h => by cases h
  | p :: r,h => by
    rcases List.mem_cons.1 h with h | h
    · subst h; exact List.mem_cons_self ..
    · exact List.mem_cons_of_mem _ (mem_swapL h)
theorem swap_swap:∀ (l:List (Nat × Nat)),swapL (swapL l) = l
  | [] => rfl
  | p :: r => by simp only [swapL,swap_swap r]
theorem inverse_at {l:List (Nat × Nat)}:∀ {r:List (Nat × Nat)} {i j:Nat},inverse l r = true → (i,j) ∈ r → permF l i = j ∧ i < P0
  | [],i,j,_,h => by cases h
  | p :: r,i,j,hi,h => by
    simp only [inverse,Bool.and_eq_true,Nat.blt_eq] at hi
    rcases List.mem_cons.1 h with h | h
    · subst h; exact ⟨Nat.eq_of_beq_eq_true hi.1.1,hi.1.2⟩
    · exact inverse_at hi.2 h
theorem perm_inv {l:List (Nat × Nat)} (h:permB l = true) (h':∀ i j,(i,j) ∈ l → ∃ k,(j,k) ∈ l) (i:Nat):permF (swapL l) (permF l i) = i:=by
  simp only [permB,Bool.and_eq_true] at h
  cases hl:look i l with
  | some j =>
    have hm:=look_mem hl
    have e:permF l i = j:=by simp [permF,hl]
    rw [e]
    exact (inverse_at h.2 (mem_swapL hm)).1
  | none =>
    have e:permF l i = i:=by simp [permF,hl]
    rw [e]
    cases hs:look i (swapL l) with
    | none => simp [permF,hs]
    | some j =>
      have hm:=mem_swapL (look_mem hs)
      rw [swap_swap] at hm
      obtain ⟨k,hk⟩:=h' _ _ hm
      obtain ⟨k',hk'⟩:=mem_look hk
      rw [hl] at hk'
      cases hk'
def closed (l:List (Nat × Nat)):List (Nat × Nat) → Bool
  | [] => true | p :: r => (match look p.2 l with | some _ => true | none => false) && closed l r
theorem closed_at {l:List (Nat × Nat)}:∀ {r:List (Nat × Nat)} {i j:Nat},closed l r = true → (i,j) ∈ r → ∃ k,(j,k) ∈ l
  | [],i,j,_,h => by cases h
  | p :: r,i,j,hc,h => by
    simp only [closed,Bool.and_eq_true] at hc
    rcases List.mem_cons.1 h with h | h
    · subst h
      have h1:=hc.1
      split at h1
      · rename_i k hk; exact ⟨k,look_mem hk⟩
      · cases h1
    · exact closed_at hc.2 h
def permOK (l:List (Nat × Nat)):Bool:=permB l && closed l l && permB (swapL l) && closed (swapL l) (swapL l)
theorem permOK_inv {l:List (Nat × Nat)} (h:permOK l = true):(∀ i,permF (swapL l) (permF l i) = i) ∧ (∀ i,permF l (permF (swapL l) i) = i) ∧ ∀ i,P0 ≤ i → permF l i = i:=by
  simp only [permOK,Bool.and_eq_true] at h
  refine ⟨perm_inv h.1.1.1 (fun i j hm => closed_at h.1.1.2 hm),fun i => ?_,fun i hi => ?_⟩
  · have:=perm_inv h.1.2 (fun i j hm => closed_at h.2 hm) i
    rwa [swap_swap] at this
  · unfold permF
    cases hl:look i l with
    | none => rfl
    | some j =>
      have:=h.1.1.1
      simp only [permB,Bool.and_eq_true] at this
      have:=(inverse_at this.1 (look_mem hl)).2
      omega

def St.ren (s:St) (ρ:Nat → Nat):St:=⟨mapSl (PV.ren ρ) s.sl,renBl ρ s.bl⟩
theorem Full.ren {n:Nat} {w0:World} {S0:Cx} {s:St} {a:Act} {w:World} {ν:Nat → Value} {S:Nat → Prop} (h:Full n w0 S0 s a w ν S) {l:List (Nat × Nat)} (hp:permOK l = true) :
    Full n w0 S0 (s.ren (permF l)) a w (fun i => ν (permF (swapL l) i)) S:=by
  obtain ⟨h1,h2,h3⟩:=permOK_inv hp
  have inj:∀ i j,permF l i = permF l j → i = j:=fun i j e => by rw [← h1 i,← h1 j,e]
  have hlook:∀ i b,look i s.bl = some b → look (permF l i) (s.ren (permF l)).bl = some (b.map (PV.renL (permF l))):=fun i b hb => look_renBl_of (fun j c _ e => inj j i e) hb
  have hold:∀ i b,look i (s.ren (permF l)).bl = some b → ∃ j c,permF l j = i ∧ look j s.bl = some c ∧ b = c.map (PV.renL (permF l)):=fun i b hb => look_renBl (fun j k _ _ _ _ e => inj j k e) hb
  have hle:Ctx.LeR (keys s.bl) (permF l) ⟨ν,s.D,w,⟨S,own0 w0 S0⟩⟩ ⟨fun i => ν (permF (swapL l) i),(s.ren (permF l)).D,w,⟨S,own0 w0 S0⟩⟩ :=
    ⟨fun _ _ => rfl,fun _ h => h,fun i _ ⟨b,hb⟩ => ⟨_,hlook i b hb⟩,fun i _ _ => by simp only [h1]⟩
  refine ⟨h.below,h.inS,h.fresh,⟨h.W.lt,h.W.size,fun i b hb => ?_,fun i j b c hij hi hj g hg hg' => ?_⟩,fun t => ?_,h.size,h.defers,h.few,fun i hi ⟨b,hb⟩ => ?_,h.tab⟩
  · obtain ⟨j,c,rfl,hc,rfl⟩:=hold i b hb
    have hr:=h.W.blk j c hc
    exact BRel_ren hle (BRel_keys (fun _ h => h) hr) (by simp only [h1]) (fun g hg => ⟨rfl,(BRel_at hr hg).1,(BRel_at hr hg).2.1⟩) hr
  · obtain ⟨i',b',rfl,hb',_⟩:=hold i b hi
    obtain ⟨j',c',rfl,hc',_⟩:=hold j c hj
    simp only [h1] at hg hg'
    exact h.W.ne i' j' b' c' (fun e => hij (by rw [e])) hb' hc' g hg hg'
  · have e:(s.ren (permF l)).get t = (s.get t).ren (permF l):=by
      simp only [St.get,St.ren,look_mapSl]
      cases look t s.sl <;> simp [PV.ren]
    rw [e]
    have hs:=h.slots t
    exact PRel_ren hle (PRel_keys (fun _ h => h) hs) hs
  · obtain ⟨j,c,rfl,hc,_⟩:=hold i b hb
    have hj:P0 ≤ j:=by
      rcases Nat.lt_or_ge j P0 with h' | h'
      · -- a small name stays small
        exfalso
        have e:=h3 (permF l j) hi
        have:=inj _ _ e
        omega
      · exact h'
    rw [h3 j hj]
    have e:permF (swapL l) j = j:=by
      have:=h1 j
      rw [h3 j hj] at this
      exact this
    simp only [e]
    exact h.kept j hj ⟨c,hc⟩
theorem Walks.ren {E:Env} {G:Goal} {todo:List WI} {s:St} (l:List (Nat × Nat)) (hp:permOK l = true) (h:Walks E G todo (s.ren (permF l))):Walks E G todo s:=by
  intro w0 S0 a w hr
  obtain ⟨ν,S,hf⟩:=hr.full
  exact h w0 S0 a w (hf.ren hp).rel
theorem back_0 {i:Nat} {r:List Nat} {d:Nat}:back (i :: r) d 1000000000 = i:=rfl
theorem back_1 {i j:Nat} {r:List Nat} {d:Nat}:back (i :: j :: r) d 1000000001 = j:=rfl
theorem back_2 {i j k:Nat} {r:List Nat} {d:Nat}:back (i :: j :: k :: r) d 1000000002 = k:=rfl
theorem back_small {ids:List Nat} {d i:Nat} (h:(1000000000 ≤ i) = False):back ids d i = i + 100000 * (d + 1):=by
  unfold back
  have:Nat.ble P0 i = false:=by
    cases hb:Nat.ble P0 i with
    | false => rfl
    | true => exact (of_eq_false h (Nat.le_of_ble_eq_true hb)).elim
  rw [this]
  rfl
theorem min_i8:IntKind.i8.min = -128:=rfl
theorem max_i8:IntKind.i8.max = 127:=rfl
theorem min_i16:IntKind.i16.min = -32768:=rfl
theorem max_i16:IntKind.i16.max = 32767:=rfl
theorem min_i32:IntKind.i32.min = -2147483648:=rfl
theorem max_i32:IntKind.i32.max = 2147483647:=rfl
theorem min_i64:IntKind.i64.min = -9223372036854775808:=rfl
theorem max_i64:IntKind.i64.max = 9223372036854775807:=rfl
theorem min_u8:IntKind.u8.min = 0:=rfl
theorem max_u8:IntKind.u8.max = 255:=rfl
theorem min_u16:IntKind.u16.min = 0:=rfl
theorem max_u16:IntKind.u16.max = 65535:=rfl
theorem min_u32:IntKind.u32.min = 0:=rfl
theorem max_u32:IntKind.u32.max = 4294967295:=rfl
theorem min_u64:IntKind.u64.min = 0:=rfl
theorem max_u64:IntKind.u64.max = 18446744073709551615:=rfl

end Go.Proofs.Ytefpgfdemmllpaa
namespace Go.Proofs.Ytefpgfdemmllpaa

def opsW:List Oper → List Nat
  | [] => [] | o :: r => match o.dst with | some d => d :: opsW r | none => opsW r
def codeW:Code → List Nat
  | .region _ ops _ => opsW ops.toList | .seq a b => codeW a ++ codeW b | .cond _ a b => codeW a ++ codeW b | .block _ b => codeW b | .loop b => codeW b
  | .scope b => codeW b | .rangeFunc _ _ a b => codeW a ++ codeW b | .skip => [] | .exit _ => [] | .label _ => [] | .goto _ => [] | .ret => [] | .refuse _ => []
def dropSl:List Nat → List (Nat × PV) → List (Nat × PV)
  | _,[] => [] | ks,p :: r => bif mem1 p.1 ks then dropSl (p.1 :: ks) r else p :: dropSl (p.1 :: ks) r
def dropBk:List Nat → List (Nat × Blk) → List (Nat × Blk)
  | _,[] => [] | ks,p :: r => bif mem1 p.1 ks then dropBk (p.1 :: ks) r else p :: dropBk (p.1 :: ks) r

theorem Walks.loopA {E:Env} {G:Goal} {c:Code} {k:List WI} {s:St} {X:Type} (sl:X → List (Nat × PV)) (bl:X → List (Nat × Blk)) (inv:X → Prop) (m:X → Nat) (x0:X)
    (h:∀ b1 b2,dropSl (codeW c ++ (sl x0).map (·.1)) s.sl = b1 → dropBk (keys (bl x0)) s.bl = b2 → Le s ⟨sl x0 ++ b1,bl x0 ++ b2⟩ ∧ inv x0 ∧
      ∀ x,inv x → (∀ (t:St) (y:X),Le t ⟨sl y ++ b1,bl y ++ b2⟩ → inv y → m y < m x → Walks E G (.loop c :: k) t) → Walks E G (.code c :: .loop c :: k) ⟨sl x ++ b1,bl x ++ b2⟩):Walks E G (.code (.loop c) :: k) s:=by
  obtain ⟨h1,h2,h3⟩:=h _ _ rfl rfl
  exact Walks.loopW (fun x => ⟨sl x ++ dropSl (codeW c ++ (sl x0).map (·.1)) s.sl,bl x ++ dropBk (keys (bl x0)) s.bl⟩) inv m x0 h1 h2 h3
end Go.Proofs.Ytefpgfdemmllpaa
namespace Go.Proofs.Ytefpgfdemmllpaa

def hid (ks:List Nat):List (Nat × Blk) → List Nat
  | [] => [] | p :: r => bif mem1 p.1 ks then hid ks r else p.1 :: hid ks r
theorem hid_no {ks:List Nat} {i:Nat} (hk:mem1 i ks = false):∀ {bl:List (Nat × Blk)} {b:Blk},look i bl = some b → mem1 i (hid ks bl) = true
  | [],b,h => by cases h
  | p :: r,b,h => by
    simp only [look] at h
    simp only [hid]
    cases hb:Nat.beq i p.1 with
    | true =>
      have e:=Nat.eq_of_beq_eq_true hb
      subst e
      rw [hk,cond_false]
      simp only [mem1,hb,cond_true]
    | false =>
      rw [hb,cond_false] at h
      have ih:=hid_no hk h
      cases hm:mem1 p.1 ks
      · simp only [cond_false,mem1,hb]; exact ih
      · simp only [cond_true]; exact ih

theorem Walks.sealp {E:Env} {G:Goal} {todo:List WI} {s:St} (ks:List Nat) (t:Nat) (T:Ty) (x:T.den) (ho:owns T = 0) (he:exp ⟨hid ks s.bl,true⟩ s.bl T (s.get t) = some x) (h:Walks E G todo ((s.sealw ks).set t (.iv T x))):Walks E G todo s:=by
  intro w0 S0 a w hr
  obtain ⟨ν,S,hf⟩:=hr.full
  have hs:=hf.sealed ks
  have hR:Reads ⟨hid ks s.bl,true⟩ s ⟨ν,s.D,w,⟨S,own0 w0 S0⟩⟩ ⟨withS S s ν ks,own0 w0 S0⟩:=by
    refine ⟨rfl,hf.W.blk,fun b hb => .inl hb,fun i hi hd g hg => .inr ⟨i,?_,hd,hg⟩⟩
    cases hk:mem1 i ks with
    | true => rfl
    | false =>
      obtain ⟨b,hb⟩:=hd
      have:=hid_no hk hb
      rw [this] at hi
      cases hi
  have hv:=exp_sound hR (.inl ho) he (hf.slots t)
  refine h w0 S0 a w (Full.rel (ν:=ν) (S:=withS S s ν ks) ⟨hs.below,hs.inS,hs.fresh,⟨hs.W.lt,hs.W.size,hs.W.blk,hs.W.ne⟩,fun u => ?_,hs.size,hs.defers,hs.few,hs.kept,hs.tab⟩)
  have h0:=hs.slots u
  unfold St.get St.set
  simp only [look]
  cases hb:Nat.beq u t with
  | true =>
    have e:=Nat.eq_of_beq_eq_true hb
    subst e
    simp only [cond_true,PRel]
    exact ⟨ho,repR_of_V hv⟩
  | false =>
    simp only [cond_false]
    exact h0
def Env.skip (E:Env) (i:Nat):Env:={ E with stp:=fun f j => match Nat.beq j i with | true => false | false => E.stp f j }
theorem EnvOK.skip {E:Env} (h:EnvOK E) (i:Nat):EnvOK (E.skip i):=⟨h.ty,h.fn,h.res,h.hfn,h.cmp,h.mapKey,h.mixed,h.elm,h.con,h.emp,h.meth⟩
section
variable {E:Env} {j:Nat}
theorem skip_P:(E.skip j).P = E.P:=rfl
theorem skip_ty {t:Nat}:(E.skip j).ty t = E.ty t:=rfl
theorem skip_str {t:Nat}:(E.skip j).str t = E.str t:=rfl
theorem skip_cmp {t:Nat}:(E.skip j).cmp t = E.cmp t:=rfl
theorem skip_fn {t:Nat}:(E.skip j).fn t = E.fn t:=rfl
theorem skip_hfn {t:Nat}:(E.skip j).hfn t = E.hfn t:=rfl
theorem skip_key {t:Nat}:(E.skip j).mapKey t = E.mapKey t:=rfl
theorem skip_ro {d t:Nat}:(E.skip j).ro d t = E.ro d t:=rfl
theorem skip_tm:(E.skip j).tm = E.tm:=rfl
theorem skip_bx {t:Nat}:(E.skip j).boxT t = E.boxT t:=rfl
theorem skip_el {t:Nat}:(E.skip j).elm t = E.elm t:=rfl
theorem skip_nd {t:Nat}:(E.skip j).nd t = E.nd t:=rfl
theorem skip_meth {t:Nat} {m:String}:(E.skip j).meth t m = E.meth t m:=rfl
theorem skip_con {t:Nat}:(E.skip j).con t = E.con t:=rfl
theorem skip_px {t:Nat}:(E.skip j).px t = E.px t:=rfl
theorem skip_fl {f i:Nat}:(E.skip j).fl f i = E.fl f i:=rfl
theorem skip_emp {t:Nat}:(E.skip j).emp t = E.emp t:=rfl
theorem skip_stp {f i:Nat}:(E.skip j).stp f i = match Nat.beq i j with | true => false | false => E.stp f i:=rfl
theorem skip_PC {f:Nat} {xs:List (Sigma Ty.den)} {T:Ty} {r:T.den}:PC (E.skip j) f xs T r = PC E f xs T r:=rfl
theorem skip_PN {f:Nat} {xs:List (Sigma Ty.den)} {T:Ty} {Y:T.den → Prop}:PN (E.skip j) f xs T Y = PN E f xs T Y:=rfl
theorem skip_HC {f:Nat} {args:List PV} {bl bl':List (Nat × Blk)} {p:PV}:HC (E.skip j) f args bl p bl' = HC E f args bl p bl':=rfl
theorem skip_HN {f:Nat} {args:List PV} {bl:List (Nat × Blk)} {T:Ty} {Y:T.den → Prop} {p:T.den → PV} {bl':T.den → List (Nat × Blk)}:HN (E.skip j) f args bl T Y p bl' = HN E f args bl T Y p bl':=rfl
theorem skip_XC {f:Nat} {xs:List (Sigma Ty.den)}:XC (E.skip j) f xs = XC E f xs:=rfl
theorem skip_XH {f:Nat} {args:List PV} {bl bl':List (Nat × Blk)}:XH (E.skip j) f args bl bl' = XH E f args bl bl':=rfl
theorem skip_Walks {G:Goal} {k:List WI} {s:St}:Walks (E.skip j) G k s = Walks E G k s:=rfl
end
attribute [go_sem] skip_P skip_ty skip_str skip_cmp skip_fn skip_hfn skip_key skip_ro skip_tm skip_bx skip_el skip_nd skip_meth skip_con skip_px skip_fl skip_emp skip_stp skip_PC skip_PN skip_HC skip_HN skip_XC skip_XH skip_Walks
theorem PW_skipTo (j:Nat) {E:Env} (hE:EnvOK E) {G:Goal} (hG:GoalOK E G) (m:Nat) (todo:List WI) (s:St) (hok:okT (drE (E.skip j) G.f drB (ordB2 (E.skip j)) cutB) G.n todo = true) (h:PW (E.skip j) G m todo s):Walks E G todo s :=
  PW_sound (E:=E.skip j) (hE.skip j) ⟨hG.1⟩ m todo s hok h
theorem Walks.weakA {E:Env} {G:Goal} {todo:List WI} {s:St} (sl:List (Nat × PV)) (bl:List (Nat × Blk))
    (h:∀ b1 b2,dropSl (sl.map (·.1)) s.sl = b1 → dropBk (keys bl) s.bl = b2 → Le s ⟨sl ++ b1,bl ++ b2⟩ ∧ Walks E G todo ⟨sl ++ b1,bl ++ b2⟩):Walks E G todo s :=
  Walks.weaken (h _ _ rfl rfl).1 (h _ _ rfl rfl).2
end Go.Proofs.Ytefpgfdemmllpaa
namespace Go.Proofs.Ytefpgfdemmllpaa
attribute [go_sem] PQ_need PQ_upd PQ_imp PQ_both PQ_allx PQ_alln PQ_exi PQ_call PQ_ncall PQ_val PQ_new PQ_store
  PQ_append PQ_sealed PQ_hcall PO_nil PO_none PO_some PH_some PK_tt PK_ff PK_tf PK_ft PK_undef
  PK_dec_t PK_dec_f PB_t PB_f PB_dec PB_ndec PK_ndec_t PK_ndec_f PX_some PW_nil PW_blk PW_inLoop
  PW_skip PW_seq PW_reg PW_draw PW_cond PW_block PW_loop PW_exit PW_ret entrySl entryPV ivs
  argPV capsOf List.toList_toArray forb madeD made madeAt step1 before nthL without bindsAny
  guardDst nthO stepF St.ev St.get St.set St.put look mem1 lk nbeq nble
  nblt cval kindEq binO isShift binInt shiftInt binStr binEq negIf canEq dep
  beqD boolV arith pickO exitW HQ hOK keepB newB flatP nilB beq_self_eq_true
  St.hret deadIds renBl back_0 back_1 back_2 back_small retP retQ retV rvals onePV
  leBl leB leCells innBl blkIn expR expT expAll exp pk withR fstOf
  asLit asSl asMp asFnv asOwn boxAt Ty.eq Ty.cast evAll evParts lenO intV
  appSrc appendO keepE lookupO mapUpdateO rangeO nextO entryO itEntries keyT plainK Ty.zer
  zeroPV cut inCut cutLo cutHi sliceO bound indexO loadO lenEq storeO putB
  fillO buildO elemsO nthPV extractD extractO callO hcallO hcall1 hcallX hcallS dArr
  notMark noOwn mpZ ptrNil isQuo St.hret0 hArgs hArg cloO lastN chainT nodupB
  innIds reach blkIds passed fwd idxOf PV.ids PV.idsL PV.inn PV.innL PV.ren PV.renL
  convO minMax fieldOff fieldTy offOf fldTy elemTy chainLen arrLen join part widens
  cellsOf Ty.val PV.cells aggCells zeroCells zeroDen Ty.cells Ty.flat Ty.ok owns PV.arrs PV.arrsL
  PV.refs PV.refsL PV.kill PV.killL PV.sealw PV.sealL mapSl Blk.map mapBl dropBl St.kill St.sealw
  keys oks okPs okP P0 List.map List.take List.drop List.headD List.append List.length List.cons_append
  List.nil_append Option.bind cond_true cond_false Bool.not_true Bool.not_false Bool.and_true Bool.true_and Bool.and_false Bool.false_and Bool.false_or Bool.or_false
  Bool.true_or Bool.or_true true_implies Option.some.injEq decide_true decide_false decide_eq_true_eq decide_eq_false_iff_not Nat.add_zero Nat.zero_add Int.toNat_natCast Nat.lt_irrefl
  and_true true_and or_false or_true true_or false_or Decidable.not_not min_i8 max_i8 min_i16 max_i16 min_i32
  max_i32 min_i64 max_i64 min_u8 max_u8 min_u16 max_u16 min_u32 max_u32 min_u64 max_u64 Int.cast_ofNat_Int
  Int.toNat_zero Int.toNat_one Int.le_refl and_self litsOf litK setC slice3O isIntT isRem roAt nilCmp
  nilCmp1 stOK lkS dstAt rootP rootG looks looseH hasLoose stG plus2 codeW
  opsW dropSl dropBk nub hasOn earlyH earlyO peeks invokeO assertO go_ty go_str
  go_cmp go_fn go_hfn go_key go_ro go_tm go_bx go_el go_nd go_con go_px go_fl
  go_emp go_stp go_PC go_PN go_HC go_XC go_XH go_Walks PO_noneX PJ_f PJ_t canPan
  boomP boomC retX keepX keepL keepG keepOff offL offB fnvs rowL_rowD PQ_sstore
  sealS PS_f PS_t PSd_f PSd_t PD_nil PD_cons PD_cut PW_rest PW_tail PTh_nil PTh_cons
  PTs_nil PTs_cons PTo_some headsOf tailsOf flAt go_meth PQ_hncall HNQ go_HN
end Go.Proofs.Ytefpgfdemmllpaa
namespace Go.Proofs.Ytefpgfdemmllpaa
open Go Go.ChangeShapes Go.WideShapes Go.RowKit
set_option maxHeartbeats 1000000

def plainT:Ty → Bool
  | .int _ => true | .bool => true | .str => true | .sl t => plainT t | .pair a b => plainT a && plainT b | .st t => plainT t
  | .unit => false | .own _ => false | .tup _ _ => false | .ptr _ => false | .clo _ _ => false | .mp _ _ => false | .fnv => false

theorem TyFacts.cellsOf {E:Env} {t:Nat} {T:Ty} (h:TyFacts E t T):E.P.cellsOf t = T.cells:=by
  obtain ⟨i,hi,hsz,_⟩:=h.info
  simp [Program.cellsOf,hi,hsz]
theorem add_zero (a:Addr):a.add 0 = a:=by simp [Addr.add]
theorem add_none (g o k:Nat):(⟨g,o,none⟩:Addr).add k = ⟨g,o + k,none⟩:=by
  unfold Addr.add
  split
  · rename_i h
    have:k = 0:=by simpa using h
    subst this
    rfl
  · rfl
theorem tyIs_spec {ty:Nat → Option Ty} {t:Nat} {T:Ty} (h:tyIs ty t T = true):ty t = some T:=by
  unfold tyIs at h
  split at h
  · rename_i U hU
    rw [hU,Ty.eq_spec h]
  · cases h
theorem choose_list {α:Type} {p:Nat → α → Prop}:∀ n:Nat,(∀ i,i < n → ∃ a,p i a) → ∃ l:List α,l.length = n ∧ ∀ i y,l[i]? = some y → p i y:=by
  intro n
  induction n with
  | zero => intro _; exact ⟨[],rfl,fun i y h => by simp at h⟩
  | succ n ih =>
    intro h
    obtain ⟨l,hl,hp⟩:=ih fun i hi => h i (by omega)
    obtain ⟨a,ha⟩:=h n (by omega)
    refine ⟨l ++ [a],by simp [hl],fun i y hy => ?_⟩
    by_cases hi:i < n
    · rw [List.getElem?_append_left (by omega)] at hy
      exact hp i y hy
    · rw [List.getElem?_append_right (by omega),hl] at hy
      by_cases e:i = n
      · subst e
        simp at hy
        subst hy
        exact ha
      · rw [List.getElem?_eq_none (by simp; omega)] at hy
        cases hy
section
variable {H:Type} {enc:TypeId × Value → H} {E:Env} {w:World} {M:Mem}
theorem rowOf_rep {V:Ty} {cs:List Value}:∀ (n i:Nat),(∀ k,k < n + 1 → ∃ y,RepC V y w M ((cs.drop ((i + k) * V.cells)).take V.cells)) →
    ∃ y:(rowOf V (n + 1)).den,RepC (rowOf V (n + 1)) y w M ((cs.drop (i * V.cells)).take ((n + 1) * V.cells)):=by
  intro n
  induction n with
  | zero =>
    intro i h
    obtain ⟨y,hy⟩:=h 0 (by omega)
    exact ⟨y,by simpa [rowOf] using hy⟩
  | succ n ih =>
    intro i h
    obtain ⟨y,hy⟩:=h 0 (by omega)
    obtain ⟨z,hz⟩:=ih (i + 1) fun k hk => by
      have:=h (k + 1) (by omega)
      rwa [show i + (k + 1) = i + 1 + k by omega] at this
    refine ⟨(y,z),_,_,?_,hy,hz⟩
    rw [show (n + 1 + 1) * V.cells = V.cells + (n + 1) * V.cells by rw [Nat.add_mul (n + 1) 1,Nat.one_mul,Nat.add_comm],List.take_add,List.drop_drop]
    rw [show (i + 1) * V.cells = i * V.cells + V.cells by rw [Nat.add_mul,Nat.one_mul]]
    rfl
theorem rowOf_plain {V:Ty}:∀ n:Nat,plainT (rowOf V (n + 1)) = true → plainT V = true:=by
  intro n
  cases n with
  | zero => intro h; exact h
  | succ n =>
    intro h
    have h:(plainT V && plainT (rowOf V (n + 1))) = true:=h
    rw [Bool.and_eq_true] at h
    exact h.1
theorem fields_rep {cs:List Value} {rd:Nat → List Value → Prop} (hrd:∀ t T c,E.ty t = some T → plainT T = true → rd t c → ∃ y,RepC T y w M c) (hE:EnvOK E) :
    ∀ (fs:List Field) (R:Ty) (off:Nat),fieldsOK E.ty fs R off = true → plainT R = true → (∀ f,f ∈ fs → rd f.type ((cs.drop f.offset).take (E.P.cellsOf f.type))) →
      ∃ y:R.den,RepC R y w M ((cs.drop off).take R.cells):=by
  intro fs
  induction fs with
  | nil => intro R off h; cases h
  | cons f fs ih =>
    intro R off h hp hf
    cases fs with
    | nil =>
      simp only [fieldsOK,Bool.and_eq_true] at h
      have ht:=tyIs_spec h.1.1.1.2
      have hc:=(hE.facts ht).cellsOf
      have ho:=Nat.eq_of_beq_eq_true h.1.1.1.1
      have:=hf f (List.mem_cons_self ..)
      rw [hc,ho] at this
      exact hrd _ _ _ ht hp this
    | cons g fs =>
      cases R with
      | pair a b =>
        simp only [fieldsOK,Bool.and_eq_true] at h
        have ht:=tyIs_spec h.1.1.1.1.2
        have hc:=(hE.facts ht).cellsOf
        have ho:=Nat.eq_of_beq_eq_true h.1.1.1.1.1
        simp only [plainT,Bool.and_eq_true] at hp
        have h0:=hf f (List.mem_cons_self ..)
        rw [hc,ho] at h0
        obtain ⟨y,hy⟩:=hrd _ _ _ ht hp.1 h0
        obtain ⟨z,hz⟩:=ih b (off + a.cells) h.2 hp.2 fun f' hf' => hf f' (List.mem_cons_of_mem _ hf')
        refine ⟨(y,z),_,_,?_,hy,hz⟩
        show (cs.drop off).take (a.cells + b.cells) = _
        rw [List.take_add,List.drop_drop]
      | _ => simp [fieldsOK] at h

theorem trod_rep (hE:EnvOK E) (hM:∀ g,g < w.heap.size → M.S g):∀ (n t:Nat) (T:Ty) (cs:List Value) (x:DataW H × List MemPlace),E.ty t = some T → plainT T = true →
    DataW.trod enc E.P w 0 (fun _ => true) true n t cs = some x → ∃ y:T.den,RepC T y w M cs:=by
  intro n
  induction n with
  | zero => intro t T cs x _ _ h; simp [DataW.trod] at h
  | succ n ih =>
    intro t T cs x ht hp h
    have hF:=hE.facts ht
    obtain ⟨d,hd,hs⟩:=hF.und
    cases T with
    | int l =>
      cases d <;> simp only [shapeOK,Bool.false_eq_true] at hs
      have:=kindEq_spec hs
      subst this
      obtain ⟨m,rfl,_,hw⟩:=DataW.trod_int hd h
      simp only [Lit.wf,Bool.and_eq_true,decide_eq_true_eq] at hw
      exact ⟨m,rfl,hw.1,hw.2⟩
    | bool =>
      cases d <;> simp only [shapeOK,Bool.false_eq_true] at hs
      obtain ⟨b,rfl,_⟩:=DataW.trod_bool hd h
      exact ⟨b,rfl⟩
    | str =>
      cases d <;> simp only [shapeOK,Bool.false_eq_true] at hs
      obtain ⟨s,rfl,_,hw⟩:=DataW.trod_string hd h
      refine ⟨s.data.toList,?_,?_⟩
      · rfl
      · have:s.data.toList.length ≤ maxLen:=by simpa using hw
        simpa [maxLen] using this
    | sl U =>
      cases d <;> simp only [shapeOK,Bool.false_eq_true] at hs
      rename_i e
      simp only [Bool.and_eq_true] at hs
      have hte:=tyIs_spec hs.1.1
      have hce:=(hE.facts hte).cellsOf
      have hpos:1 ≤ U.cells:=Nat.le_of_ble_eq_true hs.2
      rcases DataW.trod_slice hd h with ⟨rfl,_⟩ | ⟨a,len,cap,elems,rest,m,hm,rfl,_,_,hl,hcap,hlen,hel,_⟩
      · exact ⟨[],none,0,rfl,Nat.le_refl _,by decide,Or.inl rfl⟩
      · injection hm with hm
        subst hm
        obtain ⟨ys,hys,hrep⟩:=choose_list (p:=fun i y => ∃ cs',cs'.length = U.cells ∧ w.cells? 0 (a.add (i * U.cells)) U.cells = some cs' ∧ RepC U y w M cs') len (fun i hi => by
          have hi':=hel i hi
          rw [List.getElem?_eq_getElem (by omega)] at hi'
          obtain ⟨cs',h1,h2⟩:=Option.bind_eq_some_iff.1 hi'
          rw [hce] at h1
          obtain ⟨y,hy⟩:=ih e U cs' _ hte hp h2
          exact ⟨y,cs',(World.cells?_some h1).2.1,h1,hy⟩)
        have hcap':cap ≤ 9223372036854775807:=by simpa [maxLen] using hcap
        cases ys with
        | nil => exact ⟨[],some a,cap,by simp at hys; simp [hys],by simp,hcap',Or.inl rfl⟩
        | cons y0 ys =>
          obtain ⟨c0,hc0,hw0,_⟩:=hrep 0 y0 rfl
          have hcell:=(World.cells?_some hw0).2.2 0 (by omega)
          rw [Nat.zero_mul,add_zero,add_zero] at hcell
          obtain ⟨v0,hv0⟩:∃ v,c0[0]? = some v:=⟨_,List.getElem?_eq_getElem (by omega)⟩
          rw [hv0] at hcell
          obtain ⟨g,o,sp⟩:=a
          have hblk:g < w.heap.size ∧ sp = none:=by
            simp only [World.cell?] at hcell
            split at hcell
            · rename_i c _ _ hh
              refine ⟨(Array.getElem?_eq_some_iff.1 hh).1,?_⟩
              cases sp with
              | none => rfl
              | some _ => simp at hcell
            · cases hcell
          obtain ⟨hg,rfl⟩:=hblk
          refine ⟨y0 :: ys,some ⟨g,o,none⟩,cap,by rw [hys],by rw [hys]; exact hl,hcap',Or.inr ⟨g,o,rfl,hM g hg,fun i y hy => ?_⟩⟩
          obtain ⟨cs',h1,h2,h3⟩:=hrep i y hy
          refine ⟨cs',h1,fun j v hj => ?_,h3⟩
          have hjl:j < U.cells:=by rw [← h1]; exact (List.getElem?_eq_some_iff.1 hj).1
          have:=(World.cells?_some h2).2.2 j hjl
          rw [hj] at this
          rw [add_none,add_none,Nat.add_assoc] at this
          rw [← Nat.add_assoc] at this
          exact this
    | st R =>
      cases d <;> simp only [shapeOK,Bool.false_eq_true] at hs
      case struct fs =>
        obtain ⟨xs,m,hm,_,hlen,hxs,hf⟩:=DataW.trod_struct hd h
        injection hm with hm
        subst hm
        obtain ⟨y,hy⟩:=fields_rep (cs:=cs) (M:=M) (w:=w) (rd:=fun t c => ∃ x,DataW.trod enc E.P w 0 (fun _ => true) true n t c = some x) (fun t T c h1 h2 ⟨x,h3⟩ => ih t T c x h1 h2 h3) hE fs.toList R 0 hs hp (fun f hf' => by
          obtain ⟨i,hi⟩:=List.getElem?_of_mem hf'
          have h1:=hf i f (by simpa using hi)
          have hil:i < fs.size:=by simpa using (List.getElem?_eq_some_iff.1 hi).1
          rw [List.getElem?_eq_getElem (by omega)] at h1
          exact ⟨_,h1⟩)
        refine ⟨y,?_⟩
        have hcl:cs.length = R.cells:=by rw [hlen,hF.cellsOf]; rfl
        rw [List.drop_zero,← hcl,List.take_length] at hy
        exact hy
      case array k e =>
        split at hs
        · rename_i V hV
          simp only [Bool.and_eq_true] at hs
          have hR:=Ty.eq_spec hs.1.1.1
          have hk:2 ≤ k:=Nat.le_of_ble_eq_true hs.2
          obtain ⟨k,rfl⟩:∃ j,k = j + 1:=⟨k - 1,by omega⟩
          subst hR
          obtain ⟨xs,m,hm,_,hlen,hxs,hf⟩:=DataW.trod_array hd h
          injection hm with hm
          subst hm
          have hce:=(hE.facts hV).cellsOf
          obtain ⟨y,hy⟩:=rowOf_rep (V:=V) (cs:=cs) (w:=w) (M:=M) k 0 (fun i hi => by
            have h1:=hf i hi
            rw [List.getElem?_eq_getElem (by omega),hce] at h1
            rw [Nat.zero_add]
            exact ih e V _ _ hV (rowOf_plain k hp) h1)
          refine ⟨y,?_⟩
          have hcl:cs.length = (k + 1) * V.cells:=by rw [hlen,hF.cellsOf]; exact rowOf_cells V (k + 1)
          rw [Nat.zero_mul,List.drop_zero,← hcl,List.take_length] at hy
          exact hy
        · cases hs
    | pair a b => simp [shapeOK] at hs
    | _ => simp [plainT] at hp

theorem plain_owns:∀ T:Ty,plainT T = true → owns T = 0:=by
  intro T
  induction T with
  | pair a b iha ihb => intro h; simp only [plainT,Bool.and_eq_true] at h; simp [owns,iha h.1,ihb h.2]
  | st t ih => intro h; exact ih h
  | sl t ih => intro h; exact ih h
  | int k => intro _; rfl
  | bool => intro _; rfl
  | str => intro _; rfl
  | _ => intro h; simp [plainT] at h

theorem repV_of {b0:Nat} {t:Nat} {T:Ty} {v:Value} {y:T.den} (hE:EnvOK E) (ht:E.ty t = some T) (hp:plainT T = true) (hv:Value.okWide E.P w .any b0 t v) (h:RepC T y w M v.cells.toList):RepV T y w M v:=by
  obtain ⟨d,hd,hs⟩:=(hE.facts ht).und
  have one:(∀ cs,v ≠ .agg cs) → v.cells.toList = [v]:=by
    intro hn
    cases v <;> first | rfl | exact absurd rfl (hn _)
  cases T with
  | int l =>
    cases d <;> simp only [shapeOK,Bool.false_eq_true] at hs
    obtain ⟨n,rfl⟩:=okWide_int hd hv
    exact h
  | bool =>
    cases d <;> simp only [shapeOK,Bool.false_eq_true] at hs
    obtain ⟨n,rfl⟩:=okWide_bool hd hv
    exact h
  | str =>
    cases d <;> simp only [shapeOK,Bool.false_eq_true] at hs
    have:v.cells.toList = [v]:=one fun cs e => by
      subst e
      simp [Value.okWide,hd,Cell.okWide,Cell.ok] at hv
    rw [this] at h
    exact h
  | sl U =>
    cases d <;> simp only [shapeOK,Bool.false_eq_true] at hs
    obtain ⟨a,len,cap,rfl⟩:=okWide_slice hd hv
    exact h
  | st R =>
    have:∃ cs,v = .agg cs:=by
      cases d <;> simp only [shapeOK,Bool.false_eq_true] at hs
      · simp only [Value.okWide,hd] at hv
        obtain ⟨cs,e,_⟩:=hv
        exact ⟨cs,e⟩
      · simp only [Value.okWide,hd] at hv
        obtain ⟨cs,e,_⟩:=hv
        exact ⟨cs,e⟩
    obtain ⟨cs,rfl⟩:=this
    exact ⟨cs.toList,by simp,h⟩
  | pair a b => simp [shapeOK] at hs
  | _ => simp [plainT] at hp

theorem args_rep {b0:Nat} (hE:EnvOK E) (hM:∀ g,g < w.heap.size → M.S g):∀ (ts:List Nat) (Ts:List Ty) (vs:List Value) (ds:List (DataW H)) (ps:List MemPlace),
    ts.map E.ty = Ts.map some → Ts.all plainT = true → DataW.TrodAll enc E.P w 0 (fun _ => true) true ts vs ds ps →
    (∀ (j:Nat) t v,ts[j]? = some t → vs[j]? = some v → Value.okWide E.P w .any b0 t v) → ∃ xs:List (Sigma Ty.den),xs.map (·.1) = Ts ∧ RepAs w M xs vs ∧ ds.length = ts.length:=by
  intro ts
  induction ts with
  | nil =>
    intro Ts vs ds ps h1 _ h3 _
    obtain ⟨rfl,rfl,rfl⟩:=trodAll_nil h3
    cases Ts with
    | nil => exact ⟨[],rfl,rfl,rfl⟩
    | cons T Ts => simp at h1
  | cons t ts ih =>
    intro Ts vs ds ps h1 h2 h3 h4
    obtain ⟨v,vs,d,ds,p,q,rfl,rfl,rfl,hd,hr⟩:=trodAll_cons h3
    cases Ts with
    | nil => simp at h1
    | cons T Ts =>
      simp only [List.map_cons,List.cons.injEq] at h1
      simp only [List.all_cons,Bool.and_eq_true] at h2
      obtain ⟨xs,e1,e2,e3⟩:=ih Ts vs ds q h1.2 h2.2 hr fun j t' v' a b => h4 (j + 1) t' v' a b
      obtain ⟨n,hn⟩:=hd
      obtain ⟨y,hy⟩:=trod_rep hE hM n t T _ _ h1.1 h2.1 hn
      exact ⟨⟨T,y⟩ :: xs,by rw [List.map_cons,e1],⟨v,vs,rfl,plain_owns T h2.1,repV_of hE h1.1 h2.1 (h4 0 t v rfl rfl) hy,e2⟩,by simp [e3]⟩

theorem trodAll_below {P:Program} (hl:laidOutB P = true) {w w':World} (hb:Below w.heap.size w w'):∀ (ts:List Nat) (vs:List Value) (ds:List (DataW H)) (ps:List MemPlace),
    (∀ t,t ∈ ts → P.readableRec t = true ∧ t < P.types.size) → DataW.TrodAll enc P w 0 (fun _ => true) true ts vs ds ps → (∀ x ∈ ps,x.block < w.heap.size) →
    DataW.TrodAll enc P w' 0 (fun b => decide (b < w.heap.size)) true ts vs ds ps:=by
  intro ts
  induction ts with
  | nil =>
    intro vs ds ps _ h _
    obtain ⟨rfl,rfl,rfl⟩:=trodAll_nil h
    rfl
  | cons t ts ih =>
    intro vs ds ps hr h hlt
    obtain ⟨v,vs,d,ds,p,q,rfl,rfl,rfl,hd,hq⟩:=trodAll_cons h
    have ht:=hr t (List.mem_cons_self ..)
    exact ⟨p,q,Below.trod hl ht.1 ht.2 hd hb (fun x hx => hlt x (List.mem_append.mpr (Or.inl hx))),ih vs ds q (fun t' h' => hr t' (List.mem_cons_of_mem _ h')) hq (fun x hx => hlt x (List.mem_append.mpr (Or.inr hx))),rfl⟩

theorem law_calls (hE:EnvOK E) {f:Nat} {fn:Func} {s:ChangeSpec} {apart fresh handsOn:Bool} {Ts:List Ty} {tb b0:Nat} (hl:laidOutB E.P = true) (hread:∀ t,t ∈ fn.params.toList → E.P.readableRec t = true ∧ t < E.P.types.size)
    (hts:fn.params.toList.map E.ty = Ts.map some) (hpl:Ts.all plainT = true) (hres:fn.resultTypes = #[tb]) (htb:E.P.underlying tb = some .bool) (hvars:s.vars = [])
    (hfn:∀ (ds:List (DataW H)),ds.length = fn.params.toList.length → s.fn H ds = { results:=[.lit (.bool true)],args:=ds })
    (hPC:∀ xs:List (Sigma Ty.den),xs.map (·.1) = Ts → PC E f xs .bool true)
    {W:World} (hT:Tabs W fun g => g < W.heap.size) {args:Array Value} {ds gs:List (DataW H)} {before:List MemPlace}
    (hval:∀ (j:Nat) t v,fn.params[j]? = some t → args[j]? = some v → Value.okWide E.P W .any b0 t v)
    (hW:DataW.Whole enc E.P fn.params.toList s.vars apart W args.toList ds gs before) :
    Calls E.P f args W fun e W' => ∃ v,e = .returned v ∧ s.post enc E.P fn apart fresh handsOn false W args v W':=by
  have hW':=hW
  obtain ⟨p,q,hA,hV,rfl,hfz,hnd⟩:=hW
  rw [hvars] at hV
  obtain ⟨rfl,rfl⟩:=trodVars_none hV
  obtain ⟨xs,e1,e2,e3⟩:=args_rep (M:=⟨fun g => g < W.heap.size,fun g => W.heap.size ≤ g⟩) (b0:=b0) hE (fun g h => h) _ Ts _ _ _ hts hpl hA (fun j t v h1 h2 => hval j t v (by simpa using h1) (by simpa using h2))
  have hc:=hPC xs e1 W (fun g => g < W.heap.size) args.toList (fun b h => h) hT e2
  rw [Array.toArray_toList] at hc
  refine hc.mono fun e W' ⟨v,he,hp⟩ => ?_
  obtain ⟨⟨hb,_⟩,S',_,_,_,hr⟩:=hp
  have hv:v = .bool true:=by
    simp only [RepR,RepV,RepC,List.cons.injEq,and_true] at hr
    exact hr
  subst hv
  refine ⟨_,he,ds,[],p ++ [],[],p,[],hW',?_,?_,?_,hb.frame _,fun h => by cases h⟩
  · rw [List.append_nil,hfn ds e3,hres]
    exact trodAll_mk1 ⟨1,by simp [DataW.trod,htb,Value.cells]⟩
  · rw [List.append_nil,hfn ds e3]
    exact trodAll_below hl hb _ _ _ _ hread hA fun x hx => by simpa using hW'.lt x (by simpa using hx)
  · rw [hvars,List.append_nil,hfn ds e3]
    rfl
end
end Go.Proofs.Ytefpgfdemmllpaa
