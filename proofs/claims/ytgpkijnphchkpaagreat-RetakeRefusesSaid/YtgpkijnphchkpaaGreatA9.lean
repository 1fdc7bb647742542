/-
  Ranges over functions: the loop's record, a round's contract, the call of yield, the statement. Nothing here is trusted; no condition.
-/
import Derived.Test.YtgpkijnphchkpaaGreatA8
import Derived.ProofKit
import Derived.OpenShut
import Derived.Deep.Slices
set_option linter.unusedSimpArgs false
set_option linter.unusedVariables false
namespace Go.Proofs.YtgpkijnphchkpaaGreat
abbrev PwT:=Nat→List WI→St→Prop
abbrev PoT:=Nat→List Oper→List Nat→List (List Nat)→List Oper→List WI→St→Prop
abbrev PqT:=Nat→Out→Option Nat→List Oper→List Nat→List (List Nat)→List Oper→List WI→St→Prop
structure Pack(E:Env)(G:Goal)where
 W:PwT
 O:PoT
 Q:PqT
 hW:W=pw E G
 hO:O=po E G
 hQ:Q=pq E G
theorem Tg(E:Env)(G:Goal):Nonempty (Pack E G):=⟨⟨_,_,_,rfl,rfl,rfl⟩⟩
noncomputable def PW(E:Env)(G:Goal):PwT:=(Classical.choice (Tg E G)).W
noncomputable def PO(E:Env)(G:Goal):PoT:=(Classical.choice (Tg E G)).O
noncomputable def PQ(E:Env)(G:Goal):PqT:=(Classical.choice (Tg E G)).Q
theorem Oj(E:Env)(G:Goal):PW E G=pw E G:=(Classical.choice (Tg E G)).hW
theorem Pu(E:Env)(G:Goal):PO E G=po E G:=(Classical.choice (Tg E G)).hO
theorem O5(E:Env)(G:Goal):PQ E G=pq E G:=(Classical.choice (Tg E G)).hQ
def PB(E:Env)(G:Goal)(n:Nat)(v:PV)(a b:Code)(k:List WI)(s:St):Prop:=match v with|.iv .bool c=>(c=true→PW E G n (.code a::k) s)∧(c=false→PW E G n (.code b::k) s)|_=>O3 1001
def PK(E:Env)(G:Goal)(n:Nat)(v:PV)(d:Nat)(want:Bool)(o:Oper)(all:List Oper)(N:List Nat)(acc:List (List Nat))(os:List Oper)(k:List WI)(s:St):Prop:=match v with|.iv .bool b=>(b=want→PQ E G n (LM E (N1 all N acc o) (s.set d (.iv .bool want)) o) o.dst all N (M6 N acc o) os k (s.set d (.iv .bool want)))∧(b= !want→PO E G n all N (M6 N acc o) os k ((s.set d (.iv .bool (!want))).put o.dst (.Mj [])))|.Mj []=>PO E G n all N (M6 N acc o) os k (s.put o.dst (.Mj []))|_=>O3 1004
def PH(E:Env)(G:Goal)(n:Nat)(g:Option Nat)(want:Bool)(o:Oper)(all:List Oper)(N:List Nat)(acc:List (List Nat))(os:List Oper)(k:List WI)(s:St):Prop:=match g with|some d=>PK E G n (s.get d) d want o all N acc os k s|none=>O3 1005
def PX(E:Env)(G:Goal)(n:Nat)(k:Option (List WI))(s:St):Prop:=match k with|some k=>PW E G n k s|none=>O3 1002
section
variable {E:Env} {G:Goal} {n:Nat} {d:Option Nat} {all:List Oper} {N:List Nat} {acc:List (List Nat)} {os:List Oper} {k:List WI} {s:St}
theorem aU3 {p:Prop} {o:Out} :PQ E G (n+1) (.MU p o) d all N acc os k s=(p∧PQ E G n o d all N acc os k s):=by simp only[O5,pq]
theorem bz2 {T:Ty} {p:T.den→Prop} {f:T.den→Out} :PQ E G (n+1) (.UJ T p f) d all N acc os k s= ∃x:T.den,p x∧PQ E G n (f x) d all N acc os k s:=by simp only[O5,pq]
theorem aU4 {f:Nat} {xs:List (Sigma Ty.den)} {T:Ty} {g:T.den→Out} :PQ E G (n+1) (.call f xs T g) d all N acc os k s= ∃r:T.den,PC E f xs T r∧(T.ok r→PQ E G n (g r) d all N acc os k s):=by
 simp only[O5,pq]
theorem aC8 {f:Nat} {xs:List (Sigma Ty.den)} {T:Ty} {g:T.den→Out} :PQ E G (n+1) (.Q3 f xs T g) d all N acc os k s= ∃Y:T.den→Prop,PN E f xs T Y∧ ∀r,Y r→T.ok r→PQ E G n (g r) d all N acc os k s:=by
 simp only[O5,pq]
theorem bz3 {v:PV} :PQ E G (n+1) (.val v) d all N acc os k s=PO E G n all N acc os k (s.put d v):=by simp only[O5,Pu,pq]
theorem bz4 {v:PV} {b:L9} {d:Nat} :PQ E G (n+1) (.new v b) (some d) all N acc os k s=PO E G n all N acc os k ⟨(d,v)::s.sl,(d,b)::s.bl⟩:=by simp only[O5,Pu,pq]
theorem aC9 {i:Nat} {b:L9} :PQ E G (n+1) (.store i b) d all N acc os k s=PO E G n all N acc os k ⟨s.sl,(i,b)::s.bl⟩:=by simp only[O5,Pu,pq]
theorem au2 {i j:Nat} {b:L9} {d:Nat} :PQ E G (n+1) (.append i j b) (some d) all N acc os k s=PO E G n all N acc os k ⟨(d,.LV j)::(s.kill [i]).sl,(j,b)::Ng [i] (s.kill [i]).bl⟩:=by
 simp only[O5,Pu,pq]
theorem au3 {ks:List Nat} {v:PV} :PQ E G (n+1) (.NH ks v) d all N acc os k s=PO E G n all N acc os k ((s.Mb ks).put d v):=by simp only[O5,Pu,pq]
theorem bz5 {i:Nat} {b:L9} {v:PV} {d:Nat} :PQ E G (n+1) (.Tr i b v) (some d) all N acc os k s=PO E G n all N acc os k ⟨(d,v)::s.sl,(i,b)::s.bl⟩:=by simp only[O5,Pu,pq]
theorem bz6 {p:Prop} {o:Out} :PQ E G (n+1) (.imp p o) d all N acc os k s=(p→PQ E G n o d all N acc os k s):=by simp only[O5,pq]
theorem aU5 {a b:Out} :PQ E G (n+1) (.both a b) d all N acc os k s=(PQ E G n a d all N acc os k s∧PQ E G n b d all N acc os k s):=by simp only[O5,pq]
theorem aU6 {T:Ty} {p:T.den→Prop} {f:T.den→Out} :PQ E G (n+1) (.So T p f) d all N acc os k s= ∀x:T.den,p x→PQ E G n (f x) d all N acc os k s:=by simp only[O5,pq]
theorem aU7 {p:Nat→Prop} {f:Nat→Out} :PQ E G (n+1) (.TL p f) d all N acc os k s= ∀x:Nat,p x→PQ E G n (f x) d all N acc os k s:=by simp only[O5,pq]
def HQ(E:Env)(G:Goal)(n:Nat)(f:Nat)(args:List PV)(bl:List (Nat×L9))(ids:List Nat)(fl:Bool)(used:List Nat)(d' d:Option Nat)(all:List Oper)(N:List Nat)(acc:List (List Nat))(os:List Oper)(k:List WI)(s:St):Prop:= ∃p bl',HC E f args bl p bl'∧Wz bl bl' fl used d' p=true∧(okP p→TR bl'→PO E G n all N acc os k (s.Nf d ids p bl'))
def HNQ(E:Env)(G:Goal)(n:Nat)(f:Nat)(args:List PV)(bl:List (Nat×L9))(ids:List Nat)(fl:Bool)(used:List Nat)(d' d:Option Nat)(all:List Oper)(N:List Nat)(acc:List (List Nat))(os:List Oper)(k:List WI)(s:St):Prop:= ∃(T:Ty)(Y:T.den→Prop)(p:T.den→PV)(bl':T.den→List (Nat×L9)),HN E f args bl T Y p bl'∧ ∀r,Y r→Wz bl (bl' r) fl used d' (p r)=true∧(okP (p r)→TR (bl' r)→PO E G n all N acc os k (s.Nf d ids (p r) (bl' r)))
theorem au4 {f:Nat} {args:List PV} {bl:List (Nat×L9)} {ids:List Nat} {fl:Bool} {used:List Nat} {d':Option Nat} :PQ E G (n+1) (.Pc f args bl ids fl used d') d all N acc os k s=HNQ E G n f args bl ids fl used d' d all N acc os k s:=by
 simp only[O5,Pu,pq,HNQ]
theorem b08 {f:Nat} {args:List PV} {bl:List (Nat×L9)} {T:Ty} {Y:T.den→Prop} {p:T.den→PV} {bl':T.den→List (Nat×L9)} :HN E.go f args bl T Y p bl'=HN E f args bl T Y p bl':=rfl
theorem aD0 {f:Nat} {args:List PV} {bl:List (Nat×L9)} {ids:List Nat} {fl:Bool} {used:List Nat} {d':Option Nat} :PQ E G (n+1) (.Q4 f args bl ids fl used d') d all N acc os k s=HQ E G n f args bl ids fl used d' d all N acc os k s:=by
 simp only[O5,Pu,pq,HQ]
theorem bz7:PO E G (n+1) all N acc [] k s=PW E G n k s:=by simp only[Pu,Oj,po]
def PJ(E:Env)(G:Goal)(n:Nat)(cp:Bool)(o:Oper)(all:List Oper)(N:List Nat)(acc:List (List Nat))(os:List Oper)(k:List WI)(s:St):Prop:=match cp with|false=>PQ E G n (LM E (N1 all N acc o) s o) o.dst all N (M6 N acc o) os k s|true=>PQ E G n (LM E (N1 all N acc o) s o) o.dst all N (M6 N acc o) os k s∨QS E G s o
theorem aU8 {f n':Nat} {rv:List ResultVar} {p:PV} {bl:List (Nat×L9)} {mo:Option ((T:Ty)×(T.den→Prop)×(T.den→PV)×(T.den→List (Nat×L9)))} {rn:Fr} {dst:Option Tmp} {op:Op} {ty:TypeId} {pos:String} {af:Array Edge} :PO E ⟨f,n',rv,p,bl,mo,false,rn⟩ (n+1) all N acc (⟨dst,op,ty,pos,af,none⟩::os) k s=PQ E ⟨f,n',rv,p,bl,mo,false,rn⟩ n (LM E (N1 all N acc ⟨dst,op,ty,pos,af,none⟩) s ⟨dst,op,ty,pos,af,none⟩) dst all N (M6 N acc ⟨dst,op,ty,pos,af,none⟩) os k s:=by
 simp only[Pu,O5,po,NZ]
theorem aD1 {f n':Nat} {rv:List ResultVar} {p:PV} {bl:List (Nat×L9)} {mo:Option ((T:Ty)×(T.den→Prop)×(T.den→PV)×(T.den→List (Nat×L9)))} {rn:Fr} {dst:Option Tmp} {op:Op} {ty:TypeId} {pos:String} {af:Array Edge} :PO E ⟨f,n',rv,p,bl,mo,true,rn⟩ (n+1) all N acc (⟨dst,op,ty,pos,af,none⟩::os) k s=PJ E ⟨f,n',rv,p,bl,mo,true,rn⟩ n (NZ E ⟨f,n',rv,p,bl,mo,true,rn⟩ N s ⟨dst,op,ty,pos,af,none⟩) ⟨dst,op,ty,pos,af,none⟩ all N acc os k s:=by
 simp only[Pu,po];unfold PJ;rw[O5];rfl
theorem cd0 {o:Oper} :PJ E G n false o all N acc os k s=PQ E G n (LM E (N1 all N acc o) s o) o.dst all N (M6 N acc o) os k s:=rfl
theorem cd1 {o:Oper} :PJ E G n true o all N acc os k s=(PQ E G n (LM E (N1 all N acc o) s o) o.dst all N (M6 N acc o) os k s∨QS E G s o):=rfl
theorem au5 {ks:List Nat} {i:Nat} {b:L9} :PQ E G (n+1) (.Om ks i b) d all N acc os k s=PO E G n all N acc os k ⟨(s.Mb ks).sl,(i,b)::(s.Mb ks).bl⟩:=by simp only[O5,Pu,pq]
theorem aU9 {dst:Option Tmp} {op:Op} {ty:TypeId} {pos:String} {af:Array Edge} {j:Nat} {want:Bool} :PO E G (n+1) all N acc (⟨dst,op,ty,pos,af,some (j,want)⟩::os) k s=PH E G n (MG all j) want ⟨dst,op,ty,pos,af,some (j,want)⟩ all N acc os k s:=by
 simp only[Pu,po];unfold PH;cases MG all j with|none=>rfl|some d=>simp only[PK,Pu,O5];rfl
theorem aV0 {d:Nat} {want:Bool} {o:Oper} :PH E G n (some d) want o all N acc os k s=PK E G n (s.get d) d want o all N acc os k s:=rfl
theorem b09 {d:Nat} {o:Oper} :PK E G n (.iv .bool true) d true o all N acc os k s=PQ E G n (LM E (N1 all N acc o) (s.set d (.iv .bool true)) o) o.dst all N (M6 N acc o) os k (s.set d (.iv .bool true)):=by
 simp[PK]
theorem b10 {d:Nat} {o:Oper} :PK E G n (.iv .bool false) d false o all N acc os k s=PQ E G n (LM E (N1 all N acc o) (s.set d (.iv .bool false)) o) o.dst all N (M6 N acc o) os k (s.set d (.iv .bool false)):=by
 simp[PK]
theorem b11 {d:Nat} {o:Oper} :PK E G n (.iv .bool true) d false o all N acc os k s=PO E G n all N (M6 N acc o) os k ((s.set d (.iv .bool true)).put o.dst (.Mj [])):=by simp[PK]
theorem b12 {d:Nat} {o:Oper} :PK E G n (.iv .bool false) d true o all N acc os k s=PO E G n all N (M6 N acc o) os k ((s.set d (.iv .bool false)).put o.dst (.Mj [])):=by simp[PK]
theorem aD2 {d:Nat} {want:Bool} {o:Oper} :PK E G n (.Mj []) d want o all N acc os k s=PO E G n all N (M6 N acc o) os k (s.put o.dst (.Mj [])):=rfl
theorem aD3 {d:Nat} {o:Oper} {p:Prop} [Decidable p]:PK E G n (.iv .bool (decide p)) d true o all N acc os k s=((p→PQ E G n (LM E (N1 all N acc o) (s.set d (.iv .bool true)) o) o.dst all N (M6 N acc o) os k (s.set d (.iv .bool true)))∧(¬p→PO E G n all N (M6 N acc o) os k ((s.set d (.iv .bool false)).put o.dst (.Mj [])))):=by
 simp[PK]
theorem aD4 {d:Nat} {o:Oper} {p:Prop} [Decidable p]:PK E G n (.iv .bool (decide p)) d false o all N acc os k s=((¬p→PQ E G n (LM E (N1 all N acc o) (s.set d (.iv .bool false)) o) o.dst all N (M6 N acc o) os k (s.set d (.iv .bool false)))∧(p→PO E G n all N (M6 N acc o) os k ((s.set d (.iv .bool true)).put o.dst (.Mj [])))):=by
 simp[PK]
theorem cd2 {a b:Code} :PB E G n (.iv .bool true) a b k s=PW E G n (.code a::k) s:=by simp[PB]
theorem cd3 {a b:Code} :PB E G n (.iv .bool false) a b k s=PW E G n (.code b::k) s:=by simp[PB]
theorem bz8 {a b:Code} {p:Prop} [Decidable p]:PB E G n (.iv .bool (decide p)) a b k s=((p→PW E G n (.code a::k) s)∧(¬p→PW E G n (.code b::k) s)):=by simp[PB]
theorem aV1 {a b:Code} {p:Prop} [Decidable p]:PB E G n (.iv .bool !(decide p)) a b k s=((p→PW E G n (.code b::k) s)∧(¬p→PW E G n (.code a::k) s)):=by simp[PB,and_comm]
theorem au6 {d:Nat} {o:Oper} {p:Prop} [Decidable p]:PK E G n (.iv .bool !(decide p)) d true o all N acc os k s=((¬p→PQ E G n (LM E (N1 all N acc o) (s.set d (.iv .bool true)) o) o.dst all N (M6 N acc o) os k (s.set d (.iv .bool true)))∧(p→PO E G n all N (M6 N acc o) os k ((s.set d (.iv .bool false)).put o.dst (.Mj [])))):=by
 simp[PK]
theorem au7 {d:Nat} {o:Oper} {p:Prop} [Decidable p]:PK E G n (.iv .bool !(decide p)) d false o all N acc os k s=((p→PQ E G n (LM E (N1 all N acc o) (s.set d (.iv .bool false)) o) o.dst all N (M6 N acc o) os k (s.set d (.iv .bool false)))∧(¬p→PO E G n all N (M6 N acc o) os k ((s.set d (.iv .bool true)).put o.dst (.Mj [])))):=by
 simp[PK]
theorem aV2 {k:List WI} :PX E G n (some k) s=PW E G n k s:=rfl
theorem bz9 {f n':Nat} {rv:List ResultVar} {p:PV} {bl:List (Nat×L9)} {mo:Option ((T:Ty)×(T.den→Prop)×(T.den→PV)×(T.den→List (Nat×L9)))} {Sh:Bool} :PW E ⟨f,n',rv,p,bl,mo,Sh,.fn⟩ (n+1) [] s=VO E ⟨f,n',rv,p,bl,mo,Sh,.fn⟩ s:=by
 simp only[Oj,pw,SM]
theorem aV3 {f n':Nat} {rv:List ResultVar} {p:PV} {bl:List (Nat×L9)} {mo:Option ((T:Ty)×(T.den→Prop)×(T.den→PV)×(T.den→List (Nat×L9)))} {Sh:Bool} {L:Nat} :PW E ⟨f,n',rv,p,bl,mo,Sh,.rnd L true⟩ (n+1) [] s=VO E ⟨f,n',rv,p,bl,mo,Sh,.rnd L true⟩ s:=by
 simp only[Oj,pw,SM]
theorem aV4 {f n':Nat} {rv:List ResultVar} {p:PV} {bl:List (Nat×L9)} {mo:Option ((T:Ty)×(T.den→Prop)×(T.den→PV)×(T.den→List (Nat×L9)))} {Sh:Bool} {L:Nat} :PW E ⟨f,n',rv,p,bl,mo,Sh,.rnd L false⟩ (n+1) (.code .ret::k) s=VO E ⟨f,n',rv,p,bl,mo,Sh,.rnd L false⟩ s:=by
 simp only[Oj,pw,SM]
theorem aV5 {f n':Nat} {rv:List ResultVar} {p:PV} {bl:List (Nat×L9)} {mo:Option ((T:Ty)×(T.den→Prop)×(T.den→PV)×(T.den→List (Nat×L9)))} {Sh:Bool} {q:Nat} :PW E ⟨f,n',rv,p,bl,mo,Sh,.aft q⟩ (n+1) (.code .ret::k) s=(Nat.ble P0 q=true∧look q s.bl=some (.gh dfO [])∧VO E ⟨f,n',rv,p,bl,mo,Sh,.aft q⟩ ⟨s.sl,(q,.gh dnO [])::s.bl⟩):=by
 simp only[Oj,pw,SM]
theorem aD5:PW E G (n+1) (.begin::k) s=u1 E G (.begin::k) s:=by simp only[Oj,pw]
theorem Zp {x:Operand} {ps:Array Tmp} {a b:Code} :PW E G (n+1) (.code (.rangeFunc x ps a b)::k) s=u1 E G (.code (.rangeFunc x ps a b)::k) s:=by simp only[Oj,pw]
theorem bA0 {i:Nat} :PW E G (n+1) (.MS i::k) s=PW E G n k s:=by simp only[Oj,pw]
theorem au8 {c:Code} :PW E G (n+1) (.loop c::k) s=u1 E G (.loop c::k) s:=by simp only[Oj,pw]
theorem aV6:PW E G (n+1) (.code .skip::k) s=PW E G n k s:=by simp only[Oj,pw]
theorem bA1 {a b:Code} :PW E G (n+1) (.code (.seq a b)::k) s=PW E G n (.code a:: .code b::k) s:=by simp only[Oj,pw]
def PS(E:Env)(G:Goal)(n:Nat)(b:Bool)(i:Nat)(ops:List Oper)(k:List WI)(s:St):Prop:=match b with|true=>u1 E G (.code (.region i ⟨ops⟩ false)::k) s|false=>PO E G n ops [] [] ops k s
theorem bA2 {i:Nat} {ops:List Oper} :PW E G (n+1) (.code (.region i ⟨ops⟩ false)::k) s=PS E G n (E.UI G.f i) i ops k s:=by simp only[Oj,pw];unfold PS;rw[Pu];cases E.UI G.f i<;>rfl
theorem cd5 {i:Nat} {ops:List Oper} :PS E G n false i ops k s=PO E G n ops [] [] ops k s:=rfl
theorem cd6 {i:Nat} {ops:List Oper} :PS E G n true i ops k s=u1 E G (.code (.region i ⟨ops⟩ false)::k) s:=rfl
def PD(E:Env)(G:Goal)(n:Nat)(l:List (List Nat))(ops:List Oper)(k:List WI)(s:St):Prop:=match l with|[]=>PO E G n ops (MM ops) [] ops k s|x::l=>match aA3 (x::l)with|some c=>PO E G n ops (MM ops) [] (ops.take c) (.rest ops (ops.drop c)::k) s|none=>R0 G ops=true∧PW E G n (.tail ops (x::l)::k) s
def PSd(E:Env)(G:Goal)(n:Nat)(b:Bool)(i:Nat)(ops:List Oper)(k:List WI)(s:St):Prop:=match b with|true=>u1 E G (.code (.region i ⟨ops⟩ true)::k) s|false=>PD E G n (E.fl G.f i) ops k s
theorem aV7 {i:Nat} {ops:List Oper} :PW E G (n+1) (.code (.region i ⟨ops⟩ true)::k) s=PSd E G n (E.UI G.f i) i ops k s:=by
 simp only[Oj,pw];unfold PSd PD;rw[Oj,Pu];cases E.UI G.f i<;>cases E.fl G.f i<;>rfl
theorem b13 {i:Nat} {ops:List Oper} :PSd E G n false i ops k s=PD E G n (E.fl G.f i) ops k s:=rfl
theorem b14 {i:Nat} {ops:List Oper} :PSd E G n true i ops k s=u1 E G (.code (.region i ⟨ops⟩ true)::k) s:=rfl
theorem bA3 {ops:List Oper} :PD E G n [] ops k s=PO E G n ops (MM ops) [] ops k s:=rfl
theorem aV8 {i:Nat} {x:List Nat} {l:List (List Nat)} {ops:List Oper} :PD E G n ((i::x)::l) ops k s=(R0 G ops=true∧PW E G n (.tail ops ((i::x)::l)::k) s):=rfl
theorem bA4 {c:Nat} {x:List Nat} {l:List (List Nat)} {ops:List Oper} :PD E G n ([]::(c::x)::l) ops k s=PO E G n ops (MM ops) [] (ops.take c) (.rest ops (ops.drop c)::k) s:=rfl
def PTh(E:Env)(G:Goal)(n:Nat)(hs:List Nat)(all:List Oper)(aj:List (List Nat))(k:List WI)(s:St):Prop:=match hs with|[]=>PW E G n k s|h::hs=>pt E G n all aj (h::hs) k s
def PTs(E:Env)(G:Goal):Nat→List Nat→List Oper→List (List Nat)→List WI→St→Prop|0,_,_,_,_,_=>O3 1000|_+1,[],_,_,_,_=>True|n+1,h::hs,all,aj,k,s=>(match Rz all h with|some o=>Qm all o s=true∧PO E G n all [] [] [o] (.tail all (OA h aj)::k) s|none=>O3 1008)∧PTs E G n hs all aj k s
theorem aD6 {all:List Oper} {aj:List (List Nat)} : ∀(n:Nat)(hs:List Nat),pt E G n all aj hs k s=PTs E G n hs all aj k s|0,_=>(by simp only[pt,PTs])|n+1,[]=>(by simp only[pt,PTs])|n+1,h::hs=>by simp only[pt,PTs,aD6 n hs,Pu];rfl
theorem aV9 {all:List Oper} {aj:List (List Nat)} :PW E G (n+1) (.tail all aj::k) s=PTh E G n (P3 aj) all aj k s:=by simp only[Oj,pw];unfold PTh;rw[Oj];cases P3 aj<;>rfl
theorem aW0 {all B:List Oper} :PW E G (n+1) (.rest all B::k) s=PO E G n all [] [] B k s:=by simp only[Oj,Pu,pw]
theorem aW1 {all:List Oper} {aj:List (List Nat)} :PTh E G n [] all aj k s=PW E G n k s:=rfl
theorem aD7 {h:Nat} {hs:List Nat} {all:List Oper} {aj:List (List Nat)} :PTh E G n (h::hs) all aj k s=PTs E G n (h::hs) all aj k s:=aD6 n (h::hs)
theorem aW2 {all:List Oper} {aj:List (List Nat)} :PTs E G (n+1) [] all aj k s=True:=rfl
def PTo(E:Env)(G:Goal)(n:Nat)(o:Option Oper)(all:List Oper)(aj:List (List Nat))(k:List WI)(s:St):Prop:=match o with|some o=>Qm all o s=true∧PO E G n all [] [] [o] (.tail all aj::k) s|none=>O3 1008
theorem aD8 {h:Nat} {hs:List Nat} {all:List Oper} {aj:List (List Nat)} :PTs E G (n+1) (h::hs) all aj k s=(PTo E G n (Rz all h) all (OA h aj) k s∧PTs E G n hs all aj k s):=rfl
theorem aD9 {o:Oper} {all:List Oper} {aj:List (List Nat)} :PTo E G n (some o) all aj k s=(Qm all o s=true∧PO E G n all [] [] [o] (.tail all aj::k) s):=rfl
theorem aW3 {x:Operand} {a b:Code} :PW E G (n+1) (.code (.cond x a b)::k) s=PB E G n (s.ev x) a b k s:=by simp only[Oj,PB,pw];rfl
theorem aE0 {i:Nat} {b:Code} :PW E G (n+1) (.code (.block i b)::k) s=PW E G n (.code b:: .MS i::k) s:=by simp only[Oj,pw]
theorem aW4 {b:Code} :PW E G (n+1) (.code (.loop b)::k) s=u1 E G (.code (.loop b)::k) s:=by simp only[Oj,pw]
theorem aW5 {i:Nat} :PW E G (n+1) (.code (.exit i)::k) s=PX E G n (Sd i k) s:=by simp only[Oj,PX,pw];rfl
theorem bA5 {f n':Nat} {rv:List ResultVar} {p:PV} {bl:List (Nat×L9)} {mo:Option ((T:Ty)×(T.den→Prop)×(T.den→PV)×(T.den→List (Nat×L9)))} {Sh:Bool} :PW E ⟨f,n',rv,p,bl,mo,Sh,.fn⟩ (n+1) (.code .ret::k) s=VO E ⟨f,n',rv,p,bl,mo,Sh,.fn⟩ s:=by
 simp only[Oj,pw,SM]
end
theorem L6.go {E:Env} (h:L6 E):L6 E.go:=⟨h.ty,h.fn,h.res,h.Nt,h.cmp,h.mapKey,h.mixed,h.XK,h.YK,h.emp,h.Q1⟩
section
variable {E:Env}
theorem b15 {t:Nat} :E.go.ty t=E.ty t:=rfl
theorem bA6 {t:Nat} :E.go.str t=E.str t:=rfl
theorem bA7 {t:Nat} :E.go.cmp t=E.cmp t:=rfl
theorem b16 {t:Nat} :E.go.fn t=E.fn t:=rfl
theorem bA8 {t:Nat} :E.go.Nt t=E.Nt t:=rfl
theorem bA9 {t:Nat} :E.go.mapKey t=E.mapKey t:=rfl
theorem b17 {d t:Nat} :E.go.ro d t=E.ro d t:=rfl
theorem b18:E.go.tm=E.tm:=rfl
theorem b19 {t:Nat} :E.go.Wj t=E.Wj t:=rfl
theorem b20 {t:Nat} :E.go.XK t=E.XK t:=rfl
theorem b21 {t:Nat} :E.go.nd t=E.nd t:=rfl
theorem aW6 {t:Nat} {m:String} :E.go.Q1 t m=E.Q1 t m:=rfl
theorem bB0 {t:Nat} :E.go.YK t=E.YK t:=rfl
theorem b22 {t:Nat} :E.go.px t=E.px t:=rfl
theorem b23 {f i:Nat} :E.go.fl f i=E.fl f i:=rfl
theorem bB1 {t:Nat} :E.go.emp t=E.emp t:=rfl
theorem bB2 {f i:Nat} :E.go.UI f i=false:=rfl
theorem b24 {f:Nat} {xs:List (Sigma Ty.den)} {T:Ty} {r:T.den} :PC E.go f xs T r=PC E f xs T r:=rfl
theorem b25 {f:Nat} {xs:List (Sigma Ty.den)} {T:Ty} {Y:T.den→Prop} :PN E.go f xs T Y=PN E f xs T Y:=rfl
theorem b26 {f:Nat} {args:List PV} {bl bl':List (Nat×L9)} {p:PV} :HC E.go f args bl p bl'=HC E f args bl p bl':=rfl
theorem b27 {f:Nat} {xs:List (Sigma Ty.den)} :XC E.go f xs=XC E f xs:=rfl
theorem b28 {f:Nat} {args:List PV} {bl bl':List (Nat×L9)} :XH E.go f args bl bl'=XH E f args bl bl':=rfl
theorem aE1 {G:Goal} {k:List WI} {s:St} :u1 E.go G k s=u1 E G k s:=rfl
end
theorem LP {E:Env} (hE:L6 E) {G:Goal} (Lo:W2 E G)(m:Nat)(todo:List WI)(s:St)(bm:VP (drE E G.f drB (RD E) U8) G.n todo=true)(h:PW E G m todo s):u1 E G todo s:=aa8 hE (Xg hE) (Yx hE) (Ys hE) m todo s bm (by rw[←Oj];exact h)
theorem Nk {E:Env} (hE:L6 E) {G:Goal} (m:Nat)(todo:List WI)(s:St)(bm:VP (drE E G.f drB (RD E) U8) G.n todo=true)(h:PW E G m todo s):u1 E G todo s:=aa8 hE (Xg hE) (Yx hE) (Ys hE) m todo s bm (by rw[←Oj];exact h)
theorem Zq {E:Env} (hE:L6 E) {G:Goal} (m:Nat)(todo:List WI)(s:St)(bm:VP (drE E.go G.f drB (RD E.go) U8) G.n todo=true)(h:PW E.go G m todo s):u1 E G todo s:=Nk (E:=E.go) hE.go m todo s bm h
theorem Yy {E:Env} (hE:L6 E) {G:Goal} (hG:W2 E G)(m:Nat)(todo:List WI)(s:St)(bm:VP (drE E.go G.f drB (RD E.go) U8) G.n todo=true)(h:PW E.go G m todo s):u1 E G todo s:=LP (E:=E.go) hE.go ⟨hG.1⟩ m todo s bm h
theorem PC.LU {E:Env} (hE:L6 E) {f n m:Nat} {fn:Func} {c:Code} {xs:List (Sigma Ty.den)} {T:Ty} {r:T.den} (Nt:E.P.funcs[f]?=some fn)(hb:fn.body=some c)(hn:fn.ntmps=n)(hlen:Nat.ble xs.length n=true)(cU:Nat.ble n 100000=true)(bm:VP (drE E f drB (RD E) U8) n [.code c]=true)(h:oks xs→PW E ⟨f,n,fn.results.toList,.iv T r,[],none,false,.fn⟩ m [.code c] ⟨Ns 0 (ivs xs),[]⟩):PC E f xs T r:=PC.NL Nt hb hn hlen cU fun hx=>LP hE (G:=⟨f,n,fn.results.toList,.iv T r,[],none,false,.fn⟩) ⟨fn,Nt,rfl⟩ m _ _ bm (h hx)
theorem PN.LU {E:Env} (hE:L6 E) {f n m:Nat} {fn:Func} {c:Code} {xs:List (Sigma Ty.den)} {T:Ty} {Y:T.den→Prop} (Nt:E.P.funcs[f]?=some fn)(hb:fn.body=some c)(hn:fn.ntmps=n)(hlen:Nat.ble xs.length n=true)(cU:Nat.ble n 100000=true)(bm:VP (drE E f drB (RD E) U8) n [.code c]=true)(h:oks xs→PW E ⟨f,n,fn.results.toList,.any,[],some ⟨T,Y,fun r=>.iv T r,fun _=>[]⟩,false,.fn⟩ m [.code c] ⟨Ns 0 (ivs xs),[]⟩):PN E f xs T Y:=PN.NL Nt hb hn hlen cU fun hx=>LP hE (G:=⟨f,n,fn.results.toList,.any,[],some ⟨T,Y,fun r=>.iv T r,fun _=>[]⟩,false,.fn⟩) ⟨fn,Nt,rfl⟩ m _ _ bm (h hx)
theorem HN.LU {E:Env} (hE:L6 E) {f n m:Nat} {fn:Func} {c:Code} {args:List PV} {bl:List (Nat×L9)} {T:Ty} {Y:T.den→Prop} {p:T.den→PV} {bl':T.den→List (Nat×L9)} (Nt:E.P.funcs[f]?=some fn)(hb:fn.body=some c)(hn:fn.ntmps=n)(hlen:Nat.ble args.length n=true)(cU:Nat.ble n 100000=true)(bm:VP (drE E f drB (RD E) U8) n [.code c]=true)(h:Za args→TR bl→PW E ⟨f,n,fn.results.toList,.any,[],some ⟨T,Y,p,bl'⟩,false,.fn⟩ m [.code c] ⟨Ns 0 args,bl⟩):HN E f args bl T Y p bl':=HN.NL Nt hb hn hlen cU fun h1 h2=>LP hE (G:=⟨f,n,fn.results.toList,.any,[],some ⟨T,Y,p,bl'⟩,false,.fn⟩) ⟨fn,Nt,rfl⟩ m _ _ bm (h h1 h2)
theorem HC.LU {E:Env} (hE:L6 E) {f n m:Nat} {fn:Func} {c:Code} {args:List PV} {bl bl':List (Nat×L9)} {p:PV} (Nt:E.P.funcs[f]?=some fn)(hb:fn.body=some c)(hn:fn.ntmps=n)(hlen:Nat.ble args.length n=true)(cU:Nat.ble n 100000=true)(bm:VP (drE E f drB (RD E) U8) n [.code c]=true)(h:Za args→TR bl→PW E ⟨f,n,fn.results.toList,p,bl',none,false,.fn⟩ m [.code c] ⟨Ns 0 args,bl⟩):HC E f args bl p bl':=HC.NL Nt hb hn hlen cU fun h1 h2=>LP hE (G:=⟨f,n,fn.results.toList,p,bl',none,false,.fn⟩) ⟨fn,Nt,rfl⟩ m _ _ bm (h h1 h2)
theorem XC.LU {E:Env} (hE:L6 E) {f n m:Nat} {fn:Func} {c:Code} {xs:List (Sigma Ty.den)} (Nt:E.P.funcs[f]?=some fn)(hb:fn.body=some c)(hn:fn.ntmps=n)(hlen:Nat.ble xs.length n=true)(cU:Nat.ble n 100000=true)(bm:VP (drE E f drB (RD E) U8) n [.code c]=true)(h:oks xs→PW E ⟨f,n,fn.results.toList,.any,[],none,true,.fn⟩ m [.code c] ⟨Ns 0 (ivs xs),[]⟩):XC E f xs:=XC.NL Nt hb hn hlen cU fun hx=>LP hE (G:=⟨f,n,fn.results.toList,.any,[],none,true,.fn⟩) ⟨fn,Nt,rfl⟩ m _ _ bm (h hx)
theorem XH.LU {E:Env} (hE:L6 E) {f n m:Nat} {fn:Func} {c:Code} {args:List PV} {bl bl':List (Nat×L9)} (Nt:E.P.funcs[f]?=some fn)(hb:fn.body=some c)(hn:fn.ntmps=n)(hlen:Nat.ble args.length n=true)(cU:Nat.ble n 100000=true)(bm:VP (drE E f drB (RD E) U8) n [.code c]=true)(h:Za args→TR bl→PW E ⟨f,n,fn.results.toList,.any,bl',none,true,.fn⟩ m [.code c] ⟨Ns 0 args,bl⟩):XH E f args bl bl':=XH.NL Nt hb hn hlen cU fun h1 h2=>LP hE (G:=⟨f,n,fn.results.toList,.any,bl',none,true,.fn⟩) ⟨fn,Nt,rfl⟩ m _ _ bm (h h1 h2)
theorem aW7(a b:Nat):Nat.beq a b=(a==b):=by cases h:Nat.beq a b with|true=>simp[Nat.eq_of_beq_eq_true h]|false=>(have:a≠b:=by rintro rfl;simp at h);simp[this]
theorem cd7(a b:Nat):Nat.ble a b=decide (a≤b):=by
 cases h:Nat.ble a b with|true=>simp[Nat.le_of_ble_eq_true h]|false=>(have: ¬a≤b:=by intro h';rw[Nat.ble_eq_true_of_le h']at h;cases h);simp[this]
theorem cd8(a b:Nat):Nat.blt a b=decide (a+1≤b):=by
 show Nat.blt a b=decide (a<b);cases h:Nat.blt a b with|true=>rw[Nat.blt_eq]at h;simp[h]|false=>(have: ¬a<b:=by intro h';rw[←Nat.blt_eq]at h';rw[h']at h;cases h);simp[this]
theorem u1.Pv {E:Env} {G:Goal} {c:Code} {k:List WI} {s:St} {X:Type} (st:X→St)(inv:X→Prop)(m:X→Nat)(x0:X)(hle:Le s (st x0))(hinv:inv x0)(h: ∀x,inv x→(∀(s:St)(y:X),Le s (st y)→inv y→m y<m x→u1 E G (.loop c::k) s)→u1 E G (.code c:: .loop c::k) (st x)):u1 E G (.code (.loop c)::k) s:=u1.weaken hle (u1.loop st inv m h x0 hinv)
end Go.Proofs.YtgpkijnphchkpaaGreat
namespace Go.Proofs.YtgpkijnphchkpaaGreat
open Go.RowKit
def Me(l:List (Nat×Nat))(i:Nat):Nat:=match look i l with|some j=>j|none=>i
def MH:List (Nat×Nat)→List (Nat×Nat)|[]=>[]|p::r=>(p.2,p.1)::MH r
def Uw(l:List (Nat×Nat)):List (Nat×Nat)→Bool|[]=>true|p::r=>Nat.beq (Me l p.1) p.2&&Nat.blt p.1 P0&&Uw l r
def ac8(l:List (Nat×Nat)):Bool:=Uw l l&&Uw (MH l) (MH l)
theorem Ux {l:List (Nat×Nat)} {i j:Nat} (h:look i l=some j):(i,j)∈l:=by
 induction l with|nil=>cases h|cons p r ih=>simp only[look]at h;cases hb:Nat.beq i p.1 with|true=>simp only[hb,cond_true,Option.some.injEq]at h;have:=Nat.eq_of_beq_eq_true hb;rw[List.mem_cons];left;obtain⟨a,b⟩:=p;simp only at h this;rw[this,h]|false=>simp only[hb,cond_false]at h;exact List.mem_cons_of_mem _ (ih h)
theorem aE2 {l:List (Nat×Nat)} {i j:Nat} (h:(i,j)∈l): ∃k,look i l=some k:=by
 induction l with|nil=>cases h|cons p r ih=>simp only[look];cases hb:Nat.beq i p.1 with|true=>exact⟨p.2,rfl⟩|false=>rcases List.mem_cons.1 h with h|h;(·subst h;simp at hb);·exact ih h
theorem Vc {i j:Nat} : ∀ {l:List (Nat×Nat)},(i,j)∈l→(j,i)∈MH l|[],h=>(by cases h)|p::r,h=>by rcases List.mem_cons.1 h with h|h;(·subst h;exact List.mem_cons_self ..);·exact List.mem_cons_of_mem _ (Vc h)
theorem swap_swap: ∀(l:List (Nat×Nat)),MH (MH l)=l|[]=>rfl|p::r=>by simp only[MH,swap_swap r]
theorem TB {l:List (Nat×Nat)} : ∀ {r:List (Nat×Nat)} {i j:Nat},Uw l r=true→(i,j)∈r→Me l i=j∧i<P0|[],i,j,_,h=>(by cases h)|p::r,i,j,hi,h=>by simp only[Uw,Bool.and_eq_true,Nat.blt_eq]at hi;rcases List.mem_cons.1 h with h|h;(·subst h;exact⟨Nat.eq_of_beq_eq_true hi.1.1,hi.1.2⟩);·exact TB hi.2 h
theorem ac9 {l:List (Nat×Nat)} (h:ac8 l=true)(h': ∀i j,(i,j)∈l→ ∃k,(j,k)∈l)(i:Nat):Me (MH l) (Me l i)=i:=by
 simp only[ac8,Bool.and_eq_true]at h;cases hl:look i l with|some j=>have hm:=Ux hl;(have e:Me l i=j:=by simp[Me,hl]);rw[e];exact(TB h.2 (Vc hm)).1|none=>(have e:Me l i=i:=by simp[Me,hl]);rw[e];cases hs:look i (MH l)with|none=>simp[Me,hs]|some j=>have hm:=Vc (Ux hs);rw[swap_swap]at hm;obtain⟨k,hk⟩:=h' _ _ hm;obtain⟨k',eL⟩:=aE2 hk;rw[hl]at eL;cases eL
def closed(l:List (Nat×Nat)):List (Nat×Nat)→Bool|[]=>true|p::r=>(match look p.2 l with|some _=>true|none=>false)&&closed l r
theorem Vd {l:List (Nat×Nat)} : ∀ {r:List (Nat×Nat)} {i j:Nat},closed l r=true→(i,j)∈r→ ∃k,(j,k)∈l|[],i,j,_,h=>(by cases h)|p::r,i,j,hc,h=>by simp only[closed,Bool.and_eq_true]at hc;rcases List.mem_cons.1 h with h|h;(·subst h;have h1:=hc.1;split at h1;(·rename_i k hk;exact⟨k,Ux hk⟩);·cases h1);·exact Vd hc.2 h
def Xn(l:List (Nat×Nat)):Bool:=ac8 l&&closed l l&&ac8 (MH l)&&closed (MH l) (MH l)
theorem Xo {l:List (Nat×Nat)} (h:Xn l=true):(∀i,Me (MH l) (Me l i)=i)∧(∀i,Me l (Me (MH l) i)=i)∧ ∀i,P0≤i→Me l i=i:=by
 simp only[Xn,Bool.and_eq_true]at h;refine⟨ac9 h.1.1.1 (fun i j hm=>Vd h.1.1.2 hm),fun i=>?_,fun i hi=>?_⟩;(·have:=ac9 h.1.2 (fun i j hm=>Vd h.2 hm) i;rwa[swap_swap]at this)
 ·unfold Me;cases hl:look i l with|none=>rfl|some j=>have:=h.1.1.1;simp only[ac8,Bool.and_eq_true]at this;have:=(TB this.1 (Ux hl)).2;omega
def St.ND(s:St)(ρ:Nat→Nat):St:=⟨Rq (PV.ND ρ) s.sl,Qk ρ s.bl⟩
theorem Full.ND {n:Nat} {w0:World} {S0:Cx} {s:St} {a:Act} {w:World} {ν:Nat→Value} {S:Nat→Prop} (h:Full n w0 S0 s a w ν S) {l:List (Nat×Nat)} (hp:Xn l=true):Full n w0 S0 (s.ND (Me l)) a w (fun i=>ν (Me (MH l) i)) S:=by
 obtain⟨h1,h2,h3⟩:=Xo hp;(have inj: ∀i j,Me l i=Me l j→i=j:=fun i j e=>by rw[←h1 i,←h1 j,e]);have o5: ∀i b,look i s.bl=some b→look (Me l i) (s.ND (Me l)).bl=some (b.map (PV.NG (Me l))):=fun i b hb=>ON (fun j c _ e=>inj j i e) hb
 have hold: ∀i b,look i (s.ND (Me l)).bl=some b→ ∃j c,Me l j=i∧look j s.bl=some c∧b=c.map (PV.NG (Me l)):=fun i b hb=>QQ (fun j k _ _ _ _ e=>inj j k e) hb;have hle:Ctx.LeR (keys s.bl) (Me l) ⟨ν,s.D,w,⟨S,L4 w0 S0⟩⟩ ⟨fun i=>ν (Me (MH l) i),(s.ND (Me l)).D,w,⟨S,L4 w0 S0⟩⟩:=⟨fun _ _=>rfl,fun _ h=>h,fun i _⟨b,hb⟩=>⟨_,o5 i b hb⟩,fun i _ _=>by simp only[h1]⟩
 refine⟨h.below,h.XQ,h.fresh,⟨h.W.lt,h.W.size,fun i b hb=>?_,fun i j b c bT hi hj g hg b9=>?_⟩,fun t=>?_,h.size,h.defers,h.TT,fun i hi⟨b,hb⟩=>?_,h.YS⟩;(·obtain⟨j,c,rfl,hc,rfl⟩:=hold i b hb;have hr:=h.W.MS j c hc;exact SJ hle (S6 (fun _ h=>h) hr) (by simp only[h1]) (fun g hg=>⟨rfl,(Oi hr hg).1,(Oi hr hg).2.1⟩) hr)
 (·obtain⟨i',b',rfl,dG,_⟩:=hold i b hi;obtain⟨j',c',rfl,db,_⟩:=hold j c hj;simp only[h1]at hg b9;exact h.W.ne i' j' b' c' (fun e=>bT (by rw[e])) dG db g hg b9);(·(have e:(s.ND (Me l)).get t=(s.get t).ND (Me l):=by simp only[St.get,St.ND,OV];cases look t s.sl<;>simp[PV.ND]);rw[e];have hs:=h.N9 t;exact QP hle (Rx (fun _ h=>h) hs) hs)
 ·obtain⟨j,c,rfl,hc,_⟩:=hold i b hb;(have hj:P0≤j:=by rcases Nat.lt_or_ge j P0 with h'|h';(·exfalso;have e:=h3 (Me l j) hi;have:=inj _ _ e;omega);·exact h');rw[h3 j hj];(have e:Me (MH l) j=j:=by have:=h1 j;rw[h3 j hj]at this;exact this);simp only[e];exact h.kept j hj ⟨c,hc⟩
theorem u1.ND {E:Env} {G:Goal} {todo:List WI} {s:St} (l:List (Nat×Nat))(hp:Xn l=true)(h:u1 E G todo (s.ND (Me l))):u1 E G todo s:=by
 intro w0 S0 a w hr;obtain⟨ν,S,hf⟩:=hr.full;exact h w0 S0 a w (hf.ND hp).rel
theorem bB3 {i:Nat} {r:List Nat} {d:Nat} :back (i::r) d 1000000000=i:=rfl
theorem bB4 {i j:Nat} {r:List Nat} {d:Nat} :back (i::j::r) d 1000000001=j:=rfl
theorem bB5 {i j k:Nat} {r:List Nat} {d:Nat} :back (i::j::k::r) d 1000000002=k:=rfl
theorem aj5 {ids:List Nat} {d i:Nat} (h:(1000000000≤i)=False):back ids d i=i+100000*(d+1):=by
 unfold back;(have:Nat.ble P0 i=false:=by cases hb:Nat.ble P0 i with|false=>rfl|true=>exact(of_eq_false h (Nat.le_of_ble_eq_true hb)).elim);rw[this];rfl
theorem bB6:IntKind.i8.min= -128:=rfl
theorem bB7:IntKind.i8.max=127:=rfl
theorem aW8:IntKind.i16.min= -32768:=rfl
theorem aW9:IntKind.i16.max=32767:=rfl
theorem aX0:IntKind.i32.min= -2147483648:=rfl
theorem aX1:IntKind.i32.max=2147483647:=rfl
theorem ao1:IntKind.i64.min= -9223372036854775808:=rfl
theorem max_i64:IntKind.i64.max=9223372036854775807:=rfl
theorem bB8:IntKind.u8.min=0:=rfl
theorem bB9:IntKind.u8.max=255:=rfl
theorem aX2:IntKind.u16.min=0:=rfl
theorem aX3:IntKind.u16.max=65535:=rfl
theorem aX4:IntKind.u32.min=0:=rfl
theorem aX5:IntKind.u32.max=4294967295:=rfl
theorem V7:IntKind.u64.min=0:=rfl
theorem V8:IntKind.u64.max=18446744073709551615:=rfl
end Go.Proofs.YtgpkijnphchkpaaGreat
namespace Go.Proofs.YtgpkijnphchkpaaGreat
def aX6:List Oper→List Nat|[]=>[]|o::r=>match o.dst with|some d=>d::aX6 r|none=>aX6 r
def Rh:Code→List Nat|.region _ ops _=>aX6 ops.toList|.seq a b=>Rh a++Rh b|.cond _ a b=>Rh a++Rh b|.block _ b=>Rh b|.loop b=>Rh b|.scope b=>Rh b|.rangeFunc _ _ a b=>Rh a++Rh b|.skip=>[]|.exit _=>[]|.label _=>[]|.goto _=>[]|.ret=>[]|.refuse _=>[]
def SR:List Nat→List (Nat×PV)→List (Nat×PV)|_,[]=>[]|ks,p::r=>bif LS p.1 ks then SR (p.1::ks) r else p::SR (p.1::ks) r
def SS:List Nat→List (Nat×L9)→List (Nat×L9)|_,[]=>[]|ks,p::r=>bif LS p.1 ks then SS (p.1::ks) r else p::SS (p.1::ks) r
theorem u1.Mp {E:Env} {G:Goal} {c:Code} {k:List WI} {s:St} {X:Type} (sl:X→List (Nat×PV))(bl:X→List (Nat×L9))(inv:X→Prop)(m:X→Nat)(x0:X)(h: ∀b1 b2,SR (Rh c++(sl x0).map (·.1)) s.sl=b1→SS (keys (bl x0)) s.bl=b2→Le s ⟨sl x0++b1,bl x0++b2⟩∧inv x0∧ ∀x,inv x→(∀(t:St)(y:X),Le t ⟨sl y++b1,bl y++b2⟩→inv y→m y<m x→u1 E G (.loop c::k) t)→u1 E G (.code c:: .loop c::k) ⟨sl x++b1,bl x++b2⟩):u1 E G (.code (.loop c)::k) s:=by
 obtain⟨h1,h2,h3⟩:=h _ _ rfl rfl;exact u1.Pv (fun x=>⟨sl x++SR (Rh c++(sl x0).map (·.1)) s.sl,bl x++SS (keys (bl x0)) s.bl⟩) inv m x0 h1 h2 h3
end Go.Proofs.YtgpkijnphchkpaaGreat
namespace Go.Proofs.YtgpkijnphchkpaaGreat
def qT(ks:List Nat):List (Nat×L9)→List Nat|[]=>[]|p::r=>bif LS p.1 ks then qT ks r else p.1::qT ks r
theorem v3 {ks:List Nat} {i:Nat} (hk:LS i ks=false): ∀ {bl:List (Nat×L9)} {b:L9},look i bl=some b→LS i (qT ks bl)=true|[],b,h=>(by cases h)|p::r,b,h=>by simp only[look]at h;simp only[qT];cases hb:Nat.beq i p.1 with|true=>have e:=Nat.eq_of_beq_eq_true hb;subst e;rw[hk,cond_false];simp only[LS,hb,cond_true]|false=>rw[hb,cond_false]at h;have ih:=v3 hk h;cases hm:LS p.1 ks;(·simp only[cond_false,LS,hb];exact ih);·simp only[cond_true];exact ih
theorem u1.sF {E:Env} {G:Goal} {todo:List WI} {s:St} (ks:List Nat)(t:Nat)(T:Ty)(x:T.den)(ho:Ma T=0)(he:exp ⟨qT ks s.bl,true⟩ s.bl T (s.get t)=some x)(h:u1 E G todo ((s.Mb ks).set t (.iv T x))):u1 E G todo s:=by
 intro w0 S0 a w hr;obtain⟨ν,S,hf⟩:=hr.full;have hs:=hf.NH ks;(have hR:Reads ⟨qT ks s.bl,true⟩ s ⟨ν,s.D,w,⟨S,L4 w0 S0⟩⟩ ⟨QR S s ν ks,L4 w0 S0⟩:=by refine⟨rfl,hf.W.MS,fun b hb=>.inl hb,fun i hi hd g hg=>.inr ⟨i,?_,hd,hg⟩⟩;cases hk:LS i ks with|true=>rfl|false=>obtain⟨b,hb⟩:=hd;have:=v3 hk hb;rw[this]at hi;cases hi)
 have hv:=NW hR (.inl ho) he (hf.N9 t);refine h w0 S0 a w (Full.rel (ν:=ν) (S:=QR S s ν ks) ⟨hs.below,hs.XQ,hs.fresh,⟨hs.W.lt,hs.W.size,hs.W.MS,hs.W.ne⟩,fun u=>?_,hs.size,hs.defers,hs.TT,hs.kept,hs.YS⟩)
 have h0:=hs.N9 u;unfold St.get St.set;simp only[look];cases hb:Nat.beq u t with|true=>have e:=Nat.eq_of_beq_eq_true hb;subst e;simp only[cond_true,ep];exact⟨ho,Yl hv⟩|false=>simp only[cond_false];exact h0
def Env.skip(E:Env)(i:Nat):Env:= { E with UI:=fun f j=>match Nat.beq j i with|true=>false|false=>E.UI f j }
theorem L6.skip {E:Env} (h:L6 E)(i:Nat):L6 (E.skip i):=⟨h.ty,h.fn,h.res,h.Nt,h.cmp,h.mapKey,h.mixed,h.XK,h.YK,h.emp,h.Q1⟩
section
variable {E:Env} {j:Nat}
theorem BD:(E.skip j).P=E.P:=rfl
theorem yF {t:Nat} :(E.skip j).ty t=E.ty t:=rfl
theorem v5 {t:Nat} :(E.skip j).str t=E.str t:=rfl
theorem v7 {t:Nat} :(E.skip j).cmp t=E.cmp t:=rfl
theorem yG {t:Nat} :(E.skip j).fn t=E.fn t:=rfl
theorem v8 {t:Nat} :(E.skip j).Nt t=E.Nt t:=rfl
theorem v9 {t:Nat} :(E.skip j).mapKey t=E.mapKey t:=rfl
theorem yH {d t:Nat} :(E.skip j).ro d t=E.ro d t:=rfl
theorem yI:(E.skip j).tm=E.tm:=rfl
theorem yJ {t:Nat} :(E.skip j).Wj t=E.Wj t:=rfl
theorem yK {t:Nat} :(E.skip j).XK t=E.XK t:=rfl
theorem yL {t:Nat} :(E.skip j).nd t=E.nd t:=rfl
theorem tL {t:Nat} {m:String} :(E.skip j).Q1 t m=E.Q1 t m:=rfl
theorem wa {t:Nat} :(E.skip j).YK t=E.YK t:=rfl
theorem yM {t:Nat} :(E.skip j).px t=E.px t:=rfl
theorem yN {f i:Nat} :(E.skip j).fl f i=E.fl f i:=rfl
theorem wb {t:Nat} :(E.skip j).emp t=E.emp t:=rfl
theorem wc {f i:Nat} :(E.skip j).UI f i=match Nat.beq i j with|true=>false|false=>E.UI f i:=rfl
theorem yO {f:Nat} {xs:List (Sigma Ty.den)} {T:Ty} {r:T.den} :PC (E.skip j) f xs T r=PC E f xs T r:=rfl
theorem yP {f:Nat} {xs:List (Sigma Ty.den)} {T:Ty} {Y:T.den→Prop} :PN (E.skip j) f xs T Y=PN E f xs T Y:=rfl
theorem yQ {f:Nat} {args:List PV} {bl bl':List (Nat×L9)} {p:PV} :HC (E.skip j) f args bl p bl'=HC E f args bl p bl':=rfl
theorem yR {f:Nat} {args:List PV} {bl:List (Nat×L9)} {T:Ty} {Y:T.den→Prop} {p:T.den→PV} {bl':T.den→List (Nat×L9)} :HN (E.skip j) f args bl T Y p bl'=HN E f args bl T Y p bl':=rfl
theorem yS {f:Nat} {xs:List (Sigma Ty.den)} :XC (E.skip j) f xs=XC E f xs:=rfl
theorem yT {f:Nat} {args:List PV} {bl bl':List (Nat×L9)} :XH (E.skip j) f args bl bl'=XH E f args bl bl':=rfl
theorem rD {G:Goal} {k:List WI} {s:St} :u1 (E.skip j) G k s=u1 E G k s:=rfl
end
attribute[go_sem]BD yF v5 v7 yG v8 v9 yH yI yJ yK yL tL wa yM yN wb wc yO yP yQ yR yS yT rD
theorem mV(j:Nat) {E:Env} (hE:L6 E) {G:Goal} (hG:W2 E G)(m:Nat)(todo:List WI)(s:St)(bm:VP (drE (E.skip j) G.f drB (RD (E.skip j)) U8) G.n todo=true)(h:PW (E.skip j) G m todo s):u1 E G todo s:=LP (E:=E.skip j) (hE.skip j) ⟨hG.1⟩ m todo s bm h
theorem u1.At {E:Env} {G:Goal} {todo:List WI} {s:St} (sl:List (Nat×PV))(bl:List (Nat×L9))(h: ∀b1 b2,SR (sl.map (·.1)) s.sl=b1→SS (keys bl) s.bl=b2→Le s ⟨sl++b1,bl++b2⟩∧u1 E G todo ⟨sl++b1,bl++b2⟩):u1 E G todo s:=u1.weaken (h _ _ rfl rfl).1 (h _ _ rfl rfl).2
end Go.Proofs.YtgpkijnphchkpaaGreat
namespace Go.Proofs.YtgpkijnphchkpaaGreat
attribute[go_sem]aU3 bz5 bz6 aU5 aU6 aU7 bz2 aU4 aC8 bz3 bz4 aC9 au2 au3 aD0 bz7 aU8 aU9 aV0 b09 b10 b11 b12 aD2 aD3 aD4 cd2 cd3 bz8 aV1 au6 au7 aV2 bz9 aV3 aV4 aV5 aD5 Zp bA0 au8 aV6 bA1 bA2 aV7 aW3 aE0 aW4 aW5 bA5 Ns V0 ivs W3 RM List.toList_toArray N1 MM made ah3 M6 before NQ Ug Mz MG Rz LM St.ev St.get St.set St.put look LS lk aW7 cd7 cd8 Sm Px Wm YL Sq QB Sr Ss QC aw6 dep QA OF arith ak7 Sd HQ Wz Wy ag0 bt0 b04 beq_self_eq_true St.Nf M4 Qk bB3 bB4 bB5 aj5 VO SM aA0 b05 Vt Z9 Y5 leB VZ WW WM aR6 aq3 OH exp pk Qj TH Sn Pb Sg Wk X2 Wl Ty.eq Ty.cast MP Nn XO XN Ri RI ak6 RO QE af4 ax2 af5 Rs YN Oe Ty.zer Ws cut Q5 M5 OZ RJ bound Rj Rr Wn Sv XP X4 Wp RL X5 QD TM Oh UL Wr Sy UK aR7 TK Qi mpZ af3 aw8 St.Ol Sw ax1 bx6 Wq Tt RN Sx reach aw5 Nb fwd idxOf PV.ids PV.Po PV.ZF PV.Pz PV.ND PV.NG Tn Qc NU Mu Ql Sb bx5 MQ Qz join part widens cellsOf Ty.val PV.cells Qy zeroCells M3 Ty.cells Ty.flat Ty.ok Ma PV.Qb PV.M1 PV.refs PV.N2 PV.kill PV.Nm PV.Mb PV.OE Rq L9.map TJ Ng St.kill St.Mb keys oks Za okP P0 List.map List.take List.drop List.headD List.append List.length List.cons_append List.nil_append Option.bind cond_true cond_false Bool.not_true Bool.not_false Bool.and_true Bool.true_and Bool.and_false Bool.false_and Bool.false_or Bool.or_false Bool.true_or Bool.or_true true_implies Option.some.injEq decide_true decide_false decide_eq_true_eq decide_eq_false_iff_not Nat.add_zero Nat.zero_add Int.toNat_natCast Nat.lt_irrefl and_true true_and or_false or_true true_or false_or Decidable.not_not bB6 bB7 aW8 aW9 aX0 aX1 ao1 max_i64 bB8 bB9 aX2 aX3 aX4 aX5 V7 V8 Int.cast_ofNat_Int Int.toNat_zero Int.toNat_one Int.le_refl and_self RK ax0 aq5 SX aw9 aw7 ai7 Su RH Wo lkS am2 Z8 am3 looks Y4 WU stG WV Rh aX6 SR SS nub az9 ah4 ah5 bt4 VR YM b15 bA6 bA7 b16 bA8 bA9 b17 b18 b19 b20 b21 bB0 b22 b23 bB1 bB2 b24 b25 b26 b27 b28 aE1 aD1 cd0 cd1 NZ QS Ui XV bt5 aa2 Vq R0 aA2 aA1 aq4 X3 au5 ak8 cd5 cd6 b13 b14 bA3 aV8 bA4 aW0 aV9 aW1 aD7 aW2 aD8 aD9 P3 OA aT3 aW6 au4 HNQ b08 WY UZ Y6 Y7 Qm
end Go.Proofs.YtgpkijnphchkpaaGreat
namespace Go.Proofs.YtgpkijnphchkpaaGreat
open Go Go.ChangeShapes Go.WideShapes Go.RowKit
set_option maxHeartbeats 1000000
def bV:Ty→Bool|.int _=>true|.bool=>true|.str=>true|.sl t=>bV t|.pair a b=>bV a&&bV b|.st t=>bV t|.unit=>false|.own _=>false|.Mj _ _=>false|.ptr _=>false|.OM _ _=>false|.mp _ _=>false|.LY=>false
theorem MZ.cellsOf {E:Env} {t:Nat} {T:Ty} (h:MZ E t T):E.P.cellsOf t=T.cells:=by obtain⟨i,hi,bt,_⟩:=h.info;simp[Program.cellsOf,hi,bt]
theorem add_zero(a:Addr):a.add 0=a:=by simp[Addr.add]
theorem o6(g o k:Nat):(⟨g,o,none⟩:Addr).add k=⟨g,o+k,none⟩:=by unfold Addr.add;split;(·rename_i h;(have:k=0:=by simpa using h);subst this;rfl);·rfl
theorem jq {ty:Nat→Option Ty} {t:Nat} {T:Ty} (h:SB ty t T=true):ty t=some T:=by unfold SB at h;split at h;(·rename_i U hU;rw[hU,Ty.Nc h]);·cases h
theorem o7 {α:Type} {p:Nat→α→Prop} : ∀n:Nat,(∀i,i<n→ ∃a,p i a)→ ∃l:List α,l.length=n∧ ∀i y,l[i]?=some y→p i y:=by
 intro n;induction n with|zero=>intro _;exact⟨[],rfl,fun i y h=>by simp at h⟩|succ n ih=>intro h;obtain⟨l,hl,hp⟩:=ih fun i hi=>h i (by omega);obtain⟨a,ha⟩:=h n (by omega);refine⟨l++ [a],by simp[hl],fun i y hy=>?_⟩;by_cases hi:i<n;(·rw[List.getElem?_append_left (by omega)]at hy;exact hp i y hy);·rw[List.getElem?_append_right (by omega),hl]at hy;by_cases e:i=n;(·subst e;simp at hy;subst hy;exact ha);·rw[List.getElem?_eq_none (by simp;omega)]at hy;cases hy
section
variable {H:Type} {enc:TypeId×Value→H} {E:Env} {w:World} {M:Mem}
theorem tM {V:Ty} {cs:List Value} : ∀(n i:Nat),(∀k,k<n+1→ ∃y,L3 V y w M ((cs.drop ((i+k)*V.cells)).take V.cells))→ ∃y:(rowOf V (n+1)).den,L3 (rowOf V (n+1)) y w M ((cs.drop (i*V.cells)).take ((n+1)*V.cells)):=by
 intro n;induction n with|zero=>intro i h;obtain⟨y,hy⟩:=h 0 (by omega);exact⟨y,by simpa[rowOf]using hy⟩|succ n ih=>intro i h;obtain⟨y,hy⟩:=h 0 (by omega);(obtain⟨z,hz⟩:=ih (i+1) fun k hk=>by have:=h (k+1) (by omega);rwa[show i+(k+1)=i+1+k by omega]at this);refine⟨(y,z),_,_,?_,hy,hz⟩;rw[show(n+1+1)*V.cells=V.cells+(n+1)*V.cells by rw[Nat.add_mul (n+1) 1,Nat.one_mul,Nat.add_comm],List.take_add,List.drop_drop];rw[show(i+1)*V.cells=i*V.cells+V.cells by rw[Nat.add_mul,Nat.one_mul]];rfl
theorem o8 {V:Ty} : ∀n:Nat,bV (rowOf V (n+1))=true→bV V=true:=by
 intro n;cases n with|zero=>intro h;exact h|succ n=>intro h;have h:(bV V&&bV (rowOf V (n+1)))=true:=h;rw[Bool.and_eq_true]at h;exact h.1
theorem rE {cs:List Value} {rd:Nat→List Value→Prop} (oY: ∀t T c,E.ty t=some T→bV T=true→rd t c→ ∃y,L3 T y w M c)(hE:L6 E): ∀(fs:List Field)(R:Ty)(off:Nat),MC E.ty fs R off=true→bV R=true→(∀f,f∈fs→rd f.type ((cs.drop f.offset).take (E.P.cellsOf f.type)))→ ∃y:R.den,L3 R y w M ((cs.drop off).take R.cells):=by
 intro fs;induction fs with|nil=>intro R off h;cases h|cons f fs ih=>intro R off h hp hf;cases fs with|nil=>simp only[MC,Bool.and_eq_true]at h;have ht:=jq h.1.1.1.2;have hc:=(hE.facts ht).cellsOf;have ho:=Nat.eq_of_beq_eq_true h.1.1.1.1;have:=hf f (List.mem_cons_self ..);rw[hc,ho]at this;exact oY _ _ _ ht hp this|cons g fs=>cases R with|pair a b=>simp only[MC,Bool.and_eq_true]at h;have ht:=jq h.1.1.1.1.2;have hc:=(hE.facts ht).cellsOf;have ho:=Nat.eq_of_beq_eq_true h.1.1.1.1.1;simp only[bV,Bool.and_eq_true]at hp;have h0:=hf f (List.mem_cons_self ..);rw[hc,ho]at h0;obtain⟨y,hy⟩:=oY _ _ _ ht hp.1 h0;obtain⟨z,hz⟩:=ih b (off+a.cells) h.2 hp.2 fun f' Af=>hf f' (List.mem_cons_of_mem _ Af);refine⟨(y,z),_,_,?_,hy,hz⟩;show(cs.drop off).take (a.cells+b.cells)=_;rw[List.take_add,List.drop_drop]|_=>simp[MC]at h
theorem we(hE:L6 E)(hM: ∀g,g<w.heap.size→M.S g): ∀(n t:Nat)(T:Ty)(cs:List Value)(x:DataW H×List MemPlace),E.ty t=some T→bV T=true→DataW.trod enc E.P w 0 (fun _=>true) true n t cs=some x→ ∃y:T.den,L3 T y w M cs:=by
 intro n;induction n with|zero=>intro t T cs x _ _ h;simp[DataW.trod]at h|succ n ih=>intro t T cs x ht hp h;have hF:=hE.facts ht;obtain⟨d,hd,hs⟩:=hF.To;cases T with|int l=>cases d<;>simp only[Nd,Bool.false_eq_true]at hs;have:=NI hs;subst this;obtain⟨m,rfl,_,hw⟩:=DataW.trod_int hd h;simp only[Lit.wf,Bool.and_eq_true,decide_eq_true_eq]at hw;exact⟨m,rfl,hw.1,hw.2⟩|bool=>cases d<;>simp only[Nd,Bool.false_eq_true]at hs;obtain⟨b,rfl,_⟩:=DataW.trod_bool hd h;exact⟨b,rfl⟩|str=>cases d<;>simp only[Nd,Bool.false_eq_true]at hs;obtain⟨s,rfl,_,hw⟩:=DataW.trod_string hd h;refine⟨s.data.toList,?_,?_⟩;(·rfl);(·(have:s.data.toList.length≤maxLen:=by simpa using hw);simpa[maxLen]using this)|sl U=>cases d<;>simp only[Nd,Bool.false_eq_true]at hs;rename_i e;simp only[Bool.and_eq_true]at hs;have Ad:=jq hs.1.1;have mf:=(hE.facts Ad).cellsOf;have iC:1≤U.cells:=Nat.le_of_ble_eq_true hs.2;rcases DataW.trod_slice hd h with⟨rfl,_⟩|⟨a,len,cap,elems,rest,m,hm,rfl,_,_,hl,gQ,hlen,A9,_⟩;(·exact⟨[],none,0,rfl,Nat.le_refl _,by decide,Or.inl rfl⟩);(·injection hm with hm;subst hm;obtain⟨ys,fF,bu⟩:=o7 (p:=fun i y=> ∃oO,oO.length=U.cells∧w.cells? 0 (a.add (i*U.cells)) U.cells=some oO∧L3 U y w M oO) len (fun i hi=>by have jR:=A9 i hi;rw[List.getElem?_eq_getElem (by omega)]at jR;obtain⟨oO,h1,h2⟩:=Option.bind_eq_some_iff.1 jR;rw[mf]at h1;obtain⟨y,hy⟩:=ih e U oO _ Ad hp h2;exact⟨y,oO,(World.cells?_some h1).2.1,h1,hy⟩);(have Au:cap≤9223372036854775807:=by simpa[maxLen]using gQ);cases ys with|nil=>exact⟨[],some a,cap,by simp at fF;simp[fF],by simp,Au,Or.inl rfl⟩|cons y0 ys=>obtain⟨c0,iB,Fl,_⟩:=bu 0 y0 rfl;have b7:=(World.cells?_some Fl).2.2 0 (by omega);rw[Nat.zero_mul,add_zero,add_zero]at b7;obtain⟨v0,G1⟩: ∃v,c0[0]?=some v:=⟨_,List.getElem?_eq_getElem (by omega)⟩;rw[G1]at b7;obtain⟨g,o,sp⟩:=a;(have mj:g<w.heap.size∧sp=none:=by simp only[World.cell?]at b7;split at b7;(·rename_i c _ _ hh;refine⟨(Array.getElem?_eq_some_iff.1 hh).1,?_⟩;cases sp with|none=>rfl|some _=>simp at b7);·cases b7);obtain⟨hg,rfl⟩:=mj;refine⟨y0::ys,some ⟨g,o,none⟩,cap,by rw[fF],by rw[fF];exact hl,Au,Or.inr ⟨g,o,rfl,hM g hg,fun i y hy=>?_⟩⟩;obtain⟨oO,h1,h2,h3⟩:=bu i y hy;refine⟨oO,h1,fun j v hj=>?_,h3⟩;(have qN:j<U.cells:=by rw[←h1];exact(List.getElem?_eq_some_iff.1 hj).1);have:=(World.cells?_some h2).2.2 j qN;rw[hj]at this;rw[o6,o6,Nat.add_assoc]at this;rw[←Nat.add_assoc]at this;exact this)|st R=>cases d<;>simp only[Nd,Bool.false_eq_true]at hs;(case struct fs=>obtain⟨xs,m,hm,_,hlen,qW,hf⟩:=DataW.trod_struct hd h;injection hm with hm;subst hm;obtain⟨y,hy⟩:=rE (cs:=cs) (M:=M) (w:=w) (rd:=fun t c=> ∃x,DataW.trod enc E.P w 0 (fun _=>true) true n t c=some x) (fun t T c h1 h2⟨x,h3⟩=>ih t T c x h1 h2 h3) hE fs.toList R 0 hs hp (fun f Af=>by obtain⟨i,hi⟩:=List.getElem?_of_mem Af;have h1:=hf i f (by simpa using hi);(have vg:i<fs.size:=by simpa using(List.getElem?_eq_some_iff.1 hi).1);rw[List.getElem?_eq_getElem (by omega)]at h1;exact⟨_,h1⟩);refine⟨y,?_⟩;(have cn:cs.length=R.cells:=by rw[hlen,hF.cellsOf];rfl);rw[List.drop_zero,←cn,List.take_length]at hy;exact hy);(case array k e=>split at hs;(·rename_i V hV;simp only[Bool.and_eq_true]at hs;have hR:=Ty.Nc hs.1.1.1;have hk:2≤k:=Nat.le_of_ble_eq_true hs.2;obtain⟨k,rfl⟩: ∃j,k=j+1:=⟨k-1,by omega⟩;subst hR;obtain⟨xs,m,hm,_,hlen,qW,hf⟩:=DataW.trod_array hd h;injection hm with hm;subst hm;have mf:=(hE.facts hV).cellsOf;obtain⟨y,hy⟩:=tM (V:=V) (cs:=cs) (w:=w) (M:=M) k 0 (fun i hi=>by have h1:=hf i hi;rw[List.getElem?_eq_getElem (by omega),mf]at h1;rw[Nat.zero_add];exact ih e V _ _ hV (o8 k hp) h1);refine⟨y,?_⟩;(have cn:cs.length=(k+1)*V.cells:=by rw[hlen,hF.cellsOf];exact SF V (k+1));rw[Nat.zero_mul,List.drop_zero,←cn,List.take_length]at hy;exact hy);·cases hs)|pair a b=>simp[Nd]at hs|_=>simp[bV]at hp
theorem rF: ∀T:Ty,bV T=true→Ma T=0:=by
 intro T;induction T with|pair a b da cI=>intro h;simp only[bV,Bool.and_eq_true]at h;simp[Ma,da h.1,cI h.2]|st t ih=>intro h;exact ih h|sl t ih=>intro h;exact ih h|int k=>intro _;rfl|bool=>intro _;rfl|str=>intro _;rfl|_=>intro h;simp[bV]at h
theorem yU {b0:Nat} {t:Nat} {T:Ty} {v:Value} {y:T.den} (hE:L6 E)(ht:E.ty t=some T)(hp:bV T=true)(hv:Value.okWide E.P w .any b0 t v)(h:L3 T y w M v.cells.toList):Na T y w M v:=by
 obtain⟨d,hd,hs⟩:=(hE.facts ht).To;(have one:(∀cs,v≠ .agg cs)→v.cells.toList=[v]:=by intro hn;cases v<;>first|rfl|exact absurd rfl (hn _));cases T with|int l=>cases d<;>simp only[Nd,Bool.false_eq_true]at hs;obtain⟨n,rfl⟩:=okWide_int hd hv;exact h|bool=>cases d<;>simp only[Nd,Bool.false_eq_true]at hs;obtain⟨n,rfl⟩:=okWide_bool hd hv;exact h|str=>cases d<;>simp only[Nd,Bool.false_eq_true]at hs;(have:v.cells.toList=[v]:=one fun cs e=>by subst e;simp[Value.okWide,hd,Cell.okWide,Cell.ok]at hv);rw[this]at h;exact h|sl U=>cases d<;>simp only[Nd,Bool.false_eq_true]at hs;obtain⟨a,len,cap,rfl⟩:=okWide_slice hd hv;exact h|st R=>(have: ∃cs,v= .agg cs:=by cases d<;>simp only[Nd,Bool.false_eq_true]at hs;(·simp only[Value.okWide,hd]at hv;obtain⟨cs,e,_⟩:=hv;exact⟨cs,e⟩);·simp only[Value.okWide,hd]at hv;obtain⟨cs,e,_⟩:=hv;exact⟨cs,e⟩);obtain⟨cs,rfl⟩:=this;exact⟨cs.toList,by simp,h⟩|pair a b=>simp[Nd]at hs|_=>simp[bV]at hp
theorem wg {b0:Nat} (hE:L6 E)(hM: ∀g,g<w.heap.size→M.S g): ∀(ts:List Nat)(Ts:List Ty)(vs:List Value)(ds:List (DataW H))(ps:List MemPlace),ts.map E.ty=Ts.map some→Ts.all bV=true→DataW.TrodAll enc E.P w 0 (fun _=>true) true ts vs ds ps→(∀(j:Nat)t v,ts[j]?=some t→vs[j]?=some v→Value.okWide E.P w .any b0 t v)→ ∃xs:List (Sigma Ty.den),xs.map (·.1)=Ts∧Sc w M xs vs∧ds.length=ts.length:=by
 intro ts;induction ts with|nil=>intro Ts vs ds ps h1 _ h3 _;obtain⟨rfl,rfl,rfl⟩:=trodAll_nil h3;(cases Ts with|nil=>exact⟨[],rfl,rfl,rfl⟩|cons T Ts=>simp at h1)|cons t ts ih=>intro Ts vs ds ps h1 h2 h3 h4;obtain⟨v,vs,d,ds,p,q,rfl,rfl,rfl,hd,hr⟩:=trodAll_cons h3;cases Ts with|nil=>simp at h1|cons T Ts=>simp only[List.map_cons,List.cons.injEq]at h1;simp only[List.all_cons,Bool.and_eq_true]at h2;obtain⟨xs,e1,e2,e3⟩:=ih Ts vs ds q h1.2 h2.2 hr fun j t' v' a b=>h4 (j+1) t' v' a b;obtain⟨n,hn⟩:=hd;obtain⟨y,hy⟩:=we hE hM n t T _ _ h1.1 h2.1 hn;exact⟨⟨T,y⟩::xs,by rw[List.map_cons,e1],⟨v,vs,rfl,rF T h2.1,yU hE h1.1 h2.1 (h4 0 t v rfl rfl) hy,e2⟩,by simp[e3]⟩
theorem mu {P:Program} (hl:laidOutB P=true) {w w':World} (hb:Below w.heap.size w w'): ∀(ts:List Nat)(vs:List Value)(ds:List (DataW H))(ps:List MemPlace),(∀t,t∈ts→P.readableRec t=true∧t<P.types.size)→DataW.TrodAll enc P w 0 (fun _=>true) true ts vs ds ps→(∀x∈ps,x.block<w.heap.size)→DataW.TrodAll enc P w' 0 (fun b=>decide (b<w.heap.size)) true ts vs ds ps:=by
 intro ts;induction ts with|nil=>intro vs ds ps _ h _;obtain⟨rfl,rfl,rfl⟩:=trodAll_nil h;rfl|cons t ts ih=>intro vs ds ps hr h bo;obtain⟨v,vs,d,ds,p,q,rfl,rfl,rfl,hd,hq⟩:=trodAll_cons h;have ht:=hr t (List.mem_cons_self ..);exact⟨p,q,Below.trod hl ht.1 ht.2 hd hb (fun x hx=>bo x (List.mem_append.mpr (Or.inl hx))),ih vs ds q (fun t' h'=>hr t' (List.mem_cons_of_mem _ h')) hq (fun x hx=>bo x (List.mem_append.mpr (Or.inr hx))),rfl⟩
theorem fZ(hE:L6 E) {f:Nat} {fn:Func} {s:ChangeSpec} {apart fresh handsOn:Bool} {Ts:List Ty} {tb b0:Nat} (hl:laidOutB E.P=true)(DW: ∀t,t∈fn.params.toList→E.P.readableRec t=true∧t<E.P.types.size)(Ke:fn.params.toList.map E.ty=Ts.map some)(oB:Ts.all bV=true)(vJ:fn.resultTypes= #[tb])(Kf:E.P.underlying tb=some .bool)(Av:s.vars=[])(Nt: ∀(ds:List (DataW H)),ds.length=fn.params.toList.length→s.fn H ds= { results:=[.lit (.bool true)],args:=ds })(vR: ∀xs:List (Sigma Ty.den),xs.map (·.1)=Ts→PC E f xs .bool true) {W:World} (hT:UM W fun g=>g<W.heap.size) {args:Array Value} {ds gs:List (DataW H)} {before:List MemPlace} (eu: ∀(j:Nat)t v,fn.params[j]?=some t→args[j]?=some v→Value.okWide E.P W .any b0 t v)(hW:DataW.Whole enc E.P fn.params.toList s.vars apart W args.toList ds gs before):Calls E.P f args W fun e W'=> ∃v,e= .returned v∧s.post enc E.P fn apart fresh handsOn false W args v W':=by
 have mS:=hW;obtain⟨p,q,hA,hV,rfl,Lp,eP⟩:=hW;rw[Av]at hV;obtain⟨rfl,rfl⟩:=trodVars_none hV;obtain⟨xs,e1,e2,e3⟩:=wg (M:=⟨fun g=>g<W.heap.size,fun g=>W.heap.size≤g⟩) (b0:=b0) hE (fun g h=>h) _ Ts _ _ _ Ke oB hA (fun j t v h1 h2=>eu j t v (by simpa using h1) (by simpa using h2))
 have hc:=vR xs e1 W (fun g=>g<W.heap.size) args.toList (fun b h=>h) hT e2;rw[Array.toArray_toList]at hc;refine hc.mono fun e W'⟨v,he,hp⟩=>?_;obtain⟨⟨hb,_⟩,S',_,_,_,hr⟩:=hp
 (have hv:v= .bool true:=by simp only[RF,Na,L3,List.cons.injEq,and_true]at hr;exact hr);subst hv;refine⟨_,he,ds,[],p++ [],[],p,[],mS,?_,?_,?_,hb.frame _,fun h=>by cases h⟩
 (·rw[List.append_nil,Nt ds e3,vJ];exact trodAll_mk1 ⟨1,by simp[DataW.trod,Kf,Value.cells]⟩);(·rw[List.append_nil,Nt ds e3];exact mu hl hb _ _ _ _ DW hA fun x hx=>by simpa using mS.lt x (by simpa using hx))
 ·rw[Av,List.append_nil,Nt ds e3];rfl
end
end Go.Proofs.YtgpkijnphchkpaaGreat
namespace Go.Proofs.YtgpkijnphchkpaaGreat
open Go.RowKit
def BE(st:LoopState)(pd:Option Code)(f:Nat)(ps:Array Tmp)(ac cl1:Code)(D:Nat)(vs:List Value):Obj:=.loop { state:=st,pending:=pd,fn:=f,tmps:=vs.toArray,params:=ps,assign:=ac,body:=cl1,defers:=D }
theorem Fm {w:World} {ν:Nat→Value} {bl:List (Nat×L9)} {S:Nat→Prop} (hT:UM w S)(hW:TN ⟨[],bl⟩ ν w ⟨S,L4 w ⟨S,Pd ν bl,ν,[]⟩⟩):af6 w ⟨S,Pd ν bl,ν,[]⟩:=by
 refine⟨hT,fun g hg hX=>?_⟩;obtain⟨i,b,hb,br⟩:=hX;exact(Oi (hW.MS i b hb) br).2.1 (hT g hg).1
theorem QF.full {w0 w:World} {C:Cx} {p:PV} {bl:List (Nat×L9)} {v:Value} (h:QF w0 C p bl v w)(ht:af6 w0 C): ∃ν S,Full 0 w0 C ⟨[],bl⟩ ⟨#[],C.df⟩ w ν S∧ep ⟨ν,(⟨[],bl⟩:St).D,w,⟨S,L4 w0 C⟩⟩ p v:=by
 obtain⟨hk,ν,S,h1,h2,h3,hW,hp⟩:=h;exact⟨ν,S,⟨hk,h1,h2,hW,fun t=>by simp[St.get,look,ep],rfl,rfl,by omega,h3,ht⟩,hp⟩
theorem Full.IA {n:Nat} {w0 w:World} {C:Cx} {a:Act} {sl:List (Nat×PV)} {bl:List (Nat×L9)} {ν:Nat→Value} {S:Nat→Prop} {p:PV} {v:Value} (h:Full n w0 C ⟨sl,bl⟩ a w ν S)(hp:ep ⟨ν,(⟨[],bl⟩:St).D,w,⟨S,L4 w0 C⟩⟩ p v):QF w0 C p bl v w:=⟨h.below,ν,S,h.XQ,h.fresh,h.kept,⟨h.W.lt,h.W.size,h.W.MS,h.W.ne⟩,hp⟩
theorem u1.begin {E:Env} {G:Goal} {L:Nat} {e:Bool} {k:List WI} {s:St} {pd:Option Code} {f:Nat} {ps:Array Tmp} {ac cl1:Code} {D:Nat} {cs:List PV} (hG:G.fr= .rnd L e)(hL:P0≤L)(hl:look L s.bl=some (.gh (BE .ready pd f ps ac cl1 D) cs))(h:u1 E G k ⟨s.sl,(L,.gh (BE .busy pd f ps ac cl1 D) cs)::s.bl⟩):u1 E G (.begin::k) s:=by
 intro w0 S0 a w hr;obtain⟨ν,S,hf⟩:=hr.full;obtain⟨g,vs,h1,_,_,h4,_,ht⟩:=hf.ax3 hl;have br:=hf.kept L hL ⟨_,hl⟩;intro b oO hb hk EP;(have cm4:b.roundOf=some g:=by rw[EP];unfold Goal.ro;rw[hG];simp only[←br,h1])
 have aJ:=run_beginRound (P:=E.P) h4 rfl;obtain⟨u,a',w',td,hR,hs⟩:=h w0 S0 a _ (ht (BE .busy pd f ps ac cl1 D)).rel b oO hb hk EP;exact⟨u,a',w',td,hR,.head (stepR_beginRound cm4 aJ) hs⟩
def RC(E:Env)(L f:Nat)(p1 p2:Tmp)(ac cl1:Code)(cs:List PV)(q1 q2:PV)(bl:List (Nat×L9))(b:Bool)(bl':List (Nat×L9)):Prop:= ∀(w:World)(S:Nat→Prop)(ν:Nat→Value)(vs:List Value)(cl0 cl2:Value)(g:Nat),UM w S→(∀i b,look i bl=some b→P0≤i)→TN ⟨[],bl⟩ ν w ⟨S,L4 w ⟨S,Pd ν bl,ν,[]⟩⟩→ν L= .pointer (some ⟨g,0,none⟩)→LO ⟨ν,(⟨[],bl⟩:St).D,w,⟨S,L4 w ⟨S,Pd ν bl,ν,[]⟩⟩⟩ cs vs→ep ⟨ν,(⟨[],bl⟩:St).D,w,⟨S,L4 w ⟨S,Pd ν bl,ν,[]⟩⟩⟩ q1 cl0→ep ⟨ν,(⟨[],bl⟩:St).D,w,⟨S,L4 w ⟨S,Pd ν bl,ν,[]⟩⟩⟩ q2 cl2→ ∀(c:Frame)(oO:List Frame),∃w',QF w ⟨S,Pd ν bl,ν,[]⟩ (.iv .bool b) bl' (.bool b) w'∧Steps E.P (lone (Frame.round g f ((vs.toArray.setIfInBounds p1 cl0).setIfInBounds p2 cl2) ac cl1 .normal) (c::oO) w) (lone (c.finish (.bool b)) oO w')
def Kg(b:Bool):LoopState:=match b with|true=>.ready|false=>.done
def Kh(b:Bool):Option Code:=match b with|true=>none|false=>some .ret
theorem RC.NL {E:Env} {n L f:Nat} {p1 p2:Tmp} {ac cl1:Code} {cs EK:List PV} {q1 q2:PV} {sl:List (Nat×PV)} {bl bl':List (Nat×L9)} {e:Bool} {pd:Option Code} {ps:Array Tmp} {D:Nat} (hn:cs.length=n)(cU:n≤100000)(Bp:p1<n)(Gn:p2<n)(cP: ∀t p,look t sl=some p→cs[t]?=some p)(hL:P0≤L)(dR:look L bl'=some (.gh (BE .busy pd f ps ac cl1 D) EK))(hW:u1 E ⟨f,n,[],.Mj [],bl',none,false,.rnd L e⟩ [.code ac,.begin,.code cl1] ⟨(p2,q2)::(p1,q1)::sl,bl⟩):RC E L f p1 p2 ac cl1 cs q1 q2 bl e ((L,.gh (BE (Kg e) (Kh e) f ps ac cl1 D) EK)::bl'):=by
 intro w S ν vs cl0 cl2 g hT hP DG br oQ vt rh c oO;have hlen:vs.length=n:=(Ni oQ).symm.trans hn;have vU:=Fm hT DG;(have aT:Rel n w ⟨S,Pd ν bl,ν,[]⟩ ⟨(p2,q2)::(p1,q1)::sl,bl⟩ { tmps:=(vs.toArray.setIfInBounds p1 cl0).setIfInBounds p2 cl2,defers:=[] } w:=by refine⟨ν,S,Kept.refl _ _,fun _ h=>h,fun _ h=>.inl h,⟨DG.lt,DG.size,DG.MS,DG.ne⟩,fun t=>?_,by simp[hlen],rfl,cU,fun _ _ _=>rfl,vU⟩;have hD:(⟨(p2,q2)::(p1,q1)::sl,bl⟩:St).D=(⟨[],bl⟩:St).D:=rfl;rw[hD];unfold St.get;by_cases h2:t=p2;(·subst h2;simp only[Mf];rw[Array.getD_eq_getD_getElem?,Array.getElem?_setIfInBounds_self_of_lt (by simp[hlen,Gn])];exact rh);·rw[L1 _ _ h2];by_cases h1:t=p1;(·subst h1;simp only[Mf];rw[Array.getD_eq_getD_getElem?,Array.getElem?_setIfInBounds_ne (Ne.symm h2),Array.getElem?_setIfInBounds_self_of_lt (by simp[hlen,Bp])];exact vt);·rw[L1 _ _ h1];cases hl:look t sl with|none=>simp only[ep]|some p=>obtain⟨v,hv,hr⟩:=aq8 t oQ (cP t p hl);rw[Array.getD_eq_getD_getElem?,Array.getElem?_setIfInBounds_ne (Ne.symm h2),Array.getElem?_setIfInBounds_ne (Ne.symm h1)];(have:vs.toArray[t]?=some v:=by simpa using hv);rw[this];exact hr)
 obtain⟨b,hb⟩: ∃b:Frame,b= { (default:Frame)with fn:=f,kind:=.normal,roundOf:=some g } :=⟨_,rfl⟩;(have dj:Frame.round g f ((vs.toArray.setIfInBounds p1 cl0).setIfInBounds p2 cl2) ac cl1 .normal=b.atR { tmps:=(vs.toArray.setIfInBounds p1 cl0).setIfInBounds p2 cl2,defers:=[] } [.code ac,.beginRound,.code cl1]:=by subst hb;simp[Frame.round,Frame.atR])
 (have hbr:b.roundOf=some g:=by subst hb;rfl);(have FC:b.kind= .normal:=by subst hb;rfl);obtain⟨u,a',w',td,vV,cS⟩:=hW w ⟨S,Pd ν bl,ν,[]⟩ _ w aT b (c::oO) (by subst hb;rfl) FC (by rw[hbr];unfold Goal.ro;simp only[br])
 cases u with|returning=>exact vV.elim|panicking ch=>exact absurd vV.1 (by simp)|run=>obtain⟨_,D6,vk,Jk,_,hpg⟩:=vV;have co3:QF w ⟨S,Pd ν bl,ν,[]⟩ (.Mj []) bl' (oneOf Jk) w':=hpg;obtain⟨ν',S',hf,_⟩:=co3.full vU;obtain⟨g',cp2,h1,_,_,h4,_,xx⟩:=hf.ax3 (id:=L) dR;have hk:=hf.kept L hL ⟨_,dR⟩;simp only at hk;rw[h1,br]at hk;injection hk with hk;injection hk with hk;injection hk with hk;subst hk;rw[dj];have cn6:Steps E.P (lone (b.atR { tmps:=(vs.toArray.setIfInBounds p1 cl0).setIfInBounds p2 cl2,defers:=[] } [.code ac,.beginRound,.code cl1]) (c::oO) w) (lone (b.atR a' td) (c::oO) w'):=cS;cases e with|true=>obtain rfl:td=[]:=D6;refine⟨_,(xx (BE .ready none f ps ac cl1 D)).IA (p:=.iv .bool true) (v:=.bool true) (by simp only[ep];exact⟨rfl,rfl⟩),cn6.trans (.one ?_)⟩;exact stepR_round_end hbr FC (run_endRound none h4)|false=>obtain⟨k,rfl⟩: ∃k,td= .code .ret::k:=D6;refine⟨_,(xx (BE .done (some .ret) f ps ac cl1 D)).IA (p:=.iv .bool false) (v:=.bool false) (by simp only[ep];exact⟨rfl,rfl⟩),cn6.trans (.one ?_)⟩;exact stepR_round_ret hbr FC (run_endRound (some .ret) h4)
theorem Fo {P:Program} {ops:Array Oper} {Q:Exit→Act→World→Prop} (hQ: ∀a w,¬Q .outgrown a w)(eP: ∀(i:Nat)(o:Oper),ops[i]?=some o→ ∀c,o.op≠ .defer c)(l2:List Nat): ∀(l:List Nat)(a:Act)(w:World),wpOps P ops Q l a w→ ∀(b:Frame)(k:List Item)(cs:List Frame),(∃a' w',Q .normal a' w'∧Steps P (lone (b.atR a (.inRegion ops (l++l2)::k)) cs w) (lone (b.atR a' (.inRegion ops l2::k)) cs w'))∨ ∃ch a' w' td,Q (.panic ch) a' w'∧Steps P (lone (b.atR a (.inRegion ops (l++l2)::k)) cs w) (lone { b.atR a' td with mode:=.panicking ch } cs w'):=by
 intro l;(have pre: ∀ {m m':Machine} {b:Frame} {k:List Item} {cs:List Frame},Steps P m m'→((∃a' w',Q .normal a' w'∧Steps P m' (lone (b.atR a' k) cs w'))∨ ∃ch a' w' td,Q (.panic ch) a' w'∧Steps P m' (lone { b.atR a' td with mode:=.panicking ch } cs w'))→((∃a' w',Q .normal a' w'∧Steps P m (lone (b.atR a' k) cs w'))∨ ∃ch a' w' td,Q (.panic ch) a' w'∧Steps P m (lone { b.atR a' td with mode:=.panicking ch } cs w')):=by rintro m m' b k cs hs(⟨a',w',h1,h2⟩|⟨ch,a',w',td,h1,h2⟩);(·exact .inl ⟨a',w',h1,hs.trans h2⟩);·exact .inr ⟨ch,a',w',td,h1,hs.trans h2⟩)
 induction l with|nil=>exact fun a w h b k cs=>.inl ⟨a,w,h,.refl _ _⟩|cons i rest ih=>intro a w h b k cs;simp only[wpOps]at h;simp only[List.cons_append];cases ho:ops[i]? with|none=>simp only[ho]at h;have hs:=stepR_op_skip (P:=P) (b:=b) (a:=a) (k:=k) (cs:=cs) (w:=w) (ops:=ops) (i:=i) (rest:=rest++l2) (by simp[ho]);simp only[ho,Option.bind_none,Act.put]at hs;exact pre (.one hs) (ih a w h b k cs)|some o=>simp only[ho]at h;by_cases hw:Region.wanted o (yielded ops a.tmps)=true;(·simp only[hw,if_true]at h;rcases h with h|⟨_,a1,w1,hq⟩;(case inr=>exact absurd hq (hQ a1 w1));have hg:=stepGR_op (P:=P) (b:=b) (k:=k) (cs:=cs) (w:=w) (rest:=rest++l2) ho hw;rw[Oper.semAt_eq b.roundOf a.eval o (eP i o ho)]at hg;(have gx: ∀v,(b.atR a (.inRegion ops (i::(rest++l2))::k)).finish v=b.atR (a.put o.dst v) (.inRegion ops (rest++l2)::k):=by intro v;rw[Frame.finish_atR,ho];rfl);simp only[Oper.wp,Oper.upon]at h;split at h;(·rename_i v w' hr;refine pre (.one (step_lone_go ?_)) (ih _ _ h b k cs);rw[hg,←gx];simp[stepG.apply,hr]);(·rename_i w' hr;refine pre (.one (step_lone_go ?_)) (ih _ _ h b k cs);rw[hg,←gx];simp[stepG.apply,hr]);(·rename_i d w' hr;refine pre (.one (step_lone_go ?_)) (ih _ _ h b k cs);(have:({ b.atR a (.inRegion ops (i::(rest++l2))::k)with defers:=d::a.defers } :Frame).finish undef=b.atR ({ a with defers:=d::a.defers }.put o.dst undef) (.inRegion ops (rest++l2)::k):=by have:=Frame.finish_atR b { a with defers:=d::a.defers } ops i (rest++l2) k undef;rw[ho]at this;exact this);rw[hg];simp only[stepG.apply,Sem.runT_eq,hr,GStep.bare_after];exact congrArg (fun fr=>GStep.go { frame:=fr,callers:=cs,status:=.running,dying:=none } w') this);(·rename_i f args w' hr;obtain⟨e,qS,fr,hR,fh,_,kO⟩:=h (b.atR a (.inRegion ops (i::(rest++l2))::k)::cs);have dE:step P (lone (b.atR a (.inRegion ops (i::(rest++l2))::k)) cs w)= .next (lone (Frame.enter P f args .normal) (b.atR a (.inRegion ops (i::(rest++l2))::k)::cs) w'):=step_lone_go (by rw[hg];simp[stepG.apply,hr,Frame.atR]);cases e with|returned v=>refine pre (.head dE (fh.trans (.one ?_))) (ih _ _ hR b k cs);rw[←gx];exact step_leave_returned kO|panicked chain=>refine .inr ⟨chain,a,qS,.inRegion ops (i::(rest++l2))::k,hR,.head dE (fh.trans (.one ?_))⟩;rw[←Frame.raise_atR];exact step_leave_panicked kO|outgrown=>obtain⟨a1,w1,hq⟩:=hR;exact absurd hq (hQ a1 w1));(·rename_i row args w' hr;obtain⟨v,qS,hR,fh⟩:=h (b.atR a (.inRegion ops (i::(rest++l2))::k)) cs;have dE:step P (lone (b.atR a (.inRegion ops (i::(rest++l2))::k)) cs w)= .next (lone (Frame.ofRow P row args .normal) (b.atR a (.inRegion ops (i::(rest++l2))::k)::cs) w'):=step_lone_go (by rw[hg];simp[stepG.apply,hr,Frame.atR]);refine pre (.head dE ?_) (ih _ _ hR b k cs);rw[←gx];exact fh);(·rename_i v w' hr;refine .inr ⟨_,a,w',.inRegion ops (i::(rest++l2))::k,h,.one (step_lone_go ?_)⟩;rw[hg,←Frame.raise_atR];simp[stepG.apply,hr]);·exact h.elim);·simp only[hw,if_false,Bool.false_eq_true]at h;have hs:=stepR_op_skip (P:=P) (b:=b) (a:=a) (k:=k) (cs:=cs) (w:=w) (ops:=ops) (i:=i) (rest:=rest++l2) (by simp[ho];simpa using hw);simp only[ho,Option.bind_some]at hs;exact pre (.one hs) (ih _ _ h b k cs)
theorem CP {P:Program} {ops:Array Oper} {Q:Exit→Act→World→Prop} (l:List Oper): ∀k,(∀j,j<l.length→l[j]?=ops[k+j]?)→wpOps P ops Q (List.range' k l.length)=wpList P ops Q l:=by
 induction l with|nil=>intro k _;funext a w;simp[wpOps,wpList]|cons o l ih=>intro k h;(have h0:ops[k]?=some o:=by simpa using(h 0 (by simp)).symm);have CK:=ih (k+1) (fun j hj=>by have:=h (j+1) (by simpa using hj);simpa[Nat.add_assoc,Nat.add_comm 1 j]using this);funext a w;simp only[List.length_cons,List.range'_succ,wpOps,h0,wpList,CK]
theorem CQ {E:Env} {G:Goal} {N:List Nat} {all:List Oper} : ∀(os:List Oper)(acc:List (List Nat))(s:St)(K K':St→Prop),(∀s,K s→K' s)→runs E G all N acc os s K→runs E G all N acc os s K':=by
 intro os;induction os with|nil=>intro acc s K K' hK h;exact hK _ h|cons o os ih=>intro acc s K K' hK h;unfold runs at h⊢;split at h;(·exact h.imp (fun h=>Mh (fun l hl=>ih _ _ K K' hK hl) _ h) id);·split at h;(·split at h;(·exact⟨fun e=>Mh (fun l hl=>ih _ _ K K' hK hl) _ (h.1 e),fun e=>ih _ _ K K' hK (h.2 e)⟩);(·exact ih _ _ K K' hK h);·exact h.elim);·exact h.elim
theorem u1.G2 {E:Env} (hE:L6 E) {G:Goal} {m id:Nat} {ops:Array Oper} {k:List WI} {s s1:St} {pre rest:List Oper} {o:Oper} {y x1 x2:Operand} {tys:Array TypeId} {L f D:Nat} {pd:Option Code} {p1 p2:Tmp} {ac cl1:Code} {cs:List PV} {ids:List Nat} {e:Bool} {bl':List (Nat×L9)} (cm8:ops.toList=pre++o::rest)(ak:o.op= .call { callee:=.value y,args:= #[x1,x2],argTypes:=tys })(hg:o.guard=none)(aV:ops.toList.all (MV G.n)=true)(eP:ops.toList.all am5=true)(gw:runs E G ops.toList [] [] pre s (fun s'=>s'=s1))(hy:s1.ev y= .Wi L)(hl:look L s1.bl=some (.gh (BE .ready pd f #[p1,p2] ac cl1 D) cs))(cm0:RN ids=true)(cQ:Sx ids s1.bl ids=true)(hL:LS L ids=true)(JP:PV.ZF ids (s1.ev x1)=true)(yb:PV.ZF ids (s1.ev x2)=true)(hRC:RC E (fwd ids L) f p1 p2 ac cl1 (PV.NG (fwd ids) cs) ((s1.ev x1).ND (fwd ids)) ((s1.ev x2).ND (fwd ids)) (Nb ids s1.bl ids P0) e bl')(jS:Wy (Nb ids s1.bl ids P0) bl'=true)(bd:ag0 (Nb ids s1.bl ids P0) (keys s1.bl) o.dst bl'=true)(bm:VP (drE E G.f drB (RD E) U8) G.n k=true)(dQ:PW E G m (.rest ops.toList rest::k) (s1.Ol o.dst ids (.iv .bool e) bl')):u1 E G (.code (.region id ops false)::k) s:=by
 intro w0 S0 a w hr fr oO Nt Dl EP;(have xy:ops.size=pre.length+(rest.length+1):=by rw[←Array.length_toList,cm8];simp);(have tH: ∀j,ops[j]?=(pre++o::rest)[j]?:=fun j=>by rw[←cm8,Array.getElem?_toList])
 (have cm9:List.range ops.size=List.range' 0 pre.length++(pre.length::List.range' (pre.length+1) rest.length):=by rw[List.range_eq_range',xy,←List.range'_append_1,List.range'_succ,Nat.zero_add])
 have gV: ∀x,x∈pre++o::rest→MV G.n x=true:=fun x hx=>List.all_eq_true.1 aV x (by rw[cm8];exact hx);have cm5:pre.all (MV G.n)=true:=List.all_eq_true.2 fun x hx=>gV x (List.mem_append_left _ hx)
 have cm2:rest.all (MV G.n)=true:=List.all_eq_true.2 fun x hx=>gV x (List.mem_append_right _ (List.mem_cons_of_mem _ hx));have ho0:MV G.n o=true:=gV o (List.mem_append_right _ (List.mem_cons_self ..))
 have h1:=ar9 hE aV pre [] s a w cm5 gw hr;(have iD:wpOps E.P ops (Qg G w0 S0 (fun s'=>s'=s1)) (List.range' 0 pre.length) a w:=by rw[CP pre 0 (fun j hj=>by rw[Nat.zero_add,tH,List.getElem?_append_left hj])];simpa using h1)
 have cn0:=stepR_region (P:=E.P) (b:=fr) (a:=a) (k:=items k) (cs:=oO) (w:=w) (ops:=ops) (id:=id);rw[cm9]at cn0;rcases Fo (fun _ _ h=>h) (aA5 eP) (pre.length::List.range' (pre.length+1) rest.length) _ a w iD fr (items k) oO with⟨a1,w1,⟨s',rfl,xY⟩,yr⟩|⟨ch,a',w',td,hq,hs⟩
 (case inr=>exact⟨.panicking ch,a',w',td,hq,.head cn0 hs⟩);obtain⟨ν,S,hf⟩:=xY.full;obtain⟨g,vs,e1,_,_,e4,e5,_⟩:=hf.ax3 hl;(have hyv:a1.eval y= .func (.yield g) #[] #[]:=by have h:=hf.ev (x:=y) (L5 ho0 (by simp[ak,Op.operands,Call.operands]));rw[hy]at h;simp only[ep]at h;obtain⟨_,g',h1,h2⟩:=h;have iD:ν L= .pointer (some ⟨g',0,none⟩):=h1;rw[e1]at iD;injection iD with iD;injection iD with iD;injection iD with iD;subst iD;exact h2)
 have ti:=hf.ev (x:=x1) (L5 ho0 (by simp[ak,Op.operands,Call.operands]));have BZ:=hf.ev (x:=x2) (L5 ho0 (by simp[ak,Op.operands,Call.operands]));(have aJ:(execOp a1.eval o).run E.P w1= .ok (.round g f ((vs.toArray.setIfInBounds p1 (a1.eval x1)).setIfInBounds p2 (a1.eval x2)) ac cl1) w1:=by have I2:=run_yield (P:=E.P) (args:= #[a1.eval x1,a1.eval x2]) e4 rfl;simp only[execOp,ak,resolve,hyv,Deferred.ofValue,Sem.run_bind,Sem.run_pure,Result.andThen_ok,invoke];simpa using I2)
 (have ra:ops[pre.length]?=some o:=by rw[tH,List.getElem?_append_right (Nat.le_refl _)];simp);(have hw:Region.wanted o (yielded ops a1.tmps)=true:=by simp[Region.wanted,hg])
 have hgR:=stepGR_op (P:=E.P) (b:=fr) (k:=items k) (cs:=oO) (w:=w1) (rest:=List.range' (pre.length+1) rest.length) ra hw;rw[Oper.semAt_eq fr.roundOf a1.eval o (aA5 eP _ o ra)]at hgR
 have fD:Go.step E.P (lone (fr.atR a1 (.inRegion ops (pre.length::List.range' (pre.length+1) rest.length)::items k)) oO w1)= .next (lone (Frame.round g f ((vs.toArray.setIfInBounds p1 (a1.eval x1)).setIfInBounds p2 (a1.eval x2)) ac cl1 .normal) (fr.atR a1 (.inRegion ops (pre.length::List.range' (pre.length+1) rest.length)::items k)::oO) w1):=step_lone_go (by rw[hgR];simp[stepG.apply,aJ,Frame.atR])
 obtain⟨DG,_,hle⟩:=hf.ah0 cm0 cQ;(have co4:VX ν ids (fwd ids L)= .pointer (some ⟨g,0,none⟩):=by unfold VX;rw[(VW hL).2.1];exact e1);have cn7:PV.Pz ids cs=true:=Yg cQ (NY.1 hL) hl
 have cn1:=hle S (fun _ h=>h);obtain⟨w2,hp,GB⟩:=hRC w1 S (VX ν ids) vs (a1.eval x1) (a1.eval x2) g hf.YT (fun i b hb=>(N4 hb).1) DG co4 (Nx cn1 cn7 e5) (QP cn1 JP ti) (QP cn1 yb BZ) (fr.atR a1 (.inRegion ops (pre.length::List.range' (pre.length+1) rest.length)::items k)) oO
 obtain⟨hk,ν',S',h1,h2,h3,mS,u3⟩:=hp;obtain⟨vN,Ii⟩:=hf.Nf (d:=o.dst) cm0 cQ hk h1 h2 h3 mS u3 jS bd (My ho0);(have cn2:runs E G ops.toList [] [] rest (s'.Ol o.dst ids (.iv .bool e) bl') (fun s'=>u1 E G k s'):=by rw[Oj]at dQ;cases m with|zero=>simp only[pw]at dQ;exact dQ.elim|succ m=>simp only[pw]at dQ;exact CQ _ _ _ _ _ (fun Fb⟨j,hj,hq⟩=>Nk hE j k Fb bm (by rw[Oj];exact hq)) (Uj m [] rest _ dQ))
 have h4:=ar9 hE aV rest [] _ _ _ cm2 cn2 Ii.rel;(have Ir:wpOps E.P ops (Qg G w0 S0 (fun s'=>u1 E G k s')) (List.range' (pre.length+1) rest.length) (a1.put o.dst (.bool e)) w2:=by rw[CP rest (pre.length+1) (fun j _=>by rw[tH,List.getElem?_append_right (by omega),show pre.length+1+j-pre.length=j+1 from by omega];rfl)];simpa using h4)
 (have gx:(fr.atR a1 (.inRegion ops (pre.length::List.range' (pre.length+1) rest.length)::items k)).finish (.bool e)=fr.atR (a1.put o.dst (.bool e)) (.inRegion ops (List.range' (pre.length+1) rest.length)::items k):=by rw[Frame.finish_atR,ra];rfl)
 rw[gx]at GB;have cm7:=(Steps.head cn0 yr).trans (.head fD GB);rcases aT0 (fun _ _ h=>h) (aA5 eP) _ _ _ Ir fr (items k) oO with⟨a3,w3,⟨cl3,Ip,JL⟩,cm1⟩|⟨ch,a3,w3,td,hq,cm1⟩
 (·obtain⟨u,a4,cl4,td,hR,cn3⟩:=Ip w0 S0 a3 w3 JL fr oO Nt Dl EP;exact⟨u,a4,cl4,td,hR,cm7.trans (cm1.trans cn3)⟩);·exact⟨.panicking ch,a3,w3,td,hq,cm7.trans cm1⟩
theorem tN: ∀ {l:List Oper} {i:Nat} {o:Oper},Rz l i=some o→l=l.take i++o::l.drop (i+1)|[],_,_,h=>(by cases h)|x::r,0,o,h=>(by simp only[Rz,Option.some.injEq]at h;subst h;rfl)|x::r,i+1,o,h=>by simp only[Rz]at h;simp only[List.take_succ_cons,List.cons_append,List.drop_succ_cons];rw[←tN h]
theorem u1.yield {E:Env} (hE:L6 E) {G:Goal} {m id:Nat} {ops:List Oper} {k:List WI} {s s1:St} (i:Nat) {o:Oper} {y x1 x2:Operand} {tys:Array TypeId} {L f D:Nat} {pd:Option Code} {p1 p2:Tmp} {ac cl1:Code} {cs:List PV} (ids:List Nat) {e:Bool} {bl':List (Nat×L9)} (hi:Rz ops i=some o)(ak:o.op= .call { callee:=.value y,args:= #[x1,x2],argTypes:=tys })(hg:o.guard=none)(aV:ops.all (MV G.n)=true)(eP:ops.all am5=true)(gw:runs E G ops [] [] (ops.take i) s (fun s'=>s'=s1))(hy:s1.ev y= .Wi L)(hl:look L s1.bl=some (.gh (BE .ready pd f #[p1,p2] ac cl1 D) cs))(cm0:RN ids=true)(cQ:Sx ids s1.bl ids=true)(hL:LS L ids=true)(JP:PV.ZF ids (s1.ev x1)=true)(yb:PV.ZF ids (s1.ev x2)=true)(hRC:RC E (fwd ids L) f p1 p2 ac cl1 (PV.NG (fwd ids) cs) ((s1.ev x1).ND (fwd ids)) ((s1.ev x2).ND (fwd ids)) (Nb ids s1.bl ids P0) e bl')(jS:Wy (Nb ids s1.bl ids P0) bl'=true)(bd:ag0 (Nb ids s1.bl ids P0) (keys s1.bl) o.dst bl'=true)(bm:VP (drE E G.f drB (RD E) U8) G.n k=true)(dQ:PW E G m (.rest ops (ops.drop (i+1))::k) (s1.Ol o.dst ids (.iv .bool e) bl')):u1 E G (.code (.region id ⟨ops⟩ false)::k) s:=u1.G2 hE (ops:=⟨ops⟩) (pre:=ops.take i) (rest:=ops.drop (i+1)) (tN hi) ak hg aV eP gw hy hl cm0 cQ hL JP yb hRC jS bd bm dQ
theorem wh {c:Ctx} : ∀ {ps:List PV} {vs:List Value},ps.length=vs.length→(∀(i:Nat)(p:PV),ps[i]?=some p→ ∃v,vs[i]?=some v∧ep c p v)→LO c ps vs|[],vs,hl,_=>(by simp only[LO];exact List.length_eq_zero_iff.1 hl.symm)|p::ps,[],hl,_=>(by simp at hl)|p::ps,v::vs,hl,h=>by simp only[LO];obtain⟨v',h1,h2⟩:=h 0 p rfl;injection h1 with h1;subst h1;exact⟨v,vs,rfl,h2,wh (by simpa using hl) fun i q hq=>h (i+1) q hq⟩
theorem Full.IB {n:Nat} {w0:World} {S0:Cx} {s:St} {a:Act} {w:World} {ν:Nat→Value} {S:Nat→Prop} (h:Full n w0 S0 s a w ν S) {i:Nat} (hl:look i s.bl=none) {o:List Value→Obj} {cs:List PV} {vs:List Value} (fJ:LO h.c cs vs) {G3:Nat→Value} {IC:List Deferred} (br: ∀j,P0≤j→s.D j→G3 j=S0.ν j)(hi:P0≤i→G3 i= .pointer (some ⟨w.heap.size,0,none⟩)) {a1:Act} (ht:a1.tmps=a.tmps)(hd:a1.defers=IC):Full n w0 ⟨S0.S,S0.X,G3,IC⟩ ⟨s.sl,(i,.gh o cs)::s.bl⟩ a1 (w.alloc (o vs)) (fun j=>if j=i then .pointer (some ⟨w.heap.size,0,none⟩)else ν j) S:=by
 (have hD: ∀j,s.D j→j≠i∧(⟨s.sl,(i,.gh o cs)::s.bl⟩:St).D j:=by rintro j⟨c,hc⟩;(have bf:j≠i:=by rintro rfl;rw[hl]at hc;cases hc);exact⟨bf,c,by rw[L1 _ _ bf];exact hc⟩)
 have hw:=NJ w (o vs) none;have hle:Ctx.Le ⟨ν,s.D,w,⟨S,L4 w0 S0⟩⟩ ⟨fun j=>if j=i then .pointer (some ⟨w.heap.size,0,none⟩)else ν j,(⟨s.sl,(i,.gh o cs)::s.bl⟩:St).D,w.alloc (o vs),⟨S,L4 w0 S0⟩⟩:=⟨fun g hg=>hw.block g (h.W.lt g hg) (by simp),fun _ h=>h,fun j hj=>(hD j hj).2,fun j hj=>by simp[(hD j hj).1]⟩
 refine⟨h.below.grown hw (by simp),h.XQ,h.fresh,⟨fun g hg=>Nat.lt_of_lt_of_le (h.W.lt g hg) hw.size,fun g hg=>h.W.size g (Nat.le_trans hw.size hg),fun j c hc=>?_,fun j l c e qN hj oM g kB o9=>?_⟩,fun t=>?_,by rw[ht];exact h.size,hd,h.TT,fun j hj Fi=>?_,h.YS⟩
 (·by_cases pa:j=i;(·subst pa;rw[Mf]at hc;injection hc with hc;subst hc;exact⟨w.heap.size,vs,by simp,h.W.size _ (Nat.le_refl _),fun hS=>absurd (h.W.lt _ hS) (by simp),_root_.Go.heap_alloc_new w _,MD hle fJ⟩);·rw[L1 _ _ pa]at hc;refine Ru hle rfl (by simp[pa]) (fun g hg=>?_) (h.W.MS j c hc);exact⟨hw.block g (h.Pe hc hg).2.2 (by simp),fun h=>h⟩)
 (·by_cases pa:j=i;(·subst pa;have ID:l≠j:=fun e=>qN e.symm;rw[L1 _ _ ID]at oM;simp only[if_true]at kB;simp only[ID,if_false]at o9;injection kB with kB;exact h.beyond (by simp only at kB;omega) l _ oM o9);·rw[L1 _ _ pa]at hj;simp only[pa,if_false]at kB;by_cases Fp:l=i;(·subst Fp;simp only[if_true]at o9;injection o9 with o9;exact h.beyond (by simp only at o9;omega) j _ hj kB);·rw[L1 _ _ Fp]at oM;simp only[Fp,if_false]at o9;exact h.W.ne j l c e qN hj oM g kB o9)
 (·rw[ht];exact NV hle (h.N9 t));·by_cases pa:j=i;(·subst pa;simp only[if_true];exact(hi hj).symm);·simp only[pa,if_false];obtain⟨c,hc⟩:=Fi;rw[L1 _ _ pa]at hc;rw[h.kept j hj ⟨c,hc⟩];exact(br j hj ⟨c,hc⟩).symm
def CR:Option Code→List WI|none=>[]|some c=>[.code c]
theorem DX(pd:Option Code)(k:List WI):items (CR pd++k)=(pd.map Item.code).toList++items k:=by cases pd<;>rfl
theorem Full.IE {n:Nat} {w0:World} {S0:Cx} {s:St} {a:Act} {w:World} {ν:Nat→Value} {S:Nat→Prop} {d:Nat} {v:Value} (h:Full n w0 S0 s (a.put (some d) v) w ν S)(bt:a.tmps.size=n):Full n w0 S0 (s.set d .any) a w ν S:=by
 refine⟨h.below,h.XQ,h.fresh,⟨h.W.lt,h.W.size,h.W.MS,h.W.ne⟩,fun t=>?_,bt,by rw[←h.defers];rfl,h.TT,h.kept,h.YS⟩;by_cases ht:t=d;(·subst ht;rw[N6];simp only[ep])
 ·rw[NO _ _ ht];have:=h.N9 t;(have hp:(a.put (some d) v).tmps.getD t undef=a.tmps.getD t undef:=by simp only[Act.put,Array.getD_eq_getD_getElem?];rw[Array.getElem?_setIfInBounds_ne (Ne.symm ht)]);rw[hp]at this;exact this
theorem Full.mv {n:Nat} {w0:World} {S0:Cx} {s:St} {a:Act} {w:World} {ν:Nat→Value} {S:Nat→Prop} (h:Full n w0 S0 s a w ν S) {x y:Nat} (hx:P0≤x)(hy:y<P0)(hn:look y s.bl=none):Full n w0 S0 (s.ND (Me [(x,y),(y,x)])) a w (fun i=>ν (Me [(x,y),(y,x)] i)) S:=by
 (have yz:y≠x:=by omega);(have px:Me [(x,y),(y,x)] x=y:=by unfold Me;rw[Mf]);(have py:Me [(x,y),(y,x)] y=x:=by unfold Me;rw[L1 _ _ yz,Mf]);(have pz: ∀i,i≠x→i≠y→Me [(x,y),(y,x)] i=i:=fun i h1 h2=>by unfold Me;rw[L1 _ _ h1,L1 _ _ h2];rfl)
 (have h1: ∀i,Me [(x,y),(y,x)] (Me [(x,y),(y,x)] i)=i:=fun i=>by by_cases e1:i=x;(·rw[e1,px,py]);·by_cases e2:i=y;(·rw[e2,py,px]);·rw[pz i e1 e2,pz i e1 e2]);generalize hl:Me [(x,y),(y,x)]=ρ at*
 (have inj: ∀i j,ρ i=ρ j→i=j:=fun i j e=>by rw[←h1 i,←h1 j,e]);have o5: ∀i b,look i s.bl=some b→look (ρ i) (s.ND ρ).bl=some (b.map (PV.NG ρ)):=fun i b hb=>ON (fun j c _ e=>inj j i e) hb
 have hold: ∀i b,look i (s.ND ρ).bl=some b→ ∃j c,ρ j=i∧look j s.bl=some c∧b=c.map (PV.NG ρ):=fun i b hb=>QQ (fun j k _ _ _ _ e=>inj j k e) hb;have hle:Ctx.LeR (keys s.bl) ρ ⟨ν,s.D,w,⟨S,L4 w0 S0⟩⟩ ⟨fun i=>ν (ρ i),(s.ND ρ).D,w,⟨S,L4 w0 S0⟩⟩:=⟨fun _ _=>rfl,fun _ h=>h,fun i _⟨b,hb⟩=>⟨_,o5 i b hb⟩,fun i _ _=>by simp only[h1]⟩
 refine⟨h.below,h.XQ,h.fresh,⟨h.W.lt,h.W.size,fun i b hb=>?_,fun i j b c bT hi hj g hg b9=>?_⟩,fun t=>?_,h.size,h.defers,h.TT,fun i hi⟨b,hb⟩=>?_,h.YS⟩;(·obtain⟨j,c,rfl,hc,rfl⟩:=hold i b hb;have hr:=h.W.MS j c hc;exact SJ hle (S6 (fun _ h=>h) hr) (by simp only[h1]) (fun g hg=>⟨rfl,(Oi hr hg).1,(Oi hr hg).2.1⟩) hr)
 (·obtain⟨i',b',rfl,dG,_⟩:=hold i b hi;obtain⟨j',c',rfl,db,_⟩:=hold j c hj;simp only[h1]at hg b9;exact h.W.ne i' j' b' c' (fun e=>bT (by rw[e])) dG db g hg b9);(·(have e:(s.ND ρ).get t=(s.get t).ND ρ:=by simp only[St.get,St.ND,OV];cases look t s.sl<;>simp[PV.ND]);rw[e];have hs:=h.N9 t;exact QP hle (Rx (fun _ h=>h) hs) hs)
 ·obtain⟨j,c,rfl,hc,_⟩:=hold i b hb;(have IF:j≠y:=by rintro rfl;rw[hn]at hc;cases hc);(have Fk:j≠x:=by rintro rfl;rw[px]at hi;omega);simp only[pz j Fk IF];rw[pz j Fk IF]at hi;exact h.kept j hi ⟨c,hc⟩
theorem u1.mv {E:Env} {G:Goal} {todo:List WI} {s:St} (x y:Nat)(hx:P0≤x)(hy:y<P0)(hn:look y s.bl=none)(h:u1 E G todo (s.ND (Me [(x,y),(y,x)]))):u1 E G todo s:=by
 intro w0 S0 a w hr;obtain⟨ν,S,hf⟩:=hr.full;exact h w0 S0 a w (hf.mv hx hy hn).rel
def ew:Nat→List PV→List PV|0,ps=>ps|k+1,ps=>.any::ew k ps
theorem cJ {ks:List Nat} {ps:List PV} : ∀k,PV.Nm ks (ew k ps)=ew k (PV.Nm ks ps)|0=>rfl|k+1=>by simp only[ew,PV.Nm,PV.kill,cJ k]
theorem dW {ρ:Nat→Nat} {ps:List PV} : ∀k,PV.NG ρ (ew k ps)=ew k (PV.NG ρ ps)|0=>rfl|k+1=>by simp only[ew,PV.NG,PV.ND,dW k]
theorem dX {ks:List Nat} {ps:List PV} : ∀k,PV.Pz ks (ew k ps)=PV.Pz ks ps|0=>rfl|k+1=>by simp only[ew,PV.Pz,PV.ZF,dX k,Bool.true_and]
theorem dY {ps:List PV} : ∀k,PV.Po (ew k ps)=PV.Po ps|0=>rfl|k+1=>by simp only[ew,PV.Po,PV.ids,dY k,List.nil_append]
theorem dk {ks:List Nat} {bl:List (Nat×L9)} {ps:List PV} : ∀k,PV.OE ks bl (ew k ps)=ew k (PV.OE ks bl ps)|0=>rfl|k+1=>by simp only[ew,PV.OE,PV.Mb,dk k]
theorem nI {ps:List PV} : ∀ {k t:Nat} {p:PV},(ew k ps)[t]?=some p→p= .any∨(k≤t∧ps[t-k]?=some p)|0,t,p,h=>.inr ⟨Nat.zero_le _,h⟩|k+1,0,p,h=>(by simp only[ew,List.getElem?_cons_zero,Option.some.injEq]at h;exact .inl h.symm)|k+1,t+1,p,h=>by simp only[ew,List.getElem?_cons_succ]at h;rcases nI h with h'|⟨h1,h2⟩;(·exact .inl h');·exact .inr ⟨by omega,by rw[show t+1-(k+1)=t-k from by omega];exact h2⟩
theorem u1.rangeFunc {E:Env} (hE:L6 E) {G:Goal} {x:Operand} {p1 p2:Tmp} {ac cl1:Code} {k:List WI} {s:St} {cl5:Nat} {T:Ty} {cl6:T.den} {fn:Func} {q gL dd:Nat} {cs:List PV} {ids:List Nat} {bl':Nat→List (Nat×L9)} (hG:G.fr= .fn)(cn8:G.Sh=false)(hmo:G.more=none)(hqG:look q G.bl=none)(hLG:look gL G.bl=none)(hx:s.ev x= .iv (.OM cl5 T) cl6)(Lm:RR x=true)(Nt:E.P.funcs[cl5]?=some fn)(hb:fn.body.isSome=true)(cn9:fn.name≠ "runtime.NumGoroutine")(hq:P0≤q)(hqn:look q s.bl=none)(hLn:look gL s.bl=none)(hgL:P0≤gL)(hqL:gL≠q)(qU:cs.length=G.n)(co5: ∀t p,cs[t]?=some p→p=s.get t∨p= .any)(cm0:RN ids=true)(hL:LS gL ids=true)(fY:dd<G.n)(h: ∀D,Sx ids ((gL,.gh (BE .ready none G.f #[p1,p2] ac cl1 D) cs)::(q,.gh dfO [])::s.bl) ids=true∧PV.Pz ids (.Wi gL::RM T cl6)=true∧HC E cl5 (PV.NG (fwd ids) (.Wi gL::RM T cl6)) (Nb ids ((gL,.gh (BE .ready none G.f #[p1,p2] ac cl1 D) cs)::(q,.gh dfO [])::s.bl) ids P0) (.Mj []) (bl' D)∧Wy (Nb ids ((gL,.gh (BE .ready none G.f #[p1,p2] ac cl1 D) cs)::(q,.gh dfO [])::s.bl) ids P0) (bl' D)=true∧ag0 (Nb ids ((gL,.gh (BE .ready none G.f #[p1,p2] ac cl1 D) cs)::(q,.gh dfO [])::s.bl) ids P0) (keys ((gL,.gh (BE .ready none G.f #[p1,p2] ac cl1 D) cs)::(q,.gh dfO [])::s.bl)) (some dd) (bl' D)=true∧ ∃st pd cs3,look gL ((⟨s.sl,(gL,.gh (BE .ready none G.f #[p1,p2] ac cl1 D) cs)::(q,.gh dfO [])::s.bl⟩:St).Ol (some dd) ids (.Mj []) (bl' D)).bl=some (.gh (BE st pd G.f #[p1,p2] ac cl1 D) cs3)∧st≠ .busy∧u1 E { G with fr:=.aft q } (CR pd++k) ⟨(((⟨s.sl,(gL,.gh (BE .ready none G.f #[p1,p2] ac cl1 D) cs)::(q,.gh dfO [])::s.bl⟩:St).Ol (some dd) ids (.Mj []) (bl' D)).set dd .any).sl,(gL,.gh (BE .exhausted pd G.f #[p1,p2] ac cl1 D) cs3)::((⟨s.sl,(gL,.gh (BE .ready none G.f #[p1,p2] ac cl1 D) cs)::(q,.gh dfO [])::s.bl⟩:St).Ol (some dd) ids (.Mj []) (bl' D)).bl⟩):u1 E G (.code (.rangeFunc x #[p1,p2] ac cl1)::k) s:=by
 intro w0 S0 a w hr fr oO vB Dl EP;(have cm4:fr.roundOf=none:=by rw[EP];unfold Goal.ro;rw[hG]);obtain⟨ν,S,hf⟩:=hr.full;obtain⟨h1,h2,Gq,jS,bd,st,pd,cs3,hl3,co0,hW⟩:=h w.heap.size
 have hfD:=hf.IB hqn (o:=dfO) (cs:=[]) (vs:=[]) (by simp only[LO]) (G3:=fun i=>if i=q then .pointer (some ⟨w.heap.size,0,none⟩)else S0.ν i) (IC:= { target:=.collected w.heap.size,args:= #[] } ::S0.df) (fun j hj⟨b,hb⟩=>by rw[if_neg (by rintro rfl;rw[hqn]at hb;cases hb)]) (fun _=>by simp) (a1:= { a with defers:=[{ target:=.collected w.heap.size,args:= #[] }]++a.defers }) rfl (by simp[hf.defers])
 (have co1:look gL (⟨s.sl,(q,.gh dfO [])::s.bl⟩:St).bl=none:=by show look gL ((q,_)::s.bl)=none;rw[L1 _ _ hqL];exact hLn);(have co6:LO hfD.c cs a.tmps.toList:=by refine wh (by rw[qU,Array.length_toList,hf.size]) fun i p hp=>?_;(have hi:i<a.tmps.toList.length:=by have:=(List.getElem?_eq_some_iff.1 hp).1;rw[Array.length_toList,hf.size,←qU];exact this);refine⟨a.tmps.toList[i],List.getElem?_eq_getElem hi,?_⟩;have hs:=hfD.N9 i;(have eu:a.tmps.getD i undef=a.tmps.toList[i]:=by rw[Array.getD_eq_getD_getElem?];(have:a.tmps[i]?=some a.tmps.toList[i]:=by simp);rw[this];rfl);rcases co5 i p hp with rfl|rfl;(·rw[←eu];exact hs);·simp only[ep])
 have hfL:=hfD.IB co1 (o:=BE .ready none G.f #[p1,p2] ac cl1 w.heap.size) co6 (G3:=fun i=>if i=gL then .pointer (some ⟨w.heap.size+1,0,none⟩)else if i=q then .pointer (some ⟨w.heap.size,0,none⟩)else S0.ν i) (IC:= { target:=.collected w.heap.size,args:= #[] } ::S0.df) (fun j hj⟨b,hb⟩=>by(have hjL:j≠gL:=by rintro rfl;rw[co1]at hb;cases hb);rw[if_neg hjL]) (fun _=>by simp[World.size_alloc]) (a1:= { a with defers:=[{ target:=.collected w.heap.size,args:= #[] }]++a.defers }) rfl (by simp[hf.defers])
 have rm:=run_enterLoop_outer (P:=E.P) (w:=w) fr.fn a.tmps #[p1,p2] ac cl1;rw[←cm4]at rm;obtain⟨w1,oG⟩: ∃w1,w1=(w.alloc (.deferred (some []))).alloc (.loop { state:=.ready,pending:=none,fn:=G.f,tmps:=a.tmps,params:= #[p1,p2],assign:=ac,body:=cl1,defers:=w.heap.size }):=⟨_,rfl⟩
 rw[vB,←oG]at rm;(have cn4:(w.alloc (dfO [])).alloc (BE .ready none G.f #[p1,p2] ac cl1 w.heap.size a.tmps.toList)=w1:=by rw[oG];rfl);rw[cn4]at hfL;have hg:=hf.ev (x:=x) Lm
 rw[hx]at hg;simp only[ep]at hg;obtain⟨CH,hg⟩:=hg;obtain⟨oH,kI,kE⟩:L3 (.OM cl5 T) cl6 hf.c.w hf.c.M [a.eval x]:=hg;injection kI with kI;have dh:Ma T=0:=CH;have Kq:=hfL.ev (x:=x) Lm
 (have co7:(⟨s.sl,(gL,.gh (BE .ready none G.f #[p1,p2] ac cl1 w.heap.size) cs)::(q,.gh dfO [])::s.bl⟩:St).ev x= .iv (.OM cl5 T) cl6:=by rw[←hx];cases x<;>rfl);rw[co7]at Kq
 simp only[ep]at Kq;obtain⟨_,Kq⟩:=Kq;obtain⟨cm3,cm6,cn5⟩:L3 (.OM cl5 T) cl6 hfL.c.w hfL.c.M [({ a with defers:=[{ target:=.collected w.heap.size,args:= #[] }]++a.defers } :Act).eval x]:=Kq
 injection cm6 with cm6;(have kD:({ a with defers:=[{ target:=.collected w.heap.size,args:= #[] }]++a.defers } :Act).eval x=a.eval x:=by cases x<;>rfl);rw[kD]at cm6
 (have CI:fn.body.isNone=false:=by cases dG:fn.body<;>simp_all);(have Fq:(fn.name== "runtime.NumGoroutine")=false:=by simpa using cn9);have bt:(w.alloc (dfO [])).heap.size=w.heap.size+1:=World.size_alloc ..
 (have vJ:(resolve a.eval (rangeCall x (w.heap.size+1)) 0).run E.P w1= .ok { target:=.fn (.func cl5) cm3.toArray,args:= #[.func (.yield (w.heap.size+1)) #[] #[]] } w1:=by simp only[resolve,rangeCall,cm6,Deferred.ofValue,Sem.run_pure];simp[Act.eval])
 (have hinv:(invoke (.fn (.func cl5) cm3.toArray) #[.func (.yield (w.heap.size+1)) #[] #[]]).run E.P w1= .ok (.enter cl5 (.func (.yield (w.heap.size+1)) #[] #[]::cm3).toArray) w1:=by simp only[invoke,callFunc,Sem.run_bind,run_program,Result.andThen_ok,Nt,Fq,Bool.false_eq_true,if_false,CI,Sem.run_pure];congr 2;apply Array.toList_inj.1;simp)
 rw[vB.symm]at rm;have co8:=stepR_rangeFunc (P:=E.P) (b:=fr) (a:=a) (k:=items k) (cs:=oO) rm vJ hinv;obtain⟨DG,sr,hle⟩:=hfL.ah0 (ids:=ids) cm0 h1;(have ez:LO hfL.c (.Wi gL::RM T cl6) (.func (.yield (w.heap.size+1)) #[] #[]::cm3):=by simp only[LO,ep];refine⟨_,_,rfl,⟨⟨_,Mf _ _ _⟩,w.heap.size+1,?_,rfl⟩,?_⟩;(·show(if gL=gL then _ else _)=_;rw[if_pos rfl,bt]);·exact WR T cl6 cm3 dh cn5)
 have Q4:=Gq w1 S _ _ hfL.W.lt hfL.YT sr (fun i b hb=>(N4 (s:=⟨s.sl,(gL,.gh (BE .ready none G.f #[p1,p2] ac cl1 w.heap.size) cs)::(q,.gh dfO [])::s.bl⟩) hb).1) DG (Nx (hle S (fun _ h=>h)) h2 ez) (fr.atR { a with defers:=[{ target:=.collected w.heap.size,args:= #[] }]++a.defers } (.inRangeFunc (w.heap.size+1)::items k)::oO)
 obtain⟨e,w2,fr2,⟨v,rfl,hk,ν',S',b1,b2,b3,mS,u3⟩,fh,_,kO⟩:=Q4;obtain⟨vN,co9⟩:=hfL.Nf (d:=some dd) cm0 h1 hk b1 b2 b3 mS u3 jS bd (fun e he=>by cases he;exact fY)
 have Ii:=co9.IE hf.size;obtain⟨g,vs,e1,_,_,e4,_,xx⟩:=Ii.ax3 hl3;(have cp0:g=w.heap.size+1:=by have Gk:=Ii.kept gL hgL ⟨_,hl3⟩;rw[e1]at Gk;simp only[if_true]at Gk;injection Gk with Gk;injection Gk with Gk;injection Gk with Gk)
 subst cp0;have cm1:=step_leave_returned (c:=fr.atR { a with defers:=[{ target:=.collected w.heap.size,args:= #[] }]++a.defers } (.inRangeFunc (w.heap.size+1)::items k)) (cs:=oO) kO
 rw[finish_atR_inRangeFunc]at cm1;have zx:=run_endLoop (P:=E.P) e4 (by simpa[BE]using co0);have cn3:=stepR_endRangeFunc (P:=E.P) (b:=fr) (a:= { a with defers:=[{ target:=.collected w.heap.size,args:= #[] }]++a.defers }) (k:=items k) (cs:=oO) zx
 obtain⟨u,a',w',td,hR,co2⟩:=hW w0 _ _ _ (xx (BE .exhausted pd G.f #[p1,p2] ac cl1 w.heap.size)).rel fr oO vB Dl (by rw[cm4];rfl);rw[DX]at co2;refine⟨u,a',w',td,?_,(Steps.head co8 fh).trans (.head cm1 (.head cn3 co2))⟩
 cases u with|returning=>exact hR.elim|panicking ch=>exact absurd hR.1 (by simp[cn8])|run=>obtain⟨r1,r2,ck5⟩:=hR;unfold Wu;rw[hG];refine⟨cn8,?_,?_⟩;(·unfold leaves at r2⊢;rw[hG];exact r2);·obtain⟨w3,hm,vs3,JL,hp3⟩:=ck5 w.heap.size S0.df (by simp only[if_neg (Ne.symm hqL),if_true]) rfl;refine⟨w3,hm,vs3,JL,?_⟩;unfold Wt at hp3⊢;simp only[hmo]at hp3⊢;obtain⟨c1,ν3,cl7,c2,c3,c4,cl8,cl9⟩:=hp3;refine⟨c1,ν3,cl7,c2,c3,fun i hi hD=>?_,cl8,cl9⟩;obtain⟨b,hb⟩:=hD;(have bf:i≠q:=by rintro rfl;rw[hqG]at hb;cases hb);(have cp1:i≠gL:=by rintro rfl;rw[hLG]at hb;cases hb);rw[c4 i hi ⟨b,hb⟩];simp[bf,cp1]
end Go.Proofs.YtgpkijnphchkpaaGreat
