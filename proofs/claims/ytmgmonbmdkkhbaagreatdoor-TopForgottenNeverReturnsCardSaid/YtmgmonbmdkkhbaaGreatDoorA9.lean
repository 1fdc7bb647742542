/-
  From the reading of arguments to the data that they represent; a law's row from its contract. Nothing here is trusted; no condition.
-/
import Derived.Test.YtmgmonbmdkkhbaaGreatDoorA8
import Derived.ProofKit
import Derived.OpenShut
import Derived.Deep.Slices
set_option linter.unusedSimpArgs false
set_option linter.unusedVariables false
namespace Go.Proofs.YtmgmonbmdkkhbaaGreatDoor
variable {c8:Prop} [hZ c8]
abbrev PwT:=Nat→List WI→St→Prop
abbrev PoT:=Nat→List Oper→List Nat→List (List Nat)→List Oper→List WI→St→Prop
abbrev PqT:=Nat→Out→Option Nat→List Oper→List Nat→List (List Nat)→List Oper→List WI→St→Prop
structure Pack(E:Env)(G:Goal)where
 W:PwT
 O:PoT
 Q:PqT
 hW:W=pw E G
 hO:O=po E G
 hQ:Q=pq E G
theorem nq(E:Env)(G:Goal):Nonempty (Pack E G):=⟨⟨_,_,_,rfl,rfl,rfl⟩⟩
noncomputable def PW(E:Env)(G:Goal):PwT:=(Classical.choice (nq E G)).W
noncomputable def PO(E:Env)(G:Goal):PoT:=(Classical.choice (nq E G)).O
noncomputable def PQ(E:Env)(G:Goal):PqT:=(Classical.choice (nq E G)).Q
theorem ei(E:Env)(G:Goal):PW E G=pw E G:=(Classical.choice (nq E G)).hW
theorem gd(E:Env)(G:Goal):PO E G=po E G:=(Classical.choice (nq E G)).hO
theorem fE(E:Env)(G:Goal):PQ E G=pq E G:=(Classical.choice (nq E G)).hQ
def PB(E:Env)(G:Goal)(n:Nat)(v:PV)(a b:Code)(k:List WI)(s:St):Prop:=match v with|.iv .bool c=>(c=true→PW E G n (.code a::k) s)∧(c=false→PW E G n (.code b::k) s)|_=>fC 1001
def PK(E:Env)(G:Goal)(n:Nat)(v:PV)(d:Nat)(want:Bool)(o:Oper)(all:List Oper)(N:List Nat)(acc:List (List Nat))(os:List Oper)(k:List WI)(s:St):Prop:=match v with|.iv .bool b=>(b=want→PQ E G n (ai E (dH all N acc o) (s.set d (.iv .bool want)) o) o.dst all N (step1 N acc o) os k (s.set d (.iv .bool want)))∧(b= !want→PO E G n all N (step1 N acc o) os k ((s.set d (.iv .bool (!want))).put o.dst (.aP [])))|.aP []=>PO E G n all N (step1 N acc o) os k (s.put o.dst (.aP []))|_=>fC 1004
def PH(E:Env)(G:Goal)(n:Nat)(g:Option Nat)(want:Bool)(o:Oper)(all:List Oper)(N:List Nat)(acc:List (List Nat))(os:List Oper)(k:List WI)(s:St):Prop:=match g with|some d=>PK E G n (s.get d) d want o all N acc os k s|none=>fC 1005
def PX(E:Env)(G:Goal)(n:Nat)(k:Option (List WI))(s:St):Prop:=match k with|some k=>PW E G n k s|none=>fC 1002
section
variable {E:Env} {G:Goal} {n:Nat} {d:Option Nat} {all:List Oper} {N:List Nat} {acc:List (List Nat)} {os:List Oper} {k:List WI} {s:St}
theorem Mp {p:Prop} {o:Out} :PQ E G (n+1) (.bU p o) d all N acc os k s=(p∧PQ E G n o d all N acc os k s):=by simp only[fE,pq]
theorem TL {T:Ty} {p:T.den→Prop} {f:T.den→Out} :PQ E G (n+1) (.qA T p f) d all N acc os k s= ∃x:T.den,p x∧PQ E G n (f x) d all N acc os k s:=by simp only[fE,pq]
theorem Mq {f:Nat} {xs:List (Sigma Ty.den)} {T:Ty} {g:T.den→Out} :PQ E G (n+1) (.call f xs T g) d all N acc os k s= ∃r:T.den,PC E f xs T r∧(T.ok r→PQ E G n (g r) d all N acc os k s):=by
 simp only[fE,pq]
theorem IQ {f:Nat} {xs:List (Sigma Ty.den)} {T:Ty} {g:T.den→Out} :PQ E G (n+1) (.jh f xs T g) d all N acc os k s= ∃Y:T.den→Prop,PN E f xs T Y∧ ∀r,Y r→T.ok r→PQ E G n (g r) d all N acc os k s:=by
 simp only[fE,pq]
theorem TM {v:PV} :PQ E G (n+1) (.val v) d all N acc os k s=PO E G n all N acc os k (s.put d v):=by simp only[fE,gd,pq]
theorem TN {v:PV} {b:aL} {d:Nat} :PQ E G (n+1) (.new v b) (some d) all N acc os k s=PO E G n all N acc os k ⟨(d,v)::s.sl,(d,b)::s.bl⟩:=by simp only[fE,gd,pq]
theorem IS {i:Nat} {b:aL} :PQ E G (n+1) (.store i b) d all N acc os k s=PO E G n all N acc os k ⟨s.sl,(i,b)::s.bl⟩:=by simp only[fE,gd,pq]
theorem F0 {i j:Nat} {b:aL} {d:Nat} :PQ E G (n+1) (.append i j b) (some d) all N acc os k s=PO E G n all N acc os k ⟨(d,.aI j)::(s.kill [i]).sl,(j,b)::cy [i] (s.kill [i]).bl⟩:=by
 simp only[fE,gd,pq]
theorem F1 {ks:List Nat} {v:PV} :PQ E G (n+1) (.dp ks v) d all N acc os k s=PO E G n all N acc os k ((s.aN ks).put d v):=by simp only[fE,gd,pq]
theorem TO {i:Nat} {b:aL} {v:PV} {d:Nat} :PQ E G (n+1) (.nS i b v) (some d) all N acc os k s=PO E G n all N acc os k ⟨(d,v)::s.sl,(i,b)::s.bl⟩:=by simp only[fE,gd,pq]
theorem TP {p:Prop} {o:Out} :PQ E G (n+1) (.imp p o) d all N acc os k s=(p→PQ E G n o d all N acc os k s):=by simp only[fE,pq]
theorem Mr {a b:Out} :PQ E G (n+1) (.both a b) d all N acc os k s=(PQ E G n a d all N acc os k s∧PQ E G n b d all N acc os k s):=by simp only[fE,pq]
theorem Ms {T:Ty} {p:T.den→Prop} {f:T.den→Out} :PQ E G (n+1) (.lG T p f) d all N acc os k s= ∀x:T.den,p x→PQ E G n (f x) d all N acc os k s:=by simp only[fE,pq]
theorem Mt {p:Nat→Prop} {f:Nat→Out} :PQ E G (n+1) (.oO p f) d all N acc os k s= ∀x:Nat,p x→PQ E G n (f x) d all N acc os k s:=by simp only[fE,pq]
def HQ(E:Env)(G:Goal)(n:Nat)(f:Nat)(args:List PV)(bl:List (Nat×aL))(ids:List Nat)(fl:Bool)(used:List Nat)(d' d:Option Nat)(all:List Oper)(N:List Nat)(acc:List (List Nat))(os:List Oper)(k:List WI)(s:St):Prop:= ∃p bl',HC E f args bl p bl'∧ti bl bl' fl used d' p=true∧(Hj p→oY bl'→PO E G n all N acc os k (s.cx d ids p bl'))
def HNQ(E:Env)(G:Goal)(n:Nat)(f:Nat)(args:List PV)(bl:List (Nat×aL))(ids:List Nat)(fl:Bool)(used:List Nat)(d' d:Option Nat)(all:List Oper)(N:List Nat)(acc:List (List Nat))(os:List Oper)(k:List WI)(s:St):Prop:= ∃(T:Ty)(Y:T.den→Prop)(p:T.den→PV)(bl':T.den→List (Nat×aL)),HN E f args bl T Y p bl'∧ ∀r,Y r→ti bl (bl' r) fl used d' (p r)=true∧(Hj (p r)→oY (bl' r)→PO E G n all N acc os k (s.cx d ids (p r) (bl' r)))
theorem F2 {f:Nat} {args:List PV} {bl:List (Nat×aL)} {ids:List Nat} {fl:Bool} {used:List Nat} {d':Option Nat} :PQ E G (n+1) (.fJ f args bl ids fl used d') d all N acc os k s=HNQ E G n f args bl ids fl used d' d all N acc os k s:=by
 simp only[fE,gd,pq,HNQ]
theorem ZC {f:Nat} {args:List PV} {bl:List (Nat×aL)} {T:Ty} {Y:T.den→Prop} {p:T.den→PV} {bl':T.den→List (Nat×aL)} :HN E.go f args bl T Y p bl'=HN E f args bl T Y p bl':=rfl
theorem IT {f:Nat} {args:List PV} {bl:List (Nat×aL)} {ids:List Nat} {fl:Bool} {used:List Nat} {d':Option Nat} :PQ E G (n+1) (.ji f args bl ids fl used d') d all N acc os k s=HQ E G n f args bl ids fl used d' d all N acc os k s:=by
 simp only[fE,gd,pq,HQ]
theorem TQ:PO E G (n+1) all N acc [] k s=PW E G n k s:=by simp only[gd,ei,po]
def PJ(E:Env)(G:Goal)(n:Nat)(cp:Bool)(o:Oper)(all:List Oper)(N:List Nat)(acc:List (List Nat))(os:List Oper)(k:List WI)(s:St):Prop:=match cp with|false=>PQ E G n (ai E (dH all N acc o) s o) o.dst all N (step1 N acc o) os k s|true=>PQ E G n (ai E (dH all N acc o) s o) o.dst all N (step1 N acc o) os k s∨iX E G s o
theorem Mu {f n':Nat} {rv:List ResultVar} {p:PV} {bl:List (Nat×aL)} {mo:Option ((T:Ty)×(T.den→Prop)×(T.den→PV)×(T.den→List (Nat×aL)))} {rn:Fr} {dst:Option Tmp} {op:Op} {ty:TypeId} {pos:String} {af:Array Edge} :PO E ⟨f,n',rv,p,bl,mo,false,rn⟩ (n+1) all N acc (⟨dst,op,ty,pos,af,none⟩::os) k s=PQ E ⟨f,n',rv,p,bl,mo,false,rn⟩ n (ai E (dH all N acc ⟨dst,op,ty,pos,af,none⟩) s ⟨dst,op,ty,pos,af,none⟩) dst all N (step1 N acc ⟨dst,op,ty,pos,af,none⟩) os k s:=by
 simp only[gd,fE,po,dC]
theorem IU {f n':Nat} {rv:List ResultVar} {p:PV} {bl:List (Nat×aL)} {mo:Option ((T:Ty)×(T.den→Prop)×(T.den→PV)×(T.den→List (Nat×aL)))} {rn:Fr} {dst:Option Tmp} {op:Op} {ty:TypeId} {pos:String} {af:Array Edge} :PO E ⟨f,n',rv,p,bl,mo,true,rn⟩ (n+1) all N acc (⟨dst,op,ty,pos,af,none⟩::os) k s=PJ E ⟨f,n',rv,p,bl,mo,true,rn⟩ n (dC E ⟨f,n',rv,p,bl,mo,true,rn⟩ N s ⟨dst,op,ty,pos,af,none⟩) ⟨dst,op,ty,pos,af,none⟩ all N acc os k s:=by
 simp only[gd,po];unfold PJ;rw[fE];rfl
theorem ao6 {o:Oper} :PJ E G n false o all N acc os k s=PQ E G n (ai E (dH all N acc o) s o) o.dst all N (step1 N acc o) os k s:=rfl
theorem ao7 {o:Oper} :PJ E G n true o all N acc os k s=(PQ E G n (ai E (dH all N acc o) s o) o.dst all N (step1 N acc o) os k s∨iX E G s o):=rfl
theorem F3 {ks:List Nat} {i:Nat} {b:aL} :PQ E G (n+1) (.ez ks i b) d all N acc os k s=PO E G n all N acc os k ⟨(s.aN ks).sl,(i,b)::(s.aN ks).bl⟩:=by simp only[fE,gd,pq]
theorem Mv {dst:Option Tmp} {op:Op} {ty:TypeId} {pos:String} {af:Array Edge} {j:Nat} {want:Bool} :PO E G (n+1) all N acc (⟨dst,op,ty,pos,af,some (j,want)⟩::os) k s=PH E G n (bu all j) want ⟨dst,op,ty,pos,af,some (j,want)⟩ all N acc os k s:=by
 simp only[gd,po];unfold PH;cases bu all j with|none=>rfl|some d=>simp only[PK,gd,fE];rfl
theorem Mw {d:Nat} {want:Bool} {o:Oper} :PH E G n (some d) want o all N acc os k s=PK E G n (s.get d) d want o all N acc os k s:=rfl
theorem ZD {d:Nat} {o:Oper} :PK E G n (.iv .bool true) d true o all N acc os k s=PQ E G n (ai E (dH all N acc o) (s.set d (.iv .bool true)) o) o.dst all N (step1 N acc o) os k (s.set d (.iv .bool true)):=by
 simp[PK]
theorem ZE {d:Nat} {o:Oper} :PK E G n (.iv .bool false) d false o all N acc os k s=PQ E G n (ai E (dH all N acc o) (s.set d (.iv .bool false)) o) o.dst all N (step1 N acc o) os k (s.set d (.iv .bool false)):=by
 simp[PK]
theorem ZF {d:Nat} {o:Oper} :PK E G n (.iv .bool true) d false o all N acc os k s=PO E G n all N (step1 N acc o) os k ((s.set d (.iv .bool true)).put o.dst (.aP [])):=by simp[PK]
theorem ZG {d:Nat} {o:Oper} :PK E G n (.iv .bool false) d true o all N acc os k s=PO E G n all N (step1 N acc o) os k ((s.set d (.iv .bool false)).put o.dst (.aP [])):=by simp[PK]
theorem IV {d:Nat} {want:Bool} {o:Oper} :PK E G n (.aP []) d want o all N acc os k s=PO E G n all N (step1 N acc o) os k (s.put o.dst (.aP [])):=rfl
theorem IW {d:Nat} {o:Oper} {p:Prop} [Decidable p]:PK E G n (.iv .bool (decide p)) d true o all N acc os k s=((p→PQ E G n (ai E (dH all N acc o) (s.set d (.iv .bool true)) o) o.dst all N (step1 N acc o) os k (s.set d (.iv .bool true)))∧(¬p→PO E G n all N (step1 N acc o) os k ((s.set d (.iv .bool false)).put o.dst (.aP [])))):=by
 simp[PK]
theorem IX {d:Nat} {o:Oper} {p:Prop} [Decidable p]:PK E G n (.iv .bool (decide p)) d false o all N acc os k s=((¬p→PQ E G n (ai E (dH all N acc o) (s.set d (.iv .bool false)) o) o.dst all N (step1 N acc o) os k (s.set d (.iv .bool false)))∧(p→PO E G n all N (step1 N acc o) os k ((s.set d (.iv .bool true)).put o.dst (.aP [])))):=by
 simp[PK]
theorem ao8 {a b:Code} :PB E G n (.iv .bool true) a b k s=PW E G n (.code a::k) s:=by simp[PB]
theorem ao9 {a b:Code} :PB E G n (.iv .bool false) a b k s=PW E G n (.code b::k) s:=by simp[PB]
theorem TR {a b:Code} {p:Prop} [Decidable p]:PB E G n (.iv .bool (decide p)) a b k s=((p→PW E G n (.code a::k) s)∧(¬p→PW E G n (.code b::k) s)):=by simp[PB]
theorem Mx {a b:Code} {p:Prop} [Decidable p]:PB E G n (.iv .bool !(decide p)) a b k s=((p→PW E G n (.code b::k) s)∧(¬p→PW E G n (.code a::k) s)):=by simp[PB,and_comm]
theorem F4 {d:Nat} {o:Oper} {p:Prop} [Decidable p]:PK E G n (.iv .bool !(decide p)) d true o all N acc os k s=((¬p→PQ E G n (ai E (dH all N acc o) (s.set d (.iv .bool true)) o) o.dst all N (step1 N acc o) os k (s.set d (.iv .bool true)))∧(p→PO E G n all N (step1 N acc o) os k ((s.set d (.iv .bool false)).put o.dst (.aP [])))):=by
 simp[PK]
theorem F5 {d:Nat} {o:Oper} {p:Prop} [Decidable p]:PK E G n (.iv .bool !(decide p)) d false o all N acc os k s=((p→PQ E G n (ai E (dH all N acc o) (s.set d (.iv .bool false)) o) o.dst all N (step1 N acc o) os k (s.set d (.iv .bool false)))∧(¬p→PO E G n all N (step1 N acc o) os k ((s.set d (.iv .bool true)).put o.dst (.aP [])))):=by
 simp[PK]
theorem ap0 {a b:Code} {c:Bool} :PB E G n (.iv .bool c) a b k s=((c=true→PW E G n (.code a::k) s)∧(c=false→PW E G n (.code b::k) s)):=rfl
theorem My {k:List WI} :PX E G n (some k) s=PW E G n k s:=rfl
theorem TS {f n':Nat} {rv:List ResultVar} {p:PV} {bl:List (Nat×aL)} {mo:Option ((T:Ty)×(T.den→Prop)×(T.den→PV)×(T.den→List (Nat×aL)))} {lA:Bool} :PW E ⟨f,n',rv,p,bl,mo,lA,.fn⟩ (n+1) [] s=r8 E ⟨f,n',rv,p,bl,mo,lA,.fn⟩ s:=by
 simp only[ei,pw,me]
theorem Mz {f n':Nat} {rv:List ResultVar} {p:PV} {bl:List (Nat×aL)} {mo:Option ((T:Ty)×(T.den→Prop)×(T.den→PV)×(T.den→List (Nat×aL)))} {lA:Bool} {L:Nat} :PW E ⟨f,n',rv,p,bl,mo,lA,.Lz L true⟩ (n+1) [] s=r8 E ⟨f,n',rv,p,bl,mo,lA,.Lz L true⟩ s:=by
 simp only[ei,pw,me]
theorem MA {f n':Nat} {rv:List ResultVar} {p:PV} {bl:List (Nat×aL)} {mo:Option ((T:Ty)×(T.den→Prop)×(T.den→PV)×(T.den→List (Nat×aL)))} {lA:Bool} {L:Nat} :PW E ⟨f,n',rv,p,bl,mo,lA,.Lz L false⟩ (n+1) (.code .ret::k) s=r8 E ⟨f,n',rv,p,bl,mo,lA,.Lz L false⟩ s:=by
 simp only[ei,pw,me]
theorem MB {f n':Nat} {rv:List ResultVar} {p:PV} {bl:List (Nat×aL)} {mo:Option ((T:Ty)×(T.den→Prop)×(T.den→PV)×(T.den→List (Nat×aL)))} {lA:Bool} {q:Nat} :PW E ⟨f,n',rv,p,bl,mo,lA,.Yz q⟩ (n+1) (.code .ret::k) s=(Nat.ble P0 q=true∧look q s.bl=some (.gh dfO [])∧r8 E ⟨f,n',rv,p,bl,mo,lA,.Yz q⟩ ⟨s.sl,(q,.gh dnO [])::s.bl⟩):=by
 simp only[ei,pw,me]
theorem IY:PW E G (n+1) (.begin::k) s=av E G (.begin::k) s:=by simp only[ei,pw]
theorem yr {x:Operand} {ps:Array Tmp} {a b:Code} :PW E G (n+1) (.code (.rangeFunc x ps a b)::k) s=av E G (.code (.rangeFunc x ps a b)::k) s:=by simp only[ei,pw]
theorem TT {i:Nat} :PW E G (n+1) (.bM i::k) s=PW E G n k s:=by simp only[ei,pw]
theorem F6 {c:Code} :PW E G (n+1) (.loop c::k) s=av E G (.loop c::k) s:=by simp only[ei,pw]
theorem MC:PW E G (n+1) (.code .skip::k) s=PW E G n k s:=by simp only[ei,pw]
theorem TU {a b:Code} :PW E G (n+1) (.code (.seq a b)::k) s=PW E G n (.code a:: .code b::k) s:=by simp only[ei,pw]
def PS(E:Env)(G:Goal)(n:Nat)(b:Bool)(i:Nat)(ops:List Oper)(k:List WI)(s:St):Prop:=match b with|true=>av E G (.code (.region i ⟨ops⟩ false)::k) s|false=>PO E G n ops [] [] ops k s
theorem TV {i:Nat} {ops:List Oper} :PW E G (n+1) (.code (.region i ⟨ops⟩ false)::k) s=PS E G n (E.xy G.f i) i ops k s:=by simp only[ei,pw];unfold PS;rw[gd];cases E.xy G.f i<;>rfl
theorem ap1 {i:Nat} {ops:List Oper} :PS E G n false i ops k s=PO E G n ops [] [] ops k s:=rfl
theorem ap2 {i:Nat} {ops:List Oper} :PS E G n true i ops k s=av E G (.code (.region i ⟨ops⟩ false)::k) s:=rfl
def PD(E:Env)(G:Goal)(n:Nat)(l:List (List Nat))(ops:List Oper)(k:List WI)(s:St):Prop:=match l with|[]=>PO E G n ops (bG ops) [] ops k s|x::l=>match Ic (x::l)with|some c=>PO E G n ops (bG ops) [] (ops.take c) (.rest ops (ops.drop c)::k) s|none=>kN G ops=true∧PW E G n (.tail ops (x::l)::k) s
def PSd(E:Env)(G:Goal)(n:Nat)(b:Bool)(i:Nat)(ops:List Oper)(k:List WI)(s:St):Prop:=match b with|true=>av E G (.code (.region i ⟨ops⟩ true)::k) s|false=>PD E G n (E.fl G.f i) ops k s
theorem MD {i:Nat} {ops:List Oper} :PW E G (n+1) (.code (.region i ⟨ops⟩ true)::k) s=PSd E G n (E.xy G.f i) i ops k s:=by
 simp only[ei,pw];unfold PSd PD;rw[ei,gd];cases E.xy G.f i<;>cases E.fl G.f i<;>rfl
theorem ZH {i:Nat} {ops:List Oper} :PSd E G n false i ops k s=PD E G n (E.fl G.f i) ops k s:=rfl
theorem ZI {i:Nat} {ops:List Oper} :PSd E G n true i ops k s=av E G (.code (.region i ⟨ops⟩ true)::k) s:=rfl
theorem TW {ops:List Oper} :PD E G n [] ops k s=PO E G n ops (bG ops) [] ops k s:=rfl
theorem ME {i:Nat} {x:List Nat} {l:List (List Nat)} {ops:List Oper} :PD E G n ((i::x)::l) ops k s=(kN G ops=true∧PW E G n (.tail ops ((i::x)::l)::k) s):=rfl
theorem TX {c:Nat} {x:List Nat} {l:List (List Nat)} {ops:List Oper} :PD E G n ([]::(c::x)::l) ops k s=PO E G n ops (bG ops) [] (ops.take c) (.rest ops (ops.drop c)::k) s:=rfl
def PTh(E:Env)(G:Goal)(n:Nat)(hs:List Nat)(all:List Oper)(aF:List (List Nat))(k:List WI)(s:St):Prop:=match hs with|[]=>PW E G n k s|h::hs=>pt E G n all aF (h::hs) k s
def MF(E:Env)(G:Goal):Nat→List Nat→List Oper→List (List Nat)→List WI→St→Prop|0,_,_,_,_,_=>fC 1000|_+1,[],_,_,_,_=>True|n+1,h::hs,all,aF,k,s=>(match mc all h with|some o=>hJ all o s=true∧PO E G n all [] [] [o] (.tail all (eN h aF)::k) s|none=>fC 1008)∧MF E G n hs all aF k s
theorem IZ {all:List Oper} {aF:List (List Nat)} : ∀(n:Nat)(hs:List Nat),pt E G n all aF hs k s=MF E G n hs all aF k s|0,_=>(by simp only[pt,MF])|n+1,[]=>(by simp only[pt,MF])|n+1,h::hs=>by simp only[pt,MF,IZ n hs,gd];rfl
theorem MG {all:List Oper} {aF:List (List Nat)} :PW E G (n+1) (.tail all aF::k) s=PTh E G n (gy aF) all aF k s:=by simp only[ei,pw];unfold PTh;rw[ei];cases gy aF<;>rfl
theorem MH {all B:List Oper} :PW E G (n+1) (.rest all B::k) s=PO E G n all [] [] B k s:=by simp only[ei,gd,pw]
theorem MI {all:List Oper} {aF:List (List Nat)} :PTh E G n [] all aF k s=PW E G n k s:=rfl
theorem I0 {h:Nat} {hs:List Nat} {all:List Oper} {aF:List (List Nat)} :PTh E G n (h::hs) all aF k s=MF E G n (h::hs) all aF k s:=IZ n (h::hs)
theorem MJ {all:List Oper} {aF:List (List Nat)} :MF E G (n+1) [] all aF k s=True:=rfl
def PTo(E:Env)(G:Goal)(n:Nat)(o:Option Oper)(all:List Oper)(aF:List (List Nat))(k:List WI)(s:St):Prop:=match o with|some o=>hJ all o s=true∧PO E G n all [] [] [o] (.tail all aF::k) s|none=>fC 1008
theorem I1 {h:Nat} {hs:List Nat} {all:List Oper} {aF:List (List Nat)} :MF E G (n+1) (h::hs) all aF k s=(PTo E G n (mc all h) all (eN h aF) k s∧MF E G n hs all aF k s):=rfl
theorem I2 {o:Oper} {all:List Oper} {aF:List (List Nat)} :PTo E G n (some o) all aF k s=(hJ all o s=true∧PO E G n all [] [] [o] (.tail all aF::k) s):=rfl
theorem MK {x:Operand} {a b:Code} :PW E G (n+1) (.code (.cond x a b)::k) s=PB E G n (s.ev x) a b k s:=by simp only[ei,PB,pw];rfl
theorem I3 {i:Nat} {b:Code} :PW E G (n+1) (.code (.block i b)::k) s=PW E G n (.code b:: .bM i::k) s:=by simp only[ei,pw]
theorem ML {b:Code} :PW E G (n+1) (.code (.loop b)::k) s=av E G (.code (.loop b)::k) s:=by simp only[ei,pw]
theorem MM {i:Nat} :PW E G (n+1) (.code (.exit i)::k) s=PX E G n (ll i k) s:=by simp only[ei,PX,pw];rfl
theorem TY {f n':Nat} {rv:List ResultVar} {p:PV} {bl:List (Nat×aL)} {mo:Option ((T:Ty)×(T.den→Prop)×(T.den→PV)×(T.den→List (Nat×aL)))} {lA:Bool} :PW E ⟨f,n',rv,p,bl,mo,lA,.fn⟩ (n+1) (.code .ret::k) s=r8 E ⟨f,n',rv,p,bl,mo,lA,.fn⟩ s:=by
 simp only[ei,pw,me]
end
theorem aE.go {E:Env} (h:aE E):aE E.go:=⟨h.ty,h.fn,h.res,h.cC,h.cmp,h.mapKey,h.mixed,h.E7,h.K7,h.emp,h.zi⟩
section
variable {E:Env}
theorem az6:E.go.P=E.P:=rfl
theorem ZJ {t:Nat} :E.go.ty t=E.ty t:=rfl
theorem TZ {t:Nat} :E.go.str t=E.str t:=rfl
theorem T0 {t:Nat} :E.go.cmp t=E.cmp t:=rfl
theorem ZK {t:Nat} :E.go.fn t=E.fn t:=rfl
theorem T3 {t:Nat} :E.go.cC t=E.cC t:=rfl
theorem T4 {t:Nat} :E.go.mapKey t=E.mapKey t:=rfl
theorem ZL {d t:Nat} :E.go.ro d t=E.ro d t:=rfl
theorem ZM:E.go.tm=E.tm:=rfl
theorem ZN {t:Nat} :E.go.G5 t=E.G5 t:=rfl
theorem ZO {t:Nat} :E.go.E7 t=E.E7 t:=rfl
theorem ZP {t:Nat} :E.go.nd t=E.nd t:=rfl
theorem MN {t:Nat} {m:String} :E.go.zi t m=E.zi t m:=rfl
theorem T5 {t:Nat} :E.go.K7 t=E.K7 t:=rfl
theorem ZQ {t:Nat} :E.go.px t=E.px t:=rfl
theorem ZR {f i:Nat} :E.go.fl f i=E.fl f i:=rfl
theorem T6 {t:Nat} :E.go.emp t=E.emp t:=rfl
theorem T7 {f i:Nat} :E.go.xy f i=false:=rfl
theorem ZS {f:Nat} {xs:List (Sigma Ty.den)} {T:Ty} {r:T.den} :PC E.go f xs T r=PC E f xs T r:=rfl
theorem ZT {f:Nat} {xs:List (Sigma Ty.den)} {T:Ty} {Y:T.den→Prop} :PN E.go f xs T Y=PN E f xs T Y:=rfl
theorem ZU {f:Nat} {args:List PV} {bl bl':List (Nat×aL)} {p:PV} :HC E.go f args bl p bl'=HC E f args bl p bl':=rfl
theorem ZV {f:Nat} {xs:List (Sigma Ty.den)} :XC E.go f xs=XC E f xs:=rfl
theorem ZW {f:Nat} {args:List PV} {bl bl':List (Nat×aL)} :XH E.go f args bl bl'=XH E f args bl bl':=rfl
theorem I4 {G:Goal} {k:List WI} {s:St} :av E.go G k s=av E G k s:=rfl
end
theorem ay {E:Env} (hE:aE E) {G:Goal} (_hG:x8 E G)(m:Nat)(todo:List WI)(s:St)(cP:rB (y9 E G.f Eo (jz E) pV) G.n todo=true)(h:PW E G m todo s):av E G todo s:=Aw hE (uB hE) (w8 hE) (wU hE) m todo s cP (by rw[←ei];exact h)
theorem F7 {E:Env} (hE:aE E) {G:Goal} (m:Nat)(todo:List WI)(s:St)(cP:rB (y9 E G.f Eo (jz E) pV) G.n todo=true)(h:PW E G m todo s):av E G todo s:=Aw hE (uB hE) (w8 hE) (wU hE) m todo s cP (by rw[←ei];exact h)
theorem ap3 {E:Env} (hE:aE E) {G:Goal} (m:Nat)(todo:List WI)(s:St)(cP:rB (y9 E.go G.f Eo (jz E.go) pV) G.n todo=true)(h:PW E.go G m todo s):av E G todo s:=F7 (E:=E.go) hE.go m todo s cP h
theorem ZX {E:Env} (hE:aE E) {G:Goal} (hG:x8 E G)(m:Nat)(todo:List WI)(s:St)(cP:rB (y9 E.go G.f Eo (jz E.go) pV) G.n todo=true)(h:PW E.go G m todo s):av E G todo s:=ay (E:=E.go) hE.go ⟨hG.1⟩ m todo s cP h
theorem PC.ao {E:Env} (hE:aE E) {f n m:Nat} {fn:Func} {c:Code} {xs:List (Sigma Ty.den)} {T:Ty} {r:T.den} (cC:E.P.funcs[f]?=some fn)(hb:fn.body=some c)(hn:fn.ntmps=n)(hlen:Nat.ble xs.length n=true)(fo:Nat.ble n 100000=true)(cP:rB (y9 E f Eo (jz E) pV) n [.code c]=true)(h:Lo xs→PW E ⟨f,n,fn.results.toList,.iv T r,[],none,false,.fn⟩ m [.code c] ⟨bP 0 (zd xs),[]⟩):PC E f xs T r:=PC.fO cC hb hn hlen fo fun hx=>ay hE (G:=⟨f,n,fn.results.toList,.iv T r,[],none,false,.fn⟩) ⟨fn,cC,rfl⟩ m _ _ cP (h hx)
theorem PN.ao {E:Env} (hE:aE E) {f n m:Nat} {fn:Func} {c:Code} {xs:List (Sigma Ty.den)} {T:Ty} {Y:T.den→Prop} (cC:E.P.funcs[f]?=some fn)(hb:fn.body=some c)(hn:fn.ntmps=n)(hlen:Nat.ble xs.length n=true)(fo:Nat.ble n 100000=true)(cP:rB (y9 E f Eo (jz E) pV) n [.code c]=true)(h:Lo xs→PW E ⟨f,n,fn.results.toList,.any,[],some ⟨T,Y,fun r=>.iv T r,fun _=>[]⟩,false,.fn⟩ m [.code c] ⟨bP 0 (zd xs),[]⟩):PN E f xs T Y:=PN.fO cC hb hn hlen fo fun hx=>ay hE (G:=⟨f,n,fn.results.toList,.any,[],some ⟨T,Y,fun r=>.iv T r,fun _=>[]⟩,false,.fn⟩) ⟨fn,cC,rfl⟩ m _ _ cP (h hx)
theorem HN.ao {E:Env} (hE:aE E) {f n m:Nat} {fn:Func} {c:Code} {args:List PV} {bl:List (Nat×aL)} {T:Ty} {Y:T.den→Prop} {p:T.den→PV} {bl':T.den→List (Nat×aL)} (cC:E.P.funcs[f]?=some fn)(hb:fn.body=some c)(hn:fn.ntmps=n)(hlen:Nat.ble args.length n=true)(fo:Nat.ble n 100000=true)(cP:rB (y9 E f Eo (jz E) pV) n [.code c]=true)(h:ug args→oY bl→PW E ⟨f,n,fn.results.toList,.any,[],some ⟨T,Y,p,bl'⟩,false,.fn⟩ m [.code c] ⟨bP 0 args,bl⟩):HN E f args bl T Y p bl':=HN.fO cC hb hn hlen fo fun h1 h2=>ay hE (G:=⟨f,n,fn.results.toList,.any,[],some ⟨T,Y,p,bl'⟩,false,.fn⟩) ⟨fn,cC,rfl⟩ m _ _ cP (h h1 h2)
theorem HC.ao {E:Env} (hE:aE E) {f n m:Nat} {fn:Func} {c:Code} {args:List PV} {bl bl':List (Nat×aL)} {p:PV} (cC:E.P.funcs[f]?=some fn)(hb:fn.body=some c)(hn:fn.ntmps=n)(hlen:Nat.ble args.length n=true)(fo:Nat.ble n 100000=true)(cP:rB (y9 E f Eo (jz E) pV) n [.code c]=true)(h:ug args→oY bl→PW E ⟨f,n,fn.results.toList,p,bl',none,false,.fn⟩ m [.code c] ⟨bP 0 args,bl⟩):HC E f args bl p bl':=HC.fO cC hb hn hlen fo fun h1 h2=>ay hE (G:=⟨f,n,fn.results.toList,p,bl',none,false,.fn⟩) ⟨fn,cC,rfl⟩ m _ _ cP (h h1 h2)
theorem XC.ao {E:Env} (hE:aE E) {f n m:Nat} {fn:Func} {c:Code} {xs:List (Sigma Ty.den)} (cC:E.P.funcs[f]?=some fn)(hb:fn.body=some c)(hn:fn.ntmps=n)(hlen:Nat.ble xs.length n=true)(fo:Nat.ble n 100000=true)(cP:rB (y9 E f Eo (jz E) pV) n [.code c]=true)(h:Lo xs→PW E ⟨f,n,fn.results.toList,.any,[],none,true,.fn⟩ m [.code c] ⟨bP 0 (zd xs),[]⟩):XC E f xs:=XC.fO cC hb hn hlen fo fun hx=>ay hE (G:=⟨f,n,fn.results.toList,.any,[],none,true,.fn⟩) ⟨fn,cC,rfl⟩ m _ _ cP (h hx)
theorem XH.ao {E:Env} (hE:aE E) {f n m:Nat} {fn:Func} {c:Code} {args:List PV} {bl bl':List (Nat×aL)} (cC:E.P.funcs[f]?=some fn)(hb:fn.body=some c)(hn:fn.ntmps=n)(hlen:Nat.ble args.length n=true)(fo:Nat.ble n 100000=true)(cP:rB (y9 E f Eo (jz E) pV) n [.code c]=true)(h:ug args→oY bl→PW E ⟨f,n,fn.results.toList,.any,bl',none,true,.fn⟩ m [.code c] ⟨bP 0 args,bl⟩):XH E f args bl bl':=XH.fO cC hb hn hlen fo fun h1 h2=>ay hE (G:=⟨f,n,fn.results.toList,.any,bl',none,true,.fn⟩) ⟨fn,cC,rfl⟩ m _ _ cP (h h1 h2)
theorem ap4(a b:Nat):Nat.beq a b=(a==b):=by cases h:Nat.beq a b with|true=>simp[Nat.eq_of_beq_eq_true h]|false=>(have:a≠b:=by rintro rfl;simp at h);simp[this]
theorem ap5(a b:Nat):Nat.ble a b=decide (a≤b):=by
 cases h:Nat.ble a b with|true=>simp[Nat.le_of_ble_eq_true h]|false=>(have: ¬a≤b:=by intro h';rw[Nat.ble_eq_true_of_le h']at h;cases h);simp[this]
theorem ap6(a b:Nat):Nat.blt a b=decide (a+1≤b):=by
 show Nat.blt a b=decide (a<b);cases h:Nat.blt a b with|true=>rw[Nat.blt_eq]at h;simp[h]|false=>(have: ¬a<b:=by intro h';rw[←Nat.blt_eq]at h';rw[h']at h;cases h);simp[this]
theorem av.jA {E:Env} {G:Goal} {c:Code} {k:List WI} {s:St} {X:Type} (st:X→St)(inv:X→Prop)(m:X→Nat)(x0:X)(hle:Le s (st x0))(hinv:inv x0)(h: ∀x,inv x→(∀(s:St)(y:X),Le s (st y)→inv y→m y<m x→av E G (.loop c::k) s)→av E G (.code c:: .loop c::k) (st x)):av E G (.code (.loop c)::k) s:=av.weaken hle (av.loop st inv m h x0 hinv)
end Go.Proofs.YtmgmonbmdkkhbaaGreatDoor
namespace Go.Proofs.YtmgmonbmdkkhbaaGreatDoor
variable {c8:Prop} [hZ c8]
open Go.RowKit
def bw(l:List (Nat×Nat))(i:Nat):Nat:=match look i l with|some j=>j|none=>i
def fF:List (Nat×Nat)→List (Nat×Nat)|[]=>[]|p::r=>(p.2,p.1)::fF r
def pW(l:List (Nat×Nat)):List (Nat×Nat)→Bool|[]=>true|p::r=>Nat.beq (bw l p.1) p.2&&Nat.blt p.1 P0&&pW l r
def AU(l:List (Nat×Nat)):Bool:=pW l l&&pW (fF l) (fF l)
theorem pX {l:List (Nat×Nat)} {i j:Nat} (h:look i l=some j):(i,j)∈l:=by
 induction l with|nil=>cases h|cons p r ih=>simp only[look]at h;cases hb:Nat.beq i p.1 with|true=>simp only[hb,cond_true,Option.some.injEq]at h;have:=Nat.eq_of_beq_eq_true hb;rw[List.mem_cons];left;obtain⟨a,b⟩:=p;simp only at h this;rw[this,h]|false=>simp only[hb,cond_false]at h;exact List.mem_cons_of_mem _ (ih h)
theorem I5 {l:List (Nat×Nat)} {i j:Nat} (h:(i,j)∈l): ∃k,look i l=some k:=by
 induction l with|nil=>cases h|cons p r ih=>simp only[look];cases hb:Nat.beq i p.1 with|true=>exact⟨p.2,rfl⟩|false=>rcases List.mem_cons.1 h with h|h;(·subst h;simp at hb);·exact ih h
theorem rb {i j:Nat} : ∀ {l:List (Nat×Nat)},(i,j)∈l→(j,i)∈fF l|[],h=>(by cases h)|p::r,h=>by rcases List.mem_cons.1 h with h|h;(·subst h;exact List.mem_cons_self ..);·exact List.mem_cons_of_mem _ (rb h)
theorem swap_swap: ∀(l:List (Nat×Nat)),fF (fF l)=l|[]=>rfl|p::r=>by simp only[fF,swap_swap r]
theorem oi {l:List (Nat×Nat)} : ∀ {r:List (Nat×Nat)} {i j:Nat},pW l r=true→(i,j)∈r→bw l i=j∧i<P0|[],i,j,_,h=>(by cases h)|p::r,i,j,hi,h=>by simp only[pW,Bool.and_eq_true,Nat.blt_eq]at hi;rcases List.mem_cons.1 h with h|h;(·subst h;exact⟨Nat.eq_of_beq_eq_true hi.1.1,hi.1.2⟩);·exact oi hi.2 h
theorem AV {l:List (Nat×Nat)} (h:AU l=true)(h': ∀i j,(i,j)∈l→ ∃k,(j,k)∈l)(i:Nat):bw (fF l) (bw l i)=i:=by
 simp only[AU,Bool.and_eq_true]at h;cases hl:look i l with|some j=>have hm:=pX hl;(have e:bw l i=j:=by simp[bw,hl]);rw[e];exact(oi h.2 (rb hm)).1|none=>(have e:bw l i=i:=by simp[bw,hl]);rw[e];cases hs:look i (fF l)with|none=>simp[bw,hs]|some j=>have hm:=rb (pX hs);rw[swap_swap]at hm;obtain⟨k,hk⟩:=h' _ _ hm;obtain⟨k',iw⟩:=I5 hk;rw[hl]at iw;cases iw
def closed(l:List (Nat×Nat)):List (Nat×Nat)→Bool|[]=>true|p::r=>(match look p.2 l with|some _=>true|none=>false)&&closed l r
theorem re {l:List (Nat×Nat)} : ∀ {r:List (Nat×Nat)} {i j:Nat},closed l r=true→(i,j)∈r→ ∃k,(j,k)∈l|[],i,j,_,h=>(by cases h)|p::r,i,j,hc,h=>by simp only[closed,Bool.and_eq_true]at hc;rcases List.mem_cons.1 h with h|h;(·subst h;have h1:=hc.1;split at h1;(·rename_i k hk;exact⟨k,pX hk⟩);·cases h1);·exact re hc.2 h
def uH(l:List (Nat×Nat)):Bool:=AU l&&closed l l&&AU (fF l)&&closed (fF l) (fF l)
theorem uI {l:List (Nat×Nat)} (h:uH l=true):(∀i,bw (fF l) (bw l i)=i)∧(∀i,bw l (bw (fF l) i)=i)∧ ∀i,P0≤i→bw l i=i:=by
 simp only[uH,Bool.and_eq_true]at h;refine⟨AV h.1.1.1 (fun i j hm=>re h.1.1.2 hm),fun i=>?_,fun i hi=>?_⟩;(·have:=AV h.1.2 (fun i j hm=>re h.2 hm) i;rwa[swap_swap]at this)
 ·unfold bw;cases hl:look i l with|none=>rfl|some j=>have:=h.1.1.1;simp only[AU,Bool.and_eq_true]at this;have:=(oi this.1 (pX hl)).2;omega
def St.ew(s:St)(ρ:Nat→Nat):St:=⟨gC (PV.ew ρ) s.sl,fw ρ s.bl⟩
theorem Full.ew {n:Nat} {w0:World} {S0:Cx} {s:St} {a:Act} {w:World} {ν:Nat→Value} {S:Nat→Prop} (h:Full n w0 S0 s a w ν S) {l:List (Nat×Nat)} (hp:uH l=true):Full n w0 S0 (s.ew (bw l)) a w (fun i=>ν (bw (fF l) i)) S:=by
 obtain⟨h1,h2,h3⟩:=uI hp;(have inj: ∀i j,bw l i=bw l j→i=j:=fun i j e=>by rw[←h1 i,←h1 j,e]);have AW: ∀i b,look i s.bl=some b→look (bw l i) (s.ew (bw l)).bl=some (b.map (PV.ek (bw l))):=fun i b hb=>fc (fun j c _ e=>inj j i e) hb
 have hold: ∀i b,look i (s.ew (bw l)).bl=some b→ ∃j c,bw l j=i∧look j s.bl=some c∧b=c.map (PV.ek (bw l)):=fun i b hb=>iW (fun j k _ _ _ _ e=>inj j k e) hb;have hle:Ctx.Lm (keys s.bl) (bw l) ⟨ν,s.D,w,⟨S,aB w0 S0⟩⟩ ⟨fun i=>ν (bw (fF l) i),(s.ew (bw l)).D,w,⟨S,aB w0 S0⟩⟩:=⟨fun _ _=>rfl,fun _ h=>h,fun i _⟨b,hb⟩=>⟨_,AW i b hb⟩,fun i _ _=>by simp only[h1]⟩
 refine⟨h.below,h.zt,h.fresh,⟨h.W.lt,h.W.size,fun i b hb=>?_,fun i j b c dG hi hj g hg dM=>?_⟩,fun t=>?_,h.size,h.defers,h.nV,fun i hi⟨b,hb⟩=>?_,h.BT⟩;(·obtain⟨j,c,rfl,hc,rfl⟩:=hold i b hb;have hr:=h.W.bM j c hc;exact l8 hle (na (fun _ h=>h) hr) (by simp only[h1]) (fun g hg=>⟨rfl,(eh hr hg).1,(eh hr hg).2.1⟩) hr)
 (·obtain⟨i',b',rfl,mQ,_⟩:=hold i b hi;obtain⟨j',c',rfl,lj,_⟩:=hold j c hj;simp only[h1]at hg dM;exact h.W.ne i' j' b' c' (fun e=>dG (by rw[e])) mQ lj g hg dM);(·(have e:(s.ew (bw l)).get t=(s.get t).ew (bw l):=by simp only[St.get,St.ew,fk];cases look t s.sl<;>simp[PV.ew]);rw[e];have hs:=h.eV t;exact iV hle (jU (fun _ h=>h) hs) hs)
 ·obtain⟨j,c,rfl,hc,_⟩:=hold i b hb;(have hj:P0≤j:=by rcases Nat.lt_or_ge j P0 with h'|h';(·exfalso;have e:=h3 (bw l j) hi;have:=inj _ _ e;omega);·exact h');rw[h3 j hj];(have e:bw (fF l) j=j:=by have:=h1 j;rw[h3 j hj]at this;exact this);simp only[e];exact h.kept j hj ⟨c,hc⟩
theorem av.ew {E:Env} {G:Goal} {todo:List WI} {s:St} (l:List (Nat×Nat))(hp:uH l=true)(h:av E G todo (s.ew (bw l))):av E G todo s:=by
 intro w0 S0 a w hr;obtain⟨ν,S,hf⟩:=hr.full;exact h w0 S0 a w (hf.ew hp).rel
theorem T8 {i:Nat} {r:List Nat} {d:Nat} :back (i::r) d 1000000000=i:=rfl
theorem T9 {i j:Nat} {r:List Nat} {d:Nat} :back (i::j::r) d 1000000001=j:=rfl
theorem Ua {i j k:Nat} {r:List Nat} {d:Nat} :back (i::j::k::r) d 1000000002=k:=rfl
theorem C2 {ids:List Nat} {d i:Nat} (h:(1000000000≤i)=False):back ids d i=i+100000*(d+1):=by
 unfold back;(have:Nat.ble P0 i=false:=by cases hb:Nat.ble P0 i with|false=>rfl|true=>exact(of_eq_false h (Nat.le_of_ble_eq_true hb)).elim);rw[this];rfl
theorem Ub:IntKind.i8.min= -128:=rfl
theorem Uc:IntKind.i8.max=127:=rfl
theorem MO:IntKind.i16.min= -32768:=rfl
theorem MP:IntKind.i16.max=32767:=rfl
theorem MQ:IntKind.i32.min= -2147483648:=rfl
theorem MR:IntKind.i32.max=2147483647:=rfl
theorem Ez:IntKind.i64.min= -9223372036854775808:=rfl
theorem max_i64:IntKind.i64.max=9223372036854775807:=rfl
theorem Ud:IntKind.u8.min=0:=rfl
theorem Ue:IntKind.u8.max=255:=rfl
theorem MS:IntKind.u16.min=0:=rfl
theorem MT:IntKind.u16.max=65535:=rfl
theorem MU:IntKind.u32.min=0:=rfl
theorem MV:IntKind.u32.max=4294967295:=rfl
theorem pY:IntKind.u64.min=0:=rfl
theorem pZ:IntKind.u64.max=18446744073709551615:=rfl
theorem PC.ax5 {E:Env} {f:Nat} {xs:List (Sigma Ty.den)} {T:Ty} {r:T.den} {p:PV} {bl':List (Nat×aL)} (h:HC E f (zd xs) [] p bl')(Ln:aJ T=0)(he:exp ⟨[],true⟩ bl' T p=some r):PC E f xs T r:=by
 intro w S vs hS hT bN;(have vz: ∀(ν:Nat→Value)(g:Nat),¬da ν [] g:=by rintro ν g⟨i,b,hb,_⟩;cases hb);refine(h w S (fun _=>undef) vs hS hT (fun g hg=>(vz _ g hg).elim) (fun i b hb=>by cases hb) ⟨hS,fun b hb=>.inl hb,fun i b hb=>(by cases hb),fun i j b c _ hi=>(by cases hi)⟩ (ni (w:=w) (M:=⟨S,fun g=>w.heap.size≤g⟩) rfl (fun _ h=>h) bN)).mono ?_
 rintro e w'⟨v,rfl,hk,ν,S',h1,h2,h3,hW,hp⟩;(have fY: ∀g,aB w ⟨S,da (fun _=>undef) [],fun _=>undef,[]⟩ g→w.heap.size≤g:=fun g hg=>by rcases hg with hg|hg;(·exact hg);·exact(vz _ g hg).elim)
 have hR:Reads ⟨[],true⟩ ⟨[],bl'⟩ ⟨ν,(⟨[],bl'⟩:St).D,w',⟨S',aB w ⟨S,da (fun _=>undef) [],fun _=>undef,[]⟩⟩⟩ ⟨fun b=>S' b∨(w.heap.size≤b∧b<w'.heap.size),fun g=>w.heap.size≤g⟩:=⟨rfl,hW.bM,fun b hb=>.inl hb,fun id _⟨b,hb⟩g hg=>by obtain⟨a1,_,a3⟩:=eh (hW.bM id b hb) hg;exact .inr ⟨fY g a1,a3⟩⟩
 refine⟨v,rfl,⟨⟨hk.os,hk.tape,hk.output,hk.size,fun k iw=>hk.block k iw (vz _ k)⟩,hk.drawn⟩,fun b=>S' b∨(w.heap.size≤b∧b<w'.heap.size),fun b hb=>.inl (h1 b hb),fun b hb=>?_,fun b hb=>?_,gq (dX hR (.inl Ln) he hp)⟩
 (·rcases hb with hb|hb;(·rcases h2 b hb with h'|h';(·exact .inl h');·exact .inr (fY b h'));·exact .inr hb.1);·rcases hb with hb|hb;(·exact hW.lt b hb);·exact hb.2
end Go.Proofs.YtmgmonbmdkkhbaaGreatDoor
namespace Go.Proofs.YtmgmonbmdkkhbaaGreatDoor
variable {c8:Prop} [hZ c8]
def MW:List Oper→List Nat|[]=>[]|o::r=>match o.dst with|some d=>d::MW r|none=>MW r
def ln:Code→List Nat|.region _ ops _=>MW ops.toList|.seq a b=>ln a++ln b|.cond _ a b=>ln a++ln b|.block _ b=>ln b|.loop b=>ln b|.scope b=>ln b|.rangeFunc _ _ a b=>ln a++ln b|.skip=>[]|.exit _=>[]|.label _=>[]|.goto _=>[]|.ret=>[]|.refuse _=>[]
def uJ:List Nat→List (Nat×PV)→List (Nat×PV)|_,[]=>[]|ks,p::r=>bif al p.1 ks then uJ (p.1::ks) r else p::uJ (p.1::ks) r
def uK:List Nat→List (Nat×aL)→List (Nat×aL)|_,[]=>[]|ks,p::r=>bif al p.1 ks then uK (p.1::ks) r else p::uK (p.1::ks) r
theorem av.cU {E:Env} {G:Goal} {c:Code} {k:List WI} {s:St} {X:Type} (sl:X→List (Nat×PV))(bl:X→List (Nat×aL))(inv:X→Prop)(m:X→Nat)(x0:X)(h: ∀b1 b2,uJ (ln c++(sl x0).map (·.1)) s.sl=b1→uK (keys (bl x0)) s.bl=b2→Le s ⟨sl x0++b1,bl x0++b2⟩∧inv x0∧ ∀x,inv x→(∀(t:St)(y:X),Le t ⟨sl y++b1,bl y++b2⟩→inv y→m y<m x→av E G (.loop c::k) t)→av E G (.code c:: .loop c::k) ⟨sl x++b1,bl x++b2⟩):av E G (.code (.loop c)::k) s:=by
 obtain⟨h1,h2,h3⟩:=h _ _ rfl rfl;exact av.jA (fun x=>⟨sl x++uJ (ln c++(sl x0).map (·.1)) s.sl,bl x++uK (keys (bl x0)) s.bl⟩) inv m x0 h1 h2 h3
end Go.Proofs.YtmgmonbmdkkhbaaGreatDoor
namespace Go.Proofs.YtmgmonbmdkkhbaaGreatDoor
variable {c8:Prop} [hZ c8]
attribute[go_sem]Mp TO TP Mr Ms Mt TL Mq IQ TM TN IS F0 F1 IT TQ Mu Mv Mw ZD ZE ZF ZG IV IW IX ao8 ao9 TR Mx F4 F5 My TS Mz MA MB IY yr TT F6 MC TU TV MD MK I3 ML MM TY bP sy zd uf ky List.toList_toArray dH bG made CE step1 before du pE bm bu mc ai St.ev St.get St.set St.put look al lk ap4 ap5 ap6 lE gk sW xz lH iD lI lJ iE G8 dep iC eU arith DN ll HQ ti th Cd RA YD beq_self_eq_true St.cx b8 fw T8 T9 Ua C2 r8 me H9 Zi rA Ap xZ GX sx tX tI Lv E8 eY exp pk gY oL lF fH lq sU wg sV Ty.eq Ty.cast bJ cE rX vE jE kq DM kA iG B6 He B7 jN zl eb Ty.DL s5 cut jj b9 fx kr bound jF jk sX lL vF wi sZ kx wj iF oP ef qC s4 lO qB Lw oN gX mpZ B5 Ha St.ey lM Hd SJ s3 nU kz lN reach G7 cq fwd idxOf PV.ids PV.gL PV.K8 PV.ia PV.ew PV.ek nI gN dy a8 gZ lh SI bL gM join part widens cellsOf Ty.val PV.cells iB zeroCells cD Ty.cells Ty.flat Ty.ok aJ PV.gK PV.b7 PV.refs PV.dI PV.kill PV.cB PV.aN PV.fI gC aL.map oM cy St.kill St.aN keys Lo ug Hj P0 List.map List.take List.drop List.headD List.append List.length List.cons_append List.nil_append Option.bind cond_true cond_false Bool.not_true Bool.not_false Bool.and_true Bool.true_and Bool.and_false Bool.false_and Bool.false_or Bool.or_false Bool.true_or Bool.or_true true_implies Option.some.injEq decide_true decide_false decide_eq_true_eq decide_eq_false_iff_not Nat.add_zero Nat.zero_add Int.toNat_natCast Nat.lt_irrefl and_true true_and or_false or_true true_or false_or Decidable.not_not Ub Uc MO MP MQ MR Ez max_i64 Ud Ue MS MT MU MV pY pZ Int.cast_ofNat_Int Int.toNat_zero Int.toNat_one Int.le_refl and_self ku Hc Fa mO Hb G9 CT lK kp sY K9 Ea Ao Eb looks xY tV Ye tW ln MW uJ uK Zh H8 CF CG RU sh xA ZJ TZ T0 ZK T3 T4 ZL ZM ZN ZO ZP T5 ZQ ZR T6 T7 ZS ZT ZU ZV ZW I4 IU ao6 ao7 dC iX pH vS wI pF jl kN Ib Ia E9 wh F3 DO ap1 ap2 ZH ZI TW ME TX MH MG MI I0 MJ I1 I2 gy eN Mb MN F2 HNQ ZC tZ qQ x3 x4 hJ
end Go.Proofs.YtmgmonbmdkkhbaaGreatDoor
namespace Go.Proofs.YtmgmonbmdkkhbaaGreatDoor
variable {c8:Prop} [hZ c8]
open Go Go.ChangeShapes Go.WideShapes Go.RowKit
set_option maxHeartbeats 1000000
def dD:Ty→Bool|.int _=>true|.bool=>true|.str=>true|.sl t=>dD t|.pair a b=>dD a&&dD b|.st t=>dD t|.unit=>false|.own _=>false|.aP _ _=>false|.ptr _=>false|.fh _ _=>false|.mp _ _=>false|.aq=>false
theorem b5.cellsOf {E:Env} {t:Nat} {T:Ty} (h:b5 E t T):E.P.cellsOf t=T.cells:=by obtain⟨i,hi,cM,_⟩:=h.info;simp[Program.cellsOf,hi,cM]
theorem add_zero(a:Addr):a.add 0=a:=by simp[Addr.add]
theorem AX(g o k:Nat):(⟨g,o,none⟩:Addr).add k=⟨g,o+k,none⟩:=by unfold Addr.add;split;(·rename_i h;(have:k=0:=by simpa using h);subst this;rfl);·rfl
theorem rf {ty:Nat→Option Ty} {t:Nat} {T:Ty} (h:lS ty t T=true):ty t=some T:=by unfold lS at h;split at h;(·rename_i U hU;rw[hU,Ty.ct h]);·cases h
theorem AY {α:Type} {p:Nat→α→Prop} : ∀n:Nat,(∀i,i<n→ ∃a,p i a)→ ∃l:List α,l.length=n∧ ∀i y,l[i]?=some y→p i y:=by
 intro n;induction n with|zero=>intro _;exact⟨[],rfl,fun i y h=>by simp at h⟩|succ n ih=>intro h;obtain⟨l,hl,hp⟩:=ih fun i hi=>h i (by omega);obtain⟨a,ha⟩:=h n (by omega);refine⟨l++ [a],by simp[hl],fun i y hy=>?_⟩;by_cases hi:i<n;(·rw[List.getElem?_append_left (by omega)]at hy;exact hp i y hy);·rw[List.getElem?_append_right (by omega),hl]at hy;by_cases e:i=n;(·subst e;simp at hy;subst hy;exact ha);·rw[List.getElem?_eq_none (by simp;omega)]at hy;cases hy
section
variable {H:Type} {enc:TypeId×Value→H} {E:Env} {w:World} {M:Mem}
theorem F8 {V:Ty} {cs:List Value} : ∀(n i:Nat),(∀k,k<n+1→ ∃y,aA V y w M ((cs.drop ((i+k)*V.cells)).take V.cells))→ ∃y:(rowOf V (n+1)).den,aA (rowOf V (n+1)) y w M ((cs.drop (i*V.cells)).take ((n+1)*V.cells)):=by
 intro n;induction n with|zero=>intro i h;obtain⟨y,hy⟩:=h 0 (by omega);exact⟨y,by simpa[rowOf]using hy⟩|succ n ih=>intro i h;obtain⟨y,hy⟩:=h 0 (by omega);(obtain⟨z,hz⟩:=ih (i+1) fun k hk=>by have:=h (k+1) (by omega);rwa[show i+(k+1)=i+1+k by omega]at this);refine⟨(y,z),_,_,?_,hy,hz⟩;rw[show(n+1+1)*V.cells=V.cells+(n+1)*V.cells by rw[Nat.add_mul (n+1) 1,Nat.one_mul,Nat.add_comm],List.take_add,List.drop_drop];rw[show(i+1)*V.cells=i*V.cells+V.cells by rw[Nat.add_mul,Nat.one_mul]];rfl
theorem AZ {V:Ty} : ∀n:Nat,dD (rowOf V (n+1))=true→dD V=true:=by
 intro n;cases n with|zero=>intro h;exact h|succ n=>intro h;have h:(dD V&&dD (rowOf V (n+1)))=true:=h;rw[Bool.and_eq_true]at h;exact h.1
theorem C3 {cs:List Value} {rd:Nat→List Value→Prop} (AM: ∀t T c,E.ty t=some T→dD T=true→rd t c→ ∃y,aA T y w M c)(hE:aE E): ∀(fs:List Field)(R:Ty)(off:Nat),bp E.ty fs R off=true→dD R=true→(∀f,f∈fs→rd f.type ((cs.drop f.offset).take (E.P.cellsOf f.type)))→ ∃y:R.den,aA R y w M ((cs.drop off).take R.cells):=by
 intro fs;induction fs with|nil=>intro R off h;cases h|cons f fs ih=>intro R off h hp hf;cases fs with|nil=>simp only[bp,Bool.and_eq_true]at h;have ht:=rf h.1.1.1.2;have hc:=(hE.facts ht).cellsOf;have ho:=Nat.eq_of_beq_eq_true h.1.1.1.1;have:=hf f (List.mem_cons_self ..);rw[hc,ho]at this;exact AM _ _ _ ht hp this|cons g fs=>cases R with|pair a b=>simp only[bp,Bool.and_eq_true]at h;have ht:=rf h.1.1.1.1.2;have hc:=(hE.facts ht).cellsOf;have ho:=Nat.eq_of_beq_eq_true h.1.1.1.1.1;simp only[dD,Bool.and_eq_true]at hp;have h0:=hf f (List.mem_cons_self ..);rw[hc,ho]at h0;obtain⟨y,hy⟩:=AM _ _ _ ht hp.1 h0;obtain⟨z,hz⟩:=ih b (off+a.cells) h.2 hp.2 fun f' RG=>hf f' (List.mem_cons_of_mem _ RG);refine⟨(y,z),_,_,?_,hy,hz⟩;show(cs.drop off).take (a.cells+b.cells)=_;rw[List.take_add,List.drop_drop]|_=>simp[bp]at h
theorem I6(hE:aE E)(hM: ∀g,g<w.heap.size→M.S g): ∀(n t:Nat)(T:Ty)(cs:List Value)(x:DataW H×List MemPlace),E.ty t=some T→dD T=true→DataW.trod enc E.P w 0 (fun _=>true) true n t cs=some x→ ∃y:T.den,aA T y w M cs:=by
 intro n;induction n with|zero=>intro t T cs x _ _ h;simp[DataW.trod]at h|succ n ih=>intro t T cs x ht hp h;have hF:=hE.facts ht;obtain⟨d,hd,hs⟩:=hF.nJ;cases T with|int l=>cases d<;>simp only[cu,Bool.false_eq_true]at hs;have:=de hs;subst this;obtain⟨m,rfl,_,hw⟩:=DataW.trod_int hd h;simp only[Lit.wf,Bool.and_eq_true,decide_eq_true_eq]at hw;exact⟨m,rfl,hw.1,hw.2⟩|bool=>cases d<;>simp only[cu,Bool.false_eq_true]at hs;obtain⟨b,rfl,_⟩:=DataW.trod_bool hd h;exact⟨b,rfl⟩|str=>cases d<;>simp only[cu,Bool.false_eq_true]at hs;obtain⟨s,rfl,_,hw⟩:=DataW.trod_string hd h;refine⟨s.data.toList,?_,?_⟩;(·rfl);(·(have:s.data.toList.length≤maxLen:=by simpa using hw);simpa[maxLen]using this)|sl U=>cases d<;>simp only[cu,Bool.false_eq_true]at hs;rename_i e;simp only[Bool.and_eq_true]at hs;have X8:=rf hs.1.1;have FC:=(hE.facts X8).cellsOf;have qH:1≤U.cells:=Nat.le_of_ble_eq_true hs.2;rcases DataW.trod_slice hd h with⟨rfl,_⟩|⟨a,len,cap,elems,rest,m,hm,rfl,_,_,hl,jP,hlen,RO,_⟩;(·exact⟨[],none,0,rfl,Nat.le_refl _,by decide,Or.inl rfl⟩);(·injection hm with hm;subst hm;obtain⟨ys,kH,bN⟩:=AY (p:=fun i y=> ∃zK,zK.length=U.cells∧w.cells? 0 (a.add (i*U.cells)) U.cells=some zK∧aA U y w M zK) len (fun i hi=>by have xG:=RO i hi;rw[List.getElem?_eq_getElem (by omega)]at xG;obtain⟨zK,h1,h2⟩:=Option.bind_eq_some_iff.1 xG;rw[FC]at h1;obtain⟨y,hy⟩:=ih e U zK _ X8 hp h2;exact⟨y,zK,(World.cells?_some h1).2.1,h1,hy⟩);(have R6:cap≤9223372036854775807:=by simpa[maxLen]using jP);cases ys with|nil=>exact⟨[],some a,cap,by simp at kH;simp[kH],by simp,R6,Or.inl rfl⟩|cons y0 ys=>obtain⟨c0,nK,hw0,_⟩:=bN 0 y0 rfl;have dJ:=(World.cells?_some hw0).2.2 0 (by omega);rw[Nat.zero_mul,add_zero,add_zero]at dJ;obtain⟨v0,hv0⟩: ∃v,c0[0]?=some v:=⟨_,List.getElem?_eq_getElem (by omega)⟩;rw[hv0]at dJ;obtain⟨g,o,sp⟩:=a;(have vM:g<w.heap.size∧sp=none:=by simp only[World.cell?]at dJ;split at dJ;(·rename_i c _ _ hh;refine⟨(Array.getElem?_eq_some_iff.1 hh).1,?_⟩;cases sp with|none=>rfl|some _=>simp at dJ);·cases dJ);obtain⟨hg,rfl⟩:=vM;refine⟨y0::ys,some ⟨g,o,none⟩,cap,by rw[kH],by rw[kH];exact hl,R6,Or.inr ⟨g,o,rfl,hM g hg,fun i y hy=>?_⟩⟩;obtain⟨zK,h1,h2,h3⟩:=bN i y hy;refine⟨zK,h1,fun j v hj=>?_,h3⟩;(have LG:j<U.cells:=by rw[←h1];exact(List.getElem?_eq_some_iff.1 hj).1);have:=(World.cells?_some h2).2.2 j LG;rw[hj]at this;rw[AX,AX,Nat.add_assoc]at this;rw[←Nat.add_assoc]at this;exact this)|st R=>cases d<;>simp only[cu,Bool.false_eq_true]at hs;(case struct fs=>obtain⟨xs,m,hm,_,hlen,Cj,hf⟩:=DataW.trod_struct hd h;injection hm with hm;subst hm;obtain⟨y,hy⟩:=C3 (cs:=cs) (M:=M) (w:=w) (rd:=fun t c=> ∃x,DataW.trod enc E.P w 0 (fun _=>true) true n t c=some x) (fun t T c h1 h2⟨x,h3⟩=>ih t T c x h1 h2 h3) hE fs.toList R 0 hs hp (fun f RG=>by obtain⟨i,hi⟩:=List.getElem?_of_mem RG;have h1:=hf i f (by simpa using hi);(have Yc:i<fs.size:=by simpa using(List.getElem?_eq_some_iff.1 hi).1);rw[List.getElem?_eq_getElem (by omega)]at h1;exact⟨_,h1⟩);refine⟨y,?_⟩;(have ep:cs.length=R.cells:=by rw[hlen,hF.cellsOf];rfl);rw[List.drop_zero,←ep,List.take_length]at hy;exact hy);(case array k e=>split at hs;(·rename_i V hV;simp only[Bool.and_eq_true]at hs;have hR:=Ty.ct hs.1.1.1;have hk:2≤k:=Nat.le_of_ble_eq_true hs.2;obtain⟨k,rfl⟩: ∃j,k=j+1:=⟨k-1,by omega⟩;subst hR;obtain⟨xs,m,hm,_,hlen,Cj,hf⟩:=DataW.trod_array hd h;injection hm with hm;subst hm;have FC:=(hE.facts hV).cellsOf;obtain⟨y,hy⟩:=F8 (V:=V) (cs:=cs) (w:=w) (M:=M) k 0 (fun i hi=>by have h1:=hf i hi;rw[List.getElem?_eq_getElem (by omega),FC]at h1;rw[Nat.zero_add];exact ih e V _ _ hV (AZ k hp) h1);refine⟨y,?_⟩;(have ep:cs.length=(k+1)*V.cells:=by rw[hlen,hF.cellsOf];exact l0 V (k+1));rw[Nat.zero_mul,List.drop_zero,←ep,List.take_length]at hy;exact hy);·cases hs)|pair a b=>simp[cu]at hs|_=>simp[dD]at hp
theorem C4: ∀T:Ty,dD T=true→aJ T=0:=by
 intro T;induction T with|pair a b fK fi=>intro h;simp only[dD,Bool.and_eq_true]at h;simp[aJ,fK h.1,fi h.2]|st t ih=>intro h;exact ih h|sl t ih=>intro h;exact ih h|int k=>intro _;rfl|bool=>intro _;rfl|str=>intro _;rfl|_=>intro h;simp[dD]at h
theorem MX {b0:Nat} {t:Nat} {T:Ty} {v:Value} {y:T.den} (hE:aE E)(ht:E.ty t=some T)(hp:dD T=true)(hv:Value.okWide E.P w .any b0 t v)(h:aA T y w M v.cells.toList):cw T y w M v:=by
 obtain⟨d,hd,hs⟩:=(hE.facts ht).nJ;(have one:(∀cs,v≠ .agg cs)→v.cells.toList=[v]:=by intro hn;cases v<;>first|rfl|exact absurd rfl (hn _));cases T with|int l=>cases d<;>simp only[cu,Bool.false_eq_true]at hs;obtain⟨n,rfl⟩:=okWide_int hd hv;exact h|bool=>cases d<;>simp only[cu,Bool.false_eq_true]at hs;obtain⟨n,rfl⟩:=okWide_bool hd hv;exact h|str=>cases d<;>simp only[cu,Bool.false_eq_true]at hs;(have:v.cells.toList=[v]:=one fun cs e=>by subst e;simp[Value.okWide,hd,Cell.okWide,Cell.ok]at hv);rw[this]at h;exact h|sl U=>cases d<;>simp only[cu,Bool.false_eq_true]at hs;obtain⟨a,len,cap,rfl⟩:=okWide_slice hd hv;exact h|st R=>(have: ∃cs,v= .agg cs:=by cases d<;>simp only[cu,Bool.false_eq_true]at hs;(·simp only[Value.okWide,hd]at hv;obtain⟨cs,e,_⟩:=hv;exact⟨cs,e⟩);·simp only[Value.okWide,hd]at hv;obtain⟨cs,e,_⟩:=hv;exact⟨cs,e⟩);obtain⟨cs,rfl⟩:=this;exact⟨cs.toList,by simp,h⟩|pair a b=>simp[cu]at hs|_=>simp[dD]at hp
theorem I7 {b0:Nat} (hE:aE E)(hM: ∀g,g<w.heap.size→M.S g): ∀(ts:List Nat)(Ts:List Ty)(vs:List Value)(ds:List (DataW H))(ps:List MemPlace),ts.map E.ty=Ts.map some→Ts.all dD=true→DataW.TrodAll enc E.P w 0 (fun _=>true) true ts vs ds ps→(∀(j:Nat)t v,ts[j]?=some t→vs[j]?=some v→Value.okWide E.P w .any b0 t v)→ ∃xs:List (Sigma Ty.den),xs.map (·.1)=Ts∧iI w M xs vs∧ds.length=ts.length:=by
 intro ts;induction ts with|nil=>intro Ts vs ds ps h1 _ h3 _;obtain⟨rfl,rfl,rfl⟩:=trodAll_nil h3;(cases Ts with|nil=>exact⟨[],rfl,rfl,rfl⟩|cons T Ts=>simp at h1)|cons t ts ih=>intro Ts vs ds ps h1 h2 h3 h4;obtain⟨v,vs,d,ds,p,q,rfl,rfl,rfl,hd,hr⟩:=trodAll_cons h3;cases Ts with|nil=>simp at h1|cons T Ts=>simp only[List.map_cons,List.cons.injEq]at h1;simp only[List.all_cons,Bool.and_eq_true]at h2;obtain⟨xs,e1,e2,e3⟩:=ih Ts vs ds q h1.2 h2.2 hr fun j t' v' a b=>h4 (j+1) t' v' a b;obtain⟨n,hn⟩:=hd;obtain⟨y,hy⟩:=I6 hE hM n t T _ _ h1.1 h2.1 hn;exact⟨⟨T,y⟩::xs,by rw[List.map_cons,e1],⟨v,vs,rfl,C4 T h2.1,MX hE h1.1 h2.1 (h4 0 t v rfl rfl) hy,e2⟩,by simp[e3]⟩
theorem vW {P:Program} (hl:laidOutB P=true) {w w':World} (hb:Below w.heap.size w w'): ∀(ts:List Nat)(vs:List Value)(ds:List (DataW H))(ps:List MemPlace),(∀t,t∈ts→P.readableRec t=true∧t<P.types.size)→DataW.TrodAll enc P w 0 (fun _=>true) true ts vs ds ps→(∀x∈ps,x.block<w.heap.size)→DataW.TrodAll enc P w' 0 (fun b=>decide (b<w.heap.size)) true ts vs ds ps:=by
 intro ts;induction ts with|nil=>intro vs ds ps _ h _;obtain⟨rfl,rfl,rfl⟩:=trodAll_nil h;rfl|cons t ts ih=>intro vs ds ps hr h cN;obtain⟨v,vs,d,ds,p,q,rfl,rfl,rfl,hd,hq⟩:=trodAll_cons h;have ht:=hr t (List.mem_cons_self ..);exact⟨p,q,Below.trod hl ht.1 ht.2 hd hb (fun x hx=>cN x (List.mem_append.mpr (Or.inl hx))),ih vs ds q (fun t' h'=>hr t' (List.mem_cons_of_mem _ h')) hq (fun x hx=>cN x (List.mem_append.mpr (Or.inr hx))),rfl⟩
theorem F9(hE:aE E) {f:Nat} {fn:Func} {s:ChangeSpec} {apart fresh handsOn:Bool} {Ts:List Ty} {tb b0:Nat} (hl:laidOutB E.P=true)(ZY: ∀t,t∈fn.params.toList→E.P.readableRec t=true∧t<E.P.types.size)(hts:fn.params.toList.map E.ty=Ts.map some)(Hn:Ts.all dD=true)(HO:fn.resultTypes= #[tb])(htb:E.P.underlying tb=some .bool)(R7:s.vars=[])(cC: ∀(ds:List (DataW H)),ds.length=fn.params.toList.length→s.fn H ds= { results:=[.lit (.bool true)],args:=ds })(H3: ∀xs:List (Sigma Ty.den),xs.map (·.1)=Ts→PC E f xs .bool true) {W:World} (hT:nF W fun g=>g<W.heap.size) {args:Array Value} {ds gs:List (DataW H)} {before:List MemPlace} (jg: ∀(j:Nat)t v,fn.params[j]?=some t→args[j]?=some v→Value.okWide E.P W .any b0 t v)(hW:DataW.Whole enc E.P fn.params.toList s.vars apart W args.toList ds gs before):Calls E.P f args W fun e W'=> ∃v,e= .returned v∧s.post enc E.P fn apart fresh handsOn false W args v W':=by
 have ry:=hW;obtain⟨p,q,hA,hV,rfl,hfz,jL⟩:=hW;rw[R7]at hV;obtain⟨rfl,rfl⟩:=trodVars_none hV;obtain⟨xs,e1,e2,e3⟩:=I7 (M:=⟨fun g=>g<W.heap.size,fun g=>W.heap.size≤g⟩) (b0:=b0) hE (fun g h=>h) _ Ts _ _ _ hts Hn hA (fun j t v h1 h2=>jg j t v (by simpa using h1) (by simpa using h2))
 have hc:=H3 xs e1 W (fun g=>g<W.heap.size) args.toList (fun b h=>h) hT e2;rw[Array.toArray_toList]at hc;refine hc.mono fun e W'⟨v,he,hp⟩=>?_;obtain⟨⟨hb,_⟩,S',_,_,_,hr⟩:=hp
 (have hv:v= .bool true:=by simp only[jD,cw,aA,List.cons.injEq,and_true]at hr;exact hr);subst hv;refine⟨_,he,ds,[],p++ [],[],p,[],ry,?_,?_,?_,hb.frame _,fun h=>by cases h⟩
 (·rw[List.append_nil,cC ds e3,HO];exact trodAll_mk1 ⟨1,by simp[DataW.trod,htb,Value.cells]⟩);(·rw[List.append_nil,cC ds e3];exact vW hl hb _ _ _ _ ZY hA fun x hx=>by simpa using ry.lt x (by simpa using hx))
 ·rw[R7,List.append_nil,cC ds e3];rfl
end
end Go.Proofs.YtmgmonbmdkkhbaaGreatDoor
