/-
  From the reading of arguments to the data that they represent; a law's row from its contract. Nothing here is trusted; no condition.
-/
import Derived.Test.YtbbmofoiipjbgaaA8
import Derived.ProofKit
import Derived.OpenShut
import Derived.Deep.Slices
set_option linter.unusedSimpArgs false
set_option linter.unusedVariables false
namespace Go.Proofs.Ytbbmofoiipjbgaa
variable {cH:Prop} [fV cH]
abbrev SH:=Nat→List WI→St→Prop
abbrev SI:=Nat→List Oper→List Nat→List (List Nat)→List Oper→List WI→St→Prop
abbrev SJ:=Nat→Out→Option Nat→List Oper→List Nat→List (List Nat)→List Oper→List WI→St→Prop
structure Pack(E:Env)(G:Goal)where
 W:SH
 O:SI
 Q:SJ
 hW:W=pw E G
 hO:O=po E G
 hQ:Q=pq E G
theorem kM(E:Env)(G:Goal):Nonempty (Pack E G):=⟨⟨_,_,_,rfl,rfl,rfl⟩⟩
noncomputable def PW(E:Env)(G:Goal):SH:=(Classical.choice (kM E G)).W
noncomputable def PO(E:Env)(G:Goal):SI:=(Classical.choice (kM E G)).O
noncomputable def PQ(E:Env)(G:Goal):SJ:=(Classical.choice (kM E G)).Q
theorem dw(E:Env)(G:Goal):PW E G=pw E G:=(Classical.choice (kM E G)).hW
theorem eJ(E:Env)(G:Goal):PO E G=po E G:=(Classical.choice (kM E G)).hO
theorem ej(E:Env)(G:Goal):PQ E G=pq E G:=(Classical.choice (kM E G)).hQ
def PB(E:Env)(G:Goal)(n:Nat)(v:PV)(a b:Code)(k:List WI)(s:St):Prop:=match v with|.iv .bool c=>(c=true→PW E G n (.code a::k) s)∧(c=false→PW E G n (.code b::k) s)|_=>eg 1001
def PK(E:Env)(G:Goal)(n:Nat)(v:PV)(d:Nat)(want:Bool)(o:Oper)(all:List Oper)(N:List Nat)(acc:List (List Nat))(os:List Oper)(k:List WI)(s:St):Prop:=match v with|.iv .bool b=>(b=want→PQ E G n (aj E (cY all N acc o) (s.set d (.iv .bool want)) o) o.dst all N (bR N acc o) os k (s.set d (.iv .bool want)))∧(b= !want→PO E G n all N (bR N acc o) os k ((s.set d (.iv .bool (!want))).put o.dst (.bC [])))|.bC []=>PO E G n all N (bR N acc o) os k (s.put o.dst (.bC []))|_=>eg 1004
def PH(E:Env)(G:Goal)(n:Nat)(g:Option Nat)(want:Bool)(o:Oper)(all:List Oper)(N:List Nat)(acc:List (List Nat))(os:List Oper)(k:List WI)(s:St):Prop:=match g with|some d=>PK E G n (s.get d) d want o all N acc os k s|none=>eg 1005
def PX(E:Env)(G:Goal)(n:Nat)(k:Option (List WI))(s:St):Prop:=match k with|some k=>PW E G n k s|none=>eg 1002
section
variable {E:Env} {G:Goal} {n:Nat} {d:Option Nat} {all:List Oper} {N:List Nat} {acc:List (List Nat)} {os:List Oper} {k:List WI} {s:St}
theorem ED {p:Prop} {o:Out} :PQ E G (n+1) (.bE p o) d all N acc os k s=(p∧PQ E G n o d all N acc os k s):=by simp only[ej,pq]
theorem HG {T:Ty} {p:T.den→Prop} {f:T.den→Out} :PQ E G (n+1) (.m7 T p f) d all N acc os k s= ∃x:T.den,p x∧PQ E G n (f x) d all N acc os k s:=by simp only[ej,pq]
theorem EE {f:Nat} {xs:List (Sigma Ty.den)} {T:Ty} {g:T.den→Out} :PQ E G (n+1) (.call f xs T g) d all N acc os k s= ∃r:T.den,PC E f xs T r∧(T.ok r→PQ E G n (g r) d all N acc os k s):=by
 simp only[ej,pq]
theorem CG {f:Nat} {xs:List (Sigma Ty.den)} {T:Ty} {g:T.den→Out} :PQ E G (n+1) (.gH f xs T g) d all N acc os k s= ∃Y:T.den→Prop,PN E f xs T Y∧ ∀r,Y r→T.ok r→PQ E G n (g r) d all N acc os k s:=by
 simp only[ej,pq]
theorem HH {v:PV} :PQ E G (n+1) (.val v) d all N acc os k s=PO E G n all N acc os k (s.put d v):=by simp only[ej,eJ,pq]
theorem HI {v:PV} {b:aJ} {d:Nat} :PQ E G (n+1) (.new v b) (some d) all N acc os k s=PO E G n all N acc os k ⟨(d,v)::s.sl,(d,b)::s.bl⟩:=by simp only[ej,eJ,pq]
theorem CH {i:Nat} {b:aJ} :PQ E G (n+1) (.store i b) d all N acc os k s=PO E G n all N acc os k ⟨s.sl,(i,b)::s.bl⟩:=by simp only[ej,eJ,pq]
theorem z4 {i j:Nat} {b:aJ} {d:Nat} :PQ E G (n+1) (.append i j b) (some d) all N acc os k s=PO E G n all N acc os k ⟨(d,.aE j)::(s.kill [i]).sl,(j,b)::b9 [i] (s.kill [i]).bl⟩:=by
 simp only[ej,eJ,pq]
theorem z5 {ks:List Nat} {v:PV} :PQ E G (n+1) (.cL ks v) d all N acc os k s=PO E G n all N acc os k ((s.aH ks).put d v):=by simp only[ej,eJ,pq]
theorem HJ {i:Nat} {b:aJ} {v:PV} {d:Nat} :PQ E G (n+1) (.kZ i b v) (some d) all N acc os k s=PO E G n all N acc os k ⟨(d,v)::s.sl,(i,b)::s.bl⟩:=by simp only[ej,eJ,pq]
theorem HK {p:Prop} {o:Out} :PQ E G (n+1) (.imp p o) d all N acc os k s=(p→PQ E G n o d all N acc os k s):=by simp only[ej,pq]
theorem EF {a b:Out} :PQ E G (n+1) (.both a b) d all N acc os k s=(PQ E G n a d all N acc os k s∧PQ E G n b d all N acc os k s):=by simp only[ej,pq]
theorem EG {T:Ty} {p:T.den→Prop} {f:T.den→Out} :PQ E G (n+1) (.jE T p f) d all N acc os k s= ∀x:T.den,p x→PQ E G n (f x) d all N acc os k s:=by simp only[ej,pq]
theorem EH {p:Nat→Prop} {f:Nat→Out} :PQ E G (n+1) (.lO p f) d all N acc os k s= ∀x:Nat,p x→PQ E G n (f x) d all N acc os k s:=by simp only[ej,pq]
def HQ(E:Env)(G:Goal)(n:Nat)(f:Nat)(args:List PV)(bl:List (Nat×aJ))(ids:List Nat)(fl:Bool)(used:List Nat)(d' d:Option Nat)(all:List Oper)(N:List Nat)(acc:List (List Nat))(os:List Oper)(k:List WI)(s:St):Prop:= ∃p bl',HC E f args bl p bl'∧o7 bl bl' fl used d' p=true∧(Bd p→lW bl'→PO E G n all N acc os k (s.b7 d ids p bl'))
def O2(E:Env)(G:Goal)(n:Nat)(f:Nat)(args:List PV)(bl:List (Nat×aJ))(ids:List Nat)(fl:Bool)(used:List Nat)(d' d:Option Nat)(all:List Oper)(N:List Nat)(acc:List (List Nat))(os:List Oper)(k:List WI)(s:St):Prop:= ∃(T:Ty)(Y:T.den→Prop)(p:T.den→PV)(bl':T.den→List (Nat×aJ)),HN E f args bl T Y p bl'∧ ∀r,Y r→o7 bl (bl' r) fl used d' (p r)=true∧(Bd (p r)→lW (bl' r)→PO E G n all N acc os k (s.b7 d ids (p r) (bl' r)))
theorem z6 {f:Nat} {args:List PV} {bl:List (Nat×aJ)} {ids:List Nat} {fl:Bool} {used:List Nat} {d':Option Nat} :PQ E G (n+1) (.er f args bl ids fl used d') d all N acc os k s=O2 E G n f args bl ids fl used d' d all N acc os k s:=by
 simp only[ej,eJ,pq,O2]
theorem LO {f:Nat} {args:List PV} {bl:List (Nat×aJ)} {T:Ty} {Y:T.den→Prop} {p:T.den→PV} {bl':T.den→List (Nat×aJ)} :HN E.go f args bl T Y p bl'=HN E f args bl T Y p bl':=rfl
theorem CI {f:Nat} {args:List PV} {bl:List (Nat×aJ)} {ids:List Nat} {fl:Bool} {used:List Nat} {d':Option Nat} :PQ E G (n+1) (.gI f args bl ids fl used d') d all N acc os k s=HQ E G n f args bl ids fl used d' d all N acc os k s:=by
 simp only[ej,eJ,pq,HQ]
theorem HL:PO E G (n+1) all N acc [] k s=PW E G n k s:=by simp only[eJ,dw,po]
def PJ(E:Env)(G:Goal)(n:Nat)(cp:Bool)(o:Oper)(all:List Oper)(N:List Nat)(acc:List (List Nat))(os:List Oper)(k:List WI)(s:St):Prop:=match cp with|false=>PQ E G n (aj E (cY all N acc o) s o) o.dst all N (bR N acc o) os k s|true=>PQ E G n (aj E (cY all N acc o) s o) o.dst all N (bR N acc o) os k s∨gx E G s o
theorem EI {f n':Nat} {rv:List ResultVar} {p:PV} {bl:List (Nat×aJ)} {mo:Option ((T:Ty)×(T.den→Prop)×(T.den→PV)×(T.den→List (Nat×aJ)))} {rn:Fr} {dst:Option Tmp} {op:Op} {ty:TypeId} {pos:String} {af:Array Edge} :PO E ⟨f,n',rv,p,bl,mo,false,rn⟩ (n+1) all N acc (⟨dst,op,ty,pos,af,none⟩::os) k s=PQ E ⟨f,n',rv,p,bl,mo,false,rn⟩ n (aj E (cY all N acc ⟨dst,op,ty,pos,af,none⟩) s ⟨dst,op,ty,pos,af,none⟩) dst all N (bR N acc ⟨dst,op,ty,pos,af,none⟩) os k s:=by
 simp only[eJ,ej,po,cV]
theorem CJ {f n':Nat} {rv:List ResultVar} {p:PV} {bl:List (Nat×aJ)} {mo:Option ((T:Ty)×(T.den→Prop)×(T.den→PV)×(T.den→List (Nat×aJ)))} {rn:Fr} {dst:Option Tmp} {op:Op} {ty:TypeId} {pos:String} {af:Array Edge} :PO E ⟨f,n',rv,p,bl,mo,true,rn⟩ (n+1) all N acc (⟨dst,op,ty,pos,af,none⟩::os) k s=PJ E ⟨f,n',rv,p,bl,mo,true,rn⟩ n (cV E ⟨f,n',rv,p,bl,mo,true,rn⟩ N s ⟨dst,op,ty,pos,af,none⟩) ⟨dst,op,ty,pos,af,none⟩ all N acc os k s:=by
 simp only[eJ,po];unfold PJ;rw[ej];rfl
theorem O3 {o:Oper} :PJ E G n false o all N acc os k s=PQ E G n (aj E (cY all N acc o) s o) o.dst all N (bR N acc o) os k s:=rfl
theorem O4 {o:Oper} :PJ E G n true o all N acc os k s=(PQ E G n (aj E (cY all N acc o) s o) o.dst all N (bR N acc o) os k s∨gx E G s o):=rfl
theorem z7 {ks:List Nat} {i:Nat} {b:aJ} :PQ E G (n+1) (.dz ks i b) d all N acc os k s=PO E G n all N acc os k ⟨(s.aH ks).sl,(i,b)::(s.aH ks).bl⟩:=by simp only[ej,eJ,pq]
theorem EJ {dst:Option Tmp} {op:Op} {ty:TypeId} {pos:String} {af:Array Edge} {j:Nat} {want:Bool} :PO E G (n+1) all N acc (⟨dst,op,ty,pos,af,some (j,want)⟩::os) k s=PH E G n (bq all j) want ⟨dst,op,ty,pos,af,some (j,want)⟩ all N acc os k s:=by
 simp only[eJ,po];unfold PH;cases bq all j with|none=>rfl|some d=>simp only[PK,eJ,ej];rfl
theorem EK {d:Nat} {want:Bool} {o:Oper} :PH E G n (some d) want o all N acc os k s=PK E G n (s.get d) d want o all N acc os k s:=rfl
theorem LP {d:Nat} {o:Oper} :PK E G n (.iv .bool true) d true o all N acc os k s=PQ E G n (aj E (cY all N acc o) (s.set d (.iv .bool true)) o) o.dst all N (bR N acc o) os k (s.set d (.iv .bool true)):=by
 simp[PK]
theorem LQ {d:Nat} {o:Oper} :PK E G n (.iv .bool false) d false o all N acc os k s=PQ E G n (aj E (cY all N acc o) (s.set d (.iv .bool false)) o) o.dst all N (bR N acc o) os k (s.set d (.iv .bool false)):=by
 simp[PK]
theorem LR {d:Nat} {o:Oper} :PK E G n (.iv .bool true) d false o all N acc os k s=PO E G n all N (bR N acc o) os k ((s.set d (.iv .bool true)).put o.dst (.bC [])):=by simp[PK]
theorem LS {d:Nat} {o:Oper} :PK E G n (.iv .bool false) d true o all N acc os k s=PO E G n all N (bR N acc o) os k ((s.set d (.iv .bool false)).put o.dst (.bC [])):=by simp[PK]
theorem CK {d:Nat} {want:Bool} {o:Oper} :PK E G n (.bC []) d want o all N acc os k s=PO E G n all N (bR N acc o) os k (s.put o.dst (.bC [])):=rfl
theorem CL {d:Nat} {o:Oper} {p:Prop} [Decidable p]:PK E G n (.iv .bool (decide p)) d true o all N acc os k s=((p→PQ E G n (aj E (cY all N acc o) (s.set d (.iv .bool true)) o) o.dst all N (bR N acc o) os k (s.set d (.iv .bool true)))∧(¬p→PO E G n all N (bR N acc o) os k ((s.set d (.iv .bool false)).put o.dst (.bC [])))):=by
 simp[PK]
theorem CM {d:Nat} {o:Oper} {p:Prop} [Decidable p]:PK E G n (.iv .bool (decide p)) d false o all N acc os k s=((¬p→PQ E G n (aj E (cY all N acc o) (s.set d (.iv .bool false)) o) o.dst all N (bR N acc o) os k (s.set d (.iv .bool false)))∧(p→PO E G n all N (bR N acc o) os k ((s.set d (.iv .bool true)).put o.dst (.bC [])))):=by
 simp[PK]
theorem O5 {a b:Code} :PB E G n (.iv .bool true) a b k s=PW E G n (.code a::k) s:=by simp[PB]
theorem O6 {a b:Code} :PB E G n (.iv .bool false) a b k s=PW E G n (.code b::k) s:=by simp[PB]
theorem HM {a b:Code} {p:Prop} [Decidable p]:PB E G n (.iv .bool (decide p)) a b k s=((p→PW E G n (.code a::k) s)∧(¬p→PW E G n (.code b::k) s)):=by simp[PB]
theorem EL {a b:Code} {p:Prop} [Decidable p]:PB E G n (.iv .bool !(decide p)) a b k s=((p→PW E G n (.code b::k) s)∧(¬p→PW E G n (.code a::k) s)):=by simp[PB,and_comm]
theorem z8 {d:Nat} {o:Oper} {p:Prop} [Decidable p]:PK E G n (.iv .bool !(decide p)) d true o all N acc os k s=((¬p→PQ E G n (aj E (cY all N acc o) (s.set d (.iv .bool true)) o) o.dst all N (bR N acc o) os k (s.set d (.iv .bool true)))∧(p→PO E G n all N (bR N acc o) os k ((s.set d (.iv .bool false)).put o.dst (.bC [])))):=by
 simp[PK]
theorem z9 {d:Nat} {o:Oper} {p:Prop} [Decidable p]:PK E G n (.iv .bool !(decide p)) d false o all N acc os k s=((p→PQ E G n (aj E (cY all N acc o) (s.set d (.iv .bool false)) o) o.dst all N (bR N acc o) os k (s.set d (.iv .bool false)))∧(¬p→PO E G n all N (bR N acc o) os k ((s.set d (.iv .bool true)).put o.dst (.bC [])))):=by
 simp[PK]
theorem O7 {a b:Code} {c:Bool} :PB E G n (.iv .bool c) a b k s=((c=true→PW E G n (.code a::k) s)∧(c=false→PW E G n (.code b::k) s)):=rfl
theorem EM {k:List WI} :PX E G n (some k) s=PW E G n k s:=rfl
theorem HO {f n':Nat} {rv:List ResultVar} {p:PV} {bl:List (Nat×aJ)} {mo:Option ((T:Ty)×(T.den→Prop)×(T.den→PV)×(T.den→List (Nat×aJ)))} {jz:Bool} :PW E ⟨f,n',rv,p,bl,mo,jz,.fn⟩ (n+1) [] s=oi E ⟨f,n',rv,p,bl,mo,jz,.fn⟩ s:=by
 simp only[dw,pw,kb]
theorem EN {f n':Nat} {rv:List ResultVar} {p:PV} {bl:List (Nat×aJ)} {mo:Option ((T:Ty)×(T.den→Prop)×(T.den→PV)×(T.den→List (Nat×aJ)))} {jz:Bool} {L:Nat} :PW E ⟨f,n',rv,p,bl,mo,jz,.DM L true⟩ (n+1) [] s=oi E ⟨f,n',rv,p,bl,mo,jz,.DM L true⟩ s:=by
 simp only[dw,pw,kb]
theorem EO {f n':Nat} {rv:List ResultVar} {p:PV} {bl:List (Nat×aJ)} {mo:Option ((T:Ty)×(T.den→Prop)×(T.den→PV)×(T.den→List (Nat×aJ)))} {jz:Bool} {L:Nat} :PW E ⟨f,n',rv,p,bl,mo,jz,.DM L false⟩ (n+1) (.code .ret::k) s=oi E ⟨f,n',rv,p,bl,mo,jz,.DM L false⟩ s:=by
 simp only[dw,pw,kb]
theorem EP {f n':Nat} {rv:List ResultVar} {p:PV} {bl:List (Nat×aJ)} {mo:Option ((T:Ty)×(T.den→Prop)×(T.den→PV)×(T.den→List (Nat×aJ)))} {jz:Bool} {q:Nat} :PW E ⟨f,n',rv,p,bl,mo,jz,.KK q⟩ (n+1) (.code .ret::k) s=(Nat.ble P0 q=true∧look q s.bl=some (.gh Sx [])∧oi E ⟨f,n',rv,p,bl,mo,jz,.KK q⟩ ⟨s.sl,(q,.gh OB [])::s.bl⟩):=by
 simp only[dw,pw,kb]
theorem CN:PW E G (n+1) (.begin::k) s=az E G (.begin::k) s:=by simp only[dw,pw]
theorem s9 {x:Operand} {ps:Array Tmp} {a b:Code} :PW E G (n+1) (.code (.rangeFunc x ps a b)::k) s=az E G (.code (.rangeFunc x ps a b)::k) s:=by simp only[dw,pw]
theorem HP {i:Nat} :PW E G (n+1) (.bJ i::k) s=PW E G n k s:=by simp only[dw,pw]
theorem Aa {c:Code} :PW E G (n+1) (.loop c::k) s=az E G (.loop c::k) s:=by simp only[dw,pw]
theorem ER:PW E G (n+1) (.code .skip::k) s=PW E G n k s:=by simp only[dw,pw]
theorem HR {a b:Code} :PW E G (n+1) (.code (.seq a b)::k) s=PW E G n (.code a:: .code b::k) s:=by simp only[dw,pw]
def PS(E:Env)(G:Goal)(n:Nat)(b:Bool)(i:Nat)(ops:List Oper)(k:List WI)(s:St):Prop:=match b with|true=>az E G (.code (.region i ⟨ops⟩ false)::k) s|false=>PO E G n ops [] [] ops k s
theorem HS {i:Nat} {ops:List Oper} :PW E G (n+1) (.code (.region i ⟨ops⟩ false)::k) s=PS E G n (E.se G.f i) i ops k s:=by simp only[dw,pw];unfold PS;rw[eJ];cases E.se G.f i<;>rfl
theorem O8 {i:Nat} {ops:List Oper} :PS E G n false i ops k s=PO E G n ops [] [] ops k s:=rfl
theorem O9 {i:Nat} {ops:List Oper} :PS E G n true i ops k s=az E G (.code (.region i ⟨ops⟩ false)::k) s:=rfl
def PD(E:Env)(G:Goal)(n:Nat)(l:List (List Nat))(ops:List Oper)(k:List WI)(s:St):Prop:=match l with|[]=>PO E G n ops (bz ops) [] ops k s|x::l=>match B4 (x::l)with|some c=>PO E G n ops (bz ops) [] (ops.take c) (.rest ops (ops.drop c)::k) s|none=>iT G ops=true∧PW E G n (.tail ops (x::l)::k) s
def NA(E:Env)(G:Goal)(n:Nat)(b:Bool)(i:Nat)(ops:List Oper)(k:List WI)(s:St):Prop:=match b with|true=>az E G (.code (.region i ⟨ops⟩ true)::k) s|false=>PD E G n (E.fl G.f i) ops k s
theorem ES {i:Nat} {ops:List Oper} :PW E G (n+1) (.code (.region i ⟨ops⟩ true)::k) s=NA E G n (E.se G.f i) i ops k s:=by
 simp only[dw,pw];unfold NA PD;rw[dw,eJ];cases E.se G.f i<;>cases E.fl G.f i<;>rfl
theorem LU {i:Nat} {ops:List Oper} :NA E G n false i ops k s=PD E G n (E.fl G.f i) ops k s:=rfl
theorem LV {i:Nat} {ops:List Oper} :NA E G n true i ops k s=az E G (.code (.region i ⟨ops⟩ true)::k) s:=rfl
theorem HT {ops:List Oper} :PD E G n [] ops k s=PO E G n ops (bz ops) [] ops k s:=rfl
theorem ET {i:Nat} {x:List Nat} {l:List (List Nat)} {ops:List Oper} :PD E G n ((i::x)::l) ops k s=(iT G ops=true∧PW E G n (.tail ops ((i::x)::l)::k) s):=rfl
theorem HU {c:Nat} {x:List Nat} {l:List (List Nat)} {ops:List Oper} :PD E G n ([]::(c::x)::l) ops k s=PO E G n ops (bz ops) [] (ops.take c) (.rest ops (ops.drop c)::k) s:=rfl
def NB(E:Env)(G:Goal)(n:Nat)(hs:List Nat)(all:List Oper)(ay:List (List Nat))(k:List WI)(s:St):Prop:=match hs with|[]=>PW E G n k s|h::hs=>pt E G n all ay (h::hs) k s
def EU(E:Env)(G:Goal):Nat→List Nat→List Oper→List (List Nat)→List WI→St→Prop|0,_,_,_,_,_=>eg 1000|_+1,[],_,_,_,_=>True|n+1,h::hs,all,ay,k,s=>(match ka all h with|some o=>fD all o s=true∧PO E G n all [] [] [o] (.tail all (dH h ay)::k) s|none=>eg 1008)∧EU E G n hs all ay k s
theorem CO {all:List Oper} {ay:List (List Nat)} : ∀(n:Nat)(hs:List Nat),pt E G n all ay hs k s=EU E G n hs all ay k s|0,_=>(by simp only[pt,EU])|n+1,[]=>(by simp only[pt,EU])|n+1,h::hs=>by simp only[pt,EU,CO n hs,eJ];rfl
theorem EV {all:List Oper} {ay:List (List Nat)} :PW E G (n+1) (.tail all ay::k) s=NB E G n (eX ay) all ay k s:=by simp only[dw,pw];unfold NB;rw[dw];cases eX ay<;>rfl
theorem EW {all B:List Oper} :PW E G (n+1) (.rest all B::k) s=PO E G n all [] [] B k s:=by simp only[dw,eJ,pw]
theorem EX {all:List Oper} {ay:List (List Nat)} :NB E G n [] all ay k s=PW E G n k s:=rfl
theorem CP {h:Nat} {hs:List Nat} {all:List Oper} {ay:List (List Nat)} :NB E G n (h::hs) all ay k s=EU E G n (h::hs) all ay k s:=CO n (h::hs)
theorem EY {all:List Oper} {ay:List (List Nat)} :EU E G (n+1) [] all ay k s=True:=rfl
def SK(E:Env)(G:Goal)(n:Nat)(o:Option Oper)(all:List Oper)(ay:List (List Nat))(k:List WI)(s:St):Prop:=match o with|some o=>fD all o s=true∧PO E G n all [] [] [o] (.tail all ay::k) s|none=>eg 1008
theorem CQ {h:Nat} {hs:List Nat} {all:List Oper} {ay:List (List Nat)} :EU E G (n+1) (h::hs) all ay k s=(SK E G n (ka all h) all (dH h ay) k s∧EU E G n hs all ay k s):=rfl
theorem CR {o:Oper} {all:List Oper} {ay:List (List Nat)} :SK E G n (some o) all ay k s=(fD all o s=true∧PO E G n all [] [] [o] (.tail all ay::k) s):=rfl
theorem EZ {x:Operand} {a b:Code} :PW E G (n+1) (.code (.cond x a b)::k) s=PB E G n (s.ev x) a b k s:=by simp only[dw,PB,pw];rfl
theorem CS {i:Nat} {b:Code} :PW E G (n+1) (.code (.block i b)::k) s=PW E G n (.code b:: .bJ i::k) s:=by simp only[dw,pw]
theorem E0 {b:Code} :PW E G (n+1) (.code (.loop b)::k) s=az E G (.code (.loop b)::k) s:=by simp only[dw,pw]
theorem E1 {i:Nat} :PW E G (n+1) (.code (.exit i)::k) s=PX E G n (jk i k) s:=by simp only[dw,PX,pw];rfl
theorem HV {f n':Nat} {rv:List ResultVar} {p:PV} {bl:List (Nat×aJ)} {mo:Option ((T:Ty)×(T.den→Prop)×(T.den→PV)×(T.den→List (Nat×aJ)))} {jz:Bool} :PW E ⟨f,n',rv,p,bl,mo,jz,.fn⟩ (n+1) (.code .ret::k) s=oi E ⟨f,n',rv,p,bl,mo,jz,.fn⟩ s:=by
 simp only[dw,pw,kb]
end
theorem aA.go {E:Env} (h:aA E):aA E.go:=⟨h.ty,h.fn,h.res,h.dx,h.cmp,h.mapKey,h.mixed,h.yU,h.Dv,h.emp,h.tJ⟩
section
variable {E:Env}
theorem Ve:E.go.P=E.P:=rfl
theorem LW {t:Nat} :E.go.ty t=E.ty t:=rfl
theorem HW {t:Nat} :E.go.str t=E.str t:=rfl
theorem HX {t:Nat} :E.go.cmp t=E.cmp t:=rfl
theorem LX {t:Nat} :E.go.fn t=E.fn t:=rfl
theorem HY {t:Nat} :E.go.dx t=E.dx t:=rfl
theorem HZ {t:Nat} :E.go.mapKey t=E.mapKey t:=rfl
theorem LY {d t:Nat} :E.go.ro d t=E.ro d t:=rfl
theorem LZ:E.go.tm=E.tm:=rfl
theorem L0 {t:Nat} :E.go.AY t=E.AY t:=rfl
theorem L1 {t:Nat} :E.go.yU t=E.yU t:=rfl
theorem L2 {t:Nat} :E.go.nd t=E.nd t:=rfl
theorem E2 {t:Nat} {m:String} :E.go.tJ t m=E.tJ t m:=rfl
theorem H0 {t:Nat} :E.go.Dv t=E.Dv t:=rfl
theorem L3 {t:Nat} :E.go.px t=E.px t:=rfl
theorem L4 {f i:Nat} :E.go.fl f i=E.fl f i:=rfl
theorem H2 {t:Nat} :E.go.emp t=E.emp t:=rfl
theorem H3 {f i:Nat} :E.go.se f i=false:=rfl
theorem L5 {f:Nat} {xs:List (Sigma Ty.den)} {T:Ty} {r:T.den} :PC E.go f xs T r=PC E f xs T r:=rfl
theorem L6 {f:Nat} {xs:List (Sigma Ty.den)} {T:Ty} {Y:T.den→Prop} :PN E.go f xs T Y=PN E f xs T Y:=rfl
theorem L7 {f:Nat} {args:List PV} {bl bl':List (Nat×aJ)} {p:PV} :HC E.go f args bl p bl'=HC E f args bl p bl':=rfl
theorem L8 {f:Nat} {xs:List (Sigma Ty.den)} :XC E.go f xs=XC E f xs:=rfl
theorem L9 {f:Nat} {args:List PV} {bl bl':List (Nat×aJ)} :XH E.go f args bl bl'=XH E f args bl bl':=rfl
theorem CT {G:Goal} {k:List WI} {s:St} :az E.go G k s=az E G k s:=rfl
end
theorem bc {E:Env} (hE:aA E) {G:Goal} (VV:sP E G)(m:Nat)(todo:List WI)(s:St)(cM:oG (vO E G.f AW (jl E) om) G.n todo=true)(h:PW E G m todo s):az E G todo s:=uS hE (qh hE) (r4 hE) (rU hE) m todo s cM (by rw[←dw];exact h)
theorem Ab {E:Env} (hE:aA E) {G:Goal} (m:Nat)(todo:List WI)(s:St)(cM:oG (vO E G.f AW (jl E) om) G.n todo=true)(h:PW E G m todo s):az E G todo s:=uS hE (qh hE) (r4 hE) (rU hE) m todo s cM (by rw[←dw];exact h)
theorem Pa {E:Env} (hE:aA E) {G:Goal} (m:Nat)(todo:List WI)(s:St)(cM:oG (vO E.go G.f AW (jl E.go) om) G.n todo=true)(h:PW E.go G m todo s):az E G todo s:=Ab (E:=E.go) hE.go m todo s cM h
theorem SL {E:Env} (hE:aA E) {G:Goal} (hG:sP E G)(m:Nat)(todo:List WI)(s:St)(cM:oG (vO E.go G.f AW (jl E.go) om) G.n todo=true)(h:PW E.go G m todo s):az E G todo s:=bc (E:=E.go) hE.go ⟨hG.1⟩ m todo s cM h
theorem PC.cv {E:Env} (hE:aA E) {f n m:Nat} {fn:Func} {c:Code} {xs:List (Sigma Ty.den)} {T:Ty} {r:T.den} (dx:E.P.funcs[f]?=some fn)(hb:fn.body=some c)(hn:fn.ntmps=n)(hlen:Nat.ble xs.length n=true)(ez:Nat.ble n 100000=true)(cM:oG (vO E f AW (jl E) om) n [.code c]=true)(h:AU xs→PW E ⟨f,n,fn.results.toList,.iv T r,[],none,false,.fn⟩ m [.code c] ⟨cu 0 (uU xs),[]⟩):PC E f xs T r:=PC.eA dx hb hn hlen ez fun hx=>bc hE (G:=⟨f,n,fn.results.toList,.iv T r,[],none,false,.fn⟩) ⟨fn,dx,rfl⟩ m _ _ cM (h hx)
theorem PN.cv {E:Env} (hE:aA E) {f n m:Nat} {fn:Func} {c:Code} {xs:List (Sigma Ty.den)} {T:Ty} {Y:T.den→Prop} (dx:E.P.funcs[f]?=some fn)(hb:fn.body=some c)(hn:fn.ntmps=n)(hlen:Nat.ble xs.length n=true)(ez:Nat.ble n 100000=true)(cM:oG (vO E f AW (jl E) om) n [.code c]=true)(h:AU xs→PW E ⟨f,n,fn.results.toList,.any,[],some ⟨T,Y,fun r=>.iv T r,fun _=>[]⟩,false,.fn⟩ m [.code c] ⟨cu 0 (uU xs),[]⟩):PN E f xs T Y:=PN.eA dx hb hn hlen ez fun hx=>bc hE (G:=⟨f,n,fn.results.toList,.any,[],some ⟨T,Y,fun r=>.iv T r,fun _=>[]⟩,false,.fn⟩) ⟨fn,dx,rfl⟩ m _ _ cM (h hx)
theorem HN.cv {E:Env} (hE:aA E) {f n m:Nat} {fn:Func} {c:Code} {args:List PV} {bl:List (Nat×aJ)} {T:Ty} {Y:T.den→Prop} {p:T.den→PV} {bl':T.den→List (Nat×aJ)} (dx:E.P.funcs[f]?=some fn)(hb:fn.body=some c)(hn:fn.ntmps=n)(hlen:Nat.ble args.length n=true)(ez:Nat.ble n 100000=true)(cM:oG (vO E f AW (jl E) om) n [.code c]=true)(h:sR args→lW bl→PW E ⟨f,n,fn.results.toList,.any,[],some ⟨T,Y,p,bl'⟩,false,.fn⟩ m [.code c] ⟨cu 0 args,bl⟩):HN E f args bl T Y p bl':=HN.eA dx hb hn hlen ez fun h1 h2=>bc hE (G:=⟨f,n,fn.results.toList,.any,[],some ⟨T,Y,p,bl'⟩,false,.fn⟩) ⟨fn,dx,rfl⟩ m _ _ cM (h h1 h2)
theorem HC.cv {E:Env} (hE:aA E) {f n m:Nat} {fn:Func} {c:Code} {args:List PV} {bl bl':List (Nat×aJ)} {p:PV} (dx:E.P.funcs[f]?=some fn)(hb:fn.body=some c)(hn:fn.ntmps=n)(hlen:Nat.ble args.length n=true)(ez:Nat.ble n 100000=true)(cM:oG (vO E f AW (jl E) om) n [.code c]=true)(h:sR args→lW bl→PW E ⟨f,n,fn.results.toList,p,bl',none,false,.fn⟩ m [.code c] ⟨cu 0 args,bl⟩):HC E f args bl p bl':=HC.eA dx hb hn hlen ez fun h1 h2=>bc hE (G:=⟨f,n,fn.results.toList,p,bl',none,false,.fn⟩) ⟨fn,dx,rfl⟩ m _ _ cM (h h1 h2)
theorem XC.cv {E:Env} (hE:aA E) {f n m:Nat} {fn:Func} {c:Code} {xs:List (Sigma Ty.den)} (dx:E.P.funcs[f]?=some fn)(hb:fn.body=some c)(hn:fn.ntmps=n)(hlen:Nat.ble xs.length n=true)(ez:Nat.ble n 100000=true)(cM:oG (vO E f AW (jl E) om) n [.code c]=true)(h:AU xs→PW E ⟨f,n,fn.results.toList,.any,[],none,true,.fn⟩ m [.code c] ⟨cu 0 (uU xs),[]⟩):XC E f xs:=XC.eA dx hb hn hlen ez fun hx=>bc hE (G:=⟨f,n,fn.results.toList,.any,[],none,true,.fn⟩) ⟨fn,dx,rfl⟩ m _ _ cM (h hx)
theorem XH.cv {E:Env} (hE:aA E) {f n m:Nat} {fn:Func} {c:Code} {args:List PV} {bl bl':List (Nat×aJ)} (dx:E.P.funcs[f]?=some fn)(hb:fn.body=some c)(hn:fn.ntmps=n)(hlen:Nat.ble args.length n=true)(ez:Nat.ble n 100000=true)(cM:oG (vO E f AW (jl E) om) n [.code c]=true)(h:sR args→lW bl→PW E ⟨f,n,fn.results.toList,.any,bl',none,true,.fn⟩ m [.code c] ⟨cu 0 args,bl⟩):XH E f args bl bl':=XH.eA dx hb hn hlen ez fun h1 h2=>bc hE (G:=⟨f,n,fn.results.toList,.any,bl',none,true,.fn⟩) ⟨fn,dx,rfl⟩ m _ _ cM (h h1 h2)
theorem Pb(a b:Nat):Nat.beq a b=(a==b):=by cases h:Nat.beq a b with|true=>simp[Nat.eq_of_beq_eq_true h]|false=>(have:a≠b:=by rintro rfl;simp at h);simp[this]
theorem Pc(a b:Nat):Nat.ble a b=decide (a≤b):=by
 cases h:Nat.ble a b with|true=>simp[Nat.le_of_ble_eq_true h]|false=>(have: ¬a≤b:=by intro h';rw[Nat.ble_eq_true_of_le h']at h;cases h);simp[this]
theorem Pd(a b:Nat):Nat.blt a b=decide (a+1≤b):=by
 show Nat.blt a b=decide (a<b);cases h:Nat.blt a b with|true=>rw[Nat.blt_eq]at h;simp[h]|false=>(have: ¬a<b:=by intro h';rw[←Nat.blt_eq]at h';rw[h']at h;cases h);simp[this]
theorem az.eB {E:Env} {G:Goal} {c:Code} {k:List WI} {s:St} {X:Type} (st:X→St)(inv:X→Prop)(m:X→Nat)(x0:X)(hle:Le s (st x0))(hinv:inv x0)(h: ∀x,inv x→(∀(s:St)(y:X),Le s (st y)→inv y→m y<m x→az E G (.loop c::k) s)→az E G (.code c:: .loop c::k) (st x)):az E G (.code (.loop c)::k) s:=az.weaken hle (az.loop st inv m h x0 hinv)
end Go.Proofs.Ytbbmofoiipjbgaa
namespace Go.Proofs.Ytbbmofoiipjbgaa
variable {cH:Prop} [fV cH]
open Go.RowKit
def cx(l:List (Nat×Nat))(i:Nat):Nat:=match look i l with|some j=>j|none=>i
def fe:List (Nat×Nat)→List (Nat×Nat)|[]=>[]|p::r=>(p.2,p.1)::fe r
def mM(l:List (Nat×Nat)):List (Nat×Nat)→Bool|[]=>true|p::r=>Nat.beq (cx l p.1) p.2&&Nat.blt p.1 P0&&mM l r
def vo(l:List (Nat×Nat)):Bool:=mM l l&&mM (fe l) (fe l)
theorem mN {l:List (Nat×Nat)} {i j:Nat} (h:look i l=some j):(i,j)∈l:=by
 induction l with|nil=>cases h|cons p r ih=>simp only[look]at h;cases hb:Nat.beq i p.1 with|true=>simp only[hb,cond_true,Option.some.injEq]at h;have:=Nat.eq_of_beq_eq_true hb;rw[List.mem_cons];left;obtain⟨a,b⟩:=p;simp only at h this;rw[this,h]|false=>simp only[hb,cond_false]at h;exact List.mem_cons_of_mem _ (ih h)
theorem CU {l:List (Nat×Nat)} {i j:Nat} (h:(i,j)∈l): ∃k,look i l=some k:=by
 induction l with|nil=>cases h|cons p r ih=>simp only[look];cases hb:Nat.beq i p.1 with|true=>exact⟨p.2,rfl⟩|false=>rcases List.mem_cons.1 h with h|h;(·subst h;simp at hb);·exact ih h
theorem nI {i j:Nat} : ∀ {l:List (Nat×Nat)},(i,j)∈l→(j,i)∈fe l|[],h=>(by cases h)|p::r,h=>by rcases List.mem_cons.1 h with h|h;(·subst h;exact List.mem_cons_self ..);·exact List.mem_cons_of_mem _ (nI h)
theorem swap_swap: ∀(l:List (Nat×Nat)),fe (fe l)=l|[]=>rfl|p::r=>by simp only[fe,swap_swap r]
theorem lC {l:List (Nat×Nat)} : ∀ {r:List (Nat×Nat)} {i j:Nat},mM l r=true→(i,j)∈r→cx l i=j∧i<P0|[],i,j,_,h=>(by cases h)|p::r,i,j,hi,h=>by simp only[mM,Bool.and_eq_true,Nat.blt_eq]at hi;rcases List.mem_cons.1 h with h|h;(·subst h;exact⟨Nat.eq_of_beq_eq_true hi.1.1,hi.1.2⟩);·exact lC hi.2 h
theorem vp {l:List (Nat×Nat)} (h:vo l=true)(h': ∀i j,(i,j)∈l→ ∃k,(j,k)∈l)(i:Nat):cx (fe l) (cx l i)=i:=by
 simp only[vo,Bool.and_eq_true]at h;cases hl:look i l with|some j=>have hm:=mN hl;(have e:cx l i=j:=by simp[cx,hl]);rw[e];exact(lC h.2 (nI hm)).1|none=>(have e:cx l i=i:=by simp[cx,hl]);rw[e];cases hs:look i (fe l)with|none=>simp[cx,hs]|some j=>have hm:=nI (mN hs);rw[swap_swap]at hm;obtain⟨k,hk⟩:=h' _ _ hm;obtain⟨k',hH⟩:=CU hk;rw[hl]at hH;cases hH
def closed(l:List (Nat×Nat)):List (Nat×Nat)→Bool|[]=>true|p::r=>(match look p.2 l with|some _=>true|none=>false)&&closed l r
theorem nJ {l:List (Nat×Nat)} : ∀ {r:List (Nat×Nat)} {i j:Nat},closed l r=true→(i,j)∈r→ ∃k,(j,k)∈l|[],i,j,_,h=>(by cases h)|p::r,i,j,hc,h=>by simp only[closed,Bool.and_eq_true]at hc;rcases List.mem_cons.1 h with h|h;(·subst h;have h1:=hc.1;split at h1;(·rename_i k hk;exact⟨k,mN hk⟩);·cases h1);·exact nJ hc.2 h
def tc(l:List (Nat×Nat)):Bool:=vo l&&closed l l&&vo (fe l)&&closed (fe l) (fe l)
theorem xi {l:List (Nat×Nat)} (h:tc l=true):(∀i,cx (fe l) (cx l i)=i)∧(∀i,cx l (cx (fe l) i)=i)∧ ∀i,P0≤i→cx l i=i:=by
 simp only[tc,Bool.and_eq_true]at h;refine⟨vp h.1.1.1 (fun i j hm=>nJ h.1.1.2 hm),fun i=>?_,fun i hi=>?_⟩;(·have:=vp h.1.2 (fun i j hm=>nJ h.2 hm) i;rwa[swap_swap]at this)
 ·unfold cx;cases hl:look i l with|none=>rfl|some j=>have:=h.1.1.1;simp only[vo,Bool.and_eq_true]at this;have:=(lC this.1 (mN hl)).2;omega
def St.fO(s:St)(ρ:Nat→Nat):St:=⟨ic (PV.fO ρ) s.sl,jg ρ s.bl⟩
theorem Full.fO {n:Nat} {w0:World} {S0:Cx} {s:St} {a:Act} {w:World} {ν:Nat→Value} {S:Nat→Prop} (h:Full n w0 S0 s a w ν S) {l:List (Nat×Nat)} (hp:tc l=true):Full n w0 S0 (s.fO (cx l)) a w (fun i=>ν (cx (fe l) i)) S:=by
 obtain⟨h1,h2,h3⟩:=xi hp;(have inj: ∀i j,cx l i=cx l j→i=j:=fun i j e=>by rw[←h1 i,←h1 j,e]);have Ma: ∀i b,look i s.bl=some b→look (cx l i) (s.fO (cx l)).bl=some (b.map (PV.eD (cx l))):=fun i b hb=>hJ (fun j c _ e=>inj j i e) hb
 have hold: ∀i b,look i (s.fO (cx l)).bl=some b→ ∃j c,cx l j=i∧look j s.bl=some c∧b=c.map (PV.eD (cx l)):=fun i b hb=>ll (fun j k _ _ _ _ e=>inj j k e) hb;have hle:Ctx.F5 (keys s.bl) (cx l) ⟨ν,s.D,w,⟨S,ax w0 S0⟩⟩ ⟨fun i=>ν (cx (fe l) i),(s.fO (cx l)).D,w,⟨S,ax w0 S0⟩⟩:=⟨fun _ _=>rfl,fun _ h=>h,fun i _⟨b,hb⟩=>⟨_,Ma i b hb⟩,fun i _ _=>by simp only[h1]⟩
 refine⟨h.below,h.vH,h.fresh,⟨h.W.lt,h.W.size,fun i b hb=>?_,fun i j b c ew hi hj g hg dV=>?_⟩,fun t=>?_,h.size,h.defers,h.vI,fun i hi⟨b,hb⟩=>?_,h.vZ⟩;(·obtain⟨j,c,rfl,hc,rfl⟩:=hold i b hb;have hr:=h.W.bJ j c hc;exact pF hle (rH (fun _ h=>h) hr) (by simp only[h1]) (fun g hg=>⟨rfl,(fH hr hg).1,(fH hr hg).2.1⟩) hr)
 (·obtain⟨i',b',rfl,lf,_⟩:=hold i b hi;obtain⟨j',c',rfl,lg,_⟩:=hold j c hj;simp only[h1]at hg dV;exact h.W.ne i' j' b' c' (fun e=>ew (by rw[e])) lf lg g hg dV);(·(have e:(s.fO (cx l)).get t=(s.get t).fO (cx l):=by simp only[St.get,St.fO,eO];cases look t s.sl<;>simp[PV.fO]);rw[e];have hs:=h.ee t;exact j6 hle (nt (fun _ h=>h) hs) hs)
 ·obtain⟨j,c,rfl,hc,_⟩:=hold i b hb;(have hj:P0≤j:=by rcases Nat.lt_or_ge j P0 with h'|h';(·exfalso;have e:=h3 (cx l j) hi;have:=inj _ _ e;omega);·exact h');rw[h3 j hj];(have e:cx (fe l) j=j:=by have:=h1 j;rw[h3 j hj]at this;exact this);simp only[e];exact h.kept j hj ⟨c,hc⟩
theorem az.fO {E:Env} {G:Goal} {todo:List WI} {s:St} (l:List (Nat×Nat))(hp:tc l=true)(h:az E G todo (s.fO (cx l))):az E G todo s:=by
 intro w0 S0 a w hr;obtain⟨ν,S,hf⟩:=hr.full;exact h w0 S0 a w (hf.fO hp).rel
theorem H4 {i:Nat} {r:List Nat} {d:Nat} :back (i::r) d 1000000000=i:=rfl
theorem H5 {i j:Nat} {r:List Nat} {d:Nat} :back (i::j::r) d 1000000001=j:=rfl
theorem H6 {i j k:Nat} {r:List Nat} {d:Nat} :back (i::j::k::r) d 1000000002=k:=rfl
theorem xj {ids:List Nat} {d i:Nat} (h:(1000000000≤i)=False):back ids d i=i+100000*(d+1):=by
 unfold back;(have:Nat.ble P0 i=false:=by cases hb:Nat.ble P0 i with|false=>rfl|true=>exact(of_eq_false h (Nat.le_of_ble_eq_true hb)).elim);rw[this];rfl
theorem H7:IntKind.i8.min= -128:=rfl
theorem H8:IntKind.i8.max=127:=rfl
theorem E3:IntKind.i16.min= -32768:=rfl
theorem E4:IntKind.i16.max=32767:=rfl
theorem E5:IntKind.i32.min= -2147483648:=rfl
theorem E6:IntKind.i32.max=2147483647:=rfl
theorem E7:IntKind.i64.min= -9223372036854775808:=rfl
theorem max_i64:IntKind.i64.max=9223372036854775807:=rfl
theorem H9:IntKind.u8.min=0:=rfl
theorem Ia:IntKind.u8.max=255:=rfl
theorem E8:IntKind.u16.min=0:=rfl
theorem E9:IntKind.u16.max=65535:=rfl
theorem Fa:IntKind.u32.min=0:=rfl
theorem Fb:IntKind.u32.max=4294967295:=rfl
theorem yJ:IntKind.u64.min=0:=rfl
theorem yK:IntKind.u64.max=18446744073709551615:=rfl
theorem PC.Mb {E:Env} {f:Nat} {xs:List (Sigma Ty.den)} {T:Ty} {r:T.den} {p:PV} {bl':List (Nat×aJ)} (h:HC E f (uU xs) [] p bl')(F7:aB T=0)(he:exp ⟨[],true⟩ bl' T p=some r):PC E f xs T r:=by
 intro w S vs hS hT bW;(have tz: ∀(ν:Nat→Value)(g:Nat),¬fk ν [] g:=by rintro ν g⟨i,b,hb,_⟩;cases hb);refine(h w S (fun _=>undef) vs hS hT (fun g hg=>(tz _ g hg).elim) (fun i b hb=>by cases hb) ⟨hS,fun b hb=>.inl hb,fun i b hb=>(by cases hb),fun i j b c _ hi=>(by cases hi)⟩ (mB (w:=w) (M:=⟨S,fun g=>w.heap.size≤g⟩) rfl (fun _ h=>h) bW)).mono ?_
 rintro e w'⟨v,rfl,hk,ν,S',h1,h2,h3,hW,hp⟩;(have js: ∀g,ax w ⟨S,fk (fun _=>undef) [],fun _=>undef,[]⟩ g→w.heap.size≤g:=fun g hg=>by rcases hg with hg|hg;(·exact hg);·exact(tz _ g hg).elim)
 have hR:Reads ⟨[],true⟩ ⟨[],bl'⟩ ⟨ν,(⟨[],bl'⟩:St).D,w',⟨S',ax w ⟨S,fk (fun _=>undef) [],fun _=>undef,[]⟩⟩⟩ ⟨fun b=>S' b∨(w.heap.size≤b∧b<w'.heap.size),fun g=>w.heap.size≤g⟩:=⟨rfl,hW.bJ,fun b hb=>.inl hb,fun id _⟨b,hb⟩g hg=>by obtain⟨a1,_,a3⟩:=fH (hW.bJ id b hb) hg;exact .inr ⟨js g a1,a3⟩⟩
 refine⟨v,rfl,⟨⟨hk.os,hk.tape,hk.output,hk.size,fun k hH=>hk.block k hH (tz _ k)⟩,hk.drawn⟩,fun b=>S' b∨(w.heap.size≤b∧b<w'.heap.size),fun b hb=>.inl (h1 b hb),fun b hb=>?_,fun b hb=>?_,eQ (di hR (.inl F7) he hp)⟩
 (·rcases hb with hb|hb;(·rcases h2 b hb with h'|h';(·exact .inl h');·exact .inr (js b h'));·exact .inr hb.1);·rcases hb with hb|hb;(·exact hW.lt b hb);·exact hb.2
end Go.Proofs.Ytbbmofoiipjbgaa
namespace Go.Proofs.Ytbbmofoiipjbgaa
variable {cH:Prop} [fV cH]
def Fc:List Oper→List Nat|[]=>[]|o::r=>match o.dst with|some d=>d::Fc r|none=>Fc r
def jm:Code→List Nat|.region _ ops _=>Fc ops.toList|.seq a b=>jm a++jm b|.cond _ a b=>jm a++jm b|.block _ b=>jm b|.loop b=>jm b|.scope b=>jm b|.rangeFunc _ _ a b=>jm a++jm b|.skip=>[]|.exit _=>[]|.label _=>[]|.goto _=>[]|.ret=>[]|.refuse _=>[]
def qp:List Nat→List (Nat×PV)→List (Nat×PV)|_,[]=>[]|ks,p::r=>bif an p.1 ks then qp (p.1::ks) r else p::qp (p.1::ks) r
def qq:List Nat→List (Nat×aJ)→List (Nat×aJ)|_,[]=>[]|ks,p::r=>bif an p.1 ks then qq (p.1::ks) r else p::qq (p.1::ks) r
theorem az.CV {E:Env} {G:Goal} {c:Code} {k:List WI} {s:St} {X:Type} (sl:X→List (Nat×PV))(bl:X→List (Nat×aJ))(inv:X→Prop)(m:X→Nat)(x0:X)(h: ∀b1 b2,qp (jm c++(sl x0).map (·.1)) s.sl=b1→qq (keys (bl x0)) s.bl=b2→Le s ⟨sl x0++b1,bl x0++b2⟩∧inv x0∧ ∀x,inv x→(∀(t:St)(y:X),Le t ⟨sl y++b1,bl y++b2⟩→inv y→m y<m x→az E G (.loop c::k) t)→az E G (.code c:: .loop c::k) ⟨sl x++b1,bl x++b2⟩):az E G (.code (.loop c)::k) s:=by
 obtain⟨h1,h2,h3⟩:=h _ _ rfl rfl;exact az.eB (fun x=>⟨sl x++qp (jm c++(sl x0).map (·.1)) s.sl,bl x++qq (keys (bl x0)) s.bl⟩) inv m x0 h1 h2 h3
end Go.Proofs.Ytbbmofoiipjbgaa
namespace Go.Proofs.Ytbbmofoiipjbgaa
variable {cH:Prop} [fV cH]
attribute[go_sem]ED HJ HK EF EG EH HG EE CG HH HI CH z4 z5 CI HL EI EJ EK LP LQ LR LS CK CL CM O5 O6 HM EL z8 z9 EM HO EN EO EP CN s9 HP Aa ER HR HS ES EZ CS E0 E1 HV cu oH uU p0 iF List.toList_toArray cY bz made wR bR before cO mr bd bq ka aj St.ev St.get St.set St.put look an lk Pb Pc Pd jC eK oR sg jF fY jG jH fZ A1 dep fX dK arith xT jk HQ o7 o6 vY FO KO beq_self_eq_true St.b7 bP jg H4 H5 H6 xj oi kb B1 Lu nW uL sK AR oF pU pE DK yV dM exp pk fB lL jD eo jo oP rf oQ Ty.eq Ty.cast bB ck qO qN g6 iB xS iH gb vS A7 vT ie tL dm Ty.xR oY cut gJ bQ eb iC bound g7 gK oS jJ qP ri oV iE rj ga lP du m9 oX jM m8 DL lN fA Sa vQ A3 St.dy jK A6 GB oW lb iG jL reach A0 bY fwd idxOf PV.ids PV.fh PV.Dw PV.fF PV.fO PV.eD kU fj cR aY fC jh Gz bD fi join part widens cellsOf Ty.val PV.cells fW zeroCells cy Ty.cells Ty.flat Ty.ok aB PV.fg PV.bN PV.refs PV.cZ PV.kill PV.cf PV.aH PV.ep ic aJ.map lM b9 St.kill St.aH keys AU sR Bd P0 List.map List.take List.drop List.headD List.append List.length List.cons_append List.nil_append Option.bind cond_true cond_false Bool.not_true Bool.not_false Bool.and_true Bool.true_and Bool.and_false Bool.false_and Bool.false_or Bool.or_false Bool.true_or Bool.or_true true_implies Option.some.injEq decide_true decide_false decide_eq_true_eq decide_eq_false_iff_not Nat.add_zero Nat.zero_add Int.toNat_natCast Nat.lt_irrefl and_true true_and or_false or_true true_or false_or Decidable.not_not H7 H8 E3 E4 E5 E6 E7 max_i64 H9 Ia E8 E9 Fa Fb yJ yK Int.cast_ofNat_Int Int.toNat_zero Int.toNat_one Int.le_refl and_self iD A5 yX kq A4 A2 Cr jI iA oU Dx yj uK yk looks sJ pS Kz pT jm Fc qp qq Lt B0 wS wT F9 ov sh LW HW HX LX HY HZ LY LZ L0 L1 L2 H0 L3 L4 H2 H3 L5 L6 L7 L8 L9 CT CJ O3 O4 cV gx mw q2 Ga uM nR iT B3 B2 yW rh z7 xU O8 O9 LU LV HT ET HU EW EV EX CP EY CQ CR eX dH Eo E2 z6 O2 LO pW nu sL sM fD
end Go.Proofs.Ytbbmofoiipjbgaa
namespace Go.Proofs.Ytbbmofoiipjbgaa
variable {cH:Prop} [fV cH]
open Go Go.ChangeShapes Go.WideShapes Go.RowKit
set_option maxHeartbeats 1000000
def cW:Ty→Bool|.int _=>true|.bool=>true|.str=>true|.sl t=>cW t|.pair a b=>cW a&&cW b|.st t=>cW t|.unit=>false|.own _=>false|.bC _ _=>false|.ptr _=>false|.ea _ _=>false|.mp _ _=>false|.bG=>false
theorem bL.cellsOf {E:Env} {t:Nat} {T:Ty} (h:bL E t T):E.P.cellsOf t=T.cells:=by obtain⟨i,hi,cr,_⟩:=h.info;simp[Program.cellsOf,hi,cr]
theorem add_zero(a:Addr):a.add 0=a:=by simp[Addr.add]
theorem vq(g o k:Nat):(⟨g,o,none⟩:Addr).add k=⟨g,o+k,none⟩:=by unfold Addr.add;split;(·rename_i h;(have:k=0:=by simpa using h);subst this;rfl);·rfl
theorem nK {ty:Nat→Option Ty} {t:Nat} {T:Ty} (h:jQ ty t T=true):ty t=some T:=by unfold jQ at h;split at h;(·rename_i U hU;rw[hU,Ty.bZ h]);·cases h
theorem vr {α:Type} {p:Nat→α→Prop} : ∀n:Nat,(∀i,i<n→ ∃a,p i a)→ ∃l:List α,l.length=n∧ ∀i y,l[i]?=some y→p i y:=by
 intro n;induction n with|zero=>intro _;exact⟨[],rfl,fun i y h=>by simp at h⟩|succ n ih=>intro h;obtain⟨l,hl,hp⟩:=ih fun i hi=>h i (by omega);obtain⟨a,ha⟩:=h n (by omega);refine⟨l++ [a],by simp[hl],fun i y hy=>?_⟩;by_cases hi:i<n;(·rw[List.getElem?_append_left (by omega)]at hy;exact hp i y hy);·rw[List.getElem?_append_right (by omega),hl]at hy;by_cases e:i=n;(·subst e;simp at hy;subst hy;exact ha);·rw[List.getElem?_eq_none (by simp;omega)]at hy;cases hy
section
variable {H:Type} {enc:TypeId×Value→H} {E:Env} {w:World} {M:Mem}
theorem Ac {V:Ty} {cs:List Value} : ∀(n i:Nat),(∀k,k<n+1→ ∃y,av V y w M ((cs.drop ((i+k)*V.cells)).take V.cells))→ ∃y:(rowOf V (n+1)).den,av (rowOf V (n+1)) y w M ((cs.drop (i*V.cells)).take ((n+1)*V.cells)):=by
 intro n;induction n with|zero=>intro i h;obtain⟨y,hy⟩:=h 0 (by omega);exact⟨y,by simpa[rowOf]using hy⟩|succ n ih=>intro i h;obtain⟨y,hy⟩:=h 0 (by omega);(obtain⟨z,hz⟩:=ih (i+1) fun k hk=>by have:=h (k+1) (by omega);rwa[show i+(k+1)=i+1+k by omega]at this);refine⟨(y,z),_,_,?_,hy,hz⟩;rw[show(n+1+1)*V.cells=V.cells+(n+1)*V.cells by rw[Nat.add_mul (n+1) 1,Nat.one_mul,Nat.add_comm],List.take_add,List.drop_drop];rw[show(i+1)*V.cells=i*V.cells+V.cells by rw[Nat.add_mul,Nat.one_mul]];rfl
theorem vt {V:Ty} : ∀n:Nat,cW (rowOf V (n+1))=true→cW V=true:=by
 intro n;cases n with|zero=>intro h;exact h|succ n=>intro h;have h:(cW V&&cW (rowOf V (n+1)))=true:=h;rw[Bool.and_eq_true]at h;exact h.1
theorem xk {cs:List Value} {rd:Nat→List Value→Prop} (u7: ∀t T c,E.ty t=some T→cW T=true→rd t c→ ∃y,av T y w M c)(hE:aA E): ∀(fs:List Field)(R:Ty)(off:Nat),bn E.ty fs R off=true→cW R=true→(∀f,f∈fs→rd f.type ((cs.drop f.offset).take (E.P.cellsOf f.type)))→ ∃y:R.den,av R y w M ((cs.drop off).take R.cells):=by
 intro fs;induction fs with|nil=>intro R off h;cases h|cons f fs ih=>intro R off h hp hf;cases fs with|nil=>simp only[bn,Bool.and_eq_true]at h;have ht:=nK h.1.1.1.2;have hc:=(hE.facts ht).cellsOf;have ho:=Nat.eq_of_beq_eq_true h.1.1.1.1;have:=hf f (List.mem_cons_self ..);rw[hc,ho]at this;exact u7 _ _ _ ht hp this|cons g fs=>cases R with|pair a b=>simp only[bn,Bool.and_eq_true]at h;have ht:=nK h.1.1.1.1.2;have hc:=(hE.facts ht).cellsOf;have ho:=Nat.eq_of_beq_eq_true h.1.1.1.1.1;simp only[cW,Bool.and_eq_true]at hp;have h0:=hf f (List.mem_cons_self ..);rw[hc,ho]at h0;obtain⟨y,hy⟩:=u7 _ _ _ ht hp.1 h0;obtain⟨z,hz⟩:=ih b (off+a.cells) h.2 hp.2 fun f' FY=>hf f' (List.mem_cons_of_mem _ FY);refine⟨(y,z),_,_,?_,hy,hz⟩;show(cs.drop off).take (a.cells+b.cells)=_;rw[List.take_add,List.drop_drop]|_=>simp[bn]at h
theorem CW(hE:aA E)(hM: ∀g,g<w.heap.size→M.S g): ∀(n t:Nat)(T:Ty)(cs:List Value)(x:DataW H×List MemPlace),E.ty t=some T→cW T=true→DataW.trod enc E.P w 0 (fun _=>true) true n t cs=some x→ ∃y:T.den,av T y w M cs:=by
 intro n;induction n with|zero=>intro t T cs x _ _ h;simp[DataW.trod]at h|succ n ih=>intro t T cs x ht hp h;have hF:=hE.facts ht;obtain⟨d,hd,hs⟩:=hF.kV;cases T with|int l=>cases d<;>simp only[b6,Bool.false_eq_true]at hs;have:=cG hs;subst this;obtain⟨m,rfl,_,hw⟩:=DataW.trod_int hd h;simp only[Lit.wf,Bool.and_eq_true,decide_eq_true_eq]at hw;exact⟨m,rfl,hw.1,hw.2⟩|bool=>cases d<;>simp only[b6,Bool.false_eq_true]at hs;obtain⟨b,rfl,_⟩:=DataW.trod_bool hd h;exact⟨b,rfl⟩|str=>cases d<;>simp only[b6,Bool.false_eq_true]at hs;obtain⟨s,rfl,_,hw⟩:=DataW.trod_string hd h;refine⟨s.data.toList,?_,?_⟩;(·rfl);(·(have:s.data.toList.length≤maxLen:=by simpa using hw);simpa[maxLen]using this)|sl U=>cases d<;>simp only[b6,Bool.false_eq_true]at hs;rename_i e;simp only[Bool.and_eq_true]at hs;have Kp:=nK hs.1.1;have zy:=(hE.facts Kp).cellsOf;have ni:1≤U.cells:=Nat.le_of_ble_eq_true hs.2;rcases DataW.trod_slice hd h with⟨rfl,_⟩|⟨a,len,cap,elems,rest,m,hm,rfl,_,_,hl,ld,hlen,GX,_⟩;(·exact⟨[],none,0,rfl,Nat.le_refl _,by decide,Or.inl rfl⟩);(·injection hm with hm;subst hm;obtain⟨ys,jA,bW⟩:=vr (p:=fun i y=> ∃tZ,tZ.length=U.cells∧w.cells? 0 (a.add (i*U.cells)) U.cells=some tZ∧av U y w M tZ) len (fun i hi=>by have sq:=GX i hi;rw[List.getElem?_eq_getElem (by omega)]at sq;obtain⟨tZ,h1,h2⟩:=Option.bind_eq_some_iff.1 sq;rw[zy]at h1;obtain⟨y,hy⟩:=ih e U tZ _ Kp hp h2;exact⟨y,tZ,(World.cells?_some h1).2.1,h1,hy⟩);(have Gl:cap≤9223372036854775807:=by simpa[maxLen]using ld);cases ys with|nil=>exact⟨[],some a,cap,by simp at jA;simp[jA],by simp,Gl,Or.inl rfl⟩|cons y0 ys=>obtain⟨c0,lH,Vf,_⟩:=bW 0 y0 rfl;have dv:=(World.cells?_some Vf).2.2 0 (by omega);rw[Nat.zero_mul,add_zero,add_zero]at dv;obtain⟨v0,Pe⟩: ∃v,c0[0]?=some v:=⟨_,List.getElem?_eq_getElem (by omega)⟩;rw[Pe]at dv;obtain⟨g,o,sp⟩:=a;(have qV:g<w.heap.size∧sp=none:=by simp only[World.cell?]at dv;split at dv;(·rename_i c _ _ hh;refine⟨(Array.getElem?_eq_some_iff.1 hh).1,?_⟩;cases sp with|none=>rfl|some _=>simp at dv);·cases dv);obtain⟨hg,rfl⟩:=qV;refine⟨y0::ys,some ⟨g,o,none⟩,cap,by rw[jA],by rw[jA];exact hl,Gl,Or.inr ⟨g,o,rfl,hM g hg,fun i y hy=>?_⟩⟩;obtain⟨tZ,h1,h2,h3⟩:=bW i y hy;refine⟨tZ,h1,fun j v hj=>?_,h3⟩;(have Bf:j<U.cells:=by rw[←h1];exact(List.getElem?_eq_some_iff.1 hj).1);have:=(World.cells?_some h2).2.2 j Bf;rw[hj]at this;rw[vq,vq,Nat.add_assoc]at this;rw[←Nat.add_assoc]at this;exact this)|st R=>cases d<;>simp only[b6,Bool.false_eq_true]at hs;(case struct fs=>obtain⟨xs,m,hm,_,hlen,wv,hf⟩:=DataW.trod_struct hd h;injection hm with hm;subst hm;obtain⟨y,hy⟩:=xk (cs:=cs) (M:=M) (w:=w) (rd:=fun t c=> ∃x,DataW.trod enc E.P w 0 (fun _=>true) true n t c=some x) (fun t T c h1 h2⟨x,h3⟩=>ih t T c x h1 h2 h3) hE fs.toList R 0 hs hp (fun f FY=>by obtain⟨i,hi⟩:=List.getElem?_of_mem FY;have h1:=hf i f (by simpa using hi);(have BI:i<fs.size:=by simpa using(List.getElem?_eq_some_iff.1 hi).1);rw[List.getElem?_eq_getElem (by omega)]at h1;exact⟨_,h1⟩);refine⟨y,?_⟩;(have eG:cs.length=R.cells:=by rw[hlen,hF.cellsOf];rfl);rw[List.drop_zero,←eG,List.take_length]at hy;exact hy);(case array k e=>split at hs;(·rename_i V hV;simp only[Bool.and_eq_true]at hs;have hR:=Ty.bZ hs.1.1.1;have hk:2≤k:=Nat.le_of_ble_eq_true hs.2;obtain⟨k,rfl⟩: ∃j,k=j+1:=⟨k-1,by omega⟩;subst hR;obtain⟨xs,m,hm,_,hlen,wv,hf⟩:=DataW.trod_array hd h;injection hm with hm;subst hm;have zy:=(hE.facts hV).cellsOf;obtain⟨y,hy⟩:=Ac (V:=V) (cs:=cs) (w:=w) (M:=M) k 0 (fun i hi=>by have h1:=hf i hi;rw[List.getElem?_eq_getElem (by omega),zy]at h1;rw[Nat.zero_add];exact ih e V _ _ hV (vt k hp) h1);refine⟨y,?_⟩;(have eG:cs.length=(k+1)*V.cells:=by rw[hlen,hF.cellsOf];exact jX V (k+1));rw[Nat.zero_mul,List.drop_zero,←eG,List.take_length]at hy;exact hy);·cases hs)|pair a b=>simp[b6]at hs|_=>simp[cW]at hp
theorem xl: ∀T:Ty,cW T=true→aB T=0:=by
 intro T;induction T with|pair a b et dR=>intro h;simp only[cW,Bool.and_eq_true]at h;simp[aB,et h.1,dR h.2]|st t ih=>intro h;exact ih h|sl t ih=>intro h;exact ih h|int k=>intro _;rfl|bool=>intro _;rfl|str=>intro _;rfl|_=>intro h;simp[cW]at h
theorem Fe {b0:Nat} {t:Nat} {T:Ty} {v:Value} {y:T.den} (hE:aA E)(ht:E.ty t=some T)(hp:cW T=true)(hv:Value.okWide E.P w .any b0 t v)(h:av T y w M v.cells.toList):b8 T y w M v:=by
 obtain⟨d,hd,hs⟩:=(hE.facts ht).kV;(have one:(∀cs,v≠ .agg cs)→v.cells.toList=[v]:=by intro hn;cases v<;>first|rfl|exact absurd rfl (hn _));cases T with|int l=>cases d<;>simp only[b6,Bool.false_eq_true]at hs;obtain⟨n,rfl⟩:=okWide_int hd hv;exact h|bool=>cases d<;>simp only[b6,Bool.false_eq_true]at hs;obtain⟨n,rfl⟩:=okWide_bool hd hv;exact h|str=>cases d<;>simp only[b6,Bool.false_eq_true]at hs;(have:v.cells.toList=[v]:=one fun cs e=>by subst e;simp[Value.okWide,hd,Cell.okWide,Cell.ok]at hv);rw[this]at h;exact h|sl U=>cases d<;>simp only[b6,Bool.false_eq_true]at hs;obtain⟨a,len,cap,rfl⟩:=okWide_slice hd hv;exact h|st R=>(have: ∃cs,v= .agg cs:=by cases d<;>simp only[b6,Bool.false_eq_true]at hs;(·simp only[Value.okWide,hd]at hv;obtain⟨cs,e,_⟩:=hv;exact⟨cs,e⟩);·simp only[Value.okWide,hd]at hv;obtain⟨cs,e,_⟩:=hv;exact⟨cs,e⟩);obtain⟨cs,rfl⟩:=this;exact⟨cs.toList,by simp,h⟩|pair a b=>simp[b6]at hs|_=>simp[cW]at hp
theorem CX {b0:Nat} (hE:aA E)(hM: ∀g,g<w.heap.size→M.S g): ∀(ts:List Nat)(Ts:List Ty)(vs:List Value)(ds:List (DataW H))(ps:List MemPlace),ts.map E.ty=Ts.map some→Ts.all cW=true→DataW.TrodAll enc E.P w 0 (fun _=>true) true ts vs ds ps→(∀(j:Nat)t v,ts[j]?=some t→vs[j]?=some v→Value.okWide E.P w .any b0 t v)→ ∃xs:List (Sigma Ty.den),xs.map (·.1)=Ts∧ji w M xs vs∧ds.length=ts.length:=by
 intro ts;induction ts with|nil=>intro Ts vs ds ps h1 _ h3 _;obtain⟨rfl,rfl,rfl⟩:=trodAll_nil h3;(cases Ts with|nil=>exact⟨[],rfl,rfl,rfl⟩|cons T Ts=>simp at h1)|cons t ts ih=>intro Ts vs ds ps h1 h2 h3 h4;obtain⟨v,vs,d,ds,p,q,rfl,rfl,rfl,hd,hr⟩:=trodAll_cons h3;cases Ts with|nil=>simp at h1|cons T Ts=>simp only[List.map_cons,List.cons.injEq]at h1;simp only[List.all_cons,Bool.and_eq_true]at h2;obtain⟨xs,e1,e2,e3⟩:=ih Ts vs ds q h1.2 h2.2 hr fun j t' v' a b=>h4 (j+1) t' v' a b;obtain⟨n,hn⟩:=hd;obtain⟨y,hy⟩:=CW hE hM n t T _ _ h1.1 h2.1 hn;exact⟨⟨T,y⟩::xs,by rw[List.map_cons,e1],⟨v,vs,rfl,xl T h2.1,Fe hE h1.1 h2.1 (h4 0 t v rfl rfl) hy,e2⟩,by simp[e3]⟩
theorem q6 {P:Program} (hl:laidOutB P=true) {w w':World} (hb:Below w.heap.size w w'): ∀(ts:List Nat)(vs:List Value)(ds:List (DataW H))(ps:List MemPlace),(∀t,t∈ts→P.readableRec t=true∧t<P.types.size)→DataW.TrodAll enc P w 0 (fun _=>true) true ts vs ds ps→(∀x∈ps,x.block<w.heap.size)→DataW.TrodAll enc P w' 0 (fun b=>decide (b<w.heap.size)) true ts vs ds ps:=by
 intro ts;induction ts with|nil=>intro vs ds ps _ h _;obtain⟨rfl,rfl,rfl⟩:=trodAll_nil h;rfl|cons t ts ih=>intro vs ds ps hr h cX;obtain⟨v,vs,d,ds,p,q,rfl,rfl,rfl,hd,hq⟩:=trodAll_cons h;have ht:=hr t (List.mem_cons_self ..);exact⟨p,q,Below.trod hl ht.1 ht.2 hd hb (fun x hx=>cX x (List.mem_append.mpr (Or.inl hx))),ih vs ds q (fun t' h'=>hr t' (List.mem_cons_of_mem _ h')) hq (fun x hx=>cX x (List.mem_append.mpr (Or.inr hx))),rfl⟩
theorem Ad(hE:aA E) {f:Nat} {fn:Func} {s:ChangeSpec} {apart fresh handsOn:Bool} {Ts:List Ty} {tb b0:Nat} (hl:laidOutB E.P=true)(Mc: ∀t,t∈fn.params.toList→E.P.readableRec t=true∧t<E.P.types.size)(Vg:fn.params.toList.map E.ty=Ts.map some)(Bi:Ts.all cW=true)(BG:fn.resultTypes= #[tb])(Vh:E.P.underlying tb=some .bool)(Gm:s.vars=[])(dx: ∀(ds:List (DataW H)),ds.length=fn.params.toList.length→s.fn H ds= { results:=[.lit (.bool true)],args:=ds })(BV: ∀xs:List (Sigma Ty.den),xs.map (·.1)=Ts→PC E f xs .bool true) {W:World} (hT:oc W fun g=>g<W.heap.size) {args:Array Value} {ds gs:List (DataW H)} {before:List MemPlace} (kR: ∀(j:Nat)t v,fn.params[j]?=some t→args[j]?=some v→Value.okWide E.P W .any b0 t v)(hW:DataW.Whole enc E.P fn.params.toList s.vars apart W args.toList ds gs before):Calls E.P f args W fun e W'=> ∃v,e= .returned v∧s.post enc E.P fn apart fresh handsOn false W args v W':=by
 have uI:=hW;obtain⟨p,q,hA,hV,rfl,VW,ix⟩:=hW;rw[Gm]at hV;obtain⟨rfl,rfl⟩:=trodVars_none hV;obtain⟨xs,e1,e2,e3⟩:=CX (M:=⟨fun g=>g<W.heap.size,fun g=>W.heap.size≤g⟩) (b0:=b0) hE (fun g h=>h) _ Ts _ _ _ Vg Bi hA (fun j t v h1 h2=>kR j t v (by simpa using h1) (by simpa using h2))
 have hc:=BV xs e1 W (fun g=>g<W.heap.size) args.toList (fun b h=>h) hT e2;rw[Array.toArray_toList]at hc;refine hc.mono fun e W'⟨v,he,hp⟩=>?_;obtain⟨⟨hb,_⟩,S',_,_,_,hr⟩:=hp
 (have hv:v= .bool true:=by simp only[iy,b8,av,List.cons.injEq,and_true]at hr;exact hr);subst hv;refine⟨_,he,ds,[],p++ [],[],p,[],uI,?_,?_,?_,hb.frame _,fun h=>by cases h⟩
 (·rw[List.append_nil,dx ds e3,BG];exact trodAll_mk1 ⟨1,by simp[DataW.trod,Vh,Value.cells]⟩);(·rw[List.append_nil,dx ds e3];exact q6 hl hb _ _ _ _ Mc hA fun x hx=>by simpa using uI.lt x (by simpa using hx))
 ·rw[Gm,List.append_nil,dx ds e3];rfl
end
end Go.Proofs.Ytbbmofoiipjbgaa
