/-
  From the reading of arguments to the data that they represent; a law's row from its contract. Nothing here is trusted; no condition.
-/
import Derived.Test.YtefpgfdemmllpaaA8
import Derived.ProofKit
import Derived.OpenShut
import Derived.Deep.Slices
set_option linter.unusedSimpArgs false
set_option linter.unusedVariables false
namespace Go.Proofs.Ytefpgfdemmllpaa
abbrev PwT:=Nat→List WI→St→Prop
abbrev PoT:=Nat→List Oper→List Nat→List (List Nat)→List Oper→List WI→St→Prop
abbrev PqT:=Nat→Out→Option Nat→List Oper→List Nat→List (List Nat)→List Oper→List WI→St→Prop
structure Pack(E:Env)(G:Goal)where
 W:PwT
 O:PoT
 Q:PqT
 hW:W=pw E G
 hO:O=po E G
 hQ:Q=pq E G
theorem nV(E:Env)(G:Goal):Nonempty (Pack E G):=⟨⟨_,_,_,rfl,rfl,rfl⟩⟩
noncomputable def PW(E:Env)(G:Goal):PwT:=(Classical.choice (nV E G)).W
noncomputable def PO(E:Env)(G:Goal):PoT:=(Classical.choice (nV E G)).O
noncomputable def PQ(E:Env)(G:Goal):PqT:=(Classical.choice (nV E G)).Q
theorem gK(E:Env)(G:Goal):PW E G=pw E G:=(Classical.choice (nV E G)).hW
theorem gL(E:Env)(G:Goal):PO E G=po E G:=(Classical.choice (nV E G)).hO
theorem fR(E:Env)(G:Goal):PQ E G=pq E G:=(Classical.choice (nV E G)).hQ
def PB(E:Env)(G:Goal)(n:Nat)(v:PV)(a b:Code)(k:List WI)(s:St):Prop:=match v with|.iv .bool c=>(c=true→PW E G n (.code a::k) s)∧(c=false→PW E G n (.code b::k) s)|_=>fO 1001
def PK(E:Env)(G:Goal)(n:Nat)(v:PV)(d:Nat)(want:Bool)(o:Oper)(all:List Oper)(N:List Nat)(acc:List (List Nat))(os:List Oper)(k:List WI)(s:St):Prop:=match v with|.iv .bool b=>(b=want→PQ E G n (ai E (ej all N acc o) (s.set d (.iv .bool want)) o) o.dst all N (cz N acc o) os k (s.set d (.iv .bool want)))∧(b= !want→PO E G n all N (cz N acc o) os k ((s.set d (.iv .bool (!want))).put o.dst (.bk [])))|.bk []=>PO E G n all N (cz N acc o) os k (s.put o.dst (.bk []))|_=>fO 1004
def PH(E:Env)(G:Goal)(n:Nat)(g:Option Nat)(want:Bool)(o:Oper)(all:List Oper)(N:List Nat)(acc:List (List Nat))(os:List Oper)(k:List WI)(s:St):Prop:=match g with|some d=>PK E G n (s.get d) d want o all N acc os k s|none=>fO 1005
def PX(E:Env)(G:Goal)(n:Nat)(k:Option (List WI))(s:St):Prop:=match k with|some k=>PW E G n k s|none=>fO 1002
section
variable {E:Env} {G:Goal} {n:Nat} {d:Option Nat} {all:List Oper} {N:List Nat} {acc:List (List Nat)} {os:List Oper} {k:List WI} {s:St}
theorem Pc {p:Prop} {o:Out} :PQ E G (n+1) (.b9 p o) d all N acc os k s=(p∧PQ E G n o d all N acc os k s):=by simp only[fR,pq]
theorem V0 {T:Ty} {p:T.den→Prop} {f:T.den→Out} :PQ E G (n+1) (.rY T p f) d all N acc os k s= ∃x:T.den,p x∧PQ E G n (f x) d all N acc os k s:=by simp only[fR,pq]
theorem Pd {f:Nat} {xs:List (Sigma Ty.den)} {T:Ty} {g:T.den→Out} :PQ E G (n+1) (.call f xs T g) d all N acc os k s= ∃r:T.den,PC E f xs T r∧(T.ok r→PQ E G n (g r) d all N acc os k s):=by
 simp only[fR,pq]
theorem LB {f:Nat} {xs:List (Sigma Ty.den)} {T:Ty} {g:T.den→Out} :PQ E G (n+1) (.jZ f xs T g) d all N acc os k s= ∃Y:T.den→Prop,PN E f xs T Y∧ ∀r,Y r→T.ok r→PQ E G n (g r) d all N acc os k s:=by
 simp only[fR,pq]
theorem V1 {v:PV} :PQ E G (n+1) (.val v) d all N acc os k s=PO E G n all N acc os k (s.put d v):=by simp only[fR,gL,pq]
theorem V3 {v:PV} {b:aO} {d:Nat} :PQ E G (n+1) (.new v b) (some d) all N acc os k s=PO E G n all N acc os k ⟨(d,v)::s.sl,(d,b)::s.bl⟩:=by simp only[fR,gL,pq]
theorem LC {i:Nat} {b:aO} :PQ E G (n+1) (.store i b) d all N acc os k s=PO E G n all N acc os k ⟨s.sl,(i,b)::s.bl⟩:=by simp only[fR,gL,pq]
theorem ID {i j:Nat} {b:aO} {d:Nat} :PQ E G (n+1) (.append i j b) (some d) all N acc os k s=PO E G n all N acc os k ⟨(d,.aE j)::(s.kill [i]).sl,(j,b)::dB [i] (s.kill [i]).bl⟩:=by
 simp only[fR,gL,pq]
theorem IE {ks:List Nat} {v:PV} :PQ E G (n+1) (.dC ks v) d all N acc os k s=PO E G n all N acc os k ((s.aP ks).put d v):=by simp only[fR,gL,pq]
theorem V4 {i:Nat} {b:aO} {v:PV} {d:Nat} :PQ E G (n+1) (.pO i b v) (some d) all N acc os k s=PO E G n all N acc os k ⟨(d,v)::s.sl,(i,b)::s.bl⟩:=by simp only[fR,gL,pq]
theorem V5 {p:Prop} {o:Out} :PQ E G (n+1) (.imp p o) d all N acc os k s=(p→PQ E G n o d all N acc os k s):=by simp only[fR,pq]
theorem Pe {a b:Out} :PQ E G (n+1) (.both a b) d all N acc os k s=(PQ E G n a d all N acc os k s∧PQ E G n b d all N acc os k s):=by simp only[fR,pq]
theorem Pf {T:Ty} {p:T.den→Prop} {f:T.den→Out} :PQ E G (n+1) (.mF T p f) d all N acc os k s= ∀x:T.den,p x→PQ E G n (f x) d all N acc os k s:=by simp only[fR,pq]
theorem Pg {p:Nat→Prop} {f:Nat→Out} :PQ E G (n+1) (.pV p f) d all N acc os k s= ∀x:Nat,p x→PQ E G n (f x) d all N acc os k s:=by simp only[fR,pq]
def HQ(E:Env)(G:Goal)(n:Nat)(f:Nat)(args:List PV)(bl:List (Nat×aO))(ids:List Nat)(fl:Bool)(used:List Nat)(d' d:Option Nat)(all:List Oper)(N:List Nat)(acc:List (List Nat))(os:List Oper)(k:List WI)(s:St):Prop:= ∃p bl',HC E f args bl p bl'∧u5 bl bl' fl used d' p=true∧(N6 p→p9 bl'→PO E G n all N acc os k (s.cL d ids p bl'))
def HNQ(E:Env)(G:Goal)(n:Nat)(f:Nat)(args:List PV)(bl:List (Nat×aO))(ids:List Nat)(fl:Bool)(used:List Nat)(d' d:Option Nat)(all:List Oper)(N:List Nat)(acc:List (List Nat))(os:List Oper)(k:List WI)(s:St):Prop:= ∃(T:Ty)(Y:T.den→Prop)(p:T.den→PV)(bl':T.den→List (Nat×aO)),HN E f args bl T Y p bl'∧ ∀r,Y r→u5 bl (bl' r) fl used d' (p r)=true∧(N6 (p r)→p9 (bl' r)→PO E G n all N acc os k (s.cL d ids (p r) (bl' r)))
theorem IF {f:Nat} {args:List PV} {bl:List (Nat×aO)} {ids:List Nat} {fl:Bool} {used:List Nat} {d':Option Nat} :PQ E G (n+1) (.gi f args bl ids fl used d') d all N acc os k s=HNQ E G n f args bl ids fl used d' d all N acc os k s:=by
 simp only[fR,gL,pq,HNQ]
theorem ae7 {f:Nat} {args:List PV} {bl:List (Nat×aO)} {T:Ty} {Y:T.den→Prop} {p:T.den→PV} {bl':T.den→List (Nat×aO)} :HN E.go f args bl T Y p bl'=HN E f args bl T Y p bl':=rfl
theorem LD {f:Nat} {args:List PV} {bl:List (Nat×aO)} {ids:List Nat} {fl:Bool} {used:List Nat} {d':Option Nat} :PQ E G (n+1) (.j0 f args bl ids fl used d') d all N acc os k s=HQ E G n f args bl ids fl used d' d all N acc os k s:=by
 simp only[fR,gL,pq,HQ]
theorem V6:PO E G (n+1) all N acc [] k s=PW E G n k s:=by simp only[gL,gK,po]
def PJ(E:Env)(G:Goal)(n:Nat)(cp:Bool)(o:Oper)(all:List Oper)(N:List Nat)(acc:List (List Nat))(os:List Oper)(k:List WI)(s:St):Prop:=match cp with|false=>PQ E G n (ai E (ej all N acc o) s o) o.dst all N (cz N acc o) os k s|true=>PQ E G n (ai E (ej all N acc o) s o) o.dst all N (cz N acc o) os k s∨jQ E G s o
theorem Ph {f n':Nat} {rv:List ResultVar} {p:PV} {bl:List (Nat×aO)} {mo:Option ((T:Ty)×(T.den→Prop)×(T.den→PV)×(T.den→List (Nat×aO)))} {dst:Option Tmp} {op:Op} {ty:TypeId} {pos:String} {af:Array Edge} :PO E ⟨f,n',rv,p,bl,mo,false⟩ (n+1) all N acc (⟨dst,op,ty,pos,af,none⟩::os) k s=PQ E ⟨f,n',rv,p,bl,mo,false⟩ n (ai E (ej all N acc ⟨dst,op,ty,pos,af,none⟩) s ⟨dst,op,ty,pos,af,none⟩) dst all N (cz N acc ⟨dst,op,ty,pos,af,none⟩) os k s:=by
 simp only[gL,fR,po,eM]
theorem LF {f n':Nat} {rv:List ResultVar} {p:PV} {bl:List (Nat×aO)} {mo:Option ((T:Ty)×(T.den→Prop)×(T.den→PV)×(T.den→List (Nat×aO)))} {dst:Option Tmp} {op:Op} {ty:TypeId} {pos:String} {af:Array Edge} :PO E ⟨f,n',rv,p,bl,mo,true⟩ (n+1) all N acc (⟨dst,op,ty,pos,af,none⟩::os) k s=PJ E ⟨f,n',rv,p,bl,mo,true⟩ n (eM E ⟨f,n',rv,p,bl,mo,true⟩ N s ⟨dst,op,ty,pos,af,none⟩) ⟨dst,op,ty,pos,af,none⟩ all N acc os k s:=by
 simp only[gL,po];unfold PJ;rw[fR];rfl
theorem au6 {o:Oper} :PJ E G n false o all N acc os k s=PQ E G n (ai E (ej all N acc o) s o) o.dst all N (cz N acc o) os k s:=rfl
theorem au7 {o:Oper} :PJ E G n true o all N acc os k s=(PQ E G n (ai E (ej all N acc o) s o) o.dst all N (cz N acc o) os k s∨jQ E G s o):=rfl
theorem IG {ks:List Nat} {i:Nat} {b:aO} :PQ E G (n+1) (.eU ks i b) d all N acc os k s=PO E G n all N acc os k ⟨(s.aP ks).sl,(i,b)::(s.aP ks).bl⟩:=by simp only[fR,gL,pq]
theorem Pj {dst:Option Tmp} {op:Op} {ty:TypeId} {pos:String} {af:Array Edge} {j:Nat} {want:Bool} :PO E G (n+1) all N acc (⟨dst,op,ty,pos,af,some (j,want)⟩::os) k s=PH E G n (bG all j) want ⟨dst,op,ty,pos,af,some (j,want)⟩ all N acc os k s:=by
 simp only[gL,po];unfold PH;cases bG all j with|none=>rfl|some d=>simp only[PK,gL,fR];rfl
theorem Pk {d:Nat} {want:Bool} {o:Oper} :PH E G n (some d) want o all N acc os k s=PK E G n (s.get d) d want o all N acc os k s:=rfl
theorem ae8 {d:Nat} {o:Oper} :PK E G n (.iv .bool true) d true o all N acc os k s=PQ E G n (ai E (ej all N acc o) (s.set d (.iv .bool true)) o) o.dst all N (cz N acc o) os k (s.set d (.iv .bool true)):=by
 simp[PK]
theorem ae9 {d:Nat} {o:Oper} :PK E G n (.iv .bool false) d false o all N acc os k s=PQ E G n (ai E (ej all N acc o) (s.set d (.iv .bool false)) o) o.dst all N (cz N acc o) os k (s.set d (.iv .bool false)):=by
 simp[PK]
theorem af0 {d:Nat} {o:Oper} :PK E G n (.iv .bool true) d false o all N acc os k s=PO E G n all N (cz N acc o) os k ((s.set d (.iv .bool true)).put o.dst (.bk [])):=by simp[PK]
theorem af1 {d:Nat} {o:Oper} :PK E G n (.iv .bool false) d true o all N acc os k s=PO E G n all N (cz N acc o) os k ((s.set d (.iv .bool false)).put o.dst (.bk [])):=by simp[PK]
theorem LG {d:Nat} {want:Bool} {o:Oper} :PK E G n (.bk []) d want o all N acc os k s=PO E G n all N (cz N acc o) os k (s.put o.dst (.bk [])):=rfl
theorem LH {d:Nat} {o:Oper} {p:Prop} [Decidable p]:PK E G n (.iv .bool (decide p)) d true o all N acc os k s=((p→PQ E G n (ai E (ej all N acc o) (s.set d (.iv .bool true)) o) o.dst all N (cz N acc o) os k (s.set d (.iv .bool true)))∧(¬p→PO E G n all N (cz N acc o) os k ((s.set d (.iv .bool false)).put o.dst (.bk [])))):=by
 simp[PK]
theorem LI {d:Nat} {o:Oper} {p:Prop} [Decidable p]:PK E G n (.iv .bool (decide p)) d false o all N acc os k s=((¬p→PQ E G n (ai E (ej all N acc o) (s.set d (.iv .bool false)) o) o.dst all N (cz N acc o) os k (s.set d (.iv .bool false)))∧(p→PO E G n all N (cz N acc o) os k ((s.set d (.iv .bool true)).put o.dst (.bk [])))):=by
 simp[PK]
theorem au8 {a b:Code} :PB E G n (.iv .bool true) a b k s=PW E G n (.code a::k) s:=by simp[PB]
theorem au9 {a b:Code} :PB E G n (.iv .bool false) a b k s=PW E G n (.code b::k) s:=by simp[PB]
theorem V7 {a b:Code} {p:Prop} [Decidable p]:PB E G n (.iv .bool (decide p)) a b k s=((p→PW E G n (.code a::k) s)∧(¬p→PW E G n (.code b::k) s)):=by simp[PB]
theorem Pn {a b:Code} {p:Prop} [Decidable p]:PB E G n (.iv .bool !(decide p)) a b k s=((p→PW E G n (.code b::k) s)∧(¬p→PW E G n (.code a::k) s)):=by simp[PB,and_comm]
theorem IH {d:Nat} {o:Oper} {p:Prop} [Decidable p]:PK E G n (.iv .bool !(decide p)) d true o all N acc os k s=((¬p→PQ E G n (ai E (ej all N acc o) (s.set d (.iv .bool true)) o) o.dst all N (cz N acc o) os k (s.set d (.iv .bool true)))∧(p→PO E G n all N (cz N acc o) os k ((s.set d (.iv .bool false)).put o.dst (.bk [])))):=by
 simp[PK]
theorem II {d:Nat} {o:Oper} {p:Prop} [Decidable p]:PK E G n (.iv .bool !(decide p)) d false o all N acc os k s=((p→PQ E G n (ai E (ej all N acc o) (s.set d (.iv .bool false)) o) o.dst all N (cz N acc o) os k (s.set d (.iv .bool false)))∧(¬p→PO E G n all N (cz N acc o) os k ((s.set d (.iv .bool true)).put o.dst (.bk [])))):=by
 simp[PK]
theorem av0 {a b:Code} {c:Bool} :PB E G n (.iv .bool c) a b k s=((c=true→PW E G n (.code a::k) s)∧(c=false→PW E G n (.code b::k) s)):=rfl
theorem Po {k:List WI} :PX E G n (some k) s=PW E G n k s:=rfl
theorem V8:PW E G (n+1) [] s=Cg E G s:=by simp only[gK,pw]
theorem V9 {i:Nat} :PW E G (n+1) (.cc i::k) s=PW E G n k s:=by simp only[gK,pw]
theorem IJ {c:Code} :PW E G (n+1) (.loop c::k) s=ao E G (.loop c::k) s:=by simp only[gK,pw]
theorem Pp:PW E G (n+1) (.code .skip::k) s=PW E G n k s:=by simp only[gK,pw]
theorem Wa {a b:Code} :PW E G (n+1) (.code (.seq a b)::k) s=PW E G n (.code a:: .code b::k) s:=by simp only[gK,pw]
def PS(E:Env)(G:Goal)(n:Nat)(b:Bool)(i:Nat)(ops:List Oper)(k:List WI)(s:St):Prop:=match b with|true=>ao E G (.code (.region i ⟨ops⟩ false)::k) s|false=>PO E G n ops [] [] ops k s
theorem Wb {i:Nat} {ops:List Oper} :PW E G (n+1) (.code (.region i ⟨ops⟩ false)::k) s=PS E G n (E.uR G.f i) i ops k s:=by simp only[gK,pw];unfold PS;rw[gL];cases E.uR G.f i<;>rfl
theorem av1 {i:Nat} {ops:List Oper} :PS E G n false i ops k s=PO E G n ops [] [] ops k s:=rfl
theorem av2 {i:Nat} {ops:List Oper} :PS E G n true i ops k s=ao E G (.code (.region i ⟨ops⟩ false)::k) s:=rfl
def PD(E:Env)(G:Goal)(n:Nat)(l:List (List Nat))(ops:List Oper)(k:List WI)(s:St):Prop:=match l with|[]=>PO E G n ops (bU ops) [] ops k s|x::l=>match K0 (x::l)with|some c=>PO E G n ops (bU ops) [] (ops.take c) (.rest ops (ops.drop c)::k) s|none=>lV G ops=true∧PW E G n (.tail ops (x::l)::k) s
def PSd(E:Env)(G:Goal)(n:Nat)(b:Bool)(i:Nat)(ops:List Oper)(k:List WI)(s:St):Prop:=match b with|true=>ao E G (.code (.region i ⟨ops⟩ true)::k) s|false=>PD E G n (E.fl G.f i) ops k s
theorem Pq {i:Nat} {ops:List Oper} :PW E G (n+1) (.code (.region i ⟨ops⟩ true)::k) s=PSd E G n (E.uR G.f i) i ops k s:=by
 simp only[gK,pw];unfold PSd PD;rw[gK,gL];cases E.uR G.f i<;>cases E.fl G.f i<;>rfl
theorem af2 {i:Nat} {ops:List Oper} :PSd E G n false i ops k s=PD E G n (E.fl G.f i) ops k s:=rfl
theorem af3 {i:Nat} {ops:List Oper} :PSd E G n true i ops k s=ao E G (.code (.region i ⟨ops⟩ true)::k) s:=rfl
theorem Wc {ops:List Oper} :PD E G n [] ops k s=PO E G n ops (bU ops) [] ops k s:=rfl
theorem Ps {i:Nat} {x:List Nat} {l:List (List Nat)} {ops:List Oper} :PD E G n ((i::x)::l) ops k s=(lV G ops=true∧PW E G n (.tail ops ((i::x)::l)::k) s):=rfl
theorem Wd {c:Nat} {x:List Nat} {l:List (List Nat)} {ops:List Oper} :PD E G n ([]::(c::x)::l) ops k s=PO E G n ops (bU ops) [] (ops.take c) (.rest ops (ops.drop c)::k) s:=rfl
def PTh(E:Env)(G:Goal)(n:Nat)(hs:List Nat)(all:List Oper)(aH:List (List Nat))(k:List WI)(s:St):Prop:=match hs with|[]=>PW E G n k s|h::hs=>pt E G n all aH (h::hs) k s
def Pt(E:Env)(G:Goal):Nat→List Nat→List Oper→List (List Nat)→List WI→St→Prop|0,_,_,_,_,_=>fO 1000|_+1,[],_,_,_,_=>True|n+1,h::hs,all,aH,k,s=>(match mZ all h with|some o=>aK9 all o s=true∧PO E G n all [] [] [o] (.tail all (fg h aH)::k) s|none=>fO 1008)∧Pt E G n hs all aH k s
theorem LJ {all:List Oper} {aH:List (List Nat)} : ∀(n:Nat)(hs:List Nat),pt E G n all aH hs k s=Pt E G n hs all aH k s|0,_=>(by simp only[pt,Pt])|n+1,[]=>(by simp only[pt,Pt])|n+1,h::hs=>by simp only[pt,Pt,LJ n hs,gL];rfl
theorem Pu {all:List Oper} {aH:List (List Nat)} :PW E G (n+1) (.tail all aH::k) s=PTh E G n (iq aH) all aH k s:=by simp only[gK,pw];unfold PTh;rw[gK];cases iq aH<;>rfl
theorem Pv {all B:List Oper} :PW E G (n+1) (.rest all B::k) s=PO E G n all [] [] B k s:=by simp only[gK,gL,pw]
theorem Pw {all:List Oper} {aH:List (List Nat)} :PTh E G n [] all aH k s=PW E G n k s:=rfl
theorem LK {h:Nat} {hs:List Nat} {all:List Oper} {aH:List (List Nat)} :PTh E G n (h::hs) all aH k s=Pt E G n (h::hs) all aH k s:=LJ n (h::hs)
theorem Px {all:List Oper} {aH:List (List Nat)} :Pt E G (n+1) [] all aH k s=True:=rfl
def PTo(E:Env)(G:Goal)(n:Nat)(o:Option Oper)(all:List Oper)(aH:List (List Nat))(k:List WI)(s:St):Prop:=match o with|some o=>aK9 all o s=true∧PO E G n all [] [] [o] (.tail all aH::k) s|none=>fO 1008
theorem LL {h:Nat} {hs:List Nat} {all:List Oper} {aH:List (List Nat)} :Pt E G (n+1) (h::hs) all aH k s=(PTo E G n (mZ all h) all (fg h aH) k s∧Pt E G n hs all aH k s):=rfl
theorem LM {o:Oper} {all:List Oper} {aH:List (List Nat)} :PTo E G n (some o) all aH k s=(aK9 all o s=true∧PO E G n all [] [] [o] (.tail all aH::k) s):=rfl
theorem Py {x:Operand} {a b:Code} :PW E G (n+1) (.code (.cond x a b)::k) s=PB E G n (s.ev x) a b k s:=by simp only[gK,PB,pw];rfl
theorem LN {i:Nat} {b:Code} :PW E G (n+1) (.code (.block i b)::k) s=PW E G n (.code b:: .cc i::k) s:=by simp only[gK,pw]
theorem Pz {b:Code} :PW E G (n+1) (.code (.loop b)::k) s=ao E G (.code (.loop b)::k) s:=by simp only[gK,pw]
theorem PA {i:Nat} :PW E G (n+1) (.code (.exit i)::k) s=PX E G n (mu i k) s:=by simp only[gK,PX,pw];rfl
theorem We:PW E G (n+1) (.code .ret::k) s=Cg E G s:=by simp only[gK,pw]
end
theorem aI.go {E:Env} (h:aI E):aI E.go:=⟨h.ty,h.fn,h.res,h.db,h.cmp,h.mapKey,h.mixed,h.D5,h.HK,h.emp,h.oe⟩
section
variable {E:Env}
theorem aC8:E.go.P=E.P:=rfl
theorem af4 {t:Nat} :E.go.ty t=E.ty t:=rfl
theorem Wf {t:Nat} :E.go.str t=E.str t:=rfl
theorem Wg {t:Nat} :E.go.cmp t=E.cmp t:=rfl
theorem af5 {t:Nat} :E.go.fn t=E.fn t:=rfl
theorem Wh {t:Nat} :E.go.db t=E.db t:=rfl
theorem Wi {t:Nat} :E.go.mapKey t=E.mapKey t:=rfl
theorem af6 {d t:Nat} :E.go.ro d t=E.ro d t:=rfl
theorem af7:E.go.tm=E.tm:=rfl
theorem af8 {t:Nat} :E.go.Eg t=E.Eg t:=rfl
theorem af9 {t:Nat} :E.go.D5 t=E.D5 t:=rfl
theorem ag0 {t:Nat} :E.go.nd t=E.nd t:=rfl
theorem PE {t:Nat} {m:String} :E.go.oe t m=E.oe t m:=rfl
theorem Wj {t:Nat} :E.go.HK t=E.HK t:=rfl
theorem ag1 {t:Nat} :E.go.px t=E.px t:=rfl
theorem ag2 {f i:Nat} :E.go.fl f i=E.fl f i:=rfl
theorem Wk {t:Nat} :E.go.emp t=E.emp t:=rfl
theorem Wl {f i:Nat} :E.go.uR f i=false:=rfl
theorem ag3 {f:Nat} {xs:List (Sigma Ty.den)} {T:Ty} {r:T.den} :PC E.go f xs T r=PC E f xs T r:=rfl
theorem ag4 {f:Nat} {xs:List (Sigma Ty.den)} {T:Ty} {Y:T.den→Prop} :PN E.go f xs T Y=PN E f xs T Y:=rfl
theorem ag5 {f:Nat} {args:List PV} {bl bl':List (Nat×aO)} {p:PV} :HC E.go f args bl p bl'=HC E f args bl p bl':=rfl
theorem ag6 {f:Nat} {xs:List (Sigma Ty.den)} :XC E.go f xs=XC E f xs:=rfl
theorem ag7 {f:Nat} {args:List PV} {bl bl':List (Nat×aO)} :XH E.go f args bl bl'=XH E f args bl bl':=rfl
theorem LO {G:Goal} {k:List WI} {s:St} :ao E.go G k s=ao E G k s:=rfl
end
theorem aw {E:Env} (hE:aI E) {G:Goal} (hG:sj E G)(m:Nat)(todo:List WI)(s:St)(ck:vR (E1 E G.f Lf (m8 E) wo) G.n todo=true)(h:PW E G m todo s):ao E G todo s:=K6 hE hG (Fe hE) (IC hE) (Ip hE) m todo s ck (by rw[←gK];exact h)
theorem zd {E:Env} (hE:aI E) {G:Goal} (hG:sj E G)(m:Nat)(todo:List WI)(s:St)(ck:vR (E1 E.go G.f Lf (m8 E.go) wo) G.n todo=true)(h:PW E.go G m todo s):ao E G todo s:=aw (E:=E.go) hE.go ⟨hG.1⟩ m todo s ck h
theorem PC.aJ {E:Env} (hE:aI E) {f n m:Nat} {fn:Func} {c:Code} {xs:List (Sigma Ty.den)} {T:Ty} {r:T.den} (db:E.P.funcs[f]?=some fn)(hb:fn.body=some c)(hn:fn.ntmps=n)(hlen:Nat.ble xs.length n=true)(gp:Nat.ble n 100000=true)(ck:vR (E1 E f Lf (m8 E) wo) n [.code c]=true)(h:OX xs→PW E ⟨f,n,fn.results.toList,.iv T r,[],none,false⟩ m [.code c] ⟨cZ 0 (Cp xs),[]⟩):PC E f xs T r:=PC.gq db hb hn hlen gp fun hx=>aw hE (G:=⟨f,n,fn.results.toList,.iv T r,[],none,false⟩) ⟨fn,db,rfl⟩ m _ _ ck (h hx)
theorem PN.aJ {E:Env} (hE:aI E) {f n m:Nat} {fn:Func} {c:Code} {xs:List (Sigma Ty.den)} {T:Ty} {Y:T.den→Prop} (db:E.P.funcs[f]?=some fn)(hb:fn.body=some c)(hn:fn.ntmps=n)(hlen:Nat.ble xs.length n=true)(gp:Nat.ble n 100000=true)(ck:vR (E1 E f Lf (m8 E) wo) n [.code c]=true)(h:OX xs→PW E ⟨f,n,fn.results.toList,.any,[],some ⟨T,Y,fun r=>.iv T r,fun _=>[]⟩,false⟩ m [.code c] ⟨cZ 0 (Cp xs),[]⟩):PN E f xs T Y:=PN.gq db hb hn hlen gp fun hx=>aw hE (G:=⟨f,n,fn.results.toList,.any,[],some ⟨T,Y,fun r=>.iv T r,fun _=>[]⟩,false⟩) ⟨fn,db,rfl⟩ m _ _ ck (h hx)
theorem HN.aJ {E:Env} (hE:aI E) {f n m:Nat} {fn:Func} {c:Code} {args:List PV} {bl:List (Nat×aO)} {T:Ty} {Y:T.den→Prop} {p:T.den→PV} {bl':T.den→List (Nat×aO)} (db:E.P.funcs[f]?=some fn)(hb:fn.body=some c)(hn:fn.ntmps=n)(hlen:Nat.ble args.length n=true)(gp:Nat.ble n 100000=true)(ck:vR (E1 E f Lf (m8 E) wo) n [.code c]=true)(h:Aw args→p9 bl→PW E ⟨f,n,fn.results.toList,.any,[],some ⟨T,Y,p,bl'⟩,false⟩ m [.code c] ⟨cZ 0 args,bl⟩):HN E f args bl T Y p bl':=HN.gq db hb hn hlen gp fun h1 h2=>aw hE (G:=⟨f,n,fn.results.toList,.any,[],some ⟨T,Y,p,bl'⟩,false⟩) ⟨fn,db,rfl⟩ m _ _ ck (h h1 h2)
theorem HC.aJ {E:Env} (hE:aI E) {f n m:Nat} {fn:Func} {c:Code} {args:List PV} {bl bl':List (Nat×aO)} {p:PV} (db:E.P.funcs[f]?=some fn)(hb:fn.body=some c)(hn:fn.ntmps=n)(hlen:Nat.ble args.length n=true)(gp:Nat.ble n 100000=true)(ck:vR (E1 E f Lf (m8 E) wo) n [.code c]=true)(h:Aw args→p9 bl→PW E ⟨f,n,fn.results.toList,p,bl',none,false⟩ m [.code c] ⟨cZ 0 args,bl⟩):HC E f args bl p bl':=HC.gq db hb hn hlen gp fun h1 h2=>aw hE (G:=⟨f,n,fn.results.toList,p,bl',none,false⟩) ⟨fn,db,rfl⟩ m _ _ ck (h h1 h2)
theorem XC.aJ {E:Env} (hE:aI E) {f n m:Nat} {fn:Func} {c:Code} {xs:List (Sigma Ty.den)} (db:E.P.funcs[f]?=some fn)(hb:fn.body=some c)(hn:fn.ntmps=n)(hlen:Nat.ble xs.length n=true)(gp:Nat.ble n 100000=true)(ck:vR (E1 E f Lf (m8 E) wo) n [.code c]=true)(h:OX xs→PW E ⟨f,n,fn.results.toList,.any,[],none,true⟩ m [.code c] ⟨cZ 0 (Cp xs),[]⟩):XC E f xs:=XC.gq db hb hn hlen gp fun hx=>aw hE (G:=⟨f,n,fn.results.toList,.any,[],none,true⟩) ⟨fn,db,rfl⟩ m _ _ ck (h hx)
theorem XH.aJ {E:Env} (hE:aI E) {f n m:Nat} {fn:Func} {c:Code} {args:List PV} {bl bl':List (Nat×aO)} (db:E.P.funcs[f]?=some fn)(hb:fn.body=some c)(hn:fn.ntmps=n)(hlen:Nat.ble args.length n=true)(gp:Nat.ble n 100000=true)(ck:vR (E1 E f Lf (m8 E) wo) n [.code c]=true)(h:Aw args→p9 bl→PW E ⟨f,n,fn.results.toList,.any,bl',none,true⟩ m [.code c] ⟨cZ 0 args,bl⟩):XH E f args bl bl':=XH.gq db hb hn hlen gp fun h1 h2=>aw hE (G:=⟨f,n,fn.results.toList,.any,bl',none,true⟩) ⟨fn,db,rfl⟩ m _ _ ck (h h1 h2)
theorem av3(a b:Nat):Nat.beq a b=(a==b):=by cases h:Nat.beq a b with|true=>simp[Nat.eq_of_beq_eq_true h]|false=>(have:a≠b:=by rintro rfl;simp at h);simp[this]
theorem av4(a b:Nat):Nat.ble a b=decide (a≤b):=by
 cases h:Nat.ble a b with|true=>simp[Nat.le_of_ble_eq_true h]|false=>(have: ¬a≤b:=by intro h';rw[Nat.ble_eq_true_of_le h']at h;cases h);simp[this]
theorem av5(a b:Nat):Nat.blt a b=decide (a+1≤b):=by
 show Nat.blt a b=decide (a<b);cases h:Nat.blt a b with|true=>rw[Nat.blt_eq]at h;simp[h]|false=>(have: ¬a<b:=by intro h';rw[←Nat.blt_eq]at h';rw[h']at h;cases h);simp[this]
theorem ao.ag8 {E:Env} {G:Goal} {c:Code} {k:List WI} {s:St} {X:Type} (st:X→St)(inv:X→Prop)(m:X→Nat)(x0:X)(hle:Le s (st x0))(hinv:inv x0)(h: ∀x,inv x→(∀(s:St)(y:X),Le s (st y)→inv y→m y<m x→ao E G (.loop c::k) s)→ao E G (.code c:: .loop c::k) (st x)):ao E G (.code (.loop c)::k) s:=ao.weaken hle (ao.loop st inv m h x0 hinv)
end Go.Proofs.Ytefpgfdemmllpaa
namespace Go.Proofs.Ytefpgfdemmllpaa
open Go.RowKit
def br(l:List (Nat×Nat))(i:Nat):Nat:=match look i l with|some j=>j|none=>i
def bW:List (Nat×Nat)→List (Nat×Nat)|[]=>[]|p::r=>(p.2,p.1)::bW r
def qU(l:List (Nat×Nat)):List (Nat×Nat)→Bool|[]=>true|p::r=>Nat.beq (br l p.1) p.2&&Nat.blt p.1 P0&&qU l r
def CK(l:List (Nat×Nat)):Bool:=qU l l&&qU (bW l) (bW l)
theorem qV {l:List (Nat×Nat)} {i j:Nat} (h:look i l=some j):(i,j)∈l:=by
 induction l with|nil=>cases h|cons p r ih=>simp only[look]at h;cases hb:Nat.beq i p.1 with|true=>simp only[hb,cond_true,Option.some.injEq]at h;have:=Nat.eq_of_beq_eq_true hb;rw[List.mem_cons];left;obtain⟨a,b⟩:=p;simp only at h this;rw[this,h]|false=>simp only[hb,cond_false]at h;exact List.mem_cons_of_mem _ (ih h)
theorem LP {l:List (Nat×Nat)} {i j:Nat} (h:(i,j)∈l): ∃k,look i l=some k:=by
 induction l with|nil=>cases h|cons p r ih=>simp only[look];cases hb:Nat.beq i p.1 with|true=>exact⟨p.2,rfl⟩|false=>rcases List.mem_cons.1 h with h|h;(·subst h;simp at hb);·exact ih h
theorem sB {i j:Nat} : ∀ {l:List (Nat×Nat)},(i,j)∈l→(j,i)∈bW l|[],h=>(by cases h)|p::r,h=>by rcases List.mem_cons.1 h with h|h;(·subst h;exact List.mem_cons_self ..);·exact List.mem_cons_of_mem _ (sB h)
theorem swap_swap: ∀(l:List (Nat×Nat)),bW (bW l)=l|[]=>rfl|p::r=>by simp only[bW,swap_swap r]
theorem o9 {l:List (Nat×Nat)} : ∀ {r:List (Nat×Nat)} {i j:Nat},qU l r=true→(i,j)∈r→br l i=j∧i<P0|[],i,j,_,h=>(by cases h)|p::r,i,j,hi,h=>by simp only[qU,Bool.and_eq_true,Nat.blt_eq]at hi;rcases List.mem_cons.1 h with h|h;(·subst h;exact⟨Nat.eq_of_beq_eq_true hi.1.1,hi.1.2⟩);·exact o9 hi.2 h
theorem CL {l:List (Nat×Nat)} (h:CK l=true)(h': ∀i j,(i,j)∈l→ ∃k,(j,k)∈l)(i:Nat):br (bW l) (br l i)=i:=by
 simp only[CK,Bool.and_eq_true]at h;cases hl:look i l with|some j=>have hm:=qV hl;(have e:br l i=j:=by simp[br,hl]);rw[e];exact(o9 h.2 (sB hm)).1|none=>(have e:br l i=i:=by simp[br,hl]);rw[e];cases hs:look i (bW l)with|none=>simp[br,hs]|some j=>have hm:=sB (qV hs);rw[swap_swap]at hm;obtain⟨k,hk⟩:=h' _ _ hm;obtain⟨k',rV⟩:=LP hk;rw[hl]at rV;cases rV
def closed(l:List (Nat×Nat)):List (Nat×Nat)→Bool|[]=>true|p::r=>(match look p.2 l with|some _=>true|none=>false)&&closed l r
theorem sC {l:List (Nat×Nat)} : ∀ {r:List (Nat×Nat)} {i j:Nat},closed l r=true→(i,j)∈r→ ∃k,(j,k)∈l|[],i,j,_,h=>(by cases h)|p::r,i,j,hc,h=>by simp only[closed,Bool.and_eq_true]at hc;rcases List.mem_cons.1 h with h|h;(·subst h;have h1:=hc.1;split at h1;(·rename_i k hk;exact⟨k,qV hk⟩);·cases h1);·exact sC hc.2 h
def wy(l:List (Nat×Nat)):Bool:=CK l&&closed l l&&CK (bW l)&&closed (bW l) (bW l)
theorem wz {l:List (Nat×Nat)} (h:wy l=true):(∀i,br (bW l) (br l i)=i)∧(∀i,br l (br (bW l) i)=i)∧ ∀i,P0≤i→br l i=i:=by
 simp only[wy,Bool.and_eq_true]at h;refine⟨CL h.1.1.1 (fun i j hm=>sC h.1.1.2 hm),fun i=>?_,fun i hi=>?_⟩;(·have:=CL h.1.2 (fun i j hm=>sC h.2 hm) i;rwa[swap_swap]at this)
 ·unfold br;cases hl:look i l with|none=>rfl|some j=>have:=h.1.1.1;simp only[CK,Bool.and_eq_true]at this;have:=(o9 this.1 (qV hl)).2;omega
def St.fE(s:St)(ρ:Nat→Nat):St:=⟨ou (PV.fE ρ) s.sl,iT ρ s.bl⟩
theorem Full.fE {n:Nat} {w0:World} {S0:Cx} {s:St} {a:Act} {w:World} {ν:Nat→Value} {S:Nat→Prop} (h:Full n w0 S0 s a w ν S) {l:List (Nat×Nat)} (hp:wy l=true):Full n w0 S0 (s.fE (br l)) a w (fun i=>ν (br (bW l) i)) S:=by
 obtain⟨h1,h2,h3⟩:=wz hp;(have inj: ∀i j,br l i=br l j→i=j:=fun i j e=>by rw[←h1 i,←h1 j,e]);have LQ: ∀i b,look i s.bl=some b→look (br l i) (s.fE (br l)).bl=some (b.map (PV.fY (br l))):=fun i b hb=>im (fun j c _ e=>inj j i e) hb
 have hold: ∀i b,look i (s.fE (br l)).bl=some b→ ∃j c,br l j=i∧look j s.bl=some c∧b=c.map (PV.fY (br l)):=fun i b hb=>lS (fun j k _ _ _ _ e=>inj j k e) hb;have hle:Ctx.OR (keys s.bl) (br l) ⟨ν,s.D,w,⟨S,aF w0 S0⟩⟩ ⟨fun i=>ν (br (bW l) i),(s.fE (br l)).D,w,⟨S,aF w0 S0⟩⟩:=⟨fun _ _=>rfl,fun _ h=>h,fun i _⟨b,hb⟩=>⟨_,LQ i b hb⟩,fun i _ _=>by simp only[h1]⟩
 refine⟨h.below,h.BC,h.fresh,⟨h.W.lt,h.W.size,fun i b hb=>?_,fun i j b c eL hi hj g hg eg=>?_⟩,fun t=>?_,h.size,h.defers,h.Aa,fun i hi⟨b,hb⟩=>?_,h.D9⟩;(·obtain⟨j,c,rfl,hc,rfl⟩:=hold i b hb;have hr:=h.W.cc j c hc;exact qz hle (sh (fun _ h=>h) hr) (by simp only[h1]) (fun g hg=>⟨rfl,(gm hr hg).1,(gm hr hg).2.1⟩) hr)
 (·obtain⟨i',b',rfl,j5,_⟩:=hold i b hi;obtain⟨j',c',rfl,iw,_⟩:=hold j c hj;simp only[h1]at hg eg;exact h.W.ne i' j' b' c' (fun e=>eL (by rw[e])) j5 iw g hg eg);(·(have e:(s.fE (br l)).get t=(s.get t).fE (br l):=by simp only[St.get,St.fE,jG];cases look t s.sl<;>simp[PV.fE]);rw[e];have hs:=h.fq t;exact kX hle (nN (fun _ h=>h) hs) hs)
 ·obtain⟨j,c,rfl,hc,_⟩:=hold i b hb;(have hj:P0≤j:=by rcases Nat.lt_or_ge j P0 with h'|h';(·exfalso;have e:=h3 (br l j) hi;have:=inj _ _ e;omega);·exact h');rw[h3 j hj];(have e:br (bW l) j=j:=by have:=h1 j;rw[h3 j hj]at this;exact this);simp only[e];exact h.kept j hj ⟨c,hc⟩
theorem ao.fE {E:Env} {G:Goal} {todo:List WI} {s:St} (l:List (Nat×Nat))(hp:wy l=true)(h:ao E G todo (s.fE (br l))):ao E G todo s:=by
 intro w0 S0 a w hr;obtain⟨ν,S,hf⟩:=hr.full;exact h w0 S0 a w (hf.fE hp).rel
theorem Wm {i:Nat} {r:List Nat} {d:Nat} :back (i::r) d 1000000000=i:=rfl
theorem Wn {i j:Nat} {r:List Nat} {d:Nat} :back (i::j::r) d 1000000001=j:=rfl
theorem Wo {i j k:Nat} {r:List Nat} {d:Nat} :back (i::j::k::r) d 1000000002=k:=rfl
theorem Fq {ids:List Nat} {d i:Nat} (h:(1000000000≤i)=False):back ids d i=i+100000*(d+1):=by
 unfold back;(have:Nat.ble P0 i=false:=by cases hb:Nat.ble P0 i with|false=>rfl|true=>exact(of_eq_false h (Nat.le_of_ble_eq_true hb)).elim);rw[this];rfl
theorem Wp:IntKind.i8.min= -128:=rfl
theorem Wq:IntKind.i8.max=127:=rfl
theorem PF:IntKind.i16.min= -32768:=rfl
theorem PG:IntKind.i16.max=32767:=rfl
theorem PR:IntKind.i32.min= -2147483648:=rfl
theorem PT:IntKind.i32.max=2147483647:=rfl
theorem PU:IntKind.i64.min= -9223372036854775808:=rfl
theorem max_i64:IntKind.i64.max=9223372036854775807:=rfl
theorem Wr:IntKind.u8.min=0:=rfl
theorem Ws:IntKind.u8.max=255:=rfl
theorem PY:IntKind.u16.min=0:=rfl
theorem PZ:IntKind.u16.max=65535:=rfl
theorem P1:IntKind.u32.min=0:=rfl
theorem P2:IntKind.u32.max=4294967295:=rfl
theorem P3:IntKind.u64.min=0:=rfl
theorem P4:IntKind.u64.max=18446744073709551615:=rfl
theorem PC.aA9 {E:Env} {f:Nat} {xs:List (Sigma Ty.den)} {T:Ty} {r:T.den} {p:PV} {bl':List (Nat×aO)} (h:HC E f (Cp xs) [] p bl')(T3:aL T=0)(he:exp ⟨[],true⟩ bl' T p=some r):PC E f xs T r:=by
 intro w S vs hS hT cE;(have Bk: ∀(ν:Nat→Value)(g:Nat),¬fb ν [] g:=by rintro ν g⟨i,b,hb,_⟩;cases hb);refine(h w S (fun _=>undef) vs hS hT (fun g hg=>(Bk _ g hg).elim) (fun i b hb=>by cases hb) ⟨hS,fun b hb=>.inl hb,fun i b hb=>(by cases hb),fun i j b c _ hi=>(by cases hi)⟩ (qJ (w:=w) (M:=⟨S,fun g=>w.heap.size≤g⟩) rfl (fun _ h=>h) cE)).mono ?_
 rintro e w'⟨v,rfl,hk,ν,S',h1,h2,h3,hW,hp⟩;(have b6: ∀g,aF w ⟨S,fb (fun _=>undef) [],fun _=>undef,[]⟩ g→w.heap.size≤g:=fun g hg=>by rcases hg with hg|hg;(·exact hg);·exact(Bk _ g hg).elim)
 have hR:Reads ⟨[],true⟩ ⟨[],bl'⟩ ⟨ν,(⟨[],bl'⟩:St).D,w',⟨S',aF w ⟨S,fb (fun _=>undef) [],fun _=>undef,[]⟩⟩⟩ ⟨fun b=>S' b∨(w.heap.size≤b∧b<w'.heap.size),fun g=>w.heap.size≤g⟩:=⟨rfl,hW.cc,fun b hb=>.inl hb,fun id _⟨b,hb⟩g hg=>by obtain⟨a1,_,a3⟩:=gm (hW.cc id b hb) hg;exact .inr ⟨b6 g a1,a3⟩⟩
 refine⟨v,rfl,⟨⟨hk.os,hk.tape,hk.output,hk.size,fun k rV=>hk.block k rV (Bk _ k)⟩,hk.drawn⟩,fun b=>S' b∨(w.heap.size≤b∧b<w'.heap.size),fun b hb=>.inl (h1 b hb),fun b hb=>?_,fun b hb=>?_,gU (dZ hR (.inl T3) he hp)⟩
 (·rcases hb with hb|hb;(·rcases h2 b hb with h'|h';(·exact .inl h');·exact .inr (b6 b h'));·exact .inr hb.1);·rcases hb with hb|hb;(·exact hW.lt b hb);·exact hb.2
end Go.Proofs.Ytefpgfdemmllpaa
namespace Go.Proofs.Ytefpgfdemmllpaa
def P5:List Oper→List Nat|[]=>[]|o::r=>match o.dst with|some d=>d::P5 r|none=>P5 r
def ku:Code→List Nat|.region _ ops _=>P5 ops.toList|.seq a b=>ku a++ku b|.cond _ a b=>ku a++ku b|.block _ b=>ku b|.loop b=>ku b|.scope b=>ku b|.rangeFunc _ _ a b=>ku a++ku b|.skip=>[]|.exit _=>[]|.label _=>[]|.goto _=>[]|.ret=>[]|.refuse _=>[]
def na:List Nat→List (Nat×PV)→List (Nat×PV)|_,[]=>[]|ks,p::r=>bif aj p.1 ks then na (p.1::ks) r else p::na (p.1::ks) r
def nb:List Nat→List (Nat×aO)→List (Nat×aO)|_,[]=>[]|ks,p::r=>bif aj p.1 ks then nb (p.1::ks) r else p::nb (p.1::ks) r
theorem ao.bR {E:Env} {G:Goal} {c:Code} {k:List WI} {s:St} {X:Type} (sl:X→List (Nat×PV))(bl:X→List (Nat×aO))(inv:X→Prop)(m:X→Nat)(x0:X)(h: ∀b1 b2,na (ku c++(sl x0).map (·.1)) s.sl=b1→nb (keys (bl x0)) s.bl=b2→Le s ⟨sl x0++b1,bl x0++b2⟩∧inv x0∧ ∀x,inv x→(∀(t:St)(y:X),Le t ⟨sl y++b1,bl y++b2⟩→inv y→m y<m x→ao E G (.loop c::k) t)→ao E G (.code c:: .loop c::k) ⟨sl x++b1,bl x++b2⟩):ao E G (.code (.loop c)::k) s:=by
 obtain⟨h1,h2,h3⟩:=h _ _ rfl rfl;exact ao.ag8 (fun x=>⟨sl x++na (ku c++(sl x0).map (·.1)) s.sl,bl x++nb (keys (bl x0)) s.bl⟩) inv m x0 h1 h2 h3
end Go.Proofs.Ytefpgfdemmllpaa
namespace Go.Proofs.Ytefpgfdemmllpaa
def JG(ks:List Nat):List (Nat×aO)→List Nat|[]=>[]|p::r=>bif aj p.1 ks then JG ks r else p.1::JG ks r
theorem LR {ks:List Nat} {i:Nat} (hk:aj i ks=false): ∀ {bl:List (Nat×aO)} {b:aO},look i bl=some b→aj i (JG ks bl)=true|[],b,h=>(by cases h)|p::r,b,h=>by simp only[look]at h;simp only[JG];cases hb:Nat.beq i p.1 with|true=>have e:=Nat.eq_of_beq_eq_true hb;subst e;rw[hk,cond_false];simp only[aj,hb,cond_true]|false=>rw[hb,cond_false]at h;have ih:=LR hk h;cases hm:aj p.1 ks;(·simp only[cond_false,aj,hb];exact ih);·simp only[cond_true];exact ih
theorem ao.G1 {E:Env} {G:Goal} {todo:List WI} {s:St} (ks:List Nat)(t:Nat)(T:Ty)(x:T.den)(ho:aL T=0)(he:exp ⟨JG ks s.bl,true⟩ s.bl T (s.get t)=some x)(h:ao E G todo ((s.aP ks).set t (.iv T x))):ao E G todo s:=by
 intro w0 S0 a w hr;obtain⟨ν,S,hf⟩:=hr.full;have hs:=hf.dC ks;(have hR:Reads ⟨JG ks s.bl,true⟩ s ⟨ν,s.D,w,⟨S,aF w0 S0⟩⟩ ⟨ki S s ν ks,aF w0 S0⟩:=by refine⟨rfl,hf.W.cc,fun b hb=>.inl hb,fun i hi hd g hg=>.inr ⟨i,?_,hd,hg⟩⟩;cases hk:aj i ks with|true=>rfl|false=>obtain⟨b,hb⟩:=hd;have:=LR hk hb;rw[this]at hi;cases hi)
 have hv:=dZ hR (.inl ho) he (hf.fq t);refine h w0 S0 a w (Full.rel (ν:=ν) (S:=ki S s ν ks) ⟨hs.below,hs.BC,hs.fresh,⟨hs.W.lt,hs.W.size,hs.W.cc,hs.W.ne⟩,fun u=>?_,hs.size,hs.defers,hs.Aa,hs.kept,hs.D9⟩)
 have h0:=hs.fq u;unfold St.get St.set;simp only[look];cases hb:Nat.beq u t with|true=>have e:=Nat.eq_of_beq_eq_true hb;subst e;simp only[cond_true,ae];exact⟨ho,yT hv⟩|false=>simp only[cond_false];exact h0
def Env.skip(E:Env)(i:Nat):Env:= { E with uR:=fun f j=>match Nat.beq j i with|true=>false|false=>E.uR f j }
theorem aI.skip {E:Env} (h:aI E)(i:Nat):aI (E.skip i):=⟨h.ty,h.fn,h.res,h.db,h.cmp,h.mapKey,h.mixed,h.D5,h.HK,h.emp,h.oe⟩
section
variable {E:Env} {j:Nat}
theorem Wt:(E.skip j).P=E.P:=rfl
theorem P6 {t:Nat} :(E.skip j).ty t=E.ty t:=rfl
theorem LS {t:Nat} :(E.skip j).str t=E.str t:=rfl
theorem LU {t:Nat} :(E.skip j).cmp t=E.cmp t:=rfl
theorem P7 {t:Nat} :(E.skip j).fn t=E.fn t:=rfl
theorem LV {t:Nat} :(E.skip j).db t=E.db t:=rfl
theorem LW {t:Nat} :(E.skip j).mapKey t=E.mapKey t:=rfl
theorem P8 {d t:Nat} :(E.skip j).ro d t=E.ro d t:=rfl
theorem P9:(E.skip j).tm=E.tm:=rfl
theorem Qa {t:Nat} :(E.skip j).Eg t=E.Eg t:=rfl
theorem Qb {t:Nat} :(E.skip j).D5 t=E.D5 t:=rfl
theorem Qc {t:Nat} :(E.skip j).nd t=E.nd t:=rfl
theorem IK {t:Nat} {m:String} :(E.skip j).oe t m=E.oe t m:=rfl
theorem LX {t:Nat} :(E.skip j).HK t=E.HK t:=rfl
theorem Qd {t:Nat} :(E.skip j).px t=E.px t:=rfl
theorem Qe {f i:Nat} :(E.skip j).fl f i=E.fl f i:=rfl
theorem LY {t:Nat} :(E.skip j).emp t=E.emp t:=rfl
theorem LZ {f i:Nat} :(E.skip j).uR f i=match Nat.beq i j with|true=>false|false=>E.uR f i:=rfl
theorem Qf {f:Nat} {xs:List (Sigma Ty.den)} {T:Ty} {r:T.den} :PC (E.skip j) f xs T r=PC E f xs T r:=rfl
theorem Qg {f:Nat} {xs:List (Sigma Ty.den)} {T:Ty} {Y:T.den→Prop} :PN (E.skip j) f xs T Y=PN E f xs T Y:=rfl
theorem Qh {f:Nat} {args:List PV} {bl bl':List (Nat×aO)} {p:PV} :HC (E.skip j) f args bl p bl'=HC E f args bl p bl':=rfl
theorem Qi {f:Nat} {args:List PV} {bl:List (Nat×aO)} {T:Ty} {Y:T.den→Prop} {p:T.den→PV} {bl':T.den→List (Nat×aO)} :HN (E.skip j) f args bl T Y p bl'=HN E f args bl T Y p bl':=rfl
theorem Qj {f:Nat} {xs:List (Sigma Ty.den)} :XC (E.skip j) f xs=XC E f xs:=rfl
theorem Qk {f:Nat} {args:List PV} {bl bl':List (Nat×aO)} :XH (E.skip j) f args bl bl'=XH E f args bl bl':=rfl
theorem Fs {G:Goal} {k:List WI} {s:St} :ao (E.skip j) G k s=ao E G k s:=rfl
end
attribute[go_sem]Wt P6 LS LU P7 LV LW P8 P9 Qa Qb Qc IK LX Qd Qe LY LZ Qf Qg Qh Qi Qj Qk Fs
theorem ze(j:Nat) {E:Env} (hE:aI E) {G:Goal} (hG:sj E G)(m:Nat)(todo:List WI)(s:St)(ck:vR (E1 (E.skip j) G.f Lf (m8 (E.skip j)) wo) G.n todo=true)(h:PW (E.skip j) G m todo s):ao E G todo s:=aw (E:=E.skip j) (hE.skip j) ⟨hG.1⟩ m todo s ck h
theorem ao.Ue {E:Env} {G:Goal} {todo:List WI} {s:St} (sl:List (Nat×PV))(bl:List (Nat×aO))(h: ∀b1 b2,na (sl.map (·.1)) s.sl=b1→nb (keys bl) s.bl=b2→Le s ⟨sl++b1,bl++b2⟩∧ao E G todo ⟨sl++b1,bl++b2⟩):ao E G todo s:=ao.weaken (h _ _ rfl rfl).1 (h _ _ rfl rfl).2
end Go.Proofs.Ytefpgfdemmllpaa
namespace Go.Proofs.Ytefpgfdemmllpaa
attribute[go_sem]Pc V4 V5 Pe Pf Pg V0 Pd LB V1 V3 LC ID IE LD V6 Ph Pj Pk ae8 ae9 af0 af1 LG LH LI au8 au9 V7 Pn IH II Po V8 V9 IJ Pp Wa Wb Pq Py LN Pz PA We cZ uy Cp vW lH List.toList_toArray ej bU made EW cz before dR qE bt bG mZ ai St.ev St.get St.set St.put look aj lk av3 av4 av5 pS iG xS F8 oJ jx oK mG jy JZ dep jv fp arith Ga mu HQ u5 u4 Em TO aa9 beq_self_eq_true St.cL cx iT Wm Wn Wo Fq Cg KX ad4 tk Ce At KW ux vP vB Ot HL fv exp pk iS pT mE gd mw uS yr uT Ty.eq Ty.cast b7 cS xU xT lC nA F9 lJ jA Ei J3 Ej kO zY eK Ty.F7 uZ cut j4 cy fJ lE bound kD mi uU mH xV yu uW lG yv jz pW eQ r3 uY mK rZ Ou pU iR mpZ Eh TN St.eT mI J2 U3 uX oM lI mJ reach JY cI fwd idxOf PV.ids PV.iX PV.D6 PV.jY PV.fE PV.fY ov iJ dY bm iU mh U2 bY kC join part widens cellsOf Ty.val PV.cells ju zeroCells de Ty.cells Ty.flat Ty.ok aL PV.iI PV.ct PV.refs PV.en PV.kill PV.gI PV.aP PV.gh ou aO.map s6 dB St.kill St.aP keys OX Aw N6 P0 List.map List.take List.drop List.headD List.append List.length List.cons_append List.nil_append Option.bind cond_true cond_false Bool.not_true Bool.not_false Bool.and_true Bool.true_and Bool.and_false Bool.false_and Bool.false_or Bool.or_false Bool.true_or Bool.or_true true_implies Option.some.injEq decide_true decide_false decide_eq_true_eq decide_eq_false_iff_not Nat.add_zero Nat.zero_add Int.toNat_natCast Nat.lt_irrefl and_true true_and or_false or_true true_or false_or Decidable.not_not Wp Wq PF PG PR PT PU max_i64 Wr Ws PY PZ P1 P2 P3 P4 Int.cast_ofNat_Int Int.toNat_zero Int.toNat_one Int.le_refl and_self lF J1 HO nB J0 TM Fg oL lB uV N4 GF Cd GG looks Ar vN stG vO ku P5 na nb nub KV EX EY T5 um zX af4 Wf Wg af5 Wh Wi af6 af7 af8 af9 ag0 Wj ag1 ag2 Wk Wl ag3 ag4 ag5 ag6 ag7 LO LF au6 au7 eM jQ qG ya T6 Cf s7 lV KZ KY HM yt IG Gb av1 av2 af2 af3 Wc Ps Wd Pv Pu Pw LK Px LL LM iq fg O2 PE IF HNQ ae7 aM1 aL5 aN1 aN2 aK9
end Go.Proofs.Ytefpgfdemmllpaa
namespace Go.Proofs.Ytefpgfdemmllpaa
open Go Go.ChangeShapes Go.WideShapes Go.RowKit
set_option maxHeartbeats 1000000
def ec:Ty→Bool|.int _=>true|.bool=>true|.str=>true|.sl t=>ec t|.pair a b=>ec a&&ec b|.st t=>ec t|.unit=>false|.own _=>false|.bk _ _=>false|.ptr _=>false|.iF _ _=>false|.mp _ _=>false|.ba=>false
theorem cq.cellsOf {E:Env} {t:Nat} {T:Ty} (h:cq E t T):E.P.cellsOf t=T.cells:=by obtain⟨i,hi,cP,_⟩:=h.info;simp[Program.cellsOf,hi,cP]
theorem add_zero(a:Addr):a.add 0=a:=by simp[Addr.add]
theorem CM(g o k:Nat):(⟨g,o,none⟩:Addr).add k=⟨g,o+k,none⟩:=by unfold Addr.add;split;(·rename_i h;(have:k=0:=by simpa using h);subst this;rfl);·rfl
theorem sD {ty:Nat→Option Ty} {t:Nat} {T:Ty} (h:mN ty t T=true):ty t=some T:=by unfold mN at h;split at h;(·rename_i U hU;rw[hU,Ty.cJ h]);·cases h
theorem CN {α:Type} {p:Nat→α→Prop} : ∀n:Nat,(∀i,i<n→ ∃a,p i a)→ ∃l:List α,l.length=n∧ ∀i y,l[i]?=some y→p i y:=by
 intro n;induction n with|zero=>intro _;exact⟨[],rfl,fun i y h=>by simp at h⟩|succ n ih=>intro h;obtain⟨l,hl,hp⟩:=ih fun i hi=>h i (by omega);obtain⟨a,ha⟩:=h n (by omega);refine⟨l++ [a],by simp[hl],fun i y hy=>?_⟩;by_cases hi:i<n;(·rw[List.getElem?_append_left (by omega)]at hy;exact hp i y hy);·rw[List.getElem?_append_right (by omega),hl]at hy;by_cases e:i=n;(·subst e;simp at hy;subst hy;exact ha);·rw[List.getElem?_eq_none (by simp;omega)]at hy;cases hy
section
variable {H:Type} {enc:TypeId×Value→H} {E:Env} {w:World} {M:Mem}
theorem IL {V:Ty} {cs:List Value} : ∀(n i:Nat),(∀k,k<n+1→ ∃y,aB V y w M ((cs.drop ((i+k)*V.cells)).take V.cells))→ ∃y:(rowOf V (n+1)).den,aB (rowOf V (n+1)) y w M ((cs.drop (i*V.cells)).take ((n+1)*V.cells)):=by
 intro n;induction n with|zero=>intro i h;obtain⟨y,hy⟩:=h 0 (by omega);exact⟨y,by simpa[rowOf]using hy⟩|succ n ih=>intro i h;obtain⟨y,hy⟩:=h 0 (by omega);(obtain⟨z,hz⟩:=ih (i+1) fun k hk=>by have:=h (k+1) (by omega);rwa[show i+(k+1)=i+1+k by omega]at this);refine⟨(y,z),_,_,?_,hy,hz⟩;rw[show(n+1+1)*V.cells=V.cells+(n+1)*V.cells by rw[Nat.add_mul (n+1) 1,Nat.one_mul,Nat.add_comm],List.take_add,List.drop_drop];rw[show(i+1)*V.cells=i*V.cells+V.cells by rw[Nat.add_mul,Nat.one_mul]];rfl
theorem CO {V:Ty} : ∀n:Nat,ec (rowOf V (n+1))=true→ec V=true:=by
 intro n;cases n with|zero=>intro h;exact h|succ n=>intro h;have h:(ec V&&ec (rowOf V (n+1)))=true:=h;rw[Bool.and_eq_true]at h;exact h.1
theorem Ft {cs:List Value} {rd:Nat→List Value→Prop} (CD: ∀t T c,E.ty t=some T→ec T=true→rd t c→ ∃y,aB T y w M c)(hE:aI E): ∀(fs:List Field)(R:Ty)(off:Nat),bA E.ty fs R off=true→ec R=true→(∀f,f∈fs→rd f.type ((cs.drop f.offset).take (E.P.cellsOf f.type)))→ ∃y:R.den,aB R y w M ((cs.drop off).take R.cells):=by
 intro fs;induction fs with|nil=>intro R off h;cases h|cons f fs ih=>intro R off h hp hf;cases fs with|nil=>simp only[bA,Bool.and_eq_true]at h;have ht:=sD h.1.1.1.2;have hc:=(hE.facts ht).cellsOf;have ho:=Nat.eq_of_beq_eq_true h.1.1.1.1;have:=hf f (List.mem_cons_self ..);rw[hc,ho]at this;exact CD _ _ _ ht hp this|cons g fs=>cases R with|pair a b=>simp only[bA,Bool.and_eq_true]at h;have ht:=sD h.1.1.1.1.2;have hc:=(hE.facts ht).cellsOf;have ho:=Nat.eq_of_beq_eq_true h.1.1.1.1.1;simp only[ec,Bool.and_eq_true]at hp;have h0:=hf f (List.mem_cons_self ..);rw[hc,ho]at h0;obtain⟨y,hy⟩:=CD _ _ _ ht hp.1 h0;obtain⟨z,hz⟩:=ih b (off+a.cells) h.2 hp.2 fun f' Gj=>hf f' (List.mem_cons_of_mem _ Gj);refine⟨(y,z),_,_,?_,hy,hz⟩;show(cs.drop off).take (a.cells+b.cells)=_;rw[List.take_add,List.drop_drop]|_=>simp[bA]at h
theorem L1(hE:aI E)(hM: ∀g,g<w.heap.size→M.S g): ∀(n t:Nat)(T:Ty)(cs:List Value)(x:DataW H×List MemPlace),E.ty t=some T→ec T=true→DataW.trod enc E.P w 0 (fun _=>true) true n t cs=some x→ ∃y:T.den,aB T y w M cs:=by
 intro n;induction n with|zero=>intro t T cs x _ _ h;simp[DataW.trod]at h|succ n ih=>intro t T cs x ht hp h;have hF:=hE.facts ht;obtain⟨d,hd,hs⟩:=hF.ow;cases T with|int l=>cases d<;>simp only[cK,Bool.false_eq_true]at hs;have:=dI hs;subst this;obtain⟨m,rfl,_,hw⟩:=DataW.trod_int hd h;simp only[Lit.wf,Bool.and_eq_true,decide_eq_true_eq]at hw;exact⟨m,rfl,hw.1,hw.2⟩|bool=>cases d<;>simp only[cK,Bool.false_eq_true]at hs;obtain⟨b,rfl,_⟩:=DataW.trod_bool hd h;exact⟨b,rfl⟩|str=>cases d<;>simp only[cK,Bool.false_eq_true]at hs;obtain⟨s,rfl,_,hw⟩:=DataW.trod_string hd h;refine⟨s.data.toList,?_,?_⟩;(·rfl);(·(have:s.data.toList.length≤maxLen:=by simpa using hw);simpa[maxLen]using this)|sl U=>cases d<;>simp only[cK,Bool.false_eq_true]at hs;rename_i e;simp only[Bool.and_eq_true]at hs;have TT:=sD hs.1.1;have yP:=(hE.facts TT).cellsOf;have my:1≤U.cells:=Nat.le_of_ble_eq_true hs.2;rcases DataW.trod_slice hd h with⟨rfl,_⟩|⟨a,len,cap,elems,rest,m,hm,rfl,_,_,hl,oN,hlen,Vj,_⟩;(·exact⟨[],none,0,rfl,Nat.le_refl _,by decide,Or.inl rfl⟩);(·injection hm with hm;subst hm;obtain⟨ys,mB,cE⟩:=CN (p:=fun i y=> ∃BL,BL.length=U.cells∧w.cells? 0 (a.add (i*U.cells)) U.cells=some BL∧aB U y w M BL) len (fun i hi=>by have s8:=Vj i hi;rw[List.getElem?_eq_getElem (by omega)]at s8;obtain⟨BL,h1,h2⟩:=Option.bind_eq_some_iff.1 s8;rw[yP]at h1;obtain⟨y,hy⟩:=ih e U BL _ TT hp h2;exact⟨y,BL,(World.cells?_some h1).2.1,h1,hy⟩);(have Uf:cap≤9223372036854775807:=by simpa[maxLen]using oN);cases ys with|nil=>exact⟨[],some a,cap,by simp at mB;simp[mB],by simp,Uf,Or.inl rfl⟩|cons y0 ys=>obtain⟨c0,mn,hw0,_⟩:=cE 0 y0 rfl;have dT:=(World.cells?_some hw0).2.2 0 (by omega);rw[Nat.zero_mul,add_zero,add_zero]at dT;obtain⟨v0,hv0⟩: ∃v,c0[0]?=some v:=⟨_,List.getElem?_eq_getElem (by omega)⟩;rw[hv0]at dT;obtain⟨g,o,sp⟩:=a;(have x5:g<w.heap.size∧sp=none:=by simp only[World.cell?]at dT;split at dT;(·rename_i c _ _ hh;refine⟨(Array.getElem?_eq_some_iff.1 hh).1,?_⟩;cases sp with|none=>rfl|some _=>simp at dT);·cases dT);obtain⟨hg,rfl⟩:=x5;refine⟨y0::ys,some ⟨g,o,none⟩,cap,by rw[mB],by rw[mB];exact hl,Uf,Or.inr ⟨g,o,rfl,hM g hg,fun i y hy=>?_⟩⟩;obtain⟨BL,h1,h2,h3⟩:=cE i y hy;refine⟨BL,h1,fun j v hj=>?_,h3⟩;(have N7:j<U.cells:=by rw[←h1];exact(List.getElem?_eq_some_iff.1 hj).1);have:=(World.cells?_some h2).2.2 j N7;rw[hj]at this;rw[CM,CM,Nat.add_assoc]at this;rw[←Nat.add_assoc]at this;exact this)|st R=>cases d<;>simp only[cK,Bool.false_eq_true]at hs;(case struct fs=>obtain⟨xs,m,hm,_,hlen,Ew,hf⟩:=DataW.trod_struct hd h;injection hm with hm;subst hm;obtain⟨y,hy⟩:=Ft (cs:=cs) (M:=M) (w:=w) (rd:=fun t c=> ∃x,DataW.trod enc E.P w 0 (fun _=>true) true n t c=some x) (fun t T c h1 h2⟨x,h3⟩=>ih t T c x h1 h2 h3) hE fs.toList R 0 hs hp (fun f Gj=>by obtain⟨i,hi⟩:=List.getElem?_of_mem Gj;have h1:=hf i f (by simpa using hi);(have JO:i<fs.size:=by simpa using(List.getElem?_eq_some_iff.1 hi).1);rw[List.getElem?_eq_getElem (by omega)]at h1;exact⟨_,h1⟩);refine⟨y,?_⟩;(have fZ:cs.length=R.cells:=by rw[hlen,hF.cellsOf];rfl);rw[List.drop_zero,←fZ,List.take_length]at hy;exact hy);(case array k e=>split at hs;(·rename_i V hV;simp only[Bool.and_eq_true]at hs;have hR:=Ty.cJ hs.1.1.1;have hk:2≤k:=Nat.le_of_ble_eq_true hs.2;obtain⟨k,rfl⟩: ∃j,k=j+1:=⟨k-1,by omega⟩;subst hR;obtain⟨xs,m,hm,_,hlen,Ew,hf⟩:=DataW.trod_array hd h;injection hm with hm;subst hm;have yP:=(hE.facts hV).cellsOf;obtain⟨y,hy⟩:=IL (V:=V) (cs:=cs) (w:=w) (M:=M) k 0 (fun i hi=>by have h1:=hf i hi;rw[List.getElem?_eq_getElem (by omega),yP]at h1;rw[Nat.zero_add];exact ih e V _ _ hV (CO k hp) h1);refine⟨y,?_⟩;(have fZ:cs.length=(k+1)*V.cells:=by rw[hlen,hF.cellsOf];exact mS V (k+1));rw[Nat.zero_mul,List.drop_zero,←fZ,List.take_length]at hy;exact hy);·cases hs)|pair a b=>simp[cK]at hs|_=>simp[ec]at hp
theorem Fu: ∀T:Ty,ec T=true→aL T=0:=by
 intro T;induction T with|pair a b gE fK=>intro h;simp only[ec,Bool.and_eq_true]at h;simp[aL,gE h.1,fK h.2]|st t ih=>intro h;exact ih h|sl t ih=>intro h;exact ih h|int k=>intro _;rfl|bool=>intro _;rfl|str=>intro _;rfl|_=>intro h;simp[ec]at h
theorem Ql {b0:Nat} {t:Nat} {T:Ty} {v:Value} {y:T.den} (hE:aI E)(ht:E.ty t=some T)(hp:ec T=true)(hv:Value.okWide E.P w .any b0 t v)(h:aB T y w M v.cells.toList):cH T y w M v:=by
 obtain⟨d,hd,hs⟩:=(hE.facts ht).ow;(have one:(∀cs,v≠ .agg cs)→v.cells.toList=[v]:=by intro hn;cases v<;>first|rfl|exact absurd rfl (hn _));cases T with|int l=>cases d<;>simp only[cK,Bool.false_eq_true]at hs;obtain⟨n,rfl⟩:=okWide_int hd hv;exact h|bool=>cases d<;>simp only[cK,Bool.false_eq_true]at hs;obtain⟨n,rfl⟩:=okWide_bool hd hv;exact h|str=>cases d<;>simp only[cK,Bool.false_eq_true]at hs;(have:v.cells.toList=[v]:=one fun cs e=>by subst e;simp[Value.okWide,hd,Cell.okWide,Cell.ok]at hv);rw[this]at h;exact h|sl U=>cases d<;>simp only[cK,Bool.false_eq_true]at hs;obtain⟨a,len,cap,rfl⟩:=okWide_slice hd hv;exact h|st R=>(have: ∃cs,v= .agg cs:=by cases d<;>simp only[cK,Bool.false_eq_true]at hs;(·simp only[Value.okWide,hd]at hv;obtain⟨cs,e,_⟩:=hv;exact⟨cs,e⟩);·simp only[Value.okWide,hd]at hv;obtain⟨cs,e,_⟩:=hv;exact⟨cs,e⟩);obtain⟨cs,rfl⟩:=this;exact⟨cs.toList,by simp,h⟩|pair a b=>simp[cK]at hs|_=>simp[ec]at hp
theorem L2 {b0:Nat} (hE:aI E)(hM: ∀g,g<w.heap.size→M.S g): ∀(ts:List Nat)(Ts:List Ty)(vs:List Value)(ds:List (DataW H))(ps:List MemPlace),ts.map E.ty=Ts.map some→Ts.all ec=true→DataW.TrodAll enc E.P w 0 (fun _=>true) true ts vs ds ps→(∀(j:Nat)t v,ts[j]?=some t→vs[j]?=some v→Value.okWide E.P w .any b0 t v)→ ∃xs:List (Sigma Ty.den),xs.map (·.1)=Ts∧mj w M xs vs∧ds.length=ts.length:=by
 intro ts;induction ts with|nil=>intro Ts vs ds ps h1 _ h3 _;obtain⟨rfl,rfl,rfl⟩:=trodAll_nil h3;(cases Ts with|nil=>exact⟨[],rfl,rfl,rfl⟩|cons T Ts=>simp at h1)|cons t ts ih=>intro Ts vs ds ps h1 h2 h3 h4;obtain⟨v,vs,d,ds,p,q,rfl,rfl,rfl,hd,hr⟩:=trodAll_cons h3;cases Ts with|nil=>simp at h1|cons T Ts=>simp only[List.map_cons,List.cons.injEq]at h1;simp only[List.all_cons,Bool.and_eq_true]at h2;obtain⟨xs,e1,e2,e3⟩:=ih Ts vs ds q h1.2 h2.2 hr fun j t' v' a b=>h4 (j+1) t' v' a b;obtain⟨n,hn⟩:=hd;obtain⟨y,hy⟩:=L1 hE hM n t T _ _ h1.1 h2.1 hn;exact⟨⟨T,y⟩::xs,by rw[List.map_cons,e1],⟨v,vs,rfl,Fu T h2.1,Ql hE h1.1 h2.1 (h4 0 t v rfl rfl) hy,e2⟩,by simp[e3]⟩
theorem yc {P:Program} (hl:laidOutB P=true) {w w':World} (hb:Below w.heap.size w w'): ∀(ts:List Nat)(vs:List Value)(ds:List (DataW H))(ps:List MemPlace),(∀t,t∈ts→P.readableRec t=true∧t<P.types.size)→DataW.TrodAll enc P w 0 (fun _=>true) true ts vs ds ps→(∀x∈ps,x.block<w.heap.size)→DataW.TrodAll enc P w' 0 (fun b=>decide (b<w.heap.size)) true ts vs ds ps:=by
 intro ts;induction ts with|nil=>intro vs ds ps _ h _;obtain⟨rfl,rfl,rfl⟩:=trodAll_nil h;rfl|cons t ts ih=>intro vs ds ps hr h cM;obtain⟨v,vs,d,ds,p,q,rfl,rfl,rfl,hd,hq⟩:=trodAll_cons h;have ht:=hr t (List.mem_cons_self ..);exact⟨p,q,Below.trod hl ht.1 ht.2 hd hb (fun x hx=>cM x (List.mem_append.mpr (Or.inl hx))),ih vs ds q (fun t' h'=>hr t' (List.mem_cons_of_mem _ h')) hq (fun x hx=>cM x (List.mem_append.mpr (Or.inr hx))),rfl⟩
theorem IM(hE:aI E) {f:Nat} {fn:Func} {s:ChangeSpec} {apart fresh handsOn:Bool} {Ts:List Ty} {tb b0:Nat} (hl:laidOutB E.P=true)(ag9: ∀t,t∈fn.params.toList→E.P.readableRec t=true∧t<E.P.types.size)(hts:fn.params.toList.map E.ty=Ts.map some)(xM:Ts.all ec=true)(EK:fn.resultTypes= #[tb])(htb:E.P.underlying tb=some .bool)(Ug:s.vars=[])(db: ∀(ds:List (DataW H)),ds.length=fn.params.toList.length→s.fn H ds= { results:=[.lit (.bool true)],args:=ds })(KP: ∀xs:List (Sigma Ty.den),xs.map (·.1)=Ts→PC E f xs .bool true) {W:World} (hT:tV W fun g=>g<W.heap.size) {args:Array Value} {ds gs:List (DataW H)} {before:List MemPlace} (og: ∀(j:Nat)t v,fn.params[j]?=some t→args[j]?=some v→Value.okWide E.P W .any b0 t v)(hW:DataW.Whole enc E.P fn.params.toList s.vars apart W args.toList ds gs before):Calls E.P f args W fun e W'=> ∃v,e= .returned v∧s.post enc E.P fn apart fresh handsOn false W args v W':=by
 have Cb:=hW;obtain⟨p,q,hA,hV,rfl,hfz,oS⟩:=hW;rw[Ug]at hV;obtain⟨rfl,rfl⟩:=trodVars_none hV;obtain⟨xs,e1,e2,e3⟩:=L2 (M:=⟨fun g=>g<W.heap.size,fun g=>W.heap.size≤g⟩) (b0:=b0) hE (fun g h=>h) _ Ts _ _ _ hts xM hA (fun j t v h1 h2=>og j t v (by simpa using h1) (by simpa using h2))
 have hc:=KP xs e1 W (fun g=>g<W.heap.size) args.toList (fun b h=>h) hT e2;rw[Array.toArray_toList]at hc;refine hc.mono fun e W'⟨v,he,hp⟩=>?_;obtain⟨⟨hb,_⟩,S',_,_,_,hr⟩:=hp
 (have hv:v= .bool true:=by simp only[lz,cH,aB,List.cons.injEq,and_true]at hr;exact hr);subst hv;refine⟨_,he,ds,[],p++ [],[],p,[],Cb,?_,?_,?_,hb.frame _,fun h=>by cases h⟩
 (·rw[List.append_nil,db ds e3,EK];exact trodAll_mk1 ⟨1,by simp[DataW.trod,htb,Value.cells]⟩);(·rw[List.append_nil,db ds e3];exact yc hl hb _ _ _ _ ag9 hA fun x hx=>by simpa using Cb.lt x (by simpa using hx))
 ·rw[Ug,List.append_nil,db ds e3];rfl
end
end Go.Proofs.Ytefpgfdemmllpaa
