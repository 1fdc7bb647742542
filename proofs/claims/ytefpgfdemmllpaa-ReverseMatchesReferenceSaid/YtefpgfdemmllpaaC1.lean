/- Contracts: made schemes. Nothing here is trusted; no condition. -/
import Derived.Test.YtefpgfdemmllpaaA9
import Derived.Test.YtefpgfdemmllpaaProg
set_option linter.unusedSimpArgs false
set_option linter.unusedVariables false
open Nat renaming reduceBEq→zA,reduceAdd→zB,reduceSub→zC,reduceMul→zD,reduceLeDiff→zE
open Int renaming reduceLT→zF,reduceLE→zG,reduceToNat→zH,reduceNeg→zI
namespace Go.Proofs.Ytefpgfdemmllpaa
theorem bM {α:Sort _} {x:α} {B C:Prop} (h:C):(x=x∨B)∧C:=⟨.inl rfl,h⟩
theorem bN {α:Sort _} {x:α} {A B C:Prop} (h:C):(A∨x=x∨B)∧C:=⟨.inr (.inl rfl),h⟩
theorem bO {α β:Sort _} {x:α} {y:β} {A B D C:Prop} (h:C):(A∨B∨D∨x=x∧y=y)∧C:=⟨.inr (.inr (.inr ⟨rfl,rfl⟩)),h⟩
theorem bP {α β:Sort _} {x:α} {y:β} {A B D C:Prop} (h:C):(A∨B∨(x=x∧y=y∧True)∨D)∧C:=⟨.inr (.inr (.inl ⟨rfl,rfl,trivial⟩)),h⟩
end Go.Proofs.Ytefpgfdemmllpaa
namespace Go.Proofs.Ytefpgfdemmllpaa
set_option maxRecDepth 100000
abbrev jf:Ty:=(.st (.pair (.int .i64) (.pair (.int .i64) (.pair .bool (.int .u8)))))
abbrev dX:Ty:=(.st (.pair .str (.int .u64)))
abbrev eF:Ty:=(.st (.pair (.sl (.int .u8)) (.pair (.sl (.int .u8)) (.pair (.int .u8) (.pair (.int .u8) (.int .u8))))))
abbrev iO:Ty:=(.st (.pair (.int .u8) (.pair (.int .u8) (.sl eF))))
abbrev bd:Ty:=(.st (.pair (.int .i64) (.pair (.int .i64) (.pair .str (.pair .str (.int .i64))))))
abbrev al:Ty:=(.st (.pair (.int .i64) (.pair (.int .u8) (.sl bd))))
abbrev bK:Ty:=(.st (.pair .str (.int .i64)))
abbrev iP:Ty:=(.st (.pair (.int .i64) (.int .i64)))
abbrev RunT:Ty:=(.st (.pair .str (.pair .str (.pair (.int .i64) (.pair (.int .i64) .bool)))))
abbrev gM:Ty:=(.st (.pair (.int .i64) (.pair (.int .i64) (.int .u8))))
abbrev er:Ty:=(.st (.pair gM (.int .i64)))
abbrev bu:Ty:=(.st (.pair (.int .i64) (.int .i64)))
abbrev fS:Ty:=(.st (.pair bu .bool))
abbrev fD:Ty:=(.st (.pair al (.pair .str (.mp er fS))))
abbrev aX:Ty:=(.st (.pair gM .str))
abbrev aM:Ty:=(.st (.pair (.sl (.int .u8)) (.pair .bool (.pair bu (.mp aX (.int .i64))))))
abbrev az:Ty:=(.st (.pair (.int .i64) (.pair (.int .i64) (.int .i64))))
abbrev gr:Ty:=(.st (.pair al (.pair .str (.pair .str (.mp az bu)))))
abbrev ud:Ty:=(.st (.pair (.sl (.int .i64)) (.pair (.int .i64) .bool)))
abbrev k7:Ty:=(.st (.pair .str .str))
abbrev k8:Ty:=(.st (.pair (.int .i64) (.pair (.int .i64) (.int .i64))))
abbrev qW:Ty:=(.st (.pair (.ptr .unit) (.sl (.int .u8))))
abbrev uE:Ty:=(.st (.pair al (.pair .str (.sl bK))))
def Ln:List (Nat×Ty):=[(1,.ba),(2,(.int .i64)),(3,(.int .i64)),(4,.bool),(5,(.int .u8)),(6,(.int .u8)),(7,jf),(8,jf),(9,.str),(10,.str),(11,.str),(12,(.int .u64)),(13,dX),(14,dX),(21,(.int .i32)),(22,(.sl eF)),(23,iO),(24,iO),(25,(.sl (.int .u8))),(26,(.int .i8)),(27,(.st (.pair (.int .i8) (.int .i8)))),(28,.ba),(29,(.sl bd)),(30,al),(31,al),(32,.ba),(33,.ba),(34,(.sl bK)),(35,(.int .i64)),(37,.ba),(39,.ba),(40,(.sl (.int .i64))),(42,.ba),(43,.ba),(44,.ba),(45,bK),(46,bK),(47,.ba),(49,.ba),(50,(.st (.pair (.int .i64) (.int .i64)))),(51,(.sl iP)),(52,RunT),(53,RunT),(54,.ba),(55,iP),(56,iP),(57,.ba),(58,.ba),(59,.ba),(60,(.st (.pair (.int .u8) (.int .u8)))),(61,.ba),(62,eF),(63,eF),(64,bd),(65,bd),(66,.ba),(67,.ba),(68,.ba),(69,(.st (.pair .str .str))),(70,.ba),(71,.ba),(73,.ba),(74,(.ptr fD)),(75,(.mp er fS)),(76,fD),(77,fD),(78,(.ptr aM)),(79,gM),(80,gM),(81,aX),(82,aX),(83,(.mp aX (.int .i64))),(84,bu),(85,bu),(86,aM),(87,aM),(88,.ba),(89,(.sl (.ptr aM))),(90,(.sl (.ptr aM))),(91,.ba),(93,.ba),(95,.ba),(96,.ba),(97,.ba),(98,.ba),(99,(.ptr gr)),(100,(.mp az bu)),(101,gr),(102,gr),(104,az),(105,az),(106,.ba),(107,ud),(108,ud),(109,.ba),(110,k7),(111,k7),(112,k8),(113,k8),(115,.ba),(116,(.ptr .unit)),(117,qW),(118,qW),(122,.ba),(123,.ba),(124,.ba),(125,(.sl .bool)),(126,.ba),(127,.ba),(128,(.sl aX)),(130,.ba),(131,.ba),(132,fS),(133,fS),(134,.ba),(135,.ba),(136,.ba),(139,.ba),(140,.ba),(141,.ba),(142,.ba),(143,.ba),(144,.ba),(145,.ba),(147,uE),(148,uE),(149,.ba),(150,.ba),(152,.ba),(153,.ba),(154,.ba),(155,.ba),(157,.ba),(158,.ba),(159,.ba),(160,(.mp (.int .i64) (.sl (.int .i64)))),(161,.ba),(162,.ba),(163,.ba),(164,.ba),(165,.ba),(167,er),(168,er),(170,.ba),(171,.ba),(172,.ba),(173,.ba),(175,.ba),(176,.ba),(182,(.int .u32)),(183,(.int .u8)),(184,(.int .u8)),(185,.ba),(186,(.int .i32)),(187,(.int .i32))]
def strs:List Nat:=[7,8,13,14,23,24,30,31,45,46,52,53,55,56,62,63,64,65,76,77,79,80,81,82,84,85,86,87,101,102,104,105,107,108,110,111,112,113,117,118,132,133,147,148,167,168]
def Fi:List Nat:=[7,8,27,45,46,50,52,53,55,56,60,64,65,69,79,80,81,82,84,85,104,105,110,111,112,113,132,133,167,168]
def fns:List (Nat×(List Ty×Ty)):=[(2,([],.unit)),(3,([iO,(.sl (.int .u8)),(.st (.pair (.int .i8) (.int .i8)))],.bool)),(4,([iO,(.sl (.int .u8))],.bool)),(5,([iO,(.sl (.int .u8)),(.st (.pair (.int .u8) (.int .u8)))],.bool)),(6,([iO,(.sl (.int .u8)),eF],.bool)),(7,([iO,.str,(.st (.pair .str .str))],.bool)),(8,([iO,(.sl (.int .u8))],.bool)),(9,([],.bool)),(10,([iO],al)),(11,([(.sl (.int .u8)),(.int .i64)],.str)),(12,([al,.str,(.int .i64)],(.bk (.sl bK) (.int .i64)))),(13,([al,.str,(.int .i64)],(.bk (.sl bK) (.int .i64)))),(14,([al,.str],(.bk .str (.bk (.int .i64) (.int .i64))))),(15,([(.sl (.int .u8)),(.int .i64)],.str)),(16,([al,.str,.str],(.bk (.sl (.int .i64)) (.int .i64)))),(17,([al,.str,.str],(.bk (.sl (.int .i64)) (.int .i64)))),(18,([(.sl bK),(.sl bK)],.bool)),(19,([(.sl (.int .i64)),(.sl (.int .i64))],.bool)),(20,([al,(.st (.pair (.int .i64) (.int .i64))),(.sl (.int .u8))],(.bk (.sl (.int .i64)) (.int .i64)))),(21,([al,(.sl (.int .i64))],RunT)),(22,([al,(.int .i64)],.bool)),(23,([bK,bK],.bool)),(24,([eF,(.int .i64)],bd)),(25,([al],.bool)),(26,([.str],.bool)),(27,([.str],.bool)),(28,([al,(.sl (.int .i64))],RunT)),(29,([iO],al)),(30,([.str],.bool)),(31,([al],.bool)),(32,([al],(.bk al (.sl (.int .i64))))),(39,([al,.str],(.sl bK))),(40,([.str],.bool)),(43,([al,k7,k8],ud)),(44,([al],(.bk (.int .i64) (.int .i64)))),(45,([.str],.bool)),(46,([.str],.bool)),(50,([al,(.int .i64)],.bool)),(51,([.str],.bool)),(52,([al],(.bk (.int .i64) (.int .i64)))),(53,([al],(.sl .bool))),(54,([al],(.sl .bool))),(55,([al,bd],.bool)),(56,([(.ptr fD),gM,bd],(.bk gM .bool))),(59,([bu,bu],bu)),(60,([bu,bu],.bool)),(62,([(.ptr fD),gM],.bool)),(65,([.str],.bool)),(66,([al,(.int .i64)],.bool)),(68,([(.ptr gr),az,bd],(.bk az .bool))),(69,([.str,(.int .i64),.str],.bool)),(70,([ud,ud],.bool)),(71,([(.int .i64),(.int .i64),(.int .i64)],.bool)),(73,([(.st (.pair (.int .i64) (.int .i64))),.str,.str],bd)),(74,([.str],.bool)),(75,([(.int .i64),bd],.bool)),(76,([(.sl bd),bd],.bool)),(78,([al],(.mp (.int .i64) (.sl (.int .i64))))),(81,([al,(.int .i64)],.bool)),(82,([al,(.int .i64)],.bool)),(83,([.str,.str],.bool)),(85,([(.sl iP),iP],.bool)),(86,([(.int .u8)],(.int .i64))),(88,([(.sl bd),bd],(.int .i64))),(90,([.str,.str],.bool)),(113,([(.ptr .unit)],(.int .i64)))]
def Iq:List (Nat×List (Option Ty)):=[(33,[none,none]),(34,[none,none]),(35,[none]),(36,[none,some (.ptr aM)]),(37,[none,none]),(38,[none,some (.ptr aM)]),(41,[none]),(42,[none,some az,some (.sl (.int .i64))]),(47,[none,some .str]),(48,[none]),(49,[some (.int .u8)]),(57,[none,some aX,some (.int .i64)]),(58,[none,some gM,some (.int .i64)]),(61,[none,some (.int .i64),some (.int .i64)]),(63,[none,some (.int .i64)]),(64,[none,some (.sl iP),some .str,some (.int .i64)]),(67,[none,some az]),(72,[none]),(77,[some al]),(79,[some (.int .i64),none]),(80,[some (.int .i64),none,none,none,none]),(84,[none,some .str,some (.int .i64)]),(89,[some (.int .i64),none,none]),(108,[none]),(109,[none,some (.int .i64),some (.int .i64)]),(110,[none,some (.int .i64),some (.int .i64)]),(111,[none]),(112,[none,none])]
def ah0:List (Nat×Nat):=[(75,168),(83,82),(100,105),(160,3)]
noncomputable def env:Env:=Uc Try.prog Ln strs Fi fns Iq ah0 [(29,29),(1032,29),(25,29),(1028,29),(100,51),(1101,51),(72,40),(1073,40)] true [118] [(25,5)] [58,33,34,38,61,41] [78,94] [] [((6,3),[[0,1,2,3,5,6,4,7,8,9,10],[0,1,2,3,5,6,4,9,7,8,10],[0,1,2,3,5,6,9,4,7,8,10]]),((33,15),[[],[8]]),((34,5),[[0,1,2,3,4,5,6,7,8,9,10,11,12,13,14,15],[0,1,2,3,4,5,6,7,8,9,10,11,12,14,13,15]]),((38,10),[[],[8]]),((12,17),[[],[13]]),((41,4),[[],[17]]),((67,12),[[],[6]]),((10,7),[[],[8]]),((42,11),[[2,3,4,5,6,8,0,1,7,9,10,11,12],[2,3,4,5,6,8,0,1,9,7,10,11,12]]),((64,10),[[0,1,2,5,6,7,8,9,10,11,12,3,4,13]])] [] [(12,10),(12,11),(38,15),(38,16),(38,17),(36,7),(37,1)] [((94, "Len"),(108,some 90)),((94, "Less"),(109,some 90)),((94, "Swap"),(110,some 90)),((94, "Push"),(112,none)),((94, "Pop"),(111,none))]
theorem Wu(t:Nat):env.emp t=false:=rfl
theorem Wv(f i:Nat):env.uR f i=Fg [(12,10),(12,11),(38,15),(38,16),(38,17),(36,7),(37,1)] f i:=rfl
theorem ah1(f i:Nat):env.fl f i=O2 [((6,3),[[0,1,2,3,5,6,4,7,8,9,10],[0,1,2,3,5,6,4,9,7,8,10],[0,1,2,3,5,6,9,4,7,8,10]]),((33,15),[[],[8]]),((34,5),[[0,1,2,3,4,5,6,7,8,9,10,11,12,13,14,15],[0,1,2,3,4,5,6,7,8,9,10,11,12,14,13,15]]),((38,10),[[],[8]]),((12,17),[[],[13]]),((41,4),[[],[17]]),((67,12),[[],[6]]),((10,7),[[],[8]]),((42,11),[[2,3,4,5,6,8,0,1,7,9,10,11,12],[2,3,4,5,6,8,0,1,9,7,10,11,12]]),((64,10),[[0,1,2,5,6,7,8,9,10,11,12,3,4,13]])] f i:=rfl
theorem Ww(t:Nat):env.HK t=aj t [78,94]:=rfl
theorem ah2(f:Nat):env.px f=false:=rfl
theorem ah3(f:Nat):env.nd f=aj f [58,33,34,38,61,41]:=rfl
theorem ah4(t:Nat):env.Eg t=aj t [118]:=rfl
theorem ah5(t:Nat):env.D5 t=look t [(25,5)]:=rfl
theorem ah6(d t:Nat):env.ro d t=Fg [(29,29),(1032,29),(25,29),(1028,29),(100,51),(1101,51),(72,40),(1073,40)] d t:=rfl
theorem ah7:env.tm=true:=rfl
theorem ag:aI env:=Lp (by kernel_rfl) (by kernel_rfl) (by kernel_rfl) (by kernel_rfl) (by kernel_rfl) (by kernel_rfl) (by kernel_rfl) (by kernel_rfl) (by kernel_rfl) (by kernel_rfl)
theorem Qm:env.mapKey 75=some 168:=rfl
theorem Qn:env.mapKey 83=some 82:=rfl
theorem L3:env.mapKey 100=some 105:=rfl
theorem L4:env.mapKey 160=some 3:=rfl
theorem ah8:env.ty 1=some .ba:=rfl
theorem ah9:env.ty 2=some (.int .i64):=rfl
theorem ai0:env.ty 3=some (.int .i64):=rfl
theorem ai1:env.ty 4=some .bool:=rfl
theorem ai2:env.ty 5=some (.int .u8):=rfl
theorem ai3:env.ty 6=some (.int .u8):=rfl
theorem ai4:env.ty 7=some jf:=rfl
theorem ai5:env.ty 8=some jf:=rfl
theorem ai6:env.ty 9=some .str:=rfl
theorem Wx:env.ty 10=some .str:=rfl
theorem Wy:env.ty 11=some .str:=rfl
theorem Wz:env.ty 12=some (.int .u64):=rfl
theorem WA:env.ty 13=some dX:=rfl
theorem WB:env.ty 14=some dX:=rfl
theorem WC:env.ty 21=some (.int .i32):=rfl
theorem WD:env.ty 22=some (.sl eF):=rfl
theorem WE:env.ty 23=some iO:=rfl
theorem WG:env.ty 24=some iO:=rfl
theorem WH:env.ty 25=some (.sl (.int .u8)):=rfl
theorem WJ:env.ty 26=some (.int .i8):=rfl
theorem WK:env.ty 27=some (.st (.pair (.int .i8) (.int .i8))):=rfl
theorem WL:env.ty 28=some .ba:=rfl
theorem WM:env.ty 29=some (.sl bd):=rfl
theorem WN:env.ty 30=some al:=rfl
theorem WO:env.ty 31=some al:=rfl
theorem WQ:env.ty 32=some .ba:=rfl
theorem WR:env.ty 33=some .ba:=rfl
theorem WS:env.ty 34=some (.sl bK):=rfl
theorem WT:env.ty 35=some (.int .i64):=rfl
theorem WU:env.ty 37=some .ba:=rfl
theorem WV:env.ty 39=some .ba:=rfl
theorem WW:env.ty 40=some (.sl (.int .i64)):=rfl
theorem WX:env.ty 42=some .ba:=rfl
theorem WY:env.ty 43=some .ba:=rfl
theorem WZ:env.ty 44=some .ba:=rfl
theorem W0:env.ty 45=some bK:=rfl
theorem W1:env.ty 46=some bK:=rfl
theorem W2:env.ty 47=some .ba:=rfl
theorem W3:env.ty 49=some .ba:=rfl
theorem W4:env.ty 50=some (.st (.pair (.int .i64) (.int .i64))):=rfl
theorem W5:env.ty 51=some (.sl iP):=rfl
theorem W6:env.ty 52=some RunT:=rfl
theorem W7:env.ty 53=some RunT:=rfl
theorem W8:env.ty 54=some .ba:=rfl
theorem W9:env.ty 55=some iP:=rfl
theorem Xa:env.ty 56=some iP:=rfl
theorem Xb:env.ty 57=some .ba:=rfl
theorem Xc:env.ty 58=some .ba:=rfl
theorem Xd:env.ty 59=some .ba:=rfl
theorem Xe:env.ty 60=some (.st (.pair (.int .u8) (.int .u8))):=rfl
theorem Xf:env.ty 61=some .ba:=rfl
theorem Xg:env.ty 62=some eF:=rfl
theorem Xh:env.ty 63=some eF:=rfl
theorem Xi:env.ty 64=some bd:=rfl
theorem Xj:env.ty 65=some bd:=rfl
theorem Xk:env.ty 66=some .ba:=rfl
theorem Xl:env.ty 67=some .ba:=rfl
theorem Xm:env.ty 68=some .ba:=rfl
theorem Xn:env.ty 69=some (.st (.pair .str .str)):=rfl
theorem Xo:env.ty 70=some .ba:=rfl
theorem Xp:env.ty 71=some .ba:=rfl
theorem Xq:env.ty 73=some .ba:=rfl
theorem Xr:env.ty 74=some (.ptr fD):=rfl
theorem Xs:env.ty 75=some (.mp er fS):=rfl
theorem Xt:env.ty 76=some fD:=rfl
theorem Xu:env.ty 77=some fD:=rfl
theorem Xv:env.ty 78=some (.ptr aM):=rfl
theorem Xw:env.ty 79=some gM:=rfl
theorem Xx:env.ty 80=some gM:=rfl
theorem Xy:env.ty 81=some aX:=rfl
theorem Xz:env.ty 82=some aX:=rfl
theorem XA:env.ty 83=some (.mp aX (.int .i64)):=rfl
theorem XB:env.ty 84=some bu:=rfl
theorem XD:env.ty 85=some bu:=rfl
theorem XE:env.ty 86=some aM:=rfl
theorem XF:env.ty 87=some aM:=rfl
theorem XG:env.ty 88=some .ba:=rfl
theorem XI:env.ty 89=some (.sl (.ptr aM)):=rfl
theorem XJ:env.ty 90=some (.sl (.ptr aM)):=rfl
theorem XK:env.ty 91=some .ba:=rfl
theorem XL:env.ty 93=some .ba:=rfl
theorem XM:env.ty 95=some .ba:=rfl
theorem XN:env.ty 96=some .ba:=rfl
theorem XO:env.ty 97=some .ba:=rfl
theorem XP:env.ty 98=some .ba:=rfl
theorem XQ:env.ty 99=some (.ptr gr):=rfl
theorem Qo:env.ty 100=some (.mp az bu):=rfl
theorem Qp:env.ty 101=some gr:=rfl
theorem Qq:env.ty 102=some gr:=rfl
theorem Qr:env.ty 104=some az:=rfl
theorem Qs:env.ty 105=some az:=rfl
theorem Qt:env.ty 106=some .ba:=rfl
theorem Qu:env.ty 107=some ud:=rfl
theorem Qv:env.ty 108=some ud:=rfl
theorem Qw:env.ty 109=some .ba:=rfl
theorem Qx:env.ty 110=some k7:=rfl
theorem Qy:env.ty 111=some k7:=rfl
theorem Qz:env.ty 112=some k8:=rfl
theorem QA:env.ty 113=some k8:=rfl
theorem QB:env.ty 115=some .ba:=rfl
theorem QC:env.ty 116=some (.ptr .unit):=rfl
theorem QD:env.ty 117=some qW:=rfl
theorem QE:env.ty 118=some qW:=rfl
theorem QF:env.ty 122=some .ba:=rfl
theorem QG:env.ty 123=some .ba:=rfl
theorem QH:env.ty 124=some .ba:=rfl
theorem QI:env.ty 125=some (.sl .bool):=rfl
theorem QJ:env.ty 126=some .ba:=rfl
theorem QK:env.ty 127=some .ba:=rfl
theorem QL:env.ty 128=some (.sl aX):=rfl
theorem QM:env.ty 130=some .ba:=rfl
theorem QN:env.ty 131=some .ba:=rfl
theorem QO:env.ty 132=some fS:=rfl
theorem QP:env.ty 133=some fS:=rfl
theorem QQ:env.ty 134=some .ba:=rfl
theorem QR:env.ty 135=some .ba:=rfl
theorem QS:env.ty 136=some .ba:=rfl
theorem QT:env.ty 139=some .ba:=rfl
theorem QU:env.ty 140=some .ba:=rfl
theorem QV:env.ty 141=some .ba:=rfl
theorem QW:env.ty 142=some .ba:=rfl
theorem QX:env.ty 143=some .ba:=rfl
theorem QY:env.ty 144=some .ba:=rfl
theorem QZ:env.ty 145=some .ba:=rfl
theorem Q0:env.ty 147=some uE:=rfl
theorem Q1:env.ty 148=some uE:=rfl
theorem Q2:env.ty 149=some .ba:=rfl
theorem Q3:env.ty 150=some .ba:=rfl
theorem Q4:env.ty 152=some .ba:=rfl
theorem Q5:env.ty 153=some .ba:=rfl
theorem Q6:env.ty 154=some .ba:=rfl
theorem Q7:env.ty 155=some .ba:=rfl
theorem Q8:env.ty 157=some .ba:=rfl
theorem Q9:env.ty 158=some .ba:=rfl
theorem Ra:env.ty 159=some .ba:=rfl
theorem Rb:env.ty 160=some (.mp (.int .i64) (.sl (.int .i64))):=rfl
theorem Rc:env.ty 161=some .ba:=rfl
theorem Rd:env.ty 162=some .ba:=rfl
theorem Re:env.ty 163=some .ba:=rfl
theorem Rf:env.ty 164=some .ba:=rfl
theorem Rg:env.ty 165=some .ba:=rfl
theorem Rh:env.ty 167=some er:=rfl
theorem Ri:env.ty 168=some er:=rfl
theorem Rj:env.ty 170=some .ba:=rfl
theorem Rk:env.ty 171=some .ba:=rfl
theorem Rm:env.ty 172=some .ba:=rfl
theorem Rn:env.ty 173=some .ba:=rfl
theorem Ro:env.ty 175=some .ba:=rfl
theorem Rp:env.ty 176=some .ba:=rfl
theorem Rq:env.ty 182=some (.int .u32):=rfl
theorem Rr:env.ty 183=some (.int .u8):=rfl
theorem Rs:env.ty 184=some (.int .u8):=rfl
theorem Rt:env.ty 185=some .ba:=rfl
theorem Ru:env.ty 186=some (.int .i32):=rfl
theorem Rv:env.ty 187=some (.int .i32):=rfl
theorem XR:env.str 7=true:=rfl
theorem XS:env.str 8=true:=rfl
theorem Rw:env.str 13=true:=rfl
theorem Rx:env.str 14=true:=rfl
theorem Ry:env.str 23=true:=rfl
theorem Rz:env.str 24=true:=rfl
theorem RA:env.str 30=true:=rfl
theorem RB:env.str 31=true:=rfl
theorem RC:env.str 45=true:=rfl
theorem RD:env.str 46=true:=rfl
theorem RE:env.str 52=true:=rfl
theorem RF:env.str 53=true:=rfl
theorem RG:env.str 55=true:=rfl
theorem RH:env.str 56=true:=rfl
theorem RI:env.str 62=true:=rfl
theorem RJ:env.str 63=true:=rfl
theorem RK:env.str 64=true:=rfl
theorem RL:env.str 65=true:=rfl
theorem RM:env.str 76=true:=rfl
theorem RN:env.str 77=true:=rfl
theorem RO:env.str 79=true:=rfl
theorem RP:env.str 80=true:=rfl
theorem RQ:env.str 81=true:=rfl
theorem RR:env.str 82=true:=rfl
theorem RS:env.str 84=true:=rfl
theorem RT:env.str 85=true:=rfl
theorem RU:env.str 86=true:=rfl
theorem RV:env.str 87=true:=rfl
theorem L5:env.str 101=true:=rfl
theorem L6:env.str 102=true:=rfl
theorem L7:env.str 104=true:=rfl
theorem L8:env.str 105=true:=rfl
theorem L9:env.str 107=true:=rfl
theorem Ma:env.str 108=true:=rfl
theorem Mb:env.str 110=true:=rfl
theorem Mc:env.str 111=true:=rfl
theorem Md:env.str 112=true:=rfl
theorem Me:env.str 113=true:=rfl
theorem Mf:env.str 117=true:=rfl
theorem Mg:env.str 118=true:=rfl
theorem Mh:env.str 132=true:=rfl
theorem Mi:env.str 133=true:=rfl
theorem Mj:env.str 147=true:=rfl
theorem Mk:env.str 148=true:=rfl
theorem Ml:env.str 167=true:=rfl
theorem Mm:env.str 168=true:=rfl
theorem RW:env.str 27=false:=rfl
theorem RX:env.str 50=false:=rfl
theorem RY:env.str 60=false:=rfl
theorem RZ:env.str 69=false:=rfl
theorem XT:env.cmp 7=true:=rfl
theorem XU:env.cmp 8=true:=rfl
theorem R0:env.cmp 27=true:=rfl
theorem R1:env.cmp 45=true:=rfl
theorem R2:env.cmp 46=true:=rfl
theorem R3:env.cmp 50=true:=rfl
theorem R4:env.cmp 52=true:=rfl
theorem R5:env.cmp 53=true:=rfl
theorem R6:env.cmp 55=true:=rfl
theorem R7:env.cmp 56=true:=rfl
theorem R8:env.cmp 60=true:=rfl
theorem R9:env.cmp 64=true:=rfl
theorem Sa:env.cmp 65=true:=rfl
theorem Sb:env.cmp 69=true:=rfl
theorem Sc:env.cmp 79=true:=rfl
theorem Sd:env.cmp 80=true:=rfl
theorem Se:env.cmp 81=true:=rfl
theorem Sf:env.cmp 82=true:=rfl
theorem Sg:env.cmp 84=true:=rfl
theorem Sh:env.cmp 85=true:=rfl
theorem Mn:env.cmp 104=true:=rfl
theorem Mo:env.cmp 105=true:=rfl
theorem Mp:env.cmp 110=true:=rfl
theorem Mq:env.cmp 111=true:=rfl
theorem Mr:env.cmp 112=true:=rfl
theorem Ms:env.cmp 113=true:=rfl
theorem Mt:env.cmp 132=true:=rfl
theorem Mu:env.cmp 133=true:=rfl
theorem Mv:env.cmp 167=true:=rfl
theorem Mw:env.cmp 168=true:=rfl
theorem ai7:env.fn 2=some ([],.unit):=rfl
theorem ai8:env.fn 3=some ([iO,(.sl (.int .u8)),(.st (.pair (.int .i8) (.int .i8)))],.bool):=rfl
theorem ai9:env.fn 4=some ([iO,(.sl (.int .u8))],.bool):=rfl
theorem aj0:env.fn 5=some ([iO,(.sl (.int .u8)),(.st (.pair (.int .u8) (.int .u8)))],.bool):=rfl
theorem aj1:env.fn 6=some ([iO,(.sl (.int .u8)),eF],.bool):=rfl
theorem aj2:env.fn 7=some ([iO,.str,(.st (.pair .str .str))],.bool):=rfl
theorem aj3:env.fn 8=some ([iO,(.sl (.int .u8))],.bool):=rfl
theorem aj4:env.fn 9=some ([],.bool):=rfl
theorem XV:env.fn 10=some ([iO],al):=rfl
theorem XW:env.fn 11=some ([(.sl (.int .u8)),(.int .i64)],.str):=rfl
theorem XX:env.fn 12=some ([al,.str,(.int .i64)],(.bk (.sl bK) (.int .i64))):=rfl
theorem XY:env.fn 13=some ([al,.str,(.int .i64)],(.bk (.sl bK) (.int .i64))):=rfl
theorem XZ:env.fn 14=some ([al,.str],(.bk .str (.bk (.int .i64) (.int .i64)))):=rfl
theorem X0:env.fn 15=some ([(.sl (.int .u8)),(.int .i64)],.str):=rfl
theorem X1:env.fn 16=some ([al,.str,.str],(.bk (.sl (.int .i64)) (.int .i64))):=rfl
theorem X2:env.fn 17=some ([al,.str,.str],(.bk (.sl (.int .i64)) (.int .i64))):=rfl
theorem X3:env.fn 18=some ([(.sl bK),(.sl bK)],.bool):=rfl
theorem X4:env.fn 19=some ([(.sl (.int .i64)),(.sl (.int .i64))],.bool):=rfl
theorem X5:env.fn 20=some ([al,(.st (.pair (.int .i64) (.int .i64))),(.sl (.int .u8))],(.bk (.sl (.int .i64)) (.int .i64))):=rfl
theorem X6:env.fn 21=some ([al,(.sl (.int .i64))],RunT):=rfl
theorem X7:env.fn 22=some ([al,(.int .i64)],.bool):=rfl
theorem X8:env.fn 23=some ([bK,bK],.bool):=rfl
theorem X9:env.fn 24=some ([eF,(.int .i64)],bd):=rfl
theorem Ya:env.fn 25=some ([al],.bool):=rfl
theorem Yb:env.fn 26=some ([.str],.bool):=rfl
theorem Yc:env.fn 27=some ([.str],.bool):=rfl
theorem Yd:env.fn 28=some ([al,(.sl (.int .i64))],RunT):=rfl
theorem Ye:env.fn 29=some ([iO],al):=rfl
theorem Yf:env.fn 30=some ([.str],.bool):=rfl
theorem Yg:env.fn 31=some ([al],.bool):=rfl
theorem Yh:env.fn 32=some ([al],(.bk al (.sl (.int .i64)))):=rfl
theorem Yi:env.fn 39=some ([al,.str],(.sl bK)):=rfl
theorem Yj:env.fn 40=some ([.str],.bool):=rfl
theorem Yk:env.fn 43=some ([al,k7,k8],ud):=rfl
theorem Yl:env.fn 44=some ([al],(.bk (.int .i64) (.int .i64))):=rfl
theorem Ym:env.fn 45=some ([.str],.bool):=rfl
theorem Yn:env.fn 46=some ([.str],.bool):=rfl
theorem Yo:env.fn 50=some ([al,(.int .i64)],.bool):=rfl
theorem Yp:env.fn 51=some ([.str],.bool):=rfl
theorem Yq:env.fn 52=some ([al],(.bk (.int .i64) (.int .i64))):=rfl
theorem Yr:env.fn 53=some ([al],(.sl .bool)):=rfl
theorem Ys:env.fn 54=some ([al],(.sl .bool)):=rfl
theorem Yt:env.fn 55=some ([al,bd],.bool):=rfl
theorem Yu:env.fn 56=some ([(.ptr fD),gM,bd],(.bk gM .bool)):=rfl
theorem Yv:env.fn 59=some ([bu,bu],bu):=rfl
theorem Yw:env.fn 60=some ([bu,bu],.bool):=rfl
theorem Yx:env.fn 62=some ([(.ptr fD),gM],.bool):=rfl
theorem Yy:env.fn 65=some ([.str],.bool):=rfl
theorem Yz:env.fn 66=some ([al,(.int .i64)],.bool):=rfl
theorem YA:env.fn 68=some ([(.ptr gr),az,bd],(.bk az .bool)):=rfl
theorem YB:env.fn 69=some ([.str,(.int .i64),.str],.bool):=rfl
theorem YC:env.fn 70=some ([ud,ud],.bool):=rfl
theorem YD:env.fn 71=some ([(.int .i64),(.int .i64),(.int .i64)],.bool):=rfl
theorem YE:env.fn 73=some ([(.st (.pair (.int .i64) (.int .i64))),.str,.str],bd):=rfl
theorem YF:env.fn 74=some ([.str],.bool):=rfl
theorem YG:env.fn 75=some ([(.int .i64),bd],.bool):=rfl
theorem YH:env.fn 76=some ([(.sl bd),bd],.bool):=rfl
theorem YI:env.fn 78=some ([al],(.mp (.int .i64) (.sl (.int .i64)))):=rfl
theorem YJ:env.fn 81=some ([al,(.int .i64)],.bool):=rfl
theorem YK:env.fn 82=some ([al,(.int .i64)],.bool):=rfl
theorem YL:env.fn 83=some ([.str,.str],.bool):=rfl
theorem YM:env.fn 85=some ([(.sl iP),iP],.bool):=rfl
theorem YN:env.fn 86=some ([(.int .u8)],(.int .i64)):=rfl
theorem YO:env.fn 88=some ([(.sl bd),bd],(.int .i64)):=rfl
theorem YP:env.fn 90=some ([.str,.str],.bool):=rfl
theorem Si:env.fn 113=some ([(.ptr .unit)],(.int .i64)):=rfl
theorem YQ:env.fn 33=none:=rfl
theorem Sj:env.db 33=some [none,none]:=rfl
theorem YR:env.fn 34=none:=rfl
theorem Sk:env.db 34=some [none,none]:=rfl
theorem YS:env.fn 35=none:=rfl
theorem Sl:env.db 35=some [none]:=rfl
theorem YT:env.fn 36=none:=rfl
theorem Sm:env.db 36=some [none,some (.ptr aM)]:=rfl
theorem YU:env.fn 37=none:=rfl
theorem Sn:env.db 37=some [none,none]:=rfl
theorem YV:env.fn 38=none:=rfl
theorem So:env.db 38=some [none,some (.ptr aM)]:=rfl
theorem YW:env.fn 41=none:=rfl
theorem Sq:env.db 41=some [none]:=rfl
theorem YX:env.fn 42=none:=rfl
theorem Sr:env.db 42=some [none,some az,some (.sl (.int .i64))]:=rfl
theorem YY:env.fn 47=none:=rfl
theorem Ss:env.db 47=some [none,some .str]:=rfl
theorem YZ:env.fn 48=none:=rfl
theorem Su:env.db 48=some [none]:=rfl
theorem Y0:env.fn 49=none:=rfl
theorem Sv:env.db 49=some [some (.int .u8)]:=rfl
theorem Y1:env.fn 57=none:=rfl
theorem Sw:env.db 57=some [none,some aX,some (.int .i64)]:=rfl
theorem Y2:env.fn 58=none:=rfl
theorem Sx:env.db 58=some [none,some gM,some (.int .i64)]:=rfl
theorem Y3:env.fn 61=none:=rfl
theorem Sy:env.db 61=some [none,some (.int .i64),some (.int .i64)]:=rfl
theorem Y4:env.fn 63=none:=rfl
theorem Sz:env.db 63=some [none,some (.int .i64)]:=rfl
theorem Y5:env.fn 64=none:=rfl
theorem SA:env.db 64=some [none,some (.sl iP),some .str,some (.int .i64)]:=rfl
theorem Y6:env.fn 67=none:=rfl
theorem SB:env.db 67=some [none,some az]:=rfl
theorem Y7:env.fn 72=none:=rfl
theorem SC:env.db 72=some [none]:=rfl
theorem Y8:env.fn 77=none:=rfl
theorem SD:env.db 77=some [some al]:=rfl
theorem Y9:env.fn 79=none:=rfl
theorem SE:env.db 79=some [some (.int .i64),none]:=rfl
theorem Za:env.fn 80=none:=rfl
theorem SF:env.db 80=some [some (.int .i64),none,none,none,none]:=rfl
theorem Zb:env.fn 84=none:=rfl
theorem SG:env.db 84=some [none,some .str,some (.int .i64)]:=rfl
theorem Zc:env.fn 89=none:=rfl
theorem SH:env.db 89=some [some (.int .i64),none,none]:=rfl
theorem SI:env.fn 108=none:=rfl
theorem Mx:env.db 108=some [none]:=rfl
theorem SJ:env.fn 109=none:=rfl
theorem My:env.db 109=some [none,some (.int .i64),some (.int .i64)]:=rfl
theorem SK:env.fn 110=none:=rfl
theorem Mz:env.db 110=some [none,some (.int .i64),some (.int .i64)]:=rfl
theorem SL:env.fn 111=none:=rfl
theorem MA:env.db 111=some [none]:=rfl
theorem SM:env.fn 112=none:=rfl
theorem MB:env.db 112=some [none,none]:=rfl
theorem AN:env.oe 94 "Len" =some (108,some 90):=by kernel_rfl
theorem yd:env.oe 94 "Less" =some (109,some 90):=by kernel_rfl
theorem ye:env.oe 94 "Swap" =some (110,some 90):=by kernel_rfl
theorem yf:env.oe 94 "Push" =some (112,none):=by kernel_rfl
theorem AO:env.oe 94 "Pop" =some (111,none):=by kernel_rfl
theorem aC9:env.P.funcs[2]?=some Try.f2:=rfl
theorem aD0:env.P.funcs[3]?=some Try.f3:=rfl
theorem aD1:env.P.funcs[4]?=some Try.f4:=rfl
theorem aD2:env.P.funcs[5]?=some Try.f5:=rfl
theorem aD3:env.P.funcs[6]?=some Try.f6:=rfl
theorem Zd:env.P.funcs[7]?=some Try.f7:=rfl
theorem aD4:env.P.funcs[8]?=some Try.f8:=rfl
theorem av6:env.P.funcs[9]?=some Try.f9:=rfl
theorem Uh:env.P.funcs[10]?=some Try.f10:=rfl
theorem Ui:env.P.funcs[11]?=some Try.f11:=rfl
theorem tB:env.P.funcs[12]?=some Try.f12:=rfl
theorem aB0:env.P.funcs[13]?=some Try.f13:=rfl
theorem Uj:env.P.funcs[14]?=some Try.f14:=rfl
theorem aB1:env.P.funcs[15]?=some Try.f15:=rfl
theorem G2:env.P.funcs[16]?=some Try.f16:=rfl
theorem aB2:env.P.funcs[17]?=some Try.f17:=rfl
theorem Uk:env.P.funcs[18]?=some Try.f18:=rfl
theorem Ul:env.P.funcs[19]?=some Try.f19:=rfl
theorem MC:env.P.funcs[20]?=some Try.f20:=rfl
theorem Um:env.P.funcs[21]?=some Try.f21:=rfl
theorem aj5:env.P.funcs[22]?=some Try.f22:=rfl
theorem aj6:env.P.funcs[23]?=some Try.f23:=rfl
theorem MD:env.P.funcs[24]?=some Try.f24:=rfl
theorem aj7:env.P.funcs[25]?=some Try.f25:=rfl
theorem aj8:env.P.funcs[26]?=some Try.f26:=rfl
theorem aj9:env.P.funcs[27]?=some Try.f27:=rfl
theorem G3:env.P.funcs[28]?=some Try.f28:=rfl
theorem ME:env.P.funcs[29]?=some Try.f29:=rfl
theorem ak0:env.P.funcs[30]?=some Try.f30:=rfl
theorem ak1:env.P.funcs[31]?=some Try.f31:=rfl
theorem MF:env.P.funcs[32]?=some Try.f32:=rfl
theorem G4:env.P.funcs[33]?=some Try.f33:=rfl
theorem Un:env.P.funcs[34]?=some Try.f34:=rfl
theorem ak2:env.P.funcs[35]?=some Try.f35:=rfl
theorem CP:env.P.funcs[36]?=some Try.f36:=rfl
theorem Uo:env.P.funcs[37]?=some Try.f37:=rfl
theorem zf:env.P.funcs[38]?=some Try.f38:=rfl
theorem aB3:env.P.funcs[39]?=some Try.f39:=rfl
theorem ak3:env.P.funcs[40]?=some Try.f40:=rfl
theorem zg:env.P.funcs[41]?=some Try.f41:=rfl
theorem MG:env.P.funcs[42]?=some Try.f42:=rfl
theorem aB4:env.P.funcs[43]?=some Try.f43:=rfl
theorem Up:env.P.funcs[44]?=some Try.f44:=rfl
theorem Uq:env.P.funcs[45]?=some Try.f45:=rfl
theorem Ur:env.P.funcs[46]?=some Try.f46:=rfl
theorem Us:env.P.funcs[47]?=some Try.f47:=rfl
theorem aB5:env.P.funcs[48]?=some Try.f48:=rfl
theorem zh:env.P.funcs[49]?=some Try.f49:=rfl
theorem Ut:env.P.funcs[50]?=some Try.f50:=rfl
theorem ak4:env.P.funcs[51]?=some Try.f51:=rfl
theorem Uu:env.P.funcs[52]?=some Try.f52:=rfl
theorem ak5:env.P.funcs[53]?=some Try.f53:=rfl
theorem CQ:env.P.funcs[54]?=some Try.f54:=rfl
theorem ak6:env.P.funcs[55]?=some Try.f55:=rfl
theorem ak7:env.P.funcs[56]?=some Try.f56:=rfl
theorem ak8:env.P.funcs[57]?=some Try.f57:=rfl
theorem Uv:env.P.funcs[58]?=some Try.f58:=rfl
theorem ak9:env.P.funcs[59]?=some Try.f59:=rfl
theorem al0:env.P.funcs[60]?=some Try.f60:=rfl
theorem Uw:env.P.funcs[61]?=some Try.f61:=rfl
theorem al1:env.P.funcs[62]?=some Try.f62:=rfl
theorem Ux:env.P.funcs[63]?=some Try.f63:=rfl
theorem aB6:env.P.funcs[64]?=some Try.f64:=rfl
theorem Uy:env.P.funcs[65]?=some Try.f65:=rfl
theorem al2:env.P.funcs[66]?=some Try.f66:=rfl
theorem Uz:env.P.funcs[67]?=some Try.f67:=rfl
theorem al3:env.P.funcs[68]?=some Try.f68:=rfl
theorem aB7:env.P.funcs[69]?=some Try.f69:=rfl
theorem UA:env.P.funcs[70]?=some Try.f70:=rfl
theorem al4:env.P.funcs[71]?=some Try.f71:=rfl
theorem aB8:env.P.funcs[72]?=some Try.f72:=rfl
theorem al5:env.P.funcs[73]?=some Try.f73:=rfl
theorem UB:env.P.funcs[74]?=some Try.f74:=rfl
theorem al6:env.P.funcs[75]?=some Try.f75:=rfl
theorem al7:env.P.funcs[76]?=some Try.f76:=rfl
theorem al8:env.P.funcs[77]?=some Try.f77:=rfl
theorem aB9:env.P.funcs[78]?=some Try.f78:=rfl
theorem al9:env.P.funcs[79]?=some Try.f79:=rfl
theorem UC:env.P.funcs[80]?=some Try.f80:=rfl
theorem am0:env.P.funcs[81]?=some Try.f81:=rfl
theorem am1:env.P.funcs[82]?=some Try.f82:=rfl
theorem am2:env.P.funcs[83]?=some Try.f83:=rfl
theorem aC0:env.P.funcs[84]?=some Try.f84:=rfl
theorem aC1:env.P.funcs[85]?=some Try.f85:=rfl
theorem am3:env.P.funcs[86]?=some Try.f86:=rfl
theorem UD:env.P.funcs[88]?=some Try.f88:=rfl
theorem am4:env.P.funcs[89]?=some Try.f89:=rfl
theorem am5:env.P.funcs[90]?=some Try.f90:=rfl
theorem Ze:env.P.funcs[108]?=some Try.f108:=rfl
theorem Zf:env.P.funcs[109]?=some Try.f109:=rfl
theorem Zg:env.P.funcs[110]?=some Try.f110:=rfl
theorem Zh:env.P.funcs[111]?=some Try.f111:=rfl
theorem Zi:env.P.funcs[112]?=some Try.f112:=rfl
theorem av7:env.P.funcs[113]?=some Try.f113:=rfl
attribute[go_sem]Qm Qn L3 L4 ah8 ah9 ai0 ai1 ai2 ai3 ai4 ai5 ai6 Wx Wy Wz WA WB WC WD WE WG WH WJ WK WL WM WN WO WQ WR WS WT WU WV WW WX WY WZ W0 W1 W2 W3 W4 W5 W6 W7 W8 W9 Xa Xb Xc Xd Xe Xf Xg Xh Xi Xj Xk Xl Xm Xn Xo Xp Xq Xr Xs Xt Xu Xv Xw Xx Xy Xz XA XB XD XE XF XG XI XJ XK XL XM XN XO XP XQ Qo Qp Qq Qr Qs Qt Qu Qv Qw Qx Qy Qz QA QB QC QD QE QF QG QH QI QJ QK QL QM QN QO QP QQ QR QS QT QU QV QW QX QY QZ Q0 Q1 Q2 Q3 Q4 Q5 Q6 Q7 Q8 Q9 Ra Rb Rc Rd Re Rf Rg Rh Ri Rj Rk Rm Rn Ro Rp Rq Rr Rs Rt Ru Rv XR XS Rw Rx Ry Rz RA RB RC RD RE RF RG RH RI RJ RK RL RM RN RO RP RQ RR RS RT RU RV L5 L6 L7 L8 L9 Ma Mb Mc Md Me Mf Mg Mh Mi Mj Mk Ml Mm RW RX RY RZ XT XU R0 R1 R2 R3 R4 R5 R6 R7 R8 R9 Sa Sb Sc Sd Se Sf Sg Sh Mn Mo Mp Mq Mr Ms Mt Mu Mv Mw ai7 ai8 ai9 aj0 aj1 aj2 aj3 aj4 XV XW XX XY XZ X0 X1 X2 X3 X4 X5 X6 X7 X8 X9 Ya Yb Yc Yd Ye Yf Yg Yh Yi Yj Yk Yl Ym Yn Yo Yp Yq Yr Ys Yt Yu Yv Yw Yx Yy Yz YA YB YC YD YE YF YG YH YI YJ YK YL YM YN YO YP Si YQ Sj YR Sk YS Sl YT Sm YU Sn YV So YW Sq YX Sr YY Ss YZ Su Y0 Sv Y1 Sw Y2 Sx Y3 Sy Y4 Sz Y5 SA Y6 SB Y7 SC Y8 SD Y9 SE Za SF Zb SG Zc SH SI Mx SJ My SK Mz SL MA SM MB AN yd ye yf AO Ww ah2 Wu ah1 Wv ah3 ah6 ah7 ah4 ah5
end Go.Proofs.Ytefpgfdemmllpaa
namespace Go.Proofs.Ytefpgfdemmllpaa
attribute[local go_sem←]Bool.decide_and Bool.decide_or decide_not
set_option maxHeartbeats 4000000
set_option maxRecDepth 100000
theorem aC {x:Int} (h: -9223372036854775808≤x)(h':x≤9223372036854775807):IntKind.i64.min≤x∧x≤IntKind.i64.max:=⟨h,h'⟩
theorem Zj {x:Int} (h:IntKind.i64.min≤x∧x≤IntKind.i64.max): -9223372036854775808≤x∧x≤9223372036854775807:=h
theorem UE {x:Int} (h:0≤x)(h':x≤255):IntKind.u8.min≤x∧x≤IntKind.u8.max:=⟨h,h'⟩
theorem iC {x:Int} (h:IntKind.u8.min≤x∧x≤IntKind.u8.max):0≤x∧x≤255:=h
theorem drop_cons {α:Type} {xs:List α} {i:Nat} {x:α} (h:xs[i]?=some x):xs.drop i=x::xs.drop (i+1):=by obtain⟨hi,e⟩:=List.getElem?_eq_some_iff.1 h;rw[List.drop_eq_getElem_cons hi,e]
theorem b8 {α:Type} {xs:List α} {i:Nat} {x:α} (h:xs[i]?=some x):xs.take (i+1)=xs.take i++ [x]:=by rw[List.take_add_one,h];rfl
theorem ak {α:Type} {xs:List α} {i:Nat} (h:i<xs.length): ∃x,xs[i]?=some x:=⟨_,List.getElem?_eq_getElem h⟩
theorem qX {α:Type} {xs:List α} {i:Nat} {x:α} {p:α→Bool} (h:xs[i]?=some x):(xs.take (i+1)).all p=((xs.take i).all p&&p x):=by rw[b8 h,List.all_append];simp
theorem AP {α:Type} {xs:List α} {i:Nat} {x:α} {p:α→Bool} (h:xs[i]?=some x)(hp:p x=false):xs.all p=false:=by rw[List.all_eq_false];exact⟨x,List.mem_of_getElem? h,by simp[hp]⟩
theorem ao.Zk {E:Env} {G:Goal} {todo:List WI} {X:Type} (t:X→St)(inv:X→Prop) {A:Prop} (h:(∀s x,inv x→Le s (t x)→ao E G todo s)→A)(hw: ∀x,inv x→ao E G todo (t x)):A:=h fun s x hx hl=>ao.weaken hl (hw x hx)
theorem ao.aC2 {E:Env} {G:Goal} {c:Code} {k:List WI} {s:St} {X:Type} {R:X→X→Prop} (hR:WellFounded R)(sl:X→List (Nat×PV))(bl:X→List (Nat×aO))(inv:X→Prop)(x0:X)(h: ∀b1 b2,na (ku c++(sl x0).map (·.1)) s.sl=b1→nb (keys (bl x0)) s.bl=b2→Le s ⟨sl x0++b1,bl x0++b2⟩∧inv x0∧ ∀x,inv x→(∀(t:St)(y:X),Le t ⟨sl y++b1,bl y++b2⟩→inv y→R y x→ao E G (.loop c::k) t)→ao E G (.code c:: .loop c::k) ⟨sl x++b1,bl x++b2⟩):ao E G (.code (.loop c)::k) s:=by
 obtain⟨h1,h2,h3⟩:=h _ _ rfl rfl;generalize na (ku c++(sl x0).map (·.1)) s.sl=b1 at h1 h3;generalize nb (keys (bl x0)) s.bl=b2 at h1 h3;(have main: ∀x,inv x→ao E G (.code c:: .loop c::k) ⟨sl x++b1,bl x++b2⟩:=by intro x;induction x using hR.induction with|_ x ih=>intro hx;refine h3 x hx fun t y hl hy hr=>?_;intro w0 S0 a w bf;exact Ends.step (fun b cs=>.one step_inLoop) (ih y hr hy w0 S0 a w (bf.weaken hl)))
 refine ao.weaken h1 ?_;intro w0 S0 a w hr;exact Ends.step (fun b cs=>.one step_loop) (main x0 h2 w0 S0 a w hr)
theorem PC.dec {E:Env} {f:Nat} {xs:List (Sigma Ty.den)} {b:Bool} (h:PC E f xs .bool b):PC E f xs .bool (decide (b=true)):=by cases b<;>exact h
theorem HC.fE {E:Env} {f:Nat} {args:List PV} {bl bl':List (Nat×aO)} {p:PV} (l:List (Nat×Nat))(hp:wy l=true)(h:HC E f args bl p bl'):HC E f args bl (p.fE (br l)) (iT (br l) bl'):=by
 intro w S ν0 vs a1 a2 a3 a4 a5 a6;refine(h w S ν0 vs a1 a2 a3 a4 a5 a6).mono ?_;rintro e w'⟨v,rfl,hk,ν,S',b1,b2,b3,hW,hv⟩;refine⟨v,rfl,hk,?_⟩;obtain⟨h1,h2,h3⟩:=wz hp
 (have inj: ∀i j,br l i=br l j→i=j:=fun i j e=>by rw[←h1 i,←h1 j,e]);have LQ: ∀i b,look i bl'=some b→look (br l i) (iT (br l) bl')=some (b.map (PV.fY (br l))):=fun i b hb=>im (fun j c _ e=>inj j i e) hb
 have hold: ∀i b,look i (iT (br l) bl')=some b→ ∃j c,br l j=i∧look j bl'=some c∧b=c.map (PV.fY (br l)):=fun i b hb=>lS (fun j k _ _ _ _ e=>inj j k e) hb;have hle:Ctx.OR (keys bl') (br l) ⟨ν,(⟨[],bl'⟩:St).D,w',⟨S',aF w ⟨S,fb ν0 bl,ν0,[]⟩⟩⟩ ⟨fun i=>ν (br (bW l) i),(⟨[],iT (br l) bl'⟩:St).D,w',⟨S',aF w ⟨S,fb ν0 bl,ν0,[]⟩⟩⟩:=⟨fun _ _=>rfl,fun _ h=>h,fun i _⟨b,hb⟩=>⟨_,LQ i b hb⟩,fun i _ _=>by simp only[h1]⟩
 (have wA: ∀j,P0≤br l j→P0≤j:=fun j hi=>by rcases Nat.lt_or_ge j P0 with h'|h';(·exfalso;have e:=h3 (br l j) hi;have:=inj _ _ e;omega);·exact h');refine⟨fun i=>ν (br (bW l) i),S',b1,b2,fun i hi⟨b,hb⟩=>?_,⟨hW.lt,hW.size,fun i b hb=>?_,fun i j b c eL hi hj g hg eg=>?_⟩,kX hle (nN (fun _ h=>h) hv) hv⟩
 (·obtain⟨j,c,rfl,hc,_⟩:=hold i b hb;have hj:=wA j hi;rw[h3 j hj];(have e:br (bW l) j=j:=by have:=h1 j;rw[h3 j hj]at this;exact this);simp only[e];exact b3 j hj ⟨c,hc⟩)
 (·obtain⟨j,c,rfl,hc,rfl⟩:=hold i b hb;have hr:=hW.cc j c hc;exact qz hle (sh (fun _ h=>h) hr) (by simp only[h1]) (fun g hg=>⟨rfl,(gm hr hg).1,(gm hr hg).2.1⟩) hr)
 ·obtain⟨i',b',rfl,j5,_⟩:=hold i b hi;obtain⟨j',c',rfl,iw,_⟩:=hold j c hj;simp only[h1]at hg eg;exact hW.ne i' j' b' c' (fun e=>eL (by rw[e])) j5 iw g hg eg
abbrev ax:=List UInt8
abbrev Rl:=Int×Int×ax×ax×Int
abbrev bn:=Int×Int×List Rl
instance av8:DecidableEq Rl:=fun a b=>inferInstanceAs(Decidable ((a:Int×Int×ax×ax×Int)=b))
theorem aq8(x y:Bool):(!x==y)=decide (¬x=y):=by cases x<;>cases y<;>rfl
def pQ(n a b:Int):Bool:=decide (a≤n∧n≤b)
def low(u:UInt8):Bool:=decide (97≤u.toNat∧u.toNat≤122)
def uF(u:UInt8):Bool:=decide (97≤u.toNat∧u.toNat≤122∨65≤u.toNat∧u.toNat≤90∨48≤u.toNat∧u.toNat≤57)
def CR(n m:Int):Bool:=decide (0≤m∧m<n∧m<8)
def G5(n:Int)(r:Rl):Bool:=CR n r.1&&CR n r.2.1&&pQ r.2.2.2.2 0 1000
def gu(a m:Int):Bool:=decide (a/2^m.toNat%2=1)
theorem AQ {a:Int} (h:0≤a):((a.toNat &&& (1:Int).toNat:Nat):Int)=a%2:=by show((a.toNat &&& 1:Nat):Int)=_;rw[Nat.and_one_is_mod];omega
theorem sE {a:Int} (h:0≤a)(m:Nat):0≤a/2^m:=Int.ediv_nonneg h (Int.le_of_lt (Int.pow_pos (by decide)))
theorem MH(v a b:Int):PC env 71 [⟨.int .i64,v⟩,⟨.int .i64,a⟩,⟨.int .i64,b⟩] .bool (pQ v a b):=by
 refine PC.aJ (m:=2000) ag al4 rfl rfl rfl rfl (by kernel_rfl) ?_;intro hx;simp only[Try.f71];simp only[go_sem,zA,↓reduceIte,↓reduceDIte,zB,zC,zD,zE,zF,zG,zH,zI]
 unfold pQ;refine⟨fun h=>?_,fun h=>?_⟩;(·congr 1;simp;omega);·symm;simp;omega
theorem G6(s:ax):PC env 46 [⟨.str,s⟩] .bool (s.all low):=by
 refine PC.aJ (m:=2000) ag Ur rfl rfl rfl rfl (by kernel_rfl) ?_;intro hx;simp only[Try.f46];simp only[go_sem,zA,↓reduceIte,↓reduceDIte,zB,zC,zD,zE,zF,zG,zH,zI]
 have hlen:s.length≤9223372036854775807:=hx.1;refine ao.bR (X:=Nat) (fun(i:Nat)=>[(3,.iv (.int .i64) (i:Int))]) (fun(i:Nat)=>[]) (fun(i:Nat)=>i≤s.length∧(s.take i).all low=true) (fun(i:Nat)=>s.length-i) 0 ?_
 intro b1 b2 bo bp;simp(config:= {maxSteps:=4000000})only[go_sem,zA,↓reduceIte,↓reduceDIte,zB,zC,zD,zE,zF,zG,zH,zI]at bo bp;subst bo;subst bp;refine⟨(by refine⟨?_,?_,rfl,rfl⟩<;>repeat' (first|exact trivial|exact Or.inl rfl|exact Or.inr rfl|apply bM|apply bN|apply bO|apply bP|exact⟨(by show(_:Nat)<1000000000;omega),rfl,rfl⟩|rfl|(refine And.intro (Or.inl ?_) ?_)|(refine And.intro ?_ ?_))),?_,?_⟩
 (·exact⟨Nat.zero_le _,rfl⟩);intro i⟨hi,hb⟩back;refine aw ag ⟨_,Ur,rfl⟩ 2000 _ _ (by kernel_rfl) ?_;simp only[go_sem,zA,↓reduceIte,↓reduceDIte,zB,zC,zD,zE,zF,zG,zH,zI]
 refine⟨fun h=>?_,fun h=>?_⟩;(·obtain⟨x,lZ⟩: ∃x,s[i]?=some x:=ak (by omega);have mz:low x=false→false=s.all low:=fun hl=>(AP lZ hl).symm;(have IN:low x=true→(s.take (i+1)).all low=true:=fun hl=>by rw[qX lZ,hb,hl];rfl);refine⟨Int.natCast_nonneg _,_,⟨x,lZ,rfl⟩,?_⟩;(repeat' (first|(with_reducible intro _)|(with_reducible apply And.intro)|(with_reducible refine Exists.intro _ (And.intro (Exists.intro x (And.intro lZ rfl)) ?_))));all_goals first|(refine mz ?_;simp[low];omega)|(with_reducible exact Int.natCast_nonneg _)|omega|(refine back _ (i+1) (by refine⟨?_,?_,rfl,rfl⟩<;>repeat' (first|exact trivial|exact Or.inl rfl|exact Or.inr rfl|apply bM|apply bN|apply bO|apply bP|exact⟨(by show(_:Nat)<1000000000;omega),rfl,rfl⟩|rfl|(refine And.intro (Or.inl ?_) ?_)|(refine And.intro ?_ ?_))) ⟨by omega,IN ?_⟩ (by omega);simp[low];omega)|skip)
 ·rw[List.take_of_length_le (by omega)]at hb;rw[hb]
theorem G7(s:ax):PC env 45 [⟨.str,s⟩] .bool (s.all uF):=by
 refine PC.aJ (m:=2000) ag Uq rfl rfl rfl rfl (by kernel_rfl) ?_;intro hx;simp only[Try.f45];simp only[go_sem,zA,↓reduceIte,↓reduceDIte,zB,zC,zD,zE,zF,zG,zH,zI]
 have hlen:s.length≤9223372036854775807:=hx.1;refine ao.bR (X:=Nat) (fun(i:Nat)=>[(3,.iv (.int .i64) (i:Int))]) (fun(i:Nat)=>[]) (fun(i:Nat)=>i≤s.length∧(s.take i).all uF=true) (fun(i:Nat)=>s.length-i) 0 ?_
 intro b1 b2 bo bp;simp(config:= {maxSteps:=4000000})only[go_sem,zA,↓reduceIte,↓reduceDIte,zB,zC,zD,zE,zF,zG,zH,zI]at bo bp;subst bo;subst bp;refine⟨(by refine⟨?_,?_,rfl,rfl⟩<;>repeat' (first|exact trivial|exact Or.inl rfl|exact Or.inr rfl|apply bM|apply bN|apply bO|apply bP|exact⟨(by show(_:Nat)<1000000000;omega),rfl,rfl⟩|rfl|(refine And.intro (Or.inl ?_) ?_)|(refine And.intro ?_ ?_))),?_,?_⟩
 (·exact⟨Nat.zero_le _,rfl⟩);intro i⟨hi,hb⟩back;refine aw ag ⟨_,Uq,rfl⟩ 2000 _ _ (by kernel_rfl) ?_;simp only[go_sem,zA,↓reduceIte,↓reduceDIte,zB,zC,zD,zE,zF,zG,zH,zI]
 refine⟨fun h=>?_,fun h=>?_⟩;(·obtain⟨x,lZ⟩: ∃x,s[i]?=some x:=ak (by omega);have mz:uF x=false→false=s.all uF:=fun hl=>(AP lZ hl).symm;(have IN:uF x=true→(s.take (i+1)).all uF=true:=fun hl=>by rw[qX lZ,hb,hl];rfl);refine⟨Int.natCast_nonneg _,_,⟨x,lZ,rfl⟩,?_⟩;(repeat' (first|(with_reducible intro _)|(with_reducible apply And.intro)));all_goals first|(refine mz ?_;simp[uF];omega)|(with_reducible exact Int.natCast_nonneg _)|omega|(refine back _ (i+1) (by refine⟨?_,?_,rfl,rfl⟩<;>repeat' (first|exact trivial|exact Or.inl rfl|exact Or.inr rfl|apply bM|apply bN|apply bO|apply bP|exact⟨(by show(_:Nat)<1000000000;omega),rfl,rfl⟩|rfl|(refine And.intro (Or.inl ?_) ?_)|(refine And.intro ?_ ?_))) ⟨by omega,IN ?_⟩ (by omega);simp[uF];omega)|exact(aC (by omega) (by omega)).1|exact(aC (by omega) (by omega)).2|skip)
 ·rw[List.take_of_length_le (by omega)]at hb;rw[hb]
theorem CS(s:bn)(m:Int):PC env 82 [⟨al,s⟩,⟨.int .i64,m⟩] .bool (CR s.1 m):=by
 obtain⟨n,a,l⟩:=s;refine PC.aJ (m:=2000) ag am1 rfl rfl rfl rfl (by kernel_rfl) ?_;intro hx;simp only[Try.f82];simp only[go_sem,zA,↓reduceIte,↓reduceDIte,zB,zC,zD,zE,zF,zG,zH,zI]
 unfold CR;(repeat' (first|(with_reducible intro _)|(with_reducible apply And.intro)));all_goals first|(rw[decide_eq_decide];omega)|(symm;simp;omega)
theorem Fv(s:bn)(r:Rl):PC env 55 [⟨al,s⟩,⟨bd,r⟩] .bool (G5 s.1 r):=by
 obtain⟨n,a,l⟩:=s;obtain⟨fr,t,i,o,c⟩:=r;have h1:=(CS (n,a,l) fr).dec;have h2:=(CS (n,a,l) t).dec;refine PC.aJ (m:=2000) ag ak6 rfl rfl rfl rfl (by kernel_rfl) ?_
 intro hx;simp only[Try.f55];simp only[go_sem,zA,↓reduceIte,↓reduceDIte,zB,zC,zD,zE,zF,zG,zH,zI];(repeat' (first|(with_reducible intro _)|(with_reducible apply And.intro)|(with_reducible refine⟨_,h1,?_⟩;try simp only[go_sem,zA,↓reduceIte,↓reduceDIte,zB,zC,zD,zE,zF,zG,zH,zI])|(with_reducible refine⟨_,h2,?_⟩;try simp only[go_sem,zA,↓reduceIte,↓reduceDIte,zB,zC,zD,zE,zF,zG,zH,zI])|fail))
 all_goals(unfold G5 pQ;dsimp only at*;simp_all;try omega)
theorem CT(s:bn)(m:Int)(h0:0≤m∧m<8):PC env 81 [⟨al,s⟩,⟨.int .i64,m⟩] .bool (gu s.2.1 m):=by
 obtain⟨n,a,l⟩:=s;refine PC.aJ (m:=2000) ag am0 rfl rfl rfl rfl (by kernel_rfl) ?_;intro hx;simp only[Try.f81];simp only[go_sem,zA,↓reduceIte,↓reduceDIte,zB,zC,zD,zE,zF,zG,zH,zI]
 have ha:=iC hx.1.2.1;dsimp only at ha;exact⟨⟨ha.1,h0⟩,sE ha.1 _,by show decide (((_ &&& (1:Int).toNat:Nat):Int)=1)=_;rw[AQ (sE ha.1 _)];rfl⟩
theorem aa1(s:bn)(m:Int)(h0:0≤m∧m<8):PC env 22 [⟨al,s⟩,⟨.int .i64,m⟩] .bool (gu s.2.1 m):=by
 obtain⟨n,a,l⟩:=s;refine PC.aJ (m:=2000) ag aj5 rfl rfl rfl rfl (by kernel_rfl) ?_;intro hx;simp only[Try.f22];simp only[go_sem,zA,↓reduceIte,↓reduceDIte,zB,zC,zD,zE,zF,zG,zH,zI]
 have ha:=iC hx.1.2.1;dsimp only at ha;exact⟨⟨ha.1,h0.1,by omega⟩,sE ha.1 _,by show decide (((_ &&& (1:Int).toNat:Nat):Int)=1)=_;rw[AQ (sE ha.1 _)];rfl⟩
end Go.Proofs.Ytefpgfdemmllpaa
namespace Go.Proofs.Ytefpgfdemmllpaa
attribute[local go_sem←]Bool.decide_and Bool.decide_or decide_not
set_option maxHeartbeats 4000000
set_option maxRecDepth 100000
theorem G8 {α:Type} {a b:List α} {k:Nat} (h:a.take k=b.take k)(ha:a.length≤k)(hb:b.length≤k):a=b:=by rwa[List.take_of_length_le ha,List.take_of_length_le hb]at h
theorem MI(a b:List Int):PC env 19 [⟨.sl (.int .i64),a⟩,⟨.sl (.int .i64),b⟩] .bool (decide (a=b)):=by
 refine PC.aJ (m:=2000) ag Ul rfl rfl rfl rfl (by kernel_rfl) ?_;intro hx;simp only[Try.f19];simp only[go_sem,zA,↓reduceIte,↓reduceDIte,zB,zC,zD,zE,zF,zG,zH,zI]
 refine⟨fun h=>?_,fun h=>?_⟩;(·symm;rw[decide_eq_false_iff_not];rintro rfl;exact h rfl);refine ao.bR (X:=Nat) (fun(k:Nat)=>[(5,.iv (.int .i64) (k:Int))]) (fun(k:Nat)=>[]) (fun(k:Nat)=>k≤a.length∧a.take k=b.take k) (fun(k:Nat)=>a.length-k) 0 ?_
 intro b1 b2 bo bp;simp(config:= {maxSteps:=4000000})only[go_sem,zA,↓reduceIte,↓reduceDIte,zB,zC,zD,zE,zF,zG,zH,zI]at bo bp;subst bo;subst bp;refine⟨(by refine⟨?_,?_,rfl,rfl⟩<;>repeat' (first|exact trivial|exact Or.inl rfl|exact Or.inr rfl|apply bM|apply bN|apply bO|apply bP|exact⟨(by show(_:Nat)<1000000000;omega),rfl,rfl⟩|rfl|(refine And.intro (Or.inl ?_) ?_)|(refine And.intro ?_ ?_))),?_,?_⟩
 (·exact⟨Nat.zero_le _,rfl⟩);have tg:a.length≤9223372036854775807:=hx.1.1;intro k⟨hk,he⟩back;refine aw ag ⟨_,Ul,rfl⟩ 2000 _ _ (by kernel_rfl) ?_;simp only[go_sem,zA,↓reduceIte,↓reduceDIte,zB,zC,zD,zE,zF,zG,zH,zI]
 refine⟨fun h2=>?_,fun h2=>?_⟩;(·obtain⟨x,lZ⟩: ∃x,a[k]?=some x:=ak (by omega);obtain⟨y,IP⟩: ∃y,b[k]?=some y:=ak (by omega);refine⟨Int.natCast_nonneg _,x,lZ,Int.natCast_nonneg _,y,IP,fun hn=>?_,fun hy=>?_⟩;(·symm;rw[decide_eq_false_iff_not];rintro rfl;rw[lZ]at IP;injection IP with IP;exact hn IP);·subst hy;exact⟨aC (by omega) (by omega),back _ (k+1) (by refine⟨?_,?_,rfl,rfl⟩<;>repeat' (first|exact trivial|exact Or.inl rfl|exact Or.inr rfl|apply bM|apply bN|apply bO|apply bP|exact⟨(by show(_:Nat)<1000000000;omega),rfl,rfl⟩|rfl|(refine And.intro (Or.inl ?_) ?_)|(refine And.intro ?_ ?_))) ⟨by omega,by rw[b8 lZ,b8 IP,he]⟩ (by omega)⟩)
 ·symm;rw[decide_eq_true_eq];exact G8 he (by omega) (by omega)
def eO(n:Int)(r:Rl):Bool:=pQ r.1 0 (n-1)&&pQ r.2.1 0 (n-1)&&decide (r.2.2.1.length≤4)&&r.2.2.1.all low&&decide (r.2.2.2.1.length≤4)&&r.2.2.2.1.all uF&&pQ r.2.2.2.2 0 1000
def dM(n:Int)(l:List Rl)(i:Nat):Bool:=match l[i]? with|some r=>decide (r∉l.take i)&&eO n r|none=>false
theorem AR(s:bn)(i:Nat)(hn:0≤s.1)(hi:i<s.2.2.length):PC env 50 [⟨al,s⟩,⟨.int .i64,(i:Int)⟩] .bool (dM s.1 s.2.2 i):=by
 obtain⟨n,a,l⟩:=s;obtain⟨r,hr⟩: ∃r,l[i]?=some r:=ak hi;dsimp only at hn hi;(have D8:dM n l i=(decide (r∉l.take i)&&eO n r):=by unfold dM;rw[hr]);dsimp only;rw[D8]
 clear D8;obtain⟨fr,t,ri,ro,c⟩:=r;refine PC.aJ (m:=2000) ag Ut rfl rfl rfl rfl (by kernel_rfl) ?_;intro hx;simp only[Try.f50];simp only[go_sem,zA,↓reduceIte,↓reduceDIte,zB,zC,zD,zE,zF,zG,zH,zI]
 have tg:l.length≤9223372036854775807:=hx.1.2.2.1;have SN:=Zj hx.1.1;dsimp only at SN;refine⟨Int.natCast_nonneg _,_,hr,?_⟩;refine ao.bR (X:=Nat) (fun(k:Nat)=>[(6,.iv (.int .i64) (k:Int))]) (fun(k:Nat)=>[]) (fun(k:Nat)=>k≤i∧(fr,t,ri,ro,c)∉l.take k) (fun(k:Nat)=>i-k) 0 ?_
 intro b1 b2 bo bp;simp(config:= {maxSteps:=4000000})only[go_sem,zA,↓reduceIte,↓reduceDIte,zB,zC,zD,zE,zF,zG,zH,zI]at bo bp;subst bo;subst bp;refine⟨(by refine⟨?_,?_,rfl,rfl⟩<;>repeat' (first|exact trivial|exact Or.inl rfl|exact Or.inr rfl|apply bM|apply bN|apply bO|apply bP|exact⟨(by show(_:Nat)<1000000000;omega),rfl,rfl⟩|rfl|(refine And.intro (Or.inl ?_) ?_)|(refine And.intro ?_ ?_))),?_,?_⟩
 (·exact⟨Nat.zero_le _,by simp⟩);intro k⟨hk,he⟩back;refine aw ag ⟨_,Ut,rfl⟩ 2000 _ _ (by kernel_rfl) ?_;simp only[go_sem,zA,↓reduceIte,↓reduceDIte,zB,zC,zD,zE,zF,zG,zH,zI]
 refine⟨fun h2=>?_,fun h2=>?_⟩;(·obtain⟨x,lZ⟩: ∃x,l[k]?=some x:=ak (by omega);refine⟨Int.natCast_nonneg _,x,lZ,fun hy=>?_,fun hn=>?_⟩;(·(have e:x=(fr,t,ri,ro,c):=by obtain⟨e1,e2,e3,e4,e5⟩:=hy;exact Prod.ext e1 (Prod.ext e2 (Prod.ext e3 (Prod.ext e4 e5))));(have hm:(fr,t,ri,ro,c)∈l.take i:=by rw[←e];refine List.mem_of_getElem? (i:=k) ?_;rw[List.getElem?_take,if_pos (by omega)];exact lZ);rw[decide_eq_false (by simpa using hm)];rfl);·refine⟨aC (by omega) (by omega),back _ (k+1) (by refine⟨?_,?_,rfl,rfl⟩<;>repeat' (first|exact trivial|exact Or.inl rfl|exact Or.inr rfl|apply bM|apply bN|apply bO|apply bP|exact⟨(by show(_:Nat)<1000000000;omega),rfl,rfl⟩|rfl|(refine And.intro (Or.inl ?_) ?_)|(refine And.intro ?_ ?_))) ⟨by omega,?_⟩ (by omega)⟩;rw[b8 lZ,List.mem_append,List.mem_singleton];rintro(h|h);(·exact he h);·subst h;exact hn ⟨rfl,rfl,rfl,rfl,rfl⟩)
 ·(obtain rfl:k=i:=by omega);have hd:decide (¬(fr,t,ri,ro,c)∈List.take k l)=true:=decide_eq_true he;rw[hd];clear back;have d1:=(MH fr 0 (n-1)).dec;have d2:=(MH t 0 (n-1)).dec;have d3:=(G6 ri).dec;have d4:=(G7 ro).dec;have d5:=(MH c 0 1000).dec;have hR:eO n (fr,t,ri,ro,c)=(pQ fr 0 (n-1)&&pQ t 0 (n-1)&&decide (ri.length≤4)&&ri.all low&&decide (ro.length≤4)&&ro.all uF&&pQ c 0 1000):=rfl;rw[hR];generalize ri.all low=b3 at*;generalize ro.all uF=b4 at*;refine⟨aC (by omega) (by omega),?_⟩;(repeat' (first|(with_reducible intro _)|(with_reducible apply And.intro)|(with_reducible refine⟨_,d1,?_⟩;try simp only[go_sem,zA,↓reduceIte,↓reduceDIte,zB,zC,zD,zE,zF,zG,zH,zI])|(with_reducible refine⟨_,d2,?_⟩;try simp only[go_sem,zA,↓reduceIte,↓reduceDIte,zB,zC,zD,zE,zF,zG,zH,zI])|(with_reducible refine⟨_,d3,?_⟩;try simp only[go_sem,zA,↓reduceIte,↓reduceDIte,zB,zC,zD,zE,zF,zG,zH,zI])|(with_reducible refine⟨_,d4,?_⟩;try simp only[go_sem,zA,↓reduceIte,↓reduceDIte,zB,zC,zD,zE,zF,zG,zH,zI])|(with_reducible refine⟨_,d5,?_⟩;try simp only[go_sem,zA,↓reduceIte,↓reduceDIte,zB,zC,zD,zE,zF,zG,zH,zI])|fail));all_goals first|omega|(simp_all;try omega)
end Go.Proofs.Ytefpgfdemmllpaa
namespace Go.Proofs.Ytefpgfdemmllpaa
attribute[local go_sem←]Bool.decide_and Bool.decide_or decide_not
attribute[local go_sem]Int.reduceEq not_true_eq_false not_false_eq_true false_implies
set_option maxHeartbeats 4000000
set_option maxRecDepth 100000
theorem G9(s:bn)(h:0≤s.1∧s.1≤8):HC env 77 [.iv al s] [] (.aE 7) [(7,.arr .bool (List.replicate s.1.toNat false))]:=by
 obtain⟨n,a,l⟩:=s;dsimp only at h;refine HC.aJ (m:=2000) ag al8 rfl rfl rfl rfl (by kernel_rfl) ?_;intro hx ji;simp only[Try.f77];simp only[go_sem,zA,↓reduceIte,↓reduceDIte,zB,zC,zD,zE,zF,zG,zH,zI]
 (have e:min (max n 0) 8=n:=by omega);rw[e];exact⟨⟨h.1,Int.le_trans h.2 (by decide)⟩,rfl⟩
abbrev Pr:=Int×Int
def cg(p q:Pr):Bool:=decide (p.1<q.1∨p.1=q.1∧p.2<q.2)
def iD(p:Pr)(c:Int):Pr:=(p.1+c,p.2+1)
def bc(w:Int×Int)(i o:ax):Rl:=(w.1,w.2,i,o,(i.length:Int))
theorem k9(w:Int×Int)(i o:ax):PC env 73 [⟨.st (.pair (.int .i64) (.int .i64)),w⟩,⟨.str,i⟩,⟨.str,o⟩] bd (bc w i o):=by
 obtain⟨w1,w2⟩:=w;refine PC.aJ (m:=2000) ag al5 rfl rfl rfl rfl (by kernel_rfl) ?_;intro hx;simp only[Try.f73];simp only[go_sem,zA,↓reduceIte,↓reduceDIte,zB,zC,zD,zE,zF,zG,zH,zI]
 rfl
abbrev wB:=List Int×List Int×Int×Int×Int
abbrev AS:=Int×Int×List wB
def qY(u:Int):ax:=(([97,98,99]:ax).drop (u%3).toNat).take 1
def wC(u:Int):ax:=(([97,98,99,65,66,49]:ax).drop (u%6).toNat).take 1
def cW(x:wB)(n:Int):Rl:=(x.2.2.1%n,x.2.2.2.1%n,(x.1.take 2).flatMap qY,(x.2.1.take 2).flatMap wC,x.2.2.2.2*2)
theorem Ha(x:wB)(n:Int)(hn:0<n):PC env 24 [⟨eF,x⟩,⟨.int .i64,n⟩] bd (cW x n):=by
 obtain⟨xi,xo,xf,xt,xc⟩:=x;refine PC.aJ (m:=2000) ag MD rfl rfl rfl rfl (by kernel_rfl) ?_;intro hx;simp only[Try.f24];simp only[go_sem,zA,↓reduceIte,↓reduceDIte,zB,zC,zD,zE,zF,zG,zH,zI]
 have lZ: ∀u,u∈xi→0≤u∧u≤255:=fun u hu=>iC (hx.1.1.2 u hu);have hxo: ∀u,u∈xo→0≤u∧u≤255:=fun u hu=>iC (hx.1.2.1.2 u hu);have hli:xi.length≤9223372036854775807:=hx.1.1.1
 have Gm:xo.length≤9223372036854775807:=hx.1.2.1.1;have hf:=iC hx.1.2.2.1;have ht:=iC hx.1.2.2.2.1;have hc:=iC hx.1.2.2.2.2;dsimp only at hf ht hc;have t1:Int.tmod xf n=xf%n:=Int.tmod_eq_emod_of_nonneg hf.1
 have t2:Int.tmod xt n=xt%n:=Int.tmod_eq_emod_of_nonneg ht.1;rw[t1,t2];refine⟨hn,hn,aC (by omega) (by omega),?_⟩;(have fin: ∀ {α:Type} {l:List α} {i:Nat} {f:α→ax},¬((i:Int)<2∧(i:Int)<(l.length:Int))→i≤2→i≤l.length→(l.take i).flatMap f=(l.take 2).flatMap f:=by intro α l i f h1 h2 h3;by_cases h:i=2;(·rw[h]);·(have:i=l.length:=by omega);subst this;rw[List.take_of_length_le (Nat.le_refl _),List.take_of_length_le h2])
 (have st: ∀ {l:List Int} {i:Nat} {u:Int} {f:Int→ax},l[i]?=some u→(l.take (i+1)).flatMap f=(l.take i).flatMap f++f u:=by intro l i u f h;rw[b8 h,List.flatMap_append];simp)
 (have av9: ∀u:Int,0≤u→(([97,98,99]:ax).drop (u%3).toNat).take ((u%3+1).toNat-(u%3).toNat)=qY u:=by intro u hu;rw[show(u%3+1).toNat-(u%3).toNat=1 by omega];rfl)
 (have outs: ∀u:Int,0≤u→(([97,98,99,65,66,49]:ax).drop (u%6).toNat).take ((u%6+1).toNat-(u%6).toNat)=wC u:=by intro u hu;rw[show(u%6+1).toNat-(u%6).toNat=1 by omega];rfl)
 (have aw0: ∀u:Int,(qY u).length≤1:=fun u=>by unfold qY;rw[List.length_take];omega);(have ac0: ∀u:Int,(wC u).length≤1:=fun u=>by unfold wC;rw[List.length_take];omega)
 (have aw1: ∀l:List Int,(l.flatMap qY).length≤l.length:=by intro l;induction l with|nil=>simp|cons x l ih=>simp only[List.flatMap_cons,List.length_append,List.length_cons,qY,List.length_take];omega)
 (have aw2: ∀l:List Int,(l.flatMap wC).length≤l.length:=by intro l;induction l with|nil=>simp|cons x l ih=>simp only[List.flatMap_cons,List.length_append,List.length_cons,wC,List.length_take];omega)
 refine ao.bR (X:=Nat) (fun(i:Nat)=>[(6,.iv (.int .i64) (i:Int))]) (fun(i:Nat)=>[(5,.box [.iv (.int .i64) (xf%n),.iv (.int .i64) (xt%n),.iv .str ((xi.take i).flatMap qY),.iv .str ([]:ax),.iv (.int .i64) (xc*2)])]) (fun(i:Nat)=>i≤xi.length∧i≤2) (fun(i:Nat)=>2-i) 0 ?_
 intro b1 b2 bo bp;simp(config:= {maxSteps:=4000000})only[go_sem,zA,↓reduceIte,↓reduceDIte,zB,zC,zD,zE,zF,zG,zH,zI]at bo bp;subst bo;subst bp;refine⟨(by refine⟨?_,?_,rfl,rfl⟩<;>repeat' (first|exact trivial|exact Or.inl rfl|exact Or.inr rfl|apply bM|apply bN|apply bO|apply bP|exact⟨(by show(_:Nat)<1000000000;omega),rfl,rfl⟩|rfl|(refine And.intro (Or.inl ?_) ?_)|(refine And.intro ?_ ?_))),?_,?_⟩
 (·exact⟨Nat.zero_le _,Nat.zero_le _⟩);intro i⟨hi,Oi⟩back;refine aw ag ⟨_,MD,rfl⟩ 2000 _ _ (by kernel_rfl) ?_;simp only[go_sem,zA,↓reduceIte,↓reduceDIte,zB,zC,zD,zE,zF,zG,zH,zI]
 have aw3:bytesOf ⟨#[97,98,99]⟩=([97,98,99]:ax):=rfl;have aw4:bytesOf ⟨#[97,98,99,65,66,49]⟩=([97,98,99,65,66,49]:ax):=rfl;apply ao.Zk (X:=Unit) (fun _=>⟨[(7,.iv (.int .i64) (0:Int)),(5,.ref 5 0),(4,.ref 4 0),(2,.ref 2 0)],[(5,.box [.iv (.int .i64) (xf%n),.iv (.int .i64) (xt%n),.iv .str ((xi.take 2).flatMap qY),.iv .str ([]:ax),.iv (.int .i64) (xc*2)]),(4,.box [.iv (.int .i64) (0:Int),.iv (.int .i64) (0:Int),.iv .str ([]:ax),.iv .str ([]:ax),.iv (.int .i64) (0:Int)]),(2,.box [.iv (.sl (.int .u8)) xi,.iv (.sl (.int .u8)) xo,.iv (.int .u8) xf,.iv (.int .u8) xt,.iv (.int .u8) xc])]⟩) (fun _=>True)
 (·intro key;refine⟨fun g1=>⟨fun g2=>?_,fun g2=>?_⟩,fun g1=>?_⟩;(·obtain⟨u,hu⟩: ∃u,xi[i]?=some u:=ak (by omega);have Zl:=lZ u (List.mem_of_getElem? hu);have tu:Int.tmod u 3=u%3:=Int.tmod_eq_emod_of_nonneg Zl.1;have mr:=aw1 (xi.take i);have aw5:=aw0 u;(have aw6:(xi.take i).length=i:=by rw[List.length_take];omega);refine⟨Int.natCast_nonneg _,u,hu,Int.natCast_nonneg _,u,hu,?_⟩;rw[tu,aw3,av9 u Zl.1];refine⟨UE (by omega) (by omega),⟨by omega,by omega,by show u%3+1≤(3:Int);omega⟩,by omega,aC (by omega) (by omega),?_⟩;refine back _ (i+1) ?_ ⟨by omega,by omega⟩ (by omega);rw[←st hu];exact(by refine⟨?_,?_,rfl,rfl⟩<;>repeat' (first|exact trivial|exact Or.inl rfl|exact Or.inr rfl|apply bM|apply bN|apply bO|apply bP|exact⟨(by show(_:Nat)<1000000000;omega),rfl,rfl⟩|rfl|(refine And.intro (Or.inl ?_) ?_)|(refine And.intro ?_ ?_))));(·refine key _ () trivial ?_;rw[←fin (by omega) Oi hi];exact(by refine⟨?_,?_,rfl,rfl⟩<;>repeat' (first|exact trivial|exact Or.inl rfl|exact Or.inr rfl|apply bM|apply bN|apply bO|apply bP|exact⟨(by show(_:Nat)<1000000000;omega),rfl,rfl⟩|rfl|(refine And.intro (Or.inl ?_) ?_)|(refine And.intro ?_ ?_))));·refine key _ () trivial ?_;rw[←fin (by omega) Oi hi];exact(by refine⟨?_,?_,rfl,rfl⟩<;>repeat' (first|exact trivial|exact Or.inl rfl|exact Or.inr rfl|apply bM|apply bN|apply bO|apply bP|exact⟨(by show(_:Nat)<1000000000;omega),rfl,rfl⟩|rfl|(refine And.intro (Or.inl ?_) ?_)|(refine And.intro ?_ ?_))))
 ·intro _ _;clear back hi Oi;refine ao.bR (X:=Nat) (fun(i:Nat)=>[(7,.iv (.int .i64) (i:Int))]) (fun(i:Nat)=>[(5,.box [.iv (.int .i64) (xf%n),.iv (.int .i64) (xt%n),.iv .str ((xi.take 2).flatMap qY),.iv .str ((xo.take i).flatMap wC),.iv (.int .i64) (xc*2)])]) (fun(i:Nat)=>i≤xo.length∧i≤2) (fun(i:Nat)=>2-i) 0 ?_;intro b1 b2 bo bp;simp(config:= {maxSteps:=4000000})only[go_sem,zA,↓reduceIte,↓reduceDIte,zB,zC,zD,zE,zF,zG,zH,zI]at bo bp;subst bo;subst bp;refine⟨(by refine⟨?_,?_,rfl,rfl⟩<;>repeat' (first|exact trivial|exact Or.inl rfl|exact Or.inr rfl|apply bM|apply bN|apply bO|apply bP|exact⟨(by show(_:Nat)<1000000000;omega),rfl,rfl⟩|rfl|(refine And.intro (Or.inl ?_) ?_)|(refine And.intro ?_ ?_))),?_,?_⟩;(·exact⟨Nat.zero_le _,Nat.zero_le _⟩);intro i⟨hi,Oi⟩back;refine aw ag ⟨_,MD,rfl⟩ 2000 _ _ (by kernel_rfl) ?_;simp only[go_sem,zA,↓reduceIte,↓reduceDIte,zB,zC,zD,zE,zF,zG,zH,zI];refine⟨fun g1=>⟨fun g2=>?_,fun g2=>?_⟩,fun g1=>?_⟩;(·obtain⟨u,hu⟩: ∃u,xo[i]?=some u:=ak (by omega);have Zl:=hxo u (List.mem_of_getElem? hu);have tu:Int.tmod u 6=u%6:=Int.tmod_eq_emod_of_nonneg Zl.1;have mr:=aw2 (xo.take i);have aw5:=ac0 u;(have aw6:(xo.take i).length=i:=by rw[List.length_take];omega);refine⟨Int.natCast_nonneg _,u,hu,Int.natCast_nonneg _,u,hu,?_⟩;rw[tu,aw4,outs u Zl.1];refine⟨UE (by omega) (by omega),⟨by omega,by omega,by show u%6+1≤(6:Int);omega⟩,by omega,aC (by omega) (by omega),?_⟩;refine back _ (i+1) ?_ ⟨by omega,by omega⟩ (by omega);rw[←st hu];exact(by refine⟨?_,?_,rfl,rfl⟩<;>repeat' (first|exact trivial|exact Or.inl rfl|exact Or.inr rfl|apply bM|apply bN|apply bO|apply bP|exact⟨(by show(_:Nat)<1000000000;omega),rfl,rfl⟩|rfl|(refine And.intro (Or.inl ?_) ?_)|(refine And.intro ?_ ?_))));(·rw[fin (by omega) Oi hi];rfl);·rw[fin (by omega) Oi hi];rfl
def bE(k:Int):bn:=if k%6=0 then(1,1,[bc (0,0) [97] [97],bc (0,0) [98] [98],bc (0,0) [99] [99]])else if k%6=1 then(1,1,[bc (0,0) [97] [65],bc (0,0) [98,97] [66],bc (0,0) [99,97] [67],bc (0,0) [98] [98]])else if k%6=2 then(2,1,[bc (0,1) [99] [],bc (1,0) [97] [65],bc (1,0) [98] [66],bc (0,0) [97] [97],bc (0,0) [98] [98]])else if k%6=3 then(1,1,[bc (0,0) [97] [97],bc (0,0) [98] [98],bc (0,0) [97,98] [97,98,99,49],bc (0,0) [99] [99]])else if k%6=4 then(1,1,[bc (0,0) [97] [97],(0,0,[98],[98],0),(0,0,[99],[98],7),(0,0,[98],[99],9)])else(1,1,[bc (0,0) [97] [97],bc (0,0) [97] [65],bc (0,0) [97,97] [66],bc (0,0) [98] [98],(0,0,[98],[],20)])
theorem SO(k:Int)(k0:k%6=0):HC env 49 [.iv (.int .u8) k] [] (.agg [.iv (.int .i64) (bE k).1,.iv (.int .u8) (bE k).2.1,.aE 1000]) [(1000,.arr bd (bE k).2.2)]:=by
 (have e:bE k=(1,1,[bc (0,0) [97] [97],bc (0,0) [98] [98],bc (0,0) [99] [99]]):=by unfold bE;rw[if_pos k0]);rw[e];clear e;(have h:HC env 49 [.iv (.int .u8) k] [] (.agg [.iv (.int .i64) (1:Int),.iv (.int .u8) (1:Int),.aE 28]) [(28,.arr bd ((1,1,[bc (0,0) [97] [97],bc (0,0) [98] [98],bc (0,0) [99] [99]]):bn).2.2)]:=by refine HC.aJ (m:=2000) ag zh rfl rfl rfl rfl (by kernel_rfl) ?_;intro hx ji;simp only[Try.f49];simp only[go_sem,zA,↓reduceIte,↓reduceDIte,zB,zC,zD,zE,zF,zG,zH,zI];have hk:=iC hx.1;have t1:Int.tmod k 6=k%6:=Int.tmod_eq_emod_of_nonneg hk.1;rw[t1];(repeat' (first|(with_reducible intro _)|(with_reducible apply And.intro)|(with_reducible refine⟨_,k9 _ _ _,?_⟩;try simp only[go_sem,zA,↓reduceIte,↓reduceDIte,zB,zC,zD,zE,zF,zG,zH,zI])|fail));all_goals first|(exfalso;omega)|rfl)
 exact h.fE [(28,1000),(1000,28)] rfl
theorem SP(k:Int)(n0: ¬k%6=0)(k1:k%6=1):HC env 49 [.iv (.int .u8) k] [] (.agg [.iv (.int .i64) (bE k).1,.iv (.int .u8) (bE k).2.1,.aE 1000]) [(1000,.arr bd (bE k).2.2)]:=by
 (have e:bE k=(1,1,[bc (0,0) [97] [65],bc (0,0) [98,97] [66],bc (0,0) [99,97] [67],bc (0,0) [98] [98]]):=by unfold bE;rw[if_neg n0,if_pos k1]);rw[e];clear e;(have h:HC env 49 [.iv (.int .u8) k] [] (.agg [.iv (.int .i64) (1:Int),.iv (.int .u8) (1:Int),.aE 40]) [(40,.arr bd ((1,1,[bc (0,0) [97] [65],bc (0,0) [98,97] [66],bc (0,0) [99,97] [67],bc (0,0) [98] [98]]):bn).2.2)]:=by refine HC.aJ (m:=2000) ag zh rfl rfl rfl rfl (by kernel_rfl) ?_;intro hx ji;simp only[Try.f49];simp only[go_sem,zA,↓reduceIte,↓reduceDIte,zB,zC,zD,zE,zF,zG,zH,zI];have hk:=iC hx.1;have t1:Int.tmod k 6=k%6:=Int.tmod_eq_emod_of_nonneg hk.1;rw[t1];(repeat' (first|(with_reducible intro _)|(with_reducible apply And.intro)|(with_reducible refine⟨_,k9 _ _ _,?_⟩;try simp only[go_sem,zA,↓reduceIte,↓reduceDIte,zB,zC,zD,zE,zF,zG,zH,zI])|fail));all_goals first|(exfalso;omega)|rfl)
 exact h.fE [(40,1000),(1000,40)] rfl
theorem SQ(k:Int)(n0: ¬k%6=0)(n1: ¬k%6=1)(k2:k%6=2):HC env 49 [.iv (.int .u8) k] [] (.agg [.iv (.int .i64) (bE k).1,.iv (.int .u8) (bE k).2.1,.aE 1000]) [(1000,.arr bd (bE k).2.2)]:=by
 (have e:bE k=(2,1,[bc (0,1) [99] [],bc (1,0) [97] [65],bc (1,0) [98] [66],bc (0,0) [97] [97],bc (0,0) [98] [98]]):=by unfold bE;rw[if_neg n0,if_neg n1,if_pos k2])
 rw[e];clear e;(have h:HC env 49 [.iv (.int .u8) k] [] (.agg [.iv (.int .i64) (2:Int),.iv (.int .u8) (1:Int),.aE 54]) [(54,.arr bd ((2,1,[bc (0,1) [99] [],bc (1,0) [97] [65],bc (1,0) [98] [66],bc (0,0) [97] [97],bc (0,0) [98] [98]]):bn).2.2)]:=by refine HC.aJ (m:=2000) ag zh rfl rfl rfl rfl (by kernel_rfl) ?_;intro hx ji;simp only[Try.f49];simp only[go_sem,zA,↓reduceIte,↓reduceDIte,zB,zC,zD,zE,zF,zG,zH,zI];have hk:=iC hx.1;have t1:Int.tmod k 6=k%6:=Int.tmod_eq_emod_of_nonneg hk.1;rw[t1];(repeat' (first|(with_reducible intro _)|(with_reducible apply And.intro)|(with_reducible refine⟨_,k9 _ _ _,?_⟩;try simp only[go_sem,zA,↓reduceIte,↓reduceDIte,zB,zC,zD,zE,zF,zG,zH,zI])|fail));all_goals first|(exfalso;omega)|rfl)
 exact h.fE [(54,1000),(1000,54)] rfl
theorem SR(k:Int)(n0: ¬k%6=0)(n1: ¬k%6=1)(n2: ¬k%6=2)(k3:k%6=3):HC env 49 [.iv (.int .u8) k] [] (.agg [.iv (.int .i64) (bE k).1,.iv (.int .u8) (bE k).2.1,.aE 1000]) [(1000,.arr bd (bE k).2.2)]:=by
 (have e:bE k=(1,1,[bc (0,0) [97] [97],bc (0,0) [98] [98],bc (0,0) [97,98] [97,98,99,49],bc (0,0) [99] [99]]):=by unfold bE;rw[if_neg n0,if_neg n1,if_neg n2,if_pos k3])
 rw[e];clear e;(have h:HC env 49 [.iv (.int .u8) k] [] (.agg [.iv (.int .i64) (1:Int),.iv (.int .u8) (1:Int),.aE 66]) [(66,.arr bd ((1,1,[bc (0,0) [97] [97],bc (0,0) [98] [98],bc (0,0) [97,98] [97,98,99,49],bc (0,0) [99] [99]]):bn).2.2)]:=by refine HC.aJ (m:=2000) ag zh rfl rfl rfl rfl (by kernel_rfl) ?_;intro hx ji;simp only[Try.f49];simp only[go_sem,zA,↓reduceIte,↓reduceDIte,zB,zC,zD,zE,zF,zG,zH,zI];have hk:=iC hx.1;have t1:Int.tmod k 6=k%6:=Int.tmod_eq_emod_of_nonneg hk.1;rw[t1];(repeat' (first|(with_reducible intro _)|(with_reducible apply And.intro)|(with_reducible refine⟨_,k9 _ _ _,?_⟩;try simp only[go_sem,zA,↓reduceIte,↓reduceDIte,zB,zC,zD,zE,zF,zG,zH,zI])|fail));all_goals first|(exfalso;omega)|rfl)
 exact h.fE [(66,1000),(1000,66)] rfl
theorem SS(k:Int)(n0: ¬k%6=0)(n1: ¬k%6=1)(n2: ¬k%6=2)(n3: ¬k%6=3)(k4:k%6=4):HC env 49 [.iv (.int .u8) k] [] (.agg [.iv (.int .i64) (bE k).1,.iv (.int .u8) (bE k).2.1,.aE 1000]) [(1000,.arr bd (bE k).2.2)]:=by
 (have e:bE k=(1,1,[bc (0,0) [97] [97],(0,0,[98],[98],0),(0,0,[99],[98],7),(0,0,[98],[99],9)]):=by unfold bE;rw[if_neg n0,if_neg n1,if_neg n2,if_neg n3,if_pos k4])
 rw[e];clear e;(have h:HC env 49 [.iv (.int .u8) k] [] (.agg [.iv (.int .i64) (1:Int),.iv (.int .u8) (1:Int),.aE 75]) [(75,.arr bd ((1,1,[bc (0,0) [97] [97],(0,0,[98],[98],0),(0,0,[99],[98],7),(0,0,[98],[99],9)]):bn).2.2)]:=by refine HC.aJ (m:=2000) ag zh rfl rfl rfl rfl (by kernel_rfl) ?_;intro hx ji;simp only[Try.f49];simp only[go_sem,zA,↓reduceIte,↓reduceDIte,zB,zC,zD,zE,zF,zG,zH,zI];have hk:=iC hx.1;have t1:Int.tmod k 6=k%6:=Int.tmod_eq_emod_of_nonneg hk.1;rw[t1];(repeat' (first|(with_reducible intro _)|(with_reducible apply And.intro)|(with_reducible refine⟨_,k9 _ _ _,?_⟩;try simp only[go_sem,zA,↓reduceIte,↓reduceDIte,zB,zC,zD,zE,zF,zG,zH,zI])|fail));all_goals first|(exfalso;omega)|rfl)
 exact h.fE [(75,1000),(1000,75)] rfl
theorem SU(k:Int)(n0: ¬k%6=0)(n1: ¬k%6=1)(n2: ¬k%6=2)(n3: ¬k%6=3)(n4: ¬k%6=4):HC env 49 [.iv (.int .u8) k] [] (.agg [.iv (.int .i64) (bE k).1,.iv (.int .u8) (bE k).2.1,.aE 1000]) [(1000,.arr bd (bE k).2.2)]:=by
 (have e:bE k=(1,1,[bc (0,0) [97] [97],bc (0,0) [97] [65],bc (0,0) [97,97] [66],bc (0,0) [98] [98],(0,0,[98],[],20)]):=by unfold bE;rw[if_neg n0,if_neg n1,if_neg n2,if_neg n3,if_neg n4])
 rw[e];clear e;(have h:HC env 49 [.iv (.int .u8) k] [] (.agg [.iv (.int .i64) (1:Int),.iv (.int .u8) (1:Int),.aE 18]) [(18,.arr bd ((1,1,[bc (0,0) [97] [97],bc (0,0) [97] [65],bc (0,0) [97,97] [66],bc (0,0) [98] [98],(0,0,[98],[],20)]):bn).2.2)]:=by refine HC.aJ (m:=2000) ag zh rfl rfl rfl rfl (by kernel_rfl) ?_;intro hx ji;simp only[Try.f49];simp only[go_sem,zA,↓reduceIte,↓reduceDIte,zB,zC,zD,zE,zF,zG,zH,zI];have hk:=iC hx.1;have t1:Int.tmod k 6=k%6:=Int.tmod_eq_emod_of_nonneg hk.1;rw[t1];(repeat' (first|(with_reducible intro _)|(with_reducible apply And.intro)|(with_reducible refine⟨_,k9 _ _ _,?_⟩;try simp only[go_sem,zA,↓reduceIte,↓reduceDIte,zB,zC,zD,zE,zF,zG,zH,zI])|fail));all_goals first|(exfalso;omega)|rfl)
 exact h.fE [(18,1000),(1000,18)] rfl
theorem Zm(k:Int):HC env 49 [.iv (.int .u8) k] [] (.agg [.iv (.int .i64) (bE k).1,.iv (.int .u8) (bE k).2.1,.aE 1000]) [(1000,.arr bd (bE k).2.2)]:=by
 by_cases h0:k%6=0;(·exact SO k h0);by_cases h1:k%6=1;(·exact SP k h0 h1);by_cases h2:k%6=2;(·exact SQ k h0 h1 h2);by_cases h3:k%6=3;(·exact SR k h0 h1 h2 h3);by_cases h4:k%6=4
 (·exact SS k h0 h1 h2 h3 h4);exact SU k h0 h1 h2 h3 h4
end Go.Proofs.Ytefpgfdemmllpaa
namespace Go.Proofs.Ytefpgfdemmllpaa
attribute[local go_sem←]Bool.decide_and Bool.decide_or decide_not
attribute[local go_sem]Int.reduceEq not_true_eq_false not_false_eq_true false_implies List.append_assoc
set_option maxHeartbeats 4000000
set_option maxRecDepth 100000
def ft(n:Int)(rs:List Rl)(r:Rl):List Rl:=if dM n (rs++ [r]) rs.length=true then rs++ [r]else rs
def ee(n:Int):List wB→List Rl→List Rl|[],out=>out|y::ys,out=>ee n ys (ft n out (cW y n))
def eB(x:AS):bn:=((bE x.1).1,(bE x.1).2.1,ee (bE x.1).1 (x.2.2.take 4) ((bE x.1).2.2.drop (x.2.1%2).toNat))
theorem zi(k:Int):((bE k).1=1∨(bE k).1=2)∧(bE k).2.1=1∧3≤(bE k).2.2.length∧(bE k).2.2.length≤5:=by unfold bE;(repeat' split);all_goals decide
theorem zj(n:Int)(rs:List Rl)(r:Rl):rs.length≤(ft n rs r).length∧(ft n rs r).length≤rs.length+1:=by unfold ft;split<;>simp
def am6(id:Nat)(p:PV)(xs view:List Rl):Prop:=(p= .aE id∧view=xs)∨ ∃off len,p= .iH id 5 off len∧view=(xs.drop off).take len∧off+len≤xs.length∧off<xs.length
theorem SV(x:AS):PC env 29 [⟨iO,x⟩] al (eB x):=by
 obtain⟨xb,xd,xm⟩:=x;refine PC.aJ (m:=2000) ag ME rfl rfl rfl rfl (by kernel_rfl) ?_;intro hx;simp only[Try.f29];simp only[go_sem,zA,↓reduceIte,↓reduceDIte,zB,zC,zD,zE,zF,zG,zH,zI]
 refine⟨_,_,Zm xb,rfl,?_⟩;simp only[go_sem,zA,↓reduceIte,↓reduceDIte,zB,zC,zD,zE,zF,zG,zH,zI];have hxd:=iC hx.1.2.1;have Io:xm.length≤9223372036854775807:=hx.1.2.2.1
 dsimp only at hxd;have t1:Int.tmod xd 2=xd%2:=Int.tmod_eq_emod_of_nonneg hxd.1;rw[t1];have hbf:=zi xb;generalize hB:bE xb=B at hbf;obtain⟨n,a,rs⟩:=B;dsimp only at hbf⊢
 (have SN:0<n:=by omega);have oz:((rs.drop (xd%2).toNat).take (rs.length-(xd%2).toNat))=rs.drop (xd%2).toNat:=List.take_of_length_le (by rw[List.length_drop];omega)
 have hlr:(rs.drop (xd%2).toNat).length=rs.length-(xd%2).toNat:=List.length_drop ..;(have hE:eB (xb,xd,xm)=(n,a,ee n (xm.take 4) (rs.drop (xd%2).toNat)):=by unfold eB;dsimp only;rw[hB])
 rw[hE];clear hE;intro _;refine⟨⟨by omega,by omega⟩,?_⟩;refine ao.bR (X:=Nat×PV×List Rl×List Rl) (fun(z:Nat×PV×List Rl×List Rl)=>[(4,.iv (.int .i64) (z.1:Int)),(7,.any),(9,.any),(14,.any)]) (fun(z:Nat×PV×List Rl×List Rl)=>[(3,.box [.iv (.int .i64) n,.iv (.int .u8) a,z.2.1]),(801000,.arr bd z.2.2.1)]) (fun(z:Nat×PV×List Rl×List Rl)=>am6 801000 z.2.1 z.2.2.1 z.2.2.2∧z.1≤xm.length∧z.1≤4∧z.2.2.2.length≤5+z.1∧1≤z.2.2.2.length∧ee n ((xm.take 4).drop z.1) z.2.2.2=ee n (xm.take 4) (rs.drop (xd%2).toNat)) (fun(z:Nat×PV×List Rl×List Rl)=>4-z.1) (0,.iH 801000 5 (xd%2).toNat (rs.length-(xd%2).toNat),rs,rs.drop (xd%2).toNat) ?_
 intro b1 b2 bo bp;simp(config:= {maxSteps:=4000000})only[go_sem,zA,↓reduceIte,↓reduceDIte,zB,zC,zD,zE,zF,zG,zH,zI]at bo bp;subst bo;subst bp;refine⟨(by refine⟨?_,?_,rfl,rfl⟩<;>repeat' (first|exact trivial|exact Or.inl rfl|exact Or.inr rfl|apply bM|apply bN|apply bO|apply bP|exact⟨(by show(_:Nat)<1000000000;omega),rfl,rfl⟩|rfl|(refine And.intro (Or.inl ?_) ?_)|(refine And.intro ?_ ?_))),?_,?_⟩
 (·exact⟨Or.inr ⟨_,_,rfl,oz.symm,by dsimp only;omega,by dsimp only;omega⟩,Nat.zero_le _,Nat.zero_le _,by show(rs.drop _).length≤_;omega,by show 1≤(rs.drop _).length;omega,rfl⟩)
 generalize ee n (xm.take 4) (rs.drop (xd%2).toNat)=R;intro⟨i,p,xs,out⟩⟨Hb,hi,hi4,Gm,pP,hR⟩back;dsimp only at Hb hi hi4 Gm pP hR;(have done: ¬(i<xm.length∧i<4)→out=R:=fun h=>by have:(xm.take 4).drop i=[]:=List.drop_of_length_le (by rw[List.length_take];omega);rw[this]at hR;exact hR)
 rcases Hb with⟨rfl,rfl⟩|⟨off,len,rfl,hv,Gu,Bo⟩;(·refine aw ag ⟨_,ME,rfl⟩ 2000 _ _ (by kernel_rfl) ?_;simp only[go_sem,zA,↓reduceIte,↓reduceDIte,zB,zC,zD,zE,zF,zG,zH,zI];refine⟨fun g1=>⟨fun g2=>?_,fun g2=>?_⟩,fun g1=>?_⟩;(·obtain⟨y,hy⟩: ∃y,xm[i]?=some y:=ak (by omega);refine⟨Int.natCast_nonneg _,y,hy,_,Ha y n SN,fun _=>⟨by omega,?_⟩⟩;(have e1:((out++ [cW y n]).length:Int)-1=(out.length:Int):=by simp only[List.length_append,List.length_cons,List.length_nil];omega);rw[e1];refine⟨aC (by omega) (by omega),_,(AR (n,a,out++ [cW y n]) out.length (by dsimp only;omega) (by simp)).dec,?_⟩;simp only[go_sem,zA,↓reduceIte,↓reduceDIte,zB,zC,zD,zE,zF,zG,zH,zI];(have hd:(xm.take 4)[i]?=some y:=by rw[List.getElem?_take,if_pos (by omega)];exact hy);rw[drop_cons hd]at hR;refine⟨fun g3=>?_,fun g3=>?_⟩;(·have e3:ft n out (cW y n)=out:=if_neg g3;rw[e1];refine⟨aC (by omega) (by omega),⟨by omega,by simp only[List.length_append,List.length_cons,List.length_nil];omega⟩,aC (by omega) (by omega),?_⟩;refine back _ (i+1,.iH 801000 5 0 ((out.length:Int).toNat-0),out++ [cW y n],out) ?_ ⟨Or.inr ⟨_,_,rfl,by simp,by simp,by simp⟩,by dsimp only;omega,by dsimp only;omega,by dsimp only;omega,pP,?_⟩ (by dsimp only;omega);(·exact(by refine⟨?_,?_,rfl,rfl⟩<;>repeat' (first|exact trivial|exact Or.inl rfl|exact Or.inr rfl|apply bM|apply bN|apply bO|apply bP|exact⟨(by show(_:Nat)<1000000000;omega),rfl,rfl⟩|rfl|(refine And.intro (Or.inl ?_) ?_)|(refine And.intro ?_ ?_))));·dsimp only;have:ee n (y::(xm.take 4).drop (i+1)) out=ee n ((xm.take 4).drop (i+1)) (ft n out (cW y n)):=rfl;rw[this,e3]at hR;exact hR);·have e3:ft n out (cW y n)=out++ [cW y n]:=if_pos g3;refine⟨aC (by omega) (by omega),?_⟩;refine back _ (i+1,.aE 801000,out++ [cW y n],out++ [cW y n]) ?_ ⟨Or.inl ⟨rfl,rfl⟩,by dsimp only;omega,by dsimp only;omega,by simp only[List.length_append,List.length_cons,List.length_nil];omega,by simp,?_⟩ (by dsimp only;omega);(·exact(by refine⟨?_,?_,rfl,rfl⟩<;>repeat' (first|exact trivial|exact Or.inl rfl|exact Or.inr rfl|apply bM|apply bN|apply bO|apply bP|exact⟨(by show(_:Nat)<1000000000;omega),rfl,rfl⟩|rfl|(refine And.intro (Or.inl ?_) ?_)|(refine And.intro ?_ ?_))));·dsimp only;have:ee n (y::(xm.take 4).drop (i+1)) out=ee n ((xm.take 4).drop (i+1)) (ft n out (cW y n)):=rfl;rw[this,e3]at hR;exact hR);(·rw[done (by omega)]);·rw[done (by omega)])
 ·refine aw ag ⟨_,ME,rfl⟩ 2000 _ _ (by kernel_rfl) ?_;simp only[go_sem,zA,↓reduceIte,↓reduceDIte,zB,zC,zD,zE,zF,zG,zH,zI];(have hlen:len=out.length:=by rw[hv,List.length_take,List.length_drop];omega);rw[←hv];refine⟨fun g1=>⟨fun g2=>?_,fun g2=>?_⟩,fun g1=>?_⟩;(·obtain⟨y,hy⟩: ∃y,xm[i]?=some y:=ak (by omega);refine⟨Int.natCast_nonneg _,y,hy,_,Ha y n SN,fun _=>⟨⟨.inl Bo,by omega⟩,?_⟩⟩;(have e1:((out++ [cW y n]).length:Int)-1=(out.length:Int):=by simp only[List.length_append,List.length_cons,List.length_nil];omega);rw[e1];refine⟨aC (by omega) (by omega),_,(AR (n,a,out++ [cW y n]) out.length (by dsimp only;omega) (by simp)).dec,?_⟩;simp only[go_sem,zA,↓reduceIte,↓reduceDIte,zB,zC,zD,zE,zF,zG,zH,zI];(have hd:(xm.take 4)[i]?=some y:=by rw[List.getElem?_take,if_pos (by omega)];exact hy);rw[drop_cons hd]at hR;refine⟨fun g3=>?_,fun g3=>?_⟩;(·have e3:ft n out (cW y n)=out:=if_neg g3;rw[e1];refine⟨aC (by omega) (by omega),⟨by omega,by simp only[List.length_append,List.length_cons,List.length_nil];omega⟩,aC (by omega) (by omega),?_⟩;refine back _ (i+1,.iH 801000 5 0 ((out.length:Int).toNat-0),out++ [cW y n],out) ?_ ⟨Or.inr ⟨_,_,rfl,by simp,by simp,by simp⟩,by dsimp only;omega,by dsimp only;omega,by dsimp only;omega,pP,?_⟩ (by dsimp only;omega);(·exact(by refine⟨?_,?_,rfl,rfl⟩<;>repeat' (first|exact trivial|exact Or.inl rfl|exact Or.inr rfl|apply bM|apply bN|apply bO|apply bP|exact⟨(by show(_:Nat)<1000000000;omega),rfl,rfl⟩|rfl|(refine And.intro (Or.inl ?_) ?_)|(refine And.intro ?_ ?_))));·dsimp only;have:ee n (y::(xm.take 4).drop (i+1)) out=ee n ((xm.take 4).drop (i+1)) (ft n out (cW y n)):=rfl;rw[this,e3]at hR;exact hR);·have e3:ft n out (cW y n)=out++ [cW y n]:=if_pos g3;refine⟨aC (by omega) (by omega),?_⟩;refine back _ (i+1,.aE 801000,out++ [cW y n],out++ [cW y n]) ?_ ⟨Or.inl ⟨rfl,rfl⟩,by dsimp only;omega,by dsimp only;omega,by simp only[List.length_append,List.length_cons,List.length_nil];omega,by simp,?_⟩ (by dsimp only;omega);(·exact(by refine⟨?_,?_,rfl,rfl⟩<;>repeat' (first|exact trivial|exact Or.inl rfl|exact Or.inr rfl|apply bM|apply bN|apply bO|apply bP|exact⟨(by show(_:Nat)<1000000000;omega),rfl,rfl⟩|rfl|(refine And.intro (Or.inl ?_) ?_)|(refine And.intro ?_ ?_))));·dsimp only;have:ee n (y::(xm.take 4).drop (i+1)) out=ee n ((xm.take 4).drop (i+1)) (ft n out (cW y n)):=rfl;rw[this,e3]at hR;exact hR);(·rw[done (by omega)]);·rw[done (by omega)]
end Go.Proofs.Ytefpgfdemmllpaa
