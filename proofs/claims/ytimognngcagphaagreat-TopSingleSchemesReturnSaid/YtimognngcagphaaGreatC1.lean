/- Contracts: made schemes of several modes, walks that numbers choose. Nothing here is trusted; no condition. -/
import Derived.Test.YtimognngcagphaaGreatA9
import Derived.Test.YtimognngcagphaaGreatProg
set_option linter.all false
set_option maxHeartbeats 8000000
set_option maxRecDepth 100000
namespace Go.Proofs.YtimognngcagphaaGreat
section
theorem aV {α:Sort _} {x:α} {B C:Prop} (h:C):(x=x∨B)∧C:=⟨.inl rfl,h⟩
theorem aW {α:Sort _} {x:α} {A B C:Prop} (h:C):(A∨x=x∨B)∧C:=⟨.inr (.inl rfl),h⟩
theorem aX {α β:Sort _} {x:α} {y:β} {A B D C:Prop} (h:C):(A∨B∨D∨x=x∧y=y)∧C:=⟨.inr (.inr (.inr ⟨rfl,rfl⟩)),h⟩
theorem bg {α β:Sort _} {x:α} {y:β} {A B D C:Prop} (h:C):(A∨B∨(x=x∧y=y∧True)∨D)∧C:=⟨.inr (.inr (.inl ⟨rfl,rfl,trivial⟩)),h⟩
theorem v8 {s t:St}(h:Le s t:=by refine⟨?_,?_,rfl,rfl⟩<;>repeat' (first|exact trivial|exact Or.inl rfl|exact Or.inr rfl|apply aV|apply aW|apply aX|apply bg|exact⟨(by show(_:Nat)<1000000000;omega),rfl,rfl⟩|rfl|(refine And.intro (Or.inl ?_) ?_)|(refine And.intro ?_ ?_))):Le s t:=h
attribute[go_sem_proc]Nat.reduceBEq Nat.reduceAdd Nat.reduceSub Nat.reduceMul Nat.reduceLeDiff Int.reduceLT Int.reduceLE Int.reduceToNat Int.reduceNeg
attribute[go_sem_proc↓]reduceIte reduceDIte
theorem u3(p q:Prop)[Decidable (p∧q)][Decidable p][Decidable q]:decide (p∧q)=(decide p&&decide q):=Bool.decide_and p q
theorem u4(p q:Prop)[Decidable (p∨q)][Decidable p][Decidable q]:decide (p∨q)=(decide p||decide q):=Bool.decide_or p q
theorem u5{p:Prop}[Decidable p][Decidable ¬p]:decide (¬p)=!decide p:=decide_not
end
section
abbrev me:Ty:=(.st (.pair (.int .i64) (.pair (.int .i64) (.pair .bool (.int .u8)))))
abbrev fE:Ty:=(.st (.pair .str (.int .u64)))
abbrev iX:Ty:=(.st (.pair (.sl (.int .u8)) (.pair (.sl (.int .u8)) (.pair (.int .u8) (.pair (.int .u8) (.int .u8))))))
abbrev oy:Ty:=(.st (.pair (.int .u8) (.pair (.int .u8) (.sl iX))))
abbrev ba:Ty:=(.st (.pair (.int .i64) (.pair (.int .i64) (.pair .str (.pair .str (.int .i64))))))
abbrev ai:Ty:=(.st (.pair (.int .i64) (.pair (.int .u8) (.sl ba))))
abbrev aP:Ty:=(.st (.pair .str (.int .i64)))
abbrev mf:Ty:=(.st (.pair (.sl (.int .i64)) (.pair (.sl (.int .i64)) (.sl (.int .i64)))))
abbrev RunT:Ty:=(.st (.pair .str (.pair .str (.pair (.int .i64) (.pair (.int .i64) .bool)))))
abbrev vr:Ty:=(.st (.pair .str (.pair .str .str)))
abbrev ky:Ty:=(.st (.pair (.int .i64) (.pair (.int .i64) (.int .u8))))
abbrev fR:Ty:=(.st (.pair ky (.int .i64)))
abbrev fv:Ty:=(.st (.pair (.int .i64) (.int .i64)))
abbrev ju:Ty:=(.st (.pair fv .bool))
abbrev jd:Ty:=(.st (.pair ai (.pair .str (.mp fR ju))))
abbrev bB:Ty:=(.st (.pair ky .str))
abbrev aU:Ty:=(.st (.pair (.sl (.int .u8)) (.pair .bool (.pair fv (.mp bB (.int .i64))))))
abbrev aE:Ty:=(.st (.pair (.int .i64) .str))
abbrev Im:Ty:=(.st (.pair ai (.pair .aL (.pair .aL (.int .i64)))))
abbrev du:Ty:=(.st (.pair (.int .i64) (.int .i64)))
abbrev xB:Ty:=(.st (.pair (.ptr .unit) (.sl (.int .u8))))
abbrev Io:Ty:=(.st (.pair ai (.pair .aL (.pair .aL (.int .i64)))))
abbrev fw:Ty:=(.st (.pair (.int .i64) (.int .i64)))
abbrev Ip:Ty:=(.st (.pair ai (.pair .aL (.pair .aL (.int .i64)))))
abbrev sx:Ty:=(.st (.pair (.st (.pair .bool (.pair .bool (.pair .bool (.pair .bool (.pair .bool (.pair .bool (.pair .bool .bool)))))))) (.st (.pair (.sl (.int .i64)) (.pair (.sl (.int .i64)) (.pair (.sl (.int .i64)) (.pair (.sl (.int .i64)) (.pair (.sl (.int .i64)) (.pair (.sl (.int .i64)) (.pair (.sl (.int .i64)) (.sl (.int .i64))))))))))))
abbrev mg:Ty:=(.st (.pair (.int .i64) .str))
abbrev aG:Ty:=(.st (.pair mg mg))
abbrev eT:Ty:=(.st (.pair .str (.pair .str .bool)))
abbrev qC:Ty:=(.st (.pair ai (.mp aG (.sl eT))))
abbrev cF:Ty:=(.st (.pair aG eT))
abbrev fY:Ty:=(.st (.pair .str (.sl cF)))
def Ky:List (Nat×Ty):=[(1,.aL),(2,(.int .i64)),(3,(.int .i64)),(4,.bool),(5,(.int .u8)),(6,(.int .u8)),(7,me),(8,me),(9,.str),(10,.str),(11,.str),(12,(.int .u64)),(13,fE),(14,fE),(21,(.int .i32)),(22,(.sl iX)),(23,oy),(24,oy),(25,(.sl (.int .u8))),(26,.aL),(27,(.sl ba)),(28,ai),(29,ai),(30,.aL),(31,(.int .i64)),(32,.aL),(33,.aL),(34,.aL),(35,(.sl aP)),(37,.aL),(38,aP),(39,aP),(40,.aL),(41,(.sl (.int .i64))),(43,.aL),(44,mf),(45,mf),(46,.aL),(47,.aL),(49,.aL),(50,(.st (.pair (.int .i64) (.int .i64)))),(52,.aL),(53,RunT),(54,RunT),(55,.aL),(56,.aL),(57,.aL),(58,.aL),(59,ba),(60,ba),(62,.aL),(63,(.sl .bool)),(64,.aL),(65,vr),(66,vr),(68,.aL),(69,.aL),(70,(.ptr jd)),(71,(.mp fR ju)),(72,jd),(73,jd),(74,(.ptr aU)),(75,ky),(76,ky),(77,bB),(78,bB),(79,(.mp bB (.int .i64))),(80,fv),(81,fv),(82,aU),(83,aU),(84,.aL),(85,(.sl (.ptr aU))),(86,(.sl (.ptr aU))),(87,.aL),(89,.aL),(91,.aL),(92,.aL),(93,.aL),(94,aE),(95,aE),(96,.aL),(97,.aL),(98,Im),(99,Im),(100,(.mp aE (.int .i64))),(102,.aL),(103,(.mp .str (.int .i64))),(104,.aL),(105,.aL),(106,.aL),(107,.aL),(108,.aL),(109,.aL),(110,.aL),(111,(.int .u8)),(112,.aL),(113,.aL),(114,.aL),(115,.aL),(116,(.mp (.int .i64) (.sl (.int .i64)))),(117,.aL),(118,(.mp (.int .i64) du)),(119,.aL),(120,du),(121,du),(123,.aL),(124,(.ptr .unit)),(125,xB),(126,xB),(130,.aL),(131,.aL),(132,.aL),(133,.aL),(134,Io),(135,Io),(136,(.mp (.int .i64) (.int .i64))),(138,.aL),(140,.aL),(141,fw),(142,fw),(143,.aL),(144,.aL),(145,Ip),(146,Ip),(147,(.mp fw (.int .i64))),(149,.aL),(150,.aL),(151,iX),(152,iX),(154,.aL),(155,.aL),(157,.aL),(158,(.sl bB)),(160,.aL),(161,.aL),(162,ju),(163,ju),(164,.aL),(165,.aL),(166,.aL),(169,.aL),(170,.aL),(171,.aL),(172,.aL),(173,.aL),(174,.aL),(175,.aL),(176,(.mp (.int .i64) (.mp aE (.int .i64)))),(177,.aL),(179,.aL),(180,.aL),(181,.aL),(182,.aL),(183,.aL),(184,.aL),(185,.aL),(186,.aL),(187,.aL),(188,.aL),(189,.aL),(190,.aL),(191,.aL),(192,.aL),(193,.aL),(195,(.mp (.int .i64) (.mp (.int .i64) (.int .i64)))),(196,.aL),(197,.aL),(198,(.mp (.int .i64) (.mp fw (.int .i64)))),(199,.aL),(201,.aL),(202,.aL),(203,(.st (.pair .bool (.pair .bool (.pair .bool (.pair .bool (.pair .bool (.pair .bool (.pair .bool .bool))))))))),(204,(.st (.pair (.sl (.int .i64)) (.pair (.sl (.int .i64)) (.pair (.sl (.int .i64)) (.pair (.sl (.int .i64)) (.pair (.sl (.int .i64)) (.pair (.sl (.int .i64)) (.pair (.sl (.int .i64)) (.sl (.int .i64))))))))))),(205,sx),(206,sx),(207,.aL),(208,.aL),(209,(.ptr .unit)),(210,(.mp aG (.sl eT))),(211,qC),(212,qC),(213,(.ptr fY)),(214,(.sl cF)),(215,fY),(216,fY),(217,.aL),(218,mg),(219,mg),(220,aG),(221,aG),(222,eT),(223,eT),(224,cF),(225,cF),(226,.aL),(227,.aL),(228,(.sl (.ptr fY))),(229,.aL),(230,.aL),(231,.aL),(232,fR),(233,fR),(235,.aL),(236,.aL),(237,(.sl aE)),(238,.aL),(239,.aL),(240,(.int .u64)),(242,(.sl (.sl (.int .i64)))),(243,.aL),(245,.aL),(246,(.sl fw)),(247,(.sl eT)),(248,.aL),(249,.aL),(250,.aL),(251,.aL),(252,.aL),(253,.aL),(254,.aL),(255,(.int .i64)),(257,.aL),(258,.aL),(259,.aL),(260,.aL),(261,.aL),(262,(.int .u32)),(263,.aL),(264,(.int .u64)),(265,.aL),(266,.aL),(267,(.int .u64)),(268,.aL),(269,.aL),(270,.aL),(272,.aL),(275,.aL),(281,(.int .u8)),(282,(.int .u8)),(283,.aL),(284,(.int .i32)),(285,(.int .i32))]
def strs:List Nat:=[7,8,13,14,23,24,28,29,38,39,44,45,53,54,59,60,65,66,72,73,75,76,77,78,80,81,82,83,94,95,98,99,120,121,125,126,134,135,141,142,145,146,151,152,162,163,205,206,211,212,215,216,218,219,220,221,222,223,224,225,232,233]
def NP:List Nat:=[7,8,38,39,50,53,54,59,60,65,66,75,76,77,78,80,81,94,95,120,121,141,142,162,163,203,218,219,220,221,222,223,224,225,232,233]
def fns:List (Nat×(List Ty×Ty)):=[(2,([],.unit)),(3,([oy,(.sl (.int .u8))],.bool)),(4,([oy,(.sl (.int .u8))],.bool)),(5,([oy,(.sl (.int .u8))],.bool)),(6,([],.bool)),(7,([oy],ai)),(8,([ai],(.int .i64))),(9,([ai],.bool)),(10,([(.sl (.int .u8)),(.int .i64)],.str)),(11,([ai,.str,(.int .i64)],(.bG (.sl aP) (.int .i64)))),(12,([ai,.str,(.int .i64)],(.bG (.sl aP) (.int .i64)))),(13,([oy],ai)),(14,([ai],(.bG ai (.sl (.int .i64))))),(15,([(.sl (.int .u8)),(.int .i64)],.str)),(16,([ai],(.int .i64))),(17,([ai],mf)),(18,([(.sl aP),(.sl aP)],.bool)),(19,([ai,(.st (.pair (.int .i64) (.int .i64))),(.sl (.int .u8))],(.bG (.sl (.int .i64)) (.int .i64)))),(20,([ai,(.int .i64)],(.bG (.sl (.int .i64)) (.bG (.int .i64) (.int .i64))))),(21,([ai,(.sl (.int .i64))],RunT)),(22,([ai,(.int .i64)],.bool)),(23,([ai,.str],.bool)),(24,([ai,.str,.str],(.int .i64))),(25,([ai,.str],(.bG .str (.bG (.int .i64) (.int .i64))))),(26,([oy],ai)),(27,([ai],.bool)),(28,([ai],mf)),(29,([ai],(.sl .bool))),(30,([ai],(.bG vr (.int .i64)))),(31,([.str],.bool)),(32,([ai],.bool)),(39,([ai],.bool)),(40,([.str],.bool)),(41,([aE],(.int .i64))),(42,([aE,ba],(.bG aE .bool))),(44,([ai,(.int .i64)],.bool)),(47,([aP],(.int .i64))),(48,([aP],.str)),(49,([(.sl aP)],(.sl aP))),(51,([ai],(.sl .bool))),(52,([ai],(.sl .bool))),(53,([ai,ba],.bool)),(54,([ai],(.int .u8))),(55,([(.int .u8),(.int .i64)],.bool)),(56,([ai],(.int .u8))),(59,([ba,(.int .u8),(.int .u8)],.bool)),(60,([ai,(.int .i64)],.bool)),(61,([ai],(.mp (.int .i64) (.sl (.int .i64))))),(62,([ai,(.mp (.int .i64) (.sl (.int .i64))),(.sl .bool)],(.mp (.int .i64) du))),(63,([du,(.int .i64)],du)),(66,([(.int .i64)],(.int .i64))),(69,([.str,.str],.bool)),(70,([fw],(.int .i64))),(73,([iX,(.int .i64)],ba)),(74,([ai,(.int .i64)],.bool)),(75,([ai],(.bG (.int .i64) (.int .i64)))),(76,([ai,(.int .i64)],.bool)),(77,([ai],(.sl (.int .i64)))),(78,([ai],(.sl (.int .i64)))),(79,([ai,(.int .i64)],(.sl .bool))),(80,([ai,(.int .i64)],.bool)),(81,([ai],(.bG .str .bool))),(82,([.str],.bool)),(83,([ai],(.bG (.int .i64) (.int .i64)))),(84,([(.ptr jd),ky,ba],(.bG ky .bool))),(87,([fv,fv],fv)),(88,([fv,fv],.bool)),(90,([(.ptr jd),ky],.bool)),(92,([.str],.bool)),(97,([(.sl (.int .i64))],(.int .i64))),(98,([(.int .i64),(.int .i64)],(.int .i64))),(99,([.str,.str],(.int .i64))),(100,([(.st (.pair (.int .i64) (.int .i64))),.str,.str],ba)),(104,([ai,(.int .i64)],.bool)),(105,([(.int .i64)],(.int .u8))),(107,([ba],.bool)),(108,([(.sl (.int .i64)),(.sl (.int .i64))],(.int .i64))),(109,([ba],.bool)),(110,([du,du],.bool)),(114,([.str,.str],.bool)),(117,([(.int .i64),(.int .i64),(.int .i64)],.bool)),(118,([.str],.bool)),(119,([.str],.bool)),(120,([ai,sx,.bool],sx)),(121,([(.sl (.int .i64)),(.sl (.int .i64))],.bool)),(126,([.str],.bool)),(127,([(.int .i64),ba],.bool)),(128,([(.sl ba),ba],.bool)),(129,([ai,(.int .i64)],.bool)),(130,([(.int .u8)],(.int .i64))),(132,([(.int .u64)],(.int .i64))),(133,([(.int .i64)],.bool)),(134,([.str],.bool)),(137,([(.sl (.int .i64)),(.sl (.int .i64))],(.int .i64))),(139,([(.sl eT),eT],.bool)),(140,([eT,.str,.str],eT)),(143,([eT],.bool)),(145,([(.sl ba),ba],(.int .i64))),(154,([(.int .u32)],(.int .i64))),(155,([(.int .u64)],(.int .i64))),(156,([(.sl eT),eT],(.int .i64))),(159,([(.int .i64)],(.int .u64))),(186,([(.ptr .unit)],(.int .i64))),(67,([(.int .i64),ba,(.ptr (.sl .bool))],(.bG (.int .i64) .bool))),(71,([fw,ba,(.ptr .str)],(.bG fw .bool))),(96,([aP,aP,(.ptr .aL),(.ptr .aL)],(.int .i64)))]
def RU:List (Nat×List (Option Ty)):=[(33,[none,none]),(34,[none,none]),(35,[none]),(36,[none,some (.ptr aU)]),(37,[none,none]),(38,[none,some (.ptr aU)]),(43,[none,some aE,some .str]),(45,[none,some .str,some (.int .i64)]),(46,[none,none,none]),(50,[some (.int .u8)]),(57,[some ai]),(58,[some ai]),(64,[none,some .str]),(65,[none]),(68,[none,some (.int .i64),some .str]),(72,[none,some fw,some .str]),(85,[none,some bB,some (.int .i64)]),(86,[none,some ky,some (.int .i64)]),(89,[none,some (.int .i64),some (.int .i64)]),(91,[none,some (.int .i64)]),(93,[none,none]),(94,[none,some aE,some (.int .i64)]),(95,[none,none]),(101,[some ai]),(102,[some (.int .i64),none]),(103,[some (.int .i64),none,none,none,none]),(106,[some ai,some (.int .i64),some (.int .u8),some .aL]),(111,[none]),(112,[none,none]),(113,[none,some (.int .i64),some (.int .i64)]),(115,[none,none]),(116,[none,some fw,some (.int .i64)]),(122,[none,none,some cF]),(123,[none,none]),(124,[none,some (.ptr fY)]),(125,[none,some (.ptr fY),some (.int .u8)]),(135,[some (.int .i64),none,none]),(136,[some (.sl (.int .i64))]),(141,[some (.sl cF),none]),(142,[some cF,none]),(144,[none,some mg]),(157,[some (.sl cF),none]),(181,[none]),(182,[none,some (.int .i64),some (.int .i64)]),(183,[none,some (.int .i64),some (.int .i64)]),(184,[none]),(185,[none,none])]
def bF7:List (Nat×Nat):=[(71,233),(79,78),(100,95),(103,9),(116,3),(118,3),(136,3),(147,142),(176,3),(195,3),(198,3),(210,221)]
noncomputable def env:Env:=aU6 Tryz.prog Ky strs NP fns RU bF7 [(29,27),(1032,27),(25,27),(1028,27),(72,41),(1073,41)] true [126] [(25,5)] [86,33,34,38,89,115,93,112,72,43,68,136,106,62,95,46,12,24,30] [74,90] [] [((33,15),[[],[8]]),((34,5),[[0,1,2,3,4,5,6,7,8,9,10,11,12,13,14,15],[0,1,2,3,4,5,6,7,8,9,10,11,12,14,13,15]]),((38,10),[[],[8]]),((11,17),[[],[13]]),((7,7),[[],[8]]),((115,16),[[],[10]]),((93,16),[[],[10]]),((112,16),[[],[10]]),((57,7),[[],[4]]),((122,1),[[],[6]]),((122,3),[[0,4,5,6,7,8,1,2,3,9,10,11],[0,4,5,6,7,8,9,1,2,3,10,11],[0,4,5,6,7,8,9,10,1,2,3,11]]),((122,4),[[0,1,2,3,4,5,6,7,8,9,10]]),((123,9),[[],[13]]),((123,11),[[],[13]]),((125,7),[[],[18]])] [] [(11,10),(11,11),(38,15),(38,16),(38,17),(36,7),(37,1),(72,1),(72,5),(72,18),(72,19),(72,20),(72,21),(72,24),(72,26),(43,1),(43,5),(43,18),(43,19),(43,20),(43,21),(43,24),(43,26),(68,1),(68,5),(68,18),(68,19),(68,20),(68,21),(68,24),(68,26),(106,1),(106,4),(106,5),(106,6),(106,17),(122,1),(122,3),(125,1),(81,1),(123,10),(123,12),(125,10),(81,3),(81,4),(81,5),(81,8),(120,11)] [((90, "Len"),(181,some 86)),((90, "Less"),(182,some 86)),((90, "Swap"),(183,some 86)),((90, "Push"),(185,none)),((90, "Pop"),(184,none))]
theorem ba1(t:Nat):env.emp t=false:=rfl
theorem ba2(f i:Nat):env.uo f i=NN [(11,10),(11,11),(38,15),(38,16),(38,17),(36,7),(37,1),(72,1),(72,5),(72,18),(72,19),(72,20),(72,21),(72,24),(72,26),(43,1),(43,5),(43,18),(43,19),(43,20),(43,21),(43,24),(43,26),(68,1),(68,5),(68,18),(68,19),(68,20),(68,21),(68,24),(68,26),(106,1),(106,4),(106,5),(106,6),(106,17),(122,1),(122,3),(125,1),(81,1),(123,10),(123,12),(125,10),(81,3),(81,4),(81,5),(81,8),(120,11)] f i:=rfl
theorem bF8(f i:Nat):env.fl f i=ab8 [((33,15),[[],[8]]),((34,5),[[0,1,2,3,4,5,6,7,8,9,10,11,12,13,14,15],[0,1,2,3,4,5,6,7,8,9,10,11,12,14,13,15]]),((38,10),[[],[8]]),((11,17),[[],[13]]),((7,7),[[],[8]]),((115,16),[[],[10]]),((93,16),[[],[10]]),((112,16),[[],[10]]),((57,7),[[],[4]]),((122,1),[[],[6]]),((122,3),[[0,4,5,6,7,8,1,2,3,9,10,11],[0,4,5,6,7,8,9,1,2,3,10,11],[0,4,5,6,7,8,9,10,1,2,3,11]]),((122,4),[[0,1,2,3,4,5,6,7,8,9,10]]),((123,9),[[],[13]]),((123,11),[[],[13]]),((125,7),[[],[18]])] f i:=rfl
theorem ba3(t:Nat):env.Hn t=ao t [74,90]:=rfl
theorem bF9(f:Nat):env.px f=false:=rfl
theorem bG0(f:Nat):env.nd f=ao f [86,33,34,38,89,115,93,112,72,43,68,136,106,62,95,46,12,24,30]:=rfl
theorem bG1(t:Nat):env.BW t=ao t [126]:=rfl
theorem bG2(t:Nat):env.ED t=look t [(25,5)]:=rfl
theorem bG3(d t:Nat):env.ro d t=NN [(29,27),(1032,27),(25,27),(1028,27),(72,41),(1073,41)] d t:=rfl
theorem bG4:env.tm=true:=rfl
theorem ae:aI env:=Vb (by kernel_rfl) (by kernel_rfl) (by kernel_rfl) (by kernel_rfl) (by kernel_rfl) (by kernel_rfl) (by kernel_rfl) (by kernel_rfl) (by kernel_rfl) (by kernel_rfl)
theorem aj3:env.mapKey 71=some 233:=rfl
theorem aj4:env.mapKey 79=some 78:=rfl
theorem V3:env.mapKey 100=some 95:=rfl
theorem V4:env.mapKey 103=some 9:=rfl
theorem V5:env.mapKey 116=some 3:=rfl
theorem V6:env.mapKey 118=some 3:=rfl
theorem V7:env.mapKey 136=some 3:=rfl
theorem V8:env.mapKey 147=some 142:=rfl
theorem V9:env.mapKey 176=some 3:=rfl
theorem Wa:env.mapKey 195=some 3:=rfl
theorem Wb:env.mapKey 198=some 3:=rfl
theorem Wc:env.mapKey 210=some 221:=rfl
theorem bG5:env.ty 1=some .aL:=rfl
theorem bG6:env.ty 2=some (.int .i64):=rfl
theorem bG7:env.ty 3=some (.int .i64):=rfl
theorem bG8:env.ty 4=some .bool:=rfl
theorem bG9:env.ty 5=some (.int .u8):=rfl
theorem bH0:env.ty 6=some (.int .u8):=rfl
theorem bH1:env.ty 7=some me:=rfl
theorem bH2:env.ty 8=some me:=rfl
theorem bH3:env.ty 9=some .str:=rfl
theorem ba4:env.ty 10=some .str:=rfl
theorem ba5:env.ty 11=some .str:=rfl
theorem ba6:env.ty 12=some (.int .u64):=rfl
theorem ba7:env.ty 13=some fE:=rfl
theorem ba8:env.ty 14=some fE:=rfl
theorem ba9:env.ty 21=some (.int .i32):=rfl
theorem bb0:env.ty 22=some (.sl iX):=rfl
theorem bb1:env.ty 23=some oy:=rfl
theorem bb2:env.ty 24=some oy:=rfl
theorem bb3:env.ty 25=some (.sl (.int .u8)):=rfl
theorem bb4:env.ty 26=some .aL:=rfl
theorem bb5:env.ty 27=some (.sl ba):=rfl
theorem bb6:env.ty 28=some ai:=rfl
theorem bb7:env.ty 29=some ai:=rfl
theorem bb8:env.ty 30=some .aL:=rfl
theorem bb9:env.ty 31=some (.int .i64):=rfl
theorem bc0:env.ty 32=some .aL:=rfl
theorem bc1:env.ty 33=some .aL:=rfl
theorem bc2:env.ty 34=some .aL:=rfl
theorem bc3:env.ty 35=some (.sl aP):=rfl
theorem bc4:env.ty 37=some .aL:=rfl
theorem bc5:env.ty 38=some aP:=rfl
theorem N8:env.ty 39=some aP:=rfl
theorem bc6:env.ty 40=some .aL:=rfl
theorem bc7:env.ty 41=some (.sl (.int .i64)):=rfl
theorem bc8:env.ty 43=some .aL:=rfl
theorem bc9:env.ty 44=some mf:=rfl
theorem bd0:env.ty 45=some mf:=rfl
theorem bd1:env.ty 46=some .aL:=rfl
theorem bd2:env.ty 47=some .aL:=rfl
theorem bd3:env.ty 49=some .aL:=rfl
theorem bd4:env.ty 50=some (.st (.pair (.int .i64) (.int .i64))):=rfl
theorem bd5:env.ty 52=some .aL:=rfl
theorem bd6:env.ty 53=some RunT:=rfl
theorem bd7:env.ty 54=some RunT:=rfl
theorem bd8:env.ty 55=some .aL:=rfl
theorem bd9:env.ty 56=some .aL:=rfl
theorem be0:env.ty 57=some .aL:=rfl
theorem be1:env.ty 58=some .aL:=rfl
theorem be2:env.ty 59=some ba:=rfl
theorem be3:env.ty 60=some ba:=rfl
theorem be4:env.ty 62=some .aL:=rfl
theorem be5:env.ty 63=some (.sl .bool):=rfl
theorem be6:env.ty 64=some .aL:=rfl
theorem be7:env.ty 65=some vr:=rfl
theorem be8:env.ty 66=some vr:=rfl
theorem be9:env.ty 68=some .aL:=rfl
theorem bf0:env.ty 69=some .aL:=rfl
theorem bf1:env.ty 70=some (.ptr jd):=rfl
theorem bf2:env.ty 71=some (.mp fR ju):=rfl
theorem bf3:env.ty 72=some jd:=rfl
theorem bf4:env.ty 73=some jd:=rfl
theorem bf5:env.ty 74=some (.ptr aU):=rfl
theorem bf6:env.ty 75=some ky:=rfl
theorem bf7:env.ty 76=some ky:=rfl
theorem bf8:env.ty 77=some bB:=rfl
theorem bf9:env.ty 78=some bB:=rfl
theorem bg0:env.ty 79=some (.mp bB (.int .i64)):=rfl
theorem bg1:env.ty 80=some fv:=rfl
theorem bg2:env.ty 81=some fv:=rfl
theorem bg3:env.ty 82=some aU:=rfl
theorem bg4:env.ty 83=some aU:=rfl
theorem bg5:env.ty 84=some .aL:=rfl
theorem bg6:env.ty 85=some (.sl (.ptr aU)):=rfl
theorem bg7:env.ty 86=some (.sl (.ptr aU)):=rfl
theorem bg8:env.ty 87=some .aL:=rfl
theorem bg9:env.ty 89=some .aL:=rfl
theorem bh0:env.ty 91=some .aL:=rfl
theorem bh1:env.ty 92=some .aL:=rfl
theorem bh2:env.ty 93=some .aL:=rfl
theorem bh3:env.ty 94=some aE:=rfl
theorem bh4:env.ty 95=some aE:=rfl
theorem bh5:env.ty 96=some .aL:=rfl
theorem bh6:env.ty 97=some .aL:=rfl
theorem bh7:env.ty 98=some Im:=rfl
theorem bh8:env.ty 99=some Im:=rfl
theorem aj5:env.ty 100=some (.mp aE (.int .i64)):=rfl
theorem aj6:env.ty 102=some .aL:=rfl
theorem aj7:env.ty 103=some (.mp .str (.int .i64)):=rfl
theorem aj8:env.ty 104=some .aL:=rfl
theorem aj9:env.ty 105=some .aL:=rfl
theorem ak0:env.ty 106=some .aL:=rfl
theorem ak1:env.ty 107=some .aL:=rfl
theorem ak2:env.ty 108=some .aL:=rfl
theorem ak3:env.ty 109=some .aL:=rfl
theorem ak4:env.ty 110=some .aL:=rfl
theorem ak5:env.ty 111=some (.int .u8):=rfl
theorem ak6:env.ty 112=some .aL:=rfl
theorem ak7:env.ty 113=some .aL:=rfl
theorem ak8:env.ty 114=some .aL:=rfl
theorem ak9:env.ty 115=some .aL:=rfl
theorem al0:env.ty 116=some (.mp (.int .i64) (.sl (.int .i64))):=rfl
theorem al1:env.ty 117=some .aL:=rfl
theorem al2:env.ty 118=some (.mp (.int .i64) du):=rfl
theorem al3:env.ty 119=some .aL:=rfl
theorem al4:env.ty 120=some du:=rfl
theorem al5:env.ty 121=some du:=rfl
theorem al6:env.ty 123=some .aL:=rfl
theorem al7:env.ty 124=some (.ptr .unit):=rfl
theorem al8:env.ty 125=some xB:=rfl
theorem al9:env.ty 126=some xB:=rfl
theorem am0:env.ty 130=some .aL:=rfl
theorem am1:env.ty 131=some .aL:=rfl
theorem am2:env.ty 132=some .aL:=rfl
theorem am3:env.ty 133=some .aL:=rfl
theorem am4:env.ty 134=some Io:=rfl
theorem am5:env.ty 135=some Io:=rfl
theorem am6:env.ty 136=some (.mp (.int .i64) (.int .i64)):=rfl
theorem am7:env.ty 138=some .aL:=rfl
theorem am8:env.ty 140=some .aL:=rfl
theorem am9:env.ty 141=some fw:=rfl
theorem an0:env.ty 142=some fw:=rfl
theorem an1:env.ty 143=some .aL:=rfl
theorem an2:env.ty 144=some .aL:=rfl
theorem an3:env.ty 145=some Ip:=rfl
theorem an4:env.ty 146=some Ip:=rfl
theorem an5:env.ty 147=some (.mp fw (.int .i64)):=rfl
theorem an6:env.ty 149=some .aL:=rfl
theorem an7:env.ty 150=some .aL:=rfl
theorem an8:env.ty 151=some iX:=rfl
theorem an9:env.ty 152=some iX:=rfl
theorem ao0:env.ty 154=some .aL:=rfl
theorem ao1:env.ty 155=some .aL:=rfl
theorem ao2:env.ty 157=some .aL:=rfl
theorem ao3:env.ty 158=some (.sl bB):=rfl
theorem ao4:env.ty 160=some .aL:=rfl
theorem ao5:env.ty 161=some .aL:=rfl
theorem ao6:env.ty 162=some ju:=rfl
theorem ao7:env.ty 163=some ju:=rfl
theorem ao8:env.ty 164=some .aL:=rfl
theorem ao9:env.ty 165=some .aL:=rfl
theorem ap0:env.ty 166=some .aL:=rfl
theorem ap1:env.ty 169=some .aL:=rfl
theorem ap2:env.ty 170=some .aL:=rfl
theorem ap3:env.ty 171=some .aL:=rfl
theorem ap4:env.ty 172=some .aL:=rfl
theorem ap5:env.ty 173=some .aL:=rfl
theorem ap6:env.ty 174=some .aL:=rfl
theorem ap7:env.ty 175=some .aL:=rfl
theorem ap8:env.ty 176=some (.mp (.int .i64) (.mp aE (.int .i64))):=rfl
theorem ap9:env.ty 177=some .aL:=rfl
theorem aq0:env.ty 179=some .aL:=rfl
theorem aq1:env.ty 180=some .aL:=rfl
theorem aq2:env.ty 181=some .aL:=rfl
theorem aq3:env.ty 182=some .aL:=rfl
theorem aq4:env.ty 183=some .aL:=rfl
theorem aq5:env.ty 184=some .aL:=rfl
theorem aq6:env.ty 185=some .aL:=rfl
theorem aq7:env.ty 186=some .aL:=rfl
theorem aq8:env.ty 187=some .aL:=rfl
theorem aq9:env.ty 188=some .aL:=rfl
theorem ar0:env.ty 189=some .aL:=rfl
theorem ar1:env.ty 190=some .aL:=rfl
theorem ar2:env.ty 191=some .aL:=rfl
theorem ar3:env.ty 192=some .aL:=rfl
theorem ar4:env.ty 193=some .aL:=rfl
theorem ar5:env.ty 195=some (.mp (.int .i64) (.mp (.int .i64) (.int .i64))):=rfl
theorem ar6:env.ty 196=some .aL:=rfl
theorem ar7:env.ty 197=some .aL:=rfl
theorem ar8:env.ty 198=some (.mp (.int .i64) (.mp fw (.int .i64))):=rfl
theorem ar9:env.ty 199=some .aL:=rfl
theorem as0:env.ty 201=some .aL:=rfl
theorem as1:env.ty 202=some .aL:=rfl
theorem as2:env.ty 203=some (.st (.pair .bool (.pair .bool (.pair .bool (.pair .bool (.pair .bool (.pair .bool (.pair .bool .bool)))))))):=rfl
theorem as3:env.ty 204=some (.st (.pair (.sl (.int .i64)) (.pair (.sl (.int .i64)) (.pair (.sl (.int .i64)) (.pair (.sl (.int .i64)) (.pair (.sl (.int .i64)) (.pair (.sl (.int .i64)) (.pair (.sl (.int .i64)) (.sl (.int .i64)))))))))):=rfl
theorem as4:env.ty 205=some sx:=rfl
theorem as5:env.ty 206=some sx:=rfl
theorem as6:env.ty 207=some .aL:=rfl
theorem as7:env.ty 208=some .aL:=rfl
theorem as8:env.ty 209=some (.ptr .unit):=rfl
theorem as9:env.ty 210=some (.mp aG (.sl eT)):=rfl
theorem at2:env.ty 211=some qC:=rfl
theorem at3:env.ty 212=some qC:=rfl
theorem at4:env.ty 213=some (.ptr fY):=rfl
theorem at5:env.ty 214=some (.sl cF):=rfl
theorem at6:env.ty 215=some fY:=rfl
theorem at7:env.ty 216=some fY:=rfl
theorem at8:env.ty 217=some .aL:=rfl
theorem at9:env.ty 218=some mg:=rfl
theorem au0:env.ty 219=some mg:=rfl
theorem au1:env.ty 220=some aG:=rfl
theorem au2:env.ty 221=some aG:=rfl
theorem au3:env.ty 222=some eT:=rfl
theorem au4:env.ty 223=some eT:=rfl
theorem au5:env.ty 224=some cF:=rfl
theorem au6:env.ty 225=some cF:=rfl
theorem au7:env.ty 226=some .aL:=rfl
theorem au8:env.ty 227=some .aL:=rfl
theorem au9:env.ty 228=some (.sl (.ptr fY)):=rfl
theorem av0:env.ty 229=some .aL:=rfl
theorem av1:env.ty 230=some .aL:=rfl
theorem av2:env.ty 231=some .aL:=rfl
theorem av3:env.ty 232=some fR:=rfl
theorem av4:env.ty 233=some fR:=rfl
theorem av5:env.ty 235=some .aL:=rfl
theorem av6:env.ty 236=some .aL:=rfl
theorem av7:env.ty 237=some (.sl aE):=rfl
theorem av8:env.ty 238=some .aL:=rfl
theorem av9:env.ty 239=some .aL:=rfl
theorem aw0:env.ty 240=some (.int .u64):=rfl
theorem aw1:env.ty 242=some (.sl (.sl (.int .i64))):=rfl
theorem aw2:env.ty 243=some .aL:=rfl
theorem aw3:env.ty 245=some .aL:=rfl
theorem aw4:env.ty 246=some (.sl fw):=rfl
theorem aw5:env.ty 247=some (.sl eT):=rfl
theorem aw6:env.ty 248=some .aL:=rfl
theorem aw7:env.ty 249=some .aL:=rfl
theorem aw8:env.ty 250=some .aL:=rfl
theorem aw9:env.ty 251=some .aL:=rfl
theorem ax0:env.ty 252=some .aL:=rfl
theorem ax1:env.ty 253=some .aL:=rfl
theorem ax2:env.ty 254=some .aL:=rfl
theorem ax3:env.ty 255=some (.int .i64):=rfl
theorem ax4:env.ty 257=some .aL:=rfl
theorem ax5:env.ty 258=some .aL:=rfl
theorem ax6:env.ty 259=some .aL:=rfl
theorem ax7:env.ty 260=some .aL:=rfl
theorem ax8:env.ty 261=some .aL:=rfl
theorem ax9:env.ty 262=some (.int .u32):=rfl
theorem ay0:env.ty 263=some .aL:=rfl
theorem ay1:env.ty 264=some (.int .u64):=rfl
theorem ay2:env.ty 265=some .aL:=rfl
theorem ay3:env.ty 266=some .aL:=rfl
theorem ay4:env.ty 267=some (.int .u64):=rfl
theorem ay5:env.ty 268=some .aL:=rfl
theorem ay6:env.ty 269=some .aL:=rfl
theorem ay7:env.ty 270=some .aL:=rfl
theorem ay8:env.ty 272=some .aL:=rfl
theorem ay9:env.ty 275=some .aL:=rfl
theorem az0:env.ty 281=some (.int .u8):=rfl
theorem az1:env.ty 282=some (.int .u8):=rfl
theorem az2:env.ty 283=some .aL:=rfl
theorem az3:env.ty 284=some (.int .i32):=rfl
theorem az4:env.ty 285=some (.int .i32):=rfl
theorem bh9:env.str 7=true:=rfl
theorem bi0:env.str 8=true:=rfl
theorem az5:env.str 13=true:=rfl
theorem az6:env.str 14=true:=rfl
theorem az7:env.str 23=true:=rfl
theorem az8:env.str 24=true:=rfl
theorem az9:env.str 28=true:=rfl
theorem aA0:env.str 29=true:=rfl
theorem aA1:env.str 38=true:=rfl
theorem aA2:env.str 39=true:=rfl
theorem aA3:env.str 44=true:=rfl
theorem aA4:env.str 45=true:=rfl
theorem aA5:env.str 53=true:=rfl
theorem aA6:env.str 54=true:=rfl
theorem aA7:env.str 59=true:=rfl
theorem aA8:env.str 60=true:=rfl
theorem aA9:env.str 65=true:=rfl
theorem aB0:env.str 66=true:=rfl
theorem aB1:env.str 72=true:=rfl
theorem aB2:env.str 73=true:=rfl
theorem aB3:env.str 75=true:=rfl
theorem aB4:env.str 76=true:=rfl
theorem aB5:env.str 77=true:=rfl
theorem aB6:env.str 78=true:=rfl
theorem aB7:env.str 80=true:=rfl
theorem aB8:env.str 81=true:=rfl
theorem aB9:env.str 82=true:=rfl
theorem aC0:env.str 83=true:=rfl
theorem aC1:env.str 94=true:=rfl
theorem aC2:env.str 95=true:=rfl
theorem aC3:env.str 98=true:=rfl
theorem aC4:env.str 99=true:=rfl
theorem Wd:env.str 120=true:=rfl
theorem We:env.str 121=true:=rfl
theorem Wf:env.str 125=true:=rfl
theorem Wg:env.str 126=true:=rfl
theorem Wh:env.str 134=true:=rfl
theorem Wi:env.str 135=true:=rfl
theorem Wj:env.str 141=true:=rfl
theorem Wl:env.str 142=true:=rfl
theorem Wm:env.str 145=true:=rfl
theorem Wn:env.str 146=true:=rfl
theorem Wo:env.str 151=true:=rfl
theorem Wp:env.str 152=true:=rfl
theorem Wq:env.str 162=true:=rfl
theorem Wr:env.str 163=true:=rfl
theorem Ws:env.str 205=true:=rfl
theorem Wt:env.str 206=true:=rfl
theorem Wu:env.str 211=true:=rfl
theorem Ww:env.str 212=true:=rfl
theorem Wx:env.str 215=true:=rfl
theorem Wy:env.str 216=true:=rfl
theorem Wz:env.str 218=true:=rfl
theorem WA:env.str 219=true:=rfl
theorem WB:env.str 220=true:=rfl
theorem WC:env.str 221=true:=rfl
theorem WD:env.str 222=true:=rfl
theorem WE:env.str 223=true:=rfl
theorem WG:env.str 224=true:=rfl
theorem WH:env.str 225=true:=rfl
theorem WJ:env.str 232=true:=rfl
theorem WK:env.str 233=true:=rfl
theorem aC5:env.str 50=false:=rfl
theorem WL:env.str 203=false:=rfl
theorem WM:env.str 204=false:=rfl
theorem bi1:env.cmp 7=true:=rfl
theorem bi2:env.cmp 8=true:=rfl
theorem aC6:env.cmp 38=true:=rfl
theorem aC7:env.cmp 39=true:=rfl
theorem aC8:env.cmp 50=true:=rfl
theorem aC9:env.cmp 53=true:=rfl
theorem aD0:env.cmp 54=true:=rfl
theorem aD1:env.cmp 59=true:=rfl
theorem aD2:env.cmp 60=true:=rfl
theorem aD3:env.cmp 65=true:=rfl
theorem aD4:env.cmp 66=true:=rfl
theorem aD5:env.cmp 75=true:=rfl
theorem aD6:env.cmp 76=true:=rfl
theorem aD7:env.cmp 77=true:=rfl
theorem aD8:env.cmp 78=true:=rfl
theorem aD9:env.cmp 80=true:=rfl
theorem aE0:env.cmp 81=true:=rfl
theorem aE1:env.cmp 94=true:=rfl
theorem aE2:env.cmp 95=true:=rfl
theorem WN:env.cmp 120=true:=rfl
theorem WO:env.cmp 121=true:=rfl
theorem WQ:env.cmp 141=true:=rfl
theorem WR:env.cmp 142=true:=rfl
theorem WS:env.cmp 162=true:=rfl
theorem WT:env.cmp 163=true:=rfl
theorem WU:env.cmp 203=true:=rfl
theorem WV:env.cmp 218=true:=rfl
theorem WW:env.cmp 219=true:=rfl
theorem WX:env.cmp 220=true:=rfl
theorem WY:env.cmp 221=true:=rfl
theorem WZ:env.cmp 222=true:=rfl
theorem W0:env.cmp 223=true:=rfl
theorem W1:env.cmp 224=true:=rfl
theorem W2:env.cmp 225=true:=rfl
theorem W3:env.cmp 232=true:=rfl
theorem W4:env.cmp 233=true:=rfl
theorem bH4:env.fn 2=some ([],.unit):=rfl
theorem bH5:env.fn 3=some ([oy,(.sl (.int .u8))],.bool):=rfl
theorem bH6:env.fn 4=some ([oy,(.sl (.int .u8))],.bool):=rfl
theorem bH7:env.fn 5=some ([oy,(.sl (.int .u8))],.bool):=rfl
theorem bH8:env.fn 6=some ([],.bool):=rfl
theorem bH9:env.fn 7=some ([oy],ai):=rfl
theorem bI0:env.fn 8=some ([ai],(.int .i64)):=rfl
theorem bI1:env.fn 9=some ([ai],.bool):=rfl
theorem bi3:env.fn 10=some ([(.sl (.int .u8)),(.int .i64)],.str):=rfl
theorem bi4:env.fn 11=some ([ai,.str,(.int .i64)],(.bG (.sl aP) (.int .i64))):=rfl
theorem bi5:env.fn 12=some ([ai,.str,(.int .i64)],(.bG (.sl aP) (.int .i64))):=rfl
theorem bi6:env.fn 13=some ([oy],ai):=rfl
theorem bi7:env.fn 14=some ([ai],(.bG ai (.sl (.int .i64)))):=rfl
theorem bi8:env.fn 15=some ([(.sl (.int .u8)),(.int .i64)],.str):=rfl
theorem bi9:env.fn 16=some ([ai],(.int .i64)):=rfl
theorem bj0:env.fn 17=some ([ai],mf):=rfl
theorem bj1:env.fn 18=some ([(.sl aP),(.sl aP)],.bool):=rfl
theorem bj2:env.fn 19=some ([ai,(.st (.pair (.int .i64) (.int .i64))),(.sl (.int .u8))],(.bG (.sl (.int .i64)) (.int .i64))):=rfl
theorem bj3:env.fn 20=some ([ai,(.int .i64)],(.bG (.sl (.int .i64)) (.bG (.int .i64) (.int .i64)))):=rfl
theorem bj4:env.fn 21=some ([ai,(.sl (.int .i64))],RunT):=rfl
theorem bj5:env.fn 22=some ([ai,(.int .i64)],.bool):=rfl
theorem bj6:env.fn 23=some ([ai,.str],.bool):=rfl
theorem bj7:env.fn 24=some ([ai,.str,.str],(.int .i64)):=rfl
theorem bj8:env.fn 25=some ([ai,.str],(.bG .str (.bG (.int .i64) (.int .i64)))):=rfl
theorem bj9:env.fn 26=some ([oy],ai):=rfl
theorem bk0:env.fn 27=some ([ai],.bool):=rfl
theorem bk1:env.fn 28=some ([ai],mf):=rfl
theorem bk2:env.fn 29=some ([ai],(.sl .bool)):=rfl
theorem bk3:env.fn 30=some ([ai],(.bG vr (.int .i64))):=rfl
theorem bk4:env.fn 31=some ([.str],.bool):=rfl
theorem bk5:env.fn 32=some ([ai],.bool):=rfl
theorem bk6:env.fn 39=some ([ai],.bool):=rfl
theorem bk7:env.fn 40=some ([.str],.bool):=rfl
theorem bk8:env.fn 41=some ([aE],(.int .i64)):=rfl
theorem bk9:env.fn 42=some ([aE,ba],(.bG aE .bool)):=rfl
theorem bl0:env.fn 44=some ([ai,(.int .i64)],.bool):=rfl
theorem bl1:env.fn 47=some ([aP],(.int .i64)):=rfl
theorem bl2:env.fn 48=some ([aP],.str):=rfl
theorem bl3:env.fn 49=some ([(.sl aP)],(.sl aP)):=rfl
theorem bl4:env.fn 51=some ([ai],(.sl .bool)):=rfl
theorem bl5:env.fn 52=some ([ai],(.sl .bool)):=rfl
theorem bl6:env.fn 53=some ([ai,ba],.bool):=rfl
theorem bl7:env.fn 54=some ([ai],(.int .u8)):=rfl
theorem bl8:env.fn 55=some ([(.int .u8),(.int .i64)],.bool):=rfl
theorem bl9:env.fn 56=some ([ai],(.int .u8)):=rfl
theorem bm0:env.fn 59=some ([ba,(.int .u8),(.int .u8)],.bool):=rfl
theorem bm1:env.fn 60=some ([ai,(.int .i64)],.bool):=rfl
theorem bm2:env.fn 61=some ([ai],(.mp (.int .i64) (.sl (.int .i64)))):=rfl
theorem bm3:env.fn 62=some ([ai,(.mp (.int .i64) (.sl (.int .i64))),(.sl .bool)],(.mp (.int .i64) du)):=rfl
theorem bm4:env.fn 63=some ([du,(.int .i64)],du):=rfl
theorem bm5:env.fn 66=some ([(.int .i64)],(.int .i64)):=rfl
theorem bm6:env.fn 69=some ([.str,.str],.bool):=rfl
theorem bm7:env.fn 70=some ([fw],(.int .i64)):=rfl
theorem bm8:env.fn 73=some ([iX,(.int .i64)],ba):=rfl
theorem bm9:env.fn 74=some ([ai,(.int .i64)],.bool):=rfl
theorem bn0:env.fn 75=some ([ai],(.bG (.int .i64) (.int .i64))):=rfl
theorem bn1:env.fn 76=some ([ai,(.int .i64)],.bool):=rfl
theorem bn2:env.fn 77=some ([ai],(.sl (.int .i64))):=rfl
theorem bn3:env.fn 78=some ([ai],(.sl (.int .i64))):=rfl
theorem bn4:env.fn 79=some ([ai,(.int .i64)],(.sl .bool)):=rfl
theorem bn5:env.fn 80=some ([ai,(.int .i64)],.bool):=rfl
theorem bn6:env.fn 81=some ([ai],(.bG .str .bool)):=rfl
theorem bn7:env.fn 82=some ([.str],.bool):=rfl
theorem bn8:env.fn 83=some ([ai],(.bG (.int .i64) (.int .i64))):=rfl
theorem bn9:env.fn 84=some ([(.ptr jd),ky,ba],(.bG ky .bool)):=rfl
theorem bo0:env.fn 87=some ([fv,fv],fv):=rfl
theorem bo1:env.fn 88=some ([fv,fv],.bool):=rfl
theorem bo2:env.fn 90=some ([(.ptr jd),ky],.bool):=rfl
theorem bo3:env.fn 92=some ([.str],.bool):=rfl
theorem bo4:env.fn 97=some ([(.sl (.int .i64))],(.int .i64)):=rfl
theorem bo5:env.fn 98=some ([(.int .i64),(.int .i64)],(.int .i64)):=rfl
theorem bo6:env.fn 99=some ([.str,.str],(.int .i64)):=rfl
theorem aE3:env.fn 100=some ([(.st (.pair (.int .i64) (.int .i64))),.str,.str],ba):=rfl
theorem aE4:env.fn 104=some ([ai,(.int .i64)],.bool):=rfl
theorem aE5:env.fn 105=some ([(.int .i64)],(.int .u8)):=rfl
theorem aE6:env.fn 107=some ([ba],.bool):=rfl
theorem aE7:env.fn 108=some ([(.sl (.int .i64)),(.sl (.int .i64))],(.int .i64)):=rfl
theorem aE8:env.fn 109=some ([ba],.bool):=rfl
theorem aE9:env.fn 110=some ([du,du],.bool):=rfl
theorem aF0:env.fn 114=some ([.str,.str],.bool):=rfl
theorem aF1:env.fn 117=some ([(.int .i64),(.int .i64),(.int .i64)],.bool):=rfl
theorem aF2:env.fn 118=some ([.str],.bool):=rfl
theorem aF3:env.fn 119=some ([.str],.bool):=rfl
theorem aF4:env.fn 120=some ([ai,sx,.bool],sx):=rfl
theorem aF5:env.fn 121=some ([(.sl (.int .i64)),(.sl (.int .i64))],.bool):=rfl
theorem aF6:env.fn 126=some ([.str],.bool):=rfl
theorem aF7:env.fn 127=some ([(.int .i64),ba],.bool):=rfl
theorem aF8:env.fn 128=some ([(.sl ba),ba],.bool):=rfl
theorem aF9:env.fn 129=some ([ai,(.int .i64)],.bool):=rfl
theorem aG0:env.fn 130=some ([(.int .u8)],(.int .i64)):=rfl
theorem aG1:env.fn 132=some ([(.int .u64)],(.int .i64)):=rfl
theorem aG2:env.fn 133=some ([(.int .i64)],.bool):=rfl
theorem aG3:env.fn 134=some ([.str],.bool):=rfl
theorem aG4:env.fn 137=some ([(.sl (.int .i64)),(.sl (.int .i64))],(.int .i64)):=rfl
theorem aG5:env.fn 139=some ([(.sl eT),eT],.bool):=rfl
theorem aG6:env.fn 140=some ([eT,.str,.str],eT):=rfl
theorem aG7:env.fn 143=some ([eT],.bool):=rfl
theorem aG8:env.fn 145=some ([(.sl ba),ba],(.int .i64)):=rfl
theorem aG9:env.fn 154=some ([(.int .u32)],(.int .i64)):=rfl
theorem aH0:env.fn 155=some ([(.int .u64)],(.int .i64)):=rfl
theorem aH1:env.fn 156=some ([(.sl eT),eT],(.int .i64)):=rfl
theorem aH2:env.fn 159=some ([(.int .i64)],(.int .u64)):=rfl
theorem aH3:env.fn 186=some ([(.ptr .unit)],(.int .i64)):=rfl
theorem bo7:env.fn 67=some ([(.int .i64),ba,(.ptr (.sl .bool))],(.bG (.int .i64) .bool)):=rfl
theorem bo8:env.fn 71=some ([fw,ba,(.ptr .str)],(.bG fw .bool)):=rfl
theorem bo9:env.fn 96=some ([aP,aP,(.ptr .aL),(.ptr .aL)],(.int .i64)):=rfl
theorem bp0:env.fn 33=none:=rfl
theorem aH4:env.cW 33=some [none,none]:=rfl
theorem bp1:env.fn 34=none:=rfl
theorem aH5:env.cW 34=some [none,none]:=rfl
theorem bp2:env.fn 35=none:=rfl
theorem aH6:env.cW 35=some [none]:=rfl
theorem bp3:env.fn 36=none:=rfl
theorem aH7:env.cW 36=some [none,some (.ptr aU)]:=rfl
theorem bp4:env.fn 37=none:=rfl
theorem aH8:env.cW 37=some [none,none]:=rfl
theorem bp5:env.fn 38=none:=rfl
theorem aH9:env.cW 38=some [none,some (.ptr aU)]:=rfl
theorem bp6:env.fn 43=none:=rfl
theorem aI0:env.cW 43=some [none,some aE,some .str]:=rfl
theorem bp7:env.fn 45=none:=rfl
theorem aI1:env.cW 45=some [none,some .str,some (.int .i64)]:=rfl
theorem bp8:env.fn 46=none:=rfl
theorem aI2:env.cW 46=some [none,none,none]:=rfl
theorem bp9:env.fn 50=none:=rfl
theorem aI3:env.cW 50=some [some (.int .u8)]:=rfl
theorem bq0:env.fn 57=none:=rfl
theorem aI4:env.cW 57=some [some ai]:=rfl
theorem bq1:env.fn 58=none:=rfl
theorem aI5:env.cW 58=some [some ai]:=rfl
theorem bq2:env.fn 64=none:=rfl
theorem aI6:env.cW 64=some [none,some .str]:=rfl
theorem bq3:env.fn 65=none:=rfl
theorem aI7:env.cW 65=some [none]:=rfl
theorem bq4:env.fn 68=none:=rfl
theorem aI8:env.cW 68=some [none,some (.int .i64),some .str]:=rfl
theorem bq5:env.fn 72=none:=rfl
theorem aI9:env.cW 72=some [none,some fw,some .str]:=rfl
theorem bq6:env.fn 85=none:=rfl
theorem aJ0:env.cW 85=some [none,some bB,some (.int .i64)]:=rfl
theorem bq7:env.fn 86=none:=rfl
theorem aJ1:env.cW 86=some [none,some ky,some (.int .i64)]:=rfl
theorem bq8:env.fn 89=none:=rfl
theorem aJ2:env.cW 89=some [none,some (.int .i64),some (.int .i64)]:=rfl
theorem bq9:env.fn 91=none:=rfl
theorem aJ3:env.cW 91=some [none,some (.int .i64)]:=rfl
theorem br0:env.fn 93=none:=rfl
theorem aJ4:env.cW 93=some [none,none]:=rfl
theorem br1:env.fn 94=none:=rfl
theorem aJ5:env.cW 94=some [none,some aE,some (.int .i64)]:=rfl
theorem br2:env.fn 95=none:=rfl
theorem aJ6:env.cW 95=some [none,none]:=rfl
theorem aJ7:env.fn 101=none:=rfl
theorem W5:env.cW 101=some [some ai]:=rfl
theorem aJ8:env.fn 102=none:=rfl
theorem W6:env.cW 102=some [some (.int .i64),none]:=rfl
theorem aJ9:env.fn 103=none:=rfl
theorem W7:env.cW 103=some [some (.int .i64),none,none,none,none]:=rfl
theorem aK0:env.fn 106=none:=rfl
theorem W8:env.cW 106=some [some ai,some (.int .i64),some (.int .u8),some .aL]:=rfl
theorem aK1:env.fn 111=none:=rfl
theorem W9:env.cW 111=some [none]:=rfl
theorem aK2:env.fn 112=none:=rfl
theorem Xa:env.cW 112=some [none,none]:=rfl
theorem aK3:env.fn 113=none:=rfl
theorem Xb:env.cW 113=some [none,some (.int .i64),some (.int .i64)]:=rfl
theorem aK4:env.fn 115=none:=rfl
theorem Xc:env.cW 115=some [none,none]:=rfl
theorem aK5:env.fn 116=none:=rfl
theorem Xd:env.cW 116=some [none,some fw,some (.int .i64)]:=rfl
theorem aK6:env.fn 122=none:=rfl
theorem Xe:env.cW 122=some [none,none,some cF]:=rfl
theorem aK7:env.fn 123=none:=rfl
theorem Xf:env.cW 123=some [none,none]:=rfl
theorem aK8:env.fn 124=none:=rfl
theorem Xg:env.cW 124=some [none,some (.ptr fY)]:=rfl
theorem aK9:env.fn 125=none:=rfl
theorem Xh:env.cW 125=some [none,some (.ptr fY),some (.int .u8)]:=rfl
theorem aL0:env.fn 135=none:=rfl
theorem Xi:env.cW 135=some [some (.int .i64),none,none]:=rfl
theorem aL1:env.fn 136=none:=rfl
theorem Xj:env.cW 136=some [some (.sl (.int .i64))]:=rfl
theorem aL2:env.fn 141=none:=rfl
theorem Xk:env.cW 141=some [some (.sl cF),none]:=rfl
theorem aL3:env.fn 142=none:=rfl
theorem Xl:env.cW 142=some [some cF,none]:=rfl
theorem aL4:env.fn 144=none:=rfl
theorem Xm:env.cW 144=some [none,some mg]:=rfl
theorem aL5:env.fn 157=none:=rfl
theorem Xn:env.cW 157=some [some (.sl cF),none]:=rfl
theorem aL6:env.fn 181=none:=rfl
theorem Xo:env.cW 181=some [none]:=rfl
theorem aL7:env.fn 182=none:=rfl
theorem Xp:env.cW 182=some [none,some (.int .i64),some (.int .i64)]:=rfl
theorem aL8:env.fn 183=none:=rfl
theorem Xq:env.cW 183=some [none,some (.int .i64),some (.int .i64)]:=rfl
theorem aL9:env.fn 184=none:=rfl
theorem Xr:env.cW 184=some [none]:=rfl
theorem aM0:env.fn 185=none:=rfl
theorem Xs:env.cW 185=some [none,none]:=rfl
theorem Iq:env.nA 90 "Len" =some (181,some 86):=by kernel_rfl
theorem Fa:env.nA 90 "Less" =some (182,some 86):=by kernel_rfl
theorem Fb:env.nA 90 "Swap" =some (183,some 86):=by kernel_rfl
theorem Fc:env.nA 90 "Push" =some (185,none):=by kernel_rfl
theorem Ir:env.nA 90 "Pop" =some (184,none):=by kernel_rfl
theorem aM1:env.P.funcs[3]?=some Tryz.f3:=rfl
theorem bU4:env.P.funcs[6]?=some Tryz.f6:=rfl
theorem bI2:env.P.funcs[7]?=some Tryz.f7:=rfl
theorem bI3:env.P.funcs[8]?=some Tryz.f8:=rfl
theorem bU5:env.P.funcs[9]?=some Tryz.f9:=rfl
theorem aV3:env.P.funcs[10]?=some Tryz.f10:=rfl
theorem Aw:env.P.funcs[11]?=some Tryz.f11:=rfl
theorem Xt:env.P.funcs[12]?=some Tryz.f12:=rfl
theorem Xu:env.P.funcs[14]?=some Tryz.f14:=rfl
theorem bI4:env.P.funcs[16]?=some Tryz.f16:=rfl
theorem aV4:env.P.funcs[18]?=some Tryz.f18:=rfl
theorem Qd:env.P.funcs[21]?=some Tryz.f21:=rfl
theorem aV5:env.P.funcs[25]?=some Tryz.f25:=rfl
theorem Xv:env.P.funcs[26]?=some Tryz.f26:=rfl
theorem bI5:env.P.funcs[27]?=some Tryz.f27:=rfl
theorem aV6:env.P.funcs[28]?=some Tryz.f28:=rfl
theorem Xw:env.P.funcs[29]?=some Tryz.f29:=rfl
theorem bI6:env.P.funcs[30]?=some Tryz.f30:=rfl
theorem bI7:env.P.funcs[31]?=some Tryz.f31:=rfl
theorem bI8:env.P.funcs[32]?=some Tryz.f32:=rfl
theorem Qe:env.P.funcs[33]?=some Tryz.f33:=rfl
theorem aV7:env.P.funcs[34]?=some Tryz.f34:=rfl
theorem bI9:env.P.funcs[35]?=some Tryz.f35:=rfl
theorem KU:env.P.funcs[36]?=some Tryz.f36:=rfl
theorem aV8:env.P.funcs[37]?=some Tryz.f37:=rfl
theorem Gz:env.P.funcs[38]?=some Tryz.f38:=rfl
theorem bJ0:env.P.funcs[39]?=some Tryz.f39:=rfl
theorem bJ1:env.P.funcs[40]?=some Tryz.f40:=rfl
theorem bJ2:env.P.funcs[41]?=some Tryz.f41:=rfl
theorem bJ3:env.P.funcs[42]?=some Tryz.f42:=rfl
theorem KV:env.P.funcs[43]?=some Tryz.f43:=rfl
theorem bJ4:env.P.funcs[44]?=some Tryz.f44:=rfl
theorem bJ5:env.P.funcs[45]?=some Tryz.f45:=rfl
theorem bJ6:env.P.funcs[46]?=some Tryz.f46:=rfl
theorem bJ7:env.P.funcs[47]?=some Tryz.f47:=rfl
theorem bJ8:env.P.funcs[48]?=some Tryz.f48:=rfl
theorem bJ9:env.P.funcs[49]?=some Tryz.f49:=rfl
theorem GA:env.P.funcs[50]?=some Tryz.f50:=rfl
theorem bK0:env.P.funcs[51]?=some Tryz.f51:=rfl
theorem KW:env.P.funcs[52]?=some Tryz.f52:=rfl
theorem bK1:env.P.funcs[53]?=some Tryz.f53:=rfl
theorem Xx:env.P.funcs[54]?=some Tryz.f54:=rfl
theorem bK2:env.P.funcs[55]?=some Tryz.f55:=rfl
theorem Xy:env.P.funcs[56]?=some Tryz.f56:=rfl
theorem aV9:env.P.funcs[57]?=some Tryz.f57:=rfl
theorem bK3:env.P.funcs[60]?=some Tryz.f60:=rfl
theorem aW0:env.P.funcs[64]?=some Tryz.f64:=rfl
theorem aW1:env.P.funcs[69]?=some Tryz.f69:=rfl
theorem Xz:env.P.funcs[73]?=some Tryz.f73:=rfl
theorem aW2:env.P.funcs[74]?=some Tryz.f74:=rfl
theorem aW3:env.P.funcs[75]?=some Tryz.f75:=rfl
theorem bK4:env.P.funcs[76]?=some Tryz.f76:=rfl
theorem XA:env.P.funcs[77]?=some Tryz.f77:=rfl
theorem KX:env.P.funcs[78]?=some Tryz.f78:=rfl
theorem XB:env.P.funcs[79]?=some Tryz.f79:=rfl
theorem bK5:env.P.funcs[80]?=some Tryz.f80:=rfl
theorem Qf:env.P.funcs[81]?=some Tryz.f81:=rfl
theorem bK6:env.P.funcs[82]?=some Tryz.f82:=rfl
theorem aW4:env.P.funcs[83]?=some Tryz.f83:=rfl
theorem bK7:env.P.funcs[84]?=some Tryz.f84:=rfl
theorem bK8:env.P.funcs[85]?=some Tryz.f85:=rfl
theorem aW5:env.P.funcs[86]?=some Tryz.f86:=rfl
theorem bK9:env.P.funcs[87]?=some Tryz.f87:=rfl
theorem bL0:env.P.funcs[88]?=some Tryz.f88:=rfl
theorem aW6:env.P.funcs[89]?=some Tryz.f89:=rfl
theorem bL1:env.P.funcs[90]?=some Tryz.f90:=rfl
theorem aW7:env.P.funcs[91]?=some Tryz.f91:=rfl
theorem aW8:env.P.funcs[92]?=some Tryz.f92:=rfl
theorem Ax:env.P.funcs[93]?=some Tryz.f93:=rfl
theorem bL2:env.P.funcs[94]?=some Tryz.f94:=rfl
theorem bL3:env.P.funcs[96]?=some Tryz.f96:=rfl
theorem aW9:env.P.funcs[97]?=some Tryz.f97:=rfl
theorem bL4:env.P.funcs[98]?=some Tryz.f98:=rfl
theorem bL5:env.P.funcs[99]?=some Tryz.f99:=rfl
theorem br3:env.P.funcs[100]?=some Tryz.f100:=rfl
theorem br4:env.P.funcs[101]?=some Tryz.f101:=rfl
theorem br5:env.P.funcs[102]?=some Tryz.f102:=rfl
theorem XD:env.P.funcs[103]?=some Tryz.f103:=rfl
theorem br6:env.P.funcs[104]?=some Tryz.f104:=rfl
theorem br7:env.P.funcs[105]?=some Tryz.f105:=rfl
theorem N9:env.P.funcs[106]?=some Tryz.f106:=rfl
theorem br8:env.P.funcs[107]?=some Tryz.f107:=rfl
theorem XE:env.P.funcs[114]?=some Tryz.f114:=rfl
theorem br9:env.P.funcs[117]?=some Tryz.f117:=rfl
theorem XF:env.P.funcs[118]?=some Tryz.f118:=rfl
theorem XG:env.P.funcs[119]?=some Tryz.f119:=rfl
theorem XI:env.P.funcs[120]?=some Tryz.f120:=rfl
theorem XJ:env.P.funcs[121]?=some Tryz.f121:=rfl
theorem vu:env.P.funcs[122]?=some Tryz.f122:=rfl
theorem Oa:env.P.funcs[123]?=some Tryz.f123:=rfl
theorem bs0:env.P.funcs[124]?=some Tryz.f124:=rfl
theorem XK:env.P.funcs[125]?=some Tryz.f125:=rfl
theorem XL:env.P.funcs[126]?=some Tryz.f126:=rfl
theorem bs4:env.P.funcs[127]?=some Tryz.f127:=rfl
theorem bs5:env.P.funcs[128]?=some Tryz.f128:=rfl
theorem bs6:env.P.funcs[129]?=some Tryz.f129:=rfl
theorem bs7:env.P.funcs[130]?=some Tryz.f130:=rfl
theorem bs8:env.P.funcs[133]?=some Tryz.f133:=rfl
theorem bs9:env.P.funcs[134]?=some Tryz.f134:=rfl
theorem bt0:env.P.funcs[135]?=some Tryz.f135:=rfl
theorem bt1:env.P.funcs[136]?=some Tryz.f136:=rfl
theorem bt2:env.P.funcs[139]?=some Tryz.f139:=rfl
theorem XM:env.P.funcs[140]?=some Tryz.f140:=rfl
theorem bt3:env.P.funcs[141]?=some Tryz.f141:=rfl
theorem bt4:env.P.funcs[142]?=some Tryz.f142:=rfl
theorem bt5:env.P.funcs[143]?=some Tryz.f143:=rfl
theorem bt6:env.P.funcs[144]?=some Tryz.f144:=rfl
theorem XN:env.P.funcs[145]?=some Tryz.f145:=rfl
theorem XO:env.P.funcs[156]?=some Tryz.f156:=rfl
theorem XP:env.P.funcs[157]?=some Tryz.f157:=rfl
theorem bt7:env.P.funcs[181]?=some Tryz.f181:=rfl
theorem bt8:env.P.funcs[182]?=some Tryz.f182:=rfl
theorem bt9:env.P.funcs[183]?=some Tryz.f183:=rfl
theorem bu0:env.P.funcs[184]?=some Tryz.f184:=rfl
theorem bu1:env.P.funcs[185]?=some Tryz.f185:=rfl
attribute[go_sem]aj3 aj4 V3 V4 V5 V6 V7 V8 V9 Wa Wb Wc bG5 bG6 bG7 bG8 bG9 bH0 bH1 bH2 bH3 ba4 ba5 ba6 ba7 ba8 ba9 bb0 bb1 bb2 bb3 bb4 bb5 bb6 bb7 bb8 bb9 bc0 bc1 bc2 bc3 bc4 bc5 N8 bc6 bc7 bc8 bc9 bd0 bd1 bd2 bd3 bd4 bd5 bd6 bd7 bd8 bd9 be0 be1 be2 be3 be4 be5 be6 be7 be8 be9 bf0 bf1 bf2 bf3 bf4 bf5 bf6 bf7 bf8 bf9 bg0 bg1 bg2 bg3 bg4 bg5 bg6 bg7 bg8 bg9 bh0 bh1 bh2 bh3 bh4 bh5 bh6 bh7 bh8 aj5 aj6 aj7 aj8 aj9 ak0 ak1 ak2 ak3 ak4 ak5 ak6 ak7 ak8 ak9 al0 al1 al2 al3 al4 al5 al6 al7 al8 al9 am0 am1 am2 am3 am4 am5 am6 am7 am8 am9 an0 an1 an2 an3 an4 an5 an6 an7 an8 an9 ao0 ao1 ao2 ao3 ao4 ao5 ao6 ao7 ao8 ao9 ap0 ap1 ap2 ap3 ap4 ap5 ap6 ap7 ap8 ap9 aq0 aq1 aq2 aq3 aq4 aq5 aq6 aq7 aq8 aq9 ar0 ar1 ar2 ar3 ar4 ar5 ar6 ar7 ar8 ar9 as0 as1 as2 as3 as4 as5 as6 as7 as8 as9 at2 at3 at4 at5 at6 at7 at8 at9 au0 au1 au2 au3 au4 au5 au6 au7 au8 au9 av0 av1 av2 av3 av4 av5 av6 av7 av8 av9 aw0 aw1 aw2 aw3 aw4 aw5 aw6 aw7 aw8 aw9 ax0 ax1 ax2 ax3 ax4 ax5 ax6 ax7 ax8 ax9 ay0 ay1 ay2 ay3 ay4 ay5 ay6 ay7 ay8 ay9 az0 az1 az2 az3 az4 bh9 bi0 az5 az6 az7 az8 az9 aA0 aA1 aA2 aA3 aA4 aA5 aA6 aA7 aA8 aA9 aB0 aB1 aB2 aB3 aB4 aB5 aB6 aB7 aB8 aB9 aC0 aC1 aC2 aC3 aC4 Wd We Wf Wg Wh Wi Wj Wl Wm Wn Wo Wp Wq Wr Ws Wt Wu Ww Wx Wy Wz WA WB WC WD WE WG WH WJ WK aC5 WL WM bi1 bi2 aC6 aC7 aC8 aC9 aD0 aD1 aD2 aD3 aD4 aD5 aD6 aD7 aD8 aD9 aE0 aE1 aE2 WN WO WQ WR WS WT WU WV WW WX WY WZ W0 W1 W2 W3 W4 bH4 bH5 bH6 bH7 bH8 bH9 bI0 bI1 bi3 bi4 bi5 bi6 bi7 bi8 bi9 bj0 bj1 bj2 bj3 bj4 bj5 bj6 bj7 bj8 bj9 bk0 bk1 bk2 bk3 bk4 bk5 bk6 bk7 bk8 bk9 bl0 bl1 bl2 bl3 bl4 bl5 bl6 bl7 bl8 bl9 bm0 bm1 bm2 bm3 bm4 bm5 bm6 bm7 bm8 bm9 bn0 bn1 bn2 bn3 bn4 bn5 bn6 bn7 bn8 bn9 bo0 bo1 bo2 bo3 bo4 bo5 bo6 aE3 aE4 aE5 aE6 aE7 aE8 aE9 aF0 aF1 aF2 aF3 aF4 aF5 aF6 aF7 aF8 aF9 aG0 aG1 aG2 aG3 aG4 aG5 aG6 aG7 aG8 aG9 aH0 aH1 aH2 aH3 bo7 bo8 bo9 bp0 aH4 bp1 aH5 bp2 aH6 bp3 aH7 bp4 aH8 bp5 aH9 bp6 aI0 bp7 aI1 bp8 aI2 bp9 aI3 bq0 aI4 bq1 aI5 bq2 aI6 bq3 aI7 bq4 aI8 bq5 aI9 bq6 aJ0 bq7 aJ1 bq8 aJ2 bq9 aJ3 br0 aJ4 br1 aJ5 br2 aJ6 aJ7 W5 aJ8 W6 aJ9 W7 aK0 W8 aK1 W9 aK2 Xa aK3 Xb aK4 Xc aK5 Xd aK6 Xe aK7 Xf aK8 Xg aK9 Xh aL0 Xi aL1 Xj aL2 Xk aL3 Xl aL4 Xm aL5 Xn aL6 Xo aL7 Xp aL8 Xq aL9 Xr aM0 Xs Iq Fa Fb Fc Ir ba3 bF9 ba1 bF8 ba2 bG0 bG3 bG4 bG1 bG2
instance drI:lj False:=⟨⟩
end
section
attribute[local go_sem←]u3 u4 u5
theorem ak {x:Int} (h: -9223372036854775808≤x)(h':x≤9223372036854775807):IntKind.i64.min≤x∧x≤IntKind.i64.max:=⟨h,h'⟩
theorem bu2 {x:Int} (h:IntKind.i64.min≤x∧x≤IntKind.i64.max): -9223372036854775808≤x∧x≤9223372036854775807:=h
theorem aX0 {x:Int} (h:0≤x)(h':x≤255):IntKind.u8.min≤x∧x≤IntKind.u8.max:=⟨h,h'⟩
theorem nj {x:Int} (h:IntKind.u8.min≤x∧x≤IntKind.u8.max):0≤x∧x≤255:=h
theorem drop_cons {α:Type} {xs:List α} {i:Nat} {x:α} (h:xs[i]?=some x):xs.drop i=x::xs.drop (i+1):=by obtain⟨hi,e⟩:=z6 h;rw[List.drop_eq_getElem_cons hi,e]
theorem dD {α:Type} {xs:List α} {i:Nat} {x:α} (h:xs[i]?=some x):xs.take (i+1)=xs.take i++ [x]:=by rw[List.take_add_one,h];rfl
theorem au {α:Type} {xs:List α} {i:Nat} (h:i<xs.length): ∃x,xs[i]?=some x:=⟨_,List.getElem?_eq_getElem h⟩
theorem xC {α:Type} {xs:List α} {i:Nat} {x:α} {p:α→Bool} (h:xs[i]?=some x):(xs.take (i+1)).all p=((xs.take i).all p&&p x):=by rw[dD h,List.all_append];simp
theorem Is {α:Type} {xs:List α} {i:Nat} {x:α} {p:α→Bool} (h:xs[i]?=some x)(hp:p x=false):xs.all p=false:=by rw[List.all_eq_false];exact⟨x,x7 h,by simp[hp]⟩
theorem ah.XQ {E:Env} {G:Goal} {todo:List WI} {X:Type} (t:X→St)(inv:X→Prop) {A:Prop} (h:(∀s x,inv x→Le s (t x)→ah E G todo s)→A)(hw: ∀x,inv x→ah E G todo (t x)):A:=h fun s x hx hl=>ah.weaken hl (hw x hx)
theorem PC.dec {E:Env} {f:Nat} {xs:List (Sigma Ty.den)} {b:Bool} (h:PC E f xs .bool b):PC E f xs .bool (decide (b=true)):=by cases b<;>exact h
theorem HC.eN {E:Env} {f:Nat} {args:List PV} {bl bl':List (Nat×aQ)} {p:PV} (l:List (Nat×Nat))(hp:vm l=true)(h:HC E f args bl p bl'):HC E f args bl (p.eN (bn l)) (kr (bn l) bl'):=by
 intro w S ν0 vs a1 a2 a3 a4 a5 a6;refine(h w S ν0 vs a1 a2 a3 a4 a5 a6).mono ?_;rintro e w'⟨v,rfl,hk,ν,S',b1,b2,b3,hW,hv⟩;refine⟨v,rfl,hk,?_⟩;obtain⟨h1,h2,h3⟩:=Dl hp
 (have inj: ∀i j,bn l i=bn l j→i=j:=fun i j e=>by rw[←h1 i,←h1 j,e]);have KG: ∀i b,look i bl'=some b→look (bn l i) (kr (bn l) bl')=some (b.map (PV.im (bn l))):=fun i b hb=>iT (fun j c _ e=>inj j i e) hb
 have hold: ∀i b,look i (kr (bn l) bl')=some b→ ∃j c,bn l j=i∧look j bl'=some c∧b=c.map (PV.im (bn l)):=fun i b hb=>mZ (fun j k _ _ _ _ e=>inj j k e) hb;have hle:Ctx.ZR (keys bl') (bn l) ⟨ν,(⟨[],bl'⟩:St).D,w',⟨S',aJ w ⟨S,iS ν0 bl,ν0,[]⟩⟩⟩ ⟨fun i=>ν (bn (cz l) i),(⟨[],kr (bn l) bl'⟩:St).D,w',⟨S',aJ w ⟨S,iS ν0 bl,ν0,[]⟩⟩⟩:=⟨fun _ _=>rfl,fun _ h=>h,fun i _⟨b,hb⟩=>⟨_,KG i b hb⟩,fun i _ _=>by simp only[h1]⟩
 (have nX: ∀j,P0≤bn l j→P0≤j:=fun j hi=>by rcases Nat.lt_or_ge j P0 with h'|h';(·exfalso;have e:=h3 (bn l j) hi;have:=inj _ _ e;omega);·exact h');refine⟨fun i=>ν (bn (cz l) i),S',b1,b2,fun i hi⟨b,hb⟩=>?_,⟨hW.lt,hW.size,fun i b hb=>?_,fun i j b c eQ hi hj g hg ee=>?_⟩,mY hle (oR (fun _ h=>h) hv) hv⟩
 (·obtain⟨j,c,rfl,hc,_⟩:=hold i b hb;have hj:=nX j hi;rw[h3 j hj];(have e:bn (cz l) j=j:=by have:=h1 j;rw[h3 j hj]at this;exact this);simp only[e];exact b3 j hj ⟨c,hc⟩)
 (·obtain⟨j,c,rfl,hc,rfl⟩:=hold i b hb;have hr:=hW.cD j c hc;exact rZ hle (tB (fun _ h=>h) hr) (by simp only[h1]) (fun g hg=>⟨rfl,(jQ hr hg).1,(jQ hr hg).2.1⟩) hr)
 ·obtain⟨i',b',rfl,jf,_⟩:=hold i b hi;obtain⟨j',c',rfl,jN,_⟩:=hold j c hj;simp only[h1]at hg ee;exact hW.ne i' j' b' c' (fun e=>eQ (by rw[e])) jf jN g hg ee
abbrev ax:=List UInt8
abbrev Rl:=Int×Int×ax×ax×Int
abbrev bR:=Int×Int×List Rl
instance bU6:DecidableEq Rl:=fun a b=>inferInstanceAs(Decidable ((a:Int×Int×ax×ax×Int)=b))
def vZ(n a b:Int):Bool:=decide (a≤n∧n≤b)
def low(u:UInt8):Bool:=decide (97≤u.toNat∧u.toNat≤122)
def Dv(u:UInt8):Bool:=decide (97≤u.toNat∧u.toNat≤122∨65≤u.toNat∧u.toNat≤90∨48≤u.toNat∧u.toNat≤57)
def KY(n m:Int):Bool:=decide (0≤m∧m<n∧m<8)
def Qg(n:Int)(r:Rl):Bool:=KY n r.1&&KY n r.2.1&&vZ r.2.2.2.2 0 1000
def gU(a m:Int):Bool:=decide (a/2^m.toNat%2=1)
theorem xD {a:Int} (h:0≤a):((a.toNat &&& (1:Int).toNat:Nat):Int)=a%2:=by show((a.toNat &&& 1:Nat):Int)=_;rw[Nat.and_one_is_mod];omega
theorem oz {a:Int} (h:0≤a)(m:Nat):0≤a/2^m:=Int.ediv_nonneg h (Int.le_of_lt (Int.pow_pos (by decide)))
theorem XR(v a b:Int):PC env 117 [⟨.int .i64,v⟩,⟨.int .i64,a⟩,⟨.int .i64,b⟩] .bool (vZ v a b):=by
 refine PC.aC (m:=2000) ae br9 rfl rfl rfl rfl (by kernel_rfl) ?_;intro hx;simp only[Tryz.f117];simp only[go_sem]
 unfold vZ;refine⟨fun h=>?_,fun h=>?_⟩;(·congr 1;simp;omega);·symm;simp;omega
theorem aM2(s:ax):PC env 118 [⟨.str,s⟩] .bool (s.all low):=by
 refine PC.aC (m:=2000) ae XF rfl rfl rfl rfl (by kernel_rfl) ?_;intro hx;simp only[Tryz.f118];simp only[go_sem]
 have hlen:s.length≤9223372036854775807:=hx.1;refine ah.bz (X:=Nat) (fun(i:Nat)=>[(3,.iv (.int .i64) (i:Int))]) (fun(i:Nat)=>[]) (fun(i:Nat)=>i≤s.length∧(s.take i).all low=true) (fun(i:Nat)=>s.length-i) 0 ?_
 intro b1 b2 aS bd;simp only[go_sem]at aS bd;subst aS;subst bd;refine⟨v8,?_,?_⟩
 (·exact⟨x9,rfl⟩);intro i⟨hi,hb⟩back;refine av ae ⟨_,XF,rfl⟩ 2000 _ _ (by kernel_rfl) ?_;simp only[go_sem]
 refine⟨fun h=>?_,fun h=>?_⟩;(·obtain⟨x,nz⟩: ∃x,s[i]?=some x:=au v6;have oU:low x=false→false=s.all low:=fun hl=>(Is nz hl).symm;(have Fe:low x=true→(s.take (i+1)).all low=true:=fun hl=>by rw[xC nz,hb,hl];rfl);refine⟨x5,_,⟨x,nz,rfl⟩,?_⟩;(repeat' (first|(with_reducible intro _)|(with_reducible apply And.intro)|(with_reducible refine Exists.intro _ (And.intro (Exists.intro x (And.intro nz rfl)) ?_))));all_goals first|(refine oU ?_;simp[low];omega)|(with_reducible exact x5)|omega|(refine back _ (i+1) v8 ⟨v6,Fe ?_⟩ v6;simp[low];omega)|skip)
 ·rw[wt v6]at hb;rw[hb]
theorem aM3(s:ax):PC env 119 [⟨.str,s⟩] .bool (s.all Dv):=by
 refine PC.aC (m:=2000) ae XG rfl rfl rfl rfl (by kernel_rfl) ?_;intro hx;simp only[Tryz.f119];simp only[go_sem]
 have hlen:s.length≤9223372036854775807:=hx.1;refine ah.bz (X:=Nat) (fun(i:Nat)=>[(3,.iv (.int .i64) (i:Int))]) (fun(i:Nat)=>[]) (fun(i:Nat)=>i≤s.length∧(s.take i).all Dv=true) (fun(i:Nat)=>s.length-i) 0 ?_
 intro b1 b2 aS bd;simp only[go_sem]at aS bd;subst aS;subst bd;refine⟨v8,?_,?_⟩
 (·exact⟨x9,rfl⟩);intro i⟨hi,hb⟩back;refine av ae ⟨_,XG,rfl⟩ 2000 _ _ (by kernel_rfl) ?_;simp only[go_sem]
 refine⟨fun h=>?_,fun h=>?_⟩;(·obtain⟨x,nz⟩: ∃x,s[i]?=some x:=au v6;have oU:Dv x=false→false=s.all Dv:=fun hl=>(Is nz hl).symm;(have Fe:Dv x=true→(s.take (i+1)).all Dv=true:=fun hl=>by rw[xC nz,hb,hl];rfl);refine⟨x5,_,⟨x,nz,rfl⟩,?_⟩;(repeat' (first|(with_reducible intro _)|(with_reducible apply And.intro)));all_goals first|(refine oU ?_;simp[Dv];omega)|(with_reducible exact x5)|omega|(refine back _ (i+1) v8 ⟨v6,Fe ?_⟩ v6;simp[Dv];omega)|exact(ak v6 v6).1|exact(ak v6 v6).2|skip)
 ·rw[wt v6]at hb;rw[hb]
theorem KZ(s:bR)(m:Int):PC env 60 [⟨ai,s⟩,⟨.int .i64,m⟩] .bool (KY s.1 m):=by
 obtain⟨n,a,l⟩:=s;refine PC.aC (m:=2000) ae bK3 rfl rfl rfl rfl (by kernel_rfl) ?_;intro hx;simp only[Tryz.f60];simp only[go_sem]
 unfold KY;(repeat' (first|(with_reducible intro _)|(with_reducible apply And.intro)));all_goals first|(rw[decide_eq_decide];omega)|(symm;simp;omega)
theorem Ob(s:bR)(r:Rl):PC env 53 [⟨ai,s⟩,⟨ba,r⟩] .bool (Qg s.1 r):=by
 obtain⟨n,a,l⟩:=s;obtain⟨fr,t,i,o,c⟩:=r;have h1:=(KZ (n,a,l) fr).dec;have h2:=(KZ (n,a,l) t).dec;refine PC.aC (m:=2000) ae bK1 rfl rfl rfl rfl (by kernel_rfl) ?_
 intro hx;simp only[Tryz.f53];simp only[go_sem];(repeat' (first|(with_reducible intro _)|(with_reducible apply And.intro)|(with_reducible refine⟨_,h1,?_⟩;try simp only[go_sem])|(with_reducible refine⟨_,h2,?_⟩;try simp only[go_sem])|fail))
 all_goals(unfold Qg vZ;dsimp only at*;simp_all;try omega)
theorem K0(s:bR)(m:Int)(h0:0≤m∧m<8):PC env 104 [⟨ai,s⟩,⟨.int .i64,m⟩] .bool (gU s.2.1 m):=by
 obtain⟨n,a,l⟩:=s;refine PC.aC (m:=2000) ae br6 rfl rfl rfl rfl (by kernel_rfl) ?_;intro hx;simp only[Tryz.f104];simp only[go_sem]
 have ha:=nj hx.1.2.1;dsimp only at ha;exact⟨⟨ha.1,h0⟩,oz ha.1 _,by show decide (((_ &&& (1:Int).toNat:Nat):Int)=1)=_;rw[xD (oz ha.1 _)];rfl⟩
end
section
attribute[local go_sem←]u3 u4 u5
theorem aM4 {α:Type} {a b:List α} {k:Nat} (h:a.take k=b.take k)(ha:a.length≤k)(hb:b.length≤k):a=b:=by rwa[wt ha,wt hb]at h
def cC(n:Int)(r:Rl):Bool:=vZ r.1 0 (n-1)&&vZ r.2.1 0 (n-1)&&decide (r.2.2.1.length≤4)&&r.2.2.1.all low&&decide (r.2.2.2.1.length≤4)&&r.2.2.2.1.all Dv&&vZ r.2.2.2.2 0 1000
def fc(n:Int)(l:List Rl)(i:Nat):Bool:=match l[i]? with|some r=>decide (r∉l.take i)&&cC n r|none=>false
theorem It(s:bR)(i:Nat)(hn:0≤s.1)(hi:i<s.2.2.length):PC env 74 [⟨ai,s⟩,⟨.int .i64,(i:Int)⟩] .bool (fc s.1 s.2.2 i):=by
 obtain⟨n,a,l⟩:=s;obtain⟨r,hr⟩: ∃r,l[i]?=some r:=au hi;dsimp only at hn hi;(have MD:fc n l i=(decide (r∉l.take i)&&cC n r):=by unfold fc;rw[hr]);dsimp only;rw[MD]
 clear MD;obtain⟨fr,t,ri,ro,c⟩:=r;refine PC.aC (m:=2000) ae aW2 rfl rfl rfl rfl (by kernel_rfl) ?_;intro hx;simp only[Tryz.f74];simp only[go_sem]
 have A5:l.length≤9223372036854775807:=hx.1.2.2.1;have hnn:=bu2 hx.1.1;dsimp only at hnn;refine⟨x5,_,hr,?_⟩;refine ah.bz (X:=Nat) (fun(k:Nat)=>[(6,.iv (.int .i64) (k:Int))]) (fun(k:Nat)=>[]) (fun(k:Nat)=>k≤i∧(fr,t,ri,ro,c)∉l.take k) (fun(k:Nat)=>i-k) 0 ?_
 intro b1 b2 aS bd;simp only[go_sem]at aS bd;subst aS;subst bd;refine⟨v8,?_,?_⟩
 (·exact⟨x9,by simp⟩);intro k⟨hk,he⟩back;refine av ae ⟨_,aW2,rfl⟩ 2000 _ _ (by kernel_rfl) ?_;simp only[go_sem]
 refine⟨fun h2=>?_,fun h2=>?_⟩;(·obtain⟨x,nz⟩: ∃x,l[k]?=some x:=au v6;refine⟨x5,x,nz,fun hy=>?_,fun hn=>?_⟩;(·(have e:x=(fr,t,ri,ro,c):=by obtain⟨e1,e2,e3,e4,e5⟩:=hy;exact Prod.ext e1 (Prod.ext e2 (Prod.ext e3 (Prod.ext e4 e5))));(have hm:(fr,t,ri,ro,c)∈l.take i:=by rw[←e];refine x7 (i:=k) ?_;rw[List.getElem?_take,if_pos v6];exact nz);rw[decide_eq_false (by simpa using hm)];rfl);·refine⟨ak v6 v6,back _ (k+1) v8 ⟨v6,?_⟩ v6⟩;rw[dD nz,List.mem_append,List.mem_singleton];rintro(h|h);(·exact he h);·subst h;exact hn ⟨rfl,rfl,rfl,rfl,rfl⟩)
 ·(obtain rfl:k=i:=by omega);have hd:decide (¬(fr,t,ri,ro,c)∈List.take k l)=true:=decide_eq_true he;rw[hd];clear back;have d1:=(XR fr 0 (n-1)).dec;have d2:=(XR t 0 (n-1)).dec;have d3:=(aM2 ri).dec;have d4:=(aM3 ro).dec;have d5:=(XR c 0 1000).dec;have hR:cC n (fr,t,ri,ro,c)=(vZ fr 0 (n-1)&&vZ t 0 (n-1)&&decide (ri.length≤4)&&ri.all low&&decide (ro.length≤4)&&ro.all Dv&&vZ c 0 1000):=rfl;rw[hR];generalize ri.all low=b3 at*;generalize ro.all Dv=b4 at*;refine⟨ak v6 v6,?_⟩;(repeat' (first|(with_reducible intro _)|(with_reducible apply And.intro)|(with_reducible refine⟨_,d1,?_⟩;try simp only[go_sem])|(with_reducible refine⟨_,d2,?_⟩;try simp only[go_sem])|(with_reducible refine⟨_,d3,?_⟩;try simp only[go_sem])|(with_reducible refine⟨_,d4,?_⟩;try simp only[go_sem])|(with_reducible refine⟨_,d5,?_⟩;try simp only[go_sem])|fail));all_goals first|omega|(simp_all;try omega)
end
section
attribute[local go_sem←]u3 u4 u5
attribute[local go_sem]Int.reduceEq not_true_eq_false not_false_eq_true false_implies
theorem Qh(s:bR)(h:0≤s.1∧s.1≤8):HC env 101 [.iv ai s] [] (.aB 7) [(7,.arr .bool (List.replicate s.1.toNat false))]:=by
 obtain⟨n,a,l⟩:=s;dsimp only at h;refine HC.aC (m:=2000) ae br4 rfl rfl rfl rfl (by kernel_rfl) ?_;intro hx gD;simp only[Tryz.f101];simp only[go_sem]
 (have e:min (max n 0) 8=n:=by omega);rw[e];exact⟨⟨h.1,Int.le_trans h.2 (by decide)⟩,rfl⟩
def bC(w:Int×Int)(i o:ax):Rl:=(w.1,w.2,i,o,(i.length:Int))
theorem pc(w:Int×Int)(i o:ax):PC env 100 [⟨.st (.pair (.int .i64) (.int .i64)),w⟩,⟨.str,i⟩,⟨.str,o⟩] ba (bC w i o):=by
 obtain⟨w1,w2⟩:=w;refine PC.aC (m:=2000) ae br3 rfl rfl rfl rfl (by kernel_rfl) ?_;intro hx;simp only[Tryz.f100];simp only[go_sem]
 rfl
abbrev Ay:=List Int×List Int×Int×Int×Int
abbrev xE:=Int×Int×List Ay
def xF(u:Int):ax:=(([97,98,99]:ax).drop (u%3).toNat).take 1
def Dw(u:Int):ax:=(([97,98,99,65,66,49]:ax).drop (u%6).toNat).take 1
def dN(x:Ay)(n:Int):Rl:=(x.2.2.1%n,x.2.2.2.1%n,(x.1.take 2).flatMap xF,(x.2.1.take 2).flatMap Dw,x.2.2.2.2*2)
theorem Qi(x:Ay)(n:Int)(hn:0<n):PC env 73 [⟨iX,x⟩,⟨.int .i64,n⟩] ba (dN x n):=by
 obtain⟨xi,xo,xf,xt,xc⟩:=x;refine PC.aC (m:=2000) ae Xz rfl rfl rfl rfl (by kernel_rfl) ?_;intro hx;simp only[Tryz.f73];simp only[go_sem]
 have nz: ∀u,u∈xi→0≤u∧u≤255:=fun u hu=>nj (hx.1.1.2 u hu);have XS: ∀u,u∈xo→0≤u∧u≤255:=fun u hu=>nj (hx.1.2.1.2 u hu);have hli:xi.length≤9223372036854775807:=hx.1.1.1
 have TB:xo.length≤9223372036854775807:=hx.1.2.1.1;have hf:=nj hx.1.2.2.1;have ht:=nj hx.1.2.2.2.1;have hc:=nj hx.1.2.2.2.2;dsimp only at hf ht hc;have t1:Int.tmod xf n=xf%n:=Int.tmod_eq_emod_of_nonneg hf.1
 have t2:Int.tmod xt n=xt%n:=Int.tmod_eq_emod_of_nonneg ht.1;rw[t1,t2];refine⟨hn,hn,ak v6 v6,?_⟩;(have fin: ∀ {α:Type} {l:List α} {i:Nat} {f:α→ax},¬((i:Int)<2∧(i:Int)<(l.length:Int))→i≤2→i≤l.length→(l.take i).flatMap f=(l.take 2).flatMap f:=by intro α l i f h1 h2 h3;by_cases h:i=2;(·rw[h]);·(have:i=l.length:=by omega);subst this;rw[wt (x8),wt h2])
 (have st: ∀ {l:List Int} {i:Nat} {u:Int} {f:Int→ax},l[i]?=some u→(l.take (i+1)).flatMap f=(l.take i).flatMap f++f u:=by intro l i u f h;rw[dD h,List.flatMap_append];simp)
 (have bU7: ∀u:Int,0≤u→(([97,98,99]:ax).drop (u%3).toNat).take ((u%3+1).toNat-(u%3).toNat)=xF u:=by intro u hu;rw[show(u%3+1).toNat-(u%3).toNat=1 by omega];rfl)
 (have outs: ∀u:Int,0≤u→(([97,98,99,65,66,49]:ax).drop (u%6).toNat).take ((u%6+1).toNat-(u%6).toNat)=Dw u:=by intro u hu;rw[show(u%6+1).toNat-(u%6).toNat=1 by omega];rfl)
 (have bU8: ∀u:Int,(xF u).length≤1:=fun u=>by unfold xF;rw[List.length_take];omega);(have bA8: ∀u:Int,(Dw u).length≤1:=fun u=>by unfold Dw;rw[List.length_take];omega)
 (have bU9: ∀l:List Int,(l.flatMap xF).length≤l.length:=by intro l;induction l with|nil=>simp|cons x l ih=>simp only[List.flatMap_cons,y9,x6,xF,List.length_take];omega)
 (have bV0: ∀l:List Int,(l.flatMap Dw).length≤l.length:=by intro l;induction l with|nil=>simp|cons x l ih=>simp only[List.flatMap_cons,y9,x6,Dw,List.length_take];omega)
 refine ah.bz (X:=Nat) (fun(i:Nat)=>[(6,.iv (.int .i64) (i:Int))]) (fun(i:Nat)=>[(5,.box [.iv (.int .i64) (xf%n),.iv (.int .i64) (xt%n),.iv .str ((xi.take i).flatMap xF),.iv .str ([]:ax),.iv (.int .i64) (xc*2)])]) (fun(i:Nat)=>i≤xi.length∧i≤2) (fun(i:Nat)=>2-i) 0 ?_
 intro b1 b2 aS bd;simp only[go_sem]at aS bd;subst aS;subst bd;refine⟨v8,?_,?_⟩
 (·exact⟨x9,x9⟩);intro i⟨hi,XT⟩back;refine av ae ⟨_,Xz,rfl⟩ 2000 _ _ (by kernel_rfl) ?_;simp only[go_sem]
 have bV1:bytesOf ⟨#[97,98,99]⟩=([97,98,99]:ax):=rfl;have bV2:bytesOf ⟨#[97,98,99,65,66,49]⟩=([97,98,99,65,66,49]:ax):=rfl;apply ah.XQ (X:=Unit) (fun _=>⟨[(7,.iv (.int .i64) (0:Int)),(5,.ref 5 0),(4,.ref 4 0),(2,.ref 2 0)],[(5,.box [.iv (.int .i64) (xf%n),.iv (.int .i64) (xt%n),.iv .str ((xi.take 2).flatMap xF),.iv .str ([]:ax),.iv (.int .i64) (xc*2)]),(4,.box [.iv (.int .i64) (0:Int),.iv (.int .i64) (0:Int),.iv .str ([]:ax),.iv .str ([]:ax),.iv (.int .i64) (0:Int)]),(2,.box [.iv (.sl (.int .u8)) xi,.iv (.sl (.int .u8)) xo,.iv (.int .u8) xf,.iv (.int .u8) xt,.iv (.int .u8) xc])]⟩) (fun _=>True)
 (·intro key;refine⟨fun g1=>⟨fun g2=>?_,fun g2=>?_⟩,fun g1=>?_⟩;(·obtain⟨u,hu⟩: ∃u,xi[i]?=some u:=au v6;have hub:=nz u (x7 hu);have tu:Int.tmod u 3=u%3:=Int.tmod_eq_emod_of_nonneg hub.1;have iu:=bU9 (xi.take i);have bV3:=bU8 u;(have bV4:(xi.take i).length=i:=by rw[List.length_take];omega);refine⟨x5,u,hu,x5,u,hu,?_⟩;rw[tu,bV1,bU7 u hub.1];refine⟨aX0 v6 v6,⟨v6,v6,by show u%3+1≤(3:Int);omega⟩,v6,ak v6 v6,?_⟩;refine back _ (i+1) ?_ ⟨v6,v6⟩ v6;rw[←st hu];exact v8);(·refine key _ () trivial ?_;rw[←fin v6 XT hi];exact v8);·refine key _ () trivial ?_;rw[←fin v6 XT hi];exact v8)
 ·intro _ _;clear back hi XT;refine ah.bz (X:=Nat) (fun(i:Nat)=>[(7,.iv (.int .i64) (i:Int))]) (fun(i:Nat)=>[(5,.box [.iv (.int .i64) (xf%n),.iv (.int .i64) (xt%n),.iv .str ((xi.take 2).flatMap xF),.iv .str ((xo.take i).flatMap Dw),.iv (.int .i64) (xc*2)])]) (fun(i:Nat)=>i≤xo.length∧i≤2) (fun(i:Nat)=>2-i) 0 ?_;intro b1 b2 aS bd;simp only[go_sem]at aS bd;subst aS;subst bd;refine⟨v8,?_,?_⟩;(·exact⟨x9,x9⟩);intro i⟨hi,XT⟩back;refine av ae ⟨_,Xz,rfl⟩ 2000 _ _ (by kernel_rfl) ?_;simp only[go_sem];refine⟨fun g1=>⟨fun g2=>?_,fun g2=>?_⟩,fun g1=>?_⟩;(·obtain⟨u,hu⟩: ∃u,xo[i]?=some u:=au v6;have hub:=XS u (x7 hu);have tu:Int.tmod u 6=u%6:=Int.tmod_eq_emod_of_nonneg hub.1;have iu:=bV0 (xo.take i);have bV3:=bA8 u;(have bV4:(xo.take i).length=i:=by rw[List.length_take];omega);refine⟨x5,u,hu,x5,u,hu,?_⟩;rw[tu,bV2,outs u hub.1];refine⟨aX0 v6 v6,⟨v6,v6,by show u%6+1≤(6:Int);omega⟩,v6,ak v6 v6,?_⟩;refine back _ (i+1) ?_ ⟨v6,v6⟩ v6;rw[←st hu];exact v8);(·rw[fin v6 XT hi];rfl);·rw[fin v6 XT hi];rfl
def bN(k:Int):bR:=if k%6=0 then(1,1,[bC (0,0) [97] [97],bC (0,0) [98] [98],bC (0,0) [99] [99]])else if k%6=1 then(1,1,[bC (0,0) [97] [65],bC (0,0) [98,97] [66],bC (0,0) [99,97] [67],bC (0,0) [98] [98]])else if k%6=2 then(2,1,[bC (0,1) [99] [],bC (1,0) [97] [65],bC (1,0) [98] [66],bC (0,0) [97] [97],bC (0,0) [98] [98]])else if k%6=3 then(1,1,[bC (0,0) [97] [97],bC (0,0) [98] [98],bC (0,0) [97,98] [97,98,99,49],bC (0,0) [99] [99]])else if k%6=4 then(1,1,[bC (0,0) [97] [97],(0,0,[98],[98],0),(0,0,[99],[98],7),(0,0,[98],[99],9)])else(1,1,[bC (0,0) [97] [97],bC (0,0) [97] [65],bC (0,0) [97,97] [66],bC (0,0) [98] [98],(0,0,[98],[],20)])
theorem aM5(k:Int)(k0:k%6=0):HC env 50 [.iv (.int .u8) k] [] (.agg [.iv (.int .i64) (bN k).1,.iv (.int .u8) (bN k).2.1,.aB 1000]) [(1000,.arr ba (bN k).2.2)]:=by
 (have e:bN k=(1,1,[bC (0,0) [97] [97],bC (0,0) [98] [98],bC (0,0) [99] [99]]):=by unfold bN;rw[if_pos k0]);rw[e];clear e;(have h:HC env 50 [.iv (.int .u8) k] [] (.agg [.iv (.int .i64) (1:Int),.iv (.int .u8) (1:Int),.aB 28]) [(28,.arr ba ((1,1,[bC (0,0) [97] [97],bC (0,0) [98] [98],bC (0,0) [99] [99]]):bR).2.2)]:=by refine HC.aC (m:=2000) ae GA rfl rfl rfl rfl (by kernel_rfl) ?_;intro hx gD;simp only[Tryz.f50];simp only[go_sem];have hk:=nj hx.1;have t1:Int.tmod k 6=k%6:=Int.tmod_eq_emod_of_nonneg hk.1;rw[t1];(repeat' (first|(with_reducible intro _)|(with_reducible apply And.intro)|(with_reducible refine⟨_,pc _ _ _,?_⟩;try simp only[go_sem])|fail));all_goals first|(exfalso;omega)|rfl)
 exact h.eN [(28,1000),(1000,28)] rfl
theorem aM6(k:Int)(n0: ¬k%6=0)(k1:k%6=1):HC env 50 [.iv (.int .u8) k] [] (.agg [.iv (.int .i64) (bN k).1,.iv (.int .u8) (bN k).2.1,.aB 1000]) [(1000,.arr ba (bN k).2.2)]:=by
 (have e:bN k=(1,1,[bC (0,0) [97] [65],bC (0,0) [98,97] [66],bC (0,0) [99,97] [67],bC (0,0) [98] [98]]):=by unfold bN;rw[if_neg n0,if_pos k1]);rw[e];clear e;(have h:HC env 50 [.iv (.int .u8) k] [] (.agg [.iv (.int .i64) (1:Int),.iv (.int .u8) (1:Int),.aB 40]) [(40,.arr ba ((1,1,[bC (0,0) [97] [65],bC (0,0) [98,97] [66],bC (0,0) [99,97] [67],bC (0,0) [98] [98]]):bR).2.2)]:=by refine HC.aC (m:=2000) ae GA rfl rfl rfl rfl (by kernel_rfl) ?_;intro hx gD;simp only[Tryz.f50];simp only[go_sem];have hk:=nj hx.1;have t1:Int.tmod k 6=k%6:=Int.tmod_eq_emod_of_nonneg hk.1;rw[t1];(repeat' (first|(with_reducible intro _)|(with_reducible apply And.intro)|(with_reducible refine⟨_,pc _ _ _,?_⟩;try simp only[go_sem])|fail));all_goals first|(exfalso;omega)|rfl)
 exact h.eN [(40,1000),(1000,40)] rfl
theorem aM7(k:Int)(n0: ¬k%6=0)(n1: ¬k%6=1)(k2:k%6=2):HC env 50 [.iv (.int .u8) k] [] (.agg [.iv (.int .i64) (bN k).1,.iv (.int .u8) (bN k).2.1,.aB 1000]) [(1000,.arr ba (bN k).2.2)]:=by
 (have e:bN k=(2,1,[bC (0,1) [99] [],bC (1,0) [97] [65],bC (1,0) [98] [66],bC (0,0) [97] [97],bC (0,0) [98] [98]]):=by unfold bN;rw[if_neg n0,if_neg n1,if_pos k2])
 rw[e];clear e;(have h:HC env 50 [.iv (.int .u8) k] [] (.agg [.iv (.int .i64) (2:Int),.iv (.int .u8) (1:Int),.aB 54]) [(54,.arr ba ((2,1,[bC (0,1) [99] [],bC (1,0) [97] [65],bC (1,0) [98] [66],bC (0,0) [97] [97],bC (0,0) [98] [98]]):bR).2.2)]:=by refine HC.aC (m:=2000) ae GA rfl rfl rfl rfl (by kernel_rfl) ?_;intro hx gD;simp only[Tryz.f50];simp only[go_sem];have hk:=nj hx.1;have t1:Int.tmod k 6=k%6:=Int.tmod_eq_emod_of_nonneg hk.1;rw[t1];(repeat' (first|(with_reducible intro _)|(with_reducible apply And.intro)|(with_reducible refine⟨_,pc _ _ _,?_⟩;try simp only[go_sem])|fail));all_goals first|(exfalso;omega)|rfl)
 exact h.eN [(54,1000),(1000,54)] rfl
theorem aM8(k:Int)(n0: ¬k%6=0)(n1: ¬k%6=1)(n2: ¬k%6=2)(k3:k%6=3):HC env 50 [.iv (.int .u8) k] [] (.agg [.iv (.int .i64) (bN k).1,.iv (.int .u8) (bN k).2.1,.aB 1000]) [(1000,.arr ba (bN k).2.2)]:=by
 (have e:bN k=(1,1,[bC (0,0) [97] [97],bC (0,0) [98] [98],bC (0,0) [97,98] [97,98,99,49],bC (0,0) [99] [99]]):=by unfold bN;rw[if_neg n0,if_neg n1,if_neg n2,if_pos k3])
 rw[e];clear e;(have h:HC env 50 [.iv (.int .u8) k] [] (.agg [.iv (.int .i64) (1:Int),.iv (.int .u8) (1:Int),.aB 66]) [(66,.arr ba ((1,1,[bC (0,0) [97] [97],bC (0,0) [98] [98],bC (0,0) [97,98] [97,98,99,49],bC (0,0) [99] [99]]):bR).2.2)]:=by refine HC.aC (m:=2000) ae GA rfl rfl rfl rfl (by kernel_rfl) ?_;intro hx gD;simp only[Tryz.f50];simp only[go_sem];have hk:=nj hx.1;have t1:Int.tmod k 6=k%6:=Int.tmod_eq_emod_of_nonneg hk.1;rw[t1];(repeat' (first|(with_reducible intro _)|(with_reducible apply And.intro)|(with_reducible refine⟨_,pc _ _ _,?_⟩;try simp only[go_sem])|fail));all_goals first|(exfalso;omega)|rfl)
 exact h.eN [(66,1000),(1000,66)] rfl
theorem aM9(k:Int)(n0: ¬k%6=0)(n1: ¬k%6=1)(n2: ¬k%6=2)(n3: ¬k%6=3)(k4:k%6=4):HC env 50 [.iv (.int .u8) k] [] (.agg [.iv (.int .i64) (bN k).1,.iv (.int .u8) (bN k).2.1,.aB 1000]) [(1000,.arr ba (bN k).2.2)]:=by
 (have e:bN k=(1,1,[bC (0,0) [97] [97],(0,0,[98],[98],0),(0,0,[99],[98],7),(0,0,[98],[99],9)]):=by unfold bN;rw[if_neg n0,if_neg n1,if_neg n2,if_neg n3,if_pos k4])
 rw[e];clear e;(have h:HC env 50 [.iv (.int .u8) k] [] (.agg [.iv (.int .i64) (1:Int),.iv (.int .u8) (1:Int),.aB 75]) [(75,.arr ba ((1,1,[bC (0,0) [97] [97],(0,0,[98],[98],0),(0,0,[99],[98],7),(0,0,[98],[99],9)]):bR).2.2)]:=by refine HC.aC (m:=2000) ae GA rfl rfl rfl rfl (by kernel_rfl) ?_;intro hx gD;simp only[Tryz.f50];simp only[go_sem];have hk:=nj hx.1;have t1:Int.tmod k 6=k%6:=Int.tmod_eq_emod_of_nonneg hk.1;rw[t1];(repeat' (first|(with_reducible intro _)|(with_reducible apply And.intro)|(with_reducible refine⟨_,pc _ _ _,?_⟩;try simp only[go_sem])|fail));all_goals first|(exfalso;omega)|rfl)
 exact h.eN [(75,1000),(1000,75)] rfl
theorem aN0(k:Int)(n0: ¬k%6=0)(n1: ¬k%6=1)(n2: ¬k%6=2)(n3: ¬k%6=3)(n4: ¬k%6=4):HC env 50 [.iv (.int .u8) k] [] (.agg [.iv (.int .i64) (bN k).1,.iv (.int .u8) (bN k).2.1,.aB 1000]) [(1000,.arr ba (bN k).2.2)]:=by
 (have e:bN k=(1,1,[bC (0,0) [97] [97],bC (0,0) [97] [65],bC (0,0) [97,97] [66],bC (0,0) [98] [98],(0,0,[98],[],20)]):=by unfold bN;rw[if_neg n0,if_neg n1,if_neg n2,if_neg n3,if_neg n4])
 rw[e];clear e;(have h:HC env 50 [.iv (.int .u8) k] [] (.agg [.iv (.int .i64) (1:Int),.iv (.int .u8) (1:Int),.aB 18]) [(18,.arr ba ((1,1,[bC (0,0) [97] [97],bC (0,0) [97] [65],bC (0,0) [97,97] [66],bC (0,0) [98] [98],(0,0,[98],[],20)]):bR).2.2)]:=by refine HC.aC (m:=2000) ae GA rfl rfl rfl rfl (by kernel_rfl) ?_;intro hx gD;simp only[Tryz.f50];simp only[go_sem];have hk:=nj hx.1;have t1:Int.tmod k 6=k%6:=Int.tmod_eq_emod_of_nonneg hk.1;rw[t1];(repeat' (first|(with_reducible intro _)|(with_reducible apply And.intro)|(with_reducible refine⟨_,pc _ _ _,?_⟩;try simp only[go_sem])|fail));all_goals first|(exfalso;omega)|rfl)
 exact h.eN [(18,1000),(1000,18)] rfl
theorem bu3(k:Int):HC env 50 [.iv (.int .u8) k] [] (.agg [.iv (.int .i64) (bN k).1,.iv (.int .u8) (bN k).2.1,.aB 1000]) [(1000,.arr ba (bN k).2.2)]:=by
 by_cases h0:k%6=0;(·exact aM5 k h0);by_cases h1:k%6=1;(·exact aM6 k h0 h1);by_cases h2:k%6=2;(·exact aM7 k h0 h1 h2);by_cases h3:k%6=3;(·exact aM8 k h0 h1 h2 h3)
 by_cases h4:k%6=4;(·exact aM9 k h0 h1 h2 h3 h4);exact aN0 k h0 h1 h2 h3 h4
end
section
attribute[local go_sem←]u3 u4 u5
attribute[local go_sem]Int.reduceEq not_true_eq_false not_false_eq_true false_implies List.append_assoc
def jv(n:Int)(rs:List Rl)(r:Rl):List Rl:=if fc n (rs++ [r]) rs.length=true then rs++ [r]else rs
def fx(n:Int):List Ay→List Rl→List Rl|[],out=>out|y::ys,out=>fx n ys (jv n out (dN y n))
def ig(x:xE):bR:=((bN x.1).1,(bN x.1).2.1,fx (bN x.1).1 (x.2.2.take 4) ((bN x.1).2.2.drop (x.2.1%2).toNat))
theorem pd(k:Int):((bN k).1=1∨(bN k).1=2)∧(bN k).2.1=1∧3≤(bN k).2.2.length∧(bN k).2.2.length≤5:=by unfold bN;(repeat' split);all_goals decide
theorem Sy(n:Int)(rs:List Rl)(r:Rl):rs.length≤(jv n rs r).length∧(jv n rs r).length≤rs.length+1:=by unfold jv;split<;>simp
def bL6(id:Nat)(p:PV)(xs view:List Rl):Prop:=(p= .aB id∧view=xs)∨ ∃off len,p= .ll id 5 off len∧view=(xs.drop off).take len∧off+len≤xs.length∧off<xs.length
theorem aN1(x:xE):PC env 26 [⟨oy,x⟩] ai (ig x):=by
 obtain⟨xb,xd,xm⟩:=x;refine PC.aC (m:=2000) ae Xv rfl rfl rfl rfl (by kernel_rfl) ?_;intro hx;simp only[Tryz.f26];simp only[go_sem]
 refine⟨_,_,bu3 xb,rfl,?_⟩;simp only[go_sem];have hxd:=nj hx.1.2.1;have MN:xm.length≤9223372036854775807:=hx.1.2.2.1
 dsimp only at hxd;have t1:Int.tmod xd 2=xd%2:=Int.tmod_eq_emod_of_nonneg hxd.1;rw[t1];have GB:=pd xb;generalize hB:bN xb=B at GB;obtain⟨n,a,rs⟩:=B;dsimp only at GB⊢
 have hnn:0<n:=v6;have uv:((rs.drop (xd%2).toNat).take (rs.length-(xd%2).toNat))=rs.drop (xd%2).toNat:=wt (by rw[List.length_drop];omega)
 have hlr:(rs.drop (xd%2).toNat).length=rs.length-(xd%2).toNat:=List.length_drop ..;(have hE:ig (xb,xd,xm)=(n,a,fx n (xm.take 4) (rs.drop (xd%2).toNat)):=by unfold ig;dsimp only;rw[hB])
 rw[hE];clear hE;intro _;refine⟨⟨v6,v6⟩,?_⟩;refine ah.bz (X:=Nat×PV×List Rl×List Rl) (fun(z:Nat×PV×List Rl×List Rl)=>[(4,.iv (.int .i64) (z.1:Int)),(7,.any),(9,.any),(14,.any)]) (fun(z:Nat×PV×List Rl×List Rl)=>[(3,.box [.iv (.int .i64) n,.iv (.int .u8) a,z.2.1]),(801000,.arr ba z.2.2.1)]) (fun(z:Nat×PV×List Rl×List Rl)=>bL6 801000 z.2.1 z.2.2.1 z.2.2.2∧z.1≤xm.length∧z.1≤4∧z.2.2.2.length≤5+z.1∧1≤z.2.2.2.length∧fx n ((xm.take 4).drop z.1) z.2.2.2=fx n (xm.take 4) (rs.drop (xd%2).toNat)) (fun(z:Nat×PV×List Rl×List Rl)=>4-z.1) (0,.ll 801000 5 (xd%2).toNat (rs.length-(xd%2).toNat),rs,rs.drop (xd%2).toNat) ?_
 intro b1 b2 aS bd;simp only[go_sem]at aS bd;subst aS;subst bd;refine⟨v8,?_,?_⟩
 (·exact⟨Or.inr ⟨_,_,rfl,uv.symm,v7,v7⟩,x9,x9,by show(rs.drop _).length≤_;omega,by show 1≤(rs.drop _).length;omega,rfl⟩)
 generalize fx n (xm.take 4) (rs.drop (xd%2).toNat)=R;intro⟨i,p,xs,out⟩⟨Qj,hi,hi4,TB,uf,hR⟩back;dsimp only at Qj hi hi4 TB uf hR;(have done: ¬(i<xm.length∧i<4)→out=R:=fun h=>by have:(xm.take 4).drop i=[]:=List.drop_of_length_le (by rw[List.length_take];omega);rw[this]at hR;exact hR)
 rcases Qj with⟨rfl,rfl⟩|⟨off,len,rfl,hv,MI,FN⟩;(·refine av ae ⟨_,Xv,rfl⟩ 2000 _ _ (by kernel_rfl) ?_;simp only[go_sem];refine⟨fun g1=>⟨fun g2=>?_,fun g2=>?_⟩,fun g1=>?_⟩;(·obtain⟨y,hy⟩: ∃y,xm[i]?=some y:=au v6;refine⟨x5,y,hy,_,Qi y n hnn,fun _=>⟨v6,?_⟩⟩;(have e1:((out++ [dN y n]).length:Int)-1=(out.length:Int):=by simp only[y9,x6,List.length_nil];omega);rw[e1];refine⟨ak v6 v6,_,(It (n,a,out++ [dN y n]) out.length v7 (by simp)).dec,?_⟩;simp only[go_sem];(have hd:(xm.take 4)[i]?=some y:=by rw[List.getElem?_take,if_pos v6];exact hy);rw[drop_cons hd]at hR;refine⟨fun g3=>?_,fun g3=>?_⟩;(·have e3:jv n out (dN y n)=out:=if_neg g3;rw[e1];refine⟨ak v6 v6,⟨v6,by simp only[y9,x6,List.length_nil];omega⟩,ak v6 v6,?_⟩;refine back _ (i+1,.ll 801000 5 0 ((out.length:Int).toNat-0),out++ [dN y n],out) ?_ ⟨Or.inr ⟨_,_,rfl,by simp,by simp,by simp⟩,v7,v7,v7,uf,?_⟩ v7;(·exact v8);·dsimp only;have:fx n (y::(xm.take 4).drop (i+1)) out=fx n ((xm.take 4).drop (i+1)) (jv n out (dN y n)):=rfl;rw[this,e3]at hR;exact hR);·have e3:jv n out (dN y n)=out++ [dN y n]:=if_pos g3;refine⟨ak v6 v6,?_⟩;refine back _ (i+1,.aB 801000,out++ [dN y n],out++ [dN y n]) ?_ ⟨Or.inl ⟨rfl,rfl⟩,v7,v7,by simp only[y9,x6,List.length_nil];omega,by simp,?_⟩ v7;(·exact v8);·dsimp only;have:fx n (y::(xm.take 4).drop (i+1)) out=fx n ((xm.take 4).drop (i+1)) (jv n out (dN y n)):=rfl;rw[this,e3]at hR;exact hR);(·rw[done v6]);·rw[done v6])
 ·refine av ae ⟨_,Xv,rfl⟩ 2000 _ _ (by kernel_rfl) ?_;simp only[go_sem];(have hlen:len=out.length:=by rw[hv,List.length_take,List.length_drop];omega);rw[←hv];refine⟨fun g1=>⟨fun g2=>?_,fun g2=>?_⟩,fun g1=>?_⟩;(·obtain⟨y,hy⟩: ∃y,xm[i]?=some y:=au v6;refine⟨x5,y,hy,_,Qi y n hnn,fun _=>⟨⟨.inl FN,v6⟩,?_⟩⟩;(have e1:((out++ [dN y n]).length:Int)-1=(out.length:Int):=by simp only[y9,x6,List.length_nil];omega);rw[e1];refine⟨ak v6 v6,_,(It (n,a,out++ [dN y n]) out.length v7 (by simp)).dec,?_⟩;simp only[go_sem];(have hd:(xm.take 4)[i]?=some y:=by rw[List.getElem?_take,if_pos v6];exact hy);rw[drop_cons hd]at hR;refine⟨fun g3=>?_,fun g3=>?_⟩;(·have e3:jv n out (dN y n)=out:=if_neg g3;rw[e1];refine⟨ak v6 v6,⟨v6,by simp only[y9,x6,List.length_nil];omega⟩,ak v6 v6,?_⟩;refine back _ (i+1,.ll 801000 5 0 ((out.length:Int).toNat-0),out++ [dN y n],out) ?_ ⟨Or.inr ⟨_,_,rfl,by simp,by simp,by simp⟩,v7,v7,v7,uf,?_⟩ v7;(·exact v8);·dsimp only;have:fx n (y::(xm.take 4).drop (i+1)) out=fx n ((xm.take 4).drop (i+1)) (jv n out (dN y n)):=rfl;rw[this,e3]at hR;exact hR);·have e3:jv n out (dN y n)=out++ [dN y n]:=if_pos g3;refine⟨ak v6 v6,?_⟩;refine back _ (i+1,.aB 801000,out++ [dN y n],out++ [dN y n]) ?_ ⟨Or.inl ⟨rfl,rfl⟩,v7,v7,by simp only[y9,x6,List.length_nil];omega,by simp,?_⟩ v7;(·exact v8);·dsimp only;have:fx n (y::(xm.take 4).drop (i+1)) out=fx n ((xm.take 4).drop (i+1)) (jv n out (dN y n)):=rfl;rw[this,e3]at hR;exact hR);(·rw[done v6]);·rw[done v6]
end
section
theorem uy {n:Int} {rs:List Rl} {r:Rl} (h:fc n (rs++ [r]) rs.length=true):cC n r=true∧r∉rs:=by
 unfold fc at h;simp only[List.getElem?_append_right (x8),Nat.sub_self,List.getElem?_cons_zero,List.take_left',z8,decide_eq_true_eq]at h
 exact⟨h.2,h.1⟩
theorem K1 {n:Int} {rs:List Rl} {r x:Rl} (hx:x∈jv n rs r):x∈rs∨cC n x=true:=by
 unfold jv at hx;split at hx;(·rename_i h;rcases ws hx with hx|hx;(·exact .inl hx);·rw[wd hx];exact .inr (uy h).1);·exact .inl hx
theorem K3 {n:Int} {rs:List Rl} {r:Rl} (h:rs.Nodup):(jv n rs r).Nodup:=by
 unfold jv;split;(·rename_i hr;rw[List.nodup_append];refine⟨h,by simp,fun a ha b hb=>?_⟩;rw[wd hb];rintro rfl;exact(uy hr).2 ha);·exact h
theorem xG {n:Int} {x:Rl} : ∀ {ys:List Ay} {out:List Rl},x∈fx n ys out→x∈out∨cC n x=true|[],out,h=>.inl h|y::ys,out,h=>by rcases xG (ys:=ys) h with h|h;(·exact K1 h);·exact .inr h
theorem xH {n:Int} : ∀ {ys:List Ay} {out:List Rl},out.Nodup→(fx n ys out).Nodup|[],out,h=>h|y::ys,out,h=>xH (ys:=ys) (K3 h)
theorem Dx {n:Int} : ∀(ys:List Ay)(out:List Rl),out.length≤(fx n ys out).length∧(fx n ys out).length≤out.length+ys.length|[],out=>⟨x8,x8⟩|y::ys,out=>by have h:=Dx (n:=n) ys (jv n out (dN y n));have h2:=Sy n out (dN y n);show _≤(fx n ys (jv n out (dN y n))).length∧(fx n ys (jv n out (dN y n))).length≤_;simp only[x6];omega
theorem Oc(k:Int):(bN k).2.2.all (cC (bN k).1)=true∧(bN k).2.2.Nodup:=by unfold bN;(repeat' split);all_goals decide
structure gw(s:bR):Prop where
 n1:1≤s.1
 n8:s.1≤8
 a1:1≤s.2.1
 a2:s.2.1≤2^s.1.toNat-1
 len:s.2.2.length≤64
 right: ∀r,r∈s.2.2→cC s.1 r=true
 nodup:s.2.2.Nodup
theorem K4(x:xE):gw (ig x)∧(ig x).1≤2∧2≤(ig x).2.2.length∧(ig x).2.2.length≤9:=by
 have hf:=pd x.1;have hr:=Oc x.1;unfold ig;have hl:=Dx (n:=(bN x.1).1) (x.2.2.take 4) ((bN x.1).2.2.drop (x.2.1%2).toNat);(have h4:(x.2.2.take 4).length≤4:=by rw[List.length_take];omega)
 have hd:((bN x.1).2.2.drop (x.2.1%2).toNat).length=(bN x.1).2.2.length-(x.2.1%2).toNat:=List.length_drop ..;refine⟨⟨v7,v7,v7,?_,v7,fun r kF=>?_,xH (hr.2.sublist (List.drop_sublist _ _))⟩,v7,v7,v7⟩
 (·dsimp only;rw[hf.2.1];rcases hf.1 with h|h<;>rw[h]<;>decide);·rcases xG kF with h|h;(·exact List.all_eq_true.1 hr.1 r (List.mem_of_mem_drop h));·exact h
theorem bk {n:Int} {r:Rl} (h:cC n r=true):0≤r.1∧r.1<n∧0≤r.2.1∧r.2.1<n∧0≤r.2.2.2.2∧r.2.2.2.2≤1000∧r.2.2.1.length≤4∧r.2.2.2.1.length≤4:=by
 simp only[cC,vZ,z8,decide_eq_true_eq]at h;omega
end
end Go.Proofs.YtimognngcagphaaGreat
