/- Contracts: made schemes. Nothing here is trusted; no condition. -/
import Derived.Test.YtgpkijnphchkpaaGreatA9
import Derived.Test.YtgpkijnphchkpaaGreatProg
set_option linter.unusedSimpArgs false
set_option linter.unusedVariables false
open Nat renaming reduceBEq→zA,reduceAdd→zB,reduceSub→zC,reduceMul→zD,reduceLeDiff→zE
open Int renaming reduceLT→zF,reduceLE→zG,reduceToNat→zH,reduceNeg→zI
namespace Go.Proofs.YtgpkijnphchkpaaGreat
theorem bw {α:Sort _} {x:α} {B C:Prop} (h:C):(x=x∨B)∧C:=⟨.inl rfl,h⟩
theorem bx {α:Sort _} {x:α} {A B C:Prop} (h:C):(A∨x=x∨B)∧C:=⟨.inr (.inl rfl),h⟩
theorem bz {α β:Sort _} {x:α} {y:β} {A B D C:Prop} (h:C):(A∨B∨D∨x=x∧y=y)∧C:=⟨.inr (.inr (.inr ⟨rfl,rfl⟩)),h⟩
theorem bD {α β:Sort _} {x:α} {y:β} {A B D C:Prop} (h:C):(A∨B∨(x=x∧y=y∧True)∨D)∧C:=⟨.inr (.inr (.inl ⟨rfl,rfl,trivial⟩)),h⟩
end Go.Proofs.YtgpkijnphchkpaaGreat
namespace Go.Proofs.YtgpkijnphchkpaaGreat
set_option maxRecDepth 100000
abbrev kJ:Ty:=(.st (.pair (.int .i64) (.pair (.int .i64) (.pair .bool (.int .u8)))))
abbrev eJ:Ty:=(.st (.pair .str (.int .u64)))
abbrev gJ:Ty:=(.st (.pair (.sl (.int .u8)) (.pair (.sl (.int .u8)) (.pair (.int .u8) (.pair (.int .u8) (.int .u8))))))
abbrev lL:Ty:=(.st (.pair (.int .u8) (.pair (.int .u8) (.sl gJ))))
abbrev eV:Ty:=(.st (.pair (.int .u8) (.pair (.int .u8) (.pair (.int .u8) (.pair (.int .u8) (.pair (.int .u8) (.int .u8)))))))
abbrev bn:Ty:=(.st (.pair (.int .i64) (.pair (.int .i64) (.pair .str (.pair .str (.int .i64))))))
abbrev al:Ty:=(.st (.pair (.int .i64) (.pair (.int .u8) (.sl bn))))
abbrev oz:Ty:=(.st (.pair (.int .i64) (.int .i64)))
abbrev bP:Ty:=(.st (.pair (.int .i64) (.pair .str (.pair (.sl oz) (.pair .str (.pair (.int .i64) (.int .i64)))))))
abbrev cW:Ty:=(.st (.pair (.int .u8) (.int .i64)))
abbrev wG:Ty:=(.st (.pair (.int .i64) (.pair (.int .i64) (.int .i64))))
abbrev gK:Ty:=(.st (.pair (.sl bP) (.pair (.sl (.sl cW)) (.pair (.int .i64) (.pair (.sl wG) (.int .i64))))))
abbrev aq:Ty:=(.st (.pair (.int .i64) (.pair (.int .i64) (.pair (.int .i64) (.pair .str (.pair (.int .i64) (.int .i64)))))))
abbrev au:Ty:=(.st (.pair (.int .i64) (.pair (.int .i64) (.pair (.int .i64) (.pair (.int .i64) (.pair .str (.pair (.int .i64) (.int .i64))))))))
abbrev cr:Ty:=(.st (.pair (.sl aq) (.pair (.sl au) (.st (.pair (.int .i64) (.pair (.int .i64) (.pair (.int .i64) (.pair (.int .i64) (.pair (.int .i64) (.pair (.int .i64) (.pair (.int .i64) (.int .i64))))))))))))
abbrev Dy:Ty:=(.st (.pair (.int .i64) (.int .i64)))
abbrev oA:Ty:=(.st (.pair cr (.pair (.int .i64) (.int .i64))))
abbrev fY:Ty:=(.st (.pair .aD .aD))
abbrev cd:Ty:=(.st (.pair (.int .i64) (.int .i64)))
abbrev wH:Ty:=(.st (.pair (.int .i64) (.int .i64)))
abbrev aA:Ty:=(.st (.pair (.int .i64) (.int .i64)))
abbrev Fh:Ty:=(.st (.pair al (.pair .aD (.pair .aD (.int .i64)))))
abbrev dp:Ty:=(.st (.pair .str (.int .i64)))
abbrev ji:Ty:=(.st (.pair (.int .i64) (.pair (.int .i64) (.int .u8))))
abbrev fh:Ty:=(.st (.pair ji (.int .i64)))
abbrev eC:Ty:=(.st (.pair (.int .i64) (.int .i64)))
abbrev iu:Ty:=(.st (.pair eC .bool))
abbrev gU:Ty:=(.st (.pair al (.pair .str (.mp fh iu))))
abbrev bt:Ty:=(.st (.pair ji .str))
abbrev aT:Ty:=(.st (.pair (.sl (.int .u8)) (.pair .bool (.pair eC (.mp bt (.int .i64))))))
abbrev yM:Ty:=(.st (.pair al (.pair .str (.sl dp))))
abbrev fC:Ty:=(.st (.pair (.int .i64) (.int .i64)))
def Cr:List (Nat×Ty):=[(1,.aD),(2,(.int .i64)),(3,(.int .i64)),(4,.bool),(5,(.int .u8)),(6,(.int .u8)),(7,kJ),(8,kJ),(9,.str),(10,.str),(11,.str),(12,(.int .u64)),(13,eJ),(14,eJ),(21,(.int .i32)),(22,(.sl gJ)),(23,lL),(24,lL),(25,(.sl (.sl (.int .u8)))),(26,(.sl eV)),(27,.aD),(28,(.sl bn)),(29,al),(30,al),(31,.aD),(32,(.sl .str)),(33,.aD),(34,(.sl bP)),(35,(.sl (.sl cW))),(36,(.sl wG)),(37,gK),(38,gK),(39,(.int .i64)),(41,.aD),(43,.aD),(44,.aD),(45,(.sl aq)),(46,(.sl au)),(47,(.st (.pair (.int .i64) (.pair (.int .i64) (.pair (.int .i64) (.pair (.int .i64) (.pair (.int .i64) (.pair (.int .i64) (.pair (.int .i64) (.int .i64)))))))))),(48,cr),(49,cr),(50,.aD),(51,(.sl (.int .i64))),(52,eV),(53,eV),(54,Dy),(55,Dy),(57,.aD),(58,.aD),(59,.aD),(60,.aD),(61,.aD),(62,(.sl cW)),(63,(.sl cW)),(64,cW),(65,cW),(66,(.sl (.int .u8))),(67,(.sl oz)),(68,bP),(69,bP),(70,wG),(71,wG),(72,.aD),(73,.aD),(74,(.st (.pair (.int .u8) (.int .u8)))),(76,.aD),(77,.aD),(78,aq),(79,aq),(80,.aD),(81,.aD),(82,.aD),(83,.aD),(84,.aD),(85,.aD),(86,.aD),(87,.aD),(88,.aD),(89,.aD),(90,.aD),(91,oA),(92,oA),(93,.aD),(94,bn),(95,bn),(96,.aD),(97,.aD),(98,.aD),(100,.aD),(102,.aD),(103,.aD),(104,.aD),(105,au),(106,au),(107,.aD),(108,.aD),(109,.aD),(110,(.mp (.int .i64) fY)),(111,.aD),(112,.aD),(113,.aD),(114,.aD),(115,.aD),(116,.aD),(117,.aD),(118,.aD),(120,.aD),(121,cd),(122,cd),(124,.aD),(125,wH),(126,wH),(127,.aD),(128,.aD),(129,.aD),(130,.aD),(131,aA),(132,aA),(133,.aD),(134,.aD),(135,.aD),(136,Fh),(137,Fh),(138,(.mp aA (.int .i64))),(140,.aD),(141,.aD),(142,.aD),(143,.aD),(144,.aD),(145,.aD),(146,gJ),(147,gJ),(148,.aD),(149,(.sl dp)),(151,.aD),(152,dp),(153,dp),(154,.aD),(155,.aD),(156,.aD),(157,.aD),(158,.aD),(159,.aD),(160,.aD),(161,.aD),(162,.aD),(163,.aD),(164,fY),(165,fY),(167,.aD),(168,.aD),(169,.aD),(170,.aD),(171,.aD),(172,.aD),(173,(.int .i64)),(174,.aD),(175,.aD),(176,.aD),(177,.aD),(178,(.mp (.int .i64) (.mp aA (.int .i64)))),(179,.aD),(181,.aD),(182,.aD),(183,(.st (.pair (.int .i64) (.int .i64)))),(184,.aD),(185,.aD),(187,.aD),(188,(.ptr gU)),(189,(.mp fh iu)),(190,gU),(191,gU),(192,(.ptr aT)),(193,ji),(194,ji),(195,bt),(196,bt),(197,(.mp bt (.int .i64))),(198,eC),(199,eC),(200,aT),(201,aT),(202,.aD),(203,(.sl (.ptr aT))),(204,(.sl (.ptr aT))),(205,.aD),(207,.aD),(209,.aD),(210,.aD),(211,.aD),(212,.aD),(213,.aD),(214,.aD),(215,.aD),(216,.aD),(217,(.sl (.sl aq))),(218,.aD),(219,.aD),(220,.aD),(221,(.int .u64)),(222,.aD),(223,oz),(224,oz),(225,(.int .u8)),(226,.aD),(227,.aD),(228,.aD),(229,(.sl aA)),(230,.aD),(231,(.sl .bool)),(232,.aD),(233,.aD),(234,(.sl bt)),(236,.aD),(237,.aD),(238,iu),(239,iu),(240,.aD),(241,.aD),(242,.aD),(245,.aD),(246,.aD),(247,.aD),(248,.aD),(249,.aD),(250,.aD),(251,.aD),(253,yM),(254,yM),(255,.aD),(256,fC),(257,fC),(258,(.sl fC)),(259,.aD),(260,(.sl (.sl au))),(261,.aD),(262,.aD),(263,.aD),(264,.aD),(265,.aD),(266,.aD),(267,.aD),(268,(.mp (.int .i64) (.sl (.int .i64)))),(269,.aD),(270,.aD),(271,.aD),(272,.aD),(273,fh),(274,fh),(276,.aD),(277,.aD),(278,.aD),(279,.aD),(281,(.sl (.sl (.int .i64)))),(282,.aD),(283,.aD),(284,.aD),(290,(.int .u32)),(291,(.int .u8)),(292,(.int .u8)),(293,.aD),(295,(.int .i32)),(296,(.int .i32))]
def strs:List Nat:=[7,8,13,14,23,24,29,30,37,38,48,49,52,53,54,55,64,65,68,69,70,71,78,79,91,92,94,95,105,106,121,122,125,126,131,132,136,137,146,147,152,153,164,165,190,191,193,194,195,196,198,199,200,201,223,224,238,239,253,254,256,257,273,274]
def Kv:List Nat:=[7,8,47,52,53,54,55,64,65,70,71,74,78,79,94,95,105,106,121,122,125,126,131,132,152,153,183,193,194,195,196,198,199,223,224,238,239,256,257,273,274]
def fns:List (Nat×(List Ty×Ty)):=[(2,([],.unit)),(3,([lL,(.sl (.sl (.int .u8))),(.sl eV)],.bool)),(4,([lL,(.sl (.sl (.int .u8)))],.bool)),(5,([lL,(.sl (.sl (.int .u8))),(.sl (.sl (.int .u8)))],.bool)),(6,([(.sl eV),(.sl (.int .u8)),(.st (.pair (.int .u8) (.int .u8)))],.bool)),(7,([lL,.str,(.int .u8)],.bool)),(8,([lL,(.sl (.int .u8))],.bool)),(9,([],.bool)),(10,([lL],al)),(11,([(.sl (.sl (.int .u8))),(.int .i64)],(.sl .str))),(12,([al,(.sl .str)],(.bq gK (.int .i64)))),(13,([al,(.sl .str)],(.bq gK (.int .i64)))),(14,([al,.str],(.bq (.sl bP) (.int .i64)))),(15,([al,.str],(.bq (.sl bP) (.int .i64)))),(16,([(.sl bP),(.sl bP)],.bool)),(17,([(.sl eV),(.int .i64)],cr)),(18,([cr,(.int .i64),(.int .i64),(.sl (.int .i64))],(.bq cr (.int .i64)))),(19,([cr,Dy,(.sl (.int .i64))],(.bq cr (.int .i64)))),(20,([gK,gK],.bool)),(21,([cr,cr],.bool)),(22,([cr,aq],(.bq cr (.bq (.int .i64) (.int .i64))))),(23,([(.int .u8)],.str)),(24,([(.sl aq),(.sl aq)],.bool)),(25,([cr],.bool)),(26,([cr,.str,(.int .i64)],(.int .i64))),(27,([.str],.bool)),(28,([],al)),(29,([gK],.bool)),(30,([(.sl (.int .u8)),(.int .i64)],.str)),(31,([.str],.bool)),(32,([al,.str,.str],(.int .i64))),(33,([cr,aq],oA)),(34,([lL],al)),(36,([.str],.bool)),(37,([al,.str],(.bq .str (.bq (.int .i64) (.int .i64))))),(38,([al,.str],(.bq .str (.int .i64)))),(39,([bP,bP],.bool)),(40,([cr,eV],cr)),(41,([cr,au],(.bq cr (.int .i64)))),(42,([cr,au],(.bq cr (.int .i64)))),(43,([aq],.bool)),(47,([aq],cd)),(48,([(.int .i64),(.int .i64),(.int .i64)],.bool)),(51,([au],cd)),(54,([wH,(.int .i64)],(.bq (.int .i64) (.int .i64)))),(55,([(.int .i64),(.int .i64),(.int .i64)],.bool)),(56,([.str],.bool)),(57,([(.sl (.sl cW))],.bool)),(58,([bP],.bool)),(59,([(.sl wG),(.int .i64)],.bool)),(60,([.str],.bool)),(61,([al],.bool)),(62,([.str],.bool)),(63,([aA],(.int .i64))),(65,([.str,.str],.bool)),(67,([al,(.int .i64)],.bool)),(68,([aq],.bool)),(69,([(.sl au),aq],.bool)),(70,([(.sl aq),aq],(.sl aq))),(72,([gJ,(.int .i64)],bn)),(73,([al,(.int .i64)],.bool)),(75,([.str],.bool)),(76,([al,.str,(.int .i64)],(.bq (.sl dp) (.int .i64)))),(77,([al,.str,(.int .i64)],(.bq (.sl dp) (.int .i64)))),(78,([eV],.bool)),(79,([eV],au)),(80,([eV],aq)),(82,([au],.bool)),(83,([(.sl au),au],(.sl au))),(84,([(.sl aq),(.sl au)],(.sl aq))),(85,([cd,(.int .i64)],.bool)),(88,([au],.bool)),(89,([au,aq],.bool)),(90,([au],.bool)),(91,([au,aq],.bool)),(92,([au],.bool)),(93,([au,aq],.bool)),(94,([au],.bool)),(95,([au,aq],.bool)),(96,([au],.bool)),(97,([au,aq],.bool)),(99,([(.sl (.sl aq))],(.sl aq))),(100,([cd,cd],(.int .i64))),(103,([(.int .i64),(.int .i64)],(.int .i64))),(105,([(.sl cW)],.bool)),(106,([(.sl cW)],.bool)),(107,([.str],.bool)),(108,([.str],.bool)),(109,([(.sl oz)],.bool)),(110,([al],(.int .i64))),(111,([.str],.bool)),(112,([.str,.str],.bool)),(115,([(.int .i64),(.int .i64),(.int .i64)],.bool)),(116,([au,aq],.bool)),(117,([(.st (.pair (.int .i64) (.int .i64))),(.st (.pair (.int .i64) (.int .i64)))],.bool)),(118,([(.st (.pair (.int .i64) (.int .i64))),.str,.str],bn)),(119,([(.int .u8)],(.int .i64))),(120,([.str],.bool)),(121,([al],.bool)),(122,([al],(.bq al (.sl (.int .i64))))),(129,([.str],.bool)),(130,([al,.str],(.sl dp))),(131,([(.sl (.sl au))],(.sl au))),(136,([(.sl (.int .i64))],(.int .i64))),(137,([(.int .i64),(.int .i64)],(.int .i64))),(139,([al],(.int .u8))),(140,([(.int .u8),(.int .i64)],.bool)),(141,([al],(.int .u8))),(143,([al],(.bq (.int .i64) (.int .i64)))),(144,([al],(.sl .bool))),(145,([al],(.sl .bool))),(146,([al,bn],.bool)),(147,([(.ptr gU),ji,bn],(.bq ji .bool))),(150,([eC,eC],eC)),(151,([eC,eC],.bool)),(153,([(.ptr gU),ji],.bool)),(156,([dp,dp],.bool)),(158,([(.int .i64)],.bool)),(159,([(.int .i64)],(.int .u8))),(161,([bn],.bool)),(162,([(.sl (.int .i64)),(.sl (.int .i64))],(.int .i64))),(163,([(.int .i64),bn],.bool)),(164,([(.sl bn),bn],.bool)),(166,([al],(.mp (.int .i64) (.sl (.int .i64))))),(169,([al,(.int .i64)],.bool)),(170,([al,(.int .i64)],.bool)),(171,([al,(.int .i64)],.bool)),(172,([al,(.int .i64)],.bool)),(174,([.str,(.int .i64),.str],.bool)),(175,([(.sl fC),fC],.bool)),(177,([(.sl (.int .i64)),(.sl (.int .i64))],(.int .i64))),(178,([(.sl bn),bn],(.int .i64))),(35,([al,(.sl .str)],(.eY 74 (.pair (.ptr (.sl .str)) (.ptr al))))),(44,([(.mp (.int .i64) fY),(.sl au),aq],.bool)),(45,([],(.mp (.int .i64) fY))),(46,([(.sl aq),.aD,aq],(.sl aq))),(49,([(.mp (.int .i64) fY),au],.bool)),(50,([(.sl au),.aD],.bool)),(52,([(.sl aq),.aD],.bool)),(53,([(.sl au),.aD,cd],(.bq (.int .i64) .bool))),(64,([aA,bn,(.ptr .str)],(.bq aA .bool))),(81,([(.sl au),.aD,au],(.sl au))),(86,([(.sl au),(.eY 87 (.pair (.ptr (.mp (.int .i64) fY)) (.ptr aq)))],.bool)),(87,([au,(.ptr (.mp (.int .i64) fY)),(.ptr aq)],.bool)),(98,([(.sl aq),.aD,cd],(.bq (.int .i64) .bool))),(101,([(.sl au),cd,(.eY 102 (.ptr .aD))],(.bq (.int .i64) .bool))),(102,([au,cd,(.ptr .aD)],(.int .i64))),(132,([(.sl au),(.eY 87 (.pair (.ptr (.mp (.int .i64) fY)) (.ptr aq)))],(.int .i64))),(133,([(.sl aq),cd,(.eY 134 (.ptr .aD))],(.bq (.int .i64) .bool))),(134,([aq,cd,(.ptr .aD)],(.int .i64)))]
def N9:List (Nat×List (Option Ty)):=[(66,[none,some aA,some .str]),(71,[some (.int .u8)]),(113,[none,none]),(114,[none,some aA,some (.int .i64)]),(123,[none,none]),(124,[none,none]),(125,[none]),(126,[none,some (.ptr aT)]),(127,[none,none]),(128,[none,some (.ptr aT)]),(135,[none,some (.int .i64)]),(142,[some al]),(148,[none,some bt,some (.int .i64)]),(149,[none,some ji,some (.int .i64)]),(152,[none,some (.int .i64),some (.int .i64)]),(154,[none,some (.int .i64)]),(155,[none,some (.sl cd),some .str,some (.int .i64)]),(157,[none,some (.int .i64)]),(160,[some al,some (.int .i64),some (.int .u8),some .aD]),(165,[some al]),(167,[some (.int .i64),none]),(168,[some (.int .i64),none,none,none,none]),(173,[none,some .str,some (.int .i64)]),(176,[some (.sl (.int .i64))]),(179,[some (.int .i64),none,none]),(197,[none]),(198,[none,some (.int .i64),some (.int .i64)]),(199,[none,some (.int .i64),some (.int .i64)]),(200,[none]),(201,[none,none])]
def bf7:List (Nat×Nat):=[(110,3),(138,132),(178,3),(189,274),(197,196),(268,3)]
noncomputable def env:Env:=ax2 Tryz.prog Cr strs Kv fns N9 bf7 [(29,28),(1032,28),(22,46),(26,260),(22,45),(26,217),(58,46),(42,63),(43,35),(59,34),(70,63),(71,63),(74,63),(72,35),(124,66),(25,28),(1028,28),(72,51),(1073,51)] true [] [(66,5)] [149,123,124,128,152,113,66,176,160] [192,208] [] [((123,15),[[],[8]]),((124,5),[[0,1,2,3,4,5,6,7,8,9,10,11,12,13,14,15],[0,1,2,3,4,5,6,7,8,9,10,11,12,14,13,15]]),((128,10),[[],[8]]),((76,17),[[],[13]]),((10,7),[[],[8]]),((155,10),[[0,1,2,5,6,7,8,9,10,11,12,3,4,13]]),((12,12),[[],[8]]),((5,6),[[0,1,2,3,4,5,6,7,8,9,10],[0,1,2,3,4,5,6,8,7,9,10],[0,1,2,3,4,5,6,8,9,7,10],[0,1,2,3,8,4,5,6,7,9,10],[0,1,2,3,8,4,5,6,9,7,10],[0,1,2,8,3,4,5,6,7,9,10],[0,1,2,8,3,4,5,6,9,7,10]]),((113,16),[[],[10]]),((142,7),[[],[4]])] [] [(76,10),(76,11),(128,15),(128,16),(128,17),(126,7),(127,1),(74,4),(66,1),(66,5),(66,18),(66,19),(66,20),(66,21),(66,24),(66,26),(160,1),(160,4),(160,5),(160,6),(160,17)] [((208, "Len"),(197,some 204)),((208, "Less"),(198,some 204)),((208, "Swap"),(199,some 204)),((208, "Push"),(201,none)),((208, "Pop"),(200,none))]
theorem aI0(t:Nat):env.emp t=false:=rfl
theorem aI1(f i:Nat):env.yi f i=Kt [(76,10),(76,11),(128,15),(128,16),(128,17),(126,7),(127,1),(74,4),(66,1),(66,5),(66,18),(66,19),(66,20),(66,21),(66,24),(66,26),(160,1),(160,4),(160,5),(160,6),(160,17)] f i:=rfl
theorem bf8(f i:Nat):env.fl f i=Ww [((123,15),[[],[8]]),((124,5),[[0,1,2,3,4,5,6,7,8,9,10,11,12,13,14,15],[0,1,2,3,4,5,6,7,8,9,10,11,12,14,13,15]]),((128,10),[[],[8]]),((76,17),[[],[13]]),((10,7),[[],[8]]),((155,10),[[0,1,2,5,6,7,8,9,10,11,12,3,4,13]]),((12,12),[[],[8]]),((5,6),[[0,1,2,3,4,5,6,7,8,9,10],[0,1,2,3,4,5,6,8,7,9,10],[0,1,2,3,4,5,6,8,9,7,10],[0,1,2,3,8,4,5,6,7,9,10],[0,1,2,3,8,4,5,6,9,7,10],[0,1,2,8,3,4,5,6,7,9,10],[0,1,2,8,3,4,5,6,9,7,10]]),((113,16),[[],[10]]),((142,7),[[],[4]])] f i:=rfl
theorem aI2(t:Nat):env.Jk t=ak t [192,208]:=rfl
theorem bf9(f:Nat):env.px f=false:=rfl
theorem bg0(f:Nat):env.nd f=ak f [149,123,124,128,152,113,66,176,160]:=rfl
theorem bg1(t:Nat):env.Ee t=false:=rfl
theorem bg2(t:Nat):env.Ef t=look t [(66,5)]:=rfl
theorem bg3(d t:Nat):env.ro d t=Kt [(29,28),(1032,28),(22,46),(26,260),(22,45),(26,217),(58,46),(42,63),(43,35),(59,34),(70,63),(71,63),(74,63),(72,35),(124,66),(25,28),(1028,28),(72,51),(1073,51)] d t:=rfl
theorem bg4:env.tm=true:=rfl
theorem ae:aG env:=Ro (by kernel_rfl) (by kernel_rfl) (by kernel_rfl) (by kernel_rfl) (by kernel_rfl) (by kernel_rfl) (by kernel_rfl) (by kernel_rfl) (by kernel_rfl) (by kernel_rfl)
theorem Sc:env.mapKey 110=some 3:=rfl
theorem Sd:env.mapKey 138=some 132:=rfl
theorem Se:env.mapKey 178=some 3:=rfl
theorem Sf:env.mapKey 189=some 274:=rfl
theorem Sg:env.mapKey 197=some 196:=rfl
theorem Sh:env.mapKey 268=some 3:=rfl
theorem bg5:env.ty 1=some .aD:=rfl
theorem bg6:env.ty 2=some (.int .i64):=rfl
theorem bg7:env.ty 3=some (.int .i64):=rfl
theorem bg8:env.ty 4=some .bool:=rfl
theorem bg9:env.ty 5=some (.int .u8):=rfl
theorem bh0:env.ty 6=some (.int .u8):=rfl
theorem bh1:env.ty 7=some kJ:=rfl
theorem bh2:env.ty 8=some kJ:=rfl
theorem bh3:env.ty 9=some .str:=rfl
theorem aI3:env.ty 10=some .str:=rfl
theorem aI4:env.ty 11=some .str:=rfl
theorem aI5:env.ty 12=some (.int .u64):=rfl
theorem aI6:env.ty 13=some eJ:=rfl
theorem aI7:env.ty 14=some eJ:=rfl
theorem aI8:env.ty 21=some (.int .i32):=rfl
theorem aI9:env.ty 22=some (.sl gJ):=rfl
theorem aJ0:env.ty 23=some lL:=rfl
theorem aJ1:env.ty 24=some lL:=rfl
theorem aJ2:env.ty 25=some (.sl (.sl (.int .u8))):=rfl
theorem aJ3:env.ty 26=some (.sl eV):=rfl
theorem aJ4:env.ty 27=some .aD:=rfl
theorem aJ5:env.ty 28=some (.sl bn):=rfl
theorem aJ6:env.ty 29=some al:=rfl
theorem aJ7:env.ty 30=some al:=rfl
theorem aJ8:env.ty 31=some .aD:=rfl
theorem aJ9:env.ty 32=some (.sl .str):=rfl
theorem aK0:env.ty 33=some .aD:=rfl
theorem aK1:env.ty 34=some (.sl bP):=rfl
theorem aK2:env.ty 35=some (.sl (.sl cW)):=rfl
theorem aK3:env.ty 36=some (.sl wG):=rfl
theorem aK4:env.ty 37=some gK:=rfl
theorem aK5:env.ty 38=some gK:=rfl
theorem aK6:env.ty 39=some (.int .i64):=rfl
theorem aK7:env.ty 41=some .aD:=rfl
theorem aK8:env.ty 43=some .aD:=rfl
theorem aK9:env.ty 44=some .aD:=rfl
theorem aL0:env.ty 45=some (.sl aq):=rfl
theorem aL1:env.ty 46=some (.sl au):=rfl
theorem aL2:env.ty 47=some (.st (.pair (.int .i64) (.pair (.int .i64) (.pair (.int .i64) (.pair (.int .i64) (.pair (.int .i64) (.pair (.int .i64) (.pair (.int .i64) (.int .i64))))))))):=rfl
theorem aL3:env.ty 48=some cr:=rfl
theorem aL4:env.ty 49=some cr:=rfl
theorem aL5:env.ty 50=some .aD:=rfl
theorem aL6:env.ty 51=some (.sl (.int .i64)):=rfl
theorem aL7:env.ty 52=some eV:=rfl
theorem aL8:env.ty 53=some eV:=rfl
theorem aL9:env.ty 54=some Dy:=rfl
theorem aM0:env.ty 55=some Dy:=rfl
theorem aM1:env.ty 57=some .aD:=rfl
theorem aM2:env.ty 58=some .aD:=rfl
theorem aM3:env.ty 59=some .aD:=rfl
theorem aM4:env.ty 60=some .aD:=rfl
theorem aM5:env.ty 61=some .aD:=rfl
theorem aM6:env.ty 62=some (.sl cW):=rfl
theorem aM7:env.ty 63=some (.sl cW):=rfl
theorem aM8:env.ty 64=some cW:=rfl
theorem aM9:env.ty 65=some cW:=rfl
theorem aN0:env.ty 66=some (.sl (.int .u8)):=rfl
theorem aN1:env.ty 67=some (.sl oz):=rfl
theorem aN2:env.ty 68=some bP:=rfl
theorem aN3:env.ty 69=some bP:=rfl
theorem aN4:env.ty 70=some wG:=rfl
theorem aN5:env.ty 71=some wG:=rfl
theorem aN6:env.ty 72=some .aD:=rfl
theorem aN7:env.ty 73=some .aD:=rfl
theorem aN8:env.ty 74=some (.st (.pair (.int .u8) (.int .u8))):=rfl
theorem aN9:env.ty 76=some .aD:=rfl
theorem aO0:env.ty 77=some .aD:=rfl
theorem aO1:env.ty 78=some aq:=rfl
theorem aO2:env.ty 79=some aq:=rfl
theorem aO3:env.ty 80=some .aD:=rfl
theorem aO4:env.ty 81=some .aD:=rfl
theorem aO5:env.ty 82=some .aD:=rfl
theorem aO6:env.ty 83=some .aD:=rfl
theorem aO7:env.ty 84=some .aD:=rfl
theorem aO8:env.ty 85=some .aD:=rfl
theorem aO9:env.ty 86=some .aD:=rfl
theorem aP0:env.ty 87=some .aD:=rfl
theorem aP1:env.ty 88=some .aD:=rfl
theorem aP2:env.ty 89=some .aD:=rfl
theorem aP3:env.ty 90=some .aD:=rfl
theorem aP4:env.ty 91=some oA:=rfl
theorem aP5:env.ty 92=some oA:=rfl
theorem aP6:env.ty 93=some .aD:=rfl
theorem aP7:env.ty 94=some bn:=rfl
theorem aP8:env.ty 95=some bn:=rfl
theorem aP9:env.ty 96=some .aD:=rfl
theorem aQ0:env.ty 97=some .aD:=rfl
theorem aQ1:env.ty 98=some .aD:=rfl
theorem XN:env.ty 100=some .aD:=rfl
theorem XO:env.ty 102=some .aD:=rfl
theorem XP:env.ty 103=some .aD:=rfl
theorem XQ:env.ty 104=some .aD:=rfl
theorem XR:env.ty 105=some au:=rfl
theorem XS:env.ty 106=some au:=rfl
theorem XT:env.ty 107=some .aD:=rfl
theorem XU:env.ty 108=some .aD:=rfl
theorem XV:env.ty 109=some .aD:=rfl
theorem XW:env.ty 110=some (.mp (.int .i64) fY):=rfl
theorem XX:env.ty 111=some .aD:=rfl
theorem XY:env.ty 112=some .aD:=rfl
theorem XZ:env.ty 113=some .aD:=rfl
theorem X0:env.ty 114=some .aD:=rfl
theorem X1:env.ty 115=some .aD:=rfl
theorem X2:env.ty 116=some .aD:=rfl
theorem X3:env.ty 117=some .aD:=rfl
theorem X4:env.ty 118=some .aD:=rfl
theorem X5:env.ty 120=some .aD:=rfl
theorem X6:env.ty 121=some cd:=rfl
theorem X7:env.ty 122=some cd:=rfl
theorem X8:env.ty 124=some .aD:=rfl
theorem X9:env.ty 125=some wH:=rfl
theorem Ya:env.ty 126=some wH:=rfl
theorem Yb:env.ty 127=some .aD:=rfl
theorem Yc:env.ty 128=some .aD:=rfl
theorem Yd:env.ty 129=some .aD:=rfl
theorem Ye:env.ty 130=some .aD:=rfl
theorem Yf:env.ty 131=some aA:=rfl
theorem Yg:env.ty 132=some aA:=rfl
theorem Yh:env.ty 133=some .aD:=rfl
theorem Yi:env.ty 134=some .aD:=rfl
theorem Yj:env.ty 135=some .aD:=rfl
theorem Yk:env.ty 136=some Fh:=rfl
theorem Yl:env.ty 137=some Fh:=rfl
theorem Ym:env.ty 138=some (.mp aA (.int .i64)):=rfl
theorem Yn:env.ty 140=some .aD:=rfl
theorem Yo:env.ty 141=some .aD:=rfl
theorem Yp:env.ty 142=some .aD:=rfl
theorem Yq:env.ty 143=some .aD:=rfl
theorem Yr:env.ty 144=some .aD:=rfl
theorem Ys:env.ty 145=some .aD:=rfl
theorem Yt:env.ty 146=some gJ:=rfl
theorem Yu:env.ty 147=some gJ:=rfl
theorem Yv:env.ty 148=some .aD:=rfl
theorem Yw:env.ty 149=some (.sl dp):=rfl
theorem Yx:env.ty 151=some .aD:=rfl
theorem Yy:env.ty 152=some dp:=rfl
theorem Yz:env.ty 153=some dp:=rfl
theorem YA:env.ty 154=some .aD:=rfl
theorem YB:env.ty 155=some .aD:=rfl
theorem YC:env.ty 156=some .aD:=rfl
theorem YD:env.ty 157=some .aD:=rfl
theorem YE:env.ty 158=some .aD:=rfl
theorem YF:env.ty 159=some .aD:=rfl
theorem YG:env.ty 160=some .aD:=rfl
theorem YH:env.ty 161=some .aD:=rfl
theorem YI:env.ty 162=some .aD:=rfl
theorem YJ:env.ty 163=some .aD:=rfl
theorem YK:env.ty 164=some fY:=rfl
theorem YL:env.ty 165=some fY:=rfl
theorem YM:env.ty 167=some .aD:=rfl
theorem YN:env.ty 168=some .aD:=rfl
theorem YO:env.ty 169=some .aD:=rfl
theorem YP:env.ty 170=some .aD:=rfl
theorem YQ:env.ty 171=some .aD:=rfl
theorem YR:env.ty 172=some .aD:=rfl
theorem YS:env.ty 173=some (.int .i64):=rfl
theorem YT:env.ty 174=some .aD:=rfl
theorem YU:env.ty 175=some .aD:=rfl
theorem YV:env.ty 176=some .aD:=rfl
theorem YW:env.ty 177=some .aD:=rfl
theorem YX:env.ty 178=some (.mp (.int .i64) (.mp aA (.int .i64))):=rfl
theorem YY:env.ty 179=some .aD:=rfl
theorem YZ:env.ty 181=some .aD:=rfl
theorem Y0:env.ty 182=some .aD:=rfl
theorem Y1:env.ty 183=some (.st (.pair (.int .i64) (.int .i64))):=rfl
theorem Y2:env.ty 184=some .aD:=rfl
theorem Y3:env.ty 185=some .aD:=rfl
theorem Y4:env.ty 187=some .aD:=rfl
theorem Y5:env.ty 188=some (.ptr gU):=rfl
theorem Y6:env.ty 189=some (.mp fh iu):=rfl
theorem Y7:env.ty 190=some gU:=rfl
theorem Y8:env.ty 191=some gU:=rfl
theorem Y9:env.ty 192=some (.ptr aT):=rfl
theorem Za:env.ty 193=some ji:=rfl
theorem Zb:env.ty 194=some ji:=rfl
theorem Zc:env.ty 195=some bt:=rfl
theorem Zd:env.ty 196=some bt:=rfl
theorem Ze:env.ty 197=some (.mp bt (.int .i64)):=rfl
theorem Zf:env.ty 198=some eC:=rfl
theorem Zg:env.ty 199=some eC:=rfl
theorem Zh:env.ty 200=some aT:=rfl
theorem Zi:env.ty 201=some aT:=rfl
theorem Zj:env.ty 202=some .aD:=rfl
theorem Zk:env.ty 203=some (.sl (.ptr aT)):=rfl
theorem Zl:env.ty 204=some (.sl (.ptr aT)):=rfl
theorem Zm:env.ty 205=some .aD:=rfl
theorem Zn:env.ty 207=some .aD:=rfl
theorem Zo:env.ty 209=some .aD:=rfl
theorem Zp:env.ty 210=some .aD:=rfl
theorem Zq:env.ty 211=some .aD:=rfl
theorem Zr:env.ty 212=some .aD:=rfl
theorem Zs:env.ty 213=some .aD:=rfl
theorem Zt:env.ty 214=some .aD:=rfl
theorem Zu:env.ty 215=some .aD:=rfl
theorem Zv:env.ty 216=some .aD:=rfl
theorem Zw:env.ty 217=some (.sl (.sl aq)):=rfl
theorem Zx:env.ty 218=some .aD:=rfl
theorem Zy:env.ty 219=some .aD:=rfl
theorem Zz:env.ty 220=some .aD:=rfl
theorem ZA:env.ty 221=some (.int .u64):=rfl
theorem ZB:env.ty 222=some .aD:=rfl
theorem ZC:env.ty 223=some oz:=rfl
theorem ZD:env.ty 224=some oz:=rfl
theorem ZE:env.ty 225=some (.int .u8):=rfl
theorem ZF:env.ty 226=some .aD:=rfl
theorem ZG:env.ty 227=some .aD:=rfl
theorem ZH:env.ty 228=some .aD:=rfl
theorem ZI:env.ty 229=some (.sl aA):=rfl
theorem ZJ:env.ty 230=some .aD:=rfl
theorem ZK:env.ty 231=some (.sl .bool):=rfl
theorem ZL:env.ty 232=some .aD:=rfl
theorem ZM:env.ty 233=some .aD:=rfl
theorem ZN:env.ty 234=some (.sl bt):=rfl
theorem ZO:env.ty 236=some .aD:=rfl
theorem ZP:env.ty 237=some .aD:=rfl
theorem ZQ:env.ty 238=some iu:=rfl
theorem ZR:env.ty 239=some iu:=rfl
theorem ZS:env.ty 240=some .aD:=rfl
theorem ZT:env.ty 241=some .aD:=rfl
theorem ZU:env.ty 242=some .aD:=rfl
theorem ZV:env.ty 245=some .aD:=rfl
theorem ZW:env.ty 246=some .aD:=rfl
theorem ZX:env.ty 247=some .aD:=rfl
theorem ZY:env.ty 248=some .aD:=rfl
theorem ZZ:env.ty 249=some .aD:=rfl
theorem Z0:env.ty 250=some .aD:=rfl
theorem Z1:env.ty 251=some .aD:=rfl
theorem Z2:env.ty 253=some yM:=rfl
theorem Z3:env.ty 254=some yM:=rfl
theorem Z4:env.ty 255=some .aD:=rfl
theorem Z5:env.ty 256=some fC:=rfl
theorem Z6:env.ty 257=some fC:=rfl
theorem Z7:env.ty 258=some (.sl fC):=rfl
theorem Z8:env.ty 259=some .aD:=rfl
theorem Z9:env.ty 260=some (.sl (.sl au)):=rfl
theorem aa0:env.ty 261=some .aD:=rfl
theorem aa1:env.ty 262=some .aD:=rfl
theorem aa2:env.ty 263=some .aD:=rfl
theorem aa3:env.ty 264=some .aD:=rfl
theorem aa4:env.ty 265=some .aD:=rfl
theorem aa5:env.ty 266=some .aD:=rfl
theorem aa6:env.ty 267=some .aD:=rfl
theorem aa7:env.ty 268=some (.mp (.int .i64) (.sl (.int .i64))):=rfl
theorem aa8:env.ty 269=some .aD:=rfl
theorem aa9:env.ty 270=some .aD:=rfl
theorem ab0:env.ty 271=some .aD:=rfl
theorem ab1:env.ty 272=some .aD:=rfl
theorem ab2:env.ty 273=some fh:=rfl
theorem ab3:env.ty 274=some fh:=rfl
theorem ab4:env.ty 276=some .aD:=rfl
theorem ab5:env.ty 277=some .aD:=rfl
theorem ab6:env.ty 278=some .aD:=rfl
theorem ab7:env.ty 279=some .aD:=rfl
theorem ab8:env.ty 281=some (.sl (.sl (.int .i64))):=rfl
theorem ab9:env.ty 282=some .aD:=rfl
theorem ac0:env.ty 283=some .aD:=rfl
theorem ac1:env.ty 284=some .aD:=rfl
theorem ac2:env.ty 290=some (.int .u32):=rfl
theorem ac3:env.ty 291=some (.int .u8):=rfl
theorem ac4:env.ty 292=some (.int .u8):=rfl
theorem ac5:env.ty 293=some .aD:=rfl
theorem ac6:env.ty 295=some (.int .i32):=rfl
theorem ac7:env.ty 296=some (.int .i32):=rfl
theorem aQ2:env.str 7=true:=rfl
theorem aQ3:env.str 8=true:=rfl
theorem ac8:env.str 13=true:=rfl
theorem ac9:env.str 14=true:=rfl
theorem ad0:env.str 23=true:=rfl
theorem ad1:env.str 24=true:=rfl
theorem ad2:env.str 29=true:=rfl
theorem ad3:env.str 30=true:=rfl
theorem ad4:env.str 37=true:=rfl
theorem ad5:env.str 38=true:=rfl
theorem ad6:env.str 48=true:=rfl
theorem ad7:env.str 49=true:=rfl
theorem ad8:env.str 52=true:=rfl
theorem ad9:env.str 53=true:=rfl
theorem ae0:env.str 54=true:=rfl
theorem ae1:env.str 55=true:=rfl
theorem ae2:env.str 64=true:=rfl
theorem ae3:env.str 65=true:=rfl
theorem ae4:env.str 68=true:=rfl
theorem ae5:env.str 69=true:=rfl
theorem ae6:env.str 70=true:=rfl
theorem ae7:env.str 71=true:=rfl
theorem ae8:env.str 78=true:=rfl
theorem ae9:env.str 79=true:=rfl
theorem af0:env.str 91=true:=rfl
theorem af1:env.str 92=true:=rfl
theorem af2:env.str 94=true:=rfl
theorem af3:env.str 95=true:=rfl
theorem Si:env.str 105=true:=rfl
theorem Sj:env.str 106=true:=rfl
theorem Sl:env.str 121=true:=rfl
theorem Sm:env.str 122=true:=rfl
theorem Sn:env.str 125=true:=rfl
theorem So:env.str 126=true:=rfl
theorem Sq:env.str 131=true:=rfl
theorem Sr:env.str 132=true:=rfl
theorem Ss:env.str 136=true:=rfl
theorem Su:env.str 137=true:=rfl
theorem Sv:env.str 146=true:=rfl
theorem Sw:env.str 147=true:=rfl
theorem Sx:env.str 152=true:=rfl
theorem Sy:env.str 153=true:=rfl
theorem Sz:env.str 164=true:=rfl
theorem SA:env.str 165=true:=rfl
theorem SB:env.str 190=true:=rfl
theorem SC:env.str 191=true:=rfl
theorem SD:env.str 193=true:=rfl
theorem SE:env.str 194=true:=rfl
theorem SF:env.str 195=true:=rfl
theorem SG:env.str 196=true:=rfl
theorem SH:env.str 198=true:=rfl
theorem SJ:env.str 199=true:=rfl
theorem SK:env.str 200=true:=rfl
theorem SL:env.str 201=true:=rfl
theorem SM:env.str 223=true:=rfl
theorem SN:env.str 224=true:=rfl
theorem SO:env.str 238=true:=rfl
theorem SP:env.str 239=true:=rfl
theorem SQ:env.str 253=true:=rfl
theorem SR:env.str 254=true:=rfl
theorem SS:env.str 256=true:=rfl
theorem SU:env.str 257=true:=rfl
theorem SV:env.str 273=true:=rfl
theorem SW:env.str 274=true:=rfl
theorem af4:env.str 47=false:=rfl
theorem af5:env.str 74=false:=rfl
theorem SX:env.str 183=false:=rfl
theorem aQ4:env.cmp 7=true:=rfl
theorem aQ5:env.cmp 8=true:=rfl
theorem af6:env.cmp 47=true:=rfl
theorem af7:env.cmp 52=true:=rfl
theorem af8:env.cmp 53=true:=rfl
theorem af9:env.cmp 54=true:=rfl
theorem ag0:env.cmp 55=true:=rfl
theorem ag1:env.cmp 64=true:=rfl
theorem ag2:env.cmp 65=true:=rfl
theorem ag3:env.cmp 70=true:=rfl
theorem ag4:env.cmp 71=true:=rfl
theorem ag5:env.cmp 74=true:=rfl
theorem ag6:env.cmp 78=true:=rfl
theorem ag7:env.cmp 79=true:=rfl
theorem ag8:env.cmp 94=true:=rfl
theorem ag9:env.cmp 95=true:=rfl
theorem SY:env.cmp 105=true:=rfl
theorem SZ:env.cmp 106=true:=rfl
theorem S4:env.cmp 121=true:=rfl
theorem S5:env.cmp 122=true:=rfl
theorem S6:env.cmp 125=true:=rfl
theorem S7:env.cmp 126=true:=rfl
theorem S8:env.cmp 131=true:=rfl
theorem S9:env.cmp 132=true:=rfl
theorem Ta:env.cmp 152=true:=rfl
theorem Tb:env.cmp 153=true:=rfl
theorem Tc:env.cmp 183=true:=rfl
theorem Td:env.cmp 193=true:=rfl
theorem Te:env.cmp 194=true:=rfl
theorem Tf:env.cmp 195=true:=rfl
theorem Tg:env.cmp 196=true:=rfl
theorem Ti:env.cmp 198=true:=rfl
theorem Tj:env.cmp 199=true:=rfl
theorem Tk:env.cmp 223=true:=rfl
theorem Tl:env.cmp 224=true:=rfl
theorem Tm:env.cmp 238=true:=rfl
theorem Tn:env.cmp 239=true:=rfl
theorem To:env.cmp 256=true:=rfl
theorem Tp:env.cmp 257=true:=rfl
theorem Tq:env.cmp 273=true:=rfl
theorem Tr:env.cmp 274=true:=rfl
theorem bh4:env.fn 2=some ([],.unit):=rfl
theorem bh5:env.fn 3=some ([lL,(.sl (.sl (.int .u8))),(.sl eV)],.bool):=rfl
theorem bh6:env.fn 4=some ([lL,(.sl (.sl (.int .u8)))],.bool):=rfl
theorem bh7:env.fn 5=some ([lL,(.sl (.sl (.int .u8))),(.sl (.sl (.int .u8)))],.bool):=rfl
theorem bh8:env.fn 6=some ([(.sl eV),(.sl (.int .u8)),(.st (.pair (.int .u8) (.int .u8)))],.bool):=rfl
theorem bh9:env.fn 7=some ([lL,.str,(.int .u8)],.bool):=rfl
theorem bi0:env.fn 8=some ([lL,(.sl (.int .u8))],.bool):=rfl
theorem bi1:env.fn 9=some ([],.bool):=rfl
theorem aQ6:env.fn 10=some ([lL],al):=rfl
theorem aQ7:env.fn 11=some ([(.sl (.sl (.int .u8))),(.int .i64)],(.sl .str)):=rfl
theorem aQ8:env.fn 12=some ([al,(.sl .str)],(.bq gK (.int .i64))):=rfl
theorem aQ9:env.fn 13=some ([al,(.sl .str)],(.bq gK (.int .i64))):=rfl
theorem aR0:env.fn 14=some ([al,.str],(.bq (.sl bP) (.int .i64))):=rfl
theorem aR1:env.fn 15=some ([al,.str],(.bq (.sl bP) (.int .i64))):=rfl
theorem aR2:env.fn 16=some ([(.sl bP),(.sl bP)],.bool):=rfl
theorem aR3:env.fn 17=some ([(.sl eV),(.int .i64)],cr):=rfl
theorem aR4:env.fn 18=some ([cr,(.int .i64),(.int .i64),(.sl (.int .i64))],(.bq cr (.int .i64))):=rfl
theorem aR5:env.fn 19=some ([cr,Dy,(.sl (.int .i64))],(.bq cr (.int .i64))):=rfl
theorem aR6:env.fn 20=some ([gK,gK],.bool):=rfl
theorem aR7:env.fn 21=some ([cr,cr],.bool):=rfl
theorem aR8:env.fn 22=some ([cr,aq],(.bq cr (.bq (.int .i64) (.int .i64)))):=rfl
theorem aR9:env.fn 23=some ([(.int .u8)],.str):=rfl
theorem aS0:env.fn 24=some ([(.sl aq),(.sl aq)],.bool):=rfl
theorem aS1:env.fn 25=some ([cr],.bool):=rfl
theorem aS2:env.fn 26=some ([cr,.str,(.int .i64)],(.int .i64)):=rfl
theorem aS3:env.fn 27=some ([.str],.bool):=rfl
theorem aS4:env.fn 28=some ([],al):=rfl
theorem aS5:env.fn 29=some ([gK],.bool):=rfl
theorem aS6:env.fn 30=some ([(.sl (.int .u8)),(.int .i64)],.str):=rfl
theorem aS7:env.fn 31=some ([.str],.bool):=rfl
theorem aS8:env.fn 32=some ([al,.str,.str],(.int .i64)):=rfl
theorem aS9:env.fn 33=some ([cr,aq],oA):=rfl
theorem aT0:env.fn 34=some ([lL],al):=rfl
theorem aT1:env.fn 36=some ([.str],.bool):=rfl
theorem aT2:env.fn 37=some ([al,.str],(.bq .str (.bq (.int .i64) (.int .i64)))):=rfl
theorem aT3:env.fn 38=some ([al,.str],(.bq .str (.int .i64))):=rfl
theorem aT4:env.fn 39=some ([bP,bP],.bool):=rfl
theorem aT5:env.fn 40=some ([cr,eV],cr):=rfl
theorem aT6:env.fn 41=some ([cr,au],(.bq cr (.int .i64))):=rfl
theorem aT7:env.fn 42=some ([cr,au],(.bq cr (.int .i64))):=rfl
theorem aT8:env.fn 43=some ([aq],.bool):=rfl
theorem aT9:env.fn 47=some ([aq],cd):=rfl
theorem aU0:env.fn 48=some ([(.int .i64),(.int .i64),(.int .i64)],.bool):=rfl
theorem aU1:env.fn 51=some ([au],cd):=rfl
theorem aU2:env.fn 54=some ([wH,(.int .i64)],(.bq (.int .i64) (.int .i64))):=rfl
theorem aU3:env.fn 55=some ([(.int .i64),(.int .i64),(.int .i64)],.bool):=rfl
theorem aU4:env.fn 56=some ([.str],.bool):=rfl
theorem aU5:env.fn 57=some ([(.sl (.sl cW))],.bool):=rfl
theorem aU6:env.fn 58=some ([bP],.bool):=rfl
theorem aU7:env.fn 59=some ([(.sl wG),(.int .i64)],.bool):=rfl
theorem aU8:env.fn 60=some ([.str],.bool):=rfl
theorem aU9:env.fn 61=some ([al],.bool):=rfl
theorem aV0:env.fn 62=some ([.str],.bool):=rfl
theorem aV1:env.fn 63=some ([aA],(.int .i64)):=rfl
theorem aV2:env.fn 65=some ([.str,.str],.bool):=rfl
theorem aV3:env.fn 67=some ([al,(.int .i64)],.bool):=rfl
theorem aV4:env.fn 68=some ([aq],.bool):=rfl
theorem aV5:env.fn 69=some ([(.sl au),aq],.bool):=rfl
theorem aV6:env.fn 70=some ([(.sl aq),aq],(.sl aq)):=rfl
theorem aV7:env.fn 72=some ([gJ,(.int .i64)],bn):=rfl
theorem aV8:env.fn 73=some ([al,(.int .i64)],.bool):=rfl
theorem aV9:env.fn 75=some ([.str],.bool):=rfl
theorem aW0:env.fn 76=some ([al,.str,(.int .i64)],(.bq (.sl dp) (.int .i64))):=rfl
theorem aW1:env.fn 77=some ([al,.str,(.int .i64)],(.bq (.sl dp) (.int .i64))):=rfl
theorem aW2:env.fn 78=some ([eV],.bool):=rfl
theorem aW3:env.fn 79=some ([eV],au):=rfl
theorem aW4:env.fn 80=some ([eV],aq):=rfl
theorem aW5:env.fn 82=some ([au],.bool):=rfl
theorem aW6:env.fn 83=some ([(.sl au),au],(.sl au)):=rfl
theorem aW7:env.fn 84=some ([(.sl aq),(.sl au)],(.sl aq)):=rfl
theorem aW8:env.fn 85=some ([cd,(.int .i64)],.bool):=rfl
theorem aW9:env.fn 88=some ([au],.bool):=rfl
theorem aX0:env.fn 89=some ([au,aq],.bool):=rfl
theorem aX1:env.fn 90=some ([au],.bool):=rfl
theorem aX2:env.fn 91=some ([au,aq],.bool):=rfl
theorem aX3:env.fn 92=some ([au],.bool):=rfl
theorem aX4:env.fn 93=some ([au,aq],.bool):=rfl
theorem aX5:env.fn 94=some ([au],.bool):=rfl
theorem aX6:env.fn 95=some ([au,aq],.bool):=rfl
theorem aX7:env.fn 96=some ([au],.bool):=rfl
theorem aX8:env.fn 97=some ([au,aq],.bool):=rfl
theorem aX9:env.fn 99=some ([(.sl (.sl aq))],(.sl aq)):=rfl
theorem ah0:env.fn 100=some ([cd,cd],(.int .i64)):=rfl
theorem ah1:env.fn 103=some ([(.int .i64),(.int .i64)],(.int .i64)):=rfl
theorem ah2:env.fn 105=some ([(.sl cW)],.bool):=rfl
theorem ah3:env.fn 106=some ([(.sl cW)],.bool):=rfl
theorem ah4:env.fn 107=some ([.str],.bool):=rfl
theorem ah5:env.fn 108=some ([.str],.bool):=rfl
theorem ah6:env.fn 109=some ([(.sl oz)],.bool):=rfl
theorem ah7:env.fn 110=some ([al],(.int .i64)):=rfl
theorem ah8:env.fn 111=some ([.str],.bool):=rfl
theorem ah9:env.fn 112=some ([.str,.str],.bool):=rfl
theorem ai0:env.fn 115=some ([(.int .i64),(.int .i64),(.int .i64)],.bool):=rfl
theorem ai1:env.fn 116=some ([au,aq],.bool):=rfl
theorem ai2:env.fn 117=some ([(.st (.pair (.int .i64) (.int .i64))),(.st (.pair (.int .i64) (.int .i64)))],.bool):=rfl
theorem ai3:env.fn 118=some ([(.st (.pair (.int .i64) (.int .i64))),.str,.str],bn):=rfl
theorem ai4:env.fn 119=some ([(.int .u8)],(.int .i64)):=rfl
theorem ai5:env.fn 120=some ([.str],.bool):=rfl
theorem ai6:env.fn 121=some ([al],.bool):=rfl
theorem ai7:env.fn 122=some ([al],(.bq al (.sl (.int .i64)))):=rfl
theorem ai8:env.fn 129=some ([.str],.bool):=rfl
theorem ai9:env.fn 130=some ([al,.str],(.sl dp)):=rfl
theorem aj0:env.fn 131=some ([(.sl (.sl au))],(.sl au)):=rfl
theorem aj1:env.fn 136=some ([(.sl (.int .i64))],(.int .i64)):=rfl
theorem aj2:env.fn 137=some ([(.int .i64),(.int .i64)],(.int .i64)):=rfl
theorem aj3:env.fn 139=some ([al],(.int .u8)):=rfl
theorem aj4:env.fn 140=some ([(.int .u8),(.int .i64)],.bool):=rfl
theorem aj5:env.fn 141=some ([al],(.int .u8)):=rfl
theorem aj6:env.fn 143=some ([al],(.bq (.int .i64) (.int .i64))):=rfl
theorem aj7:env.fn 144=some ([al],(.sl .bool)):=rfl
theorem aj8:env.fn 145=some ([al],(.sl .bool)):=rfl
theorem aj9:env.fn 146=some ([al,bn],.bool):=rfl
theorem ak0:env.fn 147=some ([(.ptr gU),ji,bn],(.bq ji .bool)):=rfl
theorem ak1:env.fn 150=some ([eC,eC],eC):=rfl
theorem ak2:env.fn 151=some ([eC,eC],.bool):=rfl
theorem ak3:env.fn 153=some ([(.ptr gU),ji],.bool):=rfl
theorem ak4:env.fn 156=some ([dp,dp],.bool):=rfl
theorem ak5:env.fn 158=some ([(.int .i64)],.bool):=rfl
theorem ak6:env.fn 159=some ([(.int .i64)],(.int .u8)):=rfl
theorem ak7:env.fn 161=some ([bn],.bool):=rfl
theorem ak8:env.fn 162=some ([(.sl (.int .i64)),(.sl (.int .i64))],(.int .i64)):=rfl
theorem ak9:env.fn 163=some ([(.int .i64),bn],.bool):=rfl
theorem al0:env.fn 164=some ([(.sl bn),bn],.bool):=rfl
theorem al1:env.fn 166=some ([al],(.mp (.int .i64) (.sl (.int .i64)))):=rfl
theorem al2:env.fn 169=some ([al,(.int .i64)],.bool):=rfl
theorem al3:env.fn 170=some ([al,(.int .i64)],.bool):=rfl
theorem al4:env.fn 171=some ([al,(.int .i64)],.bool):=rfl
theorem al5:env.fn 172=some ([al,(.int .i64)],.bool):=rfl
theorem al6:env.fn 174=some ([.str,(.int .i64),.str],.bool):=rfl
theorem al7:env.fn 175=some ([(.sl fC),fC],.bool):=rfl
theorem al8:env.fn 177=some ([(.sl (.int .i64)),(.sl (.int .i64))],(.int .i64)):=rfl
theorem al9:env.fn 178=some ([(.sl bn),bn],(.int .i64)):=rfl
theorem aY0:env.fn 35=some ([al,(.sl .str)],(.eY 74 (.pair (.ptr (.sl .str)) (.ptr al)))):=rfl
theorem aY1:env.fn 44=some ([(.mp (.int .i64) fY),(.sl au),aq],.bool):=rfl
theorem aY2:env.fn 45=some ([],(.mp (.int .i64) fY)):=rfl
theorem aY3:env.fn 46=some ([(.sl aq),.aD,aq],(.sl aq)):=rfl
theorem aY4:env.fn 49=some ([(.mp (.int .i64) fY),au],.bool):=rfl
theorem aY5:env.fn 50=some ([(.sl au),.aD],.bool):=rfl
theorem aY6:env.fn 52=some ([(.sl aq),.aD],.bool):=rfl
theorem aY7:env.fn 53=some ([(.sl au),.aD,cd],(.bq (.int .i64) .bool)):=rfl
theorem aY8:env.fn 64=some ([aA,bn,(.ptr .str)],(.bq aA .bool)):=rfl
theorem aY9:env.fn 81=some ([(.sl au),.aD,au],(.sl au)):=rfl
theorem aZ0:env.fn 86=some ([(.sl au),(.eY 87 (.pair (.ptr (.mp (.int .i64) fY)) (.ptr aq)))],.bool):=rfl
theorem aZ1:env.fn 87=some ([au,(.ptr (.mp (.int .i64) fY)),(.ptr aq)],.bool):=rfl
theorem aZ2:env.fn 98=some ([(.sl aq),.aD,cd],(.bq (.int .i64) .bool)):=rfl
theorem am0:env.fn 101=some ([(.sl au),cd,(.eY 102 (.ptr .aD))],(.bq (.int .i64) .bool)):=rfl
theorem am1:env.fn 102=some ([au,cd,(.ptr .aD)],(.int .i64)):=rfl
theorem am2:env.fn 132=some ([(.sl au),(.eY 87 (.pair (.ptr (.mp (.int .i64) fY)) (.ptr aq)))],(.int .i64)):=rfl
theorem am3:env.fn 133=some ([(.sl aq),cd,(.eY 134 (.ptr .aD))],(.bq (.int .i64) .bool)):=rfl
theorem am4:env.fn 134=some ([aq,cd,(.ptr .aD)],(.int .i64)):=rfl
theorem aZ3:env.fn 66=none:=rfl
theorem am5:env.dJ 66=some [none,some aA,some .str]:=rfl
theorem aZ4:env.fn 71=none:=rfl
theorem am6:env.dJ 71=some [some (.int .u8)]:=rfl
theorem am7:env.fn 113=none:=rfl
theorem Tt:env.dJ 113=some [none,none]:=rfl
theorem am8:env.fn 114=none:=rfl
theorem Tu:env.dJ 114=some [none,some aA,some (.int .i64)]:=rfl
theorem am9:env.fn 123=none:=rfl
theorem Tv:env.dJ 123=some [none,none]:=rfl
theorem an0:env.fn 124=none:=rfl
theorem Tw:env.dJ 124=some [none,none]:=rfl
theorem an1:env.fn 125=none:=rfl
theorem Tx:env.dJ 125=some [none]:=rfl
theorem an2:env.fn 126=none:=rfl
theorem Tz:env.dJ 126=some [none,some (.ptr aT)]:=rfl
theorem an3:env.fn 127=none:=rfl
theorem TA:env.dJ 127=some [none,none]:=rfl
theorem an4:env.fn 128=none:=rfl
theorem TB:env.dJ 128=some [none,some (.ptr aT)]:=rfl
theorem an5:env.fn 135=none:=rfl
theorem TC:env.dJ 135=some [none,some (.int .i64)]:=rfl
theorem an6:env.fn 142=none:=rfl
theorem TD:env.dJ 142=some [some al]:=rfl
theorem an7:env.fn 148=none:=rfl
theorem TE:env.dJ 148=some [none,some bt,some (.int .i64)]:=rfl
theorem an8:env.fn 149=none:=rfl
theorem TF:env.dJ 149=some [none,some ji,some (.int .i64)]:=rfl
theorem an9:env.fn 152=none:=rfl
theorem TG:env.dJ 152=some [none,some (.int .i64),some (.int .i64)]:=rfl
theorem ao0:env.fn 154=none:=rfl
theorem TH:env.dJ 154=some [none,some (.int .i64)]:=rfl
theorem ao1:env.fn 155=none:=rfl
theorem TJ:env.dJ 155=some [none,some (.sl cd),some .str,some (.int .i64)]:=rfl
theorem ao2:env.fn 157=none:=rfl
theorem TK:env.dJ 157=some [none,some (.int .i64)]:=rfl
theorem ao3:env.fn 160=none:=rfl
theorem TL:env.dJ 160=some [some al,some (.int .i64),some (.int .u8),some .aD]:=rfl
theorem ao4:env.fn 165=none:=rfl
theorem TM:env.dJ 165=some [some al]:=rfl
theorem ao5:env.fn 167=none:=rfl
theorem TN:env.dJ 167=some [some (.int .i64),none]:=rfl
theorem ao6:env.fn 168=none:=rfl
theorem TO:env.dJ 168=some [some (.int .i64),none,none,none,none]:=rfl
theorem ao7:env.fn 173=none:=rfl
theorem TP:env.dJ 173=some [none,some .str,some (.int .i64)]:=rfl
theorem ao8:env.fn 176=none:=rfl
theorem TQ:env.dJ 176=some [some (.sl (.int .i64))]:=rfl
theorem ao9:env.fn 179=none:=rfl
theorem TR:env.dJ 179=some [some (.int .i64),none,none]:=rfl
theorem ap0:env.fn 197=none:=rfl
theorem TS:env.dJ 197=some [none]:=rfl
theorem ap1:env.fn 198=none:=rfl
theorem TT:env.dJ 198=some [none,some (.int .i64),some (.int .i64)]:=rfl
theorem ap2:env.fn 199=none:=rfl
theorem TU:env.dJ 199=some [none,some (.int .i64),some (.int .i64)]:=rfl
theorem ap3:env.fn 200=none:=rfl
theorem TV:env.dJ 200=some [none]:=rfl
theorem ap4:env.fn 201=none:=rfl
theorem TW:env.dJ 201=some [none,none]:=rfl
theorem Cv:env.nL 208 "Len" =some (197,some 204):=by kernel_rfl
theorem AR:env.nL 208 "Less" =some (198,some 204):=by kernel_rfl
theorem AS:env.nL 208 "Swap" =some (199,some 204):=by kernel_rfl
theorem AT:env.nL 208 "Push" =some (201,none):=by kernel_rfl
theorem Cw:env.nL 208 "Pop" =some (200,none):=by kernel_rfl
theorem ap5:env.P.funcs[8]?=some Tryz.f8:=rfl
theorem bu6:env.P.funcs[9]?=some Tryz.f9:=rfl
theorem ay2:env.P.funcs[10]?=some Tryz.f10:=rfl
theorem bi2:env.P.funcs[12]?=some Tryz.f12:=rfl
theorem ay3:env.P.funcs[14]?=some Tryz.f14:=rfl
theorem ay4:env.P.funcs[16]?=some Tryz.f16:=rfl
theorem ay5:env.P.funcs[18]?=some Tryz.f18:=rfl
theorem Mu:env.P.funcs[20]?=some Tryz.f20:=rfl
theorem bi3:env.P.funcs[27]?=some Tryz.f27:=rfl
theorem bi4:env.P.funcs[28]?=some Tryz.f28:=rfl
theorem ay6:env.P.funcs[30]?=some Tryz.f30:=rfl
theorem bi5:env.P.funcs[31]?=some Tryz.f31:=rfl
theorem ay7:env.P.funcs[32]?=some Tryz.f32:=rfl
theorem bi6:env.P.funcs[33]?=some Tryz.f33:=rfl
theorem TX:env.P.funcs[34]?=some Tryz.f34:=rfl
theorem bi7:env.P.funcs[35]?=some Tryz.f35:=rfl
theorem ay8:env.P.funcs[36]?=some Tryz.f36:=rfl
theorem ay9:env.P.funcs[37]?=some Tryz.f37:=rfl
theorem bi8:env.P.funcs[39]?=some Tryz.f39:=rfl
theorem TY:env.P.funcs[41]?=some Tryz.f41:=rfl
theorem bi9:env.P.funcs[44]?=some Tryz.f44:=rfl
theorem bj0:env.P.funcs[45]?=some Tryz.f45:=rfl
theorem bj1:env.P.funcs[48]?=some Tryz.f48:=rfl
theorem bj2:env.P.funcs[49]?=some Tryz.f49:=rfl
theorem bj3:env.P.funcs[51]?=some Tryz.f51:=rfl
theorem bj4:env.P.funcs[53]?=some Tryz.f53:=rfl
theorem az0:env.P.funcs[55]?=some Tryz.f55:=rfl
theorem Mv:env.P.funcs[56]?=some Tryz.f56:=rfl
theorem az1:env.P.funcs[60]?=some Tryz.f60:=rfl
theorem bj5:env.P.funcs[61]?=some Tryz.f61:=rfl
theorem bj6:env.P.funcs[62]?=some Tryz.f62:=rfl
theorem bj7:env.P.funcs[63]?=some Tryz.f63:=rfl
theorem bj8:env.P.funcs[64]?=some Tryz.f64:=rfl
theorem az2:env.P.funcs[65]?=some Tryz.f65:=rfl
theorem HT:env.P.funcs[66]?=some Tryz.f66:=rfl
theorem bj9:env.P.funcs[67]?=some Tryz.f67:=rfl
theorem bk0:env.P.funcs[68]?=some Tryz.f68:=rfl
theorem az3:env.P.funcs[69]?=some Tryz.f69:=rfl
theorem az4:env.P.funcs[70]?=some Tryz.f70:=rfl
theorem Dz:env.P.funcs[71]?=some Tryz.f71:=rfl
theorem TZ:env.P.funcs[72]?=some Tryz.f72:=rfl
theorem az5:env.P.funcs[73]?=some Tryz.f73:=rfl
theorem AU:env.P.funcs[74]?=some Tryz.f74:=rfl
theorem Mw:env.P.funcs[75]?=some Tryz.f75:=rfl
theorem xK:env.P.funcs[76]?=some Tryz.f76:=rfl
theorem bk1:env.P.funcs[81]?=some Tryz.f81:=rfl
theorem bk2:env.P.funcs[82]?=some Tryz.f82:=rfl
theorem bk3:env.P.funcs[85]?=some Tryz.f85:=rfl
theorem bk4:env.P.funcs[86]?=some Tryz.f86:=rfl
theorem bk5:env.P.funcs[87]?=some Tryz.f87:=rfl
theorem bk6:env.P.funcs[88]?=some Tryz.f88:=rfl
theorem bk7:env.P.funcs[89]?=some Tryz.f89:=rfl
theorem bk8:env.P.funcs[90]?=some Tryz.f90:=rfl
theorem bk9:env.P.funcs[91]?=some Tryz.f91:=rfl
theorem bl0:env.P.funcs[92]?=some Tryz.f92:=rfl
theorem bl1:env.P.funcs[93]?=some Tryz.f93:=rfl
theorem bl2:env.P.funcs[94]?=some Tryz.f94:=rfl
theorem bl3:env.P.funcs[95]?=some Tryz.f95:=rfl
theorem bl4:env.P.funcs[96]?=some Tryz.f96:=rfl
theorem bl5:env.P.funcs[97]?=some Tryz.f97:=rfl
theorem aZ5:env.P.funcs[100]?=some Tryz.f100:=rfl
theorem T0:env.P.funcs[101]?=some Tryz.f101:=rfl
theorem aZ6:env.P.funcs[102]?=some Tryz.f102:=rfl
theorem aZ7:env.P.funcs[110]?=some Tryz.f110:=rfl
theorem T5:env.P.funcs[111]?=some Tryz.f111:=rfl
theorem T6:env.P.funcs[112]?=some Tryz.f112:=rfl
theorem qi:env.P.funcs[113]?=some Tryz.f113:=rfl
theorem aZ8:env.P.funcs[114]?=some Tryz.f114:=rfl
theorem aZ9:env.P.funcs[115]?=some Tryz.f115:=rfl
theorem a00:env.P.funcs[116]?=some Tryz.f116:=rfl
theorem a01:env.P.funcs[117]?=some Tryz.f117:=rfl
theorem a02:env.P.funcs[118]?=some Tryz.f118:=rfl
theorem T7:env.P.funcs[119]?=some Tryz.f119:=rfl
theorem a03:env.P.funcs[120]?=some Tryz.f120:=rfl
theorem a04:env.P.funcs[121]?=some Tryz.f121:=rfl
theorem KL:env.P.funcs[122]?=some Tryz.f122:=rfl
theorem Fi:env.P.funcs[123]?=some Tryz.f123:=rfl
theorem T8:env.P.funcs[124]?=some Tryz.f124:=rfl
theorem a05:env.P.funcs[125]?=some Tryz.f125:=rfl
theorem AV:env.P.funcs[126]?=some Tryz.f126:=rfl
theorem T9:env.P.funcs[127]?=some Tryz.f127:=rfl
theorem wI:env.P.funcs[128]?=some Tryz.f128:=rfl
theorem Fj:env.P.funcs[131]?=some Tryz.f131:=rfl
theorem Ua:env.P.funcs[132]?=some Tryz.f132:=rfl
theorem Ub:env.P.funcs[136]?=some Tryz.f136:=rfl
theorem a06:env.P.funcs[137]?=some Tryz.f137:=rfl
theorem KM:env.P.funcs[139]?=some Tryz.f139:=rfl
theorem a07:env.P.funcs[140]?=some Tryz.f140:=rfl
theorem KN:env.P.funcs[141]?=some Tryz.f141:=rfl
theorem Uc:env.P.funcs[142]?=some Tryz.f142:=rfl
theorem Ud:env.P.funcs[143]?=some Tryz.f143:=rfl
theorem a08:env.P.funcs[144]?=some Tryz.f144:=rfl
theorem AW:env.P.funcs[145]?=some Tryz.f145:=rfl
theorem a09:env.P.funcs[146]?=some Tryz.f146:=rfl
theorem a10:env.P.funcs[147]?=some Tryz.f147:=rfl
theorem a11:env.P.funcs[148]?=some Tryz.f148:=rfl
theorem Ue:env.P.funcs[149]?=some Tryz.f149:=rfl
theorem a12:env.P.funcs[150]?=some Tryz.f150:=rfl
theorem a13:env.P.funcs[151]?=some Tryz.f151:=rfl
theorem Uf:env.P.funcs[152]?=some Tryz.f152:=rfl
theorem a14:env.P.funcs[153]?=some Tryz.f153:=rfl
theorem Ug:env.P.funcs[154]?=some Tryz.f154:=rfl
theorem a15:env.P.funcs[157]?=some Tryz.f157:=rfl
theorem a16:env.P.funcs[158]?=some Tryz.f158:=rfl
theorem a17:env.P.funcs[159]?=some Tryz.f159:=rfl
theorem KO:env.P.funcs[160]?=some Tryz.f160:=rfl
theorem a18:env.P.funcs[161]?=some Tryz.f161:=rfl
theorem a19:env.P.funcs[163]?=some Tryz.f163:=rfl
theorem a20:env.P.funcs[164]?=some Tryz.f164:=rfl
theorem a21:env.P.funcs[165]?=some Tryz.f165:=rfl
theorem a22:env.P.funcs[167]?=some Tryz.f167:=rfl
theorem Uh:env.P.funcs[168]?=some Tryz.f168:=rfl
theorem a23:env.P.funcs[169]?=some Tryz.f169:=rfl
theorem a24:env.P.funcs[170]?=some Tryz.f170:=rfl
theorem a25:env.P.funcs[171]?=some Tryz.f171:=rfl
theorem a26:env.P.funcs[176]?=some Tryz.f176:=rfl
theorem Ui:env.P.funcs[178]?=some Tryz.f178:=rfl
theorem a27:env.P.funcs[179]?=some Tryz.f179:=rfl
theorem a28:env.P.funcs[197]?=some Tryz.f197:=rfl
theorem a29:env.P.funcs[198]?=some Tryz.f198:=rfl
theorem a30:env.P.funcs[199]?=some Tryz.f199:=rfl
theorem a31:env.P.funcs[200]?=some Tryz.f200:=rfl
theorem a32:env.P.funcs[201]?=some Tryz.f201:=rfl
attribute[go_sem]Sc Sd Se Sf Sg Sh bg5 bg6 bg7 bg8 bg9 bh0 bh1 bh2 bh3 aI3 aI4 aI5 aI6 aI7 aI8 aI9 aJ0 aJ1 aJ2 aJ3 aJ4 aJ5 aJ6 aJ7 aJ8 aJ9 aK0 aK1 aK2 aK3 aK4 aK5 aK6 aK7 aK8 aK9 aL0 aL1 aL2 aL3 aL4 aL5 aL6 aL7 aL8 aL9 aM0 aM1 aM2 aM3 aM4 aM5 aM6 aM7 aM8 aM9 aN0 aN1 aN2 aN3 aN4 aN5 aN6 aN7 aN8 aN9 aO0 aO1 aO2 aO3 aO4 aO5 aO6 aO7 aO8 aO9 aP0 aP1 aP2 aP3 aP4 aP5 aP6 aP7 aP8 aP9 aQ0 aQ1 XN XO XP XQ XR XS XT XU XV XW XX XY XZ X0 X1 X2 X3 X4 X5 X6 X7 X8 X9 Ya Yb Yc Yd Ye Yf Yg Yh Yi Yj Yk Yl Ym Yn Yo Yp Yq Yr Ys Yt Yu Yv Yw Yx Yy Yz YA YB YC YD YE YF YG YH YI YJ YK YL YM YN YO YP YQ YR YS YT YU YV YW YX YY YZ Y0 Y1 Y2 Y3 Y4 Y5 Y6 Y7 Y8 Y9 Za Zb Zc Zd Ze Zf Zg Zh Zi Zj Zk Zl Zm Zn Zo Zp Zq Zr Zs Zt Zu Zv Zw Zx Zy Zz ZA ZB ZC ZD ZE ZF ZG ZH ZI ZJ ZK ZL ZM ZN ZO ZP ZQ ZR ZS ZT ZU ZV ZW ZX ZY ZZ Z0 Z1 Z2 Z3 Z4 Z5 Z6 Z7 Z8 Z9 aa0 aa1 aa2 aa3 aa4 aa5 aa6 aa7 aa8 aa9 ab0 ab1 ab2 ab3 ab4 ab5 ab6 ab7 ab8 ab9 ac0 ac1 ac2 ac3 ac4 ac5 ac6 ac7 aQ2 aQ3 ac8 ac9 ad0 ad1 ad2 ad3 ad4 ad5 ad6 ad7 ad8 ad9 ae0 ae1 ae2 ae3 ae4 ae5 ae6 ae7 ae8 ae9 af0 af1 af2 af3 Si Sj Sl Sm Sn So Sq Sr Ss Su Sv Sw Sx Sy Sz SA SB SC SD SE SF SG SH SJ SK SL SM SN SO SP SQ SR SS SU SV SW af4 af5 SX aQ4 aQ5 af6 af7 af8 af9 ag0 ag1 ag2 ag3 ag4 ag5 ag6 ag7 ag8 ag9 SY SZ S4 S5 S6 S7 S8 S9 Ta Tb Tc Td Te Tf Tg Ti Tj Tk Tl Tm Tn To Tp Tq Tr bh4 bh5 bh6 bh7 bh8 bh9 bi0 bi1 aQ6 aQ7 aQ8 aQ9 aR0 aR1 aR2 aR3 aR4 aR5 aR6 aR7 aR8 aR9 aS0 aS1 aS2 aS3 aS4 aS5 aS6 aS7 aS8 aS9 aT0 aT1 aT2 aT3 aT4 aT5 aT6 aT7 aT8 aT9 aU0 aU1 aU2 aU3 aU4 aU5 aU6 aU7 aU8 aU9 aV0 aV1 aV2 aV3 aV4 aV5 aV6 aV7 aV8 aV9 aW0 aW1 aW2 aW3 aW4 aW5 aW6 aW7 aW8 aW9 aX0 aX1 aX2 aX3 aX4 aX5 aX6 aX7 aX8 aX9 ah0 ah1 ah2 ah3 ah4 ah5 ah6 ah7 ah8 ah9 ai0 ai1 ai2 ai3 ai4 ai5 ai6 ai7 ai8 ai9 aj0 aj1 aj2 aj3 aj4 aj5 aj6 aj7 aj8 aj9 ak0 ak1 ak2 ak3 ak4 ak5 ak6 ak7 ak8 ak9 al0 al1 al2 al3 al4 al5 al6 al7 al8 al9 aY0 aY1 aY2 aY3 aY4 aY5 aY6 aY7 aY8 aY9 aZ0 aZ1 aZ2 am0 am1 am2 am3 am4 aZ3 am5 aZ4 am6 am7 Tt am8 Tu am9 Tv an0 Tw an1 Tx an2 Tz an3 TA an4 TB an5 TC an6 TD an7 TE an8 TF an9 TG ao0 TH ao1 TJ ao2 TK ao3 TL ao4 TM ao5 TN ao6 TO ao7 TP ao8 TQ ao9 TR ap0 TS ap1 TT ap2 TU ap3 TV ap4 TW Cv AR AS AT Cw aI2 bf9 aI0 bf8 aI1 bg0 bg3 bg4 bg1 bg2
instance drI:jY False:=⟨⟩
end Go.Proofs.YtgpkijnphchkpaaGreat
namespace Go.Proofs.YtgpkijnphchkpaaGreat
attribute[local go_sem←]Bool.decide_and Bool.decide_or decide_not
set_option maxHeartbeats 4000000
set_option maxRecDepth 100000
theorem aw {x:Int} (h: -9223372036854775808≤x)(h':x≤9223372036854775807):IntKind.i64.min≤x∧x≤IntKind.i64.max:=⟨h,h'⟩
theorem a33 {x:Int} (h:IntKind.i64.min≤x∧x≤IntKind.i64.max): -9223372036854775808≤x∧x≤9223372036854775807:=h
theorem az6 {x:Int} (h:0≤x)(h':x≤255):IntKind.u8.min≤x∧x≤IntKind.u8.max:=⟨h,h'⟩
theorem mB {x:Int} (h:IntKind.u8.min≤x∧x≤IntKind.u8.max):0≤x∧x≤255:=h
theorem drop_cons {α:Type} {xs:List α} {i:Nat} {x:α} (h:xs[i]?=some x):xs.drop i=x::xs.drop (i+1):=by obtain⟨hi,e⟩:=List.getElem?_eq_some_iff.1 h;rw[List.drop_eq_getElem_cons hi,e]
theorem aY {α:Type} {xs:List α} {i:Nat} {x:α} (h:xs[i]?=some x):xs.take (i+1)=xs.take i++ [x]:=by rw[List.take_add_one,h];rfl
theorem an {α:Type} {xs:List α} {i:Nat} (h:i<xs.length): ∃x,xs[i]?=some x:=⟨_,List.getElem?_eq_getElem h⟩
theorem lM {α:Type} {xs:List α} {i:Nat} {x:α} {p:α→Bool} (h:xs[i]?=some x):(xs.take (i+1)).all p=((xs.take i).all p&&p x):=by rw[aY h,List.all_append];simp
theorem sO {α:Type} {xs:List α} {i:Nat} {x:α} {p:α→Bool} (h:xs[i]?=some x)(hp:p x=false):xs.all p=false:=by rw[List.all_eq_false];exact⟨x,List.mem_of_getElem? h,by simp[hp]⟩
theorem ah.a34 {E:Env} {G:Goal} {todo:List WI} {X:Type} (t:X→St)(inv:X→Prop) {A:Prop} (h:(∀s x,inv x→Le s (t x)→ah E G todo s)→A)(hw: ∀x,inv x→ah E G todo (t x)):A:=h fun s x hx hl=>ah.weaken hl (hw x hx)
theorem PC.dec {E:Env} {f:Nat} {xs:List (Sigma Ty.den)} {b:Bool} (h:PC E f xs .bool b):PC E f xs .bool (decide (b=true)):=by cases b<;>exact h
theorem HC.ef {E:Env} {f:Nat} {args:List PV} {bl bl':List (Nat×aO)} {p:PV} (l:List (Nat×Nat))(hp:sL l=true)(h:HC E f args bl p bl'):HC E f args bl (p.ef (aS l)) (je (aS l) bl'):=by
 intro w S ν0 vs a1 a2 a3 a4 a5 a6;refine(h w S ν0 vs a1 a2 a3 a4 a5 a6).mono ?_;rintro e w'⟨v,rfl,hk,ν,S',b1,b2,b3,hW,hv⟩;refine⟨v,rfl,hk,?_⟩;obtain⟨h1,h2,h3⟩:=AL hp
 (have inj: ∀i j,aS l i=aS l j→i=j:=fun i j e=>by rw[←h1 i,←h1 j,e]);have HF: ∀i b,look i bl'=some b→look (aS l i) (je (aS l) bl')=some (b.map (PV.dM (aS l))):=fun i b hb=>gG (fun j c _ e=>inj j i e) hb
 have hold: ∀i b,look i (je (aS l) bl')=some b→ ∃j c,aS l j=i∧look j bl'=some c∧b=c.map (PV.dM (aS l)):=fun i b hb=>ly (fun j k _ _ _ _ e=>inj j k e) hb;have hle:Ctx.VM (keys bl') (aS l) ⟨ν,(⟨[],bl'⟩:St).D,w',⟨S',aK w ⟨S,gi ν0 bl,ν0,[]⟩⟩⟩ ⟨fun i=>ν (aS (bV l) i),(⟨[],je (aS l) bl'⟩:St).D,w',⟨S',aK w ⟨S,gi ν0 bl,ν0,[]⟩⟩⟩:=⟨fun _ _=>rfl,fun _ h=>h,fun i _⟨b,hb⟩=>⟨_,HF i b hb⟩,fun i _ _=>by simp only[h1]⟩
 (have qj: ∀j,P0≤aS l j→P0≤j:=fun j hi=>by rcases Nat.lt_or_ge j P0 with h'|h';(·exfalso;have e:=h3 (aS l j) hi;have:=inj _ _ e;omega);·exact h');refine⟨fun i=>ν (aS (bV l) i),S',b1,b2,fun i hi⟨b,hb⟩=>?_,⟨hW.lt,hW.size,fun i b hb=>?_,fun i j b c fv hi hj g hg fu=>?_⟩,iK hle (ng (fun _ h=>h) hv) hv⟩
 (·obtain⟨j,c,rfl,hc,_⟩:=hold i b hb;have hj:=qj j hi;rw[h3 j hj];(have e:aS (bV l) j=j:=by have:=h1 j;rw[h3 j hj]at this;exact this);simp only[e];exact b3 j hj ⟨c,hc⟩)
 (·obtain⟨j,c,rfl,hc,rfl⟩:=hold i b hb;have hr:=hW.cA j c hc;exact pZ hle (qZ (fun _ h=>h) hr) (by simp only[h1]) (fun g hg=>⟨rfl,(gR hr hg).1,(gR hr hg).2.1⟩) hr)
 ·obtain⟨i',b',rfl,jl,_⟩:=hold i b hi;obtain⟨j',c',rfl,iY,_⟩:=hold j c hj;simp only[h1]at hg fu;exact hW.ne i' j' b' c' (fun e=>fv (by rw[e])) jl iY g hg fu
abbrev aI:=List UInt8
abbrev Rl:=Int×Int×aI×aI×Int
abbrev db:=Int×Int×List Rl
instance bu7:DecidableEq Rl:=fun a b=>inferInstanceAs(Decidable ((a:Int×Int×aI×aI×Int)=b))
def wJ(n a b:Int):Bool:=decide (a≤n∧n≤b)
def low(u:UInt8):Bool:=decide (97≤u.toNat∧u.toNat≤122)
def AX(u:UInt8):Bool:=decide (97≤u.toNat∧u.toNat≤122∨65≤u.toNat∧u.toNat≤90∨48≤u.toNat∧u.toNat≤57)
def HU(n m:Int):Bool:=decide (0≤m∧m<n∧m<8)
def Mx(n:Int)(r:Rl):Bool:=HU n r.1&&HU n r.2.1&&wJ r.2.2.2.2 0 1000
def qk(a m:Int):Bool:=decide (a/2^m.toNat%2=1)
theorem Fk {a:Int} (h:0≤a):((a.toNat &&& (1:Int).toNat:Nat):Int)=a%2:=by show((a.toNat &&& 1:Nat):Int)=_;rw[Nat.and_one_is_mod];omega
theorem wK {a:Int} (h:0≤a)(m:Nat):0≤a/2^m:=Int.ediv_nonneg h (Int.le_of_lt (Int.pow_pos (by decide)))
theorem Uj(v a b:Int):PC env 55 [⟨.int .i64,v⟩,⟨.int .i64,a⟩,⟨.int .i64,b⟩] .bool (wJ v a b):=by
 refine PC.ay (m:=2000) ae az0 rfl rfl rfl rfl (by kernel_rfl) ?_;intro hx;simp only[Tryz.f55];simp only[go_sem,zA,↓reduceIte,↓reduceDIte,zB,zC,zD,zE,zF,zG,zH,zI]
 unfold wJ;refine⟨fun h=>?_,fun h=>?_⟩;(·congr 1;simp;omega);·symm;simp;omega
theorem My(s:aI):PC env 60 [⟨.str,s⟩] .bool (s.all low):=by
 refine PC.ay (m:=2000) ae az1 rfl rfl rfl rfl (by kernel_rfl) ?_;intro hx;simp only[Tryz.f60];simp only[go_sem,zA,↓reduceIte,↓reduceDIte,zB,zC,zD,zE,zF,zG,zH,zI]
 have hlen:s.length≤9223372036854775807:=hx.1;refine ah.bH (X:=Nat) (fun(i:Nat)=>[(3,.iv (.int .i64) (i:Int))]) (fun(i:Nat)=>[]) (fun(i:Nat)=>i≤s.length∧(s.take i).all low=true) (fun(i:Nat)=>s.length-i) 0 ?_
 intro b1 b2 bg bu;simp(config:= {maxSteps:=4000000})only[go_sem,zA,↓reduceIte,↓reduceDIte,zB,zC,zD,zE,zF,zG,zH,zI]at bg bu;subst bg;subst bu;refine⟨(by refine⟨?_,?_,rfl,rfl⟩<;>repeat' (first|exact trivial|exact Or.inl rfl|exact Or.inr rfl|apply bw|apply bx|apply bz|apply bD|exact⟨(by show(_:Nat)<1000000000;omega),rfl,rfl⟩|rfl|(refine And.intro (Or.inl ?_) ?_)|(refine And.intro ?_ ?_))),?_,?_⟩
 (·exact⟨Nat.zero_le _,rfl⟩);intro i⟨hi,hb⟩back;refine av ae ⟨_,az1,rfl⟩ 2000 _ _ (by kernel_rfl) ?_;simp only[go_sem,zA,↓reduceIte,↓reduceDIte,zB,zC,zD,zE,zF,zG,zH,zI]
 refine⟨fun h=>?_,fun h=>?_⟩;(·obtain⟨x,dE⟩: ∃x,s[i]?=some x:=an (by omega);have oZ:low x=false→false=s.all low:=fun hl=>(sO dE hl).symm;(have OH:low x=true→(s.take (i+1)).all low=true:=fun hl=>by rw[lM dE,hb,hl];rfl);refine⟨Int.natCast_nonneg _,_,⟨x,dE,rfl⟩,?_⟩;(repeat' (first|(with_reducible intro _)|(with_reducible apply And.intro)|(with_reducible refine Exists.intro _ (And.intro (Exists.intro x (And.intro dE rfl)) ?_))));all_goals first|(refine oZ ?_;simp[low];omega)|(with_reducible exact Int.natCast_nonneg _)|omega|(refine back _ (i+1) (by refine⟨?_,?_,rfl,rfl⟩<;>repeat' (first|exact trivial|exact Or.inl rfl|exact Or.inr rfl|apply bw|apply bx|apply bz|apply bD|exact⟨(by show(_:Nat)<1000000000;omega),rfl,rfl⟩|rfl|(refine And.intro (Or.inl ?_) ?_)|(refine And.intro ?_ ?_))) ⟨by omega,OH ?_⟩ (by omega);simp[low];omega)|skip)
 ·rw[List.take_of_length_le (by omega)]at hb;rw[hb]
theorem yN(s:aI):PC env 56 [⟨.str,s⟩] .bool (s.all AX):=by
 refine PC.ay (m:=2000) ae Mv rfl rfl rfl rfl (by kernel_rfl) ?_;intro hx;simp only[Tryz.f56];simp only[go_sem,zA,↓reduceIte,↓reduceDIte,zB,zC,zD,zE,zF,zG,zH,zI]
 have hlen:s.length≤9223372036854775807:=hx.1;refine ah.bH (X:=Nat) (fun(i:Nat)=>[(3,.iv (.int .i64) (i:Int))]) (fun(i:Nat)=>[]) (fun(i:Nat)=>i≤s.length∧(s.take i).all AX=true) (fun(i:Nat)=>s.length-i) 0 ?_
 intro b1 b2 bg bu;simp(config:= {maxSteps:=4000000})only[go_sem,zA,↓reduceIte,↓reduceDIte,zB,zC,zD,zE,zF,zG,zH,zI]at bg bu;subst bg;subst bu;refine⟨(by refine⟨?_,?_,rfl,rfl⟩<;>repeat' (first|exact trivial|exact Or.inl rfl|exact Or.inr rfl|apply bw|apply bx|apply bz|apply bD|exact⟨(by show(_:Nat)<1000000000;omega),rfl,rfl⟩|rfl|(refine And.intro (Or.inl ?_) ?_)|(refine And.intro ?_ ?_))),?_,?_⟩
 (·exact⟨Nat.zero_le _,rfl⟩);intro i⟨hi,hb⟩back;refine av ae ⟨_,Mv,rfl⟩ 2000 _ _ (by kernel_rfl) ?_;simp only[go_sem,zA,↓reduceIte,↓reduceDIte,zB,zC,zD,zE,zF,zG,zH,zI]
 refine⟨fun h=>?_,fun h=>?_⟩;(·obtain⟨x,dE⟩: ∃x,s[i]?=some x:=an (by omega);have oZ:AX x=false→false=s.all AX:=fun hl=>(sO dE hl).symm;(have OH:AX x=true→(s.take (i+1)).all AX=true:=fun hl=>by rw[lM dE,hb,hl];rfl);refine⟨Int.natCast_nonneg _,_,⟨x,dE,rfl⟩,?_⟩;(repeat' (first|(with_reducible intro _)|(with_reducible apply And.intro)));all_goals first|(refine oZ ?_;simp[AX];omega)|(with_reducible exact Int.natCast_nonneg _)|omega|(refine back _ (i+1) (by refine⟨?_,?_,rfl,rfl⟩<;>repeat' (first|exact trivial|exact Or.inl rfl|exact Or.inr rfl|apply bw|apply bx|apply bz|apply bD|exact⟨(by show(_:Nat)<1000000000;omega),rfl,rfl⟩|rfl|(refine And.intro (Or.inl ?_) ?_)|(refine And.intro ?_ ?_))) ⟨by omega,OH ?_⟩ (by omega);simp[AX];omega)|exact(aw (by omega) (by omega)).1|exact(aw (by omega) (by omega)).2|skip)
 ·rw[List.take_of_length_le (by omega)]at hb;rw[hb]
theorem HV(s:db)(m:Int):PC env 170 [⟨al,s⟩,⟨.int .i64,m⟩] .bool (HU s.1 m):=by
 obtain⟨n,a,l⟩:=s;refine PC.ay (m:=2000) ae a24 rfl rfl rfl rfl (by kernel_rfl) ?_;intro hx;simp only[Tryz.f170];simp only[go_sem,zA,↓reduceIte,↓reduceDIte,zB,zC,zD,zE,zF,zG,zH,zI]
 unfold HU;(repeat' (first|(with_reducible intro _)|(with_reducible apply And.intro)));all_goals first|(rw[decide_eq_decide];omega)|(symm;simp;omega)
theorem KP(s:db)(r:Rl):PC env 146 [⟨al,s⟩,⟨bn,r⟩] .bool (Mx s.1 r):=by
 obtain⟨n,a,l⟩:=s;obtain⟨fr,t,i,o,c⟩:=r;have h1:=(HV (n,a,l) fr).dec;have h2:=(HV (n,a,l) t).dec;refine PC.ay (m:=2000) ae a09 rfl rfl rfl rfl (by kernel_rfl) ?_
 intro hx;simp only[Tryz.f146];simp only[go_sem,zA,↓reduceIte,↓reduceDIte,zB,zC,zD,zE,zF,zG,zH,zI];(repeat' (first|(with_reducible intro _)|(with_reducible apply And.intro)|(with_reducible refine⟨_,h1,?_⟩;try simp only[go_sem,zA,↓reduceIte,↓reduceDIte,zB,zC,zD,zE,zF,zG,zH,zI])|(with_reducible refine⟨_,h2,?_⟩;try simp only[go_sem,zA,↓reduceIte,↓reduceDIte,zB,zC,zD,zE,zF,zG,zH,zI])|fail))
 all_goals(unfold Mx wJ;dsimp only at*;simp_all;try omega)
theorem HW(s:db)(m:Int)(h0:0≤m∧m<8):PC env 169 [⟨al,s⟩,⟨.int .i64,m⟩] .bool (qk s.2.1 m):=by
 obtain⟨n,a,l⟩:=s;refine PC.ay (m:=2000) ae a23 rfl rfl rfl rfl (by kernel_rfl) ?_;intro hx;simp only[Tryz.f169];simp only[go_sem,zA,↓reduceIte,↓reduceDIte,zB,zC,zD,zE,zF,zG,zH,zI]
 have ha:=mB hx.1.2.1;dsimp only at ha;exact⟨⟨ha.1,h0⟩,wK ha.1 _,by show decide (((_ &&& (1:Int).toNat:Nat):Int)=1)=_;rw[Fk (wK ha.1 _)];rfl⟩
end Go.Proofs.YtgpkijnphchkpaaGreat
namespace Go.Proofs.YtgpkijnphchkpaaGreat
attribute[local go_sem←]Bool.decide_and Bool.decide_or decide_not
set_option maxHeartbeats 4000000
set_option maxRecDepth 100000
def dx(n:Int)(r:Rl):Bool:=wJ r.1 0 (n-1)&&wJ r.2.1 0 (n-1)&&decide (r.2.2.1.length≤4)&&r.2.2.1.all low&&decide (r.2.2.2.1.length≤4)&&r.2.2.2.1.all AX&&wJ r.2.2.2.2 0 1000
def eK(n:Int)(l:List Rl)(i:Nat):Bool:=match l[i]? with|some r=>decide (r∉l.take i)&&dx n r|none=>false
theorem uK(s:db)(i:Nat)(hn:0≤s.1)(hi:i<s.2.2.length):PC env 73 [⟨al,s⟩,⟨.int .i64,(i:Int)⟩] .bool (eK s.1 s.2.2 i):=by
 obtain⟨n,a,l⟩:=s;obtain⟨r,hr⟩: ∃r,l[i]?=some r:=an hi;dsimp only at hn hi;(have Jl:eK n l i=(decide (r∉l.take i)&&dx n r):=by unfold eK;rw[hr]);dsimp only;rw[Jl]
 clear Jl;obtain⟨fr,t,ri,ro,c⟩:=r;refine PC.ay (m:=2000) ae az5 rfl rfl rfl rfl (by kernel_rfl) ?_;intro hx;simp only[Tryz.f73];simp only[go_sem,zA,↓reduceIte,↓reduceDIte,zB,zC,zD,zE,zF,zG,zH,zI]
 have ym:l.length≤9223372036854775807:=hx.1.2.2.1;have hnn:=a33 hx.1.1;dsimp only at hnn;refine⟨Int.natCast_nonneg _,_,hr,?_⟩;refine ah.bH (X:=Nat) (fun(k:Nat)=>[(6,.iv (.int .i64) (k:Int))]) (fun(k:Nat)=>[]) (fun(k:Nat)=>k≤i∧(fr,t,ri,ro,c)∉l.take k) (fun(k:Nat)=>i-k) 0 ?_
 intro b1 b2 bg bu;simp(config:= {maxSteps:=4000000})only[go_sem,zA,↓reduceIte,↓reduceDIte,zB,zC,zD,zE,zF,zG,zH,zI]at bg bu;subst bg;subst bu;refine⟨(by refine⟨?_,?_,rfl,rfl⟩<;>repeat' (first|exact trivial|exact Or.inl rfl|exact Or.inr rfl|apply bw|apply bx|apply bz|apply bD|exact⟨(by show(_:Nat)<1000000000;omega),rfl,rfl⟩|rfl|(refine And.intro (Or.inl ?_) ?_)|(refine And.intro ?_ ?_))),?_,?_⟩
 (·exact⟨Nat.zero_le _,by simp⟩);intro k⟨hk,he⟩back;refine av ae ⟨_,az5,rfl⟩ 2000 _ _ (by kernel_rfl) ?_;simp only[go_sem,zA,↓reduceIte,↓reduceDIte,zB,zC,zD,zE,zF,zG,zH,zI]
 refine⟨fun h2=>?_,fun h2=>?_⟩;(·obtain⟨x,dE⟩: ∃x,l[k]?=some x:=an (by omega);refine⟨Int.natCast_nonneg _,x,dE,fun hy=>?_,fun hn=>?_⟩;(·(have e:x=(fr,t,ri,ro,c):=by obtain⟨e1,e2,e3,e4,e5⟩:=hy;exact Prod.ext e1 (Prod.ext e2 (Prod.ext e3 (Prod.ext e4 e5))));(have hm:(fr,t,ri,ro,c)∈l.take i:=by rw[←e];refine List.mem_of_getElem? (i:=k) ?_;rw[List.getElem?_take,if_pos (by omega)];exact dE);rw[decide_eq_false (by simpa using hm)];rfl);·refine⟨aw (by omega) (by omega),back _ (k+1) (by refine⟨?_,?_,rfl,rfl⟩<;>repeat' (first|exact trivial|exact Or.inl rfl|exact Or.inr rfl|apply bw|apply bx|apply bz|apply bD|exact⟨(by show(_:Nat)<1000000000;omega),rfl,rfl⟩|rfl|(refine And.intro (Or.inl ?_) ?_)|(refine And.intro ?_ ?_))) ⟨by omega,?_⟩ (by omega)⟩;rw[aY dE,List.mem_append,List.mem_singleton];rintro(h|h);(·exact he h);·subst h;exact hn ⟨rfl,rfl,rfl,rfl,rfl⟩)
 ·(obtain rfl:k=i:=by omega);have hd:decide (¬(fr,t,ri,ro,c)∈List.take k l)=true:=decide_eq_true he;rw[hd];clear back;have d1:=(Uj fr 0 (n-1)).dec;have d2:=(Uj t 0 (n-1)).dec;have d3:=(My ri).dec;have d4:=(yN ro).dec;have d5:=(Uj c 0 1000).dec;have hR:dx n (fr,t,ri,ro,c)=(wJ fr 0 (n-1)&&wJ t 0 (n-1)&&decide (ri.length≤4)&&ri.all low&&decide (ro.length≤4)&&ro.all AX&&wJ c 0 1000):=rfl;rw[hR];generalize ri.all low=b3 at*;generalize ro.all AX=b4 at*;refine⟨aw (by omega) (by omega),?_⟩;(repeat' (first|(with_reducible intro _)|(with_reducible apply And.intro)|(with_reducible refine⟨_,d1,?_⟩;try simp only[go_sem,zA,↓reduceIte,↓reduceDIte,zB,zC,zD,zE,zF,zG,zH,zI])|(with_reducible refine⟨_,d2,?_⟩;try simp only[go_sem,zA,↓reduceIte,↓reduceDIte,zB,zC,zD,zE,zF,zG,zH,zI])|(with_reducible refine⟨_,d3,?_⟩;try simp only[go_sem,zA,↓reduceIte,↓reduceDIte,zB,zC,zD,zE,zF,zG,zH,zI])|(with_reducible refine⟨_,d4,?_⟩;try simp only[go_sem,zA,↓reduceIte,↓reduceDIte,zB,zC,zD,zE,zF,zG,zH,zI])|(with_reducible refine⟨_,d5,?_⟩;try simp only[go_sem,zA,↓reduceIte,↓reduceDIte,zB,zC,zD,zE,zF,zG,zH,zI])|fail));all_goals first|omega|(simp_all;try omega)
end Go.Proofs.YtgpkijnphchkpaaGreat
namespace Go.Proofs.YtgpkijnphchkpaaGreat
attribute[local go_sem←]Bool.decide_and Bool.decide_or decide_not
attribute[local go_sem]Int.reduceEq not_true_eq_false not_false_eq_true false_implies
set_option maxHeartbeats 4000000
set_option maxRecDepth 100000
theorem Mz(s:db)(h:0≤s.1∧s.1≤8):HC env 165 [.iv al s] [] (.aF 7) [(7,.arr .bool (List.replicate s.1.toNat false))]:=by
 obtain⟨n,a,l⟩:=s;dsimp only at h;refine HC.ay (m:=2000) ae a21 rfl rfl rfl rfl (by kernel_rfl) ?_;intro hx kj;simp only[Tryz.f165];simp only[go_sem,zA,↓reduceIte,↓reduceDIte,zB,zC,zD,zE,zF,zG,zH,zI]
 (have e:min (max n 0) 8=n:=by omega);rw[e];exact⟨⟨h.1,Int.le_trans h.2 (by decide)⟩,rfl⟩
def bB(w:Int×Int)(i o:aI):Rl:=(w.1,w.2,i,o,(i.length:Int))
theorem nr(w:Int×Int)(i o:aI):PC env 118 [⟨.st (.pair (.int .i64) (.int .i64)),w⟩,⟨.str,i⟩,⟨.str,o⟩] bn (bB w i o):=by
 obtain⟨w1,w2⟩:=w;refine PC.ay (m:=2000) ae a02 rfl rfl rfl rfl (by kernel_rfl) ?_;intro hx;simp only[Tryz.f118];simp only[go_sem,zA,↓reduceIte,↓reduceDIte,zB,zC,zD,zE,zF,zG,zH,zI]
 rfl
abbrev xL:=List Int×List Int×Int×Int×Int
abbrev Cy:=Int×Int×List xL
def uL(u:Int):aI:=(([97,98,99]:aI).drop (u%3).toNat).take 1
def AY(u:Int):aI:=(([97,98,99,65,66,49]:aI).drop (u%6).toNat).take 1
def dI(x:xL)(n:Int):Rl:=(x.2.2.1%n,x.2.2.2.1%n,(x.1.take 2).flatMap uL,(x.2.1.take 2).flatMap AY,x.2.2.2.2*2)
theorem MA(x:xL)(n:Int)(hn:0<n):PC env 72 [⟨gJ,x⟩,⟨.int .i64,n⟩] bn (dI x n):=by
 obtain⟨xi,xo,xf,xt,xc⟩:=x;refine PC.ay (m:=2000) ae TZ rfl rfl rfl rfl (by kernel_rfl) ?_;intro hx;simp only[Tryz.f72];simp only[go_sem,zA,↓reduceIte,↓reduceDIte,zB,zC,zD,zE,zF,zG,zH,zI]
 have dE: ∀u,u∈xi→0≤u∧u≤255:=fun u hu=>mB (hx.1.1.2 u hu);have hxo: ∀u,u∈xo→0≤u∧u≤255:=fun u hu=>mB (hx.1.2.1.2 u hu);have hli:xi.length≤9223372036854775807:=hx.1.1.1
 have PE:xo.length≤9223372036854775807:=hx.1.2.1.1;have hf:=mB hx.1.2.2.1;have ht:=mB hx.1.2.2.2.1;have hc:=mB hx.1.2.2.2.2;dsimp only at hf ht hc;have t1:Int.tmod xf n=xf%n:=Int.tmod_eq_emod_of_nonneg hf.1
 have t2:Int.tmod xt n=xt%n:=Int.tmod_eq_emod_of_nonneg ht.1;rw[t1,t2];refine⟨hn,hn,aw (by omega) (by omega),?_⟩;(have fin: ∀ {α:Type} {l:List α} {i:Nat} {f:α→aI},¬((i:Int)<2∧(i:Int)<(l.length:Int))→i≤2→i≤l.length→(l.take i).flatMap f=(l.take 2).flatMap f:=by intro α l i f h1 h2 h3;by_cases h:i=2;(·rw[h]);·(have:i=l.length:=by omega);subst this;rw[List.take_of_length_le (Nat.le_refl _),List.take_of_length_le h2])
 (have st: ∀ {l:List Int} {i:Nat} {u:Int} {f:Int→aI},l[i]?=some u→(l.take (i+1)).flatMap f=(l.take i).flatMap f++f u:=by intro l i u f h;rw[aY h,List.flatMap_append];simp)
 (have bu8: ∀u:Int,0≤u→(([97,98,99]:aI).drop (u%3).toNat).take ((u%3+1).toNat-(u%3).toNat)=uL u:=by intro u hu;rw[show(u%3+1).toNat-(u%3).toNat=1 by omega];rfl)
 (have outs: ∀u:Int,0≤u→(([97,98,99,65,66,49]:aI).drop (u%6).toNat).take ((u%6+1).toNat-(u%6).toNat)=AY u:=by intro u hu;rw[show(u%6+1).toNat-(u%6).toNat=1 by omega];rfl)
 (have bu9: ∀u:Int,(uL u).length≤1:=fun u=>by unfold uL;rw[List.length_take];omega);(have ba3: ∀u:Int,(AY u).length≤1:=fun u=>by unfold AY;rw[List.length_take];omega)
 (have bv0: ∀l:List Int,(l.flatMap uL).length≤l.length:=by intro l;induction l with|nil=>simp|cons x l ih=>simp only[List.flatMap_cons,List.length_append,List.length_cons,uL,List.length_take];omega)
 (have bv1: ∀l:List Int,(l.flatMap AY).length≤l.length:=by intro l;induction l with|nil=>simp|cons x l ih=>simp only[List.flatMap_cons,List.length_append,List.length_cons,AY,List.length_take];omega)
 refine ah.bH (X:=Nat) (fun(i:Nat)=>[(6,.iv (.int .i64) (i:Int))]) (fun(i:Nat)=>[(5,.box [.iv (.int .i64) (xf%n),.iv (.int .i64) (xt%n),.iv .str ((xi.take i).flatMap uL),.iv .str ([]:aI),.iv (.int .i64) (xc*2)])]) (fun(i:Nat)=>i≤xi.length∧i≤2) (fun(i:Nat)=>2-i) 0 ?_
 intro b1 b2 bg bu;simp(config:= {maxSteps:=4000000})only[go_sem,zA,↓reduceIte,↓reduceDIte,zB,zC,zD,zE,zF,zG,zH,zI]at bg bu;subst bg;subst bu;refine⟨(by refine⟨?_,?_,rfl,rfl⟩<;>repeat' (first|exact trivial|exact Or.inl rfl|exact Or.inr rfl|apply bw|apply bx|apply bz|apply bD|exact⟨(by show(_:Nat)<1000000000;omega),rfl,rfl⟩|rfl|(refine And.intro (Or.inl ?_) ?_)|(refine And.intro ?_ ?_))),?_,?_⟩
 (·exact⟨Nat.zero_le _,Nat.zero_le _⟩);intro i⟨hi,PZ⟩back;refine av ae ⟨_,TZ,rfl⟩ 2000 _ _ (by kernel_rfl) ?_;simp only[go_sem,zA,↓reduceIte,↓reduceDIte,zB,zC,zD,zE,zF,zG,zH,zI]
 have bv2:bytesOf ⟨#[97,98,99]⟩=([97,98,99]:aI):=rfl;have bv3:bytesOf ⟨#[97,98,99,65,66,49]⟩=([97,98,99,65,66,49]:aI):=rfl;apply ah.a34 (X:=Unit) (fun _=>⟨[(7,.iv (.int .i64) (0:Int)),(5,.ref 5 0),(4,.ref 4 0),(2,.ref 2 0)],[(5,.box [.iv (.int .i64) (xf%n),.iv (.int .i64) (xt%n),.iv .str ((xi.take 2).flatMap uL),.iv .str ([]:aI),.iv (.int .i64) (xc*2)]),(4,.box [.iv (.int .i64) (0:Int),.iv (.int .i64) (0:Int),.iv .str ([]:aI),.iv .str ([]:aI),.iv (.int .i64) (0:Int)]),(2,.box [.iv (.sl (.int .u8)) xi,.iv (.sl (.int .u8)) xo,.iv (.int .u8) xf,.iv (.int .u8) xt,.iv (.int .u8) xc])]⟩) (fun _=>True)
 (·intro key;refine⟨fun g1=>⟨fun g2=>?_,fun g2=>?_⟩,fun g1=>?_⟩;(·obtain⟨u,hu⟩: ∃u,xi[i]?=some u:=an (by omega);have hub:=dE u (List.mem_of_getElem? hu);have tu:Int.tmod u 3=u%3:=Int.tmod_eq_emod_of_nonneg hub.1;have oR:=bv0 (xi.take i);have bv4:=bu9 u;(have bv5:(xi.take i).length=i:=by rw[List.length_take];omega);refine⟨Int.natCast_nonneg _,u,hu,Int.natCast_nonneg _,u,hu,?_⟩;rw[tu,bv2,bu8 u hub.1];refine⟨az6 (by omega) (by omega),⟨by omega,by omega,by show u%3+1≤(3:Int);omega⟩,by omega,aw (by omega) (by omega),?_⟩;refine back _ (i+1) ?_ ⟨by omega,by omega⟩ (by omega);rw[←st hu];exact(by refine⟨?_,?_,rfl,rfl⟩<;>repeat' (first|exact trivial|exact Or.inl rfl|exact Or.inr rfl|apply bw|apply bx|apply bz|apply bD|exact⟨(by show(_:Nat)<1000000000;omega),rfl,rfl⟩|rfl|(refine And.intro (Or.inl ?_) ?_)|(refine And.intro ?_ ?_))));(·refine key _ () trivial ?_;rw[←fin (by omega) PZ hi];exact(by refine⟨?_,?_,rfl,rfl⟩<;>repeat' (first|exact trivial|exact Or.inl rfl|exact Or.inr rfl|apply bw|apply bx|apply bz|apply bD|exact⟨(by show(_:Nat)<1000000000;omega),rfl,rfl⟩|rfl|(refine And.intro (Or.inl ?_) ?_)|(refine And.intro ?_ ?_))));·refine key _ () trivial ?_;rw[←fin (by omega) PZ hi];exact(by refine⟨?_,?_,rfl,rfl⟩<;>repeat' (first|exact trivial|exact Or.inl rfl|exact Or.inr rfl|apply bw|apply bx|apply bz|apply bD|exact⟨(by show(_:Nat)<1000000000;omega),rfl,rfl⟩|rfl|(refine And.intro (Or.inl ?_) ?_)|(refine And.intro ?_ ?_))))
 ·intro _ _;clear back hi PZ;refine ah.bH (X:=Nat) (fun(i:Nat)=>[(7,.iv (.int .i64) (i:Int))]) (fun(i:Nat)=>[(5,.box [.iv (.int .i64) (xf%n),.iv (.int .i64) (xt%n),.iv .str ((xi.take 2).flatMap uL),.iv .str ((xo.take i).flatMap AY),.iv (.int .i64) (xc*2)])]) (fun(i:Nat)=>i≤xo.length∧i≤2) (fun(i:Nat)=>2-i) 0 ?_;intro b1 b2 bg bu;simp(config:= {maxSteps:=4000000})only[go_sem,zA,↓reduceIte,↓reduceDIte,zB,zC,zD,zE,zF,zG,zH,zI]at bg bu;subst bg;subst bu;refine⟨(by refine⟨?_,?_,rfl,rfl⟩<;>repeat' (first|exact trivial|exact Or.inl rfl|exact Or.inr rfl|apply bw|apply bx|apply bz|apply bD|exact⟨(by show(_:Nat)<1000000000;omega),rfl,rfl⟩|rfl|(refine And.intro (Or.inl ?_) ?_)|(refine And.intro ?_ ?_))),?_,?_⟩;(·exact⟨Nat.zero_le _,Nat.zero_le _⟩);intro i⟨hi,PZ⟩back;refine av ae ⟨_,TZ,rfl⟩ 2000 _ _ (by kernel_rfl) ?_;simp only[go_sem,zA,↓reduceIte,↓reduceDIte,zB,zC,zD,zE,zF,zG,zH,zI];refine⟨fun g1=>⟨fun g2=>?_,fun g2=>?_⟩,fun g1=>?_⟩;(·obtain⟨u,hu⟩: ∃u,xo[i]?=some u:=an (by omega);have hub:=hxo u (List.mem_of_getElem? hu);have tu:Int.tmod u 6=u%6:=Int.tmod_eq_emod_of_nonneg hub.1;have oR:=bv1 (xo.take i);have bv4:=ba3 u;(have bv5:(xo.take i).length=i:=by rw[List.length_take];omega);refine⟨Int.natCast_nonneg _,u,hu,Int.natCast_nonneg _,u,hu,?_⟩;rw[tu,bv3,outs u hub.1];refine⟨az6 (by omega) (by omega),⟨by omega,by omega,by show u%6+1≤(6:Int);omega⟩,by omega,aw (by omega) (by omega),?_⟩;refine back _ (i+1) ?_ ⟨by omega,by omega⟩ (by omega);rw[←st hu];exact(by refine⟨?_,?_,rfl,rfl⟩<;>repeat' (first|exact trivial|exact Or.inl rfl|exact Or.inr rfl|apply bw|apply bx|apply bz|apply bD|exact⟨(by show(_:Nat)<1000000000;omega),rfl,rfl⟩|rfl|(refine And.intro (Or.inl ?_) ?_)|(refine And.intro ?_ ?_))));(·rw[fin (by omega) PZ hi];rfl);·rw[fin (by omega) PZ hi];rfl
def bL(k:Int):db:=if k%6=0 then(1,1,[bB (0,0) [97] [97],bB (0,0) [98] [98],bB (0,0) [99] [99]])else if k%6=1 then(1,1,[bB (0,0) [97] [65],bB (0,0) [98,97] [66],bB (0,0) [99,97] [67],bB (0,0) [98] [98]])else if k%6=2 then(2,1,[bB (0,1) [99] [],bB (1,0) [97] [65],bB (1,0) [98] [66],bB (0,0) [97] [97],bB (0,0) [98] [98]])else if k%6=3 then(1,1,[bB (0,0) [97] [97],bB (0,0) [98] [98],bB (0,0) [97,98] [97,98,99,49],bB (0,0) [99] [99]])else if k%6=4 then(1,1,[bB (0,0) [97] [97],(0,0,[98],[98],0),(0,0,[99],[98],7),(0,0,[98],[99],9)])else(1,1,[bB (0,0) [97] [97],bB (0,0) [97] [65],bB (0,0) [97,97] [66],bB (0,0) [98] [98],(0,0,[98],[],20)])
theorem ap6(k:Int)(k0:k%6=0):HC env 71 [.iv (.int .u8) k] [] (.agg [.iv (.int .i64) (bL k).1,.iv (.int .u8) (bL k).2.1,.aF 1000]) [(1000,.arr bn (bL k).2.2)]:=by
 (have e:bL k=(1,1,[bB (0,0) [97] [97],bB (0,0) [98] [98],bB (0,0) [99] [99]]):=by unfold bL;rw[if_pos k0]);rw[e];clear e;(have h:HC env 71 [.iv (.int .u8) k] [] (.agg [.iv (.int .i64) (1:Int),.iv (.int .u8) (1:Int),.aF 28]) [(28,.arr bn ((1,1,[bB (0,0) [97] [97],bB (0,0) [98] [98],bB (0,0) [99] [99]]):db).2.2)]:=by refine HC.ay (m:=2000) ae Dz rfl rfl rfl rfl (by kernel_rfl) ?_;intro hx kj;simp only[Tryz.f71];simp only[go_sem,zA,↓reduceIte,↓reduceDIte,zB,zC,zD,zE,zF,zG,zH,zI];have hk:=mB hx.1;have t1:Int.tmod k 6=k%6:=Int.tmod_eq_emod_of_nonneg hk.1;rw[t1];(repeat' (first|(with_reducible intro _)|(with_reducible apply And.intro)|(with_reducible refine⟨_,nr _ _ _,?_⟩;try simp only[go_sem,zA,↓reduceIte,↓reduceDIte,zB,zC,zD,zE,zF,zG,zH,zI])|fail));all_goals first|(exfalso;omega)|rfl)
 exact h.ef [(28,1000),(1000,28)] rfl
theorem ap7(k:Int)(n0: ¬k%6=0)(k1:k%6=1):HC env 71 [.iv (.int .u8) k] [] (.agg [.iv (.int .i64) (bL k).1,.iv (.int .u8) (bL k).2.1,.aF 1000]) [(1000,.arr bn (bL k).2.2)]:=by
 (have e:bL k=(1,1,[bB (0,0) [97] [65],bB (0,0) [98,97] [66],bB (0,0) [99,97] [67],bB (0,0) [98] [98]]):=by unfold bL;rw[if_neg n0,if_pos k1]);rw[e];clear e;(have h:HC env 71 [.iv (.int .u8) k] [] (.agg [.iv (.int .i64) (1:Int),.iv (.int .u8) (1:Int),.aF 40]) [(40,.arr bn ((1,1,[bB (0,0) [97] [65],bB (0,0) [98,97] [66],bB (0,0) [99,97] [67],bB (0,0) [98] [98]]):db).2.2)]:=by refine HC.ay (m:=2000) ae Dz rfl rfl rfl rfl (by kernel_rfl) ?_;intro hx kj;simp only[Tryz.f71];simp only[go_sem,zA,↓reduceIte,↓reduceDIte,zB,zC,zD,zE,zF,zG,zH,zI];have hk:=mB hx.1;have t1:Int.tmod k 6=k%6:=Int.tmod_eq_emod_of_nonneg hk.1;rw[t1];(repeat' (first|(with_reducible intro _)|(with_reducible apply And.intro)|(with_reducible refine⟨_,nr _ _ _,?_⟩;try simp only[go_sem,zA,↓reduceIte,↓reduceDIte,zB,zC,zD,zE,zF,zG,zH,zI])|fail));all_goals first|(exfalso;omega)|rfl)
 exact h.ef [(40,1000),(1000,40)] rfl
theorem ap8(k:Int)(n0: ¬k%6=0)(n1: ¬k%6=1)(k2:k%6=2):HC env 71 [.iv (.int .u8) k] [] (.agg [.iv (.int .i64) (bL k).1,.iv (.int .u8) (bL k).2.1,.aF 1000]) [(1000,.arr bn (bL k).2.2)]:=by
 (have e:bL k=(2,1,[bB (0,1) [99] [],bB (1,0) [97] [65],bB (1,0) [98] [66],bB (0,0) [97] [97],bB (0,0) [98] [98]]):=by unfold bL;rw[if_neg n0,if_neg n1,if_pos k2])
 rw[e];clear e;(have h:HC env 71 [.iv (.int .u8) k] [] (.agg [.iv (.int .i64) (2:Int),.iv (.int .u8) (1:Int),.aF 54]) [(54,.arr bn ((2,1,[bB (0,1) [99] [],bB (1,0) [97] [65],bB (1,0) [98] [66],bB (0,0) [97] [97],bB (0,0) [98] [98]]):db).2.2)]:=by refine HC.ay (m:=2000) ae Dz rfl rfl rfl rfl (by kernel_rfl) ?_;intro hx kj;simp only[Tryz.f71];simp only[go_sem,zA,↓reduceIte,↓reduceDIte,zB,zC,zD,zE,zF,zG,zH,zI];have hk:=mB hx.1;have t1:Int.tmod k 6=k%6:=Int.tmod_eq_emod_of_nonneg hk.1;rw[t1];(repeat' (first|(with_reducible intro _)|(with_reducible apply And.intro)|(with_reducible refine⟨_,nr _ _ _,?_⟩;try simp only[go_sem,zA,↓reduceIte,↓reduceDIte,zB,zC,zD,zE,zF,zG,zH,zI])|fail));all_goals first|(exfalso;omega)|rfl)
 exact h.ef [(54,1000),(1000,54)] rfl
theorem ap9(k:Int)(n0: ¬k%6=0)(n1: ¬k%6=1)(n2: ¬k%6=2)(k3:k%6=3):HC env 71 [.iv (.int .u8) k] [] (.agg [.iv (.int .i64) (bL k).1,.iv (.int .u8) (bL k).2.1,.aF 1000]) [(1000,.arr bn (bL k).2.2)]:=by
 (have e:bL k=(1,1,[bB (0,0) [97] [97],bB (0,0) [98] [98],bB (0,0) [97,98] [97,98,99,49],bB (0,0) [99] [99]]):=by unfold bL;rw[if_neg n0,if_neg n1,if_neg n2,if_pos k3])
 rw[e];clear e;(have h:HC env 71 [.iv (.int .u8) k] [] (.agg [.iv (.int .i64) (1:Int),.iv (.int .u8) (1:Int),.aF 66]) [(66,.arr bn ((1,1,[bB (0,0) [97] [97],bB (0,0) [98] [98],bB (0,0) [97,98] [97,98,99,49],bB (0,0) [99] [99]]):db).2.2)]:=by refine HC.ay (m:=2000) ae Dz rfl rfl rfl rfl (by kernel_rfl) ?_;intro hx kj;simp only[Tryz.f71];simp only[go_sem,zA,↓reduceIte,↓reduceDIte,zB,zC,zD,zE,zF,zG,zH,zI];have hk:=mB hx.1;have t1:Int.tmod k 6=k%6:=Int.tmod_eq_emod_of_nonneg hk.1;rw[t1];(repeat' (first|(with_reducible intro _)|(with_reducible apply And.intro)|(with_reducible refine⟨_,nr _ _ _,?_⟩;try simp only[go_sem,zA,↓reduceIte,↓reduceDIte,zB,zC,zD,zE,zF,zG,zH,zI])|fail));all_goals first|(exfalso;omega)|rfl)
 exact h.ef [(66,1000),(1000,66)] rfl
theorem aq0(k:Int)(n0: ¬k%6=0)(n1: ¬k%6=1)(n2: ¬k%6=2)(n3: ¬k%6=3)(k4:k%6=4):HC env 71 [.iv (.int .u8) k] [] (.agg [.iv (.int .i64) (bL k).1,.iv (.int .u8) (bL k).2.1,.aF 1000]) [(1000,.arr bn (bL k).2.2)]:=by
 (have e:bL k=(1,1,[bB (0,0) [97] [97],(0,0,[98],[98],0),(0,0,[99],[98],7),(0,0,[98],[99],9)]):=by unfold bL;rw[if_neg n0,if_neg n1,if_neg n2,if_neg n3,if_pos k4])
 rw[e];clear e;(have h:HC env 71 [.iv (.int .u8) k] [] (.agg [.iv (.int .i64) (1:Int),.iv (.int .u8) (1:Int),.aF 75]) [(75,.arr bn ((1,1,[bB (0,0) [97] [97],(0,0,[98],[98],0),(0,0,[99],[98],7),(0,0,[98],[99],9)]):db).2.2)]:=by refine HC.ay (m:=2000) ae Dz rfl rfl rfl rfl (by kernel_rfl) ?_;intro hx kj;simp only[Tryz.f71];simp only[go_sem,zA,↓reduceIte,↓reduceDIte,zB,zC,zD,zE,zF,zG,zH,zI];have hk:=mB hx.1;have t1:Int.tmod k 6=k%6:=Int.tmod_eq_emod_of_nonneg hk.1;rw[t1];(repeat' (first|(with_reducible intro _)|(with_reducible apply And.intro)|(with_reducible refine⟨_,nr _ _ _,?_⟩;try simp only[go_sem,zA,↓reduceIte,↓reduceDIte,zB,zC,zD,zE,zF,zG,zH,zI])|fail));all_goals first|(exfalso;omega)|rfl)
 exact h.ef [(75,1000),(1000,75)] rfl
theorem aq1(k:Int)(n0: ¬k%6=0)(n1: ¬k%6=1)(n2: ¬k%6=2)(n3: ¬k%6=3)(n4: ¬k%6=4):HC env 71 [.iv (.int .u8) k] [] (.agg [.iv (.int .i64) (bL k).1,.iv (.int .u8) (bL k).2.1,.aF 1000]) [(1000,.arr bn (bL k).2.2)]:=by
 (have e:bL k=(1,1,[bB (0,0) [97] [97],bB (0,0) [97] [65],bB (0,0) [97,97] [66],bB (0,0) [98] [98],(0,0,[98],[],20)]):=by unfold bL;rw[if_neg n0,if_neg n1,if_neg n2,if_neg n3,if_neg n4])
 rw[e];clear e;(have h:HC env 71 [.iv (.int .u8) k] [] (.agg [.iv (.int .i64) (1:Int),.iv (.int .u8) (1:Int),.aF 18]) [(18,.arr bn ((1,1,[bB (0,0) [97] [97],bB (0,0) [97] [65],bB (0,0) [97,97] [66],bB (0,0) [98] [98],(0,0,[98],[],20)]):db).2.2)]:=by refine HC.ay (m:=2000) ae Dz rfl rfl rfl rfl (by kernel_rfl) ?_;intro hx kj;simp only[Tryz.f71];simp only[go_sem,zA,↓reduceIte,↓reduceDIte,zB,zC,zD,zE,zF,zG,zH,zI];have hk:=mB hx.1;have t1:Int.tmod k 6=k%6:=Int.tmod_eq_emod_of_nonneg hk.1;rw[t1];(repeat' (first|(with_reducible intro _)|(with_reducible apply And.intro)|(with_reducible refine⟨_,nr _ _ _,?_⟩;try simp only[go_sem,zA,↓reduceIte,↓reduceDIte,zB,zC,zD,zE,zF,zG,zH,zI])|fail));all_goals first|(exfalso;omega)|rfl)
 exact h.ef [(18,1000),(1000,18)] rfl
theorem a35(k:Int):HC env 71 [.iv (.int .u8) k] [] (.agg [.iv (.int .i64) (bL k).1,.iv (.int .u8) (bL k).2.1,.aF 1000]) [(1000,.arr bn (bL k).2.2)]:=by
 by_cases h0:k%6=0;(·exact ap6 k h0);by_cases h1:k%6=1;(·exact ap7 k h0 h1);by_cases h2:k%6=2;(·exact ap8 k h0 h1 h2);by_cases h3:k%6=3;(·exact ap9 k h0 h1 h2 h3)
 by_cases h4:k%6=4;(·exact aq0 k h0 h1 h2 h3 h4);exact aq1 k h0 h1 h2 h3 h4
end Go.Proofs.YtgpkijnphchkpaaGreat
namespace Go.Proofs.YtgpkijnphchkpaaGreat
attribute[local go_sem←]Bool.decide_and Bool.decide_or decide_not
attribute[local go_sem]Int.reduceEq not_true_eq_false not_false_eq_true false_implies List.append_assoc
set_option maxHeartbeats 4000000
set_option maxRecDepth 100000
def iw(n:Int)(rs:List Rl)(r:Rl):List Rl:=if eK n (rs++ [r]) rs.length=true then rs++ [r]else rs
def eD(n:Int):List xL→List Rl→List Rl|[],out=>out|y::ys,out=>eD n ys (iw n out (dI y n))
def fZ(x:Cy):db:=((bL x.1).1,(bL x.1).2.1,eD (bL x.1).1 (x.2.2.take 4) ((bL x.1).2.2.drop (x.2.1%2).toNat))
theorem ry(k:Int):((bL k).1=1∨(bL k).1=2)∧(bL k).2.1=1∧3≤(bL k).2.2.length∧(bL k).2.2.length≤5:=by unfold bL;(repeat' split);all_goals decide
theorem OK(n:Int)(rs:List Rl)(r:Rl):rs.length≤(iw n rs r).length∧(iw n rs r).length≤rs.length+1:=by unfold iw;split<;>simp
def bl6(id:Nat)(p:PV)(xs view:List Rl):Prop:=(p= .aF id∧view=xs)∨ ∃off len,p= .jI id 5 off len∧view=(xs.drop off).take len∧off+len≤xs.length∧off<xs.length
theorem aq2(x:Cy):PC env 34 [⟨lL,x⟩] al (fZ x):=by
 obtain⟨xb,xd,xm⟩:=x;refine PC.ay (m:=2000) ae TX rfl rfl rfl rfl (by kernel_rfl) ?_;intro hx;simp only[Tryz.f34];simp only[go_sem,zA,↓reduceIte,↓reduceDIte,zB,zC,zD,zE,zF,zG,zH,zI]
 refine⟨_,_,a35 xb,rfl,?_⟩;simp only[go_sem,zA,↓reduceIte,↓reduceDIte,zB,zC,zD,zE,zF,zG,zH,zI];have hxd:=mB hx.1.2.1;have N8:xm.length≤9223372036854775807:=hx.1.2.2.1
 dsimp only at hxd;have t1:Int.tmod xd 2=xd%2:=Int.tmod_eq_emod_of_nonneg hxd.1;rw[t1];have hbf:=ry xb;generalize hB:bL xb=B at hbf;obtain⟨n,a,rs⟩:=B;dsimp only at hbf⊢
 (have hnn:0<n:=by omega);have rS:((rs.drop (xd%2).toNat).take (rs.length-(xd%2).toNat))=rs.drop (xd%2).toNat:=List.take_of_length_le (by rw[List.length_drop];omega)
 have hlr:(rs.drop (xd%2).toNat).length=rs.length-(xd%2).toNat:=List.length_drop ..;(have hE:fZ (xb,xd,xm)=(n,a,eD n (xm.take 4) (rs.drop (xd%2).toNat)):=by unfold fZ;dsimp only;rw[hB])
 rw[hE];clear hE;intro _;refine⟨⟨by omega,by omega⟩,?_⟩;refine ah.bH (X:=Nat×PV×List Rl×List Rl) (fun(z:Nat×PV×List Rl×List Rl)=>[(4,.iv (.int .i64) (z.1:Int)),(7,.any),(9,.any),(14,.any)]) (fun(z:Nat×PV×List Rl×List Rl)=>[(3,.box [.iv (.int .i64) n,.iv (.int .u8) a,z.2.1]),(801000,.arr bn z.2.2.1)]) (fun(z:Nat×PV×List Rl×List Rl)=>bl6 801000 z.2.1 z.2.2.1 z.2.2.2∧z.1≤xm.length∧z.1≤4∧z.2.2.2.length≤5+z.1∧1≤z.2.2.2.length∧eD n ((xm.take 4).drop z.1) z.2.2.2=eD n (xm.take 4) (rs.drop (xd%2).toNat)) (fun(z:Nat×PV×List Rl×List Rl)=>4-z.1) (0,.jI 801000 5 (xd%2).toNat (rs.length-(xd%2).toNat),rs,rs.drop (xd%2).toNat) ?_
 intro b1 b2 bg bu;simp(config:= {maxSteps:=4000000})only[go_sem,zA,↓reduceIte,↓reduceDIte,zB,zC,zD,zE,zF,zG,zH,zI]at bg bu;subst bg;subst bu;refine⟨(by refine⟨?_,?_,rfl,rfl⟩<;>repeat' (first|exact trivial|exact Or.inl rfl|exact Or.inr rfl|apply bw|apply bx|apply bz|apply bD|exact⟨(by show(_:Nat)<1000000000;omega),rfl,rfl⟩|rfl|(refine And.intro (Or.inl ?_) ?_)|(refine And.intro ?_ ?_))),?_,?_⟩
 (·exact⟨Or.inr ⟨_,_,rfl,rS.symm,by dsimp only;omega,by dsimp only;omega⟩,Nat.zero_le _,Nat.zero_le _,by show(rs.drop _).length≤_;omega,by show 1≤(rs.drop _).length;omega,rfl⟩)
 generalize eD n (xm.take 4) (rs.drop (xd%2).toNat)=R;intro⟨i,p,xs,out⟩⟨MB,hi,hi4,PE,vT,hR⟩back;dsimp only at MB hi hi4 PE vT hR;(have done: ¬(i<xm.length∧i<4)→out=R:=fun h=>by have:(xm.take 4).drop i=[]:=List.drop_of_length_le (by rw[List.length_take];omega);rw[this]at hR;exact hR)
 rcases MB with⟨rfl,rfl⟩|⟨off,len,rfl,hv,ho1,QE⟩;(·refine av ae ⟨_,TX,rfl⟩ 2000 _ _ (by kernel_rfl) ?_;simp only[go_sem,zA,↓reduceIte,↓reduceDIte,zB,zC,zD,zE,zF,zG,zH,zI];refine⟨fun g1=>⟨fun g2=>?_,fun g2=>?_⟩,fun g1=>?_⟩;(·obtain⟨y,hy⟩: ∃y,xm[i]?=some y:=an (by omega);refine⟨Int.natCast_nonneg _,y,hy,_,MA y n hnn,fun _=>⟨by omega,?_⟩⟩;(have e1:((out++ [dI y n]).length:Int)-1=(out.length:Int):=by simp only[List.length_append,List.length_cons,List.length_nil];omega);rw[e1];refine⟨aw (by omega) (by omega),_,(uK (n,a,out++ [dI y n]) out.length (by dsimp only;omega) (by simp)).dec,?_⟩;simp only[go_sem,zA,↓reduceIte,↓reduceDIte,zB,zC,zD,zE,zF,zG,zH,zI];(have hd:(xm.take 4)[i]?=some y:=by rw[List.getElem?_take,if_pos (by omega)];exact hy);rw[drop_cons hd]at hR;refine⟨fun g3=>?_,fun g3=>?_⟩;(·have e3:iw n out (dI y n)=out:=if_neg g3;rw[e1];refine⟨aw (by omega) (by omega),⟨by omega,by simp only[List.length_append,List.length_cons,List.length_nil];omega⟩,aw (by omega) (by omega),?_⟩;refine back _ (i+1,.jI 801000 5 0 ((out.length:Int).toNat-0),out++ [dI y n],out) ?_ ⟨Or.inr ⟨_,_,rfl,by simp,by simp,by simp⟩,by dsimp only;omega,by dsimp only;omega,by dsimp only;omega,vT,?_⟩ (by dsimp only;omega);(·exact(by refine⟨?_,?_,rfl,rfl⟩<;>repeat' (first|exact trivial|exact Or.inl rfl|exact Or.inr rfl|apply bw|apply bx|apply bz|apply bD|exact⟨(by show(_:Nat)<1000000000;omega),rfl,rfl⟩|rfl|(refine And.intro (Or.inl ?_) ?_)|(refine And.intro ?_ ?_))));·dsimp only;have:eD n (y::(xm.take 4).drop (i+1)) out=eD n ((xm.take 4).drop (i+1)) (iw n out (dI y n)):=rfl;rw[this,e3]at hR;exact hR);·have e3:iw n out (dI y n)=out++ [dI y n]:=if_pos g3;refine⟨aw (by omega) (by omega),?_⟩;refine back _ (i+1,.aF 801000,out++ [dI y n],out++ [dI y n]) ?_ ⟨Or.inl ⟨rfl,rfl⟩,by dsimp only;omega,by dsimp only;omega,by simp only[List.length_append,List.length_cons,List.length_nil];omega,by simp,?_⟩ (by dsimp only;omega);(·exact(by refine⟨?_,?_,rfl,rfl⟩<;>repeat' (first|exact trivial|exact Or.inl rfl|exact Or.inr rfl|apply bw|apply bx|apply bz|apply bD|exact⟨(by show(_:Nat)<1000000000;omega),rfl,rfl⟩|rfl|(refine And.intro (Or.inl ?_) ?_)|(refine And.intro ?_ ?_))));·dsimp only;have:eD n (y::(xm.take 4).drop (i+1)) out=eD n ((xm.take 4).drop (i+1)) (iw n out (dI y n)):=rfl;rw[this,e3]at hR;exact hR);(·rw[done (by omega)]);·rw[done (by omega)])
 ·refine av ae ⟨_,TX,rfl⟩ 2000 _ _ (by kernel_rfl) ?_;simp only[go_sem,zA,↓reduceIte,↓reduceDIte,zB,zC,zD,zE,zF,zG,zH,zI];(have hlen:len=out.length:=by rw[hv,List.length_take,List.length_drop];omega);rw[←hv];refine⟨fun g1=>⟨fun g2=>?_,fun g2=>?_⟩,fun g1=>?_⟩;(·obtain⟨y,hy⟩: ∃y,xm[i]?=some y:=an (by omega);refine⟨Int.natCast_nonneg _,y,hy,_,MA y n hnn,fun _=>⟨⟨.inl QE,by omega⟩,?_⟩⟩;(have e1:((out++ [dI y n]).length:Int)-1=(out.length:Int):=by simp only[List.length_append,List.length_cons,List.length_nil];omega);rw[e1];refine⟨aw (by omega) (by omega),_,(uK (n,a,out++ [dI y n]) out.length (by dsimp only;omega) (by simp)).dec,?_⟩;simp only[go_sem,zA,↓reduceIte,↓reduceDIte,zB,zC,zD,zE,zF,zG,zH,zI];(have hd:(xm.take 4)[i]?=some y:=by rw[List.getElem?_take,if_pos (by omega)];exact hy);rw[drop_cons hd]at hR;refine⟨fun g3=>?_,fun g3=>?_⟩;(·have e3:iw n out (dI y n)=out:=if_neg g3;rw[e1];refine⟨aw (by omega) (by omega),⟨by omega,by simp only[List.length_append,List.length_cons,List.length_nil];omega⟩,aw (by omega) (by omega),?_⟩;refine back _ (i+1,.jI 801000 5 0 ((out.length:Int).toNat-0),out++ [dI y n],out) ?_ ⟨Or.inr ⟨_,_,rfl,by simp,by simp,by simp⟩,by dsimp only;omega,by dsimp only;omega,by dsimp only;omega,vT,?_⟩ (by dsimp only;omega);(·exact(by refine⟨?_,?_,rfl,rfl⟩<;>repeat' (first|exact trivial|exact Or.inl rfl|exact Or.inr rfl|apply bw|apply bx|apply bz|apply bD|exact⟨(by show(_:Nat)<1000000000;omega),rfl,rfl⟩|rfl|(refine And.intro (Or.inl ?_) ?_)|(refine And.intro ?_ ?_))));·dsimp only;have:eD n (y::(xm.take 4).drop (i+1)) out=eD n ((xm.take 4).drop (i+1)) (iw n out (dI y n)):=rfl;rw[this,e3]at hR;exact hR);·have e3:iw n out (dI y n)=out++ [dI y n]:=if_pos g3;refine⟨aw (by omega) (by omega),?_⟩;refine back _ (i+1,.aF 801000,out++ [dI y n],out++ [dI y n]) ?_ ⟨Or.inl ⟨rfl,rfl⟩,by dsimp only;omega,by dsimp only;omega,by simp only[List.length_append,List.length_cons,List.length_nil];omega,by simp,?_⟩ (by dsimp only;omega);(·exact(by refine⟨?_,?_,rfl,rfl⟩<;>repeat' (first|exact trivial|exact Or.inl rfl|exact Or.inr rfl|apply bw|apply bx|apply bz|apply bD|exact⟨(by show(_:Nat)<1000000000;omega),rfl,rfl⟩|rfl|(refine And.intro (Or.inl ?_) ?_)|(refine And.intro ?_ ?_))));·dsimp only;have:eD n (y::(xm.take 4).drop (i+1)) out=eD n ((xm.take 4).drop (i+1)) (iw n out (dI y n)):=rfl;rw[this,e3]at hR;exact hR);(·rw[done (by omega)]);·rw[done (by omega)]
end Go.Proofs.YtgpkijnphchkpaaGreat
