/- Contracts: made schemes. Nothing here is trusted; no condition. -/
import Derived.Test.YtgpkijnphchkpaaGreatA9
import Derived.Test.YtgpkijnphchkpaaGreatProg
set_option linter.unusedSimpArgs false
set_option linter.unusedVariables false
open Nat renaming reduceBEq→zA,reduceAdd→zB,reduceSub→zC,reduceMul→zD,reduceLeDiff→zE
open Int renaming reduceLT→zF,reduceLE→zG,reduceToNat→zH,reduceNeg→zI
namespace Go.Proofs.YtgpkijnphchkpaaGreat
theorem br {α:Sort _} {x:α} {B C:Prop} (h:C):(x=x∨B)∧C:=⟨.inl rfl,h⟩
theorem bt {α:Sort _} {x:α} {A B C:Prop} (h:C):(A∨x=x∨B)∧C:=⟨.inr (.inl rfl),h⟩
theorem bu {α β:Sort _} {x:α} {y:β} {A B D C:Prop} (h:C):(A∨B∨D∨x=x∧y=y)∧C:=⟨.inr (.inr (.inr ⟨rfl,rfl⟩)),h⟩
theorem bA {α β:Sort _} {x:α} {y:β} {A B D C:Prop} (h:C):(A∨B∨(x=x∧y=y∧True)∨D)∧C:=⟨.inr (.inr (.inl ⟨rfl,rfl,trivial⟩)),h⟩
end Go.Proofs.YtgpkijnphchkpaaGreat
namespace Go.Proofs.YtgpkijnphchkpaaGreat
set_option maxRecDepth 100000
abbrev ki:Ty:=(.st (.pair (.int .i64) (.pair (.int .i64) (.pair .bool (.int .u8)))))
abbrev eA:Ty:=(.st (.pair .str (.int .u64)))
abbrev gz:Ty:=(.st (.pair (.sl (.int .u8)) (.pair (.sl (.int .u8)) (.pair (.int .u8) (.pair (.int .u8) (.int .u8))))))
abbrev lg:Ty:=(.st (.pair (.int .u8) (.pair (.int .u8) (.sl gz))))
abbrev eN:Ty:=(.st (.pair (.int .u8) (.pair (.int .u8) (.pair (.int .u8) (.pair (.int .u8) (.pair (.int .u8) (.int .u8)))))))
abbrev bg:Ty:=(.st (.pair (.int .i64) (.pair (.int .i64) (.pair .str (.pair .str (.int .i64))))))
abbrev al:Ty:=(.st (.pair (.int .i64) (.pair (.int .u8) (.sl bg))))
abbrev nC:Ty:=(.st (.pair (.int .i64) (.int .i64)))
abbrev bM:Ty:=(.st (.pair (.int .i64) (.pair .str (.pair (.sl nC) (.pair .str (.pair (.int .i64) (.int .i64)))))))
abbrev cR:Ty:=(.st (.pair (.int .u8) (.int .i64)))
abbrev uZ:Ty:=(.st (.pair (.int .i64) (.pair (.int .i64) (.int .i64))))
abbrev gA:Ty:=(.st (.pair (.sl bM) (.pair (.sl (.sl cR)) (.pair (.int .i64) (.pair (.sl uZ) (.int .i64))))))
abbrev aq:Ty:=(.st (.pair (.int .i64) (.pair (.int .i64) (.pair (.int .i64) (.pair .str (.pair (.int .i64) (.int .i64)))))))
abbrev au:Ty:=(.st (.pair (.int .i64) (.pair (.int .i64) (.pair (.int .i64) (.pair (.int .i64) (.pair .str (.pair (.int .i64) (.int .i64))))))))
abbrev cd:Ty:=(.st (.pair (.sl aq) (.pair (.sl au) (.st (.pair (.int .i64) (.pair (.int .i64) (.pair (.int .i64) (.pair (.int .i64) (.pair (.int .i64) (.pair (.int .i64) (.pair (.int .i64) (.int .i64))))))))))))
abbrev BV:Ty:=(.st (.pair (.int .i64) (.int .i64)))
abbrev nD:Ty:=(.st (.pair cd (.pair (.int .i64) (.int .i64))))
abbrev fO:Ty:=(.st (.pair .aD .aD))
abbrev bY:Ty:=(.st (.pair (.int .i64) (.int .i64)))
abbrev u3:Ty:=(.st (.pair (.int .i64) (.int .i64)))
abbrev aA:Ty:=(.st (.pair (.int .i64) (.int .i64)))
abbrev DD:Ty:=(.st (.pair al (.pair .aD (.pair .aD (.int .i64)))))
abbrev dc:Ty:=(.st (.pair .str (.int .i64)))
abbrev iW:Ty:=(.st (.pair (.int .i64) (.pair (.int .i64) (.int .u8))))
abbrev eX:Ty:=(.st (.pair iW (.int .i64)))
abbrev eo:Ty:=(.st (.pair (.int .i64) (.int .i64)))
abbrev hZ:Ty:=(.st (.pair eo .bool))
abbrev gJ:Ty:=(.st (.pair al (.pair .str (.mp eX hZ))))
abbrev bp:Ty:=(.st (.pair iW .str))
abbrev aT:Ty:=(.st (.pair (.sl (.int .u8)) (.pair .bool (.pair eo (.mp bp (.int .i64))))))
abbrev xe:Ty:=(.st (.pair al (.pair .str (.sl dc))))
abbrev fp:Ty:=(.st (.pair (.int .i64) (.int .i64)))
def AO:List (Nat×Ty):=[(1,.aD),(2,(.int .i64)),(3,(.int .i64)),(4,.bool),(5,(.int .u8)),(6,(.int .u8)),(7,ki),(8,ki),(9,.str),(10,.str),(11,.str),(12,(.int .u64)),(13,eA),(14,eA),(21,(.int .i32)),(22,(.sl gz)),(23,lg),(24,lg),(25,(.sl (.sl (.int .u8)))),(26,(.sl eN)),(27,.aD),(28,(.sl bg)),(29,al),(30,al),(31,.aD),(32,(.sl .str)),(33,.aD),(34,(.sl bM)),(35,(.sl (.sl cR))),(36,(.sl uZ)),(37,gA),(38,gA),(39,(.int .i64)),(41,.aD),(43,.aD),(44,.aD),(45,(.sl aq)),(46,(.sl au)),(47,(.st (.pair (.int .i64) (.pair (.int .i64) (.pair (.int .i64) (.pair (.int .i64) (.pair (.int .i64) (.pair (.int .i64) (.pair (.int .i64) (.int .i64)))))))))),(48,cd),(49,cd),(50,.aD),(51,(.sl (.int .i64))),(52,eN),(53,eN),(54,BV),(55,BV),(57,.aD),(58,.aD),(59,.aD),(60,.aD),(61,.aD),(62,(.sl cR)),(63,(.sl cR)),(64,cR),(65,cR),(66,(.sl (.int .u8))),(67,(.sl nC)),(68,bM),(69,bM),(70,uZ),(71,uZ),(72,.aD),(73,.aD),(74,(.st (.pair (.int .u8) (.int .u8)))),(76,.aD),(77,.aD),(78,aq),(79,aq),(80,.aD),(81,.aD),(82,.aD),(83,.aD),(84,.aD),(85,.aD),(86,.aD),(87,.aD),(88,.aD),(89,.aD),(90,.aD),(91,nD),(92,nD),(93,.aD),(94,bg),(95,bg),(96,.aD),(97,.aD),(98,.aD),(100,.aD),(102,.aD),(103,.aD),(104,.aD),(105,au),(106,au),(107,.aD),(108,.aD),(109,.aD),(110,(.mp (.int .i64) fO)),(111,.aD),(112,.aD),(113,.aD),(114,.aD),(115,.aD),(116,.aD),(117,.aD),(118,.aD),(120,.aD),(121,bY),(122,bY),(124,.aD),(125,u3),(126,u3),(127,.aD),(128,.aD),(129,.aD),(130,.aD),(131,aA),(132,aA),(133,.aD),(134,.aD),(135,.aD),(136,DD),(137,DD),(138,(.mp aA (.int .i64))),(140,.aD),(141,.aD),(142,.aD),(143,.aD),(144,.aD),(145,.aD),(146,gz),(147,gz),(148,.aD),(149,(.sl dc)),(151,.aD),(152,dc),(153,dc),(154,.aD),(155,.aD),(156,.aD),(157,.aD),(158,.aD),(159,.aD),(160,.aD),(161,.aD),(162,.aD),(163,.aD),(164,fO),(165,fO),(167,.aD),(168,.aD),(169,.aD),(170,.aD),(171,.aD),(172,.aD),(173,(.int .i64)),(174,.aD),(175,.aD),(176,.aD),(177,.aD),(178,(.mp (.int .i64) (.mp aA (.int .i64)))),(179,.aD),(181,.aD),(182,.aD),(183,(.st (.pair (.int .i64) (.int .i64)))),(184,.aD),(185,.aD),(187,.aD),(188,(.ptr gJ)),(189,(.mp eX hZ)),(190,gJ),(191,gJ),(192,(.ptr aT)),(193,iW),(194,iW),(195,bp),(196,bp),(197,(.mp bp (.int .i64))),(198,eo),(199,eo),(200,aT),(201,aT),(202,.aD),(203,(.sl (.ptr aT))),(204,(.sl (.ptr aT))),(205,.aD),(207,.aD),(209,.aD),(210,.aD),(211,.aD),(212,.aD),(213,.aD),(214,.aD),(215,.aD),(216,.aD),(217,(.sl (.sl aq))),(218,.aD),(219,.aD),(220,.aD),(221,(.int .u64)),(222,.aD),(223,nC),(224,nC),(225,(.int .u8)),(226,.aD),(227,.aD),(228,.aD),(229,(.sl aA)),(230,.aD),(231,(.sl .bool)),(232,.aD),(233,.aD),(234,(.sl bp)),(236,.aD),(237,.aD),(238,hZ),(239,hZ),(240,.aD),(241,.aD),(242,.aD),(245,.aD),(246,.aD),(247,.aD),(248,.aD),(249,.aD),(250,.aD),(251,.aD),(253,xe),(254,xe),(255,.aD),(256,fp),(257,fp),(258,(.sl fp)),(259,.aD),(260,(.sl (.sl au))),(261,.aD),(262,.aD),(263,.aD),(264,.aD),(265,.aD),(266,.aD),(267,.aD),(268,(.mp (.int .i64) (.sl (.int .i64)))),(269,.aD),(270,.aD),(271,.aD),(272,.aD),(273,eX),(274,eX),(276,.aD),(277,.aD),(278,.aD),(279,.aD),(281,(.sl (.sl (.int .i64)))),(282,.aD),(283,.aD),(284,.aD),(290,(.int .u32)),(291,(.int .u8)),(292,(.int .u8)),(293,.aD),(295,(.int .i32)),(296,(.int .i32))]
def strs:List Nat:=[7,8,13,14,23,24,29,30,37,38,48,49,52,53,54,55,64,65,68,69,70,71,78,79,91,92,94,95,105,106,121,122,125,126,131,132,136,137,146,147,152,153,164,165,190,191,193,194,195,196,198,199,200,201,223,224,238,239,253,254,256,257,273,274]
def I1:List Nat:=[7,8,47,52,53,54,55,64,65,70,71,74,78,79,94,95,105,106,121,122,125,126,131,132,152,153,183,193,194,195,196,198,199,223,224,238,239,256,257,273,274]
def fns:List (Nat×(List Ty×Ty)):=[(2,([],.unit)),(3,([lg,(.sl (.sl (.int .u8))),(.sl eN)],.bool)),(4,([lg,(.sl (.sl (.int .u8)))],.bool)),(5,([lg,(.sl (.sl (.int .u8))),(.sl (.sl (.int .u8)))],.bool)),(6,([(.sl eN),(.sl (.int .u8)),(.st (.pair (.int .u8) (.int .u8)))],.bool)),(7,([lg,.str,(.int .u8)],.bool)),(8,([lg,(.sl (.int .u8))],.bool)),(9,([],.bool)),(10,([lg],al)),(11,([(.sl (.sl (.int .u8))),(.int .i64)],(.sl .str))),(12,([al,(.sl .str)],(.bn gA (.int .i64)))),(13,([al,(.sl .str)],(.bn gA (.int .i64)))),(14,([al,.str],(.bn (.sl bM) (.int .i64)))),(15,([al,.str],(.bn (.sl bM) (.int .i64)))),(16,([(.sl bM),(.sl bM)],.bool)),(17,([(.sl eN),(.int .i64)],cd)),(18,([cd,(.int .i64),(.int .i64),(.sl (.int .i64))],(.bn cd (.int .i64)))),(19,([cd,BV,(.sl (.int .i64))],(.bn cd (.int .i64)))),(20,([gA,gA],.bool)),(21,([cd,cd],.bool)),(22,([cd,aq],(.bn cd (.bn (.int .i64) (.int .i64))))),(23,([(.int .u8)],.str)),(24,([(.sl aq),(.sl aq)],.bool)),(25,([cd],.bool)),(26,([cd,.str,(.int .i64)],(.int .i64))),(27,([.str],.bool)),(28,([],al)),(29,([gA],.bool)),(30,([(.sl (.int .u8)),(.int .i64)],.str)),(31,([.str],.bool)),(32,([al,.str,.str],(.int .i64))),(33,([cd,aq],nD)),(34,([lg],al)),(36,([.str],.bool)),(37,([al,.str],(.bn .str (.bn (.int .i64) (.int .i64))))),(38,([al,.str],(.bn .str (.int .i64)))),(39,([bM,bM],.bool)),(40,([cd,eN],cd)),(41,([cd,au],(.bn cd (.int .i64)))),(42,([cd,au],(.bn cd (.int .i64)))),(43,([aq],.bool)),(47,([aq],bY)),(48,([(.int .i64),(.int .i64),(.int .i64)],.bool)),(51,([au],bY)),(54,([u3,(.int .i64)],(.bn (.int .i64) (.int .i64)))),(55,([(.int .i64),(.int .i64),(.int .i64)],.bool)),(56,([.str],.bool)),(57,([(.sl (.sl cR))],.bool)),(58,([bM],.bool)),(59,([(.sl uZ),(.int .i64)],.bool)),(60,([.str],.bool)),(61,([al],.bool)),(62,([.str],.bool)),(63,([aA],(.int .i64))),(65,([.str,.str],.bool)),(67,([al,(.int .i64)],.bool)),(68,([aq],.bool)),(69,([(.sl au),aq],.bool)),(70,([(.sl aq),aq],(.sl aq))),(72,([gz,(.int .i64)],bg)),(73,([al,(.int .i64)],.bool)),(75,([.str],.bool)),(76,([al,.str,(.int .i64)],(.bn (.sl dc) (.int .i64)))),(77,([al,.str,(.int .i64)],(.bn (.sl dc) (.int .i64)))),(78,([eN],.bool)),(79,([eN],au)),(80,([eN],aq)),(82,([au],.bool)),(83,([(.sl au),au],(.sl au))),(84,([(.sl aq),(.sl au)],(.sl aq))),(85,([bY,(.int .i64)],.bool)),(88,([au],.bool)),(89,([au,aq],.bool)),(90,([au],.bool)),(91,([au,aq],.bool)),(92,([au],.bool)),(93,([au,aq],.bool)),(94,([au],.bool)),(95,([au,aq],.bool)),(96,([au],.bool)),(97,([au,aq],.bool)),(99,([(.sl (.sl aq))],(.sl aq))),(100,([bY,bY],(.int .i64))),(103,([(.int .i64),(.int .i64)],(.int .i64))),(105,([(.sl cR)],.bool)),(106,([(.sl cR)],.bool)),(107,([.str],.bool)),(108,([.str],.bool)),(109,([(.sl nC)],.bool)),(110,([al],(.int .i64))),(111,([.str],.bool)),(112,([.str,.str],.bool)),(115,([(.int .i64),(.int .i64),(.int .i64)],.bool)),(116,([au,aq],.bool)),(117,([(.st (.pair (.int .i64) (.int .i64))),(.st (.pair (.int .i64) (.int .i64)))],.bool)),(118,([(.st (.pair (.int .i64) (.int .i64))),.str,.str],bg)),(119,([(.int .u8)],(.int .i64))),(120,([.str],.bool)),(121,([al],.bool)),(122,([al],(.bn al (.sl (.int .i64))))),(129,([.str],.bool)),(130,([al,.str],(.sl dc))),(131,([(.sl (.sl au))],(.sl au))),(136,([(.sl (.int .i64))],(.int .i64))),(137,([(.int .i64),(.int .i64)],(.int .i64))),(139,([al],(.int .u8))),(140,([(.int .u8),(.int .i64)],.bool)),(141,([al],(.int .u8))),(143,([al],(.bn (.int .i64) (.int .i64)))),(144,([al],(.sl .bool))),(145,([al],(.sl .bool))),(146,([al,bg],.bool)),(147,([(.ptr gJ),iW,bg],(.bn iW .bool))),(150,([eo,eo],eo)),(151,([eo,eo],.bool)),(153,([(.ptr gJ),iW],.bool)),(156,([dc,dc],.bool)),(158,([(.int .i64)],.bool)),(159,([(.int .i64)],(.int .u8))),(161,([bg],.bool)),(162,([(.sl (.int .i64)),(.sl (.int .i64))],(.int .i64))),(163,([(.int .i64),bg],.bool)),(164,([(.sl bg),bg],.bool)),(166,([al],(.mp (.int .i64) (.sl (.int .i64))))),(169,([al,(.int .i64)],.bool)),(170,([al,(.int .i64)],.bool)),(171,([al,(.int .i64)],.bool)),(172,([al,(.int .i64)],.bool)),(174,([.str,(.int .i64),.str],.bool)),(175,([(.sl fp),fp],.bool)),(177,([(.sl (.int .i64)),(.sl (.int .i64))],(.int .i64))),(178,([(.sl bg),bg],(.int .i64))),(35,([al,(.sl .str)],(.eQ 74 (.pair (.ptr (.sl .str)) (.ptr al))))),(44,([(.mp (.int .i64) fO),(.sl au),aq],.bool)),(45,([],(.mp (.int .i64) fO))),(46,([(.sl aq),.aD,aq],(.sl aq))),(49,([(.mp (.int .i64) fO),au],.bool)),(50,([(.sl au),.aD],.bool)),(52,([(.sl aq),.aD],.bool)),(53,([(.sl au),.aD,bY],(.bn (.int .i64) .bool))),(64,([aA,bg,(.ptr .str)],(.bn aA .bool))),(81,([(.sl au),.aD,au],(.sl au))),(86,([(.sl au),(.eQ 87 (.pair (.ptr (.mp (.int .i64) fO)) (.ptr aq)))],.bool)),(87,([au,(.ptr (.mp (.int .i64) fO)),(.ptr aq)],.bool)),(98,([(.sl aq),.aD,bY],(.bn (.int .i64) .bool))),(101,([(.sl au),bY,(.eQ 102 (.ptr .aD))],(.bn (.int .i64) .bool))),(102,([au,bY,(.ptr .aD)],(.int .i64))),(132,([(.sl au),(.eQ 87 (.pair (.ptr (.mp (.int .i64) fO)) (.ptr aq)))],(.int .i64))),(133,([(.sl aq),bY,(.eQ 134 (.ptr .aD))],(.bn (.int .i64) .bool))),(134,([aq,bY,(.ptr .aD)],(.int .i64)))]
def Mz:List (Nat×List (Option Ty)):=[(66,[none,some aA,some .str]),(71,[some (.int .u8)]),(113,[none,none]),(114,[none,some aA,some (.int .i64)]),(123,[none,none]),(124,[none,none]),(125,[none]),(126,[none,some (.ptr aT)]),(127,[none,none]),(128,[none,some (.ptr aT)]),(135,[none,some (.int .i64)]),(142,[some al]),(148,[none,some bp,some (.int .i64)]),(149,[none,some iW,some (.int .i64)]),(152,[none,some (.int .i64),some (.int .i64)]),(154,[none,some (.int .i64)]),(155,[none,some (.sl bY),some .str,some (.int .i64)]),(157,[none,some (.int .i64)]),(160,[some al,some (.int .i64),some (.int .u8),some .aD]),(165,[some al]),(167,[some (.int .i64),none]),(168,[some (.int .i64),none,none,none,none]),(173,[none,some .str,some (.int .i64)]),(176,[some (.sl (.int .i64))]),(179,[some (.int .i64),none,none]),(197,[none]),(198,[none,some (.int .i64),some (.int .i64)]),(199,[none,some (.int .i64),some (.int .i64)]),(200,[none]),(201,[none,none])]
def a72:List (Nat×Nat):=[(110,3),(138,132),(178,3),(189,274),(197,196),(268,3)]
noncomputable def env:Env:=ao4 Tryz.prog AO strs I1 fns Mz a72 [(29,28),(1032,28),(22,46),(26,260),(22,45),(26,217),(58,46),(42,63),(43,35),(59,34),(70,63),(71,63),(74,63),(72,35),(124,66),(25,28),(1028,28),(72,51),(1073,51)] true [] [(66,5)] [149,123,124,128,152,113,66,176,160] [192,208] [] [((123,15),[[],[8]]),((124,5),[[0,1,2,3,4,5,6,7,8,9,10,11,12,13,14,15],[0,1,2,3,4,5,6,7,8,9,10,11,12,14,13,15]]),((128,10),[[],[8]]),((76,17),[[],[13]]),((10,7),[[],[8]]),((155,10),[[0,1,2,5,6,7,8,9,10,11,12,3,4,13]]),((12,12),[[],[8]]),((5,6),[[0,1,2,3,4,5,6,7,8,9,10],[0,1,2,3,4,5,6,8,7,9,10],[0,1,2,3,4,5,6,8,9,7,10],[0,1,2,3,8,4,5,6,7,9,10],[0,1,2,3,8,4,5,6,9,7,10],[0,1,2,8,3,4,5,6,7,9,10],[0,1,2,8,3,4,5,6,9,7,10]]),((113,16),[[],[10]]),((142,7),[[],[4]])] [] [(76,10),(76,11),(128,15),(128,16),(128,17),(126,7),(127,1),(74,4),(66,1),(66,5),(66,18),(66,19),(66,20),(66,21),(66,24),(66,26),(160,1),(160,4),(160,5),(160,6),(160,17)] [((208, "Len"),(197,some 204)),((208, "Less"),(198,some 204)),((208, "Swap"),(199,some 204)),((208, "Push"),(201,none)),((208, "Pop"),(200,none))]
theorem az5(t:Nat):env.emp t=false:=rfl
theorem az6(f i:Nat):env.wC f i=IZ [(76,10),(76,11),(128,15),(128,16),(128,17),(126,7),(127,1),(74,4),(66,1),(66,5),(66,18),(66,19),(66,20),(66,21),(66,24),(66,26),(160,1),(160,4),(160,5),(160,6),(160,17)] f i:=rfl
theorem a73(f i:Nat):env.fl f i=U4 [((123,15),[[],[8]]),((124,5),[[0,1,2,3,4,5,6,7,8,9,10,11,12,13,14,15],[0,1,2,3,4,5,6,7,8,9,10,11,12,14,13,15]]),((128,10),[[],[8]]),((76,17),[[],[13]]),((10,7),[[],[8]]),((155,10),[[0,1,2,5,6,7,8,9,10,11,12,3,4,13]]),((12,12),[[],[8]]),((5,6),[[0,1,2,3,4,5,6,7,8,9,10],[0,1,2,3,4,5,6,8,7,9,10],[0,1,2,3,4,5,6,8,9,7,10],[0,1,2,3,8,4,5,6,7,9,10],[0,1,2,3,8,4,5,6,9,7,10],[0,1,2,8,3,4,5,6,7,9,10],[0,1,2,8,3,4,5,6,9,7,10]]),((113,16),[[],[10]]),((142,7),[[],[4]])] f i:=rfl
theorem az7(t:Nat):env.HI t=ak t [192,208]:=rfl
theorem a74(f:Nat):env.px f=false:=rfl
theorem a75(f:Nat):env.nd f=ak f [149,123,124,128,152,113,66,176,160]:=rfl
theorem a76(t:Nat):env.CE t=false:=rfl
theorem a77(t:Nat):env.CF t=look t [(66,5)]:=rfl
theorem a78(d t:Nat):env.ro d t=IZ [(29,28),(1032,28),(22,46),(26,260),(22,45),(26,217),(58,46),(42,63),(43,35),(59,34),(70,63),(71,63),(74,63),(72,35),(124,66),(25,28),(1028,28),(72,51),(1073,51)] d t:=rfl
theorem a79:env.tm=true:=rfl
theorem ae:aG env:=PY (by kernel_rfl) (by kernel_rfl) (by kernel_rfl) (by kernel_rfl) (by kernel_rfl) (by kernel_rfl) (by kernel_rfl) (by kernel_rfl) (by kernel_rfl) (by kernel_rfl)
theorem QF:env.mapKey 110=some 3:=rfl
theorem QG:env.mapKey 138=some 132:=rfl
theorem QH:env.mapKey 178=some 3:=rfl
theorem QI:env.mapKey 189=some 274:=rfl
theorem QJ:env.mapKey 197=some 196:=rfl
theorem QK:env.mapKey 268=some 3:=rfl
theorem a80:env.ty 1=some .aD:=rfl
theorem a81:env.ty 2=some (.int .i64):=rfl
theorem a82:env.ty 3=some (.int .i64):=rfl
theorem a83:env.ty 4=some .bool:=rfl
theorem a84:env.ty 5=some (.int .u8):=rfl
theorem a85:env.ty 6=some (.int .u8):=rfl
theorem a86:env.ty 7=some ki:=rfl
theorem a87:env.ty 8=some ki:=rfl
theorem a88:env.ty 9=some .str:=rfl
theorem az8:env.ty 10=some .str:=rfl
theorem az9:env.ty 11=some .str:=rfl
theorem aA0:env.ty 12=some (.int .u64):=rfl
theorem aA1:env.ty 13=some eA:=rfl
theorem aA2:env.ty 14=some eA:=rfl
theorem aA3:env.ty 21=some (.int .i32):=rfl
theorem aA4:env.ty 22=some (.sl gz):=rfl
theorem aA5:env.ty 23=some lg:=rfl
theorem aA6:env.ty 24=some lg:=rfl
theorem aA7:env.ty 25=some (.sl (.sl (.int .u8))):=rfl
theorem aA8:env.ty 26=some (.sl eN):=rfl
theorem aA9:env.ty 27=some .aD:=rfl
theorem aB0:env.ty 28=some (.sl bg):=rfl
theorem aB1:env.ty 29=some al:=rfl
theorem aB2:env.ty 30=some al:=rfl
theorem aB3:env.ty 31=some .aD:=rfl
theorem aB4:env.ty 32=some (.sl .str):=rfl
theorem aB5:env.ty 33=some .aD:=rfl
theorem aB6:env.ty 34=some (.sl bM):=rfl
theorem aB7:env.ty 35=some (.sl (.sl cR)):=rfl
theorem aB8:env.ty 36=some (.sl uZ):=rfl
theorem aB9:env.ty 37=some gA:=rfl
theorem aC0:env.ty 38=some gA:=rfl
theorem aC1:env.ty 39=some (.int .i64):=rfl
theorem aC2:env.ty 41=some .aD:=rfl
theorem aC3:env.ty 43=some .aD:=rfl
theorem aC4:env.ty 44=some .aD:=rfl
theorem aC5:env.ty 45=some (.sl aq):=rfl
theorem aC6:env.ty 46=some (.sl au):=rfl
theorem aC7:env.ty 47=some (.st (.pair (.int .i64) (.pair (.int .i64) (.pair (.int .i64) (.pair (.int .i64) (.pair (.int .i64) (.pair (.int .i64) (.pair (.int .i64) (.int .i64))))))))):=rfl
theorem aC8:env.ty 48=some cd:=rfl
theorem aC9:env.ty 49=some cd:=rfl
theorem aD0:env.ty 50=some .aD:=rfl
theorem aD1:env.ty 51=some (.sl (.int .i64)):=rfl
theorem aD2:env.ty 52=some eN:=rfl
theorem aD3:env.ty 53=some eN:=rfl
theorem aD4:env.ty 54=some BV:=rfl
theorem aD5:env.ty 55=some BV:=rfl
theorem aD6:env.ty 57=some .aD:=rfl
theorem aD7:env.ty 58=some .aD:=rfl
theorem aD8:env.ty 59=some .aD:=rfl
theorem aD9:env.ty 60=some .aD:=rfl
theorem aE0:env.ty 61=some .aD:=rfl
theorem aE1:env.ty 62=some (.sl cR):=rfl
theorem aE2:env.ty 63=some (.sl cR):=rfl
theorem aE3:env.ty 64=some cR:=rfl
theorem aE4:env.ty 65=some cR:=rfl
theorem aE5:env.ty 66=some (.sl (.int .u8)):=rfl
theorem aE6:env.ty 67=some (.sl nC):=rfl
theorem aE7:env.ty 68=some bM:=rfl
theorem aE8:env.ty 69=some bM:=rfl
theorem aE9:env.ty 70=some uZ:=rfl
theorem aF0:env.ty 71=some uZ:=rfl
theorem aF1:env.ty 72=some .aD:=rfl
theorem aF2:env.ty 73=some .aD:=rfl
theorem aF3:env.ty 74=some (.st (.pair (.int .u8) (.int .u8))):=rfl
theorem aF4:env.ty 76=some .aD:=rfl
theorem aF5:env.ty 77=some .aD:=rfl
theorem aF6:env.ty 78=some aq:=rfl
theorem aF7:env.ty 79=some aq:=rfl
theorem aF8:env.ty 80=some .aD:=rfl
theorem aF9:env.ty 81=some .aD:=rfl
theorem aG0:env.ty 82=some .aD:=rfl
theorem aG1:env.ty 83=some .aD:=rfl
theorem aG2:env.ty 84=some .aD:=rfl
theorem aG3:env.ty 85=some .aD:=rfl
theorem aG4:env.ty 86=some .aD:=rfl
theorem aG5:env.ty 87=some .aD:=rfl
theorem aG6:env.ty 88=some .aD:=rfl
theorem aG7:env.ty 89=some .aD:=rfl
theorem aG8:env.ty 90=some .aD:=rfl
theorem aG9:env.ty 91=some nD:=rfl
theorem aH0:env.ty 92=some nD:=rfl
theorem aH1:env.ty 93=some .aD:=rfl
theorem aH2:env.ty 94=some bg:=rfl
theorem aH3:env.ty 95=some bg:=rfl
theorem aH4:env.ty 96=some .aD:=rfl
theorem aH5:env.ty 97=some .aD:=rfl
theorem aH6:env.ty 98=some .aD:=rfl
theorem Wj:env.ty 100=some .aD:=rfl
theorem Wl:env.ty 102=some .aD:=rfl
theorem Wm:env.ty 103=some .aD:=rfl
theorem Wn:env.ty 104=some .aD:=rfl
theorem Wo:env.ty 105=some au:=rfl
theorem Wp:env.ty 106=some au:=rfl
theorem Wq:env.ty 107=some .aD:=rfl
theorem Wr:env.ty 108=some .aD:=rfl
theorem Ws:env.ty 109=some .aD:=rfl
theorem Wt:env.ty 110=some (.mp (.int .i64) fO):=rfl
theorem Wu:env.ty 111=some .aD:=rfl
theorem Wv:env.ty 112=some .aD:=rfl
theorem Ww:env.ty 113=some .aD:=rfl
theorem Wx:env.ty 114=some .aD:=rfl
theorem Wy:env.ty 115=some .aD:=rfl
theorem Wz:env.ty 116=some .aD:=rfl
theorem WA:env.ty 117=some .aD:=rfl
theorem WB:env.ty 118=some .aD:=rfl
theorem WC:env.ty 120=some .aD:=rfl
theorem WD:env.ty 121=some bY:=rfl
theorem WE:env.ty 122=some bY:=rfl
theorem WG:env.ty 124=some .aD:=rfl
theorem WH:env.ty 125=some u3:=rfl
theorem WJ:env.ty 126=some u3:=rfl
theorem WK:env.ty 127=some .aD:=rfl
theorem WL:env.ty 128=some .aD:=rfl
theorem WM:env.ty 129=some .aD:=rfl
theorem WN:env.ty 130=some .aD:=rfl
theorem WO:env.ty 131=some aA:=rfl
theorem WQ:env.ty 132=some aA:=rfl
theorem WR:env.ty 133=some .aD:=rfl
theorem WS:env.ty 134=some .aD:=rfl
theorem WT:env.ty 135=some .aD:=rfl
theorem WU:env.ty 136=some DD:=rfl
theorem WV:env.ty 137=some DD:=rfl
theorem WW:env.ty 138=some (.mp aA (.int .i64)):=rfl
theorem WX:env.ty 140=some .aD:=rfl
theorem WY:env.ty 141=some .aD:=rfl
theorem WZ:env.ty 142=some .aD:=rfl
theorem W0:env.ty 143=some .aD:=rfl
theorem W1:env.ty 144=some .aD:=rfl
theorem W2:env.ty 145=some .aD:=rfl
theorem W3:env.ty 146=some gz:=rfl
theorem W4:env.ty 147=some gz:=rfl
theorem W5:env.ty 148=some .aD:=rfl
theorem W6:env.ty 149=some (.sl dc):=rfl
theorem W7:env.ty 151=some .aD:=rfl
theorem W8:env.ty 152=some dc:=rfl
theorem W9:env.ty 153=some dc:=rfl
theorem Xa:env.ty 154=some .aD:=rfl
theorem Xb:env.ty 155=some .aD:=rfl
theorem Xc:env.ty 156=some .aD:=rfl
theorem Xd:env.ty 157=some .aD:=rfl
theorem Xe:env.ty 158=some .aD:=rfl
theorem Xf:env.ty 159=some .aD:=rfl
theorem Xg:env.ty 160=some .aD:=rfl
theorem Xh:env.ty 161=some .aD:=rfl
theorem Xi:env.ty 162=some .aD:=rfl
theorem Xj:env.ty 163=some .aD:=rfl
theorem Xk:env.ty 164=some fO:=rfl
theorem Xl:env.ty 165=some fO:=rfl
theorem Xm:env.ty 167=some .aD:=rfl
theorem Xn:env.ty 168=some .aD:=rfl
theorem Xo:env.ty 169=some .aD:=rfl
theorem Xp:env.ty 170=some .aD:=rfl
theorem Xq:env.ty 171=some .aD:=rfl
theorem Xr:env.ty 172=some .aD:=rfl
theorem Xs:env.ty 173=some (.int .i64):=rfl
theorem Xt:env.ty 174=some .aD:=rfl
theorem Xu:env.ty 175=some .aD:=rfl
theorem Xv:env.ty 176=some .aD:=rfl
theorem Xw:env.ty 177=some .aD:=rfl
theorem Xx:env.ty 178=some (.mp (.int .i64) (.mp aA (.int .i64))):=rfl
theorem Xy:env.ty 179=some .aD:=rfl
theorem Xz:env.ty 181=some .aD:=rfl
theorem XA:env.ty 182=some .aD:=rfl
theorem XB:env.ty 183=some (.st (.pair (.int .i64) (.int .i64))):=rfl
theorem XD:env.ty 184=some .aD:=rfl
theorem XE:env.ty 185=some .aD:=rfl
theorem XF:env.ty 187=some .aD:=rfl
theorem XG:env.ty 188=some (.ptr gJ):=rfl
theorem XI:env.ty 189=some (.mp eX hZ):=rfl
theorem XJ:env.ty 190=some gJ:=rfl
theorem XK:env.ty 191=some gJ:=rfl
theorem XL:env.ty 192=some (.ptr aT):=rfl
theorem XM:env.ty 193=some iW:=rfl
theorem XN:env.ty 194=some iW:=rfl
theorem XO:env.ty 195=some bp:=rfl
theorem XP:env.ty 196=some bp:=rfl
theorem XQ:env.ty 197=some (.mp bp (.int .i64)):=rfl
theorem XR:env.ty 198=some eo:=rfl
theorem XS:env.ty 199=some eo:=rfl
theorem XT:env.ty 200=some aT:=rfl
theorem XU:env.ty 201=some aT:=rfl
theorem XV:env.ty 202=some .aD:=rfl
theorem XW:env.ty 203=some (.sl (.ptr aT)):=rfl
theorem XX:env.ty 204=some (.sl (.ptr aT)):=rfl
theorem XY:env.ty 205=some .aD:=rfl
theorem XZ:env.ty 207=some .aD:=rfl
theorem X0:env.ty 209=some .aD:=rfl
theorem X1:env.ty 210=some .aD:=rfl
theorem X2:env.ty 211=some .aD:=rfl
theorem X3:env.ty 212=some .aD:=rfl
theorem X4:env.ty 213=some .aD:=rfl
theorem X5:env.ty 214=some .aD:=rfl
theorem X6:env.ty 215=some .aD:=rfl
theorem X7:env.ty 216=some .aD:=rfl
theorem X8:env.ty 217=some (.sl (.sl aq)):=rfl
theorem X9:env.ty 218=some .aD:=rfl
theorem Ya:env.ty 219=some .aD:=rfl
theorem Yb:env.ty 220=some .aD:=rfl
theorem Yc:env.ty 221=some (.int .u64):=rfl
theorem Yd:env.ty 222=some .aD:=rfl
theorem Ye:env.ty 223=some nC:=rfl
theorem Yf:env.ty 224=some nC:=rfl
theorem Yg:env.ty 225=some (.int .u8):=rfl
theorem Yh:env.ty 226=some .aD:=rfl
theorem Yi:env.ty 227=some .aD:=rfl
theorem Yj:env.ty 228=some .aD:=rfl
theorem Yk:env.ty 229=some (.sl aA):=rfl
theorem Yl:env.ty 230=some .aD:=rfl
theorem Ym:env.ty 231=some (.sl .bool):=rfl
theorem Yn:env.ty 232=some .aD:=rfl
theorem Yo:env.ty 233=some .aD:=rfl
theorem Yp:env.ty 234=some (.sl bp):=rfl
theorem Yq:env.ty 236=some .aD:=rfl
theorem Yr:env.ty 237=some .aD:=rfl
theorem Ys:env.ty 238=some hZ:=rfl
theorem Yt:env.ty 239=some hZ:=rfl
theorem Yu:env.ty 240=some .aD:=rfl
theorem Yv:env.ty 241=some .aD:=rfl
theorem Yw:env.ty 242=some .aD:=rfl
theorem Yx:env.ty 245=some .aD:=rfl
theorem Yy:env.ty 246=some .aD:=rfl
theorem Yz:env.ty 247=some .aD:=rfl
theorem YA:env.ty 248=some .aD:=rfl
theorem YB:env.ty 249=some .aD:=rfl
theorem YC:env.ty 250=some .aD:=rfl
theorem YD:env.ty 251=some .aD:=rfl
theorem YE:env.ty 253=some xe:=rfl
theorem YF:env.ty 254=some xe:=rfl
theorem YG:env.ty 255=some .aD:=rfl
theorem YH:env.ty 256=some fp:=rfl
theorem YI:env.ty 257=some fp:=rfl
theorem YJ:env.ty 258=some (.sl fp):=rfl
theorem YK:env.ty 259=some .aD:=rfl
theorem YL:env.ty 260=some (.sl (.sl au)):=rfl
theorem YM:env.ty 261=some .aD:=rfl
theorem YN:env.ty 262=some .aD:=rfl
theorem YO:env.ty 263=some .aD:=rfl
theorem YP:env.ty 264=some .aD:=rfl
theorem YQ:env.ty 265=some .aD:=rfl
theorem YR:env.ty 266=some .aD:=rfl
theorem YS:env.ty 267=some .aD:=rfl
theorem YT:env.ty 268=some (.mp (.int .i64) (.sl (.int .i64))):=rfl
theorem YU:env.ty 269=some .aD:=rfl
theorem YV:env.ty 270=some .aD:=rfl
theorem YW:env.ty 271=some .aD:=rfl
theorem YX:env.ty 272=some .aD:=rfl
theorem YY:env.ty 273=some eX:=rfl
theorem YZ:env.ty 274=some eX:=rfl
theorem Y0:env.ty 276=some .aD:=rfl
theorem Y1:env.ty 277=some .aD:=rfl
theorem Y2:env.ty 278=some .aD:=rfl
theorem Y3:env.ty 279=some .aD:=rfl
theorem Y4:env.ty 281=some (.sl (.sl (.int .i64))):=rfl
theorem Y5:env.ty 282=some .aD:=rfl
theorem Y6:env.ty 283=some .aD:=rfl
theorem Y7:env.ty 284=some .aD:=rfl
theorem Y8:env.ty 290=some (.int .u32):=rfl
theorem Y9:env.ty 291=some (.int .u8):=rfl
theorem Za:env.ty 292=some (.int .u8):=rfl
theorem Zb:env.ty 293=some .aD:=rfl
theorem Zc:env.ty 295=some (.int .i32):=rfl
theorem Zd:env.ty 296=some (.int .i32):=rfl
theorem aH7:env.str 7=true:=rfl
theorem aH8:env.str 8=true:=rfl
theorem Ze:env.str 13=true:=rfl
theorem Zf:env.str 14=true:=rfl
theorem Zg:env.str 23=true:=rfl
theorem Zh:env.str 24=true:=rfl
theorem Zi:env.str 29=true:=rfl
theorem Zj:env.str 30=true:=rfl
theorem Zk:env.str 37=true:=rfl
theorem Zl:env.str 38=true:=rfl
theorem Zm:env.str 48=true:=rfl
theorem Zn:env.str 49=true:=rfl
theorem Zo:env.str 52=true:=rfl
theorem Zp:env.str 53=true:=rfl
theorem Zq:env.str 54=true:=rfl
theorem Zr:env.str 55=true:=rfl
theorem Zs:env.str 64=true:=rfl
theorem Zt:env.str 65=true:=rfl
theorem Zu:env.str 68=true:=rfl
theorem Zv:env.str 69=true:=rfl
theorem Zw:env.str 70=true:=rfl
theorem Zx:env.str 71=true:=rfl
theorem Zy:env.str 78=true:=rfl
theorem Zz:env.str 79=true:=rfl
theorem ZA:env.str 91=true:=rfl
theorem ZB:env.str 92=true:=rfl
theorem ZC:env.str 94=true:=rfl
theorem ZD:env.str 95=true:=rfl
theorem QL:env.str 105=true:=rfl
theorem QM:env.str 106=true:=rfl
theorem QN:env.str 121=true:=rfl
theorem QO:env.str 122=true:=rfl
theorem QP:env.str 125=true:=rfl
theorem QQ:env.str 126=true:=rfl
theorem QR:env.str 131=true:=rfl
theorem QS:env.str 132=true:=rfl
theorem QT:env.str 136=true:=rfl
theorem QU:env.str 137=true:=rfl
theorem QV:env.str 146=true:=rfl
theorem QW:env.str 147=true:=rfl
theorem QX:env.str 152=true:=rfl
theorem QY:env.str 153=true:=rfl
theorem QZ:env.str 164=true:=rfl
theorem Q0:env.str 165=true:=rfl
theorem Q1:env.str 190=true:=rfl
theorem Q2:env.str 191=true:=rfl
theorem Q3:env.str 193=true:=rfl
theorem Q4:env.str 194=true:=rfl
theorem Q5:env.str 195=true:=rfl
theorem Q6:env.str 196=true:=rfl
theorem Q7:env.str 198=true:=rfl
theorem Q8:env.str 199=true:=rfl
theorem Q9:env.str 200=true:=rfl
theorem Ra:env.str 201=true:=rfl
theorem Rb:env.str 223=true:=rfl
theorem Rc:env.str 224=true:=rfl
theorem Rd:env.str 238=true:=rfl
theorem Re:env.str 239=true:=rfl
theorem Rf:env.str 253=true:=rfl
theorem Rg:env.str 254=true:=rfl
theorem Rh:env.str 256=true:=rfl
theorem Ri:env.str 257=true:=rfl
theorem Rj:env.str 273=true:=rfl
theorem Rk:env.str 274=true:=rfl
theorem ZE:env.str 47=false:=rfl
theorem ZF:env.str 74=false:=rfl
theorem Rm:env.str 183=false:=rfl
theorem aH9:env.cmp 7=true:=rfl
theorem aI0:env.cmp 8=true:=rfl
theorem ZG:env.cmp 47=true:=rfl
theorem ZH:env.cmp 52=true:=rfl
theorem ZI:env.cmp 53=true:=rfl
theorem ZJ:env.cmp 54=true:=rfl
theorem ZK:env.cmp 55=true:=rfl
theorem ZL:env.cmp 64=true:=rfl
theorem ZM:env.cmp 65=true:=rfl
theorem ZN:env.cmp 70=true:=rfl
theorem ZO:env.cmp 71=true:=rfl
theorem ZP:env.cmp 74=true:=rfl
theorem ZQ:env.cmp 78=true:=rfl
theorem ZR:env.cmp 79=true:=rfl
theorem ZS:env.cmp 94=true:=rfl
theorem ZT:env.cmp 95=true:=rfl
theorem Rn:env.cmp 105=true:=rfl
theorem Ro:env.cmp 106=true:=rfl
theorem Rp:env.cmp 121=true:=rfl
theorem Rq:env.cmp 122=true:=rfl
theorem Rr:env.cmp 125=true:=rfl
theorem Rs:env.cmp 126=true:=rfl
theorem Ru:env.cmp 131=true:=rfl
theorem Rv:env.cmp 132=true:=rfl
theorem Rw:env.cmp 152=true:=rfl
theorem Rx:env.cmp 153=true:=rfl
theorem Ry:env.cmp 183=true:=rfl
theorem Rz:env.cmp 193=true:=rfl
theorem RA:env.cmp 194=true:=rfl
theorem RB:env.cmp 195=true:=rfl
theorem RD:env.cmp 196=true:=rfl
theorem RE:env.cmp 198=true:=rfl
theorem RF:env.cmp 199=true:=rfl
theorem RG:env.cmp 223=true:=rfl
theorem RH:env.cmp 224=true:=rfl
theorem RK:env.cmp 238=true:=rfl
theorem RL:env.cmp 239=true:=rfl
theorem RM:env.cmp 256=true:=rfl
theorem RN:env.cmp 257=true:=rfl
theorem RO:env.cmp 273=true:=rfl
theorem RP:env.cmp 274=true:=rfl
theorem a89:env.fn 2=some ([],.unit):=rfl
theorem a90:env.fn 3=some ([lg,(.sl (.sl (.int .u8))),(.sl eN)],.bool):=rfl
theorem a91:env.fn 4=some ([lg,(.sl (.sl (.int .u8)))],.bool):=rfl
theorem a92:env.fn 5=some ([lg,(.sl (.sl (.int .u8))),(.sl (.sl (.int .u8)))],.bool):=rfl
theorem a93:env.fn 6=some ([(.sl eN),(.sl (.int .u8)),(.st (.pair (.int .u8) (.int .u8)))],.bool):=rfl
theorem a94:env.fn 7=some ([lg,.str,(.int .u8)],.bool):=rfl
theorem a95:env.fn 8=some ([lg,(.sl (.int .u8))],.bool):=rfl
theorem a96:env.fn 9=some ([],.bool):=rfl
theorem aI1:env.fn 10=some ([lg],al):=rfl
theorem aI2:env.fn 11=some ([(.sl (.sl (.int .u8))),(.int .i64)],(.sl .str)):=rfl
theorem aI3:env.fn 12=some ([al,(.sl .str)],(.bn gA (.int .i64))):=rfl
theorem aI4:env.fn 13=some ([al,(.sl .str)],(.bn gA (.int .i64))):=rfl
theorem aI5:env.fn 14=some ([al,.str],(.bn (.sl bM) (.int .i64))):=rfl
theorem aI6:env.fn 15=some ([al,.str],(.bn (.sl bM) (.int .i64))):=rfl
theorem aI7:env.fn 16=some ([(.sl bM),(.sl bM)],.bool):=rfl
theorem aI8:env.fn 17=some ([(.sl eN),(.int .i64)],cd):=rfl
theorem aI9:env.fn 18=some ([cd,(.int .i64),(.int .i64),(.sl (.int .i64))],(.bn cd (.int .i64))):=rfl
theorem aJ0:env.fn 19=some ([cd,BV,(.sl (.int .i64))],(.bn cd (.int .i64))):=rfl
theorem aJ1:env.fn 20=some ([gA,gA],.bool):=rfl
theorem aJ2:env.fn 21=some ([cd,cd],.bool):=rfl
theorem aJ3:env.fn 22=some ([cd,aq],(.bn cd (.bn (.int .i64) (.int .i64)))):=rfl
theorem aJ4:env.fn 23=some ([(.int .u8)],.str):=rfl
theorem aJ5:env.fn 24=some ([(.sl aq),(.sl aq)],.bool):=rfl
theorem aJ6:env.fn 25=some ([cd],.bool):=rfl
theorem aJ7:env.fn 26=some ([cd,.str,(.int .i64)],(.int .i64)):=rfl
theorem aJ8:env.fn 27=some ([.str],.bool):=rfl
theorem aJ9:env.fn 28=some ([],al):=rfl
theorem aK0:env.fn 29=some ([gA],.bool):=rfl
theorem aK1:env.fn 30=some ([(.sl (.int .u8)),(.int .i64)],.str):=rfl
theorem aK2:env.fn 31=some ([.str],.bool):=rfl
theorem aK3:env.fn 32=some ([al,.str,.str],(.int .i64)):=rfl
theorem aK4:env.fn 33=some ([cd,aq],nD):=rfl
theorem aK5:env.fn 34=some ([lg],al):=rfl
theorem aK6:env.fn 36=some ([.str],.bool):=rfl
theorem aK7:env.fn 37=some ([al,.str],(.bn .str (.bn (.int .i64) (.int .i64)))):=rfl
theorem aK8:env.fn 38=some ([al,.str],(.bn .str (.int .i64))):=rfl
theorem aK9:env.fn 39=some ([bM,bM],.bool):=rfl
theorem aL0:env.fn 40=some ([cd,eN],cd):=rfl
theorem aL1:env.fn 41=some ([cd,au],(.bn cd (.int .i64))):=rfl
theorem aL2:env.fn 42=some ([cd,au],(.bn cd (.int .i64))):=rfl
theorem aL3:env.fn 43=some ([aq],.bool):=rfl
theorem aL4:env.fn 47=some ([aq],bY):=rfl
theorem aL5:env.fn 48=some ([(.int .i64),(.int .i64),(.int .i64)],.bool):=rfl
theorem aL6:env.fn 51=some ([au],bY):=rfl
theorem aL7:env.fn 54=some ([u3,(.int .i64)],(.bn (.int .i64) (.int .i64))):=rfl
theorem aL8:env.fn 55=some ([(.int .i64),(.int .i64),(.int .i64)],.bool):=rfl
theorem aL9:env.fn 56=some ([.str],.bool):=rfl
theorem aM0:env.fn 57=some ([(.sl (.sl cR))],.bool):=rfl
theorem aM1:env.fn 58=some ([bM],.bool):=rfl
theorem aM2:env.fn 59=some ([(.sl uZ),(.int .i64)],.bool):=rfl
theorem aM3:env.fn 60=some ([.str],.bool):=rfl
theorem aM4:env.fn 61=some ([al],.bool):=rfl
theorem aM5:env.fn 62=some ([.str],.bool):=rfl
theorem aM6:env.fn 63=some ([aA],(.int .i64)):=rfl
theorem aM7:env.fn 65=some ([.str,.str],.bool):=rfl
theorem aM8:env.fn 67=some ([al,(.int .i64)],.bool):=rfl
theorem aM9:env.fn 68=some ([aq],.bool):=rfl
theorem aN0:env.fn 69=some ([(.sl au),aq],.bool):=rfl
theorem aN1:env.fn 70=some ([(.sl aq),aq],(.sl aq)):=rfl
theorem aN2:env.fn 72=some ([gz,(.int .i64)],bg):=rfl
theorem aN3:env.fn 73=some ([al,(.int .i64)],.bool):=rfl
theorem aN4:env.fn 75=some ([.str],.bool):=rfl
theorem aN5:env.fn 76=some ([al,.str,(.int .i64)],(.bn (.sl dc) (.int .i64))):=rfl
theorem aN6:env.fn 77=some ([al,.str,(.int .i64)],(.bn (.sl dc) (.int .i64))):=rfl
theorem aN7:env.fn 78=some ([eN],.bool):=rfl
theorem aN8:env.fn 79=some ([eN],au):=rfl
theorem aN9:env.fn 80=some ([eN],aq):=rfl
theorem aO0:env.fn 82=some ([au],.bool):=rfl
theorem aO1:env.fn 83=some ([(.sl au),au],(.sl au)):=rfl
theorem aO2:env.fn 84=some ([(.sl aq),(.sl au)],(.sl aq)):=rfl
theorem aO3:env.fn 85=some ([bY,(.int .i64)],.bool):=rfl
theorem aO4:env.fn 88=some ([au],.bool):=rfl
theorem aO5:env.fn 89=some ([au,aq],.bool):=rfl
theorem aO6:env.fn 90=some ([au],.bool):=rfl
theorem aO7:env.fn 91=some ([au,aq],.bool):=rfl
theorem aO8:env.fn 92=some ([au],.bool):=rfl
theorem aO9:env.fn 93=some ([au,aq],.bool):=rfl
theorem aP0:env.fn 94=some ([au],.bool):=rfl
theorem aP1:env.fn 95=some ([au,aq],.bool):=rfl
theorem aP2:env.fn 96=some ([au],.bool):=rfl
theorem aP3:env.fn 97=some ([au,aq],.bool):=rfl
theorem aP4:env.fn 99=some ([(.sl (.sl aq))],(.sl aq)):=rfl
theorem ZU:env.fn 100=some ([bY,bY],(.int .i64)):=rfl
theorem ZV:env.fn 103=some ([(.int .i64),(.int .i64)],(.int .i64)):=rfl
theorem ZW:env.fn 105=some ([(.sl cR)],.bool):=rfl
theorem ZX:env.fn 106=some ([(.sl cR)],.bool):=rfl
theorem ZY:env.fn 107=some ([.str],.bool):=rfl
theorem ZZ:env.fn 108=some ([.str],.bool):=rfl
theorem Z0:env.fn 109=some ([(.sl nC)],.bool):=rfl
theorem Z1:env.fn 110=some ([al],(.int .i64)):=rfl
theorem Z2:env.fn 111=some ([.str],.bool):=rfl
theorem Z3:env.fn 112=some ([.str,.str],.bool):=rfl
theorem Z4:env.fn 115=some ([(.int .i64),(.int .i64),(.int .i64)],.bool):=rfl
theorem Z5:env.fn 116=some ([au,aq],.bool):=rfl
theorem Z6:env.fn 117=some ([(.st (.pair (.int .i64) (.int .i64))),(.st (.pair (.int .i64) (.int .i64)))],.bool):=rfl
theorem Z7:env.fn 118=some ([(.st (.pair (.int .i64) (.int .i64))),.str,.str],bg):=rfl
theorem Z8:env.fn 119=some ([(.int .u8)],(.int .i64)):=rfl
theorem Z9:env.fn 120=some ([.str],.bool):=rfl
theorem aa0:env.fn 121=some ([al],.bool):=rfl
theorem aa1:env.fn 122=some ([al],(.bn al (.sl (.int .i64)))):=rfl
theorem aa2:env.fn 129=some ([.str],.bool):=rfl
theorem aa3:env.fn 130=some ([al,.str],(.sl dc)):=rfl
theorem aa4:env.fn 131=some ([(.sl (.sl au))],(.sl au)):=rfl
theorem aa5:env.fn 136=some ([(.sl (.int .i64))],(.int .i64)):=rfl
theorem aa6:env.fn 137=some ([(.int .i64),(.int .i64)],(.int .i64)):=rfl
theorem aa7:env.fn 139=some ([al],(.int .u8)):=rfl
theorem aa8:env.fn 140=some ([(.int .u8),(.int .i64)],.bool):=rfl
theorem aa9:env.fn 141=some ([al],(.int .u8)):=rfl
theorem ab0:env.fn 143=some ([al],(.bn (.int .i64) (.int .i64))):=rfl
theorem ab1:env.fn 144=some ([al],(.sl .bool)):=rfl
theorem ab2:env.fn 145=some ([al],(.sl .bool)):=rfl
theorem ab3:env.fn 146=some ([al,bg],.bool):=rfl
theorem ab4:env.fn 147=some ([(.ptr gJ),iW,bg],(.bn iW .bool)):=rfl
theorem ab5:env.fn 150=some ([eo,eo],eo):=rfl
theorem ab6:env.fn 151=some ([eo,eo],.bool):=rfl
theorem ab7:env.fn 153=some ([(.ptr gJ),iW],.bool):=rfl
theorem ab8:env.fn 156=some ([dc,dc],.bool):=rfl
theorem ab9:env.fn 158=some ([(.int .i64)],.bool):=rfl
theorem ac0:env.fn 159=some ([(.int .i64)],(.int .u8)):=rfl
theorem ac1:env.fn 161=some ([bg],.bool):=rfl
theorem ac2:env.fn 162=some ([(.sl (.int .i64)),(.sl (.int .i64))],(.int .i64)):=rfl
theorem ac3:env.fn 163=some ([(.int .i64),bg],.bool):=rfl
theorem ac4:env.fn 164=some ([(.sl bg),bg],.bool):=rfl
theorem ac5:env.fn 166=some ([al],(.mp (.int .i64) (.sl (.int .i64)))):=rfl
theorem ac6:env.fn 169=some ([al,(.int .i64)],.bool):=rfl
theorem ac7:env.fn 170=some ([al,(.int .i64)],.bool):=rfl
theorem ac8:env.fn 171=some ([al,(.int .i64)],.bool):=rfl
theorem ac9:env.fn 172=some ([al,(.int .i64)],.bool):=rfl
theorem ad0:env.fn 174=some ([.str,(.int .i64),.str],.bool):=rfl
theorem ad1:env.fn 175=some ([(.sl fp),fp],.bool):=rfl
theorem ad2:env.fn 177=some ([(.sl (.int .i64)),(.sl (.int .i64))],(.int .i64)):=rfl
theorem ad3:env.fn 178=some ([(.sl bg),bg],(.int .i64)):=rfl
theorem aP5:env.fn 35=some ([al,(.sl .str)],(.eQ 74 (.pair (.ptr (.sl .str)) (.ptr al)))):=rfl
theorem aP6:env.fn 44=some ([(.mp (.int .i64) fO),(.sl au),aq],.bool):=rfl
theorem aP7:env.fn 45=some ([],(.mp (.int .i64) fO)):=rfl
theorem aP8:env.fn 46=some ([(.sl aq),.aD,aq],(.sl aq)):=rfl
theorem aP9:env.fn 49=some ([(.mp (.int .i64) fO),au],.bool):=rfl
theorem aQ0:env.fn 50=some ([(.sl au),.aD],.bool):=rfl
theorem aQ1:env.fn 52=some ([(.sl aq),.aD],.bool):=rfl
theorem aQ2:env.fn 53=some ([(.sl au),.aD,bY],(.bn (.int .i64) .bool)):=rfl
theorem aQ3:env.fn 64=some ([aA,bg,(.ptr .str)],(.bn aA .bool)):=rfl
theorem aQ4:env.fn 81=some ([(.sl au),.aD,au],(.sl au)):=rfl
theorem aQ5:env.fn 86=some ([(.sl au),(.eQ 87 (.pair (.ptr (.mp (.int .i64) fO)) (.ptr aq)))],.bool):=rfl
theorem aQ6:env.fn 87=some ([au,(.ptr (.mp (.int .i64) fO)),(.ptr aq)],.bool):=rfl
theorem aQ7:env.fn 98=some ([(.sl aq),.aD,bY],(.bn (.int .i64) .bool)):=rfl
theorem ad4:env.fn 101=some ([(.sl au),bY,(.eQ 102 (.ptr .aD))],(.bn (.int .i64) .bool)):=rfl
theorem ad5:env.fn 102=some ([au,bY,(.ptr .aD)],(.int .i64)):=rfl
theorem ad6:env.fn 132=some ([(.sl au),(.eQ 87 (.pair (.ptr (.mp (.int .i64) fO)) (.ptr aq)))],(.int .i64)):=rfl
theorem ad7:env.fn 133=some ([(.sl aq),bY,(.eQ 134 (.ptr .aD))],(.bn (.int .i64) .bool)):=rfl
theorem ad8:env.fn 134=some ([aq,bY,(.ptr .aD)],(.int .i64)):=rfl
theorem aQ8:env.fn 66=none:=rfl
theorem ad9:env.dA 66=some [none,some aA,some .str]:=rfl
theorem aQ9:env.fn 71=none:=rfl
theorem ae0:env.dA 71=some [some (.int .u8)]:=rfl
theorem ae1:env.fn 113=none:=rfl
theorem RQ:env.dA 113=some [none,none]:=rfl
theorem ae2:env.fn 114=none:=rfl
theorem RR:env.dA 114=some [none,some aA,some (.int .i64)]:=rfl
theorem ae3:env.fn 123=none:=rfl
theorem RS:env.dA 123=some [none,none]:=rfl
theorem ae4:env.fn 124=none:=rfl
theorem RT:env.dA 124=some [none,none]:=rfl
theorem ae5:env.fn 125=none:=rfl
theorem RU:env.dA 125=some [none]:=rfl
theorem ae6:env.fn 126=none:=rfl
theorem RV:env.dA 126=some [none,some (.ptr aT)]:=rfl
theorem ae7:env.fn 127=none:=rfl
theorem RW:env.dA 127=some [none,none]:=rfl
theorem ae8:env.fn 128=none:=rfl
theorem RX:env.dA 128=some [none,some (.ptr aT)]:=rfl
theorem ae9:env.fn 135=none:=rfl
theorem RY:env.dA 135=some [none,some (.int .i64)]:=rfl
theorem af0:env.fn 142=none:=rfl
theorem RZ:env.dA 142=some [some al]:=rfl
theorem af1:env.fn 148=none:=rfl
theorem R0:env.dA 148=some [none,some bp,some (.int .i64)]:=rfl
theorem af2:env.fn 149=none:=rfl
theorem R3:env.dA 149=some [none,some iW,some (.int .i64)]:=rfl
theorem af3:env.fn 152=none:=rfl
theorem R4:env.dA 152=some [none,some (.int .i64),some (.int .i64)]:=rfl
theorem af4:env.fn 154=none:=rfl
theorem R5:env.dA 154=some [none,some (.int .i64)]:=rfl
theorem af5:env.fn 155=none:=rfl
theorem R6:env.dA 155=some [none,some (.sl bY),some .str,some (.int .i64)]:=rfl
theorem af6:env.fn 157=none:=rfl
theorem R8:env.dA 157=some [none,some (.int .i64)]:=rfl
theorem af7:env.fn 160=none:=rfl
theorem R9:env.dA 160=some [some al,some (.int .i64),some (.int .u8),some .aD]:=rfl
theorem af8:env.fn 165=none:=rfl
theorem Sb:env.dA 165=some [some al]:=rfl
theorem af9:env.fn 167=none:=rfl
theorem Sc:env.dA 167=some [some (.int .i64),none]:=rfl
theorem ag0:env.fn 168=none:=rfl
theorem Sd:env.dA 168=some [some (.int .i64),none,none,none,none]:=rfl
theorem ag1:env.fn 173=none:=rfl
theorem Se:env.dA 173=some [none,some .str,some (.int .i64)]:=rfl
theorem ag2:env.fn 176=none:=rfl
theorem Sf:env.dA 176=some [some (.sl (.int .i64))]:=rfl
theorem ag3:env.fn 179=none:=rfl
theorem Sg:env.dA 179=some [some (.int .i64),none,none]:=rfl
theorem ag4:env.fn 197=none:=rfl
theorem Sh:env.dA 197=some [none]:=rfl
theorem ag5:env.fn 198=none:=rfl
theorem Si:env.dA 198=some [none,some (.int .i64),some (.int .i64)]:=rfl
theorem ag6:env.fn 199=none:=rfl
theorem Sj:env.dA 199=some [none,some (.int .i64),some (.int .i64)]:=rfl
theorem ag7:env.fn 200=none:=rfl
theorem Sl:env.dA 200=some [none]:=rfl
theorem ag8:env.fn 201=none:=rfl
theorem Sm:env.dA 201=some [none,none]:=rfl
theorem AS:env.m3 208 "Len" =some (197,some 204):=by kernel_rfl
theorem y5:env.m3 208 "Less" =some (198,some 204):=by kernel_rfl
theorem y6:env.m3 208 "Swap" =some (199,some 204):=by kernel_rfl
theorem y7:env.m3 208 "Push" =some (201,none):=by kernel_rfl
theorem AT:env.m3 208 "Pop" =some (200,none):=by kernel_rfl
theorem ag9:env.P.funcs[8]?=some Tryz.f8:=rfl
theorem bm0:env.P.funcs[9]?=some Tryz.f9:=rfl
theorem ap4:env.P.funcs[10]?=some Tryz.f10:=rfl
theorem a97:env.P.funcs[12]?=some Tryz.f12:=rfl
theorem ap5:env.P.funcs[14]?=some Tryz.f14:=rfl
theorem ap6:env.P.funcs[16]?=some Tryz.f16:=rfl
theorem ap7:env.P.funcs[18]?=some Tryz.f18:=rfl
theorem KR:env.P.funcs[20]?=some Tryz.f20:=rfl
theorem a98:env.P.funcs[27]?=some Tryz.f27:=rfl
theorem a99:env.P.funcs[28]?=some Tryz.f28:=rfl
theorem ap8:env.P.funcs[30]?=some Tryz.f30:=rfl
theorem ba0:env.P.funcs[31]?=some Tryz.f31:=rfl
theorem ap9:env.P.funcs[32]?=some Tryz.f32:=rfl
theorem ba1:env.P.funcs[33]?=some Tryz.f33:=rfl
theorem Sn:env.P.funcs[34]?=some Tryz.f34:=rfl
theorem ba2:env.P.funcs[35]?=some Tryz.f35:=rfl
theorem aq0:env.P.funcs[36]?=some Tryz.f36:=rfl
theorem aq1:env.P.funcs[37]?=some Tryz.f37:=rfl
theorem ba3:env.P.funcs[39]?=some Tryz.f39:=rfl
theorem So:env.P.funcs[41]?=some Tryz.f41:=rfl
theorem ba4:env.P.funcs[44]?=some Tryz.f44:=rfl
theorem ba5:env.P.funcs[45]?=some Tryz.f45:=rfl
theorem ba6:env.P.funcs[48]?=some Tryz.f48:=rfl
theorem ba7:env.P.funcs[49]?=some Tryz.f49:=rfl
theorem ba8:env.P.funcs[51]?=some Tryz.f51:=rfl
theorem ba9:env.P.funcs[53]?=some Tryz.f53:=rfl
theorem aq2:env.P.funcs[55]?=some Tryz.f55:=rfl
theorem KS:env.P.funcs[56]?=some Tryz.f56:=rfl
theorem aq3:env.P.funcs[60]?=some Tryz.f60:=rfl
theorem bb0:env.P.funcs[61]?=some Tryz.f61:=rfl
theorem bb1:env.P.funcs[62]?=some Tryz.f62:=rfl
theorem bb2:env.P.funcs[63]?=some Tryz.f63:=rfl
theorem bb3:env.P.funcs[64]?=some Tryz.f64:=rfl
theorem aq4:env.P.funcs[65]?=some Tryz.f65:=rfl
theorem Ge:env.P.funcs[66]?=some Tryz.f66:=rfl
theorem bb4:env.P.funcs[67]?=some Tryz.f67:=rfl
theorem bb5:env.P.funcs[68]?=some Tryz.f68:=rfl
theorem aq5:env.P.funcs[69]?=some Tryz.f69:=rfl
theorem aq6:env.P.funcs[70]?=some Tryz.f70:=rfl
theorem BW:env.P.funcs[71]?=some Tryz.f71:=rfl
theorem Sq:env.P.funcs[72]?=some Tryz.f72:=rfl
theorem aq7:env.P.funcs[73]?=some Tryz.f73:=rfl
theorem y8:env.P.funcs[74]?=some Tryz.f74:=rfl
theorem KT:env.P.funcs[75]?=some Tryz.f75:=rfl
theorem v3:env.P.funcs[76]?=some Tryz.f76:=rfl
theorem bb6:env.P.funcs[81]?=some Tryz.f81:=rfl
theorem bb7:env.P.funcs[82]?=some Tryz.f82:=rfl
theorem bb8:env.P.funcs[85]?=some Tryz.f85:=rfl
theorem bb9:env.P.funcs[86]?=some Tryz.f86:=rfl
theorem bc0:env.P.funcs[87]?=some Tryz.f87:=rfl
theorem bc1:env.P.funcs[88]?=some Tryz.f88:=rfl
theorem bc2:env.P.funcs[89]?=some Tryz.f89:=rfl
theorem bc3:env.P.funcs[90]?=some Tryz.f90:=rfl
theorem bc4:env.P.funcs[91]?=some Tryz.f91:=rfl
theorem bc5:env.P.funcs[92]?=some Tryz.f92:=rfl
theorem bc6:env.P.funcs[93]?=some Tryz.f93:=rfl
theorem bc7:env.P.funcs[94]?=some Tryz.f94:=rfl
theorem bc8:env.P.funcs[95]?=some Tryz.f95:=rfl
theorem bc9:env.P.funcs[96]?=some Tryz.f96:=rfl
theorem bd0:env.P.funcs[97]?=some Tryz.f97:=rfl
theorem aR0:env.P.funcs[100]?=some Tryz.f100:=rfl
theorem Sr:env.P.funcs[101]?=some Tryz.f101:=rfl
theorem aR1:env.P.funcs[102]?=some Tryz.f102:=rfl
theorem aR2:env.P.funcs[110]?=some Tryz.f110:=rfl
theorem Ss:env.P.funcs[111]?=some Tryz.f111:=rfl
theorem Su:env.P.funcs[112]?=some Tryz.f112:=rfl
theorem o5:env.P.funcs[113]?=some Tryz.f113:=rfl
theorem aR3:env.P.funcs[114]?=some Tryz.f114:=rfl
theorem aR4:env.P.funcs[115]?=some Tryz.f115:=rfl
theorem aR5:env.P.funcs[116]?=some Tryz.f116:=rfl
theorem aR6:env.P.funcs[117]?=some Tryz.f117:=rfl
theorem aR7:env.P.funcs[118]?=some Tryz.f118:=rfl
theorem Sv:env.P.funcs[119]?=some Tryz.f119:=rfl
theorem aR8:env.P.funcs[120]?=some Tryz.f120:=rfl
theorem aR9:env.P.funcs[121]?=some Tryz.f121:=rfl
theorem Jh:env.P.funcs[122]?=some Tryz.f122:=rfl
theorem DE:env.P.funcs[123]?=some Tryz.f123:=rfl
theorem Sw:env.P.funcs[124]?=some Tryz.f124:=rfl
theorem aS0:env.P.funcs[125]?=some Tryz.f125:=rfl
theorem y9:env.P.funcs[126]?=some Tryz.f126:=rfl
theorem Sx:env.P.funcs[127]?=some Tryz.f127:=rfl
theorem u4:env.P.funcs[128]?=some Tryz.f128:=rfl
theorem DF:env.P.funcs[131]?=some Tryz.f131:=rfl
theorem Sy:env.P.funcs[132]?=some Tryz.f132:=rfl
theorem Sz:env.P.funcs[136]?=some Tryz.f136:=rfl
theorem aS1:env.P.funcs[137]?=some Tryz.f137:=rfl
theorem Ji:env.P.funcs[139]?=some Tryz.f139:=rfl
theorem aS2:env.P.funcs[140]?=some Tryz.f140:=rfl
theorem Jj:env.P.funcs[141]?=some Tryz.f141:=rfl
theorem SA:env.P.funcs[142]?=some Tryz.f142:=rfl
theorem SB:env.P.funcs[143]?=some Tryz.f143:=rfl
theorem aS3:env.P.funcs[144]?=some Tryz.f144:=rfl
theorem zd:env.P.funcs[145]?=some Tryz.f145:=rfl
theorem aS4:env.P.funcs[146]?=some Tryz.f146:=rfl
theorem aS5:env.P.funcs[147]?=some Tryz.f147:=rfl
theorem aS6:env.P.funcs[148]?=some Tryz.f148:=rfl
theorem SC:env.P.funcs[149]?=some Tryz.f149:=rfl
theorem aS7:env.P.funcs[150]?=some Tryz.f150:=rfl
theorem aS8:env.P.funcs[151]?=some Tryz.f151:=rfl
theorem SD:env.P.funcs[152]?=some Tryz.f152:=rfl
theorem aS9:env.P.funcs[153]?=some Tryz.f153:=rfl
theorem SE:env.P.funcs[154]?=some Tryz.f154:=rfl
theorem aT0:env.P.funcs[157]?=some Tryz.f157:=rfl
theorem aT1:env.P.funcs[158]?=some Tryz.f158:=rfl
theorem aT2:env.P.funcs[159]?=some Tryz.f159:=rfl
theorem Jk:env.P.funcs[160]?=some Tryz.f160:=rfl
theorem aT3:env.P.funcs[161]?=some Tryz.f161:=rfl
theorem aT4:env.P.funcs[163]?=some Tryz.f163:=rfl
theorem aT5:env.P.funcs[164]?=some Tryz.f164:=rfl
theorem aT6:env.P.funcs[165]?=some Tryz.f165:=rfl
theorem aT7:env.P.funcs[167]?=some Tryz.f167:=rfl
theorem SF:env.P.funcs[168]?=some Tryz.f168:=rfl
theorem aT8:env.P.funcs[169]?=some Tryz.f169:=rfl
theorem aT9:env.P.funcs[170]?=some Tryz.f170:=rfl
theorem aU0:env.P.funcs[171]?=some Tryz.f171:=rfl
theorem aU1:env.P.funcs[176]?=some Tryz.f176:=rfl
theorem SG:env.P.funcs[178]?=some Tryz.f178:=rfl
theorem aU2:env.P.funcs[179]?=some Tryz.f179:=rfl
theorem aU3:env.P.funcs[197]?=some Tryz.f197:=rfl
theorem aU4:env.P.funcs[198]?=some Tryz.f198:=rfl
theorem aU5:env.P.funcs[199]?=some Tryz.f199:=rfl
theorem aU6:env.P.funcs[200]?=some Tryz.f200:=rfl
theorem aU7:env.P.funcs[201]?=some Tryz.f201:=rfl
attribute[go_sem]QF QG QH QI QJ QK a80 a81 a82 a83 a84 a85 a86 a87 a88 az8 az9 aA0 aA1 aA2 aA3 aA4 aA5 aA6 aA7 aA8 aA9 aB0 aB1 aB2 aB3 aB4 aB5 aB6 aB7 aB8 aB9 aC0 aC1 aC2 aC3 aC4 aC5 aC6 aC7 aC8 aC9 aD0 aD1 aD2 aD3 aD4 aD5 aD6 aD7 aD8 aD9 aE0 aE1 aE2 aE3 aE4 aE5 aE6 aE7 aE8 aE9 aF0 aF1 aF2 aF3 aF4 aF5 aF6 aF7 aF8 aF9 aG0 aG1 aG2 aG3 aG4 aG5 aG6 aG7 aG8 aG9 aH0 aH1 aH2 aH3 aH4 aH5 aH6 Wj Wl Wm Wn Wo Wp Wq Wr Ws Wt Wu Wv Ww Wx Wy Wz WA WB WC WD WE WG WH WJ WK WL WM WN WO WQ WR WS WT WU WV WW WX WY WZ W0 W1 W2 W3 W4 W5 W6 W7 W8 W9 Xa Xb Xc Xd Xe Xf Xg Xh Xi Xj Xk Xl Xm Xn Xo Xp Xq Xr Xs Xt Xu Xv Xw Xx Xy Xz XA XB XD XE XF XG XI XJ XK XL XM XN XO XP XQ XR XS XT XU XV XW XX XY XZ X0 X1 X2 X3 X4 X5 X6 X7 X8 X9 Ya Yb Yc Yd Ye Yf Yg Yh Yi Yj Yk Yl Ym Yn Yo Yp Yq Yr Ys Yt Yu Yv Yw Yx Yy Yz YA YB YC YD YE YF YG YH YI YJ YK YL YM YN YO YP YQ YR YS YT YU YV YW YX YY YZ Y0 Y1 Y2 Y3 Y4 Y5 Y6 Y7 Y8 Y9 Za Zb Zc Zd aH7 aH8 Ze Zf Zg Zh Zi Zj Zk Zl Zm Zn Zo Zp Zq Zr Zs Zt Zu Zv Zw Zx Zy Zz ZA ZB ZC ZD QL QM QN QO QP QQ QR QS QT QU QV QW QX QY QZ Q0 Q1 Q2 Q3 Q4 Q5 Q6 Q7 Q8 Q9 Ra Rb Rc Rd Re Rf Rg Rh Ri Rj Rk ZE ZF Rm aH9 aI0 ZG ZH ZI ZJ ZK ZL ZM ZN ZO ZP ZQ ZR ZS ZT Rn Ro Rp Rq Rr Rs Ru Rv Rw Rx Ry Rz RA RB RD RE RF RG RH RK RL RM RN RO RP a89 a90 a91 a92 a93 a94 a95 a96 aI1 aI2 aI3 aI4 aI5 aI6 aI7 aI8 aI9 aJ0 aJ1 aJ2 aJ3 aJ4 aJ5 aJ6 aJ7 aJ8 aJ9 aK0 aK1 aK2 aK3 aK4 aK5 aK6 aK7 aK8 aK9 aL0 aL1 aL2 aL3 aL4 aL5 aL6 aL7 aL8 aL9 aM0 aM1 aM2 aM3 aM4 aM5 aM6 aM7 aM8 aM9 aN0 aN1 aN2 aN3 aN4 aN5 aN6 aN7 aN8 aN9 aO0 aO1 aO2 aO3 aO4 aO5 aO6 aO7 aO8 aO9 aP0 aP1 aP2 aP3 aP4 ZU ZV ZW ZX ZY ZZ Z0 Z1 Z2 Z3 Z4 Z5 Z6 Z7 Z8 Z9 aa0 aa1 aa2 aa3 aa4 aa5 aa6 aa7 aa8 aa9 ab0 ab1 ab2 ab3 ab4 ab5 ab6 ab7 ab8 ab9 ac0 ac1 ac2 ac3 ac4 ac5 ac6 ac7 ac8 ac9 ad0 ad1 ad2 ad3 aP5 aP6 aP7 aP8 aP9 aQ0 aQ1 aQ2 aQ3 aQ4 aQ5 aQ6 aQ7 ad4 ad5 ad6 ad7 ad8 aQ8 ad9 aQ9 ae0 ae1 RQ ae2 RR ae3 RS ae4 RT ae5 RU ae6 RV ae7 RW ae8 RX ae9 RY af0 RZ af1 R0 af2 R3 af3 R4 af4 R5 af5 R6 af6 R8 af7 R9 af8 Sb af9 Sc ag0 Sd ag1 Se ag2 Sf ag3 Sg ag4 Sh ag5 Si ag6 Sj ag7 Sl ag8 Sm AS y5 y6 y7 AT az7 a74 az5 a73 az6 a75 a78 a79 a76 a77
instance drI:jN False:=⟨⟩
end Go.Proofs.YtgpkijnphchkpaaGreat
namespace Go.Proofs.YtgpkijnphchkpaaGreat
attribute[local go_sem←]Bool.decide_and Bool.decide_or decide_not
set_option maxHeartbeats 4000000
set_option maxRecDepth 100000
theorem aw {x:Int} (h: -9223372036854775808≤x)(h':x≤9223372036854775807):IntKind.i64.min≤x∧x≤IntKind.i64.max:=⟨h,h'⟩
theorem aU8 {x:Int} (h:IntKind.i64.min≤x∧x≤IntKind.i64.max): -9223372036854775808≤x∧x≤9223372036854775807:=h
theorem aq8 {x:Int} (h:0≤x)(h':x≤255):IntKind.u8.min≤x∧x≤IntKind.u8.max:=⟨h,h'⟩
theorem lV {x:Int} (h:IntKind.u8.min≤x∧x≤IntKind.u8.max):0≤x∧x≤255:=h
theorem drop_cons {α:Type} {xs:List α} {i:Nat} {x:α} (h:xs[i]?=some x):xs.drop i=x::xs.drop (i+1):=by obtain⟨hi,e⟩:=List.getElem?_eq_some_iff.1 h;rw[List.drop_eq_getElem_cons hi,e]
theorem aY {α:Type} {xs:List α} {i:Nat} {x:α} (h:xs[i]?=some x):xs.take (i+1)=xs.take i++ [x]:=by rw[List.take_add_one,h];rfl
theorem an {α:Type} {xs:List α} {i:Nat} (h:i<xs.length): ∃x,xs[i]?=some x:=⟨_,List.getElem?_eq_getElem h⟩
theorem lh {α:Type} {xs:List α} {i:Nat} {x:α} {p:α→Bool} (h:xs[i]?=some x):(xs.take (i+1)).all p=((xs.take i).all p&&p x):=by rw[aY h,List.all_append];simp
theorem rF {α:Type} {xs:List α} {i:Nat} {x:α} {p:α→Bool} (h:xs[i]?=some x)(hp:p x=false):xs.all p=false:=by rw[List.all_eq_false];exact⟨x,List.mem_of_getElem? h,by simp[hp]⟩
theorem ah.aU9 {E:Env} {G:Goal} {todo:List WI} {X:Type} (t:X→St)(inv:X→Prop) {A:Prop} (h:(∀s x,inv x→Le s (t x)→ah E G todo s)→A)(hw: ∀x,inv x→ah E G todo (t x)):A:=h fun s x hx hl=>ah.weaken hl (hw x hx)
theorem PC.dec {E:Env} {f:Nat} {xs:List (Sigma Ty.den)} {b:Bool} (h:PC E f xs .bool b):PC E f xs .bool (decide (b=true)):=by cases b<;>exact h
theorem HC.dV {E:Env} {f:Nat} {args:List PV} {bl bl':List (Nat×aO)} {p:PV} (l:List (Nat×Nat))(hp:rC l=true)(h:HC E f args bl p bl'):HC E f args bl (p.dV (aS l)) (iS (aS l) bl'):=by
 intro w S ν0 vs a1 a2 a3 a4 a5 a6;refine(h w S ν0 vs a1 a2 a3 a4 a5 a6).mono ?_;rintro e w'⟨v,rfl,hk,ν,S',b1,b2,b3,hW,hv⟩;refine⟨v,rfl,hk,?_⟩;obtain⟨h1,h2,h3⟩:=yU hp
 (have inj: ∀i j,aS l i=aS l j→i=j:=fun i j e=>by rw[←h1 i,←h1 j,e]);have FX: ∀i b,look i bl'=some b→look (aS l i) (iS (aS l) bl')=some (b.map (PV.dD (aS l))):=fun i b hb=>gw (fun j c _ e=>inj j i e) hb
 have hold: ∀i b,look i (iS (aS l) bl')=some b→ ∃j c,aS l j=i∧look j bl'=some c∧b=c.map (PV.dD (aS l)):=fun i b hb=>kU (fun j k _ _ _ _ e=>inj j k e) hb;have hle:Ctx.Ul (keys bl') (aS l) ⟨ν,(⟨[],bl'⟩:St).D,w',⟨S',aL w ⟨S,fU ν0 bl,ν0,[]⟩⟩⟩ ⟨fun i=>ν (aS (bS l) i),(⟨[],iS (aS l) bl'⟩:St).D,w',⟨S',aL w ⟨S,fU ν0 bl,ν0,[]⟩⟩⟩:=⟨fun _ _=>rfl,fun _ h=>h,fun i _⟨b,hb⟩=>⟨_,FX i b hb⟩,fun i _ _=>by simp only[h1]⟩
 (have o6: ∀j,P0≤aS l j→P0≤j:=fun j hi=>by rcases Nat.lt_or_ge j P0 with h'|h';(·exfalso;have e:=h3 (aS l j) hi;have:=inj _ _ e;omega);·exact h');refine⟨fun i=>ν (aS (bS l) i),S',b1,b2,fun i hi⟨b,hb⟩=>?_,⟨hW.lt,hW.size,fun i b hb=>?_,fun i j b c fi hi hj g hg fh=>?_⟩,iy hle (mz (fun _ h=>h) hv) hv⟩
 (·obtain⟨j,c,rfl,hc,_⟩:=hold i b hb;have hj:=o6 j hi;rw[h3 j hj];(have e:aS (bS l) j=j:=by have:=h1 j;rw[h3 j hj]at this;exact this);simp only[e];exact b3 j hj ⟨c,hc⟩)
 (·obtain⟨j,c,rfl,hc,rfl⟩:=hold i b hb;have hr:=hW.cv j c hc;exact oR hle (p6 (fun _ h=>h) hr) (by simp only[h1]) (fun g hg=>⟨rfl,(gG hr hg).1,(gG hr hg).2.1⟩) hr)
 ·obtain⟨i',b',rfl,ja,_⟩:=hold i b hi;obtain⟨j',c',rfl,iM,_⟩:=hold j c hj;simp only[h1]at hg fh;exact hW.ne i' j' b' c' (fun e=>fi (by rw[e])) ja iM g hg fh
abbrev aI:=List UInt8
abbrev Rl:=Int×Int×aI×aI×Int
abbrev cB:=Int×Int×List Rl
instance bm1:DecidableEq Rl:=fun a b=>inferInstanceAs(Decidable ((a:Int×Int×aI×aI×Int)=b))
def u5(n a b:Int):Bool:=decide (a≤n∧n≤b)
def low(u:UInt8):Bool:=decide (97≤u.toNat∧u.toNat≤122)
def ze(u:UInt8):Bool:=decide (97≤u.toNat∧u.toNat≤122∨65≤u.toNat∧u.toNat≤90∨48≤u.toNat∧u.toNat≤57)
def Gf(n m:Int):Bool:=decide (0≤m∧m<n∧m<8)
def KU(n:Int)(r:Rl):Bool:=Gf n r.1&&Gf n r.2.1&&u5 r.2.2.2.2 0 1000
def mI(a m:Int):Bool:=decide (a/2^m.toNat%2=1)
theorem DG {a:Int} (h:0≤a):((a.toNat &&& (1:Int).toNat:Nat):Int)=a%2:=by show((a.toNat &&& 1:Nat):Int)=_;rw[Nat.and_one_is_mod];omega
theorem u6 {a:Int} (h:0≤a)(m:Nat):0≤a/2^m:=Int.ediv_nonneg h (Int.le_of_lt (Int.pow_pos (by decide)))
theorem SH(v a b:Int):PC env 55 [⟨.int .i64,v⟩,⟨.int .i64,a⟩,⟨.int .i64,b⟩] .bool (u5 v a b):=by
 refine PC.ay (m:=2000) ae aq2 rfl rfl rfl rfl (by kernel_rfl) ?_;intro hx;simp only[Tryz.f55];simp only[go_sem,zA,↓reduceIte,↓reduceDIte,zB,zC,zD,zE,zF,zG,zH,zI]
 unfold u5;refine⟨fun h=>?_,fun h=>?_⟩;(·congr 1;simp;omega);·symm;simp;omega
theorem KV(s:aI):PC env 60 [⟨.str,s⟩] .bool (s.all low):=by
 refine PC.ay (m:=2000) ae aq3 rfl rfl rfl rfl (by kernel_rfl) ?_;intro hx;simp only[Tryz.f60];simp only[go_sem,zA,↓reduceIte,↓reduceDIte,zB,zC,zD,zE,zF,zG,zH,zI]
 have hlen:s.length≤9223372036854775807:=hx.1;refine ah.bE (X:=Nat) (fun(i:Nat)=>[(3,.iv (.int .i64) (i:Int))]) (fun(i:Nat)=>[]) (fun(i:Nat)=>i≤s.length∧(s.take i).all low=true) (fun(i:Nat)=>s.length-i) 0 ?_
 intro b1 b2 ba bq;simp(config:= {maxSteps:=4000000})only[go_sem,zA,↓reduceIte,↓reduceDIte,zB,zC,zD,zE,zF,zG,zH,zI]at ba bq;subst ba;subst bq;refine⟨(by refine⟨?_,?_,rfl,rfl⟩<;>repeat' (first|exact trivial|exact Or.inl rfl|exact Or.inr rfl|apply br|apply bt|apply bu|apply bA|exact⟨(by show(_:Nat)<1000000000;omega),rfl,rfl⟩|rfl|(refine And.intro (Or.inl ?_) ?_)|(refine And.intro ?_ ?_))),?_,?_⟩
 (·exact⟨Nat.zero_le _,rfl⟩);intro i⟨hi,hb⟩back;refine av ae ⟨_,aq3,rfl⟩ 2000 _ _ (by kernel_rfl) ?_;simp only[go_sem,zA,↓reduceIte,↓reduceDIte,zB,zC,zD,zE,zF,zG,zH,zI]
 refine⟨fun h=>?_,fun h=>?_⟩;(·obtain⟨x,dv⟩: ∃x,s[i]?=some x:=an (by omega);have n6:low x=false→false=s.all low:=fun hl=>(rF dv hl).symm;(have M5:low x=true→(s.take (i+1)).all low=true:=fun hl=>by rw[lh dv,hb,hl];rfl);refine⟨Int.natCast_nonneg _,_,⟨x,dv,rfl⟩,?_⟩;(repeat' (first|(with_reducible intro _)|(with_reducible apply And.intro)|(with_reducible refine Exists.intro _ (And.intro (Exists.intro x (And.intro dv rfl)) ?_))));all_goals first|(refine n6 ?_;simp[low];omega)|(with_reducible exact Int.natCast_nonneg _)|omega|(refine back _ (i+1) (by refine⟨?_,?_,rfl,rfl⟩<;>repeat' (first|exact trivial|exact Or.inl rfl|exact Or.inr rfl|apply br|apply bt|apply bu|apply bA|exact⟨(by show(_:Nat)<1000000000;omega),rfl,rfl⟩|rfl|(refine And.intro (Or.inl ?_) ?_)|(refine And.intro ?_ ?_))) ⟨by omega,M5 ?_⟩ (by omega);simp[low];omega)|skip)
 ·rw[List.take_of_length_le (by omega)]at hb;rw[hb]
theorem xg(s:aI):PC env 56 [⟨.str,s⟩] .bool (s.all ze):=by
 refine PC.ay (m:=2000) ae KS rfl rfl rfl rfl (by kernel_rfl) ?_;intro hx;simp only[Tryz.f56];simp only[go_sem,zA,↓reduceIte,↓reduceDIte,zB,zC,zD,zE,zF,zG,zH,zI]
 have hlen:s.length≤9223372036854775807:=hx.1;refine ah.bE (X:=Nat) (fun(i:Nat)=>[(3,.iv (.int .i64) (i:Int))]) (fun(i:Nat)=>[]) (fun(i:Nat)=>i≤s.length∧(s.take i).all ze=true) (fun(i:Nat)=>s.length-i) 0 ?_
 intro b1 b2 ba bq;simp(config:= {maxSteps:=4000000})only[go_sem,zA,↓reduceIte,↓reduceDIte,zB,zC,zD,zE,zF,zG,zH,zI]at ba bq;subst ba;subst bq;refine⟨(by refine⟨?_,?_,rfl,rfl⟩<;>repeat' (first|exact trivial|exact Or.inl rfl|exact Or.inr rfl|apply br|apply bt|apply bu|apply bA|exact⟨(by show(_:Nat)<1000000000;omega),rfl,rfl⟩|rfl|(refine And.intro (Or.inl ?_) ?_)|(refine And.intro ?_ ?_))),?_,?_⟩
 (·exact⟨Nat.zero_le _,rfl⟩);intro i⟨hi,hb⟩back;refine av ae ⟨_,KS,rfl⟩ 2000 _ _ (by kernel_rfl) ?_;simp only[go_sem,zA,↓reduceIte,↓reduceDIte,zB,zC,zD,zE,zF,zG,zH,zI]
 refine⟨fun h=>?_,fun h=>?_⟩;(·obtain⟨x,dv⟩: ∃x,s[i]?=some x:=an (by omega);have n6:ze x=false→false=s.all ze:=fun hl=>(rF dv hl).symm;(have M5:ze x=true→(s.take (i+1)).all ze=true:=fun hl=>by rw[lh dv,hb,hl];rfl);refine⟨Int.natCast_nonneg _,_,⟨x,dv,rfl⟩,?_⟩;(repeat' (first|(with_reducible intro _)|(with_reducible apply And.intro)));all_goals first|(refine n6 ?_;simp[ze];omega)|(with_reducible exact Int.natCast_nonneg _)|omega|(refine back _ (i+1) (by refine⟨?_,?_,rfl,rfl⟩<;>repeat' (first|exact trivial|exact Or.inl rfl|exact Or.inr rfl|apply br|apply bt|apply bu|apply bA|exact⟨(by show(_:Nat)<1000000000;omega),rfl,rfl⟩|rfl|(refine And.intro (Or.inl ?_) ?_)|(refine And.intro ?_ ?_))) ⟨by omega,M5 ?_⟩ (by omega);simp[ze];omega)|exact(aw (by omega) (by omega)).1|exact(aw (by omega) (by omega)).2|skip)
 ·rw[List.take_of_length_le (by omega)]at hb;rw[hb]
theorem Gg(s:cB)(m:Int):PC env 170 [⟨al,s⟩,⟨.int .i64,m⟩] .bool (Gf s.1 m):=by
 obtain⟨n,a,l⟩:=s;refine PC.ay (m:=2000) ae aT9 rfl rfl rfl rfl (by kernel_rfl) ?_;intro hx;simp only[Tryz.f170];simp only[go_sem,zA,↓reduceIte,↓reduceDIte,zB,zC,zD,zE,zF,zG,zH,zI]
 unfold Gf;(repeat' (first|(with_reducible intro _)|(with_reducible apply And.intro)));all_goals first|(rw[decide_eq_decide];omega)|(symm;simp;omega)
theorem Jl(s:cB)(r:Rl):PC env 146 [⟨al,s⟩,⟨bg,r⟩] .bool (KU s.1 r):=by
 obtain⟨n,a,l⟩:=s;obtain⟨fr,t,i,o,c⟩:=r;have h1:=(Gg (n,a,l) fr).dec;have h2:=(Gg (n,a,l) t).dec;refine PC.ay (m:=2000) ae aS4 rfl rfl rfl rfl (by kernel_rfl) ?_
 intro hx;simp only[Tryz.f146];simp only[go_sem,zA,↓reduceIte,↓reduceDIte,zB,zC,zD,zE,zF,zG,zH,zI];(repeat' (first|(with_reducible intro _)|(with_reducible apply And.intro)|(with_reducible refine⟨_,h1,?_⟩;try simp only[go_sem,zA,↓reduceIte,↓reduceDIte,zB,zC,zD,zE,zF,zG,zH,zI])|(with_reducible refine⟨_,h2,?_⟩;try simp only[go_sem,zA,↓reduceIte,↓reduceDIte,zB,zC,zD,zE,zF,zG,zH,zI])|fail))
 all_goals(unfold KU u5;dsimp only at*;simp_all;try omega)
theorem Gh(s:cB)(m:Int)(h0:0≤m∧m<8):PC env 169 [⟨al,s⟩,⟨.int .i64,m⟩] .bool (mI s.2.1 m):=by
 obtain⟨n,a,l⟩:=s;refine PC.ay (m:=2000) ae aT8 rfl rfl rfl rfl (by kernel_rfl) ?_;intro hx;simp only[Tryz.f169];simp only[go_sem,zA,↓reduceIte,↓reduceDIte,zB,zC,zD,zE,zF,zG,zH,zI]
 have ha:=lV hx.1.2.1;dsimp only at ha;exact⟨⟨ha.1,h0⟩,u6 ha.1 _,by show decide (((_ &&& (1:Int).toNat:Nat):Int)=1)=_;rw[DG (u6 ha.1 _)];rfl⟩
end Go.Proofs.YtgpkijnphchkpaaGreat
namespace Go.Proofs.YtgpkijnphchkpaaGreat
attribute[local go_sem←]Bool.decide_and Bool.decide_or decide_not
set_option maxHeartbeats 4000000
set_option maxRecDepth 100000
def cS(n:Int)(r:Rl):Bool:=u5 r.1 0 (n-1)&&u5 r.2.1 0 (n-1)&&decide (r.2.2.1.length≤4)&&r.2.2.1.all low&&decide (r.2.2.2.1.length≤4)&&r.2.2.2.1.all ze&&u5 r.2.2.2.2 0 1000
def eB(n:Int)(l:List Rl)(i:Nat):Bool:=match l[i]? with|some r=>decide (r∉l.take i)&&cS n r|none=>false
theorem tk(s:cB)(i:Nat)(hn:0≤s.1)(hi:i<s.2.2.length):PC env 73 [⟨al,s⟩,⟨.int .i64,(i:Int)⟩] .bool (eB s.1 s.2.2 i):=by
 obtain⟨n,a,l⟩:=s;obtain⟨r,hr⟩: ∃r,l[i]?=some r:=an hi;dsimp only at hn hi;(have HJ:eB n l i=(decide (r∉l.take i)&&cS n r):=by unfold eB;rw[hr]);dsimp only;rw[HJ]
 clear HJ;obtain⟨fr,t,ri,ro,c⟩:=r;refine PC.ay (m:=2000) ae aq7 rfl rfl rfl rfl (by kernel_rfl) ?_;intro hx;simp only[Tryz.f73];simp only[go_sem,zA,↓reduceIte,↓reduceDIte,zB,zC,zD,zE,zF,zG,zH,zI]
 have wG:l.length≤9223372036854775807:=hx.1.2.2.1;have hnn:=aU8 hx.1.1;dsimp only at hnn;refine⟨Int.natCast_nonneg _,_,hr,?_⟩;refine ah.bE (X:=Nat) (fun(k:Nat)=>[(6,.iv (.int .i64) (k:Int))]) (fun(k:Nat)=>[]) (fun(k:Nat)=>k≤i∧(fr,t,ri,ro,c)∉l.take k) (fun(k:Nat)=>i-k) 0 ?_
 intro b1 b2 ba bq;simp(config:= {maxSteps:=4000000})only[go_sem,zA,↓reduceIte,↓reduceDIte,zB,zC,zD,zE,zF,zG,zH,zI]at ba bq;subst ba;subst bq;refine⟨(by refine⟨?_,?_,rfl,rfl⟩<;>repeat' (first|exact trivial|exact Or.inl rfl|exact Or.inr rfl|apply br|apply bt|apply bu|apply bA|exact⟨(by show(_:Nat)<1000000000;omega),rfl,rfl⟩|rfl|(refine And.intro (Or.inl ?_) ?_)|(refine And.intro ?_ ?_))),?_,?_⟩
 (·exact⟨Nat.zero_le _,by simp⟩);intro k⟨hk,he⟩back;refine av ae ⟨_,aq7,rfl⟩ 2000 _ _ (by kernel_rfl) ?_;simp only[go_sem,zA,↓reduceIte,↓reduceDIte,zB,zC,zD,zE,zF,zG,zH,zI]
 refine⟨fun h2=>?_,fun h2=>?_⟩;(·obtain⟨x,dv⟩: ∃x,l[k]?=some x:=an (by omega);refine⟨Int.natCast_nonneg _,x,dv,fun hy=>?_,fun hn=>?_⟩;(·(have e:x=(fr,t,ri,ro,c):=by obtain⟨e1,e2,e3,e4,e5⟩:=hy;exact Prod.ext e1 (Prod.ext e2 (Prod.ext e3 (Prod.ext e4 e5))));(have hm:(fr,t,ri,ro,c)∈l.take i:=by rw[←e];refine List.mem_of_getElem? (i:=k) ?_;rw[List.getElem?_take,if_pos (by omega)];exact dv);rw[decide_eq_false (by simpa using hm)];rfl);·refine⟨aw (by omega) (by omega),back _ (k+1) (by refine⟨?_,?_,rfl,rfl⟩<;>repeat' (first|exact trivial|exact Or.inl rfl|exact Or.inr rfl|apply br|apply bt|apply bu|apply bA|exact⟨(by show(_:Nat)<1000000000;omega),rfl,rfl⟩|rfl|(refine And.intro (Or.inl ?_) ?_)|(refine And.intro ?_ ?_))) ⟨by omega,?_⟩ (by omega)⟩;rw[aY dv,List.mem_append,List.mem_singleton];rintro(h|h);(·exact he h);·subst h;exact hn ⟨rfl,rfl,rfl,rfl,rfl⟩)
 ·(obtain rfl:k=i:=by omega);have hd:decide (¬(fr,t,ri,ro,c)∈List.take k l)=true:=decide_eq_true he;rw[hd];clear back;have d1:=(SH fr 0 (n-1)).dec;have d2:=(SH t 0 (n-1)).dec;have d3:=(KV ri).dec;have d4:=(xg ro).dec;have d5:=(SH c 0 1000).dec;have hR:cS n (fr,t,ri,ro,c)=(u5 fr 0 (n-1)&&u5 t 0 (n-1)&&decide (ri.length≤4)&&ri.all low&&decide (ro.length≤4)&&ro.all ze&&u5 c 0 1000):=rfl;rw[hR];generalize ri.all low=b3 at*;generalize ro.all ze=b4 at*;refine⟨aw (by omega) (by omega),?_⟩;(repeat' (first|(with_reducible intro _)|(with_reducible apply And.intro)|(with_reducible refine⟨_,d1,?_⟩;try simp only[go_sem,zA,↓reduceIte,↓reduceDIte,zB,zC,zD,zE,zF,zG,zH,zI])|(with_reducible refine⟨_,d2,?_⟩;try simp only[go_sem,zA,↓reduceIte,↓reduceDIte,zB,zC,zD,zE,zF,zG,zH,zI])|(with_reducible refine⟨_,d3,?_⟩;try simp only[go_sem,zA,↓reduceIte,↓reduceDIte,zB,zC,zD,zE,zF,zG,zH,zI])|(with_reducible refine⟨_,d4,?_⟩;try simp only[go_sem,zA,↓reduceIte,↓reduceDIte,zB,zC,zD,zE,zF,zG,zH,zI])|(with_reducible refine⟨_,d5,?_⟩;try simp only[go_sem,zA,↓reduceIte,↓reduceDIte,zB,zC,zD,zE,zF,zG,zH,zI])|fail));all_goals first|omega|(simp_all;try omega)
end Go.Proofs.YtgpkijnphchkpaaGreat
namespace Go.Proofs.YtgpkijnphchkpaaGreat
attribute[local go_sem←]Bool.decide_and Bool.decide_or decide_not
attribute[local go_sem]Int.reduceEq not_true_eq_false not_false_eq_true false_implies
set_option maxHeartbeats 4000000
set_option maxRecDepth 100000
theorem KW(s:cB)(h:0≤s.1∧s.1≤8):HC env 165 [.iv al s] [] (.aF 7) [(7,.arr .bool (List.replicate s.1.toNat false))]:=by
 obtain⟨n,a,l⟩:=s;dsimp only at h;refine HC.ay (m:=2000) ae aT6 rfl rfl rfl rfl (by kernel_rfl) ?_;intro hx jW;simp only[Tryz.f165];simp only[go_sem,zA,↓reduceIte,↓reduceDIte,zB,zC,zD,zE,zF,zG,zH,zI]
 (have e:min (max n 0) 8=n:=by omega);rw[e];exact⟨⟨h.1,Int.le_trans h.2 (by decide)⟩,rfl⟩
abbrev Pr:=Int×Int
def ew(p q:Pr):Bool:=decide (p.1<q.1∨p.1=q.1∧p.2<q.2)
def bd1(p:Pr)(c:Int):Pr:=(p.1+c,p.2+1)
def bx(w:Int×Int)(i o:aI):Rl:=(w.1,w.2,i,o,(i.length:Int))
theorem mJ(w:Int×Int)(i o:aI):PC env 118 [⟨.st (.pair (.int .i64) (.int .i64)),w⟩,⟨.str,i⟩,⟨.str,o⟩] bg (bx w i o):=by
 obtain⟨w1,w2⟩:=w;refine PC.ay (m:=2000) ae aR7 rfl rfl rfl rfl (by kernel_rfl) ?_;intro hx;simp only[Tryz.f118];simp only[go_sem,zA,↓reduceIte,↓reduceDIte,zB,zC,zD,zE,zF,zG,zH,zI]
 rfl
abbrev v5:=List Int×List Int×Int×Int×Int
abbrev AU:=Int×Int×List v5
def tn(u:Int):aI:=(([97,98,99]:aI).drop (u%3).toNat).take 1
def zf(u:Int):aI:=(([97,98,99,65,66,49]:aI).drop (u%6).toNat).take 1
def dz(x:v5)(n:Int):Rl:=(x.2.2.1%n,x.2.2.2.1%n,(x.1.take 2).flatMap tn,(x.2.1.take 2).flatMap zf,x.2.2.2.2*2)
theorem KX(x:v5)(n:Int)(hn:0<n):PC env 72 [⟨gz,x⟩,⟨.int .i64,n⟩] bg (dz x n):=by
 obtain⟨xi,xo,xf,xt,xc⟩:=x;refine PC.ay (m:=2000) ae Sq rfl rfl rfl rfl (by kernel_rfl) ?_;intro hx;simp only[Tryz.f72];simp only[go_sem,zA,↓reduceIte,↓reduceDIte,zB,zC,zD,zE,zF,zG,zH,zI]
 have dv: ∀u,u∈xi→0≤u∧u≤255:=fun u hu=>lV (hx.1.1.2 u hu);have hxo: ∀u,u∈xo→0≤u∧u≤255:=fun u hu=>lV (hx.1.2.1.2 u hu);have hli:xi.length≤9223372036854775807:=hx.1.1.1
 have NX:xo.length≤9223372036854775807:=hx.1.2.1.1;have hf:=lV hx.1.2.2.1;have ht:=lV hx.1.2.2.2.1;have hc:=lV hx.1.2.2.2.2;dsimp only at hf ht hc;have t1:Int.tmod xf n=xf%n:=Int.tmod_eq_emod_of_nonneg hf.1
 have t2:Int.tmod xt n=xt%n:=Int.tmod_eq_emod_of_nonneg ht.1;rw[t1,t2];refine⟨hn,hn,aw (by omega) (by omega),?_⟩;(have fin: ∀ {α:Type} {l:List α} {i:Nat} {f:α→aI},¬((i:Int)<2∧(i:Int)<(l.length:Int))→i≤2→i≤l.length→(l.take i).flatMap f=(l.take 2).flatMap f:=by intro α l i f h1 h2 h3;by_cases h:i=2;(·rw[h]);·(have:i=l.length:=by omega);subst this;rw[List.take_of_length_le (Nat.le_refl _),List.take_of_length_le h2])
 (have st: ∀ {l:List Int} {i:Nat} {u:Int} {f:Int→aI},l[i]?=some u→(l.take (i+1)).flatMap f=(l.take i).flatMap f++f u:=by intro l i u f h;rw[aY h,List.flatMap_append];simp)
 (have bm2: ∀u:Int,0≤u→(([97,98,99]:aI).drop (u%3).toNat).take ((u%3+1).toNat-(u%3).toNat)=tn u:=by intro u hu;rw[show(u%3+1).toNat-(u%3).toNat=1 by omega];rfl)
 (have outs: ∀u:Int,0≤u→(([97,98,99,65,66,49]:aI).drop (u%6).toNat).take ((u%6+1).toNat-(u%6).toNat)=zf u:=by intro u hu;rw[show(u%6+1).toNat-(u%6).toNat=1 by omega];rfl)
 (have bm3: ∀u:Int,(tn u).length≤1:=fun u=>by unfold tn;rw[List.length_take];omega);(have a18: ∀u:Int,(zf u).length≤1:=fun u=>by unfold zf;rw[List.length_take];omega)
 (have bm4: ∀l:List Int,(l.flatMap tn).length≤l.length:=by intro l;induction l with|nil=>simp|cons x l ih=>simp only[List.flatMap_cons,List.length_append,List.length_cons,tn,List.length_take];omega)
 (have bm5: ∀l:List Int,(l.flatMap zf).length≤l.length:=by intro l;induction l with|nil=>simp|cons x l ih=>simp only[List.flatMap_cons,List.length_append,List.length_cons,zf,List.length_take];omega)
 refine ah.bE (X:=Nat) (fun(i:Nat)=>[(6,.iv (.int .i64) (i:Int))]) (fun(i:Nat)=>[(5,.box [.iv (.int .i64) (xf%n),.iv (.int .i64) (xt%n),.iv .str ((xi.take i).flatMap tn),.iv .str ([]:aI),.iv (.int .i64) (xc*2)])]) (fun(i:Nat)=>i≤xi.length∧i≤2) (fun(i:Nat)=>2-i) 0 ?_
 intro b1 b2 ba bq;simp(config:= {maxSteps:=4000000})only[go_sem,zA,↓reduceIte,↓reduceDIte,zB,zC,zD,zE,zF,zG,zH,zI]at ba bq;subst ba;subst bq;refine⟨(by refine⟨?_,?_,rfl,rfl⟩<;>repeat' (first|exact trivial|exact Or.inl rfl|exact Or.inr rfl|apply br|apply bt|apply bu|apply bA|exact⟨(by show(_:Nat)<1000000000;omega),rfl,rfl⟩|rfl|(refine And.intro (Or.inl ?_) ?_)|(refine And.intro ?_ ?_))),?_,?_⟩
 (·exact⟨Nat.zero_le _,Nat.zero_le _⟩);intro i⟨hi,N9⟩back;refine av ae ⟨_,Sq,rfl⟩ 2000 _ _ (by kernel_rfl) ?_;simp only[go_sem,zA,↓reduceIte,↓reduceDIte,zB,zC,zD,zE,zF,zG,zH,zI]
 have bm6:bytesOf ⟨#[97,98,99]⟩=([97,98,99]:aI):=rfl;have bm7:bytesOf ⟨#[97,98,99,65,66,49]⟩=([97,98,99,65,66,49]:aI):=rfl;apply ah.aU9 (X:=Unit) (fun _=>⟨[(7,.iv (.int .i64) (0:Int)),(5,.ref 5 0),(4,.ref 4 0),(2,.ref 2 0)],[(5,.box [.iv (.int .i64) (xf%n),.iv (.int .i64) (xt%n),.iv .str ((xi.take 2).flatMap tn),.iv .str ([]:aI),.iv (.int .i64) (xc*2)]),(4,.box [.iv (.int .i64) (0:Int),.iv (.int .i64) (0:Int),.iv .str ([]:aI),.iv .str ([]:aI),.iv (.int .i64) (0:Int)]),(2,.box [.iv (.sl (.int .u8)) xi,.iv (.sl (.int .u8)) xo,.iv (.int .u8) xf,.iv (.int .u8) xt,.iv (.int .u8) xc])]⟩) (fun _=>True)
 (·intro key;refine⟨fun g1=>⟨fun g2=>?_,fun g2=>?_⟩,fun g1=>?_⟩;(·obtain⟨u,hu⟩: ∃u,xi[i]?=some u:=an (by omega);have hub:=dv u (List.mem_of_getElem? hu);have tu:Int.tmod u 3=u%3:=Int.tmod_eq_emod_of_nonneg hub.1;have nU:=bm4 (xi.take i);have bm8:=bm3 u;(have bm9:(xi.take i).length=i:=by rw[List.length_take];omega);refine⟨Int.natCast_nonneg _,u,hu,Int.natCast_nonneg _,u,hu,?_⟩;rw[tu,bm6,bm2 u hub.1];refine⟨aq8 (by omega) (by omega),⟨by omega,by omega,by show u%3+1≤(3:Int);omega⟩,by omega,aw (by omega) (by omega),?_⟩;refine back _ (i+1) ?_ ⟨by omega,by omega⟩ (by omega);rw[←st hu];exact(by refine⟨?_,?_,rfl,rfl⟩<;>repeat' (first|exact trivial|exact Or.inl rfl|exact Or.inr rfl|apply br|apply bt|apply bu|apply bA|exact⟨(by show(_:Nat)<1000000000;omega),rfl,rfl⟩|rfl|(refine And.intro (Or.inl ?_) ?_)|(refine And.intro ?_ ?_))));(·refine key _ () trivial ?_;rw[←fin (by omega) N9 hi];exact(by refine⟨?_,?_,rfl,rfl⟩<;>repeat' (first|exact trivial|exact Or.inl rfl|exact Or.inr rfl|apply br|apply bt|apply bu|apply bA|exact⟨(by show(_:Nat)<1000000000;omega),rfl,rfl⟩|rfl|(refine And.intro (Or.inl ?_) ?_)|(refine And.intro ?_ ?_))));·refine key _ () trivial ?_;rw[←fin (by omega) N9 hi];exact(by refine⟨?_,?_,rfl,rfl⟩<;>repeat' (first|exact trivial|exact Or.inl rfl|exact Or.inr rfl|apply br|apply bt|apply bu|apply bA|exact⟨(by show(_:Nat)<1000000000;omega),rfl,rfl⟩|rfl|(refine And.intro (Or.inl ?_) ?_)|(refine And.intro ?_ ?_))))
 ·intro _ _;clear back hi N9;refine ah.bE (X:=Nat) (fun(i:Nat)=>[(7,.iv (.int .i64) (i:Int))]) (fun(i:Nat)=>[(5,.box [.iv (.int .i64) (xf%n),.iv (.int .i64) (xt%n),.iv .str ((xi.take 2).flatMap tn),.iv .str ((xo.take i).flatMap zf),.iv (.int .i64) (xc*2)])]) (fun(i:Nat)=>i≤xo.length∧i≤2) (fun(i:Nat)=>2-i) 0 ?_;intro b1 b2 ba bq;simp(config:= {maxSteps:=4000000})only[go_sem,zA,↓reduceIte,↓reduceDIte,zB,zC,zD,zE,zF,zG,zH,zI]at ba bq;subst ba;subst bq;refine⟨(by refine⟨?_,?_,rfl,rfl⟩<;>repeat' (first|exact trivial|exact Or.inl rfl|exact Or.inr rfl|apply br|apply bt|apply bu|apply bA|exact⟨(by show(_:Nat)<1000000000;omega),rfl,rfl⟩|rfl|(refine And.intro (Or.inl ?_) ?_)|(refine And.intro ?_ ?_))),?_,?_⟩;(·exact⟨Nat.zero_le _,Nat.zero_le _⟩);intro i⟨hi,N9⟩back;refine av ae ⟨_,Sq,rfl⟩ 2000 _ _ (by kernel_rfl) ?_;simp only[go_sem,zA,↓reduceIte,↓reduceDIte,zB,zC,zD,zE,zF,zG,zH,zI];refine⟨fun g1=>⟨fun g2=>?_,fun g2=>?_⟩,fun g1=>?_⟩;(·obtain⟨u,hu⟩: ∃u,xo[i]?=some u:=an (by omega);have hub:=hxo u (List.mem_of_getElem? hu);have tu:Int.tmod u 6=u%6:=Int.tmod_eq_emod_of_nonneg hub.1;have nU:=bm5 (xo.take i);have bm8:=a18 u;(have bm9:(xo.take i).length=i:=by rw[List.length_take];omega);refine⟨Int.natCast_nonneg _,u,hu,Int.natCast_nonneg _,u,hu,?_⟩;rw[tu,bm7,outs u hub.1];refine⟨aq8 (by omega) (by omega),⟨by omega,by omega,by show u%6+1≤(6:Int);omega⟩,by omega,aw (by omega) (by omega),?_⟩;refine back _ (i+1) ?_ ⟨by omega,by omega⟩ (by omega);rw[←st hu];exact(by refine⟨?_,?_,rfl,rfl⟩<;>repeat' (first|exact trivial|exact Or.inl rfl|exact Or.inr rfl|apply br|apply bt|apply bu|apply bA|exact⟨(by show(_:Nat)<1000000000;omega),rfl,rfl⟩|rfl|(refine And.intro (Or.inl ?_) ?_)|(refine And.intro ?_ ?_))));(·rw[fin (by omega) N9 hi];rfl);·rw[fin (by omega) N9 hi];rfl
def bI(k:Int):cB:=if k%6=0 then(1,1,[bx (0,0) [97] [97],bx (0,0) [98] [98],bx (0,0) [99] [99]])else if k%6=1 then(1,1,[bx (0,0) [97] [65],bx (0,0) [98,97] [66],bx (0,0) [99,97] [67],bx (0,0) [98] [98]])else if k%6=2 then(2,1,[bx (0,1) [99] [],bx (1,0) [97] [65],bx (1,0) [98] [66],bx (0,0) [97] [97],bx (0,0) [98] [98]])else if k%6=3 then(1,1,[bx (0,0) [97] [97],bx (0,0) [98] [98],bx (0,0) [97,98] [97,98,99,49],bx (0,0) [99] [99]])else if k%6=4 then(1,1,[bx (0,0) [97] [97],(0,0,[98],[98],0),(0,0,[99],[98],7),(0,0,[98],[99],9)])else(1,1,[bx (0,0) [97] [97],bx (0,0) [97] [65],bx (0,0) [97,97] [66],bx (0,0) [98] [98],(0,0,[98],[],20)])
theorem ah0(k:Int)(k0:k%6=0):HC env 71 [.iv (.int .u8) k] [] (.agg [.iv (.int .i64) (bI k).1,.iv (.int .u8) (bI k).2.1,.aF 1000]) [(1000,.arr bg (bI k).2.2)]:=by
 (have e:bI k=(1,1,[bx (0,0) [97] [97],bx (0,0) [98] [98],bx (0,0) [99] [99]]):=by unfold bI;rw[if_pos k0]);rw[e];clear e;(have h:HC env 71 [.iv (.int .u8) k] [] (.agg [.iv (.int .i64) (1:Int),.iv (.int .u8) (1:Int),.aF 28]) [(28,.arr bg ((1,1,[bx (0,0) [97] [97],bx (0,0) [98] [98],bx (0,0) [99] [99]]):cB).2.2)]:=by refine HC.ay (m:=2000) ae BW rfl rfl rfl rfl (by kernel_rfl) ?_;intro hx jW;simp only[Tryz.f71];simp only[go_sem,zA,↓reduceIte,↓reduceDIte,zB,zC,zD,zE,zF,zG,zH,zI];have hk:=lV hx.1;have t1:Int.tmod k 6=k%6:=Int.tmod_eq_emod_of_nonneg hk.1;rw[t1];(repeat' (first|(with_reducible intro _)|(with_reducible apply And.intro)|(with_reducible refine⟨_,mJ _ _ _,?_⟩;try simp only[go_sem,zA,↓reduceIte,↓reduceDIte,zB,zC,zD,zE,zF,zG,zH,zI])|fail));all_goals first|(exfalso;omega)|rfl)
 exact h.dV [(28,1000),(1000,28)] rfl
theorem ah1(k:Int)(n0: ¬k%6=0)(k1:k%6=1):HC env 71 [.iv (.int .u8) k] [] (.agg [.iv (.int .i64) (bI k).1,.iv (.int .u8) (bI k).2.1,.aF 1000]) [(1000,.arr bg (bI k).2.2)]:=by
 (have e:bI k=(1,1,[bx (0,0) [97] [65],bx (0,0) [98,97] [66],bx (0,0) [99,97] [67],bx (0,0) [98] [98]]):=by unfold bI;rw[if_neg n0,if_pos k1]);rw[e];clear e;(have h:HC env 71 [.iv (.int .u8) k] [] (.agg [.iv (.int .i64) (1:Int),.iv (.int .u8) (1:Int),.aF 40]) [(40,.arr bg ((1,1,[bx (0,0) [97] [65],bx (0,0) [98,97] [66],bx (0,0) [99,97] [67],bx (0,0) [98] [98]]):cB).2.2)]:=by refine HC.ay (m:=2000) ae BW rfl rfl rfl rfl (by kernel_rfl) ?_;intro hx jW;simp only[Tryz.f71];simp only[go_sem,zA,↓reduceIte,↓reduceDIte,zB,zC,zD,zE,zF,zG,zH,zI];have hk:=lV hx.1;have t1:Int.tmod k 6=k%6:=Int.tmod_eq_emod_of_nonneg hk.1;rw[t1];(repeat' (first|(with_reducible intro _)|(with_reducible apply And.intro)|(with_reducible refine⟨_,mJ _ _ _,?_⟩;try simp only[go_sem,zA,↓reduceIte,↓reduceDIte,zB,zC,zD,zE,zF,zG,zH,zI])|fail));all_goals first|(exfalso;omega)|rfl)
 exact h.dV [(40,1000),(1000,40)] rfl
theorem ah2(k:Int)(n0: ¬k%6=0)(n1: ¬k%6=1)(k2:k%6=2):HC env 71 [.iv (.int .u8) k] [] (.agg [.iv (.int .i64) (bI k).1,.iv (.int .u8) (bI k).2.1,.aF 1000]) [(1000,.arr bg (bI k).2.2)]:=by
 (have e:bI k=(2,1,[bx (0,1) [99] [],bx (1,0) [97] [65],bx (1,0) [98] [66],bx (0,0) [97] [97],bx (0,0) [98] [98]]):=by unfold bI;rw[if_neg n0,if_neg n1,if_pos k2])
 rw[e];clear e;(have h:HC env 71 [.iv (.int .u8) k] [] (.agg [.iv (.int .i64) (2:Int),.iv (.int .u8) (1:Int),.aF 54]) [(54,.arr bg ((2,1,[bx (0,1) [99] [],bx (1,0) [97] [65],bx (1,0) [98] [66],bx (0,0) [97] [97],bx (0,0) [98] [98]]):cB).2.2)]:=by refine HC.ay (m:=2000) ae BW rfl rfl rfl rfl (by kernel_rfl) ?_;intro hx jW;simp only[Tryz.f71];simp only[go_sem,zA,↓reduceIte,↓reduceDIte,zB,zC,zD,zE,zF,zG,zH,zI];have hk:=lV hx.1;have t1:Int.tmod k 6=k%6:=Int.tmod_eq_emod_of_nonneg hk.1;rw[t1];(repeat' (first|(with_reducible intro _)|(with_reducible apply And.intro)|(with_reducible refine⟨_,mJ _ _ _,?_⟩;try simp only[go_sem,zA,↓reduceIte,↓reduceDIte,zB,zC,zD,zE,zF,zG,zH,zI])|fail));all_goals first|(exfalso;omega)|rfl)
 exact h.dV [(54,1000),(1000,54)] rfl
theorem ah3(k:Int)(n0: ¬k%6=0)(n1: ¬k%6=1)(n2: ¬k%6=2)(k3:k%6=3):HC env 71 [.iv (.int .u8) k] [] (.agg [.iv (.int .i64) (bI k).1,.iv (.int .u8) (bI k).2.1,.aF 1000]) [(1000,.arr bg (bI k).2.2)]:=by
 (have e:bI k=(1,1,[bx (0,0) [97] [97],bx (0,0) [98] [98],bx (0,0) [97,98] [97,98,99,49],bx (0,0) [99] [99]]):=by unfold bI;rw[if_neg n0,if_neg n1,if_neg n2,if_pos k3])
 rw[e];clear e;(have h:HC env 71 [.iv (.int .u8) k] [] (.agg [.iv (.int .i64) (1:Int),.iv (.int .u8) (1:Int),.aF 66]) [(66,.arr bg ((1,1,[bx (0,0) [97] [97],bx (0,0) [98] [98],bx (0,0) [97,98] [97,98,99,49],bx (0,0) [99] [99]]):cB).2.2)]:=by refine HC.ay (m:=2000) ae BW rfl rfl rfl rfl (by kernel_rfl) ?_;intro hx jW;simp only[Tryz.f71];simp only[go_sem,zA,↓reduceIte,↓reduceDIte,zB,zC,zD,zE,zF,zG,zH,zI];have hk:=lV hx.1;have t1:Int.tmod k 6=k%6:=Int.tmod_eq_emod_of_nonneg hk.1;rw[t1];(repeat' (first|(with_reducible intro _)|(with_reducible apply And.intro)|(with_reducible refine⟨_,mJ _ _ _,?_⟩;try simp only[go_sem,zA,↓reduceIte,↓reduceDIte,zB,zC,zD,zE,zF,zG,zH,zI])|fail));all_goals first|(exfalso;omega)|rfl)
 exact h.dV [(66,1000),(1000,66)] rfl
theorem ah4(k:Int)(n0: ¬k%6=0)(n1: ¬k%6=1)(n2: ¬k%6=2)(n3: ¬k%6=3)(k4:k%6=4):HC env 71 [.iv (.int .u8) k] [] (.agg [.iv (.int .i64) (bI k).1,.iv (.int .u8) (bI k).2.1,.aF 1000]) [(1000,.arr bg (bI k).2.2)]:=by
 (have e:bI k=(1,1,[bx (0,0) [97] [97],(0,0,[98],[98],0),(0,0,[99],[98],7),(0,0,[98],[99],9)]):=by unfold bI;rw[if_neg n0,if_neg n1,if_neg n2,if_neg n3,if_pos k4])
 rw[e];clear e;(have h:HC env 71 [.iv (.int .u8) k] [] (.agg [.iv (.int .i64) (1:Int),.iv (.int .u8) (1:Int),.aF 75]) [(75,.arr bg ((1,1,[bx (0,0) [97] [97],(0,0,[98],[98],0),(0,0,[99],[98],7),(0,0,[98],[99],9)]):cB).2.2)]:=by refine HC.ay (m:=2000) ae BW rfl rfl rfl rfl (by kernel_rfl) ?_;intro hx jW;simp only[Tryz.f71];simp only[go_sem,zA,↓reduceIte,↓reduceDIte,zB,zC,zD,zE,zF,zG,zH,zI];have hk:=lV hx.1;have t1:Int.tmod k 6=k%6:=Int.tmod_eq_emod_of_nonneg hk.1;rw[t1];(repeat' (first|(with_reducible intro _)|(with_reducible apply And.intro)|(with_reducible refine⟨_,mJ _ _ _,?_⟩;try simp only[go_sem,zA,↓reduceIte,↓reduceDIte,zB,zC,zD,zE,zF,zG,zH,zI])|fail));all_goals first|(exfalso;omega)|rfl)
 exact h.dV [(75,1000),(1000,75)] rfl
theorem ah5(k:Int)(n0: ¬k%6=0)(n1: ¬k%6=1)(n2: ¬k%6=2)(n3: ¬k%6=3)(n4: ¬k%6=4):HC env 71 [.iv (.int .u8) k] [] (.agg [.iv (.int .i64) (bI k).1,.iv (.int .u8) (bI k).2.1,.aF 1000]) [(1000,.arr bg (bI k).2.2)]:=by
 (have e:bI k=(1,1,[bx (0,0) [97] [97],bx (0,0) [97] [65],bx (0,0) [97,97] [66],bx (0,0) [98] [98],(0,0,[98],[],20)]):=by unfold bI;rw[if_neg n0,if_neg n1,if_neg n2,if_neg n3,if_neg n4])
 rw[e];clear e;(have h:HC env 71 [.iv (.int .u8) k] [] (.agg [.iv (.int .i64) (1:Int),.iv (.int .u8) (1:Int),.aF 18]) [(18,.arr bg ((1,1,[bx (0,0) [97] [97],bx (0,0) [97] [65],bx (0,0) [97,97] [66],bx (0,0) [98] [98],(0,0,[98],[],20)]):cB).2.2)]:=by refine HC.ay (m:=2000) ae BW rfl rfl rfl rfl (by kernel_rfl) ?_;intro hx jW;simp only[Tryz.f71];simp only[go_sem,zA,↓reduceIte,↓reduceDIte,zB,zC,zD,zE,zF,zG,zH,zI];have hk:=lV hx.1;have t1:Int.tmod k 6=k%6:=Int.tmod_eq_emod_of_nonneg hk.1;rw[t1];(repeat' (first|(with_reducible intro _)|(with_reducible apply And.intro)|(with_reducible refine⟨_,mJ _ _ _,?_⟩;try simp only[go_sem,zA,↓reduceIte,↓reduceDIte,zB,zC,zD,zE,zF,zG,zH,zI])|fail));all_goals first|(exfalso;omega)|rfl)
 exact h.dV [(18,1000),(1000,18)] rfl
theorem aV0(k:Int):HC env 71 [.iv (.int .u8) k] [] (.agg [.iv (.int .i64) (bI k).1,.iv (.int .u8) (bI k).2.1,.aF 1000]) [(1000,.arr bg (bI k).2.2)]:=by
 by_cases h0:k%6=0;(·exact ah0 k h0);by_cases h1:k%6=1;(·exact ah1 k h0 h1);by_cases h2:k%6=2;(·exact ah2 k h0 h1 h2);by_cases h3:k%6=3;(·exact ah3 k h0 h1 h2 h3)
 by_cases h4:k%6=4;(·exact ah4 k h0 h1 h2 h3 h4);exact ah5 k h0 h1 h2 h3 h4
end Go.Proofs.YtgpkijnphchkpaaGreat
namespace Go.Proofs.YtgpkijnphchkpaaGreat
attribute[local go_sem←]Bool.decide_and Bool.decide_or decide_not
attribute[local go_sem]Int.reduceEq not_true_eq_false not_false_eq_true false_implies List.append_assoc
set_option maxHeartbeats 4000000
set_option maxRecDepth 100000
def ia(n:Int)(rs:List Rl)(r:Rl):List Rl:=if eB n (rs++ [r]) rs.length=true then rs++ [r]else rs
def ep(n:Int):List v5→List Rl→List Rl|[],out=>out|y::ys,out=>ep n ys (ia n out (dz y n))
def fP(x:AU):cB:=((bI x.1).1,(bI x.1).2.1,ep (bI x.1).1 (x.2.2.take 4) ((bI x.1).2.2.drop (x.2.1%2).toNat))
theorem qi(k:Int):((bI k).1=1∨(bI k).1=2)∧(bI k).2.1=1∧3≤(bI k).2.2.length∧(bI k).2.2.length≤5:=by unfold bI;(repeat' split);all_goals decide
theorem M6(n:Int)(rs:List Rl)(r:Rl):rs.length≤(ia n rs r).length∧(ia n rs r).length≤rs.length+1:=by unfold ia;split<;>simp
def bd2(id:Nat)(p:PV)(xs view:List Rl):Prop:=(p= .aF id∧view=xs)∨ ∃off len,p= .jx id 5 off len∧view=(xs.drop off).take len∧off+len≤xs.length∧off<xs.length
theorem ah6(x:AU):PC env 34 [⟨lg,x⟩] al (fP x):=by
 obtain⟨xb,xd,xm⟩:=x;refine PC.ay (m:=2000) ae Sn rfl rfl rfl rfl (by kernel_rfl) ?_;intro hx;simp only[Tryz.f34];simp only[go_sem,zA,↓reduceIte,↓reduceDIte,zB,zC,zD,zE,zF,zG,zH,zI]
 refine⟨_,_,aV0 xb,rfl,?_⟩;simp only[go_sem,zA,↓reduceIte,↓reduceDIte,zB,zC,zD,zE,zF,zG,zH,zI];have hxd:=lV hx.1.2.1;have My:xm.length≤9223372036854775807:=hx.1.2.2.1
 dsimp only at hxd;have t1:Int.tmod xd 2=xd%2:=Int.tmod_eq_emod_of_nonneg hxd.1;rw[t1];have hbf:=qi xb;generalize hB:bI xb=B at hbf;obtain⟨n,a,rs⟩:=B;dsimp only at hbf⊢
 (have hnn:0<n:=by omega);have qF:((rs.drop (xd%2).toNat).take (rs.length-(xd%2).toNat))=rs.drop (xd%2).toNat:=List.take_of_length_le (by rw[List.length_drop];omega)
 have hlr:(rs.drop (xd%2).toNat).length=rs.length-(xd%2).toNat:=List.length_drop ..;(have hE:fP (xb,xd,xm)=(n,a,ep n (xm.take 4) (rs.drop (xd%2).toNat)):=by unfold fP;dsimp only;rw[hB])
 rw[hE];clear hE;intro _;refine⟨⟨by omega,by omega⟩,?_⟩;refine ah.bE (X:=Nat×PV×List Rl×List Rl) (fun(z:Nat×PV×List Rl×List Rl)=>[(4,.iv (.int .i64) (z.1:Int)),(7,.any),(9,.any),(14,.any)]) (fun(z:Nat×PV×List Rl×List Rl)=>[(3,.box [.iv (.int .i64) n,.iv (.int .u8) a,z.2.1]),(801000,.arr bg z.2.2.1)]) (fun(z:Nat×PV×List Rl×List Rl)=>bd2 801000 z.2.1 z.2.2.1 z.2.2.2∧z.1≤xm.length∧z.1≤4∧z.2.2.2.length≤5+z.1∧1≤z.2.2.2.length∧ep n ((xm.take 4).drop z.1) z.2.2.2=ep n (xm.take 4) (rs.drop (xd%2).toNat)) (fun(z:Nat×PV×List Rl×List Rl)=>4-z.1) (0,.jx 801000 5 (xd%2).toNat (rs.length-(xd%2).toNat),rs,rs.drop (xd%2).toNat) ?_
 intro b1 b2 ba bq;simp(config:= {maxSteps:=4000000})only[go_sem,zA,↓reduceIte,↓reduceDIte,zB,zC,zD,zE,zF,zG,zH,zI]at ba bq;subst ba;subst bq;refine⟨(by refine⟨?_,?_,rfl,rfl⟩<;>repeat' (first|exact trivial|exact Or.inl rfl|exact Or.inr rfl|apply br|apply bt|apply bu|apply bA|exact⟨(by show(_:Nat)<1000000000;omega),rfl,rfl⟩|rfl|(refine And.intro (Or.inl ?_) ?_)|(refine And.intro ?_ ?_))),?_,?_⟩
 (·exact⟨Or.inr ⟨_,_,rfl,qF.symm,by dsimp only;omega,by dsimp only;omega⟩,Nat.zero_le _,Nat.zero_le _,by show(rs.drop _).length≤_;omega,by show 1≤(rs.drop _).length;omega,rfl⟩)
 generalize ep n (xm.take 4) (rs.drop (xd%2).toNat)=R;intro⟨i,p,xs,out⟩⟨KY,hi,hi4,NX,uu,hR⟩back;dsimp only at KY hi hi4 NX uu hR;(have done: ¬(i<xm.length∧i<4)→out=R:=fun h=>by have:(xm.take 4).drop i=[]:=List.drop_of_length_le (by rw[List.length_take];omega);rw[this]at hR;exact hR)
 rcases KY with⟨rfl,rfl⟩|⟨off,len,rfl,hv,ho1,OU⟩;(·refine av ae ⟨_,Sn,rfl⟩ 2000 _ _ (by kernel_rfl) ?_;simp only[go_sem,zA,↓reduceIte,↓reduceDIte,zB,zC,zD,zE,zF,zG,zH,zI];refine⟨fun g1=>⟨fun g2=>?_,fun g2=>?_⟩,fun g1=>?_⟩;(·obtain⟨y,hy⟩: ∃y,xm[i]?=some y:=an (by omega);refine⟨Int.natCast_nonneg _,y,hy,_,KX y n hnn,fun _=>⟨by omega,?_⟩⟩;(have e1:((out++ [dz y n]).length:Int)-1=(out.length:Int):=by simp only[List.length_append,List.length_cons,List.length_nil];omega);rw[e1];refine⟨aw (by omega) (by omega),_,(tk (n,a,out++ [dz y n]) out.length (by dsimp only;omega) (by simp)).dec,?_⟩;simp only[go_sem,zA,↓reduceIte,↓reduceDIte,zB,zC,zD,zE,zF,zG,zH,zI];(have hd:(xm.take 4)[i]?=some y:=by rw[List.getElem?_take,if_pos (by omega)];exact hy);rw[drop_cons hd]at hR;refine⟨fun g3=>?_,fun g3=>?_⟩;(·have e3:ia n out (dz y n)=out:=if_neg g3;rw[e1];refine⟨aw (by omega) (by omega),⟨by omega,by simp only[List.length_append,List.length_cons,List.length_nil];omega⟩,aw (by omega) (by omega),?_⟩;refine back _ (i+1,.jx 801000 5 0 ((out.length:Int).toNat-0),out++ [dz y n],out) ?_ ⟨Or.inr ⟨_,_,rfl,by simp,by simp,by simp⟩,by dsimp only;omega,by dsimp only;omega,by dsimp only;omega,uu,?_⟩ (by dsimp only;omega);(·exact(by refine⟨?_,?_,rfl,rfl⟩<;>repeat' (first|exact trivial|exact Or.inl rfl|exact Or.inr rfl|apply br|apply bt|apply bu|apply bA|exact⟨(by show(_:Nat)<1000000000;omega),rfl,rfl⟩|rfl|(refine And.intro (Or.inl ?_) ?_)|(refine And.intro ?_ ?_))));·dsimp only;have:ep n (y::(xm.take 4).drop (i+1)) out=ep n ((xm.take 4).drop (i+1)) (ia n out (dz y n)):=rfl;rw[this,e3]at hR;exact hR);·have e3:ia n out (dz y n)=out++ [dz y n]:=if_pos g3;refine⟨aw (by omega) (by omega),?_⟩;refine back _ (i+1,.aF 801000,out++ [dz y n],out++ [dz y n]) ?_ ⟨Or.inl ⟨rfl,rfl⟩,by dsimp only;omega,by dsimp only;omega,by simp only[List.length_append,List.length_cons,List.length_nil];omega,by simp,?_⟩ (by dsimp only;omega);(·exact(by refine⟨?_,?_,rfl,rfl⟩<;>repeat' (first|exact trivial|exact Or.inl rfl|exact Or.inr rfl|apply br|apply bt|apply bu|apply bA|exact⟨(by show(_:Nat)<1000000000;omega),rfl,rfl⟩|rfl|(refine And.intro (Or.inl ?_) ?_)|(refine And.intro ?_ ?_))));·dsimp only;have:ep n (y::(xm.take 4).drop (i+1)) out=ep n ((xm.take 4).drop (i+1)) (ia n out (dz y n)):=rfl;rw[this,e3]at hR;exact hR);(·rw[done (by omega)]);·rw[done (by omega)])
 ·refine av ae ⟨_,Sn,rfl⟩ 2000 _ _ (by kernel_rfl) ?_;simp only[go_sem,zA,↓reduceIte,↓reduceDIte,zB,zC,zD,zE,zF,zG,zH,zI];(have hlen:len=out.length:=by rw[hv,List.length_take,List.length_drop];omega);rw[←hv];refine⟨fun g1=>⟨fun g2=>?_,fun g2=>?_⟩,fun g1=>?_⟩;(·obtain⟨y,hy⟩: ∃y,xm[i]?=some y:=an (by omega);refine⟨Int.natCast_nonneg _,y,hy,_,KX y n hnn,fun _=>⟨⟨.inl OU,by omega⟩,?_⟩⟩;(have e1:((out++ [dz y n]).length:Int)-1=(out.length:Int):=by simp only[List.length_append,List.length_cons,List.length_nil];omega);rw[e1];refine⟨aw (by omega) (by omega),_,(tk (n,a,out++ [dz y n]) out.length (by dsimp only;omega) (by simp)).dec,?_⟩;simp only[go_sem,zA,↓reduceIte,↓reduceDIte,zB,zC,zD,zE,zF,zG,zH,zI];(have hd:(xm.take 4)[i]?=some y:=by rw[List.getElem?_take,if_pos (by omega)];exact hy);rw[drop_cons hd]at hR;refine⟨fun g3=>?_,fun g3=>?_⟩;(·have e3:ia n out (dz y n)=out:=if_neg g3;rw[e1];refine⟨aw (by omega) (by omega),⟨by omega,by simp only[List.length_append,List.length_cons,List.length_nil];omega⟩,aw (by omega) (by omega),?_⟩;refine back _ (i+1,.jx 801000 5 0 ((out.length:Int).toNat-0),out++ [dz y n],out) ?_ ⟨Or.inr ⟨_,_,rfl,by simp,by simp,by simp⟩,by dsimp only;omega,by dsimp only;omega,by dsimp only;omega,uu,?_⟩ (by dsimp only;omega);(·exact(by refine⟨?_,?_,rfl,rfl⟩<;>repeat' (first|exact trivial|exact Or.inl rfl|exact Or.inr rfl|apply br|apply bt|apply bu|apply bA|exact⟨(by show(_:Nat)<1000000000;omega),rfl,rfl⟩|rfl|(refine And.intro (Or.inl ?_) ?_)|(refine And.intro ?_ ?_))));·dsimp only;have:ep n (y::(xm.take 4).drop (i+1)) out=ep n ((xm.take 4).drop (i+1)) (ia n out (dz y n)):=rfl;rw[this,e3]at hR;exact hR);·have e3:ia n out (dz y n)=out++ [dz y n]:=if_pos g3;refine⟨aw (by omega) (by omega),?_⟩;refine back _ (i+1,.aF 801000,out++ [dz y n],out++ [dz y n]) ?_ ⟨Or.inl ⟨rfl,rfl⟩,by dsimp only;omega,by dsimp only;omega,by simp only[List.length_append,List.length_cons,List.length_nil];omega,by simp,?_⟩ (by dsimp only;omega);(·exact(by refine⟨?_,?_,rfl,rfl⟩<;>repeat' (first|exact trivial|exact Or.inl rfl|exact Or.inr rfl|apply br|apply bt|apply bu|apply bA|exact⟨(by show(_:Nat)<1000000000;omega),rfl,rfl⟩|rfl|(refine And.intro (Or.inl ?_) ?_)|(refine And.intro ?_ ?_))));·dsimp only;have:ep n (y::(xm.take 4).drop (i+1)) out=ep n ((xm.take 4).drop (i+1)) (ia n out (dz y n)):=rfl;rw[this,e3]at hR;exact hR);(·rw[done (by omega)]);·rw[done (by omega)]
end Go.Proofs.YtgpkijnphchkpaaGreat
