/- Contracts: made schemes. Nothing here is trusted; no condition. -/
import Derived.Test.YtgpkijnphchkpaaGreatA9
import Derived.Test.YtgpkijnphchkpaaGreatProg
set_option linter.unusedSimpArgs false
set_option linter.unusedVariables false
open Nat renaming reduceBEq→zA,reduceAdd→zB,reduceSub→zC,reduceMul→zD,reduceLeDiff→zE
open Int renaming reduceLT→zF,reduceLE→zG,reduceToNat→zH,reduceNeg→zI
namespace Go.Proofs.YtgpkijnphchkpaaGreat
theorem aw {α:Sort _} {x:α} {B C:Prop} (h:C):(x=x∨B)∧C:=⟨.inl rfl,h⟩
theorem ax {α:Sort _} {x:α} {A B C:Prop} (h:C):(A∨x=x∨B)∧C:=⟨.inr (.inl rfl),h⟩
theorem ay {α β:Sort _} {x:α} {y:β} {A B D C:Prop} (h:C):(A∨B∨D∨x=x∧y=y)∧C:=⟨.inr (.inr (.inr ⟨rfl,rfl⟩)),h⟩
theorem az {α β:Sort _} {x:α} {y:β} {A B D C:Prop} (h:C):(A∨B∨(x=x∧y=y∧True)∨D)∧C:=⟨.inr (.inr (.inl ⟨rfl,rfl,trivial⟩)),h⟩
end Go.Proofs.YtgpkijnphchkpaaGreat
namespace Go.Proofs.YtgpkijnphchkpaaGreat
set_option maxRecDepth 100000
abbrev Qs:Ty:=(.st (.pair (.int .i64) (.pair (.int .i64) (.pair .bool (.int .u8)))))
abbrev NT:Ty:=(.st (.pair .str (.int .u64)))
abbrev OP:Ty:=(.st (.pair (.sl (.int .u8)) (.pair (.sl (.int .u8)) (.pair (.int .u8) (.pair (.int .u8) (.int .u8))))))
abbrev QW:Ty:=(.st (.pair (.int .u8) (.pair (.int .u8) (.sl OP))))
abbrev MK:Ty:=(.st (.pair (.int .u8) (.pair (.int .u8) (.pair (.int .u8) (.pair (.int .u8) (.pair (.int .u8) (.int .u8)))))))
abbrev Mn:Ty:=(.st (.pair (.int .i64) (.pair (.int .i64) (.pair .str (.pair .str (.int .i64))))))
abbrev LQ:Ty:=(.st (.pair (.int .i64) (.pair (.int .u8) (.sl Mn))))
abbrev R6:Ty:=(.st (.pair (.int .i64) (.int .i64)))
abbrev Mv:Ty:=(.st (.pair (.int .i64) (.pair .str (.pair (.sl R6) (.pair .str (.pair (.int .i64) (.int .i64)))))))
abbrev MT:Ty:=(.st (.pair (.int .u8) (.int .i64)))
abbrev Uy:Ty:=(.st (.pair (.int .i64) (.pair (.int .i64) (.int .i64))))
abbrev Ok:Ty:=(.st (.pair (.sl Mv) (.pair (.sl (.sl MT)) (.pair (.int .i64) (.pair (.sl Uy) (.int .i64))))))
abbrev Fg:Ty:=(.st (.pair (.int .i64) (.pair (.int .i64) (.pair (.int .i64) (.pair .str (.pair (.int .i64) (.int .i64)))))))
abbrev LR:Ty:=(.st (.pair (.int .i64) (.pair (.int .i64) (.pair (.int .i64) (.pair (.int .i64) (.pair .str (.pair (.int .i64) (.int .i64))))))))
abbrev Mt:Ty:=(.st (.pair (.sl Fg) (.pair (.sl LR) (.st (.pair (.int .i64) (.pair (.int .i64) (.pair (.int .i64) (.pair (.int .i64) (.pair (.int .i64) (.pair (.int .i64) (.pair (.int .i64) (.int .i64))))))))))))
abbrev Xp:Ty:=(.st (.pair (.int .i64) (.int .i64)))
abbrev R8:Ty:=(.st (.pair Mt (.pair (.int .i64) (.int .i64))))
abbrev Ot:Ty:=(.st (.pair .LY .LY))
abbrev Mr:Ty:=(.st (.pair (.int .i64) (.int .i64)))
abbrev TC:Ty:=(.st (.pair (.int .i64) (.int .i64)))
abbrev Nu:Ty:=(.st (.pair (.int .i64) (.int .i64)))
abbrev Zr:Ty:=(.st (.pair LQ (.pair .LY (.pair .LY (.int .i64)))))
abbrev MF:Ty:=(.st (.pair .str (.int .i64)))
abbrev Pw:Ty:=(.st (.pair (.int .i64) (.pair (.int .i64) (.int .u8))))
abbrev N5:Ty:=(.st (.pair Pw (.int .i64)))
abbrev NR:Ty:=(.st (.pair (.int .i64) (.int .i64)))
abbrev O6:Ty:=(.st (.pair NR .bool))
abbrev OU:Ty:=(.st (.pair LQ (.pair .str (.mp N5 O6))))
abbrev Mm:Ty:=(.st (.pair Pw .str))
abbrev Mc:Ty:=(.st (.pair (.sl (.int .u8)) (.pair .bool (.pair NR (.mp Mm (.int .i64))))))
abbrev V9:Ty:=(.st (.pair LQ (.pair .str (.sl MF))))
abbrev Ob:Ty:=(.st (.pair (.int .i64) (.int .i64)))
def tys:List (Nat×Ty):=[(1,.LY),(2,(.int .i64)),(3,(.int .i64)),(4,.bool),(5,(.int .u8)),(6,(.int .u8)),(7,Qs),(8,Qs),(9,.str),(10,.str),(11,.str),(12,(.int .u64)),(13,NT),(14,NT),(21,(.int .i32)),(22,(.sl OP)),(23,QW),(24,QW),(25,(.sl (.sl (.int .u8)))),(26,(.sl MK)),(27,.LY),(28,(.sl Mn)),(29,LQ),(30,LQ),(31,.LY),(32,(.sl .str)),(33,.LY),(34,(.sl Mv)),(35,(.sl (.sl MT))),(36,(.sl Uy)),(37,Ok),(38,Ok),(39,(.int .i64)),(41,.LY),(43,.LY),(44,.LY),(45,(.sl Fg)),(46,(.sl LR)),(47,(.st (.pair (.int .i64) (.pair (.int .i64) (.pair (.int .i64) (.pair (.int .i64) (.pair (.int .i64) (.pair (.int .i64) (.pair (.int .i64) (.int .i64)))))))))),(48,Mt),(49,Mt),(50,.LY),(51,(.sl (.int .i64))),(52,MK),(53,MK),(54,Xp),(55,Xp),(57,.LY),(58,.LY),(59,.LY),(60,.LY),(61,.LY),(62,(.sl MT)),(63,(.sl MT)),(64,MT),(65,MT),(66,(.sl (.int .u8))),(67,(.sl R6)),(68,Mv),(69,Mv),(70,Uy),(71,Uy),(72,.LY),(73,.LY),(74,(.st (.pair (.int .u8) (.int .u8)))),(76,.LY),(77,.LY),(78,Fg),(79,Fg),(80,.LY),(81,.LY),(82,.LY),(83,.LY),(84,.LY),(85,.LY),(86,.LY),(87,.LY),(88,.LY),(89,.LY),(90,.LY),(91,R8),(92,R8),(93,.LY),(94,Mn),(95,Mn),(96,.LY),(97,.LY),(98,.LY),(100,.LY),(102,.LY),(103,.LY),(104,.LY),(105,LR),(106,LR),(107,.LY),(108,.LY),(109,.LY),(110,(.mp (.int .i64) Ot)),(111,.LY),(112,.LY),(113,.LY),(114,.LY),(115,.LY),(116,.LY),(117,.LY),(118,.LY),(120,.LY),(121,Mr),(122,Mr),(124,.LY),(125,TC),(126,TC),(127,.LY),(128,.LY),(129,.LY),(130,.LY),(131,Nu),(132,Nu),(133,.LY),(134,.LY),(135,.LY),(136,Zr),(137,Zr),(138,(.mp Nu (.int .i64))),(140,.LY),(141,.LY),(142,.LY),(143,.LY),(144,.LY),(145,.LY),(146,OP),(147,OP),(148,.LY),(149,(.sl MF)),(151,.LY),(152,MF),(153,MF),(154,.LY),(155,.LY),(156,.LY),(157,.LY),(158,.LY),(159,.LY),(160,.LY),(161,.LY),(162,.LY),(163,.LY),(164,Ot),(165,Ot),(167,.LY),(168,.LY),(169,.LY),(170,.LY),(171,.LY),(172,.LY),(173,(.int .i64)),(174,.LY),(175,.LY),(176,.LY),(177,.LY),(178,(.mp (.int .i64) (.mp Nu (.int .i64)))),(179,.LY),(181,.LY),(182,.LY),(183,(.st (.pair (.int .i64) (.int .i64)))),(184,.LY),(185,.LY),(187,.LY),(188,(.ptr OU)),(189,(.mp N5 O6)),(190,OU),(191,OU),(192,(.ptr Mc)),(193,Pw),(194,Pw),(195,Mm),(196,Mm),(197,(.mp Mm (.int .i64))),(198,NR),(199,NR),(200,Mc),(201,Mc),(202,.LY),(203,(.sl (.ptr Mc))),(204,(.sl (.ptr Mc))),(205,.LY),(207,.LY),(209,.LY),(210,.LY),(211,.LY),(212,.LY),(213,.LY),(214,.LY),(215,.LY),(216,.LY),(217,(.sl (.sl Fg))),(218,.LY),(219,.LY),(220,.LY),(221,(.int .u64)),(222,.LY),(223,R6),(224,R6),(225,(.int .u8)),(226,.LY),(227,.LY),(228,.LY),(229,(.sl Nu)),(230,.LY),(231,(.sl .bool)),(232,.LY),(233,.LY),(234,(.sl Mm)),(236,.LY),(237,.LY),(238,O6),(239,O6),(240,.LY),(241,.LY),(242,.LY),(245,.LY),(246,.LY),(247,.LY),(248,.LY),(249,.LY),(250,.LY),(251,.LY),(253,V9),(254,V9),(255,.LY),(256,Ob),(257,Ob),(258,(.sl Ob)),(259,.LY),(260,(.sl (.sl LR))),(261,.LY),(262,.LY),(263,.LY),(264,.LY),(265,.LY),(266,.LY),(267,.LY),(268,(.mp (.int .i64) (.sl (.int .i64)))),(269,.LY),(270,.LY),(271,.LY),(272,.LY),(273,N5),(274,N5),(276,.LY),(277,.LY),(278,.LY),(279,.LY),(281,(.sl (.sl (.int .i64)))),(282,.LY),(283,.LY),(284,.LY),(290,(.int .u32)),(291,(.int .u8)),(292,(.int .u8)),(293,.LY),(295,(.int .i32)),(296,(.int .i32))]
def strs:List Nat:=[7,8,13,14,23,24,29,30,37,38,48,49,52,53,54,55,64,65,68,69,70,71,78,79,91,92,94,95,105,106,121,122,125,126,131,132,136,137,146,147,152,153,164,165,190,191,193,194,195,196,198,199,200,201,223,224,238,239,253,254,256,257,273,274]
def ai9:List Nat:=[7,8,47,52,53,54,55,64,65,70,71,74,78,79,94,95,105,106,121,122,125,126,131,132,152,153,183,193,194,195,196,198,199,223,224,238,239,256,257,273,274]
def fns:List (Nat×(List Ty×Ty)):=[(2,([],.unit)),(3,([QW,(.sl (.sl (.int .u8))),(.sl MK)],.bool)),(4,([QW,(.sl (.sl (.int .u8)))],.bool)),(5,([QW,(.sl (.sl (.int .u8))),(.sl (.sl (.int .u8)))],.bool)),(6,([(.sl MK),(.sl (.int .u8)),(.st (.pair (.int .u8) (.int .u8)))],.bool)),(7,([QW,.str,(.int .u8)],.bool)),(8,([QW,(.sl (.int .u8))],.bool)),(9,([],.bool)),(10,([QW],LQ)),(11,([(.sl (.sl (.int .u8))),(.int .i64)],(.sl .str))),(12,([LQ,(.sl .str)],(.Mj Ok (.int .i64)))),(13,([LQ,(.sl .str)],(.Mj Ok (.int .i64)))),(14,([LQ,.str],(.Mj (.sl Mv) (.int .i64)))),(15,([LQ,.str],(.Mj (.sl Mv) (.int .i64)))),(16,([(.sl Mv),(.sl Mv)],.bool)),(17,([(.sl MK),(.int .i64)],Mt)),(18,([Mt,(.int .i64),(.int .i64),(.sl (.int .i64))],(.Mj Mt (.int .i64)))),(19,([Mt,Xp,(.sl (.int .i64))],(.Mj Mt (.int .i64)))),(20,([Ok,Ok],.bool)),(21,([Mt,Mt],.bool)),(22,([Mt,Fg],(.Mj Mt (.Mj (.int .i64) (.int .i64))))),(23,([(.int .u8)],.str)),(24,([(.sl Fg),(.sl Fg)],.bool)),(25,([Mt],.bool)),(26,([Mt,.str,(.int .i64)],(.int .i64))),(27,([.str],.bool)),(28,([],LQ)),(29,([Ok],.bool)),(30,([(.sl (.int .u8)),(.int .i64)],.str)),(31,([.str],.bool)),(32,([LQ,.str,.str],(.int .i64))),(33,([Mt,Fg],R8)),(34,([QW],LQ)),(36,([.str],.bool)),(37,([LQ,.str],(.Mj .str (.Mj (.int .i64) (.int .i64))))),(38,([LQ,.str],(.Mj .str (.int .i64)))),(39,([Mv,Mv],.bool)),(40,([Mt,MK],Mt)),(41,([Mt,LR],(.Mj Mt (.int .i64)))),(42,([Mt,LR],(.Mj Mt (.int .i64)))),(43,([Fg],.bool)),(47,([Fg],Mr)),(48,([(.int .i64),(.int .i64),(.int .i64)],.bool)),(51,([LR],Mr)),(54,([TC,(.int .i64)],(.Mj (.int .i64) (.int .i64)))),(55,([(.int .i64),(.int .i64),(.int .i64)],.bool)),(56,([.str],.bool)),(57,([(.sl (.sl MT))],.bool)),(58,([Mv],.bool)),(59,([(.sl Uy),(.int .i64)],.bool)),(60,([.str],.bool)),(61,([LQ],.bool)),(62,([.str],.bool)),(63,([Nu],(.int .i64))),(65,([.str,.str],.bool)),(67,([LQ,(.int .i64)],.bool)),(68,([Fg],.bool)),(69,([(.sl LR),Fg],.bool)),(70,([(.sl Fg),Fg],(.sl Fg))),(72,([OP,(.int .i64)],Mn)),(73,([LQ,(.int .i64)],.bool)),(75,([.str],.bool)),(76,([LQ,.str,(.int .i64)],(.Mj (.sl MF) (.int .i64)))),(77,([LQ,.str,(.int .i64)],(.Mj (.sl MF) (.int .i64)))),(78,([MK],.bool)),(79,([MK],LR)),(80,([MK],Fg)),(82,([LR],.bool)),(83,([(.sl LR),LR],(.sl LR))),(84,([(.sl Fg),(.sl LR)],(.sl Fg))),(85,([Mr,(.int .i64)],.bool)),(88,([LR],.bool)),(89,([LR,Fg],.bool)),(90,([LR],.bool)),(91,([LR,Fg],.bool)),(92,([LR],.bool)),(93,([LR,Fg],.bool)),(94,([LR],.bool)),(95,([LR,Fg],.bool)),(96,([LR],.bool)),(97,([LR,Fg],.bool)),(99,([(.sl (.sl Fg))],(.sl Fg))),(100,([Mr,Mr],(.int .i64))),(103,([(.int .i64),(.int .i64)],(.int .i64))),(105,([(.sl MT)],.bool)),(106,([(.sl MT)],.bool)),(107,([.str],.bool)),(108,([.str],.bool)),(109,([(.sl R6)],.bool)),(110,([LQ],(.int .i64))),(111,([.str],.bool)),(112,([.str,.str],.bool)),(114,([(.mp Nu (.int .i64)),Nu,(.int .i64)],.bool)),(115,([(.int .i64),(.int .i64),(.int .i64)],.bool)),(116,([LR,Fg],.bool)),(117,([(.st (.pair (.int .i64) (.int .i64))),(.st (.pair (.int .i64) (.int .i64)))],.bool)),(118,([(.st (.pair (.int .i64) (.int .i64))),.str,.str],Mn)),(119,([(.int .u8)],(.int .i64))),(120,([.str],.bool)),(121,([LQ],.bool)),(122,([LQ],(.Mj LQ (.sl (.int .i64))))),(129,([.str],.bool)),(130,([LQ,.str],(.sl MF))),(131,([(.sl (.sl LR))],(.sl LR))),(136,([(.sl (.int .i64))],(.int .i64))),(137,([(.int .i64),(.int .i64)],(.int .i64))),(139,([LQ],(.int .u8))),(140,([(.int .u8),(.int .i64)],.bool)),(141,([LQ],(.int .u8))),(142,([LQ],(.sl (.int .i64)))),(143,([LQ],(.Mj (.int .i64) (.int .i64)))),(144,([LQ],(.sl .bool))),(145,([LQ],(.sl .bool))),(146,([LQ,Mn],.bool)),(147,([(.ptr OU),Pw,Mn],(.Mj Pw .bool))),(150,([NR,NR],NR)),(151,([NR,NR],.bool)),(153,([(.ptr OU),Pw],.bool)),(156,([MF,MF],.bool)),(158,([(.int .i64)],.bool)),(159,([(.int .i64)],(.int .u8))),(161,([Mn],.bool)),(162,([(.sl (.int .i64)),(.sl (.int .i64))],(.int .i64))),(163,([(.int .i64),Mn],.bool)),(164,([(.sl Mn),Mn],.bool)),(166,([LQ],(.mp (.int .i64) (.sl (.int .i64))))),(169,([LQ,(.int .i64)],.bool)),(170,([LQ,(.int .i64)],.bool)),(171,([LQ,(.int .i64)],.bool)),(172,([LQ,(.int .i64)],.bool)),(174,([.str,(.int .i64),.str],.bool)),(175,([(.sl Ob),Ob],.bool)),(176,([(.sl (.int .i64))],(.sl (.int .i64)))),(177,([(.sl (.int .i64)),(.sl (.int .i64))],(.int .i64))),(178,([(.sl Mn),Mn],(.int .i64))),(35,([LQ,(.sl .str)],(.OM 74 (.pair (.ptr (.sl .str)) (.ptr LQ))))),(44,([(.mp (.int .i64) Ot),(.sl LR),Fg],.bool)),(45,([],(.mp (.int .i64) Ot))),(46,([(.sl Fg),.LY,Fg],(.sl Fg))),(49,([(.mp (.int .i64) Ot),LR],.bool)),(50,([(.sl LR),.LY],.bool)),(52,([(.sl Fg),.LY],.bool)),(53,([(.sl LR),.LY,Mr],(.Mj (.int .i64) .bool))),(81,([(.sl LR),.LY,LR],(.sl LR))),(86,([(.sl LR),(.OM 87 (.pair (.ptr (.mp (.int .i64) Ot)) (.ptr Fg)))],.bool)),(87,([LR,(.ptr (.mp (.int .i64) Ot)),(.ptr Fg)],.bool)),(98,([(.sl Fg),.LY,Mr],(.Mj (.int .i64) .bool))),(101,([(.sl LR),Mr,(.OM 102 (.ptr .LY))],(.Mj (.int .i64) .bool))),(102,([LR,Mr,(.ptr .LY)],(.int .i64))),(132,([(.sl LR),(.OM 87 (.pair (.ptr (.mp (.int .i64) Ot)) (.ptr Fg)))],(.int .i64))),(133,([(.sl Fg),Mr,(.OM 134 (.ptr .LY))],(.Mj (.int .i64) .bool))),(134,([Fg,Mr,(.ptr .LY)],(.int .i64)))]
def as5:List (Nat×List (Option Ty)):=[(71,[some (.int .u8)]),(123,[none,none]),(124,[none,none]),(125,[none]),(126,[none,some (.ptr Mc)]),(127,[none,none]),(128,[none,some (.ptr Mc)]),(135,[none,some (.int .i64)]),(148,[none,some Mm,some (.int .i64)]),(149,[none,some Pw,some (.int .i64)]),(152,[none,some (.int .i64),some (.int .i64)]),(154,[none,some (.int .i64)]),(155,[none,some (.sl Mr),some .str,some (.int .i64)]),(157,[none,some (.int .i64)]),(165,[some LQ]),(167,[some (.int .i64),none]),(168,[some (.int .i64),none,none,none,none]),(173,[none,some .str,some (.int .i64)]),(179,[some (.int .i64),none,none]),(197,[none]),(198,[none,some (.int .i64),some (.int .i64)]),(199,[none,some (.int .i64),some (.int .i64)]),(200,[none]),(201,[none,none])]
def b29:List (Nat×Nat):=[(110,3),(138,132),(178,3),(189,274),(197,196),(268,3)]
noncomputable def env:Env:=bu0 Tryz.prog tys strs ai9 fns as5 b29 [(29,28),(1032,28),(22,46),(26,260),(22,45),(26,217),(58,46),(42,63),(43,35),(59,34),(70,63),(71,63),(74,63),(72,35),(124,66)] true [] [(66,5)] [149,123,124,128,152] [192,208] [] [((123,15),[[],[8]]),((124,5),[[0,1,2,3,4,5,6,7,8,9,10,11,12,13,14,15],[0,1,2,3,4,5,6,7,8,9,10,11,12,14,13,15]]),((128,10),[[],[8]]),((76,17),[[],[13]]),((10,7),[[],[8]]),((155,10),[[0,1,2,5,6,7,8,9,10,11,12,3,4,13]]),((12,12),[[],[8]]),((5,6),[[0,1,2,3,4,5,6,7,8,9,10],[0,1,2,3,4,5,6,8,7,9,10],[0,1,2,3,4,5,6,8,9,7,10],[0,1,2,3,8,4,5,6,7,9,10],[0,1,2,3,8,4,5,6,9,7,10],[0,1,2,8,3,4,5,6,7,9,10],[0,1,2,8,3,4,5,6,9,7,10]])] [] [(76,10),(76,11),(128,15),(128,16),(128,17),(126,7),(127,1),(74,4)] [((208, "Len"),(197,some 204)),((208, "Less"),(198,some 204)),((208, "Swap"),(199,some 204)),((208, "Push"),(201,none)),((208, "Pop"),(200,none))]
theorem bC0(t:Nat):env.emp t=false:=rfl
theorem bC1(f i:Nat):env.UI f i=ai7 [(76,10),(76,11),(128,15),(128,16),(128,17),(126,7),(127,1),(74,4)] f i:=rfl
theorem b30(f i:Nat):env.fl f i=aT3 [((123,15),[[],[8]]),((124,5),[[0,1,2,3,4,5,6,7,8,9,10,11,12,13,14,15],[0,1,2,3,4,5,6,7,8,9,10,11,12,14,13,15]]),((128,10),[[],[8]]),((76,17),[[],[13]]),((10,7),[[],[8]]),((155,10),[[0,1,2,5,6,7,8,9,10,11,12,3,4,13]]),((12,12),[[],[8]]),((5,6),[[0,1,2,3,4,5,6,7,8,9,10],[0,1,2,3,4,5,6,8,7,9,10],[0,1,2,3,4,5,6,8,9,7,10],[0,1,2,3,8,4,5,6,7,9,10],[0,1,2,3,8,4,5,6,9,7,10],[0,1,2,8,3,4,5,6,7,9,10],[0,1,2,8,3,4,5,6,9,7,10]])] f i:=rfl
theorem bC2(t:Nat):env.YK t=LS t [192,208]:=rfl
theorem b31(f:Nat):env.px f=false:=rfl
theorem b32(f:Nat):env.nd f=LS f [149,123,124,128,152]:=rfl
theorem b33(t:Nat):env.Wj t=false:=rfl
theorem b34(t:Nat):env.XK t=look t [(66,5)]:=rfl
theorem b35(d t:Nat):env.ro d t=ai7 [(29,28),(1032,28),(22,46),(26,260),(22,45),(26,217),(58,46),(42,63),(43,35),(59,34),(70,63),(71,63),(74,63),(72,35),(124,66)] d t:=rfl
theorem b36:env.tm=true:=rfl
theorem av:L6 env:=aB7 (by kernel_rfl) (by kernel_rfl) (by kernel_rfl) (by kernel_rfl) (by kernel_rfl) (by kernel_rfl) (by kernel_rfl) (by kernel_rfl) (by kernel_rfl) (by kernel_rfl)
theorem aE4:env.mapKey 110=some 3:=rfl
theorem aE5:env.mapKey 138=some 132:=rfl
theorem aE6:env.mapKey 178=some 3:=rfl
theorem aE7:env.mapKey 189=some 274:=rfl
theorem aE8:env.mapKey 197=some 196:=rfl
theorem aE9:env.mapKey 268=some 3:=rfl
theorem b37:env.ty 1=some .LY:=rfl
theorem b38:env.ty 2=some (.int .i64):=rfl
theorem b39:env.ty 3=some (.int .i64):=rfl
theorem b40:env.ty 4=some .bool:=rfl
theorem b41:env.ty 5=some (.int .u8):=rfl
theorem b42:env.ty 6=some (.int .u8):=rfl
theorem b43:env.ty 7=some Qs:=rfl
theorem b44:env.ty 8=some Qs:=rfl
theorem b45:env.ty 9=some .str:=rfl
theorem bC3:env.ty 10=some .str:=rfl
theorem bC4:env.ty 11=some .str:=rfl
theorem bC5:env.ty 12=some (.int .u64):=rfl
theorem bC6:env.ty 13=some NT:=rfl
theorem bC7:env.ty 14=some NT:=rfl
theorem bC8:env.ty 21=some (.int .i32):=rfl
theorem bC9:env.ty 22=some (.sl OP):=rfl
theorem bD0:env.ty 23=some QW:=rfl
theorem bD1:env.ty 24=some QW:=rfl
theorem bD2:env.ty 25=some (.sl (.sl (.int .u8))):=rfl
theorem bD3:env.ty 26=some (.sl MK):=rfl
theorem bD4:env.ty 27=some .LY:=rfl
theorem bD5:env.ty 28=some (.sl Mn):=rfl
theorem bD6:env.ty 29=some LQ:=rfl
theorem bD7:env.ty 30=some LQ:=rfl
theorem bD8:env.ty 31=some .LY:=rfl
theorem bD9:env.ty 32=some (.sl .str):=rfl
theorem bE0:env.ty 33=some .LY:=rfl
theorem bE1:env.ty 34=some (.sl Mv):=rfl
theorem bE2:env.ty 35=some (.sl (.sl MT)):=rfl
theorem bE3:env.ty 36=some (.sl Uy):=rfl
theorem bE4:env.ty 37=some Ok:=rfl
theorem bE5:env.ty 38=some Ok:=rfl
theorem bE6:env.ty 39=some (.int .i64):=rfl
theorem bE7:env.ty 41=some .LY:=rfl
theorem bE8:env.ty 43=some .LY:=rfl
theorem bE9:env.ty 44=some .LY:=rfl
theorem bF0:env.ty 45=some (.sl Fg):=rfl
theorem bF1:env.ty 46=some (.sl LR):=rfl
theorem bF2:env.ty 47=some (.st (.pair (.int .i64) (.pair (.int .i64) (.pair (.int .i64) (.pair (.int .i64) (.pair (.int .i64) (.pair (.int .i64) (.pair (.int .i64) (.int .i64))))))))):=rfl
theorem bF3:env.ty 48=some Mt:=rfl
theorem bF4:env.ty 49=some Mt:=rfl
theorem bF5:env.ty 50=some .LY:=rfl
theorem bF6:env.ty 51=some (.sl (.int .i64)):=rfl
theorem bF7:env.ty 52=some MK:=rfl
theorem bF8:env.ty 53=some MK:=rfl
theorem bF9:env.ty 54=some Xp:=rfl
theorem bG0:env.ty 55=some Xp:=rfl
theorem bG1:env.ty 57=some .LY:=rfl
theorem bG2:env.ty 58=some .LY:=rfl
theorem bG3:env.ty 59=some .LY:=rfl
theorem bG4:env.ty 60=some .LY:=rfl
theorem bG5:env.ty 61=some .LY:=rfl
theorem bG6:env.ty 62=some (.sl MT):=rfl
theorem bG7:env.ty 63=some (.sl MT):=rfl
theorem bG8:env.ty 64=some MT:=rfl
theorem bG9:env.ty 65=some MT:=rfl
theorem bH0:env.ty 66=some (.sl (.int .u8)):=rfl
theorem bH1:env.ty 67=some (.sl R6):=rfl
theorem bH2:env.ty 68=some Mv:=rfl
theorem bH3:env.ty 69=some Mv:=rfl
theorem bH4:env.ty 70=some Uy:=rfl
theorem bH5:env.ty 71=some Uy:=rfl
theorem bH6:env.ty 72=some .LY:=rfl
theorem bH7:env.ty 73=some .LY:=rfl
theorem bH8:env.ty 74=some (.st (.pair (.int .u8) (.int .u8))):=rfl
theorem bH9:env.ty 76=some .LY:=rfl
theorem bI0:env.ty 77=some .LY:=rfl
theorem bI1:env.ty 78=some Fg:=rfl
theorem bI2:env.ty 79=some Fg:=rfl
theorem bI3:env.ty 80=some .LY:=rfl
theorem bI4:env.ty 81=some .LY:=rfl
theorem bI5:env.ty 82=some .LY:=rfl
theorem bI6:env.ty 83=some .LY:=rfl
theorem bI7:env.ty 84=some .LY:=rfl
theorem bI8:env.ty 85=some .LY:=rfl
theorem bI9:env.ty 86=some .LY:=rfl
theorem bJ0:env.ty 87=some .LY:=rfl
theorem bJ1:env.ty 88=some .LY:=rfl
theorem bJ2:env.ty 89=some .LY:=rfl
theorem bJ3:env.ty 90=some .LY:=rfl
theorem bJ4:env.ty 91=some R8:=rfl
theorem bJ5:env.ty 92=some R8:=rfl
theorem bJ6:env.ty 93=some .LY:=rfl
theorem bJ7:env.ty 94=some Mn:=rfl
theorem bJ8:env.ty 95=some Mn:=rfl
theorem bJ9:env.ty 96=some .LY:=rfl
theorem bK0:env.ty 97=some .LY:=rfl
theorem bK1:env.ty 98=some .LY:=rfl
theorem aX7:env.ty 100=some .LY:=rfl
theorem aX8:env.ty 102=some .LY:=rfl
theorem aX9:env.ty 103=some .LY:=rfl
theorem aY0:env.ty 104=some .LY:=rfl
theorem aY1:env.ty 105=some LR:=rfl
theorem aY2:env.ty 106=some LR:=rfl
theorem aY3:env.ty 107=some .LY:=rfl
theorem aY4:env.ty 108=some .LY:=rfl
theorem aY5:env.ty 109=some .LY:=rfl
theorem aY6:env.ty 110=some (.mp (.int .i64) Ot):=rfl
theorem aY7:env.ty 111=some .LY:=rfl
theorem aY8:env.ty 112=some .LY:=rfl
theorem aY9:env.ty 113=some .LY:=rfl
theorem aZ0:env.ty 114=some .LY:=rfl
theorem aZ1:env.ty 115=some .LY:=rfl
theorem aZ2:env.ty 116=some .LY:=rfl
theorem aZ3:env.ty 117=some .LY:=rfl
theorem aZ4:env.ty 118=some .LY:=rfl
theorem aZ5:env.ty 120=some .LY:=rfl
theorem aZ6:env.ty 121=some Mr:=rfl
theorem aZ7:env.ty 122=some Mr:=rfl
theorem aZ8:env.ty 124=some .LY:=rfl
theorem aZ9:env.ty 125=some TC:=rfl
theorem a00:env.ty 126=some TC:=rfl
theorem a01:env.ty 127=some .LY:=rfl
theorem a02:env.ty 128=some .LY:=rfl
theorem a03:env.ty 129=some .LY:=rfl
theorem a04:env.ty 130=some .LY:=rfl
theorem a05:env.ty 131=some Nu:=rfl
theorem a06:env.ty 132=some Nu:=rfl
theorem a07:env.ty 133=some .LY:=rfl
theorem a08:env.ty 134=some .LY:=rfl
theorem a09:env.ty 135=some .LY:=rfl
theorem a10:env.ty 136=some Zr:=rfl
theorem a11:env.ty 137=some Zr:=rfl
theorem a12:env.ty 138=some (.mp Nu (.int .i64)):=rfl
theorem a13:env.ty 140=some .LY:=rfl
theorem a14:env.ty 141=some .LY:=rfl
theorem a15:env.ty 142=some .LY:=rfl
theorem a16:env.ty 143=some .LY:=rfl
theorem a17:env.ty 144=some .LY:=rfl
theorem a18:env.ty 145=some .LY:=rfl
theorem a19:env.ty 146=some OP:=rfl
theorem a20:env.ty 147=some OP:=rfl
theorem a21:env.ty 148=some .LY:=rfl
theorem a22:env.ty 149=some (.sl MF):=rfl
theorem a23:env.ty 151=some .LY:=rfl
theorem a24:env.ty 152=some MF:=rfl
theorem a25:env.ty 153=some MF:=rfl
theorem a26:env.ty 154=some .LY:=rfl
theorem a27:env.ty 155=some .LY:=rfl
theorem a28:env.ty 156=some .LY:=rfl
theorem a29:env.ty 157=some .LY:=rfl
theorem a30:env.ty 158=some .LY:=rfl
theorem a31:env.ty 159=some .LY:=rfl
theorem a32:env.ty 160=some .LY:=rfl
theorem a33:env.ty 161=some .LY:=rfl
theorem a34:env.ty 162=some .LY:=rfl
theorem a35:env.ty 163=some .LY:=rfl
theorem a36:env.ty 164=some Ot:=rfl
theorem a37:env.ty 165=some Ot:=rfl
theorem a38:env.ty 167=some .LY:=rfl
theorem a39:env.ty 168=some .LY:=rfl
theorem a40:env.ty 169=some .LY:=rfl
theorem a41:env.ty 170=some .LY:=rfl
theorem a42:env.ty 171=some .LY:=rfl
theorem a43:env.ty 172=some .LY:=rfl
theorem a44:env.ty 173=some (.int .i64):=rfl
theorem a45:env.ty 174=some .LY:=rfl
theorem a46:env.ty 175=some .LY:=rfl
theorem a47:env.ty 176=some .LY:=rfl
theorem a48:env.ty 177=some .LY:=rfl
theorem a49:env.ty 178=some (.mp (.int .i64) (.mp Nu (.int .i64))):=rfl
theorem a50:env.ty 179=some .LY:=rfl
theorem a51:env.ty 181=some .LY:=rfl
theorem a52:env.ty 182=some .LY:=rfl
theorem a53:env.ty 183=some (.st (.pair (.int .i64) (.int .i64))):=rfl
theorem a54:env.ty 184=some .LY:=rfl
theorem a55:env.ty 185=some .LY:=rfl
theorem a56:env.ty 187=some .LY:=rfl
theorem a57:env.ty 188=some (.ptr OU):=rfl
theorem a58:env.ty 189=some (.mp N5 O6):=rfl
theorem a59:env.ty 190=some OU:=rfl
theorem a60:env.ty 191=some OU:=rfl
theorem a61:env.ty 192=some (.ptr Mc):=rfl
theorem a62:env.ty 193=some Pw:=rfl
theorem a63:env.ty 194=some Pw:=rfl
theorem a64:env.ty 195=some Mm:=rfl
theorem a65:env.ty 196=some Mm:=rfl
theorem a66:env.ty 197=some (.mp Mm (.int .i64)):=rfl
theorem a67:env.ty 198=some NR:=rfl
theorem a68:env.ty 199=some NR:=rfl
theorem a69:env.ty 200=some Mc:=rfl
theorem a70:env.ty 201=some Mc:=rfl
theorem a71:env.ty 202=some .LY:=rfl
theorem a72:env.ty 203=some (.sl (.ptr Mc)):=rfl
theorem a73:env.ty 204=some (.sl (.ptr Mc)):=rfl
theorem a74:env.ty 205=some .LY:=rfl
theorem a75:env.ty 207=some .LY:=rfl
theorem a76:env.ty 209=some .LY:=rfl
theorem a77:env.ty 210=some .LY:=rfl
theorem a78:env.ty 211=some .LY:=rfl
theorem a79:env.ty 212=some .LY:=rfl
theorem a80:env.ty 213=some .LY:=rfl
theorem a81:env.ty 214=some .LY:=rfl
theorem a82:env.ty 215=some .LY:=rfl
theorem a83:env.ty 216=some .LY:=rfl
theorem a84:env.ty 217=some (.sl (.sl Fg)):=rfl
theorem a85:env.ty 218=some .LY:=rfl
theorem a86:env.ty 219=some .LY:=rfl
theorem a87:env.ty 220=some .LY:=rfl
theorem a88:env.ty 221=some (.int .u64):=rfl
theorem a89:env.ty 222=some .LY:=rfl
theorem a90:env.ty 223=some R6:=rfl
theorem a91:env.ty 224=some R6:=rfl
theorem a92:env.ty 225=some (.int .u8):=rfl
theorem a93:env.ty 226=some .LY:=rfl
theorem a94:env.ty 227=some .LY:=rfl
theorem a95:env.ty 228=some .LY:=rfl
theorem a96:env.ty 229=some (.sl Nu):=rfl
theorem a97:env.ty 230=some .LY:=rfl
theorem a98:env.ty 231=some (.sl .bool):=rfl
theorem a99:env.ty 232=some .LY:=rfl
theorem ba0:env.ty 233=some .LY:=rfl
theorem ba1:env.ty 234=some (.sl Mm):=rfl
theorem ba2:env.ty 236=some .LY:=rfl
theorem ba3:env.ty 237=some .LY:=rfl
theorem ba4:env.ty 238=some O6:=rfl
theorem ba5:env.ty 239=some O6:=rfl
theorem ba6:env.ty 240=some .LY:=rfl
theorem ba7:env.ty 241=some .LY:=rfl
theorem ba8:env.ty 242=some .LY:=rfl
theorem ba9:env.ty 245=some .LY:=rfl
theorem bb0:env.ty 246=some .LY:=rfl
theorem bb1:env.ty 247=some .LY:=rfl
theorem bb2:env.ty 248=some .LY:=rfl
theorem bb3:env.ty 249=some .LY:=rfl
theorem bb4:env.ty 250=some .LY:=rfl
theorem bb5:env.ty 251=some .LY:=rfl
theorem bb6:env.ty 253=some V9:=rfl
theorem bb7:env.ty 254=some V9:=rfl
theorem bb8:env.ty 255=some .LY:=rfl
theorem bb9:env.ty 256=some Ob:=rfl
theorem bc0:env.ty 257=some Ob:=rfl
theorem bc1:env.ty 258=some (.sl Ob):=rfl
theorem bc2:env.ty 259=some .LY:=rfl
theorem bc3:env.ty 260=some (.sl (.sl LR)):=rfl
theorem bc4:env.ty 261=some .LY:=rfl
theorem bc5:env.ty 262=some .LY:=rfl
theorem bc6:env.ty 263=some .LY:=rfl
theorem bc7:env.ty 264=some .LY:=rfl
theorem bc8:env.ty 265=some .LY:=rfl
theorem bc9:env.ty 266=some .LY:=rfl
theorem bd0:env.ty 267=some .LY:=rfl
theorem bd1:env.ty 268=some (.mp (.int .i64) (.sl (.int .i64))):=rfl
theorem bd2:env.ty 269=some .LY:=rfl
theorem bd3:env.ty 270=some .LY:=rfl
theorem bd4:env.ty 271=some .LY:=rfl
theorem bd5:env.ty 272=some .LY:=rfl
theorem bd6:env.ty 273=some N5:=rfl
theorem bd7:env.ty 274=some N5:=rfl
theorem bd8:env.ty 276=some .LY:=rfl
theorem bd9:env.ty 277=some .LY:=rfl
theorem be0:env.ty 278=some .LY:=rfl
theorem be1:env.ty 279=some .LY:=rfl
theorem be2:env.ty 281=some (.sl (.sl (.int .i64))):=rfl
theorem be3:env.ty 282=some .LY:=rfl
theorem be4:env.ty 283=some .LY:=rfl
theorem be5:env.ty 284=some .LY:=rfl
theorem be6:env.ty 290=some (.int .u32):=rfl
theorem be7:env.ty 291=some (.int .u8):=rfl
theorem be8:env.ty 292=some (.int .u8):=rfl
theorem be9:env.ty 293=some .LY:=rfl
theorem bf0:env.ty 295=some (.int .i32):=rfl
theorem bf1:env.ty 296=some (.int .i32):=rfl
theorem bK2:env.str 7=true:=rfl
theorem bK3:env.str 8=true:=rfl
theorem bf2:env.str 13=true:=rfl
theorem bf3:env.str 14=true:=rfl
theorem bf4:env.str 23=true:=rfl
theorem bf5:env.str 24=true:=rfl
theorem bf6:env.str 29=true:=rfl
theorem bf7:env.str 30=true:=rfl
theorem bf8:env.str 37=true:=rfl
theorem bf9:env.str 38=true:=rfl
theorem bg0:env.str 48=true:=rfl
theorem bg1:env.str 49=true:=rfl
theorem bg2:env.str 52=true:=rfl
theorem bg3:env.str 53=true:=rfl
theorem bg4:env.str 54=true:=rfl
theorem bg5:env.str 55=true:=rfl
theorem bg6:env.str 64=true:=rfl
theorem bg7:env.str 65=true:=rfl
theorem bg8:env.str 68=true:=rfl
theorem bg9:env.str 69=true:=rfl
theorem bh0:env.str 70=true:=rfl
theorem bh1:env.str 71=true:=rfl
theorem bh2:env.str 78=true:=rfl
theorem bh3:env.str 79=true:=rfl
theorem bh4:env.str 91=true:=rfl
theorem bh5:env.str 92=true:=rfl
theorem bh6:env.str 94=true:=rfl
theorem bh7:env.str 95=true:=rfl
theorem aF0:env.str 105=true:=rfl
theorem aF1:env.str 106=true:=rfl
theorem aF2:env.str 121=true:=rfl
theorem aF3:env.str 122=true:=rfl
theorem aF4:env.str 125=true:=rfl
theorem aF5:env.str 126=true:=rfl
theorem aF6:env.str 131=true:=rfl
theorem aF7:env.str 132=true:=rfl
theorem aF8:env.str 136=true:=rfl
theorem aF9:env.str 137=true:=rfl
theorem aG0:env.str 146=true:=rfl
theorem aG1:env.str 147=true:=rfl
theorem aG2:env.str 152=true:=rfl
theorem aG3:env.str 153=true:=rfl
theorem aG4:env.str 164=true:=rfl
theorem aG5:env.str 165=true:=rfl
theorem aG6:env.str 190=true:=rfl
theorem aG7:env.str 191=true:=rfl
theorem aG8:env.str 193=true:=rfl
theorem aG9:env.str 194=true:=rfl
theorem aH0:env.str 195=true:=rfl
theorem aH1:env.str 196=true:=rfl
theorem aH2:env.str 198=true:=rfl
theorem aH3:env.str 199=true:=rfl
theorem aH4:env.str 200=true:=rfl
theorem aH5:env.str 201=true:=rfl
theorem aH6:env.str 223=true:=rfl
theorem aH7:env.str 224=true:=rfl
theorem aH8:env.str 238=true:=rfl
theorem aH9:env.str 239=true:=rfl
theorem aI0:env.str 253=true:=rfl
theorem aI1:env.str 254=true:=rfl
theorem aI2:env.str 256=true:=rfl
theorem aI3:env.str 257=true:=rfl
theorem aI4:env.str 273=true:=rfl
theorem aI5:env.str 274=true:=rfl
theorem bh8:env.str 47=false:=rfl
theorem bh9:env.str 74=false:=rfl
theorem aI6:env.str 183=false:=rfl
theorem bK4:env.cmp 7=true:=rfl
theorem bK5:env.cmp 8=true:=rfl
theorem bi0:env.cmp 47=true:=rfl
theorem bi1:env.cmp 52=true:=rfl
theorem bi2:env.cmp 53=true:=rfl
theorem bi3:env.cmp 54=true:=rfl
theorem bi4:env.cmp 55=true:=rfl
theorem bi5:env.cmp 64=true:=rfl
theorem bi6:env.cmp 65=true:=rfl
theorem bi7:env.cmp 70=true:=rfl
theorem bi8:env.cmp 71=true:=rfl
theorem bi9:env.cmp 74=true:=rfl
theorem bj0:env.cmp 78=true:=rfl
theorem bj1:env.cmp 79=true:=rfl
theorem bj2:env.cmp 94=true:=rfl
theorem bj3:env.cmp 95=true:=rfl
theorem aI7:env.cmp 105=true:=rfl
theorem aI8:env.cmp 106=true:=rfl
theorem aI9:env.cmp 121=true:=rfl
theorem aJ0:env.cmp 122=true:=rfl
theorem aJ1:env.cmp 125=true:=rfl
theorem aJ2:env.cmp 126=true:=rfl
theorem aJ3:env.cmp 131=true:=rfl
theorem aJ4:env.cmp 132=true:=rfl
theorem aJ5:env.cmp 152=true:=rfl
theorem aJ6:env.cmp 153=true:=rfl
theorem aJ7:env.cmp 183=true:=rfl
theorem aJ8:env.cmp 193=true:=rfl
theorem aJ9:env.cmp 194=true:=rfl
theorem aK0:env.cmp 195=true:=rfl
theorem aK1:env.cmp 196=true:=rfl
theorem aK2:env.cmp 198=true:=rfl
theorem aK3:env.cmp 199=true:=rfl
theorem aK4:env.cmp 223=true:=rfl
theorem aK5:env.cmp 224=true:=rfl
theorem aK6:env.cmp 238=true:=rfl
theorem aK7:env.cmp 239=true:=rfl
theorem aK8:env.cmp 256=true:=rfl
theorem aK9:env.cmp 257=true:=rfl
theorem aL0:env.cmp 273=true:=rfl
theorem aL1:env.cmp 274=true:=rfl
theorem b46:env.fn 2=some ([],.unit):=rfl
theorem b47:env.fn 3=some ([QW,(.sl (.sl (.int .u8))),(.sl MK)],.bool):=rfl
theorem b48:env.fn 4=some ([QW,(.sl (.sl (.int .u8)))],.bool):=rfl
theorem b49:env.fn 5=some ([QW,(.sl (.sl (.int .u8))),(.sl (.sl (.int .u8)))],.bool):=rfl
theorem b50:env.fn 6=some ([(.sl MK),(.sl (.int .u8)),(.st (.pair (.int .u8) (.int .u8)))],.bool):=rfl
theorem b51:env.fn 7=some ([QW,.str,(.int .u8)],.bool):=rfl
theorem b52:env.fn 8=some ([QW,(.sl (.int .u8))],.bool):=rfl
theorem b53:env.fn 9=some ([],.bool):=rfl
theorem bK6:env.fn 10=some ([QW],LQ):=rfl
theorem bK7:env.fn 11=some ([(.sl (.sl (.int .u8))),(.int .i64)],(.sl .str)):=rfl
theorem bK8:env.fn 12=some ([LQ,(.sl .str)],(.Mj Ok (.int .i64))):=rfl
theorem bK9:env.fn 13=some ([LQ,(.sl .str)],(.Mj Ok (.int .i64))):=rfl
theorem bL0:env.fn 14=some ([LQ,.str],(.Mj (.sl Mv) (.int .i64))):=rfl
theorem bL1:env.fn 15=some ([LQ,.str],(.Mj (.sl Mv) (.int .i64))):=rfl
theorem bL2:env.fn 16=some ([(.sl Mv),(.sl Mv)],.bool):=rfl
theorem bL3:env.fn 17=some ([(.sl MK),(.int .i64)],Mt):=rfl
theorem bL4:env.fn 18=some ([Mt,(.int .i64),(.int .i64),(.sl (.int .i64))],(.Mj Mt (.int .i64))):=rfl
theorem bL5:env.fn 19=some ([Mt,Xp,(.sl (.int .i64))],(.Mj Mt (.int .i64))):=rfl
theorem bL6:env.fn 20=some ([Ok,Ok],.bool):=rfl
theorem bL7:env.fn 21=some ([Mt,Mt],.bool):=rfl
theorem bL8:env.fn 22=some ([Mt,Fg],(.Mj Mt (.Mj (.int .i64) (.int .i64)))):=rfl
theorem bL9:env.fn 23=some ([(.int .u8)],.str):=rfl
theorem bM0:env.fn 24=some ([(.sl Fg),(.sl Fg)],.bool):=rfl
theorem bM1:env.fn 25=some ([Mt],.bool):=rfl
theorem bM2:env.fn 26=some ([Mt,.str,(.int .i64)],(.int .i64)):=rfl
theorem bM3:env.fn 27=some ([.str],.bool):=rfl
theorem bM4:env.fn 28=some ([],LQ):=rfl
theorem bM5:env.fn 29=some ([Ok],.bool):=rfl
theorem bM6:env.fn 30=some ([(.sl (.int .u8)),(.int .i64)],.str):=rfl
theorem bM7:env.fn 31=some ([.str],.bool):=rfl
theorem bM8:env.fn 32=some ([LQ,.str,.str],(.int .i64)):=rfl
theorem bM9:env.fn 33=some ([Mt,Fg],R8):=rfl
theorem bN0:env.fn 34=some ([QW],LQ):=rfl
theorem bN1:env.fn 36=some ([.str],.bool):=rfl
theorem bN2:env.fn 37=some ([LQ,.str],(.Mj .str (.Mj (.int .i64) (.int .i64)))):=rfl
theorem bN3:env.fn 38=some ([LQ,.str],(.Mj .str (.int .i64))):=rfl
theorem bN4:env.fn 39=some ([Mv,Mv],.bool):=rfl
theorem bN5:env.fn 40=some ([Mt,MK],Mt):=rfl
theorem bN6:env.fn 41=some ([Mt,LR],(.Mj Mt (.int .i64))):=rfl
theorem bN7:env.fn 42=some ([Mt,LR],(.Mj Mt (.int .i64))):=rfl
theorem bN8:env.fn 43=some ([Fg],.bool):=rfl
theorem bN9:env.fn 47=some ([Fg],Mr):=rfl
theorem bO0:env.fn 48=some ([(.int .i64),(.int .i64),(.int .i64)],.bool):=rfl
theorem bO1:env.fn 51=some ([LR],Mr):=rfl
theorem bO2:env.fn 54=some ([TC,(.int .i64)],(.Mj (.int .i64) (.int .i64))):=rfl
theorem bO3:env.fn 55=some ([(.int .i64),(.int .i64),(.int .i64)],.bool):=rfl
theorem bO4:env.fn 56=some ([.str],.bool):=rfl
theorem bO5:env.fn 57=some ([(.sl (.sl MT))],.bool):=rfl
theorem bO6:env.fn 58=some ([Mv],.bool):=rfl
theorem bO7:env.fn 59=some ([(.sl Uy),(.int .i64)],.bool):=rfl
theorem bO8:env.fn 60=some ([.str],.bool):=rfl
theorem bO9:env.fn 61=some ([LQ],.bool):=rfl
theorem bP0:env.fn 62=some ([.str],.bool):=rfl
theorem bP1:env.fn 63=some ([Nu],(.int .i64)):=rfl
theorem bP2:env.fn 65=some ([.str,.str],.bool):=rfl
theorem bP3:env.fn 67=some ([LQ,(.int .i64)],.bool):=rfl
theorem bP4:env.fn 68=some ([Fg],.bool):=rfl
theorem bP5:env.fn 69=some ([(.sl LR),Fg],.bool):=rfl
theorem bP6:env.fn 70=some ([(.sl Fg),Fg],(.sl Fg)):=rfl
theorem bP7:env.fn 72=some ([OP,(.int .i64)],Mn):=rfl
theorem bP8:env.fn 73=some ([LQ,(.int .i64)],.bool):=rfl
theorem bP9:env.fn 75=some ([.str],.bool):=rfl
theorem bQ0:env.fn 76=some ([LQ,.str,(.int .i64)],(.Mj (.sl MF) (.int .i64))):=rfl
theorem bQ1:env.fn 77=some ([LQ,.str,(.int .i64)],(.Mj (.sl MF) (.int .i64))):=rfl
theorem bQ2:env.fn 78=some ([MK],.bool):=rfl
theorem bQ3:env.fn 79=some ([MK],LR):=rfl
theorem bQ4:env.fn 80=some ([MK],Fg):=rfl
theorem bQ5:env.fn 82=some ([LR],.bool):=rfl
theorem bQ6:env.fn 83=some ([(.sl LR),LR],(.sl LR)):=rfl
theorem bQ7:env.fn 84=some ([(.sl Fg),(.sl LR)],(.sl Fg)):=rfl
theorem bQ8:env.fn 85=some ([Mr,(.int .i64)],.bool):=rfl
theorem bQ9:env.fn 88=some ([LR],.bool):=rfl
theorem bR0:env.fn 89=some ([LR,Fg],.bool):=rfl
theorem bR1:env.fn 90=some ([LR],.bool):=rfl
theorem bR2:env.fn 91=some ([LR,Fg],.bool):=rfl
theorem bR3:env.fn 92=some ([LR],.bool):=rfl
theorem bR4:env.fn 93=some ([LR,Fg],.bool):=rfl
theorem bR5:env.fn 94=some ([LR],.bool):=rfl
theorem bR6:env.fn 95=some ([LR,Fg],.bool):=rfl
theorem bR7:env.fn 96=some ([LR],.bool):=rfl
theorem bR8:env.fn 97=some ([LR,Fg],.bool):=rfl
theorem bR9:env.fn 99=some ([(.sl (.sl Fg))],(.sl Fg)):=rfl
theorem bj4:env.fn 100=some ([Mr,Mr],(.int .i64)):=rfl
theorem bj5:env.fn 103=some ([(.int .i64),(.int .i64)],(.int .i64)):=rfl
theorem bj6:env.fn 105=some ([(.sl MT)],.bool):=rfl
theorem bj7:env.fn 106=some ([(.sl MT)],.bool):=rfl
theorem bj8:env.fn 107=some ([.str],.bool):=rfl
theorem bj9:env.fn 108=some ([.str],.bool):=rfl
theorem bk0:env.fn 109=some ([(.sl R6)],.bool):=rfl
theorem bk1:env.fn 110=some ([LQ],(.int .i64)):=rfl
theorem bk2:env.fn 111=some ([.str],.bool):=rfl
theorem bk3:env.fn 112=some ([.str,.str],.bool):=rfl
theorem bk4:env.fn 114=some ([(.mp Nu (.int .i64)),Nu,(.int .i64)],.bool):=rfl
theorem bk5:env.fn 115=some ([(.int .i64),(.int .i64),(.int .i64)],.bool):=rfl
theorem bk6:env.fn 116=some ([LR,Fg],.bool):=rfl
theorem bk7:env.fn 117=some ([(.st (.pair (.int .i64) (.int .i64))),(.st (.pair (.int .i64) (.int .i64)))],.bool):=rfl
theorem bk8:env.fn 118=some ([(.st (.pair (.int .i64) (.int .i64))),.str,.str],Mn):=rfl
theorem bk9:env.fn 119=some ([(.int .u8)],(.int .i64)):=rfl
theorem bl0:env.fn 120=some ([.str],.bool):=rfl
theorem bl1:env.fn 121=some ([LQ],.bool):=rfl
theorem bl2:env.fn 122=some ([LQ],(.Mj LQ (.sl (.int .i64)))):=rfl
theorem bl3:env.fn 129=some ([.str],.bool):=rfl
theorem bl4:env.fn 130=some ([LQ,.str],(.sl MF)):=rfl
theorem bl5:env.fn 131=some ([(.sl (.sl LR))],(.sl LR)):=rfl
theorem bl6:env.fn 136=some ([(.sl (.int .i64))],(.int .i64)):=rfl
theorem bl7:env.fn 137=some ([(.int .i64),(.int .i64)],(.int .i64)):=rfl
theorem bl8:env.fn 139=some ([LQ],(.int .u8)):=rfl
theorem bl9:env.fn 140=some ([(.int .u8),(.int .i64)],.bool):=rfl
theorem bm0:env.fn 141=some ([LQ],(.int .u8)):=rfl
theorem bm1:env.fn 142=some ([LQ],(.sl (.int .i64))):=rfl
theorem bm2:env.fn 143=some ([LQ],(.Mj (.int .i64) (.int .i64))):=rfl
theorem bm3:env.fn 144=some ([LQ],(.sl .bool)):=rfl
theorem bm4:env.fn 145=some ([LQ],(.sl .bool)):=rfl
theorem bm5:env.fn 146=some ([LQ,Mn],.bool):=rfl
theorem bm6:env.fn 147=some ([(.ptr OU),Pw,Mn],(.Mj Pw .bool)):=rfl
theorem bm7:env.fn 150=some ([NR,NR],NR):=rfl
theorem bm8:env.fn 151=some ([NR,NR],.bool):=rfl
theorem bm9:env.fn 153=some ([(.ptr OU),Pw],.bool):=rfl
theorem bn0:env.fn 156=some ([MF,MF],.bool):=rfl
theorem bn1:env.fn 158=some ([(.int .i64)],.bool):=rfl
theorem bn2:env.fn 159=some ([(.int .i64)],(.int .u8)):=rfl
theorem bn3:env.fn 161=some ([Mn],.bool):=rfl
theorem bn4:env.fn 162=some ([(.sl (.int .i64)),(.sl (.int .i64))],(.int .i64)):=rfl
theorem bn5:env.fn 163=some ([(.int .i64),Mn],.bool):=rfl
theorem bn6:env.fn 164=some ([(.sl Mn),Mn],.bool):=rfl
theorem bn7:env.fn 166=some ([LQ],(.mp (.int .i64) (.sl (.int .i64)))):=rfl
theorem bn8:env.fn 169=some ([LQ,(.int .i64)],.bool):=rfl
theorem bn9:env.fn 170=some ([LQ,(.int .i64)],.bool):=rfl
theorem bo0:env.fn 171=some ([LQ,(.int .i64)],.bool):=rfl
theorem bo1:env.fn 172=some ([LQ,(.int .i64)],.bool):=rfl
theorem bo2:env.fn 174=some ([.str,(.int .i64),.str],.bool):=rfl
theorem bo3:env.fn 175=some ([(.sl Ob),Ob],.bool):=rfl
theorem bo4:env.fn 176=some ([(.sl (.int .i64))],(.sl (.int .i64))):=rfl
theorem bo5:env.fn 177=some ([(.sl (.int .i64)),(.sl (.int .i64))],(.int .i64)):=rfl
theorem bo6:env.fn 178=some ([(.sl Mn),Mn],(.int .i64)):=rfl
theorem bS0:env.fn 35=some ([LQ,(.sl .str)],(.OM 74 (.pair (.ptr (.sl .str)) (.ptr LQ)))):=rfl
theorem bS1:env.fn 44=some ([(.mp (.int .i64) Ot),(.sl LR),Fg],.bool):=rfl
theorem bS2:env.fn 45=some ([],(.mp (.int .i64) Ot)):=rfl
theorem bS3:env.fn 46=some ([(.sl Fg),.LY,Fg],(.sl Fg)):=rfl
theorem bS4:env.fn 49=some ([(.mp (.int .i64) Ot),LR],.bool):=rfl
theorem bS5:env.fn 50=some ([(.sl LR),.LY],.bool):=rfl
theorem bS6:env.fn 52=some ([(.sl Fg),.LY],.bool):=rfl
theorem bS7:env.fn 53=some ([(.sl LR),.LY,Mr],(.Mj (.int .i64) .bool)):=rfl
theorem bS8:env.fn 81=some ([(.sl LR),.LY,LR],(.sl LR)):=rfl
theorem bS9:env.fn 86=some ([(.sl LR),(.OM 87 (.pair (.ptr (.mp (.int .i64) Ot)) (.ptr Fg)))],.bool):=rfl
theorem bT0:env.fn 87=some ([LR,(.ptr (.mp (.int .i64) Ot)),(.ptr Fg)],.bool):=rfl
theorem bT1:env.fn 98=some ([(.sl Fg),.LY,Mr],(.Mj (.int .i64) .bool)):=rfl
theorem bo7:env.fn 101=some ([(.sl LR),Mr,(.OM 102 (.ptr .LY))],(.Mj (.int .i64) .bool)):=rfl
theorem bo8:env.fn 102=some ([LR,Mr,(.ptr .LY)],(.int .i64)):=rfl
theorem bo9:env.fn 132=some ([(.sl LR),(.OM 87 (.pair (.ptr (.mp (.int .i64) Ot)) (.ptr Fg)))],(.int .i64)):=rfl
theorem bp0:env.fn 133=some ([(.sl Fg),Mr,(.OM 134 (.ptr .LY))],(.Mj (.int .i64) .bool)):=rfl
theorem bp1:env.fn 134=some ([Fg,Mr,(.ptr .LY)],(.int .i64)):=rfl
theorem bT2:env.fn 71=none:=rfl
theorem bp2:env.Nt 71=some [some (.int .u8)]:=rfl
theorem bp3:env.fn 123=none:=rfl
theorem aL2:env.Nt 123=some [none,none]:=rfl
theorem bp4:env.fn 124=none:=rfl
theorem aL3:env.Nt 124=some [none,none]:=rfl
theorem bp5:env.fn 125=none:=rfl
theorem aL4:env.Nt 125=some [none]:=rfl
theorem bp6:env.fn 126=none:=rfl
theorem aL5:env.Nt 126=some [none,some (.ptr Mc)]:=rfl
theorem bp7:env.fn 127=none:=rfl
theorem aL6:env.Nt 127=some [none,none]:=rfl
theorem bp8:env.fn 128=none:=rfl
theorem aL7:env.Nt 128=some [none,some (.ptr Mc)]:=rfl
theorem bp9:env.fn 135=none:=rfl
theorem aL8:env.Nt 135=some [none,some (.int .i64)]:=rfl
theorem bq0:env.fn 148=none:=rfl
theorem aL9:env.Nt 148=some [none,some Mm,some (.int .i64)]:=rfl
theorem bq1:env.fn 149=none:=rfl
theorem aM0:env.Nt 149=some [none,some Pw,some (.int .i64)]:=rfl
theorem bq2:env.fn 152=none:=rfl
theorem aM1:env.Nt 152=some [none,some (.int .i64),some (.int .i64)]:=rfl
theorem bq3:env.fn 154=none:=rfl
theorem aM2:env.Nt 154=some [none,some (.int .i64)]:=rfl
theorem bq4:env.fn 155=none:=rfl
theorem aM3:env.Nt 155=some [none,some (.sl Mr),some .str,some (.int .i64)]:=rfl
theorem bq5:env.fn 157=none:=rfl
theorem aM4:env.Nt 157=some [none,some (.int .i64)]:=rfl
theorem bq6:env.fn 165=none:=rfl
theorem aM5:env.Nt 165=some [some LQ]:=rfl
theorem bq7:env.fn 167=none:=rfl
theorem aM6:env.Nt 167=some [some (.int .i64),none]:=rfl
theorem bq8:env.fn 168=none:=rfl
theorem aM7:env.Nt 168=some [some (.int .i64),none,none,none,none]:=rfl
theorem bq9:env.fn 173=none:=rfl
theorem aM8:env.Nt 173=some [none,some .str,some (.int .i64)]:=rfl
theorem br0:env.fn 179=none:=rfl
theorem aM9:env.Nt 179=some [some (.int .i64),none,none]:=rfl
theorem br1:env.fn 197=none:=rfl
theorem aN0:env.Nt 197=some [none]:=rfl
theorem br2:env.fn 198=none:=rfl
theorem aN1:env.Nt 198=some [none,some (.int .i64),some (.int .i64)]:=rfl
theorem br3:env.fn 199=none:=rfl
theorem aN2:env.Nt 199=some [none,some (.int .i64),some (.int .i64)]:=rfl
theorem br4:env.fn 200=none:=rfl
theorem aN3:env.Nt 200=some [none]:=rfl
theorem br5:env.fn 201=none:=rfl
theorem aN4:env.Nt 201=some [none,none]:=rfl
theorem XY:env.Q1 208 "Len" =some (197,some 204):=by kernel_rfl
theorem Xq:env.Q1 208 "Less" =some (198,some 204):=by kernel_rfl
theorem Xr:env.Q1 208 "Swap" =some (199,some 204):=by kernel_rfl
theorem Xs:env.Q1 208 "Push" =some (201,none):=by kernel_rfl
theorem XZ:env.Q1 208 "Pop" =some (200,none):=by kernel_rfl
theorem aN5:env.P.funcs[3]?=some Tryz.f3:=rfl
theorem cj5:env.P.funcs[4]?=some Tryz.f4:=rfl
theorem cj6:env.P.funcs[5]?=some Tryz.f5:=rfl
theorem cj7:env.P.funcs[6]?=some Tryz.f6:=rfl
theorem cd9:env.P.funcs[9]?=some Tryz.f9:=rfl
theorem bu2:env.P.funcs[10]?=some Tryz.f10:=rfl
theorem bu3:env.P.funcs[11]?=some Tryz.f11:=rfl
theorem b54:env.P.funcs[12]?=some Tryz.f12:=rfl
theorem VC:env.P.funcs[13]?=some Tryz.f13:=rfl
theorem bu4:env.P.funcs[14]?=some Tryz.f14:=rfl
theorem bu5:env.P.funcs[15]?=some Tryz.f15:=rfl
theorem bu6:env.P.funcs[16]?=some Tryz.f16:=rfl
theorem bu7:env.P.funcs[17]?=some Tryz.f17:=rfl
theorem bu8:env.P.funcs[18]?=some Tryz.f18:=rfl
theorem bu9:env.P.funcs[19]?=some Tryz.f19:=rfl
theorem ao2:env.P.funcs[20]?=some Tryz.f20:=rfl
theorem bv0:env.P.funcs[21]?=some Tryz.f21:=rfl
theorem b55:env.P.funcs[22]?=some Tryz.f22:=rfl
theorem b56:env.P.funcs[23]?=some Tryz.f23:=rfl
theorem bv1:env.P.funcs[24]?=some Tryz.f24:=rfl
theorem ao3:env.P.funcs[25]?=some Tryz.f25:=rfl
theorem bv2:env.P.funcs[26]?=some Tryz.f26:=rfl
theorem bv3:env.P.funcs[27]?=some Tryz.f27:=rfl
theorem b57:env.P.funcs[28]?=some Tryz.f28:=rfl
theorem bv4:env.P.funcs[30]?=some Tryz.f30:=rfl
theorem b59:env.P.funcs[33]?=some Tryz.f33:=rfl
theorem aN6:env.P.funcs[34]?=some Tryz.f34:=rfl
theorem b60:env.P.funcs[35]?=some Tryz.f35:=rfl
theorem bv5:env.P.funcs[36]?=some Tryz.f36:=rfl
theorem bv6:env.P.funcs[37]?=some Tryz.f37:=rfl
theorem bv7:env.P.funcs[38]?=some Tryz.f38:=rfl
theorem b61:env.P.funcs[39]?=some Tryz.f39:=rfl
theorem b62:env.P.funcs[40]?=some Tryz.f40:=rfl
theorem aN7:env.P.funcs[41]?=some Tryz.f41:=rfl
theorem b63:env.P.funcs[42]?=some Tryz.f42:=rfl
theorem b64:env.P.funcs[43]?=some Tryz.f43:=rfl
theorem b65:env.P.funcs[44]?=some Tryz.f44:=rfl
theorem b66:env.P.funcs[45]?=some Tryz.f45:=rfl
theorem b67:env.P.funcs[46]?=some Tryz.f46:=rfl
theorem b68:env.P.funcs[47]?=some Tryz.f47:=rfl
theorem b69:env.P.funcs[48]?=some Tryz.f48:=rfl
theorem b70:env.P.funcs[49]?=some Tryz.f49:=rfl
theorem bv8:env.P.funcs[50]?=some Tryz.f50:=rfl
theorem b71:env.P.funcs[51]?=some Tryz.f51:=rfl
theorem bv9:env.P.funcs[52]?=some Tryz.f52:=rfl
theorem b72:env.P.funcs[53]?=some Tryz.f53:=rfl
theorem b73:env.P.funcs[54]?=some Tryz.f54:=rfl
theorem bw0:env.P.funcs[55]?=some Tryz.f55:=rfl
theorem ao4:env.P.funcs[56]?=some Tryz.f56:=rfl
theorem bw1:env.P.funcs[60]?=some Tryz.f60:=rfl
theorem b75:env.P.funcs[65]?=some Tryz.f65:=rfl
theorem b76:env.P.funcs[68]?=some Tryz.f68:=rfl
theorem bw2:env.P.funcs[69]?=some Tryz.f69:=rfl
theorem bw3:env.P.funcs[70]?=some Tryz.f70:=rfl
theorem Yz:env.P.funcs[71]?=some Tryz.f71:=rfl
theorem aN8:env.P.funcs[72]?=some Tryz.f72:=rfl
theorem bw4:env.P.funcs[73]?=some Tryz.f73:=rfl
theorem Xt:env.P.funcs[74]?=some Tryz.f74:=rfl
theorem ao5:env.P.funcs[75]?=some Tryz.f75:=rfl
theorem VD:env.P.funcs[76]?=some Tryz.f76:=rfl
theorem b77:env.P.funcs[77]?=some Tryz.f77:=rfl
theorem b78:env.P.funcs[78]?=some Tryz.f78:=rfl
theorem b79:env.P.funcs[79]?=some Tryz.f79:=rfl
theorem b80:env.P.funcs[80]?=some Tryz.f80:=rfl
theorem b81:env.P.funcs[81]?=some Tryz.f81:=rfl
theorem b82:env.P.funcs[82]?=some Tryz.f82:=rfl
theorem bw5:env.P.funcs[83]?=some Tryz.f83:=rfl
theorem bw6:env.P.funcs[84]?=some Tryz.f84:=rfl
theorem b83:env.P.funcs[85]?=some Tryz.f85:=rfl
theorem b84:env.P.funcs[86]?=some Tryz.f86:=rfl
theorem b85:env.P.funcs[87]?=some Tryz.f87:=rfl
theorem b86:env.P.funcs[88]?=some Tryz.f88:=rfl
theorem b87:env.P.funcs[89]?=some Tryz.f89:=rfl
theorem b88:env.P.funcs[90]?=some Tryz.f90:=rfl
theorem b89:env.P.funcs[91]?=some Tryz.f91:=rfl
theorem b90:env.P.funcs[92]?=some Tryz.f92:=rfl
theorem b91:env.P.funcs[93]?=some Tryz.f93:=rfl
theorem b92:env.P.funcs[94]?=some Tryz.f94:=rfl
theorem b93:env.P.funcs[95]?=some Tryz.f95:=rfl
theorem b94:env.P.funcs[96]?=some Tryz.f96:=rfl
theorem b95:env.P.funcs[97]?=some Tryz.f97:=rfl
theorem b96:env.P.funcs[98]?=some Tryz.f98:=rfl
theorem ao6:env.P.funcs[99]?=some Tryz.f99:=rfl
theorem bT3:env.P.funcs[100]?=some Tryz.f100:=rfl
theorem aN9:env.P.funcs[101]?=some Tryz.f101:=rfl
theorem bT4:env.P.funcs[102]?=some Tryz.f102:=rfl
theorem bT5:env.P.funcs[103]?=some Tryz.f103:=rfl
theorem aO0:env.P.funcs[111]?=some Tryz.f111:=rfl
theorem bT6:env.P.funcs[112]?=some Tryz.f112:=rfl
theorem bT7:env.P.funcs[115]?=some Tryz.f115:=rfl
theorem bT8:env.P.funcs[116]?=some Tryz.f116:=rfl
theorem bT9:env.P.funcs[117]?=some Tryz.f117:=rfl
theorem bU0:env.P.funcs[118]?=some Tryz.f118:=rfl
theorem aO1:env.P.funcs[119]?=some Tryz.f119:=rfl
theorem bU1:env.P.funcs[120]?=some Tryz.f120:=rfl
theorem bU2:env.P.funcs[121]?=some Tryz.f121:=rfl
theorem aj6:env.P.funcs[122]?=some Tryz.f122:=rfl
theorem Zs:env.P.funcs[123]?=some Tryz.f123:=rfl
theorem aO2:env.P.funcs[124]?=some Tryz.f124:=rfl
theorem bU3:env.P.funcs[125]?=some Tryz.f125:=rfl
theorem Xu:env.P.funcs[126]?=some Tryz.f126:=rfl
theorem aO3:env.P.funcs[127]?=some Tryz.f127:=rfl
theorem Ve:env.P.funcs[128]?=some Tryz.f128:=rfl
theorem bU4:env.P.funcs[129]?=some Tryz.f129:=rfl
theorem aj7:env.P.funcs[130]?=some Tryz.f130:=rfl
theorem Zt:env.P.funcs[131]?=some Tryz.f131:=rfl
theorem aO4:env.P.funcs[132]?=some Tryz.f132:=rfl
theorem aO5:env.P.funcs[133]?=some Tryz.f133:=rfl
theorem bU5:env.P.funcs[134]?=some Tryz.f134:=rfl
theorem bU6:env.P.funcs[135]?=some Tryz.f135:=rfl
theorem aO6:env.P.funcs[136]?=some Tryz.f136:=rfl
theorem bU7:env.P.funcs[137]?=some Tryz.f137:=rfl
theorem aO7:env.P.funcs[143]?=some Tryz.f143:=rfl
theorem bU8:env.P.funcs[144]?=some Tryz.f144:=rfl
theorem Xv:env.P.funcs[145]?=some Tryz.f145:=rfl
theorem bU9:env.P.funcs[146]?=some Tryz.f146:=rfl
theorem bV0:env.P.funcs[147]?=some Tryz.f147:=rfl
theorem bV1:env.P.funcs[148]?=some Tryz.f148:=rfl
theorem aO8:env.P.funcs[149]?=some Tryz.f149:=rfl
theorem bV2:env.P.funcs[150]?=some Tryz.f150:=rfl
theorem bV3:env.P.funcs[151]?=some Tryz.f151:=rfl
theorem aO9:env.P.funcs[152]?=some Tryz.f152:=rfl
theorem bV4:env.P.funcs[153]?=some Tryz.f153:=rfl
theorem aP0:env.P.funcs[154]?=some Tryz.f154:=rfl
theorem Zu:env.P.funcs[155]?=some Tryz.f155:=rfl
theorem bV5:env.P.funcs[156]?=some Tryz.f156:=rfl
theorem bV6:env.P.funcs[157]?=some Tryz.f157:=rfl
theorem bV7:env.P.funcs[158]?=some Tryz.f158:=rfl
theorem bV8:env.P.funcs[163]?=some Tryz.f163:=rfl
theorem bV9:env.P.funcs[164]?=some Tryz.f164:=rfl
theorem bW0:env.P.funcs[165]?=some Tryz.f165:=rfl
theorem bW1:env.P.funcs[167]?=some Tryz.f167:=rfl
theorem aP1:env.P.funcs[168]?=some Tryz.f168:=rfl
theorem bW2:env.P.funcs[169]?=some Tryz.f169:=rfl
theorem bW3:env.P.funcs[170]?=some Tryz.f170:=rfl
theorem bW4:env.P.funcs[171]?=some Tryz.f171:=rfl
theorem bW5:env.P.funcs[172]?=some Tryz.f172:=rfl
theorem Zv:env.P.funcs[173]?=some Tryz.f173:=rfl
theorem bW6:env.P.funcs[174]?=some Tryz.f174:=rfl
theorem aP2:env.P.funcs[175]?=some Tryz.f175:=rfl
theorem aP3:env.P.funcs[178]?=some Tryz.f178:=rfl
theorem bW7:env.P.funcs[179]?=some Tryz.f179:=rfl
theorem bW8:env.P.funcs[197]?=some Tryz.f197:=rfl
theorem bW9:env.P.funcs[198]?=some Tryz.f198:=rfl
theorem bX0:env.P.funcs[199]?=some Tryz.f199:=rfl
theorem bX1:env.P.funcs[200]?=some Tryz.f200:=rfl
theorem bX2:env.P.funcs[201]?=some Tryz.f201:=rfl
attribute[go_sem]aE4 aE5 aE6 aE7 aE8 aE9 b37 b38 b39 b40 b41 b42 b43 b44 b45 bC3 bC4 bC5 bC6 bC7 bC8 bC9 bD0 bD1 bD2 bD3 bD4 bD5 bD6 bD7 bD8 bD9 bE0 bE1 bE2 bE3 bE4 bE5 bE6 bE7 bE8 bE9 bF0 bF1 bF2 bF3 bF4 bF5 bF6 bF7 bF8 bF9 bG0 bG1 bG2 bG3 bG4 bG5 bG6 bG7 bG8 bG9 bH0 bH1 bH2 bH3 bH4 bH5 bH6 bH7 bH8 bH9 bI0 bI1 bI2 bI3 bI4 bI5 bI6 bI7 bI8 bI9 bJ0 bJ1 bJ2 bJ3 bJ4 bJ5 bJ6 bJ7 bJ8 bJ9 bK0 bK1 aX7 aX8 aX9 aY0 aY1 aY2 aY3 aY4 aY5 aY6 aY7 aY8 aY9 aZ0 aZ1 aZ2 aZ3 aZ4 aZ5 aZ6 aZ7 aZ8 aZ9 a00 a01 a02 a03 a04 a05 a06 a07 a08 a09 a10 a11 a12 a13 a14 a15 a16 a17 a18 a19 a20 a21 a22 a23 a24 a25 a26 a27 a28 a29 a30 a31 a32 a33 a34 a35 a36 a37 a38 a39 a40 a41 a42 a43 a44 a45 a46 a47 a48 a49 a50 a51 a52 a53 a54 a55 a56 a57 a58 a59 a60 a61 a62 a63 a64 a65 a66 a67 a68 a69 a70 a71 a72 a73 a74 a75 a76 a77 a78 a79 a80 a81 a82 a83 a84 a85 a86 a87 a88 a89 a90 a91 a92 a93 a94 a95 a96 a97 a98 a99 ba0 ba1 ba2 ba3 ba4 ba5 ba6 ba7 ba8 ba9 bb0 bb1 bb2 bb3 bb4 bb5 bb6 bb7 bb8 bb9 bc0 bc1 bc2 bc3 bc4 bc5 bc6 bc7 bc8 bc9 bd0 bd1 bd2 bd3 bd4 bd5 bd6 bd7 bd8 bd9 be0 be1 be2 be3 be4 be5 be6 be7 be8 be9 bf0 bf1 bK2 bK3 bf2 bf3 bf4 bf5 bf6 bf7 bf8 bf9 bg0 bg1 bg2 bg3 bg4 bg5 bg6 bg7 bg8 bg9 bh0 bh1 bh2 bh3 bh4 bh5 bh6 bh7 aF0 aF1 aF2 aF3 aF4 aF5 aF6 aF7 aF8 aF9 aG0 aG1 aG2 aG3 aG4 aG5 aG6 aG7 aG8 aG9 aH0 aH1 aH2 aH3 aH4 aH5 aH6 aH7 aH8 aH9 aI0 aI1 aI2 aI3 aI4 aI5 bh8 bh9 aI6 bK4 bK5 bi0 bi1 bi2 bi3 bi4 bi5 bi6 bi7 bi8 bi9 bj0 bj1 bj2 bj3 aI7 aI8 aI9 aJ0 aJ1 aJ2 aJ3 aJ4 aJ5 aJ6 aJ7 aJ8 aJ9 aK0 aK1 aK2 aK3 aK4 aK5 aK6 aK7 aK8 aK9 aL0 aL1 b46 b47 b48 b49 b50 b51 b52 b53 bK6 bK7 bK8 bK9 bL0 bL1 bL2 bL3 bL4 bL5 bL6 bL7 bL8 bL9 bM0 bM1 bM2 bM3 bM4 bM5 bM6 bM7 bM8 bM9 bN0 bN1 bN2 bN3 bN4 bN5 bN6 bN7 bN8 bN9 bO0 bO1 bO2 bO3 bO4 bO5 bO6 bO7 bO8 bO9 bP0 bP1 bP2 bP3 bP4 bP5 bP6 bP7 bP8 bP9 bQ0 bQ1 bQ2 bQ3 bQ4 bQ5 bQ6 bQ7 bQ8 bQ9 bR0 bR1 bR2 bR3 bR4 bR5 bR6 bR7 bR8 bR9 bj4 bj5 bj6 bj7 bj8 bj9 bk0 bk1 bk2 bk3 bk4 bk5 bk6 bk7 bk8 bk9 bl0 bl1 bl2 bl3 bl4 bl5 bl6 bl7 bl8 bl9 bm0 bm1 bm2 bm3 bm4 bm5 bm6 bm7 bm8 bm9 bn0 bn1 bn2 bn3 bn4 bn5 bn6 bn7 bn8 bn9 bo0 bo1 bo2 bo3 bo4 bo5 bo6 bS0 bS1 bS2 bS3 bS4 bS5 bS6 bS7 bS8 bS9 bT0 bT1 bo7 bo8 bo9 bp0 bp1 bT2 bp2 bp3 aL2 bp4 aL3 bp5 aL4 bp6 aL5 bp7 aL6 bp8 aL7 bp9 aL8 bq0 aL9 bq1 aM0 bq2 aM1 bq3 aM2 bq4 aM3 bq5 aM4 bq6 aM5 bq7 aM6 bq8 aM7 bq9 aM8 br0 aM9 br1 aN0 br2 aN1 br3 aN2 br4 aN3 br5 aN4 XY Xq Xr Xs XZ bC2 b31 bC0 b30 bC1 b32 b35 b36 b33 b34
end Go.Proofs.YtgpkijnphchkpaaGreat
namespace Go.Proofs.YtgpkijnphchkpaaGreat
attribute[local go_sem←]Bool.decide_and Bool.decide_or decide_not
set_option maxHeartbeats 4000000
set_option maxRecDepth 100000
theorem LN {x:Int} (h: -9223372036854775808≤x)(h':x≤9223372036854775807):IntKind.i64.min≤x∧x≤IntKind.i64.max:=⟨h,h'⟩
theorem aP4 {x:Int} (h:IntKind.i64.min≤x∧x≤IntKind.i64.max): -9223372036854775808≤x∧x≤9223372036854775807:=h
theorem Aw {x:Int} (h:0≤x)(h':x≤255):IntKind.u8.min≤x∧x≤IntKind.u8.max:=⟨h,h'⟩
theorem Ou {x:Int} (h:IntKind.u8.min≤x∧x≤IntKind.u8.max):0≤x∧x≤255:=h
theorem drop_cons {α:Type} {xs:List α} {i:Nat} {x:α} (h:xs[i]?=some x):xs.drop i=x::xs.drop (i+1):=by obtain⟨hi,e⟩:=List.getElem?_eq_some_iff.1 h;rw[List.drop_eq_getElem_cons hi,e]
theorem LW {α:Type} {xs:List α} {i:Nat} {x:α} (h:xs[i]?=some x):xs.take (i+1)=xs.take i++ [x]:=by rw[List.take_add_one,h];rfl
theorem r3 {α:Type} {xs:List α} {i:Nat} (h:i<xs.length): ∃x,xs[i]?=some x:=⟨_,List.getElem?_eq_getElem h⟩
theorem OQ {α:Type} {xs:List α} {i:Nat} {x:α} {p:α→Bool} (h:xs[i]?=some x):(xs.take (i+1)).all p=((xs.take i).all p&&p x):=by rw[LW h,List.all_append];simp
theorem QX {α:Type} {xs:List α} {i:Nat} {x:α} {p:α→Bool} (h:xs[i]?=some x)(hp:p x=false):xs.all p=false:=by rw[List.all_eq_false];exact⟨x,List.mem_of_getElem? h,by simp[hp]⟩
theorem u1.rG {E:Env} {G:Goal} {todo:List WI} {X:Type} (t:X→St)(inv:X→Prop) {A:Prop} (h:(∀s x,inv x→Le s (t x)→u1 E G todo s)→A)(hw: ∀x,inv x→u1 E G todo (t x)):A:=h fun s x hx hl=>u1.weaken hl (hw x hx)
theorem PC.dec {E:Env} {f:Nat} {xs:List (Sigma Ty.den)} {b:Bool} (h:PC E f xs .bool b):PC E f xs .bool (decide (b=true)):=by cases b<;>exact h
theorem HC.ND {E:Env} {f:Nat} {args:List PV} {bl bl':List (Nat×L9)} {p:PV} (l:List (Nat×Nat))(hp:Xn l=true)(h:HC E f args bl p bl'):HC E f args bl (p.ND (Me l)) (Qk (Me l) bl'):=by
 intro w S DY vs a1 a2 a3 a4 a5 a6;refine(h w S DY vs a1 a2 a3 a4 a5 a6).mono ?_;rintro e w'⟨v,rfl,hk,ν,S',b1,b2,b3,hW,hv⟩;refine⟨v,rfl,hk,?_⟩;obtain⟨h1,h2,h3⟩:=Xo hp
 (have inj: ∀i j,Me l i=Me l j→i=j:=fun i j e=>by rw[←h1 i,←h1 j,e]);have o5: ∀i b,look i bl'=some b→look (Me l i) (Qk (Me l) bl')=some (b.map (PV.NG (Me l))):=fun i b hb=>ON (fun j c _ e=>inj j i e) hb
 have hold: ∀i b,look i (Qk (Me l) bl')=some b→ ∃j c,Me l j=i∧look j bl'=some c∧b=c.map (PV.NG (Me l)):=fun i b hb=>QQ (fun j k _ _ _ _ e=>inj j k e) hb;have hle:Ctx.LeR (keys bl') (Me l) ⟨ν,(⟨[],bl'⟩:St).D,w',⟨S',L4 w ⟨S,Pd DY bl,DY,[]⟩⟩⟩ ⟨fun i=>ν (Me (MH l) i),(⟨[],Qk (Me l) bl'⟩:St).D,w',⟨S',L4 w ⟨S,Pd DY bl,DY,[]⟩⟩⟩:=⟨fun _ _=>rfl,fun _ h=>h,fun i _⟨b,hb⟩=>⟨_,o5 i b hb⟩,fun i _ _=>by simp only[h1]⟩
 (have kT: ∀j,P0≤Me l j→P0≤j:=fun j hi=>by rcases Nat.lt_or_ge j P0 with h'|h';(·exfalso;have e:=h3 (Me l j) hi;have:=inj _ _ e;omega);·exact h');refine⟨fun i=>ν (Me (MH l) i),S',b1,b2,fun i hi⟨b,hb⟩=>?_,⟨hW.lt,hW.size,fun i b hb=>?_,fun i j b c bT hi hj g hg b9=>?_⟩,QP hle (Rx (fun _ h=>h) hv) hv⟩
 (·obtain⟨j,c,rfl,hc,_⟩:=hold i b hb;have hj:=kT j hi;rw[h3 j hj];(have e:Me (MH l) j=j:=by have:=h1 j;rw[h3 j hj]at this;exact this);simp only[e];exact b3 j hj ⟨c,hc⟩)
 (·obtain⟨j,c,rfl,hc,rfl⟩:=hold i b hb;have hr:=hW.MS j c hc;exact SJ hle (S6 (fun _ h=>h) hr) (by simp only[h1]) (fun g hg=>⟨rfl,(Oi hr hg).1,(Oi hr hg).2.1⟩) hr)
 ·obtain⟨i',b',rfl,dG,_⟩:=hold i b hi;obtain⟨j',c',rfl,db,_⟩:=hold j c hj;simp only[h1]at hg b9;exact hW.ne i' j' b' c' (fun e=>bT (by rw[e])) dG db g hg b9
abbrev ag:=List UInt8
abbrev Rl:=Int×Int×ag×ag×Int
abbrev a8:=Int×Int×List Rl
instance G4:DecidableEq Rl:=fun a b=>inferInstanceAs(Decidable ((a:Int×Int×ag×ag×Int)=b))
def jr(n a b:Int):Bool:=decide (a≤n∧n≤b)
def low(u:UInt8):Bool:=decide (97≤u.toNat∧u.toNat≤122)
def kU(u:UInt8):Bool:=decide (97≤u.toNat∧u.toNat≤122∨65≤u.toNat∧u.toNat≤90∨48≤u.toNat∧u.toNat≤57)
def pb(n m:Int):Bool:=decide (0≤m∧m<n∧m<8)
def sG(n:Int)(r:Rl):Bool:=pb n r.1&&pb n r.2.1&&jr r.2.2.2.2 0 1000
def cV(a m:Int):Bool:=decide (a/2^m.toNat%2=1)
theorem nJ {a:Int} (h:0≤a):((a.toNat &&& (1:Int).toNat:Nat):Int)=a%2:=by show((a.toNat &&& 1:Nat):Int)=_;rw[Nat.and_one_is_mod];omega
theorem jt {a:Int} (h:0≤a)(m:Nat):0≤a/2^m:=Int.ediv_nonneg h (Int.le_of_lt (Int.pow_pos (by decide)))
theorem au9(v a b:Int):PC env 55 [⟨.int .i64,v⟩,⟨.int .i64,a⟩,⟨.int .i64,b⟩] .bool (jr v a b):=by
 refine PC.LU (m:=2000) av bw0 rfl rfl rfl rfl (by kernel_rfl) ?_;intro hx;simp only[Tryz.f55];simp only[go_sem,zA,↓reduceIte,↓reduceDIte,zB,zC,zD,zE,zF,zG,zH,zI]
 unfold jr;refine⟨fun h=>?_,fun h=>?_⟩;(·congr 1;simp;omega);·symm;simp;omega
theorem yV(s:ag):PC env 60 [⟨.str,s⟩] .bool (s.all low):=by
 refine PC.LU (m:=2000) av bw1 rfl rfl rfl rfl (by kernel_rfl) ?_;intro hx;simp only[Tryz.f60];simp only[go_sem,zA,↓reduceIte,↓reduceDIte,zB,zC,zD,zE,zF,zG,zH,zI]
 have hlen:s.length≤9223372036854775807:=hx.1;refine u1.Mp (X:=Nat) (fun(i:Nat)=>[(3,.iv (.int .i64) (i:Int))]) (fun(i:Nat)=>[]) (fun(i:Nat)=>i≤s.length∧(s.take i).all low=true) (fun(i:Nat)=>s.length-i) 0 ?_
 intro b1 b2 ao aq;simp(config:= {maxSteps:=4000000})only[go_sem,zA,↓reduceIte,↓reduceDIte,zB,zC,zD,zE,zF,zG,zH,zI]at ao aq;subst ao;subst aq;refine⟨(by refine⟨?_,?_,rfl,rfl⟩<;>repeat' (first|exact trivial|exact Or.inl rfl|exact Or.inr rfl|apply aw|apply ax|apply ay|apply az|exact⟨(by show(_:Nat)<1000000000;omega),rfl,rfl⟩|rfl|(refine And.intro (Or.inl ?_) ?_)|(refine And.intro ?_ ?_))),?_,?_⟩
 (·exact⟨Nat.zero_le _,rfl⟩);intro i⟨hi,hb⟩back;refine LP av ⟨_,bw1,rfl⟩ 2000 _ _ (by kernel_rfl) ?_;simp only[go_sem,zA,↓reduceIte,↓reduceDIte,zB,zC,zD,zE,zF,zG,zH,zI]
 refine⟨fun h=>?_,fun h=>?_⟩;(·obtain⟨x,aK⟩: ∃x,s[i]?=some x:=r3 (by omega);have dc:low x=false→false=s.all low:=fun hl=>(QX aK hl).symm;(have mw:low x=true→(s.take (i+1)).all low=true:=fun hl=>by rw[OQ aK,hb,hl];rfl);refine⟨Int.natCast_nonneg _,_,⟨x,aK,rfl⟩,?_⟩;(repeat' (first|(with_reducible intro _)|(with_reducible apply And.intro)|(with_reducible refine Exists.intro _ (And.intro (Exists.intro x (And.intro aK rfl)) ?_))));all_goals first|(refine dc ?_;simp[low];omega)|(with_reducible exact Int.natCast_nonneg _)|omega|(refine back _ (i+1) (by refine⟨?_,?_,rfl,rfl⟩<;>repeat' (first|exact trivial|exact Or.inl rfl|exact Or.inr rfl|apply aw|apply ax|apply ay|apply az|exact⟨(by show(_:Nat)<1000000000;omega),rfl,rfl⟩|rfl|(refine And.intro (Or.inl ?_) ?_)|(refine And.intro ?_ ?_))) ⟨by omega,mw ?_⟩ (by omega);simp[low];omega)|skip)
 ·rw[List.take_of_length_le (by omega)]at hb;rw[hb]
theorem Ti(s:ag):PC env 56 [⟨.str,s⟩] .bool (s.all kU):=by
 refine PC.LU (m:=2000) av ao4 rfl rfl rfl rfl (by kernel_rfl) ?_;intro hx;simp only[Tryz.f56];simp only[go_sem,zA,↓reduceIte,↓reduceDIte,zB,zC,zD,zE,zF,zG,zH,zI]
 have hlen:s.length≤9223372036854775807:=hx.1;refine u1.Mp (X:=Nat) (fun(i:Nat)=>[(3,.iv (.int .i64) (i:Int))]) (fun(i:Nat)=>[]) (fun(i:Nat)=>i≤s.length∧(s.take i).all kU=true) (fun(i:Nat)=>s.length-i) 0 ?_
 intro b1 b2 ao aq;simp(config:= {maxSteps:=4000000})only[go_sem,zA,↓reduceIte,↓reduceDIte,zB,zC,zD,zE,zF,zG,zH,zI]at ao aq;subst ao;subst aq;refine⟨(by refine⟨?_,?_,rfl,rfl⟩<;>repeat' (first|exact trivial|exact Or.inl rfl|exact Or.inr rfl|apply aw|apply ax|apply ay|apply az|exact⟨(by show(_:Nat)<1000000000;omega),rfl,rfl⟩|rfl|(refine And.intro (Or.inl ?_) ?_)|(refine And.intro ?_ ?_))),?_,?_⟩
 (·exact⟨Nat.zero_le _,rfl⟩);intro i⟨hi,hb⟩back;refine LP av ⟨_,ao4,rfl⟩ 2000 _ _ (by kernel_rfl) ?_;simp only[go_sem,zA,↓reduceIte,↓reduceDIte,zB,zC,zD,zE,zF,zG,zH,zI]
 refine⟨fun h=>?_,fun h=>?_⟩;(·obtain⟨x,aK⟩: ∃x,s[i]?=some x:=r3 (by omega);have dc:kU x=false→false=s.all kU:=fun hl=>(QX aK hl).symm;(have mw:kU x=true→(s.take (i+1)).all kU=true:=fun hl=>by rw[OQ aK,hb,hl];rfl);refine⟨Int.natCast_nonneg _,_,⟨x,aK,rfl⟩,?_⟩;(repeat' (first|(with_reducible intro _)|(with_reducible apply And.intro)));all_goals first|(refine dc ?_;simp[kU];omega)|(with_reducible exact Int.natCast_nonneg _)|omega|(refine back _ (i+1) (by refine⟨?_,?_,rfl,rfl⟩<;>repeat' (first|exact trivial|exact Or.inl rfl|exact Or.inr rfl|apply aw|apply ax|apply ay|apply az|exact⟨(by show(_:Nat)<1000000000;omega),rfl,rfl⟩|rfl|(refine And.intro (Or.inl ?_) ?_)|(refine And.intro ?_ ?_))) ⟨by omega,mw ?_⟩ (by omega);simp[kU];omega)|exact(LN (by omega) (by omega)).1|exact(LN (by omega) (by omega)).2|skip)
 ·rw[List.take_of_length_le (by omega)]at hb;rw[hb]
theorem pc(s:a8)(m:Int):PC env 170 [⟨LQ,s⟩,⟨.int .i64,m⟩] .bool (pb s.1 m):=by
 obtain⟨n,a,l⟩:=s;refine PC.LU (m:=2000) av bW3 rfl rfl rfl rfl (by kernel_rfl) ?_;intro hx;simp only[Tryz.f170];simp only[go_sem,zA,↓reduceIte,↓reduceDIte,zB,zC,zD,zE,zF,zG,zH,zI]
 unfold pb;(repeat' (first|(with_reducible intro _)|(with_reducible apply And.intro)));all_goals first|(rw[decide_eq_decide];omega)|(symm;simp;omega)
theorem rH(s:a8)(r:Rl):PC env 146 [⟨LQ,s⟩,⟨Mn,r⟩] .bool (sG s.1 r):=by
 obtain⟨n,a,l⟩:=s;obtain⟨fr,t,i,o,c⟩:=r;have h1:=(pc (n,a,l) fr).dec;have h2:=(pc (n,a,l) t).dec;refine PC.LU (m:=2000) av bU9 rfl rfl rfl rfl (by kernel_rfl) ?_
 intro hx;simp only[Tryz.f146];simp only[go_sem,zA,↓reduceIte,↓reduceDIte,zB,zC,zD,zE,zF,zG,zH,zI];(repeat' (first|(with_reducible intro _)|(with_reducible apply And.intro)|(with_reducible refine⟨_,h1,?_⟩;try simp only[go_sem,zA,↓reduceIte,↓reduceDIte,zB,zC,zD,zE,zF,zG,zH,zI])|(with_reducible refine⟨_,h2,?_⟩;try simp only[go_sem,zA,↓reduceIte,↓reduceDIte,zB,zC,zD,zE,zF,zG,zH,zI])|fail))
 all_goals(unfold sG jr;dsimp only at*;simp_all;try omega)
theorem pe(s:a8)(m:Int)(h0:0≤m∧m<8):PC env 169 [⟨LQ,s⟩,⟨.int .i64,m⟩] .bool (cV s.2.1 m):=by
 obtain⟨n,a,l⟩:=s;refine PC.LU (m:=2000) av bW2 rfl rfl rfl rfl (by kernel_rfl) ?_;intro hx;simp only[Tryz.f169];simp only[go_sem,zA,↓reduceIte,↓reduceDIte,zB,zC,zD,zE,zF,zG,zH,zI]
 have ha:=Ou hx.1.2.1;dsimp only at ha;exact⟨⟨ha.1,h0⟩,jt ha.1 _,by show decide (((_ &&& (1:Int).toNat:Nat):Int)=1)=_;rw[nJ (jt ha.1 _)];rfl⟩
theorem tO(s:a8)(m:Int)(h0:0≤m∧m<8):PC env 172 [⟨LQ,s⟩,⟨.int .i64,m⟩] .bool (cV s.2.1 m):=by
 obtain⟨n,a,l⟩:=s;refine PC.LU (m:=2000) av bW5 rfl rfl rfl rfl (by kernel_rfl) ?_;intro hx;simp only[Tryz.f172];simp only[go_sem,zA,↓reduceIte,↓reduceDIte,zB,zC,zD,zE,zF,zG,zH,zI]
 have ha:=Ou hx.1.2.1;dsimp only at ha;exact⟨⟨ha.1,h0.1,by omega⟩,jt ha.1 _,by show decide (((_ &&& (1:Int).toNat:Nat):Int)=1)=_;rw[nJ (jt ha.1 _)];rfl⟩
end Go.Proofs.YtgpkijnphchkpaaGreat
namespace Go.Proofs.YtgpkijnphchkpaaGreat
attribute[local go_sem←]Bool.decide_and Bool.decide_or decide_not
set_option maxHeartbeats 4000000
set_option maxRecDepth 100000
def Mk(n:Int)(r:Rl):Bool:=jr r.1 0 (n-1)&&jr r.2.1 0 (n-1)&&decide (r.2.2.1.length≤4)&&r.2.2.1.all low&&decide (r.2.2.2.1.length≤4)&&r.2.2.2.1.all kU&&jr r.2.2.2.2 0 1000
def cB(n:Int)(l:List Rl)(i:Nat):Bool:=match l[i]? with|some r=>decide (r∉l.take i)&&Mk n r|none=>false
theorem Uz(s:a8)(i:Nat)(hn:0≤s.1)(hi:i<s.2.2.length):PC env 73 [⟨LQ,s⟩,⟨.int .i64,(i:Int)⟩] .bool (cB s.1 s.2.2 i):=by
 obtain⟨n,a,l⟩:=s;obtain⟨r,hr⟩: ∃r,l[i]?=some r:=r3 hi;dsimp only at hn hi;(have qL:cB n l i=(decide (r∉l.take i)&&Mk n r):=by unfold cB;rw[hr]);dsimp only;rw[qL]
 clear qL;obtain⟨fr,t,ri,ro,c⟩:=r;refine PC.LU (m:=2000) av bw4 rfl rfl rfl rfl (by kernel_rfl) ?_;intro hx;simp only[Tryz.f73];simp only[go_sem,zA,↓reduceIte,↓reduceDIte,zB,zC,zD,zE,zF,zG,zH,zI]
 have jn:l.length≤9223372036854775807:=hx.1.2.2.1;have Fq:=aP4 hx.1.1;dsimp only at Fq;refine⟨Int.natCast_nonneg _,_,hr,?_⟩;refine u1.Mp (X:=Nat) (fun(k:Nat)=>[(6,.iv (.int .i64) (k:Int))]) (fun(k:Nat)=>[]) (fun(k:Nat)=>k≤i∧(fr,t,ri,ro,c)∉l.take k) (fun(k:Nat)=>i-k) 0 ?_
 intro b1 b2 ao aq;simp(config:= {maxSteps:=4000000})only[go_sem,zA,↓reduceIte,↓reduceDIte,zB,zC,zD,zE,zF,zG,zH,zI]at ao aq;subst ao;subst aq;refine⟨(by refine⟨?_,?_,rfl,rfl⟩<;>repeat' (first|exact trivial|exact Or.inl rfl|exact Or.inr rfl|apply aw|apply ax|apply ay|apply az|exact⟨(by show(_:Nat)<1000000000;omega),rfl,rfl⟩|rfl|(refine And.intro (Or.inl ?_) ?_)|(refine And.intro ?_ ?_))),?_,?_⟩
 (·exact⟨Nat.zero_le _,by simp⟩);intro k⟨hk,he⟩back;refine LP av ⟨_,bw4,rfl⟩ 2000 _ _ (by kernel_rfl) ?_;simp only[go_sem,zA,↓reduceIte,↓reduceDIte,zB,zC,zD,zE,zF,zG,zH,zI]
 refine⟨fun h2=>?_,fun h2=>?_⟩;(·obtain⟨x,aK⟩: ∃x,l[k]?=some x:=r3 (by omega);refine⟨Int.natCast_nonneg _,x,aK,fun hy=>?_,fun hn=>?_⟩;(·(have e:x=(fr,t,ri,ro,c):=by obtain⟨e1,e2,e3,e4,e5⟩:=hy;exact Prod.ext e1 (Prod.ext e2 (Prod.ext e3 (Prod.ext e4 e5))));(have hm:(fr,t,ri,ro,c)∈l.take i:=by rw[←e];refine List.mem_of_getElem? (i:=k) ?_;rw[List.getElem?_take,if_pos (by omega)];exact aK);rw[decide_eq_false (by simpa using hm)];rfl);·refine⟨LN (by omega) (by omega),back _ (k+1) (by refine⟨?_,?_,rfl,rfl⟩<;>repeat' (first|exact trivial|exact Or.inl rfl|exact Or.inr rfl|apply aw|apply ax|apply ay|apply az|exact⟨(by show(_:Nat)<1000000000;omega),rfl,rfl⟩|rfl|(refine And.intro (Or.inl ?_) ?_)|(refine And.intro ?_ ?_))) ⟨by omega,?_⟩ (by omega)⟩;rw[LW aK,List.mem_append,List.mem_singleton];rintro(h|h);(·exact he h);·subst h;exact hn ⟨rfl,rfl,rfl,rfl,rfl⟩)
 ·(obtain rfl:k=i:=by omega);have hd:decide (¬(fr,t,ri,ro,c)∈List.take k l)=true:=decide_eq_true he;rw[hd];clear back;have d1:=(au9 fr 0 (n-1)).dec;have d2:=(au9 t 0 (n-1)).dec;have d3:=(yV ri).dec;have d4:=(Ti ro).dec;have d5:=(au9 c 0 1000).dec;have hR:Mk n (fr,t,ri,ro,c)=(jr fr 0 (n-1)&&jr t 0 (n-1)&&decide (ri.length≤4)&&ri.all low&&decide (ro.length≤4)&&ro.all kU&&jr c 0 1000):=rfl;rw[hR];generalize ri.all low=b3 at*;generalize ro.all kU=b4 at*;refine⟨LN (by omega) (by omega),?_⟩;(repeat' (first|(with_reducible intro _)|(with_reducible apply And.intro)|(with_reducible refine⟨_,d1,?_⟩;try simp only[go_sem,zA,↓reduceIte,↓reduceDIte,zB,zC,zD,zE,zF,zG,zH,zI])|(with_reducible refine⟨_,d2,?_⟩;try simp only[go_sem,zA,↓reduceIte,↓reduceDIte,zB,zC,zD,zE,zF,zG,zH,zI])|(with_reducible refine⟨_,d3,?_⟩;try simp only[go_sem,zA,↓reduceIte,↓reduceDIte,zB,zC,zD,zE,zF,zG,zH,zI])|(with_reducible refine⟨_,d4,?_⟩;try simp only[go_sem,zA,↓reduceIte,↓reduceDIte,zB,zC,zD,zE,zF,zG,zH,zI])|(with_reducible refine⟨_,d5,?_⟩;try simp only[go_sem,zA,↓reduceIte,↓reduceDIte,zB,zC,zD,zE,zF,zG,zH,zI])|fail));all_goals first|omega|(simp_all;try omega)
end Go.Proofs.YtgpkijnphchkpaaGreat
namespace Go.Proofs.YtgpkijnphchkpaaGreat
attribute[local go_sem←]Bool.decide_and Bool.decide_or decide_not
attribute[local go_sem]Int.reduceEq not_true_eq_false not_false_eq_true false_implies
set_option maxHeartbeats 4000000
set_option maxRecDepth 100000
theorem sH(s:a8)(h:0≤s.1∧s.1≤8):HC env 165 [.iv LQ s] [] (.LV 7) [(7,.arr .bool (List.replicate s.1.toNat false))]:=by
 obtain⟨n,a,l⟩:=s;dsimp only at h;refine HC.LU (m:=2000) av bW0 rfl rfl rfl rfl (by kernel_rfl) ?_;intro hx dR;simp only[Tryz.f165];simp only[go_sem,zA,↓reduceIte,↓reduceDIte,zB,zC,zD,zE,zF,zG,zH,zI]
 (have e:min (max n 0) 8=n:=by omega);rw[e];exact⟨⟨h.1,Int.le_trans h.2 (by decide)⟩,rfl⟩
abbrev Pr:=Int×Int
def bz(p q:Pr):Bool:=decide (p.1<q.1∨p.1=q.1∧p.2<q.2)
def eA(p:Pr)(c:Int):Pr:=(p.1+c,p.2+1)
def aL(w:Int×Int)(i o:ag):Rl:=(w.1,w.2,i,o,(i.length:Int))
theorem eT(w:Int×Int)(i o:ag):PC env 118 [⟨.st (.pair (.int .i64) (.int .i64)),w⟩,⟨.str,i⟩,⟨.str,o⟩] Mn (aL w i o):=by
 obtain⟨w1,w2⟩:=w;refine PC.LU (m:=2000) av bU0 rfl rfl rfl rfl (by kernel_rfl) ?_;intro hx;simp only[Tryz.f118];simp only[go_sem,zA,↓reduceIte,↓reduceDIte,zB,zC,zD,zE,zF,zG,zH,zI]
 rfl
abbrev kV:=List Int×List Int×Int×Int×Int
abbrev my:=Int×Int×List kV
def iI(u:Int):ag:=(([97,98,99]:ag).drop (u%3).toNat).take 1
def kW(u:Int):ag:=(([97,98,99,65,66,49]:ag).drop (u%6).toNat).take 1
def bA(x:kV)(n:Int):Rl:=(x.2.2.1%n,x.2.2.2.1%n,(x.1.take 2).flatMap iI,(x.2.1.take 2).flatMap kW,x.2.2.2.2*2)
theorem sI(x:kV)(n:Int)(hn:0<n):PC env 72 [⟨OP,x⟩,⟨.int .i64,n⟩] Mn (bA x n):=by
 obtain⟨xi,xo,xf,xt,xc⟩:=x;refine PC.LU (m:=2000) av aN8 rfl rfl rfl rfl (by kernel_rfl) ?_;intro hx;simp only[Tryz.f72];simp only[go_sem,zA,↓reduceIte,↓reduceDIte,zB,zC,zD,zE,zF,zG,zH,zI]
 have aK: ∀u,u∈xi→0≤u∧u≤255:=fun u hu=>Ou (hx.1.1.2 u hu);have Ki: ∀u,u∈xo→0≤u∧u≤255:=fun u hu=>Ou (hx.1.2.1.2 u hu);have Fp:xi.length≤9223372036854775807:=hx.1.1.1
 have u6:xo.length≤9223372036854775807:=hx.1.2.1.1;have hf:=Ou hx.1.2.2.1;have ht:=Ou hx.1.2.2.2.1;have hc:=Ou hx.1.2.2.2.2;dsimp only at hf ht hc;have t1:Int.tmod xf n=xf%n:=Int.tmod_eq_emod_of_nonneg hf.1
 have t2:Int.tmod xt n=xt%n:=Int.tmod_eq_emod_of_nonneg ht.1;rw[t1,t2];refine⟨hn,hn,LN (by omega) (by omega),?_⟩;(have fin: ∀ {α:Type} {l:List α} {i:Nat} {f:α→ag},¬((i:Int)<2∧(i:Int)<(l.length:Int))→i≤2→i≤l.length→(l.take i).flatMap f=(l.take 2).flatMap f:=by intro α l i f h1 h2 h3;by_cases h:i=2;(·rw[h]);·(have:i=l.length:=by omega);subst this;rw[List.take_of_length_le (Nat.le_refl _),List.take_of_length_le h2])
 (have st: ∀ {l:List Int} {i:Nat} {u:Int} {f:Int→ag},l[i]?=some u→(l.take (i+1)).flatMap f=(l.take i).flatMap f++f u:=by intro l i u f h;rw[LW h,List.flatMap_append];simp)
 (have G5: ∀u:Int,0≤u→(([97,98,99]:ag).drop (u%3).toNat).take ((u%3+1).toNat-(u%3).toNat)=iI u:=by intro u hu;rw[show(u%3+1).toNat-(u%3).toNat=1 by omega];rfl);(have outs: ∀u:Int,0≤u→(([97,98,99,65,66,49]:ag).drop (u%6).toNat).take ((u%6+1).toNat-(u%6).toNat)=kW u:=by intro u hu;rw[show(u%6+1).toNat-(u%6).toNat=1 by omega];rfl)
 (have G6: ∀u:Int,(iI u).length≤1:=fun u=>by unfold iI;rw[List.length_take];omega);(have Ds: ∀u:Int,(kW u).length≤1:=fun u=>by unfold kW;rw[List.length_take];omega)
 (have G7: ∀l:List Int,(l.flatMap iI).length≤l.length:=by intro l;induction l with|nil=>simp|cons x l ih=>simp only[List.flatMap_cons,List.length_append,List.length_cons,iI,List.length_take];omega)
 (have G8: ∀l:List Int,(l.flatMap kW).length≤l.length:=by intro l;induction l with|nil=>simp|cons x l ih=>simp only[List.flatMap_cons,List.length_append,List.length_cons,kW,List.length_take];omega)
 refine u1.Mp (X:=Nat) (fun(i:Nat)=>[(6,.iv (.int .i64) (i:Int))]) (fun(i:Nat)=>[(5,.box [.iv (.int .i64) (xf%n),.iv (.int .i64) (xt%n),.iv .str ((xi.take i).flatMap iI),.iv .str ([]:ag),.iv (.int .i64) (xc*2)])]) (fun(i:Nat)=>i≤xi.length∧i≤2) (fun(i:Nat)=>2-i) 0 ?_
 intro b1 b2 ao aq;simp(config:= {maxSteps:=4000000})only[go_sem,zA,↓reduceIte,↓reduceDIte,zB,zC,zD,zE,zF,zG,zH,zI]at ao aq;subst ao;subst aq;refine⟨(by refine⟨?_,?_,rfl,rfl⟩<;>repeat' (first|exact trivial|exact Or.inl rfl|exact Or.inr rfl|apply aw|apply ax|apply ay|apply az|exact⟨(by show(_:Nat)<1000000000;omega),rfl,rfl⟩|rfl|(refine And.intro (Or.inl ?_) ?_)|(refine And.intro ?_ ?_))),?_,?_⟩
 (·exact⟨Nat.zero_le _,Nat.zero_le _⟩);intro i⟨hi,yb⟩back;refine LP av ⟨_,aN8,rfl⟩ 2000 _ _ (by kernel_rfl) ?_;simp only[go_sem,zA,↓reduceIte,↓reduceDIte,zB,zC,zD,zE,zF,zG,zH,zI]
 have G9:bytesOf ⟨#[97,98,99]⟩=([97,98,99]:ag):=rfl;have Ha:bytesOf ⟨#[97,98,99,65,66,49]⟩=([97,98,99,65,66,49]:ag):=rfl;apply u1.rG (X:=Unit) (fun _=>⟨[(7,.iv (.int .i64) (0:Int)),(5,.ref 5 0),(4,.ref 4 0),(2,.ref 2 0)],[(5,.box [.iv (.int .i64) (xf%n),.iv (.int .i64) (xt%n),.iv .str ((xi.take 2).flatMap iI),.iv .str ([]:ag),.iv (.int .i64) (xc*2)]),(4,.box [.iv (.int .i64) (0:Int),.iv (.int .i64) (0:Int),.iv .str ([]:ag),.iv .str ([]:ag),.iv (.int .i64) (0:Int)]),(2,.box [.iv (.sl (.int .u8)) xi,.iv (.sl (.int .u8)) xo,.iv (.int .u8) xf,.iv (.int .u8) xt,.iv (.int .u8) xc])]⟩) (fun _=>True)
 (·intro key;refine⟨fun g1=>⟨fun g2=>?_,fun g2=>?_⟩,fun g1=>?_⟩;(·obtain⟨u,hu⟩: ∃u,xi[i]?=some u:=r3 (by omega);have DZ:=aK u (List.mem_of_getElem? hu);have tu:Int.tmod u 3=u%3:=Int.tmod_eq_emod_of_nonneg DZ.1;have fC:=G7 (xi.take i);have Hb:=G6 u;(have Hc:(xi.take i).length=i:=by rw[List.length_take];omega);refine⟨Int.natCast_nonneg _,u,hu,Int.natCast_nonneg _,u,hu,?_⟩;rw[tu,G9,G5 u DZ.1];refine⟨Aw (by omega) (by omega),⟨by omega,by omega,by show u%3+1≤(3:Int);omega⟩,by omega,LN (by omega) (by omega),?_⟩;refine back _ (i+1) ?_ ⟨by omega,by omega⟩ (by omega);rw[←st hu];exact(by refine⟨?_,?_,rfl,rfl⟩<;>repeat' (first|exact trivial|exact Or.inl rfl|exact Or.inr rfl|apply aw|apply ax|apply ay|apply az|exact⟨(by show(_:Nat)<1000000000;omega),rfl,rfl⟩|rfl|(refine And.intro (Or.inl ?_) ?_)|(refine And.intro ?_ ?_))));(·refine key _ () trivial ?_;rw[←fin (by omega) yb hi];exact(by refine⟨?_,?_,rfl,rfl⟩<;>repeat' (first|exact trivial|exact Or.inl rfl|exact Or.inr rfl|apply aw|apply ax|apply ay|apply az|exact⟨(by show(_:Nat)<1000000000;omega),rfl,rfl⟩|rfl|(refine And.intro (Or.inl ?_) ?_)|(refine And.intro ?_ ?_))));·refine key _ () trivial ?_;rw[←fin (by omega) yb hi];exact(by refine⟨?_,?_,rfl,rfl⟩<;>repeat' (first|exact trivial|exact Or.inl rfl|exact Or.inr rfl|apply aw|apply ax|apply ay|apply az|exact⟨(by show(_:Nat)<1000000000;omega),rfl,rfl⟩|rfl|(refine And.intro (Or.inl ?_) ?_)|(refine And.intro ?_ ?_))))
 ·intro _ _;clear back hi yb;refine u1.Mp (X:=Nat) (fun(i:Nat)=>[(7,.iv (.int .i64) (i:Int))]) (fun(i:Nat)=>[(5,.box [.iv (.int .i64) (xf%n),.iv (.int .i64) (xt%n),.iv .str ((xi.take 2).flatMap iI),.iv .str ((xo.take i).flatMap kW),.iv (.int .i64) (xc*2)])]) (fun(i:Nat)=>i≤xo.length∧i≤2) (fun(i:Nat)=>2-i) 0 ?_;intro b1 b2 ao aq;simp(config:= {maxSteps:=4000000})only[go_sem,zA,↓reduceIte,↓reduceDIte,zB,zC,zD,zE,zF,zG,zH,zI]at ao aq;subst ao;subst aq;refine⟨(by refine⟨?_,?_,rfl,rfl⟩<;>repeat' (first|exact trivial|exact Or.inl rfl|exact Or.inr rfl|apply aw|apply ax|apply ay|apply az|exact⟨(by show(_:Nat)<1000000000;omega),rfl,rfl⟩|rfl|(refine And.intro (Or.inl ?_) ?_)|(refine And.intro ?_ ?_))),?_,?_⟩;(·exact⟨Nat.zero_le _,Nat.zero_le _⟩);intro i⟨hi,yb⟩back;refine LP av ⟨_,aN8,rfl⟩ 2000 _ _ (by kernel_rfl) ?_;simp only[go_sem,zA,↓reduceIte,↓reduceDIte,zB,zC,zD,zE,zF,zG,zH,zI];refine⟨fun g1=>⟨fun g2=>?_,fun g2=>?_⟩,fun g1=>?_⟩;(·obtain⟨u,hu⟩: ∃u,xo[i]?=some u:=r3 (by omega);have DZ:=Ki u (List.mem_of_getElem? hu);have tu:Int.tmod u 6=u%6:=Int.tmod_eq_emod_of_nonneg DZ.1;have fC:=G8 (xo.take i);have Hb:=Ds u;(have Hc:(xo.take i).length=i:=by rw[List.length_take];omega);refine⟨Int.natCast_nonneg _,u,hu,Int.natCast_nonneg _,u,hu,?_⟩;rw[tu,Ha,outs u DZ.1];refine⟨Aw (by omega) (by omega),⟨by omega,by omega,by show u%6+1≤(6:Int);omega⟩,by omega,LN (by omega) (by omega),?_⟩;refine back _ (i+1) ?_ ⟨by omega,by omega⟩ (by omega);rw[←st hu];exact(by refine⟨?_,?_,rfl,rfl⟩<;>repeat' (first|exact trivial|exact Or.inl rfl|exact Or.inr rfl|apply aw|apply ax|apply ay|apply az|exact⟨(by show(_:Nat)<1000000000;omega),rfl,rfl⟩|rfl|(refine And.intro (Or.inl ?_) ?_)|(refine And.intro ?_ ?_))));(·rw[fin (by omega) yb hi];rfl);·rw[fin (by omega) yb hi];rfl
def aW(k:Int):a8:=if k%6=0 then(1,1,[aL (0,0) [97] [97],aL (0,0) [98] [98],aL (0,0) [99] [99]])else if k%6=1 then(1,1,[aL (0,0) [97] [65],aL (0,0) [98,97] [66],aL (0,0) [99,97] [67],aL (0,0) [98] [98]])else if k%6=2 then(2,1,[aL (0,1) [99] [],aL (1,0) [97] [65],aL (1,0) [98] [66],aL (0,0) [97] [97],aL (0,0) [98] [98]])else if k%6=3 then(1,1,[aL (0,0) [97] [97],aL (0,0) [98] [98],aL (0,0) [97,98] [97,98,99,49],aL (0,0) [99] [99]])else if k%6=4 then(1,1,[aL (0,0) [97] [97],(0,0,[98],[98],0),(0,0,[99],[98],7),(0,0,[98],[99],9)])else(1,1,[aL (0,0) [97] [97],aL (0,0) [97] [65],aL (0,0) [97,97] [66],aL (0,0) [98] [98],(0,0,[98],[],20)])
theorem yW(k:Int)(k0:k%6=0):HC env 71 [.iv (.int .u8) k] [] (.agg [.iv (.int .i64) (aW k).1,.iv (.int .u8) (aW k).2.1,.LV 1000]) [(1000,.arr Mn (aW k).2.2)]:=by
 (have e:aW k=(1,1,[aL (0,0) [97] [97],aL (0,0) [98] [98],aL (0,0) [99] [99]]):=by unfold aW;rw[if_pos k0]);rw[e];clear e;(have h:HC env 71 [.iv (.int .u8) k] [] (.agg [.iv (.int .i64) (1:Int),.iv (.int .u8) (1:Int),.LV 28]) [(28,.arr Mn ((1,1,[aL (0,0) [97] [97],aL (0,0) [98] [98],aL (0,0) [99] [99]]):a8).2.2)]:=by refine HC.LU (m:=2000) av Yz rfl rfl rfl rfl (by kernel_rfl) ?_;intro hx dR;simp only[Tryz.f71];simp only[go_sem,zA,↓reduceIte,↓reduceDIte,zB,zC,zD,zE,zF,zG,zH,zI];have hk:=Ou hx.1;have t1:Int.tmod k 6=k%6:=Int.tmod_eq_emod_of_nonneg hk.1;rw[t1];(repeat' (first|(with_reducible intro _)|(with_reducible apply And.intro)|(with_reducible refine⟨_,eT _ _ _,?_⟩;try simp only[go_sem,zA,↓reduceIte,↓reduceDIte,zB,zC,zD,zE,zF,zG,zH,zI])|fail));all_goals first|(exfalso;omega)|rfl)
 exact h.ND [(28,1000),(1000,28)] rfl
theorem yX(k:Int)(n0: ¬k%6=0)(k1:k%6=1):HC env 71 [.iv (.int .u8) k] [] (.agg [.iv (.int .i64) (aW k).1,.iv (.int .u8) (aW k).2.1,.LV 1000]) [(1000,.arr Mn (aW k).2.2)]:=by
 (have e:aW k=(1,1,[aL (0,0) [97] [65],aL (0,0) [98,97] [66],aL (0,0) [99,97] [67],aL (0,0) [98] [98]]):=by unfold aW;rw[if_neg n0,if_pos k1]);rw[e];clear e;(have h:HC env 71 [.iv (.int .u8) k] [] (.agg [.iv (.int .i64) (1:Int),.iv (.int .u8) (1:Int),.LV 40]) [(40,.arr Mn ((1,1,[aL (0,0) [97] [65],aL (0,0) [98,97] [66],aL (0,0) [99,97] [67],aL (0,0) [98] [98]]):a8).2.2)]:=by refine HC.LU (m:=2000) av Yz rfl rfl rfl rfl (by kernel_rfl) ?_;intro hx dR;simp only[Tryz.f71];simp only[go_sem,zA,↓reduceIte,↓reduceDIte,zB,zC,zD,zE,zF,zG,zH,zI];have hk:=Ou hx.1;have t1:Int.tmod k 6=k%6:=Int.tmod_eq_emod_of_nonneg hk.1;rw[t1];(repeat' (first|(with_reducible intro _)|(with_reducible apply And.intro)|(with_reducible refine⟨_,eT _ _ _,?_⟩;try simp only[go_sem,zA,↓reduceIte,↓reduceDIte,zB,zC,zD,zE,zF,zG,zH,zI])|fail));all_goals first|(exfalso;omega)|rfl)
 exact h.ND [(40,1000),(1000,40)] rfl
theorem yY(k:Int)(n0: ¬k%6=0)(n1: ¬k%6=1)(k2:k%6=2):HC env 71 [.iv (.int .u8) k] [] (.agg [.iv (.int .i64) (aW k).1,.iv (.int .u8) (aW k).2.1,.LV 1000]) [(1000,.arr Mn (aW k).2.2)]:=by
 (have e:aW k=(2,1,[aL (0,1) [99] [],aL (1,0) [97] [65],aL (1,0) [98] [66],aL (0,0) [97] [97],aL (0,0) [98] [98]]):=by unfold aW;rw[if_neg n0,if_neg n1,if_pos k2])
 rw[e];clear e;(have h:HC env 71 [.iv (.int .u8) k] [] (.agg [.iv (.int .i64) (2:Int),.iv (.int .u8) (1:Int),.LV 54]) [(54,.arr Mn ((2,1,[aL (0,1) [99] [],aL (1,0) [97] [65],aL (1,0) [98] [66],aL (0,0) [97] [97],aL (0,0) [98] [98]]):a8).2.2)]:=by refine HC.LU (m:=2000) av Yz rfl rfl rfl rfl (by kernel_rfl) ?_;intro hx dR;simp only[Tryz.f71];simp only[go_sem,zA,↓reduceIte,↓reduceDIte,zB,zC,zD,zE,zF,zG,zH,zI];have hk:=Ou hx.1;have t1:Int.tmod k 6=k%6:=Int.tmod_eq_emod_of_nonneg hk.1;rw[t1];(repeat' (first|(with_reducible intro _)|(with_reducible apply And.intro)|(with_reducible refine⟨_,eT _ _ _,?_⟩;try simp only[go_sem,zA,↓reduceIte,↓reduceDIte,zB,zC,zD,zE,zF,zG,zH,zI])|fail));all_goals first|(exfalso;omega)|rfl)
 exact h.ND [(54,1000),(1000,54)] rfl
theorem yZ(k:Int)(n0: ¬k%6=0)(n1: ¬k%6=1)(n2: ¬k%6=2)(k3:k%6=3):HC env 71 [.iv (.int .u8) k] [] (.agg [.iv (.int .i64) (aW k).1,.iv (.int .u8) (aW k).2.1,.LV 1000]) [(1000,.arr Mn (aW k).2.2)]:=by
 (have e:aW k=(1,1,[aL (0,0) [97] [97],aL (0,0) [98] [98],aL (0,0) [97,98] [97,98,99,49],aL (0,0) [99] [99]]):=by unfold aW;rw[if_neg n0,if_neg n1,if_neg n2,if_pos k3])
 rw[e];clear e;(have h:HC env 71 [.iv (.int .u8) k] [] (.agg [.iv (.int .i64) (1:Int),.iv (.int .u8) (1:Int),.LV 66]) [(66,.arr Mn ((1,1,[aL (0,0) [97] [97],aL (0,0) [98] [98],aL (0,0) [97,98] [97,98,99,49],aL (0,0) [99] [99]]):a8).2.2)]:=by refine HC.LU (m:=2000) av Yz rfl rfl rfl rfl (by kernel_rfl) ?_;intro hx dR;simp only[Tryz.f71];simp only[go_sem,zA,↓reduceIte,↓reduceDIte,zB,zC,zD,zE,zF,zG,zH,zI];have hk:=Ou hx.1;have t1:Int.tmod k 6=k%6:=Int.tmod_eq_emod_of_nonneg hk.1;rw[t1];(repeat' (first|(with_reducible intro _)|(with_reducible apply And.intro)|(with_reducible refine⟨_,eT _ _ _,?_⟩;try simp only[go_sem,zA,↓reduceIte,↓reduceDIte,zB,zC,zD,zE,zF,zG,zH,zI])|fail));all_goals first|(exfalso;omega)|rfl)
 exact h.ND [(66,1000),(1000,66)] rfl
theorem y5(k:Int)(n0: ¬k%6=0)(n1: ¬k%6=1)(n2: ¬k%6=2)(n3: ¬k%6=3)(k4:k%6=4):HC env 71 [.iv (.int .u8) k] [] (.agg [.iv (.int .i64) (aW k).1,.iv (.int .u8) (aW k).2.1,.LV 1000]) [(1000,.arr Mn (aW k).2.2)]:=by
 (have e:aW k=(1,1,[aL (0,0) [97] [97],(0,0,[98],[98],0),(0,0,[99],[98],7),(0,0,[98],[99],9)]):=by unfold aW;rw[if_neg n0,if_neg n1,if_neg n2,if_neg n3,if_pos k4])
 rw[e];clear e;(have h:HC env 71 [.iv (.int .u8) k] [] (.agg [.iv (.int .i64) (1:Int),.iv (.int .u8) (1:Int),.LV 75]) [(75,.arr Mn ((1,1,[aL (0,0) [97] [97],(0,0,[98],[98],0),(0,0,[99],[98],7),(0,0,[98],[99],9)]):a8).2.2)]:=by refine HC.LU (m:=2000) av Yz rfl rfl rfl rfl (by kernel_rfl) ?_;intro hx dR;simp only[Tryz.f71];simp only[go_sem,zA,↓reduceIte,↓reduceDIte,zB,zC,zD,zE,zF,zG,zH,zI];have hk:=Ou hx.1;have t1:Int.tmod k 6=k%6:=Int.tmod_eq_emod_of_nonneg hk.1;rw[t1];(repeat' (first|(with_reducible intro _)|(with_reducible apply And.intro)|(with_reducible refine⟨_,eT _ _ _,?_⟩;try simp only[go_sem,zA,↓reduceIte,↓reduceDIte,zB,zC,zD,zE,zF,zG,zH,zI])|fail));all_goals first|(exfalso;omega)|rfl)
 exact h.ND [(75,1000),(1000,75)] rfl
theorem y6(k:Int)(n0: ¬k%6=0)(n1: ¬k%6=1)(n2: ¬k%6=2)(n3: ¬k%6=3)(n4: ¬k%6=4):HC env 71 [.iv (.int .u8) k] [] (.agg [.iv (.int .i64) (aW k).1,.iv (.int .u8) (aW k).2.1,.LV 1000]) [(1000,.arr Mn (aW k).2.2)]:=by
 (have e:aW k=(1,1,[aL (0,0) [97] [97],aL (0,0) [97] [65],aL (0,0) [97,97] [66],aL (0,0) [98] [98],(0,0,[98],[],20)]):=by unfold aW;rw[if_neg n0,if_neg n1,if_neg n2,if_neg n3,if_neg n4])
 rw[e];clear e;(have h:HC env 71 [.iv (.int .u8) k] [] (.agg [.iv (.int .i64) (1:Int),.iv (.int .u8) (1:Int),.LV 18]) [(18,.arr Mn ((1,1,[aL (0,0) [97] [97],aL (0,0) [97] [65],aL (0,0) [97,97] [66],aL (0,0) [98] [98],(0,0,[98],[],20)]):a8).2.2)]:=by refine HC.LU (m:=2000) av Yz rfl rfl rfl rfl (by kernel_rfl) ?_;intro hx dR;simp only[Tryz.f71];simp only[go_sem,zA,↓reduceIte,↓reduceDIte,zB,zC,zD,zE,zF,zG,zH,zI];have hk:=Ou hx.1;have t1:Int.tmod k 6=k%6:=Int.tmod_eq_emod_of_nonneg hk.1;rw[t1];(repeat' (first|(with_reducible intro _)|(with_reducible apply And.intro)|(with_reducible refine⟨_,eT _ _ _,?_⟩;try simp only[go_sem,zA,↓reduceIte,↓reduceDIte,zB,zC,zD,zE,zF,zG,zH,zI])|fail));all_goals first|(exfalso;omega)|rfl)
 exact h.ND [(18,1000),(1000,18)] rfl
theorem BF(k:Int):HC env 71 [.iv (.int .u8) k] [] (.agg [.iv (.int .i64) (aW k).1,.iv (.int .u8) (aW k).2.1,.LV 1000]) [(1000,.arr Mn (aW k).2.2)]:=by
 by_cases h0:k%6=0;(·exact yW k h0);by_cases h1:k%6=1;(·exact yX k h0 h1);by_cases h2:k%6=2;(·exact yY k h0 h1 h2);by_cases h3:k%6=3;(·exact yZ k h0 h1 h2 h3);by_cases h4:k%6=4
 (·exact y5 k h0 h1 h2 h3 h4);exact y6 k h0 h1 h2 h3 h4
end Go.Proofs.YtgpkijnphchkpaaGreat
namespace Go.Proofs.YtgpkijnphchkpaaGreat
attribute[local go_sem←]Bool.decide_and Bool.decide_or decide_not
attribute[local go_sem]Int.reduceEq not_true_eq_false not_false_eq_true false_implies List.append_assoc
set_option maxHeartbeats 4000000
set_option maxRecDepth 100000
def cW(n:Int)(rs:List Rl)(r:Rl):List Rl:=if cB n (rs++ [r]) rs.length=true then rs++ [r]else rs
def bW(n:Int):List kV→List Rl→List Rl|[],out=>out|y::ys,out=>bW n ys (cW n out (bA y n))
def cq(x:my):a8:=((aW x.1).1,(aW x.1).2.1,bW (aW x.1).1 (x.2.2.take 4) ((aW x.1).2.2.drop (x.2.1%2).toNat))
theorem ju(k:Int):((aW k).1=1∨(aW k).1=2)∧(aW k).2.1=1∧3≤(aW k).2.2.length∧(aW k).2.2.length≤5:=by unfold aW;(repeat' split);all_goals decide
theorem tP(n:Int)(rs:List Rl)(r:Rl):rs.length≤(cW n rs r).length∧(cW n rs r).length≤rs.length+1:=by unfold cW;split<;>simp
def D0(id:Nat)(p:PV)(xs view:List Rl):Prop:=(p= .LV id∧view=xs)∨ ∃off len,p= .Ps id 5 off len∧view=(xs.drop off).take len∧off+len≤xs.length∧off<xs.length
theorem y7(x:my):PC env 34 [⟨QW,x⟩] LQ (cq x):=by
 obtain⟨xb,xd,xm⟩:=x;refine PC.LU (m:=2000) av aN6 rfl rfl rfl rfl (by kernel_rfl) ?_;intro hx;simp only[Tryz.f34];simp only[go_sem,zA,↓reduceIte,↓reduceDIte,zB,zC,zD,zE,zF,zG,zH,zI]
 refine⟨_,_,BF xb,rfl,?_⟩;simp only[go_sem,zA,↓reduceIte,↓reduceDIte,zB,zC,zD,zE,zF,zG,zH,zI];have IG:=Ou hx.1.2.1;have tK:xm.length≤9223372036854775807:=hx.1.2.2.1
 dsimp only at IG;have t1:Int.tmod xd 2=xd%2:=Int.tmod_eq_emod_of_nonneg IG.1;rw[t1];have IH:=ju xb;generalize hB:aW xb=B at IH;obtain⟨n,a,rs⟩:=B;dsimp only at IH⊢
 (have Fq:0<n:=by omega);have gF:((rs.drop (xd%2).toNat).take (rs.length-(xd%2).toNat))=rs.drop (xd%2).toNat:=List.take_of_length_le (by rw[List.length_drop];omega)
 have Lq:(rs.drop (xd%2).toNat).length=rs.length-(xd%2).toNat:=List.length_drop ..;(have hE:cq (xb,xd,xm)=(n,a,bW n (xm.take 4) (rs.drop (xd%2).toNat)):=by unfold cq;dsimp only;rw[hB])
 rw[hE];clear hE;intro _;refine⟨⟨by omega,by omega⟩,?_⟩;refine u1.Mp (X:=Nat×PV×List Rl×List Rl) (fun(z:Nat×PV×List Rl×List Rl)=>[(4,.iv (.int .i64) (z.1:Int)),(7,.any),(9,.any),(14,.any)]) (fun(z:Nat×PV×List Rl×List Rl)=>[(3,.box [.iv (.int .i64) n,.iv (.int .u8) a,z.2.1]),(801000,.arr Mn z.2.2.1)]) (fun(z:Nat×PV×List Rl×List Rl)=>D0 801000 z.2.1 z.2.2.1 z.2.2.2∧z.1≤xm.length∧z.1≤4∧z.2.2.2.length≤5+z.1∧1≤z.2.2.2.length∧bW n ((xm.take 4).drop z.1) z.2.2.2=bW n (xm.take 4) (rs.drop (xd%2).toNat)) (fun(z:Nat×PV×List Rl×List Rl)=>4-z.1) (0,.Ps 801000 5 (xd%2).toNat (rs.length-(xd%2).toNat),rs,rs.drop (xd%2).toNat) ?_
 intro b1 b2 ao aq;simp(config:= {maxSteps:=4000000})only[go_sem,zA,↓reduceIte,↓reduceDIte,zB,zC,zD,zE,zF,zG,zH,zI]at ao aq;subst ao;subst aq;refine⟨(by refine⟨?_,?_,rfl,rfl⟩<;>repeat' (first|exact trivial|exact Or.inl rfl|exact Or.inr rfl|apply aw|apply ax|apply ay|apply az|exact⟨(by show(_:Nat)<1000000000;omega),rfl,rfl⟩|rfl|(refine And.intro (Or.inl ?_) ?_)|(refine And.intro ?_ ?_))),?_,?_⟩
 (·exact⟨Or.inr ⟨_,_,rfl,gF.symm,by dsimp only;omega,by dsimp only;omega⟩,Nat.zero_le _,Nat.zero_le _,by show(rs.drop _).length≤_;omega,by show 1≤(rs.drop _).length;omega,rfl⟩)
 generalize bW n (xm.take 4) (rs.drop (xd%2).toNat)=R;intro⟨i,p,xs,out⟩⟨sJ,hi,Hd,u6,jj,hR⟩back;dsimp only at sJ hi Hd u6 jj hR;(have done: ¬(i<xm.length∧i<4)→out=R:=fun h=>by have:(xm.take 4).drop i=[]:=List.drop_of_length_le (by rw[List.length_take];omega);rw[this]at hR;exact hR)
 rcases sJ with⟨rfl,rfl⟩|⟨off,len,rfl,hv,Bc,u9⟩;(·refine LP av ⟨_,aN6,rfl⟩ 2000 _ _ (by kernel_rfl) ?_;simp only[go_sem,zA,↓reduceIte,↓reduceDIte,zB,zC,zD,zE,zF,zG,zH,zI];refine⟨fun g1=>⟨fun g2=>?_,fun g2=>?_⟩,fun g1=>?_⟩;(·obtain⟨y,hy⟩: ∃y,xm[i]?=some y:=r3 (by omega);refine⟨Int.natCast_nonneg _,y,hy,_,sI y n Fq,fun _=>⟨by omega,?_⟩⟩;(have e1:((out++ [bA y n]).length:Int)-1=(out.length:Int):=by simp only[List.length_append,List.length_cons,List.length_nil];omega);rw[e1];refine⟨LN (by omega) (by omega),_,(Uz (n,a,out++ [bA y n]) out.length (by dsimp only;omega) (by simp)).dec,?_⟩;simp only[go_sem,zA,↓reduceIte,↓reduceDIte,zB,zC,zD,zE,zF,zG,zH,zI];(have hd:(xm.take 4)[i]?=some y:=by rw[List.getElem?_take,if_pos (by omega)];exact hy);rw[drop_cons hd]at hR;refine⟨fun g3=>?_,fun g3=>?_⟩;(·have e3:cW n out (bA y n)=out:=if_neg g3;rw[e1];refine⟨LN (by omega) (by omega),⟨by omega,by simp only[List.length_append,List.length_cons,List.length_nil];omega⟩,LN (by omega) (by omega),?_⟩;refine back _ (i+1,.Ps 801000 5 0 ((out.length:Int).toNat-0),out++ [bA y n],out) ?_ ⟨Or.inr ⟨_,_,rfl,by simp,by simp,by simp⟩,by dsimp only;omega,by dsimp only;omega,by dsimp only;omega,jj,?_⟩ (by dsimp only;omega);(·exact(by refine⟨?_,?_,rfl,rfl⟩<;>repeat' (first|exact trivial|exact Or.inl rfl|exact Or.inr rfl|apply aw|apply ax|apply ay|apply az|exact⟨(by show(_:Nat)<1000000000;omega),rfl,rfl⟩|rfl|(refine And.intro (Or.inl ?_) ?_)|(refine And.intro ?_ ?_))));·dsimp only;have:bW n (y::(xm.take 4).drop (i+1)) out=bW n ((xm.take 4).drop (i+1)) (cW n out (bA y n)):=rfl;rw[this,e3]at hR;exact hR);·have e3:cW n out (bA y n)=out++ [bA y n]:=if_pos g3;refine⟨LN (by omega) (by omega),?_⟩;refine back _ (i+1,.LV 801000,out++ [bA y n],out++ [bA y n]) ?_ ⟨Or.inl ⟨rfl,rfl⟩,by dsimp only;omega,by dsimp only;omega,by simp only[List.length_append,List.length_cons,List.length_nil];omega,by simp,?_⟩ (by dsimp only;omega);(·exact(by refine⟨?_,?_,rfl,rfl⟩<;>repeat' (first|exact trivial|exact Or.inl rfl|exact Or.inr rfl|apply aw|apply ax|apply ay|apply az|exact⟨(by show(_:Nat)<1000000000;omega),rfl,rfl⟩|rfl|(refine And.intro (Or.inl ?_) ?_)|(refine And.intro ?_ ?_))));·dsimp only;have:bW n (y::(xm.take 4).drop (i+1)) out=bW n ((xm.take 4).drop (i+1)) (cW n out (bA y n)):=rfl;rw[this,e3]at hR;exact hR);(·rw[done (by omega)]);·rw[done (by omega)])
 ·refine LP av ⟨_,aN6,rfl⟩ 2000 _ _ (by kernel_rfl) ?_;simp only[go_sem,zA,↓reduceIte,↓reduceDIte,zB,zC,zD,zE,zF,zG,zH,zI];(have hlen:len=out.length:=by rw[hv,List.length_take,List.length_drop];omega);rw[←hv];refine⟨fun g1=>⟨fun g2=>?_,fun g2=>?_⟩,fun g1=>?_⟩;(·obtain⟨y,hy⟩: ∃y,xm[i]?=some y:=r3 (by omega);refine⟨Int.natCast_nonneg _,y,hy,_,sI y n Fq,fun _=>⟨⟨.inl u9,by omega⟩,?_⟩⟩;(have e1:((out++ [bA y n]).length:Int)-1=(out.length:Int):=by simp only[List.length_append,List.length_cons,List.length_nil];omega);rw[e1];refine⟨LN (by omega) (by omega),_,(Uz (n,a,out++ [bA y n]) out.length (by dsimp only;omega) (by simp)).dec,?_⟩;simp only[go_sem,zA,↓reduceIte,↓reduceDIte,zB,zC,zD,zE,zF,zG,zH,zI];(have hd:(xm.take 4)[i]?=some y:=by rw[List.getElem?_take,if_pos (by omega)];exact hy);rw[drop_cons hd]at hR;refine⟨fun g3=>?_,fun g3=>?_⟩;(·have e3:cW n out (bA y n)=out:=if_neg g3;rw[e1];refine⟨LN (by omega) (by omega),⟨by omega,by simp only[List.length_append,List.length_cons,List.length_nil];omega⟩,LN (by omega) (by omega),?_⟩;refine back _ (i+1,.Ps 801000 5 0 ((out.length:Int).toNat-0),out++ [bA y n],out) ?_ ⟨Or.inr ⟨_,_,rfl,by simp,by simp,by simp⟩,by dsimp only;omega,by dsimp only;omega,by dsimp only;omega,jj,?_⟩ (by dsimp only;omega);(·exact(by refine⟨?_,?_,rfl,rfl⟩<;>repeat' (first|exact trivial|exact Or.inl rfl|exact Or.inr rfl|apply aw|apply ax|apply ay|apply az|exact⟨(by show(_:Nat)<1000000000;omega),rfl,rfl⟩|rfl|(refine And.intro (Or.inl ?_) ?_)|(refine And.intro ?_ ?_))));·dsimp only;have:bW n (y::(xm.take 4).drop (i+1)) out=bW n ((xm.take 4).drop (i+1)) (cW n out (bA y n)):=rfl;rw[this,e3]at hR;exact hR);·have e3:cW n out (bA y n)=out++ [bA y n]:=if_pos g3;refine⟨LN (by omega) (by omega),?_⟩;refine back _ (i+1,.LV 801000,out++ [bA y n],out++ [bA y n]) ?_ ⟨Or.inl ⟨rfl,rfl⟩,by dsimp only;omega,by dsimp only;omega,by simp only[List.length_append,List.length_cons,List.length_nil];omega,by simp,?_⟩ (by dsimp only;omega);(·exact(by refine⟨?_,?_,rfl,rfl⟩<;>repeat' (first|exact trivial|exact Or.inl rfl|exact Or.inr rfl|apply aw|apply ax|apply ay|apply az|exact⟨(by show(_:Nat)<1000000000;omega),rfl,rfl⟩|rfl|(refine And.intro (Or.inl ?_) ?_)|(refine And.intro ?_ ?_))));·dsimp only;have:bW n (y::(xm.take 4).drop (i+1)) out=bW n ((xm.take 4).drop (i+1)) (cW n out (bA y n)):=rfl;rw[this,e3]at hR;exact hR);(·rw[done (by omega)]);·rw[done (by omega)]
end Go.Proofs.YtgpkijnphchkpaaGreat
