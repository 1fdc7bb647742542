/- Contracts: Valid, Means. Nothing here is trusted; no condition. -/
import Derived.Test.YtmgmonbmdkkhbaaGreatDoorA9
import Derived.Test.YtmgmonbmdkkhbaaGreatDoorProg
set_option linter.unusedSimpArgs false
set_option linter.unusedVariables false
open Nat renaming reduceBEq→zA,reduceAdd→zB,reduceSub→zC,reduceMul→zD,reduceLeDiff→zE
open Int renaming reduceLT→zF,reduceLE→zG,reduceToNat→zH,reduceNeg→zI
namespace Go.Proofs.YtmgmonbmdkkhbaaGreatDoor
theorem cV {α:Sort _} {x:α} {B C:Prop} (h:C):(x=x∨B)∧C:=⟨.inl rfl,h⟩
theorem cW {α:Sort _} {x:α} {A B C:Prop} (h:C):(A∨x=x∨B)∧C:=⟨.inr (.inl rfl),h⟩
theorem cX {α β:Sort _} {x:α} {y:β} {A B D C:Prop} (h:C):(A∨B∨D∨x=x∧y=y)∧C:=⟨.inr (.inr (.inr ⟨rfl,rfl⟩)),h⟩
theorem cY {α β:Sort _} {x:α} {y:β} {A B D C:Prop} (h:C):(A∨B∨(x=x∧y=y∧True)∨D)∧C:=⟨.inr (.inr (.inl ⟨rfl,rfl,trivial⟩)),h⟩
end Go.Proofs.YtmgmonbmdkkhbaaGreatDoor
namespace Go.Proofs.YtmgmonbmdkkhbaaGreatDoor
set_option maxRecDepth 100000
abbrev ik:Ty:=(.st (.pair (.int .i64) (.pair (.int .i64) (.pair .bool (.int .u8)))))
abbrev dx:Ty:=(.st (.pair .str (.int .u64)))
abbrev dE:Ty:=(.st (.pair (.int .u8) (.pair (.int .u8) (.pair (.int .u8) (.pair (.int .u8) (.pair (.int .u8) (.int .u8)))))))
abbrev ae:Ty:=(.st (.pair (.int .i64) (.pair (.int .i64) (.pair (.int .i64) (.pair .str (.pair (.int .i64) (.int .i64)))))))
abbrev ak:Ty:=(.st (.pair (.int .i64) (.pair (.int .i64) (.pair (.int .i64) (.pair (.int .i64) (.pair .str (.pair (.int .i64) (.int .i64))))))))
abbrev az:Ty:=(.st (.pair (.sl ae) (.pair (.sl ak) (.st (.pair (.int .i64) (.pair (.int .i64) (.pair (.int .i64) (.pair (.int .i64) (.pair (.int .i64) (.pair (.int .i64) (.pair (.int .i64) (.int .i64))))))))))))
abbrev gT:Ty:=(.st (.pair dE (.pair .bool (.int .u8))))
abbrev bD:Ty:=(.st (.pair (.int .i64) (.int .i64)))
abbrev p0:Ty:=(.st (.pair (.ptr .unit) (.sl (.int .u8))))
abbrev fg:Ty:=(.st (.pair .aq .aq))
abbrev cg:Ty:=(.st (.pair (.int .i64) (.int .i64)))
abbrev p5:Ty:=(.st (.pair .aq .aq))
abbrev sE:Ty:=(.st (.pair .aq .aq))
abbrev om:Ty:=(.st (.pair (.int .i64) (.int .i64)))
abbrev kU:Ty:=(.st (.pair az (.pair (.int .i64) (.int .i64))))
def IC:List (Nat×Ty):=[(1,.aq),(2,(.int .i64)),(3,(.int .i64)),(4,.bool),(5,(.int .u8)),(6,(.int .u8)),(7,ik),(8,ik),(9,.str),(10,.str),(11,.str),(12,(.int .u64)),(13,dx),(14,dx),(21,(.int .i32)),(22,(.sl dE)),(23,(.int .u16)),(24,.aq),(25,(.sl ae)),(26,(.sl ak)),(27,(.st (.pair (.int .i64) (.pair (.int .i64) (.pair (.int .i64) (.pair (.int .i64) (.pair (.int .i64) (.pair (.int .i64) (.pair (.int .i64) (.int .i64)))))))))),(28,az),(29,az),(30,.aq),(31,.aq),(32,(.sl (.int .u8))),(33,(.sl (.int .i64))),(34,(.int .i64)),(36,.aq),(37,.aq),(38,ae),(39,ae),(40,(.sl .str)),(42,.aq),(44,.aq),(45,.aq),(46,.aq),(47,(.sl gT)),(48,dE),(49,dE),(50,(.st (.pair (.int .u8) (.pair (.int .u8) (.int .u8))))),(51,(.st (.pair az (.pair az az)))),(52,(.st (.pair az (.pair az az)))),(53,.aq),(54,.aq),(55,ak),(56,ak),(57,.aq),(59,.aq),(60,.aq),(61,.aq),(62,.aq),(63,.aq),(64,.aq),(65,.aq),(66,.aq),(67,.aq),(68,.aq),(69,.aq),(70,.aq),(71,.aq),(72,.aq),(73,bD),(74,bD),(75,.aq),(76,.aq),(77,.aq),(78,.aq),(79,.aq),(80,.aq),(81,.aq),(83,.aq),(85,.aq),(86,.aq),(87,.aq),(88,gT),(89,gT),(90,(.ptr .unit)),(91,p0),(92,p0),(96,.aq),(97,.aq),(98,.aq),(99,(.mp (.int .i64) fg)),(100,.aq),(101,.aq),(102,.aq),(103,.aq),(104,.aq),(106,.aq),(107,.aq),(108,.aq),(109,.aq),(110,cg),(111,cg),(112,p5),(113,p5),(115,.aq),(116,.aq),(117,sE),(118,sE),(119,.aq),(120,.aq),(121,.aq),(122,.aq),(123,.aq),(125,.aq),(126,om),(127,om),(128,.aq),(129,.aq),(130,kU),(131,kU),(132,.aq),(133,.aq),(134,.aq),(135,.aq),(136,(.int .u64)),(137,.aq),(138,.aq),(139,.aq),(140,.aq),(141,.aq),(142,(.st (.pair .aq (.pair .aq (.pair .aq (.pair .aq (.pair .aq .aq))))))),(143,.aq),(144,(.st (.pair .aq .aq))),(145,.aq),(147,.aq),(149,.aq),(150,(.sl .aq)),(152,.aq),(153,.aq),(155,fg),(156,fg),(157,.aq),(158,.aq),(160,.aq),(161,.aq),(162,.aq),(163,.aq),(164,(.int .i64)),(165,.aq),(166,.aq),(167,.aq),(168,.aq),(169,.aq),(170,.aq),(171,(.int .i64)),(173,.aq),(174,.aq),(175,.aq),(176,.aq),(177,.aq),(178,(.int .u32)),(179,.aq),(180,(.int .u64)),(181,.aq),(183,.aq),(186,(.sl (.sl ae))),(187,.aq),(188,.aq),(189,.aq),(191,.aq),(192,.aq),(193,.aq),(194,(.sl (.sl ak))),(195,.aq),(196,.aq),(197,.aq),(198,.aq),(199,(.st (.pair (.int .i64) (.int .i64)))),(200,(.int .u64)),(201,.aq),(202,.aq),(203,.aq),(205,.aq),(206,.aq),(208,.aq),(210,.aq),(211,.aq),(212,.aq),(215,.aq),(216,.aq),(219,.aq),(221,.aq),(229,.aq),(230,(.int .u8)),(231,(.int .u8)),(232,.aq),(233,(.int .i32)),(234,(.int .i32))]
def strs:List Nat:=[7,8,13,14,28,29,38,39,48,49,55,56,73,74,88,89,91,92,110,111,112,113,117,118,126,127,130,131,155,156]
def CV:List Nat:=[7,8,27,38,39,48,49,50,55,56,73,74,88,89,110,111,126,127,199]
def fns:List (Nat×(List Ty×Ty)):=[(2,([],.unit)),(3,([(.sl dE),(.int .u16)],.bool)),(4,([(.sl gT),dE,(.st (.pair (.int .u8) (.pair (.int .u8) (.int .u8))))],.bool)),(5,([],.bool)),(6,([(.sl dE),(.int .i64)],az)),(7,([az],(.sl ae))),(8,([(.sl (.int .u8)),.str],(.aP (.sl (.int .u8)) (.int .i64)))),(9,([ae],.str)),(10,([(.sl (.int .u8))],(.aP (.sl .str) (.int .i64)))),(11,([az,.str,(.int .i64),(.int .i64)],(.aP az (.aP (.int .i64) (.int .i64))))),(12,([(.sl ae),(.sl ae)],.bool)),(13,([(.sl gT)],(.st (.pair az (.pair az az))))),(14,([az],.str)),(15,([dE],ak)),(16,([az,ak],(.aP az (.int .i64)))),(17,([az,az],(.aP az (.int .i64)))),(18,([ak,ae],.bool)),(19,([(.int .u8)],.str)),(20,([ae,(.int .i64)],(.int .i64))),(21,([az,.str,(.int .i64)],(.int .i64))),(22,([az,ae],(.aP az (.aP (.int .i64) (.int .i64))))),(23,([az,az],.bool)),(24,([az,dE],az)),(28,([(.sl (.int .i64))],(.int .i64))),(29,([(.int .i64),(.int .i64)],(.int .i64))),(30,([ae],bD)),(31,([bD,bD],(.int .i64))),(32,([.str],.bool)),(33,([.str],.str)),(34,([(.sl .str),.str],.str)),(35,([(.int .i64)],.str)),(36,([(.sl (.int .u8))],(.aP .str (.aP (.int .i64) .bool)))),(37,([.str],(.aP (.sl ae) (.int .i64)))),(38,([az,ae],(.aP az (.int .i64)))),(39,([(.st (.pair az (.pair az az))),gT],(.st (.pair az (.pair az az))))),(46,([ak],bD)),(49,([ae],cg)),(50,([cg,cg],.bool)),(52,([ak],cg)),(53,([(.sl ae),(.sl ak)],.bool)),(58,([ae],.bool)),(59,([(.int .i64),(.int .i64)],(.int .i64))),(60,([om,(.int .i64)],(.aP (.int .i64) (.int .i64)))),(62,([dE],.bool)),(63,([az,ak],(.aP az (.int .i64)))),(64,([az,ae],kU)),(65,([dE],ae)),(67,([(.int .u64)],(.int .i64))),(68,([(.int .i64)],.bool)),(69,([(.int .i64)],.str)),(70,([(.ptr .unit),(.int .i64)],.unit)),(71,([(.int .i64)],.str)),(72,([(.sl (.int .u8)),(.int .u8)],(.int .i64))),(75,([.str,.str],(.aP .str (.aP .str .bool)))),(81,([(.sl (.sl ae))],(.sl ae))),(82,([az,az],(.aP az (.int .i64)))),(84,([ak],.bool)),(85,([.str],.bool)),(86,([ak,ae],.bool)),(87,([ak],.bool)),(88,([(.int .i64),(.int .i64),(.int .i64)],.bool)),(89,([ak,ae],.bool)),(90,([ak],.bool)),(91,([ak,ae],.bool)),(92,([ak],.bool)),(93,([ak,ae],.bool)),(94,([ak],.bool)),(95,([ak,ae],.bool)),(96,([bD,(.int .i64)],.bool)),(98,([(.sl (.sl ak))],(.sl ak))),(101,([(.int .i64),(.int .i64)],(.int .i64))),(103,([ak],.bool)),(104,([(.sl ak),ak],(.sl ak))),(105,([(.sl ae),(.sl ak)],(.sl ae))),(106,([ae],.bool)),(107,([(.sl ak),ae],.bool)),(108,([(.sl ae),ae],(.sl ae))),(117,([(.int .u32)],(.int .i64))),(118,([(.int .u64)],(.int .i64))),(119,([(.ptr .unit),(.int .i64)],.unit)),(120,([(.int .i64),(.int .i64)],.str)),(123,([.str,(.int .i64),(.int .i64)],(.int .i64))),(129,([.str,.str],(.aP .str (.aP .str .bool)))),(132,([az,az],.bool)),(133,([(.sl ak),ak],.bool)),(134,([(.sl ae),ae],.bool)),(136,([.str],.bool)),(142,([(.int .i64),(.int .i64),(.int .i64)],.bool)),(143,([.str],.bool)),(144,([(.st (.pair (.int .i64) (.int .i64))),(.st (.pair (.int .i64) (.int .i64)))],.bool)),(145,([ak,ae],.bool)),(147,([(.int .i64)],(.int .u64))),(152,([(.int .i64)],.str)),(153,([(.int .u64)],(.int .i64))),(154,([(.sl (.int .u8)),(.int .u64)],.unit)),(155,([(.sl (.int .u8)),(.int .u64),(.int .i64),.bool,.bool],(.aP (.sl (.int .u8)) .str))),(156,([.str,.str],(.int .i64))),(157,([(.int .u8)],(.int .i64))),(158,([(.int .i64),(.int .i64),(.int .i64)],.bool)),(159,([.str],.bool)),(161,([(.int .i64)],(.int .i64))),(162,([.bool],(.int .i64))),(163,([(.int .i64)],.bool)),(164,([(.int .u64)],(.int .i64))),(165,([.str,(.int .u8)],(.int .i64))),(167,([(.int .i64)],(.int .i64))),(168,([.str,.str],(.int .i64))),(169,([(.int .u32)],(.int .i64))),(170,([(.int .u64)],(.int .i64))),(172,([.str],(.aP (.int .u32) (.int .u32)))),(196,([],.unit)),(27,([ae,ae],(.int .i64))),(43,([],(.mp (.int .i64) fg))),(44,([(.mp (.int .i64) fg),ak],.bool)),(45,([(.sl ak),.aq,ak],(.sl ak))),(47,([(.mp (.int .i64) fg),(.sl ak),ae],.bool)),(48,([(.sl ae),(.sl ae),(.st (.pair .aq .aq))],(.aP (.sl ae) .bool))),(51,([(.sl ak),(.sl ak),(.st (.pair .aq .aq))],(.aP (.sl ak) .bool))),(61,([(.sl ae),.aq,ae],(.sl ae))),(73,([],(.st (.pair .aq (.pair .aq (.pair .aq (.pair .aq (.pair .aq .aq)))))))),(74,([],(.st (.pair .aq .aq)))),(76,([.str,(.sl .aq)],(.aP ae .bool))),(78,([(.sl ae),ae,.aq],(.aP (.int .i64) .bool))),(79,([ae,ae],(.int .i64))),(97,([(.sl ak),.aq,bD],(.aP (.int .i64) .bool))),(102,([(.sl ae),.aq,bD],(.aP (.int .i64) .bool))),(137,([(.sl ak),bD,(.fh 138 (.ptr .aq))],(.aP (.int .i64) .bool))),(138,([ak,bD,(.ptr .aq)],(.int .i64))),(140,([(.sl ae),bD,(.fh 141 (.ptr .aq))],(.aP (.int .i64) .bool))),(141,([ae,bD,(.ptr .aq)],(.int .i64)))]
def FK:List (Nat×List (Option Ty)):=[(25,[some (.sl ae)]),(26,[none,none]),(40,[none,some .str]),(41,[none,some (.int .u8)]),(42,[none]),(54,[some (.sl ae),none]),(55,[some ae,none]),(56,[some (.sl ak),none]),(57,[some ak,none]),(66,[none,some (.int .i64),some (.int .i64),some (.int .i64),none]),(77,[some ak,none]),(80,[some ak,none]),(83,[none]),(99,[some ak,none,none]),(100,[some (.sl ak),none]),(109,[none,some (.int .i64),some (.int .i64),none]),(122,[none,some .str]),(124,[none,some .str]),(125,[none,some .str]),(126,[none,some .str]),(127,[none,some .str]),(128,[none,some .str]),(131,[none,some (.int .i64)]),(139,[none,some (.int .i64)])]
def ZZ:List (Nat×Nat):=[(99,3)]
noncomputable def env:Env:=R1 Tryz.prog IC strs CV fns FK ZZ [(22,25),(26,186),(51,25),(56,186),(20,40),(22,26),(26,194),(58,26)] true [92] [(32,5)] [] [185] [123,122,124,125,127,126,128] [((82,3),[[1,2,5,6,0,3,4,7,8,9,10],[1,2,5,6,0,3,4,9,7,8,10],[1,2,5,6,0,3,9,4,7,8,10],[1,2,5,6,0,4,3,7,8,9,10],[1,2,5,6,0,4,3,9,7,8,10],[1,2,5,6,0,4,9,3,7,8,10],[1,2,5,6,0,9,3,4,7,8,10],[1,2,5,6,0,9,4,3,7,8,10],[1,2,5,6,4,0,3,7,8,9,10],[1,2,5,6,4,0,3,9,7,8,10],[1,2,5,6,4,0,9,3,7,8,10],[1,2,5,6,4,9,0,3,7,8,10],[1,2,5,6,9,0,3,4,7,8,10],[1,2,5,6,9,0,4,3,7,8,10],[1,2,5,6,9,4,0,3,7,8,10]]),((48,6),[[0,1,2,3,6,4,5,7,8,9],[0,1,2,3,6,4,5,8,7,9],[0,1,2,3,6,4,7,5,8,9],[0,1,2,3,6,7,4,5,8,9]]),((48,8),[[0,1,2,3,6,4,5,7,8,9],[0,1,2,3,6,4,5,8,7,9],[0,1,2,3,6,4,7,5,8,9],[0,1,2,3,6,7,4,5,8,9]]),((48,4),[[0,1,2,3,6,8,4,5,7,9,10,11,12],[0,1,2,3,6,8,4,5,7,10,9,11,12],[0,1,2,3,6,8,4,5,7,10,11,9,12],[0,1,2,3,6,8,4,5,9,7,10,11,12],[0,1,2,3,6,8,4,5,9,10,7,11,12],[0,1,2,3,6,8,4,5,10,7,9,11,12],[0,1,2,3,6,8,4,5,10,7,11,9,12],[0,1,2,3,6,8,4,5,10,9,7,11,12],[0,1,2,3,6,8,4,7,5,9,10,11,12],[0,1,2,3,6,8,4,7,5,10,9,11,12],[0,1,2,3,6,8,4,7,5,10,11,9,12],[0,1,2,3,6,8,4,7,9,5,10,11,12],[0,1,2,3,6,8,4,9,5,7,10,11,12],[0,1,2,3,6,8,4,9,5,10,7,11,12],[0,1,2,3,6,8,4,9,7,5,10,11,12],[0,1,2,3,6,8,7,4,5,9,10,11,12],[0,1,2,3,6,8,7,4,5,10,9,11,12],[0,1,2,3,6,8,7,4,5,10,11,9,12],[0,1,2,3,6,8,7,4,9,5,10,11,12],[0,1,2,3,6,8,7,9,4,5,10,11,12],[0,1,2,3,6,8,9,4,5,7,10,11,12],[0,1,2,3,6,8,9,4,5,10,7,11,12],[0,1,2,3,6,8,9,4,7,5,10,11,12],[0,1,2,3,6,8,9,7,4,5,10,11,12]]),((51,6),[[0,1,2,3,6,4,5,7,8,9],[0,1,2,3,6,4,5,8,7,9],[0,1,2,3,6,4,7,5,8,9],[0,1,2,3,6,7,4,5,8,9]]),((51,8),[[0,1,2,3,6,4,5,7,8,9],[0,1,2,3,6,4,5,8,7,9],[0,1,2,3,6,4,7,5,8,9],[0,1,2,3,6,7,4,5,8,9]]),((51,4),[[0,1,2,3,6,8,4,5,7,9,10,11,12],[0,1,2,3,6,8,4,5,7,10,9,11,12],[0,1,2,3,6,8,4,5,7,10,11,9,12],[0,1,2,3,6,8,4,5,9,7,10,11,12],[0,1,2,3,6,8,4,5,9,10,7,11,12],[0,1,2,3,6,8,4,5,10,7,9,11,12],[0,1,2,3,6,8,4,5,10,7,11,9,12],[0,1,2,3,6,8,4,5,10,9,7,11,12],[0,1,2,3,6,8,4,7,5,9,10,11,12],[0,1,2,3,6,8,4,7,5,10,9,11,12],[0,1,2,3,6,8,4,7,5,10,11,9,12],[0,1,2,3,6,8,4,7,9,5,10,11,12],[0,1,2,3,6,8,4,9,5,7,10,11,12],[0,1,2,3,6,8,4,9,5,10,7,11,12],[0,1,2,3,6,8,4,9,7,5,10,11,12],[0,1,2,3,6,8,7,4,5,9,10,11,12],[0,1,2,3,6,8,7,4,5,10,9,11,12],[0,1,2,3,6,8,7,4,5,10,11,9,12],[0,1,2,3,6,8,7,4,9,5,10,11,12],[0,1,2,3,6,8,7,9,4,5,10,11,12],[0,1,2,3,6,8,9,4,5,7,10,11,12],[0,1,2,3,6,8,9,4,5,10,7,11,12],[0,1,2,3,6,8,9,4,7,5,10,11,12],[0,1,2,3,6,8,9,7,4,5,10,11,12]])] [185] [(37,2),(39,2),(4,4),(4,13)] []
theorem Uf(t:Nat):env.emp t=al t [185]:=rfl
theorem Ug(f i:Nat):env.xy f i=CT [(37,2),(39,2),(4,4),(4,13)] f i:=rfl
theorem Z0(f i:Nat):env.fl f i=Mb [((82,3),[[1,2,5,6,0,3,4,7,8,9,10],[1,2,5,6,0,3,4,9,7,8,10],[1,2,5,6,0,3,9,4,7,8,10],[1,2,5,6,0,4,3,7,8,9,10],[1,2,5,6,0,4,3,9,7,8,10],[1,2,5,6,0,4,9,3,7,8,10],[1,2,5,6,0,9,3,4,7,8,10],[1,2,5,6,0,9,4,3,7,8,10],[1,2,5,6,4,0,3,7,8,9,10],[1,2,5,6,4,0,3,9,7,8,10],[1,2,5,6,4,0,9,3,7,8,10],[1,2,5,6,4,9,0,3,7,8,10],[1,2,5,6,9,0,3,4,7,8,10],[1,2,5,6,9,0,4,3,7,8,10],[1,2,5,6,9,4,0,3,7,8,10]]),((48,6),[[0,1,2,3,6,4,5,7,8,9],[0,1,2,3,6,4,5,8,7,9],[0,1,2,3,6,4,7,5,8,9],[0,1,2,3,6,7,4,5,8,9]]),((48,8),[[0,1,2,3,6,4,5,7,8,9],[0,1,2,3,6,4,5,8,7,9],[0,1,2,3,6,4,7,5,8,9],[0,1,2,3,6,7,4,5,8,9]]),((48,4),[[0,1,2,3,6,8,4,5,7,9,10,11,12],[0,1,2,3,6,8,4,5,7,10,9,11,12],[0,1,2,3,6,8,4,5,7,10,11,9,12],[0,1,2,3,6,8,4,5,9,7,10,11,12],[0,1,2,3,6,8,4,5,9,10,7,11,12],[0,1,2,3,6,8,4,5,10,7,9,11,12],[0,1,2,3,6,8,4,5,10,7,11,9,12],[0,1,2,3,6,8,4,5,10,9,7,11,12],[0,1,2,3,6,8,4,7,5,9,10,11,12],[0,1,2,3,6,8,4,7,5,10,9,11,12],[0,1,2,3,6,8,4,7,5,10,11,9,12],[0,1,2,3,6,8,4,7,9,5,10,11,12],[0,1,2,3,6,8,4,9,5,7,10,11,12],[0,1,2,3,6,8,4,9,5,10,7,11,12],[0,1,2,3,6,8,4,9,7,5,10,11,12],[0,1,2,3,6,8,7,4,5,9,10,11,12],[0,1,2,3,6,8,7,4,5,10,9,11,12],[0,1,2,3,6,8,7,4,5,10,11,9,12],[0,1,2,3,6,8,7,4,9,5,10,11,12],[0,1,2,3,6,8,7,9,4,5,10,11,12],[0,1,2,3,6,8,9,4,5,7,10,11,12],[0,1,2,3,6,8,9,4,5,10,7,11,12],[0,1,2,3,6,8,9,4,7,5,10,11,12],[0,1,2,3,6,8,9,7,4,5,10,11,12]]),((51,6),[[0,1,2,3,6,4,5,7,8,9],[0,1,2,3,6,4,5,8,7,9],[0,1,2,3,6,4,7,5,8,9],[0,1,2,3,6,7,4,5,8,9]]),((51,8),[[0,1,2,3,6,4,5,7,8,9],[0,1,2,3,6,4,5,8,7,9],[0,1,2,3,6,4,7,5,8,9],[0,1,2,3,6,7,4,5,8,9]]),((51,4),[[0,1,2,3,6,8,4,5,7,9,10,11,12],[0,1,2,3,6,8,4,5,7,10,9,11,12],[0,1,2,3,6,8,4,5,7,10,11,9,12],[0,1,2,3,6,8,4,5,9,7,10,11,12],[0,1,2,3,6,8,4,5,9,10,7,11,12],[0,1,2,3,6,8,4,5,10,7,9,11,12],[0,1,2,3,6,8,4,5,10,7,11,9,12],[0,1,2,3,6,8,4,5,10,9,7,11,12],[0,1,2,3,6,8,4,7,5,9,10,11,12],[0,1,2,3,6,8,4,7,5,10,9,11,12],[0,1,2,3,6,8,4,7,5,10,11,9,12],[0,1,2,3,6,8,4,7,9,5,10,11,12],[0,1,2,3,6,8,4,9,5,7,10,11,12],[0,1,2,3,6,8,4,9,5,10,7,11,12],[0,1,2,3,6,8,4,9,7,5,10,11,12],[0,1,2,3,6,8,7,4,5,9,10,11,12],[0,1,2,3,6,8,7,4,5,10,9,11,12],[0,1,2,3,6,8,7,4,5,10,11,9,12],[0,1,2,3,6,8,7,4,9,5,10,11,12],[0,1,2,3,6,8,7,9,4,5,10,11,12],[0,1,2,3,6,8,9,4,5,7,10,11,12],[0,1,2,3,6,8,9,4,5,10,7,11,12],[0,1,2,3,6,8,9,4,7,5,10,11,12],[0,1,2,3,6,8,9,7,4,5,10,11,12]])] f i:=rfl
theorem Uh(t:Nat):env.K7 t=al t [185]:=rfl
theorem Z1(f:Nat):env.px f=al f [123,122,124,125,127,126,128]:=rfl
theorem Z2(f:Nat):env.nd f=false:=rfl
theorem Z3(t:Nat):env.G5 t=al t [92]:=rfl
theorem Z4(t:Nat):env.E7 t=look t [(32,5)]:=rfl
theorem Z5(d t:Nat):env.ro d t=CT [(22,25),(26,186),(51,25),(56,186),(20,40),(22,26),(26,194),(58,26)] d t:=rfl
theorem Z6:env.tm=true:=rfl
theorem ah:aE env:=IE (by kernel_rfl) (by kernel_rfl) (by kernel_rfl) (by kernel_rfl) (by kernel_rfl) (by kernel_rfl) (by kernel_rfl) (by kernel_rfl) (by kernel_rfl) (by kernel_rfl)
theorem MY:env.mapKey 99=some 3:=rfl
theorem Z7:env.ty 1=some .aq:=rfl
theorem Z8:env.ty 2=some (.int .i64):=rfl
theorem Z9:env.ty 3=some (.int .i64):=rfl
theorem aa0:env.ty 4=some .bool:=rfl
theorem aa1:env.ty 5=some (.int .u8):=rfl
theorem aa2:env.ty 6=some (.int .u8):=rfl
theorem aa3:env.ty 7=some ik:=rfl
theorem aa4:env.ty 8=some ik:=rfl
theorem aa5:env.ty 9=some .str:=rfl
theorem Ui:env.ty 10=some .str:=rfl
theorem Uj:env.ty 11=some .str:=rfl
theorem Uk:env.ty 12=some (.int .u64):=rfl
theorem Ul:env.ty 13=some dx:=rfl
theorem Um:env.ty 14=some dx:=rfl
theorem Un:env.ty 21=some (.int .i32):=rfl
theorem Uo:env.ty 22=some (.sl dE):=rfl
theorem Up:env.ty 23=some (.int .u16):=rfl
theorem Uq:env.ty 24=some .aq:=rfl
theorem Ur:env.ty 25=some (.sl ae):=rfl
theorem Us:env.ty 26=some (.sl ak):=rfl
theorem Ut:env.ty 27=some (.st (.pair (.int .i64) (.pair (.int .i64) (.pair (.int .i64) (.pair (.int .i64) (.pair (.int .i64) (.pair (.int .i64) (.pair (.int .i64) (.int .i64))))))))):=rfl
theorem Uu:env.ty 28=some az:=rfl
theorem Uv:env.ty 29=some az:=rfl
theorem Uw:env.ty 30=some .aq:=rfl
theorem Ux:env.ty 31=some .aq:=rfl
theorem Uy:env.ty 32=some (.sl (.int .u8)):=rfl
theorem Uz:env.ty 33=some (.sl (.int .i64)):=rfl
theorem UA:env.ty 34=some (.int .i64):=rfl
theorem UB:env.ty 36=some .aq:=rfl
theorem UC:env.ty 37=some .aq:=rfl
theorem UD:env.ty 38=some ae:=rfl
theorem UE:env.ty 39=some ae:=rfl
theorem UF:env.ty 40=some (.sl .str):=rfl
theorem UG:env.ty 42=some .aq:=rfl
theorem UH:env.ty 44=some .aq:=rfl
theorem UI:env.ty 45=some .aq:=rfl
theorem UJ:env.ty 46=some .aq:=rfl
theorem UK:env.ty 47=some (.sl gT):=rfl
theorem UL:env.ty 48=some dE:=rfl
theorem UM:env.ty 49=some dE:=rfl
theorem UN:env.ty 50=some (.st (.pair (.int .u8) (.pair (.int .u8) (.int .u8)))):=rfl
theorem UO:env.ty 51=some (.st (.pair az (.pair az az))):=rfl
theorem UP:env.ty 52=some (.st (.pair az (.pair az az))):=rfl
theorem UQ:env.ty 53=some .aq:=rfl
theorem UR:env.ty 54=some .aq:=rfl
theorem US:env.ty 55=some ak:=rfl
theorem UT:env.ty 56=some ak:=rfl
theorem UU:env.ty 57=some .aq:=rfl
theorem UW:env.ty 59=some .aq:=rfl
theorem UX:env.ty 60=some .aq:=rfl
theorem UY:env.ty 61=some .aq:=rfl
theorem UZ:env.ty 62=some .aq:=rfl
theorem U0:env.ty 63=some .aq:=rfl
theorem U1:env.ty 64=some .aq:=rfl
theorem U2:env.ty 65=some .aq:=rfl
theorem U3:env.ty 66=some .aq:=rfl
theorem U4:env.ty 67=some .aq:=rfl
theorem U5:env.ty 68=some .aq:=rfl
theorem U6:env.ty 69=some .aq:=rfl
theorem U7:env.ty 70=some .aq:=rfl
theorem U8:env.ty 71=some .aq:=rfl
theorem U9:env.ty 72=some .aq:=rfl
theorem Va:env.ty 73=some bD:=rfl
theorem Vb:env.ty 74=some bD:=rfl
theorem Vc:env.ty 75=some .aq:=rfl
theorem Vd:env.ty 76=some .aq:=rfl
theorem Ve:env.ty 77=some .aq:=rfl
theorem Vf:env.ty 78=some .aq:=rfl
theorem Vg:env.ty 79=some .aq:=rfl
theorem Vh:env.ty 80=some .aq:=rfl
theorem Vi:env.ty 81=some .aq:=rfl
theorem Vj:env.ty 83=some .aq:=rfl
theorem Vk:env.ty 85=some .aq:=rfl
theorem Vl:env.ty 86=some .aq:=rfl
theorem Vm:env.ty 87=some .aq:=rfl
theorem Vn:env.ty 88=some gT:=rfl
theorem Vo:env.ty 89=some gT:=rfl
theorem Vp:env.ty 90=some (.ptr .unit):=rfl
theorem Vq:env.ty 91=some p0:=rfl
theorem Vr:env.ty 92=some p0:=rfl
theorem Vs:env.ty 96=some .aq:=rfl
theorem Vt:env.ty 97=some .aq:=rfl
theorem Vu:env.ty 98=some .aq:=rfl
theorem Vv:env.ty 99=some (.mp (.int .i64) fg):=rfl
theorem MZ:env.ty 100=some .aq:=rfl
theorem M0:env.ty 101=some .aq:=rfl
theorem M1:env.ty 102=some .aq:=rfl
theorem M3:env.ty 103=some .aq:=rfl
theorem M4:env.ty 104=some .aq:=rfl
theorem M5:env.ty 106=some .aq:=rfl
theorem M6:env.ty 107=some .aq:=rfl
theorem M7:env.ty 108=some .aq:=rfl
theorem M8:env.ty 109=some .aq:=rfl
theorem M9:env.ty 110=some cg:=rfl
theorem Na:env.ty 111=some cg:=rfl
theorem Nb:env.ty 112=some p5:=rfl
theorem Nc:env.ty 113=some p5:=rfl
theorem Nd:env.ty 115=some .aq:=rfl
theorem Nf:env.ty 116=some .aq:=rfl
theorem Ng:env.ty 117=some sE:=rfl
theorem Nh:env.ty 118=some sE:=rfl
theorem Ni:env.ty 119=some .aq:=rfl
theorem Nj:env.ty 120=some .aq:=rfl
theorem Nk:env.ty 121=some .aq:=rfl
theorem Nl:env.ty 122=some .aq:=rfl
theorem Nn:env.ty 123=some .aq:=rfl
theorem No:env.ty 125=some .aq:=rfl
theorem Np:env.ty 126=some om:=rfl
theorem Nq:env.ty 127=some om:=rfl
theorem Nr:env.ty 128=some .aq:=rfl
theorem Ns:env.ty 129=some .aq:=rfl
theorem Nt:env.ty 130=some kU:=rfl
theorem Nu:env.ty 131=some kU:=rfl
theorem Nv:env.ty 132=some .aq:=rfl
theorem Nw:env.ty 133=some .aq:=rfl
theorem Nx:env.ty 134=some .aq:=rfl
theorem Ny:env.ty 135=some .aq:=rfl
theorem Nz:env.ty 136=some (.int .u64):=rfl
theorem NA:env.ty 137=some .aq:=rfl
theorem NB:env.ty 138=some .aq:=rfl
theorem NC:env.ty 139=some .aq:=rfl
theorem ND:env.ty 140=some .aq:=rfl
theorem NF:env.ty 141=some .aq:=rfl
theorem NG:env.ty 142=some (.st (.pair .aq (.pair .aq (.pair .aq (.pair .aq (.pair .aq .aq)))))):=rfl
theorem NH:env.ty 143=some .aq:=rfl
theorem NI:env.ty 144=some (.st (.pair .aq .aq)):=rfl
theorem NJ:env.ty 145=some .aq:=rfl
theorem NK:env.ty 147=some .aq:=rfl
theorem NL:env.ty 149=some .aq:=rfl
theorem NM:env.ty 150=some (.sl .aq):=rfl
theorem NN:env.ty 152=some .aq:=rfl
theorem NO:env.ty 153=some .aq:=rfl
theorem NP:env.ty 155=some fg:=rfl
theorem NQ:env.ty 156=some fg:=rfl
theorem NR:env.ty 157=some .aq:=rfl
theorem NS:env.ty 158=some .aq:=rfl
theorem NT:env.ty 160=some .aq:=rfl
theorem NU:env.ty 161=some .aq:=rfl
theorem NV:env.ty 162=some .aq:=rfl
theorem NW:env.ty 163=some .aq:=rfl
theorem NX:env.ty 164=some (.int .i64):=rfl
theorem NY:env.ty 165=some .aq:=rfl
theorem NZ:env.ty 166=some .aq:=rfl
theorem N0:env.ty 167=some .aq:=rfl
theorem N1:env.ty 168=some .aq:=rfl
theorem N2:env.ty 169=some .aq:=rfl
theorem N3:env.ty 170=some .aq:=rfl
theorem N4:env.ty 171=some (.int .i64):=rfl
theorem N5:env.ty 173=some .aq:=rfl
theorem N6:env.ty 174=some .aq:=rfl
theorem N7:env.ty 175=some .aq:=rfl
theorem N8:env.ty 176=some .aq:=rfl
theorem N9:env.ty 177=some .aq:=rfl
theorem Oa:env.ty 178=some (.int .u32):=rfl
theorem Ob:env.ty 179=some .aq:=rfl
theorem Oc:env.ty 180=some (.int .u64):=rfl
theorem Od:env.ty 181=some .aq:=rfl
theorem Oe:env.ty 183=some .aq:=rfl
theorem Of:env.ty 186=some (.sl (.sl ae)):=rfl
theorem Og:env.ty 187=some .aq:=rfl
theorem Oh:env.ty 188=some .aq:=rfl
theorem Oi:env.ty 189=some .aq:=rfl
theorem Oj:env.ty 191=some .aq:=rfl
theorem Ok:env.ty 192=some .aq:=rfl
theorem Ol:env.ty 193=some .aq:=rfl
theorem Om:env.ty 194=some (.sl (.sl ak)):=rfl
theorem On:env.ty 195=some .aq:=rfl
theorem Oo:env.ty 196=some .aq:=rfl
theorem Oq:env.ty 197=some .aq:=rfl
theorem Ot:env.ty 198=some .aq:=rfl
theorem Ou:env.ty 199=some (.st (.pair (.int .i64) (.int .i64))):=rfl
theorem Ov:env.ty 200=some (.int .u64):=rfl
theorem Ow:env.ty 201=some .aq:=rfl
theorem Ox:env.ty 202=some .aq:=rfl
theorem Oy:env.ty 203=some .aq:=rfl
theorem Oz:env.ty 205=some .aq:=rfl
theorem OA:env.ty 206=some .aq:=rfl
theorem OB:env.ty 208=some .aq:=rfl
theorem OC:env.ty 210=some .aq:=rfl
theorem OD:env.ty 211=some .aq:=rfl
theorem OE:env.ty 212=some .aq:=rfl
theorem OF:env.ty 215=some .aq:=rfl
theorem OG:env.ty 216=some .aq:=rfl
theorem OH:env.ty 219=some .aq:=rfl
theorem OI:env.ty 221=some .aq:=rfl
theorem OJ:env.ty 229=some .aq:=rfl
theorem OK:env.ty 230=some (.int .u8):=rfl
theorem OL:env.ty 231=some (.int .u8):=rfl
theorem OM:env.ty 232=some .aq:=rfl
theorem ON:env.ty 233=some (.int .i32):=rfl
theorem OO:env.ty 234=some (.int .i32):=rfl
theorem Vw:env.str 7=true:=rfl
theorem Vx:env.str 8=true:=rfl
theorem OP:env.str 13=true:=rfl
theorem OQ:env.str 14=true:=rfl
theorem OR:env.str 28=true:=rfl
theorem OS:env.str 29=true:=rfl
theorem OT:env.str 38=true:=rfl
theorem OU:env.str 39=true:=rfl
theorem OV:env.str 48=true:=rfl
theorem OW:env.str 49=true:=rfl
theorem OX:env.str 55=true:=rfl
theorem OY:env.str 56=true:=rfl
theorem OZ:env.str 73=true:=rfl
theorem O0:env.str 74=true:=rfl
theorem O1:env.str 88=true:=rfl
theorem O2:env.str 89=true:=rfl
theorem O3:env.str 91=true:=rfl
theorem O4:env.str 92=true:=rfl
theorem I8:env.str 110=true:=rfl
theorem I9:env.str 111=true:=rfl
theorem Ja:env.str 112=true:=rfl
theorem Jb:env.str 113=true:=rfl
theorem Jc:env.str 117=true:=rfl
theorem Jd:env.str 118=true:=rfl
theorem Je:env.str 126=true:=rfl
theorem Jf:env.str 127=true:=rfl
theorem Jg:env.str 130=true:=rfl
theorem Jh:env.str 131=true:=rfl
theorem Ji:env.str 155=true:=rfl
theorem Jj:env.str 156=true:=rfl
theorem O5:env.str 27=false:=rfl
theorem O6:env.str 50=false:=rfl
theorem O7:env.str 51=false:=rfl
theorem O8:env.str 52=false:=rfl
theorem Jk:env.str 142=false:=rfl
theorem Jl:env.str 144=false:=rfl
theorem Jm:env.str 199=false:=rfl
theorem Vy:env.cmp 7=true:=rfl
theorem Vz:env.cmp 8=true:=rfl
theorem O9:env.cmp 27=true:=rfl
theorem Pa:env.cmp 38=true:=rfl
theorem Pb:env.cmp 39=true:=rfl
theorem Pc:env.cmp 48=true:=rfl
theorem Pd:env.cmp 49=true:=rfl
theorem Pe:env.cmp 50=true:=rfl
theorem Pf:env.cmp 55=true:=rfl
theorem Pg:env.cmp 56=true:=rfl
theorem Ph:env.cmp 73=true:=rfl
theorem Pj:env.cmp 74=true:=rfl
theorem Pk:env.cmp 88=true:=rfl
theorem Pl:env.cmp 89=true:=rfl
theorem Jo:env.cmp 110=true:=rfl
theorem Jp:env.cmp 111=true:=rfl
theorem Jq:env.cmp 126=true:=rfl
theorem Jr:env.cmp 127=true:=rfl
theorem Js:env.cmp 199=true:=rfl
theorem aa6:env.fn 2=some ([],.unit):=rfl
theorem aa7:env.fn 3=some ([(.sl dE),(.int .u16)],.bool):=rfl
theorem aa8:env.fn 4=some ([(.sl gT),dE,(.st (.pair (.int .u8) (.pair (.int .u8) (.int .u8))))],.bool):=rfl
theorem aa9:env.fn 5=some ([],.bool):=rfl
theorem ab0:env.fn 6=some ([(.sl dE),(.int .i64)],az):=rfl
theorem ab1:env.fn 7=some ([az],(.sl ae)):=rfl
theorem ab2:env.fn 8=some ([(.sl (.int .u8)),.str],(.aP (.sl (.int .u8)) (.int .i64))):=rfl
theorem ab3:env.fn 9=some ([ae],.str):=rfl
theorem VA:env.fn 10=some ([(.sl (.int .u8))],(.aP (.sl .str) (.int .i64))):=rfl
theorem VB:env.fn 11=some ([az,.str,(.int .i64),(.int .i64)],(.aP az (.aP (.int .i64) (.int .i64)))):=rfl
theorem VC:env.fn 12=some ([(.sl ae),(.sl ae)],.bool):=rfl
theorem VD:env.fn 13=some ([(.sl gT)],(.st (.pair az (.pair az az)))):=rfl
theorem VE:env.fn 14=some ([az],.str):=rfl
theorem VF:env.fn 15=some ([dE],ak):=rfl
theorem VG:env.fn 16=some ([az,ak],(.aP az (.int .i64))):=rfl
theorem VH:env.fn 17=some ([az,az],(.aP az (.int .i64))):=rfl
theorem VI:env.fn 18=some ([ak,ae],.bool):=rfl
theorem VJ:env.fn 19=some ([(.int .u8)],.str):=rfl
theorem VK:env.fn 20=some ([ae,(.int .i64)],(.int .i64)):=rfl
theorem VL:env.fn 21=some ([az,.str,(.int .i64)],(.int .i64)):=rfl
theorem VM:env.fn 22=some ([az,ae],(.aP az (.aP (.int .i64) (.int .i64)))):=rfl
theorem VN:env.fn 23=some ([az,az],.bool):=rfl
theorem VO:env.fn 24=some ([az,dE],az):=rfl
theorem VP:env.fn 28=some ([(.sl (.int .i64))],(.int .i64)):=rfl
theorem VQ:env.fn 29=some ([(.int .i64),(.int .i64)],(.int .i64)):=rfl
theorem VR:env.fn 30=some ([ae],bD):=rfl
theorem VS:env.fn 31=some ([bD,bD],(.int .i64)):=rfl
theorem VT:env.fn 32=some ([.str],.bool):=rfl
theorem VV:env.fn 33=some ([.str],.str):=rfl
theorem VW:env.fn 34=some ([(.sl .str),.str],.str):=rfl
theorem VX:env.fn 35=some ([(.int .i64)],.str):=rfl
theorem VY:env.fn 36=some ([(.sl (.int .u8))],(.aP .str (.aP (.int .i64) .bool))):=rfl
theorem VZ:env.fn 37=some ([.str],(.aP (.sl ae) (.int .i64))):=rfl
theorem V0:env.fn 38=some ([az,ae],(.aP az (.int .i64))):=rfl
theorem V1:env.fn 39=some ([(.st (.pair az (.pair az az))),gT],(.st (.pair az (.pair az az)))):=rfl
theorem V3:env.fn 46=some ([ak],bD):=rfl
theorem V4:env.fn 49=some ([ae],cg):=rfl
theorem V5:env.fn 50=some ([cg,cg],.bool):=rfl
theorem V6:env.fn 52=some ([ak],cg):=rfl
theorem V7:env.fn 53=some ([(.sl ae),(.sl ak)],.bool):=rfl
theorem V8:env.fn 58=some ([ae],.bool):=rfl
theorem V9:env.fn 59=some ([(.int .i64),(.int .i64)],(.int .i64)):=rfl
theorem Wa:env.fn 60=some ([om,(.int .i64)],(.aP (.int .i64) (.int .i64))):=rfl
theorem Wb:env.fn 62=some ([dE],.bool):=rfl
theorem Wc:env.fn 63=some ([az,ak],(.aP az (.int .i64))):=rfl
theorem Wd:env.fn 64=some ([az,ae],kU):=rfl
theorem We:env.fn 65=some ([dE],ae):=rfl
theorem Wf:env.fn 67=some ([(.int .u64)],(.int .i64)):=rfl
theorem Wg:env.fn 68=some ([(.int .i64)],.bool):=rfl
theorem Wh:env.fn 69=some ([(.int .i64)],.str):=rfl
theorem Wi:env.fn 70=some ([(.ptr .unit),(.int .i64)],.unit):=rfl
theorem Wj:env.fn 71=some ([(.int .i64)],.str):=rfl
theorem Wk:env.fn 72=some ([(.sl (.int .u8)),(.int .u8)],(.int .i64)):=rfl
theorem Wl:env.fn 75=some ([.str,.str],(.aP .str (.aP .str .bool))):=rfl
theorem Wm:env.fn 81=some ([(.sl (.sl ae))],(.sl ae)):=rfl
theorem Wn:env.fn 82=some ([az,az],(.aP az (.int .i64))):=rfl
theorem Wo:env.fn 84=some ([ak],.bool):=rfl
theorem Wp:env.fn 85=some ([.str],.bool):=rfl
theorem Wq:env.fn 86=some ([ak,ae],.bool):=rfl
theorem Wr:env.fn 87=some ([ak],.bool):=rfl
theorem Ws:env.fn 88=some ([(.int .i64),(.int .i64),(.int .i64)],.bool):=rfl
theorem Wt:env.fn 89=some ([ak,ae],.bool):=rfl
theorem Wu:env.fn 90=some ([ak],.bool):=rfl
theorem Wv:env.fn 91=some ([ak,ae],.bool):=rfl
theorem Ww:env.fn 92=some ([ak],.bool):=rfl
theorem Wx:env.fn 93=some ([ak,ae],.bool):=rfl
theorem Wy:env.fn 94=some ([ak],.bool):=rfl
theorem Wz:env.fn 95=some ([ak,ae],.bool):=rfl
theorem WA:env.fn 96=some ([bD,(.int .i64)],.bool):=rfl
theorem WB:env.fn 98=some ([(.sl (.sl ak))],(.sl ak)):=rfl
theorem Pm:env.fn 101=some ([(.int .i64),(.int .i64)],(.int .i64)):=rfl
theorem Pn:env.fn 103=some ([ak],.bool):=rfl
theorem Po:env.fn 104=some ([(.sl ak),ak],(.sl ak)):=rfl
theorem Pp:env.fn 105=some ([(.sl ae),(.sl ak)],(.sl ae)):=rfl
theorem Pq:env.fn 106=some ([ae],.bool):=rfl
theorem Pr:env.fn 107=some ([(.sl ak),ae],.bool):=rfl
theorem Ps:env.fn 108=some ([(.sl ae),ae],(.sl ae)):=rfl
theorem Pt:env.fn 117=some ([(.int .u32)],(.int .i64)):=rfl
theorem Pu:env.fn 118=some ([(.int .u64)],(.int .i64)):=rfl
theorem Pv:env.fn 119=some ([(.ptr .unit),(.int .i64)],.unit):=rfl
theorem Pw:env.fn 120=some ([(.int .i64),(.int .i64)],.str):=rfl
theorem Px:env.fn 123=some ([.str,(.int .i64),(.int .i64)],(.int .i64)):=rfl
theorem Py:env.fn 129=some ([.str,.str],(.aP .str (.aP .str .bool))):=rfl
theorem Pz:env.fn 132=some ([az,az],.bool):=rfl
theorem PA:env.fn 133=some ([(.sl ak),ak],.bool):=rfl
theorem PE:env.fn 134=some ([(.sl ae),ae],.bool):=rfl
theorem PF:env.fn 136=some ([.str],.bool):=rfl
theorem PG:env.fn 142=some ([(.int .i64),(.int .i64),(.int .i64)],.bool):=rfl
theorem PI:env.fn 143=some ([.str],.bool):=rfl
theorem PM:env.fn 144=some ([(.st (.pair (.int .i64) (.int .i64))),(.st (.pair (.int .i64) (.int .i64)))],.bool):=rfl
theorem PR:env.fn 145=some ([ak,ae],.bool):=rfl
theorem PT:env.fn 147=some ([(.int .i64)],(.int .u64)):=rfl
theorem PU:env.fn 152=some ([(.int .i64)],.str):=rfl
theorem PY:env.fn 153=some ([(.int .u64)],(.int .i64)):=rfl
theorem PZ:env.fn 154=some ([(.sl (.int .u8)),(.int .u64)],.unit):=rfl
theorem P1:env.fn 155=some ([(.sl (.int .u8)),(.int .u64),(.int .i64),.bool,.bool],(.aP (.sl (.int .u8)) .str)):=rfl
theorem P2:env.fn 156=some ([.str,.str],(.int .i64)):=rfl
theorem P3:env.fn 157=some ([(.int .u8)],(.int .i64)):=rfl
theorem P4:env.fn 158=some ([(.int .i64),(.int .i64),(.int .i64)],.bool):=rfl
theorem P5:env.fn 159=some ([.str],.bool):=rfl
theorem P6:env.fn 161=some ([(.int .i64)],(.int .i64)):=rfl
theorem P7:env.fn 162=some ([.bool],(.int .i64)):=rfl
theorem P8:env.fn 163=some ([(.int .i64)],.bool):=rfl
theorem P9:env.fn 164=some ([(.int .u64)],(.int .i64)):=rfl
theorem Qa:env.fn 165=some ([.str,(.int .u8)],(.int .i64)):=rfl
theorem Qb:env.fn 167=some ([(.int .i64)],(.int .i64)):=rfl
theorem Qc:env.fn 168=some ([.str,.str],(.int .i64)):=rfl
theorem Qd:env.fn 169=some ([(.int .u32)],(.int .i64)):=rfl
theorem Qe:env.fn 170=some ([(.int .u64)],(.int .i64)):=rfl
theorem Qf:env.fn 172=some ([.str],(.aP (.int .u32) (.int .u32))):=rfl
theorem Qg:env.fn 196=some ([],.unit):=rfl
theorem WC:env.fn 27=some ([ae,ae],(.int .i64)):=rfl
theorem WD:env.fn 43=some ([],(.mp (.int .i64) fg)):=rfl
theorem WE:env.fn 44=some ([(.mp (.int .i64) fg),ak],.bool):=rfl
theorem WG:env.fn 45=some ([(.sl ak),.aq,ak],(.sl ak)):=rfl
theorem WH:env.fn 47=some ([(.mp (.int .i64) fg),(.sl ak),ae],.bool):=rfl
theorem WJ:env.fn 48=some ([(.sl ae),(.sl ae),(.st (.pair .aq .aq))],(.aP (.sl ae) .bool)):=rfl
theorem WK:env.fn 51=some ([(.sl ak),(.sl ak),(.st (.pair .aq .aq))],(.aP (.sl ak) .bool)):=rfl
theorem WL:env.fn 61=some ([(.sl ae),.aq,ae],(.sl ae)):=rfl
theorem WM:env.fn 73=some ([],(.st (.pair .aq (.pair .aq (.pair .aq (.pair .aq (.pair .aq .aq))))))):=rfl
theorem WN:env.fn 74=some ([],(.st (.pair .aq .aq))):=rfl
theorem WO:env.fn 76=some ([.str,(.sl .aq)],(.aP ae .bool)):=rfl
theorem WQ:env.fn 78=some ([(.sl ae),ae,.aq],(.aP (.int .i64) .bool)):=rfl
theorem WR:env.fn 79=some ([ae,ae],(.int .i64)):=rfl
theorem WS:env.fn 97=some ([(.sl ak),.aq,bD],(.aP (.int .i64) .bool)):=rfl
theorem Qh:env.fn 102=some ([(.sl ae),.aq,bD],(.aP (.int .i64) .bool)):=rfl
theorem Qi:env.fn 137=some ([(.sl ak),bD,(.fh 138 (.ptr .aq))],(.aP (.int .i64) .bool)):=rfl
theorem Qj:env.fn 138=some ([ak,bD,(.ptr .aq)],(.int .i64)):=rfl
theorem Qk:env.fn 140=some ([(.sl ae),bD,(.fh 141 (.ptr .aq))],(.aP (.int .i64) .bool)):=rfl
theorem Ql:env.fn 141=some ([ae,bD,(.ptr .aq)],(.int .i64)):=rfl
theorem WT:env.fn 25=none:=rfl
theorem Qm:env.cC 25=some [some (.sl ae)]:=rfl
theorem WU:env.fn 26=none:=rfl
theorem Qn:env.cC 26=some [none,none]:=rfl
theorem WV:env.fn 40=none:=rfl
theorem Qo:env.cC 40=some [none,some .str]:=rfl
theorem WW:env.fn 41=none:=rfl
theorem Qp:env.cC 41=some [none,some (.int .u8)]:=rfl
theorem WX:env.fn 42=none:=rfl
theorem Qq:env.cC 42=some [none]:=rfl
theorem WY:env.fn 54=none:=rfl
theorem Qr:env.cC 54=some [some (.sl ae),none]:=rfl
theorem WZ:env.fn 55=none:=rfl
theorem Qs:env.cC 55=some [some ae,none]:=rfl
theorem W0:env.fn 56=none:=rfl
theorem Qt:env.cC 56=some [some (.sl ak),none]:=rfl
theorem W1:env.fn 57=none:=rfl
theorem Qu:env.cC 57=some [some ak,none]:=rfl
theorem W2:env.fn 66=none:=rfl
theorem Qv:env.cC 66=some [none,some (.int .i64),some (.int .i64),some (.int .i64),none]:=rfl
theorem W3:env.fn 77=none:=rfl
theorem Qw:env.cC 77=some [some ak,none]:=rfl
theorem W4:env.fn 80=none:=rfl
theorem Qx:env.cC 80=some [some ak,none]:=rfl
theorem W5:env.fn 83=none:=rfl
theorem Qy:env.cC 83=some [none]:=rfl
theorem W6:env.fn 99=none:=rfl
theorem Qz:env.cC 99=some [some ak,none,none]:=rfl
theorem QA:env.fn 100=none:=rfl
theorem Jt:env.cC 100=some [some (.sl ak),none]:=rfl
theorem QB:env.fn 109=none:=rfl
theorem Ju:env.cC 109=some [none,some (.int .i64),some (.int .i64),none]:=rfl
theorem QC:env.fn 122=none:=rfl
theorem Jv:env.cC 122=some [none,some .str]:=rfl
theorem QD:env.fn 124=none:=rfl
theorem Jw:env.cC 124=some [none,some .str]:=rfl
theorem QE:env.fn 125=none:=rfl
theorem Jx:env.cC 125=some [none,some .str]:=rfl
theorem QF:env.fn 126=none:=rfl
theorem Jy:env.cC 126=some [none,some .str]:=rfl
theorem QG:env.fn 127=none:=rfl
theorem Jz:env.cC 127=some [none,some .str]:=rfl
theorem QH:env.fn 128=none:=rfl
theorem JA:env.cC 128=some [none,some .str]:=rfl
theorem QI:env.fn 131=none:=rfl
theorem JB:env.cC 131=some [none,some (.int .i64)]:=rfl
theorem QJ:env.fn 139=none:=rfl
theorem JC:env.cC 139=some [none,some (.int .i64)]:=rfl
theorem az7:env.P.funcs[2]?=some Tryz.f2:=rfl
theorem C5:env.P.funcs[3]?=some Tryz.f3:=rfl
theorem az8:env.P.funcs[4]?=some Tryz.f4:=rfl
theorem ap7:env.P.funcs[5]?=some Tryz.f5:=rfl
theorem ab4:env.P.funcs[6]?=some Tryz.f6:=rfl
theorem ab5:env.P.funcs[7]?=some Tryz.f7:=rfl
theorem ap8:env.P.funcs[8]?=some Tryz.f8:=rfl
theorem ap9:env.P.funcs[9]?=some Tryz.f9:=rfl
theorem R8:env.P.funcs[10]?=some Tryz.f10:=rfl
theorem R9:env.P.funcs[11]?=some Tryz.f11:=rfl
theorem Sa:env.P.funcs[12]?=some Tryz.f12:=rfl
theorem ax6:env.P.funcs[13]?=some Tryz.f13:=rfl
theorem JD:env.P.funcs[14]?=some Tryz.f14:=rfl
theorem ab6:env.P.funcs[15]?=some Tryz.f15:=rfl
theorem ax7:env.P.funcs[16]?=some Tryz.f16:=rfl
theorem Sb:env.P.funcs[17]?=some Tryz.f17:=rfl
theorem ab7:env.P.funcs[18]?=some Tryz.f18:=rfl
theorem ab8:env.P.funcs[19]?=some Tryz.f19:=rfl
theorem ab9:env.P.funcs[20]?=some Tryz.f20:=rfl
theorem Sc:env.P.funcs[21]?=some Tryz.f21:=rfl
theorem ac0:env.P.funcs[22]?=some Tryz.f22:=rfl
theorem Sd:env.P.funcs[23]?=some Tryz.f23:=rfl
theorem ac1:env.P.funcs[24]?=some Tryz.f24:=rfl
theorem Se:env.P.funcs[25]?=some Tryz.f25:=rfl
theorem Sf:env.P.funcs[26]?=some Tryz.f26:=rfl
theorem ac2:env.P.funcs[27]?=some Tryz.f27:=rfl
theorem Sg:env.P.funcs[28]?=some Tryz.f28:=rfl
theorem ac3:env.P.funcs[29]?=some Tryz.f29:=rfl
theorem ac4:env.P.funcs[30]?=some Tryz.f30:=rfl
theorem ac5:env.P.funcs[31]?=some Tryz.f31:=rfl
theorem Sh:env.P.funcs[32]?=some Tryz.f32:=rfl
theorem Si:env.P.funcs[33]?=some Tryz.f33:=rfl
theorem ax8:env.P.funcs[34]?=some Tryz.f34:=rfl
theorem ax9:env.P.funcs[35]?=some Tryz.f35:=rfl
theorem ac6:env.P.funcs[36]?=some Tryz.f36:=rfl
theorem JE:env.P.funcs[37]?=some Tryz.f37:=rfl
theorem ac7:env.P.funcs[38]?=some Tryz.f38:=rfl
theorem ay0:env.P.funcs[39]?=some Tryz.f39:=rfl
theorem Sj:env.P.funcs[40]?=some Tryz.f40:=rfl
theorem ac8:env.P.funcs[41]?=some Tryz.f41:=rfl
theorem ay1:env.P.funcs[42]?=some Tryz.f42:=rfl
theorem ac9:env.P.funcs[43]?=some Tryz.f43:=rfl
theorem ad0:env.P.funcs[44]?=some Tryz.f44:=rfl
theorem ay2:env.P.funcs[45]?=some Tryz.f45:=rfl
theorem ad1:env.P.funcs[46]?=some Tryz.f46:=rfl
theorem ad2:env.P.funcs[47]?=some Tryz.f47:=rfl
theorem Sk:env.P.funcs[48]?=some Tryz.f48:=rfl
theorem ad3:env.P.funcs[49]?=some Tryz.f49:=rfl
theorem ad4:env.P.funcs[50]?=some Tryz.f50:=rfl
theorem Sl:env.P.funcs[51]?=some Tryz.f51:=rfl
theorem ad5:env.P.funcs[52]?=some Tryz.f52:=rfl
theorem Sm:env.P.funcs[53]?=some Tryz.f53:=rfl
theorem Sn:env.P.funcs[54]?=some Tryz.f54:=rfl
theorem ad6:env.P.funcs[55]?=some Tryz.f55:=rfl
theorem EA:env.P.funcs[56]?=some Tryz.f56:=rfl
theorem ad7:env.P.funcs[57]?=some Tryz.f57:=rfl
theorem ad8:env.P.funcs[58]?=some Tryz.f58:=rfl
theorem So:env.P.funcs[59]?=some Tryz.f59:=rfl
theorem ad9:env.P.funcs[60]?=some Tryz.f60:=rfl
theorem ae0:env.P.funcs[61]?=some Tryz.f61:=rfl
theorem ae1:env.P.funcs[62]?=some Tryz.f62:=rfl
theorem ae2:env.P.funcs[63]?=some Tryz.f63:=rfl
theorem ae3:env.P.funcs[64]?=some Tryz.f64:=rfl
theorem ae4:env.P.funcs[65]?=some Tryz.f65:=rfl
theorem EB:env.P.funcs[66]?=some Tryz.f66:=rfl
theorem ae5:env.P.funcs[67]?=some Tryz.f67:=rfl
theorem ae6:env.P.funcs[68]?=some Tryz.f68:=rfl
theorem ae7:env.P.funcs[69]?=some Tryz.f69:=rfl
theorem ay3:env.P.funcs[70]?=some Tryz.f70:=rfl
theorem ay4:env.P.funcs[71]?=some Tryz.f71:=rfl
theorem ay5:env.P.funcs[72]?=some Tryz.f72:=rfl
theorem ae8:env.P.funcs[73]?=some Tryz.f73:=rfl
theorem ae9:env.P.funcs[74]?=some Tryz.f74:=rfl
theorem ay6:env.P.funcs[75]?=some Tryz.f75:=rfl
theorem A0:env.P.funcs[76]?=some Tryz.f76:=rfl
theorem af0:env.P.funcs[77]?=some Tryz.f77:=rfl
theorem Sp:env.P.funcs[78]?=some Tryz.f78:=rfl
theorem af1:env.P.funcs[79]?=some Tryz.f79:=rfl
theorem af2:env.P.funcs[80]?=some Tryz.f80:=rfl
theorem EC:env.P.funcs[81]?=some Tryz.f81:=rfl
theorem ay7:env.P.funcs[82]?=some Tryz.f82:=rfl
theorem ay8:env.P.funcs[83]?=some Tryz.f83:=rfl
theorem af3:env.P.funcs[84]?=some Tryz.f84:=rfl
theorem af4:env.P.funcs[85]?=some Tryz.f85:=rfl
theorem af5:env.P.funcs[86]?=some Tryz.f86:=rfl
theorem af6:env.P.funcs[87]?=some Tryz.f87:=rfl
theorem af7:env.P.funcs[88]?=some Tryz.f88:=rfl
theorem af8:env.P.funcs[89]?=some Tryz.f89:=rfl
theorem af9:env.P.funcs[90]?=some Tryz.f90:=rfl
theorem ag0:env.P.funcs[91]?=some Tryz.f91:=rfl
theorem ag1:env.P.funcs[92]?=some Tryz.f92:=rfl
theorem ag2:env.P.funcs[93]?=some Tryz.f93:=rfl
theorem ag3:env.P.funcs[94]?=some Tryz.f94:=rfl
theorem ag4:env.P.funcs[95]?=some Tryz.f95:=rfl
theorem ag5:env.P.funcs[96]?=some Tryz.f96:=rfl
theorem ay9:env.P.funcs[97]?=some Tryz.f97:=rfl
theorem az0:env.P.funcs[98]?=some Tryz.f98:=rfl
theorem ag6:env.P.funcs[99]?=some Tryz.f99:=rfl
theorem ml:env.P.funcs[100]?=some Tryz.f100:=rfl
theorem W7:env.P.funcs[101]?=some Tryz.f101:=rfl
theorem W8:env.P.funcs[102]?=some Tryz.f102:=rfl
theorem W9:env.P.funcs[103]?=some Tryz.f103:=rfl
theorem JF:env.P.funcs[104]?=some Tryz.f104:=rfl
theorem JG:env.P.funcs[105]?=some Tryz.f105:=rfl
theorem Xa:env.P.funcs[106]?=some Tryz.f106:=rfl
theorem JH:env.P.funcs[107]?=some Tryz.f107:=rfl
theorem JI:env.P.funcs[108]?=some Tryz.f108:=rfl
theorem ot:env.P.funcs[109]?=some Tryz.f109:=rfl
theorem aq0:env.P.funcs[110]?=some Tryz.f110:=rfl
theorem aq1:env.P.funcs[111]?=some Tryz.f111:=rfl
theorem aq2:env.P.funcs[112]?=some Tryz.f112:=rfl
theorem aq3:env.P.funcs[113]?=some Tryz.f113:=rfl
theorem aq4:env.P.funcs[114]?=some Tryz.f114:=rfl
theorem aq5:env.P.funcs[115]?=some Tryz.f115:=rfl
theorem aq6:env.P.funcs[116]?=some Tryz.f116:=rfl
theorem aq7:env.P.funcs[117]?=some Tryz.f117:=rfl
theorem Xb:env.P.funcs[118]?=some Tryz.f118:=rfl
theorem aq8:env.P.funcs[119]?=some Tryz.f119:=rfl
theorem aq9:env.P.funcs[120]?=some Tryz.f120:=rfl
theorem JJ:env.P.funcs[122]?=some Tryz.f122:=rfl
theorem yt:env.P.funcs[123]?=some Tryz.f123:=rfl
theorem JK:env.P.funcs[124]?=some Tryz.f124:=rfl
theorem JL:env.P.funcs[125]?=some Tryz.f125:=rfl
theorem JM:env.P.funcs[126]?=some Tryz.f126:=rfl
theorem JN:env.P.funcs[127]?=some Tryz.f127:=rfl
theorem JO:env.P.funcs[128]?=some Tryz.f128:=rfl
theorem ar0:env.P.funcs[129]?=some Tryz.f129:=rfl
theorem ar1:env.P.funcs[130]?=some Tryz.f130:=rfl
theorem Xc:env.P.funcs[131]?=some Tryz.f131:=rfl
theorem ar2:env.P.funcs[132]?=some Tryz.f132:=rfl
theorem ar3:env.P.funcs[133]?=some Tryz.f133:=rfl
theorem ar4:env.P.funcs[134]?=some Tryz.f134:=rfl
theorem JP:env.P.funcs[136]?=some Tryz.f136:=rfl
theorem ar5:env.P.funcs[137]?=some Tryz.f137:=rfl
theorem ar6:env.P.funcs[138]?=some Tryz.f138:=rfl
theorem ar7:env.P.funcs[139]?=some Tryz.f139:=rfl
theorem JQ:env.P.funcs[140]?=some Tryz.f140:=rfl
theorem Xd:env.P.funcs[141]?=some Tryz.f141:=rfl
theorem Xe:env.P.funcs[142]?=some Tryz.f142:=rfl
theorem Xf:env.P.funcs[143]?=some Tryz.f143:=rfl
theorem Xg:env.P.funcs[144]?=some Tryz.f144:=rfl
theorem Xh:env.P.funcs[145]?=some Tryz.f145:=rfl
theorem ar8:env.P.funcs[146]?=some Tryz.f146:=rfl
theorem ar9:env.P.funcs[147]?=some Tryz.f147:=rfl
theorem as0:env.P.funcs[148]?=some Tryz.f148:=rfl
theorem as1:env.P.funcs[149]?=some Tryz.f149:=rfl
theorem as2:env.P.funcs[150]?=some Tryz.f150:=rfl
theorem as3:env.P.funcs[152]?=some Tryz.f152:=rfl
theorem as4:env.P.funcs[153]?=some Tryz.f153:=rfl
theorem as5:env.P.funcs[154]?=some Tryz.f154:=rfl
theorem as6:env.P.funcs[155]?=some Tryz.f155:=rfl
theorem as7:env.P.funcs[156]?=some Tryz.f156:=rfl
theorem Xi:env.P.funcs[157]?=some Tryz.f157:=rfl
theorem Xj:env.P.funcs[158]?=some Tryz.f158:=rfl
theorem JR:env.P.funcs[159]?=some Tryz.f159:=rfl
theorem as8:env.P.funcs[160]?=some Tryz.f160:=rfl
theorem as9:env.P.funcs[161]?=some Tryz.f161:=rfl
theorem at0:env.P.funcs[162]?=some Tryz.f162:=rfl
theorem at1:env.P.funcs[163]?=some Tryz.f163:=rfl
theorem at2:env.P.funcs[164]?=some Tryz.f164:=rfl
theorem at3:env.P.funcs[165]?=some Tryz.f165:=rfl
theorem at4:env.P.funcs[167]?=some Tryz.f167:=rfl
theorem at5:env.P.funcs[168]?=some Tryz.f168:=rfl
theorem at6:env.P.funcs[169]?=some Tryz.f169:=rfl
theorem at7:env.P.funcs[170]?=some Tryz.f170:=rfl
theorem au0:env.P.funcs[172]?=some Tryz.f172:=rfl
theorem au1:env.P.funcs[196]?=some Tryz.f196:=rfl
attribute[go_sem]MY Z7 Z8 Z9 aa0 aa1 aa2 aa3 aa4 aa5 Ui Uj Uk Ul Um Un Uo Up Uq Ur Us Ut Uu Uv Uw Ux Uy Uz UA UB UC UD UE UF UG UH UI UJ UK UL UM UN UO UP UQ UR US UT UU UW UX UY UZ U0 U1 U2 U3 U4 U5 U6 U7 U8 U9 Va Vb Vc Vd Ve Vf Vg Vh Vi Vj Vk Vl Vm Vn Vo Vp Vq Vr Vs Vt Vu Vv MZ M0 M1 M3 M4 M5 M6 M7 M8 M9 Na Nb Nc Nd Nf Ng Nh Ni Nj Nk Nl Nn No Np Nq Nr Ns Nt Nu Nv Nw Nx Ny Nz NA NB NC ND NF NG NH NI NJ NK NL NM NN NO NP NQ NR NS NT NU NV NW NX NY NZ N0 N1 N2 N3 N4 N5 N6 N7 N8 N9 Oa Ob Oc Od Oe Of Og Oh Oi Oj Ok Ol Om On Oo Oq Ot Ou Ov Ow Ox Oy Oz OA OB OC OD OE OF OG OH OI OJ OK OL OM ON OO Vw Vx OP OQ OR OS OT OU OV OW OX OY OZ O0 O1 O2 O3 O4 I8 I9 Ja Jb Jc Jd Je Jf Jg Jh Ji Jj O5 O6 O7 O8 Jk Jl Jm Vy Vz O9 Pa Pb Pc Pd Pe Pf Pg Ph Pj Pk Pl Jo Jp Jq Jr Js aa6 aa7 aa8 aa9 ab0 ab1 ab2 ab3 VA VB VC VD VE VF VG VH VI VJ VK VL VM VN VO VP VQ VR VS VT VV VW VX VY VZ V0 V1 V3 V4 V5 V6 V7 V8 V9 Wa Wb Wc Wd We Wf Wg Wh Wi Wj Wk Wl Wm Wn Wo Wp Wq Wr Ws Wt Wu Wv Ww Wx Wy Wz WA WB Pm Pn Po Pp Pq Pr Ps Pt Pu Pv Pw Px Py Pz PA PE PF PG PI PM PR PT PU PY PZ P1 P2 P3 P4 P5 P6 P7 P8 P9 Qa Qb Qc Qd Qe Qf Qg WC WD WE WG WH WJ WK WL WM WN WO WQ WR WS Qh Qi Qj Qk Ql WT Qm WU Qn WV Qo WW Qp WX Qq WY Qr WZ Qs W0 Qt W1 Qu W2 Qv W3 Qw W4 Qx W5 Qy W6 Qz QA Jt QB Ju QC Jv QD Jw QE Jx QF Jy QG Jz QH JA QI JB QJ JC Uh Z1 Uf Z0 Ug Z2 Z5 Z6 Z3 Z4
instance drI:hZ False:=⟨⟩
end Go.Proofs.YtmgmonbmdkkhbaaGreatDoor
namespace Go.Proofs.YtmgmonbmdkkhbaaGreatDoor
attribute[local go_sem←]Bool.decide_and Bool.decide_or decide_not
variable {c8:Prop} [hZ c8]
set_option maxHeartbeats 4000000
set_option maxRecDepth 100000
theorem aH {x:Int} (h: -9223372036854775808≤x)(h':x≤9223372036854775807):IntKind.i64.min≤x∧x≤IntKind.i64.max:=⟨h,h'⟩
theorem Xk {x:Int} (h:IntKind.i64.min≤x∧x≤IntKind.i64.max): -9223372036854775808≤x∧x≤9223372036854775807:=h
theorem rK {x:Int} (h:IntKind.u8.min≤x∧x≤IntKind.u8.max):0≤x∧x≤255:=h
theorem drop_cons {α:Type} {xs:List α} {i:Nat} {x:α} (h:xs[i]?=some x):xs.drop i=x::xs.drop (i+1):=by obtain⟨hi,e⟩:=List.getElem?_eq_some_iff.1 h;rw[List.drop_eq_getElem_cons hi,e]
theorem bA {α:Type} {xs:List α} {i:Nat} {x:α} (h:xs[i]?=some x):xs.take (i+1)=xs.take i++ [x]:=by rw[List.take_add_one,h];rfl
theorem ax {α:Type} {xs:List α} {i:Nat} (h:i<xs.length): ∃x,xs[i]?=some x:=⟨_,List.getElem?_eq_getElem h⟩
theorem ED(a:Int):PC env 68 [⟨.int .i64,a⟩] .bool false:=by
 refine PC.ao (m:=2000) ah ae6 rfl rfl rfl rfl (by kernel_rfl) ?_;intro hx;simp only[Tryz.f68];simp only[go_sem,zA,↓reduceIte,↓reduceDIte,zB,zC,zD,zE,zF,zG,zH,zI]
def mn(a b:Int):Int:=if a<b then-1 else if b<a then 1 else 0
theorem jY(a b:Int):PC env 29 [⟨.int .i64,a⟩,⟨.int .i64,b⟩] (.int .i64) (mn a b):=by
 refine PC.ao (m:=2000) ah ac3 rfl rfl rfl rfl (by kernel_rfl) ?_;intro hx;simp only[Tryz.f29];simp only[go_sem,zA,↓reduceIte,↓reduceDIte,zB,zC,zD,zE,zF,zG,zH,zI]
 refine⟨_,ED a,?_⟩;simp only[go_sem,zA,↓reduceIte,↓reduceDIte,zB,zC,zD,zE,zF,zG,zH,zI];refine⟨_,ED b,?_⟩;simp only[go_sem,zA,↓reduceIte,↓reduceDIte,zB,zC,zD,zE,zF,zG,zH,zI]
 unfold mn;refine⟨fun h=>?_,fun h=>⟨fun h'=>?_,fun h'=>?_⟩⟩;(·rw[if_pos h]);(·rw[if_neg h,if_pos h']);·rw[if_neg h,if_neg h']
theorem Xl(xs:List Int):PC env 28 [⟨.sl (.int .i64),xs⟩] (.int .i64) ((xs.find? (·≠0)).getD 0):=by
 refine PC.ao (m:=2000) ah Sg rfl rfl rfl rfl (by kernel_rfl) ?_;intro hx;simp only[Tryz.f28];simp only[go_sem,zA,↓reduceIte,↓reduceDIte,zB,zC,zD,zE,zF,zG,zH,zI]
 refine av.jA (X:=Nat) (fun i=>⟨[(8,.iv (.int .i64) (i:Int)),(7,.iv (.int .i64) (xs.length:Int)),(6,.iv (.sl (.int .i64)) xs),(3,.iv (.int .i64) (0:Int))],[]⟩) (fun i=>i≤xs.length∧(xs.take i).find? (·≠0)=none) (fun i=>xs.length-i) 0 (by refine⟨?_,?_,rfl,rfl⟩<;>repeat' (first|exact trivial|exact Or.inl rfl|exact Or.inr rfl|apply cV|apply cW|apply cX|apply cY|exact⟨(by show(_:Nat)<1000000000;omega),rfl,rfl⟩|rfl|(refine And.intro (Or.inl ?_) ?_)|(refine And.intro ?_ ?_))) ⟨Nat.zero_le _,rfl⟩ ?_
 intro i⟨hi,hb⟩back;refine ay ah ⟨_,Sg,rfl⟩ 2000 _ _ (by kernel_rfl) ?_;simp only[go_sem,zA,↓reduceIte,↓reduceDIte,zB,zC,zD,zE,zF,zG,zH,zI];refine⟨fun h=>?_,fun h=>?_⟩
 (·obtain⟨x,cJ⟩: ∃x,xs[i]?=some x:=ax (by omega);refine⟨by omega,x,cJ,fun h'=>?_,fun h'=>⟨?_,?_⟩⟩;(·(have:xs.find? (·≠0)=some x:=by rw[←List.take_append_drop i xs,List.find?_append,hb,drop_cons cJ];simp[h']);rw[this];rfl);(·simp only[Lo,Ty.ok]at hx;exact aH (by omega) (by omega));·refine back _ (i+1) (by refine⟨?_,?_,rfl,rfl⟩<;>repeat' (first|exact trivial|exact Or.inl rfl|exact Or.inr rfl|apply cV|apply cW|apply cX|apply cY|exact⟨(by show(_:Nat)<1000000000;omega),rfl,rfl⟩|rfl|(refine And.intro (Or.inl ?_) ?_)|(refine And.intro ?_ ?_))) ⟨by omega,?_⟩ (by omega);rw[List.take_add_one,List.find?_append,hb,cJ];simp[h'])
 ·have e:xs.take i=xs:=List.take_of_length_le (by omega);rw[e]at hb;rw[hb];rfl
def kV(x y:Int×Int):Int:=if mn x.1 y.1≠0 then mn x.1 y.1 else mn x.2 y.2
theorem JS(x y:Int×Int):PC env 31 [⟨bD,x⟩,⟨bD,y⟩] (.int .i64) (kV x y):=by
 refine PC.ao (m:=2000) ah ac5 rfl rfl rfl rfl (by kernel_rfl) ?_;intro hx;simp only[Tryz.f31];simp only[go_sem,zA,↓reduceIte,↓reduceDIte,zB,zC,zD,zE,zF,zG,zH,zI]
 refine⟨_,jY _ _,fun _=>⟨_,jY _ _,fun _=>⟨_,Xl _,fun _=>?_⟩⟩⟩;unfold kV;by_cases h:mn x.1 y.1=0<;>by_cases h':mn x.2 y.2=0<;>simp[h,h']
abbrev Rec:=Int×Int×Int×List UInt8×Int×Int
abbrev aS:=Int×Int×Int×Int×List UInt8×Int×Int
abbrev L8:=Int×Int×Int×Int×Int×Int×Int×Int
abbrev cn:=List Rec×List aS×L8
theorem A1(r:Rec):PC env 30 [⟨ae,r⟩] bD (r.1,r.2.1):=by
 refine PC.ao (m:=2000) ah ac4 rfl rfl rfl rfl (by kernel_rfl) ?_;intro hx;simp only[Tryz.f30];simp only[go_sem,zA,↓reduceIte,↓reduceDIte,zB,zC,zD,zE,zF,zG,zH,zI]
theorem ag7(o:aS):PC env 46 [⟨ak,o⟩] bD (o.1,o.2.1):=by
 refine PC.ao (m:=2000) ah ad1 rfl rfl rfl rfl (by kernel_rfl) ?_;intro hx;simp only[Tryz.f46];simp only[go_sem,zA,↓reduceIte,↓reduceDIte,zB,zC,zD,zE,zF,zG,zH,zI]
theorem dT(v a b:Int):PC env 88 [⟨.int .i64,v⟩,⟨.int .i64,a⟩,⟨.int .i64,b⟩] .bool (decide (a≤v∧v≤b)):=by
 refine PC.ao (m:=2000) ah af7 rfl rfl rfl rfl (by kernel_rfl) ?_;intro hx;simp only[Tryz.f88];simp only[go_sem,zA,↓reduceIte,↓reduceDIte,zB,zC,zD,zE,zF,zG,zH,zI]
 refine⟨fun h=>?_,fun h=>?_⟩;(·congr 1;simp[h]);·symm;simp;omega
theorem QK(v a b:Int):PC env 142 [⟨.int .i64,v⟩,⟨.int .i64,a⟩,⟨.int .i64,b⟩] .bool (decide (a≤v∧v≤b)):=by
 refine PC.ao (m:=2000) ah Xe rfl rfl rfl rfl (by kernel_rfl) ?_;intro hx;simp only[Tryz.f142];simp only[go_sem,zA,↓reduceIte,↓reduceDIte,zB,zC,zD,zE,zF,zG,zH,zI]
 refine⟨fun h=>?_,fun h=>?_⟩;(·congr 1;simp;omega);·symm;simp;omega
theorem au2(v a b:Int):PC env 158 [⟨.int .i64,v⟩,⟨.int .i64,a⟩,⟨.int .i64,b⟩] .bool (decide (a≤v∧v≤b)):=by
 refine PC.ao (m:=2000) ah Xj rfl rfl rfl rfl (by kernel_rfl) ?_;intro hx;simp only[Tryz.f158];simp only[go_sem,zA,↓reduceIte,↓reduceDIte,zB,zC,zD,zE,zF,zG,zH,zI]
 refine⟨fun h=>?_,fun h=>?_⟩;(·congr 1;simp;omega);·symm;simp;omega
theorem JT(p:Int×Int)(e:Int):PC env 96 [⟨bD,p⟩,⟨.int .i64,e⟩] .bool (decide ((0≤p.1∧p.1≤7)∧(1≤p.2∧p.2≤1000000)∧(0≤e∧e≤10000))):=by
 refine PC.ao (m:=2000) ah ag5 rfl rfl rfl rfl (by kernel_rfl) ?_;intro hx;simp only[Tryz.f96];simp only[go_sem,zA,↓reduceIte,↓reduceDIte,zB,zC,zD,zE,zF,zG,zH,zI]
 (repeat' (first|(with_reducible intro _)|(with_reducible apply And.intro)|(with_reducible refine⟨_,dT _ _ _,?_⟩;try simp only[go_sem,zA,↓reduceIte,↓reduceDIte,zB,zC,zD,zE,zF,zG,zH,zI])|fail))
 all_goals first|(symm;simp;omega)|exact⟨_,dT _ _ _,by simp_all⟩|(simp_all;done)|(clear hx;simp_all;omega)|trace_state
end Go.Proofs.YtmgmonbmdkkhbaaGreatDoor
namespace Go.Proofs.YtmgmonbmdkkhbaaGreatDoor
attribute[local go_sem←]Bool.decide_and Bool.decide_or decide_not
set_option maxHeartbeats 4000000
set_option maxRecDepth 100000
def uL(c:Int):Int:=if 97≤c∧c≤122 then 1 else if 65≤c∧c≤90 then 2 else if 48≤c∧c≤57 then 3 else 0
theorem QL(c:Int):PC env 157 [⟨.int .u8,c⟩] (.int .i64) (uL c):=by
 refine PC.ao (m:=2000) ah Xi rfl rfl rfl rfl (by kernel_rfl) ?_;intro hx;simp only[Tryz.f157];simp only[go_sem,zA,↓reduceIte,↓reduceDIte,zB,zC,zD,zE,zF,zG,zH,zI]
 unfold uL;(repeat' (first|(with_reducible intro _)|(with_reducible apply And.intro)));all_goals(repeat' split)<;>first|rfl|omega
def ze(u:UInt8):Bool:=decide (uL u.toNat≠0)
theorem mq {α:Type} {xs:List α} {i:Nat} {x:α} {p:α→Bool} (h:xs[i]?=some x):(xs.take (i+1)).all p=((xs.take i).all p&&p x):=by rw[bA h,List.all_append];simp
theorem C6 {α:Type} {xs:List α} {i:Nat} {x:α} {p:α→Bool} (h:xs[i]?=some x)(hp:p x=false):xs.all p=false:=by rw[List.all_eq_false];exact⟨x,List.mem_of_getElem? h,by simp[hp]⟩
theorem EE(s:List UInt8):PC env 136 [⟨.str,s⟩] .bool (s.all ze):=by
 refine PC.ao (m:=2000) ah JP rfl rfl rfl rfl (by kernel_rfl) ?_;intro hx;simp only[Tryz.f136];simp only[go_sem,zA,↓reduceIte,↓reduceDIte,zB,zC,zD,zE,zF,zG,zH,zI]
 refine av.jA (X:=Nat) (fun i=>⟨[(6,.iv (.int .i64) (i:Int)),(5,.iv (.int .i64) (s.length:Int)),(0,.iv .str s)],[]⟩) (fun i=>i≤s.length∧(s.take i).all ze=true) (fun i=>s.length-i) 0 (by refine⟨?_,?_,rfl,rfl⟩<;>repeat' (first|exact trivial|exact Or.inl rfl|exact Or.inr rfl|apply cV|apply cW|apply cX|apply cY|exact⟨(by show(_:Nat)<1000000000;omega),rfl,rfl⟩|rfl|(refine And.intro (Or.inl ?_) ?_)|(refine And.intro ?_ ?_))) ⟨Nat.zero_le _,rfl⟩ ?_
 intro i⟨hi,hb⟩back;refine ay ah ⟨_,JP,rfl⟩ 2000 _ _ (by kernel_rfl) ?_;simp only[go_sem,zA,↓reduceIte,↓reduceDIte,zB,zC,zD,zE,zF,zG,zH,zI];refine⟨fun h=>?_,fun h=>?_⟩
 (·obtain⟨x,cJ⟩: ∃x,s[i]?=some x:=ax (by omega);have hlen:s.length≤9223372036854775807:=hx.1;refine⟨Int.natCast_nonneg i,_,⟨x,cJ,rfl⟩,_,QL _,fun _=>⟨fun h'=>?_,fun h'=>⟨?_,?_⟩⟩⟩;(·exact(C6 (p:=ze) cJ (by simp[ze,h'])).symm);(·exact aH (by omega) (by omega));·refine back _ (i+1) (by refine⟨?_,?_,rfl,rfl⟩<;>repeat' (first|exact trivial|exact Or.inl rfl|exact Or.inr rfl|apply cV|apply cW|apply cX|apply cY|exact⟨(by show(_:Nat)<1000000000;omega),rfl,rfl⟩|rfl|(refine And.intro (Or.inl ?_) ?_)|(refine And.intro ?_ ?_))) ⟨by omega,?_⟩ (by omega);rw[mq cJ,hb];simp[ze,h'])
 ·have e:s.take i=s:=List.take_of_length_le (by omega);rw[e]at hb;rw[hb]
def ej(s:List UInt8):Bool:=decide (1≤s.length∧s.length≤20)&&s.all ze
theorem yu(s:List UInt8):PC env 85 [⟨.str,s⟩] .bool (ej s):=by
 refine PC.ao (m:=2000) ah af4 rfl rfl rfl rfl (by kernel_rfl) ?_;intro hx;simp only[Tryz.f85];simp only[go_sem,zA,↓reduceIte,↓reduceDIte,zB,zC,zD,zE,zF,zG,zH,zI]
 unfold ej;(repeat' (first|(with_reducible intro _)|(with_reducible apply And.intro)|(with_reducible refine⟨_,EE _,?_⟩;try simp only[go_sem,zA,↓reduceIte,↓reduceDIte,zB,zC,zD,zE,zF,zG,zH,zI])|fail))
 all_goals first|exact⟨_,EE _,by simp_all;omega⟩|(symm;simp;omega)
theorem JU(u:UInt8):ze u=true↔ ¬((((u.toNat:Int)<97∨(122:Int)<u.toNat)∧((u.toNat:Int)<65∨(90:Int)<u.toNat))∧((u.toNat:Int)<48∨(57:Int)<u.toNat)):=by
 unfold ze uL;rw[decide_eq_true_eq];(repeat' split);all_goals omega
theorem EF(s:List UInt8):PC env 159 [⟨.str,s⟩] .bool (s.all ze):=by
 refine PC.ao (m:=2000) ah JR rfl rfl rfl rfl (by kernel_rfl) ?_;intro hx;simp only[Tryz.f159];simp only[go_sem,zA,↓reduceIte,↓reduceDIte,zB,zC,zD,zE,zF,zG,zH,zI]
 refine av.jA (X:=Nat) (fun i=>⟨[(3,.iv (.int .i64) (i:Int)),(0,.iv .str s)],[]⟩) (fun i=>i≤s.length∧(s.take i).all ze=true) (fun i=>s.length-i) 0 (by refine⟨?_,?_,rfl,rfl⟩<;>repeat' (first|exact trivial|exact Or.inl rfl|exact Or.inr rfl|apply cV|apply cW|apply cX|apply cY|exact⟨(by show(_:Nat)<1000000000;omega),rfl,rfl⟩|rfl|(refine And.intro (Or.inl ?_) ?_)|(refine And.intro ?_ ?_))) ⟨Nat.zero_le _,rfl⟩ ?_
 intro i⟨hi,hb⟩back;refine ay ah ⟨_,JR,rfl⟩ 2000 _ _ (by kernel_rfl) ?_;simp only[go_sem,zA,↓reduceIte,↓reduceDIte,zB,zC,zD,zE,zF,zG,zH,zI];have hlen:s.length≤9223372036854775807:=hx.1
 refine⟨fun h=>?_,fun h=>?_⟩;(·obtain⟨x,cJ⟩: ∃x,s[i]?=some x:=ax (by omega);have lC:=JU x;refine⟨Int.natCast_nonneg i,_,⟨x,cJ,rfl⟩,?_⟩;cases hp:ze x with|false=>have vR:s.all ze=false:=C6 (p:=ze) cJ hp;rw[hp]at lC;simp only[Bool.false_eq_true,false_iff,Decidable.not_not]at lC;(repeat' (first|(with_reducible intro _)|(with_reducible apply And.intro)|fail));(all_goals first|exact vR.symm|(exfalso;omega))|true=>rw[hp]at lC;simp only[true_iff]at lC;(repeat' (first|(with_reducible intro _)|(with_reducible apply And.intro)|fail));all_goals first|omega|exact aH (by omega) (by omega)|exact back _ (i+1) (by refine⟨?_,?_,rfl,rfl⟩<;>repeat' (first|exact trivial|exact Or.inl rfl|exact Or.inr rfl|apply cV|apply cW|apply cX|apply cY|exact⟨(by show(_:Nat)<1000000000;omega),rfl,rfl⟩|rfl|(refine And.intro (Or.inl ?_) ?_)|(refine And.intro ?_ ?_))) ⟨by omega,by rw[mq cJ,hb,hp];rfl⟩ (by omega))
 ·have e:s.take i=s:=List.take_of_length_le (by omega);rw[e]at hb;rw[hb]
theorem EG(s:List UInt8):PC env 143 [⟨.str,s⟩] .bool (ej s):=by
 refine PC.ao (m:=2000) ah Xf rfl rfl rfl rfl (by kernel_rfl) ?_;intro hx;simp only[Tryz.f143];simp only[go_sem,zA,↓reduceIte,↓reduceDIte,zB,zC,zD,zE,zF,zG,zH,zI]
 unfold ej;refine⟨_,au2 _ _ _,?_⟩;simp only[go_sem,zA,↓reduceIte,↓reduceDIte,zB,zC,zD,zE,zF,zG,zH,zI];(repeat' (first|(with_reducible intro _)|(with_reducible apply And.intro)|(with_reducible refine⟨_,EF _,?_⟩;try simp only[go_sem,zA,↓reduceIte,↓reduceDIte,zB,zC,zD,zE,zF,zG,zH,zI])|fail))
 all_goals first|exact⟨_,EF _,by simp_all;omega⟩|(symm;simp;omega)
end Go.Proofs.YtmgmonbmdkkhbaaGreatDoor
namespace Go.Proofs.YtmgmonbmdkkhbaaGreatDoor
attribute[local go_sem←]Bool.decide_and Bool.decide_or decide_not
set_option maxHeartbeats 4000000
set_option maxRecDepth 100000
theorem bO:bytesOf ⟨#[]⟩=[]:=rfl
def fP:List (Int×(Nat×Nat)):=[(1,(84,86)),(2,(87,89)),(3,(90,91)),(4,(92,93)),(5,(94,95))]
theorem EH:PC env 43 [] (.mp (.int .i64) fg) fP:=by
 refine PC.ao (m:=2000) ah ac9 rfl rfl rfl rfl (by kernel_rfl) ?_;intro hx;simp only[Tryz.f43];simp only[go_sem,zA,↓reduceIte,↓reduceDIte,zB,zC,zD,zE,zF,zG,zH,zI,bO]
 simp[zk,jM,fP]
def rk1(o:aS):Bool:=decide ((ej o.2.2.2.2.1=true∧o.2.2.2.2.2.1=0)∧o.2.2.2.2.2.2=0)
theorem au3(o:aS):PC env 84 [⟨ak,o⟩] .bool (rk1 o):=by
 refine PC.ao (m:=2000) ah af3 rfl rfl rfl rfl (by kernel_rfl) ?_;intro hx;simp only[Tryz.f84];simp only[go_sem,zA,↓reduceIte,↓reduceDIte,zB,zC,zD,zE,zF,zG,zH,zI,bO]
 unfold rk1;refine⟨_,yu _,?_⟩;cases h:ej o.2.2.2.2.1;(·simp only[go_sem,zA,↓reduceIte,↓reduceDIte,zB,zC,zD,zE,zF,zG,zH,zI,bO];simp[h]);·simp only[go_sem,zA,↓reduceIte,↓reduceDIte,zB,zC,zD,zE,zF,zG,zH,zI,bO];(repeat' (first|(with_reducible intro _)|(with_reducible apply And.intro)|fail));all_goals(clear hx;simp_all)
theorem au4(o:aS)(r:Rec):PC env 86 [⟨ak,o⟩,⟨ae,r⟩] .bool (decide (r.2.2.2.1=o.2.2.2.2.1)):=by
 refine PC.ao (m:=2000) ah af5 rfl rfl rfl rfl (by kernel_rfl) ?_;intro hx;simp only[Tryz.f86];simp only[go_sem,zA,↓reduceIte,↓reduceDIte,zB,zC,zD,zE,zF,zG,zH,zI,bO]
def Sq(o:aS):Bool:=decide ((o.2.2.2.2.1=[]∧(0≤o.2.2.2.2.2.1∧o.2.2.2.2.2.1≤7))∧o.2.2.2.2.2.2=0)
theorem au5(o:aS):PC env 87 [⟨ak,o⟩] .bool (Sq o):=by
 refine PC.ao (m:=2000) ah af6 rfl rfl rfl rfl (by kernel_rfl) ?_;intro hx;simp only[Tryz.f87];simp only[go_sem,zA,↓reduceIte,↓reduceDIte,zB,zC,zD,zE,zF,zG,zH,zI,bO]
 unfold Sq;(repeat' (first|(with_reducible intro _)|(with_reducible apply And.intro)|(with_reducible refine⟨_,dT _ _ _,?_⟩;try simp only[go_sem,zA,↓reduceIte,↓reduceDIte,zB,zC,zD,zE,zF,zG,zH,zI,bO])|fail))
 all_goals first|(symm;simp;omega)|(clear hx;simp_all;done)|exact⟨_,dT _ _ _,by clear hx;simp_all⟩
theorem au6(o:aS)(r:Rec):PC env 89 [⟨ak,o⟩,⟨ae,r⟩] .bool (decide (r.2.2.2.2.1=o.2.2.2.2.2.1)):=by
 refine PC.ao (m:=2000) ah af8 rfl rfl rfl rfl (by kernel_rfl) ?_;intro hx;simp only[Tryz.f89];simp only[go_sem,zA,↓reduceIte,↓reduceDIte,zB,zC,zD,zE,zF,zG,zH,zI,bO]
theorem au7(o:aS):PC env 90 [⟨ak,o⟩] .bool (Sq o):=by
 refine PC.ao (m:=2000) ah af9 rfl rfl rfl rfl (by kernel_rfl) ?_;intro hx;simp only[Tryz.f90];simp only[go_sem,zA,↓reduceIte,↓reduceDIte,zB,zC,zD,zE,zF,zG,zH,zI,bO]
 unfold Sq;(repeat' (first|(with_reducible intro _)|(with_reducible apply And.intro)|(with_reducible refine⟨_,dT _ _ _,?_⟩;try simp only[go_sem,zA,↓reduceIte,↓reduceDIte,zB,zC,zD,zE,zF,zG,zH,zI,bO])|fail))
 all_goals first|(symm;simp;omega)|(clear hx;simp_all;done)|exact⟨_,dT _ _ _,by clear hx;simp_all⟩
theorem au8(o:aS)(r:Rec):PC env 91 [⟨ak,o⟩,⟨ae,r⟩] .bool (decide (r.1=o.2.2.2.2.2.1)):=by
 refine PC.ao (m:=2000) ah ag0 rfl rfl rfl rfl (by kernel_rfl) ?_;intro hx;simp only[Tryz.f91];simp only[go_sem,zA,↓reduceIte,↓reduceDIte,zB,zC,zD,zE,zF,zG,zH,zI,bO]
def rk4(o:aS):Bool:=decide ((o.2.2.2.2.1=[]∧(0≤o.2.2.2.2.2.1∧o.2.2.2.2.2.1≤o.2.2.1))∧o.2.2.2.2.2.2=0)
theorem au9(o:aS):PC env 92 [⟨ak,o⟩] .bool (rk4 o):=by
 refine PC.ao (m:=2000) ah ag1 rfl rfl rfl rfl (by kernel_rfl) ?_;intro hx;simp only[Tryz.f92];simp only[go_sem,zA,↓reduceIte,↓reduceDIte,zB,zC,zD,zE,zF,zG,zH,zI,bO]
 unfold rk4;(repeat' (first|(with_reducible intro _)|(with_reducible apply And.intro)|(with_reducible refine⟨_,dT _ _ _,?_⟩;try simp only[go_sem,zA,↓reduceIte,↓reduceDIte,zB,zC,zD,zE,zF,zG,zH,zI,bO])|fail))
 all_goals first|(symm;simp;omega)|(clear hx;simp_all;done)|exact⟨_,dT _ _ _,by clear hx;simp_all⟩
theorem av0(o:aS)(r:Rec):PC env 93 [⟨ak,o⟩,⟨ae,r⟩] .bool (decide (o.2.2.2.2.2.1≤r.2.2.1)):=by
 refine PC.ao (m:=2000) ah ag2 rfl rfl rfl rfl (by kernel_rfl) ?_;intro hx;simp only[Tryz.f93];simp only[go_sem,zA,↓reduceIte,↓reduceDIte,zB,zC,zD,zE,zF,zG,zH,zI,bO]
def rk5(o:aS):Bool:=decide ((o.2.2.2.2.1=[]∧(1≤o.2.2.2.2.2.1∧o.2.2.2.2.2.1≤1000000))∧(0≤o.2.2.2.2.2.2∧o.2.2.2.2.2.2≤7))
theorem av1(o:aS):PC env 94 [⟨ak,o⟩] .bool (rk5 o):=by
 refine PC.ao (m:=2000) ah ag3 rfl rfl rfl rfl (by kernel_rfl) ?_;intro hx;simp only[Tryz.f94];simp only[go_sem,zA,↓reduceIte,↓reduceDIte,zB,zC,zD,zE,zF,zG,zH,zI,bO]
 unfold rk5;(repeat' (first|(with_reducible intro _)|(with_reducible apply And.intro)|(with_reducible refine⟨_,dT _ _ _,?_⟩;try simp only[go_sem,zA,↓reduceIte,↓reduceDIte,zB,zC,zD,zE,zF,zG,zH,zI,bO])|fail))
 all_goals first|(symm;simp;omega)|(clear hx;simp_all;done)|exact⟨_,dT _ _ _,by clear hx;simp_all⟩
theorem av2(o:aS)(r:Rec):PC env 95 [⟨ak,o⟩,⟨ae,r⟩] .bool (decide (r.1=o.2.2.2.2.2.2∧r.2.1=o.2.2.2.2.2.1)):=by
 refine PC.ao (m:=2000) ah ag4 rfl rfl rfl rfl (by kernel_rfl) ?_;intro hx;simp only[Tryz.f95];simp only[go_sem,zA,↓reduceIte,↓reduceDIte,zB,zC,zD,zE,zF,zG,zH,zI,bO]
 (repeat' (first|(with_reducible intro _)|(with_reducible apply And.intro)|fail));all_goals(clear hx;simp_all)
def rk(o:aS):Bool:=if o.2.2.2.1=1 then rk1 o else if o.2.2.2.1=2 then Sq o else if o.2.2.2.1=3 then Sq o else if o.2.2.2.1=4 then rk4 o else if o.2.2.2.1=5 then rk5 o else false
def mr(o:aS)(r:Rec):Bool:=if o.2.2.2.1=1 then decide (r.2.2.2.1=o.2.2.2.2.1)else if o.2.2.2.1=2 then decide (r.2.2.2.2.1=o.2.2.2.2.2.1)else if o.2.2.2.1=3 then decide (r.1=o.2.2.2.2.2.1)else if o.2.2.2.1=4 then decide (o.2.2.2.2.2.1≤r.2.2.1)else if o.2.2.2.1=5 then decide (r.1=o.2.2.2.2.2.2∧r.2.1=o.2.2.2.2.2.1)else false
def aZ(o:aS):Bool:=decide ((0≤o.1∧o.1≤7)∧(1≤o.2.1∧o.2.1≤1000000)∧(0≤o.2.2.1∧o.2.2.1≤10000))&&rk o
def aD(r:Rec):Bool:=decide ((0≤r.1∧r.1≤7)∧(1≤r.2.1∧r.2.1≤1000000)∧(0≤r.2.2.1∧r.2.2.1≤10000))&&(ej r.2.2.2.1&&decide ((0≤r.2.2.2.2.1∧r.2.2.2.2.1≤7)∧(1≤r.2.2.2.2.2∧r.2.2.2.2.2≤1000)))
def bf(o:aS)(r:Rec):Bool:=decide (r.2.2.1≤o.2.2.1)&&mr o r
theorem A2 {k:Int} {v:Nat×Nat} (h:ga (jM (.int .i64)) fP k=some v):(k=1∧v=(84,86))∨(k=2∧v=(87,89))∨(k=3∧v=(90,91))∨(k=4∧v=(92,93))∨(k=5∧v=(94,95)):=by
 unfold fP at h;simp only[ga,jM,cond_eq_ite,decide_eq_true_eq]at h;(repeat' split at h);all_goals first|(cases h;done)|(injection h with h;subst h;simp_all)
theorem A3 {k:Int} (h:ga (jM (.int .i64)) fP k=none):k≠1∧k≠2∧k≠3∧k≠4∧k≠5:=by
 unfold fP at h;simp only[ga,jM,cond_eq_ite,decide_eq_true_eq]at h;(repeat' split at h);all_goals first|(cases h;done)|simp_all
theorem JV(o:aS):PC env 44 [⟨.mp (.int .i64) fg,fP⟩,⟨ak,o⟩] .bool (aZ o):=by
 refine PC.ao (m:=2000) ah ad0 rfl rfl rfl rfl (by kernel_rfl) ?_;intro hx;simp only[Tryz.f44];simp only[go_sem,zA,↓reduceIte,↓reduceDIte,zB,zC,zD,zE,zF,zG,zH,zI,bO]
 refine⟨_,ag7 o,fun _=>⟨_,JT _ _,?_⟩⟩;simp only[go_sem,zA,↓reduceIte,↓reduceDIte,zB,zC,zD,zE,zF,zG,zH,zI,bO];refine⟨fun h=>?_,fun h=>⟨fun v hv=>?_,fun hn=>?_⟩⟩;(·simp[aZ,h])
 (·rcases A2 hv with⟨k,rfl⟩|⟨k,rfl⟩|⟨k,rfl⟩|⟨k,rfl⟩|⟨k,rfl⟩<;>simp only[go_sem,zA,↓reduceIte,↓reduceDIte,zB,zC,zD,zE,zF,zG,zH,zI,bO];(·exact⟨_,au3 o,by simp[aZ,rk,k,h]⟩);(·exact⟨_,au5 o,by simp[aZ,rk,k,h]⟩);(·exact⟨_,au7 o,by simp[aZ,rk,k,h]⟩);(·exact⟨_,au9 o,by simp[aZ,rk,k,h]⟩);·exact⟨_,av1 o,by simp[aZ,rk,k,h]⟩)
 ·have:=A3 hn;simp[aZ,rk,this]
theorem A4(r:Rec):PC env 58 [⟨ae,r⟩] .bool (aD r):=by
 refine PC.ao (m:=2000) ah ad8 rfl rfl rfl rfl (by kernel_rfl) ?_;intro hx;simp only[Tryz.f58];simp only[go_sem,zA,↓reduceIte,↓reduceDIte,zB,zC,zD,zE,zF,zG,zH,zI,bO]
 refine⟨_,A1 r,fun _=>⟨_,JT _ _,?_⟩⟩;simp only[go_sem,zA,↓reduceIte,↓reduceDIte,zB,zC,zD,zE,zF,zG,zH,zI,bO];unfold aD;refine⟨fun h=>⟨_,yu _,?_⟩,fun h=>?_⟩;(·cases hw:ej r.2.2.2.1;(·simp only[go_sem,zA,↓reduceIte,↓reduceDIte,zB,zC,zD,zE,zF,zG,zH,zI,bO];try simp[hw]);·simp only[go_sem,zA,↓reduceIte,↓reduceDIte,zB,zC,zD,zE,zF,zG,zH,zI,bO];(repeat' (first|(with_reducible intro _)|(with_reducible apply And.intro)|(with_reducible refine⟨_,dT _ _ _,?_⟩;try simp only[go_sem,zA,↓reduceIte,↓reduceDIte,zB,zC,zD,zE,zF,zG,zH,zI,bO])|fail));all_goals first|(symm;simp;omega)|(clear hx;simp_all;done)|exact⟨_,dT _ _ _,by clear hx;simp_all⟩)
 ·simp[h]
theorem JW(o:aS)(r:Rec):HC env 99 [.iv ak o,.ref 1000000000 0,.ref 1000000001 0] [(1000000000,.box [.iv (.mp (.int .i64) fg) fP]),(1000000001,.box [.iv (.int .i64) r.1,.iv (.int .i64) r.2.1,.iv (.int .i64) r.2.2.1,.iv .str r.2.2.2.1,.iv (.int .i64) r.2.2.2.2.1,.iv (.int .i64) r.2.2.2.2.2])] (.iv .bool (bf o r)) [(1000000000,.box [.iv (.mp (.int .i64) fg) fP]),(1000000001,.box [.iv (.int .i64) r.1,.iv (.int .i64) r.2.1,.iv (.int .i64) r.2.2.1,.iv .str r.2.2.2.1,.iv (.int .i64) r.2.2.2.2.1,.iv (.int .i64) r.2.2.2.2.2])]:=by
 refine HC.ao (m:=2000) ah ag6 rfl rfl rfl rfl (by kernel_rfl) ?_;intro hx gP;simp only[Tryz.f99];simp only[go_sem,zA,↓reduceIte,↓reduceDIte,zB,zC,zD,zE,zF,zG,zH,zI,bO]
 refine⟨fun v hv=>?_,fun hn=>?_⟩;(·rcases A2 hv with⟨k,rfl⟩|⟨k,rfl⟩|⟨k,rfl⟩|⟨k,rfl⟩|⟨k,rfl⟩<;>simp only[go_sem,zA,↓reduceIte,↓reduceDIte,zB,zC,zD,zE,zF,zG,zH,zI,bO];(·exact⟨fun hl=>⟨_,au4 o r,by simp[bf,mr,k,hl]⟩,fun hl=>by simp[bf,hl]⟩);(·exact⟨fun hl=>⟨_,au6 o r,by simp[bf,mr,k,hl]⟩,fun hl=>by simp[bf,hl]⟩);(·exact⟨fun hl=>⟨_,au8 o r,by simp[bf,mr,k,hl]⟩,fun hl=>by simp[bf,hl]⟩);(·exact⟨fun hl=>⟨_,av0 o r,by simp[bf,mr,k,hl]⟩,fun hl=>by simp[bf,hl]⟩);·exact⟨fun hl=>⟨_,av2 o r,by simp[bf,mr,k,hl]⟩,fun hl=>by simp[bf,hl]⟩)
 ·have:=A3 hn;simp[bf,mr,this]
end Go.Proofs.YtmgmonbmdkkhbaaGreatDoor
namespace Go.Proofs.YtmgmonbmdkkhbaaGreatDoor
attribute[local go_sem←]Bool.decide_and Bool.decide_or decide_not
set_option maxHeartbeats 4000000
set_option maxRecDepth 100000
abbrev MpT:Ty:=.mp (.int .i64) fg
def p6 {α:Type} (p:α→Bool)(l:List α):Int:=if l.any p then(l.findIdx p:Int)else-1
theorem mu {α:Type} {xs:List α} {i:Nat} {x:α} {p:α→Bool} (h:xs[i]?=some x):(xs.take (i+1)).any p=((xs.take i).any p||p x):=by rw[bA h,List.any_append];simp
theorem sF {α:Type} {p:α→Bool} {l:List α} {i:Nat} {x:α} (h:l[i]?=some x)(hb:(l.take i).any p=false)(hp:p x=true):p6 p l=(i:Int):=by
 have av3:l.any p=true:=List.any_eq_true.2 ⟨x,List.mem_of_getElem? h,hp⟩;unfold p6;rw[if_pos av3];obtain⟨hi,e⟩:=List.getElem?_eq_some_iff.1 h;(have:l.findIdx p=i:=by rw[List.findIdx_eq hi];refine⟨by rw[e];exact hp,fun j hj=>?_⟩;rw[List.any_eq_false]at hb;have:=hb l[j] (by rw[List.mem_take_iff_getElem];exact⟨j,by omega,rfl⟩);simpa using this)
 rw[this]
theorem JX(l:List aS)(r:Rec):HC env 100 [.iv (.sl ak) l,.fn 99 [.ref 1000000000 0,.ref 1000000001 0]] [(1000000000,.box [.iv (.mp (.int .i64) fg) fP]),(1000000001,.box [.iv (.int .i64) r.1,.iv (.int .i64) r.2.1,.iv (.int .i64) r.2.2.1,.iv .str r.2.2.2.1,.iv (.int .i64) r.2.2.2.2.1,.iv (.int .i64) r.2.2.2.2.2])] (.iv (.int .i64) (p6 (fun o=>bf o r) l)) [(1000000000,.box [.iv (.mp (.int .i64) fg) fP]),(1000000001,.box [.iv (.int .i64) r.1,.iv (.int .i64) r.2.1,.iv (.int .i64) r.2.2.1,.iv .str r.2.2.2.1,.iv (.int .i64) r.2.2.2.2.1,.iv (.int .i64) r.2.2.2.2.2])]:=by
 refine HC.ao (m:=2000) ah ml rfl rfl rfl rfl (by kernel_rfl) ?_;intro hx gP;simp only[Tryz.f100];simp only[go_sem,zA,↓reduceIte,↓reduceDIte,zB,zC,zD,zE,zF,zG,zH,zI]
 have hlen:l.length≤9223372036854775807:=hx.1.1;refine av.cU (X:=Nat) (fun(i:Nat)=>[(8,.iv (.int .i64) (i:Int)),(5,.any),(4,.any)]) (fun(i:Nat)=>[]) (fun(i:Nat)=>i≤l.length∧(l.take i).any (fun o=>bf o r)=false) (fun(i:Nat)=>l.length-i) 0 ?_
 intro b1 b2 ck cH;simp(config:= {maxSteps:=4000000})only[go_sem,zA,↓reduceIte,↓reduceDIte,zB,zC,zD,zE,zF,zG,zH,zI]at ck cH;subst ck;subst cH;refine⟨(by refine⟨?_,?_,rfl,rfl⟩<;>repeat' (first|exact trivial|exact Or.inl rfl|exact Or.inr rfl|apply cV|apply cW|apply cX|apply cY|exact⟨(by show(_:Nat)<1000000000;omega),rfl,rfl⟩|rfl|(refine And.intro (Or.inl ?_) ?_)|(refine And.intro ?_ ?_))),?_,?_⟩
 (·exact⟨Nat.zero_le _,rfl⟩);intro i⟨hi,hb⟩back;refine ay ah ⟨_,ml,rfl⟩ 2000 _ _ (by kernel_rfl) ?_;simp only[go_sem,zA,↓reduceIte,↓reduceDIte,zB,zC,zD,zE,zF,zG,zH,zI]
 refine⟨fun h=>?_,fun h=>?_⟩;(·obtain⟨x,cJ⟩: ∃x,l[i]?=some x:=ax (by omega);refine⟨Int.natCast_nonneg i,x,cJ,_,_,JW x r,rfl,?_⟩;cases hm:bf x r;(·simp only[go_sem,zA,↓reduceIte,↓reduceDIte,zB,zC,zD,zE,zF,zG,zH,zI];intro _;refine⟨aH (by omega) (by omega),back _ (i+1) (by refine⟨?_,?_,rfl,rfl⟩<;>repeat' (first|exact trivial|exact Or.inl rfl|exact Or.inr rfl|apply cV|apply cW|apply cX|apply cY|exact⟨(by show(_:Nat)<1000000000;omega),rfl,rfl⟩|rfl|(refine And.intro (Or.inl ?_) ?_)|(refine And.intro ?_ ?_))) ⟨by omega,by rw[mu cJ,hb];simpa using hm⟩ (by omega)⟩);·simp only[go_sem,zA,↓reduceIte,↓reduceDIte,zB,zC,zD,zE,zF,zG,zH,zI];intro _;exact(sF cJ hb hm).symm)
 ·have e:l.take i=l:=List.take_of_length_le (by omega);rw[e]at hb;unfold p6;rw[hb];rfl
theorem A5(l:List aS)(r:Rec):HC env 56 [.iv (.sl ak) l,.fn 99 [.ref 1000000000 0,.ref 1000000001 0]] [(1000000000,.box [.iv (.mp (.int .i64) fg) fP]),(1000000001,.box [.iv (.int .i64) r.1,.iv (.int .i64) r.2.1,.iv (.int .i64) r.2.2.1,.iv .str r.2.2.2.1,.iv (.int .i64) r.2.2.2.2.1,.iv (.int .i64) r.2.2.2.2.2])] (.iv .bool (l.any (fun o=>bf o r))) [(1000000000,.box [.iv (.mp (.int .i64) fg) fP]),(1000000001,.box [.iv (.int .i64) r.1,.iv (.int .i64) r.2.1,.iv (.int .i64) r.2.2.1,.iv .str r.2.2.2.1,.iv (.int .i64) r.2.2.2.2.1,.iv (.int .i64) r.2.2.2.2.2])]:=by
 refine HC.ao (m:=2000) ah EA rfl rfl rfl rfl (by kernel_rfl) ?_;intro hx gP;simp only[Tryz.f56];simp only[go_sem,zA,↓reduceIte,↓reduceDIte,zB,zC,zD,zE,zF,zG,zH,zI]
 refine⟨_,_,JX l r,rfl,?_⟩;simp only[go_sem,zA,↓reduceIte,↓reduceDIte,zB,zC,zD,zE,zF,zG,zH,zI];intro _ _;unfold p6;cases h:l.any (fun o=>bf o r);(·rfl);·simp
theorem EI(l:List aS)(r:Rec):PC env 47 [⟨MpT,fP⟩,⟨.sl ak,l⟩,⟨ae,r⟩] .bool (l.any (fun o=>bf o r)):=by
 refine PC.ao (m:=2000) ah ad2 rfl rfl rfl rfl (by kernel_rfl) ?_;intro hx;simp only[Tryz.f47];simp only[go_sem,zA,↓reduceIte,↓reduceDIte,zB,zC,zD,zE,zF,zG,zH,zI]
 exact⟨_,_,A5 l r,rfl,fun _ _=>rfl⟩
def B0(lt:Nat→Bool)(i j:Nat):Nat:=if i<j then(if lt ((i+j)/2)then B0 lt ((i+j)/2+1) j else B0 lt i ((i+j)/2))else i termination_by j-i
theorem C7(lt:Nat→Bool)(i j:Nat)(h:i≤j):i≤B0 lt i j∧B0 lt i j≤j:=by
 unfold B0;split;(·split;(·have:=C7 lt ((i+j)/2+1) j (by omega);omega);·have:=C7 lt i ((i+j)/2) (by omega);omega);·omega termination_by j-i
def vX {α:Type} (pl:α→Int×Int)(l:List α)(p:Int×Int)(h:Nat):Bool:=match l[h]? with|some x=>decide (kV (pl x) p<0)|none=>false
def nr {α:Type} (pl:α→Int×Int)(l:List α)(p:Int×Int):Nat:=B0 (vX pl l p) 0 l.length
def gi {α:Type} (pl:α→Int×Int)(l:List α)(p:Int×Int)(i:Nat):Bool:=match l[i]? with|some x=>decide (kV (pl x) p=0)|none=>false
theorem gU {α:Type} (pl:α→Int×Int)(l:List α)(p:Int×Int):nr pl l p≤l.length:=(C7 _ 0 l.length (Nat.zero_le _)).2
def dU(o:aS):Int×Int:=(o.1,o.2.1)
def a7(r:Rec):Int×Int:=(r.1,r.2.1)
theorem w9 {i j:Nat} (h:(i:Int)+j≤2000000):IntKind.i64.wrap (IntKind.u64.wrap ((i:Int)+j)/2^1)=(((i+j)/2:Nat):Int):=by
 have e1:IntKind.u64.wrap ((i:Int)+j)=(i:Int)+j:=eg _ ⟨by simp only[pY];omega,by simp only[pZ];omega⟩;rw[e1];(have e2:((i:Int)+j)/2^1=(((i+j)/2:Nat):Int):=by rw[Int.natCast_ediv];norm_cast)
 rw[e2];exact eg _ ⟨by simp only[Ez];omega,by simp only[max_i64];omega⟩
def eD {α:Type} (ls:List (List α)):Nat:=(ls.map List.length).sum
theorem mw {α:Type} {ls:List (List α)} {k:Nat} {x:List α} (h:ls[k]?=some x):eD (ls.take (k+1))=eD (ls.take k)+x.length:=by unfold eD;rw[bA h,List.map_append,List.sum_append];simp
theorem my {α:Type} (ls:List (List α))(k:Nat):eD (ls.take k)≤eD ls:=by unfold eD;(conv=>rhs;rw[←List.take_append_drop k ls]);rw[List.map_append,List.sum_append];omega
def cd {α:Type} (l:List α)(i:Nat)(x:α):List α:=l.take i++x::l.drop i
def Xm {α:Type} (pl:α→Int×Int)(l:List α)(j:Nat):Bool:=match l[j]?,l[j+1]? with|some x,some y=>decide (kV (pl x) (pl y)<0)|_,_=>true
def yv {α:Type} (pl:α→Int×Int)(l:List α):Bool:=(List.range (l.length-1)).all (Xm pl l)
end Go.Proofs.YtmgmonbmdkkhbaaGreatDoor
namespace Go.Proofs.YtmgmonbmdkkhbaaGreatDoor
set_option maxHeartbeats 4000000
set_option maxRecDepth 100000
end Go.Proofs.YtmgmonbmdkkhbaaGreatDoor
namespace Go.Proofs.YtmgmonbmdkkhbaaGreatDoor
attribute[local go_sem←]Bool.decide_and Bool.decide_or decide_not
attribute[local go_sem]nT dw
set_option maxHeartbeats 4000000
set_option maxRecDepth 100000
theorem A6(o:Rec)(p:Int×Int):PC env 141 [⟨ae,o⟩,⟨bD,p⟩,⟨.ptr .aq,(30:Nat)⟩] (.int .i64) (kV (a7 o) p):=by
 refine PC.ao (m:=2000) ah Xd rfl rfl rfl rfl (by kernel_rfl) ?_;intro hx;simp only[Tryz.f141];simp only[go_sem,zA,↓reduceIte,↓reduceDIte,zB,zC,zD,zE,zF,zG,zH,zI]
 exact⟨_,A1 o,fun _=>⟨_,JS _ _,fun _=>rfl⟩⟩
theorem ag8(l:List Rec)(p:Int×Int)(hl:l.length≤1000000):PC env 140 [⟨.sl ae,l⟩,⟨bD,p⟩,⟨.fh 141 (.ptr .aq),(30:Nat)⟩] (.aP (.int .i64) .bool) (((nr a7 l p:Nat):Int),gi a7 l p (nr a7 l p)):=by
 refine PC.ao (m:=2000) ah JQ rfl rfl rfl rfl (by kernel_rfl) ?_;intro hx;simp only[Tryz.f140];simp only[go_sem,zA,↓reduceIte,↓reduceDIte,zB,zC,zD,zE,zF,zG,zH,zI]
 refine av.jA (X:=Nat×Nat) (fun z=>⟨[(9,.iv (.int .i64) (z.1:Int)),(10,.iv (.int .i64) (z.2:Int)),(8,.iv (.int .i64) (l.length:Int)),(0,.iv (.sl ae) l),(2,.fn 141 [.di .aq (30:Nat) 0]),(4,.ref 4 0)],[(4,.box [.iv (.int .i64) p.1,.iv (.int .i64) p.2])]⟩) (fun z=>z.1≤z.2∧z.2≤l.length∧B0 (vX a7 l p) z.1 z.2=nr a7 l p) (fun z=>z.2-z.1) (0,l.length) (by refine⟨?_,?_,rfl,rfl⟩<;>repeat' (first|exact trivial|exact Or.inl rfl|exact Or.inr rfl|apply cV|apply cW|apply cX|apply cY|exact⟨(by show(_:Nat)<1000000000;omega),rfl,rfl⟩|rfl|(refine And.intro (Or.inl ?_) ?_)|(refine And.intro ?_ ?_))) ⟨Nat.zero_le _,Nat.le_refl _,rfl⟩ ?_
 intro⟨i,j⟩⟨dG,hj,hb⟩back;dsimp only at dG hj hb;refine ay ah ⟨_,JQ,rfl⟩ 2000 _ _ (by kernel_rfl) ?_;simp only[go_sem,zA,↓reduceIte,↓reduceDIte,zB,zC,zD,zE,zF,zG,zH,zI]
 have hw:=w9 (i:=i) (j:=j) (by omega);have hu:IntKind.u64.wrap ((i:Int)+j)=(i:Int)+j:=eg _ ⟨by simp only[pY];omega,by simp only[pZ];omega⟩;refine⟨fun h=>?_,fun h=>?_⟩
 (·obtain⟨x,cJ⟩: ∃x,l[(i+j)/2]?=some x:=ax (by omega);rw[hw,hu,Int.toNat_natCast];unfold B0 at hb;rw[if_pos (by omega)]at hb;(have cN:vX a7 l p ((i+j)/2)=decide (kV (a7 x) p<0):=by unfold vX;rw[cJ]);refine⟨aH (by omega) (by omega),by omega,x,cJ,_,A6 x p,fun _=>⟨fun c=>⟨aH (by omega) (by omega),?_⟩,fun c=>?_⟩⟩;(·rw[cN,decide_eq_true c,if_pos rfl]at hb;exact back _ ((i+j)/2+1,j) (by refine⟨?_,?_,rfl,rfl⟩<;>repeat' (first|exact trivial|exact Or.inl rfl|exact Or.inr rfl|apply cV|apply cW|apply cX|apply cY|exact⟨(by show(_:Nat)<1000000000;omega),rfl,rfl⟩|rfl|(refine And.intro (Or.inl ?_) ?_)|(refine And.intro ?_ ?_))) ⟨by dsimp only;omega,hj,hb⟩ (by dsimp only;omega));·rw[cN,decide_eq_false c,if_neg (by decide)]at hb;exact back _ (i,(i+j)/2) (by refine⟨?_,?_,rfl,rfl⟩<;>repeat' (first|exact trivial|exact Or.inl rfl|exact Or.inr rfl|apply cV|apply cW|apply cX|apply cY|exact⟨(by show(_:Nat)<1000000000;omega),rfl,rfl⟩|rfl|(refine And.intro (Or.inl ?_) ?_)|(refine And.intro ?_ ?_))) ⟨by dsimp only;omega,by dsimp only;omega,hb⟩ (by dsimp only;omega))
 ·unfold B0 at hb;rw[if_neg (by omega)]at hb;rw[←hb];refine⟨fun c=>?_,fun c=>?_⟩;(·obtain⟨x,cJ⟩: ∃x,l[i]?=some x:=ax (by omega);refine⟨Int.natCast_nonneg i,x,cJ,_,A6 x p,fun _=>?_⟩;unfold gi;rw[cJ]);·unfold gi;rw[List.getElem?_eq_none (by omega)]
theorem QM(l:List Rec)(p:Int×Int)(hl:l.length≤1000000):PC env 102 [⟨.sl ae,l⟩,⟨.aq,(30:Nat)⟩,⟨bD,p⟩] (.aP (.int .i64) .bool) (((nr a7 l p:Nat):Int),gi a7 l p (nr a7 l p)):=by
 refine PC.ao (m:=2000) ah W8 rfl rfl rfl rfl (by kernel_rfl) ?_;intro hx;simp only[Tryz.f102];simp only[go_sem,zA,↓reduceIte,↓reduceDIte,zB,zC,zD,zE,zF,zG,zH,zI]
 exact⟨_,ag8 l p hl,fun _=>rfl⟩
theorem QN(n:Int)(h0:0<n)(h1:n≤1000000):HC env 131 [.bE,.iv (.int .i64) n] [] (.lz 22 6 0 0) [(22,.arr ae (List.replicate n.toNat (cD ae)))]:=by
 refine HC.ao (m:=2000) ah Xc rfl rfl rfl rfl (by kernel_rfl) ?_;intro hx gP;simp only[Tryz.f131];simp only[go_sem,zA,↓reduceIte,↓reduceDIte,zB,zC,zD,zE,zF,zG,zH,zI]
 refine⟨fun h=>absurd h (by omega),fun _=>?_⟩;simp only[Int.sub_self,Int.sub_zero];exact⟨⟨by decide,by decide⟩,⟨by omega,by omega⟩,fun _=>⟨⟨h0,Int.le_trans h1 (by decide)⟩,Int.natCast_nonneg _,trivial⟩,fun h=>absurd h0 h⟩
theorem xa(ls:List (List Rec))(h0:0<eD ls)(h1:eD ls≤1000000)(hn:ls.length≤1000000):PC env 81 [⟨.sl (.sl ae),ls⟩] (.sl ae) ls.flatten:=by
 refine PC.ao (m:=2000) ah EC rfl rfl rfl rfl (by kernel_rfl) ?_;intro hx;simp only[Tryz.f81];simp only[go_sem,zA,↓reduceIte,↓reduceDIte,zB,zC,zD,zE,zF,zG,zH,zI]
 refine av.jA (X:=Nat) (fun k=>⟨[(11,.iv (.int .i64) (k:Int)),(10,.iv (.int .i64) (ls.length:Int)),(9,.iv (.sl (.sl ae)) ls),(0,.iv (.sl (.sl ae)) ls),(3,.iv (.int .i64) (eD (ls.take k):Int))],[]⟩) (fun k=>k≤ls.length) (fun k=>ls.length-k) 0 (by refine⟨?_,?_,rfl,rfl⟩<;>repeat' (first|exact trivial|exact Or.inl rfl|exact Or.inr rfl|apply cV|apply cW|apply cX|apply cY|exact⟨(by show(_:Nat)<1000000000;omega),rfl,rfl⟩|rfl|(refine And.intro (Or.inl ?_) ?_)|(refine And.intro ?_ ?_))) (Nat.zero_le _) ?_
 intro k hk back;refine ay ah ⟨_,EC,rfl⟩ 2000 _ _ (by kernel_rfl) ?_;simp only[go_sem,zA,↓reduceIte,↓reduceDIte,zB,zC,zD,zE,zF,zG,zH,zI];refine⟨fun h=>?_,fun h=>?_⟩
 (·obtain⟨x,cJ⟩: ∃x,ls[k]?=some x:=ax (by omega);have hs:=mw cJ;have ht:=my ls (k+1);refine⟨Int.natCast_nonneg k,x,cJ,aH (by omega) (by omega),fun h'=>absurd h' (by omega),fun _=>⟨aH (by omega) (by omega),?_⟩⟩;refine back _ (k+1) ⟨⟨Or.inl rfl,Or.inl rfl,Or.inl rfl,Or.inl rfl,Or.inl ?_,trivial⟩,trivial,rfl,rfl⟩ (by omega) (by omega);rw[hs];rfl)
 ·have e:ls.take k=ls:=List.take_of_length_le (by omega);rw[e];refine⟨_,_,QN _ (by omega) (by omega),?_⟩;simp only[go_sem,zA,↓reduceIte,↓reduceDIte,zB,zC,zD,zE,zF,zG,zH,zI];intro _;refine av.jA (X:=Nat) (fun k=>⟨[(27,.iv (.int .i64) (k:Int)),(26,.iv (.int .i64) (ls.length:Int)),(25,.iv (.sl (.sl ae)) ls),(6,match k with|0=>.lz 2500022 6 0 0|_+1=>.aI 2500022)],[(2500022,.arr ae (match k with|0=>List.replicate (eD ls) (cD ae)|_+1=>(ls.take k).flatten))]⟩) (fun k=>k≤ls.length) (fun k=>ls.length-k) 0 (by refine⟨?_,?_,rfl,rfl⟩<;>repeat' (first|exact trivial|exact Or.inl rfl|exact Or.inr rfl|apply cV|apply cW|apply cX|apply cY|exact⟨(by show(_:Nat)<1000000000;omega),rfl,rfl⟩|rfl|(refine And.intro (Or.inl ?_) ?_)|(refine And.intro ?_ ?_))) (Nat.zero_le _) ?_;intro k hk EJ;cases k with|zero=>refine ay ah ⟨_,EC,rfl⟩ 2000 _ _ (by kernel_rfl) ?_;simp only[go_sem,zA,↓reduceIte,↓reduceDIte,zB,zC,zD,zE,zF,zG,zH,zI];refine⟨fun h=>?_,fun h=>?_⟩;(·obtain⟨x,cJ⟩: ∃x,ls[0]?=some x:=ax (by omega);have hs:eD (ls.take 1)=eD (ls.take 0)+x.length:=mw cJ;have ht:=my ls 1;refine⟨x,cJ,⟨by rw[List.length_replicate];exact .inl h0,by omega⟩,⟨by decide,by decide⟩,EJ _ 1 ⟨⟨Or.inl rfl,Or.inl rfl,Or.inl rfl,Or.inl rfl,trivial⟩,⟨?_,trivial⟩,rfl,rfl⟩ (by omega) (by omega)⟩;refine congrArg (aL.arr ae) ?_;rw[show(1:Nat)=0+1 from rfl,bA cJ];simp);(·exfalso;have Fj:ls=[]:=List.length_eq_zero_iff.mp (by omega);subst Fj;exact absurd h0 (by decide))|succ k=>refine ay ah ⟨_,EC,rfl⟩ 2000 _ _ (by kernel_rfl) ?_;simp only[go_sem,zA,↓reduceIte,↓reduceDIte,zB,zC,zD,zE,zF,zG,zH,zI];refine⟨fun h=>?_,fun h=>?_⟩;(·obtain⟨x,cJ⟩: ∃x,ls[k+1]?=some x:=ax (by omega);have hs:=mw cJ;have ht:=my ls (k+1+1);(have hf:(ls.take (k+1)).flatten.length=eD (ls.take (k+1)):=by rw[List.length_flatten];rfl);refine⟨Int.natCast_nonneg _,x,cJ,by omega,aH (by omega) (by omega),EJ _ (k+1+1) ⟨⟨Or.inl rfl,Or.inl rfl,Or.inl rfl,Or.inl rfl,trivial⟩,⟨?_,trivial⟩,rfl,rfl⟩ (by omega) (by omega)⟩;refine congrArg (aL.arr ae) ?_;rw[bA cJ];simp);·have e2:ls.take (k+1)=ls:=List.take_of_length_le (by omega);rw[e2]
theorem Xn(l:List Rec)(o:Rec)(hl:l.length≤100000):PC env 61 [⟨.sl ae,l⟩,⟨.aq,(30:Nat)⟩,⟨ae,o⟩] (.sl ae) (cd l (nr a7 l (a7 o)) o):=by
 refine PC.ao (m:=2000) ah ae0 rfl rfl rfl rfl (by kernel_rfl) ?_;intro hx;simp only[Tryz.f61];simp only[go_sem,zA,↓reduceIte,↓reduceDIte,zB,zC,zD,zE,zF,zG,zH,zI]
 have hb:=gU a7 l (a7 o);refine⟨_,A1 o,fun _=>⟨_,QM l _ (by omega),fun _=>?_⟩⟩;simp only[go_sem,zA,↓reduceIte,↓reduceDIte,zB,zC,zD,zE,zF,zG,zH,zI];(have hn:(nr a7 l (o.1,o.2.1):Int)≤(l.length:Int):=by have:=gU a7 l (o.1,o.2.1);omega)
 (have hs:eD [l.take (nr a7 l (o.1,o.2.1)),[o],l.drop (nr a7 l (o.1,o.2.1))]=l.length+1:=by have:=gU a7 l (o.1,o.2.1);simp[eD];omega);refine⟨⟨Int.natCast_nonneg _,hn⟩,⟨Int.natCast_nonneg _,hn⟩,_,xa _ (by rw[hs];omega) (by rw[hs];omega) (by simp),fun _=>?_⟩
 simp only[cd,List.flatten_cons,List.flatten_nil,List.append_nil,List.singleton_append];rfl
end Go.Proofs.YtmgmonbmdkkhbaaGreatDoor
namespace Go.Proofs.YtmgmonbmdkkhbaaGreatDoor
attribute[local go_sem←]Bool.decide_and Bool.decide_or decide_not
attribute[local go_sem]nT dw
set_option maxHeartbeats 4000000
set_option maxRecDepth 100000
def QO(L:L8):List Int:=[L.1,L.2.1,L.2.2.1,L.2.2.2.1,L.2.2.2.2.1,L.2.2.2.2.2.1,L.2.2.2.2.2.2.1,L.2.2.2.2.2.2.2]
def aw(L:L8)(i:Int):Int:=(QO L).getD i.toNat 0
def fq(L:L8)(i y:Int):L8:=(if i=0 then y else L.1,if i=1 then y else L.2.1,if i=2 then y else L.2.2.1,if i=3 then y else L.2.2.2.1,if i=4 then y else L.2.2.2.2.1,if i=5 then y else L.2.2.2.2.2.1,if i=6 then y else L.2.2.2.2.2.2.1,if i=7 then y else L.2.2.2.2.2.2.2)
theorem gV(L:L8) {i:Int} (h0:0≤i)(h7:i≤7):(QO L)[i.toNat]?=some (aw L i):=by
 (have h:i=0∨i=1∨i=2∨i=3∨i=4∨i=5∨i=6∨i=7:=by omega);rcases h with rfl|rfl|rfl|rfl|rfl|rfl|rfl|rfl<;>rfl
theorem dR(L:L8) {i:Int} (y:Int)(h0:0≤i)(h7:i≤7):aw (fq L i y) i=y:=by
 (have h:i=0∨i=1∨i=2∨i=3∨i=4∨i=5∨i=6∨i=7:=by omega);rcases h with rfl|rfl|rfl|rfl|rfl|rfl|rfl|rfl<;>rfl
def bY(u:cn)(r:Rec):cn×Int×Int:=if aD (r.1,1,r.2.2)=true then if 400≤u.1.length∨1000000≤aw u.2.2 r.1 then(u,0,2)else(if u.2.1.any (fun o=>bf o (r.1,aw u.2.2 r.1+1,r.2.2))then(u.1,u.2.1,fq u.2.2 r.1 (aw u.2.2 r.1+1))else(cd u.1 (nr a7 u.1 (r.1,aw u.2.2 r.1+1)) (r.1,aw u.2.2 r.1+1,r.2.2),u.2.1,fq u.2.2 r.1 (aw u.2.2 r.1+1)),aw u.2.2 r.1+1,0)else(u,0,240)
theorem C8(L:L8) {i:Int} (y:Int)(h0:0≤i)(h7:i≤7):(QO (fq L i y))[i.toNat]?=some y:=by rw[gV _ h0 h7,dR L y h0 h7]
theorem yw {L:L8} (h:(Ty.st (.pair (.int .i64) (.pair (.int .i64) (.pair (.int .i64) (.pair (.int .i64) (.pair (.int .i64) (.pair (.int .i64) (.pair (.int .i64) (.int .i64))))))))).ok L) {i:Int} (h0:0≤i)(h7:i≤7): -9223372036854775808≤aw L i:=by
 obtain⟨e0,e1,e2,e3,e4,e5,e6,e7⟩:=h;(have h:i=0∨i=1∨i=2∨i=3∨i=4∨i=5∨i=6∨i=7:=by omega);rcases h with rfl|rfl|rfl|rfl|rfl|rfl|rfl|rfl;(·exact e0.1);(·exact e1.1)
 (·exact e2.1);(·exact e3.1);(·exact e4.1);(·exact e5.1);(·exact e6.1);·exact e7.1
theorem EK(u:cn)(r:Rec):PC env 22 [⟨az,u⟩,⟨ae,r⟩] (.aP az (.aP (.int .i64) (.int .i64))) (bY u r):=by
 refine PC.ao (m:=2000) ah ac0 rfl rfl rfl rfl (by kernel_rfl) ?_;intro hx;simp only[Tryz.f22];simp only[go_sem,zA,↓reduceIte,↓reduceDIte,zB,zC,zD,zE,zF,zG,zH,zI]
 refine⟨_,A4 (r.1,1,r.2.2),?_⟩;unfold bY;cases hr:aD (r.1,1,r.2.2);(·simp only[go_sem,zA,↓reduceIte,↓reduceDIte,zB,zC,zD,zE,zF,zG,zH,zI];rfl);have lV:=hr;simp only[aD,Bool.and_eq_true,decide_eq_true_eq]at lV
 obtain⟨⟨⟨qw,B1⟩,_⟩,_⟩:=lV;simp only[go_sem,zA,↓reduceIte,↓reduceDIte,zB,zC,zD,zE,zF,zG,zH,zI];refine⟨fun h1=>⟨⟨qw,by omega⟩,aw u.2.2 r.1,gV u.2.2 qw B1,fun h2=>?_,fun h2=>?_⟩,fun h1=>?_⟩
 (·rw[if_pos (.inr h2)]);(·rw[if_neg (by omega)];have B2:=hx.1;have hL: -9223372036854775808≤aw u.2.2 r.1:=yw B2.2.2 qw B1;refine⟨⟨qw,by omega⟩,aw u.2.2 r.1,gV u.2.2 qw B1,aH (by omega) (by omega),?_⟩;refine⟨⟨qw,by omega⟩,⟨qw,by omega⟩,aw u.2.2 r.1+1,C8 u.2.2 _ qw B1,_,EH,fun _=>⟨_,EI u.2.1 (r.1,aw u.2.2 r.1+1,r.2.2),?_⟩⟩;cases hm:u.2.1.any (fun o=>bf o (r.1,aw u.2.2 r.1+1,r.2.2));(·simp only[go_sem,zA,↓reduceIte,↓reduceDIte,zB,zC,zD,zE,zF,zG,zH,zI];refine⟨_,Xn u.1 _ (by omega),fun _=>?_⟩;rfl);·simp only[go_sem,zA,↓reduceIte,↓reduceDIte,zB,zC,zD,zE,zF,zG,zH,zI];rfl)
 ·rw[if_pos (.inl (by omega))]
theorem rL {α:Type} {xs:List α} {k:Nat} {x:α} {p:α→Bool} (h:xs[k]?=some x):(xs.take (k+1)).filter p=(xs.take k).filter p++(if p x then[x]else[]):=by
 rw[bA h,List.filter_append];congr 1;cases hp:p x<;>simp[hp]
def bQ(u:cn)(o:aS):cn×Int:=if aZ (o.1,1,o.2.2)=true then if 400≤u.2.1.length∨1000000≤aw u.2.2 o.1 then(u,2)else((u.1.filter (fun r=>!(bf (o.1,aw u.2.2 o.1+1,o.2.2) r)),cd u.2.1 (nr dU u.2.1 (o.1,aw u.2.2 o.1+1)) (o.1,aw u.2.2 o.1+1,o.2.2),fq u.2.2 o.1 (aw u.2.2 o.1+1)),0)else(u,240)
def QP(L:L8):List PV:=[.iv (.int .i64) L.1,.iv (.int .i64) L.2.1,.iv (.int .i64) L.2.2.1,.iv (.int .i64) L.2.2.2.1,.iv (.int .i64) L.2.2.2.2.1,.iv (.int .i64) L.2.2.2.2.2.1,.iv (.int .i64) L.2.2.2.2.2.2.1,.iv (.int .i64) L.2.2.2.2.2.2.2]
end Go.Proofs.YtmgmonbmdkkhbaaGreatDoor
namespace Go.Proofs.YtmgmonbmdkkhbaaGreatDoor
set_option maxHeartbeats 4000000
set_option maxRecDepth 100000
def C9(v k:Int):Int:=if k<0∨64≤k then 0 else v/2^k.toNat
def Yj(t:Int×Int)(e:Int):Int×Int:=if e<t.1∨10000<e then(0,120)else(C9 t.2 (e-t.1),0)
def A7(r:Rec)(e:Int):Int:=if r.2.2.1<e then(Yj (r.2.2.1,r.2.2.2.2.2) e).1 else r.2.2.2.2.2
def ou(w:List UInt8)(e:Int)(r:Rec):Int:=if r.2.2.2.1=w then A7 r e else 0
def e9(l:List Rec)(w:List UInt8)(e:Int):Int:=(l.map (ou w e)).sum
def Ga(l:List Rec):Prop:=l.length≤1000∧ ∀r,r∈l→0≤r.2.2.1∧r.2.2.1≤10000∧0≤r.2.2.2.2.2∧r.2.2.2.2.2≤1000
theorem QQ {v k:Int} (h0:0≤v):0≤C9 v k∧C9 v k≤v:=by
 unfold C9;split;(·omega);·have hp:(0:Int)<2^k.toNat:=Int.pow_pos (by decide);exact⟨Int.ediv_nonneg h0 (by omega),Int.ediv_le_self _ h0⟩
theorem QR {r:Rec} {e:Int} (h0:0≤r.2.2.2.2.2):0≤A7 r e∧A7 r e≤r.2.2.2.2.2:=by unfold A7 Yj;split;(·split;(·dsimp only;omega);·exact QQ h0);·omega
theorem EL {r:Rec} {w:List UInt8} {e:Int} (h0:0≤r.2.2.2.2.2):0≤ou w e r∧ou w e r≤r.2.2.2.2.2:=by unfold ou;split;(·exact QR h0);·omega
theorem A8 {l:List Rec} {k:Nat} {x:Rec} {w:List UInt8} {e:Int} (h:l[k]?=some x):e9 (l.take (k+1)) w e=e9 (l.take k) w e+ou w e x:=by
 unfold e9;rw[bA h,List.map_append,List.sum_append];simp
theorem Gb {l:List Rec} {w:List UInt8} {e:Int} (h: ∀r,r∈l→0≤r.2.2.2.2.2∧r.2.2.2.2.2≤1000):0≤e9 l w e∧e9 l w e≤1000*l.length:=by
 induction l with|nil=>exact⟨Int.le_refl _,Int.le_refl _⟩|cons x l ih=>have h1:=ih (fun r hr=>h r (List.mem_cons_of_mem _ hr));have h2:=h x (List.mem_cons_self ..);have h3:=EL (w:=w) (e:=e) h2.1;(have e1:e9 (x::l) w e=ou w e x+e9 l w e:=by unfold e9;rw[List.map_cons,List.sum_cons]);rw[e1,List.length_cons];push_cast;omega
end Go.Proofs.YtmgmonbmdkkhbaaGreatDoor
namespace Go.Proofs.YtmgmonbmdkkhbaaGreatDoor
attribute[local go_sem←]Bool.decide_and Bool.decide_or decide_not
attribute[local go_sem]nT dw
set_option maxHeartbeats 4000000
set_option maxRecDepth 100000
theorem EM(o:aS)(r:Rec):PC env 18 [⟨ak,o⟩,⟨ae,r⟩] .bool (decide (r.2.2.1≤o.2.2.1)&&aD r&&aZ o&&bf o r):=by
 refine PC.ao (m:=2000) ah ab7 rfl rfl rfl rfl (by kernel_rfl) ?_;intro hx;simp only[Tryz.f18];simp only[go_sem,zA,↓reduceIte,↓reduceDIte,zB,zC,zD,zE,zF,zG,zH,zI]
 refine⟨fun h=>⟨_,A4 r,?_⟩,fun h=>?_⟩;(·have hd:decide (r.2.2.1≤o.2.2.1)=true:=decide_eq_true (Int.not_lt.1 h);cases hr:aD r;(·simp only[go_sem,zA,↓reduceIte,↓reduceDIte,zB,zC,zD,zE,zF,zG,zH,zI];try simp);·simp only[go_sem,zA,↓reduceIte,↓reduceDIte,zB,zC,zD,zE,zF,zG,zH,zI];refine⟨_,EH,fun _=>⟨_,JV o,?_⟩⟩;cases ho:aZ o;(·simp only[go_sem,zA,↓reduceIte,↓reduceDIte,zB,zC,zD,zE,zF,zG,zH,zI];try simp);·simp only[go_sem,zA,↓reduceIte,↓reduceDIte,zB,zC,zD,zE,zF,zG,zH,zI];exact⟨_,EI [o] r,by rw[hd];simp⟩)
 ·have hd:decide (r.2.2.1≤o.2.2.1)=false:=decide_eq_false (Int.not_le.2 h);simp[hd]
def JY(u:cn)(r:Rec):Bool:=aD r&&decide (r.2.1≤aw u.2.2 r.1)&& !(gi dU u.2.1 (a7 r) (nr dU u.2.1 (a7 r))||u.2.1.any (fun o=>bf o r))
def JZ(u:cn)(o:aS):Bool:=aZ o&&decide (o.2.1≤aw u.2.2 o.1)
def uM(x:Int):Bool:=decide (0≤x∧x≤1000000)
def J0(u:cn):Bool:=decide (u.1.length≤400∧u.2.1.length≤400)&&((QO u.2.2).all uM&&(u.2.1.all (JZ u)&&((yv dU u.2.1&&yv a7 u.1)&&u.1.all (JY u))))
theorem Yk(L:L8) {k:Nat} {x:Int} (h:(QO L)[k]?=some x):((QO L).take (k+1)).all uM=(((QO L).take k).all uM&&uM x):=mq h
end Go.Proofs.YtmgmonbmdkkhbaaGreatDoor
