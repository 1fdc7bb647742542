/- The distance, plainly: least cost by the last bytes of the beginnings. Nothing here is trusted; no condition. -/
import Derived.Test.YtbbmofoiipjbgaaA9
import Derived.Test.YtbbmofoiipjbgaaProg
set_option linter.unusedSimpArgs false
set_option linter.unusedVariables false
open Nat renaming reduceBEq→zA,reduceAdd→zB,reduceSub→zC,reduceMul→zD,reduceLeDiff→zE
open Int renaming reduceLT→zF,reduceLE→zG,reduceToNat→zH,reduceNeg→zI
namespace Go.Proofs.Ytbbmofoiipjbgaa
theorem hN {α:Sort _} {x:α} {B C:Prop} (h:C):(x=x∨B)∧C:=⟨.inl rfl,h⟩
theorem hZ {α:Sort _} {x:α} {A B C:Prop} (h:C):(A∨x=x∨B)∧C:=⟨.inr (.inl rfl),h⟩
theorem ia {α β:Sort _} {x:α} {y:β} {A B D C:Prop} (h:C):(A∨B∨D∨x=x∧y=y)∧C:=⟨.inr (.inr (.inr ⟨rfl,rfl⟩)),h⟩
theorem ib {α β:Sort _} {x:α} {y:β} {A B D C:Prop} (h:C):(A∨B∨(x=x∧y=y∧True)∨D)∧C:=⟨.inr (.inr (.inl ⟨rfl,rfl,trivial⟩)),h⟩
end Go.Proofs.Ytbbmofoiipjbgaa
namespace Go.Proofs.Ytbbmofoiipjbgaa
set_option maxRecDepth 100000
abbrev fN:Ty:=(.st (.pair (.int .i64) (.pair (.int .i64) (.pair .bool (.int .u8)))))
abbrev cQ:Ty:=(.st (.pair .str (.int .u64)))
abbrev nL:Ty:=(.st (.pair (.st (.pair (.int .u8) (.pair (.int .u8) (.pair (.int .u8) (.int .u8))))) (.sl (.st (.pair (.int .u8) (.pair (.int .u8) (.int .u8)))))))
abbrev dO:Ty:=(.st (.pair (.int .u8) (.pair (.int .u8) (.int .i64))))
abbrev aW:Ty:=(.st (.pair (.int .i64) (.pair (.int .i64) (.pair (.int .i64) (.pair (.int .i64) (.sl dO))))))
abbrev aZ:Ty:=(.st (.pair (.int .i64) (.int .i64)))
def Cs:List (Nat×Ty):=[(1,.bG),(2,(.int .i64)),(3,(.int .i64)),(4,.bool),(5,(.int .u8)),(6,(.int .u8)),(7,fN),(8,fN),(9,.str),(10,.str),(11,.str),(12,(.int .u64)),(13,cQ),(14,cQ),(21,(.int .i32)),(22,(.st (.pair (.int .u8) (.pair (.int .u8) (.pair (.int .u8) (.int .u8)))))),(23,(.sl (.st (.pair (.int .u8) (.pair (.int .u8) (.int .u8)))))),(24,nL),(25,nL),(26,(.sl (.int .u8))),(27,(.st (.pair (.sl (.int .u8)) (.sl (.int .u8))))),(28,(.sl (.sl (.int .u8)))),(29,.bG),(30,(.sl dO)),(31,aW),(32,aW),(33,.bG),(34,.bG),(35,(.sl .str)),(36,.bG),(37,.bG),(38,.bG),(39,(.sl aZ)),(40,.bG),(41,.bG),(42,dO),(43,dO),(44,aZ),(45,aZ),(46,.bG),(47,(.st (.pair (.int .u8) (.pair (.int .u8) (.int .u8))))),(48,.bG),(49,.bG),(50,(.sl (.int .i64))),(51,(.st (.pair (.sl (.int .i64)) (.pair (.sl (.int .i64)) (.sl (.int .i64)))))),(52,(.sl (.sl (.int .i64)))),(53,.bG),(54,.bG),(55,.bG),(56,.bG),(57,.bG),(58,.bG),(59,.bG),(60,(.st (.pair (.int .u8) (.int .u8)))),(61,.bG),(62,.bG),(63,.bG),(64,(.int .u64)),(65,.bG),(66,(.int .i64)),(68,.bG),(69,.bG),(70,.bG),(72,.bG),(73,.bG),(74,(.int .u32)),(75,.bG),(76,(.int .u64)),(77,(.int .u64)),(78,.bG),(79,.bG),(80,.bG),(82,.bG),(85,.bG),(86,.bG),(92,.bG),(93,(.int .u8)),(94,(.int .u8)),(95,.bG),(97,(.int .i32)),(98,(.int .i32))]
def strs:List Nat:=[7,8,13,14,24,25,31,32,42,43,44,45]
def xb:List Nat:=[7,8,22,42,43,44,45,47,60]
def fns:List (Nat×(List Ty×Ty)):=[(2,([],.unit)),(3,([nL,(.st (.pair (.sl (.int .u8)) (.sl (.int .u8)))),(.sl (.sl (.int .u8)))],.bool)),(4,([],.bool)),(5,([nL],aW)),(6,([(.sl (.int .u8)),(.int .i64)],.str)),(7,([(.sl (.sl (.int .u8))),(.int .i64)],(.sl .str))),(8,([aW,.str,.str],(.int .i64))),(9,([aW,.str,.str],(.int .i64))),(10,([(.sl aZ),(.sl aZ)],.bool)),(11,([aW,.str,(.sl .str),(.int .i64)],(.sl aZ))),(12,([aW,.str,(.sl .str),(.int .i64)],(.sl aZ))),(13,([aW],.bool)),(14,([aW],.bool)),(16,([aW,(.int .u8),(.int .u8)],(.int .i64))),(19,([(.sl (.int .i64))],(.int .i64))),(20,([(.int .i64),(.int .i64)],(.int .i64))),(21,([(.int .i64)],.bool)),(22,([(.int .u8)],.bool)),(23,([(.int .u8),(.int .u8)],(.st (.pair (.int .u8) (.int .u8))))),(24,([(.int .i64)],.bool)),(25,([(.int .u8)],.bool)),(28,([(.int .u64)],(.int .i64))),(29,([(.int .i64)],.bool)),(38,([(.int .u32)],(.int .i64))),(39,([(.int .u64)],(.int .i64))),(41,([(.int .i64)],(.int .u64))),(15,([aW],(.ea 26 (.ptr aW)))),(18,([aZ,aZ],(.int .i64))),(26,([(.int .u8),(.int .u8),(.ptr aW)],(.int .i64)))]
def zP:List (Nat×List (Option Ty)):=[(17,[none,none]),(27,[none,some (.int .i64),some (.int .i64),some (.int .i64),none]),(30,[none,some (.int .i64),some (.int .i64),none])]
def Md:List (Nat×Nat):=[]
noncomputable def env:Env:=Gg Try.prog Cs strs xb fns zP Md [] false [] [] [] [] [] [((12,10),[[1,2,5,6,10,11,0,3,4,7,8,9,12,13,14],[1,2,5,6,10,11,0,3,4,7,8,12,9,13,14],[1,2,5,6,10,11,0,3,4,7,12,8,9,13,14],[1,2,5,6,10,11,0,3,4,12,7,8,9,13,14],[1,2,5,6,10,11,0,3,7,4,8,9,12,13,14],[1,2,5,6,10,11,0,3,7,4,8,12,9,13,14],[1,2,5,6,10,11,0,3,7,4,12,8,9,13,14],[1,2,5,6,10,11,0,3,7,8,4,9,12,13,14],[1,2,5,6,10,11,0,3,7,8,4,12,9,13,14],[1,2,5,6,10,11,0,3,7,8,12,4,9,13,14],[1,2,5,6,10,11,0,3,7,12,4,8,9,13,14],[1,2,5,6,10,11,0,3,7,12,8,4,9,13,14],[1,2,5,6,10,11,0,3,12,4,7,8,9,13,14],[1,2,5,6,10,11,0,3,12,7,4,8,9,13,14],[1,2,5,6,10,11,0,3,12,7,8,4,9,13,14],[1,2,5,6,10,11,0,7,3,4,8,9,12,13,14],[1,2,5,6,10,11,0,7,3,4,8,12,9,13,14],[1,2,5,6,10,11,0,7,3,4,12,8,9,13,14],[1,2,5,6,10,11,0,7,3,8,4,9,12,13,14],[1,2,5,6,10,11,0,7,3,8,4,12,9,13,14],[1,2,5,6,10,11,0,7,3,8,12,4,9,13,14],[1,2,5,6,10,11,0,7,3,12,4,8,9,13,14],[1,2,5,6,10,11,0,7,3,12,8,4,9,13,14],[1,2,5,6,10,11,0,7,8,3,4,9,12,13,14],[1,2,5,6,10,11,0,7,8,3,4,12,9,13,14],[1,2,5,6,10,11,0,7,8,3,12,4,9,13,14],[1,2,5,6,10,11,0,7,8,12,3,4,9,13,14],[1,2,5,6,10,11,0,7,12,3,4,8,9,13,14],[1,2,5,6,10,11,0,7,12,3,8,4,9,13,14],[1,2,5,6,10,11,0,7,12,8,3,4,9,13,14],[1,2,5,6,10,11,0,12,3,4,7,8,9,13,14],[1,2,5,6,10,11,0,12,3,7,4,8,9,13,14],[1,2,5,6,10,11,0,12,3,7,8,4,9,13,14],[1,2,5,6,10,11,0,12,7,3,4,8,9,13,14],[1,2,5,6,10,11,0,12,7,3,8,4,9,13,14],[1,2,5,6,10,11,0,12,7,8,3,4,9,13,14],[1,2,5,6,10,11,3,0,4,7,8,9,12,13,14],[1,2,5,6,10,11,3,0,4,7,8,12,9,13,14],[1,2,5,6,10,11,3,0,4,7,12,8,9,13,14],[1,2,5,6,10,11,3,0,4,12,7,8,9,13,14],[1,2,5,6,10,11,3,0,7,4,8,9,12,13,14],[1,2,5,6,10,11,3,0,7,4,8,12,9,13,14],[1,2,5,6,10,11,3,0,7,4,12,8,9,13,14],[1,2,5,6,10,11,3,0,7,8,4,9,12,13,14],[1,2,5,6,10,11,3,0,7,8,4,12,9,13,14],[1,2,5,6,10,11,3,0,7,8,12,4,9,13,14],[1,2,5,6,10,11,3,0,7,12,4,8,9,13,14],[1,2,5,6,10,11,3,0,7,12,8,4,9,13,14],[1,2,5,6,10,11,3,0,12,4,7,8,9,13,14],[1,2,5,6,10,11,3,0,12,7,4,8,9,13,14],[1,2,5,6,10,11,3,0,12,7,8,4,9,13,14],[1,2,5,6,10,11,3,7,0,4,8,9,12,13,14],[1,2,5,6,10,11,3,7,0,4,8,12,9,13,14],[1,2,5,6,10,11,3,7,0,4,12,8,9,13,14],[1,2,5,6,10,11,3,7,0,8,4,9,12,13,14],[1,2,5,6,10,11,3,7,0,8,4,12,9,13,14],[1,2,5,6,10,11,3,7,0,8,12,4,9,13,14],[1,2,5,6,10,11,3,7,0,12,4,8,9,13,14],[1,2,5,6,10,11,3,7,0,12,8,4,9,13,14],[1,2,5,6,10,11,3,7,8,0,4,9,12,13,14],[1,2,5,6,10,11,3,7,8,0,4,12,9,13,14],[1,2,5,6,10,11,3,7,8,0,12,4,9,13,14],[1,2,5,6,10,11,3,7,8,12,0,4,9,13,14],[1,2,5,6,10,11,3,7,12,0,4,8,9,13,14],[1,2,5,6,10,11,3,7,12,0,8,4,9,13,14],[1,2,5,6,10,11,3,7,12,8,0,4,9,13,14],[1,2,5,6,10,11,3,12,0,4,7,8,9,13,14],[1,2,5,6,10,11,3,12,0,7,4,8,9,13,14],[1,2,5,6,10,11,3,12,0,7,8,4,9,13,14],[1,2,5,6,10,11,3,12,7,0,4,8,9,13,14],[1,2,5,6,10,11,3,12,7,0,8,4,9,13,14],[1,2,5,6,10,11,3,12,7,8,0,4,9,13,14],[1,2,5,6,10,11,7,0,3,4,8,9,12,13,14],[1,2,5,6,10,11,7,0,3,4,8,12,9,13,14],[1,2,5,6,10,11,7,0,3,4,12,8,9,13,14],[1,2,5,6,10,11,7,0,3,8,4,9,12,13,14],[1,2,5,6,10,11,7,0,3,8,4,12,9,13,14],[1,2,5,6,10,11,7,0,3,8,12,4,9,13,14],[1,2,5,6,10,11,7,0,3,12,4,8,9,13,14],[1,2,5,6,10,11,7,0,3,12,8,4,9,13,14],[1,2,5,6,10,11,7,0,8,3,4,9,12,13,14],[1,2,5,6,10,11,7,0,8,3,4,12,9,13,14],[1,2,5,6,10,11,7,0,8,3,12,4,9,13,14],[1,2,5,6,10,11,7,0,8,12,3,4,9,13,14],[1,2,5,6,10,11,7,0,12,3,4,8,9,13,14],[1,2,5,6,10,11,7,0,12,3,8,4,9,13,14],[1,2,5,6,10,11,7,0,12,8,3,4,9,13,14],[1,2,5,6,10,11,7,3,0,4,8,9,12,13,14],[1,2,5,6,10,11,7,3,0,4,8,12,9,13,14],[1,2,5,6,10,11,7,3,0,4,12,8,9,13,14],[1,2,5,6,10,11,7,3,0,8,4,9,12,13,14],[1,2,5,6,10,11,7,3,0,8,4,12,9,13,14],[1,2,5,6,10,11,7,3,0,8,12,4,9,13,14],[1,2,5,6,10,11,7,3,0,12,4,8,9,13,14],[1,2,5,6,10,11,7,3,0,12,8,4,9,13,14],[1,2,5,6,10,11,7,3,8,0,4,9,12,13,14],[1,2,5,6,10,11,7,3,8,0,4,12,9,13,14],[1,2,5,6,10,11,7,3,8,0,12,4,9,13,14],[1,2,5,6,10,11,7,3,8,12,0,4,9,13,14],[1,2,5,6,10,11,7,3,12,0,4,8,9,13,14],[1,2,5,6,10,11,7,3,12,0,8,4,9,13,14],[1,2,5,6,10,11,7,3,12,8,0,4,9,13,14],[1,2,5,6,10,11,7,8,0,3,4,9,12,13,14],[1,2,5,6,10,11,7,8,0,3,4,12,9,13,14],[1,2,5,6,10,11,7,8,0,3,12,4,9,13,14],[1,2,5,6,10,11,7,8,0,12,3,4,9,13,14],[1,2,5,6,10,11,7,8,3,0,4,9,12,13,14],[1,2,5,6,10,11,7,8,3,0,4,12,9,13,14],[1,2,5,6,10,11,7,8,3,0,12,4,9,13,14],[1,2,5,6,10,11,7,8,3,12,0,4,9,13,14],[1,2,5,6,10,11,7,8,12,0,3,4,9,13,14],[1,2,5,6,10,11,7,8,12,3,0,4,9,13,14],[1,2,5,6,10,11,7,12,0,3,4,8,9,13,14],[1,2,5,6,10,11,7,12,0,3,8,4,9,13,14],[1,2,5,6,10,11,7,12,0,8,3,4,9,13,14],[1,2,5,6,10,11,7,12,3,0,4,8,9,13,14],[1,2,5,6,10,11,7,12,3,0,8,4,9,13,14],[1,2,5,6,10,11,7,12,3,8,0,4,9,13,14],[1,2,5,6,10,11,7,12,8,0,3,4,9,13,14],[1,2,5,6,10,11,7,12,8,3,0,4,9,13,14],[1,2,5,6,10,11,12,0,3,4,7,8,9,13,14],[1,2,5,6,10,11,12,0,3,7,4,8,9,13,14],[1,2,5,6,10,11,12,0,3,7,8,4,9,13,14],[1,2,5,6,10,11,12,0,7,3,4,8,9,13,14],[1,2,5,6,10,11,12,0,7,3,8,4,9,13,14],[1,2,5,6,10,11,12,0,7,8,3,4,9,13,14],[1,2,5,6,10,11,12,3,0,4,7,8,9,13,14],[1,2,5,6,10,11,12,3,0,7,4,8,9,13,14],[1,2,5,6,10,11,12,3,0,7,8,4,9,13,14],[1,2,5,6,10,11,12,3,7,0,4,8,9,13,14],[1,2,5,6,10,11,12,3,7,0,8,4,9,13,14],[1,2,5,6,10,11,12,3,7,8,0,4,9,13,14],[1,2,5,6,10,11,12,7,0,3,4,8,9,13,14],[1,2,5,6,10,11,12,7,0,3,8,4,9,13,14],[1,2,5,6,10,11,12,7,0,8,3,4,9,13,14],[1,2,5,6,10,11,12,7,3,0,4,8,9,13,14],[1,2,5,6,10,11,12,7,3,0,8,4,9,13,14],[1,2,5,6,10,11,12,7,3,8,0,4,9,13,14],[1,2,5,6,10,11,12,7,8,0,3,4,9,13,14],[1,2,5,6,10,11,12,7,8,3,0,4,9,13,14]])] [] [] []
theorem Ib(t:Nat):env.emp t=false:=rfl
theorem Ic(f i:Nat):env.se f i=false:=rfl
theorem Me(f i:Nat):env.fl f i=Eo [((12,10),[[1,2,5,6,10,11,0,3,4,7,8,9,12,13,14],[1,2,5,6,10,11,0,3,4,7,8,12,9,13,14],[1,2,5,6,10,11,0,3,4,7,12,8,9,13,14],[1,2,5,6,10,11,0,3,4,12,7,8,9,13,14],[1,2,5,6,10,11,0,3,7,4,8,9,12,13,14],[1,2,5,6,10,11,0,3,7,4,8,12,9,13,14],[1,2,5,6,10,11,0,3,7,4,12,8,9,13,14],[1,2,5,6,10,11,0,3,7,8,4,9,12,13,14],[1,2,5,6,10,11,0,3,7,8,4,12,9,13,14],[1,2,5,6,10,11,0,3,7,8,12,4,9,13,14],[1,2,5,6,10,11,0,3,7,12,4,8,9,13,14],[1,2,5,6,10,11,0,3,7,12,8,4,9,13,14],[1,2,5,6,10,11,0,3,12,4,7,8,9,13,14],[1,2,5,6,10,11,0,3,12,7,4,8,9,13,14],[1,2,5,6,10,11,0,3,12,7,8,4,9,13,14],[1,2,5,6,10,11,0,7,3,4,8,9,12,13,14],[1,2,5,6,10,11,0,7,3,4,8,12,9,13,14],[1,2,5,6,10,11,0,7,3,4,12,8,9,13,14],[1,2,5,6,10,11,0,7,3,8,4,9,12,13,14],[1,2,5,6,10,11,0,7,3,8,4,12,9,13,14],[1,2,5,6,10,11,0,7,3,8,12,4,9,13,14],[1,2,5,6,10,11,0,7,3,12,4,8,9,13,14],[1,2,5,6,10,11,0,7,3,12,8,4,9,13,14],[1,2,5,6,10,11,0,7,8,3,4,9,12,13,14],[1,2,5,6,10,11,0,7,8,3,4,12,9,13,14],[1,2,5,6,10,11,0,7,8,3,12,4,9,13,14],[1,2,5,6,10,11,0,7,8,12,3,4,9,13,14],[1,2,5,6,10,11,0,7,12,3,4,8,9,13,14],[1,2,5,6,10,11,0,7,12,3,8,4,9,13,14],[1,2,5,6,10,11,0,7,12,8,3,4,9,13,14],[1,2,5,6,10,11,0,12,3,4,7,8,9,13,14],[1,2,5,6,10,11,0,12,3,7,4,8,9,13,14],[1,2,5,6,10,11,0,12,3,7,8,4,9,13,14],[1,2,5,6,10,11,0,12,7,3,4,8,9,13,14],[1,2,5,6,10,11,0,12,7,3,8,4,9,13,14],[1,2,5,6,10,11,0,12,7,8,3,4,9,13,14],[1,2,5,6,10,11,3,0,4,7,8,9,12,13,14],[1,2,5,6,10,11,3,0,4,7,8,12,9,13,14],[1,2,5,6,10,11,3,0,4,7,12,8,9,13,14],[1,2,5,6,10,11,3,0,4,12,7,8,9,13,14],[1,2,5,6,10,11,3,0,7,4,8,9,12,13,14],[1,2,5,6,10,11,3,0,7,4,8,12,9,13,14],[1,2,5,6,10,11,3,0,7,4,12,8,9,13,14],[1,2,5,6,10,11,3,0,7,8,4,9,12,13,14],[1,2,5,6,10,11,3,0,7,8,4,12,9,13,14],[1,2,5,6,10,11,3,0,7,8,12,4,9,13,14],[1,2,5,6,10,11,3,0,7,12,4,8,9,13,14],[1,2,5,6,10,11,3,0,7,12,8,4,9,13,14],[1,2,5,6,10,11,3,0,12,4,7,8,9,13,14],[1,2,5,6,10,11,3,0,12,7,4,8,9,13,14],[1,2,5,6,10,11,3,0,12,7,8,4,9,13,14],[1,2,5,6,10,11,3,7,0,4,8,9,12,13,14],[1,2,5,6,10,11,3,7,0,4,8,12,9,13,14],[1,2,5,6,10,11,3,7,0,4,12,8,9,13,14],[1,2,5,6,10,11,3,7,0,8,4,9,12,13,14],[1,2,5,6,10,11,3,7,0,8,4,12,9,13,14],[1,2,5,6,10,11,3,7,0,8,12,4,9,13,14],[1,2,5,6,10,11,3,7,0,12,4,8,9,13,14],[1,2,5,6,10,11,3,7,0,12,8,4,9,13,14],[1,2,5,6,10,11,3,7,8,0,4,9,12,13,14],[1,2,5,6,10,11,3,7,8,0,4,12,9,13,14],[1,2,5,6,10,11,3,7,8,0,12,4,9,13,14],[1,2,5,6,10,11,3,7,8,12,0,4,9,13,14],[1,2,5,6,10,11,3,7,12,0,4,8,9,13,14],[1,2,5,6,10,11,3,7,12,0,8,4,9,13,14],[1,2,5,6,10,11,3,7,12,8,0,4,9,13,14],[1,2,5,6,10,11,3,12,0,4,7,8,9,13,14],[1,2,5,6,10,11,3,12,0,7,4,8,9,13,14],[1,2,5,6,10,11,3,12,0,7,8,4,9,13,14],[1,2,5,6,10,11,3,12,7,0,4,8,9,13,14],[1,2,5,6,10,11,3,12,7,0,8,4,9,13,14],[1,2,5,6,10,11,3,12,7,8,0,4,9,13,14],[1,2,5,6,10,11,7,0,3,4,8,9,12,13,14],[1,2,5,6,10,11,7,0,3,4,8,12,9,13,14],[1,2,5,6,10,11,7,0,3,4,12,8,9,13,14],[1,2,5,6,10,11,7,0,3,8,4,9,12,13,14],[1,2,5,6,10,11,7,0,3,8,4,12,9,13,14],[1,2,5,6,10,11,7,0,3,8,12,4,9,13,14],[1,2,5,6,10,11,7,0,3,12,4,8,9,13,14],[1,2,5,6,10,11,7,0,3,12,8,4,9,13,14],[1,2,5,6,10,11,7,0,8,3,4,9,12,13,14],[1,2,5,6,10,11,7,0,8,3,4,12,9,13,14],[1,2,5,6,10,11,7,0,8,3,12,4,9,13,14],[1,2,5,6,10,11,7,0,8,12,3,4,9,13,14],[1,2,5,6,10,11,7,0,12,3,4,8,9,13,14],[1,2,5,6,10,11,7,0,12,3,8,4,9,13,14],[1,2,5,6,10,11,7,0,12,8,3,4,9,13,14],[1,2,5,6,10,11,7,3,0,4,8,9,12,13,14],[1,2,5,6,10,11,7,3,0,4,8,12,9,13,14],[1,2,5,6,10,11,7,3,0,4,12,8,9,13,14],[1,2,5,6,10,11,7,3,0,8,4,9,12,13,14],[1,2,5,6,10,11,7,3,0,8,4,12,9,13,14],[1,2,5,6,10,11,7,3,0,8,12,4,9,13,14],[1,2,5,6,10,11,7,3,0,12,4,8,9,13,14],[1,2,5,6,10,11,7,3,0,12,8,4,9,13,14],[1,2,5,6,10,11,7,3,8,0,4,9,12,13,14],[1,2,5,6,10,11,7,3,8,0,4,12,9,13,14],[1,2,5,6,10,11,7,3,8,0,12,4,9,13,14],[1,2,5,6,10,11,7,3,8,12,0,4,9,13,14],[1,2,5,6,10,11,7,3,12,0,4,8,9,13,14],[1,2,5,6,10,11,7,3,12,0,8,4,9,13,14],[1,2,5,6,10,11,7,3,12,8,0,4,9,13,14],[1,2,5,6,10,11,7,8,0,3,4,9,12,13,14],[1,2,5,6,10,11,7,8,0,3,4,12,9,13,14],[1,2,5,6,10,11,7,8,0,3,12,4,9,13,14],[1,2,5,6,10,11,7,8,0,12,3,4,9,13,14],[1,2,5,6,10,11,7,8,3,0,4,9,12,13,14],[1,2,5,6,10,11,7,8,3,0,4,12,9,13,14],[1,2,5,6,10,11,7,8,3,0,12,4,9,13,14],[1,2,5,6,10,11,7,8,3,12,0,4,9,13,14],[1,2,5,6,10,11,7,8,12,0,3,4,9,13,14],[1,2,5,6,10,11,7,8,12,3,0,4,9,13,14],[1,2,5,6,10,11,7,12,0,3,4,8,9,13,14],[1,2,5,6,10,11,7,12,0,3,8,4,9,13,14],[1,2,5,6,10,11,7,12,0,8,3,4,9,13,14],[1,2,5,6,10,11,7,12,3,0,4,8,9,13,14],[1,2,5,6,10,11,7,12,3,0,8,4,9,13,14],[1,2,5,6,10,11,7,12,3,8,0,4,9,13,14],[1,2,5,6,10,11,7,12,8,0,3,4,9,13,14],[1,2,5,6,10,11,7,12,8,3,0,4,9,13,14],[1,2,5,6,10,11,12,0,3,4,7,8,9,13,14],[1,2,5,6,10,11,12,0,3,7,4,8,9,13,14],[1,2,5,6,10,11,12,0,3,7,8,4,9,13,14],[1,2,5,6,10,11,12,0,7,3,4,8,9,13,14],[1,2,5,6,10,11,12,0,7,3,8,4,9,13,14],[1,2,5,6,10,11,12,0,7,8,3,4,9,13,14],[1,2,5,6,10,11,12,3,0,4,7,8,9,13,14],[1,2,5,6,10,11,12,3,0,7,4,8,9,13,14],[1,2,5,6,10,11,12,3,0,7,8,4,9,13,14],[1,2,5,6,10,11,12,3,7,0,4,8,9,13,14],[1,2,5,6,10,11,12,3,7,0,8,4,9,13,14],[1,2,5,6,10,11,12,3,7,8,0,4,9,13,14],[1,2,5,6,10,11,12,7,0,3,4,8,9,13,14],[1,2,5,6,10,11,12,7,0,3,8,4,9,13,14],[1,2,5,6,10,11,12,7,0,8,3,4,9,13,14],[1,2,5,6,10,11,12,7,3,0,4,8,9,13,14],[1,2,5,6,10,11,12,7,3,0,8,4,9,13,14],[1,2,5,6,10,11,12,7,3,8,0,4,9,13,14],[1,2,5,6,10,11,12,7,8,0,3,4,9,13,14],[1,2,5,6,10,11,12,7,8,3,0,4,9,13,14]])] f i:=rfl
theorem Ie(t:Nat):env.Dv t=false:=rfl
theorem Mf(f:Nat):env.px f=false:=rfl
theorem Mg(f:Nat):env.nd f=false:=rfl
theorem Mh(t:Nat):env.AY t=false:=rfl
theorem Mi(t:Nat):env.yU t=none:=rfl
theorem Mj(d t:Nat):env.ro d t=false:=rfl
theorem Mk:env.tm=false:=rfl
theorem aR:aA env:=Cu (by kernel_rfl) (by kernel_rfl) (by kernel_rfl) (by kernel_rfl) (by kernel_rfl) (by kernel_rfl) (by kernel_rfl) (by kernel_rfl) (by kernel_rfl) (by kernel_rfl)
theorem Ml:env.ty 1=some .bG:=rfl
theorem Mm:env.ty 2=some (.int .i64):=rfl
theorem Mn:env.ty 3=some (.int .i64):=rfl
theorem Mo:env.ty 4=some .bool:=rfl
theorem Mp:env.ty 5=some (.int .u8):=rfl
theorem Mq:env.ty 6=some (.int .u8):=rfl
theorem Mr:env.ty 7=some fN:=rfl
theorem Ms:env.ty 8=some fN:=rfl
theorem Mt:env.ty 9=some .str:=rfl
theorem Ig:env.ty 10=some .str:=rfl
theorem Ih:env.ty 11=some .str:=rfl
theorem Ii:env.ty 12=some (.int .u64):=rfl
theorem Ij:env.ty 13=some cQ:=rfl
theorem Ik:env.ty 14=some cQ:=rfl
theorem Il:env.ty 21=some (.int .i32):=rfl
theorem Im:env.ty 22=some (.st (.pair (.int .u8) (.pair (.int .u8) (.pair (.int .u8) (.int .u8))))):=rfl
theorem Io:env.ty 23=some (.sl (.st (.pair (.int .u8) (.pair (.int .u8) (.int .u8))))):=rfl
theorem Ip:env.ty 24=some nL:=rfl
theorem Iq:env.ty 25=some nL:=rfl
theorem Ir:env.ty 26=some (.sl (.int .u8)):=rfl
theorem Is:env.ty 27=some (.st (.pair (.sl (.int .u8)) (.sl (.int .u8)))):=rfl
theorem It:env.ty 28=some (.sl (.sl (.int .u8))):=rfl
theorem Iu:env.ty 29=some .bG:=rfl
theorem Iv:env.ty 30=some (.sl dO):=rfl
theorem Iw:env.ty 31=some aW:=rfl
theorem Ix:env.ty 32=some aW:=rfl
theorem Iy:env.ty 33=some .bG:=rfl
theorem Iz:env.ty 34=some .bG:=rfl
theorem IA:env.ty 35=some (.sl .str):=rfl
theorem IB:env.ty 36=some .bG:=rfl
theorem IC:env.ty 37=some .bG:=rfl
theorem ID:env.ty 38=some .bG:=rfl
theorem IE:env.ty 39=some (.sl aZ):=rfl
theorem IF:env.ty 40=some .bG:=rfl
theorem IG:env.ty 41=some .bG:=rfl
theorem IH:env.ty 42=some dO:=rfl
theorem II:env.ty 43=some dO:=rfl
theorem IJ:env.ty 44=some aZ:=rfl
theorem IK:env.ty 45=some aZ:=rfl
theorem IL:env.ty 46=some .bG:=rfl
theorem IM:env.ty 47=some (.st (.pair (.int .u8) (.pair (.int .u8) (.int .u8)))):=rfl
theorem IN:env.ty 48=some .bG:=rfl
theorem IP:env.ty 49=some .bG:=rfl
theorem IQ:env.ty 50=some (.sl (.int .i64)):=rfl
theorem IS:env.ty 51=some (.st (.pair (.sl (.int .i64)) (.pair (.sl (.int .i64)) (.sl (.int .i64))))):=rfl
theorem IT:env.ty 52=some (.sl (.sl (.int .i64))):=rfl
theorem IU:env.ty 53=some .bG:=rfl
theorem IV:env.ty 54=some .bG:=rfl
theorem IW:env.ty 55=some .bG:=rfl
theorem IX:env.ty 56=some .bG:=rfl
theorem IY:env.ty 57=some .bG:=rfl
theorem IZ:env.ty 58=some .bG:=rfl
theorem I0:env.ty 59=some .bG:=rfl
theorem I1:env.ty 60=some (.st (.pair (.int .u8) (.int .u8))):=rfl
theorem I2:env.ty 61=some .bG:=rfl
theorem I3:env.ty 62=some .bG:=rfl
theorem I4:env.ty 63=some .bG:=rfl
theorem I5:env.ty 64=some (.int .u64):=rfl
theorem I6:env.ty 65=some .bG:=rfl
theorem I7:env.ty 66=some (.int .i64):=rfl
theorem I8:env.ty 68=some .bG:=rfl
theorem I9:env.ty 69=some .bG:=rfl
theorem Ja:env.ty 70=some .bG:=rfl
theorem Jb:env.ty 72=some .bG:=rfl
theorem Jc:env.ty 73=some .bG:=rfl
theorem Jd:env.ty 74=some (.int .u32):=rfl
theorem Je:env.ty 75=some .bG:=rfl
theorem Jf:env.ty 76=some (.int .u64):=rfl
theorem Jg:env.ty 77=some (.int .u64):=rfl
theorem Jh:env.ty 78=some .bG:=rfl
theorem Ji:env.ty 79=some .bG:=rfl
theorem Jj:env.ty 80=some .bG:=rfl
theorem Jk:env.ty 82=some .bG:=rfl
theorem Jl:env.ty 85=some .bG:=rfl
theorem Jm:env.ty 86=some .bG:=rfl
theorem Jn:env.ty 92=some .bG:=rfl
theorem Jo:env.ty 93=some (.int .u8):=rfl
theorem Jp:env.ty 94=some (.int .u8):=rfl
theorem Jq:env.ty 95=some .bG:=rfl
theorem Jr:env.ty 97=some (.int .i32):=rfl
theorem Js:env.ty 98=some (.int .i32):=rfl
theorem Jt:env.str 7=true:=rfl
theorem Ju:env.str 8=true:=rfl
theorem Ff:env.str 13=true:=rfl
theorem Fg:env.str 14=true:=rfl
theorem Fh:env.str 24=true:=rfl
theorem Fi:env.str 25=true:=rfl
theorem Fj:env.str 31=true:=rfl
theorem Fk:env.str 32=true:=rfl
theorem Fl:env.str 42=true:=rfl
theorem Fm:env.str 43=true:=rfl
theorem Fo:env.str 44=true:=rfl
theorem Fp:env.str 45=true:=rfl
theorem Fq:env.str 22=false:=rfl
theorem Fs:env.str 27=false:=rfl
theorem Ft:env.str 47=false:=rfl
theorem Fu:env.str 51=false:=rfl
theorem Fv:env.str 60=false:=rfl
theorem Jv:env.cmp 7=true:=rfl
theorem Jw:env.cmp 8=true:=rfl
theorem Fw:env.cmp 22=true:=rfl
theorem Fx:env.cmp 42=true:=rfl
theorem Fy:env.cmp 43=true:=rfl
theorem Fz:env.cmp 44=true:=rfl
theorem FA:env.cmp 45=true:=rfl
theorem FB:env.cmp 47=true:=rfl
theorem FC:env.cmp 60=true:=rfl
theorem Mu:env.fn 2=some ([],.unit):=rfl
theorem Mv:env.fn 3=some ([nL,(.st (.pair (.sl (.int .u8)) (.sl (.int .u8)))),(.sl (.sl (.int .u8)))],.bool):=rfl
theorem Mw:env.fn 4=some ([],.bool):=rfl
theorem Mx:env.fn 5=some ([nL],aW):=rfl
theorem My:env.fn 6=some ([(.sl (.int .u8)),(.int .i64)],.str):=rfl
theorem Mz:env.fn 7=some ([(.sl (.sl (.int .u8))),(.int .i64)],(.sl .str)):=rfl
theorem MA:env.fn 8=some ([aW,.str,.str],(.int .i64)):=rfl
theorem MB:env.fn 9=some ([aW,.str,.str],(.int .i64)):=rfl
theorem Jx:env.fn 10=some ([(.sl aZ),(.sl aZ)],.bool):=rfl
theorem Jy:env.fn 11=some ([aW,.str,(.sl .str),(.int .i64)],(.sl aZ)):=rfl
theorem Jz:env.fn 12=some ([aW,.str,(.sl .str),(.int .i64)],(.sl aZ)):=rfl
theorem JA:env.fn 13=some ([aW],.bool):=rfl
theorem JB:env.fn 14=some ([aW],.bool):=rfl
theorem JC:env.fn 16=some ([aW,(.int .u8),(.int .u8)],(.int .i64)):=rfl
theorem JD:env.fn 19=some ([(.sl (.int .i64))],(.int .i64)):=rfl
theorem JE:env.fn 20=some ([(.int .i64),(.int .i64)],(.int .i64)):=rfl
theorem JF:env.fn 21=some ([(.int .i64)],.bool):=rfl
theorem JG:env.fn 22=some ([(.int .u8)],.bool):=rfl
theorem JH:env.fn 23=some ([(.int .u8),(.int .u8)],(.st (.pair (.int .u8) (.int .u8)))):=rfl
theorem JI:env.fn 24=some ([(.int .i64)],.bool):=rfl
theorem JJ:env.fn 25=some ([(.int .u8)],.bool):=rfl
theorem JK:env.fn 28=some ([(.int .u64)],(.int .i64)):=rfl
theorem JL:env.fn 29=some ([(.int .i64)],.bool):=rfl
theorem JM:env.fn 38=some ([(.int .u32)],(.int .i64)):=rfl
theorem JN:env.fn 39=some ([(.int .u64)],(.int .i64)):=rfl
theorem JO:env.fn 41=some ([(.int .i64)],(.int .u64)):=rfl
theorem JP:env.fn 15=some ([aW],(.ea 26 (.ptr aW))):=rfl
theorem JQ:env.fn 18=some ([aZ,aZ],(.int .i64)):=rfl
theorem JR:env.fn 26=some ([(.int .u8),(.int .u8),(.ptr aW)],(.int .i64)):=rfl
theorem JS:env.fn 17=none:=rfl
theorem FD:env.dx 17=some [none,none]:=rfl
theorem JT:env.fn 27=none:=rfl
theorem FE:env.dx 27=some [none,some (.int .i64),some (.int .i64),some (.int .i64),none]:=rfl
theorem JU:env.fn 30=none:=rfl
theorem FF:env.dx 30=some [none,some (.int .i64),some (.int .i64),none]:=rfl
theorem Vi:env.P.funcs[2]?=some Try.f2:=rfl
theorem JV:env.P.funcs[3]?=some Try.f3:=rfl
theorem Pf:env.P.funcs[4]?=some Try.f4:=rfl
theorem MC:env.P.funcs[5]?=some Try.f5:=rfl
theorem MD:env.P.funcs[6]?=some Try.f6:=rfl
theorem ME:env.P.funcs[7]?=some Try.f7:=rfl
theorem FG:env.P.funcs[8]?=some Try.f8:=rfl
theorem Vj:env.P.funcs[9]?=some Try.f9:=rfl
theorem Gn:env.P.funcs[10]?=some Try.f10:=rfl
theorem Gp:env.P.funcs[11]?=some Try.f11:=rfl
theorem CY:env.P.funcs[12]?=some Try.f12:=rfl
theorem CZ:env.P.funcs[13]?=some Try.f13:=rfl
theorem C0:env.P.funcs[14]?=some Try.f14:=rfl
theorem MF:env.P.funcs[15]?=some Try.f15:=rfl
theorem Gq:env.P.funcs[16]?=some Try.f16:=rfl
theorem MG:env.P.funcs[17]?=some Try.f17:=rfl
theorem MH:env.P.funcs[18]?=some Try.f18:=rfl
theorem Gr:env.P.funcs[19]?=some Try.f19:=rfl
theorem MI:env.P.funcs[20]?=some Try.f20:=rfl
theorem MJ:env.P.funcs[21]?=some Try.f21:=rfl
theorem MK:env.P.funcs[22]?=some Try.f22:=rfl
theorem ML:env.P.funcs[23]?=some Try.f23:=rfl
theorem MM:env.P.funcs[24]?=some Try.f24:=rfl
theorem MN:env.P.funcs[25]?=some Try.f25:=rfl
theorem Gs:env.P.funcs[26]?=some Try.f26:=rfl
theorem Gt:env.P.funcs[27]?=some Try.f27:=rfl
theorem MO:env.P.funcs[28]?=some Try.f28:=rfl
theorem MP:env.P.funcs[29]?=some Try.f29:=rfl
theorem vu:env.P.funcs[30]?=some Try.f30:=rfl
theorem SM:env.P.funcs[31]?=some Try.f31:=rfl
theorem SN:env.P.funcs[32]?=some Try.f32:=rfl
theorem SO:env.P.funcs[33]?=some Try.f33:=rfl
theorem SP:env.P.funcs[34]?=some Try.f34:=rfl
theorem SQ:env.P.funcs[35]?=some Try.f35:=rfl
theorem SR:env.P.funcs[36]?=some Try.f36:=rfl
theorem SS:env.P.funcs[37]?=some Try.f37:=rfl
theorem SU:env.P.funcs[38]?=some Try.f38:=rfl
theorem MQ:env.P.funcs[39]?=some Try.f39:=rfl
theorem SV:env.P.funcs[40]?=some Try.f40:=rfl
theorem SW:env.P.funcs[41]?=some Try.f41:=rfl
theorem SX:env.P.funcs[42]?=some Try.f42:=rfl
theorem SY:env.P.funcs[43]?=some Try.f43:=rfl
theorem SZ:env.P.funcs[44]?=some Try.f44:=rfl
theorem S2:env.P.funcs[45]?=some Try.f45:=rfl
attribute[go_sem]Ml Mm Mn Mo Mp Mq Mr Ms Mt Ig Ih Ii Ij Ik Il Im Io Ip Iq Ir Is It Iu Iv Iw Ix Iy Iz IA IB IC ID IE IF IG IH II IJ IK IL IM IN IP IQ IS IT IU IV IW IX IY IZ I0 I1 I2 I3 I4 I5 I6 I7 I8 I9 Ja Jb Jc Jd Je Jf Jg Jh Ji Jj Jk Jl Jm Jn Jo Jp Jq Jr Js Jt Ju Ff Fg Fh Fi Fj Fk Fl Fm Fo Fp Fq Fs Ft Fu Fv Jv Jw Fw Fx Fy Fz FA FB FC Mu Mv Mw Mx My Mz MA MB Jx Jy Jz JA JB JC JD JE JF JG JH JI JJ JK JL JM JN JO JP JQ JR JS FD JT FE JU FF Ie Mf Ib Me Ic Mg Mj Mk Mh Mi
instance VX:fV False:=⟨⟩
end Go.Proofs.Ytbbmofoiipjbgaa
namespace Go.Proofs.Ytbbmofoiipjbgaa
attribute[local go_sem←]Bool.decide_and Bool.decide_or decide_not
set_option maxHeartbeats 4000000
set_option maxRecDepth 100000
theorem fv {x:Int} (h: -9223372036854775808≤x)(h':x≤9223372036854775807):IntKind.i64.min≤x∧x≤IntKind.i64.max:=⟨h,h'⟩
theorem Pg {x:Int} (h:IntKind.i64.min≤x∧x≤IntKind.i64.max): -9223372036854775808≤x∧x≤9223372036854775807:=h
theorem C1 {x:Int} (h:0≤x)(h':x≤255):IntKind.u8.min≤x∧x≤IntKind.u8.max:=⟨h,h'⟩
theorem mO {x:Int} (h:IntKind.u8.min≤x∧x≤IntKind.u8.max):0≤x∧x≤255:=h
theorem drop_cons {α:Type} {xs:List α} {i:Nat} {x:α} (h:xs[i]?=some x):xs.drop i=x::xs.drop (i+1):=by obtain⟨hi,e⟩:=List.getElem?_eq_some_iff.1 h;rw[List.drop_eq_getElem_cons hi,e]
theorem dj {α:Type} {xs:List α} {i:Nat} {x:α} (h:xs[i]?=some x):xs.take (i+1)=xs.take i++ [x]:=by rw[List.take_add_one,h];rfl
theorem bf {α:Type} {xs:List α} {i:Nat} (h:i<xs.length): ∃x,xs[i]?=some x:=⟨_,List.getElem?_eq_getElem h⟩
theorem C2(c:Int):PC env 22 [⟨.int .u8,c⟩] .bool (decide (97≤c∧c≤122)):=by
 refine PC.cv (m:=2000) aR MK rfl rfl rfl rfl (by kernel_rfl) ?_;intro hx;simp only[Try.f22];simp only[go_sem,zA,↓reduceIte,↓reduceDIte,zB,zC,zD,zE,zF,zG,zH,zI]
 refine⟨fun h=>?_,fun h=>?_⟩;(·congr 1;simp[h]);·symm;simp;omega
theorem Ae(c:Int):PC env 25 [⟨.int .u8,c⟩] .bool (decide (97≤c∧c≤122)):=by
 refine PC.cv (m:=2000) aR MN rfl rfl rfl rfl (by kernel_rfl) ?_;intro hx;simp only[Try.f25];simp only[go_sem,zA,↓reduceIte,↓reduceDIte,zB,zC,zD,zE,zF,zG,zH,zI]
 refine⟨fun h=>?_,fun h=>?_⟩;(·congr 1;simp[h]);·symm;simp;omega
theorem yL(c:Int):PC env 21 [⟨.int .i64,c⟩] .bool (decide (1≤c∧c≤1000)):=by
 refine PC.cv (m:=2000) aR MJ rfl rfl rfl rfl (by kernel_rfl) ?_;intro hx;simp only[Try.f21];simp only[go_sem,zA,↓reduceIte,↓reduceDIte,zB,zC,zD,zE,zF,zG,zH,zI]
 refine⟨fun h=>?_,fun h=>?_⟩;(·congr 1;simp[h]);·symm;simp;omega
theorem C3(c:Int):PC env 24 [⟨.int .i64,c⟩] .bool (decide (1≤c∧c≤1000)):=by
 refine PC.cv (m:=2000) aR MM rfl rfl rfl rfl (by kernel_rfl) ?_;intro hx;simp only[Try.f24];simp only[go_sem,zA,↓reduceIte,↓reduceDIte,zB,zC,zD,zE,zF,zG,zH,zI]
 refine⟨fun h=>?_,fun h=>?_⟩;(·congr 1;simp[h]);·symm;simp;omega
theorem xm(a b:Int):PC env 23 [⟨.int .u8,a⟩,⟨.int .u8,b⟩] (.st (.pair (.int .u8) (.int .u8))) (min a b,max a b):=by
 refine PC.cv (m:=2000) aR ML rfl rfl rfl rfl (by kernel_rfl) ?_;intro hx;simp only[Try.f23];simp only[go_sem,zA,↓reduceIte,↓reduceDIte,zB,zC,zD,zE,zF,zG,zH,zI]
theorem yM(a:Int):PC env 29 [⟨.int .i64,a⟩] .bool false:=by
 refine PC.cv (m:=2000) aR MP rfl rfl rfl rfl (by kernel_rfl) ?_;intro hx;simp only[Try.f29];simp only[go_sem,zA,↓reduceIte,↓reduceDIte,zB,zC,zD,zE,zF,zG,zH,zI]
def qu(a b:Int):Int:=if a<b then-1 else if b<a then 1 else 0
theorem r5(a b:Int):PC env 20 [⟨.int .i64,a⟩,⟨.int .i64,b⟩] (.int .i64) (qu a b):=by
 refine PC.cv (m:=2000) aR MI rfl rfl rfl rfl (by kernel_rfl) ?_;intro hx;simp only[Try.f20];simp only[go_sem,zA,↓reduceIte,↓reduceDIte,zB,zC,zD,zE,zF,zG,zH,zI]
 refine⟨_,yM a,?_⟩;simp only[go_sem,zA,↓reduceIte,↓reduceDIte,zB,zC,zD,zE,zF,zG,zH,zI];refine⟨_,yM b,?_⟩;simp only[go_sem,zA,↓reduceIte,↓reduceDIte,zB,zC,zD,zE,zF,zG,zH,zI]
 unfold qu;refine⟨fun h=>?_,fun h=>⟨fun h'=>?_,fun h'=>?_⟩⟩;(·rw[if_pos h]);(·rw[if_neg h,if_pos h']);·rw[if_neg h,if_neg h']
theorem JW(l:Ty.den aW):PC env 15 [⟨aW,l⟩] (.ea 26 (.ptr aW)) l:=by
 refine PC.cv (m:=2000) aR MF rfl rfl rfl rfl (by kernel_rfl) ?_;intro hx;simp only[Try.f15];simp only[go_sem,zA,↓reduceIte,↓reduceDIte,zB,zC,zD,zE,zF,zG,zH,zI]
theorem Ph(xs:List Int):PC env 19 [⟨.sl (.int .i64),xs⟩] (.int .i64) ((xs.find? (·≠0)).getD 0):=by
 refine PC.cv (m:=2000) aR Gr rfl rfl rfl rfl (by kernel_rfl) ?_;intro hx;simp only[Try.f19];simp only[go_sem,zA,↓reduceIte,↓reduceDIte,zB,zC,zD,zE,zF,zG,zH,zI]
 refine az.eB (X:=Nat) (fun i=>⟨[(8,.iv (.int .i64) (i:Int)),(7,.iv (.int .i64) (xs.length:Int)),(6,.iv (.sl (.int .i64)) xs),(3,.iv (.int .i64) (0:Int))],[]⟩) (fun i=>i≤xs.length∧(xs.take i).find? (·≠0)=none) (fun i=>xs.length-i) 0 (by refine⟨?_,?_,rfl,rfl⟩<;>repeat' (first|exact trivial|exact Or.inl rfl|exact Or.inr rfl|apply hN|apply hZ|apply ia|apply ib|exact⟨(by show(_:Nat)<1000000000;omega),rfl,rfl⟩|rfl|(refine And.intro (Or.inl ?_) ?_)|(refine And.intro ?_ ?_))) ⟨Nat.zero_le _,rfl⟩ ?_
 intro i⟨hi,hb⟩back;refine bc aR ⟨_,Gr,rfl⟩ 2000 _ _ (by kernel_rfl) ?_;simp only[go_sem,zA,↓reduceIte,↓reduceDIte,zB,zC,zD,zE,zF,zG,zH,zI];refine⟨fun h=>?_,fun h=>?_⟩
 (·obtain⟨x,kf⟩: ∃x,xs[i]?=some x:=bf (by omega);refine⟨by omega,x,kf,fun h'=>?_,fun h'=>⟨?_,?_⟩⟩;(·(have:xs.find? (·≠0)=some x:=by rw[←List.take_append_drop i xs,List.find?_append,hb,drop_cons kf];simp[h']);rw[this];rfl);(·simp only[AU,Ty.ok]at hx;exact fv (by omega) (by omega));·refine back _ (i+1) (by refine⟨?_,?_,rfl,rfl⟩<;>repeat' (first|exact trivial|exact Or.inl rfl|exact Or.inr rfl|apply hN|apply hZ|apply ia|apply ib|exact⟨(by show(_:Nat)<1000000000;omega),rfl,rfl⟩|rfl|(refine And.intro (Or.inl ?_) ?_)|(refine And.intro ?_ ?_))) ⟨by omega,?_⟩ (by omega);rw[List.take_add_one,List.find?_append,hb,kf];simp[h'])
 ·have e:xs.take i=xs:=List.take_of_length_le (by omega);rw[e]at hb;rw[hb];rfl
theorem Af(x y:Ty.den aZ):PC env 18 [⟨aZ,x⟩,⟨aZ,y⟩] (.int .i64) (if qu x.2 y.2≠0 then qu x.2 y.2 else qu x.1 y.1):=by
 refine PC.cv (m:=2000) aR MH rfl rfl rfl rfl (by kernel_rfl) ?_;intro hx;simp only[Try.f18];simp only[go_sem,zA,↓reduceIte,↓reduceDIte,zB,zC,zD,zE,zF,zG,zH,zI]
 refine⟨_,r5 _ _,fun _=>⟨_,r5 _ _,fun _=>⟨_,Ph _,fun _=>?_⟩⟩⟩;by_cases h:qu x.2 y.2=0<;>by_cases h':qu x.1 y.1=0<;>simp[h,h']
def q7(l:Ty.den aW)(m t:Int):Int:=if m=t then 0 else l.2.2.2.2.foldl (fun c x=>if(min x.1 x.2.1,max x.1 x.2.1)=(min m t,max m t)then min c x.2.2 else c) l.2.2.2.1
theorem JX(m t:Int)(l:Ty.den aW):PC env 26 [⟨.int .u8,m⟩,⟨.int .u8,t⟩,⟨.ptr aW,l⟩] (.int .i64) (q7 l m t):=by
 refine PC.cv (m:=2000) aR Gs rfl rfl rfl rfl (by kernel_rfl) ?_;intro hx;simp only[Try.f26];simp only[go_sem,zA,↓reduceIte,↓reduceDIte,zB,zC,zD,zE,zF,zG,zH,zI]
 refine⟨fun h=>?_,fun h=>?_⟩;(·simp[q7,h]);refine az.eB (X:=Nat) (fun i=>⟨[(17,.iv (.int .i64) (i:Int)),(16,.iv (.int .i64) (l.2.2.2.2.length:Int)),(15,.iv (.sl dO) l.2.2.2.2),(6,.iv (.int .i64) ((l.2.2.2.2.take i).foldl (fun c x=>if(min x.1 x.2.1,max x.1 x.2.1)=(min m t,max m t)then min c x.2.2 else c) l.2.2.2.1)),(0,.iv (.int .u8) m),(1,.iv (.int .u8) t)],[]⟩) (fun i=>i≤l.2.2.2.2.length) (fun i=>l.2.2.2.2.length-i) 0 (by refine⟨?_,?_,rfl,rfl⟩<;>repeat' (first|exact trivial|exact Or.inl rfl|exact Or.inr rfl|apply hN|apply hZ|apply ia|apply ib|exact⟨(by show(_:Nat)<1000000000;omega),rfl,rfl⟩|rfl|(refine And.intro (Or.inl ?_) ?_)|(refine And.intro ?_ ?_))) (Nat.zero_le _) ?_
 intro i hi back;refine bc aR ⟨_,Gs,rfl⟩ 2000 _ _ (by kernel_rfl) ?_;simp only[go_sem,zA,↓reduceIte,↓reduceDIte,zB,zC,zD,zE,zF,zG,zH,zI];refine⟨fun h1=>?_,fun h1=>?_⟩
 (·obtain⟨x,kf⟩: ∃x,l.2.2.2.2[i]?=some x:=bf (by omega);refine⟨by omega,x,kf,_,xm _ _,fun _=>⟨_,xm _ _,fun _=>?_⟩⟩;simp only[go_sem,zA,↓reduceIte,↓reduceDIte,zB,zC,zD,zE,zF,zG,zH,zI];have hlen:l.2.2.2.2.length≤9223372036854775807:=hx.2.2.1.2.2.2.2.1;refine⟨fun h2=>⟨fv (by omega) (by omega),?_⟩,fun h2=>⟨fv (by omega) (by omega),?_⟩⟩;(·refine back _ (i+1) ⟨⟨Or.inl rfl,Or.inl rfl,Or.inl rfl,Or.inl ?_,Or.inl rfl,Or.inl rfl,trivial⟩,trivial,rfl,rfl⟩ (by omega) (by omega);rw[dj kf,List.foldl_append];simp only[List.foldl_cons,List.foldl_nil];rw[if_pos (by rw[h2.1,h2.2])];rfl);·refine back _ (i+1) ⟨⟨Or.inl rfl,Or.inl rfl,Or.inl rfl,Or.inl ?_,Or.inl rfl,Or.inl rfl,trivial⟩,trivial,rfl,rfl⟩ (by omega) (by omega);rw[dj kf,List.foldl_append];simp only[List.foldl_cons,List.foldl_nil];rw[if_neg (by simpa using h2)];rfl)
 ·rw[List.take_of_length_le (by omega)];simp[q7,h]
end Go.Proofs.Ytbbmofoiipjbgaa
namespace Go.Proofs.Ytbbmofoiipjbgaa
attribute[local go_sem←]Bool.decide_and Bool.decide_or decide_not
set_option maxHeartbeats 4000000
set_option maxRecDepth 100000
def S3(x:Int):Int:=97+x%4
def vw(l:List Int)(n:Nat):List UInt8:=((l.take n).map S3).map fun n:Int=>UInt8.ofNat n.toNat
theorem xn(l:List Int)(n:Nat)(hn:n≤1000000):PC env 6 [⟨.sl (.int .u8),l⟩,⟨.int .i64,(n:Int)⟩] .str (vw l n):=by
 refine PC.cv (m:=2000) aR MD rfl rfl rfl rfl (by kernel_rfl) ?_;intro hx;simp only[Try.f6];simp only[go_sem,zA,↓reduceIte,↓reduceDIte,zB,zC,zD,zE,zF,zG,zH,zI];have hlen:l.length≤9223372036854775807:=hx.1.1
 refine az.eB (X:=Nat) (fun i=>⟨[(6,.iv (.int .i64) (i:Int)),(5,.aE 7),(0,.iv (.sl (.int .u8)) l),(1,.iv (.int .i64) (n:Int))],[(7,.arr (.int .u8) ((l.take i).map S3))]⟩) (fun i=>i≤l.length∧i≤n) (fun i=>l.length-i) 0 (by refine⟨?_,?_,rfl,rfl⟩<;>repeat' (first|exact trivial|exact Or.inl rfl|exact Or.inr rfl|apply hN|apply hZ|apply ia|apply ib|exact⟨(by show(_:Nat)<1000000000;omega),rfl,rfl⟩|rfl|(refine And.intro (Or.inl ?_) ?_)|(refine And.intro ?_ ?_))) ⟨Nat.zero_le _,Nat.zero_le _⟩ ?_
 intro i⟨hi,fG⟩back;refine bc aR ⟨_,MD,rfl⟩ 2000 _ _ (by kernel_rfl) ?_;simp only[go_sem,zA,↓reduceIte,↓reduceDIte,zB,zC,zD,zE,zF,zG,zH,zI];refine⟨fun h1=>⟨fun h2=>?_,fun h2=>?_⟩,fun h1=>?_⟩
 (·obtain⟨x,kf⟩:=bf (xs:=l) (i:=i) (by omega);have SF:=mO (hx.1.2 x (List.mem_of_getElem? kf));refine⟨by omega,x,kf,by omega,C1 (by omega) (by omega),by simp;omega,fv (by omega) (by omega),?_⟩;refine back _ (i+1) ⟨⟨Or.inl rfl,Or.inl rfl,Or.inl rfl,Or.inl rfl,trivial⟩,⟨?_,trivial⟩,rfl,rfl⟩ (by omega) (by omega);rw[dj kf,List.map_append];rfl)
 (·(have:i=n:=by omega);subst this;rfl);·unfold vw;rw[List.take_of_length_le (by omega),List.take_of_length_le (by omega)]
def gB(l:List (List Int))(n:Nat):List (List UInt8):=(l.take n).map fun x=>vw x 5
theorem FH(l:List (List Int))(n:Nat)(hn:n≤1000000):PC env 7 [⟨.sl (.sl (.int .u8)),l⟩,⟨.int .i64,(n:Int)⟩] (.sl .str) (gB l n):=by
 refine PC.cv (m:=2000) aR ME rfl rfl rfl rfl (by kernel_rfl) ?_;intro hx;simp only[Try.f7];simp only[go_sem,zA,↓reduceIte,↓reduceDIte,zB,zC,zD,zE,zF,zG,zH,zI];have hlen:l.length≤9223372036854775807:=hx.1.1
 refine az.eB (X:=Nat) (fun i=>⟨[(6,.iv (.int .i64) (i:Int)),(5,.aE 7),(0,.iv (.sl (.sl (.int .u8))) l),(1,.iv (.int .i64) (n:Int))],[(7,.arr .str (gB l i))]⟩) (fun i=>i≤l.length∧i≤n) (fun i=>l.length-i) 0 (by refine⟨?_,?_,rfl,rfl⟩<;>repeat' (first|exact trivial|exact Or.inl rfl|exact Or.inr rfl|apply hN|apply hZ|apply ia|apply ib|exact⟨(by show(_:Nat)<1000000000;omega),rfl,rfl⟩|rfl|(refine And.intro (Or.inl ?_) ?_)|(refine And.intro ?_ ?_))) ⟨Nat.zero_le _,Nat.zero_le _⟩ ?_
 intro i⟨hi,fG⟩back;refine bc aR ⟨_,ME,rfl⟩ 2000 _ _ (by kernel_rfl) ?_;simp only[go_sem,zA,↓reduceIte,↓reduceDIte,zB,zC,zD,zE,zF,zG,zH,zI];refine⟨fun h1=>⟨fun h2=>?_,fun h2=>?_⟩,fun h1=>?_⟩
 (·obtain⟨x,kf⟩:=bf (xs:=l) (i:=i) (by omega);refine⟨by omega,x,kf,_,xn x 5 (by omega),fun _=>⟨by simp[gB];omega,fv (by omega) (by omega),?_⟩⟩;refine back _ (i+1) ⟨⟨Or.inl rfl,Or.inl rfl,Or.inl rfl,Or.inl rfl,trivial⟩,⟨?_,trivial⟩,rfl,rfl⟩ (by omega) (by omega);unfold gB;rw[dj kf,List.map_append];rfl)
 (·(have:i=n:=by omega);subst this;rfl);·unfold gB;rw[List.take_of_length_le (by omega),List.take_of_length_le (by omega)]
theorem C4(a b:List (Int×Int)):PC env 10 [⟨.sl aZ,a⟩,⟨.sl aZ,b⟩] .bool (decide (a=b)):=by
 refine PC.cv (m:=2000) aR Gn rfl rfl rfl rfl (by kernel_rfl) ?_;intro hx;simp only[Try.f10];simp only[go_sem,zA,↓reduceIte,↓reduceDIte,zB,zC,zD,zE,zF,zG,zH,zI]
 refine⟨fun h=>?_,fun h=>?_⟩;(·symm;rw[decide_eq_false_iff_not];rintro rfl;exact h rfl);(have og:a.length=b.length:=by omega);have oz:a.length≤9223372036854775807:=hx.1.1
 refine az.eB (X:=Nat) (fun i=>⟨[(5,.iv (.int .i64) (i:Int)),(0,.iv (.sl aZ) a),(1,.iv (.sl aZ) b)],[]⟩) (fun i=>i≤a.length∧a.take i=b.take i) (fun i=>a.length-i) 0 (by refine⟨?_,?_,rfl,rfl⟩<;>repeat' (first|exact trivial|exact Or.inl rfl|exact Or.inr rfl|apply hN|apply hZ|apply ia|apply ib|exact⟨(by show(_:Nat)<1000000000;omega),rfl,rfl⟩|rfl|(refine And.intro (Or.inl ?_) ?_)|(refine And.intro ?_ ?_))) ⟨Nat.zero_le _,rfl⟩ ?_
 intro i⟨hi,hb⟩back;refine bc aR ⟨_,Gn,rfl⟩ 2000 _ _ (by kernel_rfl) ?_;simp only[go_sem,zA,↓reduceIte,↓reduceDIte,zB,zC,zD,zE,zF,zG,zH,zI];refine⟨fun h1=>?_,fun h1=>?_⟩
 (·obtain⟨x,kf⟩:=bf (xs:=a) (i:=i) (by omega);obtain⟨y,KE⟩:=bf (xs:=b) (i:=i) (by omega);refine⟨by omega,x,kf,by omega,y,KE,fun h2=>?_,fun h2=>⟨fv (by omega) (by omega),?_⟩⟩;(·symm;rw[decide_eq_false_iff_not];rintro rfl;rw[kf]at KE;injection KE with KE;subst KE;exact h2 ⟨rfl,rfl⟩);·have qK:x=y:=Prod.ext h2.1 h2.2;subst qK;exact back _ (i+1) (by refine⟨?_,?_,rfl,rfl⟩<;>repeat' (first|exact trivial|exact Or.inl rfl|exact Or.inr rfl|apply hN|apply hZ|apply ia|apply ib|exact⟨(by show(_:Nat)<1000000000;omega),rfl,rfl⟩|rfl|(refine And.intro (Or.inl ?_) ?_)|(refine And.intro ?_ ?_))) ⟨by omega,by rw[dj kf,dj KE,hb]⟩ (by omega))
 ·symm;rw[decide_eq_true_iff];rw[List.take_of_length_le (by omega),List.take_of_length_le (by omega)]at hb;exact hb
end Go.Proofs.Ytbbmofoiipjbgaa
namespace Go.Proofs.Ytbbmofoiipjbgaa
attribute[local go_sem←]Bool.decide_and Bool.decide_or decide_not
set_option maxHeartbeats 4000000
set_option maxRecDepth 100000
abbrev Al:=Int×Int×Int
abbrev Sl:=Int×Int×Int×Int×List Al
def fw(n:Int):Prop:=1≤n∧n≤1000
instance(n:Int):Decidable (fw n):=inferInstanceAs(Decidable (_∧_))
def C5(c:Int):Prop:=97≤c∧c≤122
instance(n:Int):Decidable (C5 n):=inferInstanceAs(Decidable (_∧_))
def fx(x y:Al):Prop:=(x.1=y.1∧x.2.1=y.2.1)∨(x.1=y.2.1∧x.2.1=y.1)
instance(x y:Al):Decidable (fx x y):=inferInstanceAs(Decidable (_∨_))
def Ag(l:List Al)(x:Al):Prop:=C5 x.1∧C5 x.2.1∧x.1≠x.2.1∧fw x.2.2∧ ∀y,y∈l→ ¬fx x y
def r6:List Al→List Al→Prop|_,[]=>True|l,x::r=>Ag l x∧r6 (l++ [x]) r
instance(l:List Al)(x:Al):Decidable (Ag l x):=inferInstanceAs(Decidable (_∧_∧_∧_∧_))
instance C6: ∀(l r:List Al),Decidable (r6 l r)|_,[]=>inferInstanceAs(Decidable True)|l,x::r=> @instDecidableAnd _ _ _ (C6 (l++ [x]) r)
def eU(l:Sl):Prop:=fw l.1∧fw l.2.1∧fw l.2.2.1∧fw l.2.2.2.1∧l.2.2.2.2.length≤20∧r6 [] l.2.2.2.2
instance(l:Sl):Decidable (eU l):=inferInstanceAs(Decidable (_∧_∧_∧_∧_∧_))
theorem kN: ∀(r p:List Al),r6 p r↔ ∀i x,r[i]?=some x→Ag (p++r.take i) x|[],p=>(by simp[r6])|x::r,p=>by simp only[r6,kN r (p++ [x])];constructor;(·rintro⟨h1,h2⟩i y hy;cases i with|zero=>simp only[List.getElem?_cons_zero,Option.some.injEq]at hy;subst hy;simpa using h1|succ i=>simpa using h2 i y (by simpa using hy));·intro h;exact⟨by simpa using h 0 x rfl,fun i y hy=>by simpa using h (i+1) y (by simpa using hy)⟩
theorem tg {l:Sl} {i:Nat} {x:Al} (hx:l.2.2.2.2[i]?=some x)(h: ¬Ag (l.2.2.2.2.take i) x):false=decide (eU l):=by
 symm;rw[decide_eq_false_iff_not];rintro⟨_,_,_,_,_,h'⟩;exact h (by simpa using(kN _ _).1 h' i x hx)
abbrev gX(l:Sl):List PV:=[.iv (.int .i64) l.1,.iv (.int .i64) l.2.1,.iv (.int .i64) l.2.2.1,.iv (.int .i64) l.2.2.2.1,.iv (.sl dO) l.2.2.2.2]
abbrev yN(x:Al):List PV:=[.iv (.int .u8) x.1,.iv (.int .u8) x.2.1,.iv (.int .i64) x.2.2]
theorem vx {l:Sl} (h: ¬(fw l.1∧fw l.2.1∧fw l.2.2.1∧fw l.2.2.2.1∧(l.2.2.2.2.length:Int)≤20)):false=decide (eU l):=by
 symm;rw[decide_eq_false_iff_not];rintro⟨h1,h2,h3,h4,h5,_⟩;exact h ⟨h1,h2,h3,h4,by omega⟩
theorem C7(l:Sl):PC env 14 [⟨aW,l⟩] .bool (decide (eU l)):=by
 refine PC.cv (m:=2000) aR C0 rfl rfl rfl rfl (by kernel_rfl) ?_;intro hx;simp only[Try.f14];simp only[go_sem,zA,↓reduceIte,↓reduceDIte,zB,zC,zD,zE,zF,zG,zH,zI]
 have hlen:l.2.2.2.2.length≤9223372036854775807:=hx.1.2.2.2.2.1;(repeat' (first|(with_reducible intro _)|(with_reducible apply And.intro)|(with_reducible refine⟨_,C3 _,?_⟩;try simp only[go_sem,zA,↓reduceIte,↓reduceDIte,zB,zC,zD,zE,zF,zG,zH,zI])|fail))
 (all_goals first|exact vx (by unfold fw;omega)|skip);rename_i h1 h2 h3 h4 h5;refine az.eB (X:=Nat) (fun i=>⟨[(3,.iv (.int .i64) (i:Int)),(1,.ref 1 0)],[(1,.box (gX l))]⟩) (fun i=>i≤l.2.2.2.2.length∧ ∀j x,j<i→l.2.2.2.2[j]?=some x→Ag (l.2.2.2.2.take j) x) (fun i=>l.2.2.2.2.length-i) 0 (by refine⟨?_,?_,rfl,rfl⟩<;>repeat' (first|exact trivial|exact Or.inl rfl|exact Or.inr rfl|apply hN|apply hZ|apply ia|apply ib|exact⟨(by show(_:Nat)<1000000000;omega),rfl,rfl⟩|rfl|(refine And.intro (Or.inl ?_) ?_)|(refine And.intro ?_ ?_))) ⟨Nat.zero_le _,fun j x h=>by omega⟩ ?_
 intro i⟨hi,hb⟩back;refine bc aR ⟨_,C0,rfl⟩ 2000 _ _ (by kernel_rfl) ?_;simp only[go_sem,zA,↓reduceIte,↓reduceDIte,zB,zC,zD,zE,zF,zG,zH,zI];refine⟨fun h6=>?_,fun h6=>?_⟩
 (·obtain⟨x,kf⟩:=bf (xs:=l.2.2.2.2) (i:=i) (by omega);refine⟨by omega,x,kf,?_⟩;(repeat' (first|(with_reducible intro _)|(with_reducible apply And.intro)|(with_reducible refine⟨_,C3 _,?_⟩;try simp only[go_sem,zA,↓reduceIte,↓reduceDIte,zB,zC,zD,zE,zF,zG,zH,zI])|(with_reducible refine⟨_,Ae _,?_⟩;try simp only[go_sem,zA,↓reduceIte,↓reduceDIte,zB,zC,zD,zE,zF,zG,zH,zI])|fail));(all_goals first|exact tg kf (by rintro⟨⟨_,_⟩,⟨_,_⟩,_,⟨_,_⟩,_⟩;omega)|skip);rename_i h7 h8 h9 gF;refine az.eB (X:=Nat) (fun k=>⟨[(5,.iv (.int .i64) (k:Int)),(3,.iv (.int .i64) (i:Int)),(1,.ref 1 0),(4,.ref 4 0)],[(4,.box (yN x)),(1,.box (gX l))]⟩) (fun k=>k≤i∧ ∀j y,j<k→l.2.2.2.2[j]?=some y→ ¬fx x y) (fun k=>i-k) 0 (by refine⟨?_,?_,rfl,rfl⟩<;>repeat' (first|exact trivial|exact Or.inl rfl|exact Or.inr rfl|apply hN|apply hZ|apply ia|apply ib|exact⟨(by show(_:Nat)<1000000000;omega),rfl,rfl⟩|rfl|(refine And.intro (Or.inl ?_) ?_)|(refine And.intro ?_ ?_))) ⟨Nat.zero_le _,fun j x h=>by omega⟩ ?_;intro k⟨hk,MR⟩mP;refine bc aR ⟨_,C0,rfl⟩ 2000 _ _ (by kernel_rfl) ?_;simp only[go_sem,zA,↓reduceIte,↓reduceDIte,zB,zC,zD,zE,zF,zG,zH,zI];refine⟨fun jv=>?_,fun jv=>?_⟩;(·obtain⟨y,Gu⟩:=bf (xs:=l.2.2.2.2) (i:=k) (by omega);refine⟨by omega,y,Gu,?_⟩;have Ah:fx x y→false=decide (eU l):=fun h=>tg kf (by rintro⟨_,_,_,_,h'⟩;exact h' y (List.mem_of_getElem? (i:=k) (by rw[List.getElem?_take,if_pos (by omega)];exact Gu)) h);(have r7: ¬fx x y→ ∀j z,j<k+1→l.2.2.2.2[j]?=some z→ ¬fx x z:=by intro h j z hj hz;by_cases GL:j=k;(·subst GL;rw[Gu]at hz;injection hz with hz;subst hz;exact h);·exact MR j z (by omega) hz);unfold fx at Ah r7;(repeat' (first|(with_reducible intro _)|(with_reducible apply And.intro)|fail));all_goals first|omega|exact Ah (by omega)|(refine mP _ (k+1) ?_ ⟨by omega,r7 (by omega)⟩ (by omega);exact(by refine⟨?_,?_,rfl,rfl⟩<;>repeat' (first|exact trivial|exact Or.inl rfl|exact Or.inr rfl|apply hN|apply hZ|apply ia|apply ib|exact⟨(by show(_:Nat)<1000000000;omega),rfl,rfl⟩|rfl|(refine And.intro (Or.inl ?_) ?_)|(refine And.intro ?_ ?_)))));·refine⟨fv (by omega) (by omega),back _ (i+1) (by refine⟨?_,?_,rfl,rfl⟩<;>repeat' (first|exact trivial|exact Or.inl rfl|exact Or.inr rfl|apply hN|apply hZ|apply ia|apply ib|exact⟨(by show(_:Nat)<1000000000;omega),rfl,rfl⟩|rfl|(refine And.intro (Or.inl ?_) ?_)|(refine And.intro ?_ ?_))) ⟨by omega,fun j z hj hz=>?_⟩ (by omega)⟩;by_cases Pj:j=i;(·subst Pj;rw[kf]at hz;injection hz with hz;subst hz;refine⟨h7,h8,h9,gF,fun y hy=>?_⟩;obtain⟨m,hm⟩:=List.getElem?_of_mem hy;rw[List.getElem?_take]at hm;split at hm;(·exact MR m y (by omega) hm);·cases hm);·exact hb j z (by omega) hz)
 ·symm;rw[decide_eq_true_iff];refine⟨h1,h2,h3,h4,by omega,(kN _ _).2 fun j z hz=>?_⟩;have:=(List.getElem?_eq_some_iff.1 hz).1;simpa using hb j z (by omega) hz
theorem th(l:Sl):PC env 13 [⟨aW,l⟩] .bool (decide (eU l)):=by
 refine PC.cv (m:=2000) aR CZ rfl rfl rfl rfl (by kernel_rfl) ?_;intro hx;simp only[Try.f13];simp only[go_sem,zA,↓reduceIte,↓reduceDIte,zB,zC,zD,zE,zF,zG,zH,zI]
 have hlen:l.2.2.2.2.length≤9223372036854775807:=hx.1.2.2.2.2.1;(repeat' (first|(with_reducible intro _)|(with_reducible apply And.intro)|(with_reducible refine⟨_,yL _,?_⟩;try simp only[go_sem,zA,↓reduceIte,↓reduceDIte,zB,zC,zD,zE,zF,zG,zH,zI])|fail))
 (all_goals first|exact vx (by unfold fw;omega)|skip);rename_i h1 h2 h3 h4 h5;refine az.eB (X:=Nat) (fun i=>⟨[(38,.iv (.int .i64) (i:Int)),(37,.iv (.int .i64) (l.2.2.2.2.length:Int)),(36,.iv (.sl dO) l.2.2.2.2),(1,.ref 1 0)],[(1,.box (gX l))]⟩) (fun i=>i≤l.2.2.2.2.length∧ ∀j x,j<i→l.2.2.2.2[j]?=some x→Ag (l.2.2.2.2.take j) x) (fun i=>l.2.2.2.2.length-i) 0 (by refine⟨?_,?_,rfl,rfl⟩<;>repeat' (first|exact trivial|exact Or.inl rfl|exact Or.inr rfl|apply hN|apply hZ|apply ia|apply ib|exact⟨(by show(_:Nat)<1000000000;omega),rfl,rfl⟩|rfl|(refine And.intro (Or.inl ?_) ?_)|(refine And.intro ?_ ?_))) ⟨Nat.zero_le _,fun j x h=>by omega⟩ ?_
 intro i⟨hi,hb⟩back;refine bc aR ⟨_,CZ,rfl⟩ 2000 _ _ (by kernel_rfl) ?_;simp only[go_sem,zA,↓reduceIte,↓reduceDIte,zB,zC,zD,zE,zF,zG,zH,zI];refine⟨fun h6=>?_,fun h6=>?_⟩
 (·obtain⟨x,kf⟩:=bf (xs:=l.2.2.2.2) (i:=i) (by omega);refine⟨by omega,x,kf,?_⟩;(repeat' (first|(with_reducible intro _)|(with_reducible apply And.intro)|(with_reducible refine⟨_,yL _,?_⟩;try simp only[go_sem,zA,↓reduceIte,↓reduceDIte,zB,zC,zD,zE,zF,zG,zH,zI])|(with_reducible refine⟨_,C2 _,?_⟩;try simp only[go_sem,zA,↓reduceIte,↓reduceDIte,zB,zC,zD,zE,zF,zG,zH,zI])|fail));(all_goals first|exact tg kf (by rintro⟨⟨_,_⟩,⟨_,_⟩,_,⟨_,_⟩,_⟩;omega)|skip);(all_goals first|omega|skip);rename_i h7 h8 h9 gF;refine az.eB (X:=Nat) (fun k=>⟨[(71,.iv (.int .i64) (k:Int)),(70,.iv (.int .i64) ((l.2.2.2.2.take i).length:Int)),(69,.iv (.sl dO) (l.2.2.2.2.take i)),(38,.iv (.int .i64) (i:Int)),(37,.iv (.int .i64) (l.2.2.2.2.length:Int)),(36,.iv (.sl dO) l.2.2.2.2),(1,.ref 1 0),(4,.ref 4 0)],[(4,.box (yN x)),(1,.box (gX l))]⟩) (fun k=>k≤i∧ ∀j y,j<k→l.2.2.2.2[j]?=some y→ ¬fx x y) (fun k=>i-k) 0 (by refine⟨?_,?_,rfl,rfl⟩<;>repeat' (first|exact trivial|exact Or.inl rfl|exact Or.inr rfl|apply hN|apply hZ|apply ia|apply ib|exact⟨(by show(_:Nat)<1000000000;omega),rfl,rfl⟩|rfl|(refine And.intro (Or.inl ?_) ?_)|(refine And.intro ?_ ?_))) ⟨Nat.zero_le _,fun j x h=>by omega⟩ ?_;intro k⟨hk,MR⟩mP;(have VY:(l.2.2.2.2.take i).length=i:=by rw[List.length_take];omega);refine bc aR ⟨_,CZ,rfl⟩ 2000 _ _ (by kernel_rfl) ?_;simp only[go_sem,zA,↓reduceIte,↓reduceDIte,zB,zC,zD,zE,zF,zG,zH,zI];refine⟨fun jv=>?_,fun jv=>?_⟩;(·obtain⟨y,Gu⟩:=bf (xs:=l.2.2.2.2.take i) (i:=k) (by omega);(have Pk:l.2.2.2.2[k]?=some y:=by rw[List.getElem?_take]at Gu;split at Gu<;>simp_all);refine⟨by omega,y,Gu,?_⟩;have Ah:fx x y→false=decide (eU l):=fun h=>tg kf (by rintro⟨_,_,_,_,h'⟩;exact h' y (List.mem_of_getElem? Gu) h);(have r7: ¬fx x y→ ∀j z,j<k+1→l.2.2.2.2[j]?=some z→ ¬fx x z:=by intro h j z hj hz;by_cases GL:j=k;(·subst GL;rw[Pk]at hz;injection hz with hz;subst hz;exact h);·exact MR j z (by omega) hz);unfold fx at Ah r7;(repeat' (first|(with_reducible intro _)|(with_reducible apply And.intro)|(with_reducible refine⟨_,xm _ _,?_⟩;try simp only[go_sem,zA,↓reduceIte,↓reduceDIte,zB,zC,zD,zE,zF,zG,zH,zI])|fail));all_goals first|omega|exact Ah (by clear back mP r7;dsimp only[Ty.den]at*;omega)|(refine mP _ (k+1) ?_ ⟨by omega,r7 (by clear back mP Ah;dsimp only[Ty.den]at*;omega)⟩ (by omega);exact(by refine⟨?_,?_,rfl,rfl⟩<;>repeat' (first|exact trivial|exact Or.inl rfl|exact Or.inr rfl|apply hN|apply hZ|apply ia|apply ib|exact⟨(by show(_:Nat)<1000000000;omega),rfl,rfl⟩|rfl|(refine And.intro (Or.inl ?_) ?_)|(refine And.intro ?_ ?_)))));·refine⟨fv (by omega) (by omega),back _ (i+1) (by refine⟨?_,?_,rfl,rfl⟩<;>repeat' (first|exact trivial|exact Or.inl rfl|exact Or.inr rfl|apply hN|apply hZ|apply ia|apply ib|exact⟨(by show(_:Nat)<1000000000;omega),rfl,rfl⟩|rfl|(refine And.intro (Or.inl ?_) ?_)|(refine And.intro ?_ ?_))) ⟨by omega,fun j z hj hz=>?_⟩ (by omega)⟩;by_cases Pj:j=i;(·subst Pj;rw[kf]at hz;injection hz with hz;subst hz;refine⟨h7,h8,h9,gF,fun y hy=>?_⟩;obtain⟨m,hm⟩:=List.getElem?_of_mem hy;rw[List.getElem?_take]at hm;split at hm;(·exact MR m y (by omega) hm);·cases hm);·exact hb j z (by omega) hz)
 ·symm;rw[decide_eq_true_iff];refine⟨h1,h2,h3,h4,by omega,(kN _ _).2 fun j z hz=>?_⟩;have:=(List.getElem?_eq_some_iff.1 hz).1;simpa using hb j z (by omega) hz
end Go.Proofs.Ytbbmofoiipjbgaa
namespace Go.Proofs.Ytbbmofoiipjbgaa
attribute[local go_sem←]Bool.decide_and Bool.decide_or decide_not
set_option maxHeartbeats 4000000
set_option maxRecDepth 100000
abbrev Ai:=(Int×Int×Int×Int)×List (Int×Int×Int)
def Aj(e:Int×Int×Int):Al:=(97+e.1%5,97+(e.1%5+1+e.2.1%4)%5,1+e.2.2%8)
def jn(acc:List Al)(e:Int×Int×Int):List Al:=if eU (1,1,1,1,acc++ [Aj e])then acc++ [Aj e]else acc
def iZ(l:List (Int×Int×Int)):List Al:=(l.take 5).foldl jn []
def n7(x:Ai):Sl:=(1+x.1.1%8,1+x.1.2.1%8,1+x.1.2.2.1%8,1+x.1.2.2.2%8,iZ x.2)
abbrev C8(x:Ai):List PV:=[.iv (.int .u8) x.1.1,.iv (.int .u8) x.1.2.1,.iv (.int .u8) x.1.2.2.1,.iv (.int .u8) x.1.2.2.2,.iv (.sl (.st (.pair (.int .u8) (.pair (.int .u8) (.int .u8))))) x.2]
theorem Ak {acc:List Al} {e:Int×Int×Int} (h:eU (1,1,1,1,acc++ [(97+e.1%5,97+(e.1%5+1+e.2.1%4)%5,1+e.2.2%8)])):jn acc e=acc++ [(97+e.1%5,97+(e.1%5+1+e.2.1%4)%5,1+e.2.2%8)]:=if_pos h
theorem Am {acc:List Al} {e:Int×Int×Int} (h: ¬eU (1,1,1,1,acc++ [(97+e.1%5,97+(e.1%5+1+e.2.1%4)%5,1+e.2.2%8)])):jn acc e=acc:=if_neg h
theorem qv(l:List (Int×Int×Int)): ∀(acc:List Al),(l.foldl jn acc).length≤acc.length+l.length:=by
 induction l with|nil=>intro acc;exact Nat.le_refl _|cons e l ih=>intro acc;rw[List.foldl_cons];refine Nat.le_trans (ih _) ?_;unfold jn;split<;>simp<;>omega
theorem JY(x:Ai):HC env 5 [.iv nL x] [] (.agg [.iv (.int .i64) (1+x.1.1%8:Int),.iv (.int .i64) (1+x.1.2.1%8:Int),.iv (.int .i64) (1+x.1.2.2.1%8:Int),.iv (.int .i64) (1+x.1.2.2.2%8:Int),.aE 1000]) [(1000,.arr dO (iZ x.2))]:=by
 refine HC.cv (m:=2000) aR MC rfl rfl rfl rfl (by kernel_rfl) ?_;intro hx uj;simp only[Try.f5];simp only[go_sem,zA,↓reduceIte,↓reduceDIte,zB,zC,zD,zE,zF,zG,zH,zI]
 obtain⟨⟨⟨h1,h2,h3,h4⟩,h5,h6⟩,_⟩:=hx;have h1:=mO h1;have h2:=mO h2;have h3:=mO h3;have h4:=mO h4;refine⟨by omega,by omega,by omega,by omega,by omega,by omega,by omega,by omega,?_⟩
 refine az.eB (X:=Nat) (fun i=>⟨[(4,.iv (.int .i64) (i:Int)),(1,.ref 1 0),(2,.ref 2 0),(3,.ref 3 0)],[(1,.box (C8 x)),(2,.box [.any,.any,.any,.any,.any]),(3,.box [.iv (.int .i64) (1+x.1.1%8:Int),.iv (.int .i64) (1+x.1.2.1%8:Int),.iv (.int .i64) (1+x.1.2.2.1%8:Int),.iv (.int .i64) (1+x.1.2.2.2%8:Int),.aE 1000]),(1000,.arr dO ((x.2.take i).foldl jn []))]⟩) (fun i=>i≤x.2.length∧i≤5) (fun i=>x.2.length-i) 0 ?_ ⟨Nat.zero_le _,Nat.zero_le _⟩ ?_
 (·exact(by refine⟨?_,?_,rfl,rfl⟩<;>repeat' (first|exact trivial|exact Or.inl rfl|exact Or.inr rfl|apply hN|apply hZ|apply ia|apply ib|exact⟨(by show(_:Nat)<1000000000;omega),rfl,rfl⟩|rfl|(refine And.intro (Or.inl ?_) ?_)|(refine And.intro ?_ ?_))))
 intro i⟨hi,VZ⟩back;refine bc aR ⟨_,MC,rfl⟩ 2000 _ _ (by kernel_rfl) ?_;simp only[go_sem,zA,↓reduceIte,↓reduceDIte,zB,zC,zD,zE,zF,zG,zH,zI];have su:=qv (x.2.take i) []
 (have Pl:(List.take i x.snd).length=i:=by rw[List.length_take];omega);simp only[List.length_nil,Pl]at su;(have C9: ∀j,j=i→(5≤j∨x.2.length≤j)→aJ.arr dO (List.foldl jn [] (List.take i x.snd))=aJ.arr dO (iZ x.snd):=by intro j hj h;subst hj;unfold iZ;rcases h with h|h;(·(have:j=5:=by omega);rw[this]);·rw[List.take_of_length_le h,List.take_of_length_le (by omega)])
 refine⟨fun g1=>⟨fun g2=>?_,fun g2=>C9 i rfl (Or.inl (by omega))⟩,fun g1=>C9 i rfl (Or.inr (by omega))⟩;obtain⟨e,he⟩:=bf (xs:=x.2) (i:=i) (by omega);have Ks:=h6 e (List.mem_of_getElem? he)
 have e1:=mO Ks.1;have e2:=mO Ks.2.1;have e3:=mO Ks.2.2;dsimp only[Ty.den]at*;refine⟨by omega,e,he,by omega,by omega,by omega,e,he,by omega,by omega,by omega,by omega,by omega,by omega,by omega,e,he,by omega,by omega,by omega,_,C7 _,?_⟩
 simp only[go_sem,zA,↓reduceIte,↓reduceDIte,zB,zC,zD,zE,zF,zG,zH,zI];(have ei:List.foldl jn [] (List.take (i+1) x.snd)=jn (List.foldl jn [] (List.take i x.snd)) e:=by rw[dj he,List.foldl_append];rfl)
 refine⟨fun hv=>⟨by omega,?_⟩,fun hv=>⟨by omega,?_⟩⟩;(·refine az.fO [(62,1000),(1000,62)] rfl ?_;refine back _ (i+1) ?_ ⟨by omega,by omega⟩ (by omega);rw[ei,Ak hv];exact(by refine⟨?_,?_,rfl,rfl⟩<;>repeat' (first|exact trivial|exact Or.inl rfl|exact Or.inr rfl|apply hN|apply hZ|apply ia|apply ib|exact⟨(by show(_:Nat)<1000000000;omega),rfl,rfl⟩|rfl|(refine And.intro (Or.inl ?_) ?_)|(refine And.intro ?_ ?_))))
 ·refine back _ (i+1) ?_ ⟨by omega,by omega⟩ (by omega);rw[ei,Am hv];exact(by refine⟨?_,?_,rfl,rfl⟩<;>repeat' (first|exact trivial|exact Or.inl rfl|exact Or.inr rfl|apply hN|apply hZ|apply ia|apply ib|exact⟨(by show(_:Nat)<1000000000;omega),rfl,rfl⟩|rfl|(refine And.intro (Or.inl ?_) ?_)|(refine And.intro ?_ ?_)))
theorem JZ(x:Ai):PC env 5 [⟨nL,x⟩] aW (n7 x):=PC.Mb (JY x) rfl rfl
end Go.Proofs.Ytbbmofoiipjbgaa
namespace Go.Proofs.Ytbbmofoiipjbgaa
set_option maxHeartbeats 4000000
def iu(l:Sl)(x y:UInt8):Int:=q7 l (x.toNat:Int) (y.toNat:Int)
def ct(l:Sl):List UInt8→List UInt8→Int|[],[]=>0|[],_::b=>ct l [] b+l.2.2.1|_::a,[]=>ct l a []+l.2.1|[x],y::b=>min (min (ct l [] (y::b)+l.2.1) (ct l [x] b+l.2.2.1)) (ct l [] b+iu l x y)|x::x'::a,[y]=>min (min (ct l (x'::a) [y]+l.2.1) (ct l (x::x'::a) []+l.2.2.1)) (ct l (x'::a) []+iu l x y)|x::x'::a,y::y'::b=>if x≠y∧x'=y∧y'=x then min (min (min (ct l (x'::a) (y::y'::b)+l.2.1) (ct l (x::x'::a) (y'::b)+l.2.2.1)) (ct l (x'::a) (y'::b)+iu l x y)) (ct l a b+l.1)else min (min (ct l (x'::a) (y::y'::b)+l.2.1) (ct l (x::x'::a) (y'::b)+l.2.2.1)) (ct l (x'::a) (y'::b)+iu l x y)termination_by a b=>a.length+b.length decreasing_by all_goals(simp only[List.length_cons,List.length_nil];omega)
def ek(l:Sl)(x y:UInt8)(a b:List UInt8):Int:=min (min (ct l a (y::b)+l.2.1) (ct l (x::a) b+l.2.2.1)) (ct l a b+iu l x y)
theorem gY(l:Sl):ct l [] []=0:=by rw[ct]
theorem mQ(l:Sl)(y:UInt8)(b:List UInt8):ct l [] (y::b)=ct l [] b+l.2.2.1:=by rw[ct]
theorem mR(l:Sl)(x:UInt8)(a:List UInt8):ct l (x::a) []=ct l a []+l.2.1:=by rw[ct]
theorem fU(l:Sl)(x y:UInt8)(a b:List UInt8)(h:x≠y):ct l (x::y::a) (y::x::b)=min (ek l x y (y::a) (x::b)) (ct l a b+l.1):=by rw[ct,if_pos ⟨h,rfl,rfl⟩,ek]
theorem mS(l:Sl)(x y:UInt8)(a b:List UInt8)(h: ¬(x≠y∧a.head?=some y∧b.head?=some x)):ct l (x::a) (y::b)=ek l x y a b:=by
 match a,b with|[],b=>rw[ct,ek]|x'::a,[]=>rw[ct,ek]|x'::a,y'::b=>rw[ct,ek,if_neg];intro h';apply h;refine⟨h'.1,?_,?_⟩;(·rw[h'.2.1];rfl);·rw[h'.2.2];rfl
def dX(l:Sl):Prop:=0≤l.1∧l.1≤1000∧0≤l.2.1∧l.2.1≤1000∧0≤l.2.2.1∧l.2.2.1≤1000∧0≤l.2.2.2.1∧l.2.2.2.1≤1000∧ ∀x,x∈l.2.2.2.2→0≤x.2.2∧x.2.2≤1000
theorem An(al:List Al)(q:Al→Bool): ∀(c:Int),0≤c→c≤1000→(∀x,x∈al→0≤x.2.2∧x.2.2≤1000)→0≤al.foldl (fun c x=>if q x then min c x.2.2 else c) c∧al.foldl (fun c x=>if q x then min c x.2.2 else c) c≤1000:=by
 induction al with|nil=>intro c h1 h2 _;exact⟨h1,h2⟩|cons e al ih=>intro c h1 h2 h;rw[List.foldl_cons];have he:=h e (List.mem_cons_self ..);refine ih _ ?_ ?_ (fun x hx=>h x (List.mem_cons_of_mem _ hx));(·split<;>omega);·split<;>omega
theorem ti(l:Sl)(m t:Int):q7 l m t=if m=t then 0 else l.2.2.2.2.foldl (fun c x=>if decide ((min x.1 x.2.1,max x.1 x.2.1)=(min m t,max m t))then min c x.2.2 else c) l.2.2.2.1:=by
 unfold q7;simp only[decide_eq_true_eq]
theorem nM {l:Sl} (h:dX l)(x y:UInt8):0≤iu l x y∧iu l x y≤1000:=by
 unfold iu;rw[ti];split;(·exact⟨Int.le_refl _,by omega⟩);·exact An _ _ _ h.2.2.2.2.2.2.1 h.2.2.2.2.2.2.2.1 h.2.2.2.2.2.2.2.2
theorem Ao {l:Sl} (h:dX l): ∀(n:Nat)(a b:List UInt8),a.length+b.length≤n→0≤ct l a b∧ct l a b≤1000*(a.length+b.length:Nat):=by
 obtain⟨h1,h2,h3,h4,h5,h6,h7,h8,h9⟩:=h;intro n;induction n with|zero=>intro a b hn;(match a,b with|[],[]=>rw[gY];simp|x::a,_=>simp only[List.length_cons]at hn;omega|[],x::a=>simp only[List.length_cons]at hn;omega)|succ n ih=>intro a b hn;match a,b with|[],[]=>rw[gY];simp|[],y::b=>simp only[List.length_cons,List.length_nil]at hn⊢;have:=ih [] b (by simp only[List.length_nil];omega);simp only[List.length_nil]at this;rw[mQ];omega|x::a,[]=>simp only[List.length_cons,List.length_nil]at hn⊢;have:=ih a [] (by simp only[List.length_nil];omega);simp only[List.length_nil]at this;rw[mR];omega|x::a,y::b=>simp only[List.length_cons]at hn⊢;have i1:=ih a (y::b) (by simp only[List.length_cons];omega);have i2:=ih (x::a) b (by simp only[List.length_cons];omega);have i3:=ih a b (by omega);have hp:=nM (l:=l) ⟨h1,h2,h3,h4,h5,h6,h7,h8,h9⟩ x y;simp only[List.length_cons]at i1 i2;(have S4:0≤ek l x y a b∧ek l x y a b≤1000*((a.length+1+(b.length+1):Nat):Int):=by unfold ek;omega);by_cases hc:x≠y∧a.head?=some y∧b.head?=some x;(·match a,b,hc with|y'::a,x'::b,⟨qK,e1,e2⟩=>injection e1 with e1;injection e2 with e2;subst e1 e2;have i4:=ih a b (by simp only[List.length_cons]at hn;omega);rw[fU l _ _ a b qK];simp only[List.length_cons]at S4⊢;omega);·rw[mS l x y a b hc];exact S4
def D(l:Sl)(m t:List UInt8)(i j:Nat):Int:=ct l (m.take i).reverse (t.take j).reverse
theorem dD {m:List UInt8} {i:Nat} {x:UInt8} (h:m[i]?=some x):(m.take (i+1)).reverse=x::(m.take i).reverse:=by rw[dj h,List.reverse_append];rfl
theorem ja {l:Sl} (h:dX l)(m t:List UInt8)(i j:Nat)(hi:i≤m.length)(hj:j≤t.length):0≤D l m t i j∧D l m t i j≤1000*(i+j:Nat):=by
 have:=Ao h _ (m.take i).reverse (t.take j).reverse (Nat.le_refl _);simp only[List.length_reverse,List.length_take,Nat.min_eq_left hi,Nat.min_eq_left hj]at this
 exact this
theorem MS(l:Sl)(m t:List UInt8):D l m t 0 0=0:=by unfold D;exact gY l
theorem MT(l:Sl)(m t:List UInt8)(j:Nat)(hj:j<t.length):D l m t 0 (j+1)=D l m t 0 j+l.2.2.1:=by obtain⟨y,hy⟩:=bf hj;unfold D;rw[dD hy,List.take_zero,List.reverse_nil,mQ]
theorem MU(l:Sl)(m t:List UInt8)(i:Nat)(hi:i<m.length):D l m t (i+1) 0=D l m t i 0+l.2.1:=by obtain⟨y,hy⟩:=bf hi;unfold D;rw[dD hy,List.take_zero,List.reverse_nil,mR]
def D3(l:Sl)(m t:List UInt8)(x y:UInt8)(i j:Nat):Int:=min (min (D l m t i (j+1)+l.2.1) (D l m t (i+1) j+l.2.2.1)) (D l m t i j+iu l x y)
theorem Gv {l:Sl} {m t:List UInt8} {x y:UInt8} {i j:Nat} (hx:m[i]?=some x)(hy:t[j]?=some y):D3 l m t x y i j=ek l x y (m.take i).reverse (t.take j).reverse:=by
 unfold D3 ek D;rw[dD hx,dD hy]
theorem Ap {l:Sl} {m t:List UInt8} {x y:UInt8} {i j:Nat} (hx:m[i]?=some x)(hy:t[j]?=some y)(h: ¬(x≠y∧1≤i∧1≤j∧m[i-1]?=some y∧t[j-1]?=some x)):D l m t (i+1) (j+1)=D3 l m t x y i j:=by
 rw[Gv hx hy];unfold D;rw[dD hx,dD hy,mS];intro⟨h1,h2,h3⟩;apply h;(have key: ∀(s:List UInt8)(k:Nat)(z:UInt8),k≤s.length→(s.take k).reverse.head?=some z→1≤k∧s[k-1]?=some z:=by intro s k z hk e;match k with|0=>simp at e|k+1=>obtain⟨w,hw⟩:=bf (xs:=s) (i:=k) hk;rw[dD hw]at e;injection e with e;subst e;exact⟨Nat.succ_le_succ (Nat.zero_le _),hw⟩)
 (have BI:i≤m.length:=by have:=(List.getElem?_eq_some_iff.mp hx).1;omega);(have Bf:j≤t.length:=by have:=(List.getElem?_eq_some_iff.mp hy).1;omega);exact⟨h1,(key m i y BI h2).1,(key t j x Bf h3).1,(key m i y BI h2).2,(key t j x Bf h3).2⟩
theorem Da {l:Sl} {m t:List UInt8} {x y:UInt8} {i j:Nat} (hx:m[i+1]?=some x)(hy:t[j+1]?=some y)(h:x≠y)(fp:m[i]?=some y)(vV:t[j]?=some x):D l m t (i+2) (j+2)=min (D3 l m t x y (i+1) (j+1)) (D l m t i j+l.1):=by
 rw[Gv hx hy];unfold D;rw[dD hx,dD hy,dD fp,dD vV,fU l _ _ _ _ h]
end Go.Proofs.Ytbbmofoiipjbgaa
