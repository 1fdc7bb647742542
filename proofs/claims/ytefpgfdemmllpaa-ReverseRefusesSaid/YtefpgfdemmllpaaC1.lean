/- Contracts: made schemes. Nothing here is trusted; no condition. -/
import Derived.Test.YtefpgfdemmllpaaA9
import Derived.Test.YtefpgfdemmllpaaProg
set_option linter.unusedSimpArgs false
set_option linter.unusedVariables false
open Nat renaming reduceBEq → zA, reduceAdd → zB, reduceSub → zC, reduceMul → zD, reduceLeDiff → zE
open Int renaming reduceLT → zF, reduceLE → zG, reduceToNat → zH, reduceNeg → zI
namespace Go.Proofs.Ytefpgfdemmllpaa
theorem le1 {α:Sort _} {x:α} {B C:Prop} (h:C):(x = x ∨ B) ∧ C:=⟨.inl rfl,h⟩
theorem le2 {α:Sort _} {x:α} {A B C:Prop} (h:C):(A ∨ x = x ∨ B) ∧ C:=⟨.inr (.inl rfl),h⟩
theorem le3 {α β:Sort _} {x:α} {y:β} {A B D C:Prop} (h:C):(A ∨ B ∨ D ∨ x = x ∧ y = y) ∧ C:=⟨.inr (.inr (.inr ⟨rfl,rfl⟩)),h⟩
theorem le4 {α β:Sort _} {x:α} {y:β} {A B D C:Prop} (h:C):(A ∨ B ∨ (x = x ∧ y = y ∧ True) ∨ D) ∧ C:=⟨.inr (.inr (.inl ⟨rfl,rfl,trivial⟩)),h⟩
attribute [go_sem ←] Bool.decide_and Bool.decide_or decide_not
end Go.Proofs.Ytefpgfdemmllpaa
namespace Go.Proofs.Ytefpgfdemmllpaa
set_option maxRecDepth 100000

abbrev BoundsErrorT:Ty:=(.st (.pair (.int .i64) (.pair (.int .i64) (.pair .bool (.int .u8)))))
abbrev ErrorAddressStringT:Ty:=(.st (.pair .str (.int .u64)))
abbrev RawRuleT:Ty:=(.st (.pair (.sl (.int .u8)) (.pair (.sl (.int .u8)) (.pair (.int .u8) (.pair (.int .u8) (.int .u8))))))
abbrev RawT:Ty:=(.st (.pair (.int .u8) (.pair (.int .u8) (.sl RawRuleT))))
abbrev RuleT:Ty:=(.st (.pair (.int .i64) (.pair (.int .i64) (.pair .str (.pair .str (.int .i64))))))
abbrev SchemeT:Ty:=(.st (.pair (.int .i64) (.pair (.int .u8) (.sl RuleT))))
abbrev ResultT:Ty:=(.st (.pair .str (.int .i64)))
abbrev PlaceT:Ty:=(.st (.pair (.int .i64) (.int .i64)))
abbrev RunT:Ty:=(.st (.pair .str (.pair .str (.pair (.int .i64) (.pair (.int .i64) .bool)))))
abbrev SpotT:Ty:=(.st (.pair (.int .i64) (.pair (.int .i64) (.int .u8))))
abbrev RestT:Ty:=(.st (.pair SpotT (.int .i64)))
abbrev PriceT:Ty:=(.st (.pair (.int .i64) (.int .i64)))
abbrev GoalT:Ty:=(.st (.pair PriceT .bool))
abbrev SearchT:Ty:=(.st (.pair SchemeT (.pair .str (.mp RestT GoalT))))
abbrev ThreadT:Ty:=(.st (.pair SpotT .str))
abbrev BranchT:Ty:=(.st (.pair (.sl (.int .u8)) (.pair .bool (.pair PriceT (.mp ThreadT (.int .i64))))))
abbrev PlaceT105:Ty:=(.st (.pair (.int .i64) (.pair (.int .i64) (.int .i64))))
abbrev PairingT:Ty:=(.st (.pair SchemeT (.pair .str (.pair .str (.mp PlaceT105 PriceT)))))
abbrev EndT:Ty:=(.st (.pair (.sl (.int .i64)) (.pair (.int .i64) .bool)))
abbrev GoalT111:Ty:=(.st (.pair .str .str))
abbrev SpotT113:Ty:=(.st (.pair (.int .i64) (.pair (.int .i64) (.int .i64))))
abbrev BuilderT:Ty:=(.st (.pair (.ptr .unit) (.sl (.int .u8))))
abbrev FinderT:Ty:=(.st (.pair SchemeT (.pair .str (.sl ResultT))))
def tys:List (Nat × Ty):=[(1,.fnv),(2,(.int .i64)),(3,(.int .i64)),(4,.bool),(5,(.int .u8)),(6,(.int .u8)),(7,BoundsErrorT),(8,BoundsErrorT),(9,.str),(10,.str),(11,.str),(12,(.int .u64)),(13,ErrorAddressStringT),(14,ErrorAddressStringT),(21,(.int .i32)),(22,(.sl RawRuleT)),(23,RawT),(24,RawT),(25,(.sl (.int .u8))),(26,(.int .i8)),(27,(.st (.pair (.int .i8) (.int .i8)))),(28,.fnv),(29,(.sl RuleT)),(30,SchemeT),(31,SchemeT),(32,.fnv),(33,.fnv),(34,(.sl ResultT)),(35,(.int .i64)),(37,.fnv),(39,.fnv),(40,(.sl (.int .i64))),(42,.fnv),(43,.fnv),(44,.fnv),(45,ResultT),(46,ResultT),(47,.fnv),(49,.fnv),(50,(.st (.pair (.int .i64) (.int .i64)))),(51,(.sl PlaceT)),(52,RunT),(53,RunT),(54,.fnv),(55,PlaceT),(56,PlaceT),(57,.fnv),(58,.fnv),(59,.fnv),(60,(.st (.pair (.int .u8) (.int .u8)))),(61,.fnv),(62,RawRuleT),(63,RawRuleT),(64,RuleT),(65,RuleT),(66,.fnv),(67,.fnv),(68,.fnv),(69,(.st (.pair .str .str))),(70,.fnv),(71,.fnv),(73,.fnv),(74,(.ptr SearchT)),(75,(.mp RestT GoalT)),(76,SearchT),(77,SearchT),(78,(.ptr BranchT)),(79,SpotT),(80,SpotT),(81,ThreadT),(82,ThreadT),(83,(.mp ThreadT (.int .i64))),(84,PriceT),(85,PriceT),(86,BranchT),(87,BranchT),(88,.fnv),(89,(.sl (.ptr BranchT))),(90,(.sl (.ptr BranchT))),(91,.fnv),(93,.fnv),(95,.fnv),(96,.fnv),(97,.fnv),(98,.fnv),(99,(.ptr PairingT)),(100,(.mp PlaceT105 PriceT)),(101,PairingT),(102,PairingT),(104,PlaceT105),(105,PlaceT105),(106,.fnv),(107,EndT),(108,EndT),(109,.fnv),(110,GoalT111),(111,GoalT111),(112,SpotT113),(113,SpotT113),(115,.fnv),(116,(.ptr .unit)),(117,BuilderT),(118,BuilderT),(122,.fnv),(123,.fnv),(124,.fnv),(125,(.sl .bool)),(126,.fnv),(127,.fnv),(128,(.sl ThreadT)),(130,.fnv),(131,.fnv),(132,GoalT),(133,GoalT),(134,.fnv),(135,.fnv),(136,.fnv),(139,.fnv),(140,.fnv),(141,.fnv),(142,.fnv),(143,.fnv),(144,.fnv),(145,.fnv),(147,FinderT),(148,FinderT),(149,.fnv),(150,.fnv),(152,.fnv),(153,.fnv),(154,.fnv),(155,.fnv),(157,.fnv),(158,.fnv),(159,.fnv),(160,(.mp (.int .i64) (.sl (.int .i64)))),(161,.fnv),(162,.fnv),(163,.fnv),(164,.fnv),(165,.fnv),(167,RestT),(168,RestT),(170,.fnv),(171,.fnv),(172,.fnv),(173,.fnv),(175,.fnv),(176,.fnv),(182,(.int .u32)),(183,(.int .u8)),(184,(.int .u8)),(185,.fnv),(186,(.int .i32)),(187,(.int .i32))]
def strs:List Nat:=[7,8,13,14,23,24,30,31,45,46,52,53,55,56,62,63,64,65,76,77,79,80,81,82,84,85,86,87,101,102,104,105,107,108,110,111,112,113,117,118,132,133,147,148,167,168]
def cmps:List Nat:=[7,8,27,45,46,50,52,53,55,56,60,64,65,69,79,80,81,82,84,85,104,105,110,111,112,113,132,133,167,168]
def fns:List (Nat × (List Ty × Ty)):=[(2,([],.unit)),
  (3,([RawT,(.sl (.int .u8)),(.st (.pair (.int .i8) (.int .i8)))],.bool)),
  (4,([RawT,(.sl (.int .u8))],.bool)),
  (5,([RawT,(.sl (.int .u8)),(.st (.pair (.int .u8) (.int .u8)))],.bool)),
  (6,([RawT,(.sl (.int .u8)),RawRuleT],.bool)),
  (7,([RawT,.str,(.st (.pair .str .str))],.bool)),
  (8,([RawT,(.sl (.int .u8))],.bool)),
  (9,([],.bool)),
  (10,([RawT],SchemeT)),
  (11,([(.sl (.int .u8)),(.int .i64)],.str)),
  (12,([SchemeT,.str,(.int .i64)],(.tup (.sl ResultT) (.int .i64)))),
  (13,([SchemeT,.str,(.int .i64)],(.tup (.sl ResultT) (.int .i64)))),
  (14,([SchemeT,.str],(.tup .str (.tup (.int .i64) (.int .i64))))),
  (15,([(.sl (.int .u8)),(.int .i64)],.str)),
  (16,([SchemeT,.str,.str],(.tup (.sl (.int .i64)) (.int .i64)))),
  (17,([SchemeT,.str,.str],(.tup (.sl (.int .i64)) (.int .i64)))),
  (18,([(.sl ResultT),(.sl ResultT)],.bool)),
  (19,([(.sl (.int .i64)),(.sl (.int .i64))],.bool)),
  (20,([SchemeT,(.st (.pair (.int .i64) (.int .i64))),(.sl (.int .u8))],(.tup (.sl (.int .i64)) (.int .i64)))),
  (21,([SchemeT,(.sl (.int .i64))],RunT)),
  (22,([SchemeT,(.int .i64)],.bool)),
  (23,([ResultT,ResultT],.bool)),
  (24,([RawRuleT,(.int .i64)],RuleT)),
  (25,([SchemeT],.bool)),
  (26,([.str],.bool)),
  (27,([.str],.bool)),
  (28,([SchemeT,(.sl (.int .i64))],RunT)),
  (29,([RawT],SchemeT)),
  (30,([.str],.bool)),
  (31,([SchemeT],.bool)),
  (32,([SchemeT],(.tup SchemeT (.sl (.int .i64))))),
  (39,([SchemeT,.str],(.sl ResultT))),
  (40,([.str],.bool)),
  (43,([SchemeT,GoalT111,SpotT113],EndT)),
  (44,([SchemeT],(.tup (.int .i64) (.int .i64)))),
  (45,([.str],.bool)),
  (46,([.str],.bool)),
  (50,([SchemeT,(.int .i64)],.bool)),
  (51,([.str],.bool)),
  (52,([SchemeT],(.tup (.int .i64) (.int .i64)))),
  (53,([SchemeT],(.sl .bool))),
  (54,([SchemeT],(.sl .bool))),
  (55,([SchemeT,RuleT],.bool)),
  (56,([(.ptr SearchT),SpotT,RuleT],(.tup SpotT .bool))),
  (59,([PriceT,PriceT],PriceT)),
  (60,([PriceT,PriceT],.bool)),
  (62,([(.ptr SearchT),SpotT],.bool)),
  (65,([.str],.bool)),
  (66,([SchemeT,(.int .i64)],.bool)),
  (68,([(.ptr PairingT),PlaceT105,RuleT],(.tup PlaceT105 .bool))),
  (69,([.str,(.int .i64),.str],.bool)),
  (70,([EndT,EndT],.bool)),
  (71,([(.int .i64),(.int .i64),(.int .i64)],.bool)),
  (73,([(.st (.pair (.int .i64) (.int .i64))),.str,.str],RuleT)),
  (74,([.str],.bool)),
  (75,([(.int .i64),RuleT],.bool)),
  (76,([(.sl RuleT),RuleT],.bool)),
  (78,([SchemeT],(.mp (.int .i64) (.sl (.int .i64))))),
  (81,([SchemeT,(.int .i64)],.bool)),
  (82,([SchemeT,(.int .i64)],.bool)),
  (83,([.str,.str],.bool)),
  (85,([(.sl PlaceT),PlaceT],.bool)),
  (86,([(.int .u8)],(.int .i64))),
  (88,([(.sl RuleT),RuleT],(.int .i64))),
  (90,([.str,.str],.bool)),
  (113,([(.ptr .unit)],(.int .i64)))]
def hfns:List (Nat × List (Option Ty)):=[(33,[none,none]),(34,[none,none]),(35,[none]),(36,[none,some (.ptr BranchT)]),(37,[none,none]),(38,[none,some (.ptr BranchT)]),(41,[none]),(42,[none,some PlaceT105,some (.sl (.int .i64))]),(47,[none,some .str]),(48,[none]),(49,[some (.int .u8)]),(57,[none,some ThreadT,some (.int .i64)]),(58,[none,some SpotT,some (.int .i64)]),(61,[none,some (.int .i64),some (.int .i64)]),(63,[none,some (.int .i64)]),(64,[none,some (.sl PlaceT),some .str,some (.int .i64)]),(67,[none,some PlaceT105]),(72,[none]),(77,[some SchemeT]),(79,[some (.int .i64),none]),(80,[some (.int .i64),none,none,none,none]),(84,[none,some .str,some (.int .i64)]),(89,[some (.int .i64),none,none]),(108,[none]),(109,[none,some (.int .i64),some (.int .i64)]),(110,[none,some (.int .i64),some (.int .i64)]),(111,[none]),(112,[none,none])]
def keyTs:List (Nat × Nat):=[(75,168),(83,82),(100,105),(160,3)]
noncomputable def env : Env := mkEnv Try.prog tys strs cmps fns hfns keyTs [(29, 29), (1032, 29), (25, 29), (1028, 29), (100, 51), (1101, 51), (72, 40), (1073, 40)] true [118] [(25, 5)] [58, 33, 34, 38, 61, 41] [78, 94] [] [((6, 3), [[0, 1, 2, 3, 5, 6, 4, 7, 8, 9, 10], [0, 1, 2, 3, 5, 6, 4, 9, 7, 8, 10], [0, 1, 2, 3, 5, 6, 9, 4, 7, 8, 10]]), ((33, 15), [[], [8]]), ((34, 5), [[0, 1, 2, 3, 4, 5, 6, 7, 8, 9, 10, 11, 12, 13, 14, 15], [0, 1, 2, 3, 4, 5, 6, 7, 8, 9, 10, 11, 12, 14, 13, 15]]), ((38, 10), [[], [8]]), ((12, 17), [[], [13]]), ((41, 4), [[], [17]]), ((67, 12), [[], [6]]), ((10, 7), [[], [8]]), ((42, 11), [[2, 3, 4, 5, 6, 8, 0, 1, 7, 9, 10, 11, 12], [2, 3, 4, 5, 6, 8, 0, 1, 9, 7, 10, 11, 12]])] [] [(12, 10), (12, 11), (38, 15), (38, 16), (38, 17), (36, 7), (37, 1)] [((94, "Len"), (108, some 90)), ((94, "Less"), (109, some 90)), ((94, "Swap"), (110, some 90)), ((94, "Push"), (112, none)), ((94, "Pop"), (111, none))]
theorem e_emp0 (t:Nat):env.emp t = false:=rfl
theorem e_stp0 (f i:Nat):env.stp f i = roAt [(12,10),(12,11),(38,15),(38,16),(38,17),(36,7),(37,1)] f i:=rfl
theorem e_fl0 (f i:Nat):env.fl f i = flAt [((6,3),[[0,1,2,3,5,6,4,7,8,9,10],[0,1,2,3,5,6,4,9,7,8,10],[0,1,2,3,5,6,9,4,7,8,10]]),((33,15),[[],[8]]),((34,5),[[0,1,2,3,4,5,6,7,8,9,10,11,12,13,14,15],[0,1,2,3,4,5,6,7,8,9,10,11,12,14,13,15]]),((38,10),[[],[8]]),((12,17),[[],[13]]),((41,4),[[],[17]]),((67,12),[[],[6]]),((10,7),[[],[8]]),((42,11),[[2,3,4,5,6,8,0,1,7,9,10,11,12],[2,3,4,5,6,8,0,1,9,7,10,11,12]])] f i:=rfl
theorem e_con0 (t:Nat):env.con t = mem1 t [78,94]:=rfl
theorem e_px0 (f:Nat):env.px f = false:=rfl
theorem e_nd0 (f:Nat):env.nd f = mem1 f [58,33,34,38,61,41]:=rfl
theorem e_bx0 (t:Nat):env.boxT t = mem1 t [118]:=rfl
theorem e_el0 (t:Nat):env.elm t = look t [(25,5)]:=rfl
theorem e_ro0 (d t:Nat):env.ro d t = roAt [(29,29),(1032,29),(25,29),(1028,29),(100,51),(1101,51),(72,40),(1073,40)] d t:=rfl
theorem e_tm0:env.tm = true:=rfl
theorem env_ok:EnvOK env:=mkEnv_ok (by kernel_rfl) (by kernel_rfl) (by kernel_rfl) (by kernel_rfl) (by kernel_rfl) (by kernel_rfl) (by kernel_rfl) (by kernel_rfl) (by kernel_rfl) (by kernel_rfl)
theorem e_key75:env.mapKey 75 = some 168:=rfl
theorem e_key83:env.mapKey 83 = some 82:=rfl
theorem e_key100:env.mapKey 100 = some 105:=rfl
theorem e_key160:env.mapKey 160 = some 3:=rfl
theorem e_ty1:env.ty 1 = some .fnv:=rfl
theorem e_ty2:env.ty 2 = some (.int .i64):=rfl
theorem e_ty3:env.ty 3 = some (.int .i64):=rfl
theorem e_ty4:env.ty 4 = some .bool:=rfl
theorem e_ty5:env.ty 5 = some (.int .u8):=rfl
theorem e_ty6:env.ty 6 = some (.int .u8):=rfl
theorem e_ty7:env.ty 7 = some BoundsErrorT:=rfl
theorem e_ty8:env.ty 8 = some BoundsErrorT:=rfl
theorem e_ty9:env.ty 9 = some .str:=rfl
theorem e_ty10:env.ty 10 = some .str:=rfl
theorem e_ty11:env.ty 11 = some .str:=rfl
theorem e_ty12:env.ty 12 = some (.int .u64):=rfl
theorem e_ty13:env.ty 13 = some ErrorAddressStringT:=rfl
theorem e_ty14:env.ty 14 = some ErrorAddressStringT:=rfl
theorem e_ty21:env.ty 21 = some (.int .i32):=rfl
theorem e_ty22:env.ty 22 = some (.sl RawRuleT):=rfl
theorem e_ty23:env.ty 23 = some RawT:=rfl
theorem e_ty24:env.ty 24 = some RawT:=rfl
theorem e_ty25:env.ty 25 = some (.sl (.int .u8)):=rfl
theorem e_ty26:env.ty 26 = some (.int .i8):=rfl
theorem e_ty27:env.ty 27 = some (.st (.pair (.int .i8) (.int .i8))):=rfl
theorem e_ty28:env.ty 28 = some .fnv:=rfl
theorem e_ty29:env.ty 29 = some (.sl RuleT):=rfl
theorem e_ty30:env.ty 30 = some SchemeT:=rfl
theorem e_ty31:env.ty 31 = some SchemeT:=rfl
theorem e_ty32:env.ty 32 = some .fnv:=rfl
theorem e_ty33:env.ty 33 = some .fnv:=rfl
theorem e_ty34:env.ty 34 = some (.sl ResultT):=rfl
theorem e_ty35:env.ty 35 = some (.int .i64):=rfl
theorem e_ty37:env.ty 37 = some .fnv:=rfl
theorem e_ty39:env.ty 39 = some .fnv:=rfl
theorem e_ty40:env.ty 40 = some (.sl (.int .i64)):=rfl
theorem e_ty42:env.ty 42 = some .fnv:=rfl
theorem e_ty43:env.ty 43 = some .fnv:=rfl
theorem e_ty44:env.ty 44 = some .fnv:=rfl
theorem e_ty45:env.ty 45 = some ResultT:=rfl
theorem e_ty46:env.ty 46 = some ResultT:=rfl
theorem e_ty47:env.ty 47 = some .fnv:=rfl
theorem e_ty49:env.ty 49 = some .fnv:=rfl
theorem e_ty50:env.ty 50 = some (.st (.pair (.int .i64) (.int .i64))):=rfl
theorem e_ty51:env.ty 51 = some (.sl PlaceT):=rfl
theorem e_ty52:env.ty 52 = some RunT:=rfl
theorem e_ty53:env.ty 53 = some RunT:=rfl
theorem e_ty54:env.ty 54 = some .fnv:=rfl
theorem e_ty55:env.ty 55 = some PlaceT:=rfl
theorem e_ty56:env.ty 56 = some PlaceT:=rfl
theorem e_ty57:env.ty 57 = some .fnv:=rfl
theorem e_ty58:env.ty 58 = some .fnv:=rfl
theorem e_ty59:env.ty 59 = some .fnv:=rfl
theorem e_ty60:env.ty 60 = some (.st (.pair (.int .u8) (.int .u8))):=rfl
theorem e_ty61:env.ty 61 = some .fnv:=rfl
theorem e_ty62:env.ty 62 = some RawRuleT:=rfl
theorem e_ty63:env.ty 63 = some RawRuleT:=rfl
theorem e_ty64:env.ty 64 = some RuleT:=rfl
theorem e_ty65:env.ty 65 = some RuleT:=rfl
theorem e_ty66:env.ty 66 = some .fnv:=rfl
theorem e_ty67:env.ty 67 = some .fnv:=rfl
theorem e_ty68:env.ty 68 = some .fnv:=rfl
theorem e_ty69:env.ty 69 = some (.st (.pair .str .str)):=rfl
theorem e_ty70:env.ty 70 = some .fnv:=rfl
theorem e_ty71:env.ty 71 = some .fnv:=rfl
theorem e_ty73:env.ty 73 = some .fnv:=rfl
theorem e_ty74:env.ty 74 = some (.ptr SearchT):=rfl
theorem e_ty75:env.ty 75 = some (.mp RestT GoalT):=rfl
theorem e_ty76:env.ty 76 = some SearchT:=rfl
theorem e_ty77:env.ty 77 = some SearchT:=rfl
theorem e_ty78:env.ty 78 = some (.ptr BranchT):=rfl
theorem e_ty79:env.ty 79 = some SpotT:=rfl
theorem e_ty80:env.ty 80 = some SpotT:=rfl
theorem e_ty81:env.ty 81 = some ThreadT:=rfl
theorem e_ty82:env.ty 82 = some ThreadT:=rfl
theorem e_ty83:env.ty 83 = some (.mp ThreadT (.int .i64)):=rfl
theorem e_ty84:env.ty 84 = some PriceT:=rfl
theorem e_ty85:env.ty 85 = some PriceT:=rfl
theorem e_ty86:env.ty 86 = some BranchT:=rfl
theorem e_ty87:env.ty 87 = some BranchT:=rfl
theorem e_ty88:env.ty 88 = some .fnv:=rfl
theorem e_ty89:env.ty 89 = some (.sl (.ptr BranchT)):=rfl
theorem e_ty90:env.ty 90 = some (.sl (.ptr BranchT)):=rfl
theorem e_ty91:env.ty 91 = some .fnv:=rfl
theorem e_ty93:env.ty 93 = some .fnv:=rfl
theorem e_ty95:env.ty 95 = some .fnv:=rfl
theorem e_ty96:env.ty 96 = some .fnv:=rfl
theorem e_ty97:env.ty 97 = some .fnv:=rfl
theorem e_ty98:env.ty 98 = some .fnv:=rfl
theorem e_ty99:env.ty 99 = some (.ptr PairingT):=rfl
theorem e_ty100:env.ty 100 = some (.mp PlaceT105 PriceT):=rfl
theorem e_ty101:env.ty 101 = some PairingT:=rfl
theorem e_ty102:env.ty 102 = some PairingT:=rfl
theorem e_ty104:env.ty 104 = some PlaceT105:=rfl
theorem e_ty105:env.ty 105 = some PlaceT105:=rfl
theorem e_ty106:env.ty 106 = some .fnv:=rfl
theorem e_ty107:env.ty 107 = some EndT:=rfl
theorem e_ty108:env.ty 108 = some EndT:=rfl
theorem e_ty109:env.ty 109 = some .fnv:=rfl
theorem e_ty110:env.ty 110 = some GoalT111:=rfl
theorem e_ty111:env.ty 111 = some GoalT111:=rfl
theorem e_ty112:env.ty 112 = some SpotT113:=rfl
theorem e_ty113:env.ty 113 = some SpotT113:=rfl
theorem e_ty115:env.ty 115 = some .fnv:=rfl
theorem e_ty116:env.ty 116 = some (.ptr .unit):=rfl
theorem e_ty117:env.ty 117 = some BuilderT:=rfl
theorem e_ty118:env.ty 118 = some BuilderT:=rfl
theorem e_ty122:env.ty 122 = some .fnv:=rfl
theorem e_ty123:env.ty 123 = some .fnv:=rfl
theorem e_ty124:env.ty 124 = some .fnv:=rfl
theorem e_ty125:env.ty 125 = some (.sl .bool):=rfl
theorem e_ty126:env.ty 126 = some .fnv:=rfl
theorem e_ty127:env.ty 127 = some .fnv:=rfl
theorem e_ty128:env.ty 128 = some (.sl ThreadT):=rfl
theorem e_ty130:env.ty 130 = some .fnv:=rfl
theorem e_ty131:env.ty 131 = some .fnv:=rfl
theorem e_ty132:env.ty 132 = some GoalT:=rfl
theorem e_ty133:env.ty 133 = some GoalT:=rfl
theorem e_ty134:env.ty 134 = some .fnv:=rfl
theorem e_ty135:env.ty 135 = some .fnv:=rfl
theorem e_ty136:env.ty 136 = some .fnv:=rfl
theorem e_ty139:env.ty 139 = some .fnv:=rfl
theorem e_ty140:env.ty 140 = some .fnv:=rfl
theorem e_ty141:env.ty 141 = some .fnv:=rfl
theorem e_ty142:env.ty 142 = some .fnv:=rfl
theorem e_ty143:env.ty 143 = some .fnv:=rfl
theorem e_ty144:env.ty 144 = some .fnv:=rfl
theorem e_ty145:env.ty 145 = some .fnv:=rfl
theorem e_ty147:env.ty 147 = some FinderT:=rfl
theorem e_ty148:env.ty 148 = some FinderT:=rfl
theorem e_ty149:env.ty 149 = some .fnv:=rfl
theorem e_ty150:env.ty 150 = some .fnv:=rfl
theorem e_ty152:env.ty 152 = some .fnv:=rfl
theorem e_ty153:env.ty 153 = some .fnv:=rfl
theorem e_ty154:env.ty 154 = some .fnv:=rfl
theorem e_ty155:env.ty 155 = some .fnv:=rfl
theorem e_ty157:env.ty 157 = some .fnv:=rfl
theorem e_ty158:env.ty 158 = some .fnv:=rfl
theorem e_ty159:env.ty 159 = some .fnv:=rfl
theorem e_ty160:env.ty 160 = some (.mp (.int .i64) (.sl (.int .i64))):=rfl
theorem e_ty161:env.ty 161 = some .fnv:=rfl
theorem e_ty162:env.ty 162 = some .fnv:=rfl
theorem e_ty163:env.ty 163 = some .fnv:=rfl
theorem e_ty164:env.ty 164 = some .fnv:=rfl
theorem e_ty165:env.ty 165 = some .fnv:=rfl
theorem e_ty167:env.ty 167 = some RestT:=rfl
theorem e_ty168:env.ty 168 = some RestT:=rfl
theorem e_ty170:env.ty 170 = some .fnv:=rfl
theorem e_ty171:env.ty 171 = some .fnv:=rfl
theorem e_ty172:env.ty 172 = some .fnv:=rfl
theorem e_ty173:env.ty 173 = some .fnv:=rfl
theorem e_ty175:env.ty 175 = some .fnv:=rfl
theorem e_ty176:env.ty 176 = some .fnv:=rfl
theorem e_ty182:env.ty 182 = some (.int .u32):=rfl
theorem e_ty183:env.ty 183 = some (.int .u8):=rfl
theorem e_ty184:env.ty 184 = some (.int .u8):=rfl
theorem e_ty185:env.ty 185 = some .fnv:=rfl
theorem e_ty186:env.ty 186 = some (.int .i32):=rfl
theorem e_ty187:env.ty 187 = some (.int .i32):=rfl
theorem e_str7:env.str 7 = true:=rfl
theorem e_str8:env.str 8 = true:=rfl
theorem e_str13:env.str 13 = true:=rfl
theorem e_str14:env.str 14 = true:=rfl
theorem e_str23:env.str 23 = true:=rfl
theorem e_str24:env.str 24 = true:=rfl
theorem e_str30:env.str 30 = true:=rfl
theorem e_str31:env.str 31 = true:=rfl
theorem e_str45:env.str 45 = true:=rfl
theorem e_str46:env.str 46 = true:=rfl
theorem e_str52:env.str 52 = true:=rfl
theorem e_str53:env.str 53 = true:=rfl
theorem e_str55:env.str 55 = true:=rfl
theorem e_str56:env.str 56 = true:=rfl
theorem e_str62:env.str 62 = true:=rfl
theorem e_str63:env.str 63 = true:=rfl
theorem e_str64:env.str 64 = true:=rfl
theorem e_str65:env.str 65 = true:=rfl
theorem e_str76:env.str 76 = true:=rfl
theorem e_str77:env.str 77 = true:=rfl
theorem e_str79:env.str 79 = true:=rfl
theorem e_str80:env.str 80 = true:=rfl
theorem e_str81:env.str 81 = true:=rfl
theorem e_str82:env.str 82 = true:=rfl
theorem e_str84:env.str 84 = true:=rfl
theorem e_str85:env.str 85 = true:=rfl
theorem e_str86:env.str 86 = true:=rfl
theorem e_str87:env.str 87 = true:=rfl
theorem e_str101:env.str 101 = true:=rfl
theorem e_str102:env.str 102 = true:=rfl
theorem e_str104:env.str 104 = true:=rfl
theorem e_str105:env.str 105 = true:=rfl
theorem e_str107:env.str 107 = true:=rfl
theorem e_str108:env.str 108 = true:=rfl
theorem e_str110:env.str 110 = true:=rfl
theorem e_str111:env.str 111 = true:=rfl
theorem e_str112:env.str 112 = true:=rfl
theorem e_str113:env.str 113 = true:=rfl
theorem e_str117:env.str 117 = true:=rfl
theorem e_str118:env.str 118 = true:=rfl
theorem e_str132:env.str 132 = true:=rfl
theorem e_str133:env.str 133 = true:=rfl
theorem e_str147:env.str 147 = true:=rfl
theorem e_str148:env.str 148 = true:=rfl
theorem e_str167:env.str 167 = true:=rfl
theorem e_str168:env.str 168 = true:=rfl
theorem e_str27:env.str 27 = false:=rfl
theorem e_str50:env.str 50 = false:=rfl
theorem e_str60:env.str 60 = false:=rfl
theorem e_str69:env.str 69 = false:=rfl
theorem e_cmp7:env.cmp 7 = true:=rfl
theorem e_cmp8:env.cmp 8 = true:=rfl
theorem e_cmp27:env.cmp 27 = true:=rfl
theorem e_cmp45:env.cmp 45 = true:=rfl
theorem e_cmp46:env.cmp 46 = true:=rfl
theorem e_cmp50:env.cmp 50 = true:=rfl
theorem e_cmp52:env.cmp 52 = true:=rfl
theorem e_cmp53:env.cmp 53 = true:=rfl
theorem e_cmp55:env.cmp 55 = true:=rfl
theorem e_cmp56:env.cmp 56 = true:=rfl
theorem e_cmp60:env.cmp 60 = true:=rfl
theorem e_cmp64:env.cmp 64 = true:=rfl
theorem e_cmp65:env.cmp 65 = true:=rfl
theorem e_cmp69:env.cmp 69 = true:=rfl
theorem e_cmp79:env.cmp 79 = true:=rfl
theorem e_cmp80:env.cmp 80 = true:=rfl
theorem e_cmp81:env.cmp 81 = true:=rfl
theorem e_cmp82:env.cmp 82 = true:=rfl
theorem e_cmp84:env.cmp 84 = true:=rfl
theorem e_cmp85:env.cmp 85 = true:=rfl
theorem e_cmp104:env.cmp 104 = true:=rfl
theorem e_cmp105:env.cmp 105 = true:=rfl
theorem e_cmp110:env.cmp 110 = true:=rfl
theorem e_cmp111:env.cmp 111 = true:=rfl
theorem e_cmp112:env.cmp 112 = true:=rfl
theorem e_cmp113:env.cmp 113 = true:=rfl
theorem e_cmp132:env.cmp 132 = true:=rfl
theorem e_cmp133:env.cmp 133 = true:=rfl
theorem e_cmp167:env.cmp 167 = true:=rfl
theorem e_cmp168:env.cmp 168 = true:=rfl
theorem e_fn2:env.fn 2 = some ([],.unit):=rfl
theorem e_fn3:env.fn 3 = some ([RawT,(.sl (.int .u8)),(.st (.pair (.int .i8) (.int .i8)))],.bool):=rfl
theorem e_fn4:env.fn 4 = some ([RawT,(.sl (.int .u8))],.bool):=rfl
theorem e_fn5:env.fn 5 = some ([RawT,(.sl (.int .u8)),(.st (.pair (.int .u8) (.int .u8)))],.bool):=rfl
theorem e_fn6:env.fn 6 = some ([RawT,(.sl (.int .u8)),RawRuleT],.bool):=rfl
theorem e_fn7:env.fn 7 = some ([RawT,.str,(.st (.pair .str .str))],.bool):=rfl
theorem e_fn8:env.fn 8 = some ([RawT,(.sl (.int .u8))],.bool):=rfl
theorem e_fn9:env.fn 9 = some ([],.bool):=rfl
theorem e_fn10:env.fn 10 = some ([RawT],SchemeT):=rfl
theorem e_fn11:env.fn 11 = some ([(.sl (.int .u8)),(.int .i64)],.str):=rfl
theorem e_fn12:env.fn 12 = some ([SchemeT,.str,(.int .i64)],(.tup (.sl ResultT) (.int .i64))):=rfl
theorem e_fn13:env.fn 13 = some ([SchemeT,.str,(.int .i64)],(.tup (.sl ResultT) (.int .i64))):=rfl
theorem e_fn14:env.fn 14 = some ([SchemeT,.str],(.tup .str (.tup (.int .i64) (.int .i64)))):=rfl
theorem e_fn15:env.fn 15 = some ([(.sl (.int .u8)),(.int .i64)],.str):=rfl
theorem e_fn16:env.fn 16 = some ([SchemeT,.str,.str],(.tup (.sl (.int .i64)) (.int .i64))):=rfl
theorem e_fn17:env.fn 17 = some ([SchemeT,.str,.str],(.tup (.sl (.int .i64)) (.int .i64))):=rfl
theorem e_fn18:env.fn 18 = some ([(.sl ResultT),(.sl ResultT)],.bool):=rfl
theorem e_fn19:env.fn 19 = some ([(.sl (.int .i64)),(.sl (.int .i64))],.bool):=rfl
theorem e_fn20:env.fn 20 = some ([SchemeT,(.st (.pair (.int .i64) (.int .i64))),(.sl (.int .u8))],(.tup (.sl (.int .i64)) (.int .i64))):=rfl
theorem e_fn21:env.fn 21 = some ([SchemeT,(.sl (.int .i64))],RunT):=rfl
theorem e_fn22:env.fn 22 = some ([SchemeT,(.int .i64)],.bool):=rfl
theorem e_fn23:env.fn 23 = some ([ResultT,ResultT],.bool):=rfl
theorem e_fn24:env.fn 24 = some ([RawRuleT,(.int .i64)],RuleT):=rfl
theorem e_fn25:env.fn 25 = some ([SchemeT],.bool):=rfl
theorem e_fn26:env.fn 26 = some ([.str],.bool):=rfl
theorem e_fn27:env.fn 27 = some ([.str],.bool):=rfl
theorem e_fn28:env.fn 28 = some ([SchemeT,(.sl (.int .i64))],RunT):=rfl
theorem e_fn29:env.fn 29 = some ([RawT],SchemeT):=rfl
theorem e_fn30:env.fn 30 = some ([.str],.bool):=rfl
theorem e_fn31:env.fn 31 = some ([SchemeT],.bool):=rfl
theorem e_fn32:env.fn 32 = some ([SchemeT],(.tup SchemeT (.sl (.int .i64)))):=rfl
theorem e_fn39:env.fn 39 = some ([SchemeT,.str],(.sl ResultT)):=rfl
theorem e_fn40:env.fn 40 = some ([.str],.bool):=rfl
theorem e_fn43:env.fn 43 = some ([SchemeT,GoalT111,SpotT113],EndT):=rfl
theorem e_fn44:env.fn 44 = some ([SchemeT],(.tup (.int .i64) (.int .i64))):=rfl
theorem e_fn45:env.fn 45 = some ([.str],.bool):=rfl
theorem e_fn46:env.fn 46 = some ([.str],.bool):=rfl
theorem e_fn50:env.fn 50 = some ([SchemeT,(.int .i64)],.bool):=rfl
theorem e_fn51:env.fn 51 = some ([.str],.bool):=rfl
theorem e_fn52:env.fn 52 = some ([SchemeT],(.tup (.int .i64) (.int .i64))):=rfl
theorem e_fn53:env.fn 53 = some ([SchemeT],(.sl .bool)):=rfl
theorem e_fn54:env.fn 54 = some ([SchemeT],(.sl .bool)):=rfl
theorem e_fn55:env.fn 55 = some ([SchemeT,RuleT],.bool):=rfl
theorem e_fn56:env.fn 56 = some ([(.ptr SearchT),SpotT,RuleT],(.tup SpotT .bool)):=rfl
theorem e_fn59:env.fn 59 = some ([PriceT,PriceT],PriceT):=rfl
theorem e_fn60:env.fn 60 = some ([PriceT,PriceT],.bool):=rfl
theorem e_fn62:env.fn 62 = some ([(.ptr SearchT),SpotT],.bool):=rfl
theorem e_fn65:env.fn 65 = some ([.str],.bool):=rfl
theorem e_fn66:env.fn 66 = some ([SchemeT,(.int .i64)],.bool):=rfl
theorem e_fn68:env.fn 68 = some ([(.ptr PairingT),PlaceT105,RuleT],(.tup PlaceT105 .bool)):=rfl
theorem e_fn69:env.fn 69 = some ([.str,(.int .i64),.str],.bool):=rfl
theorem e_fn70:env.fn 70 = some ([EndT,EndT],.bool):=rfl
theorem e_fn71:env.fn 71 = some ([(.int .i64),(.int .i64),(.int .i64)],.bool):=rfl
theorem e_fn73:env.fn 73 = some ([(.st (.pair (.int .i64) (.int .i64))),.str,.str],RuleT):=rfl
theorem e_fn74:env.fn 74 = some ([.str],.bool):=rfl
theorem e_fn75:env.fn 75 = some ([(.int .i64),RuleT],.bool):=rfl
theorem e_fn76:env.fn 76 = some ([(.sl RuleT),RuleT],.bool):=rfl
theorem e_fn78:env.fn 78 = some ([SchemeT],(.mp (.int .i64) (.sl (.int .i64)))):=rfl
theorem e_fn81:env.fn 81 = some ([SchemeT,(.int .i64)],.bool):=rfl
theorem e_fn82:env.fn 82 = some ([SchemeT,(.int .i64)],.bool):=rfl
theorem e_fn83:env.fn 83 = some ([.str,.str],.bool):=rfl
theorem e_fn85:env.fn 85 = some ([(.sl PlaceT),PlaceT],.bool):=rfl
theorem e_fn86:env.fn 86 = some ([(.int .u8)],(.int .i64)):=rfl
theorem e_fn88:env.fn 88 = some ([(.sl RuleT),RuleT],(.int .i64)):=rfl
theorem e_fn90:env.fn 90 = some ([.str,.str],.bool):=rfl
theorem e_fn113:env.fn 113 = some ([(.ptr .unit)],(.int .i64)):=rfl
theorem e_fn33:env.fn 33 = none:=rfl
theorem e_hfn33:env.hfn 33 = some [none,none]:=rfl
theorem e_fn34:env.fn 34 = none:=rfl
theorem e_hfn34:env.hfn 34 = some [none,none]:=rfl
theorem e_fn35:env.fn 35 = none:=rfl
theorem e_hfn35:env.hfn 35 = some [none]:=rfl
theorem e_fn36:env.fn 36 = none:=rfl
theorem e_hfn36:env.hfn 36 = some [none,some (.ptr BranchT)]:=rfl
theorem e_fn37:env.fn 37 = none:=rfl
theorem e_hfn37:env.hfn 37 = some [none,none]:=rfl
theorem e_fn38:env.fn 38 = none:=rfl
theorem e_hfn38:env.hfn 38 = some [none,some (.ptr BranchT)]:=rfl
theorem e_fn41:env.fn 41 = none:=rfl
theorem e_hfn41:env.hfn 41 = some [none]:=rfl
theorem e_fn42:env.fn 42 = none:=rfl
theorem e_hfn42:env.hfn 42 = some [none,some PlaceT105,some (.sl (.int .i64))]:=rfl
theorem e_fn47:env.fn 47 = none:=rfl
theorem e_hfn47:env.hfn 47 = some [none,some .str]:=rfl
theorem e_fn48:env.fn 48 = none:=rfl
theorem e_hfn48:env.hfn 48 = some [none]:=rfl
theorem e_fn49:env.fn 49 = none:=rfl
theorem e_hfn49:env.hfn 49 = some [some (.int .u8)]:=rfl
theorem e_fn57:env.fn 57 = none:=rfl
theorem e_hfn57:env.hfn 57 = some [none,some ThreadT,some (.int .i64)]:=rfl
theorem e_fn58:env.fn 58 = none:=rfl
theorem e_hfn58:env.hfn 58 = some [none,some SpotT,some (.int .i64)]:=rfl
theorem e_fn61:env.fn 61 = none:=rfl
theorem e_hfn61:env.hfn 61 = some [none,some (.int .i64),some (.int .i64)]:=rfl
theorem e_fn63:env.fn 63 = none:=rfl
theorem e_hfn63:env.hfn 63 = some [none,some (.int .i64)]:=rfl
theorem e_fn64:env.fn 64 = none:=rfl
theorem e_hfn64:env.hfn 64 = some [none,some (.sl PlaceT),some .str,some (.int .i64)]:=rfl
theorem e_fn67:env.fn 67 = none:=rfl
theorem e_hfn67:env.hfn 67 = some [none,some PlaceT105]:=rfl
theorem e_fn72:env.fn 72 = none:=rfl
theorem e_hfn72:env.hfn 72 = some [none]:=rfl
theorem e_fn77:env.fn 77 = none:=rfl
theorem e_hfn77:env.hfn 77 = some [some SchemeT]:=rfl
theorem e_fn79:env.fn 79 = none:=rfl
theorem e_hfn79:env.hfn 79 = some [some (.int .i64),none]:=rfl
theorem e_fn80:env.fn 80 = none:=rfl
theorem e_hfn80:env.hfn 80 = some [some (.int .i64),none,none,none,none]:=rfl
theorem e_fn84:env.fn 84 = none:=rfl
theorem e_hfn84:env.hfn 84 = some [none,some .str,some (.int .i64)]:=rfl
theorem e_fn89:env.fn 89 = none:=rfl
theorem e_hfn89:env.hfn 89 = some [some (.int .i64),none,none]:=rfl
theorem e_fn108:env.fn 108 = none:=rfl
theorem e_hfn108:env.hfn 108 = some [none]:=rfl
theorem e_fn109:env.fn 109 = none:=rfl
theorem e_hfn109:env.hfn 109 = some [none,some (.int .i64),some (.int .i64)]:=rfl
theorem e_fn110:env.fn 110 = none:=rfl
theorem e_hfn110:env.hfn 110 = some [none,some (.int .i64),some (.int .i64)]:=rfl
theorem e_fn111:env.fn 111 = none:=rfl
theorem e_hfn111:env.hfn 111 = some [none]:=rfl
theorem e_fn112:env.fn 112 = none:=rfl
theorem e_hfn112:env.hfn 112 = some [none,none]:=rfl
theorem e_meth94_Len : env.meth 94 "Len" = some (108, some 90) := by kernel_rfl
theorem e_meth94_Less : env.meth 94 "Less" = some (109, some 90) := by kernel_rfl
theorem e_meth94_Swap : env.meth 94 "Swap" = some (110, some 90) := by kernel_rfl
theorem e_meth94_Push : env.meth 94 "Push" = some (112, none) := by kernel_rfl
theorem e_meth94_Pop : env.meth 94 "Pop" = some (111, none) := by kernel_rfl
theorem fn_7:env.P.funcs[7]? = some Try.f7:=rfl
theorem fn_9:env.P.funcs[9]? = some Try.f9:=rfl
theorem fn_10:env.P.funcs[10]? = some Try.f10:=rfl
theorem fn_12:env.P.funcs[12]? = some Try.f12:=rfl
theorem fn_14:env.P.funcs[14]? = some Try.f14:=rfl
theorem fn_16:env.P.funcs[16]? = some Try.f16:=rfl
theorem fn_18:env.P.funcs[18]? = some Try.f18:=rfl
theorem fn_19:env.P.funcs[19]? = some Try.f19:=rfl
theorem fn_24:env.P.funcs[24]? = some Try.f24:=rfl
theorem fn_26:env.P.funcs[26]? = some Try.f26:=rfl
theorem fn_27:env.P.funcs[27]? = some Try.f27:=rfl
theorem fn_29:env.P.funcs[29]? = some Try.f29:=rfl
theorem fn_30:env.P.funcs[30]? = some Try.f30:=rfl
theorem fn_31:env.P.funcs[31]? = some Try.f31:=rfl
theorem fn_32:env.P.funcs[32]? = some Try.f32:=rfl
theorem fn_33:env.P.funcs[33]? = some Try.f33:=rfl
theorem fn_34:env.P.funcs[34]? = some Try.f34:=rfl
theorem fn_35:env.P.funcs[35]? = some Try.f35:=rfl
theorem fn_36:env.P.funcs[36]? = some Try.f36:=rfl
theorem fn_37:env.P.funcs[37]? = some Try.f37:=rfl
theorem fn_38:env.P.funcs[38]? = some Try.f38:=rfl
theorem fn_40:env.P.funcs[40]? = some Try.f40:=rfl
theorem fn_41:env.P.funcs[41]? = some Try.f41:=rfl
theorem fn_42:env.P.funcs[42]? = some Try.f42:=rfl
theorem fn_45:env.P.funcs[45]? = some Try.f45:=rfl
theorem fn_46:env.P.funcs[46]? = some Try.f46:=rfl
theorem fn_49:env.P.funcs[49]? = some Try.f49:=rfl
theorem fn_50:env.P.funcs[50]? = some Try.f50:=rfl
theorem fn_51:env.P.funcs[51]? = some Try.f51:=rfl
theorem fn_52:env.P.funcs[52]? = some Try.f52:=rfl
theorem fn_53:env.P.funcs[53]? = some Try.f53:=rfl
theorem fn_54:env.P.funcs[54]? = some Try.f54:=rfl
theorem fn_55:env.P.funcs[55]? = some Try.f55:=rfl
theorem fn_56:env.P.funcs[56]? = some Try.f56:=rfl
theorem fn_57:env.P.funcs[57]? = some Try.f57:=rfl
theorem fn_58:env.P.funcs[58]? = some Try.f58:=rfl
theorem fn_59:env.P.funcs[59]? = some Try.f59:=rfl
theorem fn_60:env.P.funcs[60]? = some Try.f60:=rfl
theorem fn_61:env.P.funcs[61]? = some Try.f61:=rfl
theorem fn_62:env.P.funcs[62]? = some Try.f62:=rfl
theorem fn_63:env.P.funcs[63]? = some Try.f63:=rfl
theorem fn_65:env.P.funcs[65]? = some Try.f65:=rfl
theorem fn_66:env.P.funcs[66]? = some Try.f66:=rfl
theorem fn_67:env.P.funcs[67]? = some Try.f67:=rfl
theorem fn_68:env.P.funcs[68]? = some Try.f68:=rfl
theorem fn_71:env.P.funcs[71]? = some Try.f71:=rfl
theorem fn_73:env.P.funcs[73]? = some Try.f73:=rfl
theorem fn_74:env.P.funcs[74]? = some Try.f74:=rfl
theorem fn_75:env.P.funcs[75]? = some Try.f75:=rfl
theorem fn_76:env.P.funcs[76]? = some Try.f76:=rfl
theorem fn_77:env.P.funcs[77]? = some Try.f77:=rfl
theorem fn_79:env.P.funcs[79]? = some Try.f79:=rfl
theorem fn_80:env.P.funcs[80]? = some Try.f80:=rfl
theorem fn_81:env.P.funcs[81]? = some Try.f81:=rfl
theorem fn_82:env.P.funcs[82]? = some Try.f82:=rfl
theorem fn_83:env.P.funcs[83]? = some Try.f83:=rfl
theorem fn_86:env.P.funcs[86]? = some Try.f86:=rfl
theorem fn_88:env.P.funcs[88]? = some Try.f88:=rfl
theorem fn_89:env.P.funcs[89]? = some Try.f89:=rfl
theorem fn_90:env.P.funcs[90]? = some Try.f90:=rfl
theorem fn_108:env.P.funcs[108]? = some Try.f108:=rfl
theorem fn_109:env.P.funcs[109]? = some Try.f109:=rfl
theorem fn_110:env.P.funcs[110]? = some Try.f110:=rfl
theorem fn_111:env.P.funcs[111]? = some Try.f111:=rfl
theorem fn_112:env.P.funcs[112]? = some Try.f112:=rfl
attribute [go_sem] e_key75 e_key83 e_key100 e_key160 e_ty1 e_ty2 e_ty3 e_ty4 e_ty5 e_ty6 e_ty7 e_ty8 e_ty9 e_ty10 e_ty11 e_ty12 e_ty13 e_ty14 e_ty21 e_ty22 e_ty23 e_ty24 e_ty25 e_ty26 e_ty27 e_ty28 e_ty29 e_ty30 e_ty31 e_ty32 e_ty33 e_ty34 e_ty35 e_ty37 e_ty39 e_ty40 e_ty42 e_ty43 e_ty44 e_ty45 e_ty46 e_ty47 e_ty49 e_ty50 e_ty51 e_ty52 e_ty53 e_ty54 e_ty55 e_ty56 e_ty57 e_ty58 e_ty59 e_ty60 e_ty61 e_ty62 e_ty63 e_ty64 e_ty65 e_ty66 e_ty67 e_ty68 e_ty69 e_ty70 e_ty71 e_ty73 e_ty74 e_ty75 e_ty76 e_ty77 e_ty78 e_ty79 e_ty80 e_ty81 e_ty82 e_ty83 e_ty84 e_ty85 e_ty86 e_ty87 e_ty88 e_ty89 e_ty90 e_ty91 e_ty93 e_ty95 e_ty96 e_ty97 e_ty98 e_ty99 e_ty100 e_ty101 e_ty102 e_ty104 e_ty105 e_ty106 e_ty107 e_ty108 e_ty109 e_ty110 e_ty111 e_ty112 e_ty113 e_ty115 e_ty116 e_ty117 e_ty118 e_ty122 e_ty123 e_ty124 e_ty125 e_ty126 e_ty127 e_ty128 e_ty130 e_ty131 e_ty132 e_ty133 e_ty134 e_ty135 e_ty136 e_ty139 e_ty140 e_ty141 e_ty142 e_ty143 e_ty144 e_ty145 e_ty147 e_ty148 e_ty149 e_ty150 e_ty152 e_ty153 e_ty154 e_ty155 e_ty157 e_ty158 e_ty159 e_ty160 e_ty161 e_ty162 e_ty163 e_ty164 e_ty165 e_ty167 e_ty168 e_ty170 e_ty171 e_ty172 e_ty173 e_ty175 e_ty176 e_ty182 e_ty183 e_ty184 e_ty185 e_ty186 e_ty187 e_str7 e_str8 e_str13 e_str14 e_str23 e_str24 e_str30 e_str31 e_str45 e_str46 e_str52 e_str53 e_str55 e_str56 e_str62 e_str63 e_str64 e_str65 e_str76 e_str77 e_str79 e_str80 e_str81 e_str82 e_str84 e_str85 e_str86 e_str87 e_str101 e_str102 e_str104 e_str105 e_str107 e_str108 e_str110 e_str111 e_str112 e_str113 e_str117 e_str118 e_str132 e_str133 e_str147 e_str148 e_str167 e_str168 e_str27 e_str50 e_str60 e_str69 e_cmp7 e_cmp8 e_cmp27 e_cmp45 e_cmp46 e_cmp50 e_cmp52 e_cmp53 e_cmp55 e_cmp56 e_cmp60 e_cmp64 e_cmp65 e_cmp69 e_cmp79 e_cmp80 e_cmp81 e_cmp82 e_cmp84 e_cmp85 e_cmp104 e_cmp105 e_cmp110 e_cmp111 e_cmp112 e_cmp113 e_cmp132 e_cmp133 e_cmp167 e_cmp168 e_fn2 e_fn3 e_fn4 e_fn5 e_fn6 e_fn7 e_fn8 e_fn9 e_fn10 e_fn11 e_fn12 e_fn13 e_fn14 e_fn15 e_fn16 e_fn17 e_fn18 e_fn19 e_fn20 e_fn21 e_fn22 e_fn23 e_fn24 e_fn25 e_fn26 e_fn27 e_fn28 e_fn29 e_fn30 e_fn31 e_fn32 e_fn39 e_fn40 e_fn43 e_fn44 e_fn45 e_fn46 e_fn50 e_fn51 e_fn52 e_fn53 e_fn54 e_fn55 e_fn56 e_fn59 e_fn60 e_fn62 e_fn65 e_fn66 e_fn68 e_fn69 e_fn70 e_fn71 e_fn73 e_fn74 e_fn75 e_fn76 e_fn78 e_fn81 e_fn82 e_fn83 e_fn85 e_fn86 e_fn88 e_fn90 e_fn113 e_fn33 e_hfn33 e_fn34 e_hfn34 e_fn35 e_hfn35 e_fn36 e_hfn36 e_fn37 e_hfn37 e_fn38 e_hfn38 e_fn41 e_hfn41 e_fn42 e_hfn42 e_fn47 e_hfn47 e_fn48 e_hfn48 e_fn49 e_hfn49 e_fn57 e_hfn57 e_fn58 e_hfn58 e_fn61 e_hfn61 e_fn63 e_hfn63 e_fn64 e_hfn64 e_fn67 e_hfn67 e_fn72 e_hfn72 e_fn77 e_hfn77 e_fn79 e_hfn79 e_fn80 e_hfn80 e_fn84 e_hfn84 e_fn89 e_hfn89 e_fn108 e_hfn108 e_fn109 e_hfn109 e_fn110 e_hfn110 e_fn111 e_hfn111 e_fn112 e_hfn112 e_meth94_Len e_meth94_Less e_meth94_Swap e_meth94_Push e_meth94_Pop e_con0 e_px0 e_emp0 e_fl0 e_stp0 e_nd0 e_ro0 e_tm0 e_bx0 e_el0
end Go.Proofs.Ytefpgfdemmllpaa
namespace Go.Proofs.Ytefpgfdemmllpaa
set_option maxHeartbeats 4000000
set_option maxRecDepth 100000

theorem i64_ok {x:Int} (h:-9223372036854775808 ≤ x) (h':x ≤ 9223372036854775807):IntKind.i64.min ≤ x ∧ x ≤ IntKind.i64.max:=⟨h,h'⟩
theorem i64_of {x:Int} (h:IntKind.i64.min ≤ x ∧ x ≤ IntKind.i64.max):-9223372036854775808 ≤ x ∧ x ≤ 9223372036854775807:=h
theorem u8_ok {x:Int} (h:0 ≤ x) (h':x ≤ 255):IntKind.u8.min ≤ x ∧ x ≤ IntKind.u8.max:=⟨h,h'⟩
theorem u8_of {x:Int} (h:IntKind.u8.min ≤ x ∧ x ≤ IntKind.u8.max):0 ≤ x ∧ x ≤ 255:=h
theorem drop_cons {α:Type} {xs:List α} {i:Nat} {x:α} (h:xs[i]? = some x):xs.drop i = x :: xs.drop (i + 1):=by
  obtain ⟨hi,e⟩:=List.getElem?_eq_some_iff.1 h
  rw [List.drop_eq_getElem_cons hi,e]
theorem take_snoc {α:Type} {xs:List α} {i:Nat} {x:α} (h:xs[i]? = some x):xs.take (i + 1) = xs.take i ++ [x]:=by
  rw [List.take_add_one,h]; rfl
theorem get_of_lt {α:Type} {xs:List α} {i:Nat} (h:i < xs.length):∃ x,xs[i]? = some x:=⟨_,List.getElem?_eq_getElem h⟩
theorem all_step {α:Type} {xs:List α} {i:Nat} {x:α} {p:α → Bool} (h:xs[i]? = some x):(xs.take (i + 1)).all p = ((xs.take i).all p && p x):=by
  rw [take_snoc h,List.all_append]
  simp
theorem all_no {α:Type} {xs:List α} {i:Nat} {x:α} {p:α → Bool} (h:xs[i]? = some x) (hp:p x = false):xs.all p = false:=by
  rw [List.all_eq_false]
  exact ⟨x,List.mem_of_getElem? h,by simp [hp]⟩
theorem Walks.shareX {E:Env} {G:Goal} {todo:List WI} {X:Type} (t:X → St) (inv:X → Prop) {A:Prop} (h:(∀ s x,inv x → Le s (t x) → Walks E G todo s) → A) (hw:∀ x,inv x → Walks E G todo (t x)):A :=
  h fun s x hx hl => Walks.weaken hl (hw x hx)
theorem PC.dec {E:Env} {f:Nat} {xs:List (Sigma Ty.den)} {b:Bool} (h:PC E f xs .bool b):PC E f xs .bool (decide (b = true)):=by cases b <;> exact h
theorem HC.ren {E:Env} {f:Nat} {args:List PV} {bl bl':List (Nat × Blk)} {p:PV} (l:List (Nat × Nat)) (hp:permOK l = true) (h:HC E f args bl p bl'):HC E f args bl (p.ren (permF l)) (renBl (permF l) bl'):=by
  intro w S ν0 vs a1 a2 a3 a4 a5 a6
  refine (h w S ν0 vs a1 a2 a3 a4 a5 a6).mono ?_
  rintro e w' ⟨v,rfl,hk,ν,S',b1,b2,b3,hW,hv⟩
  refine ⟨v,rfl,hk,?_⟩
  obtain ⟨h1,h2,h3⟩:=permOK_inv hp
  have inj:∀ i j,permF l i = permF l j → i = j:=fun i j e => by rw [← h1 i,← h1 j,e]
  have hlook:∀ i b,look i bl' = some b → look (permF l i) (renBl (permF l) bl') = some (b.map (PV.renL (permF l))):=fun i b hb => look_renBl_of (fun j c _ e => inj j i e) hb
  have hold:∀ i b,look i (renBl (permF l) bl') = some b → ∃ j c,permF l j = i ∧ look j bl' = some c ∧ b = c.map (PV.renL (permF l)):=fun i b hb => look_renBl (fun j k _ _ _ _ e => inj j k e) hb
  have hle:Ctx.LeR (keys bl') (permF l) ⟨ν,(⟨[],bl'⟩:St).D,w',⟨S',own0 w ⟨S,foot ν0 bl,ν0,[]⟩⟩⟩ ⟨fun i => ν (permF (swapL l) i),(⟨[],renBl (permF l) bl'⟩:St).D,w',⟨S',own0 w ⟨S,foot ν0 bl,ν0,[]⟩⟩⟩ :=
    ⟨fun _ _ => rfl,fun _ h => h,fun i _ ⟨b,hb⟩ => ⟨_,hlook i b hb⟩,fun i _ _ => by simp only [h1]⟩
  have back3:∀ j,P0 ≤ permF l j → P0 ≤ j:=fun j hi => by
    rcases Nat.lt_or_ge j P0 with h' | h'
    · exfalso
      have e:=h3 (permF l j) hi
      have:=inj _ _ e
      omega
    · exact h'
  refine ⟨fun i => ν (permF (swapL l) i),S',b1,b2,fun i hi ⟨b,hb⟩ => ?_,⟨hW.lt,hW.size,fun i b hb => ?_,fun i j b c hij hi hj g hg hg' => ?_⟩,PRel_ren hle (PRel_keys (fun _ h => h) hv) hv⟩
  · obtain ⟨j,c,rfl,hc,_⟩:=hold i b hb
    have hj:=back3 j hi
    rw [h3 j hj]
    have e:permF (swapL l) j = j:=by
      have:=h1 j
      rw [h3 j hj] at this
      exact this
    simp only [e]
    exact b3 j hj ⟨c,hc⟩
  · obtain ⟨j,c,rfl,hc,rfl⟩:=hold i b hb
    have hr:=hW.blk j c hc
    exact BRel_ren hle (BRel_keys (fun _ h => h) hr) (by simp only [h1]) (fun g hg => ⟨rfl,(BRel_at hr hg).1,(BRel_at hr hg).2.1⟩) hr
  · obtain ⟨i',b',rfl,hb',_⟩:=hold i b hi
    obtain ⟨j',c',rfl,hc',_⟩:=hold j c hj
    simp only [h1] at hg hg'
    exact hW.ne i' j' b' c' (fun e => hij (by rw [e])) hb' hc' g hg hg'
abbrev Str:=List UInt8
abbrev Rl:=Int × Int × Str × Str × Int
abbrev Sch:=Int × Int × List Rl
instance instRl:DecidableEq Rl:=fun a b => inferInstanceAs (Decidable ((a:Int × Int × Str × Str × Int) = b))
def inB (n a b:Int):Bool:=decide (a ≤ n ∧ n ≤ b)
def low (u:UInt8):Bool:=decide (97 ≤ u.toNat ∧ u.toNat ≤ 122)
def aln (u:UInt8):Bool:=decide (97 ≤ u.toNat ∧ u.toNat ≤ 122 ∨ 65 ≤ u.toNat ∧ u.toNat ≤ 90 ∨ 48 ≤ u.toNat ∧ u.toNat ≤ 57)
def modeB (n m:Int):Bool:=decide (0 ≤ m ∧ m < n ∧ m < 8)
def fitsB (n:Int) (r:Rl):Bool:=modeB n r.1 && modeB n r.2.1 && inB r.2.2.2.2 0 1000
def accB (a m:Int):Bool:=decide (a / 2 ^ m.toNat % 2 = 1)
theorem and_one {a:Int} (h:0 ≤ a):((a.toNat &&& (1:Int).toNat:Nat):Int) = a % 2:=by
  show ((a.toNat &&& 1:Nat):Int) = _
  rw [Nat.and_one_is_mod]; omega
theorem shr_nn {a:Int} (h:0 ≤ a) (m:Nat):0 ≤ a / 2 ^ m:=Int.ediv_nonneg h (Int.le_of_lt (Int.pow_pos (by decide)))
theorem c_In (v a b:Int):PC env 71 [⟨.int .i64,v⟩,⟨.int .i64,a⟩,⟨.int .i64,b⟩] .bool (inB v a b):=by
  refine PC.of_PW (m:=2000) env_ok fn_71 rfl rfl rfl rfl (by kernel_rfl) ?_; intro hx; simp only [Try.f71]; simp only [go_sem,zA,↓reduceIte,↓reduceDIte,zB,zC,zD,zE,zF,zG,zH,zI]
  unfold inB
  refine ⟨fun h => ?_,fun h => ?_⟩
  · congr 1; simp; omega
  · symm; simp; omega
theorem c_Small (s:Str):PC env 46 [⟨.str,s⟩] .bool (s.all low):=by
  refine PC.of_PW (m:=2000) env_ok fn_46 rfl rfl rfl rfl (by kernel_rfl) ?_; intro hx; simp only [Try.f46]; simp only [go_sem,zA,↓reduceIte,↓reduceDIte,zB,zC,zD,zE,zF,zG,zH,zI]
  have hlen:s.length ≤ 9223372036854775807:=hx.1
  refine Walks.loopA (X:=Nat) (fun (i:Nat) => [(3,.iv (.int .i64) (i:Int))]) (fun (i:Nat) => []) (fun (i:Nat) => i ≤ s.length ∧ (s.take i).all low = true) (fun (i:Nat) => s.length - i) 0 ?_; intro b1 b2 hb1 hb2; simp (config:={maxSteps:=4000000}) only [go_sem,zA,↓reduceIte,↓reduceDIte,zB,zC,zD,zE,zF,zG,zH,zI] at hb1 hb2; subst hb1; subst hb2; refine ⟨(by refine ⟨?_,?_,rfl,rfl⟩ <;> repeat' (first | exact trivial | exact Or.inl rfl | exact Or.inr rfl | apply le1 | apply le2 | apply le3 | apply le4 | exact ⟨(by show (_:Nat) < 1000000000; omega),rfl,rfl⟩ | rfl | (refine And.intro (Or.inl ?_) ?_) | (refine And.intro ?_ ?_))),?_,?_⟩
  · exact ⟨Nat.zero_le _,rfl⟩
  intro i ⟨hi,hb⟩ back
  refine PW_sound env_ok ⟨_,fn_46,rfl⟩ 2000 _ _ (by kernel_rfl) ?_; simp only [go_sem,zA,↓reduceIte,↓reduceDIte,zB,zC,zD,zE,zF,zG,zH,zI]
  refine ⟨fun h => ?_,fun h => ?_⟩
  · obtain ⟨x,hxi⟩:∃ x,s[i]? = some x:=get_of_lt (by omega)
    have hno:low x = false → false = s.all low:=fun hl => (all_no hxi hl).symm
    have hyes:low x = true → (s.take (i + 1)).all low = true:=fun hl => by rw [all_step hxi,hb,hl]; rfl
    refine ⟨Int.natCast_nonneg _,_,⟨x,hxi,rfl⟩,?_⟩
    repeat' (first | (with_reducible intro _) | (with_reducible apply And.intro) | (with_reducible refine Exists.intro _ (And.intro (Exists.intro x (And.intro hxi rfl)) ?_)))
    all_goals first
      | (refine hno ?_; simp [low]; omega)
      | with_reducible exact Int.natCast_nonneg _
      | omega
      | (refine back _ (i + 1) (by refine ⟨?_,?_,rfl,rfl⟩ <;> repeat' (first | exact trivial | exact Or.inl rfl | exact Or.inr rfl | apply le1 | apply le2 | apply le3 | apply le4 | exact ⟨(by show (_:Nat) < 1000000000; omega),rfl,rfl⟩ | rfl | (refine And.intro (Or.inl ?_) ?_) | (refine And.intro ?_ ?_))) ⟨by omega,hyes ?_⟩ (by omega); simp [low]; omega)
      | skip
  · rw [List.take_of_length_le (by omega)] at hb
    rw [hb]
theorem c_Plain (s:Str):PC env 45 [⟨.str,s⟩] .bool (s.all aln):=by
  refine PC.of_PW (m:=2000) env_ok fn_45 rfl rfl rfl rfl (by kernel_rfl) ?_; intro hx; simp only [Try.f45]; simp only [go_sem,zA,↓reduceIte,↓reduceDIte,zB,zC,zD,zE,zF,zG,zH,zI]
  have hlen:s.length ≤ 9223372036854775807:=hx.1
  refine Walks.loopA (X:=Nat) (fun (i:Nat) => [(3,.iv (.int .i64) (i:Int))]) (fun (i:Nat) => []) (fun (i:Nat) => i ≤ s.length ∧ (s.take i).all aln = true) (fun (i:Nat) => s.length - i) 0 ?_; intro b1 b2 hb1 hb2; simp (config:={maxSteps:=4000000}) only [go_sem,zA,↓reduceIte,↓reduceDIte,zB,zC,zD,zE,zF,zG,zH,zI] at hb1 hb2; subst hb1; subst hb2; refine ⟨(by refine ⟨?_,?_,rfl,rfl⟩ <;> repeat' (first | exact trivial | exact Or.inl rfl | exact Or.inr rfl | apply le1 | apply le2 | apply le3 | apply le4 | exact ⟨(by show (_:Nat) < 1000000000; omega),rfl,rfl⟩ | rfl | (refine And.intro (Or.inl ?_) ?_) | (refine And.intro ?_ ?_))),?_,?_⟩
  · exact ⟨Nat.zero_le _,rfl⟩
  intro i ⟨hi,hb⟩ back
  refine PW_sound env_ok ⟨_,fn_45,rfl⟩ 2000 _ _ (by kernel_rfl) ?_; simp only [go_sem,zA,↓reduceIte,↓reduceDIte,zB,zC,zD,zE,zF,zG,zH,zI]
  refine ⟨fun h => ?_,fun h => ?_⟩
  · obtain ⟨x,hxi⟩:∃ x,s[i]? = some x:=get_of_lt (by omega)
    have hno:aln x = false → false = s.all aln:=fun hl => (all_no hxi hl).symm
    have hyes:aln x = true → (s.take (i + 1)).all aln = true:=fun hl => by rw [all_step hxi,hb,hl]; rfl
    refine ⟨Int.natCast_nonneg _,_,⟨x,hxi,rfl⟩,?_⟩
    repeat' (first | (with_reducible intro _) | (with_reducible apply And.intro))
    all_goals first
      | (refine hno ?_; simp [aln]; omega)
      | with_reducible exact Int.natCast_nonneg _
      | omega
      | (refine back _ (i + 1) (by refine ⟨?_,?_,rfl,rfl⟩ <;> repeat' (first | exact trivial | exact Or.inl rfl | exact Or.inr rfl | apply le1 | apply le2 | apply le3 | apply le4 | exact ⟨(by show (_:Nat) < 1000000000; omega),rfl,rfl⟩ | rfl | (refine And.intro (Or.inl ?_) ?_) | (refine And.intro ?_ ?_))) ⟨by omega,hyes ?_⟩ (by omega); simp [aln]; omega)
      | exact (i64_ok (by omega) (by omega)).1
      | exact (i64_ok (by omega) (by omega)).2
      | skip
  · rw [List.take_of_length_le (by omega)] at hb
    rw [hb]
theorem c_isMode (s:Sch) (m:Int):PC env 82 [⟨SchemeT,s⟩,⟨.int .i64,m⟩] .bool (modeB s.1 m):=by
  obtain ⟨n,a,l⟩:=s
  refine PC.of_PW (m:=2000) env_ok fn_82 rfl rfl rfl rfl (by kernel_rfl) ?_; intro hx; simp only [Try.f82]; simp only [go_sem,zA,↓reduceIte,↓reduceDIte,zB,zC,zD,zE,zF,zG,zH,zI]
  unfold modeB
  repeat' (first | (with_reducible intro _) | (with_reducible apply And.intro))
  all_goals first | (rw [decide_eq_decide]; omega) | (symm; simp; omega)
theorem c_fits (s:Sch) (r:Rl):PC env 55 [⟨SchemeT,s⟩,⟨RuleT,r⟩] .bool (fitsB s.1 r):=by
  obtain ⟨n,a,l⟩:=s
  obtain ⟨fr,t,i,o,c⟩:=r
  have h1:=(c_isMode (n,a,l) fr).dec
  have h2:=(c_isMode (n,a,l) t).dec
  refine PC.of_PW (m:=2000) env_ok fn_55 rfl rfl rfl rfl (by kernel_rfl) ?_; intro hx; simp only [Try.f55]; simp only [go_sem,zA,↓reduceIte,↓reduceDIte,zB,zC,zD,zE,zF,zG,zH,zI]
  repeat' (first | (with_reducible intro _) | (with_reducible apply And.intro) | (with_reducible refine ⟨_,h1,?_⟩; try simp only [go_sem,zA,↓reduceIte,↓reduceDIte,zB,zC,zD,zE,zF,zG,zH,zI]) | (with_reducible refine ⟨_,h2,?_⟩; try simp only [go_sem,zA,↓reduceIte,↓reduceDIte,zB,zC,zD,zE,zF,zG,zH,zI]) | fail)
  all_goals (unfold fitsB inB; dsimp only at *; simp_all; try omega)
theorem c_accepting (s:Sch) (m:Int) (h0:0 ≤ m ∧ m < 8):PC env 81 [⟨SchemeT,s⟩,⟨.int .i64,m⟩] .bool (accB s.2.1 m):=by
  obtain ⟨n,a,l⟩:=s
  refine PC.of_PW (m:=2000) env_ok fn_81 rfl rfl rfl rfl (by kernel_rfl) ?_; intro hx; simp only [Try.f81]; simp only [go_sem,zA,↓reduceIte,↓reduceDIte,zB,zC,zD,zE,zF,zG,zH,zI]
  have ha:=u8_of hx.1.2.1
  dsimp only at ha
  exact ⟨⟨ha.1,h0⟩,shr_nn ha.1 _,by show decide (((_ &&& (1:Int).toNat:Nat):Int) = 1) = _; rw [and_one (shr_nn ha.1 _)]; rfl⟩
end Go.Proofs.Ytefpgfdemmllpaa
namespace Go.Proofs.Ytefpgfdemmllpaa
set_option maxHeartbeats 4000000
set_option maxRecDepth 100000
theorem take_eq {α:Type} {a b:List α} {k:Nat} (h:a.take k = b.take k) (ha:a.length ≤ k) (hb:b.length ≤ k):a = b:=by
  rwa [List.take_of_length_le ha,List.take_of_length_le hb] at h
theorem c_Ints (a b:List Int):PC env 19 [⟨.sl (.int .i64),a⟩,⟨.sl (.int .i64),b⟩] .bool (decide (a = b)):=by
  refine PC.of_PW (m:=2000) env_ok fn_19 rfl rfl rfl rfl (by kernel_rfl) ?_; intro hx; simp only [Try.f19]; simp only [go_sem,zA,↓reduceIte,↓reduceDIte,zB,zC,zD,zE,zF,zG,zH,zI]
  refine ⟨fun h => ?_,fun h => ?_⟩
  · symm; rw [decide_eq_false_iff_not]; rintro rfl; exact h rfl
  refine Walks.loopA (X:=Nat) (fun (k:Nat) => [(5,.iv (.int .i64) (k:Int))]) (fun (k:Nat) => []) (fun (k:Nat) => k ≤ a.length ∧ a.take k = b.take k) (fun (k:Nat) => a.length - k) 0 ?_; intro b1 b2 hb1 hb2; simp (config:={maxSteps:=4000000}) only [go_sem,zA,↓reduceIte,↓reduceDIte,zB,zC,zD,zE,zF,zG,zH,zI] at hb1 hb2; subst hb1; subst hb2; refine ⟨(by refine ⟨?_,?_,rfl,rfl⟩ <;> repeat' (first | exact trivial | exact Or.inl rfl | exact Or.inr rfl | apply le1 | apply le2 | apply le3 | apply le4 | exact ⟨(by show (_:Nat) < 1000000000; omega),rfl,rfl⟩ | rfl | (refine And.intro (Or.inl ?_) ?_) | (refine And.intro ?_ ?_))),?_,?_⟩
  · exact ⟨Nat.zero_le _,rfl⟩
  have hla:a.length ≤ 9223372036854775807:=hx.1.1
  intro k ⟨hk,he⟩ back
  refine PW_sound env_ok ⟨_,fn_19,rfl⟩ 2000 _ _ (by kernel_rfl) ?_; simp only [go_sem,zA,↓reduceIte,↓reduceDIte,zB,zC,zD,zE,zF,zG,zH,zI]
  refine ⟨fun h2 => ?_,fun h2 => ?_⟩
  · obtain ⟨x,hxi⟩:∃ x,a[k]? = some x:=get_of_lt (by omega)
    obtain ⟨y,hyi⟩:∃ y,b[k]? = some y:=get_of_lt (by omega)
    refine ⟨Int.natCast_nonneg _,x,hxi,Int.natCast_nonneg _,y,hyi,fun hn => ?_,fun hy => ?_⟩
    · symm; rw [decide_eq_false_iff_not]; rintro rfl
      rw [hxi] at hyi; injection hyi with hyi
      exact hn hyi
    · subst hy
      exact ⟨i64_ok (by omega) (by omega),back _ (k + 1) (by refine ⟨?_,?_,rfl,rfl⟩ <;> repeat' (first | exact trivial | exact Or.inl rfl | exact Or.inr rfl | apply le1 | apply le2 | apply le3 | apply le4 | exact ⟨(by show (_:Nat) < 1000000000; omega),rfl,rfl⟩ | rfl | (refine And.intro (Or.inl ?_) ?_) | (refine And.intro ?_ ?_))) ⟨by omega,by rw [take_snoc hxi,take_snoc hyi,he]⟩ (by omega)⟩
  · symm; rw [decide_eq_true_eq]
    exact take_eq he (by omega) (by omega)
def rightR (n:Int) (r:Rl):Bool:=inB r.1 0 (n - 1) && inB r.2.1 0 (n - 1) && decide (r.2.2.1.length ≤ 4) && r.2.2.1.all low && decide (r.2.2.2.1.length ≤ 4) && r.2.2.2.1.all aln && inB r.2.2.2.2 0 1000
def rightAt (n:Int) (l:List Rl) (i:Nat):Bool:=match l[i]? with | some r => decide (r ∉ l.take i) && rightR n r | none => false
theorem c_Right (s:Sch) (i:Nat) (hn:0 ≤ s.1) (hi:i < s.2.2.length):PC env 50 [⟨SchemeT,s⟩,⟨.int .i64,(i:Int)⟩] .bool (rightAt s.1 s.2.2 i):=by
  obtain ⟨n,a,l⟩:=s
  obtain ⟨r,hr⟩:∃ r,l[i]? = some r:=get_of_lt hi
  dsimp only at hn hi
  have hra:rightAt n l i = (decide (r ∉ l.take i) && rightR n r):=by unfold rightAt; rw [hr]
  dsimp only
  rw [hra]
  clear hra
  obtain ⟨fr,t,ri,ro,c⟩:=r
  refine PC.of_PW (m:=2000) env_ok fn_50 rfl rfl rfl rfl (by kernel_rfl) ?_; intro hx; simp only [Try.f50]; simp only [go_sem,zA,↓reduceIte,↓reduceDIte,zB,zC,zD,zE,zF,zG,zH,zI]
  have hla:l.length ≤ 9223372036854775807:=hx.1.2.2.1
  have hnn:=i64_of hx.1.1
  dsimp only at hnn
  refine ⟨Int.natCast_nonneg _,_,hr,?_⟩
  refine Walks.loopA (X:=Nat) (fun (k:Nat) => [(6,.iv (.int .i64) (k:Int))]) (fun (k:Nat) => []) (fun (k:Nat) => k ≤ i ∧ (fr,t,ri,ro,c) ∉ l.take k) (fun (k:Nat) => i - k) 0 ?_; intro b1 b2 hb1 hb2; simp (config:={maxSteps:=4000000}) only [go_sem,zA,↓reduceIte,↓reduceDIte,zB,zC,zD,zE,zF,zG,zH,zI] at hb1 hb2; subst hb1; subst hb2; refine ⟨(by refine ⟨?_,?_,rfl,rfl⟩ <;> repeat' (first | exact trivial | exact Or.inl rfl | exact Or.inr rfl | apply le1 | apply le2 | apply le3 | apply le4 | exact ⟨(by show (_:Nat) < 1000000000; omega),rfl,rfl⟩ | rfl | (refine And.intro (Or.inl ?_) ?_) | (refine And.intro ?_ ?_))),?_,?_⟩
  · exact ⟨Nat.zero_le _,by simp⟩
  intro k ⟨hk,he⟩ back
  refine PW_sound env_ok ⟨_,fn_50,rfl⟩ 2000 _ _ (by kernel_rfl) ?_; simp only [go_sem,zA,↓reduceIte,↓reduceDIte,zB,zC,zD,zE,zF,zG,zH,zI]
  refine ⟨fun h2 => ?_,fun h2 => ?_⟩
  · obtain ⟨x,hxi⟩:∃ x,l[k]? = some x:=get_of_lt (by omega)
    refine ⟨Int.natCast_nonneg _,x,hxi,fun hy => ?_,fun hn => ?_⟩
    · have e:x = (fr,t,ri,ro,c):=by
        obtain ⟨e1,e2,e3,e4,e5⟩:=hy
        exact Prod.ext e1 (Prod.ext e2 (Prod.ext e3 (Prod.ext e4 e5)))
      have hm:(fr,t,ri,ro,c) ∈ l.take i:=by
        rw [← e]
        refine List.mem_of_getElem? (i:=k) ?_
        rw [List.getElem?_take,if_pos (by omega)]; exact hxi
      rw [decide_eq_false (by simpa using hm)]; rfl
    · refine ⟨i64_ok (by omega) (by omega),back _ (k + 1) (by refine ⟨?_,?_,rfl,rfl⟩ <;> repeat' (first | exact trivial | exact Or.inl rfl | exact Or.inr rfl | apply le1 | apply le2 | apply le3 | apply le4 | exact ⟨(by show (_:Nat) < 1000000000; omega),rfl,rfl⟩ | rfl | (refine And.intro (Or.inl ?_) ?_) | (refine And.intro ?_ ?_))) ⟨by omega,?_⟩ (by omega)⟩
      rw [take_snoc hxi,List.mem_append,List.mem_singleton]
      rintro (h | h)
      · exact he h
      · subst h; exact hn ⟨rfl,rfl,rfl,rfl,rfl⟩
  · obtain rfl:k = i:=by omega
    have hd:decide (¬(fr,t,ri,ro,c) ∈ List.take k l) = true:=decide_eq_true he
    rw [hd]
    clear back
    have d1:=(c_In fr 0 (n - 1)).dec
    have d2:=(c_In t 0 (n - 1)).dec
    have d3:=(c_Small ri).dec
    have d4:=(c_Plain ro).dec
    have d5:=(c_In c 0 1000).dec
    have hR:rightR n (fr,t,ri,ro,c) = (inB fr 0 (n - 1) && inB t 0 (n - 1) && decide (ri.length ≤ 4) && ri.all low && decide (ro.length ≤ 4) && ro.all aln && inB c 0 1000):=rfl
    rw [hR]
    generalize ri.all low = b3 at *
    generalize ro.all aln = b4 at *
    refine ⟨i64_ok (by omega) (by omega),?_⟩
    repeat' (first | (with_reducible intro _) | (with_reducible apply And.intro) | (with_reducible refine ⟨_,d1,?_⟩; try simp only [go_sem,zA,↓reduceIte,↓reduceDIte,zB,zC,zD,zE,zF,zG,zH,zI]) | (with_reducible refine ⟨_,d2,?_⟩; try simp only [go_sem,zA,↓reduceIte,↓reduceDIte,zB,zC,zD,zE,zF,zG,zH,zI]) | (with_reducible refine ⟨_,d3,?_⟩; try simp only [go_sem,zA,↓reduceIte,↓reduceDIte,zB,zC,zD,zE,zF,zG,zH,zI]) | (with_reducible refine ⟨_,d4,?_⟩; try simp only [go_sem,zA,↓reduceIte,↓reduceDIte,zB,zC,zD,zE,zF,zG,zH,zI]) | (with_reducible refine ⟨_,d5,?_⟩; try simp only [go_sem,zA,↓reduceIte,↓reduceDIte,zB,zC,zD,zE,zF,zG,zH,zI]) | fail)
    all_goals first | omega | (simp_all; try omega)
end Go.Proofs.Ytefpgfdemmllpaa
namespace Go.Proofs.Ytefpgfdemmllpaa
attribute [local go_sem] Int.reduceEq not_true_eq_false not_false_eq_true false_implies
set_option maxHeartbeats 4000000
set_option maxRecDepth 100000
theorem h_marks (s:Sch) (h:0 ≤ s.1 ∧ s.1 ≤ 8):HC env 77 [.iv SchemeT s] [] (.lfull 7) [(7,.arr .bool (List.replicate s.1.toNat false))]:=by
  obtain ⟨n,a,l⟩:=s
  dsimp only at h
  refine HC.of_PW (m:=2000) env_ok fn_77 rfl rfl rfl rfl (by kernel_rfl) ?_; intro hx hbl; simp only [Try.f77]; simp only [go_sem,zA,↓reduceIte,↓reduceDIte,zB,zC,zD,zE,zF,zG,zH,zI]
  have e:min (max n 0) 8 = n:=by omega
  rw [e]
  exact ⟨⟨h.1,Int.le_trans h.2 (by decide)⟩,rfl⟩
abbrev Pr:=Int × Int
def lessP (p q:Pr):Bool:=decide (p.1 < q.1 ∨ p.1 = q.1 ∧ p.2 < q.2)
def withP (p:Pr) (c:Int):Pr:=(p.1 + c,p.2 + 1)
def simpE (w:Int × Int) (i o:Str):Rl:=(w.1,w.2,i,o,(i.length:Int))
theorem c_simple (w:Int × Int) (i o:Str):PC env 73 [⟨.st (.pair (.int .i64) (.int .i64)),w⟩,⟨.str,i⟩,⟨.str,o⟩] RuleT (simpE w i o):=by
  obtain ⟨w1,w2⟩:=w
  refine PC.of_PW (m:=2000) env_ok fn_73 rfl rfl rfl rfl (by kernel_rfl) ?_; intro hx; simp only [Try.f73]; simp only [go_sem,zA,↓reduceIte,↓reduceDIte,zB,zC,zD,zE,zF,zG,zH,zI]
  rfl
abbrev RawRl:=List Int × List Int × Int × Int × Int
abbrev RawS:=Int × Int × List RawRl
def abcAt (u:Int):Str:=(([97,98,99]:Str).drop (u % 3).toNat).take 1
def outAt (u:Int):Str:=(([97,98,99,65,66,49]:Str).drop (u % 6).toNat).take 1
def made1E (x:RawRl) (n:Int):Rl:=(x.2.2.1 % n,x.2.2.2.1 % n,(x.1.take 2).flatMap abcAt,(x.2.1.take 2).flatMap outAt,x.2.2.2.2 * 2)
theorem c_Made1 (x:RawRl) (n:Int) (hn:0 < n):PC env 24 [⟨RawRuleT,x⟩,⟨.int .i64,n⟩] RuleT (made1E x n):=by
  obtain ⟨xi,xo,xf,xt,xc⟩:=x
  refine PC.of_PW (m:=2000) env_ok fn_24 rfl rfl rfl rfl (by kernel_rfl) ?_; intro hx; simp only [Try.f24]; simp only [go_sem,zA,↓reduceIte,↓reduceDIte,zB,zC,zD,zE,zF,zG,zH,zI]
  have hxi:∀ u,u ∈ xi → 0 ≤ u ∧ u ≤ 255:=fun u hu => u8_of (hx.1.1.2 u hu)
  have hxo:∀ u,u ∈ xo → 0 ≤ u ∧ u ≤ 255:=fun u hu => u8_of (hx.1.2.1.2 u hu)
  have hli:xi.length ≤ 9223372036854775807:=hx.1.1.1
  have hlo:xo.length ≤ 9223372036854775807:=hx.1.2.1.1
  have hf:=u8_of hx.1.2.2.1
  have ht:=u8_of hx.1.2.2.2.1
  have hc:=u8_of hx.1.2.2.2.2
  dsimp only at hf ht hc
  have t1:Int.tmod xf n = xf % n:=Int.tmod_eq_emod_of_nonneg hf.1
  have t2:Int.tmod xt n = xt % n:=Int.tmod_eq_emod_of_nonneg ht.1
  rw [t1,t2]
  refine ⟨hn,hn,i64_ok (by omega) (by omega),?_⟩
  have fin:∀ {α:Type} {l:List α} {i:Nat} {f:α → Str},¬ ((i:Int) < 2 ∧ (i:Int) < (l.length:Int)) → i ≤ 2 → i ≤ l.length → (l.take i).flatMap f = (l.take 2).flatMap f:=by
    intro α l i f h1 h2 h3
    by_cases h:i = 2
    · rw [h]
    · have:i = l.length:=by omega
      subst this
      rw [List.take_of_length_le (Nat.le_refl _),List.take_of_length_le h2]
  have st:∀ {l:List Int} {i:Nat} {u:Int} {f:Int → Str},l[i]? = some u → (l.take (i + 1)).flatMap f = (l.take i).flatMap f ++ f u:=by
    intro l i u f h
    rw [take_snoc h,List.flatMap_append]; simp
  have abcs:∀ u:Int,0 ≤ u → (([97,98,99]:Str).drop (u % 3).toNat).take ((u % 3 + 1).toNat - (u % 3).toNat) = abcAt u:=by
    intro u hu
    rw [show (u % 3 + 1).toNat - (u % 3).toNat = 1 by omega]; rfl
  have outs:∀ u:Int,0 ≤ u → (([97,98,99,65,66,49]:Str).drop (u % 6).toNat).take ((u % 6 + 1).toNat - (u % 6).toNat) = outAt u:=by
    intro u hu
    rw [show (u % 6 + 1).toNat - (u % 6).toNat = 1 by omega]; rfl
  have abc1:∀ u:Int,(abcAt u).length ≤ 1:=fun u => by unfold abcAt; rw [List.length_take]; omega
  have out1:∀ u:Int,(outAt u).length ≤ 1:=fun u => by unfold outAt; rw [List.length_take]; omega
  have abcl:∀ l:List Int,(l.flatMap abcAt).length ≤ l.length:=by
    intro l
    induction l with
    | nil => simp
    | cons x l ih => simp only [List.flatMap_cons,List.length_append,List.length_cons,abcAt,List.length_take]; omega
  have outl:∀ l:List Int,(l.flatMap outAt).length ≤ l.length:=by
    intro l
    induction l with
    | nil => simp
    | cons x l ih => simp only [List.flatMap_cons,List.length_append,List.length_cons,outAt,List.length_take]; omega
  refine Walks.loopA (X:=Nat) (fun (i:Nat) => [(6,.iv (.int .i64) (i:Int))]) (fun (i:Nat) => [(5,.box [.iv (.int .i64) (xf % n),.iv (.int .i64) (xt % n),.iv .str ((xi.take i).flatMap abcAt),.iv .str ([]:Str),.iv (.int .i64) (xc * 2)])]) (fun (i:Nat) => i ≤ xi.length ∧ i ≤ 2) (fun (i:Nat) => 2 - i) 0 ?_; intro b1 b2 hb1 hb2; simp (config:={maxSteps:=4000000}) only [go_sem,zA,↓reduceIte,↓reduceDIte,zB,zC,zD,zE,zF,zG,zH,zI] at hb1 hb2; subst hb1; subst hb2; refine ⟨(by refine ⟨?_,?_,rfl,rfl⟩ <;> repeat' (first | exact trivial | exact Or.inl rfl | exact Or.inr rfl | apply le1 | apply le2 | apply le3 | apply le4 | exact ⟨(by show (_:Nat) < 1000000000; omega),rfl,rfl⟩ | rfl | (refine And.intro (Or.inl ?_) ?_) | (refine And.intro ?_ ?_))),?_,?_⟩
  · exact ⟨Nat.zero_le _,Nat.zero_le _⟩
  intro i ⟨hi,hi2⟩ back
  refine PW_sound env_ok ⟨_,fn_24,rfl⟩ 2000 _ _ (by kernel_rfl) ?_; simp only [go_sem,zA,↓reduceIte,↓reduceDIte,zB,zC,zD,zE,zF,zG,zH,zI]
  have hby1:bytesOf ⟨#[97,98,99]⟩ = ([97,98,99]:Str):=rfl
  have hby2:bytesOf ⟨#[97,98,99,65,66,49]⟩ = ([97,98,99,65,66,49]:Str):=rfl
  apply Walks.shareX (X:=Unit) (fun _ => ⟨[(7,.iv (.int .i64) (0:Int)),(5,.ref 5 0),(4,.ref 4 0),(2,.ref 2 0)],[(5,.box [.iv (.int .i64) (xf % n),.iv (.int .i64) (xt % n),.iv .str ((xi.take 2).flatMap abcAt),.iv .str ([]:Str),.iv (.int .i64) (xc * 2)]),(4,.box [.iv (.int .i64) (0:Int),.iv (.int .i64) (0:Int),.iv .str ([]:Str),.iv .str ([]:Str),.iv (.int .i64) (0:Int)]),(2,.box [.iv (.sl (.int .u8)) xi,.iv (.sl (.int .u8)) xo,.iv (.int .u8) xf,.iv (.int .u8) xt,.iv (.int .u8) xc])]⟩) (fun _ => True)
  · intro key
    refine ⟨fun g1 => ⟨fun g2 => ?_,fun g2 => ?_⟩,fun g1 => ?_⟩
    · obtain ⟨u,hu⟩:∃ u,xi[i]? = some u:=get_of_lt (by omega)
      have hub:=hxi u (List.mem_of_getElem? hu)
      have tu:Int.tmod u 3 = u % 3:=Int.tmod_eq_emod_of_nonneg hub.1
      have hab:=abcl (xi.take i)
      have hab1:=abc1 u
      have hli':(xi.take i).length = i:=by rw [List.length_take]; omega
      refine ⟨Int.natCast_nonneg _,u,hu,Int.natCast_nonneg _,u,hu,?_⟩
      rw [tu,hby1,abcs u hub.1]
      refine ⟨u8_ok (by omega) (by omega),⟨by omega,by omega,by show u % 3 + 1 ≤ (3:Int); omega⟩,by omega,i64_ok (by omega) (by omega),?_⟩
      refine back _ (i + 1) ?_ ⟨by omega,by omega⟩ (by omega)
      rw [← st hu]
      exact (by refine ⟨?_,?_,rfl,rfl⟩ <;> repeat' (first | exact trivial | exact Or.inl rfl | exact Or.inr rfl | apply le1 | apply le2 | apply le3 | apply le4 | exact ⟨(by show (_:Nat) < 1000000000; omega),rfl,rfl⟩ | rfl | (refine And.intro (Or.inl ?_) ?_) | (refine And.intro ?_ ?_)))
    · refine key _ () trivial ?_
      rw [← fin (by omega) hi2 hi]
      exact (by refine ⟨?_,?_,rfl,rfl⟩ <;> repeat' (first | exact trivial | exact Or.inl rfl | exact Or.inr rfl | apply le1 | apply le2 | apply le3 | apply le4 | exact ⟨(by show (_:Nat) < 1000000000; omega),rfl,rfl⟩ | rfl | (refine And.intro (Or.inl ?_) ?_) | (refine And.intro ?_ ?_)))
    · refine key _ () trivial ?_
      rw [← fin (by omega) hi2 hi]
      exact (by refine ⟨?_,?_,rfl,rfl⟩ <;> repeat' (first | exact trivial | exact Or.inl rfl | exact Or.inr rfl | apply le1 | apply le2 | apply le3 | apply le4 | exact ⟨(by show (_:Nat) < 1000000000; omega),rfl,rfl⟩ | rfl | (refine And.intro (Or.inl ?_) ?_) | (refine And.intro ?_ ?_)))
  · intro _ _
    clear back hi hi2
    refine Walks.loopA (X:=Nat) (fun (i:Nat) => [(7,.iv (.int .i64) (i:Int))]) (fun (i:Nat) => [(5,.box [.iv (.int .i64) (xf % n),.iv (.int .i64) (xt % n),.iv .str ((xi.take 2).flatMap abcAt),.iv .str ((xo.take i).flatMap outAt),.iv (.int .i64) (xc * 2)])]) (fun (i:Nat) => i ≤ xo.length ∧ i ≤ 2) (fun (i:Nat) => 2 - i) 0 ?_; intro b1 b2 hb1 hb2; simp (config:={maxSteps:=4000000}) only [go_sem,zA,↓reduceIte,↓reduceDIte,zB,zC,zD,zE,zF,zG,zH,zI] at hb1 hb2; subst hb1; subst hb2; refine ⟨(by refine ⟨?_,?_,rfl,rfl⟩ <;> repeat' (first | exact trivial | exact Or.inl rfl | exact Or.inr rfl | apply le1 | apply le2 | apply le3 | apply le4 | exact ⟨(by show (_:Nat) < 1000000000; omega),rfl,rfl⟩ | rfl | (refine And.intro (Or.inl ?_) ?_) | (refine And.intro ?_ ?_))),?_,?_⟩
    · exact ⟨Nat.zero_le _,Nat.zero_le _⟩
    intro i ⟨hi,hi2⟩ back
    refine PW_sound env_ok ⟨_,fn_24,rfl⟩ 2000 _ _ (by kernel_rfl) ?_; simp only [go_sem,zA,↓reduceIte,↓reduceDIte,zB,zC,zD,zE,zF,zG,zH,zI]
    refine ⟨fun g1 => ⟨fun g2 => ?_,fun g2 => ?_⟩,fun g1 => ?_⟩
    · obtain ⟨u,hu⟩:∃ u,xo[i]? = some u:=get_of_lt (by omega)
      have hub:=hxo u (List.mem_of_getElem? hu)
      have tu:Int.tmod u 6 = u % 6:=Int.tmod_eq_emod_of_nonneg hub.1
      have hab:=outl (xo.take i)
      have hab1:=out1 u
      have hli':(xo.take i).length = i:=by rw [List.length_take]; omega
      refine ⟨Int.natCast_nonneg _,u,hu,Int.natCast_nonneg _,u,hu,?_⟩
      rw [tu,hby2,outs u hub.1]
      refine ⟨u8_ok (by omega) (by omega),⟨by omega,by omega,by show u % 6 + 1 ≤ (6:Int); omega⟩,by omega,i64_ok (by omega) (by omega),?_⟩
      refine back _ (i + 1) ?_ ⟨by omega,by omega⟩ (by omega)
      rw [← st hu]
      exact (by refine ⟨?_,?_,rfl,rfl⟩ <;> repeat' (first | exact trivial | exact Or.inl rfl | exact Or.inr rfl | apply le1 | apply le2 | apply le3 | apply le4 | exact ⟨(by show (_:Nat) < 1000000000; omega),rfl,rfl⟩ | rfl | (refine And.intro (Or.inl ?_) ?_) | (refine And.intro ?_ ?_)))
    · rw [fin (by omega) hi2 hi]; rfl
    · rw [fin (by omega) hi2 hi]; rfl
def baseE (k:Int):Sch :=
  if k % 6 = 0 then (1,1,[simpE (0,0) [97] [97],simpE (0,0) [98] [98],simpE (0,0) [99] [99]])
  else if k % 6 = 1 then (1,1,[simpE (0,0) [97] [65],simpE (0,0) [98,97] [66],simpE (0,0) [99,97] [67],simpE (0,0) [98] [98]])
  else if k % 6 = 2 then (2,1,[simpE (0,1) [99] [],simpE (1,0) [97] [65],simpE (1,0) [98] [66],simpE (0,0) [97] [97],simpE (0,0) [98] [98]])
  else if k % 6 = 3 then (1,1,[simpE (0,0) [97] [97],simpE (0,0) [98] [98],simpE (0,0) [97,98] [97,98,99,49],simpE (0,0) [99] [99]])
  else if k % 6 = 4 then (1,1,[simpE (0,0) [97] [97],(0,0,[98],[98],0),(0,0,[99],[98],7),(0,0,[98],[99],9)])
  else (1,1,[simpE (0,0) [97] [97],simpE (0,0) [97] [65],simpE (0,0) [97,97] [66],simpE (0,0) [98] [98],(0,0,[98],[],20)])
theorem h_Base0 (k:Int)  (k0:k % 6 = 0):HC env 49 [.iv (.int .u8) k] [] (.agg [.iv (.int .i64) (baseE k).1,.iv (.int .u8) (baseE k).2.1,.lfull 1000]) [(1000,.arr RuleT (baseE k).2.2)]:=by
  have e:baseE k = (1,1,[simpE (0,0) [97] [97],simpE (0,0) [98] [98],simpE (0,0) [99] [99]]):=by unfold baseE; rw [if_pos k0]
  rw [e]
  clear e
  have h:HC env 49 [.iv (.int .u8) k] [] (.agg [.iv (.int .i64) (1:Int),.iv (.int .u8) (1:Int),.lfull 28]) [(28,.arr RuleT ((1,1,[simpE (0,0) [97] [97],simpE (0,0) [98] [98],simpE (0,0) [99] [99]]):Sch).2.2)]:=by
    refine HC.of_PW (m:=2000) env_ok fn_49 rfl rfl rfl rfl (by kernel_rfl) ?_; intro hx hbl; simp only [Try.f49]; simp only [go_sem,zA,↓reduceIte,↓reduceDIte,zB,zC,zD,zE,zF,zG,zH,zI]
    have hk:=u8_of hx.1
    have t1:Int.tmod k 6 = k % 6:=Int.tmod_eq_emod_of_nonneg hk.1
    rw [t1]
    repeat' (first | (with_reducible intro _) | (with_reducible apply And.intro) | (with_reducible refine ⟨_,c_simple _ _ _,?_⟩; try simp only [go_sem,zA,↓reduceIte,↓reduceDIte,zB,zC,zD,zE,zF,zG,zH,zI]) | fail)
    all_goals first | (exfalso; omega) | rfl
  exact h.ren [(28,1000),(1000,28)] rfl
theorem h_Base1 (k:Int) (n0:¬ k % 6 = 0) (k1:k % 6 = 1):HC env 49 [.iv (.int .u8) k] [] (.agg [.iv (.int .i64) (baseE k).1,.iv (.int .u8) (baseE k).2.1,.lfull 1000]) [(1000,.arr RuleT (baseE k).2.2)]:=by
  have e:baseE k = (1,1,[simpE (0,0) [97] [65],simpE (0,0) [98,97] [66],simpE (0,0) [99,97] [67],simpE (0,0) [98] [98]]):=by unfold baseE; rw [if_neg n0,if_pos k1]
  rw [e]
  clear e
  have h:HC env 49 [.iv (.int .u8) k] [] (.agg [.iv (.int .i64) (1:Int),.iv (.int .u8) (1:Int),.lfull 40]) [(40,.arr RuleT ((1,1,[simpE (0,0) [97] [65],simpE (0,0) [98,97] [66],simpE (0,0) [99,97] [67],simpE (0,0) [98] [98]]):Sch).2.2)]:=by
    refine HC.of_PW (m:=2000) env_ok fn_49 rfl rfl rfl rfl (by kernel_rfl) ?_; intro hx hbl; simp only [Try.f49]; simp only [go_sem,zA,↓reduceIte,↓reduceDIte,zB,zC,zD,zE,zF,zG,zH,zI]
    have hk:=u8_of hx.1
    have t1:Int.tmod k 6 = k % 6:=Int.tmod_eq_emod_of_nonneg hk.1
    rw [t1]
    repeat' (first | (with_reducible intro _) | (with_reducible apply And.intro) | (with_reducible refine ⟨_,c_simple _ _ _,?_⟩; try simp only [go_sem,zA,↓reduceIte,↓reduceDIte,zB,zC,zD,zE,zF,zG,zH,zI]) | fail)
    all_goals first | (exfalso; omega) | rfl
  exact h.ren [(40,1000),(1000,40)] rfl
theorem h_Base2 (k:Int) (n0:¬ k % 6 = 0) (n1:¬ k % 6 = 1) (k2:k % 6 = 2):HC env 49 [.iv (.int .u8) k] [] (.agg [.iv (.int .i64) (baseE k).1,.iv (.int .u8) (baseE k).2.1,.lfull 1000]) [(1000,.arr RuleT (baseE k).2.2)]:=by
  have e:baseE k = (2,1,[simpE (0,1) [99] [],simpE (1,0) [97] [65],simpE (1,0) [98] [66],simpE (0,0) [97] [97],simpE (0,0) [98] [98]]):=by unfold baseE; rw [if_neg n0,if_neg n1,if_pos k2]
  rw [e]
  clear e
  have h:HC env 49 [.iv (.int .u8) k] [] (.agg [.iv (.int .i64) (2:Int),.iv (.int .u8) (1:Int),.lfull 54]) [(54,.arr RuleT ((2,1,[simpE (0,1) [99] [],simpE (1,0) [97] [65],simpE (1,0) [98] [66],simpE (0,0) [97] [97],simpE (0,0) [98] [98]]):Sch).2.2)]:=by
    refine HC.of_PW (m:=2000) env_ok fn_49 rfl rfl rfl rfl (by kernel_rfl) ?_; intro hx hbl; simp only [Try.f49]; simp only [go_sem,zA,↓reduceIte,↓reduceDIte,zB,zC,zD,zE,zF,zG,zH,zI]
    have hk:=u8_of hx.1
    have t1:Int.tmod k 6 = k % 6:=Int.tmod_eq_emod_of_nonneg hk.1
    rw [t1]
    repeat' (first | (with_reducible intro _) | (with_reducible apply And.intro) | (with_reducible refine ⟨_,c_simple _ _ _,?_⟩; try simp only [go_sem,zA,↓reduceIte,↓reduceDIte,zB,zC,zD,zE,zF,zG,zH,zI]) | fail)
    all_goals first | (exfalso; omega) | rfl
  exact h.ren [(54,1000),(1000,54)] rfl
theorem h_Base3 (k:Int) (n0:¬ k % 6 = 0) (n1:¬ k % 6 = 1) (n2:¬ k % 6 = 2) (k3:k % 6 = 3):HC env 49 [.iv (.int .u8) k] [] (.agg [.iv (.int .i64) (baseE k).1,.iv (.int .u8) (baseE k).2.1,.lfull 1000]) [(1000,.arr RuleT (baseE k).2.2)]:=by
  have e:baseE k = (1,1,[simpE (0,0) [97] [97],simpE (0,0) [98] [98],simpE (0,0) [97,98] [97,98,99,49],simpE (0,0) [99] [99]]):=by unfold baseE; rw [if_neg n0,if_neg n1,if_neg n2,if_pos k3]
  rw [e]
  clear e
  have h:HC env 49 [.iv (.int .u8) k] [] (.agg [.iv (.int .i64) (1:Int),.iv (.int .u8) (1:Int),.lfull 66]) [(66,.arr RuleT ((1,1,[simpE (0,0) [97] [97],simpE (0,0) [98] [98],simpE (0,0) [97,98] [97,98,99,49],simpE (0,0) [99] [99]]):Sch).2.2)]:=by
    refine HC.of_PW (m:=2000) env_ok fn_49 rfl rfl rfl rfl (by kernel_rfl) ?_; intro hx hbl; simp only [Try.f49]; simp only [go_sem,zA,↓reduceIte,↓reduceDIte,zB,zC,zD,zE,zF,zG,zH,zI]
    have hk:=u8_of hx.1
    have t1:Int.tmod k 6 = k % 6:=Int.tmod_eq_emod_of_nonneg hk.1
    rw [t1]
    repeat' (first | (with_reducible intro _) | (with_reducible apply And.intro) | (with_reducible refine ⟨_,c_simple _ _ _,?_⟩; try simp only [go_sem,zA,↓reduceIte,↓reduceDIte,zB,zC,zD,zE,zF,zG,zH,zI]) | fail)
    all_goals first | (exfalso; omega) | rfl
  exact h.ren [(66,1000),(1000,66)] rfl
theorem h_Base4 (k:Int) (n0:¬ k % 6 = 0) (n1:¬ k % 6 = 1) (n2:¬ k % 6 = 2) (n3:¬ k % 6 = 3) (k4:k % 6 = 4):HC env 49 [.iv (.int .u8) k] [] (.agg [.iv (.int .i64) (baseE k).1,.iv (.int .u8) (baseE k).2.1,.lfull 1000]) [(1000,.arr RuleT (baseE k).2.2)]:=by
  have e:baseE k = (1,1,[simpE (0,0) [97] [97],(0,0,[98],[98],0),(0,0,[99],[98],7),(0,0,[98],[99],9)]):=by unfold baseE; rw [if_neg n0,if_neg n1,if_neg n2,if_neg n3,if_pos k4]
  rw [e]
  clear e
  have h:HC env 49 [.iv (.int .u8) k] [] (.agg [.iv (.int .i64) (1:Int),.iv (.int .u8) (1:Int),.lfull 75]) [(75,.arr RuleT ((1,1,[simpE (0,0) [97] [97],(0,0,[98],[98],0),(0,0,[99],[98],7),(0,0,[98],[99],9)]):Sch).2.2)]:=by
    refine HC.of_PW (m:=2000) env_ok fn_49 rfl rfl rfl rfl (by kernel_rfl) ?_; intro hx hbl; simp only [Try.f49]; simp only [go_sem,zA,↓reduceIte,↓reduceDIte,zB,zC,zD,zE,zF,zG,zH,zI]
    have hk:=u8_of hx.1
    have t1:Int.tmod k 6 = k % 6:=Int.tmod_eq_emod_of_nonneg hk.1
    rw [t1]
    repeat' (first | (with_reducible intro _) | (with_reducible apply And.intro) | (with_reducible refine ⟨_,c_simple _ _ _,?_⟩; try simp only [go_sem,zA,↓reduceIte,↓reduceDIte,zB,zC,zD,zE,zF,zG,zH,zI]) | fail)
    all_goals first | (exfalso; omega) | rfl
  exact h.ren [(75,1000),(1000,75)] rfl
theorem h_Base5 (k:Int) (n0:¬ k % 6 = 0) (n1:¬ k % 6 = 1) (n2:¬ k % 6 = 2) (n3:¬ k % 6 = 3) (n4:¬ k % 6 = 4):HC env 49 [.iv (.int .u8) k] [] (.agg [.iv (.int .i64) (baseE k).1,.iv (.int .u8) (baseE k).2.1,.lfull 1000]) [(1000,.arr RuleT (baseE k).2.2)]:=by
  have e:baseE k = (1,1,[simpE (0,0) [97] [97],simpE (0,0) [97] [65],simpE (0,0) [97,97] [66],simpE (0,0) [98] [98],(0,0,[98],[],20)]):=by unfold baseE; rw [if_neg n0,if_neg n1,if_neg n2,if_neg n3,if_neg n4]
  rw [e]
  clear e
  have h:HC env 49 [.iv (.int .u8) k] [] (.agg [.iv (.int .i64) (1:Int),.iv (.int .u8) (1:Int),.lfull 18]) [(18,.arr RuleT ((1,1,[simpE (0,0) [97] [97],simpE (0,0) [97] [65],simpE (0,0) [97,97] [66],simpE (0,0) [98] [98],(0,0,[98],[],20)]):Sch).2.2)]:=by
    refine HC.of_PW (m:=2000) env_ok fn_49 rfl rfl rfl rfl (by kernel_rfl) ?_; intro hx hbl; simp only [Try.f49]; simp only [go_sem,zA,↓reduceIte,↓reduceDIte,zB,zC,zD,zE,zF,zG,zH,zI]
    have hk:=u8_of hx.1
    have t1:Int.tmod k 6 = k % 6:=Int.tmod_eq_emod_of_nonneg hk.1
    rw [t1]
    repeat' (first | (with_reducible intro _) | (with_reducible apply And.intro) | (with_reducible refine ⟨_,c_simple _ _ _,?_⟩; try simp only [go_sem,zA,↓reduceIte,↓reduceDIte,zB,zC,zD,zE,zF,zG,zH,zI]) | fail)
    all_goals first | (exfalso; omega) | rfl
  exact h.ren [(18,1000),(1000,18)] rfl
theorem h_Base (k:Int):HC env 49 [.iv (.int .u8) k] [] (.agg [.iv (.int .i64) (baseE k).1,.iv (.int .u8) (baseE k).2.1,.lfull 1000]) [(1000,.arr RuleT (baseE k).2.2)]:=by
  by_cases h0:k % 6 = 0
  · exact h_Base0 k h0
  by_cases h1:k % 6 = 1
  · exact h_Base1 k h0 h1
  by_cases h2:k % 6 = 2
  · exact h_Base2 k h0 h1 h2
  by_cases h3:k % 6 = 3
  · exact h_Base3 k h0 h1 h2 h3
  by_cases h4:k % 6 = 4
  · exact h_Base4 k h0 h1 h2 h3 h4
  exact h_Base5 k h0 h1 h2 h3 h4
end Go.Proofs.Ytefpgfdemmllpaa
namespace Go.Proofs.Ytefpgfdemmllpaa
attribute [local go_sem] Int.reduceEq not_true_eq_false not_false_eq_true false_implies List.append_assoc
set_option maxHeartbeats 4000000
set_option maxRecDepth 100000
def mstep (n:Int) (rs:List Rl) (r:Rl):List Rl:=if rightAt n (rs ++ [r]) rs.length = true then rs ++ [r] else rs
def made2L (n:Int):List RawRl → List Rl → List Rl
  | [],out => out
  | y :: ys,out => made2L n ys (mstep n out (made1E y n))
def made2E (x:RawS):Sch:=((baseE x.1).1,(baseE x.1).2.1,made2L (baseE x.1).1 (x.2.2.take 4) ((baseE x.1).2.2.drop (x.2.1 % 2).toNat))
theorem base_fact (k:Int):((baseE k).1 = 1 ∨ (baseE k).1 = 2) ∧ (baseE k).2.1 = 1 ∧ 3 ≤ (baseE k).2.2.length ∧ (baseE k).2.2.length ≤ 5:=by
  unfold baseE
  repeat' split
  all_goals decide
theorem mstep_len (n:Int) (rs:List Rl) (r:Rl):rs.length ≤ (mstep n rs r).length ∧ (mstep n rs r).length ≤ rs.length + 1:=by
  unfold mstep
  split <;> simp
def formM (id:Nat) (p:PV) (xs view:List Rl):Prop:=(p = .lfull id ∧ view = xs) ∨ ∃ off len,p = .lsl id 5 off len ∧ view = (xs.drop off).take len ∧ off + len ≤ xs.length ∧ off < xs.length
theorem c_Made2 (x:RawS):PC env 29 [⟨RawT,x⟩] SchemeT (made2E x):=by
  obtain ⟨xb,xd,xm⟩:=x
  refine PC.of_PW (m:=2000) env_ok fn_29 rfl rfl rfl rfl (by kernel_rfl) ?_; intro hx; simp only [Try.f29]; simp only [go_sem,zA,↓reduceIte,↓reduceDIte,zB,zC,zD,zE,zF,zG,zH,zI]
  refine ⟨_,_,h_Base xb,rfl,?_⟩
  simp only [go_sem,zA,↓reduceIte,↓reduceDIte,zB,zC,zD,zE,zF,zG,zH,zI]
  have hxd:=u8_of hx.1.2.1
  have hlm:xm.length ≤ 9223372036854775807:=hx.1.2.2.1
  dsimp only at hxd
  have t1:Int.tmod xd 2 = xd % 2:=Int.tmod_eq_emod_of_nonneg hxd.1
  rw [t1]
  have hbf:=base_fact xb
  generalize hB:baseE xb = B at hbf
  obtain ⟨n,a,rs⟩:=B
  dsimp only at hbf ⊢
  have hnn:0 < n:=by omega
  have hdr:((rs.drop (xd % 2).toNat).take (rs.length - (xd % 2).toNat)) = rs.drop (xd % 2).toNat:=List.take_of_length_le (by rw [List.length_drop]; omega)
  have hlr:(rs.drop (xd % 2).toNat).length = rs.length - (xd % 2).toNat:=List.length_drop ..
  have hE:made2E (xb,xd,xm) = (n,a,made2L n (xm.take 4) (rs.drop (xd % 2).toNat)):=by unfold made2E; dsimp only; rw [hB]
  rw [hE]
  clear hE
  intro _
  refine ⟨⟨by omega,by omega⟩,?_⟩
  refine Walks.loopA (X:=Nat × PV × List Rl × List Rl) (fun (z:Nat × PV × List Rl × List Rl) => [(4,.iv (.int .i64) (z.1:Int)),(7,.any),(9,.any),(14,.any)]) (fun (z:Nat × PV × List Rl × List Rl) => [(3,.box [.iv (.int .i64) n,.iv (.int .u8) a,z.2.1]),(801000,.arr RuleT z.2.2.1)]) (fun (z:Nat × PV × List Rl × List Rl) => formM 801000 z.2.1 z.2.2.1 z.2.2.2 ∧ z.1 ≤ xm.length ∧ z.1 ≤ 4 ∧ z.2.2.2.length ≤ 5 + z.1 ∧ 1 ≤ z.2.2.2.length ∧ made2L n ((xm.take 4).drop z.1) z.2.2.2 = made2L n (xm.take 4) (rs.drop (xd % 2).toNat)) (fun (z:Nat × PV × List Rl × List Rl) => 4 - z.1) (0,.lsl 801000 5 (xd % 2).toNat (rs.length - (xd % 2).toNat),rs,rs.drop (xd % 2).toNat) ?_; intro b1 b2 hb1 hb2; simp (config:={maxSteps:=4000000}) only [go_sem,zA,↓reduceIte,↓reduceDIte,zB,zC,zD,zE,zF,zG,zH,zI] at hb1 hb2; subst hb1; subst hb2; refine ⟨(by refine ⟨?_,?_,rfl,rfl⟩ <;> repeat' (first | exact trivial | exact Or.inl rfl | exact Or.inr rfl | apply le1 | apply le2 | apply le3 | apply le4 | exact ⟨(by show (_:Nat) < 1000000000; omega),rfl,rfl⟩ | rfl | (refine And.intro (Or.inl ?_) ?_) | (refine And.intro ?_ ?_))),?_,?_⟩
  · exact ⟨Or.inr ⟨_,_,rfl,hdr.symm,by dsimp only; omega,by dsimp only; omega⟩,Nat.zero_le _,Nat.zero_le _,by show (rs.drop _).length ≤ _; omega,by show 1 ≤ (rs.drop _).length; omega,rfl⟩
  generalize made2L n (xm.take 4) (rs.drop (xd % 2).toNat) = R
  intro ⟨i,p,xs,out⟩ ⟨hform,hi,hi4,hlo,hl1,hR⟩ back
  dsimp only at hform hi hi4 hlo hl1 hR
  have done:¬ (i < xm.length ∧ i < 4) → out = R:=fun h => by
    have:(xm.take 4).drop i = []:=List.drop_of_length_le (by rw [List.length_take]; omega)
    rw [this] at hR
    exact hR
  rcases hform with ⟨rfl,rfl⟩ | ⟨off,len,rfl,hv,ho1,ho2⟩
  · refine PW_sound env_ok ⟨_,fn_29,rfl⟩ 2000 _ _ (by kernel_rfl) ?_; simp only [go_sem,zA,↓reduceIte,↓reduceDIte,zB,zC,zD,zE,zF,zG,zH,zI]
    refine ⟨fun g1 => ⟨fun g2 => ?_,fun g2 => ?_⟩,fun g1 => ?_⟩
    · obtain ⟨y,hy⟩:∃ y,xm[i]? = some y:=get_of_lt (by omega)
      refine ⟨Int.natCast_nonneg _,y,hy,_,c_Made1 y n hnn,fun _ => ⟨by omega,?_⟩⟩
      have e1:((out ++ [made1E y n]).length:Int) - 1 = (out.length:Int):=by simp only [List.length_append,List.length_cons,List.length_nil]; omega
      rw [e1]
      refine ⟨i64_ok (by omega) (by omega),_,(c_Right (n,a,out ++ [made1E y n]) out.length (by dsimp only; omega) (by simp)).dec,?_⟩
      simp only [go_sem,zA,↓reduceIte,↓reduceDIte,zB,zC,zD,zE,zF,zG,zH,zI]
      have hd:(xm.take 4)[i]? = some y:=by rw [List.getElem?_take,if_pos (by omega)]; exact hy
      rw [drop_cons hd] at hR
      refine ⟨fun g3 => ?_,fun g3 => ?_⟩
      · have e3:mstep n out (made1E y n) = out:=if_neg g3
        rw [e1]
        refine ⟨i64_ok (by omega) (by omega),⟨by omega,by simp only [List.length_append,List.length_cons,List.length_nil]; omega⟩,i64_ok (by omega) (by omega),?_⟩
        refine back _ (i + 1,.lsl 801000 5 0 ((out.length:Int).toNat - 0),out ++ [made1E y n],out) ?_ ⟨Or.inr ⟨_,_,rfl,by simp,by simp,by simp⟩,by dsimp only; omega,by dsimp only; omega,by dsimp only; omega,hl1,?_⟩ (by dsimp only; omega)
        · exact (by refine ⟨?_,?_,rfl,rfl⟩ <;> repeat' (first | exact trivial | exact Or.inl rfl | exact Or.inr rfl | apply le1 | apply le2 | apply le3 | apply le4 | exact ⟨(by show (_:Nat) < 1000000000; omega),rfl,rfl⟩ | rfl | (refine And.intro (Or.inl ?_) ?_) | (refine And.intro ?_ ?_)))
        · dsimp only
          have:made2L n (y :: (xm.take 4).drop (i + 1)) out = made2L n ((xm.take 4).drop (i + 1)) (mstep n out (made1E y n)):=rfl
          rw [this,e3] at hR
          exact hR
      · have e3:mstep n out (made1E y n) = out ++ [made1E y n]:=if_pos g3
        refine ⟨i64_ok (by omega) (by omega),?_⟩
        refine back _ (i + 1,.lfull 801000,out ++ [made1E y n],out ++ [made1E y n]) ?_ ⟨Or.inl ⟨rfl,rfl⟩,by dsimp only; omega,by dsimp only; omega,by simp only [List.length_append,List.length_cons,List.length_nil]; omega,by simp,?_⟩ (by dsimp only; omega)
        · exact (by refine ⟨?_,?_,rfl,rfl⟩ <;> repeat' (first | exact trivial | exact Or.inl rfl | exact Or.inr rfl | apply le1 | apply le2 | apply le3 | apply le4 | exact ⟨(by show (_:Nat) < 1000000000; omega),rfl,rfl⟩ | rfl | (refine And.intro (Or.inl ?_) ?_) | (refine And.intro ?_ ?_)))
        · dsimp only
          have:made2L n (y :: (xm.take 4).drop (i + 1)) out = made2L n ((xm.take 4).drop (i + 1)) (mstep n out (made1E y n)):=rfl
          rw [this,e3] at hR
          exact hR
    · rw [done (by omega)]
    · rw [done (by omega)]
  · refine PW_sound env_ok ⟨_,fn_29,rfl⟩ 2000 _ _ (by kernel_rfl) ?_; simp only [go_sem,zA,↓reduceIte,↓reduceDIte,zB,zC,zD,zE,zF,zG,zH,zI]
    have hlen:len = out.length:=by rw [hv,List.length_take,List.length_drop]; omega
    rw [← hv]
    refine ⟨fun g1 => ⟨fun g2 => ?_,fun g2 => ?_⟩,fun g1 => ?_⟩
    · obtain ⟨y,hy⟩:∃ y,xm[i]? = some y:=get_of_lt (by omega)
      refine ⟨Int.natCast_nonneg _,y,hy,_,c_Made1 y n hnn,fun _ => ⟨⟨.inl ho2,by omega⟩,?_⟩⟩
      have e1:((out ++ [made1E y n]).length:Int) - 1 = (out.length:Int):=by simp only [List.length_append,List.length_cons,List.length_nil]; omega
      rw [e1]
      refine ⟨i64_ok (by omega) (by omega),_,(c_Right (n,a,out ++ [made1E y n]) out.length (by dsimp only; omega) (by simp)).dec,?_⟩
      simp only [go_sem,zA,↓reduceIte,↓reduceDIte,zB,zC,zD,zE,zF,zG,zH,zI]
      have hd:(xm.take 4)[i]? = some y:=by rw [List.getElem?_take,if_pos (by omega)]; exact hy
      rw [drop_cons hd] at hR
      refine ⟨fun g3 => ?_,fun g3 => ?_⟩
      · have e3:mstep n out (made1E y n) = out:=if_neg g3
        rw [e1]
        refine ⟨i64_ok (by omega) (by omega),⟨by omega,by simp only [List.length_append,List.length_cons,List.length_nil]; omega⟩,i64_ok (by omega) (by omega),?_⟩
        refine back _ (i + 1,.lsl 801000 5 0 ((out.length:Int).toNat - 0),out ++ [made1E y n],out) ?_ ⟨Or.inr ⟨_,_,rfl,by simp,by simp,by simp⟩,by dsimp only; omega,by dsimp only; omega,by dsimp only; omega,hl1,?_⟩ (by dsimp only; omega)
        · exact (by refine ⟨?_,?_,rfl,rfl⟩ <;> repeat' (first | exact trivial | exact Or.inl rfl | exact Or.inr rfl | apply le1 | apply le2 | apply le3 | apply le4 | exact ⟨(by show (_:Nat) < 1000000000; omega),rfl,rfl⟩ | rfl | (refine And.intro (Or.inl ?_) ?_) | (refine And.intro ?_ ?_)))
        · dsimp only
          have:made2L n (y :: (xm.take 4).drop (i + 1)) out = made2L n ((xm.take 4).drop (i + 1)) (mstep n out (made1E y n)):=rfl
          rw [this,e3] at hR
          exact hR
      · have e3:mstep n out (made1E y n) = out ++ [made1E y n]:=if_pos g3
        refine ⟨i64_ok (by omega) (by omega),?_⟩
        refine back _ (i + 1,.lfull 801000,out ++ [made1E y n],out ++ [made1E y n]) ?_ ⟨Or.inl ⟨rfl,rfl⟩,by dsimp only; omega,by dsimp only; omega,by simp only [List.length_append,List.length_cons,List.length_nil]; omega,by simp,?_⟩ (by dsimp only; omega)
        · exact (by refine ⟨?_,?_,rfl,rfl⟩ <;> repeat' (first | exact trivial | exact Or.inl rfl | exact Or.inr rfl | apply le1 | apply le2 | apply le3 | apply le4 | exact ⟨(by show (_:Nat) < 1000000000; omega),rfl,rfl⟩ | rfl | (refine And.intro (Or.inl ?_) ?_) | (refine And.intro ?_ ?_)))
        · dsimp only
          have:made2L n (y :: (xm.take 4).drop (i + 1)) out = made2L n ((xm.take 4).drop (i + 1)) (mstep n out (made1E y n)):=rfl
          rw [this,e3] at hR
          exact hR
    · rw [done (by omega)]
    · rw [done (by omega)]
end Go.Proofs.Ytefpgfdemmllpaa
