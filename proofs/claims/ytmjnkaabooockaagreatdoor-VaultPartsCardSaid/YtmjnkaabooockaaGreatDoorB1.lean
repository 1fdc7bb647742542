/- Contracts: the reference's records and orders. Nothing here is trusted; no condition. -/
import Derived.Test.YtmjnkaabooockaaGreatDoorA9
import Derived.Test.YtmjnkaabooockaaGreatDoorProg
set_option linter.unusedSimpArgs false
set_option linter.unusedVariables false
namespace Go.Proofs.YtmjnkaabooockaaGreatDoor
set_option maxRecDepth 100000

abbrev BoundsErrorT : Ty := (.st (.pair (.int .i64) (.pair (.int .i64) (.pair .bool (.int .u8)))))
abbrev ErrorAddressStringT : Ty := (.st (.pair .str (.int .u64)))
abbrev RawT : Ty := (.st (.pair (.int .u8) (.pair (.int .u8) (.pair (.int .u8) (.pair (.int .u8) (.pair (.int .u8) (.int .u8)))))))
abbrev RecordT : Ty := (.st (.pair (.int .i64) (.pair (.int .i64) (.pair (.int .i64) (.pair .str (.pair (.int .i64) (.int .i64)))))))
abbrev OrderT : Ty := (.st (.pair (.int .i64) (.pair (.int .i64) (.pair (.int .i64) (.pair (.int .i64) (.pair .str (.pair (.int .i64) (.int .i64))))))))
abbrev UserT : Ty := (.st (.pair (.sl RecordT) (.pair (.sl OrderT) (.st (.pair (.int .i64) (.pair (.int .i64) (.pair (.int .i64) (.pair (.int .i64) (.pair (.int .i64) (.pair (.int .i64) (.pair (.int .i64) (.int .i64))))))))))))
abbrev ImportedT : Ty := (.st (.pair UserT (.pair (.int .i64) (.int .i64))))
abbrev OwnerT : Ty := (.st (.pair (.int .i64) (.int .i64)))
abbrev BuilderT : Ty := (.st (.pair (.ptr .unit) (.sl (.int .u8))))
abbrev LearntT : Ty := (.st (.pair UserT (.pair (.int .i64) (.int .i64))))
abbrev PlaceT : Ty := (.st (.pair (.int .i64) (.int .i64)))
abbrev FormT : Ty := (.st (.pair .fnv .fnv))
def tys : List (Nat × Ty) := [(1, .fnv), (2, (.int .i64)), (3, (.int .i64)), (4, .bool), (5, (.int .u8)), (6, (.int .u8)), (7, BoundsErrorT), (8, BoundsErrorT), (9, .str), (10, .str), (11, .str), (12, (.int .u64)), (13, ErrorAddressStringT), (14, ErrorAddressStringT), (21, (.int .i32)), (22, (.sl RawT)), (23, (.st (.pair (.int .u8) (.int .u8)))), (24, .fnv), (25, (.sl RecordT)), (26, (.sl OrderT)), (27, (.st (.pair (.int .i64) (.pair (.int .i64) (.pair (.int .i64) (.pair (.int .i64) (.pair (.int .i64) (.pair (.int .i64) (.pair (.int .i64) (.int .i64)))))))))), (28, UserT), (29, UserT), (30, .fnv), (31, .fnv), (32, (.int .i64)), (33, ImportedT), (34, ImportedT), (35, .fnv), (36, OwnerT), (37, OwnerT), (38, .fnv), (39, .fnv), (40, .fnv), (41, .fnv), (42, .fnv), (43, RawT), (44, RawT), (46, .fnv), (47, OrderT), (48, OrderT), (49, .fnv), (50, .fnv), (51, (.int .u16)), (52, (.st (.pair (.int .u16) (.pair (.int .u16) (.pair (.int .u16) (.int .u16)))))), (53, RecordT), (54, RecordT), (55, .fnv), (56, .fnv), (58, .fnv), (59, (.st (.pair .str (.pair .str .str)))), (60, .fnv), (61, (.sl (.st (.pair (.int .u8) (.int .u8))))), (62, .fnv), (63, .fnv), (64, .fnv), (65, .fnv), (66, .fnv), (67, .fnv), (68, .fnv), (69, .fnv), (70, (.ptr .unit)), (71, (.sl (.int .u8))), (72, BuilderT), (73, BuilderT), (74, .fnv), (78, .fnv), (79, .fnv), (80, .fnv), (82, .fnv), (83, .fnv), (84, .fnv), (85, .fnv), (86, (.st (.pair (.int .i64) (.int .i64)))), (87, .fnv), (88, .fnv), (89, .fnv), (90, .fnv), (91, .fnv), (92, (.sl .str)), (93, .fnv), (94, .fnv), (95, (.st (.pair .fnv (.pair .fnv (.pair .fnv (.pair .fnv (.pair .fnv .fnv))))))), (96, .fnv), (98, .fnv), (99, (.sl .fnv)), (100, .fnv), (101, .fnv), (102, .fnv), (103, .fnv), (104, .fnv), (105, LearntT), (106, LearntT), (107, .fnv), (108, .fnv), (109, .fnv), (110, .fnv), (111, .fnv), (112, PlaceT), (113, PlaceT), (114, .fnv), (115, .fnv), (116, .fnv), (119, .fnv), (120, .fnv), (121, .fnv), (122, .fnv), (123, .fnv), (125, .fnv), (127, .fnv), (130, .fnv), (131, .fnv), (132, .fnv), (133, (.int .u64)), (134, (.sl (.int .i64))), (135, .fnv), (137, .fnv), (138, (.st (.pair .fnv .fnv))), (139, .fnv), (140, .fnv), (141, (.mp (.int .i64) FormT)), (142, .fnv), (143, .fnv), (144, .fnv), (146, .fnv), (147, .fnv), (148, .fnv), (149, .fnv), (150, (.int .i64)), (152, .fnv), (153, .fnv), (154, .fnv), (155, .fnv), (156, .fnv), (157, (.int .u32)), (158, .fnv), (159, (.int .u64)), (160, .fnv), (161, FormT), (162, FormT), (164, .fnv), (165, .fnv), (166, .fnv), (167, (.sl (.sl RecordT))), (168, .fnv), (169, .fnv), (171, .fnv), (173, .fnv), (174, .fnv), (175, (.int .u64)), (176, .fnv), (177, .fnv), (178, .fnv), (180, .fnv), (181, .fnv), (182, .fnv), (183, .fnv), (184, .fnv), (185, .fnv), (188, .fnv), (189, .fnv), (192, .fnv), (194, .fnv), (202, .fnv), (203, (.int .u8)), (204, (.int .u8)), (205, .fnv), (206, (.int .i32)), (207, (.int .i32))]
def strs : List Nat := [7, 8, 13, 14, 28, 29, 33, 34, 36, 37, 43, 44, 47, 48, 53, 54, 72, 73, 105, 106, 112, 113, 161, 162]
def cmps : List Nat := [7, 8, 23, 27, 36, 37, 43, 44, 47, 48, 52, 53, 54, 59, 86, 112, 113]
def fns : List (Nat × (List Ty × Ty)) := [(2, ([], .unit)),
  (3, ([(.sl RawT), (.st (.pair (.int .u8) (.int .u8)))], .bool)),
  (4, ([(.sl RawT), RawT, RawT], .bool)),
  (5, ([RawT, (.st (.pair (.int .u16) (.pair (.int .u16) (.pair (.int .u16) (.int .u16))))), .str], .bool)),
  (6, ([(.sl RawT), (.sl (.st (.pair (.int .u8) (.int .u8)))), (.st (.pair (.int .u8) (.int .u8)))], .bool)),
  (7, ([(.sl RawT), (.sl RawT), (.st (.pair (.int .u8) (.int .u8)))], .bool)),
  (8, ([], .bool)),
  (9, ([(.sl RawT), (.int .i64)], UserT)),
  (10, ([UserT], .str)),
  (11, ([UserT, .str, OwnerT], ImportedT)),
  (12, ([(.st (.pair (.int .u8) (.int .u8)))], OwnerT)),
  (13, ([(.sl RecordT), (.sl RecordT)], .bool)),
  (14, ([UserT], .bool)),
  (15, ([UserT, UserT], .bool)),
  (16, ([UserT, OrderT], (.tup UserT (.int .i64)))),
  (17, ([RawT], OrderT)),
  (18, ([RawT], RecordT)),
  (19, ([RecordT], .str)),
  (20, ([.str], (.tup RecordT (.int .i64)))),
  (21, ([RecordT], .str)),
  (22, ([.str], (.tup RecordT (.int .i64)))),
  (23, ([(.sl (.st (.pair (.int .u8) (.int .u8)))), (.int .i64)], .str)),
  (24, ([(.int .u8)], .str)),
  (25, ([(.sl OrderT), RecordT], .bool)),
  (26, ([UserT, .str, (.int .i64)], (.int .i64))),
  (27, ([(.sl RawT), (.int .i64)], .str)),
  (28, ([UserT, RawT], UserT)),
  (29, ([UserT], (.sl RecordT))),
  (33, ([UserT, .str, (.int .i64), (.int .i64)], (.tup UserT (.tup (.int .i64) (.int .i64))))),
  (34, ([(.int .i64), (.int .i64), (.int .i64)], .bool)),
  (35, ([RecordT], .bool)),
  (36, ([(.st (.pair (.int .i64) (.int .i64))), (.st (.pair (.int .i64) (.int .i64)))], .bool)),
  (37, ([OrderT], .bool)),
  (38, ([(.sl OrderT), OrderT], (.sl OrderT))),
  (39, ([(.sl RecordT), (.sl OrderT)], (.sl RecordT))),
  (40, ([(.sl .str), .str], .str)),
  (41, ([(.int .i64)], .str)),
  (44, ([(.int .i64)], .str)),
  (45, ([.str, (.int .u8)], (.sl .str))),
  (46, ([.str], (.int .i64))),
  (47, ([OrderT, RecordT], .bool)),
  (48, ([RecordT, (.int .i64)], (.int .i64))),
  (49, ([RawT], .bool)),
  (50, ([UserT, RecordT], LearntT)),
  (54, ([(.sl (.int .i64))], (.int .i64))),
  (55, ([(.int .i64), (.int .i64)], (.int .i64))),
  (56, ([RecordT], PlaceT)),
  (57, ([PlaceT, PlaceT], (.int .i64))),
  (59, ([.str], (.tup (.sl RecordT) (.int .i64)))),
  (60, ([UserT, RecordT], (.tup UserT (.tup (.int .i64) (.int .i64))))),
  (61, ([UserT, RecordT], (.tup UserT (.int .i64)))),
  (62, ([.str], .bool)),
  (63, ([(.ptr .unit), (.int .i64)], .unit)),
  (64, ([(.int .i64)], .str)),
  (66, ([.str, (.int .i64), (.int .i64)], (.int .i64))),
  (73, ([.str, .str], (.tup .str (.tup .str .bool)))),
  (74, ([(.int .i64), (.int .i64)], (.int .i64))),
  (75, ([(.sl RecordT), RecordT], (.sl RecordT))),
  (77, ([(.int .u64)], (.int .i64))),
  (78, ([(.int .i64)], .bool)),
  (81, ([RecordT], .bool)),
  (87, ([OrderT, RecordT], .bool)),
  (91, ([(.sl (.sl RecordT))], (.sl RecordT))),
  (92, ([(.int .i64), (.int .i64), (.int .i64)], .bool)),
  (93, ([.str], .bool)),
  (94, ([(.ptr .unit), (.int .i64)], .unit)),
  (95, ([(.int .i64), (.int .i64)], .str)),
  (96, ([.str], .bool)),
  (97, ([.str, .str], (.tup .str (.tup .str .bool)))),
  (106, ([(.int .u32)], (.int .i64))),
  (107, ([(.int .u64)], (.int .i64))),
  (108, ([PlaceT, (.int .i64)], .bool)),
  (109, ([(.int .i64), (.int .i64), (.int .i64)], .bool)),
  (111, ([OrderT], .bool)),
  (112, ([OrderT, RecordT], .bool)),
  (113, ([OrderT], .bool)),
  (114, ([OrderT, RecordT], .bool)),
  (115, ([OrderT], .bool)),
  (116, ([OrderT, RecordT], .bool)),
  (117, ([OrderT], .bool)),
  (118, ([OrderT, RecordT], .bool)),
  (119, ([OrderT], .bool)),
  (120, ([OrderT, RecordT], .bool)),
  (126, ([(.int .i64)], .str)),
  (127, ([(.int .u64)], (.int .i64))),
  (128, ([(.sl (.int .u8)), (.int .u64)], .unit)),
  (129, ([(.sl (.int .u8)), (.int .u64), (.int .i64), .bool, .bool], (.tup (.sl (.int .u8)) .str))),
  (130, ([.str], .bool)),
  (131, ([.str, .str], (.int .i64))),
  (133, ([(.int .i64)], (.int .u64))),
  (139, ([OrderT], PlaceT)),
  (140, ([(.int .i64)], (.int .i64))),
  (141, ([.bool], (.int .i64))),
  (142, ([(.int .i64)], .bool)),
  (143, ([(.int .u64)], (.int .i64))),
  (144, ([(.int .u8)], (.int .i64))),
  (145, ([.str, (.int .u8)], (.int .i64))),
  (147, ([(.int .i64)], (.int .i64))),
  (148, ([.str, .str], (.int .i64))),
  (150, ([(.int .u32)], (.int .i64))),
  (151, ([(.int .u64)], (.int .i64))),
  (153, ([.str], (.tup (.int .u32) (.int .u32)))),
  (177, ([], .unit)),
  (42, ([], (.st (.pair .fnv (.pair .fnv (.pair .fnv (.pair .fnv (.pair .fnv .fnv)))))))),
  (43, ([.str, (.sl .fnv)], (.tup RecordT .bool))),
  (53, ([RecordT, RecordT], (.int .i64))),
  (80, ([], (.st (.pair .fnv .fnv)))),
  (82, ([(.mp (.int .i64) FormT), (.sl OrderT), RecordT], .bool)),
  (83, ([], (.mp (.int .i64) FormT))),
  (84, ([(.sl RecordT), .fnv, RecordT], (.sl RecordT))),
  (88, ([(.sl RecordT), RecordT, .fnv], (.tup (.int .i64) .bool))),
  (89, ([RecordT, RecordT], (.int .i64))),
  (121, ([(.sl RecordT), .fnv, PlaceT], (.tup (.int .i64) .bool))),
  (123, ([(.mp (.int .i64) FormT), OrderT], .bool)),
  (137, ([(.sl RecordT), PlaceT, (.clo 138 (.ptr .fnv))], (.tup (.int .i64) .bool))),
  (138, ([RecordT, PlaceT, (.ptr .fnv)], (.int .i64)))]
def hfns : List (Nat × List (Option Ty)) := [(30, [none, some .str]), (31, [none, some (.int .u8)]), (32, [none]), (51, [some (.sl RecordT)]), (52, [none, none]), (58, [none]), (65, [none, some .str]), (67, [none, some .str]), (68, [none, some .str]), (69, [none, some .str]), (70, [none, some .str]), (71, [none, some .str]), (76, [none, some (.int .i64), some (.int .i64), some (.int .i64), none]), (85, [some (.sl OrderT), none]), (86, [some OrderT, none]), (90, [some OrderT, none]), (98, [none, some (.int .i64), some (.int .i64), none]), (110, [some OrderT, none, none]), (122, [some (.sl OrderT), none]), (124, [none, some (.int .i64)])]
def keyTs : List (Nat × Nat) := [(141, 3)]
noncomputable def env : Env := mkEnv Tryz.prog tys strs cmps fns hfns keyTs [(22, 25), (26, 167), (51, 25), (56, 167), (20, 92), (28, 61)] true [73] [(71, 5)] [] [129] [66, 65, 67, 68, 70, 69, 71] [] [129] [(20, 2), (59, 2)]
theorem e_emp0 (t : Nat) : env.emp t = mem1 t [129] := rfl
theorem e_stp0 (f i : Nat) : env.stp f i = roAt [(20, 2), (59, 2)] f i := rfl
theorem e_fl0 (f i : Nat) : env.fl f i = [] := rfl
theorem e_con0 (t : Nat) : env.con t = mem1 t [129] := rfl
theorem e_px0 (f : Nat) : env.px f = mem1 f [66, 65, 67, 68, 70, 69, 71] := rfl
theorem e_nd0 (f : Nat) : env.nd f = false := rfl
theorem e_bx0 (t : Nat) : env.boxT t = mem1 t [73] := rfl
theorem e_el0 (t : Nat) : env.elm t = look t [(71, 5)] := rfl
theorem e_ro0 (d t : Nat) : env.ro d t = roAt [(22, 25), (26, 167), (51, 25), (56, 167), (20, 92), (28, 61)] d t := rfl
theorem e_tm0 : env.tm = true := rfl
theorem env_ok : EnvOK env := mkEnv_ok (by kernel_rfl) (by kernel_rfl) (by kernel_rfl) (by kernel_rfl) (by kernel_rfl) (by kernel_rfl) (by kernel_rfl) (by kernel_rfl) (by kernel_rfl)
theorem e_key141 : env.mapKey 141 = some 3 := rfl
theorem e_ty1 : env.ty 1 = some .fnv := rfl
theorem e_ty2 : env.ty 2 = some (.int .i64) := rfl
theorem e_ty3 : env.ty 3 = some (.int .i64) := rfl
theorem e_ty4 : env.ty 4 = some .bool := rfl
theorem e_ty5 : env.ty 5 = some (.int .u8) := rfl
theorem e_ty6 : env.ty 6 = some (.int .u8) := rfl
theorem e_ty7 : env.ty 7 = some BoundsErrorT := rfl
theorem e_ty8 : env.ty 8 = some BoundsErrorT := rfl
theorem e_ty9 : env.ty 9 = some .str := rfl
theorem e_ty10 : env.ty 10 = some .str := rfl
theorem e_ty11 : env.ty 11 = some .str := rfl
theorem e_ty12 : env.ty 12 = some (.int .u64) := rfl
theorem e_ty13 : env.ty 13 = some ErrorAddressStringT := rfl
theorem e_ty14 : env.ty 14 = some ErrorAddressStringT := rfl
theorem e_ty21 : env.ty 21 = some (.int .i32) := rfl
theorem e_ty22 : env.ty 22 = some (.sl RawT) := rfl
theorem e_ty23 : env.ty 23 = some (.st (.pair (.int .u8) (.int .u8))) := rfl
theorem e_ty24 : env.ty 24 = some .fnv := rfl
theorem e_ty25 : env.ty 25 = some (.sl RecordT) := rfl
theorem e_ty26 : env.ty 26 = some (.sl OrderT) := rfl
theorem e_ty27 : env.ty 27 = some (.st (.pair (.int .i64) (.pair (.int .i64) (.pair (.int .i64) (.pair (.int .i64) (.pair (.int .i64) (.pair (.int .i64) (.pair (.int .i64) (.int .i64))))))))) := rfl
theorem e_ty28 : env.ty 28 = some UserT := rfl
theorem e_ty29 : env.ty 29 = some UserT := rfl
theorem e_ty30 : env.ty 30 = some .fnv := rfl
theorem e_ty31 : env.ty 31 = some .fnv := rfl
theorem e_ty32 : env.ty 32 = some (.int .i64) := rfl
theorem e_ty33 : env.ty 33 = some ImportedT := rfl
theorem e_ty34 : env.ty 34 = some ImportedT := rfl
theorem e_ty35 : env.ty 35 = some .fnv := rfl
theorem e_ty36 : env.ty 36 = some OwnerT := rfl
theorem e_ty37 : env.ty 37 = some OwnerT := rfl
theorem e_ty38 : env.ty 38 = some .fnv := rfl
theorem e_ty39 : env.ty 39 = some .fnv := rfl
theorem e_ty40 : env.ty 40 = some .fnv := rfl
theorem e_ty41 : env.ty 41 = some .fnv := rfl
theorem e_ty42 : env.ty 42 = some .fnv := rfl
theorem e_ty43 : env.ty 43 = some RawT := rfl
theorem e_ty44 : env.ty 44 = some RawT := rfl
theorem e_ty46 : env.ty 46 = some .fnv := rfl
theorem e_ty47 : env.ty 47 = some OrderT := rfl
theorem e_ty48 : env.ty 48 = some OrderT := rfl
theorem e_ty49 : env.ty 49 = some .fnv := rfl
theorem e_ty50 : env.ty 50 = some .fnv := rfl
theorem e_ty51 : env.ty 51 = some (.int .u16) := rfl
theorem e_ty52 : env.ty 52 = some (.st (.pair (.int .u16) (.pair (.int .u16) (.pair (.int .u16) (.int .u16))))) := rfl
theorem e_ty53 : env.ty 53 = some RecordT := rfl
theorem e_ty54 : env.ty 54 = some RecordT := rfl
theorem e_ty55 : env.ty 55 = some .fnv := rfl
theorem e_ty56 : env.ty 56 = some .fnv := rfl
theorem e_ty58 : env.ty 58 = some .fnv := rfl
theorem e_ty59 : env.ty 59 = some (.st (.pair .str (.pair .str .str))) := rfl
theorem e_ty60 : env.ty 60 = some .fnv := rfl
theorem e_ty61 : env.ty 61 = some (.sl (.st (.pair (.int .u8) (.int .u8)))) := rfl
theorem e_ty62 : env.ty 62 = some .fnv := rfl
theorem e_ty63 : env.ty 63 = some .fnv := rfl
theorem e_ty64 : env.ty 64 = some .fnv := rfl
theorem e_ty65 : env.ty 65 = some .fnv := rfl
theorem e_ty66 : env.ty 66 = some .fnv := rfl
theorem e_ty67 : env.ty 67 = some .fnv := rfl
theorem e_ty68 : env.ty 68 = some .fnv := rfl
theorem e_ty69 : env.ty 69 = some .fnv := rfl
theorem e_ty70 : env.ty 70 = some (.ptr .unit) := rfl
theorem e_ty71 : env.ty 71 = some (.sl (.int .u8)) := rfl
theorem e_ty72 : env.ty 72 = some BuilderT := rfl
theorem e_ty73 : env.ty 73 = some BuilderT := rfl
theorem e_ty74 : env.ty 74 = some .fnv := rfl
theorem e_ty78 : env.ty 78 = some .fnv := rfl
theorem e_ty79 : env.ty 79 = some .fnv := rfl
theorem e_ty80 : env.ty 80 = some .fnv := rfl
theorem e_ty82 : env.ty 82 = some .fnv := rfl
theorem e_ty83 : env.ty 83 = some .fnv := rfl
theorem e_ty84 : env.ty 84 = some .fnv := rfl
theorem e_ty85 : env.ty 85 = some .fnv := rfl
theorem e_ty86 : env.ty 86 = some (.st (.pair (.int .i64) (.int .i64))) := rfl
theorem e_ty87 : env.ty 87 = some .fnv := rfl
theorem e_ty88 : env.ty 88 = some .fnv := rfl
theorem e_ty89 : env.ty 89 = some .fnv := rfl
theorem e_ty90 : env.ty 90 = some .fnv := rfl
theorem e_ty91 : env.ty 91 = some .fnv := rfl
theorem e_ty92 : env.ty 92 = some (.sl .str) := rfl
theorem e_ty93 : env.ty 93 = some .fnv := rfl
theorem e_ty94 : env.ty 94 = some .fnv := rfl
theorem e_ty95 : env.ty 95 = some (.st (.pair .fnv (.pair .fnv (.pair .fnv (.pair .fnv (.pair .fnv .fnv)))))) := rfl
theorem e_ty96 : env.ty 96 = some .fnv := rfl
theorem e_ty98 : env.ty 98 = some .fnv := rfl
theorem e_ty99 : env.ty 99 = some (.sl .fnv) := rfl
theorem e_ty100 : env.ty 100 = some .fnv := rfl
theorem e_ty101 : env.ty 101 = some .fnv := rfl
theorem e_ty102 : env.ty 102 = some .fnv := rfl
theorem e_ty103 : env.ty 103 = some .fnv := rfl
theorem e_ty104 : env.ty 104 = some .fnv := rfl
theorem e_ty105 : env.ty 105 = some LearntT := rfl
theorem e_ty106 : env.ty 106 = some LearntT := rfl
theorem e_ty107 : env.ty 107 = some .fnv := rfl
theorem e_ty108 : env.ty 108 = some .fnv := rfl
theorem e_ty109 : env.ty 109 = some .fnv := rfl
theorem e_ty110 : env.ty 110 = some .fnv := rfl
theorem e_ty111 : env.ty 111 = some .fnv := rfl
theorem e_ty112 : env.ty 112 = some PlaceT := rfl
theorem e_ty113 : env.ty 113 = some PlaceT := rfl
theorem e_ty114 : env.ty 114 = some .fnv := rfl
theorem e_ty115 : env.ty 115 = some .fnv := rfl
theorem e_ty116 : env.ty 116 = some .fnv := rfl
theorem e_ty119 : env.ty 119 = some .fnv := rfl
theorem e_ty120 : env.ty 120 = some .fnv := rfl
theorem e_ty121 : env.ty 121 = some .fnv := rfl
theorem e_ty122 : env.ty 122 = some .fnv := rfl
theorem e_ty123 : env.ty 123 = some .fnv := rfl
theorem e_ty125 : env.ty 125 = some .fnv := rfl
theorem e_ty127 : env.ty 127 = some .fnv := rfl
theorem e_ty130 : env.ty 130 = some .fnv := rfl
theorem e_ty131 : env.ty 131 = some .fnv := rfl
theorem e_ty132 : env.ty 132 = some .fnv := rfl
theorem e_ty133 : env.ty 133 = some (.int .u64) := rfl
theorem e_ty134 : env.ty 134 = some (.sl (.int .i64)) := rfl
theorem e_ty135 : env.ty 135 = some .fnv := rfl
theorem e_ty137 : env.ty 137 = some .fnv := rfl
theorem e_ty138 : env.ty 138 = some (.st (.pair .fnv .fnv)) := rfl
theorem e_ty139 : env.ty 139 = some .fnv := rfl
theorem e_ty140 : env.ty 140 = some .fnv := rfl
theorem e_ty141 : env.ty 141 = some (.mp (.int .i64) FormT) := rfl
theorem e_ty142 : env.ty 142 = some .fnv := rfl
theorem e_ty143 : env.ty 143 = some .fnv := rfl
theorem e_ty144 : env.ty 144 = some .fnv := rfl
theorem e_ty146 : env.ty 146 = some .fnv := rfl
theorem e_ty147 : env.ty 147 = some .fnv := rfl
theorem e_ty148 : env.ty 148 = some .fnv := rfl
theorem e_ty149 : env.ty 149 = some .fnv := rfl
theorem e_ty150 : env.ty 150 = some (.int .i64) := rfl
theorem e_ty152 : env.ty 152 = some .fnv := rfl
theorem e_ty153 : env.ty 153 = some .fnv := rfl
theorem e_ty154 : env.ty 154 = some .fnv := rfl
theorem e_ty155 : env.ty 155 = some .fnv := rfl
theorem e_ty156 : env.ty 156 = some .fnv := rfl
theorem e_ty157 : env.ty 157 = some (.int .u32) := rfl
theorem e_ty158 : env.ty 158 = some .fnv := rfl
theorem e_ty159 : env.ty 159 = some (.int .u64) := rfl
theorem e_ty160 : env.ty 160 = some .fnv := rfl
theorem e_ty161 : env.ty 161 = some FormT := rfl
theorem e_ty162 : env.ty 162 = some FormT := rfl
theorem e_ty164 : env.ty 164 = some .fnv := rfl
theorem e_ty165 : env.ty 165 = some .fnv := rfl
theorem e_ty166 : env.ty 166 = some .fnv := rfl
theorem e_ty167 : env.ty 167 = some (.sl (.sl RecordT)) := rfl
theorem e_ty168 : env.ty 168 = some .fnv := rfl
theorem e_ty169 : env.ty 169 = some .fnv := rfl
theorem e_ty171 : env.ty 171 = some .fnv := rfl
theorem e_ty173 : env.ty 173 = some .fnv := rfl
theorem e_ty174 : env.ty 174 = some .fnv := rfl
theorem e_ty175 : env.ty 175 = some (.int .u64) := rfl
theorem e_ty176 : env.ty 176 = some .fnv := rfl
theorem e_ty177 : env.ty 177 = some .fnv := rfl
theorem e_ty178 : env.ty 178 = some .fnv := rfl
theorem e_ty180 : env.ty 180 = some .fnv := rfl
theorem e_ty181 : env.ty 181 = some .fnv := rfl
theorem e_ty182 : env.ty 182 = some .fnv := rfl
theorem e_ty183 : env.ty 183 = some .fnv := rfl
theorem e_ty184 : env.ty 184 = some .fnv := rfl
theorem e_ty185 : env.ty 185 = some .fnv := rfl
theorem e_ty188 : env.ty 188 = some .fnv := rfl
theorem e_ty189 : env.ty 189 = some .fnv := rfl
theorem e_ty192 : env.ty 192 = some .fnv := rfl
theorem e_ty194 : env.ty 194 = some .fnv := rfl
theorem e_ty202 : env.ty 202 = some .fnv := rfl
theorem e_ty203 : env.ty 203 = some (.int .u8) := rfl
theorem e_ty204 : env.ty 204 = some (.int .u8) := rfl
theorem e_ty205 : env.ty 205 = some .fnv := rfl
theorem e_ty206 : env.ty 206 = some (.int .i32) := rfl
theorem e_ty207 : env.ty 207 = some (.int .i32) := rfl
theorem e_str7 : env.str 7 = true := rfl
theorem e_str8 : env.str 8 = true := rfl
theorem e_str13 : env.str 13 = true := rfl
theorem e_str14 : env.str 14 = true := rfl
theorem e_str28 : env.str 28 = true := rfl
theorem e_str29 : env.str 29 = true := rfl
theorem e_str33 : env.str 33 = true := rfl
theorem e_str34 : env.str 34 = true := rfl
theorem e_str36 : env.str 36 = true := rfl
theorem e_str37 : env.str 37 = true := rfl
theorem e_str43 : env.str 43 = true := rfl
theorem e_str44 : env.str 44 = true := rfl
theorem e_str47 : env.str 47 = true := rfl
theorem e_str48 : env.str 48 = true := rfl
theorem e_str53 : env.str 53 = true := rfl
theorem e_str54 : env.str 54 = true := rfl
theorem e_str72 : env.str 72 = true := rfl
theorem e_str73 : env.str 73 = true := rfl
theorem e_str105 : env.str 105 = true := rfl
theorem e_str106 : env.str 106 = true := rfl
theorem e_str112 : env.str 112 = true := rfl
theorem e_str113 : env.str 113 = true := rfl
theorem e_str161 : env.str 161 = true := rfl
theorem e_str162 : env.str 162 = true := rfl
theorem e_str23 : env.str 23 = false := rfl
theorem e_str27 : env.str 27 = false := rfl
theorem e_str52 : env.str 52 = false := rfl
theorem e_str59 : env.str 59 = false := rfl
theorem e_str86 : env.str 86 = false := rfl
theorem e_str95 : env.str 95 = false := rfl
theorem e_str138 : env.str 138 = false := rfl
theorem e_cmp7 : env.cmp 7 = true := rfl
theorem e_cmp8 : env.cmp 8 = true := rfl
theorem e_cmp23 : env.cmp 23 = true := rfl
theorem e_cmp27 : env.cmp 27 = true := rfl
theorem e_cmp36 : env.cmp 36 = true := rfl
theorem e_cmp37 : env.cmp 37 = true := rfl
theorem e_cmp43 : env.cmp 43 = true := rfl
theorem e_cmp44 : env.cmp 44 = true := rfl
theorem e_cmp47 : env.cmp 47 = true := rfl
theorem e_cmp48 : env.cmp 48 = true := rfl
theorem e_cmp52 : env.cmp 52 = true := rfl
theorem e_cmp53 : env.cmp 53 = true := rfl
theorem e_cmp54 : env.cmp 54 = true := rfl
theorem e_cmp59 : env.cmp 59 = true := rfl
theorem e_cmp86 : env.cmp 86 = true := rfl
theorem e_cmp112 : env.cmp 112 = true := rfl
theorem e_cmp113 : env.cmp 113 = true := rfl
theorem e_fn2 : env.fn 2 = some ([], .unit) := rfl
theorem e_fn3 : env.fn 3 = some ([(.sl RawT), (.st (.pair (.int .u8) (.int .u8)))], .bool) := rfl
theorem e_fn4 : env.fn 4 = some ([(.sl RawT), RawT, RawT], .bool) := rfl
theorem e_fn5 : env.fn 5 = some ([RawT, (.st (.pair (.int .u16) (.pair (.int .u16) (.pair (.int .u16) (.int .u16))))), .str], .bool) := rfl
theorem e_fn6 : env.fn 6 = some ([(.sl RawT), (.sl (.st (.pair (.int .u8) (.int .u8)))), (.st (.pair (.int .u8) (.int .u8)))], .bool) := rfl
theorem e_fn7 : env.fn 7 = some ([(.sl RawT), (.sl RawT), (.st (.pair (.int .u8) (.int .u8)))], .bool) := rfl
theorem e_fn8 : env.fn 8 = some ([], .bool) := rfl
theorem e_fn9 : env.fn 9 = some ([(.sl RawT), (.int .i64)], UserT) := rfl
theorem e_fn10 : env.fn 10 = some ([UserT], .str) := rfl
theorem e_fn11 : env.fn 11 = some ([UserT, .str, OwnerT], ImportedT) := rfl
theorem e_fn12 : env.fn 12 = some ([(.st (.pair (.int .u8) (.int .u8)))], OwnerT) := rfl
theorem e_fn13 : env.fn 13 = some ([(.sl RecordT), (.sl RecordT)], .bool) := rfl
theorem e_fn14 : env.fn 14 = some ([UserT], .bool) := rfl
theorem e_fn15 : env.fn 15 = some ([UserT, UserT], .bool) := rfl
theorem e_fn16 : env.fn 16 = some ([UserT, OrderT], (.tup UserT (.int .i64))) := rfl
theorem e_fn17 : env.fn 17 = some ([RawT], OrderT) := rfl
theorem e_fn18 : env.fn 18 = some ([RawT], RecordT) := rfl
theorem e_fn19 : env.fn 19 = some ([RecordT], .str) := rfl
theorem e_fn20 : env.fn 20 = some ([.str], (.tup RecordT (.int .i64))) := rfl
theorem e_fn21 : env.fn 21 = some ([RecordT], .str) := rfl
theorem e_fn22 : env.fn 22 = some ([.str], (.tup RecordT (.int .i64))) := rfl
theorem e_fn23 : env.fn 23 = some ([(.sl (.st (.pair (.int .u8) (.int .u8)))), (.int .i64)], .str) := rfl
theorem e_fn24 : env.fn 24 = some ([(.int .u8)], .str) := rfl
theorem e_fn25 : env.fn 25 = some ([(.sl OrderT), RecordT], .bool) := rfl
theorem e_fn26 : env.fn 26 = some ([UserT, .str, (.int .i64)], (.int .i64)) := rfl
theorem e_fn27 : env.fn 27 = some ([(.sl RawT), (.int .i64)], .str) := rfl
theorem e_fn28 : env.fn 28 = some ([UserT, RawT], UserT) := rfl
theorem e_fn29 : env.fn 29 = some ([UserT], (.sl RecordT)) := rfl
theorem e_fn33 : env.fn 33 = some ([UserT, .str, (.int .i64), (.int .i64)], (.tup UserT (.tup (.int .i64) (.int .i64)))) := rfl
theorem e_fn34 : env.fn 34 = some ([(.int .i64), (.int .i64), (.int .i64)], .bool) := rfl
theorem e_fn35 : env.fn 35 = some ([RecordT], .bool) := rfl
theorem e_fn36 : env.fn 36 = some ([(.st (.pair (.int .i64) (.int .i64))), (.st (.pair (.int .i64) (.int .i64)))], .bool) := rfl
theorem e_fn37 : env.fn 37 = some ([OrderT], .bool) := rfl
theorem e_fn38 : env.fn 38 = some ([(.sl OrderT), OrderT], (.sl OrderT)) := rfl
theorem e_fn39 : env.fn 39 = some ([(.sl RecordT), (.sl OrderT)], (.sl RecordT)) := rfl
theorem e_fn40 : env.fn 40 = some ([(.sl .str), .str], .str) := rfl
theorem e_fn41 : env.fn 41 = some ([(.int .i64)], .str) := rfl
theorem e_fn44 : env.fn 44 = some ([(.int .i64)], .str) := rfl
theorem e_fn45 : env.fn 45 = some ([.str, (.int .u8)], (.sl .str)) := rfl
theorem e_fn46 : env.fn 46 = some ([.str], (.int .i64)) := rfl
theorem e_fn47 : env.fn 47 = some ([OrderT, RecordT], .bool) := rfl
theorem e_fn48 : env.fn 48 = some ([RecordT, (.int .i64)], (.int .i64)) := rfl
theorem e_fn49 : env.fn 49 = some ([RawT], .bool) := rfl
theorem e_fn50 : env.fn 50 = some ([UserT, RecordT], LearntT) := rfl
theorem e_fn54 : env.fn 54 = some ([(.sl (.int .i64))], (.int .i64)) := rfl
theorem e_fn55 : env.fn 55 = some ([(.int .i64), (.int .i64)], (.int .i64)) := rfl
theorem e_fn56 : env.fn 56 = some ([RecordT], PlaceT) := rfl
theorem e_fn57 : env.fn 57 = some ([PlaceT, PlaceT], (.int .i64)) := rfl
theorem e_fn59 : env.fn 59 = some ([.str], (.tup (.sl RecordT) (.int .i64))) := rfl
theorem e_fn60 : env.fn 60 = some ([UserT, RecordT], (.tup UserT (.tup (.int .i64) (.int .i64)))) := rfl
theorem e_fn61 : env.fn 61 = some ([UserT, RecordT], (.tup UserT (.int .i64))) := rfl
theorem e_fn62 : env.fn 62 = some ([.str], .bool) := rfl
theorem e_fn63 : env.fn 63 = some ([(.ptr .unit), (.int .i64)], .unit) := rfl
theorem e_fn64 : env.fn 64 = some ([(.int .i64)], .str) := rfl
theorem e_fn66 : env.fn 66 = some ([.str, (.int .i64), (.int .i64)], (.int .i64)) := rfl
theorem e_fn73 : env.fn 73 = some ([.str, .str], (.tup .str (.tup .str .bool))) := rfl
theorem e_fn74 : env.fn 74 = some ([(.int .i64), (.int .i64)], (.int .i64)) := rfl
theorem e_fn75 : env.fn 75 = some ([(.sl RecordT), RecordT], (.sl RecordT)) := rfl
theorem e_fn77 : env.fn 77 = some ([(.int .u64)], (.int .i64)) := rfl
theorem e_fn78 : env.fn 78 = some ([(.int .i64)], .bool) := rfl
theorem e_fn81 : env.fn 81 = some ([RecordT], .bool) := rfl
theorem e_fn87 : env.fn 87 = some ([OrderT, RecordT], .bool) := rfl
theorem e_fn91 : env.fn 91 = some ([(.sl (.sl RecordT))], (.sl RecordT)) := rfl
theorem e_fn92 : env.fn 92 = some ([(.int .i64), (.int .i64), (.int .i64)], .bool) := rfl
theorem e_fn93 : env.fn 93 = some ([.str], .bool) := rfl
theorem e_fn94 : env.fn 94 = some ([(.ptr .unit), (.int .i64)], .unit) := rfl
theorem e_fn95 : env.fn 95 = some ([(.int .i64), (.int .i64)], .str) := rfl
theorem e_fn96 : env.fn 96 = some ([.str], .bool) := rfl
theorem e_fn97 : env.fn 97 = some ([.str, .str], (.tup .str (.tup .str .bool))) := rfl
theorem e_fn106 : env.fn 106 = some ([(.int .u32)], (.int .i64)) := rfl
theorem e_fn107 : env.fn 107 = some ([(.int .u64)], (.int .i64)) := rfl
theorem e_fn108 : env.fn 108 = some ([PlaceT, (.int .i64)], .bool) := rfl
theorem e_fn109 : env.fn 109 = some ([(.int .i64), (.int .i64), (.int .i64)], .bool) := rfl
theorem e_fn111 : env.fn 111 = some ([OrderT], .bool) := rfl
theorem e_fn112 : env.fn 112 = some ([OrderT, RecordT], .bool) := rfl
theorem e_fn113 : env.fn 113 = some ([OrderT], .bool) := rfl
theorem e_fn114 : env.fn 114 = some ([OrderT, RecordT], .bool) := rfl
theorem e_fn115 : env.fn 115 = some ([OrderT], .bool) := rfl
theorem e_fn116 : env.fn 116 = some ([OrderT, RecordT], .bool) := rfl
theorem e_fn117 : env.fn 117 = some ([OrderT], .bool) := rfl
theorem e_fn118 : env.fn 118 = some ([OrderT, RecordT], .bool) := rfl
theorem e_fn119 : env.fn 119 = some ([OrderT], .bool) := rfl
theorem e_fn120 : env.fn 120 = some ([OrderT, RecordT], .bool) := rfl
theorem e_fn126 : env.fn 126 = some ([(.int .i64)], .str) := rfl
theorem e_fn127 : env.fn 127 = some ([(.int .u64)], (.int .i64)) := rfl
theorem e_fn128 : env.fn 128 = some ([(.sl (.int .u8)), (.int .u64)], .unit) := rfl
theorem e_fn129 : env.fn 129 = some ([(.sl (.int .u8)), (.int .u64), (.int .i64), .bool, .bool], (.tup (.sl (.int .u8)) .str)) := rfl
theorem e_fn130 : env.fn 130 = some ([.str], .bool) := rfl
theorem e_fn131 : env.fn 131 = some ([.str, .str], (.int .i64)) := rfl
theorem e_fn133 : env.fn 133 = some ([(.int .i64)], (.int .u64)) := rfl
theorem e_fn139 : env.fn 139 = some ([OrderT], PlaceT) := rfl
theorem e_fn140 : env.fn 140 = some ([(.int .i64)], (.int .i64)) := rfl
theorem e_fn141 : env.fn 141 = some ([.bool], (.int .i64)) := rfl
theorem e_fn142 : env.fn 142 = some ([(.int .i64)], .bool) := rfl
theorem e_fn143 : env.fn 143 = some ([(.int .u64)], (.int .i64)) := rfl
theorem e_fn144 : env.fn 144 = some ([(.int .u8)], (.int .i64)) := rfl
theorem e_fn145 : env.fn 145 = some ([.str, (.int .u8)], (.int .i64)) := rfl
theorem e_fn147 : env.fn 147 = some ([(.int .i64)], (.int .i64)) := rfl
theorem e_fn148 : env.fn 148 = some ([.str, .str], (.int .i64)) := rfl
theorem e_fn150 : env.fn 150 = some ([(.int .u32)], (.int .i64)) := rfl
theorem e_fn151 : env.fn 151 = some ([(.int .u64)], (.int .i64)) := rfl
theorem e_fn153 : env.fn 153 = some ([.str], (.tup (.int .u32) (.int .u32))) := rfl
theorem e_fn177 : env.fn 177 = some ([], .unit) := rfl
theorem e_fn42 : env.fn 42 = some ([], (.st (.pair .fnv (.pair .fnv (.pair .fnv (.pair .fnv (.pair .fnv .fnv))))))) := rfl
theorem e_fn43 : env.fn 43 = some ([.str, (.sl .fnv)], (.tup RecordT .bool)) := rfl
theorem e_fn53 : env.fn 53 = some ([RecordT, RecordT], (.int .i64)) := rfl
theorem e_fn80 : env.fn 80 = some ([], (.st (.pair .fnv .fnv))) := rfl
theorem e_fn82 : env.fn 82 = some ([(.mp (.int .i64) FormT), (.sl OrderT), RecordT], .bool) := rfl
theorem e_fn83 : env.fn 83 = some ([], (.mp (.int .i64) FormT)) := rfl
theorem e_fn84 : env.fn 84 = some ([(.sl RecordT), .fnv, RecordT], (.sl RecordT)) := rfl
theorem e_fn88 : env.fn 88 = some ([(.sl RecordT), RecordT, .fnv], (.tup (.int .i64) .bool)) := rfl
theorem e_fn89 : env.fn 89 = some ([RecordT, RecordT], (.int .i64)) := rfl
theorem e_fn121 : env.fn 121 = some ([(.sl RecordT), .fnv, PlaceT], (.tup (.int .i64) .bool)) := rfl
theorem e_fn123 : env.fn 123 = some ([(.mp (.int .i64) FormT), OrderT], .bool) := rfl
theorem e_fn137 : env.fn 137 = some ([(.sl RecordT), PlaceT, (.clo 138 (.ptr .fnv))], (.tup (.int .i64) .bool)) := rfl
theorem e_fn138 : env.fn 138 = some ([RecordT, PlaceT, (.ptr .fnv)], (.int .i64)) := rfl
theorem e_fn30 : env.fn 30 = none := rfl
theorem e_hfn30 : env.hfn 30 = some [none, some .str] := rfl
theorem e_fn31 : env.fn 31 = none := rfl
theorem e_hfn31 : env.hfn 31 = some [none, some (.int .u8)] := rfl
theorem e_fn32 : env.fn 32 = none := rfl
theorem e_hfn32 : env.hfn 32 = some [none] := rfl
theorem e_fn51 : env.fn 51 = none := rfl
theorem e_hfn51 : env.hfn 51 = some [some (.sl RecordT)] := rfl
theorem e_fn52 : env.fn 52 = none := rfl
theorem e_hfn52 : env.hfn 52 = some [none, none] := rfl
theorem e_fn58 : env.fn 58 = none := rfl
theorem e_hfn58 : env.hfn 58 = some [none] := rfl
theorem e_fn65 : env.fn 65 = none := rfl
theorem e_hfn65 : env.hfn 65 = some [none, some .str] := rfl
theorem e_fn67 : env.fn 67 = none := rfl
theorem e_hfn67 : env.hfn 67 = some [none, some .str] := rfl
theorem e_fn68 : env.fn 68 = none := rfl
theorem e_hfn68 : env.hfn 68 = some [none, some .str] := rfl
theorem e_fn69 : env.fn 69 = none := rfl
theorem e_hfn69 : env.hfn 69 = some [none, some .str] := rfl
theorem e_fn70 : env.fn 70 = none := rfl
theorem e_hfn70 : env.hfn 70 = some [none, some .str] := rfl
theorem e_fn71 : env.fn 71 = none := rfl
theorem e_hfn71 : env.hfn 71 = some [none, some .str] := rfl
theorem e_fn76 : env.fn 76 = none := rfl
theorem e_hfn76 : env.hfn 76 = some [none, some (.int .i64), some (.int .i64), some (.int .i64), none] := rfl
theorem e_fn85 : env.fn 85 = none := rfl
theorem e_hfn85 : env.hfn 85 = some [some (.sl OrderT), none] := rfl
theorem e_fn86 : env.fn 86 = none := rfl
theorem e_hfn86 : env.hfn 86 = some [some OrderT, none] := rfl
theorem e_fn90 : env.fn 90 = none := rfl
theorem e_hfn90 : env.hfn 90 = some [some OrderT, none] := rfl
theorem e_fn98 : env.fn 98 = none := rfl
theorem e_hfn98 : env.hfn 98 = some [none, some (.int .i64), some (.int .i64), none] := rfl
theorem e_fn110 : env.fn 110 = none := rfl
theorem e_hfn110 : env.hfn 110 = some [some OrderT, none, none] := rfl
theorem e_fn122 : env.fn 122 = none := rfl
theorem e_hfn122 : env.hfn 122 = some [some (.sl OrderT), none] := rfl
theorem e_fn124 : env.fn 124 = none := rfl
theorem e_hfn124 : env.hfn 124 = some [none, some (.int .i64)] := rfl
theorem fn_2 : env.P.funcs[2]? = some Tryz.f2 := rfl
theorem fn_3 : env.P.funcs[3]? = some Tryz.f3 := rfl
theorem fn_4 : env.P.funcs[4]? = some Tryz.f4 := rfl
theorem fn_5 : env.P.funcs[5]? = some Tryz.f5 := rfl
theorem fn_6 : env.P.funcs[6]? = some Tryz.f6 := rfl
theorem fn_7 : env.P.funcs[7]? = some Tryz.f7 := rfl
theorem fn_8 : env.P.funcs[8]? = some Tryz.f8 := rfl
theorem fn_9 : env.P.funcs[9]? = some Tryz.f9 := rfl
theorem fn_10 : env.P.funcs[10]? = some Tryz.f10 := rfl
theorem fn_11 : env.P.funcs[11]? = some Tryz.f11 := rfl
theorem fn_12 : env.P.funcs[12]? = some Tryz.f12 := rfl
theorem fn_13 : env.P.funcs[13]? = some Tryz.f13 := rfl
theorem fn_14 : env.P.funcs[14]? = some Tryz.f14 := rfl
theorem fn_15 : env.P.funcs[15]? = some Tryz.f15 := rfl
theorem fn_16 : env.P.funcs[16]? = some Tryz.f16 := rfl
theorem fn_17 : env.P.funcs[17]? = some Tryz.f17 := rfl
theorem fn_18 : env.P.funcs[18]? = some Tryz.f18 := rfl
theorem fn_19 : env.P.funcs[19]? = some Tryz.f19 := rfl
theorem fn_20 : env.P.funcs[20]? = some Tryz.f20 := rfl
theorem fn_21 : env.P.funcs[21]? = some Tryz.f21 := rfl
theorem fn_22 : env.P.funcs[22]? = some Tryz.f22 := rfl
theorem fn_23 : env.P.funcs[23]? = some Tryz.f23 := rfl
theorem fn_24 : env.P.funcs[24]? = some Tryz.f24 := rfl
theorem fn_25 : env.P.funcs[25]? = some Tryz.f25 := rfl
theorem fn_26 : env.P.funcs[26]? = some Tryz.f26 := rfl
theorem fn_27 : env.P.funcs[27]? = some Tryz.f27 := rfl
theorem fn_28 : env.P.funcs[28]? = some Tryz.f28 := rfl
theorem fn_29 : env.P.funcs[29]? = some Tryz.f29 := rfl
theorem fn_30 : env.P.funcs[30]? = some Tryz.f30 := rfl
theorem fn_31 : env.P.funcs[31]? = some Tryz.f31 := rfl
theorem fn_32 : env.P.funcs[32]? = some Tryz.f32 := rfl
theorem fn_33 : env.P.funcs[33]? = some Tryz.f33 := rfl
theorem fn_34 : env.P.funcs[34]? = some Tryz.f34 := rfl
theorem fn_35 : env.P.funcs[35]? = some Tryz.f35 := rfl
theorem fn_36 : env.P.funcs[36]? = some Tryz.f36 := rfl
theorem fn_37 : env.P.funcs[37]? = some Tryz.f37 := rfl
theorem fn_38 : env.P.funcs[38]? = some Tryz.f38 := rfl
theorem fn_39 : env.P.funcs[39]? = some Tryz.f39 := rfl
theorem fn_40 : env.P.funcs[40]? = some Tryz.f40 := rfl
theorem fn_41 : env.P.funcs[41]? = some Tryz.f41 := rfl
theorem fn_42 : env.P.funcs[42]? = some Tryz.f42 := rfl
theorem fn_43 : env.P.funcs[43]? = some Tryz.f43 := rfl
theorem fn_44 : env.P.funcs[44]? = some Tryz.f44 := rfl
theorem fn_45 : env.P.funcs[45]? = some Tryz.f45 := rfl
theorem fn_46 : env.P.funcs[46]? = some Tryz.f46 := rfl
theorem fn_47 : env.P.funcs[47]? = some Tryz.f47 := rfl
theorem fn_48 : env.P.funcs[48]? = some Tryz.f48 := rfl
theorem fn_49 : env.P.funcs[49]? = some Tryz.f49 := rfl
theorem fn_50 : env.P.funcs[50]? = some Tryz.f50 := rfl
theorem fn_51 : env.P.funcs[51]? = some Tryz.f51 := rfl
theorem fn_52 : env.P.funcs[52]? = some Tryz.f52 := rfl
theorem fn_53 : env.P.funcs[53]? = some Tryz.f53 := rfl
theorem fn_54 : env.P.funcs[54]? = some Tryz.f54 := rfl
theorem fn_55 : env.P.funcs[55]? = some Tryz.f55 := rfl
theorem fn_56 : env.P.funcs[56]? = some Tryz.f56 := rfl
theorem fn_57 : env.P.funcs[57]? = some Tryz.f57 := rfl
theorem fn_58 : env.P.funcs[58]? = some Tryz.f58 := rfl
theorem fn_59 : env.P.funcs[59]? = some Tryz.f59 := rfl
theorem fn_60 : env.P.funcs[60]? = some Tryz.f60 := rfl
theorem fn_61 : env.P.funcs[61]? = some Tryz.f61 := rfl
theorem fn_62 : env.P.funcs[62]? = some Tryz.f62 := rfl
theorem fn_63 : env.P.funcs[63]? = some Tryz.f63 := rfl
theorem fn_64 : env.P.funcs[64]? = some Tryz.f64 := rfl
theorem fn_65 : env.P.funcs[65]? = some Tryz.f65 := rfl
theorem fn_66 : env.P.funcs[66]? = some Tryz.f66 := rfl
theorem fn_67 : env.P.funcs[67]? = some Tryz.f67 := rfl
theorem fn_68 : env.P.funcs[68]? = some Tryz.f68 := rfl
theorem fn_69 : env.P.funcs[69]? = some Tryz.f69 := rfl
theorem fn_70 : env.P.funcs[70]? = some Tryz.f70 := rfl
theorem fn_71 : env.P.funcs[71]? = some Tryz.f71 := rfl
theorem fn_72 : env.P.funcs[72]? = some Tryz.f72 := rfl
theorem fn_73 : env.P.funcs[73]? = some Tryz.f73 := rfl
theorem fn_74 : env.P.funcs[74]? = some Tryz.f74 := rfl
theorem fn_75 : env.P.funcs[75]? = some Tryz.f75 := rfl
theorem fn_76 : env.P.funcs[76]? = some Tryz.f76 := rfl
theorem fn_77 : env.P.funcs[77]? = some Tryz.f77 := rfl
theorem fn_78 : env.P.funcs[78]? = some Tryz.f78 := rfl
theorem fn_80 : env.P.funcs[80]? = some Tryz.f80 := rfl
theorem fn_81 : env.P.funcs[81]? = some Tryz.f81 := rfl
theorem fn_82 : env.P.funcs[82]? = some Tryz.f82 := rfl
theorem fn_83 : env.P.funcs[83]? = some Tryz.f83 := rfl
theorem fn_84 : env.P.funcs[84]? = some Tryz.f84 := rfl
theorem fn_85 : env.P.funcs[85]? = some Tryz.f85 := rfl
theorem fn_86 : env.P.funcs[86]? = some Tryz.f86 := rfl
theorem fn_87 : env.P.funcs[87]? = some Tryz.f87 := rfl
theorem fn_88 : env.P.funcs[88]? = some Tryz.f88 := rfl
theorem fn_89 : env.P.funcs[89]? = some Tryz.f89 := rfl
theorem fn_90 : env.P.funcs[90]? = some Tryz.f90 := rfl
theorem fn_91 : env.P.funcs[91]? = some Tryz.f91 := rfl
theorem fn_92 : env.P.funcs[92]? = some Tryz.f92 := rfl
theorem fn_93 : env.P.funcs[93]? = some Tryz.f93 := rfl
theorem fn_94 : env.P.funcs[94]? = some Tryz.f94 := rfl
theorem fn_95 : env.P.funcs[95]? = some Tryz.f95 := rfl
theorem fn_96 : env.P.funcs[96]? = some Tryz.f96 := rfl
theorem fn_97 : env.P.funcs[97]? = some Tryz.f97 := rfl
theorem fn_98 : env.P.funcs[98]? = some Tryz.f98 := rfl
theorem fn_99 : env.P.funcs[99]? = some Tryz.f99 := rfl
theorem fn_100 : env.P.funcs[100]? = some Tryz.f100 := rfl
theorem fn_101 : env.P.funcs[101]? = some Tryz.f101 := rfl
theorem fn_102 : env.P.funcs[102]? = some Tryz.f102 := rfl
theorem fn_103 : env.P.funcs[103]? = some Tryz.f103 := rfl
theorem fn_104 : env.P.funcs[104]? = some Tryz.f104 := rfl
theorem fn_105 : env.P.funcs[105]? = some Tryz.f105 := rfl
theorem fn_106 : env.P.funcs[106]? = some Tryz.f106 := rfl
theorem fn_107 : env.P.funcs[107]? = some Tryz.f107 := rfl
theorem fn_108 : env.P.funcs[108]? = some Tryz.f108 := rfl
theorem fn_109 : env.P.funcs[109]? = some Tryz.f109 := rfl
theorem fn_110 : env.P.funcs[110]? = some Tryz.f110 := rfl
theorem fn_111 : env.P.funcs[111]? = some Tryz.f111 := rfl
theorem fn_112 : env.P.funcs[112]? = some Tryz.f112 := rfl
theorem fn_113 : env.P.funcs[113]? = some Tryz.f113 := rfl
theorem fn_114 : env.P.funcs[114]? = some Tryz.f114 := rfl
theorem fn_115 : env.P.funcs[115]? = some Tryz.f115 := rfl
theorem fn_116 : env.P.funcs[116]? = some Tryz.f116 := rfl
theorem fn_117 : env.P.funcs[117]? = some Tryz.f117 := rfl
theorem fn_118 : env.P.funcs[118]? = some Tryz.f118 := rfl
theorem fn_119 : env.P.funcs[119]? = some Tryz.f119 := rfl
theorem fn_120 : env.P.funcs[120]? = some Tryz.f120 := rfl
theorem fn_121 : env.P.funcs[121]? = some Tryz.f121 := rfl
theorem fn_122 : env.P.funcs[122]? = some Tryz.f122 := rfl
theorem fn_123 : env.P.funcs[123]? = some Tryz.f123 := rfl
theorem fn_124 : env.P.funcs[124]? = some Tryz.f124 := rfl
theorem fn_126 : env.P.funcs[126]? = some Tryz.f126 := rfl
theorem fn_127 : env.P.funcs[127]? = some Tryz.f127 := rfl
theorem fn_128 : env.P.funcs[128]? = some Tryz.f128 := rfl
theorem fn_129 : env.P.funcs[129]? = some Tryz.f129 := rfl
theorem fn_130 : env.P.funcs[130]? = some Tryz.f130 := rfl
theorem fn_131 : env.P.funcs[131]? = some Tryz.f131 := rfl
theorem fn_132 : env.P.funcs[132]? = some Tryz.f132 := rfl
theorem fn_133 : env.P.funcs[133]? = some Tryz.f133 := rfl
theorem fn_134 : env.P.funcs[134]? = some Tryz.f134 := rfl
theorem fn_135 : env.P.funcs[135]? = some Tryz.f135 := rfl
theorem fn_136 : env.P.funcs[136]? = some Tryz.f136 := rfl
theorem fn_137 : env.P.funcs[137]? = some Tryz.f137 := rfl
theorem fn_138 : env.P.funcs[138]? = some Tryz.f138 := rfl
theorem fn_139 : env.P.funcs[139]? = some Tryz.f139 := rfl
theorem fn_140 : env.P.funcs[140]? = some Tryz.f140 := rfl
theorem fn_141 : env.P.funcs[141]? = some Tryz.f141 := rfl
theorem fn_142 : env.P.funcs[142]? = some Tryz.f142 := rfl
theorem fn_143 : env.P.funcs[143]? = some Tryz.f143 := rfl
theorem fn_144 : env.P.funcs[144]? = some Tryz.f144 := rfl
theorem fn_145 : env.P.funcs[145]? = some Tryz.f145 := rfl
theorem fn_147 : env.P.funcs[147]? = some Tryz.f147 := rfl
theorem fn_148 : env.P.funcs[148]? = some Tryz.f148 := rfl
theorem fn_149 : env.P.funcs[149]? = some Tryz.f149 := rfl
theorem fn_150 : env.P.funcs[150]? = some Tryz.f150 := rfl
theorem fn_151 : env.P.funcs[151]? = some Tryz.f151 := rfl
theorem fn_153 : env.P.funcs[153]? = some Tryz.f153 := rfl
theorem fn_177 : env.P.funcs[177]? = some Tryz.f177 := rfl
attribute [go_sem] e_key141 e_ty1 e_ty2 e_ty3 e_ty4 e_ty5 e_ty6 e_ty7 e_ty8 e_ty9 e_ty10 e_ty11 e_ty12 e_ty13 e_ty14 e_ty21 e_ty22 e_ty23 e_ty24 e_ty25 e_ty26 e_ty27 e_ty28 e_ty29 e_ty30 e_ty31 e_ty32 e_ty33 e_ty34 e_ty35 e_ty36 e_ty37 e_ty38 e_ty39 e_ty40 e_ty41 e_ty42 e_ty43 e_ty44 e_ty46 e_ty47 e_ty48 e_ty49 e_ty50 e_ty51 e_ty52 e_ty53 e_ty54 e_ty55 e_ty56 e_ty58 e_ty59 e_ty60 e_ty61 e_ty62 e_ty63 e_ty64 e_ty65 e_ty66 e_ty67 e_ty68 e_ty69 e_ty70 e_ty71 e_ty72 e_ty73 e_ty74 e_ty78 e_ty79 e_ty80 e_ty82 e_ty83 e_ty84 e_ty85 e_ty86 e_ty87 e_ty88 e_ty89 e_ty90 e_ty91 e_ty92 e_ty93 e_ty94 e_ty95 e_ty96 e_ty98 e_ty99 e_ty100 e_ty101 e_ty102 e_ty103 e_ty104 e_ty105 e_ty106 e_ty107 e_ty108 e_ty109 e_ty110 e_ty111 e_ty112 e_ty113 e_ty114 e_ty115 e_ty116 e_ty119 e_ty120 e_ty121 e_ty122 e_ty123 e_ty125 e_ty127 e_ty130 e_ty131 e_ty132 e_ty133 e_ty134 e_ty135 e_ty137 e_ty138 e_ty139 e_ty140 e_ty141 e_ty142 e_ty143 e_ty144 e_ty146 e_ty147 e_ty148 e_ty149 e_ty150 e_ty152 e_ty153 e_ty154 e_ty155 e_ty156 e_ty157 e_ty158 e_ty159 e_ty160 e_ty161 e_ty162 e_ty164 e_ty165 e_ty166 e_ty167 e_ty168 e_ty169 e_ty171 e_ty173 e_ty174 e_ty175 e_ty176 e_ty177 e_ty178 e_ty180 e_ty181 e_ty182 e_ty183 e_ty184 e_ty185 e_ty188 e_ty189 e_ty192 e_ty194 e_ty202 e_ty203 e_ty204 e_ty205 e_ty206 e_ty207 e_str7 e_str8 e_str13 e_str14 e_str28 e_str29 e_str33 e_str34 e_str36 e_str37 e_str43 e_str44 e_str47 e_str48 e_str53 e_str54 e_str72 e_str73 e_str105 e_str106 e_str112 e_str113 e_str161 e_str162 e_str23 e_str27 e_str52 e_str59 e_str86 e_str95 e_str138 e_cmp7 e_cmp8 e_cmp23 e_cmp27 e_cmp36 e_cmp37 e_cmp43 e_cmp44 e_cmp47 e_cmp48 e_cmp52 e_cmp53 e_cmp54 e_cmp59 e_cmp86 e_cmp112 e_cmp113 e_fn2 e_fn3 e_fn4 e_fn5 e_fn6 e_fn7 e_fn8 e_fn9 e_fn10 e_fn11 e_fn12 e_fn13 e_fn14 e_fn15 e_fn16 e_fn17 e_fn18 e_fn19 e_fn20 e_fn21 e_fn22 e_fn23 e_fn24 e_fn25 e_fn26 e_fn27 e_fn28 e_fn29 e_fn33 e_fn34 e_fn35 e_fn36 e_fn37 e_fn38 e_fn39 e_fn40 e_fn41 e_fn44 e_fn45 e_fn46 e_fn47 e_fn48 e_fn49 e_fn50 e_fn54 e_fn55 e_fn56 e_fn57 e_fn59 e_fn60 e_fn61 e_fn62 e_fn63 e_fn64 e_fn66 e_fn73 e_fn74 e_fn75 e_fn77 e_fn78 e_fn81 e_fn87 e_fn91 e_fn92 e_fn93 e_fn94 e_fn95 e_fn96 e_fn97 e_fn106 e_fn107 e_fn108 e_fn109 e_fn111 e_fn112 e_fn113 e_fn114 e_fn115 e_fn116 e_fn117 e_fn118 e_fn119 e_fn120 e_fn126 e_fn127 e_fn128 e_fn129 e_fn130 e_fn131 e_fn133 e_fn139 e_fn140 e_fn141 e_fn142 e_fn143 e_fn144 e_fn145 e_fn147 e_fn148 e_fn150 e_fn151 e_fn153 e_fn177 e_fn42 e_fn43 e_fn53 e_fn80 e_fn82 e_fn83 e_fn84 e_fn88 e_fn89 e_fn121 e_fn123 e_fn137 e_fn138 e_fn30 e_hfn30 e_fn31 e_hfn31 e_fn32 e_hfn32 e_fn51 e_hfn51 e_fn52 e_hfn52 e_fn58 e_hfn58 e_fn65 e_hfn65 e_fn67 e_hfn67 e_fn68 e_hfn68 e_fn69 e_hfn69 e_fn70 e_hfn70 e_fn71 e_hfn71 e_fn76 e_hfn76 e_fn85 e_hfn85 e_fn86 e_hfn86 e_fn90 e_hfn90 e_fn98 e_hfn98 e_fn110 e_hfn110 e_fn122 e_hfn122 e_fn124 e_hfn124 e_con0 e_px0 e_emp0 e_fl0 e_stp0 e_nd0 e_ro0 e_tm0 e_bx0 e_el0
end Go.Proofs.YtmjnkaabooockaaGreatDoor
namespace Go.Proofs.YtmjnkaabooockaaGreatDoor
set_option maxHeartbeats 4000000
set_option maxRecDepth 100000

theorem i64_ok {x : Int} (h : -9223372036854775808 ≤ x) (h' : x ≤ 9223372036854775807) : IntKind.i64.min ≤ x ∧ x ≤ IntKind.i64.max := ⟨h, h'⟩
theorem i64_of {x : Int} (h : IntKind.i64.min ≤ x ∧ x ≤ IntKind.i64.max) : -9223372036854775808 ≤ x ∧ x ≤ 9223372036854775807 := h
theorem u8_of {x : Int} (h : IntKind.u8.min ≤ x ∧ x ≤ IntKind.u8.max) : 0 ≤ x ∧ x ≤ 255 := h
theorem drop_cons {α : Type} {xs : List α} {i : Nat} {x : α} (h : xs[i]? = some x) : xs.drop i = x :: xs.drop (i + 1) := by
  obtain ⟨hi, e⟩ := List.getElem?_eq_some_iff.1 h
  rw [List.drop_eq_getElem_cons hi, e]
theorem take_snoc {α : Type} {xs : List α} {i : Nat} {x : α} (h : xs[i]? = some x) : xs.take (i + 1) = xs.take i ++ [x] := by
  rw [List.take_add_one, h]; rfl
theorem get_of_lt {α : Type} {xs : List α} {i : Nat} (h : i < xs.length) : ∃ x, xs[i]? = some x := ⟨_, List.getElem?_eq_getElem h⟩

theorem c_isNaN (a : Int) : PC env 78 [⟨.int .i64, a⟩] .bool false := by
  refine PC.of_PW (m := 2000) env_ok fn_78 rfl rfl rfl rfl (by kernel_rfl) ?_; intro hx; simp only [Tryz.f78]; simp only [go_sem, Nat.reduceBEq, ↓reduceIte, ↓reduceDIte, Nat.reduceAdd, Nat.reduceSub, Nat.reduceMul, Nat.reduceLeDiff, ← Bool.decide_and, ← Bool.decide_or, ← decide_not, Int.reduceLT, Int.reduceLE, Int.reduceToNat, Int.reduceNeg]
def cmpI (a b : Int) : Int := if a < b then -1 else if b < a then 1 else 0
theorem c_Compare (a b : Int) : PC env 55 [⟨.int .i64, a⟩, ⟨.int .i64, b⟩] (.int .i64) (cmpI a b) := by
  refine PC.of_PW (m := 2000) env_ok fn_55 rfl rfl rfl rfl (by kernel_rfl) ?_; intro hx; simp only [Tryz.f55]; simp only [go_sem, Nat.reduceBEq, ↓reduceIte, ↓reduceDIte, Nat.reduceAdd, Nat.reduceSub, Nat.reduceMul, Nat.reduceLeDiff, ← Bool.decide_and, ← Bool.decide_or, ← decide_not, Int.reduceLT, Int.reduceLE, Int.reduceToNat, Int.reduceNeg]
  refine ⟨_, c_isNaN a, ?_⟩
  simp only [go_sem, Nat.reduceBEq, ↓reduceIte, ↓reduceDIte, Nat.reduceAdd, Nat.reduceSub, Nat.reduceMul, Nat.reduceLeDiff, ← Bool.decide_and, ← Bool.decide_or, ← decide_not, Int.reduceLT, Int.reduceLE, Int.reduceToNat, Int.reduceNeg]
  refine ⟨_, c_isNaN b, ?_⟩
  simp only [go_sem, Nat.reduceBEq, ↓reduceIte, ↓reduceDIte, Nat.reduceAdd, Nat.reduceSub, Nat.reduceMul, Nat.reduceLeDiff, ← Bool.decide_and, ← Bool.decide_or, ← decide_not, Int.reduceLT, Int.reduceLE, Int.reduceToNat, Int.reduceNeg]
  unfold cmpI
  refine ⟨fun h => ?_, fun h => ⟨fun h' => ?_, fun h' => ?_⟩⟩
  · rw [if_pos h]
  · rw [if_neg h, if_pos h']
  · rw [if_neg h, if_neg h']
theorem c_Or (xs : List Int) : PC env 54 [⟨.sl (.int .i64), xs⟩] (.int .i64) ((xs.find? (· ≠ 0)).getD 0) := by
  refine PC.of_PW (m := 2000) env_ok fn_54 rfl rfl rfl rfl (by kernel_rfl) ?_; intro hx; simp only [Tryz.f54]; simp only [go_sem, Nat.reduceBEq, ↓reduceIte, ↓reduceDIte, Nat.reduceAdd, Nat.reduceSub, Nat.reduceMul, Nat.reduceLeDiff, ← Bool.decide_and, ← Bool.decide_or, ← decide_not, Int.reduceLT, Int.reduceLE, Int.reduceToNat, Int.reduceNeg]
  refine Walks.loopW (X := Nat) (fun i => ⟨[(8, .iv (.int .i64) (i : Int)), (7, .iv (.int .i64) (xs.length : Int)), (6, .iv (.sl (.int .i64)) xs), (3, .iv (.int .i64) (0 : Int))], []⟩)
    (fun i => i ≤ xs.length ∧ (xs.take i).find? (· ≠ 0) = none) (fun i => xs.length - i) 0 (by refine ⟨?_, ?_, rfl, rfl⟩ <;> repeat' (first | exact trivial | exact Or.inl rfl | exact Or.inr rfl | (refine And.intro (Or.inl rfl) ?_) | (refine And.intro (Or.inr (Or.inl rfl)) ?_) | (refine And.intro (Or.inr (Or.inr (Or.inr ⟨rfl, rfl⟩))) ?_) | (refine And.intro (Or.inr (Or.inr (Or.inl ⟨rfl, rfl, trivial⟩))) ?_) | exact ⟨(by show (_ : Nat) < 1000000000; omega), rfl, rfl⟩ | rfl | (refine And.intro (Or.inl ?_) ?_) | (refine And.intro ?_ ?_))) ⟨Nat.zero_le _, rfl⟩ ?_
  intro i ⟨hi, hb⟩ back
  refine PW_sound env_ok ⟨_, fn_54, rfl⟩ 2000 _ _ (by kernel_rfl) ?_; simp only [go_sem, Nat.reduceBEq, ↓reduceIte, ↓reduceDIte, Nat.reduceAdd, Nat.reduceSub, Nat.reduceMul, Nat.reduceLeDiff, ← Bool.decide_and, ← Bool.decide_or, ← decide_not, Int.reduceLT, Int.reduceLE, Int.reduceToNat, Int.reduceNeg]
  refine ⟨fun h => ?_, fun h => ?_⟩
  · obtain ⟨x, hxi⟩ : ∃ x, xs[i]? = some x := get_of_lt (by omega)
    refine ⟨by omega, x, hxi, fun h' => ?_, fun h' => ⟨?_, ?_⟩⟩
    · have : xs.find? (· ≠ 0) = some x := by
        rw [← List.take_append_drop i xs, List.find?_append, hb, drop_cons hxi]
        simp [h']
      rw [this]; rfl
    · simp only [oks, Ty.ok] at hx; exact i64_ok (by omega) (by omega)
    · refine back _ (i + 1) (by refine ⟨?_, ?_, rfl, rfl⟩ <;> repeat' (first | exact trivial | exact Or.inl rfl | exact Or.inr rfl | (refine And.intro (Or.inl rfl) ?_) | (refine And.intro (Or.inr (Or.inl rfl)) ?_) | (refine And.intro (Or.inr (Or.inr (Or.inr ⟨rfl, rfl⟩))) ?_) | (refine And.intro (Or.inr (Or.inr (Or.inl ⟨rfl, rfl, trivial⟩))) ?_) | exact ⟨(by show (_ : Nat) < 1000000000; omega), rfl, rfl⟩ | rfl | (refine And.intro (Or.inl ?_) ?_) | (refine And.intro ?_ ?_))) ⟨by omega, ?_⟩ (by omega)
      rw [List.take_add_one, List.find?_append, hb, hxi]
      simp [h']
  · have e : xs.take i = xs := List.take_of_length_le (by omega)
    rw [e] at hb
    rw [hb]; rfl
def cmpP (x y : Int × Int) : Int := if cmpI x.1 y.1 ≠ 0 then cmpI x.1 y.1 else cmpI x.2 y.2
theorem c_comp (x y : Int × Int) : PC env 57 [⟨PlaceT, x⟩, ⟨PlaceT, y⟩] (.int .i64) (cmpP x y) := by
  refine PC.of_PW (m := 2000) env_ok fn_57 rfl rfl rfl rfl (by kernel_rfl) ?_; intro hx; simp only [Tryz.f57]; simp only [go_sem, Nat.reduceBEq, ↓reduceIte, ↓reduceDIte, Nat.reduceAdd, Nat.reduceSub, Nat.reduceMul, Nat.reduceLeDiff, ← Bool.decide_and, ← Bool.decide_or, ← decide_not, Int.reduceLT, Int.reduceLE, Int.reduceToNat, Int.reduceNeg]
  refine ⟨_, c_Compare _ _, fun _ => ⟨_, c_Compare _ _, fun _ => ⟨_, c_Or _, fun _ => ?_⟩⟩⟩
  unfold cmpP
  by_cases h : cmpI x.1 y.1 = 0 <;> by_cases h' : cmpI x.2 y.2 = 0 <;> simp [h, h']
abbrev Rec := Int × Int × Int × List UInt8 × Int × Int
abbrev Ord' := Int × Int × Int × Int × List UInt8 × Int × Int
abbrev L8 := Int × Int × Int × Int × Int × Int × Int × Int
abbrev Usr := List Rec × List Ord' × L8
theorem c_ofR (r : Rec) : PC env 56 [⟨RecordT, r⟩] PlaceT (r.1, r.2.1) := by
  refine PC.of_PW (m := 2000) env_ok fn_56 rfl rfl rfl rfl (by kernel_rfl) ?_; intro hx; simp only [Tryz.f56]; simp only [go_sem, Nat.reduceBEq, ↓reduceIte, ↓reduceDIte, Nat.reduceAdd, Nat.reduceSub, Nat.reduceMul, Nat.reduceLeDiff, ← Bool.decide_and, ← Bool.decide_or, ← decide_not, Int.reduceLT, Int.reduceLE, Int.reduceToNat, Int.reduceNeg]
theorem c_ofO (o : Ord') : PC env 139 [⟨OrderT, o⟩] PlaceT (o.1, o.2.1) := by
  refine PC.of_PW (m := 2000) env_ok fn_139 rfl rfl rfl rfl (by kernel_rfl) ?_; intro hx; simp only [Tryz.f139]; simp only [go_sem, Nat.reduceBEq, ↓reduceIte, ↓reduceDIte, Nat.reduceAdd, Nat.reduceSub, Nat.reduceMul, Nat.reduceLeDiff, ← Bool.decide_and, ← Bool.decide_or, ← decide_not, Int.reduceLT, Int.reduceLE, Int.reduceToNat, Int.reduceNeg]
theorem c_within (v a b : Int) : PC env 109 [⟨.int .i64, v⟩, ⟨.int .i64, a⟩, ⟨.int .i64, b⟩] .bool (decide (a ≤ v ∧ v ≤ b)) := by
  refine PC.of_PW (m := 2000) env_ok fn_109 rfl rfl rfl rfl (by kernel_rfl) ?_; intro hx; simp only [Tryz.f109]; simp only [go_sem, Nat.reduceBEq, ↓reduceIte, ↓reduceDIte, Nat.reduceAdd, Nat.reduceSub, Nat.reduceMul, Nat.reduceLeDiff, ← Bool.decide_and, ← Bool.decide_or, ← decide_not, Int.reduceLT, Int.reduceLE, Int.reduceToNat, Int.reduceNeg]
  refine ⟨fun h => ?_, fun h => ?_⟩
  · congr 1; simp [h]
  · symm; simp; omega
theorem c_in (v a b : Int) : PC env 34 [⟨.int .i64, v⟩, ⟨.int .i64, a⟩, ⟨.int .i64, b⟩] .bool (decide (a ≤ v ∧ v ≤ b)) := by
  refine PC.of_PW (m := 2000) env_ok fn_34 rfl rfl rfl rfl (by kernel_rfl) ?_; intro hx; simp only [Tryz.f34]; simp only [go_sem, Nat.reduceBEq, ↓reduceIte, ↓reduceDIte, Nat.reduceAdd, Nat.reduceSub, Nat.reduceMul, Nat.reduceLeDiff, ← Bool.decide_and, ← Bool.decide_or, ← decide_not, Int.reduceLT, Int.reduceLE, Int.reduceToNat, Int.reduceNeg]
  refine ⟨fun h => ?_, fun h => ?_⟩
  · congr 1; simp; omega
  · symm; simp; omega
theorem c_In (v a b : Int) : PC env 92 [⟨.int .i64, v⟩, ⟨.int .i64, a⟩, ⟨.int .i64, b⟩] .bool (decide (a ≤ v ∧ v ≤ b)) := by
  refine PC.of_PW (m := 2000) env_ok fn_92 rfl rfl rfl rfl (by kernel_rfl) ?_; intro hx; simp only [Tryz.f92]; simp only [go_sem, Nat.reduceBEq, ↓reduceIte, ↓reduceDIte, Nat.reduceAdd, Nat.reduceSub, Nat.reduceMul, Nat.reduceLeDiff, ← Bool.decide_and, ← Bool.decide_or, ← decide_not, Int.reduceLT, Int.reduceLE, Int.reduceToNat, Int.reduceNeg]
  refine ⟨fun h => ?_, fun h => ?_⟩
  · congr 1; simp; omega
  · symm; simp; omega
theorem c_made (p : Int × Int) (e : Int) : PC env 108 [⟨PlaceT, p⟩, ⟨.int .i64, e⟩] .bool (decide ((0 ≤ p.1 ∧ p.1 ≤ 7) ∧ (1 ≤ p.2 ∧ p.2 ≤ 1000000) ∧ (0 ≤ e ∧ e ≤ 10000))) := by
  refine PC.of_PW (m := 2000) env_ok fn_108 rfl rfl rfl rfl (by kernel_rfl) ?_; intro hx; simp only [Tryz.f108]; simp only [go_sem, Nat.reduceBEq, ↓reduceIte, ↓reduceDIte, Nat.reduceAdd, Nat.reduceSub, Nat.reduceMul, Nat.reduceLeDiff, ← Bool.decide_and, ← Bool.decide_or, ← decide_not, Int.reduceLT, Int.reduceLE, Int.reduceToNat, Int.reduceNeg]
  repeat' (first | (with_reducible intro _) | (with_reducible apply And.intro) | (with_reducible refine ⟨_, c_within _ _ _, ?_⟩; try simp only [go_sem, Nat.reduceBEq, ↓reduceIte, ↓reduceDIte, Nat.reduceAdd, Nat.reduceSub, Nat.reduceMul, Nat.reduceLeDiff, ← Bool.decide_and, ← Bool.decide_or, ← decide_not, Int.reduceLT, Int.reduceLE, Int.reduceToNat, Int.reduceNeg]) | fail)
  all_goals first | (symm; simp; omega) | exact ⟨_, c_within _ _ _, by simp_all⟩ | (simp_all; done) | (clear hx; simp_all; omega) | trace_state
end Go.Proofs.YtmjnkaabooockaaGreatDoor
namespace Go.Proofs.YtmjnkaabooockaaGreatDoor
set_option maxHeartbeats 4000000
set_option maxRecDepth 100000

def classD (c : Int) : Int := if 97 ≤ c ∧ c ≤ 122 then 1 else if 65 ≤ c ∧ c ≤ 90 then 2 else if 48 ≤ c ∧ c ≤ 57 then 3 else 0
theorem c_class (c : Int) : PC env 144 [⟨.int .u8, c⟩] (.int .i64) (classD c) := by
  refine PC.of_PW (m := 2000) env_ok fn_144 rfl rfl rfl rfl (by kernel_rfl) ?_; intro hx; simp only [Tryz.f144]; simp only [go_sem, Nat.reduceBEq, ↓reduceIte, ↓reduceDIte, Nat.reduceAdd, Nat.reduceSub, Nat.reduceMul, Nat.reduceLeDiff, ← Bool.decide_and, ← Bool.decide_or, ← decide_not, Int.reduceLT, Int.reduceLE, Int.reduceToNat, Int.reduceNeg]
  unfold classD
  repeat' (first | (with_reducible intro _) | (with_reducible apply And.intro))
  all_goals (repeat' split) <;> first | rfl | omega
def okU (u : UInt8) : Bool := decide (classD u.toNat ≠ 0)
theorem all_step {α : Type} {xs : List α} {i : Nat} {x : α} {p : α → Bool} (h : xs[i]? = some x) : (xs.take (i + 1)).all p = ((xs.take i).all p && p x) := by
  rw [take_snoc h, List.all_append]
  simp
theorem all_no {α : Type} {xs : List α} {i : Nat} {x : α} {p : α → Bool} (h : xs[i]? = some x) (hp : p x = false) : xs.all p = false := by
  rw [List.all_eq_false]
  exact ⟨x, List.mem_of_getElem? h, by simp [hp]⟩
theorem c_known (s : List UInt8) : PC env 130 [⟨.str, s⟩] .bool (s.all okU) := by
  refine PC.of_PW (m := 2000) env_ok fn_130 rfl rfl rfl rfl (by kernel_rfl) ?_; intro hx; simp only [Tryz.f130]; simp only [go_sem, Nat.reduceBEq, ↓reduceIte, ↓reduceDIte, Nat.reduceAdd, Nat.reduceSub, Nat.reduceMul, Nat.reduceLeDiff, ← Bool.decide_and, ← Bool.decide_or, ← decide_not, Int.reduceLT, Int.reduceLE, Int.reduceToNat, Int.reduceNeg]
  refine Walks.loopW (X := Nat) (fun i => ⟨[(6, .iv (.int .i64) (i : Int)), (5, .iv (.int .i64) (s.length : Int)), (0, .iv .str s)], []⟩)
    (fun i => i ≤ s.length ∧ (s.take i).all okU = true) (fun i => s.length - i) 0 (by refine ⟨?_, ?_, rfl, rfl⟩ <;> repeat' (first | exact trivial | exact Or.inl rfl | exact Or.inr rfl | (refine And.intro (Or.inl rfl) ?_) | (refine And.intro (Or.inr (Or.inl rfl)) ?_) | (refine And.intro (Or.inr (Or.inr (Or.inr ⟨rfl, rfl⟩))) ?_) | (refine And.intro (Or.inr (Or.inr (Or.inl ⟨rfl, rfl, trivial⟩))) ?_) | exact ⟨(by show (_ : Nat) < 1000000000; omega), rfl, rfl⟩ | rfl | (refine And.intro (Or.inl ?_) ?_) | (refine And.intro ?_ ?_))) ⟨Nat.zero_le _, rfl⟩ ?_
  intro i ⟨hi, hb⟩ back
  refine PW_sound env_ok ⟨_, fn_130, rfl⟩ 2000 _ _ (by kernel_rfl) ?_; simp only [go_sem, Nat.reduceBEq, ↓reduceIte, ↓reduceDIte, Nat.reduceAdd, Nat.reduceSub, Nat.reduceMul, Nat.reduceLeDiff, ← Bool.decide_and, ← Bool.decide_or, ← decide_not, Int.reduceLT, Int.reduceLE, Int.reduceToNat, Int.reduceNeg]
  refine ⟨fun h => ?_, fun h => ?_⟩
  · obtain ⟨x, hxi⟩ : ∃ x, s[i]? = some x := get_of_lt (by omega)
    have hlen : s.length ≤ 9223372036854775807 := hx.1
    refine ⟨Int.natCast_nonneg i, _, ⟨x, hxi, rfl⟩, _, c_class _, fun _ => ⟨fun h' => ?_, fun h' => ⟨?_, ?_⟩⟩⟩
    · exact (all_no (p := okU) hxi (by simp [okU, h'])).symm
    · exact i64_ok (by omega) (by omega)
    · refine back _ (i + 1) (by refine ⟨?_, ?_, rfl, rfl⟩ <;> repeat' (first | exact trivial | exact Or.inl rfl | exact Or.inr rfl | (refine And.intro (Or.inl rfl) ?_) | (refine And.intro (Or.inr (Or.inl rfl)) ?_) | (refine And.intro (Or.inr (Or.inr (Or.inr ⟨rfl, rfl⟩))) ?_) | (refine And.intro (Or.inr (Or.inr (Or.inl ⟨rfl, rfl, trivial⟩))) ?_) | exact ⟨(by show (_ : Nat) < 1000000000; omega), rfl, rfl⟩ | rfl | (refine And.intro (Or.inl ?_) ?_) | (refine And.intro ?_ ?_))) ⟨by omega, ?_⟩ (by omega)
      rw [all_step hxi, hb]
      simp [okU, h']
  · have e : s.take i = s := List.take_of_length_le (by omega)
    rw [e] at hb
    rw [hb]
def wordB (s : List UInt8) : Bool := decide (1 ≤ s.length ∧ s.length ≤ 20) && s.all okU
theorem c_Word (s : List UInt8) : PC env 96 [⟨.str, s⟩] .bool (wordB s) := by
  refine PC.of_PW (m := 2000) env_ok fn_96 rfl rfl rfl rfl (by kernel_rfl) ?_; intro hx; simp only [Tryz.f96]; simp only [go_sem, Nat.reduceBEq, ↓reduceIte, ↓reduceDIte, Nat.reduceAdd, Nat.reduceSub, Nat.reduceMul, Nat.reduceLeDiff, ← Bool.decide_and, ← Bool.decide_or, ← decide_not, Int.reduceLT, Int.reduceLE, Int.reduceToNat, Int.reduceNeg]
  unfold wordB
  repeat' (first | (with_reducible intro _) | (with_reducible apply And.intro) | (with_reducible refine ⟨_, c_known _, ?_⟩; try simp only [go_sem, Nat.reduceBEq, ↓reduceIte, ↓reduceDIte, Nat.reduceAdd, Nat.reduceSub, Nat.reduceMul, Nat.reduceLeDiff, ← Bool.decide_and, ← Bool.decide_or, ← decide_not, Int.reduceLT, Int.reduceLE, Int.reduceToNat, Int.reduceNeg]) | fail)
  all_goals first | exact ⟨_, c_known _, by simp_all; omega⟩ | (symm; simp; omega)
theorem plain_ok (u : UInt8) : okU u = true ↔ ¬ ((((u.toNat : Int) < 97 ∨ (122 : Int) < u.toNat) ∧ ((u.toNat : Int) < 65 ∨ (90 : Int) < u.toNat)) ∧ ((u.toNat : Int) < 48 ∨ (57 : Int) < u.toNat)) := by
  unfold okU classD
  rw [decide_eq_true_eq]
  repeat' split
  all_goals omega
theorem c_Plain (s : List UInt8) : PC env 93 [⟨.str, s⟩] .bool (s.all okU) := by
  refine PC.of_PW (m := 2000) env_ok fn_93 rfl rfl rfl rfl (by kernel_rfl) ?_; intro hx; simp only [Tryz.f93]; simp only [go_sem, Nat.reduceBEq, ↓reduceIte, ↓reduceDIte, Nat.reduceAdd, Nat.reduceSub, Nat.reduceMul, Nat.reduceLeDiff, ← Bool.decide_and, ← Bool.decide_or, ← decide_not, Int.reduceLT, Int.reduceLE, Int.reduceToNat, Int.reduceNeg]
  refine Walks.loopW (X := Nat) (fun i => ⟨[(3, .iv (.int .i64) (i : Int)), (0, .iv .str s)], []⟩)
    (fun i => i ≤ s.length ∧ (s.take i).all okU = true) (fun i => s.length - i) 0 (by refine ⟨?_, ?_, rfl, rfl⟩ <;> repeat' (first | exact trivial | exact Or.inl rfl | exact Or.inr rfl | (refine And.intro (Or.inl rfl) ?_) | (refine And.intro (Or.inr (Or.inl rfl)) ?_) | (refine And.intro (Or.inr (Or.inr (Or.inr ⟨rfl, rfl⟩))) ?_) | (refine And.intro (Or.inr (Or.inr (Or.inl ⟨rfl, rfl, trivial⟩))) ?_) | exact ⟨(by show (_ : Nat) < 1000000000; omega), rfl, rfl⟩ | rfl | (refine And.intro (Or.inl ?_) ?_) | (refine And.intro ?_ ?_))) ⟨Nat.zero_le _, rfl⟩ ?_
  intro i ⟨hi, hb⟩ back
  refine PW_sound env_ok ⟨_, fn_93, rfl⟩ 2000 _ _ (by kernel_rfl) ?_; simp only [go_sem, Nat.reduceBEq, ↓reduceIte, ↓reduceDIte, Nat.reduceAdd, Nat.reduceSub, Nat.reduceMul, Nat.reduceLeDiff, ← Bool.decide_and, ← Bool.decide_or, ← decide_not, Int.reduceLT, Int.reduceLE, Int.reduceToNat, Int.reduceNeg]
  have hlen : s.length ≤ 9223372036854775807 := hx.1
  refine ⟨fun h => ?_, fun h => ?_⟩
  · obtain ⟨x, hxi⟩ : ∃ x, s[i]? = some x := get_of_lt (by omega)
    have hps := plain_ok x
    refine ⟨Int.natCast_nonneg i, _, ⟨x, hxi, rfl⟩, ?_⟩
    cases hp : okU x with
    | false =>
      have hno : s.all okU = false := all_no (p := okU) hxi hp
      rw [hp] at hps
      simp only [Bool.false_eq_true, false_iff, Decidable.not_not] at hps
      repeat' (first | (with_reducible intro _) | (with_reducible apply And.intro)  | fail)
      all_goals first | exact hno.symm | (exfalso; omega)
    | true =>
      rw [hp] at hps
      simp only [true_iff] at hps
      repeat' (first | (with_reducible intro _) | (with_reducible apply And.intro)  | fail)
      all_goals first | omega | exact i64_ok (by omega) (by omega) | exact back _ (i + 1) (by refine ⟨?_, ?_, rfl, rfl⟩ <;> repeat' (first | exact trivial | exact Or.inl rfl | exact Or.inr rfl | (refine And.intro (Or.inl rfl) ?_) | (refine And.intro (Or.inr (Or.inl rfl)) ?_) | (refine And.intro (Or.inr (Or.inr (Or.inr ⟨rfl, rfl⟩))) ?_) | (refine And.intro (Or.inr (Or.inr (Or.inl ⟨rfl, rfl, trivial⟩))) ?_) | exact ⟨(by show (_ : Nat) < 1000000000; omega), rfl, rfl⟩ | rfl | (refine And.intro (Or.inl ?_) ?_) | (refine And.intro ?_ ?_))) ⟨by omega, by rw [all_step hxi, hb, hp]; rfl⟩ (by omega)
  · have e : s.take i = s := List.take_of_length_le (by omega)
    rw [e] at hb
    rw [hb]
theorem c_Word2 (s : List UInt8) : PC env 62 [⟨.str, s⟩] .bool (wordB s) := by
  refine PC.of_PW (m := 2000) env_ok fn_62 rfl rfl rfl rfl (by kernel_rfl) ?_; intro hx; simp only [Tryz.f62]; simp only [go_sem, Nat.reduceBEq, ↓reduceIte, ↓reduceDIte, Nat.reduceAdd, Nat.reduceSub, Nat.reduceMul, Nat.reduceLeDiff, ← Bool.decide_and, ← Bool.decide_or, ← decide_not, Int.reduceLT, Int.reduceLE, Int.reduceToNat, Int.reduceNeg]
  unfold wordB
  refine ⟨_, c_In _ _ _, ?_⟩
  simp only [go_sem, Nat.reduceBEq, ↓reduceIte, ↓reduceDIte, Nat.reduceAdd, Nat.reduceSub, Nat.reduceMul, Nat.reduceLeDiff, ← Bool.decide_and, ← Bool.decide_or, ← decide_not, Int.reduceLT, Int.reduceLE, Int.reduceToNat, Int.reduceNeg]
  repeat' (first | (with_reducible intro _) | (with_reducible apply And.intro) | (with_reducible refine ⟨_, c_Plain _, ?_⟩; try simp only [go_sem, Nat.reduceBEq, ↓reduceIte, ↓reduceDIte, Nat.reduceAdd, Nat.reduceSub, Nat.reduceMul, Nat.reduceLeDiff, ← Bool.decide_and, ← Bool.decide_or, ← decide_not, Int.reduceLT, Int.reduceLE, Int.reduceToNat, Int.reduceNeg]) | fail)
  all_goals first | exact ⟨_, c_Plain _, by simp_all; omega⟩ | (symm; simp; omega)
end Go.Proofs.YtmjnkaabooockaaGreatDoor
namespace Go.Proofs.YtmjnkaabooockaaGreatDoor
set_option maxHeartbeats 4000000
set_option maxRecDepth 100000

theorem by_nil : bytesOf ⟨#[]⟩ = [] := rfl
def formsD : List (Int × (Nat × Nat)) := [(1, (111, 112)), (2, (113, 114)), (3, (115, 116)), (4, (117, 118)), (5, (119, 120))]
theorem c_forms : PC env 83 [] (.mp (.int .i64) FormT) formsD := by
  refine PC.of_PW (m := 2000) env_ok fn_83 rfl rfl rfl rfl (by kernel_rfl) ?_; intro hx; simp only [Tryz.f83]; simp only [go_sem, Nat.reduceBEq, ↓reduceIte, ↓reduceDIte, Nat.reduceAdd, Nat.reduceSub, Nat.reduceMul, Nat.reduceLeDiff, ← Bool.decide_and, ← Bool.decide_or, ← decide_not, Int.reduceLT, Int.reduceLE, Int.reduceToNat, Int.reduceNeg, by_nil]
  simp [mset, eqB, formsD]
def rk1 (o : Ord') : Bool := decide ((wordB o.2.2.2.2.1 = true ∧ o.2.2.2.2.2.1 = 0) ∧ o.2.2.2.2.2.2 = 0)
theorem c_r1 (o : Ord') : PC env 111 [⟨OrderT, o⟩] .bool (rk1 o) := by
  refine PC.of_PW (m := 2000) env_ok fn_111 rfl rfl rfl rfl (by kernel_rfl) ?_; intro hx; simp only [Tryz.f111]; simp only [go_sem, Nat.reduceBEq, ↓reduceIte, ↓reduceDIte, Nat.reduceAdd, Nat.reduceSub, Nat.reduceMul, Nat.reduceLeDiff, ← Bool.decide_and, ← Bool.decide_or, ← decide_not, Int.reduceLT, Int.reduceLE, Int.reduceToNat, Int.reduceNeg, by_nil]
  unfold rk1
  refine ⟨_, c_Word _, ?_⟩
  cases h : wordB o.2.2.2.2.1
  · simp only [go_sem, Nat.reduceBEq, ↓reduceIte, ↓reduceDIte, Nat.reduceAdd, Nat.reduceSub, Nat.reduceMul, Nat.reduceLeDiff, ← Bool.decide_and, ← Bool.decide_or, ← decide_not, Int.reduceLT, Int.reduceLE, Int.reduceToNat, Int.reduceNeg, by_nil]
    simp [h]
  · simp only [go_sem, Nat.reduceBEq, ↓reduceIte, ↓reduceDIte, Nat.reduceAdd, Nat.reduceSub, Nat.reduceMul, Nat.reduceLeDiff, ← Bool.decide_and, ← Bool.decide_or, ← decide_not, Int.reduceLT, Int.reduceLE, Int.reduceToNat, Int.reduceNeg, by_nil]
    repeat' (first | (with_reducible intro _) | (with_reducible apply And.intro)  | fail)
    all_goals (clear hx; simp_all)
theorem c_m1 (o : Ord') (r : Rec) : PC env 112 [⟨OrderT, o⟩, ⟨RecordT, r⟩] .bool (decide (r.2.2.2.1 = o.2.2.2.2.1)) := by
  refine PC.of_PW (m := 2000) env_ok fn_112 rfl rfl rfl rfl (by kernel_rfl) ?_; intro hx; simp only [Tryz.f112]; simp only [go_sem, Nat.reduceBEq, ↓reduceIte, ↓reduceDIte, Nat.reduceAdd, Nat.reduceSub, Nat.reduceMul, Nat.reduceLeDiff, ← Bool.decide_and, ← Bool.decide_or, ← decide_not, Int.reduceLT, Int.reduceLE, Int.reduceToNat, Int.reduceNeg, by_nil]
def rk2 (o : Ord') : Bool := decide ((o.2.2.2.2.1 = [] ∧ (0 ≤ o.2.2.2.2.2.1 ∧ o.2.2.2.2.2.1 ≤ 7)) ∧ o.2.2.2.2.2.2 = 0)
theorem c_r2 (o : Ord') : PC env 113 [⟨OrderT, o⟩] .bool (rk2 o) := by
  refine PC.of_PW (m := 2000) env_ok fn_113 rfl rfl rfl rfl (by kernel_rfl) ?_; intro hx; simp only [Tryz.f113]; simp only [go_sem, Nat.reduceBEq, ↓reduceIte, ↓reduceDIte, Nat.reduceAdd, Nat.reduceSub, Nat.reduceMul, Nat.reduceLeDiff, ← Bool.decide_and, ← Bool.decide_or, ← decide_not, Int.reduceLT, Int.reduceLE, Int.reduceToNat, Int.reduceNeg, by_nil]
  unfold rk2
  repeat' (first | (with_reducible intro _) | (with_reducible apply And.intro) | (with_reducible refine ⟨_, c_within _ _ _, ?_⟩; try simp only [go_sem, Nat.reduceBEq, ↓reduceIte, ↓reduceDIte, Nat.reduceAdd, Nat.reduceSub, Nat.reduceMul, Nat.reduceLeDiff, ← Bool.decide_and, ← Bool.decide_or, ← decide_not, Int.reduceLT, Int.reduceLE, Int.reduceToNat, Int.reduceNeg, by_nil]) | fail)
  all_goals first | (symm; simp; omega) | (clear hx; simp_all; done) | exact ⟨_, c_within _ _ _, by clear hx; simp_all⟩
theorem c_m2 (o : Ord') (r : Rec) : PC env 114 [⟨OrderT, o⟩, ⟨RecordT, r⟩] .bool (decide (r.2.2.2.2.1 = o.2.2.2.2.2.1)) := by
  refine PC.of_PW (m := 2000) env_ok fn_114 rfl rfl rfl rfl (by kernel_rfl) ?_; intro hx; simp only [Tryz.f114]; simp only [go_sem, Nat.reduceBEq, ↓reduceIte, ↓reduceDIte, Nat.reduceAdd, Nat.reduceSub, Nat.reduceMul, Nat.reduceLeDiff, ← Bool.decide_and, ← Bool.decide_or, ← decide_not, Int.reduceLT, Int.reduceLE, Int.reduceToNat, Int.reduceNeg, by_nil]
theorem c_r3 (o : Ord') : PC env 115 [⟨OrderT, o⟩] .bool (rk2 o) := by
  refine PC.of_PW (m := 2000) env_ok fn_115 rfl rfl rfl rfl (by kernel_rfl) ?_; intro hx; simp only [Tryz.f115]; simp only [go_sem, Nat.reduceBEq, ↓reduceIte, ↓reduceDIte, Nat.reduceAdd, Nat.reduceSub, Nat.reduceMul, Nat.reduceLeDiff, ← Bool.decide_and, ← Bool.decide_or, ← decide_not, Int.reduceLT, Int.reduceLE, Int.reduceToNat, Int.reduceNeg, by_nil]
  unfold rk2
  repeat' (first | (with_reducible intro _) | (with_reducible apply And.intro) | (with_reducible refine ⟨_, c_within _ _ _, ?_⟩; try simp only [go_sem, Nat.reduceBEq, ↓reduceIte, ↓reduceDIte, Nat.reduceAdd, Nat.reduceSub, Nat.reduceMul, Nat.reduceLeDiff, ← Bool.decide_and, ← Bool.decide_or, ← decide_not, Int.reduceLT, Int.reduceLE, Int.reduceToNat, Int.reduceNeg, by_nil]) | fail)
  all_goals first | (symm; simp; omega) | (clear hx; simp_all; done) | exact ⟨_, c_within _ _ _, by clear hx; simp_all⟩
theorem c_m3 (o : Ord') (r : Rec) : PC env 116 [⟨OrderT, o⟩, ⟨RecordT, r⟩] .bool (decide (r.1 = o.2.2.2.2.2.1)) := by
  refine PC.of_PW (m := 2000) env_ok fn_116 rfl rfl rfl rfl (by kernel_rfl) ?_; intro hx; simp only [Tryz.f116]; simp only [go_sem, Nat.reduceBEq, ↓reduceIte, ↓reduceDIte, Nat.reduceAdd, Nat.reduceSub, Nat.reduceMul, Nat.reduceLeDiff, ← Bool.decide_and, ← Bool.decide_or, ← decide_not, Int.reduceLT, Int.reduceLE, Int.reduceToNat, Int.reduceNeg, by_nil]
def rk4 (o : Ord') : Bool := decide ((o.2.2.2.2.1 = [] ∧ (0 ≤ o.2.2.2.2.2.1 ∧ o.2.2.2.2.2.1 ≤ o.2.2.1)) ∧ o.2.2.2.2.2.2 = 0)
theorem c_r4 (o : Ord') : PC env 117 [⟨OrderT, o⟩] .bool (rk4 o) := by
  refine PC.of_PW (m := 2000) env_ok fn_117 rfl rfl rfl rfl (by kernel_rfl) ?_; intro hx; simp only [Tryz.f117]; simp only [go_sem, Nat.reduceBEq, ↓reduceIte, ↓reduceDIte, Nat.reduceAdd, Nat.reduceSub, Nat.reduceMul, Nat.reduceLeDiff, ← Bool.decide_and, ← Bool.decide_or, ← decide_not, Int.reduceLT, Int.reduceLE, Int.reduceToNat, Int.reduceNeg, by_nil]
  unfold rk4
  repeat' (first | (with_reducible intro _) | (with_reducible apply And.intro) | (with_reducible refine ⟨_, c_within _ _ _, ?_⟩; try simp only [go_sem, Nat.reduceBEq, ↓reduceIte, ↓reduceDIte, Nat.reduceAdd, Nat.reduceSub, Nat.reduceMul, Nat.reduceLeDiff, ← Bool.decide_and, ← Bool.decide_or, ← decide_not, Int.reduceLT, Int.reduceLE, Int.reduceToNat, Int.reduceNeg, by_nil]) | fail)
  all_goals first | (symm; simp; omega) | (clear hx; simp_all; done) | exact ⟨_, c_within _ _ _, by clear hx; simp_all⟩
theorem c_m4 (o : Ord') (r : Rec) : PC env 118 [⟨OrderT, o⟩, ⟨RecordT, r⟩] .bool (decide (o.2.2.2.2.2.1 ≤ r.2.2.1)) := by
  refine PC.of_PW (m := 2000) env_ok fn_118 rfl rfl rfl rfl (by kernel_rfl) ?_; intro hx; simp only [Tryz.f118]; simp only [go_sem, Nat.reduceBEq, ↓reduceIte, ↓reduceDIte, Nat.reduceAdd, Nat.reduceSub, Nat.reduceMul, Nat.reduceLeDiff, ← Bool.decide_and, ← Bool.decide_or, ← decide_not, Int.reduceLT, Int.reduceLE, Int.reduceToNat, Int.reduceNeg, by_nil]
def rk5 (o : Ord') : Bool := decide ((o.2.2.2.2.1 = [] ∧ (1 ≤ o.2.2.2.2.2.1 ∧ o.2.2.2.2.2.1 ≤ 1000000)) ∧ (0 ≤ o.2.2.2.2.2.2 ∧ o.2.2.2.2.2.2 ≤ 7))
theorem c_r5 (o : Ord') : PC env 119 [⟨OrderT, o⟩] .bool (rk5 o) := by
  refine PC.of_PW (m := 2000) env_ok fn_119 rfl rfl rfl rfl (by kernel_rfl) ?_; intro hx; simp only [Tryz.f119]; simp only [go_sem, Nat.reduceBEq, ↓reduceIte, ↓reduceDIte, Nat.reduceAdd, Nat.reduceSub, Nat.reduceMul, Nat.reduceLeDiff, ← Bool.decide_and, ← Bool.decide_or, ← decide_not, Int.reduceLT, Int.reduceLE, Int.reduceToNat, Int.reduceNeg, by_nil]
  unfold rk5
  repeat' (first | (with_reducible intro _) | (with_reducible apply And.intro) | (with_reducible refine ⟨_, c_within _ _ _, ?_⟩; try simp only [go_sem, Nat.reduceBEq, ↓reduceIte, ↓reduceDIte, Nat.reduceAdd, Nat.reduceSub, Nat.reduceMul, Nat.reduceLeDiff, ← Bool.decide_and, ← Bool.decide_or, ← decide_not, Int.reduceLT, Int.reduceLE, Int.reduceToNat, Int.reduceNeg, by_nil]) | fail)
  all_goals first | (symm; simp; omega) | (clear hx; simp_all; done) | exact ⟨_, c_within _ _ _, by clear hx; simp_all⟩
theorem c_m5 (o : Ord') (r : Rec) : PC env 120 [⟨OrderT, o⟩, ⟨RecordT, r⟩] .bool (decide (r.1 = o.2.2.2.2.2.2 ∧ r.2.1 = o.2.2.2.2.2.1)) := by
  refine PC.of_PW (m := 2000) env_ok fn_120 rfl rfl rfl rfl (by kernel_rfl) ?_; intro hx; simp only [Tryz.f120]; simp only [go_sem, Nat.reduceBEq, ↓reduceIte, ↓reduceDIte, Nat.reduceAdd, Nat.reduceSub, Nat.reduceMul, Nat.reduceLeDiff, ← Bool.decide_and, ← Bool.decide_or, ← decide_not, Int.reduceLT, Int.reduceLE, Int.reduceToNat, Int.reduceNeg, by_nil]
  repeat' (first | (with_reducible intro _) | (with_reducible apply And.intro)  | fail)
  all_goals (clear hx; simp_all)
def rk (o : Ord') : Bool := if o.2.2.2.1 = 1 then rk1 o else if o.2.2.2.1 = 2 then rk2 o else if o.2.2.2.1 = 3 then rk2 o else if o.2.2.2.1 = 4 then rk4 o else if o.2.2.2.1 = 5 then rk5 o else false
def meansK (o : Ord') (r : Rec) : Bool := if o.2.2.2.1 = 1 then decide (r.2.2.2.1 = o.2.2.2.2.1) else if o.2.2.2.1 = 2 then decide (r.2.2.2.2.1 = o.2.2.2.2.2.1) else if o.2.2.2.1 = 3 then decide (r.1 = o.2.2.2.2.2.1)
  else if o.2.2.2.1 = 4 then decide (o.2.2.2.2.2.1 ≤ r.2.2.1) else if o.2.2.2.1 = 5 then decide (r.1 = o.2.2.2.2.2.2 ∧ r.2.1 = o.2.2.2.2.2.1) else false
def rightO (o : Ord') : Bool := decide ((0 ≤ o.1 ∧ o.1 ≤ 7) ∧ (1 ≤ o.2.1 ∧ o.2.1 ≤ 1000000) ∧ (0 ≤ o.2.2.1 ∧ o.2.2.1 ≤ 10000)) && rk o
def rightR (r : Rec) : Bool := decide ((0 ≤ r.1 ∧ r.1 ≤ 7) ∧ (1 ≤ r.2.1 ∧ r.2.1 ≤ 1000000) ∧ (0 ≤ r.2.2.1 ∧ r.2.2.1 ≤ 10000)) && (wordB r.2.2.2.1 && decide ((0 ≤ r.2.2.2.2.1 ∧ r.2.2.2.2.1 ≤ 7) ∧ (1 ≤ r.2.2.2.2.2 ∧ r.2.2.2.2.2 ≤ 1000)))
def meantB (o : Ord') (r : Rec) : Bool := decide (r.2.2.1 ≤ o.2.2.1) && meansK o r
theorem forms_at {k : Int} {v : Nat × Nat} (h : mfind (eqB (.int .i64)) formsD k = some v) : (k = 1 ∧ v = (111, 112)) ∨ (k = 2 ∧ v = (113, 114)) ∨ (k = 3 ∧ v = (115, 116)) ∨ (k = 4 ∧ v = (117, 118)) ∨ (k = 5 ∧ v = (119, 120)) := by
  unfold formsD at h
  simp only [mfind, eqB, cond_eq_ite, decide_eq_true_eq] at h
  repeat' split at h
  all_goals first | (cases h; done) | (injection h with h; subst h; simp_all)
theorem forms_no {k : Int} (h : mfind (eqB (.int .i64)) formsD k = none) : k ≠ 1 ∧ k ≠ 2 ∧ k ≠ 3 ∧ k ≠ 4 ∧ k ≠ 5 := by
  unfold formsD at h
  simp only [mfind, eqB, cond_eq_ite, decide_eq_true_eq] at h
  repeat' split at h
  all_goals first | (cases h; done) | simp_all
theorem c_rightO (o : Ord') : PC env 123 [⟨.mp (.int .i64) FormT, formsD⟩, ⟨OrderT, o⟩] .bool (rightO o) := by
  refine PC.of_PW (m := 2000) env_ok fn_123 rfl rfl rfl rfl (by kernel_rfl) ?_; intro hx; simp only [Tryz.f123]; simp only [go_sem, Nat.reduceBEq, ↓reduceIte, ↓reduceDIte, Nat.reduceAdd, Nat.reduceSub, Nat.reduceMul, Nat.reduceLeDiff, ← Bool.decide_and, ← Bool.decide_or, ← decide_not, Int.reduceLT, Int.reduceLE, Int.reduceToNat, Int.reduceNeg, by_nil]
  refine ⟨_, c_ofO o, fun _ => ⟨_, c_made _ _, ?_⟩⟩
  simp only [go_sem, Nat.reduceBEq, ↓reduceIte, ↓reduceDIte, Nat.reduceAdd, Nat.reduceSub, Nat.reduceMul, Nat.reduceLeDiff, ← Bool.decide_and, ← Bool.decide_or, ← decide_not, Int.reduceLT, Int.reduceLE, Int.reduceToNat, Int.reduceNeg, by_nil]
  refine ⟨fun h => ?_, fun h => ⟨fun v hv => ?_, fun hn => ?_⟩⟩
  · simp [rightO, h]
  · rcases forms_at hv with ⟨k, rfl⟩ | ⟨k, rfl⟩ | ⟨k, rfl⟩ | ⟨k, rfl⟩ | ⟨k, rfl⟩ <;> simp only [go_sem, Nat.reduceBEq, ↓reduceIte, ↓reduceDIte, Nat.reduceAdd, Nat.reduceSub, Nat.reduceMul, Nat.reduceLeDiff, ← Bool.decide_and, ← Bool.decide_or, ← decide_not, Int.reduceLT, Int.reduceLE, Int.reduceToNat, Int.reduceNeg, by_nil]
    · exact ⟨_, c_r1 o, by simp [rightO, rk, k, h]⟩
    · exact ⟨_, c_r2 o, by simp [rightO, rk, k, h]⟩
    · exact ⟨_, c_r3 o, by simp [rightO, rk, k, h]⟩
    · exact ⟨_, c_r4 o, by simp [rightO, rk, k, h]⟩
    · exact ⟨_, c_r5 o, by simp [rightO, rk, k, h]⟩
  · have := forms_no hn
    simp [rightO, rk, this]
theorem c_rightR (r : Rec) : PC env 81 [⟨RecordT, r⟩] .bool (rightR r) := by
  refine PC.of_PW (m := 2000) env_ok fn_81 rfl rfl rfl rfl (by kernel_rfl) ?_; intro hx; simp only [Tryz.f81]; simp only [go_sem, Nat.reduceBEq, ↓reduceIte, ↓reduceDIte, Nat.reduceAdd, Nat.reduceSub, Nat.reduceMul, Nat.reduceLeDiff, ← Bool.decide_and, ← Bool.decide_or, ← decide_not, Int.reduceLT, Int.reduceLE, Int.reduceToNat, Int.reduceNeg, by_nil]
  refine ⟨_, c_ofR r, fun _ => ⟨_, c_made _ _, ?_⟩⟩
  simp only [go_sem, Nat.reduceBEq, ↓reduceIte, ↓reduceDIte, Nat.reduceAdd, Nat.reduceSub, Nat.reduceMul, Nat.reduceLeDiff, ← Bool.decide_and, ← Bool.decide_or, ← decide_not, Int.reduceLT, Int.reduceLE, Int.reduceToNat, Int.reduceNeg, by_nil]
  unfold rightR
  refine ⟨fun h => ⟨_, c_Word _, ?_⟩, fun h => ?_⟩
  · cases hw : wordB r.2.2.2.1
    · simp only [go_sem, Nat.reduceBEq, ↓reduceIte, ↓reduceDIte, Nat.reduceAdd, Nat.reduceSub, Nat.reduceMul, Nat.reduceLeDiff, ← Bool.decide_and, ← Bool.decide_or, ← decide_not, Int.reduceLT, Int.reduceLE, Int.reduceToNat, Int.reduceNeg, by_nil]
      try simp [hw]
    · simp only [go_sem, Nat.reduceBEq, ↓reduceIte, ↓reduceDIte, Nat.reduceAdd, Nat.reduceSub, Nat.reduceMul, Nat.reduceLeDiff, ← Bool.decide_and, ← Bool.decide_or, ← decide_not, Int.reduceLT, Int.reduceLE, Int.reduceToNat, Int.reduceNeg, by_nil]
      repeat' (first | (with_reducible intro _) | (with_reducible apply And.intro) | (with_reducible refine ⟨_, c_within _ _ _, ?_⟩; try simp only [go_sem, Nat.reduceBEq, ↓reduceIte, ↓reduceDIte, Nat.reduceAdd, Nat.reduceSub, Nat.reduceMul, Nat.reduceLeDiff, ← Bool.decide_and, ← Bool.decide_or, ← decide_not, Int.reduceLT, Int.reduceLE, Int.reduceToNat, Int.reduceNeg, by_nil]) | fail)
      all_goals first | (symm; simp; omega) | (clear hx; simp_all; done) | exact ⟨_, c_within _ _ _, by clear hx; simp_all⟩
  · simp [h]
theorem h_meantF (o : Ord') (r : Rec) : HC env 110 [.iv OrderT o, .ref 1000000000 0, .ref 1000000001 0] [(1000000000, .box [.iv (.mp (.int .i64) FormT) formsD]), (1000000001, .box [.iv (.int .i64) r.1, .iv (.int .i64) r.2.1, .iv (.int .i64) r.2.2.1, .iv .str r.2.2.2.1, .iv (.int .i64) r.2.2.2.2.1, .iv (.int .i64) r.2.2.2.2.2])] (.iv .bool (meantB o r)) [(1000000000, .box [.iv (.mp (.int .i64) FormT) formsD]), (1000000001, .box [.iv (.int .i64) r.1, .iv (.int .i64) r.2.1, .iv (.int .i64) r.2.2.1, .iv .str r.2.2.2.1, .iv (.int .i64) r.2.2.2.2.1, .iv (.int .i64) r.2.2.2.2.2])] := by
  refine HC.of_PW (m := 2000) env_ok fn_110 rfl rfl rfl rfl (by kernel_rfl) ?_; intro hx hbl; simp only [Tryz.f110]; simp only [go_sem, Nat.reduceBEq, ↓reduceIte, ↓reduceDIte, Nat.reduceAdd, Nat.reduceSub, Nat.reduceMul, Nat.reduceLeDiff, ← Bool.decide_and, ← Bool.decide_or, ← decide_not, Int.reduceLT, Int.reduceLE, Int.reduceToNat, Int.reduceNeg, by_nil]
  refine ⟨fun v hv => ?_, fun hn => ?_⟩
  · rcases forms_at hv with ⟨k, rfl⟩ | ⟨k, rfl⟩ | ⟨k, rfl⟩ | ⟨k, rfl⟩ | ⟨k, rfl⟩ <;> simp only [go_sem, Nat.reduceBEq, ↓reduceIte, ↓reduceDIte, Nat.reduceAdd, Nat.reduceSub, Nat.reduceMul, Nat.reduceLeDiff, ← Bool.decide_and, ← Bool.decide_or, ← decide_not, Int.reduceLT, Int.reduceLE, Int.reduceToNat, Int.reduceNeg, by_nil]
    · exact ⟨fun hl => ⟨_, c_m1 o r, by simp [meantB, meansK, k, hl]⟩, fun hl => by simp [meantB, hl]⟩
    · exact ⟨fun hl => ⟨_, c_m2 o r, by simp [meantB, meansK, k, hl]⟩, fun hl => by simp [meantB, hl]⟩
    · exact ⟨fun hl => ⟨_, c_m3 o r, by simp [meantB, meansK, k, hl]⟩, fun hl => by simp [meantB, hl]⟩
    · exact ⟨fun hl => ⟨_, c_m4 o r, by simp [meantB, meansK, k, hl]⟩, fun hl => by simp [meantB, hl]⟩
    · exact ⟨fun hl => ⟨_, c_m5 o r, by simp [meantB, meansK, k, hl]⟩, fun hl => by simp [meantB, hl]⟩
  · have := forms_no hn
    simp [meantB, meansK, this]
end Go.Proofs.YtmjnkaabooockaaGreatDoor
namespace Go.Proofs.YtmjnkaabooockaaGreatDoor
set_option maxHeartbeats 4000000
set_option maxRecDepth 100000

abbrev MpT : Ty := .mp (.int .i64) FormT
def idxL {α : Type} (p : α → Bool) (l : List α) : Int := if l.any p then (l.findIdx p : Int) else -1
theorem any_step {α : Type} {xs : List α} {i : Nat} {x : α} {p : α → Bool} (h : xs[i]? = some x) : (xs.take (i + 1)).any p = ((xs.take i).any p || p x) := by
  rw [take_snoc h, List.any_append]
  simp
theorem idx_hit {α : Type} {p : α → Bool} {l : List α} {i : Nat} {x : α} (h : l[i]? = some x) (hb : (l.take i).any p = false) (hp : p x = true) : idxL p l = (i : Int) := by
  have hany : l.any p = true := List.any_eq_true.2 ⟨x, List.mem_of_getElem? h, hp⟩
  unfold idxL
  rw [if_pos hany]
  obtain ⟨hi, e⟩ := List.getElem?_eq_some_iff.1 h
  have : l.findIdx p = i := by
    rw [List.findIdx_eq hi]
    refine ⟨by rw [e]; exact hp, fun j hj => ?_⟩
    rw [List.any_eq_false] at hb
    have := hb l[j] (by rw [List.mem_take_iff_getElem]; exact ⟨j, by omega, rfl⟩)
    simpa using this
  rw [this]
theorem h_IndexM (l : List Ord') (r : Rec) : HC env 122 [.iv (.sl OrderT) l, .fn 110 [.ref 1000000000 0, .ref 1000000001 0]] [(1000000000, .box [.iv (.mp (.int .i64) FormT) formsD]), (1000000001, .box [.iv (.int .i64) r.1, .iv (.int .i64) r.2.1, .iv (.int .i64) r.2.2.1, .iv .str r.2.2.2.1, .iv (.int .i64) r.2.2.2.2.1, .iv (.int .i64) r.2.2.2.2.2])] (.iv (.int .i64) (idxL (fun o => meantB o r) l)) [(1000000000, .box [.iv (.mp (.int .i64) FormT) formsD]), (1000000001, .box [.iv (.int .i64) r.1, .iv (.int .i64) r.2.1, .iv (.int .i64) r.2.2.1, .iv .str r.2.2.2.1, .iv (.int .i64) r.2.2.2.2.1, .iv (.int .i64) r.2.2.2.2.2])] := by
  refine HC.of_PW (m := 2000) env_ok fn_122 rfl rfl rfl rfl (by kernel_rfl) ?_; intro hx hbl; simp only [Tryz.f122]; simp only [go_sem, Nat.reduceBEq, ↓reduceIte, ↓reduceDIte, Nat.reduceAdd, Nat.reduceSub, Nat.reduceMul, Nat.reduceLeDiff, ← Bool.decide_and, ← Bool.decide_or, ← decide_not, Int.reduceLT, Int.reduceLE, Int.reduceToNat, Int.reduceNeg]
  have hlen : l.length ≤ 9223372036854775807 := hx.1.1
  refine Walks.loopA (X := Nat) (fun (i : Nat) => [(8, .iv (.int .i64) (i : Int)), (5, .any), (4, .any)]) (fun (i : Nat) => []) (fun (i : Nat) => i ≤ l.length ∧ (l.take i).any (fun o => meantB o r) = false) (fun (i : Nat) => l.length - i) 0 ?_; intro b1 b2 hb1 hb2; simp (config := {maxSteps := 4000000}) only [go_sem, Nat.reduceBEq, ↓reduceIte, ↓reduceDIte, Nat.reduceAdd, Nat.reduceSub, Nat.reduceMul, Nat.reduceLeDiff, ← Bool.decide_and, ← Bool.decide_or, ← decide_not, Int.reduceLT, Int.reduceLE, Int.reduceToNat, Int.reduceNeg] at hb1 hb2; subst hb1; subst hb2; refine ⟨(by refine ⟨?_, ?_, rfl, rfl⟩ <;> repeat' (first | exact trivial | exact Or.inl rfl | exact Or.inr rfl | (refine And.intro (Or.inl rfl) ?_) | (refine And.intro (Or.inr (Or.inl rfl)) ?_) | (refine And.intro (Or.inr (Or.inr (Or.inr ⟨rfl, rfl⟩))) ?_) | (refine And.intro (Or.inr (Or.inr (Or.inl ⟨rfl, rfl, trivial⟩))) ?_) | exact ⟨(by show (_ : Nat) < 1000000000; omega), rfl, rfl⟩ | rfl | (refine And.intro (Or.inl ?_) ?_) | (refine And.intro ?_ ?_))), ?_, ?_⟩
  · exact ⟨Nat.zero_le _, rfl⟩
  intro i ⟨hi, hb⟩ back
  refine PW_sound env_ok ⟨_, fn_122, rfl⟩ 2000 _ _ (by kernel_rfl) ?_; simp only [go_sem, Nat.reduceBEq, ↓reduceIte, ↓reduceDIte, Nat.reduceAdd, Nat.reduceSub, Nat.reduceMul, Nat.reduceLeDiff, ← Bool.decide_and, ← Bool.decide_or, ← decide_not, Int.reduceLT, Int.reduceLE, Int.reduceToNat, Int.reduceNeg]
  refine ⟨fun h => ?_, fun h => ?_⟩
  · obtain ⟨x, hxi⟩ : ∃ x, l[i]? = some x := get_of_lt (by omega)
    refine ⟨Int.natCast_nonneg i, x, hxi, _, _, h_meantF x r, rfl, ?_⟩
    cases hm : meantB x r
    · simp only [go_sem, Nat.reduceBEq, ↓reduceIte, ↓reduceDIte, Nat.reduceAdd, Nat.reduceSub, Nat.reduceMul, Nat.reduceLeDiff, ← Bool.decide_and, ← Bool.decide_or, ← decide_not, Int.reduceLT, Int.reduceLE, Int.reduceToNat, Int.reduceNeg]
      intro _
      refine ⟨i64_ok (by omega) (by omega), back _ (i + 1) (by refine ⟨?_, ?_, rfl, rfl⟩ <;> repeat' (first | exact trivial | exact Or.inl rfl | exact Or.inr rfl | (refine And.intro (Or.inl rfl) ?_) | (refine And.intro (Or.inr (Or.inl rfl)) ?_) | (refine And.intro (Or.inr (Or.inr (Or.inr ⟨rfl, rfl⟩))) ?_) | (refine And.intro (Or.inr (Or.inr (Or.inl ⟨rfl, rfl, trivial⟩))) ?_) | exact ⟨(by show (_ : Nat) < 1000000000; omega), rfl, rfl⟩ | rfl | (refine And.intro (Or.inl ?_) ?_) | (refine And.intro ?_ ?_))) ⟨by omega, by rw [any_step hxi, hb]; simpa using hm⟩ (by omega)⟩
    · simp only [go_sem, Nat.reduceBEq, ↓reduceIte, ↓reduceDIte, Nat.reduceAdd, Nat.reduceSub, Nat.reduceMul, Nat.reduceLeDiff, ← Bool.decide_and, ← Bool.decide_or, ← decide_not, Int.reduceLT, Int.reduceLE, Int.reduceToNat, Int.reduceNeg]
      intro _
      exact (idx_hit hxi hb hm).symm
  · have e : l.take i = l := List.take_of_length_le (by omega)
    rw [e] at hb
    unfold idxL
    rw [hb]
    rfl
theorem h_ContainsM (l : List Ord') (r : Rec) : HC env 85 [.iv (.sl OrderT) l, .fn 110 [.ref 1000000000 0, .ref 1000000001 0]] [(1000000000, .box [.iv (.mp (.int .i64) FormT) formsD]), (1000000001, .box [.iv (.int .i64) r.1, .iv (.int .i64) r.2.1, .iv (.int .i64) r.2.2.1, .iv .str r.2.2.2.1, .iv (.int .i64) r.2.2.2.2.1, .iv (.int .i64) r.2.2.2.2.2])] (.iv .bool (l.any (fun o => meantB o r))) [(1000000000, .box [.iv (.mp (.int .i64) FormT) formsD]), (1000000001, .box [.iv (.int .i64) r.1, .iv (.int .i64) r.2.1, .iv (.int .i64) r.2.2.1, .iv .str r.2.2.2.1, .iv (.int .i64) r.2.2.2.2.1, .iv (.int .i64) r.2.2.2.2.2])] := by
  refine HC.of_PW (m := 2000) env_ok fn_85 rfl rfl rfl rfl (by kernel_rfl) ?_; intro hx hbl; simp only [Tryz.f85]; simp only [go_sem, Nat.reduceBEq, ↓reduceIte, ↓reduceDIte, Nat.reduceAdd, Nat.reduceSub, Nat.reduceMul, Nat.reduceLeDiff, ← Bool.decide_and, ← Bool.decide_or, ← decide_not, Int.reduceLT, Int.reduceLE, Int.reduceToNat, Int.reduceNeg]
  refine ⟨_, _, h_IndexM l r, rfl, ?_⟩
  simp only [go_sem, Nat.reduceBEq, ↓reduceIte, ↓reduceDIte, Nat.reduceAdd, Nat.reduceSub, Nat.reduceMul, Nat.reduceLeDiff, ← Bool.decide_and, ← Bool.decide_or, ← decide_not, Int.reduceLT, Int.reduceLE, Int.reduceToNat, Int.reduceNeg]
  intro _ _
  unfold idxL
  cases h : l.any (fun o => meantB o r)
  · rfl
  · simp
theorem c_meant (l : List Ord') (r : Rec) : PC env 82 [⟨MpT, formsD⟩, ⟨.sl OrderT, l⟩, ⟨RecordT, r⟩] .bool (l.any (fun o => meantB o r)) := by
  refine PC.of_PW (m := 2000) env_ok fn_82 rfl rfl rfl rfl (by kernel_rfl) ?_; intro hx; simp only [Tryz.f82]; simp only [go_sem, Nat.reduceBEq, ↓reduceIte, ↓reduceDIte, Nat.reduceAdd, Nat.reduceSub, Nat.reduceMul, Nat.reduceLeDiff, ← Bool.decide_and, ← Bool.decide_or, ← decide_not, Int.reduceLT, Int.reduceLE, Int.reduceToNat, Int.reduceNeg]
  exact ⟨_, _, h_ContainsM l r, rfl, fun _ _ => rfl⟩

def bsF (lt : Nat → Bool) (i j : Nat) : Nat := if i < j then (if lt ((i + j) / 2) then bsF lt ((i + j) / 2 + 1) j else bsF lt i ((i + j) / 2)) else i
termination_by j - i
theorem bsF_le (lt : Nat → Bool) (i j : Nat) (h : i ≤ j) : i ≤ bsF lt i j ∧ bsF lt i j ≤ j := by
  unfold bsF
  split
  · split
    · have := bsF_le lt ((i + j) / 2 + 1) j (by omega)
      omega
    · have := bsF_le lt i ((i + j) / 2) (by omega)
      omega
  · omega
termination_by j - i
def ltAt {α : Type} (pl : α → Int × Int) (l : List α) (p : Int × Int) (h : Nat) : Bool := match l[h]? with | some x => decide (cmpP (pl x) p < 0) | none => false
def bsI {α : Type} (pl : α → Int × Int) (l : List α) (p : Int × Int) : Nat := bsF (ltAt pl l p) 0 l.length
def hitAt {α : Type} (pl : α → Int × Int) (l : List α) (p : Int × Int) (i : Nat) : Bool := match l[i]? with | some x => decide (cmpP (pl x) p = 0) | none => false
theorem bsI_le {α : Type} (pl : α → Int × Int) (l : List α) (p : Int × Int) : bsI pl l p ≤ l.length := (bsF_le _ 0 l.length (Nat.zero_le _)).2
def plO (o : Ord') : Int × Int := (o.1, o.2.1)
def plR (r : Rec) : Int × Int := (r.1, r.2.1)
theorem half_wrap {i j : Nat} (h : (i : Int) + j ≤ 2000000) : IntKind.i64.wrap (IntKind.u64.wrap ((i : Int) + j) / 2 ^ 1) = (((i + j) / 2 : Nat) : Int) := by
  have e1 : IntKind.u64.wrap ((i : Int) + j) = (i : Int) + j := wrap_in _ ⟨by simp only [min_u64]; omega, by simp only [max_u64]; omega⟩
  rw [e1]
  have e2 : ((i : Int) + j) / 2 ^ 1 = (((i + j) / 2 : Nat) : Int) := by
    rw [Int.natCast_ediv]
    norm_cast
  rw [e2]
  exact wrap_in _ ⟨by simp only [min_i64]; omega, by simp only [max_i64]; omega⟩
def sumLen {α : Type} (ls : List (List α)) : Nat := (ls.map List.length).sum
theorem sumLen_snoc {α : Type} {ls : List (List α)} {k : Nat} {x : List α} (h : ls[k]? = some x) : sumLen (ls.take (k + 1)) = sumLen (ls.take k) + x.length := by
  unfold sumLen
  rw [take_snoc h, List.map_append, List.sum_append]
  simp
theorem sumLen_take {α : Type} (ls : List (List α)) (k : Nat) : sumLen (ls.take k) ≤ sumLen ls := by
  unfold sumLen
  conv => rhs; rw [← List.take_append_drop k ls]
  rw [List.map_append, List.sum_append]
  omega
def insAt {α : Type} (l : List α) (i : Nat) (x : α) : List α := l.take i ++ x :: l.drop i
def okAt {α : Type} (pl : α → Int × Int) (l : List α) (j : Nat) : Bool := match l[j]?, l[j + 1]? with
  | some x, some y => decide (cmpP (pl x) (pl y) < 0) | _, _ => true
def sortedB {α : Type} (pl : α → Int × Int) (l : List α) : Bool := (List.range (l.length - 1)).all (okAt pl l)
end Go.Proofs.YtmjnkaabooockaaGreatDoor
namespace Go.Proofs.YtmjnkaabooockaaGreatDoor
set_option maxHeartbeats 4000000
set_option maxRecDepth 100000

end Go.Proofs.YtmjnkaabooockaaGreatDoor
namespace Go.Proofs.YtmjnkaabooockaaGreatDoor
set_option maxHeartbeats 4000000
set_option maxRecDepth 100000

theorem c_findFR (o : Rec) (p : Int × Int) : PC env 138 [⟨RecordT, o⟩, ⟨PlaceT, p⟩, ⟨.ptr .fnv, (56 : Nat)⟩] (.int .i64) (cmpP (plR o) p) := by
  refine PC.of_PW (m := 2000) env_ok fn_138 rfl rfl rfl rfl (by kernel_rfl) ?_; intro hx; simp only [Tryz.f138]; simp only [go_sem, Nat.reduceBEq, ↓reduceIte, ↓reduceDIte, Nat.reduceAdd, Nat.reduceSub, Nat.reduceMul, Nat.reduceLeDiff, ← Bool.decide_and, ← Bool.decide_or, ← decide_not, Int.reduceLT, Int.reduceLE, Int.reduceToNat, Int.reduceNeg, litP, appendC]
  exact ⟨_, c_ofR o, fun _ => ⟨_, c_comp _ _, fun _ => rfl⟩⟩
theorem c_bsR (l : List Rec) (p : Int × Int) (hl : l.length ≤ 1000000) : PC env 137 [⟨.sl RecordT, l⟩, ⟨PlaceT, p⟩, ⟨.clo 138 (.ptr .fnv), (56 : Nat)⟩] (.tup (.int .i64) .bool) (((bsI plR l p : Nat) : Int), hitAt plR l p (bsI plR l p)) := by
  refine PC.of_PW (m := 2000) env_ok fn_137 rfl rfl rfl rfl (by kernel_rfl) ?_; intro hx; simp only [Tryz.f137]; simp only [go_sem, Nat.reduceBEq, ↓reduceIte, ↓reduceDIte, Nat.reduceAdd, Nat.reduceSub, Nat.reduceMul, Nat.reduceLeDiff, ← Bool.decide_and, ← Bool.decide_or, ← decide_not, Int.reduceLT, Int.reduceLE, Int.reduceToNat, Int.reduceNeg, litP, appendC]
  refine Walks.loopW (X := Nat × Nat) (fun z => ⟨[(9, .iv (.int .i64) (z.1 : Int)), (10, .iv (.int .i64) (z.2 : Int)), (8, .iv (.int .i64) (l.length : Int)), (0, .iv (.sl RecordT) l), (2, .fn 138 [.eptr .fnv (56 : Nat) 0]), (4, .ref 4 0)], [(4, .box [.iv (.int .i64) p.1, .iv (.int .i64) p.2])]⟩)
    (fun z => z.1 ≤ z.2 ∧ z.2 ≤ l.length ∧ bsF (ltAt plR l p) z.1 z.2 = bsI plR l p) (fun z => z.2 - z.1) (0, l.length) (by refine ⟨?_, ?_, rfl, rfl⟩ <;> repeat' (first | exact trivial | exact Or.inl rfl | exact Or.inr rfl | (refine And.intro (Or.inl rfl) ?_) | (refine And.intro (Or.inr (Or.inl rfl)) ?_) | (refine And.intro (Or.inr (Or.inr (Or.inr ⟨rfl, rfl⟩))) ?_) | (refine And.intro (Or.inr (Or.inr (Or.inl ⟨rfl, rfl, trivial⟩))) ?_) | exact ⟨(by show (_ : Nat) < 1000000000; omega), rfl, rfl⟩ | rfl | (refine And.intro (Or.inl ?_) ?_) | (refine And.intro ?_ ?_))) ⟨Nat.zero_le _, Nat.le_refl _, rfl⟩ ?_
  intro ⟨i, j⟩ ⟨hij, hj, hb⟩ back
  dsimp only at hij hj hb
  refine PW_sound env_ok ⟨_, fn_137, rfl⟩ 2000 _ _ (by kernel_rfl) ?_; simp only [go_sem, Nat.reduceBEq, ↓reduceIte, ↓reduceDIte, Nat.reduceAdd, Nat.reduceSub, Nat.reduceMul, Nat.reduceLeDiff, ← Bool.decide_and, ← Bool.decide_or, ← decide_not, Int.reduceLT, Int.reduceLE, Int.reduceToNat, Int.reduceNeg, litP, appendC]
  have hw := half_wrap (i := i) (j := j) (by omega)
  have hu : IntKind.u64.wrap ((i : Int) + j) = (i : Int) + j := wrap_in _ ⟨by simp only [min_u64]; omega, by simp only [max_u64]; omega⟩
  refine ⟨fun h => ?_, fun h => ?_⟩
  · obtain ⟨x, hxi⟩ : ∃ x, l[(i + j) / 2]? = some x := get_of_lt (by omega)
    rw [hw, hu, Int.toNat_natCast]
    unfold bsF at hb
    rw [if_pos (by omega)] at hb
    have hlt : ltAt plR l p ((i + j) / 2) = decide (cmpP (plR x) p < 0) := by unfold ltAt; rw [hxi]
    refine ⟨i64_ok (by omega) (by omega), by omega, x, hxi, _, c_findFR x p, fun _ => ⟨fun c => ⟨i64_ok (by omega) (by omega), ?_⟩, fun c => ?_⟩⟩
    · rw [hlt, decide_eq_true c, if_pos rfl] at hb
      exact back _ ((i + j) / 2 + 1, j) (by refine ⟨?_, ?_, rfl, rfl⟩ <;> repeat' (first | exact trivial | exact Or.inl rfl | exact Or.inr rfl | (refine And.intro (Or.inl rfl) ?_) | (refine And.intro (Or.inr (Or.inl rfl)) ?_) | (refine And.intro (Or.inr (Or.inr (Or.inr ⟨rfl, rfl⟩))) ?_) | (refine And.intro (Or.inr (Or.inr (Or.inl ⟨rfl, rfl, trivial⟩))) ?_) | exact ⟨(by show (_ : Nat) < 1000000000; omega), rfl, rfl⟩ | rfl | (refine And.intro (Or.inl ?_) ?_) | (refine And.intro ?_ ?_))) ⟨by dsimp only; omega, hj, hb⟩ (by dsimp only; omega)
    · rw [hlt, decide_eq_false c, if_neg (by decide)] at hb
      exact back _ (i, (i + j) / 2) (by refine ⟨?_, ?_, rfl, rfl⟩ <;> repeat' (first | exact trivial | exact Or.inl rfl | exact Or.inr rfl | (refine And.intro (Or.inl rfl) ?_) | (refine And.intro (Or.inr (Or.inl rfl)) ?_) | (refine And.intro (Or.inr (Or.inr (Or.inr ⟨rfl, rfl⟩))) ?_) | (refine And.intro (Or.inr (Or.inr (Or.inl ⟨rfl, rfl, trivial⟩))) ?_) | exact ⟨(by show (_ : Nat) < 1000000000; omega), rfl, rfl⟩ | rfl | (refine And.intro (Or.inl ?_) ?_) | (refine And.intro ?_ ?_))) ⟨by dsimp only; omega, by dsimp only; omega, hb⟩ (by dsimp only; omega)
  · unfold bsF at hb
    rw [if_neg (by omega)] at hb
    rw [← hb]
    refine ⟨fun c => ?_, fun c => ?_⟩
    · obtain ⟨x, hxi⟩ : ∃ x, l[i]? = some x := get_of_lt (by omega)
      refine ⟨Int.natCast_nonneg i, x, hxi, _, c_findFR x p, fun _ => ?_⟩
      unfold hitAt
      rw [hxi]
    · unfold hitAt
      rw [List.getElem?_eq_none (by omega)]
theorem c_findR (l : List Rec) (p : Int × Int) (hl : l.length ≤ 1000000) : PC env 121 [⟨.sl RecordT, l⟩, ⟨.fnv, (56 : Nat)⟩, ⟨PlaceT, p⟩] (.tup (.int .i64) .bool) (((bsI plR l p : Nat) : Int), hitAt plR l p (bsI plR l p)) := by
  refine PC.of_PW (m := 2000) env_ok fn_121 rfl rfl rfl rfl (by kernel_rfl) ?_; intro hx; simp only [Tryz.f121]; simp only [go_sem, Nat.reduceBEq, ↓reduceIte, ↓reduceDIte, Nat.reduceAdd, Nat.reduceSub, Nat.reduceMul, Nat.reduceLeDiff, ← Bool.decide_and, ← Bool.decide_or, ← decide_not, Int.reduceLT, Int.reduceLE, Int.reduceToNat, Int.reduceNeg, litP, appendC]
  exact ⟨_, c_bsR l p hl, fun _ => rfl⟩
theorem h_GrowR (n : Int) (h0 : 0 < n) (h1 : n ≤ 1000000) : HC env 124 [.nilsl, .iv (.int .i64) n] [] (.lsl 22 6 0 0) [(22, .arr RecordT (List.replicate n.toNat (zeroDen RecordT)))] := by
  refine HC.of_PW (m := 2000) env_ok fn_124 rfl rfl rfl rfl (by kernel_rfl) ?_; intro hx hbl; simp only [Tryz.f124]; simp only [go_sem, Nat.reduceBEq, ↓reduceIte, ↓reduceDIte, Nat.reduceAdd, Nat.reduceSub, Nat.reduceMul, Nat.reduceLeDiff, ← Bool.decide_and, ← Bool.decide_or, ← decide_not, Int.reduceLT, Int.reduceLE, Int.reduceToNat, Int.reduceNeg, litP, appendC]
  refine ⟨fun h => absurd h (by omega), fun _ => ?_⟩
  simp only [Int.sub_self, Int.sub_zero]
  exact ⟨⟨by decide, by decide⟩, ⟨by omega, by omega⟩, fun _ => ⟨⟨h0, Int.le_trans h1 (by decide)⟩, Int.natCast_nonneg _, trivial⟩, fun h => absurd h0 h⟩
theorem c_ConcatR (ls : List (List Rec)) (h0 : 0 < sumLen ls) (h1 : sumLen ls ≤ 1000000) (hn : ls.length ≤ 1000000) : PC env 91 [⟨.sl (.sl RecordT), ls⟩] (.sl RecordT) ls.flatten := by
  refine PC.of_PW (m := 2000) env_ok fn_91 rfl rfl rfl rfl (by kernel_rfl) ?_; intro hx; simp only [Tryz.f91]; simp only [go_sem, Nat.reduceBEq, ↓reduceIte, ↓reduceDIte, Nat.reduceAdd, Nat.reduceSub, Nat.reduceMul, Nat.reduceLeDiff, ← Bool.decide_and, ← Bool.decide_or, ← decide_not, Int.reduceLT, Int.reduceLE, Int.reduceToNat, Int.reduceNeg, litP, appendC]
  refine Walks.loopW (X := Nat) (fun k => ⟨[(11, .iv (.int .i64) (k : Int)), (10, .iv (.int .i64) (ls.length : Int)), (9, .iv (.sl (.sl RecordT)) ls), (0, .iv (.sl (.sl RecordT)) ls), (3, .iv (.int .i64) (sumLen (ls.take k) : Int))], []⟩)
    (fun k => k ≤ ls.length) (fun k => ls.length - k) 0 (by refine ⟨?_, ?_, rfl, rfl⟩ <;> repeat' (first | exact trivial | exact Or.inl rfl | exact Or.inr rfl | (refine And.intro (Or.inl rfl) ?_) | (refine And.intro (Or.inr (Or.inl rfl)) ?_) | (refine And.intro (Or.inr (Or.inr (Or.inr ⟨rfl, rfl⟩))) ?_) | (refine And.intro (Or.inr (Or.inr (Or.inl ⟨rfl, rfl, trivial⟩))) ?_) | exact ⟨(by show (_ : Nat) < 1000000000; omega), rfl, rfl⟩ | rfl | (refine And.intro (Or.inl ?_) ?_) | (refine And.intro ?_ ?_))) (Nat.zero_le _) ?_
  intro k hk back
  refine PW_sound env_ok ⟨_, fn_91, rfl⟩ 2000 _ _ (by kernel_rfl) ?_; simp only [go_sem, Nat.reduceBEq, ↓reduceIte, ↓reduceDIte, Nat.reduceAdd, Nat.reduceSub, Nat.reduceMul, Nat.reduceLeDiff, ← Bool.decide_and, ← Bool.decide_or, ← decide_not, Int.reduceLT, Int.reduceLE, Int.reduceToNat, Int.reduceNeg, litP, appendC]
  refine ⟨fun h => ?_, fun h => ?_⟩
  · obtain ⟨x, hxi⟩ : ∃ x, ls[k]? = some x := get_of_lt (by omega)
    have hs := sumLen_snoc hxi
    have ht := sumLen_take ls (k + 1)
    refine ⟨Int.natCast_nonneg k, x, hxi, i64_ok (by omega) (by omega), fun h' => absurd h' (by omega), fun _ => ⟨i64_ok (by omega) (by omega), ?_⟩⟩
    refine back _ (k + 1) ⟨⟨Or.inl rfl, Or.inl rfl, Or.inl rfl, Or.inl rfl, Or.inl ?_, trivial⟩, trivial, rfl, rfl⟩ (by omega) (by omega)
    rw [hs]
    rfl
  · have e : ls.take k = ls := List.take_of_length_le (by omega)
    rw [e]
    refine ⟨_, _, h_GrowR _ (by omega) (by omega), ?_⟩
    simp only [go_sem, Nat.reduceBEq, ↓reduceIte, ↓reduceDIte, Nat.reduceAdd, Nat.reduceSub, Nat.reduceMul, Nat.reduceLeDiff, ← Bool.decide_and, ← Bool.decide_or, ← decide_not, Int.reduceLT, Int.reduceLE, Int.reduceToNat, Int.reduceNeg, litP, appendC]
    intro _
    refine Walks.loopW (X := Nat) (fun k => ⟨[(27, .iv (.int .i64) (k : Int)), (26, .iv (.int .i64) (ls.length : Int)), (25, .iv (.sl (.sl RecordT)) ls), (6, match k with | 0 => .lsl 2500022 6 0 0 | _ + 1 => .lfull 2500022)], [(2500022, .arr RecordT (match k with | 0 => List.replicate (sumLen ls) (zeroDen RecordT) | _ + 1 => (ls.take k).flatten))]⟩)
      (fun k => k ≤ ls.length) (fun k => ls.length - k) 0 (by refine ⟨?_, ?_, rfl, rfl⟩ <;> repeat' (first | exact trivial | exact Or.inl rfl | exact Or.inr rfl | (refine And.intro (Or.inl rfl) ?_) | (refine And.intro (Or.inr (Or.inl rfl)) ?_) | (refine And.intro (Or.inr (Or.inr (Or.inr ⟨rfl, rfl⟩))) ?_) | (refine And.intro (Or.inr (Or.inr (Or.inl ⟨rfl, rfl, trivial⟩))) ?_) | exact ⟨(by show (_ : Nat) < 1000000000; omega), rfl, rfl⟩ | rfl | (refine And.intro (Or.inl ?_) ?_) | (refine And.intro ?_ ?_))) (Nat.zero_le _) ?_
    intro k hk back2
    cases k with
    | zero =>
      refine PW_sound env_ok ⟨_, fn_91, rfl⟩ 2000 _ _ (by kernel_rfl) ?_; simp only [go_sem, Nat.reduceBEq, ↓reduceIte, ↓reduceDIte, Nat.reduceAdd, Nat.reduceSub, Nat.reduceMul, Nat.reduceLeDiff, ← Bool.decide_and, ← Bool.decide_or, ← decide_not, Int.reduceLT, Int.reduceLE, Int.reduceToNat, Int.reduceNeg, litP, appendC]
      refine ⟨fun h => ?_, fun h => ?_⟩
      · obtain ⟨x, hxi⟩ : ∃ x, ls[0]? = some x := get_of_lt (by omega)
        have hs : sumLen (ls.take 1) = sumLen (ls.take 0) + x.length := sumLen_snoc hxi
        have ht := sumLen_take ls 1
        refine ⟨x, hxi, ⟨by rw [List.length_replicate]; exact h0, by omega⟩, ⟨by decide, by decide⟩, back2 _ 1 ⟨⟨Or.inl rfl, Or.inl rfl, Or.inl rfl, Or.inl rfl, trivial⟩, ⟨?_, trivial⟩, rfl, rfl⟩ (by omega) (by omega)⟩
        refine congrArg (Blk.arr RecordT) ?_
        rw [show (1 : Nat) = 0 + 1 from rfl, take_snoc hxi]
        simp
      · exfalso
        have hl0 : ls = [] := List.length_eq_zero_iff.mp (by omega)
        subst hl0
        exact absurd h0 (by decide)
    | succ k =>
      refine PW_sound env_ok ⟨_, fn_91, rfl⟩ 2000 _ _ (by kernel_rfl) ?_; simp only [go_sem, Nat.reduceBEq, ↓reduceIte, ↓reduceDIte, Nat.reduceAdd, Nat.reduceSub, Nat.reduceMul, Nat.reduceLeDiff, ← Bool.decide_and, ← Bool.decide_or, ← decide_not, Int.reduceLT, Int.reduceLE, Int.reduceToNat, Int.reduceNeg, litP, appendC]
      refine ⟨fun h => ?_, fun h => ?_⟩
      · obtain ⟨x, hxi⟩ : ∃ x, ls[k + 1]? = some x := get_of_lt (by omega)
        have hs := sumLen_snoc hxi
        have ht := sumLen_take ls (k + 1 + 1)
        have hf : (ls.take (k + 1)).flatten.length = sumLen (ls.take (k + 1)) := by rw [List.length_flatten]; rfl
        refine ⟨Int.natCast_nonneg _, x, hxi, by omega, i64_ok (by omega) (by omega), back2 _ (k + 1 + 1) ⟨⟨Or.inl rfl, Or.inl rfl, Or.inl rfl, Or.inl rfl, trivial⟩, ⟨?_, trivial⟩, rfl, rfl⟩ (by omega) (by omega)⟩
        refine congrArg (Blk.arr RecordT) ?_
        rw [take_snoc hxi]
        simp
      · have e2 : ls.take (k + 1) = ls := List.take_of_length_le (by omega)
        rw [e2]
theorem c_addR (l : List Rec) (o : Rec) (hl : l.length ≤ 100000) : PC env 84 [⟨.sl RecordT, l⟩, ⟨.fnv, (56 : Nat)⟩, ⟨RecordT, o⟩] (.sl RecordT) (insAt l (bsI plR l (plR o)) o) := by
  refine PC.of_PW (m := 2000) env_ok fn_84 rfl rfl rfl rfl (by kernel_rfl) ?_; intro hx; simp only [Tryz.f84]; simp only [go_sem, Nat.reduceBEq, ↓reduceIte, ↓reduceDIte, Nat.reduceAdd, Nat.reduceSub, Nat.reduceMul, Nat.reduceLeDiff, ← Bool.decide_and, ← Bool.decide_or, ← decide_not, Int.reduceLT, Int.reduceLE, Int.reduceToNat, Int.reduceNeg, litP, appendC]
  have hb := bsI_le plR l (plR o)
  refine ⟨_, c_ofR o, fun _ => ⟨_, c_findR l _ (by omega), fun _ => ?_⟩⟩
  simp only [go_sem, Nat.reduceBEq, ↓reduceIte, ↓reduceDIte, Nat.reduceAdd, Nat.reduceSub, Nat.reduceMul, Nat.reduceLeDiff, ← Bool.decide_and, ← Bool.decide_or, ← decide_not, Int.reduceLT, Int.reduceLE, Int.reduceToNat, Int.reduceNeg, litP, appendC]
  have hn : (bsI plR l (o.1, o.2.1) : Int) ≤ (l.length : Int) := by have := bsI_le plR l (o.1, o.2.1); omega
  have hs : sumLen [l.take (bsI plR l (o.1, o.2.1)), [o], l.drop (bsI plR l (o.1, o.2.1))] = l.length + 1 := by
    have := bsI_le plR l (o.1, o.2.1)
    simp [sumLen]
    omega
  refine ⟨⟨Int.natCast_nonneg _, hn⟩, ⟨Int.natCast_nonneg _, hn⟩, _, c_ConcatR _ (by rw [hs]; omega) (by rw [hs]; omega) (by simp), fun _ => ?_⟩
  simp only [insAt, List.flatten_cons, List.flatten_nil, List.append_nil, List.singleton_append]
  rfl
end Go.Proofs.YtmjnkaabooockaaGreatDoor
namespace Go.Proofs.YtmjnkaabooockaaGreatDoor
set_option maxHeartbeats 4000000
set_option maxRecDepth 100000

def lst (L : L8) : List Int := [L.1, L.2.1, L.2.2.1, L.2.2.2.1, L.2.2.2.2.1, L.2.2.2.2.2.1, L.2.2.2.2.2.2.1, L.2.2.2.2.2.2.2]
def getL (L : L8) (i : Int) : Int := (lst L).getD i.toNat 0
def setL (L : L8) (i y : Int) : L8 := (if i = 0 then y else L.1, if i = 1 then y else L.2.1, if i = 2 then y else L.2.2.1, if i = 3 then y else L.2.2.2.1, if i = 4 then y else L.2.2.2.2.1, if i = 5 then y else L.2.2.2.2.2.1, if i = 6 then y else L.2.2.2.2.2.2.1, if i = 7 then y else L.2.2.2.2.2.2.2)
theorem lst_at (L : L8) {i : Int} (h0 : 0 ≤ i) (h7 : i ≤ 7) : (lst L)[i.toNat]? = some (getL L i) := by
  have h : i = 0 ∨ i = 1 ∨ i = 2 ∨ i = 3 ∨ i = 4 ∨ i = 5 ∨ i = 6 ∨ i = 7 := by omega
  rcases h with rfl | rfl | rfl | rfl | rfl | rfl | rfl | rfl <;> rfl
theorem get_set (L : L8) {i : Int} (y : Int) (h0 : 0 ≤ i) (h7 : i ≤ 7) : getL (setL L i y) i = y := by
  have h : i = 0 ∨ i = 1 ∨ i = 2 ∨ i = 3 ∨ i = 4 ∨ i = 5 ∨ i = 6 ∨ i = 7 := by omega
  rcases h with rfl | rfl | rfl | rfl | rfl | rfl | rfl | rfl <;> rfl
def learnS (u : Usr) (r : Rec) : Usr × Int × Int :=
  if rightR (r.1, 1, r.2.2) = true then
    if 400 ≤ u.1.length ∨ 1000000 ≤ getL u.2.2 r.1 then (u, 0, 2)
    else (if u.2.1.any (fun o => meantB o (r.1, getL u.2.2 r.1 + 1, r.2.2)) then (u.1, u.2.1, setL u.2.2 r.1 (getL u.2.2 r.1 + 1)) else (insAt u.1 (bsI plR u.1 (r.1, getL u.2.2 r.1 + 1)) (r.1, getL u.2.2 r.1 + 1, r.2.2), u.2.1, setL u.2.2 r.1 (getL u.2.2 r.1 + 1)), getL u.2.2 r.1 + 1, 0)
  else (u, 0, 240)
theorem set_at (L : L8) {i : Int} (y : Int) (h0 : 0 ≤ i) (h7 : i ≤ 7) : (lst (setL L i y))[i.toNat]? = some y := by
  rw [lst_at _ h0 h7, get_set L y h0 h7]
theorem getL_ge {L : L8} (h : (Ty.st (.pair (.int .i64) (.pair (.int .i64) (.pair (.int .i64) (.pair (.int .i64) (.pair (.int .i64) (.pair (.int .i64) (.pair (.int .i64) (.int .i64))))))))).ok L) {i : Int} (h0 : 0 ≤ i) (h7 : i ≤ 7) : -9223372036854775808 ≤ getL L i := by
  obtain ⟨e0, e1, e2, e3, e4, e5, e6, e7⟩ := h
  have h : i = 0 ∨ i = 1 ∨ i = 2 ∨ i = 3 ∨ i = 4 ∨ i = 5 ∨ i = 6 ∨ i = 7 := by omega
  rcases h with rfl | rfl | rfl | rfl | rfl | rfl | rfl | rfl
  · exact e0.1
  · exact e1.1
  · exact e2.1
  · exact e3.1
  · exact e4.1
  · exact e5.1
  · exact e6.1
  · exact e7.1
theorem c_Learn (u : Usr) (r : Rec) : PC env 60 [⟨UserT, u⟩, ⟨RecordT, r⟩] (.tup UserT (.tup (.int .i64) (.int .i64))) (learnS u r) := by
  refine PC.of_PW (m := 2000) env_ok fn_60 rfl rfl rfl rfl (by kernel_rfl) ?_; intro hx; simp only [Tryz.f60]; simp only [go_sem, Nat.reduceBEq, ↓reduceIte, ↓reduceDIte, Nat.reduceAdd, Nat.reduceSub, Nat.reduceMul, Nat.reduceLeDiff, ← Bool.decide_and, ← Bool.decide_or, ← decide_not, Int.reduceLT, Int.reduceLE, Int.reduceToNat, Int.reduceNeg, litP, appendC]
  refine ⟨_, c_rightR (r.1, 1, r.2.2), ?_⟩
  unfold learnS
  cases hr : rightR (r.1, 1, r.2.2)
  · simp only [go_sem, Nat.reduceBEq, ↓reduceIte, ↓reduceDIte, Nat.reduceAdd, Nat.reduceSub, Nat.reduceMul, Nat.reduceLeDiff, ← Bool.decide_and, ← Bool.decide_or, ← decide_not, Int.reduceLT, Int.reduceLE, Int.reduceToNat, Int.reduceNeg, litP, appendC]
    rfl
  have hr' := hr
  simp only [rightR, Bool.and_eq_true, decide_eq_true_eq] at hr'
  obtain ⟨⟨⟨hd0, hd7⟩, _⟩, _⟩ := hr'
  simp only [go_sem, Nat.reduceBEq, ↓reduceIte, ↓reduceDIte, Nat.reduceAdd, Nat.reduceSub, Nat.reduceMul, Nat.reduceLeDiff, ← Bool.decide_and, ← Bool.decide_or, ← decide_not, Int.reduceLT, Int.reduceLE, Int.reduceToNat, Int.reduceNeg, litP, appendC]
  refine ⟨fun h1 => ⟨⟨hd0, by omega⟩, getL u.2.2 r.1, lst_at u.2.2 hd0 hd7, fun h2 => ?_, fun h2 => ?_⟩, fun h1 => ?_⟩
  · rw [if_pos (.inr h2)]
  · rw [if_neg (by omega)]
    have hx1 := hx.1
    have hL : -9223372036854775808 ≤ getL u.2.2 r.1 := getL_ge hx1.2.2 hd0 hd7
    refine ⟨⟨hd0, by omega⟩, getL u.2.2 r.1, lst_at u.2.2 hd0 hd7, i64_ok (by omega) (by omega), ?_⟩
    refine ⟨⟨hd0, by omega⟩, ⟨hd0, by omega⟩, getL u.2.2 r.1 + 1, set_at u.2.2 _ hd0 hd7, _, c_forms, fun _ => ⟨_, c_meant u.2.1 (r.1, getL u.2.2 r.1 + 1, r.2.2), ?_⟩⟩
    cases hm : u.2.1.any (fun o => meantB o (r.1, getL u.2.2 r.1 + 1, r.2.2))
    · simp only [go_sem, Nat.reduceBEq, ↓reduceIte, ↓reduceDIte, Nat.reduceAdd, Nat.reduceSub, Nat.reduceMul, Nat.reduceLeDiff, ← Bool.decide_and, ← Bool.decide_or, ← decide_not, Int.reduceLT, Int.reduceLE, Int.reduceToNat, Int.reduceNeg, litP, appendC]
      refine ⟨_, c_addR u.1 _ (by omega), fun _ => ?_⟩
      rfl
    · simp only [go_sem, Nat.reduceBEq, ↓reduceIte, ↓reduceDIte, Nat.reduceAdd, Nat.reduceSub, Nat.reduceMul, Nat.reduceLeDiff, ← Bool.decide_and, ← Bool.decide_or, ← decide_not, Int.reduceLT, Int.reduceLE, Int.reduceToNat, Int.reduceNeg, litP, appendC]
      rfl
  · rw [if_pos (.inl (by omega))]
theorem filter_step {α : Type} {xs : List α} {k : Nat} {x : α} {p : α → Bool} (h : xs[k]? = some x) : (xs.take (k + 1)).filter p = (xs.take k).filter p ++ (if p x then [x] else []) := by
  rw [take_snoc h, List.filter_append]
  congr 1
  cases hp : p x <;> simp [hp]
def forgetS (u : Usr) (o : Ord') : Usr × Int :=
  if rightO (o.1, 1, o.2.2) = true then
    if 400 ≤ u.2.1.length ∨ 1000000 ≤ getL u.2.2 o.1 then (u, 2)
    else ((u.1.filter (fun r => !(meantB (o.1, getL u.2.2 o.1 + 1, o.2.2) r)), insAt u.2.1 (bsI plO u.2.1 (o.1, getL u.2.2 o.1 + 1)) (o.1, getL u.2.2 o.1 + 1, o.2.2), setL u.2.2 o.1 (getL u.2.2 o.1 + 1)), 0)
  else (u, 240)
def l8Cells (L : L8) : List PV := [.iv (.int .i64) L.1, .iv (.int .i64) L.2.1, .iv (.int .i64) L.2.2.1, .iv (.int .i64) L.2.2.2.1, .iv (.int .i64) L.2.2.2.2.1, .iv (.int .i64) L.2.2.2.2.2.1, .iv (.int .i64) L.2.2.2.2.2.2.1, .iv (.int .i64) L.2.2.2.2.2.2.2]
end Go.Proofs.YtmjnkaabooockaaGreatDoor
namespace Go.Proofs.YtmjnkaabooockaaGreatDoor
set_option maxHeartbeats 4000000
set_option maxRecDepth 100000

def aftD (v k : Int) : Int := if k < 0 ∨ 64 ≤ k then 0 else v / 2 ^ k.toNat
def atD (t : Int × Int) (e : Int) : Int × Int := if e < t.1 ∨ 10000 < e then (0, 120) else (aftD t.2 (e - t.1), 0)
def cntR (r : Rec) (e : Int) : Int := if r.2.2.1 < e then (atD (r.2.2.1, r.2.2.2.2.2) e).1 else r.2.2.2.2.2
def valR (w : List UInt8) (e : Int) (r : Rec) : Int := if r.2.2.2.1 = w then cntR r e else 0
def countS (l : List Rec) (w : List UInt8) (e : Int) : Int := (l.map (valR w e)).sum
def tame (l : List Rec) : Prop := l.length ≤ 1000 ∧ ∀ r, r ∈ l → 0 ≤ r.2.2.1 ∧ r.2.2.1 ≤ 10000 ∧ 0 ≤ r.2.2.2.2.2 ∧ r.2.2.2.2.2 ≤ 1000
theorem aftD_le {v k : Int} (h0 : 0 ≤ v) : 0 ≤ aftD v k ∧ aftD v k ≤ v := by
  unfold aftD
  split
  · omega
  · have hp : (0 : Int) < 2 ^ k.toNat := Int.pow_pos (by decide)
    exact ⟨Int.ediv_nonneg h0 (by omega), Int.ediv_le_self _ h0⟩
theorem cntR_le {r : Rec} {e : Int} (h0 : 0 ≤ r.2.2.2.2.2) : 0 ≤ cntR r e ∧ cntR r e ≤ r.2.2.2.2.2 := by
  unfold cntR atD
  split
  · split
    · dsimp only; omega
    · exact aftD_le h0
  · omega
theorem valR_le {r : Rec} {w : List UInt8} {e : Int} (h0 : 0 ≤ r.2.2.2.2.2) : 0 ≤ valR w e r ∧ valR w e r ≤ r.2.2.2.2.2 := by
  unfold valR
  split
  · exact cntR_le h0
  · omega
theorem countS_step {l : List Rec} {k : Nat} {x : Rec} {w : List UInt8} {e : Int} (h : l[k]? = some x) : countS (l.take (k + 1)) w e = countS (l.take k) w e + valR w e x := by
  unfold countS
  rw [take_snoc h, List.map_append, List.sum_append]
  simp
theorem countS_le {l : List Rec} {w : List UInt8} {e : Int} (h : ∀ r, r ∈ l → 0 ≤ r.2.2.2.2.2 ∧ r.2.2.2.2.2 ≤ 1000) : 0 ≤ countS l w e ∧ countS l w e ≤ 1000 * l.length := by
  induction l with
  | nil => exact ⟨Int.le_refl _, Int.le_refl _⟩
  | cons x l ih =>
    have h1 := ih (fun r hr => h r (List.mem_cons_of_mem _ hr))
    have h2 := h x (List.mem_cons_self ..)
    have h3 := valR_le (w := w) (e := e) h2.1
    have e1 : countS (x :: l) w e = valR w e x + countS l w e := by unfold countS; rw [List.map_cons, List.sum_cons]
    rw [e1, List.length_cons]
    push_cast
    omega
end Go.Proofs.YtmjnkaabooockaaGreatDoor
namespace Go.Proofs.YtmjnkaabooockaaGreatDoor
set_option maxHeartbeats 4000000
set_option maxRecDepth 100000

theorem c_Means (o : Ord') (r : Rec) : PC env 87 [⟨OrderT, o⟩, ⟨RecordT, r⟩] .bool (decide (r.2.2.1 ≤ o.2.2.1) && rightR r && rightO o && meantB o r) := by
  refine PC.of_PW (m := 2000) env_ok fn_87 rfl rfl rfl rfl (by kernel_rfl) ?_; intro hx; simp only [Tryz.f87]; simp only [go_sem, Nat.reduceBEq, ↓reduceIte, ↓reduceDIte, Nat.reduceAdd, Nat.reduceSub, Nat.reduceMul, Nat.reduceLeDiff, ← Bool.decide_and, ← Bool.decide_or, ← decide_not, Int.reduceLT, Int.reduceLE, Int.reduceToNat, Int.reduceNeg, litP, appendC]
  refine ⟨fun h => ⟨_, c_rightR r, ?_⟩, fun h => ?_⟩
  · have hd : decide (r.2.2.1 ≤ o.2.2.1) = true := decide_eq_true (Int.not_lt.1 h)
    cases hr : rightR r
    · simp only [go_sem, Nat.reduceBEq, ↓reduceIte, ↓reduceDIte, Nat.reduceAdd, Nat.reduceSub, Nat.reduceMul, Nat.reduceLeDiff, ← Bool.decide_and, ← Bool.decide_or, ← decide_not, Int.reduceLT, Int.reduceLE, Int.reduceToNat, Int.reduceNeg, litP, appendC]
      try simp
    · simp only [go_sem, Nat.reduceBEq, ↓reduceIte, ↓reduceDIte, Nat.reduceAdd, Nat.reduceSub, Nat.reduceMul, Nat.reduceLeDiff, ← Bool.decide_and, ← Bool.decide_or, ← decide_not, Int.reduceLT, Int.reduceLE, Int.reduceToNat, Int.reduceNeg, litP, appendC]
      refine ⟨_, c_forms, fun _ => ⟨_, c_rightO o, ?_⟩⟩
      cases ho : rightO o
      · simp only [go_sem, Nat.reduceBEq, ↓reduceIte, ↓reduceDIte, Nat.reduceAdd, Nat.reduceSub, Nat.reduceMul, Nat.reduceLeDiff, ← Bool.decide_and, ← Bool.decide_or, ← decide_not, Int.reduceLT, Int.reduceLE, Int.reduceToNat, Int.reduceNeg, litP, appendC]
        try simp
      · simp only [go_sem, Nat.reduceBEq, ↓reduceIte, ↓reduceDIte, Nat.reduceAdd, Nat.reduceSub, Nat.reduceMul, Nat.reduceLeDiff, ← Bool.decide_and, ← Bool.decide_or, ← decide_not, Int.reduceLT, Int.reduceLE, Int.reduceToNat, Int.reduceNeg, litP, appendC]
        exact ⟨_, c_meant [o] r, by rw [hd]; simp⟩
  · have hd : decide (r.2.2.1 ≤ o.2.2.1) = false := decide_eq_false (Int.not_le.2 h)
    simp [hd]
def recOK (u : Usr) (r : Rec) : Bool := rightR r && decide (r.2.1 ≤ getL u.2.2 r.1) && !(hitAt plO u.2.1 (plR r) (bsI plO u.2.1 (plR r)) || u.2.1.any (fun o => meantB o r))
def ordOK (u : Usr) (o : Ord') : Bool := rightO o && decide (o.2.1 ≤ getL u.2.2 o.1)
def lastOK (x : Int) : Bool := decide (0 ≤ x ∧ x ≤ 1000000)
def validS (u : Usr) : Bool := decide (u.1.length ≤ 400 ∧ u.2.1.length ≤ 400) && ((lst u.2.2).all lastOK && (u.2.1.all (ordOK u) && ((sortedB plO u.2.1 && sortedB plR u.1) && u.1.all (recOK u))))
theorem last_step (L : L8) {k : Nat} {x : Int} (h : (lst L)[k]? = some x) : ((lst L).take (k + 1)).all lastOK = (((lst L).take k).all lastOK && lastOK x) := all_step h
end Go.Proofs.YtmjnkaabooockaaGreatDoor
namespace Go.Proofs.YtmjnkaabooockaaGreatDoor
set_option maxHeartbeats 4000000
section
variable {α : Type}
def insR (lt : α → α → Bool) : List α → α → List α
  | [], x => [x]
  | y :: r, x => if lt x y = true then y :: insR lt r x else x :: y :: r
def isort (lt : α → α → Bool) (xs : List α) : List α := (xs.foldl (insR lt) []).reverse
theorem insR_length (lt : α → α → Bool) (x : α) : ∀ r : List α, (insR lt r x).length = r.length + 1 := by
  intro r
  induction r with
  | nil => rfl
  | cons y r ih => unfold insR; split <;> simp [ih]
theorem foldl_insR_length (lt : α → α → Bool) : ∀ (xs r : List α), (xs.foldl (insR lt) r).length = r.length + xs.length := by
  intro xs
  induction xs with
  | nil => intro r; rfl
  | cons x xs ih => intro r; rw [List.foldl_cons, ih, insR_length, List.length_cons]; omega
def mid (l : List α) (x : α) (r : List α) : List α := l.reverse ++ x :: r
theorem mid_length (l : List α) (x : α) (r : List α) : (mid l x r).length = l.length + r.length + 1 := by simp [mid]; omega
theorem mid_at (l : List α) (x : α) (r : List α) : (mid l x r)[l.length]? = some x := by
  unfold mid
  rw [List.getElem?_append_right (by simp)]
  simp
theorem mid_cons (l : List α) (x y : α) (r : List α) : mid (y :: l) x r = mid l y (x :: r) := by simp [mid]
theorem mid_before (l : List α) (x y : α) (r : List α) : (mid (y :: l) x r)[l.length]? = some y := by rw [mid_cons]; exact mid_at l y _
theorem mid_set (l : List α) (x z : α) (r : List α) : (mid l x r).set l.length z = mid l z r := by
  unfold mid
  rw [List.set_append_right _ _ (by simp)]
  simp
theorem mid_swap (l : List α) (x y : α) (r : List α) : ((mid (y :: l) x r).set (l.length + 1) y).set l.length x = mid l x (y :: r) := by
  have h : (mid (y :: l) x r).set (l.length + 1) y = mid (y :: l) y r := mid_set (y :: l) x y r
  rw [h, mid_cons, mid_set]
end
end Go.Proofs.YtmjnkaabooockaaGreatDoor
namespace Go.Proofs.YtmjnkaabooockaaGreatDoor
set_option maxHeartbeats 4000000
set_option maxRecDepth 100000

def cmpS (x y : Rec) : Int := if cmpI x.2.2.1 y.2.2.1 ≠ 0 then cmpI x.2.2.1 y.2.2.1 else cmpP (plR x) (plR y)
def ltS (x y : Rec) : Bool := decide (cmpS x y < 0)
theorem c_Seen1 (x y : Rec) : PC env 53 [⟨RecordT, x⟩, ⟨RecordT, y⟩] (.int .i64) (cmpS x y) := by
  refine PC.of_PW (m := 2000) env_ok fn_53 rfl rfl rfl rfl (by kernel_rfl) ?_; intro hx; simp only [Tryz.f53]; simp only [go_sem, Nat.reduceBEq, ↓reduceIte, ↓reduceDIte, Nat.reduceAdd, Nat.reduceSub, Nat.reduceMul, Nat.reduceLeDiff, ← Bool.decide_and, ← Bool.decide_or, ← decide_not, Int.reduceLT, Int.reduceLE, Int.reduceToNat, Int.reduceNeg, litP, appendC]
  refine ⟨_, c_Compare _ _, fun _ => ⟨_, c_ofR x, fun _ => ⟨_, c_ofR y, fun _ => ⟨_, c_comp _ _, fun _ => ⟨_, c_Or _, fun _ => ?_⟩⟩⟩⟩⟩
  unfold cmpS plR
  by_cases h : cmpI x.2.2.1 y.2.2.1 = 0 <;> by_cases h' : cmpP (x.1, x.2.1) (y.1, y.2.1) = 0 <;> simp [h, h']
theorem start_ins (xs : List Rec) : xs = ((xs.take 1).foldl (insR ltS) []).reverse ++ xs.drop 1 := by
  match xs with
  | [] => rfl
  | x :: xs => rfl
theorem h_ins (xs : List Rec) : HC env 98 [.lfull 1000000000, .iv (.int .i64) (0 : Int), .iv (.int .i64) (xs.length : Int), .iv (.clo 53 .unit) ()] [(1000000000, .arr RecordT xs)] (.tup []) [(1000000000, .arr RecordT (isort ltS xs))] := by
  refine HC.of_PW (m := 2000) env_ok fn_98 rfl rfl rfl rfl (by kernel_rfl) ?_; intro hx hbl; simp only [Tryz.f98]; simp only [go_sem, Nat.reduceBEq, ↓reduceIte, ↓reduceDIte, Nat.reduceAdd, Nat.reduceSub, Nat.reduceMul, Nat.reduceLeDiff, ← Bool.decide_and, ← Bool.decide_or, ← decide_not, Int.reduceLT, Int.reduceLE, Int.reduceToNat, Int.reduceNeg, litP, appendC]
  have hlen : (xs.length : Int) ≤ 9223372036854775807 := by
    have := hx.2.2.1
    simp only [okP, Ty.ok, max_i64] at this
    exact this.2
  refine ⟨by omega, ?_⟩
  refine Walks.loopW (X := Nat) (fun k => ⟨[(8, .iv (.int .i64) (k : Int)), (0, .lfull 1000000000), (1, .iv (.int .i64) (0 : Int)), (2, .iv (.int .i64) (xs.length : Int)), (3, .fn 53 [])],
    [(1000000000, .arr RecordT (((xs.take k).foldl (insR ltS) []).reverse ++ xs.drop k))]⟩)
    (fun k => 1 ≤ k ∧ (k ≤ xs.length ∨ k = 1)) (fun k => xs.length - k) 1 ?_ ⟨Nat.le_refl _, Or.inr rfl⟩ ?_
  · refine ⟨⟨Or.inl rfl, Or.inl rfl, Or.inl rfl, Or.inl rfl, Or.inl rfl, trivial⟩, ⟨?_, trivial⟩, rfl, rfl⟩
    exact congrArg (Blk.arr RecordT) (start_ins xs)
  intro k ⟨hk, hk'⟩ back
  refine PW_sound env_ok ⟨_, fn_98, rfl⟩ 2000 _ _ (by kernel_rfl) ?_; simp only [go_sem, Nat.reduceBEq, ↓reduceIte, ↓reduceDIte, Nat.reduceAdd, Nat.reduceSub, Nat.reduceMul, Nat.reduceLeDiff, ← Bool.decide_and, ← Bool.decide_or, ← decide_not, Int.reduceLT, Int.reduceLE, Int.reduceToNat, Int.reduceNeg, litP, appendC]
  have hfl := foldl_insR_length ltS (xs.take k) []
  refine ⟨fun h => ?_, fun h => ?_⟩
  rotate_left
  · have : xs.length ≤ k := by omega
    rw [List.take_of_length_le this, List.drop_eq_nil_of_le this, List.append_nil]
    rfl
  have hkl : k < xs.length := by omega
  have htk : (xs.take k).length = k := by rw [List.length_take]; omega
  simp only [htk, List.length_nil, Nat.zero_add] at hfl
  obtain ⟨x, hxk⟩ := get_of_lt hkl
  refine Walks.loopW (X := List Rec × List Rec) (fun z => ⟨[(9, .iv (.int .i64) (z.1.length : Int)), (8, .iv (.int .i64) (k : Int)), (0, .lfull 1000000000), (1, .iv (.int .i64) (0 : Int)), (2, .iv (.int .i64) (xs.length : Int)), (3, .fn 53 [])],
    [(1000000000, .arr RecordT (mid z.1 x (z.2 ++ xs.drop (k + 1))))]⟩)
    (fun z => insR ltS ((xs.take k).foldl (insR ltS) []) x = z.2.reverse ++ insR ltS z.1 x ∧ z.1.length + z.2.length = k) (fun z => z.1.length) ((xs.take k).foldl (insR ltS) [], []) ?_ ⟨rfl, ?_⟩ ?_
  · refine ⟨⟨Or.inl ?_, Or.inl rfl, Or.inl rfl, Or.inl rfl, Or.inl rfl, Or.inl rfl, trivial⟩, ⟨?_, trivial⟩, rfl, rfl⟩
    · dsimp only
      rw [hfl]
      rfl
    · dsimp only
      rw [drop_cons hxk]
      rfl
  · exact hfl
  intro ⟨L, R⟩ ⟨hins, hLR⟩ back2
  dsimp only at hins hLR
  refine PW_sound env_ok ⟨_, fn_98, rfl⟩ 2000 _ _ (by kernel_rfl) ?_; simp only [go_sem, Nat.reduceBEq, ↓reduceIte, ↓reduceDIte, Nat.reduceAdd, Nat.reduceSub, Nat.reduceMul, Nat.reduceLeDiff, ← Bool.decide_and, ← Bool.decide_or, ← decide_not, Int.reduceLT, Int.reduceLE, Int.reduceToNat, Int.reduceNeg, litP, appendC]
  have hend : insR ltS L x = x :: L → mid L x (R ++ xs.drop (k + 1)) = ((xs.take (k + 1)).foldl (insR ltS) []).reverse ++ xs.drop (k + 1) := by
    intro e
    rw [take_snoc hxk, List.foldl_append, List.foldl_cons, List.foldl_nil, hins, e]
    simp [mid]
  have hml := mid_length L x (R ++ xs.drop (k + 1))
  refine ⟨fun c1 => ?_, fun c1 => ?_⟩
  · match L, c1 with
    | y :: L, _ =>
      have e1 : (((y :: L).length : Int) - 1).toNat = L.length := by simp
      simp only [e1]
      dsimp only [Ty.den] at *
      rw [List.length_cons] at *
      refine ⟨by omega, _, mid_at (y :: L) x _, by omega, by omega, _, mid_before L x y _, _, c_Seen1 x y, fun _ => ⟨fun c2 => ?_, fun c2 => ?_⟩⟩
      · have hset : ((mid (y :: L) x (R ++ xs.drop (k + 1))).set (L.length + 1) y).length = (mid (y :: L) x (R ++ xs.drop (k + 1))).length := List.length_set
        refine ⟨by omega, by omega, by omega, _, mid_before L x y _, by omega, _, mid_at (y :: L) x _, by omega, by rw [hset]; omega, by omega, ?_⟩
        refine back2 _ (L, y :: R) ?_ ⟨?_, ?_⟩ (by show L.length < L.length + 1; omega)
        · refine ⟨⟨Or.inl ?_, Or.inl rfl, Or.inl rfl, Or.inl rfl, Or.inl rfl, Or.inl rfl, trivial⟩, ⟨?_, trivial⟩, rfl, rfl⟩
          · dsimp only
            have : ((L.length + 1 : Nat) : Int) - 1 = L.length := by omega
            rw [this]
            rfl
          · exact congrArg (Blk.arr RecordT) (mid_swap L x y (R ++ xs.drop (k + 1)))
        · rw [hins, insR, if_pos (show ltS x y = true from decide_eq_true c2)]
          simp
        · show L.length + (R.length + 1) = k
          omega
      · have ex : insR ltS (y :: L) x = x :: y :: L := by rw [insR, if_neg (by simpa [ltS] using c2)]
        refine ⟨by omega, ?_⟩
        refine back _ (k + 1) ?_ ⟨by omega, by omega⟩ (by omega)
        refine ⟨⟨Or.inl rfl, Or.inl rfl, Or.inl rfl, Or.inl rfl, Or.inl rfl, trivial⟩, ⟨?_, trivial⟩, rfl, rfl⟩
        exact congrArg (Blk.arr RecordT) (hend ex)
  · have e0 : L = [] := List.length_eq_zero_iff.mp (by omega)
    subst e0
    refine ⟨by omega, ?_⟩
    refine back _ (k + 1) ?_ ⟨by omega, by omega⟩ (by omega)
    refine ⟨⟨Or.inl rfl, Or.inl rfl, Or.inl rfl, Or.inl rfl, Or.inl rfl, trivial⟩, ⟨?_, trivial⟩, rfl, rfl⟩
    exact congrArg (Blk.arr RecordT) (hend rfl)
theorem h_ins0 : HC env 98 [.nilsl, .iv (.int .i64) (0 : Int), .iv (.int .i64) (0 : Int), .iv (.clo 53 .unit) ()] [] (.tup []) [] := by
  refine HC.of_PW (m := 2000) env_ok fn_98 rfl rfl rfl rfl (by kernel_rfl) ?_; intro hx hbl; simp only [Tryz.f98]; simp only [go_sem, Nat.reduceBEq, ↓reduceIte, ↓reduceDIte, Nat.reduceAdd, Nat.reduceSub, Nat.reduceMul, Nat.reduceLeDiff, ← Bool.decide_and, ← Bool.decide_or, ← decide_not, Int.reduceLT, Int.reduceLE, Int.reduceToNat, Int.reduceNeg, litP, appendC]
  refine ⟨by omega, ?_⟩
  refine Walks.loopW (X := Unit) (fun _ => ⟨[(8, .iv (.int .i64) (1 : Int)), (2, .iv (.int .i64) (0 : Int))], []⟩) (fun _ => True) (fun _ => 0) () ⟨⟨Or.inl rfl, Or.inl rfl, trivial⟩, trivial, rfl, rfl⟩ trivial ?_
  intro _ _ back
  refine PW_sound env_ok ⟨_, fn_98, rfl⟩ 2000 _ _ (by kernel_rfl) ?_; simp only [go_sem, Nat.reduceBEq, ↓reduceIte, ↓reduceDIte, Nat.reduceAdd, Nat.reduceSub, Nat.reduceMul, Nat.reduceLeDiff, ← Bool.decide_and, ← Bool.decide_or, ← decide_not, Int.reduceLT, Int.reduceLE, Int.reduceToNat, Int.reduceNeg, litP, appendC]
def tb : List UInt8 := (List.range 256).map fun i => UInt8.ofNat (if i = 0 then 0 else Nat.log2 i + 1)
theorem tb_len : tb.length = 256 := by unfold tb; simp
def lenT (n : Int) : Int := 0 + ((tb.getD n.toNat 0).toNat : Int)
theorem c_Len64 (n : Int) (h0 : 0 ≤ n) (h : n ≤ 255) : PC env 107 [⟨.int .u64, n⟩] (.int .i64) (lenT n) := by
  have hw : IntKind.u8.wrap n = n := wrap_in _ ⟨h0, h⟩
  have key : ∀ (l : List UInt8), l = tb → l[n.toNat]? = some (tb.getD n.toNat 0) := by
    intro l hl
    subst hl
    have := tb_len
    rw [List.getD_eq_getElem?_getD, List.getElem?_eq_getElem (by omega)]
    rfl
  refine PC.of_PW (m := 2000) env_ok fn_107 rfl rfl rfl rfl (by kernel_rfl) ?_; intro hx; simp only [Tryz.f107]; simp only [go_sem, Nat.reduceBEq, ↓reduceIte, ↓reduceDIte, Nat.reduceAdd, Nat.reduceSub, Nat.reduceMul, Nat.reduceLeDiff, ← Bool.decide_and, ← Bool.decide_or, ← decide_not, Int.reduceLT, Int.reduceLE, Int.reduceToNat, Int.reduceNeg, litP, appendC]
  rw [hw]
  dsimp only [Ty.den] at *
  refine ⟨fun g => absurd g (by omega), fun _ => ⟨fun g => absurd g (by omega), fun _ => ⟨fun g => absurd g (by omega), fun _ => ⟨_, ⟨_, key _ (by kernel_rfl), rfl⟩, ?_, rfl⟩⟩⟩⟩
  have hb := UInt8.toNat_lt (tb.getD n.toNat 0)
  omega
theorem c_Len (n : Int) (h0 : 0 ≤ n) (h : n ≤ 255) : PC env 77 [⟨.int .u64, n⟩] (.int .i64) (lenT n) := by
  refine PC.of_PW (m := 2000) env_ok fn_77 rfl rfl rfl rfl (by kernel_rfl) ?_; intro hx; simp only [Tryz.f77]; simp only [go_sem, Nat.reduceBEq, ↓reduceIte, ↓reduceDIte, Nat.reduceAdd, Nat.reduceSub, Nat.reduceMul, Nat.reduceLeDiff, ← Bool.decide_and, ← Bool.decide_or, ← decide_not, Int.reduceLT, Int.reduceLE, Int.reduceToNat, Int.reduceNeg, litP, appendC]
  exact ⟨_, c_Len64 n h0 h, fun _ => rfl⟩
theorem h_pdq (xs : List Rec) (b : Int) (hn : xs.length ≤ 12) : HC env 76 [.lfull 1000000000, .iv (.int .i64) (0 : Int), .iv (.int .i64) (xs.length : Int), .iv (.int .i64) b, .iv (.clo 53 .unit) ()] [(1000000000, .arr RecordT xs)] (.tup []) [(1000000000, .arr RecordT (isort ltS xs))] := by
  refine HC.of_PW (m := 2000) env_ok fn_76 rfl rfl rfl rfl (by kernel_rfl) ?_; intro hx hbl; simp only [Tryz.f76]; simp only [go_sem, Nat.reduceBEq, ↓reduceIte, ↓reduceDIte, Nat.reduceAdd, Nat.reduceSub, Nat.reduceMul, Nat.reduceLeDiff, ← Bool.decide_and, ← Bool.decide_or, ← decide_not, Int.reduceLT, Int.reduceLE, Int.reduceToNat, Int.reduceNeg, litP, appendC]
  refine Walks.loopW (X := Unit) (fun _ => ⟨[(0, .lfull 1000000000), (1, .iv (.int .i64) (0 : Int)), (2, .iv (.int .i64) (xs.length : Int)), (4, .fn 53 [])], [(1000000000, .arr RecordT xs)]⟩) (fun _ => True) (fun _ => 0) () ⟨⟨Or.inl rfl, Or.inl rfl, Or.inl rfl, Or.inl rfl, trivial⟩, ⟨rfl, trivial⟩, rfl, rfl⟩ trivial ?_
  intro _ _ back
  refine PW_sound env_ok ⟨_, fn_76, rfl⟩ 2000 _ _ (by kernel_rfl) ?_; simp only [go_sem, Nat.reduceBEq, ↓reduceIte, ↓reduceDIte, Nat.reduceAdd, Nat.reduceSub, Nat.reduceMul, Nat.reduceLeDiff, ← Bool.decide_and, ← Bool.decide_or, ← decide_not, Int.reduceLT, Int.reduceLE, Int.reduceToNat, Int.reduceNeg, litP, appendC]
  refine ⟨by omega, fun _ => ⟨_, _, h_ins xs, ?_⟩, fun g => absurd g (by omega)⟩
  simp only [go_sem, Nat.reduceBEq, ↓reduceIte, ↓reduceDIte, Nat.reduceAdd, Nat.reduceSub, Nat.reduceMul, Nat.reduceLeDiff, ← Bool.decide_and, ← Bool.decide_or, ← decide_not, Int.reduceLT, Int.reduceLE, Int.reduceToNat, Int.reduceNeg, litP, appendC]
  exact fun _ => trivial
theorem h_Sort (xs : List Rec) (hn : xs.length ≤ 12) : HC env 52 [.lfull 1000000000, .iv (.clo 53 .unit) ()] [(1000000000, .arr RecordT xs)] (.tup []) [(1000000000, .arr RecordT (isort ltS xs))] := by
  refine HC.of_PW (m := 2000) env_ok fn_52 rfl rfl rfl rfl (by kernel_rfl) ?_; intro hx hbl; simp only [Tryz.f52]; simp only [go_sem, Nat.reduceBEq, ↓reduceIte, ↓reduceDIte, Nat.reduceAdd, Nat.reduceSub, Nat.reduceMul, Nat.reduceLeDiff, ← Bool.decide_and, ← Bool.decide_or, ← decide_not, Int.reduceLT, Int.reduceLE, Int.reduceToNat, Int.reduceNeg, litP, appendC]
  have hw : IntKind.u64.wrap (xs.length : Int) = (xs.length : Int) := wrap_in _ ⟨by simp only [min_u64]; omega, by simp only [max_u64]; omega⟩
  rw [hw]
  refine ⟨_, c_Len _ (by omega) (by omega), fun _ => ⟨_, _, h_pdq xs _ hn, ?_⟩⟩
  simp only [go_sem, Nat.reduceBEq, ↓reduceIte, ↓reduceDIte, Nat.reduceAdd, Nat.reduceSub, Nat.reduceMul, Nat.reduceLeDiff, ← Bool.decide_and, ← Bool.decide_or, ← decide_not, Int.reduceLT, Int.reduceLE, Int.reduceToNat, Int.reduceNeg, litP, appendC]
  exact fun _ => trivial

theorem h_Clone (xs : List Rec) (h : xs ≠ []) (hl : xs.length ≤ 100000) : HC env 51 [.iv (.sl RecordT) xs] [] (.lfull 5) [(5, .arr RecordT xs)] := by
  refine HC.of_PW (m := 2000) env_ok fn_51 rfl rfl rfl rfl (by kernel_rfl) ?_; intro hx hbl; simp only [Tryz.f51]; simp only [go_sem, Nat.reduceBEq, ↓reduceIte, ↓reduceDIte, Nat.reduceAdd, Nat.reduceSub, Nat.reduceMul, Nat.reduceLeDiff, ← Bool.decide_and, ← Bool.decide_or, ← decide_not, Int.reduceLT, Int.reduceLE, Int.reduceToNat, Int.reduceNeg, litP, appendC]
  intro b hb
  cases b
  · simp only [go_sem, Nat.reduceBEq, ↓reduceIte, ↓reduceDIte, Nat.reduceAdd, Nat.reduceSub, Nat.reduceMul, Nat.reduceLeDiff, ← Bool.decide_and, ← Bool.decide_or, ← decide_not, Int.reduceLT, Int.reduceLE, Int.reduceToNat, Int.reduceNeg, litP, appendC]
    exact Nat.le_trans hl (by decide)
  · exact absurd (hb rfl) h
def seenS (l : List Rec) : List Rec := isort ltS l
theorem c_Seen (u : Usr) (h : u.1 ≠ []) (hl : u.1.length ≤ 12) : PC env 29 [⟨UserT, u⟩] (.sl RecordT) (seenS u.1) := by
  refine PC.of_PW (m := 2000) env_ok fn_29 rfl rfl rfl rfl (by kernel_rfl) ?_; intro hx; simp only [Tryz.f29]; simp only [go_sem, Nat.reduceBEq, ↓reduceIte, ↓reduceDIte, Nat.reduceAdd, Nat.reduceSub, Nat.reduceMul, Nat.reduceLeDiff, ← Bool.decide_and, ← Bool.decide_or, ← decide_not, Int.reduceLT, Int.reduceLE, Int.reduceToNat, Int.reduceNeg, litP, appendC]
  refine ⟨_, _, h_Clone u.1 h (by omega), ?_⟩
  simp only [go_sem, Nat.reduceBEq, ↓reduceIte, ↓reduceDIte, Nat.reduceAdd, Nat.reduceSub, Nat.reduceMul, Nat.reduceLeDiff, ← Bool.decide_and, ← Bool.decide_or, ← decide_not, Int.reduceLT, Int.reduceLE, Int.reduceToNat, Int.reduceNeg, litP, appendC]
  intro _
  refine ⟨_, _, h_Sort _ hl, ?_⟩
  simp only [go_sem, Nat.reduceBEq, ↓reduceIte, ↓reduceDIte, Nat.reduceAdd, Nat.reduceSub, Nat.reduceMul, Nat.reduceLeDiff, ← Bool.decide_and, ← Bool.decide_or, ← decide_not, Int.reduceLT, Int.reduceLE, Int.reduceToNat, Int.reduceNeg, litP, appendC]
  exact fun _ => rfl
end Go.Proofs.YtmjnkaabooockaaGreatDoor
namespace Go.Proofs.YtmjnkaabooockaaGreatDoor
set_option maxHeartbeats 4000000
set_option maxRecDepth 100000

abbrev Raw6 := Int × Int × Int × Int × Int × Int
def fourW : List (List UInt8) := [[65], [65, 66], [66], [67, 49]]
def rawW (n : Int) : List UInt8 := fourW.getD (n % 4).toNat []
theorem c_WordR (n : Int) : PC env 24 [⟨.int .u8, n⟩] .str (rawW n) := by
  refine PC.of_PW (m := 2000) env_ok fn_24 rfl rfl rfl rfl (by kernel_rfl) ?_; intro hx; simp only [Tryz.f24]; simp only [go_sem, Nat.reduceBEq, ↓reduceIte, ↓reduceDIte, Nat.reduceAdd, Nat.reduceSub, Nat.reduceMul, Nat.reduceLeDiff, ← Bool.decide_and, ← Bool.decide_or, ← decide_not, Int.reduceLT, Int.reduceLE, Int.reduceToNat, Int.reduceNeg]
  have h0 := (u8_of hx.1).1
  dsimp only at h0
  rw [Int.tmod_eq_emod_of_nonneg h0]
  have h4 : n % 4 = 0 ∨ n % 4 = 1 ∨ n % 4 = 2 ∨ n % 4 = 3 := by omega
  refine ⟨by omega, rawW n, ?_, rfl⟩
  unfold rawW fourW
  rcases h4 with h | h | h | h <;> rw [h] <;> rfl
theorem rawW_ok (n : Int) : wordB (rawW n) = true := by
  unfold rawW fourW
  have h4 : n % 4 = 0 ∨ n % 4 = 1 ∨ n % 4 = 2 ∨ n % 4 = 3 := by omega
  rcases h4 with h | h | h | h <;> rw [h] <;> decide
theorem raw_pos {x : Raw6} (h : RawT.ok x) : 0 ≤ x.1 ∧ 0 ≤ x.2.1 ∧ 0 ≤ x.2.2.1 ∧ 0 ≤ x.2.2.2.1 ∧ 0 ≤ x.2.2.2.2.1 ∧ 0 ≤ x.2.2.2.2.2 := by
  obtain ⟨h1, h2, h3, h4, h5, h6⟩ := h
  exact ⟨(u8_of h1).1, (u8_of h2).1, (u8_of h3).1, (u8_of h4).1, (u8_of h5).1, (u8_of h6).1⟩
def recS (x : Raw6) : Rec := (x.2.1 % 3, 1, x.2.2.1 % 10, rawW x.2.2.2.1, x.2.2.2.2.1 % 3, 1 + x.2.2.2.2.2 % 9)
theorem c_Record (x : Raw6) : PC env 18 [⟨RawT, x⟩] RecordT (recS x) := by
  refine PC.of_PW (m := 2000) env_ok fn_18 rfl rfl rfl rfl (by kernel_rfl) ?_; intro hx; simp only [Tryz.f18]; simp only [go_sem, Nat.reduceBEq, ↓reduceIte, ↓reduceDIte, Nat.reduceAdd, Nat.reduceSub, Nat.reduceMul, Nat.reduceLeDiff, ← Bool.decide_and, ← Bool.decide_or, ← decide_not, Int.reduceLT, Int.reduceLE, Int.reduceToNat, Int.reduceNeg]
  obtain ⟨h1, h2, h3, h4, h5, h6⟩ := raw_pos hx.1
  dsimp only at h1 h2 h3 h4 h5 h6
  rw [Int.tmod_eq_emod_of_nonneg h2, Int.tmod_eq_emod_of_nonneg h3, Int.tmod_eq_emod_of_nonneg h5, Int.tmod_eq_emod_of_nonneg h6]
  exact ⟨_, c_WordR _, fun _ => ⟨i64_ok (by omega) (by omega), rfl⟩⟩
theorem c_IsOrder (x : Raw6) : PC env 49 [⟨RawT, x⟩] .bool (decide (x.1 % 3 = 0)) := by
  refine PC.of_PW (m := 2000) env_ok fn_49 rfl rfl rfl rfl (by kernel_rfl) ?_; intro hx; simp only [Tryz.f49]; simp only [go_sem, Nat.reduceBEq, ↓reduceIte, ↓reduceDIte, Nat.reduceAdd, Nat.reduceSub, Nat.reduceMul, Nat.reduceLeDiff, ← Bool.decide_and, ← Bool.decide_or, ← decide_not, Int.reduceLT, Int.reduceLE, Int.reduceToNat, Int.reduceNeg]
  obtain ⟨h1, _⟩ := raw_pos hx.1
  dsimp only at h1
  rw [Int.tmod_eq_emod_of_nonneg h1]
def kindS (x : Raw6) : Int := 1 + x.1 / 3 % 5
def ordS (x : Raw6) : Ord' := (x.2.1 % 3, 1, x.2.2.1 % 10, kindS x,
  if kindS x = 1 then rawW x.2.2.2.1 else [],
  if kindS x = 1 then 0 else if kindS x = 2 ∨ kindS x = 3 then x.2.2.2.2.1 % 3 else if kindS x = 4 then x.2.2.2.2.2 % (x.2.2.1 % 10 + 1) else 1 + x.2.2.2.2.2 % 6,
  if kindS x = 5 then x.2.2.2.2.1 % 3 else 0)
theorem c_Order (x : Raw6) : PC env 17 [⟨RawT, x⟩] OrderT (ordS x) := by
  refine PC.of_PW (m := 2000) env_ok fn_17 rfl rfl rfl rfl (by kernel_rfl) ?_; intro hx; simp only [Tryz.f17]; simp only [go_sem, Nat.reduceBEq, ↓reduceIte, ↓reduceDIte, Nat.reduceAdd, Nat.reduceSub, Nat.reduceMul, Nat.reduceLeDiff, ← Bool.decide_and, ← Bool.decide_or, ← decide_not, Int.reduceLT, Int.reduceLE, Int.reduceToNat, Int.reduceNeg]
  obtain ⟨h1, h2, h3, h4, h5, h6⟩ := raw_pos hx.1
  dsimp only at h1 h2 h3 h4 h5 h6
  rw [Int.tmod_eq_emod_of_nonneg h2, Int.tmod_eq_emod_of_nonneg h3, Int.tmod_eq_emod_of_nonneg h5, Int.tmod_eq_emod_of_nonneg h6, Int.tmod_eq_emod_of_nonneg h6, Int.tmod_eq_emod_of_nonneg (a := x.1 / 3) (by omega)]
  have hk : 1 + x.1 / 3 % 5 = kindS x := rfl
  rw [hk]
  have hk1 : 1 ≤ kindS x ∧ kindS x ≤ 5 := by unfold kindS; omega
  have hz : kindS x = 1 ∨ kindS x = 2 ∨ kindS x = 3 ∨ kindS x = 4 ∨ kindS x = 5 := by omega
  unfold ordS
  rcases hz with h | h | h | h | h <;> rw [h] <;> simp
  · exact ⟨h1, _, c_WordR _, fun _ => rfl⟩
  · exact h1
  · exact h1
  · have ha := Int.emod_nonneg x.2.2.1 (show (10 : Int) ≠ 0 by decide)
    have hb := Int.emod_lt_of_pos x.2.2.1 (show (0 : Int) < 10 by decide)
    exact ⟨h1, ⟨Int.le_trans (by decide) (Int.add_le_add ha (Int.le_refl 1)), Int.le_trans (Int.add_le_add (Int.le_of_lt hb) (Int.le_refl 1)) (by decide)⟩, Int.lt_of_lt_of_le (by decide) (Int.add_le_add ha (Int.le_refl 1))⟩
  · have ha := Int.emod_nonneg x.2.2.2.2.2 (show (6 : Int) ≠ 0 by decide)
    have hb := Int.emod_lt_of_pos x.2.2.2.2.2 (show (0 : Int) < 6 by decide)
    exact ⟨h1, Int.le_trans (by decide) (Int.add_le_add (Int.le_refl 1) ha), Int.le_trans (Int.add_le_add (Int.le_refl 1) (Int.le_of_lt hb)) (by decide)⟩
end Go.Proofs.YtmjnkaabooockaaGreatDoor
