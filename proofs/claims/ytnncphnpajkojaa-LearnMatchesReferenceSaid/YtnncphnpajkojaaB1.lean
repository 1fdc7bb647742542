/- Insertion, plainly. Nothing here is trusted; no condition. -/
import Derived.Test.YtnncphnpajkojaaA9
import Derived.Test.YtnncphnpajkojaaProg
set_option linter.unusedSimpArgs false
set_option linter.unusedVariables false
namespace Go.Proofs.Ytnncphnpajkojaa
set_option maxRecDepth 100000

/-- runtime.boundsError -/
abbrev BoundsErrorT : Ty := (.st (.pair (.int .i64) (.pair (.int .i64) (.pair .bool (.int .u8)))))
/-- runtime.errorAddressString -/
abbrev ErrorAddressStringT : Ty := (.st (.pair .str (.int .u64)))
/-- syllabaryref24.Raw -/
abbrev RawT : Ty := (.st (.pair (.int .u8) (.pair (.int .u8) (.pair (.int .u8) (.pair (.int .u8) (.pair (.int .u8) (.int .u8)))))))
/-- api.Record -/
abbrev RecordT : Ty := (.st (.pair (.int .i64) (.pair (.int .i64) (.pair (.int .i64) (.pair .str (.pair (.int .i64) (.int .i64)))))))
/-- api.Order -/
abbrev OrderT : Ty := (.st (.pair (.int .i64) (.pair (.int .i64) (.pair (.int .i64) (.pair (.int .i64) (.pair .str (.pair (.int .i64) (.int .i64))))))))
/-- api.User -/
abbrev UserT : Ty := (.st (.pair (.sl RecordT) (.pair (.sl OrderT) (.st (.pair (.int .i64) (.pair (.int .i64) (.pair (.int .i64) (.pair (.int .i64) (.pair (.int .i64) (.pair (.int .i64) (.pair (.int .i64) (.int .i64))))))))))))
/-- syllabaryref24.Learnt -/
abbrev LearntT : Ty := (.st (.pair UserT (.pair (.int .i64) (.int .i64))))
/-- learn.form -/
abbrev FormT : Ty := (.st (.pair .fnv .fnv))
/-- api.Tally -/
abbrev TallyT : Ty := (.st (.pair (.int .i64) (.int .i64)))
/-- learn.place -/
abbrev PlaceT : Ty := (.st (.pair (.int .i64) (.int .i64)))
def tys : List (Nat × Ty) := [(1, .fnv), (2, (.int .i64)), (3, (.int .i64)), (4, .bool), (5, (.int .u8)), (6, (.int .u8)), (7, BoundsErrorT), (8, BoundsErrorT), (9, .str), (10, .str), (11, .str), (12, (.int .u64)), (13, ErrorAddressStringT), (14, ErrorAddressStringT), (21, (.int .i32)), (22, (.sl RawT)), (23, (.st (.pair (.int .u8) (.int .u8)))), (24, .fnv), (25, (.sl RecordT)), (26, (.sl OrderT)), (27, (.st (.pair (.int .i64) (.pair (.int .i64) (.pair (.int .i64) (.pair (.int .i64) (.pair (.int .i64) (.pair (.int .i64) (.pair (.int .i64) (.int .i64)))))))))), (28, UserT), (29, UserT), (30, (.int .i64)), (32, .fnv), (33, OrderT), (34, OrderT), (35, .fnv), (36, RawT), (37, RawT), (38, .fnv), (39, LearntT), (40, LearntT), (41, .fnv), (42, RecordT), (43, RecordT), (44, .fnv), (45, .fnv), (46, .fnv), (47, .fnv), (48, .fnv), (49, .fnv), (50, .fnv), (51, .fnv), (52, .fnv), (53, .fnv), (54, .fnv), (55, .fnv), (56, .fnv), (57, .fnv), (58, .fnv), (59, .fnv), (60, .fnv), (61, .fnv), (62, .fnv), (63, .fnv), (64, (.mp (.int .i64) FormT)), (65, .fnv), (66, .fnv), (67, .fnv), (68, .fnv), (69, .fnv), (70, .fnv), (71, .fnv), (73, .fnv), (74, .fnv), (75, .fnv), (76, (.sl .str)), (78, .fnv), (79, TallyT), (80, TallyT), (81, .fnv), (82, .fnv), (83, .fnv), (84, .fnv), (85, .fnv), (86, PlaceT), (87, PlaceT), (88, .fnv), (89, .fnv), (90, .fnv), (91, .fnv), (92, (.st (.pair (.int .i64) (.int .i64)))), (93, .fnv), (94, .fnv), (95, .fnv), (97, .fnv), (98, .fnv), (99, FormT), (100, FormT), (101, .fnv), (103, .fnv), (104, .fnv), (105, .fnv), (106, .fnv), (107, (.int .i64)), (108, .fnv), (109, .fnv), (110, (.int .u64)), (111, (.sl (.int .i64))), (112, .fnv), (113, .fnv), (114, .fnv), (115, (.sl (.sl OrderT))), (116, .fnv), (117, .fnv), (118, .fnv), (119, .fnv), (120, .fnv), (121, (.int .i64)), (123, .fnv), (124, .fnv), (125, .fnv), (126, .fnv), (127, .fnv), (128, (.int .u32)), (129, .fnv), (130, (.int .u64)), (131, .fnv), (132, .fnv), (133, .fnv), (134, (.sl (.sl RecordT))), (135, .fnv), (136, (.int .u64)), (137, .fnv), (138, .fnv), (139, .fnv), (141, .fnv), (144, .fnv), (145, .fnv), (151, .fnv), (152, (.int .u8)), (153, (.int .u8)), (154, .fnv), (156, (.int .i32)), (157, (.int .i32))]
def strs : List Nat := [7, 8, 13, 14, 28, 29, 33, 34, 36, 37, 39, 40, 42, 43, 79, 80, 86, 87, 99, 100]
def cmps : List Nat := [7, 8, 23, 27, 33, 34, 36, 37, 42, 43, 79, 80, 86, 87, 92]
def fns : List (Nat × (List Ty × Ty)) := [(2, ([], .unit)),
  (3, ([(.sl RawT), (.st (.pair (.int .u8) (.int .u8)))], .bool)),
  (4, ([(.sl RawT), RecordT, OrderT], .bool)),
  (5, ([(.sl RawT)], .bool)),
  (6, ([(.sl RawT)], .bool)),
  (7, ([(.sl RawT), RawT, (.st (.pair (.int .u8) (.int .u8)))], .bool)),
  (8, ([(.sl RawT), RawT, (.int .u8)], .bool)),
  (9, ([(.sl RawT), (.int .u8)], .bool)),
  (10, ([], .bool)),
  (11, ([UserT, OrderT], (.tup UserT (.int .i64)))),
  (12, ([RawT], OrderT)),
  (13, ([UserT, OrderT], (.tup UserT (.int .i64)))),
  (14, ([LearntT, LearntT], .bool)),
  (15, ([UserT, RecordT], LearntT)),
  (16, ([RawT], RecordT)),
  (17, ([UserT, RecordT], LearntT)),
  (18, ([UserT, UserT], .bool)),
  (19, ([UserT, RawT], UserT)),
  (20, ([(.int .u8)], .str)),
  (21, ([UserT, .str, (.int .i64)], (.int .i64))),
  (22, ([UserT, .str, (.int .i64)], (.int .i64))),
  (23, ([(.sl RecordT), (.sl RecordT)], .bool)),
  (24, ([UserT], (.sl RecordT))),
  (25, ([UserT], (.sl RecordT))),
  (26, ([(.sl RawT), (.int .i64)], UserT)),
  (27, ([OrderT, RecordT], .bool)),
  (28, ([OrderT, RecordT], .bool)),
  (29, ([UserT], .bool)),
  (30, ([UserT], .bool)),
  (31, ([UserT, RawT], (.tup UserT (.int .i64)))),
  (32, ([RawT], .bool)),
  (33, ([(.sl RecordT), RecordT], (.sl RecordT))),
  (34, ([(.sl RecordT), (.sl OrderT)], (.sl RecordT))),
  (38, ([OrderT], PlaceT)),
  (40, ([OrderT], .bool)),
  (41, ([(.sl OrderT), OrderT], (.sl OrderT))),
  (42, ([UserT, RecordT], (.tup UserT (.tup (.int .i64) (.int .i64))))),
  (43, ([RecordT], .bool)),
  (44, ([(.sl OrderT), RecordT], .bool)),
  (45, ([TallyT, (.int .i64)], (.tup (.int .i64) (.int .i64)))),
  (46, ([RecordT, (.int .i64)], (.int .i64))),
  (50, ([(.sl (.int .i64))], (.int .i64))),
  (51, ([(.int .i64), (.int .i64)], (.int .i64))),
  (52, ([RecordT], PlaceT)),
  (53, ([PlaceT, PlaceT], (.int .i64))),
  (54, ([(.st (.pair (.int .i64) (.int .i64))), (.st (.pair (.int .i64) (.int .i64)))], .bool)),
  (55, ([RecordT], .bool)),
  (56, ([(.int .i64), (.int .i64), (.int .i64)], .bool)),
  (60, ([(.int .i64), (.int .i64), (.int .i64)], .bool)),
  (61, ([OrderT], .bool)),
  (62, ([.str], .bool)),
  (63, ([OrderT, RecordT], .bool)),
  (64, ([OrderT], .bool)),
  (65, ([OrderT, RecordT], .bool)),
  (66, ([OrderT], .bool)),
  (67, ([OrderT, RecordT], .bool)),
  (68, ([OrderT], .bool)),
  (69, ([OrderT, RecordT], .bool)),
  (70, ([OrderT], .bool)),
  (71, ([OrderT, RecordT], .bool)),
  (72, ([PlaceT, (.int .i64)], .bool)),
  (73, ([(.sl (.sl OrderT))], (.sl OrderT))),
  (76, ([.str], .bool)),
  (78, ([(.int .i64), (.int .i64)], (.int .i64))),
  (79, ([(.int .i64), (.int .i64)], (.int .i64))),
  (81, ([(.int .u64)], (.int .i64))),
  (82, ([(.int .i64)], .bool)),
  (85, ([.str], .bool)),
  (88, ([(.int .i64), (.int .i64), (.int .i64)], .bool)),
  (89, ([.str], .bool)),
  (91, ([(.sl (.sl RecordT))], (.sl RecordT))),
  (100, ([(.int .u32)], (.int .i64))),
  (101, ([(.int .u64)], (.int .i64))),
  (102, ([(.int .u8)], (.int .i64))),
  (107, ([(.int .i64)], (.int .u64))),
  (35, ([], (.mp (.int .i64) FormT))),
  (36, ([(.mp (.int .i64) FormT), OrderT], .bool)),
  (37, ([(.sl OrderT), .fnv, OrderT], (.sl OrderT))),
  (39, ([(.mp (.int .i64) FormT), (.sl OrderT), RecordT], .bool)),
  (49, ([RecordT, RecordT], (.int .i64))),
  (57, ([(.sl OrderT), .fnv], .bool)),
  (58, ([(.sl RecordT), .fnv], .bool)),
  (59, ([(.sl OrderT), .fnv, PlaceT], (.tup (.int .i64) .bool))),
  (74, ([(.sl OrderT), (.clo 75 (.pair (.ptr (.mp (.int .i64) FormT)) (.ptr RecordT)))], .bool)),
  (75, ([OrderT, (.ptr (.mp (.int .i64) FormT)), (.ptr RecordT)], .bool)),
  (77, ([(.sl RecordT), .fnv, RecordT], (.sl RecordT))),
  (83, ([(.sl OrderT), PlaceT, (.clo 84 (.ptr .fnv))], (.tup (.int .i64) .bool))),
  (84, ([OrderT, PlaceT, (.ptr .fnv)], (.int .i64))),
  (87, ([(.sl OrderT), (.clo 75 (.pair (.ptr (.mp (.int .i64) FormT)) (.ptr RecordT)))], (.int .i64))),
  (90, ([(.sl RecordT), .fnv, PlaceT], (.tup (.int .i64) .bool))),
  (103, ([(.sl RecordT), PlaceT, (.clo 104 (.ptr .fnv))], (.tup (.int .i64) .bool))),
  (104, ([RecordT, PlaceT, (.ptr .fnv)], (.int .i64)))]
def hfns : List (Nat × List (Option Ty)) := [(47, [some (.sl RecordT)]), (48, [none, none]), (80, [none, some (.int .i64), some (.int .i64), some (.int .i64), none]), (86, [none, some (.int .i64)]), (92, [none, some (.int .i64), some (.int .i64), none]), (105, [none, some (.int .i64)])]
def keyTs : List (Nat × Nat) := [(64, 3)]
noncomputable def env : Env := mkEnv Try.prog tys strs cmps fns hfns keyTs [(22, 26), (26, 115), (22, 25), (26, 134), (58, 26)] true
theorem e_ro0 (d t : Nat) : env.ro d t = roAt [(22, 26), (26, 115), (22, 25), (26, 134), (58, 26)] d t := rfl
theorem e_tm0 : env.tm = true := rfl
theorem env_ok : EnvOK env := mkEnv_ok (by kernel_rfl) (by kernel_rfl) (by kernel_rfl) (by kernel_rfl) (by kernel_rfl) (by kernel_rfl)
theorem e_key64 : env.mapKey 64 = some 3 := rfl
theorem e_ty1 : env.ty 1 = some .fnv := rfl
theorem e_ty2 : env.ty 2 = some (.int .i64) := rfl
theorem e_ty3 : env.ty 3 = some (.int .i64) := rfl
theorem e_ty4 : env.ty 4 = some .bool := rfl
theorem e_ty5 : env.ty 5 = some (.int .u8) := rfl
theorem e_ty6 : env.ty 6 = some (.int .u8) := rfl
theorem e_ty7 : env.ty 7 = some BoundsErrorT := rfl
theorem e_ty8 : env.ty 8 = some BoundsErrorT := rfl
theorem e_ty9 : env.ty 9 = some .str := rfl
theorem e_ty10 : env.ty 10 = some .str := rfl
theorem e_ty11 : env.ty 11 = some .str := rfl
theorem e_ty12 : env.ty 12 = some (.int .u64) := rfl
theorem e_ty13 : env.ty 13 = some ErrorAddressStringT := rfl
theorem e_ty14 : env.ty 14 = some ErrorAddressStringT := rfl
theorem e_ty21 : env.ty 21 = some (.int .i32) := rfl
theorem e_ty22 : env.ty 22 = some (.sl RawT) := rfl
theorem e_ty23 : env.ty 23 = some (.st (.pair (.int .u8) (.int .u8))) := rfl
theorem e_ty24 : env.ty 24 = some .fnv := rfl
theorem e_ty25 : env.ty 25 = some (.sl RecordT) := rfl
theorem e_ty26 : env.ty 26 = some (.sl OrderT) := rfl
theorem e_ty27 : env.ty 27 = some (.st (.pair (.int .i64) (.pair (.int .i64) (.pair (.int .i64) (.pair (.int .i64) (.pair (.int .i64) (.pair (.int .i64) (.pair (.int .i64) (.int .i64))))))))) := rfl
theorem e_ty28 : env.ty 28 = some UserT := rfl
theorem e_ty29 : env.ty 29 = some UserT := rfl
theorem e_ty30 : env.ty 30 = some (.int .i64) := rfl
theorem e_ty32 : env.ty 32 = some .fnv := rfl
theorem e_ty33 : env.ty 33 = some OrderT := rfl
theorem e_ty34 : env.ty 34 = some OrderT := rfl
theorem e_ty35 : env.ty 35 = some .fnv := rfl
theorem e_ty36 : env.ty 36 = some RawT := rfl
theorem e_ty37 : env.ty 37 = some RawT := rfl
theorem e_ty38 : env.ty 38 = some .fnv := rfl
theorem e_ty39 : env.ty 39 = some LearntT := rfl
theorem e_ty40 : env.ty 40 = some LearntT := rfl
theorem e_ty41 : env.ty 41 = some .fnv := rfl
theorem e_ty42 : env.ty 42 = some RecordT := rfl
theorem e_ty43 : env.ty 43 = some RecordT := rfl
theorem e_ty44 : env.ty 44 = some .fnv := rfl
theorem e_ty45 : env.ty 45 = some .fnv := rfl
theorem e_ty46 : env.ty 46 = some .fnv := rfl
theorem e_ty47 : env.ty 47 = some .fnv := rfl
theorem e_ty48 : env.ty 48 = some .fnv := rfl
theorem e_ty49 : env.ty 49 = some .fnv := rfl
theorem e_ty50 : env.ty 50 = some .fnv := rfl
theorem e_ty51 : env.ty 51 = some .fnv := rfl
theorem e_ty52 : env.ty 52 = some .fnv := rfl
theorem e_ty53 : env.ty 53 = some .fnv := rfl
theorem e_ty54 : env.ty 54 = some .fnv := rfl
theorem e_ty55 : env.ty 55 = some .fnv := rfl
theorem e_ty56 : env.ty 56 = some .fnv := rfl
theorem e_ty57 : env.ty 57 = some .fnv := rfl
theorem e_ty58 : env.ty 58 = some .fnv := rfl
theorem e_ty59 : env.ty 59 = some .fnv := rfl
theorem e_ty60 : env.ty 60 = some .fnv := rfl
theorem e_ty61 : env.ty 61 = some .fnv := rfl
theorem e_ty62 : env.ty 62 = some .fnv := rfl
theorem e_ty63 : env.ty 63 = some .fnv := rfl
theorem e_ty64 : env.ty 64 = some (.mp (.int .i64) FormT) := rfl
theorem e_ty65 : env.ty 65 = some .fnv := rfl
theorem e_ty66 : env.ty 66 = some .fnv := rfl
theorem e_ty67 : env.ty 67 = some .fnv := rfl
theorem e_ty68 : env.ty 68 = some .fnv := rfl
theorem e_ty69 : env.ty 69 = some .fnv := rfl
theorem e_ty70 : env.ty 70 = some .fnv := rfl
theorem e_ty71 : env.ty 71 = some .fnv := rfl
theorem e_ty73 : env.ty 73 = some .fnv := rfl
theorem e_ty74 : env.ty 74 = some .fnv := rfl
theorem e_ty75 : env.ty 75 = some .fnv := rfl
theorem e_ty76 : env.ty 76 = some (.sl .str) := rfl
theorem e_ty78 : env.ty 78 = some .fnv := rfl
theorem e_ty79 : env.ty 79 = some TallyT := rfl
theorem e_ty80 : env.ty 80 = some TallyT := rfl
theorem e_ty81 : env.ty 81 = some .fnv := rfl
theorem e_ty82 : env.ty 82 = some .fnv := rfl
theorem e_ty83 : env.ty 83 = some .fnv := rfl
theorem e_ty84 : env.ty 84 = some .fnv := rfl
theorem e_ty85 : env.ty 85 = some .fnv := rfl
theorem e_ty86 : env.ty 86 = some PlaceT := rfl
theorem e_ty87 : env.ty 87 = some PlaceT := rfl
theorem e_ty88 : env.ty 88 = some .fnv := rfl
theorem e_ty89 : env.ty 89 = some .fnv := rfl
theorem e_ty90 : env.ty 90 = some .fnv := rfl
theorem e_ty91 : env.ty 91 = some .fnv := rfl
theorem e_ty92 : env.ty 92 = some (.st (.pair (.int .i64) (.int .i64))) := rfl
theorem e_ty93 : env.ty 93 = some .fnv := rfl
theorem e_ty94 : env.ty 94 = some .fnv := rfl
theorem e_ty95 : env.ty 95 = some .fnv := rfl
theorem e_ty97 : env.ty 97 = some .fnv := rfl
theorem e_ty98 : env.ty 98 = some .fnv := rfl
theorem e_ty99 : env.ty 99 = some FormT := rfl
theorem e_ty100 : env.ty 100 = some FormT := rfl
theorem e_ty101 : env.ty 101 = some .fnv := rfl
theorem e_ty103 : env.ty 103 = some .fnv := rfl
theorem e_ty104 : env.ty 104 = some .fnv := rfl
theorem e_ty105 : env.ty 105 = some .fnv := rfl
theorem e_ty106 : env.ty 106 = some .fnv := rfl
theorem e_ty107 : env.ty 107 = some (.int .i64) := rfl
theorem e_ty108 : env.ty 108 = some .fnv := rfl
theorem e_ty109 : env.ty 109 = some .fnv := rfl
theorem e_ty110 : env.ty 110 = some (.int .u64) := rfl
theorem e_ty111 : env.ty 111 = some (.sl (.int .i64)) := rfl
theorem e_ty112 : env.ty 112 = some .fnv := rfl
theorem e_ty113 : env.ty 113 = some .fnv := rfl
theorem e_ty114 : env.ty 114 = some .fnv := rfl
theorem e_ty115 : env.ty 115 = some (.sl (.sl OrderT)) := rfl
theorem e_ty116 : env.ty 116 = some .fnv := rfl
theorem e_ty117 : env.ty 117 = some .fnv := rfl
theorem e_ty118 : env.ty 118 = some .fnv := rfl
theorem e_ty119 : env.ty 119 = some .fnv := rfl
theorem e_ty120 : env.ty 120 = some .fnv := rfl
theorem e_ty121 : env.ty 121 = some (.int .i64) := rfl
theorem e_ty123 : env.ty 123 = some .fnv := rfl
theorem e_ty124 : env.ty 124 = some .fnv := rfl
theorem e_ty125 : env.ty 125 = some .fnv := rfl
theorem e_ty126 : env.ty 126 = some .fnv := rfl
theorem e_ty127 : env.ty 127 = some .fnv := rfl
theorem e_ty128 : env.ty 128 = some (.int .u32) := rfl
theorem e_ty129 : env.ty 129 = some .fnv := rfl
theorem e_ty130 : env.ty 130 = some (.int .u64) := rfl
theorem e_ty131 : env.ty 131 = some .fnv := rfl
theorem e_ty132 : env.ty 132 = some .fnv := rfl
theorem e_ty133 : env.ty 133 = some .fnv := rfl
theorem e_ty134 : env.ty 134 = some (.sl (.sl RecordT)) := rfl
theorem e_ty135 : env.ty 135 = some .fnv := rfl
theorem e_ty136 : env.ty 136 = some (.int .u64) := rfl
theorem e_ty137 : env.ty 137 = some .fnv := rfl
theorem e_ty138 : env.ty 138 = some .fnv := rfl
theorem e_ty139 : env.ty 139 = some .fnv := rfl
theorem e_ty141 : env.ty 141 = some .fnv := rfl
theorem e_ty144 : env.ty 144 = some .fnv := rfl
theorem e_ty145 : env.ty 145 = some .fnv := rfl
theorem e_ty151 : env.ty 151 = some .fnv := rfl
theorem e_ty152 : env.ty 152 = some (.int .u8) := rfl
theorem e_ty153 : env.ty 153 = some (.int .u8) := rfl
theorem e_ty154 : env.ty 154 = some .fnv := rfl
theorem e_ty156 : env.ty 156 = some (.int .i32) := rfl
theorem e_ty157 : env.ty 157 = some (.int .i32) := rfl
theorem e_str7 : env.str 7 = true := rfl
theorem e_str8 : env.str 8 = true := rfl
theorem e_str13 : env.str 13 = true := rfl
theorem e_str14 : env.str 14 = true := rfl
theorem e_str28 : env.str 28 = true := rfl
theorem e_str29 : env.str 29 = true := rfl
theorem e_str33 : env.str 33 = true := rfl
theorem e_str34 : env.str 34 = true := rfl
theorem e_str36 : env.str 36 = true := rfl
theorem e_str37 : env.str 37 = true := rfl
theorem e_str39 : env.str 39 = true := rfl
theorem e_str40 : env.str 40 = true := rfl
theorem e_str42 : env.str 42 = true := rfl
theorem e_str43 : env.str 43 = true := rfl
theorem e_str79 : env.str 79 = true := rfl
theorem e_str80 : env.str 80 = true := rfl
theorem e_str86 : env.str 86 = true := rfl
theorem e_str87 : env.str 87 = true := rfl
theorem e_str99 : env.str 99 = true := rfl
theorem e_str100 : env.str 100 = true := rfl
theorem e_str23 : env.str 23 = false := rfl
theorem e_str27 : env.str 27 = false := rfl
theorem e_str92 : env.str 92 = false := rfl
theorem e_cmp7 : env.cmp 7 = true := rfl
theorem e_cmp8 : env.cmp 8 = true := rfl
theorem e_cmp23 : env.cmp 23 = true := rfl
theorem e_cmp27 : env.cmp 27 = true := rfl
theorem e_cmp33 : env.cmp 33 = true := rfl
theorem e_cmp34 : env.cmp 34 = true := rfl
theorem e_cmp36 : env.cmp 36 = true := rfl
theorem e_cmp37 : env.cmp 37 = true := rfl
theorem e_cmp42 : env.cmp 42 = true := rfl
theorem e_cmp43 : env.cmp 43 = true := rfl
theorem e_cmp79 : env.cmp 79 = true := rfl
theorem e_cmp80 : env.cmp 80 = true := rfl
theorem e_cmp86 : env.cmp 86 = true := rfl
theorem e_cmp87 : env.cmp 87 = true := rfl
theorem e_cmp92 : env.cmp 92 = true := rfl
theorem e_fn2 : env.fn 2 = some ([], .unit) := rfl
theorem e_fn3 : env.fn 3 = some ([(.sl RawT), (.st (.pair (.int .u8) (.int .u8)))], .bool) := rfl
theorem e_fn4 : env.fn 4 = some ([(.sl RawT), RecordT, OrderT], .bool) := rfl
theorem e_fn5 : env.fn 5 = some ([(.sl RawT)], .bool) := rfl
theorem e_fn6 : env.fn 6 = some ([(.sl RawT)], .bool) := rfl
theorem e_fn7 : env.fn 7 = some ([(.sl RawT), RawT, (.st (.pair (.int .u8) (.int .u8)))], .bool) := rfl
theorem e_fn8 : env.fn 8 = some ([(.sl RawT), RawT, (.int .u8)], .bool) := rfl
theorem e_fn9 : env.fn 9 = some ([(.sl RawT), (.int .u8)], .bool) := rfl
theorem e_fn10 : env.fn 10 = some ([], .bool) := rfl
theorem e_fn11 : env.fn 11 = some ([UserT, OrderT], (.tup UserT (.int .i64))) := rfl
theorem e_fn12 : env.fn 12 = some ([RawT], OrderT) := rfl
theorem e_fn13 : env.fn 13 = some ([UserT, OrderT], (.tup UserT (.int .i64))) := rfl
theorem e_fn14 : env.fn 14 = some ([LearntT, LearntT], .bool) := rfl
theorem e_fn15 : env.fn 15 = some ([UserT, RecordT], LearntT) := rfl
theorem e_fn16 : env.fn 16 = some ([RawT], RecordT) := rfl
theorem e_fn17 : env.fn 17 = some ([UserT, RecordT], LearntT) := rfl
theorem e_fn18 : env.fn 18 = some ([UserT, UserT], .bool) := rfl
theorem e_fn19 : env.fn 19 = some ([UserT, RawT], UserT) := rfl
theorem e_fn20 : env.fn 20 = some ([(.int .u8)], .str) := rfl
theorem e_fn21 : env.fn 21 = some ([UserT, .str, (.int .i64)], (.int .i64)) := rfl
theorem e_fn22 : env.fn 22 = some ([UserT, .str, (.int .i64)], (.int .i64)) := rfl
theorem e_fn23 : env.fn 23 = some ([(.sl RecordT), (.sl RecordT)], .bool) := rfl
theorem e_fn24 : env.fn 24 = some ([UserT], (.sl RecordT)) := rfl
theorem e_fn25 : env.fn 25 = some ([UserT], (.sl RecordT)) := rfl
theorem e_fn26 : env.fn 26 = some ([(.sl RawT), (.int .i64)], UserT) := rfl
theorem e_fn27 : env.fn 27 = some ([OrderT, RecordT], .bool) := rfl
theorem e_fn28 : env.fn 28 = some ([OrderT, RecordT], .bool) := rfl
theorem e_fn29 : env.fn 29 = some ([UserT], .bool) := rfl
theorem e_fn30 : env.fn 30 = some ([UserT], .bool) := rfl
theorem e_fn31 : env.fn 31 = some ([UserT, RawT], (.tup UserT (.int .i64))) := rfl
theorem e_fn32 : env.fn 32 = some ([RawT], .bool) := rfl
theorem e_fn33 : env.fn 33 = some ([(.sl RecordT), RecordT], (.sl RecordT)) := rfl
theorem e_fn34 : env.fn 34 = some ([(.sl RecordT), (.sl OrderT)], (.sl RecordT)) := rfl
theorem e_fn38 : env.fn 38 = some ([OrderT], PlaceT) := rfl
theorem e_fn40 : env.fn 40 = some ([OrderT], .bool) := rfl
theorem e_fn41 : env.fn 41 = some ([(.sl OrderT), OrderT], (.sl OrderT)) := rfl
theorem e_fn42 : env.fn 42 = some ([UserT, RecordT], (.tup UserT (.tup (.int .i64) (.int .i64)))) := rfl
theorem e_fn43 : env.fn 43 = some ([RecordT], .bool) := rfl
theorem e_fn44 : env.fn 44 = some ([(.sl OrderT), RecordT], .bool) := rfl
theorem e_fn45 : env.fn 45 = some ([TallyT, (.int .i64)], (.tup (.int .i64) (.int .i64))) := rfl
theorem e_fn46 : env.fn 46 = some ([RecordT, (.int .i64)], (.int .i64)) := rfl
theorem e_fn50 : env.fn 50 = some ([(.sl (.int .i64))], (.int .i64)) := rfl
theorem e_fn51 : env.fn 51 = some ([(.int .i64), (.int .i64)], (.int .i64)) := rfl
theorem e_fn52 : env.fn 52 = some ([RecordT], PlaceT) := rfl
theorem e_fn53 : env.fn 53 = some ([PlaceT, PlaceT], (.int .i64)) := rfl
theorem e_fn54 : env.fn 54 = some ([(.st (.pair (.int .i64) (.int .i64))), (.st (.pair (.int .i64) (.int .i64)))], .bool) := rfl
theorem e_fn55 : env.fn 55 = some ([RecordT], .bool) := rfl
theorem e_fn56 : env.fn 56 = some ([(.int .i64), (.int .i64), (.int .i64)], .bool) := rfl
theorem e_fn60 : env.fn 60 = some ([(.int .i64), (.int .i64), (.int .i64)], .bool) := rfl
theorem e_fn61 : env.fn 61 = some ([OrderT], .bool) := rfl
theorem e_fn62 : env.fn 62 = some ([.str], .bool) := rfl
theorem e_fn63 : env.fn 63 = some ([OrderT, RecordT], .bool) := rfl
theorem e_fn64 : env.fn 64 = some ([OrderT], .bool) := rfl
theorem e_fn65 : env.fn 65 = some ([OrderT, RecordT], .bool) := rfl
theorem e_fn66 : env.fn 66 = some ([OrderT], .bool) := rfl
theorem e_fn67 : env.fn 67 = some ([OrderT, RecordT], .bool) := rfl
theorem e_fn68 : env.fn 68 = some ([OrderT], .bool) := rfl
theorem e_fn69 : env.fn 69 = some ([OrderT, RecordT], .bool) := rfl
theorem e_fn70 : env.fn 70 = some ([OrderT], .bool) := rfl
theorem e_fn71 : env.fn 71 = some ([OrderT, RecordT], .bool) := rfl
theorem e_fn72 : env.fn 72 = some ([PlaceT, (.int .i64)], .bool) := rfl
theorem e_fn73 : env.fn 73 = some ([(.sl (.sl OrderT))], (.sl OrderT)) := rfl
theorem e_fn76 : env.fn 76 = some ([.str], .bool) := rfl
theorem e_fn78 : env.fn 78 = some ([(.int .i64), (.int .i64)], (.int .i64)) := rfl
theorem e_fn79 : env.fn 79 = some ([(.int .i64), (.int .i64)], (.int .i64)) := rfl
theorem e_fn81 : env.fn 81 = some ([(.int .u64)], (.int .i64)) := rfl
theorem e_fn82 : env.fn 82 = some ([(.int .i64)], .bool) := rfl
theorem e_fn85 : env.fn 85 = some ([.str], .bool) := rfl
theorem e_fn88 : env.fn 88 = some ([(.int .i64), (.int .i64), (.int .i64)], .bool) := rfl
theorem e_fn89 : env.fn 89 = some ([.str], .bool) := rfl
theorem e_fn91 : env.fn 91 = some ([(.sl (.sl RecordT))], (.sl RecordT)) := rfl
theorem e_fn100 : env.fn 100 = some ([(.int .u32)], (.int .i64)) := rfl
theorem e_fn101 : env.fn 101 = some ([(.int .u64)], (.int .i64)) := rfl
theorem e_fn102 : env.fn 102 = some ([(.int .u8)], (.int .i64)) := rfl
theorem e_fn107 : env.fn 107 = some ([(.int .i64)], (.int .u64)) := rfl
theorem e_fn35 : env.fn 35 = some ([], (.mp (.int .i64) FormT)) := rfl
theorem e_fn36 : env.fn 36 = some ([(.mp (.int .i64) FormT), OrderT], .bool) := rfl
theorem e_fn37 : env.fn 37 = some ([(.sl OrderT), .fnv, OrderT], (.sl OrderT)) := rfl
theorem e_fn39 : env.fn 39 = some ([(.mp (.int .i64) FormT), (.sl OrderT), RecordT], .bool) := rfl
theorem e_fn49 : env.fn 49 = some ([RecordT, RecordT], (.int .i64)) := rfl
theorem e_fn57 : env.fn 57 = some ([(.sl OrderT), .fnv], .bool) := rfl
theorem e_fn58 : env.fn 58 = some ([(.sl RecordT), .fnv], .bool) := rfl
theorem e_fn59 : env.fn 59 = some ([(.sl OrderT), .fnv, PlaceT], (.tup (.int .i64) .bool)) := rfl
theorem e_fn74 : env.fn 74 = some ([(.sl OrderT), (.clo 75 (.pair (.ptr (.mp (.int .i64) FormT)) (.ptr RecordT)))], .bool) := rfl
theorem e_fn75 : env.fn 75 = some ([OrderT, (.ptr (.mp (.int .i64) FormT)), (.ptr RecordT)], .bool) := rfl
theorem e_fn77 : env.fn 77 = some ([(.sl RecordT), .fnv, RecordT], (.sl RecordT)) := rfl
theorem e_fn83 : env.fn 83 = some ([(.sl OrderT), PlaceT, (.clo 84 (.ptr .fnv))], (.tup (.int .i64) .bool)) := rfl
theorem e_fn84 : env.fn 84 = some ([OrderT, PlaceT, (.ptr .fnv)], (.int .i64)) := rfl
theorem e_fn87 : env.fn 87 = some ([(.sl OrderT), (.clo 75 (.pair (.ptr (.mp (.int .i64) FormT)) (.ptr RecordT)))], (.int .i64)) := rfl
theorem e_fn90 : env.fn 90 = some ([(.sl RecordT), .fnv, PlaceT], (.tup (.int .i64) .bool)) := rfl
theorem e_fn103 : env.fn 103 = some ([(.sl RecordT), PlaceT, (.clo 104 (.ptr .fnv))], (.tup (.int .i64) .bool)) := rfl
theorem e_fn104 : env.fn 104 = some ([RecordT, PlaceT, (.ptr .fnv)], (.int .i64)) := rfl
theorem e_fn47 : env.fn 47 = none := rfl
theorem e_hfn47 : env.hfn 47 = some [some (.sl RecordT)] := rfl
theorem e_fn48 : env.fn 48 = none := rfl
theorem e_hfn48 : env.hfn 48 = some [none, none] := rfl
theorem e_fn80 : env.fn 80 = none := rfl
theorem e_hfn80 : env.hfn 80 = some [none, some (.int .i64), some (.int .i64), some (.int .i64), none] := rfl
theorem e_fn86 : env.fn 86 = none := rfl
theorem e_hfn86 : env.hfn 86 = some [none, some (.int .i64)] := rfl
theorem e_fn92 : env.fn 92 = none := rfl
theorem e_hfn92 : env.hfn 92 = some [none, some (.int .i64), some (.int .i64), none] := rfl
theorem e_fn105 : env.fn 105 = none := rfl
theorem e_hfn105 : env.hfn 105 = some [none, some (.int .i64)] := rfl
/-- gosem.cut.init -/
theorem fn_2 : env.P.funcs[2]? = some Try.f2 := rfl
/-- syllabary/syllabarylaw24.LearnMatchesReference -/
theorem fn_3 : env.P.funcs[3]? = some Try.f3 := rfl
/-- syllabary/syllabarylaw24.LearnRefuses -/
theorem fn_4 : env.P.funcs[4]? = some Try.f4 := rfl
/-- syllabary/syllabarylaw24.LearnForgets -/
theorem fn_5 : env.P.funcs[5]? = some Try.f5 := rfl
/-- syllabary/syllabarylaw24.LearnNumbers -/
theorem fn_6 : env.P.funcs[6]? = some Try.f6 := rfl
/-- syllabary/syllabarylaw24.LearnCounts -/
theorem fn_7 : env.P.funcs[7]? = some Try.f7 := rfl
/-- syllabary/syllabarylaw24.LearnOthers -/
theorem fn_8 : env.P.funcs[8]? = some Try.f8 := rfl
/-- syllabary/syllabarylaw24.LearnOrder -/
theorem fn_9 : env.P.funcs[9]? = some Try.f9 := rfl
/-- syllabary/syllabarylaw24.sanity -/
theorem fn_10 : env.P.funcs[10]? = some Try.f10 := rfl
/-- syllabary/learn.Forget -/
theorem fn_11 : env.P.funcs[11]? = some Try.f11 := rfl
/-- syllabary/syllabaryref24.Order -/
theorem fn_12 : env.P.funcs[12]? = some Try.f12 := rfl
/-- syllabary/syllabaryref24.Forget -/
theorem fn_13 : env.P.funcs[13]? = some Try.f13 := rfl
/-- syllabary/syllabarylaw24.sameLearnt -/
theorem fn_14 : env.P.funcs[14]? = some Try.f14 := rfl
/-- syllabary/syllabarylaw24.learnt -/
theorem fn_15 : env.P.funcs[15]? = some Try.f15 := rfl
/-- syllabary/syllabaryref24.Record -/
theorem fn_16 : env.P.funcs[16]? = some Try.f16 := rfl
/-- syllabary/syllabaryref24.Learn -/
theorem fn_17 : env.P.funcs[17]? = some Try.f17 := rfl
/-- syllabary/syllabaryref24.Same -/
theorem fn_18 : env.P.funcs[18]? = some Try.f18 := rfl
/-- syllabary/syllabaryref24.Step -/
theorem fn_19 : env.P.funcs[19]? = some Try.f19 := rfl
/-- syllabary/syllabaryref24.Word -/
theorem fn_20 : env.P.funcs[20]? = some Try.f20 := rfl
/-- syllabary/learn.Count -/
theorem fn_21 : env.P.funcs[21]? = some Try.f21 := rfl
/-- syllabary/syllabaryref24.Count -/
theorem fn_22 : env.P.funcs[22]? = some Try.f22 := rfl
/-- syllabary/syllabaryref24.SameRecords -/
theorem fn_23 : env.P.funcs[23]? = some Try.f23 := rfl
/-- syllabary/learn.Seen -/
theorem fn_24 : env.P.funcs[24]? = some Try.f24 := rfl
/-- syllabary/syllabaryref24.Seen -/
theorem fn_25 : env.P.funcs[25]? = some Try.f25 := rfl
/-- syllabary/syllabaryref24.Made -/
theorem fn_26 : env.P.funcs[26]? = some Try.f26 := rfl
/-- syllabary/learn.Means -/
theorem fn_27 : env.P.funcs[27]? = some Try.f27 := rfl
/-- syllabary/syllabaryref24.Means -/
theorem fn_28 : env.P.funcs[28]? = some Try.f28 := rfl
/-- syllabary/learn.Valid -/
theorem fn_29 : env.P.funcs[29]? = some Try.f29 := rfl
/-- syllabary/syllabaryref24.Valid -/
theorem fn_30 : env.P.funcs[30]? = some Try.f30 := rfl
/-- syllabary/syllabarylaw24.step -/
theorem fn_31 : env.P.funcs[31]? = some Try.f31 := rfl
/-- syllabary/syllabaryref24.IsOrder -/
theorem fn_32 : env.P.funcs[32]? = some Try.f32 := rfl
/-- syllabary/syllabaryref24.Insert -/
theorem fn_33 : env.P.funcs[33]? = some Try.f33 := rfl
/-- syllabary/syllabaryref24.Kept -/
theorem fn_34 : env.P.funcs[34]? = some Try.f34 := rfl
/-- syllabary/learn.forms -/
theorem fn_35 : env.P.funcs[35]? = some Try.f35 := rfl
/-- syllabary/learn.rightOrder -/
theorem fn_36 : env.P.funcs[36]? = some Try.f36 := rfl
/-- syllabary/learn.add[syllabary/api.Order] -/
theorem fn_37 : env.P.funcs[37]? = some Try.f37 := rfl
/-- syllabary/learn.ofOrder -/
theorem fn_38 : env.P.funcs[38]? = some Try.f38 := rfl
/-- syllabary/learn.meant -/
theorem fn_39 : env.P.funcs[39]? = some Try.f39 := rfl
/-- syllabary/syllabaryref24.RightOrder -/
theorem fn_40 : env.P.funcs[40]? = some Try.f40 := rfl
/-- syllabary/syllabaryref24.InsertOrder -/
theorem fn_41 : env.P.funcs[41]? = some Try.f41 := rfl
/-- syllabary/learn.Learn -/
theorem fn_42 : env.P.funcs[42]? = some Try.f42 := rfl
/-- syllabary/syllabaryref24.Right -/
theorem fn_43 : env.P.funcs[43]? = some Try.f43 := rfl
/-- syllabary/syllabaryref24.Meant -/
theorem fn_44 : env.P.funcs[44]? = some Try.f44 := rfl
/-- syllabary/decay.At -/
theorem fn_45 : env.P.funcs[45]? = some Try.f45 := rfl
/-- syllabary/syllabaryref24.Value -/
theorem fn_46 : env.P.funcs[46]? = some Try.f46 := rfl
/-- slices.Clone[[]syllabary/api.Record,syllabary/api.Record] -/
theorem fn_47 : env.P.funcs[47]? = some Try.f47 := rfl
/-- slices.SortFunc[[]syllabary/api.Record,syllabary/api.Record] -/
theorem fn_48 : env.P.funcs[48]? = some Try.f48 := rfl
/-- syllabary/learn.Seen$1 -/
theorem fn_49 : env.P.funcs[49]? = some Try.f49 := rfl
/-- cmp.Or[int] -/
theorem fn_50 : env.P.funcs[50]? = some Try.f50 := rfl
/-- cmp.Compare[int] -/
theorem fn_51 : env.P.funcs[51]? = some Try.f51 := rfl
/-- syllabary/learn.ofRecord -/
theorem fn_52 : env.P.funcs[52]? = some Try.f52 := rfl
/-- (syllabary/learn.place).compare -/
theorem fn_53 : env.P.funcs[53]? = some Try.f53 := rfl
/-- syllabary/syllabaryref24.before -/
theorem fn_54 : env.P.funcs[54]? = some Try.f54 := rfl
/-- syllabary/learn.rightRecord -/
theorem fn_55 : env.P.funcs[55]? = some Try.f55 := rfl
/-- syllabary/learn.within -/
theorem fn_56 : env.P.funcs[56]? = some Try.f56 := rfl
/-- syllabary/learn.ordered[syllabary/api.Order] -/
theorem fn_57 : env.P.funcs[57]? = some Try.f57 := rfl
/-- syllabary/learn.ordered[syllabary/api.Record] -/
theorem fn_58 : env.P.funcs[58]? = some Try.f58 := rfl
/-- syllabary/learn.find[syllabary/api.Order] -/
theorem fn_59 : env.P.funcs[59]? = some Try.f59 := rfl
/-- syllabary/syllabaryref24.in -/
theorem fn_60 : env.P.funcs[60]? = some Try.f60 := rfl
/-- syllabary/learn.forms$1 -/
theorem fn_61 : env.P.funcs[61]? = some Try.f61 := rfl
/-- syllabary/scheme.Word -/
theorem fn_62 : env.P.funcs[62]? = some Try.f62 := rfl
/-- syllabary/learn.forms$2 -/
theorem fn_63 : env.P.funcs[63]? = some Try.f63 := rfl
/-- syllabary/learn.forms$3 -/
theorem fn_64 : env.P.funcs[64]? = some Try.f64 := rfl
/-- syllabary/learn.forms$4 -/
theorem fn_65 : env.P.funcs[65]? = some Try.f65 := rfl
/-- syllabary/learn.forms$5 -/
theorem fn_66 : env.P.funcs[66]? = some Try.f66 := rfl
/-- syllabary/learn.forms$6 -/
theorem fn_67 : env.P.funcs[67]? = some Try.f67 := rfl
/-- syllabary/learn.forms$7 -/
theorem fn_68 : env.P.funcs[68]? = some Try.f68 := rfl
/-- syllabary/learn.forms$8 -/
theorem fn_69 : env.P.funcs[69]? = some Try.f69 := rfl
/-- syllabary/learn.forms$9 -/
theorem fn_70 : env.P.funcs[70]? = some Try.f70 := rfl
/-- syllabary/learn.forms$10 -/
theorem fn_71 : env.P.funcs[71]? = some Try.f71 := rfl
/-- syllabary/learn.made -/
theorem fn_72 : env.P.funcs[72]? = some Try.f72 := rfl
/-- slices.Concat[[]syllabary/api.Order,syllabary/api.Order] -/
theorem fn_73 : env.P.funcs[73]? = some Try.f73 := rfl
/-- slices.ContainsFunc[[]syllabary/api.Order,syllabary/api.Order] -/
theorem fn_74 : env.P.funcs[74]? = some Try.f74 := rfl
/-- syllabary/learn.meant$1 -/
theorem fn_75 : env.P.funcs[75]? = some Try.f75 := rfl
/-- syllabary/syllabaryref02.Word -/
theorem fn_76 : env.P.funcs[76]? = some Try.f76 := rfl
/-- syllabary/learn.add[syllabary/api.Record] -/
theorem fn_77 : env.P.funcs[77]? = some Try.f77 := rfl
/-- (syllabary/decay.value).after -/
theorem fn_78 : env.P.funcs[78]? = some Try.f78 := rfl
/-- syllabary/syllabaryref12.Halved -/
theorem fn_79 : env.P.funcs[79]? = some Try.f79 := rfl
/-- slices.pdqsortCmpFunc[syllabary/api.Record] -/
theorem fn_80 : env.P.funcs[80]? = some Try.f80 := rfl
/-- math/bits.Len -/
theorem fn_81 : env.P.funcs[81]? = some Try.f81 := rfl
/-- cmp.isNaN[int] -/
theorem fn_82 : env.P.funcs[82]? = some Try.f82 := rfl
/-- slices.BinarySearchFunc[[]syllabary/api.Order,syllabary/api.Order,syllabary/learn.place] -/
theorem fn_83 : env.P.funcs[83]? = some Try.f83 := rfl
/-- syllabary/learn.find[syllabary/api.Order]$1 -/
theorem fn_84 : env.P.funcs[84]? = some Try.f84 := rfl
/-- syllabary/scheme.allKnown -/
theorem fn_85 : env.P.funcs[85]? = some Try.f85 := rfl
/-- slices.Grow[[]syllabary/api.Order,syllabary/api.Order] -/
theorem fn_86 : env.P.funcs[86]? = some Try.f86 := rfl
/-- slices.IndexFunc[[]syllabary/api.Order,syllabary/api.Order] -/
theorem fn_87 : env.P.funcs[87]? = some Try.f87 := rfl
/-- syllabary/syllabaryref02.In -/
theorem fn_88 : env.P.funcs[88]? = some Try.f88 := rfl
/-- syllabary/syllabaryref02.Plain -/
theorem fn_89 : env.P.funcs[89]? = some Try.f89 := rfl
/-- syllabary/learn.find[syllabary/api.Record] -/
theorem fn_90 : env.P.funcs[90]? = some Try.f90 := rfl
/-- slices.Concat[[]syllabary/api.Record,syllabary/api.Record] -/
theorem fn_91 : env.P.funcs[91]? = some Try.f91 := rfl
/-- slices.insertionSortCmpFunc[syllabary/api.Record] -/
theorem fn_92 : env.P.funcs[92]? = some Try.f92 := rfl
/-- slices.heapSortCmpFunc[syllabary/api.Record] -/
theorem fn_93 : env.P.funcs[93]? = some Try.f93 := rfl
/-- slices.breakPatternsCmpFunc[syllabary/api.Record] -/
theorem fn_94 : env.P.funcs[94]? = some Try.f94 := rfl
/-- slices.choosePivotCmpFunc[syllabary/api.Record] -/
theorem fn_95 : env.P.funcs[95]? = some Try.f95 := rfl
/-- slices.reverseRangeCmpFunc[syllabary/api.Record] -/
theorem fn_96 : env.P.funcs[96]? = some Try.f96 := rfl
/-- slices.partialInsertionSortCmpFunc[syllabary/api.Record] -/
theorem fn_97 : env.P.funcs[97]? = some Try.f97 := rfl
/-- slices.partitionEqualCmpFunc[syllabary/api.Record] -/
theorem fn_98 : env.P.funcs[98]? = some Try.f98 := rfl
/-- slices.partitionCmpFunc[syllabary/api.Record] -/
theorem fn_99 : env.P.funcs[99]? = some Try.f99 := rfl
/-- math/bits.Len32 -/
theorem fn_100 : env.P.funcs[100]? = some Try.f100 := rfl
/-- math/bits.Len64 -/
theorem fn_101 : env.P.funcs[101]? = some Try.f101 := rfl
/-- syllabary/scheme.class -/
theorem fn_102 : env.P.funcs[102]? = some Try.f102 := rfl
/-- slices.BinarySearchFunc[[]syllabary/api.Record,syllabary/api.Record,syllabary/learn.place] -/
theorem fn_103 : env.P.funcs[103]? = some Try.f103 := rfl
/-- syllabary/learn.find[syllabary/api.Record]$1 -/
theorem fn_104 : env.P.funcs[104]? = some Try.f104 := rfl
/-- slices.Grow[[]syllabary/api.Record,syllabary/api.Record] -/
theorem fn_105 : env.P.funcs[105]? = some Try.f105 := rfl
/-- slices.siftDownCmpFunc[syllabary/api.Record] -/
theorem fn_106 : env.P.funcs[106]? = some Try.f106 := rfl
/-- slices.nextPowerOfTwo -/
theorem fn_107 : env.P.funcs[107]? = some Try.f107 := rfl
/-- (*slices.xorshift).Next -/
theorem fn_108 : env.P.funcs[108]? = some Try.f108 := rfl
/-- slices.medianAdjacentCmpFunc[syllabary/api.Record] -/
theorem fn_109 : env.P.funcs[109]? = some Try.f109 := rfl
/-- slices.medianCmpFunc[syllabary/api.Record] -/
theorem fn_110 : env.P.funcs[110]? = some Try.f110 := rfl
/-- slices.order2CmpFunc[syllabary/api.Record] -/
theorem fn_111 : env.P.funcs[111]? = some Try.f111 := rfl
attribute [go_sem] e_key64 e_ty1 e_ty2 e_ty3 e_ty4 e_ty5 e_ty6 e_ty7 e_ty8 e_ty9 e_ty10 e_ty11 e_ty12 e_ty13 e_ty14 e_ty21 e_ty22 e_ty23 e_ty24 e_ty25 e_ty26 e_ty27 e_ty28 e_ty29 e_ty30 e_ty32 e_ty33 e_ty34 e_ty35 e_ty36 e_ty37 e_ty38 e_ty39 e_ty40 e_ty41 e_ty42 e_ty43 e_ty44 e_ty45 e_ty46 e_ty47 e_ty48 e_ty49 e_ty50 e_ty51 e_ty52 e_ty53 e_ty54 e_ty55 e_ty56 e_ty57 e_ty58 e_ty59 e_ty60 e_ty61 e_ty62 e_ty63 e_ty64 e_ty65 e_ty66 e_ty67 e_ty68 e_ty69 e_ty70 e_ty71 e_ty73 e_ty74 e_ty75 e_ty76 e_ty78 e_ty79 e_ty80 e_ty81 e_ty82 e_ty83 e_ty84 e_ty85 e_ty86 e_ty87 e_ty88 e_ty89 e_ty90 e_ty91 e_ty92 e_ty93 e_ty94 e_ty95 e_ty97 e_ty98 e_ty99 e_ty100 e_ty101 e_ty103 e_ty104 e_ty105 e_ty106 e_ty107 e_ty108 e_ty109 e_ty110 e_ty111 e_ty112 e_ty113 e_ty114 e_ty115 e_ty116 e_ty117 e_ty118 e_ty119 e_ty120 e_ty121 e_ty123 e_ty124 e_ty125 e_ty126 e_ty127 e_ty128 e_ty129 e_ty130 e_ty131 e_ty132 e_ty133 e_ty134 e_ty135 e_ty136 e_ty137 e_ty138 e_ty139 e_ty141 e_ty144 e_ty145 e_ty151 e_ty152 e_ty153 e_ty154 e_ty156 e_ty157 e_str7 e_str8 e_str13 e_str14 e_str28 e_str29 e_str33 e_str34 e_str36 e_str37 e_str39 e_str40 e_str42 e_str43 e_str79 e_str80 e_str86 e_str87 e_str99 e_str100 e_str23 e_str27 e_str92 e_cmp7 e_cmp8 e_cmp23 e_cmp27 e_cmp33 e_cmp34 e_cmp36 e_cmp37 e_cmp42 e_cmp43 e_cmp79 e_cmp80 e_cmp86 e_cmp87 e_cmp92 e_fn2 e_fn3 e_fn4 e_fn5 e_fn6 e_fn7 e_fn8 e_fn9 e_fn10 e_fn11 e_fn12 e_fn13 e_fn14 e_fn15 e_fn16 e_fn17 e_fn18 e_fn19 e_fn20 e_fn21 e_fn22 e_fn23 e_fn24 e_fn25 e_fn26 e_fn27 e_fn28 e_fn29 e_fn30 e_fn31 e_fn32 e_fn33 e_fn34 e_fn38 e_fn40 e_fn41 e_fn42 e_fn43 e_fn44 e_fn45 e_fn46 e_fn50 e_fn51 e_fn52 e_fn53 e_fn54 e_fn55 e_fn56 e_fn60 e_fn61 e_fn62 e_fn63 e_fn64 e_fn65 e_fn66 e_fn67 e_fn68 e_fn69 e_fn70 e_fn71 e_fn72 e_fn73 e_fn76 e_fn78 e_fn79 e_fn81 e_fn82 e_fn85 e_fn88 e_fn89 e_fn91 e_fn100 e_fn101 e_fn102 e_fn107 e_fn35 e_fn36 e_fn37 e_fn39 e_fn49 e_fn57 e_fn58 e_fn59 e_fn74 e_fn75 e_fn77 e_fn83 e_fn84 e_fn87 e_fn90 e_fn103 e_fn104 e_fn47 e_hfn47 e_fn48 e_hfn48 e_fn80 e_hfn80 e_fn86 e_hfn86 e_fn92 e_hfn92 e_fn105 e_hfn105 e_ro0 e_tm0
end Go.Proofs.Ytnncphnpajkojaa
namespace Go.Proofs.Ytnncphnpajkojaa
set_option maxHeartbeats 4000000
set_option maxRecDepth 100000

theorem i64_ok {x : Int} (h : -9223372036854775808 ≤ x) (h' : x ≤ 9223372036854775807) : IntKind.i64.min ≤ x ∧ x ≤ IntKind.i64.max := ⟨h, h'⟩
theorem i64_of {x : Int} (h : IntKind.i64.min ≤ x ∧ x ≤ IntKind.i64.max) : -9223372036854775808 ≤ x ∧ x ≤ 9223372036854775807 := h
theorem u8_of {x : Int} (h : IntKind.u8.min ≤ x ∧ x ≤ IntKind.u8.max) : 0 ≤ x ∧ x ≤ 255 := h
theorem drop_cons {α : Type} {xs : List α} {i : Nat} {x : α} (h : xs[i]? = some x) : xs.drop i = x :: xs.drop (i + 1) := by
  obtain ⟨hi, e⟩ := List.getElem?_eq_some_iff.1 h
  rw [List.drop_eq_getElem_cons hi, e]
theorem take_snoc {α : Type} {xs : List α} {i : Nat} {x : α} (h : xs[i]? = some x) : xs.take (i + 1) = xs.take i ++ [x] := by
  rw [List.take_add_one, h]; rfl
theorem get_of_lt {α : Type} {xs : List α} {i : Nat} (h : i < xs.length) : ∃ x, xs[i]? = some x := ⟨_, List.getElem?_eq_getElem h⟩

theorem c_isNaN (a : Int) : PC env 82 [⟨.int .i64, a⟩] .bool false := by
  refine PC.of_PW (m := 2000) env_ok fn_82 rfl rfl rfl rfl (by kernel_rfl) ?_; intro hx; simp only [Try.f82]; simp only [go_sem, Nat.reduceBEq, ↓reduceIte, ↓reduceDIte, Nat.reduceAdd, Nat.reduceSub, Nat.reduceMul, Nat.reduceLeDiff, ← Bool.decide_and, ← Bool.decide_or, ← decide_not, Int.reduceLT, Int.reduceLE, Int.reduceToNat, Int.reduceNeg]
def cmpI (a b : Int) : Int := if a < b then -1 else if b < a then 1 else 0
theorem c_Compare (a b : Int) : PC env 51 [⟨.int .i64, a⟩, ⟨.int .i64, b⟩] (.int .i64) (cmpI a b) := by
  refine PC.of_PW (m := 2000) env_ok fn_51 rfl rfl rfl rfl (by kernel_rfl) ?_; intro hx; simp only [Try.f51]; simp only [go_sem, Nat.reduceBEq, ↓reduceIte, ↓reduceDIte, Nat.reduceAdd, Nat.reduceSub, Nat.reduceMul, Nat.reduceLeDiff, ← Bool.decide_and, ← Bool.decide_or, ← decide_not, Int.reduceLT, Int.reduceLE, Int.reduceToNat, Int.reduceNeg]
  refine ⟨_, c_isNaN a, ?_⟩
  simp only [go_sem, Nat.reduceBEq, ↓reduceIte, ↓reduceDIte, Nat.reduceAdd, Nat.reduceSub, Nat.reduceMul, Nat.reduceLeDiff, ← Bool.decide_and, ← Bool.decide_or, ← decide_not, Int.reduceLT, Int.reduceLE, Int.reduceToNat, Int.reduceNeg]
  refine ⟨_, c_isNaN b, ?_⟩
  simp only [go_sem, Nat.reduceBEq, ↓reduceIte, ↓reduceDIte, Nat.reduceAdd, Nat.reduceSub, Nat.reduceMul, Nat.reduceLeDiff, ← Bool.decide_and, ← Bool.decide_or, ← decide_not, Int.reduceLT, Int.reduceLE, Int.reduceToNat, Int.reduceNeg]
  unfold cmpI
  refine ⟨fun h => ?_, fun h => ⟨fun h' => ?_, fun h' => ?_⟩⟩
  · rw [if_pos h]
  · rw [if_neg h, if_pos h']
  · rw [if_neg h, if_neg h']
theorem c_Or (xs : List Int) : PC env 50 [⟨.sl (.int .i64), xs⟩] (.int .i64) ((xs.find? (· ≠ 0)).getD 0) := by
  refine PC.of_PW (m := 2000) env_ok fn_50 rfl rfl rfl rfl (by kernel_rfl) ?_; intro hx; simp only [Try.f50]; simp only [go_sem, Nat.reduceBEq, ↓reduceIte, ↓reduceDIte, Nat.reduceAdd, Nat.reduceSub, Nat.reduceMul, Nat.reduceLeDiff, ← Bool.decide_and, ← Bool.decide_or, ← decide_not, Int.reduceLT, Int.reduceLE, Int.reduceToNat, Int.reduceNeg]
  refine Walks.loopW (X := Nat) (fun i => ⟨[(8, .iv (.int .i64) (i : Int)), (7, .iv (.int .i64) (xs.length : Int)), (6, .iv (.sl (.int .i64)) xs), (3, .iv (.int .i64) (0 : Int))], []⟩)
    (fun i => i ≤ xs.length ∧ (xs.take i).find? (· ≠ 0) = none) (fun i => xs.length - i) 0 (by refine ⟨?_, ?_, rfl, rfl⟩ <;> repeat' (first | exact trivial | (refine And.intro (Or.inl rfl) ?_) | (refine And.intro (Or.inr (Or.inl rfl)) ?_) | (refine And.intro (Or.inr (Or.inr (Or.inr ⟨rfl, rfl⟩))) ?_) | rfl | (refine And.intro (Or.inl ?_) ?_) | (refine And.intro ?_ ?_))) ⟨Nat.zero_le _, rfl⟩ ?_
  intro i ⟨hi, hb⟩ back
  refine PW_sound env_ok ⟨_, fn_50, rfl⟩ 2000 _ _ (by kernel_rfl) ?_; simp only [go_sem, Nat.reduceBEq, ↓reduceIte, ↓reduceDIte, Nat.reduceAdd, Nat.reduceSub, Nat.reduceMul, Nat.reduceLeDiff, ← Bool.decide_and, ← Bool.decide_or, ← decide_not, Int.reduceLT, Int.reduceLE, Int.reduceToNat, Int.reduceNeg]
  refine ⟨fun h => ?_, fun h => ?_⟩
  · obtain ⟨x, hxi⟩ : ∃ x, xs[i]? = some x := get_of_lt (by omega)
    refine ⟨by omega, x, hxi, fun h' => ?_, fun h' => ⟨?_, ?_⟩⟩
    · have : xs.find? (· ≠ 0) = some x := by
        rw [← List.take_append_drop i xs, List.find?_append, hb, drop_cons hxi]
        simp [h']
      rw [this]; rfl
    · simp only [oks, Ty.ok] at hx; exact i64_ok (by omega) (by omega)
    · refine back _ (i + 1) (by refine ⟨?_, ?_, rfl, rfl⟩ <;> repeat' (first | exact trivial | (refine And.intro (Or.inl rfl) ?_) | (refine And.intro (Or.inr (Or.inl rfl)) ?_) | (refine And.intro (Or.inr (Or.inr (Or.inr ⟨rfl, rfl⟩))) ?_) | rfl | (refine And.intro (Or.inl ?_) ?_) | (refine And.intro ?_ ?_))) ⟨by omega, ?_⟩ (by omega)
      rw [List.take_add_one, List.find?_append, hb, hxi]
      simp [h']
  · have e : xs.take i = xs := List.take_of_length_le (by omega)
    rw [e] at hb
    rw [hb]; rfl
def cmpP (x y : Int × Int) : Int := if cmpI x.1 y.1 ≠ 0 then cmpI x.1 y.1 else cmpI x.2 y.2
theorem c_comp (x y : Int × Int) : PC env 53 [⟨PlaceT, x⟩, ⟨PlaceT, y⟩] (.int .i64) (cmpP x y) := by
  refine PC.of_PW (m := 2000) env_ok fn_53 rfl rfl rfl rfl (by kernel_rfl) ?_; intro hx; simp only [Try.f53]; simp only [go_sem, Nat.reduceBEq, ↓reduceIte, ↓reduceDIte, Nat.reduceAdd, Nat.reduceSub, Nat.reduceMul, Nat.reduceLeDiff, ← Bool.decide_and, ← Bool.decide_or, ← decide_not, Int.reduceLT, Int.reduceLE, Int.reduceToNat, Int.reduceNeg]
  refine ⟨_, c_Compare _ _, fun _ => ⟨_, c_Compare _ _, fun _ => ⟨_, c_Or _, fun _ => ?_⟩⟩⟩
  unfold cmpP
  by_cases h : cmpI x.1 y.1 = 0 <;> by_cases h' : cmpI x.2 y.2 = 0 <;> simp [h, h']
abbrev Rec := Int × Int × Int × List UInt8 × Int × Int
abbrev Ord' := Int × Int × Int × Int × List UInt8 × Int × Int
abbrev L8 := Int × Int × Int × Int × Int × Int × Int × Int
abbrev Usr := List Rec × List Ord' × L8
theorem c_ofR (r : Rec) : PC env 52 [⟨RecordT, r⟩] PlaceT (r.1, r.2.1) := by
  refine PC.of_PW (m := 2000) env_ok fn_52 rfl rfl rfl rfl (by kernel_rfl) ?_; intro hx; simp only [Try.f52]; simp only [go_sem, Nat.reduceBEq, ↓reduceIte, ↓reduceDIte, Nat.reduceAdd, Nat.reduceSub, Nat.reduceMul, Nat.reduceLeDiff, ← Bool.decide_and, ← Bool.decide_or, ← decide_not, Int.reduceLT, Int.reduceLE, Int.reduceToNat, Int.reduceNeg]
theorem c_ofO (o : Ord') : PC env 38 [⟨OrderT, o⟩] PlaceT (o.1, o.2.1) := by
  refine PC.of_PW (m := 2000) env_ok fn_38 rfl rfl rfl rfl (by kernel_rfl) ?_; intro hx; simp only [Try.f38]; simp only [go_sem, Nat.reduceBEq, ↓reduceIte, ↓reduceDIte, Nat.reduceAdd, Nat.reduceSub, Nat.reduceMul, Nat.reduceLeDiff, ← Bool.decide_and, ← Bool.decide_or, ← decide_not, Int.reduceLT, Int.reduceLE, Int.reduceToNat, Int.reduceNeg]
theorem c_within (v a b : Int) : PC env 56 [⟨.int .i64, v⟩, ⟨.int .i64, a⟩, ⟨.int .i64, b⟩] .bool (decide (a ≤ v ∧ v ≤ b)) := by
  refine PC.of_PW (m := 2000) env_ok fn_56 rfl rfl rfl rfl (by kernel_rfl) ?_; intro hx; simp only [Try.f56]; simp only [go_sem, Nat.reduceBEq, ↓reduceIte, ↓reduceDIte, Nat.reduceAdd, Nat.reduceSub, Nat.reduceMul, Nat.reduceLeDiff, ← Bool.decide_and, ← Bool.decide_or, ← decide_not, Int.reduceLT, Int.reduceLE, Int.reduceToNat, Int.reduceNeg]
  refine ⟨fun h => ?_, fun h => ?_⟩
  · congr 1; simp [h]
  · symm; simp; omega
theorem c_in (v a b : Int) : PC env 60 [⟨.int .i64, v⟩, ⟨.int .i64, a⟩, ⟨.int .i64, b⟩] .bool (decide (a ≤ v ∧ v ≤ b)) := by
  refine PC.of_PW (m := 2000) env_ok fn_60 rfl rfl rfl rfl (by kernel_rfl) ?_; intro hx; simp only [Try.f60]; simp only [go_sem, Nat.reduceBEq, ↓reduceIte, ↓reduceDIte, Nat.reduceAdd, Nat.reduceSub, Nat.reduceMul, Nat.reduceLeDiff, ← Bool.decide_and, ← Bool.decide_or, ← decide_not, Int.reduceLT, Int.reduceLE, Int.reduceToNat, Int.reduceNeg]
  refine ⟨fun h => ?_, fun h => ?_⟩
  · congr 1; simp; omega
  · symm; simp; omega
theorem c_In (v a b : Int) : PC env 88 [⟨.int .i64, v⟩, ⟨.int .i64, a⟩, ⟨.int .i64, b⟩] .bool (decide (a ≤ v ∧ v ≤ b)) := by
  refine PC.of_PW (m := 2000) env_ok fn_88 rfl rfl rfl rfl (by kernel_rfl) ?_; intro hx; simp only [Try.f88]; simp only [go_sem, Nat.reduceBEq, ↓reduceIte, ↓reduceDIte, Nat.reduceAdd, Nat.reduceSub, Nat.reduceMul, Nat.reduceLeDiff, ← Bool.decide_and, ← Bool.decide_or, ← decide_not, Int.reduceLT, Int.reduceLE, Int.reduceToNat, Int.reduceNeg]
  refine ⟨fun h => ?_, fun h => ?_⟩
  · congr 1; simp; omega
  · symm; simp; omega
theorem c_made (p : Int × Int) (e : Int) : PC env 72 [⟨PlaceT, p⟩, ⟨.int .i64, e⟩] .bool (decide ((0 ≤ p.1 ∧ p.1 ≤ 7) ∧ (1 ≤ p.2 ∧ p.2 ≤ 1000000) ∧ (0 ≤ e ∧ e ≤ 10000))) := by
  refine PC.of_PW (m := 2000) env_ok fn_72 rfl rfl rfl rfl (by kernel_rfl) ?_; intro hx; simp only [Try.f72]; simp only [go_sem, Nat.reduceBEq, ↓reduceIte, ↓reduceDIte, Nat.reduceAdd, Nat.reduceSub, Nat.reduceMul, Nat.reduceLeDiff, ← Bool.decide_and, ← Bool.decide_or, ← decide_not, Int.reduceLT, Int.reduceLE, Int.reduceToNat, Int.reduceNeg]
  repeat' (first | (with_reducible intro _) | (with_reducible apply And.intro) | (with_reducible refine ⟨_, c_within _ _ _, ?_⟩; simp only [go_sem, Nat.reduceBEq, ↓reduceIte, ↓reduceDIte, Nat.reduceAdd, Nat.reduceSub, Nat.reduceMul, Nat.reduceLeDiff, ← Bool.decide_and, ← Bool.decide_or, ← decide_not, Int.reduceLT, Int.reduceLE, Int.reduceToNat, Int.reduceNeg]))
  all_goals first | (symm; simp; omega) | exact ⟨_, c_within _ _ _, by simp_all⟩
end Go.Proofs.Ytnncphnpajkojaa
namespace Go.Proofs.Ytnncphnpajkojaa
set_option maxHeartbeats 4000000
set_option maxRecDepth 100000

def classD (c : Int) : Int := if 97 ≤ c ∧ c ≤ 122 then 1 else if 65 ≤ c ∧ c ≤ 90 then 2 else if 48 ≤ c ∧ c ≤ 57 then 3 else 0
theorem c_class (c : Int) : PC env 102 [⟨.int .u8, c⟩] (.int .i64) (classD c) := by
  refine PC.of_PW (m := 2000) env_ok fn_102 rfl rfl rfl rfl (by kernel_rfl) ?_; intro hx; simp only [Try.f102]; simp only [go_sem, Nat.reduceBEq, ↓reduceIte, ↓reduceDIte, Nat.reduceAdd, Nat.reduceSub, Nat.reduceMul, Nat.reduceLeDiff, ← Bool.decide_and, ← Bool.decide_or, ← decide_not, Int.reduceLT, Int.reduceLE, Int.reduceToNat, Int.reduceNeg]
  unfold classD
  repeat' (first | (with_reducible intro _) | (with_reducible apply And.intro))
  all_goals (repeat' split) <;> first | rfl | omega
def okU (u : UInt8) : Bool := decide (classD u.toNat ≠ 0)
theorem all_step {α : Type} {xs : List α} {i : Nat} {x : α} {p : α → Bool} (h : xs[i]? = some x) : (xs.take (i + 1)).all p = ((xs.take i).all p && p x) := by
  rw [take_snoc h, List.all_append]
  simp
theorem all_no {α : Type} {xs : List α} {i : Nat} {x : α} {p : α → Bool} (h : xs[i]? = some x) (hp : p x = false) : xs.all p = false := by
  rw [List.all_eq_false]
  exact ⟨x, List.mem_of_getElem? h, by simp [hp]⟩
theorem c_known (s : List UInt8) : PC env 85 [⟨.str, s⟩] .bool (s.all okU) := by
  refine PC.of_PW (m := 2000) env_ok fn_85 rfl rfl rfl rfl (by kernel_rfl) ?_; intro hx; simp only [Try.f85]; simp only [go_sem, Nat.reduceBEq, ↓reduceIte, ↓reduceDIte, Nat.reduceAdd, Nat.reduceSub, Nat.reduceMul, Nat.reduceLeDiff, ← Bool.decide_and, ← Bool.decide_or, ← decide_not, Int.reduceLT, Int.reduceLE, Int.reduceToNat, Int.reduceNeg]
  refine Walks.loopW (X := Nat) (fun i => ⟨[(6, .iv (.int .i64) (i : Int)), (5, .iv (.int .i64) (s.length : Int)), (0, .iv .str s)], []⟩)
    (fun i => i ≤ s.length ∧ (s.take i).all okU = true) (fun i => s.length - i) 0 (by refine ⟨?_, ?_, rfl, rfl⟩ <;> repeat' (first | exact trivial | (refine And.intro (Or.inl rfl) ?_) | (refine And.intro (Or.inr (Or.inl rfl)) ?_) | (refine And.intro (Or.inr (Or.inr (Or.inr ⟨rfl, rfl⟩))) ?_) | rfl | (refine And.intro (Or.inl ?_) ?_) | (refine And.intro ?_ ?_))) ⟨Nat.zero_le _, rfl⟩ ?_
  intro i ⟨hi, hb⟩ back
  refine PW_sound env_ok ⟨_, fn_85, rfl⟩ 2000 _ _ (by kernel_rfl) ?_; simp only [go_sem, Nat.reduceBEq, ↓reduceIte, ↓reduceDIte, Nat.reduceAdd, Nat.reduceSub, Nat.reduceMul, Nat.reduceLeDiff, ← Bool.decide_and, ← Bool.decide_or, ← decide_not, Int.reduceLT, Int.reduceLE, Int.reduceToNat, Int.reduceNeg]
  refine ⟨fun h => ?_, fun h => ?_⟩
  · obtain ⟨x, hxi⟩ : ∃ x, s[i]? = some x := get_of_lt (by omega)
    have hlen : s.length ≤ 9223372036854775807 := hx.1
    refine ⟨Int.natCast_nonneg i, _, ⟨x, hxi, rfl⟩, _, c_class _, fun _ => ⟨fun h' => ?_, fun h' => ⟨?_, ?_⟩⟩⟩
    · exact (all_no (p := okU) hxi (by simp [okU, h'])).symm
    · exact i64_ok (by omega) (by omega)
    · refine back _ (i + 1) (by refine ⟨?_, ?_, rfl, rfl⟩ <;> repeat' (first | exact trivial | (refine And.intro (Or.inl rfl) ?_) | (refine And.intro (Or.inr (Or.inl rfl)) ?_) | (refine And.intro (Or.inr (Or.inr (Or.inr ⟨rfl, rfl⟩))) ?_) | rfl | (refine And.intro (Or.inl ?_) ?_) | (refine And.intro ?_ ?_))) ⟨by omega, ?_⟩ (by omega)
      rw [all_step hxi, hb]
      simp [okU, h']
  · have e : s.take i = s := List.take_of_length_le (by omega)
    rw [e] at hb
    rw [hb]
def wordB (s : List UInt8) : Bool := decide (1 ≤ s.length ∧ s.length ≤ 20) && s.all okU
theorem c_Word (s : List UInt8) : PC env 62 [⟨.str, s⟩] .bool (wordB s) := by
  refine PC.of_PW (m := 2000) env_ok fn_62 rfl rfl rfl rfl (by kernel_rfl) ?_; intro hx; simp only [Try.f62]; simp only [go_sem, Nat.reduceBEq, ↓reduceIte, ↓reduceDIte, Nat.reduceAdd, Nat.reduceSub, Nat.reduceMul, Nat.reduceLeDiff, ← Bool.decide_and, ← Bool.decide_or, ← decide_not, Int.reduceLT, Int.reduceLE, Int.reduceToNat, Int.reduceNeg]
  unfold wordB
  repeat' (first | (with_reducible intro _) | (with_reducible apply And.intro) | (with_reducible refine ⟨_, c_known _, ?_⟩; simp only [go_sem, Nat.reduceBEq, ↓reduceIte, ↓reduceDIte, Nat.reduceAdd, Nat.reduceSub, Nat.reduceMul, Nat.reduceLeDiff, ← Bool.decide_and, ← Bool.decide_or, ← decide_not, Int.reduceLT, Int.reduceLE, Int.reduceToNat, Int.reduceNeg]))
  all_goals first | exact ⟨_, c_known _, by simp_all; omega⟩ | (symm; simp; omega)
theorem plain_ok (u : UInt8) : okU u = true ↔ ¬ ((((u.toNat : Int) < 97 ∨ (122 : Int) < u.toNat) ∧ ((u.toNat : Int) < 65 ∨ (90 : Int) < u.toNat)) ∧ ((u.toNat : Int) < 48 ∨ (57 : Int) < u.toNat)) := by
  unfold okU classD
  rw [decide_eq_true_eq]
  repeat' split
  all_goals omega
theorem c_Plain (s : List UInt8) : PC env 89 [⟨.str, s⟩] .bool (s.all okU) := by
  refine PC.of_PW (m := 2000) env_ok fn_89 rfl rfl rfl rfl (by kernel_rfl) ?_; intro hx; simp only [Try.f89]; simp only [go_sem, Nat.reduceBEq, ↓reduceIte, ↓reduceDIte, Nat.reduceAdd, Nat.reduceSub, Nat.reduceMul, Nat.reduceLeDiff, ← Bool.decide_and, ← Bool.decide_or, ← decide_not, Int.reduceLT, Int.reduceLE, Int.reduceToNat, Int.reduceNeg]
  refine Walks.loopW (X := Nat) (fun i => ⟨[(3, .iv (.int .i64) (i : Int)), (0, .iv .str s)], []⟩)
    (fun i => i ≤ s.length ∧ (s.take i).all okU = true) (fun i => s.length - i) 0 (by refine ⟨?_, ?_, rfl, rfl⟩ <;> repeat' (first | exact trivial | (refine And.intro (Or.inl rfl) ?_) | (refine And.intro (Or.inr (Or.inl rfl)) ?_) | (refine And.intro (Or.inr (Or.inr (Or.inr ⟨rfl, rfl⟩))) ?_) | rfl | (refine And.intro (Or.inl ?_) ?_) | (refine And.intro ?_ ?_))) ⟨Nat.zero_le _, rfl⟩ ?_
  intro i ⟨hi, hb⟩ back
  refine PW_sound env_ok ⟨_, fn_89, rfl⟩ 2000 _ _ (by kernel_rfl) ?_; simp only [go_sem, Nat.reduceBEq, ↓reduceIte, ↓reduceDIte, Nat.reduceAdd, Nat.reduceSub, Nat.reduceMul, Nat.reduceLeDiff, ← Bool.decide_and, ← Bool.decide_or, ← decide_not, Int.reduceLT, Int.reduceLE, Int.reduceToNat, Int.reduceNeg]
  have hlen : s.length ≤ 9223372036854775807 := hx.1
  refine ⟨fun h => ?_, fun h => ?_⟩
  · obtain ⟨x, hxi⟩ : ∃ x, s[i]? = some x := get_of_lt (by omega)
    have hps := plain_ok x
    refine ⟨Int.natCast_nonneg i, _, ⟨x, hxi, rfl⟩, ?_⟩
    cases hp : okU x with
    | false =>
      have hno : s.all okU = false := all_no (p := okU) hxi hp
      rw [hp] at hps
      simp only [Bool.false_eq_true, false_iff, Decidable.not_not] at hps
      repeat' (first | (with_reducible intro _) | (with_reducible apply And.intro) )
      all_goals first | exact hno.symm | (exfalso; omega)
    | true =>
      rw [hp] at hps
      simp only [true_iff] at hps
      repeat' (first | (with_reducible intro _) | (with_reducible apply And.intro) )
      all_goals first | omega | exact i64_ok (by omega) (by omega) | exact back _ (i + 1) (by refine ⟨?_, ?_, rfl, rfl⟩ <;> repeat' (first | exact trivial | (refine And.intro (Or.inl rfl) ?_) | (refine And.intro (Or.inr (Or.inl rfl)) ?_) | (refine And.intro (Or.inr (Or.inr (Or.inr ⟨rfl, rfl⟩))) ?_) | rfl | (refine And.intro (Or.inl ?_) ?_) | (refine And.intro ?_ ?_))) ⟨by omega, by rw [all_step hxi, hb, hp]; rfl⟩ (by omega)
  · have e : s.take i = s := List.take_of_length_le (by omega)
    rw [e] at hb
    rw [hb]
theorem c_Word2 (s : List UInt8) : PC env 76 [⟨.str, s⟩] .bool (wordB s) := by
  refine PC.of_PW (m := 2000) env_ok fn_76 rfl rfl rfl rfl (by kernel_rfl) ?_; intro hx; simp only [Try.f76]; simp only [go_sem, Nat.reduceBEq, ↓reduceIte, ↓reduceDIte, Nat.reduceAdd, Nat.reduceSub, Nat.reduceMul, Nat.reduceLeDiff, ← Bool.decide_and, ← Bool.decide_or, ← decide_not, Int.reduceLT, Int.reduceLE, Int.reduceToNat, Int.reduceNeg]
  unfold wordB
  refine ⟨_, c_In _ _ _, ?_⟩
  simp only [go_sem, Nat.reduceBEq, ↓reduceIte, ↓reduceDIte, Nat.reduceAdd, Nat.reduceSub, Nat.reduceMul, Nat.reduceLeDiff, ← Bool.decide_and, ← Bool.decide_or, ← decide_not, Int.reduceLT, Int.reduceLE, Int.reduceToNat, Int.reduceNeg]
  repeat' (first | (with_reducible intro _) | (with_reducible apply And.intro) | (with_reducible refine ⟨_, c_Plain _, ?_⟩; simp only [go_sem, Nat.reduceBEq, ↓reduceIte, ↓reduceDIte, Nat.reduceAdd, Nat.reduceSub, Nat.reduceMul, Nat.reduceLeDiff, ← Bool.decide_and, ← Bool.decide_or, ← decide_not, Int.reduceLT, Int.reduceLE, Int.reduceToNat, Int.reduceNeg]))
  all_goals first | exact ⟨_, c_Plain _, by simp_all; omega⟩ | (symm; simp; omega)
end Go.Proofs.Ytnncphnpajkojaa
--SET+ by_nil
namespace Go.Proofs.Ytnncphnpajkojaa
set_option maxHeartbeats 4000000
set_option maxRecDepth 100000

theorem by_nil : bytesOf ⟨#[]⟩ = [] := rfl
def formsD : List (Int × (Nat × Nat)) := [(1, (61, 63)), (2, (64, 65)), (3, (66, 67)), (4, (68, 69)), (5, (70, 71))]
theorem c_forms : PC env 35 [] (.mp (.int .i64) FormT) formsD := by
  refine PC.of_PW (m := 2000) env_ok fn_35 rfl rfl rfl rfl (by kernel_rfl) ?_; intro hx; simp only [Try.f35]; simp only [go_sem, Nat.reduceBEq, ↓reduceIte, ↓reduceDIte, Nat.reduceAdd, Nat.reduceSub, Nat.reduceMul, Nat.reduceLeDiff, ← Bool.decide_and, ← Bool.decide_or, ← decide_not, Int.reduceLT, Int.reduceLE, Int.reduceToNat, Int.reduceNeg, by_nil]
  simp [mset, eqB, formsD]
def rk1 (o : Ord') : Bool := decide ((wordB o.2.2.2.2.1 = true ∧ o.2.2.2.2.2.1 = 0) ∧ o.2.2.2.2.2.2 = 0)
theorem c_r1 (o : Ord') : PC env 61 [⟨OrderT, o⟩] .bool (rk1 o) := by
  refine PC.of_PW (m := 2000) env_ok fn_61 rfl rfl rfl rfl (by kernel_rfl) ?_; intro hx; simp only [Try.f61]; simp only [go_sem, Nat.reduceBEq, ↓reduceIte, ↓reduceDIte, Nat.reduceAdd, Nat.reduceSub, Nat.reduceMul, Nat.reduceLeDiff, ← Bool.decide_and, ← Bool.decide_or, ← decide_not, Int.reduceLT, Int.reduceLE, Int.reduceToNat, Int.reduceNeg, by_nil]
  unfold rk1
  refine ⟨_, c_Word _, ?_⟩
  cases h : wordB o.2.2.2.2.1
  · simp only [go_sem, Nat.reduceBEq, ↓reduceIte, ↓reduceDIte, Nat.reduceAdd, Nat.reduceSub, Nat.reduceMul, Nat.reduceLeDiff, ← Bool.decide_and, ← Bool.decide_or, ← decide_not, Int.reduceLT, Int.reduceLE, Int.reduceToNat, Int.reduceNeg, by_nil]
    simp [h]
  · simp only [go_sem, Nat.reduceBEq, ↓reduceIte, ↓reduceDIte, Nat.reduceAdd, Nat.reduceSub, Nat.reduceMul, Nat.reduceLeDiff, ← Bool.decide_and, ← Bool.decide_or, ← decide_not, Int.reduceLT, Int.reduceLE, Int.reduceToNat, Int.reduceNeg, by_nil]
    repeat' (first | (with_reducible intro _) | (with_reducible apply And.intro) )
    all_goals (clear hx; simp_all)
theorem c_m1 (o : Ord') (r : Rec) : PC env 63 [⟨OrderT, o⟩, ⟨RecordT, r⟩] .bool (decide (r.2.2.2.1 = o.2.2.2.2.1)) := by
  refine PC.of_PW (m := 2000) env_ok fn_63 rfl rfl rfl rfl (by kernel_rfl) ?_; intro hx; simp only [Try.f63]; simp only [go_sem, Nat.reduceBEq, ↓reduceIte, ↓reduceDIte, Nat.reduceAdd, Nat.reduceSub, Nat.reduceMul, Nat.reduceLeDiff, ← Bool.decide_and, ← Bool.decide_or, ← decide_not, Int.reduceLT, Int.reduceLE, Int.reduceToNat, Int.reduceNeg, by_nil]
def rk2 (o : Ord') : Bool := decide ((o.2.2.2.2.1 = [] ∧ (0 ≤ o.2.2.2.2.2.1 ∧ o.2.2.2.2.2.1 ≤ 7)) ∧ o.2.2.2.2.2.2 = 0)
theorem c_r2 (o : Ord') : PC env 64 [⟨OrderT, o⟩] .bool (rk2 o) := by
  refine PC.of_PW (m := 2000) env_ok fn_64 rfl rfl rfl rfl (by kernel_rfl) ?_; intro hx; simp only [Try.f64]; simp only [go_sem, Nat.reduceBEq, ↓reduceIte, ↓reduceDIte, Nat.reduceAdd, Nat.reduceSub, Nat.reduceMul, Nat.reduceLeDiff, ← Bool.decide_and, ← Bool.decide_or, ← decide_not, Int.reduceLT, Int.reduceLE, Int.reduceToNat, Int.reduceNeg, by_nil]
  unfold rk2
  repeat' (first | (with_reducible intro _) | (with_reducible apply And.intro) | (with_reducible refine ⟨_, c_within _ _ _, ?_⟩; simp only [go_sem, Nat.reduceBEq, ↓reduceIte, ↓reduceDIte, Nat.reduceAdd, Nat.reduceSub, Nat.reduceMul, Nat.reduceLeDiff, ← Bool.decide_and, ← Bool.decide_or, ← decide_not, Int.reduceLT, Int.reduceLE, Int.reduceToNat, Int.reduceNeg, by_nil]))
  all_goals first | (symm; simp; omega) | (clear hx; simp_all; done) | exact ⟨_, c_within _ _ _, by clear hx; simp_all⟩
theorem c_m2 (o : Ord') (r : Rec) : PC env 65 [⟨OrderT, o⟩, ⟨RecordT, r⟩] .bool (decide (r.2.2.2.2.1 = o.2.2.2.2.2.1)) := by
  refine PC.of_PW (m := 2000) env_ok fn_65 rfl rfl rfl rfl (by kernel_rfl) ?_; intro hx; simp only [Try.f65]; simp only [go_sem, Nat.reduceBEq, ↓reduceIte, ↓reduceDIte, Nat.reduceAdd, Nat.reduceSub, Nat.reduceMul, Nat.reduceLeDiff, ← Bool.decide_and, ← Bool.decide_or, ← decide_not, Int.reduceLT, Int.reduceLE, Int.reduceToNat, Int.reduceNeg, by_nil]
theorem c_r3 (o : Ord') : PC env 66 [⟨OrderT, o⟩] .bool (rk2 o) := by
  refine PC.of_PW (m := 2000) env_ok fn_66 rfl rfl rfl rfl (by kernel_rfl) ?_; intro hx; simp only [Try.f66]; simp only [go_sem, Nat.reduceBEq, ↓reduceIte, ↓reduceDIte, Nat.reduceAdd, Nat.reduceSub, Nat.reduceMul, Nat.reduceLeDiff, ← Bool.decide_and, ← Bool.decide_or, ← decide_not, Int.reduceLT, Int.reduceLE, Int.reduceToNat, Int.reduceNeg, by_nil]
  unfold rk2
  repeat' (first | (with_reducible intro _) | (with_reducible apply And.intro) | (with_reducible refine ⟨_, c_within _ _ _, ?_⟩; simp only [go_sem, Nat.reduceBEq, ↓reduceIte, ↓reduceDIte, Nat.reduceAdd, Nat.reduceSub, Nat.reduceMul, Nat.reduceLeDiff, ← Bool.decide_and, ← Bool.decide_or, ← decide_not, Int.reduceLT, Int.reduceLE, Int.reduceToNat, Int.reduceNeg, by_nil]))
  all_goals first | (symm; simp; omega) | (clear hx; simp_all; done) | exact ⟨_, c_within _ _ _, by clear hx; simp_all⟩
theorem c_m3 (o : Ord') (r : Rec) : PC env 67 [⟨OrderT, o⟩, ⟨RecordT, r⟩] .bool (decide (r.1 = o.2.2.2.2.2.1)) := by
  refine PC.of_PW (m := 2000) env_ok fn_67 rfl rfl rfl rfl (by kernel_rfl) ?_; intro hx; simp only [Try.f67]; simp only [go_sem, Nat.reduceBEq, ↓reduceIte, ↓reduceDIte, Nat.reduceAdd, Nat.reduceSub, Nat.reduceMul, Nat.reduceLeDiff, ← Bool.decide_and, ← Bool.decide_or, ← decide_not, Int.reduceLT, Int.reduceLE, Int.reduceToNat, Int.reduceNeg, by_nil]
def rk4 (o : Ord') : Bool := decide ((o.2.2.2.2.1 = [] ∧ (0 ≤ o.2.2.2.2.2.1 ∧ o.2.2.2.2.2.1 ≤ o.2.2.1)) ∧ o.2.2.2.2.2.2 = 0)
theorem c_r4 (o : Ord') : PC env 68 [⟨OrderT, o⟩] .bool (rk4 o) := by
  refine PC.of_PW (m := 2000) env_ok fn_68 rfl rfl rfl rfl (by kernel_rfl) ?_; intro hx; simp only [Try.f68]; simp only [go_sem, Nat.reduceBEq, ↓reduceIte, ↓reduceDIte, Nat.reduceAdd, Nat.reduceSub, Nat.reduceMul, Nat.reduceLeDiff, ← Bool.decide_and, ← Bool.decide_or, ← decide_not, Int.reduceLT, Int.reduceLE, Int.reduceToNat, Int.reduceNeg, by_nil]
  unfold rk4
  repeat' (first | (with_reducible intro _) | (with_reducible apply And.intro) | (with_reducible refine ⟨_, c_within _ _ _, ?_⟩; simp only [go_sem, Nat.reduceBEq, ↓reduceIte, ↓reduceDIte, Nat.reduceAdd, Nat.reduceSub, Nat.reduceMul, Nat.reduceLeDiff, ← Bool.decide_and, ← Bool.decide_or, ← decide_not, Int.reduceLT, Int.reduceLE, Int.reduceToNat, Int.reduceNeg, by_nil]))
  all_goals first | (symm; simp; omega) | (clear hx; simp_all; done) | exact ⟨_, c_within _ _ _, by clear hx; simp_all⟩
theorem c_m4 (o : Ord') (r : Rec) : PC env 69 [⟨OrderT, o⟩, ⟨RecordT, r⟩] .bool (decide (o.2.2.2.2.2.1 ≤ r.2.2.1)) := by
  refine PC.of_PW (m := 2000) env_ok fn_69 rfl rfl rfl rfl (by kernel_rfl) ?_; intro hx; simp only [Try.f69]; simp only [go_sem, Nat.reduceBEq, ↓reduceIte, ↓reduceDIte, Nat.reduceAdd, Nat.reduceSub, Nat.reduceMul, Nat.reduceLeDiff, ← Bool.decide_and, ← Bool.decide_or, ← decide_not, Int.reduceLT, Int.reduceLE, Int.reduceToNat, Int.reduceNeg, by_nil]
def rk5 (o : Ord') : Bool := decide ((o.2.2.2.2.1 = [] ∧ (1 ≤ o.2.2.2.2.2.1 ∧ o.2.2.2.2.2.1 ≤ 1000000)) ∧ (0 ≤ o.2.2.2.2.2.2 ∧ o.2.2.2.2.2.2 ≤ 7))
theorem c_r5 (o : Ord') : PC env 70 [⟨OrderT, o⟩] .bool (rk5 o) := by
  refine PC.of_PW (m := 2000) env_ok fn_70 rfl rfl rfl rfl (by kernel_rfl) ?_; intro hx; simp only [Try.f70]; simp only [go_sem, Nat.reduceBEq, ↓reduceIte, ↓reduceDIte, Nat.reduceAdd, Nat.reduceSub, Nat.reduceMul, Nat.reduceLeDiff, ← Bool.decide_and, ← Bool.decide_or, ← decide_not, Int.reduceLT, Int.reduceLE, Int.reduceToNat, Int.reduceNeg, by_nil]
  unfold rk5
  repeat' (first | (with_reducible intro _) | (with_reducible apply And.intro) | (with_reducible refine ⟨_, c_within _ _ _, ?_⟩; simp only [go_sem, Nat.reduceBEq, ↓reduceIte, ↓reduceDIte, Nat.reduceAdd, Nat.reduceSub, Nat.reduceMul, Nat.reduceLeDiff, ← Bool.decide_and, ← Bool.decide_or, ← decide_not, Int.reduceLT, Int.reduceLE, Int.reduceToNat, Int.reduceNeg, by_nil]))
  all_goals first | (symm; simp; omega) | (clear hx; simp_all; done) | exact ⟨_, c_within _ _ _, by clear hx; simp_all⟩
theorem c_m5 (o : Ord') (r : Rec) : PC env 71 [⟨OrderT, o⟩, ⟨RecordT, r⟩] .bool (decide (r.1 = o.2.2.2.2.2.2 ∧ r.2.1 = o.2.2.2.2.2.1)) := by
  refine PC.of_PW (m := 2000) env_ok fn_71 rfl rfl rfl rfl (by kernel_rfl) ?_; intro hx; simp only [Try.f71]; simp only [go_sem, Nat.reduceBEq, ↓reduceIte, ↓reduceDIte, Nat.reduceAdd, Nat.reduceSub, Nat.reduceMul, Nat.reduceLeDiff, ← Bool.decide_and, ← Bool.decide_or, ← decide_not, Int.reduceLT, Int.reduceLE, Int.reduceToNat, Int.reduceNeg, by_nil]
  repeat' (first | (with_reducible intro _) | (with_reducible apply And.intro) )
  all_goals (clear hx; simp_all)
def rk (o : Ord') : Bool := if o.2.2.2.1 = 1 then rk1 o else if o.2.2.2.1 = 2 then rk2 o else if o.2.2.2.1 = 3 then rk2 o else if o.2.2.2.1 = 4 then rk4 o else if o.2.2.2.1 = 5 then rk5 o else false
def meansK (o : Ord') (r : Rec) : Bool := if o.2.2.2.1 = 1 then decide (r.2.2.2.1 = o.2.2.2.2.1) else if o.2.2.2.1 = 2 then decide (r.2.2.2.2.1 = o.2.2.2.2.2.1) else if o.2.2.2.1 = 3 then decide (r.1 = o.2.2.2.2.2.1)
  else if o.2.2.2.1 = 4 then decide (o.2.2.2.2.2.1 ≤ r.2.2.1) else if o.2.2.2.1 = 5 then decide (r.1 = o.2.2.2.2.2.2 ∧ r.2.1 = o.2.2.2.2.2.1) else false
def rightO (o : Ord') : Bool := decide ((0 ≤ o.1 ∧ o.1 ≤ 7) ∧ (1 ≤ o.2.1 ∧ o.2.1 ≤ 1000000) ∧ (0 ≤ o.2.2.1 ∧ o.2.2.1 ≤ 10000)) && rk o
def rightR (r : Rec) : Bool := decide ((0 ≤ r.1 ∧ r.1 ≤ 7) ∧ (1 ≤ r.2.1 ∧ r.2.1 ≤ 1000000) ∧ (0 ≤ r.2.2.1 ∧ r.2.2.1 ≤ 10000)) && (wordB r.2.2.2.1 && decide ((0 ≤ r.2.2.2.2.1 ∧ r.2.2.2.2.1 ≤ 7) ∧ (1 ≤ r.2.2.2.2.2 ∧ r.2.2.2.2.2 ≤ 1000)))
def meantB (o : Ord') (r : Rec) : Bool := decide (r.2.2.1 ≤ o.2.2.1) && meansK o r
theorem forms_at {k : Int} {v : Nat × Nat} (h : mfind (eqB (.int .i64)) formsD k = some v) : (k = 1 ∧ v = (61, 63)) ∨ (k = 2 ∧ v = (64, 65)) ∨ (k = 3 ∧ v = (66, 67)) ∨ (k = 4 ∧ v = (68, 69)) ∨ (k = 5 ∧ v = (70, 71)) := by
  unfold formsD at h
  simp only [mfind, eqB, cond_eq_ite, decide_eq_true_eq] at h
  repeat' split at h
  all_goals first | (cases h; done) | (injection h with h; subst h; simp_all)
theorem forms_no {k : Int} (h : mfind (eqB (.int .i64)) formsD k = none) : k ≠ 1 ∧ k ≠ 2 ∧ k ≠ 3 ∧ k ≠ 4 ∧ k ≠ 5 := by
  unfold formsD at h
  simp only [mfind, eqB, cond_eq_ite, decide_eq_true_eq] at h
  repeat' split at h
  all_goals first | (cases h; done) | simp_all
theorem c_rightO (o : Ord') : PC env 36 [⟨.mp (.int .i64) FormT, formsD⟩, ⟨OrderT, o⟩] .bool (rightO o) := by
  refine PC.of_PW (m := 2000) env_ok fn_36 rfl rfl rfl rfl (by kernel_rfl) ?_; intro hx; simp only [Try.f36]; simp only [go_sem, Nat.reduceBEq, ↓reduceIte, ↓reduceDIte, Nat.reduceAdd, Nat.reduceSub, Nat.reduceMul, Nat.reduceLeDiff, ← Bool.decide_and, ← Bool.decide_or, ← decide_not, Int.reduceLT, Int.reduceLE, Int.reduceToNat, Int.reduceNeg, by_nil]
  refine ⟨_, c_ofO o, fun _ => ⟨_, c_made _ _, ?_⟩⟩
  simp only [go_sem, Nat.reduceBEq, ↓reduceIte, ↓reduceDIte, Nat.reduceAdd, Nat.reduceSub, Nat.reduceMul, Nat.reduceLeDiff, ← Bool.decide_and, ← Bool.decide_or, ← decide_not, Int.reduceLT, Int.reduceLE, Int.reduceToNat, Int.reduceNeg, by_nil]
  refine ⟨fun h => ?_, fun h => ⟨fun v hv => ?_, fun hn => ?_⟩⟩
  · simp [rightO, h]
  · rcases forms_at hv with ⟨k, rfl⟩ | ⟨k, rfl⟩ | ⟨k, rfl⟩ | ⟨k, rfl⟩ | ⟨k, rfl⟩ <;> simp only [go_sem, Nat.reduceBEq, ↓reduceIte, ↓reduceDIte, Nat.reduceAdd, Nat.reduceSub, Nat.reduceMul, Nat.reduceLeDiff, ← Bool.decide_and, ← Bool.decide_or, ← decide_not, Int.reduceLT, Int.reduceLE, Int.reduceToNat, Int.reduceNeg, by_nil]
    · exact ⟨_, c_r1 o, by simp [rightO, rk, k, h]⟩
    · exact ⟨_, c_r2 o, by simp [rightO, rk, k, h]⟩
    · exact ⟨_, c_r3 o, by simp [rightO, rk, k, h]⟩
    · exact ⟨_, c_r4 o, by simp [rightO, rk, k, h]⟩
    · exact ⟨_, c_r5 o, by simp [rightO, rk, k, h]⟩
  · have := forms_no hn
    simp [rightO, rk, this]
theorem c_rightR (r : Rec) : PC env 55 [⟨RecordT, r⟩] .bool (rightR r) := by
  refine PC.of_PW (m := 2000) env_ok fn_55 rfl rfl rfl rfl (by kernel_rfl) ?_; intro hx; simp only [Try.f55]; simp only [go_sem, Nat.reduceBEq, ↓reduceIte, ↓reduceDIte, Nat.reduceAdd, Nat.reduceSub, Nat.reduceMul, Nat.reduceLeDiff, ← Bool.decide_and, ← Bool.decide_or, ← decide_not, Int.reduceLT, Int.reduceLE, Int.reduceToNat, Int.reduceNeg, by_nil]
  refine ⟨_, c_ofR r, fun _ => ⟨_, c_made _ _, ?_⟩⟩
  simp only [go_sem, Nat.reduceBEq, ↓reduceIte, ↓reduceDIte, Nat.reduceAdd, Nat.reduceSub, Nat.reduceMul, Nat.reduceLeDiff, ← Bool.decide_and, ← Bool.decide_or, ← decide_not, Int.reduceLT, Int.reduceLE, Int.reduceToNat, Int.reduceNeg, by_nil]
  unfold rightR
  refine ⟨fun h => ⟨_, c_Word _, ?_⟩, fun h => ?_⟩
  · cases hw : wordB r.2.2.2.1
    · simp only [go_sem, Nat.reduceBEq, ↓reduceIte, ↓reduceDIte, Nat.reduceAdd, Nat.reduceSub, Nat.reduceMul, Nat.reduceLeDiff, ← Bool.decide_and, ← Bool.decide_or, ← decide_not, Int.reduceLT, Int.reduceLE, Int.reduceToNat, Int.reduceNeg, by_nil]
      try simp [hw]
    · simp only [go_sem, Nat.reduceBEq, ↓reduceIte, ↓reduceDIte, Nat.reduceAdd, Nat.reduceSub, Nat.reduceMul, Nat.reduceLeDiff, ← Bool.decide_and, ← Bool.decide_or, ← decide_not, Int.reduceLT, Int.reduceLE, Int.reduceToNat, Int.reduceNeg, by_nil]
      repeat' (first | (with_reducible intro _) | (with_reducible apply And.intro) | (with_reducible refine ⟨_, c_within _ _ _, ?_⟩; simp only [go_sem, Nat.reduceBEq, ↓reduceIte, ↓reduceDIte, Nat.reduceAdd, Nat.reduceSub, Nat.reduceMul, Nat.reduceLeDiff, ← Bool.decide_and, ← Bool.decide_or, ← decide_not, Int.reduceLT, Int.reduceLE, Int.reduceToNat, Int.reduceNeg, by_nil]))
      all_goals first | (symm; simp; omega) | (clear hx; simp_all; done) | exact ⟨_, c_within _ _ _, by clear hx; simp_all⟩
  · simp [h]
theorem c_meantF (o : Ord') (r : Rec) : PC env 75 [⟨OrderT, o⟩, ⟨.ptr (.mp (.int .i64) FormT), formsD⟩, ⟨.ptr RecordT, r⟩] .bool (meantB o r) := by
  refine PC.of_PW (m := 2000) env_ok fn_75 rfl rfl rfl rfl (by kernel_rfl) ?_; intro hx; simp only [Try.f75]; simp only [go_sem, Nat.reduceBEq, ↓reduceIte, ↓reduceDIte, Nat.reduceAdd, Nat.reduceSub, Nat.reduceMul, Nat.reduceLeDiff, ← Bool.decide_and, ← Bool.decide_or, ← decide_not, Int.reduceLT, Int.reduceLE, Int.reduceToNat, Int.reduceNeg, by_nil]
  refine ⟨fun v hv => ?_, fun hn => ?_⟩
  · rcases forms_at hv with ⟨k, rfl⟩ | ⟨k, rfl⟩ | ⟨k, rfl⟩ | ⟨k, rfl⟩ | ⟨k, rfl⟩ <;> simp only [go_sem, Nat.reduceBEq, ↓reduceIte, ↓reduceDIte, Nat.reduceAdd, Nat.reduceSub, Nat.reduceMul, Nat.reduceLeDiff, ← Bool.decide_and, ← Bool.decide_or, ← decide_not, Int.reduceLT, Int.reduceLE, Int.reduceToNat, Int.reduceNeg, by_nil]
    · exact ⟨fun hl => ⟨_, c_m1 o r, by simp [meantB, meansK, k, hl]⟩, fun hl => by simp [meantB, hl]⟩
    · exact ⟨fun hl => ⟨_, c_m2 o r, by simp [meantB, meansK, k, hl]⟩, fun hl => by simp [meantB, hl]⟩
    · exact ⟨fun hl => ⟨_, c_m3 o r, by simp [meantB, meansK, k, hl]⟩, fun hl => by simp [meantB, hl]⟩
    · exact ⟨fun hl => ⟨_, c_m4 o r, by simp [meantB, meansK, k, hl]⟩, fun hl => by simp [meantB, hl]⟩
    · exact ⟨fun hl => ⟨_, c_m5 o r, by simp [meantB, meansK, k, hl]⟩, fun hl => by simp [meantB, hl]⟩
  · have := forms_no hn
    simp [meantB, meansK, this]
end Go.Proofs.Ytnncphnpajkojaa
namespace Go.Proofs.Ytnncphnpajkojaa
set_option maxHeartbeats 4000000
set_option maxRecDepth 100000

abbrev MpT : Ty := .mp (.int .i64) FormT
abbrev CloT : Ty := .clo 75 (.pair (.ptr (.mp (.int .i64) FormT)) (.ptr RecordT))
def idxL {α : Type} (p : α → Bool) (l : List α) : Int := if l.any p then (l.findIdx p : Int) else -1
theorem any_step {α : Type} {xs : List α} {i : Nat} {x : α} {p : α → Bool} (h : xs[i]? = some x) : (xs.take (i + 1)).any p = ((xs.take i).any p || p x) := by
  rw [take_snoc h, List.any_append]
  simp
theorem idx_hit {α : Type} {p : α → Bool} {l : List α} {i : Nat} {x : α} (h : l[i]? = some x) (hb : (l.take i).any p = false) (hp : p x = true) : idxL p l = (i : Int) := by
  have hany : l.any p = true := List.any_eq_true.2 ⟨x, List.mem_of_getElem? h, hp⟩
  unfold idxL
  rw [if_pos hany]
  obtain ⟨hi, e⟩ := List.getElem?_eq_some_iff.1 h
  have : l.findIdx p = i := by
    rw [List.findIdx_eq hi]
    refine ⟨by rw [e]; exact hp, fun j hj => ?_⟩
    rw [List.any_eq_false] at hb
    have := hb l[j] (by rw [List.mem_take_iff_getElem]; exact ⟨j, by omega, rfl⟩)
    simpa using this
  rw [this]
theorem c_Index (l : List Ord') (r : Rec) : PC env 87 [⟨.sl OrderT, l⟩, ⟨CloT, (formsD, r)⟩] (.int .i64) (idxL (fun o => meantB o r) l) := by
  refine PC.of_PW (m := 2000) env_ok fn_87 rfl rfl rfl rfl (by kernel_rfl) ?_; intro hx; simp only [Try.f87]; simp only [go_sem, Nat.reduceBEq, ↓reduceIte, ↓reduceDIte, Nat.reduceAdd, Nat.reduceSub, Nat.reduceMul, Nat.reduceLeDiff, ← Bool.decide_and, ← Bool.decide_or, ← decide_not, Int.reduceLT, Int.reduceLE, Int.reduceToNat, Int.reduceNeg]
  refine Walks.loopW (X := Nat) (fun i => ⟨[(8, .iv (.int .i64) (i : Int)), (7, .iv (.int .i64) (l.length : Int)), (0, .iv (.sl OrderT) l), (1, .fn 75 [.eptr MpT formsD 0, .eptr RecordT r 0])], []⟩)
    (fun i => i ≤ l.length ∧ (l.take i).any (fun o => meantB o r) = false) (fun i => l.length - i) 0 (by refine ⟨?_, ?_, rfl, rfl⟩ <;> repeat' (first | exact trivial | (refine And.intro (Or.inl rfl) ?_) | (refine And.intro (Or.inr (Or.inl rfl)) ?_) | (refine And.intro (Or.inr (Or.inr (Or.inr ⟨rfl, rfl⟩))) ?_) | rfl | (refine And.intro (Or.inl ?_) ?_) | (refine And.intro ?_ ?_))) ⟨Nat.zero_le _, rfl⟩ ?_
  intro i ⟨hi, hb⟩ back
  refine PW_sound env_ok ⟨_, fn_87, rfl⟩ 2000 _ _ (by kernel_rfl) ?_; simp only [go_sem, Nat.reduceBEq, ↓reduceIte, ↓reduceDIte, Nat.reduceAdd, Nat.reduceSub, Nat.reduceMul, Nat.reduceLeDiff, ← Bool.decide_and, ← Bool.decide_or, ← decide_not, Int.reduceLT, Int.reduceLE, Int.reduceToNat, Int.reduceNeg]
  have hlen : l.length ≤ 9223372036854775807 := hx.1.1
  refine ⟨fun h => ?_, fun h => ?_⟩
  · obtain ⟨x, hxi⟩ : ∃ x, l[i]? = some x := get_of_lt (by omega)
    refine ⟨Int.natCast_nonneg i, x, hxi, _, c_meantF x r, ?_⟩
    cases hm : meantB x r
    · simp only [go_sem, Nat.reduceBEq, ↓reduceIte, ↓reduceDIte, Nat.reduceAdd, Nat.reduceSub, Nat.reduceMul, Nat.reduceLeDiff, ← Bool.decide_and, ← Bool.decide_or, ← decide_not, Int.reduceLT, Int.reduceLE, Int.reduceToNat, Int.reduceNeg]
      refine ⟨i64_ok (by omega) (by omega), back _ (i + 1) (by refine ⟨?_, ?_, rfl, rfl⟩ <;> repeat' (first | exact trivial | (refine And.intro (Or.inl rfl) ?_) | (refine And.intro (Or.inr (Or.inl rfl)) ?_) | (refine And.intro (Or.inr (Or.inr (Or.inr ⟨rfl, rfl⟩))) ?_) | rfl | (refine And.intro (Or.inl ?_) ?_) | (refine And.intro ?_ ?_))) ⟨by omega, by rw [any_step hxi, hb, hm]; rfl⟩ (by omega)⟩
    · simp only [go_sem, Nat.reduceBEq, ↓reduceIte, ↓reduceDIte, Nat.reduceAdd, Nat.reduceSub, Nat.reduceMul, Nat.reduceLeDiff, ← Bool.decide_and, ← Bool.decide_or, ← decide_not, Int.reduceLT, Int.reduceLE, Int.reduceToNat, Int.reduceNeg]
      exact (idx_hit hxi hb hm).symm
  · have e : l.take i = l := List.take_of_length_le (by omega)
    rw [e] at hb
    unfold idxL
    rw [hb]
    rfl
theorem c_Contains (l : List Ord') (r : Rec) : PC env 74 [⟨.sl OrderT, l⟩, ⟨CloT, (formsD, r)⟩] .bool (l.any (fun o => meantB o r)) := by
  refine PC.of_PW (m := 2000) env_ok fn_74 rfl rfl rfl rfl (by kernel_rfl) ?_; intro hx; simp only [Try.f74]; simp only [go_sem, Nat.reduceBEq, ↓reduceIte, ↓reduceDIte, Nat.reduceAdd, Nat.reduceSub, Nat.reduceMul, Nat.reduceLeDiff, ← Bool.decide_and, ← Bool.decide_or, ← decide_not, Int.reduceLT, Int.reduceLE, Int.reduceToNat, Int.reduceNeg]
  refine ⟨_, c_Index l r, fun _ => ?_⟩
  unfold idxL
  cases h : l.any (fun o => meantB o r)
  · rfl
  · simp
theorem c_meant (l : List Ord') (r : Rec) : PC env 39 [⟨MpT, formsD⟩, ⟨.sl OrderT, l⟩, ⟨RecordT, r⟩] .bool (l.any (fun o => meantB o r)) := by
  refine PC.of_PW (m := 2000) env_ok fn_39 rfl rfl rfl rfl (by kernel_rfl) ?_; intro hx; simp only [Try.f39]; simp only [go_sem, Nat.reduceBEq, ↓reduceIte, ↓reduceDIte, Nat.reduceAdd, Nat.reduceSub, Nat.reduceMul, Nat.reduceLeDiff, ← Bool.decide_and, ← Bool.decide_or, ← decide_not, Int.reduceLT, Int.reduceLE, Int.reduceToNat, Int.reduceNeg]
  exact ⟨_, c_Contains l r, rfl⟩

/-- Binary search between i and j. -/
def bsF (lt : Nat → Bool) (i j : Nat) : Nat := if i < j then (if lt ((i + j) / 2) then bsF lt ((i + j) / 2 + 1) j else bsF lt i ((i + j) / 2)) else i
termination_by j - i
theorem bsF_le (lt : Nat → Bool) (i j : Nat) (h : i ≤ j) : i ≤ bsF lt i j ∧ bsF lt i j ≤ j := by
  unfold bsF
  split
  · split
    · have := bsF_le lt ((i + j) / 2 + 1) j (by omega)
      omega
    · have := bsF_le lt i ((i + j) / 2) (by omega)
      omega
  · omega
termination_by j - i
def ltAt {α : Type} (pl : α → Int × Int) (l : List α) (p : Int × Int) (h : Nat) : Bool := match l[h]? with | some x => decide (cmpP (pl x) p < 0) | none => false
def bsI {α : Type} (pl : α → Int × Int) (l : List α) (p : Int × Int) : Nat := bsF (ltAt pl l p) 0 l.length
def hitAt {α : Type} (pl : α → Int × Int) (l : List α) (p : Int × Int) (i : Nat) : Bool := match l[i]? with | some x => decide (cmpP (pl x) p = 0) | none => false
theorem bsI_le {α : Type} (pl : α → Int × Int) (l : List α) (p : Int × Int) : bsI pl l p ≤ l.length := (bsF_le _ 0 l.length (Nat.zero_le _)).2
def plO (o : Ord') : Int × Int := (o.1, o.2.1)
def plR (r : Rec) : Int × Int := (r.1, r.2.1)
theorem half_wrap {i j : Nat} (h : (i : Int) + j ≤ 2000000) : IntKind.i64.wrap (IntKind.u64.wrap ((i : Int) + j) / 2 ^ 1) = (((i + j) / 2 : Nat) : Int) := by
  have e1 : IntKind.u64.wrap ((i : Int) + j) = (i : Int) + j := wrap_in _ ⟨by simp only [min_u64]; omega, by simp only [max_u64]; omega⟩
  rw [e1]
  have e2 : ((i : Int) + j) / 2 ^ 1 = (((i + j) / 2 : Nat) : Int) := by
    rw [Int.natCast_ediv]
    norm_cast
  rw [e2]
  exact wrap_in _ ⟨by simp only [min_i64]; omega, by simp only [max_i64]; omega⟩
def sumLen {α : Type} (ls : List (List α)) : Nat := (ls.map List.length).sum
theorem sumLen_snoc {α : Type} {ls : List (List α)} {k : Nat} {x : List α} (h : ls[k]? = some x) : sumLen (ls.take (k + 1)) = sumLen (ls.take k) + x.length := by
  unfold sumLen
  rw [take_snoc h, List.map_append, List.sum_append]
  simp
theorem sumLen_take {α : Type} (ls : List (List α)) (k : Nat) : sumLen (ls.take k) ≤ sumLen ls := by
  unfold sumLen
  conv => rhs; rw [← List.take_append_drop k ls]
  rw [List.map_append, List.sum_append]
  omega
/-- A list with one more at its place. -/
def insAt {α : Type} (l : List α) (i : Nat) (x : α) : List α := l.take i ++ x :: l.drop i
def okAt {α : Type} (pl : α → Int × Int) (l : List α) (j : Nat) : Bool := match l[j]?, l[j + 1]? with
  | some x, some y => decide (cmpP (pl x) (pl y) < 0) | _, _ => true
def sortedB {α : Type} (pl : α → Int × Int) (l : List α) : Bool := (List.range (l.length - 1)).all (okAt pl l)
end Go.Proofs.Ytnncphnpajkojaa
namespace Go.Proofs.Ytnncphnpajkojaa
set_option maxHeartbeats 4000000
section
variable {α : Type}
/-- x comes into a list that is read from behind. -/
def insR (lt : α → α → Bool) : List α → α → List α
  | [], x => [x]
  | y :: r, x => if lt x y = true then y :: insR lt r x else x :: y :: r
def isort (lt : α → α → Bool) (xs : List α) : List α := (xs.foldl (insR lt) []).reverse
theorem insR_length (lt : α → α → Bool) (x : α) : ∀ r : List α, (insR lt r x).length = r.length + 1 := by
  intro r
  induction r with
  | nil => rfl
  | cons y r ih => unfold insR; split <;> simp [ih]
theorem foldl_insR_length (lt : α → α → Bool) : ∀ (xs r : List α), (xs.foldl (insR lt) r).length = r.length + xs.length := by
  intro xs
  induction xs with
  | nil => intro r; rfl
  | cons x xs ih => intro r; rw [List.foldl_cons, ih, insR_length, List.length_cons]; omega
/-- The array: left (read from behind), x, right. -/
def mid (l : List α) (x : α) (r : List α) : List α := l.reverse ++ x :: r
theorem mid_length (l : List α) (x : α) (r : List α) : (mid l x r).length = l.length + r.length + 1 := by simp [mid]; omega
theorem mid_at (l : List α) (x : α) (r : List α) : (mid l x r)[l.length]? = some x := by
  unfold mid
  rw [List.getElem?_append_right (by simp)]
  simp
theorem mid_cons (l : List α) (x y : α) (r : List α) : mid (y :: l) x r = mid l y (x :: r) := by simp [mid]
theorem mid_before (l : List α) (x y : α) (r : List α) : (mid (y :: l) x r)[l.length]? = some y := by rw [mid_cons]; exact mid_at l y _
theorem mid_set (l : List α) (x z : α) (r : List α) : (mid l x r).set l.length z = mid l z r := by
  unfold mid
  rw [List.set_append_right _ _ (by simp)]
  simp
theorem mid_swap (l : List α) (x y : α) (r : List α) : ((mid (y :: l) x r).set (l.length + 1) y).set l.length x = mid l x (y :: r) := by
  have h : (mid (y :: l) x r).set (l.length + 1) y = mid (y :: l) y r := mid_set (y :: l) x y r
  rw [h, mid_cons, mid_set]
end
end Go.Proofs.Ytnncphnpajkojaa
