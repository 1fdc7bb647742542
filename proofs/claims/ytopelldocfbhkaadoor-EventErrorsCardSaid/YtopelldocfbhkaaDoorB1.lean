/- Contracts: Valid of both. Nothing here is trusted; no condition. -/
import Derived.Test.YtopelldocfbhkaaDoorA9
import Derived.Test.YtopelldocfbhkaaDoorProg
import Derived.Lib.Split
import Derived.Lib.Join
import Derived.Lib.ItoaLen
import Derived.Shelf.Strings.Builder1
import Derived.Shelf.Strings.Builder2
import Derived.Shelf.Strings.OnBuilder
import Derived.Shelf.Strconv.Itoa0
import Derived.Shelf.Strconv.Itoa1
import Derived.Shelf.LaysM
import Derived.Shelf.Strconv.Itoa2
import Derived.Shelf.Strconv.Itoa3
import Derived.Shelf.Strings.Search1
import Derived.Shelf.Strings.Search2
import Derived.Shelf.Strings.Search3
import Derived.Shelf.Strings.Cut
import Derived.Shelf.Strings.Count
import Derived.Shelf.Strings.Shaped
import Derived.Shelf.Strings.Split
import Derived.Shelf.Unicode.DecodeSlow
set_option linter.unusedSimpArgs false
set_option linter.unusedVariables false
namespace Go.Proofs.YtopelldocfbhkaaDoor
set_option maxRecDepth 100000

/-- runtime.boundsError -/
abbrev BoundsErrorT : Ty := (.st (.pair (.int .i64) (.pair (.int .i64) (.pair .bool (.int .u8)))))
/-- runtime.errorAddressString -/
abbrev ErrorAddressStringT : Ty := (.st (.pair .str (.int .u64)))
/-- syllabaryref01.Raw -/
abbrev RawT : Ty := (.st (.pair (.int .u8) (.pair (.sl (.int .u8)) (.pair (.sl (.st (.pair (.int .u8) (.int .u8)))) (.pair (.int .u8) (.int .u8))))))
/-- api.Point -/
abbrev PointT : Ty := (.st (.pair (.int .i64) (.int .i64)))
/-- api.Event -/
abbrev EventT : Ty := (.st (.pair (.int .i64) (.pair .str (.pair (.sl PointT) (.pair .str (.pair (.int .i64) (.int .i64)))))))
/-- event.form -/
abbrev FormT : Ty := (.st (.pair .str (.pair .fnv .fnv)))
/-- utf8.acceptRange -/
abbrev AcceptRangeT : Ty := (.st (.pair (.int .u8) (.int .u8)))
def tys : List (Nat × Ty) := [(1, .fnv), (2, (.int .i64)), (3, (.int .i64)), (4, .bool), (5, (.int .u8)), (6, (.int .u8)), (7, BoundsErrorT), (8, BoundsErrorT), (9, .str), (10, .str), (11, .str), (12, (.int .u64)), (13, ErrorAddressStringT), (14, ErrorAddressStringT), (21, (.int .i32)), (22, (.sl (.int .u8))), (23, (.sl (.st (.pair (.int .u8) (.int .u8))))), (24, RawT), (25, RawT), (26, (.st (.pair (.int .u8) (.int .u8)))), (27, .fnv), (28, .fnv), (29, (.sl PointT)), (30, EventT), (31, EventT), (32, .fnv), (33, (.sl .str)), (34, (.int .i64)), (36, .fnv), (37, .fnv), (38, .fnv), (39, (.int .i8)), (40, (.st (.pair (.int .i8) (.int .i8)))), (41, PointT), (42, PointT), (43, .fnv), (44, .fnv), (45, .fnv), (46, .fnv), (47, (.sl RawT)), (48, (.sl EventT)), (50, .fnv), (52, .fnv), (53, .fnv), (54, .fnv), (55, .fnv), (56, .fnv), (57, (.int .u16)), (58, .fnv), (59, .fnv), (60, .fnv), (61, .fnv), (62, .fnv), (63, .fnv), (64, (.mp (.int .i64) FormT)), (65, .fnv), (66, .fnv), (67, .fnv), (68, FormT), (69, FormT), (71, .fnv), (72, .fnv), (74, .fnv), (75, .fnv), (76, .fnv), (77, .fnv), (78, .fnv), (80, .fnv), (81, .fnv), (82, .fnv), (86, .fnv), (90, .fnv), (91, .fnv), (92, .fnv), (93, .fnv), (95, .fnv), (98, .fnv), (99, .fnv), (101, .fnv), (102, .fnv), (103, .fnv), (104, (.int .u64)), (105, .fnv), (106, (.int .u32)), (108, .fnv), (110, AcceptRangeT), (111, AcceptRangeT), (112, (.st (.pair AcceptRangeT (.pair AcceptRangeT (.pair AcceptRangeT (.pair AcceptRangeT (.pair AcceptRangeT (.pair AcceptRangeT (.pair AcceptRangeT (.pair AcceptRangeT (.pair AcceptRangeT (.pair AcceptRangeT (.pair AcceptRangeT (.pair AcceptRangeT (.pair AcceptRangeT (.pair AcceptRangeT (.pair AcceptRangeT AcceptRangeT))))))))))))))))), (114, (.int .u64)), (115, .fnv), (116, .fnv), (118, .fnv), (119, .fnv), (122, .fnv), (123, .fnv), (124, .fnv), (132, .fnv), (133, (.int .u8)), (134, (.int .u8)), (135, .fnv), (136, (.int .i32)), (137, (.int .i32))]
def strs : List Nat := [7, 8, 13, 14, 24, 25, 30, 31, 41, 42, 68, 69, 110, 111]
def cmps : List Nat := [7, 8, 26, 40, 41, 42, 110, 111, 112]
def fns : List (Nat × (List Ty × Ty)) := [(2, ([], .unit)),
  (3, ([RawT, .str, (.st (.pair (.int .u8) (.int .u8)))], .bool)),
  (4, ([RawT, EventT, (.st (.pair (.int .i8) (.int .i8)))], .bool)),
  (5, ([RawT, RawT], .bool)),
  (6, ([RawT, .str, (.int .u8)], .bool)),
  (7, ([(.sl RawT), (.sl RawT)], .bool)),
  (8, ([(.sl RawT), .str, (.st (.pair (.int .u8) (.int .u8)))], .bool)),
  (9, ([(.int .u16), (.int .u8), (.int .u8)], .bool)),
  (10, ([], .bool)),
  (11, ([EventT], .str)),
  (12, ([RawT, (.int .i64)], EventT)),
  (13, ([.str], (.tup EventT (.int .i64)))),
  (14, ([.str], (.tup EventT (.int .i64)))),
  (15, ([EventT, EventT], .bool)),
  (16, ([EventT], .str)),
  (17, ([EventT], .bool)),
  (18, ([EventT], .bool)),
  (19, ([(.sl RawT), (.int .i64)], (.tup .str (.sl EventT)))),
  (20, ([.str], (.tup (.sl EventT) (.tup (.int .i64) (.int .i64))))),
  (21, ([(.sl EventT), (.sl EventT)], .bool)),
  (22, ([.str], (.tup (.sl EventT) (.tup (.int .i64) (.int .i64))))),
  (23, ([.str, (.int .u8)], (.sl .str))),
  (24, ([(.int .i64)], .str)),
  (25, ([], (.sl .str))),
  (26, ([(.sl (.int .u8)), (.int .i64), (.int .i64)], .str)),
  (27, ([(.int .u8), (.int .u8)], .str)),
  (28, ([.str, .str], (.sl .str))),
  (30, ([(.int .i64), (.sl .str)], EventT)),
  (31, ([(.sl PointT), (.sl PointT)], .bool)),
  (32, ([(.sl .str), .str], .str)),
  (33, ([.str], .bool)),
  (34, ([.str], .bool)),
  (35, ([(.sl PointT)], .bool)),
  (36, ([.str], .bool)),
  (37, ([(.int .i64), (.int .i64), (.int .i64)], .bool)),
  (38, ([.str], .bool)),
  (39, ([(.sl PointT), (.int .i64), (.int .i64)], .bool)),
  (40, ([.str, .str], (.tup .str (.tup .str .bool)))),
  (41, ([.str, .str, (.int .i64), (.int .i64)], (.sl .str))),
  (42, ([EventT], (.sl .str))),
  (43, ([(.sl .str)], (.tup EventT .bool))),
  (44, ([EventT], (.sl .str))),
  (45, ([(.sl .str)], (.tup EventT .bool))),
  (46, ([EventT], (.sl .str))),
  (47, ([(.sl .str)], (.tup EventT .bool))),
  (48, ([EventT], (.sl .str))),
  (49, ([(.sl .str)], (.tup EventT .bool))),
  (50, ([EventT], (.sl .str))),
  (51, ([(.sl .str)], (.tup EventT .bool))),
  (52, ([EventT], (.sl .str))),
  (53, ([(.sl .str)], (.tup EventT .bool))),
  (54, ([.str], (.int .i64))),
  (58, ([.str, .str], (.tup .str (.tup .str .bool)))),
  (59, ([.str, (.int .i64)], (.sl .str))),
  (60, ([.str, .str], (.int .i64))),
  (61, ([.str, .str], (.int .i64))),
  (62, ([(.int .i64)], .str)),
  (63, ([.str], (.tup (.int .i64) .bool))),
  (66, ([.str, .str], (.int .i64))),
  (67, ([.str], (.int .i64))),
  (68, ([.str], (.tup (.int .i32) (.int .i64)))),
  (70, ([(.int .i64)], .str)),
  (73, ([.str, (.int .u8)], (.int .i64))),
  (75, ([(.int .i64)], (.int .i64))),
  (76, ([.str, .str], (.int .i64))),
  (77, ([.str], (.tup (.int .i32) (.int .i64)))),
  (78, ([(.int .i64), (.int .i64)], .str)),
  (80, ([.str], (.tup (.int .u32) (.int .u32)))),
  (81, ([(.int .i64)], .str)),
  (82, ([(.int .u64)], (.int .i64))),
  (83, ([(.sl (.int .u8)), (.int .u64)], .unit)),
  (84, ([(.sl (.int .u8)), (.int .u64), (.int .i64), .bool, .bool], (.tup (.sl (.int .u8)) .str))),
  (85, ([(.int .i64)], (.int .i64))),
  (86, ([(.int .u64)], (.int .i64))),
  (87, ([.bool], (.int .i64))),
  (88, ([(.int .i64)], .bool)),
  (89, ([(.int .u64)], (.int .i64))),
  (90, ([(.int .u32)], (.int .i64))),
  (91, ([(.int .u64)], (.int .i64))),
  (117, ([], .unit)),
  (29, ([], (.mp (.int .i64) FormT)))]
def hfns : List (Nat × List (Option Ty)) := []
def keyTs : List (Nat × Nat) := [(64, 3)]
noncomputable def env : Env := mkEnv Tryd.prog tys strs cmps fns hfns keyTs [(20, 33)] true
theorem e_ro0 (d t : Nat) : env.ro d t = roAt [(20, 33)] d t := rfl
theorem e_tm0 : env.tm = true := rfl
theorem env_ok : EnvOK env := mkEnv_ok (by kernel_rfl) (by kernel_rfl) (by kernel_rfl) (by kernel_rfl) (by kernel_rfl) (by kernel_rfl)
theorem e_key64 : env.mapKey 64 = some 3 := rfl
theorem e_ty1 : env.ty 1 = some .fnv := rfl
theorem e_ty2 : env.ty 2 = some (.int .i64) := rfl
theorem e_ty3 : env.ty 3 = some (.int .i64) := rfl
theorem e_ty4 : env.ty 4 = some .bool := rfl
theorem e_ty5 : env.ty 5 = some (.int .u8) := rfl
theorem e_ty6 : env.ty 6 = some (.int .u8) := rfl
theorem e_ty7 : env.ty 7 = some BoundsErrorT := rfl
theorem e_ty8 : env.ty 8 = some BoundsErrorT := rfl
theorem e_ty9 : env.ty 9 = some .str := rfl
theorem e_ty10 : env.ty 10 = some .str := rfl
theorem e_ty11 : env.ty 11 = some .str := rfl
theorem e_ty12 : env.ty 12 = some (.int .u64) := rfl
theorem e_ty13 : env.ty 13 = some ErrorAddressStringT := rfl
theorem e_ty14 : env.ty 14 = some ErrorAddressStringT := rfl
theorem e_ty21 : env.ty 21 = some (.int .i32) := rfl
theorem e_ty22 : env.ty 22 = some (.sl (.int .u8)) := rfl
theorem e_ty23 : env.ty 23 = some (.sl (.st (.pair (.int .u8) (.int .u8)))) := rfl
theorem e_ty24 : env.ty 24 = some RawT := rfl
theorem e_ty25 : env.ty 25 = some RawT := rfl
theorem e_ty26 : env.ty 26 = some (.st (.pair (.int .u8) (.int .u8))) := rfl
theorem e_ty27 : env.ty 27 = some .fnv := rfl
theorem e_ty28 : env.ty 28 = some .fnv := rfl
theorem e_ty29 : env.ty 29 = some (.sl PointT) := rfl
theorem e_ty30 : env.ty 30 = some EventT := rfl
theorem e_ty31 : env.ty 31 = some EventT := rfl
theorem e_ty32 : env.ty 32 = some .fnv := rfl
theorem e_ty33 : env.ty 33 = some (.sl .str) := rfl
theorem e_ty34 : env.ty 34 = some (.int .i64) := rfl
theorem e_ty36 : env.ty 36 = some .fnv := rfl
theorem e_ty37 : env.ty 37 = some .fnv := rfl
theorem e_ty38 : env.ty 38 = some .fnv := rfl
theorem e_ty39 : env.ty 39 = some (.int .i8) := rfl
theorem e_ty40 : env.ty 40 = some (.st (.pair (.int .i8) (.int .i8))) := rfl
theorem e_ty41 : env.ty 41 = some PointT := rfl
theorem e_ty42 : env.ty 42 = some PointT := rfl
theorem e_ty43 : env.ty 43 = some .fnv := rfl
theorem e_ty44 : env.ty 44 = some .fnv := rfl
theorem e_ty45 : env.ty 45 = some .fnv := rfl
theorem e_ty46 : env.ty 46 = some .fnv := rfl
theorem e_ty47 : env.ty 47 = some (.sl RawT) := rfl
theorem e_ty48 : env.ty 48 = some (.sl EventT) := rfl
theorem e_ty50 : env.ty 50 = some .fnv := rfl
theorem e_ty52 : env.ty 52 = some .fnv := rfl
theorem e_ty53 : env.ty 53 = some .fnv := rfl
theorem e_ty54 : env.ty 54 = some .fnv := rfl
theorem e_ty55 : env.ty 55 = some .fnv := rfl
theorem e_ty56 : env.ty 56 = some .fnv := rfl
theorem e_ty57 : env.ty 57 = some (.int .u16) := rfl
theorem e_ty58 : env.ty 58 = some .fnv := rfl
theorem e_ty59 : env.ty 59 = some .fnv := rfl
theorem e_ty60 : env.ty 60 = some .fnv := rfl
theorem e_ty61 : env.ty 61 = some .fnv := rfl
theorem e_ty62 : env.ty 62 = some .fnv := rfl
theorem e_ty63 : env.ty 63 = some .fnv := rfl
theorem e_ty64 : env.ty 64 = some (.mp (.int .i64) FormT) := rfl
theorem e_ty65 : env.ty 65 = some .fnv := rfl
theorem e_ty66 : env.ty 66 = some .fnv := rfl
theorem e_ty67 : env.ty 67 = some .fnv := rfl
theorem e_ty68 : env.ty 68 = some FormT := rfl
theorem e_ty69 : env.ty 69 = some FormT := rfl
theorem e_ty71 : env.ty 71 = some .fnv := rfl
theorem e_ty72 : env.ty 72 = some .fnv := rfl
theorem e_ty74 : env.ty 74 = some .fnv := rfl
theorem e_ty75 : env.ty 75 = some .fnv := rfl
theorem e_ty76 : env.ty 76 = some .fnv := rfl
theorem e_ty77 : env.ty 77 = some .fnv := rfl
theorem e_ty78 : env.ty 78 = some .fnv := rfl
theorem e_ty80 : env.ty 80 = some .fnv := rfl
theorem e_ty81 : env.ty 81 = some .fnv := rfl
theorem e_ty82 : env.ty 82 = some .fnv := rfl
theorem e_ty86 : env.ty 86 = some .fnv := rfl
theorem e_ty90 : env.ty 90 = some .fnv := rfl
theorem e_ty91 : env.ty 91 = some .fnv := rfl
theorem e_ty92 : env.ty 92 = some .fnv := rfl
theorem e_ty93 : env.ty 93 = some .fnv := rfl
theorem e_ty95 : env.ty 95 = some .fnv := rfl
theorem e_ty98 : env.ty 98 = some .fnv := rfl
theorem e_ty99 : env.ty 99 = some .fnv := rfl
theorem e_ty101 : env.ty 101 = some .fnv := rfl
theorem e_ty102 : env.ty 102 = some .fnv := rfl
theorem e_ty103 : env.ty 103 = some .fnv := rfl
theorem e_ty104 : env.ty 104 = some (.int .u64) := rfl
theorem e_ty105 : env.ty 105 = some .fnv := rfl
theorem e_ty106 : env.ty 106 = some (.int .u32) := rfl
theorem e_ty108 : env.ty 108 = some .fnv := rfl
theorem e_ty110 : env.ty 110 = some AcceptRangeT := rfl
theorem e_ty111 : env.ty 111 = some AcceptRangeT := rfl
theorem e_ty112 : env.ty 112 = some (.st (.pair AcceptRangeT (.pair AcceptRangeT (.pair AcceptRangeT (.pair AcceptRangeT (.pair AcceptRangeT (.pair AcceptRangeT (.pair AcceptRangeT (.pair AcceptRangeT (.pair AcceptRangeT (.pair AcceptRangeT (.pair AcceptRangeT (.pair AcceptRangeT (.pair AcceptRangeT (.pair AcceptRangeT (.pair AcceptRangeT AcceptRangeT)))))))))))))))) := rfl
theorem e_ty114 : env.ty 114 = some (.int .u64) := rfl
theorem e_ty115 : env.ty 115 = some .fnv := rfl
theorem e_ty116 : env.ty 116 = some .fnv := rfl
theorem e_ty118 : env.ty 118 = some .fnv := rfl
theorem e_ty119 : env.ty 119 = some .fnv := rfl
theorem e_ty122 : env.ty 122 = some .fnv := rfl
theorem e_ty123 : env.ty 123 = some .fnv := rfl
theorem e_ty124 : env.ty 124 = some .fnv := rfl
theorem e_ty132 : env.ty 132 = some .fnv := rfl
theorem e_ty133 : env.ty 133 = some (.int .u8) := rfl
theorem e_ty134 : env.ty 134 = some (.int .u8) := rfl
theorem e_ty135 : env.ty 135 = some .fnv := rfl
theorem e_ty136 : env.ty 136 = some (.int .i32) := rfl
theorem e_ty137 : env.ty 137 = some (.int .i32) := rfl
theorem e_str7 : env.str 7 = true := rfl
theorem e_str8 : env.str 8 = true := rfl
theorem e_str13 : env.str 13 = true := rfl
theorem e_str14 : env.str 14 = true := rfl
theorem e_str24 : env.str 24 = true := rfl
theorem e_str25 : env.str 25 = true := rfl
theorem e_str30 : env.str 30 = true := rfl
theorem e_str31 : env.str 31 = true := rfl
theorem e_str41 : env.str 41 = true := rfl
theorem e_str42 : env.str 42 = true := rfl
theorem e_str68 : env.str 68 = true := rfl
theorem e_str69 : env.str 69 = true := rfl
theorem e_str110 : env.str 110 = true := rfl
theorem e_str111 : env.str 111 = true := rfl
theorem e_str26 : env.str 26 = false := rfl
theorem e_str40 : env.str 40 = false := rfl
theorem e_str112 : env.str 112 = false := rfl
theorem e_cmp7 : env.cmp 7 = true := rfl
theorem e_cmp8 : env.cmp 8 = true := rfl
theorem e_cmp26 : env.cmp 26 = true := rfl
theorem e_cmp40 : env.cmp 40 = true := rfl
theorem e_cmp41 : env.cmp 41 = true := rfl
theorem e_cmp42 : env.cmp 42 = true := rfl
theorem e_cmp110 : env.cmp 110 = true := rfl
theorem e_cmp111 : env.cmp 111 = true := rfl
theorem e_cmp112 : env.cmp 112 = true := rfl
theorem e_fn2 : env.fn 2 = some ([], .unit) := rfl
theorem e_fn3 : env.fn 3 = some ([RawT, .str, (.st (.pair (.int .u8) (.int .u8)))], .bool) := rfl
theorem e_fn4 : env.fn 4 = some ([RawT, EventT, (.st (.pair (.int .i8) (.int .i8)))], .bool) := rfl
theorem e_fn5 : env.fn 5 = some ([RawT, RawT], .bool) := rfl
theorem e_fn6 : env.fn 6 = some ([RawT, .str, (.int .u8)], .bool) := rfl
theorem e_fn7 : env.fn 7 = some ([(.sl RawT), (.sl RawT)], .bool) := rfl
theorem e_fn8 : env.fn 8 = some ([(.sl RawT), .str, (.st (.pair (.int .u8) (.int .u8)))], .bool) := rfl
theorem e_fn9 : env.fn 9 = some ([(.int .u16), (.int .u8), (.int .u8)], .bool) := rfl
theorem e_fn10 : env.fn 10 = some ([], .bool) := rfl
theorem e_fn11 : env.fn 11 = some ([EventT], .str) := rfl
theorem e_fn12 : env.fn 12 = some ([RawT, (.int .i64)], EventT) := rfl
theorem e_fn13 : env.fn 13 = some ([.str], (.tup EventT (.int .i64))) := rfl
theorem e_fn14 : env.fn 14 = some ([.str], (.tup EventT (.int .i64))) := rfl
theorem e_fn15 : env.fn 15 = some ([EventT, EventT], .bool) := rfl
theorem e_fn16 : env.fn 16 = some ([EventT], .str) := rfl
theorem e_fn17 : env.fn 17 = some ([EventT], .bool) := rfl
theorem e_fn18 : env.fn 18 = some ([EventT], .bool) := rfl
theorem e_fn19 : env.fn 19 = some ([(.sl RawT), (.int .i64)], (.tup .str (.sl EventT))) := rfl
theorem e_fn20 : env.fn 20 = some ([.str], (.tup (.sl EventT) (.tup (.int .i64) (.int .i64)))) := rfl
theorem e_fn21 : env.fn 21 = some ([(.sl EventT), (.sl EventT)], .bool) := rfl
theorem e_fn22 : env.fn 22 = some ([.str], (.tup (.sl EventT) (.tup (.int .i64) (.int .i64)))) := rfl
theorem e_fn23 : env.fn 23 = some ([.str, (.int .u8)], (.sl .str)) := rfl
theorem e_fn24 : env.fn 24 = some ([(.int .i64)], .str) := rfl
theorem e_fn25 : env.fn 25 = some ([], (.sl .str)) := rfl
theorem e_fn26 : env.fn 26 = some ([(.sl (.int .u8)), (.int .i64), (.int .i64)], .str) := rfl
theorem e_fn27 : env.fn 27 = some ([(.int .u8), (.int .u8)], .str) := rfl
theorem e_fn28 : env.fn 28 = some ([.str, .str], (.sl .str)) := rfl
theorem e_fn30 : env.fn 30 = some ([(.int .i64), (.sl .str)], EventT) := rfl
theorem e_fn31 : env.fn 31 = some ([(.sl PointT), (.sl PointT)], .bool) := rfl
theorem e_fn32 : env.fn 32 = some ([(.sl .str), .str], .str) := rfl
theorem e_fn33 : env.fn 33 = some ([.str], .bool) := rfl
theorem e_fn34 : env.fn 34 = some ([.str], .bool) := rfl
theorem e_fn35 : env.fn 35 = some ([(.sl PointT)], .bool) := rfl
theorem e_fn36 : env.fn 36 = some ([.str], .bool) := rfl
theorem e_fn37 : env.fn 37 = some ([(.int .i64), (.int .i64), (.int .i64)], .bool) := rfl
theorem e_fn38 : env.fn 38 = some ([.str], .bool) := rfl
theorem e_fn39 : env.fn 39 = some ([(.sl PointT), (.int .i64), (.int .i64)], .bool) := rfl
theorem e_fn40 : env.fn 40 = some ([.str, .str], (.tup .str (.tup .str .bool))) := rfl
theorem e_fn41 : env.fn 41 = some ([.str, .str, (.int .i64), (.int .i64)], (.sl .str)) := rfl
theorem e_fn42 : env.fn 42 = some ([EventT], (.sl .str)) := rfl
theorem e_fn43 : env.fn 43 = some ([(.sl .str)], (.tup EventT .bool)) := rfl
theorem e_fn44 : env.fn 44 = some ([EventT], (.sl .str)) := rfl
theorem e_fn45 : env.fn 45 = some ([(.sl .str)], (.tup EventT .bool)) := rfl
theorem e_fn46 : env.fn 46 = some ([EventT], (.sl .str)) := rfl
theorem e_fn47 : env.fn 47 = some ([(.sl .str)], (.tup EventT .bool)) := rfl
theorem e_fn48 : env.fn 48 = some ([EventT], (.sl .str)) := rfl
theorem e_fn49 : env.fn 49 = some ([(.sl .str)], (.tup EventT .bool)) := rfl
theorem e_fn50 : env.fn 50 = some ([EventT], (.sl .str)) := rfl
theorem e_fn51 : env.fn 51 = some ([(.sl .str)], (.tup EventT .bool)) := rfl
theorem e_fn52 : env.fn 52 = some ([EventT], (.sl .str)) := rfl
theorem e_fn53 : env.fn 53 = some ([(.sl .str)], (.tup EventT .bool)) := rfl
theorem e_fn54 : env.fn 54 = some ([.str], (.int .i64)) := rfl
theorem e_fn58 : env.fn 58 = some ([.str, .str], (.tup .str (.tup .str .bool))) := rfl
theorem e_fn59 : env.fn 59 = some ([.str, (.int .i64)], (.sl .str)) := rfl
theorem e_fn60 : env.fn 60 = some ([.str, .str], (.int .i64)) := rfl
theorem e_fn61 : env.fn 61 = some ([.str, .str], (.int .i64)) := rfl
theorem e_fn62 : env.fn 62 = some ([(.int .i64)], .str) := rfl
theorem e_fn63 : env.fn 63 = some ([.str], (.tup (.int .i64) .bool)) := rfl
theorem e_fn66 : env.fn 66 = some ([.str, .str], (.int .i64)) := rfl
theorem e_fn67 : env.fn 67 = some ([.str], (.int .i64)) := rfl
theorem e_fn68 : env.fn 68 = some ([.str], (.tup (.int .i32) (.int .i64))) := rfl
theorem e_fn70 : env.fn 70 = some ([(.int .i64)], .str) := rfl
theorem e_fn73 : env.fn 73 = some ([.str, (.int .u8)], (.int .i64)) := rfl
theorem e_fn75 : env.fn 75 = some ([(.int .i64)], (.int .i64)) := rfl
theorem e_fn76 : env.fn 76 = some ([.str, .str], (.int .i64)) := rfl
theorem e_fn77 : env.fn 77 = some ([.str], (.tup (.int .i32) (.int .i64))) := rfl
theorem e_fn78 : env.fn 78 = some ([(.int .i64), (.int .i64)], .str) := rfl
theorem e_fn80 : env.fn 80 = some ([.str], (.tup (.int .u32) (.int .u32))) := rfl
theorem e_fn81 : env.fn 81 = some ([(.int .i64)], .str) := rfl
theorem e_fn82 : env.fn 82 = some ([(.int .u64)], (.int .i64)) := rfl
theorem e_fn83 : env.fn 83 = some ([(.sl (.int .u8)), (.int .u64)], .unit) := rfl
theorem e_fn84 : env.fn 84 = some ([(.sl (.int .u8)), (.int .u64), (.int .i64), .bool, .bool], (.tup (.sl (.int .u8)) .str)) := rfl
theorem e_fn85 : env.fn 85 = some ([(.int .i64)], (.int .i64)) := rfl
theorem e_fn86 : env.fn 86 = some ([(.int .u64)], (.int .i64)) := rfl
theorem e_fn87 : env.fn 87 = some ([.bool], (.int .i64)) := rfl
theorem e_fn88 : env.fn 88 = some ([(.int .i64)], .bool) := rfl
theorem e_fn89 : env.fn 89 = some ([(.int .u64)], (.int .i64)) := rfl
theorem e_fn90 : env.fn 90 = some ([(.int .u32)], (.int .i64)) := rfl
theorem e_fn91 : env.fn 91 = some ([(.int .u64)], (.int .i64)) := rfl
theorem e_fn117 : env.fn 117 = some ([], .unit) := rfl
theorem e_fn29 : env.fn 29 = some ([], (.mp (.int .i64) FormT)) := rfl
/-- gosem.cut.init -/
theorem fn_2 : env.P.funcs[2]? = some Tryd.f2 := rfl
/-- syllabary/syllabarylaw01.EventMatchesReference -/
theorem fn_3 : env.P.funcs[3]? = some Tryd.f3 := rfl
/-- syllabary/syllabarylaw01.EventValid -/
theorem fn_4 : env.P.funcs[4]? = some Tryd.f4 := rfl
/-- syllabary/syllabarylaw01.EventInverts -/
theorem fn_5 : env.P.funcs[5]? = some Tryd.f5 := rfl
/-- syllabary/syllabarylaw01.EventParses -/
theorem fn_6 : env.P.funcs[6]? = some Tryd.f6 := rfl
/-- syllabary/syllabarylaw01.EventScripts -/
theorem fn_7 : env.P.funcs[7]? = some Tryd.f7 := rfl
/-- syllabary/syllabarylaw01.EventErrors -/
theorem fn_8 : env.P.funcs[8]? = some Tryd.f8 := rfl
/-- syllabary/syllabarylaw01.EventLimits -/
theorem fn_9 : env.P.funcs[9]? = some Tryd.f9 := rfl
/-- syllabary/syllabarylaw01.sanity -/
theorem fn_10 : env.P.funcs[10]? = some Tryd.f10 := rfl
/-- syllabary/syllabaryref01.Print -/
theorem fn_11 : env.P.funcs[11]? = some Tryd.f11 := rfl
/-- syllabary/syllabaryref01.Made -/
theorem fn_12 : env.P.funcs[12]? = some Tryd.f12 := rfl
/-- syllabary/event.Parse -/
theorem fn_13 : env.P.funcs[13]? = some Tryd.f13 := rfl
/-- syllabary/syllabaryref01.Parse -/
theorem fn_14 : env.P.funcs[14]? = some Tryd.f14 := rfl
/-- syllabary/syllabaryref01.Same -/
theorem fn_15 : env.P.funcs[15]? = some Tryd.f15 := rfl
/-- syllabary/event.Print -/
theorem fn_16 : env.P.funcs[16]? = some Tryd.f16 := rfl
/-- syllabary/event.Valid -/
theorem fn_17 : env.P.funcs[17]? = some Tryd.f17 := rfl
/-- syllabary/syllabaryref01.Valid -/
theorem fn_18 : env.P.funcs[18]? = some Tryd.f18 := rfl
/-- syllabary/syllabarylaw01.lines -/
theorem fn_19 : env.P.funcs[19]? = some Tryd.f19 := rfl
/-- syllabary/event.Script -/
theorem fn_20 : env.P.funcs[20]? = some Tryd.f20 := rfl
/-- syllabary/syllabaryref01.SameAll -/
theorem fn_21 : env.P.funcs[21]? = some Tryd.f21 := rfl
/-- syllabary/syllabaryref01.Script -/
theorem fn_22 : env.P.funcs[22]? = some Tryd.f22 := rfl
/-- syllabary/syllabaryref01.Split -/
theorem fn_23 : env.P.funcs[23]? = some Tryd.f23 := rfl
/-- syllabary/syllabaryref01.Decimal -/
theorem fn_24 : env.P.funcs[24]? = some Tryd.f24 := rfl
/-- syllabary/syllabaryref01.words -/
theorem fn_25 : env.P.funcs[25]? = some Tryd.f25 := rfl
/-- syllabary/syllabaryref01.Text -/
theorem fn_26 : env.P.funcs[26]? = some Tryd.f26 := rfl
/-- syllabary/syllabaryref01.chord -/
theorem fn_27 : env.P.funcs[27]? = some Tryd.f27 := rfl
/-- strings.Split -/
theorem fn_28 : env.P.funcs[28]? = some Tryd.f28 := rfl
/-- syllabary/event.forms -/
theorem fn_29 : env.P.funcs[29]? = some Tryd.f29 := rfl
/-- syllabary/syllabaryref01.fill -/
theorem fn_30 : env.P.funcs[30]? = some Tryd.f30 := rfl
/-- syllabary/syllabaryref01.Points -/
theorem fn_31 : env.P.funcs[31]? = some Tryd.f31 := rfl
/-- strings.Join -/
theorem fn_32 : env.P.funcs[32]? = some Tryd.f32 := rfl
/-- syllabary/event.letters -/
theorem fn_33 : env.P.funcs[33]? = some Tryd.f33 := rfl
/-- syllabary/event.increasing -/
theorem fn_34 : env.P.funcs[34]? = some Tryd.f34 := rfl
/-- syllabary/event.coordinates -/
theorem fn_35 : env.P.funcs[35]? = some Tryd.f35 := rfl
/-- syllabary/syllabaryref01.Letters -/
theorem fn_36 : env.P.funcs[36]? = some Tryd.f36 := rfl
/-- syllabary/syllabaryref01.In -/
theorem fn_37 : env.P.funcs[37]? = some Tryd.f37 := rfl
/-- syllabary/syllabaryref01.rising -/
theorem fn_38 : env.P.funcs[38]? = some Tryd.f38 := rfl
/-- syllabary/syllabaryref01.points -/
theorem fn_39 : env.P.funcs[39]? = some Tryd.f39 := rfl
/-- strings.Cut -/
theorem fn_40 : env.P.funcs[40]? = some Tryd.f40 := rfl
/-- strings.genSplit -/
theorem fn_41 : env.P.funcs[41]? = some Tryd.f41 := rfl
/-- syllabary/event.writeKeys -/
theorem fn_42 : env.P.funcs[42]? = some Tryd.f42 := rfl
/-- syllabary/event.readKeys -/
theorem fn_43 : env.P.funcs[43]? = some Tryd.f43 := rfl
/-- syllabary/event.writePoints -/
theorem fn_44 : env.P.funcs[44]? = some Tryd.f44 := rfl
/-- syllabary/event.readPoints -/
theorem fn_45 : env.P.funcs[45]? = some Tryd.f45 := rfl
/-- syllabary/event.writeText -/
theorem fn_46 : env.P.funcs[46]? = some Tryd.f46 := rfl
/-- syllabary/event.readText -/
theorem fn_47 : env.P.funcs[47]? = some Tryd.f47 := rfl
/-- syllabary/event.writeNothing -/
theorem fn_48 : env.P.funcs[48]? = some Tryd.f48 := rfl
/-- syllabary/event.readNothing -/
theorem fn_49 : env.P.funcs[49]? = some Tryd.f49 := rfl
/-- syllabary/event.writeHold -/
theorem fn_50 : env.P.funcs[50]? = some Tryd.f50 := rfl
/-- syllabary/event.readHold -/
theorem fn_51 : env.P.funcs[51]? = some Tryd.f51 := rfl
/-- syllabary/event.writeChoose -/
theorem fn_52 : env.P.funcs[52]? = some Tryd.f52 := rfl
/-- syllabary/event.readChoose -/
theorem fn_53 : env.P.funcs[53]? = some Tryd.f53 := rfl
/-- syllabary/syllabaryref01.number -/
theorem fn_54 : env.P.funcs[54]? = some Tryd.f54 := rfl
/-- (*strings.Builder).Grow -/
theorem fn_55 : env.P.funcs[55]? = some Tryd.f55 := rfl
/-- (*strings.Builder).WriteString -/
theorem fn_56 : env.P.funcs[56]? = some Tryd.f56 := rfl
/-- (*strings.Builder).String -/
theorem fn_57 : env.P.funcs[57]? = some Tryd.f57 := rfl
/-- internal/stringslite.Cut -/
theorem fn_58 : env.P.funcs[58]? = some Tryd.f58 := rfl
/-- strings.explode -/
theorem fn_59 : env.P.funcs[59]? = some Tryd.f59 := rfl
/-- strings.Count -/
theorem fn_60 : env.P.funcs[60]? = some Tryd.f60 := rfl
/-- strings.Index -/
theorem fn_61 : env.P.funcs[61]? = some Tryd.f61 := rfl
/-- strconv.Itoa -/
theorem fn_62 : env.P.funcs[62]? = some Tryd.f62 := rfl
/-- syllabary/event.number -/
theorem fn_63 : env.P.funcs[63]? = some Tryd.f63 := rfl
/-- (*strings.Builder).copyCheck -/
theorem fn_64 : env.P.funcs[64]? = some Tryd.f64 := rfl
/-- (*strings.Builder).grow -/
theorem fn_65 : env.P.funcs[65]? = some Tryd.f65 := rfl
/-- internal/stringslite.Index -/
theorem fn_66 : env.P.funcs[66]? = some Tryd.f66 := rfl
/-- unicode/utf8.RuneCountInString -/
theorem fn_67 : env.P.funcs[67]? = some Tryd.f67 := rfl
/-- unicode/utf8.DecodeRuneInString -/
theorem fn_68 : env.P.funcs[68]? = some Tryd.f68 := rfl
/-- internal/strconv.Itoa -/
theorem fn_70 : env.P.funcs[70]? = some Tryd.f70 := rfl
/-- internal/stringslite.IndexByte -/
theorem fn_73 : env.P.funcs[73]? = some Tryd.f73 := rfl
/-- internal/bytealg.Cutover -/
theorem fn_75 : env.P.funcs[75]? = some Tryd.f75 := rfl
/-- internal/bytealg.IndexRabinKarp[string] -/
theorem fn_76 : env.P.funcs[76]? = some Tryd.f76 := rfl
/-- unicode/utf8.decodeRuneInStringSlow -/
theorem fn_77 : env.P.funcs[77]? = some Tryd.f77 := rfl
/-- internal/strconv.FormatInt -/
theorem fn_78 : env.P.funcs[78]? = some Tryd.f78 := rfl
/-- internal/bytealg.hashStr[string] -/
theorem fn_80 : env.P.funcs[80]? = some Tryd.f80 := rfl
/-- internal/strconv.small -/
theorem fn_81 : env.P.funcs[81]? = some Tryd.f81 := rfl
/-- internal/strconv.numDigits -/
theorem fn_82 : env.P.funcs[82]? = some Tryd.f82 := rfl
/-- internal/strconv.formatBase10 -/
theorem fn_83 : env.P.funcs[83]? = some Tryd.f83 := rfl
/-- internal/strconv.formatBits -/
theorem fn_84 : env.P.funcs[84]? = some Tryd.f84 := rfl
/-- internal/strconv.log10Pow2 -/
theorem fn_85 : env.P.funcs[85]? = some Tryd.f85 := rfl
/-- math/bits.Len64 -/
theorem fn_86 : env.P.funcs[86]? = some Tryd.f86 := rfl
/-- internal/strconv.bool2[int] -/
theorem fn_87 : env.P.funcs[87]? = some Tryd.f87 := rfl
/-- internal/strconv.isPowerOfTwo -/
theorem fn_88 : env.P.funcs[88]? = some Tryd.f88 := rfl
/-- math/bits.TrailingZeros -/
theorem fn_89 : env.P.funcs[89]? = some Tryd.f89 := rfl
/-- math/bits.TrailingZeros32 -/
theorem fn_90 : env.P.funcs[90]? = some Tryd.f90 := rfl
/-- math/bits.TrailingZeros64 -/
theorem fn_91 : env.P.funcs[91]? = some Tryd.f91 := rfl
/-- gosem.cut.vars -/
theorem fn_117 : env.P.funcs[117]? = some Tryd.f117 := rfl
attribute [go_sem] e_key64 e_ty1 e_ty2 e_ty3 e_ty4 e_ty5 e_ty6 e_ty7 e_ty8 e_ty9 e_ty10 e_ty11 e_ty12 e_ty13 e_ty14 e_ty21 e_ty22 e_ty23 e_ty24 e_ty25 e_ty26 e_ty27 e_ty28 e_ty29 e_ty30 e_ty31 e_ty32 e_ty33 e_ty34 e_ty36 e_ty37 e_ty38 e_ty39 e_ty40 e_ty41 e_ty42 e_ty43 e_ty44 e_ty45 e_ty46 e_ty47 e_ty48 e_ty50 e_ty52 e_ty53 e_ty54 e_ty55 e_ty56 e_ty57 e_ty58 e_ty59 e_ty60 e_ty61 e_ty62 e_ty63 e_ty64 e_ty65 e_ty66 e_ty67 e_ty68 e_ty69 e_ty71 e_ty72 e_ty74 e_ty75 e_ty76 e_ty77 e_ty78 e_ty80 e_ty81 e_ty82 e_ty86 e_ty90 e_ty91 e_ty92 e_ty93 e_ty95 e_ty98 e_ty99 e_ty101 e_ty102 e_ty103 e_ty104 e_ty105 e_ty106 e_ty108 e_ty110 e_ty111 e_ty112 e_ty114 e_ty115 e_ty116 e_ty118 e_ty119 e_ty122 e_ty123 e_ty124 e_ty132 e_ty133 e_ty134 e_ty135 e_ty136 e_ty137 e_str7 e_str8 e_str13 e_str14 e_str24 e_str25 e_str30 e_str31 e_str41 e_str42 e_str68 e_str69 e_str110 e_str111 e_str26 e_str40 e_str112 e_cmp7 e_cmp8 e_cmp26 e_cmp40 e_cmp41 e_cmp42 e_cmp110 e_cmp111 e_cmp112 e_fn2 e_fn3 e_fn4 e_fn5 e_fn6 e_fn7 e_fn8 e_fn9 e_fn10 e_fn11 e_fn12 e_fn13 e_fn14 e_fn15 e_fn16 e_fn17 e_fn18 e_fn19 e_fn20 e_fn21 e_fn22 e_fn23 e_fn24 e_fn25 e_fn26 e_fn27 e_fn28 e_fn30 e_fn31 e_fn32 e_fn33 e_fn34 e_fn35 e_fn36 e_fn37 e_fn38 e_fn39 e_fn40 e_fn41 e_fn42 e_fn43 e_fn44 e_fn45 e_fn46 e_fn47 e_fn48 e_fn49 e_fn50 e_fn51 e_fn52 e_fn53 e_fn54 e_fn58 e_fn59 e_fn60 e_fn61 e_fn62 e_fn63 e_fn66 e_fn67 e_fn68 e_fn70 e_fn73 e_fn75 e_fn76 e_fn77 e_fn78 e_fn80 e_fn81 e_fn82 e_fn83 e_fn84 e_fn85 e_fn86 e_fn87 e_fn88 e_fn89 e_fn90 e_fn91 e_fn117 e_fn29 e_ro0 e_tm0
end Go.Proofs.YtopelldocfbhkaaDoor
namespace Go.Proofs.YtopelldocfbhkaaDoor
open Go.Lib
set_option maxHeartbeats 1000000

def spl (c : UInt8) : List UInt8 → List (List UInt8)
  | [] => [[]]
  | x :: r => if x = c then [] :: spl c r else match spl c r with | [] => [[x]] | h :: t => (x :: h) :: t
def joinC (c : UInt8) : List (List UInt8) → List UInt8
  | [] => [] | [x] => x | x :: y :: r => x ++ c :: joinC c (y :: r)
theorem join_joinC (c : UInt8) : ∀ (l : List (List UInt8)), Lib.join l [c] = joinC c l
  | [] => rfl
  | [x] => join_one _ _
  | x :: y :: r => by
    have ih := join_joinC c (y :: r)
    rw [join_cons] at ih ⊢
    show x ++ ([c] ++ y ++ joinTail [c] r) = x ++ c :: joinC c (y :: r)
    rw [← ih, List.append_assoc]; rfl
theorem spl_ne (c : UInt8) : ∀ (s : List UInt8), spl c s ≠ []
  | [] => by simp [spl]
  | x :: r => by
    unfold spl
    split
    · simp
    · split <;> simp
theorem joinC_cons (c : UInt8) (x : List UInt8) {l : List (List UInt8)} (h : l ≠ []) : joinC c (x :: l) = x ++ c :: joinC c l := by
  cases l with
  | nil => exact absurd rfl h
  | cons y r => rfl
theorem joinC_spl (c : UInt8) : ∀ (s : List UInt8), joinC c (spl c s) = s
  | [] => rfl
  | x :: r => by
    have ih := joinC_spl c r
    have hn := spl_ne c r
    unfold spl
    split
    · rename_i h
      rw [joinC_cons c [] hn, ih, h]; rfl
    · split
      · rename_i h; exact absurd h hn
      · rename_i h t e
        rw [e] at ih
        cases t with
        | nil => simp only [joinC] at ih ⊢; rw [ih]
        | cons y t => simp only [joinC] at ih ⊢; rw [← ih]; rfl
theorem spl_no (c : UInt8) : ∀ {x : List UInt8}, c ∉ x → spl c x = [x]
  | [], _ => rfl
  | a :: x, h => by
    have h1 : ¬ a = c := fun e => h (by simp [e])
    have h2 : c ∉ x := fun e => h (by simp [e])
    unfold spl
    rw [if_neg h1, spl_no c h2]
theorem spl_cons (c : UInt8) (r : List UInt8) : ∀ {x : List UInt8}, c ∉ x → spl c (x ++ c :: r) = x :: spl c r
  | [], _ => by show spl c (c :: r) = _; rw [spl, if_pos rfl]
  | a :: x, h => by
    have h1 : ¬ a = c := fun e => h (by simp [e])
    have h2 : c ∉ x := fun e => h (by simp [e])
    show spl c (a :: (x ++ c :: r)) = _
    rw [spl, if_neg h1, spl_cons c r h2]
theorem spl_join (c : UInt8) : ∀ {l : List (List UInt8)}, l ≠ [] → (∀ x, x ∈ l → c ∉ x) → spl c (joinC c l) = l
  | [], h, _ => absurd rfl h
  | [x], _, h => spl_no c (h x (by simp))
  | x :: y :: r, _, h => by
    show spl c (x ++ c :: joinC c (y :: r)) = _
    rw [spl_cons c _ (h x (by simp)), spl_join c (by simp) (fun z hz => h z (by simp at hz ⊢; exact .inr hz))]
theorem spl_mem (c : UInt8) : ∀ {s x : List UInt8}, x ∈ spl c s → c ∉ x
  | [], x, h => by simp only [spl, List.mem_singleton] at h; subst h; simp
  | a :: r, x, h => by
    unfold spl at h
    split at h
    · rcases List.mem_cons.1 h with h | h
      · subst h; simp
      · exact spl_mem c h
    · rename_i ha
      split at h
      · rename_i e; exact absurd e (spl_ne c r)
      · rename_i h' t e
        rcases List.mem_cons.1 h with h | h
        · subst h
          have := spl_mem c (s := r) (x := h') (by rw [e]; simp)
          simp only [List.mem_cons, not_or]
          exact ⟨fun e => ha e.symm, this⟩
        · exact spl_mem c (s := r) (by rw [e]; simp [h])
/-- A text has no c, or one comes first. -/
theorem first_c (c : UInt8) : ∀ (s : List UInt8), c ∉ s ∨ ∃ x r, s = x ++ c :: r ∧ c ∉ x
  | [] => .inl (by simp)
  | a :: s => by
    by_cases h : a = c
    · exact .inr ⟨[], s, by simp [h], by simp⟩
    · rcases first_c c s with h1 | ⟨x, r, h1, h2⟩
      · exact .inl (by simp only [List.mem_cons, not_or]; exact ⟨fun e => h e.symm, h1⟩)
      · exact .inr ⟨a :: x, r, by simp [h1], by simp only [List.mem_cons, not_or]; exact ⟨fun e => h e.symm, h2⟩⟩
theorem occ_one (c : UInt8) (s : List UInt8) (j : Nat) : occAt s [c] j = decide (s[j]? = some c) := by
  unfold occAt
  cases h : s[j]? with
  | none => rw [List.drop_eq_nil_of_le (List.getElem?_eq_none_iff.1 h)]; simp
  | some y =>
    obtain ⟨hj, e⟩ := List.getElem?_eq_some_iff.1 h
    rw [List.drop_eq_getElem_cons hj, e]
    by_cases hc : y = c
    · subst hc; simp [List.isPrefixOf]
    · simp [List.isPrefixOf, hc, Ne.symm hc]
theorem index_no {c : UInt8} {s : List UInt8} (h : c ∉ s) : index s [c] = -1 :=
  index_none fun j _ => by
    rw [occ_one]
    exact decide_eq_false fun e => h (List.mem_of_getElem? e)
theorem index_yes {c : UInt8} {x r : List UInt8} (h : c ∉ x) : index (x ++ c :: r) [c] = (x.length : Int) :=
  index_first (by simp) (by rw [occ_one]; simp) fun j hj => by
    rw [occ_one]
    refine decide_eq_false fun e => ?_
    rw [List.getElem?_append_left hj] at e
    exact h (List.mem_of_getElem? e)
theorem cut_no {c : UInt8} {s : List UInt8} (h : c ∉ s) : Lib.cut s [c] = (s, [], false) := by
  unfold Lib.cut
  rw [index_no h]; rfl
theorem cut_yes {c : UInt8} {x r : List UInt8} (h : c ∉ x) : Lib.cut (x ++ c :: r) [c] = (x, r, true) := by
  unfold Lib.cut
  rw [index_yes h, if_pos (Int.natCast_nonneg _)]
  simp
theorem split_spl (c : UInt8) : ∀ (n : Nat) (s : List UInt8), s.length < n → Lib.split s [c] = spl c s
  | 0, s, h => absurd h (Nat.not_lt_zero _)
  | n + 1, s, hn => by
    rcases first_c c s with h | ⟨x, r, rfl, h⟩
    · unfold Lib.split
      rw [count_miss (index_no h), spl_no c h]; rfl
    · have ih := split_spl c n r (by simp at hn; omega)
      unfold Lib.split at ih ⊢
      have e := index_yes (r := r) h
      have ed : (x ++ c :: r).drop (x.length + [c].length) = r := by simp
      rw [count_hit (by simp) e, ed, Nat.add_comm, splitK, if_neg (by rw [e]; simp), e, spl_cons c r h]
      have et : ((x.length : Int).toNat + 0) = x.length := by simp
      have et2 : (x.length : Int).toNat = x.length := by simp
      rw [et, et2, ed, ih]
      simp

/-! Decimal numbers. -/
def dig (u : UInt8) : Bool := decide (48 ≤ u.toNat ∧ u.toNat ≤ 57)
def valS (s : List UInt8) : Nat := s.foldl (fun n u => 10 * n + (u.toNat - 48)) 0
theorem valS_snoc (s : List UInt8) (x : UInt8) : valS (s ++ [x]) = 10 * valS s + (x.toNat - 48) := by
  unfold valS
  rw [List.foldl_append]; rfl
theorem val_mono : ∀ (l : List UInt8) (n : Nat), n ≤ l.foldl (fun n u => 10 * n + (u.toNat - 48)) n
  | [], n => Nat.le_refl _
  | x :: l, n => by
    have := val_mono l (10 * n + (x.toNat - 48))
    rw [List.foldl_cons]
    omega
theorem valS_pos {x : UInt8} {l : List UInt8} (h : 49 ≤ x.toNat) : 1 ≤ valS (x :: l) := by
  have := val_mono l (x.toNat - 48)
  unfold valS
  rw [List.foldl_cons]
  simp only [Nat.mul_zero, Nat.zero_add]
  omega
theorem digit_nat {d : Nat} (h : d < 10) : (UInt8.ofNat (48 + d)).toNat = 48 + d := by
  rw [UInt8.toNat_ofNat']; omega
theorem digit_is {x : UInt8} (h : dig x = true) : UInt8.ofNat (48 + (x.toNat - 48)) = x := by
  simp only [dig, decide_eq_true_eq] at h
  apply UInt8.toNat_inj.1
  rw [digit_nat (by omega)]; omega
theorem dec_small {u : Nat} (h : u < 10) : decDigits u = [UInt8.ofNat (48 + u)] := by rw [decDigits, dif_pos h]
theorem dec_big {u : Nat} (h : ¬ u < 10) : decDigits u = decDigits (u / 10) ++ [UInt8.ofNat (48 + u % 10)] := by rw [decDigits, dif_neg h]
theorem valS_dec (u : Nat) : valS (decDigits u) = u := by
  induction u using Nat.strongRecOn with
  | _ u ih =>
    by_cases h : u < 10
    · rw [dec_small h]
      show 10 * 0 + ((UInt8.ofNat (48 + u)).toNat - 48) = u
      rw [digit_nat h]; omega
    · rw [dec_big h, valS_snoc, ih (u / 10) (by omega), digit_nat (by omega)]; omega
theorem dig_dec (u : Nat) : (decDigits u).all dig = true := by
  induction u using Nat.strongRecOn with
  | _ u ih =>
    by_cases h : u < 10
    · rw [dec_small h]; simp only [List.all_cons, List.all_nil, Bool.and_true, dig, digit_nat h]; simp; omega
    · rw [dec_big h, List.all_append, ih (u / 10) (by omega)]
      simp only [List.all_cons, List.all_nil, Bool.and_true, Bool.true_and, dig, digit_nat (show u % 10 < 10 by omega)]; simp; omega
theorem dec_head (u : Nat) : ∃ x r, decDigits u = x :: r ∧ (r ≠ [] → 49 ≤ x.toNat) ∧ (1 ≤ u → 49 ≤ x.toNat) := by
  induction u using Nat.strongRecOn with
  | _ u ih =>
    by_cases h : u < 10
    · exact ⟨_, [], dec_small h, fun h => absurd rfl h, fun h1 => by rw [digit_nat h]; omega⟩
    · obtain ⟨x, r, e, _, h2⟩ := ih (u / 10) (by omega)
      have := h2 (by omega)
      exact ⟨x, r ++ [UInt8.ofNat (48 + u % 10)], by rw [dec_big h, e]; rfl, fun _ => this, fun _ => this⟩
theorem dec_len : ∀ (k u : Nat), u < 10 ^ (k + 1) → (decDigits u).length ≤ k + 1
  | 0, u, h => by rw [dec_small (by simpa using h)]; simp
  | k + 1, u, h => by
    by_cases h1 : u < 10
    · rw [dec_small h1]; simp
    · rw [Nat.pow_succ] at h
      have := dec_len k (u / 10) (by omega)
      rw [dec_big h1, List.length_append]; simp; omega
theorem dec_val : ∀ (n : Nat) (s : List UInt8), s.length = n → s ≠ [] → s.all dig = true → (∀ x r, s = x :: r → r ≠ [] → 49 ≤ x.toNat) → decDigits (valS s) = s
  | 0, s, hn, hne, _, _ => absurd (List.eq_nil_of_length_eq_zero hn) hne
  | n + 1, s, hn, hne, hd, hh => by
    obtain ⟨l, z, rfl⟩ : ∃ l z, s = l ++ [z] := ⟨s.dropLast, s.getLast hne, (List.dropLast_concat_getLast hne).symm⟩
    rw [List.all_append, Bool.and_eq_true] at hd
    have hlast : dig z = true := by simpa using hd.2
    have hx : z.toNat - 48 < 10 := by simp only [dig, decide_eq_true_eq] at hlast; omega
    cases l with
    | nil =>
      show decDigits (10 * 0 + (z.toNat - 48)) = [z]
      rw [dec_small (by omega), Nat.mul_zero, Nat.zero_add, digit_is hlast]
    | cons y l =>
      have hy : 49 ≤ y.toNat := hh y (l ++ [z]) rfl (by simp)
      have hp := valS_pos (l := l) hy
      have ih := dec_val n (y :: l) (by simp at hn ⊢; omega) (by simp) hd.1 (fun a b hab _ => by injection hab with h1 _; subst h1; exact hy)
      rw [valS_snoc, dec_big (by omega)]
      have e1 : (10 * valS (y :: l) + (z.toNat - 48)) / 10 = valS (y :: l) := by omega
      have e2 : (10 * valS (y :: l) + (z.toNat - 48)) % 10 = z.toNat - 48 := by omega
      rw [e1, e2, ih, digit_is hlast]
theorem itoa_dec {n : Int} (h : 0 ≤ n) : itoa n = decDigits n.toNat := by unfold itoa; rw [if_neg (by omega)]
theorem all_no_c {c : UInt8} {p : UInt8 → Bool} {s : List UInt8} (hc : p c = false) (h : s.all p = true) : c ∉ s := fun hm => by
  rw [List.all_eq_true] at h
  have := h c hm
  rw [hc] at this; cases this
end Go.Proofs.YtopelldocfbhkaaDoor
namespace Go.Proofs.YtopelldocfbhkaaDoor
open Go.Shelf
def Klays156_ren : Go.Shelf.Ren := ⟨fun | 156 => 32 | 165 => 55 | 166 => 56 | 169 => 57 | 240 => 64 | 241 => 65 | 276 => 71 | 277 => 72 | n => n, fun | 31 => 33 | 9 => 9 | 3 => 3 | 4 => 4 | 0 => 0 | 20 => 20 | 72 => 85 | 76 => 89 | 70 => 83 | 37 => 22 | 75 => 88 | 127 => 96 | 164 => 100 | 5 => 5 | 80 => 91 | n => n, fun | n => n⟩
theorem Klays156 : Go.Proofs.Lays.n156 Tryd.prog Klays156_ren := {
  mixed := by kernel_rfl
  f156 := Tryd.func32.trans (congrArg some (by kernel_rfl))
  f165 := Tryd.func55.trans (congrArg some (by kernel_rfl))
  f166 := Tryd.func56.trans (congrArg some (by kernel_rfl))
  f169 := Tryd.func57.trans (congrArg some (by kernel_rfl))
  f240 := Tryd.func64.trans (congrArg some (by kernel_rfl))
  f241 := Tryd.func65.trans (congrArg some (by kernel_rfl))
  f276 := Tryd.func71.trans (congrArg some (by kernel_rfl))
  f277 := Tryd.func72.trans (congrArg some (by kernel_rfl))
  t0 := Tryd.underlying0
  a0 := Tryd.isAgg0
  z0 := Tryd.sizeOf0
  v0 := Tryd.zeroValue0
  t3 := Tryd.underlying3
  a3 := Tryd.isAgg3
  z3 := Tryd.sizeOf3
  v3 := Tryd.zeroValue3
  t4 := Tryd.underlying4
  a4 := Tryd.isAgg4
  z4 := Tryd.sizeOf4
  v4 := Tryd.zeroValue4
  t9 := Tryd.underlying9
  a9 := Tryd.isAgg9
  z9 := Tryd.sizeOf9
  v9 := Tryd.zeroValue9
  t20 := Tryd.underlying20
  a20 := Tryd.isAgg20
  z20 := Tryd.sizeOf20
  v20 := Tryd.zeroValue20
  t31 := Tryd.underlying33
  a31 := Tryd.isAgg33
  z31 := Tryd.sizeOf33
  v31 := Tryd.zeroValue33
  t37 := Tryd.underlying22
  a37 := Tryd.isAgg22
  z37 := Tryd.sizeOf22
  v37 := Tryd.zeroValue22
  t70 := Tryd.underlying83
  a70 := Tryd.isAgg83
  z70 := Tryd.sizeOf83
  v70 := Tryd.zeroValue83
  t72 := Tryd.underlying85
  a72 := Tryd.isAgg85
  z72 := Tryd.sizeOf85
  v72 := Tryd.zeroValue85
  t75 := Tryd.underlying88
  a75 := Tryd.isAgg88
  z75 := Tryd.sizeOf88
  v75 := Tryd.zeroValue88
  t76 := Tryd.underlying89
  a76 := Tryd.isAgg89
  z76 := Tryd.sizeOf89
  v76 := Tryd.zeroValue89
  t127 := Tryd.underlying96
  a127 := Tryd.isAgg96
  z127 := Tryd.sizeOf96
  v127 := Tryd.zeroValue96
  t164 := Tryd.underlying100
  a164 := Tryd.isAgg100
  z164 := Tryd.sizeOf100
  v164 := Tryd.zeroValue100 }
theorem KBuilder_Extra_156 : Builder.Extra Tryd.prog Klays156_ren := {
  sizeBuilder := by kernel_rfl
  liesBuilder := by kernel_rfl
  t5 := Tryd.underlying5
  a5 := Tryd.isAgg5
  z5 := Tryd.sizeOf5
  v5 := Tryd.zeroValue5
  infoByte := by kernel_rfl
  cellsByte := by kernel_rfl
  sizeByte := by kernel_rfl
  neB5 := by decide }
open Go.RowKit in
/-- No element: the empty string; the world is as it was. (Whatever the slice's address and capacity: a nil slice too.) (LAID: no walk: one application.) -/
theorem Kstrings_Join_none (a : Option Addr) (c : Nat) (sep : ByteArray) (w : World) :
    Calls Tryd.prog 32 #[.slice a 0 c, .string sep] w fun e w' => e = .returned (.string ⟨#[]⟩) ∧ w' = w := Any.strings_Join_none Klays156 KBuilder_Extra_156 a c sep w
open Go.RowKit in
/-- strings.Join: "Join concatenates the elements of its first argument to create a single string. The separator string sep is placed between elements in the resulting string.": HOWEVER MANY ELEMENTS. Below the heap's end the world is as it was. (LAID: no walk: one application.) -/
theorem Kstrings_Join (bk o c : Nat) (xs : List ByteArray) (sep : ByteArray) (w : World) (hcells : ∀ (j : Nat) x, xs[j]? = some x → w.cell? ⟨bk, o + j, none⟩ = some (.string x)) (hbk : bk < w.heap.size) (hN : xs.length ≤ 140737488355328) (hcap : xs.length ≤ c) (hlen : (Lib.join (xs.map (·.data.toList)) sep.data.toList).length ≤ 140737488355328) :
    Calls Tryd.prog 32 #[.slice (some ⟨bk, o, none⟩) xs.length c, .string sep] w fun e w' => e = .returned (.string ⟨(Lib.join (xs.map (·.data.toList)) sep.data.toList).toArray⟩) ∧ Below w.heap.size w w' := Any.strings_Join Klays156 KBuilder_Extra_156 bk o c xs sep w hcells hbk hN hcap hlen
def KlaysM171_ren : Go.Shelf.Ren := ⟨fun | 171 => 62 | 243 => 70 | 246 => 78 | 283 => 81 | 284 => 82 | 285 => 83 | 286 => 84 | 129 => 86 | 317 => 85 | 318 => 87 | 319 => 88 | 320 => 89 | 337 => 90 | 338 => 91 | n => n, fun | 3 => 3 | 9 => 9 | 2 => 2 | 4 => 4 | 171 => 113 | 0 => 0 | 53 => 114 | 37 => 22 | 5 => 5 | 173 => 117 | 212 => 120 | 51 => 106 | 20 => 20 | 213 => 121 | 46 => 104 | 232 => 125 | 233 => 126 | n => n, fun | 17 => 3 | 18 => 4 | 19 => 5 | n => n⟩
theorem KlaysM171 : Go.Proofs.LaysM.n171 Tryd.prog KlaysM171_ren := {
  mixed := by kernel_rfl
  f129 := Tryd.func86.trans (congrArg some (by kernel_rfl))
  f171 := Tryd.func62.trans (congrArg some (by kernel_rfl))
  f243 := Tryd.func70.trans (congrArg some (by kernel_rfl))
  f246 := Tryd.func78.trans (congrArg some (by kernel_rfl))
  f283 := Tryd.func81.trans (congrArg some (by kernel_rfl))
  f284 := Tryd.func82.trans (congrArg some (by kernel_rfl))
  f285 := Tryd.func83.trans (congrArg some (by kernel_rfl))
  f286 := Tryd.func84.trans (congrArg some (by kernel_rfl))
  f317 := Tryd.func85.trans (congrArg some (by kernel_rfl))
  f318 := Tryd.func87.trans (congrArg some (by kernel_rfl))
  f319 := Tryd.func88.trans (congrArg some (by kernel_rfl))
  f320 := Tryd.func89.trans (congrArg some (by kernel_rfl))
  f337 := Tryd.func90.trans (congrArg some (by kernel_rfl))
  f338 := Tryd.func91.trans (congrArg some (by kernel_rfl))
  t0 := Tryd.underlying0
  a0 := Tryd.isAgg0
  z0 := Tryd.sizeOf0
  v0 := Tryd.zeroValue0
  t2 := Tryd.underlying2
  a2 := Tryd.isAgg2
  z2 := Tryd.sizeOf2
  v2 := Tryd.zeroValue2
  t3 := Tryd.underlying3
  a3 := Tryd.isAgg3
  z3 := Tryd.sizeOf3
  v3 := Tryd.zeroValue3
  t4 := Tryd.underlying4
  a4 := Tryd.isAgg4
  z4 := Tryd.sizeOf4
  v4 := Tryd.zeroValue4
  t5 := Tryd.underlying5
  a5 := Tryd.isAgg5
  z5 := Tryd.sizeOf5
  v5 := Tryd.zeroValue5
  t9 := Tryd.underlying9
  a9 := Tryd.isAgg9
  z9 := Tryd.sizeOf9
  v9 := Tryd.zeroValue9
  t20 := Tryd.underlying20
  a20 := Tryd.isAgg20
  z20 := Tryd.sizeOf20
  v20 := Tryd.zeroValue20
  t37 := Tryd.underlying22
  a37 := Tryd.isAgg22
  z37 := Tryd.sizeOf22
  v37 := Tryd.zeroValue22
  t46 := Tryd.underlying104
  a46 := Tryd.isAgg104
  z46 := Tryd.sizeOf104
  v46 := Tryd.zeroValue104
  t51 := Tryd.underlying106
  a51 := Tryd.isAgg106
  z51 := Tryd.sizeOf106
  v51 := Tryd.zeroValue106
  t53 := Tryd.underlying114
  a53 := Tryd.isAgg114
  z53 := Tryd.sizeOf114
  v53 := Tryd.zeroValue114
  t171 := Tryd.underlying113
  a171 := Tryd.isAgg113
  z171 := Tryd.sizeOf113
  v171 := Tryd.zeroValue113
  t173 := Tryd.underlying117
  a173 := Tryd.isAgg117
  z173 := Tryd.sizeOf117
  v173 := Tryd.zeroValue117
  t212 := Tryd.underlying120
  a212 := Tryd.isAgg120
  z212 := Tryd.sizeOf120
  v212 := Tryd.zeroValue120
  t213 := Tryd.underlying121
  a213 := Tryd.isAgg121
  z213 := Tryd.sizeOf121
  t232 := Tryd.underlying125
  a232 := Tryd.isAgg125
  z232 := Tryd.sizeOf125
  v232 := Tryd.zeroValue125
  t233 := Tryd.underlying126
  a233 := Tryd.isAgg126
  z233 := Tryd.sizeOf126
  v233 := Tryd.zeroValue126
  g17 := by kernel_rfl
  g18 := by kernel_rfl
  g19 := by kernel_rfl
  i0 := by kernel_rfl
  i2 := by kernel_rfl
  i3 := by kernel_rfl
  i4 := by kernel_rfl
  i5 := by kernel_rfl
  i9 := by kernel_rfl
  i20 := by kernel_rfl
  i37 := by kernel_rfl
  i46 := by kernel_rfl
  i51 := by kernel_rfl
  i53 := by kernel_rfl
  i171 := by kernel_rfl
  i173 := by kernel_rfl
  i212 := by kernel_rfl
  i232 := by kernel_rfl
  i233 := by kernel_rfl
  m17 := by kernel_rfl
  m18 := by kernel_rfl
  m19 := by kernel_rfl }
open Go.RowKit Go.Sort Go.Lib in
/-- strconv.Itoa: "Itoa is equivalent to FormatInt(int64(i), 10).": i's DECIMAL NUMERAL ('Lib.itoa': a '-' where i is negative, then the digits), FOR EVERY int. The world behind the call: the world before it, new blocks behind the heap (the library's 'var a [24]byte'), draws. (LAID: no walk: one application.) -/
theorem Kstrconv_Itoa (n : Int) (h0 : -9223372036854775808 ≤ n) (h1 : n ≤ 9223372036854775807) (w : World) (htab : Lib.TabIs Tryd.prog w "internal/strconv.uint64pow10" .u64 Lib.pow10Tab) :
    Calls Tryd.prog 62 #[.int .i64 n] w fun e w' => e = .returned (.string ⟨(Lib.itoa n).toArray⟩) ∧ ∃ k os, w' = grow (w.drewN k) os := Any.strconv_Itoa KlaysM171 n h0 h1 w htab
def Klays145_ren : Go.Shelf.Ren := ⟨fun | 145 => 40 | 220 => 58 | 219 => 66 | 217 => 73 | 225 => 74 | 224 => 75 | 267 => 76 | 266 => 79 | 314 => 80 | n => n, fun | 9 => 9 | 4 => 4 | 59 => 79 | 3 => 3 | 5 => 5 | 46 => 104 | 146 => 107 | 51 => 106 | n => n, fun | 1 => 0 | n => n⟩
theorem Klays145 : Go.Proofs.Lays.n145 Tryd.prog Klays145_ren := {
  mixed := by kernel_rfl
  f145 := Tryd.func40.trans (congrArg some (by kernel_rfl))
  f217 := Tryd.func73.trans (congrArg some (by kernel_rfl))
  f219 := Tryd.func66.trans (congrArg some (by kernel_rfl))
  f220 := Tryd.func58.trans (congrArg some (by kernel_rfl))
  f224 := Tryd.func75.trans (congrArg some (by kernel_rfl))
  f225 := Tryd.func74.trans (congrArg some (by kernel_rfl))
  f266 := Tryd.func79.trans (congrArg some (by kernel_rfl))
  f267 := Tryd.func76.trans (congrArg some (by kernel_rfl))
  f314 := Tryd.func80.trans (congrArg some (by kernel_rfl))
  t3 := Tryd.underlying3
  a3 := Tryd.isAgg3
  z3 := Tryd.sizeOf3
  v3 := Tryd.zeroValue3
  t4 := Tryd.underlying4
  a4 := Tryd.isAgg4
  z4 := Tryd.sizeOf4
  v4 := Tryd.zeroValue4
  t5 := Tryd.underlying5
  a5 := Tryd.isAgg5
  z5 := Tryd.sizeOf5
  v5 := Tryd.zeroValue5
  t9 := Tryd.underlying9
  a9 := Tryd.isAgg9
  z9 := Tryd.sizeOf9
  v9 := Tryd.zeroValue9
  t46 := Tryd.underlying104
  a46 := Tryd.isAgg104
  z46 := Tryd.sizeOf104
  v46 := Tryd.zeroValue104
  t51 := Tryd.underlying106
  a51 := Tryd.isAgg106
  z51 := Tryd.sizeOf106
  v51 := Tryd.zeroValue106
  t59 := Tryd.underlying79
  a59 := Tryd.isAgg79
  z59 := Tryd.sizeOf79
  v59 := Tryd.zeroValue79
  t146 := Tryd.underlying107
  a146 := Tryd.isAgg107
  z146 := Tryd.sizeOf107
  v146 := Tryd.zeroValue107
  g1 := by kernel_rfl }
open Go.RowKit Go.Lib in
/-- strings.Cut: "Cut slices s around the first instance of sep, returning the text before and after sep. The found result reports whether sep appears in s. If sep does not appear in s, cut returns s, "", false.": IT RETURNS 'Lib.cut s sep'; the world is as it was but for the count of draws. (LAID: no walk: one application.) -/
theorem Kstrings_Cut (s sep : ByteArray) (m : Int) (w : World) (hs : s.size < 4294967281) (hm : w.cell? ⟨0, 0, none⟩ = some (.int .i64 m)) :
    Calls Tryd.prog 40 #[.string s, .string sep] w fun e w' => e = .returned (.tuple #[.string ⟨(Lib.cut s.data.toList sep.data.toList).1.toArray⟩, .string ⟨(Lib.cut s.data.toList sep.data.toList).2.1.toArray⟩, .bool (Lib.cut s.data.toList sep.data.toList).2.2]) ∧ ∃ n, w' = w.drewN n := Any.strings_Cut Klays145 s sep m w hs hm
def Klays146_ren : Go.Shelf.Ren := ⟨fun | 146 => 28 | 221 => 41 | 268 => 59 | 138 => 60 | 143 => 61 | 195 => 67 | 197 => 68 | 218 => 69 | 219 => 66 | 260 => 77 | 217 => 73 | 225 => 74 | 224 => 75 | 267 => 76 | 266 => 79 | 314 => 80 | n => n, fun | 9 => 9 | 31 => 33 | 3 => 3 | 4 => 4 | 0 => 0 | 105 => 97 | 21 => 21 | 5 => 5 | 46 => 104 | 119 => 109 | 139 => 112 | 138 => 111 | 146 => 107 | 51 => 106 | n => n, fun | 1 => 0 | 3 => 1 | 4 => 2 | n => n⟩
theorem Klays146 : Go.Proofs.Lays.n146 Tryd.prog Klays146_ren := {
  mixed := by kernel_rfl
  f138 := Tryd.func60.trans (congrArg some (by kernel_rfl))
  f143 := Tryd.func61.trans (congrArg some (by kernel_rfl))
  f146 := Tryd.func28.trans (congrArg some (by kernel_rfl))
  f195 := Tryd.func67.trans (congrArg some (by kernel_rfl))
  f197 := Tryd.func68.trans (congrArg some (by kernel_rfl))
  f217 := Tryd.func73.trans (congrArg some (by kernel_rfl))
  f218 := Tryd.func69.trans (congrArg some (by kernel_rfl))
  f219 := Tryd.func66.trans (congrArg some (by kernel_rfl))
  f221 := Tryd.func41.trans (congrArg some (by kernel_rfl))
  f224 := Tryd.func75.trans (congrArg some (by kernel_rfl))
  f225 := Tryd.func74.trans (congrArg some (by kernel_rfl))
  f260 := Tryd.func77.trans (congrArg some (by kernel_rfl))
  f266 := Tryd.func79.trans (congrArg some (by kernel_rfl))
  f267 := Tryd.func76.trans (congrArg some (by kernel_rfl))
  f268 := Tryd.func59.trans (congrArg some (by kernel_rfl))
  f314 := Tryd.func80.trans (congrArg some (by kernel_rfl))
  t0 := Tryd.underlying0
  a0 := Tryd.isAgg0
  z0 := Tryd.sizeOf0
  v0 := Tryd.zeroValue0
  t3 := Tryd.underlying3
  a3 := Tryd.isAgg3
  z3 := Tryd.sizeOf3
  v3 := Tryd.zeroValue3
  t4 := Tryd.underlying4
  a4 := Tryd.isAgg4
  z4 := Tryd.sizeOf4
  v4 := Tryd.zeroValue4
  t5 := Tryd.underlying5
  a5 := Tryd.isAgg5
  z5 := Tryd.sizeOf5
  v5 := Tryd.zeroValue5
  t9 := Tryd.underlying9
  a9 := Tryd.isAgg9
  z9 := Tryd.sizeOf9
  v9 := Tryd.zeroValue9
  t21 := Tryd.underlying21
  a21 := Tryd.isAgg21
  z21 := Tryd.sizeOf21
  v21 := Tryd.zeroValue21
  t31 := Tryd.underlying33
  a31 := Tryd.isAgg33
  z31 := Tryd.sizeOf33
  v31 := Tryd.zeroValue33
  t46 := Tryd.underlying104
  a46 := Tryd.isAgg104
  z46 := Tryd.sizeOf104
  v46 := Tryd.zeroValue104
  t51 := Tryd.underlying106
  a51 := Tryd.isAgg106
  z51 := Tryd.sizeOf106
  v51 := Tryd.zeroValue106
  t105 := Tryd.underlying97
  a105 := Tryd.isAgg97
  z105 := Tryd.sizeOf97
  v105 := Tryd.zeroValue97
  t119 := Tryd.underlying109
  a119 := Tryd.isAgg109
  z119 := Tryd.sizeOf109
  t138 := Tryd.underlying111
  a138 := Tryd.isAgg111
  z138 := Tryd.sizeOf111
  v138 := Tryd.zeroValue111
  t139 := Tryd.underlying112
  a139 := Tryd.isAgg112
  z139 := Tryd.sizeOf112
  v139 := Tryd.zeroValue112
  t146 := Tryd.underlying107
  a146 := Tryd.isAgg107
  z146 := Tryd.sizeOf107
  v146 := Tryd.zeroValue107
  g1 := by kernel_rfl
  g3 := by kernel_rfl
  g4 := by kernel_rfl }
open Go.RowKit Go.Lib in
/-- strings.Split. (LAID: no walk: one application.) -/
theorem Kstrings_Split (s sep : ByteArray) (m : Int) (w : World) (hs : s.size < 4294967281) (hm : w.cell? ⟨0, 0, none⟩ = some (.int .i64 m)) (h1 : 1 ≤ sep.size) :
    Calls Tryd.prog 28 #[.string s, .string sep] w fun e w' =>
      e = .returned (.slice (some ⟨w.heap.size, 0, none⟩) (Lib.countB s sep + 1) (Lib.countB s sep + 1)) ∧ w' = w.alloc (.cells ((Lib.splitB sep 0 (Lib.countB s sep) s).map Value.string).toArray 9) := Any.strings_Split Klays146 (by kernel_rfl) s sep m w hs hm h1
end Go.Proofs.YtopelldocfbhkaaDoor
namespace Go.Proofs.YtopelldocfbhkaaDoor
open Go.RowKit Go.Lib
set_option maxHeartbeats 1000000

theorem post_flat {w w' : World} {S : Nat → Prop} {T : Ty} {r : T.den} {v : Value} (hb : Below w.heap.size w w') (hd : drF → w.drawn ≤ w'.drawn) (hS : ∀ b, S b → b < w.heap.size)
    (hr : RepR T r w' ⟨S, fun g => w.heap.size ≤ g⟩ v) : Post w S T r v w' :=
  ⟨⟨hb, hd⟩, S, fun _ h => h, fun _ h => .inl h, fun b h => Nat.lt_of_lt_of_le (hS b h) hb.size, hr⟩
theorem below_drewN (w : World) (k : Nat) : Below w.heap.size w (w.drewN k) := ⟨rfl, rfl, rfl, Nat.le_refl _, fun _ _ => rfl⟩
theorem below_growN (w : World) (k : Nat) (os : Array Obj) : Below w.heap.size w (Go.Sort.grow (w.drewN k) os) := by
  refine ⟨rfl, rfl, rfl, by simp [Go.Sort.grow, World.drewN], fun g hg => ?_⟩
  show (w.heap ++ os)[g]? = _
  rw [Array.getElem?_append_left hg]
theorem drewN_drawn (w : World) (k : Nat) : w.drawn ≤ (w.drewN k).drawn := by simp [World.drewN]
theorem str_rep {x : List UInt8} {w : World} {M : Mem} {v : Value} (h : RepV .str x w M v) : v = .string ⟨x.toArray⟩ ∧ x.length ≤ 9223372036854775807 := by
  obtain ⟨hv, h⟩ := h
  injection hv with hv
  exact ⟨hv, h⟩
theorem tab_max {w : World} {S : Nat → Prop} (h : Tabs w S) : ∃ m, w.cell? ⟨0, 0, none⟩ = some (.int .i64 m) := by
  obtain ⟨_, o, ho, m, cs, e, r, rfl, hm⟩ := h 0 (by decide)
  exact ⟨m, by simp [World.cell?, ho, hm]⟩
theorem tab_pow {w : World} {S : Nat → Prop} (h : Tabs w S) : w.var? Tryd.prog (((Tryd.prog.globals[3]?).map (·.name)).getD default) = some ((pow10Tab).map fun z => Value.int .u64 z).toArray := by
  obtain ⟨_, o, ho, e, r, rfl⟩ := h 3 (by decide)
  have hg : Tryd.prog.globalNamed (((Tryd.prog.globals[3]?).map (·.name)).getD default) = some 3 := by kernel_rfl
  simp only [World.var?, hg, Option.bind_some, ho]
  rfl
theorem c_Itoa (n : Int) : PC env 62 [⟨.int .i64, n⟩] .str (itoa n) := by
  intro w S vs hS hT hrep
  obtain ⟨v, r, rfl, _, ⟨hv, h1, h2⟩, hr⟩ := hrep
  simp only [RepAs] at hr
  subst hr
  injection hv with hv
  subst hv
  refine (Kstrconv_Itoa n h1 h2 w (tab_pow hT)).mono ?_
  rintro e w' ⟨rfl, k, os, rfl⟩
  refine ⟨_, rfl, post_flat (below_growN w k os) (fun _ => drewN_drawn w k) hS ⟨rfl, ?_⟩⟩
  have := itoa_length_le n h1 h2
  omega
theorem c_Cut (s sep : List UInt8) (hs : s.length < 4294967281) : PC env 40 [⟨.str, s⟩, ⟨.str, sep⟩] (.tup .str (.tup .str .bool)) (Lib.cut s sep) := by
  intro w S vs hS hT hrep
  obtain ⟨v, r, rfl, _, hv, v2, r2, rfl, _, hv2, hr⟩ := hrep
  simp only [RepAs] at hr
  subst hr
  obtain ⟨rfl, _⟩ := str_rep hv
  obtain ⟨rfl, _⟩ := str_rep hv2
  obtain ⟨m, hm⟩ := tab_max hT
  refine (Kstrings_Cut ⟨s.toArray⟩ ⟨sep.toArray⟩ m w (by simpa [ByteArray.size] using hs) hm).mono ?_
  rintro e w' ⟨rfl, k, rfl⟩
  refine ⟨_, rfl, post_flat (below_drewN w k) (fun _ => drewN_drawn w k) hS ?_⟩
  refine ⟨_, rfl, _, _, rfl, ⟨rfl, ?_⟩, _, _, rfl, ⟨rfl, ?_⟩, _, rfl, rfl⟩
  · show (Lib.cut s sep).1.length ≤ _
    unfold Lib.cut
    split
    · simp only [List.length_take]; omega
    · simp only; omega
  · show (Lib.cut s sep).2.1.length ≤ _
    unfold Lib.cut
    split
    · simp only [List.length_drop]; omega
    · simp
theorem c_Split (s : List UInt8) (c : UInt8) (hs : s.length < 4294967281) : PC env 28 [⟨.str, s⟩, ⟨.str, [c]⟩] (.sl .str) (split s [c]) := by
  intro w S vs hS hT hrep
  obtain ⟨v, r, rfl, _, hv, v2, r2, rfl, _, hv2, hr⟩ := hrep
  simp only [RepAs] at hr
  subst hr
  obtain ⟨rfl, _⟩ := str_rep hv
  obtain ⟨rfl, _⟩ := str_rep hv2
  obtain ⟨m, hm⟩ := tab_max hT
  have hsz : (⟨s.toArray⟩ : ByteArray).size < 4294967281 := by simpa [ByteArray.size] using hs
  have h1 : 1 ≤ (⟨[c].toArray⟩ : ByteArray).size := by simp [ByteArray.size]
  refine (Kstrings_Split ⟨s.toArray⟩ ⟨[c].toArray⟩ m w hsz hm h1).mono ?_
  rintro e w' ⟨rfl, rfl⟩
  have hmap : (splitB ⟨[c].toArray⟩ 0 (countB ⟨s.toArray⟩ ⟨[c].toArray⟩) ⟨s.toArray⟩).map (·.data.toList) = split s [c] := splitB_data _ _ _ _
  have hlen : (splitB ⟨[c].toArray⟩ 0 (countB ⟨s.toArray⟩ ⟨[c].toArray⟩) ⟨s.toArray⟩).length = countB ⟨s.toArray⟩ ⟨[c].toArray⟩ + 1 := splitB_all _ h1 0 _ _ rfl
  have hlen2 : (split s [c]).length = countB ⟨s.toArray⟩ ⟨[c].toArray⟩ + 1 := by rw [← hmap, List.length_map, hlen]
  have hcle : countB ⟨s.toArray⟩ ⟨[c].toArray⟩ ≤ s.length := by
    have := countB_le ⟨[c].toArray⟩ h1 _ ⟨s.toArray⟩ (Nat.le_refl _)
    simpa [ByteArray.size] using this
  have hel : ∀ (k : Nat) (x : List UInt8) (y : List UInt8), y ∈ splitK [c] 0 k x → y.length ≤ x.length := by
    intro k
    induction k with
    | zero => intro x y hy; simp only [splitK, List.mem_singleton] at hy; subst hy; exact Nat.le_refl _
    | succ k ih =>
      intro x y hy
      simp only [splitK] at hy
      split at hy
      · simp only [List.mem_singleton] at hy; subst hy; exact Nat.le_refl _
      · rcases List.mem_cons.1 hy with rfl | hy
        · simp only [List.length_take]; omega
        · have := ih _ _ hy
          simp only [List.length_drop] at this
          omega
  have hnew : ∀ ob : Obj, (w.alloc ob).heap[w.heap.size]? = some ob := fun ob => by show (w.heap.push ob)[w.heap.size]? = _; simp
  have hb : Below w.heap.size w (w.alloc (.cells ((splitB ⟨[c].toArray⟩ 0 (countB ⟨s.toArray⟩ ⟨[c].toArray⟩) ⟨s.toArray⟩).map Value.string).toArray 9)) := (Below.refl _ w).alloc (Nat.le_refl _) _
  refine ⟨_, rfl, ⟨hb, fun _ => Nat.le_refl _⟩, fun b => S b ∨ b = w.heap.size, fun _ h => .inl h, fun b h => ?_, fun b h => ?_, ?_⟩
  · rcases h with h | h
    · exact .inl h
    · exact .inr (by omega)
  · rcases h with h | h
    · exact Nat.lt_of_lt_of_le (hS b h) hb.size
    · subst h; show w.heap.size < (w.heap.push _).size; simp
  refine ⟨some ⟨w.heap.size, 0, none⟩, countB ⟨s.toArray⟩ ⟨[c].toArray⟩ + 1, ?_, by omega, by omega, .inr ⟨w.heap.size, 0, rfl, .inr rfl, fun i y hy => ?_⟩⟩
  · rw [hlen2]
  · have hy' : y.length ≤ s.length := hel _ _ _ (List.mem_of_getElem? hy)
    refine ⟨[.string ⟨y.toArray⟩], rfl, fun j v hj => ?_, rfl, by omega⟩
    have hj0 : j = 0 ∧ v = .string ⟨y.toArray⟩ := by
      cases j with
      | zero => simpa using hj.symm
      | succ j => simp at hj
    obtain ⟨rfl, rfl⟩ := hj0
    rw [← hmap, List.getElem?_map] at hy
    obtain ⟨b, hb1, hb2⟩ := Option.map_eq_some_iff.1 hy
    have e : (⟨y.toArray⟩ : ByteArray) = b := by subst hb2; rfl
    rw [e]
    simp only [World.cell?, hnew]
    simp [Ty.cells, hb1]
theorem c_Join (xs : List (List UInt8)) (sep : List UInt8) (hn : xs.length ≤ 140737488355328) (hl : (Lib.join xs sep).length ≤ 140737488355328) : PC env 32 [⟨.sl .str, xs⟩, ⟨.str, sep⟩] .str (Lib.join xs sep) := by
  intro w S vs hS hT hrep
  obtain ⟨v, r, rfl, _, hv, v2, r2, rfl, _, hv2, hr⟩ := hrep
  simp only [RepAs] at hr
  subst hr
  obtain ⟨rfl, _⟩ := str_rep hv2
  obtain ⟨a, cap, hv, hcap, hcap2, hx⟩ := hv
  injection hv with hv
  subst hv
  cases xs with
  | nil =>
    refine (Kstrings_Join_none a cap ⟨sep.toArray⟩ w).mono ?_
    rintro e w' ⟨rfl, rfl⟩
    exact ⟨_, rfl, post_flat (Below.refl _ _) (fun _ => Nat.le_refl _) hS ⟨rfl, Nat.zero_le _⟩⟩
  | cons x0 xr =>
    rcases hx with hx | ⟨g, o, rfl, hg, hx⟩
    · cases hx
    · let ys : List ByteArray := (x0 :: xr).map fun x => ⟨x.toArray⟩
      have hys : ys.map (·.data.toList) = x0 :: xr := by
        show ((x0 :: xr).map _).map _ = _
        rw [List.map_map]
        exact List.map_id' _
      have hyl : ys.length = (x0 :: xr).length := List.length_map ..
      have hc := Kstrings_Join g o cap ys ⟨sep.toArray⟩ w (fun j x hj => by
        rw [List.getElem?_map] at hj
        obtain ⟨y, hy, rfl⟩ := Option.map_eq_some_iff.1 hj
        obtain ⟨cs, _, hca, hre, _⟩ := hx j y hy
        have hre : cs = [.string ⟨y.toArray⟩] := hre
        subst hre
        have := hca 0 _ rfl
        simpa [Ty.cells] using this) (hS g hg) (by rw [hyl]; exact hn) (by rw [hyl]; exact hcap) (by rw [hys]; exact hl)
      rw [hyl] at hc
      refine hc.mono ?_
      rintro e w' ⟨rfl, hb⟩
      rw [hys]
      exact ⟨_, rfl, post_flat hb (fun h => by first | exact h.elim | cases h) hS ⟨rfl, by show (Lib.join (x0 :: xr) sep).length ≤ _; omega⟩⟩
end Go.Proofs.YtopelldocfbhkaaDoor
namespace Go.Proofs.YtopelldocfbhkaaDoor
set_option maxHeartbeats 4000000
set_option maxRecDepth 100000

theorem i64_ok {x : Int} (h : -9223372036854775808 ≤ x) (h' : x ≤ 9223372036854775807) : IntKind.i64.min ≤ x ∧ x ≤ IntKind.i64.max := ⟨h, h'⟩
theorem i64_of {x : Int} (h : IntKind.i64.min ≤ x ∧ x ≤ IntKind.i64.max) : -9223372036854775808 ≤ x ∧ x ≤ 9223372036854775807 := h
theorem u8_ok {x : Int} (h : 0 ≤ x) (h' : x ≤ 255) : IntKind.u8.min ≤ x ∧ x ≤ IntKind.u8.max := ⟨h, h'⟩
theorem u8_of {x : Int} (h : IntKind.u8.min ≤ x ∧ x ≤ IntKind.u8.max) : 0 ≤ x ∧ x ≤ 255 := h
theorem drop_cons {α : Type} {xs : List α} {i : Nat} {x : α} (h : xs[i]? = some x) : xs.drop i = x :: xs.drop (i + 1) := by
  obtain ⟨hi, e⟩ := List.getElem?_eq_some_iff.1 h
  rw [List.drop_eq_getElem_cons hi, e]
theorem take_snoc {α : Type} {xs : List α} {i : Nat} {x : α} (h : xs[i]? = some x) : xs.take (i + 1) = xs.take i ++ [x] := by
  rw [List.take_add_one, h]; rfl
theorem get_of_lt {α : Type} {xs : List α} {i : Nat} (h : i < xs.length) : ∃ x, xs[i]? = some x := ⟨_, List.getElem?_eq_getElem h⟩
theorem all_step {α : Type} {xs : List α} {i : Nat} {x : α} {p : α → Bool} (h : xs[i]? = some x) : (xs.take (i + 1)).all p = ((xs.take i).all p && p x) := by
  rw [take_snoc h, List.all_append]
  simp
theorem all_no {α : Type} {xs : List α} {i : Nat} {x : α} {p : α → Bool} (h : xs[i]? = some x) (hp : p x = false) : xs.all p = false := by
  rw [List.all_eq_false]
  exact ⟨x, List.mem_of_getElem? h, by simp [hp]⟩
/-- What several branches lead to is walked once. -/
theorem Walks.shareX {E : Env} {G : Goal} {todo : List WI} {X : Type} (t : X → St) (inv : X → Prop) {A : Prop} (h : (∀ s x, inv x → Le s (t x) → Walks E G todo s) → A) (hw : ∀ x, inv x → Walks E G todo (t x)) : A :=
  h fun s x hx hl => Walks.weaken hl (hw x hx)
/-- A contract's result as a decision, so that walks part by themselves. -/
theorem PC.dec {E : Env} {f : Nat} {xs : List (Sigma Ty.den)} {b : Bool} (h : PC E f xs .bool b) : PC E f xs .bool (decide (b = true)) := by cases b <;> exact h
abbrev Str := List UInt8
def low (u : UInt8) : Bool := decide (97 ≤ u.toNat ∧ u.toNat ≤ 122)
theorem dec_at {s : Str} {i : Nat} {x : UInt8} (h : s[i]? = some x) : if x.toNat < 128 then Utf8.decode ⟨s.toArray⟩ i = (x.toNat, 1) else 128 ≤ (Utf8.decode ⟨s.toArray⟩ i).1 := by
  have hg : ((⟨s.toArray⟩ : ByteArray).get! (i + 0)).toNat = x.toNat := by
    obtain ⟨hi, e⟩ := List.getElem?_eq_some_iff.1 h
    show (s.toArray.getD i default).toNat = _
    rw [Array.getD_eq_getD_getElem?]
    simp [h]
  unfold Utf8.decode
  simp only [hg]
  split
  · rfl
  · repeat' split
    all_goals first | (simp only [Utf8.runeError]; omega) | (rename_i h'; simp only [ge_iff_le, Bool.and_eq_true, decide_eq_true_eq] at h'; omega)
theorem rune_ok {s : Str} {i : Nat} : IntKind.i32.min ≤ ((Utf8.decode ⟨s.toArray⟩ i).1 : Int) ∧ ((Utf8.decode ⟨s.toArray⟩ i).1 : Int) ≤ IntKind.i32.max := by
  have := decode_max ⟨s.toArray⟩ i
  exact ⟨by show (-2147483648 : Int) ≤ _; omega, by show _ ≤ (2147483647 : Int); omega⟩
theorem c_letters (s : Str) : PC env 33 [⟨.str, s⟩] .bool (s.all low) := by
  refine PC.of_PW (m := 2000) env_ok fn_33 rfl rfl rfl rfl (by kernel_rfl) ?_; intro hx; simp only [Tryd.f33]; simp only [go_sem, Nat.reduceBEq, ↓reduceIte, ↓reduceDIte, Nat.reduceAdd, Nat.reduceSub, Nat.reduceMul, Nat.reduceLeDiff, ← Bool.decide_and, ← Bool.decide_or, ← decide_not, Int.reduceLT, Int.reduceLE, Int.reduceToNat, Int.reduceNeg]
  refine Walks.loopA (X := Nat) (fun (i : Nat) => []) (fun (i : Nat) => [(6, .sit s i)]) (fun (i : Nat) => i ≤ s.length ∧ (s.take i).all low = true) (fun (i : Nat) => s.length - i) 0 ?_; intro b1 b2 hb1 hb2; simp (config := {maxSteps := 4000000}) only [go_sem, Nat.reduceBEq, ↓reduceIte, ↓reduceDIte, Nat.reduceAdd, Nat.reduceSub, Nat.reduceMul, Nat.reduceLeDiff, ← Bool.decide_and, ← Bool.decide_or, ← decide_not, Int.reduceLT, Int.reduceLE, Int.reduceToNat, Int.reduceNeg] at hb1 hb2; subst hb1; subst hb2; refine ⟨(by refine ⟨?_, ?_, rfl, rfl⟩ <;> repeat' (first | exact trivial | (refine And.intro (Or.inl rfl) ?_) | (refine And.intro (Or.inr (Or.inl rfl)) ?_) | (refine And.intro (Or.inr (Or.inr (Or.inr ⟨rfl, rfl⟩))) ?_) | (refine And.intro (Or.inr (Or.inr (Or.inl ⟨rfl, rfl, trivial⟩))) ?_) | exact ⟨(by show (_ : Nat) < 1000000000; omega), rfl, rfl⟩ | rfl | (refine And.intro (Or.inl ?_) ?_) | (refine And.intro ?_ ?_))), ?_, ?_⟩
  · exact ⟨Nat.zero_le _, rfl⟩
  intro i ⟨hi, hb⟩ back
  refine PW_sound env_ok ⟨_, fn_33, rfl⟩ 2000 _ _ (by kernel_rfl) ?_; simp only [go_sem, Nat.reduceBEq, ↓reduceIte, ↓reduceDIte, Nat.reduceAdd, Nat.reduceSub, Nat.reduceMul, Nat.reduceLeDiff, ← Bool.decide_and, ← Bool.decide_or, ← decide_not, Int.reduceLT, Int.reduceLE, Int.reduceToNat, Int.reduceNeg]
  refine ⟨fun h => ?_, fun h => ?_⟩
  · obtain ⟨x, hxi⟩ : ∃ x, s[i]? = some x := get_of_lt (by omega)
    have hd := dec_at hxi
    have hno : low x = false → false = s.all low := fun hl => (all_no hxi hl).symm
    split at hd
    · rw [hd]
      refine ⟨fun h1 => ⟨fun h2 => hno (by simp [low]; omega), fun h2 => back _ (i + 1) (by refine ⟨?_, ?_, rfl, rfl⟩ <;> repeat' (first | exact trivial | (refine And.intro (Or.inl rfl) ?_) | (refine And.intro (Or.inr (Or.inl rfl)) ?_) | (refine And.intro (Or.inr (Or.inr (Or.inr ⟨rfl, rfl⟩))) ?_) | (refine And.intro (Or.inr (Or.inr (Or.inl ⟨rfl, rfl, trivial⟩))) ?_) | exact ⟨(by show (_ : Nat) < 1000000000; omega), rfl, rfl⟩ | rfl | (refine And.intro (Or.inl ?_) ?_) | (refine And.intro ?_ ?_))) ⟨by omega, ?_⟩ (by omega)⟩, fun h1 => hno (by simp [low]; omega)⟩
      rw [all_step hxi, hb]
      simp [low]; omega
    · exact ⟨fun h1 => ⟨fun h2 => hno (by simp [low]; omega), fun h2 => by omega⟩, fun h1 => hno (by simp [low]; omega)⟩
  · rw [List.take_of_length_le (by omega)] at hb
    rw [hb]
theorem c_Letters (s : Str) : PC env 36 [⟨.str, s⟩] .bool (s.all low) := by
  refine PC.of_PW (m := 2000) env_ok fn_36 rfl rfl rfl rfl (by kernel_rfl) ?_; intro hx; simp only [Tryd.f36]; simp only [go_sem, Nat.reduceBEq, ↓reduceIte, ↓reduceDIte, Nat.reduceAdd, Nat.reduceSub, Nat.reduceMul, Nat.reduceLeDiff, ← Bool.decide_and, ← Bool.decide_or, ← decide_not, Int.reduceLT, Int.reduceLE, Int.reduceToNat, Int.reduceNeg]
  have hlen : s.length ≤ 9223372036854775807 := hx.1
  refine Walks.loopW (X := Nat) (fun i => ⟨[(3, .iv (.int .i64) (i : Int)), (0, .iv .str s)], []⟩)
    (fun i => i ≤ s.length ∧ (s.take i).all low = true) (fun i => s.length - i) 0 (by refine ⟨?_, ?_, rfl, rfl⟩ <;> repeat' (first | exact trivial | (refine And.intro (Or.inl rfl) ?_) | (refine And.intro (Or.inr (Or.inl rfl)) ?_) | (refine And.intro (Or.inr (Or.inr (Or.inr ⟨rfl, rfl⟩))) ?_) | (refine And.intro (Or.inr (Or.inr (Or.inl ⟨rfl, rfl, trivial⟩))) ?_) | exact ⟨(by show (_ : Nat) < 1000000000; omega), rfl, rfl⟩ | rfl | (refine And.intro (Or.inl ?_) ?_) | (refine And.intro ?_ ?_))) ⟨Nat.zero_le _, rfl⟩ ?_
  intro i ⟨hi, hb⟩ back
  refine PW_sound env_ok ⟨_, fn_36, rfl⟩ 2000 _ _ (by kernel_rfl) ?_; simp only [go_sem, Nat.reduceBEq, ↓reduceIte, ↓reduceDIte, Nat.reduceAdd, Nat.reduceSub, Nat.reduceMul, Nat.reduceLeDiff, ← Bool.decide_and, ← Bool.decide_or, ← decide_not, Int.reduceLT, Int.reduceLE, Int.reduceToNat, Int.reduceNeg]
  refine ⟨fun h => ?_, fun h => ?_⟩
  · obtain ⟨x, hxi⟩ : ∃ x, s[i]? = some x := get_of_lt (by omega)
    have hno : low x = false → false = s.all low := fun hl => (all_no hxi hl).symm
    refine ⟨Int.natCast_nonneg _, _, ⟨x, hxi, rfl⟩, fun h1 => ⟨Int.natCast_nonneg _, _, ⟨x, hxi, rfl⟩, fun h2 => hno (by simp [low]; omega), fun h2 => ⟨i64_ok (by omega) (by omega), back _ (i + 1) (by refine ⟨?_, ?_, rfl, rfl⟩ <;> repeat' (first | exact trivial | (refine And.intro (Or.inl rfl) ?_) | (refine And.intro (Or.inr (Or.inl rfl)) ?_) | (refine And.intro (Or.inr (Or.inr (Or.inr ⟨rfl, rfl⟩))) ?_) | (refine And.intro (Or.inr (Or.inr (Or.inl ⟨rfl, rfl, trivial⟩))) ?_) | exact ⟨(by show (_ : Nat) < 1000000000; omega), rfl, rfl⟩ | rfl | (refine And.intro (Or.inl ?_) ?_) | (refine And.intro ?_ ?_))) ⟨by omega, ?_⟩ (by omega)⟩⟩, fun h1 => hno (by simp [low]; omega)⟩
    rw [all_step hxi, hb]
    simp [low]; omega
  · rw [List.take_of_length_le (by omega)] at hb
    rw [hb]
def incS : Str → Bool
  | a :: b :: l => decide (a.toNat < b.toNat) && incS (b :: l)
  | _ => true
theorem incS_iff : ∀ {s : Str}, incS s = true ↔ ∀ (j : Nat) a b, s[j]? = some a → s[j + 1]? = some b → a.toNat < b.toNat
  | [] => ⟨fun _ j a b h => by simp at h, fun _ => rfl⟩
  | [x] => ⟨fun _ j a b _ h => by simp at h, fun _ => rfl⟩
  | x :: y :: l => by
    simp only [incS, Bool.and_eq_true, decide_eq_true_eq]
    rw [incS_iff (s := y :: l)]
    refine ⟨fun ⟨h1, h2⟩ j a b ha hb => ?_, fun h => ⟨h 0 x y rfl rfl, fun j a b ha hb => h (j + 1) a b ha hb⟩⟩
    cases j with
    | zero => simp at ha hb; subst ha; subst hb; exact h1
    | succ j => exact h2 j a b ha hb
theorem inc_no {s : Str} {j : Nat} {a b : UInt8} (ha : s[j]? = some a) (hb : s[j + 1]? = some b) (h : ¬ a.toNat < b.toNat) : false = incS s :=
  (Bool.eq_false_iff.2 fun hi => h (incS_iff.1 hi j a b ha hb)).symm
theorem inc_yes {s : Str} {i : Nat} (hi : s.length ≤ i) (h : ∀ (j : Nat) a b, j + 1 < i → s[j]? = some a → s[j + 1]? = some b → a.toNat < b.toNat) : true = incS s :=
  (incS_iff.2 fun j a b ha hb => h j a b (by have := (List.getElem?_eq_some_iff.1 hb).1; omega) ha hb).symm
theorem c_increasing (s : Str) : PC env 34 [⟨.str, s⟩] .bool (incS s) := by
  refine PC.of_PW (m := 2000) env_ok fn_34 rfl rfl rfl rfl (by kernel_rfl) ?_; intro hx; simp only [Tryd.f34]; simp only [go_sem, Nat.reduceBEq, ↓reduceIte, ↓reduceDIte, Nat.reduceAdd, Nat.reduceSub, Nat.reduceMul, Nat.reduceLeDiff, ← Bool.decide_and, ← Bool.decide_or, ← decide_not, Int.reduceLT, Int.reduceLE, Int.reduceToNat, Int.reduceNeg]
  have hlen : s.length ≤ 9223372036854775807 := hx.1
  refine Walks.loopA (X := Nat) (fun (i : Nat) => [(3, .iv (.int .i64) (i : Int))]) (fun (i : Nat) => []) (fun (i : Nat) => 1 ≤ i ∧ ∀ (j : Nat) a b, j + 1 < i → s[j]? = some a → s[j + 1]? = some b → a.toNat < b.toNat) (fun (i : Nat) => s.length - i) 1 ?_; intro b1 b2 hb1 hb2; simp (config := {maxSteps := 4000000}) only [go_sem, Nat.reduceBEq, ↓reduceIte, ↓reduceDIte, Nat.reduceAdd, Nat.reduceSub, Nat.reduceMul, Nat.reduceLeDiff, ← Bool.decide_and, ← Bool.decide_or, ← decide_not, Int.reduceLT, Int.reduceLE, Int.reduceToNat, Int.reduceNeg] at hb1 hb2; subst hb1; subst hb2; refine ⟨(by refine ⟨?_, ?_, rfl, rfl⟩ <;> repeat' (first | exact trivial | (refine And.intro (Or.inl rfl) ?_) | (refine And.intro (Or.inr (Or.inl rfl)) ?_) | (refine And.intro (Or.inr (Or.inr (Or.inr ⟨rfl, rfl⟩))) ?_) | (refine And.intro (Or.inr (Or.inr (Or.inl ⟨rfl, rfl, trivial⟩))) ?_) | exact ⟨(by show (_ : Nat) < 1000000000; omega), rfl, rfl⟩ | rfl | (refine And.intro (Or.inl ?_) ?_) | (refine And.intro ?_ ?_))), ?_, ?_⟩
  · exact ⟨Nat.le_refl _, fun j a b h => by omega⟩
  intro i ⟨hi, hb⟩ back
  refine PW_sound env_ok ⟨_, fn_34, rfl⟩ 2000 _ _ (by kernel_rfl) ?_; simp only [go_sem, Nat.reduceBEq, ↓reduceIte, ↓reduceDIte, Nat.reduceAdd, Nat.reduceSub, Nat.reduceMul, Nat.reduceLeDiff, ← Bool.decide_and, ← Bool.decide_or, ← decide_not, Int.reduceLT, Int.reduceLE, Int.reduceToNat, Int.reduceNeg]
  refine ⟨fun h => ?_, fun h => inc_yes (by omega) hb⟩
  obtain ⟨y, hyi⟩ : ∃ x, s[i]? = some x := get_of_lt (by omega)
  obtain ⟨k, rfl⟩ : ∃ k, i = k + 1 := ⟨i - 1, by omega⟩
  obtain ⟨x, hxi⟩ : ∃ x, s[k]? = some x := get_of_lt (by omega)
  have e1 : (((k + 1 : Nat) : Int) - 1).toNat = k := by omega
  refine ⟨Int.natCast_nonneg _, _, ⟨y, hyi, rfl⟩, i64_ok (by omega) (by omega), (by show (0 : Int) ≤ _; omega), _, ⟨x, by rw [e1]; exact hxi, rfl⟩, fun h1 => inc_no hxi hyi (by omega), fun h1 => ⟨i64_ok (by omega) (by omega), back _ (k + 2) (by refine ⟨?_, ?_, rfl, rfl⟩ <;> repeat' (first | exact trivial | (refine And.intro (Or.inl rfl) ?_) | (refine And.intro (Or.inr (Or.inl rfl)) ?_) | (refine And.intro (Or.inr (Or.inr (Or.inr ⟨rfl, rfl⟩))) ?_) | (refine And.intro (Or.inr (Or.inr (Or.inl ⟨rfl, rfl, trivial⟩))) ?_) | exact ⟨(by show (_ : Nat) < 1000000000; omega), rfl, rfl⟩ | rfl | (refine And.intro (Or.inl ?_) ?_) | (refine And.intro ?_ ?_))) ⟨by omega, fun j a b hj ha hb' => ?_⟩ (by omega)⟩⟩
  by_cases e : j = k
  · subst e; rw [hxi] at ha; rw [hyi] at hb'; injection ha with ha; injection hb' with hb'; subst ha; subst hb'; omega
  · exact hb j a b (by omega) ha hb'
theorem c_rising (s : Str) : PC env 38 [⟨.str, s⟩] .bool (incS s) := by
  refine PC.of_PW (m := 2000) env_ok fn_38 rfl rfl rfl rfl (by kernel_rfl) ?_; intro hx; simp only [Tryd.f38]; simp only [go_sem, Nat.reduceBEq, ↓reduceIte, ↓reduceDIte, Nat.reduceAdd, Nat.reduceSub, Nat.reduceMul, Nat.reduceLeDiff, ← Bool.decide_and, ← Bool.decide_or, ← decide_not, Int.reduceLT, Int.reduceLE, Int.reduceToNat, Int.reduceNeg]
  have hlen : s.length ≤ 9223372036854775807 := hx.1
  refine Walks.loopA (X := Nat) (fun (i : Nat) => [(3, .iv (.int .i64) (i : Int))]) (fun (i : Nat) => []) (fun (i : Nat) => 1 ≤ i ∧ ∀ (j : Nat) a b, j + 1 < i → s[j]? = some a → s[j + 1]? = some b → a.toNat < b.toNat) (fun (i : Nat) => s.length - i) 1 ?_; intro b1 b2 hb1 hb2; simp (config := {maxSteps := 4000000}) only [go_sem, Nat.reduceBEq, ↓reduceIte, ↓reduceDIte, Nat.reduceAdd, Nat.reduceSub, Nat.reduceMul, Nat.reduceLeDiff, ← Bool.decide_and, ← Bool.decide_or, ← decide_not, Int.reduceLT, Int.reduceLE, Int.reduceToNat, Int.reduceNeg] at hb1 hb2; subst hb1; subst hb2; refine ⟨(by refine ⟨?_, ?_, rfl, rfl⟩ <;> repeat' (first | exact trivial | (refine And.intro (Or.inl rfl) ?_) | (refine And.intro (Or.inr (Or.inl rfl)) ?_) | (refine And.intro (Or.inr (Or.inr (Or.inr ⟨rfl, rfl⟩))) ?_) | (refine And.intro (Or.inr (Or.inr (Or.inl ⟨rfl, rfl, trivial⟩))) ?_) | exact ⟨(by show (_ : Nat) < 1000000000; omega), rfl, rfl⟩ | rfl | (refine And.intro (Or.inl ?_) ?_) | (refine And.intro ?_ ?_))), ?_, ?_⟩
  · exact ⟨Nat.le_refl _, fun j a b h => by omega⟩
  intro i ⟨hi, hb⟩ back
  refine PW_sound env_ok ⟨_, fn_38, rfl⟩ 2000 _ _ (by kernel_rfl) ?_; simp only [go_sem, Nat.reduceBEq, ↓reduceIte, ↓reduceDIte, Nat.reduceAdd, Nat.reduceSub, Nat.reduceMul, Nat.reduceLeDiff, ← Bool.decide_and, ← Bool.decide_or, ← decide_not, Int.reduceLT, Int.reduceLE, Int.reduceToNat, Int.reduceNeg]
  refine ⟨fun h => ?_, fun h => inc_yes (by omega) hb⟩
  obtain ⟨y, hyi⟩ : ∃ x, s[i]? = some x := get_of_lt (by omega)
  obtain ⟨k, rfl⟩ : ∃ k, i = k + 1 := ⟨i - 1, by omega⟩
  obtain ⟨x, hxi⟩ : ∃ x, s[k]? = some x := get_of_lt (by omega)
  have e1 : (((k + 1 : Nat) : Int) - 1).toNat = k := by omega
  refine ⟨i64_ok (by omega) (by omega), (by show (0 : Int) ≤ _; omega), _, ⟨x, by rw [e1]; exact hxi, rfl⟩, Int.natCast_nonneg _, _, ⟨y, hyi, rfl⟩, fun h1 => inc_no hxi hyi (by omega), fun h1 => ⟨i64_ok (by omega) (by omega), back _ (k + 2) (by refine ⟨?_, ?_, rfl, rfl⟩ <;> repeat' (first | exact trivial | (refine And.intro (Or.inl rfl) ?_) | (refine And.intro (Or.inr (Or.inl rfl)) ?_) | (refine And.intro (Or.inr (Or.inr (Or.inr ⟨rfl, rfl⟩))) ?_) | (refine And.intro (Or.inr (Or.inr (Or.inl ⟨rfl, rfl, trivial⟩))) ?_) | exact ⟨(by show (_ : Nat) < 1000000000; omega), rfl, rfl⟩ | rfl | (refine And.intro (Or.inl ?_) ?_) | (refine And.intro ?_ ?_))) ⟨by omega, fun j a b hj ha hb' => ?_⟩ (by omega)⟩⟩
  by_cases e : j = k
  · subst e; rw [hxi] at ha; rw [hyi] at hb'; injection ha with ha; injection hb' with hb'; subst ha; subst hb'; omega
  · exact hb j a b (by omega) ha hb'
def inB (n a b : Int) : Bool := decide (a ≤ n ∧ n ≤ b)
theorem c_In (v a b : Int) : PC env 37 [⟨.int .i64, v⟩, ⟨.int .i64, a⟩, ⟨.int .i64, b⟩] .bool (inB v a b) := by
  refine PC.of_PW (m := 2000) env_ok fn_37 rfl rfl rfl rfl (by kernel_rfl) ?_; intro hx; simp only [Tryd.f37]; simp only [go_sem, Nat.reduceBEq, ↓reduceIte, ↓reduceDIte, Nat.reduceAdd, Nat.reduceSub, Nat.reduceMul, Nat.reduceLeDiff, ← Bool.decide_and, ← Bool.decide_or, ← decide_not, Int.reduceLT, Int.reduceLE, Int.reduceToNat, Int.reduceNeg]
  unfold inB
  refine ⟨fun h => ?_, fun h => ?_⟩
  · congr 1; simp; omega
  · symm; simp; omega
def cooP (q : Int × Int) : Bool := inB q.1 0 1000 && inB q.2 0 1000
theorem c_coord (p : List (Int × Int)) : PC env 35 [⟨.sl PointT, p⟩] .bool (p.all cooP) := by
  refine PC.of_PW (m := 2000) env_ok fn_35 rfl rfl rfl rfl (by kernel_rfl) ?_; intro hx; simp only [Tryd.f35]; simp only [go_sem, Nat.reduceBEq, ↓reduceIte, ↓reduceDIte, Nat.reduceAdd, Nat.reduceSub, Nat.reduceMul, Nat.reduceLeDiff, ← Bool.decide_and, ← Bool.decide_or, ← decide_not, Int.reduceLT, Int.reduceLE, Int.reduceToNat, Int.reduceNeg]
  have hlen : p.length ≤ 9223372036854775807 := hx.1.1
  refine Walks.loopA (X := Nat) (fun (i : Nat) => [(7, .iv (.int .i64) (i : Int))]) (fun (i : Nat) => []) (fun (i : Nat) => i ≤ p.length ∧ (p.take i).all cooP = true) (fun (i : Nat) => p.length - i) 0 ?_; intro b1 b2 hb1 hb2; simp (config := {maxSteps := 4000000}) only [go_sem, Nat.reduceBEq, ↓reduceIte, ↓reduceDIte, Nat.reduceAdd, Nat.reduceSub, Nat.reduceMul, Nat.reduceLeDiff, ← Bool.decide_and, ← Bool.decide_or, ← decide_not, Int.reduceLT, Int.reduceLE, Int.reduceToNat, Int.reduceNeg] at hb1 hb2; subst hb1; subst hb2; refine ⟨(by refine ⟨?_, ?_, rfl, rfl⟩ <;> repeat' (first | exact trivial | (refine And.intro (Or.inl rfl) ?_) | (refine And.intro (Or.inr (Or.inl rfl)) ?_) | (refine And.intro (Or.inr (Or.inr (Or.inr ⟨rfl, rfl⟩))) ?_) | (refine And.intro (Or.inr (Or.inr (Or.inl ⟨rfl, rfl, trivial⟩))) ?_) | exact ⟨(by show (_ : Nat) < 1000000000; omega), rfl, rfl⟩ | rfl | (refine And.intro (Or.inl ?_) ?_) | (refine And.intro ?_ ?_))), ?_, ?_⟩
  · exact ⟨Nat.zero_le _, rfl⟩
  intro i ⟨hi, hb⟩ back
  refine PW_sound env_ok ⟨_, fn_35, rfl⟩ 2000 _ _ (by kernel_rfl) ?_; simp only [go_sem, Nat.reduceBEq, ↓reduceIte, ↓reduceDIte, Nat.reduceAdd, Nat.reduceSub, Nat.reduceMul, Nat.reduceLeDiff, ← Bool.decide_and, ← Bool.decide_or, ← decide_not, Int.reduceLT, Int.reduceLE, Int.reduceToNat, Int.reduceNeg]
  refine ⟨fun h => ?_, fun h => ?_⟩
  · obtain ⟨x, hxi⟩ : ∃ x, p[i]? = some x := get_of_lt (by omega)
    have hno : cooP x = false → false = p.all cooP := fun hl => (all_no hxi hl).symm
    refine ⟨Int.natCast_nonneg _, x, hxi, fun h1 => ⟨fun h2 => ⟨fun h3 => ⟨fun h4 => hno (by simp [cooP, inB]; omega), fun h4 => ⟨i64_ok (by omega) (by omega), back _ (i + 1) (by refine ⟨?_, ?_, rfl, rfl⟩ <;> repeat' (first | exact trivial | (refine And.intro (Or.inl rfl) ?_) | (refine And.intro (Or.inr (Or.inl rfl)) ?_) | (refine And.intro (Or.inr (Or.inr (Or.inr ⟨rfl, rfl⟩))) ?_) | (refine And.intro (Or.inr (Or.inr (Or.inl ⟨rfl, rfl, trivial⟩))) ?_) | exact ⟨(by show (_ : Nat) < 1000000000; omega), rfl, rfl⟩ | rfl | (refine And.intro (Or.inl ?_) ?_) | (refine And.intro ?_ ?_))) ⟨by omega, ?_⟩ (by omega)⟩⟩, fun h3 => hno (by simp [cooP, inB]; omega)⟩, fun h2 => hno (by simp [cooP, inB]; omega)⟩, fun h1 => hno (by simp [cooP, inB]; omega)⟩
    rw [all_step hxi, hb]
    simp [cooP, inB]; omega
  · rw [List.take_of_length_le (by omega)] at hb
    rw [hb]
theorem c_points (p : List (Int × Int)) (a b : Int) : PC env 39 [⟨.sl PointT, p⟩, ⟨.int .i64, a⟩, ⟨.int .i64, b⟩] .bool (p.all cooP && inB p.length a b) := by
  refine PC.of_PW (m := 2000) env_ok fn_39 rfl rfl rfl rfl (by kernel_rfl) ?_; intro hx; simp only [Tryd.f39]; simp only [go_sem, Nat.reduceBEq, ↓reduceIte, ↓reduceDIte, Nat.reduceAdd, Nat.reduceSub, Nat.reduceMul, Nat.reduceLeDiff, ← Bool.decide_and, ← Bool.decide_or, ← decide_not, Int.reduceLT, Int.reduceLE, Int.reduceToNat, Int.reduceNeg]
  have hlen : p.length ≤ 9223372036854775807 := hx.1.1
  refine Walks.loopA (X := Nat) (fun (i : Nat) => [(7, .iv (.int .i64) (i : Int))]) (fun (i : Nat) => []) (fun (i : Nat) => i ≤ p.length ∧ (p.take i).all cooP = true) (fun (i : Nat) => p.length - i) 0 ?_; intro b1 b2 hb1 hb2; simp (config := {maxSteps := 4000000}) only [go_sem, Nat.reduceBEq, ↓reduceIte, ↓reduceDIte, Nat.reduceAdd, Nat.reduceSub, Nat.reduceMul, Nat.reduceLeDiff, ← Bool.decide_and, ← Bool.decide_or, ← decide_not, Int.reduceLT, Int.reduceLE, Int.reduceToNat, Int.reduceNeg] at hb1 hb2; subst hb1; subst hb2; refine ⟨(by refine ⟨?_, ?_, rfl, rfl⟩ <;> repeat' (first | exact trivial | (refine And.intro (Or.inl rfl) ?_) | (refine And.intro (Or.inr (Or.inl rfl)) ?_) | (refine And.intro (Or.inr (Or.inr (Or.inr ⟨rfl, rfl⟩))) ?_) | (refine And.intro (Or.inr (Or.inr (Or.inl ⟨rfl, rfl, trivial⟩))) ?_) | exact ⟨(by show (_ : Nat) < 1000000000; omega), rfl, rfl⟩ | rfl | (refine And.intro (Or.inl ?_) ?_) | (refine And.intro ?_ ?_))), ?_, ?_⟩
  · exact ⟨Nat.zero_le _, rfl⟩
  intro i ⟨hi, hb⟩ back
  refine PW_sound env_ok ⟨_, fn_39, rfl⟩ 2000 _ _ (by kernel_rfl) ?_; simp only [go_sem, Nat.reduceBEq, ↓reduceIte, ↓reduceDIte, Nat.reduceAdd, Nat.reduceSub, Nat.reduceMul, Nat.reduceLeDiff, ← Bool.decide_and, ← Bool.decide_or, ← decide_not, Int.reduceLT, Int.reduceLE, Int.reduceToNat, Int.reduceNeg]
  refine ⟨fun h => ?_, fun h => ?_⟩
  · obtain ⟨x, hxi⟩ : ∃ x, p[i]? = some x := get_of_lt (by omega)
    have hno : cooP x = false → false = (p.all cooP && inB p.length a b) := fun hl => by rw [all_no hxi hl]; rfl
    refine ⟨Int.natCast_nonneg _, x, hxi, _, (c_In _ _ _).dec, ?_⟩
    simp only [go_sem, Nat.reduceBEq, ↓reduceIte, ↓reduceDIte, Nat.reduceAdd, Nat.reduceSub, Nat.reduceMul, Nat.reduceLeDiff, ← Bool.decide_and, ← Bool.decide_or, ← decide_not, Int.reduceLT, Int.reduceLE, Int.reduceToNat, Int.reduceNeg]
    refine ⟨fun h1 => ⟨Int.natCast_nonneg _, x, hxi, _, (c_In _ _ _).dec, ?_⟩, fun h1 => hno (by simp [cooP, h1])⟩
    simp only [go_sem, Nat.reduceBEq, ↓reduceIte, ↓reduceDIte, Nat.reduceAdd, Nat.reduceSub, Nat.reduceMul, Nat.reduceLeDiff, ← Bool.decide_and, ← Bool.decide_or, ← decide_not, Int.reduceLT, Int.reduceLE, Int.reduceToNat, Int.reduceNeg]
    refine ⟨fun h2 => hno (by simp [cooP, h2]), fun h2 => ⟨i64_ok (by omega) (by omega), back _ (i + 1) (by refine ⟨?_, ?_, rfl, rfl⟩ <;> repeat' (first | exact trivial | (refine And.intro (Or.inl rfl) ?_) | (refine And.intro (Or.inr (Or.inl rfl)) ?_) | (refine And.intro (Or.inr (Or.inr (Or.inr ⟨rfl, rfl⟩))) ?_) | (refine And.intro (Or.inr (Or.inr (Or.inl ⟨rfl, rfl, trivial⟩))) ?_) | exact ⟨(by show (_ : Nat) < 1000000000; omega), rfl, rfl⟩ | rfl | (refine And.intro (Or.inl ?_) ?_) | (refine And.intro ?_ ?_))) ⟨by omega, ?_⟩ (by omega)⟩⟩
    rw [all_step hxi, hb]
    simp [cooP, h1, h2]
  · rw [List.take_of_length_le (by omega)] at hb
    exact ⟨_, c_In _ _ _, by rw [hb]; rfl⟩
theorem valS_step {s : Str} {i : Nat} {x : UInt8} (h : s[i]? = some x) : valS (s.take (i + 1)) = 10 * valS (s.take i) + (x.toNat - 48) := by
  unfold valS
  rw [take_snoc h, List.foldl_append]; rfl
theorem valS_lt : ∀ {s : Str} (i : Nat), (s.take i).all dig = true → valS (s.take i) < 10 ^ i
  | s, 0, _ => by simp [valS]
  | s, i + 1, h => by
    cases hx : s[i]? with
    | none =>
      have hl : s.length ≤ i := List.getElem?_eq_none_iff.1 hx
      have e : s.take (i + 1) = s.take i := by rw [List.take_of_length_le hl, List.take_of_length_le (by omega)]
      rw [e] at h ⊢
      have := valS_lt i h
      have : (10 : Nat) ^ i ≤ 10 ^ (i + 1) := Nat.pow_le_pow_right (by decide) (by omega)
      omega
    | some x =>
      rw [all_step hx, Bool.and_eq_true] at h
      have := valS_lt i h.1
      rw [valS_step hx, Nat.pow_succ]
      have := h.2
      simp [dig] at this
      omega
/-- A number of at most four digits, without leading zeros. -/
def numOK (s : Str) : Bool := decide (1 ≤ s.length ∧ s.length ≤ 4 ∧ ¬ (s[0]? = some 48 ∧ 1 < s.length)) && s.all dig
def numV (s : Str) : Int := if numOK s then ((valS s : Nat) : Int) else 0
theorem num_no {s : Str} (h : numOK s = false) : ((0 : Int), false) = (numV s, numOK s) := by simp [numV, h]
theorem u48 {u : UInt8} : (u = 48) ↔ u.toNat = 48 := ⟨fun h => by subst h; rfl, fun h => UInt8.toNat_inj.1 h⟩
theorem c_number (s : Str) : PC env 63 [⟨.str, s⟩] (.tup (.int .i64) .bool) (numV s, numOK s) := by
  refine PC.of_PW (m := 2000) env_ok fn_63 rfl rfl rfl rfl (by kernel_rfl) ?_; intro hx; simp only [Tryd.f63]; simp only [go_sem, Nat.reduceBEq, ↓reduceIte, ↓reduceDIte, Nat.reduceAdd, Nat.reduceSub, Nat.reduceMul, Nat.reduceLeDiff, ← Bool.decide_and, ← Bool.decide_or, ← decide_not, Int.reduceLT, Int.reduceLE, Int.reduceToNat, Int.reduceNeg]
  apply Walks.shareX (X := Unit) (fun _ => ⟨[(26, .ref 26 0), (4, .iv (.int .i64) (0 : Int))], [(26, .sit s 0)]⟩) (fun _ => 1 ≤ s.length ∧ s.length ≤ 4 ∧ ¬ (s[0]? = some 48 ∧ 1 < s.length))
  · intro key
    refine ⟨fun h1 => ⟨fun h2 => ?_, fun h2 => num_no (by simp [numOK]; omega)⟩, fun h1 => num_no (by simp [numOK]; omega)⟩
    obtain ⟨x, hxi⟩ : ∃ x, s[0]? = some x := get_of_lt (by omega)
    refine ⟨_, ⟨x, hxi, rfl⟩, fun h3 => ⟨fun h4 => num_no ?_, fun h4 => key _ () ⟨by omega, by omega, by omega⟩ (by refine ⟨?_, ?_, rfl, rfl⟩ <;> repeat' (first | exact trivial | (refine And.intro (Or.inl rfl) ?_) | (refine And.intro (Or.inr (Or.inl rfl)) ?_) | (refine And.intro (Or.inr (Or.inr (Or.inr ⟨rfl, rfl⟩))) ?_) | (refine And.intro (Or.inr (Or.inr (Or.inl ⟨rfl, rfl, trivial⟩))) ?_) | exact ⟨(by show (_ : Nat) < 1000000000; omega), rfl, rfl⟩ | rfl | (refine And.intro (Or.inl ?_) ?_) | (refine And.intro ?_ ?_)))⟩, fun h3 => key _ () ⟨by omega, by omega, fun h4 => ?_⟩ (by refine ⟨?_, ?_, rfl, rfl⟩ <;> repeat' (first | exact trivial | (refine And.intro (Or.inl rfl) ?_) | (refine And.intro (Or.inr (Or.inl rfl)) ?_) | (refine And.intro (Or.inr (Or.inr (Or.inr ⟨rfl, rfl⟩))) ?_) | (refine And.intro (Or.inr (Or.inr (Or.inl ⟨rfl, rfl, trivial⟩))) ?_) | exact ⟨(by show (_ : Nat) < 1000000000; omega), rfl, rfl⟩ | rfl | (refine And.intro (Or.inl ?_) ?_) | (refine And.intro ?_ ?_)))⟩
    · have : x = 48 := u48.2 (by omega)
      subst this
      simp [numOK, hxi]; omega
    · rw [hxi] at h4; have := h4.1; injection this with this; subst this; exact h3 rfl
  · intro _ ⟨h1, h2, h3⟩
    refine Walks.loopA (X := Nat × Int) (fun (z : Nat × Int) => [(4, .iv (.int .i64) z.2)]) (fun (z : Nat × Int) => [(26, .sit s z.1)]) (fun (z : Nat × Int) => z.1 ≤ s.length ∧ (s.take z.1).all dig = true ∧ z.2 = (valS (s.take z.1) : Nat)) (fun (z : Nat × Int) => s.length - z.1) (0, 0) ?_; intro b1 b2 hb1 hb2; simp (config := {maxSteps := 4000000}) only [go_sem, Nat.reduceBEq, ↓reduceIte, ↓reduceDIte, Nat.reduceAdd, Nat.reduceSub, Nat.reduceMul, Nat.reduceLeDiff, ← Bool.decide_and, ← Bool.decide_or, ← decide_not, Int.reduceLT, Int.reduceLE, Int.reduceToNat, Int.reduceNeg] at hb1 hb2; subst hb1; subst hb2; refine ⟨(by refine ⟨?_, ?_, rfl, rfl⟩ <;> repeat' (first | exact trivial | (refine And.intro (Or.inl rfl) ?_) | (refine And.intro (Or.inr (Or.inl rfl)) ?_) | (refine And.intro (Or.inr (Or.inr (Or.inr ⟨rfl, rfl⟩))) ?_) | (refine And.intro (Or.inr (Or.inr (Or.inl ⟨rfl, rfl, trivial⟩))) ?_) | exact ⟨(by show (_ : Nat) < 1000000000; omega), rfl, rfl⟩ | rfl | (refine And.intro (Or.inl ?_) ?_) | (refine And.intro ?_ ?_))), ?_, ?_⟩
    · exact ⟨Nat.zero_le _, rfl, rfl⟩
    intro ⟨i, v⟩ ⟨hi, hb, hv⟩ back
    dsimp only at hi hb hv
    refine PW_sound env_ok ⟨_, fn_63, rfl⟩ 2000 _ _ (by kernel_rfl) ?_; simp only [go_sem, Nat.reduceBEq, ↓reduceIte, ↓reduceDIte, Nat.reduceAdd, Nat.reduceSub, Nat.reduceMul, Nat.reduceLeDiff, ← Bool.decide_and, ← Bool.decide_or, ← decide_not, Int.reduceLT, Int.reduceLE, Int.reduceToNat, Int.reduceNeg]
    refine ⟨fun h => ?_, fun h => ?_⟩
    · obtain ⟨x, hxi⟩ : ∃ x, s[i]? = some x := get_of_lt (by omega)
      have hd := dec_at hxi
      have hno : dig x = false → ((0 : Int), false) = (numV s, numOK s) := fun hl => num_no (by rw [numOK, all_no hxi hl, Bool.and_false])
      have hv1 := valS_lt i hb
      have hv2 : (10 : Nat) ^ i ≤ 10 ^ 3 := Nat.pow_le_pow_right (by decide) (by omega)
      have hv3 := valS_step hxi
      split at hd
      · rw [hd]
        dsimp only
        refine ⟨fun h1 => ⟨fun h2 => hno (by simp [dig]; omega), fun h2 => ⟨i64_ok (by omega) (by omega), ⟨by omega, by omega⟩, i64_ok (by omega) (by omega), back _ (i + 1, 10 * v + ((x.toNat : Int) - 48)) (by refine ⟨?_, ?_, rfl, rfl⟩ <;> repeat' (first | exact trivial | (refine And.intro (Or.inl rfl) ?_) | (refine And.intro (Or.inr (Or.inl rfl)) ?_) | (refine And.intro (Or.inr (Or.inr (Or.inr ⟨rfl, rfl⟩))) ?_) | (refine And.intro (Or.inr (Or.inr (Or.inl ⟨rfl, rfl, trivial⟩))) ?_) | exact ⟨(by show (_ : Nat) < 1000000000; omega), rfl, rfl⟩ | rfl | (refine And.intro (Or.inl ?_) ?_) | (refine And.intro ?_ ?_))) ⟨by dsimp only; omega, ?_, by dsimp only; omega⟩ (by dsimp only; omega)⟩⟩, fun h1 => hno (by simp [dig]; omega)⟩
        dsimp only
        rw [all_step hxi, hb]
        simp [dig]; omega
      · exact ⟨fun h1 => ⟨fun h2 => hno (by simp [dig]; omega), fun h2 => by omega⟩, fun h1 => hno (by simp [dig]; omega)⟩
    · rw [List.take_of_length_le (by omega)] at hb hv
      have hok : numOK s = true := by simp only [numOK, hb, Bool.and_true, decide_eq_true_eq]; exact ⟨h1, h2, h3⟩
      simp [numV, hok, hv]
def numRV (s : Str) : Int := if s ≠ [] ∧ s.all dig = true then ((min (valS s) 10000 : Nat) : Int) else -1
theorem c_numberR (s : Str) : PC env 54 [⟨.str, s⟩] (.int .i64) (numRV s) := by
  refine PC.of_PW (m := 2000) env_ok fn_54 rfl rfl rfl rfl (by kernel_rfl) ?_; intro hx; simp only [Tryd.f54]; simp only [go_sem, Nat.reduceBEq, ↓reduceIte, ↓reduceDIte, Nat.reduceAdd, Nat.reduceSub, Nat.reduceMul, Nat.reduceLeDiff, ← Bool.decide_and, ← Bool.decide_or, ← decide_not, Int.reduceLT, Int.reduceLE, Int.reduceToNat, Int.reduceNeg]
  have hlen : s.length ≤ 9223372036854775807 := hx.1
  refine Walks.loopA (X := Nat × Int) (fun (z : Nat × Int) => [(4, .iv (.int .i64) (z.1 : Int)), (3, .iv (.int .i64) z.2)]) (fun (z : Nat × Int) => []) (fun (z : Nat × Int) => z.1 ≤ s.length ∧ (s.take z.1).all dig = true ∧ z.2 = (min (valS (s.take z.1)) 10000 : Nat)) (fun (z : Nat × Int) => s.length - z.1) (0, 0) ?_; intro b1 b2 hb1 hb2; simp (config := {maxSteps := 4000000}) only [go_sem, Nat.reduceBEq, ↓reduceIte, ↓reduceDIte, Nat.reduceAdd, Nat.reduceSub, Nat.reduceMul, Nat.reduceLeDiff, ← Bool.decide_and, ← Bool.decide_or, ← decide_not, Int.reduceLT, Int.reduceLE, Int.reduceToNat, Int.reduceNeg] at hb1 hb2; subst hb1; subst hb2; refine ⟨(by refine ⟨?_, ?_, rfl, rfl⟩ <;> repeat' (first | exact trivial | (refine And.intro (Or.inl rfl) ?_) | (refine And.intro (Or.inr (Or.inl rfl)) ?_) | (refine And.intro (Or.inr (Or.inr (Or.inr ⟨rfl, rfl⟩))) ?_) | (refine And.intro (Or.inr (Or.inr (Or.inl ⟨rfl, rfl, trivial⟩))) ?_) | exact ⟨(by show (_ : Nat) < 1000000000; omega), rfl, rfl⟩ | rfl | (refine And.intro (Or.inl ?_) ?_) | (refine And.intro ?_ ?_))), ?_, ?_⟩
  · exact ⟨Nat.zero_le _, rfl, rfl⟩
  intro ⟨i, v⟩ ⟨hi, hb, hv⟩ back
  dsimp only at hi hb hv
  refine PW_sound env_ok ⟨_, fn_54, rfl⟩ 2000 _ _ (by kernel_rfl) ?_; simp only [go_sem, Nat.reduceBEq, ↓reduceIte, ↓reduceDIte, Nat.reduceAdd, Nat.reduceSub, Nat.reduceMul, Nat.reduceLeDiff, ← Bool.decide_and, ← Bool.decide_or, ← decide_not, Int.reduceLT, Int.reduceLE, Int.reduceToNat, Int.reduceNeg]
  refine ⟨fun h => ?_, fun h => ?_⟩
  · obtain ⟨x, hxi⟩ : ∃ x, s[i]? = some x := get_of_lt (by omega)
    have hno : dig x = false → (-1 : Int) = numRV s := fun hl => by unfold numRV; rw [if_neg]; rw [all_no hxi hl]; simp
    have hv3 := valS_step hxi
    have hx255 : x.toNat < 256 := x.toNat_lt
    refine ⟨Int.natCast_nonneg _, _, ⟨x, hxi, rfl⟩, fun h1 => ⟨Int.natCast_nonneg _, _, ⟨x, hxi, rfl⟩, fun h2 => hno (by simp [dig]; omega), fun h2 => ⟨i64_ok (by omega) (by omega), Int.natCast_nonneg _, _, ⟨x, hxi, rfl⟩, u8_ok (by omega) (by omega), i64_ok (by omega) (by omega), i64_ok (by omega) (by omega), back _ (i + 1, min (10 * v + ((x.toNat : Int) - 48)) 10000) (by refine ⟨?_, ?_, rfl, rfl⟩ <;> repeat' (first | exact trivial | (refine And.intro (Or.inl rfl) ?_) | (refine And.intro (Or.inr (Or.inl rfl)) ?_) | (refine And.intro (Or.inr (Or.inr (Or.inr ⟨rfl, rfl⟩))) ?_) | (refine And.intro (Or.inr (Or.inr (Or.inl ⟨rfl, rfl, trivial⟩))) ?_) | exact ⟨(by show (_ : Nat) < 1000000000; omega), rfl, rfl⟩ | rfl | (refine And.intro (Or.inl ?_) ?_) | (refine And.intro ?_ ?_))) ⟨by dsimp only; omega, ?_, by dsimp only; omega⟩ (by dsimp only; omega)⟩⟩, fun h1 => hno (by simp [dig]; omega)⟩
    dsimp only
    rw [all_step hxi, hb]
    simp [dig]; omega
  · rw [List.take_of_length_le (by omega)] at hb hv
    refine ⟨fun h1 => ?_, fun h1 => ?_⟩
    · have h1 : s = [] := h1
      subst h1; rfl
    · have h1 : s ≠ [] := h1
      unfold numRV; rw [if_pos ⟨h1, hb⟩]; exact hv
abbrev Ev := Int × Str × List (Int × Int) × Str × Int × Int
def partK (k : Int) (s : Str) : Bool := if k = 1 then decide (s.length = 1) && s.all low else if k = 2 then decide (2 ≤ s.length ∧ s.length ≤ 4) && s.all low && incS s else decide (s = [])
def partP (k : Int) (p : List (Int × Int)) : Bool := if k = 3 then decide (p.length = 1) && p.all cooP else if k = 4 then decide (2 ≤ p.length ∧ p.length ≤ 12) && p.all cooP else decide (p = [])
def partT (k : Int) (s : Str) : Bool := if k = 5 then decide (1 ≤ s.length ∧ s.length ≤ 20) && s.all low else decide (s = [])
def partN (k n l : Int) : Bool := if k = 9 then decide (0 ≤ n ∧ n ≤ 39 ∧ 1 ≤ l ∧ l ≤ 40) else if k = 10 then decide (0 ≤ n ∧ n ≤ 49 ∧ l = 0) else decide (n = 0 ∧ l = 0)
def validE (e : Ev) : Bool := decide (1 ≤ e.1 ∧ e.1 ≤ 12) && partK e.1 e.2.1 && partP e.1 e.2.2.1 && partT e.1 e.2.2.2.1 && partN e.1 e.2.2.2.2.1 e.2.2.2.2.2
end Go.Proofs.YtopelldocfbhkaaDoor
namespace Go.Proofs.YtopelldocfbhkaaDoor
set_option maxHeartbeats 4000000
set_option maxRecDepth 100000
--SET+ Int.reduceEq, not_true_eq_false, not_false_eq_true, false_implies
theorem str0 : bytesOf { data := #[] } = ([] : Str) := rfl
theorem len0 {α : Type} {l : List α} : ((l.length : Nat) : Int) = 0 ↔ l = [] := by rw [Int.natCast_eq_zero]; exact List.length_eq_zero_iff
theorem c_Valid1 (keys : Str) (p : List (Int × Int)) (t : Str) (n l : Int) : PC env 17 [⟨EventT, (1, keys, p, t, n, l)⟩] .bool (validE (1, keys, p, t, n, l)) := by
  refine PC.of_PW (m := 2000) env_ok fn_17 rfl rfl rfl rfl (by kernel_rfl) ?_; intro hx; simp only [Tryd.f17]; simp only [go_sem, Nat.reduceBEq, ↓reduceIte, ↓reduceDIte, Nat.reduceAdd, Nat.reduceSub, Nat.reduceMul, Nat.reduceLeDiff, ← Bool.decide_and, ← Bool.decide_or, ← decide_not, Int.reduceLT, Int.reduceLE, Int.reduceToNat, Int.reduceNeg, Int.reduceEq, not_true_eq_false, not_false_eq_true, false_implies]
  clear hx
  repeat' (first | (with_reducible intro _) | (with_reducible apply And.intro) | (with_reducible refine ⟨_, (c_letters _).dec, ?_⟩; try simp only [go_sem, Nat.reduceBEq, ↓reduceIte, ↓reduceDIte, Nat.reduceAdd, Nat.reduceSub, Nat.reduceMul, Nat.reduceLeDiff, ← Bool.decide_and, ← Bool.decide_or, ← decide_not, Int.reduceLT, Int.reduceLE, Int.reduceToNat, Int.reduceNeg, Int.reduceEq, not_true_eq_false, not_false_eq_true, false_implies]) | (with_reducible refine ⟨_, (c_increasing _).dec, ?_⟩; try simp only [go_sem, Nat.reduceBEq, ↓reduceIte, ↓reduceDIte, Nat.reduceAdd, Nat.reduceSub, Nat.reduceMul, Nat.reduceLeDiff, ← Bool.decide_and, ← Bool.decide_or, ← decide_not, Int.reduceLT, Int.reduceLE, Int.reduceToNat, Int.reduceNeg, Int.reduceEq, not_true_eq_false, not_false_eq_true, false_implies]) | (with_reducible refine ⟨_, (c_coord _).dec, ?_⟩; try simp only [go_sem, Nat.reduceBEq, ↓reduceIte, ↓reduceDIte, Nat.reduceAdd, Nat.reduceSub, Nat.reduceMul, Nat.reduceLeDiff, ← Bool.decide_and, ← Bool.decide_or, ← decide_not, Int.reduceLT, Int.reduceLE, Int.reduceToNat, Int.reduceNeg, Int.reduceEq, not_true_eq_false, not_false_eq_true, false_implies]) | fail)
  all_goals (try simp only [str0, len0] at *) <;> first | (simp_all [validE, partK, partP, partT, partN, -List.all_eq_true, -List.all_eq_false]; done) | (simp_all [validE, partK, partP, partT, partN, -List.all_eq_true, -List.all_eq_false]; first | omega | (intros; omega) | (intros; simp_all; done) | (intros; simp_all; omega))
theorem c_ValidR1 (keys : Str) (p : List (Int × Int)) (t : Str) (n l : Int) : PC env 18 [⟨EventT, (1, keys, p, t, n, l)⟩] .bool (validE (1, keys, p, t, n, l)) := by
  refine PC.of_PW (m := 2000) env_ok fn_18 rfl rfl rfl rfl (by kernel_rfl) ?_; intro hx; simp only [Tryd.f18]; simp only [go_sem, Nat.reduceBEq, ↓reduceIte, ↓reduceDIte, Nat.reduceAdd, Nat.reduceSub, Nat.reduceMul, Nat.reduceLeDiff, ← Bool.decide_and, ← Bool.decide_or, ← decide_not, Int.reduceLT, Int.reduceLE, Int.reduceToNat, Int.reduceNeg, Int.reduceEq, not_true_eq_false, not_false_eq_true, false_implies]
  clear hx
  repeat' (first | (with_reducible intro _) | (with_reducible apply And.intro) | (with_reducible refine ⟨_, (c_Letters _).dec, ?_⟩; try simp only [go_sem, Nat.reduceBEq, ↓reduceIte, ↓reduceDIte, Nat.reduceAdd, Nat.reduceSub, Nat.reduceMul, Nat.reduceLeDiff, ← Bool.decide_and, ← Bool.decide_or, ← decide_not, Int.reduceLT, Int.reduceLE, Int.reduceToNat, Int.reduceNeg, Int.reduceEq, not_true_eq_false, not_false_eq_true, false_implies]) | (with_reducible refine ⟨_, (c_rising _).dec, ?_⟩; try simp only [go_sem, Nat.reduceBEq, ↓reduceIte, ↓reduceDIte, Nat.reduceAdd, Nat.reduceSub, Nat.reduceMul, Nat.reduceLeDiff, ← Bool.decide_and, ← Bool.decide_or, ← decide_not, Int.reduceLT, Int.reduceLE, Int.reduceToNat, Int.reduceNeg, Int.reduceEq, not_true_eq_false, not_false_eq_true, false_implies]) | (with_reducible refine ⟨_, (c_points _ _ _).dec, ?_⟩; try simp only [go_sem, Nat.reduceBEq, ↓reduceIte, ↓reduceDIte, Nat.reduceAdd, Nat.reduceSub, Nat.reduceMul, Nat.reduceLeDiff, ← Bool.decide_and, ← Bool.decide_or, ← decide_not, Int.reduceLT, Int.reduceLE, Int.reduceToNat, Int.reduceNeg, Int.reduceEq, not_true_eq_false, not_false_eq_true, false_implies]) | (with_reducible refine ⟨_, (c_In _ _ _).dec, ?_⟩; try simp only [go_sem, Nat.reduceBEq, ↓reduceIte, ↓reduceDIte, Nat.reduceAdd, Nat.reduceSub, Nat.reduceMul, Nat.reduceLeDiff, ← Bool.decide_and, ← Bool.decide_or, ← decide_not, Int.reduceLT, Int.reduceLE, Int.reduceToNat, Int.reduceNeg, Int.reduceEq, not_true_eq_false, not_false_eq_true, false_implies]) | fail)
  all_goals (try simp only [str0, len0] at *) <;> first | (simp_all [validE, partK, partP, partT, partN, inB, -List.all_eq_true, -List.all_eq_false]; done) | (simp_all [validE, partK, partP, partT, partN, inB, -List.all_eq_true, -List.all_eq_false]; first | omega | (intros; omega) | (intros; simp_all; done) | (intros; simp_all; omega))
theorem c_Valid2 (keys : Str) (p : List (Int × Int)) (t : Str) (n l : Int) : PC env 17 [⟨EventT, (2, keys, p, t, n, l)⟩] .bool (validE (2, keys, p, t, n, l)) := by
  refine PC.of_PW (m := 2000) env_ok fn_17 rfl rfl rfl rfl (by kernel_rfl) ?_; intro hx; simp only [Tryd.f17]; simp only [go_sem, Nat.reduceBEq, ↓reduceIte, ↓reduceDIte, Nat.reduceAdd, Nat.reduceSub, Nat.reduceMul, Nat.reduceLeDiff, ← Bool.decide_and, ← Bool.decide_or, ← decide_not, Int.reduceLT, Int.reduceLE, Int.reduceToNat, Int.reduceNeg, Int.reduceEq, not_true_eq_false, not_false_eq_true, false_implies]
  clear hx
  repeat' (first | (with_reducible intro _) | (with_reducible apply And.intro) | (with_reducible refine ⟨_, (c_letters _).dec, ?_⟩; try simp only [go_sem, Nat.reduceBEq, ↓reduceIte, ↓reduceDIte, Nat.reduceAdd, Nat.reduceSub, Nat.reduceMul, Nat.reduceLeDiff, ← Bool.decide_and, ← Bool.decide_or, ← decide_not, Int.reduceLT, Int.reduceLE, Int.reduceToNat, Int.reduceNeg, Int.reduceEq, not_true_eq_false, not_false_eq_true, false_implies]) | (with_reducible refine ⟨_, (c_increasing _).dec, ?_⟩; try simp only [go_sem, Nat.reduceBEq, ↓reduceIte, ↓reduceDIte, Nat.reduceAdd, Nat.reduceSub, Nat.reduceMul, Nat.reduceLeDiff, ← Bool.decide_and, ← Bool.decide_or, ← decide_not, Int.reduceLT, Int.reduceLE, Int.reduceToNat, Int.reduceNeg, Int.reduceEq, not_true_eq_false, not_false_eq_true, false_implies]) | (with_reducible refine ⟨_, (c_coord _).dec, ?_⟩; try simp only [go_sem, Nat.reduceBEq, ↓reduceIte, ↓reduceDIte, Nat.reduceAdd, Nat.reduceSub, Nat.reduceMul, Nat.reduceLeDiff, ← Bool.decide_and, ← Bool.decide_or, ← decide_not, Int.reduceLT, Int.reduceLE, Int.reduceToNat, Int.reduceNeg, Int.reduceEq, not_true_eq_false, not_false_eq_true, false_implies]) | fail)
  all_goals (try simp only [str0, len0] at *) <;> first | (simp_all [validE, partK, partP, partT, partN, -List.all_eq_true, -List.all_eq_false]; done) | (simp_all [validE, partK, partP, partT, partN, -List.all_eq_true, -List.all_eq_false]; first | omega | (intros; omega) | (intros; simp_all; done) | (intros; simp_all; omega))
theorem c_ValidR2 (keys : Str) (p : List (Int × Int)) (t : Str) (n l : Int) : PC env 18 [⟨EventT, (2, keys, p, t, n, l)⟩] .bool (validE (2, keys, p, t, n, l)) := by
  refine PC.of_PW (m := 2000) env_ok fn_18 rfl rfl rfl rfl (by kernel_rfl) ?_; intro hx; simp only [Tryd.f18]; simp only [go_sem, Nat.reduceBEq, ↓reduceIte, ↓reduceDIte, Nat.reduceAdd, Nat.reduceSub, Nat.reduceMul, Nat.reduceLeDiff, ← Bool.decide_and, ← Bool.decide_or, ← decide_not, Int.reduceLT, Int.reduceLE, Int.reduceToNat, Int.reduceNeg, Int.reduceEq, not_true_eq_false, not_false_eq_true, false_implies]
  clear hx
  repeat' (first | (with_reducible intro _) | (with_reducible apply And.intro) | (with_reducible refine ⟨_, (c_Letters _).dec, ?_⟩; try simp only [go_sem, Nat.reduceBEq, ↓reduceIte, ↓reduceDIte, Nat.reduceAdd, Nat.reduceSub, Nat.reduceMul, Nat.reduceLeDiff, ← Bool.decide_and, ← Bool.decide_or, ← decide_not, Int.reduceLT, Int.reduceLE, Int.reduceToNat, Int.reduceNeg, Int.reduceEq, not_true_eq_false, not_false_eq_true, false_implies]) | (with_reducible refine ⟨_, (c_rising _).dec, ?_⟩; try simp only [go_sem, Nat.reduceBEq, ↓reduceIte, ↓reduceDIte, Nat.reduceAdd, Nat.reduceSub, Nat.reduceMul, Nat.reduceLeDiff, ← Bool.decide_and, ← Bool.decide_or, ← decide_not, Int.reduceLT, Int.reduceLE, Int.reduceToNat, Int.reduceNeg, Int.reduceEq, not_true_eq_false, not_false_eq_true, false_implies]) | (with_reducible refine ⟨_, (c_points _ _ _).dec, ?_⟩; try simp only [go_sem, Nat.reduceBEq, ↓reduceIte, ↓reduceDIte, Nat.reduceAdd, Nat.reduceSub, Nat.reduceMul, Nat.reduceLeDiff, ← Bool.decide_and, ← Bool.decide_or, ← decide_not, Int.reduceLT, Int.reduceLE, Int.reduceToNat, Int.reduceNeg, Int.reduceEq, not_true_eq_false, not_false_eq_true, false_implies]) | (with_reducible refine ⟨_, (c_In _ _ _).dec, ?_⟩; try simp only [go_sem, Nat.reduceBEq, ↓reduceIte, ↓reduceDIte, Nat.reduceAdd, Nat.reduceSub, Nat.reduceMul, Nat.reduceLeDiff, ← Bool.decide_and, ← Bool.decide_or, ← decide_not, Int.reduceLT, Int.reduceLE, Int.reduceToNat, Int.reduceNeg, Int.reduceEq, not_true_eq_false, not_false_eq_true, false_implies]) | fail)
  all_goals (try simp only [str0, len0] at *) <;> first | (simp_all [validE, partK, partP, partT, partN, inB, -List.all_eq_true, -List.all_eq_false]; done) | (simp_all [validE, partK, partP, partT, partN, inB, -List.all_eq_true, -List.all_eq_false]; first | omega | (intros; omega) | (intros; simp_all; done) | (intros; simp_all; omega))
theorem c_Valid3 (keys : Str) (p : List (Int × Int)) (t : Str) (n l : Int) : PC env 17 [⟨EventT, (3, keys, p, t, n, l)⟩] .bool (validE (3, keys, p, t, n, l)) := by
  refine PC.of_PW (m := 2000) env_ok fn_17 rfl rfl rfl rfl (by kernel_rfl) ?_; intro hx; simp only [Tryd.f17]; simp only [go_sem, Nat.reduceBEq, ↓reduceIte, ↓reduceDIte, Nat.reduceAdd, Nat.reduceSub, Nat.reduceMul, Nat.reduceLeDiff, ← Bool.decide_and, ← Bool.decide_or, ← decide_not, Int.reduceLT, Int.reduceLE, Int.reduceToNat, Int.reduceNeg, Int.reduceEq, not_true_eq_false, not_false_eq_true, false_implies]
  clear hx
  repeat' (first | (with_reducible intro _) | (with_reducible apply And.intro) | (with_reducible refine ⟨_, (c_letters _).dec, ?_⟩; try simp only [go_sem, Nat.reduceBEq, ↓reduceIte, ↓reduceDIte, Nat.reduceAdd, Nat.reduceSub, Nat.reduceMul, Nat.reduceLeDiff, ← Bool.decide_and, ← Bool.decide_or, ← decide_not, Int.reduceLT, Int.reduceLE, Int.reduceToNat, Int.reduceNeg, Int.reduceEq, not_true_eq_false, not_false_eq_true, false_implies]) | (with_reducible refine ⟨_, (c_increasing _).dec, ?_⟩; try simp only [go_sem, Nat.reduceBEq, ↓reduceIte, ↓reduceDIte, Nat.reduceAdd, Nat.reduceSub, Nat.reduceMul, Nat.reduceLeDiff, ← Bool.decide_and, ← Bool.decide_or, ← decide_not, Int.reduceLT, Int.reduceLE, Int.reduceToNat, Int.reduceNeg, Int.reduceEq, not_true_eq_false, not_false_eq_true, false_implies]) | (with_reducible refine ⟨_, (c_coord _).dec, ?_⟩; try simp only [go_sem, Nat.reduceBEq, ↓reduceIte, ↓reduceDIte, Nat.reduceAdd, Nat.reduceSub, Nat.reduceMul, Nat.reduceLeDiff, ← Bool.decide_and, ← Bool.decide_or, ← decide_not, Int.reduceLT, Int.reduceLE, Int.reduceToNat, Int.reduceNeg, Int.reduceEq, not_true_eq_false, not_false_eq_true, false_implies]) | fail)
  all_goals (try simp only [str0, len0] at *) <;> first | (simp_all [validE, partK, partP, partT, partN, -List.all_eq_true, -List.all_eq_false]; done) | (simp_all [validE, partK, partP, partT, partN, -List.all_eq_true, -List.all_eq_false]; first | omega | (intros; omega) | (intros; simp_all; done) | (intros; simp_all; omega))
theorem c_ValidR3 (keys : Str) (p : List (Int × Int)) (t : Str) (n l : Int) : PC env 18 [⟨EventT, (3, keys, p, t, n, l)⟩] .bool (validE (3, keys, p, t, n, l)) := by
  refine PC.of_PW (m := 2000) env_ok fn_18 rfl rfl rfl rfl (by kernel_rfl) ?_; intro hx; simp only [Tryd.f18]; simp only [go_sem, Nat.reduceBEq, ↓reduceIte, ↓reduceDIte, Nat.reduceAdd, Nat.reduceSub, Nat.reduceMul, Nat.reduceLeDiff, ← Bool.decide_and, ← Bool.decide_or, ← decide_not, Int.reduceLT, Int.reduceLE, Int.reduceToNat, Int.reduceNeg, Int.reduceEq, not_true_eq_false, not_false_eq_true, false_implies]
  clear hx
  repeat' (first | (with_reducible intro _) | (with_reducible apply And.intro) | (with_reducible refine ⟨_, (c_Letters _).dec, ?_⟩; try simp only [go_sem, Nat.reduceBEq, ↓reduceIte, ↓reduceDIte, Nat.reduceAdd, Nat.reduceSub, Nat.reduceMul, Nat.reduceLeDiff, ← Bool.decide_and, ← Bool.decide_or, ← decide_not, Int.reduceLT, Int.reduceLE, Int.reduceToNat, Int.reduceNeg, Int.reduceEq, not_true_eq_false, not_false_eq_true, false_implies]) | (with_reducible refine ⟨_, (c_rising _).dec, ?_⟩; try simp only [go_sem, Nat.reduceBEq, ↓reduceIte, ↓reduceDIte, Nat.reduceAdd, Nat.reduceSub, Nat.reduceMul, Nat.reduceLeDiff, ← Bool.decide_and, ← Bool.decide_or, ← decide_not, Int.reduceLT, Int.reduceLE, Int.reduceToNat, Int.reduceNeg, Int.reduceEq, not_true_eq_false, not_false_eq_true, false_implies]) | (with_reducible refine ⟨_, (c_points _ _ _).dec, ?_⟩; try simp only [go_sem, Nat.reduceBEq, ↓reduceIte, ↓reduceDIte, Nat.reduceAdd, Nat.reduceSub, Nat.reduceMul, Nat.reduceLeDiff, ← Bool.decide_and, ← Bool.decide_or, ← decide_not, Int.reduceLT, Int.reduceLE, Int.reduceToNat, Int.reduceNeg, Int.reduceEq, not_true_eq_false, not_false_eq_true, false_implies]) | (with_reducible refine ⟨_, (c_In _ _ _).dec, ?_⟩; try simp only [go_sem, Nat.reduceBEq, ↓reduceIte, ↓reduceDIte, Nat.reduceAdd, Nat.reduceSub, Nat.reduceMul, Nat.reduceLeDiff, ← Bool.decide_and, ← Bool.decide_or, ← decide_not, Int.reduceLT, Int.reduceLE, Int.reduceToNat, Int.reduceNeg, Int.reduceEq, not_true_eq_false, not_false_eq_true, false_implies]) | fail)
  all_goals (try simp only [str0, len0] at *) <;> first | (simp_all [validE, partK, partP, partT, partN, inB, -List.all_eq_true, -List.all_eq_false]; done) | (simp_all [validE, partK, partP, partT, partN, inB, -List.all_eq_true, -List.all_eq_false]; first | omega | (intros; omega) | (intros; simp_all; done) | (intros; simp_all; omega))
theorem c_Valid4 (keys : Str) (p : List (Int × Int)) (t : Str) (n l : Int) : PC env 17 [⟨EventT, (4, keys, p, t, n, l)⟩] .bool (validE (4, keys, p, t, n, l)) := by
  refine PC.of_PW (m := 2000) env_ok fn_17 rfl rfl rfl rfl (by kernel_rfl) ?_; intro hx; simp only [Tryd.f17]; simp only [go_sem, Nat.reduceBEq, ↓reduceIte, ↓reduceDIte, Nat.reduceAdd, Nat.reduceSub, Nat.reduceMul, Nat.reduceLeDiff, ← Bool.decide_and, ← Bool.decide_or, ← decide_not, Int.reduceLT, Int.reduceLE, Int.reduceToNat, Int.reduceNeg, Int.reduceEq, not_true_eq_false, not_false_eq_true, false_implies]
  clear hx
  repeat' (first | (with_reducible intro _) | (with_reducible apply And.intro) | (with_reducible refine ⟨_, (c_letters _).dec, ?_⟩; try simp only [go_sem, Nat.reduceBEq, ↓reduceIte, ↓reduceDIte, Nat.reduceAdd, Nat.reduceSub, Nat.reduceMul, Nat.reduceLeDiff, ← Bool.decide_and, ← Bool.decide_or, ← decide_not, Int.reduceLT, Int.reduceLE, Int.reduceToNat, Int.reduceNeg, Int.reduceEq, not_true_eq_false, not_false_eq_true, false_implies]) | (with_reducible refine ⟨_, (c_increasing _).dec, ?_⟩; try simp only [go_sem, Nat.reduceBEq, ↓reduceIte, ↓reduceDIte, Nat.reduceAdd, Nat.reduceSub, Nat.reduceMul, Nat.reduceLeDiff, ← Bool.decide_and, ← Bool.decide_or, ← decide_not, Int.reduceLT, Int.reduceLE, Int.reduceToNat, Int.reduceNeg, Int.reduceEq, not_true_eq_false, not_false_eq_true, false_implies]) | (with_reducible refine ⟨_, (c_coord _).dec, ?_⟩; try simp only [go_sem, Nat.reduceBEq, ↓reduceIte, ↓reduceDIte, Nat.reduceAdd, Nat.reduceSub, Nat.reduceMul, Nat.reduceLeDiff, ← Bool.decide_and, ← Bool.decide_or, ← decide_not, Int.reduceLT, Int.reduceLE, Int.reduceToNat, Int.reduceNeg, Int.reduceEq, not_true_eq_false, not_false_eq_true, false_implies]) | fail)
  all_goals (try simp only [str0, len0] at *) <;> first | (simp_all [validE, partK, partP, partT, partN, -List.all_eq_true, -List.all_eq_false]; done) | (simp_all [validE, partK, partP, partT, partN, -List.all_eq_true, -List.all_eq_false]; first | omega | (intros; omega) | (intros; simp_all; done) | (intros; simp_all; omega))
theorem c_ValidR4 (keys : Str) (p : List (Int × Int)) (t : Str) (n l : Int) : PC env 18 [⟨EventT, (4, keys, p, t, n, l)⟩] .bool (validE (4, keys, p, t, n, l)) := by
  refine PC.of_PW (m := 2000) env_ok fn_18 rfl rfl rfl rfl (by kernel_rfl) ?_; intro hx; simp only [Tryd.f18]; simp only [go_sem, Nat.reduceBEq, ↓reduceIte, ↓reduceDIte, Nat.reduceAdd, Nat.reduceSub, Nat.reduceMul, Nat.reduceLeDiff, ← Bool.decide_and, ← Bool.decide_or, ← decide_not, Int.reduceLT, Int.reduceLE, Int.reduceToNat, Int.reduceNeg, Int.reduceEq, not_true_eq_false, not_false_eq_true, false_implies]
  clear hx
  repeat' (first | (with_reducible intro _) | (with_reducible apply And.intro) | (with_reducible refine ⟨_, (c_Letters _).dec, ?_⟩; try simp only [go_sem, Nat.reduceBEq, ↓reduceIte, ↓reduceDIte, Nat.reduceAdd, Nat.reduceSub, Nat.reduceMul, Nat.reduceLeDiff, ← Bool.decide_and, ← Bool.decide_or, ← decide_not, Int.reduceLT, Int.reduceLE, Int.reduceToNat, Int.reduceNeg, Int.reduceEq, not_true_eq_false, not_false_eq_true, false_implies]) | (with_reducible refine ⟨_, (c_rising _).dec, ?_⟩; try simp only [go_sem, Nat.reduceBEq, ↓reduceIte, ↓reduceDIte, Nat.reduceAdd, Nat.reduceSub, Nat.reduceMul, Nat.reduceLeDiff, ← Bool.decide_and, ← Bool.decide_or, ← decide_not, Int.reduceLT, Int.reduceLE, Int.reduceToNat, Int.reduceNeg, Int.reduceEq, not_true_eq_false, not_false_eq_true, false_implies]) | (with_reducible refine ⟨_, (c_points _ _ _).dec, ?_⟩; try simp only [go_sem, Nat.reduceBEq, ↓reduceIte, ↓reduceDIte, Nat.reduceAdd, Nat.reduceSub, Nat.reduceMul, Nat.reduceLeDiff, ← Bool.decide_and, ← Bool.decide_or, ← decide_not, Int.reduceLT, Int.reduceLE, Int.reduceToNat, Int.reduceNeg, Int.reduceEq, not_true_eq_false, not_false_eq_true, false_implies]) | (with_reducible refine ⟨_, (c_In _ _ _).dec, ?_⟩; try simp only [go_sem, Nat.reduceBEq, ↓reduceIte, ↓reduceDIte, Nat.reduceAdd, Nat.reduceSub, Nat.reduceMul, Nat.reduceLeDiff, ← Bool.decide_and, ← Bool.decide_or, ← decide_not, Int.reduceLT, Int.reduceLE, Int.reduceToNat, Int.reduceNeg, Int.reduceEq, not_true_eq_false, not_false_eq_true, false_implies]) | fail)
  all_goals (try simp only [str0, len0] at *) <;> first | (simp_all [validE, partK, partP, partT, partN, inB, -List.all_eq_true, -List.all_eq_false]; done) | (simp_all [validE, partK, partP, partT, partN, inB, -List.all_eq_true, -List.all_eq_false]; first | omega | (intros; omega) | (intros; simp_all; done) | (intros; simp_all; omega))
theorem c_Valid5 (keys : Str) (p : List (Int × Int)) (t : Str) (n l : Int) : PC env 17 [⟨EventT, (5, keys, p, t, n, l)⟩] .bool (validE (5, keys, p, t, n, l)) := by
  refine PC.of_PW (m := 2000) env_ok fn_17 rfl rfl rfl rfl (by kernel_rfl) ?_; intro hx; simp only [Tryd.f17]; simp only [go_sem, Nat.reduceBEq, ↓reduceIte, ↓reduceDIte, Nat.reduceAdd, Nat.reduceSub, Nat.reduceMul, Nat.reduceLeDiff, ← Bool.decide_and, ← Bool.decide_or, ← decide_not, Int.reduceLT, Int.reduceLE, Int.reduceToNat, Int.reduceNeg, Int.reduceEq, not_true_eq_false, not_false_eq_true, false_implies]
  clear hx
  repeat' (first | (with_reducible intro _) | (with_reducible apply And.intro) | (with_reducible refine ⟨_, (c_letters _).dec, ?_⟩; try simp only [go_sem, Nat.reduceBEq, ↓reduceIte, ↓reduceDIte, Nat.reduceAdd, Nat.reduceSub, Nat.reduceMul, Nat.reduceLeDiff, ← Bool.decide_and, ← Bool.decide_or, ← decide_not, Int.reduceLT, Int.reduceLE, Int.reduceToNat, Int.reduceNeg, Int.reduceEq, not_true_eq_false, not_false_eq_true, false_implies]) | (with_reducible refine ⟨_, (c_increasing _).dec, ?_⟩; try simp only [go_sem, Nat.reduceBEq, ↓reduceIte, ↓reduceDIte, Nat.reduceAdd, Nat.reduceSub, Nat.reduceMul, Nat.reduceLeDiff, ← Bool.decide_and, ← Bool.decide_or, ← decide_not, Int.reduceLT, Int.reduceLE, Int.reduceToNat, Int.reduceNeg, Int.reduceEq, not_true_eq_false, not_false_eq_true, false_implies]) | (with_reducible refine ⟨_, (c_coord _).dec, ?_⟩; try simp only [go_sem, Nat.reduceBEq, ↓reduceIte, ↓reduceDIte, Nat.reduceAdd, Nat.reduceSub, Nat.reduceMul, Nat.reduceLeDiff, ← Bool.decide_and, ← Bool.decide_or, ← decide_not, Int.reduceLT, Int.reduceLE, Int.reduceToNat, Int.reduceNeg, Int.reduceEq, not_true_eq_false, not_false_eq_true, false_implies]) | fail)
  all_goals (try simp only [str0, len0] at *) <;> first | (simp_all [validE, partK, partP, partT, partN, -List.all_eq_true, -List.all_eq_false]; done) | (simp_all [validE, partK, partP, partT, partN, -List.all_eq_true, -List.all_eq_false]; first | omega | (intros; omega) | (intros; simp_all; done) | (intros; simp_all; omega))
theorem c_ValidR5 (keys : Str) (p : List (Int × Int)) (t : Str) (n l : Int) : PC env 18 [⟨EventT, (5, keys, p, t, n, l)⟩] .bool (validE (5, keys, p, t, n, l)) := by
  refine PC.of_PW (m := 2000) env_ok fn_18 rfl rfl rfl rfl (by kernel_rfl) ?_; intro hx; simp only [Tryd.f18]; simp only [go_sem, Nat.reduceBEq, ↓reduceIte, ↓reduceDIte, Nat.reduceAdd, Nat.reduceSub, Nat.reduceMul, Nat.reduceLeDiff, ← Bool.decide_and, ← Bool.decide_or, ← decide_not, Int.reduceLT, Int.reduceLE, Int.reduceToNat, Int.reduceNeg, Int.reduceEq, not_true_eq_false, not_false_eq_true, false_implies]
  clear hx
  repeat' (first | (with_reducible intro _) | (with_reducible apply And.intro) | (with_reducible refine ⟨_, (c_Letters _).dec, ?_⟩; try simp only [go_sem, Nat.reduceBEq, ↓reduceIte, ↓reduceDIte, Nat.reduceAdd, Nat.reduceSub, Nat.reduceMul, Nat.reduceLeDiff, ← Bool.decide_and, ← Bool.decide_or, ← decide_not, Int.reduceLT, Int.reduceLE, Int.reduceToNat, Int.reduceNeg, Int.reduceEq, not_true_eq_false, not_false_eq_true, false_implies]) | (with_reducible refine ⟨_, (c_rising _).dec, ?_⟩; try simp only [go_sem, Nat.reduceBEq, ↓reduceIte, ↓reduceDIte, Nat.reduceAdd, Nat.reduceSub, Nat.reduceMul, Nat.reduceLeDiff, ← Bool.decide_and, ← Bool.decide_or, ← decide_not, Int.reduceLT, Int.reduceLE, Int.reduceToNat, Int.reduceNeg, Int.reduceEq, not_true_eq_false, not_false_eq_true, false_implies]) | (with_reducible refine ⟨_, (c_points _ _ _).dec, ?_⟩; try simp only [go_sem, Nat.reduceBEq, ↓reduceIte, ↓reduceDIte, Nat.reduceAdd, Nat.reduceSub, Nat.reduceMul, Nat.reduceLeDiff, ← Bool.decide_and, ← Bool.decide_or, ← decide_not, Int.reduceLT, Int.reduceLE, Int.reduceToNat, Int.reduceNeg, Int.reduceEq, not_true_eq_false, not_false_eq_true, false_implies]) | (with_reducible refine ⟨_, (c_In _ _ _).dec, ?_⟩; try simp only [go_sem, Nat.reduceBEq, ↓reduceIte, ↓reduceDIte, Nat.reduceAdd, Nat.reduceSub, Nat.reduceMul, Nat.reduceLeDiff, ← Bool.decide_and, ← Bool.decide_or, ← decide_not, Int.reduceLT, Int.reduceLE, Int.reduceToNat, Int.reduceNeg, Int.reduceEq, not_true_eq_false, not_false_eq_true, false_implies]) | fail)
  all_goals (try simp only [str0, len0] at *) <;> first | (simp_all [validE, partK, partP, partT, partN, inB, -List.all_eq_true, -List.all_eq_false]; done) | (simp_all [validE, partK, partP, partT, partN, inB, -List.all_eq_true, -List.all_eq_false]; first | omega | (intros; omega) | (intros; simp_all; done) | (intros; simp_all; omega))
theorem c_Valid6 (keys : Str) (p : List (Int × Int)) (t : Str) (n l : Int) : PC env 17 [⟨EventT, (6, keys, p, t, n, l)⟩] .bool (validE (6, keys, p, t, n, l)) := by
  refine PC.of_PW (m := 2000) env_ok fn_17 rfl rfl rfl rfl (by kernel_rfl) ?_; intro hx; simp only [Tryd.f17]; simp only [go_sem, Nat.reduceBEq, ↓reduceIte, ↓reduceDIte, Nat.reduceAdd, Nat.reduceSub, Nat.reduceMul, Nat.reduceLeDiff, ← Bool.decide_and, ← Bool.decide_or, ← decide_not, Int.reduceLT, Int.reduceLE, Int.reduceToNat, Int.reduceNeg, Int.reduceEq, not_true_eq_false, not_false_eq_true, false_implies]
  clear hx
  repeat' (first | (with_reducible intro _) | (with_reducible apply And.intro) | (with_reducible refine ⟨_, (c_letters _).dec, ?_⟩; try simp only [go_sem, Nat.reduceBEq, ↓reduceIte, ↓reduceDIte, Nat.reduceAdd, Nat.reduceSub, Nat.reduceMul, Nat.reduceLeDiff, ← Bool.decide_and, ← Bool.decide_or, ← decide_not, Int.reduceLT, Int.reduceLE, Int.reduceToNat, Int.reduceNeg, Int.reduceEq, not_true_eq_false, not_false_eq_true, false_implies]) | (with_reducible refine ⟨_, (c_increasing _).dec, ?_⟩; try simp only [go_sem, Nat.reduceBEq, ↓reduceIte, ↓reduceDIte, Nat.reduceAdd, Nat.reduceSub, Nat.reduceMul, Nat.reduceLeDiff, ← Bool.decide_and, ← Bool.decide_or, ← decide_not, Int.reduceLT, Int.reduceLE, Int.reduceToNat, Int.reduceNeg, Int.reduceEq, not_true_eq_false, not_false_eq_true, false_implies]) | (with_reducible refine ⟨_, (c_coord _).dec, ?_⟩; try simp only [go_sem, Nat.reduceBEq, ↓reduceIte, ↓reduceDIte, Nat.reduceAdd, Nat.reduceSub, Nat.reduceMul, Nat.reduceLeDiff, ← Bool.decide_and, ← Bool.decide_or, ← decide_not, Int.reduceLT, Int.reduceLE, Int.reduceToNat, Int.reduceNeg, Int.reduceEq, not_true_eq_false, not_false_eq_true, false_implies]) | fail)
  all_goals (try simp only [str0, len0] at *) <;> first | (simp_all [validE, partK, partP, partT, partN, -List.all_eq_true, -List.all_eq_false]; done) | (simp_all [validE, partK, partP, partT, partN, -List.all_eq_true, -List.all_eq_false]; first | omega | (intros; omega) | (intros; simp_all; done) | (intros; simp_all; omega))
theorem c_ValidR6 (keys : Str) (p : List (Int × Int)) (t : Str) (n l : Int) : PC env 18 [⟨EventT, (6, keys, p, t, n, l)⟩] .bool (validE (6, keys, p, t, n, l)) := by
  refine PC.of_PW (m := 2000) env_ok fn_18 rfl rfl rfl rfl (by kernel_rfl) ?_; intro hx; simp only [Tryd.f18]; simp only [go_sem, Nat.reduceBEq, ↓reduceIte, ↓reduceDIte, Nat.reduceAdd, Nat.reduceSub, Nat.reduceMul, Nat.reduceLeDiff, ← Bool.decide_and, ← Bool.decide_or, ← decide_not, Int.reduceLT, Int.reduceLE, Int.reduceToNat, Int.reduceNeg, Int.reduceEq, not_true_eq_false, not_false_eq_true, false_implies]
  clear hx
  repeat' (first | (with_reducible intro _) | (with_reducible apply And.intro) | (with_reducible refine ⟨_, (c_Letters _).dec, ?_⟩; try simp only [go_sem, Nat.reduceBEq, ↓reduceIte, ↓reduceDIte, Nat.reduceAdd, Nat.reduceSub, Nat.reduceMul, Nat.reduceLeDiff, ← Bool.decide_and, ← Bool.decide_or, ← decide_not, Int.reduceLT, Int.reduceLE, Int.reduceToNat, Int.reduceNeg, Int.reduceEq, not_true_eq_false, not_false_eq_true, false_implies]) | (with_reducible refine ⟨_, (c_rising _).dec, ?_⟩; try simp only [go_sem, Nat.reduceBEq, ↓reduceIte, ↓reduceDIte, Nat.reduceAdd, Nat.reduceSub, Nat.reduceMul, Nat.reduceLeDiff, ← Bool.decide_and, ← Bool.decide_or, ← decide_not, Int.reduceLT, Int.reduceLE, Int.reduceToNat, Int.reduceNeg, Int.reduceEq, not_true_eq_false, not_false_eq_true, false_implies]) | (with_reducible refine ⟨_, (c_points _ _ _).dec, ?_⟩; try simp only [go_sem, Nat.reduceBEq, ↓reduceIte, ↓reduceDIte, Nat.reduceAdd, Nat.reduceSub, Nat.reduceMul, Nat.reduceLeDiff, ← Bool.decide_and, ← Bool.decide_or, ← decide_not, Int.reduceLT, Int.reduceLE, Int.reduceToNat, Int.reduceNeg, Int.reduceEq, not_true_eq_false, not_false_eq_true, false_implies]) | (with_reducible refine ⟨_, (c_In _ _ _).dec, ?_⟩; try simp only [go_sem, Nat.reduceBEq, ↓reduceIte, ↓reduceDIte, Nat.reduceAdd, Nat.reduceSub, Nat.reduceMul, Nat.reduceLeDiff, ← Bool.decide_and, ← Bool.decide_or, ← decide_not, Int.reduceLT, Int.reduceLE, Int.reduceToNat, Int.reduceNeg, Int.reduceEq, not_true_eq_false, not_false_eq_true, false_implies]) | fail)
  all_goals (try simp only [str0, len0] at *) <;> first | (simp_all [validE, partK, partP, partT, partN, inB, -List.all_eq_true, -List.all_eq_false]; done) | (simp_all [validE, partK, partP, partT, partN, inB, -List.all_eq_true, -List.all_eq_false]; first | omega | (intros; omega) | (intros; simp_all; done) | (intros; simp_all; omega))
theorem c_Valid7 (keys : Str) (p : List (Int × Int)) (t : Str) (n l : Int) : PC env 17 [⟨EventT, (7, keys, p, t, n, l)⟩] .bool (validE (7, keys, p, t, n, l)) := by
  refine PC.of_PW (m := 2000) env_ok fn_17 rfl rfl rfl rfl (by kernel_rfl) ?_; intro hx; simp only [Tryd.f17]; simp only [go_sem, Nat.reduceBEq, ↓reduceIte, ↓reduceDIte, Nat.reduceAdd, Nat.reduceSub, Nat.reduceMul, Nat.reduceLeDiff, ← Bool.decide_and, ← Bool.decide_or, ← decide_not, Int.reduceLT, Int.reduceLE, Int.reduceToNat, Int.reduceNeg, Int.reduceEq, not_true_eq_false, not_false_eq_true, false_implies]
  clear hx
  repeat' (first | (with_reducible intro _) | (with_reducible apply And.intro) | (with_reducible refine ⟨_, (c_letters _).dec, ?_⟩; try simp only [go_sem, Nat.reduceBEq, ↓reduceIte, ↓reduceDIte, Nat.reduceAdd, Nat.reduceSub, Nat.reduceMul, Nat.reduceLeDiff, ← Bool.decide_and, ← Bool.decide_or, ← decide_not, Int.reduceLT, Int.reduceLE, Int.reduceToNat, Int.reduceNeg, Int.reduceEq, not_true_eq_false, not_false_eq_true, false_implies]) | (with_reducible refine ⟨_, (c_increasing _).dec, ?_⟩; try simp only [go_sem, Nat.reduceBEq, ↓reduceIte, ↓reduceDIte, Nat.reduceAdd, Nat.reduceSub, Nat.reduceMul, Nat.reduceLeDiff, ← Bool.decide_and, ← Bool.decide_or, ← decide_not, Int.reduceLT, Int.reduceLE, Int.reduceToNat, Int.reduceNeg, Int.reduceEq, not_true_eq_false, not_false_eq_true, false_implies]) | (with_reducible refine ⟨_, (c_coord _).dec, ?_⟩; try simp only [go_sem, Nat.reduceBEq, ↓reduceIte, ↓reduceDIte, Nat.reduceAdd, Nat.reduceSub, Nat.reduceMul, Nat.reduceLeDiff, ← Bool.decide_and, ← Bool.decide_or, ← decide_not, Int.reduceLT, Int.reduceLE, Int.reduceToNat, Int.reduceNeg, Int.reduceEq, not_true_eq_false, not_false_eq_true, false_implies]) | fail)
  all_goals (try simp only [str0, len0] at *) <;> first | (simp_all [validE, partK, partP, partT, partN, -List.all_eq_true, -List.all_eq_false]; done) | (simp_all [validE, partK, partP, partT, partN, -List.all_eq_true, -List.all_eq_false]; first | omega | (intros; omega) | (intros; simp_all; done) | (intros; simp_all; omega))
theorem c_ValidR7 (keys : Str) (p : List (Int × Int)) (t : Str) (n l : Int) : PC env 18 [⟨EventT, (7, keys, p, t, n, l)⟩] .bool (validE (7, keys, p, t, n, l)) := by
  refine PC.of_PW (m := 2000) env_ok fn_18 rfl rfl rfl rfl (by kernel_rfl) ?_; intro hx; simp only [Tryd.f18]; simp only [go_sem, Nat.reduceBEq, ↓reduceIte, ↓reduceDIte, Nat.reduceAdd, Nat.reduceSub, Nat.reduceMul, Nat.reduceLeDiff, ← Bool.decide_and, ← Bool.decide_or, ← decide_not, Int.reduceLT, Int.reduceLE, Int.reduceToNat, Int.reduceNeg, Int.reduceEq, not_true_eq_false, not_false_eq_true, false_implies]
  clear hx
  repeat' (first | (with_reducible intro _) | (with_reducible apply And.intro) | (with_reducible refine ⟨_, (c_Letters _).dec, ?_⟩; try simp only [go_sem, Nat.reduceBEq, ↓reduceIte, ↓reduceDIte, Nat.reduceAdd, Nat.reduceSub, Nat.reduceMul, Nat.reduceLeDiff, ← Bool.decide_and, ← Bool.decide_or, ← decide_not, Int.reduceLT, Int.reduceLE, Int.reduceToNat, Int.reduceNeg, Int.reduceEq, not_true_eq_false, not_false_eq_true, false_implies]) | (with_reducible refine ⟨_, (c_rising _).dec, ?_⟩; try simp only [go_sem, Nat.reduceBEq, ↓reduceIte, ↓reduceDIte, Nat.reduceAdd, Nat.reduceSub, Nat.reduceMul, Nat.reduceLeDiff, ← Bool.decide_and, ← Bool.decide_or, ← decide_not, Int.reduceLT, Int.reduceLE, Int.reduceToNat, Int.reduceNeg, Int.reduceEq, not_true_eq_false, not_false_eq_true, false_implies]) | (with_reducible refine ⟨_, (c_points _ _ _).dec, ?_⟩; try simp only [go_sem, Nat.reduceBEq, ↓reduceIte, ↓reduceDIte, Nat.reduceAdd, Nat.reduceSub, Nat.reduceMul, Nat.reduceLeDiff, ← Bool.decide_and, ← Bool.decide_or, ← decide_not, Int.reduceLT, Int.reduceLE, Int.reduceToNat, Int.reduceNeg, Int.reduceEq, not_true_eq_false, not_false_eq_true, false_implies]) | (with_reducible refine ⟨_, (c_In _ _ _).dec, ?_⟩; try simp only [go_sem, Nat.reduceBEq, ↓reduceIte, ↓reduceDIte, Nat.reduceAdd, Nat.reduceSub, Nat.reduceMul, Nat.reduceLeDiff, ← Bool.decide_and, ← Bool.decide_or, ← decide_not, Int.reduceLT, Int.reduceLE, Int.reduceToNat, Int.reduceNeg, Int.reduceEq, not_true_eq_false, not_false_eq_true, false_implies]) | fail)
  all_goals (try simp only [str0, len0] at *) <;> first | (simp_all [validE, partK, partP, partT, partN, inB, -List.all_eq_true, -List.all_eq_false]; done) | (simp_all [validE, partK, partP, partT, partN, inB, -List.all_eq_true, -List.all_eq_false]; first | omega | (intros; omega) | (intros; simp_all; done) | (intros; simp_all; omega))
theorem c_Valid8 (keys : Str) (p : List (Int × Int)) (t : Str) (n l : Int) : PC env 17 [⟨EventT, (8, keys, p, t, n, l)⟩] .bool (validE (8, keys, p, t, n, l)) := by
  refine PC.of_PW (m := 2000) env_ok fn_17 rfl rfl rfl rfl (by kernel_rfl) ?_; intro hx; simp only [Tryd.f17]; simp only [go_sem, Nat.reduceBEq, ↓reduceIte, ↓reduceDIte, Nat.reduceAdd, Nat.reduceSub, Nat.reduceMul, Nat.reduceLeDiff, ← Bool.decide_and, ← Bool.decide_or, ← decide_not, Int.reduceLT, Int.reduceLE, Int.reduceToNat, Int.reduceNeg, Int.reduceEq, not_true_eq_false, not_false_eq_true, false_implies]
  clear hx
  repeat' (first | (with_reducible intro _) | (with_reducible apply And.intro) | (with_reducible refine ⟨_, (c_letters _).dec, ?_⟩; try simp only [go_sem, Nat.reduceBEq, ↓reduceIte, ↓reduceDIte, Nat.reduceAdd, Nat.reduceSub, Nat.reduceMul, Nat.reduceLeDiff, ← Bool.decide_and, ← Bool.decide_or, ← decide_not, Int.reduceLT, Int.reduceLE, Int.reduceToNat, Int.reduceNeg, Int.reduceEq, not_true_eq_false, not_false_eq_true, false_implies]) | (with_reducible refine ⟨_, (c_increasing _).dec, ?_⟩; try simp only [go_sem, Nat.reduceBEq, ↓reduceIte, ↓reduceDIte, Nat.reduceAdd, Nat.reduceSub, Nat.reduceMul, Nat.reduceLeDiff, ← Bool.decide_and, ← Bool.decide_or, ← decide_not, Int.reduceLT, Int.reduceLE, Int.reduceToNat, Int.reduceNeg, Int.reduceEq, not_true_eq_false, not_false_eq_true, false_implies]) | (with_reducible refine ⟨_, (c_coord _).dec, ?_⟩; try simp only [go_sem, Nat.reduceBEq, ↓reduceIte, ↓reduceDIte, Nat.reduceAdd, Nat.reduceSub, Nat.reduceMul, Nat.reduceLeDiff, ← Bool.decide_and, ← Bool.decide_or, ← decide_not, Int.reduceLT, Int.reduceLE, Int.reduceToNat, Int.reduceNeg, Int.reduceEq, not_true_eq_false, not_false_eq_true, false_implies]) | fail)
  all_goals (try simp only [str0, len0] at *) <;> first | (simp_all [validE, partK, partP, partT, partN, -List.all_eq_true, -List.all_eq_false]; done) | (simp_all [validE, partK, partP, partT, partN, -List.all_eq_true, -List.all_eq_false]; first | omega | (intros; omega) | (intros; simp_all; done) | (intros; simp_all; omega))
theorem c_ValidR8 (keys : Str) (p : List (Int × Int)) (t : Str) (n l : Int) : PC env 18 [⟨EventT, (8, keys, p, t, n, l)⟩] .bool (validE (8, keys, p, t, n, l)) := by
  refine PC.of_PW (m := 2000) env_ok fn_18 rfl rfl rfl rfl (by kernel_rfl) ?_; intro hx; simp only [Tryd.f18]; simp only [go_sem, Nat.reduceBEq, ↓reduceIte, ↓reduceDIte, Nat.reduceAdd, Nat.reduceSub, Nat.reduceMul, Nat.reduceLeDiff, ← Bool.decide_and, ← Bool.decide_or, ← decide_not, Int.reduceLT, Int.reduceLE, Int.reduceToNat, Int.reduceNeg, Int.reduceEq, not_true_eq_false, not_false_eq_true, false_implies]
  clear hx
  repeat' (first | (with_reducible intro _) | (with_reducible apply And.intro) | (with_reducible refine ⟨_, (c_Letters _).dec, ?_⟩; try simp only [go_sem, Nat.reduceBEq, ↓reduceIte, ↓reduceDIte, Nat.reduceAdd, Nat.reduceSub, Nat.reduceMul, Nat.reduceLeDiff, ← Bool.decide_and, ← Bool.decide_or, ← decide_not, Int.reduceLT, Int.reduceLE, Int.reduceToNat, Int.reduceNeg, Int.reduceEq, not_true_eq_false, not_false_eq_true, false_implies]) | (with_reducible refine ⟨_, (c_rising _).dec, ?_⟩; try simp only [go_sem, Nat.reduceBEq, ↓reduceIte, ↓reduceDIte, Nat.reduceAdd, Nat.reduceSub, Nat.reduceMul, Nat.reduceLeDiff, ← Bool.decide_and, ← Bool.decide_or, ← decide_not, Int.reduceLT, Int.reduceLE, Int.reduceToNat, Int.reduceNeg, Int.reduceEq, not_true_eq_false, not_false_eq_true, false_implies]) | (with_reducible refine ⟨_, (c_points _ _ _).dec, ?_⟩; try simp only [go_sem, Nat.reduceBEq, ↓reduceIte, ↓reduceDIte, Nat.reduceAdd, Nat.reduceSub, Nat.reduceMul, Nat.reduceLeDiff, ← Bool.decide_and, ← Bool.decide_or, ← decide_not, Int.reduceLT, Int.reduceLE, Int.reduceToNat, Int.reduceNeg, Int.reduceEq, not_true_eq_false, not_false_eq_true, false_implies]) | (with_reducible refine ⟨_, (c_In _ _ _).dec, ?_⟩; try simp only [go_sem, Nat.reduceBEq, ↓reduceIte, ↓reduceDIte, Nat.reduceAdd, Nat.reduceSub, Nat.reduceMul, Nat.reduceLeDiff, ← Bool.decide_and, ← Bool.decide_or, ← decide_not, Int.reduceLT, Int.reduceLE, Int.reduceToNat, Int.reduceNeg, Int.reduceEq, not_true_eq_false, not_false_eq_true, false_implies]) | fail)
  all_goals (try simp only [str0, len0] at *) <;> first | (simp_all [validE, partK, partP, partT, partN, inB, -List.all_eq_true, -List.all_eq_false]; done) | (simp_all [validE, partK, partP, partT, partN, inB, -List.all_eq_true, -List.all_eq_false]; first | omega | (intros; omega) | (intros; simp_all; done) | (intros; simp_all; omega))
theorem c_Valid9 (keys : Str) (p : List (Int × Int)) (t : Str) (n l : Int) : PC env 17 [⟨EventT, (9, keys, p, t, n, l)⟩] .bool (validE (9, keys, p, t, n, l)) := by
  refine PC.of_PW (m := 2000) env_ok fn_17 rfl rfl rfl rfl (by kernel_rfl) ?_; intro hx; simp only [Tryd.f17]; simp only [go_sem, Nat.reduceBEq, ↓reduceIte, ↓reduceDIte, Nat.reduceAdd, Nat.reduceSub, Nat.reduceMul, Nat.reduceLeDiff, ← Bool.decide_and, ← Bool.decide_or, ← decide_not, Int.reduceLT, Int.reduceLE, Int.reduceToNat, Int.reduceNeg, Int.reduceEq, not_true_eq_false, not_false_eq_true, false_implies]
  clear hx
  repeat' (first | (with_reducible intro _) | (with_reducible apply And.intro) | (with_reducible refine ⟨_, (c_letters _).dec, ?_⟩; try simp only [go_sem, Nat.reduceBEq, ↓reduceIte, ↓reduceDIte, Nat.reduceAdd, Nat.reduceSub, Nat.reduceMul, Nat.reduceLeDiff, ← Bool.decide_and, ← Bool.decide_or, ← decide_not, Int.reduceLT, Int.reduceLE, Int.reduceToNat, Int.reduceNeg, Int.reduceEq, not_true_eq_false, not_false_eq_true, false_implies]) | (with_reducible refine ⟨_, (c_increasing _).dec, ?_⟩; try simp only [go_sem, Nat.reduceBEq, ↓reduceIte, ↓reduceDIte, Nat.reduceAdd, Nat.reduceSub, Nat.reduceMul, Nat.reduceLeDiff, ← Bool.decide_and, ← Bool.decide_or, ← decide_not, Int.reduceLT, Int.reduceLE, Int.reduceToNat, Int.reduceNeg, Int.reduceEq, not_true_eq_false, not_false_eq_true, false_implies]) | (with_reducible refine ⟨_, (c_coord _).dec, ?_⟩; try simp only [go_sem, Nat.reduceBEq, ↓reduceIte, ↓reduceDIte, Nat.reduceAdd, Nat.reduceSub, Nat.reduceMul, Nat.reduceLeDiff, ← Bool.decide_and, ← Bool.decide_or, ← decide_not, Int.reduceLT, Int.reduceLE, Int.reduceToNat, Int.reduceNeg, Int.reduceEq, not_true_eq_false, not_false_eq_true, false_implies]) | fail)
  all_goals (try simp only [str0, len0] at *) <;> first | (simp_all [validE, partK, partP, partT, partN, -List.all_eq_true, -List.all_eq_false]; done) | (simp_all [validE, partK, partP, partT, partN, -List.all_eq_true, -List.all_eq_false]; first | omega | (intros; omega) | (intros; simp_all; done) | (intros; simp_all; omega))
theorem c_ValidR9 (keys : Str) (p : List (Int × Int)) (t : Str) (n l : Int) : PC env 18 [⟨EventT, (9, keys, p, t, n, l)⟩] .bool (validE (9, keys, p, t, n, l)) := by
  refine PC.of_PW (m := 2000) env_ok fn_18 rfl rfl rfl rfl (by kernel_rfl) ?_; intro hx; simp only [Tryd.f18]; simp only [go_sem, Nat.reduceBEq, ↓reduceIte, ↓reduceDIte, Nat.reduceAdd, Nat.reduceSub, Nat.reduceMul, Nat.reduceLeDiff, ← Bool.decide_and, ← Bool.decide_or, ← decide_not, Int.reduceLT, Int.reduceLE, Int.reduceToNat, Int.reduceNeg, Int.reduceEq, not_true_eq_false, not_false_eq_true, false_implies]
  clear hx
  repeat' (first | (with_reducible intro _) | (with_reducible apply And.intro) | (with_reducible refine ⟨_, (c_Letters _).dec, ?_⟩; try simp only [go_sem, Nat.reduceBEq, ↓reduceIte, ↓reduceDIte, Nat.reduceAdd, Nat.reduceSub, Nat.reduceMul, Nat.reduceLeDiff, ← Bool.decide_and, ← Bool.decide_or, ← decide_not, Int.reduceLT, Int.reduceLE, Int.reduceToNat, Int.reduceNeg, Int.reduceEq, not_true_eq_false, not_false_eq_true, false_implies]) | (with_reducible refine ⟨_, (c_rising _).dec, ?_⟩; try simp only [go_sem, Nat.reduceBEq, ↓reduceIte, ↓reduceDIte, Nat.reduceAdd, Nat.reduceSub, Nat.reduceMul, Nat.reduceLeDiff, ← Bool.decide_and, ← Bool.decide_or, ← decide_not, Int.reduceLT, Int.reduceLE, Int.reduceToNat, Int.reduceNeg, Int.reduceEq, not_true_eq_false, not_false_eq_true, false_implies]) | (with_reducible refine ⟨_, (c_points _ _ _).dec, ?_⟩; try simp only [go_sem, Nat.reduceBEq, ↓reduceIte, ↓reduceDIte, Nat.reduceAdd, Nat.reduceSub, Nat.reduceMul, Nat.reduceLeDiff, ← Bool.decide_and, ← Bool.decide_or, ← decide_not, Int.reduceLT, Int.reduceLE, Int.reduceToNat, Int.reduceNeg, Int.reduceEq, not_true_eq_false, not_false_eq_true, false_implies]) | (with_reducible refine ⟨_, (c_In _ _ _).dec, ?_⟩; try simp only [go_sem, Nat.reduceBEq, ↓reduceIte, ↓reduceDIte, Nat.reduceAdd, Nat.reduceSub, Nat.reduceMul, Nat.reduceLeDiff, ← Bool.decide_and, ← Bool.decide_or, ← decide_not, Int.reduceLT, Int.reduceLE, Int.reduceToNat, Int.reduceNeg, Int.reduceEq, not_true_eq_false, not_false_eq_true, false_implies]) | fail)
  all_goals (try simp only [str0, len0] at *) <;> first | (simp_all [validE, partK, partP, partT, partN, inB, -List.all_eq_true, -List.all_eq_false]; done) | (simp_all [validE, partK, partP, partT, partN, inB, -List.all_eq_true, -List.all_eq_false]; first | omega | (intros; omega) | (intros; simp_all; done) | (intros; simp_all; omega))
theorem c_Valid10 (keys : Str) (p : List (Int × Int)) (t : Str) (n l : Int) : PC env 17 [⟨EventT, (10, keys, p, t, n, l)⟩] .bool (validE (10, keys, p, t, n, l)) := by
  refine PC.of_PW (m := 2000) env_ok fn_17 rfl rfl rfl rfl (by kernel_rfl) ?_; intro hx; simp only [Tryd.f17]; simp only [go_sem, Nat.reduceBEq, ↓reduceIte, ↓reduceDIte, Nat.reduceAdd, Nat.reduceSub, Nat.reduceMul, Nat.reduceLeDiff, ← Bool.decide_and, ← Bool.decide_or, ← decide_not, Int.reduceLT, Int.reduceLE, Int.reduceToNat, Int.reduceNeg, Int.reduceEq, not_true_eq_false, not_false_eq_true, false_implies]
  clear hx
  repeat' (first | (with_reducible intro _) | (with_reducible apply And.intro) | (with_reducible refine ⟨_, (c_letters _).dec, ?_⟩; try simp only [go_sem, Nat.reduceBEq, ↓reduceIte, ↓reduceDIte, Nat.reduceAdd, Nat.reduceSub, Nat.reduceMul, Nat.reduceLeDiff, ← Bool.decide_and, ← Bool.decide_or, ← decide_not, Int.reduceLT, Int.reduceLE, Int.reduceToNat, Int.reduceNeg, Int.reduceEq, not_true_eq_false, not_false_eq_true, false_implies]) | (with_reducible refine ⟨_, (c_increasing _).dec, ?_⟩; try simp only [go_sem, Nat.reduceBEq, ↓reduceIte, ↓reduceDIte, Nat.reduceAdd, Nat.reduceSub, Nat.reduceMul, Nat.reduceLeDiff, ← Bool.decide_and, ← Bool.decide_or, ← decide_not, Int.reduceLT, Int.reduceLE, Int.reduceToNat, Int.reduceNeg, Int.reduceEq, not_true_eq_false, not_false_eq_true, false_implies]) | (with_reducible refine ⟨_, (c_coord _).dec, ?_⟩; try simp only [go_sem, Nat.reduceBEq, ↓reduceIte, ↓reduceDIte, Nat.reduceAdd, Nat.reduceSub, Nat.reduceMul, Nat.reduceLeDiff, ← Bool.decide_and, ← Bool.decide_or, ← decide_not, Int.reduceLT, Int.reduceLE, Int.reduceToNat, Int.reduceNeg, Int.reduceEq, not_true_eq_false, not_false_eq_true, false_implies]) | fail)
  all_goals (try simp only [str0, len0] at *) <;> first | (simp_all [validE, partK, partP, partT, partN, -List.all_eq_true, -List.all_eq_false]; done) | (simp_all [validE, partK, partP, partT, partN, -List.all_eq_true, -List.all_eq_false]; first | omega | (intros; omega) | (intros; simp_all; done) | (intros; simp_all; omega))
theorem c_ValidR10 (keys : Str) (p : List (Int × Int)) (t : Str) (n l : Int) : PC env 18 [⟨EventT, (10, keys, p, t, n, l)⟩] .bool (validE (10, keys, p, t, n, l)) := by
  refine PC.of_PW (m := 2000) env_ok fn_18 rfl rfl rfl rfl (by kernel_rfl) ?_; intro hx; simp only [Tryd.f18]; simp only [go_sem, Nat.reduceBEq, ↓reduceIte, ↓reduceDIte, Nat.reduceAdd, Nat.reduceSub, Nat.reduceMul, Nat.reduceLeDiff, ← Bool.decide_and, ← Bool.decide_or, ← decide_not, Int.reduceLT, Int.reduceLE, Int.reduceToNat, Int.reduceNeg, Int.reduceEq, not_true_eq_false, not_false_eq_true, false_implies]
  clear hx
  repeat' (first | (with_reducible intro _) | (with_reducible apply And.intro) | (with_reducible refine ⟨_, (c_Letters _).dec, ?_⟩; try simp only [go_sem, Nat.reduceBEq, ↓reduceIte, ↓reduceDIte, Nat.reduceAdd, Nat.reduceSub, Nat.reduceMul, Nat.reduceLeDiff, ← Bool.decide_and, ← Bool.decide_or, ← decide_not, Int.reduceLT, Int.reduceLE, Int.reduceToNat, Int.reduceNeg, Int.reduceEq, not_true_eq_false, not_false_eq_true, false_implies]) | (with_reducible refine ⟨_, (c_rising _).dec, ?_⟩; try simp only [go_sem, Nat.reduceBEq, ↓reduceIte, ↓reduceDIte, Nat.reduceAdd, Nat.reduceSub, Nat.reduceMul, Nat.reduceLeDiff, ← Bool.decide_and, ← Bool.decide_or, ← decide_not, Int.reduceLT, Int.reduceLE, Int.reduceToNat, Int.reduceNeg, Int.reduceEq, not_true_eq_false, not_false_eq_true, false_implies]) | (with_reducible refine ⟨_, (c_points _ _ _).dec, ?_⟩; try simp only [go_sem, Nat.reduceBEq, ↓reduceIte, ↓reduceDIte, Nat.reduceAdd, Nat.reduceSub, Nat.reduceMul, Nat.reduceLeDiff, ← Bool.decide_and, ← Bool.decide_or, ← decide_not, Int.reduceLT, Int.reduceLE, Int.reduceToNat, Int.reduceNeg, Int.reduceEq, not_true_eq_false, not_false_eq_true, false_implies]) | (with_reducible refine ⟨_, (c_In _ _ _).dec, ?_⟩; try simp only [go_sem, Nat.reduceBEq, ↓reduceIte, ↓reduceDIte, Nat.reduceAdd, Nat.reduceSub, Nat.reduceMul, Nat.reduceLeDiff, ← Bool.decide_and, ← Bool.decide_or, ← decide_not, Int.reduceLT, Int.reduceLE, Int.reduceToNat, Int.reduceNeg, Int.reduceEq, not_true_eq_false, not_false_eq_true, false_implies]) | fail)
  all_goals (try simp only [str0, len0] at *) <;> first | (simp_all [validE, partK, partP, partT, partN, inB, -List.all_eq_true, -List.all_eq_false]; done) | (simp_all [validE, partK, partP, partT, partN, inB, -List.all_eq_true, -List.all_eq_false]; first | omega | (intros; omega) | (intros; simp_all; done) | (intros; simp_all; omega))
theorem c_Valid11 (keys : Str) (p : List (Int × Int)) (t : Str) (n l : Int) : PC env 17 [⟨EventT, (11, keys, p, t, n, l)⟩] .bool (validE (11, keys, p, t, n, l)) := by
  refine PC.of_PW (m := 2000) env_ok fn_17 rfl rfl rfl rfl (by kernel_rfl) ?_; intro hx; simp only [Tryd.f17]; simp only [go_sem, Nat.reduceBEq, ↓reduceIte, ↓reduceDIte, Nat.reduceAdd, Nat.reduceSub, Nat.reduceMul, Nat.reduceLeDiff, ← Bool.decide_and, ← Bool.decide_or, ← decide_not, Int.reduceLT, Int.reduceLE, Int.reduceToNat, Int.reduceNeg, Int.reduceEq, not_true_eq_false, not_false_eq_true, false_implies]
  clear hx
  repeat' (first | (with_reducible intro _) | (with_reducible apply And.intro) | (with_reducible refine ⟨_, (c_letters _).dec, ?_⟩; try simp only [go_sem, Nat.reduceBEq, ↓reduceIte, ↓reduceDIte, Nat.reduceAdd, Nat.reduceSub, Nat.reduceMul, Nat.reduceLeDiff, ← Bool.decide_and, ← Bool.decide_or, ← decide_not, Int.reduceLT, Int.reduceLE, Int.reduceToNat, Int.reduceNeg, Int.reduceEq, not_true_eq_false, not_false_eq_true, false_implies]) | (with_reducible refine ⟨_, (c_increasing _).dec, ?_⟩; try simp only [go_sem, Nat.reduceBEq, ↓reduceIte, ↓reduceDIte, Nat.reduceAdd, Nat.reduceSub, Nat.reduceMul, Nat.reduceLeDiff, ← Bool.decide_and, ← Bool.decide_or, ← decide_not, Int.reduceLT, Int.reduceLE, Int.reduceToNat, Int.reduceNeg, Int.reduceEq, not_true_eq_false, not_false_eq_true, false_implies]) | (with_reducible refine ⟨_, (c_coord _).dec, ?_⟩; try simp only [go_sem, Nat.reduceBEq, ↓reduceIte, ↓reduceDIte, Nat.reduceAdd, Nat.reduceSub, Nat.reduceMul, Nat.reduceLeDiff, ← Bool.decide_and, ← Bool.decide_or, ← decide_not, Int.reduceLT, Int.reduceLE, Int.reduceToNat, Int.reduceNeg, Int.reduceEq, not_true_eq_false, not_false_eq_true, false_implies]) | fail)
  all_goals (try simp only [str0, len0] at *) <;> first | (simp_all [validE, partK, partP, partT, partN, -List.all_eq_true, -List.all_eq_false]; done) | (simp_all [validE, partK, partP, partT, partN, -List.all_eq_true, -List.all_eq_false]; first | omega | (intros; omega) | (intros; simp_all; done) | (intros; simp_all; omega))
theorem c_ValidR11 (keys : Str) (p : List (Int × Int)) (t : Str) (n l : Int) : PC env 18 [⟨EventT, (11, keys, p, t, n, l)⟩] .bool (validE (11, keys, p, t, n, l)) := by
  refine PC.of_PW (m := 2000) env_ok fn_18 rfl rfl rfl rfl (by kernel_rfl) ?_; intro hx; simp only [Tryd.f18]; simp only [go_sem, Nat.reduceBEq, ↓reduceIte, ↓reduceDIte, Nat.reduceAdd, Nat.reduceSub, Nat.reduceMul, Nat.reduceLeDiff, ← Bool.decide_and, ← Bool.decide_or, ← decide_not, Int.reduceLT, Int.reduceLE, Int.reduceToNat, Int.reduceNeg, Int.reduceEq, not_true_eq_false, not_false_eq_true, false_implies]
  clear hx
  repeat' (first | (with_reducible intro _) | (with_reducible apply And.intro) | (with_reducible refine ⟨_, (c_Letters _).dec, ?_⟩; try simp only [go_sem, Nat.reduceBEq, ↓reduceIte, ↓reduceDIte, Nat.reduceAdd, Nat.reduceSub, Nat.reduceMul, Nat.reduceLeDiff, ← Bool.decide_and, ← Bool.decide_or, ← decide_not, Int.reduceLT, Int.reduceLE, Int.reduceToNat, Int.reduceNeg, Int.reduceEq, not_true_eq_false, not_false_eq_true, false_implies]) | (with_reducible refine ⟨_, (c_rising _).dec, ?_⟩; try simp only [go_sem, Nat.reduceBEq, ↓reduceIte, ↓reduceDIte, Nat.reduceAdd, Nat.reduceSub, Nat.reduceMul, Nat.reduceLeDiff, ← Bool.decide_and, ← Bool.decide_or, ← decide_not, Int.reduceLT, Int.reduceLE, Int.reduceToNat, Int.reduceNeg, Int.reduceEq, not_true_eq_false, not_false_eq_true, false_implies]) | (with_reducible refine ⟨_, (c_points _ _ _).dec, ?_⟩; try simp only [go_sem, Nat.reduceBEq, ↓reduceIte, ↓reduceDIte, Nat.reduceAdd, Nat.reduceSub, Nat.reduceMul, Nat.reduceLeDiff, ← Bool.decide_and, ← Bool.decide_or, ← decide_not, Int.reduceLT, Int.reduceLE, Int.reduceToNat, Int.reduceNeg, Int.reduceEq, not_true_eq_false, not_false_eq_true, false_implies]) | (with_reducible refine ⟨_, (c_In _ _ _).dec, ?_⟩; try simp only [go_sem, Nat.reduceBEq, ↓reduceIte, ↓reduceDIte, Nat.reduceAdd, Nat.reduceSub, Nat.reduceMul, Nat.reduceLeDiff, ← Bool.decide_and, ← Bool.decide_or, ← decide_not, Int.reduceLT, Int.reduceLE, Int.reduceToNat, Int.reduceNeg, Int.reduceEq, not_true_eq_false, not_false_eq_true, false_implies]) | fail)
  all_goals (try simp only [str0, len0] at *) <;> first | (simp_all [validE, partK, partP, partT, partN, inB, -List.all_eq_true, -List.all_eq_false]; done) | (simp_all [validE, partK, partP, partT, partN, inB, -List.all_eq_true, -List.all_eq_false]; first | omega | (intros; omega) | (intros; simp_all; done) | (intros; simp_all; omega))
theorem c_Valid12 (keys : Str) (p : List (Int × Int)) (t : Str) (n l : Int) : PC env 17 [⟨EventT, (12, keys, p, t, n, l)⟩] .bool (validE (12, keys, p, t, n, l)) := by
  refine PC.of_PW (m := 2000) env_ok fn_17 rfl rfl rfl rfl (by kernel_rfl) ?_; intro hx; simp only [Tryd.f17]; simp only [go_sem, Nat.reduceBEq, ↓reduceIte, ↓reduceDIte, Nat.reduceAdd, Nat.reduceSub, Nat.reduceMul, Nat.reduceLeDiff, ← Bool.decide_and, ← Bool.decide_or, ← decide_not, Int.reduceLT, Int.reduceLE, Int.reduceToNat, Int.reduceNeg, Int.reduceEq, not_true_eq_false, not_false_eq_true, false_implies]
  clear hx
  repeat' (first | (with_reducible intro _) | (with_reducible apply And.intro) | (with_reducible refine ⟨_, (c_letters _).dec, ?_⟩; try simp only [go_sem, Nat.reduceBEq, ↓reduceIte, ↓reduceDIte, Nat.reduceAdd, Nat.reduceSub, Nat.reduceMul, Nat.reduceLeDiff, ← Bool.decide_and, ← Bool.decide_or, ← decide_not, Int.reduceLT, Int.reduceLE, Int.reduceToNat, Int.reduceNeg, Int.reduceEq, not_true_eq_false, not_false_eq_true, false_implies]) | (with_reducible refine ⟨_, (c_increasing _).dec, ?_⟩; try simp only [go_sem, Nat.reduceBEq, ↓reduceIte, ↓reduceDIte, Nat.reduceAdd, Nat.reduceSub, Nat.reduceMul, Nat.reduceLeDiff, ← Bool.decide_and, ← Bool.decide_or, ← decide_not, Int.reduceLT, Int.reduceLE, Int.reduceToNat, Int.reduceNeg, Int.reduceEq, not_true_eq_false, not_false_eq_true, false_implies]) | (with_reducible refine ⟨_, (c_coord _).dec, ?_⟩; try simp only [go_sem, Nat.reduceBEq, ↓reduceIte, ↓reduceDIte, Nat.reduceAdd, Nat.reduceSub, Nat.reduceMul, Nat.reduceLeDiff, ← Bool.decide_and, ← Bool.decide_or, ← decide_not, Int.reduceLT, Int.reduceLE, Int.reduceToNat, Int.reduceNeg, Int.reduceEq, not_true_eq_false, not_false_eq_true, false_implies]) | fail)
  all_goals (try simp only [str0, len0] at *) <;> first | (simp_all [validE, partK, partP, partT, partN, -List.all_eq_true, -List.all_eq_false]; done) | (simp_all [validE, partK, partP, partT, partN, -List.all_eq_true, -List.all_eq_false]; first | omega | (intros; omega) | (intros; simp_all; done) | (intros; simp_all; omega))
theorem c_ValidR12 (keys : Str) (p : List (Int × Int)) (t : Str) (n l : Int) : PC env 18 [⟨EventT, (12, keys, p, t, n, l)⟩] .bool (validE (12, keys, p, t, n, l)) := by
  refine PC.of_PW (m := 2000) env_ok fn_18 rfl rfl rfl rfl (by kernel_rfl) ?_; intro hx; simp only [Tryd.f18]; simp only [go_sem, Nat.reduceBEq, ↓reduceIte, ↓reduceDIte, Nat.reduceAdd, Nat.reduceSub, Nat.reduceMul, Nat.reduceLeDiff, ← Bool.decide_and, ← Bool.decide_or, ← decide_not, Int.reduceLT, Int.reduceLE, Int.reduceToNat, Int.reduceNeg, Int.reduceEq, not_true_eq_false, not_false_eq_true, false_implies]
  clear hx
  repeat' (first | (with_reducible intro _) | (with_reducible apply And.intro) | (with_reducible refine ⟨_, (c_Letters _).dec, ?_⟩; try simp only [go_sem, Nat.reduceBEq, ↓reduceIte, ↓reduceDIte, Nat.reduceAdd, Nat.reduceSub, Nat.reduceMul, Nat.reduceLeDiff, ← Bool.decide_and, ← Bool.decide_or, ← decide_not, Int.reduceLT, Int.reduceLE, Int.reduceToNat, Int.reduceNeg, Int.reduceEq, not_true_eq_false, not_false_eq_true, false_implies]) | (with_reducible refine ⟨_, (c_rising _).dec, ?_⟩; try simp only [go_sem, Nat.reduceBEq, ↓reduceIte, ↓reduceDIte, Nat.reduceAdd, Nat.reduceSub, Nat.reduceMul, Nat.reduceLeDiff, ← Bool.decide_and, ← Bool.decide_or, ← decide_not, Int.reduceLT, Int.reduceLE, Int.reduceToNat, Int.reduceNeg, Int.reduceEq, not_true_eq_false, not_false_eq_true, false_implies]) | (with_reducible refine ⟨_, (c_points _ _ _).dec, ?_⟩; try simp only [go_sem, Nat.reduceBEq, ↓reduceIte, ↓reduceDIte, Nat.reduceAdd, Nat.reduceSub, Nat.reduceMul, Nat.reduceLeDiff, ← Bool.decide_and, ← Bool.decide_or, ← decide_not, Int.reduceLT, Int.reduceLE, Int.reduceToNat, Int.reduceNeg, Int.reduceEq, not_true_eq_false, not_false_eq_true, false_implies]) | (with_reducible refine ⟨_, (c_In _ _ _).dec, ?_⟩; try simp only [go_sem, Nat.reduceBEq, ↓reduceIte, ↓reduceDIte, Nat.reduceAdd, Nat.reduceSub, Nat.reduceMul, Nat.reduceLeDiff, ← Bool.decide_and, ← Bool.decide_or, ← decide_not, Int.reduceLT, Int.reduceLE, Int.reduceToNat, Int.reduceNeg, Int.reduceEq, not_true_eq_false, not_false_eq_true, false_implies]) | fail)
  all_goals (try simp only [str0, len0] at *) <;> first | (simp_all [validE, partK, partP, partT, partN, inB, -List.all_eq_true, -List.all_eq_false]; done) | (simp_all [validE, partK, partP, partT, partN, inB, -List.all_eq_true, -List.all_eq_false]; first | omega | (intros; omega) | (intros; simp_all; done) | (intros; simp_all; omega))
theorem c_ValidO (k : Int) (keys : Str) (p : List (Int × Int)) (t : Str) (n l : Int) (h : ¬ (1 ≤ k ∧ k ≤ 12)) : PC env 17 [⟨EventT, (k, keys, p, t, n, l)⟩] .bool (validE (k, keys, p, t, n, l)) := by
  have hv : false = validE (k, keys, p, t, n, l) := by simp [validE]; omega
  have h1 : ¬ k = 1 := by omega
  have h2 : ¬ k = 2 := by omega
  have h3 : ¬ k = 3 := by omega
  have h4 : ¬ k = 4 := by omega
  have h5 : ¬ k = 5 := by omega
  have h6 : ¬ k = 6 := by omega
  have h7 : ¬ k = 7 := by omega
  have h8 : ¬ k = 8 := by omega
  have h9 : ¬ k = 9 := by omega
  have h10 : ¬ k = 10 := by omega
  have h11 : ¬ k = 11 := by omega
  have h12 : ¬ k = 12 := by omega
  refine PC.of_PW (m := 2000) env_ok fn_17 rfl rfl rfl rfl (by kernel_rfl) ?_; intro hx; simp only [Tryd.f17]; simp only [go_sem, Nat.reduceBEq, ↓reduceIte, ↓reduceDIte, Nat.reduceAdd, Nat.reduceSub, Nat.reduceMul, Nat.reduceLeDiff, ← Bool.decide_and, ← Bool.decide_or, ← decide_not, Int.reduceLT, Int.reduceLE, Int.reduceToNat, Int.reduceNeg, Int.reduceEq, not_true_eq_false, not_false_eq_true, false_implies, h1, h2, h3, h4, h5, h6, h7, h8, h9, h10, h11, h12]
  exact hv
theorem c_ValidRO (k : Int) (keys : Str) (p : List (Int × Int)) (t : Str) (n l : Int) (h : ¬ (1 ≤ k ∧ k ≤ 12)) : PC env 18 [⟨EventT, (k, keys, p, t, n, l)⟩] .bool (validE (k, keys, p, t, n, l)) := by
  have hv : false = validE (k, keys, p, t, n, l) := by simp [validE]; omega
  have hb : inB k 1 12 = false := by simp [inB]; omega
  have c : PC env 37 [⟨.int .i64, k⟩, ⟨.int .i64, 1⟩, ⟨.int .i64, 12⟩] .bool false := hb ▸ c_In k 1 12
  have h1 : ¬ k = 1 := by omega
  have h2 : ¬ k = 2 := by omega
  have h3 : ¬ k = 3 := by omega
  have h4 : ¬ k = 4 := by omega
  have h5 : ¬ k = 5 := by omega
  have h6 : ¬ k = 6 := by omega
  have h7 : ¬ k = 7 := by omega
  have h8 : ¬ k = 8 := by omega
  have h9 : ¬ k = 9 := by omega
  have h10 : ¬ k = 10 := by omega
  have h11 : ¬ k = 11 := by omega
  have h12 : ¬ k = 12 := by omega
  refine PC.of_PW (m := 2000) env_ok fn_18 rfl rfl rfl rfl (by kernel_rfl) ?_; intro hx; simp only [Tryd.f18]; simp only [go_sem, Nat.reduceBEq, ↓reduceIte, ↓reduceDIte, Nat.reduceAdd, Nat.reduceSub, Nat.reduceMul, Nat.reduceLeDiff, ← Bool.decide_and, ← Bool.decide_or, ← decide_not, Int.reduceLT, Int.reduceLE, Int.reduceToNat, Int.reduceNeg, Int.reduceEq, not_true_eq_false, not_false_eq_true, false_implies, h1, h2, h3, h4, h5, h6, h7, h8, h9, h10, h11, h12]
  refine ⟨fun _ => ⟨_, c, ?_⟩, fun _ => ⟨_, c, ?_⟩⟩ <;> simp only [go_sem, Nat.reduceBEq, ↓reduceIte, ↓reduceDIte, Nat.reduceAdd, Nat.reduceSub, Nat.reduceMul, Nat.reduceLeDiff, ← Bool.decide_and, ← Bool.decide_or, ← decide_not, Int.reduceLT, Int.reduceLE, Int.reduceToNat, Int.reduceNeg, Int.reduceEq, not_true_eq_false, not_false_eq_true, false_implies] <;> exact hv
theorem c_Valid (e : Ev) : PC env 17 [⟨EventT, e⟩] .bool (validE e) := by
  obtain ⟨k, keys, p, t, n, l⟩ := e
  by_cases h : 1 ≤ k ∧ k ≤ 12
  · have : k = 1 ∨ k = 2 ∨ k = 3 ∨ k = 4 ∨ k = 5 ∨ k = 6 ∨ k = 7 ∨ k = 8 ∨ k = 9 ∨ k = 10 ∨ k = 11 ∨ k = 12 := by omega
    rcases this with rfl | rfl | rfl | rfl | rfl | rfl | rfl | rfl | rfl | rfl | rfl | rfl
    · exact c_Valid1 keys p t n l
    · exact c_Valid2 keys p t n l
    · exact c_Valid3 keys p t n l
    · exact c_Valid4 keys p t n l
    · exact c_Valid5 keys p t n l
    · exact c_Valid6 keys p t n l
    · exact c_Valid7 keys p t n l
    · exact c_Valid8 keys p t n l
    · exact c_Valid9 keys p t n l
    · exact c_Valid10 keys p t n l
    · exact c_Valid11 keys p t n l
    · exact c_Valid12 keys p t n l
  · exact c_ValidO k keys p t n l h
theorem c_ValidR (e : Ev) : PC env 18 [⟨EventT, e⟩] .bool (validE e) := by
  obtain ⟨k, keys, p, t, n, l⟩ := e
  by_cases h : 1 ≤ k ∧ k ≤ 12
  · have : k = 1 ∨ k = 2 ∨ k = 3 ∨ k = 4 ∨ k = 5 ∨ k = 6 ∨ k = 7 ∨ k = 8 ∨ k = 9 ∨ k = 10 ∨ k = 11 ∨ k = 12 := by omega
    rcases this with rfl | rfl | rfl | rfl | rfl | rfl | rfl | rfl | rfl | rfl | rfl | rfl
    · exact c_ValidR1 keys p t n l
    · exact c_ValidR2 keys p t n l
    · exact c_ValidR3 keys p t n l
    · exact c_ValidR4 keys p t n l
    · exact c_ValidR5 keys p t n l
    · exact c_ValidR6 keys p t n l
    · exact c_ValidR7 keys p t n l
    · exact c_ValidR8 keys p t n l
    · exact c_ValidR9 keys p t n l
    · exact c_ValidR10 keys p t n l
    · exact c_ValidR11 keys p t n l
    · exact c_ValidR12 keys p t n l
  · exact c_ValidRO k keys p t n l h
end Go.Proofs.YtopelldocfbhkaaDoor
