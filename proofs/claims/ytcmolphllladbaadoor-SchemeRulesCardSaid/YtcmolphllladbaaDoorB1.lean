/- Schemes as texts, plainly. Nothing here is trusted; no condition. -/
import Derived.Test.YtcmolphllladbaaDoorA9
import Derived.Test.YtcmolphllladbaaDoorProg
import Derived.Lib.Split
import Derived.Lib.Join
import Derived.Lib.ItoaLen
set_option linter.unusedSimpArgs false
set_option linter.unusedVariables false
namespace Go.Proofs.YtcmolphllladbaaDoor
set_option maxRecDepth 100000

/-- runtime.boundsError -/
abbrev BoundsErrorT : Ty := (.st (.pair (.int .i64) (.pair (.int .i64) (.pair .bool (.int .u8)))))
/-- runtime.errorAddressString -/
abbrev ErrorAddressStringT : Ty := (.st (.pair .str (.int .u64)))
/-- api.Rule -/
abbrev RuleT : Ty := (.st (.pair (.int .i64) (.pair (.int .i64) (.pair .str (.pair .str (.int .i64))))))
/-- api.Scheme -/
abbrev SchemeT : Ty := (.st (.pair (.int .i64) (.pair (.int .u8) (.sl RuleT))))
/-- syllabaryref02.RawRule -/
abbrev RawRuleT : Ty := (.st (.pair (.sl (.int .u8)) (.pair (.sl (.int .u8)) (.pair (.int .u8) (.pair (.int .u8) (.int .u8))))))
/-- syllabaryref02.Raw -/
abbrev RawT : Ty := (.st (.pair (.int .u8) (.pair (.int .u8) (.sl RawRuleT))))
/-- strings.Builder -/
abbrev BuilderT : Ty := (.st (.pair (.ptr .unit) (.sl (.int .u8))))
/-- utf8.acceptRange -/
abbrev AcceptRangeT : Ty := (.st (.pair (.int .u8) (.int .u8)))
def tys : List (Nat × Ty) := [(1, .fnv), (2, (.int .i64)), (3, (.int .i64)), (4, .bool), (5, (.int .u8)), (6, (.int .u8)), (7, BoundsErrorT), (8, BoundsErrorT), (9, .str), (10, .str), (11, .str), (12, (.int .u64)), (13, ErrorAddressStringT), (14, ErrorAddressStringT), (21, (.int .i32)), (22, (.sl RuleT)), (23, SchemeT), (24, SchemeT), (25, (.sl RawRuleT)), (26, RawT), (27, RawT), (28, RuleT), (29, RuleT), (30, .fnv), (31, .fnv), (32, (.sl SchemeT)), (33, (.int .i64)), (35, .fnv), (36, .fnv), (37, .fnv), (38, .fnv), (40, .fnv), (41, .fnv), (42, .fnv), (43, (.int .u16)), (44, (.st (.pair (.int .u16) (.int .u16)))), (45, (.sl .str)), (46, .fnv), (47, (.st (.pair (.int .u8) (.pair (.int .u8) (.int .u8))))), (48, .fnv), (49, .fnv), (50, (.int .i8)), (51, (.st (.pair (.int .i8) (.pair (.int .i8) (.pair (.int .i8) (.pair (.int .i8) (.int .i8))))))), (52, (.int .i16)), (53, .fnv), (54, .fnv), (55, .fnv), (56, (.sl (.int .u8))), (57, .fnv), (58, .fnv), (59, .fnv), (60, .fnv), (61, .fnv), (62, .fnv), (63, RawRuleT), (64, RawRuleT), (65, .fnv), (66, .fnv), (67, .fnv), (68, (.ptr .unit)), (69, BuilderT), (70, BuilderT), (74, .fnv), (75, .fnv), (76, .fnv), (77, .fnv), (78, .fnv), (80, .fnv), (81, .fnv), (84, .fnv), (86, .fnv), (87, (.st (.pair (.int .i64) (.int .i64)))), (88, .fnv), (89, .fnv), (90, .fnv), (92, .fnv), (93, .fnv), (94, .fnv), (96, .fnv), (97, .fnv), (99, .fnv), (100, .fnv), (101, .fnv), (102, .fnv), (106, (.int .u64)), (107, .fnv), (108, .fnv), (110, .fnv), (111, .fnv), (112, .fnv), (113, .fnv), (114, (.int .u64)), (115, .fnv), (116, .fnv), (118, (.int .u32)), (120, .fnv), (121, .fnv), (123, .fnv), (124, .fnv), (126, .fnv), (127, .fnv), (131, AcceptRangeT), (132, AcceptRangeT), (133, (.st (.pair AcceptRangeT (.pair AcceptRangeT (.pair AcceptRangeT (.pair AcceptRangeT (.pair AcceptRangeT (.pair AcceptRangeT (.pair AcceptRangeT (.pair AcceptRangeT (.pair AcceptRangeT (.pair AcceptRangeT (.pair AcceptRangeT (.pair AcceptRangeT (.pair AcceptRangeT (.pair AcceptRangeT (.pair AcceptRangeT AcceptRangeT))))))))))))))))), (139, .fnv), (140, (.int .u8)), (141, (.int .u8)), (142, .fnv), (143, (.int .i32)), (144, (.int .i32))]
def strs : List Nat := [7, 8, 13, 14, 23, 24, 26, 27, 28, 29, 63, 64, 69, 70, 131, 132]
def cmps : List Nat := [7, 8, 28, 29, 44, 47, 51, 87, 131, 132, 133]
def fns : List (Nat × (List Ty × Ty)) := [(2, ([], .unit)),
  (3, ([SchemeT, RawT, RuleT], .bool)),
  (4, ([RawT, RawT], .bool)),
  (5, ([RawT, .str, (.st (.pair (.int .u16) (.int .u16)))], .bool)),
  (6, ([RawT, (.st (.pair (.int .u8) (.pair (.int .u8) (.int .u8))))], .bool)),
  (7, ([(.st (.pair (.int .i8) (.pair (.int .i8) (.pair (.int .i8) (.pair (.int .i8) (.int .i8)))))), (.int .i16)], .bool)),
  (8, ([RawT, RuleT, (.int .u8)], .bool)),
  (9, ([(.sl (.int .u8)), .str, (.int .u8)], .bool)),
  (10, ([], .bool)),
  (11, ([RawT], SchemeT)),
  (12, ([SchemeT], (.tup (.int .i64) (.int .i64)))),
  (13, ([SchemeT], (.tup (.int .i64) (.int .i64)))),
  (14, ([SchemeT], .bool)),
  (15, ([SchemeT], .str)),
  (16, ([SchemeT], .str)),
  (17, ([.str], (.tup SchemeT (.tup (.int .i64) (.int .i64))))),
  (18, ([SchemeT, SchemeT], .bool)),
  (19, ([.str], (.tup SchemeT (.tup (.int .i64) (.int .i64))))),
  (20, ([SchemeT, (.int .i64)], .bool)),
  (21, ([.str, (.int .u8)], (.sl .str))),
  (22, ([(.sl (.int .u8)), (.int .i64)], .str)),
  (23, ([.str], .bool)),
  (24, ([.str], .bool)),
  (25, ([.str], .bool)),
  (26, ([.str], .bool)),
  (27, ([.str, (.int .i64), (.int .i64)], .bool)),
  (29, ([RawRuleT, (.int .i64)], RuleT)),
  (30, ([SchemeT, (.int .i64)], .bool)),
  (31, ([(.int .i64), RuleT], .bool)),
  (32, ([(.sl RuleT), RuleT], .bool)),
  (33, ([(.int .i64), (.int .i64), (.int .i64)], .bool)),
  (35, ([(.int .i64)], .str)),
  (36, ([.str], .str)),
  (37, ([(.sl .str), .str], .str)),
  (39, ([SchemeT], .bool)),
  (40, ([(.int .i64)], .str)),
  (41, ([.str], .str)),
  (42, ([.str, .str], (.tup .str (.tup .str .bool)))),
  (45, ([.str], (.tup RuleT .bool))),
  (46, ([.str], .bool)),
  (47, ([.str], .bool)),
  (48, ([.str], .bool)),
  (49, ([.str], .bool)),
  (50, ([(.st (.pair (.int .i64) (.int .i64))), .str, .str], RuleT)),
  (51, ([(.sl RuleT), RuleT], (.int .i64))),
  (53, ([(.int .i64)], .str)),
  (54, ([(.ptr .unit), (.int .i64)], .unit)),
  (55, ([.str, .str], (.tup .str (.tup .str .bool)))),
  (57, ([.str, .str], (.sl .str))),
  (58, ([(.sl .str), .str, (.int .i64)], .unit)),
  (59, ([.str, (.int .i64)], (.int .i64))),
  (60, ([.str], .str)),
  (61, ([.str, (.int .i64)], (.tup (.int .i64) .bool))),
  (62, ([.str], .str)),
  (63, ([(.int .u8)], (.int .i64))),
  (65, ([(.int .i64), (.int .i64)], .str)),
  (66, ([(.ptr .unit), (.int .i64)], .unit)),
  (67, ([.str, .str], (.int .i64))),
  (68, ([.str, .str, (.int .i64), (.int .i64)], (.sl .str))),
  (69, ([(.int .i64)], .str)),
  (70, ([(.int .u64)], (.int .i64))),
  (71, ([(.sl (.int .u8)), (.int .u64)], .unit)),
  (72, ([(.sl (.int .u8)), (.int .u64), (.int .i64), .bool, .bool], (.tup (.sl (.int .u8)) .str))),
  (74, ([.str, (.int .u8)], (.int .i64))),
  (76, ([(.int .i64)], (.int .i64))),
  (77, ([.str, .str], (.int .i64))),
  (78, ([.str, (.int .i64)], (.sl .str))),
  (79, ([.str, .str], (.int .i64))),
  (80, ([.str, .str], (.int .i64))),
  (81, ([(.int .i64)], (.int .i64))),
  (82, ([(.int .u64)], (.int .i64))),
  (83, ([.bool], (.int .i64))),
  (84, ([(.int .i64)], .bool)),
  (85, ([(.int .u64)], (.int .i64))),
  (87, ([.str], (.tup (.int .u32) (.int .u32)))),
  (88, ([.str], (.int .i64))),
  (89, ([.str], (.tup (.int .i32) (.int .i64)))),
  (91, ([(.int .u32)], (.int .i64))),
  (92, ([(.int .u64)], (.int .i64))),
  (93, ([.str], (.tup (.int .i32) (.int .i64)))),
  (119, ([], .unit))]
def hfns : List (Nat × List (Option Ty)) := [(28, [some (.int .u8)]), (34, [none, some .str]), (38, [none]), (43, [none, some .bool, some .str]), (44, [some .str]), (52, [none])]
def keyTs : List (Nat × Nat) := []
noncomputable def env : Env := mkEnv Tryd.prog tys strs cmps fns hfns keyTs [(23, 22), (1026, 22), (29, 22), (1032, 22)] true [70] [(56, 5)] [] [104] [58, 59, 60] [((43, 9), [[1, 2, 3, 4, 5, 6, 7, 9, 10, 11, 13, 14, 15, 17, 18, 19, 21, 22, 23, 0, 8, 12, 16, 20, 24, 25, 26, 27, 28, 29, 30], [1, 2, 3, 4, 5, 6, 7, 9, 10, 11, 13, 14, 15, 17, 18, 19, 21, 22, 23, 8, 0, 12, 16, 20, 24, 25, 26, 27, 28, 29, 30], [1, 2, 3, 4, 5, 6, 7, 9, 10, 11, 13, 14, 15, 17, 18, 19, 21, 22, 23, 8, 12, 0, 16, 20, 24, 25, 26, 27, 28, 29, 30], [1, 2, 3, 4, 5, 6, 7, 9, 10, 11, 13, 14, 15, 17, 18, 19, 21, 22, 23, 8, 12, 16, 0, 20, 24, 25, 26, 27, 28, 29, 30], [1, 2, 3, 4, 5, 6, 7, 9, 10, 11, 13, 14, 15, 17, 18, 19, 21, 22, 23, 8, 12, 16, 20, 0, 24, 25, 26, 27, 28, 29, 30], [1, 2, 3, 4, 5, 6, 7, 9, 10, 11, 13, 14, 15, 17, 18, 19, 21, 22, 23, 8, 12, 16, 20, 24, 25, 0, 26, 27, 28, 29, 30], [1, 2, 3, 4, 5, 6, 7, 9, 10, 11, 13, 14, 15, 17, 18, 19, 21, 22, 23, 8, 12, 16, 20, 24, 25, 26, 0, 27, 28, 29, 30], [1, 2, 3, 4, 5, 6, 7, 9, 10, 11, 13, 14, 15, 17, 18, 19, 21, 22, 23, 8, 12, 16, 20, 24, 25, 26, 27, 0, 28, 29, 30]]), ((3, 5), [[1, 2, 4, 0, 3, 5, 6, 7, 8], [1, 2, 4, 0, 5, 3, 6, 7, 8], [1, 2, 4, 5, 0, 3, 6, 7, 8]]), ((8, 5), [[1, 2, 4, 0, 3, 5, 6, 7, 8], [1, 2, 4, 0, 5, 3, 6, 7, 8], [1, 2, 4, 5, 0, 3, 6, 7, 8]]), ((15, 4), [[5, 6, 0, 1, 2, 3, 4, 7, 8, 9, 10, 11], [5, 6, 0, 1, 2, 3, 7, 4, 8, 9, 10, 11], [5, 6, 0, 1, 2, 7, 3, 4, 8, 9, 10, 11], [5, 6, 0, 1, 7, 2, 3, 4, 8, 9, 10, 11], [5, 6, 0, 7, 1, 2, 3, 4, 8, 9, 10, 11], [5, 6, 7, 0, 1, 2, 3, 4, 8, 9, 10, 11]])] [104] [(3, 6)]
theorem e_emp0 (t : Nat) : env.emp t = mem1 t [104] := rfl
theorem e_stp0 (f i : Nat) : env.stp f i = roAt [(3, 6)] f i := rfl
theorem e_fl0 (f i : Nat) : env.fl f i = flAt [((43, 9), [[1, 2, 3, 4, 5, 6, 7, 9, 10, 11, 13, 14, 15, 17, 18, 19, 21, 22, 23, 0, 8, 12, 16, 20, 24, 25, 26, 27, 28, 29, 30], [1, 2, 3, 4, 5, 6, 7, 9, 10, 11, 13, 14, 15, 17, 18, 19, 21, 22, 23, 8, 0, 12, 16, 20, 24, 25, 26, 27, 28, 29, 30], [1, 2, 3, 4, 5, 6, 7, 9, 10, 11, 13, 14, 15, 17, 18, 19, 21, 22, 23, 8, 12, 0, 16, 20, 24, 25, 26, 27, 28, 29, 30], [1, 2, 3, 4, 5, 6, 7, 9, 10, 11, 13, 14, 15, 17, 18, 19, 21, 22, 23, 8, 12, 16, 0, 20, 24, 25, 26, 27, 28, 29, 30], [1, 2, 3, 4, 5, 6, 7, 9, 10, 11, 13, 14, 15, 17, 18, 19, 21, 22, 23, 8, 12, 16, 20, 0, 24, 25, 26, 27, 28, 29, 30], [1, 2, 3, 4, 5, 6, 7, 9, 10, 11, 13, 14, 15, 17, 18, 19, 21, 22, 23, 8, 12, 16, 20, 24, 25, 0, 26, 27, 28, 29, 30], [1, 2, 3, 4, 5, 6, 7, 9, 10, 11, 13, 14, 15, 17, 18, 19, 21, 22, 23, 8, 12, 16, 20, 24, 25, 26, 0, 27, 28, 29, 30], [1, 2, 3, 4, 5, 6, 7, 9, 10, 11, 13, 14, 15, 17, 18, 19, 21, 22, 23, 8, 12, 16, 20, 24, 25, 26, 27, 0, 28, 29, 30]]), ((3, 5), [[1, 2, 4, 0, 3, 5, 6, 7, 8], [1, 2, 4, 0, 5, 3, 6, 7, 8], [1, 2, 4, 5, 0, 3, 6, 7, 8]]), ((8, 5), [[1, 2, 4, 0, 3, 5, 6, 7, 8], [1, 2, 4, 0, 5, 3, 6, 7, 8], [1, 2, 4, 5, 0, 3, 6, 7, 8]]), ((15, 4), [[5, 6, 0, 1, 2, 3, 4, 7, 8, 9, 10, 11], [5, 6, 0, 1, 2, 3, 7, 4, 8, 9, 10, 11], [5, 6, 0, 1, 2, 7, 3, 4, 8, 9, 10, 11], [5, 6, 0, 1, 7, 2, 3, 4, 8, 9, 10, 11], [5, 6, 0, 7, 1, 2, 3, 4, 8, 9, 10, 11], [5, 6, 7, 0, 1, 2, 3, 4, 8, 9, 10, 11]])] f i := rfl
theorem e_con0 (t : Nat) : env.con t = mem1 t [104] := rfl
theorem e_px0 (f : Nat) : env.px f = mem1 f [58, 59, 60] := rfl
theorem e_nd0 (f : Nat) : env.nd f = false := rfl
theorem e_bx0 (t : Nat) : env.boxT t = mem1 t [70] := rfl
theorem e_el0 (t : Nat) : env.elm t = look t [(56, 5)] := rfl
theorem e_ro0 (d t : Nat) : env.ro d t = roAt [(23, 22), (1026, 22), (29, 22), (1032, 22)] d t := rfl
theorem e_tm0 : env.tm = true := rfl
theorem env_ok : EnvOK env := mkEnv_ok (by kernel_rfl) (by kernel_rfl) (by kernel_rfl) (by kernel_rfl) (by kernel_rfl) (by kernel_rfl) (by kernel_rfl) (by kernel_rfl) (by kernel_rfl)
theorem e_ty1 : env.ty 1 = some .fnv := rfl
theorem e_ty2 : env.ty 2 = some (.int .i64) := rfl
theorem e_ty3 : env.ty 3 = some (.int .i64) := rfl
theorem e_ty4 : env.ty 4 = some .bool := rfl
theorem e_ty5 : env.ty 5 = some (.int .u8) := rfl
theorem e_ty6 : env.ty 6 = some (.int .u8) := rfl
theorem e_ty7 : env.ty 7 = some BoundsErrorT := rfl
theorem e_ty8 : env.ty 8 = some BoundsErrorT := rfl
theorem e_ty9 : env.ty 9 = some .str := rfl
theorem e_ty10 : env.ty 10 = some .str := rfl
theorem e_ty11 : env.ty 11 = some .str := rfl
theorem e_ty12 : env.ty 12 = some (.int .u64) := rfl
theorem e_ty13 : env.ty 13 = some ErrorAddressStringT := rfl
theorem e_ty14 : env.ty 14 = some ErrorAddressStringT := rfl
theorem e_ty21 : env.ty 21 = some (.int .i32) := rfl
theorem e_ty22 : env.ty 22 = some (.sl RuleT) := rfl
theorem e_ty23 : env.ty 23 = some SchemeT := rfl
theorem e_ty24 : env.ty 24 = some SchemeT := rfl
theorem e_ty25 : env.ty 25 = some (.sl RawRuleT) := rfl
theorem e_ty26 : env.ty 26 = some RawT := rfl
theorem e_ty27 : env.ty 27 = some RawT := rfl
theorem e_ty28 : env.ty 28 = some RuleT := rfl
theorem e_ty29 : env.ty 29 = some RuleT := rfl
theorem e_ty30 : env.ty 30 = some .fnv := rfl
theorem e_ty31 : env.ty 31 = some .fnv := rfl
theorem e_ty32 : env.ty 32 = some (.sl SchemeT) := rfl
theorem e_ty33 : env.ty 33 = some (.int .i64) := rfl
theorem e_ty35 : env.ty 35 = some .fnv := rfl
theorem e_ty36 : env.ty 36 = some .fnv := rfl
theorem e_ty37 : env.ty 37 = some .fnv := rfl
theorem e_ty38 : env.ty 38 = some .fnv := rfl
theorem e_ty40 : env.ty 40 = some .fnv := rfl
theorem e_ty41 : env.ty 41 = some .fnv := rfl
theorem e_ty42 : env.ty 42 = some .fnv := rfl
theorem e_ty43 : env.ty 43 = some (.int .u16) := rfl
theorem e_ty44 : env.ty 44 = some (.st (.pair (.int .u16) (.int .u16))) := rfl
theorem e_ty45 : env.ty 45 = some (.sl .str) := rfl
theorem e_ty46 : env.ty 46 = some .fnv := rfl
theorem e_ty47 : env.ty 47 = some (.st (.pair (.int .u8) (.pair (.int .u8) (.int .u8)))) := rfl
theorem e_ty48 : env.ty 48 = some .fnv := rfl
theorem e_ty49 : env.ty 49 = some .fnv := rfl
theorem e_ty50 : env.ty 50 = some (.int .i8) := rfl
theorem e_ty51 : env.ty 51 = some (.st (.pair (.int .i8) (.pair (.int .i8) (.pair (.int .i8) (.pair (.int .i8) (.int .i8)))))) := rfl
theorem e_ty52 : env.ty 52 = some (.int .i16) := rfl
theorem e_ty53 : env.ty 53 = some .fnv := rfl
theorem e_ty54 : env.ty 54 = some .fnv := rfl
theorem e_ty55 : env.ty 55 = some .fnv := rfl
theorem e_ty56 : env.ty 56 = some (.sl (.int .u8)) := rfl
theorem e_ty57 : env.ty 57 = some .fnv := rfl
theorem e_ty58 : env.ty 58 = some .fnv := rfl
theorem e_ty59 : env.ty 59 = some .fnv := rfl
theorem e_ty60 : env.ty 60 = some .fnv := rfl
theorem e_ty61 : env.ty 61 = some .fnv := rfl
theorem e_ty62 : env.ty 62 = some .fnv := rfl
theorem e_ty63 : env.ty 63 = some RawRuleT := rfl
theorem e_ty64 : env.ty 64 = some RawRuleT := rfl
theorem e_ty65 : env.ty 65 = some .fnv := rfl
theorem e_ty66 : env.ty 66 = some .fnv := rfl
theorem e_ty67 : env.ty 67 = some .fnv := rfl
theorem e_ty68 : env.ty 68 = some (.ptr .unit) := rfl
theorem e_ty69 : env.ty 69 = some BuilderT := rfl
theorem e_ty70 : env.ty 70 = some BuilderT := rfl
theorem e_ty74 : env.ty 74 = some .fnv := rfl
theorem e_ty75 : env.ty 75 = some .fnv := rfl
theorem e_ty76 : env.ty 76 = some .fnv := rfl
theorem e_ty77 : env.ty 77 = some .fnv := rfl
theorem e_ty78 : env.ty 78 = some .fnv := rfl
theorem e_ty80 : env.ty 80 = some .fnv := rfl
theorem e_ty81 : env.ty 81 = some .fnv := rfl
theorem e_ty84 : env.ty 84 = some .fnv := rfl
theorem e_ty86 : env.ty 86 = some .fnv := rfl
theorem e_ty87 : env.ty 87 = some (.st (.pair (.int .i64) (.int .i64))) := rfl
theorem e_ty88 : env.ty 88 = some .fnv := rfl
theorem e_ty89 : env.ty 89 = some .fnv := rfl
theorem e_ty90 : env.ty 90 = some .fnv := rfl
theorem e_ty92 : env.ty 92 = some .fnv := rfl
theorem e_ty93 : env.ty 93 = some .fnv := rfl
theorem e_ty94 : env.ty 94 = some .fnv := rfl
theorem e_ty96 : env.ty 96 = some .fnv := rfl
theorem e_ty97 : env.ty 97 = some .fnv := rfl
theorem e_ty99 : env.ty 99 = some .fnv := rfl
theorem e_ty100 : env.ty 100 = some .fnv := rfl
theorem e_ty101 : env.ty 101 = some .fnv := rfl
theorem e_ty102 : env.ty 102 = some .fnv := rfl
theorem e_ty106 : env.ty 106 = some (.int .u64) := rfl
theorem e_ty107 : env.ty 107 = some .fnv := rfl
theorem e_ty108 : env.ty 108 = some .fnv := rfl
theorem e_ty110 : env.ty 110 = some .fnv := rfl
theorem e_ty111 : env.ty 111 = some .fnv := rfl
theorem e_ty112 : env.ty 112 = some .fnv := rfl
theorem e_ty113 : env.ty 113 = some .fnv := rfl
theorem e_ty114 : env.ty 114 = some (.int .u64) := rfl
theorem e_ty115 : env.ty 115 = some .fnv := rfl
theorem e_ty116 : env.ty 116 = some .fnv := rfl
theorem e_ty118 : env.ty 118 = some (.int .u32) := rfl
theorem e_ty120 : env.ty 120 = some .fnv := rfl
theorem e_ty121 : env.ty 121 = some .fnv := rfl
theorem e_ty123 : env.ty 123 = some .fnv := rfl
theorem e_ty124 : env.ty 124 = some .fnv := rfl
theorem e_ty126 : env.ty 126 = some .fnv := rfl
theorem e_ty127 : env.ty 127 = some .fnv := rfl
theorem e_ty131 : env.ty 131 = some AcceptRangeT := rfl
theorem e_ty132 : env.ty 132 = some AcceptRangeT := rfl
theorem e_ty133 : env.ty 133 = some (.st (.pair AcceptRangeT (.pair AcceptRangeT (.pair AcceptRangeT (.pair AcceptRangeT (.pair AcceptRangeT (.pair AcceptRangeT (.pair AcceptRangeT (.pair AcceptRangeT (.pair AcceptRangeT (.pair AcceptRangeT (.pair AcceptRangeT (.pair AcceptRangeT (.pair AcceptRangeT (.pair AcceptRangeT (.pair AcceptRangeT AcceptRangeT)))))))))))))))) := rfl
theorem e_ty139 : env.ty 139 = some .fnv := rfl
theorem e_ty140 : env.ty 140 = some (.int .u8) := rfl
theorem e_ty141 : env.ty 141 = some (.int .u8) := rfl
theorem e_ty142 : env.ty 142 = some .fnv := rfl
theorem e_ty143 : env.ty 143 = some (.int .i32) := rfl
theorem e_ty144 : env.ty 144 = some (.int .i32) := rfl
theorem e_str7 : env.str 7 = true := rfl
theorem e_str8 : env.str 8 = true := rfl
theorem e_str13 : env.str 13 = true := rfl
theorem e_str14 : env.str 14 = true := rfl
theorem e_str23 : env.str 23 = true := rfl
theorem e_str24 : env.str 24 = true := rfl
theorem e_str26 : env.str 26 = true := rfl
theorem e_str27 : env.str 27 = true := rfl
theorem e_str28 : env.str 28 = true := rfl
theorem e_str29 : env.str 29 = true := rfl
theorem e_str63 : env.str 63 = true := rfl
theorem e_str64 : env.str 64 = true := rfl
theorem e_str69 : env.str 69 = true := rfl
theorem e_str70 : env.str 70 = true := rfl
theorem e_str131 : env.str 131 = true := rfl
theorem e_str132 : env.str 132 = true := rfl
theorem e_str44 : env.str 44 = false := rfl
theorem e_str47 : env.str 47 = false := rfl
theorem e_str51 : env.str 51 = false := rfl
theorem e_str87 : env.str 87 = false := rfl
theorem e_str133 : env.str 133 = false := rfl
theorem e_cmp7 : env.cmp 7 = true := rfl
theorem e_cmp8 : env.cmp 8 = true := rfl
theorem e_cmp28 : env.cmp 28 = true := rfl
theorem e_cmp29 : env.cmp 29 = true := rfl
theorem e_cmp44 : env.cmp 44 = true := rfl
theorem e_cmp47 : env.cmp 47 = true := rfl
theorem e_cmp51 : env.cmp 51 = true := rfl
theorem e_cmp87 : env.cmp 87 = true := rfl
theorem e_cmp131 : env.cmp 131 = true := rfl
theorem e_cmp132 : env.cmp 132 = true := rfl
theorem e_cmp133 : env.cmp 133 = true := rfl
theorem e_fn2 : env.fn 2 = some ([], .unit) := rfl
theorem e_fn3 : env.fn 3 = some ([SchemeT, RawT, RuleT], .bool) := rfl
theorem e_fn4 : env.fn 4 = some ([RawT, RawT], .bool) := rfl
theorem e_fn5 : env.fn 5 = some ([RawT, .str, (.st (.pair (.int .u16) (.int .u16)))], .bool) := rfl
theorem e_fn6 : env.fn 6 = some ([RawT, (.st (.pair (.int .u8) (.pair (.int .u8) (.int .u8))))], .bool) := rfl
theorem e_fn7 : env.fn 7 = some ([(.st (.pair (.int .i8) (.pair (.int .i8) (.pair (.int .i8) (.pair (.int .i8) (.int .i8)))))), (.int .i16)], .bool) := rfl
theorem e_fn8 : env.fn 8 = some ([RawT, RuleT, (.int .u8)], .bool) := rfl
theorem e_fn9 : env.fn 9 = some ([(.sl (.int .u8)), .str, (.int .u8)], .bool) := rfl
theorem e_fn10 : env.fn 10 = some ([], .bool) := rfl
theorem e_fn11 : env.fn 11 = some ([RawT], SchemeT) := rfl
theorem e_fn12 : env.fn 12 = some ([SchemeT], (.tup (.int .i64) (.int .i64))) := rfl
theorem e_fn13 : env.fn 13 = some ([SchemeT], (.tup (.int .i64) (.int .i64))) := rfl
theorem e_fn14 : env.fn 14 = some ([SchemeT], .bool) := rfl
theorem e_fn15 : env.fn 15 = some ([SchemeT], .str) := rfl
theorem e_fn16 : env.fn 16 = some ([SchemeT], .str) := rfl
theorem e_fn17 : env.fn 17 = some ([.str], (.tup SchemeT (.tup (.int .i64) (.int .i64)))) := rfl
theorem e_fn18 : env.fn 18 = some ([SchemeT, SchemeT], .bool) := rfl
theorem e_fn19 : env.fn 19 = some ([.str], (.tup SchemeT (.tup (.int .i64) (.int .i64)))) := rfl
theorem e_fn20 : env.fn 20 = some ([SchemeT, (.int .i64)], .bool) := rfl
theorem e_fn21 : env.fn 21 = some ([.str, (.int .u8)], (.sl .str)) := rfl
theorem e_fn22 : env.fn 22 = some ([(.sl (.int .u8)), (.int .i64)], .str) := rfl
theorem e_fn23 : env.fn 23 = some ([.str], .bool) := rfl
theorem e_fn24 : env.fn 24 = some ([.str], .bool) := rfl
theorem e_fn25 : env.fn 25 = some ([.str], .bool) := rfl
theorem e_fn26 : env.fn 26 = some ([.str], .bool) := rfl
theorem e_fn27 : env.fn 27 = some ([.str, (.int .i64), (.int .i64)], .bool) := rfl
theorem e_fn29 : env.fn 29 = some ([RawRuleT, (.int .i64)], RuleT) := rfl
theorem e_fn30 : env.fn 30 = some ([SchemeT, (.int .i64)], .bool) := rfl
theorem e_fn31 : env.fn 31 = some ([(.int .i64), RuleT], .bool) := rfl
theorem e_fn32 : env.fn 32 = some ([(.sl RuleT), RuleT], .bool) := rfl
theorem e_fn33 : env.fn 33 = some ([(.int .i64), (.int .i64), (.int .i64)], .bool) := rfl
theorem e_fn35 : env.fn 35 = some ([(.int .i64)], .str) := rfl
theorem e_fn36 : env.fn 36 = some ([.str], .str) := rfl
theorem e_fn37 : env.fn 37 = some ([(.sl .str), .str], .str) := rfl
theorem e_fn39 : env.fn 39 = some ([SchemeT], .bool) := rfl
theorem e_fn40 : env.fn 40 = some ([(.int .i64)], .str) := rfl
theorem e_fn41 : env.fn 41 = some ([.str], .str) := rfl
theorem e_fn42 : env.fn 42 = some ([.str, .str], (.tup .str (.tup .str .bool))) := rfl
theorem e_fn45 : env.fn 45 = some ([.str], (.tup RuleT .bool)) := rfl
theorem e_fn46 : env.fn 46 = some ([.str], .bool) := rfl
theorem e_fn47 : env.fn 47 = some ([.str], .bool) := rfl
theorem e_fn48 : env.fn 48 = some ([.str], .bool) := rfl
theorem e_fn49 : env.fn 49 = some ([.str], .bool) := rfl
theorem e_fn50 : env.fn 50 = some ([(.st (.pair (.int .i64) (.int .i64))), .str, .str], RuleT) := rfl
theorem e_fn51 : env.fn 51 = some ([(.sl RuleT), RuleT], (.int .i64)) := rfl
theorem e_fn53 : env.fn 53 = some ([(.int .i64)], .str) := rfl
theorem e_fn54 : env.fn 54 = some ([(.ptr .unit), (.int .i64)], .unit) := rfl
theorem e_fn55 : env.fn 55 = some ([.str, .str], (.tup .str (.tup .str .bool))) := rfl
theorem e_fn57 : env.fn 57 = some ([.str, .str], (.sl .str)) := rfl
theorem e_fn58 : env.fn 58 = some ([(.sl .str), .str, (.int .i64)], .unit) := rfl
theorem e_fn59 : env.fn 59 = some ([.str, (.int .i64)], (.int .i64)) := rfl
theorem e_fn60 : env.fn 60 = some ([.str], .str) := rfl
theorem e_fn61 : env.fn 61 = some ([.str, (.int .i64)], (.tup (.int .i64) .bool)) := rfl
theorem e_fn62 : env.fn 62 = some ([.str], .str) := rfl
theorem e_fn63 : env.fn 63 = some ([(.int .u8)], (.int .i64)) := rfl
theorem e_fn65 : env.fn 65 = some ([(.int .i64), (.int .i64)], .str) := rfl
theorem e_fn66 : env.fn 66 = some ([(.ptr .unit), (.int .i64)], .unit) := rfl
theorem e_fn67 : env.fn 67 = some ([.str, .str], (.int .i64)) := rfl
theorem e_fn68 : env.fn 68 = some ([.str, .str, (.int .i64), (.int .i64)], (.sl .str)) := rfl
theorem e_fn69 : env.fn 69 = some ([(.int .i64)], .str) := rfl
theorem e_fn70 : env.fn 70 = some ([(.int .u64)], (.int .i64)) := rfl
theorem e_fn71 : env.fn 71 = some ([(.sl (.int .u8)), (.int .u64)], .unit) := rfl
theorem e_fn72 : env.fn 72 = some ([(.sl (.int .u8)), (.int .u64), (.int .i64), .bool, .bool], (.tup (.sl (.int .u8)) .str)) := rfl
theorem e_fn74 : env.fn 74 = some ([.str, (.int .u8)], (.int .i64)) := rfl
theorem e_fn76 : env.fn 76 = some ([(.int .i64)], (.int .i64)) := rfl
theorem e_fn77 : env.fn 77 = some ([.str, .str], (.int .i64)) := rfl
theorem e_fn78 : env.fn 78 = some ([.str, (.int .i64)], (.sl .str)) := rfl
theorem e_fn79 : env.fn 79 = some ([.str, .str], (.int .i64)) := rfl
theorem e_fn80 : env.fn 80 = some ([.str, .str], (.int .i64)) := rfl
theorem e_fn81 : env.fn 81 = some ([(.int .i64)], (.int .i64)) := rfl
theorem e_fn82 : env.fn 82 = some ([(.int .u64)], (.int .i64)) := rfl
theorem e_fn83 : env.fn 83 = some ([.bool], (.int .i64)) := rfl
theorem e_fn84 : env.fn 84 = some ([(.int .i64)], .bool) := rfl
theorem e_fn85 : env.fn 85 = some ([(.int .u64)], (.int .i64)) := rfl
theorem e_fn87 : env.fn 87 = some ([.str], (.tup (.int .u32) (.int .u32))) := rfl
theorem e_fn88 : env.fn 88 = some ([.str], (.int .i64)) := rfl
theorem e_fn89 : env.fn 89 = some ([.str], (.tup (.int .i32) (.int .i64))) := rfl
theorem e_fn91 : env.fn 91 = some ([(.int .u32)], (.int .i64)) := rfl
theorem e_fn92 : env.fn 92 = some ([(.int .u64)], (.int .i64)) := rfl
theorem e_fn93 : env.fn 93 = some ([.str], (.tup (.int .i32) (.int .i64))) := rfl
theorem e_fn119 : env.fn 119 = some ([], .unit) := rfl
theorem e_fn28 : env.fn 28 = none := rfl
theorem e_hfn28 : env.hfn 28 = some [some (.int .u8)] := rfl
theorem e_fn34 : env.fn 34 = none := rfl
theorem e_hfn34 : env.hfn 34 = some [none, some .str] := rfl
theorem e_fn38 : env.fn 38 = none := rfl
theorem e_hfn38 : env.hfn 38 = some [none] := rfl
theorem e_fn43 : env.fn 43 = none := rfl
theorem e_hfn43 : env.hfn 43 = some [none, some .bool, some .str] := rfl
theorem e_fn44 : env.fn 44 = none := rfl
theorem e_hfn44 : env.hfn 44 = some [some .str] := rfl
theorem e_fn52 : env.fn 52 = none := rfl
theorem e_hfn52 : env.hfn 52 = some [none] := rfl
/-- gosem.cut.init -/
theorem fn_2 : env.P.funcs[2]? = some Tryd.f2 := rfl
/-- syllabary/syllabarylaw02.SchemeChecks -/
theorem fn_3 : env.P.funcs[3]? = some Tryd.f3 := rfl
/-- syllabary/syllabarylaw02.SchemeRoundTrips -/
theorem fn_4 : env.P.funcs[4]? = some Tryd.f4 := rfl
/-- syllabary/syllabarylaw02.SchemeParses -/
theorem fn_5 : env.P.funcs[5]? = some Tryd.f5 := rfl
/-- syllabary/syllabarylaw02.SchemeRules -/
theorem fn_6 : env.P.funcs[6]? = some Tryd.f6 := rfl
/-- syllabary/syllabarylaw02.SchemeLimits -/
theorem fn_7 : env.P.funcs[7]? = some Tryd.f7 := rfl
/-- syllabary/syllabarylaw02.SchemeOrders -/
theorem fn_8 : env.P.funcs[8]? = some Tryd.f8 := rfl
/-- syllabary/syllabarylaw02.SchemeTexts -/
theorem fn_9 : env.P.funcs[9]? = some Tryd.f9 := rfl
/-- syllabary/syllabarylaw02.sanity -/
theorem fn_10 : env.P.funcs[10]? = some Tryd.f10 := rfl
/-- syllabary/syllabaryref02.Made -/
theorem fn_11 : env.P.funcs[11]? = some Tryd.f11 := rfl
/-- syllabary/scheme.Check -/
theorem fn_12 : env.P.funcs[12]? = some Tryd.f12 := rfl
/-- syllabary/syllabaryref02.Check -/
theorem fn_13 : env.P.funcs[13]? = some Tryd.f13 := rfl
/-- syllabary/scheme.Valid -/
theorem fn_14 : env.P.funcs[14]? = some Tryd.f14 := rfl
/-- syllabary/scheme.Print -/
theorem fn_15 : env.P.funcs[15]? = some Tryd.f15 := rfl
/-- syllabary/syllabaryref02.Print -/
theorem fn_16 : env.P.funcs[16]? = some Tryd.f16 := rfl
/-- syllabary/scheme.Parse -/
theorem fn_17 : env.P.funcs[17]? = some Tryd.f17 := rfl
/-- syllabary/syllabaryref02.Same -/
theorem fn_18 : env.P.funcs[18]? = some Tryd.f18 := rfl
/-- syllabary/syllabaryref02.Parse -/
theorem fn_19 : env.P.funcs[19]? = some Tryd.f19 := rfl
/-- syllabary/syllabarylaw02.refuses -/
theorem fn_20 : env.P.funcs[20]? = some Tryd.f20 := rfl
/-- syllabary/syllabaryref02.Split -/
theorem fn_21 : env.P.funcs[21]? = some Tryd.f21 := rfl
/-- syllabary/syllabaryref02.Input -/
theorem fn_22 : env.P.funcs[22]? = some Tryd.f22 := rfl
/-- syllabary/scheme.Letters -/
theorem fn_23 : env.P.funcs[23]? = some Tryd.f23 := rfl
/-- syllabary/syllabaryref02.Letters -/
theorem fn_24 : env.P.funcs[24]? = some Tryd.f24 := rfl
/-- syllabary/scheme.Word -/
theorem fn_25 : env.P.funcs[25]? = some Tryd.f25 := rfl
/-- syllabary/syllabaryref02.Word -/
theorem fn_26 : env.P.funcs[26]? = some Tryd.f26 := rfl
/-- syllabary/syllabarylaw02.reads -/
theorem fn_27 : env.P.funcs[27]? = some Tryd.f27 := rfl
/-- syllabary/syllabaryref02.Base -/
theorem fn_28 : env.P.funcs[28]? = some Tryd.f28 := rfl
/-- syllabary/syllabaryref02.Made1 -/
theorem fn_29 : env.P.funcs[29]? = some Tryd.f29 := rfl
/-- syllabary/syllabaryref02.Right -/
theorem fn_30 : env.P.funcs[30]? = some Tryd.f30 := rfl
/-- syllabary/scheme.right -/
theorem fn_31 : env.P.funcs[31]? = some Tryd.f31 := rfl
/-- slices.Contains[[]syllabary/api.Rule,syllabary/api.Rule] -/
theorem fn_32 : env.P.funcs[32]? = some Tryd.f32 := rfl
/-- syllabary/syllabaryref02.In -/
theorem fn_33 : env.P.funcs[33]? = some Tryd.f33 := rfl
/-- (*strings.Builder).WriteString -/
theorem fn_34 : env.P.funcs[34]? = some Tryd.f34 := rfl
/-- strconv.Itoa -/
theorem fn_35 : env.P.funcs[35]? = some Tryd.f35 := rfl
/-- syllabary/scheme.written -/
theorem fn_36 : env.P.funcs[36]? = some Tryd.f36 := rfl
/-- strings.Join -/
theorem fn_37 : env.P.funcs[37]? = some Tryd.f37 := rfl
/-- (*strings.Builder).String -/
theorem fn_38 : env.P.funcs[38]? = some Tryd.f38 := rfl
/-- syllabary/syllabaryref02.Valid -/
theorem fn_39 : env.P.funcs[39]? = some Tryd.f39 := rfl
/-- syllabary/syllabaryref02.Decimal -/
theorem fn_40 : env.P.funcs[40]? = some Tryd.f40 := rfl
/-- syllabary/syllabaryref02.field -/
theorem fn_41 : env.P.funcs[41]? = some Tryd.f41 := rfl
/-- strings.Cut -/
theorem fn_42 : env.P.funcs[42]? = some Tryd.f42 := rfl
/-- syllabary/scheme.readLine -/
theorem fn_43 : env.P.funcs[43]? = some Tryd.f43 := rfl
/-- syllabary/syllabaryref02.head -/
theorem fn_44 : env.P.funcs[44]? = some Tryd.f44 := rfl
/-- syllabary/syllabaryref02.rule -/
theorem fn_45 : env.P.funcs[45]? = some Tryd.f45 := rfl
/-- syllabary/scheme.allSmall -/
theorem fn_46 : env.P.funcs[46]? = some Tryd.f46 := rfl
/-- syllabary/syllabaryref02.Small -/
theorem fn_47 : env.P.funcs[47]? = some Tryd.f47 := rfl
/-- syllabary/scheme.allKnown -/
theorem fn_48 : env.P.funcs[48]? = some Tryd.f48 := rfl
/-- syllabary/syllabaryref02.Plain -/
theorem fn_49 : env.P.funcs[49]? = some Tryd.f49 := rfl
/-- syllabary/syllabaryref02.simple -/
theorem fn_50 : env.P.funcs[50]? = some Tryd.f50 := rfl
/-- slices.Index[[]syllabary/api.Rule,syllabary/api.Rule] -/
theorem fn_51 : env.P.funcs[51]? = some Tryd.f51 := rfl
/-- (*strings.Builder).copyCheck -/
theorem fn_52 : env.P.funcs[52]? = some Tryd.f52 := rfl
/-- internal/strconv.Itoa -/
theorem fn_53 : env.P.funcs[53]? = some Tryd.f53 := rfl
/-- (*strings.Builder).Grow -/
theorem fn_54 : env.P.funcs[54]? = some Tryd.f54 := rfl
/-- internal/stringslite.Cut -/
theorem fn_55 : env.P.funcs[55]? = some Tryd.f55 := rfl
/-- syllabary/scheme.readLine$1 -/
theorem fn_56 : env.P.funcs[56]? = some Tryd.f56 := rfl
/-- strings.Split -/
theorem fn_57 : env.P.funcs[57]? = some Tryd.f57 := rfl
/-- syllabary/scheme.start -/
theorem fn_58 : env.P.funcs[58]? = some Tryd.f58 := rfl
/-- syllabary/scheme.number -/
theorem fn_59 : env.P.funcs[59]? = some Tryd.f59 := rfl
/-- syllabary/scheme.text -/
theorem fn_60 : env.P.funcs[60]? = some Tryd.f60 := rfl
/-- syllabary/syllabaryref02.Number -/
theorem fn_61 : env.P.funcs[61]? = some Tryd.f61 := rfl
/-- syllabary/syllabaryref02.text -/
theorem fn_62 : env.P.funcs[62]? = some Tryd.f62 := rfl
/-- syllabary/scheme.class -/
theorem fn_63 : env.P.funcs[63]? = some Tryd.f63 := rfl
/-- internal/strconv.FormatInt -/
theorem fn_65 : env.P.funcs[65]? = some Tryd.f65 := rfl
/-- (*strings.Builder).grow -/
theorem fn_66 : env.P.funcs[66]? = some Tryd.f66 := rfl
/-- internal/stringslite.Index -/
theorem fn_67 : env.P.funcs[67]? = some Tryd.f67 := rfl
/-- strings.genSplit -/
theorem fn_68 : env.P.funcs[68]? = some Tryd.f68 := rfl
/-- internal/strconv.small -/
theorem fn_69 : env.P.funcs[69]? = some Tryd.f69 := rfl
/-- internal/strconv.numDigits -/
theorem fn_70 : env.P.funcs[70]? = some Tryd.f70 := rfl
/-- internal/strconv.formatBase10 -/
theorem fn_71 : env.P.funcs[71]? = some Tryd.f71 := rfl
/-- internal/strconv.formatBits -/
theorem fn_72 : env.P.funcs[72]? = some Tryd.f72 := rfl
/-- internal/stringslite.IndexByte -/
theorem fn_74 : env.P.funcs[74]? = some Tryd.f74 := rfl
/-- internal/bytealg.Cutover -/
theorem fn_76 : env.P.funcs[76]? = some Tryd.f76 := rfl
/-- internal/bytealg.IndexRabinKarp[string] -/
theorem fn_77 : env.P.funcs[77]? = some Tryd.f77 := rfl
/-- strings.explode -/
theorem fn_78 : env.P.funcs[78]? = some Tryd.f78 := rfl
/-- strings.Count -/
theorem fn_79 : env.P.funcs[79]? = some Tryd.f79 := rfl
/-- strings.Index -/
theorem fn_80 : env.P.funcs[80]? = some Tryd.f80 := rfl
/-- internal/strconv.log10Pow2 -/
theorem fn_81 : env.P.funcs[81]? = some Tryd.f81 := rfl
/-- math/bits.Len64 -/
theorem fn_82 : env.P.funcs[82]? = some Tryd.f82 := rfl
/-- internal/strconv.bool2[int] -/
theorem fn_83 : env.P.funcs[83]? = some Tryd.f83 := rfl
/-- internal/strconv.isPowerOfTwo -/
theorem fn_84 : env.P.funcs[84]? = some Tryd.f84 := rfl
/-- math/bits.TrailingZeros -/
theorem fn_85 : env.P.funcs[85]? = some Tryd.f85 := rfl
/-- internal/bytealg.hashStr[string] -/
theorem fn_87 : env.P.funcs[87]? = some Tryd.f87 := rfl
/-- unicode/utf8.RuneCountInString -/
theorem fn_88 : env.P.funcs[88]? = some Tryd.f88 := rfl
/-- unicode/utf8.DecodeRuneInString -/
theorem fn_89 : env.P.funcs[89]? = some Tryd.f89 := rfl
/-- math/bits.TrailingZeros32 -/
theorem fn_91 : env.P.funcs[91]? = some Tryd.f91 := rfl
/-- math/bits.TrailingZeros64 -/
theorem fn_92 : env.P.funcs[92]? = some Tryd.f92 := rfl
/-- unicode/utf8.decodeRuneInStringSlow -/
theorem fn_93 : env.P.funcs[93]? = some Tryd.f93 := rfl
/-- gosem.cut.vars -/
theorem fn_119 : env.P.funcs[119]? = some Tryd.f119 := rfl
attribute [go_sem] e_ty1 e_ty2 e_ty3 e_ty4 e_ty5 e_ty6 e_ty7 e_ty8 e_ty9 e_ty10 e_ty11 e_ty12 e_ty13 e_ty14 e_ty21 e_ty22 e_ty23 e_ty24 e_ty25 e_ty26 e_ty27 e_ty28 e_ty29 e_ty30 e_ty31 e_ty32 e_ty33 e_ty35 e_ty36 e_ty37 e_ty38 e_ty40 e_ty41 e_ty42 e_ty43 e_ty44 e_ty45 e_ty46 e_ty47 e_ty48 e_ty49 e_ty50 e_ty51 e_ty52 e_ty53 e_ty54 e_ty55 e_ty56 e_ty57 e_ty58 e_ty59 e_ty60 e_ty61 e_ty62 e_ty63 e_ty64 e_ty65 e_ty66 e_ty67 e_ty68 e_ty69 e_ty70 e_ty74 e_ty75 e_ty76 e_ty77 e_ty78 e_ty80 e_ty81 e_ty84 e_ty86 e_ty87 e_ty88 e_ty89 e_ty90 e_ty92 e_ty93 e_ty94 e_ty96 e_ty97 e_ty99 e_ty100 e_ty101 e_ty102 e_ty106 e_ty107 e_ty108 e_ty110 e_ty111 e_ty112 e_ty113 e_ty114 e_ty115 e_ty116 e_ty118 e_ty120 e_ty121 e_ty123 e_ty124 e_ty126 e_ty127 e_ty131 e_ty132 e_ty133 e_ty139 e_ty140 e_ty141 e_ty142 e_ty143 e_ty144 e_str7 e_str8 e_str13 e_str14 e_str23 e_str24 e_str26 e_str27 e_str28 e_str29 e_str63 e_str64 e_str69 e_str70 e_str131 e_str132 e_str44 e_str47 e_str51 e_str87 e_str133 e_cmp7 e_cmp8 e_cmp28 e_cmp29 e_cmp44 e_cmp47 e_cmp51 e_cmp87 e_cmp131 e_cmp132 e_cmp133 e_fn2 e_fn3 e_fn4 e_fn5 e_fn6 e_fn7 e_fn8 e_fn9 e_fn10 e_fn11 e_fn12 e_fn13 e_fn14 e_fn15 e_fn16 e_fn17 e_fn18 e_fn19 e_fn20 e_fn21 e_fn22 e_fn23 e_fn24 e_fn25 e_fn26 e_fn27 e_fn29 e_fn30 e_fn31 e_fn32 e_fn33 e_fn35 e_fn36 e_fn37 e_fn39 e_fn40 e_fn41 e_fn42 e_fn45 e_fn46 e_fn47 e_fn48 e_fn49 e_fn50 e_fn51 e_fn53 e_fn54 e_fn55 e_fn57 e_fn58 e_fn59 e_fn60 e_fn61 e_fn62 e_fn63 e_fn65 e_fn66 e_fn67 e_fn68 e_fn69 e_fn70 e_fn71 e_fn72 e_fn74 e_fn76 e_fn77 e_fn78 e_fn79 e_fn80 e_fn81 e_fn82 e_fn83 e_fn84 e_fn85 e_fn87 e_fn88 e_fn89 e_fn91 e_fn92 e_fn93 e_fn119 e_fn28 e_hfn28 e_fn34 e_hfn34 e_fn38 e_hfn38 e_fn43 e_hfn43 e_fn44 e_hfn44 e_fn52 e_hfn52 e_con0 e_px0 e_emp0 e_fl0 e_stp0 e_nd0 e_ro0 e_tm0 e_bx0 e_el0
end Go.Proofs.YtcmolphllladbaaDoor
namespace Go.Proofs.YtcmolphllladbaaDoor
open Go.Lib
set_option maxHeartbeats 1000000

def spl (c : UInt8) : List UInt8 → List (List UInt8)
  | [] => [[]]
  | x :: r => if x = c then [] :: spl c r else match spl c r with | [] => [[x]] | h :: t => (x :: h) :: t
def joinC (c : UInt8) : List (List UInt8) → List UInt8
  | [] => [] | [x] => x | x :: y :: r => x ++ c :: joinC c (y :: r)
theorem join_joinC (c : UInt8) : ∀ (l : List (List UInt8)), Lib.join l [c] = joinC c l
  | [] => rfl
  | [x] => join_one _ _
  | x :: y :: r => by
    have ih := join_joinC c (y :: r)
    rw [join_cons] at ih ⊢
    show x ++ ([c] ++ y ++ joinTail [c] r) = x ++ c :: joinC c (y :: r)
    rw [← ih, List.append_assoc]; rfl
theorem spl_ne (c : UInt8) : ∀ (s : List UInt8), spl c s ≠ []
  | [] => by simp [spl]
  | x :: r => by
    unfold spl
    split
    · simp
    · split <;> simp
theorem joinC_cons (c : UInt8) (x : List UInt8) {l : List (List UInt8)} (h : l ≠ []) : joinC c (x :: l) = x ++ c :: joinC c l := by
  cases l with
  | nil => exact absurd rfl h
  | cons y r => rfl
theorem joinC_spl (c : UInt8) : ∀ (s : List UInt8), joinC c (spl c s) = s
  | [] => rfl
  | x :: r => by
    have ih := joinC_spl c r
    have hn := spl_ne c r
    unfold spl
    split
    · rename_i h
      rw [joinC_cons c [] hn, ih, h]; rfl
    · split
      · rename_i h; exact absurd h hn
      · rename_i h t e
        rw [e] at ih
        cases t with
        | nil => simp only [joinC] at ih ⊢; rw [ih]
        | cons y t => simp only [joinC] at ih ⊢; rw [← ih]; rfl
theorem spl_no (c : UInt8) : ∀ {x : List UInt8}, c ∉ x → spl c x = [x]
  | [], _ => rfl
  | a :: x, h => by
    have h1 : ¬ a = c := fun e => h (by simp [e])
    have h2 : c ∉ x := fun e => h (by simp [e])
    unfold spl
    rw [if_neg h1, spl_no c h2]
theorem spl_cons (c : UInt8) (r : List UInt8) : ∀ {x : List UInt8}, c ∉ x → spl c (x ++ c :: r) = x :: spl c r
  | [], _ => by show spl c (c :: r) = _; rw [spl, if_pos rfl]
  | a :: x, h => by
    have h1 : ¬ a = c := fun e => h (by simp [e])
    have h2 : c ∉ x := fun e => h (by simp [e])
    show spl c (a :: (x ++ c :: r)) = _
    rw [spl, if_neg h1, spl_cons c r h2]
theorem spl_join (c : UInt8) : ∀ {l : List (List UInt8)}, l ≠ [] → (∀ x, x ∈ l → c ∉ x) → spl c (joinC c l) = l
  | [], h, _ => absurd rfl h
  | [x], _, h => spl_no c (h x (by simp))
  | x :: y :: r, _, h => by
    show spl c (x ++ c :: joinC c (y :: r)) = _
    rw [spl_cons c _ (h x (by simp)), spl_join c (by simp) (fun z hz => h z (by simp at hz ⊢; exact .inr hz))]
theorem spl_mem (c : UInt8) : ∀ {s x : List UInt8}, x ∈ spl c s → c ∉ x
  | [], x, h => by simp only [spl, List.mem_singleton] at h; subst h; simp
  | a :: r, x, h => by
    unfold spl at h
    split at h
    · rcases List.mem_cons.1 h with h | h
      · subst h; simp
      · exact spl_mem c h
    · rename_i ha
      split at h
      · rename_i e; exact absurd e (spl_ne c r)
      · rename_i h' t e
        rcases List.mem_cons.1 h with h | h
        · subst h
          have := spl_mem c (s := r) (x := h') (by rw [e]; simp)
          simp only [List.mem_cons, not_or]
          exact ⟨fun e => ha e.symm, this⟩
        · exact spl_mem c (s := r) (by rw [e]; simp [h])
/-- A text has no c, or one comes first. -/
theorem first_c (c : UInt8) : ∀ (s : List UInt8), c ∉ s ∨ ∃ x r, s = x ++ c :: r ∧ c ∉ x
  | [] => .inl (by simp)
  | a :: s => by
    by_cases h : a = c
    · exact .inr ⟨[], s, by simp [h], by simp⟩
    · rcases first_c c s with h1 | ⟨x, r, h1, h2⟩
      · exact .inl (by simp only [List.mem_cons, not_or]; exact ⟨fun e => h e.symm, h1⟩)
      · exact .inr ⟨a :: x, r, by simp [h1], by simp only [List.mem_cons, not_or]; exact ⟨fun e => h e.symm, h2⟩⟩
theorem occ_one (c : UInt8) (s : List UInt8) (j : Nat) : occAt s [c] j = decide (s[j]? = some c) := by
  unfold occAt
  cases h : s[j]? with
  | none => rw [List.drop_eq_nil_of_le (List.getElem?_eq_none_iff.1 h)]; simp
  | some y =>
    obtain ⟨hj, e⟩ := List.getElem?_eq_some_iff.1 h
    rw [List.drop_eq_getElem_cons hj, e]
    by_cases hc : y = c
    · subst hc; simp [List.isPrefixOf]
    · simp [List.isPrefixOf, hc, Ne.symm hc]
theorem index_no {c : UInt8} {s : List UInt8} (h : c ∉ s) : index s [c] = -1 :=
  index_none fun j _ => by
    rw [occ_one]
    exact decide_eq_false fun e => h (List.mem_of_getElem? e)
theorem index_yes {c : UInt8} {x r : List UInt8} (h : c ∉ x) : index (x ++ c :: r) [c] = (x.length : Int) :=
  index_first (by simp) (by rw [occ_one]; simp) fun j hj => by
    rw [occ_one]
    refine decide_eq_false fun e => ?_
    rw [List.getElem?_append_left hj] at e
    exact h (List.mem_of_getElem? e)
theorem cut_no {c : UInt8} {s : List UInt8} (h : c ∉ s) : Lib.cut s [c] = (s, [], false) := by
  unfold Lib.cut
  rw [index_no h]; rfl
theorem cut_yes {c : UInt8} {x r : List UInt8} (h : c ∉ x) : Lib.cut (x ++ c :: r) [c] = (x, r, true) := by
  unfold Lib.cut
  rw [index_yes h, if_pos (Int.natCast_nonneg _)]
  simp
theorem split_spl (c : UInt8) : ∀ (n : Nat) (s : List UInt8), s.length < n → Lib.split s [c] = spl c s
  | 0, s, h => absurd h (Nat.not_lt_zero _)
  | n + 1, s, hn => by
    rcases first_c c s with h | ⟨x, r, rfl, h⟩
    · unfold Lib.split
      rw [count_miss (index_no h), spl_no c h]; rfl
    · have ih := split_spl c n r (by simp at hn; omega)
      unfold Lib.split at ih ⊢
      have e := index_yes (r := r) h
      have ed : (x ++ c :: r).drop (x.length + [c].length) = r := by simp
      rw [count_hit (by simp) e, ed, Nat.add_comm, splitK, if_neg (by rw [e]; simp), e, spl_cons c r h]
      have et : ((x.length : Int).toNat + 0) = x.length := by simp
      have et2 : (x.length : Int).toNat = x.length := by simp
      rw [et, et2, ed, ih]
      simp

/-! Decimal numbers. -/
def dig (u : UInt8) : Bool := decide (48 ≤ u.toNat ∧ u.toNat ≤ 57)
def valS (s : List UInt8) : Nat := s.foldl (fun n u => 10 * n + (u.toNat - 48)) 0
theorem valS_snoc (s : List UInt8) (x : UInt8) : valS (s ++ [x]) = 10 * valS s + (x.toNat - 48) := by
  unfold valS
  rw [List.foldl_append]; rfl
theorem val_mono : ∀ (l : List UInt8) (n : Nat), n ≤ l.foldl (fun n u => 10 * n + (u.toNat - 48)) n
  | [], n => Nat.le_refl _
  | x :: l, n => by
    have := val_mono l (10 * n + (x.toNat - 48))
    rw [List.foldl_cons]
    omega
theorem valS_pos {x : UInt8} {l : List UInt8} (h : 49 ≤ x.toNat) : 1 ≤ valS (x :: l) := by
  have := val_mono l (x.toNat - 48)
  unfold valS
  rw [List.foldl_cons]
  simp only [Nat.mul_zero, Nat.zero_add]
  omega
theorem digit_nat {d : Nat} (h : d < 10) : (UInt8.ofNat (48 + d)).toNat = 48 + d := by
  rw [UInt8.toNat_ofNat']; omega
theorem digit_is {x : UInt8} (h : dig x = true) : UInt8.ofNat (48 + (x.toNat - 48)) = x := by
  simp only [dig, decide_eq_true_eq] at h
  apply UInt8.toNat_inj.1
  rw [digit_nat (by omega)]; omega
theorem dec_small {u : Nat} (h : u < 10) : decDigits u = [UInt8.ofNat (48 + u)] := by rw [decDigits, dif_pos h]
theorem dec_big {u : Nat} (h : ¬ u < 10) : decDigits u = decDigits (u / 10) ++ [UInt8.ofNat (48 + u % 10)] := by rw [decDigits, dif_neg h]
theorem valS_dec (u : Nat) : valS (decDigits u) = u := by
  induction u using Nat.strongRecOn with
  | _ u ih =>
    by_cases h : u < 10
    · rw [dec_small h]
      show 10 * 0 + ((UInt8.ofNat (48 + u)).toNat - 48) = u
      rw [digit_nat h]; omega
    · rw [dec_big h, valS_snoc, ih (u / 10) (by omega), digit_nat (by omega)]; omega
theorem dig_dec (u : Nat) : (decDigits u).all dig = true := by
  induction u using Nat.strongRecOn with
  | _ u ih =>
    by_cases h : u < 10
    · rw [dec_small h]; simp only [List.all_cons, List.all_nil, Bool.and_true, dig, digit_nat h]; simp; omega
    · rw [dec_big h, List.all_append, ih (u / 10) (by omega)]
      simp only [List.all_cons, List.all_nil, Bool.and_true, Bool.true_and, dig, digit_nat (show u % 10 < 10 by omega)]; simp; omega
theorem dec_head (u : Nat) : ∃ x r, decDigits u = x :: r ∧ (r ≠ [] → 49 ≤ x.toNat) ∧ (1 ≤ u → 49 ≤ x.toNat) := by
  induction u using Nat.strongRecOn with
  | _ u ih =>
    by_cases h : u < 10
    · exact ⟨_, [], dec_small h, fun h => absurd rfl h, fun h1 => by rw [digit_nat h]; omega⟩
    · obtain ⟨x, r, e, _, h2⟩ := ih (u / 10) (by omega)
      have := h2 (by omega)
      exact ⟨x, r ++ [UInt8.ofNat (48 + u % 10)], by rw [dec_big h, e]; rfl, fun _ => this, fun _ => this⟩
theorem dec_len : ∀ (k u : Nat), u < 10 ^ (k + 1) → (decDigits u).length ≤ k + 1
  | 0, u, h => by rw [dec_small (by simpa using h)]; simp
  | k + 1, u, h => by
    by_cases h1 : u < 10
    · rw [dec_small h1]; simp
    · rw [Nat.pow_succ] at h
      have := dec_len k (u / 10) (by omega)
      rw [dec_big h1, List.length_append]; simp; omega
theorem dec_val : ∀ (n : Nat) (s : List UInt8), s.length = n → s ≠ [] → s.all dig = true → (∀ x r, s = x :: r → r ≠ [] → 49 ≤ x.toNat) → decDigits (valS s) = s
  | 0, s, hn, hne, _, _ => absurd (List.eq_nil_of_length_eq_zero hn) hne
  | n + 1, s, hn, hne, hd, hh => by
    obtain ⟨l, z, rfl⟩ : ∃ l z, s = l ++ [z] := ⟨s.dropLast, s.getLast hne, (List.dropLast_concat_getLast hne).symm⟩
    rw [List.all_append, Bool.and_eq_true] at hd
    have hlast : dig z = true := by simpa using hd.2
    have hx : z.toNat - 48 < 10 := by simp only [dig, decide_eq_true_eq] at hlast; omega
    cases l with
    | nil =>
      show decDigits (10 * 0 + (z.toNat - 48)) = [z]
      rw [dec_small (by omega), Nat.mul_zero, Nat.zero_add, digit_is hlast]
    | cons y l =>
      have hy : 49 ≤ y.toNat := hh y (l ++ [z]) rfl (by simp)
      have hp := valS_pos (l := l) hy
      have ih := dec_val n (y :: l) (by simp at hn ⊢; omega) (by simp) hd.1 (fun a b hab _ => by injection hab with h1 _; subst h1; exact hy)
      rw [valS_snoc, dec_big (by omega)]
      have e1 : (10 * valS (y :: l) + (z.toNat - 48)) / 10 = valS (y :: l) := by omega
      have e2 : (10 * valS (y :: l) + (z.toNat - 48)) % 10 = z.toNat - 48 := by omega
      rw [e1, e2, ih, digit_is hlast]
theorem itoa_dec {n : Int} (h : 0 ≤ n) : itoa n = decDigits n.toNat := by unfold itoa; rw [if_neg (by omega)]
theorem all_no_c {c : UInt8} {p : UInt8 → Bool} {s : List UInt8} (hc : p c = false) (h : s.all p = true) : c ∉ s := fun hm => by
  rw [List.all_eq_true] at h
  have := h c hm
  rw [hc] at this; cases this
end Go.Proofs.YtcmolphllladbaaDoor
namespace Go.Proofs.YtcmolphllladbaaDoor
set_option maxHeartbeats 4000000
set_option maxRecDepth 100000
theorem i64_ok {x : Int} (h : -9223372036854775808 ≤ x) (h' : x ≤ 9223372036854775807) : IntKind.i64.min ≤ x ∧ x ≤ IntKind.i64.max := ⟨h, h'⟩
theorem i64_of {x : Int} (h : IntKind.i64.min ≤ x ∧ x ≤ IntKind.i64.max) : -9223372036854775808 ≤ x ∧ x ≤ 9223372036854775807 := h
theorem u8_ok {x : Int} (h : 0 ≤ x) (h' : x ≤ 255) : IntKind.u8.min ≤ x ∧ x ≤ IntKind.u8.max := ⟨h, h'⟩
theorem u8_of {x : Int} (h : IntKind.u8.min ≤ x ∧ x ≤ IntKind.u8.max) : 0 ≤ x ∧ x ≤ 255 := h
theorem drop_cons {α : Type} {xs : List α} {i : Nat} {x : α} (h : xs[i]? = some x) : xs.drop i = x :: xs.drop (i + 1) := by
  obtain ⟨hi, e⟩ := List.getElem?_eq_some_iff.1 h
  rw [List.drop_eq_getElem_cons hi, e]
theorem take_snoc {α : Type} {xs : List α} {i : Nat} {x : α} (h : xs[i]? = some x) : xs.take (i + 1) = xs.take i ++ [x] := by
  rw [List.take_add_one, h]; rfl
theorem get_of_lt {α : Type} {xs : List α} {i : Nat} (h : i < xs.length) : ∃ x, xs[i]? = some x := ⟨_, List.getElem?_eq_getElem h⟩
theorem all_step {α : Type} {xs : List α} {i : Nat} {x : α} {p : α → Bool} (h : xs[i]? = some x) : (xs.take (i + 1)).all p = ((xs.take i).all p && p x) := by
  rw [take_snoc h, List.all_append]
  simp
theorem all_no {α : Type} {xs : List α} {i : Nat} {x : α} {p : α → Bool} (h : xs[i]? = some x) (hp : p x = false) : xs.all p = false := by
  rw [List.all_eq_false]
  exact ⟨x, List.mem_of_getElem? h, by simp [hp]⟩
/-- What several branches lead to is walked once. -/
theorem Walks.shareX {E : Env} {G : Goal} {todo : List WI} {X : Type} (t : X → St) (inv : X → Prop) {A : Prop} (h : (∀ s x, inv x → Le s (t x) → Walks E G todo s) → A) (hw : ∀ x, inv x → Walks E G todo (t x)) : A :=
  h fun s x hx hl => Walks.weaken hl (hw x hx)
/-- A loop whose rounds go down in a well-founded order. -/
theorem Walks.loopR {E : Env} {G : Goal} {c : Code} {k : List WI} {s : St} {X : Type} {R : X → X → Prop} (hR : WellFounded R) (sl : X → List (Nat × PV)) (bl : X → List (Nat × Blk)) (inv : X → Prop) (x0 : X)
    (h : ∀ b1 b2, dropSl (codeW c ++ (sl x0).map (·.1)) s.sl = b1 → dropBk (keys (bl x0)) s.bl = b2 → Le s ⟨sl x0 ++ b1, bl x0 ++ b2⟩ ∧ inv x0 ∧
      ∀ x, inv x → (∀ (t : St) (y : X), Le t ⟨sl y ++ b1, bl y ++ b2⟩ → inv y → R y x → Walks E G (.loop c :: k) t) → Walks E G (.code c :: .loop c :: k) ⟨sl x ++ b1, bl x ++ b2⟩) : Walks E G (.code (.loop c) :: k) s := by
  obtain ⟨h1, h2, h3⟩ := h _ _ rfl rfl
  generalize dropSl (codeW c ++ (sl x0).map (·.1)) s.sl = b1 at h1 h3
  generalize dropBk (keys (bl x0)) s.bl = b2 at h1 h3
  have main : ∀ x, inv x → Walks E G (.code c :: .loop c :: k) ⟨sl x ++ b1, bl x ++ b2⟩ := by
    intro x
    induction x using hR.induction with
    | _ x ih =>
      intro hx
      refine h3 x hx fun t y hl hy hr => ?_
      intro w0 S0 a w hrel
      exact Ends.step (fun b cs => .one step_inLoop) (ih y hr hy w0 S0 a w (hrel.weaken hl))
  refine Walks.weaken h1 ?_
  intro w0 S0 a w hr
  exact Ends.step (fun b cs => .one step_loop) (main x0 h2 w0 S0 a w hr)
/-- A contract's result as a decision, so that walks part by themselves. -/
theorem PC.dec {E : Env} {f : Nat} {xs : List (Sigma Ty.den)} {b : Bool} (h : PC E f xs .bool b) : PC E f xs .bool (decide (b = true)) := by cases b <;> exact h
/-- A contract that hands over local blocks, by other names. -/
theorem HC.ren {E : Env} {f : Nat} {args : List PV} {bl bl' : List (Nat × Blk)} {p : PV} (l : List (Nat × Nat)) (hp : permOK l = true) (h : HC E f args bl p bl') : HC E f args bl (p.ren (permF l)) (renBl (permF l) bl') := by
  intro w S ν0 vs a1 a2 a3 a4 a5 a6
  refine (h w S ν0 vs a1 a2 a3 a4 a5 a6).mono ?_
  rintro e w' ⟨v, rfl, hk, ν, S', b1, b2, b3, hW, hv⟩
  refine ⟨v, rfl, hk, ?_⟩
  obtain ⟨h1, h2, h3⟩ := permOK_inv hp
  have inj : ∀ i j, permF l i = permF l j → i = j := fun i j e => by rw [← h1 i, ← h1 j, e]
  have hlook : ∀ i b, look i bl' = some b → look (permF l i) (renBl (permF l) bl') = some (b.map (PV.renL (permF l))) := fun i b hb => look_renBl_of (fun j c _ e => inj j i e) hb
  have hold : ∀ i b, look i (renBl (permF l) bl') = some b → ∃ j c, permF l j = i ∧ look j bl' = some c ∧ b = c.map (PV.renL (permF l)) := fun i b hb => look_renBl (fun j k _ _ _ _ e => inj j k e) hb
  have hle : Ctx.LeR (keys bl') (permF l) ⟨ν, (⟨[], bl'⟩ : St).D, w', ⟨S', own0 w ⟨S, foot ν0 bl, ν0, []⟩⟩⟩ ⟨fun i => ν (permF (swapL l) i), (⟨[], renBl (permF l) bl'⟩ : St).D, w', ⟨S', own0 w ⟨S, foot ν0 bl, ν0, []⟩⟩⟩ :=
    ⟨fun _ _ => rfl, fun _ h => h, fun i _ ⟨b, hb⟩ => ⟨_, hlook i b hb⟩, fun i _ _ => by simp only [h1]⟩
  have back3 : ∀ j, P0 ≤ permF l j → P0 ≤ j := fun j hi => by
    rcases Nat.lt_or_ge j P0 with h' | h'
    · exfalso
      have e := h3 (permF l j) hi
      have := inj _ _ e
      omega
    · exact h'
  refine ⟨fun i => ν (permF (swapL l) i), S', b1, b2, fun i hi ⟨b, hb⟩ => ?_, ⟨hW.lt, hW.size, fun i b hb => ?_, fun i j b c hij hi hj g hg hg' => ?_⟩, PRel_ren hle (PRel_keys (fun _ h => h) hv) hv⟩
  · obtain ⟨j, c, rfl, hc, _⟩ := hold i b hb
    have hj := back3 j hi
    rw [h3 j hj]
    have e : permF (swapL l) j = j := by
      have := h1 j
      rw [h3 j hj] at this
      exact this
    simp only [e]
    exact b3 j hj ⟨c, hc⟩
  · obtain ⟨j, c, rfl, hc, rfl⟩ := hold i b hb
    have hr := hW.blk j c hc
    exact BRel_ren hle (BRel_keys (fun _ h => h) hr) (by simp only [h1]) (fun g hg => ⟨rfl, (BRel_at hr hg).1, (BRel_at hr hg).2.1⟩) hr
  · obtain ⟨i', b', rfl, hb', _⟩ := hold i b hi
    obtain ⟨j', c', rfl, hc', _⟩ := hold j c hj
    simp only [h1] at hg hg'
    exact hW.ne i' j' b' c' (fun e => hij (by rw [e])) hb' hc' g hg hg'
theorem PK_cast {E : Env} {G : Goal} {n : Nat} {b b' : Bool} {d : Nat} {want : Bool} {o : Oper} {all : List Oper} {N : List Nat} {acc : List (List Nat)} {os : List Oper} {k : List WI} {s : St} (h : b = b') (hp : PK E G n (.iv .bool b') d want o all N acc os k s) : PK E G n (.iv .bool b) d want o all N acc os k s := by rw [h]; exact hp
theorem PB_cast {E : Env} {G : Goal} {n : Nat} {b b' : Bool} {x y : Code} {k : List WI} {s : St} (h : b = b') (hp : PB E G n (.iv .bool b') x y k s) : PB E G n (.iv .bool b) x y k s := by rw [h]; exact hp
abbrev Str := List UInt8
abbrev Rl := Int × Int × Str × Str × Int
abbrev Sch := Int × Int × List Rl
instance instRl : DecidableEq Rl := fun a b => inferInstanceAs (Decidable ((a : Int × Int × Str × Str × Int) = b))
theorem bne_dec (x y : Bool) : (!x == y) = decide (¬ x = y) := by cases x <;> cases y <;> rfl
def inB (n a b : Int) : Bool := decide (a ≤ n ∧ n ≤ b)
def low (u : UInt8) : Bool := decide (97 ≤ u.toNat ∧ u.toNat ≤ 122)
def aln (u : UInt8) : Bool := decide (97 ≤ u.toNat ∧ u.toNat ≤ 122 ∨ 65 ≤ u.toNat ∧ u.toNat ≤ 90 ∨ 48 ≤ u.toNat ∧ u.toNat ≤ 57)
theorem and_one {a : Int} (h : 0 ≤ a) : ((a.toNat &&& (1 : Int).toNat : Nat) : Int) = a % 2 := by
  show ((a.toNat &&& 1 : Nat) : Int) = _
  rw [Nat.and_one_is_mod]; omega
theorem shr_nn {a : Int} (h : 0 ≤ a) (m : Nat) : 0 ≤ a / 2 ^ m := Int.ediv_nonneg h (Int.le_of_lt (Int.pow_pos (by decide)))
theorem c_In (v a b : Int) : PC env 33 [⟨.int .i64, v⟩, ⟨.int .i64, a⟩, ⟨.int .i64, b⟩] .bool (inB v a b) := by
  refine PC.of_PW (m := 2000) env_ok fn_33 rfl rfl rfl rfl (by kernel_rfl) ?_; intro hx; simp only [Tryd.f33]; simp only [go_sem, Nat.reduceBEq, ↓reduceIte, ↓reduceDIte, Nat.reduceAdd, Nat.reduceSub, Nat.reduceMul, Nat.reduceLeDiff, ← Bool.decide_and, ← Bool.decide_or, ← decide_not, Int.reduceLT, Int.reduceLE, Int.reduceToNat, Int.reduceNeg]
  unfold inB
  refine ⟨fun h => ?_, fun h => ?_⟩
  · congr 1; simp; omega
  · symm; simp; omega
theorem c_Small (s : Str) : PC env 47 [⟨.str, s⟩] .bool (s.all low) := by
  refine PC.of_PW (m := 2000) env_ok fn_47 rfl rfl rfl rfl (by kernel_rfl) ?_; intro hx; simp only [Tryd.f47]; simp only [go_sem, Nat.reduceBEq, ↓reduceIte, ↓reduceDIte, Nat.reduceAdd, Nat.reduceSub, Nat.reduceMul, Nat.reduceLeDiff, ← Bool.decide_and, ← Bool.decide_or, ← decide_not, Int.reduceLT, Int.reduceLE, Int.reduceToNat, Int.reduceNeg]
  have hlen : s.length ≤ 9223372036854775807 := hx.1
  refine Walks.loopA (X := Nat) (fun (i : Nat) => [(3, .iv (.int .i64) (i : Int))]) (fun (i : Nat) => []) (fun (i : Nat) => i ≤ s.length ∧ (s.take i).all low = true) (fun (i : Nat) => s.length - i) 0 ?_; intro b1 b2 hb1 hb2; simp (config := {maxSteps := 4000000}) only [go_sem, Nat.reduceBEq, ↓reduceIte, ↓reduceDIte, Nat.reduceAdd, Nat.reduceSub, Nat.reduceMul, Nat.reduceLeDiff, ← Bool.decide_and, ← Bool.decide_or, ← decide_not, Int.reduceLT, Int.reduceLE, Int.reduceToNat, Int.reduceNeg] at hb1 hb2; subst hb1; subst hb2; refine ⟨(by refine ⟨?_, ?_, rfl, rfl⟩ <;> repeat' (first | exact trivial | exact Or.inl rfl | exact Or.inr rfl | (refine And.intro (Or.inl rfl) ?_) | (refine And.intro (Or.inr (Or.inl rfl)) ?_) | (refine And.intro (Or.inr (Or.inr (Or.inr ⟨rfl, rfl⟩))) ?_) | (refine And.intro (Or.inr (Or.inr (Or.inl ⟨rfl, rfl, trivial⟩))) ?_) | exact ⟨(by show (_ : Nat) < 1000000000; omega), rfl, rfl⟩ | rfl | (refine And.intro (Or.inl ?_) ?_) | (refine And.intro ?_ ?_))), ?_, ?_⟩
  · exact ⟨Nat.zero_le _, rfl⟩
  intro i ⟨hi, hb⟩ back
  refine PW_sound env_ok ⟨_, fn_47, rfl⟩ 2000 _ _ (by kernel_rfl) ?_; simp only [go_sem, Nat.reduceBEq, ↓reduceIte, ↓reduceDIte, Nat.reduceAdd, Nat.reduceSub, Nat.reduceMul, Nat.reduceLeDiff, ← Bool.decide_and, ← Bool.decide_or, ← decide_not, Int.reduceLT, Int.reduceLE, Int.reduceToNat, Int.reduceNeg]
  refine ⟨fun h => ?_, fun h => ?_⟩
  · obtain ⟨x, hxi⟩ : ∃ x, s[i]? = some x := get_of_lt (by omega)
    have hno : low x = false → false = s.all low := fun hl => (all_no hxi hl).symm
    have hyes : low x = true → (s.take (i + 1)).all low = true := fun hl => by rw [all_step hxi, hb, hl]; rfl
    refine ⟨Int.natCast_nonneg _, _, ⟨x, hxi, rfl⟩, ?_⟩
    repeat' (first | (with_reducible intro _) | (with_reducible apply And.intro) | (with_reducible refine Exists.intro _ (And.intro (Exists.intro x (And.intro hxi rfl)) ?_)))
    all_goals first
      | (refine hno ?_; simp [low]; omega)
      | with_reducible exact Int.natCast_nonneg _
      | omega
      | (refine back _ (i + 1) (by refine ⟨?_, ?_, rfl, rfl⟩ <;> repeat' (first | exact trivial | exact Or.inl rfl | exact Or.inr rfl | (refine And.intro (Or.inl rfl) ?_) | (refine And.intro (Or.inr (Or.inl rfl)) ?_) | (refine And.intro (Or.inr (Or.inr (Or.inr ⟨rfl, rfl⟩))) ?_) | (refine And.intro (Or.inr (Or.inr (Or.inl ⟨rfl, rfl, trivial⟩))) ?_) | exact ⟨(by show (_ : Nat) < 1000000000; omega), rfl, rfl⟩ | rfl | (refine And.intro (Or.inl ?_) ?_) | (refine And.intro ?_ ?_))) ⟨by omega, hyes ?_⟩ (by omega); simp [low]; omega)
      | skip
  · rw [List.take_of_length_le (by omega)] at hb
    rw [hb]
theorem c_Plain (s : Str) : PC env 49 [⟨.str, s⟩] .bool (s.all aln) := by
  refine PC.of_PW (m := 2000) env_ok fn_49 rfl rfl rfl rfl (by kernel_rfl) ?_; intro hx; simp only [Tryd.f49]; simp only [go_sem, Nat.reduceBEq, ↓reduceIte, ↓reduceDIte, Nat.reduceAdd, Nat.reduceSub, Nat.reduceMul, Nat.reduceLeDiff, ← Bool.decide_and, ← Bool.decide_or, ← decide_not, Int.reduceLT, Int.reduceLE, Int.reduceToNat, Int.reduceNeg]
  have hlen : s.length ≤ 9223372036854775807 := hx.1
  refine Walks.loopA (X := Nat) (fun (i : Nat) => [(3, .iv (.int .i64) (i : Int))]) (fun (i : Nat) => []) (fun (i : Nat) => i ≤ s.length ∧ (s.take i).all aln = true) (fun (i : Nat) => s.length - i) 0 ?_; intro b1 b2 hb1 hb2; simp (config := {maxSteps := 4000000}) only [go_sem, Nat.reduceBEq, ↓reduceIte, ↓reduceDIte, Nat.reduceAdd, Nat.reduceSub, Nat.reduceMul, Nat.reduceLeDiff, ← Bool.decide_and, ← Bool.decide_or, ← decide_not, Int.reduceLT, Int.reduceLE, Int.reduceToNat, Int.reduceNeg] at hb1 hb2; subst hb1; subst hb2; refine ⟨(by refine ⟨?_, ?_, rfl, rfl⟩ <;> repeat' (first | exact trivial | exact Or.inl rfl | exact Or.inr rfl | (refine And.intro (Or.inl rfl) ?_) | (refine And.intro (Or.inr (Or.inl rfl)) ?_) | (refine And.intro (Or.inr (Or.inr (Or.inr ⟨rfl, rfl⟩))) ?_) | (refine And.intro (Or.inr (Or.inr (Or.inl ⟨rfl, rfl, trivial⟩))) ?_) | exact ⟨(by show (_ : Nat) < 1000000000; omega), rfl, rfl⟩ | rfl | (refine And.intro (Or.inl ?_) ?_) | (refine And.intro ?_ ?_))), ?_, ?_⟩
  · exact ⟨Nat.zero_le _, rfl⟩
  intro i ⟨hi, hb⟩ back
  refine PW_sound env_ok ⟨_, fn_49, rfl⟩ 2000 _ _ (by kernel_rfl) ?_; simp only [go_sem, Nat.reduceBEq, ↓reduceIte, ↓reduceDIte, Nat.reduceAdd, Nat.reduceSub, Nat.reduceMul, Nat.reduceLeDiff, ← Bool.decide_and, ← Bool.decide_or, ← decide_not, Int.reduceLT, Int.reduceLE, Int.reduceToNat, Int.reduceNeg]
  refine ⟨fun h => ?_, fun h => ?_⟩
  · obtain ⟨x, hxi⟩ : ∃ x, s[i]? = some x := get_of_lt (by omega)
    have hno : aln x = false → false = s.all aln := fun hl => (all_no hxi hl).symm
    have hyes : aln x = true → (s.take (i + 1)).all aln = true := fun hl => by rw [all_step hxi, hb, hl]; rfl
    refine ⟨Int.natCast_nonneg _, _, ⟨x, hxi, rfl⟩, ?_⟩
    repeat' (first | (with_reducible intro _) | (with_reducible apply And.intro))
    all_goals first
      | (refine hno ?_; simp [aln]; omega)
      | with_reducible exact Int.natCast_nonneg _
      | omega
      | (refine back _ (i + 1) (by refine ⟨?_, ?_, rfl, rfl⟩ <;> repeat' (first | exact trivial | exact Or.inl rfl | exact Or.inr rfl | (refine And.intro (Or.inl rfl) ?_) | (refine And.intro (Or.inr (Or.inl rfl)) ?_) | (refine And.intro (Or.inr (Or.inr (Or.inr ⟨rfl, rfl⟩))) ?_) | (refine And.intro (Or.inr (Or.inr (Or.inl ⟨rfl, rfl, trivial⟩))) ?_) | exact ⟨(by show (_ : Nat) < 1000000000; omega), rfl, rfl⟩ | rfl | (refine And.intro (Or.inl ?_) ?_) | (refine And.intro ?_ ?_))) ⟨by omega, hyes ?_⟩ (by omega); simp [aln]; omega)
      | exact (i64_ok (by omega) (by omega)).1
      | exact (i64_ok (by omega) (by omega)).2
      | skip
  · rw [List.take_of_length_le (by omega)] at hb
    rw [hb]
end Go.Proofs.YtcmolphllladbaaDoor
namespace Go.Proofs.YtcmolphllladbaaDoor
set_option maxHeartbeats 4000000
set_option maxRecDepth 100000
theorem take_eq {α : Type} {a b : List α} {k : Nat} (h : a.take k = b.take k) (ha : a.length ≤ k) (hb : b.length ≤ k) : a = b := by
  rwa [List.take_of_length_le ha, List.take_of_length_le hb] at h
theorem c_Same2 (a b : Sch) : PC env 18 [⟨SchemeT, a⟩, ⟨SchemeT, b⟩] .bool (decide (a = b)) := by
  obtain ⟨an, aa, al⟩ := a
  obtain ⟨bn, ba, bl⟩ := b
  refine PC.of_PW (m := 2000) env_ok fn_18 rfl rfl rfl rfl (by kernel_rfl) ?_; intro hx; simp only [Tryd.f18]; simp only [go_sem, Nat.reduceBEq, ↓reduceIte, ↓reduceDIte, Nat.reduceAdd, Nat.reduceSub, Nat.reduceMul, Nat.reduceLeDiff, ← Bool.decide_and, ← Bool.decide_or, ← decide_not, Int.reduceLT, Int.reduceLE, Int.reduceToNat, Int.reduceNeg]
  have hla : al.length ≤ 9223372036854775807 := hx.1.2.2.1
  have fin : ¬ (an, aa, al) = (bn, ba, bl) → false = decide ((an, aa, al) = (bn, ba, bl)) := fun h => by symm; rw [decide_eq_false_iff_not]; exact h
  refine ⟨fun h1 => ⟨fun hy2 => ⟨fun h3 => fin fun e => ?_, fun h3 => ?_⟩, fun h2 => fin fun e => h2 (congrArg (fun z => z.2.1) e)⟩, fun h1 => fin fun e => h1 (congrArg Prod.fst e)⟩
  · have := congrArg (fun z => z.2.2) e
    dsimp only at this
    exact h3 (by rw [this])
  · refine Walks.loopA (X := Nat) (fun (k : Nat) => [(5, .iv (.int .i64) (k : Int))]) (fun (k : Nat) => []) (fun (k : Nat) => k ≤ al.length ∧ al.take k = bl.take k) (fun (k : Nat) => al.length - k) 0 ?_; intro b1 b2 hb1 hb2; simp (config := {maxSteps := 4000000}) only [go_sem, Nat.reduceBEq, ↓reduceIte, ↓reduceDIte, Nat.reduceAdd, Nat.reduceSub, Nat.reduceMul, Nat.reduceLeDiff, ← Bool.decide_and, ← Bool.decide_or, ← decide_not, Int.reduceLT, Int.reduceLE, Int.reduceToNat, Int.reduceNeg] at hb1 hb2; subst hb1; subst hb2; refine ⟨(by refine ⟨?_, ?_, rfl, rfl⟩ <;> repeat' (first | exact trivial | exact Or.inl rfl | exact Or.inr rfl | (refine And.intro (Or.inl rfl) ?_) | (refine And.intro (Or.inr (Or.inl rfl)) ?_) | (refine And.intro (Or.inr (Or.inr (Or.inr ⟨rfl, rfl⟩))) ?_) | (refine And.intro (Or.inr (Or.inr (Or.inl ⟨rfl, rfl, trivial⟩))) ?_) | exact ⟨(by show (_ : Nat) < 1000000000; omega), rfl, rfl⟩ | rfl | (refine And.intro (Or.inl ?_) ?_) | (refine And.intro ?_ ?_))), ?_, ?_⟩
    · exact ⟨Nat.zero_le _, rfl⟩
    intro k ⟨hk, he⟩ back
    refine PW_sound env_ok ⟨_, fn_18, rfl⟩ 2000 _ _ (by kernel_rfl) ?_; simp only [go_sem, Nat.reduceBEq, ↓reduceIte, ↓reduceDIte, Nat.reduceAdd, Nat.reduceSub, Nat.reduceMul, Nat.reduceLeDiff, ← Bool.decide_and, ← Bool.decide_or, ← decide_not, Int.reduceLT, Int.reduceLE, Int.reduceToNat, Int.reduceNeg]
    refine ⟨fun h2 => ?_, fun h2 => ?_⟩
    · obtain ⟨x, hxi⟩ : ∃ x, al[k]? = some x := get_of_lt (by omega)
      obtain ⟨y, hyi⟩ : ∃ y, bl[k]? = some y := get_of_lt (by omega)
      refine ⟨Int.natCast_nonneg _, x, hxi, Int.natCast_nonneg _, y, hyi, fun hn => ?_, fun hy => ?_⟩
      · apply fin; intro e
        have e := congrArg (fun z => z.2.2) e
        dsimp only at e
        subst e
        rw [hxi] at hyi; injection hyi with hyi; subst hyi
        exact hn ⟨rfl, rfl, rfl, rfl, rfl⟩
      · have e : x = y := by
          obtain ⟨e1, e2, e3, e4, e5⟩ := hy
          exact Prod.ext e1 (Prod.ext e2 (Prod.ext e3 (Prod.ext e4 e5)))
        subst e
        exact ⟨i64_ok (by omega) (by omega), back _ (k + 1) (by refine ⟨?_, ?_, rfl, rfl⟩ <;> repeat' (first | exact trivial | exact Or.inl rfl | exact Or.inr rfl | (refine And.intro (Or.inl rfl) ?_) | (refine And.intro (Or.inr (Or.inl rfl)) ?_) | (refine And.intro (Or.inr (Or.inr (Or.inr ⟨rfl, rfl⟩))) ?_) | (refine And.intro (Or.inr (Or.inr (Or.inl ⟨rfl, rfl, trivial⟩))) ?_) | exact ⟨(by show (_ : Nat) < 1000000000; omega), rfl, rfl⟩ | rfl | (refine And.intro (Or.inl ?_) ?_) | (refine And.intro ?_ ?_))) ⟨by omega, by rw [take_snoc hxi, take_snoc hyi, he]⟩ (by omega)⟩
    · symm; rw [decide_eq_true_eq]
      rw [h1, hy2, take_eq he (by omega) (by omega)]
def rightR (n : Int) (r : Rl) : Bool := inB r.1 0 (n - 1) && inB r.2.1 0 (n - 1) && decide (r.2.2.1.length ≤ 4) && r.2.2.1.all low && decide (r.2.2.2.1.length ≤ 4) && r.2.2.2.1.all aln && inB r.2.2.2.2 0 1000
def rightAt (n : Int) (l : List Rl) (i : Nat) : Bool := match l[i]? with | some r => decide (r ∉ l.take i) && rightR n r | none => false
theorem c_Right (s : Sch) (i : Nat) (hn : 0 ≤ s.1) (hi : i < s.2.2.length) : PC env 30 [⟨SchemeT, s⟩, ⟨.int .i64, (i : Int)⟩] .bool (rightAt s.1 s.2.2 i) := by
  obtain ⟨n, a, l⟩ := s
  obtain ⟨r, hr⟩ : ∃ r, l[i]? = some r := get_of_lt hi
  dsimp only at hn hi
  have hra : rightAt n l i = (decide (r ∉ l.take i) && rightR n r) := by unfold rightAt; rw [hr]
  dsimp only
  rw [hra]
  clear hra
  obtain ⟨fr, t, ri, ro, c⟩ := r
  refine PC.of_PW (m := 2000) env_ok fn_30 rfl rfl rfl rfl (by kernel_rfl) ?_; intro hx; simp only [Tryd.f30]; simp only [go_sem, Nat.reduceBEq, ↓reduceIte, ↓reduceDIte, Nat.reduceAdd, Nat.reduceSub, Nat.reduceMul, Nat.reduceLeDiff, ← Bool.decide_and, ← Bool.decide_or, ← decide_not, Int.reduceLT, Int.reduceLE, Int.reduceToNat, Int.reduceNeg]
  have hla : l.length ≤ 9223372036854775807 := hx.1.2.2.1
  have hnn := i64_of hx.1.1
  dsimp only at hnn
  refine ⟨Int.natCast_nonneg _, _, hr, ?_⟩
  refine Walks.loopA (X := Nat) (fun (k : Nat) => [(6, .iv (.int .i64) (k : Int))]) (fun (k : Nat) => []) (fun (k : Nat) => k ≤ i ∧ (fr, t, ri, ro, c) ∉ l.take k) (fun (k : Nat) => i - k) 0 ?_; intro b1 b2 hb1 hb2; simp (config := {maxSteps := 4000000}) only [go_sem, Nat.reduceBEq, ↓reduceIte, ↓reduceDIte, Nat.reduceAdd, Nat.reduceSub, Nat.reduceMul, Nat.reduceLeDiff, ← Bool.decide_and, ← Bool.decide_or, ← decide_not, Int.reduceLT, Int.reduceLE, Int.reduceToNat, Int.reduceNeg] at hb1 hb2; subst hb1; subst hb2; refine ⟨(by refine ⟨?_, ?_, rfl, rfl⟩ <;> repeat' (first | exact trivial | exact Or.inl rfl | exact Or.inr rfl | (refine And.intro (Or.inl rfl) ?_) | (refine And.intro (Or.inr (Or.inl rfl)) ?_) | (refine And.intro (Or.inr (Or.inr (Or.inr ⟨rfl, rfl⟩))) ?_) | (refine And.intro (Or.inr (Or.inr (Or.inl ⟨rfl, rfl, trivial⟩))) ?_) | exact ⟨(by show (_ : Nat) < 1000000000; omega), rfl, rfl⟩ | rfl | (refine And.intro (Or.inl ?_) ?_) | (refine And.intro ?_ ?_))), ?_, ?_⟩
  · exact ⟨Nat.zero_le _, by simp⟩
  intro k ⟨hk, he⟩ back
  refine PW_sound env_ok ⟨_, fn_30, rfl⟩ 2000 _ _ (by kernel_rfl) ?_; simp only [go_sem, Nat.reduceBEq, ↓reduceIte, ↓reduceDIte, Nat.reduceAdd, Nat.reduceSub, Nat.reduceMul, Nat.reduceLeDiff, ← Bool.decide_and, ← Bool.decide_or, ← decide_not, Int.reduceLT, Int.reduceLE, Int.reduceToNat, Int.reduceNeg]
  refine ⟨fun h2 => ?_, fun h2 => ?_⟩
  · obtain ⟨x, hxi⟩ : ∃ x, l[k]? = some x := get_of_lt (by omega)
    refine ⟨Int.natCast_nonneg _, x, hxi, fun hy => ?_, fun hn => ?_⟩
    · have e : x = (fr, t, ri, ro, c) := by
        obtain ⟨e1, e2, e3, e4, e5⟩ := hy
        exact Prod.ext e1 (Prod.ext e2 (Prod.ext e3 (Prod.ext e4 e5)))
      have hm : (fr, t, ri, ro, c) ∈ l.take i := by
        rw [← e]
        refine List.mem_of_getElem? (i := k) ?_
        rw [List.getElem?_take, if_pos (by omega)]; exact hxi
      rw [decide_eq_false (by simpa using hm)]; rfl
    · refine ⟨i64_ok (by omega) (by omega), back _ (k + 1) (by refine ⟨?_, ?_, rfl, rfl⟩ <;> repeat' (first | exact trivial | exact Or.inl rfl | exact Or.inr rfl | (refine And.intro (Or.inl rfl) ?_) | (refine And.intro (Or.inr (Or.inl rfl)) ?_) | (refine And.intro (Or.inr (Or.inr (Or.inr ⟨rfl, rfl⟩))) ?_) | (refine And.intro (Or.inr (Or.inr (Or.inl ⟨rfl, rfl, trivial⟩))) ?_) | exact ⟨(by show (_ : Nat) < 1000000000; omega), rfl, rfl⟩ | rfl | (refine And.intro (Or.inl ?_) ?_) | (refine And.intro ?_ ?_))) ⟨by omega, ?_⟩ (by omega)⟩
      rw [take_snoc hxi, List.mem_append, List.mem_singleton]
      rintro (h | h)
      · exact he h
      · subst h; exact hn ⟨rfl, rfl, rfl, rfl, rfl⟩
  · obtain rfl : k = i := by omega
    have hd : decide (¬(fr, t, ri, ro, c) ∈ List.take k l) = true := decide_eq_true he
    rw [hd]
    clear back
    have d1 := (c_In fr 0 (n - 1)).dec
    have d2 := (c_In t 0 (n - 1)).dec
    have d3 := (c_Small ri).dec
    have d4 := (c_Plain ro).dec
    have d5 := (c_In c 0 1000).dec
    have hR : rightR n (fr, t, ri, ro, c) = (inB fr 0 (n - 1) && inB t 0 (n - 1) && decide (ri.length ≤ 4) && ri.all low && decide (ro.length ≤ 4) && ro.all aln && inB c 0 1000) := rfl
    rw [hR]
    generalize ri.all low = b3 at *
    generalize ro.all aln = b4 at *
    refine ⟨i64_ok (by omega) (by omega), ?_⟩
    repeat' (first | (with_reducible intro _) | (with_reducible apply And.intro) | (with_reducible refine ⟨_, d1, ?_⟩; try simp only [go_sem, Nat.reduceBEq, ↓reduceIte, ↓reduceDIte, Nat.reduceAdd, Nat.reduceSub, Nat.reduceMul, Nat.reduceLeDiff, ← Bool.decide_and, ← Bool.decide_or, ← decide_not, Int.reduceLT, Int.reduceLE, Int.reduceToNat, Int.reduceNeg]) | (with_reducible refine ⟨_, d2, ?_⟩; try simp only [go_sem, Nat.reduceBEq, ↓reduceIte, ↓reduceDIte, Nat.reduceAdd, Nat.reduceSub, Nat.reduceMul, Nat.reduceLeDiff, ← Bool.decide_and, ← Bool.decide_or, ← decide_not, Int.reduceLT, Int.reduceLE, Int.reduceToNat, Int.reduceNeg]) | (with_reducible refine ⟨_, d3, ?_⟩; try simp only [go_sem, Nat.reduceBEq, ↓reduceIte, ↓reduceDIte, Nat.reduceAdd, Nat.reduceSub, Nat.reduceMul, Nat.reduceLeDiff, ← Bool.decide_and, ← Bool.decide_or, ← decide_not, Int.reduceLT, Int.reduceLE, Int.reduceToNat, Int.reduceNeg]) | (with_reducible refine ⟨_, d4, ?_⟩; try simp only [go_sem, Nat.reduceBEq, ↓reduceIte, ↓reduceDIte, Nat.reduceAdd, Nat.reduceSub, Nat.reduceMul, Nat.reduceLeDiff, ← Bool.decide_and, ← Bool.decide_or, ← decide_not, Int.reduceLT, Int.reduceLE, Int.reduceToNat, Int.reduceNeg]) | (with_reducible refine ⟨_, d5, ?_⟩; try simp only [go_sem, Nat.reduceBEq, ↓reduceIte, ↓reduceDIte, Nat.reduceAdd, Nat.reduceSub, Nat.reduceMul, Nat.reduceLeDiff, ← Bool.decide_and, ← Bool.decide_or, ← decide_not, Int.reduceLT, Int.reduceLE, Int.reduceToNat, Int.reduceNeg]) | fail)
    all_goals first | omega | (simp_all; try omega)
end Go.Proofs.YtcmolphllladbaaDoor
--SET+ Int.reduceEq, not_true_eq_false, not_false_eq_true, false_implies
namespace Go.Proofs.YtcmolphllladbaaDoor
set_option maxHeartbeats 4000000
set_option maxRecDepth 100000
def simpE (w : Int × Int) (i o : Str) : Rl := (w.1, w.2, i, o, (i.length : Int))
theorem c_simple (w : Int × Int) (i o : Str) : PC env 50 [⟨.st (.pair (.int .i64) (.int .i64)), w⟩, ⟨.str, i⟩, ⟨.str, o⟩] RuleT (simpE w i o) := by
  obtain ⟨w1, w2⟩ := w
  refine PC.of_PW (m := 2000) env_ok fn_50 rfl rfl rfl rfl (by kernel_rfl) ?_; intro hx; simp only [Tryd.f50]; simp only [go_sem, Nat.reduceBEq, ↓reduceIte, ↓reduceDIte, Nat.reduceAdd, Nat.reduceSub, Nat.reduceMul, Nat.reduceLeDiff, ← Bool.decide_and, ← Bool.decide_or, ← decide_not, Int.reduceLT, Int.reduceLE, Int.reduceToNat, Int.reduceNeg, Int.reduceEq, not_true_eq_false, not_false_eq_true, false_implies]
  rfl
abbrev RawRl := List Int × List Int × Int × Int × Int
abbrev RawS := Int × Int × List RawRl
def abcAt (u : Int) : Str := (([97, 98, 99] : Str).drop (u % 3).toNat).take 1
def outAt (u : Int) : Str := (([97, 98, 99, 65, 66, 49] : Str).drop (u % 6).toNat).take 1
def made1E (x : RawRl) (n : Int) : Rl := (x.2.2.1 % n, x.2.2.2.1 % n, (x.1.take 2).flatMap abcAt, (x.2.1.take 2).flatMap outAt, x.2.2.2.2 * 2)
theorem c_Made1 (x : RawRl) (n : Int) (hn : 0 < n) : PC env 29 [⟨RawRuleT, x⟩, ⟨.int .i64, n⟩] RuleT (made1E x n) := by
  obtain ⟨xi, xo, xf, xt, xc⟩ := x
  refine PC.of_PW (m := 2000) env_ok fn_29 rfl rfl rfl rfl (by kernel_rfl) ?_; intro hx; simp only [Tryd.f29]; simp only [go_sem, Nat.reduceBEq, ↓reduceIte, ↓reduceDIte, Nat.reduceAdd, Nat.reduceSub, Nat.reduceMul, Nat.reduceLeDiff, ← Bool.decide_and, ← Bool.decide_or, ← decide_not, Int.reduceLT, Int.reduceLE, Int.reduceToNat, Int.reduceNeg, Int.reduceEq, not_true_eq_false, not_false_eq_true, false_implies]
  have hxi : ∀ u, u ∈ xi → 0 ≤ u ∧ u ≤ 255 := fun u hu => u8_of (hx.1.1.2 u hu)
  have hxo : ∀ u, u ∈ xo → 0 ≤ u ∧ u ≤ 255 := fun u hu => u8_of (hx.1.2.1.2 u hu)
  have hli : xi.length ≤ 9223372036854775807 := hx.1.1.1
  have hlo : xo.length ≤ 9223372036854775807 := hx.1.2.1.1
  have hf := u8_of hx.1.2.2.1
  have ht := u8_of hx.1.2.2.2.1
  have hc := u8_of hx.1.2.2.2.2
  dsimp only at hf ht hc
  have t1 : Int.tmod xf n = xf % n := Int.tmod_eq_emod_of_nonneg hf.1
  have t2 : Int.tmod xt n = xt % n := Int.tmod_eq_emod_of_nonneg ht.1
  rw [t1, t2]
  refine ⟨hn, hn, i64_ok (by omega) (by omega), ?_⟩
  have fin : ∀ {α : Type} {l : List α} {i : Nat} {f : α → Str}, ¬ ((i : Int) < 2 ∧ (i : Int) < (l.length : Int)) → i ≤ 2 → i ≤ l.length → (l.take i).flatMap f = (l.take 2).flatMap f := by
    intro α l i f h1 h2 h3
    by_cases h : i = 2
    · rw [h]
    · have : i = l.length := by omega
      subst this
      rw [List.take_of_length_le (Nat.le_refl _), List.take_of_length_le h2]
  have st : ∀ {l : List Int} {i : Nat} {u : Int} {f : Int → Str}, l[i]? = some u → (l.take (i + 1)).flatMap f = (l.take i).flatMap f ++ f u := by
    intro l i u f h
    rw [take_snoc h, List.flatMap_append]; simp
  have abcs : ∀ u : Int, 0 ≤ u → (([97, 98, 99] : Str).drop (u % 3).toNat).take ((u % 3 + 1).toNat - (u % 3).toNat) = abcAt u := by
    intro u hu
    rw [show (u % 3 + 1).toNat - (u % 3).toNat = 1 by omega]; rfl
  have outs : ∀ u : Int, 0 ≤ u → (([97, 98, 99, 65, 66, 49] : Str).drop (u % 6).toNat).take ((u % 6 + 1).toNat - (u % 6).toNat) = outAt u := by
    intro u hu
    rw [show (u % 6 + 1).toNat - (u % 6).toNat = 1 by omega]; rfl
  have abc1 : ∀ u : Int, (abcAt u).length ≤ 1 := fun u => by unfold abcAt; rw [List.length_take]; omega
  have out1 : ∀ u : Int, (outAt u).length ≤ 1 := fun u => by unfold outAt; rw [List.length_take]; omega
  have abcl : ∀ l : List Int, (l.flatMap abcAt).length ≤ l.length := by
    intro l
    induction l with
    | nil => simp
    | cons x l ih => simp only [List.flatMap_cons, List.length_append, List.length_cons, abcAt, List.length_take]; omega
  have outl : ∀ l : List Int, (l.flatMap outAt).length ≤ l.length := by
    intro l
    induction l with
    | nil => simp
    | cons x l ih => simp only [List.flatMap_cons, List.length_append, List.length_cons, outAt, List.length_take]; omega
  refine Walks.loopA (X := Nat) (fun (i : Nat) => [(6, .iv (.int .i64) (i : Int))]) (fun (i : Nat) => [(5, .box [.iv (.int .i64) (xf % n), .iv (.int .i64) (xt % n), .iv .str ((xi.take i).flatMap abcAt), .iv .str ([] : Str), .iv (.int .i64) (xc * 2)])]) (fun (i : Nat) => i ≤ xi.length ∧ i ≤ 2) (fun (i : Nat) => 2 - i) 0 ?_; intro b1 b2 hb1 hb2; simp (config := {maxSteps := 4000000}) only [go_sem, Nat.reduceBEq, ↓reduceIte, ↓reduceDIte, Nat.reduceAdd, Nat.reduceSub, Nat.reduceMul, Nat.reduceLeDiff, ← Bool.decide_and, ← Bool.decide_or, ← decide_not, Int.reduceLT, Int.reduceLE, Int.reduceToNat, Int.reduceNeg, Int.reduceEq, not_true_eq_false, not_false_eq_true, false_implies] at hb1 hb2; subst hb1; subst hb2; refine ⟨(by refine ⟨?_, ?_, rfl, rfl⟩ <;> repeat' (first | exact trivial | exact Or.inl rfl | exact Or.inr rfl | (refine And.intro (Or.inl rfl) ?_) | (refine And.intro (Or.inr (Or.inl rfl)) ?_) | (refine And.intro (Or.inr (Or.inr (Or.inr ⟨rfl, rfl⟩))) ?_) | (refine And.intro (Or.inr (Or.inr (Or.inl ⟨rfl, rfl, trivial⟩))) ?_) | exact ⟨(by show (_ : Nat) < 1000000000; omega), rfl, rfl⟩ | rfl | (refine And.intro (Or.inl ?_) ?_) | (refine And.intro ?_ ?_))), ?_, ?_⟩
  · exact ⟨Nat.zero_le _, Nat.zero_le _⟩
  intro i ⟨hi, hi2⟩ back
  refine PW_sound env_ok ⟨_, fn_29, rfl⟩ 2000 _ _ (by kernel_rfl) ?_; simp only [go_sem, Nat.reduceBEq, ↓reduceIte, ↓reduceDIte, Nat.reduceAdd, Nat.reduceSub, Nat.reduceMul, Nat.reduceLeDiff, ← Bool.decide_and, ← Bool.decide_or, ← decide_not, Int.reduceLT, Int.reduceLE, Int.reduceToNat, Int.reduceNeg, Int.reduceEq, not_true_eq_false, not_false_eq_true, false_implies]
  have hby1 : bytesOf ⟨#[97, 98, 99]⟩ = ([97, 98, 99] : Str) := rfl
  have hby2 : bytesOf ⟨#[97, 98, 99, 65, 66, 49]⟩ = ([97, 98, 99, 65, 66, 49] : Str) := rfl
  apply Walks.shareX (X := Unit) (fun _ => ⟨[(7, .iv (.int .i64) (0 : Int)), (5, .ref 5 0), (4, .ref 4 0), (2, .ref 2 0)], [(5, .box [.iv (.int .i64) (xf % n), .iv (.int .i64) (xt % n), .iv .str ((xi.take 2).flatMap abcAt), .iv .str ([] : Str), .iv (.int .i64) (xc * 2)]), (4, .box [.iv (.int .i64) (0 : Int), .iv (.int .i64) (0 : Int), .iv .str ([] : Str), .iv .str ([] : Str), .iv (.int .i64) (0 : Int)]), (2, .box [.iv (.sl (.int .u8)) xi, .iv (.sl (.int .u8)) xo, .iv (.int .u8) xf, .iv (.int .u8) xt, .iv (.int .u8) xc])]⟩) (fun _ => True)
  · intro key
    refine ⟨fun g1 => ⟨fun g2 => ?_, fun g2 => ?_⟩, fun g1 => ?_⟩
    · obtain ⟨u, hu⟩ : ∃ u, xi[i]? = some u := get_of_lt (by omega)
      have hub := hxi u (List.mem_of_getElem? hu)
      have tu : Int.tmod u 3 = u % 3 := Int.tmod_eq_emod_of_nonneg hub.1
      have hab := abcl (xi.take i)
      have hab1 := abc1 u
      have hli' : (xi.take i).length = i := by rw [List.length_take]; omega
      refine ⟨Int.natCast_nonneg _, u, hu, Int.natCast_nonneg _, u, hu, ?_⟩
      rw [tu, hby1, abcs u hub.1]
      refine ⟨u8_ok (by omega) (by omega), ⟨by omega, by omega, by show u % 3 + 1 ≤ (3 : Int); omega⟩, by omega, i64_ok (by omega) (by omega), ?_⟩
      refine back _ (i + 1) ?_ ⟨by omega, by omega⟩ (by omega)
      rw [← st hu]
      exact (by refine ⟨?_, ?_, rfl, rfl⟩ <;> repeat' (first | exact trivial | exact Or.inl rfl | exact Or.inr rfl | (refine And.intro (Or.inl rfl) ?_) | (refine And.intro (Or.inr (Or.inl rfl)) ?_) | (refine And.intro (Or.inr (Or.inr (Or.inr ⟨rfl, rfl⟩))) ?_) | (refine And.intro (Or.inr (Or.inr (Or.inl ⟨rfl, rfl, trivial⟩))) ?_) | exact ⟨(by show (_ : Nat) < 1000000000; omega), rfl, rfl⟩ | rfl | (refine And.intro (Or.inl ?_) ?_) | (refine And.intro ?_ ?_)))
    · refine key _ () trivial ?_
      rw [← fin (by omega) hi2 hi]
      exact (by refine ⟨?_, ?_, rfl, rfl⟩ <;> repeat' (first | exact trivial | exact Or.inl rfl | exact Or.inr rfl | (refine And.intro (Or.inl rfl) ?_) | (refine And.intro (Or.inr (Or.inl rfl)) ?_) | (refine And.intro (Or.inr (Or.inr (Or.inr ⟨rfl, rfl⟩))) ?_) | (refine And.intro (Or.inr (Or.inr (Or.inl ⟨rfl, rfl, trivial⟩))) ?_) | exact ⟨(by show (_ : Nat) < 1000000000; omega), rfl, rfl⟩ | rfl | (refine And.intro (Or.inl ?_) ?_) | (refine And.intro ?_ ?_)))
    · refine key _ () trivial ?_
      rw [← fin (by omega) hi2 hi]
      exact (by refine ⟨?_, ?_, rfl, rfl⟩ <;> repeat' (first | exact trivial | exact Or.inl rfl | exact Or.inr rfl | (refine And.intro (Or.inl rfl) ?_) | (refine And.intro (Or.inr (Or.inl rfl)) ?_) | (refine And.intro (Or.inr (Or.inr (Or.inr ⟨rfl, rfl⟩))) ?_) | (refine And.intro (Or.inr (Or.inr (Or.inl ⟨rfl, rfl, trivial⟩))) ?_) | exact ⟨(by show (_ : Nat) < 1000000000; omega), rfl, rfl⟩ | rfl | (refine And.intro (Or.inl ?_) ?_) | (refine And.intro ?_ ?_)))
  · intro _ _
    clear back hi hi2
    refine Walks.loopA (X := Nat) (fun (i : Nat) => [(7, .iv (.int .i64) (i : Int))]) (fun (i : Nat) => [(5, .box [.iv (.int .i64) (xf % n), .iv (.int .i64) (xt % n), .iv .str ((xi.take 2).flatMap abcAt), .iv .str ((xo.take i).flatMap outAt), .iv (.int .i64) (xc * 2)])]) (fun (i : Nat) => i ≤ xo.length ∧ i ≤ 2) (fun (i : Nat) => 2 - i) 0 ?_; intro b1 b2 hb1 hb2; simp (config := {maxSteps := 4000000}) only [go_sem, Nat.reduceBEq, ↓reduceIte, ↓reduceDIte, Nat.reduceAdd, Nat.reduceSub, Nat.reduceMul, Nat.reduceLeDiff, ← Bool.decide_and, ← Bool.decide_or, ← decide_not, Int.reduceLT, Int.reduceLE, Int.reduceToNat, Int.reduceNeg, Int.reduceEq, not_true_eq_false, not_false_eq_true, false_implies] at hb1 hb2; subst hb1; subst hb2; refine ⟨(by refine ⟨?_, ?_, rfl, rfl⟩ <;> repeat' (first | exact trivial | exact Or.inl rfl | exact Or.inr rfl | (refine And.intro (Or.inl rfl) ?_) | (refine And.intro (Or.inr (Or.inl rfl)) ?_) | (refine And.intro (Or.inr (Or.inr (Or.inr ⟨rfl, rfl⟩))) ?_) | (refine And.intro (Or.inr (Or.inr (Or.inl ⟨rfl, rfl, trivial⟩))) ?_) | exact ⟨(by show (_ : Nat) < 1000000000; omega), rfl, rfl⟩ | rfl | (refine And.intro (Or.inl ?_) ?_) | (refine And.intro ?_ ?_))), ?_, ?_⟩
    · exact ⟨Nat.zero_le _, Nat.zero_le _⟩
    intro i ⟨hi, hi2⟩ back
    refine PW_sound env_ok ⟨_, fn_29, rfl⟩ 2000 _ _ (by kernel_rfl) ?_; simp only [go_sem, Nat.reduceBEq, ↓reduceIte, ↓reduceDIte, Nat.reduceAdd, Nat.reduceSub, Nat.reduceMul, Nat.reduceLeDiff, ← Bool.decide_and, ← Bool.decide_or, ← decide_not, Int.reduceLT, Int.reduceLE, Int.reduceToNat, Int.reduceNeg, Int.reduceEq, not_true_eq_false, not_false_eq_true, false_implies]
    refine ⟨fun g1 => ⟨fun g2 => ?_, fun g2 => ?_⟩, fun g1 => ?_⟩
    · obtain ⟨u, hu⟩ : ∃ u, xo[i]? = some u := get_of_lt (by omega)
      have hub := hxo u (List.mem_of_getElem? hu)
      have tu : Int.tmod u 6 = u % 6 := Int.tmod_eq_emod_of_nonneg hub.1
      have hab := outl (xo.take i)
      have hab1 := out1 u
      have hli' : (xo.take i).length = i := by rw [List.length_take]; omega
      refine ⟨Int.natCast_nonneg _, u, hu, Int.natCast_nonneg _, u, hu, ?_⟩
      rw [tu, hby2, outs u hub.1]
      refine ⟨u8_ok (by omega) (by omega), ⟨by omega, by omega, by show u % 6 + 1 ≤ (6 : Int); omega⟩, by omega, i64_ok (by omega) (by omega), ?_⟩
      refine back _ (i + 1) ?_ ⟨by omega, by omega⟩ (by omega)
      rw [← st hu]
      exact (by refine ⟨?_, ?_, rfl, rfl⟩ <;> repeat' (first | exact trivial | exact Or.inl rfl | exact Or.inr rfl | (refine And.intro (Or.inl rfl) ?_) | (refine And.intro (Or.inr (Or.inl rfl)) ?_) | (refine And.intro (Or.inr (Or.inr (Or.inr ⟨rfl, rfl⟩))) ?_) | (refine And.intro (Or.inr (Or.inr (Or.inl ⟨rfl, rfl, trivial⟩))) ?_) | exact ⟨(by show (_ : Nat) < 1000000000; omega), rfl, rfl⟩ | rfl | (refine And.intro (Or.inl ?_) ?_) | (refine And.intro ?_ ?_)))
    · rw [fin (by omega) hi2 hi]; rfl
    · rw [fin (by omega) hi2 hi]; rfl
def baseE (k : Int) : Sch :=
  if k % 6 = 0 then (1, 1, [simpE (0, 0) [97] [97], simpE (0, 0) [98] [98], simpE (0, 0) [99] [99]])
  else if k % 6 = 1 then (1, 1, [simpE (0, 0) [97] [65], simpE (0, 0) [98, 97] [66], simpE (0, 0) [99, 97] [67], simpE (0, 0) [98] [98]])
  else if k % 6 = 2 then (2, 1, [simpE (0, 1) [99] [], simpE (1, 0) [97] [65], simpE (1, 0) [98] [66], simpE (0, 0) [97] [97], simpE (0, 0) [98] [98]])
  else if k % 6 = 3 then (1, 1, [simpE (0, 0) [97] [97], simpE (0, 0) [98] [98], simpE (0, 0) [97, 98] [97, 98, 99, 49], simpE (0, 0) [99] [99]])
  else if k % 6 = 4 then (1, 1, [simpE (0, 0) [97] [97], (0, 0, [98], [98], 0), (0, 0, [99], [98], 7), (0, 0, [98], [99], 9)])
  else (1, 1, [simpE (0, 0) [97] [97], simpE (0, 0) [97] [65], simpE (0, 0) [97, 97] [66], simpE (0, 0) [98] [98], (0, 0, [98], [], 20)])
theorem h_Base0 (k : Int)  (k0 : k % 6 = 0) : HC env 28 [.iv (.int .u8) k] [] (.agg [.iv (.int .i64) (baseE k).1, .iv (.int .u8) (baseE k).2.1, .lfull 1000]) [(1000, .arr RuleT (baseE k).2.2)] := by
  have e : baseE k = (1, 1, [simpE (0, 0) [97] [97], simpE (0, 0) [98] [98], simpE (0, 0) [99] [99]]) := by unfold baseE; rw [if_pos k0]
  rw [e]
  clear e
  have h : HC env 28 [.iv (.int .u8) k] [] (.agg [.iv (.int .i64) (1 : Int), .iv (.int .u8) (1 : Int), .lfull 28]) [(28, .arr RuleT ((1, 1, [simpE (0, 0) [97] [97], simpE (0, 0) [98] [98], simpE (0, 0) [99] [99]]) : Sch).2.2)] := by
    refine HC.of_PW (m := 2000) env_ok fn_28 rfl rfl rfl rfl (by kernel_rfl) ?_; intro hx hbl; simp only [Tryd.f28]; simp only [go_sem, Nat.reduceBEq, ↓reduceIte, ↓reduceDIte, Nat.reduceAdd, Nat.reduceSub, Nat.reduceMul, Nat.reduceLeDiff, ← Bool.decide_and, ← Bool.decide_or, ← decide_not, Int.reduceLT, Int.reduceLE, Int.reduceToNat, Int.reduceNeg, Int.reduceEq, not_true_eq_false, not_false_eq_true, false_implies]
    have hk := u8_of hx.1
    have t1 : Int.tmod k 6 = k % 6 := Int.tmod_eq_emod_of_nonneg hk.1
    rw [t1]
    repeat' (first | (with_reducible intro _) | (with_reducible apply And.intro) | (with_reducible refine ⟨_, c_simple _ _ _, ?_⟩; try simp only [go_sem, Nat.reduceBEq, ↓reduceIte, ↓reduceDIte, Nat.reduceAdd, Nat.reduceSub, Nat.reduceMul, Nat.reduceLeDiff, ← Bool.decide_and, ← Bool.decide_or, ← decide_not, Int.reduceLT, Int.reduceLE, Int.reduceToNat, Int.reduceNeg, Int.reduceEq, not_true_eq_false, not_false_eq_true, false_implies]) | fail)
    all_goals first | (exfalso; omega) | rfl
  exact h.ren [(28, 1000), (1000, 28)] rfl
theorem h_Base1 (k : Int) (n0 : ¬ k % 6 = 0) (k1 : k % 6 = 1) : HC env 28 [.iv (.int .u8) k] [] (.agg [.iv (.int .i64) (baseE k).1, .iv (.int .u8) (baseE k).2.1, .lfull 1000]) [(1000, .arr RuleT (baseE k).2.2)] := by
  have e : baseE k = (1, 1, [simpE (0, 0) [97] [65], simpE (0, 0) [98, 97] [66], simpE (0, 0) [99, 97] [67], simpE (0, 0) [98] [98]]) := by unfold baseE; rw [if_neg n0, if_pos k1]
  rw [e]
  clear e
  have h : HC env 28 [.iv (.int .u8) k] [] (.agg [.iv (.int .i64) (1 : Int), .iv (.int .u8) (1 : Int), .lfull 40]) [(40, .arr RuleT ((1, 1, [simpE (0, 0) [97] [65], simpE (0, 0) [98, 97] [66], simpE (0, 0) [99, 97] [67], simpE (0, 0) [98] [98]]) : Sch).2.2)] := by
    refine HC.of_PW (m := 2000) env_ok fn_28 rfl rfl rfl rfl (by kernel_rfl) ?_; intro hx hbl; simp only [Tryd.f28]; simp only [go_sem, Nat.reduceBEq, ↓reduceIte, ↓reduceDIte, Nat.reduceAdd, Nat.reduceSub, Nat.reduceMul, Nat.reduceLeDiff, ← Bool.decide_and, ← Bool.decide_or, ← decide_not, Int.reduceLT, Int.reduceLE, Int.reduceToNat, Int.reduceNeg, Int.reduceEq, not_true_eq_false, not_false_eq_true, false_implies]
    have hk := u8_of hx.1
    have t1 : Int.tmod k 6 = k % 6 := Int.tmod_eq_emod_of_nonneg hk.1
    rw [t1]
    repeat' (first | (with_reducible intro _) | (with_reducible apply And.intro) | (with_reducible refine ⟨_, c_simple _ _ _, ?_⟩; try simp only [go_sem, Nat.reduceBEq, ↓reduceIte, ↓reduceDIte, Nat.reduceAdd, Nat.reduceSub, Nat.reduceMul, Nat.reduceLeDiff, ← Bool.decide_and, ← Bool.decide_or, ← decide_not, Int.reduceLT, Int.reduceLE, Int.reduceToNat, Int.reduceNeg, Int.reduceEq, not_true_eq_false, not_false_eq_true, false_implies]) | fail)
    all_goals first | (exfalso; omega) | rfl
  exact h.ren [(40, 1000), (1000, 40)] rfl
theorem h_Base2 (k : Int) (n0 : ¬ k % 6 = 0) (n1 : ¬ k % 6 = 1) (k2 : k % 6 = 2) : HC env 28 [.iv (.int .u8) k] [] (.agg [.iv (.int .i64) (baseE k).1, .iv (.int .u8) (baseE k).2.1, .lfull 1000]) [(1000, .arr RuleT (baseE k).2.2)] := by
  have e : baseE k = (2, 1, [simpE (0, 1) [99] [], simpE (1, 0) [97] [65], simpE (1, 0) [98] [66], simpE (0, 0) [97] [97], simpE (0, 0) [98] [98]]) := by unfold baseE; rw [if_neg n0, if_neg n1, if_pos k2]
  rw [e]
  clear e
  have h : HC env 28 [.iv (.int .u8) k] [] (.agg [.iv (.int .i64) (2 : Int), .iv (.int .u8) (1 : Int), .lfull 54]) [(54, .arr RuleT ((2, 1, [simpE (0, 1) [99] [], simpE (1, 0) [97] [65], simpE (1, 0) [98] [66], simpE (0, 0) [97] [97], simpE (0, 0) [98] [98]]) : Sch).2.2)] := by
    refine HC.of_PW (m := 2000) env_ok fn_28 rfl rfl rfl rfl (by kernel_rfl) ?_; intro hx hbl; simp only [Tryd.f28]; simp only [go_sem, Nat.reduceBEq, ↓reduceIte, ↓reduceDIte, Nat.reduceAdd, Nat.reduceSub, Nat.reduceMul, Nat.reduceLeDiff, ← Bool.decide_and, ← Bool.decide_or, ← decide_not, Int.reduceLT, Int.reduceLE, Int.reduceToNat, Int.reduceNeg, Int.reduceEq, not_true_eq_false, not_false_eq_true, false_implies]
    have hk := u8_of hx.1
    have t1 : Int.tmod k 6 = k % 6 := Int.tmod_eq_emod_of_nonneg hk.1
    rw [t1]
    repeat' (first | (with_reducible intro _) | (with_reducible apply And.intro) | (with_reducible refine ⟨_, c_simple _ _ _, ?_⟩; try simp only [go_sem, Nat.reduceBEq, ↓reduceIte, ↓reduceDIte, Nat.reduceAdd, Nat.reduceSub, Nat.reduceMul, Nat.reduceLeDiff, ← Bool.decide_and, ← Bool.decide_or, ← decide_not, Int.reduceLT, Int.reduceLE, Int.reduceToNat, Int.reduceNeg, Int.reduceEq, not_true_eq_false, not_false_eq_true, false_implies]) | fail)
    all_goals first | (exfalso; omega) | rfl
  exact h.ren [(54, 1000), (1000, 54)] rfl
theorem h_Base3 (k : Int) (n0 : ¬ k % 6 = 0) (n1 : ¬ k % 6 = 1) (n2 : ¬ k % 6 = 2) (k3 : k % 6 = 3) : HC env 28 [.iv (.int .u8) k] [] (.agg [.iv (.int .i64) (baseE k).1, .iv (.int .u8) (baseE k).2.1, .lfull 1000]) [(1000, .arr RuleT (baseE k).2.2)] := by
  have e : baseE k = (1, 1, [simpE (0, 0) [97] [97], simpE (0, 0) [98] [98], simpE (0, 0) [97, 98] [97, 98, 99, 49], simpE (0, 0) [99] [99]]) := by unfold baseE; rw [if_neg n0, if_neg n1, if_neg n2, if_pos k3]
  rw [e]
  clear e
  have h : HC env 28 [.iv (.int .u8) k] [] (.agg [.iv (.int .i64) (1 : Int), .iv (.int .u8) (1 : Int), .lfull 66]) [(66, .arr RuleT ((1, 1, [simpE (0, 0) [97] [97], simpE (0, 0) [98] [98], simpE (0, 0) [97, 98] [97, 98, 99, 49], simpE (0, 0) [99] [99]]) : Sch).2.2)] := by
    refine HC.of_PW (m := 2000) env_ok fn_28 rfl rfl rfl rfl (by kernel_rfl) ?_; intro hx hbl; simp only [Tryd.f28]; simp only [go_sem, Nat.reduceBEq, ↓reduceIte, ↓reduceDIte, Nat.reduceAdd, Nat.reduceSub, Nat.reduceMul, Nat.reduceLeDiff, ← Bool.decide_and, ← Bool.decide_or, ← decide_not, Int.reduceLT, Int.reduceLE, Int.reduceToNat, Int.reduceNeg, Int.reduceEq, not_true_eq_false, not_false_eq_true, false_implies]
    have hk := u8_of hx.1
    have t1 : Int.tmod k 6 = k % 6 := Int.tmod_eq_emod_of_nonneg hk.1
    rw [t1]
    repeat' (first | (with_reducible intro _) | (with_reducible apply And.intro) | (with_reducible refine ⟨_, c_simple _ _ _, ?_⟩; try simp only [go_sem, Nat.reduceBEq, ↓reduceIte, ↓reduceDIte, Nat.reduceAdd, Nat.reduceSub, Nat.reduceMul, Nat.reduceLeDiff, ← Bool.decide_and, ← Bool.decide_or, ← decide_not, Int.reduceLT, Int.reduceLE, Int.reduceToNat, Int.reduceNeg, Int.reduceEq, not_true_eq_false, not_false_eq_true, false_implies]) | fail)
    all_goals first | (exfalso; omega) | rfl
  exact h.ren [(66, 1000), (1000, 66)] rfl
theorem h_Base4 (k : Int) (n0 : ¬ k % 6 = 0) (n1 : ¬ k % 6 = 1) (n2 : ¬ k % 6 = 2) (n3 : ¬ k % 6 = 3) (k4 : k % 6 = 4) : HC env 28 [.iv (.int .u8) k] [] (.agg [.iv (.int .i64) (baseE k).1, .iv (.int .u8) (baseE k).2.1, .lfull 1000]) [(1000, .arr RuleT (baseE k).2.2)] := by
  have e : baseE k = (1, 1, [simpE (0, 0) [97] [97], (0, 0, [98], [98], 0), (0, 0, [99], [98], 7), (0, 0, [98], [99], 9)]) := by unfold baseE; rw [if_neg n0, if_neg n1, if_neg n2, if_neg n3, if_pos k4]
  rw [e]
  clear e
  have h : HC env 28 [.iv (.int .u8) k] [] (.agg [.iv (.int .i64) (1 : Int), .iv (.int .u8) (1 : Int), .lfull 75]) [(75, .arr RuleT ((1, 1, [simpE (0, 0) [97] [97], (0, 0, [98], [98], 0), (0, 0, [99], [98], 7), (0, 0, [98], [99], 9)]) : Sch).2.2)] := by
    refine HC.of_PW (m := 2000) env_ok fn_28 rfl rfl rfl rfl (by kernel_rfl) ?_; intro hx hbl; simp only [Tryd.f28]; simp only [go_sem, Nat.reduceBEq, ↓reduceIte, ↓reduceDIte, Nat.reduceAdd, Nat.reduceSub, Nat.reduceMul, Nat.reduceLeDiff, ← Bool.decide_and, ← Bool.decide_or, ← decide_not, Int.reduceLT, Int.reduceLE, Int.reduceToNat, Int.reduceNeg, Int.reduceEq, not_true_eq_false, not_false_eq_true, false_implies]
    have hk := u8_of hx.1
    have t1 : Int.tmod k 6 = k % 6 := Int.tmod_eq_emod_of_nonneg hk.1
    rw [t1]
    repeat' (first | (with_reducible intro _) | (with_reducible apply And.intro) | (with_reducible refine ⟨_, c_simple _ _ _, ?_⟩; try simp only [go_sem, Nat.reduceBEq, ↓reduceIte, ↓reduceDIte, Nat.reduceAdd, Nat.reduceSub, Nat.reduceMul, Nat.reduceLeDiff, ← Bool.decide_and, ← Bool.decide_or, ← decide_not, Int.reduceLT, Int.reduceLE, Int.reduceToNat, Int.reduceNeg, Int.reduceEq, not_true_eq_false, not_false_eq_true, false_implies]) | fail)
    all_goals first | (exfalso; omega) | rfl
  exact h.ren [(75, 1000), (1000, 75)] rfl
theorem h_Base5 (k : Int) (n0 : ¬ k % 6 = 0) (n1 : ¬ k % 6 = 1) (n2 : ¬ k % 6 = 2) (n3 : ¬ k % 6 = 3) (n4 : ¬ k % 6 = 4) : HC env 28 [.iv (.int .u8) k] [] (.agg [.iv (.int .i64) (baseE k).1, .iv (.int .u8) (baseE k).2.1, .lfull 1000]) [(1000, .arr RuleT (baseE k).2.2)] := by
  have e : baseE k = (1, 1, [simpE (0, 0) [97] [97], simpE (0, 0) [97] [65], simpE (0, 0) [97, 97] [66], simpE (0, 0) [98] [98], (0, 0, [98], [], 20)]) := by unfold baseE; rw [if_neg n0, if_neg n1, if_neg n2, if_neg n3, if_neg n4]
  rw [e]
  clear e
  have h : HC env 28 [.iv (.int .u8) k] [] (.agg [.iv (.int .i64) (1 : Int), .iv (.int .u8) (1 : Int), .lfull 18]) [(18, .arr RuleT ((1, 1, [simpE (0, 0) [97] [97], simpE (0, 0) [97] [65], simpE (0, 0) [97, 97] [66], simpE (0, 0) [98] [98], (0, 0, [98], [], 20)]) : Sch).2.2)] := by
    refine HC.of_PW (m := 2000) env_ok fn_28 rfl rfl rfl rfl (by kernel_rfl) ?_; intro hx hbl; simp only [Tryd.f28]; simp only [go_sem, Nat.reduceBEq, ↓reduceIte, ↓reduceDIte, Nat.reduceAdd, Nat.reduceSub, Nat.reduceMul, Nat.reduceLeDiff, ← Bool.decide_and, ← Bool.decide_or, ← decide_not, Int.reduceLT, Int.reduceLE, Int.reduceToNat, Int.reduceNeg, Int.reduceEq, not_true_eq_false, not_false_eq_true, false_implies]
    have hk := u8_of hx.1
    have t1 : Int.tmod k 6 = k % 6 := Int.tmod_eq_emod_of_nonneg hk.1
    rw [t1]
    repeat' (first | (with_reducible intro _) | (with_reducible apply And.intro) | (with_reducible refine ⟨_, c_simple _ _ _, ?_⟩; try simp only [go_sem, Nat.reduceBEq, ↓reduceIte, ↓reduceDIte, Nat.reduceAdd, Nat.reduceSub, Nat.reduceMul, Nat.reduceLeDiff, ← Bool.decide_and, ← Bool.decide_or, ← decide_not, Int.reduceLT, Int.reduceLE, Int.reduceToNat, Int.reduceNeg, Int.reduceEq, not_true_eq_false, not_false_eq_true, false_implies]) | fail)
    all_goals first | (exfalso; omega) | rfl
  exact h.ren [(18, 1000), (1000, 18)] rfl
theorem h_Base (k : Int) : HC env 28 [.iv (.int .u8) k] [] (.agg [.iv (.int .i64) (baseE k).1, .iv (.int .u8) (baseE k).2.1, .lfull 1000]) [(1000, .arr RuleT (baseE k).2.2)] := by
  by_cases h0 : k % 6 = 0
  · exact h_Base0 k h0
  by_cases h1 : k % 6 = 1
  · exact h_Base1 k h0 h1
  by_cases h2 : k % 6 = 2
  · exact h_Base2 k h0 h1 h2
  by_cases h3 : k % 6 = 3
  · exact h_Base3 k h0 h1 h2 h3
  by_cases h4 : k % 6 = 4
  · exact h_Base4 k h0 h1 h2 h3 h4
  exact h_Base5 k h0 h1 h2 h3 h4
end Go.Proofs.YtcmolphllladbaaDoor
--SET+ Int.reduceEq, not_true_eq_false, not_false_eq_true, false_implies, List.append_assoc
namespace Go.Proofs.YtcmolphllladbaaDoor
set_option maxHeartbeats 4000000
set_option maxRecDepth 100000
def mstep (n : Int) (rs : List Rl) (r : Rl) : List Rl := if rightAt n (rs ++ [r]) rs.length = true then rs ++ [r] else rs
def made2L (n : Int) : List RawRl → List Rl → List Rl
  | [], out => out
  | y :: ys, out => made2L n ys (mstep n out (made1E y n))
def made2E (x : RawS) : Sch := ((baseE x.1).1, (baseE x.1).2.1, made2L (baseE x.1).1 (x.2.2.take 4) ((baseE x.1).2.2.drop (x.2.1 % 2).toNat))
theorem base_fact (k : Int) : ((baseE k).1 = 1 ∨ (baseE k).1 = 2) ∧ (baseE k).2.1 = 1 ∧ 3 ≤ (baseE k).2.2.length ∧ (baseE k).2.2.length ≤ 5 := by
  unfold baseE
  repeat' split
  all_goals decide
theorem mstep_len (n : Int) (rs : List Rl) (r : Rl) : rs.length ≤ (mstep n rs r).length ∧ (mstep n rs r).length ≤ rs.length + 1 := by
  unfold mstep
  split <;> simp
/-- Where a made scheme's rules lie. -/
def formM (id : Nat) (p : PV) (xs view : List Rl) : Prop := (p = .lfull id ∧ view = xs) ∨ ∃ off len, p = .lsl id 5 off len ∧ view = (xs.drop off).take len ∧ off + len ≤ xs.length ∧ off < xs.length
theorem c_Made2 (x : RawS) : PC env 11 [⟨RawT, x⟩] SchemeT (made2E x) := by
  obtain ⟨xb, xd, xm⟩ := x
  refine PC.of_PW (m := 2000) env_ok fn_11 rfl rfl rfl rfl (by kernel_rfl) ?_; intro hx; simp only [Tryd.f11]; simp only [go_sem, Nat.reduceBEq, ↓reduceIte, ↓reduceDIte, Nat.reduceAdd, Nat.reduceSub, Nat.reduceMul, Nat.reduceLeDiff, ← Bool.decide_and, ← Bool.decide_or, ← decide_not, Int.reduceLT, Int.reduceLE, Int.reduceToNat, Int.reduceNeg, Int.reduceEq, not_true_eq_false, not_false_eq_true, false_implies, List.append_assoc]
  refine ⟨_, _, h_Base xb, rfl, ?_⟩
  simp only [go_sem, Nat.reduceBEq, ↓reduceIte, ↓reduceDIte, Nat.reduceAdd, Nat.reduceSub, Nat.reduceMul, Nat.reduceLeDiff, ← Bool.decide_and, ← Bool.decide_or, ← decide_not, Int.reduceLT, Int.reduceLE, Int.reduceToNat, Int.reduceNeg, Int.reduceEq, not_true_eq_false, not_false_eq_true, false_implies, List.append_assoc]
  have hxd := u8_of hx.1.2.1
  have hlm : xm.length ≤ 9223372036854775807 := hx.1.2.2.1
  dsimp only at hxd
  have t1 : Int.tmod xd 2 = xd % 2 := Int.tmod_eq_emod_of_nonneg hxd.1
  rw [t1]
  have hbf := base_fact xb
  generalize hB : baseE xb = B at hbf
  obtain ⟨n, a, rs⟩ := B
  dsimp only at hbf ⊢
  have hnn : 0 < n := by omega
  have hdr : ((rs.drop (xd % 2).toNat).take (rs.length - (xd % 2).toNat)) = rs.drop (xd % 2).toNat := List.take_of_length_le (by rw [List.length_drop]; omega)
  have hlr : (rs.drop (xd % 2).toNat).length = rs.length - (xd % 2).toNat := List.length_drop ..
  have hE : made2E (xb, xd, xm) = (n, a, made2L n (xm.take 4) (rs.drop (xd % 2).toNat)) := by unfold made2E; dsimp only; rw [hB]
  rw [hE]
  clear hE
  intro _
  refine ⟨⟨by omega, by omega⟩, ?_⟩
  refine Walks.loopA (X := Nat × PV × List Rl × List Rl) (fun (z : Nat × PV × List Rl × List Rl) => [(4, .iv (.int .i64) (z.1 : Int)), (7, .any), (9, .any), (14, .any)]) (fun (z : Nat × PV × List Rl × List Rl) => [(3, .box [.iv (.int .i64) n, .iv (.int .u8) a, z.2.1]), (801000, .arr RuleT z.2.2.1)]) (fun (z : Nat × PV × List Rl × List Rl) => formM 801000 z.2.1 z.2.2.1 z.2.2.2 ∧ z.1 ≤ xm.length ∧ z.1 ≤ 4 ∧ z.2.2.2.length ≤ 5 + z.1 ∧ 1 ≤ z.2.2.2.length ∧ made2L n ((xm.take 4).drop z.1) z.2.2.2 = made2L n (xm.take 4) (rs.drop (xd % 2).toNat)) (fun (z : Nat × PV × List Rl × List Rl) => 4 - z.1) (0, .lsl 801000 5 (xd % 2).toNat (rs.length - (xd % 2).toNat), rs, rs.drop (xd % 2).toNat) ?_; intro b1 b2 hb1 hb2; simp (config := {maxSteps := 4000000}) only [go_sem, Nat.reduceBEq, ↓reduceIte, ↓reduceDIte, Nat.reduceAdd, Nat.reduceSub, Nat.reduceMul, Nat.reduceLeDiff, ← Bool.decide_and, ← Bool.decide_or, ← decide_not, Int.reduceLT, Int.reduceLE, Int.reduceToNat, Int.reduceNeg, Int.reduceEq, not_true_eq_false, not_false_eq_true, false_implies, List.append_assoc] at hb1 hb2; subst hb1; subst hb2; refine ⟨(by refine ⟨?_, ?_, rfl, rfl⟩ <;> repeat' (first | exact trivial | exact Or.inl rfl | exact Or.inr rfl | (refine And.intro (Or.inl rfl) ?_) | (refine And.intro (Or.inr (Or.inl rfl)) ?_) | (refine And.intro (Or.inr (Or.inr (Or.inr ⟨rfl, rfl⟩))) ?_) | (refine And.intro (Or.inr (Or.inr (Or.inl ⟨rfl, rfl, trivial⟩))) ?_) | exact ⟨(by show (_ : Nat) < 1000000000; omega), rfl, rfl⟩ | rfl | (refine And.intro (Or.inl ?_) ?_) | (refine And.intro ?_ ?_))), ?_, ?_⟩
  · exact ⟨Or.inr ⟨_, _, rfl, hdr.symm, by dsimp only; omega, by dsimp only; omega⟩, Nat.zero_le _, Nat.zero_le _, by show (rs.drop _).length ≤ _; omega, by show 1 ≤ (rs.drop _).length; omega, rfl⟩
  generalize made2L n (xm.take 4) (rs.drop (xd % 2).toNat) = R
  intro ⟨i, p, xs, out⟩ ⟨hform, hi, hi4, hlo, hl1, hR⟩ back
  dsimp only at hform hi hi4 hlo hl1 hR
  have done : ¬ (i < xm.length ∧ i < 4) → out = R := fun h => by
    have : (xm.take 4).drop i = [] := List.drop_of_length_le (by rw [List.length_take]; omega)
    rw [this] at hR
    exact hR
  rcases hform with ⟨rfl, rfl⟩ | ⟨off, len, rfl, hv, ho1, ho2⟩
  · refine PW_sound env_ok ⟨_, fn_11, rfl⟩ 2000 _ _ (by kernel_rfl) ?_; simp only [go_sem, Nat.reduceBEq, ↓reduceIte, ↓reduceDIte, Nat.reduceAdd, Nat.reduceSub, Nat.reduceMul, Nat.reduceLeDiff, ← Bool.decide_and, ← Bool.decide_or, ← decide_not, Int.reduceLT, Int.reduceLE, Int.reduceToNat, Int.reduceNeg, Int.reduceEq, not_true_eq_false, not_false_eq_true, false_implies, List.append_assoc]
    refine ⟨fun g1 => ⟨fun g2 => ?_, fun g2 => ?_⟩, fun g1 => ?_⟩
    · obtain ⟨y, hy⟩ : ∃ y, xm[i]? = some y := get_of_lt (by omega)
      refine ⟨Int.natCast_nonneg _, y, hy, _, c_Made1 y n hnn, fun _ => ⟨by omega, ?_⟩⟩
      have e1 : ((out ++ [made1E y n]).length : Int) - 1 = (out.length : Int) := by simp only [List.length_append, List.length_cons, List.length_nil]; omega
      rw [e1]
      refine ⟨i64_ok (by omega) (by omega), _, (c_Right (n, a, out ++ [made1E y n]) out.length (by dsimp only; omega) (by simp)).dec, ?_⟩
      simp only [go_sem, Nat.reduceBEq, ↓reduceIte, ↓reduceDIte, Nat.reduceAdd, Nat.reduceSub, Nat.reduceMul, Nat.reduceLeDiff, ← Bool.decide_and, ← Bool.decide_or, ← decide_not, Int.reduceLT, Int.reduceLE, Int.reduceToNat, Int.reduceNeg, Int.reduceEq, not_true_eq_false, not_false_eq_true, false_implies, List.append_assoc]
      have hd : (xm.take 4)[i]? = some y := by rw [List.getElem?_take, if_pos (by omega)]; exact hy
      rw [drop_cons hd] at hR
      refine ⟨fun g3 => ?_, fun g3 => ?_⟩
      · have e3 : mstep n out (made1E y n) = out := if_neg g3
        rw [e1]
        refine ⟨i64_ok (by omega) (by omega), ⟨by omega, by simp only [List.length_append, List.length_cons, List.length_nil]; omega⟩, i64_ok (by omega) (by omega), ?_⟩
        refine back _ (i + 1, .lsl 801000 5 0 ((out.length : Int).toNat - 0), out ++ [made1E y n], out) ?_ ⟨Or.inr ⟨_, _, rfl, by simp, by simp, by simp⟩, by dsimp only; omega, by dsimp only; omega, by dsimp only; omega, hl1, ?_⟩ (by dsimp only; omega)
        · exact (by refine ⟨?_, ?_, rfl, rfl⟩ <;> repeat' (first | exact trivial | exact Or.inl rfl | exact Or.inr rfl | (refine And.intro (Or.inl rfl) ?_) | (refine And.intro (Or.inr (Or.inl rfl)) ?_) | (refine And.intro (Or.inr (Or.inr (Or.inr ⟨rfl, rfl⟩))) ?_) | (refine And.intro (Or.inr (Or.inr (Or.inl ⟨rfl, rfl, trivial⟩))) ?_) | exact ⟨(by show (_ : Nat) < 1000000000; omega), rfl, rfl⟩ | rfl | (refine And.intro (Or.inl ?_) ?_) | (refine And.intro ?_ ?_)))
        · dsimp only
          have : made2L n (y :: (xm.take 4).drop (i + 1)) out = made2L n ((xm.take 4).drop (i + 1)) (mstep n out (made1E y n)) := rfl
          rw [this, e3] at hR
          exact hR
      · have e3 : mstep n out (made1E y n) = out ++ [made1E y n] := if_pos g3
        refine ⟨i64_ok (by omega) (by omega), ?_⟩
        refine back _ (i + 1, .lfull 801000, out ++ [made1E y n], out ++ [made1E y n]) ?_ ⟨Or.inl ⟨rfl, rfl⟩, by dsimp only; omega, by dsimp only; omega, by simp only [List.length_append, List.length_cons, List.length_nil]; omega, by simp, ?_⟩ (by dsimp only; omega)
        · exact (by refine ⟨?_, ?_, rfl, rfl⟩ <;> repeat' (first | exact trivial | exact Or.inl rfl | exact Or.inr rfl | (refine And.intro (Or.inl rfl) ?_) | (refine And.intro (Or.inr (Or.inl rfl)) ?_) | (refine And.intro (Or.inr (Or.inr (Or.inr ⟨rfl, rfl⟩))) ?_) | (refine And.intro (Or.inr (Or.inr (Or.inl ⟨rfl, rfl, trivial⟩))) ?_) | exact ⟨(by show (_ : Nat) < 1000000000; omega), rfl, rfl⟩ | rfl | (refine And.intro (Or.inl ?_) ?_) | (refine And.intro ?_ ?_)))
        · dsimp only
          have : made2L n (y :: (xm.take 4).drop (i + 1)) out = made2L n ((xm.take 4).drop (i + 1)) (mstep n out (made1E y n)) := rfl
          rw [this, e3] at hR
          exact hR
    · rw [done (by omega)]
    · rw [done (by omega)]
  · refine PW_sound env_ok ⟨_, fn_11, rfl⟩ 2000 _ _ (by kernel_rfl) ?_; simp only [go_sem, Nat.reduceBEq, ↓reduceIte, ↓reduceDIte, Nat.reduceAdd, Nat.reduceSub, Nat.reduceMul, Nat.reduceLeDiff, ← Bool.decide_and, ← Bool.decide_or, ← decide_not, Int.reduceLT, Int.reduceLE, Int.reduceToNat, Int.reduceNeg, Int.reduceEq, not_true_eq_false, not_false_eq_true, false_implies, List.append_assoc]
    have hlen : len = out.length := by rw [hv, List.length_take, List.length_drop]; omega
    rw [← hv]
    refine ⟨fun g1 => ⟨fun g2 => ?_, fun g2 => ?_⟩, fun g1 => ?_⟩
    · obtain ⟨y, hy⟩ : ∃ y, xm[i]? = some y := get_of_lt (by omega)
      refine ⟨Int.natCast_nonneg _, y, hy, _, c_Made1 y n hnn, fun _ => ⟨⟨ho2, by omega⟩, ?_⟩⟩
      have e1 : ((out ++ [made1E y n]).length : Int) - 1 = (out.length : Int) := by simp only [List.length_append, List.length_cons, List.length_nil]; omega
      rw [e1]
      refine ⟨i64_ok (by omega) (by omega), _, (c_Right (n, a, out ++ [made1E y n]) out.length (by dsimp only; omega) (by simp)).dec, ?_⟩
      simp only [go_sem, Nat.reduceBEq, ↓reduceIte, ↓reduceDIte, Nat.reduceAdd, Nat.reduceSub, Nat.reduceMul, Nat.reduceLeDiff, ← Bool.decide_and, ← Bool.decide_or, ← decide_not, Int.reduceLT, Int.reduceLE, Int.reduceToNat, Int.reduceNeg, Int.reduceEq, not_true_eq_false, not_false_eq_true, false_implies, List.append_assoc]
      have hd : (xm.take 4)[i]? = some y := by rw [List.getElem?_take, if_pos (by omega)]; exact hy
      rw [drop_cons hd] at hR
      refine ⟨fun g3 => ?_, fun g3 => ?_⟩
      · have e3 : mstep n out (made1E y n) = out := if_neg g3
        rw [e1]
        refine ⟨i64_ok (by omega) (by omega), ⟨by omega, by simp only [List.length_append, List.length_cons, List.length_nil]; omega⟩, i64_ok (by omega) (by omega), ?_⟩
        refine back _ (i + 1, .lsl 801000 5 0 ((out.length : Int).toNat - 0), out ++ [made1E y n], out) ?_ ⟨Or.inr ⟨_, _, rfl, by simp, by simp, by simp⟩, by dsimp only; omega, by dsimp only; omega, by dsimp only; omega, hl1, ?_⟩ (by dsimp only; omega)
        · exact (by refine ⟨?_, ?_, rfl, rfl⟩ <;> repeat' (first | exact trivial | exact Or.inl rfl | exact Or.inr rfl | (refine And.intro (Or.inl rfl) ?_) | (refine And.intro (Or.inr (Or.inl rfl)) ?_) | (refine And.intro (Or.inr (Or.inr (Or.inr ⟨rfl, rfl⟩))) ?_) | (refine And.intro (Or.inr (Or.inr (Or.inl ⟨rfl, rfl, trivial⟩))) ?_) | exact ⟨(by show (_ : Nat) < 1000000000; omega), rfl, rfl⟩ | rfl | (refine And.intro (Or.inl ?_) ?_) | (refine And.intro ?_ ?_)))
        · dsimp only
          have : made2L n (y :: (xm.take 4).drop (i + 1)) out = made2L n ((xm.take 4).drop (i + 1)) (mstep n out (made1E y n)) := rfl
          rw [this, e3] at hR
          exact hR
      · have e3 : mstep n out (made1E y n) = out ++ [made1E y n] := if_pos g3
        refine ⟨i64_ok (by omega) (by omega), ?_⟩
        refine back _ (i + 1, .lfull 801000, out ++ [made1E y n], out ++ [made1E y n]) ?_ ⟨Or.inl ⟨rfl, rfl⟩, by dsimp only; omega, by dsimp only; omega, by simp only [List.length_append, List.length_cons, List.length_nil]; omega, by simp, ?_⟩ (by dsimp only; omega)
        · exact (by refine ⟨?_, ?_, rfl, rfl⟩ <;> repeat' (first | exact trivial | exact Or.inl rfl | exact Or.inr rfl | (refine And.intro (Or.inl rfl) ?_) | (refine And.intro (Or.inr (Or.inl rfl)) ?_) | (refine And.intro (Or.inr (Or.inr (Or.inr ⟨rfl, rfl⟩))) ?_) | (refine And.intro (Or.inr (Or.inr (Or.inl ⟨rfl, rfl, trivial⟩))) ?_) | exact ⟨(by show (_ : Nat) < 1000000000; omega), rfl, rfl⟩ | rfl | (refine And.intro (Or.inl ?_) ?_) | (refine And.intro ?_ ?_)))
        · dsimp only
          have : made2L n (y :: (xm.take 4).drop (i + 1)) out = made2L n ((xm.take 4).drop (i + 1)) (mstep n out (made1E y n)) := rfl
          rw [this, e3] at hR
          exact hR
    · rw [done (by omega)]
    · rw [done (by omega)]
theorem rightAt_right {n : Int} {rs : List Rl} {r : Rl} (h : rightAt n (rs ++ [r]) rs.length = true) : rightR n r = true ∧ r ∉ rs := by
  unfold rightAt at h
  simp only [List.getElem?_append_right (Nat.le_refl _), Nat.sub_self, List.getElem?_cons_zero, List.take_left', Bool.and_eq_true, decide_eq_true_eq] at h
  exact ⟨h.2, h.1⟩
theorem mstep_right {n : Int} {rs : List Rl} {r x : Rl} (hx : x ∈ mstep n rs r) : x ∈ rs ∨ rightR n x = true := by
  unfold mstep at hx
  split at hx
  · rename_i h
    rcases List.mem_append.1 hx with hx | hx
    · exact .inl hx
    · rw [List.mem_singleton.1 hx]; exact .inr (rightAt_right h).1
  · exact .inl hx
theorem mstep_nodup {n : Int} {rs : List Rl} {r : Rl} (h : rs.Nodup) : (mstep n rs r).Nodup := by
  unfold mstep
  split
  · rename_i hr
    rw [List.nodup_append]
    refine ⟨h, by simp, fun a ha b hb => ?_⟩
    rw [List.mem_singleton.1 hb]
    rintro rfl
    exact (rightAt_right hr).2 ha
  · exact h
theorem made2L_right {n : Int} {x : Rl} : ∀ {ys : List RawRl} {out : List Rl}, x ∈ made2L n ys out → x ∈ out ∨ rightR n x = true
  | [], out, h => .inl h
  | y :: ys, out, h => by
    rcases made2L_right (ys := ys) h with h | h
    · exact mstep_right h
    · exact .inr h
theorem made2L_nodup {n : Int} : ∀ {ys : List RawRl} {out : List Rl}, out.Nodup → (made2L n ys out).Nodup
  | [], out, h => h
  | y :: ys, out, h => made2L_nodup (ys := ys) (mstep_nodup h)
theorem made2L_len {n : Int} : ∀ (ys : List RawRl) (out : List Rl), out.length ≤ (made2L n ys out).length ∧ (made2L n ys out).length ≤ out.length + ys.length
  | [], out => ⟨Nat.le_refl _, Nat.le_refl _⟩
  | y :: ys, out => by
    have h := made2L_len (n := n) ys (mstep n out (made1E y n))
    have h2 := mstep_len n out (made1E y n)
    show _ ≤ (made2L n ys (mstep n out (made1E y n))).length ∧ (made2L n ys (mstep n out (made1E y n))).length ≤ _
    simp only [List.length_cons]
    omega
theorem base_right (k : Int) : (baseE k).2.2.all (rightR (baseE k).1) = true ∧ (baseE k).2.2.Nodup := by
  unfold baseE
  repeat' split
  all_goals decide
/-- A scheme with right rules only. -/
structure OkS (s : Sch) : Prop where
  n1 : 1 ≤ s.1
  n8 : s.1 ≤ 8
  a1 : 1 ≤ s.2.1
  a2 : s.2.1 ≤ 2 ^ s.1.toNat - 1
  len : s.2.2.length ≤ 64
  right : ∀ r, r ∈ s.2.2 → rightR s.1 r = true
  nodup : s.2.2.Nodup
theorem made2_ok (x : RawS) : OkS (made2E x) ∧ (made2E x).1 ≤ 2 ∧ 2 ≤ (made2E x).2.2.length ∧ (made2E x).2.2.length ≤ 9 := by
  have hf := base_fact x.1
  have hr := base_right x.1
  unfold made2E
  have hl := made2L_len (n := (baseE x.1).1) (x.2.2.take 4) ((baseE x.1).2.2.drop (x.2.1 % 2).toNat)
  have h4 : (x.2.2.take 4).length ≤ 4 := by rw [List.length_take]; omega
  have hd : ((baseE x.1).2.2.drop (x.2.1 % 2).toNat).length = (baseE x.1).2.2.length - (x.2.1 % 2).toNat := List.length_drop ..
  refine ⟨⟨by dsimp only; omega, by dsimp only; omega, by dsimp only; omega, ?_, by dsimp only; omega, fun r hr' => ?_, made2L_nodup (hr.2.sublist (List.drop_sublist _ _))⟩, by dsimp only; omega, by dsimp only; omega, by dsimp only; omega⟩
  · dsimp only
    rw [hf.2.1]
    rcases hf.1 with h | h <;> rw [h] <;> decide
  · rcases made2L_right hr' with h | h
    · exact List.all_eq_true.1 hr.1 r (List.mem_of_mem_drop h)
    · exact h
theorem right_nums {n : Int} {r : Rl} (h : rightR n r = true) : 0 ≤ r.1 ∧ r.1 < n ∧ 0 ≤ r.2.1 ∧ r.2.1 < n ∧ 0 ≤ r.2.2.2.2 ∧ r.2.2.2.2 ≤ 1000 ∧ r.2.2.1.length ≤ 4 ∧ r.2.2.2.1.length ≤ 4 := by
  simp only [rightR, inB, Bool.and_eq_true, decide_eq_true_eq] at h
  omega
end Go.Proofs.YtcmolphllladbaaDoor
namespace Go.Proofs.YtcmolphllladbaaDoor
set_option maxHeartbeats 4000000
set_option maxRecDepth 100000
def headB (s : Sch) : Bool := inB s.1 1 8 && inB s.2.1 1 (2 ^ s.1.toNat - 1) && decide (s.2.2.length ≤ 64)
def chkL (n : Int) (l : List Rl) : Nat → Nat → Int × Int
  | 0, _ => ((l.length : Int), 0)
  | k + 1, i => if rightAt n l i = true then chkL n l k (i + 1) else ((i : Int), 20)
def checkE (s : Sch) : Int × Int := if headB s = true then chkL s.1 s.2.2 s.2.2.length 0 else (-1, 20)
theorem chkL_ok {n : Int} {l : List Rl} : ∀ {k i : Nat}, (chkL n l k i).2 = 0 → ∀ j, i ≤ j → j < i + k → rightAt n l j = true
  | 0, i, _, j, h1, h2 => by omega
  | k + 1, i, h, j, h1, h2 => by
    unfold chkL at h
    split at h
    · rename_i hr
      by_cases hj : j = i
      · subst hj; exact hr
      · exact chkL_ok h j (by omega) (by omega)
    · simp at h
theorem rightAt_mem {n : Int} {l : List Rl} {i : Nat} (h : rightAt n l i = true) : ∃ r, l[i]? = some r ∧ r ∉ l.take i ∧ rightR n r = true := by
  unfold rightAt at h
  split at h
  · rename_i r hr
    rw [Bool.and_eq_true, decide_eq_true_eq] at h
    exact ⟨r, hr, h⟩
  · cases h
theorem check_ok {s : Sch} (h : (checkE s).2 = 0) : OkS s := by
  unfold checkE at h
  split at h
  · rename_i hh
    simp only [headB, inB, Bool.and_eq_true, decide_eq_true_eq] at hh
    have hall : ∀ j, j < s.2.2.length → rightAt s.1 s.2.2 j = true := fun j hj => chkL_ok h j (Nat.zero_le _) (by omega)
    refine ⟨hh.1.1.1, hh.1.1.2, hh.1.2.1, hh.1.2.2, hh.2, fun r hr => ?_, ?_⟩
    · obtain ⟨j, hj⟩ := List.getElem?_of_mem hr
      obtain ⟨r', h1, _, h2⟩ := rightAt_mem (hall j (List.getElem?_eq_some_iff.1 hj).1)
      rw [hj] at h1
      injection h1 with h1
      rw [h1]; exact h2
    · refine List.pairwise_iff_getElem.2 fun i j hi hj hij he => ?_
      obtain ⟨r, h1, h2, _⟩ := rightAt_mem (hall j hj)
      refine h2 ?_
      rw [List.getElem?_eq_getElem hj] at h1
      injection h1 with h1
      rw [← h1, ← he]
      exact List.mem_of_getElem? (i := i) (by rw [List.getElem?_take_of_lt hij]; exact List.getElem?_eq_getElem hi)
  · simp at h
theorem pow256 : ∀ m : Nat, m < 9 → (2 : Int) ^ m ≤ 256 := by decide
theorem c_Check2 (s : Sch) : PC env 13 [⟨SchemeT, s⟩] (.tup (.int .i64) (.int .i64)) (checkE s) := by
  obtain ⟨n, a, rs⟩ := s
  refine PC.of_PW (m := 2000) env_ok fn_13 rfl rfl rfl rfl (by kernel_rfl) ?_; intro hx; simp only [Tryd.f13]; simp only [go_sem, Nat.reduceBEq, ↓reduceIte, ↓reduceDIte, Nat.reduceAdd, Nat.reduceSub, Nat.reduceMul, Nat.reduceLeDiff, ← Bool.decide_and, ← Bool.decide_or, ← decide_not, Int.reduceLT, Int.reduceLE, Int.reduceToNat, Int.reduceNeg]
  refine ⟨_, c_In n 1 8, ?_⟩
  cases h1 : inB n 1 8
  · simp only [go_sem, Nat.reduceBEq, ↓reduceIte, ↓reduceDIte, Nat.reduceAdd, Nat.reduceSub, Nat.reduceMul, Nat.reduceLeDiff, ← Bool.decide_and, ← Bool.decide_or, ← decide_not, Int.reduceLT, Int.reduceLE, Int.reduceToNat, Int.reduceNeg]
    simp [checkE, headB, h1]
  · have hn : 1 ≤ n ∧ n ≤ 8 := by simpa [inB] using h1
    simp only [go_sem, Nat.reduceBEq, ↓reduceIte, ↓reduceDIte, Nat.reduceAdd, Nat.reduceSub, Nat.reduceMul, Nat.reduceLeDiff, ← Bool.decide_and, ← Bool.decide_or, ← decide_not, Int.reduceLT, Int.reduceLE, Int.reduceToNat, Int.reduceNeg]
    refine ⟨⟨by omega, by omega⟩, ?_⟩
    rw [Int.one_mul]
    have hpow : (2 : Int) ^ n.toNat ≤ 256 := pow256 _ (by omega)
    have hpow1 : (0 : Int) < 2 ^ n.toNat := Int.pow_pos (by decide)
    refine ⟨i64_ok (by omega) (by omega), i64_ok (by omega) (by omega), _, c_In a 1 (2 ^ n.toNat - 1), ?_⟩
    cases h2 : inB a 1 (2 ^ n.toNat - 1)
    · simp only [go_sem, Nat.reduceBEq, ↓reduceIte, ↓reduceDIte, Nat.reduceAdd, Nat.reduceSub, Nat.reduceMul, Nat.reduceLeDiff, ← Bool.decide_and, ← Bool.decide_or, ← decide_not, Int.reduceLT, Int.reduceLE, Int.reduceToNat, Int.reduceNeg]
      simp [checkE, headB, h1, h2]
    · simp only [go_sem, Nat.reduceBEq, ↓reduceIte, ↓reduceDIte, Nat.reduceAdd, Nat.reduceSub, Nat.reduceMul, Nat.reduceLeDiff, ← Bool.decide_and, ← Bool.decide_or, ← decide_not, Int.reduceLT, Int.reduceLE, Int.reduceToNat, Int.reduceNeg]
      have hhead : headB (n, a, rs) = decide (rs.length ≤ 64) := by simp [headB, h1, h2]
      refine ⟨fun g => ?_, fun g => ?_⟩
      · have : headB (n, a, rs) = false := by rw [hhead]; simp; omega
        simp [checkE, this]
      · have hh : headB (n, a, rs) = true := by rw [hhead]; simp; omega
        have hE : checkE (n, a, rs) = chkL n rs rs.length 0 := by simp [checkE, hh]
        rw [hE]
        obtain ⟨T, hT⟩ : ∃ T, T = chkL n rs rs.length 0 := ⟨_, rfl⟩
        rw [← hT]
        refine Walks.loopA (X := Nat) (fun (z : Nat) => [(4, .iv (.int .i64) (z : Int))]) (fun (z : Nat) => []) (fun (z : Nat) => z ≤ rs.length ∧ chkL n rs (rs.length - z) z = T) (fun (z : Nat) => rs.length - z) 0 ?_; intro b1 b2 hb1 hb2; simp (config := {maxSteps := 4000000}) only [go_sem, Nat.reduceBEq, ↓reduceIte, ↓reduceDIte, Nat.reduceAdd, Nat.reduceSub, Nat.reduceMul, Nat.reduceLeDiff, ← Bool.decide_and, ← Bool.decide_or, ← decide_not, Int.reduceLT, Int.reduceLE, Int.reduceToNat, Int.reduceNeg] at hb1 hb2; subst hb1; subst hb2; refine ⟨(by refine ⟨?_, ?_, rfl, rfl⟩ <;> repeat' (first | exact trivial | exact Or.inl rfl | exact Or.inr rfl | (refine And.intro (Or.inl rfl) ?_) | (refine And.intro (Or.inr (Or.inl rfl)) ?_) | (refine And.intro (Or.inr (Or.inr (Or.inr ⟨rfl, rfl⟩))) ?_) | (refine And.intro (Or.inr (Or.inr (Or.inl ⟨rfl, rfl, trivial⟩))) ?_) | exact ⟨(by show (_ : Nat) < 1000000000; omega), rfl, rfl⟩ | rfl | (refine And.intro (Or.inl ?_) ?_) | (refine And.intro ?_ ?_))), ?_, ?_⟩
        · exact ⟨Nat.zero_le _, hT.symm⟩
        clear hT
        intro i ⟨hi, hT⟩ back
        refine PW_sound env_ok ⟨_, fn_13, rfl⟩ 2000 _ _ (by kernel_rfl) ?_; simp only [go_sem, Nat.reduceBEq, ↓reduceIte, ↓reduceDIte, Nat.reduceAdd, Nat.reduceSub, Nat.reduceMul, Nat.reduceLeDiff, ← Bool.decide_and, ← Bool.decide_or, ← decide_not, Int.reduceLT, Int.reduceLE, Int.reduceToNat, Int.reduceNeg]
        refine ⟨fun g2 => ?_, fun g2 => ?_⟩
        · have e : rs.length - i = (rs.length - (i + 1)) + 1 := by omega
          rw [e, chkL] at hT
          refine ⟨_, c_Right (n, a, rs) i (by dsimp only; omega) (by dsimp only; omega), ?_⟩
          dsimp only
          cases hr : rightAt n rs i
          · rw [hr] at hT
            simp only [go_sem, Nat.reduceBEq, ↓reduceIte, ↓reduceDIte, Nat.reduceAdd, Nat.reduceSub, Nat.reduceMul, Nat.reduceLeDiff, ← Bool.decide_and, ← Bool.decide_or, ← decide_not, Int.reduceLT, Int.reduceLE, Int.reduceToNat, Int.reduceNeg]
            rw [← hT]; rfl
          · rw [hr] at hT
            simp only [go_sem, Nat.reduceBEq, ↓reduceIte, ↓reduceDIte, Nat.reduceAdd, Nat.reduceSub, Nat.reduceMul, Nat.reduceLeDiff, ← Bool.decide_and, ← Bool.decide_or, ← decide_not, Int.reduceLT, Int.reduceLE, Int.reduceToNat, Int.reduceNeg]
            exact ⟨i64_ok (by omega) (by omega), back _ (i + 1) (by refine ⟨?_, ?_, rfl, rfl⟩ <;> repeat' (first | exact trivial | exact Or.inl rfl | exact Or.inr rfl | (refine And.intro (Or.inl rfl) ?_) | (refine And.intro (Or.inr (Or.inl rfl)) ?_) | (refine And.intro (Or.inr (Or.inr (Or.inr ⟨rfl, rfl⟩))) ?_) | (refine And.intro (Or.inr (Or.inr (Or.inl ⟨rfl, rfl, trivial⟩))) ?_) | exact ⟨(by show (_ : Nat) < 1000000000; omega), rfl, rfl⟩ | rfl | (refine And.intro (Or.inl ?_) ?_) | (refine And.intro ?_ ?_))) ⟨by omega, hT⟩ (by omega)⟩
        · have e : rs.length - i = 0 := by omega
          rw [e, chkL] at hT
          exact hT
theorem c_Valid2 (s : Sch) : PC env 39 [⟨SchemeT, s⟩] .bool (decide ((checkE s).2 = 0)) := by
  refine PC.of_PW (m := 2000) env_ok fn_39 rfl rfl rfl rfl (by kernel_rfl) ?_; intro hx; simp only [Tryd.f39]; simp only [go_sem, Nat.reduceBEq, ↓reduceIte, ↓reduceDIte, Nat.reduceAdd, Nat.reduceSub, Nat.reduceMul, Nat.reduceLeDiff, ← Bool.decide_and, ← Bool.decide_or, ← decide_not, Int.reduceLT, Int.reduceLE, Int.reduceToNat, Int.reduceNeg]
  refine ⟨_, c_Check2 s, fun _ => ?_⟩
  rfl
end Go.Proofs.YtcmolphllladbaaDoor
namespace Go.Proofs.YtcmolphllladbaaDoor
open Go.Lib
set_option maxHeartbeats 1000000
def numOK (s : Str) : Bool := decide (1 ≤ s.length ∧ s.length ≤ 4 ∧ ¬ (s[0]? = some 48 ∧ 1 < s.length)) && s.all dig
def numM (most : Int) (s : Str) : Option Int := if numOK s = true ∧ (valS s : Int) ≤ most then some (valS s : Int) else none
def fieldV (s : Str) : Option Str := if s = [] then none else if s = [45] then some [] else some s
def wrF (s : Str) : Str := if s = [] then [45] else s
def schemeW : Str := [115, 99, 104, 101, 109, 101]
def ruleW : Str := [114, 117, 108, 101]
def headP : List Str → Option (Int × Int)
  | [w, a, b] => if w = schemeW then (match numM 9999 a, numM 255 b with | some m, some c => some (m, c) | _, _ => none) else none
  | _ => none
def ruleP : List Str → Option Rl
  | [w, a, b, i, o, c] => if w = ruleW then (match numM 9999 a, numM 9999 b, fieldV i, fieldV o, numM 9999 c with | some a, some b, some i, some o, some c => some (a, b, i, o, c) | _, _, _, _, _ => none) else none
  | _ => none
abbrev PaR := Sch × Int × Int
def badP (k : Int) : PaR := ((0, 0, []), k, 3)
def finP (t : Sch) : PaR := if (checkE t).2 = 0 then (t, (checkE t).1, 0) else ((0, 0, []), (checkE t).1, (checkE t).2)
def bodyP (h : Int × Int) : List Str → Int → List Rl → PaR
  | [], k, _ => badP k
  | [x], k, acc => if x = [] then finP (h.1, h.2, acc) else badP k
  | x :: y :: r, k, acc => match ruleP (spl 32 x) with | some q => bodyP h (y :: r) (k + 1) (acc ++ [q]) | none => badP k
def linesP : List Str → PaR
  | [] => badP (-1) | [_] => badP (-1)
  | x :: y :: r => match headP (spl 32 x) with | some h => bodyP h (y :: r) 0 [] | none => badP (-1)
def parseE (s : Str) : PaR := linesP (spl 10 s)
def headL (s : Sch) : Str := joinC 32 [schemeW, itoa s.1, itoa s.2.1]
def ruleL (r : Rl) : Str := joinC 32 [ruleW, itoa r.1, itoa r.2.1, wrF r.2.2.1, wrF r.2.2.2.1, itoa r.2.2.2.2]
def textE (s : Sch) : Str := joinC 10 (headL s :: (s.2.2.map ruleL ++ [[]]))
def printE (s : Sch) : Str := if (checkE s).2 = 0 then textE s else []
/-! Numbers and fields, there and back. -/
theorem num_itoa {n most : Int} (h0 : 0 ≤ n) (h1 : n ≤ 9999) (h2 : n ≤ most) : numM most (itoa n) = some n := by
  rw [itoa_dec h0]
  have hv := valS_dec n.toNat
  have hl := dec_len 3 n.toNat (by omega)
  obtain ⟨x, r, e, hx, _⟩ := dec_head n.toNat
  have hd := dig_dec n.toNat
  have hok : numOK (decDigits n.toNat) = true := by
    simp only [numOK, hd, Bool.and_true, decide_eq_true_eq]
    refine ⟨by rw [e]; simp, by omega, ?_⟩
    rw [e]
    rintro ⟨h3, h4⟩
    have h3 : x = 48 := by simpa using h3
    have := hx (by rintro rfl; simp at h4)
    subst h3
    simp at this
  unfold numM
  rw [hv, if_pos ⟨hok, by omega⟩]
  congr 1
  omega
theorem num_back {n most : Int} {s : Str} (h : numM most s = some n) : itoa n = s ∧ 0 ≤ n ∧ n ≤ most := by
  unfold numM at h
  split at h
  · rename_i hh
    injection h with h
    obtain ⟨hok, hm⟩ := hh
    simp only [numOK, Bool.and_eq_true, decide_eq_true_eq] at hok
    obtain ⟨⟨h1, h2, h3⟩, hd⟩ := hok
    subst h
    refine ⟨?_, by omega, hm⟩
    rw [itoa_dec (by omega), Int.toNat_natCast]
    refine dec_val s.length s rfl (by rintro rfl; simp at h1) hd fun x r e hr => ?_
    subst e
    have hx : dig x = true := by simpa using (List.all_eq_true.1 hd) x (List.mem_cons_self ..)
    simp only [dig, decide_eq_true_eq] at hx
    have : ¬ x = 48 := fun e => h3 ⟨by rw [e]; rfl, by cases r with | nil => exact absurd rfl hr | cons y r => simp⟩
    have : x.toNat ≠ 48 := fun e => this (UInt8.toNat_inj.1 (by rw [e]; rfl))
    omega
  · cases h
theorem itoa_dig {n : Int} (h : 0 ≤ n) : (itoa n).all dig = true := by rw [itoa_dec h]; exact dig_dec _
theorem dig_no {s : Str} (h : s.all dig = true) : (32 : UInt8) ∉ s ∧ (10 : UInt8) ∉ s := ⟨all_no_c rfl h, all_no_c rfl h⟩
theorem aln_no {s : Str} (h : s.all aln = true) : (32 : UInt8) ∉ s ∧ (10 : UInt8) ∉ s ∧ s ≠ [45] := ⟨all_no_c rfl h, all_no_c rfl h, by rintro rfl; simp [aln] at h⟩
theorem low_aln {s : Str} (h : s.all low = true) : s.all aln = true := by
  rw [List.all_eq_true] at h ⊢
  intro x hx
  have := h x hx
  simp only [low, aln, decide_eq_true_eq] at this ⊢
  omega
theorem field_wr {s : Str} (h : s ≠ [45]) : fieldV (wrF s) = some s := by
  unfold wrF
  split
  · rename_i e; subst e; rfl
  · rename_i e; unfold fieldV; rw [if_neg e, if_neg h]
theorem field_back {s v : Str} (h : fieldV s = some v) : wrF v = s ∧ s ≠ [] := by
  unfold fieldV at h
  split at h
  · cases h
  · rename_i h1
    split at h
    · rename_i h2; injection h with h; subst h; exact ⟨h2.symm, h1⟩
    · injection h with h; subst h; exact ⟨by unfold wrF; rw [if_neg h1], h1⟩
theorem wr_no {s : Str} (h : s.all aln = true) : (32 : UInt8) ∉ wrF s ∧ (10 : UInt8) ∉ wrF s := by
  unfold wrF
  split
  · exact ⟨by decide, by decide⟩
  · exact ⟨(aln_no h).1, (aln_no h).2.1⟩
theorem head_back {l : List Str} {h : Int × Int} (hh : headP l = some h) : l = [schemeW, itoa h.1, itoa h.2] ∧ 0 ≤ h.1 ∧ h.1 ≤ 9999 ∧ 0 ≤ h.2 ∧ h.2 ≤ 255 := by
  unfold headP at hh
  split at hh
  · rename_i w a b
    split at hh
    · rename_i hw
      split at hh
      · rename_i m c h1 h2
        injection hh with hh
        subst hh; subst hw
        obtain ⟨e1, a1, a2⟩ := num_back h1
        obtain ⟨e2, b1, b2⟩ := num_back h2
        exact ⟨by rw [e1, e2], a1, a2, b1, b2⟩
      · cases hh
    · cases hh
  · cases hh
theorem rule_back {l : List Str} {r : Rl} (hh : ruleP l = some r) : l = [ruleW, itoa r.1, itoa r.2.1, wrF r.2.2.1, wrF r.2.2.2.1, itoa r.2.2.2.2] := by
  unfold ruleP at hh
  split at hh
  · rename_i w a b i o c
    split at hh
    · rename_i hw
      split at hh
      · rename_i x1 x2 x3 x4 x5 h1 h2 h3 h4 h5
        injection hh with hh
        subst hh; subst hw
        rw [(num_back h1).1, (num_back h2).1, (field_back h3).1, (field_back h4).1, (num_back h5).1]
      · cases hh
    · cases hh
  · cases hh
theorem right_facts {n : Int} {r : Rl} (h : rightR n r = true) (hn : n ≤ 8) : 0 ≤ r.1 ∧ r.1 ≤ 9999 ∧ 0 ≤ r.2.1 ∧ r.2.1 ≤ 9999 ∧ r.2.2.1.all aln = true ∧ r.2.2.2.1.all aln = true ∧ 0 ≤ r.2.2.2.2 ∧ r.2.2.2.2 ≤ 9999 := by
  simp only [rightR, inB, Bool.and_eq_true, decide_eq_true_eq] at h
  exact ⟨by omega, by omega, by omega, by omega, low_aln h.1.1.1.2, h.1.2, by omega, by omega⟩
theorem rule_line {n : Int} {r : Rl} (h : rightR n r = true) (hn : n ≤ 8) : ruleP (spl 32 (ruleL r)) = some r ∧ (10 : UInt8) ∉ ruleL r := by
  obtain ⟨h1, h2, h3, h4, h5, h6, h7, h8⟩ := right_facts h hn
  have d1 := dig_no (itoa_dig h1)
  have d2 := dig_no (itoa_dig h3)
  have d3 := dig_no (itoa_dig h7)
  have d4 := wr_no h5
  have d5 := wr_no h6
  constructor
  · unfold ruleL
    rw [spl_join 32 (by simp) (by
      intro x hx
      simp only [List.mem_cons, List.not_mem_nil, or_false] at hx
      rcases hx with rfl | rfl | rfl | rfl | rfl | rfl
      · decide
      · exact d1.1
      · exact d2.1
      · exact d4.1
      · exact d5.1
      · exact d3.1)]
    unfold ruleP
    dsimp only
    rw [if_pos rfl, num_itoa h1 h2 h2, num_itoa h3 h4 h4, field_wr (aln_no h5).2.2, field_wr (aln_no h6).2.2, num_itoa h7 h8 h8]
  · unfold ruleL
    simp only [joinC, List.mem_append, List.mem_cons, not_or]
    exact ⟨by decide, by decide, d1.2, by decide, d2.2, by decide, d4.2, by decide, d5.2, by decide, d3.2⟩
theorem head_line {s : Sch} (h1 : 0 ≤ s.1) (h2 : s.1 ≤ 9999) (h3 : 0 ≤ s.2.1) (h4 : s.2.1 ≤ 255) : headP (spl 32 (headL s)) = some (s.1, s.2.1) ∧ (10 : UInt8) ∉ headL s := by
  have d1 := dig_no (itoa_dig h1)
  have d2 := dig_no (itoa_dig h3)
  constructor
  · unfold headL
    rw [spl_join 32 (by simp) (by
      intro x hx
      simp only [List.mem_cons, List.not_mem_nil, or_false] at hx
      rcases hx with rfl | rfl | rfl
      · decide
      · exact d1.1
      · exact d2.1)]
    unfold headP
    dsimp only
    rw [if_pos rfl, num_itoa h1 h2 h2, num_itoa h3 (by omega) h4]
  · unfold headL
    simp only [joinC, List.mem_append, List.mem_cons, not_or]
    exact ⟨by decide, by decide, d1.2, by decide, d2.2⟩
theorem body_lines {n : Int} (hn : n ≤ 8) (h : Int × Int) : ∀ (rs : List Rl) (k : Int) (acc : List Rl), (∀ r, r ∈ rs → rightR n r = true) → bodyP h (rs.map ruleL ++ [[]]) k acc = finP (h.1, h.2, acc ++ rs)
  | [], k, acc, _ => by simp [bodyP]
  | r :: rs, k, acc, hr => by
    have h1 := (rule_line (hr r (List.mem_cons_self ..)) hn).1
    have ih := body_lines hn h rs (k + 1) (acc ++ [r]) fun x hx => hr x (List.mem_cons_of_mem _ hx)
    cases hm : rs.map ruleL ++ [[]] with
    | nil => simp at hm
    | cons y t =>
      rw [hm] at ih
      rw [List.map_cons, List.cons_append, hm, bodyP, h1]
      simp only
      rw [ih, List.append_assoc]; rfl
theorem check_facts {s : Sch} (h : (checkE s).2 = 0) : OkS s := check_ok h
theorem text_lines {s : Sch} (hs : OkS s) : spl 10 (textE s) = headL s :: (s.2.2.map ruleL ++ [[]]) := by
  have h8 := hs.n8
  have h1 := hs.n1
  have ha1 := hs.a1
  have ha2 := hs.a2
  have hpow : (2 : Int) ^ s.1.toNat ≤ 256 := by
    exact pow256 _ (by omega)
  unfold textE
  refine spl_join 10 (by simp) fun x hx => ?_
  rcases List.mem_cons.1 hx with rfl | hx
  · exact (head_line (by omega) (by omega) (by omega) (by omega)).2
  · rcases List.mem_append.1 hx with hx | hx
    · obtain ⟨r, hr, rfl⟩ := List.mem_map.1 hx
      exact (rule_line (hs.right r hr) h8).2
    · simp at hx; subst hx; simp
/-- WHAT IS PRINTED IS READ BACK. -/
theorem parse_text {s : Sch} (h : (checkE s).2 = 0) : parseE (textE s) = (s, (checkE s).1, 0) := by
  have hs := check_ok h
  have h8 := hs.n8
  have h1 := hs.n1
  have ha1 := hs.a1
  have ha2 := hs.a2
  have hpow : (2 : Int) ^ s.1.toNat ≤ 256 := by
    exact pow256 _ (by omega)
  unfold parseE
  rw [text_lines hs]
  have hh := (head_line (s := s) (by omega) (by omega) (by omega) (by omega)).1
  have hb := body_lines h8 (s.1, s.2.1) s.2.2 0 [] hs.right
  cases hm : s.2.2.map ruleL ++ [[]] with
  | nil => simp at hm
  | cons y t =>
    rw [hm] at hb
    rw [linesP, hh]
    simp only
    rw [hb]
    show finP (s.1, s.2.1, [] ++ s.2.2) = _
    rw [List.nil_append]
    unfold finP
    rw [if_pos h]
theorem parse_print {s : Sch} (h : (checkE s).2 = 0) : parseE (printE s) = (s, (checkE s).1, 0) := by unfold printE; rw [if_pos h]; exact parse_text h
theorem fin_ok {t : Sch} (h : (finP t).2.2 = 0) : finP t = (t, (checkE t).1, 0) ∧ (checkE t).2 = 0 := by
  unfold finP at h ⊢
  split at h
  · rename_i h1; rw [if_pos h1]; exact ⟨rfl, h1⟩
  · rename_i h1; exact absurd h h1
theorem body_ok {h : Int × Int} : ∀ {l : List Str} {k : Int} {acc : List Rl}, (bodyP h l k acc).2.2 = 0 → ∃ rs, l.map (spl 32) = rs.map (fun r => [ruleW, itoa r.1, itoa r.2.1, wrF r.2.2.1, wrF r.2.2.2.1, itoa r.2.2.2.2]) ++ [[[]]] ∧ bodyP h l k acc = finP (h.1, h.2, acc ++ rs) ∧ l ≠ []
  | [], k, acc, hh => by simp [bodyP, badP] at hh
  | [x], k, acc, hh => by
    unfold bodyP at hh ⊢
    split at hh
    · rename_i hx; subst hx; exact ⟨[], by simp [spl], by rw [if_pos rfl, List.append_nil], by simp⟩
    · simp [badP] at hh
  | x :: y :: r, k, acc, hh => by
    unfold bodyP at hh ⊢
    split at hh
    · rename_i q hq
      obtain ⟨rs, h1, h2, _⟩ := body_ok hh
      refine ⟨q :: rs, ?_, ?_, by simp⟩
      · rw [List.map_cons, h1, rule_back hq]; rfl
      · rw [h2, List.append_assoc]; rfl
    · simp [badP] at hh
/-- WHAT IS READ IS PRINTED SO. -/
theorem text_parse {t : Str} (h : (parseE t).2.2 = 0) : ∃ s, parseE t = (s, (checkE s).1, 0) ∧ (checkE s).2 = 0 ∧ textE s = t := by
  unfold parseE at h ⊢
  have hj := joinC_spl 10 t
  generalize spl 10 t = l at h hj
  match l, h, hj with
  | [], h, _ => simp [linesP, badP] at h
  | [x], h, _ => simp [linesP, badP] at h
  | x :: y :: r, h, hj =>
    simp only [linesP] at h ⊢
    split at h
    · rename_i hd hhd
      obtain ⟨rs, h1, h2, _⟩ := body_ok h
      rw [h2] at h ⊢
      obtain ⟨h3, h4⟩ := fin_ok h
      rw [List.nil_append] at h3 h4
      refine ⟨(hd.1, hd.2, rs), by rw [List.nil_append]; exact h3, h4, ?_⟩
      have hx : headL (hd.1, hd.2, rs) = x := by
        have := (head_back hhd).1
        unfold headL
        rw [← this]; exact joinC_spl 32 x
      have hyr : rs.map ruleL ++ [[]] = y :: r := by
        have := congrArg (List.map (joinC 32)) h1
        rw [List.map_map, List.map_append, List.map_map] at this
        have e : (joinC 32 ∘ spl 32) = id := funext fun s => joinC_spl 32 s
        rw [e, List.map_id] at this
        rw [this]; rfl
      unfold textE
      rw [hx, hyr]
      exact hj
    · simp [badP] at h
theorem print_parse {t : Str} (h : (parseE t).2.2 = 0) : printE (parseE t).1 = t := by
  obtain ⟨s, h1, h2, h3⟩ := text_parse h
  rw [h1]
  unfold printE
  rw [if_pos h2]; exact h3
end Go.Proofs.YtcmolphllladbaaDoor
