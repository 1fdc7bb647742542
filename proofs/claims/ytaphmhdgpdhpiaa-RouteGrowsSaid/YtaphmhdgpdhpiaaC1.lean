/- Contracts: made schemes. Nothing here is trusted; no condition. -/
import Derived.Test.YtaphmhdgpdhpiaaA9
import Derived.Test.YtaphmhdgpdhpiaaProg
set_option linter.unusedSimpArgs false
set_option linter.unusedVariables false
namespace Go.Proofs.Ytaphmhdgpdhpiaa
set_option maxRecDepth 100000

/-- runtime.boundsError -/
abbrev BoundsErrorT : Ty := (.st (.pair (.int .i64) (.pair (.int .i64) (.pair .bool (.int .u8)))))
/-- runtime.errorAddressString -/
abbrev ErrorAddressStringT : Ty := (.st (.pair .str (.int .u64)))
/-- syllabaryref02.RawRule -/
abbrev RawRuleT : Ty := (.st (.pair (.sl (.int .u8)) (.pair (.sl (.int .u8)) (.pair (.int .u8) (.pair (.int .u8) (.int .u8))))))
/-- syllabaryref02.Raw -/
abbrev RawT : Ty := (.st (.pair (.int .u8) (.pair (.int .u8) (.sl RawRuleT))))
/-- api.Rule -/
abbrev RuleT : Ty := (.st (.pair (.int .i64) (.pair (.int .i64) (.pair .str (.pair .str (.int .i64))))))
/-- api.Scheme -/
abbrev SchemeT : Ty := (.st (.pair (.int .i64) (.pair (.int .u8) (.sl RuleT))))
/-- api.Run -/
abbrev RunT : Ty := (.st (.pair .str (.pair .str (.pair (.int .i64) (.pair (.int .i64) .bool)))))
/-- syllabaryref03.End -/
abbrev EndT : Ty := (.st (.pair (.sl (.int .i64)) (.pair (.int .i64) .bool)))
/-- strings.Builder -/
abbrev BuilderT : Ty := (.st (.pair (.ptr .unit) (.sl (.int .u8))))
/-- route.price -/
abbrev PriceT : Ty := (.st (.pair (.int .i64) (.int .i64)))
def tys : List (Nat × Ty) := [(1, .fnv), (2, (.int .i64)), (3, (.int .i64)), (4, .bool), (5, (.int .u8)), (6, (.int .u8)), (7, BoundsErrorT), (8, BoundsErrorT), (9, .str), (10, .str), (11, .str), (12, (.int .u64)), (13, ErrorAddressStringT), (14, ErrorAddressStringT), (21, (.int .i32)), (22, (.sl RawRuleT)), (23, RawT), (24, RawT), (25, (.st (.pair (.int .u8) (.int .u8)))), (26, (.sl (.int .i8))), (27, .fnv), (28, (.sl RuleT)), (29, SchemeT), (30, SchemeT), (31, .fnv), (32, (.sl (.int .i64))), (33, (.int .i8)), (35, .fnv), (36, (.st (.pair (.int .i64) (.int .i64)))), (37, (.sl (.int .u8))), (39, .fnv), (40, RunT), (41, RunT), (42, .fnv), (43, .fnv), (44, .fnv), (45, .fnv), (46, (.sl .bool)), (47, .fnv), (48, (.int .i64)), (50, .fnv), (51, .fnv), (52, RuleT), (53, RuleT), (54, .fnv), (55, .fnv), (56, EndT), (57, EndT), (58, .fnv), (59, RawRuleT), (60, RawRuleT), (61, .fnv), (62, .fnv), (63, .fnv), (64, (.st (.pair (.int .u8) (.pair (.int .u8) (.pair (.int .u8) (.int .u8)))))), (65, .fnv), (66, .fnv), (67, .fnv), (68, .fnv), (69, (.ptr .unit)), (70, BuilderT), (71, BuilderT), (75, .fnv), (76, .fnv), (77, (.mp (.int .i64) (.sl (.int .i64)))), (78, .fnv), (79, .fnv), (80, .fnv), (81, .fnv), (82, (.mp (.int .i64) PriceT)), (83, .fnv), (84, PriceT), (85, PriceT), (87, .fnv), (88, (.sl EndT)), (89, .fnv), (91, .fnv), (92, .fnv), (93, .fnv), (94, .fnv), (96, .fnv), (97, .fnv), (99, .fnv), (105, .fnv), (106, (.int .u32)), (107, (.int .u8)), (108, (.int .u8)), (109, .fnv), (110, (.int .i32)), (111, (.int .i32))]
def strs : List Nat := [7, 8, 13, 14, 23, 24, 29, 30, 40, 41, 52, 53, 56, 57, 59, 60, 70, 71, 84, 85]
def cmps : List Nat := [7, 8, 25, 36, 40, 41, 52, 53, 64, 84, 85]
def fns : List (Nat × (List Ty × Ty)) := [(2, ([], .unit)),
  (3, ([RawT, (.st (.pair (.int .u8) (.int .u8))), (.sl (.int .i8))], .bool)),
  (4, ([RawT, (.st (.pair (.int .u8) (.int .u8))), (.sl (.int .u8))], .bool)),
  (5, ([RawT, (.st (.pair (.int .u8) (.int .u8))), (.sl (.int .u8))], .bool)),
  (6, ([RawT, (.st (.pair (.int .u8) (.int .u8))), (.sl (.int .u8))], .bool)),
  (7, ([RawT, (.st (.pair (.int .u8) (.int .u8))), (.sl (.int .u8))], .bool)),
  (8, ([RawT, (.st (.pair (.int .u8) (.int .u8))), RawRuleT], .bool)),
  (9, ([RawT, (.sl (.int .u8)), (.st (.pair (.int .u8) (.pair (.int .u8) (.pair (.int .u8) (.int .u8)))))], .bool)),
  (10, ([], .bool)),
  (11, ([RawT, (.st (.pair (.int .u8) (.int .u8)))], SchemeT)),
  (12, ([SchemeT, (.st (.pair (.int .i64) (.int .i64))), (.sl (.int .u8))], (.tup (.sl (.int .i64)) (.int .i64)))),
  (13, ([SchemeT], (.tup SchemeT (.sl (.int .i64))))),
  (14, ([SchemeT], (.tup SchemeT (.sl (.int .i64))))),
  (15, ([SchemeT, (.sl (.int .i64))], RunT)),
  (16, ([SchemeT, (.sl (.int .i64))], RunT)),
  (17, ([SchemeT, SchemeT], .bool)),
  (18, ([(.sl (.int .i64)), (.sl (.int .i64))], .bool)),
  (19, ([(.sl .bool), (.sl .bool)], .bool)),
  (20, ([SchemeT], (.sl .bool))),
  (21, ([SchemeT], (.sl .bool))),
  (22, ([SchemeT], (.sl .bool))),
  (23, ([SchemeT], (.sl .bool))),
  (24, ([SchemeT, (.int .i64)], (.tup (.sl (.int .i64)) (.tup (.int .i64) (.int .i64))))),
  (25, ([SchemeT, (.int .i64)], (.tup (.sl (.int .i64)) (.tup (.int .i64) (.int .i64))))),
  (26, ([SchemeT, (.int .i64)], .bool)),
  (27, ([EndT, EndT], .bool)),
  (28, ([RawRuleT, (.int .i64)], RuleT)),
  (29, ([SchemeT], .bool)),
  (30, ([], SchemeT)),
  (31, ([RawT], SchemeT)),
  (32, ([SchemeT, (.int .i64)], .bool)),
  (33, ([SchemeT, RuleT], .bool)),
  (37, ([SchemeT], (.mp (.int .i64) (.sl (.int .i64))))),
  (40, ([SchemeT, (.int .i64)], .bool)),
  (41, ([SchemeT, (.int .i64)], .bool)),
  (42, ([SchemeT, (.mp (.int .i64) (.sl (.int .i64))), (.sl .bool)], (.mp (.int .i64) PriceT))),
  (43, ([PriceT, (.int .i64)], PriceT)),
  (44, ([SchemeT], (.sl EndT))),
  (45, ([SchemeT], (.tup (.int .i64) (.int .i64)))),
  (47, ([(.int .i64), (.int .i64), (.int .i64)], .bool)),
  (48, ([.str], .bool)),
  (49, ([.str], .bool)),
  (52, ([PriceT, PriceT], .bool)),
  (53, ([(.st (.pair (.int .i64) (.int .i64))), .str, .str], RuleT))]
def hfns : List (Nat × List (Option Ty)) := [(34, [none, some .str]), (35, [none]), (36, [some SchemeT]), (38, [some (.int .i64), none]), (39, [some (.int .i64), none, none, none, none]), (46, [some (.int .u8)]), (50, [none]), (51, [some (.int .i64), none, none])]
def keyTs : List (Nat × Nat) := [(77, 3), (82, 3)]
noncomputable def env : Env := mkEnv Try.prog tys strs cmps fns hfns keyTs [(29, 28), (1032, 28)] true [71] [(37, 5)] [42] [] [] [((8, 3), [[0, 1, 2, 3, 5, 6, 4, 7, 8, 9, 10], [0, 1, 2, 3, 5, 6, 4, 9, 7, 8, 10], [0, 1, 2, 3, 5, 6, 9, 4, 7, 8, 10]])] [] [(8, 7)]
theorem e_emp0 (t : Nat) : env.emp t = false := rfl
theorem e_stp0 (f i : Nat) : env.stp f i = roAt [(8, 7)] f i := rfl
theorem e_fl0 (f i : Nat) : env.fl f i = flAt [((8, 3), [[0, 1, 2, 3, 5, 6, 4, 7, 8, 9, 10], [0, 1, 2, 3, 5, 6, 4, 9, 7, 8, 10], [0, 1, 2, 3, 5, 6, 9, 4, 7, 8, 10]])] f i := rfl
theorem e_con0 (t : Nat) : env.con t = false := rfl
theorem e_px0 (f : Nat) : env.px f = false := rfl
theorem e_nd0 (f : Nat) : env.nd f = mem1 f [42] := rfl
theorem e_bx0 (t : Nat) : env.boxT t = mem1 t [71] := rfl
theorem e_el0 (t : Nat) : env.elm t = look t [(37, 5)] := rfl
theorem e_ro0 (d t : Nat) : env.ro d t = roAt [(29, 28), (1032, 28)] d t := rfl
theorem e_tm0 : env.tm = true := rfl
theorem env_ok : EnvOK env := mkEnv_ok (by kernel_rfl) (by kernel_rfl) (by kernel_rfl) (by kernel_rfl) (by kernel_rfl) (by kernel_rfl) (by kernel_rfl) (by kernel_rfl) (by kernel_rfl)
theorem e_key77 : env.mapKey 77 = some 3 := rfl
theorem e_key82 : env.mapKey 82 = some 3 := rfl
theorem e_ty1 : env.ty 1 = some .fnv := rfl
theorem e_ty2 : env.ty 2 = some (.int .i64) := rfl
theorem e_ty3 : env.ty 3 = some (.int .i64) := rfl
theorem e_ty4 : env.ty 4 = some .bool := rfl
theorem e_ty5 : env.ty 5 = some (.int .u8) := rfl
theorem e_ty6 : env.ty 6 = some (.int .u8) := rfl
theorem e_ty7 : env.ty 7 = some BoundsErrorT := rfl
theorem e_ty8 : env.ty 8 = some BoundsErrorT := rfl
theorem e_ty9 : env.ty 9 = some .str := rfl
theorem e_ty10 : env.ty 10 = some .str := rfl
theorem e_ty11 : env.ty 11 = some .str := rfl
theorem e_ty12 : env.ty 12 = some (.int .u64) := rfl
theorem e_ty13 : env.ty 13 = some ErrorAddressStringT := rfl
theorem e_ty14 : env.ty 14 = some ErrorAddressStringT := rfl
theorem e_ty21 : env.ty 21 = some (.int .i32) := rfl
theorem e_ty22 : env.ty 22 = some (.sl RawRuleT) := rfl
theorem e_ty23 : env.ty 23 = some RawT := rfl
theorem e_ty24 : env.ty 24 = some RawT := rfl
theorem e_ty25 : env.ty 25 = some (.st (.pair (.int .u8) (.int .u8))) := rfl
theorem e_ty26 : env.ty 26 = some (.sl (.int .i8)) := rfl
theorem e_ty27 : env.ty 27 = some .fnv := rfl
theorem e_ty28 : env.ty 28 = some (.sl RuleT) := rfl
theorem e_ty29 : env.ty 29 = some SchemeT := rfl
theorem e_ty30 : env.ty 30 = some SchemeT := rfl
theorem e_ty31 : env.ty 31 = some .fnv := rfl
theorem e_ty32 : env.ty 32 = some (.sl (.int .i64)) := rfl
theorem e_ty33 : env.ty 33 = some (.int .i8) := rfl
theorem e_ty35 : env.ty 35 = some .fnv := rfl
theorem e_ty36 : env.ty 36 = some (.st (.pair (.int .i64) (.int .i64))) := rfl
theorem e_ty37 : env.ty 37 = some (.sl (.int .u8)) := rfl
theorem e_ty39 : env.ty 39 = some .fnv := rfl
theorem e_ty40 : env.ty 40 = some RunT := rfl
theorem e_ty41 : env.ty 41 = some RunT := rfl
theorem e_ty42 : env.ty 42 = some .fnv := rfl
theorem e_ty43 : env.ty 43 = some .fnv := rfl
theorem e_ty44 : env.ty 44 = some .fnv := rfl
theorem e_ty45 : env.ty 45 = some .fnv := rfl
theorem e_ty46 : env.ty 46 = some (.sl .bool) := rfl
theorem e_ty47 : env.ty 47 = some .fnv := rfl
theorem e_ty48 : env.ty 48 = some (.int .i64) := rfl
theorem e_ty50 : env.ty 50 = some .fnv := rfl
theorem e_ty51 : env.ty 51 = some .fnv := rfl
theorem e_ty52 : env.ty 52 = some RuleT := rfl
theorem e_ty53 : env.ty 53 = some RuleT := rfl
theorem e_ty54 : env.ty 54 = some .fnv := rfl
theorem e_ty55 : env.ty 55 = some .fnv := rfl
theorem e_ty56 : env.ty 56 = some EndT := rfl
theorem e_ty57 : env.ty 57 = some EndT := rfl
theorem e_ty58 : env.ty 58 = some .fnv := rfl
theorem e_ty59 : env.ty 59 = some RawRuleT := rfl
theorem e_ty60 : env.ty 60 = some RawRuleT := rfl
theorem e_ty61 : env.ty 61 = some .fnv := rfl
theorem e_ty62 : env.ty 62 = some .fnv := rfl
theorem e_ty63 : env.ty 63 = some .fnv := rfl
theorem e_ty64 : env.ty 64 = some (.st (.pair (.int .u8) (.pair (.int .u8) (.pair (.int .u8) (.int .u8))))) := rfl
theorem e_ty65 : env.ty 65 = some .fnv := rfl
theorem e_ty66 : env.ty 66 = some .fnv := rfl
theorem e_ty67 : env.ty 67 = some .fnv := rfl
theorem e_ty68 : env.ty 68 = some .fnv := rfl
theorem e_ty69 : env.ty 69 = some (.ptr .unit) := rfl
theorem e_ty70 : env.ty 70 = some BuilderT := rfl
theorem e_ty71 : env.ty 71 = some BuilderT := rfl
theorem e_ty75 : env.ty 75 = some .fnv := rfl
theorem e_ty76 : env.ty 76 = some .fnv := rfl
theorem e_ty77 : env.ty 77 = some (.mp (.int .i64) (.sl (.int .i64))) := rfl
theorem e_ty78 : env.ty 78 = some .fnv := rfl
theorem e_ty79 : env.ty 79 = some .fnv := rfl
theorem e_ty80 : env.ty 80 = some .fnv := rfl
theorem e_ty81 : env.ty 81 = some .fnv := rfl
theorem e_ty82 : env.ty 82 = some (.mp (.int .i64) PriceT) := rfl
theorem e_ty83 : env.ty 83 = some .fnv := rfl
theorem e_ty84 : env.ty 84 = some PriceT := rfl
theorem e_ty85 : env.ty 85 = some PriceT := rfl
theorem e_ty87 : env.ty 87 = some .fnv := rfl
theorem e_ty88 : env.ty 88 = some (.sl EndT) := rfl
theorem e_ty89 : env.ty 89 = some .fnv := rfl
theorem e_ty91 : env.ty 91 = some .fnv := rfl
theorem e_ty92 : env.ty 92 = some .fnv := rfl
theorem e_ty93 : env.ty 93 = some .fnv := rfl
theorem e_ty94 : env.ty 94 = some .fnv := rfl
theorem e_ty96 : env.ty 96 = some .fnv := rfl
theorem e_ty97 : env.ty 97 = some .fnv := rfl
theorem e_ty99 : env.ty 99 = some .fnv := rfl
theorem e_ty105 : env.ty 105 = some .fnv := rfl
theorem e_ty106 : env.ty 106 = some (.int .u32) := rfl
theorem e_ty107 : env.ty 107 = some (.int .u8) := rfl
theorem e_ty108 : env.ty 108 = some (.int .u8) := rfl
theorem e_ty109 : env.ty 109 = some .fnv := rfl
theorem e_ty110 : env.ty 110 = some (.int .i32) := rfl
theorem e_ty111 : env.ty 111 = some (.int .i32) := rfl
theorem e_str7 : env.str 7 = true := rfl
theorem e_str8 : env.str 8 = true := rfl
theorem e_str13 : env.str 13 = true := rfl
theorem e_str14 : env.str 14 = true := rfl
theorem e_str23 : env.str 23 = true := rfl
theorem e_str24 : env.str 24 = true := rfl
theorem e_str29 : env.str 29 = true := rfl
theorem e_str30 : env.str 30 = true := rfl
theorem e_str40 : env.str 40 = true := rfl
theorem e_str41 : env.str 41 = true := rfl
theorem e_str52 : env.str 52 = true := rfl
theorem e_str53 : env.str 53 = true := rfl
theorem e_str56 : env.str 56 = true := rfl
theorem e_str57 : env.str 57 = true := rfl
theorem e_str59 : env.str 59 = true := rfl
theorem e_str60 : env.str 60 = true := rfl
theorem e_str70 : env.str 70 = true := rfl
theorem e_str71 : env.str 71 = true := rfl
theorem e_str84 : env.str 84 = true := rfl
theorem e_str85 : env.str 85 = true := rfl
theorem e_str25 : env.str 25 = false := rfl
theorem e_str36 : env.str 36 = false := rfl
theorem e_str64 : env.str 64 = false := rfl
theorem e_cmp7 : env.cmp 7 = true := rfl
theorem e_cmp8 : env.cmp 8 = true := rfl
theorem e_cmp25 : env.cmp 25 = true := rfl
theorem e_cmp36 : env.cmp 36 = true := rfl
theorem e_cmp40 : env.cmp 40 = true := rfl
theorem e_cmp41 : env.cmp 41 = true := rfl
theorem e_cmp52 : env.cmp 52 = true := rfl
theorem e_cmp53 : env.cmp 53 = true := rfl
theorem e_cmp64 : env.cmp 64 = true := rfl
theorem e_cmp84 : env.cmp 84 = true := rfl
theorem e_cmp85 : env.cmp 85 = true := rfl
theorem e_fn2 : env.fn 2 = some ([], .unit) := rfl
theorem e_fn3 : env.fn 3 = some ([RawT, (.st (.pair (.int .u8) (.int .u8))), (.sl (.int .i8))], .bool) := rfl
theorem e_fn4 : env.fn 4 = some ([RawT, (.st (.pair (.int .u8) (.int .u8))), (.sl (.int .u8))], .bool) := rfl
theorem e_fn5 : env.fn 5 = some ([RawT, (.st (.pair (.int .u8) (.int .u8))), (.sl (.int .u8))], .bool) := rfl
theorem e_fn6 : env.fn 6 = some ([RawT, (.st (.pair (.int .u8) (.int .u8))), (.sl (.int .u8))], .bool) := rfl
theorem e_fn7 : env.fn 7 = some ([RawT, (.st (.pair (.int .u8) (.int .u8))), (.sl (.int .u8))], .bool) := rfl
theorem e_fn8 : env.fn 8 = some ([RawT, (.st (.pair (.int .u8) (.int .u8))), RawRuleT], .bool) := rfl
theorem e_fn9 : env.fn 9 = some ([RawT, (.sl (.int .u8)), (.st (.pair (.int .u8) (.pair (.int .u8) (.pair (.int .u8) (.int .u8)))))], .bool) := rfl
theorem e_fn10 : env.fn 10 = some ([], .bool) := rfl
theorem e_fn11 : env.fn 11 = some ([RawT, (.st (.pair (.int .u8) (.int .u8)))], SchemeT) := rfl
theorem e_fn12 : env.fn 12 = some ([SchemeT, (.st (.pair (.int .i64) (.int .i64))), (.sl (.int .u8))], (.tup (.sl (.int .i64)) (.int .i64))) := rfl
theorem e_fn13 : env.fn 13 = some ([SchemeT], (.tup SchemeT (.sl (.int .i64)))) := rfl
theorem e_fn14 : env.fn 14 = some ([SchemeT], (.tup SchemeT (.sl (.int .i64)))) := rfl
theorem e_fn15 : env.fn 15 = some ([SchemeT, (.sl (.int .i64))], RunT) := rfl
theorem e_fn16 : env.fn 16 = some ([SchemeT, (.sl (.int .i64))], RunT) := rfl
theorem e_fn17 : env.fn 17 = some ([SchemeT, SchemeT], .bool) := rfl
theorem e_fn18 : env.fn 18 = some ([(.sl (.int .i64)), (.sl (.int .i64))], .bool) := rfl
theorem e_fn19 : env.fn 19 = some ([(.sl .bool), (.sl .bool)], .bool) := rfl
theorem e_fn20 : env.fn 20 = some ([SchemeT], (.sl .bool)) := rfl
theorem e_fn21 : env.fn 21 = some ([SchemeT], (.sl .bool)) := rfl
theorem e_fn22 : env.fn 22 = some ([SchemeT], (.sl .bool)) := rfl
theorem e_fn23 : env.fn 23 = some ([SchemeT], (.sl .bool)) := rfl
theorem e_fn24 : env.fn 24 = some ([SchemeT, (.int .i64)], (.tup (.sl (.int .i64)) (.tup (.int .i64) (.int .i64)))) := rfl
theorem e_fn25 : env.fn 25 = some ([SchemeT, (.int .i64)], (.tup (.sl (.int .i64)) (.tup (.int .i64) (.int .i64)))) := rfl
theorem e_fn26 : env.fn 26 = some ([SchemeT, (.int .i64)], .bool) := rfl
theorem e_fn27 : env.fn 27 = some ([EndT, EndT], .bool) := rfl
theorem e_fn28 : env.fn 28 = some ([RawRuleT, (.int .i64)], RuleT) := rfl
theorem e_fn29 : env.fn 29 = some ([SchemeT], .bool) := rfl
theorem e_fn30 : env.fn 30 = some ([], SchemeT) := rfl
theorem e_fn31 : env.fn 31 = some ([RawT], SchemeT) := rfl
theorem e_fn32 : env.fn 32 = some ([SchemeT, (.int .i64)], .bool) := rfl
theorem e_fn33 : env.fn 33 = some ([SchemeT, RuleT], .bool) := rfl
theorem e_fn37 : env.fn 37 = some ([SchemeT], (.mp (.int .i64) (.sl (.int .i64)))) := rfl
theorem e_fn40 : env.fn 40 = some ([SchemeT, (.int .i64)], .bool) := rfl
theorem e_fn41 : env.fn 41 = some ([SchemeT, (.int .i64)], .bool) := rfl
theorem e_fn42 : env.fn 42 = some ([SchemeT, (.mp (.int .i64) (.sl (.int .i64))), (.sl .bool)], (.mp (.int .i64) PriceT)) := rfl
theorem e_fn43 : env.fn 43 = some ([PriceT, (.int .i64)], PriceT) := rfl
theorem e_fn44 : env.fn 44 = some ([SchemeT], (.sl EndT)) := rfl
theorem e_fn45 : env.fn 45 = some ([SchemeT], (.tup (.int .i64) (.int .i64))) := rfl
theorem e_fn47 : env.fn 47 = some ([(.int .i64), (.int .i64), (.int .i64)], .bool) := rfl
theorem e_fn48 : env.fn 48 = some ([.str], .bool) := rfl
theorem e_fn49 : env.fn 49 = some ([.str], .bool) := rfl
theorem e_fn52 : env.fn 52 = some ([PriceT, PriceT], .bool) := rfl
theorem e_fn53 : env.fn 53 = some ([(.st (.pair (.int .i64) (.int .i64))), .str, .str], RuleT) := rfl
theorem e_fn34 : env.fn 34 = none := rfl
theorem e_hfn34 : env.hfn 34 = some [none, some .str] := rfl
theorem e_fn35 : env.fn 35 = none := rfl
theorem e_hfn35 : env.hfn 35 = some [none] := rfl
theorem e_fn36 : env.fn 36 = none := rfl
theorem e_hfn36 : env.hfn 36 = some [some SchemeT] := rfl
theorem e_fn38 : env.fn 38 = none := rfl
theorem e_hfn38 : env.hfn 38 = some [some (.int .i64), none] := rfl
theorem e_fn39 : env.fn 39 = none := rfl
theorem e_hfn39 : env.hfn 39 = some [some (.int .i64), none, none, none, none] := rfl
theorem e_fn46 : env.fn 46 = none := rfl
theorem e_hfn46 : env.hfn 46 = some [some (.int .u8)] := rfl
theorem e_fn50 : env.fn 50 = none := rfl
theorem e_hfn50 : env.hfn 50 = some [none] := rfl
theorem e_fn51 : env.fn 51 = none := rfl
theorem e_hfn51 : env.hfn 51 = some [some (.int .i64), none, none] := rfl
/-- gosem.cut.init -/
theorem fn_2 : env.P.funcs[2]? = some Try.f2 := rfl
/-- syllabary/syllabarylaw03.RouteMatchesReference -/
theorem fn_3 : env.P.funcs[3]? = some Try.f3 := rfl
/-- syllabary/syllabarylaw03.RouteParts -/
theorem fn_4 : env.P.funcs[4]? = some Try.f4 := rfl
/-- syllabary/syllabarylaw03.RouteModes -/
theorem fn_5 : env.P.funcs[5]? = some Try.f5 := rfl
/-- syllabary/syllabarylaw03.RouteTrims -/
theorem fn_6 : env.P.funcs[6]? = some Try.f6 := rfl
/-- syllabary/syllabarylaw03.RouteEnds -/
theorem fn_7 : env.P.funcs[7]? = some Try.f7 := rfl
/-- syllabary/syllabarylaw03.RouteGrows -/
theorem fn_8 : env.P.funcs[8]? = some Try.f8 := rfl
/-- syllabary/syllabarylaw03.RouteRefuses -/
theorem fn_9 : env.P.funcs[9]? = some Try.f9 := rfl
/-- syllabary/syllabarylaw03.sanity -/
theorem fn_10 : env.P.funcs[10]? = some Try.f10 := rfl
/-- syllabary/syllabaryref03.Made -/
theorem fn_11 : env.P.funcs[11]? = some Try.f11 := rfl
/-- syllabary/syllabaryref03.Walk -/
theorem fn_12 : env.P.funcs[12]? = some Try.f12 := rfl
/-- syllabary/route.Trim -/
theorem fn_13 : env.P.funcs[13]? = some Try.f13 := rfl
/-- syllabary/syllabaryref03.Trim -/
theorem fn_14 : env.P.funcs[14]? = some Try.f14 := rfl
/-- syllabary/route.Run -/
theorem fn_15 : env.P.funcs[15]? = some Try.f15 := rfl
/-- syllabary/syllabaryref03.Run -/
theorem fn_16 : env.P.funcs[16]? = some Try.f16 := rfl
/-- syllabary/syllabaryref02.Same -/
theorem fn_17 : env.P.funcs[17]? = some Try.f17 := rfl
/-- syllabary/syllabaryref03.Ints -/
theorem fn_18 : env.P.funcs[18]? = some Try.f18 := rfl
/-- syllabary/syllabaryref03.Bools -/
theorem fn_19 : env.P.funcs[19]? = some Try.f19 := rfl
/-- syllabary/route.Reached -/
theorem fn_20 : env.P.funcs[20]? = some Try.f20 := rfl
/-- syllabary/syllabaryref03.Reached -/
theorem fn_21 : env.P.funcs[21]? = some Try.f21 := rfl
/-- syllabary/route.Live -/
theorem fn_22 : env.P.funcs[22]? = some Try.f22 := rfl
/-- syllabary/syllabaryref03.Live -/
theorem fn_23 : env.P.funcs[23]? = some Try.f23 := rfl
/-- syllabary/route.Least -/
theorem fn_24 : env.P.funcs[24]? = some Try.f24 := rfl
/-- syllabary/syllabaryref03.Least -/
theorem fn_25 : env.P.funcs[25]? = some Try.f25 := rfl
/-- syllabary/syllabaryref03.Accepts -/
theorem fn_26 : env.P.funcs[26]? = some Try.f26 := rfl
/-- syllabary/syllabaryref03.Before -/
theorem fn_27 : env.P.funcs[27]? = some Try.f27 := rfl
/-- syllabary/syllabaryref02.Made1 -/
theorem fn_28 : env.P.funcs[28]? = some Try.f28 := rfl
/-- syllabary/syllabaryref02.Valid -/
theorem fn_29 : env.P.funcs[29]? = some Try.f29 := rfl
/-- syllabary/syllabarylaw03.two -/
theorem fn_30 : env.P.funcs[30]? = some Try.f30 := rfl
/-- syllabary/syllabaryref02.Made -/
theorem fn_31 : env.P.funcs[31]? = some Try.f31 := rfl
/-- syllabary/syllabaryref02.Right -/
theorem fn_32 : env.P.funcs[32]? = some Try.f32 := rfl
/-- syllabary/route.fits -/
theorem fn_33 : env.P.funcs[33]? = some Try.f33 := rfl
/-- (*strings.Builder).WriteString -/
theorem fn_34 : env.P.funcs[34]? = some Try.f34 := rfl
/-- (*strings.Builder).String -/
theorem fn_35 : env.P.funcs[35]? = some Try.f35 := rfl
/-- syllabary/route.marks -/
theorem fn_36 : env.P.funcs[36]? = some Try.f36 := rfl
/-- syllabary/route.leaving -/
theorem fn_37 : env.P.funcs[37]? = some Try.f37 := rfl
/-- syllabary/route.from -/
theorem fn_38 : env.P.funcs[38]? = some Try.f38 := rfl
/-- syllabary/route.Reached$1 -/
theorem fn_39 : env.P.funcs[39]? = some Try.f39 := rfl
/-- syllabary/route.accepting -/
theorem fn_40 : env.P.funcs[40]? = some Try.f40 := rfl
/-- syllabary/route.isMode -/
theorem fn_41 : env.P.funcs[41]? = some Try.f41 := rfl
/-- syllabary/route.prices -/
theorem fn_42 : env.P.funcs[42]? = some Try.f42 := rfl
/-- (syllabary/route.price).with -/
theorem fn_43 : env.P.funcs[43]? = some Try.f43 := rfl
/-- syllabary/syllabaryref03.Ends -/
theorem fn_44 : env.P.funcs[44]? = some Try.f44 := rfl
/-- syllabary/syllabaryref02.Check -/
theorem fn_45 : env.P.funcs[45]? = some Try.f45 := rfl
/-- syllabary/syllabaryref02.Base -/
theorem fn_46 : env.P.funcs[46]? = some Try.f46 := rfl
/-- syllabary/syllabaryref02.In -/
theorem fn_47 : env.P.funcs[47]? = some Try.f47 := rfl
/-- syllabary/syllabaryref02.Small -/
theorem fn_48 : env.P.funcs[48]? = some Try.f48 := rfl
/-- syllabary/syllabaryref02.Plain -/
theorem fn_49 : env.P.funcs[49]? = some Try.f49 := rfl
/-- (*strings.Builder).copyCheck -/
theorem fn_50 : env.P.funcs[50]? = some Try.f50 := rfl
/-- syllabary/route.from$1 -/
theorem fn_51 : env.P.funcs[51]? = some Try.f51 := rfl
/-- (syllabary/route.price).less -/
theorem fn_52 : env.P.funcs[52]? = some Try.f52 := rfl
/-- syllabary/syllabaryref02.simple -/
theorem fn_53 : env.P.funcs[53]? = some Try.f53 := rfl
attribute [go_sem] e_key77 e_key82 e_ty1 e_ty2 e_ty3 e_ty4 e_ty5 e_ty6 e_ty7 e_ty8 e_ty9 e_ty10 e_ty11 e_ty12 e_ty13 e_ty14 e_ty21 e_ty22 e_ty23 e_ty24 e_ty25 e_ty26 e_ty27 e_ty28 e_ty29 e_ty30 e_ty31 e_ty32 e_ty33 e_ty35 e_ty36 e_ty37 e_ty39 e_ty40 e_ty41 e_ty42 e_ty43 e_ty44 e_ty45 e_ty46 e_ty47 e_ty48 e_ty50 e_ty51 e_ty52 e_ty53 e_ty54 e_ty55 e_ty56 e_ty57 e_ty58 e_ty59 e_ty60 e_ty61 e_ty62 e_ty63 e_ty64 e_ty65 e_ty66 e_ty67 e_ty68 e_ty69 e_ty70 e_ty71 e_ty75 e_ty76 e_ty77 e_ty78 e_ty79 e_ty80 e_ty81 e_ty82 e_ty83 e_ty84 e_ty85 e_ty87 e_ty88 e_ty89 e_ty91 e_ty92 e_ty93 e_ty94 e_ty96 e_ty97 e_ty99 e_ty105 e_ty106 e_ty107 e_ty108 e_ty109 e_ty110 e_ty111 e_str7 e_str8 e_str13 e_str14 e_str23 e_str24 e_str29 e_str30 e_str40 e_str41 e_str52 e_str53 e_str56 e_str57 e_str59 e_str60 e_str70 e_str71 e_str84 e_str85 e_str25 e_str36 e_str64 e_cmp7 e_cmp8 e_cmp25 e_cmp36 e_cmp40 e_cmp41 e_cmp52 e_cmp53 e_cmp64 e_cmp84 e_cmp85 e_fn2 e_fn3 e_fn4 e_fn5 e_fn6 e_fn7 e_fn8 e_fn9 e_fn10 e_fn11 e_fn12 e_fn13 e_fn14 e_fn15 e_fn16 e_fn17 e_fn18 e_fn19 e_fn20 e_fn21 e_fn22 e_fn23 e_fn24 e_fn25 e_fn26 e_fn27 e_fn28 e_fn29 e_fn30 e_fn31 e_fn32 e_fn33 e_fn37 e_fn40 e_fn41 e_fn42 e_fn43 e_fn44 e_fn45 e_fn47 e_fn48 e_fn49 e_fn52 e_fn53 e_fn34 e_hfn34 e_fn35 e_hfn35 e_fn36 e_hfn36 e_fn38 e_hfn38 e_fn39 e_hfn39 e_fn46 e_hfn46 e_fn50 e_hfn50 e_fn51 e_hfn51 e_con0 e_px0 e_emp0 e_fl0 e_stp0 e_nd0 e_ro0 e_tm0 e_bx0 e_el0
end Go.Proofs.Ytaphmhdgpdhpiaa
namespace Go.Proofs.Ytaphmhdgpdhpiaa
set_option maxHeartbeats 4000000
set_option maxRecDepth 100000

theorem i64_ok {x : Int} (h : -9223372036854775808 ≤ x) (h' : x ≤ 9223372036854775807) : IntKind.i64.min ≤ x ∧ x ≤ IntKind.i64.max := ⟨h, h'⟩
theorem i64_of {x : Int} (h : IntKind.i64.min ≤ x ∧ x ≤ IntKind.i64.max) : -9223372036854775808 ≤ x ∧ x ≤ 9223372036854775807 := h
theorem u8_ok {x : Int} (h : 0 ≤ x) (h' : x ≤ 255) : IntKind.u8.min ≤ x ∧ x ≤ IntKind.u8.max := ⟨h, h'⟩
theorem u8_of {x : Int} (h : IntKind.u8.min ≤ x ∧ x ≤ IntKind.u8.max) : 0 ≤ x ∧ x ≤ 255 := h
theorem drop_cons {α : Type} {xs : List α} {i : Nat} {x : α} (h : xs[i]? = some x) : xs.drop i = x :: xs.drop (i + 1) := by
  obtain ⟨hi, e⟩ := List.getElem?_eq_some_iff.1 h
  rw [List.drop_eq_getElem_cons hi, e]
theorem take_snoc {α : Type} {xs : List α} {i : Nat} {x : α} (h : xs[i]? = some x) : xs.take (i + 1) = xs.take i ++ [x] := by
  rw [List.take_add_one, h]; rfl
theorem get_of_lt {α : Type} {xs : List α} {i : Nat} (h : i < xs.length) : ∃ x, xs[i]? = some x := ⟨_, List.getElem?_eq_getElem h⟩
theorem all_step {α : Type} {xs : List α} {i : Nat} {x : α} {p : α → Bool} (h : xs[i]? = some x) : (xs.take (i + 1)).all p = ((xs.take i).all p && p x) := by
  rw [take_snoc h, List.all_append]
  simp
theorem all_no {α : Type} {xs : List α} {i : Nat} {x : α} {p : α → Bool} (h : xs[i]? = some x) (hp : p x = false) : xs.all p = false := by
  rw [List.all_eq_false]
  exact ⟨x, List.mem_of_getElem? h, by simp [hp]⟩
/-- What several branches lead to is walked once. -/
theorem Walks.shareX {E : Env} {G : Goal} {todo : List WI} {X : Type} (t : X → St) (inv : X → Prop) {A : Prop} (h : (∀ s x, inv x → Le s (t x) → Walks E G todo s) → A) (hw : ∀ x, inv x → Walks E G todo (t x)) : A :=
  h fun s x hx hl => Walks.weaken hl (hw x hx)
/-- A loop whose rounds go down in a well-founded order. -/
theorem Walks.loopR {E : Env} {G : Goal} {c : Code} {k : List WI} {s : St} {X : Type} {R : X → X → Prop} (hR : WellFounded R) (sl : X → List (Nat × PV)) (bl : X → List (Nat × Blk)) (inv : X → Prop) (x0 : X)
    (h : ∀ b1 b2, dropSl (codeW c ++ (sl x0).map (·.1)) s.sl = b1 → dropBk (keys (bl x0)) s.bl = b2 → Le s ⟨sl x0 ++ b1, bl x0 ++ b2⟩ ∧ inv x0 ∧
      ∀ x, inv x → (∀ (t : St) (y : X), Le t ⟨sl y ++ b1, bl y ++ b2⟩ → inv y → R y x → Walks E G (.loop c :: k) t) → Walks E G (.code c :: .loop c :: k) ⟨sl x ++ b1, bl x ++ b2⟩) : Walks E G (.code (.loop c) :: k) s := by
  obtain ⟨h1, h2, h3⟩ := h _ _ rfl rfl
  generalize dropSl (codeW c ++ (sl x0).map (·.1)) s.sl = b1 at h1 h3
  generalize dropBk (keys (bl x0)) s.bl = b2 at h1 h3
  have main : ∀ x, inv x → Walks E G (.code c :: .loop c :: k) ⟨sl x ++ b1, bl x ++ b2⟩ := by
    intro x
    induction x using hR.induction with
    | _ x ih =>
      intro hx
      refine h3 x hx fun t y hl hy hr => ?_
      intro w0 S0 a w hrel
      exact Ends.step (fun b cs => .one step_inLoop) (ih y hr hy w0 S0 a w (hrel.weaken hl))
  refine Walks.weaken h1 ?_
  intro w0 S0 a w hr
  exact Ends.step (fun b cs => .one step_loop) (main x0 h2 w0 S0 a w hr)
/-- A contract's result as a decision, so that walks part by themselves. -/
theorem PC.dec {E : Env} {f : Nat} {xs : List (Sigma Ty.den)} {b : Bool} (h : PC E f xs .bool b) : PC E f xs .bool (decide (b = true)) := by cases b <;> exact h
/-- A contract that hands over local blocks, by other names. -/
theorem HC.ren {E : Env} {f : Nat} {args : List PV} {bl bl' : List (Nat × Blk)} {p : PV} (l : List (Nat × Nat)) (hp : permOK l = true) (h : HC E f args bl p bl') : HC E f args bl (p.ren (permF l)) (renBl (permF l) bl') := by
  intro w S ν0 vs a1 a2 a3 a4 a5 a6
  refine (h w S ν0 vs a1 a2 a3 a4 a5 a6).mono ?_
  rintro e w' ⟨v, rfl, hk, ν, S', b1, b2, b3, hW, hv⟩
  refine ⟨v, rfl, hk, ?_⟩
  obtain ⟨h1, h2, h3⟩ := permOK_inv hp
  have inj : ∀ i j, permF l i = permF l j → i = j := fun i j e => by rw [← h1 i, ← h1 j, e]
  have hlook : ∀ i b, look i bl' = some b → look (permF l i) (renBl (permF l) bl') = some (b.map (PV.renL (permF l))) := fun i b hb => look_renBl_of (fun j c _ e => inj j i e) hb
  have hold : ∀ i b, look i (renBl (permF l) bl') = some b → ∃ j c, permF l j = i ∧ look j bl' = some c ∧ b = c.map (PV.renL (permF l)) := fun i b hb => look_renBl (fun j k _ _ _ _ e => inj j k e) hb
  have hle : Ctx.LeR (keys bl') (permF l) ⟨ν, (⟨[], bl'⟩ : St).D, w', ⟨S', own0 w ⟨S, foot ν0 bl, ν0, []⟩⟩⟩ ⟨fun i => ν (permF (swapL l) i), (⟨[], renBl (permF l) bl'⟩ : St).D, w', ⟨S', own0 w ⟨S, foot ν0 bl, ν0, []⟩⟩⟩ :=
    ⟨fun _ _ => rfl, fun _ h => h, fun i _ ⟨b, hb⟩ => ⟨_, hlook i b hb⟩, fun i _ _ => by simp only [h1]⟩
  have back3 : ∀ j, P0 ≤ permF l j → P0 ≤ j := fun j hi => by
    rcases Nat.lt_or_ge j P0 with h' | h'
    · exfalso
      have e := h3 (permF l j) hi
      have := inj _ _ e
      omega
    · exact h'
  refine ⟨fun i => ν (permF (swapL l) i), S', b1, b2, fun i hi ⟨b, hb⟩ => ?_, ⟨hW.lt, hW.size, fun i b hb => ?_, fun i j b c hij hi hj g hg hg' => ?_⟩, PRel_ren hle (PRel_keys (fun _ h => h) hv) hv⟩
  · obtain ⟨j, c, rfl, hc, _⟩ := hold i b hb
    have hj := back3 j hi
    rw [h3 j hj]
    have e : permF (swapL l) j = j := by
      have := h1 j
      rw [h3 j hj] at this
      exact this
    simp only [e]
    exact b3 j hj ⟨c, hc⟩
  · obtain ⟨j, c, rfl, hc, rfl⟩ := hold i b hb
    have hr := hW.blk j c hc
    exact BRel_ren hle (BRel_keys (fun _ h => h) hr) (by simp only [h1]) (fun g hg => ⟨rfl, (BRel_at hr hg).1, (BRel_at hr hg).2.1⟩) hr
  · obtain ⟨i', b', rfl, hb', _⟩ := hold i b hi
    obtain ⟨j', c', rfl, hc', _⟩ := hold j c hj
    simp only [h1] at hg hg'
    exact hW.ne i' j' b' c' (fun e => hij (by rw [e])) hb' hc' g hg hg'
abbrev Str := List UInt8
abbrev Rl := Int × Int × Str × Str × Int
abbrev Sch := Int × Int × List Rl
instance instRl : DecidableEq Rl := fun a b => inferInstanceAs (Decidable ((a : Int × Int × Str × Str × Int) = b))
theorem bne_dec (x y : Bool) : (!x == y) = decide (¬ x = y) := by cases x <;> cases y <;> rfl
def inB (n a b : Int) : Bool := decide (a ≤ n ∧ n ≤ b)
def low (u : UInt8) : Bool := decide (97 ≤ u.toNat ∧ u.toNat ≤ 122)
def aln (u : UInt8) : Bool := decide (97 ≤ u.toNat ∧ u.toNat ≤ 122 ∨ 65 ≤ u.toNat ∧ u.toNat ≤ 90 ∨ 48 ≤ u.toNat ∧ u.toNat ≤ 57)
def modeB (n m : Int) : Bool := decide (0 ≤ m ∧ m < n ∧ m < 8)
def fitsB (n : Int) (r : Rl) : Bool := modeB n r.1 && modeB n r.2.1 && inB r.2.2.2.2 0 1000
def accB (a m : Int) : Bool := decide (a / 2 ^ m.toNat % 2 = 1)
theorem and_one {a : Int} (h : 0 ≤ a) : ((a.toNat &&& (1 : Int).toNat : Nat) : Int) = a % 2 := by
  show ((a.toNat &&& 1 : Nat) : Int) = _
  rw [Nat.and_one_is_mod]; omega
theorem shr_nn {a : Int} (h : 0 ≤ a) (m : Nat) : 0 ≤ a / 2 ^ m := Int.ediv_nonneg h (Int.le_of_lt (Int.pow_pos (by decide)))
theorem c_In (v a b : Int) : PC env 47 [⟨.int .i64, v⟩, ⟨.int .i64, a⟩, ⟨.int .i64, b⟩] .bool (inB v a b) := by
  refine PC.of_PW (m := 2000) env_ok fn_47 rfl rfl rfl rfl (by kernel_rfl) ?_; intro hx; simp only [Try.f47]; simp only [go_sem, Nat.reduceBEq, ↓reduceIte, ↓reduceDIte, Nat.reduceAdd, Nat.reduceSub, Nat.reduceMul, Nat.reduceLeDiff, ← Bool.decide_and, ← Bool.decide_or, ← decide_not, Int.reduceLT, Int.reduceLE, Int.reduceToNat, Int.reduceNeg]
  unfold inB
  refine ⟨fun h => ?_, fun h => ?_⟩
  · congr 1; simp; omega
  · symm; simp; omega
theorem c_Small (s : Str) : PC env 48 [⟨.str, s⟩] .bool (s.all low) := by
  refine PC.of_PW (m := 2000) env_ok fn_48 rfl rfl rfl rfl (by kernel_rfl) ?_; intro hx; simp only [Try.f48]; simp only [go_sem, Nat.reduceBEq, ↓reduceIte, ↓reduceDIte, Nat.reduceAdd, Nat.reduceSub, Nat.reduceMul, Nat.reduceLeDiff, ← Bool.decide_and, ← Bool.decide_or, ← decide_not, Int.reduceLT, Int.reduceLE, Int.reduceToNat, Int.reduceNeg]
  have hlen : s.length ≤ 9223372036854775807 := hx.1
  refine Walks.loopA (X := Nat) (fun (i : Nat) => [(3, .iv (.int .i64) (i : Int))]) (fun (i : Nat) => []) (fun (i : Nat) => i ≤ s.length ∧ (s.take i).all low = true) (fun (i : Nat) => s.length - i) 0 ?_; intro b1 b2 hb1 hb2; simp (config := {maxSteps := 4000000}) only [go_sem, Nat.reduceBEq, ↓reduceIte, ↓reduceDIte, Nat.reduceAdd, Nat.reduceSub, Nat.reduceMul, Nat.reduceLeDiff, ← Bool.decide_and, ← Bool.decide_or, ← decide_not, Int.reduceLT, Int.reduceLE, Int.reduceToNat, Int.reduceNeg] at hb1 hb2; subst hb1; subst hb2; refine ⟨(by refine ⟨?_, ?_, rfl, rfl⟩ <;> repeat' (first | exact trivial | exact Or.inl rfl | exact Or.inr rfl | (refine And.intro (Or.inl rfl) ?_) | (refine And.intro (Or.inr (Or.inl rfl)) ?_) | (refine And.intro (Or.inr (Or.inr (Or.inr ⟨rfl, rfl⟩))) ?_) | (refine And.intro (Or.inr (Or.inr (Or.inl ⟨rfl, rfl, trivial⟩))) ?_) | exact ⟨(by show (_ : Nat) < 1000000000; omega), rfl, rfl⟩ | rfl | (refine And.intro (Or.inl ?_) ?_) | (refine And.intro ?_ ?_))), ?_, ?_⟩
  · exact ⟨Nat.zero_le _, rfl⟩
  intro i ⟨hi, hb⟩ back
  refine PW_sound env_ok ⟨_, fn_48, rfl⟩ 2000 _ _ (by kernel_rfl) ?_; simp only [go_sem, Nat.reduceBEq, ↓reduceIte, ↓reduceDIte, Nat.reduceAdd, Nat.reduceSub, Nat.reduceMul, Nat.reduceLeDiff, ← Bool.decide_and, ← Bool.decide_or, ← decide_not, Int.reduceLT, Int.reduceLE, Int.reduceToNat, Int.reduceNeg]
  refine ⟨fun h => ?_, fun h => ?_⟩
  · obtain ⟨x, hxi⟩ : ∃ x, s[i]? = some x := get_of_lt (by omega)
    have hno : low x = false → false = s.all low := fun hl => (all_no hxi hl).symm
    have hyes : low x = true → (s.take (i + 1)).all low = true := fun hl => by rw [all_step hxi, hb, hl]; rfl
    refine ⟨Int.natCast_nonneg _, _, ⟨x, hxi, rfl⟩, ?_⟩
    repeat' (first | (with_reducible intro _) | (with_reducible apply And.intro) | (with_reducible refine Exists.intro _ (And.intro (Exists.intro x (And.intro hxi rfl)) ?_)))
    all_goals first
      | (refine hno ?_; simp [low]; omega)
      | with_reducible exact Int.natCast_nonneg _
      | omega
      | (refine back _ (i + 1) (by refine ⟨?_, ?_, rfl, rfl⟩ <;> repeat' (first | exact trivial | exact Or.inl rfl | exact Or.inr rfl | (refine And.intro (Or.inl rfl) ?_) | (refine And.intro (Or.inr (Or.inl rfl)) ?_) | (refine And.intro (Or.inr (Or.inr (Or.inr ⟨rfl, rfl⟩))) ?_) | (refine And.intro (Or.inr (Or.inr (Or.inl ⟨rfl, rfl, trivial⟩))) ?_) | exact ⟨(by show (_ : Nat) < 1000000000; omega), rfl, rfl⟩ | rfl | (refine And.intro (Or.inl ?_) ?_) | (refine And.intro ?_ ?_))) ⟨by omega, hyes ?_⟩ (by omega); simp [low]; omega)
      | skip
  · rw [List.take_of_length_le (by omega)] at hb
    rw [hb]
theorem c_Plain (s : Str) : PC env 49 [⟨.str, s⟩] .bool (s.all aln) := by
  refine PC.of_PW (m := 2000) env_ok fn_49 rfl rfl rfl rfl (by kernel_rfl) ?_; intro hx; simp only [Try.f49]; simp only [go_sem, Nat.reduceBEq, ↓reduceIte, ↓reduceDIte, Nat.reduceAdd, Nat.reduceSub, Nat.reduceMul, Nat.reduceLeDiff, ← Bool.decide_and, ← Bool.decide_or, ← decide_not, Int.reduceLT, Int.reduceLE, Int.reduceToNat, Int.reduceNeg]
  have hlen : s.length ≤ 9223372036854775807 := hx.1
  refine Walks.loopA (X := Nat) (fun (i : Nat) => [(3, .iv (.int .i64) (i : Int))]) (fun (i : Nat) => []) (fun (i : Nat) => i ≤ s.length ∧ (s.take i).all aln = true) (fun (i : Nat) => s.length - i) 0 ?_; intro b1 b2 hb1 hb2; simp (config := {maxSteps := 4000000}) only [go_sem, Nat.reduceBEq, ↓reduceIte, ↓reduceDIte, Nat.reduceAdd, Nat.reduceSub, Nat.reduceMul, Nat.reduceLeDiff, ← Bool.decide_and, ← Bool.decide_or, ← decide_not, Int.reduceLT, Int.reduceLE, Int.reduceToNat, Int.reduceNeg] at hb1 hb2; subst hb1; subst hb2; refine ⟨(by refine ⟨?_, ?_, rfl, rfl⟩ <;> repeat' (first | exact trivial | exact Or.inl rfl | exact Or.inr rfl | (refine And.intro (Or.inl rfl) ?_) | (refine And.intro (Or.inr (Or.inl rfl)) ?_) | (refine And.intro (Or.inr (Or.inr (Or.inr ⟨rfl, rfl⟩))) ?_) | (refine And.intro (Or.inr (Or.inr (Or.inl ⟨rfl, rfl, trivial⟩))) ?_) | exact ⟨(by show (_ : Nat) < 1000000000; omega), rfl, rfl⟩ | rfl | (refine And.intro (Or.inl ?_) ?_) | (refine And.intro ?_ ?_))), ?_, ?_⟩
  · exact ⟨Nat.zero_le _, rfl⟩
  intro i ⟨hi, hb⟩ back
  refine PW_sound env_ok ⟨_, fn_49, rfl⟩ 2000 _ _ (by kernel_rfl) ?_; simp only [go_sem, Nat.reduceBEq, ↓reduceIte, ↓reduceDIte, Nat.reduceAdd, Nat.reduceSub, Nat.reduceMul, Nat.reduceLeDiff, ← Bool.decide_and, ← Bool.decide_or, ← decide_not, Int.reduceLT, Int.reduceLE, Int.reduceToNat, Int.reduceNeg]
  refine ⟨fun h => ?_, fun h => ?_⟩
  · obtain ⟨x, hxi⟩ : ∃ x, s[i]? = some x := get_of_lt (by omega)
    have hno : aln x = false → false = s.all aln := fun hl => (all_no hxi hl).symm
    have hyes : aln x = true → (s.take (i + 1)).all aln = true := fun hl => by rw [all_step hxi, hb, hl]; rfl
    refine ⟨Int.natCast_nonneg _, _, ⟨x, hxi, rfl⟩, ?_⟩
    repeat' (first | (with_reducible intro _) | (with_reducible apply And.intro))
    all_goals first
      | (refine hno ?_; simp [aln]; omega)
      | with_reducible exact Int.natCast_nonneg _
      | omega
      | (refine back _ (i + 1) (by refine ⟨?_, ?_, rfl, rfl⟩ <;> repeat' (first | exact trivial | exact Or.inl rfl | exact Or.inr rfl | (refine And.intro (Or.inl rfl) ?_) | (refine And.intro (Or.inr (Or.inl rfl)) ?_) | (refine And.intro (Or.inr (Or.inr (Or.inr ⟨rfl, rfl⟩))) ?_) | (refine And.intro (Or.inr (Or.inr (Or.inl ⟨rfl, rfl, trivial⟩))) ?_) | exact ⟨(by show (_ : Nat) < 1000000000; omega), rfl, rfl⟩ | rfl | (refine And.intro (Or.inl ?_) ?_) | (refine And.intro ?_ ?_))) ⟨by omega, hyes ?_⟩ (by omega); simp [aln]; omega)
      | exact (i64_ok (by omega) (by omega)).1
      | exact (i64_ok (by omega) (by omega)).2
      | skip
  · rw [List.take_of_length_le (by omega)] at hb
    rw [hb]
theorem c_isMode (s : Sch) (m : Int) : PC env 41 [⟨SchemeT, s⟩, ⟨.int .i64, m⟩] .bool (modeB s.1 m) := by
  obtain ⟨n, a, l⟩ := s
  refine PC.of_PW (m := 2000) env_ok fn_41 rfl rfl rfl rfl (by kernel_rfl) ?_; intro hx; simp only [Try.f41]; simp only [go_sem, Nat.reduceBEq, ↓reduceIte, ↓reduceDIte, Nat.reduceAdd, Nat.reduceSub, Nat.reduceMul, Nat.reduceLeDiff, ← Bool.decide_and, ← Bool.decide_or, ← decide_not, Int.reduceLT, Int.reduceLE, Int.reduceToNat, Int.reduceNeg]
  unfold modeB
  repeat' (first | (with_reducible intro _) | (with_reducible apply And.intro))
  all_goals first | (rw [decide_eq_decide]; omega) | (symm; simp; omega)
theorem c_fits (s : Sch) (r : Rl) : PC env 33 [⟨SchemeT, s⟩, ⟨RuleT, r⟩] .bool (fitsB s.1 r) := by
  obtain ⟨n, a, l⟩ := s
  obtain ⟨fr, t, i, o, c⟩ := r
  have h1 := (c_isMode (n, a, l) fr).dec
  have h2 := (c_isMode (n, a, l) t).dec
  refine PC.of_PW (m := 2000) env_ok fn_33 rfl rfl rfl rfl (by kernel_rfl) ?_; intro hx; simp only [Try.f33]; simp only [go_sem, Nat.reduceBEq, ↓reduceIte, ↓reduceDIte, Nat.reduceAdd, Nat.reduceSub, Nat.reduceMul, Nat.reduceLeDiff, ← Bool.decide_and, ← Bool.decide_or, ← decide_not, Int.reduceLT, Int.reduceLE, Int.reduceToNat, Int.reduceNeg]
  repeat' (first | (with_reducible intro _) | (with_reducible apply And.intro) | (with_reducible refine ⟨_, h1, ?_⟩; try simp only [go_sem, Nat.reduceBEq, ↓reduceIte, ↓reduceDIte, Nat.reduceAdd, Nat.reduceSub, Nat.reduceMul, Nat.reduceLeDiff, ← Bool.decide_and, ← Bool.decide_or, ← decide_not, Int.reduceLT, Int.reduceLE, Int.reduceToNat, Int.reduceNeg]) | (with_reducible refine ⟨_, h2, ?_⟩; try simp only [go_sem, Nat.reduceBEq, ↓reduceIte, ↓reduceDIte, Nat.reduceAdd, Nat.reduceSub, Nat.reduceMul, Nat.reduceLeDiff, ← Bool.decide_and, ← Bool.decide_or, ← decide_not, Int.reduceLT, Int.reduceLE, Int.reduceToNat, Int.reduceNeg]) | fail)
  all_goals (unfold fitsB inB; dsimp only at *; simp_all; try omega)
theorem c_accepting (s : Sch) (m : Int) (h0 : 0 ≤ m ∧ m < 8) : PC env 40 [⟨SchemeT, s⟩, ⟨.int .i64, m⟩] .bool (accB s.2.1 m) := by
  obtain ⟨n, a, l⟩ := s
  refine PC.of_PW (m := 2000) env_ok fn_40 rfl rfl rfl rfl (by kernel_rfl) ?_; intro hx; simp only [Try.f40]; simp only [go_sem, Nat.reduceBEq, ↓reduceIte, ↓reduceDIte, Nat.reduceAdd, Nat.reduceSub, Nat.reduceMul, Nat.reduceLeDiff, ← Bool.decide_and, ← Bool.decide_or, ← decide_not, Int.reduceLT, Int.reduceLE, Int.reduceToNat, Int.reduceNeg]
  have ha := u8_of hx.1.2.1
  dsimp only at ha
  exact ⟨⟨ha.1, h0⟩, shr_nn ha.1 _, by show decide (((_ &&& (1 : Int).toNat : Nat) : Int) = 1) = _; rw [and_one (shr_nn ha.1 _)]; rfl⟩
theorem c_Accepts (s : Sch) (m : Int) (h0 : 0 ≤ m ∧ m < 8) : PC env 26 [⟨SchemeT, s⟩, ⟨.int .i64, m⟩] .bool (accB s.2.1 m) := by
  obtain ⟨n, a, l⟩ := s
  refine PC.of_PW (m := 2000) env_ok fn_26 rfl rfl rfl rfl (by kernel_rfl) ?_; intro hx; simp only [Try.f26]; simp only [go_sem, Nat.reduceBEq, ↓reduceIte, ↓reduceDIte, Nat.reduceAdd, Nat.reduceSub, Nat.reduceMul, Nat.reduceLeDiff, ← Bool.decide_and, ← Bool.decide_or, ← decide_not, Int.reduceLT, Int.reduceLE, Int.reduceToNat, Int.reduceNeg]
  have ha := u8_of hx.1.2.1
  dsimp only at ha
  exact ⟨⟨ha.1, h0.1, by omega⟩, shr_nn ha.1 _, by show decide (((_ &&& (1 : Int).toNat : Nat) : Int) = 1) = _; rw [and_one (shr_nn ha.1 _)]; rfl⟩
end Go.Proofs.Ytaphmhdgpdhpiaa
namespace Go.Proofs.Ytaphmhdgpdhpiaa
set_option maxHeartbeats 4000000
set_option maxRecDepth 100000
theorem take_eq {α : Type} {a b : List α} {k : Nat} (h : a.take k = b.take k) (ha : a.length ≤ k) (hb : b.length ≤ k) : a = b := by
  rwa [List.take_of_length_le ha, List.take_of_length_le hb] at h
theorem c_Ints (a b : List Int) : PC env 18 [⟨.sl (.int .i64), a⟩, ⟨.sl (.int .i64), b⟩] .bool (decide (a = b)) := by
  refine PC.of_PW (m := 2000) env_ok fn_18 rfl rfl rfl rfl (by kernel_rfl) ?_; intro hx; simp only [Try.f18]; simp only [go_sem, Nat.reduceBEq, ↓reduceIte, ↓reduceDIte, Nat.reduceAdd, Nat.reduceSub, Nat.reduceMul, Nat.reduceLeDiff, ← Bool.decide_and, ← Bool.decide_or, ← decide_not, Int.reduceLT, Int.reduceLE, Int.reduceToNat, Int.reduceNeg]
  refine ⟨fun h => ?_, fun h => ?_⟩
  · symm; rw [decide_eq_false_iff_not]; rintro rfl; exact h rfl
  refine Walks.loopA (X := Nat) (fun (k : Nat) => [(5, .iv (.int .i64) (k : Int))]) (fun (k : Nat) => []) (fun (k : Nat) => k ≤ a.length ∧ a.take k = b.take k) (fun (k : Nat) => a.length - k) 0 ?_; intro b1 b2 hb1 hb2; simp (config := {maxSteps := 4000000}) only [go_sem, Nat.reduceBEq, ↓reduceIte, ↓reduceDIte, Nat.reduceAdd, Nat.reduceSub, Nat.reduceMul, Nat.reduceLeDiff, ← Bool.decide_and, ← Bool.decide_or, ← decide_not, Int.reduceLT, Int.reduceLE, Int.reduceToNat, Int.reduceNeg] at hb1 hb2; subst hb1; subst hb2; refine ⟨(by refine ⟨?_, ?_, rfl, rfl⟩ <;> repeat' (first | exact trivial | exact Or.inl rfl | exact Or.inr rfl | (refine And.intro (Or.inl rfl) ?_) | (refine And.intro (Or.inr (Or.inl rfl)) ?_) | (refine And.intro (Or.inr (Or.inr (Or.inr ⟨rfl, rfl⟩))) ?_) | (refine And.intro (Or.inr (Or.inr (Or.inl ⟨rfl, rfl, trivial⟩))) ?_) | exact ⟨(by show (_ : Nat) < 1000000000; omega), rfl, rfl⟩ | rfl | (refine And.intro (Or.inl ?_) ?_) | (refine And.intro ?_ ?_))), ?_, ?_⟩
  · exact ⟨Nat.zero_le _, rfl⟩
  have hla : a.length ≤ 9223372036854775807 := hx.1.1
  intro k ⟨hk, he⟩ back
  refine PW_sound env_ok ⟨_, fn_18, rfl⟩ 2000 _ _ (by kernel_rfl) ?_; simp only [go_sem, Nat.reduceBEq, ↓reduceIte, ↓reduceDIte, Nat.reduceAdd, Nat.reduceSub, Nat.reduceMul, Nat.reduceLeDiff, ← Bool.decide_and, ← Bool.decide_or, ← decide_not, Int.reduceLT, Int.reduceLE, Int.reduceToNat, Int.reduceNeg]
  refine ⟨fun h2 => ?_, fun h2 => ?_⟩
  · obtain ⟨x, hxi⟩ : ∃ x, a[k]? = some x := get_of_lt (by omega)
    obtain ⟨y, hyi⟩ : ∃ y, b[k]? = some y := get_of_lt (by omega)
    refine ⟨Int.natCast_nonneg _, x, hxi, Int.natCast_nonneg _, y, hyi, fun hn => ?_, fun hy => ?_⟩
    · symm; rw [decide_eq_false_iff_not]; rintro rfl
      rw [hxi] at hyi; injection hyi with hyi
      exact hn hyi
    · subst hy
      exact ⟨i64_ok (by omega) (by omega), back _ (k + 1) (by refine ⟨?_, ?_, rfl, rfl⟩ <;> repeat' (first | exact trivial | exact Or.inl rfl | exact Or.inr rfl | (refine And.intro (Or.inl rfl) ?_) | (refine And.intro (Or.inr (Or.inl rfl)) ?_) | (refine And.intro (Or.inr (Or.inr (Or.inr ⟨rfl, rfl⟩))) ?_) | (refine And.intro (Or.inr (Or.inr (Or.inl ⟨rfl, rfl, trivial⟩))) ?_) | exact ⟨(by show (_ : Nat) < 1000000000; omega), rfl, rfl⟩ | rfl | (refine And.intro (Or.inl ?_) ?_) | (refine And.intro ?_ ?_))) ⟨by omega, by rw [take_snoc hxi, take_snoc hyi, he]⟩ (by omega)⟩
  · symm; rw [decide_eq_true_eq]
    exact take_eq he (by omega) (by omega)
theorem c_Bools (a b : List Bool) : PC env 19 [⟨.sl .bool, a⟩, ⟨.sl .bool, b⟩] .bool (decide (a = b)) := by
  refine PC.of_PW (m := 2000) env_ok fn_19 rfl rfl rfl rfl (by kernel_rfl) ?_; intro hx; simp only [Try.f19]; simp only [go_sem, Nat.reduceBEq, ↓reduceIte, ↓reduceDIte, Nat.reduceAdd, Nat.reduceSub, Nat.reduceMul, Nat.reduceLeDiff, ← Bool.decide_and, ← Bool.decide_or, ← decide_not, Int.reduceLT, Int.reduceLE, Int.reduceToNat, Int.reduceNeg]
  refine ⟨fun h => ?_, fun h => ?_⟩
  · symm; rw [decide_eq_false_iff_not]; rintro rfl; exact h rfl
  refine Walks.loopA (X := Nat) (fun (k : Nat) => [(5, .iv (.int .i64) (k : Int))]) (fun (k : Nat) => []) (fun (k : Nat) => k ≤ a.length ∧ a.take k = b.take k) (fun (k : Nat) => a.length - k) 0 ?_; intro b1 b2 hb1 hb2; simp (config := {maxSteps := 4000000}) only [go_sem, Nat.reduceBEq, ↓reduceIte, ↓reduceDIte, Nat.reduceAdd, Nat.reduceSub, Nat.reduceMul, Nat.reduceLeDiff, ← Bool.decide_and, ← Bool.decide_or, ← decide_not, Int.reduceLT, Int.reduceLE, Int.reduceToNat, Int.reduceNeg] at hb1 hb2; subst hb1; subst hb2; refine ⟨(by refine ⟨?_, ?_, rfl, rfl⟩ <;> repeat' (first | exact trivial | exact Or.inl rfl | exact Or.inr rfl | (refine And.intro (Or.inl rfl) ?_) | (refine And.intro (Or.inr (Or.inl rfl)) ?_) | (refine And.intro (Or.inr (Or.inr (Or.inr ⟨rfl, rfl⟩))) ?_) | (refine And.intro (Or.inr (Or.inr (Or.inl ⟨rfl, rfl, trivial⟩))) ?_) | exact ⟨(by show (_ : Nat) < 1000000000; omega), rfl, rfl⟩ | rfl | (refine And.intro (Or.inl ?_) ?_) | (refine And.intro ?_ ?_))), ?_, ?_⟩
  · exact ⟨Nat.zero_le _, rfl⟩
  have hla : a.length ≤ 9223372036854775807 := hx.1.1
  intro k ⟨hk, he⟩ back
  refine PW_sound env_ok ⟨_, fn_19, rfl⟩ 2000 _ _ (by kernel_rfl) ?_; simp only [go_sem, Nat.reduceBEq, ↓reduceIte, ↓reduceDIte, Nat.reduceAdd, Nat.reduceSub, Nat.reduceMul, Nat.reduceLeDiff, ← Bool.decide_and, ← Bool.decide_or, ← decide_not, Int.reduceLT, Int.reduceLE, Int.reduceToNat, Int.reduceNeg]
  refine ⟨fun h2 => ?_, fun h2 => ?_⟩
  · obtain ⟨x, hxi⟩ : ∃ x, a[k]? = some x := get_of_lt (by omega)
    obtain ⟨y, hyi⟩ : ∃ y, b[k]? = some y := get_of_lt (by omega)
    refine ⟨Int.natCast_nonneg _, x, hxi, Int.natCast_nonneg _, y, hyi, ?_⟩
    rw [bne_dec]
    simp only [go_sem, Nat.reduceBEq, ↓reduceIte, ↓reduceDIte, Nat.reduceAdd, Nat.reduceSub, Nat.reduceMul, Nat.reduceLeDiff, ← Bool.decide_and, ← Bool.decide_or, ← decide_not, Int.reduceLT, Int.reduceLE, Int.reduceToNat, Int.reduceNeg]
    refine ⟨fun hn => ?_, fun hy => ?_⟩
    · symm; rw [decide_eq_false_iff_not]; rintro rfl
      rw [hxi] at hyi; injection hyi with hyi
      exact hn hyi
    · subst hy
      exact ⟨i64_ok (by omega) (by omega), back _ (k + 1) (by refine ⟨?_, ?_, rfl, rfl⟩ <;> repeat' (first | exact trivial | exact Or.inl rfl | exact Or.inr rfl | (refine And.intro (Or.inl rfl) ?_) | (refine And.intro (Or.inr (Or.inl rfl)) ?_) | (refine And.intro (Or.inr (Or.inr (Or.inr ⟨rfl, rfl⟩))) ?_) | (refine And.intro (Or.inr (Or.inr (Or.inl ⟨rfl, rfl, trivial⟩))) ?_) | exact ⟨(by show (_ : Nat) < 1000000000; omega), rfl, rfl⟩ | rfl | (refine And.intro (Or.inl ?_) ?_) | (refine And.intro ?_ ?_))) ⟨by omega, by rw [take_snoc hxi, take_snoc hyi, he]⟩ (by omega)⟩
  · symm; rw [decide_eq_true_eq]
    exact take_eq he (by omega) (by omega)
theorem c_Same2 (a b : Sch) : PC env 17 [⟨SchemeT, a⟩, ⟨SchemeT, b⟩] .bool (decide (a = b)) := by
  obtain ⟨an, aa, al⟩ := a
  obtain ⟨bn, ba, bl⟩ := b
  refine PC.of_PW (m := 2000) env_ok fn_17 rfl rfl rfl rfl (by kernel_rfl) ?_; intro hx; simp only [Try.f17]; simp only [go_sem, Nat.reduceBEq, ↓reduceIte, ↓reduceDIte, Nat.reduceAdd, Nat.reduceSub, Nat.reduceMul, Nat.reduceLeDiff, ← Bool.decide_and, ← Bool.decide_or, ← decide_not, Int.reduceLT, Int.reduceLE, Int.reduceToNat, Int.reduceNeg]
  have hla : al.length ≤ 9223372036854775807 := hx.1.2.2.1
  have fin : ¬ (an, aa, al) = (bn, ba, bl) → false = decide ((an, aa, al) = (bn, ba, bl)) := fun h => by symm; rw [decide_eq_false_iff_not]; exact h
  refine ⟨fun h1 => ⟨fun hy2 => ⟨fun h3 => fin fun e => ?_, fun h3 => ?_⟩, fun h2 => fin fun e => h2 (congrArg (fun z => z.2.1) e)⟩, fun h1 => fin fun e => h1 (congrArg Prod.fst e)⟩
  · have := congrArg (fun z => z.2.2) e
    dsimp only at this
    exact h3 (by rw [this])
  · refine Walks.loopA (X := Nat) (fun (k : Nat) => [(5, .iv (.int .i64) (k : Int))]) (fun (k : Nat) => []) (fun (k : Nat) => k ≤ al.length ∧ al.take k = bl.take k) (fun (k : Nat) => al.length - k) 0 ?_; intro b1 b2 hb1 hb2; simp (config := {maxSteps := 4000000}) only [go_sem, Nat.reduceBEq, ↓reduceIte, ↓reduceDIte, Nat.reduceAdd, Nat.reduceSub, Nat.reduceMul, Nat.reduceLeDiff, ← Bool.decide_and, ← Bool.decide_or, ← decide_not, Int.reduceLT, Int.reduceLE, Int.reduceToNat, Int.reduceNeg] at hb1 hb2; subst hb1; subst hb2; refine ⟨(by refine ⟨?_, ?_, rfl, rfl⟩ <;> repeat' (first | exact trivial | exact Or.inl rfl | exact Or.inr rfl | (refine And.intro (Or.inl rfl) ?_) | (refine And.intro (Or.inr (Or.inl rfl)) ?_) | (refine And.intro (Or.inr (Or.inr (Or.inr ⟨rfl, rfl⟩))) ?_) | (refine And.intro (Or.inr (Or.inr (Or.inl ⟨rfl, rfl, trivial⟩))) ?_) | exact ⟨(by show (_ : Nat) < 1000000000; omega), rfl, rfl⟩ | rfl | (refine And.intro (Or.inl ?_) ?_) | (refine And.intro ?_ ?_))), ?_, ?_⟩
    · exact ⟨Nat.zero_le _, rfl⟩
    intro k ⟨hk, he⟩ back
    refine PW_sound env_ok ⟨_, fn_17, rfl⟩ 2000 _ _ (by kernel_rfl) ?_; simp only [go_sem, Nat.reduceBEq, ↓reduceIte, ↓reduceDIte, Nat.reduceAdd, Nat.reduceSub, Nat.reduceMul, Nat.reduceLeDiff, ← Bool.decide_and, ← Bool.decide_or, ← decide_not, Int.reduceLT, Int.reduceLE, Int.reduceToNat, Int.reduceNeg]
    refine ⟨fun h2 => ?_, fun h2 => ?_⟩
    · obtain ⟨x, hxi⟩ : ∃ x, al[k]? = some x := get_of_lt (by omega)
      obtain ⟨y, hyi⟩ : ∃ y, bl[k]? = some y := get_of_lt (by omega)
      refine ⟨Int.natCast_nonneg _, x, hxi, Int.natCast_nonneg _, y, hyi, fun hn => ?_, fun hy => ?_⟩
      · apply fin; intro e
        have e := congrArg (fun z => z.2.2) e
        dsimp only at e
        subst e
        rw [hxi] at hyi; injection hyi with hyi; subst hyi
        exact hn ⟨rfl, rfl, rfl, rfl, rfl⟩
      · have e : x = y := by
          obtain ⟨e1, e2, e3, e4, e5⟩ := hy
          exact Prod.ext e1 (Prod.ext e2 (Prod.ext e3 (Prod.ext e4 e5)))
        subst e
        exact ⟨i64_ok (by omega) (by omega), back _ (k + 1) (by refine ⟨?_, ?_, rfl, rfl⟩ <;> repeat' (first | exact trivial | exact Or.inl rfl | exact Or.inr rfl | (refine And.intro (Or.inl rfl) ?_) | (refine And.intro (Or.inr (Or.inl rfl)) ?_) | (refine And.intro (Or.inr (Or.inr (Or.inr ⟨rfl, rfl⟩))) ?_) | (refine And.intro (Or.inr (Or.inr (Or.inl ⟨rfl, rfl, trivial⟩))) ?_) | exact ⟨(by show (_ : Nat) < 1000000000; omega), rfl, rfl⟩ | rfl | (refine And.intro (Or.inl ?_) ?_) | (refine And.intro ?_ ?_))) ⟨by omega, by rw [take_snoc hxi, take_snoc hyi, he]⟩ (by omega)⟩
    · symm; rw [decide_eq_true_eq]
      rw [h1, hy2, take_eq he (by omega) (by omega)]
def rightR (n : Int) (r : Rl) : Bool := inB r.1 0 (n - 1) && inB r.2.1 0 (n - 1) && decide (r.2.2.1.length ≤ 4) && r.2.2.1.all low && decide (r.2.2.2.1.length ≤ 4) && r.2.2.2.1.all aln && inB r.2.2.2.2 0 1000
def rightAt (n : Int) (l : List Rl) (i : Nat) : Bool := match l[i]? with | some r => decide (r ∉ l.take i) && rightR n r | none => false
theorem c_Right (s : Sch) (i : Nat) (hn : 0 ≤ s.1) (hi : i < s.2.2.length) : PC env 32 [⟨SchemeT, s⟩, ⟨.int .i64, (i : Int)⟩] .bool (rightAt s.1 s.2.2 i) := by
  obtain ⟨n, a, l⟩ := s
  obtain ⟨r, hr⟩ : ∃ r, l[i]? = some r := get_of_lt hi
  dsimp only at hn hi
  have hra : rightAt n l i = (decide (r ∉ l.take i) && rightR n r) := by unfold rightAt; rw [hr]
  dsimp only
  rw [hra]
  clear hra
  obtain ⟨fr, t, ri, ro, c⟩ := r
  refine PC.of_PW (m := 2000) env_ok fn_32 rfl rfl rfl rfl (by kernel_rfl) ?_; intro hx; simp only [Try.f32]; simp only [go_sem, Nat.reduceBEq, ↓reduceIte, ↓reduceDIte, Nat.reduceAdd, Nat.reduceSub, Nat.reduceMul, Nat.reduceLeDiff, ← Bool.decide_and, ← Bool.decide_or, ← decide_not, Int.reduceLT, Int.reduceLE, Int.reduceToNat, Int.reduceNeg]
  have hla : l.length ≤ 9223372036854775807 := hx.1.2.2.1
  have hnn := i64_of hx.1.1
  dsimp only at hnn
  refine ⟨Int.natCast_nonneg _, _, hr, ?_⟩
  refine Walks.loopA (X := Nat) (fun (k : Nat) => [(6, .iv (.int .i64) (k : Int))]) (fun (k : Nat) => []) (fun (k : Nat) => k ≤ i ∧ (fr, t, ri, ro, c) ∉ l.take k) (fun (k : Nat) => i - k) 0 ?_; intro b1 b2 hb1 hb2; simp (config := {maxSteps := 4000000}) only [go_sem, Nat.reduceBEq, ↓reduceIte, ↓reduceDIte, Nat.reduceAdd, Nat.reduceSub, Nat.reduceMul, Nat.reduceLeDiff, ← Bool.decide_and, ← Bool.decide_or, ← decide_not, Int.reduceLT, Int.reduceLE, Int.reduceToNat, Int.reduceNeg] at hb1 hb2; subst hb1; subst hb2; refine ⟨(by refine ⟨?_, ?_, rfl, rfl⟩ <;> repeat' (first | exact trivial | exact Or.inl rfl | exact Or.inr rfl | (refine And.intro (Or.inl rfl) ?_) | (refine And.intro (Or.inr (Or.inl rfl)) ?_) | (refine And.intro (Or.inr (Or.inr (Or.inr ⟨rfl, rfl⟩))) ?_) | (refine And.intro (Or.inr (Or.inr (Or.inl ⟨rfl, rfl, trivial⟩))) ?_) | exact ⟨(by show (_ : Nat) < 1000000000; omega), rfl, rfl⟩ | rfl | (refine And.intro (Or.inl ?_) ?_) | (refine And.intro ?_ ?_))), ?_, ?_⟩
  · exact ⟨Nat.zero_le _, by simp⟩
  intro k ⟨hk, he⟩ back
  refine PW_sound env_ok ⟨_, fn_32, rfl⟩ 2000 _ _ (by kernel_rfl) ?_; simp only [go_sem, Nat.reduceBEq, ↓reduceIte, ↓reduceDIte, Nat.reduceAdd, Nat.reduceSub, Nat.reduceMul, Nat.reduceLeDiff, ← Bool.decide_and, ← Bool.decide_or, ← decide_not, Int.reduceLT, Int.reduceLE, Int.reduceToNat, Int.reduceNeg]
  refine ⟨fun h2 => ?_, fun h2 => ?_⟩
  · obtain ⟨x, hxi⟩ : ∃ x, l[k]? = some x := get_of_lt (by omega)
    refine ⟨Int.natCast_nonneg _, x, hxi, fun hy => ?_, fun hn => ?_⟩
    · have e : x = (fr, t, ri, ro, c) := by
        obtain ⟨e1, e2, e3, e4, e5⟩ := hy
        exact Prod.ext e1 (Prod.ext e2 (Prod.ext e3 (Prod.ext e4 e5)))
      have hm : (fr, t, ri, ro, c) ∈ l.take i := by
        rw [← e]
        refine List.mem_of_getElem? (i := k) ?_
        rw [List.getElem?_take, if_pos (by omega)]; exact hxi
      rw [decide_eq_false (by simpa using hm)]; rfl
    · refine ⟨i64_ok (by omega) (by omega), back _ (k + 1) (by refine ⟨?_, ?_, rfl, rfl⟩ <;> repeat' (first | exact trivial | exact Or.inl rfl | exact Or.inr rfl | (refine And.intro (Or.inl rfl) ?_) | (refine And.intro (Or.inr (Or.inl rfl)) ?_) | (refine And.intro (Or.inr (Or.inr (Or.inr ⟨rfl, rfl⟩))) ?_) | (refine And.intro (Or.inr (Or.inr (Or.inl ⟨rfl, rfl, trivial⟩))) ?_) | exact ⟨(by show (_ : Nat) < 1000000000; omega), rfl, rfl⟩ | rfl | (refine And.intro (Or.inl ?_) ?_) | (refine And.intro ?_ ?_))) ⟨by omega, ?_⟩ (by omega)⟩
      rw [take_snoc hxi, List.mem_append, List.mem_singleton]
      rintro (h | h)
      · exact he h
      · subst h; exact hn ⟨rfl, rfl, rfl, rfl, rfl⟩
  · obtain rfl : k = i := by omega
    have hd : decide (¬(fr, t, ri, ro, c) ∈ List.take k l) = true := decide_eq_true he
    rw [hd]
    clear back
    have d1 := (c_In fr 0 (n - 1)).dec
    have d2 := (c_In t 0 (n - 1)).dec
    have d3 := (c_Small ri).dec
    have d4 := (c_Plain ro).dec
    have d5 := (c_In c 0 1000).dec
    have hR : rightR n (fr, t, ri, ro, c) = (inB fr 0 (n - 1) && inB t 0 (n - 1) && decide (ri.length ≤ 4) && ri.all low && decide (ro.length ≤ 4) && ro.all aln && inB c 0 1000) := rfl
    rw [hR]
    generalize ri.all low = b3 at *
    generalize ro.all aln = b4 at *
    refine ⟨i64_ok (by omega) (by omega), ?_⟩
    repeat' (first | (with_reducible intro _) | (with_reducible apply And.intro) | (with_reducible refine ⟨_, d1, ?_⟩; try simp only [go_sem, Nat.reduceBEq, ↓reduceIte, ↓reduceDIte, Nat.reduceAdd, Nat.reduceSub, Nat.reduceMul, Nat.reduceLeDiff, ← Bool.decide_and, ← Bool.decide_or, ← decide_not, Int.reduceLT, Int.reduceLE, Int.reduceToNat, Int.reduceNeg]) | (with_reducible refine ⟨_, d2, ?_⟩; try simp only [go_sem, Nat.reduceBEq, ↓reduceIte, ↓reduceDIte, Nat.reduceAdd, Nat.reduceSub, Nat.reduceMul, Nat.reduceLeDiff, ← Bool.decide_and, ← Bool.decide_or, ← decide_not, Int.reduceLT, Int.reduceLE, Int.reduceToNat, Int.reduceNeg]) | (with_reducible refine ⟨_, d3, ?_⟩; try simp only [go_sem, Nat.reduceBEq, ↓reduceIte, ↓reduceDIte, Nat.reduceAdd, Nat.reduceSub, Nat.reduceMul, Nat.reduceLeDiff, ← Bool.decide_and, ← Bool.decide_or, ← decide_not, Int.reduceLT, Int.reduceLE, Int.reduceToNat, Int.reduceNeg]) | (with_reducible refine ⟨_, d4, ?_⟩; try simp only [go_sem, Nat.reduceBEq, ↓reduceIte, ↓reduceDIte, Nat.reduceAdd, Nat.reduceSub, Nat.reduceMul, Nat.reduceLeDiff, ← Bool.decide_and, ← Bool.decide_or, ← decide_not, Int.reduceLT, Int.reduceLE, Int.reduceToNat, Int.reduceNeg]) | (with_reducible refine ⟨_, d5, ?_⟩; try simp only [go_sem, Nat.reduceBEq, ↓reduceIte, ↓reduceDIte, Nat.reduceAdd, Nat.reduceSub, Nat.reduceMul, Nat.reduceLeDiff, ← Bool.decide_and, ← Bool.decide_or, ← decide_not, Int.reduceLT, Int.reduceLE, Int.reduceToNat, Int.reduceNeg]) | fail)
    all_goals first | omega | (simp_all; try omega)
end Go.Proofs.Ytaphmhdgpdhpiaa
--SET+ Int.reduceEq, not_true_eq_false, not_false_eq_true, false_implies
namespace Go.Proofs.Ytaphmhdgpdhpiaa
set_option maxHeartbeats 4000000
set_option maxRecDepth 100000
theorem h_marks (s : Sch) (h : 0 ≤ s.1 ∧ s.1 ≤ 8) : HC env 36 [.iv SchemeT s] [] (.lfull 7) [(7, .arr .bool (List.replicate s.1.toNat false))] := by
  obtain ⟨n, a, l⟩ := s
  dsimp only at h
  refine HC.of_PW (m := 2000) env_ok fn_36 rfl rfl rfl rfl (by kernel_rfl) ?_; intro hx hbl; simp only [Try.f36]; simp only [go_sem, Nat.reduceBEq, ↓reduceIte, ↓reduceDIte, Nat.reduceAdd, Nat.reduceSub, Nat.reduceMul, Nat.reduceLeDiff, ← Bool.decide_and, ← Bool.decide_or, ← decide_not, Int.reduceLT, Int.reduceLE, Int.reduceToNat, Int.reduceNeg, Int.reduceEq, not_true_eq_false, not_false_eq_true, false_implies]
  have e : min (max n 0) 8 = n := by omega
  rw [e]
  exact ⟨⟨h.1, Int.le_trans h.2 (by decide)⟩, rfl⟩
abbrev Pr := Int × Int
def lessP (p q : Pr) : Bool := decide (p.1 < q.1 ∨ p.1 = q.1 ∧ p.2 < q.2)
theorem c_less (p q : Pr) : PC env 52 [⟨PriceT, p⟩, ⟨PriceT, q⟩] .bool (lessP p q) := by
  obtain ⟨p1, p2⟩ := p
  obtain ⟨q1, q2⟩ := q
  refine PC.of_PW (m := 2000) env_ok fn_52 rfl rfl rfl rfl (by kernel_rfl) ?_; intro hx; simp only [Try.f52]; simp only [go_sem, Nat.reduceBEq, ↓reduceIte, ↓reduceDIte, Nat.reduceAdd, Nat.reduceSub, Nat.reduceMul, Nat.reduceLeDiff, ← Bool.decide_and, ← Bool.decide_or, ← decide_not, Int.reduceLT, Int.reduceLE, Int.reduceToNat, Int.reduceNeg, Int.reduceEq, not_true_eq_false, not_false_eq_true, false_implies]
  unfold lessP
  repeat' (first | (with_reducible intro _) | (with_reducible apply And.intro))
  all_goals first | (rw [decide_eq_decide]; omega) | (symm; simp; omega)
def withP (p : Pr) (c : Int) : Pr := (p.1 + c, p.2 + 1)
theorem c_with (p : Pr) (c : Int) (h : -9223372036854775808 ≤ p.1 + c ∧ p.1 + c ≤ 9223372036854775807) (h2 : p.2 < 9223372036854775807) : PC env 43 [⟨PriceT, p⟩, ⟨.int .i64, c⟩] PriceT (withP p c) := by
  obtain ⟨p1, p2⟩ := p
  dsimp only at h h2
  refine PC.of_PW (m := 2000) env_ok fn_43 rfl rfl rfl rfl (by kernel_rfl) ?_; intro hx; simp only [Try.f43]; simp only [go_sem, Nat.reduceBEq, ↓reduceIte, ↓reduceDIte, Nat.reduceAdd, Nat.reduceSub, Nat.reduceMul, Nat.reduceLeDiff, ← Bool.decide_and, ← Bool.decide_or, ← decide_not, Int.reduceLT, Int.reduceLE, Int.reduceToNat, Int.reduceNeg, Int.reduceEq, not_true_eq_false, not_false_eq_true, false_implies]
  have := i64_of hx.1.2
  dsimp only at this
  exact ⟨i64_ok h.1 h.2, i64_ok (by omega) (by omega), rfl⟩
def simpE (w : Int × Int) (i o : Str) : Rl := (w.1, w.2, i, o, (i.length : Int))
theorem c_simple (w : Int × Int) (i o : Str) : PC env 53 [⟨.st (.pair (.int .i64) (.int .i64)), w⟩, ⟨.str, i⟩, ⟨.str, o⟩] RuleT (simpE w i o) := by
  obtain ⟨w1, w2⟩ := w
  refine PC.of_PW (m := 2000) env_ok fn_53 rfl rfl rfl rfl (by kernel_rfl) ?_; intro hx; simp only [Try.f53]; simp only [go_sem, Nat.reduceBEq, ↓reduceIte, ↓reduceDIte, Nat.reduceAdd, Nat.reduceSub, Nat.reduceMul, Nat.reduceLeDiff, ← Bool.decide_and, ← Bool.decide_or, ← decide_not, Int.reduceLT, Int.reduceLE, Int.reduceToNat, Int.reduceNeg, Int.reduceEq, not_true_eq_false, not_false_eq_true, false_implies]
  rfl
abbrev RawRl := List Int × List Int × Int × Int × Int
abbrev RawS := Int × Int × List RawRl
def abcAt (u : Int) : Str := (([97, 98, 99] : Str).drop (u % 3).toNat).take 1
def outAt (u : Int) : Str := (([97, 98, 99, 65, 66, 49] : Str).drop (u % 6).toNat).take 1
def made1E (x : RawRl) (n : Int) : Rl := (x.2.2.1 % n, x.2.2.2.1 % n, (x.1.take 2).flatMap abcAt, (x.2.1.take 2).flatMap outAt, x.2.2.2.2 * 2)
theorem c_Made1 (x : RawRl) (n : Int) (hn : 0 < n) : PC env 28 [⟨RawRuleT, x⟩, ⟨.int .i64, n⟩] RuleT (made1E x n) := by
  obtain ⟨xi, xo, xf, xt, xc⟩ := x
  refine PC.of_PW (m := 2000) env_ok fn_28 rfl rfl rfl rfl (by kernel_rfl) ?_; intro hx; simp only [Try.f28]; simp only [go_sem, Nat.reduceBEq, ↓reduceIte, ↓reduceDIte, Nat.reduceAdd, Nat.reduceSub, Nat.reduceMul, Nat.reduceLeDiff, ← Bool.decide_and, ← Bool.decide_or, ← decide_not, Int.reduceLT, Int.reduceLE, Int.reduceToNat, Int.reduceNeg, Int.reduceEq, not_true_eq_false, not_false_eq_true, false_implies]
  have hxi : ∀ u, u ∈ xi → 0 ≤ u ∧ u ≤ 255 := fun u hu => u8_of (hx.1.1.2 u hu)
  have hxo : ∀ u, u ∈ xo → 0 ≤ u ∧ u ≤ 255 := fun u hu => u8_of (hx.1.2.1.2 u hu)
  have hli : xi.length ≤ 9223372036854775807 := hx.1.1.1
  have hlo : xo.length ≤ 9223372036854775807 := hx.1.2.1.1
  have hf := u8_of hx.1.2.2.1
  have ht := u8_of hx.1.2.2.2.1
  have hc := u8_of hx.1.2.2.2.2
  dsimp only at hf ht hc
  have t1 : Int.tmod xf n = xf % n := Int.tmod_eq_emod_of_nonneg hf.1
  have t2 : Int.tmod xt n = xt % n := Int.tmod_eq_emod_of_nonneg ht.1
  rw [t1, t2]
  refine ⟨hn, hn, i64_ok (by omega) (by omega), ?_⟩
  have fin : ∀ {α : Type} {l : List α} {i : Nat} {f : α → Str}, ¬ ((i : Int) < 2 ∧ (i : Int) < (l.length : Int)) → i ≤ 2 → i ≤ l.length → (l.take i).flatMap f = (l.take 2).flatMap f := by
    intro α l i f h1 h2 h3
    by_cases h : i = 2
    · rw [h]
    · have : i = l.length := by omega
      subst this
      rw [List.take_of_length_le (Nat.le_refl _), List.take_of_length_le h2]
  have st : ∀ {l : List Int} {i : Nat} {u : Int} {f : Int → Str}, l[i]? = some u → (l.take (i + 1)).flatMap f = (l.take i).flatMap f ++ f u := by
    intro l i u f h
    rw [take_snoc h, List.flatMap_append]; simp
  have abcs : ∀ u : Int, 0 ≤ u → (([97, 98, 99] : Str).drop (u % 3).toNat).take ((u % 3 + 1).toNat - (u % 3).toNat) = abcAt u := by
    intro u hu
    rw [show (u % 3 + 1).toNat - (u % 3).toNat = 1 by omega]; rfl
  have outs : ∀ u : Int, 0 ≤ u → (([97, 98, 99, 65, 66, 49] : Str).drop (u % 6).toNat).take ((u % 6 + 1).toNat - (u % 6).toNat) = outAt u := by
    intro u hu
    rw [show (u % 6 + 1).toNat - (u % 6).toNat = 1 by omega]; rfl
  have abc1 : ∀ u : Int, (abcAt u).length ≤ 1 := fun u => by unfold abcAt; rw [List.length_take]; omega
  have out1 : ∀ u : Int, (outAt u).length ≤ 1 := fun u => by unfold outAt; rw [List.length_take]; omega
  have abcl : ∀ l : List Int, (l.flatMap abcAt).length ≤ l.length := by
    intro l
    induction l with
    | nil => simp
    | cons x l ih => simp only [List.flatMap_cons, List.length_append, List.length_cons, abcAt, List.length_take]; omega
  have outl : ∀ l : List Int, (l.flatMap outAt).length ≤ l.length := by
    intro l
    induction l with
    | nil => simp
    | cons x l ih => simp only [List.flatMap_cons, List.length_append, List.length_cons, outAt, List.length_take]; omega
  refine Walks.loopA (X := Nat) (fun (i : Nat) => [(6, .iv (.int .i64) (i : Int))]) (fun (i : Nat) => [(5, .box [.iv (.int .i64) (xf % n), .iv (.int .i64) (xt % n), .iv .str ((xi.take i).flatMap abcAt), .iv .str ([] : Str), .iv (.int .i64) (xc * 2)])]) (fun (i : Nat) => i ≤ xi.length ∧ i ≤ 2) (fun (i : Nat) => 2 - i) 0 ?_; intro b1 b2 hb1 hb2; simp (config := {maxSteps := 4000000}) only [go_sem, Nat.reduceBEq, ↓reduceIte, ↓reduceDIte, Nat.reduceAdd, Nat.reduceSub, Nat.reduceMul, Nat.reduceLeDiff, ← Bool.decide_and, ← Bool.decide_or, ← decide_not, Int.reduceLT, Int.reduceLE, Int.reduceToNat, Int.reduceNeg, Int.reduceEq, not_true_eq_false, not_false_eq_true, false_implies] at hb1 hb2; subst hb1; subst hb2; refine ⟨(by refine ⟨?_, ?_, rfl, rfl⟩ <;> repeat' (first | exact trivial | exact Or.inl rfl | exact Or.inr rfl | (refine And.intro (Or.inl rfl) ?_) | (refine And.intro (Or.inr (Or.inl rfl)) ?_) | (refine And.intro (Or.inr (Or.inr (Or.inr ⟨rfl, rfl⟩))) ?_) | (refine And.intro (Or.inr (Or.inr (Or.inl ⟨rfl, rfl, trivial⟩))) ?_) | exact ⟨(by show (_ : Nat) < 1000000000; omega), rfl, rfl⟩ | rfl | (refine And.intro (Or.inl ?_) ?_) | (refine And.intro ?_ ?_))), ?_, ?_⟩
  · exact ⟨Nat.zero_le _, Nat.zero_le _⟩
  intro i ⟨hi, hi2⟩ back
  refine PW_sound env_ok ⟨_, fn_28, rfl⟩ 2000 _ _ (by kernel_rfl) ?_; simp only [go_sem, Nat.reduceBEq, ↓reduceIte, ↓reduceDIte, Nat.reduceAdd, Nat.reduceSub, Nat.reduceMul, Nat.reduceLeDiff, ← Bool.decide_and, ← Bool.decide_or, ← decide_not, Int.reduceLT, Int.reduceLE, Int.reduceToNat, Int.reduceNeg, Int.reduceEq, not_true_eq_false, not_false_eq_true, false_implies]
  have hby1 : bytesOf ⟨#[97, 98, 99]⟩ = ([97, 98, 99] : Str) := rfl
  have hby2 : bytesOf ⟨#[97, 98, 99, 65, 66, 49]⟩ = ([97, 98, 99, 65, 66, 49] : Str) := rfl
  apply Walks.shareX (X := Unit) (fun _ => ⟨[(7, .iv (.int .i64) (0 : Int)), (5, .ref 5 0), (4, .ref 4 0), (2, .ref 2 0)], [(5, .box [.iv (.int .i64) (xf % n), .iv (.int .i64) (xt % n), .iv .str ((xi.take 2).flatMap abcAt), .iv .str ([] : Str), .iv (.int .i64) (xc * 2)]), (4, .box [.iv (.int .i64) (0 : Int), .iv (.int .i64) (0 : Int), .iv .str ([] : Str), .iv .str ([] : Str), .iv (.int .i64) (0 : Int)]), (2, .box [.iv (.sl (.int .u8)) xi, .iv (.sl (.int .u8)) xo, .iv (.int .u8) xf, .iv (.int .u8) xt, .iv (.int .u8) xc])]⟩) (fun _ => True)
  · intro key
    refine ⟨fun g1 => ⟨fun g2 => ?_, fun g2 => ?_⟩, fun g1 => ?_⟩
    · obtain ⟨u, hu⟩ : ∃ u, xi[i]? = some u := get_of_lt (by omega)
      have hub := hxi u (List.mem_of_getElem? hu)
      have tu : Int.tmod u 3 = u % 3 := Int.tmod_eq_emod_of_nonneg hub.1
      have hab := abcl (xi.take i)
      have hab1 := abc1 u
      have hli' : (xi.take i).length = i := by rw [List.length_take]; omega
      refine ⟨Int.natCast_nonneg _, u, hu, Int.natCast_nonneg _, u, hu, ?_⟩
      rw [tu, hby1, abcs u hub.1]
      refine ⟨u8_ok (by omega) (by omega), ⟨by omega, by omega, by show u % 3 + 1 ≤ (3 : Int); omega⟩, by omega, i64_ok (by omega) (by omega), ?_⟩
      refine back _ (i + 1) ?_ ⟨by omega, by omega⟩ (by omega)
      rw [← st hu]
      exact (by refine ⟨?_, ?_, rfl, rfl⟩ <;> repeat' (first | exact trivial | exact Or.inl rfl | exact Or.inr rfl | (refine And.intro (Or.inl rfl) ?_) | (refine And.intro (Or.inr (Or.inl rfl)) ?_) | (refine And.intro (Or.inr (Or.inr (Or.inr ⟨rfl, rfl⟩))) ?_) | (refine And.intro (Or.inr (Or.inr (Or.inl ⟨rfl, rfl, trivial⟩))) ?_) | exact ⟨(by show (_ : Nat) < 1000000000; omega), rfl, rfl⟩ | rfl | (refine And.intro (Or.inl ?_) ?_) | (refine And.intro ?_ ?_)))
    · refine key _ () trivial ?_
      rw [← fin (by omega) hi2 hi]
      exact (by refine ⟨?_, ?_, rfl, rfl⟩ <;> repeat' (first | exact trivial | exact Or.inl rfl | exact Or.inr rfl | (refine And.intro (Or.inl rfl) ?_) | (refine And.intro (Or.inr (Or.inl rfl)) ?_) | (refine And.intro (Or.inr (Or.inr (Or.inr ⟨rfl, rfl⟩))) ?_) | (refine And.intro (Or.inr (Or.inr (Or.inl ⟨rfl, rfl, trivial⟩))) ?_) | exact ⟨(by show (_ : Nat) < 1000000000; omega), rfl, rfl⟩ | rfl | (refine And.intro (Or.inl ?_) ?_) | (refine And.intro ?_ ?_)))
    · refine key _ () trivial ?_
      rw [← fin (by omega) hi2 hi]
      exact (by refine ⟨?_, ?_, rfl, rfl⟩ <;> repeat' (first | exact trivial | exact Or.inl rfl | exact Or.inr rfl | (refine And.intro (Or.inl rfl) ?_) | (refine And.intro (Or.inr (Or.inl rfl)) ?_) | (refine And.intro (Or.inr (Or.inr (Or.inr ⟨rfl, rfl⟩))) ?_) | (refine And.intro (Or.inr (Or.inr (Or.inl ⟨rfl, rfl, trivial⟩))) ?_) | exact ⟨(by show (_ : Nat) < 1000000000; omega), rfl, rfl⟩ | rfl | (refine And.intro (Or.inl ?_) ?_) | (refine And.intro ?_ ?_)))
  · intro _ _
    clear back hi hi2
    refine Walks.loopA (X := Nat) (fun (i : Nat) => [(7, .iv (.int .i64) (i : Int))]) (fun (i : Nat) => [(5, .box [.iv (.int .i64) (xf % n), .iv (.int .i64) (xt % n), .iv .str ((xi.take 2).flatMap abcAt), .iv .str ((xo.take i).flatMap outAt), .iv (.int .i64) (xc * 2)])]) (fun (i : Nat) => i ≤ xo.length ∧ i ≤ 2) (fun (i : Nat) => 2 - i) 0 ?_; intro b1 b2 hb1 hb2; simp (config := {maxSteps := 4000000}) only [go_sem, Nat.reduceBEq, ↓reduceIte, ↓reduceDIte, Nat.reduceAdd, Nat.reduceSub, Nat.reduceMul, Nat.reduceLeDiff, ← Bool.decide_and, ← Bool.decide_or, ← decide_not, Int.reduceLT, Int.reduceLE, Int.reduceToNat, Int.reduceNeg, Int.reduceEq, not_true_eq_false, not_false_eq_true, false_implies] at hb1 hb2; subst hb1; subst hb2; refine ⟨(by refine ⟨?_, ?_, rfl, rfl⟩ <;> repeat' (first | exact trivial | exact Or.inl rfl | exact Or.inr rfl | (refine And.intro (Or.inl rfl) ?_) | (refine And.intro (Or.inr (Or.inl rfl)) ?_) | (refine And.intro (Or.inr (Or.inr (Or.inr ⟨rfl, rfl⟩))) ?_) | (refine And.intro (Or.inr (Or.inr (Or.inl ⟨rfl, rfl, trivial⟩))) ?_) | exact ⟨(by show (_ : Nat) < 1000000000; omega), rfl, rfl⟩ | rfl | (refine And.intro (Or.inl ?_) ?_) | (refine And.intro ?_ ?_))), ?_, ?_⟩
    · exact ⟨Nat.zero_le _, Nat.zero_le _⟩
    intro i ⟨hi, hi2⟩ back
    refine PW_sound env_ok ⟨_, fn_28, rfl⟩ 2000 _ _ (by kernel_rfl) ?_; simp only [go_sem, Nat.reduceBEq, ↓reduceIte, ↓reduceDIte, Nat.reduceAdd, Nat.reduceSub, Nat.reduceMul, Nat.reduceLeDiff, ← Bool.decide_and, ← Bool.decide_or, ← decide_not, Int.reduceLT, Int.reduceLE, Int.reduceToNat, Int.reduceNeg, Int.reduceEq, not_true_eq_false, not_false_eq_true, false_implies]
    refine ⟨fun g1 => ⟨fun g2 => ?_, fun g2 => ?_⟩, fun g1 => ?_⟩
    · obtain ⟨u, hu⟩ : ∃ u, xo[i]? = some u := get_of_lt (by omega)
      have hub := hxo u (List.mem_of_getElem? hu)
      have tu : Int.tmod u 6 = u % 6 := Int.tmod_eq_emod_of_nonneg hub.1
      have hab := outl (xo.take i)
      have hab1 := out1 u
      have hli' : (xo.take i).length = i := by rw [List.length_take]; omega
      refine ⟨Int.natCast_nonneg _, u, hu, Int.natCast_nonneg _, u, hu, ?_⟩
      rw [tu, hby2, outs u hub.1]
      refine ⟨u8_ok (by omega) (by omega), ⟨by omega, by omega, by show u % 6 + 1 ≤ (6 : Int); omega⟩, by omega, i64_ok (by omega) (by omega), ?_⟩
      refine back _ (i + 1) ?_ ⟨by omega, by omega⟩ (by omega)
      rw [← st hu]
      exact (by refine ⟨?_, ?_, rfl, rfl⟩ <;> repeat' (first | exact trivial | exact Or.inl rfl | exact Or.inr rfl | (refine And.intro (Or.inl rfl) ?_) | (refine And.intro (Or.inr (Or.inl rfl)) ?_) | (refine And.intro (Or.inr (Or.inr (Or.inr ⟨rfl, rfl⟩))) ?_) | (refine And.intro (Or.inr (Or.inr (Or.inl ⟨rfl, rfl, trivial⟩))) ?_) | exact ⟨(by show (_ : Nat) < 1000000000; omega), rfl, rfl⟩ | rfl | (refine And.intro (Or.inl ?_) ?_) | (refine And.intro ?_ ?_)))
    · rw [fin (by omega) hi2 hi]; rfl
    · rw [fin (by omega) hi2 hi]; rfl
def baseE (k : Int) : Sch :=
  if k % 6 = 0 then (1, 1, [simpE (0, 0) [97] [97], simpE (0, 0) [98] [98], simpE (0, 0) [99] [99]])
  else if k % 6 = 1 then (1, 1, [simpE (0, 0) [97] [65], simpE (0, 0) [98, 97] [66], simpE (0, 0) [99, 97] [67], simpE (0, 0) [98] [98]])
  else if k % 6 = 2 then (2, 1, [simpE (0, 1) [99] [], simpE (1, 0) [97] [65], simpE (1, 0) [98] [66], simpE (0, 0) [97] [97], simpE (0, 0) [98] [98]])
  else if k % 6 = 3 then (1, 1, [simpE (0, 0) [97] [97], simpE (0, 0) [98] [98], simpE (0, 0) [97, 98] [97, 98, 99, 49], simpE (0, 0) [99] [99]])
  else if k % 6 = 4 then (1, 1, [simpE (0, 0) [97] [97], (0, 0, [98], [98], 0), (0, 0, [99], [98], 7), (0, 0, [98], [99], 9)])
  else (1, 1, [simpE (0, 0) [97] [97], simpE (0, 0) [97] [65], simpE (0, 0) [97, 97] [66], simpE (0, 0) [98] [98], (0, 0, [98], [], 20)])
theorem h_Base0 (k : Int)  (k0 : k % 6 = 0) : HC env 46 [.iv (.int .u8) k] [] (.agg [.iv (.int .i64) (baseE k).1, .iv (.int .u8) (baseE k).2.1, .lfull 1000]) [(1000, .arr RuleT (baseE k).2.2)] := by
  have e : baseE k = (1, 1, [simpE (0, 0) [97] [97], simpE (0, 0) [98] [98], simpE (0, 0) [99] [99]]) := by unfold baseE; rw [if_pos k0]
  rw [e]
  clear e
  have h : HC env 46 [.iv (.int .u8) k] [] (.agg [.iv (.int .i64) (1 : Int), .iv (.int .u8) (1 : Int), .lfull 28]) [(28, .arr RuleT ((1, 1, [simpE (0, 0) [97] [97], simpE (0, 0) [98] [98], simpE (0, 0) [99] [99]]) : Sch).2.2)] := by
    refine HC.of_PW (m := 2000) env_ok fn_46 rfl rfl rfl rfl (by kernel_rfl) ?_; intro hx hbl; simp only [Try.f46]; simp only [go_sem, Nat.reduceBEq, ↓reduceIte, ↓reduceDIte, Nat.reduceAdd, Nat.reduceSub, Nat.reduceMul, Nat.reduceLeDiff, ← Bool.decide_and, ← Bool.decide_or, ← decide_not, Int.reduceLT, Int.reduceLE, Int.reduceToNat, Int.reduceNeg, Int.reduceEq, not_true_eq_false, not_false_eq_true, false_implies]
    have hk := u8_of hx.1
    have t1 : Int.tmod k 6 = k % 6 := Int.tmod_eq_emod_of_nonneg hk.1
    rw [t1]
    repeat' (first | (with_reducible intro _) | (with_reducible apply And.intro) | (with_reducible refine ⟨_, c_simple _ _ _, ?_⟩; try simp only [go_sem, Nat.reduceBEq, ↓reduceIte, ↓reduceDIte, Nat.reduceAdd, Nat.reduceSub, Nat.reduceMul, Nat.reduceLeDiff, ← Bool.decide_and, ← Bool.decide_or, ← decide_not, Int.reduceLT, Int.reduceLE, Int.reduceToNat, Int.reduceNeg, Int.reduceEq, not_true_eq_false, not_false_eq_true, false_implies]) | fail)
    all_goals first | (exfalso; omega) | rfl
  exact h.ren [(28, 1000), (1000, 28)] rfl
theorem h_Base1 (k : Int) (n0 : ¬ k % 6 = 0) (k1 : k % 6 = 1) : HC env 46 [.iv (.int .u8) k] [] (.agg [.iv (.int .i64) (baseE k).1, .iv (.int .u8) (baseE k).2.1, .lfull 1000]) [(1000, .arr RuleT (baseE k).2.2)] := by
  have e : baseE k = (1, 1, [simpE (0, 0) [97] [65], simpE (0, 0) [98, 97] [66], simpE (0, 0) [99, 97] [67], simpE (0, 0) [98] [98]]) := by unfold baseE; rw [if_neg n0, if_pos k1]
  rw [e]
  clear e
  have h : HC env 46 [.iv (.int .u8) k] [] (.agg [.iv (.int .i64) (1 : Int), .iv (.int .u8) (1 : Int), .lfull 40]) [(40, .arr RuleT ((1, 1, [simpE (0, 0) [97] [65], simpE (0, 0) [98, 97] [66], simpE (0, 0) [99, 97] [67], simpE (0, 0) [98] [98]]) : Sch).2.2)] := by
    refine HC.of_PW (m := 2000) env_ok fn_46 rfl rfl rfl rfl (by kernel_rfl) ?_; intro hx hbl; simp only [Try.f46]; simp only [go_sem, Nat.reduceBEq, ↓reduceIte, ↓reduceDIte, Nat.reduceAdd, Nat.reduceSub, Nat.reduceMul, Nat.reduceLeDiff, ← Bool.decide_and, ← Bool.decide_or, ← decide_not, Int.reduceLT, Int.reduceLE, Int.reduceToNat, Int.reduceNeg, Int.reduceEq, not_true_eq_false, not_false_eq_true, false_implies]
    have hk := u8_of hx.1
    have t1 : Int.tmod k 6 = k % 6 := Int.tmod_eq_emod_of_nonneg hk.1
    rw [t1]
    repeat' (first | (with_reducible intro _) | (with_reducible apply And.intro) | (with_reducible refine ⟨_, c_simple _ _ _, ?_⟩; try simp only [go_sem, Nat.reduceBEq, ↓reduceIte, ↓reduceDIte, Nat.reduceAdd, Nat.reduceSub, Nat.reduceMul, Nat.reduceLeDiff, ← Bool.decide_and, ← Bool.decide_or, ← decide_not, Int.reduceLT, Int.reduceLE, Int.reduceToNat, Int.reduceNeg, Int.reduceEq, not_true_eq_false, not_false_eq_true, false_implies]) | fail)
    all_goals first | (exfalso; omega) | rfl
  exact h.ren [(40, 1000), (1000, 40)] rfl
theorem h_Base2 (k : Int) (n0 : ¬ k % 6 = 0) (n1 : ¬ k % 6 = 1) (k2 : k % 6 = 2) : HC env 46 [.iv (.int .u8) k] [] (.agg [.iv (.int .i64) (baseE k).1, .iv (.int .u8) (baseE k).2.1, .lfull 1000]) [(1000, .arr RuleT (baseE k).2.2)] := by
  have e : baseE k = (2, 1, [simpE (0, 1) [99] [], simpE (1, 0) [97] [65], simpE (1, 0) [98] [66], simpE (0, 0) [97] [97], simpE (0, 0) [98] [98]]) := by unfold baseE; rw [if_neg n0, if_neg n1, if_pos k2]
  rw [e]
  clear e
  have h : HC env 46 [.iv (.int .u8) k] [] (.agg [.iv (.int .i64) (2 : Int), .iv (.int .u8) (1 : Int), .lfull 54]) [(54, .arr RuleT ((2, 1, [simpE (0, 1) [99] [], simpE (1, 0) [97] [65], simpE (1, 0) [98] [66], simpE (0, 0) [97] [97], simpE (0, 0) [98] [98]]) : Sch).2.2)] := by
    refine HC.of_PW (m := 2000) env_ok fn_46 rfl rfl rfl rfl (by kernel_rfl) ?_; intro hx hbl; simp only [Try.f46]; simp only [go_sem, Nat.reduceBEq, ↓reduceIte, ↓reduceDIte, Nat.reduceAdd, Nat.reduceSub, Nat.reduceMul, Nat.reduceLeDiff, ← Bool.decide_and, ← Bool.decide_or, ← decide_not, Int.reduceLT, Int.reduceLE, Int.reduceToNat, Int.reduceNeg, Int.reduceEq, not_true_eq_false, not_false_eq_true, false_implies]
    have hk := u8_of hx.1
    have t1 : Int.tmod k 6 = k % 6 := Int.tmod_eq_emod_of_nonneg hk.1
    rw [t1]
    repeat' (first | (with_reducible intro _) | (with_reducible apply And.intro) | (with_reducible refine ⟨_, c_simple _ _ _, ?_⟩; try simp only [go_sem, Nat.reduceBEq, ↓reduceIte, ↓reduceDIte, Nat.reduceAdd, Nat.reduceSub, Nat.reduceMul, Nat.reduceLeDiff, ← Bool.decide_and, ← Bool.decide_or, ← decide_not, Int.reduceLT, Int.reduceLE, Int.reduceToNat, Int.reduceNeg, Int.reduceEq, not_true_eq_false, not_false_eq_true, false_implies]) | fail)
    all_goals first | (exfalso; omega) | rfl
  exact h.ren [(54, 1000), (1000, 54)] rfl
theorem h_Base3 (k : Int) (n0 : ¬ k % 6 = 0) (n1 : ¬ k % 6 = 1) (n2 : ¬ k % 6 = 2) (k3 : k % 6 = 3) : HC env 46 [.iv (.int .u8) k] [] (.agg [.iv (.int .i64) (baseE k).1, .iv (.int .u8) (baseE k).2.1, .lfull 1000]) [(1000, .arr RuleT (baseE k).2.2)] := by
  have e : baseE k = (1, 1, [simpE (0, 0) [97] [97], simpE (0, 0) [98] [98], simpE (0, 0) [97, 98] [97, 98, 99, 49], simpE (0, 0) [99] [99]]) := by unfold baseE; rw [if_neg n0, if_neg n1, if_neg n2, if_pos k3]
  rw [e]
  clear e
  have h : HC env 46 [.iv (.int .u8) k] [] (.agg [.iv (.int .i64) (1 : Int), .iv (.int .u8) (1 : Int), .lfull 66]) [(66, .arr RuleT ((1, 1, [simpE (0, 0) [97] [97], simpE (0, 0) [98] [98], simpE (0, 0) [97, 98] [97, 98, 99, 49], simpE (0, 0) [99] [99]]) : Sch).2.2)] := by
    refine HC.of_PW (m := 2000) env_ok fn_46 rfl rfl rfl rfl (by kernel_rfl) ?_; intro hx hbl; simp only [Try.f46]; simp only [go_sem, Nat.reduceBEq, ↓reduceIte, ↓reduceDIte, Nat.reduceAdd, Nat.reduceSub, Nat.reduceMul, Nat.reduceLeDiff, ← Bool.decide_and, ← Bool.decide_or, ← decide_not, Int.reduceLT, Int.reduceLE, Int.reduceToNat, Int.reduceNeg, Int.reduceEq, not_true_eq_false, not_false_eq_true, false_implies]
    have hk := u8_of hx.1
    have t1 : Int.tmod k 6 = k % 6 := Int.tmod_eq_emod_of_nonneg hk.1
    rw [t1]
    repeat' (first | (with_reducible intro _) | (with_reducible apply And.intro) | (with_reducible refine ⟨_, c_simple _ _ _, ?_⟩; try simp only [go_sem, Nat.reduceBEq, ↓reduceIte, ↓reduceDIte, Nat.reduceAdd, Nat.reduceSub, Nat.reduceMul, Nat.reduceLeDiff, ← Bool.decide_and, ← Bool.decide_or, ← decide_not, Int.reduceLT, Int.reduceLE, Int.reduceToNat, Int.reduceNeg, Int.reduceEq, not_true_eq_false, not_false_eq_true, false_implies]) | fail)
    all_goals first | (exfalso; omega) | rfl
  exact h.ren [(66, 1000), (1000, 66)] rfl
theorem h_Base4 (k : Int) (n0 : ¬ k % 6 = 0) (n1 : ¬ k % 6 = 1) (n2 : ¬ k % 6 = 2) (n3 : ¬ k % 6 = 3) (k4 : k % 6 = 4) : HC env 46 [.iv (.int .u8) k] [] (.agg [.iv (.int .i64) (baseE k).1, .iv (.int .u8) (baseE k).2.1, .lfull 1000]) [(1000, .arr RuleT (baseE k).2.2)] := by
  have e : baseE k = (1, 1, [simpE (0, 0) [97] [97], (0, 0, [98], [98], 0), (0, 0, [99], [98], 7), (0, 0, [98], [99], 9)]) := by unfold baseE; rw [if_neg n0, if_neg n1, if_neg n2, if_neg n3, if_pos k4]
  rw [e]
  clear e
  have h : HC env 46 [.iv (.int .u8) k] [] (.agg [.iv (.int .i64) (1 : Int), .iv (.int .u8) (1 : Int), .lfull 75]) [(75, .arr RuleT ((1, 1, [simpE (0, 0) [97] [97], (0, 0, [98], [98], 0), (0, 0, [99], [98], 7), (0, 0, [98], [99], 9)]) : Sch).2.2)] := by
    refine HC.of_PW (m := 2000) env_ok fn_46 rfl rfl rfl rfl (by kernel_rfl) ?_; intro hx hbl; simp only [Try.f46]; simp only [go_sem, Nat.reduceBEq, ↓reduceIte, ↓reduceDIte, Nat.reduceAdd, Nat.reduceSub, Nat.reduceMul, Nat.reduceLeDiff, ← Bool.decide_and, ← Bool.decide_or, ← decide_not, Int.reduceLT, Int.reduceLE, Int.reduceToNat, Int.reduceNeg, Int.reduceEq, not_true_eq_false, not_false_eq_true, false_implies]
    have hk := u8_of hx.1
    have t1 : Int.tmod k 6 = k % 6 := Int.tmod_eq_emod_of_nonneg hk.1
    rw [t1]
    repeat' (first | (with_reducible intro _) | (with_reducible apply And.intro) | (with_reducible refine ⟨_, c_simple _ _ _, ?_⟩; try simp only [go_sem, Nat.reduceBEq, ↓reduceIte, ↓reduceDIte, Nat.reduceAdd, Nat.reduceSub, Nat.reduceMul, Nat.reduceLeDiff, ← Bool.decide_and, ← Bool.decide_or, ← decide_not, Int.reduceLT, Int.reduceLE, Int.reduceToNat, Int.reduceNeg, Int.reduceEq, not_true_eq_false, not_false_eq_true, false_implies]) | fail)
    all_goals first | (exfalso; omega) | rfl
  exact h.ren [(75, 1000), (1000, 75)] rfl
theorem h_Base5 (k : Int) (n0 : ¬ k % 6 = 0) (n1 : ¬ k % 6 = 1) (n2 : ¬ k % 6 = 2) (n3 : ¬ k % 6 = 3) (n4 : ¬ k % 6 = 4) : HC env 46 [.iv (.int .u8) k] [] (.agg [.iv (.int .i64) (baseE k).1, .iv (.int .u8) (baseE k).2.1, .lfull 1000]) [(1000, .arr RuleT (baseE k).2.2)] := by
  have e : baseE k = (1, 1, [simpE (0, 0) [97] [97], simpE (0, 0) [97] [65], simpE (0, 0) [97, 97] [66], simpE (0, 0) [98] [98], (0, 0, [98], [], 20)]) := by unfold baseE; rw [if_neg n0, if_neg n1, if_neg n2, if_neg n3, if_neg n4]
  rw [e]
  clear e
  have h : HC env 46 [.iv (.int .u8) k] [] (.agg [.iv (.int .i64) (1 : Int), .iv (.int .u8) (1 : Int), .lfull 18]) [(18, .arr RuleT ((1, 1, [simpE (0, 0) [97] [97], simpE (0, 0) [97] [65], simpE (0, 0) [97, 97] [66], simpE (0, 0) [98] [98], (0, 0, [98], [], 20)]) : Sch).2.2)] := by
    refine HC.of_PW (m := 2000) env_ok fn_46 rfl rfl rfl rfl (by kernel_rfl) ?_; intro hx hbl; simp only [Try.f46]; simp only [go_sem, Nat.reduceBEq, ↓reduceIte, ↓reduceDIte, Nat.reduceAdd, Nat.reduceSub, Nat.reduceMul, Nat.reduceLeDiff, ← Bool.decide_and, ← Bool.decide_or, ← decide_not, Int.reduceLT, Int.reduceLE, Int.reduceToNat, Int.reduceNeg, Int.reduceEq, not_true_eq_false, not_false_eq_true, false_implies]
    have hk := u8_of hx.1
    have t1 : Int.tmod k 6 = k % 6 := Int.tmod_eq_emod_of_nonneg hk.1
    rw [t1]
    repeat' (first | (with_reducible intro _) | (with_reducible apply And.intro) | (with_reducible refine ⟨_, c_simple _ _ _, ?_⟩; try simp only [go_sem, Nat.reduceBEq, ↓reduceIte, ↓reduceDIte, Nat.reduceAdd, Nat.reduceSub, Nat.reduceMul, Nat.reduceLeDiff, ← Bool.decide_and, ← Bool.decide_or, ← decide_not, Int.reduceLT, Int.reduceLE, Int.reduceToNat, Int.reduceNeg, Int.reduceEq, not_true_eq_false, not_false_eq_true, false_implies]) | fail)
    all_goals first | (exfalso; omega) | rfl
  exact h.ren [(18, 1000), (1000, 18)] rfl
theorem h_Base (k : Int) : HC env 46 [.iv (.int .u8) k] [] (.agg [.iv (.int .i64) (baseE k).1, .iv (.int .u8) (baseE k).2.1, .lfull 1000]) [(1000, .arr RuleT (baseE k).2.2)] := by
  by_cases h0 : k % 6 = 0
  · exact h_Base0 k h0
  by_cases h1 : k % 6 = 1
  · exact h_Base1 k h0 h1
  by_cases h2 : k % 6 = 2
  · exact h_Base2 k h0 h1 h2
  by_cases h3 : k % 6 = 3
  · exact h_Base3 k h0 h1 h2 h3
  by_cases h4 : k % 6 = 4
  · exact h_Base4 k h0 h1 h2 h3 h4
  exact h_Base5 k h0 h1 h2 h3 h4
end Go.Proofs.Ytaphmhdgpdhpiaa
--SET+ Int.reduceEq, not_true_eq_false, not_false_eq_true, false_implies, List.append_assoc
namespace Go.Proofs.Ytaphmhdgpdhpiaa
set_option maxHeartbeats 4000000
set_option maxRecDepth 100000
def mstep (n : Int) (rs : List Rl) (r : Rl) : List Rl := if rightAt n (rs ++ [r]) rs.length = true then rs ++ [r] else rs
def made2L (n : Int) : List RawRl → List Rl → List Rl
  | [], out => out
  | y :: ys, out => made2L n ys (mstep n out (made1E y n))
def made2E (x : RawS) : Sch := ((baseE x.1).1, (baseE x.1).2.1, made2L (baseE x.1).1 (x.2.2.take 4) ((baseE x.1).2.2.drop (x.2.1 % 2).toNat))
theorem base_fact (k : Int) : ((baseE k).1 = 1 ∨ (baseE k).1 = 2) ∧ (baseE k).2.1 = 1 ∧ 3 ≤ (baseE k).2.2.length ∧ (baseE k).2.2.length ≤ 5 := by
  unfold baseE
  repeat' split
  all_goals decide
theorem mstep_len (n : Int) (rs : List Rl) (r : Rl) : rs.length ≤ (mstep n rs r).length ∧ (mstep n rs r).length ≤ rs.length + 1 := by
  unfold mstep
  split <;> simp
/-- Where a made scheme's rules lie. -/
def formM (id : Nat) (p : PV) (xs view : List Rl) : Prop := (p = .lfull id ∧ view = xs) ∨ ∃ off len, p = .lsl id 5 off len ∧ view = (xs.drop off).take len ∧ off + len ≤ xs.length ∧ off < xs.length
theorem c_Made2 (x : RawS) : PC env 31 [⟨RawT, x⟩] SchemeT (made2E x) := by
  obtain ⟨xb, xd, xm⟩ := x
  refine PC.of_PW (m := 2000) env_ok fn_31 rfl rfl rfl rfl (by kernel_rfl) ?_; intro hx; simp only [Try.f31]; simp only [go_sem, Nat.reduceBEq, ↓reduceIte, ↓reduceDIte, Nat.reduceAdd, Nat.reduceSub, Nat.reduceMul, Nat.reduceLeDiff, ← Bool.decide_and, ← Bool.decide_or, ← decide_not, Int.reduceLT, Int.reduceLE, Int.reduceToNat, Int.reduceNeg, Int.reduceEq, not_true_eq_false, not_false_eq_true, false_implies, List.append_assoc]
  refine ⟨_, _, h_Base xb, rfl, ?_⟩
  simp only [go_sem, Nat.reduceBEq, ↓reduceIte, ↓reduceDIte, Nat.reduceAdd, Nat.reduceSub, Nat.reduceMul, Nat.reduceLeDiff, ← Bool.decide_and, ← Bool.decide_or, ← decide_not, Int.reduceLT, Int.reduceLE, Int.reduceToNat, Int.reduceNeg, Int.reduceEq, not_true_eq_false, not_false_eq_true, false_implies, List.append_assoc]
  have hxd := u8_of hx.1.2.1
  have hlm : xm.length ≤ 9223372036854775807 := hx.1.2.2.1
  dsimp only at hxd
  have t1 : Int.tmod xd 2 = xd % 2 := Int.tmod_eq_emod_of_nonneg hxd.1
  rw [t1]
  have hbf := base_fact xb
  generalize hB : baseE xb = B at hbf
  obtain ⟨n, a, rs⟩ := B
  dsimp only at hbf ⊢
  have hnn : 0 < n := by omega
  have hdr : ((rs.drop (xd % 2).toNat).take (rs.length - (xd % 2).toNat)) = rs.drop (xd % 2).toNat := List.take_of_length_le (by rw [List.length_drop]; omega)
  have hlr : (rs.drop (xd % 2).toNat).length = rs.length - (xd % 2).toNat := List.length_drop ..
  have hE : made2E (xb, xd, xm) = (n, a, made2L n (xm.take 4) (rs.drop (xd % 2).toNat)) := by unfold made2E; dsimp only; rw [hB]
  rw [hE]
  clear hE
  intro _
  refine ⟨⟨by omega, by omega⟩, ?_⟩
  refine Walks.loopA (X := Nat × PV × List Rl × List Rl) (fun (z : Nat × PV × List Rl × List Rl) => [(4, .iv (.int .i64) (z.1 : Int)), (7, .any), (9, .any), (14, .any)]) (fun (z : Nat × PV × List Rl × List Rl) => [(3, .box [.iv (.int .i64) n, .iv (.int .u8) a, z.2.1]), (801000, .arr RuleT z.2.2.1)]) (fun (z : Nat × PV × List Rl × List Rl) => formM 801000 z.2.1 z.2.2.1 z.2.2.2 ∧ z.1 ≤ xm.length ∧ z.1 ≤ 4 ∧ z.2.2.2.length ≤ 5 + z.1 ∧ 1 ≤ z.2.2.2.length ∧ made2L n ((xm.take 4).drop z.1) z.2.2.2 = made2L n (xm.take 4) (rs.drop (xd % 2).toNat)) (fun (z : Nat × PV × List Rl × List Rl) => 4 - z.1) (0, .lsl 801000 5 (xd % 2).toNat (rs.length - (xd % 2).toNat), rs, rs.drop (xd % 2).toNat) ?_; intro b1 b2 hb1 hb2; simp (config := {maxSteps := 4000000}) only [go_sem, Nat.reduceBEq, ↓reduceIte, ↓reduceDIte, Nat.reduceAdd, Nat.reduceSub, Nat.reduceMul, Nat.reduceLeDiff, ← Bool.decide_and, ← Bool.decide_or, ← decide_not, Int.reduceLT, Int.reduceLE, Int.reduceToNat, Int.reduceNeg, Int.reduceEq, not_true_eq_false, not_false_eq_true, false_implies, List.append_assoc] at hb1 hb2; subst hb1; subst hb2; refine ⟨(by refine ⟨?_, ?_, rfl, rfl⟩ <;> repeat' (first | exact trivial | exact Or.inl rfl | exact Or.inr rfl | (refine And.intro (Or.inl rfl) ?_) | (refine And.intro (Or.inr (Or.inl rfl)) ?_) | (refine And.intro (Or.inr (Or.inr (Or.inr ⟨rfl, rfl⟩))) ?_) | (refine And.intro (Or.inr (Or.inr (Or.inl ⟨rfl, rfl, trivial⟩))) ?_) | exact ⟨(by show (_ : Nat) < 1000000000; omega), rfl, rfl⟩ | rfl | (refine And.intro (Or.inl ?_) ?_) | (refine And.intro ?_ ?_))), ?_, ?_⟩
  · exact ⟨Or.inr ⟨_, _, rfl, hdr.symm, by dsimp only; omega, by dsimp only; omega⟩, Nat.zero_le _, Nat.zero_le _, by show (rs.drop _).length ≤ _; omega, by show 1 ≤ (rs.drop _).length; omega, rfl⟩
  generalize made2L n (xm.take 4) (rs.drop (xd % 2).toNat) = R
  intro ⟨i, p, xs, out⟩ ⟨hform, hi, hi4, hlo, hl1, hR⟩ back
  dsimp only at hform hi hi4 hlo hl1 hR
  have done : ¬ (i < xm.length ∧ i < 4) → out = R := fun h => by
    have : (xm.take 4).drop i = [] := List.drop_of_length_le (by rw [List.length_take]; omega)
    rw [this] at hR
    exact hR
  rcases hform with ⟨rfl, rfl⟩ | ⟨off, len, rfl, hv, ho1, ho2⟩
  · refine PW_sound env_ok ⟨_, fn_31, rfl⟩ 2000 _ _ (by kernel_rfl) ?_; simp only [go_sem, Nat.reduceBEq, ↓reduceIte, ↓reduceDIte, Nat.reduceAdd, Nat.reduceSub, Nat.reduceMul, Nat.reduceLeDiff, ← Bool.decide_and, ← Bool.decide_or, ← decide_not, Int.reduceLT, Int.reduceLE, Int.reduceToNat, Int.reduceNeg, Int.reduceEq, not_true_eq_false, not_false_eq_true, false_implies, List.append_assoc]
    refine ⟨fun g1 => ⟨fun g2 => ?_, fun g2 => ?_⟩, fun g1 => ?_⟩
    · obtain ⟨y, hy⟩ : ∃ y, xm[i]? = some y := get_of_lt (by omega)
      refine ⟨Int.natCast_nonneg _, y, hy, _, c_Made1 y n hnn, fun _ => ⟨by omega, ?_⟩⟩
      have e1 : ((out ++ [made1E y n]).length : Int) - 1 = (out.length : Int) := by simp only [List.length_append, List.length_cons, List.length_nil]; omega
      rw [e1]
      refine ⟨i64_ok (by omega) (by omega), _, (c_Right (n, a, out ++ [made1E y n]) out.length (by dsimp only; omega) (by simp)).dec, ?_⟩
      simp only [go_sem, Nat.reduceBEq, ↓reduceIte, ↓reduceDIte, Nat.reduceAdd, Nat.reduceSub, Nat.reduceMul, Nat.reduceLeDiff, ← Bool.decide_and, ← Bool.decide_or, ← decide_not, Int.reduceLT, Int.reduceLE, Int.reduceToNat, Int.reduceNeg, Int.reduceEq, not_true_eq_false, not_false_eq_true, false_implies, List.append_assoc]
      have hd : (xm.take 4)[i]? = some y := by rw [List.getElem?_take, if_pos (by omega)]; exact hy
      rw [drop_cons hd] at hR
      refine ⟨fun g3 => ?_, fun g3 => ?_⟩
      · have e3 : mstep n out (made1E y n) = out := if_neg g3
        rw [e1]
        refine ⟨i64_ok (by omega) (by omega), ⟨by omega, by simp only [List.length_append, List.length_cons, List.length_nil]; omega⟩, i64_ok (by omega) (by omega), ?_⟩
        refine back _ (i + 1, .lsl 801000 5 0 ((out.length : Int).toNat - 0), out ++ [made1E y n], out) ?_ ⟨Or.inr ⟨_, _, rfl, by simp, by simp, by simp⟩, by dsimp only; omega, by dsimp only; omega, by dsimp only; omega, hl1, ?_⟩ (by dsimp only; omega)
        · exact (by refine ⟨?_, ?_, rfl, rfl⟩ <;> repeat' (first | exact trivial | exact Or.inl rfl | exact Or.inr rfl | (refine And.intro (Or.inl rfl) ?_) | (refine And.intro (Or.inr (Or.inl rfl)) ?_) | (refine And.intro (Or.inr (Or.inr (Or.inr ⟨rfl, rfl⟩))) ?_) | (refine And.intro (Or.inr (Or.inr (Or.inl ⟨rfl, rfl, trivial⟩))) ?_) | exact ⟨(by show (_ : Nat) < 1000000000; omega), rfl, rfl⟩ | rfl | (refine And.intro (Or.inl ?_) ?_) | (refine And.intro ?_ ?_)))
        · dsimp only
          have : made2L n (y :: (xm.take 4).drop (i + 1)) out = made2L n ((xm.take 4).drop (i + 1)) (mstep n out (made1E y n)) := rfl
          rw [this, e3] at hR
          exact hR
      · have e3 : mstep n out (made1E y n) = out ++ [made1E y n] := if_pos g3
        refine ⟨i64_ok (by omega) (by omega), ?_⟩
        refine back _ (i + 1, .lfull 801000, out ++ [made1E y n], out ++ [made1E y n]) ?_ ⟨Or.inl ⟨rfl, rfl⟩, by dsimp only; omega, by dsimp only; omega, by simp only [List.length_append, List.length_cons, List.length_nil]; omega, by simp, ?_⟩ (by dsimp only; omega)
        · exact (by refine ⟨?_, ?_, rfl, rfl⟩ <;> repeat' (first | exact trivial | exact Or.inl rfl | exact Or.inr rfl | (refine And.intro (Or.inl rfl) ?_) | (refine And.intro (Or.inr (Or.inl rfl)) ?_) | (refine And.intro (Or.inr (Or.inr (Or.inr ⟨rfl, rfl⟩))) ?_) | (refine And.intro (Or.inr (Or.inr (Or.inl ⟨rfl, rfl, trivial⟩))) ?_) | exact ⟨(by show (_ : Nat) < 1000000000; omega), rfl, rfl⟩ | rfl | (refine And.intro (Or.inl ?_) ?_) | (refine And.intro ?_ ?_)))
        · dsimp only
          have : made2L n (y :: (xm.take 4).drop (i + 1)) out = made2L n ((xm.take 4).drop (i + 1)) (mstep n out (made1E y n)) := rfl
          rw [this, e3] at hR
          exact hR
    · rw [done (by omega)]
    · rw [done (by omega)]
  · refine PW_sound env_ok ⟨_, fn_31, rfl⟩ 2000 _ _ (by kernel_rfl) ?_; simp only [go_sem, Nat.reduceBEq, ↓reduceIte, ↓reduceDIte, Nat.reduceAdd, Nat.reduceSub, Nat.reduceMul, Nat.reduceLeDiff, ← Bool.decide_and, ← Bool.decide_or, ← decide_not, Int.reduceLT, Int.reduceLE, Int.reduceToNat, Int.reduceNeg, Int.reduceEq, not_true_eq_false, not_false_eq_true, false_implies, List.append_assoc]
    have hlen : len = out.length := by rw [hv, List.length_take, List.length_drop]; omega
    rw [← hv]
    refine ⟨fun g1 => ⟨fun g2 => ?_, fun g2 => ?_⟩, fun g1 => ?_⟩
    · obtain ⟨y, hy⟩ : ∃ y, xm[i]? = some y := get_of_lt (by omega)
      refine ⟨Int.natCast_nonneg _, y, hy, _, c_Made1 y n hnn, fun _ => ⟨⟨ho2, by omega⟩, ?_⟩⟩
      have e1 : ((out ++ [made1E y n]).length : Int) - 1 = (out.length : Int) := by simp only [List.length_append, List.length_cons, List.length_nil]; omega
      rw [e1]
      refine ⟨i64_ok (by omega) (by omega), _, (c_Right (n, a, out ++ [made1E y n]) out.length (by dsimp only; omega) (by simp)).dec, ?_⟩
      simp only [go_sem, Nat.reduceBEq, ↓reduceIte, ↓reduceDIte, Nat.reduceAdd, Nat.reduceSub, Nat.reduceMul, Nat.reduceLeDiff, ← Bool.decide_and, ← Bool.decide_or, ← decide_not, Int.reduceLT, Int.reduceLE, Int.reduceToNat, Int.reduceNeg, Int.reduceEq, not_true_eq_false, not_false_eq_true, false_implies, List.append_assoc]
      have hd : (xm.take 4)[i]? = some y := by rw [List.getElem?_take, if_pos (by omega)]; exact hy
      rw [drop_cons hd] at hR
      refine ⟨fun g3 => ?_, fun g3 => ?_⟩
      · have e3 : mstep n out (made1E y n) = out := if_neg g3
        rw [e1]
        refine ⟨i64_ok (by omega) (by omega), ⟨by omega, by simp only [List.length_append, List.length_cons, List.length_nil]; omega⟩, i64_ok (by omega) (by omega), ?_⟩
        refine back _ (i + 1, .lsl 801000 5 0 ((out.length : Int).toNat - 0), out ++ [made1E y n], out) ?_ ⟨Or.inr ⟨_, _, rfl, by simp, by simp, by simp⟩, by dsimp only; omega, by dsimp only; omega, by dsimp only; omega, hl1, ?_⟩ (by dsimp only; omega)
        · exact (by refine ⟨?_, ?_, rfl, rfl⟩ <;> repeat' (first | exact trivial | exact Or.inl rfl | exact Or.inr rfl | (refine And.intro (Or.inl rfl) ?_) | (refine And.intro (Or.inr (Or.inl rfl)) ?_) | (refine And.intro (Or.inr (Or.inr (Or.inr ⟨rfl, rfl⟩))) ?_) | (refine And.intro (Or.inr (Or.inr (Or.inl ⟨rfl, rfl, trivial⟩))) ?_) | exact ⟨(by show (_ : Nat) < 1000000000; omega), rfl, rfl⟩ | rfl | (refine And.intro (Or.inl ?_) ?_) | (refine And.intro ?_ ?_)))
        · dsimp only
          have : made2L n (y :: (xm.take 4).drop (i + 1)) out = made2L n ((xm.take 4).drop (i + 1)) (mstep n out (made1E y n)) := rfl
          rw [this, e3] at hR
          exact hR
      · have e3 : mstep n out (made1E y n) = out ++ [made1E y n] := if_pos g3
        refine ⟨i64_ok (by omega) (by omega), ?_⟩
        refine back _ (i + 1, .lfull 801000, out ++ [made1E y n], out ++ [made1E y n]) ?_ ⟨Or.inl ⟨rfl, rfl⟩, by dsimp only; omega, by dsimp only; omega, by simp only [List.length_append, List.length_cons, List.length_nil]; omega, by simp, ?_⟩ (by dsimp only; omega)
        · exact (by refine ⟨?_, ?_, rfl, rfl⟩ <;> repeat' (first | exact trivial | exact Or.inl rfl | exact Or.inr rfl | (refine And.intro (Or.inl rfl) ?_) | (refine And.intro (Or.inr (Or.inl rfl)) ?_) | (refine And.intro (Or.inr (Or.inr (Or.inr ⟨rfl, rfl⟩))) ?_) | (refine And.intro (Or.inr (Or.inr (Or.inl ⟨rfl, rfl, trivial⟩))) ?_) | exact ⟨(by show (_ : Nat) < 1000000000; omega), rfl, rfl⟩ | rfl | (refine And.intro (Or.inl ?_) ?_) | (refine And.intro ?_ ?_)))
        · dsimp only
          have : made2L n (y :: (xm.take 4).drop (i + 1)) out = made2L n ((xm.take 4).drop (i + 1)) (mstep n out (made1E y n)) := rfl
          rw [this, e3] at hR
          exact hR
    · rw [done (by omega)]
    · rw [done (by omega)]
end Go.Proofs.Ytaphmhdgpdhpiaa
