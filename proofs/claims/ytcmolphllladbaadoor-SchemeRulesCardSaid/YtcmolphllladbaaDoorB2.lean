/- Contracts: the reference's texts. Nothing here is trusted; no condition. -/
import Derived.Test.YtcmolphllladbaaDoorB1
import Derived.Shelf.Strings.Builder1
import Derived.Shelf.Strings.Builder2
import Derived.Shelf.Strings.OnBuilder
import Derived.Shelf.Utf8.RuneCount
import Derived.Shelf.Strconv.Itoa0
import Derived.Shelf.Strconv.Itoa1
import Derived.Shelf.LaysM
import Derived.Shelf.Strconv.Itoa2
import Derived.Shelf.Strconv.Itoa3
import Derived.Shelf.Strings.Search1
import Derived.Shelf.Strings.Search2
import Derived.Shelf.Strings.Search3
import Derived.Shelf.Strings.Cut
import Derived.Shelf.Strings.Count
import Derived.Shelf.Strings.Shaped
import Derived.Shelf.Strings.Split
import Derived.Shelf.Strings.SplitShaped
import Derived.Shelf.Unicode.Decode
import Derived.Shelf.Strings.RuneCount
import Derived.Shelf.Strings.Explode
import Derived.Shelf.Unicode.DecodeSlow
import Derived.Shelf.Unicode.DecodeAny
import Derived.Test.YtcmolphllladbaaDoorProg
import Derived.Lib.ItoaLen
import Derived.WalkKit
import Derived.RegionTactic
import Derived.BigRegion
import Derived.Lib.Walk
import Derived.Lib.Builder
import Derived.Lib.UnsafeStr
set_option linter.unusedSimpArgs false
set_option linter.unusedVariables false
namespace Go.Proofs.YtcmolphllladbaaDoor
open Go.Shelf
def Klays156_ren : Go.Shelf.Ren := ⟨fun | 156 => 37 | 165 => 54 | 166 => 34 | 169 => 38 | 240 => 52 | 241 => 66 | 276 => 64 | 277 => 73 | n => n, fun | 31 => 45 | 9 => 9 | 3 => 3 | 4 => 4 | 0 => 0 | 20 => 20 | 72 => 70 | 76 => 73 | 70 => 68 | 37 => 56 | 75 => 72 | 127 => 91 | 164 => 98 | 5 => 5 | 80 => 78 | n => n, fun | n => n⟩
theorem Klays156 : Go.Proofs.Lays.n156 Tryd.prog Klays156_ren := {
  mixed := by kernel_rfl
  f156 := Tryd.func37.trans (congrArg some (by kernel_rfl))
  f165 := Tryd.func54.trans (congrArg some (by kernel_rfl))
  f166 := Tryd.func34.trans (congrArg some (by kernel_rfl))
  f169 := Tryd.func38.trans (congrArg some (by kernel_rfl))
  f240 := Tryd.func52.trans (congrArg some (by kernel_rfl))
  f241 := Tryd.func66.trans (congrArg some (by kernel_rfl))
  f276 := Tryd.func64.trans (congrArg some (by kernel_rfl))
  f277 := Tryd.func73.trans (congrArg some (by kernel_rfl))
  t0 := Tryd.underlying0
  a0 := Tryd.isAgg0
  z0 := Tryd.sizeOf0
  v0 := Tryd.zeroValue0
  t3 := Tryd.underlying3
  a3 := Tryd.isAgg3
  z3 := Tryd.sizeOf3
  v3 := Tryd.zeroValue3
  t4 := Tryd.underlying4
  a4 := Tryd.isAgg4
  z4 := Tryd.sizeOf4
  v4 := Tryd.zeroValue4
  t9 := Tryd.underlying9
  a9 := Tryd.isAgg9
  z9 := Tryd.sizeOf9
  v9 := Tryd.zeroValue9
  t20 := Tryd.underlying20
  a20 := Tryd.isAgg20
  z20 := Tryd.sizeOf20
  v20 := Tryd.zeroValue20
  t31 := Tryd.underlying45
  a31 := Tryd.isAgg45
  z31 := Tryd.sizeOf45
  v31 := Tryd.zeroValue45
  t37 := Tryd.underlying56
  a37 := Tryd.isAgg56
  z37 := Tryd.sizeOf56
  v37 := Tryd.zeroValue56
  t70 := Tryd.underlying68
  a70 := Tryd.isAgg68
  z70 := Tryd.sizeOf68
  v70 := Tryd.zeroValue68
  t72 := Tryd.underlying70
  a72 := Tryd.isAgg70
  z72 := Tryd.sizeOf70
  v72 := Tryd.zeroValue70
  t75 := Tryd.underlying72
  a75 := Tryd.isAgg72
  z75 := Tryd.sizeOf72
  v75 := Tryd.zeroValue72
  t76 := Tryd.underlying73
  a76 := Tryd.isAgg73
  z76 := Tryd.sizeOf73
  v76 := Tryd.zeroValue73
  t127 := Tryd.underlying91
  a127 := Tryd.isAgg91
  z127 := Tryd.sizeOf91
  v127 := Tryd.zeroValue91
  t164 := Tryd.underlying98
  a164 := Tryd.isAgg98
  z164 := Tryd.sizeOf98
  v164 := Tryd.zeroValue98 }
theorem KBuilder_Extra_156 : Builder.Extra Tryd.prog Klays156_ren := {
  sizeBuilder := by kernel_rfl
  liesBuilder := by kernel_rfl
  t5 := Tryd.underlying5
  a5 := Tryd.isAgg5
  z5 := Tryd.sizeOf5
  v5 := Tryd.zeroValue5
  infoByte := by kernel_rfl
  cellsByte := by kernel_rfl
  sizeByte := by kernel_rfl
  neB5 := by decide }
open Go.RowKit in
/-- No element: the empty string; the world is as it was. (Whatever the slice's address and capacity: a nil slice too.) (LAID: no walk: one application.) -/
theorem Kstrings_Join_none (a : Option Addr) (c : Nat) (sep : ByteArray) (w : World) :
    Calls Tryd.prog 37 #[.slice a 0 c, .string sep] w fun e w' => e = .returned (.string ⟨#[]⟩) ∧ w' = w := Any.strings_Join_none Klays156 KBuilder_Extra_156 a c sep w
open Go.RowKit in
/-- strings.Join: "Join concatenates the elements of its first argument to create a single string. The separator string sep is placed between elements in the resulting string.": HOWEVER MANY ELEMENTS. Below the heap's end the world is as it was. (LAID: no walk: one application.) -/
theorem Kstrings_Join (bk o c : Nat) (xs : List ByteArray) (sep : ByteArray) (w : World) (hcells : ∀ (j : Nat) x, xs[j]? = some x → w.cell? ⟨bk, o + j, none⟩ = some (.string x)) (hbk : bk < w.heap.size) (hN : xs.length ≤ 140737488355328) (hcap : xs.length ≤ c) (hlen : (Lib.join (xs.map (·.data.toList)) sep.data.toList).length ≤ 140737488355328) :
    Calls Tryd.prog 37 #[.slice (some ⟨bk, o, none⟩) xs.length c, .string sep] w fun e w' => e = .returned (.string ⟨(Lib.join (xs.map (·.data.toList)) sep.data.toList).toArray⟩) ∧ Below w.heap.size w w' := Any.strings_Join Klays156 KBuilder_Extra_156 bk o c xs sep w hcells hbk hN hcap hlen
def KlaysM171_ren : Go.Shelf.Ren := ⟨fun | 171 => 35 | 243 => 53 | 246 => 65 | 283 => 69 | 284 => 70 | 285 => 71 | 286 => 72 | 129 => 82 | 317 => 81 | 318 => 83 | 319 => 84 | 320 => 85 | 337 => 91 | 338 => 92 | n => n, fun | 3 => 3 | 9 => 9 | 2 => 2 | 4 => 4 | 171 => 105 | 0 => 0 | 53 => 106 | 37 => 56 | 5 => 5 | 173 => 109 | 212 => 117 | 51 => 118 | 20 => 20 | 213 => 119 | 46 => 114 | 232 => 128 | 233 => 129 | n => n, fun | 17 => 1 | 18 => 2 | 19 => 3 | n => n⟩
theorem KlaysM171 : Go.Proofs.LaysM.n171 Tryd.prog KlaysM171_ren := {
  mixed := by kernel_rfl
  f129 := Tryd.func82.trans (congrArg some (by kernel_rfl))
  f171 := Tryd.func35.trans (congrArg some (by kernel_rfl))
  f243 := Tryd.func53.trans (congrArg some (by kernel_rfl))
  f246 := Tryd.func65.trans (congrArg some (by kernel_rfl))
  f283 := Tryd.func69.trans (congrArg some (by kernel_rfl))
  f284 := Tryd.func70.trans (congrArg some (by kernel_rfl))
  f285 := Tryd.func71.trans (congrArg some (by kernel_rfl))
  f286 := Tryd.func72.trans (congrArg some (by kernel_rfl))
  f317 := Tryd.func81.trans (congrArg some (by kernel_rfl))
  f318 := Tryd.func83.trans (congrArg some (by kernel_rfl))
  f319 := Tryd.func84.trans (congrArg some (by kernel_rfl))
  f320 := Tryd.func85.trans (congrArg some (by kernel_rfl))
  f337 := Tryd.func91.trans (congrArg some (by kernel_rfl))
  f338 := Tryd.func92.trans (congrArg some (by kernel_rfl))
  t0 := Tryd.underlying0
  a0 := Tryd.isAgg0
  z0 := Tryd.sizeOf0
  v0 := Tryd.zeroValue0
  t2 := Tryd.underlying2
  a2 := Tryd.isAgg2
  z2 := Tryd.sizeOf2
  v2 := Tryd.zeroValue2
  t3 := Tryd.underlying3
  a3 := Tryd.isAgg3
  z3 := Tryd.sizeOf3
  v3 := Tryd.zeroValue3
  t4 := Tryd.underlying4
  a4 := Tryd.isAgg4
  z4 := Tryd.sizeOf4
  v4 := Tryd.zeroValue4
  t5 := Tryd.underlying5
  a5 := Tryd.isAgg5
  z5 := Tryd.sizeOf5
  v5 := Tryd.zeroValue5
  t9 := Tryd.underlying9
  a9 := Tryd.isAgg9
  z9 := Tryd.sizeOf9
  v9 := Tryd.zeroValue9
  t20 := Tryd.underlying20
  a20 := Tryd.isAgg20
  z20 := Tryd.sizeOf20
  v20 := Tryd.zeroValue20
  t37 := Tryd.underlying56
  a37 := Tryd.isAgg56
  z37 := Tryd.sizeOf56
  v37 := Tryd.zeroValue56
  t46 := Tryd.underlying114
  a46 := Tryd.isAgg114
  z46 := Tryd.sizeOf114
  v46 := Tryd.zeroValue114
  t51 := Tryd.underlying118
  a51 := Tryd.isAgg118
  z51 := Tryd.sizeOf118
  v51 := Tryd.zeroValue118
  t53 := Tryd.underlying106
  a53 := Tryd.isAgg106
  z53 := Tryd.sizeOf106
  v53 := Tryd.zeroValue106
  t171 := Tryd.underlying105
  a171 := Tryd.isAgg105
  z171 := Tryd.sizeOf105
  v171 := Tryd.zeroValue105
  t173 := Tryd.underlying109
  a173 := Tryd.isAgg109
  z173 := Tryd.sizeOf109
  v173 := Tryd.zeroValue109
  t212 := Tryd.underlying117
  a212 := Tryd.isAgg117
  z212 := Tryd.sizeOf117
  v212 := Tryd.zeroValue117
  t213 := Tryd.underlying119
  a213 := Tryd.isAgg119
  z213 := Tryd.sizeOf119
  t232 := Tryd.underlying128
  a232 := Tryd.isAgg128
  z232 := Tryd.sizeOf128
  v232 := Tryd.zeroValue128
  t233 := Tryd.underlying129
  a233 := Tryd.isAgg129
  z233 := Tryd.sizeOf129
  v233 := Tryd.zeroValue129
  g17 := by kernel_rfl
  g18 := by kernel_rfl
  g19 := by kernel_rfl
  i0 := by kernel_rfl
  i2 := by kernel_rfl
  i3 := by kernel_rfl
  i4 := by kernel_rfl
  i5 := by kernel_rfl
  i9 := by kernel_rfl
  i20 := by kernel_rfl
  i37 := by kernel_rfl
  i46 := by kernel_rfl
  i51 := by kernel_rfl
  i53 := by kernel_rfl
  i171 := by kernel_rfl
  i173 := by kernel_rfl
  i212 := by kernel_rfl
  i232 := by kernel_rfl
  i233 := by kernel_rfl
  m17 := by kernel_rfl
  m18 := by kernel_rfl
  m19 := by kernel_rfl }
open Go.RowKit Go.Sort Go.Lib in
/-- strconv.Itoa: "Itoa is equivalent to FormatInt(int64(i), 10).": i's DECIMAL NUMERAL ('Lib.itoa': a '-' where i is negative, then the digits), FOR EVERY int. The world behind the call: the world before it, new blocks behind the heap (the library's 'var a [24]byte'), draws. (LAID: no walk: one application.) -/
theorem Kstrconv_Itoa (n : Int) (h0 : -9223372036854775808 ≤ n) (h1 : n ≤ 9223372036854775807) (w : World) (htab : Lib.TabIs Tryd.prog w "internal/strconv.uint64pow10" .u64 Lib.pow10Tab) :
    Calls Tryd.prog 35 #[.int .i64 n] w fun e w' => e = .returned (.string ⟨(Lib.itoa n).toArray⟩) ∧ ∃ k os, w' = grow (w.drewN k) os := Any.strconv_Itoa KlaysM171 n h0 h1 w htab
def Klays145_ren : Go.Shelf.Ren := ⟨fun | 145 => 42 | 220 => 55 | 219 => 67 | 217 => 74 | 225 => 75 | 224 => 76 | 267 => 77 | 266 => 86 | 314 => 87 | n => n, fun | 9 => 9 | 4 => 4 | 59 => 79 | 3 => 3 | 5 => 5 | 46 => 114 | 146 => 122 | 51 => 118 | n => n, fun | 1 => 0 | n => n⟩
theorem Klays145 : Go.Proofs.Lays.n145 Tryd.prog Klays145_ren := {
  mixed := by kernel_rfl
  f145 := Tryd.func42.trans (congrArg some (by kernel_rfl))
  f217 := Tryd.func74.trans (congrArg some (by kernel_rfl))
  f219 := Tryd.func67.trans (congrArg some (by kernel_rfl))
  f220 := Tryd.func55.trans (congrArg some (by kernel_rfl))
  f224 := Tryd.func76.trans (congrArg some (by kernel_rfl))
  f225 := Tryd.func75.trans (congrArg some (by kernel_rfl))
  f266 := Tryd.func86.trans (congrArg some (by kernel_rfl))
  f267 := Tryd.func77.trans (congrArg some (by kernel_rfl))
  f314 := Tryd.func87.trans (congrArg some (by kernel_rfl))
  t3 := Tryd.underlying3
  a3 := Tryd.isAgg3
  z3 := Tryd.sizeOf3
  v3 := Tryd.zeroValue3
  t4 := Tryd.underlying4
  a4 := Tryd.isAgg4
  z4 := Tryd.sizeOf4
  v4 := Tryd.zeroValue4
  t5 := Tryd.underlying5
  a5 := Tryd.isAgg5
  z5 := Tryd.sizeOf5
  v5 := Tryd.zeroValue5
  t9 := Tryd.underlying9
  a9 := Tryd.isAgg9
  z9 := Tryd.sizeOf9
  v9 := Tryd.zeroValue9
  t46 := Tryd.underlying114
  a46 := Tryd.isAgg114
  z46 := Tryd.sizeOf114
  v46 := Tryd.zeroValue114
  t51 := Tryd.underlying118
  a51 := Tryd.isAgg118
  z51 := Tryd.sizeOf118
  v51 := Tryd.zeroValue118
  t59 := Tryd.underlying79
  a59 := Tryd.isAgg79
  z59 := Tryd.sizeOf79
  v59 := Tryd.zeroValue79
  t146 := Tryd.underlying122
  a146 := Tryd.isAgg122
  z146 := Tryd.sizeOf122
  v146 := Tryd.zeroValue122
  g1 := by kernel_rfl }
open Go.RowKit Go.Lib in
/-- strings.Cut: "Cut slices s around the first instance of sep, returning the text before and after sep. The found result reports whether sep appears in s. If sep does not appear in s, cut returns s, "", false.": IT RETURNS 'Lib.cut s sep'; the world is as it was but for the count of draws. (LAID: no walk: one application.) -/
theorem Kstrings_Cut (s sep : ByteArray) (m : Int) (w : World) (hs : s.size < 4294967281) (hm : w.cell? ⟨0, 0, none⟩ = some (.int .i64 m)) :
    Calls Tryd.prog 42 #[.string s, .string sep] w fun e w' => e = .returned (.tuple #[.string ⟨(Lib.cut s.data.toList sep.data.toList).1.toArray⟩, .string ⟨(Lib.cut s.data.toList sep.data.toList).2.1.toArray⟩, .bool (Lib.cut s.data.toList sep.data.toList).2.2]) ∧ ∃ n, w' = w.drewN n := Any.strings_Cut Klays145 s sep m w hs hm
def Klays146_ren : Go.Shelf.Ren := ⟨fun | 146 => 57 | 221 => 68 | 268 => 78 | 138 => 79 | 143 => 80 | 195 => 88 | 197 => 89 | 218 => 90 | 219 => 67 | 260 => 93 | 217 => 74 | 225 => 75 | 224 => 76 | 267 => 77 | 266 => 86 | 314 => 87 | n => n, fun | 9 => 9 | 31 => 45 | 3 => 3 | 4 => 4 | 0 => 0 | 105 => 125 | 21 => 21 | 5 => 5 | 46 => 114 | 119 => 130 | 139 => 133 | 138 => 132 | 146 => 122 | 51 => 118 | n => n, fun | 1 => 0 | 3 => 4 | 4 => 5 | n => n⟩
theorem Klays146 : Go.Proofs.Lays.n146 Tryd.prog Klays146_ren := {
  mixed := by kernel_rfl
  f138 := Tryd.func79.trans (congrArg some (by kernel_rfl))
  f143 := Tryd.func80.trans (congrArg some (by kernel_rfl))
  f146 := Tryd.func57.trans (congrArg some (by kernel_rfl))
  f195 := Tryd.func88.trans (congrArg some (by kernel_rfl))
  f197 := Tryd.func89.trans (congrArg some (by kernel_rfl))
  f217 := Tryd.func74.trans (congrArg some (by kernel_rfl))
  f218 := Tryd.func90.trans (congrArg some (by kernel_rfl))
  f219 := Tryd.func67.trans (congrArg some (by kernel_rfl))
  f221 := Tryd.func68.trans (congrArg some (by kernel_rfl))
  f224 := Tryd.func76.trans (congrArg some (by kernel_rfl))
  f225 := Tryd.func75.trans (congrArg some (by kernel_rfl))
  f260 := Tryd.func93.trans (congrArg some (by kernel_rfl))
  f266 := Tryd.func86.trans (congrArg some (by kernel_rfl))
  f267 := Tryd.func77.trans (congrArg some (by kernel_rfl))
  f268 := Tryd.func78.trans (congrArg some (by kernel_rfl))
  f314 := Tryd.func87.trans (congrArg some (by kernel_rfl))
  t0 := Tryd.underlying0
  a0 := Tryd.isAgg0
  z0 := Tryd.sizeOf0
  v0 := Tryd.zeroValue0
  t3 := Tryd.underlying3
  a3 := Tryd.isAgg3
  z3 := Tryd.sizeOf3
  v3 := Tryd.zeroValue3
  t4 := Tryd.underlying4
  a4 := Tryd.isAgg4
  z4 := Tryd.sizeOf4
  v4 := Tryd.zeroValue4
  t5 := Tryd.underlying5
  a5 := Tryd.isAgg5
  z5 := Tryd.sizeOf5
  v5 := Tryd.zeroValue5
  t9 := Tryd.underlying9
  a9 := Tryd.isAgg9
  z9 := Tryd.sizeOf9
  v9 := Tryd.zeroValue9
  t21 := Tryd.underlying21
  a21 := Tryd.isAgg21
  z21 := Tryd.sizeOf21
  v21 := Tryd.zeroValue21
  t31 := Tryd.underlying45
  a31 := Tryd.isAgg45
  z31 := Tryd.sizeOf45
  v31 := Tryd.zeroValue45
  t46 := Tryd.underlying114
  a46 := Tryd.isAgg114
  z46 := Tryd.sizeOf114
  v46 := Tryd.zeroValue114
  t51 := Tryd.underlying118
  a51 := Tryd.isAgg118
  z51 := Tryd.sizeOf118
  v51 := Tryd.zeroValue118
  t105 := Tryd.underlying125
  a105 := Tryd.isAgg125
  z105 := Tryd.sizeOf125
  v105 := Tryd.zeroValue125
  t119 := Tryd.underlying130
  a119 := Tryd.isAgg130
  z119 := Tryd.sizeOf130
  t138 := Tryd.underlying132
  a138 := Tryd.isAgg132
  z138 := Tryd.sizeOf132
  v138 := Tryd.zeroValue132
  t139 := Tryd.underlying133
  a139 := Tryd.isAgg133
  z139 := Tryd.sizeOf133
  v139 := Tryd.zeroValue133
  t146 := Tryd.underlying122
  a146 := Tryd.isAgg122
  z146 := Tryd.sizeOf122
  v146 := Tryd.zeroValue122
  g1 := by kernel_rfl
  g3 := by kernel_rfl
  g4 := by kernel_rfl }
open Go.RowKit Go.Lib in
/-- strings.Split. (LAID: no walk: one application.) -/
theorem Kstrings_Split (s sep : ByteArray) (m : Int) (w : World) (hs : s.size < 4294967281) (hm : w.cell? ⟨0, 0, none⟩ = some (.int .i64 m)) (h1 : 1 ≤ sep.size) :
    Calls Tryd.prog 57 #[.string s, .string sep] w fun e w' =>
      e = .returned (.slice (some ⟨w.heap.size, 0, none⟩) (Lib.countB s sep + 1) (Lib.countB s sep + 1)) ∧ w' = w.alloc (.cells ((Lib.splitB sep 0 (Lib.countB s sep) s).map Value.string).toArray 9) := Any.strings_Split Klays146 (by kernel_rfl) s sep m w hs hm h1
end Go.Proofs.YtcmolphllladbaaDoor
namespace Go.Proofs.YtcmolphllladbaaDoor
open Go.Shelf
def Klays169_ren : Go.Shelf.Ren := ⟨fun | 169 => 38 | n => n, fun | 70 => 68 | 9 => 9 | 0 => 0 | 72 => 70 | 37 => 56 | 127 => 91 | 3 => 3 | 5 => 5 | n => n, fun | n => n⟩
theorem Klays169 : Go.Proofs.Lays.n169 Tryd.prog Klays169_ren := {
  mixed := by kernel_rfl
  f169 := Tryd.func38.trans (congrArg some (by kernel_rfl))
  t0 := Tryd.underlying0
  a0 := Tryd.isAgg0
  z0 := Tryd.sizeOf0
  v0 := Tryd.zeroValue0
  t3 := Tryd.underlying3
  a3 := Tryd.isAgg3
  z3 := Tryd.sizeOf3
  v3 := Tryd.zeroValue3
  t9 := Tryd.underlying9
  a9 := Tryd.isAgg9
  z9 := Tryd.sizeOf9
  v9 := Tryd.zeroValue9
  t37 := Tryd.underlying56
  a37 := Tryd.isAgg56
  z37 := Tryd.sizeOf56
  v37 := Tryd.zeroValue56
  t70 := Tryd.underlying68
  a70 := Tryd.isAgg68
  z70 := Tryd.sizeOf68
  v70 := Tryd.zeroValue68
  t72 := Tryd.underlying70
  a72 := Tryd.isAgg70
  z72 := Tryd.sizeOf70
  v72 := Tryd.zeroValue70
  t127 := Tryd.underlying91
  a127 := Tryd.isAgg91
  z127 := Tryd.sizeOf91
  v127 := Tryd.zeroValue91 }
theorem KBuilder_Extra_169 : Builder.Extra Tryd.prog Klays169_ren := {
  sizeBuilder := by kernel_rfl
  liesBuilder := by kernel_rfl
  t5 := Tryd.underlying5
  a5 := Tryd.isAgg5
  z5 := Tryd.sizeOf5
  v5 := Tryd.zeroValue5
  infoByte := by kernel_rfl
  cellsByte := by kernel_rfl
  sizeByte := by kernel_rfl
  neB5 := by decide }
open Go.RowKit in
/-- (*strings.Builder).String: "String returns the accumulated string.": WHATEVER THE BUILDER HOLDS. (LAID: no walk: one application.) -/
theorem KBuilder_String_any (B b : Nat) (l : List UInt8) (w : World) (h : Lib.IsBuilder 70 5 B b (Lib.byteCells l) w) (hBw : B ≤ w.heap.size) :
    Calls Tryd.prog 38 #[.pointer (some ⟨b, 0, none⟩)] w fun e w' => e = .returned (.string ⟨l.toArray⟩) ∧ Below B w w' := Any.Builder_String_any Klays169 KBuilder_Extra_169 B b l w h hBw
def Klays240_ren : Go.Shelf.Ren := ⟨fun | 240 => 52 | 276 => 64 | n => n, fun | 70 => 68 | 72 => 70 | 37 => 56 | 164 => 98 | n => n, fun | n => n⟩
theorem Klays240 : Go.Proofs.Lays.n240 Tryd.prog Klays240_ren := {
  mixed := by kernel_rfl
  f240 := Tryd.func52.trans (congrArg some (by kernel_rfl))
  f276 := Tryd.func64.trans (congrArg some (by kernel_rfl))
  t0 := Tryd.underlying0
  a0 := Tryd.isAgg0
  z0 := Tryd.sizeOf0
  v0 := Tryd.zeroValue0
  t4 := Tryd.underlying4
  a4 := Tryd.isAgg4
  z4 := Tryd.sizeOf4
  v4 := Tryd.zeroValue4
  t9 := Tryd.underlying9
  a9 := Tryd.isAgg9
  z9 := Tryd.sizeOf9
  v9 := Tryd.zeroValue9
  t20 := Tryd.underlying20
  a20 := Tryd.isAgg20
  z20 := Tryd.sizeOf20
  v20 := Tryd.zeroValue20
  t70 := Tryd.underlying68
  a70 := Tryd.isAgg68
  z70 := Tryd.sizeOf68
  v70 := Tryd.zeroValue68
  t72 := Tryd.underlying70
  a72 := Tryd.isAgg70
  z72 := Tryd.sizeOf70
  v72 := Tryd.zeroValue70
  t164 := Tryd.underlying98
  a164 := Tryd.isAgg98
  z164 := Tryd.sizeOf98
  v164 := Tryd.zeroValue98 }
theorem KBuilder_X72_240 : Builder.X72 Tryd.prog Klays240_ren := {
  sizeBuilder := by kernel_rfl
  liesBuilder := by kernel_rfl }
end Go.Proofs.YtcmolphllladbaaDoor
namespace Go.Proofs.YtcmolphllladbaaDoor
open Go.RowKit Go.Lib
set_option maxHeartbeats 1000000

theorem post_flat {w w' : World} {S : Nat → Prop} {T : Ty} {r : T.den} {v : Value} (hb : Below w.heap.size w w') (hd : drF → w.drawn ≤ w'.drawn) (hS : ∀ b, S b → b < w.heap.size)
    (hr : RepR T r w' ⟨S, fun g => w.heap.size ≤ g⟩ v) : Post w S T r v w' :=
  ⟨⟨hb, hd⟩, S, fun _ h => h, fun _ h => .inl h, fun b h => Nat.lt_of_lt_of_le (hS b h) hb.size, hr⟩
theorem below_drewN (w : World) (k : Nat) : Below w.heap.size w (w.drewN k) := ⟨rfl, rfl, rfl, Nat.le_refl _, fun _ _ => rfl⟩
theorem below_growN (w : World) (k : Nat) (os : Array Obj) : Below w.heap.size w (Go.Sort.grow (w.drewN k) os) := by
  refine ⟨rfl, rfl, rfl, by simp [Go.Sort.grow, World.drewN], fun g hg => ?_⟩
  show (w.heap ++ os)[g]? = _
  rw [Array.getElem?_append_left hg]
theorem drewN_drawn (w : World) (k : Nat) : w.drawn ≤ (w.drewN k).drawn := by simp [World.drewN]
theorem str_rep {x : List UInt8} {w : World} {M : Mem} {v : Value} (h : RepV .str x w M v) : v = .string ⟨x.toArray⟩ ∧ x.length ≤ 9223372036854775807 := by
  obtain ⟨hv, h⟩ := h
  injection hv with hv
  exact ⟨hv, h⟩
theorem tab_max {w : World} {S : Nat → Prop} (h : Tabs w S) : ∃ m, w.cell? ⟨0, 0, none⟩ = some (.int .i64 m) := by
  obtain ⟨_, o, ho, m, cs, e, r, rfl, hm⟩ := h 0 (by decide)
  exact ⟨m, by simp [World.cell?, ho, hm]⟩
theorem tab_pow {w : World} {S : Nat → Prop} (h : Tabs w S) : w.var? Tryd.prog (((Tryd.prog.globals[1]?).map (·.name)).getD default) = some ((pow10Tab).map fun z => Value.int .u64 z).toArray := by
  obtain ⟨_, o, ho, e, r, rfl⟩ := h 1 (by decide)
  have hg : Tryd.prog.globalNamed (((Tryd.prog.globals[1]?).map (·.name)).getD default) = some 1 := by kernel_rfl
  simp only [World.var?, hg, Option.bind_some, ho]
  rfl
theorem c_Itoa (n : Int) : PC env 35 [⟨.int .i64, n⟩] .str (itoa n) := by
  intro w S vs hS hT hrep
  obtain ⟨v, r, rfl, _, ⟨hv, h1, h2⟩, hr⟩ := hrep
  simp only [RepAs] at hr
  subst hr
  injection hv with hv
  subst hv
  refine (Kstrconv_Itoa n h1 h2 w (tab_pow hT)).mono ?_
  rintro e w' ⟨rfl, k, os, rfl⟩
  refine ⟨_, rfl, post_flat (below_growN w k os) (fun _ => drewN_drawn w k) hS ⟨rfl, ?_⟩⟩
  have := itoa_length_le n h1 h2
  omega
theorem c_Cut (s sep : List UInt8) (hs : s.length < 4294967281) : PC env 42 [⟨.str, s⟩, ⟨.str, sep⟩] (.tup .str (.tup .str .bool)) (Lib.cut s sep) := by
  intro w S vs hS hT hrep
  obtain ⟨v, r, rfl, _, hv, v2, r2, rfl, _, hv2, hr⟩ := hrep
  simp only [RepAs] at hr
  subst hr
  obtain ⟨rfl, _⟩ := str_rep hv
  obtain ⟨rfl, _⟩ := str_rep hv2
  obtain ⟨m, hm⟩ := tab_max hT
  refine (Kstrings_Cut ⟨s.toArray⟩ ⟨sep.toArray⟩ m w (by simpa [ByteArray.size] using hs) hm).mono ?_
  rintro e w' ⟨rfl, k, rfl⟩
  refine ⟨_, rfl, post_flat (below_drewN w k) (fun _ => drewN_drawn w k) hS ?_⟩
  refine ⟨_, rfl, _, _, rfl, ⟨rfl, ?_⟩, _, _, rfl, ⟨rfl, ?_⟩, _, rfl, rfl⟩
  · show (Lib.cut s sep).1.length ≤ _
    unfold Lib.cut
    split
    · simp only [List.length_take]; omega
    · simp only; omega
  · show (Lib.cut s sep).2.1.length ≤ _
    unfold Lib.cut
    split
    · simp only [List.length_drop]; omega
    · simp
theorem c_Split (s : List UInt8) (c : UInt8) (hs : s.length < 4294967281) : PC env 57 [⟨.str, s⟩, ⟨.str, [c]⟩] (.sl .str) (split s [c]) := by
  intro w S vs hS hT hrep
  obtain ⟨v, r, rfl, _, hv, v2, r2, rfl, _, hv2, hr⟩ := hrep
  simp only [RepAs] at hr
  subst hr
  obtain ⟨rfl, _⟩ := str_rep hv
  obtain ⟨rfl, _⟩ := str_rep hv2
  obtain ⟨m, hm⟩ := tab_max hT
  have hsz : (⟨s.toArray⟩ : ByteArray).size < 4294967281 := by simpa [ByteArray.size] using hs
  have h1 : 1 ≤ (⟨[c].toArray⟩ : ByteArray).size := by simp [ByteArray.size]
  refine (Kstrings_Split ⟨s.toArray⟩ ⟨[c].toArray⟩ m w hsz hm h1).mono ?_
  rintro e w' ⟨rfl, rfl⟩
  have hmap : (splitB ⟨[c].toArray⟩ 0 (countB ⟨s.toArray⟩ ⟨[c].toArray⟩) ⟨s.toArray⟩).map (·.data.toList) = split s [c] := splitB_data _ _ _ _
  have hlen : (splitB ⟨[c].toArray⟩ 0 (countB ⟨s.toArray⟩ ⟨[c].toArray⟩) ⟨s.toArray⟩).length = countB ⟨s.toArray⟩ ⟨[c].toArray⟩ + 1 := splitB_all _ h1 0 _ _ rfl
  have hlen2 : (split s [c]).length = countB ⟨s.toArray⟩ ⟨[c].toArray⟩ + 1 := by rw [← hmap, List.length_map, hlen]
  have hcle : countB ⟨s.toArray⟩ ⟨[c].toArray⟩ ≤ s.length := by
    have := countB_le ⟨[c].toArray⟩ h1 _ ⟨s.toArray⟩ (Nat.le_refl _)
    simpa [ByteArray.size] using this
  have hel : ∀ (k : Nat) (x : List UInt8) (y : List UInt8), y ∈ splitK [c] 0 k x → y.length ≤ x.length := by
    intro k
    induction k with
    | zero => intro x y hy; simp only [splitK, List.mem_singleton] at hy; subst hy; exact Nat.le_refl _
    | succ k ih =>
      intro x y hy
      simp only [splitK] at hy
      split at hy
      · simp only [List.mem_singleton] at hy; subst hy; exact Nat.le_refl _
      · rcases List.mem_cons.1 hy with rfl | hy
        · simp only [List.length_take]; omega
        · have := ih _ _ hy
          simp only [List.length_drop] at this
          omega
  have hnew : ∀ ob : Obj, (w.alloc ob).heap[w.heap.size]? = some ob := fun ob => by show (w.heap.push ob)[w.heap.size]? = _; simp
  have hb : Below w.heap.size w (w.alloc (.cells ((splitB ⟨[c].toArray⟩ 0 (countB ⟨s.toArray⟩ ⟨[c].toArray⟩) ⟨s.toArray⟩).map Value.string).toArray 9)) := (Below.refl _ w).alloc (Nat.le_refl _) _
  refine ⟨_, rfl, ⟨hb, fun _ => Nat.le_refl _⟩, fun b => S b ∨ b = w.heap.size, fun _ h => .inl h, fun b h => ?_, fun b h => ?_, ?_⟩
  · rcases h with h | h
    · exact .inl h
    · exact .inr (by omega)
  · rcases h with h | h
    · exact Nat.lt_of_lt_of_le (hS b h) hb.size
    · subst h; show w.heap.size < (w.heap.push _).size; simp
  refine ⟨some ⟨w.heap.size, 0, none⟩, countB ⟨s.toArray⟩ ⟨[c].toArray⟩ + 1, ?_, by omega, by omega, .inr ⟨w.heap.size, 0, rfl, .inr rfl, fun i y hy => ?_⟩⟩
  · rw [hlen2]
  · have hy' : y.length ≤ s.length := hel _ _ _ (List.mem_of_getElem? hy)
    refine ⟨[.string ⟨y.toArray⟩], rfl, fun j v hj => ?_, rfl, by omega⟩
    have hj0 : j = 0 ∧ v = .string ⟨y.toArray⟩ := by
      cases j with
      | zero => simpa using hj.symm
      | succ j => simp at hj
    obtain ⟨rfl, rfl⟩ := hj0
    rw [← hmap, List.getElem?_map] at hy
    obtain ⟨b, hb1, hb2⟩ := Option.map_eq_some_iff.1 hy
    have e : (⟨y.toArray⟩ : ByteArray) = b := by subst hb2; rfl
    rw [e]
    simp only [World.cell?, hnew]
    simp [Ty.cells, hb1]
theorem c_Join (xs : List (List UInt8)) (sep : List UInt8) (hn : xs.length ≤ 140737488355328) (hl : (Lib.join xs sep).length ≤ 140737488355328) : PC env 37 [⟨.sl .str, xs⟩, ⟨.str, sep⟩] .str (Lib.join xs sep) := by
  intro w S vs hS hT hrep
  obtain ⟨v, r, rfl, _, hv, v2, r2, rfl, _, hv2, hr⟩ := hrep
  simp only [RepAs] at hr
  subst hr
  obtain ⟨rfl, _⟩ := str_rep hv2
  obtain ⟨a, cap, hv, hcap, hcap2, hx⟩ := hv
  injection hv with hv
  subst hv
  cases xs with
  | nil =>
    refine (Kstrings_Join_none a cap ⟨sep.toArray⟩ w).mono ?_
    rintro e w' ⟨rfl, rfl⟩
    exact ⟨_, rfl, post_flat (Below.refl _ _) (fun _ => Nat.le_refl _) hS ⟨rfl, Nat.zero_le _⟩⟩
  | cons x0 xr =>
    rcases hx with hx | ⟨g, o, rfl, hg, hx⟩
    · cases hx
    · let ys : List ByteArray := (x0 :: xr).map fun x => ⟨x.toArray⟩
      have hys : ys.map (·.data.toList) = x0 :: xr := by
        show ((x0 :: xr).map _).map _ = _
        rw [List.map_map]
        exact List.map_id' _
      have hyl : ys.length = (x0 :: xr).length := List.length_map ..
      have hc := Kstrings_Join g o cap ys ⟨sep.toArray⟩ w (fun j x hj => by
        rw [List.getElem?_map] at hj
        obtain ⟨y, hy, rfl⟩ := Option.map_eq_some_iff.1 hj
        obtain ⟨cs, _, hca, hre, _⟩ := hx j y hy
        have hre : cs = [.string ⟨y.toArray⟩] := hre
        subst hre
        have := hca 0 _ rfl
        simpa [Ty.cells] using this) (hS g hg) (by rw [hyl]; exact hn) (by rw [hyl]; exact hcap) (by rw [hys]; exact hl)
      rw [hyl] at hc
      refine hc.mono ?_
      rintro e w' ⟨rfl, hb⟩
      rw [hys]
      exact ⟨_, rfl, post_flat hb (fun h => by first | exact h.elim | cases h) hS ⟨rfl, by show (Lib.join (x0 :: xr) sep).length ≤ _; omega⟩⟩
end Go.Proofs.YtcmolphllladbaaDoor
namespace Go.Proofs.YtcmolphllladbaaDoor
open Go.RowKit Go.Shelf
set_option maxHeartbeats 4000000
set_option maxRecDepth 100000
/-- What a used builder's box holds, in a world. -/
theorem bld_box {c : Ctx} {id : Nat} {p q : PV} {te : Option Nat} (h : BRel c id (.box [p, q] te)) : ∃ g v u e, c.ν id = .pointer (some ⟨g, 0, none⟩) ∧ c.M.O g ∧ ¬ c.M.S g ∧ c.w.heap[g]? = some (.cells #[v, u] e (0, 0)) ∧ PRel c p v ∧ PRel c q u ∧ v.oneCell' = true ∧ u.oneCell' = true ∧ (∀ t, te = some t → e = t) := by
  obtain ⟨he, g, vs, e, h1, h2, h3, h4, h5, h6⟩ := h
  simp only [PRels] at h6
  obtain ⟨v, r, e1, hv, u, r2, rfl, hu, rfl⟩ := h6
  have hvs : vs = #[v, u] := by rw [← Array.toList_inj]; exact e1
  subst hvs
  refine ⟨g, v, u, e, h1, h2, h3, h4, hv, hu, h5 v (by simp), h5 u (by simp), fun t ht => ?_⟩
  obtain ⟨_, cs, fz, h7⟩ := he t ht g (by simp only [h1, blockOf])
  rw [h4] at h7
  injection h7 with h7
  injection h7
theorem look_hd {α : Type} {i : Nat} {b : α} {r : List (Nat × α)} : look i ((i, b) :: r) = some b := by simp [look]
theorem look_sd {α : Type} {a b : α} : look 1000000001 [(1000000000, a), (1000000001, b)] = some b := by
  have h : Nat.beq 1000000001 1000000000 = false := by decide
  simp only [look, h, cond_false]
  simp
theorem h_copyU (bs : List Int) (te : Option Nat) : HC env 52 [.ref 1000000000 0] [(1000000000, .box [.ref 1000000000 0, .lfull 1000000001] (some 70)), (1000000001, .arr (.int .u8) bs te)] (.tup []) [(1000000000, .box [.ref 1000000000 0, .lfull 1000000001] (some 70)), (1000000001, .arr (.int .u8) bs te)] := by
  intro w S ν vs a1 a2 a3 a4 a5 a6
  simp only [PRels] at a6
  obtain ⟨v, r, rfl, hv, rfl⟩ := a6
  obtain ⟨g, v0, u0, e, h1, h2, h3, h4, hp, hq, _⟩ := bld_box (a5.blk 1000000000 _ look_hd)
  dsimp only at h1 h2 h3 h4
  simp only [PRel] at hv hp
  obtain ⟨_, g', e1, rfl⟩ := hv
  obtain ⟨_, g2, e2, rfl⟩ := hp
  rw [h1] at e1 e2
  injection e1 with e1; injection e1 with e1; injection e1 with e1; subst e1
  injection e2 with e2; injection e2 with e2; injection e2 with e2; subst e2
  refine (Any.Builder_copyCheck_used Klays240 KBuilder_X72_240 g w (by simp [World.cell?, h4])).mono ?_
  rintro e w' ⟨rfl, rfl⟩
  refine ⟨_, rfl, Kept.refl _ _, ν, S, fun _ h => h, fun _ h => .inl h, fun _ _ _ => rfl, a5, ?_⟩
  simp only [PRel, PRels]
  exact ⟨[], rfl, rfl⟩
theorem setCell_heap {w : World} {g : Nat} {v u x : Value} {e : TypeId} (h : w.heap[g]? = some (.cells #[v, u] e (0, 0))) : (w.setCell ⟨g, 0, none⟩ x).heap[g]? = some (.cells #[x, u] e (0, 0)) := by
  simp [World.setCell, Array.getElem?_modify, h]
theorem setCell_grown (w : World) (g o : Nat) (x : Value) : GrownD w (w.setCell ⟨g, o, none⟩ x) (some g) :=
  ⟨rfl, rfl, rfl, by simp [World.setCell], fun k _ hk => Below.heap_setCell _ _ _ _ (fun e => hk (by simp [e])), fun _ => Nat.le_refl _⟩
theorem h_copyF : HC env 52 [.ref 1000000000 0] [(1000000000, .box [.nilptr, .nilsl] (some 70))] (.tup []) [(1000000000, .box [.ref 1000000000 0, .nilsl] (some 70))] := by
  intro w S ν vs a1 a2 a3 a4 a5 a6
  simp only [PRels] at a6
  obtain ⟨v, r, rfl, hv, rfl⟩ := a6
  obtain ⟨g, v0, u0, e, h1, h2, h3, h4, hp, hq, _, ho, ht⟩ := bld_box (a5.blk 1000000000 _ look_hd)
  dsimp only at h1 h2 h3 h4
  obtain rfl := ht 70 rfl
  simp only [PRel] at hv hp hq
  obtain ⟨_, g', e1, rfl⟩ := hv
  rw [h1] at e1
  injection e1 with e1; injection e1 with e1; injection e1 with e1; subst e1
  subst hp; subst hq
  refine (Any.Builder_copyCheck_fresh Klays240 KBuilder_X72_240 g w (by simp [World.cell?, h4]) (by simp [World.shape?, h4]; rfl) (by simp [World.frozen?, h4])).mono ?_
  rintro e w' ⟨rfl, rfl⟩
  have hX : foot ν [(1000000000, Blk.box [.nilptr, .nilsl] (some 70))] g := ⟨1000000000, _, look_hd, by simp only [h1, blockOf]⟩
  have hk : Kept (foot ν [(1000000000, Blk.box [.nilptr, .nilsl] (some 70))]) w (w.setCell ⟨g, 0, none⟩ (.pointer (some ⟨g, 0, none⟩))) := (Kept.refl _ _).grown (setCell_grown w g 0 _) (fun k hk => .inr (by injection hk with hk; rw [← hk]; exact hX))
  refine ⟨_, rfl, hk, ν, S, fun _ h => h, fun _ h => .inl h, fun _ _ _ => rfl, ⟨fun b hb => Nat.lt_of_lt_of_le (a5.lt b hb) hk.size, fun b hb => a5.size b (Nat.le_trans hk.size hb), fun id b hb => ?_, fun i j b c hij hi hj => ?_⟩, ?_⟩
  · simp only [look] at hb
    cases hn : Nat.beq id 1000000000 with
    | false => simp [hn] at hb
    | true =>
      have := Nat.eq_of_beq_eq_true hn
      subst this
      simp only [hn, cond_true, Option.some.injEq] at hb
      subst hb
      refine ⟨fun t ht g' hg' => ?_, g, #[.pointer (some ⟨g, 0, none⟩), .slice none 0 0], 70, h1, h2, h3, setCell_heap h4, ?_, ?_⟩
      · injection ht with ht; subst ht
        simp only [h1, blockOf, Option.some.injEq] at hg'
        subst hg'
        exact ⟨by simp only [h1, offV], _, _, setCell_heap h4⟩
      · intro u hu
        simp at hu
        rcases hu with rfl | rfl <;> rfl
      · simp only [PRels, PRel]
        exact ⟨_, _, rfl, ⟨⟨_, look_hd⟩, g, h1, rfl⟩, _, _, rfl, rfl, rfl⟩
  · simp only [look] at hi hj
    cases hn : Nat.beq i 1000000000 with
    | false => simp [hn] at hi
    | true =>
      cases hn2 : Nat.beq j 1000000000 with
      | false => simp [hn2] at hj
      | true => exact absurd ((Nat.eq_of_beq_eq_true hn).trans (Nat.eq_of_beq_eq_true hn2).symm) hij
  · simp only [PRel, PRels]
    exact ⟨[], rfl, rfl⟩
def toI (s : Str) : List Int := s.map fun c : UInt8 => (c.toNat : Int)
def toS (l : List Int) : Str := l.map fun n : Int => UInt8.ofNat n.toNat
theorem toS_toI (s : Str) : toS (toI s) = s := by
  unfold toS toI
  rw [List.map_map]
  conv => rhs; rw [← List.map_id s]
  apply List.map_congr_left
  intro c _
  simp
theorem toI_app (s t : Str) : toI (s ++ t) = toI s ++ toI t := List.map_append ..
theorem h_writeF (s : Str) (hs : s.length ≤ 1000000000) : HC env 34 [.ref 1000000000 0, .iv .str s] [(1000000000, .box [.nilptr, .nilsl] (some 70))] (.tup [.iv (.int .i64) (s.length : Int), .any]) [(1000000000, .box [.ref 1000000000 0, .lfull 14] (some 70)), (14, .arr (.int .u8) (toI s) (some 5))] := by
  refine HC.of_PW (m := 2000) env_ok fn_34 rfl rfl rfl rfl (by kernel_rfl) ?_; intro hx hbl; simp only [Tryd.f34]; simp only [go_sem, Nat.reduceBEq, ↓reduceIte, ↓reduceDIte, Nat.reduceAdd, Nat.reduceSub, Nat.reduceMul, Nat.reduceLeDiff, ← Bool.decide_and, ← Bool.decide_or, ← decide_not, Int.reduceLT, Int.reduceLE, Int.reduceToNat, Int.reduceNeg]
  refine ⟨_, _, h_copyF, rfl, ?_⟩
  simp only [go_sem, Nat.reduceBEq, ↓reduceIte, ↓reduceDIte, Nat.reduceAdd, Nat.reduceSub, Nat.reduceMul, Nat.reduceLeDiff, ← Bool.decide_and, ← Bool.decide_or, ← decide_not, Int.reduceLT, Int.reduceLE, Int.reduceToNat, Int.reduceNeg]
  intro _
  exact ⟨by rw [List.length_map]; omega, rfl⟩
theorem h_writeU (bs : List Int) (s : Str) (hs : bs.length + s.length ≤ 1000000000) : HC env 34 [.ref 1000000000 0, .iv .str s] [(1000000000, .box [.ref 1000000000 0, .lfull 1000000001] (some 70)), (1000000001, .arr (.int .u8) bs (some 5))] (.tup [.iv (.int .i64) (s.length : Int), .any]) [(1000000000, .box [.ref 1000000000 0, .lfull 14] (some 70)), (14, .arr (.int .u8) (bs ++ toI s) (some 5))] := by
  refine HC.of_PW (m := 2000) env_ok fn_34 rfl rfl rfl rfl (by kernel_rfl) ?_; intro hx hbl; simp only [Tryd.f34]; simp (config := {maxSteps := 4000000}) only [go_sem, Nat.reduceBEq, ↓reduceIte, ↓reduceDIte, Nat.reduceAdd, Nat.reduceSub, Nat.reduceMul, Nat.reduceLeDiff, ← Bool.decide_and, ← Bool.decide_or, ← decide_not, Int.reduceLT, Int.reduceLE, Int.reduceToNat, Int.reduceNeg]
  refine ⟨_, _, h_copyU _ _, rfl, ?_⟩
  simp (config := {maxSteps := 4000000}) only [go_sem, Nat.reduceBEq, ↓reduceIte, ↓reduceDIte, Nat.reduceAdd, Nat.reduceSub, Nat.reduceMul, Nat.reduceLeDiff, ← Bool.decide_and, ← Bool.decide_or, ← decide_not, Int.reduceLT, Int.reduceLE, Int.reduceToNat, Int.reduceNeg]
  intro _
  exact ⟨by rw [List.length_map]; omega, rfl⟩
/-- String of a builder that holds a byte: the model freezes the bytes in the buffer. -/
theorem str_walk (b g cap : Nat) (p : Value) (cur : Array Value) (l : Str) (w : World) (h0 : l ≠ []) (hbk : w.heap[b]? = some (.cells #[p, .slice (some ⟨g, 0, none⟩) l.length cap] 70 (0, 0))) (hg : w.heap[g]? = some (.cells cur 5 (0, 0))) (hlc : l.length ≤ cap) (hcs : l.length ≤ cur.size) (h63 : l.length ≤ 9223372036854775807)
    (hcell : ∀ j x, l[j]? = some x → w.cell? ⟨g, j, none⟩ = some (.int .u8 x.toNat)) :
    Calls Tryd.prog 38 #[.pointer (some ⟨b, 0, none⟩)] w fun e w' => e = .returned (.string ⟨l.toArray⟩) ∧ w' = w.drew.freeze ⟨g, 0, none⟩ l.length := by
  have hl0 : l.length ≠ 0 := by simpa using h0
  have c1 : w.drew.cell? ⟨b, 1, none⟩ = some (.slice (some ⟨g, 0, none⟩) l.length cap) := by
    have : w.drew.heap[b]? = some (.cells #[p, .slice (some ⟨g, 0, none⟩) l.length cap] 70 (0, 0)) := hbk
    rw [Lib.cell_of_heap this]; rfl
  have hSD : (Builtin.unsafeSliceData_ #[56] 91 #[.slice (some ⟨g, 0, none⟩) l.length cap]).run Tryd.prog w.drew = .ok (.pointer (some ⟨g, 0, none⟩)) w.drew :=
    Lib.run_unsafeSliceData_row _ _ _ _ _ _ (by omega)
  have hUS : (Builtin.unsafeString_ #[91, 3] 9 #[.pointer (some ⟨g, 0, none⟩), .int .i64 l.length]).run Tryd.prog w.drew = .ok (.string ⟨l.toArray⟩) (w.drew.freeze ⟨g, 0, none⟩ l.length) := by
    refine Lib.run_unsafeString_row w.drew 91 3 9 5 (by kernel_rfl) (by kernel_rfl) g cur.size (by have hg' : w.drew.heap[g]? = some (.cells cur 5 (0, 0)) := hg; simp [World.shape?, hg']) l h0 hcs h63 ?_
    intro j x hx
    have := hcell j x hx
    rw [addr_add, Nat.zero_add]
    exact this
  go_enter Tryd.func38, Tryd.ntmps38
  go_wp2
  go_region
  all_goals (go_wp2; go_ret; exact ⟨rfl, rfl⟩)
theorem freeze_grown (w : World) (p : Addr) (n : Nat) : GrownD w (w.drew.freeze p n) (some p.block) := by
  unfold World.freeze
  split
  · exact ⟨rfl, rfl, rfl, Nat.le_refl _, fun _ _ _ => rfl, fun _ => Nat.le_succ _⟩
  · refine ⟨rfl, rfl, rfl, Nat.le_of_eq (by simp only [Array.size_modify]; rfl), fun k _ hk => ?_, fun _ => Nat.le_succ _⟩
    simp only [Array.getElem?_modify]
    rw [if_neg (fun e => hk (by rw [e]))]
    rfl
theorem postH_str {w w' : World} {S : Nat → Prop} {ν : Nat → Value} {bl : List (Nat × Blk)} {s : Str} {v : Value} {b : Nat} {x y : Value} (hW : WRel ⟨[], bl⟩ ν w ⟨S, own0 w ⟨S, foot ν bl, ν, []⟩⟩) (hk : Kept (foot ν bl) w w') (h1 : ν 1000000000 = .pointer (some ⟨b, 0, none⟩)) (h2 : own0 w ⟨S, foot ν bl, ν, []⟩ b) (h3 : ¬ S b) (h4 : w'.heap[b]? = some (.cells #[x, y] 70 (0, 0))) (hx : x.oneCell' = true) (hy : y.oneCell' = true) (hv : v = .string ⟨s.toArray⟩) (hl : s.length ≤ 9223372036854775807) : PostH w ⟨S, foot ν bl, ν, []⟩ (.iv .str s) [(1000000000, .box [.any, .any] (some 70))] v w' := by
  refine ⟨hk, ν, S, fun _ h => h, fun _ h => .inl h, fun _ _ _ => rfl, ⟨fun b hb => Nat.lt_of_lt_of_le (hW.lt b hb) hk.size, fun b hb => hW.size b (Nat.le_trans hk.size hb), fun id b hb => ?_, fun i j b c hij hi hj => ?_⟩, ?_⟩
  · simp only [look] at hb
    cases hn : Nat.beq id 1000000000 with
    | false => simp [hn] at hb
    | true =>
      have := Nat.eq_of_beq_eq_true hn
      subst this
      simp only [hn, cond_true, Option.some.injEq] at hb
      subst hb
      refine ⟨fun t ht g' hg' => ?_, _, #[x, y], 70, h1, h2, h3, h4, ?_, ?_⟩
      · injection ht with ht; subst ht
        simp only [h1, blockOf, Option.some.injEq] at hg'
        subst hg'
        exact ⟨by simp only [h1, offV], _, _, h4⟩
      · intro u hu
        simp at hu
        rcases hu with rfl | rfl <;> assumption
      · simp only [PRels, PRel]
        exact ⟨_, _, rfl, trivial, _, _, rfl, trivial, rfl⟩
  · simp only [look] at hi hj
    cases hn : Nat.beq i 1000000000 with
    | false => simp [hn] at hi
    | true =>
      cases hn2 : Nat.beq j 1000000000 with
      | false => simp [hn2] at hj
      | true => exact absurd ((Nat.eq_of_beq_eq_true hn).trans (Nat.eq_of_beq_eq_true hn2).symm) hij
  · simp only [PRel]
    subst hv
    exact ⟨rfl, rfl, hl⟩
theorem below_kept {X : Nat → Prop} {w w' : World} (h : Below w.heap.size w w') : Kept X w w' := ⟨h.os, h.tape, h.output, h.size, fun k hk _ => h.block k hk, fun hd => hd.elim⟩
theorem toS_at {bs : List Int} {j : Nat} {x : UInt8} (h : (toS bs)[j]? = some x) (hb : ∀ y, y ∈ bs → 0 ≤ y ∧ y ≤ 255) : ∃ y, bs[j]? = some y ∧ y = (x.toNat : Int) := by
  unfold toS at h
  rw [List.getElem?_map] at h
  cases hy : bs[j]? with
  | none => rw [hy] at h; cases h
  | some y =>
    rw [hy] at h
    injection h with h
    have := hb y (List.mem_of_getElem? hy)
    refine ⟨y, rfl, ?_⟩
    rw [← h]
    simp only [UInt8.toNat_ofNat']
    omega
theorem h_writeV (bs : List Int) (s : Str) (hs : bs.length + s.length ≤ 1000000000) : HC env 34 [.ref 1000000000 0, .iv .str s] [(1000000000, .box [.ref 1000000000 0, .lfull 1000000001] (some 70)), (1000000001, .arr (.int .u8) bs (some 5))] (.tup [.iv (.int .i64) (s.length : Int), .any]) [(1000000000, .box [.ref 1000000000 0, .lfull 15] (some 70)), (15, .arr (.int .u8) (bs ++ toI s) (some 5))] := (h_writeU bs s hs).ren [(14, 15), (15, 14)] rfl
theorem h_strU (bs : List Int) : HC env 38 [.ref 1000000000 0] [(1000000000, .box [.ref 1000000000 0, .lfull 1000000001] (some 70)), (1000000001, .arr (.int .u8) bs (some 5))] (.iv .str (toS bs)) [(1000000000, .box [.any, .any] (some 70))] := by
  intro w S ν vs a1 a2 a3 a4 a5 a6
  simp only [PRels] at a6
  obtain ⟨v, r, rfl, hv, rfl⟩ := a6
  obtain ⟨b, v0, u0, e, h1, h2, h3, h4, hp, hq, ho1, ho2, ht⟩ := bld_box (a5.blk 1000000000 _ look_hd)
  dsimp only at h1 h2 h3 h4
  have hbl0 : b < w.heap.size := (Array.getElem?_eq_some_iff.mp h4).1
  obtain rfl := ht 70 rfl
  simp only [PRel] at hv hq
  obtain ⟨_, g', e1, rfl⟩ := hv
  rw [h1] at e1
  injection e1 with e1; injection e1 with e1; injection e1 with e1; subst e1
  obtain ⟨_, hu, an, am, ac, _⟩ := hq
  obtain ⟨hty, hoT, hown⟩ := a5.blk 1000000001 (.arr (.int .u8) bs (some 5)) look_sd
  dsimp only at hu hown hty
  rw [← hu] at hown hty
  have hbl := hown
  obtain ⟨u, hu', hlen, hcase⟩ := hown
  injection hu' with hu'
  subst hu'
  have hrange : ∀ y, y ∈ bs → 0 ≤ y ∧ y ≤ 255 := fun y hy => u8_of ((RepC_ok _ _ _ _ _ hbl).2 y hy)
  have hX : ∀ g, blockOf u0 = some g → foot ν [(1000000000, Blk.box [.ref 1000000000 0, .lfull 1000000001] (some 70)), (1000000001, Blk.arr (.int .u8) bs (some 5))] g := fun g hg => ⟨1000000001, _, look_sd, by rw [← hu]; exact hg⟩
  have hnil : (toS []) = [] := rfl
  rcases hcase with ⟨rfl, rfl⟩ | ⟨g, o, cap, cur, e, rfl, g1, g2, g3, g4, g5, g6, g7⟩
  · refine (Any.Builder_String_nil Klays169 KBuilder_Extra_169 w.heap.size b v0 w h4).mono ?_
    rintro e w' ⟨rfl, hb⟩
    exact ⟨_, rfl, postH_str a5 (below_kept hb) h1 h2 h3 ((hb.block b hbl0).trans h4) ho1 ho2 rfl (by simp [hnil])⟩
  · obtain ⟨ho, cs, fz, hc5⟩ := hty 5 rfl g rfl
    simp only [offV] at ho
    subst ho
    rw [g5] at hc5
    injection hc5 with hc5
    injection hc5 with _ hc5
    subst hc5
    cases bs with
    | nil =>
      by_cases hc0 : cap = 0
      · subst hc0
        refine (Any.Builder_String_noroom Klays169 KBuilder_Extra_169 w.heap.size b g v0 cur w (Nat.le_refl _) h4 g5).mono ?_
        rintro e w' ⟨rfl, hb⟩
        exact ⟨_, rfl, postH_str a5 (below_kept hb) h1 h2 h3 ((hb.block b hbl0).trans h4) ho1 ho2 rfl (by simp [hnil])⟩
      · refine (Any.Builder_String_room Klays169 KBuilder_Extra_169 w.heap.size b g cap v0 w hc0 h4).mono ?_
        rintro e w' ⟨rfl, hb⟩
        exact ⟨_, rfl, postH_str a5 (below_kept hb) h1 h2 h3 ((hb.block b hbl0).trans h4) ho1 ho2 rfl (by simp [hnil])⟩
    | cons y bs' =>
      have hl : (toS (y :: bs')).length = (y :: bs').length := List.length_map ..
      rw [← hl] at h4 g1 hlen
      have hc1 : (Ty.int .u8).cells = 1 := rfl
      rw [hc1, Nat.mul_one] at g6
      refine (str_walk b g cap v0 cur (toS (y :: bs')) w (by simp [toS]) h4 g5 g1 (by omega) hlen fun j x hx => ?_).mono ?_
      · obtain ⟨z, hz, hzx⟩ := toS_at hx hrange
        obtain ⟨cs, c1, c2, c3, _⟩ := g7 j z hz
        subst c3
        have := c2 0 _ rfl
        rw [hzx] at this
        simpa [Ty.cells] using this
      · rintro e w' ⟨rfl, rfl⟩
        have hbg : b ≠ g := fun e => a5.ne 1000000000 1000000001 _ _ (by omega) look_hd look_sd b (by simp only [h1, blockOf]) (by rw [← hu, e]; rfl)
        refine ⟨_, rfl, postH_str a5 ((Kept.refl _ _).grown (freeze_grown w ⟨g, 0, none⟩ _) fun k hk => .inr (by injection hk with hk; rw [← hk]; exact hX g rfl)) h1 h2 h3 ?_ ho1 ho2 rfl hlen⟩
        rw [hl] at h4
        refine Eq.trans ?_ h4
        exact (freeze_grown w ⟨g, 0, none⟩ _).block b hbl0 (fun e => hbg (by injection e with e))
theorem h_strF : HC env 38 [.ref 1000000000 0] [(1000000000, .box [.nilptr, .nilsl] (some 70))] (.iv .str ([] : Str)) [(1000000000, .box [.any, .any] (some 70))] := by
  intro w S ν vs a1 a2 a3 a4 a5 a6
  simp only [PRels] at a6
  obtain ⟨v, r, rfl, hv, rfl⟩ := a6
  obtain ⟨b, v0, u0, e, h1, h2, h3, h4, hp, hq, ho1, ho2, ht⟩ := bld_box (a5.blk 1000000000 _ look_hd)
  dsimp only at h1 h2 h3 h4
  have hbl0 : b < w.heap.size := (Array.getElem?_eq_some_iff.mp h4).1
  obtain rfl := ht 70 rfl
  simp only [PRel] at hv hq
  obtain ⟨_, g', e1, rfl⟩ := hv
  rw [h1] at e1
  injection e1 with e1; injection e1 with e1; injection e1 with e1; subst e1
  subst hq
  refine (Any.Builder_String_nil Klays169 KBuilder_Extra_169 w.heap.size b v0 w h4).mono ?_
  rintro e w' ⟨rfl, hb⟩
  exact ⟨_, rfl, postH_str a5 (below_kept hb) h1 h2 h3 ((hb.block b hbl0).trans h4) ho1 ho2 rfl (by simp)⟩
end Go.Proofs.YtcmolphllladbaaDoor
namespace Go.Proofs.YtcmolphllladbaaDoor
set_option maxHeartbeats 4000000
set_option maxRecDepth 100000
def clsE (c : Int) : Int := if 97 ≤ c ∧ c ≤ 122 then 1 else if 65 ≤ c ∧ c ≤ 90 then 2 else if 48 ≤ c ∧ c ≤ 57 then 3 else 0
theorem c_class (c : Int) : PC env 63 [⟨.int .u8, c⟩] (.int .i64) (clsE c) := by
  refine PC.of_PW (m := 2000) env_ok fn_63 rfl rfl rfl rfl (by kernel_rfl) ?_; intro hx; simp only [Tryd.f63]; simp only [go_sem, Nat.reduceBEq, ↓reduceIte, ↓reduceDIte, Nat.reduceAdd, Nat.reduceSub, Nat.reduceMul, Nat.reduceLeDiff, ← Bool.decide_and, ← Bool.decide_or, ← decide_not, Int.reduceLT, Int.reduceLE, Int.reduceToNat, Int.reduceNeg]
  unfold clsE
  repeat' (first | (with_reducible intro _) | (with_reducible apply And.intro))
  all_goals (split <;> first | rfl | omega | (split <;> first | rfl | omega | (split <;> first | rfl | omega)))
theorem cls_low (u : UInt8) : (clsE u.toNat = 1) ↔ low u = true := by
  unfold clsE low
  rw [decide_eq_true_eq]
  split
  · rename_i h; exact ⟨fun _ => by omega, fun _ => rfl⟩
  · rename_i h; split
    · exact ⟨fun h => by simp at h, fun h2 => by omega⟩
    · split
      · exact ⟨fun h => by simp at h, fun h2 => by omega⟩
      · exact ⟨fun h => by simp at h, fun h2 => by omega⟩
theorem cls_aln (u : UInt8) : (clsE u.toNat = 0) ↔ aln u = false := by
  unfold clsE aln
  rw [decide_eq_false_iff_not]
  split
  · rename_i h; exact ⟨fun h => by simp at h, fun h2 => absurd (by omega) h2⟩
  · split
    · rename_i h; exact ⟨fun h => by simp at h, fun h2 => absurd (by omega) h2⟩
    · split
      · rename_i h; exact ⟨fun h => by simp at h, fun h2 => absurd (by omega) h2⟩
      · exact ⟨fun _ => by omega, fun _ => rfl⟩
theorem c_allSmall (s : Str) : PC env 46 [⟨.str, s⟩] .bool (s.all low) := by
  refine PC.of_PW (m := 2000) env_ok fn_46 rfl rfl rfl rfl (by kernel_rfl) ?_; intro hx; simp only [Tryd.f46]; simp only [go_sem, Nat.reduceBEq, ↓reduceIte, ↓reduceDIte, Nat.reduceAdd, Nat.reduceSub, Nat.reduceMul, Nat.reduceLeDiff, ← Bool.decide_and, ← Bool.decide_or, ← decide_not, Int.reduceLT, Int.reduceLE, Int.reduceToNat, Int.reduceNeg]
  have hlen : s.length ≤ 9223372036854775807 := hx.1
  refine Walks.loopA (X := Nat) (fun (i : Nat) => [(6, .iv (.int .i64) (i : Int)), (3, .any)]) (fun (i : Nat) => []) (fun (i : Nat) => i ≤ s.length ∧ (s.take i).all low = true) (fun (i : Nat) => s.length - i) 0 ?_; intro b1 b2 hb1 hb2; simp (config := {maxSteps := 4000000}) only [go_sem, Nat.reduceBEq, ↓reduceIte, ↓reduceDIte, Nat.reduceAdd, Nat.reduceSub, Nat.reduceMul, Nat.reduceLeDiff, ← Bool.decide_and, ← Bool.decide_or, ← decide_not, Int.reduceLT, Int.reduceLE, Int.reduceToNat, Int.reduceNeg] at hb1 hb2; subst hb1; subst hb2; refine ⟨(by refine ⟨?_, ?_, rfl, rfl⟩ <;> repeat' (first | exact trivial | exact Or.inl rfl | exact Or.inr rfl | (refine And.intro (Or.inl rfl) ?_) | (refine And.intro (Or.inr (Or.inl rfl)) ?_) | (refine And.intro (Or.inr (Or.inr (Or.inr ⟨rfl, rfl⟩))) ?_) | (refine And.intro (Or.inr (Or.inr (Or.inl ⟨rfl, rfl, trivial⟩))) ?_) | exact ⟨(by show (_ : Nat) < 1000000000; omega), rfl, rfl⟩ | rfl | (refine And.intro (Or.inl ?_) ?_) | (refine And.intro ?_ ?_))), ?_, ?_⟩
  · exact ⟨Nat.zero_le _, rfl⟩
  intro i ⟨hi, hb⟩ back
  refine PW_sound env_ok ⟨_, fn_46, rfl⟩ 2000 _ _ (by kernel_rfl) ?_; simp only [go_sem, Nat.reduceBEq, ↓reduceIte, ↓reduceDIte, Nat.reduceAdd, Nat.reduceSub, Nat.reduceMul, Nat.reduceLeDiff, ← Bool.decide_and, ← Bool.decide_or, ← decide_not, Int.reduceLT, Int.reduceLE, Int.reduceToNat, Int.reduceNeg]
  refine ⟨fun h => ?_, fun h => ?_⟩
  · obtain ⟨x, hxi⟩ : ∃ x, s[i]? = some x := get_of_lt (by omega)
    refine ⟨Int.natCast_nonneg _, _, ⟨x, hxi, rfl⟩, _, c_class x.toNat, fun _ => ⟨fun g => ?_, fun g => ?_⟩⟩
    · rw [all_no hxi (by cases hl : low x with | false => rfl | true => exact absurd ((cls_low x).2 hl) g)]
    · exact ⟨i64_ok (by omega) (by omega), back _ (i + 1) (by refine ⟨?_, ?_, rfl, rfl⟩ <;> repeat' (first | exact trivial | exact Or.inl rfl | exact Or.inr rfl | (refine And.intro (Or.inl rfl) ?_) | (refine And.intro (Or.inr (Or.inl rfl)) ?_) | (refine And.intro (Or.inr (Or.inr (Or.inr ⟨rfl, rfl⟩))) ?_) | (refine And.intro (Or.inr (Or.inr (Or.inl ⟨rfl, rfl, trivial⟩))) ?_) | exact ⟨(by show (_ : Nat) < 1000000000; omega), rfl, rfl⟩ | rfl | (refine And.intro (Or.inl ?_) ?_) | (refine And.intro ?_ ?_))) ⟨by omega, by rw [all_step hxi, hb, (cls_low x).1 (by omega)]; rfl⟩ (by omega)⟩
  · rw [List.take_of_length_le (by omega)] at hb
    rw [hb]
theorem c_allKnown (s : Str) : PC env 48 [⟨.str, s⟩] .bool (s.all aln) := by
  refine PC.of_PW (m := 2000) env_ok fn_48 rfl rfl rfl rfl (by kernel_rfl) ?_; intro hx; simp only [Tryd.f48]; simp only [go_sem, Nat.reduceBEq, ↓reduceIte, ↓reduceDIte, Nat.reduceAdd, Nat.reduceSub, Nat.reduceMul, Nat.reduceLeDiff, ← Bool.decide_and, ← Bool.decide_or, ← decide_not, Int.reduceLT, Int.reduceLE, Int.reduceToNat, Int.reduceNeg]
  have hlen : s.length ≤ 9223372036854775807 := hx.1
  refine Walks.loopA (X := Nat) (fun (i : Nat) => [(6, .iv (.int .i64) (i : Int)), (3, .any)]) (fun (i : Nat) => []) (fun (i : Nat) => i ≤ s.length ∧ (s.take i).all aln = true) (fun (i : Nat) => s.length - i) 0 ?_; intro b1 b2 hb1 hb2; simp (config := {maxSteps := 4000000}) only [go_sem, Nat.reduceBEq, ↓reduceIte, ↓reduceDIte, Nat.reduceAdd, Nat.reduceSub, Nat.reduceMul, Nat.reduceLeDiff, ← Bool.decide_and, ← Bool.decide_or, ← decide_not, Int.reduceLT, Int.reduceLE, Int.reduceToNat, Int.reduceNeg] at hb1 hb2; subst hb1; subst hb2; refine ⟨(by refine ⟨?_, ?_, rfl, rfl⟩ <;> repeat' (first | exact trivial | exact Or.inl rfl | exact Or.inr rfl | (refine And.intro (Or.inl rfl) ?_) | (refine And.intro (Or.inr (Or.inl rfl)) ?_) | (refine And.intro (Or.inr (Or.inr (Or.inr ⟨rfl, rfl⟩))) ?_) | (refine And.intro (Or.inr (Or.inr (Or.inl ⟨rfl, rfl, trivial⟩))) ?_) | exact ⟨(by show (_ : Nat) < 1000000000; omega), rfl, rfl⟩ | rfl | (refine And.intro (Or.inl ?_) ?_) | (refine And.intro ?_ ?_))), ?_, ?_⟩
  · exact ⟨Nat.zero_le _, rfl⟩
  intro i ⟨hi, hb⟩ back
  refine PW_sound env_ok ⟨_, fn_48, rfl⟩ 2000 _ _ (by kernel_rfl) ?_; simp only [go_sem, Nat.reduceBEq, ↓reduceIte, ↓reduceDIte, Nat.reduceAdd, Nat.reduceSub, Nat.reduceMul, Nat.reduceLeDiff, ← Bool.decide_and, ← Bool.decide_or, ← decide_not, Int.reduceLT, Int.reduceLE, Int.reduceToNat, Int.reduceNeg]
  refine ⟨fun h => ?_, fun h => ?_⟩
  · obtain ⟨x, hxi⟩ : ∃ x, s[i]? = some x := get_of_lt (by omega)
    refine ⟨Int.natCast_nonneg _, _, ⟨x, hxi, rfl⟩, _, c_class x.toNat, fun _ => ⟨fun g => ?_, fun g => ?_⟩⟩
    · rw [all_no hxi ((cls_aln x).1 g)]
    · exact ⟨i64_ok (by omega) (by omega), back _ (i + 1) (by refine ⟨?_, ?_, rfl, rfl⟩ <;> repeat' (first | exact trivial | exact Or.inl rfl | exact Or.inr rfl | (refine And.intro (Or.inl rfl) ?_) | (refine And.intro (Or.inr (Or.inl rfl)) ?_) | (refine And.intro (Or.inr (Or.inr (Or.inr ⟨rfl, rfl⟩))) ?_) | (refine And.intro (Or.inr (Or.inr (Or.inl ⟨rfl, rfl, trivial⟩))) ?_) | exact ⟨(by show (_ : Nat) < 1000000000; omega), rfl, rfl⟩ | rfl | (refine And.intro (Or.inl ?_) ?_) | (refine And.intro ?_ ?_))) ⟨by omega, by rw [all_step hxi, hb]; cases hl : aln x with | true => rfl | false => exact absurd ((cls_aln x).2 hl) g⟩ (by omega)⟩
  · rw [List.take_of_length_le (by omega)] at hb
    rw [hb]
theorem c_right (n : Int) (r : Rl) : PC env 31 [⟨.int .i64, n⟩, ⟨RuleT, r⟩] .bool (rightR n r) := by
  obtain ⟨f, t, i, o, c⟩ := r
  refine PC.of_PW (m := 2000) env_ok fn_31 rfl rfl rfl rfl (by kernel_rfl) ?_; intro hx; simp only [Tryd.f31]; simp only [go_sem, Nat.reduceBEq, ↓reduceIte, ↓reduceDIte, Nat.reduceAdd, Nat.reduceSub, Nat.reduceMul, Nat.reduceLeDiff, ← Bool.decide_and, ← Bool.decide_or, ← decide_not, Int.reduceLT, Int.reduceLE, Int.reduceToNat, Int.reduceNeg]
  have d3 := (c_allSmall i).dec
  have d4 := (c_allKnown o).dec
  have hR : rightR n (f, t, i, o, c) = (inB f 0 (n - 1) && inB t 0 (n - 1) && decide (i.length ≤ 4) && i.all low && decide (o.length ≤ 4) && o.all aln && inB c 0 1000) := rfl
  rw [hR]
  generalize i.all low = b3 at *
  generalize o.all aln = b4 at *
  repeat' (first | (with_reducible intro _) | (with_reducible apply And.intro) | (with_reducible refine ⟨_, d3, ?_⟩; try simp only [go_sem, Nat.reduceBEq, ↓reduceIte, ↓reduceDIte, Nat.reduceAdd, Nat.reduceSub, Nat.reduceMul, Nat.reduceLeDiff, ← Bool.decide_and, ← Bool.decide_or, ← decide_not, Int.reduceLT, Int.reduceLE, Int.reduceToNat, Int.reduceNeg]) | (with_reducible refine ⟨_, d4, ?_⟩; try simp only [go_sem, Nat.reduceBEq, ↓reduceIte, ↓reduceDIte, Nat.reduceAdd, Nat.reduceSub, Nat.reduceMul, Nat.reduceLeDiff, ← Bool.decide_and, ← Bool.decide_or, ← decide_not, Int.reduceLT, Int.reduceLE, Int.reduceToNat, Int.reduceNeg]) | fail)
  all_goals first | omega | (simp_all [inB]; try omega)
def ixL : List Rl → Rl → Nat → Int
  | [], _, _ => -1
  | x :: l, r, i => if r = x then (i : Int) else ixL l r (i + 1)
theorem ixL_mem {r : Rl} : ∀ {l : List Rl} {i : Nat}, (0 ≤ ixL l r i) ↔ r ∈ l
  | [], i => by simp [ixL]
  | x :: l, i => by
    unfold ixL
    split
    · rename_i h; subst h; simp
    · rename_i h; rw [ixL_mem]; simp [h]
theorem c_Index (l : List Rl) (r : Rl) : PC env 51 [⟨.sl RuleT, l⟩, ⟨RuleT, r⟩] (.int .i64) (ixL l r 0) := by
  refine PC.of_PW (m := 2000) env_ok fn_51 rfl rfl rfl rfl (by kernel_rfl) ?_; intro hx; simp only [Tryd.f51]; simp only [go_sem, Nat.reduceBEq, ↓reduceIte, ↓reduceDIte, Nat.reduceAdd, Nat.reduceSub, Nat.reduceMul, Nat.reduceLeDiff, ← Bool.decide_and, ← Bool.decide_or, ← decide_not, Int.reduceLT, Int.reduceLE, Int.reduceToNat, Int.reduceNeg]
  have hlen : l.length ≤ 9223372036854775807 := hx.1.1
  obtain ⟨T, hT⟩ : ∃ T, T = ixL l r 0 := ⟨_, rfl⟩
  rw [← hT]
  refine Walks.loopA (X := Nat) (fun (i : Nat) => [(8, .iv (.int .i64) (i : Int)), (5, .any)]) (fun (i : Nat) => []) (fun (i : Nat) => i ≤ l.length ∧ ixL (l.drop i) r i = T) (fun (i : Nat) => l.length - i) 0 ?_; intro b1 b2 hb1 hb2; simp (config := {maxSteps := 4000000}) only [go_sem, Nat.reduceBEq, ↓reduceIte, ↓reduceDIte, Nat.reduceAdd, Nat.reduceSub, Nat.reduceMul, Nat.reduceLeDiff, ← Bool.decide_and, ← Bool.decide_or, ← decide_not, Int.reduceLT, Int.reduceLE, Int.reduceToNat, Int.reduceNeg] at hb1 hb2; subst hb1; subst hb2; refine ⟨(by refine ⟨?_, ?_, rfl, rfl⟩ <;> repeat' (first | exact trivial | exact Or.inl rfl | exact Or.inr rfl | (refine And.intro (Or.inl rfl) ?_) | (refine And.intro (Or.inr (Or.inl rfl)) ?_) | (refine And.intro (Or.inr (Or.inr (Or.inr ⟨rfl, rfl⟩))) ?_) | (refine And.intro (Or.inr (Or.inr (Or.inl ⟨rfl, rfl, trivial⟩))) ?_) | exact ⟨(by show (_ : Nat) < 1000000000; omega), rfl, rfl⟩ | rfl | (refine And.intro (Or.inl ?_) ?_) | (refine And.intro ?_ ?_))), ?_, ?_⟩
  · exact ⟨Nat.zero_le _, hT.symm⟩
  clear hT
  intro i ⟨hi, hT⟩ back
  refine PW_sound env_ok ⟨_, fn_51, rfl⟩ 2000 _ _ (by kernel_rfl) ?_; simp only [go_sem, Nat.reduceBEq, ↓reduceIte, ↓reduceDIte, Nat.reduceAdd, Nat.reduceSub, Nat.reduceMul, Nat.reduceLeDiff, ← Bool.decide_and, ← Bool.decide_or, ← decide_not, Int.reduceLT, Int.reduceLE, Int.reduceToNat, Int.reduceNeg]
  refine ⟨fun h => ?_, fun h => ?_⟩
  · obtain ⟨x, hxi⟩ : ∃ x, l[i]? = some x := get_of_lt (by omega)
    rw [drop_cons hxi, ixL] at hT
    refine ⟨Int.natCast_nonneg _, x, hxi, fun g => ?_, fun g => ?_⟩
    · rw [if_pos (by obtain ⟨e1, e2, e3, e4, e5⟩ := g; exact Prod.ext e1 (Prod.ext e2 (Prod.ext e3 (Prod.ext e4 e5))))] at hT
      exact hT
    · rw [if_neg (fun e => g (by subst e; exact ⟨rfl, rfl, rfl, rfl, rfl⟩))] at hT
      exact ⟨i64_ok (by omega) (by omega), back _ (i + 1) (by refine ⟨?_, ?_, rfl, rfl⟩ <;> repeat' (first | exact trivial | exact Or.inl rfl | exact Or.inr rfl | (refine And.intro (Or.inl rfl) ?_) | (refine And.intro (Or.inr (Or.inl rfl)) ?_) | (refine And.intro (Or.inr (Or.inr (Or.inr ⟨rfl, rfl⟩))) ?_) | (refine And.intro (Or.inr (Or.inr (Or.inl ⟨rfl, rfl, trivial⟩))) ?_) | exact ⟨(by show (_ : Nat) < 1000000000; omega), rfl, rfl⟩ | rfl | (refine And.intro (Or.inl ?_) ?_) | (refine And.intro ?_ ?_))) ⟨by omega, hT⟩ (by omega)⟩
  · rw [List.drop_of_length_le (by omega)] at hT
    exact hT
theorem c_Contains (l : List Rl) (r : Rl) : PC env 32 [⟨.sl RuleT, l⟩, ⟨RuleT, r⟩] .bool (decide (r ∈ l)) := by
  refine PC.of_PW (m := 2000) env_ok fn_32 rfl rfl rfl rfl (by kernel_rfl) ?_; intro hx; simp only [Tryd.f32]; simp only [go_sem, Nat.reduceBEq, ↓reduceIte, ↓reduceDIte, Nat.reduceAdd, Nat.reduceSub, Nat.reduceMul, Nat.reduceLeDiff, ← Bool.decide_and, ← Bool.decide_or, ← decide_not, Int.reduceLT, Int.reduceLE, Int.reduceToNat, Int.reduceNeg]
  refine ⟨_, c_Index l r, fun _ => ?_⟩
  exact decide_eq_decide.2 ixL_mem
theorem c_Check (s : Sch) : PC env 12 [⟨SchemeT, s⟩] (.tup (.int .i64) (.int .i64)) (checkE s) := by
  obtain ⟨n, a, rs⟩ := s
  refine PC.of_PW (m := 2000) env_ok fn_12 rfl rfl rfl rfl (by kernel_rfl) ?_; intro hx; simp only [Tryd.f12]; simp only [go_sem, Nat.reduceBEq, ↓reduceIte, ↓reduceDIte, Nat.reduceAdd, Nat.reduceSub, Nat.reduceMul, Nat.reduceLeDiff, ← Bool.decide_and, ← Bool.decide_or, ← decide_not, Int.reduceLT, Int.reduceLE, Int.reduceToNat, Int.reduceNeg]
  have hno : headB (n, a, rs) = false → ((-1 : Int), (20 : Int)) = checkE (n, a, rs) := fun h => by unfold checkE; rw [h]; rfl
  have hd : headB (n, a, rs) = (inB n 1 8 && inB a 1 (2 ^ n.toNat - 1) && decide (rs.length ≤ 64)) := rfl
  refine ⟨fun g1 => ⟨fun g2 => ⟨fun g3 => hno ?_, fun g3 => ⟨fun g4 => ?_, fun g4 => hno ?_⟩⟩, fun g2 => hno ?_⟩, fun g1 => hno ?_⟩
  · rw [hd]; simp; omega
  · have hpow : (2 : Int) ^ n.toNat ≤ 256 := pow256 _ (by omega)
    have hpow1 : (0 : Int) < 2 ^ n.toNat := Int.pow_pos (by decide)
    refine ⟨⟨by omega, by omega⟩, i64_ok (by omega) (by omega), fun g5 => hno ?_, fun g5 => ?_⟩
    · rw [hd]; simp [inB]; omega
    · have hh : headB (n, a, rs) = true := by rw [hd]; simp [inB]; omega
      have hE : checkE (n, a, rs) = chkL n rs rs.length 0 := by simp [checkE, hh]
      rw [hE]
      obtain ⟨T, hT⟩ : ∃ T, T = chkL n rs rs.length 0 := ⟨_, rfl⟩
      rw [← hT]
      clear hno hd hh hE
      refine Walks.loopA (X := Nat) (fun (z : Nat) => [(35, .iv (.int .i64) (z : Int)), (4, .any), (5, .any)]) (fun (z : Nat) => []) (fun (z : Nat) => z ≤ rs.length ∧ chkL n rs (rs.length - z) z = T) (fun (z : Nat) => rs.length - z) 0 ?_; intro b1 b2 hb1 hb2; simp (config := {maxSteps := 4000000}) only [go_sem, Nat.reduceBEq, ↓reduceIte, ↓reduceDIte, Nat.reduceAdd, Nat.reduceSub, Nat.reduceMul, Nat.reduceLeDiff, ← Bool.decide_and, ← Bool.decide_or, ← decide_not, Int.reduceLT, Int.reduceLE, Int.reduceToNat, Int.reduceNeg] at hb1 hb2; subst hb1; subst hb2; refine ⟨(by refine ⟨?_, ?_, rfl, rfl⟩ <;> repeat' (first | exact trivial | exact Or.inl rfl | exact Or.inr rfl | (refine And.intro (Or.inl rfl) ?_) | (refine And.intro (Or.inr (Or.inl rfl)) ?_) | (refine And.intro (Or.inr (Or.inr (Or.inr ⟨rfl, rfl⟩))) ?_) | (refine And.intro (Or.inr (Or.inr (Or.inl ⟨rfl, rfl, trivial⟩))) ?_) | exact ⟨(by show (_ : Nat) < 1000000000; omega), rfl, rfl⟩ | rfl | (refine And.intro (Or.inl ?_) ?_) | (refine And.intro ?_ ?_))), ?_, ?_⟩
      · exact ⟨Nat.zero_le _, hT.symm⟩
      clear hT
      intro i ⟨hi, hT⟩ back
      refine PW_sound env_ok ⟨_, fn_12, rfl⟩ 2000 _ _ (by kernel_rfl) ?_; simp only [go_sem, Nat.reduceBEq, ↓reduceIte, ↓reduceDIte, Nat.reduceAdd, Nat.reduceSub, Nat.reduceMul, Nat.reduceLeDiff, ← Bool.decide_and, ← Bool.decide_or, ← decide_not, Int.reduceLT, Int.reduceLE, Int.reduceToNat, Int.reduceNeg]
      refine ⟨fun g6 => ?_, fun g6 => ?_⟩
      · obtain ⟨r, hr⟩ : ∃ r, rs[i]? = some r := get_of_lt (by omega)
        have e : rs.length - i = (rs.length - (i + 1)) + 1 := by omega
        rw [e, chkL] at hT
        have hat : rightAt n rs i = (decide (r ∉ rs.take i) && rightR n r) := by unfold rightAt; rw [hr]
        rw [hat] at hT
        refine ⟨Int.natCast_nonneg _, r, hr, _, c_right n r, ?_⟩
        cases hq : rightR n r
        · rw [hq, Bool.and_false] at hT
          refine PK_cast (b' := true) rfl ?_
          simp only [go_sem, Nat.reduceBEq, ↓reduceIte, ↓reduceDIte, Nat.reduceAdd, Nat.reduceSub, Nat.reduceMul, Nat.reduceLeDiff, ← Bool.decide_and, ← Bool.decide_or, ← decide_not, Int.reduceLT, Int.reduceLE, Int.reduceToNat, Int.reduceNeg]
          exact hT
        · rw [hq, Bool.and_true] at hT
          refine PK_cast (b' := false) rfl ?_
          simp only [go_sem, Nat.reduceBEq, ↓reduceIte, ↓reduceDIte, Nat.reduceAdd, Nat.reduceSub, Nat.reduceMul, Nat.reduceLeDiff, ← Bool.decide_and, ← Bool.decide_or, ← decide_not, Int.reduceLT, Int.reduceLE, Int.reduceToNat, Int.reduceNeg]
          refine ⟨⟨by omega, by omega⟩, _, c_Contains (rs.take i) r, ?_⟩
          simp only [go_sem, Nat.reduceBEq, ↓reduceIte, ↓reduceDIte, Nat.reduceAdd, Nat.reduceSub, Nat.reduceMul, Nat.reduceLeDiff, ← Bool.decide_and, ← Bool.decide_or, ← decide_not, Int.reduceLT, Int.reduceLE, Int.reduceToNat, Int.reduceNeg]
          refine ⟨fun g => ?_, fun g => ?_⟩
          · rw [decide_eq_false (by simpa using g)] at hT
            exact hT
          · rw [decide_eq_true g] at hT
            exact ⟨i64_ok (by omega) (by omega), back _ (i + 1) (by refine ⟨?_, ?_, rfl, rfl⟩ <;> repeat' (first | exact trivial | exact Or.inl rfl | exact Or.inr rfl | (refine And.intro (Or.inl rfl) ?_) | (refine And.intro (Or.inr (Or.inl rfl)) ?_) | (refine And.intro (Or.inr (Or.inr (Or.inr ⟨rfl, rfl⟩))) ?_) | (refine And.intro (Or.inr (Or.inr (Or.inl ⟨rfl, rfl, trivial⟩))) ?_) | exact ⟨(by show (_ : Nat) < 1000000000; omega), rfl, rfl⟩ | rfl | (refine And.intro (Or.inl ?_) ?_) | (refine And.intro ?_ ?_))) ⟨by omega, hT⟩ (by omega)⟩
      · have e : rs.length - i = 0 := by omega
        rw [e, chkL] at hT
        exact hT
  · rw [hd]; simp [inB]; omega
  · rw [hd]; simp [inB]; omega
  · rw [hd]; simp [inB]; omega
theorem c_Valid (s : Sch) : PC env 14 [⟨SchemeT, s⟩] .bool (decide ((checkE s).2 = 0)) := by
  refine PC.of_PW (m := 2000) env_ok fn_14 rfl rfl rfl rfl (by kernel_rfl) ?_; intro hx; simp only [Tryd.f14]; simp only [go_sem, Nat.reduceBEq, ↓reduceIte, ↓reduceDIte, Nat.reduceAdd, Nat.reduceSub, Nat.reduceMul, Nat.reduceLeDiff, ← Bool.decide_and, ← Bool.decide_or, ← decide_not, Int.reduceLT, Int.reduceLE, Int.reduceToNat, Int.reduceNeg]
  refine ⟨_, c_Check s, fun _ => ?_⟩
  rfl
def letB (s : Str) : Bool := decide (s.length ≤ 40) && s.all low
def wordB (s : Str) : Bool := decide (1 ≤ s.length ∧ s.length ≤ 20) && s.all aln
theorem c_Letters (s : Str) : PC env 23 [⟨.str, s⟩] .bool (letB s) := by
  refine PC.of_PW (m := 2000) env_ok fn_23 rfl rfl rfl rfl (by kernel_rfl) ?_; intro hx; simp only [Tryd.f23]; simp only [go_sem, Nat.reduceBEq, ↓reduceIte, ↓reduceDIte, Nat.reduceAdd, Nat.reduceSub, Nat.reduceMul, Nat.reduceLeDiff, ← Bool.decide_and, ← Bool.decide_or, ← decide_not, Int.reduceLT, Int.reduceLE, Int.reduceToNat, Int.reduceNeg]
  have d := (c_allSmall s).dec
  unfold letB
  generalize s.all low = b at *
  repeat' (first | (with_reducible intro _) | (with_reducible apply And.intro) | (with_reducible refine ⟨_, d, ?_⟩; try simp only [go_sem, Nat.reduceBEq, ↓reduceIte, ↓reduceDIte, Nat.reduceAdd, Nat.reduceSub, Nat.reduceMul, Nat.reduceLeDiff, ← Bool.decide_and, ← Bool.decide_or, ← decide_not, Int.reduceLT, Int.reduceLE, Int.reduceToNat, Int.reduceNeg]) | fail)
  all_goals first | omega | (simp_all; try omega)
theorem c_Letters2 (s : Str) : PC env 24 [⟨.str, s⟩] .bool (letB s) := by
  refine PC.of_PW (m := 2000) env_ok fn_24 rfl rfl rfl rfl (by kernel_rfl) ?_; intro hx; simp only [Tryd.f24]; simp only [go_sem, Nat.reduceBEq, ↓reduceIte, ↓reduceDIte, Nat.reduceAdd, Nat.reduceSub, Nat.reduceMul, Nat.reduceLeDiff, ← Bool.decide_and, ← Bool.decide_or, ← decide_not, Int.reduceLT, Int.reduceLE, Int.reduceToNat, Int.reduceNeg]
  have d := (c_Small s).dec
  unfold letB
  generalize s.all low = b at *
  repeat' (first | (with_reducible intro _) | (with_reducible apply And.intro) | (with_reducible refine ⟨_, d, ?_⟩; try simp only [go_sem, Nat.reduceBEq, ↓reduceIte, ↓reduceDIte, Nat.reduceAdd, Nat.reduceSub, Nat.reduceMul, Nat.reduceLeDiff, ← Bool.decide_and, ← Bool.decide_or, ← decide_not, Int.reduceLT, Int.reduceLE, Int.reduceToNat, Int.reduceNeg]) | fail)
  all_goals first | omega | (simp_all; try omega)
theorem c_Word (s : Str) : PC env 25 [⟨.str, s⟩] .bool (wordB s) := by
  refine PC.of_PW (m := 2000) env_ok fn_25 rfl rfl rfl rfl (by kernel_rfl) ?_; intro hx; simp only [Tryd.f25]; simp only [go_sem, Nat.reduceBEq, ↓reduceIte, ↓reduceDIte, Nat.reduceAdd, Nat.reduceSub, Nat.reduceMul, Nat.reduceLeDiff, ← Bool.decide_and, ← Bool.decide_or, ← decide_not, Int.reduceLT, Int.reduceLE, Int.reduceToNat, Int.reduceNeg]
  have d := (c_allKnown s).dec
  unfold wordB
  generalize s.all aln = b at *
  repeat' (first | (with_reducible intro _) | (with_reducible apply And.intro) | (with_reducible refine ⟨_, d, ?_⟩; try simp only [go_sem, Nat.reduceBEq, ↓reduceIte, ↓reduceDIte, Nat.reduceAdd, Nat.reduceSub, Nat.reduceMul, Nat.reduceLeDiff, ← Bool.decide_and, ← Bool.decide_or, ← decide_not, Int.reduceLT, Int.reduceLE, Int.reduceToNat, Int.reduceNeg]) | fail)
  all_goals first | omega | (simp_all; try omega)
theorem c_Word2 (s : Str) : PC env 26 [⟨.str, s⟩] .bool (wordB s) := by
  refine PC.of_PW (m := 2000) env_ok fn_26 rfl rfl rfl rfl (by kernel_rfl) ?_; intro hx; simp only [Tryd.f26]; simp only [go_sem, Nat.reduceBEq, ↓reduceIte, ↓reduceDIte, Nat.reduceAdd, Nat.reduceSub, Nat.reduceMul, Nat.reduceLeDiff, ← Bool.decide_and, ← Bool.decide_or, ← decide_not, Int.reduceLT, Int.reduceLE, Int.reduceToNat, Int.reduceNeg]
  have d := (c_Plain s).dec
  have d1 := (c_In s.length 1 20).dec
  unfold wordB
  generalize s.all aln = b at *
  repeat' (first | (with_reducible intro _) | (with_reducible apply And.intro) | (with_reducible refine ⟨_, d, ?_⟩; try simp only [go_sem, Nat.reduceBEq, ↓reduceIte, ↓reduceDIte, Nat.reduceAdd, Nat.reduceSub, Nat.reduceMul, Nat.reduceLeDiff, ← Bool.decide_and, ← Bool.decide_or, ← decide_not, Int.reduceLT, Int.reduceLE, Int.reduceToNat, Int.reduceNeg]) | (with_reducible refine ⟨_, d1, ?_⟩; try simp only [go_sem, Nat.reduceBEq, ↓reduceIte, ↓reduceDIte, Nat.reduceAdd, Nat.reduceSub, Nat.reduceMul, Nat.reduceLeDiff, ← Bool.decide_and, ← Bool.decide_or, ← decide_not, Int.reduceLT, Int.reduceLE, Int.reduceToNat, Int.reduceNeg]) | fail)
  all_goals first | omega | (simp_all [inB]; try omega)
end Go.Proofs.YtcmolphllladbaaDoor
--SET+ by32, Int.reduceEq, not_true_eq_false, not_false_eq_true, false_implies
namespace Go.Proofs.YtcmolphllladbaaDoor
open Go.Lib
set_option maxHeartbeats 4000000
set_option maxRecDepth 100000
theorem by32 : bytesOf ⟨#[32]⟩ = ([32] : Str) := rfl
theorem c_written (s : Str) : PC env 36 [⟨.str, s⟩] .str (wrF s) := by
  refine PC.of_PW (m := 2000) env_ok fn_36 rfl rfl rfl rfl (by kernel_rfl) ?_; intro hx; simp only [Tryd.f36]; simp only [go_sem, Nat.reduceBEq, ↓reduceIte, ↓reduceDIte, Nat.reduceAdd, Nat.reduceSub, Nat.reduceMul, Nat.reduceLeDiff, ← Bool.decide_and, ← Bool.decide_or, ← decide_not, Int.reduceLT, Int.reduceLE, Int.reduceToNat, Int.reduceNeg, by32, Int.reduceEq, not_true_eq_false, not_false_eq_true, false_implies]
  unfold wrF
  refine ⟨fun h => ?_, fun h => ?_⟩
  · exact (if_pos h).symm
  · exact (if_neg h).symm
theorem c_field (s : Str) : PC env 41 [⟨.str, s⟩] .str (wrF s) := by
  refine PC.of_PW (m := 2000) env_ok fn_41 rfl rfl rfl rfl (by kernel_rfl) ?_; intro hx; simp only [Tryd.f41]; simp only [go_sem, Nat.reduceBEq, ↓reduceIte, ↓reduceDIte, Nat.reduceAdd, Nat.reduceSub, Nat.reduceMul, Nat.reduceLeDiff, ← Bool.decide_and, ← Bool.decide_or, ← decide_not, Int.reduceLT, Int.reduceLE, Int.reduceToNat, Int.reduceNeg, by32, Int.reduceEq, not_true_eq_false, not_false_eq_true, false_implies]
  unfold wrF
  refine ⟨fun h => ?_, fun h => ?_⟩
  · exact (if_pos h).symm
  · exact (if_neg h).symm
def undash (s : Str) : Str := if s = [45] then [] else s
theorem c_text2 (s : Str) : PC env 62 [⟨.str, s⟩] .str (undash s) := by
  refine PC.of_PW (m := 2000) env_ok fn_62 rfl rfl rfl rfl (by kernel_rfl) ?_; intro hx; simp only [Tryd.f62]; simp only [go_sem, Nat.reduceBEq, ↓reduceIte, ↓reduceDIte, Nat.reduceAdd, Nat.reduceSub, Nat.reduceMul, Nat.reduceLeDiff, ← Bool.decide_and, ← Bool.decide_or, ← decide_not, Int.reduceLT, Int.reduceLE, Int.reduceToNat, Int.reduceNeg, by32, Int.reduceEq, not_true_eq_false, not_false_eq_true, false_implies]
  unfold undash
  refine ⟨fun h => ?_, fun h => ?_⟩
  · exact (if_pos h).symm
  · exact (if_neg h).symm
theorem c_SplitR (s : Str) (c : UInt8) (hs : s.length ≤ 1000000000) : PC env 21 [⟨.str, s⟩, ⟨.int .u8, (c.toNat : Int)⟩] (.sl .str) (spl c s) := by
  refine PC.of_PW (m := 2000) env_ok fn_21 rfl rfl rfl rfl (by kernel_rfl) ?_; intro hx; simp only [Tryd.f21]; simp only [go_sem, Nat.reduceBEq, ↓reduceIte, ↓reduceDIte, Nat.reduceAdd, Nat.reduceSub, Nat.reduceMul, Nat.reduceLeDiff, ← Bool.decide_and, ← Bool.decide_or, ← decide_not, Int.reduceLT, Int.reduceLE, Int.reduceToNat, Int.reduceNeg, by32, Int.reduceEq, not_true_eq_false, not_false_eq_true, false_implies]
  have hlen : s.length ≤ 9223372036854775807 := hx.1
  refine Walks.loopA (X := Nat × Nat × List Str) (fun (z : Nat × Nat × List Str) => [(7, .iv (.int .i64) (z.1 : Int)), (6, .iv (.int .i64) (z.2.1 : Int)), (5, .lfull 8), (8, .any)]) (fun (z : Nat × Nat × List Str) => [(8, .arr .str z.2.2)]) (fun (z : Nat × Nat × List Str) => z.2.1 ≤ z.1 ∧ z.1 ≤ s.length ∧ z.2.2.length ≤ z.1 ∧ c ∉ (s.drop z.2.1).take (z.1 - z.2.1) ∧ z.2.2 ++ spl c (s.drop z.2.1) = spl c s) (fun (z : Nat × Nat × List Str) => s.length - z.1) (0, 0, []) ?_; intro b1 b2 hb1 hb2; simp (config := {maxSteps := 4000000}) only [go_sem, Nat.reduceBEq, ↓reduceIte, ↓reduceDIte, Nat.reduceAdd, Nat.reduceSub, Nat.reduceMul, Nat.reduceLeDiff, ← Bool.decide_and, ← Bool.decide_or, ← decide_not, Int.reduceLT, Int.reduceLE, Int.reduceToNat, Int.reduceNeg, by32, Int.reduceEq, not_true_eq_false, not_false_eq_true, false_implies] at hb1 hb2; subst hb1; subst hb2; refine ⟨(by refine ⟨?_, ?_, rfl, rfl⟩ <;> repeat' (first | exact trivial | exact Or.inl rfl | exact Or.inr rfl | (refine And.intro (Or.inl rfl) ?_) | (refine And.intro (Or.inr (Or.inl rfl)) ?_) | (refine And.intro (Or.inr (Or.inr (Or.inr ⟨rfl, rfl⟩))) ?_) | (refine And.intro (Or.inr (Or.inr (Or.inl ⟨rfl, rfl, trivial⟩))) ?_) | exact ⟨(by show (_ : Nat) < 1000000000; omega), rfl, rfl⟩ | rfl | (refine And.intro (Or.inl ?_) ?_) | (refine And.intro ?_ ?_))), ?_, ?_⟩
  · exact ⟨Nat.le_refl _, Nat.zero_le _, Nat.le_refl _, by simp, rfl⟩
  intro ⟨i, last, o⟩ ⟨h1, h2, h3, h4, h5⟩ back
  dsimp only at h1 h2 h3 h4 h5
  refine PW_sound env_ok ⟨_, fn_21, rfl⟩ 2000 _ _ (by kernel_rfl) ?_; simp only [go_sem, Nat.reduceBEq, ↓reduceIte, ↓reduceDIte, Nat.reduceAdd, Nat.reduceSub, Nat.reduceMul, Nat.reduceLeDiff, ← Bool.decide_and, ← Bool.decide_or, ← decide_not, Int.reduceLT, Int.reduceLE, Int.reduceToNat, Int.reduceNeg, by32, Int.reduceEq, not_true_eq_false, not_false_eq_true, false_implies]
  refine ⟨fun h => ?_, fun h => ⟨⟨by omega, by omega⟩, by omega, ?_⟩⟩
  · obtain ⟨x, hx'⟩ := get_of_lt (xs := s) (i := i) (by omega)
    have hsp : s.drop last = (s.drop last).take (i - last) ++ x :: s.drop (i + 1) := by
      rw [← drop_cons hx']
      have e : s.drop i = (s.drop last).drop (i - last) := by rw [List.drop_drop]; congr 1; omega
      rw [e, List.take_append_drop]
    refine ⟨Int.natCast_nonneg _, _, ⟨x, hx', rfl⟩, fun h6 => ⟨⟨Int.natCast_nonneg _, by omega, by omega⟩, by omega, i64_ok (by omega) (by omega), i64_ok (by omega) (by omega), ?_⟩, fun h6 => ⟨i64_ok (by omega) (by omega), ?_⟩⟩
    · have hxc : x = c := UInt8.toNat_inj.1 (by omega)
      subst hxc
      refine back _ (i + 1, i + 1, o ++ [(s.drop last).take (i - last)]) ?_ ⟨Nat.le_refl _, by dsimp only; omega, by dsimp only; simp only [List.length_append, List.length_cons, List.length_nil]; omega, by simp, ?_⟩ (by dsimp only; omega)
      · exact (by refine ⟨?_, ?_, rfl, rfl⟩ <;> repeat' (first | exact trivial | exact Or.inl rfl | exact Or.inr rfl | (refine And.intro (Or.inl rfl) ?_) | (refine And.intro (Or.inr (Or.inl rfl)) ?_) | (refine And.intro (Or.inr (Or.inr (Or.inr ⟨rfl, rfl⟩))) ?_) | (refine And.intro (Or.inr (Or.inr (Or.inl ⟨rfl, rfl, trivial⟩))) ?_) | exact ⟨(by show (_ : Nat) < 1000000000; omega), rfl, rfl⟩ | rfl | (refine And.intro (Or.inl ?_) ?_) | (refine And.intro ?_ ?_)))
      · dsimp only
        rw [← h5]
        conv => rhs; rw [hsp]
        rw [spl_cons _ _ h4, List.append_assoc]; rfl
    · have hxc : ¬ x = c := fun e => h6 (by rw [e])
      refine back _ (i + 1, last, o) (by refine ⟨?_, ?_, rfl, rfl⟩ <;> repeat' (first | exact trivial | exact Or.inl rfl | exact Or.inr rfl | (refine And.intro (Or.inl rfl) ?_) | (refine And.intro (Or.inr (Or.inl rfl)) ?_) | (refine And.intro (Or.inr (Or.inr (Or.inr ⟨rfl, rfl⟩))) ?_) | (refine And.intro (Or.inr (Or.inr (Or.inl ⟨rfl, rfl, trivial⟩))) ?_) | exact ⟨(by show (_ : Nat) < 1000000000; omega), rfl, rfl⟩ | rfl | (refine And.intro (Or.inl ?_) ?_) | (refine And.intro ?_ ?_))) ⟨by dsimp only; omega, by dsimp only; omega, by dsimp only; omega, ?_, h5⟩ (by dsimp only; omega)
      dsimp only
      have e : i + 1 - last = (i - last) + 1 := by omega
      have hx2 : (s.drop last)[i - last]? = some x := by rw [List.getElem?_drop]; rw [show last + (i - last) = i by omega]; exact hx'
      rw [e, take_snoc hx2, List.mem_append, not_or]
      exact ⟨h4, by simp [Ne.symm hxc]⟩
  · rw [← h5]
    rw [List.take_of_length_le (by rw [List.length_drop]; omega)] at h4
    rw [spl_no c h4]
theorem digits_at : ∀ d : Nat, d < 10 → List.take 1 (List.drop d (bytesOf ⟨#[48, 49, 50, 51, 52, 53, 54, 55, 56, 57]⟩)) = [UInt8.ofNat (48 + d)] := by decide
theorem c_DecimalN (n : Nat) : n ≤ 1000000 → PC env 40 [⟨.int .i64, (n : Int)⟩] .str (decDigits n) := by
  induction n using Nat.strongRecOn with
  | _ n ih =>
    intro hn
    refine PC.of_PW (m := 2000) env_ok fn_40 rfl rfl rfl rfl (by kernel_rfl) ?_; intro hx; simp only [Tryd.f40]; simp only [go_sem, Nat.reduceBEq, ↓reduceIte, ↓reduceDIte, Nat.reduceAdd, Nat.reduceSub, Nat.reduceMul, Nat.reduceLeDiff, ← Bool.decide_and, ← Bool.decide_or, ← decide_not, Int.reduceLT, Int.reduceLE, Int.reduceToNat, Int.reduceNeg, by32, Int.reduceEq, not_true_eq_false, not_false_eq_true, false_implies]
    have hm : (n : Int).tmod 10 = ((n % 10 : Nat) : Int) := rfl
    have e : (((n % 10 : Nat) : Int) + 1).toNat - ((n % 10 : Nat) : Int).toNat = 1 := by omega
    rw [hm, e, Int.toNat_natCast, digits_at _ (Nat.mod_lt _ (by decide))]
    refine ⟨i64_ok (by omega) (by omega), ⟨by omega, by omega, (by show ((n % 10 : Nat) : Int) + 1 ≤ 10; omega)⟩, fun h => ?_, fun h => ?_⟩
    · have hq : (n : Int) / 10 = ((n / 10 : Nat) : Int) := rfl
      have hlen := dec_len 6 (n / 10) (by omega)
      refine ⟨by omega, _, hq ▸ ih (n / 10) (by omega) (by omega), fun _ => ?_⟩
      exact ⟨by simp only [List.length_cons, List.length_nil]; omega, (dec_big (by omega)).symm⟩
    · have e2 : n % 10 = n := by omega
      rw [e2, dec_small (by omega)]
theorem c_Decimal {n : Int} (h : 0 ≤ n) (h2 : n ≤ 1000000) : PC env 40 [⟨.int .i64, n⟩] .str (itoa n) := by
  obtain ⟨m, rfl⟩ : ∃ m : Nat, n = m := ⟨n.toNat, by omega⟩
  rw [itoa_dec h]
  exact c_DecimalN m (by omega)
def numR (s : Str) (most : Int) : Int × Bool := if s.all dig = true ∧ s.length ≤ 4 then ((valS s : Int), decide (0 < s.length ∧ (s.length = 1 ∨ ¬ s[0]? = some 48) ∧ (valS s : Int) ≤ most)) else (0, false)
theorem numR_some {s : Str} {most : Int} : numM most s = if (numR s most).2 = true then some (numR s most).1 else none := by
  unfold numR numM numOK
  by_cases h : s.all dig = true ∧ s.length ≤ 4
  · rw [if_pos h]
    have h1 := h.1
    have h2 := h.2
    simp only [h1, Bool.and_true, decide_eq_true_eq]
    by_cases h3 : 0 < s.length ∧ (s.length = 1 ∨ ¬ s[0]? = some 48) ∧ (valS s : Int) ≤ most
    · rw [if_pos h3, if_pos ⟨⟨h3.1, h2, fun h4 => by
        rcases h3.2.1 with h5 | h5
        · have := h4.2; omega
        · exact h5 h4.1⟩, h3.2.2⟩]
    · rw [if_neg h3, if_neg]
      rintro ⟨⟨h4, h5, h6⟩, h7⟩
      refine h3 ⟨h4, ?_, h7⟩
      by_cases h8 : s[0]? = some 48
      · exact .inl (by have : ¬ 1 < s.length := fun h => h6 ⟨h8, h⟩; omega)
      · exact .inr h8
  · rw [if_neg h]
    simp only [Bool.false_eq_true, if_false]
    rw [if_neg]
    rintro ⟨h1, _⟩
    simp only [Bool.and_eq_true, decide_eq_true_eq] at h1
    exact h ⟨h1.2, h1.1.2.1⟩
theorem pow10k : ∀ m : Nat, m < 5 → 10 ^ m ≤ 10000 := by decide
theorem c_Number (s : Str) (most : Int) : PC env 61 [⟨.str, s⟩, ⟨.int .i64, most⟩] (.tup (.int .i64) .bool) (numR s most) := by
  refine PC.of_PW (m := 2000) env_ok fn_61 rfl rfl rfl rfl (by kernel_rfl) ?_; intro hx; simp only [Tryd.f61]; simp only [go_sem, Nat.reduceBEq, ↓reduceIte, ↓reduceDIte, Nat.reduceAdd, Nat.reduceSub, Nat.reduceMul, Nat.reduceLeDiff, ← Bool.decide_and, ← Bool.decide_or, ← decide_not, Int.reduceLT, Int.reduceLE, Int.reduceToNat, Int.reduceNeg, by32, Int.reduceEq, not_true_eq_false, not_false_eq_true, false_implies]
  have hlen : s.length ≤ 9223372036854775807 := hx.1
  refine Walks.loopA (X := Nat) (fun (i : Nat) => [(7, .iv (.int .i64) (i : Int)), (6, .iv (.int .i64) ((valS (s.take i) : Nat) : Int))]) (fun (i : Nat) => []) (fun (i : Nat) => i ≤ s.length ∧ i ≤ 4 ∧ (s.take i).all dig = true ∧ valS (s.take i) < 10 ^ i) (fun (i : Nat) => s.length - i) 0 ?_; intro b1 b2 hb1 hb2; simp (config := {maxSteps := 4000000}) only [go_sem, Nat.reduceBEq, ↓reduceIte, ↓reduceDIte, Nat.reduceAdd, Nat.reduceSub, Nat.reduceMul, Nat.reduceLeDiff, ← Bool.decide_and, ← Bool.decide_or, ← decide_not, Int.reduceLT, Int.reduceLE, Int.reduceToNat, Int.reduceNeg, by32, Int.reduceEq, not_true_eq_false, not_false_eq_true, false_implies] at hb1 hb2; subst hb1; subst hb2; refine ⟨(by refine ⟨?_, ?_, rfl, rfl⟩ <;> repeat' (first | exact trivial | exact Or.inl rfl | exact Or.inr rfl | (refine And.intro (Or.inl rfl) ?_) | (refine And.intro (Or.inr (Or.inl rfl)) ?_) | (refine And.intro (Or.inr (Or.inr (Or.inr ⟨rfl, rfl⟩))) ?_) | (refine And.intro (Or.inr (Or.inr (Or.inl ⟨rfl, rfl, trivial⟩))) ?_) | exact ⟨(by show (_ : Nat) < 1000000000; omega), rfl, rfl⟩ | rfl | (refine And.intro (Or.inl ?_) ?_) | (refine And.intro ?_ ?_))), ?_, ?_⟩
  · exact ⟨Nat.zero_le _, Nat.zero_le _, rfl, by show (0 : Nat) < 1; decide⟩
  intro i ⟨hi, hi4, hb, hv⟩ back
  refine PW_sound env_ok ⟨_, fn_61, rfl⟩ 2000 _ _ (by kernel_rfl) ?_; simp only [go_sem, Nat.reduceBEq, ↓reduceIte, ↓reduceDIte, Nat.reduceAdd, Nat.reduceSub, Nat.reduceMul, Nat.reduceLeDiff, ← Bool.decide_and, ← Bool.decide_or, ← decide_not, Int.reduceLT, Int.reduceLE, Int.reduceToNat, Int.reduceNeg, by32, Int.reduceEq, not_true_eq_false, not_false_eq_true, false_implies]
  have hp := pow10k i (by omega)
  refine ⟨fun h => ?_, fun h => ?_⟩
  · obtain ⟨x, hxi⟩ : ∃ x, s[i]? = some x := get_of_lt (by omega)
    have hno : dig x = false → ((0 : Int), false) = numR s most := fun hl => by unfold numR; rw [if_neg]; rintro ⟨h, _⟩; rw [all_no hxi hl] at h; cases h
    have hno4 : ¬ s.length ≤ 4 → ((0 : Int), false) = numR s most := fun hl => by unfold numR; rw [if_neg]; rintro ⟨_, h⟩; exact hl h
    have i0 := Int.natCast_nonneg i
    refine ⟨i0, _, ⟨x, hxi, rfl⟩, fun h1 => ⟨i0, _, ⟨x, hxi, rfl⟩, fun h2 => ⟨fun h3 => hno4 (by omega), fun h3 => ?_⟩, fun h2 => hno ?_⟩, fun h1 => hno ?_⟩
    · have hd : dig x = true := by simp [dig]; omega
      have hval : (10 * ((valS (s.take i) : Nat) : Int) + ((x.toNat : Int) - 48)) = ((valS (s.take (i + 1)) : Nat) : Int) := by
        rw [take_snoc hxi, valS_snoc]; omega
      refine ⟨i64_ok (by omega) (by omega), i0, _, ⟨x, hxi, rfl⟩, ⟨by omega, by have := UInt8.toNat_lt x; omega⟩, i64_ok (by omega) (by have := UInt8.toNat_lt x; omega), i64_ok (by omega) (by omega), ?_⟩
      rw [hval]
      exact back _ (i + 1) (by refine ⟨?_, ?_, rfl, rfl⟩ <;> repeat' (first | exact trivial | exact Or.inl rfl | exact Or.inr rfl | (refine And.intro (Or.inl rfl) ?_) | (refine And.intro (Or.inr (Or.inl rfl)) ?_) | (refine And.intro (Or.inr (Or.inr (Or.inr ⟨rfl, rfl⟩))) ?_) | (refine And.intro (Or.inr (Or.inr (Or.inl ⟨rfl, rfl, trivial⟩))) ?_) | exact ⟨(by show (_ : Nat) < 1000000000; omega), rfl, rfl⟩ | rfl | (refine And.intro (Or.inl ?_) ?_) | (refine And.intro ?_ ?_))) ⟨by omega, by omega, by rw [all_step hxi, hb, hd]; rfl, by rw [take_snoc hxi, valS_snoc, Nat.pow_succ]; have := UInt8.toNat_lt x; simp [dig] at hd; omega⟩ (by omega)
    · simp [dig]; omega
    · simp [dig]; omega
  · have e : s.take i = s := List.take_of_length_le (by omega)
    rw [e] at hb ⊢
    have hN : numR s most = ((valS s : Int), decide (0 < s.length ∧ (s.length = 1 ∨ ¬ s[0]? = some 48) ∧ (valS s : Int) ≤ most)) := by unfold numR; rw [if_pos ⟨hb, by omega⟩]
    rw [hN]
    refine ⟨fun h1 => ⟨fun h2 => ?_, fun h2 => ?_⟩, fun h1 => ?_⟩
    · obtain ⟨x, hx0⟩ : ∃ x, s[0]? = some x := get_of_lt (by omega)
      refine ⟨_, ⟨x, hx0, rfl⟩, fun h3 => ?_, fun h3 => ?_⟩
      · have : ¬ x = 48 := fun e => h3 (by rw [e]; rfl)
        refine Prod.ext rfl (decide_eq_decide.2 ⟨fun h4 => ⟨by omega, .inr (by rw [hx0]; simpa using this), h4⟩, fun h4 => h4.2.2⟩)
      · have : x = 48 := UInt8.toNat_inj.1 (by rw [show (48 : UInt8).toNat = 48 from rfl]; omega)
        refine Prod.ext rfl (decide_eq_false ?_).symm
        rintro ⟨_, h5, _⟩
        rcases h5 with h5 | h5
        · omega
        · exact h5 (by rw [hx0, this])
    · exact Prod.ext rfl (decide_eq_decide.2 ⟨fun h4 => ⟨by omega, .inl (by omega), h4⟩, fun h4 => h4.2.2⟩)
    · refine Prod.ext rfl (decide_eq_false ?_).symm
      rintro ⟨h5, _⟩
      omega
end Go.Proofs.YtcmolphllladbaaDoor
