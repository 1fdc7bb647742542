/- What leaving's groups hold. Nothing here is trusted; no condition. -/
import Derived.Test.YtaphmhdgpdhpiaaC2
import Derived.Shelf.Strings.Builder1
import Derived.Test.YtaphmhdgpdhpiaaProg
import Derived.WalkKit
import Derived.RegionTactic
import Derived.BigRegion
import Derived.Lib.Walk
import Derived.Lib.Builder
import Derived.Lib.UnsafeStr
set_option linter.unusedSimpArgs false
set_option linter.unusedVariables false
namespace Go.Proofs.Ytaphmhdgpdhpiaa
open Go.Shelf
def Klays169_ren : Go.Shelf.Ren := ⟨fun | 169 => 35 | n => n, fun | 70 => 69 | 9 => 9 | 0 => 0 | 72 => 71 | 37 => 37 | 127 => 95 | 3 => 3 | 5 => 5 | n => n, fun | n => n⟩
theorem Klays169 : Go.Proofs.Lays.n169 Try.prog Klays169_ren := {
  mixed := by kernel_rfl
  f169 := Try.func35.trans (congrArg some (by kernel_rfl))
  t0 := Try.underlying0
  a0 := Try.isAgg0
  z0 := Try.sizeOf0
  v0 := Try.zeroValue0
  t3 := Try.underlying3
  a3 := Try.isAgg3
  z3 := Try.sizeOf3
  v3 := Try.zeroValue3
  t9 := Try.underlying9
  a9 := Try.isAgg9
  z9 := Try.sizeOf9
  v9 := Try.zeroValue9
  t37 := Try.underlying37
  a37 := Try.isAgg37
  z37 := Try.sizeOf37
  v37 := Try.zeroValue37
  t70 := Try.underlying69
  a70 := Try.isAgg69
  z70 := Try.sizeOf69
  v70 := Try.zeroValue69
  t72 := Try.underlying71
  a72 := Try.isAgg71
  z72 := Try.sizeOf71
  v72 := Try.zeroValue71
  t127 := Try.underlying95
  a127 := Try.isAgg95
  z127 := Try.sizeOf95
  v127 := Try.zeroValue95 }
theorem KBuilder_Extra_169 : Builder.Extra Try.prog Klays169_ren := {
  sizeBuilder := by kernel_rfl
  liesBuilder := by kernel_rfl
  t5 := Try.underlying5
  a5 := Try.isAgg5
  z5 := Try.sizeOf5
  v5 := Try.zeroValue5
  infoByte := by kernel_rfl
  cellsByte := by kernel_rfl
  sizeByte := by kernel_rfl
  neB5 := by decide }
open Go.RowKit in
/-- (*strings.Builder).String: "String returns the accumulated string.": WHATEVER THE BUILDER HOLDS. (LAID: no walk: one application.) -/
theorem KBuilder_String_any (B b : Nat) (l : List UInt8) (w : World) (h : Lib.IsBuilder 71 5 B b (Lib.byteCells l) w) (hBw : B ≤ w.heap.size) :
    Calls Try.prog 35 #[.pointer (some ⟨b, 0, none⟩)] w fun e w' => e = .returned (.string ⟨l.toArray⟩) ∧ Below B w w' := Any.Builder_String_any Klays169 KBuilder_Extra_169 B b l w h hBw
def Klays240_ren : Go.Shelf.Ren := ⟨fun | 240 => 50 | 276 => 54 | n => n, fun | 70 => 69 | 72 => 71 | 37 => 37 | 164 => 98 | n => n, fun | n => n⟩
theorem Klays240 : Go.Proofs.Lays.n240 Try.prog Klays240_ren := {
  mixed := by kernel_rfl
  f240 := Try.func50.trans (congrArg some (by kernel_rfl))
  f276 := Try.func54.trans (congrArg some (by kernel_rfl))
  t0 := Try.underlying0
  a0 := Try.isAgg0
  z0 := Try.sizeOf0
  v0 := Try.zeroValue0
  t4 := Try.underlying4
  a4 := Try.isAgg4
  z4 := Try.sizeOf4
  v4 := Try.zeroValue4
  t9 := Try.underlying9
  a9 := Try.isAgg9
  z9 := Try.sizeOf9
  v9 := Try.zeroValue9
  t20 := Try.underlying20
  a20 := Try.isAgg20
  z20 := Try.sizeOf20
  v20 := Try.zeroValue20
  t70 := Try.underlying69
  a70 := Try.isAgg69
  z70 := Try.sizeOf69
  v70 := Try.zeroValue69
  t72 := Try.underlying71
  a72 := Try.isAgg71
  z72 := Try.sizeOf71
  v72 := Try.zeroValue71
  t164 := Try.underlying98
  a164 := Try.isAgg98
  z164 := Try.sizeOf98
  v164 := Try.zeroValue98 }
theorem KBuilder_X72_240 : Builder.X72 Try.prog Klays240_ren := {
  sizeBuilder := by kernel_rfl
  liesBuilder := by kernel_rfl }
end Go.Proofs.Ytaphmhdgpdhpiaa
namespace Go.Proofs.Ytaphmhdgpdhpiaa
open Go.RowKit Go.Shelf
set_option maxHeartbeats 4000000
set_option maxRecDepth 100000
/-- What a used builder's box holds, in a world. -/
theorem bld_box {c : Ctx} {id : Nat} {p q : PV} {te : Option Nat} (h : BRel c id (.box [p, q] te)) : ∃ g v u e, c.ν id = .pointer (some ⟨g, 0, none⟩) ∧ c.M.O g ∧ ¬ c.M.S g ∧ c.w.heap[g]? = some (.cells #[v, u] e (0, 0)) ∧ PRel c p v ∧ PRel c q u ∧ v.oneCell' = true ∧ u.oneCell' = true ∧ (∀ t, te = some t → e = t) := by
  obtain ⟨he, g, vs, e, h1, h2, h3, h4, h5, h6⟩ := h
  simp only [PRels] at h6
  obtain ⟨v, r, e1, hv, u, r2, rfl, hu, rfl⟩ := h6
  have hvs : vs = #[v, u] := by rw [← Array.toList_inj]; exact e1
  subst hvs
  refine ⟨g, v, u, e, h1, h2, h3, h4, hv, hu, h5 v (by simp), h5 u (by simp), fun t ht => ?_⟩
  obtain ⟨_, cs, fz, h7⟩ := he t ht g (by simp only [h1, blockOf])
  rw [h4] at h7
  injection h7 with h7
  injection h7
theorem look_hd {α : Type} {i : Nat} {b : α} {r : List (Nat × α)} : look i ((i, b) :: r) = some b := by simp [look]
theorem look_sd {α : Type} {a b : α} : look 1000000001 [(1000000000, a), (1000000001, b)] = some b := by
  have h : Nat.beq 1000000001 1000000000 = false := by decide
  simp only [look, h, cond_false]
  simp
theorem h_copyU (bs : List Int) (te : Option Nat) : HC env 50 [.ref 1000000000 0] [(1000000000, .box [.ref 1000000000 0, .lfull 1000000001] (some 71)), (1000000001, .arr (.int .u8) bs te)] (.tup []) [(1000000000, .box [.ref 1000000000 0, .lfull 1000000001] (some 71)), (1000000001, .arr (.int .u8) bs te)] := by
  intro w S ν vs a1 a2 a3 a4 a5 a6
  simp only [PRels] at a6
  obtain ⟨v, r, rfl, hv, rfl⟩ := a6
  obtain ⟨g, v0, u0, e, h1, h2, h3, h4, hp, hq, _⟩ := bld_box (a5.blk 1000000000 _ look_hd)
  dsimp only at h1 h2 h3 h4
  simp only [PRel] at hv hp
  obtain ⟨_, g', e1, rfl⟩ := hv
  obtain ⟨_, g2, e2, rfl⟩ := hp
  rw [h1] at e1 e2
  injection e1 with e1; injection e1 with e1; injection e1 with e1; subst e1
  injection e2 with e2; injection e2 with e2; injection e2 with e2; subst e2
  refine (Any.Builder_copyCheck_used Klays240 KBuilder_X72_240 g w (by simp [World.cell?, h4])).mono ?_
  rintro e w' ⟨rfl, rfl⟩
  refine ⟨_, rfl, Kept.refl _ _, ν, S, fun _ h => h, fun _ h => .inl h, fun _ _ _ => rfl, a5, ?_⟩
  simp only [PRel, PRels]
  exact ⟨[], rfl, rfl⟩
theorem setCell_heap {w : World} {g : Nat} {v u x : Value} {e : TypeId} (h : w.heap[g]? = some (.cells #[v, u] e (0, 0))) : (w.setCell ⟨g, 0, none⟩ x).heap[g]? = some (.cells #[x, u] e (0, 0)) := by
  simp [World.setCell, Array.getElem?_modify, h]
theorem setCell_grown (w : World) (g o : Nat) (x : Value) : GrownD w (w.setCell ⟨g, o, none⟩ x) (some g) :=
  ⟨rfl, rfl, rfl, by simp [World.setCell], fun k _ hk => Below.heap_setCell _ _ _ _ (fun e => hk (by simp [e])), fun _ => Nat.le_refl _⟩
theorem h_copyF : HC env 50 [.ref 1000000000 0] [(1000000000, .box [.nilptr, .nilsl] (some 71))] (.tup []) [(1000000000, .box [.ref 1000000000 0, .nilsl] (some 71))] := by
  intro w S ν vs a1 a2 a3 a4 a5 a6
  simp only [PRels] at a6
  obtain ⟨v, r, rfl, hv, rfl⟩ := a6
  obtain ⟨g, v0, u0, e, h1, h2, h3, h4, hp, hq, _, ho, ht⟩ := bld_box (a5.blk 1000000000 _ look_hd)
  dsimp only at h1 h2 h3 h4
  obtain rfl := ht 71 rfl
  simp only [PRel] at hv hp hq
  obtain ⟨_, g', e1, rfl⟩ := hv
  rw [h1] at e1
  injection e1 with e1; injection e1 with e1; injection e1 with e1; subst e1
  subst hp; subst hq
  refine (Any.Builder_copyCheck_fresh Klays240 KBuilder_X72_240 g w (by simp [World.cell?, h4]) (by simp [World.shape?, h4]; rfl) (by simp [World.frozen?, h4])).mono ?_
  rintro e w' ⟨rfl, rfl⟩
  have hX : foot ν [(1000000000, Blk.box [.nilptr, .nilsl] (some 71))] g := ⟨1000000000, _, look_hd, by simp only [h1, blockOf]⟩
  have hk : Kept (foot ν [(1000000000, Blk.box [.nilptr, .nilsl] (some 71))]) w (w.setCell ⟨g, 0, none⟩ (.pointer (some ⟨g, 0, none⟩))) := (Kept.refl _ _).grown (setCell_grown w g 0 _) (fun k hk => .inr (by injection hk with hk; rw [← hk]; exact hX))
  refine ⟨_, rfl, hk, ν, S, fun _ h => h, fun _ h => .inl h, fun _ _ _ => rfl, ⟨fun b hb => Nat.lt_of_lt_of_le (a5.lt b hb) hk.size, fun b hb => a5.size b (Nat.le_trans hk.size hb), fun id b hb => ?_, fun i j b c hij hi hj => ?_⟩, ?_⟩
  · simp only [look] at hb
    cases hn : Nat.beq id 1000000000 with
    | false => simp [hn] at hb
    | true =>
      have := Nat.eq_of_beq_eq_true hn
      subst this
      simp only [hn, cond_true, Option.some.injEq] at hb
      subst hb
      refine ⟨fun t ht g' hg' => ?_, g, #[.pointer (some ⟨g, 0, none⟩), .slice none 0 0], 71, h1, h2, h3, setCell_heap h4, ?_, ?_⟩
      · injection ht with ht; subst ht
        simp only [h1, blockOf, Option.some.injEq] at hg'
        subst hg'
        exact ⟨by simp only [h1, offV], _, _, setCell_heap h4⟩
      · intro u hu
        simp at hu
        rcases hu with rfl | rfl <;> rfl
      · simp only [PRels, PRel]
        exact ⟨_, _, rfl, ⟨⟨_, look_hd⟩, g, h1, rfl⟩, _, _, rfl, rfl, rfl⟩
  · simp only [look] at hi hj
    cases hn : Nat.beq i 1000000000 with
    | false => simp [hn] at hi
    | true =>
      cases hn2 : Nat.beq j 1000000000 with
      | false => simp [hn2] at hj
      | true => exact absurd ((Nat.eq_of_beq_eq_true hn).trans (Nat.eq_of_beq_eq_true hn2).symm) hij
  · simp only [PRel, PRels]
    exact ⟨[], rfl, rfl⟩
def toI (s : Str) : List Int := s.map fun c : UInt8 => (c.toNat : Int)
def toS (l : List Int) : Str := l.map fun n : Int => UInt8.ofNat n.toNat
theorem toS_toI (s : Str) : toS (toI s) = s := by
  unfold toS toI
  rw [List.map_map]
  conv => rhs; rw [← List.map_id s]
  apply List.map_congr_left
  intro c _
  simp
theorem toI_app (s t : Str) : toI (s ++ t) = toI s ++ toI t := List.map_append ..
theorem h_writeF (s : Str) (hs : s.length ≤ 1000000000) : HC env 34 [.ref 1000000000 0, .iv .str s] [(1000000000, .box [.nilptr, .nilsl] (some 71))] (.tup [.iv (.int .i64) (s.length : Int), .any]) [(1000000000, .box [.ref 1000000000 0, .lfull 14] (some 71)), (14, .arr (.int .u8) (toI s) (some 5))] := by
  refine HC.of_PW (m := 2000) env_ok fn_34 rfl rfl rfl rfl (by kernel_rfl) ?_; intro hx hbl; simp only [Try.f34]; simp only [go_sem, Nat.reduceBEq, ↓reduceIte, ↓reduceDIte, Nat.reduceAdd, Nat.reduceSub, Nat.reduceMul, Nat.reduceLeDiff, ← Bool.decide_and, ← Bool.decide_or, ← decide_not, Int.reduceLT, Int.reduceLE, Int.reduceToNat, Int.reduceNeg]
  refine ⟨_, _, h_copyF, rfl, ?_⟩
  simp only [go_sem, Nat.reduceBEq, ↓reduceIte, ↓reduceDIte, Nat.reduceAdd, Nat.reduceSub, Nat.reduceMul, Nat.reduceLeDiff, ← Bool.decide_and, ← Bool.decide_or, ← decide_not, Int.reduceLT, Int.reduceLE, Int.reduceToNat, Int.reduceNeg]
  intro _
  exact ⟨by rw [List.length_map]; omega, rfl⟩
theorem h_writeU (bs : List Int) (s : Str) (hs : bs.length + s.length ≤ 1000000000) : HC env 34 [.ref 1000000000 0, .iv .str s] [(1000000000, .box [.ref 1000000000 0, .lfull 1000000001] (some 71)), (1000000001, .arr (.int .u8) bs (some 5))] (.tup [.iv (.int .i64) (s.length : Int), .any]) [(1000000000, .box [.ref 1000000000 0, .lfull 14] (some 71)), (14, .arr (.int .u8) (bs ++ toI s) (some 5))] := by
  refine HC.of_PW (m := 2000) env_ok fn_34 rfl rfl rfl rfl (by kernel_rfl) ?_; intro hx hbl; simp only [Try.f34]; simp (config := {maxSteps := 4000000}) only [go_sem, Nat.reduceBEq, ↓reduceIte, ↓reduceDIte, Nat.reduceAdd, Nat.reduceSub, Nat.reduceMul, Nat.reduceLeDiff, ← Bool.decide_and, ← Bool.decide_or, ← decide_not, Int.reduceLT, Int.reduceLE, Int.reduceToNat, Int.reduceNeg]
  refine ⟨_, _, h_copyU _ _, rfl, ?_⟩
  simp (config := {maxSteps := 4000000}) only [go_sem, Nat.reduceBEq, ↓reduceIte, ↓reduceDIte, Nat.reduceAdd, Nat.reduceSub, Nat.reduceMul, Nat.reduceLeDiff, ← Bool.decide_and, ← Bool.decide_or, ← decide_not, Int.reduceLT, Int.reduceLE, Int.reduceToNat, Int.reduceNeg]
  intro _
  exact ⟨by rw [List.length_map]; omega, rfl⟩
/-- String of a builder that holds a byte: the model freezes the bytes in the buffer. -/
theorem str_walk (b g cap : Nat) (p : Value) (cur : Array Value) (l : Str) (w : World) (h0 : l ≠ []) (hbk : w.heap[b]? = some (.cells #[p, .slice (some ⟨g, 0, none⟩) l.length cap] 71 (0, 0))) (hg : w.heap[g]? = some (.cells cur 5 (0, 0))) (hlc : l.length ≤ cap) (hcs : l.length ≤ cur.size) (h63 : l.length ≤ 9223372036854775807)
    (hcell : ∀ j x, l[j]? = some x → w.cell? ⟨g, j, none⟩ = some (.int .u8 x.toNat)) :
    Calls Try.prog 35 #[.pointer (some ⟨b, 0, none⟩)] w fun e w' => e = .returned (.string ⟨l.toArray⟩) ∧ w' = w.drew.freeze ⟨g, 0, none⟩ l.length := by
  have hl0 : l.length ≠ 0 := by simpa using h0
  have c1 : w.drew.cell? ⟨b, 1, none⟩ = some (.slice (some ⟨g, 0, none⟩) l.length cap) := by
    have : w.drew.heap[b]? = some (.cells #[p, .slice (some ⟨g, 0, none⟩) l.length cap] 71 (0, 0)) := hbk
    rw [Lib.cell_of_heap this]; rfl
  have hSD : (Builtin.unsafeSliceData_ #[37] 95 #[.slice (some ⟨g, 0, none⟩) l.length cap]).run Try.prog w.drew = .ok (.pointer (some ⟨g, 0, none⟩)) w.drew :=
    Lib.run_unsafeSliceData_row _ _ _ _ _ _ (by omega)
  have hUS : (Builtin.unsafeString_ #[95, 3] 9 #[.pointer (some ⟨g, 0, none⟩), .int .i64 l.length]).run Try.prog w.drew = .ok (.string ⟨l.toArray⟩) (w.drew.freeze ⟨g, 0, none⟩ l.length) := by
    refine Lib.run_unsafeString_row w.drew 95 3 9 5 (by kernel_rfl) (by kernel_rfl) g cur.size (by have hg' : w.drew.heap[g]? = some (.cells cur 5 (0, 0)) := hg; simp [World.shape?, hg']) l h0 hcs h63 ?_
    intro j x hx
    have := hcell j x hx
    rw [addr_add, Nat.zero_add]
    exact this
  go_enter Try.func35, Try.ntmps35
  go_wp2
  go_region
  all_goals (go_wp2; go_ret; exact ⟨rfl, rfl⟩)
theorem freeze_grown (w : World) (p : Addr) (n : Nat) : GrownD w (w.drew.freeze p n) (some p.block) := by
  unfold World.freeze
  split
  · exact ⟨rfl, rfl, rfl, Nat.le_refl _, fun _ _ _ => rfl, fun _ => Nat.le_succ _⟩
  · refine ⟨rfl, rfl, rfl, Nat.le_of_eq (by simp only [Array.size_modify]; rfl), fun k _ hk => ?_, fun _ => Nat.le_succ _⟩
    simp only [Array.getElem?_modify]
    rw [if_neg (fun e => hk (by rw [e]))]
    rfl
theorem postH_str {w w' : World} {S : Nat → Prop} {ν : Nat → Value} {bl : List (Nat × Blk)} {s : Str} {v : Value} {b : Nat} {x y : Value} (hW : WRel ⟨[], bl⟩ ν w ⟨S, own0 w ⟨S, foot ν bl, ν, []⟩⟩) (hk : Kept (foot ν bl) w w') (h1 : ν 1000000000 = .pointer (some ⟨b, 0, none⟩)) (h2 : own0 w ⟨S, foot ν bl, ν, []⟩ b) (h3 : ¬ S b) (h4 : w'.heap[b]? = some (.cells #[x, y] 71 (0, 0))) (hx : x.oneCell' = true) (hy : y.oneCell' = true) (hv : v = .string ⟨s.toArray⟩) (hl : s.length ≤ 9223372036854775807) : PostH w ⟨S, foot ν bl, ν, []⟩ (.iv .str s) [(1000000000, .box [.any, .any] (some 71))] v w' := by
  refine ⟨hk, ν, S, fun _ h => h, fun _ h => .inl h, fun _ _ _ => rfl, ⟨fun b hb => Nat.lt_of_lt_of_le (hW.lt b hb) hk.size, fun b hb => hW.size b (Nat.le_trans hk.size hb), fun id b hb => ?_, fun i j b c hij hi hj => ?_⟩, ?_⟩
  · simp only [look] at hb
    cases hn : Nat.beq id 1000000000 with
    | false => simp [hn] at hb
    | true =>
      have := Nat.eq_of_beq_eq_true hn
      subst this
      simp only [hn, cond_true, Option.some.injEq] at hb
      subst hb
      refine ⟨fun t ht g' hg' => ?_, _, #[x, y], 71, h1, h2, h3, h4, ?_, ?_⟩
      · injection ht with ht; subst ht
        simp only [h1, blockOf, Option.some.injEq] at hg'
        subst hg'
        exact ⟨by simp only [h1, offV], _, _, h4⟩
      · intro u hu
        simp at hu
        rcases hu with rfl | rfl <;> assumption
      · simp only [PRels, PRel]
        exact ⟨_, _, rfl, trivial, _, _, rfl, trivial, rfl⟩
  · simp only [look] at hi hj
    cases hn : Nat.beq i 1000000000 with
    | false => simp [hn] at hi
    | true =>
      cases hn2 : Nat.beq j 1000000000 with
      | false => simp [hn2] at hj
      | true => exact absurd ((Nat.eq_of_beq_eq_true hn).trans (Nat.eq_of_beq_eq_true hn2).symm) hij
  · simp only [PRel]
    subst hv
    exact ⟨rfl, rfl, hl⟩
theorem below_kept {X : Nat → Prop} {w w' : World} (h : Below w.heap.size w w') : Kept X w w' := ⟨h.os, h.tape, h.output, h.size, fun k hk _ => h.block k hk, fun hd => hd.elim⟩
theorem toS_at {bs : List Int} {j : Nat} {x : UInt8} (h : (toS bs)[j]? = some x) (hb : ∀ y, y ∈ bs → 0 ≤ y ∧ y ≤ 255) : ∃ y, bs[j]? = some y ∧ y = (x.toNat : Int) := by
  unfold toS at h
  rw [List.getElem?_map] at h
  cases hy : bs[j]? with
  | none => rw [hy] at h; cases h
  | some y =>
    rw [hy] at h
    injection h with h
    have := hb y (List.mem_of_getElem? hy)
    refine ⟨y, rfl, ?_⟩
    rw [← h]
    simp only [UInt8.toNat_ofNat']
    omega
theorem h_writeV (bs : List Int) (s : Str) (hs : bs.length + s.length ≤ 1000000000) : HC env 34 [.ref 1000000000 0, .iv .str s] [(1000000000, .box [.ref 1000000000 0, .lfull 1000000001] (some 71)), (1000000001, .arr (.int .u8) bs (some 5))] (.tup [.iv (.int .i64) (s.length : Int), .any]) [(1000000000, .box [.ref 1000000000 0, .lfull 15] (some 71)), (15, .arr (.int .u8) (bs ++ toI s) (some 5))] := (h_writeU bs s hs).ren [(14, 15), (15, 14)] rfl
theorem h_strU (bs : List Int) : HC env 35 [.ref 1000000000 0] [(1000000000, .box [.ref 1000000000 0, .lfull 1000000001] (some 71)), (1000000001, .arr (.int .u8) bs (some 5))] (.iv .str (toS bs)) [(1000000000, .box [.any, .any] (some 71))] := by
  intro w S ν vs a1 a2 a3 a4 a5 a6
  simp only [PRels] at a6
  obtain ⟨v, r, rfl, hv, rfl⟩ := a6
  obtain ⟨b, v0, u0, e, h1, h2, h3, h4, hp, hq, ho1, ho2, ht⟩ := bld_box (a5.blk 1000000000 _ look_hd)
  dsimp only at h1 h2 h3 h4
  have hbl0 : b < w.heap.size := (Array.getElem?_eq_some_iff.mp h4).1
  obtain rfl := ht 71 rfl
  simp only [PRel] at hv hq
  obtain ⟨_, g', e1, rfl⟩ := hv
  rw [h1] at e1
  injection e1 with e1; injection e1 with e1; injection e1 with e1; subst e1
  obtain ⟨_, hu, an, am, ac, _⟩ := hq
  obtain ⟨hty, hoT, hown⟩ := a5.blk 1000000001 (.arr (.int .u8) bs (some 5)) look_sd
  dsimp only at hu hown hty
  rw [← hu] at hown hty
  have hbl := hown
  obtain ⟨u, hu', hlen, hcase⟩ := hown
  injection hu' with hu'
  subst hu'
  have hrange : ∀ y, y ∈ bs → 0 ≤ y ∧ y ≤ 255 := fun y hy => u8_of ((RepC_ok _ _ _ _ _ hbl).2 y hy)
  have hX : ∀ g, blockOf u0 = some g → foot ν [(1000000000, Blk.box [.ref 1000000000 0, .lfull 1000000001] (some 71)), (1000000001, Blk.arr (.int .u8) bs (some 5))] g := fun g hg => ⟨1000000001, _, look_sd, by rw [← hu]; exact hg⟩
  have hnil : (toS []) = [] := rfl
  rcases hcase with ⟨rfl, rfl⟩ | ⟨g, o, cap, cur, e, rfl, g1, g2, g3, g4, g5, g6, g7⟩
  · refine (Any.Builder_String_nil Klays169 KBuilder_Extra_169 w.heap.size b v0 w h4).mono ?_
    rintro e w' ⟨rfl, hb⟩
    exact ⟨_, rfl, postH_str a5 (below_kept hb) h1 h2 h3 ((hb.block b hbl0).trans h4) ho1 ho2 rfl (by simp [hnil])⟩
  · obtain ⟨ho, cs, fz, hc5⟩ := hty 5 rfl g rfl
    simp only [offV] at ho
    subst ho
    rw [g5] at hc5
    injection hc5 with hc5
    injection hc5 with _ hc5
    subst hc5
    cases bs with
    | nil =>
      by_cases hc0 : cap = 0
      · subst hc0
        refine (Any.Builder_String_noroom Klays169 KBuilder_Extra_169 w.heap.size b g v0 cur w (Nat.le_refl _) h4 g5).mono ?_
        rintro e w' ⟨rfl, hb⟩
        exact ⟨_, rfl, postH_str a5 (below_kept hb) h1 h2 h3 ((hb.block b hbl0).trans h4) ho1 ho2 rfl (by simp [hnil])⟩
      · refine (Any.Builder_String_room Klays169 KBuilder_Extra_169 w.heap.size b g cap v0 w hc0 h4).mono ?_
        rintro e w' ⟨rfl, hb⟩
        exact ⟨_, rfl, postH_str a5 (below_kept hb) h1 h2 h3 ((hb.block b hbl0).trans h4) ho1 ho2 rfl (by simp [hnil])⟩
    | cons y bs' =>
      have hl : (toS (y :: bs')).length = (y :: bs').length := List.length_map ..
      rw [← hl] at h4 g1 hlen
      have hc1 : (Ty.int .u8).cells = 1 := rfl
      rw [hc1, Nat.mul_one] at g6
      refine (str_walk b g cap v0 cur (toS (y :: bs')) w (by simp [toS]) h4 g5 g1 (by omega) hlen fun j x hx => ?_).mono ?_
      · obtain ⟨z, hz, hzx⟩ := toS_at hx hrange
        obtain ⟨cs, c1, c2, c3, _⟩ := g7 j z hz
        subst c3
        have := c2 0 _ rfl
        rw [hzx] at this
        simpa [Ty.cells] using this
      · rintro e w' ⟨rfl, rfl⟩
        have hbg : b ≠ g := fun e => a5.ne 1000000000 1000000001 _ _ (by omega) look_hd look_sd b (by simp only [h1, blockOf]) (by rw [← hu, e]; rfl)
        refine ⟨_, rfl, postH_str a5 ((Kept.refl _ _).grown (freeze_grown w ⟨g, 0, none⟩ _) fun k hk => .inr (by injection hk with hk; rw [← hk]; exact hX g rfl)) h1 h2 h3 ?_ ho1 ho2 rfl hlen⟩
        rw [hl] at h4
        refine Eq.trans ?_ h4
        exact (freeze_grown w ⟨g, 0, none⟩ _).block b hbl0 (fun e => hbg (by injection e with e))
theorem h_strF : HC env 35 [.ref 1000000000 0] [(1000000000, .box [.nilptr, .nilsl] (some 71))] (.iv .str ([] : Str)) [(1000000000, .box [.any, .any] (some 71))] := by
  intro w S ν vs a1 a2 a3 a4 a5 a6
  simp only [PRels] at a6
  obtain ⟨v, r, rfl, hv, rfl⟩ := a6
  obtain ⟨b, v0, u0, e, h1, h2, h3, h4, hp, hq, ho1, ho2, ht⟩ := bld_box (a5.blk 1000000000 _ look_hd)
  dsimp only at h1 h2 h3 h4
  have hbl0 : b < w.heap.size := (Array.getElem?_eq_some_iff.mp h4).1
  obtain rfl := ht 71 rfl
  simp only [PRel] at hv hq
  obtain ⟨_, g', e1, rfl⟩ := hv
  rw [h1] at e1
  injection e1 with e1; injection e1 with e1; injection e1 with e1; subst e1
  subst hq
  refine (Any.Builder_String_nil Klays169 KBuilder_Extra_169 w.heap.size b v0 w h4).mono ?_
  rintro e w' ⟨rfl, hb⟩
  exact ⟨_, rfl, postH_str a5 (below_kept hb) h1 h2 h3 ((hb.block b hbl0).trans h4) ho1 ho2 rfl (by simp)⟩
end Go.Proofs.Ytaphmhdgpdhpiaa
--SET+ bldB, Int.reduceEq, not_true_eq_false, not_false_eq_true, false_implies
namespace Go.Proofs.Ytaphmhdgpdhpiaa
set_option maxHeartbeats 4000000
set_option maxRecDepth 100000
abbrev RunD := Str × Str × Int × Int × Bool
def runA (rs : List Rl) : List Int → Str → Str → Int → Int → RunD
  | [], a, b, c, m => (a, b, c, m, true)
  | i :: l, a, b, c, m => if 0 ≤ i then (match rs[i.toNat]? with
      | some r => if r.1 = m then runA rs l (a ++ r.2.2.1) (b ++ r.2.2.2.1) (c + r.2.2.2.2) r.2.1 else ([], [], 0, 0, false)
      | none => ([], [], 0, 0, false)) else ([], [], 0, 0, false)
def runE (s : Sch) (l : List Int) : RunD := runA s.2.2 l [] [] 0 0
theorem runA_neg {rs : List Rl} {i : Int} {l : List Int} {a b : Str} {c m : Int} (h : i < 0) : runA rs (i :: l) a b c m = ([], [], 0, 0, false) := by
  unfold runA; rw [if_neg (by omega)]
theorem runA_big {rs : List Rl} {i : Int} {l : List Int} {a b : Str} {c m : Int} (h : (rs.length : Int) ≤ i) : runA rs (i :: l) a b c m = ([], [], 0, 0, false) := by
  unfold runA; rw [if_pos (by omega), List.getElem?_eq_none (by omega)]
theorem runA_off {rs : List Rl} {i : Int} {l : List Int} {a b : Str} {c m : Int} {r : Rl} (h0 : 0 ≤ i) (hr : rs[i.toNat]? = some r) (h : ¬ r.1 = m) : runA rs (i :: l) a b c m = ([], [], 0, 0, false) := by
  unfold runA; rw [if_pos h0, hr]; dsimp only; rw [if_neg h]
theorem runA_step {rs : List Rl} {i : Int} {l : List Int} {a b : Str} {c m : Int} {r : Rl} (h0 : 0 ≤ i) (hr : rs[i.toNat]? = some r) (h : r.1 = m) : runA rs (i :: l) a b c m = runA rs l (a ++ r.2.2.1) (b ++ r.2.2.2.1) (c + r.2.2.2.2) r.2.1 := by
  conv => lhs; unfold runA
  rw [if_pos h0, hr]; dsimp only; rw [if_pos h]
/-- The builders' blocks, before the first word and after an odd or even number of words. -/
def bldB : Option Bool → Str → Str → List (Nat × Blk)
  | none, _, _ => [(5, .box [.nilptr, .nilsl] (some 71)), (6, .box [.nilptr, .nilsl] (some 71))]
  | some false, a, b => [(5, .box [.ref 5 0, .lfull 4600014] (some 71)), (4600014, .arr (.int .u8) (toI a) (some 5)), (6, .box [.ref 6 0, .lfull 4900014] (some 71)), (4900014, .arr (.int .u8) (toI b) (some 5))]
  | some true, a, b => [(5, .box [.ref 5 0, .lfull 4600015] (some 71)), (4600015, .arr (.int .u8) (toI a) (some 5)), (6, .box [.ref 6 0, .lfull 4900015] (some 71)), (4900015, .arr (.int .u8) (toI b) (some 5))]
theorem c_RunR (s : Sch) (l : List Int) (hs : OkS s) (hl : l.length ≤ 100000) : PC env 16 [⟨SchemeT, s⟩, ⟨.sl (.int .i64), l⟩] RunT (runE s l) := by
  obtain ⟨n, ac, rs⟩ := s
  have hlen := hs.len
  have hright := hs.right
  dsimp only at hlen hright
  have hE : runE (n, ac, rs) l = runA rs l [] [] 0 0 := rfl
  rw [hE]
  clear hE
  refine PC.of_PW (m := 2000) env_ok fn_16 rfl rfl rfl rfl (by kernel_rfl) ?_; intro hx; simp only [Try.f16]; simp only [go_sem, Nat.reduceBEq, ↓reduceIte, ↓reduceDIte, Nat.reduceAdd, Nat.reduceSub, Nat.reduceMul, Nat.reduceLeDiff, ← Bool.decide_and, ← Bool.decide_or, ← decide_not, Int.reduceLT, Int.reduceLE, Int.reduceToNat, Int.reduceNeg, bldB, Int.reduceEq, not_true_eq_false, not_false_eq_true, false_implies]
  generalize hT : runA rs l [] [] 0 0 = T
  refine Walks.loopA (X := Nat × Str × Str × Int × Int) (fun (z : Nat × Str × Str × Int × Int) => [(6, .iv (.int .i64) (z.1 : Int)), (7, .any)]) (fun (z : Nat × Str × Str × Int × Int) => [(5, .box [.iv .str z.2.1, .iv .str z.2.2.1, .iv (.int .i64) z.2.2.2.1, .iv (.int .i64) z.2.2.2.2, .iv .bool true])]) (fun (z : Nat × Str × Str × Int × Int) => z.1 ≤ l.length ∧ z.2.1.length ≤ 4 * z.1 ∧ z.2.2.1.length ≤ 4 * z.1 ∧ 0 ≤ z.2.2.2.1 ∧ z.2.2.2.1 ≤ 1000 * (z.1 : Int) ∧ runA rs (l.drop z.1) z.2.1 z.2.2.1 z.2.2.2.1 z.2.2.2.2 = T) (fun (z : Nat × Str × Str × Int × Int) => l.length - z.1) (0, [], [], 0, 0) ?_; intro b1 b2 hb1 hb2; simp (config := {maxSteps := 4000000}) only [go_sem, Nat.reduceBEq, ↓reduceIte, ↓reduceDIte, Nat.reduceAdd, Nat.reduceSub, Nat.reduceMul, Nat.reduceLeDiff, ← Bool.decide_and, ← Bool.decide_or, ← decide_not, Int.reduceLT, Int.reduceLE, Int.reduceToNat, Int.reduceNeg, bldB, Int.reduceEq, not_true_eq_false, not_false_eq_true, false_implies] at hb1 hb2; subst hb1; subst hb2; refine ⟨(by refine ⟨?_, ?_, rfl, rfl⟩ <;> repeat' (first | exact trivial | exact Or.inl rfl | exact Or.inr rfl | (refine And.intro (Or.inl rfl) ?_) | (refine And.intro (Or.inr (Or.inl rfl)) ?_) | (refine And.intro (Or.inr (Or.inr (Or.inr ⟨rfl, rfl⟩))) ?_) | (refine And.intro (Or.inr (Or.inr (Or.inl ⟨rfl, rfl, trivial⟩))) ?_) | exact ⟨(by show (_ : Nat) < 1000000000; omega), rfl, rfl⟩ | rfl | (refine And.intro (Or.inl ?_) ?_) | (refine And.intro ?_ ?_))), ?_, ?_⟩
  · exact ⟨Nat.zero_le _, Nat.le_refl _, Nat.le_refl _, Int.le_refl _, Int.le_refl _, hT⟩
  clear hT
  intro ⟨i, a, b, c, m⟩ ⟨hi, ha, hb, hc0, hc, hT⟩ back
  dsimp only at hi ha hb hc0 hc hT
  refine PW_sound env_ok ⟨_, fn_16, rfl⟩ 2000 _ _ (by kernel_rfl) ?_; simp only [go_sem, Nat.reduceBEq, ↓reduceIte, ↓reduceDIte, Nat.reduceAdd, Nat.reduceSub, Nat.reduceMul, Nat.reduceLeDiff, ← Bool.decide_and, ← Bool.decide_or, ← decide_not, Int.reduceLT, Int.reduceLE, Int.reduceToNat, Int.reduceNeg, bldB, Int.reduceEq, not_true_eq_false, not_false_eq_true, false_implies]
  refine ⟨fun g1 => ?_, fun g1 => ?_⟩
  · obtain ⟨j, hj⟩ : ∃ j, l[i]? = some j := get_of_lt (by omega)
    rw [drop_cons hj] at hT
    have fail : runA rs (j :: l.drop (i + 1)) a b c m = ([], [], 0, 0, false) → (([], [], 0, 0, false) : RunD) = T := fun h => by rw [← hT, h]
    refine ⟨Int.natCast_nonneg _, j, hj, fun q1 => ⟨Int.natCast_nonneg _, j, hj, fun q2 => ?_, fun q2 => fail (runA_big (by omega))⟩, fun q1 => fail (runA_neg (by omega))⟩
    obtain ⟨r, hr⟩ : ∃ r, rs[j.toNat]? = some r := get_of_lt (by omega)
    have hrn := right_nums (hright r (List.mem_of_getElem? hr))
    refine ⟨Int.natCast_nonneg _, j, hj, by omega, r, hr, fun q3 => fail (runA_off (by omega) hr q3), fun q3 => ?_⟩
    rw [runA_step (by omega) hr q3] at hT
    refine ⟨Int.natCast_nonneg _, j, hj, by omega, r, hr, by omega, by omega, i64_ok (by omega) (by omega), i64_ok (by omega) (by omega), ?_⟩
    exact back _ (i + 1, a ++ r.2.2.1, b ++ r.2.2.2.1, c + r.2.2.2.2, r.2.1) (by refine ⟨?_, ?_, rfl, rfl⟩ <;> repeat' (first | exact trivial | exact Or.inl rfl | exact Or.inr rfl | (refine And.intro (Or.inl rfl) ?_) | (refine And.intro (Or.inr (Or.inl rfl)) ?_) | (refine And.intro (Or.inr (Or.inr (Or.inr ⟨rfl, rfl⟩))) ?_) | (refine And.intro (Or.inr (Or.inr (Or.inl ⟨rfl, rfl, trivial⟩))) ?_) | exact ⟨(by show (_ : Nat) < 1000000000; omega), rfl, rfl⟩ | rfl | (refine And.intro (Or.inl ?_) ?_) | (refine And.intro ?_ ?_))) ⟨by dsimp only; omega, by dsimp only; rw [List.length_append]; omega, by dsimp only; rw [List.length_append]; omega, by dsimp only; omega, by dsimp only; omega, hT⟩ (by dsimp only; omega)
  · rw [List.drop_of_length_le (by omega)] at hT
    rw [← hT]; rfl
theorem toI_len (a : Str) : (toI a).length = a.length := List.length_map ..
theorem c_Run (s : Sch) (l : List Int) (hs : OkS s) (hl : l.length ≤ 100000) : PC env 15 [⟨SchemeT, s⟩, ⟨.sl (.int .i64), l⟩] RunT (runE s l) := by
  obtain ⟨n, ac, rs⟩ := s
  have hlen := hs.len
  have hright := hs.right
  dsimp only at hlen hright
  have hE : runE (n, ac, rs) l = runA rs l [] [] 0 0 := rfl
  rw [hE]
  clear hE
  refine PC.of_PW (m := 2000) env_ok fn_15 rfl rfl rfl rfl (by kernel_rfl) ?_; intro hx; simp only [Try.f15]; simp only [go_sem, Nat.reduceBEq, ↓reduceIte, ↓reduceDIte, Nat.reduceAdd, Nat.reduceSub, Nat.reduceMul, Nat.reduceLeDiff, ← Bool.decide_and, ← Bool.decide_or, ← decide_not, Int.reduceLT, Int.reduceLE, Int.reduceToNat, Int.reduceNeg, bldB, Int.reduceEq, not_true_eq_false, not_false_eq_true, false_implies]
  generalize hT : runA rs l [] [] 0 0 = T
  refine Walks.loopA (X := Option Bool × Nat × Str × Str × Int × Int) (fun (z : Option Bool × Nat × Str × Str × Int × Int) => [(14, .iv (.int .i64) (z.2.1 : Int)), (7, .iv (.int .i64) z.2.2.2.2.2), (8, .iv (.int .i64) z.2.2.2.2.1), (11, .any)]) (fun (z : Option Bool × Nat × Str × Str × Int × Int) => bldB z.1 z.2.2.1 z.2.2.2.1) (fun (z : Option Bool × Nat × Str × Str × Int × Int) => z.2.1 ≤ l.length ∧ z.2.2.1.length ≤ 4 * z.2.1 ∧ z.2.2.2.1.length ≤ 4 * z.2.1 ∧ 0 ≤ z.2.2.2.2.1 ∧ z.2.2.2.2.1 ≤ 1000 * (z.2.1 : Int) ∧ (z.1 = none → z.2.2.1 = [] ∧ z.2.2.2.1 = []) ∧ runA rs (l.drop z.2.1) z.2.2.1 z.2.2.2.1 z.2.2.2.2.1 z.2.2.2.2.2 = T) (fun (z : Option Bool × Nat × Str × Str × Int × Int) => l.length - z.2.1) (none, 0, [], [], 0, 0) ?_; intro b1 b2 hb1 hb2; simp (config := {maxSteps := 4000000}) only [go_sem, Nat.reduceBEq, ↓reduceIte, ↓reduceDIte, Nat.reduceAdd, Nat.reduceSub, Nat.reduceMul, Nat.reduceLeDiff, ← Bool.decide_and, ← Bool.decide_or, ← decide_not, Int.reduceLT, Int.reduceLE, Int.reduceToNat, Int.reduceNeg, bldB, Int.reduceEq, not_true_eq_false, not_false_eq_true, false_implies] at hb1 hb2; subst hb1; subst hb2; refine ⟨(by refine ⟨?_, ?_, rfl, rfl⟩ <;> repeat' (first | exact trivial | exact Or.inl rfl | exact Or.inr rfl | (refine And.intro (Or.inl rfl) ?_) | (refine And.intro (Or.inr (Or.inl rfl)) ?_) | (refine And.intro (Or.inr (Or.inr (Or.inr ⟨rfl, rfl⟩))) ?_) | (refine And.intro (Or.inr (Or.inr (Or.inl ⟨rfl, rfl, trivial⟩))) ?_) | exact ⟨(by show (_ : Nat) < 1000000000; omega), rfl, rfl⟩ | rfl | (refine And.intro (Or.inl ?_) ?_) | (refine And.intro ?_ ?_))), ?_, ?_⟩
  · exact ⟨Nat.zero_le _, Nat.le_refl _, Nat.le_refl _, Int.le_refl _, Int.le_refl _, fun _ => ⟨rfl, rfl⟩, hT⟩
  clear hT
  intro ⟨used, i, a, b, c, m⟩ ⟨hi, ha, hb, hc0, hc, hu, hT⟩ back
  dsimp only at hi ha hb hc0 hc hu hT
  have common : ∀ j, l[i]? = some j → (runA rs (j :: l.drop (i + 1)) a b c m = ([], [], 0, 0, false) → (([], [], 0, 0, false) : RunD) = T) := fun j hj h => by rw [drop_cons hj] at hT; rw [← hT, h]
  rcases used with _ | _ | _
  · obtain ⟨rfl, rfl⟩ := hu rfl
    refine PW_sound env_ok ⟨_, fn_15, rfl⟩ 2000 _ _ (by kernel_rfl) ?_; simp only [go_sem, Nat.reduceBEq, ↓reduceIte, ↓reduceDIte, Nat.reduceAdd, Nat.reduceSub, Nat.reduceMul, Nat.reduceLeDiff, ← Bool.decide_and, ← Bool.decide_or, ← decide_not, Int.reduceLT, Int.reduceLE, Int.reduceToNat, Int.reduceNeg, bldB, Int.reduceEq, not_true_eq_false, not_false_eq_true, false_implies]
    refine ⟨fun g1 => ?_, fun g1 => ?_⟩
    · obtain ⟨j, hj⟩ : ∃ j, l[i]? = some j := get_of_lt (by omega)
      have fail := common j hj
      rw [drop_cons hj] at hT
      refine ⟨Int.natCast_nonneg _, j, hj, fun q1 => ⟨fun q2 => ?_, fun q2 => fail (runA_big (by omega))⟩, fun q1 => fail (runA_neg (by omega))⟩
      obtain ⟨r, hr⟩ : ∃ r, rs[j.toNat]? = some r := get_of_lt (by omega)
      have hrn := right_nums (hright r (List.mem_of_getElem? hr))
      refine ⟨by omega, r, hr, fun q3 => fail (runA_off (by omega) hr q3), fun q3 => ?_⟩
      rw [runA_step (by omega) hr q3] at hT
      refine ⟨by omega, r, hr, _, _, h_writeF _ (by omega), rfl, ?_⟩
      simp (config := {maxSteps := 4000000}) only [go_sem, Nat.reduceBEq, ↓reduceIte, ↓reduceDIte, Nat.reduceAdd, Nat.reduceSub, Nat.reduceMul, Nat.reduceLeDiff, ← Bool.decide_and, ← Bool.decide_or, ← decide_not, Int.reduceLT, Int.reduceLE, Int.reduceToNat, Int.reduceNeg, bldB, Int.reduceEq, not_true_eq_false, not_false_eq_true, false_implies]
      intro _
      refine ⟨_, _, h_writeF _ (by omega), rfl, ?_⟩
      simp (config := {maxSteps := 4000000}) only [go_sem, Nat.reduceBEq, ↓reduceIte, ↓reduceDIte, Nat.reduceAdd, Nat.reduceSub, Nat.reduceMul, Nat.reduceLeDiff, ← Bool.decide_and, ← Bool.decide_or, ← decide_not, Int.reduceLT, Int.reduceLE, Int.reduceToNat, Int.reduceNeg, bldB, Int.reduceEq, not_true_eq_false, not_false_eq_true, false_implies]
      intro _
      refine ⟨i64_ok (by omega) (by omega), i64_ok (by omega) (by omega), ?_⟩
      exact back _ (some false, i + 1, r.2.2.1, r.2.2.2.1, c + r.2.2.2.2, r.2.1) (by refine ⟨?_, ?_, rfl, rfl⟩ <;> repeat' (first | exact trivial | exact Or.inl rfl | exact Or.inr rfl | (refine And.intro (Or.inl rfl) ?_) | (refine And.intro (Or.inr (Or.inl rfl)) ?_) | (refine And.intro (Or.inr (Or.inr (Or.inr ⟨rfl, rfl⟩))) ?_) | (refine And.intro (Or.inr (Or.inr (Or.inl ⟨rfl, rfl, trivial⟩))) ?_) | exact ⟨(by show (_ : Nat) < 1000000000; omega), rfl, rfl⟩ | rfl | (refine And.intro (Or.inl ?_) ?_) | (refine And.intro ?_ ?_))) ⟨by dsimp only; omega, by dsimp only; omega, by dsimp only; omega, by dsimp only; omega, by dsimp only; omega, (fun h => nomatch h), hT⟩ (by dsimp only; omega)
    · rw [List.drop_of_length_le (by omega)] at hT
      refine ⟨_, _, h_strF, rfl, ?_⟩
      simp (config := {maxSteps := 4000000}) only [go_sem, Nat.reduceBEq, ↓reduceIte, ↓reduceDIte, Nat.reduceAdd, Nat.reduceSub, Nat.reduceMul, Nat.reduceLeDiff, ← Bool.decide_and, ← Bool.decide_or, ← decide_not, Int.reduceLT, Int.reduceLE, Int.reduceToNat, Int.reduceNeg, bldB, Int.reduceEq, not_true_eq_false, not_false_eq_true, false_implies]
      intro _
      refine ⟨_, _, h_strF, rfl, ?_⟩
      simp (config := {maxSteps := 4000000}) only [go_sem, Nat.reduceBEq, ↓reduceIte, ↓reduceDIte, Nat.reduceAdd, Nat.reduceSub, Nat.reduceMul, Nat.reduceLeDiff, ← Bool.decide_and, ← Bool.decide_or, ← decide_not, Int.reduceLT, Int.reduceLE, Int.reduceToNat, Int.reduceNeg, bldB, Int.reduceEq, not_true_eq_false, not_false_eq_true, false_implies]
      intro _
      rw [← hT]; rfl
  · refine PW_sound env_ok ⟨_, fn_15, rfl⟩ 2000 _ _ (by kernel_rfl) ?_; simp only [go_sem, Nat.reduceBEq, ↓reduceIte, ↓reduceDIte, Nat.reduceAdd, Nat.reduceSub, Nat.reduceMul, Nat.reduceLeDiff, ← Bool.decide_and, ← Bool.decide_or, ← decide_not, Int.reduceLT, Int.reduceLE, Int.reduceToNat, Int.reduceNeg, bldB, Int.reduceEq, not_true_eq_false, not_false_eq_true, false_implies]
    refine ⟨fun g1 => ?_, fun g1 => ?_⟩
    · obtain ⟨j, hj⟩ : ∃ j, l[i]? = some j := get_of_lt (by omega)
      have fail := common j hj
      rw [drop_cons hj] at hT
      refine ⟨Int.natCast_nonneg _, j, hj, fun q1 => ⟨fun q2 => ?_, fun q2 => fail (runA_big (by omega))⟩, fun q1 => fail (runA_neg (by omega))⟩
      obtain ⟨r, hr⟩ : ∃ r, rs[j.toNat]? = some r := get_of_lt (by omega)
      have hrn := right_nums (hright r (List.mem_of_getElem? hr))
      refine ⟨by omega, r, hr, fun q3 => fail (runA_off (by omega) hr q3), fun q3 => ?_⟩
      rw [runA_step (by omega) hr q3] at hT
      refine ⟨by omega, r, hr, _, _, h_writeV (toI a) r.2.2.1 (by rw [toI_len]; omega), rfl, ?_⟩
      simp (config := {maxSteps := 4000000}) only [go_sem, Nat.reduceBEq, ↓reduceIte, ↓reduceDIte, Nat.reduceAdd, Nat.reduceSub, Nat.reduceMul, Nat.reduceLeDiff, ← Bool.decide_and, ← Bool.decide_or, ← decide_not, Int.reduceLT, Int.reduceLE, Int.reduceToNat, Int.reduceNeg, bldB, Int.reduceEq, not_true_eq_false, not_false_eq_true, false_implies]
      intro _
      refine ⟨_, _, h_writeV (toI b) r.2.2.2.1 (by rw [toI_len]; omega), rfl, ?_⟩
      simp (config := {maxSteps := 4000000}) only [go_sem, Nat.reduceBEq, ↓reduceIte, ↓reduceDIte, Nat.reduceAdd, Nat.reduceSub, Nat.reduceMul, Nat.reduceLeDiff, ← Bool.decide_and, ← Bool.decide_or, ← decide_not, Int.reduceLT, Int.reduceLE, Int.reduceToNat, Int.reduceNeg, bldB, Int.reduceEq, not_true_eq_false, not_false_eq_true, false_implies]
      intro _
      refine ⟨i64_ok (by omega) (by omega), i64_ok (by omega) (by omega), ?_⟩
      rw [← toI_app, ← toI_app]
      exact back _ (some true, i + 1, a ++ r.2.2.1, b ++ r.2.2.2.1, c + r.2.2.2.2, r.2.1) (by refine ⟨?_, ?_, rfl, rfl⟩ <;> repeat' (first | exact trivial | exact Or.inl rfl | exact Or.inr rfl | (refine And.intro (Or.inl rfl) ?_) | (refine And.intro (Or.inr (Or.inl rfl)) ?_) | (refine And.intro (Or.inr (Or.inr (Or.inr ⟨rfl, rfl⟩))) ?_) | (refine And.intro (Or.inr (Or.inr (Or.inl ⟨rfl, rfl, trivial⟩))) ?_) | exact ⟨(by show (_ : Nat) < 1000000000; omega), rfl, rfl⟩ | rfl | (refine And.intro (Or.inl ?_) ?_) | (refine And.intro ?_ ?_))) ⟨by dsimp only; omega, by dsimp only; rw [List.length_append]; omega, by dsimp only; rw [List.length_append]; omega, by dsimp only; omega, by dsimp only; omega, (fun h => nomatch h), hT⟩ (by dsimp only; omega)
    · rw [List.drop_of_length_le (by omega)] at hT
      refine ⟨_, _, h_strU (toI a), rfl, ?_⟩
      rw [toS_toI]
      simp (config := {maxSteps := 4000000}) only [go_sem, Nat.reduceBEq, ↓reduceIte, ↓reduceDIte, Nat.reduceAdd, Nat.reduceSub, Nat.reduceMul, Nat.reduceLeDiff, ← Bool.decide_and, ← Bool.decide_or, ← decide_not, Int.reduceLT, Int.reduceLE, Int.reduceToNat, Int.reduceNeg, bldB, Int.reduceEq, not_true_eq_false, not_false_eq_true, false_implies]
      intro _ _
      refine ⟨_, _, h_strU (toI b), rfl, ?_⟩
      rw [toS_toI]
      simp (config := {maxSteps := 4000000}) only [go_sem, Nat.reduceBEq, ↓reduceIte, ↓reduceDIte, Nat.reduceAdd, Nat.reduceSub, Nat.reduceMul, Nat.reduceLeDiff, ← Bool.decide_and, ← Bool.decide_or, ← decide_not, Int.reduceLT, Int.reduceLE, Int.reduceToNat, Int.reduceNeg, bldB, Int.reduceEq, not_true_eq_false, not_false_eq_true, false_implies]
      intro _ _
      rw [← hT]; rfl
  · refine PW_sound env_ok ⟨_, fn_15, rfl⟩ 2000 _ _ (by kernel_rfl) ?_; simp only [go_sem, Nat.reduceBEq, ↓reduceIte, ↓reduceDIte, Nat.reduceAdd, Nat.reduceSub, Nat.reduceMul, Nat.reduceLeDiff, ← Bool.decide_and, ← Bool.decide_or, ← decide_not, Int.reduceLT, Int.reduceLE, Int.reduceToNat, Int.reduceNeg, bldB, Int.reduceEq, not_true_eq_false, not_false_eq_true, false_implies]
    refine ⟨fun g1 => ?_, fun g1 => ?_⟩
    · obtain ⟨j, hj⟩ : ∃ j, l[i]? = some j := get_of_lt (by omega)
      have fail := common j hj
      rw [drop_cons hj] at hT
      refine ⟨Int.natCast_nonneg _, j, hj, fun q1 => ⟨fun q2 => ?_, fun q2 => fail (runA_big (by omega))⟩, fun q1 => fail (runA_neg (by omega))⟩
      obtain ⟨r, hr⟩ : ∃ r, rs[j.toNat]? = some r := get_of_lt (by omega)
      have hrn := right_nums (hright r (List.mem_of_getElem? hr))
      refine ⟨by omega, r, hr, fun q3 => fail (runA_off (by omega) hr q3), fun q3 => ?_⟩
      rw [runA_step (by omega) hr q3] at hT
      refine ⟨by omega, r, hr, _, _, h_writeU (toI a) r.2.2.1 (by rw [toI_len]; omega), rfl, ?_⟩
      simp (config := {maxSteps := 4000000}) only [go_sem, Nat.reduceBEq, ↓reduceIte, ↓reduceDIte, Nat.reduceAdd, Nat.reduceSub, Nat.reduceMul, Nat.reduceLeDiff, ← Bool.decide_and, ← Bool.decide_or, ← decide_not, Int.reduceLT, Int.reduceLE, Int.reduceToNat, Int.reduceNeg, bldB, Int.reduceEq, not_true_eq_false, not_false_eq_true, false_implies]
      intro _
      refine ⟨_, _, h_writeU (toI b) r.2.2.2.1 (by rw [toI_len]; omega), rfl, ?_⟩
      simp (config := {maxSteps := 4000000}) only [go_sem, Nat.reduceBEq, ↓reduceIte, ↓reduceDIte, Nat.reduceAdd, Nat.reduceSub, Nat.reduceMul, Nat.reduceLeDiff, ← Bool.decide_and, ← Bool.decide_or, ← decide_not, Int.reduceLT, Int.reduceLE, Int.reduceToNat, Int.reduceNeg, bldB, Int.reduceEq, not_true_eq_false, not_false_eq_true, false_implies]
      intro _
      refine ⟨i64_ok (by omega) (by omega), i64_ok (by omega) (by omega), ?_⟩
      rw [← toI_app, ← toI_app]
      exact back _ (some false, i + 1, a ++ r.2.2.1, b ++ r.2.2.2.1, c + r.2.2.2.2, r.2.1) (by refine ⟨?_, ?_, rfl, rfl⟩ <;> repeat' (first | exact trivial | exact Or.inl rfl | exact Or.inr rfl | (refine And.intro (Or.inl rfl) ?_) | (refine And.intro (Or.inr (Or.inl rfl)) ?_) | (refine And.intro (Or.inr (Or.inr (Or.inr ⟨rfl, rfl⟩))) ?_) | (refine And.intro (Or.inr (Or.inr (Or.inl ⟨rfl, rfl, trivial⟩))) ?_) | exact ⟨(by show (_ : Nat) < 1000000000; omega), rfl, rfl⟩ | rfl | (refine And.intro (Or.inl ?_) ?_) | (refine And.intro ?_ ?_))) ⟨by dsimp only; omega, by dsimp only; rw [List.length_append]; omega, by dsimp only; rw [List.length_append]; omega, by dsimp only; omega, by dsimp only; omega, (fun h => nomatch h), hT⟩ (by dsimp only; omega)
    · rw [List.drop_of_length_le (by omega)] at hT
      refine ⟨_, _, h_strU (toI a), rfl, ?_⟩
      rw [toS_toI]
      simp (config := {maxSteps := 4000000}) only [go_sem, Nat.reduceBEq, ↓reduceIte, ↓reduceDIte, Nat.reduceAdd, Nat.reduceSub, Nat.reduceMul, Nat.reduceLeDiff, ← Bool.decide_and, ← Bool.decide_or, ← decide_not, Int.reduceLT, Int.reduceLE, Int.reduceToNat, Int.reduceNeg, bldB, Int.reduceEq, not_true_eq_false, not_false_eq_true, false_implies]
      intro _ _
      refine ⟨_, _, h_strU (toI b), rfl, ?_⟩
      rw [toS_toI]
      simp (config := {maxSteps := 4000000}) only [go_sem, Nat.reduceBEq, ↓reduceIte, ↓reduceDIte, Nat.reduceAdd, Nat.reduceSub, Nat.reduceMul, Nat.reduceLeDiff, ← Bool.decide_and, ← Bool.decide_or, ← decide_not, Int.reduceLT, Int.reduceLE, Int.reduceToNat, Int.reduceNeg, bldB, Int.reduceEq, not_true_eq_false, not_false_eq_true, false_implies]
      intro _ _
      rw [← hT]; rfl
end Go.Proofs.Ytaphmhdgpdhpiaa
namespace Go.Proofs.Ytaphmhdgpdhpiaa
/-- A list of rules leads from a mode to an accepting one. -/
def isEnd (s : Sch) : Int → List Int → Prop
  | m, [] => 0 ≤ m ∧ m < s.1 ∧ accB s.2.1 m = true
  | m, i :: l => ∃ r, 0 ≤ i ∧ s.2.2[i.toNat]? = some r ∧ r.1 = m ∧ isEnd s r.2.1 l
def costI (s : Sch) (i : Int) : Int := match s.2.2[i.toNat]? with | some r => r.2.2.2.2 | none => 0
def costL (s : Sch) : List Int → Int
  | [] => 0 | i :: l => costI s i + costL s l
/-- Ends compared: the cost, the length, the numbers. -/
def lexL : List Int → List Int → Bool
  | a :: x, b :: y => decide (a < b) || (decide (a = b) && lexL x y)
  | _, _ => false
def befE (c1 : Int) (l1 : List Int) (c2 : Int) (l2 : List Int) : Bool := decide (c1 < c2 ∨ c1 = c2 ∧ (l1.length < l2.length ∨ l1.length = l2.length ∧ lexL l1 l2 = true))
theorem lexL_irr : ∀ l, lexL l l = false
  | [] => rfl
  | a :: l => by simp [lexL, lexL_irr l]
theorem lexL_trans : ∀ {x y z : List Int}, lexL x y = true → lexL y z = true → lexL x z = true
  | [], _, _, h, _ => by simp [lexL] at h
  | _ :: _, [], _, h, _ => by simp [lexL] at h
  | _ :: _, _ :: _, [], _, h => by simp [lexL] at h
  | a :: x, b :: y, c :: z, h1, h2 => by
    simp only [lexL, Bool.or_eq_true, Bool.and_eq_true, decide_eq_true_eq] at *
    rcases h1 with h1 | ⟨h1, h1'⟩ <;> rcases h2 with h2 | ⟨h2, h2'⟩
    · exact .inl (by omega)
    · exact .inl (by omega)
    · exact .inl (by omega)
    · exact .inr ⟨by omega, lexL_trans h1' h2'⟩
theorem lexL_total : ∀ {x y : List Int}, x.length = y.length → x = y ∨ lexL x y = true ∨ lexL y x = true
  | [], [], _ => .inl rfl
  | [], _ :: _, h => by simp at h
  | _ :: _, [], h => by simp at h
  | a :: x, b :: y, h => by
    simp only [lexL, Bool.or_eq_true, Bool.and_eq_true, decide_eq_true_eq]
    rcases Int.lt_trichotomy a b with h1 | h1 | h1
    · exact .inr (.inl (.inl h1))
    · subst h1
      rcases lexL_total (x := x) (y := y) (by simpa using h) with h2 | h2 | h2
      · exact .inl (by rw [h2])
      · exact .inr (.inl (.inr ⟨rfl, h2⟩))
      · exact .inr (.inr (.inr ⟨rfl, h2⟩))
    · exact .inr (.inr (.inl h1))
theorem befE_iff {c1 c2 : Int} {l1 l2 : List Int} : befE c1 l1 c2 l2 = true ↔ c1 < c2 ∨ c1 = c2 ∧ (l1.length < l2.length ∨ l1.length = l2.length ∧ lexL l1 l2 = true) := by simp [befE]
theorem befE_irr (c : Int) (l : List Int) : befE c l c l = false := by
  cases h : befE c l c l with
  | false => rfl
  | true => rw [befE_iff, lexL_irr] at h; simp at h
theorem befE_trans {c1 c2 c3 : Int} {l1 l2 l3 : List Int} (h1 : befE c1 l1 c2 l2 = true) (h2 : befE c2 l2 c3 l3 = true) : befE c1 l1 c3 l3 = true := by
  rw [befE_iff] at *
  rcases h1 with h1 | ⟨h1, h1'⟩ <;> rcases h2 with h2 | ⟨h2, h2'⟩
  · exact .inl (by omega)
  · exact .inl (by omega)
  · exact .inl (by omega)
  · refine .inr ⟨by omega, ?_⟩
    rcases h1' with h1' | ⟨h1', h3⟩ <;> rcases h2' with h2' | ⟨h2', h4⟩
    · exact .inl (by omega)
    · exact .inl (by omega)
    · exact .inl (by omega)
    · exact .inr ⟨by omega, lexL_trans h3 h4⟩
theorem befE_total {c1 c2 : Int} {l1 l2 : List Int} : (c1 = c2 ∧ l1 = l2) ∨ befE c1 l1 c2 l2 = true ∨ befE c2 l2 c1 l1 = true := by
  simp only [befE_iff]
  rcases Int.lt_trichotomy c1 c2 with h | h | h
  · exact .inr (.inl (.inl h))
  · rcases Nat.lt_trichotomy l1.length l2.length with h2 | h2 | h2
    · exact .inr (.inl (.inr ⟨h, .inl h2⟩))
    · rcases lexL_total h2 with h3 | h3 | h3
      · exact .inl ⟨h, h3⟩
      · exact .inr (.inl (.inr ⟨h, .inr ⟨h2, h3⟩⟩))
      · exact .inr (.inr (.inr ⟨h.symm, .inr ⟨h2.symm, h3⟩⟩))
    · exact .inr (.inr (.inr ⟨h.symm, .inl h2⟩))
  · exact .inr (.inr (.inl h))
theorem befE_not {c1 c2 : Int} {l1 l2 : List Int} (h : befE c1 l1 c2 l2 = true) : befE c2 l2 c1 l1 = false := by
  cases h2 : befE c2 l2 c1 l1 with
  | false => rfl
  | true => have := befE_trans h h2; rw [befE_irr] at this; cases this
/-- x is no worse than y. -/
def leE (s : Sch) (x y : List Int) : Prop := x = y ∨ befE (costL s x) x (costL s y) y = true
theorem leE_trans {s : Sch} {x y z : List Int} (h1 : leE s x y) (h2 : leE s y z) : leE s x z := by
  rcases h1 with rfl | h1
  · exact h2
  · rcases h2 with rfl | h2
    · exact .inr h1
    · exact .inr (befE_trans h1 h2)
theorem leE_anti {s : Sch} {x y : List Int} (h1 : leE s x y) (h2 : leE s y x) : x = y := by
  rcases h1 with h1 | h1
  · exact h1
  · rcases h2 with h2 | h2
    · exact h2.symm
    · rw [befE_not h1] at h2; cases h2
theorem leE_total (s : Sch) (x y : List Int) : leE s x y ∨ leE s y x := by
  rcases befE_total (c1 := costL s x) (c2 := costL s y) (l1 := x) (l2 := y) with ⟨_, h⟩ | h | h
  · exact .inl (.inl h)
  · exact .inl (.inr h)
  · exact .inr (.inr h)
theorem leE_cons {s : Sch} {x y : List Int} (i : Int) (h : leE s x y) : leE s (i :: x) (i :: y) := by
  rcases h with rfl | h
  · exact .inl rfl
  · refine .inr ?_
    rw [befE_iff] at *
    simp only [costL, List.length_cons, lexL]
    rcases h with h | ⟨h, h'⟩
    · exact .inl (by omega)
    · refine .inr ⟨by omega, ?_⟩
      rcases h' with h' | ⟨h', h''⟩
      · exact .inl (by omega)
      · exact .inr ⟨by omega, by simp [h'']⟩
theorem leE_uncons {s : Sch} {x y : List Int} {i : Int} (h : leE s (i :: x) (i :: y)) : leE s x y := by
  rcases leE_total s x y with h' | h'
  · exact h'
  · have := leE_anti h (leE_cons i h')
    injection this with _ this
    exact .inl this
/-- The first end. -/
structure Least (s : Sch) (m : Int) (l : List Int) : Prop where
  is : isEnd s m l
  le : ∀ l', isEnd s m l' → leE s l l'
theorem Least.uniq {s : Sch} {m : Int} {l l' : List Int} (h : Least s m l) (h' : Least s m l') : l = l' := leE_anti (h.le _ h'.is) (h'.le _ h.is)
theorem costI_nn {s : Sch} (hs : OkS s) (i : Int) : 0 ≤ costI s i := by
  unfold costI
  split
  · rename_i r h; exact (right_nums (hs.right r (List.mem_of_getElem? h))).2.2.2.2.1
  · omega
theorem costI_le {s : Sch} (hs : OkS s) (i : Int) : costI s i ≤ 1000 := by
  unfold costI
  split
  · rename_i r h; exact (right_nums (hs.right r (List.mem_of_getElem? h))).2.2.2.2.2.1
  · omega
theorem costL_nn {s : Sch} (hs : OkS s) : ∀ l, 0 ≤ costL s l
  | [] => Int.le_refl _
  | i :: l => by have := costI_nn hs i; have := costL_nn hs l; simp only [costL]; omega
theorem costL_le {s : Sch} (hs : OkS s) : ∀ l, costL s l ≤ 1000 * (l.length : Int)
  | [] => by simp [costL]
  | i :: l => by have := costI_le hs i; have := costL_le hs l; simp only [costL, List.length_cons]; omega
theorem Least.tail {s : Sch} {m i : Int} {l : List Int} {r : Rl} (h : Least s m (i :: l)) (hr : s.2.2[i.toNat]? = some r) : Least s r.2.1 l := by
  obtain ⟨r', h0, h1, h2, h3⟩ := h.is
  rw [hr] at h1; injection h1 with h1; subst h1
  exact ⟨h3, fun l' hl' => leE_uncons (h.le (i :: l') ⟨r, h0, hr, h2, hl'⟩)⟩
/-- The modes that an end passes. -/
def modesL (s : Sch) : Int → List Int → List Nat
  | m, [] => [m.toNat]
  | m, i :: l => m.toNat :: (match s.2.2[i.toNat]? with | some r => modesL s r.2.1 l | none => [])
theorem isEnd_mode {s : Sch} (hs : OkS s) {m : Int} {l : List Int} (h : isEnd s m l) : 0 ≤ m ∧ m < s.1 := by
  cases l with
  | nil => exact ⟨h.1, h.2.1⟩
  | cons i l =>
    obtain ⟨r, _, h1, h2, _⟩ := h
    have := right_nums (hs.right r (List.mem_of_getElem? h1))
    omega
theorem modesL_len {s : Sch} : ∀ {l : List Int} {m : Int}, isEnd s m l → (modesL s m l).length = l.length + 1
  | [], m, _ => rfl
  | i :: l, m, ⟨r, _, h1, _, h3⟩ => by
    simp only [modesL, h1, List.length_cons, modesL_len h3]
theorem modesL_lt {s : Sch} (hs : OkS s) : ∀ {l : List Int} {m : Int}, isEnd s m l → ∀ x, x ∈ modesL s m l → x < s.1.toNat
  | [], m, h, x, hx => by
    simp only [modesL, List.mem_singleton] at hx
    have := isEnd_mode hs h
    omega
  | i :: l, m, h, x, hx => by
    have hm := isEnd_mode hs h
    obtain ⟨r, _, h1, _, h3⟩ := h
    simp only [modesL, h1, List.mem_cons] at hx
    rcases hx with rfl | hx
    · omega
    · exact modesL_lt hs h3 x hx
/-- From a mode that an end passes on, its rest is an end, and no dearer. -/
theorem modesL_rest {s : Sch} (hs : OkS s) {a : Int} (ha : 0 ≤ a) : ∀ {l : List Int} {m : Int}, isEnd s m l → a.toNat ∈ modesL s m l → (modesL s m l).Nodup → ∃ q, isEnd s a q ∧ costL s q ≤ costL s l ∧ q.length ≤ l.length ∧ (modesL s a q).Nodup
  | [], m, h, hx, hn => by
    simp only [modesL, List.mem_singleton] at hx
    have := isEnd_mode hs h
    obtain rfl : a = m := by omega
    exact ⟨[], h, Int.le_refl _, Nat.le_refl _, hn⟩
  | i :: l, m, h, hx, hn => by
    have hm := isEnd_mode hs h
    have h' := h
    obtain ⟨r, _, h1, _, h3⟩ := h
    have hn' := hn
    simp only [modesL, h1, List.mem_cons] at hx
    simp only [modesL, h1] at hn'
    rcases hx with hx | hx
    · obtain rfl : a = m := by omega
      exact ⟨i :: l, h', Int.le_refl _, Nat.le_refl _, hn⟩
    · obtain ⟨q, q1, q2, q3, q4⟩ := modesL_rest hs ha h3 hx (List.nodup_cons.1 hn').2
      have := costI_nn hs i
      exact ⟨q, q1, by simp only [costL]; omega, by simp only [List.length_cons]; omega, q4⟩
/-- An end that passes no mode twice, and is no dearer and no longer. -/
theorem simple_end {s : Sch} (hs : OkS s) : ∀ {l : List Int} {m : Int}, isEnd s m l → ∃ q, isEnd s m q ∧ costL s q ≤ costL s l ∧ q.length ≤ l.length ∧ (modesL s m q).Nodup
  | [], m, h => ⟨[], h, Int.le_refl _, Nat.le_refl _, by simp [modesL]⟩
  | i :: l, m, h => by
    have hm := isEnd_mode hs h
    obtain ⟨r, h0, h1, h2, h3⟩ := h
    obtain ⟨q, q1, q2, q3, q4⟩ := simple_end hs h3
    have hc := costI_nn hs i
    by_cases hx : m.toNat ∈ modesL s r.2.1 q
    · obtain ⟨p, p1, p2, p3, p4⟩ := modesL_rest hs hm.1 q1 hx q4
      exact ⟨p, p1, by simp only [costL]; omega, by simp only [List.length_cons]; omega, p4⟩
    · refine ⟨i :: q, ⟨r, h0, h1, h2, q1⟩, by simp only [costL]; omega, by simp only [List.length_cons]; omega, ?_⟩
      simp only [modesL, h1]
      exact List.nodup_cons.2 ⟨hx, q4⟩
theorem short_end {s : Sch} (hs : OkS s) {l : List Int} {m : Int} (h : isEnd s m l) : ∃ q, isEnd s m q ∧ costL s q ≤ costL s l ∧ q.length ≤ l.length ∧ q.length < s.1.toNat := by
  obtain ⟨q, q1, q2, q3, q4⟩ := simple_end hs h
  have := nodup_le s.1.toNat _ q4 (modesL_lt hs q1)
  rw [modesL_len q1] at this
  exact ⟨q, q1, q2, q3, by omega⟩
/-- Whoever is first among the short ends is first. -/
theorem least_of_short {s : Sch} (hs : OkS s) {m : Int} {l : List Int} {k : Nat} (hk : s.1.toNat ≤ k) (h : isEnd s m l) (hle : ∀ l', isEnd s m l' → l'.length ≤ k → leE s l l') : Least s m l := by
  refine ⟨h, fun l' hl' => ?_⟩
  by_cases h1 : l'.length ≤ k
  · exact hle l' hl' h1
  · obtain ⟨q, q1, q2, q3, q4⟩ := short_end hs hl'
    refine leE_trans (hle q q1 (by omega)) (.inr ?_)
    rw [befE_iff]
    by_cases h2 : costL s q < costL s l'
    · exact .inl h2
    · exact .inr ⟨by omega, .inl (by omega)⟩
end Go.Proofs.Ytaphmhdgpdhpiaa
namespace Go.Proofs.Ytaphmhdgpdhpiaa
abbrev En := List Int × Int × Bool
def newE (i : Nat) (r : Rl) (o : En) : En := ((i : Int) :: o.1, r.2.2.2.2 + o.2.1, true)
def upd1 (out next : List En) (i : Nat) (r : Rl) : List En := match out[r.2.1.toNat]?, next[r.1.toNat]? with
  | some o, some n => if o.2.2 = true then (if n.2.2 = false ∨ befE (newE i r o).2.1 (newE i r o).1 n.2.1 n.1 = true then next.set r.1.toNat (newE i r o) else next) else next
  | _, _ => next
def roundE (out : List En) : Nat → List Rl → List En → List En
  | _, [], next => next
  | i, r :: rs, next => roundE out (i + 1) rs (upd1 out next i r)
def endsK (rs : List Rl) : Nat → List En → List En
  | 0, out => out
  | k + 1, out => endsK rs k (roundE out 0 rs out)
def startE (a : Int) (n : Nat) : List En := (List.range n).map fun (m : Nat) => ([], 0, accB a (m : Int))
def endsE (s : Sch) : List En := endsK s.2.2 s.1.toNat (startE s.2.1 s.1.toNat)
structure EnOK (s : Sch) (k : Nat) (m : Int) (e : En) (all : List Int → Prop) : Prop where
  is : e.2.2 = true → isEnd s m e.1 ∧ e.1.length ≤ k ∧ e.2.1 = costL s e.1
  no : e.2.2 = false → e.1 = [] ∧ e.2.1 = 0
  le : ∀ l, isEnd s m l → all l → e.2.2 = true ∧ leE s e.1 l
/-- After k rounds. -/
def RoundOK (s : Sch) (k : Nat) (out : List En) : Prop := out.length = s.1.toNat ∧ ∀ (m : Nat) e, out[m]? = some e → EnOK s k m e (fun l => l.length ≤ k)
theorem upd1_len (out next : List En) (i : Nat) (r : Rl) : (upd1 out next i r).length = next.length := by
  unfold upd1
  repeat' split
  all_goals simp
theorem roundE_len (out : List En) : ∀ (rs : List Rl) (i : Nat) (next : List En), (roundE out i rs next).length = next.length
  | [], _, _ => rfl
  | r :: rs, i, next => (roundE_len out rs (i + 1) _).trans (upd1_len out next i r)
theorem endsK_len (rs : List Rl) : ∀ (k : Nat) (out : List En), (endsK rs k out).length = out.length
  | 0, _ => rfl
  | k + 1, out => (endsK_len rs k _).trans (roundE_len out rs 0 out)
theorem costL_cons {s : Sch} {i : Nat} {r : Rl} (h : s.2.2[i]? = some r) (l : List Int) : costL s ((i : Int) :: l) = r.2.2.2.2 + costL s l := by
  simp only [costL, costI, Int.toNat_natCast, h]
theorem round_step {s : Sch} (hs : OkS s) {k : Nat} {out : List En} (ho : RoundOK s k out) {i : Nat} {r : Rl} (hr : s.2.2[i]? = some r) {next : List En} (hl : next.length = s.1.toNat)
    (hn : ∀ (m : Nat) e, next[m]? = some e → EnOK s (k + 1) m e (fun l => l.length ≤ k ∨ ∃ j l', j < i ∧ l = (j : Int) :: l' ∧ l'.length ≤ k)) :
    ∀ (m : Nat) e, (upd1 out next i r)[m]? = some e → EnOK s (k + 1) m e (fun l => l.length ≤ k ∨ ∃ j l', j < i + 1 ∧ l = (j : Int) :: l' ∧ l'.length ≤ k) := by
  intro m e he
  have hrn := right_nums (hs.right r (List.mem_of_getElem? hr))
  obtain ⟨o, hoo⟩ : ∃ o, out[r.2.1.toNat]? = some o := get_of_lt (by rw [ho.1]; omega)
  obtain ⟨n, hnn⟩ : ∃ n, next[r.1.toNat]? = some n := get_of_lt (by omega)
  have hok := ho.2 _ _ hoo
  have hto : ((r.2.1.toNat : Nat) : Int) = r.2.1 := by omega
  have hfr : ((r.1.toNat : Nat) : Int) = r.1 := by omega
  rw [hto] at hok
  -- an end that begins with this rule
  have first : ∀ l', isEnd s m ((i : Int) :: l') → r.1.toNat = m ∧ isEnd s r.2.1 l' := fun l' ⟨r', _, h1, h2, h3⟩ => by
    rw [Int.toNat_natCast, hr] at h1; injection h1 with h1; subst h1
    exact ⟨by omega, h3⟩
  have keep : ∀ e, next[m]? = some e → (∀ l', isEnd s m ((i : Int) :: l') → l'.length ≤ k → e.2.2 = true ∧ leE s e.1 ((i : Int) :: l')) → EnOK s (k + 1) m e (fun l => l.length ≤ k ∨ ∃ j l', j < i + 1 ∧ l = (j : Int) :: l' ∧ l'.length ≤ k) := by
    intro e he hnew
    have h := hn m e he
    refine ⟨h.is, h.no, fun l hl ha => ?_⟩
    rcases ha with ha | ⟨j, l', hj, rfl, ha⟩
    · exact h.le l hl (.inl ha)
    · by_cases hji : j = i
      · subst hji; exact hnew l' hl ha
      · exact h.le _ hl (.inr ⟨j, l', by omega, rfl, ha⟩)
  unfold upd1 at he
  simp only [hoo, hnn] at he
  by_cases h1 : o.2.2 = true
  · rw [if_pos h1] at he
    obtain ⟨o1, o2, o3⟩ := hok.is h1
    have hnewis : isEnd s r.1 (newE i r o).1 := ⟨r, Int.natCast_nonneg _, by simpa using hr, rfl, o1⟩
    have hnewc : (newE i r o).2.1 = costL s (newE i r o).1 := by simp only [newE]; rw [costL_cons hr, o3]
    have hnewl : ∀ l', isEnd s r.2.1 l' → l'.length ≤ k → leE s (newE i r o).1 ((i : Int) :: l') := fun l' h2 h3 => leE_cons _ (hok.le l' h2 h3).2
    have hN := hn _ _ hnn
    by_cases h2 : n.2.2 = false ∨ befE (newE i r o).2.1 (newE i r o).1 n.2.1 n.1 = true
    · rw [if_pos h2, List.getElem?_set] at he
      by_cases h3 : r.1.toNat = m
      · rw [if_pos h3, if_pos (by omega)] at he
        injection he with he
        subst he
        have hm : (m : Int) = r.1 := by omega
        refine ⟨fun _ => ⟨by rw [hm]; exact hnewis, by simp only [newE, List.length_cons]; omega, hnewc⟩, fun h => by simp [newE] at h, fun l hl ha => ⟨rfl, ?_⟩⟩
        have old : ∀ l, isEnd s m l → (l.length ≤ k ∨ ∃ j l', j < i ∧ l = (j : Int) :: l' ∧ l'.length ≤ k) → leE s (newE i r o).1 l := by
          intro l hl ha
          rw [h3] at hN
          have h4 := hN.le l hl ha
          rcases h2 with h2 | h2
          · rw [h2] at h4; exact absurd h4.1 (by simp)
          · refine leE_trans (.inr ?_) h4.2
            rw [← hnewc, ← (hN.is h4.1).2.2]; exact h2
        rcases ha with ha | ⟨j, l', hj, rfl, ha⟩
        · exact old l hl (.inl ha)
        · by_cases hji : j = i
          · subst hji; exact hnewl l' (first l' hl).2 ha
          · exact old _ hl (.inr ⟨j, l', by omega, rfl, ha⟩)
      · rw [if_neg h3] at he
        exact keep e he fun l' hl _ => absurd (first l' hl).1 h3
    · rw [if_neg h2] at he
      refine keep e he fun l' hl ha => ?_
      obtain ⟨h3, h4⟩ := first l' hl
      rw [h3] at hnn hN
      rw [hnn] at he; injection he with he; subst he
      have h5 : n.2.2 = true := by
        cases h : n.2.2 with
        | true => rfl
        | false => exact absurd (.inl h) h2
      refine ⟨h5, leE_trans ?_ (hnewl l' h4 ha)⟩
      rcases leE_total s n.1 (newE i r o).1 with h6 | h6
      · exact h6
      · rcases h6 with h6 | h6
        · exact .inl h6.symm
        · rw [← hnewc, ← (hN.is h5).2.2] at h6
          exact absurd (.inr h6) h2
  · rw [if_neg h1] at he
    refine keep e he fun l' hl ha => ?_
    have := (hok.le l' (first l' hl).2 ha).1
    exact absurd this h1
theorem round_all {s : Sch} (hs : OkS s) {k : Nat} {out : List En} (ho : RoundOK s k out) : ∀ (rs : List Rl) (i : Nat) (next : List En), s.2.2.drop i = rs → next.length = s.1.toNat →
    (∀ (m : Nat) e, next[m]? = some e → EnOK s (k + 1) m e (fun l => l.length ≤ k ∨ ∃ j l', j < i ∧ l = (j : Int) :: l' ∧ l'.length ≤ k)) →
    ∀ (m : Nat) e, (roundE out i rs next)[m]? = some e → EnOK s (k + 1) m e (fun l => l.length ≤ k ∨ ∃ j l', j < s.2.2.length ∧ l = (j : Int) :: l' ∧ l'.length ≤ k)
  | [], i, next, hd, hl, hn, m, e, he => by
    have hlen : s.2.2.length ≤ i := by
      have := congrArg List.length hd
      simp only [List.length_drop, List.length_nil] at this
      omega
    have h := hn m e he
    refine ⟨h.is, h.no, fun l hl ha => h.le l hl ?_⟩
    rcases ha with ha | ⟨j, l', hj, h1, h2⟩
    · exact .inl ha
    · exact .inr ⟨j, l', by omega, h1, h2⟩
  | r :: rs, i, next, hd, hl, hn, m, e, he => by
    have hr : s.2.2[i]? = some r := by
      have := congrArg (fun l => l[0]?) hd
      simpa using this
    refine round_all hs ho rs (i + 1) (upd1 out next i r) ?_ (by rw [upd1_len]; exact hl) (round_step hs ho hr hl hn) m e he
    have := congrArg List.tail hd
    simpa using this
theorem round_ok {s : Sch} (hs : OkS s) {k : Nat} {out : List En} (ho : RoundOK s k out) : RoundOK s (k + 1) (roundE out 0 s.2.2 out) := by
  refine ⟨(roundE_len out s.2.2 0 out).trans ho.1, fun m e he => ?_⟩
  have h := round_all hs ho s.2.2 0 out rfl ho.1 (fun m e he => by
    have h := ho.2 m e he
    refine ⟨fun h' => ?_, h.no, fun l hl ha => ?_⟩
    · have := h.is h'; exact ⟨this.1, by omega, this.2.2⟩
    · rcases ha with ha | ⟨j, l', hj, _⟩
      · exact h.le l hl ha
      · omega) m e he
  refine ⟨h.is, h.no, fun l hl ha => h.le l hl ?_⟩
  cases l with
  | nil => exact .inl (Nat.zero_le _)
  | cons i l =>
    obtain ⟨r, h0, h1, _⟩ := hl
    have hi : i.toNat < s.2.2.length := (List.getElem?_eq_some_iff.1 h1).1
    exact .inr ⟨i.toNat, l, hi, by rw [Int.toNat_of_nonneg h0], by simpa using ha⟩
theorem endsK_ok {s : Sch} (hs : OkS s) : ∀ (k j : Nat) (out : List En), RoundOK s j out → RoundOK s (j + k) (endsK s.2.2 k out)
  | 0, j, out, h => h
  | k + 1, j, out, h => by
    have := endsK_ok hs k (j + 1) (roundE out 0 s.2.2 out) (round_ok hs h)
    rw [show j + (k + 1) = j + 1 + k by omega]
    exact this
theorem start_ok {s : Sch} (_hs : OkS s) : RoundOK s 0 (startE s.2.1 s.1.toNat) := by
  refine ⟨by simp [startE], fun m e he => ?_⟩
  have hm : m < s.1.toNat := by have := (List.getElem?_eq_some_iff.1 he).1; simpa [startE] using this
  unfold startE at he
  rw [List.getElem?_map, List.getElem?_range hm] at he
  obtain rfl : ([], 0, accB s.2.1 (m : Int)) = e := by simpa using he
  refine ⟨fun h => ⟨⟨Int.natCast_nonneg _, by omega, h⟩, Nat.le_refl _, rfl⟩, fun _ => ⟨rfl, rfl⟩, fun l hl ha => ?_⟩
  obtain rfl : l = [] := List.eq_nil_of_length_eq_zero (Nat.le_zero.1 ha)
  exact ⟨hl.2.2, .inl rfl⟩
theorem ends_ok {s : Sch} (hs : OkS s) : RoundOK s s.1.toNat (endsE s) := by
  have := endsK_ok hs s.1.toNat 0 _ (start_ok hs)
  rw [Nat.zero_add] at this
  exact this
/-- THE FIRST END FROM A MODE, AS THE REFERENCE FINDS IT. -/
def endAt (s : Sch) (m : Int) : En := (endsE s)[m.toNat]?.getD ([], 0, false)
theorem endAt_is {s : Sch} (hs : OkS s) {m : Int} (hm : 0 ≤ m ∧ m < s.1) : (endAt s m).2.2 = true → Least s m (endAt s m).1 ∧ (endAt s m).2.1 = costL s (endAt s m).1 ∧ (endAt s m).1.length < s.1.toNat := by
  have h := ends_ok hs
  obtain ⟨e, he⟩ : ∃ e, (endsE s)[m.toNat]? = some e := get_of_lt (by rw [h.1]; omega)
  have hE : endAt s m = e := by unfold endAt; rw [he]; rfl
  have hk := h.2 _ _ he
  have hmm : ((m.toNat : Nat) : Int) = m := by omega
  rw [hmm] at hk
  rw [hE]
  intro h1
  obtain ⟨h2, h3, h4⟩ := hk.is h1
  have hL := least_of_short hs (Nat.le_refl _) h2 (fun l' hl' hlen => (hk.le l' hl' hlen).2)
  refine ⟨hL, h4, ?_⟩
  obtain ⟨q, q1, q2, q3, q4⟩ := short_end hs h2
  rcases hL.le q q1 with h5 | h5
  · rw [h5]; exact q4
  · rw [befE_iff] at h5
    omega
theorem endAt_no {s : Sch} (hs : OkS s) {m : Int} (hm : 0 ≤ m ∧ m < s.1) : (endAt s m).2.2 = false → (endAt s m).1 = [] ∧ (endAt s m).2.1 = 0 ∧ ∀ l, ¬ isEnd s m l := by
  have h := ends_ok hs
  obtain ⟨e, he⟩ : ∃ e, (endsE s)[m.toNat]? = some e := get_of_lt (by rw [h.1]; omega)
  have hE : endAt s m = e := by unfold endAt; rw [he]; rfl
  have hk := h.2 _ _ he
  have hmm : ((m.toNat : Nat) : Int) = m := by omega
  rw [hmm] at hk
  rw [hE]
  intro h1
  refine ⟨(hk.no h1).1, (hk.no h1).2, fun l hl => ?_⟩
  obtain ⟨q, q1, q2, q3, q4⟩ := short_end hs hl
  have := (hk.le q q1 (by omega)).1
  rw [h1] at this; cases this
def leastR (s : Sch) (m : Int) : List Int × Int × Int :=
  if 0 ≤ m ∧ m < s.1 then (if (endAt s m).2.2 = true then ((endAt s m).1, (endAt s m).2.1, 0) else ([], 0, 50)) else ([], 0, 30)
/-- Live modes are those with ends. -/
theorem live_iff {s : Sch} (hs : OkS s) (m : Nat) : on (liveE s) m ↔ ∃ l, isEnd s (m : Int) l := by
  have hlt : ∀ e, e ∈ edgesL s.2.2 → e.2 < (startL s.2.1 s.1.toNat).length := by
    intro e he
    unfold edgesL at he
    obtain ⟨r, hr, rfl⟩ := List.mem_map.1 he
    have := right_nums (hs.right r hr)
    rw [startL_len]
    show r.1.toNat < _
    omega
  unfold liveE
  rw [clos_iff hlt (by rw [startL_len]; exact Nat.le_refl _)]
  constructor
  · intro h
    induction h with
    | base m hb =>
      have hm : m < s.1.toNat := by have := on_lt hb; rwa [startL_len] at this
      unfold on at hb
      rw [startL_at hm] at hb
      injection hb with hb
      exact ⟨[], Int.natCast_nonneg _, by omega, hb⟩
    | step a b _ he ih =>
      obtain ⟨l, hl⟩ := ih
      unfold edgesL at he
      obtain ⟨r, hr, he⟩ := List.mem_map.1 he
      injection he with h1 h2
      obtain ⟨i, hi⟩ := List.getElem?_of_mem hr
      have := right_nums (hs.right r hr)
      refine ⟨(i : Int) :: l, r, Int.natCast_nonneg _, by simpa using hi, by omega, ?_⟩
      rw [show r.2.1 = (a : Int) by omega]; exact hl
  · rintro ⟨l, hl⟩
    have main : ∀ (l : List Int) (m : Int), isEnd s m l → Cl (edgesL s.2.2) (startL s.2.1 s.1.toNat) m.toNat := by
      intro l
      induction l with
      | nil =>
        intro m h
        refine .base _ ?_
        unfold on
        rw [startL_at (by have := h.2.1; have := h.1; omega), Int.toNat_of_nonneg h.1, h.2.2]
      | cons i l ih =>
        intro m ⟨r, _, h1, h2, h3⟩
        refine .step _ _ (ih _ h3) ?_
        unfold edgesL
        exact List.mem_map.2 ⟨r, List.mem_of_getElem? h1, by rw [h2]⟩
    have := main l m hl
    simpa using this
end Go.Proofs.Ytaphmhdgpdhpiaa
namespace Go.Proofs.Ytaphmhdgpdhpiaa
set_option maxHeartbeats 1000000
abbrev PM := List (Int × Pr)
theorem mfind_set {V : Type} (m : List (Int × V)) (a b : Int) (v : V) : mfind eqI (mset eqI m a v) b = if b = a then some v else mfind eqI m b := by
  induction m with
  | nil =>
    simp only [mset, mfind]
    by_cases h : b = a
    · simp only [eqI, h, decide_true, cond_true, if_true]
    · simp only [eqI, h, decide_false, cond_false, if_false]
  | cons p m ih =>
    simp only [mset]
    by_cases h : a = p.1
    · have e : eqI a p.1 = true := by simp only [eqI, h, decide_true]
      rw [e, cond_true]
      simp only [mfind]
      by_cases h' : b = a
      · simp only [eqI, h', decide_true, cond_true, if_true]
      · have e' : eqI b a = false := by simp only [eqI, h', decide_false]
        rw [e', if_neg h', cond_false]
        have e2 : eqI b p.1 = false := by rw [← h]; exact e'
        rw [e2, cond_false]
    · have e : eqI a p.1 = false := by simp only [eqI, h, decide_false]
      rw [e, cond_false]
      simp only [mfind]
      by_cases h' : b = p.1
      · have e' : eqI b p.1 = true := by simp only [eqI, h', decide_true]
        rw [e', cond_true, cond_true, if_neg (fun x => h (by rw [← x, h']))]
      · have e' : eqI b p.1 = false := by simp only [eqI, h', decide_false]
        rw [e', cond_false, cond_false, ih]
theorem lessP_iff {p q : Pr} : lessP p q = true ↔ p.1 < q.1 ∨ p.1 = q.1 ∧ p.2 < q.2 := by simp [lessP]
theorem lessP_no {p q : Pr} : lessP p q = false ↔ ¬ (p.1 < q.1 ∨ p.1 = q.1 ∧ p.2 < q.2) := by simp [lessP]
def prc (s : Sch) (l : List Int) : Pr := (costL s l, (l.length : Int))
/-- A price stands for an end that passes no mode twice, and on its way nothing is dearer. -/
def PrS (s : Sch) (ps : PM) (m : Int) (p : Pr) : Prop := ∃ l, isEnd s m l ∧ p = prc s l ∧ (modesL s m l).Nodup ∧ ∀ (x : Nat), x ∈ modesL s m l → ∃ px, mfind eqI ps (x : Int) = some px ∧ lessP p px = false
structure PrI (s : Sch) (ps : PM) : Prop where
  sound : ∀ m p, mfind eqI ps m = some p → PrS s ps m p
  acc : ∀ m : Int, 0 ≤ m → m < s.1 → accB s.2.1 m = true → mfind eqI ps m = some (0, 0)
theorem len_le_of_nodup {l : List Nat} {n : Nat} (hd : l.Nodup) (h : ∀ x, x ∈ l → x < n) : l.length ≤ n := by
  have := List.Nodup.length_le_of_subset hd (l₂ := List.range n) (fun x hx => List.mem_range.2 (h x hx))
  simpa using this
theorem PrS.bound {s : Sch} (hs : OkS s) {ps : PM} {m : Int} {p : Pr} (h : PrS s ps m p) : 0 ≤ p.1 ∧ p.1 ≤ 8000 ∧ 0 ≤ p.2 ∧ p.2 < s.1 ∧ 0 ≤ m ∧ m < s.1 := by
  obtain ⟨l, h1, rfl, h3, _⟩ := h
  have hl := len_le_of_nodup h3 (modesL_lt hs h1)
  rw [modesL_len h1] at hl
  have := costL_le hs l
  have := costL_nn hs l
  have := hs.n8
  have := isEnd_mode hs h1
  simp only [prc]
  omega
theorem PrI.put {s : Sch} (hs : OkS s) {ps : PM} (h : PrI s ps) {i : Nat} {r : Rl} {q : Pr} (hr : s.2.2[i]? = some r) (hq : mfind eqI ps r.2.1 = some q)
    (hnew : ∀ p, mfind eqI ps r.1 = some p → lessP (withP q r.2.2.2.2) p = true) : PrI s (mset eqI ps r.1 (withP q r.2.2.2.2)) := by
  have hrn := right_nums (hs.right r (List.mem_of_getElem? hr))
  obtain ⟨l, h1, h2, h3, h4⟩ := h.sound _ _ hq
  have hlt : lessP q (withP q r.2.2.2.2) = true := by
    rw [lessP_iff]; simp only [withP]; omega
  have hmem : r.1.toNat ∉ modesL s r.2.1 l := by
    intro hx
    obtain ⟨px, e1, e2⟩ := h4 _ hx
    rw [show ((r.1.toNat : Nat) : Int) = r.1 by omega] at e1
    have := hnew px e1
    rw [lessP_iff] at this hlt
    rw [lessP_no] at e2
    omega
  refine ⟨fun m p hm => ?_, fun m a1 a2 a3 => ?_⟩
  · rw [mfind_set] at hm
    split at hm
    · rename_i e
      subst e
      injection hm with hm
      subst hm
      refine ⟨(i : Int) :: l, ⟨r, Int.natCast_nonneg _, by simpa using hr, rfl, h1⟩, ?_, ?_, fun x hx => ?_⟩
      · rw [h2]
        simp only [prc, withP, List.length_cons, costL_cons hr]
        rw [Int.add_comm r.2.2.2.2]
        simp
      · simp only [modesL, Int.toNat_natCast, hr, List.nodup_cons]
        exact ⟨hmem, h3⟩
      · simp only [modesL, Int.toNat_natCast, hr, List.mem_cons] at hx
        rw [mfind_set]
        rcases hx with rfl | hx
        · rw [if_pos (by omega)]
          exact ⟨_, rfl, by rw [lessP_no]; omega⟩
        · obtain ⟨px, e1, e2⟩ := h4 x hx
          rw [if_neg (fun e => hmem (by rw [← e]; simpa using hx))]
          refine ⟨px, e1, ?_⟩
          rw [lessP_iff] at hlt
          rw [lessP_no] at e2 ⊢
          omega
    · rename_i hne
      obtain ⟨l', g1, g2, g3, g4⟩ := h.sound _ _ hm
      refine ⟨l', g1, g2, g3, fun x hx => ?_⟩
      obtain ⟨px, e1, e2⟩ := g4 x hx
      rw [mfind_set]
      split
      · rename_i e
        rw [e] at e1
        have := hnew px e1
        refine ⟨_, rfl, ?_⟩
        rw [lessP_iff] at this
        rw [lessP_no] at e2 ⊢
        omega
      · exact ⟨px, e1, e2⟩
  · rw [mfind_set]
    have ha := h.acc m a1 a2 a3
    split
    · rename_i e
      subst e
      have := hnew _ ha
      have hb := (h.sound _ _ hq).bound hs
      rw [lessP_iff] at this
      simp only [withP] at this
      omega
    · exact ha
/-- No rule makes any price less. -/
def shutP (ps : PM) (r : Rl) : Prop := ∀ q, mfind eqI ps r.2.1 = some q → ∃ p, mfind eqI ps r.1 = some p ∧ lessP (withP q r.2.2.2.2) p = false
theorem price_le {s : Sch} {ps : PM} (h : PrI s ps) (hc : ∀ r, r ∈ s.2.2 → shutP ps r) : ∀ (l : List Int) (m : Int), isEnd s m l → ∃ p, mfind eqI ps m = some p ∧ lessP (prc s l) p = false
  | [], m, hl => ⟨_, h.acc m hl.1 hl.2.1 hl.2.2, by rw [lessP_no]; simp [prc, costL]⟩
  | i :: l, m, ⟨r, h0, h1, h2, h3⟩ => by
    obtain ⟨q, e1, e2⟩ := price_le h hc l r.2.1 h3
    obtain ⟨p, f1, f2⟩ := hc r (List.mem_of_getElem? h1) q e1
    rw [h2] at f1
    refine ⟨p, f1, ?_⟩
    have hci : costI s i = r.2.2.2.2 := by unfold costI; rw [h1]
    rw [lessP_no] at e2 f2 ⊢
    simp only [prc, withP, costL, hci, List.length_cons] at e2 f2 ⊢
    omega
/-- WHERE NOTHING GETS LESS, THE PRICES ARE THOSE OF THE FIRST ENDS. -/
theorem price_is {s : Sch} {ps : PM} (h : PrI s ps) (hc : ∀ r, r ∈ s.2.2 → shutP ps r) {m : Int} {l : List Int} (hl : Least s m l) : mfind eqI ps m = some (prc s l) := by
  obtain ⟨p, e1, e2⟩ := price_le h hc l m hl.is
  obtain ⟨l', g1, g2, _, _⟩ := h.sound _ _ e1
  have hle := hl.le l' g1
  rw [e1]
  congr 1
  rcases hle with rfl | hle
  · exact g2
  · rw [befE_iff] at hle
    rw [g2, lessP_no] at e2
    rw [g2]
    simp only [prc] at e2 ⊢
    have : costL s l = costL s l' ∧ l.length = l'.length := by omega
    rw [this.1, this.2]
theorem price_no {s : Sch} {ps : PM} (h : PrI s ps) {m : Int} (hn : ∀ l, ¬ isEnd s m l) : mfind eqI ps m = none := by
  cases hm : mfind eqI ps m with
  | none => rfl
  | some p =>
    obtain ⟨l, h1, _⟩ := h.sound _ _ hm
    exact absurd h1 (hn l)
/-- How much the prices can still fall. -/
def valP : Option Pr → Nat
  | none => 100000 | some p => p.1.toNat * 8 + p.2.toNat
def measP (n : Nat) (ps : PM) : Nat := ((List.range n).map fun (m : Nat) => valP (mfind eqI ps (m : Int))).sum
theorem sum_le {f g : Nat → Nat} : ∀ (l : List Nat), (∀ x, x ∈ l → g x ≤ f x) → (l.map g).sum ≤ (l.map f).sum
  | [], _ => Nat.le_refl _
  | x :: l, h => by
    have := sum_le l (fun y hy => h y (by simp [hy]))
    have := h x (by simp)
    simp only [List.map_cons, List.sum_cons]
    omega
theorem sum_lt {f g : Nat → Nat} {m : Nat} : ∀ (l : List Nat), (∀ x, x ∈ l → g x ≤ f x) → m ∈ l → g m < f m → (l.map g).sum < (l.map f).sum
  | x :: l, h, hm, hlt => by
    simp only [List.map_cons, List.sum_cons]
    have h1 := sum_le l (fun y hy => h y (by simp [hy]))
    have h2 := h x (by simp)
    rcases List.mem_cons.1 hm with rfl | hm
    · omega
    · have := sum_lt l (fun y hy => h y (by simp [hy])) hm hlt
      omega
theorem PrI.less {s : Sch} (hs : OkS s) {ps : PM} (h : PrI s ps) {i : Nat} {r : Rl} {q : Pr} (hr : s.2.2[i]? = some r) (hq : mfind eqI ps r.2.1 = some q)
    (hnew : ∀ p, mfind eqI ps r.1 = some p → lessP (withP q r.2.2.2.2) p = true) : measP s.1.toNat (mset eqI ps r.1 (withP q r.2.2.2.2)) < measP s.1.toNat ps := by
  have hrn := right_nums (hs.right r (List.mem_of_getElem? hr))
  have hb := (h.sound _ _ hq).bound hs
  have h8 := hs.n8
  have key : valP (some (withP q r.2.2.2.2)) < valP (mfind eqI ps r.1) := by
    cases hp : mfind eqI ps r.1 with
    | none => simp only [valP, withP]; omega
    | some p =>
      have hl := hnew p hp
      have hbp := (h.sound _ _ hp).bound hs
      have hb2 := ((PrI.put hs h hr hq hnew).sound r.1 (withP q r.2.2.2.2) (by rw [mfind_set, if_pos rfl])).bound hs
      rw [lessP_iff] at hl
      simp only [valP]
      omega
  refine sum_lt (m := r.1.toNat) _ (fun x hx => ?_) (List.mem_range.2 (by omega)) ?_
  · rw [mfind_set]
    split
    · rename_i e
      rw [e]
      exact Nat.le_of_lt key
    · exact Nat.le_refl _
  · rw [mfind_set, if_pos (by omega), show ((r.1.toNat : Nat) : Int) = r.1 by omega]
    exact key
theorem mset_keysV {V : Type} (k : Int) (v : V) : ∀ (m : List (Int × V)), (mset eqI m k v).map (·.1) = if k ∈ m.map (·.1) then m.map (·.1) else m.map (·.1) ++ [k]
  | [] => rfl
  | p :: m => by
    have ih := mset_keysV k v m
    simp only [mset]
    by_cases h : k = p.1
    · have : eqI k p.1 = true := by simp only [eqI, h, decide_true]
      rw [this, cond_true, if_pos (by simp [h])]
      simp [h]
    · have : eqI k p.1 = false := by simp only [eqI, h, decide_false]
      rw [this, cond_false]
      simp only [List.map_cons, ih, List.mem_cons, h, false_or]
      split <;> rfl
theorem mset_onceV {V : Type} {k : Int} {v : V} {m : List (Int × V)} (h : (m.map (·.1)).Nodup) : ((mset eqI m k v).map (·.1)).Nodup := by
  rw [mset_keysV]
  split
  · exact h
  · rename_i hk
    rw [List.nodup_append]
    exact ⟨h, by simp, fun a ha b hb => by simp at hb; subst hb; exact fun e => hk (e ▸ ha)⟩
theorem find_of_key {V : Type} : ∀ {m : List (Int × V)} {k : Int}, k ∈ m.map (·.1) → ∃ v, mfind eqI m k = some v
  | p :: m, k, h => by
    simp only [mfind]
    by_cases e : k = p.1
    · have : eqI k p.1 = true := by simp only [eqI, e, decide_true]
      exact ⟨p.2, by rw [this, cond_true]⟩
    · have e' : eqI k p.1 = false := by simp only [eqI, e, decide_false]
      rw [e', cond_false]
      simp only [List.map_cons, List.mem_cons] at h
      exact find_of_key (h.resolve_left e)
theorem keys_few {V : Type} {m : List (Int × V)} {n : Nat} (hd : (m.map (·.1)).Nodup) (h : ∀ k v, mfind eqI m k = some v → 0 ≤ k ∧ k < (n : Int)) : m.length ≤ n := by
  have := List.Nodup.length_le_of_subset hd (l₂ := (List.range n).map fun (x : Nat) => (x : Int)) (fun x hx => by
    obtain ⟨v, hv⟩ := find_of_key hx
    have := h x v hv
    exact List.mem_map.2 ⟨x.toNat, List.mem_range.2 (by omega), by omega⟩)
  simpa using this
/-- What holds of the prices while rules are looked at, since the pass began with p0. -/
structure PrL (s : Sch) (p0 : PM) (ch : Bool) (ps : PM) (P : Int → Prop) : Prop where
  ok : PrI s ps
  once : (ps.map (·.1)).Nodup
  fall : measP s.1.toNat ps + (if ch = true then 1 else 0) ≤ measP s.1.toNat p0
  shut : ch = false → ∀ i, P i → ∀ r, s.2.2[i.toNat]? = some r → shutP ps r
theorem PrL.weak {s : Sch} {p0 ps : PM} {ch : Bool} {P P' : Int → Prop} (h : PrL s p0 ch ps P) (hp : ∀ i, P' i → P i) : PrL s p0 ch ps P' :=
  ⟨h.ok, h.once, h.fall, fun e i hi => h.shut e i (hp i hi)⟩
theorem PrL.same {s : Sch} {p0 ps : PM} {ch : Bool} {P : Int → Prop} {i : Int} {r : Rl} (h : PrL s p0 ch ps P) (hr : s.2.2[i.toNat]? = some r) (hs : shutP ps r) : PrL s p0 ch ps (fun j => P j ∨ j = i) :=
  ⟨h.ok, h.once, h.fall, fun e j hj q hq => by
    rcases hj with hj | rfl
    · exact h.shut e j hj q hq
    · rw [hr] at hq
      injection hq with hq
      subst hq
      exact hs⟩
theorem PrL.put {s : Sch} (hs : OkS s) {p0 ps : PM} {ch : Bool} {P P' : Int → Prop} {i : Nat} {r : Rl} {q : Pr} (h : PrL s p0 ch ps P) (hr : s.2.2[i]? = some r) (hq : mfind eqI ps r.2.1 = some q)
    (hnew : ∀ p, mfind eqI ps r.1 = some p → lessP (withP q r.2.2.2.2) p = true) : PrL s p0 true (mset eqI ps r.1 (withP q r.2.2.2.2)) P' := by
  refine ⟨h.ok.put hs hr hq hnew, mset_onceV h.once, ?_, fun e => by cases e⟩
  have := h.ok.less hs hr hq hnew
  have := h.fall
  rw [if_pos rfl]
  split at this <;> omega
theorem PrI.few {s : Sch} (hs : OkS s) {ps : PM} (h : PrI s ps) (ho : (ps.map (·.1)).Nodup) : ps.length ≤ 8 := by
  have h8 := hs.n8
  have := keys_few (n := s.1.toNat) ho (fun k v hv => by have := (h.sound k v hv).bound hs; omega)
  omega
/-- After the first loop. -/
structure PrZ (s : Sch) (k : Nat) (ps : PM) : Prop where
  find : ∀ m : Int, mfind eqI ps m = if 0 ≤ m ∧ m < (k : Int) ∧ accB s.2.1 m = true then some (0, 0) else none
  once : (ps.map (·.1)).Nodup
theorem PrZ.few {s : Sch} {k : Nat} {ps : PM} (h : PrZ s k ps) : ps.length ≤ k :=
  keys_few h.once fun m v hv => by
    rw [h.find] at hv
    split at hv
    · rename_i h'; exact ⟨h'.1, h'.2.1⟩
    · cases hv
theorem PrZ.next {s : Sch} {k : Nat} {ps : PM} (h : PrZ s k ps) (ha : accB s.2.1 (k : Int) = true) : PrZ s (k + 1) (mset eqI ps (k : Int) (0, 0)) := by
  refine ⟨fun m => ?_, mset_onceV h.once⟩
  rw [mfind_set]
  split
  · rename_i e
    subst e
    rw [if_pos ⟨Int.natCast_nonneg _, by omega, ha⟩]
  · rename_i e
    rw [h.find]
    by_cases hm : 0 ≤ m ∧ m < (k : Int) ∧ accB s.2.1 m = true
    · rw [if_pos hm, if_pos ⟨hm.1, by omega, hm.2.2⟩]
    · rw [if_neg hm, if_neg (fun h' => hm ⟨h'.1, by omega, h'.2.2⟩)]
theorem PrZ.skip {s : Sch} {k : Nat} {ps : PM} (h : PrZ s k ps) (ha : accB s.2.1 (k : Int) = false) : PrZ s (k + 1) ps := by
  refine ⟨fun m => ?_, h.once⟩
  rw [h.find]
  by_cases hm : 0 ≤ m ∧ m < (k : Int) ∧ accB s.2.1 m = true
  · rw [if_pos hm, if_pos ⟨hm.1, by omega, hm.2.2⟩]
  · rw [if_neg hm, if_neg (fun h' => by
      rcases Int.lt_or_le m k with h1 | h1
      · exact hm ⟨h'.1, h1, h'.2.2⟩
      · have : m = (k : Int) := by omega
        rw [this, ha] at h'
        simp at h')]
theorem PrZ.ok {s : Sch} (_hs : OkS s) {ps : PM} (h : PrZ s s.1.toNat ps) : PrI s ps := by
  refine ⟨fun m p hm => ?_, fun m h1 h2 h3 => by rw [h.find, if_pos ⟨h1, by omega, h3⟩]⟩
  have hm0 := hm
  rw [h.find] at hm
  split at hm
  · rename_i h'
    injection hm with hm
    subst hm
    refine ⟨[], ⟨h'.1, by omega, h'.2.2⟩, rfl, by simp [modesL], fun x hx => ?_⟩
    simp only [modesL, List.mem_singleton] at hx
    subst hx
    rw [show ((m.toNat : Nat) : Int) = m by omega]
    exact ⟨_, hm0, by rw [lessP_no]; simp⟩
  · cases hm
end Go.Proofs.Ytaphmhdgpdhpiaa
namespace Go.Proofs.Ytaphmhdgpdhpiaa
set_option maxHeartbeats 1000000
theorem leav_getL (k : Int) : ∀ (rs : List Rl) (i : Nat) (m : GM), gget (leavL rs i m) k = gget m k ++ nexts k rs i
  | [], _, m => by simp only [leavL, nexts, List.append_nil]
  | r :: rs, i, m => by
    simp only [leavL]
    rw [leav_getL k rs (i + 1) _, gget_set]
    have e : nexts k (r :: rs) i = if r.1 = k then (i : Int) :: nexts k rs (i + 1) else nexts k rs (i + 1) := rfl
    rw [e]
    by_cases h : r.1 = k
    · rw [if_pos h.symm, if_pos h, h, List.append_assoc]; rfl
    · rw [if_neg (fun e => h e.symm), if_neg h]
theorem leav_get (rs : List Rl) (k : Int) : gget (leavE rs) k = nexts k rs 0 := by
  unfold leavE
  rw [leav_getL]
  rfl
theorem mset_keys (k : Int) (v : List Int) : ∀ (m : GM), (mset eqI m k v).map (·.1) = if k ∈ m.map (·.1) then m.map (·.1) else m.map (·.1) ++ [k]
  | [] => rfl
  | p :: m => by
    have ih := mset_keys k v m
    simp only [mset]
    by_cases h : k = p.1
    · have : eqI k p.1 = true := by simp only [eqI, h, decide_true]
      rw [this, cond_true, if_pos (by simp [h])]
      simp [h]
    · have : eqI k p.1 = false := by simp only [eqI, h, decide_false]
      rw [this, cond_false]
      simp only [List.map_cons, ih, List.mem_cons, h, false_or]
      split <;> rfl
theorem mset_once {k : Int} {v : List Int} {m : GM} (h : (m.map (·.1)).Nodup) : ((mset eqI m k v).map (·.1)).Nodup := by
  rw [mset_keys]
  split
  · exact h
  · rename_i hk
    rw [List.nodup_append]
    exact ⟨h, by simp, fun a ha b hb => by simp at hb; subst hb; exact fun e => hk (e ▸ ha)⟩
theorem leav_once : ∀ (rs : List Rl) (i : Nat) (m : GM), (m.map (·.1)).Nodup → ((leavL rs i m).map (·.1)).Nodup
  | [], _, _, h => h
  | _ :: rs, i, m, h => leav_once rs (i + 1) _ (mset_once h)
theorem find_mem : ∀ {m : GM} {x : Int × List Int}, (m.map (·.1)).Nodup → x ∈ m → mfind eqI m x.1 = some x.2
  | p :: m, x, h, hx => by
    simp only [List.map_cons, List.nodup_cons] at h
    simp only [mfind]
    rcases List.mem_cons.1 hx with rfl | hx
    · have : eqI x.1 x.1 = true := by simp only [eqI, decide_true]
      rw [this, cond_true]
    · have hne : x.1 ≠ p.1 := fun e => h.1 (by rw [← e]; exact List.mem_map_of_mem hx)
      have : eqI x.1 p.1 = false := by simp only [eqI, hne, decide_false]
      rw [this, cond_false]
      exact find_mem h.2 hx
theorem mem_find : ∀ {m : GM} {k : Int} {v : List Int}, mfind eqI m k = some v → (k, v) ∈ m
  | p :: m, k, v, h => by
    simp only [mfind] at h
    by_cases e : k = p.1
    · have : eqI k p.1 = true := by simp only [eqI, e, decide_true]
      rw [this, cond_true] at h
      injection h with h
      subst h; subst e
      simp
    · have : eqI k p.1 = false := by simp only [eqI, e, decide_false]
      rw [this, cond_false] at h
      exact List.mem_cons_of_mem _ (mem_find h)
/-- An entry is what its mode's rules are. -/
theorem leav_entry {rs : List Rl} {x : Int × List Int} (h : x ∈ leavE rs) : x.2 = nexts x.1 rs 0 := by
  have hf := find_mem (leav_once rs 0 [] (by simp)) h
  rw [← leav_get]
  unfold gget
  rw [show leavE rs = leavL rs 0 [] from rfl, hf]; rfl
theorem leav_rule {rs : List Rl} {x : Int × List Int} {j : Int} (h : x ∈ leavE rs) (hj : j ∈ x.2) : ∃ (i : Nat) (r : Rl), j = (i : Int) ∧ rs[i]? = some r ∧ r.1 = x.1 := by
  rw [leav_entry h] at hj
  obtain ⟨i, r, h1, h2, h3⟩ := nexts_mem.1 hj
  exact ⟨i, r, by rw [h3, Nat.zero_add], h1, h2⟩
/-- Each rule is in its mode's entry. -/
theorem leav_all {rs : List Rl} {i : Nat} {r : Rl} (h : rs[i]? = some r) : ∃ (p : Nat) (x : Int × List Int), (leavE rs)[p]? = some x ∧ x.1 = r.1 ∧ (i : Int) ∈ x.2 := by
  have hm : (i : Int) ∈ gget (leavE rs) r.1 := by
    rw [leav_get]
    exact nexts_mem.2 ⟨i, r, h, rfl, by rw [Nat.zero_add]⟩
  unfold gget at hm
  cases hf : mfind eqI (leavE rs) r.1 with
  | none => rw [hf] at hm; cases hm
  | some v =>
    rw [hf] at hm
    obtain ⟨p, hp⟩ := List.getElem?_of_mem (mem_find hf)
    exact ⟨p, _, hp, rfl, hm⟩
theorem leav_lens (rs : List Rl) : (leavE rs).length ≤ rs.length ∧ ∀ x, x ∈ leavE rs → x.2.length ≤ rs.length := by
  refine ⟨by have := leavL_len rs 0 []; simpa [leavE] using this, fun x hx => ?_⟩
  rw [leav_entry hx]
  exact nexts_len _ _ _
end Go.Proofs.Ytaphmhdgpdhpiaa
