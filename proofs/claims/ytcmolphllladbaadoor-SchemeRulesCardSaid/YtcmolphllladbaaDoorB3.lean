/- Contracts: the reference's Parse. Nothing here is trusted; no condition. -/
import Derived.Test.YtcmolphllladbaaDoorB2
import Derived.WalkKit
import Derived.Tactics2
import Derived.Defers
import Derived.Recover
set_option linter.unusedSimpArgs false
set_option linter.unusedVariables false
namespace Go.Proofs.YtcmolphllladbaaDoor
open Go.RowKit
set_option maxHeartbeats 1000000
theorem catch_panics (p : Addr) (b : Bool) (u : TypeId) (pv : Value) (w : World) (hc : w.cell? p = some (.bool b)) (hz : w.frozen? p = false) :
    CallsD Tryd.prog 56 #[.pointer (some p)] (.panicking [{ v := .iface u pv, recovered := false }]) w fun e u' w' =>
      e = .returned (.tuple #[]) ∧ u' = .panicking [{ v := .iface u pv, recovered := true }] ∧ w' = w.setCell p (.bool false) := by
  refine callsD_of_wpS Tryd.func56 rfl fun c₀ cs hu => ?_
  apply wpS_seq
  apply wpS_region
  simp [wpOpsS, go_sem, recoverD, hu, Tryd.ntmps56, Exit.thenS]
  refine wpS_cond (t := true) (by simp [Act.eval, Array.replicate]) ?_
  simp only [if_true]
  apply wpS_region
  simp [wpOpsS, go_sem, hc, hz, bodyPostS, results, Tryd.results56]
theorem catch_idle (p : Addr) (w : World) :
    CallsD Tryd.prog 56 #[.pointer (some p)] .returning w fun e u' w' => e = .returned (.tuple #[]) ∧ u' = .returning ∧ w' = w := by
  refine callsD_of_wpS Tryd.func56 rfl fun c₀ cs hu => ?_
  apply wpS_seq
  apply wpS_region
  simp [wpOpsS, go_sem, recoverD, hu, Tryd.ntmps56, Exit.thenS]
  refine wpS_cond (t := false) (by simp [Act.eval, Array.replicate]) ?_
  simp only [Bool.false_eq_true, if_false]
  refine wpS_of_wp (wp_skip ?_)
  cases c₀
  simp_all [bodyPostS, results, Tryd.results56]
theorem setCell_same {w : World} {g : Nat} {vs : Array Value} {e : TypeId} {v : Value} (h : w.heap[g]? = some (.cells vs e (0, 0))) (hv : vs[0]? = some v) : w.setCell ⟨g, 0, none⟩ v = w := by
  have hm : w.heap.modify g (fun o => match o with | .cells c elem frozen => .cells (if (none : Option Nat).isSome then c else c.setIfInBounds 0 v) elem frozen | o => o) = w.heap := by
    apply Array.ext_getElem?
    intro i
    rw [Array.getElem?_modify]
    split
    · rename_i hi
      subst hi
      rw [h]
      have hs : vs.setIfInBounds 0 v = vs := by
        apply Array.ext_getElem?
        intro j
        rw [Array.getElem?_setIfInBounds]
        split
        · rename_i hj
          subst hj
          split
          · exact hv.symm
          · rename_i hl; rw [Array.getElem?_eq_none (by omega)]
        · rfl
      simp [hs]
    · rfl
  unfold World.setCell
  simp only
  cases w
  simp only at hm ⊢
  congr 1
/-- Another name for a block. -/
def rhoQ (x Q i : Nat) : Nat := bif Nat.beq i x then Q else i
/-- A frame that has just deferred something, seen as one that begins: one of its blocks gets a name that is kept. -/
theorem Full.top {n : Nat} {w0 : World} {C : Cx} {s : St} {a : Act} {w : World} {ν : Nat → Value} {S : Nat → Prop} (h : Full n w0 C s a w ν S) {x Q : Nat} (hQ : look Q s.bl = none) (d : List Deferred) :
    Rel n w0 { C with ν := fun i => bif Nat.beq i Q then ν x else ν i, df := d } (s.ren (rhoQ x Q)) { a with defers := d } w := by
  have nQ : ∀ i b, look i s.bl = some b → i ≠ Q := fun i b hb e => by rw [e, hQ] at hb; cases hb
  have hx : rhoQ x Q x = Q := by simp [rhoQ]
  have hne : ∀ i, i ≠ x → rhoQ x Q i = i := fun i hi => by
    have : Nat.beq i x = false := by
      cases hb : Nat.beq i x with
      | false => rfl
      | true => exact absurd (Nat.eq_of_beq_eq_true hb) hi
    simp [rhoQ, this]
  have inj : ∀ i j b c, look i s.bl = some b → look j s.bl = some c → rhoQ x Q i = rhoQ x Q j → i = j := fun i j b c hi hj e => by
    by_cases h1 : i = x
    · by_cases h2 : j = x
      · rw [h1, h2]
      · rw [h1, hx, hne j h2] at e; exact absurd e.symm (nQ j c hj)
    · by_cases h2 : j = x
      · rw [h2, hx, hne i h1] at e; exact absurd e (nQ i b hi)
      · rw [hne i h1, hne j h2] at e; exact e
  have hν : ∀ i b, look i s.bl = some b → (bif Nat.beq (rhoQ x Q i) Q then ν x else ν (rhoQ x Q i)) = ν i := fun i b hb => by
    by_cases h1 : i = x
    · subst h1; rw [hx]; simp
    · rw [hne i h1]
      have : Nat.beq i Q = false := by
        cases hq : Nat.beq i Q with
        | false => rfl
        | true => exact absurd (Nat.eq_of_beq_eq_true hq) (nQ i b hb)
      rw [this]; rfl
  have hlook : ∀ i b, look i s.bl = some b → look (rhoQ x Q i) (s.ren (rhoQ x Q)).bl = some (b.map (PV.renL (rhoQ x Q))) := fun i b hb => look_renBl_of (fun j c hc e => inj j i c b hc hb e) hb
  have hold : ∀ i b, look i (s.ren (rhoQ x Q)).bl = some b → ∃ j c, rhoQ x Q j = i ∧ look j s.bl = some c ∧ b = c.map (PV.renL (rhoQ x Q)) := fun i b hb => look_renBl (fun j k c e hc he hjk => inj j k c e hc he hjk) hb
  have hle : Ctx.LeR (keys s.bl) (rhoQ x Q) ⟨ν, s.D, w, ⟨S, own0 w0 C⟩⟩ ⟨fun i => bif Nat.beq i Q then ν x else ν i, (s.ren (rhoQ x Q)).D, w, ⟨S, own0 w0 C⟩⟩ :=
    ⟨fun _ _ => rfl, fun _ h => h, fun i _ ⟨b, hb⟩ => ⟨_, hlook i b hb⟩, fun i _ ⟨b, hb⟩ => hν i b hb⟩
  refine ⟨fun i => bif Nat.beq i Q then ν x else ν i, S, h.below, h.inS, h.fresh, ⟨h.W.lt, h.W.size, fun i b hb => ?_, fun i j b c hij hi hj g hg hg' => ?_⟩, fun t => ?_, h.size, rfl, h.few, fun _ _ _ => rfl, h.tab⟩
  · obtain ⟨j, c, rfl, hc, rfl⟩ := hold i b hb
    have hr := h.W.blk j c hc
    exact BRel_ren hle (BRel_keys (fun _ h => h) hr) (hν j c hc) (fun g hg => ⟨rfl, (BRel_at hr hg).1, (BRel_at hr hg).2.1⟩) hr
  · obtain ⟨i', b', rfl, hb', _⟩ := hold i b hi
    obtain ⟨j', c', rfl, hc', _⟩ := hold j c hj
    simp only [hν i' b' hb'] at hg
    simp only [hν j' c' hc'] at hg'
    exact h.W.ne i' j' b' c' (fun e => hij (by rw [e])) hb' hc' g hg hg'
  · have e : (s.ren (rhoQ x Q)).get t = (s.get t).ren (rhoQ x Q) := by
      simp only [St.get, St.ren, look_mapSl]
      cases look t s.sl <;> simp [PV.ren]
    rw [e]
    have hs := h.slots t
    exact PRel_ren hle (PRel_keys (fun _ h => h) hs) hs
/-- What is kept of a frame's end when it was seen as one that begins. -/
theorem PostH.drop {w0 w : World} {C : Cx} {ν0 : Nat → Value} {d : List Deferred} {p : PV} {v : Value} {bl1 bl' : List (Nat × Blk)}
    (hν : ∀ i, P0 ≤ i → (⟨[], bl'⟩ : St).D i → ν0 i = C.ν i) (hle : leBl ⟨[], bl1⟩ bl') (hin : innBl (keys bl') bl' = true) (hp : PV.inn (keys bl') p = true)
    (h : PostH w0 { C with ν := ν0, df := d } p bl1 v w) : PostH w0 C p bl' v w := by
  obtain ⟨hk, ν, S, h1, h2, h3, hW, hv⟩ := h
  have hold : ∀ i b, look i bl' = some b → ∃ c, look i bl1 = some c ∧ leB (some c) b := by
    intro i b hb
    have g1 := leBl_at hle hb
    obtain ⟨c, hc⟩ := leB_some g1
    have hc' : look i bl1 = some c := hc
    rw [show look i (⟨[], bl1⟩ : St).bl = some c from hc] at g1
    exact ⟨c, hc', g1⟩
  refine ⟨hk, ν, S, h1, h2, fun i hi ⟨b, hb⟩ => ?_, ⟨hW.lt, hW.size, fun i b hb => ?_, fun i j b c hij hi hj => ?_⟩, PRel_inn (fun _ h => h) hp hv⟩
  · obtain ⟨c, hc, _⟩ := hold i b hb
    rw [h3 i hi ⟨c, hc⟩]
    exact hν i hi ⟨b, hb⟩
  · obtain ⟨c, hc, hlb⟩ := hold i b hb
    exact BRel_le (fun _ h => h) hlb (innBl_at hin hb) (fun g hg hn => hn) (hW.blk i c hc)
  · obtain ⟨b', hb', _⟩ := hold i b hi
    obtain ⟨c', hc', _⟩ := hold j c hj
    exact hW.ne i j b' c' hij hb' hc'
/-- What a frame is when its closure has been deferred. -/
structure DeferAt (E : Env) (f n : Nat) (fn : Func) (rest : Code) (args : List PV) (bl : List (Nat × Blk)) (g x : Nat) (s2 : St) : Prop where
  go : ∀ (w : World) (C : Cx) (vs : List Value), C.df = [] → TabX w C → WRel ⟨[], bl⟩ C.ν w ⟨C.S, own0 w C⟩ → PRels ⟨C.ν, (⟨[], bl⟩ : St).D, w, ⟨C.S, own0 w C⟩⟩ args vs → ∀ cs : List Frame,
    ∃ (b : Frame) (a : Act) (w2 : World) (ν : Nat → Value) (S : Nat → Prop) (gg : Nat), b.fn = f ∧ b.kind = .normal ∧ Full n w C s2 a w2 ν S ∧ ν x = .pointer (some ⟨gg, 0, none⟩) ∧
      Steps E.P (lone (Frame.enter E.P f vs.toArray .normal) cs w) (lone (b.at { a with defers := [⟨.fn (.func g) #[.pointer (some ⟨gg, 0, none⟩)], #[]⟩] } [.code rest]) cs w2)
theorem defer_at {E : Env} (hE : EnvOK E) {f n : Nat} {fn : Func} {i0 i1 : Nat} {o1 o2 o3 : Oper} {rest : Code} {args : List PV} {bl : List (Nat × Blk)} {g x y : Nat} {s1 s2 : St}
    (hfn : E.P.funcs[f]? = some fn) (hb : fn.body = some (.seq (.region i0 #[o1] false) (.seq (.region i1 #[o2, o3] false) rest))) (hn : fn.ntmps = n) (hlen : Nat.ble args.length n = true) (hfew : Nat.ble n 100000 = true)
    (ok1 : opOK n o1 = true) (ok2 : opOK n o2 = true) (ok3 : opOK n o3 = true) (hg1 : o1.guard = none) (hg2 : o2.guard = none) (hg3 : o3.guard = none) (hd3 : o3.dst = none)
    (hr1 : OutK E (stepF E ⟨[], true⟩ ⟨entrySl 0 args, bl⟩ o1) (fun l => (⟨entrySl 0 args, bl⟩ : St).fin o1.dst l = s1))
    (hr2 : OutK E (stepF E ⟨[], true⟩ s1 o2) (fun l => s1.fin o2.dst l = s2))
    (hop3 : o3.op = .defer { callee := .value (.tmp y), args := #[], argTypes := #[] }) (hy : s2.get y = .fn g [.ref x 0]) : DeferAt E f n fn rest args bl g x s2 := by
  refine ⟨fun w C vs hdf htab hrel hps cs => ?_⟩
  have hvl : vs.length = args.length := (PRels_len hps).symm
  have hle := Nat.le_of_ble_eq_true hlen
  let b : Frame := { (default : Frame) with fn := f, kind := .normal }
  have henter : Frame.enter E.P f vs.toArray .normal = b.at { tmps := vs.toArray ++ Array.replicate (fn.ntmps - vs.toArray.size) undef, defers := [] } [.code (.seq (.region i0 #[o1] false) (.seq (.region i1 #[o2, o3] false) rest))] := by
    simp [Frame.enter, Frame.at, hfn, hb, b]
  have hrel0 : Rel n w C ⟨entrySl 0 args, bl⟩ { tmps := vs.toArray ++ Array.replicate (fn.ntmps - vs.toArray.size) undef, defers := [] } w := by
    refine ⟨C.ν, C.S, Kept.refl _ _, fun _ h => h, fun _ h => .inl h, ⟨hrel.lt, hrel.size, hrel.blk, hrel.ne⟩, fun t => ?_, ?_, hdf.symm, Nat.le_of_ble_eq_true hfew, fun _ _ _ => rfl, htab⟩
    · unfold St.get
      split
      · rename_i q hp
        obtain ⟨_, v, hv, hr⟩ := entrySl_rel args vs 0 t q hps hp
        have htl : t < vs.length := by
          rw [Nat.sub_zero] at hv
          exact (List.getElem?_eq_some_iff.1 hv).1
        have : (vs.toArray ++ Array.replicate (fn.ntmps - vs.toArray.size) undef).getD t undef = v := by
          rw [Array.getD_eq_getD_getElem?, Array.getElem?_append_left (by simpa using htl)]
          rw [Nat.sub_zero] at hv
          simp [hv]
        rw [this]
        exact hr
      · simp only [PRel]
    · simp only [Array.size_append, List.size_toArray, Array.size_replicate, hn]
      omega
  let G : Goal := ⟨f, n, fn.results.toList, .any, [], none, false⟩
  have h0 : (Code.region i0 #[o1] false).wp E.P (RegQ G w C (fun s => s = s1)) { tmps := vs.toArray ++ Array.replicate (fn.ntmps - vs.toArray.size) undef, defers := [] } w := by
    refine wp_region_list ?_
    have := runs_list (G := G) (w0 := w) (S0 := C) (N := []) (K := fun s => s = s1) hE (all := [o1]) (by simp [G, ok1]) [o1] [] _ _ w (by simp [G, ok1]) (by
      unfold runs
      rw [hg1]
      exact .inl hr1) hrel0
    simpa using this
  obtain ⟨e1, a1, w1, hq1, harr1⟩ := h0 b [.code (.seq (.region i1 #[o2, o3] false) rest)] cs
  cases e1 with
  | panic ch => exact absurd hq1.1 (by simp [G])
  | normal =>
    obtain ⟨_, rfl, hrel1⟩ := hq1
    have h1 : (Code.region i1 #[o2, o3] false).wp E.P (fun e a' w' => e = .normal ∧ ∃ (a : Act) (ν : Nat → Value) (S : Nat → Prop) (gg : Nat), Full n w C s2 a w' ν S ∧ ν x = .pointer (some ⟨gg, 0, none⟩) ∧ a' = { a with defers := [⟨.fn (.func g) #[.pointer (some ⟨gg, 0, none⟩)], #[]⟩] }) a1 w1 := by
      refine wp_region_list ?_
      refine wpList_step fun K hK => ?_
      have hw2 : Region.wanted o2 (yielded #[o2, o3] a1.tmps) = true := by simp [Region.wanted, hg2]
      rw [if_pos hw2]
      obtain ⟨ν1, S1, hf1⟩ := hrel1.full
      refine Oper.wp_mono (fun a' w' ⟨s', e, hrel2⟩ => hK a' w' ?_) (op_sound (K := fun s => s = s2) hE hf1 ok2 hr2)
      subst e
      refine wpList_step fun K' hK' => ?_
      have hw3 : Region.wanted o3 (yielded #[o2, o3] a'.tmps) = true := by simp [Region.wanted, hg3]
      rw [if_pos hw3]
      obtain ⟨ν, S, hf⟩ := hrel2.full
      have hs := hf.slots y
      rw [hy] at hs
      simp only [PRel, PRels] at hs
      obtain ⟨cvs, hcl, v0, r0, rfl, hv0, rfl⟩ := hs
      obtain ⟨_, gg, e1, e2⟩ := hv0
      have hev : a'.eval (.tmp y) = .func (.func g) #[] #[.pointer (some ⟨gg, 0, none⟩)] := by
        show a'.tmps.getD y undef = _
        rw [hcl, e2]
      have hrun : (execOp a'.eval o3).run E.P w' = .ok (.defer ⟨.fn (.func g) #[.pointer (some ⟨gg, 0, none⟩)], #[]⟩) w' := by
        simp [execOp, hop3, resolve, hev, Deferred.ofValue]
      unfold Oper.wp
      rw [hrun]
      refine hK' _ _ ?_
      have hdf' : a'.defers = [] := hf.defers.trans hdf
      refine ⟨rfl, a', ν, S, gg, hf, e1, ?_⟩
      rw [hd3]
      show ({ a' with defers := _ :: a'.defers } : Act) = _
      rw [hdf']
    obtain ⟨e2, a2, w2, ⟨rfl, a, ν, S, gg, hf, hx, rfl⟩, harr2⟩ := h1 b [.code rest] cs
    refine ⟨b, a, w2, ν, S, gg, rfl, rfl, hf, hx, ?_⟩
    rw [henter]
    exact ((Steps.one step_seq).trans harr1).trans ((Steps.one step_seq).trans harr2)
  | _ => exact hq1.elim
theorem foot_no_tab {w : World} {ν : Nat → Value} {bl : List (Nat × Blk)} {S : Nat → Prop} (hT : Tabs w S) (hW : WRel ⟨[], bl⟩ ν w ⟨S, own0 w ⟨S, foot ν bl, ν, []⟩⟩) : TabX w ⟨S, foot ν bl, ν, []⟩ := by
  refine ⟨hT, fun g hg hX => ?_⟩
  obtain ⟨i, b, hb, hν⟩ := hX
  exact (BRel_at (hW.blk i b hb) hν).2.1 (hT g hg).1
theorem HC.of_deferR {E : Env} (hE : EnvOK E) {f n m : Nat} {fn : Func} {rest : Code} {args : List PV} {bl bl1 bl' : List (Nat × Blk)} {p : PV} {g x Q : Nat} {s2 : St}
    (hfn : E.P.funcs[f]? = some fn) (hat : DeferAt E f n fn rest args bl g x s2)
    (hQ : look Q s2.bl = none) (hkeys : ∀ i, P0 ≤ i → mem1 i (keys bl') = true → i ≠ Q ∧ mem1 i (keys s2.bl) = true)
    (hle : leBl ⟨[], bl1⟩ bl') (hin : innBl (keys bl') bl' = true) (hp : PV.inn (keys bl') p = true)
    (hok : okT (drE E f drB (ordB2 E)) n [.code rest] = true)
    (hidle : ∀ (p : Addr) (w : World), CallsD E.P g #[.pointer (some p)] .returning w fun e u' w' => e = .returned (.tuple #[]) ∧ u' = .returning ∧ w' = w)
    (hinv : ∀ (p : Addr) (w : World), (invoke (.fn (.func g) #[.pointer (some p)]) #[]).run E.P w = .ok (.enter g #[.pointer (some p)]) w)
    (h : okPs args → okBl bl → PW E ⟨f, n, fn.results.toList, p, bl1, none, false⟩ m [.code rest] (s2.ren (rhoQ x Q))) : HC E f args bl p bl' := by
  intro w S0 ν0 vs a1 a2 a3 a4 a5 a6 cs
  have hW := PW_sound hE (G := ⟨f, n, fn.results.toList, p, bl1, none, false⟩) ⟨fn, hfn, rfl⟩ m _ _ hok (h (okPs_of a6) (okBl_of a5))
  obtain ⟨b, a, w2, ν, S, gg, hbf, hbk, hf, hx, hst⟩ := hat.go w ⟨S0, foot ν0 bl, ν0, []⟩ vs rfl (foot_no_tab a2 a5) a5 a6 cs
  obtain ⟨u, a3', w3, td, hpost, hst2⟩ := hW w _ _ w2 (hf.top (x := x) (Q := Q) hQ [⟨.fn (.func g) #[.pointer (some ⟨gg, 0, none⟩)], #[]⟩]) b cs hbf hbk
  cases u with
  | run => exact hpost.elim
  | panicking ch => exact absurd hpost.1 (by simp)
  | returning =>
    obtain ⟨_, hdf, fn', v, h3, h4, h5⟩ := hpost
    have h3' : E.P.funcs[f]? = some fn' := h3
    rw [hfn] at h3'
    injection h3' with h3'
    subst h3'
    have hfin : PostH w ⟨S0, foot ν0 bl, ν0, []⟩ p bl' v w3 := by
      refine PostH.drop (bl1 := bl1) (fun i hi ⟨b', hb'⟩ => ?_) hle hin hp h5
      obtain ⟨hiQ, hk2⟩ := hkeys i hi (mem1_keys hb')
      have hbq : Nat.beq i Q = false := by
        cases hb : Nat.beq i Q with
        | false => rfl
        | true => exact absurd (Nat.eq_of_beq_eq_true hb) hiQ
      simp only [hbq, cond_false]
      obtain ⟨c, hc⟩ := mem1_keys' hk2
      exact hf.kept i hi ⟨c, hc⟩
    have hL : Leaves E.P fn a3'.tmps (fun e w' => ∃ v, e = .returned v ∧ PostH w ⟨S0, foot ν0 bl, ν0, []⟩ p bl' v w') [⟨.fn (.func g) #[.pointer (some ⟨gg, 0, none⟩)], #[]⟩] .returning w3 := by
      refine leaves_cons (f := g) (args := #[.pointer (some ⟨gg, 0, none⟩)]) (by simp) ?_ ?_
      · exact hinv _ _
      · refine (hidle ⟨gg, 0, none⟩ w3).mono ?_
        rintro e u' w' ⟨rfl, rfl, rfl⟩
        exact ⟨v, h4, v, rfl, hfin⟩
    obtain ⟨e, w', fr', hR, hc, hfn', hl⟩ := leaves_steps [⟨.fn (.func g) #[.pointer (some ⟨gg, 0, none⟩)], #[]⟩] .returning w3 { b.at a3' td with mode := .returning } cs rfl hdf rfl (by show E.P.funcs[b.fn]? = some fn; rw [hbf]; exact hfn) hbk hL
    refine ⟨e, w', fr', hR, Comes.of_steps (hst.trans hst2) hc, ?_, hl⟩
    rw [hfn']
    exact hbf
theorem HC.of_deferX {E : Env} (hE : EnvOK E) {f n m : Nat} {fn : Func} {rest : Code} {args : List PV} {bl bl1 bl' : List (Nat × Blk)} {g x Q : Nat} {s2 : St} {te : Option Nat}
    (hfn : E.P.funcs[f]? = some fn) (hat : DeferAt E f n fn rest args bl g x s2)
    (hQ : look Q s2.bl = none) (hQ0 : P0 ≤ Q) (hkeys : ∀ i, P0 ≤ i → mem1 i (keys bl') = true → i ≠ Q ∧ mem1 i (keys s2.bl) = true)
    (hle : leBl ⟨[], bl1⟩ bl') (hin : innBl (keys bl') bl' = true) (hQ1 : look Q bl1 = some (.box [.iv .bool false] te))
    (hok : okT (drE E f drB (ordB2 E)) n [.code rest] = true)
    (hcatch : ∀ (p : Addr) (b : Bool) (u : TypeId) (pv : Value) (w : World), w.cell? p = some (.bool b) → w.frozen? p = false → CallsD E.P g #[.pointer (some p)] (.panicking [{ v := .iface u pv, recovered := false }]) w fun e u' w' =>
      e = .returned (.tuple #[]) ∧ u' = .panicking [{ v := .iface u pv, recovered := true }] ∧ w' = w.setCell p (.bool false))
    (hinv : ∀ (p : Addr) (w : World), (invoke (.fn (.func g) #[.pointer (some p)]) #[]).run E.P w = .ok (.enter g #[.pointer (some p)]) w)
    (hload : ∀ (tmps : Array Value) (p : Addr) (w : World), tmps.getD x undef = .pointer (some p) → w.cell? p = some (.bool false) → (results fn tmps).run E.P w = .ok (.bool false) w)
    (h : okPs args → okBl bl → PW E ⟨f, n, fn.results.toList, .fn x [.ref Q 0], bl1, none, true⟩ m [.code rest] (s2.ren (rhoQ x Q))) : HC E f args bl (.iv .bool false) bl' := by
  intro w S0 ν0 vs a1 a2 a3 a4 a5 a6 cs
  have hW := PW_sound hE (G := ⟨f, n, fn.results.toList, .fn x [.ref Q 0], bl1, none, true⟩) ⟨fn, hfn, rfl⟩ m _ _ hok (h (okPs_of a6) (okBl_of a5))
  obtain ⟨b, a, w2, ν, S, gg, hbf, hbk, hf, hx, hst⟩ := hat.go w ⟨S0, foot ν0 bl, ν0, []⟩ vs rfl (foot_no_tab a2 a5) a5 a6 cs
  obtain ⟨u, a3', w3, td, hpost, hst2⟩ := hW w _ _ w2 (hf.top (x := x) (Q := Q) hQ [⟨.fn (.func g) #[.pointer (some ⟨gg, 0, none⟩)], #[]⟩]) b cs hbf hbk
  cases u with
  | run => exact hpost.elim
  | returning => exact absurd hpost.1 (by simp)
  | panicking ch =>
    obtain ⟨_, hdf, ⟨tt, uu, rfl⟩, hkeep, h5⟩ := hpost
    have hkx : a3'.tmps.getD x undef = .pointer (some ⟨gg, 0, none⟩) := by
      have := hkeep x Q rfl
      rw [this]
      show (bif Nat.beq Q Q then ν x else ν Q) = _
      simp [hx]
    have hcell : w3.heap[gg]? = some (.cells #[.bool false] (match w3.heap[gg]? with | some (.cells _ e _) => e | _ => 0) (0, 0)) := by
      obtain ⟨hk, ν', S', h1, h2, h3, hW', hv⟩ := h5
      have hb := hW'.blk Q _ hQ1
      obtain ⟨_, g', vs', e', e1, _, _, e2, _, e3⟩ := hb
      have hq := h3 Q hQ0 ⟨_, hQ1⟩
      dsimp only at e1 e2 e3 hq
      rw [e1] at hq
      simp only [Nat.beq_refl, cond_true, hx] at hq
      injection hq with hq; injection hq with hq; injection hq with hq
      subst hq
      simp only [PRels, PRel] at e3
      obtain ⟨v0, r0, e4, hv0, e5⟩ := e3
      subst e5
      have : vs' = #[.bool false] := by
        apply Array.toList_inj.1
        rw [e4]
        have := hv0.2
        simp only [RepR, RepV, RepC] at this
        simpa using this
      rw [e2, this]
    generalize (match w3.heap[gg]? with | some (.cells _ e _) => e | _ => 0) = et at hcell
    have hfin : PostH w ⟨S0, foot ν0 bl, ν0, []⟩ (.iv .bool false) bl' (.bool false) w3 := by
      have : PostH w ⟨S0, foot ν0 bl, ν0, []⟩ .any bl' undef w3 := by
        refine PostH.drop (bl1 := bl1) (fun i hi ⟨b', hb'⟩ => ?_) hle hin rfl h5
        obtain ⟨hiQ, hk2⟩ := hkeys i hi (mem1_keys hb')
        have hbq : Nat.beq i Q = false := by
          cases hb : Nat.beq i Q with
          | false => rfl
          | true => exact absurd (Nat.eq_of_beq_eq_true hb) hiQ
        simp only [hbq, cond_false]
        obtain ⟨c, hc⟩ := mem1_keys' hk2
        exact hf.kept i hi ⟨c, hc⟩
      obtain ⟨hk, ν', S', h1, h2, h3, hW', hv⟩ := this
      exact ⟨hk, ν', S', h1, h2, h3, hW', by simp only [PRel]; exact ⟨rfl, rfl⟩⟩
    have hc : w3.cell? ⟨gg, 0, none⟩ = some (.bool false) := by simp [World.cell?, hcell]
    have hz : w3.frozen? ⟨gg, 0, none⟩ = false := by simp [World.frozen?, hcell]
    have hL : Leaves E.P fn a3'.tmps (fun e w' => ∃ v, e = .returned v ∧ PostH w ⟨S0, foot ν0 bl, ν0, []⟩ (.iv .bool false) bl' v w') [⟨.fn (.func g) #[.pointer (some ⟨gg, 0, none⟩)], #[]⟩] (.panicking [{ v := .iface tt uu, recovered := false }]) w3 := by
      refine leaves_cons (f := g) (args := #[.pointer (some ⟨gg, 0, none⟩)]) (by simp) (hinv _ _) ?_
      refine (hcatch ⟨gg, 0, none⟩ false tt uu w3 hc hz).mono ?_
      rintro e u' w' ⟨rfl, rfl, rfl⟩
      have hsc : w3.setCell ⟨gg, 0, none⟩ (.bool false) = w3 := setCell_same hcell (by rfl)
      rw [hsc]
      exact ⟨_, hload _ _ _ hkx hc, _, rfl, hfin⟩
    obtain ⟨e, w', fr', hR, hcm, hfn', hl⟩ := leaves_steps [⟨.fn (.func g) #[.pointer (some ⟨gg, 0, none⟩)], #[]⟩] (.panicking [{ v := .iface tt uu, recovered := false }]) w3 { b.at a3' td with mode := .panicking [{ v := .iface tt uu, recovered := false }] } cs rfl hdf rfl (by show E.P.funcs[b.fn]? = some fn; rw [hbf]; exact hfn) hbk hL
    refine ⟨e, w', fr', hR, Comes.of_steps (hst.trans hst2) hcm, ?_, hl⟩
    rw [hfn']
    exact hbf
end Go.Proofs.YtcmolphllladbaaDoor
--SET+ by32, Int.reduceEq, not_true_eq_false, not_false_eq_true, false_implies
namespace Go.Proofs.YtcmolphllladbaaDoor
open Go.Lib
set_option maxHeartbeats 4000000
set_option maxRecDepth 100000
theorem cls_dig (u : UInt8) : (clsE u.toNat = 3) ↔ dig u = true := by
  unfold clsE dig
  rw [decide_eq_true_eq]
  split
  · rename_i h; exact ⟨fun h => by simp at h, fun h2 => by omega⟩
  · split
    · rename_i h; exact ⟨fun h => by simp at h, fun h2 => by omega⟩
    · split
      · rename_i h; exact ⟨fun _ => by omega, fun _ => rfl⟩
      · rename_i h; exact ⟨fun h => by simp at h, fun h2 => absurd (by omega) h⟩
theorem c_start (fs : List Str) (nm : Str) (n : Int) (h : (fs.length : Int) = n) (h0 : fs[0]? = some nm) : PC env 58 [⟨.sl .str, fs⟩, ⟨.str, nm⟩, ⟨.int .i64, n⟩] .unit () := by
  refine PC.of_PW (m := 2000) env_ok fn_58 rfl rfl rfl rfl (by kernel_rfl) ?_; intro hx; simp only [Tryd.f58]; simp only [go_sem, Nat.reduceBEq, ↓reduceIte, ↓reduceDIte, Nat.reduceAdd, Nat.reduceSub, Nat.reduceMul, Nat.reduceLeDiff, ← Bool.decide_and, ← Bool.decide_or, ← decide_not, Int.reduceLT, Int.reduceLE, Int.reduceToNat, Int.reduceNeg, by32, Int.reduceEq, not_true_eq_false, not_false_eq_true, false_implies]
  exact ⟨fun _ => ⟨nm, h0, fun g => absurd rfl g, fun _ => trivial⟩, fun g => absurd h g⟩
theorem x_start (fs : List Str) (nm : Str) (n : Int) (hn : 0 < n) (h : ¬ ((fs.length : Int) = n ∧ fs[0]? = some nm)) : XC env 58 [⟨.sl .str, fs⟩, ⟨.str, nm⟩, ⟨.int .i64, n⟩] := by
  refine XC.of_PW (m := 2000) env_ok fn_58 rfl rfl rfl rfl (by kernel_rfl) ?_; intro hx; simp only [Tryd.f58]; simp only [go_sem, Nat.reduceBEq, ↓reduceIte, ↓reduceDIte, Nat.reduceAdd, Nat.reduceSub, Nat.reduceMul, Nat.reduceLeDiff, ← Bool.decide_and, ← Bool.decide_or, ← decide_not, Int.reduceLT, Int.reduceLE, Int.reduceToNat, Int.reduceNeg, by32, Int.reduceEq, not_true_eq_false, not_false_eq_true, false_implies]
  refine ⟨fun g => ?_, fun _ => trivial⟩
  obtain ⟨x, hx0⟩ : ∃ x, fs[0]? = some x := get_of_lt (by omega)
  exact ⟨x, hx0, fun _ => trivial, fun e => h ⟨g, by rw [hx0, e]⟩⟩
theorem c_text (s : Str) (h : s ≠ []) : PC env 60 [⟨.str, s⟩] .str (undash s) := by
  refine PC.of_PW (m := 2000) env_ok fn_60 rfl rfl rfl rfl (by kernel_rfl) ?_; intro hx; simp only [Tryd.f60]; simp only [go_sem, Nat.reduceBEq, ↓reduceIte, ↓reduceDIte, Nat.reduceAdd, Nat.reduceSub, Nat.reduceMul, Nat.reduceLeDiff, ← Bool.decide_and, ← Bool.decide_or, ← decide_not, Int.reduceLT, Int.reduceLE, Int.reduceToNat, Int.reduceNeg, by32, Int.reduceEq, not_true_eq_false, not_false_eq_true, false_implies]
  unfold undash
  exact ⟨fun g => absurd g h, fun _ => ⟨fun g => (if_pos g).symm, fun g => (if_neg g).symm⟩⟩
theorem x_text (s : Str) (h : s = []) : XC env 60 [⟨.str, s⟩] := by
  refine XC.of_PW (m := 2000) env_ok fn_60 rfl rfl rfl rfl (by kernel_rfl) ?_; intro hx; simp only [Tryd.f60]; simp only [go_sem, Nat.reduceBEq, ↓reduceIte, ↓reduceDIte, Nat.reduceAdd, Nat.reduceSub, Nat.reduceMul, Nat.reduceLeDiff, ← Bool.decide_and, ← Bool.decide_or, ← decide_not, Int.reduceLT, Int.reduceLE, Int.reduceToNat, Int.reduceNeg, by32, Int.reduceEq, not_true_eq_false, not_false_eq_true, false_implies]
  exact ⟨fun _ => trivial, fun g => absurd h g⟩
theorem c_number (s : Str) (most n : Int) (h : numM most s = some n) : PC env 59 [⟨.str, s⟩, ⟨.int .i64, most⟩] (.int .i64) n := by
  unfold numM at h
  split at h
  case isFalse => cases h
  rename_i hh
  injection h with h
  subst h
  obtain ⟨hok, hmost⟩ := hh
  simp only [numOK, Bool.and_eq_true, decide_eq_true_eq] at hok
  obtain ⟨⟨k1, k4, k0⟩, kd⟩ := hok
  refine PC.of_PW (m := 2000) env_ok fn_59 rfl rfl rfl rfl (by kernel_rfl) ?_; intro hx; simp only [Tryd.f59]; simp only [go_sem, Nat.reduceBEq, ↓reduceIte, ↓reduceDIte, Nat.reduceAdd, Nat.reduceSub, Nat.reduceMul, Nat.reduceLeDiff, ← Bool.decide_and, ← Bool.decide_or, ← decide_not, Int.reduceLT, Int.reduceLE, Int.reduceToNat, Int.reduceNeg, by32, Int.reduceEq, not_true_eq_false, not_false_eq_true, false_implies]
  obtain ⟨x0, hx0⟩ : ∃ x, s[0]? = some x := get_of_lt (by omega)
  have h48 : (x0.toNat : Int) = 48 → s[0]? = some 48 := fun g => by
    rw [hx0]
    congr 1
    exact UInt8.toNat_inj.1 (by rw [show (48 : UInt8).toNat = 48 from rfl]; omega)
  refine ⟨fun g1 => ⟨fun g2 => ⟨_, ⟨x0, hx0, rfl⟩, fun g3 => ⟨fun g4 => absurd ⟨h48 g3, by omega⟩ k0, fun g4 => ?_⟩, fun g3 => ?_⟩, fun g2 => absurd g2 (by omega)⟩, fun g1 => absurd g1 (by omega)⟩
  all_goals
    refine Walks.loopA (X := Nat) (fun (i : Nat) => [(29, .iv (.int .i64) (i : Int)), (6, .any), (5, .iv (.int .i64) ((valS (s.take i) : Nat) : Int))]) (fun (i : Nat) => []) (fun (i : Nat) => i ≤ s.length ∧ valS (s.take i) < 10 ^ i) (fun (i : Nat) => s.length - i) 0 ?_; intro b1 b2 hb1 hb2; simp (config := {maxSteps := 4000000}) only [go_sem, Nat.reduceBEq, ↓reduceIte, ↓reduceDIte, Nat.reduceAdd, Nat.reduceSub, Nat.reduceMul, Nat.reduceLeDiff, ← Bool.decide_and, ← Bool.decide_or, ← decide_not, Int.reduceLT, Int.reduceLE, Int.reduceToNat, Int.reduceNeg, by32, Int.reduceEq, not_true_eq_false, not_false_eq_true, false_implies] at hb1 hb2; subst hb1; subst hb2; refine ⟨(by refine ⟨?_, ?_, rfl, rfl⟩ <;> repeat' (first | exact trivial | exact Or.inl rfl | exact Or.inr rfl | (refine And.intro (Or.inl rfl) ?_) | (refine And.intro (Or.inr (Or.inl rfl)) ?_) | (refine And.intro (Or.inr (Or.inr (Or.inr ⟨rfl, rfl⟩))) ?_) | (refine And.intro (Or.inr (Or.inr (Or.inl ⟨rfl, rfl, trivial⟩))) ?_) | exact ⟨(by show (_ : Nat) < 1000000000; omega), rfl, rfl⟩ | rfl | (refine And.intro (Or.inl ?_) ?_) | (refine And.intro ?_ ?_))), ?_, ?_⟩
    · exact ⟨Nat.zero_le _, by show (0 : Nat) < 1; decide⟩
    intro i ⟨hi, hv⟩ back
    refine PW_sound env_ok ⟨_, fn_59, rfl⟩ 2000 _ _ (by kernel_rfl) ?_; simp only [go_sem, Nat.reduceBEq, ↓reduceIte, ↓reduceDIte, Nat.reduceAdd, Nat.reduceSub, Nat.reduceMul, Nat.reduceLeDiff, ← Bool.decide_and, ← Bool.decide_or, ← decide_not, Int.reduceLT, Int.reduceLE, Int.reduceToNat, Int.reduceNeg, by32, Int.reduceEq, not_true_eq_false, not_false_eq_true, false_implies]
    have hp := pow10k i (by omega)
    refine ⟨fun h1 => ?_, fun h1 => ?_⟩
    · obtain ⟨x, hxi⟩ : ∃ x, s[i]? = some x := get_of_lt (by omega)
      have hdx : dig x = true := List.all_eq_true.1 kd x (List.mem_of_getElem? hxi)
      have hdx' := hdx
      simp only [dig, decide_eq_true_eq] at hdx'
      have hval : (10 * ((valS (s.take i) : Nat) : Int) + ((x.toNat : Int) - 48)) = ((valS (s.take (i + 1)) : Nat) : Int) := by
        rw [take_snoc hxi, valS_snoc]; omega
      have i0 := Int.natCast_nonneg i
      refine ⟨i0, _, ⟨x, hxi, rfl⟩, _, c_class x.toNat, fun _ => ⟨fun g => absurd ((cls_dig x).2 hdx) g, fun g => ?_⟩⟩
      refine ⟨i64_ok (by omega) (by omega), i0, _, ⟨x, hxi, rfl⟩, ⟨by omega, by omega⟩, i64_ok (by omega) (by omega), i64_ok (by omega) (by omega), ?_⟩
      rw [hval]
      exact back _ (i + 1) (by refine ⟨?_, ?_, rfl, rfl⟩ <;> repeat' (first | exact trivial | exact Or.inl rfl | exact Or.inr rfl | (refine And.intro (Or.inl rfl) ?_) | (refine And.intro (Or.inr (Or.inl rfl)) ?_) | (refine And.intro (Or.inr (Or.inr (Or.inr ⟨rfl, rfl⟩))) ?_) | (refine And.intro (Or.inr (Or.inr (Or.inl ⟨rfl, rfl, trivial⟩))) ?_) | exact ⟨(by show (_ : Nat) < 1000000000; omega), rfl, rfl⟩ | rfl | (refine And.intro (Or.inl ?_) ?_) | (refine And.intro ?_ ?_))) ⟨by omega, by rw [take_snoc hxi, valS_snoc, Nat.pow_succ]; omega⟩ (by omega)
    · have e : s.take i = s := List.take_of_length_le (by omega)
      rw [e]
      exact ⟨fun g => absurd g (by omega), fun _ => rfl⟩
theorem x_number (s : Str) (most : Int) (h : numM most s = none) : XC env 59 [⟨.str, s⟩, ⟨.int .i64, most⟩] := by
  refine XC.of_PW (m := 2000) env_ok fn_59 rfl rfl rfl rfl (by kernel_rfl) ?_; intro hx; simp only [Tryd.f59]; simp only [go_sem, Nat.reduceBEq, ↓reduceIte, ↓reduceDIte, Nat.reduceAdd, Nat.reduceSub, Nat.reduceMul, Nat.reduceLeDiff, ← Bool.decide_and, ← Bool.decide_or, ← decide_not, Int.reduceLT, Int.reduceLE, Int.reduceToNat, Int.reduceNeg, by32, Int.reduceEq, not_true_eq_false, not_false_eq_true, false_implies]
  refine ⟨fun g1 => ⟨fun g2 => ?_, fun _ => trivial⟩, fun _ => trivial⟩
  obtain ⟨x0, hx0⟩ : ∃ x, s[0]? = some x := get_of_lt (by omega)
  have fin : ¬ (s[0]? = some 48 ∧ 1 < s.length) → s.all dig = true → most < (valS s : Int) := fun h1 h2 => by
    unfold numM at h
    split at h
    · cases h
    · rename_i hh
      refine Int.not_le.1 fun h3 => hh ⟨?_, h3⟩
      simp only [numOK, Bool.and_eq_true, decide_eq_true_eq]
      exact ⟨⟨by omega, by omega, h1⟩, h2⟩
  have fin2 : ¬ ((x0.toNat : Int) = 48 ∧ 1 < s.length) → ¬ (s[0]? = some 48 ∧ 1 < s.length) := fun h1 ⟨h2, h3⟩ => h1 ⟨by rw [hx0] at h2; injection h2 with h2; rw [h2]; rfl, h3⟩
  refine ⟨_, ⟨x0, hx0, rfl⟩, fun g3 => ⟨fun _ => trivial, fun g4 => ?_⟩, fun g3 => ?_⟩
  all_goals
    have hst := fin (fin2 (by omega))
    refine Walks.loopA (X := Nat) (fun (i : Nat) => [(29, .iv (.int .i64) (i : Int)), (6, .any), (5, .iv (.int .i64) ((valS (s.take i) : Nat) : Int))]) (fun (i : Nat) => []) (fun (i : Nat) => i ≤ s.length ∧ valS (s.take i) < 10 ^ i ∧ (s.take i).all dig = true) (fun (i : Nat) => s.length - i) 0 ?_; intro b1 b2 hb1 hb2; simp (config := {maxSteps := 4000000}) only [go_sem, Nat.reduceBEq, ↓reduceIte, ↓reduceDIte, Nat.reduceAdd, Nat.reduceSub, Nat.reduceMul, Nat.reduceLeDiff, ← Bool.decide_and, ← Bool.decide_or, ← decide_not, Int.reduceLT, Int.reduceLE, Int.reduceToNat, Int.reduceNeg, by32, Int.reduceEq, not_true_eq_false, not_false_eq_true, false_implies] at hb1 hb2; subst hb1; subst hb2; refine ⟨(by refine ⟨?_, ?_, rfl, rfl⟩ <;> repeat' (first | exact trivial | exact Or.inl rfl | exact Or.inr rfl | (refine And.intro (Or.inl rfl) ?_) | (refine And.intro (Or.inr (Or.inl rfl)) ?_) | (refine And.intro (Or.inr (Or.inr (Or.inr ⟨rfl, rfl⟩))) ?_) | (refine And.intro (Or.inr (Or.inr (Or.inl ⟨rfl, rfl, trivial⟩))) ?_) | exact ⟨(by show (_ : Nat) < 1000000000; omega), rfl, rfl⟩ | rfl | (refine And.intro (Or.inl ?_) ?_) | (refine And.intro ?_ ?_))), ?_, ?_⟩
    · exact ⟨Nat.zero_le _, by show (0 : Nat) < 1; decide, rfl⟩
    intro i ⟨hi, hv, hb⟩ back
    refine PW_sound env_ok ⟨_, fn_59, rfl⟩ 2000 _ _ (by kernel_rfl) ?_; simp only [go_sem, Nat.reduceBEq, ↓reduceIte, ↓reduceDIte, Nat.reduceAdd, Nat.reduceSub, Nat.reduceMul, Nat.reduceLeDiff, ← Bool.decide_and, ← Bool.decide_or, ← decide_not, Int.reduceLT, Int.reduceLE, Int.reduceToNat, Int.reduceNeg, by32, Int.reduceEq, not_true_eq_false, not_false_eq_true, false_implies]
    have hp := pow10k i (by omega)
    refine ⟨fun h1 => ?_, fun h1 => ?_⟩
    · obtain ⟨x, hxi⟩ : ∃ x, s[i]? = some x := get_of_lt (by omega)
      have i0 := Int.natCast_nonneg i
      refine ⟨i0, _, ⟨x, hxi, rfl⟩, _, c_class x.toNat, fun _ => ⟨fun g => trivial, fun g => ?_⟩⟩
      have hdx : dig x = true := (cls_dig x).1 g
      have hdx' := hdx
      simp only [dig, decide_eq_true_eq] at hdx'
      have hval : (10 * ((valS (s.take i) : Nat) : Int) + ((x.toNat : Int) - 48)) = ((valS (s.take (i + 1)) : Nat) : Int) := by
        rw [take_snoc hxi, valS_snoc]; omega
      refine ⟨i64_ok (by omega) (by omega), i0, _, ⟨x, hxi, rfl⟩, ⟨by omega, by omega⟩, i64_ok (by omega) (by omega), i64_ok (by omega) (by omega), ?_⟩
      rw [hval]
      exact back _ (i + 1) (by refine ⟨?_, ?_, rfl, rfl⟩ <;> repeat' (first | exact trivial | exact Or.inl rfl | exact Or.inr rfl | (refine And.intro (Or.inl rfl) ?_) | (refine And.intro (Or.inr (Or.inl rfl)) ?_) | (refine And.intro (Or.inr (Or.inr (Or.inr ⟨rfl, rfl⟩))) ?_) | (refine And.intro (Or.inr (Or.inr (Or.inl ⟨rfl, rfl, trivial⟩))) ?_) | exact ⟨(by show (_ : Nat) < 1000000000; omega), rfl, rfl⟩ | rfl | (refine And.intro (Or.inl ?_) ?_) | (refine And.intro ?_ ?_))) ⟨by omega, by rw [take_snoc hxi, valS_snoc, Nat.pow_succ]; omega, by rw [all_step hxi, hb, hdx]; rfl⟩ (by omega)
    · have e : s.take i = s := List.take_of_length_le (by omega)
      rw [e] at hb ⊢
      exact ⟨fun _ => trivial, fun g => absurd (hst hb) (by omega)⟩
end Go.Proofs.YtcmolphllladbaaDoor
--SET+ by32, Int.reduceEq, not_true_eq_false, not_false_eq_true, false_implies, St.ren, rhoQ, mapSl, renBl, Blk.map, PV.renL, PV.ren, keepG, keepX
namespace Go.Proofs.YtcmolphllladbaaDoor
open Go.Lib
set_option maxHeartbeats 4000000
set_option maxRecDepth 100000
theorem inv_catch (p : Addr) (w : World) : (invoke (.fn (.func 56) #[.pointer (some p)]) #[]).run env.P w = .ok (.enter 56 #[.pointer (some p)]) w := by
  show (invoke (.fn (.func 56) #[.pointer (some p)]) #[]).run Tryd.prog w = _
  simp [go_sem]
theorem load_ok (tmps : Array Value) (p : Addr) (w : World) (h : tmps.getD 6 undef = .pointer (some p)) (hc : w.cell? p = some (.bool false)) : (results Tryd.f43 tmps).run env.P w = .ok (.bool false) w := by
  show (results Tryd.f43 tmps).run Tryd.prog w = _
  rw [Array.getD_eq_getD_getElem?] at h
  simp [results, Tryd.results43, go_sem, h, hc]
theorem at_line (b : Bool) (s : Str) (bl : List (Nat × Blk)) (hl : look 6 bl = none) : DeferAt env 43 61 Tryd.f43 (match Tryd.f43.body with | some (.seq _ (.seq _ r)) => r | _ => .skip) [.ref 1000000000 0, .iv .bool b, .iv .str s] bl 56 6
    ⟨(8, .fn 56 [.ref 6 0]) :: (6, .ref 6 0) :: entrySl 0 [.ref 1000000000 0, .iv .bool b, .iv .str s], (6, .box [.iv .bool false]) :: bl⟩ := by
  refine defer_at env_ok (y := 8) (s1 := ⟨(6, .ref 6 0) :: entrySl 0 [.ref 1000000000 0, .iv .bool b, .iv .str s], (6, .box [.iv .bool false]) :: bl⟩) fn_43 rfl rfl rfl rfl rfl rfl rfl rfl rfl rfl rfl ?_ ?_ rfl rfl
  · simp only [go_sem, Nat.reduceBEq, ↓reduceIte, ↓reduceDIte, Nat.reduceAdd, Nat.reduceSub, Nat.reduceMul, Nat.reduceLeDiff, ← Bool.decide_and, ← Bool.decide_or, ← decide_not, Int.reduceLT, Int.reduceLE, Int.reduceToNat, Int.reduceNeg, by32, Int.reduceEq, not_true_eq_false, not_false_eq_true, false_implies, St.ren, rhoQ, mapSl, renBl, Blk.map, PV.renL, PV.ren, keepG, keepX, OutK, hl]
    rfl
  · simp only [go_sem, Nat.reduceBEq, ↓reduceIte, ↓reduceDIte, Nat.reduceAdd, Nat.reduceSub, Nat.reduceMul, Nat.reduceLeDiff, ← Bool.decide_and, ← Bool.decide_or, ← decide_not, Int.reduceLT, Int.reduceLE, Int.reduceToNat, Int.reduceNeg, by32, Int.reduceEq, not_true_eq_false, not_false_eq_true, false_implies, St.ren, rhoQ, mapSl, renBl, Blk.map, PV.renL, PV.ren, keepG, keepX, OutK]
    rfl
theorem one_key {i k : Nat} (h : mem1 i [k] = true) : i = k := by
  simp only [mem1] at h
  cases hb : Nat.beq i k with
  | true => exact Nat.eq_of_beq_eq_true hb
  | false => rw [hb] at h; cases h
abbrev bxT (m a : Int) (p : PV) : Blk := .box [.iv (.int .i64) m, .iv (.int .u8) a, p]
theorem head_parts {l : List Str} {m c : Int} (h : headP l = some (m, c)) : ∃ a b, l = [schemeW, a, b] ∧ numM 9999 a = some m ∧ numM 255 b = some c := by
  unfold headP at h
  split at h
  · rename_i w a b
    split at h
    · rename_i hw
      split at h
      · rename_i m' c' h1 h2
        injection h with h
        injection h with e1 e2
        subst e1; subst e2; subst hw
        exact ⟨a, b, rfl, h1, h2⟩
      · cases h
    · cases h
  · cases h
theorem head_fails {l : List Str} (h : headP l = none) : ¬ ((l.length : Int) = 3 ∧ l[0]? = some schemeW) ∨ ∃ a b, l = [schemeW, a, b] ∧ (numM 9999 a = none ∨ (∃ m, numM 9999 a = some m) ∧ numM 255 b = none) := by
  by_cases hc : (l.length : Int) = 3 ∧ l[0]? = some schemeW
  · right
    match l, hc with
    | [w, a, b], hc =>
      have hw : w = schemeW := by simpa using hc.2
      subst hw
      refine ⟨a, b, rfl, ?_⟩
      unfold headP at h
      dsimp only at h
      rw [if_pos rfl] at h
      cases h1 : numM 9999 a with
      | none => exact .inl rfl
      | some m =>
        cases h2 : numM 255 b with
        | none => exact .inr ⟨⟨m, rfl⟩, rfl⟩
        | some c => rw [h1, h2] at h; cases h
    | [], hc => simp at hc
    | [_], hc => simp at hc
    | [_, _], hc => simp at hc
    | _ :: _ :: _ :: _ :: _, hc => simp at hc; omega
  · exact .inl hc
theorem c_spl (s : Str) (b : UInt8) (hs : s.length ≤ 1000000000) : PC env 57 [⟨.str, s⟩, ⟨.str, [b]⟩] (.sl .str) (spl b s) := by
  have := c_Split s b (by omega)
  rw [split_spl b (s.length + 1) s (by omega)] at this
  exact this
theorem h_head_ok (m0 a0 m1 a1 : Int) (s : Str) (hs : s.length ≤ 1000000000) (h : headP (spl 32 s) = some (m1, a1)) :
    HC env 43 [.ref 1000000000 0, .iv .bool true, .iv .str s] [(1000000000, bxT m0 a0 .nilsl)] (.iv .bool true) [(1000000000, bxT m1 a1 .nilsl)] := by
  refine HC.of_deferR (m := 2000) (Q := 1000000009) (bl1 := [(1000000000, bxT m1 a1 .nilsl), (1000000009, .box [.any])]) env_ok fn_43 (at_line true s _ rfl) rfl (fun i _ hi => by obtain rfl := one_key hi; exact ⟨(by show (1000000000 : Nat) ≠ 1000000009; decide), rfl⟩) ?_ rfl rfl (by kernel_rfl) catch_idle inv_catch ?_
  · simp [leBl, leB, leCells, look]
  intro hx hbl
  simp only [Tryd.f43]
  simp only [go_sem, Nat.reduceBEq, ↓reduceIte, ↓reduceDIte, Nat.reduceAdd, Nat.reduceSub, Nat.reduceMul, Nat.reduceLeDiff, ← Bool.decide_and, ← Bool.decide_or, ← decide_not, Int.reduceLT, Int.reduceLE, Int.reduceToNat, Int.reduceNeg, by32, Int.reduceEq, not_true_eq_false, not_false_eq_true, false_implies, St.ren, rhoQ, mapSl, renBl, Blk.map, PV.renL, PV.ren, keepG, keepX]
  obtain ⟨a, b, hl, h1, h2⟩ := head_parts h
  have hb := num_back h2
  have k := c_spl s 32 hs
  rw [hl] at k
  refine ⟨_, k, fun _ => ⟨_, c_start _ schemeW 3 rfl rfl, a, rfl, _, c_number a 9999 m1 h1, fun _ => ⟨b, rfl, _, c_number b 255 a1 h2, fun _ => ⟨.inl rfl, .inl ?_⟩⟩⟩⟩
  have e : IntKind.u8.wrap a1 = a1 := wrap_in _ ⟨by simp only [min_u8]; omega, by simp only [max_u8]; omega⟩
  rw [e]
theorem h_head_bad (m0 a0 : Int) (s : Str) (hs : s.length ≤ 1000000000) (h : headP (spl 32 s) = none) :
    HC env 43 [.ref 1000000000 0, .iv .bool true, .iv .str s] [(1000000000, bxT m0 a0 .nilsl)] (.iv .bool false) [(1000000000, .box [.any, .any, .any])] := by
  refine HC.of_deferX (m := 2000) (Q := 1000000009) (te := none) (bl1 := [(1000000000, .box [.any, .any, .any]), (1000000009, .box [.iv .bool false])]) env_ok fn_43 (at_line true s _ rfl) rfl (by decide) (fun i _ hi => by obtain rfl := one_key hi; exact ⟨(by show (1000000000 : Nat) ≠ 1000000009; decide), rfl⟩) ?_ rfl rfl (by kernel_rfl) catch_panics inv_catch load_ok ?_
  · simp [leBl, leB, leCells, look]
  intro hx hbl
  simp only [Tryd.f43]
  simp only [go_sem, Nat.reduceBEq, ↓reduceIte, ↓reduceDIte, Nat.reduceAdd, Nat.reduceSub, Nat.reduceMul, Nat.reduceLeDiff, ← Bool.decide_and, ← Bool.decide_or, ← decide_not, Int.reduceLT, Int.reduceLE, Int.reduceToNat, Int.reduceNeg, by32, Int.reduceEq, not_true_eq_false, not_false_eq_true, false_implies, St.ren, rhoQ, mapSl, renBl, Blk.map, PV.renL, PV.ren, keepG, keepX]
  have k := c_spl s 32 hs
  refine ⟨_, k, fun _ => ?_⟩
  rcases head_fails h with h | ⟨a, b, hl, h⟩
  · exact .inr (x_start _ _ _ (by decide) h)
  · rw [hl]
    refine .inl ⟨_, c_start _ schemeW 3 rfl rfl, a, rfl, ?_⟩
    rcases h with h | ⟨⟨m, h⟩, h2⟩
    · exact .inr (x_number _ _ h)
    · refine .inl ⟨_, c_number _ _ _ h, fun _ => ⟨b, rfl, ?_⟩⟩
      exact .inr (x_number _ _ h2)
theorem field_parts {s v : Str} (h : fieldV s = some v) : s ≠ [] ∧ v = undash s := by
  unfold fieldV at h
  split at h
  · cases h
  · rename_i h1
    refine ⟨h1, ?_⟩
    unfold undash
    split at h
    · rename_i h2; injection h with h; rw [if_pos h2, h]
    · rename_i h2; injection h with h; rw [if_neg h2, h]
theorem field_none {s : Str} (h : fieldV s = none) : s = [] := by
  unfold fieldV at h
  split at h
  · assumption
  · split at h <;> cases h
theorem rule_parts {l : List Str} {r : Rl} (h : ruleP l = some r) : ∃ a b i o c, l = [ruleW, a, b, i, o, c] ∧ numM 9999 a = some r.1 ∧ numM 9999 b = some r.2.1 ∧ (i ≠ [] ∧ r.2.2.1 = undash i) ∧ (o ≠ [] ∧ r.2.2.2.1 = undash o) ∧ numM 9999 c = some r.2.2.2.2 := by
  unfold ruleP at h
  split at h
  · rename_i w a b i o c
    split at h
    · rename_i hw
      split at h
      · rename_i x1 x2 x3 x4 x5 h1 h2 h3 h4 h5
        injection h with h
        subst h; subst hw
        exact ⟨a, b, i, o, c, rfl, h1, h2, field_parts h3, field_parts h4, h5⟩
      · cases h
    · cases h
  · cases h
theorem rule_fails {l : List Str} (h : ruleP l = none) : ¬ ((l.length : Int) = 6 ∧ l[0]? = some ruleW) ∨ ∃ a b i o c, l = [ruleW, a, b, i, o, c] ∧
    (numM 9999 a = none ∨ (∃ n, numM 9999 a = some n) ∧ (numM 9999 b = none ∨ (∃ n, numM 9999 b = some n) ∧ (i = [] ∨ i ≠ [] ∧ (o = [] ∨ o ≠ [] ∧ numM 9999 c = none)))) := by
  by_cases hc : (l.length : Int) = 6 ∧ l[0]? = some ruleW
  · right
    match l, hc with
    | [w, a, b, i, o, c], hc =>
      have hw : w = ruleW := by simpa using hc.2
      subst hw
      refine ⟨a, b, i, o, c, rfl, ?_⟩
      unfold ruleP at h
      dsimp only at h
      rw [if_pos rfl] at h
      cases h1 : numM 9999 a with
      | none => exact .inl rfl
      | some n1 =>
        refine .inr ⟨⟨n1, rfl⟩, ?_⟩
        cases h2 : numM 9999 b with
        | none => exact .inl rfl
        | some n2 =>
          refine .inr ⟨⟨n2, rfl⟩, ?_⟩
          cases h3 : fieldV i with
          | none => exact .inl (field_none h3)
          | some v3 =>
            refine .inr ⟨(field_parts h3).1, ?_⟩
            cases h4 : fieldV o with
            | none => exact .inl (field_none h4)
            | some v4 =>
              refine .inr ⟨(field_parts h4).1, ?_⟩
              cases h5 : numM 9999 c with
              | none => rfl
              | some n5 => rw [h1, h2, h3, h4, h5] at h; cases h
    | [], hc => simp at hc
    | [_], hc => simp at hc
    | [_, _], hc => simp at hc
    | [_, _, _], hc => simp at hc
    | [_, _, _, _], hc => simp at hc
    | [_, _, _, _, _], hc => simp at hc
    | _ :: _ :: _ :: _ :: _ :: _ :: _ :: _, hc => simp at hc; omega
  · exact .inl hc
theorem two_key {i k j : Nat} (hi : P0 ≤ i) (hj : j < P0) (h : mem1 i [k, j] = true) : i = k := by
  simp only [mem1] at h
  cases hb : Nat.beq i k with
  | true => exact Nat.eq_of_beq_eq_true hb
  | false =>
    rw [hb] at h
    cases hb2 : Nat.beq i j with
    | true => have := Nat.eq_of_beq_eq_true hb2; omega
    | false => rw [hb2] at h; cases h
theorem h_rule_nil (m a : Int) (r : Rl) (s : Str) (hs : s.length ≤ 1000000000) (h : ruleP (spl 32 s) = some r) :
    HC env 43 [.ref 1000000000 0, .iv .bool false, .iv .str s] [(1000000000, bxT m a .nilsl)] (.iv .bool true) [(1000000000, bxT m a (.lfull 58)), (58, .arr RuleT [r])] := by
  refine HC.of_deferR (m := 2000) (Q := 1000000009) (bl1 := [(1000000000, bxT m a (.lfull 58)), (58, .arr RuleT [r]), (1000000009, .box [.any])]) env_ok fn_43 (at_line false s _ rfl) rfl (fun i hi0 hi => by obtain rfl := two_key hi0 (by show (58 : Nat) < 1000000000; decide) hi; exact ⟨(by show (1000000000 : Nat) ≠ 1000000009; decide), rfl⟩) ?_ rfl rfl (by kernel_rfl) catch_idle inv_catch ?_
  · exact ⟨⟨⟨.inl rfl, .inl rfl, .inl rfl, trivial⟩, .inl rfl⟩, rfl, trivial⟩
  intro hx hbl
  simp only [Tryd.f43]
  simp only [go_sem, Nat.reduceBEq, ↓reduceIte, ↓reduceDIte, Nat.reduceAdd, Nat.reduceSub, Nat.reduceMul, Nat.reduceLeDiff, ← Bool.decide_and, ← Bool.decide_or, ← decide_not, Int.reduceLT, Int.reduceLE, Int.reduceToNat, Int.reduceNeg, by32, Int.reduceEq, not_true_eq_false, not_false_eq_true, false_implies, St.ren, rhoQ, mapSl, renBl, Blk.map, PV.renL, PV.ren, keepG, keepX]
  obtain ⟨fa, fb, fi, fo, fc, hl, h1, h2, ⟨hi1, hi2⟩, ⟨ho1, ho2⟩, h5⟩ := rule_parts h
  obtain ⟨rf, rt, ri, ro, rc⟩ := r
  dsimp only at h1 h2 hi2 ho2 h5
  subst hi2; subst ho2
  have k := c_spl s 32 hs
  rw [hl] at k
  exact ⟨_, k, fun _ => ⟨_, c_start _ ruleW 6 rfl rfl, fa, rfl, fb, rfl, fi, rfl, fo, rfl, fc, rfl, _, c_number fa 9999 rf h1, fun _ => ⟨_, c_number fb 9999 rt h2, fun _ => ⟨_, c_text fi hi1, fun _ => ⟨_, c_text fo ho1, fun _ => ⟨_, c_number fc 9999 rc h5, fun _ => rfl⟩⟩⟩⟩⟩⟩
theorem h_rule_more (m a : Int) (r : Rl) (rs : List Rl) (s : Str) (hs : s.length ≤ 1000000000) (hrs : rs.length ≤ 1000000000) (h : ruleP (spl 32 s) = some r) :
    HC env 43 [.ref 1000000000 0, .iv .bool false, .iv .str s] [(1000000000, bxT m a (.lfull 1000000001)), (1000000001, .arr RuleT rs)] (.iv .bool true) [(1000000000, bxT m a (.lfull 58)), (58, .arr RuleT (rs ++ [r]))] := by
  refine HC.of_deferR (m := 2000) (Q := 1000000009) (bl1 := [(1000000000, bxT m a (.lfull 58)), (58, .arr RuleT (rs ++ [r])), (1000000009, .box [.any])]) env_ok fn_43 (at_line false s _ rfl) rfl (fun i hi0 hi => by obtain rfl := two_key hi0 (by show (58 : Nat) < 1000000000; decide) hi; exact ⟨(by show (1000000000 : Nat) ≠ 1000000009; decide), rfl⟩) ?_ rfl rfl (by kernel_rfl) catch_idle inv_catch ?_
  · exact ⟨⟨⟨.inl rfl, .inl rfl, .inl rfl, trivial⟩, .inl rfl⟩, rfl, trivial⟩
  intro hx hbl
  simp only [Tryd.f43]
  simp only [go_sem, Nat.reduceBEq, ↓reduceIte, ↓reduceDIte, Nat.reduceAdd, Nat.reduceSub, Nat.reduceMul, Nat.reduceLeDiff, ← Bool.decide_and, ← Bool.decide_or, ← decide_not, Int.reduceLT, Int.reduceLE, Int.reduceToNat, Int.reduceNeg, by32, Int.reduceEq, not_true_eq_false, not_false_eq_true, false_implies, St.ren, rhoQ, mapSl, renBl, Blk.map, PV.renL, PV.ren, keepG, keepX]
  obtain ⟨fa, fb, fi, fo, fc, hl, h1, h2, ⟨hi1, hi2⟩, ⟨ho1, ho2⟩, h5⟩ := rule_parts h
  obtain ⟨rf, rt, ri, ro, rc⟩ := r
  dsimp only at h1 h2 hi2 ho2 h5
  subst hi2; subst ho2
  have k := c_spl s 32 hs
  rw [hl] at k
  exact ⟨_, k, fun _ => ⟨_, c_start _ ruleW 6 rfl rfl, fa, rfl, fb, rfl, fi, rfl, fo, rfl, fc, rfl, _, c_number fa 9999 rf h1, fun _ => ⟨_, c_number fb 9999 rt h2, fun _ => ⟨_, c_text fi hi1, fun _ => ⟨_, c_text fo ho1, fun _ => ⟨_, c_number fc 9999 rc h5, fun _ => ⟨by omega, rfl⟩⟩⟩⟩⟩⟩⟩
theorem h_rule_bad (m a : Int) (p : PV) (bl : List (Nat × Blk)) (s : Str) (hs : s.length ≤ 1000000000) (hp : (p = .nilsl ∧ bl = []) ∨ ∃ rs, p = .lfull 1000000001 ∧ bl = [(1000000001, .arr RuleT rs)]) (h : ruleP (spl 32 s) = none) :
    HC env 43 [.ref 1000000000 0, .iv .bool false, .iv .str s] ((1000000000, bxT m a p) :: bl) (.iv .bool false) [(1000000000, .box [.any, .any, .any])] := by
  rcases hp with ⟨rfl, rfl⟩ | ⟨rs, rfl, rfl⟩
  all_goals
    refine HC.of_deferX (m := 2000) (Q := 1000000009) (te := none) (bl1 := [(1000000000, .box [.any, .any, .any]), (1000000009, .box [.iv .bool false])]) env_ok fn_43 (at_line false s _ rfl) rfl (by decide) (fun i _ hi => by obtain rfl := one_key hi; exact ⟨(by show (1000000000 : Nat) ≠ 1000000009; decide), rfl⟩) ?_ rfl rfl (by kernel_rfl) catch_panics inv_catch load_ok ?_
    · simp [leBl, leB, leCells, look]
    intro hx hbl
    simp only [Tryd.f43]
    simp only [go_sem, Nat.reduceBEq, ↓reduceIte, ↓reduceDIte, Nat.reduceAdd, Nat.reduceSub, Nat.reduceMul, Nat.reduceLeDiff, ← Bool.decide_and, ← Bool.decide_or, ← decide_not, Int.reduceLT, Int.reduceLE, Int.reduceToNat, Int.reduceNeg, by32, Int.reduceEq, not_true_eq_false, not_false_eq_true, false_implies, St.ren, rhoQ, mapSl, renBl, Blk.map, PV.renL, PV.ren, keepG, keepX]
    have k := c_spl s 32 hs
    refine ⟨_, k, fun _ => ?_⟩
    rcases rule_fails h with h | ⟨fa, fb, fi, fo, fc, hl, h⟩
    · exact .inr (x_start _ _ _ (by decide) h)
    · rw [hl]
      refine .inl ⟨_, c_start _ ruleW 6 rfl rfl, fa, rfl, fb, rfl, fi, rfl, fo, rfl, fc, rfl, ?_⟩
      rcases h with h | ⟨⟨n1, h1⟩, h⟩
      · exact .inr (x_number _ _ h)
      refine .inl ⟨_, c_number _ _ _ h1, fun _ => ?_⟩
      rcases h with h | ⟨⟨n2, h2⟩, h⟩
      · exact .inr (x_number _ _ h)
      refine .inl ⟨_, c_number _ _ _ h2, fun _ => ?_⟩
      rcases h with h | ⟨h3, h⟩
      · exact .inr (x_text _ h)
      refine .inl ⟨_, c_text _ h3, fun _ => ?_⟩
      rcases h with h | ⟨h4, h⟩
      · exact .inr (x_text _ h)
      exact .inl ⟨_, c_text _ h4, fun _ => .inr (x_number _ _ h)⟩
end Go.Proofs.YtcmolphllladbaaDoor
--SET+ by32, by10, St.ren, permF, Int.reduceEq, not_true_eq_false, not_false_eq_true, false_implies
namespace Go.Proofs.YtcmolphllladbaaDoor
open Go.Lib
set_option maxHeartbeats 4000000
set_option maxRecDepth 100000
theorem by10 : bytesOf ⟨#[10]⟩ = ([10] : Str) := rfl
def rP : List Rl → PV
  | [] => .nilsl
  | _ :: _ => .lfull 1000
def rB : List Rl → List (Nat × Blk)
  | [] => []
  | x :: r => [(1000, .arr RuleT (x :: r))]
theorem c_Parse (s : Str) (hs : s.length ≤ 1000000000) : PC env 17 [⟨.str, s⟩] (.tup SchemeT (.tup (.int .i64) (.int .i64))) (parseE s) := by
  refine PC.of_PW (m := 2000) env_ok fn_17 rfl rfl rfl rfl (by kernel_rfl) ?_; intro hx; simp only [Tryd.f17]; simp only [go_sem, Nat.reduceBEq, ↓reduceIte, ↓reduceDIte, Nat.reduceAdd, Nat.reduceSub, Nat.reduceMul, Nat.reduceLeDiff, ← Bool.decide_and, ← Bool.decide_or, ← decide_not, Int.reduceLT, Int.reduceLE, Int.reduceToNat, Int.reduceNeg, by32, by10, St.ren, permF, Int.reduceEq, not_true_eq_false, not_false_eq_true, false_implies]
  obtain ⟨T, hT⟩ : ∃ T, T = parseE s := ⟨_, rfl⟩
  rw [← hT]
  refine Walks.loopA (X := Bool × Int × Int × List Rl × Str) (fun (z : Bool × Int × Int × List Rl × Str) => [(6, .iv (.int .i64) (match z.1 with | true => -1 | false => (z.2.2.2.1.length : Int))), (0, .iv .str z.2.2.2.2), (7, .any), (8, .any), (9, .any)]) (fun (z : Bool × Int × Int × List Rl × Str) => (5, .box [.iv (.int .i64) z.2.1, .iv (.int .u8) z.2.2.1, rP z.2.2.2.1]) :: rB z.2.2.2.1) (fun (z : Bool × Int × Int × List Rl × Str) => (z.1 = true → z.2.1 = 0 ∧ z.2.2.1 = 0 ∧ z.2.2.2.1 = [] ∧ linesP (spl 10 z.2.2.2.2) = T) ∧ (z.1 = false → bodyP (z.2.1, z.2.2.1) (spl 10 z.2.2.2.2) (z.2.2.2.1.length : Int) z.2.2.2.1 = T) ∧ z.2.2.2.1.length + z.2.2.2.2.length ≤ s.length) (fun (z : Bool × Int × Int × List Rl × Str) => z.2.2.2.2.length) (true, 0, 0, [], s) ?_; intro b1 b2 hb1 hb2; simp (config := {maxSteps := 4000000}) only [go_sem, Nat.reduceBEq, ↓reduceIte, ↓reduceDIte, Nat.reduceAdd, Nat.reduceSub, Nat.reduceMul, Nat.reduceLeDiff, ← Bool.decide_and, ← Bool.decide_or, ← decide_not, Int.reduceLT, Int.reduceLE, Int.reduceToNat, Int.reduceNeg, by32, by10, St.ren, permF, Int.reduceEq, not_true_eq_false, not_false_eq_true, false_implies] at hb1 hb2; subst hb1; subst hb2; refine ⟨(by refine ⟨?_, ?_, rfl, rfl⟩ <;> repeat' (first | exact trivial | exact Or.inl rfl | exact Or.inr rfl | (refine And.intro (Or.inl rfl) ?_) | (refine And.intro (Or.inr (Or.inl rfl)) ?_) | (refine And.intro (Or.inr (Or.inr (Or.inr ⟨rfl, rfl⟩))) ?_) | (refine And.intro (Or.inr (Or.inr (Or.inl ⟨rfl, rfl, trivial⟩))) ?_) | exact ⟨(by show (_ : Nat) < 1000000000; omega), rfl, rfl⟩ | rfl | (refine And.intro (Or.inl ?_) ?_) | (refine And.intro ?_ ?_))), ?_, ?_⟩
  · exact ⟨fun _ => ⟨rfl, rfl, rfl, hT.symm⟩, fun h => by simp at h, by simp⟩
  clear hT
  intro ⟨b, m, a, acc, u⟩ ⟨hA, hB, hlen⟩ back
  dsimp only at hA hB hlen
  have hcut : (10 : UInt8) ∉ u ∧ Lib.cut u [10] = (u, [], false) ∧ spl 10 u = [u] ∨ ∃ x r, u = x ++ 10 :: r ∧ Lib.cut u [10] = (x, r, true) ∧ ∃ y l, spl 10 r = y :: l ∧ spl 10 u = x :: y :: l := by
    rcases first_c 10 u with h | ⟨x, r, rfl, h⟩
    · exact .inl ⟨h, cut_no h, spl_no 10 h⟩
    · refine .inr ⟨x, r, rfl, cut_yes h, ?_⟩
      cases hr : spl 10 r with
      | nil => exact absurd hr (spl_ne 10 r)
      | cons y l => exact ⟨y, l, rfl, by rw [spl_cons 10 r h, hr]⟩
  have kc := c_Cut u [10] (by omega)
  cases b with
  | true =>
    obtain ⟨rfl, rfl, rfl, hT⟩ := hA rfl
    dsimp only [rP, rB]
    refine PW_sound env_ok ⟨_, fn_17, rfl⟩ 2000 _ _ (by kernel_rfl) ?_; simp only [go_sem, Nat.reduceBEq, ↓reduceIte, ↓reduceDIte, Nat.reduceAdd, Nat.reduceSub, Nat.reduceMul, Nat.reduceLeDiff, ← Bool.decide_and, ← Bool.decide_or, ← decide_not, Int.reduceLT, Int.reduceLE, Int.reduceToNat, Int.reduceNeg, by32, by10, St.ren, permF, Int.reduceEq, not_true_eq_false, not_false_eq_true, false_implies]
    refine ⟨_, kc, fun _ => ?_⟩
    rcases hcut with ⟨hno, hc, hsp⟩ | ⟨x, r, rfl, hc, y, l, hsr, hsp⟩
    · rw [hc]
      rw [hsp] at hT
      refine PK_cast (b' := true) rfl ?_
      simp only [go_sem, Nat.reduceBEq, ↓reduceIte, ↓reduceDIte, Nat.reduceAdd, Nat.reduceSub, Nat.reduceMul, Nat.reduceLeDiff, ← Bool.decide_and, ← Bool.decide_or, ← decide_not, Int.reduceLT, Int.reduceLE, Int.reduceToNat, Int.reduceNeg, by32, by10, St.ren, permF, Int.reduceEq, not_true_eq_false, not_false_eq_true, false_implies]
      exact hT
    · rw [hc]
      rw [hsp] at hT
      have hxl : x.length ≤ 1000000000 := by simp at hlen; omega
      refine PK_cast (b' := false) rfl ?_
      simp only [go_sem, Nat.reduceBEq, ↓reduceIte, ↓reduceDIte, Nat.reduceAdd, Nat.reduceSub, Nat.reduceMul, Nat.reduceLeDiff, ← Bool.decide_and, ← Bool.decide_or, ← decide_not, Int.reduceLT, Int.reduceLE, Int.reduceToNat, Int.reduceNeg, by32, by10, St.ren, permF, Int.reduceEq, not_true_eq_false, not_false_eq_true, false_implies]
      simp only [linesP] at hT
      cases hh : headP (spl 32 x) with
      | none =>
        rw [hh] at hT
        refine ⟨_, _, h_head_bad 0 0 x hxl hh, rfl, ?_⟩
        simp only [go_sem, Nat.reduceBEq, ↓reduceIte, ↓reduceDIte, Nat.reduceAdd, Nat.reduceSub, Nat.reduceMul, Nat.reduceLeDiff, ← Bool.decide_and, ← Bool.decide_or, ← decide_not, Int.reduceLT, Int.reduceLE, Int.reduceToNat, Int.reduceNeg, by32, by10, St.ren, permF, Int.reduceEq, not_true_eq_false, not_false_eq_true, false_implies]
        exact fun _ => hT
      | some hd =>
        obtain ⟨m1, a1⟩ := hd
        rw [hh] at hT
        refine ⟨_, _, h_head_ok 0 0 m1 a1 x hxl hh, rfl, ?_⟩
        simp only [go_sem, Nat.reduceBEq, ↓reduceIte, ↓reduceDIte, Nat.reduceAdd, Nat.reduceSub, Nat.reduceMul, Nat.reduceLeDiff, ← Bool.decide_and, ← Bool.decide_or, ← decide_not, Int.reduceLT, Int.reduceLE, Int.reduceToNat, Int.reduceNeg, by32, by10, St.ren, permF, Int.reduceEq, not_true_eq_false, not_false_eq_true, false_implies]
        intro _
        refine ⟨i64_ok (by omega) (by omega), back _ (false, m1, a1, [], r) (by refine ⟨?_, ?_, rfl, rfl⟩ <;> repeat' (first | exact trivial | exact Or.inl rfl | exact Or.inr rfl | (refine And.intro (Or.inl rfl) ?_) | (refine And.intro (Or.inr (Or.inl rfl)) ?_) | (refine And.intro (Or.inr (Or.inr (Or.inr ⟨rfl, rfl⟩))) ?_) | (refine And.intro (Or.inr (Or.inr (Or.inl ⟨rfl, rfl, trivial⟩))) ?_) | exact ⟨(by show (_ : Nat) < 1000000000; omega), rfl, rfl⟩ | rfl | (refine And.intro (Or.inl ?_) ?_) | (refine And.intro ?_ ?_))) ⟨fun h => by simp at h, fun _ => ?_, by simp at hlen ⊢; omega⟩ (by simp; omega)⟩
        dsimp only
        rw [hsr]
        exact hT
  | false =>
    have hT := hB rfl
    cases acc with
    | nil =>
      dsimp only [rP, rB]
      refine PW_sound env_ok ⟨_, fn_17, rfl⟩ 2000 _ _ (by kernel_rfl) ?_; simp only [go_sem, Nat.reduceBEq, ↓reduceIte, ↓reduceDIte, Nat.reduceAdd, Nat.reduceSub, Nat.reduceMul, Nat.reduceLeDiff, ← Bool.decide_and, ← Bool.decide_or, ← decide_not, Int.reduceLT, Int.reduceLE, Int.reduceToNat, Int.reduceNeg, by32, by10, St.ren, permF, Int.reduceEq, not_true_eq_false, not_false_eq_true, false_implies]
      refine ⟨fun g1 => ⟨_, kc, fun _ => ?_⟩, fun g1 => ?_⟩
      · rcases hcut with ⟨hno, hc, hsp⟩ | ⟨x, r, rfl, hc, y, l, hsr, hsp⟩
        · rw [hc]
          rw [hsp] at hT
          refine PK_cast (b' := true) rfl ?_
          simp only [go_sem, Nat.reduceBEq, ↓reduceIte, ↓reduceDIte, Nat.reduceAdd, Nat.reduceSub, Nat.reduceMul, Nat.reduceLeDiff, ← Bool.decide_and, ← Bool.decide_or, ← decide_not, Int.reduceLT, Int.reduceLE, Int.reduceToNat, Int.reduceNeg, by32, by10, St.ren, permF, Int.reduceEq, not_true_eq_false, not_false_eq_true, false_implies]
          rw [bodyP, if_neg (by exact g1)] at hT
          exact hT
        · rw [hc]
          rw [hsp] at hT
          have hxl : x.length ≤ 1000000000 := by simp at hlen; omega
          refine PK_cast (b' := false) rfl ?_
          simp only [go_sem, Nat.reduceBEq, ↓reduceIte, ↓reduceDIte, Nat.reduceAdd, Nat.reduceSub, Nat.reduceMul, Nat.reduceLeDiff, ← Bool.decide_and, ← Bool.decide_or, ← decide_not, Int.reduceLT, Int.reduceLE, Int.reduceToNat, Int.reduceNeg, by32, by10, St.ren, permF, Int.reduceEq, not_true_eq_false, not_false_eq_true, false_implies]
          simp only [bodyP] at hT
          cases hh : ruleP (spl 32 x) with
          | none =>
            rw [hh] at hT
            refine ⟨_, _, h_rule_bad m a _ _ x hxl (.inl ⟨rfl, rfl⟩) hh, rfl, ?_⟩
            simp only [go_sem, Nat.reduceBEq, ↓reduceIte, ↓reduceDIte, Nat.reduceAdd, Nat.reduceSub, Nat.reduceMul, Nat.reduceLeDiff, ← Bool.decide_and, ← Bool.decide_or, ← decide_not, Int.reduceLT, Int.reduceLE, Int.reduceToNat, Int.reduceNeg, by32, by10, St.ren, permF, Int.reduceEq, not_true_eq_false, not_false_eq_true, false_implies]
            exact fun _ => hT
          | some q =>
            rw [hh] at hT
            refine ⟨_, _, h_rule_nil m a q x hxl hh, rfl, ?_⟩
            simp only [go_sem, Nat.reduceBEq, ↓reduceIte, ↓reduceDIte, Nat.reduceAdd, Nat.reduceSub, Nat.reduceMul, Nat.reduceLeDiff, ← Bool.decide_and, ← Bool.decide_or, ← decide_not, Int.reduceLT, Int.reduceLE, Int.reduceToNat, Int.reduceNeg, by32, by10, St.ren, permF, Int.reduceEq, not_true_eq_false, not_false_eq_true, false_implies]
            intro _
            refine ⟨i64_ok (by omega) (by omega), ?_⟩
            refine Walks.ren [(3300058, 1000), (1000, 3300058)] rfl ?_
            simp only [go_sem, Nat.reduceBEq, ↓reduceIte, ↓reduceDIte, Nat.reduceAdd, Nat.reduceSub, Nat.reduceMul, Nat.reduceLeDiff, ← Bool.decide_and, ← Bool.decide_or, ← decide_not, Int.reduceLT, Int.reduceLE, Int.reduceToNat, Int.reduceNeg, by32, by10, St.ren, permF, Int.reduceEq, not_true_eq_false, not_false_eq_true, false_implies]
            refine back _ (false, m, a, [q], r) (by refine ⟨?_, ?_, rfl, rfl⟩ <;> repeat' (first | exact trivial | exact Or.inl rfl | exact Or.inr rfl | (refine And.intro (Or.inl rfl) ?_) | (refine And.intro (Or.inr (Or.inl rfl)) ?_) | (refine And.intro (Or.inr (Or.inr (Or.inr ⟨rfl, rfl⟩))) ?_) | (refine And.intro (Or.inr (Or.inr (Or.inl ⟨rfl, rfl, trivial⟩))) ?_) | exact ⟨(by show (_ : Nat) < 1000000000; omega), rfl, rfl⟩ | rfl | (refine And.intro (Or.inl ?_) ?_) | (refine And.intro ?_ ?_))) ⟨fun h => by simp at h, fun _ => ?_, by simp at hlen ⊢; omega⟩ (by simp; omega)
            dsimp only
            rw [hsr]
            exact hT
      · have hsp : spl 10 u = [[]] := by rw [show u = [] from g1]; rfl
        rw [hsp, bodyP, if_pos rfl] at hT
        refine ⟨_, c_Check (m, a, []), fun _ => ⟨fun g => ?_, fun g => ?_⟩⟩
        · rw [← hT]; unfold finP; rw [if_neg g]
        · rw [← hT]; unfold finP; rw [if_pos g]
    | cons q acc =>
      dsimp only [rP, rB]
      refine PW_sound env_ok ⟨_, fn_17, rfl⟩ 2000 _ _ (by kernel_rfl) ?_; simp only [go_sem, Nat.reduceBEq, ↓reduceIte, ↓reduceDIte, Nat.reduceAdd, Nat.reduceSub, Nat.reduceMul, Nat.reduceLeDiff, ← Bool.decide_and, ← Bool.decide_or, ← decide_not, Int.reduceLT, Int.reduceLE, Int.reduceToNat, Int.reduceNeg, by32, by10, St.ren, permF, Int.reduceEq, not_true_eq_false, not_false_eq_true, false_implies]
      refine ⟨fun g0 => ⟨fun g1 => ⟨_, kc, fun _ => ?_⟩, fun g1 => ?_⟩, fun g0 => absurd g0 (by omega)⟩
      · rcases hcut with ⟨hno, hc, hsp⟩ | ⟨x, r, rfl, hc, y, l, hsr, hsp⟩
        · rw [hc]
          rw [hsp] at hT
          refine PK_cast (b' := true) rfl ?_
          simp only [go_sem, Nat.reduceBEq, ↓reduceIte, ↓reduceDIte, Nat.reduceAdd, Nat.reduceSub, Nat.reduceMul, Nat.reduceLeDiff, ← Bool.decide_and, ← Bool.decide_or, ← decide_not, Int.reduceLT, Int.reduceLE, Int.reduceToNat, Int.reduceNeg, by32, by10, St.ren, permF, Int.reduceEq, not_true_eq_false, not_false_eq_true, false_implies]
          rw [bodyP, if_neg (by exact g1)] at hT
          exact hT
        · rw [hc]
          rw [hsp] at hT
          have hxl : x.length ≤ 1000000000 := by simp at hlen; omega
          refine PK_cast (b' := false) rfl ?_
          simp only [go_sem, Nat.reduceBEq, ↓reduceIte, ↓reduceDIte, Nat.reduceAdd, Nat.reduceSub, Nat.reduceMul, Nat.reduceLeDiff, ← Bool.decide_and, ← Bool.decide_or, ← decide_not, Int.reduceLT, Int.reduceLE, Int.reduceToNat, Int.reduceNeg, by32, by10, St.ren, permF, Int.reduceEq, not_true_eq_false, not_false_eq_true, false_implies]
          simp only [bodyP] at hT
          have hd : decide (((acc.length + 1 : Nat) : Int) < 0) = false := decide_eq_false (by omega)
          rw [hd]
          cases hh : ruleP (spl 32 x) with
          | none =>
            rw [hh] at hT
            refine ⟨_, _, h_rule_bad m a _ _ x hxl (.inr ⟨q :: acc, rfl, rfl⟩) hh, rfl, ?_⟩
            simp only [go_sem, Nat.reduceBEq, ↓reduceIte, ↓reduceDIte, Nat.reduceAdd, Nat.reduceSub, Nat.reduceMul, Nat.reduceLeDiff, ← Bool.decide_and, ← Bool.decide_or, ← decide_not, Int.reduceLT, Int.reduceLE, Int.reduceToNat, Int.reduceNeg, by32, by10, St.ren, permF, Int.reduceEq, not_true_eq_false, not_false_eq_true, false_implies]
            exact fun _ => hT
          | some q2 =>
            rw [hh] at hT
            refine ⟨_, _, h_rule_more m a q2 (q :: acc) x hxl (by simp at hlen ⊢; omega) hh, rfl, ?_⟩
            simp only [go_sem, Nat.reduceBEq, ↓reduceIte, ↓reduceDIte, Nat.reduceAdd, Nat.reduceSub, Nat.reduceMul, Nat.reduceLeDiff, ← Bool.decide_and, ← Bool.decide_or, ← decide_not, Int.reduceLT, Int.reduceLE, Int.reduceToNat, Int.reduceNeg, by32, by10, St.ren, permF, Int.reduceEq, not_true_eq_false, not_false_eq_true, false_implies]
            intro _
            refine ⟨i64_ok (by omega) (by simp at hlen; omega), ?_⟩
            refine Walks.ren [(3300058, 1000), (1000, 3300058)] rfl ?_
            simp only [go_sem, Nat.reduceBEq, ↓reduceIte, ↓reduceDIte, Nat.reduceAdd, Nat.reduceSub, Nat.reduceMul, Nat.reduceLeDiff, ← Bool.decide_and, ← Bool.decide_or, ← decide_not, Int.reduceLT, Int.reduceLE, Int.reduceToNat, Int.reduceNeg, by32, by10, St.ren, permF, Int.reduceEq, not_true_eq_false, not_false_eq_true, false_implies]
            have e : ((acc.length + 1 : Nat) : Int) + 1 = ((q :: (acc ++ [q2])).length : Int) := by simp
            rw [e]
            refine back _ (false, m, a, q :: (acc ++ [q2]), r) (by refine ⟨?_, ?_, rfl, rfl⟩ <;> repeat' (first | exact trivial | exact Or.inl rfl | exact Or.inr rfl | (refine And.intro (Or.inl rfl) ?_) | (refine And.intro (Or.inr (Or.inl rfl)) ?_) | (refine And.intro (Or.inr (Or.inr (Or.inr ⟨rfl, rfl⟩))) ?_) | (refine And.intro (Or.inr (Or.inr (Or.inl ⟨rfl, rfl, trivial⟩))) ?_) | exact ⟨(by show (_ : Nat) < 1000000000; omega), rfl, rfl⟩ | rfl | (refine And.intro (Or.inl ?_) ?_) | (refine And.intro ?_ ?_))) ⟨fun h => by simp at h, fun _ => ?_, by simp at hlen ⊢; omega⟩ (by simp; omega)
            dsimp only
            rw [hsr, ← e]
            exact hT
      · have hsp : spl 10 u = [[]] := by rw [show u = [] from g1]; rfl
        rw [hsp, bodyP, if_pos rfl] at hT
        refine ⟨_, c_Check (m, a, q :: acc), fun _ => ⟨fun g => ?_, fun g => ?_⟩⟩
        · rw [← hT]; unfold finP; rw [if_neg g]
        · rw [← hT]; unfold finP; rw [if_pos g]
end Go.Proofs.YtcmolphllladbaaDoor
--SET+ by32, by10, St.ren, permF, Int.reduceEq, not_true_eq_false, not_false_eq_true, false_implies
namespace Go.Proofs.YtcmolphllladbaaDoor
open Go.Lib
set_option maxHeartbeats 4000000
set_option maxRecDepth 100000
def headV (l : List Str) : (Int × Int) × Bool := match l with
  | [w, a, b] => if w = schemeW then (((numR a 9999).1, IntKind.u8.wrap (numR b 255).1), (numR a 9999).2 && (numR b 255).2) else ((0, 0), false)
  | _ => ((0, 0), false)
theorem headV_short {l : List Str} (h : ¬ (l.length : Int) = 3) : headV l = ((0, 0), false) := by
  match l, h with
  | [], _ => rfl
  | [_], _ => rfl
  | [_, _], _ => rfl
  | [_, _, _], h => exact absurd rfl h
  | _ :: _ :: _ :: _ :: _, _ => rfl
theorem headV_head {l : List Str} : headP l = if (headV l).2 = true then some (headV l).1 else none := by
  match l with
  | [w, a, b] =>
    by_cases hw : w = schemeW
    · have e1 : headP [w, a, b] = (match numM 9999 a, numM 255 b with | some m, some c => some (m, c) | _, _ => none) := if_pos hw
      have e2 : headV [w, a, b] = (((numR a 9999).1, IntKind.u8.wrap (numR b 255).1), (numR a 9999).2 && (numR b 255).2) := if_pos hw
      have hb : (numR b 255).2 = true → IntKind.u8.wrap (numR b 255).1 = (numR b 255).1 := fun h => by
        have : numM 255 b = some (numR b 255).1 := by rw [numR_some, h]; rfl
        have := num_back this
        exact wrap_in _ ⟨by simp only [min_u8]; omega, by simp only [max_u8]; omega⟩
      rw [e1, e2, numR_some (s := a), numR_some (s := b)]
      generalize numR a 9999 = ra
      generalize numR b 255 = rb at hb ⊢
      obtain ⟨x, p⟩ := ra
      obtain ⟨y, q⟩ := rb
      cases p <;> cases q <;> simp_all
    · have e1 : headP [w, a, b] = none := if_neg hw
      have e2 : headV [w, a, b] = ((0, 0), false) := if_neg hw
      rw [e1, e2]; rfl
  | [] => rfl
  | [_] => rfl
  | [_, _] => rfl
  | _ :: _ :: _ :: _ :: _ => rfl
theorem h_head2 (s : Str) (hs : s.length ≤ 1000000000) : HC env 44 [.iv .str s] [] (.tup [.agg [.iv (.int .i64) (headV (spl 32 s)).1.1, .iv (.int .u8) (headV (spl 32 s)).1.2, .nilsl], .iv .bool (headV (spl 32 s)).2]) [] := by
  refine HC.of_PW (m := 2000) env_ok fn_44 rfl rfl rfl rfl (by kernel_rfl) ?_; intro hx hbl; simp only [Tryd.f44]; simp only [go_sem, Nat.reduceBEq, ↓reduceIte, ↓reduceDIte, Nat.reduceAdd, Nat.reduceSub, Nat.reduceMul, Nat.reduceLeDiff, ← Bool.decide_and, ← Bool.decide_or, ← decide_not, Int.reduceLT, Int.reduceLE, Int.reduceToNat, Int.reduceNeg, by32, by10, St.ren, permF, Int.reduceEq, not_true_eq_false, not_false_eq_true, false_implies]
  have k : PC env 21 [⟨.str, s⟩, ⟨.int .u8, 32⟩] (.sl .str) (spl 32 s) := c_SplitR s 32 hs
  generalize spl 32 s = l at k
  refine ⟨_, k, fun _ => ⟨fun g3 => ?_, fun g3 => ?_⟩⟩
  · match l, g3 with
    | [w, a, b], _ =>
      refine ⟨w, rfl, fun hne => ?_, fun he => ?_⟩
      · have e : headV [w, a, b] = ((0, 0), false) := if_neg hne
        rw [e]
      · have e : headV [w, a, b] = (((numR a 9999).1, IntKind.u8.wrap (numR b 255).1), (numR a 9999).2 && (numR b 255).2) := if_pos he
        rw [e]
        refine ⟨a, rfl, _, c_Number a 9999, fun _ => ⟨b, rfl, _, c_Number b 255, fun _ => ?_⟩⟩
        generalize numR a 9999 = ra
        generalize numR b 255 = rb
        obtain ⟨ra1, ra2⟩ := ra
        obtain ⟨rb1, rb2⟩ := rb
        cases ra2
        · simp only [go_sem, Nat.reduceBEq, ↓reduceIte, ↓reduceDIte, Nat.reduceAdd, Nat.reduceSub, Nat.reduceMul, Nat.reduceLeDiff, ← Bool.decide_and, ← Bool.decide_or, ← decide_not, Int.reduceLT, Int.reduceLE, Int.reduceToNat, Int.reduceNeg, by32, by10, St.ren, permF, Int.reduceEq, not_true_eq_false, not_false_eq_true, false_implies]
        · simp only [go_sem, Nat.reduceBEq, ↓reduceIte, ↓reduceDIte, Nat.reduceAdd, Nat.reduceSub, Nat.reduceMul, Nat.reduceLeDiff, ← Bool.decide_and, ← Bool.decide_or, ← decide_not, Int.reduceLT, Int.reduceLE, Int.reduceToNat, Int.reduceNeg, by32, by10, St.ren, permF, Int.reduceEq, not_true_eq_false, not_false_eq_true, false_implies]
  · rw [headV_short g3]
def ruleV (l : List Str) : Rl × Bool := match l with
  | [w, a, b, i, o, c] => if w = ruleW ∧ i ≠ [] ∧ o ≠ [] then (((numR a 9999).1, (numR b 9999).1, undash i, undash o, (numR c 9999).1), (numR a 9999).2 && (numR b 9999).2 && (numR c 9999).2) else ((0, 0, [], [], 0), false)
  | _ => ((0, 0, [], [], 0), false)
theorem ruleV_short {l : List Str} (h : ¬ (l.length : Int) = 6) : ruleV l = ((0, 0, [], [], 0), false) := by
  match l, h with
  | [], _ => rfl
  | [_], _ => rfl
  | [_, _], _ => rfl
  | [_, _, _], _ => rfl
  | [_, _, _, _], _ => rfl
  | [_, _, _, _, _], _ => rfl
  | [_, _, _, _, _, _], h => exact absurd rfl h
  | _ :: _ :: _ :: _ :: _ :: _ :: _ :: _, _ => rfl
theorem field_un {s : Str} : fieldV s = if s = [] then none else some (undash s) := by
  unfold fieldV undash
  split
  · rfl
  · split <;> rfl
theorem ruleV_rule {l : List Str} : ruleP l = if (ruleV l).2 = true then some (ruleV l).1 else none := by
  match l with
  | [w, a, b, i, o, c] =>
    by_cases hw : w = ruleW
    · have e1 : ruleP [w, a, b, i, o, c] = (match numM 9999 a, numM 9999 b, fieldV i, fieldV o, numM 9999 c with | some a, some b, some i, some o, some c => some (a, b, i, o, c) | _, _, _, _, _ => none) := if_pos hw
      by_cases hio : i ≠ [] ∧ o ≠ []
      · have e2 : ruleV [w, a, b, i, o, c] = (((numR a 9999).1, (numR b 9999).1, undash i, undash o, (numR c 9999).1), (numR a 9999).2 && (numR b 9999).2 && (numR c 9999).2) := if_pos ⟨hw, hio⟩
        rw [e1, e2, numR_some (s := a), numR_some (s := b), numR_some (s := c), field_un (s := i), field_un (s := o), if_neg hio.1, if_neg hio.2]
        generalize numR a 9999 = ra
        generalize numR b 9999 = rb
        generalize numR c 9999 = rc
        obtain ⟨x, p⟩ := ra
        obtain ⟨y, q⟩ := rb
        obtain ⟨z, t⟩ := rc
        cases p <;> cases q <;> cases t <;> rfl
      · have e2 : ruleV [w, a, b, i, o, c] = ((0, 0, [], [], 0), false) := if_neg fun h => hio h.2
        rw [e1, e2, field_un (s := i), field_un (s := o)]
        by_cases hi : i = []
        · rw [if_pos hi]
          generalize numM 9999 a = na
          generalize numM 9999 b = nb
          cases na <;> cases nb <;> rfl
        · have ho : o = [] := Decidable.byContradiction fun ho => hio ⟨hi, ho⟩
          rw [if_neg hi, if_pos ho]
          generalize numM 9999 a = na
          generalize numM 9999 b = nb
          cases na <;> cases nb <;> rfl
    · have e1 : ruleP [w, a, b, i, o, c] = none := if_neg hw
      have e2 : ruleV [w, a, b, i, o, c] = ((0, 0, [], [], 0), false) := if_neg fun h => hw h.1
      rw [e1, e2]; rfl
  | [] => rfl
  | [_] => rfl
  | [_, _] => rfl
  | [_, _, _] => rfl
  | [_, _, _, _] => rfl
  | [_, _, _, _, _] => rfl
  | _ :: _ :: _ :: _ :: _ :: _ :: _ :: _ => rfl
theorem c_rule2 (s : Str) (hs : s.length ≤ 1000000000) : PC env 45 [⟨.str, s⟩] (.tup RuleT .bool) (ruleV (spl 32 s)) := by
  refine PC.of_PW (m := 2000) env_ok fn_45 rfl rfl rfl rfl (by kernel_rfl) ?_; intro hx; simp only [Tryd.f45]; simp only [go_sem, Nat.reduceBEq, ↓reduceIte, ↓reduceDIte, Nat.reduceAdd, Nat.reduceSub, Nat.reduceMul, Nat.reduceLeDiff, ← Bool.decide_and, ← Bool.decide_or, ← decide_not, Int.reduceLT, Int.reduceLE, Int.reduceToNat, Int.reduceNeg, by32, by10, St.ren, permF, Int.reduceEq, not_true_eq_false, not_false_eq_true, false_implies]
  have k : PC env 21 [⟨.str, s⟩, ⟨.int .u8, 32⟩] (.sl .str) (spl 32 s) := c_SplitR s 32 hs
  generalize spl 32 s = l at k
  refine ⟨_, k, fun _ => ⟨fun g3 => ?_, fun g3 => ?_⟩⟩
  · match l, g3 with
    | [w, a, b, i, o, c], _ =>
      have eno : ¬ (w = ruleW ∧ i ≠ [] ∧ o ≠ []) → (((0, 0, [], [], 0), false) : Rl × Bool) = ruleV [w, a, b, i, o, c] := fun h => (if_neg h).symm
      refine ⟨w, rfl, fun hw => ⟨i, rfl, fun hi => ⟨o, rfl, fun ho => eno fun h => h.2.2 ho, fun ho => ?_⟩, fun hi => eno fun h => h.2.1 hi⟩, fun hw => eno fun h => hw h.1⟩
      have e2 : ruleV [w, a, b, i, o, c] = (((numR a 9999).1, (numR b 9999).1, undash i, undash o, (numR c 9999).1), (numR a 9999).2 && (numR b 9999).2 && (numR c 9999).2) := if_pos ⟨hw, hi, ho⟩
      rw [e2]
      refine ⟨a, rfl, _, c_Number a 9999, fun _ => ⟨b, rfl, _, c_Number b 9999, fun _ => ⟨c, rfl, _, c_Number c 9999, fun _ => ⟨i, rfl, _, c_text2 i, fun _ => ⟨o, rfl, _, c_text2 o, fun _ => ?_⟩⟩⟩⟩⟩
      generalize numR a 9999 = ra
      generalize numR b 9999 = rb
      generalize numR c 9999 = rc
      obtain ⟨x, p⟩ := ra
      obtain ⟨y, q⟩ := rb
      obtain ⟨z, t⟩ := rc
      dsimp only
      cases p
      · simp only [go_sem, Nat.reduceBEq, ↓reduceIte, ↓reduceDIte, Nat.reduceAdd, Nat.reduceSub, Nat.reduceMul, Nat.reduceLeDiff, ← Bool.decide_and, ← Bool.decide_or, ← decide_not, Int.reduceLT, Int.reduceLE, Int.reduceToNat, Int.reduceNeg, by32, by10, St.ren, permF, Int.reduceEq, not_true_eq_false, not_false_eq_true, false_implies]
      · cases q
        · simp only [go_sem, Nat.reduceBEq, ↓reduceIte, ↓reduceDIte, Nat.reduceAdd, Nat.reduceSub, Nat.reduceMul, Nat.reduceLeDiff, ← Bool.decide_and, ← Bool.decide_or, ← decide_not, Int.reduceLT, Int.reduceLE, Int.reduceToNat, Int.reduceNeg, by32, by10, St.ren, permF, Int.reduceEq, not_true_eq_false, not_false_eq_true, false_implies]
        · simp only [go_sem, Nat.reduceBEq, ↓reduceIte, ↓reduceDIte, Nat.reduceAdd, Nat.reduceSub, Nat.reduceMul, Nat.reduceLeDiff, ← Bool.decide_and, ← Bool.decide_or, ← decide_not, Int.reduceLT, Int.reduceLE, Int.reduceToNat, Int.reduceNeg, by32, by10, St.ren, permF, Int.reduceEq, not_true_eq_false, not_false_eq_true, false_implies]
  · rw [ruleV_short g3]
theorem join_bound (c : UInt8) : ∀ (l : List Str), l.length ≤ (joinC c l).length + 1 ∧ ∀ y, y ∈ l → y.length ≤ (joinC c l).length
  | [] => ⟨Nat.zero_le _, fun _ h => by cases h⟩
  | [x] => ⟨by simp, fun y h => by simp at h; subst h; exact Nat.le_refl _⟩
  | x :: z :: r => by
    have ih := join_bound c (z :: r)
    rw [joinC_cons c x (by simp)]
    simp only [List.length_append, List.length_cons] at ih ⊢
    refine ⟨by omega, fun y h => ?_⟩
    rcases List.mem_cons.1 h with rfl | h
    · omega
    · have := ih.2 y h; omega
def rQ : List Rl → PV
  | [] => .nilsl
  | _ :: _ => .lfull 55
def rC : List Rl → List (Nat × Blk)
  | [] => []
  | x :: r => [(55, .arr RuleT (x :: r))]
theorem c_Parse2 (s : Str) (hs : s.length ≤ 1000000000) : PC env 19 [⟨.str, s⟩] (.tup SchemeT (.tup (.int .i64) (.int .i64))) (parseE s) := by
  refine PC.of_PW (m := 2000) env_ok fn_19 rfl rfl rfl rfl (by kernel_rfl) ?_; intro hx; simp only [Tryd.f19]; simp only [go_sem, Nat.reduceBEq, ↓reduceIte, ↓reduceDIte, Nat.reduceAdd, Nat.reduceSub, Nat.reduceMul, Nat.reduceLeDiff, ← Bool.decide_and, ← Bool.decide_or, ← decide_not, Int.reduceLT, Int.reduceLE, Int.reduceToNat, Int.reduceNeg, by32, by10, St.ren, permF, Int.reduceEq, not_true_eq_false, not_false_eq_true, false_implies]
  have k : PC env 21 [⟨.str, s⟩, ⟨.int .u8, 10⟩] (.sl .str) (spl 10 s) := c_SplitR s 10 hs
  obtain ⟨x, l, hl⟩ : ∃ x l, spl 10 s = x :: l := by
    cases h : spl 10 s with
    | nil => exact absurd h (spl_ne 10 s)
    | cons x l => exact ⟨x, l, rfl⟩
  have hjb := join_bound 10 (spl 10 s)
  rw [joinC_spl] at hjb
  obtain ⟨hlen, hall⟩ := hjb
  have hE : parseE s = linesP (x :: l) := by unfold parseE; rw [hl]
  rw [hE]
  rw [hl] at k hall hlen
  have hxl := hall x (List.mem_cons_self ..)
  simp only [List.length_cons] at hlen
  refine ⟨_, k, fun hk => ⟨i64_ok (by omega) (by omega), x, rfl, _, _, h_head2 x (by omega), rfl, ?_⟩⟩
  simp only [go_sem, Nat.reduceBEq, ↓reduceIte, ↓reduceDIte, Nat.reduceAdd, Nat.reduceSub, Nat.reduceMul, Nat.reduceLeDiff, ← Bool.decide_and, ← Bool.decide_or, ← decide_not, Int.reduceLT, Int.reduceLE, Int.reduceToNat, Int.reduceNeg, by32, by10, St.ren, permF, Int.reduceEq, not_true_eq_false, not_false_eq_true, false_implies]
  intro _
  have hP := headV_head (l := spl 32 x)
  generalize headV (spl 32 x) = hv at hP
  obtain ⟨⟨m, a⟩, ok⟩ := hv
  dsimp only at hP ⊢
  cases ok
  · refine PK_cast (b' := true) rfl ?_
    simp only [go_sem, Nat.reduceBEq, ↓reduceIte, ↓reduceDIte, Nat.reduceAdd, Nat.reduceSub, Nat.reduceMul, Nat.reduceLeDiff, ← Bool.decide_and, ← Bool.decide_or, ← decide_not, Int.reduceLT, Int.reduceLE, Int.reduceToNat, Int.reduceNeg, by32, by10, St.ren, permF, Int.reduceEq, not_true_eq_false, not_false_eq_true, false_implies]
    cases l with
    | nil => rfl
    | cons y l => simp only [linesP]; rw [hP]; rfl
  · refine PK_cast (b' := false) rfl ?_
    simp only [go_sem, Nat.reduceBEq, ↓reduceIte, ↓reduceDIte, Nat.reduceAdd, Nat.reduceSub, Nat.reduceMul, Nat.reduceLeDiff, ← Bool.decide_and, ← Bool.decide_or, ← decide_not, Int.reduceLT, Int.reduceLE, Int.reduceToNat, Int.reduceNeg, by32, by10, St.ren, permF, Int.reduceEq, not_true_eq_false, not_false_eq_true, false_implies]
    refine ⟨fun g => ?_, fun g => ?_⟩
    · have : l = [] := List.eq_nil_of_length_eq_zero (by omega)
      subst this; rfl
    · obtain ⟨y, l2, rfl⟩ : ∃ y l2, l = y :: l2 := by
        cases l with
        | nil => simp at g
        | cons y l2 => exact ⟨y, l2, rfl⟩
      have hT0 : linesP (x :: y :: l2) = bodyP (m, a) (y :: l2) 0 [] := by simp only [linesP]; rw [hP]; rfl
      rw [hT0]
      generalize y :: l2 = l at hlen hall g
      clear hT0 hE hl k hk
      obtain ⟨T, hT⟩ : ∃ T, T = bodyP (m, a) l 0 [] := ⟨_, rfl⟩
      rw [← hT]
      refine Walks.loopA (X := Nat × List Rl) (fun (z : Nat × List Rl) => [(9, .iv (.int .i64) ((z.1 : Int) + 1)), (10, .any), (11, .any)]) (fun (z : Nat × List Rl) => (7, .box [.iv (.int .i64) m, .iv (.int .u8) a, rQ z.2]) :: rC z.2) (fun (z : Nat × List Rl) => z.1 + 1 ≤ l.length ∧ z.2.length = z.1 ∧ bodyP (m, a) (l.drop z.1) (z.1 : Int) z.2 = T) (fun (z : Nat × List Rl) => l.length - z.1) (0, []) ?_; intro b1 b2 hb1 hb2; simp (config := {maxSteps := 4000000}) only [go_sem, Nat.reduceBEq, ↓reduceIte, ↓reduceDIte, Nat.reduceAdd, Nat.reduceSub, Nat.reduceMul, Nat.reduceLeDiff, ← Bool.decide_and, ← Bool.decide_or, ← decide_not, Int.reduceLT, Int.reduceLE, Int.reduceToNat, Int.reduceNeg, by32, by10, St.ren, permF, Int.reduceEq, not_true_eq_false, not_false_eq_true, false_implies] at hb1 hb2; subst hb1; subst hb2; refine ⟨(by refine ⟨?_, ?_, rfl, rfl⟩ <;> repeat' (first | exact trivial | exact Or.inl rfl | exact Or.inr rfl | (refine And.intro (Or.inl rfl) ?_) | (refine And.intro (Or.inr (Or.inl rfl)) ?_) | (refine And.intro (Or.inr (Or.inr (Or.inr ⟨rfl, rfl⟩))) ?_) | (refine And.intro (Or.inr (Or.inr (Or.inl ⟨rfl, rfl, trivial⟩))) ?_) | exact ⟨(by show (_ : Nat) < 1000000000; omega), rfl, rfl⟩ | rfl | (refine And.intro (Or.inl ?_) ?_) | (refine And.intro ?_ ?_))), ?_, ?_⟩
      · exact ⟨by omega, rfl, hT.symm⟩
      clear hT
      intro ⟨j, acc⟩ ⟨hj, hacc, hT⟩ back
      dsimp only at hj hacc hT
      obtain ⟨y, hy⟩ : ∃ y, l[j]? = some y := get_of_lt (by omega)
      rw [drop_cons hy] at hT
      have hyl := hall y (List.mem_cons_of_mem _ (List.mem_of_getElem? hy))
      have hget : (x :: l)[((j : Int) + 1).toNat]? = some y := by
        rw [show ((j : Int) + 1).toNat = j + 1 from by omega, List.getElem?_cons_succ]; exact hy
      cases acc with
      | nil =>
        dsimp only [rQ, rC]
        refine PW_sound env_ok ⟨_, fn_19, rfl⟩ 2000 _ _ (by kernel_rfl) ?_; simp only [go_sem, Nat.reduceBEq, ↓reduceIte, ↓reduceDIte, Nat.reduceAdd, Nat.reduceSub, Nat.reduceMul, Nat.reduceLeDiff, ← Bool.decide_and, ← Bool.decide_or, ← decide_not, Int.reduceLT, Int.reduceLE, Int.reduceToNat, Int.reduceNeg, by32, by10, St.ren, permF, Int.reduceEq, not_true_eq_false, not_false_eq_true, false_implies]
        refine ⟨fun g1 => ⟨by omega, y, hget, _, c_rule2 y (by omega), fun _ => ?_⟩, fun g1 => ?_⟩
        · have hR := ruleV_rule (l := spl 32 y)
          generalize ruleV (spl 32 y) = rv at hR ⊢
          obtain ⟨r, ok⟩ := rv
          dsimp only at hR ⊢
          obtain ⟨y2, hy2⟩ : ∃ y2, l[j + 1]? = some y2 := get_of_lt (by omega)
          rw [drop_cons hy2] at hT
          simp only [bodyP] at hT
          rw [hR] at hT
          cases ok
          · have hT' : badP (j : Int) = T := hT
            refine PB_cast (b' := true) rfl ?_
            simp only [go_sem, Nat.reduceBEq, ↓reduceIte, ↓reduceDIte, Nat.reduceAdd, Nat.reduceSub, Nat.reduceMul, Nat.reduceLeDiff, ← Bool.decide_and, ← Bool.decide_or, ← decide_not, Int.reduceLT, Int.reduceLE, Int.reduceToNat, Int.reduceNeg, by32, by10, St.ren, permF, Int.reduceEq, not_true_eq_false, not_false_eq_true, false_implies]
            refine ⟨i64_ok (by omega) (by omega), ?_⟩
            rw [show (j : Int) + 1 - 1 = j from by omega]
            exact hT'
          · have hT' : bodyP (m, a) (y2 :: l.drop (j + 1 + 1)) ((j : Int) + 1) ([] ++ [r]) = T := hT
            refine PB_cast (b' := false) rfl ?_
            simp only [go_sem, Nat.reduceBEq, ↓reduceIte, ↓reduceDIte, Nat.reduceAdd, Nat.reduceSub, Nat.reduceMul, Nat.reduceLeDiff, ← Bool.decide_and, ← Bool.decide_or, ← decide_not, Int.reduceLT, Int.reduceLE, Int.reduceToNat, Int.reduceNeg, by32, by10, St.ren, permF, Int.reduceEq, not_true_eq_false, not_false_eq_true, false_implies]
            refine ⟨i64_ok (by omega) (by omega), back _ (j + 1, [r]) (by refine ⟨?_, ?_, rfl, rfl⟩ <;> repeat' (first | exact trivial | exact Or.inl rfl | exact Or.inr rfl | (refine And.intro (Or.inl rfl) ?_) | (refine And.intro (Or.inr (Or.inl rfl)) ?_) | (refine And.intro (Or.inr (Or.inr (Or.inr ⟨rfl, rfl⟩))) ?_) | (refine And.intro (Or.inr (Or.inr (Or.inl ⟨rfl, rfl, trivial⟩))) ?_) | exact ⟨(by show (_ : Nat) < 1000000000; omega), rfl, rfl⟩ | rfl | (refine And.intro (Or.inl ?_) ?_) | (refine And.intro ?_ ?_))) ⟨by dsimp only; omega, by simp only [List.length_cons, List.length_append, List.length_nil] at hacc ⊢; omega, ?_⟩ (by dsimp only; omega)⟩
            dsimp only
            rw [drop_cons hy2]
            exact hT'
        · have e : l.drop (j + 1) = [] := List.drop_of_length_le (by omega)
          rw [e] at hT
          have hT' : (if y = [] then finP (m, a, []) else badP (j : Int)) = T := hT
          have hget2 : (x :: l)[(((l.length + 1 : Nat) : Int) - 1).toNat]? = some y := by
            rw [show (((l.length + 1 : Nat) : Int) - 1).toNat = j + 1 from by omega, List.getElem?_cons_succ]; exact hy
          refine ⟨by omega, y, hget2, fun g2 => ?_, fun g2 => ?_⟩
          · rw [if_neg (show ¬ y = [] from g2)] at hT'
            refine ⟨i64_ok (by omega) (by omega), ?_⟩
            rw [show ((l.length + 1 : Nat) : Int) - 1 - 1 = j from by omega]
            exact hT'
          · rw [if_pos (show y = [] from g2)] at hT'
            refine ⟨_, c_Check2 (m, a, []), fun _ => ⟨fun g => ?_, fun g => ?_⟩⟩
            · rw [← hT']; unfold finP; rw [if_neg g]
            · rw [← hT']; unfold finP; rw [if_pos g]
      | cons q acc =>
        dsimp only [rQ, rC]
        refine PW_sound env_ok ⟨_, fn_19, rfl⟩ 2000 _ _ (by kernel_rfl) ?_; simp only [go_sem, Nat.reduceBEq, ↓reduceIte, ↓reduceDIte, Nat.reduceAdd, Nat.reduceSub, Nat.reduceMul, Nat.reduceLeDiff, ← Bool.decide_and, ← Bool.decide_or, ← decide_not, Int.reduceLT, Int.reduceLE, Int.reduceToNat, Int.reduceNeg, by32, by10, St.ren, permF, Int.reduceEq, not_true_eq_false, not_false_eq_true, false_implies]
        refine ⟨fun g1 => ⟨by omega, y, hget, _, c_rule2 y (by omega), fun _ => ?_⟩, fun g1 => ?_⟩
        · have hR := ruleV_rule (l := spl 32 y)
          generalize ruleV (spl 32 y) = rv at hR ⊢
          obtain ⟨r, ok⟩ := rv
          dsimp only at hR ⊢
          obtain ⟨y2, hy2⟩ : ∃ y2, l[j + 1]? = some y2 := get_of_lt (by omega)
          rw [drop_cons hy2] at hT
          simp only [bodyP] at hT
          rw [hR] at hT
          cases ok
          · have hT' : badP (j : Int) = T := hT
            refine PB_cast (b' := true) rfl ?_
            simp only [go_sem, Nat.reduceBEq, ↓reduceIte, ↓reduceDIte, Nat.reduceAdd, Nat.reduceSub, Nat.reduceMul, Nat.reduceLeDiff, ← Bool.decide_and, ← Bool.decide_or, ← decide_not, Int.reduceLT, Int.reduceLE, Int.reduceToNat, Int.reduceNeg, by32, by10, St.ren, permF, Int.reduceEq, not_true_eq_false, not_false_eq_true, false_implies]
            refine ⟨i64_ok (by omega) (by omega), ?_⟩
            rw [show (j : Int) + 1 - 1 = j from by omega]
            exact hT'
          · have hT' : bodyP (m, a) (y2 :: l.drop (j + 1 + 1)) ((j : Int) + 1) ((q :: acc) ++ [r]) = T := hT
            refine PB_cast (b' := false) rfl ?_
            simp only [go_sem, Nat.reduceBEq, ↓reduceIte, ↓reduceDIte, Nat.reduceAdd, Nat.reduceSub, Nat.reduceMul, Nat.reduceLeDiff, ← Bool.decide_and, ← Bool.decide_or, ← decide_not, Int.reduceLT, Int.reduceLE, Int.reduceToNat, Int.reduceNeg, by32, by10, St.ren, permF, Int.reduceEq, not_true_eq_false, not_false_eq_true, false_implies]
            refine ⟨by simp only [List.length_cons] at hacc; omega, i64_ok (by omega) (by omega), back _ (j + 1, q :: (acc ++ [r])) (by refine ⟨?_, ?_, rfl, rfl⟩ <;> repeat' (first | exact trivial | exact Or.inl rfl | exact Or.inr rfl | (refine And.intro (Or.inl rfl) ?_) | (refine And.intro (Or.inr (Or.inl rfl)) ?_) | (refine And.intro (Or.inr (Or.inr (Or.inr ⟨rfl, rfl⟩))) ?_) | (refine And.intro (Or.inr (Or.inr (Or.inl ⟨rfl, rfl, trivial⟩))) ?_) | exact ⟨(by show (_ : Nat) < 1000000000; omega), rfl, rfl⟩ | rfl | (refine And.intro (Or.inl ?_) ?_) | (refine And.intro ?_ ?_))) ⟨by dsimp only; omega, by simp only [List.length_cons, List.length_append, List.length_nil] at hacc ⊢; omega, ?_⟩ (by dsimp only; omega)⟩
            dsimp only
            rw [drop_cons hy2]
            exact hT'
        · have e : l.drop (j + 1) = [] := List.drop_of_length_le (by omega)
          rw [e] at hT
          have hT' : (if y = [] then finP (m, a, (q :: acc)) else badP (j : Int)) = T := hT
          have hget2 : (x :: l)[(((l.length + 1 : Nat) : Int) - 1).toNat]? = some y := by
            rw [show (((l.length + 1 : Nat) : Int) - 1).toNat = j + 1 from by omega, List.getElem?_cons_succ]; exact hy
          refine ⟨by omega, y, hget2, fun g2 => ?_, fun g2 => ?_⟩
          · rw [if_neg (show ¬ y = [] from g2)] at hT'
            refine ⟨i64_ok (by omega) (by omega), ?_⟩
            rw [show ((l.length + 1 : Nat) : Int) - 1 - 1 = j from by omega]
            exact hT'
          · rw [if_pos (show y = [] from g2)] at hT'
            refine ⟨_, c_Check2 (m, a, (q :: acc)), fun _ => ⟨fun g => ?_, fun g => ?_⟩⟩
            · rw [← hT']; unfold finP; rw [if_neg g]
            · rw [← hT']; unfold finP; rw [if_pos g]
end Go.Proofs.YtcmolphllladbaaDoor
