/- Contracts: walks that numbers choose. Nothing here is trusted; no condition. -/
import Derived.Test.YtefpgfdemmllpaaC1
import Derived.Lib.Builder
import Derived.WalkKit
import Derived.RegionTactic
import Derived.BigRegion
import Derived.Deep.RegionLaw
import Derived.Lib.Walk
set_option linter.unusedSimpArgs false
set_option linter.unusedVariables false
open Nat renaming reduceBEq → zA, reduceAdd → zB, reduceSub → zC, reduceMul → zD, reduceLeDiff → zE
open Int renaming reduceLT → zF, reduceLE → zG, reduceToNat → zH, reduceNeg → zI
namespace Go.Proofs.Ytefpgfdemmllpaa
set_option maxHeartbeats 4000000
set_option maxRecDepth 100000
theorem rightAt_right {n:Int} {rs:List Rl} {r:Rl} (h:rightAt n (rs ++ [r]) rs.length = true):rightR n r = true ∧ r ∉ rs:=by
  unfold rightAt at h
  simp only [List.getElem?_append_right (Nat.le_refl _),Nat.sub_self,List.getElem?_cons_zero,List.take_left',Bool.and_eq_true,decide_eq_true_eq] at h
  exact ⟨h.2,h.1⟩
theorem mstep_right {n:Int} {rs:List Rl} {r x:Rl} (hx:x ∈ mstep n rs r):x ∈ rs ∨ rightR n x = true:=by
  unfold mstep at hx
  split at hx
  · rename_i h
    rcases List.mem_append.1 hx with hx | hx
    · exact .inl hx
    · rw [List.mem_singleton.1 hx]; exact .inr (rightAt_right h).1
  · exact .inl hx
theorem mstep_nodup {n:Int} {rs:List Rl} {r:Rl} (h:rs.Nodup):(mstep n rs r).Nodup:=by
  unfold mstep
  split
  · rename_i hr
    rw [List.nodup_append]
    refine ⟨h,by simp,fun a ha b hb => ?_⟩
    rw [List.mem_singleton.1 hb]
    rintro rfl
    exact (rightAt_right hr).2 ha
  · exact h
theorem made2L_right {n:Int} {x:Rl}:∀ {ys:List RawRl} {out:List Rl},x ∈ made2L n ys out → x ∈ out ∨ rightR n x = true
  | [],out,h => .inl h
  | y :: ys,out,h => by
    rcases made2L_right (ys:=ys) h with h | h
    · exact mstep_right h
    · exact .inr h
theorem made2L_nodup {n:Int}:∀ {ys:List RawRl} {out:List Rl},out.Nodup → (made2L n ys out).Nodup
  | [],out,h => h
  | y :: ys,out,h => made2L_nodup (ys:=ys) (mstep_nodup h)
theorem made2L_len {n:Int}:∀ (ys:List RawRl) (out:List Rl),out.length ≤ (made2L n ys out).length ∧ (made2L n ys out).length ≤ out.length + ys.length
  | [],out => ⟨Nat.le_refl _,Nat.le_refl _⟩
  | y :: ys,out => by
    have h:=made2L_len (n:=n) ys (mstep n out (made1E y n))
    have h2:=mstep_len n out (made1E y n)
    show _ ≤ (made2L n ys (mstep n out (made1E y n))).length ∧ (made2L n ys (mstep n out (made1E y n))).length ≤ _
    simp only [List.length_cons]
    omega
theorem base_right (k:Int):(baseE k).2.2.all (rightR (baseE k).1) = true ∧ (baseE k).2.2.Nodup:=by
  unfold baseE
  repeat' split
  all_goals decide
structure OkS (s:Sch):Prop where
  n1:1 ≤ s.1
  n8:s.1 ≤ 8
  a1:1 ≤ s.2.1
  a2:s.2.1 ≤ 2 ^ s.1.toNat - 1
  len:s.2.2.length ≤ 64
  right:∀ r,r ∈ s.2.2 → rightR s.1 r = true
  nodup:s.2.2.Nodup
theorem made2_ok (x:RawS):OkS (made2E x) ∧ (made2E x).1 ≤ 2 ∧ 2 ≤ (made2E x).2.2.length ∧ (made2E x).2.2.length ≤ 9:=by
  have hf:=base_fact x.1
  have hr:=base_right x.1
  unfold made2E
  have hl:=made2L_len (n:=(baseE x.1).1) (x.2.2.take 4) ((baseE x.1).2.2.drop (x.2.1 % 2).toNat)
  have h4:(x.2.2.take 4).length ≤ 4:=by rw [List.length_take]; omega
  have hd:((baseE x.1).2.2.drop (x.2.1 % 2).toNat).length = (baseE x.1).2.2.length - (x.2.1 % 2).toNat:=List.length_drop ..
  refine ⟨⟨by dsimp only; omega,by dsimp only; omega,by dsimp only; omega,?_,by dsimp only; omega,fun r hr' => ?_,made2L_nodup (hr.2.sublist (List.drop_sublist _ _))⟩,by dsimp only; omega,by dsimp only; omega,by dsimp only; omega⟩
  · dsimp only
    rw [hf.2.1]
    rcases hf.1 with h | h <;> rw [h] <;> decide
  · rcases made2L_right hr' with h | h
    · exact List.all_eq_true.1 hr.1 r (List.mem_of_mem_drop h)
    · exact h
theorem right_nums {n:Int} {r:Rl} (h:rightR n r = true):0 ≤ r.1 ∧ r.1 < n ∧ 0 ≤ r.2.1 ∧ r.2.1 < n ∧ 0 ≤ r.2.2.2.2 ∧ r.2.2.2.2 ≤ 1000 ∧ r.2.2.1.length ≤ 4 ∧ r.2.2.2.1.length ≤ 4:=by
  simp only [rightR,inB,Bool.and_eq_true,decide_eq_true_eq] at h
  omega
end Go.Proofs.Ytefpgfdemmllpaa
namespace Go.Proofs.Ytefpgfdemmllpaa
open Go.RowKit
set_option maxHeartbeats 1000000
set_option maxRecDepth 100000
abbrev GM:=List (Int × List Int)
abbrev eqI:Int → Int → Bool:=fun x y => decide (x = y)
def MemN (N:Nat):Mem:=⟨fun b => b < N,fun b => N ≤ b⟩
def OwnV (N:Nat) (w:World) (v:Value) (xs:List Int):Prop:=RepC (.own (.int .i64)) xs w (MemN N) [v]
structure Grp (N B:Nat) (w:World) (es:GM) (ents:Array MapEntry) (clock:Nat):Prop where
  obj:w.heap[B]? = some (.map ents clock)
  bir:Births ents clock
  size:ents.size = es.length
  row:∀ (i:Nat) (y:Int × List Int),es[i]? = some y → ∃ e:MapEntry,ents[i]? = some e ∧ e.key = .int .i64 y.1 ∧ (IntKind.i64.min ≤ y.1 ∧ y.1 ≤ IntKind.i64.max) ∧ OwnV N w e.val y.2
  dis:∀ (i j:Nat) (e f:MapEntry) (g:Nat),i ≠ j → ents[i]? = some e → ents[j]? = some f → blockOf e.val = some g → blockOf f.val ≠ some g
  NB:B < N
theorem OwnV.block {N:Nat} {w:World} {v:Value} {xs:List Int} (h:OwnV N w v xs) {g:Nat} (hg:blockOf v = some g):N ≤ g ∧ g < w.heap.size:=by
  obtain ⟨u,hu,_,h⟩:=h
  injection hu with hu; subst hu
  rcases h with ⟨rfl,_⟩ | ⟨g',o,cap,cur,e,rfl,_,_,_,hO,hh,_⟩
  · simp [blockOf] at hg
  · simp only [blockOf,Option.some.injEq] at hg
    subst hg
    exact ⟨hO,(Array.getElem?_eq_some_iff.1 hh).1⟩
theorem CellsAt.same {w w':World} {g o:Nat} {cs:List Value} (h:w'.heap[g]? = w.heap[g]?) (hc:CellsAt w g o cs):CellsAt w' g o cs:=fun j v hj => by
  have:=hc j v hj
  simp only [World.cell?,h] at this ⊢
  exact this
theorem OwnV.keep {N:Nat} {w w':World} {v:Value} {xs:List Int} (h:OwnV N w v xs) (hk:∀ g,blockOf v = some g → w'.heap[g]? = w.heap[g]?):OwnV N w' v xs:=by
  obtain ⟨u,hu,hl,h⟩:=h
  injection hu with hu; subst hu
  refine ⟨v,rfl,hl,?_⟩
  rcases h with h | ⟨g,o,cap,cur,e,rfl,h1,h2,h3,h4,hh,h5,h6⟩
  · exact .inl h
  · have hw:=hk g rfl
    refine .inr ⟨g,o,cap,cur,e,rfl,h1,h2,h3,h4,by rw [hw]; exact hh,h5,fun i y hy => ?_⟩
    obtain ⟨cs,c1,c2,c3⟩:=h6 i y hy
    exact ⟨cs,c1,c2.same hw,c3⟩
theorem OwnV.data {N:Nat} {w:World} {v:Value} {xs:List Int} (h:OwnV N w v xs) {M:Mem} (hM:∀ g,blockOf v = some g → M.S g):RepC (.sl (.int .i64)) xs w M [v]:=by
  obtain ⟨u,hu,hl,h⟩:=h
  injection hu with hu; subst hu
  rcases h with ⟨rfl,rfl⟩ | ⟨g,o,cap,cur,e,rfl,h1,h2,h3,h4,hh,h5,h6⟩
  · exact ⟨none,0,rfl,Nat.le_refl _,by omega,.inl rfl⟩
  · exact ⟨_,cap,rfl,h1,h2,.inr ⟨g,o,rfl,hM g rfl,fun i y hy => by
      obtain ⟨cs,c1,c2,c3⟩:=h6 i y hy
      exact ⟨cs,c1,c2,c3⟩⟩⟩
theorem Grp.keep {N B:Nat} {w w':World} {es:GM} {ents:Array MapEntry} {clock:Nat} (h:Grp N B w es ents clock) (hB:w'.heap[B]? = w.heap[B]?) (hr:∀ (i:Nat) (e:MapEntry),ents[i]? = some e → ∀ g,blockOf e.val = some g → w'.heap[g]? = w.heap[g]?):Grp N B w' es ents clock :=
  ⟨by rw [hB]; exact h.obj,h.bir,h.size,fun i y hy => by
    obtain ⟨e,e1,e2,e3,e4⟩:=h.row i y hy
    exact ⟨e,e1,e2,e3,e4.keep (hr i e e1)⟩,h.dis,h.NB⟩
theorem Grp.row_lt {N B:Nat} {w:World} {es:GM} {ents:Array MapEntry} {clock:Nat} (h:Grp N B w es ents clock) {i:Nat} {e:MapEntry} (he:ents[i]? = some e) {g:Nat} (hg:blockOf e.val = some g):N ≤ g ∧ g < w.heap.size:=by
  have hi:=(Array.getElem?_eq_some_iff.1 he).1
  obtain ⟨y,hy⟩:∃ y,es[i]? = some y:=get_of_lt (by rw [← h.size]; exact hi)
  obtain ⟨f,f1,_,_,f4⟩:=h.row i y hy
  rw [he] at f1; injection f1 with f1; subst f1
  exact f4.block hg
theorem Grp.keepAll {N B:Nat} {w w':World} {es:GM} {ents:Array MapEntry} {clock:Nat} (h:Grp N B w es ents clock) (hk:∀ g,g < w.heap.size → w'.heap[g]? = w.heap[g]?):Grp N B w' es ents clock :=
  h.keep (hk B (by have:=Array.getElem?_eq_some_iff.1 h.obj; exact this.1)) fun i e he g hg => hk g (h.row_lt he hg).2
def MemT:Mem:=⟨fun _ => True,fun _ => True⟩
theorem Grp.entR {N B:Nat} {w:World} {es:GM} {ents:Array MapEntry} {clock:Nat} (h:Grp N B w es ents clock):EntR w MemT (.int .i64) (.sl (.int .i64)) es ents.toList :=
  EntR_of (K:=.int .i64) (V:=.sl (.int .i64)) (w:=w) (M:=MemT) es ents.toList (by simpa using h.size) fun i y hy => by
    obtain ⟨e,e1,e2,e3,e4⟩:=h.row i y hy
    exact ⟨e,[.int .i64 y.1],[e.val],by simpa using e1,e2,⟨rfl,e3⟩,rfl,e4.data (M:=MemT) fun _ _ => trivial⟩
theorem key_repr {k:Int} (hk:IntKind.i64.min ≤ k ∧ k ≤ IntKind.i64.max) (w:World) (M:Mem):RepV (.int .i64) k w M (.int .i64 k):=⟨rfl,hk⟩
theorem und77:Try.prog.underlying 160 = some (.map 3 40):=by kernel_rfl
theorem und3:Try.prog.underlying 3 = some (.int .i64):=by kernel_rfl
theorem keyT3:keyT env 3 (.int .i64) = true:=rfl
theorem zero32 (w:World):(zeroValue 40).run Try.prog w = .ok (.slice none 0 0) w:=by kernel_rfl
def gval (es:GM) (ents:Array MapEntry) (k:Int):Value:=match mpos eqI es k with
  | some i => (match ents[i]? with | some e => e.val | none => .slice none 0 0)
  | none => .slice none 0 0
theorem Grp.lookup {N B:Nat} {w:World} {es:GM} {ents:Array MapEntry} {clock:Nat} (h:Grp N B w es ents clock) {k:Int} (hk:IntKind.i64.min ≤ k ∧ k ≤ IntKind.i64.max) :
    (Instr.lookup 160 (.map (some B)) (.int .i64 k) false).run Try.prog w = .ok (gval es ents k) w:=by
  obtain ⟨res,hfind,hfound⟩:=find_run env_ok (K:=.int .i64) (V:=.sl (.int .i64)) (kt:=3) (w:=w) (M:=MemT) rfl keyT3 (key_repr hk w MemT) es ents.toList h.entR
  have hck:∀ em,(Instr.checkKey em 10000 3 (.int .i64 k)).run Try.prog w = .ok () w:=fun em => check_run env_ok (w:=w) (M:=MemT) 9999 (.int .i64) 3 k _ rfl (by trivial) (key_repr hk w MemT) (by decide) em
  have hrun:=run_lookup (P:=Try.prog) (w:=w) (ok:=false) und77 (.inr ⟨B,ents,clock,rfl,h.obj,rfl⟩) hck hfind (zero32 w)
  rw [hrun]
  simp only [Bool.false_eq_true,if_false]
  congr 1
  unfold FoundR at hfound
  unfold gval
  have hE:mpos (eqB (.int .i64)) es k = mpos eqI es k:=rfl
  rw [hE] at hfound
  cases hm:mpos eqI es k with
  | none => rw [hm] at hfound; rw [hfound]; rfl
  | some i =>
    rw [hm] at hfound
    obtain ⟨e,he,rfl⟩:=hfound
    have he':ents[i]? = some e:=by simpa using he
    simp only [he',resV]
def gget (es:GM) (k:Int):List Int:=(mfind eqI es k).getD []
theorem Grp.own {N B:Nat} {w:World} {es:GM} {ents:Array MapEntry} {clock:Nat} (h:Grp N B w es ents clock) (k:Int):OwnV N w (gval es ents k) (gget es k):=by
  unfold gval gget
  rw [mfind_pos]
  cases hm:mpos eqI es k with
  | none => exact ⟨_,rfl,by simp,.inl ⟨rfl,rfl⟩⟩
  | some i =>
    obtain ⟨p,hp,_⟩:=mpos_lt _ _ _ _ hm
    obtain ⟨e,e1,_,_,e4⟩:=h.row i p hp
    simp only [e1,Option.bind_some,hp,Option.map_some,Option.getD_some]
    exact e4
theorem Grp.gblock {N B:Nat} {w:World} {es:GM} {ents:Array MapEntry} {clock:Nat} (_h:Grp N B w es ents clock) {k:Int} {g:Nat} (hg:blockOf (gval es ents k) = some g):∃ (i:Nat) (e:MapEntry),mpos eqI es k = some i ∧ ents[i]? = some e ∧ blockOf e.val = some g:=by
  unfold gval at hg
  cases hm:mpos eqI es k with
  | none => simp [hm,blockOf] at hg
  | some i =>
    simp only [hm] at hg
    cases he:ents[i]? with
    | none => simp [he,blockOf] at hg
    | some e => simp only [he] at hg; exact ⟨i,e,rfl,he,hg⟩
theorem Grp.store {N B:Nat} {w w2:World} {es:GM} {ents:Array MapEntry} {clock:Nat} (h:Grp N B w es ents clock) {k:Int} (hk:IntKind.i64.min ≤ k ∧ k ≤ IntKind.i64.max) {v':Value} {ys:List Int}
    (hv:OwnV N w2 v' ys) (hg:GrownD w w2 (blockOf (gval es ents k))) (hb:∀ g,blockOf v' = some g → blockOf (gval es ents k) = some g ∨ w.heap.size ≤ g) :
    ∃ w3 ents' clock',(Instr.mapUpdate 160 (.map (some B)) (.int .i64 k) v').run Try.prog w2 = .ok () w3 ∧ Grp N B w3 (mset eqI es k ys) ents' clock' ∧ GrownD w2 w3 (some B):=by
  have hBlt:B < w.heap.size:=(Array.getElem?_eq_some_iff.1 h.obj).1
  have hBrow:some B ≠ blockOf (gval es ents k):=fun e => by
    obtain ⟨i,f,_,hf,hb'⟩:=h.gblock e.symm
    have:=(h.row_lt hf hb').1
    have:=h.NB
    omega
  have hobj2:w2.heap[B]? = some (.map ents clock):=by rw [hg.block B hBlt hBrow]; exact h.obj
  -- the other rows stand
  have stay:∀ (i:Nat) (e:MapEntry),ents[i]? = some e → mpos eqI es k ≠ some i → ∀ g,blockOf e.val = some g → w2.heap[g]? = w.heap[g]?:=fun i e he hne g hgb => by
    refine hg.block g (h.row_lt he hgb).2 fun e' => ?_
    obtain ⟨j,f,hm,hf,hb'⟩:=h.gblock e'.symm
    exact h.dis i j e f g (fun e => hne (by rw [hm,e])) he hf hgb hb'
  have apart:∀ (i:Nat) (e:MapEntry),ents[i]? = some e → mpos eqI es k ≠ some i → ∀ g,blockOf e.val = some g → blockOf v' ≠ some g:=fun i e he hne g hgb hv' => by
    rcases hb g hv' with h1 | h1
    · obtain ⟨j,f,hm,hf,hb'⟩:=h.gblock h1
      exact h.dis i j e f g (fun e => hne (by rw [hm,e])) he hf hgb hb'
    · have:=(h.row_lt he hgb).2; omega
  obtain ⟨res,hnow,hfound⟩:=now_run (K:=.int .i64) (V:=.sl (.int .i64)) (d:=.int .i64) (w:=w) (M:=MemT) rfl (key_repr hk w MemT) es ents.toList 0 h.entR
  have hfind:(Instr.findKey 3 (.int .i64 k) ents.toList).run Try.prog w2 = .ok res w2:=by simp [Instr.findKey,run_underlying und3,hnow]
  have hck:∀ em,(Instr.checkKey em 10000 3 (.int .i64 k)).run Try.prog w2 = .ok () w2:=fun em => check_run env_ok (w:=w2) (M:=MemT) 9999 (.int .i64) 3 k _ rfl (by trivial) (key_repr hk w2 MemT) (by decide) em
  have hstay:(Instr.keyThatStays (.int .i64 k) (.int .i64 k)).run Try.prog w2 = .ok (.int .i64 k) w2:=keyStays_run (w:=w2) (M:=MemT) (K:=.int .i64) rfl rfl (key_repr hk w2 MemT)
  have hv'B:∀ g,blockOf v' = some g → N ≤ g:=fun g hg' => (hv.block hg').1
  -- behind the store
  have fin:∀ (ents':Array MapEntry) (clock':Nat),(Instr.mapUpdate 160 (.map (some B)) (.int .i64 k) v').run Try.prog w2 = .ok () { w2 with heap:=w2.heap.setIfInBounds B (.map ents' clock') } → Births ents' clock' → ents'.size = (mset eqI es k ys).length →
      (∀ (i:Nat) (e:MapEntry),ents'[i]? = some e → (e.val = v' ∧ e.key = .int .i64 k ∧ (mset eqI es k ys)[i]? = some (k,ys) ∧ (mpos eqI es k = some i ∨ mpos eqI es k = none ∧ i = es.length)) ∨ (ents[i]? = some e ∧ mpos eqI es k ≠ some i ∧ (mset eqI es k ys)[i]? = es[i]?)) →
      ∃ w3 ents' clock',(Instr.mapUpdate 160 (.map (some B)) (.int .i64 k) v').run Try.prog w2 = .ok () w3 ∧ Grp N B w3 (mset eqI es k ys) ents' clock' ∧ GrownD w2 w3 (some B):=by
    intro ents' clock' hrun hb' hsz hent
    have hgr:=grownBy_set w2 B (.map ents' clock')
    have hold:∀ g,N ≤ g → ({ w2 with heap:=w2.heap.setIfInBounds B (.map ents' clock') }:World).heap[g]? = w2.heap[g]?:=fun g hg' => by
      have:=h.NB
      simp only [Array.getElem?_setIfInBounds]
      rw [if_neg (by omega)]
    refine ⟨_,ents',clock',hrun,⟨(MapKept.heap_set hobj2).1,hb',hsz,fun i y hy => ?_,fun i j e f g hij he hf hge hgf => ?_,h.NB⟩,hgr⟩
    · obtain ⟨e,he⟩:∃ e,ents'[i]? = some e:=⟨_,Array.getElem?_eq_getElem (by rw [hsz]; exact (List.getElem?_eq_some_iff.1 hy).1)⟩
      refine ⟨e,he,?_⟩
      rcases hent i e he with ⟨h1,h2,h3,_⟩ | ⟨h1,h2,h3⟩
      · rw [h3] at hy; injection hy with hy; subst hy
        refine ⟨h2,hk,?_⟩
        rw [h1]
        exact hv.keep fun g hg' => hold g (hv'B g hg')
      · rw [h3] at hy
        obtain ⟨f,f1,f2,f3,f4⟩:=h.row i y hy
        rw [h1] at f1; injection f1 with f1; subst f1
        exact ⟨f2,f3,f4.keep fun g hg' => (hold g (h.row_lt h1 hg').1).trans (stay i e h1 h2 g hg')⟩
    · rcases hent i e he with ⟨h1,_,h3,h4⟩ | ⟨h1,h2,_⟩ <;> rcases hent j f hf with ⟨k1,_,k3,k4⟩ | ⟨k1,k2,_⟩
      · rcases h4 with h4 | ⟨h4,h5⟩ <;> rcases k4 with k4 | ⟨k4,k5⟩
        · rw [h4] at k4; injection k4 with k4; exact hij k4
        · rw [h4] at k4; cases k4
        · rw [h4] at k4; cases k4
        · omega
      · rw [h1] at hge
        exact apart j f k1 k2 g hgf hge
      · rw [k1] at hgf
        exact apart i e h1 h2 g hge hgf
      · exact h.dis i j e f g hij h1 k1 hge hgf
  have hEq:mpos (eqB (.int .i64)) es k = mpos eqI es k:=rfl
  unfold FoundR at hfound
  rw [hEq] at hfound
  cases hm:mpos eqI es k with
  | none =>
    rw [hm] at hfound
    simp only at hfound
    subst hfound
    have hms:mset eqI es k ys = es ++ [(k,ys)]:=by rw [mset_pos,hm]
    refine fin (ents.push ⟨.int .i64 k,v',clock⟩) (clock + 1) ?_ ?_ ?_ ?_
    · simp [Instr.mapUpdate,run_underlying und77,MapKept.run_getObj_map hobj2,hck,hfind,MapKept.run_setObj_map _ hobj2]
    · obtain ⟨hc,hb1⟩:=h.bir
      subst hc
      refine ⟨by simp,fun i e hi => ?_⟩
      rw [Array.getElem?_push] at hi
      split at hi
      · rename_i hil; injection hi with hi; subst hi; exact hil.symm
      · exact hb1 i e hi
    · rw [hms]; simp [h.size]
    · intro i e hi
      rw [Array.getElem?_push] at hi
      rw [hms]
      split at hi
      · rename_i hil
        injection hi with hi
        subst hi
        have:i = es.length:=by rw [hil,h.size]
        subst this
        exact .inl ⟨rfl,rfl,by simp,.inr ⟨hm,rfl⟩⟩
      · have hil:=(Array.getElem?_eq_some_iff.1 hi).1
        exact .inr ⟨hi,by rw [hm]; simp,by rw [List.getElem?_append_left (by rw [← h.size]; exact hil)]⟩
  | some j =>
    rw [hm] at hfound
    obtain ⟨e,he,rfl⟩:=hfound
    obtain ⟨yy,hyy,heq⟩:=mpos_lt _ _ _ _ hm
    have heq:k = yy.1:=by simpa using heq
    have he':ents[j]? = some e:=by simpa using he
    obtain ⟨e2,g1,g2,_,_⟩:=h.row j yy hyy
    rw [he'] at g1; injection g1 with g1; subst g1
    have hkeq:e.key = .int .i64 k:=by rw [g2,heq]
    have hms:mset eqI es k ys = es.set j (k,ys):=by rw [mset_pos,hm]
    have hjl:j < es.length:=(List.getElem?_eq_some_iff.1 hyy).1
    refine fin (ents.modify j fun e => { e with key:=.int .i64 k,val:=v' }) clock ?_ ?_ ?_ ?_
    · simp [Instr.mapUpdate,run_underlying und77,MapKept.run_getObj_map hobj2,hck,hfind,he',hkeq,hstay,MapKept.run_setObj_map _ hobj2]
    · obtain ⟨hc,hb1⟩:=h.bir
      refine ⟨by simpa using hc,fun i e2 hi => ?_⟩
      rw [Array.getElem?_modify] at hi
      split at hi
      · rename_i hij
        subst hij
        rw [he'] at hi
        simp only [Option.map_some,Option.some.injEq] at hi
        subst hi
        exact hb1 _ e he'
      · exact hb1 i e2 hi
    · rw [hms]; simp [h.size]
    · intro i f hi
      rw [Array.getElem?_modify] at hi
      rw [hms]
      split at hi
      · rename_i hij
        subst hij
        rw [he'] at hi
        simp only [Option.map_some,Option.some.injEq] at hi
        subst hi
        exact .inl ⟨rfl,rfl,by rw [List.getElem?_set]; simp [hjl],.inl hm⟩
      · rename_i hij
        exact .inr ⟨hi,by rw [hm]; intro e; injection e with e; exact hij e,by rw [List.getElem?_set,if_neg hij]⟩
theorem Grp.put {N B:Nat} {w:World} {es:GM} {ents:Array MapEntry} {clock:Nat} (h:Grp N B w es ents clock) (hN:N ≤ w.heap.size) {k x:Int} (hk:IntKind.i64.min ≤ k ∧ k ≤ IntKind.i64.max) (hx:IntKind.i64.min ≤ x ∧ x ≤ IntKind.i64.max) (hlen:(gget es k).length ≤ 1000) :
    ∃ v v' w2 w3 ents' clock',(Instr.lookup 160 (.map (some B)) (.int .i64 k) false).run Try.prog w.drew = .ok v w.drew ∧
      (Instr.lookup 160 (.map (some B)) (.int .i64 k) false).run Try.prog (w.alloc (.cells #[.int .i64 x] 3)).drew = .ok v (w.alloc (.cells #[.int .i64 x] 3)).drew ∧
      (Builtin.append_ #[40,40] 40 #[v,.slice (some ⟨w.heap.size,0,none⟩) 1 1]).run Try.prog (w.alloc (.cells #[.int .i64 x] 3)).drew = .ok v' w2 ∧
      (Instr.mapUpdate 160 (.map (some B)) (.int .i64 k) v').run Try.prog w2 = .ok () w3 ∧ Grp N B w3 (mset eqI es k (gget es k ++ [x])) ents' clock' ∧
      (∃ a n c,v = .slice a n c) ∧ (∃ a n c,v' = .slice a n c) ∧
      w2.os = w.os ∧ w2.tape = w.tape ∧ w2.output = w.output ∧ w.heap.size ≤ w2.heap.size ∧ w3.os = w.os ∧ w3.tape = w.tape ∧ w3.output = w.output ∧ w.heap.size ≤ w3.heap.size ∧
      (∀ j,j < w.heap.size → (∀ (i:Nat) (e:MapEntry),ents[i]? = some e → blockOf e.val ≠ some j) → w2.heap[j]? = w.heap[j]? ∧ (j ≠ B → w3.heap[j]? = w.heap[j]?)):=by
  have h1:Grp N B (w.alloc (.cells #[.int .i64 x] 3)).drew es ents clock:=h.keepAll fun g hg => Lib.alloc_old w _ g hg
  have hown:=h1.own k
  have hsz1:(w.alloc (.cells #[.int .i64 x] 3)).drew.heap.size = w.heap.size + 1:=Array.size_push _
  have hcell:(w.alloc (.cells #[.int .i64 x] 3)).drew.cell? ⟨w.heap.size,0,none⟩ = some (.int .i64 x):=by
    have:(w.alloc (.cells #[.int .i64 x] 3)).drew.heap[w.heap.size]? = some (.cells #[.int .i64 x] 3 (0,0)):=(MapKept.heap_alloc w _).1
    rw [Lib.cell_of_heap this]; rfl
  have hsrc:Src Try.prog (Ty.int .i64).cells 40 (.slice (some ⟨w.heap.size,0,none⟩) 1 1) 1 [.int .i64 x] (w.alloc (.cells #[.int .i64 x] 3)).drew :=
    Src.ofSlice _ (tx:=40) (e':=3) (by kernel_rfl) _ 1 1 _ rfl (fun j u hj => by
      cases j with
      | zero => simp at hj; subst hj; first | exact hcell | (simp [Addr.add])
      | succ j => simp at hj) (by simp [Value.oneCell'])
  obtain ⟨v',w2,a1,a2,a3,a4,a5,_⟩:=run_append_arr env_ok (t:=40) (tx:=40) (ty:=40) (T:=.int .i64) rfl (w:=(w.alloc (.cells #[.int .i64 x] 3)).drew) (M:=MemN N) (v:=gval es ents k) (xs:=gget es k) (ys:=[x]) rfl hown
    (fun b hb => by rw [hsz1]; exact Nat.lt_of_lt_of_le hb (by omega)) (fun g hg => by show N ≤ g; omega) (x:=.slice (some ⟨w.heap.size,0,none⟩) 1 1) (news:=[.int .i64 x]) hsrc
    (fun i y hy => by
      cases i with
      | zero => simp at hy; subst hy; exact ⟨rfl,hx⟩
      | succ i => simp at hy) (by simp; omega)
  obtain ⟨w3,ents',clock',b1,b2,b3⟩:=h1.store hk (v':=v') (ys:=gget es k ++ [x]) a2 a3 (fun g hg => a5 g hg)
  have hvs:∃ a n c,gval es ents k = .slice a n c:=by
    obtain ⟨u,hu,_,hh⟩:=hown
    injection hu with hu; subst hu
    rcases hh with ⟨hh,_⟩ | ⟨_,_,_,_,_,hh,_⟩ <;> exact ⟨_,_,_,hh⟩
  refine ⟨gval es ents k,v',w2,w3,ents',clock',(h.keepAll (w':=w.drew) fun g _ => rfl).lookup hk,h1.lookup hk,a1,b1,b2,hvs,a4,a3.os,a3.tape,a3.output,?_,b3.os.trans a3.os,b3.tape.trans a3.tape,b3.output.trans a3.output,?_,fun j hj hjr => ?_⟩
  · have:=a3.size; omega
  · have:=a3.size; have:=b3.size; omega
  · have e2:w2.heap[j]? = w.heap[j]?:=(a3.block j (by omega) fun e => by
      obtain ⟨i,f,_,hf,hb'⟩:=h.gblock e.symm
      exact hjr i f hf hb').trans (Lib.alloc_old w _ j hj)
    exact ⟨e2,fun hjB => (b3.block j (by have:=a3.size; omega) (fun e => by injection e with e; exact hjB e)).trans e2⟩
end Go.Proofs.Ytefpgfdemmllpaa
namespace Go.Proofs.Ytefpgfdemmllpaa
open Go.RowKit
set_option maxHeartbeats 1000000
set_option maxRecDepth 100000
def leavL:List Rl → Nat → GM → GM
  | [],_,m => m
  | r :: rs,i,m => leavL rs (i + 1) (mset eqI m r.1 (gget m r.1 ++ [(i:Int)]))
def leavE (rs:List Rl):GM:=leavL rs 0 []
theorem gget_set (m:GM) (a b:Int) (v:List Int):gget (mset eqI m a v) b = if b = a then v else gget m b:=by
  unfold gget
  induction m with
  | nil =>
    simp only [mset,mfind]
    by_cases h:b = a <;> simp [h,eqI]
  | cons p m ih =>
    by_cases h:a = p.1
    · simp only [mset,eqI,h,decide_true,cond_true,mfind]
      by_cases h2:b = p.1 <;> simp [h2]
    · simp only [mset,eqI,h,decide_false,cond_false,mfind]
      by_cases h2:b = p.1
      · subst h2
        have:¬ p.1 = a:=fun e => h e.symm
        simp [this]
      · simp only [h2,decide_false,cond_false]; exact ih
theorem step_append_run {P:Program} {ops:Array Oper} {o:Oper} {a:Act} {w w':World} {K:Act → World → Prop} {Q:Exit → Act → World → Prop} {E:Prop} (hg:o.guard = none) (s x:Operand) (t:TypeId)
    (hop:o.op = Op.call { callee:=Callee.builtin Builtin.append,args:=#[s,x],argTypes:=#[t,t] }) (vs vx v':Value) (hs:a.eval s = vs) (hx:a.eval x = vx)
    (hrun:(Builtin.append_ #[t,t] o.type #[vs,vx]).run P w = .ok v' w') (hK:K (a.put o.dst v') w'):if Region.wanted o (yielded ops a.tmps) = true then Oper.wp P o a w K Q else E:=by
  have hw:Region.wanted o (yielded ops a.tmps) = true:=by simp [Region.wanted,hg]
  rw [if_pos hw]
  unfold Oper.wp
  simp [execOp,hop,resolve,invoke,builtin,hs,hx,hrun,Result.andThen]
  exact hK
theorem below_alloc {N:Nat} {w w':World} (h:Below N w w') (hN:N ≤ w'.heap.size) (ob:Obj):Below N w (w'.alloc ob):=h.alloc hN ob
theorem cell_below {N:Nat} {w w':World} (h:Below N w w') {g o:Nat} (hg:g < N):w'.cell? ⟨g,o,none⟩ = w.cell? ⟨g,o,none⟩:=by
  simp only [World.cell?,h.block g hg]
theorem leaving_walk (n a:Int) (ad:Option Addr) (g o cap:Nat) (w:World) (rs:List Rl) (hlen:rs.length ≤ 64) (had:0 < rs.length → ad = some ⟨g,o,none⟩ ∧ g < w.heap.size)
    (hc:∀ (k:Nat) (r:Rl),rs[k]? = some r → w.cell? ⟨g,o + k * 5,none⟩ = some (.int .i64 r.1) ∧ w.cell? ⟨g,o + k * 5 + 1,none⟩ = some (.int .i64 r.2.1) ∧ w.cell? ⟨g,o + k * 5 + 2,none⟩ = some (.string ⟨r.2.2.1.toArray⟩) ∧ w.cell? ⟨g,o + k * 5 + 3,none⟩ = some (.string ⟨r.2.2.2.1.toArray⟩) ∧ w.cell? ⟨g,o + k * 5 + 4,none⟩ = some (.int .i64 r.2.2.2.2))
    (hr1:∀ r,r ∈ rs → IntKind.i64.min ≤ r.1 ∧ r.1 ≤ IntKind.i64.max)
    (hfit:∀ (w1:World) (r:Rl),r ∈ rs → Below w.heap.size w w1 → w.heap.size ≤ w1.heap.size → Calls Try.prog 55 #[.agg #[.int .i64 n,.int .u8 a,.slice ad rs.length cap],.agg #[.int .i64 r.1,.int .i64 r.2.1,.string ⟨r.2.2.1.toArray⟩,.string ⟨r.2.2.2.1.toArray⟩,.int .i64 r.2.2.2.2]] w1 fun e w' => e = .returned (.bool true) ∧ Below w1.heap.size w1 w') :
    Calls Try.prog 78 #[.agg #[.int .i64 n,.int .u8 a,.slice ad rs.length cap]] w fun e w' => ∃ ents clock,e = .returned (.map (some (w.heap.size + 1))) ∧ Grp (w.heap.size + 2) (w.heap.size + 1) w' (leavE rs) ents clock ∧ Below w.heap.size w w' ∧ w.heap.size + 2 ≤ w'.heap.size:=by
  have hmm:=@run_makeMap Try.prog
  generalize hN:w.heap.size = N at *
  generalize hL:rs.length = len at *
  go_enter Try.func78,Try.ntmps78
  go_wp2
  go_loopw [10] (fun i wr => ∃ (k:Nat) (m:GM) (ents:Array MapEntry) (clock:Nat),k ≤ len ∧ i = .int .i64 k ∧ wr.heap[N]? = some (.cells #[.int .i64 n,.int .u8 a,.slice ad len cap] 31 (0,0)) ∧ Grp (N + 2) (N + 1) wr m ents clock ∧ Below N w wr ∧ leavL (rs.drop k) k m = leavE rs ∧ (∀ b,(gget m b).length ≤ k)) (fun i _ => len - (intOf i).toNat)
  case atStart =>
    refine ⟨0,[],#[],0,Nat.zero_le _,rfl,?_,⟨?_,⟨rfl,fun i e h => by simp at h⟩,rfl,fun i y h => by simp at h,fun i j e f g _ h => by simp at h,by omega⟩,?_,rfl,fun b => Nat.le_refl _⟩
    · have:(w.alloc (.cells #[.int .i64 n,.int .u8 a,.slice ad len cap] 31)).heap[w.heap.size]? = _:=(MapKept.heap_alloc w _).1
      rw [← hN]
      refine (Lib.alloc_old _ _ _ ?_).trans this
      show w.heap.size < (w.heap.push _).size
      rw [Array.size_push]; omega
    · have e:(w.alloc (.cells #[.int .i64 n,.int .u8 a,.slice ad len cap] 31)).heap.size = N + 1:=by rw [← hN]; exact Array.size_push _
      have:=(MapKept.heap_alloc (w.alloc (.cells #[.int .i64 n,.int .u8 a,.slice ad len cap] 31)) (.map #[] 0)).1
      rw [e] at this
      exact this
    · rw [← hN]
      refine ((Below.refl _ _).alloc (Nat.le_refl _) _).alloc ?_ _
      show w.heap.size ≤ (w.heap.push _).size
      rw [Array.size_push]; omega
  case round =>
    obtain ⟨k,m,ents,clock,hk,rfl,hbox,hG,hB,hlv,hgl⟩:=hrel
    have hsz:N + 1 < wr.heap.size:=(Array.getElem?_eq_some_iff.1 hG.obj).1
    by_cases hlt:k < len
    · obtain ⟨r,hr⟩:∃ r,rs[k]? = some r:=⟨_,List.getElem?_eq_getElem (by omega)⟩
      have hrm:=List.mem_of_getElem? hr
      obtain ⟨rfl,hgN⟩:=had (by omega)
      obtain ⟨r1,r2,ri,ro,rc⟩:=r
      obtain ⟨c0,c1,c2,c3,c4⟩:=hc _ _ hr
      dsimp only at c0 c1 c2 c3 c4
      rw [← cell_below hB hgN] at c0 c1 c2 c3 c4
      have b0:wr.cell? ⟨N,0,none⟩ = some (.int .i64 n):=by rw [Lib.cell_of_heap hbox]; rfl
      have b1:wr.cell? ⟨N,1,none⟩ = some (.int .u8 a):=by rw [Lib.cell_of_heap hbox]; rfl
      have b2:wr.cell? ⟨N,2,none⟩ = some (.slice (some ⟨g,o,none⟩) len cap):=by rw [Lib.cell_of_heap hbox]; rfl
      have old:∀ ob j v,wr.cell? ⟨N,j,none⟩ = some v → (wr.alloc ob).cell? ⟨N,j,none⟩ = some v:=by
        intro ob j v h
        have:(wr.alloc ob).heap[N]? = wr.heap[N]?:=Lib.alloc_old wr ob _ (by omega)
        simp only [World.cell?,this] at h ⊢
        exact h
      have d0:=fun ob => old ob _ _ b0
      have d1:=fun ob => old ob _ _ b1
      have d2:=fun ob => old ob _ _ b2
      clear old
      go_wp2_with (go_at_call 55; refine (hfit _ _ hrm (below_alloc hB (by omega) _) (by show N ≤ (wr.heap.push _).size; rw [Array.size_push]; omega)).mono ?_)
      intro e w6 he6 hb6
      subst he6
      dsimp only
      have hsz6:wr.heap.size + 1 ≤ w6.heap.size:=by have:=hb6.size; rwa [show (wr.alloc (.cells #[.int .i64 r1,.int .i64 r2,.string ⟨ri.toArray⟩,.string ⟨ro.toArray⟩,.int .i64 rc] 65)).heap.size = wr.heap.size + 1 from Array.size_push _] at this
      have old6:∀ j,j < wr.heap.size → w6.heap[j]? = wr.heap[j]?:=fun j hj => (hb6.block j (by omega)).trans (Lib.alloc_old wr _ j hj)
      have hG6:Grp (N + 2) (N + 1) w6 m ents clock:=hG.keepAll old6
      have new6:w6.heap[wr.heap.size]? = some (.cells #[.int .i64 r1,.int .i64 r2,.string ⟨ri.toArray⟩,.string ⟨ro.toArray⟩,.int .i64 rc] 65 (0,0)):=(hb6.block _ (by omega)).trans (MapKept.heap_alloc wr _).1
      obtain ⟨v,v',w7,w8,ents',clock',p1,p2,p3,p4,p5,⟨va,vn,vc,rfl⟩,⟨va',vn',vc',rfl⟩,q1,q2,q3,q4,q5,q6,q7,q8,q9⟩:=hG6.put (k:=r1) (x:=(k:Int)) (by omega) (hr1 _ hrm) ⟨by show (-9223372036854775808:Int) ≤ _; omega,by show _ ≤ (9223372036854775807:Int); omega⟩ (by have:=hgl r1; omega)
      have hrow:∀ (i:Nat) (e:MapEntry),ents[i]? = some e → blockOf e.val ≠ some wr.heap.size:=fun i e he hb => by have:=(hG.row_lt he hb).2; omega
      have hrowN:∀ j,j < N + 2 → ∀ (i:Nat) (e:MapEntry),ents[i]? = some e → blockOf e.val ≠ some j:=fun j hj i e he hb => by have:=(hG.row_lt he hb).1; omega
      have e0:w6.cell? ⟨wr.heap.size,0,none⟩ = some (.int .i64 r1):=by rw [Lib.cell_of_heap new6]; rfl
      have e1:(w6.alloc (.cells #[.int .i64 k] 3)).drew.cell? ⟨wr.heap.size,0,none⟩ = some (.int .i64 r1):=by
        have:(w6.alloc (.cells #[.int .i64 k] 3)).drew.heap[wr.heap.size]? = _:=(Lib.alloc_old w6 _ _ (by omega)).trans new6
        rw [Lib.cell_of_heap this]; rfl
      have e2:w7.cell? ⟨wr.heap.size,0,none⟩ = some (.int .i64 r1):=by
        rw [Lib.cell_of_heap ((q9 wr.heap.size (by omega) hrow).1.trans new6)]; rfl
      have hb8:∀ j,j < N + 1 → w8.heap[j]? = wr.heap[j]?:=fun j hj => ((q9 j (by omega) (hrowN j (by omega))).2 (by omega)).trans (old6 j (by omega))
      have hB8:Below N w w8:=⟨q5.trans (hb6.os.trans hB.os),q6.trans (hb6.tape.trans hB.tape),q7.trans (hb6.output.trans hB.output),by have:=hB.size; omega,fun j hj => (hb8 j (by omega)).trans (hB.block j hj)⟩
      have hbox8:=(hb8 N (by omega)).trans hbox
      have hlv8:leavL (rs.drop (k + 1)) (k + 1) (mset eqI m r1 (gget m r1 ++ [(k:Int)])) = leavE rs:=by
        rw [drop_cons hr] at hlv; exact hlv
      have hgl8:∀ b,(gget (mset eqI m r1 (gget m r1 ++ [(k:Int)])) b).length ≤ k + 1:=fun b => by
        rw [gget_set]
        split
        · have:=hgl r1; simp only [List.length_append,List.length_cons,List.length_nil]; omega
        · have:=hgl b; omega
      clear q1 q2 q3 q4 q5 q6 q7 q8 q9 hb6 old6 hG6 hrow hrowN hG hgl hfit hlv new6 hb8 c0 c1 c2 c3 c4
      go_wp2
      go_region_law (refine step_append_run rfl (.tmp 24) (.tmp 26) 40 rfl _ _ _ rfl rfl p3 ?_)
      all_goals
        clear e0 e1 e2 p1 p2 p3 p4 b0 b1 b2 d0 d1 d2
        go_wp2
        go_roundw
        case rel => exact ⟨k + 1,_,ents',clock',by omega,by go_num,hbox8,p5,hB8,hlv8,hgl8⟩
        case measure => simp [intOf]; omega
    · obtain rfl:k = len:=by omega
      go_wp2
      go_ret
      rw [List.drop_of_length_le (by omega)] at hlv
      obtain rfl:m = leavE rs:=hlv
      exact ⟨ents,clock,rfl,hG,hB,by omega⟩
theorem mset_len (m:GM) (k:Int) (v:List Int):(mset eqI m k v).length ≤ m.length + 1:=by
  rw [mset_pos]
  split <;> simp
theorem leavL_len:∀ (rs:List Rl) (i:Nat) (m:GM),(leavL rs i m).length ≤ m.length + rs.length
  | [],_,m => Nat.le_refl _
  | r :: rs,i,m => by
    have h:=leavL_len rs (i + 1) (mset eqI m r.1 (gget m r.1 ++ [(i:Int)]))
    have h2:=mset_len m r.1 (gget m r.1 ++ [(i:Int)])
    show (leavL rs (i + 1) (mset eqI m r.1 (gget m r.1 ++ [(i:Int)]))).length ≤ _
    simp only [List.length_cons]
    omega
theorem right_fits {n:Int} {r:Rl} (hn:n ≤ 8) (h:rightR n r = true):fitsB n r = true:=by
  have:=right_nums h
  simp only [fitsB,modeB,inB,Bool.and_eq_true,decide_eq_true_eq]
  omega
theorem rule_rep {r:Rl} {w:World} {M:Mem} (h:(IntKind.i64.min ≤ r.1 ∧ r.1 ≤ IntKind.i64.max) ∧ (IntKind.i64.min ≤ r.2.1 ∧ r.2.1 ≤ IntKind.i64.max) ∧ r.2.2.1.length ≤ 9223372036854775807 ∧ r.2.2.2.1.length ≤ 9223372036854775807 ∧ (IntKind.i64.min ≤ r.2.2.2.2 ∧ r.2.2.2.2 ≤ IntKind.i64.max)) :
    RepV RuleT r w M (.agg #[.int .i64 r.1,.int .i64 r.2.1,.string ⟨r.2.2.1.toArray⟩,.string ⟨r.2.2.2.1.toArray⟩,.int .i64 r.2.2.2.2]) :=
  ⟨[.int .i64 r.1,.int .i64 r.2.1,.string ⟨r.2.2.1.toArray⟩,.string ⟨r.2.2.2.1.toArray⟩,.int .i64 r.2.2.2.2],rfl,[.int .i64 r.1],_,rfl,⟨rfl,h.1⟩,[.int .i64 r.2.1],_,rfl,⟨rfl,h.2.1⟩,[.string ⟨r.2.2.1.toArray⟩],_,rfl,⟨rfl,h.2.2.1⟩,[.string ⟨r.2.2.2.1.toArray⟩],_,rfl,⟨rfl,h.2.2.2.1⟩,rfl,h.2.2.2.2⟩
theorem c_leaving (s:Sch) (hs:OkS s):PC env 78 [⟨SchemeT,s⟩] (.mp (.int .i64) (.sl (.int .i64))) (leavE s.2.2):=by
  obtain ⟨n,a,rs⟩:=s
  have hl:=hs.len
  have hr:=hs.right
  have h8:=hs.n8
  dsimp only at hl hr h8
  intro w S vs hS hT hrep
  obtain ⟨v,r,rfl,hown,hv,hnil⟩:=hrep
  simp only [RepAs] at hnil
  subst hnil
  have hv0:=hv
  obtain ⟨cs,rfl,c1,c23,rfl,⟨rfl,hn⟩,c2,c3,rfl,⟨rfl,ha⟩,ad,cap,rfl,hlc,hcap,hrows⟩:=hv
  dsimp only at hn ha hlc hrows
  have hnum:∀ r,r ∈ rs → (IntKind.i64.min ≤ r.1 ∧ r.1 ≤ IntKind.i64.max) ∧ (IntKind.i64.min ≤ r.2.1 ∧ r.2.1 ≤ IntKind.i64.max) ∧ r.2.2.1.length ≤ 9223372036854775807 ∧ r.2.2.2.1.length ≤ 9223372036854775807 ∧ (IntKind.i64.min ≤ r.2.2.2.2 ∧ r.2.2.2.2 ≤ IntKind.i64.max):=fun r hrm => by
    have:=right_nums (hr r hrm)
    exact ⟨i64_ok (by omega) (by omega),i64_ok (by omega) (by omega),by omega,by omega,i64_ok (by omega) (by omega)⟩
  have hfit:∀ (w1:World) (r:Rl),r ∈ rs → Below w.heap.size w w1 → w.heap.size ≤ w1.heap.size → Calls Try.prog 55 #[.agg #[.int .i64 n,.int .u8 a,.slice ad rs.length cap],.agg #[.int .i64 r.1,.int .i64 r.2.1,.string ⟨r.2.2.1.toArray⟩,.string ⟨r.2.2.2.1.toArray⟩,.int .i64 r.2.2.2.2]] w1 fun e w' => e = .returned (.bool true) ∧ Below w1.heap.size w1 w':=by
    intro w1 r hrm hb hsz
    have hc:=c_fits (n,a,rs) r
    rw [right_fits h8 (hr r hrm)] at hc
    refine (hc w1 S [.agg #[.int .i64 n,.int .u8 a,.slice ad rs.length cap],.agg #[.int .i64 r.1,.int .i64 r.2.1,.string ⟨r.2.2.1.toArray⟩,.string ⟨r.2.2.2.1.toArray⟩,.int .i64 r.2.2.2.2]] (fun b hb' => Nat.lt_of_lt_of_le (hS b hb') hsz) (fun g hg => by cases hg) ⟨_,_,rfl,hown,RepV_mono (M:=⟨S,fun g => w.heap.size ≤ g⟩) (fun b hb' => hb.block b (hS b hb')) (fun _ h => h) hown hv0,_,_,rfl,rfl,rule_rep (hnum r hrm),rfl⟩).mono ?_
    rintro e w' ⟨v,rfl,⟨hb',_⟩,S',_,_,_,hv'⟩
    have:v = .bool true:=by obtain ⟨hv'⟩:=hv'; rfl
    exact ⟨by rw [this],hb'⟩
  have hgo:∃ g o,(0 < rs.length → ad = some ⟨g,o,none⟩ ∧ g < w.heap.size) ∧ ∀ (k:Nat) (r:Rl),rs[k]? = some r → w.cell? ⟨g,o + k * 5,none⟩ = some (.int .i64 r.1) ∧ w.cell? ⟨g,o + k * 5 + 1,none⟩ = some (.int .i64 r.2.1) ∧ w.cell? ⟨g,o + k * 5 + 2,none⟩ = some (.string ⟨r.2.2.1.toArray⟩) ∧ w.cell? ⟨g,o + k * 5 + 3,none⟩ = some (.string ⟨r.2.2.2.1.toArray⟩) ∧ w.cell? ⟨g,o + k * 5 + 4,none⟩ = some (.int .i64 r.2.2.2.2):=by
    rcases hrows with h | ⟨g,o,hA,hSg,hrows⟩
    · exact ⟨0,0,fun h' => (by rw [h] at h'; simp at h'),fun k r hk => (by rw [h] at hk; simp at hk)⟩
    · refine ⟨g,o,fun _ => ⟨hA,hS g hSg⟩,fun k r hk => ?_⟩
      obtain ⟨cs,h1,h2,h3⟩:=hrows k r hk
      obtain ⟨x1,y1,rfl,⟨rfl,_⟩,x2,y2,rfl,⟨rfl,_⟩,x3,y3,rfl,⟨rfl,_⟩,x4,y4,rfl,⟨rfl,_⟩,rfl,_⟩:=h3
      exact ⟨h2 0 _ rfl,h2 1 _ rfl,h2 2 _ rfl,h2 3 _ rfl,h2 4 _ rfl⟩
  obtain ⟨g,o,hg1,hg2⟩:=hgo
  refine (leaving_walk n a ad g o cap w rs hl hg1 hg2 (fun r hrm => (hnum r hrm).1) hfit).mono ?_
  rintro e w' ⟨ents,clock,rfl,hG,hB,hsz⟩
  have hll:=leavL_len rs 0 []
  refine ⟨_,rfl,⟨hB,fun h => h.elim⟩,fun b => S b ∨ (w.heap.size ≤ b ∧ b < w'.heap.size),fun b hb => .inl hb,fun b hb => ?_,fun b hb => ?_,?_⟩
  · rcases hb with hb | hb
    · exact .inl hb
    · exact .inr hb.1
  · rcases hb with hb | hb
    · exact Nat.lt_of_lt_of_le (hS b hb) hB.size
    · exact hb.2
  · refine ⟨by show (leavE rs).length ≤ _; unfold leavE; simp only [List.length_nil] at hll; omega,.inr ⟨w.heap.size + 1,ents,clock,rfl,.inr ⟨by omega,by omega⟩,hG.obj,hG.bir,hG.size,fun i y hy => ?_⟩⟩
    obtain ⟨e,e1,e2,e3,e4⟩:=hG.row i y hy
    exact ⟨e,[.int .i64 y.1],[e.val],e1,e2,⟨rfl,e3⟩,rfl,e4.data fun g hg => by
      have:=e4.block hg
      exact .inr ⟨by omega,this.2⟩⟩
end Go.Proofs.Ytefpgfdemmllpaa
namespace Go.Proofs.Ytefpgfdemmllpaa
def on (L:List Bool) (m:Nat):Prop:=L[m]? = some true
def stepC (L:List Bool) (e:Nat × Nat):List Bool:=if L[e.1]? = some true then L.set e.2 true else L
def passC (E:List (Nat × Nat)) (L:List Bool):List Bool:=E.foldl stepC L
def closC (E:List (Nat × Nat)):Nat → List Bool → List Bool
  | 0,L => L | k + 1,L => closC E k (passC E L)
inductive Cl (E:List (Nat × Nat)) (L0:List Bool):Nat → Prop where
  | base (m:Nat):on L0 m → Cl E L0 m
  | step (a b:Nat):Cl E L0 a → (a,b) ∈ E → Cl E L0 b
def closedC (E:List (Nat × Nat)) (L:List Bool):Prop:=∀ e,e ∈ E → on L e.1 → on L e.2
def cf (L:List Bool):Nat:=L.countP (fun b => !b)
theorem on_lt {L:List Bool} {m:Nat} (h:on L m):m < L.length:=(List.getElem?_eq_some_iff.1 h).1
theorem on_set {L:List Bool} {a m:Nat} (h:on L m):on (L.set a true) m:=by
  unfold on at *
  rw [List.getElem?_set]
  split
  · rw [if_pos (by rename_i e; subst e; exact on_lt h)]
  · exact h
theorem on_set_self {L:List Bool} {a:Nat} (h:a < L.length):on (L.set a true) a:=by
  unfold on; rw [List.getElem?_set]; simp [h]
theorem on_set_cases {L:List Bool} {a m:Nat} (h:on (L.set a true) m):m = a ∨ on L m:=by
  unfold on at *
  rw [List.getElem?_set] at h
  split at h
  · rename_i e; exact .inl e.symm
  · exact .inr h
theorem cf_set:∀ {L:List Bool} {a:Nat},L[a]? = some false → cf (L.set a true) + 1 = cf L
  | [],a,h => by simp at h
  | x :: L,0,h => by simp at h; subst h; simp [cf]
  | x :: L,a + 1,h => by
    have:=cf_set (L:=L) (a:=a) (by simpa using h)
    simp only [cf,List.set_cons_succ,List.countP_cons] at this ⊢
    omega
theorem cf_set_le (L:List Bool) (a:Nat):cf (L.set a true) ≤ cf L:=by
  cases h:L[a]? with
  | none => rw [List.set_eq_of_length_le (by rw [List.getElem?_eq_none_iff] at h; exact h)]; exact Nat.le_refl _
  | some b =>
    cases b with
    | false => have:=cf_set h; omega
    | true =>
      have:L.set a true = L:=by
        apply List.ext_getElem?
        intro i
        rw [List.getElem?_set]
        split
        · rename_i e; subst e; rw [h,if_pos (List.getElem?_eq_some_iff.1 h).1]
        · rfl
      rw [this]; exact Nat.le_refl _
theorem set_on {L:List Bool} {a:Nat} (h:on L a):L.set a true = L:=by
  apply List.ext_getElem?
  intro i
  rw [List.getElem?_set]
  split
  · rename_i e; subst e; rw [show L[a]? = some true from h,if_pos (on_lt h)]
  · rfl
theorem off_cases {L:List Bool} {a:Nat} (h:a < L.length):on L a ∨ L[a]? = some false:=by
  unfold on
  rw [List.getElem?_eq_getElem h]
  cases L[a] <;> simp
theorem stepC_len (L:List Bool) (e:Nat × Nat):(stepC L e).length = L.length:=by unfold stepC; split <;> simp
theorem passC_len:∀ (E:List (Nat × Nat)) (L:List Bool),(passC E L).length = L.length
  | [],L => rfl
  | e :: E,L => (passC_len E (stepC L e)).trans (stepC_len L e)
theorem closC_len (E:List (Nat × Nat)):∀ (k:Nat) (L:List Bool),(closC E k L).length = L.length
  | 0,L => rfl
  | k + 1,L => (closC_len E k _).trans (passC_len E L)
theorem stepC_on {L:List Bool} {e:Nat × Nat} {m:Nat} (h:on L m):on (stepC L e) m:=by
  unfold stepC; split
  · exact on_set h
  · exact h
theorem passC_on:∀ {E:List (Nat × Nat)} {L:List Bool} {m:Nat},on L m → on (passC E L) m
  | [],L,m,h => h
  | e :: E,L,m,h => passC_on (E:=E) (stepC_on h)
theorem closC_on {E:List (Nat × Nat)}:∀ {k:Nat} {L:List Bool} {m:Nat},on L m → on (closC E k L) m
  | 0,L,m,h => h
  | k + 1,L,m,h => closC_on (k:=k) (passC_on h)
def soundC (E:List (Nat × Nat)) (L0 L:List Bool):Prop:=∀ m,on L m → Cl E L0 m
theorem stepC_sound {E:List (Nat × Nat)} {L0 L:List Bool} {e:Nat × Nat} (he:e ∈ E) (h:soundC E L0 L):soundC E L0 (stepC L e):=by
  intro m hm
  unfold stepC at hm
  split at hm
  · rename_i h1
    rcases on_set_cases hm with rfl | hm
    · exact .step _ _ (h _ h1) he
    · exact h m hm
  · exact h m hm
theorem passC_sound {E0:List (Nat × Nat)} {L0:List Bool}:∀ {E:List (Nat × Nat)} {L:List Bool},(∀ e,e ∈ E → e ∈ E0) → soundC E0 L0 L → soundC E0 L0 (passC E L)
  | [],L,_,h => h
  | e :: E,L,hs,h => passC_sound (E:=E) (fun e' he => hs e' (by simp [he])) (stepC_sound (hs e (by simp)) h)
theorem closC_sound {E:List (Nat × Nat)} {L0:List Bool}:∀ {k:Nat} {L:List Bool},soundC E L0 L → soundC E L0 (closC E k L)
  | 0,L,h => h
  | k + 1,L,h => closC_sound (k:=k) (passC_sound (fun _ h => h) h)
theorem stepC_cf (L:List Bool) (e:Nat × Nat):cf (stepC L e) ≤ cf L:=by
  unfold stepC; split
  · exact cf_set_le L _
  · exact Nat.le_refl _
theorem passC_cf:∀ (E:List (Nat × Nat)) (L:List Bool),cf (passC E L) ≤ cf L
  | [],L => Nat.le_refl _
  | e :: E,L => Nat.le_trans (passC_cf E (stepC L e)) (stepC_cf L e)
theorem stepC_same {L:List Bool} {e:Nat × Nat} (hl:e.2 < L.length) (h:cf L ≤ cf (stepC L e)):stepC L e = L ∧ (on L e.1 → on L e.2):=by
  unfold stepC at *
  by_cases h1:L[e.1]? = some true
  · rw [if_pos h1] at h ⊢
    rcases off_cases hl with h2 | h2
    · exact ⟨set_on h2,fun _ => h2⟩
    · have:=cf_set h2; omega
  · rw [if_neg h1]; exact ⟨rfl,fun h' => absurd h' h1⟩
theorem passC_same:∀ {E:List (Nat × Nat)} {L:List Bool},(∀ e,e ∈ E → e.2 < L.length) → cf L ≤ cf (passC E L) → passC E L = L ∧ closedC E L
  | [],L,_,_ => ⟨rfl,fun _ h => by cases h⟩
  | e :: E,L,hl,h => by
    have h1:cf (passC E (stepC L e)) ≤ cf (stepC L e):=passC_cf E _
    have h2:=stepC_cf L e
    have h3:cf L ≤ cf (passC E (stepC L e)):=h
    obtain ⟨h4,h5⟩:=stepC_same (hl e (by simp)) (by omega)
    have h6:passC (e :: E) L = passC E L:=by show passC E (stepC L e) = _; rw [h4]
    rw [h4] at h3
    obtain ⟨h7,h8⟩:=passC_same (E:=E) (L:=L) (fun e' he => hl e' (by simp [he])) h3
    refine ⟨h6.trans h7,fun e' he => ?_⟩
    rcases List.mem_cons.1 he with rfl | he
    · exact h5
    · exact h8 e' he
theorem closed_pass:∀ {E:List (Nat × Nat)} {L:List Bool},closedC E L → passC E L = L
  | [],L,_ => rfl
  | e :: E,L,h => by
    have h1:stepC L e = L:=by
      unfold stepC; split
      · rename_i h1; exact set_on (h e (by simp) h1)
      · rfl
    show passC E (stepC L e) = L
    rw [h1]
    exact closed_pass fun e' he => h e' (by simp [he])
theorem closed_clos {E:List (Nat × Nat)}:∀ {k:Nat} {L:List Bool},closedC E L → closC E k L = L
  | 0,L,_ => rfl
  | k + 1,L,h => by show closC E k (passC E L) = L; rw [closed_pass h]; exact closed_clos h
theorem cf_zero:∀ {L:List Bool} {m:Nat},cf L = 0 → m < L.length → on L m
  | x :: L,m,h,hm => by
    cases x with
    | false => simp [cf] at h
    | true =>
      cases m with
      | zero => rfl
      | succ m => exact cf_zero (L:=L) (m:=m) (by simpa [cf] using h) (by simpa using hm)
theorem clos_closed {E:List (Nat × Nat)}:∀ {k:Nat} {L:List Bool},(∀ e,e ∈ E → e.2 < L.length) → cf L ≤ k → closedC E (closC E k L)
  | 0,L,hl,h => fun e he _ => (cf_zero (L:=L) (by omega) (hl e he):on L e.2)
  | k + 1,L,hl,h => by
    by_cases h1:cf L ≤ cf (passC E L)
    · obtain ⟨h2,h3⟩:=passC_same hl h1
      have:closC E (k + 1) L = L:=closed_clos h3
      rw [this]; exact h3
    · exact clos_closed (k:=k) (L:=passC E L) (fun e he => by rw [passC_len]; exact hl e he) (by omega)
theorem cf_le (L:List Bool):cf L ≤ L.length:=List.countP_le_length
theorem closed_all {E:List (Nat × Nat)} {L0 L:List Bool} (h:closedC E L) (h0:∀ m,on L0 m → on L m) {m:Nat} (hm:Cl E L0 m):on L m:=by
  induction hm with
  | base m hb => exact h0 m hb
  | step a b _ he ih => exact h _ he ih
theorem clos_iff {E:List (Nat × Nat)} {L:List Bool} {k:Nat} (hl:∀ e,e ∈ E → e.2 < L.length) (hk:L.length ≤ k) (m:Nat):on (closC E k L) m ↔ Cl E L m :=
  ⟨fun h => closC_sound (fun m hm => .base m hm) m h,fun h => closed_all (clos_closed hl (Nat.le_trans (cf_le L) hk)) (fun _ h => closC_on h) h⟩
theorem bools_ext {L L':List Bool} (hl:L.length = L'.length) (h:∀ m,on L m ↔ on L' m):L = L':=by
  apply List.ext_getElem hl
  intro i h1 h2
  have:=h i
  unfold on at this
  rw [List.getElem?_eq_getElem h1,List.getElem?_eq_getElem h2] at this
  cases hx:L[i] <;> cases hy:L'[i] <;> simp_all
theorem clos_uniq {E:List (Nat × Nat)} {L0 L:List Bool} {k:Nat} (hl:∀ e,e ∈ E → e.2 < L0.length) (hk:L0.length ≤ k) (hlen:L.length = L0.length) (h1:soundC E L0 L) (h2:closedC E L) (h3:∀ m,on L0 m → on L m):L = closC E k L0 :=
  bools_ext (by rw [hlen,closC_len]) fun m => ⟨fun h => (clos_iff hl hk m).2 (h1 m h),fun h => closed_all h2 h3 ((clos_iff hl hk m).1 h)⟩

/-! Walking in depth. -/
def dfsC (G:Nat → List Nat):Nat → List Bool → Nat → List Bool
  | 0,L,_ => L
  | f + 1,L,m => if L[m]? = some true then L else (G m).foldl (fun L k => dfsC G f L k) (L.set m true)
structure DfsOK (G:Nat → List Nat) (L L':List Bool):Prop where
  len:L'.length = L.length
  mono:∀ m,on L m → on L' m
  cf:cf L' ≤ cf L
  new:∀ a,on L' a → on L a ∨ ∀ b,b ∈ G a → on L' b
theorem DfsOK.refl (G:Nat → List Nat) (L:List Bool):DfsOK G L L:=⟨rfl,fun _ h => h,Nat.le_refl _,fun _ h => .inl h⟩
theorem DfsOK.trans {G:Nat → List Nat} {L M N:List Bool} (h:DfsOK G L M) (h':DfsOK G M N):DfsOK G L N :=
  ⟨h'.len.trans h.len,fun m hm => h'.mono m (h.mono m hm),Nat.le_trans h'.cf h.cf,fun a ha => by
    rcases h'.new a ha with h1 | h1
    · rcases h.new a h1 with h2 | h2
      · exact .inl h2
      · exact .inr fun b hb => h'.mono b (h2 b hb)
    · exact .inr h1⟩
theorem dfs_ok {G:Nat → List Nat} {n:Nat} (hG:∀ a b,b ∈ G a → b < n):∀ (f:Nat) (L:List Bool) (m:Nat),L.length = n → m < n → cf L < f → DfsOK G L (dfsC G f L m) ∧ on (dfsC G f L m) m
  | 0,L,m,_,_,h => by omega
  | f + 1,L,m,hL,hm,h => by
    unfold dfsC
    by_cases h1:L[m]? = some true
    · rw [if_pos h1]; exact ⟨DfsOK.refl G L,h1⟩
    · rw [if_neg h1]
      have hoff:L[m]? = some false:=by
        rcases off_cases (L:=L) (a:=m) (by omega) with h2 | h2
        · exact absurd h2 h1
        · exact h2
      have hcf:=cf_set hoff
      have fold:∀ (l:List Nat) (M:List Bool),(∀ b,b ∈ l → b < n) → M.length = n → cf M < f → DfsOK G M (l.foldl (fun L k => dfsC G f L k) M) ∧ ∀ b,b ∈ l → on (l.foldl (fun L k => dfsC G f L k) M) b:=by
        intro l
        induction l with
        | nil => intro M _ _ _; exact ⟨DfsOK.refl G M,fun b hb => by cases hb⟩
        | cons k l ih =>
          intro M hl hM hc
          obtain ⟨i1,i2⟩:=dfs_ok hG f M k hM (hl k (by simp)) hc
          obtain ⟨j1,j2⟩:=ih (dfsC G f M k) (fun b hb => hl b (by simp [hb])) (i1.len.trans hM) (Nat.lt_of_le_of_lt i1.cf hc)
          simp only [List.foldl_cons]
          refine ⟨i1.trans j1,fun b hb => ?_⟩
          rcases List.mem_cons.1 hb with rfl | hb
          · exact j1.mono _ i2
          · exact j2 b hb
      obtain ⟨j1,j2⟩:=fold (G m) (L.set m true) (fun b hb => hG m b hb) (by simpa using hL) (by omega)
      have hself:on (L.set m true) m:=on_set_self (by omega)
      refine ⟨⟨by rw [j1.len]; simp,fun a ha => j1.mono a (on_set ha),by have:=j1.cf; omega,fun a ha => ?_⟩,j1.mono m hself⟩
      rcases j1.new a ha with h2 | h2
      · rcases on_set_cases h2 with rfl | h2
        · exact .inr fun b hb => j2 b hb
        · exact .inl h2
      · exact .inr h2
theorem dfs_sound {G:Nat → List Nat} {E:List (Nat × Nat)} {L0:List Bool} (hG:∀ a b,b ∈ G a → (a,b) ∈ E):∀ (f:Nat) (L:List Bool) (m:Nat),soundC E L0 L → Cl E L0 m → soundC E L0 (dfsC G f L m)
  | 0,L,m,h,_ => h
  | f + 1,L,m,h,hm => by
    unfold dfsC
    by_cases h1:L[m]? = some true
    · rw [if_pos h1]; exact h
    · rw [if_neg h1]
      have fold:∀ (l:List Nat) (M:List Bool),(∀ b,b ∈ l → Cl E L0 b) → soundC E L0 M → soundC E L0 (l.foldl (fun L k => dfsC G f L k) M):=by
        intro l
        induction l with
        | nil => intro M _ h; exact h
        | cons k l ih =>
          intro M hl hM
          exact ih _ (fun b hb => hl b (by simp [hb])) (dfs_sound hG f M k hM (hl k (by simp)))
      refine fold (G m) _ (fun b hb => .step _ _ hm (hG m b hb)) fun a ha => ?_
      rcases on_set_cases ha with rfl | ha
      · exact hm
      · exact h a ha
theorem dfsC_len (G:Nat → List Nat):∀ (f:Nat) (L:List Bool) (m:Nat),(dfsC G f L m).length = L.length
  | 0,L,m => rfl
  | f + 1,L,m => by
    unfold dfsC
    split
    · rfl
    · have fold:∀ (l:List Nat) (M:List Bool),(l.foldl (fun L k => dfsC G f L k) M).length = M.length:=by
        intro l
        induction l with
        | nil => intro M; rfl
        | cons k l ih => intro M; rw [List.foldl_cons,ih,dfsC_len G f]
      rw [fold]; simp
end Go.Proofs.Ytefpgfdemmllpaa
namespace Go.Proofs.Ytefpgfdemmllpaa
set_option maxHeartbeats 4000000
set_option maxRecDepth 100000
def two:Sch:=(2,1,[(0,1,[99],[],1),(1,0,[97],[65],1),(0,0,[98],[98],2)])
def edgesR (rs:List Rl):List (Nat × Nat):=rs.map fun r => (r.1.toNat,r.2.1.toNat)
def edgesL (rs:List Rl):List (Nat × Nat):=rs.map fun r => (r.2.1.toNat,r.1.toNat)
def startR (n:Nat):List Bool:=(List.replicate n false).set 0 true
def startL (a:Int) (n:Nat):List Bool:=(List.range n).map fun (m:Nat) => accB a (m:Int)
def reachedE (s:Sch):List Bool:=closC (edgesR s.2.2) s.1.toNat (startR s.1.toNat)
def liveE (s:Sch):List Bool:=closC (edgesL s.2.2) s.1.toNat (startL s.2.1 s.1.toNat)
theorem startL_len (a:Int) (n:Nat):(startL a n).length = n:=by unfold startL; simp
theorem startL_at {a:Int} {n i:Nat} (h:i < n):(startL a n)[i]? = some (accB a (i:Int)):=by
  unfold startL; rw [List.getElem?_map,List.getElem?_range h]; rfl
theorem set_next {α:Type} {l m:List α} {i:Nat} {x:α} (h:l.take i = m.take i) (hi:i < l.length) (hm:m[i]? = some x):(l.set i x).take (i + 1) = m.take (i + 1):=by
  rw [take_snoc hm,List.take_add_one,List.take_set_of_le (Nat.le_refl _),h]
  simp [List.getElem?_set,hi]
end Go.Proofs.Ytefpgfdemmllpaa
namespace Go.Proofs.Ytefpgfdemmllpaa
attribute [local go_sem] Int.reduceEq not_true_eq_false not_false_eq_true false_implies
set_option maxHeartbeats 4000000
set_option maxRecDepth 100000
def nexts (m:Int):List Rl → Nat → List Int
  | [],_ => []
  | r :: rs,i => if r.1 = m then (i:Int) :: nexts m rs (i + 1) else nexts m rs (i + 1)
theorem nexts_mem {m:Int}:∀ {rs:List Rl} {i:Nat} {k:Int},k ∈ nexts m rs i ↔ ∃ (j:Nat) (r:Rl),rs[j]? = some r ∧ r.1 = m ∧ k = ((i + j:Nat):Int)
  | [],i,k => ⟨fun h => (by cases h),fun ⟨j,r,h,_⟩ => (by simp at h)⟩
  | x :: rs,i,k => by
    have ih:=nexts_mem (m:=m) (rs:=rs) (i:=i + 1) (k:=k)
    have step:(∃ (j:Nat) (r:Rl),rs[j]? = some r ∧ r.1 = m ∧ k = ((i + 1 + j:Nat):Int)) → ∃ (j:Nat) (r:Rl),(x :: rs)[j]? = some r ∧ r.1 = m ∧ k = ((i + j:Nat):Int) :=
      fun ⟨j,r,h1,h2,h3⟩ => ⟨j + 1,r,by simpa using h1,h2,by rw [h3]; congr 1; omega⟩
    have step':(∃ (j:Nat) (r:Rl),(x :: rs)[j]? = some r ∧ r.1 = m ∧ k = ((i + j:Nat):Int)) → (x.1 = m ∧ k = (i:Int)) ∨ ∃ (j:Nat) (r:Rl),rs[j]? = some r ∧ r.1 = m ∧ k = ((i + 1 + j:Nat):Int):=by
      rintro ⟨j,r,h1,h2,h3⟩
      cases j with
      | zero => simp at h1; subst h1; exact .inl ⟨h2,by rw [h3]; congr 1⟩
      | succ j => exact .inr ⟨j,r,by simpa using h1,h2,by rw [h3]; congr 1; omega⟩
    unfold nexts
    split
    · rename_i hx
      rw [List.mem_cons,ih]
      constructor
      · rintro (h | h)
        · exact ⟨0,x,rfl,hx,by rw [h]; congr 1⟩
        · exact step h
      · intro h
        rcases step' h with h | h
        · exact .inl h.2
        · exact .inr h
    · rename_i hx
      rw [ih]
      constructor
      · exact step
      · intro h
        rcases step' h with h | h
        · exact absurd h.1 hx
        · exact h
theorem nexts_len (m:Int):∀ (rs:List Rl) (i:Nat),(nexts m rs i).length ≤ rs.length
  | [],i => Nat.le_refl _
  | x :: rs,i => by
    have:=nexts_len m rs (i + 1)
    unfold nexts
    split <;> simp only [List.length_cons] <;> omega
end Go.Proofs.Ytefpgfdemmllpaa
