/-
  The operations one by one,continued: parts of slices and strings,new arrays,closures. Nothing here is trusted; no condition.
-/
import Derived.Test.YtefpgfdemmllpaaA1
import Derived.Deep.AppendSrc
import Derived.Laws.MakeOwn
import Derived.Laws.StructEq
set_option linter.unusedSimpArgs false
set_option linter.unusedVariables false
namespace Go.Proofs.Ytefpgfdemmllpaa
open Go.RowKit

structure Ctx.LeBut (ks:List Nat) (c c':Ctx):Prop where
  heap:∀ b,c.M.S b → c'.w.heap[b]? = c.w.heap[b]?
  S:∀ b,c.M.S b → c'.M.S b
  D:∀ i,c.D i → mem1 i ks = false → c'.D i
  ν:∀ i,c.D i → mem1 i ks = false → c'.ν i = c.ν i

def NoBox (c:Ctx) (ks:List Nat):Prop:=∀ i,mem1 i ks = true → c.D i → ∃ a n m,c.ν i = .slice a n m

mutual
theorem PRel_kill {ks:List Nat} {c c':Ctx} (hc:c.LeBut ks c') (hb:NoBox c ks):∀ {p:PV} {v:Value},PRel c p v → PRel c' (p.kill ks) v
  | .iv T x,v,h => by simp only [PV.kill,PRel] at h ⊢; exact ⟨h.1,RepR_mono hc.heap hc.S h.1 h.2⟩
  | .ref i off,v,h => by
    simp only [PV.kill,PRel] at h ⊢
    obtain ⟨hd,g,h1,h2⟩:=h
    have hne:mem1 i ks = false:=by
      cases hm:mem1 i ks with
      | false => rfl
      | true => obtain ⟨a,n,m,e⟩:=hb i hm hd; rw [h1] at e; cases e
    exact ⟨hc.D _ hd hne,g,by rw [hc.ν _ hd hne]; exact h1,h2⟩
  | .lmap i,v,h => by
    simp only [PV.kill,PRel] at h ⊢
    obtain ⟨hd,h1,r,h2⟩:=h
    have hne:mem1 i ks = false:=by
      cases hm:mem1 i ks with
      | false => rfl
      | true => obtain ⟨a,n,m,e⟩:=hb i hm hd; rw [h1,e] at h2; cases h2
    exact ⟨hc.D _ hd hne,by rw [hc.ν _ hd hne]; exact h1,r,h2⟩
  | .eptr T x off,v,h => by
    simp only [PV.kill,PRel] at h ⊢
    obtain ⟨ho,g,o,cs,h1,h2,h3,h4,h5⟩:=h
    exact ⟨ho,g,o,cs,h1,hc.S _ h2,h3,h4.mono (hc.heap _ h2),RepC_mono hc.heap hc.S _ _ _ ho h5⟩
  | .lfull i,v,h => by
    simp only [PV.kill]
    cases hi:mem1 i ks
    · simp only [cond_false,PRel] at h ⊢
      exact ⟨hc.D _ h.1 hi,by rw [hc.ν _ h.1 hi]; exact h.2.1,h.2.2⟩
    · simp only [cond_true,PRel]
  | .lsl i sz off len,v,h => by
    simp only [PV.kill]
    cases hi:mem1 i ks
    · simp only [cond_false,PRel] at h ⊢
      obtain ⟨hd,a,n,cap,b,h1,h2⟩:=h
      exact ⟨hc.D _ hd hi,a,n,cap,b,by rw [hc.ν _ hd hi]; exact h1,h2⟩
    · simp only [cond_true,PRel]
  | .lptr i sz j off,v,h => by
    simp only [PV.kill]
    cases hi:mem1 i ks
    · simp only [cond_false,PRel] at h ⊢
      obtain ⟨hd,g,o,n,cap,h1,h2⟩:=h
      exact ⟨hc.D _ hd hi,g,o,n,cap,by rw [hc.ν _ hd hi]; exact h1,h2⟩
    · simp only [cond_true,PRel]
  | .agg cs,v,h => by simp only [PV.kill,PRel] at h ⊢; obtain ⟨vs,h1,h0,h2⟩:=h; exact ⟨vs,h1,h0,PRels_kill hc hb h2⟩
  | .tup cs,v,h => by simp only [PV.kill,PRel] at h ⊢; obtain ⟨vs,h1,h2⟩:=h; exact ⟨vs,h1,PRels_kill hc hb h2⟩
  | .nilsl,v,h => by simp only [PV.kill,PRel] at h ⊢; exact h
  | .nilptr,v,h => by simp only [PV.kill,PRel] at h ⊢; exact h
  | .aptr i base T n j,v,h => by
    simp only [PV.kill,PRel] at h ⊢
    obtain ⟨hd,h0,hn,g,h1,h2⟩:=h
    have hne:mem1 i ks = false:=by
      cases hm:mem1 i ks with
      | false => rfl
      | true => obtain ⟨a,n,m,e⟩:=hb i hm hd; rw [h1] at e; cases e
    exact ⟨hc.D _ hd hne,h0,hn,g,by rw [hc.ν _ hd hne]; exact h1,h2⟩
  | .bnd f cs,v,h => by simp only [PV.kill,PRel] at h ⊢; obtain ⟨vs,h1,h2⟩:=h; exact ⟨vs,h1,PRels_kill hc hb h2⟩
  | .ifc f cs,v,h => by simp only [PV.kill,PRel] at h ⊢; obtain ⟨vs,h1,h2⟩:=h; exact ⟨vs,h1,PRels_kill hc hb h2⟩
  | .clip T xs,v,h => by simp only [PV.kill,PRel] at h ⊢; exact ⟨h.1,h.2.1,RepC_mono hc.heap hc.S (.sl T) _ _ h.1 h.2.2⟩
  | .fn f cs,v,h => by simp only [PV.kill,PRel] at h ⊢; obtain ⟨vs,h1,h2⟩:=h; exact ⟨vs,h1,PRels_kill hc hb h2⟩
  | .any,v,h => by simp only [PV.kill,PRel]
theorem PRels_kill {ks:List Nat} {c c':Ctx} (hc:c.LeBut ks c') (hb:NoBox c ks):∀ {ps:List PV} {vs:List Value},PRels c ps vs → PRels c' (PV.killL ks ps) vs
  | [],vs,h => by simp only [PV.killL,PRels] at h ⊢; exact h
  | p :: ps,vs,h => by
    simp only [PV.killL,PRels] at h ⊢
    obtain ⟨v,r,h1,h2,h3⟩:=h
    exact ⟨v,r,h1,PRel_kill hc hb h2,PRels_kill hc hb h3⟩
end

theorem look_mapSl (f:PV → PV) (t:Nat):∀ l:List (Nat × PV),look t (mapSl f l) = (look t l).map f
  | [] => rfl
  | p :: r => by
    simp only [mapSl,look]
    cases Nat.beq t p.1
    · simpa using look_mapSl f t r
    · rfl
theorem look_mapBl (f:List PV → List PV) (t:Nat):∀ l:List (Nat × Blk),look t (mapBl f l) = (look t l).map (Blk.map f)
  | [] => rfl
  | p :: r => by
    simp only [mapBl,look]
    cases Nat.beq t p.1
    · simpa using look_mapBl f t r
    · rfl
theorem look_dropBl (ks:List Nat) (t:Nat):∀ l:List (Nat × Blk),look t (dropBl ks l) = bif mem1 t ks then none else look t l
  | [] => by simp [dropBl,look]
  | p :: r => by
    simp only [dropBl]
    cases hm:mem1 p.1 ks with
    | true =>
      simp only [cond_true,look,look_dropBl ks t r]
      cases hb:Nat.beq t p.1 with
      | true => rw [Nat.eq_of_beq_eq_true hb,hm]; rfl
      | false => rfl
    | false =>
      simp only [cond_false,look,look_dropBl ks t r]
      cases hb:Nat.beq t p.1 with
      | true => rw [Nat.eq_of_beq_eq_true hb,hm]; rfl
      | false => rfl
theorem get_kill (s:St) (ks:List Nat) (t:Nat):(s.kill ks).get t = (s.get t).kill ks:=by
  simp only [St.get,St.kill,look_mapSl]
  cases look t s.sl <;> simp [PV.kill]
theorem kill_look (s:St) (ks:List Nat) (i:Nat):look i (s.kill ks).bl = (look i s.bl).map (Blk.map (PV.killL ks)):=by
  simp only [St.kill,look_mapBl]
theorem BRel_kill {ks:List Nat} {c c':Ctx} (hc:c.LeBut ks c') (hnb:NoBox c ks) (hB:c'.M.O = c.M.O) {id:Nat} {b:Blk} (hν:c'.ν id = c.ν id) (hg:∀ g,blockOf (c.ν id) = some g → c'.w.heap[g]? = c.w.heap[g]? ∧ (¬ c.M.S g → ¬ c'.M.S g)) (h:BRel c id b):BRel c' id (b.map (PV.killL ks)):=by
  cases b with
  | box cs te =>
    obtain ⟨hty,g,vs,e,h1,h2,h3,h4,h0,h5⟩:=h
    obtain ⟨e1,e2⟩:=hg g (by rw [h1]; rfl)
    exact ⟨hty.keep hν fun g hg' => (hg g hg').1,g,vs,e,by rw [hν]; exact h1,by rw [hB]; exact h2,e2 h3,by rw [e1]; exact h4,h0,PRels_kill hc hnb h5⟩
  | arr T xs te =>
    obtain ⟨hty,ho,v,hv,h1,h2⟩:=h
    injection hv with hv
    refine ⟨hty.keep hν fun g hg' => (hg g hg').1,ho,v,by rw [hν,hv],h1,?_⟩
    rcases h2 with h2 | ⟨g,o,cap,cur,e,rfl,h3,h4,h5,h6,h7,h8,h9⟩
    · exact .inl h2
    · obtain ⟨e1,e2⟩:=hg g (by rw [hv]; rfl)
      refine .inr ⟨g,o,cap,cur,e,rfl,h3,h4,e2 h5,by rw [hB]; exact h6,by rw [e1]; exact h7,h8,fun i y hy => ?_⟩
      obtain ⟨cs,hl,hca,hr⟩:=h9 i y hy
      exact ⟨cs,hl,hca.mono e1,RepC_mono hc.heap hc.S _ _ _ ho hr⟩
  | mp K V es =>
    obtain ⟨hok,hov,h0,r,ents,clock,h1,h2,h3,h4,h5,h6,h7⟩:=h
    obtain ⟨e1,e2⟩:=hg r (by rw [h1]; rfl)
    refine ⟨hok,hov,h0,r,ents,clock,by rw [hν]; exact h1,by rw [hB]; exact h2,e2 h3,by rw [e1]; exact h4,h5,h6,fun i y hy => ?_⟩
    obtain ⟨e,ca,cb,a1,a2,a3,a4,a5⟩:=h7 i y hy
    exact ⟨e,ca,cb,a1,a2,RepC_mono hc.heap hc.S _ _ _ hok a3,a4,RepC_mono hc.heap hc.S _ _ _ hov a5⟩
  | it src since seen =>
    obtain ⟨g,m,h1,h2,h3,h4,h6⟩:=h
    obtain ⟨e1,e2⟩:=hg g (by rw [h1]; rfl)
    exact ⟨g,m,by rw [hν]; exact h1,by rw [hB]; exact h2,e2 h3,by rw [e1]; exact h4,PRels_kill hc hnb h6⟩
  | sit x pos =>
    obtain ⟨g,h1,h2,h3,h4,h5⟩:=h
    obtain ⟨e1,e2⟩:=hg g (by rw [h1]; rfl)
    exact ⟨g,by rw [hν]; exact h1,by rw [hB]; exact h2,e2 h3,by rw [e1]; exact h4,h5⟩

theorem mem1_one {i k:Nat}:mem1 i [k] = Nat.beq i k:=by
  simp only [mem1]; cases Nat.beq i k <;> rfl
theorem mem1_one_ne {i k:Nat} (h:i ≠ k):mem1 i [k] = false:=by
  rw [mem1_one]
  cases hb:Nat.beq i k with
  | false => rfl
  | true => exact absurd (Nat.eq_of_beq_eq_true hb) h
theorem mem1_one_eq {i k:Nat} (h:mem1 i [k] = true):i = k:=by
  rw [mem1_one] at h; exact Nat.eq_of_beq_eq_true h

section
variable {n:Nat} {w0:World} {S0:Cx} {s:St} {a:Act} {w:World} {ν:Nat → Value} {S:Nat → Prop}

theorem Full.app (h:Full n w0 S0 s a w ν S) {d id j:Nat} {T:Ty} {xs:List T.den} {te:Option Nat} {b':Blk} {v':Value} {w':World} (hd:d < n) (hl:look id s.bl = some (.arr T xs te)) (hj:j < P0) (hjn:j = id ∨ look j s.bl = none) (hw:GrownD w w' (blockOf (ν id)))
    (hv:∃ a n cap,v' = .slice a n cap) (hfresh:∀ g,blockOf v' = some g → blockOf (ν id) = some g ∨ w.heap.size ≤ g)
    (hb:∀ D:Nat → Prop,BRel ⟨fun i => if i = j then v' else ν i,D,w',⟨S,own0 w0 S0⟩⟩ j b') :
    Full n w0 S0 ⟨(d,.lfull j) :: (s.kill [id]).sl,(j,b') :: dropBl [id] (s.kill [id]).bl⟩ (a.put (some d) v') w' (fun i => if i = j then v' else ν i) S:=by
  have hsl:∃ a n m,ν id = .slice a n m:=by
    obtain ⟨_,ho,v,hv,_,h2⟩:=h.W.blk id _ hl
    injection hv with hv
    simp only at hv
    rw [hv]
    rcases h2 with ⟨h2,_⟩ | ⟨g',o,cap,cur,e,h2,_⟩ <;> subst h2 <;> exact ⟨_,_,_,rfl⟩
  have hnb:NoBox ⟨ν,s.D,w,⟨S,own0 w0 S0⟩⟩ [id]:=by
    intro i hi _
    rw [mem1_one_eq hi]
    exact hsl
  -- the old blocks of the new state
  have look':∀ i c,i ≠ j → look i (⟨(d,.lfull j) :: (s.kill [id]).sl,(j,b') :: dropBl [id] (s.kill [id]).bl⟩:St).bl = some c → i ≠ id ∧ ∃ c0,look i s.bl = some c0 ∧ c = c0.map (PV.killL [id]):=by
    intro i c hij hc
    rw [look_cons_ne _ _ hij,look_dropBl] at hc
    cases hm:mem1 i [id] with
    | true => rw [hm] at hc; cases hc
    | false =>
      rw [hm] at hc
      simp only [cond_false] at hc
      rw [kill_look] at hc
      refine ⟨fun e => ?_,?_⟩
      · subst e; rw [mem1_one,Nat.beq_refl] at hm; cases hm
      · cases hl':look i s.bl with
        | none => rw [hl'] at hc; cases hc
        | some c0 => rw [hl'] at hc; injection hc with hc; exact ⟨c0,rfl,hc.symm⟩
  have hD:∀ i,s.D i → i ≠ id → (⟨(d,.lfull j) :: (s.kill [id]).sl,(j,b') :: dropBl [id] (s.kill [id]).bl⟩:St).D i:=by
    rintro i ⟨c,hc⟩ hne
    by_cases hij:i = j
    · subst hij; exact ⟨b',look_cons_self _ _ _⟩
    · exact ⟨c.map (PV.killL [id]),by rw [look_cons_ne _ _ hij,look_dropBl,mem1_one_ne hne,cond_false,kill_look,hc]; rfl⟩
  have hne:∀ i,s.D i → i ≠ id → i ≠ j:=by
    rintro i ⟨c,hc⟩ hi e
    subst e
    rcases hjn with hjn | hjn
    · exact hi hjn
    · rw [hjn] at hc; cases hc
  have hS:∀ g,S g → w'.heap[g]? = w.heap[g]?:=fun g hg => hw.block g (h.W.lt g hg) (fun e => (h.blkB hl e.symm).2.1 hg)
  have hle:Ctx.LeBut [id] ⟨ν,s.D,w,⟨S,own0 w0 S0⟩⟩ ⟨fun i => if i = j then v' else ν i,(⟨(d,.lfull j) :: (s.kill [id]).sl,(j,b') :: dropBl [id] (s.kill [id]).bl⟩:St).D,w',⟨S,own0 w0 S0⟩⟩:=by
    refine ⟨hS,fun _ h => h,fun i hi hm => hD i hi ?_,fun i hi hm => ?_⟩
    · rintro rfl; rw [mem1_one,Nat.beq_refl] at hm; cases hm
    · have:i ≠ id:=by rintro rfl; rw [mem1_one,Nat.beq_refl] at hm; cases hm
      simp [hne i hi this]
  refine ⟨h.below.grown hw (fun g hg => (h.blkB hl hg).1),h.inS,h.fresh,⟨fun g hg => Nat.lt_of_lt_of_le (h.W.lt g hg) hw.size,fun g hg => h.W.size g (Nat.le_trans hw.size hg),fun i c hc => ?_,fun i k c e hik hi hk g hgi hgk => ?_⟩,?_,?_,?_,h.few,fun i hi hDi => ?_,h.tab⟩
  · by_cases hi:i = j
    · subst hi
      rw [look_cons_self] at hc
      injection hc with hc
      subst hc
      exact hb _
    · obtain ⟨hid,c0,hc0,rfl⟩:=look' i c hi hc
      refine BRel_kill hle hnb rfl (by simp [hi]) (fun g hg => ?_) (h.W.blk i c0 hc0)
      exact ⟨hw.block g (h.blkB hc0 hg).2.2 (fun e => h.W.ne i id c0 _ hid hc0 hl g hg e.symm),fun h => h⟩
  · by_cases hij:i = j
    · subst hij
      have hki:k ≠ i:=fun e => hik e.symm
      simp only [if_true] at hgi
      simp only [hki,if_false] at hgk
      obtain ⟨hkid,e',he',_⟩:=look' k e hki hk
      rcases hfresh g hgi with hf | hf
      · exact h.W.ne id k _ _ (fun e => hkid e.symm) hl he' g hf hgk
      · have:=(h.blkB he' hgk).2.2; omega
    · simp only [hij,if_false] at hgi
      obtain ⟨hiid,c',hc',_⟩:=look' i c hij hi
      by_cases hkj:k = j
      · subst hkj
        simp only [if_true] at hgk
        rcases hfresh g hgk with hf | hf
        · exact h.W.ne i id _ _ hiid hc' hl g hgi hf
        · have:=(h.blkB hc' hgi).2.2; omega
      · simp only [hkj,if_false] at hgk
        obtain ⟨_,e',he',_⟩:=look' k e hkj hk
        exact h.W.ne i k _ _ hik hc' he' g hgi hgk
  · intro t
    have hlf:PRel ⟨fun i => if i = j then v' else ν i,(⟨(d,.lfull j) :: (s.kill [id]).sl,(j,b') :: dropBl [id] (s.kill [id]).bl⟩:St).D,w',⟨S,own0 w0 S0⟩⟩ (.lfull j) v':=by
      simp only [PRel]
      exact ⟨⟨b',look_cons_self _ _ _⟩,by simp,hv⟩
    refine slots_put (s:=s.kill [id]) (fun t => ?_) h.size hd (fun t => ?_) hlf t
    · rw [get_kill]
      exact PRel_kill hle hnb (h.slots t)
    · by_cases ht:t = d
      · subst ht; simp [St.get,look_cons_self]
      · simp [St.get,look_cons_ne _ _ ht,ht]
  · rw [size_put]; exact h.size
  · rw [defers_put]; exact h.defers
  · have hij:i ≠ j:=by omega
    simp only [hij,if_false]
    obtain ⟨c,hc⟩:=hDi
    obtain ⟨_,c0,hc0,_⟩:=look' i c hij hc
    exact h.kept i hi ⟨c0,hc0⟩
end

/-! ### append -/

theorem row_cells {T:Ty} {w:World} {M:Mem} {g o:Nat}:∀ (xs:List T.den),(∀ i y,xs[i]? = some y → ∃ cs,cs.length = T.cells ∧ CellsAt w g (o + i * T.cells) cs ∧ RepC T y w M cs) →
    ∃ vs:List Value,vs.length = xs.length * T.cells ∧ CellsAt w g o vs ∧ (∀ u,u ∈ vs → u.oneCell' = true) ∧ ∀ i y,xs[i]? = some y → RepC T y w M ((vs.drop (i * T.cells)).take T.cells):=by
  intro xs
  induction xs generalizing o with
  | nil => intro _; exact ⟨[],by simp,fun j v h => by simp at h,by simp,fun i y h => by simp at h⟩
  | cons x xs ih =>
    intro h
    obtain ⟨cs,hl,hc,hr⟩:=h 0 x rfl
    obtain ⟨vs,hvl,hvc,hv1,hvr⟩:=ih (o:=o + T.cells) (fun i y hy => by
      obtain ⟨cs',hl',hc',hr'⟩:=h (i + 1) y (by simpa using hy)
      refine ⟨cs',hl',?_,hr'⟩
      have e:o + (i + 1) * T.cells = o + T.cells + i * T.cells:=by rw [Nat.add_mul]; omega
      rwa [e] at hc')
    refine ⟨cs ++ vs,by simp [hl,hvl,Nat.add_mul]; omega,fun j v hj => ?_,fun u hu => ?_,fun i y hy => ?_⟩
    · rcases Nat.lt_or_ge j T.cells with hjl | hjl
      · rw [List.getElem?_append_left (by omega)] at hj
        have:=hc j v hj
        simpa using this
      · rw [List.getElem?_append_right (by omega)] at hj
        have:=hvc _ v hj
        rw [← this]
        congr 2
        omega
    · rcases List.mem_append.1 hu with hu | hu
      · exact RepC_one _ _ _ _ _ hr u hu
      · exact hv1 u hu
    · cases i with
      | zero =>
        simp at hy
        subst hy
        rw [Nat.zero_mul,List.drop_zero,← hl,List.take_left]
        exact hr
      | succ i =>
        have:=hvr i y (by simpa using hy)
        have e:(i + 1) * T.cells = cs.length + i * T.cells:=by rw [Nat.add_mul,hl]; omega
        rw [e,List.drop_append]
        simpa [List.drop_of_length_le] using this

theorem rows_of {T:Ty} {w:World} {M:Mem} {g o:Nat} {xs:List T.den} {vs:List Value} (hl:vs.length = xs.length * T.cells) (hc:CellsAt w g o vs) (hr:∀ i y,xs[i]? = some y → RepC T y w M ((vs.drop (i * T.cells)).take T.cells)) :
    ∀ i y,xs[i]? = some y → ∃ cs,cs.length = T.cells ∧ CellsAt w g (o + i * T.cells) cs ∧ RepC T y w M cs:=by
  intro i y hy
  have hi:i < xs.length:=by
    rcases Nat.lt_or_ge i xs.length with h | h
    · exact h
    · rw [List.getElem?_eq_none h] at hy; cases hy
  refine ⟨_,RepC_len _ _ _ _ _ (hr i y hy),fun j v hj => ?_,hr i y hy⟩
  have hj':j < T.cells:=by
    rcases Nat.lt_or_ge j T.cells with h | h
    · exact h
    · rw [List.getElem?_eq_none (by rw [RepC_len _ _ _ _ _ (hr i y hy)]; exact h)] at hj; cases hj
  rw [List.getElem?_take,if_pos hj',List.getElem?_drop] at hj
  have:=hc _ v hj
  rw [← this,Nat.add_assoc]

theorem rep_append {T:Ty} {w w':World} {M:Mem} (hw:∀ b,M.S b → w'.heap[b]? = w.heap[b]?) (ho:owns T = 0) {xs ys:List T.den} {us vs:List Value} (hu:us.length = xs.length * T.cells) (hr:∀ i y,xs[i]? = some y → RepC T y w M ((us.drop (i * T.cells)).take T.cells))
    (hs:∀ i y,ys[i]? = some y → RepC T y w M ((vs.drop (i * T.cells)).take T.cells)):∀ i y,(xs ++ ys)[i]? = some y → RepC T y w' M (((us ++ vs).drop (i * T.cells)).take T.cells):=by
  intro i y hy
  refine RepC_mono hw (fun _ h => h) _ _ _ ho ?_
  rcases Nat.lt_or_ge i xs.length with hi | hi
  · rw [List.getElem?_append_left hi] at hy
    have h1:=hr i y hy
    have hle:i * T.cells + T.cells ≤ us.length:=by
      rw [hu]
      calc i * T.cells + T.cells = (i + 1) * T.cells:=by rw [Nat.add_mul]; omega
        _ ≤ xs.length * T.cells:=Nat.mul_le_mul_right _ hi
    rw [List.drop_append_of_le_length (by omega),List.take_append_of_le_length (by rw [List.length_drop]; omega)]
    exact h1
  · rw [List.getElem?_append_right hi] at hy
    have h1:=hs _ y hy
    have e:i * T.cells = us.length + (i - xs.length) * T.cells:=by
      rw [hu,← Nat.add_mul]
      congr 1
      omega
    rw [e,List.drop_append]
    simpa [List.drop_of_length_le] using h1
end Go.Proofs.Ytefpgfdemmllpaa
namespace Go.Proofs.Ytefpgfdemmllpaa
open Go.RowKit

theorem addr_add (g o n:Nat):(⟨g,o,none⟩:Addr).add n = ⟨g,o + n,none⟩:=by
  unfold Addr.add; split <;> simp_all

theorem TyFacts.elem {E:Env} (hE:EnvOK E) {t:Nat} {T:Ty} (h:TyFacts E t (.sl T)):∃ e,E.P.underlying t = some (.slice e) ∧ E.ty e = some T ∧ TyFacts E e T ∧ T.val = true ∧ 0 < T.cells:=by
  obtain ⟨d,hd,hs⟩:=h.und
  cases d <;> simp only [shapeOK] at hs <;> first | cases hs | skip
  rename_i e
  simp only [Bool.and_eq_true,tyIs] at hs
  obtain ⟨⟨h1,h2⟩,h3⟩:=hs
  split at h1
  · rename_i U hU
    rw [Ty.eq_spec h1] at hU
    exact ⟨e,hd,hU,hE.facts hU,h2,Nat.le_of_ble_eq_true h3⟩
  · cases h1

structure Source (w:World) (size:Nat) (a:Option Addr) (m:Nat) (news:List Value):Prop where
  len:news.length = m * size
  cells:m = 0 ∨ ∃ ad,a = some ad ∧ ∀ j u,news[j]? = some u → w.cell? (ad.add j) = some u
  one:∀ u,u ∈ news → u.oneCell' = true

theorem Source.first {P:Program} {w:World} {size:Nat} {a:Option Addr} {m:Nat} {news:List Value} (h:Source w size a m news) (c:Nat) :
    (Builtin.firstCells size m (.slice a m c)).run P w = .ok news.toArray w:=by
  rcases h.cells with rfl | ⟨ad,rfl,hc⟩
  · have hn:news = []:=List.eq_nil_of_length_eq_zero (by simpa using h.len)
    subst hn
    cases a with
    | none => exact run_firstCells_none w _ _ _ _
    | some ad => exact run_firstCells_some w size 0 ad _ c [] (by simp) (by simp)
  · exact run_firstCells_some w size m ad _ c news h.len hc

theorem grownBy_setRow (w:World) (g:Nat) (cs:Array Value):GrownD w (w.setRow g cs) (some g) :=
  ⟨rfl,rfl,rfl,by simp,fun k _ hk => setRow_other w g k _ (fun e => hk (by rw [e])),fun _ => Nat.le_refl _⟩

theorem Source.src {P:Program} {w:World} {size:Nat} {a:Option Addr} {m:Nat} {news:List Value} (h:Source w size a m news) {tx e':TypeId} (hk:P.underlying tx = some (.slice e')) (c:Nat):Src P size tx (.slice a m c) m news w :=
  ⟨.inl ⟨e',hk⟩,fun _ => rfl,h.first c,by
    have h':Source w.drew size a m news:=⟨h.len,h.cells,h.one⟩
    exact h'.first c,h.len,h.one⟩

theorem run_append_room' {P:Program} {w:World} {t tx ty e:TypeId} {i:TypeInfo} (ht:P.underlying t = some (.slice e)) (hi:P.info? e = some i)
    {g o n cap:Nat} {cur:Array Value} {e':TypeId} (hg:w.heap[g]? = some (.cells cur e' (0,0))) {x:Value} {m:Nat} {news:List Value} (hs:Src P i.size tx x m news w)
    (hroom:n + m ≤ cap) (hfit:o + n * i.size + news.length ≤ cur.size) :
    (Builtin.append_ #[t,tx] ty #[.slice (some ⟨g,o,none⟩) n cap,x]).run P w =
      .ok (.slice (some ⟨g,o,none⟩) (n + m) cap) (w.setRow g (cur.toList.take (o + n * i.size) ++ news ++ cur.toList.drop (o + n * i.size + news.length)).toArray):=by
  have hst:=run_storeCells_at (P:=P) g (o + n * i.size) e' news 0 cur w hg (by simpa using hfit) hs.one
  simp only [Nat.add_zero] at hst
  rcases hs.kind with ⟨e2,hk⟩ | hk <;> simp [Builtin.append_,run_underlying ht,run_underlying hk,sizeOf,typeInfo,hi,hs.len,hroom,hs.cells,addr_add,hst]

theorem size_zc (z:Array Value) (n:Nat):(Builtin.zeroCells z n).size = n * z.size:=by simp [Builtin.zeroCells]

theorem grown_own {E:Env} {T:Ty} {w:World} {M:Mem} {zs:List T.den} {e:TypeId} {z:Value} (hzs:z.cells.size = T.cells) (ho:owns T = 0) (hlt:∀ b,M.S b → b < w.heap.size) (hB:∀ g,w.heap.size ≤ g → M.O g) (hlen:zs.length ≤ 1099511627776)
    (cs:List Value) (hcl:cs.length = zs.length * T.cells) (hcr:∀ i y,zs[i]? = some y → RepC T y w M ((cs.drop (i * T.cells)).take T.cells)) (old:Nat) :
      RepC (.own T) zs (w.drew.alloc (.cells (cs.toArray ++ Builtin.zeroCells z.cells (grownCap w zs.length old e - zs.length)) e)) M [.slice (some ⟨w.heap.size,0,none⟩) zs.length (grownCap w zs.length old e)]:=by
  have hge:=grownCap_ge w zs.length old e
  have hcm:=grownCap_le_maxLen w zs.length old e (by simp only [maxLen]; omega)
  simp only [maxLen] at hcm
  have hh:(w.drew.alloc (.cells (cs.toArray ++ Builtin.zeroCells z.cells (grownCap w zs.length old e - zs.length)) e)).heap[w.heap.size]? = some (.cells (cs.toArray ++ Builtin.zeroCells z.cells (grownCap w zs.length old e - zs.length)) e):=heap_alloc_new w.drew _
  refine ⟨_,rfl,by omega,.inr ⟨w.heap.size,0,grownCap w zs.length old e,_,e,rfl,hge,by omega,fun h => absurd (hlt _ h) (by omega),hB _ (Nat.le_refl _),hh,?_,?_⟩⟩
  · rw [Array.size_append,size_zc,hzs,List.size_toArray,hcl,Nat.zero_add,← Nat.add_mul]
    exact Nat.mul_le_mul_right _ (by omega)
  · refine rows_of (vs:=cs) hcl (fun j u hj => ?_) (fun k y hy => ?_)
    · rw [cell_of_row _ _ _ _ _ _ hh,Nat.zero_add,Array.getElem?_append_left (by simpa using (List.getElem?_eq_some_iff.1 hj).1)]
      simpa using hj
    · exact RepC_mono (w:=w) (fun b hb => Below.heap_alloc w.drew _ b (hlt b hb)) (fun _ h => h) _ _ _ ho (hcr k y hy)

theorem run_append_clip {E:Env} (hE:EnvOK E) {t tx ty:Nat} {T:Ty} (ht:E.ty t = some (.sl T)) {w:World} {M:Mem} {a:Option Addr} {m:Nat} {xs ys:List T.den} (ho:owns T = 0) (hsl:RepC (.sl T) xs w M [.slice a m m])
    (hlt:∀ b,M.S b → b < w.heap.size) (hB:∀ g,w.heap.size ≤ g → M.O g) {x:Value} {news:List Value} (hs:Src E.P T.cells tx x ys.length news w)
    (hr:∀ i y,ys[i]? = some y → RepC T y w M ((news.drop (i * T.cells)).take T.cells)) (hne:ys ≠ []) (hlen:xs.length + ys.length ≤ 1099511627776) :
    ∃ v' w',(Builtin.append_ #[t,tx] ty #[.slice a m m,x]).run E.P w = .ok v' w' ∧ RepC (.own T) (xs ++ ys) w' M [v'] ∧ GrownD w w' none ∧
      (∃ a n cap,v' = .slice a n cap) ∧ (∀ g,blockOf v' = some g → w.heap.size ≤ g):=by
  obtain ⟨e,hu,he,hfe,hval,hpos⟩:=(hE.facts ht).elem hE
  obtain ⟨i,hi,hsz,hby,_,z,hz,hzs⟩:=hfe.info
  rw [← hsz] at hs
  have h128:∀ k:Nat,k ≤ 1099511627776 → k * i.bytes ≤ 140737488355328:=fun k hk => by
    calc k * i.bytes ≤ 1099511627776 * 128:=Nat.mul_le_mul hk hby
      _ = 140737488355328:=by decide
  have hm:ys.length ≠ 0:=fun h => hne (List.eq_nil_of_length_eq_zero h)
  obtain ⟨a',cap',hv,h1,h2,h3⟩:=hsl
  obtain ⟨rfl,rfl,rfl⟩:a' = a ∧ m = xs.length ∧ cap' = m:=by injection hv with hv; injection hv with h1 h2 h3; exact ⟨h1.symm,h2,h3.symm⟩
  obtain ⟨us,hul,hur,hfo⟩:∃ us:List Value,us.length = xs.length * T.cells ∧ (∀ i y,xs[i]? = some y → RepC T y w M ((us.drop (i * T.cells)).take T.cells)) ∧ (Builtin.firstCells i.size xs.length (.slice a' xs.length xs.length)).run E.P w.drew = .ok us.toArray w.drew:=by
    rcases h3 with rfl | ⟨g,o,rfl,_,hrows⟩
    · refine ⟨[],by simp,fun i y hy => by simp at hy,?_⟩
      cases a' with
      | none => exact run_firstCells_none _ _ _ _ _
      | some ad => exact run_firstCells_some _ _ 0 ad _ _ [] (by simp) (by simp)
    · obtain ⟨us,hul,huc,hu1,hur⟩:=row_cells xs hrows
      exact ⟨us,hul,hur,run_firstCells_some w.drew i.size xs.length ⟨g,o,none⟩ _ _ us (by rw [hul,hsz]) (fun j u hj => by rw [addr_add]; exact huc j u hj)⟩
  have hrun:=run_append_grow_src (P:=E.P) w t tx ty e i z hu hi hz a' xs.length xs.length us hfo x ys.length news hs (by omega) (by omega) (growslice_fits (by omega) (h128 _ hlen))
  have hg:=grown_own (E:=E) (e:=e) (zs:=xs ++ ys) hzs ho hlt hB (by rw [List.length_append]; exact hlen) (us ++ news) (by rw [List.length_append,List.length_append,hul,hs.newsLen,hsz,Nat.add_mul]) (rep_append (fun _ _ => rfl) ho hul hur hr) xs.length
  rw [List.length_append] at hg
  exact ⟨_,_,hrun,hg,⟨rfl,rfl,rfl,by simp,fun k hk _ => Below.heap_alloc w.drew _ k hk,fun _ => Nat.le_succ _⟩,⟨_,_,_,rfl⟩,fun g hg => by injection hg with hg; simp at hg; omega⟩

theorem run_append_arr {E:Env} (hE:EnvOK E) {t tx ty:Nat} {T:Ty} (ht:E.ty t = some (.sl T)) {w:World} {M:Mem} {v:Value} {xs ys:List T.den} (ho:owns T = 0) (hown:RepC (.own T) xs w M [v])
    (hlt:∀ b,M.S b → b < w.heap.size) (hB:∀ g,w.heap.size ≤ g → M.O g) {x:Value} {news:List Value} (hs:Src E.P T.cells tx x ys.length news w)
    (hr:∀ i y,ys[i]? = some y → RepC T y w M ((news.drop (i * T.cells)).take T.cells)) (hlen:xs.length + ys.length ≤ 1099511627776) :
    ∃ v' w',(Builtin.append_ #[t,tx] ty #[v,x]).run E.P w = .ok v' w' ∧ RepC (.own T) (xs ++ ys) w' M [v'] ∧ GrownD w w' (blockOf v) ∧
      (∃ a n cap,v' = .slice a n cap) ∧ (∀ g,blockOf v' = some g → blockOf v = some g ∨ w.heap.size ≤ g) ∧ (∀ e0,E.P.underlying t = some (.slice e0) → elemIs (some e0) w v → elemIs (some e0) w' v'):=by
  obtain ⟨e,hu,he,hfe,hval,hpos⟩:=(hE.facts ht).elem hE
  obtain ⟨i,hi,hsz,hby,_,z,hz,hzs⟩:=hfe.info
  rw [← hsz] at hs
  have h128:∀ k:Nat,k ≤ 1099511627776 → k * i.bytes ≤ 140737488355328:=fun k hk => by
    calc k * i.bytes ≤ 1099511627776 * 128:=Nat.mul_le_mul hk hby
      _ = 140737488355328:=by decide
  obtain ⟨u,hv,h1,h2⟩:=hown
  injection hv with hv
  subst hv
  have grown:∀ (cs:List Value),cs.length = (xs.length + ys.length) * T.cells → (∀ i y,(xs ++ ys)[i]? = some y → RepC T y w M ((cs.drop (i * T.cells)).take T.cells)) → ∀ (old:Nat),
      RepC (.own T) (xs ++ ys) (w.drew.alloc (.cells (cs.toArray ++ Builtin.zeroCells z.cells (grownCap w (xs.length + ys.length) old e - (xs.length + ys.length))) e)) M
        [.slice (some ⟨w.heap.size,0,none⟩) (xs.length + ys.length) (grownCap w (xs.length + ys.length) old e)]:=by
    intro cs hcl hcr old
    have:=grown_own (E:=E) (e:=e) (zs:=xs ++ ys) hzs ho hlt hB (by rw [List.length_append]; exact hlen) cs (by rw [hcl,List.length_append]) hcr old
    rwa [List.length_append] at this
  rcases h2 with ⟨rfl,rfl⟩ | ⟨g,o,cap,cur,e',rfl,h3,h4,h5,h6,h7,h8,h9⟩
  · by_cases hm:ys.length = 0
    · have hn:news = []:=List.eq_nil_of_length_eq_zero (by rw [hs.newsLen,hm,Nat.zero_mul])
      have hy:ys = []:=List.eq_nil_of_length_eq_zero hm
      subst hy
      refine ⟨.slice none 0 0,w,?_,⟨_,rfl,by simp,.inl ⟨rfl,by simp⟩⟩,⟨rfl,rfl,rfl,Nat.le_refl _,fun _ _ _ => rfl,fun _ => Nat.le_refl _⟩,⟨_,_,_,rfl⟩,fun g hg => (by cases hg),fun e0 _ _ t' _ g hg => (by cases hg)⟩
      have hl0:=hs.len
      have hc0:=hs.cells
      simp only [List.length_nil] at hl0 hc0
      rcases hs.kind with ⟨e2,hk⟩ | hk <;> simp [Builtin.append_,run_underlying hu,run_underlying hk,sizeOf,typeInfo,hi,hl0,hc0]
    · skip
      · have hb:=h128 ys.length (by simpa using hlen)
        have hrun:=run_append_grow_src (P:=E.P) w t tx ty e i z hu hi hz none 0 0 [] (run_firstCells_none _ _ _ _ _) x ys.length news hs (by omega) (by simp at hlen; omega) (growslice_fits (by omega) (by simpa using hb))
        simp only [Nat.zero_add,List.nil_append] at hrun
        have hg:=grown news (by rw [hs.newsLen,hsz]; simp) (by simpa using hr) 0
        simp only [List.length_nil,Nat.zero_add] at hg
        exact ⟨_,_,hrun,hg,⟨rfl,rfl,rfl,by simp,fun k hk _ => Below.heap_alloc w.drew _ k hk,fun _ => Nat.le_succ _⟩,⟨_,_,_,rfl⟩,fun g hg => .inr (by injection hg with hg; simp at hg; omega),fun e0 he0 _ t' ht' g hg => by
          obtain rfl:=Option.some.inj ht'
          obtain rfl:e = e0:=by rw [hu] at he0; injection he0 with he0; injection he0
          injection hg with hg
          subst hg
          exact ⟨rfl,_,_,heap_alloc_new w.drew _⟩⟩
  · obtain ⟨us,hul,huc,hu1,hur⟩:=row_cells xs h9
    by_cases hroom:xs.length + ys.length ≤ cap
    · have hfit:o + xs.length * i.size + news.length ≤ cur.size:=by
        rw [hs.newsLen,Nat.add_assoc,← Nat.add_mul,hsz]
        exact Nat.le_trans (Nat.add_le_add_left (Nat.mul_le_mul_right _ hroom) _) h8
      have hrun:=run_append_room' (P:=E.P) (ty:=ty) hu hi h7 hs hroom hfit
      refine ⟨_,_,hrun,?_,?_,⟨_,_,_,rfl⟩,fun g hg => .inl hg,fun e0 _ hty => (by exact hty.turn rfl h7 (setRow_heap w g cur _ e' _ h7))⟩
      · have hh:=setRow_heap w g cur (cur.toList.take (o + xs.length * i.size) ++ news ++ cur.toList.drop (o + xs.length * i.size + news.length)).toArray e' _ h7
        have hSg:∀ b,M.S b → (w.setRow g (cur.toList.take (o + xs.length * i.size) ++ news ++ cur.toList.drop (o + xs.length * i.size + news.length)).toArray).heap[b]? = w.heap[b]?:=fun b hb => setRow_other w g b _ (fun e => h5 (e ▸ hb))
        refine ⟨_,rfl,by rw [List.length_append]; omega,.inr ⟨g,o,cap,_,e',by rw [List.length_append],by rw [List.length_append]; exact hroom,h4,h5,h6,hh,?_,?_⟩⟩
        · simp only [List.size_toArray,List.length_append,List.length_take,List.length_drop,Array.length_toList]
          omega
        · refine rows_of (vs:=us ++ news) (by rw [List.length_append,List.length_append,hul,hs.newsLen,hsz,Nat.add_mul]) (fun j u hj => ?_) (rep_append hSg ho hul hur hr)
          rw [cell_of_row _ _ _ _ _ _ hh]
          simp only [List.getElem?_toArray]
          rcases Nat.lt_or_ge j us.length with hju | hju
          · rw [List.getElem?_append_left hju] at hj
            have hcell:=huc j u hj
            rw [cell_of_row _ _ _ _ _ _ h7] at hcell
            have hlt':o + j < o + xs.length * i.size:=by rw [hsz,← hul]; omega
            rw [List.append_assoc,List.getElem?_append_left (by simp only [List.length_take,Array.length_toList]; omega),List.getElem?_take,if_pos hlt']
            simpa using hcell
          · rw [List.getElem?_append_right hju] at hj
            have hjl:j - us.length < news.length:=(List.getElem?_eq_some_iff.1 hj).1
            have htl:(cur.toList.take (o + xs.length * i.size)).length = o + xs.length * i.size:=by simp only [List.length_take,Array.length_toList]; omega
            rw [List.append_assoc,List.getElem?_append_right (by rw [htl,hsz,← hul]; omega),htl,List.getElem?_append_left (by rw [hsz,← hul]; omega)]
            rw [← hj]
            congr 1
            rw [hsz,← hul]
            omega
      · exact grownBy_setRow w g _
    · have hm:ys.length ≠ 0:=by omega
      skip
      · have hrun:=run_append_grow_src (P:=E.P) w t tx ty e i z hu hi hz (some ⟨g,o,none⟩) xs.length cap us (run_firstCells_some w.drew i.size xs.length ⟨g,o,none⟩ xs.length cap us (by rw [hul,hsz]) (fun j u hj => by rw [addr_add]; exact huc j u hj)) x ys.length news hs (by omega) (by omega) (growslice_fits (by omega) (h128 _ hlen))
        have hg:=grown (us ++ news) (by rw [List.length_append,hul,hs.newsLen,hsz,Nat.add_mul]) (rep_append (fun _ _ => rfl) ho hul hur hr) cap
        exact ⟨_,_,hrun,hg,⟨rfl,rfl,rfl,by simp,fun k hk _ => Below.heap_alloc w.drew _ k hk,fun _ => Nat.le_succ _⟩,⟨_,_,_,rfl⟩,fun g hg => .inr (by injection hg with hg; simp at hg; omega),fun e0 he0 _ t' ht' g hg => by
          obtain rfl:=Option.some.inj ht'
          obtain rfl:e = e0:=by rw [hu] at he0; injection he0 with he0; injection he0
          injection hg with hg
          subst hg
          exact ⟨rfl,_,_,heap_alloc_new w.drew _⟩⟩
end Go.Proofs.Ytefpgfdemmllpaa
namespace Go.Proofs.Ytefpgfdemmllpaa
open Go.RowKit

theorem wp_of_val {P:Program} {o:Oper} {a:Act} {w w':World} {v:Value} {K:Act → World → Prop} {Q:Exit → Act → World → Prop} (h:(execOp a.eval o).run P w = .ok (.value v) w') (hk:K (a.put o.dst v) w'):o.wp P a w K Q:=by
  unfold Oper.wp
  rw [h]
  exact hk
theorem wp_of_skip {P:Program} {o:Oper} {a:Act} {w w':World} {K:Act → World → Prop} {Q:Exit → Act → World → Prop} (h:(execOp a.eval o).run P w = .ok .skip w') (hk:K (a.put o.dst undef) w'):o.wp P a w K Q:=by
  unfold Oper.wp
  rw [h]
  exact hk
theorem wp_of_enter {P:Program} {o:Oper} {a:Act} {w w':World} {f:FuncId} {args:Array Value} {K:Act → World → Prop} {Q:Exit → Act → World → Prop} (h:(execOp a.eval o).run P w = .ok (.enter f args) w')
    (hk:Calls P f args w' fun e w'' => ∃ v,e = .returned v ∧ K (a.put o.dst v) w''):o.wp P a w K Q:=by
  unfold Oper.wp
  rw [h]
  refine hk.mono ?_
  rintro e w'' ⟨v,rfl,hv⟩
  exact hv

section
variable {E:Env} {n:Nat} {w0:World} {S0:Cx} {s:St} {a:Act} {w:World} {ν:Nat → Value} {S:Nat → Prop} {F:Reg} {o:Oper} {K:St → Prop} {Q:Exit → Act → World → Prop}

theorem opOK_dst (ho:opOK n o = true):∀ d,o.dst = some d → d < n:=by
  intro d hd
  simp only [opOK,hd,Bool.and_eq_true] at ho
  have:=ho.2
  simp only [Nat.blt_eq] at this
  exact this
theorem opOK_arg (ho:opOK n o = true) {x:Operand} (hx:x ∈ o.op.operands):constOK x = true:=by
  simp only [opOK,Bool.and_eq_true,List.all_eq_true] at ho
  exact ho.1 x (Array.mem_toList_iff.2 hx)

theorem Full.val (h:Full n w0 S0 s a w ν S) (ho:opOK n o = true) {p:PV} {v:Value} (hr:(execOp a.eval o).run E.P w = .ok (.value v) w) (hp:PRel h.c p v) (hK:K (s.fin o.dst (.val p))) :
    o.wp E.P a w (fun a' w' => ∃ s',K s' ∧ Rel n w0 S0 s' a' w') Q :=
  wp_of_val hr ⟨_,hK,(h.put (opOK_dst ho) hp).rel⟩

theorem PRel_val_int {c:Ctx} {k:IntKind} {x:Int} {v:Value} (h:PRel c (.iv (.int k) x) v):v = .int k x ∧ k.min ≤ x ∧ x ≤ k.max:=by
  simp only [PRel] at h
  obtain ⟨_,hv,h⟩:=h
  injection hv with hv
  exact ⟨hv,h⟩
theorem PRel_int {c:Ctx} {k:IntKind} {x:Int} (h:k.min ≤ x ∧ x ≤ k.max):PRel c (.iv (.int k) x) (.int k x):=by
  simp only [PRel]; exact ⟨rfl,rfl,h⟩
theorem PRel_val_bool {c:Ctx} {x:Bool} {v:Value} (h:PRel c (.iv .bool x) v):v = .bool x:=by
  simp only [PRel] at h
  obtain ⟨_,hv⟩:=h
  injection hv
theorem PRel_bool {c:Ctx} {x:Bool}:PRel c (.iv .bool x) (.bool x):=by
  simp only [PRel]; exact ⟨rfl,rfl⟩
theorem PRel_val_str {c:Ctx} {x:List UInt8} {v:Value} (h:PRel c (.iv .str x) v):v = .string ⟨x.toArray⟩ ∧ x.length ≤ 9223372036854775807:=by
  simp only [PRel] at h
  obtain ⟨_,hv,h⟩:=h
  injection hv with hv
  exact ⟨hv,h⟩
theorem PRel_str {c:Ctx} {x:List UInt8} (h:x.length ≤ 9223372036854775807):PRel c (.iv .str x) (.string ⟨x.toArray⟩):=by
  simp only [PRel]; exact ⟨rfl,rfl,h⟩

theorem op_move (h:Full n w0 S0 s a w ν S) (ho:opOK n o = true) {x:Operand} (hop:o.op = .move x) (hout:OutK E (stepF E F s o) (fun l => K (s.fin o.dst l))):o.wp E.P a w (fun a' w' => ∃ s',K s' ∧ Rel n w0 S0 s' a' w') Q:=by
  simp only [stepF,hop,OutK] at hout
  refine h.val ho ?_ (h.ev (opOK_arg ho (by simp [hop,Op.operands]))) hout
  simp only [execOp,hop,Sem.run_pure]
theorem op_assign (h:Full n w0 S0 s a w ν S) (ho:opOK n o = true) {x:Operand} (hop:o.op = .assign x) (hout:OutK E (stepF E F s o) (fun l => K (s.fin o.dst l))):o.wp E.P a w (fun a' w' => ∃ s',K s' ∧ Rel n w0 S0 s' a' w') Q:=by
  simp only [stepF,hop,OutK] at hout
  refine h.val ho ?_ (h.ev (opOK_arg ho (by simp [hop,Op.operands]))) hout
  simp only [execOp,hop,Sem.run_pure]
theorem op_nilCheck (h:Full n w0 S0 s a w ν S) (ho:opOK n o = true) {x:Operand} (hop:o.op = .nilCheck x) (hout:OutK E (stepF E F s o) (fun l => K (s.fin o.dst l))):o.wp E.P a w (fun a' w' => ∃ s',K s' ∧ Rel n w0 S0 s' a' w') Q:=by
  simp only [stepF,hop] at hout
  have hx:=h.ev (opOK_arg ho (x:=x) (by simp [hop,Op.operands]))
  have fin:∀ {p:PV} {ad:Addr},PRel h.c p (a.eval x) → a.eval x = .pointer (some ad) → K (s.fin o.dst (.val p)) → o.wp E.P a w (fun a' w' => ∃ s',K s' ∧ Rel n w0 S0 s' a' w') Q:=by
    intro p ad hr he hk
    rw [he] at hr
    refine h.val ho ?_ hr hk
    simp only [execOp,hop,he,Sem.run_pure]
  split at hout
  · rename_i id off hev
    rw [hev] at hx
    have hx':=hx
    simp only [PRel] at hx'
    obtain ⟨_,g,_,hv⟩:=hx'
    exact fin hx hv hout
  · rename_i U y off hev
    rw [hev] at hx
    have hx':=hx
    simp only [PRel] at hx'
    obtain ⟨_,g,ob,cs,hv,_⟩:=hx'
    exact fin hx hv hout
  · rename_i id sz i off hev
    rw [hev] at hx
    have hx':=hx
    simp only [PRel] at hx'
    obtain ⟨_,g,ob,n,cap,_,_,hv⟩:=hx'
    exact fin hx hv hout
  · rename_i U y hev
    rw [hev] at hx
    have hx':=hx
    simp only [PRel,RepR,RepV,RepC] at hx'
    obtain ⟨ho',g,ob,cs,hv,hS,hl,hc,hr⟩:=hx'
    simp only [List.cons.injEq,and_true] at hv
    refine fin (p:=.eptr U y 0) (ad:=⟨g,ob,none⟩) ?_ hv hout
    simp only [PRel]
    exact ⟨ho',g,ob,cs,hv,hS,hl,hc,hr⟩
  · exact hout.elim
theorem noOwn_owns:∀ {T:Ty},noOwn T = true → owns T = 0:=by
  intro T
  induction T with
  | own t => intro h; cases h
  | pair a b iha ihb => intro h; simp only [noOwn,Bool.and_eq_true] at h; simp only [owns,iha h.1,ihb h.2]
  | tup a b iha ihb => intro h; simp only [noOwn,Bool.and_eq_true] at h; simp only [owns,iha h.1,ihb h.2]
  | mp a b iha ihb => intro h; simp only [noOwn,Bool.and_eq_true] at h; simp only [owns,iha h.1,ihb h.2]
  | st t ih => exact ih
  | sl t ih => exact ih
  | ptr t ih => exact ih
  | clo f t ih => exact ih
  | _ => intro _; rfl
theorem op_pick (h:Full n w0 S0 s a w ν S) (ho:opOK n o = true) {x y z:Operand} (hop:o.op = .pick x y z) (hout:OutK E (stepF E F s o) (fun l => K (s.fin o.dst l))):o.wp E.P a w (fun a' w' => ∃ s',K s' ∧ Rel n w0 S0 s' a' w') Q:=by
  simp only [stepF,hop] at hout
  have hx:=h.ev (opOK_arg ho (x:=x) (by simp [hop,Op.operands]))
  have hy:=h.ev (opOK_arg ho (x:=y) (by simp [hop,Op.operands]))
  have hz:=h.ev (opOK_arg ho (x:=z) (by simp [hop,Op.operands]))
  split at hout
  · rename_i b hb
    rw [hb] at hx
    have hv:=PRel_val_bool hx
    cases b
    · refine h.val ho ?_ hz hout
      simp [execOp,hop,hv,asBool]
    · refine h.val ho ?_ hy hout
      simp [execOp,hop,hv,asBool]
  · exact hout.elim

theorem op_makeInterface (hE:EnvOK E) (h:Full n w0 S0 s a w ν S) (ho:opOK n o = true) {t:Nat} {x:Operand} (hop:o.op = .makeInterface t x) (hout:OutK E (stepF E F s o) (fun l => K (s.fin o.dst l))):o.wp E.P a w (fun a' w' => ∃ s',K s' ∧ Rel n w0 S0 s' a' w') Q:=by
  simp only [stepF,hop] at hout
  have hx:=h.ev (opOK_arg ho (x:=x) (by simp [hop,Op.operands]))
  split at hout
  · rename_i hc
    have hc:=hE.con t hc
    unfold conB at hc
    refine h.val ho (p:=.ifc t [s.ev x]) (v:=.iface t (a.eval x)) ?_ (by simp only [PRel,PRels]; exact ⟨_,rfl,_,[],rfl,hx,rfl⟩) hout
    cases hu:E.P.underlying t with
    | none => rw [hu] at hc; cases hc
    | some d =>
      rw [hu] at hc
      have hi:(Instr.makeInterface t (a.eval x)).run E.P w = .ok (.iface t (a.eval x)) w:=by
        unfold Instr.makeInterface
        simp only [Sem.run_bind,run_underlying hu,Result.andThen_ok]
        cases d <;> first | (cases hc; done) | rfl
      simp only [execOp,hop,Sem.run_bind,hi,Result.andThen_ok,Sem.run_pure]
  · exact hout.elim

theorem op_typeAssert (hE:EnvOK E) (h:Full n w0 S0 s a w ν S) (ho:opOK n o = true) {x:Operand} {xt u:Nat} {ok:Bool} (hop:o.op = .typeAssert x xt u ok) (hout:OutK E (stepF E F s o) (fun l => K (s.fin o.dst l))):o.wp E.P a w (fun a' w' => ∃ s',K s' ∧ Rel n w0 S0 s' a' w') Q:=by
  simp only [stepF,hop] at hout
  have hx:=h.ev (opOK_arg ho (x:=x) (by simp [hop,Op.operands]))
  split at hout
  · rename_i hc
    have hc:=hE.con u hc
    unfold conB at hc
    unfold assertO at hout
    split at hout
    · rename_i t q hev
      rw [hev] at hx
      simp only [PRel,PRels] at hx
      obtain ⟨v,hv,v',r,hvr,hq,hr⟩:=hx
      subst hr
      injection hvr with hvr
      subst hvr
      have hi:Nat.beq t u = true → (Instr.typeAssert (a.eval x) xt u ok).run E.P w = .ok (if ok then .tuple #[v,.bool true] else v) w:=fun hb => by
        have e:=Nat.eq_of_beq_eq_true hb
        subst e
        rw [hv]
        cases hu:E.P.underlying t with
        | none => rw [hu] at hc; cases hc
        | some d =>
          rw [hu] at hc
          unfold Instr.typeAssert
          simp only [Sem.run_bind,run_underlying hu,Result.andThen_ok]
          cases d <;> first | (cases hc; done) | simp
      split at hout
      · rename_i hb
        refine h.val (v:=.tuple #[v,.bool true]) ho ?_ ?_ hout
        · have:=hi hb
          simp only [execOp,hop,Sem.run_bind,this,Result.andThen_ok,Sem.run_pure,if_true]
          try rfl
        · simp only [PRel,PRels]
          exact ⟨[v,.bool true],rfl,v,_,rfl,hq,.bool true,[],rfl,PRel_bool,rfl⟩
      · rename_i hb
        refine h.val (v:=v) ho ?_ hq hout
        have:=hi hb
        simp only [execOp,hop,Sem.run_bind,this,Result.andThen_ok,Sem.run_pure,Bool.false_eq_true,if_false]
        try rfl
      · exact hout.elim
    · exact hout.elim
  · exact hout.elim

theorem Full.newBox (h:Full n w0 S0 s a w ν S) {d:Nat} (hd:d < n) (hl:look d s.bl = none) {cs:List PV} {vs:List Value} {e:TypeId} {te:Option Nat} (hte:∀ t,te = some t → e = t) (h1:∀ u,u ∈ vs → u.oneCell' = true) (hp:PRels h.c cs vs) :
    Rel n w0 S0 ⟨(d,.ref d 0) :: s.sl,(d,.box cs te) :: s.bl⟩ (a.put (some d) (.pointer (some ⟨w.heap.size,0,none⟩))) (w.alloc (.cells vs.toArray e)):=by
  have hD:(⟨(d,.ref d 0) :: s.sl,(d,.box cs te) :: s.bl⟩:St).D d:=⟨_,look_cons_self _ _ _⟩
  have hne:∀ i,s.D i → i ≠ d ∧ (⟨(d,.ref d 0) :: s.sl,(d,.box cs te) :: s.bl⟩:St).D i:=by
    rintro i ⟨c,hc⟩
    have hne:i ≠ d:=by rintro rfl; rw [hl] at hc; cases hc
    exact ⟨hne,c,by rw [look_cons_ne _ _ hne]; exact hc⟩
  have hle:Ctx.Le h.c ⟨fun i => if i = d then .pointer (some ⟨w.heap.size,0,none⟩) else ν i,(⟨(d,.ref d 0) :: s.sl,(d,.box cs te) :: s.bl⟩:St).D,w.alloc (.cells vs.toArray e),⟨S,own0 w0 S0⟩⟩ :=
    ⟨fun g hg => Below.heap_alloc w _ g (h.W.lt g hg),fun _ h => h,fun i hi => (hne i hi).2,fun i hi => by simp [(hne i hi).1,Full.c]⟩
  refine (h.new (b:=.box cs te) (p:=.ref d 0) (v:=.pointer (some ⟨w.heap.size,0,none⟩)) (val:=.pointer (some ⟨w.heap.size,0,none⟩)) hd hl (grownD_alloc w _ none) (fun g hg => h.beyond (by injection hg with hg; simp at hg; omega)) ?_ ?_).rel
  · exact ⟨fun t ht g hg => by
      simp only [if_true,blockOf,Option.some.injEq] at hg
      subst hg
      rw [← hte t ht]
      exact ⟨by simp [offV],_,_,_root_.Go.heap_alloc_new w _⟩,w.heap.size,vs.toArray,e,by simp,h.W.size _ (Nat.le_refl _),fun hS => absurd (h.W.lt _ hS) (by simp),_root_.Go.heap_alloc_new w _,by simpa using h1,by simpa using PRels_mono hle hp⟩
  · simp only [PRel]
    exact ⟨hD,w.heap.size,by simp,rfl⟩

theorem zero_rel {c:Ctx}:∀ (T:Ty) (cs:List PV),zeroCells T = some cs → ∃ vs,zeroVals T = some vs ∧ PRels c cs vs ∧ ∀ u,u ∈ vs → u.oneCell' = true:=by
  intro T
  induction T with
  | unit => intro cs h; simp only [zeroCells,Option.some.injEq] at h; subst h; exact ⟨[],rfl,by simp only [PRels],by simp⟩
  | int k =>
    intro cs h; simp only [zeroCells,Option.some.injEq] at h; subst h
    refine ⟨[.int k 0],rfl,?_,by simp [Value.oneCell']⟩
    simp only [PRels]
    exact ⟨_,[],rfl,PRel_int (by cases k <;> decide),rfl⟩
  | bool => intro cs h; simp only [zeroCells,Option.some.injEq] at h; subst h; exact ⟨[.bool false],rfl,by simp only [PRels]; exact ⟨_,[],rfl,PRel_bool,rfl⟩,by simp [Value.oneCell']⟩
  | str => intro cs h; simp only [zeroCells,Option.some.injEq] at h; subst h; exact ⟨[.string ⟨#[]⟩],rfl,by simp only [PRels]; exact ⟨_,[],rfl,PRel_str (by simp),rfl⟩,by simp [Value.oneCell']⟩
  | sl t => intro cs h; simp only [zeroCells,Option.some.injEq] at h; subst h; exact ⟨[.slice none 0 0],rfl,by simp only [PRels,PRel]; exact ⟨_,[],rfl,rfl,rfl⟩,by simp [Value.oneCell']⟩
  | own t => intro cs h; simp [zeroCells] at h
  | tup a b => intro cs h; simp [zeroCells] at h
  | ptr t => intro cs h; simp only [zeroCells,Option.some.injEq] at h; subst h; exact ⟨[.pointer none],rfl,by simp only [PRels,PRel]; exact ⟨_,[],rfl,rfl,rfl⟩,by simp [Value.oneCell']⟩
  | clo f t => intro cs h; simp [zeroCells] at h
  | mp a b =>
    intro cs h
    simp only [zeroCells] at h
    split at h
    · rename_i hn
      simp only [Option.some.injEq] at h
      subst h
      exact ⟨[.map none],rfl,by simp only [PRels,PRel,RepR,RepV,RepC]; exact ⟨_,[],rfl,⟨noOwn_owns hn,by simp,.inl ⟨rfl,trivial⟩⟩,rfl⟩,by simp [Value.oneCell']⟩
    · simp only [Option.some.injEq] at h
      subst h
      exact ⟨[.map none],rfl,by simp only [PRels,PRel]; exact ⟨_,[],rfl,trivial,rfl⟩,by simp [Value.oneCell']⟩
  | fnv => intro cs h; simp only [zeroCells,Option.some.injEq] at h; subst h; exact ⟨[.nilFunc],rfl,by simp only [PRels,PRel]; exact ⟨_,[],rfl,trivial,rfl⟩,by simp [Value.oneCell']⟩
  | st t ih => intro cs h; exact ih cs h
  | pair a b iha ihb =>
    intro cs h
    simp only [zeroCells] at h
    split at h
    · rename_i x y hx hy
      simp only [Option.some.injEq] at h
      subst h
      obtain ⟨va,ha,hpa,h1a⟩:=iha x hx
      obtain ⟨vb,hb,hpb,h1b⟩:=ihb y hy
      refine ⟨va ++ vb,by simp only [zeroVals,ha,hb],PRels_append hpa hpb,fun u hu => ?_⟩
      rcases List.mem_append.1 hu with hu | hu
      · exact h1a u hu
      · exact h1b u hu
    · cases h

theorem zero_cells {T:Ty} {z:Value} {vs:List Value} (hz:zeroOK (some z) T = true) (hv:zeroVals T = some vs):z.cells.toList = vs:=by
  unfold zeroOK at hz
  rw [hv] at hz
  simp only at hz
  split at hz
  · split at hz
    · exact valsEq_spec hz
    · cases hz
  · split at hz
    · rename_i u
      have:=valEq_spec hz
      subst this
      unfold valEq at hz
      split at hz <;> first | rfl | cases hz
    · cases hz

theorem op_alloc (hE:EnvOK E) (h:Full n w0 S0 s a w ν S) (ho:opOK n o = true) {t:Nat} (hop:o.op = .alloc t) (hout:OutK E (stepF E F s o) (fun l => K (s.fin o.dst l))):o.wp E.P a w (fun a' w' => ∃ s',K s' ∧ Rel n w0 S0 s' a' w') Q:=by
  simp only [stepF,hop] at hout
  split at hout
  · rename_i T d hT hd
    split at hout
    · rename_i cs hl hz
      simp only [OutK,St.fin,hd] at hout
      obtain ⟨vs,hvs,hp,h1⟩:=zero_rel (c:=h.c) T cs hz
      obtain ⟨i,hi,_,_,hzo,z,hzz,_⟩:=(hE.facts hT).info
      rw [hzz] at hzo
      have hzc:=zero_cells hzo hvs
      have hr:(execOp a.eval o).run E.P w = .ok (.value (.pointer (some ⟨w.heap.size,0,none⟩))) (w.alloc (.cells vs.toArray t)):=by
        simp only [execOp,hop,Instr.alloc,Sem.run_bind,zeroValue,typeInfo,Sem.run_bind,run_program,Result.andThen_ok,hi,hzz,Sem.run_pure,newVar,newRow,run_newObj]
        rw [← hzc]
        rfl
      refine wp_of_val hr ⟨_,hout,?_⟩
      rw [hd]
      exact h.newBox (opOK_dst ho d hd) hl (fun t' ht => by cases hb:E.boxT t with | true => (rw [hb] at ht; exact Option.some.inj ht) | false => (rw [hb] at ht; cases ht)) h1 hp
    · exact hout.elim
  · exact hout.elim

theorem op_box (h:Full n w0 S0 s a w ν S) (ho:opOK n o = true) {t:Nat} {x:Operand} (hop:o.op = .box t x) (hout:OutK E (stepF E F s o) (fun l => K (s.fin o.dst l))):o.wp E.P a w (fun a' w' => ∃ s',K s' ∧ Rel n w0 S0 s' a' w') Q:=by
  simp only [stepF,hop] at hout
  have hx:=h.ev (opOK_arg ho (x:=x) (by simp [hop,Op.operands]))
  split at hout
  · rename_i d cs hd hcs
    split at hout
    · rename_i hl
      simp only [OutK,St.fin,hd] at hout
      obtain ⟨hp,h1⟩:=PRel_cells hx hcs
      have hr:(execOp a.eval o).run E.P w = .ok (.value (.pointer (some ⟨w.heap.size,0,none⟩))) (w.alloc (.cells (a.eval x).cells.toList.toArray t)):=by
        simp only [execOp,hop,Instr.box,Sem.run_bind,newVar,newRow,run_newObj,Result.andThen_ok,Sem.run_pure,Array.toArray_toList]
        rfl
      refine wp_of_val hr ⟨_,hout,?_⟩
      rw [hd]
      exact h.newBox (opOK_dst ho d hd) hl (fun t' ht => by cases ht) h1 hp
    · exact hout.elim
  · exact hout.elim

theorem Full.newArr (h:Full n w0 S0 s a w ν S) {d:Nat} (hd:d < n) (hl:look d s.bl = none) {T:Ty} {te:Option Nat} {xs:List T.den} {v:Value} {w':World} (hT:owns T = 0) (hw:GrownD w w' none) (hs:∃ a n c,v = .slice a n c)
    (hfresh:∀ g,blockOf v = some g → w.heap.size ≤ g) (hr:RepC (.own T) xs w' ⟨S,own0 w0 S0⟩ [v]) (hte:elemIs te w' v) :
    Rel n w0 S0 ⟨(d,.lfull d) :: s.sl,(d,.arr T xs te) :: s.bl⟩ (a.put (some d) v) w':=by
  refine (h.new (b:=.arr T xs te) (p:=.lfull d) (v:=v) (val:=v) hd hl hw (fun g hg => h.beyond (hfresh g hg)) ?_ ?_).rel
  · exact ⟨hte.keep (by simp) fun _ _ => rfl,hT,by simpa using hr⟩
  · simp only [PRel]
    exact ⟨⟨_,look_cons_self _ _ _⟩,by simp,hs⟩

theorem evParts_eq (s:St):∀ (l:List (Nat × Operand)),evParts s l = l.map fun p => (p.1,s.ev p.2)
  | [] => rfl
  | p :: l => by simp [evParts,evParts_eq s l]
theorem evAll_eq (s:St):∀ (l:List Operand),evAll s l = l.map s.ev
  | [] => rfl
  | p :: l => by simp [evAll,evAll_eq s l]
theorem evAll_rel (h:Full n w0 S0 s a w ν S):∀ (l:List Operand),(∀ x,x ∈ l → constOK x = true) → PRels h.c (evAll s l) (l.map a.eval)
  | [],_ => by simp only [evAll,List.map_nil,PRels]
  | x :: l,hc => by
    simp only [evAll,List.map_cons,PRels]
    exact ⟨_,_,rfl,h.ev (hc x (by simp)),evAll_rel h l (fun y hy => hc y (by simp [hy]))⟩
end

/-! ### Literals -/

theorem fold_set:∀ (vs:List Value) (k off:Nat) (cells:Array Value),off + k + vs.length ≤ cells.size →
    ((vs.zipIdx k).foldl (fun cs p => cs.setIfInBounds (off + p.2) p.1) cells).toList = cells.toList.take (off + k) ++ vs ++ cells.toList.drop (off + k + vs.length)
  | [],k,off,cells,h => by simp
  | v :: vs,k,off,cells,h => by
    simp only [List.length_cons] at h
    simp only [List.zipIdx_cons,List.foldl_cons]
    rw [fold_set vs (k + 1) off _ (by simp; omega)]
    simp only [Array.toList_setIfInBounds]
    have h1:(cells.toList.set (off + k) v).take (off + (k + 1)) = cells.toList.take (off + k) ++ [v]:=by
      rw [show off + (k + 1) = (off + k) + 1 from by omega,List.take_succ_eq_append_getElem (by simp; omega)]
      rw [List.take_set_of_le (by omega),List.getElem_set_self]
    have h2:(cells.toList.set (off + k) v).drop (off + (k + 1) + vs.length) = cells.toList.drop (off + k + (v :: vs).length):=by
      rw [List.drop_set_of_lt (by omega)]
      congr 1
      simp
      omega
    rw [h1,h2]
    simp

theorem fill_one {place:Nat → Option (Nat × Nat)} {i off size:Nat} {v:Value} {cells:Array Value} {rest:List (Nat × Value)} (hp:place i = some (off,size)) (hs:v.cells.size = size) (hf:off + v.cells.size ≤ cells.size) :
    Instr.fill place cells ((i,v) :: rest) = Instr.fill place (cells.toList.take off ++ v.cells.toList ++ cells.toList.drop (off + v.cells.size)).toArray rest:=by
  simp only [Instr.fill,hp]
  rw [if_neg (by simp [hs]; omega)]
  congr 1
  have:=fold_set v.cells.toList 0 off cells (by simpa using hf)
  simp only [Nat.add_zero] at this
  have e:(v.cells.zipIdx.foldl (fun cs x => match x with | (c,j) => cs.setIfInBounds (off + j) c) cells) = (v.cells.toList.zipIdx.foldl (fun cs p => cs.setIfInBounds (off + p.2) p.1) cells):=by
    rw [← Array.foldl_toList,Array.toList_zipIdx]
  rw [e]
  apply Array.toList_inj.1
  rw [this]
  simp

theorem fill_rel {c:Ctx} {T:Ty} {place:Nat → Option (Nat × Nat)} (hpl:∀ i,i < arrLen T → place i = some (offOf T i,(fldTy T i).cells)):∀ (ps:List (Nat × PV)) (vs:List (Nat × Value)) (cs cs':List PV) (cells:Array Value),
    ps.length = vs.length → (∀ (k:Nat) (p:Nat × PV) (v:Nat × Value),ps[k]? = some p → vs[k]? = some v → p.1 = v.1 ∧ PRel c p.2 v.2) → PRels c cs cells.toList → (∀ u,u ∈ cells.toList → u.oneCell' = true) → fillO T ps cs = some cs' →
    ∃ out,Instr.fill place cells vs = some out ∧ PRels c cs' out.toList ∧ ∀ u,u ∈ out.toList → u.oneCell' = true
  | [],[],cs,cs',cells,_,_,hc,h1,h => by
    simp only [fillO,Option.some.injEq] at h
    subst h
    exact ⟨cells,rfl,hc,h1⟩
  | [],_ :: _,_,_,_,hl,_,_,_,_ => by cases hl
  | _ :: _,[],_,_,_,hl,_,_,_,_ => by cases hl
  | p :: ps,v :: vs,cs,cs',cells,hl,hr,hc,h1,h => by
    obtain ⟨hpv,hrel⟩:=hr 0 p v rfl rfl
    simp only [fillO] at h
    split at h
    · rename_i us hus
      obtain ⟨hus',h1'⟩:=PRel_cells hrel hus
      split at h
      · rename_i hle hbl hlt
        have hlen:us.length = (fldTy T p.1).cells:=by
          have:∀ {α:Type} (l:List α) (k:Nat),lenEq l k = true → l.length = k:=by
            intro α l
            induction l with
            | nil => intro k hk; cases k <;> first | rfl | cases hk
            | cons x l ih => intro k hk; cases k with
              | zero => cases hk
              | succ k => simp [ih k hk]
          exact this _ _ hle
        have hvl:us.length = v.2.cells.size:=by rw [PRels_len hus']; simp
        have hcl:=PRels_len hc
        have hble:=Nat.le_of_ble_eq_true hbl
        have hlt':p.1 < arrLen T:=by simpa [Nat.blt_eq] using hlt
        have hcl':cs.length = cells.size:=by rw [hcl]; simp
        obtain ⟨pi,pv⟩:=p
        obtain ⟨vi,vv⟩:=v
        simp only at hpv hlt' hlen hvl hble
        subst hpv
        rw [fill_one (hpl pi hlt') (by rw [← hvl,hlen]) (by rw [← hvl,← hcl']; exact hble)]
        refine fill_rel hpl ps vs _ cs' _ (by simpa using hl) (fun k p' v' hp' hv' => hr (k + 1) p' v' hp' hv') ?_ ?_ h
        · simp only [hvl]
          exact PRels_append (PRels_append (PRels_take _ hc) hus') (PRels_drop _ hc)
        · intro u hu
          simp only [List.mem_append] at hu
          rcases hu with (hu | hu) | hu
          · exact h1 u (List.mem_of_mem_take hu)
          · exact h1' u hu
          · exact h1 u (List.mem_of_mem_drop hu)
      · cases h
    · cases h
end Go.Proofs.Ytefpgfdemmllpaa
namespace Go.Proofs.Ytefpgfdemmllpaa
open Go.RowKit

section
variable {E:Env} {n:Nat} {w0:World} {S0:Cx} {s:St} {a:Act} {w:World} {ν:Nat → Value} {S:Nat → Prop} {F:Reg} {o:Oper} {K:St → Prop} {Q:Exit → Act → World → Prop}

theorem fieldsOK_at {ty : Nat → Option Ty} : ∀ (fs : List Field) (R : Ty) (off : Nat), fieldsOK ty fs R off = true → ∀ (i : Nat), i < chainLen R → ∃ f, fs[i]? = some f ∧ f.offset = off + fieldOff R i ∧ ty f.type = some (fieldTy R i) ∧ 1 ≤ (fieldTy R i).cells ∧ (fieldTy R i).val = true ∧ f.name ≠ "_"
  | [],R,off,h,i,hi => by cases h
  | [f],R,off,h,i,hi => by
    simp only [fieldsOK,Bool.and_eq_true,tyIs] at h
    obtain ⟨⟨⟨⟨h1,h2⟩,h3⟩,h4⟩,h5⟩:=h
    have hne:∀ x y,R ≠ .pair x y:=by rintro x y rfl; cases h4
    have hcl:chainLen R = 1:=by cases R <;> first | rfl | exact absurd rfl (hne _ _)
    have hi0:i = 0:=by omega
    subst hi0
    have hfo:fieldOff R 0 = 0:=by cases R <;> first | rfl | exact absurd rfl (hne _ _)
    have hft:fieldTy R 0 = R:=by cases R <;> first | rfl | exact absurd rfl (hne _ _)
    split at h2
    · rename_i U hU
      rw [Ty.eq_spec h2] at hU
      exact ⟨f,rfl,by rw [hfo,Nat.eq_of_beq_eq_true h1]; omega,by rw [hft]; exact hU,by rw [hft]; exact Nat.le_of_ble_eq_true h3,by rw [hft]; exact h4,by simpa using h5⟩
    · cases h2
  | f :: g :: gs,R,off,h,i,hi => by
    cases R with
    | pair x y =>
      simp only [fieldsOK,Bool.and_eq_true,tyIs] at h
      obtain ⟨⟨⟨⟨⟨h1,h2⟩,h3⟩,h4⟩,h5⟩,h6⟩:=h
      split at h2
      · rename_i U hU
        rw [Ty.eq_spec h2] at hU
        cases i with
        | zero => exact ⟨f,rfl,by simp [fieldOff,Nat.eq_of_beq_eq_true h1],hU,Nat.le_of_ble_eq_true h3,h4,by simpa using h5⟩
        | succ i =>
          obtain ⟨f',e1,e2,e3⟩:=fieldsOK_at (g :: gs) y (off + x.cells) (by unfold fieldsOK; exact h6) i (by simp [chainLen] at hi; omega)
          exact ⟨f',by simpa using e1,by simp only [fieldOff]; omega,e3⟩
      · cases h2
    | _ => simp only [fieldsOK] at h; cases h

theorem fieldsOK_len {ty:Nat → Option Ty}:∀ (fs:List Field) (R:Ty) (off:Nat),fieldsOK ty fs R off = true → fs.length = chainLen R
  | [],R,off,h => by cases h
  | [f],R,off,h => by
    simp only [fieldsOK,Bool.and_eq_true] at h
    have h4:=h.1.2
    cases R <;> first | rfl | cases h4
  | f :: g :: gs,R,off,h => by
    cases R with
    | pair x y =>
      simp only [fieldsOK,Bool.and_eq_true] at h
      have:=fieldsOK_len (g :: gs) y (off + x.cells) (by unfold fieldsOK; exact h.2)
      simp only [List.length_cons] at this ⊢
      simp only [chainLen]
      omega
    | _ => simp only [fieldsOK] at h; cases h

theorem rowOf_len (V:Ty) (hV:V.val = true):∀ n,0 < n → chainLen (rowOf V n) = n
  | 0,h => by cases h
  | 1,_ => by cases V <;> first | rfl | cases hV
  | n + 2,_ => by simp only [rowOf,chainLen]; rw [rowOf_len V hV (n + 1) (by omega)]; omega
theorem rowOf_off (V:Ty) (hV:V.val = true):∀ n i,i < n → fieldOff (rowOf V n) i = i * V.cells ∧ fieldTy (rowOf V n) i = V
  | 0,i,h => by cases h
  | 1,i,h => by
    have:i = 0:=by omega
    subst this
    cases V <;> first | exact ⟨by simp [rowOf,fieldOff],rfl⟩ | cases hV
  | n + 2,0,_ => by simp [rowOf,fieldOff,fieldTy]
  | n + 2,i + 1,h => by
    obtain ⟨h1,h2⟩:=rowOf_off V hV (n + 1) i (by omega)
    simp only [rowOf,fieldOff,fieldTy]
    exact ⟨by rw [h1,Nat.add_mul]; omega,h2⟩
theorem rowOf_cells (V:Ty):∀ n,(rowOf V n).cells = n * V.cells
  | 0 => by simp [rowOf,Ty.cells]
  | 1 => by simp [rowOf]
  | n + 2 => by simp only [rowOf,Ty.cells]; rw [rowOf_cells V (n + 1),Nat.add_mul (n + 1) 1]; omega

theorem TyFacts.agg (hE:EnvOK E) {t:Nat} {R:Ty} (h:TyFacts E t (.st R)) :
    (∃ fs, E.P.underlying t = some (.struct fs) ∧ fs.size = chainLen R ∧ ∀ i, i < chainLen R → ∃ f, fs[i]? = some f ∧ f.offset = fieldOff R i ∧ E.ty f.type = some (fieldTy R i) ∧ 1 ≤ (fieldTy R i).cells ∧ (fieldTy R i).val = true ∧ f.name ≠ "_") ∨
    (∃ m e V,E.P.underlying t = some (.array m e) ∧ E.ty e = some V ∧ R = rowOf V m ∧ V.val = true ∧ 1 ≤ V.cells ∧ 2 ≤ m):=by
  obtain ⟨d,hd,hs⟩:=h.und
  cases d <;> simp only [shapeOK] at hs <;> first | cases hs | skip
  · rename_i m e
    split at hs
    · rename_i V hV
      simp only [Bool.and_eq_true] at hs
      exact .inr ⟨_,_,V,hd,hV,Ty.eq_spec hs.1.1.1,hs.1.1.2,Nat.le_of_ble_eq_true hs.1.2,Nat.le_of_ble_eq_true hs.2⟩
    · cases hs
  · rename_i fs
    refine .inl ⟨fs,hd,by simpa using fieldsOK_len _ _ _ hs,fun i hi => ?_⟩
    obtain ⟨f,h1,h2,h3⟩:=fieldsOK_at fs.toList R 0 hs i hi
    exact ⟨f,by simpa using h1,by simpa using h2,h3⟩

theorem op_build (hE:EnvOK E) (h:Full n w0 S0 s a w ν S) (ho:opOK n o = true) {t:Nat} {parts:Array (Nat × Operand)} (hop:o.op = .build t parts) (hout:OutK E (stepF E F s o) (fun l => K (s.fin o.dst l))):o.wp E.P a w (fun a' w' => ∃ s',K s' ∧ Rel n w0 S0 s' a' w') Q:=by
  simp only [stepF,hop] at hout
  split at hout
  · rename_i hemp hnil
    have he:=hE.emp t hemp
    unfold empB at he
    split at he
    · rename_i i fs hi hu
      simp only [Bool.and_eq_true] at he
      obtain ⟨h1,h2⟩:=he
      split at h2
      · rename_i cs hz
        have hcs:cs = #[]:=Array.toList_inj.1 (by simpa using h2)
        have hfs:fs = #[]:=Array.toList_inj.1 (by simpa using h1)
        have hpn:parts = #[]:=Array.toList_inj.1 (by rw [hnil])
        subst hcs; subst hfs; subst hpn
        refine h.val ho (p:=.agg []) (v:=.agg #[]) ?_ (by simp only [PRel,PRels]; exact ⟨[],rfl,by simp,rfl⟩) hout
        have hzv:(zeroValue t).run E.P w = .ok (.agg #[]) w:=by simp [zeroValue,typeInfo,hi,hz]
        simp [execOp,hop,Instr.build,hzv,run_underlying hu,Value.cells,Instr.fill]
      · cases h2
    · cases he
  simp only [buildO] at hout
  split at hout
  · rename_i R hT
    split at hout
    · rename_i z hz
      split at hout
      · rename_i cs hfill
        have hf:=hE.facts hT
        obtain ⟨vs,hvs,hp,h1⟩:=zero_rel (c:=h.c) (.st R) z hz
        obtain ⟨i,hi,hsz,_,hzo,zv,hzz,_⟩:=hf.info
        rw [hzz] at hzo
        have hzc:=zero_cells hzo hvs
        have hparts:∀ (k:Nat) (p:Nat × PV) (v:Nat × Value),(evParts s parts.toList)[k]? = some p → ((parts.map fun x => (x.1,a.eval x.2)).toList)[k]? = some v → p.1 = v.1 ∧ PRel h.c p.2 v.2:=by
          intro k p v hk hv
          rw [evParts_eq,List.getElem?_map] at hk
          simp only [Array.toList_map,List.getElem?_map] at hv
          cases hx:parts.toList[k]? with
          | none => rw [hx] at hk; cases hk
          | some x =>
            rw [hx] at hk hv
            simp only [Option.map_some,Option.some.injEq] at hk hv
            subst hk; subst hv
            refine ⟨rfl,h.ev (opOK_arg ho ?_)⟩
            have hm:x ∈ parts:=Array.mem_toList_iff.1 (List.mem_of_getElem? hx)
            simp only [hop,Op.operands,List.mem_toArray,List.mem_map]
            exact ⟨x,Array.mem_toList_iff.2 hm,rfl⟩
        have hlen:(evParts s parts.toList).length = ((parts.map fun x => (x.1,a.eval x.2)).toList).length:=by simp [evParts_eq]
        have main:∀ place:Nat → Option (Nat × Nat),(∀ i,i < arrLen (.st R) → place i = some (offOf (.st R) i,(fldTy (.st R) i).cells)) → ∃ out,Instr.fill place zv.cells (parts.map fun x => (x.1,a.eval x.2)).toList = some out ∧ PRel h.c (.agg cs) (.agg out):=by
          intro place hpl
          obtain ⟨out,h2,h3,h4⟩:=fill_rel hpl _ _ z cs zv.cells hlen hparts (by rw [hzc]; exact hp) (by rw [hzc]; exact h1) hfill
          refine ⟨out,h2,?_⟩
          simp only [PRel]
          exact ⟨out.toList,by simp,h4,h3⟩
        rcases hf.agg hE with ⟨fs,hu,hfl,hfa⟩ | ⟨m,e,V,hu,he,rfl,hV,hV1,hm⟩
        · have hmap:∀ (l:List Field),(∀ f,f ∈ l → ∃ j,E.P.info? f.type = some j) → (l.mapM fun f => do pure (f.offset,← sizeOf f.type):Sem (List (Nat × Nat))).run E.P w = .ok (l.map fun f => (f.offset,E.P.cellsOf f.type)) w:=by
            intro l
            induction l with
            | nil => intro _; simp
            | cons f l ih =>
              intro hl
              obtain ⟨j,hj⟩:=hl f (by simp)
              have:=ih (fun g hg => hl g (by simp [hg]))
              have step:(do pure (f.offset,← sizeOf f.type):Sem (Nat × Nat)).run E.P w = .ok (f.offset,E.P.cellsOf f.type) w:=by
                simp [sizeOf,typeInfo,hj,Program.cellsOf]
              rw [List.mapM_cons,Sem.run_bind,step]
              simp only [Result.andThen_ok]
              rw [Sem.run_bind,this]
              simp only [Result.andThen_ok,Sem.run_pure,List.map_cons]
          have hinfo:∀ f,f ∈ fs.toList → ∃ j,E.P.info? f.type = some j:=by
            intro f hf'
            obtain ⟨k,hk⟩:=List.getElem?_of_mem hf'
            have hkl:k < chainLen R:=by rw [← hfl]; have:=(List.getElem?_eq_some_iff.1 hk).1; simpa using this
            obtain ⟨f',h1',_,h3',_⟩:=hfa k hkl
            have:f = f':=by
              have:fs.toList[k]? = some f':=by simpa using h1'
              rw [hk] at this; injection this
            subst this
            obtain ⟨j,hj,_⟩:=(hE.facts h3').info
            exact ⟨j,hj⟩
          have hmap':=hmap fs.toList hinfo
          obtain ⟨out,hfo,hrel⟩:=main (fun i => (fs.map fun f => (f.offset,E.P.cellsOf f.type))[i]?) (fun i hi' => by
            obtain ⟨f,h1',h2',h3',_⟩:=hfa i hi'
            obtain ⟨j,hj,hjs,_⟩:=(hE.facts h3').info
            simp only [Array.getElem?_map,h1',Option.map_some,offOf,fldTy,Program.cellsOf,hj,Option.getD_some,hjs,h2'])
          refine h.val ho (v:=.agg out) ?_ hrel hout
          have hm':(fs.mapM fun f => do pure (f.offset,← sizeOf f.type):Sem (Array (Nat × Nat))).run E.P w = .ok (fs.map fun f => (f.offset,E.P.cellsOf f.type)) w:=by
            rw [Array.mapM_eq_mapM_toList,Sem.run_map,hmap']
            simp only [Result.andThen_ok]
            congr 1
            exact Array.toList_inj.1 (by simp)
          simp only [execOp,hop,Instr.build,Sem.run_bind,zeroValue,typeInfo,run_program,Result.andThen_ok,hi,hzz,Sem.run_pure,run_underlying hu,hm',hfo]
        · obtain ⟨j,hj,hjs,_⟩:=(hE.facts he).info
          obtain ⟨out,hfo,hrel⟩:=main (fun i => some (i * V.cells,V.cells)) (fun i hi' => by
            simp only [arrLen] at hi'
            rw [rowOf_len V hV m (by omega)] at hi'
            obtain ⟨e1,e2⟩:=rowOf_off V hV m i hi'
            simp only [offOf,fldTy,e1,e2])
          refine h.val ho (v:=.agg out) ?_ hrel hout
          simp only [execOp,hop,Instr.build,Sem.run_bind,zeroValue,typeInfo,run_program,Result.andThen_ok,hi,hzz,Sem.run_pure,run_underlying hu,sizeOf,hj,hjs,hfo]
      · exact hout.elim
    · exact hout.elim
  · exact hout.elim
end
end Go.Proofs.Ytefpgfdemmllpaa
namespace Go.Proofs.Ytefpgfdemmllpaa
open Go.RowKit

theorem pk_nolocal {F F':Reg} {bl bl':List (Nat × Blk)}:∀ (T:Ty) (ps:List PV) (r:T.den × List PV),PV.refsL ps = false → PV.arrsL ps = [] → pk F bl T ps = some r → pk F' bl' T ps = some r ∧ PV.refsL r.2 = false ∧ PV.arrsL r.2 = []:=by
  have cons:∀ (p:PV) (ps:List PV),PV.refsL (p :: ps) = false → PV.arrsL (p :: ps) = [] → (PV.refs p = false ∧ PV.arrs p = []) ∧ PV.refsL ps = false ∧ PV.arrsL ps = []:=by
    intro p ps h1 h2
    simp only [PV.refsL,Bool.or_eq_false_iff] at h1
    simp only [PV.arrsL,List.append_eq_nil_iff] at h2
    exact ⟨⟨h1.1,h2.1⟩,h1.2,h2.2⟩
  intro T
  induction T with
  | unit => intro ps r h1 h2 h; simp only [pk,Option.some.injEq] at h ⊢; subst h; exact ⟨rfl,h1,h2⟩
  | pair a b iha ihb =>
    intro ps r h1 h2 h
    simp only [pk] at h ⊢
    split at h
    · rename_i x r1 hx
      obtain ⟨e1,h3,h4⟩:=iha ps _ h1 h2 hx
      split at h
      · rename_i y r2 hy
        obtain ⟨e2,h5,h6⟩:=ihb r1 _ h3 h4 hy
        simp only [Option.some.injEq] at h
        subst h
        simp only [e1,e2]
        exact ⟨trivial,h5,h6⟩
      · cases h
    · cases h
  | st t ih => intro ps r h1 h2 h; simp only [pk] at h ⊢; exact ih ps r h1 h2 h
  | tup a b => intro ps r h1 h2 h; simp only [pk] at h; cases h
  | int k =>
    intro ps r h1 h2 h
    cases ps with
    | nil => simp only [pk] at h; cases h
    | cons p ps =>
      simp only [pk] at h ⊢
      obtain ⟨x,r'⟩:=r
      obtain ⟨_,h3,h4⟩:=cons p ps h1 h2
      obtain ⟨_,rfl⟩:=withR_some h
      exact ⟨h,h3,h4⟩
  | bool =>
    intro ps r h1 h2 h
    cases ps with
    | nil => simp only [pk] at h; cases h
    | cons p ps =>
      simp only [pk] at h ⊢
      obtain ⟨x,r'⟩:=r
      obtain ⟨_,h3,h4⟩:=cons p ps h1 h2
      obtain ⟨_,rfl⟩:=withR_some h
      exact ⟨h,h3,h4⟩
  | str =>
    intro ps r h1 h2 h
    cases ps with
    | nil => simp only [pk] at h; cases h
    | cons p ps =>
      simp only [pk] at h ⊢
      obtain ⟨x,r'⟩:=r
      obtain ⟨_,h3,h4⟩:=cons p ps h1 h2
      obtain ⟨_,rfl⟩:=withR_some h
      exact ⟨h,h3,h4⟩
  | sl t ih =>
    intro ps r h1 h2 h
    cases ps with
    | nil => simp only [pk] at h; cases h
    | cons p ps =>
      simp only [pk] at h ⊢
      obtain ⟨x,r'⟩:=r
      obtain ⟨⟨h5,h6⟩,h3,h4⟩:=cons p ps h1 h2
      obtain ⟨hx,rfl⟩:=withR_some h
      refine ⟨?_,h3,h4⟩
      cases p <;> first | (simp [PV.arrs] at h6; done) | exact h
  | own t ih =>
    intro ps r h1 h2 h
    cases ps with
    | nil => simp only [pk] at h; cases h
    | cons p ps =>
      simp only [pk] at h ⊢
      obtain ⟨x,r'⟩:=r
      obtain ⟨⟨h5,h6⟩,h3,h4⟩:=cons p ps h1 h2
      obtain ⟨hx,rfl⟩:=withR_some h
      refine ⟨?_,h3,h4⟩
      cases p <;> first | (simp [PV.arrs] at h6; done) | exact h
  | mp a b =>
    intro ps r h1 h2 h
    cases ps with
    | nil => simp only [pk] at h; cases h
    | cons p ps =>
      simp only [pk] at h ⊢
      obtain ⟨x,r'⟩:=r
      obtain ⟨⟨h5,h6⟩,h3,h4⟩:=cons p ps h1 h2
      obtain ⟨hx,rfl⟩:=withR_some h
      refine ⟨?_,h3,h4⟩
      cases p <;> first | (simp [PV.arrs] at h6; done) | exact h
  | fnv =>
    intro ps r h1 h2 h
    cases ps with
    | nil => simp only [pk] at h; cases h
    | cons p ps =>
      simp only [pk] at h ⊢
      obtain ⟨x,r'⟩:=r
      obtain ⟨_,h3,h4⟩:=cons p ps h1 h2
      obtain ⟨_,rfl⟩:=withR_some h
      exact ⟨h,h3,h4⟩
  | ptr t ih =>
    intro ps r h1 h2 h
    cases ps with
    | nil => simp only [pk] at h; cases h
    | cons p ps =>
      simp only [pk] at h ⊢
      obtain ⟨x,r'⟩:=r
      obtain ⟨⟨h5,h6⟩,h3,h4⟩:=cons p ps h1 h2
      cases p with
      | ref i off => simp [PV.refs] at h5
      | iv U y => obtain ⟨_,rfl⟩:=withR_some h; exact ⟨h,h3,h4⟩
      | eptr U y off =>
        cases off with
        | zero => obtain ⟨_,rfl⟩:=withR_some h; exact ⟨h,h3,h4⟩
        | succ k => cases h
      | _ => cases h
  | clo f t ih =>
    intro ps r h1 h2 h
    cases ps with
    | nil => simp only [pk] at h; cases h
    | cons p ps =>
      simp only [pk] at h ⊢
      obtain ⟨x,r'⟩:=r
      obtain ⟨⟨h5,h6⟩,h3,h4⟩:=cons p ps h1 h2
      cases p with
      | iv U y => obtain ⟨_,rfl⟩:=withR_some h; exact ⟨h,h3,h4⟩
      | fn g caps =>
        cases hb:Nat.beq f g with
        | false => simp [hb] at h
        | true =>
          simp only [hb,cond_true] at h ⊢
          obtain ⟨hx,rfl⟩:=withR_some h
          obtain ⟨e1,_⟩:=ih caps _ (by simpa [PV.refs] using h5) (by simpa [PV.arrs] using h6) (fstOf_some hx)
          exact ⟨by rw [e1]; rfl,h3,h4⟩
      | _ => cases h

theorem exp_nolocal {F F':Reg} {bl bl':List (Nat × Blk)} {T:Ty} {p:PV} {x:T.den} (h1:PV.refs p = false) (h2:PV.arrs p = []) (h:exp F bl T p = some x):exp F' bl' T p = some x:=by
  have hl1:PV.refsL [p] = false:=by simp [PV.refsL,h1]
  have hl2:PV.arrsL [p] = []:=by simp [PV.arrsL,h2]
  cases T with
  | st t =>
    cases p with
    | iv U y => exact h
    | agg cs =>
      simp only [exp] at h ⊢
      rw [(pk_nolocal (F':=F') (bl':=bl') t cs _ (by simpa [PV.refs] using h1) (by simpa [PV.arrs] using h2) (fstOf_some h)).1]
      rfl
    | _ => simp only [exp] at h; cases h
  | unit => simp only [exp] at h; cases h
  | pair a b => simp only [exp] at h; cases h
  | tup a b => simp only [exp] at h; cases h
  | _ =>
    simp only [exp] at h ⊢
    rw [(pk_nolocal (F':=F') (bl':=bl') _ _ _ hl1 hl2 (fstOf_some h)).1]
    rfl

theorem mem1_keys {id:Nat} {b:Blk}:∀ {bl:List (Nat × Blk)},look id bl = some b → mem1 id (keys bl) = true
  | [],h => by cases h
  | p :: r,h => by
    simp only [look] at h
    simp only [keys,List.map_cons,mem1]
    cases hb:Nat.beq id p.1 with
    | true => rfl
    | false => simp only [hb,cond_false] at h ⊢; exact mem1_keys h

theorem asLit_iv {T:Ty} {c:PV} {x:T.den} (h:asLit T c = some x):c = .iv T x:=by
  cases c <;> simp only [asLit] at h <;> first | cases h | skip
  rename_i U y
  obtain ⟨e,hx⟩:=Ty.cast_some h
  subst e
  simp only at hx
  rw [hx]
theorem lits_map {T:Ty}:∀ {cs:List PV} {xs:List T.den},litsOf T cs = some xs → cs = xs.map (PV.iv T)
  | [],xs,h => by simp only [litsOf,Option.some.injEq] at h; subst h; rfl
  | c :: r,xs,h => by
    simp only [litsOf] at h
    split at h
    · rename_i x ys hx hys
      simp only [Option.some.injEq] at h
      subst h
      rw [asLit_iv hx,lits_map hys]
      rfl
    · cases h
theorem litK_join {T:Ty} (h:litK T = true) (c:PV):join T [c] = c ∧ T.cells = 1 ∧ T.val = true:=by
  cases T <;> first | (cases h; done) | exact ⟨rfl,rfl,rfl⟩
theorem lits_at {T:Ty} {cs:List PV} {base m:Nat} {xs:List T.den} (h:litsOf T ((cs.drop base).take m) = some xs) {k:Nat} {x:T.den} (hx:xs[k]? = some x):(cs.drop (base + k)).take 1 = [.iv T x] ∧ k < m ∧ base + k < cs.length:=by
  have hm:=lits_map h
  have hk:((cs.drop base).take m)[k]? = some (.iv T x):=by rw [hm,List.getElem?_map,hx]; rfl
  have hkm:k < m:=by
    rcases Nat.lt_or_ge k m with h' | h'
    · exact h'
    · rw [List.getElem?_eq_none (by rw [List.length_take]; omega)] at hk; cases hk
  rw [List.getElem?_take,if_pos hkm,List.getElem?_drop] at hk
  obtain ⟨hl,e⟩:=List.getElem?_eq_some_iff.1 hk
  refine ⟨?_,hkm,hl⟩
  rw [List.drop_eq_getElem_cons hl,e]
  rfl

section
variable {E:Env} {n:Nat} {w0:World} {S0:Cx} {s:St} {a:Act} {w:World} {ν:Nat → Value} {S:Nat → Prop} {F:Reg} {o:Oper} {K:St → Prop} {Q:Exit → Act → World → Prop}

theorem Full.expNo (h:Full n w0 S0 s a w ν S) {T:Ty} {p:PV} {x:T.den} {v:Value} (ho:owns T = 0) (h1:PV.refs p = false) (h2:PV.arrs p = []) (hx:exp F s.bl T p = some x) (hp:PRel h.c p v):RepV T x w ⟨S,own0 w0 S0⟩ v:=by
  have hx':=exp_nolocal (F':=⟨keys s.bl,true⟩) (bl':=s.bl) h1 h2 hx
  refine exp_sound (s:=s) (c:=h.c) (M':=⟨S,own0 w0 S0⟩) ⟨rfl,h.W.blk,fun _ h => h,fun id hF hD g hg => ?_⟩ (.inl ho) hx' hp
  obtain ⟨b,hb⟩:=hD
  rw [mem1_keys hb] at hF
  cases hF

theorem run_loadAt (P:Program) (t:TypeId) (p:Addr) (w:World):(Instr.loadAt t (.pointer (some p))).run P w = (loadVar t p).run P w:=by
  simp [Instr.loadAt,Instr.sureAddr]

theorem CellsAt.part {w:World} {g o:Nat} {cs:List Value} (h:CellsAt w g o cs) (off k:Nat):CellsAt w g (o + off) ((cs.drop off).take k):=by
  intro j v hj
  have hjk:j < k:=by
    rcases Nat.lt_or_ge j k with h' | h'
    · exact h'
    · rw [List.getElem?_eq_none (by rw [List.length_take]; omega)] at hj; cases hj
  rw [List.getElem?_take,if_pos hjk,List.getElem?_drop] at hj
  rw [Nat.add_assoc]
  exact h _ v hj

theorem box_cells {w:World} {g:Nat} {vs:Array Value} {e:TypeId} (h:w.heap[g]? = some (.cells vs e (0,0))):CellsAt w g 0 vs.toList:=by
  intro j v hj
  rw [cell_of_row w g _ vs e (0,0) h,Nat.zero_add]
  simpa using hj

theorem op_load (hE:EnvOK E) (h:Full n w0 S0 s a w ν S) (ho:opOK n o = true) {t:Nat} {x:Operand} (hop:o.op = .load t x) (hout:OutK E (stepF E F s o) (fun l => K (s.fin o.dst l))):o.wp E.P a w (fun a' w' => ∃ s',K s' ∧ Rel n w0 S0 s' a' w') Q:=by
  simp only [stepF,hop,loadO] at hout
  have hx:=h.ev (opOK_arg ho (x:=x) (by simp [hop,Op.operands]))
  have hrun:∀ (p:Addr) (v:Value),a.eval x = .pointer (some p) → (loadVar t p).run E.P w = .ok v w → (execOp a.eval o).run E.P w = .ok (.value v) w:=by
    intro p v he hl
    simp only [execOp,hop,he,Sem.run_bind,run_loadAt,hl,Result.andThen_ok,Sem.run_pure]
  split at hout
  · rename_i T hT
    have hf:=hE.facts hT
    split at hout
    · rename_i id off hev
      split at hout
      · rename_i cs te hl
        obtain ⟨hl,_⟩:=lk_some hl
        split at hout
        · rename_i hble
          have hble:=Nat.le_of_ble_eq_true hble
          rw [hev] at hx
          simp only [PRel] at hx
          obtain ⟨hd,g,hg,hv⟩:=hx
          obtain ⟨hty,g',vs,e,hg',hB,hnS,hh,h1,hrel⟩:=h.W.blk _ _ hl
          simp only [Full.c] at hg
          simp only at hg'
          rw [hg] at hg'
          obtain rfl:g = g':=by injection hg' with e1; injection e1 with e1; injection e1
          have hcl:=PRels_len hrel
          have hc:=(box_cells hh).part off T.cells
          rw [Nat.zero_add] at hc
          refine h.val ho (hrun _ _ hv (run_loadVar hf (by rw [List.length_take,List.length_drop]; omega) hc)) ?_ hout
          refine join_rel (by rw [List.length_take,List.length_drop]; omega) hf.val (fun u hu => h1 u (List.mem_of_mem_drop (List.mem_of_mem_take hu))) (PRels_take _ (PRels_drop _ hrel))
        · exact hout.elim
      · exact hout.elim
    · rename_i U y off hev
      split at hout
      · rename_i hble
        have hble:=Nat.le_of_ble_eq_true hble
        rw [hev] at hx
        simp only [PRel] at hx
        obtain ⟨hoU,g,ob,cs,hv,hS,hcl,hc,hr⟩:=hx
        have hc':=hc.part off T.cells
        refine h.val ho (hrun _ _ hv (run_loadVar hf (by rw [List.length_take,List.length_drop]; omega) hc')) ?_ hout
        exact part_rel hoU hf.val hble hr
      · exact hout.elim
    · rename_i id sz i off hev
      split at hout
      · rename_i U xs te hl
        obtain ⟨hl,_⟩:=lk_some hl
        split at hout
        · rename_i hble hsz
          have hble:=Nat.le_of_ble_eq_true hble
          have hsz:=Nat.eq_of_beq_eq_true hsz
          obtain ⟨y,hy,hout⟩:=hout
          rw [hev] at hx
          simp only [PRel] at hx
          obtain ⟨hd,g,ob,m,cap,hν,him,hv⟩:=hx
          obtain ⟨hty,hoU,u,hu,hlx,hcase⟩:=h.W.blk _ _ hl
          simp only [Full.c] at hν
          simp only [List.cons.injEq,and_true] at hu
          rw [hν] at hu
          subst hu
          rcases hcase with ⟨hn,_⟩ | ⟨g',o',cap',cur,e,hs',hle,hcm,hnS,hB,hh,hfit,hrows⟩
          · cases hn
          · injection hs' with e1 e2 e3
            injection e1 with e1
            injection e1 with e1 e4
            subst e1; subst e4; subst e3
            obtain ⟨cs,hcl,hc,hr⟩:=hrows i y hy
            have hc':=hc.part off T.cells
            rw [hsz] at hv
            refine h.val ho (hrun _ _ hv (run_loadVar hf (by rw [List.length_take,List.length_drop]; omega) hc')) ?_ hout
            exact part_rel hoU hf.val hble hr
        · exact hout.elim
      · exact hout.elim
    · rename_i id base U m i hev
      split at hout
      · rename_i cs te hl
        obtain ⟨hl,_⟩:=lk_some hl
        split at hout
        · rename_i xs hxs hb
          simp only [Bool.and_eq_true] at hb
          obtain ⟨⟨hTU,hlit⟩,hble⟩:=hb
          have hTU:=Ty.eq_spec hTU
          subst hTU
          have hble:=Nat.le_of_ble_eq_true hble
          obtain ⟨y,hy,hout⟩:=hout
          rw [hev] at hx
          simp only [PRel] at hx
          obtain ⟨hd,h0,hn,g,hg,hv⟩:=hx
          obtain ⟨hty,g',vs,e,hg',hB,hnS,hh,h1,hrel⟩:=h.W.blk _ _ hl
          simp only [Full.c] at hg
          simp only at hg'
          rw [hg] at hg'
          obtain rfl:g = g':=by injection hg' with e1; injection e1 with e1; injection e1
          have hcl:=PRels_len hrel
          obtain ⟨e1,e2,e3⟩:=lits_at hxs hy
          obtain ⟨j1,j2,j3⟩:=litK_join hlit (.iv T y)
          have hc:=(box_cells hh).part (base + i.toNat) T.cells
          rw [Nat.zero_add] at hc
          refine h.val ho (hrun _ _ hv (run_loadVar hf (by rw [List.length_take,List.length_drop]; omega) hc)) ?_ hout
          have:=join_rel (T:=T) (c:=h.c) (by rw [List.length_take,List.length_drop]; omega) hf.val (fun u hu => h1 u (List.mem_of_mem_drop (List.mem_of_mem_take hu))) (PRels_take T.cells (PRels_drop (base + i.toNat) hrel))
          rw [j2,e1,j1] at this
          rw [j2]
          exact this
        · exact hout.elim
      · exact hout.elim
    · exact hout.elim
  · exact hout.elim
end
end Go.Proofs.Ytefpgfdemmllpaa
namespace Go.Proofs.Ytefpgfdemmllpaa
open Go.RowKit

section
variable {E:Env} {n:Nat} {w0:World} {S0:Cx} {s:St} {a:Act} {w:World} {ν:Nat → Value} {S:Nat → Prop} {F:Reg} {o:Oper} {K:St → Prop} {Q:Exit → Act → World → Prop}

theorem lenEq_spec:∀ {α:Type} {l:List α} {k:Nat},lenEq l k = true → l.length = k
  | _,[],0,_ => rfl
  | _,[],_ + 1,h => by cases h
  | _,_ :: _,0,h => by cases h
  | _,_ :: r,k + 1,h => by simp [lenEq_spec (l:=r) (k:=k) h]

theorem run_storeAt {E:Env} {t:Nat} {T:Ty} (hf:TyFacts E t T) {w:World} {g off:Nat} {v:Value} {cur:Array Value} {e:TypeId} (hg:w.heap[g]? = some (.cells cur e (0,0))) (hl:v.cells.size = T.cells) (hfit:off + T.cells ≤ cur.size) (h1:∀ u,u ∈ v.cells.toList → u.oneCell' = true) :
    (Instr.storeAt t (.pointer (some ⟨g,off,none⟩)) v).run E.P w = .ok () (w.setRow g (cur.toList.take off ++ v.cells.toList ++ cur.toList.drop (off + T.cells)).toArray):=by
  have hst:=run_storeCells_at (P:=E.P) g off e v.cells.toList 0 cur w hg (by simpa [hl] using hfit) h1
  simp only [Nat.add_zero,Array.length_toList,hl] at hst
  simp only [Instr.storeAt,Instr.sureAddr,Sem.run_bind,Sem.run_pure,Result.andThen_ok,storeVar,hf.sizeOf w,Sem.run_ite,hl,ne_eq,not_true_eq_false,if_false]
  exact hst

theorem splice_set {α:Type} (A ys B:List α) (i:Nat) (v:α) (hi:i < ys.length) (cs:List α) (h:cs = A ++ (ys ++ B)):A ++ ys.set i v ++ B = cs.take (A.length + i) ++ [v] ++ cs.drop (A.length + i + 1):=by
  subst h
  have h1:(A ++ (ys ++ B)).take (A.length + i) = A ++ ys.take i:=by
    rw [List.take_append,List.take_of_length_le (by omega),Nat.add_sub_cancel_left,List.take_append_of_le_length (by omega)]
  have h2:(A ++ (ys ++ B)).drop (A.length + i + 1) = ys.drop (i + 1) ++ B:=by
    rw [List.drop_append,List.drop_of_length_le (by omega),show A.length + i + 1 - A.length = i + 1 from by omega,List.nil_append,List.drop_append_of_le_length (by omega)]
  rw [h1,h2,List.set_eq_take_append_cons_drop,if_pos hi]
  simp [List.append_assoc]

theorem setC_eq {T:Ty} (i:Int) (y:T.den) (h0:0 ≤ i):∀ (xs:List T.den) (j:Nat),setC T i y j xs = if (j:Int) ≤ i then (xs.set (i.toNat - j) y).map (PV.iv T) else xs.map (PV.iv T)
  | [],j => by split <;> rfl
  | x :: r,j => by
    simp only [setC]
    rw [setC_eq i y h0 r (j + 1)]
    by_cases h1:i = (j:Int)
    · subst h1
      rw [if_pos rfl,if_pos (Int.le_refl _),if_neg (by omega)]
      simp
    · rw [if_neg h1]
      by_cases h2:(j:Int) ≤ i
      · rw [if_pos h2,if_pos (by omega)]
        have e:i.toNat - j = (i.toNat - (j + 1)) + 1:=by omega
        rw [e]
        simp
      · rw [if_neg h2,if_neg (by omega)]
        rfl
theorem putB_rep {c:Ctx} {q:PV} {v:Value} (hq:PRel c q v):∀ (U:Ty) (off:Nat) (f:U.den → U.den),putB U off q = some f → ∀ (x:U.den) (cs:List Value),RepC U x c.w c.M cs → off < cs.length ∧ RepC U (f x) c.w c.M (cs.set off v) ∧ v.cells = #[v]
  | .bool,off,f,h,x,cs,hx => by
    simp only [putB] at h
    split at h
    · rename_i y
      injection h with h
      subst h
      simp only [PRel] at hq
      have hv:[v] = [Value.bool y]:=hq.2
      injection hv with hv
      subst hv
      have hx:cs = [.bool x]:=hx
      subst hx
      exact ⟨by simp,rfl,rfl⟩
    · cases h
  | .int k,off,f,h,x,cs,hx => by
    simp only [putB] at h
    split at h
    · rename_i k' y
      split at h
      · rename_i he
        have he:=Ty.eq_spec he
        injection he with he
        subst he
        injection h with h
        subst h
        simp only [PRel] at hq
        have hv:[v] = [Value.int k y] ∧ _:=hq.2
        obtain ⟨hv,hb⟩:=hv
        injection hv with hv
        subst hv
        have hx:cs = [.int k x] ∧ _:=hx
        obtain ⟨rfl,_⟩:=hx
        exact ⟨by simp,⟨rfl,hb⟩,rfl⟩
      · cases h
    · cases h
  | .str,off,f,h,x,cs,hx => by
    simp only [putB] at h
    split at h
    · rename_i y
      injection h with h
      subst h
      simp only [PRel] at hq
      have hv:[v] = [Value.string ⟨y.toArray⟩] ∧ _:=hq.2
      obtain ⟨hv,hb⟩:=hv
      injection hv with hv
      subst hv
      have hx:cs = [.string ⟨x.toArray⟩] ∧ _:=hx
      obtain ⟨rfl,_⟩:=hx
      exact ⟨by simp,⟨rfl,hb⟩,rfl⟩
    · cases h
  | .st V,off,f,h,x,cs,hx => putB_rep hq V off f h x cs hx
  | .pair A B,off,f,h,x,cs,hx => by
    obtain ⟨va,vb,rfl,ha,hb⟩:=hx
    have hla:=RepC_len _ _ _ _ _ ha
    simp only [putB] at h
    split at h
    · rename_i hlt
      split at h
      · rename_i g hg
        injection h with h
        subst h
        obtain ⟨h1,h2,h3⟩:=putB_rep hq A off g hg x.1 va ha
        exact ⟨by rw [List.length_append]; omega,⟨_,_,List.set_append_left _ _ h1,h2,hb⟩,h3⟩
      · cases h
    · rename_i hlt
      have hge:A.cells ≤ off:=by
        rcases Nat.lt_or_ge off A.cells with h' | h'
        · simp only [Nat.blt] at hlt
          have:=Nat.ble_eq_true_of_le (Nat.succ_le_of_lt h')
          rw [this] at hlt
          cases hlt
        · exact h'
      split at h
      · rename_i g hg
        injection h with h
        subst h
        obtain ⟨h1,h2,h3⟩:=putB_rep hq B _ g hg x.2 vb hb
        exact ⟨by rw [List.length_append]; omega,⟨_,_,by rw [List.set_append_right _ _ (by omega),hla],ha,h2⟩,h3⟩
      · cases h
  | .unit,_,_,h,_,_,_ => nomatch h
  | .sl _,_,_,h,_,_,_ => nomatch h
  | .own _,_,_,h,_,_,_ => nomatch h
  | .tup _ _,_,_,h,_,_,_ => nomatch h
  | .ptr _,_,_,h,_,_,_ => nomatch h
  | .clo _ _,_,_,h,_,_,_ => nomatch h
  | .mp _ _,_,_,h,_,_,_ => nomatch h
  | .fnv,_,_,h,_,_,_ => nomatch h
theorem op_store0 (hE:EnvOK E) (h:Full n w0 S0 s a w ν S) (ho:opOK n o = true) {t:Nat} {x y:Operand} (hop:o.op = .store t x y) (hdst:o.dst = none) (hout:OutK E (storeO E F s.bl t (s.ev x) (s.ev y)) (fun l => K (s.fin o.dst l))):o.wp E.P a w (fun a' w' => ∃ s',K s' ∧ Rel n w0 S0 s' a' w') Q:=by
  have hx:=h.ev (opOK_arg ho (x:=x) (by simp [hop,Op.operands]))
  have hy:=h.ev (opOK_arg ho (x:=y) (by simp [hop,Op.operands]))
  by_cases hT0:True
  · simp only [storeO] at hout
    split at hout
    · rename_i T hT
      have hf:=hE.facts hT
      split at hout
      · rename_i us hus
        obtain ⟨hrelu,h1u⟩:=PRel_cells hy hus
        split at hout
        · rename_i hle
          have hul:=lenEq_spec hle
          have hvl:(a.eval y).cells.size = T.cells:=by rw [← hul,PRels_len hrelu]; simp
          split at hout
          · rename_i id off hev
            split at hout
            · rename_i cs te hl
              obtain ⟨hl,_⟩:=lkS_some hl
              split at hout
              · rename_i hble
                have hble:=Nat.le_of_ble_eq_true hble
                rw [hev] at hx
                simp only [PRel] at hx
                obtain ⟨hd,g,hg,hv⟩:=hx
                obtain ⟨hty,g',vs,e,hg',hB,hnS,hh,h1,hrel⟩:=h.W.blk _ _ hl
                simp only [Full.c] at hg
                simp only at hg' hh hB hnS
                rw [hg] at hg'
                obtain rfl:g = g':=by injection hg' with e1; injection e1 with e1; injection e1
                have hcl:=PRels_len hrel
                have hr:=run_storeAt hf (off:=off) hh hvl (by rw [← Array.length_toList,← hcl]; exact hble) h1u
                have hrun:(execOp a.eval o).run E.P w = .ok .skip (w.setRow g (vs.toList.take off ++ (a.eval y).cells.toList ++ vs.toList.drop (off + T.cells)).toArray):=by
                  simp only [execOp,hop,hv,Sem.run_bind,hr,Result.andThen_ok,Sem.run_pure]
                refine wp_of_skip hrun ⟨_,hout,?_⟩
                rw [hdst]
                have hgrow:=grownBy_setRow w g (vs.toList.take off ++ (a.eval y).cells.toList ++ vs.toList.drop (off + T.cells)).toArray
                have hbo:blockOf (ν id) = some g:=by rw [hg]; rfl
                have hle':Ctx.Le h.c ⟨ν,s.D,w.setRow g (vs.toList.take off ++ (a.eval y).cells.toList ++ vs.toList.drop (off + T.cells)).toArray,⟨S,own0 w0 S0⟩⟩ :=
                  ⟨fun b hb => setRow_other w g b _ (fun e => (h.blkB hl hbo).2.1 (e ▸ hb)),fun _ h => h,fun _ h => h,fun _ _ => rfl⟩
                refine (h.upd hl (by rw [hbo]; exact hgrow) (b':=.box (cs.take off ++ us ++ cs.drop (off + T.cells)) te) ⟨(by exact hty.turn hbo hh (setRow_heap w g vs _ e _ hh)),g,_,e,hg,hB,hnS,setRow_heap w g vs _ e _ hh,?_,?_⟩).rel
                · intro u hu
                  simp only [List.mem_append] at hu
                  rcases hu with (hu | hu) | hu
                  · exact h1 u (List.mem_of_mem_take hu)
                  · exact h1u u hu
                  · exact h1 u (List.mem_of_mem_drop hu)
                · exact PRels_append (PRels_append (PRels_take _ (PRels_mono hle' hrel)) (PRels_mono hle' hrelu)) (PRels_drop _ (PRels_mono hle' hrel))
              · exact hout.elim
            · exact hout.elim
          · rename_i id sz i off hev
            split at hout
            · rename_i U xs te hl
              obtain ⟨hl,_⟩:=lkS_some hl
              split at hout
              · rename_i heq
                simp only [Bool.and_eq_true] at heq
                obtain ⟨heq,hsz⟩:=heq
                have hTU:=Ty.eq_spec heq
                subst hTU
                have hsz:=Nat.eq_of_beq_eq_true hsz
                split at hout
                · rename_i z hrf har hexp
                  rw [hev] at hx
                  simp only [PRel] at hx
                  obtain ⟨hd,g,ob,m,cap,hν,him,hv⟩:=hx
                  have hbw:=h.W.blk _ _ hl
                  obtain ⟨hty,hoU,u,hu,hlx,hcase⟩:=hbw
                  simp only [Full.c] at hν
                  simp only [List.cons.injEq,and_true] at hu
                  rw [hν] at hu
                  subst hu
                  rcases hcase with ⟨hn,_⟩ | ⟨g',o',cap',cur,e,hs',hle3,hcm,hnS,hB,hh,hfit,hrows⟩
                  · cases hn
                  · injection hs' with e1 e2 e3
                    injection e1 with e1
                    injection e1 with e1 e4
                    subst e1; subst e4; subst e3; subst e2
                    rw [hsz,Nat.add_zero] at hv
                    have hpos:i * T.cells + T.cells ≤ cap * T.cells:=by
                      calc i * T.cells + T.cells = (i + 1) * T.cells:=by rw [Nat.add_mul]; omega
                        _ ≤ cap * T.cells:=Nat.mul_le_mul_right _ (by omega)
                    have hr:=run_storeAt hf (off:=ob + i * T.cells) hh hvl (by omega) h1u
                    have hrun:(execOp a.eval o).run E.P w = .ok .skip (w.setRow g (cur.toList.take (ob + i * T.cells) ++ (a.eval y).cells.toList ++ cur.toList.drop (ob + i * T.cells + T.cells)).toArray):=by
                      simp only [execOp,hop,hv,Sem.run_bind,hr,Result.andThen_ok,Sem.run_pure]
                    refine wp_of_skip hrun ⟨_,hout,?_⟩
                    rw [hdst]
                    have hgrow:=grownBy_setRow w g (cur.toList.take (ob + i * T.cells) ++ (a.eval y).cells.toList ++ cur.toList.drop (ob + i * T.cells + T.cells)).toArray
                    have hbo:blockOf (ν id) = some g:=by rw [hν]; rfl
                    have hrepz:=h.expNo hoU hrf har hexp hy
                    have hSame:∀ b,S b → (w.setRow g (cur.toList.take (ob + i * T.cells) ++ (a.eval y).cells.toList ++ cur.toList.drop (ob + i * T.cells + T.cells)).toArray).heap[b]? = w.heap[b]?:=fun b hb => setRow_other w g b _ (fun e => hnS (e ▸ hb))
                    have hh':=setRow_heap w g cur (cur.toList.take (ob + i * T.cells) ++ (a.eval y).cells.toList ++ cur.toList.drop (ob + i * T.cells + T.cells)).toArray e _ hh
                    generalize hcur:(cur.toList.take (ob + i * T.cells) ++ (a.eval y).cells.toList ++ cur.toList.drop (ob + i * T.cells + T.cells)).toArray = cur' at *
                    refine (h.upd (w':=w.setRow g cur') hl (by rw [hbo]; exact hgrow) (b':=.arr T (xs.set i z)) ⟨elemIs_none _ _,hoU,.slice (some ⟨g,ob,none⟩) xs.length cap,by simp only [hν],by rw [List.length_set]; exact hlx,.inr ⟨g,ob,cap,cur',e,by rw [List.length_set],by rw [List.length_set]; exact hle3,hcm,hnS,hB,hh',?_,?_⟩⟩).rel
                    all_goals subst hcur
                    · simp only [List.size_toArray,List.length_append,List.length_take,List.length_drop,Array.length_toList,hvl]
                      omega
                    · intro j q hq
                      by_cases hij:i = j
                      · subst hij
                        rw [List.getElem?_set_self him] at hq
                        · injection hq with hq
                          subst hq
                          refine ⟨(a.eval y).cells.toList,by rw [Array.length_toList,hvl],fun k u hk => ?_,RepC_mono hSame (fun _ h => h) _ _ _ hoU (RepV_cells hf.val hrepz)⟩
                          rw [cell_of_row _ _ _ _ _ _ hh']
                          simp only [List.getElem?_toArray]
                          have hkl:k < (a.eval y).cells.toList.length:=(List.getElem?_eq_some_iff.1 hk).1
                          have htl:(cur.toList.take (ob + i * T.cells)).length = ob + i * T.cells:=by simp only [List.length_take,Array.length_toList]; omega
                          rw [List.append_assoc,List.getElem?_append_right (by rw [htl]; omega),htl,List.getElem?_append_left (by omega)]
                          rw [← hk]
                          congr 1
                          omega
                      · rw [List.getElem?_set_ne hij] at hq
                        obtain ⟨cs,hcl,hc,hrr⟩:=hrows j q hq
                        refine ⟨cs,hcl,fun k u hk => ?_,RepC_mono hSame (fun _ h => h) _ _ _ hoU hrr⟩
                        have hkl:k < cs.length:=(List.getElem?_eq_some_iff.1 hk).1
                        have hcell:=hc k u hk
                        rw [cell_of_row _ _ _ _ _ _ hh] at hcell
                        rw [cell_of_row _ _ _ _ _ _ hh']
                        simp only [List.getElem?_toArray]
                        have htl:(cur.toList.take (ob + i * T.cells)).length = ob + i * T.cells:=by simp only [List.length_take,Array.length_toList]; omega
                        rcases Nat.lt_or_gt_of_ne hij with hlt | hgt
                        · have hmul:i * T.cells + T.cells ≤ j * T.cells:=by
                            calc i * T.cells + T.cells = (i + 1) * T.cells:=by rw [Nat.add_mul]; omega
                              _ ≤ j * T.cells:=Nat.mul_le_mul_right _ hlt
                          rw [List.append_assoc,List.getElem?_append_right (by rw [htl]; omega),htl,List.getElem?_append_right (by rw [Array.length_toList,hvl]; omega),List.getElem?_drop,Array.length_toList,hvl]
                          rw [← hcell]
                          simp only [Array.getElem?_toList]
                          congr 1
                          omega
                        · have hmul:j * T.cells + T.cells ≤ i * T.cells:=by
                            calc j * T.cells + T.cells = (j + 1) * T.cells:=by rw [Nat.add_mul]; omega
                              _ ≤ i * T.cells:=Nat.mul_le_mul_right _ hgt
                          rw [List.append_assoc,List.getElem?_append_left (by rw [htl]; omega),List.getElem?_take,if_pos (by omega)]
                          simpa using hcell
                · exact hout.elim
              · rename_i off _ _ hne
                split at hout
                · rename_i f hsz hf2
                  have hsz:=Nat.eq_of_beq_eq_true hsz
                  rw [hev] at hx
                  simp only [PRel] at hx
                  obtain ⟨hd,g,ob,m,cap,hν,him,hv⟩:=hx
                  have hbw:=h.W.blk _ _ hl
                  obtain ⟨hty,hoU,u,hu,hlx,hcase⟩:=hbw
                  simp only [Full.c] at hν
                  simp only [List.cons.injEq,and_true] at hu
                  rw [hν] at hu
                  subst hu
                  rcases hcase with ⟨hn,_⟩ | ⟨g',o',cap',cur,e,hs',hle3,hcm,hnS,hB,hh,hfit,hrows⟩
                  · cases hn
                  · injection hs' with e1 e2 e3
                    injection e1 with e1
                    injection e1 with e1 e4
                    subst e1; subst e4; subst e3; subst e2
                    rw [hsz] at hv
                    have hrow:∀ q,xs[i]? = some q → off < U.cells ∧ (a.eval y).cells = #[a.eval y]:=fun q hq => by
                      obtain ⟨cs,hcl,_,hrr⟩:=hrows i q hq
                      obtain ⟨h1,_,h3⟩:=putB_rep hy U off f hf2 q cs hrr
                      exact ⟨by omega,h3⟩
                    obtain ⟨hoff,hcv⟩:=hrow _ (List.getElem?_eq_getElem him)
                    have hT1:T.cells = 1:=by rw [← hvl,hcv]; rfl
                    have hpos:i * U.cells + U.cells ≤ cap * U.cells:=by
                      calc i * U.cells + U.cells = (i + 1) * U.cells:=by rw [Nat.add_mul]; omega
                        _ ≤ cap * U.cells:=Nat.mul_le_mul_right _ (by omega)
                    have hr:=run_storeAt hf (off:=ob + i * U.cells + off) hh hvl (by omega) h1u
                    rw [hT1,hcv] at hr
                    have hrun:(execOp a.eval o).run E.P w = .ok .skip (w.setRow g (cur.toList.take (ob + i * U.cells + off) ++ [a.eval y] ++ cur.toList.drop (ob + i * U.cells + off + 1)).toArray):=by
                      simp only [execOp,hop,hv,Sem.run_bind,hr,Result.andThen_ok,Sem.run_pure]
                    refine wp_of_skip hrun ⟨_,hout,?_⟩
                    rw [hdst]
                    have hgrow:=grownBy_setRow w g (cur.toList.take (ob + i * U.cells + off) ++ [a.eval y] ++ cur.toList.drop (ob + i * U.cells + off + 1)).toArray
                    have hbo:blockOf (ν id) = some g:=by rw [hν]; rfl
                    have hSame:∀ b,S b → (w.setRow g (cur.toList.take (ob + i * U.cells + off) ++ [a.eval y] ++ cur.toList.drop (ob + i * U.cells + off + 1)).toArray).heap[b]? = w.heap[b]?:=fun b hb => setRow_other w g b _ (fun e => hnS (e ▸ hb))
                    have hh':=setRow_heap w g cur (cur.toList.take (ob + i * U.cells + off) ++ [a.eval y] ++ cur.toList.drop (ob + i * U.cells + off + 1)).toArray e _ hh
                    have hsp:(cur.toList.take (ob + i * U.cells + off) ++ [a.eval y] ++ cur.toList.drop (ob + i * U.cells + off + 1)).toArray = (cur.toList.set (ob + i * U.cells + off) (a.eval y)).toArray:=by
                      rw [List.set_eq_take_append_cons_drop,if_pos (by rw [Array.length_toList]; omega)]
                      simp
                    rw [hsp] at hgrow hSame hh' ⊢
                    generalize hcur:(cur.toList.set (ob + i * U.cells + off) (a.eval y)).toArray = cur' at *
                    refine (h.upd (w':=w.setRow g cur') hl (by rw [hbo]; exact hgrow) (b':=.arr U (xs.modify i f)) ⟨elemIs_none _ _,hoU,.slice (some ⟨g,ob,none⟩) xs.length cap,by simp only [hν],by rw [List.length_modify]; exact hlx,.inr ⟨g,ob,cap,cur',e,by rw [List.length_modify],by rw [List.length_modify]; exact hle3,hcm,hnS,hB,hh',?_,?_⟩⟩).rel
                    all_goals subst hcur
                    · simp only [List.size_toArray,List.length_set,Array.length_toList]
                      omega
                    · intro j q hq
                      by_cases hij:i = j
                      · subst hij
                        rw [List.getElem?_modify_eq] at hq
                        obtain ⟨q0,hq0,rfl⟩:=Option.map_eq_some_iff.1 (show (xs[i]?).map f = some q from hq)
                        obtain ⟨cs,hcl,hc,hrr⟩:=hrows i q0 hq0
                        obtain ⟨h1,h2,_⟩:=putB_rep hy U off f hf2 q0 cs hrr
                        refine ⟨cs.set off (a.eval y),by rw [List.length_set,hcl],fun k u hk => ?_,RepC_mono hSame (fun _ h => h) _ _ _ hoU h2⟩
                        rw [cell_of_row _ _ _ _ _ _ hh']
                        simp only [List.getElem?_toArray]
                        by_cases hko:off = k
                        · subst hko
                          rw [List.getElem?_set_self h1] at hk
                          rw [List.getElem?_set_self (by rw [Array.length_toList]; omega)]
                          exact hk
                        · rw [List.getElem?_set_ne hko] at hk
                          rw [List.getElem?_set_ne (by omega)]
                          have hcell:=hc k u hk
                          rw [cell_of_row _ _ _ _ _ _ hh] at hcell
                          simpa using hcell
                      · rw [List.getElem?_modify_ne _ _ hij] at hq
                        obtain ⟨cs,hcl,hc,hrr⟩:=hrows j q hq
                        refine ⟨cs,hcl,fun k u hk => ?_,RepC_mono hSame (fun _ h => h) _ _ _ hoU hrr⟩
                        have hkl:k < cs.length:=(List.getElem?_eq_some_iff.1 hk).1
                        have hcell:=hc k u hk
                        rw [cell_of_row _ _ _ _ _ _ hh] at hcell
                        rw [cell_of_row _ _ _ _ _ _ hh']
                        simp only [List.getElem?_toArray]
                        have hne:ob + i * U.cells + off ≠ ob + j * U.cells + k:=by
                          rcases Nat.lt_or_gt_of_ne hij with hlt | hgt
                          · have hmul:i * U.cells + U.cells ≤ j * U.cells:=by
                              calc i * U.cells + U.cells = (i + 1) * U.cells:=by rw [Nat.add_mul]; omega
                                _ ≤ j * U.cells:=Nat.mul_le_mul_right _ hlt
                            omega
                          · have hmul:j * U.cells + U.cells ≤ i * U.cells:=by
                              calc j * U.cells + U.cells = (j + 1) * U.cells:=by rw [Nat.add_mul]; omega
                                _ ≤ i * U.cells:=Nat.mul_le_mul_right _ hgt
                            omega
                        rw [List.getElem?_set_ne hne]
                        simpa using hcell
                · exact hout.elim
            · exact hout.elim
          · rename_i id base U m i hev
            split at hout
            · rename_i cs te hl
              obtain ⟨hl,_⟩:=lkS_some hl
              split at hout
              · rename_i xs z hxs hb hz
                simp only [Bool.and_eq_true] at hb
                obtain ⟨⟨hTU,hlit⟩,hble⟩:=hb
                have hTU:=Ty.eq_spec hTU
                subst hTU
                have hble:=Nat.le_of_ble_eq_true hble
                obtain ⟨j1,j2,j3⟩:=litK_join hlit (.iv T z)
                have hq:=asLit_iv hz
                rw [hev] at hx
                simp only [PRel] at hx
                obtain ⟨hd,h0,hn,g,hg,hv⟩:=hx
                obtain ⟨hty,g',vs,e,hg',hB,hnS,hh,h1,hrel⟩:=h.W.blk _ _ hl
                simp only [Full.c] at hg
                simp only at hg' hh hB hnS
                rw [hg] at hg'
                obtain rfl:g = g':=by injection hg' with e1; injection e1 with e1; injection e1
                have hcl:=PRels_len hrel
                have hus1:us = [.iv T z]:=by
                  rw [hq] at hus
                  cases T <;> first | (cases hlit; done) | (simp only [PV.cells,Ty.val,Option.some.injEq,cellsOf] at hus; exact hus.symm)
                have hmap:=lits_map hxs
                have hxl:xs.length = m:=by
                  have:=congrArg List.length hmap
                  rw [List.length_take,List.length_drop,List.length_map] at this
                  omega
                have him:i.toNat < m:=by omega
                have hbox:cs.take base ++ setC T i z 0 xs ++ cs.drop (base + m) = cs.take (base + i.toNat) ++ us ++ cs.drop (base + i.toNat + T.cells):=by
                  have e0:=setC_eq i z h0 xs 0
                  simp only [Int.natCast_zero,Nat.sub_zero,if_pos h0] at e0
                  have hsp:cs = cs.take base ++ (xs.map (PV.iv T) ++ cs.drop (base + m)):=by
                    have:=hmap
                    rw [← this]
                    conv => lhs; rw [← List.take_append_drop base cs]
                    congr 1
                    conv => lhs; rw [← List.take_append_drop m (cs.drop base)]
                    rw [List.drop_drop]
                  have htl:(cs.take base).length = base:=by rw [List.length_take]; omega
                  have hml:(xs.map (PV.iv T)).length = m:=by rw [List.length_map]; exact hxl
                  rw [e0,hus1,j2,List.map_set]
                  have hss:=splice_set (cs.take base) (xs.map (PV.iv T)) (cs.drop (base + m)) i.toNat (.iv T z) (by omega) cs hsp
                  rw [htl] at hss
                  exact hss
                rw [hbox] at hout
                have hr:=run_storeAt hf (off:=base + i.toNat) hh hvl (by rw [← Array.length_toList,← hcl]; omega) h1u
                have hrun:(execOp a.eval o).run E.P w = .ok .skip (w.setRow g (vs.toList.take (base + i.toNat) ++ (a.eval y).cells.toList ++ vs.toList.drop (base + i.toNat + T.cells)).toArray):=by
                  simp only [execOp,hop,hv,Sem.run_bind,hr,Result.andThen_ok,Sem.run_pure]
                refine wp_of_skip hrun ⟨_,hout,?_⟩
                rw [hdst]
                have hgrow:=grownBy_setRow w g (vs.toList.take (base + i.toNat) ++ (a.eval y).cells.toList ++ vs.toList.drop (base + i.toNat + T.cells)).toArray
                have hbo:blockOf (ν id) = some g:=by rw [hg]; rfl
                have hle':Ctx.Le h.c ⟨ν,s.D,w.setRow g (vs.toList.take (base + i.toNat) ++ (a.eval y).cells.toList ++ vs.toList.drop (base + i.toNat + T.cells)).toArray,⟨S,own0 w0 S0⟩⟩ :=
                  ⟨fun b hb => setRow_other w g b _ (fun e => (h.blkB hl hbo).2.1 (e ▸ hb)),fun _ h => h,fun _ h => h,fun _ _ => rfl⟩
                refine (h.upd hl (by rw [hbo]; exact hgrow) (b':=.box (cs.take (base + i.toNat) ++ us ++ cs.drop (base + i.toNat + T.cells)) te) ⟨(by exact hty.turn hbo hh (setRow_heap w g vs _ e _ hh)),g,_,e,hg,hB,hnS,setRow_heap w g vs _ e _ hh,?_,?_⟩).rel
                · intro u hu
                  simp only [List.mem_append] at hu
                  rcases hu with (hu | hu) | hu
                  · exact h1 u (List.mem_of_mem_take hu)
                  · exact h1u u hu
                  · exact h1 u (List.mem_of_mem_drop hu)
                · exact PRels_append (PRels_append (PRels_take _ (PRels_mono hle' hrel)) (PRels_mono hle' hrelu)) (PRels_drop _ (PRels_mono hle' hrel))
              · exact hout.elim
            · exact hout.elim
          · exact hout.elim
        · exact hout.elim
      · exact hout.elim
    · exact hout.elim
  · exact absurd trivial hT0

theorem TyFacts.field {E:Env} (hE:EnvOK E) {t:Nat} {T:Ty} (hf:TyFacts E t T) (hs:E.str t = true) {i:Nat} (hi:i < arrLen T) :
    ∃ fs f,E.P.underlying t = some (.struct fs) ∧ fs[i]? = some f ∧ f.offset = offOf T i ∧ TyFacts E f.type (fldTy T i) ∧ 1 ≤ (fldTy T i).cells:=by
  cases T <;> first | (simp [arrLen] at hi; done) | skip
  rename_i R
  rcases hf.agg hE with ⟨fs,hu,hfl,hfa⟩ | ⟨m,e,V,hu,he,rfl,hV,hV1,hm⟩
  · obtain ⟨f,h1,h2,h3,h4,h5,h6⟩:=hfa i hi
    exact ⟨fs,f,hu,h1,h2,hE.facts h3,h4⟩
  · have:=hf.str _ _ rfl hu
    simp only at this
    rw [hs] at this
    cases this

theorem TyFacts.array {E:Env} (hE:EnvOK E) {t:Nat} {R:Ty} (hf:TyFacts E t (.st R)) (hs:E.str t = false) :
    ∃ m e,E.P.underlying t = some (.array m e) ∧ TyFacts E e (fieldTy R 0) ∧ chainLen R = m ∧ ∀ i,i < m → fieldOff R i = i * (fieldTy R 0).cells:=by
  rcases hf.agg hE with ⟨fs,hu,hfl,hfa⟩ | ⟨m,e,V,hu,he,rfl,hV,hV1,hm⟩
  · have:=hf.str _ _ rfl hu
    simp only at this
    rw [hs] at this
    cases this
  · have h0:=(rowOf_off V hV m 0 (by omega)).2
    refine ⟨m,e,hu,by rw [h0]; exact hE.facts he,rowOf_len V hV m (by omega),fun i hi => ?_⟩
    rw [h0]
    exact (rowOf_off V hV m i hi).1

theorem op_fieldAddr (hE:EnvOK E) (h:Full n w0 S0 s a w ν S) (ho:opOK n o = true) {t f:Nat} {x:Operand} (hop:o.op = .fieldAddr t x f) (hout:OutK E (stepF E F s o) (fun l => K (s.fin o.dst l))):o.wp E.P a w (fun a' w' => ∃ s',K s' ∧ Rel n w0 S0 s' a' w') Q:=by
  simp only [stepF,hop] at hout
  have hx:=h.ev (opOK_arg ho (x:=x) (by simp [hop,Op.operands]))
  split at hout
  · rename_i T hT
    split at hout
    · rename_i hb
      simp only [Bool.and_eq_true,Nat.blt_eq] at hb
      obtain ⟨fs,fd,hu,hfd,hoff,hff,hc1⟩:=(hE.facts hT).field hE hb.2 hb.1
      have hrun:∀ (g ob:Nat),a.eval x = .pointer (some ⟨g,ob,none⟩) → (execOp a.eval o).run E.P w = .ok (.value (.pointer (some ⟨g,ob + offOf T f,none⟩))) w:=by
        intro g ob he
        have hsz:=hff.sizeOf w
        simp only [execOp,hop,he,Instr.fieldAt,Sem.run_bind,run_underlying hu,Result.andThen_ok,hfd,Instr.sureAddr,Sem.run_pure,fieldPlace,hsz,Sem.run_ite]
        rw [if_neg (by omega)]
        simp only [Result.andThen_ok,hoff,addr_add,Sem.run_pure]
      split at hout
      · rename_i id off hev
        rw [hev] at hx
        simp only [PRel] at hx
        obtain ⟨hd,g,hg,hv⟩:=hx
        refine h.val ho (hrun _ _ hv) ?_ hout
        simp only [PRel]
        exact ⟨hd,g,hg,rfl⟩
      · rename_i U y off hev
        rw [hev] at hx
        simp only [PRel] at hx
        obtain ⟨hoU,g,ob,cs,hv,r⟩:=hx
        refine h.val ho (hrun _ _ hv) ?_ hout
        simp only [PRel]
        exact ⟨hoU,g,ob,cs,by rw [Nat.add_assoc],r⟩
      · rename_i id sz i off hev
        rw [hev] at hx
        simp only [PRel] at hx
        obtain ⟨hd,g,ob,m,cap,hν,him,hv⟩:=hx
        refine h.val ho (hrun _ _ hv) ?_ hout
        simp only [PRel]
        exact ⟨hd,g,ob,m,cap,hν,him,by rw [Nat.add_assoc]⟩
      · exact hout.elim
    · exact hout.elim
  · exact hout.elim

theorem run_part {E:Env} {t:Nat} {T:Ty} (hf:TyFacts E t T) {w:World} {cs:Array Value} {off:Nat} (hl:off + T.cells ≤ cs.size):(Go.part t cs off).run E.P w = .ok (valOf T ((cs.toList.drop off).take T.cells)) w:=by
  unfold Go.part
  simp only [Sem.run_bind,hf.isAgg w,Result.andThen_ok]
  have hT:=hf.val
  cases T with
  | st r =>
    simp only [isSt,if_true,Sem.run_bind,hf.sizeOf w,Result.andThen_ok,Sem.run_pure,valOf]
    congr 2
    apply Array.toList_inj.1
    simp [Array.toList_extract]
  | unit => cases hT
  | pair a b => cases hT
  | tup a b => cases hT
  | _ =>
    simp only [Ty.cells] at hl
    simp only [isSt,Bool.false_eq_true,if_false,Ty.cells,valOf]
    rw [Array.getElem?_eq_getElem (by omega)]
    rw [List.drop_eq_getElem_cons (by simpa using (by omega:off < cs.size))]
    simp

theorem aggCells_rel {c:Ctx} {p:PV} {v:Value} {cs:List PV} (h:PRel c p v) (hc:aggCells p = some cs):PRels c cs v.cells.toList ∧ (∀ u,u ∈ v.cells.toList → u.oneCell' = true) ∧ ∃ us,v = .agg us:=by
  cases p with
  | iv T x =>
    cases T with
    | st R =>
      simp only [aggCells] at hc
      have hc':(PV.iv (.st R) x).cells = some cs:=by simp only [PV.cells,Ty.val]; exact hc
      obtain ⟨h1,h2⟩:=PRel_cells h hc'
      simp only [PRel] at h
      obtain ⟨_,vs,hv,_⟩:=h
      exact ⟨h1,h2,_,hv⟩
    | _ => simp only [aggCells] at hc; cases hc
  | agg ps =>
    have hc':(PV.agg ps).cells = some cs:=hc
    obtain ⟨h1,h2⟩:=PRel_cells h hc'
    simp only [PRel] at h
    obtain ⟨vs,hv,_⟩:=h
    exact ⟨h1,h2,_,hv⟩
  | _ => simp only [aggCells] at hc; cases hc

theorem op_field (hE:EnvOK E) (h:Full n w0 S0 s a w ν S) (ho:opOK n o = true) {t f:Nat} {x:Operand} (hop:o.op = .field t x f) (hout:OutK E (stepF E F s o) (fun l => K (s.fin o.dst l))):o.wp E.P a w (fun a' w' => ∃ s',K s' ∧ Rel n w0 S0 s' a' w') Q:=by
  simp only [stepF,hop] at hout
  have hx:=h.ev (opOK_arg ho (x:=x) (by simp [hop,Op.operands]))
  split at hout
  · rename_i T cs hT hcs
    split at hout
    · rename_i hble hb
      simp only [Bool.and_eq_true,Nat.blt_eq] at hb
      have hble:=Nat.le_of_ble_eq_true hble
      obtain ⟨fs,fd,hu,hfd,hoff,hff,hc1⟩:=(hE.facts hT).field hE hb.2 hb.1
      obtain ⟨hp,h1,us,hv⟩:=aggCells_rel hx hcs

      rw [hv] at hp h1
      simp only [Value.cells] at hp h1
      rw [PRels_len hp] at hble
      have hrun:=run_part (E:=E) hff (w:=w) (cs:=us) (off:=offOf T f) (by simpa using hble)
      refine h.val ho ?_ (join_rel (by rw [List.length_take,List.length_drop]; omega) hff.val (fun u hu => h1 u (List.mem_of_mem_drop (List.mem_of_mem_take hu))) (PRels_take _ (PRels_drop _ hp))) hout
      simp only [execOp,hop,hv,Instr.field,Sem.run_bind,run_underlying hu,Result.andThen_ok,hfd,asAgg,Sem.run_pure,hoff,hrun]
    · exact hout.elim
  · exact hout.elim

theorem op_indexAddr (hE:EnvOK E) (h:Full n w0 S0 s a w ν S) (ho:opOK n o = true) {t:Nat} {x i:Operand} (hop:o.op = .indexAddr t x i) (hout:OutK E (stepF E F s o) (fun l => K (s.fin o.dst l))):o.wp E.P a w (fun a' w' => ∃ s',K s' ∧ Rel n w0 S0 s' a' w') Q:=by
  simp only [stepF,hop] at hout
  have hx:=h.ev (opOK_arg ho (x:=x) (by simp [hop,Op.operands]))
  have hi:=h.ev (opOK_arg ho (x:=i) (by simp [hop,Op.operands]))
  split at hout
  · rename_i k m hevi
    rw [hevi] at hi
    obtain ⟨hvi,_⟩:=PRel_val_int hi
    -- a slice
    have hsl:∀ {U:Ty} (hT:E.ty t = some (.sl U)) (g ob len cap:Nat),a.eval x = .slice (some ⟨g,ob,none⟩) len cap → 0 ≤ m → m < len → (execOp a.eval o).run E.P w = .ok (.value (.pointer (some ⟨g,ob + m.toNat * U.cells,none⟩))) w:=by
      intro U hT g ob len cap he h0 h1
      obtain ⟨e,hu,hee,hfe,_⟩:=(hE.facts hT).elem hE
      have hsz:=hfe.sizeOf w
      simp only [execOp,hop,he,hvi,Instr.indexAt,asIntOf,Sem.run_bind,Sem.run_pure,Result.andThen_ok,run_underlying hu,Sem.run_ite]
      rw [if_pos ⟨h0,h1⟩]
      simp only [Sem.run_bind,hsz,Result.andThen_ok,Sem.run_pure,addr_add]
    have har:∀ {R:Ty} (hT:E.ty t = some (.st R)) (hs:E.str t = false) (g ob:Nat),a.eval x = .pointer (some ⟨g,ob,none⟩) → 0 ≤ m → m < chainLen R → (execOp a.eval o).run E.P w = .ok (.value (.pointer (some ⟨g,ob + m.toNat * (fieldTy R 0).cells,none⟩))) w:=by
      intro R hT hs g ob he h0 h1
      obtain ⟨l,e,hu,hfe,hcl,_⟩:=(hE.facts hT).array hE hs
      have hsz:=hfe.sizeOf w
      simp only [execOp,hop,he,hvi,Instr.indexAt,asIntOf,Sem.run_bind,Sem.run_pure,Result.andThen_ok,run_underlying hu,Instr.sureAddr,Sem.run_ite]
      rw [if_pos ⟨h0,by rw [← hcl]; exact h1⟩]
      simp only [Sem.run_bind,hsz,Result.andThen_ok,Sem.run_pure,addr_add]
    simp only [indexO] at hout
    split at hout
    · rename_i T xs hev
      rw [hev] at hx
      split at hout
      · rename_i U hT
        split at hout
        · rename_i heq
          have hTU:=Ty.eq_spec heq
          subst hTU
          obtain ⟨h0,y,hy,hout⟩:=hout
          simp only [PRel] at hx
          obtain ⟨hoT,aa,cap,hv,hle,hcap,hcase⟩:=hx
          injection hv with hv
          have hlt:m.toNat < xs.length:=(List.getElem?_eq_some_iff.1 hy).1
          rcases hcase with rfl | ⟨g,ob,rfl,hS,hrows⟩
          · simp at hlt
          · obtain ⟨cs,hcl,hc,hr⟩:=hrows _ y hy
            refine h.val ho (hsl hT g ob xs.length cap hv h0 ((Int.toNat_lt h0).1 hlt)) ?_ hout
            simp only [PRel]
            exact ⟨by simpa [owns] using hoT,g,ob + m.toNat * T.cells,cs,by rw [Nat.add_zero],hS,hcl,hc,hr⟩
        · exact hout.elim
      · exact hout.elim
    · rename_i id hev
      rw [hev] at hx
      split at hout
      · rename_i T xs te U hl hT
        obtain ⟨hl,_⟩:=lk_some hl
        split at hout
        · rename_i heq
          have hTU:=Ty.eq_spec heq
          subst hTU
          obtain ⟨⟨h0,h1⟩,hout⟩:=hout
          simp only [PRel] at hx
          obtain ⟨hd,hν,_⟩:=hx
          obtain ⟨hty,hoU,u,hu,hlx,hcase⟩:=h.W.blk _ _ hl
          simp only [List.cons.injEq,and_true] at hu
          simp only [Full.c] at hν
          rcases hcase with ⟨hn,rfl⟩ | ⟨g,ob,cap,cur,e,hs',_⟩
          · simp at h1; omega
          · rw [hs'] at hu
            rw [hu] at hν
            refine h.val ho (hsl hT g ob xs.length cap hν h0 h1) ?_ hout
            simp only [PRel]
            exact ⟨hd,g,ob,xs.length,cap,hu,by omega,by rw [Nat.add_zero]⟩
        · exact hout.elim
      · exact hout.elim
    · rename_i id sz off len hev
      rw [hev] at hx
      split at hout
      · rename_i U hT
        split at hout
        · rename_i hsz
          have hsz:=Nat.eq_of_beq_eq_true hsz
          obtain ⟨⟨h0,h1⟩,hout⟩:=hout
          simp only [PRel] at hx
          obtain ⟨hd,aa,m',cap,b,hν,hn,hcap,hv,hb⟩:=hx
          obtain ⟨g,ob,rfl,rfl⟩:=hb (by omega)
          refine h.val ho (hsl hT g _ _ _ hv h0 h1) ?_ hout
          simp only [PRel]
          exact ⟨hd,g,ob,m',cap,hν,by omega,by rw [hsz,Nat.add_mul,Nat.add_zero,Nat.add_assoc]⟩
        · exact hout.elim
      · exact hout.elim
    · rename_i id off hev
      rw [hev] at hx
      split at hout
      · rename_i R hT hs
        simp only [PRel] at hx
        obtain ⟨hd,g,hg,hv⟩:=hx
        split at hout
        · rename_i hb
          simp only [Bool.and_eq_true] at hb
          have hc1:=Nat.eq_of_beq_eq_true hb.2
          obtain ⟨⟨h0,h1⟩,hout⟩:=hout
          refine h.val ho (har hT hs g off hv h0 h1) ?_ hout
          simp only [PRel]
          exact ⟨hd,h0,h1,g,hg,by rw [hc1,Nat.mul_one]⟩
        · obtain ⟨⟨h0,h1⟩,hout⟩:=hout
          refine h.val ho (har hT hs g off hv h0 h1) ?_ hout
          simp only [PRel]
          exact ⟨hd,g,hg,rfl⟩
      · exact hout.elim
    · rename_i U y off hev
      rw [hev] at hx
      split at hout
      · rename_i R hT hs
        obtain ⟨⟨h0,h1⟩,hout⟩:=hout
        simp only [PRel] at hx
        obtain ⟨hoU,g,ob,cs,hv,r⟩:=hx
        refine h.val ho (har hT hs g _ hv h0 h1) ?_ hout
        simp only [PRel]
        exact ⟨hoU,g,ob,cs,by rw [Nat.add_assoc],r⟩
      · exact hout.elim
    · exact hout.elim
  · exact hout.elim

theorem op_index (hE:EnvOK E) (h:Full n w0 S0 s a w ν S) (ho:opOK n o = true) {t:Nat} {x i:Operand} (hop:o.op = .index t x i) (hout:OutK E (stepF E F s o) (fun l => K (s.fin o.dst l))):o.wp E.P a w (fun a' w' => ∃ s',K s' ∧ Rel n w0 S0 s' a' w') Q:=by
  simp only [stepF,hop] at hout
  have hx:=h.ev (opOK_arg ho (x:=x) (by simp [hop,Op.operands]))
  have hi:=h.ev (opOK_arg ho (x:=i) (by simp [hop,Op.operands]))
  split at hout
  · rename_i xs k m hevx hevi hT
    obtain ⟨d,hu,hsh⟩:=(hE.facts hT).und
    have hd:d = .string:=by cases d <;> first | rfl | cases hsh
    subst hd
    rw [hevi] at hi
    rw [hevx] at hx
    obtain ⟨hvi,_⟩:=PRel_val_int hi
    obtain ⟨hvx,_⟩:=PRel_val_str hx
    obtain ⟨h0,c,⟨u,hu',rfl⟩,hout⟩:=hout
    refine h.val ho (v:=.int .u8 u.toNat) ?_ (PRel_int (by have:=u.toNat_lt; constructor <;> simp [IntKind.min,IntKind.max,IntKind.signed,IntKind.bits] <;> omega)) hout
    simp only [execOp,hop,hvx,hvi,Instr.index,asIntOf,Sem.run_bind,Sem.run_pure,Result.andThen_ok,run_underlying hu]
    rw [if_pos h0]
    have:(⟨xs.toArray⟩:ByteArray)[m.toNat]? = some u:=by
      have hl:m.toNat < xs.length:=(List.getElem?_eq_some_iff.1 hu').1
      have hs:m.toNat < (⟨xs.toArray⟩:ByteArray).size:=hl
      rw [getElem?_pos (⟨xs.toArray⟩:ByteArray) m.toNat hs]
      have:=(List.getElem?_eq_some_iff.1 hu').2
      rw [← this]
      rfl
    rw [this]
    rfl
  · exact hout.elim
  · rename_i k m R hevi hT _
    split at hout
    · rename_i cs hcs hstr
      split at hout
      · rename_i xs hxs hlit
        obtain ⟨⟨h0,h1⟩,z,hz,hout⟩:=hout
        rw [hevi] at hi
        obtain ⟨hvi,_⟩:=PRel_val_int hi
        obtain ⟨l,e,hu,hfe,hcl,_⟩:=(hE.facts hT).array hE hstr
        obtain ⟨hrel,h1c,us,hvx⟩:=aggCells_rel hx hcs
        obtain ⟨j1,j2,j3⟩:=litK_join hlit (.iv (fieldTy R 0) z)
        have hlen:=PRels_len hrel
        rw [hvx] at hrel hlen
        simp only [Value.cells] at hrel hlen
        obtain ⟨e1,e2,e3⟩:=lits_at (base:=0) (m:=cs.length) (by rw [List.drop_zero,List.take_length]; exact hxs) hz
        rw [Nat.zero_add] at e1 e3
        have hle:m.toNat * (fieldTy R 0).cells + (fieldTy R 0).cells ≤ us.size:=by
          rw [j2,Nat.mul_one,← Array.length_toList,← hlen]; omega
        have hp:=run_part hfe (w:=w) (cs:=us) (off:=m.toNat * (fieldTy R 0).cells) hle
        refine h.val ho (v:=valOf (fieldTy R 0) ((us.toList.drop (m.toNat * (fieldTy R 0).cells)).take (fieldTy R 0).cells)) ?_ ?_ hout
        · simp only [execOp,hop,hvx,hvi,Instr.index,asIntOf,Sem.run_bind,Sem.run_pure,Result.andThen_ok,run_underlying hu,Sem.run_ite]
          rw [if_pos ⟨h0,by rw [← hcl]; exact h1⟩]
          simp only [Sem.run_bind,hfe.sizeOf w,Result.andThen_ok,hp,Sem.run_pure]
        · have hone:∀ u,u ∈ us.toList → u.oneCell' = true:=by
            intro u hu'
            rw [hvx] at h1c
            exact h1c u hu'
          have hjr:=join_rel (T:=fieldTy R 0) (c:=h.c) (vs:=(us.toList.drop m.toNat).take (fieldTy R 0).cells) (by rw [List.length_take,List.length_drop,j2,← hlen]; omega) hfe.val (fun u hu => hone u (List.mem_of_mem_drop (List.mem_of_mem_take hu))) (PRels_take (fieldTy R 0).cells (PRels_drop m.toNat hrel))
          rw [j2,e1,j1] at hjr
          rw [j2,Nat.mul_one]
          exact hjr
      · exact hout.elim
    · exact hout.elim
  · exact hout.elim
end
end Go.Proofs.Ytefpgfdemmllpaa
namespace Go.Proofs.Ytefpgfdemmllpaa
open Go.RowKit

theorem cut_eq {α:Type} (xs:List α) (lo hi:Option Int):cut xs lo hi = (xs.drop (cutLo lo)).take (cutHi xs.length hi - cutLo lo):=by
  cases lo <;> cases hi <;> simp [cut,cutLo,cutHi]
  exact (List.take_of_length_le (by simp)).symm

def BoundRel:Option Int → Option Value → Prop
  | none,none => True
  | some n,some v => ∃ k,v = .int k n
  | _,_ => False

theorem run_sliceBounds {P:Program} {w:World} {isSlice:Bool} {len cap:Nat} {lo hi:Option Int} {vl vh:Option Value} (hlo:BoundRel lo vl) (hhi:BoundRel hi vh) (h:inCut len lo hi) (hc:len ≤ cap) :
    (Instr.sliceBounds isSlice len cap vl vh none).run P w = .ok (cutLo lo,cutHi len hi,cap) w:=by
  have sb:∀ (k:IntKind) (n:Int) (y:Nat) (code:BoundsCode),0 ≤ n → n ≤ y → (Instr.sliceBound (.int k n) y code).run P w = .ok n.toNat w:=by
    intro k n y code h0 h1
    simp only [Instr.sliceBound,asIntOf,Sem.run_bind,Sem.run_pure,Result.andThen_ok,Sem.run_ite]
    rw [if_pos ⟨h0,h1⟩]
  cases lo with
  | none =>
    cases vl with
    | some v => exact hlo.elim
    | none =>
      cases hi with
      | none =>
        cases vh with
        | some v => exact hhi.elim
        | none => simp [Instr.sliceBounds,cutLo,cutHi]
      | some m =>
        cases vh with
        | none => exact hhi.elim
        | some v =>
          obtain ⟨k,rfl⟩:=hhi
          obtain ⟨h0,h1⟩:=h
          cases isSlice <;> simp [Instr.sliceBounds,cutLo,cutHi,sb _ _ _ _ h0 (show m ≤ (cap:Int) by omega)]
  | some l =>
    cases vl with
    | none => exact hlo.elim
    | some v =>
      obtain ⟨k,rfl⟩:=hlo
      cases hi with
      | none =>
        cases vh with
        | some v => exact hhi.elim
        | none =>
          obtain ⟨h0,h1⟩:=h
          simp [Instr.sliceBounds,cutLo,cutHi,sb _ _ _ _ h0 h1]
      | some m =>
        cases vh with
        | none => exact hhi.elim
        | some v =>
          obtain ⟨k',rfl⟩:=hhi
          obtain ⟨h0,h1,h2⟩:=h
          have e1:(0:Int) ≤ m:=Int.le_trans h0 h1
          cases isSlice <;> simp [Instr.sliceBounds,cutLo,cutHi,sb _ _ _ _ e1 (show m ≤ (cap:Int) by omega),sb _ _ _ _ h0 (show l ≤ (m.toNat:Int) by omega)]

theorem run_sliceBounds3 {P:Program} {w:World} {isSlice:Bool} {len cap:Nat} {lo:Option Int} {m:Int} {k k':IntKind} {vl:Option Value} (hlo:BoundRel lo vl) (h:inCut len lo (some m)) (hc:len ≤ cap) :
    (Instr.sliceBounds isSlice len cap vl (some (.int k m)) (some (.int k' m))).run P w = .ok (cutLo lo,m.toNat,m.toNat) w:=by
  have sb:∀ (k:IntKind) (n:Int) (y:Nat) (code:BoundsCode),0 ≤ n → n ≤ y → (Instr.sliceBound (.int k n) y code).run P w = .ok n.toNat w:=by
    intro k n y code h0 h1
    simp only [Instr.sliceBound,asIntOf,Sem.run_bind,Sem.run_pure,Result.andThen_ok,Sem.run_ite]
    rw [if_pos ⟨h0,h1⟩]
  cases lo with
  | none =>
    cases vl with
    | some v => exact hlo.elim
    | none =>
      obtain ⟨h0,h1⟩:=h
      cases isSlice <;> simp [Instr.sliceBounds,cutLo,sb _ _ _ _ h0 (show m ≤ (cap:Int) by omega),sb _ _ _ _ h0 (show m ≤ (m.toNat:Int) by omega)]
  | some l =>
    cases vl with
    | none => exact hlo.elim
    | some v =>
      obtain ⟨k,rfl⟩:=hlo
      obtain ⟨h0,h1,h2⟩:=h
      have e1:(0:Int) ≤ m:=Int.le_trans h0 h1
      cases isSlice <;> simp [Instr.sliceBounds,cutLo,sb _ _ _ _ e1 (show m ≤ (cap:Int) by omega),sb _ _ _ _ e1 (show m ≤ (m.toNat:Int) by omega),sb _ _ _ _ h0 (show l ≤ (m.toNat:Int) by omega)]

theorem cut_bounds {n:Nat} {lo hi:Option Int} (h:inCut n lo hi):cutLo lo ≤ cutHi n hi ∧ cutHi n hi ≤ n:=by
  cases lo <;> cases hi <;> simp only [inCut,cutLo,cutHi] at * <;> omega

theorem sl_empty {T:Ty} {w:World} {M:Mem} {a:Option Addr} {cap:Nat} (h:cap ≤ 9223372036854775807):RepC (.sl T) ([]:List T.den) w M [.slice a 0 cap]:=⟨a,cap,rfl,Nat.zero_le _,h,.inl rfl⟩

section
variable {E:Env} {n:Nat} {w0:World} {S0:Cx} {s:St} {a:Act} {w:World} {ν:Nat → Value} {S:Nat → Prop} {F:Reg} {o:Oper} {K:St → Prop} {Q:Exit → Act → World → Prop}

theorem bound_rel (h:Full n w0 S0 s a w ν S) {x:Option Operand} {b:Option Int} (hc:∀ y,x = some y → constOK y = true) (hb:bound s x = some b):BoundRel b (x.map a.eval):=by
  cases x with
  | none => simp only [bound,Option.some.injEq] at hb; subst hb; trivial
  | some y =>
    simp only [bound] at hb
    split at hb
    · rename_i k m hev
      simp only [Option.some.injEq] at hb
      subst hb
      have hy:=h.ev (hc y rfl)
      rw [hev] at hy
      exact ⟨k,(PRel_val_int hy).1⟩
    · cases hb

theorem str_extract (xs:List UInt8) (l h:Nat):(⟨xs.toArray⟩:ByteArray).extract l h = ⟨((xs.drop l).take (h - l)).toArray⟩:=by
  apply ByteArray.ext
  rw [ByteArray.data_extract]
  apply Array.toList_inj.1
  simp [Array.toList_extract]

theorem rowL_rep {w:World} {M:Mem}:∀ (U:Ty) (x:U.den) (l:List Nat) (cs:List Value),rowL U x = some l → RepC U x w M cs → cs = l.map fun f => Value.func (.func f) #[] #[]
  | .fnv,x,l,cs,h,hr => by
    simp only [rowL,Option.some.injEq] at h
    subst h
    exact hr
  | .pair A B,x,l,cs,h,hr => by
    cases A with
    | fnv =>
      simp only [rowL] at h
      split at h
      · rename_i l' hl
        injection h with h
        subst h
        obtain ⟨va,vb,rfl,ha,hb⟩:=hr
        have ha:va = [.func (.func x.1) #[] #[]]:=ha
        rw [rowL_rep B x.2 l' vb hl hb,ha]
        rfl
      · cases h
    | _ => simp [rowL] at h
  | .unit,x,l,cs,h,hr => by simp [rowL] at h
  | .int _,x,l,cs,h,hr => by simp [rowL] at h
  | .bool,x,l,cs,h,hr => by simp [rowL] at h
  | .str,x,l,cs,h,hr => by simp [rowL] at h
  | .sl _,x,l,cs,h,hr => by simp [rowL] at h
  | .own _,x,l,cs,h,hr => by simp [rowL] at h
  | .st _,x,l,cs,h,hr => by simp [rowL] at h
  | .tup _ _,x,l,cs,h,hr => by simp [rowL] at h
  | .ptr _,x,l,cs,h,hr => by simp [rowL] at h
  | .clo _ _,x,l,cs,h,hr => by simp [rowL] at h
  | .mp _ _,x,l,cs,h,hr => by simp [rowL] at h
theorem op_slice (hE:EnvOK E) (h:Full n w0 S0 s a w ν S) (ho:opOK n o = true) {t:Nat} {x:Operand} {lo hi mx:Option Operand} (hop:o.op = .slice t x lo hi mx) (hout:OutK E (stepF E F s o) (fun l => K (s.fin o.dst l))):o.wp E.P a w (fun a' w' => ∃ s',K s' ∧ Rel n w0 S0 s' a' w') Q:=by
  simp only [stepF,hop] at hout
  have hx:=h.ev (opOK_arg ho (x:=x) (by simp [hop,Op.operands]))
  split at hout
  · rename_i bl bh T hbl hbh hT
    have hrl:=bound_rel h (fun y hy => opOK_arg ho (by simp [hop,Op.operands,hy])) hbl
    have hrh:=bound_rel h (fun y hy => opOK_arg ho (by simp [hop,Op.operands,hy])) hbh
    have hf:=hE.facts hT
    cases mx with
    | none =>
      simp only [sliceO] at hout
      split at hout
      · split at hout
        · rename_i y hev
          rw [hev] at hx
          obtain ⟨hv,hl⟩:=PRel_val_str hx
          obtain ⟨hin,hout⟩:=hout
          obtain ⟨d,hu,hsh⟩:=hf.und
          have hd:d = .string:=by cases d <;> first | rfl | cases hsh
          subst hd
          have hb:=run_sliceBounds (P:=E.P) (w:=w) (isSlice:=false) (cap:=y.length) hrl hrh hin (Nat.le_refl _)
          have hsz:(⟨y.toArray⟩:ByteArray).size = y.length:=by simp [ByteArray.size]
          refine h.val ho (v:=.string ⟨(cut y bl bh).toArray⟩) ?_ (PRel_str (by rw [cut_eq]; simp; omega)) hout
          simp only [execOp,hop,hv,Instr.sliceAt,Sem.run_bind,run_underlying hu,Result.andThen_ok,Instr.slice,Option.map_none,Option.isSome_none,Bool.false_eq_true,if_false,Sem.run_pure,hsz,hb,str_extract,cut_eq]
        · exact hout.elim
      · rename_i T
        obtain ⟨e,hu,hee,hfe,hval,hpos⟩:=hf.elem hE
        have hsz:=hfe.sizeOf w
        have hrun:∀ (aa:Option Addr) (len cap:Nat),a.eval x = .slice aa len cap → inCut len bl bh → len ≤ cap → (execOp a.eval o).run E.P w = .ok (.value (.slice (if cap = cutLo bl then aa else aa.map (·.add (cutLo bl * T.cells))) (cutHi len bh - cutLo bl) (cap - cutLo bl))) w:=by
          intro aa len cap he hin hlc
          have hb:=run_sliceBounds (P:=E.P) (w:=w) (isSlice:=true) hrl hrh hin hlc
          simp only [execOp,hop,he,Instr.sliceAt,Sem.run_bind,run_underlying hu,Result.andThen_ok,Instr.slice,Option.map_none,hb,hsz,Sem.run_pure]
        split at hout
        · rename_i U xs hev
          split at hout
          · rename_i xs' hcast
            obtain ⟨e',hx'⟩:=Ty.cast_some hcast
            injection e' with e'
            subst e'
            simp only at hx'
            subst hx'
            rw [hev] at hx
            simp only [PRel] at hx
            obtain ⟨hoT,hrep⟩:=hx
            obtain ⟨hin,hout⟩:=hout
            have hrep':RepC (.sl U) xs w ⟨S,own0 w0 S0⟩ [a.eval x]:=hrep
            obtain ⟨aa,cap,hv,hle,hcap,hcase⟩:=hrep
            injection hv with hv
            obtain ⟨hb1,hb2⟩:=cut_bounds hin
            refine h.val ho (hrun aa _ cap hv hin hle) ?_ hout
            simp only [PRel]
            refine ⟨hoT,?_⟩
            rw [cut_eq]
            rw [hv] at hrep'
            rcases hcase with rfl | ⟨g,ob,rfl,_⟩
            · simp only [List.length_nil] at hb2 hb1
              have h0:cutHi 0 bh = 0:=by omega
              have h1:cutLo bl = 0:=by omega
              simp only [List.length_nil,h0,h1,List.drop_nil,List.take_nil]
              exact sl_empty (by omega)
            · exact sl_part (off:=cutLo bl) (len:=cutHi xs.length bh - cutLo bl) hrep' (by omega) (fun hlt => ⟨g,ob,rfl,by rw [if_neg (by omega)]; simp [addr_add]⟩)
          · exact hout.elim
        · rename_i id hev
          split at hout
          · rename_i U xs te hl
            obtain ⟨hl,_⟩:=lk_some hl
            split at hout
            · obtain ⟨hin,hout⟩:=hout
              rw [hev] at hx
              simp only [PRel] at hx
              obtain ⟨hd,hν,_⟩:=hx
              obtain ⟨hty,hoU,u,hu',hlx,hcase⟩:=h.W.blk _ _ hl
              simp only [List.cons.injEq,and_true] at hu'
              simp only [Full.c] at hν
              obtain ⟨hb1,hb2⟩:=cut_bounds hin
              rcases hcase with ⟨hn,rfl⟩ | ⟨g,ob,cap,cur,e',hs',hle,hcap,_⟩
              · rw [hn] at hu'
                rw [hu'] at hν
                simp only [List.length_nil] at hb1 hb2
                refine h.val ho (hrun none 0 0 hν hin (Nat.le_refl _)) ?_ hout
                simp only [PRel]
                exact ⟨hd,none,0,0,_,hu',by simp; omega,Nat.le_refl _,rfl,fun h => by omega⟩
              · rw [hs'] at hu'
                rw [hu'] at hν
                refine h.val ho (hrun _ _ cap hν hin hle) ?_ hout
                simp only [PRel]
                exact ⟨hd,_,xs.length,cap,_,hu',by omega,hle,rfl,fun hlt => ⟨g,ob,rfl,by rw [if_neg (by omega)]; simp [addr_add]⟩⟩
            · exact hout.elim
          · exact hout.elim
        · rename_i id sz off len hev
          split at hout
          · rename_i hszb
            have hszb:=Nat.eq_of_beq_eq_true hszb
            obtain ⟨hin,hout⟩:=hout
            rw [hev] at hx
            simp only [PRel] at hx
            obtain ⟨hd,aa,m',cap,b,hν,hn,hcap,hv,hb⟩:=hx
            obtain ⟨hb1,hb2⟩:=cut_bounds hin
            refine h.val ho (hrun b len (cap - off) hv hin (by omega)) ?_ hout
            simp only [PRel]
            refine ⟨hd,aa,m',cap,_,hν,by omega,hcap,by rw [Nat.sub_sub],fun hlt => ?_⟩
            obtain ⟨g,ob,h1,h2⟩:=hb (by omega)
            exact ⟨g,ob,h1,by rw [if_neg (by omega),h2]; simp [addr_add,hszb,Nat.add_mul,Nat.add_assoc]⟩
          · exact hout.elim
        · rename_i hev
          obtain ⟨hin,hout⟩:=hout
          rw [hev] at hx
          simp only [PRel] at hx
          obtain ⟨hb1,hb2⟩:=cut_bounds (n:=0) hin
          have h0:cutHi 0 bh = 0:=by omega
          have h1:cutLo bl = 0:=by omega
          refine h.val ho (hrun none 0 0 hx hin (Nat.le_refl _)) ?_ hout
          simp only [PRel,h0,h1]
          rfl
        · exact hout.elim
      · rename_i R
        split at hout
        · rename_i U x0 hev
          rw [hev] at hx
          simp only [PRel] at hx
          obtain ⟨_,g,ob,cs,hxv,hg,hcl,hat,hrep⟩:=hx
          split at hout
          · rename_i l hl
            split at hout
            · rename_i hcond
              simp only [Bool.and_eq_true,Bool.not_eq_true'] at hcond
              obtain ⟨⟨⟨hd1,hd2⟩,hstr⟩,hd3⟩:=hcond
              have hc1:=Nat.eq_of_beq_eq_true hd1
              have hc2:=Ty.eq_spec hd2
              have hc3:=Nat.le_of_ble_eq_true hd3
              clear hd1 hd2 hd3
              obtain ⟨d,hu,hsh⟩:=hf.und
              have hs2:=hf.str R d rfl hu
              cases d with
              | array m e =>
                simp only [shapeOK] at hsh
                split at hsh
                · rename_i V hV
                  simp only [Bool.and_eq_true] at hsh
                  obtain ⟨⟨⟨hR,hVv⟩,_⟩,h2⟩:=hsh
                  have hR:=Ty.eq_spec hR
                  have h2:=Nat.le_of_ble_eq_true h2
                  subst hR
                  rw [rowOf_len V hVv m (by omega)] at hc1
                  rw [(rowOf_off V hVv m 0 (by omega)).2] at hc2
                  subst hc2
                  have hsz:=(hE.facts hV).sizeOf w
                  have hb:=run_sliceBounds (P:=E.P) (w:=w) (isSlice:=false) (len:=m) (cap:=m) hrl hrh trivial (Nat.le_refl _)
                  have hcs:=rowL_rep U x0 l cs hl hrep
                  refine h.val ho (v:=.slice (some ⟨g,ob,none⟩) m m) ?_ ?_ hout
                  · simp only [execOp,hop,hxv,Nat.add_zero,Instr.sliceAt,Instr.sureAddr,Sem.run_bind,run_underlying hu,Result.andThen_ok,Option.map_none,hb,hsz,Sem.run_pure,cutLo,cutHi,Nat.sub_zero,Nat.zero_mul]
                    rw [if_neg (by omega)]
                    rfl
                  · simp only [PRel]
                    refine ⟨rfl,some ⟨g,ob,none⟩,m,by rw [hc1],by omega,by omega,.inr ⟨g,ob,rfl,hg,fun i y hy => ⟨[.func (.func y) #[] #[]],rfl,fun j v hj => ?_,rfl⟩⟩⟩
                    have h0:j = 0:=by
                      cases j with
                      | zero => rfl
                      | succ j => simp at hj
                    subst h0
                    simp only [List.getElem?_cons_zero,Option.some.injEq] at hj
                    have:=hat i v (by rw [hcs,List.getElem?_map,hy]; simpa using hj)
                    simpa [Ty.cells] using this
                · cases hsh
              | struct fs =>
                have hs2:E.str t = true:=hs2
                rw [hs2] at hstr; cases hstr
              | _ => simp [shapeOK] at hsh
            · exact hout.elim
          · exact hout.elim
        · exact hout.elim
      · exact hout.elim
    | some m =>
      split at hout
      · rename_i hmx; cases hmx
      · rename_i mm hmx
        injection hmx with hmx
        subst hmx
        split at hout
        · rename_i km mv hevm
          have hm:=h.ev (opOK_arg ho (x:=m) (by simp [hop,Op.operands]))
          rw [hevm] at hm
          obtain ⟨hvm,_⟩:=PRel_val_int hm
          simp only [slice3O] at hout
          split at hout
          · rename_i T
            obtain ⟨e,hu,hee,hfe,hval,hpos⟩:=hf.elem hE
            have hsz:=hfe.sizeOf w
            have key:∀ (xs:List T.den) (hh:Int),bh = some hh → inCut xs.length bl bh → mv = hh → RepC (.sl T) xs w ⟨S,own0 w0 S0⟩ [a.eval x] →
                (∃ g' n',(execOp a.eval o).run E.P w = .ok (.value (.slice g' n' n')) w ∧ RepC (.sl T) (cut xs bl bh) w ⟨S,own0 w0 S0⟩ [.slice g' n' n']):=by
              intro xs hh hbh' hin hmh hrep
              subst hbh' hmh
              have hrep':=hrep
              obtain ⟨aa,cap,hv,hle,hcap,hcase⟩:=hrep
              injection hv with hv
              obtain ⟨vh,kh,hvh⟩:∃ vh kh,hi = some vh ∧ a.eval vh = .int kh mv:=by
                cases hi with
                | none => exact hrh.elim
                | some vh => obtain ⟨k,hk⟩:=hrh; exact ⟨vh,k,rfl,hk⟩
              obtain ⟨rfl,hvh⟩:=hvh
              have hb:=run_sliceBounds3 (P:=E.P) (w:=w) (isSlice:=true) (k:=kh) (k':=km) hrl hin hle
              obtain ⟨hb1,hb2⟩:=cut_bounds hin
              simp only [cutHi] at hb1 hb2
              refine ⟨if mv.toNat = cutLo bl then aa else aa.map (·.add (cutLo bl * T.cells)),mv.toNat - cutLo bl,?_,?_⟩
              · simp only [execOp,hop,hv,Instr.sliceAt,Sem.run_bind,run_underlying hu,Result.andThen_ok,Instr.slice,Option.map_some,hvh,hvm,hb,hsz,Sem.run_pure]
              · rw [cut_eq]
                simp only [cutHi]
                rw [hv] at hrep'
                rcases hcase with rfl | ⟨g,ob,rfl,hrow⟩
                · simp only [List.length_nil] at hb2 hb1
                  have h0:mv.toNat = 0:=by omega
                  have h1:cutLo bl = 0:=by omega
                  simp only [h0,h1,List.drop_nil,List.take_nil,Nat.sub_self]
                  exact sl_empty (by omega)
                · have h1:=sl_part (b:=some ⟨g,ob + cutLo bl * T.cells,none⟩) (off:=cutLo bl) (len:=mv.toNat - cutLo bl) hrep' (by omega) (fun hlt => ⟨g,ob,rfl,rfl⟩)
                  obtain ⟨a',cap',e1,e2,e3,e4⟩:=h1
                  simp only [List.cons.injEq,Value.slice.injEq,and_true] at e1
                  obtain ⟨e1,e1',e1''⟩:=e1
                  have hlen:((xs.drop (cutLo bl)).take (mv.toNat - cutLo bl)).length = mv.toNat - cutLo bl:=e1'.symm
                  refine ⟨_,mv.toNat - cutLo bl,by rw [hlen],by rw [hlen]; exact Nat.le_refl _,by omega,?_⟩
                  rcases e4 with e4 | ⟨g',o',e4,e5⟩
                  · exact .inl e4
                  · by_cases hz:mv.toNat = cutLo bl
                    · left
                      apply List.eq_nil_of_length_eq_zero
                      omega
                    · right
                      rw [← e1] at e4
                      refine ⟨g',o',?_,e5⟩
                      rw [if_neg hz]
                      simpa [addr_add] using e4
            split at hout
            · rename_i U xs hev
              split at hout
              · rename_i xs' hh hcast
                obtain ⟨e',hx'⟩:=Ty.cast_some hcast
                injection e' with e'
                subst e'
                simp only at hx'
                subst hx'
                rw [hev] at hx
                simp only [PRel] at hx
                obtain ⟨hoT,hrep⟩:=hx
                obtain ⟨⟨hin,hmh⟩,hout⟩:=hout
                obtain ⟨g',n',hr1,hr2⟩:=key xs hh rfl hin hmh hrep
                refine h.val ho hr1 ?_ hout
                simp only [PRel]
                exact ⟨hoT,⟨g',n',rfl⟩,hr2⟩
              · exact hout.elim
            · rename_i U xs hev
              split at hout
              · rename_i xs' hh hcast
                obtain ⟨e',hx'⟩:=Ty.cast_some hcast
                injection e' with e'
                subst e'
                simp only at hx'
                subst hx'
                rw [hev] at hx
                simp only [PRel] at hx
                obtain ⟨hoT,_,hrep⟩:=hx
                obtain ⟨⟨hin,hmh⟩,hout⟩:=hout
                obtain ⟨g',n',hr1,hr2⟩:=key xs hh rfl hin hmh hrep
                refine h.val ho hr1 ?_ hout
                simp only [PRel]
                exact ⟨hoT,⟨g',n',rfl⟩,hr2⟩
              · exact hout.elim
            · exact hout.elim
          · exact hout.elim
        · exact hout.elim
  · exact hout.elim

theorem op_makeFunc (h:Full n w0 S0 s a w ν S) (ho:opOK n o = true) {f:Nat} {first caps:Array Operand} (hop:o.op = .makeFunc (.func f) first caps) (hout:OutK E (stepF E F s o) (fun l => K (s.fin o.dst l))):o.wp E.P a w (fun a' w' => ∃ s',K s' ∧ Rel n w0 S0 s' a' w') Q:=by
  simp only [stepF,hop] at hout
  split at hout
  · rename_i hfirst
    have hf:first = #[]:=by apply Array.toList_inj.1; simpa using hfirst
    subst hf
    have hc:=evAll_rel h caps.toList (fun x hx => opOK_arg ho (by simp only [hop,Op.operands]; simpa using hx))
    refine h.val ho (v:=.func (.func f) #[] (caps.map a.eval)) ?_ ?_ hout
    · simp only [execOp,hop,Instr.makeFunc,Sem.run_bind,Sem.run_pure,Result.andThen_ok]
      rw [show (#[]:Array Operand).map a.eval = #[] from by simp]
    · simp only [PRel]
      exact ⟨caps.toList.map a.eval,by congr 1; exact Array.toList_inj.1 (by simp),hc⟩
  · rename_i y r hfirst
    split at hout
    · rename_i hcaps
      have hf:caps = #[]:=by apply Array.toList_inj.1; simpa using hcaps
      subst hf
      have hc:=evAll_rel h first.toList (fun x hx => opOK_arg ho (by simp only [hop,Op.operands]; simpa using hx))
      rw [← hfirst] at hout
      refine h.val ho (v:=.func (.func f) (first.map a.eval) #[]) ?_ ?_ hout
      · simp only [execOp,hop,Instr.makeFunc,Sem.run_bind,Sem.run_pure,Result.andThen_ok]
        rw [show (#[]:Array Operand).map a.eval = #[] from by simp]
      · simp only [PRel]
        exact ⟨first.toList.map a.eval,by congr 1; exact Array.toList_inj.1 (by simp),hc⟩
    · exact hout.elim

theorem nthPV_rel {c:Ctx}:∀ (vs:List PV) (us:List Value) (i:Nat) (p:PV),PRels c vs us → nthPV vs i = some p → ∃ v,us[i]? = some v ∧ PRel c p v
  | [],us,i,p,h,hv => by simp [nthPV] at hv
  | q :: vs,us,0,p,h,hv => by
    simp only [PRels] at h
    obtain ⟨u,r,rfl,h1,h2⟩:=h
    simp [nthPV] at hv
    subst hv
    exact ⟨u,rfl,h1⟩
  | q :: vs,us,i + 1,p,h,hv => by
    simp only [PRels] at h
    obtain ⟨u,r,rfl,h1,h2⟩:=h
    simpa using nthPV_rel vs r i p h2 hv

theorem RepR_of_V {T:Ty} {x:T.den} {w:World} {M:Mem} {v:Value} (h:RepV T x w M v):RepR T x w M v:=by
  cases T <;> first | exact h | exact h.elim

theorem extractD_rel {c:Ctx}:∀ (T:Ty) (x:T.den) (us:List Value) (i:Nat) (p:PV),owns T = 0 → RepT T x c.w c.M us → extractD T x i = some p → ∃ v,us[i]? = some v ∧ PRel c p v:=by
  intro T
  induction T with
  | tup a b iha ihb =>
    intro x us i p ho h hv
    simp [owns] at ho
    obtain ⟨u,r,rfl,h1,h2⟩:=h
    cases i with
    | zero =>
      simp only [extractD,Option.some.injEq] at hv
      subst hv
      refine ⟨u,rfl,?_⟩
      simp only [PRel]; exact ⟨ho.1,RepR_of_V h1⟩
    | succ i => simpa using ihb _ _ _ _ ho.2 h2 hv
  | _ =>
    intro x us i p ho h hv
    obtain ⟨u,rfl,h1⟩:=h
    cases i with
    | zero =>
      simp only [extractD,Option.some.injEq] at hv
      subst hv
      refine ⟨u,rfl,?_⟩
      simp only [PRel]; exact ⟨ho,RepR_of_V h1⟩
    | succ i => simp [extractD] at hv

theorem op_extract (h:Full n w0 S0 s a w ν S) (ho:opOK n o = true) {x:Operand} {i:Nat} (hop:o.op = .extract x i) (hout:OutK E (stepF E F s o) (fun l => K (s.fin o.dst l))):o.wp E.P a w (fun a' w' => ∃ s',K s' ∧ Rel n w0 S0 s' a' w') Q:=by
  simp only [stepF,hop] at hout
  have hx:=h.ev (opOK_arg ho (x:=x) (by simp [hop,Op.operands]))
  split at hout
  · rename_i p hp
    have key:∃ us:List Value,a.eval x = .tuple us.toArray ∧ ∃ v,us[i]? = some v ∧ PRel h.c p v:=by
      cases hev:s.ev x with
      | tup vs =>
        rw [hev] at hx hp
        simp only [PRel] at hx
        obtain ⟨us,hv,hr⟩:=hx
        exact ⟨us,hv,nthPV_rel vs us i p hr hp⟩
      | iv T y =>
        rw [hev] at hx hp
        cases T with
        | tup ta tb =>
          simp only [PRel] at hx
          obtain ⟨ho',us,hv,hr⟩:=hx
          exact ⟨us,hv,extractD_rel _ y us i p ho' hr hp⟩
        | _ => simp only [extractO] at hp; cases hp
      | _ => rw [hev] at hp; simp only [extractO] at hp; cases hp
    obtain ⟨us,hv,v,hvi,hr⟩:=key
    refine h.val ho (v:=v) ?_ hr hout
    simp [execOp,hop,hv,Instr.extract,hvi]
  · exact hout.elim
end
end Go.Proofs.Ytefpgfdemmllpaa
