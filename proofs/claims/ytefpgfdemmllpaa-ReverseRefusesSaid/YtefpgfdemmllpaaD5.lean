/- Plain facts: ways through the trimmed scheme; contracts: the way of a pair. Nothing here is trusted; no condition. -/
import Derived.Test.YtefpgfdemmllpaaD4
set_option linter.unusedSimpArgs false
set_option linter.unusedVariables false
open Nat renaming reduceBEq → zA, reduceAdd → zB, reduceSub → zC, reduceMul → zD, reduceLeDiff → zE
open Int renaming reduceLT → zF, reduceLE → zG, reduceToNat → zH, reduceNeg → zI
namespace Go.Proofs.Ytefpgfdemmllpaa
set_option maxHeartbeats 2000000
abbrev Pm:=List (Rev.Pl × Rev.Price)
theorem eqP (x y:PlaceT105.den):eqB PlaceT105 x y = true ↔ x = y:=eqB_iff PlaceT105 x y rfl
abbrev VP (ps:Pm):Rev.Pl → Option Rev.Price:=fun p => mfind (eqB PlaceT105) ps p
def impB (ps:Pm) (p:Rev.Pl) (here:Rev.Price):Bool:=match VP ps p with | none => true | some old => Rev.lessP here old
def impS (inp out:Str) (p:Rev.Pl) (st:Pm × Bool) (r:Rl):Pm × Bool:=match Rev.fitsP inp out p r with
  | none => st
  | some q => match VP st.1 q with
    | none => st
    | some a => if impB st.1 p (Rev.plusP a (r.2.2.2.2,1)) = true then (mset (eqB PlaceT105) st.1 p (Rev.plusP a (r.2.2.2.2,1)),true) else st
def impE (rs:List Rl) (inp out:Str) (p:Rev.Pl) (ps:Pm):Pm × Bool:=rs.foldl (impS inp out p) (ps,false)
structure PI (rs:List Rl) (acc:Int) (inp out:Str) (ps:Pm):Prop where
  once:(ps.map (·.1)).Nodup
  sound:∀ p pr,VP ps p = some pr → Rev.OkL inp out p ∧ Rev.wayS rs acc inp out p pr
def leO (o:Option Rev.Price) (b:Rev.Price):Prop:=∃ c,o = some c ∧ Rev.lessP b c = false
def shutAt (rs:List Rl) (inp out:Str) (ps:Pm) (p:Rev.Pl):Prop:=∀ r,r ∈ rs → ∀ q a,Rev.fitsP inp out p r = some q → VP ps q = some a → leO (VP ps p) (Rev.plusP a (r.2.2.2.2,1))
variable {rs:List Rl} {acc:Int} {inp out:Str}
theorem leO_mono {o:Option Rev.Price} {a b:Rev.Price} (h:leO o a) (hb:Rev.lessP b a = false):leO o b:=by
  obtain ⟨c,h1,h2⟩:=h
  refine ⟨c,h1,?_⟩
  rw [Rev.lessP_no] at *
  omega
theorem leO_refl (b:Rev.Price):leO (some b) b:=⟨b,rfl,Rev.lessP_irr b⟩
theorem fits_mem (hR:Rev.OkR rs) (hN:Rev.NoLoop rs) {p q:Rev.Pl} {r:Rl} (hp:Rev.OkL inp out p) (hr:r ∈ rs) (hf:Rev.fitsP inp out p r = some q):q ≠ p:=fun e => by
  have:=(Rev.fits_ok hR hN hp hr hf).2
  rw [e] at this
  omega
theorem wayS_cons {p q:Rev.Pl} {r:Rl} {a:Rev.Price} (hr:r ∈ rs) (hf:Rev.fitsP inp out p r = some q) (h:Rev.wayS rs acc inp out q a):Rev.wayS rs acc inp out p (Rev.plusP a (r.2.2.2.2,1)):=by
  obtain ⟨l,c,hw,rfl⟩:=h
  obtain ⟨k,hk⟩:=List.getElem?_of_mem hr
  refine ⟨(k:Int) :: l,r.2.2.2.2 + c,.step hk hf hw,?_⟩
  unfold Rev.plusP
  rw [List.length_cons]
  exact Prod.ext (Int.add_comm _ _) (by dsimp only; omega)
theorem impS_other {p u:Rev.Pl} {st:Pm × Bool} {r:Rl} (h:u ≠ p):VP (impS inp out p st r).1 u = VP st.1 u:=by
  unfold impS
  split
  · rfl
  · split
    · rfl
    · split
      · exact mfind_other eqP _ h _
      · rfl
theorem impS_sound {p:Rev.Pl} {st:Pm × Bool} {r:Rl} (hp:Rev.OkL inp out p) (hr:r ∈ rs) (h:PI rs acc inp out st.1):PI rs acc inp out (impS inp out p st r).1:=by
  unfold impS
  split
  · exact h
  · rename_i q hf
    split
    · exact h
    · rename_i a ha
      split
      · refine ⟨mset_onceG eqP h.once,fun u pr hu => ?_⟩
        by_cases e:u = p
        · unfold VP at hu
          rw [e,mfind_same eqP] at hu
          injection hu with hu
          rw [e,← hu]
          exact ⟨hp,wayS_cons hr hf (h.sound q a ha).2⟩
        · unfold VP at hu
          rw [mfind_other eqP _ e] at hu
          exact h.sound u pr hu
      · exact h
theorem impS_mono {p:Rev.Pl} {st:Pm × Bool} {r:Rl} {b:Rev.Price} (h:leO (VP st.1 p) b):leO (VP (impS inp out p st r).1 p) b:=by
  unfold impS
  split
  · exact h
  · split
    · exact h
    · rename_i a ha
      split
      · rename_i hi
        obtain ⟨c,h1,h2⟩:=h
        refine ⟨_,mfind_same eqP _ _ _,?_⟩
        unfold impB at hi
        rw [h1] at hi
        dsimp only at hi
        rw [Rev.lessP_iff] at hi
        rw [Rev.lessP_no] at *
        omega
      · exact h
theorem impS_shut {p q:Rev.Pl} {st:Pm × Bool} {r:Rl} {a:Rev.Price} (hf:Rev.fitsP inp out p r = some q) (ha:VP st.1 q = some a):leO (VP (impS inp out p st r).1 p) (Rev.plusP a (r.2.2.2.2,1)):=by
  unfold impS
  rw [hf]
  dsimp only
  rw [ha]
  dsimp only
  split
  · exact ⟨_,mfind_same eqP _ _ _,Rev.lessP_irr _⟩
  · rename_i hi
    unfold impB at hi
    cases hv:VP st.1 p with
    | none => rw [hv] at hi; exact absurd rfl hi
    | some c =>
      rw [hv] at hi
      exact ⟨c,rfl,Bool.eq_false_iff.2 hi⟩
theorem impS_flag {p:Rev.Pl} {st:Pm × Bool} {r:Rl}:(impS inp out p st r).2 = false → impS inp out p st r = st:=by
  unfold impS
  split
  · exact fun _ => rfl
  · split
    · exact fun _ => rfl
    · split
      · exact fun h => by cases h
      · exact fun _ => rfl
def lowO (o o':Option Rev.Price):Prop:=∃ c,o' = some c ∧ ∀ b,o = some b → Rev.lessP c b = true
theorem impS_low {p:Rev.Pl} {st:Pm × Bool} {r:Rl} {o:Option Rev.Price} (h:(st.2 = false ∧ VP st.1 p = o) ∨ (st.2 = true ∧ lowO o (VP st.1 p))):((impS inp out p st r).2 = false ∧ VP (impS inp out p st r).1 p = o) ∨ ((impS inp out p st r).2 = true ∧ lowO o (VP (impS inp out p st r).1 p)):=by
  unfold impS
  split
  · exact h
  · split
    · exact h
    · rename_i a ha
      split
      · rename_i hi
        refine .inr ⟨rfl,_,mfind_same eqP _ _ _,fun b hb => ?_⟩
        unfold impB at hi
        rcases h with ⟨_,h⟩ | ⟨_,c,h1,h2⟩
        · rw [h,hb] at hi
          exact hi
        · rw [h1] at hi
          have:=h2 b hb
          dsimp only at hi
          rw [Rev.lessP_iff] at *
          omega
      · exact h
theorem imp_fold {p:Rev.Pl} (hp:Rev.OkL inp out p):∀ (l:List Rl) (st:Pm × Bool),(∀ r,r ∈ l → r ∈ rs) → PI rs acc inp out st.1 → PI rs acc inp out (l.foldl (impS inp out p) st).1
  | [],_,_,h => h
  | r :: l,st,hl,h => imp_fold hp l _ (fun x hx => hl x (List.mem_cons_of_mem _ hx)) (impS_sound hp (hl r List.mem_cons_self) h)
theorem imp_other_fold {p u:Rev.Pl} (h:u ≠ p):∀ (l:List Rl) (st:Pm × Bool),VP (l.foldl (impS inp out p) st).1 u = VP st.1 u
  | [],_ => rfl
  | r :: l,st => by rw [List.foldl_cons,imp_other_fold h l]; exact impS_other h
theorem imp_mono_fold {p:Rev.Pl} {b:Rev.Price}:∀ (l:List Rl) (st:Pm × Bool),leO (VP st.1 p) b → leO (VP (l.foldl (impS inp out p) st).1 p) b
  | [],_,h => h
  | r :: l,st,h => imp_mono_fold l _ (impS_mono h)
theorem imp_low_fold {p:Rev.Pl} {o:Option Rev.Price}:∀ (l:List Rl) (st:Pm × Bool),((st.2 = false ∧ VP st.1 p = o) ∨ (st.2 = true ∧ lowO o (VP st.1 p))) → (((l.foldl (impS inp out p) st).2 = false ∧ VP (l.foldl (impS inp out p) st).1 p = o) ∨ ((l.foldl (impS inp out p) st).2 = true ∧ lowO o (VP (l.foldl (impS inp out p) st).1 p)))
  | [],_,h => h
  | r :: l,st,h => imp_low_fold l _ (impS_low h)
theorem imp_same_fold {p:Rev.Pl}:∀ (l:List Rl) (st:Pm × Bool),(l.foldl (impS inp out p) st).2 = false → l.foldl (impS inp out p) st = st
  | [],_,_ => rfl
  | r :: l,st,h => by
    rw [List.foldl_cons] at h ⊢
    have h1:=imp_same_fold l _ h
    rw [h1] at h ⊢
    exact impS_flag h
theorem imp_shut_fold (hR:Rev.OkR rs) (hN:Rev.NoLoop rs) {p:Rev.Pl} (hp:Rev.OkL inp out p):∀ (l:List Rl) (st:Pm × Bool),(∀ r,r ∈ l → r ∈ rs) → ∀ r,r ∈ l → ∀ q a,Rev.fitsP inp out p r = some q → VP st.1 q = some a → leO (VP (l.foldl (impS inp out p) st).1 p) (Rev.plusP a (r.2.2.2.2,1))
  | [],_,_,r,hr,_,_,_,_ => absurd hr List.not_mem_nil
  | r0 :: l,st,hl,r,hr,q,a,hf,ha => by
    rw [List.foldl_cons]
    rcases List.mem_cons.1 hr with rfl | hr
    · exact imp_mono_fold l _ (impS_shut hf ha)
    · refine imp_shut_fold hR hN hp l _ (fun x hx => hl x (List.mem_cons_of_mem _ hx)) r hr q a hf ?_
      rw [impS_other (fits_mem hR hN hp (hl r (List.mem_cons_of_mem _ hr)) hf)]
      exact ha
theorem imp_sound {p:Rev.Pl} (hp:Rev.OkL inp out p) {ps:Pm} (h:PI rs acc inp out ps):PI rs acc inp out (impE rs inp out p ps).1:=imp_fold hp rs _ (fun _ h => h) h
theorem imp_other {p u:Rev.Pl} (h:u ≠ p) (ps:Pm):VP (impE rs inp out p ps).1 u = VP ps u:=imp_other_fold h rs _
theorem imp_same {p:Rev.Pl} {ps:Pm} (h:(impE rs inp out p ps).2 = false):(impE rs inp out p ps).1 = ps:=by
  have:=imp_same_fold (inp:=inp) (out:=out) (p:=p) rs (ps,false) h
  unfold impE
  rw [this]
theorem imp_low {p:Rev.Pl} {ps:Pm} (h:(impE rs inp out p ps).2 = true):lowO (VP ps p) (VP (impE rs inp out p ps).1 p):=by
  rcases imp_low_fold (inp:=inp) (out:=out) (p:=p) (o:=VP ps p) rs (ps,false) (.inl ⟨rfl,rfl⟩) with ⟨h1,_⟩ | ⟨_,h2⟩
  · unfold impE at h; rw [h] at h1; cases h1
  · exact h2
theorem imp_mono {p u:Rev.Pl} {ps:Pm} {b:Rev.Price} (h:leO (VP ps u) b):leO (VP (impE rs inp out p ps).1 u) b:=by
  by_cases e:u = p
  · rw [e] at h ⊢; exact imp_mono_fold rs _ h
  · rw [imp_other e]; exact h
theorem imp_shut (hR:Rev.OkR rs) (hN:Rev.NoLoop rs) {p:Rev.Pl} (hp:Rev.OkL inp out p) {ps:Pm} (h:(impE rs inp out p ps).2 = false):shutAt rs inp out ps p:=fun r hr q a hf ha => by
  have:=imp_shut_fold hR hN hp rs (ps,false) (fun _ h => h) r hr q a hf ha
  have e:=imp_same h
  unfold impE at e
  rw [e] at this
  exact this
theorem known_of (hR:Rev.OkR rs) (hN:Rev.NoLoop rs) {ps:Pm} (hI:PI rs acc inp out ps) (hE:∀ p,Rev.OkL inp out p → Rev.doneP acc inp out p = true → leO (VP ps p) (0,0)) (hS:∀ p,Rev.OkL inp out p → shutAt rs inp out ps p):Rev.Known rs acc inp out (VP ps):=by
  have low:∀ {p:Rev.Pl} {l:List Int} {c:Int},Rev.Way rs acc inp out p l c → Rev.OkL inp out p → leO (VP ps p) (c,(l.length:Int)):=fun {p l c} hw => by
    induction hw with
    | done h => intro hp; exact hE _ hp h
    | @step p q k r l c hr hf _ ih =>
      intro hp
      have hrm:=List.mem_of_getElem? hr
      obtain ⟨a,h1,h2⟩:=ih (Rev.fits_ok hR hN hp hrm hf).1
      refine leO_mono (hS p hp r hrm q a hf h1) ?_
      rw [Rev.lessP_no] at *
      unfold Rev.plusP
      rw [List.length_cons]
      dsimp only at *
      omega
  refine ⟨fun p hp => ?_⟩
  cases hv:VP ps p with
  | none =>
    rintro pr ⟨l,c,hw,rfl⟩
    obtain ⟨a,h1,_⟩:=low hw hp
    rw [hv] at h1; cases h1
  | some b =>
    refine ⟨(hI.sound p b hv).2,?_⟩
    rintro pr ⟨l,c,hw,rfl⟩
    obtain ⟨a,h1,h2⟩:=low hw hp
    rw [hv] at h1
    injection h1 with h1
    rw [h1]; exact h2
end Go.Proofs.Ytefpgfdemmllpaa
namespace Go.Proofs.Ytefpgfdemmllpaa
attribute [local go_sem] litP appendC ne_eq not_false_eq_true Option.isSome_none Option.isSome_some St.ren permF
set_option maxHeartbeats 4000000
set_option maxRecDepth 100000
def aftP (inp out:Str) (p:Rev.Pl) (r:Rl):Rev.Pl × Bool:=((p.1 + (r.2.2.1.length:Int),p.2.1 + (r.2.2.2.1.length:Int),r.2.1),decide (r.1 = p.2.2 ∧ r.2.2.1.isPrefixOf (inp.drop p.1.toNat) = true ∧ r.2.2.2.1.isPrefixOf (out.drop p.2.1.toNat) = true))
theorem aftP_fits (inp out:Str) (p:Rev.Pl) (r:Rl):Rev.fitsP inp out p r = if (aftP inp out p r).2 = true then some (aftP inp out p r).1 else none:=by
  unfold Rev.fitsP aftP
  simp only [decide_eq_true_eq]
theorem c_afterP (s:Sch) (inp out:Str) (ps:Pm) (p:Rev.Pl) (r:Rl) (hp:Rev.OkL inp out p) (hi:inp.length ≤ 40) (ho:out.length ≤ 20) (hr1:r.2.2.1.length ≤ 4) (hr2:r.2.2.2.1.length ≤ 4):PC env 68 [⟨.ptr PairingT,(s,inp,out,ps)⟩,⟨PlaceT105,p⟩,⟨RuleT,r⟩] (.tup PlaceT105 .bool) (aftP inp out p r):=by
  obtain ⟨n,a,rs⟩:=s
  obtain ⟨i,j,m⟩:=p
  obtain ⟨fr,to,ri,ro,c⟩:=r
  have h1:=hp.i0
  have h2:=hp.o0
  dsimp only at h1 h2
  refine PC.of_PW (m:=2000) env_ok fn_68 rfl rfl rfl rfl (by kernel_rfl) ?_; intro hx; simp only [Try.f68]; simp only [go_sem,zA,↓reduceIte,↓reduceDIte,zB,zC,zD,zE,zF,zG,zH,zI]
  dsimp only at hr1 hr2
  have hE:∀ b:Bool,(b = decide (fr = m ∧ ri.isPrefixOf (inp.drop i.toNat) = true ∧ ro.isPrefixOf (out.drop j.toNat) = true)) → ((i + (ri.length:Int),j + (ro.length:Int),to),b) = aftP inp out (i,j,m) (fr,to,ri,ro,c):=fun b hb => by rw [hb]; rfl
  refine ⟨fun g => ⟨⟨h1.1,h1.2⟩,_,c_HasPrefix (inp.drop i.toNat) ri,?_⟩,fun g => ?_⟩
  · cases hq:ri.isPrefixOf (inp.drop i.toNat)
    · simp only [go_sem,zA,↓reduceIte,↓reduceDIte,zB,zC,zD,zE,zF,zG,zH,zI]
      exact ⟨⟨by omega,by omega⟩,⟨by omega,by omega⟩,hE _ (by rw [hq]; simp)⟩
    · simp only [go_sem,zA,↓reduceIte,↓reduceDIte,zB,zC,zD,zE,zF,zG,zH,zI]
      refine ⟨⟨h2.1,h2.2⟩,_,c_HasPrefix (out.drop j.toNat) ro,⟨by omega,by omega⟩,⟨by omega,by omega⟩,hE _ (by rw [hq]; cases hro:ro.isPrefixOf (out.drop j.toNat) <;> simp [g])⟩
  · exact ⟨⟨by omega,by omega⟩,⟨by omega,by omega⟩,hE _ (by simp [g])⟩
theorem OkS.out4 {s:Sch} (hs:OkS s) {r:Rl} (hr:r ∈ s.2.2):r.2.2.1.length ≤ 4 ∧ r.2.2.2.1.length ≤ 4:=by
  have:=right_nums (hs.right r hr)
  exact ⟨by omega,by omega⟩
abbrev pB (s:Sch) (inp out:Str) (ps:Pm):List (Nat × Blk):=[(1000000000,.box [.iv (.int .i64) s.1,.iv (.int .u8) s.2.1,.iv (.sl RuleT) s.2.2,.iv .str inp,.iv .str out,.lmap 1000000001]),(1000000001,.mp PlaceT105 PriceT ps)]
theorem pm_len {rs:List Rl} {acc:Int} {inp out:Str} {ps:Pm} (h:PI rs acc inp out ps) (hi:inp.length ≤ 40) (ho:out.length ≤ 20):ps.length ≤ 83968:=by
  have hn:((ps.map (·.1)).map fun p:Rev.Pl => ((p.1,p.2.2,p.2.1):Rev.Spot)).Nodup:=by
    rw [List.Nodup,List.pairwise_map]
    refine h.once.imp fun {a b} hne he => hne ?_
    injection he with h1 h2
    injection h2 with h2 h3
    exact Prod.ext h1 (Prod.ext h3 h2)
  have:=nodup_sub _ (Rev.spots inp.length) hn fun x hx => by
    obtain ⟨k,hk,rfl⟩:=List.mem_map.1 hx
    obtain ⟨v,hv⟩:=mfind_some eqP hk
    have hp:=(h.sound k v hv).1
    have h1:=hp.i0
    have h2:=hp.o0
    have h3:=hp.m0
    exact Rev.mem_spots (by dsimp only; omega) (by dsimp only; omega) (by dsimp only; omega)
  rw [spots_len,List.length_map,List.length_map] at this
  omega
theorem pm_top {rs:List Rl} {acc:Int} {inp out:Str} {ps:Pm} (hR:Rev.OkR rs) (hN:Rev.NoLoop rs) (h:PI rs acc inp out ps) (hi:inp.length ≤ 40) {p:Rev.Pl} {pr:Rev.Price} (hp:VP ps p = some pr):0 ≤ pr.1 ∧ pr.1 ≤ 327000 ∧ 0 ≤ pr.2 ∧ pr.2 ≤ 327:=by
  obtain ⟨hk,l,c,hw,rfl⟩:=h.sound p pr hp
  have h1:=Rev.way_len hR hN hw hk
  have h2:=hk.m0
  have h3:Rev.mp inp p ≤ 327:=by unfold Rev.mp; omega
  dsimp only
  omega
theorem h_improve (s:Sch) (hs:OkS s) (hN:Rev.NoLoop s.2.2) (inp out:Str) (hi:inp.length ≤ 40) (ho:out.length ≤ 20) (ps:Pm) (hI:PI s.2.2 s.2.1 inp out ps) (p:Rev.Pl) (hp:Rev.OkL inp out p):HC env 67 [.ref 1000000000 0,.iv PlaceT105 p] (pB s inp out ps) (.iv .bool (impE s.2.2 inp out p ps).2) (pB s inp out (impE s.2.2 inp out p ps).1):=by
  have hR:=ok_rules hs
  have hl:s.2.2.length ≤ 64:=hs.len
  have haft:=fun ps p r hp hr => c_afterP s inp out ps p r hp hi ho (hs.out4 hr).1 (hs.out4 hr).2
  obtain ⟨n,a,rs⟩:=s
  dsimp only at hR hl hN hI haft ⊢
  obtain ⟨T,hT⟩:∃ T,impE rs inp out p ps = T:=⟨_,rfl⟩
  rw [hT]
  obtain ⟨T1,T2⟩:=T
  obtain ⟨pi,pj,pm⟩:=p
  refine HC.of_PW (m:=2000) env_ok fn_67 rfl rfl rfl rfl (by kernel_rfl) ?_; intro hx hbl; simp only [Try.f67]; simp only [go_sem,zA,↓reduceIte,↓reduceDIte,zB,zC,zD,zE,zF,zG,zH,zI]
  refine Walks.loopA (X:=Nat × Pm × Bool) (fun (z:Nat × Pm × Bool) => [(21,.iv (.int .i64) (z.1:Int)),(5,.iv .bool z.2.2)]) (fun (z:Nat × Pm × Bool) => [(1000000001,.mp PlaceT105 PriceT z.2.1)]) (fun (z:Nat × Pm × Bool) => z.1 ≤ rs.length ∧ PI rs a inp out z.2.1 ∧ (rs.drop z.1).foldl (impS inp out (pi,pj,pm)) z.2 = (T1,T2)) (fun (z:Nat × Pm × Bool) => rs.length - z.1) (0,ps,false) ?_; intro b1 b2 hb1 hb2; simp (config:={maxSteps:=4000000}) only [go_sem,zA,↓reduceIte,↓reduceDIte,zB,zC,zD,zE,zF,zG,zH,zI] at hb1 hb2; subst hb1; subst hb2; refine ⟨(by refine ⟨?_,?_,rfl,rfl⟩ <;> repeat' (first | exact trivial | exact Or.inl rfl | exact Or.inr rfl | apply le1 | apply le2 | apply le3 | apply le4 | exact ⟨(by show (_:Nat) < 1000000000; omega),rfl,rfl⟩ | rfl | (refine And.intro (Or.inl ?_) ?_) | (refine And.intro ?_ ?_))),?_,?_⟩
  · exact ⟨Nat.zero_le _,hI,hT⟩
  intro ⟨k,qs,ch⟩ ⟨hk,hQ,hfold⟩ back
  dsimp only at hk hQ hfold
  refine PW_sound env_ok ⟨_,fn_67,rfl⟩ 2000 _ _ (by kernel_rfl) ?_; simp only [go_sem,zA,↓reduceIte,↓reduceDIte,zB,zC,zD,zE,zF,zG,zH,zI]
  refine ⟨fun g => ?_,fun g => ?_⟩
  · obtain ⟨r,hr⟩:∃ r,rs[k]? = some r:=get_of_lt (by omega)
    have hrm:=List.mem_of_getElem? hr
    have hcost:=hR.cost r hrm
    rw [drop_cons hr,List.foldl_cons] at hfold
    have hQ2:=impS_sound (acc:=a) (st:=(qs,ch)) hp hrm hQ
    refine ⟨Int.natCast_nonneg _,r,hr,_,haft qs (pi,pj,pm) r hp hrm,fun _ => ?_⟩
    have hfit:=aftP_fits inp out (pi,pj,pm) r
    cases hA:(aftP inp out (pi,pj,pm) r).2
    · rw [hA,if_neg (by decide)] at hfit
      have he:impS inp out (pi,pj,pm) (qs,ch) r = (qs,ch):=by unfold impS; rw [hfit]
      rw [he] at hfold
      simp only [go_sem,zA,↓reduceIte,↓reduceDIte,zB,zC,zD,zE,zF,zG,zH,zI]
      exact ⟨i64_ok (by omega) (by omega),back _ (k + 1,qs,ch) (by refine ⟨?_,?_,rfl,rfl⟩ <;> repeat' (first | exact trivial | exact Or.inl rfl | exact Or.inr rfl | apply le1 | apply le2 | apply le3 | apply le4 | exact ⟨(by show (_:Nat) < 1000000000; omega),rfl,rfl⟩ | rfl | (refine And.intro (Or.inl ?_) ?_) | (refine And.intro ?_ ?_))) ⟨by omega,hQ,hfold⟩ (by dsimp only; omega)⟩
    · rw [hA,if_pos rfl] at hfit
      generalize (aftP inp out (pi,pj,pm) r).1 = q at *
      obtain ⟨q1,q2,q3⟩:=q
      simp only [go_sem,zA,↓reduceIte,↓reduceDIte,zB,zC,zD,zE,zF,zG,zH,zI]
      cases hV:mfind (V:=PriceT.den) (eqB PlaceT105) qs ((q1,q2,q3):PlaceT105.den) with
      | none =>
        have he:impS inp out (pi,pj,pm) (qs,ch) r = (qs,ch):=by unfold impS; rw [hfit]; dsimp only; rw [show VP qs (q1,q2,q3) = none from hV]
        rw [he] at hfold
        simp only [Option.isSome_none,Option.getD_none]
        simp only [go_sem,zA,↓reduceIte,↓reduceDIte,zB,zC,zD,zE,zF,zG,zH,zI]
        exact ⟨i64_ok (by omega) (by omega),back _ (k + 1,qs,ch) (by refine ⟨?_,?_,rfl,rfl⟩ <;> repeat' (first | exact trivial | exact Or.inl rfl | exact Or.inr rfl | apply le1 | apply le2 | apply le3 | apply le4 | exact ⟨(by show (_:Nat) < 1000000000; omega),rfl,rfl⟩ | rfl | (refine And.intro (Or.inl ?_) ?_) | (refine And.intro ?_ ?_))) ⟨by omega,hQ,hfold⟩ (by dsimp only; omega)⟩
      | some av =>
        obtain ⟨a1,a2⟩:=av
        have he:impS inp out (pi,pj,pm) (qs,ch) r = if impB qs (pi,pj,pm) (Rev.plusP (a1,a2) (r.2.2.2.2,1)) = true then (mset (eqB PlaceT105) qs (pi,pj,pm) (Rev.plusP (a1,a2) (r.2.2.2.2,1)),true) else (qs,ch):=by unfold impS; rw [hfit]; dsimp only; rw [show VP qs (q1,q2,q3) = some (a1,a2) from hV]
        rw [he] at hfold hQ2
        have htop:=pm_top hR hN hQ hi (show VP qs (q1,q2,q3) = some (a1,a2) from hV)
        dsimp only at htop
        have hplus:=c_plusP (a1,a2) (r.2.2.2.2,1) ⟨by dsimp only; omega,by dsimp only; omega⟩ ⟨by dsimp only; omega,by dsimp only; omega⟩
        have hql:=pm_len hQ hi ho
        simp only [Option.isSome_some,Option.getD_some]
        simp only [go_sem,zA,↓reduceIte,↓reduceDIte,zB,zC,zD,zE,zF,zG,zH,zI]
        refine ⟨_,hplus,fun _ => ?_⟩
        generalize Rev.plusP (a1,a2) (r.2.2.2.2,1) = y at *
        obtain ⟨y1,y2⟩:=y
        have hml:=mset_lenG eqP (pi,pj,pm) (y1,y2) qs
        have hml2:(mset (V:=PriceT.den) (eqB PlaceT105) qs ((pi,pj,pm):PlaceT105.den) ((y1,y2):PriceT.den)).length ≤ 9223372036854775807:=by
          refine Nat.le_trans hml ?_
          omega
        cases hW:mfind (V:=PriceT.den) (eqB PlaceT105) qs ((pi,pj,pm):PlaceT105.den) with
        | none =>
          have hb:impB qs (pi,pj,pm) (y1,y2) = true:=by unfold impB; rw [show VP qs (pi,pj,pm) = none from hW]
          rw [if_pos hb] at hfold hQ2
          simp only [Option.isSome_none,Option.getD_none]
          simp only [go_sem,zA,↓reduceIte,↓reduceDIte,zB,zC,zD,zE,zF,zG,zH,zI]
          exact ⟨hml2,i64_ok (by omega) (by omega),back _ (k + 1,mset (eqB PlaceT105) qs (pi,pj,pm) (y1,y2),true) (by refine ⟨?_,?_,rfl,rfl⟩ <;> repeat' (first | exact trivial | exact Or.inl rfl | exact Or.inr rfl | apply le1 | apply le2 | apply le3 | apply le4 | exact ⟨(by show (_:Nat) < 1000000000; omega),rfl,rfl⟩ | rfl | (refine And.intro (Or.inl ?_) ?_) | (refine And.intro ?_ ?_))) ⟨by omega,hQ2,hfold⟩ (by dsimp only; omega)⟩
        | some w =>
          obtain ⟨w1,w2⟩:=w
          have hb:impB qs (pi,pj,pm) (y1,y2) = Rev.lessP (y1,y2) (w1,w2):=by unfold impB; rw [show VP qs (pi,pj,pm) = some (w1,w2) from hW]
          rw [hb] at hfold hQ2
          simp only [Option.isSome_some,Option.getD_some]
          simp only [go_sem,zA,↓reduceIte,↓reduceDIte,zB,zC,zD,zE,zF,zG,zH,zI]
          refine ⟨_,c_lessP (y1,y2) (w1,w2),?_⟩
          cases hlt:Rev.lessP (y1,y2) (w1,w2)
          · rw [hlt,if_neg (by decide)] at hfold
            simp only [go_sem,zA,↓reduceIte,↓reduceDIte,zB,zC,zD,zE,zF,zG,zH,zI]
            exact ⟨i64_ok (by omega) (by omega),back _ (k + 1,qs,ch) (by refine ⟨?_,?_,rfl,rfl⟩ <;> repeat' (first | exact trivial | exact Or.inl rfl | exact Or.inr rfl | apply le1 | apply le2 | apply le3 | apply le4 | exact ⟨(by show (_:Nat) < 1000000000; omega),rfl,rfl⟩ | rfl | (refine And.intro (Or.inl ?_) ?_) | (refine And.intro ?_ ?_))) ⟨by omega,hQ,hfold⟩ (by dsimp only; omega)⟩
          · rw [hlt,if_pos rfl] at hfold hQ2
            simp only [go_sem,zA,↓reduceIte,↓reduceDIte,zB,zC,zD,zE,zF,zG,zH,zI]
            exact ⟨hml2,i64_ok (by omega) (by omega),back _ (k + 1,mset (eqB PlaceT105) qs (pi,pj,pm) (y1,y2),true) (by refine ⟨?_,?_,rfl,rfl⟩ <;> repeat' (first | exact trivial | exact Or.inl rfl | exact Or.inr rfl | apply le1 | apply le2 | apply le3 | apply le4 | exact ⟨(by show (_:Nat) < 1000000000; omega),rfl,rfl⟩ | rfl | (refine And.intro (Or.inl ?_) ?_) | (refine And.intro ?_ ?_))) ⟨by omega,hQ2,hfold⟩ (by dsimp only; omega)⟩
  · rw [List.drop_of_length_le (by omega)] at hfold
    have hfold:(qs,ch) = (T1,T2):=hfold
    injection hfold with e1 e2
    subst e1; subst e2
    exact ⟨rfl,rfl⟩
end Go.Proofs.Ytefpgfdemmllpaa
namespace Go.Proofs.Ytefpgfdemmllpaa
attribute [local go_sem] litP appendC ne_eq not_false_eq_true Option.isSome_none Option.isSome_some St.ren permF
set_option maxHeartbeats 4000000
set_option maxRecDepth 100000
theorem has_accP (a:Int) (m:Int) (ha:0 ≤ a):Rev.hasBit a m = accB a m:=by
  unfold Rev.hasBit accB
  have e:a / 2 ^ m.toNat % 2 = ((a.toNat / 2 ^ m.toNat % 2:Nat):Int):=by
    obtain ⟨k,rfl⟩:∃ k:Nat,a = k:=⟨a.toNat,by omega⟩
    simp
  rw [e]
  exact decide_eq_decide.2 (by omega)
theorem has_ltP {s:Sch} (hs:OkS s) {m:Int} (h:Rev.hasBit s.2.1 m = true):m.toNat < s.1.toNat:=by
  have h1:=hs.a1
  have h2:=hs.a2
  unfold Rev.hasBit at h
  have h:=of_decide_eq_true h
  rcases Nat.lt_or_ge m.toNat s.1.toNat with h3 | h3
  · exact h3
  · exfalso
    have hp:2 ^ s.1.toNat ≤ 2 ^ m.toNat:=Nat.pow_le_pow_right (by decide) h3
    have hc:((2:Int) ^ s.1.toNat) = ((2 ^ s.1.toNat:Nat):Int):=by simp
    rw [hc] at h2
    have:s.2.1.toNat / 2 ^ m.toNat = 0:=Nat.div_eq_of_lt (by omega)
    rw [this] at h
    omega
def valO (o:Option Rev.Price):Nat:=match o with | none => 1000000000 | some p => p.1.toNat * 1000 + p.2.toNat
def potP (ps:Pm) (i j:Int) (n:Nat):Nat:=((List.range n).map fun (m:Nat) => valO (VP ps (i,j,(m:Int)))).sum
theorem potP_le {ps qs:Pm} {i j:Int} {n:Nat} (h:∀ m:Nat,m < n → valO (VP qs (i,j,(m:Int))) ≤ valO (VP ps (i,j,(m:Int)))):potP qs i j n ≤ potP ps i j n:=by
  induction n with
  | zero => exact Nat.le_refl _
  | succ n ih =>
    have h1:=ih fun m hm => h m (by omega)
    have h2:=h n (by omega)
    unfold potP at *
    rw [List.range_succ,List.map_append,List.map_append,List.sum_append,List.sum_append]
    simp only [List.map_cons,List.map_nil,List.sum_cons,List.sum_nil]
    omega
theorem potP_lt {ps qs:Pm} {i j:Int} {n k:Nat} (hk:k < n) (h:∀ m:Nat,m < n → valO (VP qs (i,j,(m:Int))) ≤ valO (VP ps (i,j,(m:Int)))) (hl:valO (VP qs (i,j,(k:Int))) < valO (VP ps (i,j,(k:Int)))):potP qs i j n < potP ps i j n:=by
  induction n with
  | zero => omega
  | succ n ih =>
    have h2:=h n (by omega)
    have hle:=potP_le (n:=n) fun m hm => h m (by omega)
    by_cases e:k = n
    · subst e
      unfold potP at *
      rw [List.range_succ,List.map_append,List.map_append,List.sum_append,List.sum_append]
      simp only [List.map_cons,List.map_nil,List.sum_cons,List.sum_nil]
      omega
    · have h1:=ih (by omega) fun m hm => h m (by omega)
      unfold potP at *
      rw [List.range_succ,List.map_append,List.map_append,List.sum_append,List.sum_append]
      simp only [List.map_cons,List.map_nil,List.sum_cons,List.sum_nil]
      omega
def behind (i j:Int) (p:Rev.Pl):Prop:=i < p.1 ∨ (p.1 = i ∧ j < p.2.1)
structure FI (s:Sch) (inp out:Str) (ps:Pm):Prop where
  pi:PI s.2.2 s.2.1 inp out ps
  ends:∀ p,Rev.OkL inp out p → Rev.doneP s.2.1 inp out p = true → leO (VP ps p) (0,0)
def ShutB (s:Sch) (inp out:Str) (ps:Pm) (i j:Int):Prop:=∀ p,Rev.OkL inp out p → behind i j p → shutAt s.2.2 inp out ps p
theorem fits_behind {rs:List Rl} {inp out:Str} {p q:Rev.Pl} {r:Rl} (hf:Rev.fitsP inp out p r = some q):p.1 ≤ q.1 ∧ p.2.1 ≤ q.2.1:=by
  unfold Rev.fitsP at hf
  split at hf
  · injection hf with hf
    rw [← hf]
    dsimp only
    exact ⟨by omega,by omega⟩
  · cases hf
structure PassI (s:Sch) (inp out:Str) (i j:Int) (p0:Pm) (k:Nat) (ps:Pm) (ch:Bool):Prop where
  fi:FI s inp out ps
  shut:ShutB s inp out ps i j
  pot:potP ps i j s.1.toNat + (if ch = true then 1 else 0) ≤ potP p0 i j s.1.toNat
  here:ch = false → ∀ m:Nat,m < k → shutAt s.2.2 inp out ps (i,j,(m:Int))
theorem imp_val {s:Sch} (hs:OkS s) (hN:Rev.NoLoop s.2.2) {inp out:Str} (hi:inp.length ≤ 40) {ps:Pm} (hP:PI s.2.2 s.2.1 inp out ps) {p:Rev.Pl} (hp:Rev.OkL inp out p):(∀ u,valO (VP (impE s.2.2 inp out p ps).1 u) ≤ valO (VP ps u)) ∧ ((impE s.2.2 inp out p ps).2 = true → valO (VP (impE s.2.2 inp out p ps).1 p) < valO (VP ps p)):=by
  have hR:=ok_rules hs
  have hP2:=imp_sound (acc:=s.2.1) hp hP
  have key:(impE s.2.2 inp out p ps).2 = true → valO (VP (impE s.2.2 inp out p ps).1 p) < valO (VP ps p):=fun h => by
    obtain ⟨c,h1,h2⟩:=imp_low h
    have t1:=pm_top hR hN hP2 hi h1
    rw [h1]
    cases hv:VP ps p with
    | none => unfold valO; dsimp only; omega
    | some b =>
      have t2:=pm_top hR hN hP hi hv
      have h3:=h2 b hv
      rw [Rev.lessP_iff] at h3
      unfold valO
      dsimp only
      omega
  refine ⟨fun u => ?_,key⟩
  by_cases e:u = p
  · subst e
    cases hc:(impE s.2.2 inp out u ps).2 with
    | true => exact Nat.le_of_lt (key hc)
    | false => rw [imp_same hc]; exact Nat.le_refl _
  · rw [imp_other e]; exact Nat.le_refl _
theorem PassI.step {s:Sch} (hs:OkS s) (hN:Rev.NoLoop s.2.2) {inp out:Str} (hi:inp.length ≤ 40) {i j:Int} {p0 ps:Pm} {k:Nat} {ch:Bool} (h:PassI s inp out i j p0 k ps ch) (hk:k < s.1.toNat) (hp:Rev.OkL inp out (i,j,(k:Int))) :
    PassI s inp out i j p0 (k + 1) (impE s.2.2 inp out (i,j,(k:Int)) ps).1 (if (impE s.2.2 inp out (i,j,(k:Int)) ps).2 = true then true else ch):=by
  have hR:=ok_rules hs
  obtain ⟨hv1,hv2⟩:=imp_val hs hN hi h.fi.pi hp
  refine ⟨⟨imp_sound hp h.fi.pi,fun p hp' hd => imp_mono (h.fi.ends p hp' hd)⟩,fun p hp' hb => ?_,?_,fun hch m hm => ?_⟩
  · intro r hr q a hf ha
    have hq:=fits_behind (rs:=s.2.2) hf
    have hpne:p ≠ (i,j,(k:Int)):=fun e => by
      rw [e] at hb
      unfold behind at hb
      dsimp only at hb
      omega
    have hqne:q ≠ (i,j,(k:Int)):=fun e => by
      rw [e] at hq
      unfold behind at hb
      dsimp only at hq
      omega
    rw [imp_other hpne]
    rw [imp_other hqne] at ha
    exact h.shut p hp' hb r hr q a hf ha
  · have hpot:=h.pot
    cases hc:(impE s.2.2 inp out (i,j,(k:Int)) ps).2 with
    | true =>
      have:=potP_lt (n:=s.1.toNat) hk (fun m _ => hv1 (i,j,(m:Int))) (hv2 hc)
      rw [if_pos rfl]
      split at hpot <;> simp only [if_true] <;> omega
    | false =>
      rw [imp_same hc]
      simp only [Bool.false_eq_true,if_false]
      exact hpot
  · cases hc:(impE s.2.2 inp out (i,j,(k:Int)) ps).2 with
    | true => rw [hc,if_pos rfl] at hch; cases hch
    | false =>
      rw [hc,if_neg (by decide)] at hch
      rw [imp_same hc]
      by_cases e:m = k
      · subst e
        have:=imp_shut hR hN hp hc
        exact this
      · exact h.here hch m (by omega)
theorem shut_high {s:Sch} (hs:OkS s) {inp out:Str} {ps:Pm} {p:Rev.Pl} (h:s.1 ≤ p.2.2):shutAt s.2.2 inp out ps p:=fun r hr q a hf _ => by
  have:=right_nums (hs.right r hr)
  unfold Rev.fitsP at hf
  split at hf
  · rename_i hh
    omega
  · cases hf
theorem h_fill (s:Sch) (hs:OkS s) (hN:Rev.NoLoop s.2.2) (inp out:Str) (hi:inp.length ≤ 40) (ho:out.length ≤ 20):HN env 41 [.ref 1000000000 0] (pB s inp out []) (.mp PlaceT105 PriceT) (fun ps => PI s.2.2 s.2.1 inp out ps ∧ Rev.Known s.2.2 s.2.1 inp out (VP ps)) (fun _ => .tup []) (fun ps => pB s inp out ps):=by
  have hR:=ok_rules hs
  have himp:=fun ps hI p hp => h_improve s hs hN inp out hi ho ps hI p hp
  have hacc:=fun m h => c_accepting6 s m h
  have hstep:=fun i j p0 ps k ch h hk hp => PassI.step hs hN hi (inp:=inp) (out:=out) (i:=i) (j:=j) (p0:=p0) (ps:=ps) (k:=k) (ch:=ch) h hk hp
  have hlt:=fun m h => has_ltP hs (m:=m) h
  have hhigh:=fun ps p h => shut_high hs (inp:=inp) (out:=out) (ps:=ps) (p:=p) h
  have hn1:=hs.n1
  have hn8:=hs.n8
  have ha0:=hs.a1
  obtain ⟨n,a,rs⟩:=s
  dsimp only at hR himp hacc hN hstep hlt hhigh hn1 hn8 ha0 ⊢
  refine HN.of_PW (m:=2000) env_ok fn_41 rfl rfl rfl rfl (by kernel_rfl) ?_; intro hx hbl; simp only [Try.f41]; simp only [go_sem,zA,↓reduceIte,↓reduceDIte,zB,zC,zD,zE,zF,zG,zH,zI]
  refine Walks.loopA (X:=Nat × Pm) (fun (z:Nat × Pm) => [(12,.iv (.int .i64) (z.1:Int))]) (fun (z:Nat × Pm) => [(1000000001,.mp PlaceT105 PriceT z.2)]) (fun (z:Nat × Pm) => z.1 ≤ n.toNat ∧ PI rs a inp out z.2 ∧ ∀ m:Nat,m < z.1 → accB a (m:Int) = true → VP z.2 ((inp.length:Int),(out.length:Int),(m:Int)) = some (0,0)) (fun (z:Nat × Pm) => n.toNat - z.1) (0,[]) ?_; intro b1 b2 hb1 hb2; simp (config:={maxSteps:=4000000}) only [go_sem,zA,↓reduceIte,↓reduceDIte,zB,zC,zD,zE,zF,zG,zH,zI] at hb1 hb2; subst hb1; subst hb2; refine ⟨(by refine ⟨?_,?_,rfl,rfl⟩ <;> repeat' (first | exact trivial | exact Or.inl rfl | exact Or.inr rfl | apply le1 | apply le2 | apply le3 | apply le4 | exact ⟨(by show (_:Nat) < 1000000000; omega),rfl,rfl⟩ | rfl | (refine And.intro (Or.inl ?_) ?_) | (refine And.intro ?_ ?_))),?_,?_⟩
  · exact ⟨Nat.zero_le _,⟨List.nodup_nil,fun p pr h => by cases h⟩,fun m h => absurd h (Nat.not_lt_zero _)⟩
  intro ⟨k,ps⟩ ⟨hk,hP,hE⟩ back
  dsimp only at hk hP hE
  refine PW_sound env_ok ⟨_,fn_41,rfl⟩ 2000 _ _ (by kernel_rfl) ?_; simp only [go_sem,zA,↓reduceIte,↓reduceDIte,zB,zC,zD,zE,zF,zG,zH,zI]
  refine ⟨fun g => ?_,fun g => ?_⟩
  · refine ⟨_,hacc (k:Int) ⟨Int.natCast_nonneg _,by omega⟩,?_⟩
    cases hb:accB a (k:Int)
    · simp only [go_sem,zA,↓reduceIte,↓reduceDIte,zB,zC,zD,zE,zF,zG,zH,zI]
      refine ⟨i64_ok (by omega) (by omega),back _ (k + 1,ps) (by refine ⟨?_,?_,rfl,rfl⟩ <;> repeat' (first | exact trivial | exact Or.inl rfl | exact Or.inr rfl | apply le1 | apply le2 | apply le3 | apply le4 | exact ⟨(by show (_:Nat) < 1000000000; omega),rfl,rfl⟩ | rfl | (refine And.intro (Or.inl ?_) ?_) | (refine And.intro ?_ ?_))) ⟨by omega,hP,fun m hm hm2 => ?_⟩ (by dsimp only; omega)⟩
      by_cases e:m = k
      · rw [e,hb] at hm2; cases hm2
      · exact hE m (by dsimp only at hm; omega) hm2
    · have hok:Rev.OkL inp out ((inp.length:Int),(out.length:Int),(k:Int)):=⟨⟨by dsimp only; omega,by dsimp only; omega⟩,⟨by dsimp only; omega,by dsimp only; omega⟩,⟨by dsimp only; omega,by dsimp only; omega⟩⟩
      have hP2:PI rs a inp out (mset (eqB PlaceT105) ps ((inp.length:Int),(out.length:Int),(k:Int)) (0,0)):=by
        refine ⟨mset_onceG eqP hP.once,fun u pr hu => ?_⟩
        by_cases e:u = ((inp.length:Int),(out.length:Int),(k:Int))
        · unfold VP at hu
          rw [e,mfind_same eqP] at hu
          injection hu with hu
          rw [e,← hu]
          exact ⟨hok,[],0,.done (by unfold Rev.doneP; rw [has_accP _ _ (by omega)]; simp [hb]),rfl⟩
        · unfold VP at hu
          rw [mfind_other eqP _ e] at hu
          exact hP.sound u pr hu
      have hml:=mset_lenG eqP ((inp.length:Int),(out.length:Int),(k:Int)) (0,0) ps
      have hpl:=pm_len hP hi ho
      simp only [go_sem,zA,↓reduceIte,↓reduceDIte,zB,zC,zD,zE,zF,zG,zH,zI]
      refine ⟨Nat.le_trans hml (by omega),i64_ok (by omega) (by omega),back _ (k + 1,mset (eqB PlaceT105) ps ((inp.length:Int),(out.length:Int),(k:Int)) (0,0)) (by refine ⟨?_,?_,rfl,rfl⟩ <;> repeat' (first | exact trivial | exact Or.inl rfl | exact Or.inr rfl | apply le1 | apply le2 | apply le3 | apply le4 | exact ⟨(by show (_:Nat) < 1000000000; omega),rfl,rfl⟩ | rfl | (refine And.intro (Or.inl ?_) ?_) | (refine And.intro ?_ ?_))) ⟨by omega,hP2,fun m hm hm2 => ?_⟩ (by dsimp only; omega)⟩
      by_cases e:m = k
      · rw [e]; exact mfind_same eqP _ _ _
      · unfold VP
        rw [mfind_other eqP _ (fun h => e (by injection h with _ h; injection h with _ h; omega))]
        exact hE m (by dsimp only at hm; omega) hm2
  have hF:FI (n,a,rs) inp out ps:=⟨hP,fun p hp hd => by
    obtain ⟨pi,pj,pm⟩:=p
    unfold Rev.doneP at hd
    simp only [Bool.and_eq_true,decide_eq_true_eq] at hd
    obtain ⟨⟨h1,h2⟩,h3⟩:=hd
    have h4:=hp.m0
    dsimp only at h1 h2 h3 h4
    have h5:=hlt pm h3
    have h6:=hE pm.toNat (by omega) (by rw [Int.toNat_of_nonneg h4.1,← has_accP _ _ (by omega)]; exact h3)
    rw [Int.toNat_of_nonneg h4.1] at h6
    rw [h1,h2,h6]
    exact leO_refl _⟩
  clear back hP hE hk g
  refine Walks.loopA (X:=Int × Pm) (fun (z:Int × Pm) => [(3,.iv (.int .i64) z.1)]) (fun (z:Int × Pm) => [(1000000001,.mp PlaceT105 PriceT z.2)]) (fun (z:Int × Pm) => (-1 ≤ z.1 ∧ z.1 ≤ (inp.length:Int)) ∧ FI (n,a,rs) inp out z.2 ∧ (∀ p,Rev.OkL inp out p → z.1 < p.1 → shutAt rs inp out z.2 p)) (fun (z:Int × Pm) => (z.1 + 1).toNat) ((inp.length:Int),ps) ?_; intro b1 b2 hb1 hb2; simp (config:={maxSteps:=4000000}) only [go_sem,zA,↓reduceIte,↓reduceDIte,zB,zC,zD,zE,zF,zG,zH,zI] at hb1 hb2; subst hb1; subst hb2; refine ⟨(by refine ⟨?_,?_,rfl,rfl⟩ <;> repeat' (first | exact trivial | exact Or.inl rfl | exact Or.inr rfl | apply le1 | apply le2 | apply le3 | apply le4 | exact ⟨(by show (_:Nat) < 1000000000; omega),rfl,rfl⟩ | rfl | (refine And.intro (Or.inl ?_) ?_) | (refine And.intro ?_ ?_))),?_,?_⟩
  · exact ⟨⟨by omega,Int.le_refl _⟩,hF,fun p hp h => absurd hp.i0.2 (by dsimp only at h; omega)⟩
  clear hF
  intro ⟨i,ps⟩ ⟨hi2,hF,hS⟩ back
  dsimp only at hi2 hF hS
  refine PW_sound env_ok ⟨_,fn_41,rfl⟩ 2000 _ _ (by kernel_rfl) ?_; simp only [go_sem,zA,↓reduceIte,↓reduceDIte,zB,zC,zD,zE,zF,zG,zH,zI]
  refine ⟨fun g => ?_,fun g => ?_⟩
  · refine Walks.loopA (X:=Int × Pm) (fun (z:Int × Pm) => [(4,.iv (.int .i64) z.1)]) (fun (z:Int × Pm) => [(1000000001,.mp PlaceT105 PriceT z.2)]) (fun (z:Int × Pm) => (-1 ≤ z.1 ∧ z.1 ≤ (out.length:Int)) ∧ FI (n,a,rs) inp out z.2 ∧ ShutB (n,a,rs) inp out z.2 i z.1) (fun (z:Int × Pm) => (z.1 + 1).toNat) ((out.length:Int),ps) ?_; intro b1 b2 hb1 hb2; simp (config:={maxSteps:=4000000}) only [go_sem,zA,↓reduceIte,↓reduceDIte,zB,zC,zD,zE,zF,zG,zH,zI] at hb1 hb2; subst hb1; subst hb2; refine ⟨(by refine ⟨?_,?_,rfl,rfl⟩ <;> repeat' (first | exact trivial | exact Or.inl rfl | exact Or.inr rfl | apply le1 | apply le2 | apply le3 | apply le4 | exact ⟨(by show (_:Nat) < 1000000000; omega),rfl,rfl⟩ | rfl | (refine And.intro (Or.inl ?_) ?_) | (refine And.intro ?_ ?_))),?_,?_⟩
    · refine ⟨⟨by omega,Int.le_refl _⟩,hF,fun p hp h => ?_⟩
      rcases h with h | ⟨_,h⟩
      · exact hS p hp h
      · exact absurd hp.o0.2 (by dsimp only at h; omega)
    clear hF hS
    intro ⟨j,ps⟩ ⟨hj2,hF,hS⟩ back2
    dsimp only at hj2 hF hS
    refine PW_sound env_ok ⟨_,fn_41,rfl⟩ 2000 _ _ (by kernel_rfl) ?_; simp only [go_sem,zA,↓reduceIte,↓reduceDIte,zB,zC,zD,zE,zF,zG,zH,zI]
    refine ⟨fun g2 => ?_,fun g2 => ?_⟩
    · refine Walks.loopA (X:=Bool × Pm) (fun (z:Bool × Pm) => [(5,.iv .bool z.1)]) (fun (z:Bool × Pm) => [(1000000001,.mp PlaceT105 PriceT z.2)]) (fun (z:Bool × Pm) => FI (n,a,rs) inp out z.2 ∧ ShutB (n,a,rs) inp out z.2 i j ∧ (z.1 = false → ∀ m:Nat,m < n.toNat → shutAt rs inp out z.2 (i,j,(m:Int)))) (fun (z:Bool × Pm) => 2 * potP z.2 i j n.toNat + (if z.1 = true then 1 else 0)) (true,ps) ?_; intro b1 b2 hb1 hb2; simp (config:={maxSteps:=4000000}) only [go_sem,zA,↓reduceIte,↓reduceDIte,zB,zC,zD,zE,zF,zG,zH,zI] at hb1 hb2; subst hb1; subst hb2; refine ⟨(by refine ⟨?_,?_,rfl,rfl⟩ <;> repeat' (first | exact trivial | exact Or.inl rfl | exact Or.inr rfl | apply le1 | apply le2 | apply le3 | apply le4 | exact ⟨(by show (_:Nat) < 1000000000; omega),rfl,rfl⟩ | rfl | (refine And.intro (Or.inl ?_) ?_) | (refine And.intro ?_ ?_))),?_,?_⟩
      · exact ⟨hF,hS,fun h => by cases h⟩
      clear hF hS
      intro ⟨ch,ps⟩ ⟨hF,hS,hH⟩ back3
      dsimp only at hF hS hH
      refine PW_sound env_ok ⟨_,fn_41,rfl⟩ 2000 _ _ (by kernel_rfl) ?_; simp only [go_sem,zA,↓reduceIte,↓reduceDIte,zB,zC,zD,zE,zF,zG,zH,zI]
      cases ch
      · simp only [go_sem,zA,↓reduceIte,↓reduceDIte,zB,zC,zD,zE,zF,zG,zH,zI]
        refine ⟨i64_ok (by omega) (by omega),back2 _ (j - 1,ps) (by refine ⟨?_,?_,rfl,rfl⟩ <;> repeat' (first | exact trivial | exact Or.inl rfl | exact Or.inr rfl | apply le1 | apply le2 | apply le3 | apply le4 | exact ⟨(by show (_:Nat) < 1000000000; omega),rfl,rfl⟩ | rfl | (refine And.intro (Or.inl ?_) ?_) | (refine And.intro ?_ ?_))) ⟨⟨by dsimp only; omega,by dsimp only; omega⟩,hF,fun p hp hb => ?_⟩ (by dsimp only; omega)⟩
        by_cases hb2:behind i j p
        · exact hS p hp hb2
        · have hpe:p.1 = i ∧ p.2.1 = j:=by
            unfold behind at hb hb2
            dsimp only at hb
            omega
          obtain ⟨q1,q2,q3⟩:=p
          dsimp only at hpe
          obtain ⟨rfl,rfl⟩:=hpe
          have hm:=hp.m0
          dsimp only at hm
          by_cases hq:q3 < n
          · have:=hH rfl q3.toNat (by omega)
            rw [Int.toNat_of_nonneg hm.1] at this
            exact this
          · exact hhigh ps _ (by dsimp only; omega)
      · simp only [go_sem,zA,↓reduceIte,↓reduceDIte,zB,zC,zD,zE,zF,zG,zH,zI]
        refine Walks.loopA (X:=Nat × Bool × Pm) (fun (z:Nat × Bool × Pm) => [(63,.iv (.int .i64) (z.1:Int)),(5,.iv .bool z.2.1)]) (fun (z:Nat × Bool × Pm) => [(1000000001,.mp PlaceT105 PriceT z.2.2)]) (fun (z:Nat × Bool × Pm) => z.1 ≤ n.toNat ∧ PassI (n,a,rs) inp out i j ps z.1 z.2.2 z.2.1) (fun (z:Nat × Bool × Pm) => n.toNat - z.1) (0,false,ps) ?_; intro b1 b2 hb1 hb2; simp (config:={maxSteps:=4000000}) only [go_sem,zA,↓reduceIte,↓reduceDIte,zB,zC,zD,zE,zF,zG,zH,zI] at hb1 hb2; subst hb1; subst hb2; refine ⟨(by refine ⟨?_,?_,rfl,rfl⟩ <;> repeat' (first | exact trivial | exact Or.inl rfl | exact Or.inr rfl | apply le1 | apply le2 | apply le3 | apply le4 | exact ⟨(by show (_:Nat) < 1000000000; omega),rfl,rfl⟩ | rfl | (refine And.intro (Or.inl ?_) ?_) | (refine And.intro ?_ ?_))),?_,?_⟩
        · exact ⟨Nat.zero_le _,hF,hS,by simp,fun _ m hm => absurd hm (Nat.not_lt_zero _)⟩
        intro ⟨k,ch,qs⟩ ⟨hk,hQ⟩ back4
        dsimp only at hk hQ
        refine PW_sound env_ok ⟨_,fn_41,rfl⟩ 2000 _ _ (by kernel_rfl) ?_; simp only [go_sem,zA,↓reduceIte,↓reduceDIte,zB,zC,zD,zE,zF,zG,zH,zI]
        refine ⟨fun g3 => ?_,fun g3 => ?_⟩
        · have hok:Rev.OkL inp out (i,j,(k:Int)):=⟨⟨by dsimp only; omega,by dsimp only; omega⟩,⟨by dsimp only; omega,by dsimp only; omega⟩,⟨by dsimp only; omega,by dsimp only; omega⟩⟩
          have hst:=hstep i j ps qs k ch hQ (by omega) hok
          refine ⟨_,_,himp qs hQ.fi.pi (i,j,(k:Int)) hok,rfl,fun _ _ => ?_⟩
          cases hc:(impE rs inp out (i,j,(k:Int)) qs).2
          · rw [hc,if_neg (by decide)] at hst
            simp only [go_sem,zA,↓reduceIte,↓reduceDIte,zB,zC,zD,zE,zF,zG,zH,zI]
            exact ⟨i64_ok (by omega) (by omega),back4 _ (k + 1,ch,(impE rs inp out (i,j,(k:Int)) qs).1) (by refine ⟨?_,?_,rfl,rfl⟩ <;> repeat' (first | exact trivial | exact Or.inl rfl | exact Or.inr rfl | apply le1 | apply le2 | apply le3 | apply le4 | exact ⟨(by show (_:Nat) < 1000000000; omega),rfl,rfl⟩ | rfl | (refine And.intro (Or.inl ?_) ?_) | (refine And.intro ?_ ?_))) ⟨by omega,hst⟩ (by dsimp only; omega)⟩
          · rw [hc,if_pos rfl] at hst
            simp only [go_sem,zA,↓reduceIte,↓reduceDIte,zB,zC,zD,zE,zF,zG,zH,zI]
            exact ⟨i64_ok (by omega) (by omega),back4 _ (k + 1,true,(impE rs inp out (i,j,(k:Int)) qs).1) (by refine ⟨?_,?_,rfl,rfl⟩ <;> repeat' (first | exact trivial | exact Or.inl rfl | exact Or.inr rfl | apply le1 | apply le2 | apply le3 | apply le4 | exact ⟨(by show (_:Nat) < 1000000000; omega),rfl,rfl⟩ | rfl | (refine And.intro (Or.inl ?_) ?_) | (refine And.intro ?_ ?_))) ⟨by omega,hst⟩ (by dsimp only; omega)⟩
        · have e:k = n.toNat:=by omega
          subst e
          refine back3 _ (ch,qs) (by refine ⟨?_,?_,rfl,rfl⟩ <;> repeat' (first | exact trivial | exact Or.inl rfl | exact Or.inr rfl | apply le1 | apply le2 | apply le3 | apply le4 | exact ⟨(by show (_:Nat) < 1000000000; omega),rfl,rfl⟩ | rfl | (refine And.intro (Or.inl ?_) ?_) | (refine And.intro ?_ ?_))) ⟨hQ.fi,hQ.shut,hQ.here⟩ ?_
          have:=hQ.pot
          dsimp only at this ⊢
          simp only [if_true]
          cases ch <;> simp only [if_true,if_false,Bool.false_eq_true] at this ⊢ <;> omega
    · refine ⟨i64_ok (by omega) (by omega),back _ (i - 1,ps) (by refine ⟨?_,?_,rfl,rfl⟩ <;> repeat' (first | exact trivial | exact Or.inl rfl | exact Or.inr rfl | apply le1 | apply le2 | apply le3 | apply le4 | exact ⟨(by show (_:Nat) < 1000000000; omega),rfl,rfl⟩ | rfl | (refine And.intro (Or.inl ?_) ?_) | (refine And.intro ?_ ?_))) ⟨⟨by dsimp only; omega,by dsimp only; omega⟩,hF,fun p hp h => hS p hp ?_⟩ (by dsimp only; omega)⟩
      have h1:=hp.o0
      unfold behind
      dsimp only at h
      omega
  · refine ⟨ps,⟨hF.pi,known_of hR hN hF.pi hF.ends fun p hp => hS p hp ?_⟩,rfl⟩
    have h1:=hp.i0
    omega
end Go.Proofs.Ytefpgfdemmllpaa
namespace Go.Proofs.Ytefpgfdemmllpaa
set_option maxHeartbeats 4000000
set_option maxRecDepth 100000
def atF (at_:List Int) (j:Int):Int:=at_.getD j.toNat 0
theorem kept_at {s:Sch} {j:Nat} {r:Rl} (h:(trimE s).1.2.2[j]? = some r):∃ k:Nat,s.2.2[k]? = some r ∧ atF (trimE s).2 (j:Int) = (k:Int) ∧ (trimL s)[j]? = some (r,(k:Int)):=by
  have h1:((trimL s).map (·.1))[j]? = some r:=h
  rw [List.getElem?_map] at h1
  cases hp:(trimL s)[j]? with
  | none => rw [hp] at h1; cases h1
  | some p =>
    rw [hp] at h1
    injection h1 with h1
    obtain ⟨k,h2,h3,_⟩:=pairsT_mem.1 (List.mem_of_getElem? hp)
    have h1:p.1 = r:=h1
    rw [h1] at h2
    have e3:p.2 = (k:Int):=by rw [h3]; simp
    refine ⟨k,h2,?_,by rw [← h1,← e3]⟩
    unfold atF
    show ((trimL s).map (·.2)).getD _ 0 = _
    rw [Int.toNat_natCast,List.getD_eq_getElem?_getD,List.getElem?_map,hp]
    exact e3
theorem way_up {s:Sch} {inp out:Str} {p:Rev.Pl} {l:List Int} {c:Int} (hw:Rev.Way (trimE s).1.2.2 s.2.1 inp out p l c):Rev.Way s.2.2 s.2.1 inp out p (l.map (atF (trimE s).2)) c:=by
  induction hw with
  | done h => exact .done h
  | @step p q k r l c hr hf _ ih =>
    obtain ⟨k',h1,h2,_⟩:=kept_at hr
    rw [List.map_cons,h2]
    exact .step h1 hf ih
theorem fits_eq {inp out:Str} {p q:Rev.Pl} {r:Rl} (hf:Rev.fitsP inp out p r = some q):r.1 = p.2.2 ∧ q.2.2 = r.2.1:=by
  unfold Rev.fitsP at hf
  split at hf
  · rename_i h
    injection hf with hf
    exact ⟨h.1,by rw [← hf]⟩
  · cases hf
theorem way_down {s:Sch} (hs:OkS s) {inp out:Str} {p:Rev.Pl} {l:List Int} {c:Int} (hw:Rev.Way s.2.2 s.2.1 inp out p l c):on (reachedE s) p.2.2.toNat → ∃ l',Rev.Way (trimE s).1.2.2 s.2.1 inp out p l' c ∧ l'.map (atF (trimE s).2) = l ∧ on (liveE s) p.2.2.toNat:=by
  induction hw with
  | @done p h =>
    intro _
    refine ⟨[],.done h,rfl,?_⟩
    unfold Rev.doneP at h
    simp only [Bool.and_eq_true] at h
    have h2:=has_ltP hs h.2
    refine live_acc hs h2 ?_
    have:=hs.a1
    rw [← has_accP _ _ (by omega)]
    have h3:=h.2
    unfold Rev.hasBit at h3 ⊢
    rw [Int.toNat_natCast]
    exact h3
  | @step p q k r l c hr hf _ ih =>
    intro hre
    obtain ⟨e1,e2⟩:=fits_eq hf
    have hrm:=List.mem_of_getElem? hr
    rw [← e1] at hre ⊢
    rw [e2] at ih
    obtain ⟨l',h1,h2,h3⟩:=ih (reached_step hs hrm hre)
    have hm:(r,(k:Int)) ∈ trimL s:=pairsT_mem.2 ⟨k,hr,by simp,hre,h3⟩
    obtain ⟨j,hj⟩:=List.getElem?_of_mem hm
    have hK:(trimE s).1.2.2[j]? = some r:=by
      show ((trimL s).map (·.1))[j]? = _
      rw [List.getElem?_map,hj]; rfl
    obtain ⟨k',_,h5,h6⟩:=kept_at hK
    rw [hj] at h6
    injection h6 with h6
    injection h6 with _ h6
    refine ⟨(j:Int) :: l',.step hK hf h1,?_,live_step hs hrm h3⟩
    rw [List.map_cons,h2,h5,← h6]
theorem pairsT_srt {R L:List Bool}:∀ {rs:List Rl} {i:Nat},(pairsT R L rs i).Pairwise (fun a b => a.2 < b.2)
  | [],_ => List.Pairwise.nil
  | r :: rs,i => by
    by_cases h:on R r.1.toNat ∧ on L r.2.1.toNat
    · rw [pairsT_yes h.1 h.2]
      refine List.Pairwise.cons (fun b hb => ?_) pairsT_srt
      have:=pairsT_ge hb
      dsimp only
      omega
    · rw [pairsT_not h]
      exact pairsT_srt
theorem at_mono {s:Sch} {j k:Nat} {a b:Rl} (hj:(trimE s).1.2.2[j]? = some a) (hk:(trimE s).1.2.2[k]? = some b) (h:j < k):atF (trimE s).2 (j:Int) < atF (trimE s).2 (k:Int):=by
  obtain ⟨x,_,h1,h2⟩:=kept_at hj
  obtain ⟨y,_,h3,h4⟩:=kept_at hk
  rw [h1,h3]
  have hp:=List.pairwise_iff_getElem.1 (pairsT_srt (R:=reachedE s) (L:=liveE s) (rs:=s.2.2) (i:=0))
  obtain ⟨g1,e1⟩:=List.getElem?_eq_some_iff.1 h2
  obtain ⟨g2,e2⟩:=List.getElem?_eq_some_iff.1 h4
  have:=hp j k g1 g2 h
  have f1:(pairsT (reachedE s) (liveE s) s.2.2 0)[j] = (a,(x:Int)):=e1
  have f2:(pairsT (reachedE s) (liveE s) s.2.2 0)[k] = (b,(y:Int)):=e2
  rw [f1,f2] at this
  exact this
def Idx (s:Sch) (l:List Int):Prop:=∀ j,j ∈ l → ∃ (n:Nat) (r:Rl),j = (n:Int) ∧ (trimE s).1.2.2[n]? = some r
theorem way_idx {s:Sch} {inp out:Str} {p:Rev.Pl} {l:List Int} {c:Int} (hw:Rev.Way (trimE s).1.2.2 s.2.1 inp out p l c):Idx s l:=by
  induction hw with
  | done => exact fun j hj => absurd hj List.not_mem_nil
  | @step p q k r l c hr hf _ ih =>
    intro j hj
    rcases List.mem_cons.1 hj with rfl | hj
    · exact ⟨k,r,rfl,hr⟩
    · exact ih j hj
theorem lex_at {s:Sch}:∀ {l1 l2:List Int},Idx s l1 → Idx s l2 → Rev.lexL (l1.map (atF (trimE s).2)) (l2.map (atF (trimE s).2)) = Rev.lexL l1 l2
  | [],l2,_,_ => by cases l2 <;> rfl
  | _ :: _,[],_,_ => rfl
  | a :: l1,b :: l2,h1,h2 => by
    obtain ⟨j,r,rfl,hj⟩:=h1 a List.mem_cons_self
    obtain ⟨k,r',rfl,hk⟩:=h2 b List.mem_cons_self
    have ih:=lex_at (s:=s) (fun x hx => h1 x (List.mem_cons_of_mem _ hx)) (fun x hx => h2 x (List.mem_cons_of_mem _ hx))
    simp only [List.map_cons,Rev.lexL,ih]
    rcases Nat.lt_trichotomy j k with h | h | h
    · have:=at_mono hj hk h
      have e1:decide (atF (trimE s).2 (j:Int) < atF (trimE s).2 (k:Int)) = decide ((j:Int) < (k:Int)):=decide_eq_decide.2 ⟨fun _ => by omega,fun _ => this⟩
      have e2:decide (atF (trimE s).2 (j:Int) = atF (trimE s).2 (k:Int)) = decide ((j:Int) = (k:Int)):=decide_eq_decide.2 ⟨fun h' => by omega,fun h' => by omega⟩
      rw [e1,e2]
    · subst h
      simp
    · have:=at_mono hk hj h
      have e1:decide (atF (trimE s).2 (j:Int) < atF (trimE s).2 (k:Int)) = decide ((j:Int) < (k:Int)):=decide_eq_decide.2 ⟨fun _ => by omega,fun h' => by omega⟩
      have e2:decide (atF (trimE s).2 (j:Int) = atF (trimE s).2 (k:Int)) = decide ((j:Int) = (k:Int)):=decide_eq_decide.2 ⟨fun h' => by omega,fun h' => by omega⟩
      rw [e1,e2]
theorem bef_at {s:Sch} {c1 c2:Int} {l1 l2:List Int} (h1:Idx s l1) (h2:Idx s l2):Rev.befE c1 (l1.map (atF (trimE s).2)) c2 (l2.map (atF (trimE s).2)) = Rev.befE c1 l1 c2 l2:=by
  unfold Rev.befE
  rw [lex_at h1 h2,List.length_map,List.length_map]
theorem first_trim {s:Sch} (hs:OkS s) {inp out:Str} {p:Rev.Pl} (hp:on (reachedE s) p.2.2.toNat) {o:Option (List Int × Int)} (h:Rev.FirstOf (Rev.Way (trimE s).1.2.2 s.2.1 inp out p) o):Rev.FirstOf (Rev.Way s.2.2 s.2.1 inp out p) (o.map fun e => (e.1.map (atF (trimE s).2),e.2)):=by
  cases o with
  | none =>
    intro l c hw
    obtain ⟨l',h1,_⟩:=way_down hs hw hp
    exact h l' c h1
  | some e =>
    refine ⟨way_up h.1,fun l c hw => ?_⟩
    obtain ⟨l',h1,h2,_⟩:=way_down hs hw hp
    rcases h.2 l' c h1 with h3 | h3
    · left
      rw [← h2,← h3]
    · right
      show Rev.befE e.2 (e.1.map _) c l = true
      rw [← h2,bef_at (way_idx h.1) (way_idx h1)]
      exact h3
theorem head_ex {rs:List Rl} {acc:Int} {inp out:Str} (hR:Rev.OkR rs) (hN:Rev.NoLoop rs) {V:Rev.Pl → Option Rev.Price} (hV:Rev.Known rs acc inp out V) {p:Rev.Pl} (hp:Rev.OkL inp out p) {left:Rev.Price} (hl:V p = some left) (h0:left.2 ≠ 0):∃ k q,Rev.headF inp out V p left rs 0 = some (k,q):=by
  cases hh:Rev.headF inp out V p left rs 0 with
  | some x => exact ⟨x.1,x.2,rfl⟩
  | none =>
    exfalso
    have hm:=hV.min p hp
    rw [hl] at hm
    obtain ⟨⟨l,c,hw,he⟩,hmin⟩:=hm
    cases hw with
    | done _ => rw [he] at h0; exact h0 rfl
    | @step _ q k r l c hr hf hw' =>
      have hrm:=List.mem_of_getElem? hr
      obtain ⟨hq,_⟩:=Rev.fits_ok hR hN hp hrm hf
      have hmq:=hV.min q hq
      cases hVq:V q with
      | none => rw [hVq] at hmq; exact hmq _ ⟨l,c,hw',rfl⟩
      | some a =>
        rw [hVq] at hmq
        have hne:=Rev.head_none hh r hrm q a hf hVq
        have h1:=hmq.2 _ ⟨l,c,hw',rfl⟩
        have h2:=hmin _ (wayS_cons hrm hf hmq.1)
        rw [Rev.lessP_no] at h1 h2
        refine hne ?_
        rw [he] at h2 ⊢
        unfold Rev.plusP at h2 ⊢
        rw [List.length_cons] at h2 ⊢
        dsimp only at h1 h2 ⊢
        exact Prod.ext (by dsimp only; omega) (by dsimp only; omega)
end Go.Proofs.Ytefpgfdemmllpaa
