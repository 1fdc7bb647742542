/- Contracts: the program's Least. Nothing here is trusted; no condition. -/
import Derived.Test.YtefpgfdemmllpaaC3
set_option linter.unusedSimpArgs false
set_option linter.unusedVariables false
open Nat renaming reduceBEq → zA, reduceAdd → zB, reduceSub → zC, reduceMul → zD, reduceLeDiff → zE
open Int renaming reduceLT → zF, reduceLE → zG, reduceToNat → zH, reduceNeg → zI
namespace Go.Proofs.Ytefpgfdemmllpaa
set_option maxHeartbeats 4000000
set_option maxRecDepth 100000
def unseen (n:Nat) (seen:List Nat):Nat:=((List.range n).filter fun i => decide (i ∉ seen)).length
theorem unseen_lt {n i:Nat} {seen:List Nat} (hi:i < n) (hn:i ∉ seen):unseen n (seen ++ [i]) < unseen n seen:=by
  unfold unseen
  have e:(List.range n).filter (fun j => decide (j ∉ seen ++ [i])) = ((List.range n).filter fun j => decide (j ∉ seen)).filter (fun j => decide (j ≠ i)):=by
    rw [List.filter_filter]
    congr 1
    funext j
    simp [and_comm]
  rw [e]
  apply List.length_filter_lt_length_iff_exists.2
  exact ⟨i,by simp [hi,hn],by simp⟩
structure LiveI (rs:List Rl) (L0 L:List Bool) (ch:Bool) (M:List Bool) (P:Int → Prop):Prop where
  len:M.length = L0.length
  sound:soundC (edgesL rs) L0 M
  mono:∀ m,on L0 m → on M m
  cf:cf M + (if ch = true then 1 else 0) ≤ cf L
  shut:ch = false → ∀ i,P i → ∀ r,rs[i.toNat]? = some r → on M r.2.1.toNat → on M r.1.toNat
theorem LiveI.weak {rs:List Rl} {L0 L:List Bool} {ch:Bool} {M:List Bool} {P P':Int → Prop} (h:LiveI rs L0 L ch M P) (hp:∀ i,P' i → P i):LiveI rs L0 L ch M P' :=
  ⟨h.len,h.sound,h.mono,h.cf,fun e i hi => h.shut e i (hp i hi)⟩
theorem LiveI.same {rs:List Rl} {L0 L:List Bool} {ch:Bool} {M:List Bool} {P:Int → Prop} {i:Int} {r:Rl} (h:LiveI rs L0 L ch M P) (hr:rs[i.toNat]? = some r) (hs:¬ on M r.2.1.toNat ∨ on M r.1.toNat):LiveI rs L0 L ch M (fun j => P j ∨ j = i) :=
  ⟨h.len,h.sound,h.mono,h.cf,fun e j hj q hq hon => by
    rcases hj with hj | rfl
    · exact h.shut e j hj q hq hon
    · rw [hr] at hq
      injection hq with hq
      subst hq
      rcases hs with hs | hs
      · exact absurd hon hs
      · exact hs⟩
theorem LiveI.put {rs:List Rl} {L0 L:List Bool} {ch:Bool} {M:List Bool} {P P':Int → Prop} {i:Int} {r:Rl} (h:LiveI rs L0 L ch M P) (hr:rs[i.toNat]? = some r) (h1:on M r.2.1.toNat) (h2:M[r.1.toNat]? = some false):LiveI rs L0 L true (M.set r.1.toNat true) P':=by
  refine ⟨by simpa using h.len,fun m hm => ?_,fun m hm => on_set (h.mono m hm),?_,fun e => by cases e⟩
  · rcases on_set_cases hm with rfl | hm
    · exact .step _ _ (h.sound _ h1) (List.mem_map.2 ⟨r,List.mem_of_getElem? hr,rfl⟩)
    · exact h.sound m hm
  · have:=cf_set h2
    have:=h.cf
    rw [if_pos rfl]
    split at this <;> omega
theorem c_Live (s:Sch) (hs:OkS s):PC env 54 [⟨SchemeT,s⟩] (.sl .bool) (liveE s):=by
  have hs0:=hs
  obtain ⟨n,a,rs⟩:=s
  have h1:=hs.n1
  have h8:=hs.n8
  have hl:=hs.len
  have hr:=hs.right
  dsimp only at h1 h8 hl hr
  have hE:liveE (n,a,rs) = closC (edgesL rs) n.toNat (startL a n.toNat):=rfl
  rw [hE]
  clear hE
  have hsl:=startL_len a n.toNat
  have hlt:∀ e,e ∈ edgesL rs → e.2 < (startL a n.toNat).length:=by
    intro e he
    unfold edgesL at he
    obtain ⟨r,hr',rfl⟩:=List.mem_map.1 he
    have:=right_nums (hr r hr')
    rw [hsl]
    show r.1.toNat < _
    omega
  refine PC.of_PW (m:=2000) env_ok fn_54 rfl rfl rfl rfl (by kernel_rfl) ?_; intro hx; simp only [Try.f54]; simp only [go_sem,zA,↓reduceIte,↓reduceDIte,zB,zC,zD,zE,zF,zG,zH,zI]
  refine ⟨_,_,h_marks (n,a,rs) ⟨by dsimp only; omega,h8⟩,rfl,?_⟩
  simp only [go_sem,zA,↓reduceIte,↓reduceDIte,zB,zC,zD,zE,zF,zG,zH,zI]
  intro _
  rw [List.length_replicate]
  generalize hT:closC (edgesL rs) n.toNat (startL a n.toNat) = T
  refine Walks.loopA (X:=Nat × List Bool) (fun (z:Nat × List Bool) => [(15,.iv (.int .i64) (z.1:Int)),(4,.any),(3,.lfull 1300007)]) (fun (z:Nat × List Bool) => [(1300007,.arr .bool z.2)]) (fun (z:Nat × List Bool) => z.1 ≤ n.toNat ∧ z.2.length = n.toNat ∧ z.2.take z.1 = (startL a n.toNat).take z.1) (fun (z:Nat × List Bool) => n.toNat - z.1) (0,List.replicate n.toNat false) ?_; intro b1 b2 hb1 hb2; simp (config:={maxSteps:=4000000}) only [go_sem,zA,↓reduceIte,↓reduceDIte,zB,zC,zD,zE,zF,zG,zH,zI] at hb1 hb2; subst hb1; subst hb2; refine ⟨(by refine ⟨?_,?_,rfl,rfl⟩ <;> repeat' (first | exact trivial | exact Or.inl rfl | exact Or.inr rfl | apply le1 | apply le2 | apply le3 | apply le4 | exact ⟨(by show (_:Nat) < 1000000000; omega),rfl,rfl⟩ | rfl | (refine And.intro (Or.inl ?_) ?_) | (refine And.intro ?_ ?_))),?_,?_⟩
  · exact ⟨Nat.zero_le _,by simp,rfl⟩
  intro ⟨k,L⟩ ⟨hk,hL,hb⟩ back
  dsimp only at hk hL hb
  refine PW_sound env_ok ⟨_,fn_54,rfl⟩ 2000 _ _ (by kernel_rfl) ?_; simp only [go_sem,zA,↓reduceIte,↓reduceDIte,zB,zC,zD,zE,zF,zG,zH,zI]
  refine ⟨fun g1 => ?_,fun g1 => ?_⟩
  · refine ⟨_,c_accepting (n,a,rs) (k:Int) ⟨Int.natCast_nonneg _,by omega⟩,⟨Int.natCast_nonneg _,by omega⟩,i64_ok (by omega) (by omega),?_⟩
    exact back _ (k + 1,L.set k (accB a (k:Int))) (by refine ⟨?_,?_,rfl,rfl⟩ <;> repeat' (first | exact trivial | exact Or.inl rfl | exact Or.inr rfl | apply le1 | apply le2 | apply le3 | apply le4 | exact ⟨(by show (_:Nat) < 1000000000; omega),rfl,rfl⟩ | rfl | (refine And.intro (Or.inl ?_) ?_) | (refine And.intro ?_ ?_))) ⟨(by first | omega | (show (_:Int) ≤ _; omega) | (show (_:Int) < _; omega) | (dsimp only; omega)),by simpa using hL,set_next hb (by omega) (startL_at (by omega))⟩ (by dsimp only; omega)
  · have e:L = startL a n.toNat:=by
      rw [List.take_of_length_le (by omega),List.take_of_length_le (by omega)] at hb
      exact hb
    subst e
    clear back hb hL hk g1
    refine ⟨_,c_leaving (n,a,rs) hs0,fun hok => ?_⟩
    refine Walks.loopA (X:=Bool × List Bool) (fun (z:Bool × List Bool) => [(6,.iv .bool z.1),(7,.any),(8,.any),(10,.any)]) (fun (z:Bool × List Bool) => [(1300007,.arr .bool z.2)]) (fun (z:Bool × List Bool) => z.2.length = n.toNat ∧ soundC (edgesL rs) (startL a n.toNat) z.2 ∧ (∀ m,on (startL a n.toNat) m → on z.2 m) ∧ (z.1 = false → closedC (edgesL rs) z.2)) (fun (z:Bool × List Bool) => 2 * cf z.2 + (if z.1 = true then 1 else 0)) (true,startL a n.toNat) ?_; intro b1 b2 hb1 hb2; simp (config:={maxSteps:=4000000}) only [go_sem,zA,↓reduceIte,↓reduceDIte,zB,zC,zD,zE,zF,zG,zH,zI] at hb1 hb2; subst hb1; subst hb2; refine ⟨(by refine ⟨?_,?_,rfl,rfl⟩ <;> repeat' (first | exact trivial | exact Or.inl rfl | exact Or.inr rfl | apply le1 | apply le2 | apply le3 | apply le4 | exact ⟨(by show (_:Nat) < 1000000000; omega),rfl,rfl⟩ | rfl | (refine And.intro (Or.inl ?_) ?_) | (refine And.intro ?_ ?_))),?_,?_⟩
    · exact ⟨hsl,fun m hm => .base m hm,fun _ h => h,fun h => by cases h⟩
    intro ⟨ch,L⟩ ⟨hL,hS,hM,hC⟩ back
    dsimp only at hL hS hM hC
    refine PW_sound env_ok ⟨_,fn_54,rfl⟩ 2000 _ _ (by kernel_rfl) ?_; simp only [go_sem,zA,↓reduceIte,↓reduceDIte,zB,zC,zD,zE,zF,zG,zH,zI]
    cases ch
    · simp only [go_sem,zA,↓reduceIte,↓reduceDIte,zB,zC,zD,zE,zF,zG,zH,zI]
      have hT2:=clos_uniq (E:=edgesL rs) (L0:=startL a n.toNat) (k:=n.toNat) hlt (by rw [hsl]; exact Nat.le_refl _) (by rw [hL,hsl]) hS (hC rfl) hM
      rw [← hT,← hT2]
    · simp only [go_sem,zA,↓reduceIte,↓reduceDIte,zB,zC,zD,zE,zF,zG,zH,zI]
      refine Walks.loopA (X:=List Nat × Bool × List Bool) (fun (z:List Nat × Bool × List Bool) => [(6,.iv .bool z.2.1),(7,.any),(8,.any),(10,.any)]) (fun (z:List Nat × Bool × List Bool) => [(29,.it [.iv (.mp (.int .i64) (.sl (.int .i64))) (leavE rs)] (leavE rs).length z.1),(1300007,.arr .bool z.2.2)]) (fun (z:List Nat × Bool × List Bool) => LiveI rs (startL a n.toNat) L z.2.1 z.2.2 (fun i => ∃ p x,p ∈ z.1 ∧ (leavE rs)[p]? = some x ∧ i ∈ x.2)) (fun (z:List Nat × Bool × List Bool) => unseen (leavE rs).length z.1) ([],false,L) ?_; intro b1 b2 hb1 hb2; simp (config:={maxSteps:=4000000}) only [go_sem,zA,↓reduceIte,↓reduceDIte,zB,zC,zD,zE,zF,zG,zH,zI] at hb1 hb2; subst hb1; subst hb2; refine ⟨(by refine ⟨?_,?_,rfl,rfl⟩ <;> repeat' (first | exact trivial | exact Or.inl rfl | exact Or.inr rfl | apply le1 | apply le2 | apply le3 | apply le4 | exact ⟨(by show (_:Nat) < 1000000000; omega),rfl,rfl⟩ | rfl | (refine And.intro (Or.inl ?_) ?_) | (refine And.intro ?_ ?_))),?_,?_⟩
      · exact ⟨by rw [hL,hsl],hS,hM,Nat.le_refl _,fun _ i ⟨p,x,hp,_⟩ => by cases hp⟩
      intro ⟨seen,ch,M⟩ hI back2
      dsimp only at hI
      refine PW_sound env_ok ⟨_,fn_54,rfl⟩ 2000 _ _ (by kernel_rfl) ?_; simp only [go_sem,zA,↓reduceIte,↓reduceDIte,zB,zC,zD,zE,zF,zG,zH,zI]
      refine ⟨fun p hp x hx' => ⟨x,⟨p,by simp,hx'⟩,?_⟩,fun hdone => ?_⟩
      · have hxm:=List.mem_of_getElem? hx'
        have hxl:=(leav_lens rs).2 x hxm
        refine Walks.loopA (X:=Nat × Bool × List Bool) (fun (z:Nat × Bool × List Bool) => [(37,.iv (.int .i64) (z.1:Int)),(6,.iv .bool z.2.1),(10,.any)]) (fun (z:Nat × Bool × List Bool) => [(1300007,.arr .bool z.2.2)]) (fun (z:Nat × Bool × List Bool) => z.1 ≤ x.2.length ∧ LiveI rs (startL a n.toNat) L z.2.1 z.2.2 (fun i => (∃ p x,p ∈ seen ∧ (leavE rs)[p]? = some x ∧ i ∈ x.2) ∨ i ∈ x.2.take z.1)) (fun (z:Nat × Bool × List Bool) => x.2.length - z.1) (0,ch,M) ?_; intro b1 b2 hb1 hb2; simp (config:={maxSteps:=4000000}) only [go_sem,zA,↓reduceIte,↓reduceDIte,zB,zC,zD,zE,zF,zG,zH,zI] at hb1 hb2; subst hb1; subst hb2; refine ⟨(by refine ⟨?_,?_,rfl,rfl⟩ <;> repeat' (first | exact trivial | exact Or.inl rfl | exact Or.inr rfl | apply le1 | apply le2 | apply le3 | apply le4 | exact ⟨(by show (_:Nat) < 1000000000; omega),rfl,rfl⟩ | rfl | (refine And.intro (Or.inl ?_) ?_) | (refine And.intro ?_ ?_))),?_,?_⟩
        · exact ⟨Nat.zero_le _,hI.weak fun i hi => by rcases hi with hi | hi; exact hi; simp at hi⟩
        clear hI
        intro ⟨k,ch,M⟩ ⟨hk,hI⟩ back3
        dsimp only at hk hI
        refine PW_sound env_ok ⟨_,fn_54,rfl⟩ 2000 _ _ (by kernel_rfl) ?_; simp only [go_sem,zA,↓reduceIte,↓reduceDIte,zB,zC,zD,zE,zF,zG,zH,zI]
        refine ⟨fun g2 => ?_,fun g2 => ?_⟩
        · obtain ⟨j,hj⟩:∃ j,x.2[k]? = some j:=get_of_lt (by omega)
          obtain ⟨i,r,rfl,hri,he⟩:=leav_rule hxm (List.mem_of_getElem? hj)
          have hri':rs[((i:Int)).toNat]? = some r:=by simpa using hri
          have hrn:=right_nums (hr r (List.mem_of_getElem? hri))
          have hMl:M.length = n.toNat:=by rw [hI.len,hsl]
          obtain ⟨b,hb⟩:∃ b,M[r.2.1.toNat]? = some b:=get_of_lt (by omega)
          obtain ⟨b2,hb2⟩:∃ b,M[r.1.toNat]? = some b:=get_of_lt (by omega)
          have next:∀ {c:Bool} {M':List Bool},LiveI rs (startL a n.toNat) L c M' (fun j => ((∃ p x,p ∈ seen ∧ (leavE rs)[p]? = some x ∧ j ∈ x.2) ∨ j ∈ x.2.take k) ∨ j = (i:Int)) → LiveI rs (startL a n.toNat) L c M' (fun j => (∃ p x,p ∈ seen ∧ (leavE rs)[p]? = some x ∧ j ∈ x.2) ∨ j ∈ x.2.take (k + 1)):=fun h => h.weak fun j hj' => by
            rw [take_snoc hj] at hj'
            rcases hj' with hj' | hj'
            · exact .inl (.inl hj')
            · rcases List.mem_append.1 hj' with hj' | hj'
              · exact .inl (.inr hj')
              · exact .inr (by simpa using hj')
          refine ⟨Int.natCast_nonneg _,(i:Int),hj,Int.natCast_nonneg _,r,hri',⟨by omega,by omega⟩,b,hb,?_⟩
          cases b
          · simp only [go_sem,zA,↓reduceIte,↓reduceDIte,zB,zC,zD,zE,zF,zG,zH,zI]
            exact ⟨i64_ok (by omega) (by omega),back3 _ (k + 1,ch,M) (by refine ⟨?_,?_,rfl,rfl⟩ <;> repeat' (first | exact trivial | exact Or.inl rfl | exact Or.inr rfl | apply le1 | apply le2 | apply le3 | apply le4 | exact ⟨(by show (_:Nat) < 1000000000; omega),rfl,rfl⟩ | rfl | (refine And.intro (Or.inl ?_) ?_) | (refine And.intro ?_ ?_))) ⟨(by first | omega | (show (_:Int) ≤ _; omega) | (show (_:Int) < _; omega) | (dsimp only; omega)),next (hI.same hri' (.inl (by unfold on; rw [hb]; simp)))⟩ (by dsimp only; omega)⟩
          · simp only [go_sem,zA,↓reduceIte,↓reduceDIte,zB,zC,zD,zE,zF,zG,zH,zI]
            refine ⟨⟨by omega,by omega⟩,b2,by rw [← he]; exact hb2,?_⟩
            cases b2
            · simp only [go_sem,zA,↓reduceIte,↓reduceDIte,zB,zC,zD,zE,zF,zG,zH,zI]
              refine ⟨⟨by omega,by omega⟩,i64_ok (by omega) (by omega),?_⟩
              exact back3 _ (k + 1,true,M.set x.1.toNat true) (by refine ⟨?_,?_,rfl,rfl⟩ <;> repeat' (first | exact trivial | exact Or.inl rfl | exact Or.inr rfl | apply le1 | apply le2 | apply le3 | apply le4 | exact ⟨(by show (_:Nat) < 1000000000; omega),rfl,rfl⟩ | rfl | (refine And.intro (Or.inl ?_) ?_) | (refine And.intro ?_ ?_))) ⟨(by first | omega | (show (_:Int) ≤ _; omega) | (show (_:Int) < _; omega) | (dsimp only; omega)),by dsimp only; rw [← he]; exact hI.put hri' hb hb2⟩ (by dsimp only; omega)
            · simp only [go_sem,zA,↓reduceIte,↓reduceDIte,zB,zC,zD,zE,zF,zG,zH,zI]
              exact ⟨i64_ok (by omega) (by omega),back3 _ (k + 1,ch,M) (by refine ⟨?_,?_,rfl,rfl⟩ <;> repeat' (first | exact trivial | exact Or.inl rfl | exact Or.inr rfl | apply le1 | apply le2 | apply le3 | apply le4 | exact ⟨(by show (_:Nat) < 1000000000; omega),rfl,rfl⟩ | rfl | (refine And.intro (Or.inl ?_) ?_) | (refine And.intro ?_ ?_))) ⟨(by first | omega | (show (_:Int) ≤ _; omega) | (show (_:Int) < _; omega) | (dsimp only; omega)),next (hI.same hri' (.inr hb2))⟩ (by dsimp only; omega)⟩
        · rw [List.take_of_length_le (by omega)] at hI
          refine back2 _ (seen ++ [p],ch,M) (by refine ⟨?_,?_,rfl,rfl⟩ <;> repeat' (first | exact trivial | exact Or.inl rfl | exact Or.inr rfl | apply le1 | apply le2 | apply le3 | apply le4 | exact ⟨(by show (_:Nat) < 1000000000; omega),rfl,rfl⟩ | rfl | (refine And.intro (Or.inl ?_) ?_) | (refine And.intro ?_ ?_))) (hI.weak fun i hi => ?_) (unseen_lt hp.1 hp.2)
          obtain ⟨q,y,h1,h2,h3⟩:=hi
          rcases List.mem_append.1 h1 with h1 | h1
          · exact .inl ⟨q,y,h1,h2,h3⟩
          · simp only [List.mem_singleton] at h1
            subst h1
            rw [hx'] at h2
            injection h2 with h2
            subst h2
            exact .inr h3
      · have hMl:M.length = n.toNat:=by rw [hI.len,hsl]
        refine back _ (ch,M) (by refine ⟨?_,?_,rfl,rfl⟩ <;> repeat' (first | exact trivial | exact Or.inl rfl | exact Or.inr rfl | apply le1 | apply le2 | apply le3 | apply le4 | exact ⟨(by show (_:Nat) < 1000000000; omega),rfl,rfl⟩ | rfl | (refine And.intro (Or.inl ?_) ?_) | (refine And.intro ?_ ?_))) ⟨hMl,hI.sound,hI.mono,fun e x hx => ?_⟩ ?_
        · unfold edgesL at hx
          obtain ⟨r,hrm,rfl⟩:=List.mem_map.1 hx
          obtain ⟨i,hi⟩:=List.getElem?_of_mem hrm
          obtain ⟨p,y,h1,h2,h3⟩:=leav_all hi
          exact hI.shut e (i:Int) ⟨p,y,hdone p (List.getElem?_eq_some_iff.1 h1).1,h1,h3⟩ r (by simpa using hi)
        · have:=hI.cf
          dsimp only
          simp only [if_true]
          cases ch <;> simp only [if_true,if_false,Bool.false_eq_true] at this ⊢ <;> omega
end Go.Proofs.Ytefpgfdemmllpaa
namespace Go.Proofs.Ytefpgfdemmllpaa
set_option maxHeartbeats 4000000
set_option maxRecDepth 100000
end Go.Proofs.Ytefpgfdemmllpaa
namespace Go.Proofs.Ytefpgfdemmllpaa
set_option maxHeartbeats 4000000
set_option maxRecDepth 100000
def endP:List Int → PV
  | [] => .nilsl | _ :: _ => .lfull 82
end Go.Proofs.Ytefpgfdemmllpaa
