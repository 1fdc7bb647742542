/- Contracts: texts of the laws, and their fixed examples. Nothing here is trusted; no condition. -/
import Derived.Test.YtefpgfdemmllpaaD5
set_option linter.unusedSimpArgs false
set_option linter.unusedVariables false
open Nat renaming reduceBEq → zA, reduceAdd → zB, reduceSub → zC, reduceMul → zD, reduceLeDiff → zE
open Int renaming reduceLT → zF, reduceLE → zG, reduceToNat → zH, reduceNeg → zI
namespace Go.Proofs.Ytefpgfdemmllpaa
attribute [local go_sem] litP appendC ne_eq not_false_eq_true Option.isSome_none Option.isSome_some St.ren permF
set_option maxHeartbeats 4000000
set_option maxRecDepth 100000
theorem h_way (s:Sch) (hs:OkS s) (hN:Rev.NoLoop s.2.2) (inp out:Str) (hi:inp.length ≤ 40) (ho:out.length ≤ 20) (ps:Pm) (hI:PI s.2.2 s.2.1 inp out ps) (hK:Rev.Known s.2.2 s.2.1 inp out (VP ps)):∀ (n:Nat) (p:Rev.Pl) (before:List Int) (left:Rev.Price),Rev.OkL inp out p → VP ps p = some left → left.2.toNat < n → before.length + n ≤ 1000 →
    HC env 42 [.ref 1000000000 0,.iv PlaceT105 p,.iv (.sl (.int .i64)) before] (pB s inp out ps) (.iv (.sl (.int .i64)) (before ++ Rev.wayF s.2.2 inp out (VP ps) n p)) (pB s inp out ps):=by
  have hR:=ok_rules hs
  have hl:s.2.2.length ≤ 64:=hs.len
  have haft:=fun p r hp hr => c_afterP s inp out ps p r hp hi ho (hs.out4 hr).1 (hs.out4 hr).2
  obtain ⟨ns,a,rs⟩:=s
  dsimp only at hR hl hN hI hK haft ⊢
  intro n
  induction n with
  | zero => intro _ _ _ _ _ h; exact absurd h (Nat.not_lt_zero _)
  | succ n ih =>
    intro p before left hp hleft hlt hbl
    have hW:Rev.wayF rs inp out (VP ps) (n + 1) p = if left.2 = 0 then [] else match Rev.headF inp out (VP ps) p left rs 0 with | none => [] | some (k,q) => (k:Int) :: Rev.wayF rs inp out (VP ps) n q:=by
      rw [Rev.wayF,hleft]
      rfl
    have htop:=pm_top hR hN hI hi hleft
    rw [hW]
    clear hW
    obtain ⟨l1,l2⟩:=left
    obtain ⟨p1,p2,p3⟩:=p
    dsimp only at hlt htop ⊢
    have hlf:mfind (V:=PriceT.den) (eqB PlaceT105) ps ((p1,p2,p3):PlaceT105.den) = some ((l1,l2):PriceT.den):=hleft
    by_cases h0:l2 = 0
    · rw [if_pos h0,List.append_nil]
      subst h0
      refine HC.of_PW (m:=2000) env_ok fn_42 rfl rfl rfl rfl (by kernel_rfl) ?_; intro hx hbl; simp only [Try.f42]; simp only [go_sem,zA,↓reduceIte,↓reduceDIte,zB,zC,zD,zE,zF,zG,zH,zI]
      simp only [hlf,Option.getD_some]
      simp only [go_sem,zA,↓reduceIte,↓reduceDIte,zB,zC,zD,zE,zF,zG,zH,zI]
      exact fun h => absurd trivial h
    · rw [if_neg h0]
      obtain ⟨j,q,hh⟩:=head_ex hR hN hK hp hleft h0
      obtain ⟨r0,a0,_,g2,g3,g4,g5,_⟩:=Rev.head_some hh
      rw [hh]
      dsimp only
      have hq:=(Rev.fits_ok hR hN hp (List.mem_of_getElem? g2) g3).1
      have hih:=ih q (before ++ [(j:Int)]) a0 hq g4 (by
        have:=congrArg Prod.snd g5
        unfold Rev.plusP at this
        dsimp only at this
        have:=pm_top hR hN hI hi g4
        omega) (by rw [List.length_append]; simp only [List.length_cons,List.length_nil]; omega)
      refine HC.of_PW (m:=2000) env_ok fn_42 rfl rfl rfl rfl (by kernel_rfl) ?_; intro hx hbl; simp only [Try.f42]; simp only [go_sem,zA,↓reduceIte,↓reduceDIte,zB,zC,zD,zE,zF,zG,zH,zI]
      rw [show (mfind (V:=PriceT.den) (eqB PlaceT105) ps ((p1,p2,p3):PlaceT105.den)) = some ((l1,l2):PriceT.den) from hleft]
      simp only [Option.getD_some]
      refine ⟨fun h => absurd h h0,fun _ => ?_⟩
      refine Walks.loopA (X:=Nat) (fun (k:Nat) => [(30,.iv (.int .i64) (k:Int))]) (fun (k:Nat) => []) (fun (k:Nat) => k ≤ rs.length ∧ Rev.headF inp out (VP ps) (p1,p2,p3) (l1,l2) (rs.drop k) k = some (j,q)) (fun (k:Nat) => rs.length - k) 0 ?_; intro b1 b2 hb1 hb2; simp (config:={maxSteps:=4000000}) only [go_sem,zA,↓reduceIte,↓reduceDIte,zB,zC,zD,zE,zF,zG,zH,zI] at hb1 hb2; subst hb1; subst hb2; refine ⟨(by refine ⟨?_,?_,rfl,rfl⟩ <;> repeat' (first | exact trivial | exact Or.inl rfl | exact Or.inr rfl | apply le1 | apply le2 | apply le3 | apply le4 | exact ⟨(by show (_:Nat) < 1000000000; omega),rfl,rfl⟩ | rfl | (refine And.intro (Or.inl ?_) ?_) | (refine And.intro ?_ ?_))),?_,?_⟩
      · exact ⟨Nat.zero_le _,hh⟩
      intro k ⟨hk,hhd⟩ back
      refine PW_sound env_ok ⟨_,fn_42,rfl⟩ 2000 _ _ (by kernel_rfl) ?_; simp only [go_sem,zA,↓reduceIte,↓reduceDIte,zB,zC,zD,zE,zF,zG,zH,zI]
      refine ⟨fun g => ?_,fun g => ?_⟩
      · obtain ⟨r,hr⟩:∃ r,rs[k]? = some r:=get_of_lt (by omega)
        have hrm:=List.mem_of_getElem? hr
        have hcost:=hR.cost r hrm
        rw [drop_cons hr,Rev.headF] at hhd
        refine ⟨Int.natCast_nonneg _,r,hr,_,haft (p1,p2,p3) r hp hrm,fun _ => ?_⟩
        have hfit:=aftP_fits inp out (p1,p2,p3) r
        cases hA:(aftP inp out (p1,p2,p3) r).2
        · rw [hA,if_neg (by decide)] at hfit
          rw [hfit] at hhd
          simp only [go_sem,zA,↓reduceIte,↓reduceDIte,zB,zC,zD,zE,zF,zG,zH,zI]
          exact ⟨i64_ok (by omega) (by omega),back _ (k + 1) (by refine ⟨?_,?_,rfl,rfl⟩ <;> repeat' (first | exact trivial | exact Or.inl rfl | exact Or.inr rfl | apply le1 | apply le2 | apply le3 | apply le4 | exact ⟨(by show (_:Nat) < 1000000000; omega),rfl,rfl⟩ | rfl | (refine And.intro (Or.inl ?_) ?_) | (refine And.intro ?_ ?_))) ⟨by omega,hhd⟩ (by omega)⟩
        · rw [hA,if_pos rfl] at hfit
          rw [hfit] at hhd
          generalize (aftP inp out (p1,p2,p3) r).1 = q' at *
          obtain ⟨q1,q2,q3⟩:=q'
          dsimp only at hhd
          simp only [go_sem,zA,↓reduceIte,↓reduceDIte,zB,zC,zD,zE,zF,zG,zH,zI]
          cases hV:mfind (V:=PriceT.den) (eqB PlaceT105) ps ((q1,q2,q3):PlaceT105.den) with
          | none =>
            rw [show VP ps (q1,q2,q3) = none from hV] at hhd
            simp only [Option.isSome_none,Option.getD_none]
            simp only [go_sem,zA,↓reduceIte,↓reduceDIte,zB,zC,zD,zE,zF,zG,zH,zI]
            exact ⟨i64_ok (by omega) (by omega),back _ (k + 1) (by refine ⟨?_,?_,rfl,rfl⟩ <;> repeat' (first | exact trivial | exact Or.inl rfl | exact Or.inr rfl | apply le1 | apply le2 | apply le3 | apply le4 | exact ⟨(by show (_:Nat) < 1000000000; omega),rfl,rfl⟩ | rfl | (refine And.intro (Or.inl ?_) ?_) | (refine And.intro ?_ ?_))) ⟨by omega,hhd⟩ (by omega)⟩
          | some av =>
            obtain ⟨a1,a2⟩:=av
            rw [show VP ps (q1,q2,q3) = some (a1,a2) from hV] at hhd
            dsimp only at hhd
            have htop2:=pm_top hR hN hI hi (show VP ps (q1,q2,q3) = some (a1,a2) from hV)
            dsimp only at htop2
            have hplus:=c_plusP (a1,a2) (r.2.2.2.2,1) ⟨by dsimp only; omega,by dsimp only; omega⟩ ⟨by dsimp only; omega,by dsimp only; omega⟩
            simp only [Option.isSome_some,Option.getD_some]
            simp only [go_sem,zA,↓reduceIte,↓reduceDIte,zB,zC,zD,zE,zF,zG,zH,zI]
            refine ⟨_,hplus,fun _ => ?_⟩
            generalize Rev.plusP (a1,a2) (r.2.2.2.2,1) = y at *
            obtain ⟨y1,y2⟩:=y
            refine ⟨fun he => ?_,fun hne => ?_⟩
            · rw [if_pos (Prod.ext he.1 he.2)] at hhd
              injection hhd with hhd
              injection hhd with e1 e2
              subst e1; subst e2
              have htk:before.take before.length = before:=List.take_length
              simp only [htk]
              have hcat:∀ (x:List Int),before ++ [(k:Int)] ++ x = before ++ (k:Int) :: x:=fun x => by rw [List.append_assoc]; rfl
              rw [hcat] at hih
              refine ⟨Int.natCast_nonneg _,⟨by simp,by omega⟩,_,_,hih,rfl,fun _ _ => ?_⟩
              simp only [go_sem,zA,↓reduceIte,↓reduceDIte,zB,zC,zD,zE,zF,zG,zH,zI]
            · rw [if_neg (fun e => hne (by injection e with e1 e2; exact ⟨e1,e2⟩))] at hhd
              exact ⟨i64_ok (by omega) (by omega),back _ (k + 1) (by refine ⟨?_,?_,rfl,rfl⟩ <;> repeat' (first | exact trivial | exact Or.inl rfl | exact Or.inr rfl | apply le1 | apply le2 | apply le3 | apply le4 | exact ⟨(by show (_:Nat) < 1000000000; omega),rfl,rfl⟩ | rfl | (refine And.intro (Or.inl ?_) ?_) | (refine And.intro ?_ ?_))) ⟨by omega,hhd⟩ (by omega)⟩
      · rw [List.drop_of_length_le (by omega)] at hhd
        cases hhd
def pairE (s:Sch) (inp out:Str):List Int × Int :=
  if letB inp = false ∨ isTextB out = false then ([],1) else match Rev.fromF s.2.2 s.2.1 inp out (inp.length * 8 + 8) (0,0,0) with
    | none => ([],50)
    | some e => (e.1,0)
theorem pair_key {s:Sch} (hs:OkS s) (hN:Rev.NoLoop s.2.2) {inp out:Str} (hi:inp.length ≤ 40) {ps:Pm} (hI:PI (trimE s).1.2.2 s.2.1 inp out ps) (hK:Rev.Known (trimE s).1.2.2 s.2.1 inp out (VP ps)) :
    (VP ps (0,0,0) = none → Rev.fromF s.2.2 s.2.1 inp out (inp.length * 8 + 8) (0,0,0) = none) ∧
    ∀ left,VP ps (0,0,0) = some left → (left.2.toNat < 400 ∧ (Rev.wayF (trimE s).1.2.2 inp out (VP ps) 400 (0,0,0)).length ≤ 400) ∧ Idx s (Rev.wayF (trimE s).1.2.2 inp out (VP ps) 400 (0,0,0)) ∧ Rev.fromF s.2.2 s.2.1 inp out (inp.length * 8 + 8) (0,0,0) = some ((Rev.wayF (trimE s).1.2.2 inp out (VP ps) 400 (0,0,0)).map (atF (trimE s).2),left.1):=by
  have hR:=ok_rules hs
  have ht:=trim_ok hs
  have hRt:=ok_rules ht
  have hNt:Rev.NoLoop (trimE s).1.2.2:=fun r hr => hN r (trim_kept.1 hr).1
  have hok:Rev.OkL inp out (0,0,0):=⟨⟨Int.le_refl _,Int.natCast_nonneg _⟩,⟨Int.le_refl _,Int.natCast_nonneg _⟩,⟨Int.le_refl _,by decide⟩⟩
  have hfrom:Rev.IsFirst s.2.2 s.2.1 inp out (0,0,0) (Rev.fromF s.2.2 s.2.1 inp out (inp.length * 8 + 8) (0,0,0)):=Rev.from_first hR hN _ _ hok (by unfold Rev.mp; dsimp only; omega)
  have uniq:∀ o,Rev.FirstOf (Rev.Way (trimE s).1.2.2 s.2.1 inp out (0,0,0)) o → Rev.fromF s.2.2 s.2.1 inp out (inp.length * 8 + 8) (0,0,0) = o.map fun e => (e.1.map (atF (trimE s).2),e.2):=fun o h =>
    Rev.first_uniq hfrom (show Rev.IsFirst s.2.2 s.2.1 inp out (0,0,0) _ from first_trim hs (p:=(0,0,0)) (show on (reachedE s) 0 from reached_zero hs) h)
  constructor
  · intro h0
    refine uniq none fun l c hw => ?_
    have:=hK.min _ hok
    rw [h0] at this
    exact this _ ⟨l,c,hw,rfl⟩
  · intro left hl
    have htop:=pm_top hRt hNt hI hi hl
    obtain ⟨h1,h2,h3⟩:=Rev.way_first hRt hNt hK 400 _ hok left hl (by omega)
    exact ⟨⟨by omega,by omega⟩,way_idx h1,uniq (some (_,left.1)) ⟨h1,h3⟩⟩
theorem c_Pair (s:Sch) (hs:OkS s) (hv:(checkE s).2 = 0) (hN:Rev.NoLoop s.2.2) (inp out:Str):PC env 16 [⟨SchemeT,s⟩,⟨.str,inp⟩,⟨.str,out⟩] (.tup (.sl (.int .i64)) (.int .i64)) (pairE s inp out):=by
  cases h1:letB inp
  · have hb:pairE s inp out = ([],1):=by unfold pairE; rw [if_pos (.inl h1)]
    rw [hb]
    obtain ⟨n,a,rs⟩:=s
    refine PC.of_PW (m:=2000) env_ok fn_16 rfl rfl rfl rfl (by kernel_rfl) ?_; intro hx; simp only [Try.f16]; simp only [go_sem,zA,↓reduceIte,↓reduceDIte,zB,zC,zD,zE,zF,zG,zH,zI]
    refine ⟨_,c_Letters inp,?_⟩
    rw [h1]
    simp only [go_sem,zA,↓reduceIte,↓reduceDIte,zB,zC,zD,zE,zF,zG,zH,zI]
  cases h2:isTextB out
  · have hb:pairE s inp out = ([],1):=by unfold pairE; rw [if_pos (.inr h2)]
    rw [hb]
    obtain ⟨n,a,rs⟩:=s
    refine PC.of_PW (m:=2000) env_ok fn_16 rfl rfl rfl rfl (by kernel_rfl) ?_; intro hx; simp only [Try.f16]; simp only [go_sem,zA,↓reduceIte,↓reduceDIte,zB,zC,zD,zE,zF,zG,zH,zI]
    refine ⟨_,c_Letters inp,?_⟩
    rw [h1]
    simp only [go_sem,zA,↓reduceIte,↓reduceDIte,zB,zC,zD,zE,zF,zG,zH,zI]
    refine ⟨_,c_isText out,?_⟩
    rw [h2]
    simp only [go_sem,zA,↓reduceIte,↓reduceDIte,zB,zC,zD,zE,zF,zG,zH,zI]
  have hi:inp.length ≤ 40:=by
    unfold letB at h1
    simp only [Bool.and_eq_true,decide_eq_true_eq] at h1
    exact h1.1
  have ho:out.length ≤ 20:=by
    unfold isTextB at h2
    simp only [Bool.and_eq_true,decide_eq_true_eq] at h2
    exact h2.1
  have hb:pairE s inp out = match Rev.fromF s.2.2 s.2.1 inp out (inp.length * 8 + 8) (0,0,0) with | none => ([],50) | some e => (e.1,0):=by
    unfold pairE
    rw [if_neg (by rw [h1,h2]; simp)]
  have ht:=trim_ok hs
  have hNt:Rev.NoLoop (trimE s).1.2.2:=fun r hr => hN r (trim_kept.1 hr).1
  have hfill:=h_fill (trimE s).1 ht hNt inp out hi ho
  have hway:=fun ps hI hK => h_way (trimE s).1 ht hNt inp out hi ho ps hI hK 400 (0,0,0) []
  have hkey:=fun ps hI hK => pair_key hs hN (inp:=inp) (out:=out) hi (ps:=ps) hI hK
  have hTrim:=c_Trim s hs
  have hlens:=trim_lens s
  have hIdx:∀ l,Idx s l → ∀ (i:Nat) (j:Int),l[i]? = some j → 0 ≤ j ∧ ∃ v,(trimE s).2[j.toNat]? = some v ∧ atF (trimE s).2 j = v:=fun l hl i j hj => by
    obtain ⟨m,r,rfl,hm⟩:=hl j (List.mem_of_getElem? hj)
    have hlt:=(List.getElem?_eq_some_iff.1 hm).1
    rw [hlens] at hlt
    refine ⟨Int.natCast_nonneg _,_,List.getElem?_eq_getElem (by simpa using hlt),?_⟩
    unfold atF
    rw [List.getD_eq_getElem?_getD,List.getElem?_eq_getElem (by simpa using hlt)]
    rfl
  have hta:(trimE s).1.2.1 = s.2.1:=rfl
  rw [hb]
  clear hb
  generalize htt:trimE s = tt at *
  obtain ⟨⟨n,a,rs⟩,kept⟩:=tt
  dsimp only at hfill hway hkey hTrim hIdx hta
  rw [← hta] at hkey ⊢
  refine PC.of_PW (m:=2000) env_ok fn_16 rfl rfl rfl rfl (by kernel_rfl) ?_; intro hx; simp only [Try.f16]; simp only [go_sem,zA,↓reduceIte,↓reduceDIte,zB,zC,zD,zE,zF,zG,zH,zI]
  refine ⟨_,c_Letters inp,?_⟩
  rw [h1]
  simp only [go_sem,zA,↓reduceIte,↓reduceDIte,zB,zC,zD,zE,zF,zG,zH,zI]
  refine ⟨_,c_isText out,?_⟩
  rw [h2]
  simp only [go_sem,zA,↓reduceIte,↓reduceDIte,zB,zC,zD,zE,zF,zG,zH,zI]
  refine ⟨_,c_Valid s,?_⟩
  rw [decide_eq_true hv]
  simp only [go_sem,zA,↓reduceIte,↓reduceDIte,zB,zC,zD,zE,zF,zG,zH,zI]
  refine ⟨_,hTrim,fun _ => ?_⟩
  dsimp only
  refine ⟨_,_,_,_,hfill,fun ps ⟨hI,hK⟩ => ⟨rfl,fun _ _ => ?_⟩⟩
  simp only [go_sem,zA,↓reduceIte,↓reduceDIte,zB,zC,zD,zE,zF,zG,zH,zI]
  obtain ⟨k1,k2⟩:=hkey ps hI hK
  refine ⟨fun left hleft => ?_,fun hnone => ?_⟩
  · obtain ⟨⟨k3,k6⟩,k4,k5⟩:=k2 left hleft
    rw [k5]
    dsimp only
    have hwy:=hway ps hI hK left ⟨⟨Int.le_refl _,Int.natCast_nonneg _⟩,⟨Int.le_refl _,Int.natCast_nonneg _⟩,⟨Int.le_refl _,by decide⟩⟩ hleft k3 (by simp)
    rw [List.nil_append] at hwy
    refine ⟨_,_,hwy,rfl,fun _ _ => ?_⟩
    generalize Rev.wayF rs inp out (VP ps) 400 (0,0,0) = W at *
    simp only [go_sem,zA,↓reduceIte,↓reduceDIte,zB,zC,zD,zE,zF,zG,zH,zI]
    refine ⟨⟨Int.natCast_nonneg _,(by first | omega | (show (_:Int) ≤ _; omega) | (show (_:Int) < _; omega) | (dsimp only; omega))⟩,?_⟩
    refine Walks.loopA (X:=Nat × List Int) (fun (z:Nat × List Int) => [(60,.iv (.int .i64) (z.1:Int))]) (fun (z:Nat × List Int) => [(57,.arr (.int .i64) z.2)]) (fun (z:Nat × List Int) => z.1 ≤ W.length ∧ z.2.length = W.length ∧ z.2.take z.1 = (W.map (atF kept)).take z.1) (fun (z:Nat × List Int) => W.length - z.1) (0,List.replicate W.length 0) ?_; intro b1 b2 hb1 hb2; simp (config:={maxSteps:=4000000}) only [go_sem,zA,↓reduceIte,↓reduceDIte,zB,zC,zD,zE,zF,zG,zH,zI] at hb1 hb2; subst hb1; subst hb2; refine ⟨(by refine ⟨?_,?_,rfl,rfl⟩ <;> repeat' (first | exact trivial | exact Or.inl rfl | exact Or.inr rfl | apply le1 | apply le2 | apply le3 | apply le4 | exact ⟨(by show (_:Nat) < 1000000000; omega),rfl,rfl⟩ | rfl | (refine And.intro (Or.inl ?_) ?_) | (refine And.intro ?_ ?_))),?_,?_⟩
    · exact ⟨Nat.zero_le _,by simp,rfl⟩
    intro ⟨k,L⟩ ⟨hk,hL,hb⟩ back
    dsimp only at hk hL hb
    refine PW_sound env_ok ⟨_,fn_16,rfl⟩ 2000 _ _ (by kernel_rfl) ?_; simp only [go_sem,zA,↓reduceIte,↓reduceDIte,zB,zC,zD,zE,zF,zG,zH,zI]
    refine ⟨fun g => ?_,fun g => ?_⟩
    · obtain ⟨w,hw⟩:∃ w,W[k]? = some w:=get_of_lt (by omega)
      obtain ⟨m1,v,m2,m3⟩:=hIdx W k4 k w hw
      have hWk:(W.map (atF kept))[k]? = some v:=by rw [List.getElem?_map,hw]; exact congrArg some m3
      refine ⟨Int.natCast_nonneg _,w,hw,m1,v,m2,⟨by omega,by omega⟩,i64_ok (by omega) (by omega),back _ (k + 1,L.set k v) (by refine ⟨?_,?_,rfl,rfl⟩ <;> repeat' (first | exact trivial | exact Or.inl rfl | exact Or.inr rfl | apply le1 | apply le2 | apply le3 | apply le4 | exact ⟨(by show (_:Nat) < 1000000000; omega),rfl,rfl⟩ | rfl | (refine And.intro (Or.inl ?_) ?_) | (refine And.intro ?_ ?_))) ⟨by omega,by simpa using hL,set_next hb (by omega) hWk⟩ (by dsimp only; omega)⟩
    · rw [List.take_of_length_le (by omega),List.take_of_length_le (by rw [List.length_map]; omega)] at hb
      rw [hb]
  · rw [k1 hnone]
end Go.Proofs.Ytefpgfdemmllpaa
namespace Go.Proofs.Ytefpgfdemmllpaa
attribute [local go_sem] litP appendC ne_eq not_false_eq_true
set_option maxHeartbeats 4000000
set_option maxRecDepth 100000
def keep6 (r:Rl):Bool:=decide (r.2.2.1 ≠ [] ∨ r.1 < r.2.1)
def made6E (x:RawS):Sch:=((made2E x).1,(made2E x).2.1,(made2E x).2.2.filter keep6)
theorem made6_ok (x:RawS):OkS (made6E x) ∧ Rev.NoLoop (made6E x).2.2 ∧ (made6E x).2.2.length ≤ 9:=by
  obtain ⟨h,_,_,h9⟩:=made2_ok x
  have hsub:((made2E x).2.2.filter keep6).Sublist (made2E x).2.2:=List.filter_sublist
  refine ⟨⟨h.n1,h.n8,h.a1,h.a2,Nat.le_trans hsub.length_le h.len,fun r hr => h.right r (hsub.subset hr),h.nodup.sublist hsub⟩,fun r hr => ?_,Nat.le_trans hsub.length_le h9⟩
  have:=(List.mem_filter.1 hr).2
  unfold keep6 at this
  exact of_decide_eq_true this
theorem c_Made6 (x:RawS):PC env 10 [⟨RawT,x⟩] SchemeT (made6E x):=by
  have hM:=c_Made2 x
  have hok:=(made2_ok x).1.len
  have hE:made6E x = ((made2E x).1,(made2E x).2.1,(made2E x).2.2.filter keep6):=rfl
  rw [hE]
  generalize made2E x = m at *
  obtain ⟨n,a,rs⟩:=m
  dsimp only at hok ⊢
  have hb0:bytesOf ⟨#[]⟩ = ([]:Str):=rfl
  refine PC.of_PW (m:=2000) env_ok fn_10 rfl rfl rfl rfl (by kernel_rfl) ?_; intro hx; simp only [Try.f10]; simp only [go_sem,zA,↓reduceIte,↓reduceDIte,zB,zC,zD,zE,zF,zG,zH,zI]
  refine ⟨_,hM,fun _ => ?_⟩
  dsimp only
  refine Walks.loopA (X:=Nat × List Rl) (fun (z:Nat × List Rl) => [(5,.iv (.int .i64) (z.1:Int))]) (fun (z:Nat × List Rl) => [(4,.box [.iv (.int .i64) n,.iv (.int .u8) a,.lfull 50]),(50,.arr RuleT z.2)]) (fun (z:Nat × List Rl) => z.1 ≤ rs.length ∧ z.2 = (rs.take z.1).filter keep6) (fun (z:Nat × List Rl) => rs.length - z.1) (0,[]) ?_; intro b1 b2 hb1 hb2; simp (config:={maxSteps:=4000000}) only [go_sem,zA,↓reduceIte,↓reduceDIte,zB,zC,zD,zE,zF,zG,zH,zI] at hb1 hb2; subst hb1; subst hb2; refine ⟨(by refine ⟨?_,?_,rfl,rfl⟩ <;> repeat' (first | exact trivial | exact Or.inl rfl | exact Or.inr rfl | apply le1 | apply le2 | apply le3 | apply le4 | exact ⟨(by show (_:Nat) < 1000000000; omega),rfl,rfl⟩ | rfl | (refine And.intro (Or.inl ?_) ?_) | (refine And.intro ?_ ?_))),?_,?_⟩
  · exact ⟨Nat.zero_le _,rfl⟩
  intro ⟨k,L⟩ ⟨hk,hL⟩ back
  dsimp only at hk hL
  have hLl:L.length ≤ 64:=by rw [hL]; exact Nat.le_trans (List.length_filter_le _ _) (by rw [List.length_take]; omega)
  refine PW_sound env_ok ⟨_,fn_10,rfl⟩ 2000 _ _ (by kernel_rfl) ?_; simp only [go_sem,zA,↓reduceIte,↓reduceDIte,zB,zC,zD,zE,zF,zG,zH,zI]
  refine ⟨fun g => ?_,fun g => ?_⟩
  · obtain ⟨r,hr⟩:∃ r,rs[k]? = some r:=get_of_lt (by omega)
    have hsnoc:(rs.take (k + 1)).filter keep6 = (rs.take k).filter keep6 ++ (if keep6 r = true then [r] else []):=by
      rw [take_snoc hr,List.filter_append,List.filter_cons,List.filter_nil]
    have hyes:keep6 r = true → (L ++ [(r.1,r.2.1,r.2.2.1,r.2.2.2.1,r.2.2.2.2)]) = (rs.take (k + 1)).filter keep6:=fun h => by rw [hsnoc,if_pos h,hL]
    have hno:¬ keep6 r = true → L = (rs.take (k + 1)).filter keep6:=fun h => by rw [hsnoc,if_neg h,List.append_nil,hL]
    refine ⟨Int.natCast_nonneg _,r,hr,fun h1 => ?_,fun h1 => ?_⟩
    · rw [hb0] at h1
      refine ⟨Int.natCast_nonneg _,r,hr,Int.natCast_nonneg _,r,hr,fun h2 => ?_,fun h2 => ?_⟩
      · refine ⟨Int.natCast_nonneg _,r,hr,by omega,i64_ok (by omega) (by omega),back _ (k + 1,L ++ [(r.1,r.2.1,r.2.2.1,r.2.2.2.1,r.2.2.2.2)]) (by refine ⟨?_,?_,rfl,rfl⟩ <;> repeat' (first | exact trivial | exact Or.inl rfl | exact Or.inr rfl | apply le1 | apply le2 | apply le3 | apply le4 | exact ⟨(by show (_:Nat) < 1000000000; omega),rfl,rfl⟩ | rfl | (refine And.intro (Or.inl ?_) ?_) | (refine And.intro ?_ ?_))) ⟨by omega,hyes ?_⟩ (by dsimp only; omega)⟩
        unfold keep6
        exact decide_eq_true (.inr h2)
      · refine ⟨i64_ok (by omega) (by omega),back _ (k + 1,L) (by refine ⟨?_,?_,rfl,rfl⟩ <;> repeat' (first | exact trivial | exact Or.inl rfl | exact Or.inr rfl | apply le1 | apply le2 | apply le3 | apply le4 | exact ⟨(by show (_:Nat) < 1000000000; omega),rfl,rfl⟩ | rfl | (refine And.intro (Or.inl ?_) ?_) | (refine And.intro ?_ ?_))) ⟨by omega,hno ?_⟩ (by dsimp only; omega)⟩
        unfold keep6
        simp only [decide_eq_true_eq]
        rintro (h | h)
        · exact h h1
        · exact h2 h
    · rw [hb0] at h1
      refine ⟨Int.natCast_nonneg _,r,hr,by omega,i64_ok (by omega) (by omega),back _ (k + 1,L ++ [(r.1,r.2.1,r.2.2.1,r.2.2.2.1,r.2.2.2.2)]) (by refine ⟨?_,?_,rfl,rfl⟩ <;> repeat' (first | exact trivial | exact Or.inl rfl | exact Or.inr rfl | apply le1 | apply le2 | apply le3 | apply le4 | exact ⟨(by show (_:Nat) < 1000000000; omega),rfl,rfl⟩ | rfl | (refine And.intro (Or.inl ?_) ?_) | (refine And.intro ?_ ?_))) ⟨by omega,hyes ?_⟩ (by dsimp only; omega)⟩
      unfold keep6
      exact decide_eq_true (.inl h1)
  · rw [List.take_of_length_le (by omega)] at hL
    rw [hL]
end Go.Proofs.Ytefpgfdemmllpaa
namespace Go.Proofs.Ytefpgfdemmllpaa
attribute [local go_sem] litP appendC ne_eq not_false_eq_true
set_option maxHeartbeats 4000000
set_option maxRecDepth 100000
theorem c_Same6 (a b:List Rev.Res):PC env 18 [⟨.sl ResultT,a⟩,⟨.sl ResultT,b⟩] .bool (decide (a = b)):=by
  refine PC.of_PW (m:=2000) env_ok fn_18 rfl rfl rfl rfl (by kernel_rfl) ?_; intro hx; simp only [Try.f18]; simp only [go_sem,zA,↓reduceIte,↓reduceDIte,zB,zC,zD,zE,zF,zG,zH,zI]
  refine ⟨fun h => ?_,fun h => ?_⟩
  · symm; rw [decide_eq_false_iff_not]; rintro rfl; exact h rfl
  refine Walks.loopA (X:=Nat) (fun (k:Nat) => [(5,.iv (.int .i64) (k:Int))]) (fun (k:Nat) => []) (fun (k:Nat) => k ≤ a.length ∧ a.take k = b.take k) (fun (k:Nat) => a.length - k) 0 ?_; intro b1 b2 hb1 hb2; simp (config:={maxSteps:=4000000}) only [go_sem,zA,↓reduceIte,↓reduceDIte,zB,zC,zD,zE,zF,zG,zH,zI] at hb1 hb2; subst hb1; subst hb2; refine ⟨(by refine ⟨?_,?_,rfl,rfl⟩ <;> repeat' (first | exact trivial | exact Or.inl rfl | exact Or.inr rfl | apply le1 | apply le2 | apply le3 | apply le4 | exact ⟨(by show (_:Nat) < 1000000000; omega),rfl,rfl⟩ | rfl | (refine And.intro (Or.inl ?_) ?_) | (refine And.intro ?_ ?_))),?_,?_⟩
  · exact ⟨Nat.zero_le _,rfl⟩
  have hla:a.length ≤ 9223372036854775807:=hx.1.1
  intro k ⟨hk,he⟩ back
  refine PW_sound env_ok ⟨_,fn_18,rfl⟩ 2000 _ _ (by kernel_rfl) ?_; simp only [go_sem,zA,↓reduceIte,↓reduceDIte,zB,zC,zD,zE,zF,zG,zH,zI]
  refine ⟨fun h2 => ?_,fun h2 => ?_⟩
  · obtain ⟨x,hxi⟩:∃ x,a[k]? = some x:=get_of_lt (by omega)
    obtain ⟨y,hyi⟩:∃ y,b[k]? = some y:=get_of_lt (by omega)
    refine ⟨Int.natCast_nonneg _,x,hxi,Int.natCast_nonneg _,y,hyi,fun hn => ?_,fun hy => ?_⟩
    · symm; rw [decide_eq_false_iff_not]; rintro rfl
      rw [hxi] at hyi; injection hyi with hyi
      subst hyi
      exact hn ⟨rfl,rfl⟩
    · have hxy:x = y:=Prod.ext hy.1 hy.2
      subst hxy
      exact ⟨i64_ok (by omega) (by omega),back _ (k + 1) (by refine ⟨?_,?_,rfl,rfl⟩ <;> repeat' (first | exact trivial | exact Or.inl rfl | exact Or.inr rfl | apply le1 | apply le2 | apply le3 | apply le4 | exact ⟨(by show (_:Nat) < 1000000000; omega),rfl,rfl⟩ | rfl | (refine And.intro (Or.inl ?_) ?_) | (refine And.intro ?_ ?_))) ⟨by omega,by rw [take_snoc hxi,take_snoc hyi,he]⟩ (by omega)⟩
  · symm; rw [decide_eq_true_eq]
    exact take_eq he (by omega) (by omega)
end Go.Proofs.Ytefpgfdemmllpaa
namespace Go.Proofs.Ytefpgfdemmllpaa
attribute [local go_sem] litP appendC ne_eq not_false_eq_true
set_option maxHeartbeats 4000000
set_option maxRecDepth 100000
def six:Sch:=(1,1,[(0,0,[97],[65],1),(0,0,[98],[66],1),(0,0,[97,98],[65,66],1),(0,0,[99],[],0)])
theorem six_ok:OkS six:=⟨by decide,by decide,by decide,by decide,by decide,by decide,by decide⟩
theorem six_loop:Rev.NoLoop six.2.2:=by unfold Rev.NoLoop; decide
theorem six_v:(checkE six).2 = 0:=by rw [ok_check six_ok]
theorem six1:bestE six [65,66] 9 = ([([97,98],1)],0):=by decide +kernel
theorem six2:pairE six [97,98] [65,66] = ([2],0):=by decide +kernel
theorem six3:pairE six [97,99,98] [65,66] = ([0,3,1],0):=by decide +kernel
theorem six4:cheapE six [] = ([],0,0):=by decide +kernel
theorem six5:cheapE six [67] = ([],0,50):=by decide +kernel
theorem six6:bestE six [65,45] 9 = ([],1):=by decide +kernel
theorem six7:bestE six [65] 0 = ([],1):=by decide +kernel
theorem six8:pairE six [65] [65] = ([],1):=by decide +kernel
theorem six9:pairE six [97] [66] = ([],50):=by decide +kernel
theorem c_sanity6:PC env 9 [] .bool true:=by
  refine PC.of_PW (m:=2000) env_ok fn_9 rfl rfl rfl rfl (by kernel_rfl) ?_; intro hx; simp only [Try.f9]; simp only [go_sem,zA,↓reduceIte,↓reduceDIte,zB,zC,zD,zE,zF,zG,zH,zI]
  have h1:PC env 12 [⟨SchemeT,six⟩,⟨.str,[65,66]⟩,⟨.int .i64,9⟩] (.tup (.sl ResultT) (.int .i64)) ([([97,98],1)],0):=six1 ▸ c_Best six six_ok six_v [65,66] 9
  have h2:=six2 ▸ c_Pair six six_ok six_v six_loop [97,98] [65,66]
  have h3:=six3 ▸ c_Pair six six_ok six_v six_loop [97,99,98] [65,66]
  have h4:=six4 ▸ c_Cheapest six six_ok six_v []
  have h5:=six5 ▸ c_Cheapest six six_ok six_v [67]
  have h6:=six6 ▸ c_Best six six_ok six_v [65,45] 9
  have h7:=six7 ▸ c_Best six six_ok six_v [65] 0
  have h8:=six8 ▸ c_Pair six six_ok six_v six_loop [65] [65]
  have h9:=six9 ▸ c_Pair six six_ok six_v six_loop [97] [66]
  refine ⟨_,h1,fun _ => ⟨_,h2,fun _ => ⟨_,h3,fun _ => ⟨_,h4,fun _ => ⟨_,h5,fun _ => ⟨_,h6,fun _ => ⟨_,h7,fun _ => ⟨_,h8,fun _ => ⟨_,h9,fun _ => ?_⟩⟩⟩⟩⟩⟩⟩⟩⟩
  dsimp only
  refine ⟨fun _ => ⟨_,c_Same6 _ _,PK_cast (b':=true) (by decide) ?_⟩,fun h => absurd rfl h⟩
  simp only [go_sem,zA,↓reduceIte,↓reduceDIte,zB,zC,zD,zE,zF,zG,zH,zI]
  refine ⟨_,c_Ints _ _,PK_cast (b':=true) (by decide) ?_⟩
  simp only [go_sem,zA,↓reduceIte,↓reduceDIte,zB,zC,zD,zE,zF,zG,zH,zI]
  refine ⟨_,c_Ints _ _,PK_cast (b':=true) (by decide) ?_⟩
  simp only [go_sem,zA,↓reduceIte,↓reduceDIte,zB,zC,zD,zE,zF,zG,zH,zI]
  exact ⟨fun _ => trivial,fun h => absurd rfl h⟩
end Go.Proofs.Ytefpgfdemmllpaa
