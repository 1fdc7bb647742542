/- The law ReverseRefuses holds for every input. No condition. -/
import Derived.Test.YtefpgfdemmllpaaD6
import Derived.Test.YtefpgfdemmllpaaRows
set_option linter.unusedSimpArgs false
set_option linter.unusedVariables false
open Nat renaming reduceBEq → zA, reduceAdd → zB, reduceSub → zC, reduceMul → zD, reduceLeDiff → zE
open Int renaming reduceLT → zF, reduceLE → zG, reduceToNat → zH, reduceNeg → zI
namespace Go.Proofs.Ytefpgfdemmllpaa
attribute [local go_sem] litP appendC ne_eq not_false_eq_true
set_option maxHeartbeats 4000000
set_option maxRecDepth 100000
theorem best_err (s:Sch) (out:Str) (k:Int):(bestE s out k).2 = 1 ↔ (isTextB out = false ∨ k < 1 ∨ 50 < k):=by
  unfold bestE
  by_cases h:isTextB out = false ∨ k < 1 ∨ 50 < k
  · rw [if_pos h]; exact ⟨fun _ => h,fun _ => rfl⟩
  · rw [if_neg h]
    refine ⟨fun g => ?_,fun g => absurd g h⟩
    split at g
    · exact absurd (show (50:Int) = 1 from g) (by decide)
    · exact absurd (show (0:Int) = 1 from g) (by decide)
theorem pair_err (s:Sch) (inp out:Str):(pairE s inp out).2 = 1 ↔ (letB inp = false ∨ isTextB out = false):=by
  unfold pairE
  by_cases h:letB inp = false ∨ isTextB out = false
  · rw [if_pos h]; exact ⟨fun _ => h,fun _ => rfl⟩
  · rw [if_neg h]
    refine ⟨fun g => ?_,fun g => absurd g h⟩
    split at g
    · exact absurd (show (50:Int) = 1 from g) (by decide)
    · exact absurd (show (0:Int) = 1 from g) (by decide)
theorem law_Refuses (x:RawS) (out:Str) (w:Str × Str):PC env 7 [⟨RawT,x⟩,⟨.str,out⟩,⟨.st (.pair .str .str),w⟩] .bool true:=by
  refine PC.of_PW (m:=2000) env_ok fn_7 rfl rfl rfl rfl (by kernel_rfl) ?_; intro hx; simp only [Try.f7]; simp only [go_sem,zA,↓reduceIte,↓reduceDIte,zB,zC,zD,zE,zF,zG,zH,zI]
  obtain ⟨hok,hnl,_⟩:=made6_ok x
  have hv:(checkE (made6E x)).2 = 0:=by rw [ok_check hok]
  refine ⟨_,c_sanity6,_,c_Made6 x,fun _ => ⟨by omega,by omega,?_⟩⟩
  obtain ⟨w1,w2⟩:=w
  have e0:bestE (made6E x) [] 51 = ([],1):=by unfold bestE; rw [if_pos (by decide)]
  have e1 : cheapE (made6E x) (bytesOf "aaaaaaaaaaaaaaaaaaaaa".toUTF8) = ([], 0, 1) := by
    unfold cheapE bestE; rw [if_pos (.inl (by decide))]
  dsimp only
  generalize hin:List.take _ w1 = inp
  generalize hout:List.take _ out = o at *
  have hbe:∀ o,(decide ((bestE (made6E x) o 3).2 = 1) == isTextB o) = false:=fun o => by
    have:=best_err (made6E x) o 3
    cases h:isTextB o
    · rw [decide_eq_true (this.2 (.inl h))]; rfl
    · rw [decide_eq_false (fun g => by rcases this.1 g with g | g | g; · rw [h] at g; cases g
                                       · omega
                                       · omega)]; rfl
  have hpe:∀ o,decide ((pairE (made6E x) inp o).2 = 1) = !(letB inp && isTextB o):=fun o => by
    have:=pair_err (made6E x) inp o
    cases h:letB inp
    · rw [decide_eq_true (this.2 (.inl h))]; rfl
    · cases h':isTextB o
      · rw [decide_eq_true (this.2 (.inr h'))]; rfl
      · rw [decide_eq_false (fun g => by rcases this.1 g with g | g; · rw [h] at g; cases g
                                         · rw [h'] at g; cases g)]; rfl
  have hb0:=e0 ▸ c_Best (made6E x) hok hv [] 51
  have hb1 := e1 ▸ c_Cheapest (made6E x) hok hv (bytesOf "aaaaaaaaaaaaaaaaaaaaa".toUTF8)
  have hB:=fun o => c_Best (made6E x) hok hv o 3
  have hP:=fun o => c_Pair (made6E x) hok hv hnl inp o
  generalize made6E x = s at *
  generalize hbg:(fun o => bestE s o 3) = B at *
  have hbg':∀ o,bestE s o 3 = B o:=fun o => by rw [← hbg]
  simp only [hbg'] at hB hbe
  have hpg':∃ P:Str → List Int × Int,∀ o,pairE s inp o = P o:=⟨fun o => pairE s inp o,fun _ => rfl⟩
  obtain ⟨P,hpg'⟩:=hpg'
  simp only [hpg'] at hP hpe
  refine ⟨fun h4 => ⟨_,c_IsText2 o,?_⟩,fun h4 => ?_⟩
  cases ht:isTextB o
  · simp only [go_sem,zA,↓reduceIte,↓reduceDIte,zB,zC,zD,zE,zF,zG,zH,zI]
    generalize o = o' at *
    refine ⟨_,hB o',fun _ => ⟨_,hP o',fun _ => ⟨_,hb0,fun _ => ⟨_,hb1,fun _ => ⟨_,c_IsText2 o',PK_cast (b':=false) (hbe o') ?_⟩⟩⟩⟩⟩
    simp only [go_sem,zA,↓reduceIte,↓reduceDIte,zB,zC,zD,zE,zF,zG,zH,zI]
    have hp:=hpe o'
    have hl:=c_Letters2 inp
    have ht':=c_IsText2 o'
    cases hL:letB inp
    · rw [hL] at hp hl
      rw [Bool.false_and,Bool.not_false] at hp
      refine ⟨_,hl,?_⟩
      simp only [go_sem,zA,↓reduceIte,↓reduceDIte,zB,zC,zD,zE,zF,zG,zH,zI]
      rw [hp]
      refine PB_cast (b':=false) rfl ?_
      simp only [go_sem,zA,↓reduceIte,↓reduceDIte,zB,zC,zD,zE,zF,zG,zH,zI]
    · rw [hL] at hp hl
      rw [Bool.true_and] at hp
      refine ⟨_,hl,?_⟩
      simp only [go_sem,zA,↓reduceIte,↓reduceDIte,zB,zC,zD,zE,zF,zG,zH,zI]
      refine ⟨_,ht',?_⟩
      rw [hp]
      refine PB_cast (b':=false) (by cases isTextB o' <;> rfl) ?_
      simp only [go_sem,zA,↓reduceIte,↓reduceDIte,zB,zC,zD,zE,zF,zG,zH,zI]
  · simp only [go_sem,zA,↓reduceIte,↓reduceDIte,zB,zC,zD,zE,zF,zG,zH,zI]
    refine ⟨by omega,?_⟩
    generalize List.take _ o = o'
    refine ⟨_,hB o',fun _ => ⟨_,hP o',fun _ => ⟨_,hb0,fun _ => ⟨_,hb1,fun _ => ⟨_,c_IsText2 o',PK_cast (b':=false) (hbe o') ?_⟩⟩⟩⟩⟩
    simp only [go_sem,zA,↓reduceIte,↓reduceDIte,zB,zC,zD,zE,zF,zG,zH,zI]
    have hp:=hpe o'
    have hl:=c_Letters2 inp
    have ht':=c_IsText2 o'
    cases hL:letB inp
    · rw [hL] at hp hl
      rw [Bool.false_and,Bool.not_false] at hp
      refine ⟨_,hl,?_⟩
      simp only [go_sem,zA,↓reduceIte,↓reduceDIte,zB,zC,zD,zE,zF,zG,zH,zI]
      rw [hp]
      refine PB_cast (b':=false) rfl ?_
      simp only [go_sem,zA,↓reduceIte,↓reduceDIte,zB,zC,zD,zE,zF,zG,zH,zI]
    · rw [hL] at hp hl
      rw [Bool.true_and] at hp
      refine ⟨_,hl,?_⟩
      simp only [go_sem,zA,↓reduceIte,↓reduceDIte,zB,zC,zD,zE,zF,zG,zH,zI]
      refine ⟨_,ht',?_⟩
      rw [hp]
      refine PB_cast (b':=false) (by cases isTextB o' <;> rfl) ?_
      simp only [go_sem,zA,↓reduceIte,↓reduceDIte,zB,zC,zD,zE,zF,zG,zH,zI]
  · generalize o = o' at *
    refine ⟨_,hB o',fun _ => ⟨_,hP o',fun _ => ⟨_,hb0,fun _ => ⟨_,hb1,fun _ => ⟨_,c_IsText2 o',PK_cast (b':=false) (hbe o') ?_⟩⟩⟩⟩⟩
    simp only [go_sem,zA,↓reduceIte,↓reduceDIte,zB,zC,zD,zE,zF,zG,zH,zI]
    have hp:=hpe o'
    have hl:=c_Letters2 inp
    have ht':=c_IsText2 o'
    cases hL:letB inp
    · rw [hL] at hp hl
      rw [Bool.false_and,Bool.not_false] at hp
      refine ⟨_,hl,?_⟩
      simp only [go_sem,zA,↓reduceIte,↓reduceDIte,zB,zC,zD,zE,zF,zG,zH,zI]
      rw [hp]
      refine PB_cast (b':=false) rfl ?_
      simp only [go_sem,zA,↓reduceIte,↓reduceDIte,zB,zC,zD,zE,zF,zG,zH,zI]
    · rw [hL] at hp hl
      rw [Bool.true_and] at hp
      refine ⟨_,hl,?_⟩
      simp only [go_sem,zA,↓reduceIte,↓reduceDIte,zB,zC,zD,zE,zF,zG,zH,zI]
      refine ⟨_,ht',?_⟩
      rw [hp]
      refine PB_cast (b':=false) (by cases isTextB o' <;> rfl) ?_
      simp only [go_sem,zA,↓reduceIte,↓reduceDIte,zB,zC,zD,zE,zF,zG,zH,zI]
end Go.Proofs.Ytefpgfdemmllpaa
namespace Go.Proofs.Ytefpgfdemmllpaa
open Go.ChangeShapes Go.WideShapes Go.ChangeAt Go.RowKit
theorem own_none:ownKnob Try.prog.godebug = none:=by kernel_rfl
theorem laid_out:laidOutB env.P = true:=by kernel_rfl
theorem refuses_all (xs:List (Sigma Ty.den)) (h:xs.map (·.1) = [RawT,.str,.st (.pair .str .str)]):PC env 7 xs .bool true:=by
  match xs,h with
  | [⟨_,y0⟩,⟨_,y1⟩,⟨_,y2⟩],h =>
    injection h with h1 h
    injection h with h2 h
    injection h with h3 h
    dsimp only at h1 h2 h3
    subst h1 h2 h3
    exact law_Refuses y0 y1 y2
set_option maxRecDepth 100000 in
theorem refuses_lifted (os:Os) (started:os.Started) (H:Type) (enc:TypeId × Value → H) :
    ReturnsInHanded {} Try.checked os 7 .any (Rows.reverseRefusesSpec.pre6 enc Try.prog Try.f7 Rows.reverseRefusesRow.domain false) (Rows.reverseRefusesSpec.post enc Try.prog Try.f7 false true false false):=by
  refine returnsInHanded_of_change (C:=Try.checked) own_none started (by kernel_rfl) fn_7
    (ChangeSpec.witness6 (enc:=enc) (C:=Try.checked) false ⟨#[],#[.agg #[.int .u8 0,.int .u8 0,.slice none 0 0],.string ⟨#[]⟩,.agg #[.string ⟨#[]⟩,.string ⟨#[]⟩]],[]⟩ 8 (by kernel_rfl) (by kernel_rfl) (by kernel_rfl) (by kernel_rfl)) ?_
  intro W base args ds gs before hval hW _ _
  refine law_calls (E:=env) (b0:=base) (Ts:=[RawT,.str,.st (.pair .str .str)]) (tb:=4) env_ok laid_out (of_decide_eq_true (by kernel_rfl)) rfl rfl rfl (by kernel_rfl) rfl ?_ refuses_all (fun g hg => by cases hg) hval hW
  intro ds hds
  match ds,hds with
  | [d0,d1,d2],_ => rfl
theorem refuses_holds:Rows.ReverseRefusesSaid :=
  OpenClaim.holds_of_wide 7 Try.f7 rfl rfl rfl rfl rfl rfl rfl ⟨rfl,rfl,rfl,rfl,rfl⟩ rfl rfl rfl rfl rfl (by kernel_rfl) fn_7 (by kernel_rfl)
    (of_decide_eq_true (by kernel_rfl)) (by unfold Func.isWrapper; first | (rw [if_pos (by decide +kernel)]; kernel_rfl) | (rw [if_neg (by decide +kernel)]; exact ⟨rfl,rfl⟩))
    (fun os started H enc _ => refuses_lifted os started H enc)
end Go.Proofs.Ytefpgfdemmllpaa
