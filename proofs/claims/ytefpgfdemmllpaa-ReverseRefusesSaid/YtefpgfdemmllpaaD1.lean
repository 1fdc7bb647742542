/- Plain facts: the first of the cheapest routes between an input and a text. Nothing here is trusted; no condition. -/
import Derived.Test.YtefpgfdemmllpaaC5
set_option linter.unusedSimpArgs false
set_option linter.unusedVariables false
open Nat renaming reduceBEq → zA, reduceAdd → zB, reduceSub → zC, reduceMul → zD, reduceLeDiff → zE
open Int renaming reduceLT → zF, reduceLE → zG, reduceToNat → zH, reduceNeg → zI
namespace Go.Proofs.Ytefpgfdemmllpaa
attribute [local go_sem] litP appendC ne_eq not_false_eq_true
set_option maxHeartbeats 4000000
set_option maxRecDepth 100000
def headB (s:Sch):Bool:=inB s.1 1 8 && inB s.2.1 1 (2 ^ s.1.toNat - 1) && decide (s.2.2.length ≤ 64)
def chkL (n:Int) (l:List Rl):Nat → Nat → Int × Int
  | 0,_ => ((l.length:Int),0)
  | k + 1,i => if rightAt n l i = true then chkL n l k (i + 1) else ((i:Int),20)
def checkE (s:Sch):Int × Int:=if headB s = true then chkL s.1 s.2.2 s.2.2.length 0 else (-1,20)
theorem pow256:∀ m:Nat,m < 9 → (2:Int) ^ m ≤ 256:=by decide
theorem PK_cast {E:Env} {G:Goal} {n:Nat} {b b':Bool} {d:Nat} {want:Bool} {o:Oper} {all:List Oper} {N:List Nat} {acc:List (List Nat)} {os:List Oper} {k:List WI} {s:St} (h:b = b') (hp:PK E G n (.iv .bool b') d want o all N acc os k s):PK E G n (.iv .bool b) d want o all N acc os k s:=by rw [h]; exact hp
def clsE (c:Int):Int:=if 97 ≤ c ∧ c ≤ 122 then 1 else if 65 ≤ c ∧ c ≤ 90 then 2 else if 48 ≤ c ∧ c ≤ 57 then 3 else 0
theorem c_class (c:Int):PC env 86 [⟨.int .u8,c⟩] (.int .i64) (clsE c):=by
  refine PC.of_PW (m:=2000) env_ok fn_86 rfl rfl rfl rfl (by kernel_rfl) ?_; intro hx; simp only [Try.f86]; simp only [go_sem,zA,↓reduceIte,↓reduceDIte,zB,zC,zD,zE,zF,zG,zH,zI]
  unfold clsE
  repeat' (first | (with_reducible intro _) | (with_reducible apply And.intro))
  all_goals (split <;> first | rfl | omega | (split <;> first | rfl | omega | (split <;> first | rfl | omega)))
theorem cls_low (u:UInt8):(clsE u.toNat = 1) ↔ low u = true:=by
  unfold clsE low
  rw [decide_eq_true_eq]
  split
  · rename_i h; exact ⟨fun _ => by omega,fun _ => rfl⟩
  · rename_i h; split
    · exact ⟨fun h => by simp at h,fun h2 => by omega⟩
    · split
      · exact ⟨fun h => by simp at h,fun h2 => by omega⟩
      · exact ⟨fun h => by simp at h,fun h2 => by omega⟩
theorem cls_aln (u:UInt8):(clsE u.toNat = 0) ↔ aln u = false:=by
  unfold clsE aln
  rw [decide_eq_false_iff_not]
  split
  · rename_i h; exact ⟨fun h => by simp at h,fun h2 => absurd (by omega) h2⟩
  · split
    · rename_i h; exact ⟨fun h => by simp at h,fun h2 => absurd (by omega) h2⟩
    · split
      · rename_i h; exact ⟨fun h => by simp at h,fun h2 => absurd (by omega) h2⟩
      · exact ⟨fun _ => by omega,fun _ => rfl⟩
theorem c_allSmall (s:Str):PC env 65 [⟨.str,s⟩] .bool (s.all low):=by
  refine PC.of_PW (m:=2000) env_ok fn_65 rfl rfl rfl rfl (by kernel_rfl) ?_; intro hx; simp only [Try.f65]; simp only [go_sem,zA,↓reduceIte,↓reduceDIte,zB,zC,zD,zE,zF,zG,zH,zI]
  have hlen:s.length ≤ 9223372036854775807:=hx.1
  refine Walks.loopA (X:=Nat) (fun (i:Nat) => [(6,.iv (.int .i64) (i:Int)),(3,.any)]) (fun (i:Nat) => []) (fun (i:Nat) => i ≤ s.length ∧ (s.take i).all low = true) (fun (i:Nat) => s.length - i) 0 ?_; intro b1 b2 hb1 hb2; simp (config:={maxSteps:=4000000}) only [go_sem,zA,↓reduceIte,↓reduceDIte,zB,zC,zD,zE,zF,zG,zH,zI] at hb1 hb2; subst hb1; subst hb2; refine ⟨(by refine ⟨?_,?_,rfl,rfl⟩ <;> repeat' (first | exact trivial | exact Or.inl rfl | exact Or.inr rfl | apply le1 | apply le2 | apply le3 | apply le4 | exact ⟨(by show (_:Nat) < 1000000000; omega),rfl,rfl⟩ | rfl | (refine And.intro (Or.inl ?_) ?_) | (refine And.intro ?_ ?_))),?_,?_⟩
  · exact ⟨Nat.zero_le _,rfl⟩
  intro i ⟨hi,hb⟩ back
  refine PW_sound env_ok ⟨_,fn_65,rfl⟩ 2000 _ _ (by kernel_rfl) ?_; simp only [go_sem,zA,↓reduceIte,↓reduceDIte,zB,zC,zD,zE,zF,zG,zH,zI]
  refine ⟨fun h => ?_,fun h => ?_⟩
  · obtain ⟨x,hxi⟩:∃ x,s[i]? = some x:=get_of_lt (by omega)
    refine ⟨Int.natCast_nonneg _,_,⟨x,hxi,rfl⟩,_,c_class x.toNat,fun _ => ⟨fun g => ?_,fun g => ?_⟩⟩
    · rw [all_no hxi (by cases hl:low x with | false => rfl | true => exact absurd ((cls_low x).2 hl) g)]
    · exact ⟨i64_ok (by omega) (by omega),back _ (i + 1) (by refine ⟨?_,?_,rfl,rfl⟩ <;> repeat' (first | exact trivial | exact Or.inl rfl | exact Or.inr rfl | apply le1 | apply le2 | apply le3 | apply le4 | exact ⟨(by show (_:Nat) < 1000000000; omega),rfl,rfl⟩ | rfl | (refine And.intro (Or.inl ?_) ?_) | (refine And.intro ?_ ?_))) ⟨by omega,by rw [all_step hxi,hb,(cls_low x).1 (by omega)]; rfl⟩ (by omega)⟩
  · rw [List.take_of_length_le (by omega)] at hb
    rw [hb]
theorem c_allKnown (s:Str):PC env 74 [⟨.str,s⟩] .bool (s.all aln):=by
  refine PC.of_PW (m:=2000) env_ok fn_74 rfl rfl rfl rfl (by kernel_rfl) ?_; intro hx; simp only [Try.f74]; simp only [go_sem,zA,↓reduceIte,↓reduceDIte,zB,zC,zD,zE,zF,zG,zH,zI]
  have hlen:s.length ≤ 9223372036854775807:=hx.1
  refine Walks.loopA (X:=Nat) (fun (i:Nat) => [(6,.iv (.int .i64) (i:Int)),(3,.any)]) (fun (i:Nat) => []) (fun (i:Nat) => i ≤ s.length ∧ (s.take i).all aln = true) (fun (i:Nat) => s.length - i) 0 ?_; intro b1 b2 hb1 hb2; simp (config:={maxSteps:=4000000}) only [go_sem,zA,↓reduceIte,↓reduceDIte,zB,zC,zD,zE,zF,zG,zH,zI] at hb1 hb2; subst hb1; subst hb2; refine ⟨(by refine ⟨?_,?_,rfl,rfl⟩ <;> repeat' (first | exact trivial | exact Or.inl rfl | exact Or.inr rfl | apply le1 | apply le2 | apply le3 | apply le4 | exact ⟨(by show (_:Nat) < 1000000000; omega),rfl,rfl⟩ | rfl | (refine And.intro (Or.inl ?_) ?_) | (refine And.intro ?_ ?_))),?_,?_⟩
  · exact ⟨Nat.zero_le _,rfl⟩
  intro i ⟨hi,hb⟩ back
  refine PW_sound env_ok ⟨_,fn_74,rfl⟩ 2000 _ _ (by kernel_rfl) ?_; simp only [go_sem,zA,↓reduceIte,↓reduceDIte,zB,zC,zD,zE,zF,zG,zH,zI]
  refine ⟨fun h => ?_,fun h => ?_⟩
  · obtain ⟨x,hxi⟩:∃ x,s[i]? = some x:=get_of_lt (by omega)
    refine ⟨Int.natCast_nonneg _,_,⟨x,hxi,rfl⟩,_,c_class x.toNat,fun _ => ⟨fun g => ?_,fun g => ?_⟩⟩
    · rw [all_no hxi ((cls_aln x).1 g)]
    · exact ⟨i64_ok (by omega) (by omega),back _ (i + 1) (by refine ⟨?_,?_,rfl,rfl⟩ <;> repeat' (first | exact trivial | exact Or.inl rfl | exact Or.inr rfl | apply le1 | apply le2 | apply le3 | apply le4 | exact ⟨(by show (_:Nat) < 1000000000; omega),rfl,rfl⟩ | rfl | (refine And.intro (Or.inl ?_) ?_) | (refine And.intro ?_ ?_))) ⟨by omega,by rw [all_step hxi,hb]; cases hl:aln x with | true => rfl | false => exact absurd ((cls_aln x).2 hl) g⟩ (by omega)⟩
  · rw [List.take_of_length_le (by omega)] at hb
    rw [hb]
theorem c_right (n:Int) (r:Rl):PC env 75 [⟨.int .i64,n⟩,⟨RuleT,r⟩] .bool (rightR n r):=by
  obtain ⟨f,t,i,o,c⟩:=r
  refine PC.of_PW (m:=2000) env_ok fn_75 rfl rfl rfl rfl (by kernel_rfl) ?_; intro hx; simp only [Try.f75]; simp only [go_sem,zA,↓reduceIte,↓reduceDIte,zB,zC,zD,zE,zF,zG,zH,zI]
  have d3:=(c_allSmall i).dec
  have d4:=(c_allKnown o).dec
  have hR:rightR n (f,t,i,o,c) = (inB f 0 (n - 1) && inB t 0 (n - 1) && decide (i.length ≤ 4) && i.all low && decide (o.length ≤ 4) && o.all aln && inB c 0 1000):=rfl
  rw [hR]
  generalize i.all low = b3 at *
  generalize o.all aln = b4 at *
  repeat' (first | (with_reducible intro _) | (with_reducible apply And.intro) | (with_reducible refine ⟨_,d3,?_⟩; try simp only [go_sem,zA,↓reduceIte,↓reduceDIte,zB,zC,zD,zE,zF,zG,zH,zI]) | (with_reducible refine ⟨_,d4,?_⟩; try simp only [go_sem,zA,↓reduceIte,↓reduceDIte,zB,zC,zD,zE,zF,zG,zH,zI]) | fail)
  all_goals first | omega | (simp_all [inB]; try omega)
def ixL:List Rl → Rl → Nat → Int
  | [],_,_ => -1
  | x :: l,r,i => if r = x then (i:Int) else ixL l r (i + 1)
theorem ixL_mem {r:Rl}:∀ {l:List Rl} {i:Nat},(0 ≤ ixL l r i) ↔ r ∈ l
  | [],i => by simp [ixL]
  | x :: l,i => by
    unfold ixL
    split
    · rename_i h; subst h; simp
    · rename_i h; rw [ixL_mem]; simp [h]
theorem c_Index (l:List Rl) (r:Rl):PC env 88 [⟨.sl RuleT,l⟩,⟨RuleT,r⟩] (.int .i64) (ixL l r 0):=by
  refine PC.of_PW (m:=2000) env_ok fn_88 rfl rfl rfl rfl (by kernel_rfl) ?_; intro hx; simp only [Try.f88]; simp only [go_sem,zA,↓reduceIte,↓reduceDIte,zB,zC,zD,zE,zF,zG,zH,zI]
  have hlen:l.length ≤ 9223372036854775807:=hx.1.1
  obtain ⟨T,hT⟩:∃ T,T = ixL l r 0:=⟨_,rfl⟩
  rw [← hT]
  refine Walks.loopA (X:=Nat) (fun (i:Nat) => [(8,.iv (.int .i64) (i:Int)),(5,.any)]) (fun (i:Nat) => []) (fun (i:Nat) => i ≤ l.length ∧ ixL (l.drop i) r i = T) (fun (i:Nat) => l.length - i) 0 ?_; intro b1 b2 hb1 hb2; simp (config:={maxSteps:=4000000}) only [go_sem,zA,↓reduceIte,↓reduceDIte,zB,zC,zD,zE,zF,zG,zH,zI] at hb1 hb2; subst hb1; subst hb2; refine ⟨(by refine ⟨?_,?_,rfl,rfl⟩ <;> repeat' (first | exact trivial | exact Or.inl rfl | exact Or.inr rfl | apply le1 | apply le2 | apply le3 | apply le4 | exact ⟨(by show (_:Nat) < 1000000000; omega),rfl,rfl⟩ | rfl | (refine And.intro (Or.inl ?_) ?_) | (refine And.intro ?_ ?_))),?_,?_⟩
  · exact ⟨Nat.zero_le _,hT.symm⟩
  clear hT
  intro i ⟨hi,hT⟩ back
  refine PW_sound env_ok ⟨_,fn_88,rfl⟩ 2000 _ _ (by kernel_rfl) ?_; simp only [go_sem,zA,↓reduceIte,↓reduceDIte,zB,zC,zD,zE,zF,zG,zH,zI]
  refine ⟨fun h => ?_,fun h => ?_⟩
  · obtain ⟨x,hxi⟩:∃ x,l[i]? = some x:=get_of_lt (by omega)
    rw [drop_cons hxi,ixL] at hT
    refine ⟨Int.natCast_nonneg _,x,hxi,fun g => ?_,fun g => ?_⟩
    · rw [if_pos (by obtain ⟨e1,e2,e3,e4,e5⟩:=g; exact Prod.ext e1 (Prod.ext e2 (Prod.ext e3 (Prod.ext e4 e5))))] at hT
      exact hT
    · rw [if_neg (fun e => g (by subst e; exact ⟨rfl,rfl,rfl,rfl,rfl⟩))] at hT
      exact ⟨i64_ok (by omega) (by omega),back _ (i + 1) (by refine ⟨?_,?_,rfl,rfl⟩ <;> repeat' (first | exact trivial | exact Or.inl rfl | exact Or.inr rfl | apply le1 | apply le2 | apply le3 | apply le4 | exact ⟨(by show (_:Nat) < 1000000000; omega),rfl,rfl⟩ | rfl | (refine And.intro (Or.inl ?_) ?_) | (refine And.intro ?_ ?_))) ⟨by omega,hT⟩ (by omega)⟩
  · rw [List.drop_of_length_le (by omega)] at hT
    exact hT
theorem c_Contains (l:List Rl) (r:Rl):PC env 76 [⟨.sl RuleT,l⟩,⟨RuleT,r⟩] .bool (decide (r ∈ l)):=by
  refine PC.of_PW (m:=2000) env_ok fn_76 rfl rfl rfl rfl (by kernel_rfl) ?_; intro hx; simp only [Try.f76]; simp only [go_sem,zA,↓reduceIte,↓reduceDIte,zB,zC,zD,zE,zF,zG,zH,zI]
  refine ⟨_,c_Index l r,fun _ => ?_⟩
  exact decide_eq_decide.2 ixL_mem
theorem c_Check (s:Sch):PC env 52 [⟨SchemeT,s⟩] (.tup (.int .i64) (.int .i64)) (checkE s):=by
  obtain ⟨n,a,rs⟩:=s
  refine PC.of_PW (m:=2000) env_ok fn_52 rfl rfl rfl rfl (by kernel_rfl) ?_; intro hx; simp only [Try.f52]; simp only [go_sem,zA,↓reduceIte,↓reduceDIte,zB,zC,zD,zE,zF,zG,zH,zI]
  have hno:headB (n,a,rs) = false → ((-1:Int),(20:Int)) = checkE (n,a,rs):=fun h => by unfold checkE; rw [h]; rfl
  have hd:headB (n,a,rs) = (inB n 1 8 && inB a 1 (2 ^ n.toNat - 1) && decide (rs.length ≤ 64)):=rfl
  refine ⟨fun g1 => ⟨fun g2 => ⟨fun g3 => hno ?_,fun g3 => ⟨fun g4 => ?_,fun g4 => hno ?_⟩⟩,fun g2 => hno ?_⟩,fun g1 => hno ?_⟩
  · rw [hd]; simp; omega
  · have hpow:(2:Int) ^ n.toNat ≤ 256:=pow256 _ (by omega)
    have hpow1:(0:Int) < 2 ^ n.toNat:=Int.pow_pos (by decide)
    refine ⟨⟨by omega,by omega⟩,i64_ok (by omega) (by omega),fun g5 => hno ?_,fun g5 => ?_⟩
    · rw [hd]; simp [inB]; omega
    · have hh:headB (n,a,rs) = true:=by rw [hd]; simp [inB]; omega
      have hE:checkE (n,a,rs) = chkL n rs rs.length 0:=by simp [checkE,hh]
      rw [hE]
      obtain ⟨T,hT⟩:∃ T,T = chkL n rs rs.length 0:=⟨_,rfl⟩
      rw [← hT]
      clear hno hd hh hE
      refine Walks.loopA (X:=Nat) (fun (z:Nat) => [(35,.iv (.int .i64) (z:Int)),(4,.any),(5,.any)]) (fun (z:Nat) => []) (fun (z:Nat) => z ≤ rs.length ∧ chkL n rs (rs.length - z) z = T) (fun (z:Nat) => rs.length - z) 0 ?_; intro b1 b2 hb1 hb2; simp (config:={maxSteps:=4000000}) only [go_sem,zA,↓reduceIte,↓reduceDIte,zB,zC,zD,zE,zF,zG,zH,zI] at hb1 hb2; subst hb1; subst hb2; refine ⟨(by refine ⟨?_,?_,rfl,rfl⟩ <;> repeat' (first | exact trivial | exact Or.inl rfl | exact Or.inr rfl | apply le1 | apply le2 | apply le3 | apply le4 | exact ⟨(by show (_:Nat) < 1000000000; omega),rfl,rfl⟩ | rfl | (refine And.intro (Or.inl ?_) ?_) | (refine And.intro ?_ ?_))),?_,?_⟩
      · exact ⟨Nat.zero_le _,hT.symm⟩
      clear hT
      intro i ⟨hi,hT⟩ back
      refine PW_sound env_ok ⟨_,fn_52,rfl⟩ 2000 _ _ (by kernel_rfl) ?_; simp only [go_sem,zA,↓reduceIte,↓reduceDIte,zB,zC,zD,zE,zF,zG,zH,zI]
      refine ⟨fun g6 => ?_,fun g6 => ?_⟩
      · obtain ⟨r,hr⟩:∃ r,rs[i]? = some r:=get_of_lt (by omega)
        have e:rs.length - i = (rs.length - (i + 1)) + 1:=by omega
        rw [e,chkL] at hT
        have hat:rightAt n rs i = (decide (r ∉ rs.take i) && rightR n r):=by unfold rightAt; rw [hr]
        rw [hat] at hT
        refine ⟨Int.natCast_nonneg _,r,hr,_,c_right n r,?_⟩
        cases hq:rightR n r
        · rw [hq,Bool.and_false] at hT
          refine PK_cast (b':=true) rfl ?_
          simp only [go_sem,zA,↓reduceIte,↓reduceDIte,zB,zC,zD,zE,zF,zG,zH,zI]
          exact hT
        · rw [hq,Bool.and_true] at hT
          refine PK_cast (b':=false) rfl ?_
          simp only [go_sem,zA,↓reduceIte,↓reduceDIte,zB,zC,zD,zE,zF,zG,zH,zI]
          refine ⟨⟨by omega,by omega⟩,_,c_Contains (rs.take i) r,?_⟩
          simp only [go_sem,zA,↓reduceIte,↓reduceDIte,zB,zC,zD,zE,zF,zG,zH,zI]
          refine ⟨fun g => ?_,fun g => ?_⟩
          · rw [decide_eq_false (by simpa using g)] at hT
            exact hT
          · rw [decide_eq_true g] at hT
            exact ⟨i64_ok (by omega) (by omega),back _ (i + 1) (by refine ⟨?_,?_,rfl,rfl⟩ <;> repeat' (first | exact trivial | exact Or.inl rfl | exact Or.inr rfl | apply le1 | apply le2 | apply le3 | apply le4 | exact ⟨(by show (_:Nat) < 1000000000; omega),rfl,rfl⟩ | rfl | (refine And.intro (Or.inl ?_) ?_) | (refine And.intro ?_ ?_))) ⟨by omega,hT⟩ (by omega)⟩
      · have e:rs.length - i = 0:=by omega
        rw [e,chkL] at hT
        exact hT
  · rw [hd]; simp [inB]; omega
  · rw [hd]; simp [inB]; omega
  · rw [hd]; simp [inB]; omega
theorem c_Valid (s:Sch):PC env 31 [⟨SchemeT,s⟩] .bool (decide ((checkE s).2 = 0)):=by
  refine PC.of_PW (m:=2000) env_ok fn_31 rfl rfl rfl rfl (by kernel_rfl) ?_; intro hx; simp only [Try.f31]; simp only [go_sem,zA,↓reduceIte,↓reduceDIte,zB,zC,zD,zE,zF,zG,zH,zI]
  refine ⟨_,c_Check s,fun _ => ?_⟩
  rfl
def letB (s:Str):Bool:=decide (s.length ≤ 40) && s.all low
def wordB (s:Str):Bool:=decide (1 ≤ s.length ∧ s.length ≤ 20) && s.all aln
theorem c_Letters (s:Str):PC env 40 [⟨.str,s⟩] .bool (letB s):=by
  refine PC.of_PW (m:=2000) env_ok fn_40 rfl rfl rfl rfl (by kernel_rfl) ?_; intro hx; simp only [Try.f40]; simp only [go_sem,zA,↓reduceIte,↓reduceDIte,zB,zC,zD,zE,zF,zG,zH,zI]
  have d:=(c_allSmall s).dec
  unfold letB
  generalize s.all low = b at *
  repeat' (first | (with_reducible intro _) | (with_reducible apply And.intro) | (with_reducible refine ⟨_,d,?_⟩; try simp only [go_sem,zA,↓reduceIte,↓reduceDIte,zB,zC,zD,zE,zF,zG,zH,zI]) | fail)
  all_goals first | omega | (simp_all; try omega)
theorem c_Letters2 (s:Str):PC env 27 [⟨.str,s⟩] .bool (letB s):=by
  refine PC.of_PW (m:=2000) env_ok fn_27 rfl rfl rfl rfl (by kernel_rfl) ?_; intro hx; simp only [Try.f27]; simp only [go_sem,zA,↓reduceIte,↓reduceDIte,zB,zC,zD,zE,zF,zG,zH,zI]
  have d:=(c_Small s).dec
  unfold letB
  generalize s.all low = b at *
  repeat' (first | (with_reducible intro _) | (with_reducible apply And.intro) | (with_reducible refine ⟨_,d,?_⟩; try simp only [go_sem,zA,↓reduceIte,↓reduceDIte,zB,zC,zD,zE,zF,zG,zH,zI]) | fail)
  all_goals first | omega | (simp_all; try omega)
theorem c_Word (s:Str):PC env 51 [⟨.str,s⟩] .bool (wordB s):=by
  refine PC.of_PW (m:=2000) env_ok fn_51 rfl rfl rfl rfl (by kernel_rfl) ?_; intro hx; simp only [Try.f51]; simp only [go_sem,zA,↓reduceIte,↓reduceDIte,zB,zC,zD,zE,zF,zG,zH,zI]
  have d:=(c_allKnown s).dec
  unfold wordB
  generalize s.all aln = b at *
  repeat' (first | (with_reducible intro _) | (with_reducible apply And.intro) | (with_reducible refine ⟨_,d,?_⟩; try simp only [go_sem,zA,↓reduceIte,↓reduceDIte,zB,zC,zD,zE,zF,zG,zH,zI]) | fail)
  all_goals first | omega | (simp_all; try omega)
theorem rightAt_ok {s:Sch} (hs:OkS s) {i:Nat} (hi:i < s.2.2.length):rightAt s.1 s.2.2 i = true:=by
  obtain ⟨r,hr⟩:∃ r,s.2.2[i]? = some r:=get_of_lt hi
  unfold rightAt
  rw [hr]
  dsimp only
  rw [Bool.and_eq_true,decide_eq_true_eq]
  refine ⟨fun hm => ?_,hs.right r (List.mem_of_getElem? hr)⟩
  obtain ⟨j,hj⟩:=List.getElem?_of_mem hm
  have hji:j < i:=by
    have:=(List.getElem?_eq_some_iff.1 hj).1
    rw [List.length_take] at this; omega
  rw [List.getElem?_take_of_lt hji] at hj
  obtain ⟨h1,e1⟩:=List.getElem?_eq_some_iff.1 hj
  obtain ⟨h2,e2⟩:=List.getElem?_eq_some_iff.1 hr
  exact List.pairwise_iff_getElem.1 hs.nodup j i h1 h2 hji (by rw [e1,e2])
theorem chkL_all {n:Int} {l:List Rl}:∀ {k i:Nat},(∀ j,i ≤ j → j < i + k → rightAt n l j = true) → chkL n l k i = ((l.length:Int),0)
  | 0,i,_ => rfl
  | k + 1,i,h => by
    unfold chkL
    rw [if_pos (h i (Nat.le_refl _) (by omega))]
    exact chkL_all fun j h1 h2 => h j (by omega) (by omega)
theorem head_ok {s:Sch} (hs:OkS s):headB s = true:=by
  simp only [headB,inB,Bool.and_eq_true,decide_eq_true_eq]
  exact ⟨⟨⟨hs.n1,hs.n8⟩,hs.a1,hs.a2⟩,hs.len⟩
theorem ok_check {s:Sch} (hs:OkS s):checkE s = ((s.2.2.length:Int),0):=by
  unfold checkE
  rw [if_pos (head_ok hs)]
  exact chkL_all fun j _ h => rightAt_ok hs (by omega)
end Go.Proofs.Ytefpgfdemmllpaa
namespace Go.Proofs.Ytefpgfdemmllpaa.Rev
set_option maxHeartbeats 1000000
abbrev Str:=List UInt8
abbrev Rl:=Int × Int × Str × Str × Int
abbrev Spot:=Int × Int × Int
abbrev Price:=Int × Int
def hasBit (s m:Int):Bool:=decide (s.toNat / 2 ^ m.toNat % 2 = 1)
def bitOf (m:Int):Int:=((2 ^ m.toNat:Nat):Int)
def afterE (out:Str) (p:Spot) (r:Rl):Option Spot :=
  if r.1 = p.2.1 ∧ r.2.2.2.1.isPrefixOf (out.drop p.1.toNat) = true then
    if r.2.2.2.1 ≠ [] then some (p.1 + (r.2.2.2.1.length:Int),r.2.1,bitOf r.2.1)
    else if hasBit p.2.2 r.2.1 = false then some (p.1,r.2.1,p.2.2 + bitOf r.2.1) else none
  else none
structure OkR (rs:List Rl):Prop where
  mode:∀ r,r ∈ rs → 0 ≤ r.2.1 ∧ r.2.1 < 8
  cost:∀ r,r ∈ rs → 0 ≤ r.2.2.2.2 ∧ r.2.2.2.2 ≤ 1000
  inn:∀ r,r ∈ rs → r.2.2.1.length ≤ 4
structure OkP (out:Str) (p:Spot):Prop where
  at0:0 ≤ p.1
  at1:p.1 ≤ out.length
  seen:0 ≤ p.2.2 ∧ p.2.2 < 256
def ms (out:Str) (p:Spot):Nat:=(out.length - p.1.toNat) * 256 + (255 - p.2.2.toNat)
theorem bit_pos (m:Int):1 ≤ bitOf m:=by
  unfold bitOf
  have:0 < 2 ^ m.toNat:=Nat.pos_of_ne_zero (by simp)
  omega
theorem bit_lt {m:Int} (h:m < 8):bitOf m ≤ 128:=by
  unfold bitOf
  have h1:m.toNat ≤ 7:=by omega
  have:2 ^ m.toNat ≤ 2 ^ 7:=Nat.pow_le_pow_right (by decide) h1
  have e:2 ^ 7 = 128:=by decide
  omega
theorem add_bit_lt {s:Nat} (hs:s < 256):∀ m:Nat,m < 8 → s / 2 ^ m % 2 = 0 → s + 2 ^ m < 256:=by
  intro m hm h
  have h8:m = 0 ∨ m = 1 ∨ m = 2 ∨ m = 3 ∨ m = 4 ∨ m = 5 ∨ m = 6 ∨ m = 7:=by omega
  rcases h8 with rfl | rfl | rfl | rfl | rfl | rfl | rfl | rfl <;> simp only [Nat.reducePow] at h ⊢ <;> omega
theorem after_ok {out:Str} {p q:Spot} {r:Rl} (hp:OkP out p) (hm:0 ≤ r.2.1 ∧ r.2.1 < 8) (h:afterE out p r = some q):OkP out q ∧ ms out q < ms out p ∧ q.2.1 = r.2.1:=by
  obtain ⟨a0,a1,s0,s1⟩:=hp
  unfold afterE at h
  split at h
  case isFalse => cases h
  rename_i h1
  obtain ⟨h1,h2⟩:=h1
  split at h
  · rename_i h3
    injection h with h
    subst h
    have hb:=bit_pos r.2.1
    have hb2:=bit_lt hm.2
    have hpre:=List.isPrefixOf_iff_prefix.1 h2
    have hl:=hpre.length_le
    rw [List.length_drop] at hl
    have hne:0 < r.2.2.2.1.length:=List.length_pos_iff.2 h3
    refine ⟨⟨by dsimp only; omega,by dsimp only; omega,by dsimp only; omega,by dsimp only; omega⟩,?_,rfl⟩
    unfold ms
    dsimp only
    have e:(p.1 + (r.2.2.2.1.length:Int)).toNat = p.1.toNat + r.2.2.2.1.length:=by omega
    rw [e]
    have e2:out.length - p.1.toNat = (out.length - (p.1.toNat + r.2.2.2.1.length)) + r.2.2.2.1.length:=by omega
    rw [e2,Nat.add_mul]
    have:1 * 256 ≤ r.2.2.2.1.length * 256:=Nat.mul_le_mul_right _ hne
    omega
  · split at h
    · rename_i h3 h4
      injection h with h
      subst h
      have hb:=bit_pos r.2.1
      unfold hasBit at h4
      have h4':=of_decide_eq_false h4
      have hlt:=add_bit_lt (s:=p.2.2.toNat) (by omega) r.2.1.toNat (by omega) (by omega)
      have hbe:bitOf r.2.1 = ((2 ^ r.2.1.toNat:Nat):Int):=rfl
      refine ⟨⟨a0,a1,by dsimp only; omega,by dsimp only; omega⟩,?_,rfl⟩
      unfold ms
      dsimp only
      omega
    · cases h
def endsE (acc:Int) (out:Str) (p:Spot):Bool:=decide (p.1 = out.length) && hasBit acc p.2.1
inductive Path (rs:List Rl) (acc:Int) (out:Str):Spot → Str → Int → Prop where
  | done {p:Spot} (h:endsE acc out p = true):Path rs acc out p [] 0
  | step {p q:Spot} {r:Rl} {x:Str} {c:Int} (hr:r ∈ rs) (h:afterE out p r = some q) (hp:Path rs acc out q x c):Path rs acc out p (r.2.2.1 ++ x) (r.2.2.2.2 + c)
inductive Thr (rs:List Rl) (out:Str):Str → Spot → Str → Int → Prop where
  | start:Thr rs out [] (0,0,1) [] 0
  | rule {x:Str} {p q:Spot} {r:Rl} {c:Int} (ht:Thr rs out x p [] c) (hr:r ∈ rs) (h:afterE out p r = some q):Thr rs out x q r.2.2.1 (c + r.2.2.2.2)
  | eat {x:Str} {p:Spot} {a:UInt8} {m:Str} {c:Int} (ht:Thr rs out x p (a :: m) c):Thr rs out (x ++ [a]) p m c
def Inp (rs:List Rl) (acc:Int) (out:Str) (x:Str) (c:Int):Prop:=Path rs acc out (0,0,1) x c
variable {rs:List Rl} {acc:Int} {out:Str}
theorem start_ok (out:Str):OkP out (0,0,1):=⟨by decide,by show (0:Int) ≤ (out.length:Int); omega,by decide,by decide⟩
theorem thr_ok (h:OkR rs) {x m:Str} {p:Spot} {c:Int} (ht:Thr rs out x p m c):OkP out p:=by
  induction ht with
  | start => exact start_ok out
  | rule _ hr ha ih => exact (after_ok ih (h.mode _ hr) ha).1
  | eat _ ih => exact ih
theorem thr_cost (h:OkR rs) {x m:Str} {p:Spot} {c:Int} (ht:Thr rs out x p m c):0 ≤ c:=by
  induction ht with
  | start => exact Int.le_refl _
  | rule _ hr _ ih => have:=(h.cost _ hr).1; omega
  | eat _ ih => exact ih
theorem path_cost (h:OkR rs) {p:Spot} {x:Str} {c:Int} (hp:Path rs acc out p x c):0 ≤ c:=by
  induction hp with
  | done => exact Int.le_refl _
  | step hr _ _ ih => have:=(h.cost _ hr).1; omega
theorem thr_path {x m:Str} {p:Spot} {c:Int} (ht:Thr rs out x p m c):∀ {y:Str} {d:Int},Path rs acc out p y d → Inp rs acc out (x ++ m ++ y) (c + d):=by
  induction ht with
  | start => intro y d h; simpa [Inp] using h
  | @rule x p q r c _ hr ha ih =>
    intro y d h
    have:=ih (Path.step hr ha h)
    rw [List.append_nil] at this
    rw [List.append_assoc,Int.add_assoc]
    exact this
  | @eat x p a m c _ ih =>
    intro y d h
    have:=ih h
    simpa using this
theorem thr_eat {x:Str} {p:Spot}:∀ {m:Str} {c:Int},Thr rs out x p m c → Thr rs out (x ++ m) p [] c
  | m,c,h => by
    induction m generalizing x with
    | nil => simpa using h
    | cons a m ih =>
      have:=ih h.eat
      simpa using this
theorem path_cut {z x:Str} {p:Spot} {c d:Int} (hp:Path rs acc out p z d):∀ {x0:Str},Thr rs out x0 p [] c → ∀ {x1 y:Str},z = x1 ++ y → ∃ q m e f y',Thr rs out (x0 ++ x1) q m e ∧ Path rs acc out q y' f ∧ y = m ++ y' ∧ e + f = c + d:=by
  induction hp generalizing c with
  | @done p h =>
    intro x0 ht x1 y hz
    obtain ⟨rfl,rfl⟩:=List.append_eq_nil_iff.1 hz.symm
    exact ⟨p,[],c,0,[],by simpa using ht,.done h,rfl,rfl⟩
  | @step p q r x c' hr ha _ ih =>
    intro x0 ht x1 y hz
    rename_i hq
    have ht':=Thr.rule ht hr ha
    rcases List.append_eq_append_iff.1 hz with ⟨t,h1,h2⟩ | ⟨t,h1,h2⟩
    · -- the rule's letters lie within x1
      have:=ih (thr_eat ht') h2
      obtain ⟨q',m,e,f,y',k1,k2,k3,k4⟩:=this
      refine ⟨q',m,e,f,y',?_,k2,k3,by omega⟩
      rw [h1,← List.append_assoc]
      exact k1
    · -- x1 ends within the rule's letters
      have hth:∀ (x1 t:Str) (x0:Str),Thr rs out x0 q (x1 ++ t) (c + r.2.2.2.2) → Thr rs out (x0 ++ x1) q t (c + r.2.2.2.2):=by
        intro x1
        induction x1 with
        | nil => intro t x0 h; simpa using h
        | cons a x1 ih2 =>
          intro t x0 h
          have:=ih2 t (x0 ++ [a]) h.eat
          simpa using this
      rw [h1] at ht'
      exact ⟨q,t,c + r.2.2.2.2,c',x,hth x1 t x0 ht',hq,h2,by omega⟩
theorem inp_cut {x y:Str} {c:Int} (h:Inp rs acc out (x ++ y) c):∃ q m e f y',Thr rs out x q m e ∧ Path rs acc out q y' f ∧ y = m ++ y' ∧ e + f = c:=by
  obtain ⟨q,m,e,f,y',h1,h2,h3,h4⟩:=path_cut (x:=x) h Thr.start (x1:=x) (y:=y) rfl
  exact ⟨q,m,e,f,y',by simpa using h1,h2,h3,by omega⟩
end Go.Proofs.Ytefpgfdemmllpaa.Rev
namespace Go.Proofs.Ytefpgfdemmllpaa.Rev
set_option maxHeartbeats 1000000
def lessP (p q:Price):Bool:=decide (p.1 < q.1 ∨ p.1 = q.1 ∧ p.2 < q.2)
def plusP (p q:Price):Price:=(p.1 + q.1,p.2 + q.2)
theorem lessP_iff {p q:Price}:lessP p q = true ↔ (p.1 < q.1 ∨ p.1 = q.1 ∧ p.2 < q.2):=by simp [lessP]
theorem lessP_no {p q:Price}:lessP p q = false ↔ ¬ (p.1 < q.1 ∨ p.1 = q.1 ∧ p.2 < q.2):=by simp [lessP]
theorem lessP_irr (p:Price):lessP p p = false:=by rw [lessP_no]; omega
def IsMin (S:Price → Prop) (o:Option Price):Prop:=match o with
  | none => ∀ p,¬ S p
  | some m => S m ∧ ∀ p,S p → lessP p m = false
theorem min_uniq {S:Price → Prop} {a b:Option Price} (ha:IsMin S a) (hb:IsMin S b):a = b:=by
  cases a with
  | none => cases b with
    | none => rfl
    | some m => exact absurd hb.1 (ha m)
  | some m => cases b with
    | none => exact absurd ha.1 (hb m)
    | some k =>
      have h1:=lessP_no.1 (ha.2 k hb.1)
      have h2:=lessP_no.1 (hb.2 m ha.1)
      congr 1
      exact Prod.ext (by omega) (by omega)
theorem min_congr {S T:Price → Prop} {o:Option Price} (h:∀ p,S p ↔ T p) (ho:IsMin S o):IsMin T o:=by
  cases o with
  | none => exact fun p hp => ho p ((h p).2 hp)
  | some m => exact ⟨(h m).1 ho.1,fun p hp => ho.2 p ((h p).2 hp)⟩
def better (best g:Option Price):Option Price:=match g,best with
  | none,b => b
  | some x,none => some x
  | some x,some b => if lessP x b = true then some x else some b
theorem better_min {S T:Price → Prop} {a b:Option Price} (ha:IsMin S a) (hb:IsMin T b):IsMin (fun p => S p ∨ T p) (better a b):=by
  cases b with
  | none =>
    cases a with
    | none => exact fun p hp => hp.elim (ha p) (hb p)
    | some m => exact ⟨.inl ha.1,fun p hp => hp.elim (ha.2 p) (fun h => absurd h (hb p))⟩
  | some k =>
    cases a with
    | none => exact ⟨.inr hb.1,fun p hp => hp.elim (fun h => absurd h (ha p)) (hb.2 p)⟩
    | some m =>
      unfold better
      dsimp only
      split
      · rename_i h
        rw [lessP_iff] at h
        refine ⟨.inr hb.1,fun p hp => ?_⟩
        rcases hp with h1 | h1
        · have:=lessP_no.1 (ha.2 p h1)
          rw [lessP_no]; omega
        · exact hb.2 p h1
      · rename_i h
        have h:=lessP_no.1 (Bool.eq_false_iff.2 h)
        refine ⟨.inl ha.1,fun p hp => ?_⟩
        rcases hp with h1 | h1
        · exact ha.2 p h1
        · have:=lessP_no.1 (hb.2 p h1)
          rw [lessP_no]; omega
theorem fold_min {α:Type} {f:α → Option Price} {S:α → Price → Prop}:∀ (l:List α) {T:Price → Prop} {b:Option Price},IsMin T b → (∀ r,r ∈ l → IsMin (S r) (f r)) → IsMin (fun p => T p ∨ ∃ r,r ∈ l ∧ S r p) (l.foldl (fun b r => better b (f r)) b)
  | [],T,b,hb,_ => min_congr (fun p => by simp) hb
  | r :: l,T,b,hb,h => by
    rw [List.foldl_cons]
    refine min_congr (fun p => ?_) (fold_min l (better_min hb (h r (List.mem_cons_self ..))) (fun q hq => h q (List.mem_cons_of_mem _ hq)))
    constructor
    · rintro ((h1 | h1) | ⟨q,h1,h2⟩)
      · exact .inl h1
      · exact .inr ⟨r,List.mem_cons_self ..,h1⟩
      · exact .inr ⟨q,List.mem_cons_of_mem _ h1,h2⟩
    · rintro (h1 | ⟨q,h1,h2⟩)
      · exact .inl (.inl h1)
      · rcases List.mem_cons.1 h1 with rfl | h1
        · exact .inl (.inr h2)
        · exact .inr ⟨q,h1,h2⟩
def addP (g:Option Price) (p:Price):Option Price:=match g with | none => none | some x => some (plusP x p)
theorem addP_min {S:Price → Prop} {g:Option Price} (h:IsMin S g) (p:Price):IsMin (fun q => ∃ s,S s ∧ q = plusP s p) (addP g p):=by
  cases g with
  | none => rintro q ⟨s,hs,_⟩; exact h s hs
  | some m =>
    refine ⟨⟨m,h.1,rfl⟩,?_⟩
    rintro q ⟨s,hs,rfl⟩
    have:=lessP_no.1 (h.2 s hs)
    rw [lessP_no]
    unfold plusP
    dsimp only
    omega
def viaE (out:Str) (goal:Spot → Int → Option Price) (p:Spot) (L:Int) (r:Rl):Option Price:=match afterE out p r with
  | none => none
  | some q => addP (goal q (L - (r.2.2.1.length:Int))) (r.2.2.2.2,(r.2.2.1.length:Int))
def goalF (rs:List Rl) (acc:Int) (out:Str):Nat → Spot → Int → Option Price
  | 0,_,_ => none
  | n + 1,p,L => if L < 0 then none else if endsE acc out p = true then some (0,0) else rs.foldl (fun b r => better b (viaE out (goalF rs acc out n) p L r)) none
def goalS (rs:List Rl) (acc:Int) (out:Str) (p:Spot) (L:Int) (pr:Price):Prop:=∃ x c,Path rs acc out p x c ∧ (x.length:Int) ≤ L ∧ pr = (c,(x.length:Int))
variable {rs:List Rl} {acc:Int} {out:Str}
theorem goal_min (h:OkR rs):∀ (n:Nat) (p:Spot) (L:Int),OkP out p → ms out p < n → IsMin (goalS rs acc out p L) (goalF rs acc out n p L):=by
  intro n
  induction n with
  | zero => intro _ _ _ hn; exact absurd hn (Nat.not_lt_zero _)
  | succ n ih =>
    intro p L hp hn
    rw [goalF]
    split
    · rintro pr ⟨x,c,_,hl,_⟩
      omega
    · rename_i hL
      split
      · rename_i he
        refine ⟨⟨[],0,.done he,by simp; omega,by simp⟩,?_⟩
        rintro pr ⟨x,c,hpa,hl,rfl⟩
        have:=path_cost h hpa
        rw [lessP_no]
        dsimp only
        omega
      · rename_i he
        have hv:∀ r,r ∈ rs → IsMin (fun pr => ∃ q,afterE out p r = some q ∧ ∃ s,goalS rs acc out q (L - (r.2.2.1.length:Int)) s ∧ pr = plusP s (r.2.2.2.2,(r.2.2.1.length:Int))) (viaE out (goalF rs acc out n) p L r):=fun r hr => by
          unfold viaE
          cases ha:afterE out p r with
          | none => rintro pr ⟨q,hq,_⟩; cases hq
          | some q =>
            obtain ⟨k1,k2,_⟩:=after_ok hp (h.mode r hr) ha
            refine min_congr (fun pr => ?_) (addP_min (ih q (L - (r.2.2.1.length:Int)) k1 (by omega)) (r.2.2.2.2,(r.2.2.1.length:Int)))
            constructor
            · intro hh; exact ⟨q,rfl,hh⟩
            · rintro ⟨q',hq',hh⟩
              injection hq' with hq'
              subst hq'
              exact hh
        have hf:=fold_min rs (T:=fun _ => False) (b:=none) (fun p hp => hp) hv
        refine min_congr (fun pr => ?_) hf
        constructor
        · rintro (h1 | ⟨r,hr,q,ha,s,⟨x,c,hpa,hl,rfl⟩,rfl⟩)
          · exact h1.elim
          · refine ⟨r.2.2.1 ++ x,r.2.2.2.2 + c,.step hr ha hpa,by rw [List.length_append]; omega,?_⟩
            unfold plusP
            rw [List.length_append]
            refine Prod.ext ?_ ?_ <;> dsimp only <;> omega
        · rintro ⟨x,c,hpa,hl,rfl⟩
          cases hpa with
          | done hd => exact absurd hd he
          | @step _ q r x c hr ha hpa =>
            rw [List.length_append] at hl
            refine .inr ⟨r,hr,q,ha,(c,(x.length:Int)),⟨x,c,hpa,by omega,rfl⟩,?_⟩
            unfold plusP
            rw [List.length_append]
            refine Prod.ext ?_ ?_ <;> dsimp only <;> omega
def goalE (rs:List Rl) (acc:Int) (out:Str) (p:Spot) (L:Int):Option Price:=goalF rs acc out (ms out p + 1) p L
theorem goalE_min (h:OkR rs) {p:Spot} (L:Int) (hp:OkP out p):IsMin (goalS rs acc out p L) (goalE rs acc out p L):=goal_min h _ p L hp (Nat.lt_succ_self _)
theorem goalF_E (h:OkR rs) {n:Nat} {p:Spot} (L:Int) (hp:OkP out p) (hn:ms out p < n):goalF rs acc out n p L = goalE rs acc out p L:=min_uniq (goal_min h n p L hp hn) (goalE_min h L hp)
theorem via_congr {g g':Spot → Int → Option Price} {p:Spot} {L:Int} {r:Rl} (h:∀ q,afterE out p r = some q → g q (L - (r.2.2.1.length:Int)) = g' q (L - (r.2.2.1.length:Int))):viaE out g p L r = viaE out g' p L r:=by
  unfold viaE
  cases ha:afterE out p r with
  | none => rfl
  | some q =>
    dsimp only
    rw [h q ha]
theorem fold_congr {α β:Type} {f g:β → α → β}:∀ (l:List α) (b:β),(∀ b r,r ∈ l → f b r = g b r) → l.foldl f b = l.foldl g b
  | [],_,_ => rfl
  | r :: l,b,h => by
    rw [List.foldl_cons,List.foldl_cons,h b r (List.mem_cons_self ..)]
    exact fold_congr l _ fun b q hq => h b q (List.mem_cons_of_mem _ hq)
theorem goalE_rec (h:OkR rs) {p:Spot} (L:Int) (hp:OkP out p):goalE rs acc out p L = if L < 0 then none else if endsE acc out p = true then some (0,0) else rs.foldl (fun b r => better b (viaE out (goalE rs acc out) p L r)) none:=by
  conv => lhs; unfold goalE; rw [goalF]
  split
  · rfl
  · split
    · rfl
    · refine fold_congr rs none fun b r hr => ?_
      rw [via_congr (g:=goalF rs acc out (ms out p)) (g':=goalE rs acc out) fun q ha => ?_]
      obtain ⟨k1,k2,_⟩:=after_ok hp (h.mode r hr) ha
      exact goalF_E h _ k1 k2
end Go.Proofs.Ytefpgfdemmllpaa.Rev
namespace Go.Proofs.Ytefpgfdemmllpaa.Rev
set_option maxHeartbeats 1000000
abbrev Thread:=Spot × Str
structure Opened (rs:List Rl) (out x:Str) (E:List (Thread × Int)):Prop where
  sound:∀ p m c,((p,m),c) ∈ E → Thr rs out x p m c
  all:∀ p m c,Thr rs out x p m c → ∃ c',c' ≤ c ∧ ((p,m),c') ∈ E
def leastS (rs:List Rl) (acc:Int) (out x:Str) (pr:Price):Prop:=∃ y c,Inp rs acc out (x ++ y) c ∧ (x ++ y).length ≤ 40 ∧ pr = (c,((x ++ y).length:Int))
def wholeS (rs:List Rl) (acc:Int) (out x:Str) (pr:Price):Prop:=∃ c,Inp rs acc out x c ∧ pr = (c,(x.length:Int))
variable {rs:List Rl} {acc:Int} {out:Str}
def threadP (rs:List Rl) (acc:Int) (out x:Str) (t:Thread × Int):Option Price:=addP (goalE rs acc out t.1.1 (40 - (x.length:Int) - (t.1.2.length:Int))) (t.2,(x.length:Int) + (t.1.2.length:Int))
def threadS (rs:List Rl) (acc:Int) (out x:Str) (t:Thread × Int) (pr:Price):Prop:=∃ s,goalS rs acc out t.1.1 (40 - (x.length:Int) - (t.1.2.length:Int)) s ∧ pr = plusP s (t.2,(x.length:Int) + (t.1.2.length:Int))
theorem thread_min (h:OkR rs) {x:Str} {t:Thread × Int} (ht:OkP out t.1.1):IsMin (threadS rs acc out x t) (threadP rs acc out x t):=addP_min (goalE_min h _ ht) _
theorem threads_least (h:OkR rs) {x:Str} {E:List (Thread × Int)} (hE:Opened rs out x E) {o:Option Price} (ho:IsMin (fun pr => ∃ t,t ∈ E ∧ threadS rs acc out x t pr) o):IsMin (leastS rs acc out x) o:=by
  cases o with
  | none =>
    rintro pr ⟨y,c,hi,hl,rfl⟩
    obtain ⟨q,m,e,f,y',h1,h2,rfl,rfl⟩:=inp_cut hi
    obtain ⟨e',he,hm⟩:=hE.all q m e h1
    rw [List.length_append,List.length_append] at hl
    exact ho _ ⟨((q,m),e'),hm,_,⟨y',f,h2,by dsimp only; omega,rfl⟩,rfl⟩
  | some k =>
    refine ⟨?_,?_⟩
    · obtain ⟨⟨⟨p,m⟩,c⟩,ht,s,⟨y,f,hp,hl,rfl⟩,he⟩:=ho.1
      have hth:=hE.sound p m c ht
      have:=thr_path hth hp
      refine ⟨m ++ y,c + f,by rwa [← List.append_assoc],?_,?_⟩
      · dsimp only at hl
        rw [List.length_append,List.length_append]
        omega
      · rw [he]
        unfold plusP
        dsimp only
        rw [List.length_append,List.length_append]
        refine Prod.ext ?_ ?_ <;> dsimp only <;> omega
    · rintro pr ⟨y,c,hi,hl,rfl⟩
      obtain ⟨q,m,e,f,y',h1,h2,rfl,rfl⟩:=inp_cut hi
      obtain ⟨e',he,hm⟩:=hE.all q m e h1
      rw [List.length_append,List.length_append] at hl
      have:=lessP_no.1 (ho.2 _ ⟨((q,m),e'),hm,_,⟨y',f,h2,by dsimp only; omega,rfl⟩,rfl⟩)
      rw [lessP_no]
      unfold plusP at this
      dsimp only at this ⊢
      rw [List.length_append,List.length_append]
      omega
def endP (acc:Int) (out x:Str) (t:Thread × Int):Option Price:=if t.1.2 = [] ∧ endsE acc out t.1.1 = true then some (t.2,(x.length:Int)) else none
def endS (acc:Int) (out x:Str) (t:Thread × Int) (pr:Price):Prop:=(t.1.2 = [] ∧ endsE acc out t.1.1 = true) ∧ pr = (t.2,(x.length:Int))
theorem end_min {x:Str} {t:Thread × Int}:IsMin (endS acc out x t) (endP acc out x t):=by
  unfold endP
  split
  · rename_i h
    exact ⟨⟨h,rfl⟩,fun p hp => by rw [hp.2]; exact lessP_irr _⟩
  · rename_i h
    exact fun p hp => h hp.1
theorem path_nil_ends {p:Spot} {y:Str} {c:Int} (hp:Path rs acc out p y c):∀ {x:Str} {e:Int},Thr rs out x p [] e → y = [] → ∃ q f,Thr rs out x q [] f ∧ endsE acc out q = true ∧ f = e + c:=by
  induction hp with
  | @done p h => intro x e ht _; exact ⟨p,e,ht,h,by omega⟩
  | @step p q r y c hr ha _ ih =>
    intro x e ht hy
    obtain ⟨h1,h2⟩:=List.append_eq_nil_iff.1 hy
    have h3:=Thr.rule ht hr ha
    rw [h1] at h3
    obtain ⟨q',f,k1,k2,k3⟩:=ih h3 h2
    exact ⟨q',f,k1,k2,by omega⟩
theorem threads_whole {x:Str} {E:List (Thread × Int)} (hE:Opened rs out x E) {o:Option Price} (ho:IsMin (fun pr => ∃ t,t ∈ E ∧ endS acc out x t pr) o):IsMin (wholeS rs acc out x) o:=by
  have down:∀ c,Inp rs acc out x c → ∃ q f,Thr rs out x q [] f ∧ endsE acc out q = true ∧ f = c:=fun c hi => by
    have hi':Inp rs acc out (x ++ []) c:=by simpa using hi
    obtain ⟨q,m,e,f,y',h1,h2,h3,h4⟩:=inp_cut hi'
    obtain ⟨rfl,rfl⟩:=List.append_eq_nil_iff.1 h3.symm
    obtain ⟨q',f',k1,k2,k3⟩:=path_nil_ends h2 h1 rfl
    exact ⟨q',f',k1,k2,by omega⟩
  have up:∀ q f,Thr rs out x q [] f → endsE acc out q = true → Inp rs acc out x f:=fun q f h1 h2 => by
    have:=thr_path h1 (Path.done h2)
    simpa using this
  cases o with
  | none =>
    rintro pr ⟨c,hi,rfl⟩
    obtain ⟨q,f,h1,h2,rfl⟩:=down c hi
    obtain ⟨e',he,hm⟩:=hE.all q [] _ h1
    exact ho _ ⟨((q,[]),e'),hm,⟨rfl,h2⟩,rfl⟩
  | some k =>
    refine ⟨?_,?_⟩
    · obtain ⟨⟨⟨p,m⟩,c⟩,ht,⟨h1,h2⟩,he⟩:=ho.1
      dsimp only at h1 h2 he
      subst h1
      exact ⟨c,up p c (hE.sound p [] c ht) h2,he⟩
    · rintro pr ⟨c,hi,rfl⟩
      obtain ⟨q,f,h1,h2,rfl⟩:=down c hi
      obtain ⟨e',he,hm⟩:=hE.all q [] _ h1
      have:=lessP_no.1 (ho.2 _ ⟨((q,[]),e'),hm,⟨rfl,h2⟩,rfl⟩)
      rw [lessP_no]
      dsimp only at this ⊢
      omega
structure OpenI (rs:List Rl) (out x:Str) (B:Spot → Str → Int → Prop) (V:Thread → Option Int) (todo:List Thread):Prop where
  sound:∀ p m c,V (p,m) = some c → Thr rs out x p m c
  base:∀ p m c,B p m c → ∃ c',c' ≤ c ∧ V (p,m) = some c'
  step:∀ p c,V (p,[]) = some c → (p,[]) ∈ todo ∨ ∀ r q,r ∈ rs → afterE out p r = some q → ∃ c',c' ≤ c + r.2.2.2.2 ∧ V (q,r.2.2.1) = some c'
  todoK:∀ t,t ∈ todo → t.2 = [] ∧ ∃ c,V t = some c
def Comes (rs:List Rl) (out x:Str) (B:Spot → Str → Int → Prop):Prop:=∀ p m c,Thr rs out x p m c → B p m c ∨ ∃ p0 c0 r,Thr rs out x p0 [] c0 ∧ r ∈ rs ∧ afterE out p0 r = some p ∧ m = r.2.2.1 ∧ c = c0 + r.2.2.2.2
theorem comes_start:Comes rs out [] (fun p m c => p = (0,0,1) ∧ m = [] ∧ c = 0):=by
  intro p m c h
  generalize hx:([]:Str) = x at h
  cases h with
  | start => exact .inl ⟨rfl,rfl,rfl⟩
  | @rule _ p0 _ r c0 ht hr ha => subst hx; exact .inr ⟨p0,c0,r,ht,hr,ha,rfl,rfl⟩
  | eat => exact absurd hx (by simp)
theorem comes_eat {x:Str} {a:UInt8}:Comes rs out (x ++ [a]) (fun p m c => Thr rs out x p (a :: m) c):=by
  intro p m c h
  generalize hx:x ++ [a] = z at h
  cases h with
  | start => exact absurd hx (by simp)
  | @rule _ p0 _ r c0 ht hr ha => subst hx; exact .inr ⟨p0,c0,r,ht,hr,ha,rfl,rfl⟩
  | @eat x' _ a' _ _ ht =>
    obtain ⟨h1,h2⟩:=List.append_inj' hx rfl
    injection h2 with h2
    subst h1 h2
    exact .inl ht
theorem ms_le {p:Spot}:ms out p ≤ out.length * 256 + 255:=by
  unfold ms
  omega
theorem open_all (h:OkR rs) {x:Str} {B:Spot → Str → Int → Prop} (hB:Comes rs out x B) {V:Thread → Option Int} (hI:OpenI rs out x B V []) :
    ∀ (n:Nat) (p:Spot) (m:Str) (c:Int),out.length * 256 + 255 - ms out p ≤ n → Thr rs out x p m c → ∃ c',c' ≤ c ∧ V (p,m) = some c':=by
  intro n
  induction n with
  | zero =>
    intro p m c hn ht
    rcases hB p m c ht with hb | ⟨p0,c0,r,h1,h2,h3,rfl,rfl⟩
    · exact hI.base p m c hb
    · exfalso
      have h4:=(after_ok (thr_ok h h1) (h.mode r h2) h3).2.1
      have:=ms_le (out:=out) (p:=p0)
      omega
  | succ n ih =>
    intro p m c hn ht
    rcases hB p m c ht with hb | ⟨p0,c0,r,h1,h2,h3,rfl,rfl⟩
    · exact hI.base p m c hb
    · have h4:=(after_ok (thr_ok h h1) (h.mode r h2) h3).2.1
      have:=ms_le (out:=out) (p:=p0)
      obtain ⟨c',hc',hv⟩:=ih p0 [] c0 (by omega) h1
      rcases hI.step p0 c' hv with hm | hs
      · exact absurd hm (List.not_mem_nil)
      · obtain ⟨d,hd,hv2⟩:=hs r p h2 h3
        exact ⟨d,by omega,hv2⟩
theorem open_done (h:OkR rs) {x:Str} {B:Spot → Str → Int → Prop} (hB:Comes rs out x B) {V:Thread → Option Int} (hI:OpenI rs out x B V []) {E:List (Thread × Int)} (hE:∀ t c,(t,c) ∈ E ↔ V t = some c):Opened rs out x E:=by
  refine ⟨fun p m c hm => hI.sound p m c ((hE _ _).1 hm),fun p m c ht => ?_⟩
  obtain ⟨c',h1,h2⟩:=open_all h hB hI _ p m c (Nat.le_refl _) ht
  exact ⟨c',h1,(hE _ _).2 h2⟩
end Go.Proofs.Ytefpgfdemmllpaa.Rev
namespace Go.Proofs.Ytefpgfdemmllpaa.Rev
set_option maxHeartbeats 1000000
def bytesLess:Str → Str → Bool
  | _,[] => false
  | [],_ :: _ => true
  | a :: x,b :: y => decide (a < b) || (a == b && bytesLess x y)
theorem u8_lt {a b:UInt8}:a < b ↔ a.toNat < b.toNat:=UInt8.lt_iff_toNat_lt
theorem bl_cons {a b:UInt8} {x y:Str}:bytesLess (a :: x) (b :: y) = true ↔ (a.toNat < b.toNat ∨ a = b ∧ bytesLess x y = true):=by
  simp [bytesLess,u8_lt]
theorem bl_irr:∀ x:Str,bytesLess x x = false
  | [] => rfl
  | a :: x => by
    rw [Bool.eq_false_iff]
    intro h
    rcases bl_cons.1 h with h | h
    · omega
    · rw [bl_irr x] at h; cases h.2
theorem bl_trans:∀ {x y z:Str},bytesLess x y = true → bytesLess y z = true → bytesLess x z = true
  | x,y,[],_,h => by cases y <;> cases h
  | x,[],c :: z,h,_ => by cases x <;> cases h
  | [],b :: y,c :: z,_,_ => rfl
  | a :: x,b :: y,c :: z,h,h' => by
    rw [bl_cons] at h h' ⊢
    rcases h with h | ⟨rfl,h⟩ <;> rcases h' with h' | ⟨rfl,h'⟩
    · exact .inl (by omega)
    · exact .inl h
    · exact .inl h'
    · exact .inr ⟨rfl,bl_trans h h'⟩
theorem bl_total:∀ {x y:Str},x ≠ y → bytesLess x y = false → bytesLess y x = true
  | [],[],h,_ => absurd rfl h
  | [],b :: y,_,h => by cases h
  | a :: x,[],_,_ => rfl
  | a :: x,b :: y,h,h' => by
    rw [bl_cons]
    have h2:=fun hh => Bool.eq_false_iff.1 h' (bl_cons.2 hh)
    by_cases e:a = b
    · subst e
      refine .inr ⟨rfl,bl_total (fun e => h (by rw [e])) (Bool.eq_false_iff.2 fun hh => h2 (.inr ⟨rfl,hh⟩))⟩
    · have:¬ a.toNat = b.toNat:=fun e' => e (UInt8.toNat_inj.1 e')
      have:¬ a.toNat < b.toNat:=fun e' => h2 (.inl e')
      exact .inl (by omega)
theorem bl_prefix:∀ {x a z:Str},bytesLess x a = true → a <+: z → bytesLess x z = true
  | x,[],z,h,_ => by cases x <;> cases h
  | x,b :: a,[],_,h => by obtain ⟨t,ht⟩:=h; cases ht
  | [],b :: a,c :: z,_,_ => rfl
  | d :: x,b :: a,c :: z,h,h' => by
    rw [List.cons_prefix_cons] at h'
    obtain ⟨rfl,h'⟩:=h'
    rw [bl_cons] at h ⊢
    rcases h with h | ⟨rfl,h⟩
    · exact .inl h
    · exact .inr ⟨rfl,bl_prefix h h'⟩
abbrev FE:=Str × Bool × Price
def lessE (a b:FE):Bool:=if a.2.2 = b.2.2 then (if a.1 = b.1 then a.2.1 && !b.2.1 else bytesLess a.1 b.1) else lessP a.2.2 b.2.2
abbrev Res:=Str × Int
def lessR (a b:Res):Bool:=decide (a.2 < b.2) || (decide (a.2 = b.2) && (decide (a.1.length < b.1.length) || (decide (a.1.length = b.1.length) && bytesLess a.1 b.1)))
theorem lessR_iff {a b:Res}:lessR a b = true ↔ (a.2 < b.2 ∨ a.2 = b.2 ∧ (a.1.length < b.1.length ∨ a.1.length = b.1.length ∧ bytesLess a.1 b.1 = true)):=by
  simp [lessR]
theorem lessR_irr (a:Res):lessR a a = false:=by
  rw [Bool.eq_false_iff]
  intro h
  rcases lessR_iff.1 h with h | ⟨_,h | ⟨_,h⟩⟩
  · omega
  · omega
  · rw [bl_irr] at h; cases h
theorem lessR_trans {a b c:Res} (h:lessR a b = true) (h':lessR b c = true):lessR a c = true:=by
  rw [lessR_iff] at *
  rcases h with h | ⟨h1,h | ⟨h2,h⟩⟩ <;> rcases h' with h' | ⟨h1',h' | ⟨h2',h'⟩⟩
  · exact .inl (by omega)
  · exact .inl (by omega)
  · exact .inl (by omega)
  · exact .inl (by omega)
  · exact .inr ⟨by omega,.inl (by omega)⟩
  · exact .inr ⟨by omega,.inl (by omega)⟩
  · exact .inl (by omega)
  · exact .inr ⟨by omega,.inl (by omega)⟩
  · exact .inr ⟨by omega,.inr ⟨by omega,bl_trans h h'⟩⟩
def covers (e:FE) (z:Str):Prop:=if e.2.1 = true then e.1 = z else e.1 <+: z
def MinI (rs:List Rl) (acc:Int) (out x:Str) (d:Int):Prop:=Inp rs acc out x d ∧ ∀ c,Inp rs acc out x c → d ≤ c
structure Front (rs:List Rl) (acc:Int) (out:Str) (H:List FE) (R:List Res):Prop where
  live:∀ e,e ∈ H → e.2.1 = false → IsMin (leastS rs acc out e.1) (some e.2.2)
  done:∀ e,e ∈ H → e.2.1 = true → IsMin (wholeS rs acc out e.1) (some e.2.2) ∧ e.1.length ≤ 40
  cov:∀ z c,Inp rs acc out z c → z.length ≤ 40 → (∃ d,(z,d) ∈ R) ∨ ∃ e,e ∈ H ∧ covers e z
  dis:H.Pairwise (fun a b => ∀ z,covers a z → covers b z → False)
  res:∀ x d,(x,d) ∈ R → MinI rs acc out x d ∧ x.length ≤ 40 ∧ ∀ e,e ∈ H → ¬ covers e x
  ord:∀ x d,(x,d) ∈ R → ∀ z c,Inp rs acc out z c → z.length ≤ 40 → (∃ e,e ∈ H ∧ covers e z) → lessR (x,d) (z,c) = true
  srt:R.Pairwise (fun a b => lessR a b = true)
structure IsAll (rs:List Rl) (acc:Int) (out:Str) (L:List Res):Prop where
  srt:L.Pairwise (fun a b => lessR a b = true)
  mem:∀ x d,(x,d) ∈ L ↔ MinI rs acc out x d ∧ x.length ≤ 40
variable {rs:List Rl} {acc:Int} {out:Str}
theorem whole_min {x:Str} {m:Price} (h:IsMin (wholeS rs acc out x) (some m)):MinI rs acc out x m.1 ∧ m.2 = (x.length:Int):=by
  obtain ⟨⟨c,hc,he⟩,h2⟩:=h
  subst he
  refine ⟨⟨hc,fun c' hc' => ?_⟩,rfl⟩
  have:=lessP_no.1 (h2 _ ⟨c',hc',rfl⟩)
  dsimp only at this ⊢
  omega
theorem front_perm {H H':List FE} {R:List Res} (h:Front rs acc out H R) (hp:H.Perm H'):Front rs acc out H' R:=by
  refine ⟨fun e he => h.live e (hp.mem_iff.2 he),fun e he => h.done e (hp.mem_iff.2 he),fun z c hi hl => ?_,?_,fun x d hm => ?_,fun x d hm z c hi hl ⟨e,he,hc⟩ => h.ord x d hm z c hi hl ⟨e,hp.mem_iff.2 he,hc⟩,h.srt⟩
  · rcases h.cov z c hi hl with h1 | ⟨e,he,hc⟩
    · exact .inl h1
    · exact .inr ⟨e,hp.mem_iff.1 he,hc⟩
  · exact (hp.pairwise_iff (fun {a b} hab z h1 h2 => hab z h2 h1)).1 h.dis
  · obtain ⟨k1,k2,k3⟩:=h.res x d hm
    exact ⟨k1,k2,fun e he => k3 e (hp.mem_iff.2 he)⟩
theorem cover_price {H:List FE} {R:List Res} (h:Front rs acc out H R) {e:FE} (he:e ∈ H) {z:Str} {c:Int} (hi:Inp rs acc out z c) (hl:z.length ≤ 40) (hc:covers e z):lessP (c,(z.length:Int)) e.2.2 = false:=by
  unfold covers at hc
  split at hc
  · rename_i hd
    subst hc
    exact (h.done e he hd).1.2 _ ⟨c,hi,rfl⟩
  · rename_i hd
    obtain ⟨y,rfl⟩:=hc
    exact (h.live e he (by simpa using hd)).2 _ ⟨y,c,hi,hl,rfl⟩
theorem front_done {H:List FE} {R:List Res} {e:FE} (h:Front rs acc out (e :: H) R) (hd:e.2.1 = true) (hmin:∀ e',e' ∈ H → lessE e' e = false):Front rs acc out H (R ++ [(e.1,e.2.2.1)]):=by
  obtain ⟨hw,h40⟩:=h.done e (List.mem_cons_self ..) hd
  obtain ⟨hm,hlen⟩:=whole_min hw
  have hce:covers e e.1:=by unfold covers; rw [if_pos hd]
  obtain ⟨hd1,hd2⟩:=List.pairwise_cons.1 h.dis
  have hno:∀ e',e' ∈ H → ¬ covers e' e.1:=fun e' he' hc => hd1 e' he' e.1 hce hc
  refine ⟨fun a ha => h.live a (List.mem_cons_of_mem _ ha),fun a ha => h.done a (List.mem_cons_of_mem _ ha),fun z c hi hl => ?_,hd2,fun x d hmem => ?_,fun x d hmem z c hi hl hc => ?_,?_⟩
  · rcases h.cov z c hi hl with ⟨d,h1⟩ | ⟨a,ha,hc⟩
    · exact .inl ⟨d,List.mem_append_left _ h1⟩
    · rcases List.mem_cons.1 ha with rfl | ha
      · unfold covers at hc
        rw [if_pos hd] at hc
        subst hc
        exact .inl ⟨_,List.mem_append_right _ (List.mem_cons_self ..)⟩
      · exact .inr ⟨a,ha,hc⟩
  · rcases List.mem_append.1 hmem with h1 | h1
    · obtain ⟨k1,k2,k3⟩:=h.res x d h1
      exact ⟨k1,k2,fun a ha => k3 a (List.mem_cons_of_mem _ ha)⟩
    · obtain ⟨rfl,rfl⟩:=Prod.mk.inj (List.mem_singleton.1 h1)
      exact ⟨hm,h40,hno⟩
  · rcases List.mem_append.1 hmem with h1 | h1
    · obtain ⟨a,ha,hca⟩:=hc
      exact h.ord x d h1 z c hi hl ⟨a,List.mem_cons_of_mem _ ha,hca⟩
    · obtain ⟨rfl,rfl⟩:=Prod.mk.inj (List.mem_singleton.1 h1)
      obtain ⟨a,ha,hca⟩:=hc
      have hpr:=lessP_no.1 (cover_price h (List.mem_cons_of_mem _ ha) hi hl hca)
      have hle:=hmin a ha
      rw [lessR_iff]
      dsimp only at hpr ⊢
      unfold lessE at hle
      split at hle
      · rename_i heq
        rw [heq] at hpr
        split at hle
        · rename_i hx
          exfalso
          refine hno a ha ?_
          unfold covers
          rw [hx]
          split
          · rfl
          · exact List.prefix_refl _
        · rename_i hx
          have h1:=bl_total hx hle
          have h2:bytesLess e.1 z = true:=by
            unfold covers at hca
            split at hca
            · rw [← hca]; exact h1
            · exact bl_prefix h1 hca
          by_cases k1:e.2.2.1 < c
          · exact .inl k1
          · by_cases k2:e.1.length < z.length
            · exact .inr ⟨by omega,.inl k2⟩
            · exact .inr ⟨by omega,.inr ⟨by omega,h2⟩⟩
      · rename_i hne
        have hle:=lessP_no.1 hle
        have hne':¬ (a.2.2.1 = e.2.2.1 ∧ a.2.2.2 = e.2.2.2):=fun hh => hne (Prod.ext hh.1 hh.2)
        by_cases k1:e.2.2.1 < c
        · exact .inl k1
        · exact .inr ⟨by omega,.inl (by omega)⟩
  · rw [List.pairwise_append]
    refine ⟨h.srt,List.pairwise_singleton ..,fun a ha b hb => ?_⟩
    rw [List.mem_singleton.1 hb]
    exact h.ord a.1 a.2 ha e.1 e.2.2.1 hm.1 h40 ⟨e,List.mem_cons_self ..,hce⟩
theorem front_grow {H C:List FE} {R:List Res} {e:FE} (h:Front rs acc out (e :: H) R) (hd:e.2.1 = false)
    (hlive:∀ a,a ∈ C → a.2.1 = false → IsMin (leastS rs acc out a.1) (some a.2.2)) (hdone:∀ a,a ∈ C → a.2.1 = true → IsMin (wholeS rs acc out a.1) (some a.2.2) ∧ a.1.length ≤ 40)
    (hcov:∀ z c,Inp rs acc out z c → z.length ≤ 40 → e.1 <+: z → ∃ a,a ∈ C ∧ covers a z) (hback:∀ a,a ∈ C → ∀ z,covers a z → e.1 <+: z) (hdis:C.Pairwise (fun a b => ∀ z,covers a z → covers b z → False)):Front rs acc out (H ++ C) R:=by
  have hce:∀ z,covers e z ↔ e.1 <+: z:=fun z => by unfold covers; rw [if_neg (by rw [hd]; decide)]
  obtain ⟨hd1,hd2⟩:=List.pairwise_cons.1 h.dis
  have up:∀ a,a ∈ H ++ C → ∀ z,covers a z → ∃ b,b ∈ e :: H ∧ covers b z:=fun a ha z hc => by
    rcases List.mem_append.1 ha with ha | ha
    · exact ⟨a,List.mem_cons_of_mem _ ha,hc⟩
    · exact ⟨e,List.mem_cons_self ..,(hce z).2 (hback a ha z hc)⟩
  refine ⟨fun a ha hf => ?_,fun a ha hf => ?_,fun z c hi hl => ?_,?_,fun x d hm => ?_,fun x d hm z c hi hl ⟨a,ha,hc⟩ => h.ord x d hm z c hi hl (up a ha z hc),h.srt⟩
  · rcases List.mem_append.1 ha with ha | ha
    · exact h.live a (List.mem_cons_of_mem _ ha) hf
    · exact hlive a ha hf
  · rcases List.mem_append.1 ha with ha | ha
    · exact h.done a (List.mem_cons_of_mem _ ha) hf
    · exact hdone a ha hf
  · rcases h.cov z c hi hl with h1 | ⟨a,ha,hc⟩
    · exact .inl h1
    · rcases List.mem_cons.1 ha with rfl | ha
      · obtain ⟨b,hb,hcb⟩:=hcov z c hi hl ((hce z).1 hc)
        exact .inr ⟨b,List.mem_append_right _ hb,hcb⟩
      · exact .inr ⟨a,List.mem_append_left _ ha,hc⟩
  · rw [List.pairwise_append]
    exact ⟨hd2,hdis,fun a ha b hb z h1 h2 => hd1 a ha z ((hce z).2 (hback b hb z h2)) h1⟩
  · obtain ⟨k1,k2,k3⟩:=h.res x d hm
    refine ⟨k1,k2,fun a ha hc => ?_⟩
    obtain ⟨b,hb,hcb⟩:=up a ha x hc
    exact k3 b hb hcb
theorem front_start {o:Option Price} (ho:IsMin (leastS rs acc out []) o):Front rs acc out (match o with | some l => [([],false,l)] | none => []) []:=by
  cases o with
  | none =>
    refine ⟨fun e he => absurd he List.not_mem_nil,fun e he => absurd he List.not_mem_nil,fun z c hi hl => ?_,List.Pairwise.nil,fun x d hm => absurd hm List.not_mem_nil,fun x d hm => absurd hm List.not_mem_nil,List.Pairwise.nil⟩
    exact absurd ⟨z,c,by simpa using hi,by simpa using hl,rfl⟩ (ho _)
  | some l =>
    refine ⟨fun e he _ => ?_,fun e he hd => ?_,fun z c hi hl => .inr ⟨_,List.mem_cons_self ..,?_⟩,List.pairwise_singleton ..,fun x d hm => absurd hm List.not_mem_nil,fun x d hm => absurd hm List.not_mem_nil,List.Pairwise.nil⟩
    · rw [List.mem_singleton.1 he]; exact ho
    · rw [List.mem_singleton.1 he] at hd; cases hd
    · unfold covers
      rw [if_neg (show ¬ (false = true) by decide)]
      exact List.nil_prefix
theorem srt_take:∀ {R L:List Res},R.Pairwise (fun a b => lessR a b = true) → L.Pairwise (fun a b => lessR a b = true) → (∀ a,a ∈ R → a ∈ L) → (∀ a,a ∈ R → ∀ b,b ∈ L → b ∉ R → lessR a b = true) → R = L.take R.length
  | [],L,_,_,_,_ => by simp
  | a :: R,[],_,_,h,_ => absurd (h a (List.mem_cons_self ..)) List.not_mem_nil
  | a :: R,b :: L,h1,h2,h3,h4 => by
    obtain ⟨p1,q1⟩:=List.pairwise_cons.1 h1
    obtain ⟨p2,q2⟩:=List.pairwise_cons.1 h2
    have e:a = b:=by
      rcases List.mem_cons.1 (h3 a (List.mem_cons_self ..)) with e | ha
      · exact e
      · exfalso
        have hba:=p2 a ha
        by_cases hb:b ∈ a :: R
        · rcases List.mem_cons.1 hb with rfl | hb
          · rw [lessR_irr] at hba; cases hba
          · have:=lessR_trans (p1 b hb) hba
            rw [lessR_irr] at this; cases this
        · have:=lessR_trans (h4 a (List.mem_cons_self ..) b (List.mem_cons_self ..) hb) hba
          rw [lessR_irr] at this; cases this
    subst e
    have hna:∀ x,x ∈ R → x ≠ a:=fun x hx e => by
      have:=p1 x hx
      rw [e,lessR_irr] at this; cases this
    have hnl:∀ x,x ∈ L → x ≠ a:=fun x hx e => by
      have:=p2 x hx
      rw [e,lessR_irr] at this; cases this
    rw [List.length_cons,List.take_succ_cons]
    congr 1
    refine srt_take q1 q2 (fun x hx => ?_) fun x hx y hy hn => h4 x (List.mem_cons_of_mem _ hx) y (List.mem_cons_of_mem _ hy) fun hh => ?_
    · rcases List.mem_cons.1 (h3 x (List.mem_cons_of_mem _ hx)) with e | h
      · exact absurd e (hna x hx)
      · exact h
    · rcases List.mem_cons.1 hh with e | h
      · exact hnl y hy e
      · exact hn h
theorem min_cost_uniq {x:Str} {c d:Int} (h:MinI rs acc out x c) (h':MinI rs acc out x d):c = d:=by
  have:=h.2 d h'.1
  have:=h'.2 c h.1
  omega
theorem front_take {H:List FE} {R L:List Res} (h:Front rs acc out H R) (hL:IsAll rs acc out L):R = L.take R.length:=by
  refine srt_take h.srt hL.srt (fun a ha => ?_) fun a ha b hb hn => ?_
  · obtain ⟨k1,k2,_⟩:=h.res a.1 a.2 ha
    exact (hL.mem a.1 a.2).2 ⟨k1,k2⟩
  · obtain ⟨k1,k2⟩:=(hL.mem b.1 b.2).1 hb
    rcases h.cov b.1 b.2 k1.1 k2 with ⟨d,hd⟩ | hc
    · have:=min_cost_uniq k1 (h.res b.1 d hd).1
      exact absurd (by rw [← this] at hd; exact hd) hn
    · exact h.ord a.1 a.2 ha b.1 b.2 k1.1 k2 hc
theorem front_end {R L:List Res} (h:Front rs acc out [] R) (hL:IsAll rs acc out L):R = L:=by
  have h1:=front_take h hL
  have h2:∀ b,b ∈ L → b ∈ R:=fun b hb => by
    obtain ⟨k1,k2⟩:=(hL.mem b.1 b.2).1 hb
    rcases h.cov b.1 b.2 k1.1 k2 with ⟨d,hd⟩ | ⟨e,he,_⟩
    · have:=min_cost_uniq k1 (h.res b.1 d hd).1
      rw [← this] at hd; exact hd
    · exact absurd he List.not_mem_nil
  have h3:=srt_take hL.srt h.srt h2 fun a ha b hb hn => absurd ((hL.mem b.1 b.2).2 ⟨(h.res b.1 b.2 hb).1,(h.res b.1 b.2 hb).2.1⟩) hn
  have l1:=congrArg List.length h1
  have l2:=congrArg List.length h3
  rw [List.length_take] at l1 l2
  rw [h1,List.take_of_length_le (by omega)]
end Go.Proofs.Ytefpgfdemmllpaa.Rev
namespace Go.Proofs.Ytefpgfdemmllpaa.Rev
set_option maxHeartbeats 1000000
section
variable {α:Type} (less:α → α → Bool)
def swapL (xs:List α) (i j:Nat):List α:=match xs[i]?,xs[j]? with
  | some a,some b => (xs.set i b).set j a
  | _,_ => xs
def upL (xs:List α) (j:Nat):List α :=
  if h:j = 0 then xs else match xs[j]?,xs[(j - 1) / 2]? with
    | some a,some b => if less a b = true then upL (swapL xs ((j - 1) / 2) j) ((j - 1) / 2) else xs
    | _,_ => xs
termination_by j
decreasing_by omega
def childL (xs:List α) (i n:Nat):Nat:=match xs[2 * i + 2]?,xs[2 * i + 1]? with
  | some a,some b => if 2 * i + 2 < n ∧ less a b = true then 2 * i + 2 else 2 * i + 1
  | _,_ => 2 * i + 1
theorem childL_gt (xs:List α) (i n:Nat):i < childL less xs i n ∧ (childL less xs i n = 2 * i + 1 ∨ childL less xs i n = 2 * i + 2):=by
  unfold childL
  split
  · split <;> omega
  · omega
def downL (xs:List α) (i n:Nat):List α :=
  if h:n ≤ 2 * i + 1 then xs else match xs[childL less xs i n]?,xs[i]? with
    | some a,some b => if less a b = true then downL (swapL xs i (childL less xs i n)) (childL less xs i n) n else xs
    | _,_ => xs
termination_by n - i
decreasing_by have:=(childL_gt less xs i n).1; omega
end
section
variable {α:Type} {less:α → α → Bool}
theorem swap_len (xs:List α) (i j:Nat):(swapL xs i j).length = xs.length:=by
  unfold swapL
  split <;> simp
theorem swap_perm (xs:List α) (i j:Nat):(swapL xs i j).Perm xs:=by
  unfold swapL
  split
  · rename_i a b ha hb
    obtain ⟨h1,rfl⟩:=List.getElem?_eq_some_iff.1 ha
    obtain ⟨h2,rfl⟩:=List.getElem?_eq_some_iff.1 hb
    exact List.set_set_perm h1 h2
  · exact List.Perm.refl _
theorem swap_at {xs:List α} {i j:Nat} {a b:α} (ha:xs[i]? = some a) (hb:xs[j]? = some b) (k:Nat):(swapL xs i j)[k]? = if k = j then some a else if k = i then some b else xs[k]?:=by
  have h1:=(List.getElem?_eq_some_iff.1 ha).1
  have h2:=(List.getElem?_eq_some_iff.1 hb).1
  unfold swapL
  rw [ha,hb]
  dsimp only
  by_cases e1:k = j
  · rw [if_pos e1,e1,List.getElem?_set_self (by simpa using h2)]
  · rw [if_neg e1,List.getElem?_set_ne (Ne.symm e1)]
    by_cases e2:k = i
    · rw [if_pos e2,e2,List.getElem?_set_self h1]
    · rw [if_neg e2,List.getElem?_set_ne (Ne.symm e2)]
def leAt (less:α → α → Bool) (xs:List α) (a b:Nat):Prop:=∀ x y,xs[a]? = some x → xs[b]? = some y → less y x = false
structure Ord2 (less:α → α → Bool):Prop where
  irr:∀ a,less a a = false
  asym:∀ a b,less a b = true → less b a = false
  trans:∀ a b c,less b a = false → less c b = false → less c a = false
def IsHeap (less:α → α → Bool) (xs:List α) (n:Nat):Prop:=∀ k,0 < k → k < n → leAt less xs ((k - 1) / 2) k
theorem le_trans_at (ho:Ord2 less) {xs:List α} {a b c:Nat} (hb:b < xs.length) (h1:leAt less xs a b) (h2:leAt less xs b c):leAt less xs a c:=fun x y hx hy => ho.trans _ _ _ (h1 x _ hx (List.getElem?_eq_getElem hb)) (h2 _ y (List.getElem?_eq_getElem hb) hy)
theorem up_len (xs:List α) (j:Nat):(upL less xs j).length = xs.length:=by
  induction j using Nat.strongRecOn generalizing xs with
  | _ j ih =>
    unfold upL
    split
    · rfl
    · split
      · split
        · rw [ih _ (by omega),swap_len]
        · rfl
      · rfl
theorem up_perm (xs:List α) (j:Nat):(upL less xs j).Perm xs:=by
  induction j using Nat.strongRecOn generalizing xs with
  | _ j ih =>
    unfold upL
    split
    · exact List.Perm.refl _
    · split
      · split
        · exact (ih _ (by omega) _).trans (swap_perm ..)
        · exact List.Perm.refl _
      · exact List.Perm.refl _
theorem up_heap (ho:Ord2 less) (n:Nat) (j:Nat):∀ (xs:List α),xs.length = n → j < n → (∀ k,0 < k → k < n → k ≠ j → leAt less xs ((k - 1) / 2) k) → (∀ k,0 < k → k < n → (k - 1) / 2 = j → 0 < j → leAt less xs ((j - 1) / 2) k) → IsHeap less (upL less xs j) n:=by
  induction j using Nat.strongRecOn with
  | _ j ih =>
    intro xs hn hj hA hB
    unfold upL
    split
    · rename_i h0
      intro k h1 h2
      exact hA k h1 h2 (by omega)
    · rename_i h0
      obtain ⟨a,ha⟩:∃ a,xs[j]? = some a:=⟨_,List.getElem?_eq_getElem (by omega)⟩
      obtain ⟨b,hb⟩:∃ b,xs[(j - 1) / 2]? = some b:=⟨_,List.getElem?_eq_getElem (by omega)⟩
      rw [ha,hb]
      dsimp only
      split
      · rename_i hl
        have sw:=swap_at hb ha
        refine ih _ (by omega) _ (by rw [swap_len]; exact hn) (by omega) (fun k k0 kn kne x y hx hy => ?_) (fun k k0 kn kp ip x y hx hy => ?_)
        · rw [sw] at hx hy
          by_cases k1:k = j
          · subst k1
            rw [if_pos rfl] at hy
            rw [if_neg (by omega),if_pos rfl] at hx
            injection hx with hx; injection hy with hy
            subst hx hy
            exact ho.asym _ _ hl
          · rw [if_neg k1,if_neg kne] at hy
            by_cases k2:(k - 1) / 2 = j
            · rw [if_pos k2] at hx
              injection hx with hx
              subst hx
              exact hB k k0 kn k2 (by omega) _ y hb hy
            · rw [if_neg k2] at hx
              by_cases k3:(k - 1) / 2 = (j - 1) / 2
              · rw [if_pos k3] at hx
                injection hx with hx
                subst hx
                refine ho.trans _ _ _ (ho.asym _ _ hl) (hA k k0 kn k1 b y (by rw [k3]; exact hb) hy)
              · rw [if_neg k3] at hx
                exact hA k k0 kn k1 x y hx hy
        · rw [sw] at hx hy
          rw [if_neg (by omega),if_neg (by omega)] at hx
          by_cases k1:k = j
          · rw [if_pos k1] at hy
            injection hy with hy
            subst hy
            exact hA _ ip (by omega) (by omega) x _ hx hb
          · rw [if_neg k1,if_neg (by omega)] at hy
            refine ho.trans _ _ _ (hA _ ip (by omega) (by omega) x _ hx hb) (hA k k0 kn k1 b y (by rw [kp]; exact hb) hy)
      · rename_i hl
        intro k k0 kn
        by_cases k1:k = j
        · subst k1
          intro x y hx hy
          rw [hb] at hx
          rw [ha] at hy
          injection hx with hx; injection hy with hy
          subst hx hy
          simpa using hl
        · exact hA k k0 kn k1
theorem push_heap (ho:Ord2 less) {xs:List α} {b:α} (h:IsHeap less xs xs.length):IsHeap less (upL less (xs ++ [b]) xs.length) (xs.length + 1):=by
  refine up_heap ho (xs.length + 1) xs.length (xs ++ [b]) (by simp) (by omega) (fun k k0 kn kne x y hx hy => ?_) (fun k k0 kn kp _ => by omega)
  rw [List.getElem?_append_left (by omega)] at hx hy
  exact h k k0 (by omega) x y hx hy
theorem down_len (n:Nat):∀ (m i:Nat) (xs:List α),n - i ≤ m → (downL less xs i n).length = xs.length:=by
  intro m
  induction m with
  | zero => intro i xs h; unfold downL; rw [dif_pos (by omega)]
  | succ m ih =>
    intro i xs h
    unfold downL
    split
    · rfl
    · have:=(childL_gt less xs i n).1
      split
      · split
        · rw [ih _ _ (by omega),swap_len]
        · rfl
      · rfl
theorem down_perm (n:Nat):∀ (m i:Nat) (xs:List α),n - i ≤ m → (downL less xs i n).Perm xs:=by
  intro m
  induction m with
  | zero => intro i xs h; unfold downL; rw [dif_pos (by omega)]
  | succ m ih =>
    intro i xs h
    unfold downL
    split
    · exact List.Perm.refl _
    · have:=(childL_gt less xs i n).1
      split
      · split
        · exact (ih _ _ (by omega)).trans (swap_perm ..)
        · exact List.Perm.refl _
      · exact List.Perm.refl _
theorem child_lt {xs:List α} {i n:Nat} (h:¬ n ≤ 2 * i + 1):childL less xs i n < n:=by
  unfold childL
  split
  · split <;> omega
  · omega
theorem down_rest (n:Nat):∀ (m i:Nat) (xs:List α),n - i ≤ m → i < n → ∀ k,n ≤ k → (downL less xs i n)[k]? = xs[k]?:=by
  intro m
  induction m with
  | zero => intro i xs h hi; omega
  | succ m ih =>
    intro i xs h hi k hk
    unfold downL
    split
    · rfl
    · rename_i hn
      have hc:=(childL_gt less xs i n).1
      have hcn:=child_lt (less:=less) (xs:=xs) hn
      split
      · rename_i a b ha hb
        split
        · rw [ih _ _ (by omega) hcn k hk,swap_at hb ha,if_neg (by omega),if_neg (by omega)]
        · rfl
      · rfl
theorem down_heap (ho:Ord2 less) (n:Nat):∀ (m i:Nat) (xs:List α),n - i ≤ m → n ≤ xs.length → i < n → (∀ k,0 < k → k < n → (k - 1) / 2 ≠ i → leAt less xs ((k - 1) / 2) k) → (∀ k,0 < k → k < n → (k - 1) / 2 = i → 0 < i → leAt less xs ((i - 1) / 2) k) → IsHeap less (downL less xs i n) n:=by
  intro m
  induction m with
  | zero => intro i xs h _ hi; omega
  | succ m ih =>
    intro i xs h hnl hi hC hD
    unfold downL
    split
    · rename_i h0
      intro k k0 kn
      exact hC k k0 kn (by omega)
    · rename_i h0
      have hc:=childL_gt less xs i n
      have hcn:=child_lt (less:=less) (xs:=xs) h0
      -- the chosen child is not greater than the other one
      have hmin:∀ k,0 < k → k < n → (k - 1) / 2 = i → leAt less xs (childL less xs i n) k:=fun k k0 kn kp x y hx hy => by
        have k2:k = 2 * i + 1 ∨ k = 2 * i + 2:=by omega
        obtain ⟨c1,hc1⟩:∃ a,xs[2 * i + 1]? = some a:=⟨_,List.getElem?_eq_getElem (by omega)⟩
        unfold childL at hx
        rw [hc1] at hx
        cases h2:xs[2 * i + 2]? with
        | none =>
          rw [h2] at hx
          dsimp only at hx
          rcases k2 with rfl | rfl
          · rw [hc1] at hx hy
            injection hx with hx; injection hy with hy
            subst hx hy
            exact ho.irr _
          · rw [h2] at hy; cases hy
        | some c2 =>
          rw [h2] at hx
          dsimp only at hx
          split at hx
          · rename_i hcond
            rw [h2] at hx
            injection hx with hx
            subst hx
            rcases k2 with rfl | rfl
            · rw [hc1] at hy; injection hy with hy; subst hy; exact ho.asym _ _ hcond.2
            · rw [h2] at hy; injection hy with hy; subst hy; exact ho.irr _
          · rename_i hcond
            rw [hc1] at hx
            injection hx with hx
            subst hx
            rcases k2 with rfl | rfl
            · rw [hc1] at hy; injection hy with hy; subst hy; exact ho.irr _
            · rw [h2] at hy
              injection hy with hy
              subst hy
              rw [Bool.eq_false_iff]
              intro hh
              exact hcond ⟨kn,hh⟩
      have hpc:(childL less xs i n - 1) / 2 = i:=by omega
      obtain ⟨a,ha⟩:∃ a,xs[childL less xs i n]? = some a:=⟨_,List.getElem?_eq_getElem (by omega)⟩
      obtain ⟨b,hb⟩:∃ b,xs[i]? = some b:=⟨_,List.getElem?_eq_getElem (by omega)⟩
      rw [ha,hb]
      dsimp only
      generalize childL less xs i n = j at *
      split
      · rename_i hl
        have sw:=swap_at hb ha
        refine ih _ _ (by omega) (by rw [swap_len]; exact hnl) hcn (fun k k0 kn kne x y hx hy => ?_) (fun k k0 kn kp jp x y hx hy => ?_)
        · rw [sw] at hx hy
          rw [if_neg kne] at hx
          by_cases k1:(k - 1) / 2 = i
          · rw [if_pos k1] at hx
            injection hx with hx
            subst hx
            by_cases k2:k = j
            · rw [if_pos k2] at hy
              injection hy with hy
              subst hy
              exact ho.asym _ _ hl
            · rw [if_neg k2,if_neg (by omega)] at hy
              exact hmin k k0 kn k1 _ y ha hy
          · rw [if_neg k1] at hx
            have k3:k ≠ j:=fun e => k1 (by rw [e]; exact hpc)
            rw [if_neg k3] at hy
            by_cases k2:k = i
            · rw [if_pos k2] at hy
              injection hy with hy
              subst hy
              subst k2
              exact hD j (by omega) hcn hpc k0 x _ hx ha
            · rw [if_neg k2] at hy
              exact hC k k0 kn k1 x y hx hy
        · rw [sw] at hx hy
          rw [hpc,if_neg (by omega),if_pos rfl] at hx
          injection hx with hx
          subst hx
          rw [if_neg (by omega),if_neg (by omega)] at hy
          exact hC k k0 kn (by omega) _ y (by rw [kp]; exact ha) hy
      · rename_i hl
        have hl:less a b = false:=Bool.eq_false_iff.2 hl
        intro k k0 kn
        by_cases k1:(k - 1) / 2 = i
        · intro x y hx hy
          rw [k1,hb] at hx
          injection hx with hx
          subst hx
          exact ho.trans _ _ _ hl (hmin k k0 kn k1 a y ha hy)
        · exact hC k k0 kn k1
theorem root_least (ho:Ord2 less) {xs:List α} {n:Nat} (h:IsHeap less xs n) (hn:n ≤ xs.length):∀ k,k < n → leAt less xs 0 k:=by
  intro k
  induction k using Nat.strongRecOn with
  | _ k ih =>
    intro hk
    cases k with
    | zero =>
      intro x y hx hy
      rw [hx] at hy
      injection hy with hy
      subst hy
      exact ho.irr _
    | succ k => exact le_trans_at ho (by omega) (ih ((k + 1 - 1) / 2) (by omega) (by omega)) (h (k + 1) (by omega) hk)
def popL (less:α → α → Bool) (xs:List α):List α:=downL less (swapL xs 0 (xs.length - 1)) 0 (xs.length - 1)
theorem pop_spec (ho:Ord2 less) {xs:List α} {e:α} (he:xs[0]? = some e) (h:IsHeap less xs xs.length):∃ ys,popL less xs = ys ++ [e] ∧ (e :: ys).Perm xs ∧ IsHeap less ys ys.length ∧ ∀ a,a ∈ ys → less a e = false:=by
  have hlen:=(List.getElem?_eq_some_iff.1 he).1
  obtain ⟨l,hl⟩:∃ l,xs[xs.length - 1]? = some l:=⟨_,List.getElem?_eq_getElem (by omega)⟩
  have sw:=swap_at he hl
  have hroot:=root_least ho h (Nat.le_refl _)
  have plen:(popL less xs).length = xs.length:=by
    unfold popL
    rw [down_len _ _ _ _ (Nat.le_refl _),swap_len]
  have pperm:(popL less xs).Perm xs:=by
    unfold popL
    exact (down_perm _ _ _ _ (Nat.le_refl _)).trans (swap_perm ..)
  have plast:(popL less xs)[xs.length - 1]? = some e:=by
    unfold popL
    by_cases h1:xs.length = 1
    · unfold downL
      rw [dif_pos (by omega),sw,if_pos rfl]
    · rw [down_rest _ _ _ _ (Nat.le_refl _) (by omega) _ (Nat.le_refl _),sw,if_pos rfl]
  have pheap:IsHeap less (popL less xs) (xs.length - 1):=by
    unfold popL
    by_cases h1:xs.length = 1
    · intro k k0 kn; omega
    · refine down_heap ho _ _ _ _ (Nat.le_refl _) (by rw [swap_len]; omega) (by omega) (fun k k0 kn kne x y hx hy => ?_) (fun k k0 kn kp i0 => by omega)
      rw [sw,if_neg (by omega),if_neg kne] at hx
      rw [sw,if_neg (by omega),if_neg (by omega)] at hy
      exact h k k0 (by omega) x y hx hy
  have hsplit:popL less xs = (popL less xs).take (xs.length - 1) ++ [e]:=by
    conv => lhs; rw [← List.take_append_drop (xs.length - 1) (popL less xs)]
    congr 1
    have:(popL less xs).drop (xs.length - 1) = e :: (popL less xs).drop (xs.length - 1 + 1):=by
      obtain ⟨h1,h2⟩:=List.getElem?_eq_some_iff.1 plast
      rw [List.drop_eq_getElem_cons h1,h2]
    rw [this,List.drop_of_length_le (by omega)]
  have hp:(e :: (popL less xs).take (xs.length - 1)).Perm xs:=by
    refine List.Perm.trans ?_ pperm
    conv => rhs; rw [hsplit]
    exact (List.perm_append_singleton e _).symm
  refine ⟨_,hsplit,hp,?_,fun a ha => ?_⟩
  · rw [List.length_take,plen,Nat.min_eq_left (by omega)]
    intro k k0 kn x y hx hy
    rw [List.getElem?_take,if_pos (by omega)] at hx hy
    exact pheap k k0 kn x y hx hy
  · obtain ⟨k,hk⟩:=List.getElem?_of_mem (hp.mem_iff.1 (List.mem_cons_of_mem _ ha))
    exact hroot k (List.getElem?_eq_some_iff.1 hk).1 e a he hk
end
end Go.Proofs.Ytefpgfdemmllpaa.Rev
namespace Go.Proofs.Ytefpgfdemmllpaa.Rev
set_option maxHeartbeats 1000000
abbrev Place:=Int × Int
def addE:List Res → Str → Int → List Res
  | [],x,c => [(x,c)]
  | r :: f,x,c => if r.1 = x then (r.1,min r.2 c) :: f else r :: addE f x c
def beginsE (out:Str) (at_:Int) (part:Str):Bool:=part.isPrefixOf (out.drop at_.toNat)
def findF (rs:List Rl) (acc:Int) (out:Str):Nat → List Place → Place → Str → Int → List Res → List Res
  | 0,_,_,_,_,f => f
  | n + 1,l,p,x,c,f => rs.foldl (fun f r => if r.1 = p.1 ∧ beginsE out p.2 r.2.2.2.1 = true ∧ (r.2.1,p.2 + (r.2.2.2.1.length:Int)) ∉ l then findF rs acc out n (l ++ [(r.2.1,p.2 + (r.2.2.2.1.length:Int))]) (r.2.1,p.2 + (r.2.2.2.1.length:Int)) (x ++ r.2.2.1) (c + r.2.2.2.2) f else f)
      (if p.2 = (out.length:Int) ∧ hasBit acc p.1 = true ∧ x.length ≤ 40 then addE f x c else f)
structure Stands (f:List Res) (S:Str → Int → Prop):Prop where
  nodup:(f.map (·.1)).Nodup
  sound:∀ x d,(x,d) ∈ f → S x d ∧ ∀ c,S x c → d ≤ c
  all:∀ x c,S x c → ∃ d,(x,d) ∈ f
theorem add_mem {x:Str} {c:Int}:∀ {f:List Res} {y:Str} {d:Int},(f.map (·.1)).Nodup → ((y,d) ∈ addE f x c ↔ (y ≠ x ∧ (y,d) ∈ f) ∨ (y = x ∧ ((∃ e,(x,e) ∈ f ∧ d = min e c) ∨ ((∀ e,(x,e) ∉ f) ∧ d = c))))
  | [],y,d,_ => by simp [addE]
  | r :: f,y,d,hn => by
    obtain ⟨h1,h2⟩:=List.nodup_cons.1 hn
    unfold addE
    split
    · rename_i hx
      have hno:∀ e,(x,e) ∉ f:=fun e he => h1 (by show r.1 ∈ _; rw [hx]; exact List.mem_map_of_mem (f:=(·.1)) he)
      constructor
      · intro h
        rcases List.mem_cons.1 h with h | h
        · obtain ⟨rfl,rfl⟩:=Prod.mk.inj h
          exact .inr ⟨hx,.inl ⟨r.2,by rw [← hx]; exact List.mem_cons_self ..,rfl⟩⟩
        · by_cases hy:y = x
          · subst hy; exact absurd h (hno d)
          · exact .inl ⟨hy,List.mem_cons_of_mem _ h⟩
      · rintro (⟨hy,h⟩ | ⟨rfl,⟨e,he,rfl⟩ | ⟨h,rfl⟩⟩)
        · rcases List.mem_cons.1 h with h | h
          · exact absurd (by rw [← hx,← h]) hy
          · exact List.mem_cons_of_mem _ h
        · rcases List.mem_cons.1 he with h | h
          · rw [← h]; exact List.mem_cons_self ..
          · exact absurd h (hno e)
        · exact absurd (List.mem_cons_self ..) (by have:=h r.2; rw [← hx] at this; exact this)
    · rename_i hx
      have ih:=add_mem (x:=x) (c:=c) (f:=f) (y:=y) (d:=d) h2
      rw [List.mem_cons,ih]
      constructor
      · rintro (h | ⟨hy,h⟩ | ⟨hy,⟨e,he,hd⟩ | ⟨h,hd⟩⟩)
        · exact .inl ⟨fun e => hx (by rw [← h,e]),by rw [h]; exact List.mem_cons_self ..⟩
        · exact .inl ⟨hy,List.mem_cons_of_mem _ h⟩
        · exact .inr ⟨hy,.inl ⟨e,List.mem_cons_of_mem _ he,hd⟩⟩
        · refine .inr ⟨hy,.inr ⟨fun e he => ?_,hd⟩⟩
          rcases List.mem_cons.1 he with he | he
          · exact hx (by rw [← he])
          · exact h e he
      · rintro (⟨hy,h⟩ | ⟨hy,⟨e,he,hd⟩ | ⟨h,hd⟩⟩)
        · rcases List.mem_cons.1 h with h | h
          · exact .inl h
          · exact .inr (.inl ⟨hy,h⟩)
        · rcases List.mem_cons.1 he with he | he
          · exact absurd (by rw [← he]) hx
          · exact .inr (.inr ⟨hy,.inl ⟨e,he,hd⟩⟩)
        · exact .inr (.inr ⟨hy,.inr ⟨fun e he => h e (List.mem_cons_of_mem _ he),hd⟩⟩)
theorem add_keys {x:Str} {c:Int}:∀ {f:List Res} {y:Str},y ∈ (addE f x c).map (·.1) ↔ y ∈ f.map (·.1) ∨ y = x
  | [],y => by simp [addE]
  | r :: f,y => by
    unfold addE
    split
    · rename_i hx
      simp only [List.map_cons,List.mem_cons]
      constructor
      · exact .inl
      · rintro (h | h)
        · exact h
        · exact .inl (by rw [h,hx])
    · simp only [List.map_cons,List.mem_cons,add_keys (f:=f),or_assoc]
theorem add_nodup {x:Str} {c:Int}:∀ {f:List Res},(f.map (·.1)).Nodup → ((addE f x c).map (·.1)).Nodup
  | [],_ => by simp [addE]
  | r :: f,hn => by
    obtain ⟨h1,h2⟩:=List.nodup_cons.1 hn
    unfold addE
    split
    · exact hn
    · rename_i hx
      rw [List.map_cons,List.nodup_cons]
      refine ⟨fun h => ?_,add_nodup h2⟩
      rcases add_keys.1 h with h | h
      · exact h1 h
      · exact hx h
theorem add_stands {f:List Res} {S:Str → Int → Prop} {x:Str} {c:Int} (h:Stands f S):Stands (addE f x c) (fun y d => S y d ∨ (y = x ∧ d = c)):=by
  have hm:=fun y d => add_mem (x:=x) (c:=c) (f:=f) (y:=y) (d:=d) h.nodup
  refine ⟨add_nodup h.nodup,fun y d hd => ?_,fun y d hd => ?_⟩
  · rcases (hm y d).1 hd with ⟨hy,h1⟩ | ⟨rfl,⟨e,h1,rfl⟩ | ⟨h1,rfl⟩⟩
    · obtain ⟨k1,k2⟩:=h.sound y d h1
      exact ⟨.inl k1,fun c' hc' => hc'.elim (k2 c') fun hh => absurd hh.1 hy⟩
    · obtain ⟨k1,k2⟩:=h.sound y e h1
      refine ⟨?_,fun c' hc' => ?_⟩
      · by_cases hle:e ≤ c
        · rw [Int.min_eq_left hle]; exact .inl k1
        · rw [Int.min_eq_right (by omega)]; exact .inr ⟨rfl,rfl⟩
      · rcases hc' with hc' | ⟨_,rfl⟩
        · have:=k2 c' hc'; omega
        · omega
    · refine ⟨.inr ⟨rfl,rfl⟩,fun c' hc' => ?_⟩
      rcases hc' with hc' | ⟨_,rfl⟩
      · obtain ⟨e,he⟩:=h.all y c' hc'
        exact absurd he (h1 e)
      · omega
  · rcases hd with hd | ⟨rfl,rfl⟩
    · obtain ⟨e,he⟩:=h.all y d hd
      by_cases hy:y = x
      · subst hy
        exact ⟨min e c,(hm y _).2 (.inr ⟨rfl,.inl ⟨e,he,rfl⟩⟩)⟩
      · exact ⟨e,(hm y e).2 (.inl ⟨hy,he⟩)⟩
    · by_cases hh:∃ e,(y,e) ∈ f
      · obtain ⟨e,he⟩:=hh
        exact ⟨min e d,(hm y _).2 (.inr ⟨rfl,.inl ⟨e,he,rfl⟩⟩)⟩
      · exact ⟨d,(hm y d).2 (.inr ⟨rfl,.inr ⟨fun e he => hh ⟨e,he⟩,rfl⟩⟩)⟩
theorem stands_congr {f:List Res} {S T:Str → Int → Prop} (h:∀ x c,S x c ↔ T x c) (hf:Stands f S):Stands f T :=
  ⟨hf.nodup,fun x d hd => ⟨(h x d).1 (hf.sound x d hd).1,fun c hc => (hf.sound x d hd).2 c ((h x c).2 hc)⟩,fun x c hc => hf.all x c ((h x c).2 hc)⟩
theorem bit_add {s:Nat} (hs:s < 256) {i m:Nat} (hi:i < 8) (hm:m < 8) (h:s / 2 ^ i % 2 = 0):(s + 2 ^ i) / 2 ^ m % 2 = 1 ↔ (s / 2 ^ m % 2 = 1 ∨ m = i):=by
  have hi8:i = 0 ∨ i = 1 ∨ i = 2 ∨ i = 3 ∨ i = 4 ∨ i = 5 ∨ i = 6 ∨ i = 7:=by omega
  have hm8:m = 0 ∨ m = 1 ∨ m = 2 ∨ m = 3 ∨ m = 4 ∨ m = 5 ∨ m = 6 ∨ m = 7:=by omega
  rcases hi8 with rfl | rfl | rfl | rfl | rfl | rfl | rfl | rfl <;> rcases hm8 with rfl | rfl | rfl | rfl | rfl | rfl | rfl | rfl <;> simp only [Nat.reducePow] at h ⊢ <;> first | omega | (constructor <;> intro _ <;> first | omega | exact .inr trivial)
theorem bit_one {i m:Nat} (hi:i < 8) (hm:m < 8):2 ^ i / 2 ^ m % 2 = 1 ↔ m = i:=by
  have:=bit_add (s:=0) (by omega) hi hm (by simp)
  rw [Nat.zero_add] at this
  rw [this]
  simp
structure Visits (l:List Place) (p:Spot):Prop where
  bits:∀ m:Int,0 ≤ m → m < 8 → (hasBit p.2.2 m = true ↔ (m,p.1) ∈ l)
  le:∀ q,q ∈ l → q.2 ≤ p.1
theorem has_iff {s m:Int}:hasBit s m = true ↔ s.toNat / 2 ^ m.toNat % 2 = 1:=by simp [hasBit]
theorem visits_start:Visits [(0,0)] (0,0,1):=by
  refine ⟨fun m h0 h8 => ?_,fun q hq => by rw [List.mem_singleton.1 hq]; exact Int.le_refl _⟩
  rw [has_iff]
  have:=bit_one (i:=0) (m:=m.toNat) (by decide) (by omega)
  simp only [Nat.pow_zero] at this
  rw [show ((0,0,1):Spot).2.2.toNat = 1 from rfl,this]
  simp only [List.mem_singleton,Prod.mk.injEq,and_true]
  omega
variable {rs:List Rl} {acc:Int} {out:Str}
theorem visits_after {l:List Place} {p:Spot} {r:Rl} (hv:Visits l p) (hp:OkP out p) (hm:0 ≤ r.2.1 ∧ r.2.1 < 8) :
    ((r.1 = p.2.1 ∧ beginsE out p.1 r.2.2.2.1 = true ∧ (r.2.1,p.1 + (r.2.2.2.1.length:Int)) ∉ l) ↔ ∃ q,afterE out p r = some q) ∧
    ∀ q,afterE out p r = some q → q.1 = p.1 + (r.2.2.2.1.length:Int) ∧ q.2.1 = r.2.1 ∧ Visits (l ++ [(r.2.1,p.1 + (r.2.2.2.1.length:Int))]) q:=by
  unfold beginsE afterE
  by_cases ho:r.2.2.2.1 = []
  · have hl0:(r.2.2.2.1.length:Int) = 0:=by rw [ho]; rfl
    rw [hl0,Int.add_zero]
    have hb:=hv.bits r.2.1 hm.1 hm.2
    constructor
    · constructor
      · rintro ⟨h1,h2,h3⟩
        rw [if_pos ⟨h1,h2⟩,if_neg (by rw [ho]; exact fun h => h rfl),if_pos (Bool.eq_false_iff.2 fun hh => h3 (hb.1 hh))]
        exact ⟨_,rfl⟩
      · rintro ⟨q,hq⟩
        split at hq
        · rename_i h1
          rw [if_neg (by rw [ho]; exact fun h => h rfl)] at hq
          split at hq
          · rename_i h3
            exact ⟨h1.1,h1.2,fun hh => by rw [hb.2 hh] at h3; cases h3⟩
          · cases hq
        · cases hq
    · intro q hq
      split at hq
      · rw [if_neg (by rw [ho]; exact fun h => h rfl)] at hq
        split at hq
        · rename_i h3
          injection hq with hq
          subst hq
          refine ⟨rfl,rfl,fun m h0 h8 => ?_,fun x hx => ?_⟩
          · dsimp only
            have hcl:p.2.2.toNat / 2 ^ r.2.1.toNat % 2 = 0:=by
              have:=Bool.eq_false_iff.1 h3
              rw [ne_eq,has_iff] at this
              omega
            have h2:=bit_add (s:=p.2.2.toNat) (by have:=hp.seen; omega) (i:=r.2.1.toNat) (m:=m.toNat) (by omega) (by omega) hcl
            have e:(p.2.2 + bitOf r.2.1).toNat = p.2.2.toNat + 2 ^ r.2.1.toNat:=by
              have:=hp.seen
              have hb:bitOf r.2.1 = ((2 ^ r.2.1.toNat:Nat):Int):=rfl
              rw [hb]
              generalize 2 ^ r.2.1.toNat = z
              omega
            rw [has_iff,e,h2,List.mem_append,List.mem_singleton,← has_iff,hv.bits m h0 h8,Prod.mk.injEq]
            constructor
            · rintro (h | h)
              · exact .inl h
              · exact .inr ⟨by omega,rfl⟩
            · rintro (h | h)
              · exact .inl h
              · exact .inr (by omega)
          · dsimp only
            rcases List.mem_append.1 hx with hx | hx
            · exact hv.le x hx
            · rw [List.mem_singleton.1 hx]; exact Int.le_refl _
        · cases hq
      · cases hq
  · have hl0:0 < r.2.2.2.1.length:=List.length_pos_iff.2 ho
    have hnew:(r.2.1,p.1 + (r.2.2.2.1.length:Int)) ∉ l:=fun hh => by have:=hv.le _ hh; dsimp only at this; omega
    constructor
    · constructor
      · rintro ⟨h1,h2,_⟩
        rw [if_pos ⟨h1,h2⟩,if_pos ho]
        exact ⟨_,rfl⟩
      · rintro ⟨q,hq⟩
        split at hq
        · rename_i h1
          exact ⟨h1.1,h1.2,hnew⟩
        · cases hq
    · intro q hq
      split at hq
      · injection hq with hq
        subst hq
        refine ⟨rfl,rfl,fun m h0 h8 => ?_,fun x hx => ?_⟩
        · dsimp only
          have e:(bitOf r.2.1).toNat = 2 ^ r.2.1.toNat:=Int.toNat_natCast _
          rw [has_iff,e,bit_one (by omega) (by omega),List.mem_append,List.mem_singleton,Prod.mk.injEq]
          constructor
          · intro h
            exact .inr ⟨by omega,rfl⟩
          · rintro (h | h)
            · have:=hv.le _ h; dsimp only at this; omega
            · omega
        · dsimp only
          rcases List.mem_append.1 hx with hx | hx
          · have:=hv.le x hx; omega
          · rw [List.mem_singleton.1 hx]; exact Int.le_refl _
      · cases hq
def FoundS (rs:List Rl) (acc:Int) (out:Str) (p:Spot) (x:Str) (c:Int) (z:Str) (d:Int):Prop:=∃ y e,Path rs acc out p y e ∧ z = x ++ y ∧ d = c + e ∧ z.length ≤ 40
theorem find_stands (h:OkR rs):∀ (n:Nat) (l:List Place) (p:Spot) (x:Str) (c:Int) (f:List Res) (S:Str → Int → Prop),OkP out p → ms out p < n → Visits l p → Stands f S → Stands (findF rs acc out n l (p.2.1,p.1) x c f) (fun z d => S z d ∨ FoundS rs acc out p x c z d):=by
  intro n
  induction n with
  | zero => intro _ _ _ _ _ _ _ hn; exact absurd hn (Nat.not_lt_zero _)
  | succ n ih =>
    intro l p x c f S hp hn hv hf
    rw [findF]
    have hstart:Stands (if (p.2.1,p.1).2 = (out.length:Int) ∧ hasBit acc (p.2.1,p.1).1 = true ∧ x.length ≤ 40 then addE f x c else f) (fun z d => S z d ∨ (endsE acc out p = true ∧ x.length ≤ 40 ∧ z = x ∧ d = c)):=by
      split
      · rename_i hc
        refine stands_congr (fun z d => ?_) (add_stands hf)
        have he:endsE acc out p = true:=by
          unfold endsE
          rw [Bool.and_eq_true,decide_eq_true_eq]
          exact ⟨hc.1,hc.2.1⟩
        constructor
        · rintro (h1 | ⟨h1,h2⟩)
          · exact .inl h1
          · exact .inr ⟨he,hc.2.2,h1,h2⟩
        · rintro (h1 | ⟨_,_,h1,h2⟩)
          · exact .inl h1
          · exact .inr ⟨h1,h2⟩
      · rename_i hc
        refine stands_congr (fun z d => ?_) hf
        constructor
        · exact .inl
        · rintro (h1 | ⟨h1,h2,_⟩)
          · exact h1
          · unfold endsE at h1
            rw [Bool.and_eq_true,decide_eq_true_eq] at h1
            exact absurd ⟨h1.1,h1.2,h2⟩ hc
    have hfold:∀ (l2:List Rl) (f:List Res) (S:Str → Int → Prop),(∀ r,r ∈ l2 → r ∈ rs) → Stands f S →
        Stands (l2.foldl (fun f r => if r.1 = (p.2.1,p.1).1 ∧ beginsE out (p.2.1,p.1).2 r.2.2.2.1 = true ∧ (r.2.1,(p.2.1,p.1).2 + (r.2.2.2.1.length:Int)) ∉ l then findF rs acc out n (l ++ [(r.2.1,(p.2.1,p.1).2 + (r.2.2.2.1.length:Int))]) (r.2.1,(p.2.1,p.1).2 + (r.2.2.2.1.length:Int)) (x ++ r.2.2.1) (c + r.2.2.2.2) f else f) f)
          (fun z d => S z d ∨ ∃ r q,r ∈ l2 ∧ afterE out p r = some q ∧ FoundS rs acc out q (x ++ r.2.2.1) (c + r.2.2.2.2) z d):=by
      intro l2
      induction l2 with
      | nil => intro f S _ hf; exact stands_congr (fun z d => by simp) hf
      | cons r l2 ih2 =>
        intro f S hl2 hf
        rw [List.foldl_cons]
        have hr:=hl2 r (List.mem_cons_self ..)
        obtain ⟨v1,v2⟩:=visits_after (out:=out) hv hp (h.mode r hr)
        dsimp only
        split
        · rename_i hc
          obtain ⟨q,hq⟩:=v1.1 hc
          obtain ⟨k1,k2,k3⟩:=v2 q hq
          obtain ⟨o1,o2,_⟩:=after_ok hp (h.mode r hr) hq
          have:=ih (l ++ [(r.2.1,p.1 + (r.2.2.2.1.length:Int))]) q (x ++ r.2.2.1) (c + r.2.2.2.2) f S o1 (by omega) k3 hf
          rw [k1,k2] at this
          refine stands_congr (fun z d => ?_) (ih2 _ _ (fun a ha => hl2 a (List.mem_cons_of_mem _ ha)) this)
          constructor
          · rintro ((h1 | h1) | ⟨r',q',h1,h2,h3⟩)
            · exact .inl h1
            · exact .inr ⟨r,q,List.mem_cons_self ..,hq,h1⟩
            · exact .inr ⟨r',q',List.mem_cons_of_mem _ h1,h2,h3⟩
          · rintro (h1 | ⟨r',q',h1,h2,h3⟩)
            · exact .inl (.inl h1)
            · rcases List.mem_cons.1 h1 with rfl | h1
              · rw [hq] at h2
                injection h2 with h2
                subst h2
                exact .inl (.inr h3)
              · exact .inr ⟨r',q',h1,h2,h3⟩
        · rename_i hc
          refine stands_congr (fun z d => ?_) (ih2 _ _ (fun a ha => hl2 a (List.mem_cons_of_mem _ ha)) hf)
          constructor
          · rintro (h1 | ⟨r',q',h1,h2,h3⟩)
            · exact .inl h1
            · exact .inr ⟨r',q',List.mem_cons_of_mem _ h1,h2,h3⟩
          · rintro (h1 | ⟨r',q',h1,h2,h3⟩)
            · exact .inl h1
            · rcases List.mem_cons.1 h1 with rfl | h1
              · exact absurd (v1.2 ⟨q',h2⟩) hc
              · exact .inr ⟨r',q',h1,h2,h3⟩
    refine stands_congr (fun z d => ?_) (hfold rs _ _ (fun r hr => hr) hstart)
    constructor
    · rintro ((h1 | ⟨h1,h2,rfl,rfl⟩) | ⟨r,q,hr,hq,y,e,h1,rfl,rfl,h4⟩)
      · exact .inl h1
      · exact .inr ⟨[],0,.done h1,by simp,by omega,h2⟩
      · exact .inr ⟨r.2.2.1 ++ y,r.2.2.2.2 + e,.step hr hq h1,by rw [List.append_assoc],by omega,h4⟩
    · rintro (h1 | ⟨y,e,h1,rfl,rfl,h4⟩)
      · exact .inl (.inl h1)
      · cases h1 with
        | done he => exact .inl (.inr ⟨he,by simpa using h4,by simp,by omega⟩)
        | @step _ q r y e hr hq hp' => exact .inr ⟨r,q,hr,hq,y,e,hp',by rw [List.append_assoc],by omega,h4⟩
def insE (l:List Res) (x:Res):List Res:=l.takeWhile (fun y => lessR y x) ++ x :: l.dropWhile (fun y => lessR y x)
def allE (rs:List Rl) (acc:Int) (out:Str):List Res:=(findF rs acc out (out.length * 256 + 256) [(0,0)] (0,0) [] 0 []).foldl insE []
theorem lessR_total {a b:Res} (h:a.1 ≠ b.1) (h':lessR a b = false):lessR b a = true:=by
  have h2:=fun hh => Bool.eq_false_iff.1 h' (lessR_iff.2 hh)
  rw [lessR_iff]
  by_cases k1:b.2 < a.2
  · exact .inl k1
  · have k2:a.2 = b.2:=by
      by_cases k:a.2 < b.2
      · exact absurd (.inl k) h2
      · omega
    by_cases k3:b.1.length < a.1.length
    · exact .inr ⟨k2.symm,.inl k3⟩
    · have k4:a.1.length = b.1.length:=by
        by_cases k:a.1.length < b.1.length
        · exact absurd (.inr ⟨k2,.inl k⟩) h2
        · omega
      exact .inr ⟨k2.symm,.inr ⟨k4.symm,bl_total h (Bool.eq_false_iff.2 fun hh => h2 (.inr ⟨k2,.inr ⟨k4,hh⟩⟩))⟩⟩
theorem drop_srt:∀ {l:List Res} {x:Res},l.Pairwise (fun a b => lessR a b = true) → (∀ a,a ∈ l → a.1 ≠ x.1) → ∀ a,a ∈ l.dropWhile (fun y => lessR y x) → lessR x a = true
  | [],_,_,_,a,ha => by cases ha
  | b :: l,x,hs,hn,a,ha => by
    obtain ⟨p,q⟩:=List.pairwise_cons.1 hs
    rw [List.dropWhile_cons] at ha
    split at ha
    · exact drop_srt q (fun c hc => hn c (List.mem_cons_of_mem _ hc)) a ha
    · rename_i hb
      have hxb:=lessR_total (hn b (List.mem_cons_self ..)) (Bool.eq_false_iff.2 hb)
      rcases List.mem_cons.1 ha with rfl | ha
      · exact hxb
      · exact lessR_trans hxb (p a ha)
theorem mem_takeWhile {α:Type} {p:α → Bool}:∀ {l:List α} {a:α},a ∈ l.takeWhile p → p a = true
  | [],_,h => by cases h
  | b :: l,a,h => by
    rw [List.takeWhile_cons] at h
    split at h
    · rename_i hb
      rcases List.mem_cons.1 h with rfl | h
      · exact hb
      · exact mem_takeWhile h
    · cases h
theorem ins_srt {l:List Res} {x:Res} (hs:l.Pairwise (fun a b => lessR a b = true)) (hn:∀ a,a ∈ l → a.1 ≠ x.1):(insE l x).Pairwise (fun a b => lessR a b = true):=by
  unfold insE
  rw [List.pairwise_append]
  have hd:=drop_srt hs hn
  refine ⟨hs.sublist (List.takeWhile_sublist _),List.Pairwise.cons hd (hs.sublist (List.dropWhile_sublist _)),fun a ha b hb => ?_⟩
  have ha':=mem_takeWhile ha
  rcases List.mem_cons.1 hb with rfl | hb
  · exact ha'
  · exact lessR_trans ha' (hd b hb)
theorem ins_mem {l:List Res} {x y:Res}:y ∈ insE l x ↔ y = x ∨ y ∈ l:=by
  unfold insE
  rw [List.mem_append,List.mem_cons]
  conv => rhs; rw [← List.takeWhile_append_dropWhile (p:=fun y => lessR y x) (l:=l),List.mem_append]
  constructor
  · rintro (h | h | h)
    · exact .inr (.inl h)
    · exact .inl h
    · exact .inr (.inr h)
  · rintro (h | h | h)
    · exact .inr (.inl h)
    · exact .inl h
    · exact .inr (.inr h)
theorem fold_ins:∀ (f l:List Res),l.Pairwise (fun a b => lessR a b = true) → (f.map (·.1)).Nodup → (∀ a,a ∈ l → a.1 ∉ f.map (·.1)) → (f.foldl insE l).Pairwise (fun a b => lessR a b = true) ∧ ∀ y,y ∈ f.foldl insE l ↔ y ∈ l ∨ y ∈ f
  | [],l,hs,_,_ => ⟨hs,fun y => by simp⟩
  | x :: f,l,hs,hn,hd => by
    obtain ⟨n1,n2⟩:=List.nodup_cons.1 hn
    have hx:∀ a,a ∈ l → a.1 ≠ x.1:=fun a ha e => hd a ha (by rw [e]; exact List.mem_cons_self ..)
    obtain ⟨k1,k2⟩:=fold_ins f (insE l x) (ins_srt hs hx) n2 fun a ha => by
      rcases ins_mem.1 ha with rfl | ha
      · exact n1
      · exact fun hh => hd a ha (List.mem_cons_of_mem _ hh)
    refine ⟨k1,fun y => ?_⟩
    rw [List.foldl_cons,k2,ins_mem,List.mem_cons]
    constructor
    · rintro ((h | h) | h)
      · exact .inr (.inl h)
      · exact .inl h
      · exact .inr (.inr h)
    · rintro (h | h | h)
      · exact .inl (.inr h)
      · exact .inl (.inl h)
      · exact .inr h
theorem all_all (h:OkR rs):IsAll rs acc out (allE rs acc out):=by
  have hs:=find_stands (acc:=acc) (out:=out) h (out.length * 256 + 256) [(0,0)] (0,0,1) [] 0 [] (fun _ _ => False) (start_ok out) (by have:=ms_le (out:=out) (p:=(0,0,1)); omega) visits_start ⟨List.nodup_nil,fun x d hd => absurd hd List.not_mem_nil,fun x c hc => hc.elim⟩
  have hS:∀ z d,(False ∨ FoundS rs acc out (0,0,1) [] 0 z d) ↔ Inp rs acc out z d ∧ z.length ≤ 40:=fun z d => by
    constructor
    · rintro (h1 | ⟨y,e,h1,rfl,rfl,h4⟩)
      · exact h1.elim
      · exact ⟨by simpa [Inp] using h1,h4⟩
    · rintro ⟨h1,h2⟩
      exact .inr ⟨z,d,h1,by simp,by omega,h2⟩
  have hs2:=stands_congr hS hs
  obtain ⟨k1,k2⟩:=fold_ins _ [] List.Pairwise.nil hs2.nodup fun a ha => absurd ha List.not_mem_nil
  refine ⟨k1,fun x d => ?_⟩
  unfold allE
  rw [k2]
  constructor
  · rintro (h1 | h1)
    · exact absurd h1 List.not_mem_nil
    · obtain ⟨q1,q2⟩:=hs2.sound x d h1
      exact ⟨⟨q1.1,fun c hc => q2 c ⟨hc,q1.2⟩⟩,q1.2⟩
  · rintro ⟨⟨h1,h2⟩,h3⟩
    obtain ⟨e,he⟩:=hs2.all x d ⟨h1,h3⟩
    obtain ⟨q1,q2⟩:=hs2.sound x e he
    have h4:=q2 d ⟨h1,h3⟩
    have h5:=h2 e q1.1
    have e1:e = d:=by omega
    subst e1
    exact .inr he
end Go.Proofs.Ytefpgfdemmllpaa.Rev
namespace Go.Proofs.Ytefpgfdemmllpaa.Rev
set_option maxHeartbeats 1000000
variable {rs:List Rl} {acc:Int} {out:Str}
def isLet (u:UInt8):Prop:=97 ≤ u.toNat ∧ u.toNat ≤ 122
def OkIn (rs:List Rl):Prop:=∀ r,r ∈ rs → ∀ u,u ∈ r.2.2.1 → isLet u
theorem path_let (h:OkIn rs) {p:Spot} {x:Str} {c:Int} (hp:Path rs acc out p x c):∀ u,u ∈ x → isLet u:=by
  induction hp with
  | done => intro u hu; cases hu
  | step hr _ _ ih =>
    intro u hu
    rcases List.mem_append.1 hu with hu | hu
    · exact h _ hr u hu
    · exact ih u hu
def lettersFrom:Nat → Nat → List UInt8
  | 0,_ => []
  | n + 1,k => UInt8.ofNat (97 + k) :: lettersFrom n (k + 1)
def letters:List UInt8:=lettersFrom 26 0
theorem letters_eq:letters = [97,98,99,100,101,102,103,104,105,106,107,108,109,110,111,112,113,114,115,116,117,118,119,120,121,122]:=by decide
theorem mem_letters {u:UInt8}:u ∈ letters ↔ isLet u:=by
  rw [letters_eq]
  unfold isLet
  constructor
  · intro h
    simp only [List.mem_cons,List.not_mem_nil,or_false] at h
    rcases h with rfl | rfl | rfl | rfl | rfl | rfl | rfl | rfl | rfl | rfl | rfl | rfl | rfl | rfl | rfl | rfl | rfl | rfl | rfl | rfl | rfl | rfl | rfl | rfl | rfl | rfl <;> decide
  · intro h
    have hu:u = UInt8.ofNat u.toNat:=by simp
    obtain ⟨h1,h2⟩:=h
    generalize u.toNat = n at hu h1 h2
    have:n = 97 ∨ n = 98 ∨ n = 99 ∨ n = 100 ∨ n = 101 ∨ n = 102 ∨ n = 103 ∨ n = 104 ∨ n = 105 ∨ n = 106 ∨ n = 107 ∨ n = 108 ∨ n = 109 ∨ n = 110 ∨ n = 111 ∨ n = 112 ∨ n = 113 ∨ n = 114 ∨ n = 115 ∨ n = 116 ∨ n = 117 ∨ n = 118 ∨ n = 119 ∨ n = 120 ∨ n = 121 ∨ n = 122:=by omega
    rcases this with rfl | rfl | rfl | rfl | rfl | rfl | rfl | rfl | rfl | rfl | rfl | rfl | rfl | rfl | rfl | rfl | rfl | rfl | rfl | rfl | rfl | rfl | rfl | rfl | rfl | rfl <;> (rw [hu]; decide)
theorem letters_nodup:letters.Nodup:=by rw [letters_eq]; decide
def doneC (x:Str) (o:Option Price):List FE:=match o with | some w => [(x,true,w)] | none => []
def longC (x:Str) (g:UInt8 → Option Price) (l:List UInt8):List FE:=l.filterMap fun a => match g a with | some w => some (x ++ [a],false,w) | none => none
theorem mem_doneC {x:Str} {o:Option Price} {a:FE}:a ∈ doneC x o ↔ ∃ w,o = some w ∧ a = (x,true,w):=by
  unfold doneC
  cases o with
  | none => simp
  | some w => simp
theorem mem_longC {x:Str} {g:UInt8 → Option Price} {l:List UInt8} {a:FE}:a ∈ longC x g l ↔ ∃ u w,u ∈ l ∧ g u = some w ∧ a = (x ++ [u],false,w):=by
  unfold longC
  rw [List.mem_filterMap]
  constructor
  · rintro ⟨u,hu,h⟩
    cases hg:g u with
    | none => rw [hg] at h; cases h
    | some w => rw [hg] at h; exact ⟨u,w,hu,hg,(Option.some.inj h).symm⟩
  · rintro ⟨u,w,hu,hg,rfl⟩
    exact ⟨u,hu,by rw [hg]⟩
theorem cov_long {x:Str} {u:UInt8} {w:Price} {z:Str} (h:covers (x ++ [u],false,w) z):∃ t,z = x ++ u :: t:=by
  unfold covers at h
  rw [if_neg (show ¬ (false = true) by decide)] at h
  obtain ⟨t,ht⟩:=h
  exact ⟨t,by rw [← ht]; simp⟩
theorem grow_front (h:OkR rs) (hlet:OkIn rs) {H:List FE} {R:List Res} {e:FE} (hf:Front rs acc out (e :: H) R) (hd:e.2.1 = false) {o:Option Price} (ho:IsMin (wholeS rs acc out e.1) o) {g:UInt8 → Option Price} (hg:∀ a,a ∈ letters → IsMin (leastS rs acc out (e.1 ++ [a])) (g a)) :
    Front rs acc out (H ++ (doneC e.1 o ++ longC e.1 g letters)) R:=by
  have h40:e.1.length ≤ 40:=by
    obtain ⟨y,c,_,hl,_⟩:=(hf.live e (List.mem_cons_self ..) hd).1
    rw [List.length_append] at hl
    omega
  refine front_grow hf hd (fun a ha hf => ?_) (fun a ha ht => ?_) (fun z c hi hl hp => ?_) (fun a ha z hc => ?_) ?_
  · rcases List.mem_append.1 ha with ha | ha
    · obtain ⟨w,_,rfl⟩:=mem_doneC.1 ha
      cases hf
    · obtain ⟨u,w,hu,hw,rfl⟩:=mem_longC.1 ha
      have:=hg u hu
      rw [hw] at this
      exact this
  · rcases List.mem_append.1 ha with ha | ha
    · obtain ⟨w,rfl,rfl⟩:=mem_doneC.1 ha
      exact ⟨ho,h40⟩
    · obtain ⟨u,w,hu,hw,rfl⟩:=mem_longC.1 ha
      cases ht
  · obtain ⟨t,rfl⟩:=hp
    cases t with
    | nil =>
      rw [List.append_nil] at hi
      cases o with
      | none => exact absurd ⟨c,hi,rfl⟩ (ho _)
      | some w =>
        refine ⟨_,List.mem_append_left _ (mem_doneC.2 ⟨w,rfl,rfl⟩),?_⟩
        unfold covers
        rw [if_pos rfl,List.append_nil]
    | cons u t =>
      have hu:u ∈ letters:=mem_letters.2 (path_let hlet hi u (by simp))
      have hm:=hg u hu
      have e2:e.1 ++ u :: t = e.1 ++ [u] ++ t:=by simp
      rw [e2] at hi hl
      cases hgu:g u with
      | none =>
        rw [hgu] at hm
        exact absurd ⟨t,c,hi,hl,rfl⟩ (hm _)
      | some w =>
        refine ⟨_,List.mem_append_right _ (mem_longC.2 ⟨u,w,hu,hgu,rfl⟩),?_⟩
        unfold covers
        rw [if_neg (show ¬ (false = true) by decide),e2]
        exact List.prefix_append ..
  · rcases List.mem_append.1 ha with ha | ha
    · obtain ⟨w,_,rfl⟩:=mem_doneC.1 ha
      unfold covers at hc
      rw [if_pos rfl] at hc
      rw [← hc]
      exact List.prefix_refl _
    · obtain ⟨u,w,hu,hw,rfl⟩:=mem_longC.1 ha
      obtain ⟨t,rfl⟩:=cov_long hc
      exact List.prefix_append ..
  · rw [List.pairwise_append]
    refine ⟨?_,?_,fun a ha b hb z h1 h2 => ?_⟩
    · unfold doneC
      cases o with
      | none => exact List.Pairwise.nil
      | some w => exact List.pairwise_singleton ..
    · unfold longC
      rw [List.pairwise_filterMap]
      refine List.Pairwise.imp ?_ letters_nodup
      intro a b hab a' ha' b' hb' z h1 h2
      cases hga:g a with
      | none => rw [hga] at ha'; cases ha'
      | some w =>
        cases hgb:g b with
        | none => rw [hgb] at hb'; cases hb'
        | some w' =>
          rw [hga] at ha'
          rw [hgb] at hb'
          obtain rfl:=Option.some.inj ha'
          obtain rfl:=Option.some.inj hb'
          obtain ⟨t,rfl⟩:=cov_long h1
          obtain ⟨t',ht'⟩:=cov_long h2
          have:=List.append_cancel_left ht'
          injection this with h3 _
          exact hab h3
    · obtain ⟨w,_,rfl⟩:=mem_doneC.1 ha
      obtain ⟨u,w',hu,hw,rfl⟩:=mem_longC.1 hb
      obtain ⟨t,rfl⟩:=cov_long h2
      unfold covers at h1
      rw [if_pos rfl] at h1
      have:=congrArg List.length h1
      simp at this
theorem path_trim {K:List Rl} {R L:Int → Prop} (hK:∀ r,r ∈ rs → R r.1 → L r.2.1 → r ∈ K) (hR:∀ r,r ∈ rs → R r.1 → R r.2.1) (hacc:∀ m,hasBit acc m = true → L m) (hL:∀ r,r ∈ rs → L r.2.1 → L r.1) {p:Spot} {x:Str} {c:Int} (hp:Path rs acc out p x c):R p.2.1 → Path K acc out p x c ∧ L p.2.1:=by
  induction hp with
  | @done p h =>
    intro _
    refine ⟨.done h,hacc _ ?_⟩
    unfold endsE at h
    rw [Bool.and_eq_true] at h
    exact h.2
  | @step p q r x c hr ha _ ih =>
    intro hRp
    have hfrom:r.1 = p.2.1:=by
      unfold afterE at ha
      split at ha
      · rename_i h; exact h.1
      · cases ha
    have hto:q.2.1 = r.2.1:=by
      unfold afterE at ha
      split at ha
      · split at ha
        · injection ha with ha; subst ha; rfl
        · split at ha
          · injection ha with ha; subst ha; rfl
          · cases ha
      · cases ha
    have h1:=hR r hr (by rw [hfrom]; exact hRp)
    obtain ⟨k1,k2⟩:=ih (by rw [hto]; exact h1)
    rw [hto] at k2
    exact ⟨.step (hK r hr (by rw [hfrom]; exact hRp) k2) ha k1,by rw [← hfrom]; exact hL r hr k2⟩
theorem path_mono {K:List Rl} (hK:∀ r,r ∈ K → r ∈ rs) {p:Spot} {x:Str} {c:Int} (hp:Path K acc out p x c):Path rs acc out p x c:=by
  induction hp with
  | done h => exact .done h
  | step hr ha _ ih => exact .step (hK _ hr) ha ih
theorem isAll_congr {K:List Rl} (h:∀ x c,Inp K acc out x c ↔ Inp rs acc out x c) {L:List Res} (hL:IsAll K acc out L):IsAll rs acc out L :=
  ⟨hL.srt,fun x d => by
    rw [hL.mem]
    unfold MinI
    rw [h]
    constructor
    · rintro ⟨⟨a,b⟩,c⟩
      exact ⟨⟨a,fun e he => b e ((h x e).2 he)⟩,c⟩
    · rintro ⟨⟨a,b⟩,c⟩
      exact ⟨⟨a,fun e he => b e ((h x e).1 he)⟩,c⟩⟩
def pot (U:List Thread) (B:Nat) (V:Thread → Option Int):Nat:=(U.map fun t => match V t with | some c => c.toNat | none => B).sum
theorem pot_le {U:List Thread} {B:Nat} {V W:Thread → Option Int} (h:∀ t,t ∈ U → (match W t with | some c => c.toNat | none => B) ≤ (match V t with | some c => c.toNat | none => B)):pot U B W ≤ pot U B V:=by
  unfold pot
  induction U with
  | nil => exact Nat.le_refl _
  | cons t U ih =>
    have h1:=h t (List.mem_cons_self ..)
    have h2:=ih fun u hu => h u (List.mem_cons_of_mem _ hu)
    simp only [List.map_cons,List.sum_cons]
    omega
theorem pot_lt {U:List Thread} {B:Nat} {V W:Thread → Option Int} {k:Thread} (hk:k ∈ U) (h:∀ t,t ∈ U → (match W t with | some c => c.toNat | none => B) ≤ (match V t with | some c => c.toNat | none => B)) (hlt:(match W k with | some c => c.toNat | none => B) < (match V k with | some c => c.toNat | none => B)):pot U B W < pot U B V:=by
  unfold pot
  induction U with
  | nil => cases hk
  | cons t U ih =>
    have h1:=h t (List.mem_cons_self ..)
    simp only [List.map_cons,List.sum_cons]
    rcases List.mem_cons.1 hk with rfl | hk
    · have h2:=pot_le (U:=U) (B:=B) (V:=V) (W:=W) fun u hu => h u (List.mem_cons_of_mem _ hu)
      unfold pot at h2
      omega
    · have h2:=ih hk fun u hu => h u (List.mem_cons_of_mem _ hu)
      omega
def spots (n:Nat):List Spot:=(List.range (n + 1)).flatMap fun (a:Nat) => (List.range 8).flatMap fun (m:Nat) => (List.range 256).map fun (s:Nat) => ((a:Int),(m:Int),(s:Int))
theorem mem_spots {n:Nat} {p:Spot} (h1:0 ≤ p.1 ∧ p.1 ≤ n) (h2:0 ≤ p.2.1 ∧ p.2.1 < 8) (h3:0 ≤ p.2.2 ∧ p.2.2 < 256):p ∈ spots n:=by
  unfold spots
  refine List.mem_flatMap.2 ⟨p.1.toNat,List.mem_range.2 (by omega),List.mem_flatMap.2 ⟨p.2.1.toNat,List.mem_range.2 (by omega),List.mem_map.2 ⟨p.2.2.toNat,List.mem_range.2 (by omega),?_⟩⟩⟩
  exact Prod.ext (by dsimp only; omega) (Prod.ext (by dsimp only; omega) (by dsimp only; omega))
theorem thr_bound (h:OkR rs) {x m:Str} {p:Spot} {c:Int} (ht:Thr rs out x p m c):c + 1000 * (ms out p:Int) ≤ 1000 * ((out.length * 256 + 255:Nat):Int):=by
  induction ht with
  | start =>
    have:=ms_le (out:=out) (p:=(0,0,1))
    omega
  | @rule x p q r c ht hr ha ih =>
    have:=(after_ok (thr_ok h ht) (h.mode r hr) ha).2.1
    have:=(h.cost r hr).2
    omega
  | eat _ ih => exact ih
end Go.Proofs.Ytefpgfdemmllpaa.Rev
namespace Go.Proofs.Ytefpgfdemmllpaa.Rev
set_option maxHeartbeats 1000000
def lexL:List Int → List Int → Bool
  | a :: x,b :: y => decide (a < b) || (decide (a = b) && lexL x y)
  | _,_ => false
def befE (c1:Int) (l1:List Int) (c2:Int) (l2:List Int):Bool:=decide (c1 < c2 ∨ c1 = c2 ∧ (l1.length < l2.length ∨ l1.length = l2.length ∧ lexL l1 l2 = true))
theorem lexL_irr:∀ l,lexL l l = false
  | [] => rfl
  | a :: l => by simp [lexL,lexL_irr l]
theorem lexL_trans:∀ {x y z:List Int},lexL x y = true → lexL y z = true → lexL x z = true
  | [],_,_,h,_ => by simp [lexL] at h
  | _ :: _,[],_,h,_ => by simp [lexL] at h
  | _ :: _,_ :: _,[],_,h => by simp [lexL] at h
  | a :: x,b :: y,c :: z,h1,h2 => by
    simp only [lexL,Bool.or_eq_true,Bool.and_eq_true,decide_eq_true_eq] at *
    rcases h1 with h1 | ⟨h1,h1'⟩ <;> rcases h2 with h2 | ⟨h2,h2'⟩
    · exact .inl (by omega)
    · exact .inl (by omega)
    · exact .inl (by omega)
    · exact .inr ⟨by omega,lexL_trans h1' h2'⟩
theorem lexL_total:∀ {x y:List Int},x.length = y.length → x = y ∨ lexL x y = true ∨ lexL y x = true
  | [],[],_ => .inl rfl
  | [],_ :: _,h => by simp at h
  | _ :: _,[],h => by simp at h
  | a :: x,b :: y,h => by
    simp only [lexL,Bool.or_eq_true,Bool.and_eq_true,decide_eq_true_eq]
    rcases Int.lt_trichotomy a b with h1 | h1 | h1
    · exact .inr (.inl (.inl h1))
    · subst h1
      rcases lexL_total (x:=x) (y:=y) (by simpa using h) with h2 | h2 | h2
      · exact .inl (by rw [h2])
      · exact .inr (.inl (.inr ⟨rfl,h2⟩))
      · exact .inr (.inr (.inr ⟨rfl,h2⟩))
    · exact .inr (.inr (.inl h1))
theorem befE_iff {c1:Int} {l1:List Int} {c2:Int} {l2:List Int}:befE c1 l1 c2 l2 = true ↔ (c1 < c2 ∨ c1 = c2 ∧ (l1.length < l2.length ∨ l1.length = l2.length ∧ lexL l1 l2 = true)):=by
  unfold befE; rw [decide_eq_true_eq]
abbrev Pl:=Int × Int × Int
def fitsP (inp out:Str) (p:Pl) (r:Rl):Option Pl :=
  if r.1 = p.2.2 ∧ r.2.2.1.isPrefixOf (inp.drop p.1.toNat) = true ∧ r.2.2.2.1.isPrefixOf (out.drop p.2.1.toNat) = true then some (p.1 + (r.2.2.1.length:Int),p.2.1 + (r.2.2.2.1.length:Int),r.2.1) else none
def doneP (acc:Int) (inp out:Str) (p:Pl):Bool:=decide (p.1 = inp.length ∧ p.2.1 = out.length) && hasBit acc p.2.2
inductive Way (rs:List Rl) (acc:Int) (inp out:Str):Pl → List Int → Int → Prop where
  | done {p:Pl} (h:doneP acc inp out p = true):Way rs acc inp out p [] 0
  | step {p q:Pl} {k:Nat} {r:Rl} {l:List Int} {c:Int} (hr:rs[k]? = some r) (h:fitsP inp out p r = some q) (hw:Way rs acc inp out q l c):Way rs acc inp out p ((k:Int) :: l) (r.2.2.2.2 + c)
def NoLoop (rs:List Rl):Prop:=∀ r,r ∈ rs → r.2.2.1 ≠ [] ∨ r.1 < r.2.1
structure OkL (inp out:Str) (p:Pl):Prop where
  i0:0 ≤ p.1 ∧ p.1 ≤ inp.length
  o0:0 ≤ p.2.1 ∧ p.2.1 ≤ out.length
  m0:0 ≤ p.2.2 ∧ p.2.2 < 8
def mp (inp:Str) (p:Pl):Nat:=(inp.length - p.1.toNat) * 8 + (7 - p.2.2.toNat)
variable {rs:List Rl} {acc:Int} {inp out:Str}
theorem fits_ok (h:OkR rs) (hn:NoLoop rs) {p q:Pl} {r:Rl} (hp:OkL inp out p) (hr:r ∈ rs) (hf:fitsP inp out p r = some q):OkL inp out q ∧ mp inp q < mp inp p:=by
  obtain ⟨⟨a0,a1⟩,⟨b0,b1⟩,c0,c1⟩:=hp
  unfold fitsP at hf
  split at hf
  case isFalse => cases hf
  rename_i hh
  obtain ⟨h1,h2,h3⟩:=hh
  injection hf with hf
  subst hf
  have l1:=(List.isPrefixOf_iff_prefix.1 h2).length_le
  have l2:=(List.isPrefixOf_iff_prefix.1 h3).length_le
  rw [List.length_drop] at l1 l2
  have hm:=h.mode r hr
  refine ⟨⟨by dsimp only; omega,by dsimp only; omega,by dsimp only; omega⟩,?_⟩
  unfold mp
  dsimp only
  rcases hn r hr with hi | hi
  · have:0 < r.2.2.1.length:=List.length_pos_iff.2 hi
    omega
  · omega
theorem way_len (h:OkR rs) (hn:NoLoop rs) {p:Pl} {l:List Int} {c:Int} (hw:Way rs acc inp out p l c):OkL inp out p → l.length ≤ mp inp p ∧ 0 ≤ c ∧ c ≤ 1000 * (l.length:Int):=by
  induction hw with
  | done => intro _; exact ⟨Nat.zero_le _,Int.le_refl _,by simp⟩
  | @step p q k r l c hr hf _ ih =>
    intro hp
    have hrm:=List.mem_of_getElem? hr
    obtain ⟨k1,k2⟩:=fits_ok h hn hp hrm hf
    obtain ⟨i1,i2,i3⟩:=ih k1
    have:=h.cost r hrm
    simp only [List.length_cons]
    omega
def wayS (rs:List Rl) (acc:Int) (inp out:Str) (p:Pl) (pr:Price):Prop:=∃ l c,Way rs acc inp out p l c ∧ pr = (c,(l.length:Int))
def IsFirst (rs:List Rl) (acc:Int) (inp out:Str) (p:Pl) (o:Option (List Int × Int)):Prop:=match o with
  | none => ∀ l c,¬ Way rs acc inp out p l c
  | some e => Way rs acc inp out p e.1 e.2 ∧ ∀ l c,Way rs acc inp out p l c → (l,c) = e ∨ befE e.2 e.1 c l = true
theorem bef_asym {c1:Int} {l1:List Int} {c2:Int} {l2:List Int} (h:befE c1 l1 c2 l2 = true) (h':befE c2 l2 c1 l1 = true):False:=by
  rw [befE_iff] at h h'
  rcases h with h | ⟨h1,h | ⟨h2,h⟩⟩ <;> rcases h' with h' | ⟨h1',h' | ⟨h2',h'⟩⟩ <;> try omega
  have:=lexL_trans h h'
  rw [lexL_irr] at this
  cases this
theorem bef_trans {c1:Int} {l1:List Int} {c2:Int} {l2:List Int} {c3:Int} {l3:List Int} (h:befE c1 l1 c2 l2 = true) (h':befE c2 l2 c3 l3 = true):befE c1 l1 c3 l3 = true:=by
  rw [befE_iff] at *
  rcases h with h | ⟨h1,h | ⟨h2,h⟩⟩ <;> rcases h' with h' | ⟨h1',h' | ⟨h2',h'⟩⟩
  · exact .inl (by omega)
  · exact .inl (by omega)
  · exact .inl (by omega)
  · exact .inl (by omega)
  · exact .inr ⟨by omega,.inl (by omega)⟩
  · exact .inr ⟨by omega,.inl (by omega)⟩
  · exact .inl (by omega)
  · exact .inr ⟨by omega,.inl (by omega)⟩
  · exact .inr ⟨by omega,.inr ⟨by omega,lexL_trans h h'⟩⟩
theorem bef_total {c1:Int} {l1:List Int} {c2:Int} {l2:List Int} (h:befE c1 l1 c2 l2 = false):(l2,c2) = (l1,c1) ∨ befE c2 l2 c1 l1 = true:=by
  have h:=fun hh => Bool.eq_false_iff.1 h (befE_iff.2 hh)
  by_cases k1:c2 < c1
  · exact .inr (befE_iff.2 (.inl k1))
  have k2:c1 = c2:=by
    by_cases k:c1 < c2
    · exact absurd (.inl k) h
    · omega
  by_cases k3:l2.length < l1.length
  · exact .inr (befE_iff.2 (.inr ⟨k2.symm,.inl k3⟩))
  have k4:l1.length = l2.length:=by
    by_cases k:l1.length < l2.length
    · exact absurd (.inr ⟨k2,.inl k⟩) h
    · omega
  rcases lexL_total k4 with e | e | e
  · exact .inl (by rw [e,k2])
  · exact absurd (.inr ⟨k2,.inr ⟨k4,e⟩⟩) h
  · exact .inr (befE_iff.2 (.inr ⟨k2.symm,.inr ⟨k4.symm,e⟩⟩))
theorem first_uniq {p:Pl} {a b:Option (List Int × Int)} (ha:IsFirst rs acc inp out p a) (hb:IsFirst rs acc inp out p b):a = b:=by
  cases a with
  | none => cases b with
    | none => rfl
    | some e => exact absurd hb.1 (ha _ _)
  | some d => cases b with
    | none => exact absurd ha.1 (hb _ _)
    | some e =>
      congr 1
      rcases ha.2 _ _ hb.1 with h1 | h1
      · exact h1.symm
      · rcases hb.2 _ _ ha.1 with h2 | h2
        · exact h2
        · exact (bef_asym h1 h2).elim
theorem bef_cons {k:Int} {a c1 c2:Int} {l1 l2:List Int}:befE (a + c1) (k :: l1) (a + c2) (k :: l2) = befE c1 l1 c2 l2:=by
  rw [Bool.eq_iff_iff,befE_iff,befE_iff]
  have e1:(a + c1 < a + c2) ↔ c1 < c2:=by omega
  have e2:(a + c1 = a + c2) ↔ c1 = c2:=by omega
  have e3:lexL (k :: l1) (k :: l2) = lexL l1 l2:=by simp [lexL]
  have e4:((k :: l1).length < (k :: l2).length) ↔ l1.length < l2.length:=by simp
  have e5:((k :: l1).length = (k :: l2).length) ↔ l1.length = l2.length:=by simp
  rw [e1,e2,e3,e4,e5]
def pickE (b g:Option (List Int × Int)):Option (List Int × Int):=match g,b with
  | none,b => b
  | some e,none => some e
  | some e,some o => if befE e.2 e.1 o.2 o.1 = true then some e else some o
def viaW (inp out:Str) (from_:Pl → Option (List Int × Int)) (p:Pl) (k:Nat) (r:Rl):Option (List Int × Int):=match fitsP inp out p r with
  | none => none
  | some q => match from_ q with | none => none | some e => some ((k:Int) :: e.1,r.2.2.2.2 + e.2)
def pickF (inp out:Str) (from_:Pl → Option (List Int × Int)) (p:Pl):List Rl → Nat → Option (List Int × Int) → Option (List Int × Int)
  | [],_,b => b
  | r :: l,k,b => pickF inp out from_ p l (k + 1) (pickE b (viaW inp out from_ p k r))
def fromF (rs:List Rl) (acc:Int) (inp out:Str):Nat → Pl → Option (List Int × Int)
  | 0,_ => none
  | n + 1,p => pickF inp out (fromF rs acc inp out n) p rs 0 (if doneP acc inp out p = true then some ([],0) else none)
def FirstOf (S:List Int → Int → Prop) (o:Option (List Int × Int)):Prop:=match o with
  | none => ∀ l c,¬ S l c
  | some e => S e.1 e.2 ∧ ∀ l c,S l c → (l,c) = e ∨ befE e.2 e.1 c l = true
theorem firstOf_congr {S T:List Int → Int → Prop} {o:Option (List Int × Int)} (h:∀ l c,S l c ↔ T l c) (ho:FirstOf S o):FirstOf T o:=by
  cases o with
  | none => exact fun l c hh => ho l c ((h l c).2 hh)
  | some e => exact ⟨(h _ _).1 ho.1,fun l c hh => ho.2 l c ((h l c).2 hh)⟩
theorem pickE_first {S T:List Int → Int → Prop} {b g:Option (List Int × Int)} (hb:FirstOf S b) (hg:FirstOf T g):FirstOf (fun l c => S l c ∨ T l c) (pickE b g):=by
  cases g with
  | none =>
    cases b with
    | none => exact fun l c hh => hh.elim (hb l c) (hg l c)
    | some o => exact ⟨.inl hb.1,fun l c hh => hh.elim (hb.2 l c) (fun h => absurd h (hg l c))⟩
  | some e =>
    cases b with
    | none => exact ⟨.inr hg.1,fun l c hh => hh.elim (fun h => absurd h (hb l c)) (hg.2 l c)⟩
    | some o =>
      unfold pickE
      dsimp only
      split
      · rename_i h
        refine ⟨.inr hg.1,fun l c hh => ?_⟩
        rcases hh with hh | hh
        · rcases hb.2 l c hh with h1 | h1
          · obtain ⟨rfl,rfl⟩:l = o.1 ∧ c = o.2:=by rw [← h1]; exact ⟨rfl,rfl⟩
            exact .inr h
          · exact .inr (bef_trans h h1)
        · exact hg.2 l c hh
      · rename_i h
        have h:=bef_total (Bool.eq_false_iff.2 h)
        refine ⟨.inl hb.1,fun l c hh => ?_⟩
        rcases hh with hh | hh
        · exact hb.2 l c hh
        · rcases hg.2 l c hh with h1 | h1
          · subst h1
            rcases h with h | h
            · exact .inl h.symm
            · exact .inr h
          · rcases h with h | h
            · obtain ⟨h2,h3⟩:=Prod.mk.inj h
              rw [h2,h3]
              exact .inr h1
            · exact .inr (bef_trans h h1)
theorem pickF_first {from_:Pl → Option (List Int × Int)} {p:Pl} {T:Nat → Rl → List Int → Int → Prop}:∀ (l:List Rl) (k:Nat) {S:List Int → Int → Prop} {b:Option (List Int × Int)},FirstOf S b → (∀ j r,l[j]? = some r → FirstOf (T (k + j) r) (viaW inp out from_ p (k + j) r)) → FirstOf (fun m c => S m c ∨ ∃ j r,l[j]? = some r ∧ T (k + j) r m c) (pickF inp out from_ p l k b)
  | [],k,S,b,hb,_ => firstOf_congr (fun m c => by simp) hb
  | r :: l,k,S,b,hb,h => by
    rw [pickF]
    have h0:=h 0 r rfl
    rw [Nat.add_zero] at h0
    refine firstOf_congr (fun m c => ?_) (pickF_first l (k + 1) (pickE_first hb h0) (fun j q hq => by
      have:=h (j + 1) q (by simpa using hq)
      rwa [show k + (j + 1) = k + 1 + j by omega] at this))
    constructor
    · rintro ((h1 | h1) | ⟨j,q,h1,h2⟩)
      · exact .inl h1
      · exact .inr ⟨0,r,rfl,by simpa using h1⟩
      · exact .inr ⟨j + 1,q,by simpa using h1,by rwa [show k + (j + 1) = k + 1 + j by omega]⟩
    · rintro (h1 | ⟨j,q,h1,h2⟩)
      · exact .inl (.inl h1)
      · cases j with
        | zero =>
          have:r = q:=by simpa using h1
          subst this
          exact .inl (.inr (by simpa using h2))
        | succ j => exact .inr ⟨j,q,by simpa using h1,by rwa [show k + 1 + j = k + (j + 1) by omega]⟩
theorem from_first (h:OkR rs) (hn:NoLoop rs):∀ (n:Nat) (p:Pl),OkL inp out p → mp inp p < n → FirstOf (Way rs acc inp out p) (fromF rs acc inp out n p):=by
  intro n
  induction n with
  | zero => intro _ _ hh; exact absurd hh (Nat.not_lt_zero _)
  | succ n ih =>
    intro p hp hm
    rw [fromF]
    have hstart:FirstOf (fun l c => doneP acc inp out p = true ∧ l = [] ∧ c = 0) (if doneP acc inp out p = true then some ([],0) else none):=by
      split
      · rename_i hd
        exact ⟨⟨hd,rfl,rfl⟩,fun l c hh => .inl (by rw [hh.2.1,hh.2.2])⟩
      · rename_i hd
        exact fun l c hh => hd hh.1
    have hv:∀ (j:Nat) (r:Rl),rs[j]? = some r → FirstOf (fun m c => ∃ q l d,fitsP inp out p r = some q ∧ Way rs acc inp out q l d ∧ m = (j:Int) :: l ∧ c = r.2.2.2.2 + d) (viaW inp out (fromF rs acc inp out n) p j r):=fun j r hr => by
      unfold viaW
      cases hf:fitsP inp out p r with
      | none => rintro m c ⟨q,l,d,hq,_⟩; cases hq
      | some q =>
        obtain ⟨k1,k2⟩:=fits_ok h hn hp (List.mem_of_getElem? hr) hf
        have hi:=ih q k1 (by omega)
        dsimp only
        cases he:fromF rs acc inp out n q with
        | none =>
          rw [he] at hi
          rintro m c ⟨q',l,d,hq,hw,_⟩
          injection hq with hq
          subst hq
          exact hi l d hw
        | some e =>
          rw [he] at hi
          refine ⟨⟨q,e.1,e.2,rfl,hi.1,rfl,rfl⟩,?_⟩
          rintro m c ⟨q',l,d,hq,hw,rfl,rfl⟩
          injection hq with hq
          subst hq
          rcases hi.2 l d hw with h1 | h1
          · left; rw [← h1]
          · right; rw [bef_cons]; exact h1
    refine firstOf_congr (fun m c => ?_) (pickF_first (T:=fun j r m c => ∃ q l d,fitsP inp out p r = some q ∧ Way rs acc inp out q l d ∧ m = (j:Int) :: l ∧ c = r.2.2.2.2 + d) rs 0 hstart (fun j r hr => by rw [Nat.zero_add]; exact hv j r hr))
    constructor
    · rintro (⟨h1,rfl,rfl⟩ | ⟨j,r,hr,q,l,d,hq,hw,rfl,rfl⟩)
      · exact .done h1
      · rw [Nat.zero_add]
        exact .step hr hq hw
    · intro hw
      cases hw with
      | done hd => exact .inl ⟨hd,rfl,rfl⟩
      | @step _ q k r l d hr hf hw => exact .inr ⟨k,r,hr,q,l,d,hf,hw,by rw [Nat.zero_add],rfl⟩
structure Known (rs:List Rl) (acc:Int) (inp out:Str) (V:Pl → Option Price):Prop where
  min:∀ p,OkL inp out p → IsMin (wayS rs acc inp out p) (V p)
def headF (inp out:Str) (V:Pl → Option Price) (p:Pl) (left:Price):List Rl → Nat → Option (Nat × Pl)
  | [],_ => none
  | r :: l,k => match fitsP inp out p r with
    | none => headF inp out V p left l (k + 1)
    | some q => match V q with
      | none => headF inp out V p left l (k + 1)
      | some a => if plusP a (r.2.2.2.2,1) = left then some (k,q) else headF inp out V p left l (k + 1)
def wayF (rs:List Rl) (inp out:Str) (V:Pl → Option Price):Nat → Pl → List Int
  | 0,_ => []
  | n + 1,p => match V p with
    | none => []
    | some left => if left.2 = 0 then [] else match headF inp out V p left rs 0 with
      | none => []
      | some (k,q) => (k:Int) :: wayF rs inp out V n q
theorem head_some {V:Pl → Option Price} {p:Pl} {left:Price}:∀ {l:List Rl} {k j:Nat} {q:Pl},headF inp out V p left l k = some (j,q) → ∃ r a,k ≤ j ∧ l[j - k]? = some r ∧ fitsP inp out p r = some q ∧ V q = some a ∧ plusP a (r.2.2.2.2,1) = left ∧ ∀ i,k ≤ i → i < j → ∀ r' q' a',l[i - k]? = some r' → fitsP inp out p r' = some q' → V q' = some a' → plusP a' (r'.2.2.2.2,1) ≠ left
  | [],k,j,q,h => by cases h
  | r :: l,k,j,q,h => by
    rw [headF] at h
    have rest:headF inp out V p left l (k + 1) = some (j,q) → (∀ q' a',fitsP inp out p r = some q' → V q' = some a' → plusP a' (r.2.2.2.2,1) ≠ left) → ∃ r_1 a,k ≤ j ∧ (r :: l)[j - k]? = some r_1 ∧ fitsP inp out p r_1 = some q ∧ V q = some a ∧ plusP a (r_1.2.2.2.2,1) = left ∧ ∀ i,k ≤ i → i < j → ∀ r' q' a',(r :: l)[i - k]? = some r' → fitsP inp out p r' = some q' → V q' = some a' → plusP a' (r'.2.2.2.2,1) ≠ left:=fun h hno => by
      obtain ⟨r1,a,h1,h2,h3,h4,h5,h6⟩:=head_some h
      refine ⟨r1,a,by omega,?_,h3,h4,h5,fun i hi hj r' q' a' hr' hq' ha' => ?_⟩
      · rw [show j - k = (j - (k + 1)) + 1 by omega]; simpa using h2
      · by_cases e:i = k
        · subst e
          have:r = r':=by simpa using hr'
          subst this
          exact hno q' a' hq' ha'
        · refine h6 i (by omega) hj r' q' a' ?_ hq' ha'
          rw [show i - k = (i - (k + 1)) + 1 by omega] at hr'
          simpa using hr'
    cases hf:fitsP inp out p r with
    | none =>
      rw [hf] at h
      exact rest h fun q' a' hq' => by rw [hf] at hq'; cases hq'
    | some q1 =>
      rw [hf] at h
      dsimp only at h
      cases hV:V q1 with
      | none =>
        rw [hV] at h
        exact rest h fun q' a' hq' ha' => by rw [hf] at hq'; injection hq' with hq'; subst hq'; rw [hV] at ha'; cases ha'
      | some a =>
        rw [hV] at h
        dsimp only at h
        split at h
        · rename_i he
          injection h with h
          obtain ⟨rfl,rfl⟩:=Prod.mk.inj h
          exact ⟨r,a,Nat.le_refl _,by simp,hf,hV,he,fun i hi hj => by omega⟩
        · rename_i he
          exact rest h fun q' a' hq' ha' => by
            rw [hf] at hq'; injection hq' with hq'; subst hq'
            rw [hV] at ha'; injection ha' with ha'; subst ha'
            exact he
theorem head_none {V:Pl → Option Price} {p:Pl} {left:Price}:∀ {l:List Rl} {k:Nat},headF inp out V p left l k = none → ∀ r,r ∈ l → ∀ q a,fitsP inp out p r = some q → V q = some a → plusP a (r.2.2.2.2,1) ≠ left
  | [],_,_,r,hr,_,_,_,_ => by cases hr
  | r :: l,k,h,r1,hr1,q,a,hq,ha => by
    rw [headF] at h
    rcases List.mem_cons.1 hr1 with rfl | hr1
    · rw [hq] at h
      dsimp only at h
      rw [ha] at h
      dsimp only at h
      split at h
      · cases h
      · assumption
    · cases hf:fitsP inp out p r with
      | none => rw [hf] at h; exact head_none h r1 hr1 q a hq ha
      | some q1 =>
        rw [hf] at h
        dsimp only at h
        cases hV:V q1 with
        | none => rw [hV] at h; exact head_none h r1 hr1 q a hq ha
        | some a1 =>
          rw [hV] at h
          dsimp only at h
          split at h
          · cases h
          · exact head_none h r1 hr1 q a hq ha
theorem way_first (h:OkR rs) (hn:NoLoop rs) {V:Pl → Option Price} (hV:Known rs acc inp out V):∀ (n:Nat) (p:Pl),OkL inp out p → ∀ left,V p = some left → left.2.toNat < n → Way rs acc inp out p (wayF rs inp out V n p) left.1 ∧ ((wayF rs inp out V n p).length:Int) = left.2 ∧ ∀ l c,Way rs acc inp out p l c → (l,c) = (wayF rs inp out V n p,left.1) ∨ befE left.1 (wayF rs inp out V n p) c l = true:=by
  intro n
  induction n with
  | zero => intro _ _ _ _ hh; exact absurd hh (Nat.not_lt_zero _)
  | succ n ih =>
    intro p hp left hleft hlt
    have hmin:=hV.min p hp
    rw [hleft] at hmin
    obtain ⟨⟨l0,c0,hw0,he0⟩,hm⟩:=hmin
    rw [wayF,hleft]
    dsimp only
    have hpos:=way_len h hn hw0 hp
    split
    · rename_i h0
      -- nothing is left
      have hl0:l0 = []:=by
        rw [he0] at h0
        dsimp only at h0
        exact List.length_eq_zero_iff.1 (by omega)
      subst hl0
      have hc0:c0 = 0:=by cases hw0; rfl
      subst hc0
      rw [he0]
      refine ⟨hw0,rfl,fun l c hw => ?_⟩
      have hwl:=way_len h hn hw hp
      cases hw with
      | done => exact .inl rfl
      | step hr hf hw =>
        right
        rw [befE_iff]
        simp only [List.length_cons,List.length_nil]
        omega
    · rename_i h0
      have hhead:headF inp out V p left rs 0 ≠ none:=fun hnone => by
        cases hw0 with
        | done => exact h0 (by rw [he0]; rfl)
        | @step _ q k r l c hr hf hw =>
          have hrm:=List.mem_of_getElem? hr
          obtain ⟨k1,k2⟩:=fits_ok h hn hp hrm hf
          have hq:=hV.min q k1
          cases hVq:V q with
          | none => rw [hVq] at hq; exact hq _ ⟨l,c,hw,rfl⟩
          | some a =>
            rw [hVq] at hq
            refine head_none hnone r hrm q a hf hVq ?_
            obtain ⟨⟨l2,c2,hw2,ha2⟩,hm2⟩:=hq
            have h1:=lessP_no.1 (hm2 _ ⟨l,c,hw,rfl⟩)
            have h2:=lessP_no.1 (hm _ ⟨_,_,Way.step hr hf hw2,rfl⟩)
            rw [he0] at h2 ⊢
            rw [ha2] at h1 ⊢
            unfold plusP
            simp only [List.length_cons] at h2 ⊢
            dsimp only at h1 h2 ⊢
            refine Prod.ext ?_ ?_ <;> dsimp only <;> omega
      cases hh:headF inp out V p left rs 0 with
      | none => exact absurd hh hhead
      | some kq =>
        obtain ⟨k,q⟩:=kq
        dsimp only
        obtain ⟨r,a,_,hr,hf,hVq,hpl,hbefore⟩:=head_some hh
        rw [Nat.sub_zero] at hr
        have hrm:=List.mem_of_getElem? hr
        obtain ⟨k1,k2⟩:=fits_ok h hn hp hrm hf
        have hl2:a.2 + 1 = left.2:=by rw [← hpl]; rfl
        have hl1:r.2.2.2.2 + a.1 = left.1:=by rw [← hpl]; unfold plusP; dsimp only; omega
        have hqmin:=hV.min q k1
        rw [hVq] at hqmin
        have ha0:0 ≤ a.2:=by
          obtain ⟨⟨l2,c2,hw2,ha2⟩,_⟩:=hqmin
          rw [ha2]
          exact Int.natCast_nonneg _
        obtain ⟨w1,w2,w3⟩:=ih q k1 a hVq (by omega)
        refine ⟨by rw [← hl1]; exact .step hr hf w1,by simp only [List.length_cons]; omega,fun l c hw => ?_⟩
        have hmp:=lessP_no.1 (hm _ ⟨l,c,hw,rfl⟩)
        dsimp only at hmp
        cases hw with
        | done hd =>
          exfalso
          have:=hpos.2.1
          simp only [List.length_nil] at hmp
          rw [he0] at hmp h0
          dsimp only at hmp h0
          omega
        | @step _ q' k' r' l' c' hr' hf' hw' =>
          by_cases hprice:r'.2.2.2.2 + c' = left.1 ∧ (((k':Int) :: l').length:Int) = left.2
          · -- as cheap and as short: the numbers decide
            obtain ⟨p1,p2⟩:=hprice
            simp only [List.length_cons] at p2
            have hrm':=List.mem_of_getElem? hr'
            obtain ⟨k1',_⟩:=fits_ok h hn hp hrm' hf'
            have hq':=hV.min q' k1'
            cases hVq':V q' with
            | none => rw [hVq'] at hq'; exact absurd ⟨l',c',hw',rfl⟩ (hq' _)
            | some a' =>
              rw [hVq'] at hq'
              obtain ⟨⟨l2,c2,hw2,ha2⟩,hm2⟩:=hq'
              have g1:=lessP_no.1 (hm2 _ ⟨l',c',hw',rfl⟩)
              have g2:=lessP_no.1 (hm _ ⟨_,_,Way.step hr' hf' hw2,rfl⟩)
              simp only [List.length_cons] at g2
              dsimp only at g1 g2
              have hpl':plusP a' (r'.2.2.2.2,1) = left:=by
                rw [ha2] at g1 ⊢
                unfold plusP
                dsimp only at g1 ⊢
                refine Prod.ext ?_ ?_ <;> dsimp only <;> omega
              rcases Nat.lt_trichotomy k' k with hlt' | heq | hgt
              · exact absurd hpl' (hbefore k' (Nat.zero_le _) hlt' r' q' a' (by simpa using hr') hf' hVq')
              · subst heq
                rw [hr] at hr'
                obtain rfl:=Option.some.inj hr'
                rw [hf] at hf'
                obtain rfl:=Option.some.inj hf'
                rcases w3 l' c' hw' with h1 | h1
                · obtain ⟨h2,h3⟩:=Prod.mk.inj h1
                  left
                  rw [h2,h3,hl1]
                · right
                  rw [← hl1,bef_cons]
                  exact h1
              · right
                rw [befE_iff]
                right
                refine ⟨p1.symm,.inr ⟨by simp only [List.length_cons]; omega,?_⟩⟩
                simp only [lexL,Bool.or_eq_true,decide_eq_true_eq]
                left
                omega
          · right
            rw [befE_iff]
            simp only [List.length_cons] at hmp hprice ⊢
            omega
end Go.Proofs.Ytefpgfdemmllpaa.Rev
