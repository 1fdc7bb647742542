/- Plain facts: how long the search for inputs may be. Nothing here is trusted; no condition. -/
import Derived.Test.YtefpgfdemmllpaaD2
set_option linter.unusedSimpArgs false
set_option linter.unusedVariables false
open Nat renaming reduceBEq → zA, reduceAdd → zB, reduceSub → zC, reduceMul → zD, reduceLeDiff → zE
open Int renaming reduceLT → zF, reduceLE → zG, reduceToNat → zH, reduceNeg → zI
namespace Go.Proofs.Ytefpgfdemmllpaa
attribute [local go_sem] litP appendC ne_eq not_false_eq_true
set_option maxHeartbeats 4000000
set_option maxRecDepth 100000
def OkTh (out:Str) (E:Th):Prop:=∀ t,t ∈ E → Rev.OkP out t.1.1 ∧ (0 ≤ t.1.1.2.1 ∧ t.1.1.2.1 < 8) ∧ t.1.2.length ≤ 4 ∧ 0 ≤ t.2 ∧ t.2 ≤ 5375000
theorem okTh_of {rs:List Rl} {out x:Str} {E:Th} (hR:Rev.OkR rs) (ho:out.length ≤ 20) (h:∀ p m c,((p,m),c) ∈ E → Rev.Thr rs out x p m c):OkTh out E:=fun t ht => by
  have hthr:=h t.1.1 t.1.2 t.2 ht
  have:=thr_top hR ho hthr
  exact ⟨Rev.thr_ok hR hthr,thr_mode hR hthr,thr_suf_len hR hthr,this.1,this.2⟩
abbrev fB2 (s:Sch) (out:Str) (es:Gs) (b:List PV):List (Nat × Blk):=[(1000000000,.box [.iv (.int .i64) s.1,.iv (.int .u8) s.2.1,.iv (.sl RuleT) s.2.2,.iv .str out,.lmap 1000000002]),(1000000001,.box b),(1000000002,.mp RestT GoalT es)]
def prD (o:Option Rev.Price) (l1 l2:Int):Int × Int:=o.getD (l1,l2)
theorem prD_some (p:Rev.Price) (l1 l2:Int):prD (some p) l1 l2 = p:=rfl
theorem isMin_more {α:Type} {E:List α} {S:α → Rev.Price → Prop} {seen:List Nat} {i:Nat} {e:α} {o g:Option Rev.Price} (he:E[i]? = some e) (h:Rev.IsMin (fun pr => ∃ j t,j ∈ seen ∧ E[j]? = some t ∧ S t pr) o) (hg:Rev.IsMin (S e) g):Rev.IsMin (fun pr => ∃ j t,j ∈ seen ++ [i] ∧ E[j]? = some t ∧ S t pr) (Rev.better o g) :=
  Rev.min_congr (fun pr => by
    constructor
    · rintro (⟨j,t,h1,h2,h3⟩ | h1)
      · exact ⟨j,t,List.mem_append_left _ h1,h2,h3⟩
      · exact ⟨i,e,List.mem_append_right _ List.mem_cons_self,he,h1⟩
    · rintro ⟨j,t,h1,h2,h3⟩
      rcases List.mem_append.1 h1 with h1 | h1
      · exact .inl ⟨j,t,h1,h2,h3⟩
      · rw [List.mem_singleton.1 h1,he] at h2
        injection h2 with h2
        exact .inr (h2 ▸ h3)) (Rev.better_min h hg)
theorem isMin_all {α:Type} {E:List α} {S:α → Rev.Price → Prop} {seen:List Nat} {o:Option Rev.Price} (h:Rev.IsMin (fun pr => ∃ j t,j ∈ seen ∧ E[j]? = some t ∧ S t pr) o) (hd:∀ i,i < E.length → i ∈ seen):Rev.IsMin (fun pr => ∃ t,t ∈ E ∧ S t pr) o :=
  Rev.min_congr (fun pr => by
    constructor
    · rintro ⟨j,t,_,h2,h3⟩
      exact ⟨t,List.mem_of_getElem? h2,h3⟩
    · rintro ⟨t,h1,h2⟩
      obtain ⟨j,hj⟩:=List.getElem?_of_mem h1
      exact ⟨j,t,hd j (List.getElem?_eq_some_iff.1 hj).1,hj,h2⟩) h
theorem h_price (s:Sch) (hs:OkS s) (out:Str) (ho:out.length ≤ 20) (es:Gs) (hG:GI s out es) (x:Str) (xi:List Int) (hx:xi.length = x.length) (hx2:x.length ≤ 41) (dn:Bool) (l1 l2:Int) (E:Th) (hE:OkTh out E) (o:Option Rev.Price) (hoM:Rev.IsMin (fun pr => ∃ t,t ∈ E ∧ Rev.threadS s.2.2 s.2.1 out x t pr) o) :
    HN env 34 [.ref 1000000000 0,.ref 1000000001 0] (fB2 s out es [.iv (.sl (.int .u8)) xi,.iv .bool dn,.iv (.int .i64) l1,.iv (.int .i64) l2,.iv (.mp ThreadT (.int .i64)) E]) (.mp RestT GoalT) (GI s out) (fun _ => .iv .bool o.isSome) (fun es' => fB2 s out es' [.iv (.sl (.int .u8)) xi,.iv .bool dn,.iv (.int .i64) (prD o l1 l2).1,.iv (.int .i64) (prD o l1 l2).2,.iv (.mp ThreadT (.int .i64)) E]):=by
  have hR:=ok_rules hs
  have hgoal:=fun (es1:Gs) (p:Sp) (L:Int) (h1:GI s out es1) (h2:Rev.OkP out p) (h3:0 ≤ p.2.1 ∧ p.2.1 < 8) (h4:-8 ≤ L ∧ L ≤ 40) => h_goal s hs out ho _ es1 p L h1 h2 h3 (Nat.lt_succ_self _) h4
  obtain ⟨n,a,rs⟩:=s
  dsimp only at hoM hR
  have hb0:bytesOf ⟨#[]⟩ = ([]:Str):=rfl
  refine HN.of_PW (m:=2000) env_ok fn_34 rfl rfl rfl rfl (by kernel_rfl) ?_; intro hx hbl; simp only [Try.f34]; simp only [go_sem,zA,↓reduceIte,↓reduceDIte,zB,zC,zD,zE,zF,zG,zH,zI]
  refine Walks.loopA (X:=List Nat × Gs × Option Rev.Price) (fun (z:List Nat × Gs × Option Rev.Price) => [(5,.iv .bool z.2.2.isSome)]) (fun (z:List Nat × Gs × Option Rev.Price) => [(14,.it [.iv (.mp ThreadT (.int .i64)) E] E.length z.1),(1000000001,.box [.iv (.sl (.int .u8)) xi,.iv .bool dn,.iv (.int .i64) (prD z.2.2 l1 l2).1,.iv (.int .i64) (prD z.2.2 l1 l2).2,.iv (.mp ThreadT (.int .i64)) E]),(1000000002,.mp RestT GoalT z.2.1)]) (fun (z:List Nat × Gs × Option Rev.Price) => GI (n,a,rs) out z.2.1 ∧ Rev.IsMin (fun pr => ∃ j t,j ∈ z.1 ∧ E[j]? = some t ∧ Rev.threadS rs a out x t pr) z.2.2) (fun (z:List Nat × Gs × Option Rev.Price) => unseen E.length z.1) ([],es,none) ?_; intro b1 b2 hb1 hb2; simp (config:={maxSteps:=4000000}) only [go_sem,zA,↓reduceIte,↓reduceDIte,zB,zC,zD,zE,zF,zG,zH,zI] at hb1 hb2; subst hb1; subst hb2; refine ⟨(by refine ⟨?_,?_,rfl,rfl⟩ <;> repeat' (first | exact trivial | exact Or.inl rfl | exact Or.inr rfl | apply le1 | apply le2 | apply le3 | apply le4 | exact ⟨(by show (_:Nat) < 1000000000; omega),rfl,rfl⟩ | rfl | (refine And.intro (Or.inl ?_) ?_) | (refine And.intro ?_ ?_))),?_,?_⟩
  · exact ⟨hG,fun pr ⟨j,_,hj,_⟩ => List.not_mem_nil hj⟩
  intro ⟨seen,es1,cur⟩ ⟨hG1,hcur⟩ back
  dsimp only at hG1 hcur
  refine PW_sound env_ok ⟨_,fn_34,rfl⟩ 2000 _ _ (by kernel_rfl) ?_; simp only [go_sem,zA,↓reduceIte,↓reduceDIte,zB,zC,zD,zE,zF,zG,zH,zI]
  refine ⟨fun i hi e he => ⟨e,⟨i,by simp,he⟩,?_⟩,fun hdone => ?_⟩
  · obtain ⟨h1,h2,h3,h4,h5⟩:=hE e (List.mem_of_getElem? he)
    obtain ⟨⟨p,m⟩,c⟩:=e
    dsimp only at h1 h2 h3 h4 h5
    have hp1:Rev.IsMin (Rev.threadS rs a out x ((p,m),c)) (Rev.threadP rs a out x ((p,m),c)):=Rev.thread_min hR h1
    have hnew:=isMin_more he hcur hp1
    have hxl:(x.length:Int) = xi.length:=by omega
    have hgo:=hgoal es1 p (40 - (xi.length:Int) - (m.length:Int)) hG1 h1 h2 ⟨by omega,by omega⟩
    dsimp only at hgo
    unfold Rev.threadP at hnew
    dsimp only at hnew
    rw [hxl] at hnew
    have htop:=fun pr he => goal_top (acc:=a) hR h1 (L:=40 - (xi.length:Int) - (m.length:Int)) (pr:=pr) he
    have hms:=ms_top ho p
    dsimp only
    generalize hg:Rev.goalE rs a out p (40 - (xi.length:Int) - (m.length:Int)) = g at *
    refine ⟨⟨by omega,by omega⟩,⟨by omega,by omega⟩,⟨_,_,_,_,hgo,fun es2 hG2 => ⟨rfl,fun _ _ => ?_⟩⟩,⟨_,_,_,_,hgo,fun es2 hG2 => ⟨rfl,fun _ _ => ?_⟩⟩⟩
    all_goals
      cases g with
      | none =>
        have hb:Rev.better cur (Rev.addP none (c,(xi.length:Int) + (m.length:Int))) = cur:=by cases cur <;> rfl
        rw [hb] at hnew
        simp only [gl_none]
        simp only [go_sem,zA,↓reduceIte,↓reduceDIte,zB,zC,zD,zE,zF,zG,zH,zI]
        exact back _ (seen ++ [i],es2,cur) (by refine ⟨?_,?_,rfl,rfl⟩ <;> repeat' (first | exact trivial | exact Or.inl rfl | exact Or.inr rfl | apply le1 | apply le2 | apply le3 | apply le4 | exact ⟨(by show (_:Nat) < 1000000000; omega),rfl,rfl⟩ | rfl | (refine And.intro (Or.inl ?_) ?_) | (refine And.intro ?_ ?_))) ⟨hG2,hnew⟩ (unseen_lt hi.1 hi.2)
      | some pr =>
        obtain ⟨t1,t2,t3,t4⟩:=htop pr rfl
        obtain ⟨p1,p2⟩:=pr
        dsimp only at t1 t2 t3 t4
        have hplus:=c_plusP (p1,p2) (c,(xi.length:Int) + (m.length:Int)) ⟨by dsimp only; omega,by dsimp only; omega⟩ ⟨by dsimp only; omega,by dsimp only; omega⟩
        have hadd:Rev.addP (some (p1,p2)) (c,(xi.length:Int) + (m.length:Int)) = some (Rev.plusP (p1,p2) (c,(xi.length:Int) + (m.length:Int))):=rfl
        rw [hadd] at hnew
        generalize Rev.plusP (p1,p2) (c,(xi.length:Int) + (m.length:Int)) = y at *
        obtain ⟨y1,y2⟩:=y
        simp only [gl_some]
        simp only [go_sem,zA,↓reduceIte,↓reduceDIte,zB,zC,zD,zE,zF,zG,zH,zI]
        refine ⟨⟨by omega,by omega⟩,(y1,y2),hplus,fun _ => ?_⟩
        cases cur with
        | none =>
          have hb:Rev.better none (some (y1,y2)) = some (y1,y2):=rfl
          rw [hb] at hnew
          simp only [Option.isSome_none]
          simp only [go_sem,zA,↓reduceIte,↓reduceDIte,zB,zC,zD,zE,zF,zG,zH,zI]
          exact back _ (seen ++ [i],es2,some (y1,y2)) (by refine ⟨?_,?_,rfl,rfl⟩ <;> repeat' (first | exact trivial | exact Or.inl rfl | exact Or.inr rfl | apply le1 | apply le2 | apply le3 | apply le4 | exact ⟨(by show (_:Nat) < 1000000000; omega),rfl,rfl⟩ | rfl | (refine And.intro (Or.inl ?_) ?_) | (refine And.intro ?_ ?_))) ⟨hG2,hnew⟩ (unseen_lt hi.1 hi.2)
        | some b =>
          obtain ⟨b1,b2⟩:=b
          simp only [Option.isSome_some,prD_some]
          simp only [go_sem,zA,↓reduceIte,↓reduceDIte,zB,zC,zD,zE,zF,zG,zH,zI]
          refine ⟨_,c_lessP (y1,y2) (b1,b2),?_⟩
          cases hlt:Rev.lessP (y1,y2) (b1,b2)
          · have hb:Rev.better (some (b1,b2)) (some (y1,y2)) = some (b1,b2):=by unfold Rev.better; dsimp only; rw [hlt]; rfl
            rw [hb] at hnew
            simp only [go_sem,zA,↓reduceIte,↓reduceDIte,zB,zC,zD,zE,zF,zG,zH,zI]
            exact back _ (seen ++ [i],es2,some (b1,b2)) (by refine ⟨?_,?_,rfl,rfl⟩ <;> repeat' (first | exact trivial | exact Or.inl rfl | exact Or.inr rfl | apply le1 | apply le2 | apply le3 | apply le4 | exact ⟨(by show (_:Nat) < 1000000000; omega),rfl,rfl⟩ | rfl | (refine And.intro (Or.inl ?_) ?_) | (refine And.intro ?_ ?_))) ⟨hG2,hnew⟩ (unseen_lt hi.1 hi.2)
          · have hb:Rev.better (some (b1,b2)) (some (y1,y2)) = some (y1,y2):=by unfold Rev.better; dsimp only; rw [hlt]; rfl
            rw [hb] at hnew
            simp only [go_sem,zA,↓reduceIte,↓reduceDIte,zB,zC,zD,zE,zF,zG,zH,zI]
            exact back _ (seen ++ [i],es2,some (y1,y2)) (by refine ⟨?_,?_,rfl,rfl⟩ <;> repeat' (first | exact trivial | exact Or.inl rfl | exact Or.inr rfl | apply le1 | apply le2 | apply le3 | apply le4 | exact ⟨(by show (_:Nat) < 1000000000; omega),rfl,rfl⟩ | rfl | (refine And.intro (Or.inl ?_) ?_) | (refine And.intro ?_ ?_))) ⟨hG2,hnew⟩ (unseen_lt hi.1 hi.2)
  · have:=Rev.min_uniq (isMin_all hcur hdone) hoM
    subst this
    exact ⟨es1,hG1,rfl,⟨.inl rfl,.inl rfl⟩,rfl⟩
end Go.Proofs.Ytefpgfdemmllpaa
namespace Go.Proofs.Ytefpgfdemmllpaa
attribute [local go_sem] litP appendC ne_eq not_false_eq_true
set_option maxHeartbeats 4000000
set_option maxRecDepth 100000
def wholeP (xi:List Int) (o:Option Rev.Price):PV:=match o with
  | none => .nilptr
  | some m => .iv (.ptr BranchT) (xi,true,m,[])
theorem wholeP_none (xi:List Int):wholeP xi none = .nilptr:=rfl
theorem wholeP_some (xi:List Int) (m:Rev.Price):wholeP xi (some m) = .iv (.ptr BranchT) (xi,true,m,[]):=rfl
theorem h_whole (s:Sch) (hs:OkS s) (out:Str) (ho:out.length ≤ 20) (es:Gs) (x:Str) (xi:List Int) (hx:xi.length = x.length) (dn:Bool) (l1 l2:Int) (E:Th) (hE:OkTh out E) (o:Option Rev.Price) (hoM:Rev.IsMin (fun pr => ∃ t,t ∈ E ∧ Rev.endS s.2.1 out x t pr) o) :
    HC env 36 [.ref 1000000000 0,.iv (.ptr BranchT) (xi,dn,(l1,l2),E)] (fBl s out es) (wholeP xi o) (fBl s out es):=by
  have ha0:0 ≤ s.2.1:=by have:=hs.a1; omega
  have hen:=fun (p:Sp) (h:0 ≤ p.2.1 ∧ p.2.1 < 8) => c_ends s out es p h
  obtain ⟨n,a,rs⟩:=s
  dsimp only at hoM ha0 hen
  have hb0:bytesOf ⟨#[]⟩ = ([]:Str):=rfl
  have hxl:(x.length:Int) = xi.length:=by omega
  have hend:∀ (p:Sp),(decide (p.1 = (out.length:Int)) && accB a p.2.1) = Rev.endsE a out p:=fun p => (ends_is a out p ha0).symm
  simp only [hend] at hen
  generalize hP:wholeP xi o = P
  refine HC.of_PW (m:=2000) env_ok fn_36 rfl rfl rfl rfl (by kernel_rfl) ?_; intro hx hbl; simp only [Try.f36]; simp only [go_sem,zA,↓reduceIte,↓reduceDIte,zB,zC,zD,zE,zF,zG,zH,zI]
  refine Walks.loopA (X:=List Nat × Option Rev.Price) (fun (z:List Nat × Option Rev.Price) => [(5,wholeP xi z.2)]) (fun (z:List Nat × Option Rev.Price) => [(13,.it [.iv (.mp ThreadT (.int .i64)) E] E.length z.1)]) (fun (z:List Nat × Option Rev.Price) => Rev.IsMin (fun pr => ∃ j t,j ∈ z.1 ∧ E[j]? = some t ∧ Rev.endS a out x t pr) z.2) (fun (z:List Nat × Option Rev.Price) => unseen E.length z.1) ([],none) ?_; intro b1 b2 hb1 hb2; simp (config:={maxSteps:=4000000}) only [go_sem,zA,↓reduceIte,↓reduceDIte,zB,zC,zD,zE,zF,zG,zH,zI] at hb1 hb2; subst hb1; subst hb2; refine ⟨(by refine ⟨?_,?_,rfl,rfl⟩ <;> repeat' (first | exact trivial | exact Or.inl rfl | exact Or.inr rfl | apply le1 | apply le2 | apply le3 | apply le4 | exact ⟨(by show (_:Nat) < 1000000000; omega),rfl,rfl⟩ | rfl | (refine And.intro (Or.inl ?_) ?_) | (refine And.intro ?_ ?_))),?_,?_⟩
  · exact fun pr ⟨j,_,hj,_⟩ => List.not_mem_nil hj
  intro ⟨seen,cur⟩ hcur back
  dsimp only at hcur
  cases cur with
  | none =>
    simp only [wholeP_none]
    refine PW_sound env_ok ⟨_,fn_36,rfl⟩ 2000 _ _ (by kernel_rfl) ?_; simp only [go_sem,zA,↓reduceIte,↓reduceDIte,zB,zC,zD,zE,zF,zG,zH,zI]
    refine ⟨fun i hi e he => ⟨e,⟨i,by simp,he⟩,fun hm => ?_,fun hm => ?_⟩,fun hdone => ?_⟩
    · rw [hb0] at hm
      obtain ⟨h1,h2,h3,h4,h5⟩:=hE e (List.mem_of_getElem? he)
      have hnew:=isMin_more he hcur (Rev.end_min (acc:=a) (out:=out) (x:=x) (t:=e))
      unfold Rev.endP at hnew
      obtain ⟨⟨p,m⟩,c⟩:=e
      dsimp only at hm h1 h2 h3 h4 h5 hnew
      subst hm
      refine ⟨_,hen p h2,?_⟩
      cases hb:Rev.endsE a out p
      · rw [if_neg (by rw [hb]; rintro ⟨_,h⟩; cases h)] at hnew
        simp only [go_sem,zA,↓reduceIte,↓reduceDIte,zB,zC,zD,zE,zF,zG,zH,zI]
        exact back _ (seen ++ [i],none) (by refine ⟨?_,?_,rfl,rfl⟩ <;> repeat' (first | exact trivial | exact Or.inl rfl | exact Or.inr rfl | apply le1 | apply le2 | apply le3 | apply le4 | exact ⟨(by show (_:Nat) < 1000000000; omega),rfl,rfl⟩ | rfl | (refine And.intro (Or.inl ?_) ?_) | (refine And.intro ?_ ?_))) hnew (unseen_lt hi.1 hi.2)
      · rw [if_pos ⟨rfl,hb⟩,hxl] at hnew
        simp only [go_sem,zA,↓reduceIte,↓reduceDIte,zB,zC,zD,zE,zF,zG,zH,zI]
        refine PW_go env_ok ⟨_,fn_36,rfl⟩ 2000 _ _ (by kernel_rfl) ?_; simp only [go_sem,zA,↓reduceIte,↓reduceDIte,zB,zC,zD,zE,zF,zG,zH,zI]
        refine Walks.sealp [53] 5 (.ptr BranchT) (xi,true,(c,(xi.length:Int)),[]) rfl rfl ?_
        simp only [go_sem,zA,↓reduceIte,↓reduceDIte,zB,zC,zD,zE,zF,zG,zH,zI]
        exact back _ (seen ++ [i],some (c,(xi.length:Int))) (by refine ⟨?_,?_,rfl,rfl⟩ <;> repeat' (first | exact trivial | exact Or.inl rfl | exact Or.inr rfl | apply le1 | apply le2 | apply le3 | apply le4 | exact ⟨(by show (_:Nat) < 1000000000; omega),rfl,rfl⟩ | rfl | (refine And.intro (Or.inl ?_) ?_) | (refine And.intro ?_ ?_))) hnew (unseen_lt hi.1 hi.2)
    · rw [hb0] at hm
      have hnew:=isMin_more he hcur (Rev.end_min (acc:=a) (out:=out) (x:=x) (t:=e))
      unfold Rev.endP at hnew
      rw [if_neg (fun h => hm h.1)] at hnew
      exact back _ (seen ++ [i],none) (by refine ⟨?_,?_,rfl,rfl⟩ <;> repeat' (first | exact trivial | exact Or.inl rfl | exact Or.inr rfl | apply le1 | apply le2 | apply le3 | apply le4 | exact ⟨(by show (_:Nat) < 1000000000; omega),rfl,rfl⟩ | rfl | (refine And.intro (Or.inl ?_) ?_) | (refine And.intro ?_ ?_))) hnew (unseen_lt hi.1 hi.2)
    · have:=Rev.min_uniq (isMin_all hcur hdone) hoM
      subst this
      subst hP
      simp only [wholeP_none]
      simp only [go_sem,zA,↓reduceIte,↓reduceDIte,zB,zC,zD,zE,zF,zG,zH,zI]
  | some b =>
    obtain ⟨b1,b2⟩:=b
    simp only [wholeP_some]
    refine PW_sound env_ok ⟨_,fn_36,rfl⟩ 2000 _ _ (by kernel_rfl) ?_; simp only [go_sem,zA,↓reduceIte,↓reduceDIte,zB,zC,zD,zE,zF,zG,zH,zI]
    refine ⟨fun i hi e he => ⟨e,⟨i,by simp,he⟩,fun hm => ?_,fun hm => ?_⟩,fun hdone => ?_⟩
    · rw [hb0] at hm
      obtain ⟨h1,h2,h3,h4,h5⟩:=hE e (List.mem_of_getElem? he)
      have hnew:=isMin_more he hcur (Rev.end_min (acc:=a) (out:=out) (x:=x) (t:=e))
      unfold Rev.endP at hnew
      obtain ⟨⟨p,m⟩,c⟩:=e
      dsimp only at hm h1 h2 h3 h4 h5 hnew
      subst hm
      refine ⟨_,hen p h2,?_⟩
      cases hb:Rev.endsE a out p
      · rw [if_neg (by rw [hb]; rintro ⟨_,h⟩; cases h)] at hnew
        simp only [go_sem,zA,↓reduceIte,↓reduceDIte,zB,zC,zD,zE,zF,zG,zH,zI]
        exact back _ (seen ++ [i],some (b1,b2)) (by refine ⟨?_,?_,rfl,rfl⟩ <;> repeat' (first | exact trivial | exact Or.inl rfl | exact Or.inr rfl | apply le1 | apply le2 | apply le3 | apply le4 | exact ⟨(by show (_:Nat) < 1000000000; omega),rfl,rfl⟩ | rfl | (refine And.intro (Or.inl ?_) ?_) | (refine And.intro ?_ ?_))) hnew (unseen_lt hi.1 hi.2)
      · rw [if_pos ⟨rfl,hb⟩,hxl] at hnew
        simp only [go_sem,zA,↓reduceIte,↓reduceDIte,zB,zC,zD,zE,zF,zG,zH,zI]
        refine ⟨_,c_lessP (c,(xi.length:Int)) (b1,b2),?_⟩
        have hbt:Rev.better (some (b1,b2)) (some (c,(xi.length:Int))) = if Rev.lessP (c,(xi.length:Int)) (b1,b2) = true then some (c,(xi.length:Int)) else some (b1,b2):=rfl
        rw [hbt] at hnew
        cases hlt:Rev.lessP (c,(xi.length:Int)) (b1,b2)
        · rw [if_neg (by rw [hlt]; decide)] at hnew
          simp only [go_sem,zA,↓reduceIte,↓reduceDIte,zB,zC,zD,zE,zF,zG,zH,zI]
          exact back _ (seen ++ [i],some (b1,b2)) (by refine ⟨?_,?_,rfl,rfl⟩ <;> repeat' (first | exact trivial | exact Or.inl rfl | exact Or.inr rfl | apply le1 | apply le2 | apply le3 | apply le4 | exact ⟨(by show (_:Nat) < 1000000000; omega),rfl,rfl⟩ | rfl | (refine And.intro (Or.inl ?_) ?_) | (refine And.intro ?_ ?_))) hnew (unseen_lt hi.1 hi.2)
        · rw [if_pos hlt] at hnew
          simp only [go_sem,zA,↓reduceIte,↓reduceDIte,zB,zC,zD,zE,zF,zG,zH,zI]
          refine PW_go env_ok ⟨_,fn_36,rfl⟩ 2000 _ _ (by kernel_rfl) ?_; simp only [go_sem,zA,↓reduceIte,↓reduceDIte,zB,zC,zD,zE,zF,zG,zH,zI]
          refine Walks.sealp [53] 5 (.ptr BranchT) (xi,true,(c,(xi.length:Int)),[]) rfl rfl ?_
          simp only [go_sem,zA,↓reduceIte,↓reduceDIte,zB,zC,zD,zE,zF,zG,zH,zI]
          exact back _ (seen ++ [i],some (c,(xi.length:Int))) (by refine ⟨?_,?_,rfl,rfl⟩ <;> repeat' (first | exact trivial | exact Or.inl rfl | exact Or.inr rfl | apply le1 | apply le2 | apply le3 | apply le4 | exact ⟨(by show (_:Nat) < 1000000000; omega),rfl,rfl⟩ | rfl | (refine And.intro (Or.inl ?_) ?_) | (refine And.intro ?_ ?_))) hnew (unseen_lt hi.1 hi.2)
    · rw [hb0] at hm
      have hnew:=isMin_more he hcur (Rev.end_min (acc:=a) (out:=out) (x:=x) (t:=e))
      unfold Rev.endP at hnew
      rw [if_neg (fun h => hm h.1)] at hnew
      exact back _ (seen ++ [i],some (b1,b2)) (by refine ⟨?_,?_,rfl,rfl⟩ <;> repeat' (first | exact trivial | exact Or.inl rfl | exact Or.inr rfl | apply le1 | apply le2 | apply le3 | apply le4 | exact ⟨(by show (_:Nat) < 1000000000; omega),rfl,rfl⟩ | rfl | (refine And.intro (Or.inl ?_) ?_) | (refine And.intro ?_ ?_))) hnew (unseen_lt hi.1 hi.2)
    · have:=Rev.min_uniq (isMin_all hcur hdone) hoM
      subst this
      subst hP
      simp only [wholeP_some]
      simp only [go_sem,zA,↓reduceIte,↓reduceDIte,zB,zC,zD,zE,zF,zG,zH,zI]
end Go.Proofs.Ytefpgfdemmllpaa
namespace Go.Proofs.Ytefpgfdemmllpaa.Rev
theorem lessE_iff {a b:FE}:lessE a b = true ↔ lessP a.2.2 b.2.2 = true ∨ (a.2.2 = b.2.2 ∧ (bytesLess a.1 b.1 = true ∨ (a.1 = b.1 ∧ a.2.1 = true ∧ b.2.1 = false))):=by
  unfold lessE
  by_cases h1:a.2.2 = b.2.2
  · rw [if_pos h1]
    by_cases h2:a.1 = b.1
    · rw [if_pos h2,h1,lessP_irr,h2,bl_irr]
      simp
    · rw [if_neg h2,h1,lessP_irr]
      simp [h2]
  · rw [if_neg h1]
    simp [h1]
theorem bl_tri (x y:Str):bytesLess x y = true ∨ x = y ∨ bytesLess y x = true:=by
  by_cases h:x = y
  · exact .inr (.inl h)
  · cases hb:bytesLess x y with
    | true => exact .inl rfl
    | false => exact .inr (.inr (bl_total h hb))
theorem lessP_tri (p q:Price):lessP p q = true ∨ p = q ∨ lessP q p = true:=by
  simp only [lessP_iff]
  by_cases h:p = q
  · exact .inr (.inl h)
  · have:¬ (p.1 = q.1 ∧ p.2 = q.2):=fun hh => h (Prod.ext hh.1 hh.2)
    omega
theorem lessP_tr {p q r:Price} (h:lessP p q = true) (h':lessP q r = true):lessP p r = true:=by
  rw [lessP_iff] at *
  omega
theorem lessE_weak {a b c:FE} (h:lessE c a = true):lessE c b = true ∨ lessE b a = true:=by
  rw [lessE_iff] at h
  simp only [lessE_iff]
  rcases lessP_tri c.2.2 b.2.2 with h1 | h1 | h1
  · exact .inl (.inl h1)
  · rcases h with h | ⟨h2,h⟩
    · exact .inr (.inl (by rw [← h1]; exact h))
    · rcases bl_tri c.1 b.1 with h3 | h3 | h3
      · exact .inl (.inr ⟨h1,.inl h3⟩)
      · rcases h with h | ⟨h4,h5,h6⟩
        · exact .inr (.inr ⟨by rw [← h1]; exact h2,.inl (by rw [← h3]; exact h)⟩)
        · cases hb:b.2.1 with
          | true => exact .inr (.inr ⟨by rw [← h1]; exact h2,.inr ⟨by rw [← h3]; exact h4,rfl,h6⟩⟩)
          | false => exact .inl (.inr ⟨h1,.inr ⟨h3,h5,rfl⟩⟩)
      · rcases h with h | ⟨h4,_,_⟩
        · exact .inr (.inr ⟨by rw [← h1]; exact h2,.inl (bl_trans h3 h)⟩)
        · exact .inr (.inr ⟨by rw [← h1]; exact h2,.inl (by rw [← h4]; exact h3)⟩)
  · rcases h with h | ⟨h2,_⟩
    · exact .inr (.inl (lessP_tr h1 h))
    · exact .inr (.inl (by rw [← h2]; exact h1))
theorem lessE_irr (a:FE):lessE a a = false:=by
  cases h:lessE a a with
  | false => rfl
  | true =>
    rw [lessE_iff,lessP_irr,bl_irr] at h
    simp at h
theorem lessE_asym {a b:FE} (h:lessE a b = true):lessE b a = false:=by
  cases h':lessE b a with
  | false => rfl
  | true =>
    exfalso
    rw [lessE_iff] at h h'
    rcases h with h | ⟨h1,h⟩
    · rcases h' with h' | ⟨h1',_⟩
      · have:=lessP_tr h h'; rw [lessP_irr] at this; cases this
      · rw [h1',lessP_irr] at h; cases h
    · rcases h' with h' | ⟨_,h'⟩
      · rw [h1,lessP_irr] at h'; cases h'
      · rcases h with h | ⟨h2,h3,h4⟩
        · rcases h' with h' | ⟨h2',_⟩
          · have:=bl_trans h h'; rw [bl_irr] at this; cases this
          · rw [h2',bl_irr] at h; cases h
        · rcases h' with h' | ⟨_,h3',_⟩
          · rw [h2,bl_irr] at h'; cases h'
          · rw [h4] at h3'; cases h3'
theorem ordE:Ord2 lessE:=⟨lessE_irr,fun _ _ h => lessE_asym h,fun a b c h1 h2 => by
  cases h:lessE c a with
  | false => rfl
  | true =>
    rcases lessE_weak (b:=b) h with h | h
    · rw [h2] at h; cases h
    · rw [h1] at h; cases h⟩
end Go.Proofs.Ytefpgfdemmllpaa.Rev
namespace Go.Proofs.Ytefpgfdemmllpaa.Rev
variable {α:Type} {less:α → α → Bool}
theorem swap_app (ys js:List α) (i j:Nat) (hi:i < ys.length) (hj:j < ys.length):swapL (ys ++ js) i j = swapL ys i j ++ js:=by
  unfold swapL
  rw [List.getElem?_append_left hi,List.getElem?_append_left hj,List.getElem?_eq_getElem hi,List.getElem?_eq_getElem hj]
  dsimp only
  rw [List.set_append_left _ _ hi,List.set_append_left _ _ (by simpa using hj)]
theorem child_app (js:List α) (ys:List α) (i n:Nat) (hn:n ≤ ys.length) (hi:2 * i + 1 < n):childL less (ys ++ js) i n = childL less ys i n:=by
  unfold childL
  rw [List.getElem?_append_left (show 2 * i + 1 < ys.length by omega)]
  by_cases h2:2 * i + 2 < n
  · rw [List.getElem?_append_left (show 2 * i + 2 < ys.length by omega)]
  · generalize (ys ++ js)[2 * i + 2]? = o1
    generalize ys[2 * i + 2]? = o2
    generalize ys[2 * i + 1]? = o3
    cases o1 <;> cases o2 <;> cases o3 <;> simp [h2]
theorem down_app (js:List α) (n:Nat):∀ (m i:Nat) (ys:List α),n - i ≤ m → n ≤ ys.length → downL less (ys ++ js) i n = downL less ys i n ++ js:=by
  intro m
  induction m with
  | zero =>
    intro i ys h hn
    unfold downL
    rw [dif_pos (by omega),dif_pos (by omega)]
  | succ m ih =>
    intro i ys h hn
    unfold downL
    split
    · rfl
    · rename_i h0
      have hc:=child_lt (less:=less) (xs:=ys) h0
      rw [child_app js ys i n hn (by omega),List.getElem?_append_left (show childL less ys i n < ys.length by omega),List.getElem?_append_left (show i < ys.length by omega),List.getElem?_eq_getElem (show childL less ys i n < ys.length by omega),List.getElem?_eq_getElem (show i < ys.length by omega)]
      dsimp only
      split
      · rw [swap_app _ _ _ _ (by omega) (by omega),ih _ _ (by have:=(childL_gt less ys i n).1; omega) (by rw [swap_len]; omega)]
      · rfl
end Go.Proofs.Ytefpgfdemmllpaa.Rev
namespace Go.Proofs.Ytefpgfdemmllpaa.Rev
theorem bl_ext:∀ {p q z:Str},bytesLess p q = true → ¬ p <+: q → bytesLess (p ++ z) q = true
  | p,[],z,h,_ => by cases p <;> cases h
  | [],b :: q,z,_,hn => absurd List.nil_prefix hn
  | a :: p,b :: q,z,h,hn => by
    rw [List.cons_append,bl_cons]
    rw [bl_cons] at h
    rcases h with h | ⟨rfl,h⟩
    · exact .inl h
    · exact .inr ⟨rfl,bl_ext h (fun hh => hn (List.cons_prefix_cons.2 ⟨rfl,hh⟩))⟩
theorem lessE_total {a b:FE} (h:a ≠ b) (h':lessE a b = false):lessE b a = true:=by
  have h1:=fun hh => Bool.eq_false_iff.1 h' (lessE_iff.2 hh)
  rw [lessE_iff]
  rcases lessP_tri a.2.2 b.2.2 with h2 | h2 | h2
  · exact absurd (.inl h2) h1
  · rcases bl_tri a.1 b.1 with h3 | h3 | h3
    · exact absurd (.inr ⟨h2,.inl h3⟩) h1
    · refine .inr ⟨h2.symm,.inr ⟨h3.symm,?_⟩⟩
      cases ha:a.2.1 with
      | true =>
        cases hb:b.2.1 with
        | true => exact absurd (Prod.ext h3 (Prod.ext (by rw [ha,hb]) h2)) h
        | false => exact absurd (.inr ⟨h2,.inr ⟨h3,ha,hb⟩⟩) h1
      | false =>
        cases hb:b.2.1 with
        | true => exact ⟨rfl,rfl⟩
        | false => exact absurd (Prod.ext h3 (Prod.ext (by rw [ha,hb]) h2)) h
    · exact .inr ⟨h2.symm,.inl h3⟩
  · exact .inl h2
theorem has_least:∀ (l:List FE),l ≠ [] → ∃ t l',(t :: l').Perm l ∧ ∀ u,u ∈ l' → lessE u t = false
  | [],h => absurd rfl h
  | [a],_ => ⟨a,[],List.Perm.refl _,fun u hu => absurd hu List.not_mem_nil⟩
  | a :: b :: l,_ => by
    obtain ⟨t,l',hp,hl⟩:=has_least (b :: l) (by simp)
    by_cases h:lessE a t = true
    · refine ⟨a,t :: l',hp.cons a,fun u hu => ?_⟩
      rcases List.mem_cons.1 hu with rfl | hu
      · exact lessE_asym h
      · cases h2:lessE u a with
        | false => rfl
        | true =>
          rcases lessE_weak (b:=t) h2 with h3 | h3
          · rw [hl u hu] at h3; cases h3
          · rw [lessE_asym h] at h3; cases h3
    · refine ⟨t,a :: l',(List.Perm.swap a t l').trans (hp.cons a),fun u hu => ?_⟩
      rcases List.mem_cons.1 hu with rfl | hu
      · exact Bool.eq_false_iff.2 h
      · exact hl u hu
def topL (t:FE):Nat:=t.1.length + (if t.2.1 = true then 1 else 0)
def TopC (c:Nat) (H:List FE):Prop:=c = 0 ∨ ∃ t H',(t :: H').Perm H ∧ (∀ u,u ∈ H' → lessE t u = true) ∧ c ≤ topL t
theorem top_perm {c:Nat} {H K:List FE} (h:TopC c H) (hp:H.Perm K):TopC c K:=by
  rcases h with h | ⟨t,H',h1,h2,h3⟩
  · exact .inl h
  · exact .inr ⟨t,H',h1.trans hp,h2,h3⟩
theorem top_pop {c:Nat} {H K:List FE} {e:FE} (h:TopC c H) (hp:(e :: K).Perm H) (hmin:∀ a,a ∈ K → lessE a e = false):c ≤ topL e:=by
  rcases h with h | ⟨t,H',hp',hl,hc⟩
  · omega
  · have he:e ∈ t :: H':=(hp.trans hp'.symm).mem_iff.1 List.mem_cons_self
    rcases List.mem_cons.1 he with rfl | he
    · exact hc
    · have ht:t ∈ e :: K:=(hp'.trans hp.symm).mem_iff.1 List.mem_cons_self
      rcases List.mem_cons.1 ht with rfl | ht
      · exact hc
      · have:=hl e he
        rw [hmin t ht] at this
        cases this
variable {rs:List Rl} {acc:Int} {out:Str}
theorem front_len {H:List FE} {R:List Res} (h:Front rs acc out H R) {e:FE} (he:e ∈ H):topL e ≤ 41:=by
  unfold topL
  split
  · rename_i hd
    have:=(h.done e he hd).2
    omega
  · rename_i hd
    obtain ⟨⟨y,c,_,hl,_⟩,_⟩:=h.live e he (by simpa using hd)
    rw [List.length_append] at hl
    omega
theorem top_grow (hlet:OkIn rs) {K:List FE} {R:List Res} {e:FE} (hf:Front rs acc out (e :: K) R) (hd:e.2.1 = false) (hmin:∀ a,a ∈ K → lessE a e = false) {o:Option Price} (ho:IsMin (wholeS rs acc out e.1) o) {g:UInt8 → Option Price} (hg:∀ a,a ∈ letters → IsMin (leastS rs acc out (e.1 ++ [a])) (g a))
    (hn:Front rs acc out (K ++ (doneC e.1 o ++ longC e.1 g letters)) R):TopC (e.1.length + 1) (K ++ (doneC e.1 o ++ longC e.1 g letters)):=by
  generalize hC:doneC e.1 o ++ longC e.1 g letters = C at hn ⊢
  have hlive:=hf.live e List.mem_cons_self hd
  have hmem:∀ a,a ∈ C → (∃ w,o = some w ∧ a = (e.1,true,w)) ∨ ∃ u w,u ∈ letters ∧ g u = some w ∧ a = (e.1 ++ [u],false,w):=fun a ha => by
    rw [← hC,List.mem_append,mem_doneC,mem_longC] at ha
    exact ha
  have hge:∀ a,a ∈ C → lessP a.2.2 e.2.2 = false:=fun a ha => by
    refine hlive.2 _ ?_
    rcases hmem a ha with ⟨w,h1,rfl⟩ | ⟨u,w,h1,h2,rfl⟩
    · rw [h1] at ho
      obtain ⟨c,hi,hc⟩:=ho.1
      obtain ⟨y,c',_,hl,_⟩:=hlive.1
      rw [List.length_append] at hl
      exact ⟨[],c,by simpa using hi,by simp; omega,by simpa using hc⟩
    · have:=hg u h1
      rw [h2] at this
      obtain ⟨y,c,hi,hl,hc⟩:=this.1
      exact ⟨u :: y,c,by simpa using hi,by simpa using hl,by simpa using hc⟩
  have hex:∃ v,v ∈ C ∧ v.2.2 = e.2.2:=by
    obtain ⟨y,c,hi,hl,hc⟩:=hlive.1
    cases y with
    | nil =>
      have hw:wholeS rs acc out e.1 e.2.2:=⟨c,by simpa using hi,by simpa using hc⟩
      cases o with
      | none => exact absurd hw (ho _)
      | some w =>
        have hv:(e.1,true,w) ∈ C:=by rw [← hC,List.mem_append,mem_doneC]; exact .inl ⟨w,rfl,rfl⟩
        refine ⟨_,hv,?_⟩
        have h1:=hge _ hv
        have h2:=ho.2 _ hw
        rcases lessP_tri w e.2.2 with h | h | h
        · rw [h] at h1; cases h1
        · exact h
        · rw [h] at h2; cases h2
    | cons u y =>
      have hu:u ∈ letters:=mem_letters.2 (path_let hlet hi u (by simp))
      have hw:leastS rs acc out (e.1 ++ [u]) e.2.2:=⟨y,c,by simpa using hi,by simpa using hl,by simpa using hc⟩
      have hgu:=hg u hu
      cases hgo:g u with
      | none => rw [hgo] at hgu; exact absurd hw (hgu _)
      | some w =>
        rw [hgo] at hgu
        have hv:(e.1 ++ [u],false,w) ∈ C:=by rw [← hC,List.mem_append,mem_longC]; exact .inr ⟨u,w,hu,hgo,rfl⟩
        refine ⟨_,hv,?_⟩
        have h1:=hge _ hv
        have h2:=hgu.2 _ hw
        rcases lessP_tri w e.2.2 with h | h | h
        · rw [h] at h1; cases h1
        · exact h
        · rw [h] at h2; cases h2
  obtain ⟨v,hv,hve⟩:=hex
  obtain ⟨t,C',hp,hl⟩:=has_least C (fun h => by rw [h] at hv; cases hv)
  have htC:t ∈ C:=hp.mem_iff.1 List.mem_cons_self
  have hte:t.2.2 = e.2.2:=by
    rcases List.mem_cons.1 (hp.mem_iff.2 hv) with rfl | hv'
    · exact hve
    · have h1:=hl v hv'
      have h2:=hge t htC
      rcases lessP_tri t.2.2 e.2.2 with h | h | h
      · rw [h] at h2; cases h2
      · exact h
      · rw [← hve] at h
        have:=lessE_iff.2 (.inl h:lessP v.2.2 t.2.2 = true ∨ _)
        rw [h1] at this; cases this
  have cov_self:∀ (a:FE),covers a a.1:=fun a => by unfold covers; split; rfl; exact List.prefix_refl _
  have hdisC:=(List.pairwise_append.1 hn.dis).2.1
  have hsym:∀ {a b:FE},(∀ z,covers a z → covers b z → False) → (∀ z,covers b z → covers a z → False):=fun h z h1 h2 => h z h2 h1
  have hdis2:=(hp.symm.pairwise_iff hsym).1 hdisC
  obtain ⟨hdt,_⟩:=List.pairwise_cons.1 hdis2
  obtain ⟨hde,_⟩:=List.pairwise_cons.1 hf.dis
  have htl:∃ z,t.1 = e.1 ++ z ∧ e.1.length + 1 ≤ topL t:=by
    unfold topL
    rcases hmem t htC with ⟨w,_,h⟩ | ⟨u,w,_,_,h⟩
    · exact ⟨[],by rw [h]; simp,by rw [h]; simp⟩
    · exact ⟨[u],by rw [h],by rw [h]; simp⟩
  obtain ⟨z,htz,htl⟩:=htl
  refine .inr ⟨t,K ++ C',?_,fun u hu => ?_,htl⟩
  · exact (List.perm_middle.symm).trans (hp.append_left K)
  · rcases List.mem_append.1 hu with hu | hu
    · have h1:=hmin u hu
      have h1':=fun hh => Bool.eq_false_iff.1 h1 (lessE_iff.2 hh)
      have hce:∀ z,e.1 <+: z → covers e z:=fun z hz => by unfold covers; rw [if_neg (by rw [hd]; decide)]; exact hz
      have hnp:¬ e.1 <+: u.1:=fun hh => hde u hu u.1 (hce _ hh) (cov_self u)
      rw [lessE_iff,hte]
      rcases lessP_tri e.2.2 u.2.2 with h | h | h
      · exact .inl h
      · refine .inr ⟨h,.inl ?_⟩
        rw [htz]
        refine bl_ext ?_ hnp
        rcases bl_tri e.1 u.1 with h2 | h2 | h2
        · exact h2
        · exact absurd (h2 ▸ List.prefix_refl _) hnp
        · exact absurd (.inr ⟨h.symm,.inl h2⟩) h1'
      · exact absurd (.inl h) h1'
    · have hne:u ≠ t:=fun h => hdt u hu t.1 (cov_self t) (h ▸ cov_self t)
      exact lessE_total hne (hl u hu)
end Go.Proofs.Ytefpgfdemmllpaa.Rev
