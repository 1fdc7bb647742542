/- Contracts: Best and Cheapest as a whole. Nothing here is trusted; no condition. -/
import Derived.Test.YtefpgfdemmllpaaD3
set_option linter.unusedSimpArgs false
set_option linter.unusedVariables false
open Nat renaming reduceBEq → zA, reduceAdd → zB, reduceSub → zC, reduceMul → zD, reduceLeDiff → zE
open Int renaming reduceLT → zF, reduceLE → zG, reduceToNat → zH, reduceNeg → zI
namespace Go.Proofs.Ytefpgfdemmllpaa
attribute [local go_sem] litP appendC ne_eq not_false_eq_true St.ren permF
set_option maxHeartbeats 4000000
set_option maxRecDepth 100000
abbrev Br:=List Int × Bool × (Int × Int) × Th
def feB (b:Br):Rev.FE:=(b.1.map fun c => UInt8.ofNat c.toNat,b.2.1,b.2.2.1)
def lessB (a b:Br):Bool:=Rev.lessE (feB a) (feB b)
theorem bl_same:∀ x y:Str,bytesLess x y = Rev.bytesLess x y
  | _,[] => by simp [Rev.bytesLess,bytesLess]
  | [],_ :: _ => by simp [Rev.bytesLess,bytesLess]
  | a :: x,b :: y => by simp only [Rev.bytesLess,bytesLess,bl_same x y]
theorem h_Len (xs:List Br) (n:Nat) (hn:n ≤ xs.length) (hl:n ≤ 1099511627776):HC env 108 [.lsl 1000000000 1 0 n] [(1000000000,.arr (.ptr BranchT) xs)] (.iv (.int .i64) (n:Int)) [(1000000000,.arr (.ptr BranchT) xs)]:=by
  refine HC.of_PW (m:=2000) env_ok fn_108 rfl rfl rfl rfl (by kernel_rfl) ?_; intro hx hbl; simp only [Try.f108]; simp only [go_sem,zA,↓reduceIte,↓reduceDIte,zB,zC,zD,zE,zF,zG,zH,zI]
  omega
theorem h_Less (xs:List Br) (n:Nat) (hn:n ≤ xs.length) (i j:Nat) (a b:Br) (hi:i < n) (hj:j < n) (ha:xs[i]? = some a) (hb:xs[j]? = some b):HC env 109 [.lsl 1000000000 1 0 n,.iv (.int .i64) (i:Int),.iv (.int .i64) (j:Int)] [(1000000000,.arr (.ptr BranchT) xs)] (.iv .bool (lessB a b)) [(1000000000,.arr (.ptr BranchT) xs)]:=by
  obtain ⟨a1,a2,⟨a3,a4⟩,a5⟩:=a
  obtain ⟨b1,b2,⟨b3,b4⟩,b5⟩:=b
  generalize hV:lessB (a1,a2,(a3,a4),a5) (b1,b2,(b3,b4),b5) = V
  unfold lessB feB Rev.lessE at hV
  dsimp only at hV
  refine HC.of_PW (m:=2000) env_ok fn_109 rfl rfl rfl rfl (by kernel_rfl) ?_; intro hx hbl; simp only [Try.f109]; simp only [go_sem,zA,↓reduceIte,↓reduceDIte,zB,zC,zD,zE,zF,zG,zH,zI]
  have hi':(0:Int) ≤ (i:Int) ∧ (i:Int) < (n:Int):=⟨by omega,by omega⟩
  have hj':(0:Int) ≤ (j:Int) ∧ (j:Int) < (n:Int):=⟨by omega,by omega⟩
  refine ⟨hi',_,ha,hj',_,hb,fun hne => ⟨hi',_,ha,hj',_,hb,_,c_lessP _ _,?_⟩,fun he => ⟨hi',_,ha,hj',_,hb,fun hs => ?_,fun hs => ⟨hi',_,ha,?_⟩⟩⟩
  · rw [← hV,if_neg (fun e => hne (by dsimp only at e ⊢; injection e with e1 e2; exact ⟨e1,e2⟩))]
  · dsimp only at he hs ⊢
    rw [if_pos (Prod.ext he.1 he.2),if_neg hs] at hV
    rw [← hV]
    exact bl_same _ _
  · dsimp only at he hs ⊢
    rw [if_pos (Prod.ext he.1 he.2),if_pos hs] at hV
    cases a2
    · simp only [go_sem,zA,↓reduceIte,↓reduceDIte,zB,zC,zD,zE,zF,zG,zH,zI]
      rw [← hV]; rfl
    · simp only [go_sem,zA,↓reduceIte,↓reduceDIte,zB,zC,zD,zE,zF,zG,zH,zI]
      exact ⟨hj',_,hb,by rw [← hV]; rfl⟩
theorem h_Swap (xs:List Br) (n:Nat) (hn:n ≤ xs.length) (i j:Nat) (hi:i < n) (hj:j < n):HC env 110 [.lsl 1000000000 1 0 n,.iv (.int .i64) (i:Int),.iv (.int .i64) (j:Int)] [(1000000000,.arr (.ptr BranchT) xs)] (.tup []) [(1000000000,.arr (.ptr BranchT) (Rev.swapL xs i j))]:=by
  obtain ⟨a,ha⟩:∃ a,xs[i]? = some a:=get_of_lt (by omega)
  obtain ⟨b,hb⟩:∃ b,xs[j]? = some b:=get_of_lt (by omega)
  refine HC.of_PW (m:=2000) env_ok fn_110 rfl rfl rfl rfl (by kernel_rfl) ?_; intro hx hbl; simp only [Try.f110]; simp only [go_sem,zA,↓reduceIte,↓reduceDIte,zB,zC,zD,zE,zF,zG,zH,zI]
  refine ⟨⟨by omega,by omega⟩,b,hb,⟨by omega,by omega⟩,a,ha,⟨by omega,by omega⟩,⟨by omega,by omega⟩,?_⟩
  unfold Rev.swapL
  rw [ha,hb]
theorem h_PushB (xs:List Br) (n:Nat) (hn:n ≤ xs.length) (hl:n ≤ 1099511627775) (b:Br):HC env 112 [.ref 1000000000 0,.ifc 78 [.iv (.ptr BranchT) b]] [(1000000000,.box [.lsl 1000000001 1 0 n]),(1000000001,.arr (.ptr BranchT) xs)] (.tup []) [(1000000000,.box [.lfull 18]),(18,.arr (.ptr BranchT) (xs.take n ++ [b]))]:=by
  refine HC.of_PW (m:=2000) env_ok fn_112 rfl rfl rfl rfl (by kernel_rfl) ?_; intro hx hbl; simp only [Try.f112]; simp only [go_sem,zA,↓reduceIte,↓reduceDIte,zB,zC,zD,zE,zF,zG,zH,zI]
  refine ⟨?_,hl⟩
  by_cases h:0 < xs.length
  · exact .inl h
  · exact .inr ⟨by omega,by omega,by simp⟩
theorem h_PopB (xs:List Br) (n:Nat) (hn:n ≤ xs.length) (hl:n ≤ 1099511627776) (b:Br) (h0:0 < n) (hb:xs[n - 1]? = some b):HC env 111 [.ref 1000000000 0] [(1000000000,.box [.lsl 1000000001 1 0 n]),(1000000001,.arr (.ptr BranchT) xs)] (.ifc 78 [.iv (.ptr BranchT) b]) [(1000000000,.box [.lsl 1000000001 1 0 (n - 1)]),(1000000001,.arr (.ptr BranchT) xs)]:=by
  have e:((n:Int) - 1).toNat = n - 1:=by omega
  refine HC.of_PW (m:=2000) env_ok fn_111 rfl rfl rfl rfl (by kernel_rfl) ?_; intro hx hbl; simp only [Try.f111]; simp only [go_sem,zA,↓reduceIte,↓reduceDIte,zB,zC,zD,zE,zF,zG,zH,zI]
  simp only [e,Nat.sub_zero]
  exact ⟨by omega,⟨by omega,by omega⟩,⟨by omega,by omega⟩,b,hb,by omega,⟨by omega,by omega⟩,⟨by omega,by omega⟩,rfl,.inl trivial⟩
abbrev hB (xs:List Br) (n:Nat):List (Nat × Blk):=[(1000000000,.box [.lsl 1000000001 1 0 n]),(1000000001,.arr (.ptr BranchT) xs)]
theorem half (k:Nat):Int.tdiv ((k:Int) - 1) 2 = (((k - 1) / 2:Nat):Int):=by
  cases k with
  | zero => rfl
  | succ k =>
    rw [show ((k + 1:Nat):Int) - 1 = (k:Int) by omega,Int.tdiv_eq_ediv_of_nonneg (by omega)]
    omega
theorem h_up (xs:List Br) (n:Nat) (hn:n ≤ xs.length) (hl:xs.length ≤ 1099511627776) (j:Nat) (hj:j < n):HC env 63 [.ifc 94 [.ref 1000000000 0],.iv (.int .i64) (j:Int)] (hB xs n) (.tup []) (hB (Rev.upL lessB xs j) n):=by
  generalize hT:Rev.upL lessB xs j = T
  refine HC.of_PW (m:=2000) env_ok fn_63 rfl rfl rfl rfl (by kernel_rfl) ?_; intro hx hbl; simp only [Try.f63]; simp only [go_sem,zA,↓reduceIte,↓reduceDIte,zB,zC,zD,zE,zF,zG,zH,zI]
  refine Walks.loopA (X:=Nat × List Br) (fun (z:Nat × List Br) => [(1,.iv (.int .i64) (z.1:Int))]) (fun (z:Nat × List Br) => [(1000000001,.arr (.ptr BranchT) z.2)]) (fun (z:Nat × List Br) => z.1 < n ∧ z.2.length = xs.length ∧ Rev.upL lessB z.2 z.1 = T) (fun (z:Nat × List Br) => z.1) (j,xs) ?_; intro b1 b2 hb1 hb2; simp (config:={maxSteps:=4000000}) only [go_sem,zA,↓reduceIte,↓reduceDIte,zB,zC,zD,zE,zF,zG,zH,zI] at hb1 hb2; subst hb1; subst hb2; refine ⟨(by refine ⟨?_,?_,rfl,rfl⟩ <;> repeat' (first | exact trivial | exact Or.inl rfl | exact Or.inr rfl | apply le1 | apply le2 | apply le3 | apply le4 | exact ⟨(by show (_:Nat) < 1000000000; omega),rfl,rfl⟩ | rfl | (refine And.intro (Or.inl ?_) ?_) | (refine And.intro ?_ ?_))),?_,?_⟩
  · exact ⟨hj,rfl,hT⟩
  intro ⟨k,ys⟩ ⟨hk,hlen,hup⟩ back
  dsimp only at hk hlen hup
  refine PW_sound env_ok ⟨_,fn_63,rfl⟩ 2000 _ _ (by kernel_rfl) ?_; simp only [go_sem,zA,↓reduceIte,↓reduceDIte,zB,zC,zD,zE,zF,zG,zH,zI]
  simp only [half]
  refine ⟨⟨by omega,by omega⟩,fun hne => ?_,fun he => ?_⟩
  · have h0:¬ k = 0:=fun h => hne (by rw [h])
    obtain ⟨a,ha⟩:∃ a,ys[k]? = some a:=get_of_lt (by omega)
    obtain ⟨b,hb⟩:∃ b,ys[(k - 1) / 2]? = some b:=get_of_lt (by omega)
    have hup2:Rev.upL lessB ys k = if lessB a b = true then Rev.upL lessB (Rev.swapL ys ((k - 1) / 2) k) ((k - 1) / 2) else ys:=by
      conv => lhs; unfold Rev.upL
      rw [dif_neg h0,ha,hb]
    rw [hup2] at hup
    refine ⟨_,_,h_Less ys n (by omega) k ((k - 1) / 2) a b hk (by omega) ha hb,rfl,fun _ _ => ?_⟩
    cases hlt:lessB a b
    · rw [hlt,if_neg (by decide)] at hup
      subst hup
      simp only [go_sem,zA,↓reduceIte,↓reduceDIte,zB,zC,zD,zE,zF,zG,zH,zI]
    · rw [hlt,if_pos rfl] at hup
      simp only [go_sem,zA,↓reduceIte,↓reduceDIte,zB,zC,zD,zE,zF,zG,zH,zI]
      refine ⟨_,_,h_Swap ys n (by omega) ((k - 1) / 2) k (by omega) hk,rfl,?_⟩
      simp only [go_sem,zA,↓reduceIte,↓reduceDIte,zB,zC,zD,zE,zF,zG,zH,zI]
      intro _
      exact back _ ((k - 1) / 2,Rev.swapL ys ((k - 1) / 2) k) (by refine ⟨?_,?_,rfl,rfl⟩ <;> repeat' (first | exact trivial | exact Or.inl rfl | exact Or.inr rfl | apply le1 | apply le2 | apply le3 | apply le4 | exact ⟨(by show (_:Nat) < 1000000000; omega),rfl,rfl⟩ | rfl | (refine And.intro (Or.inl ?_) ?_) | (refine And.intro ?_ ?_))) ⟨by omega,by rw [Rev.swap_len]; exact hlen,hup⟩ (by dsimp only; omega)
  · have h0:k = 0:=by omega
    rw [← hup,h0]
    unfold Rev.upL
    rw [dif_pos rfl]
theorem h_down (xs:List Br) (m n:Nat) (hm:m ≤ xs.length) (hn:n ≤ m) (hl:xs.length ≤ 1099511627776) (i:Nat) (hi:i ≤ n):HN env 61 [.ifc 94 [.ref 1000000000 0],.iv (.int .i64) (i:Int),.iv (.int .i64) (n:Int)] (hB xs m) .bool (fun _ => True) (fun b => .iv .bool b) (fun _ => hB (Rev.downL lessB xs i n) m):=by
  generalize hT:Rev.downL lessB xs i n = T
  refine HN.of_PW (m:=2000) env_ok fn_61 rfl rfl rfl rfl (by kernel_rfl) ?_; intro hx hbl; simp only [Try.f61]; simp only [go_sem,zA,↓reduceIte,↓reduceDIte,zB,zC,zD,zE,zF,zG,zH,zI]
  refine Walks.loopA (X:=Nat × List Br) (fun (z:Nat × List Br) => [(7,.iv (.int .i64) (z.1:Int))]) (fun (z:Nat × List Br) => [(1000000001,.arr (.ptr BranchT) z.2)]) (fun (z:Nat × List Br) => z.1 ≤ n ∧ z.2.length = xs.length ∧ Rev.downL lessB z.2 z.1 n = T) (fun (z:Nat × List Br) => n - z.1) (i,xs) ?_; intro b1 b2 hb1 hb2; simp (config:={maxSteps:=4000000}) only [go_sem,zA,↓reduceIte,↓reduceDIte,zB,zC,zD,zE,zF,zG,zH,zI] at hb1 hb2; subst hb1; subst hb2; refine ⟨(by refine ⟨?_,?_,rfl,rfl⟩ <;> repeat' (first | exact trivial | exact Or.inl rfl | exact Or.inr rfl | apply le1 | apply le2 | apply le3 | apply le4 | exact ⟨(by show (_:Nat) < 1000000000; omega),rfl,rfl⟩ | rfl | (refine And.intro (Or.inl ?_) ?_) | (refine And.intro ?_ ?_))),?_,?_⟩
  · exact ⟨hi,rfl,hT⟩
  intro ⟨k,ys⟩ ⟨hk,hlen,hdn⟩ back
  dsimp only at hk hlen hdn
  refine PW_sound env_ok ⟨_,fn_61,rfl⟩ 2000 _ _ (by kernel_rfl) ?_; simp only [go_sem,zA,↓reduceIte,↓reduceDIte,zB,zC,zD,zE,zF,zG,zH,zI]
  refine ⟨⟨by omega,by omega⟩,⟨by omega,by omega⟩,fun h1 => ⟨fun h => absurd h (by omega),fun _ => ⟨⟨by omega,by omega⟩,?_⟩⟩,fun h1 => ?_⟩
  · have hk2:¬ n ≤ 2 * k + 1:=by omega
    obtain ⟨b,hb⟩:∃ b,ys[2 * k + 1]? = some b:=get_of_lt (by omega)
    obtain ⟨o,ho⟩:∃ o,ys[k]? = some o:=get_of_lt (by omega)
    have hdn2:∀ c x,Rev.childL lessB ys k n = c → ys[c]? = some x → Rev.downL lessB ys k n = if lessB x o = true then Rev.downL lessB (Rev.swapL ys k c) c n else ys:=fun c x hc hx => by
      conv => lhs; unfold Rev.downL
      rw [dif_neg hk2,hc,hx,ho]
    have e1:(2 * (k:Int) + 1 + 1) = ((2 * k + 2:Nat):Int):=by omega
    have e2:(2 * (k:Int) + 1) = ((2 * k + 1:Nat):Int):=by omega
    have e3:(((2 * k + 1:Nat):Int) + 1) = ((2 * k + 2:Nat):Int):=by omega
    simp only [e1,e2,e3]
    have step:∀ c x,Rev.childL lessB ys k n = c → ys[c]? = some x → c < n → k < c → (lessB x o = true → Rev.downL lessB (Rev.swapL ys k c) c n = T) ∧ (lessB x o = false → ys = T):=fun c x hc hx _ _ => by
      have:=hdn2 c x hc hx
      rw [hdn] at this
      constructor
      · intro h; rw [if_pos h] at this; exact this.symm
      · intro h; rw [if_neg (by rw [h]; decide)] at this; exact this.symm
    refine ⟨fun h2 => ?_,fun h2 => ?_⟩
    · obtain ⟨a,ha⟩:∃ a,ys[2 * k + 2]? = some a:=get_of_lt (by omega)
      have hch:Rev.childL lessB ys k n = if lessB a b = true then 2 * k + 2 else 2 * k + 1:=by
        unfold Rev.childL
        rw [ha,hb]
        dsimp only
        by_cases hab:lessB a b = true
        · rw [if_pos ⟨by omega,hab⟩,if_pos hab]
        · rw [if_neg (fun h => hab h.2),if_neg hab]
      refine ⟨_,_,h_Less ys m (by omega) (2 * k + 2) (2 * k + 1) a b (by omega) (by omega) ha hb,rfl,fun _ _ => ?_⟩
      cases hab:lessB a b
      · rw [hab,if_neg (by decide)] at hch
        simp only [go_sem,zA,↓reduceIte,↓reduceDIte,zB,zC,zD,zE,zF,zG,zH,zI]
        refine ⟨_,_,h_Less ys m (by omega) (2 * k + 1) k b o (by omega) (by omega) hb ho,rfl,fun _ _ => ?_⟩
        have hst:=step _ b hch hb (by omega) (by omega)
        cases hlt:lessB b o
        · have:=hst.2 hlt
          subst this
          simp only [go_sem,zA,↓reduceIte,↓reduceDIte,zB,zC,zD,zE,zF,zG,zH,zI]
          exact ⟨_,rfl⟩
        · simp only [go_sem,zA,↓reduceIte,↓reduceDIte,zB,zC,zD,zE,zF,zG,zH,zI]
          refine ⟨_,_,h_Swap ys m (by omega) k (2 * k + 1) (by omega) (by omega),rfl,?_⟩
          simp only [go_sem,zA,↓reduceIte,↓reduceDIte,zB,zC,zD,zE,zF,zG,zH,zI]
          intro _
          exact back _ (2 * k + 1,Rev.swapL ys k (2 * k + 1)) (by refine ⟨?_,?_,rfl,rfl⟩ <;> repeat' (first | exact trivial | exact Or.inl rfl | exact Or.inr rfl | apply le1 | apply le2 | apply le3 | apply le4 | exact ⟨(by show (_:Nat) < 1000000000; omega),rfl,rfl⟩ | rfl | (refine And.intro (Or.inl ?_) ?_) | (refine And.intro ?_ ?_))) ⟨by omega,by rw [Rev.swap_len]; exact hlen,hst.1 hlt⟩ (by dsimp only; omega)
      · rw [hab,if_pos rfl] at hch
        simp only [go_sem,zA,↓reduceIte,↓reduceDIte,zB,zC,zD,zE,zF,zG,zH,zI]
        refine ⟨_,_,h_Less ys m (by omega) (2 * k + 2) k a o (by omega) (by omega) ha ho,rfl,fun _ _ => ?_⟩
        have hst:=step _ a hch ha (by omega) (by omega)
        cases hlt:lessB a o
        · have:=hst.2 hlt
          subst this
          simp only [go_sem,zA,↓reduceIte,↓reduceDIte,zB,zC,zD,zE,zF,zG,zH,zI]
          exact ⟨_,rfl⟩
        · simp only [go_sem,zA,↓reduceIte,↓reduceDIte,zB,zC,zD,zE,zF,zG,zH,zI]
          refine ⟨_,_,h_Swap ys m (by omega) k (2 * k + 2) (by omega) (by omega),rfl,?_⟩
          simp only [go_sem,zA,↓reduceIte,↓reduceDIte,zB,zC,zD,zE,zF,zG,zH,zI]
          intro _
          exact back _ (2 * k + 2,Rev.swapL ys k (2 * k + 2)) (by refine ⟨?_,?_,rfl,rfl⟩ <;> repeat' (first | exact trivial | exact Or.inl rfl | exact Or.inr rfl | apply le1 | apply le2 | apply le3 | apply le4 | exact ⟨(by show (_:Nat) < 1000000000; omega),rfl,rfl⟩ | rfl | (refine And.intro (Or.inl ?_) ?_) | (refine And.intro ?_ ?_))) ⟨by omega,by rw [Rev.swap_len]; exact hlen,hst.1 hlt⟩ (by dsimp only; omega)
    · have hch:Rev.childL lessB ys k n = 2 * k + 1:=by
        unfold Rev.childL
        generalize ys[2 * k + 2]? = o1
        generalize ys[2 * k + 1]? = o2
        cases o1 <;> cases o2 <;> simp <;> intro h <;> omega
      refine ⟨_,_,h_Less ys m (by omega) (2 * k + 1) k b o (by omega) (by omega) hb ho,rfl,fun _ _ => ?_⟩
      have hst:=step _ b hch hb (by omega) (by omega)
      cases hlt:lessB b o
      · have:=hst.2 hlt
        subst this
        simp only [go_sem,zA,↓reduceIte,↓reduceDIte,zB,zC,zD,zE,zF,zG,zH,zI]
        exact ⟨_,rfl⟩
      · simp only [go_sem,zA,↓reduceIte,↓reduceDIte,zB,zC,zD,zE,zF,zG,zH,zI]
        refine ⟨_,_,h_Swap ys m (by omega) k (2 * k + 1) (by omega) (by omega),rfl,?_⟩
        simp only [go_sem,zA,↓reduceIte,↓reduceDIte,zB,zC,zD,zE,zF,zG,zH,zI]
        intro _
        exact back _ (2 * k + 1,Rev.swapL ys k (2 * k + 1)) (by refine ⟨?_,?_,rfl,rfl⟩ <;> repeat' (first | exact trivial | exact Or.inl rfl | exact Or.inr rfl | apply le1 | apply le2 | apply le3 | apply le4 | exact ⟨(by show (_:Nat) < 1000000000; omega),rfl,rfl⟩ | rfl | (refine And.intro (Or.inl ?_) ?_) | (refine And.intro ?_ ?_))) ⟨by omega,by rw [Rev.swap_len]; exact hlen,hst.1 hlt⟩ (by dsimp only; omega)
  · refine ⟨_,rfl,?_⟩
    rw [← hdn]
    unfold Rev.downL
    rw [dif_pos (by omega)]
theorem h_Push (xs:List Br) (n:Nat) (hn:n ≤ xs.length) (hl:n < 1099511627775) (b:Br):HC env 37 [.ifc 94 [.ref 1000000000 0],.ifc 78 [.iv (.ptr BranchT) b]] (hB xs n) (.tup []) [(1000000000,.box [.lsl 1005 1 0 (xs.take n ++ [b]).length]),(1005,.arr (.ptr BranchT) (Rev.upL lessB (xs.take n ++ [b]) n))]:=by
  refine HC.of_PW (m:=2000) env_ok fn_37 rfl rfl rfl rfl (by kernel_rfl) ?_; intro hx hbl; simp only [Try.f37]; simp only [go_sem,zA,↓reduceIte,↓reduceDIte,zB,zC,zD,zE,zF,zG,zH,zI]
  refine ⟨_,_,h_PushB xs n hn (by omega) b,rfl,?_⟩
  simp only [go_sem,zA,↓reduceIte,↓reduceDIte,zB,zC,zD,zE,zF,zG,zH,zI]
  intro _
  refine Walks.ren [(700018,1005),(1005,700018)] rfl ?_
  simp only [go_sem,zA,↓reduceIte,↓reduceDIte,zB,zC,zD,zE,zF,zG,zH,zI]
  have hyl:(xs.take n ++ [b]).length = n + 1:=by simp; omega
  have hyl2:(((xs.take n ++ [b]).length:Nat):Int) - 1 = (n:Int):=by omega
  refine Walks.weakA [] [(1000000000,.box [.lsl 1005 1 0 (xs.take n ++ [b]).length])] ?_; intro b1 b2 hb1 hb2; simp (config:={maxSteps:=4000000}) only [go_sem,zA,↓reduceIte,↓reduceDIte,zB,zC,zD,zE,zF,zG,zH,zI] at hb1 hb2; subst hb1; subst hb2; refine ⟨(by refine ⟨?_,?_,rfl,rfl⟩ <;> repeat' (first | exact trivial | exact Or.inl rfl | exact Or.inr rfl | apply le1 | apply le2 | apply le3 | apply le4 | exact ⟨(by show (_:Nat) < 1000000000; omega),rfl,rfl⟩ | rfl | (refine And.intro (Or.inl ?_) ?_) | (refine And.intro ?_ ?_))),?_⟩
  refine PW_go env_ok ⟨_,fn_37,rfl⟩ 2000 _ _ (by kernel_rfl) ?_; simp only [go_sem,zA,↓reduceIte,↓reduceDIte,zB,zC,zD,zE,zF,zG,zH,zI]
  refine ⟨_,_,h_Len (xs.take n ++ [b]) _ (Nat.le_refl _) (by omega),rfl,fun _ _ => ?_⟩
  simp only [go_sem,zA,↓reduceIte,↓reduceDIte,zB,zC,zD,zE,zF,zG,zH,zI]
  simp only [hyl2]
  refine ⟨⟨by omega,by omega⟩,_,_,h_up (xs.take n ++ [b]) _ (Nat.le_refl _) (by omega) n (by omega),rfl,?_⟩
  simp only [go_sem,zA,↓reduceIte,↓reduceDIte,zB,zC,zD,zE,zF,zG,zH,zI]
  exact fun _ => trivial
theorem h_Pop (xs:List Br) (n:Nat) (hn:n ≤ xs.length) (hl:xs.length ≤ 1099511627776) (h0:0 < n) (e:Br) (he:(Rev.downL lessB (Rev.swapL xs 0 (n - 1)) 0 (n - 1))[n - 1]? = some e):HC env 35 [.ifc 94 [.ref 1000000000 0]] (hB xs n) (.ifc 78 [.iv (.ptr BranchT) e]) (hB (Rev.downL lessB (Rev.swapL xs 0 (n - 1)) 0 (n - 1)) (n - 1)):=by
  have e1:(n:Int) - 1 = ((n - 1:Nat):Int):=by omega
  refine HC.of_PW (m:=2000) env_ok fn_35 rfl rfl rfl rfl (by kernel_rfl) ?_; intro hx hbl; simp only [Try.f35]; simp only [go_sem,zA,↓reduceIte,↓reduceDIte,zB,zC,zD,zE,zF,zG,zH,zI]
  refine ⟨_,_,h_Len xs n hn (by omega),rfl,fun _ _ => ?_⟩
  simp only [go_sem,zA,↓reduceIte,↓reduceDIte,zB,zC,zD,zE,zF,zG,zH,zI]
  simp only [e1]
  refine ⟨⟨by omega,by omega⟩,?_⟩
  have hsw:=h_Swap xs n hn 0 (n - 1) (by omega) (by omega)
  refine ⟨_,_,hsw,rfl,?_⟩
  simp only [go_sem,zA,↓reduceIte,↓reduceDIte,zB,zC,zD,zE,zF,zG,zH,zI]
  intro _
  have hdn:=h_down (Rev.swapL xs 0 (n - 1)) n (n - 1) (by rw [Rev.swap_len]; exact hn) (by omega) (by rw [Rev.swap_len]; exact hl) 0 (by omega)
  refine ⟨_,_,_,_,hdn,fun r _ => ⟨rfl,fun _ _ => ?_⟩⟩
  simp only [go_sem,zA,↓reduceIte,↓reduceDIte,zB,zC,zD,zE,zF,zG,zH,zI]
  refine ⟨_,_,h_PopB _ n (by rw [Rev.down_len _ _ _ _ (Nat.le_refl _),Rev.swap_len]; exact hn) (by omega) e h0 he,rfl,?_⟩
  simp only [go_sem,zA,↓reduceIte,↓reduceDIte,zB,zC,zD,zE,zF,zG,zH,zI]
  exact fun _ => trivial
end Go.Proofs.Ytefpgfdemmllpaa
namespace Go.Proofs.Ytefpgfdemmllpaa
attribute [local go_sem] litP appendC ne_eq not_false_eq_true Option.isSome_none Option.isSome_some
set_option maxHeartbeats 4000000
set_option maxRecDepth 100000
noncomputable def lst (rs:List Rl) (a:Int) (out x:Str):Option Rev.Price:=by
  classical exact if h:∃ o,Rev.IsMin (Rev.leastS rs a out x) o then Classical.choose h else none
theorem lst_eq {rs:List Rl} {a:Int} {out x:Str} {o:Option Rev.Price} (h:Rev.IsMin (Rev.leastS rs a out x) o):lst rs a out x = o:=by
  unfold lst
  have hx:∃ o,Rev.IsMin (Rev.leastS rs a out x) o:=⟨o,h⟩
  rw [dif_pos hx]
  exact Rev.min_uniq (Classical.choose_spec hx) h
structure BrOK (rs:List Rl) (out:Str) (b:Br):Prop where
  inn:∃ x:Str,b.1 = toI x
  op:b.2.1 = false → OpenY rs out (toS b.1) b.2.2.2
def GrowY (s:Sch) (out x:Str) (k:Nat) (bs:List Br):Prop:=bs.map feB = Rev.longC x (fun a => lst s.2.2 s.2.1 out (x ++ [a])) (Rev.letters.take k) ∧ ∀ b,b ∈ bs → BrOK s.2.2 out b
theorem letter_at:∀ k:Fin 26,Rev.letters[k.val]? = some (UInt8.ofNat (97 + k.val)) ∧ (UInt8.ofNat (97 + k.val)).toNat = 97 + k.val:=by decide
structure TI (rs:List Rl) (out x:Str) (a:UInt8) (E V:Th) (seen:List Nat):Prop where
  once:(V.map (·.1)).Nodup
  sound:∀ p m c,VT V (p,m) = some c → Rev.Thr rs out (x ++ [a]) p m c
  base:∀ j t,j ∈ seen → E[j]? = some t → ∀ m,t.1.2 = a :: m → ∃ c',c' ≤ t.2 ∧ VT V (t.1.1,m) = some c'
theorem TI.start {rs:List Rl} {out x:Str} {a:UInt8} {E:Th}:TI rs out x a E [] []:=⟨List.nodup_nil,fun p m c h => (by cases h),fun j t h => absurd h List.not_mem_nil⟩
theorem TI.skip {rs:List Rl} {out x:Str} {a:UInt8} {E V:Th} {seen:List Nat} {i:Nat} {e:Rev.Thread × Int} (h:TI rs out x a E V seen) (he:E[i]? = some e) (hm:∀ m,e.1.2 ≠ a :: m):TI rs out x a E V (seen ++ [i]) :=
  ⟨h.once,h.sound,fun j t hj ht m hm' => by
    rcases List.mem_append.1 hj with hj | hj
    · exact h.base j t hj ht m hm'
    · rw [List.mem_singleton.1 hj,he] at ht
      injection ht with ht
      rw [← ht] at hm'
      exact absurd hm' (hm m)⟩
theorem TI.note {rs:List Rl} {out x:Str} {a:UInt8} {E V:Th} {seen:List Nat} {i:Nat} {p:Rev.Spot} {m:Str} {c:Int} (h:TI rs out x a E V seen) (hO:Rev.Opened rs out x E) (he:E[i]? = some ((p,a :: m),c)):TI rs out x a E (noteE V (p,m) c) (seen ++ [i]) :=
  ⟨note_once _ _ h.once,fun p' m' c' hc => by
    rcases note_back _ _ _ hc with h1 | ⟨_,h1,h2⟩
    · exact h.sound p' m' c' h1
    · injection h1 with h1 h3
      rw [h1,h3,h2]
      exact .eat (hO.sound p (a :: m) c (List.mem_of_getElem? he)),fun j t hj ht m' hm' => by
    rcases List.mem_append.1 hj with hj | hj
    · obtain ⟨c1,h1,h2⟩:=h.base j t hj ht m' hm'
      obtain ⟨c2,h3,h4⟩:=note_mono V (p,m) c h2
      exact ⟨c2,by omega,h4⟩
    · rw [List.mem_singleton.1 hj,he] at ht
      injection ht with ht
      subst ht
      injection hm' with _ hm'
      subst hm'
      exact note_at V (p,m) c⟩
theorem TI.all {rs:List Rl} {out x:Str} {a:UInt8} {E V:Th} {seen:List Nat} (h:TI rs out x a E V seen) (hO:Rev.Opened rs out x E) (hd:∀ i,i < E.length → i ∈ seen):∀ p m c,Rev.Thr rs out x p (a :: m) c → ∃ c',c' ≤ c ∧ VT V (p,m) = some c':=fun p m c ht => by
  obtain ⟨c1,h1,h2⟩:=hO.all p (a :: m) c ht
  obtain ⟨j,hj⟩:=List.getElem?_of_mem h2
  obtain ⟨c2,h3,h4⟩:=h.base j _ (hd j (List.getElem?_eq_some_iff.1 hj).1) hj m rfl
  exact ⟨c2,by dsimp only at h3; omega,h4⟩
theorem TI.nil {rs:List Rl} {acc:Int} {out x:Str} {a:UInt8} {E:Th} {seen:List Nat} (hR:Rev.OkR rs) (h:TI rs out x a E [] seen) (hO:Rev.Opened rs out x E) (hd:∀ i,i < E.length → i ∈ seen):lst rs acc out (x ++ [a]) = none:=by
  have hI:OI rs out (x ++ [a]) (fun p m c => Rev.Thr rs out x p (a :: m) c) [] [] :=
    ⟨⟨h.sound,h.all hO hd,fun p c hc => (by cases hc),fun t ht => absurd ht List.not_mem_nil⟩,List.nodup_nil,fun t ht => absurd ht List.not_mem_nil⟩
  have hY:=hI.done hR Rev.comes_eat
  exact lst_eq (Rev.threads_least hR hY.1 (o:=none) fun pr ⟨t,ht,_⟩ => List.not_mem_nil ht)
def foldP (rs:List Rl) (acc:Int) (out x:Str) (E:Th):Option Rev.Price:=E.foldl (fun b t => Rev.better b (Rev.threadP rs acc out x t)) none
theorem fold_is {rs:List Rl} {acc:Int} {out x:Str} {E:Th} (hR:Rev.OkR rs) (hO:Rev.Opened rs out x E):Rev.IsMin (fun pr => ∃ t,t ∈ E ∧ Rev.threadS rs acc out x t pr) (foldP rs acc out x E):=by
  have:=Rev.fold_min (T:=fun _ => False) (b:=none) (f:=Rev.threadP rs acc out x) E (fun p hp => hp) fun t ht => Rev.thread_min (acc:=acc) (x:=x) hR (Rev.thr_ok hR (hO.sound t.1.1 t.1.2 t.2 ht))
  exact Rev.min_congr (fun p => by simp) this
theorem fold_lst {rs:List Rl} {acc:Int} {out x:Str} {E:Th} (hR:Rev.OkR rs) (hO:Rev.Opened rs out x E):Rev.IsMin (Rev.leastS rs acc out x) (foldP rs acc out x E):=Rev.threads_least hR hO (fold_is hR hO)
theorem feB_mk {x:Str} {xi:List Int} (h:xi = toI x) (d:Bool) (p:Int × Int) (E:Th):feB (xi,d,p,E) = (x,d,p):=by
  unfold feB
  rw [h]
  have:(toI x).map (fun c => UInt8.ofNat c.toNat) = x:=toS_toI x
  dsimp only
  rw [this]
theorem GrowY.no {s:Sch} {out x:Str} {k:Nat} {u:UInt8} {bs:List Br} (h:GrowY s out x k bs) (hu:Rev.letters[k]? = some u) (hl:lst s.2.2 s.2.1 out (x ++ [u]) = none):GrowY s out x (k + 1) bs:=by
  refine ⟨?_,h.2⟩
  rw [h.1,take_snoc hu]
  unfold Rev.longC
  rw [List.filterMap_append,List.filterMap_cons]
  dsimp only
  rw [hl]
  simp only [List.filterMap_nil,List.append_nil]
theorem GrowY.yes {s:Sch} {out x:Str} {k:Nat} {u:UInt8} {bs:List Br} {p:Int × Int} {E:Th} (h:GrowY s out x k bs) (hu:Rev.letters[k]? = some u) (hu2:u.toNat = 97 + k) (hl:lst s.2.2 s.2.1 out (x ++ [u]) = some p) (hO:OpenY s.2.2 out (x ++ [u]) E):GrowY s out x (k + 1) (bs ++ [(toI x ++ [((97 + k:Nat):Int)],false,p,E)]):=by
  have hx:toI x ++ [((97 + k:Nat):Int)] = toI (x ++ [u]):=by
    rw [toI_app]
    congr 1
    show _ = [(u.toNat:Int)]
    rw [hu2]
  refine ⟨?_,fun b hb => ?_⟩
  · rw [List.map_append,h.1,take_snoc hu]
    unfold Rev.longC
    rw [List.filterMap_append]
    congr 1
    simp only [List.map_cons,List.map_nil]
    rw [feB_mk hx,List.filterMap_cons,hl]
    simp only [List.filterMap_nil]
  · rcases List.mem_append.1 hb with hb | hb
    · exact h.2 b hb
    · rw [List.mem_singleton.1 hb]
      exact ⟨⟨_,hx⟩,fun _ => by dsimp only; rw [hx,toS_toI]; exact hO⟩
theorem thr_exp (x:Str):(toI x).length = x.length:=List.length_map ..
theorem h_grow (s:Sch) (hs:OkS s) (out:Str) (ho:out.length ≤ 20) (es:Gs) (hG:GI s out es) (x:Str) (hx:x.length ≤ 40) (dn:Bool) (l1 l2:Int) (E:Th) (hE:OpenY s.2.2 out x E) :
    HN env 38 [.ref 1000000000 0,.iv (.ptr BranchT) (toI x,dn,(l1,l2),E)] (fBl s out es) (.pair (.sl (.ptr BranchT)) (.mp RestT GoalT)) (fun r => GI s out r.2 ∧ GrowY s out x 26 r.1) (fun r => .iv (.sl (.ptr BranchT)) r.1) (fun r => fBl s out r.2):=by
  have hR:=ok_rules hs
  have hl:s.2.2.length ≤ 64:=hs.len
  have hopen:=fun es1 x2 B hB E0 hn h1 h2 => h_open s hs out ho es1 x2 B hB E0 hn h1 h2
  have hprice:=fun es1 hG1 x2 xi h1 h2 dn l1 l2 E2 h3 o h4 => h_price s hs out ho es1 hG1 x2 xi h1 h2 dn l1 l2 E2 h3 o h4
  have hxi:=thr_exp x
  obtain ⟨n,a,rs⟩:=s
  dsimp only at hE hR hl hopen hprice
  have hb0:bytesOf ⟨#[]⟩ = ([]:Str):=rfl
  refine HN.of_PW (m:=2000) env_ok fn_38 rfl rfl rfl rfl (by kernel_rfl) ?_; intro hx hbl; simp only [Try.f38]; simp only [go_sem,zA,↓reduceIte,↓reduceDIte,zB,zC,zD,zE,zF,zG,zH,zI]
  refine Walks.loopA (X:=Nat × List Br × Gs) (fun (z:Nat × List Br × Gs) => [(6,.iv (.int .u8) ((97 + z.1:Nat):Int)),(5,.lfull 76)]) (fun (z:Nat × List Br × Gs) => [(76,.arr (.ptr BranchT) z.2.1),(1000000001,.mp RestT GoalT z.2.2)]) (fun (z:Nat × List Br × Gs) => z.1 ≤ 26 ∧ GI (n,a,rs) out z.2.2 ∧ GrowY (n,a,rs) out x z.1 z.2.1 ∧ z.2.1.length ≤ z.1) (fun (z:Nat × List Br × Gs) => 26 - z.1) (0,[],es) ?_; intro b1 b2 hb1 hb2; simp (config:={maxSteps:=4000000}) only [go_sem,zA,↓reduceIte,↓reduceDIte,zB,zC,zD,zE,zF,zG,zH,zI] at hb1 hb2; subst hb1; subst hb2; refine ⟨(by refine ⟨?_,?_,rfl,rfl⟩ <;> repeat' (first | exact trivial | exact Or.inl rfl | exact Or.inr rfl | apply le1 | apply le2 | apply le3 | apply le4 | exact ⟨(by show (_:Nat) < 1000000000; omega),rfl,rfl⟩ | rfl | (refine And.intro (Or.inl ?_) ?_) | (refine And.intro ?_ ?_))),?_,?_⟩
  · exact ⟨Nat.zero_le _,hG,⟨rfl,fun b hb => absurd hb List.not_mem_nil⟩,Nat.zero_le _⟩
  clear hG
  intro ⟨k,bs,es1⟩ ⟨hk,hG,hY,hbl⟩ back
  dsimp only at hk hG hY hbl
  refine PW_sound env_ok ⟨_,fn_38,rfl⟩ 2000 _ _ (by kernel_rfl) ?_; simp only [go_sem,zA,↓reduceIte,↓reduceDIte,zB,zC,zD,zE,zF,zG,zH,zI]
  refine ⟨fun g => ?_,fun g => ?_⟩
  · have hk26:k < 26:=by omega
    obtain ⟨hl1,hl2⟩:=letter_at ⟨k,hk26⟩
    dsimp only at hl1 hl2
    generalize hu:UInt8.ofNat (97 + k) = u at hl1 hl2
    refine Walks.loopA (X:=List Nat × Th) (fun (y:List Nat × Th) => []) (fun (y:List Nat × Th) => [(21,.it [.iv (.mp ThreadT (.int .i64)) E] E.length y.1),(16,.mp ThreadT (.int .i64) y.2)]) (fun (y:List Nat × Th) => TI rs out x u E y.2 y.1) (fun (y:List Nat × Th) => unseen E.length y.1) ([],[]) ?_; intro b1 b2 hb1 hb2; simp (config:={maxSteps:=4000000}) only [go_sem,zA,↓reduceIte,↓reduceDIte,zB,zC,zD,zE,zF,zG,zH,zI] at hb1 hb2; subst hb1; subst hb2; refine ⟨(by refine ⟨?_,?_,rfl,rfl⟩ <;> repeat' (first | exact trivial | exact Or.inl rfl | exact Or.inr rfl | apply le1 | apply le2 | apply le3 | apply le4 | exact ⟨(by show (_:Nat) < 1000000000; omega),rfl,rfl⟩ | rfl | (refine And.intro (Or.inl ?_) ?_) | (refine And.intro ?_ ?_))),?_,?_⟩
    · exact TI.start
    intro ⟨seen,V⟩ hT back2
    dsimp only at hT
    refine PW_sound env_ok ⟨_,fn_38,rfl⟩ 2000 _ _ (by kernel_rfl) ?_; simp only [go_sem,zA,↓reduceIte,↓reduceDIte,zB,zC,zD,zE,zF,zG,zH,zI]
    have hVl:=key_len hR hl ho hT.once hT.sound
    refine ⟨fun i hi e he => ⟨e,⟨i,by simp,he⟩,?_⟩,fun hdone => ?_⟩
    · obtain ⟨⟨p,m⟩,c⟩:=e
      refine ⟨fun hm => ?_,fun hm => ?_⟩
      · cases m with
        | nil => exact absurd hb0.symm hm
        | cons b m =>
          refine ⟨(b.toNat:Int),⟨b,rfl,rfl⟩,fun hbc => ?_,fun hbc => ?_⟩
          · have hbu:b = u:=UInt8.toNat_inj.1 (by omega)
            subst hbu
            refine ⟨by simp only [List.length_cons]; omega,_,_,h_note V (by omega) (p,m) c,rfl,?_⟩
            simp only [go_sem,zA,↓reduceIte,↓reduceDIte,zB,zC,zD,zE,zF,zG,zH,zI]
            intro _
            exact back2 _ (seen ++ [i],noteE V (p,m) c) (by refine ⟨?_,?_,rfl,rfl⟩ <;> repeat' (first | exact trivial | exact Or.inl rfl | exact Or.inr rfl | apply le1 | apply le2 | apply le3 | apply le4 | exact ⟨(by show (_:Nat) < 1000000000; omega),rfl,rfl⟩ | rfl | (refine And.intro (Or.inl ?_) ?_) | (refine And.intro ?_ ?_))) (hT.note hE.1 he) (unseen_lt hi.1 hi.2)
          · exact back2 _ (seen ++ [i],V) (by refine ⟨?_,?_,rfl,rfl⟩ <;> repeat' (first | exact trivial | exact Or.inl rfl | exact Or.inr rfl | apply le1 | apply le2 | apply le3 | apply le4 | exact ⟨(by show (_:Nat) < 1000000000; omega),rfl,rfl⟩ | rfl | (refine And.intro (Or.inl ?_) ?_) | (refine And.intro ?_ ?_))) (hT.skip he (fun m' h => hbc (by injection h with h _; rw [h,hl2]))) (unseen_lt hi.1 hi.2)
      · rw [hb0] at hm
        dsimp only at hm
        exact back2 _ (seen ++ [i],V) (by refine ⟨?_,?_,rfl,rfl⟩ <;> repeat' (first | exact trivial | exact Or.inl rfl | exact Or.inr rfl | apply le1 | apply le2 | apply le3 | apply le4 | exact ⟨(by show (_:Nat) < 1000000000; omega),rfl,rfl⟩ | rfl | (refine And.intro (Or.inl ?_) ?_) | (refine And.intro ?_ ?_))) (hT.skip he (fun m' h => by dsimp only at h; rw [hm] at h; cases h)) (unseen_lt hi.1 hi.2)
    · have e1:((97 + k:Nat):Int) + 1 = ((97 + (k + 1):Nat):Int):=by omega
      simp only [e1]
      have hsym:=hT.all hE.1 hdone
      have hop:=hopen es1 (x ++ [u]) (fun p m c => Rev.Thr rs out x p (u :: m) c) Rev.comes_eat V hT.once hT.sound hsym
      refine ⟨fun h0 => ⟨⟨by omega,by omega⟩,?_⟩,fun h0 => ?_⟩
      · have hV:V = []:=List.length_eq_zero_iff.1 (by omega)
        subst hV
        exact back _ (k + 1,bs,es1) (by refine ⟨?_,?_,rfl,rfl⟩ <;> repeat' (first | exact trivial | exact Or.inl rfl | exact Or.inr rfl | apply le1 | apply le2 | apply le3 | apply le4 | exact ⟨(by show (_:Nat) < 1000000000; omega),rfl,rfl⟩ | rfl | (refine And.intro (Or.inl ?_) ?_) | (refine And.intro ?_ ?_))) ⟨by omega,hG,hY.no hl1 (hT.nil hR hE.1 hdone),by dsimp only; omega⟩ (by dsimp only; omega)
      · refine ⟨_,_,_,_,hop,fun E2 hE2 => ⟨rfl,fun _ _ => ?_⟩⟩
        simp only [go_sem,zA,↓reduceIte,↓reduceDIte,zB,zC,zD,zE,zF,zG,zH,zI]
        have htk:(toI x).take (toI x).length = toI x:=List.take_length
        simp only [htk]
        refine ⟨Int.natCast_nonneg _,fun h => absurd h (by simp),fun _ => ⟨by omega,?_⟩⟩
        refine Walks.sealw [66,16] ?_
        simp only [go_sem,zA,↓reduceIte,↓reduceDIte,zB,zC,zD,zE,zF,zG,zH,zI]
        refine PW_skipTo 15 env_ok ⟨_,fn_38,rfl⟩ 2000 _ _ (by kernel_rfl) ?_; simp only [go_sem,zA,↓reduceIte,↓reduceDIte,zB,zC,zD,zE,zF,zG,zH,zI]
        have hpr:=hprice es1 hG (x ++ [u]) (toI x ++ [((97 + k:Nat):Int)]) (by simp [toI]) (by simp; omega) false 0 0 E2 (okTh_of hR ho hE2.1.sound) _ (fold_is hR hE2.1)
        refine ⟨_,_,_,_,hpr,fun es2 hG2 => ⟨rfl,fun _ _ => ?_⟩⟩
        have hfl:=lst_eq (fold_lst (acc:=a) hR hE2.1)
        cases hf:foldP rs a out (x ++ [u]) E2 with
        | none =>
          rw [hf] at hfl
          simp only [go_sem,zA,↓reduceIte,↓reduceDIte,zB,zC,zD,zE,zF,zG,zH,zI]
          exact ⟨⟨by omega,by omega⟩,back _ (k + 1,bs,es2) (by refine ⟨?_,?_,rfl,rfl⟩ <;> repeat' (first | exact trivial | exact Or.inl rfl | exact Or.inr rfl | apply le1 | apply le2 | apply le3 | apply le4 | exact ⟨(by show (_:Nat) < 1000000000; omega),rfl,rfl⟩ | rfl | (refine And.intro (Or.inl ?_) ?_) | (refine And.intro ?_ ?_))) ⟨by omega,hG2,hY.no hl1 hfl,by dsimp only; omega⟩ (by dsimp only; omega)⟩
        | some pr =>
          rw [hf] at hfl
          obtain ⟨p1,p2⟩:=pr
          simp only [prD_some]
          simp only [go_sem,zA,↓reduceIte,↓reduceDIte,zB,zC,zD,zE,zF,zG,zH,zI]
          refine Walks.sealp [69] 11 (.ptr BranchT) (toI x ++ [((97 + k:Nat):Int)],false,(p1,p2),E2) rfl rfl ?_
          simp only [go_sem,zA,↓reduceIte,↓reduceDIte,zB,zC,zD,zE,zF,zG,zH,zI]
          refine PW_go env_ok ⟨_,fn_38,rfl⟩ 2000 _ _ (by kernel_rfl) ?_; simp only [go_sem,zA,↓reduceIte,↓reduceDIte,zB,zC,zD,zE,zF,zG,zH,zI]
          simp only [e1]
          exact ⟨by omega,⟨by omega,by omega⟩,back _ (k + 1,bs ++ [(toI x ++ [((97 + k:Nat):Int)],false,(p1,p2),E2)],es2) (by refine ⟨?_,?_,rfl,rfl⟩ <;> repeat' (first | exact trivial | exact Or.inl rfl | exact Or.inr rfl | apply le1 | apply le2 | apply le3 | apply le4 | exact ⟨(by show (_:Nat) < 1000000000; omega),rfl,rfl⟩ | rfl | (refine And.intro (Or.inl ?_) ?_) | (refine And.intro ?_ ?_))) ⟨by omega,hG2,hY.yes hl1 hl2 hfl hE2,by simp; omega⟩ (by dsimp only; omega)⟩
  · refine Walks.sealw [76] ?_
    simp only [go_sem,zA,↓reduceIte,↓reduceDIte,zB,zC,zD,zE,zF,zG,zH,zI]
    refine PW_go env_ok ⟨_,fn_38,rfl⟩ 2000 _ _ (by kernel_rfl) ?_; simp only [go_sem,zA,↓reduceIte,↓reduceDIte,zB,zC,zD,zE,zF,zG,zH,zI]
    have hk26:k = 26:=by omega
    subst hk26
    exact ⟨(bs,es1),⟨hG,hY⟩,rfl,rfl⟩
end Go.Proofs.Ytefpgfdemmllpaa
namespace Go.Proofs.Ytefpgfdemmllpaa
attribute [local go_sem] litP appendC ne_eq not_false_eq_true Option.isSome_none Option.isSome_some St.ren permF
set_option maxHeartbeats 4000000
set_option maxRecDepth 100000
theorem has_acc (a:Int) (m:Int) (ha:0 ≤ a):Rev.hasBit a m = accB a m:=by
  unfold Rev.hasBit accB
  have e:a / 2 ^ m.toNat % 2 = ((a.toNat / 2 ^ m.toNat % 2:Nat):Int):=by
    obtain ⟨k,rfl⟩:∃ k:Nat,a = k:=⟨a.toNat,by omega⟩
    simp
  rw [e]
  exact decide_eq_decide.2 (by omega)
theorem has_lt {s:Sch} (hs:OkS s) {m:Int} (h:Rev.hasBit s.2.1 m = true):m.toNat < s.1.toNat:=by
  have h1:=hs.a1
  have h2:=hs.a2
  unfold Rev.hasBit at h
  have h:=of_decide_eq_true h
  rcases Nat.lt_or_ge m.toNat s.1.toNat with h3 | h3
  · exact h3
  · exfalso
    have hp:2 ^ s.1.toNat ≤ 2 ^ m.toNat:=Nat.pow_le_pow_right (by decide) h3
    have hc:((2:Int) ^ s.1.toNat) = ((2 ^ s.1.toNat:Nat):Int):=by simp
    rw [hc] at h2
    have:s.2.1.toNat / 2 ^ m.toNat = 0:=Nat.div_eq_of_lt (by omega)
    rw [this] at h
    omega
theorem trim_path {s:Sch} (hs:OkS s) {out x:Str} {c:Int} {p:Sp} (hp:Rev.Path s.2.2 s.2.1 out p x c) (h:on (reachedE s) p.2.1.toNat):Rev.Path (trimE s).1.2.2 s.2.1 out p x c :=
  (Rev.path_trim (R:=fun m => on (reachedE s) m.toNat) (L:=fun m => on (liveE s) m.toNat) (fun r hr h1 h2 => trim_kept.2 ⟨hr,h1,h2⟩) (fun r hr h1 => reached_step hs hr h1)
    (fun m hm => live_acc hs (has_lt hs hm) (by
      have:=hs.a1
      rw [← has_acc _ _ (by omega)]
      unfold Rev.hasBit at hm ⊢
      rw [Int.toNat_natCast]
      exact hm)) (fun r hr h2 => live_step hs hr h2) hp h).1
theorem trim_inp {s:Sch} (hs:OkS s) {out x:Str} {c:Int}:Rev.Inp (trimE s).1.2.2 s.2.1 out x c ↔ Rev.Inp s.2.2 s.2.1 out x c :=
  ⟨fun h => Rev.path_mono (fun r hr => (trim_kept.1 hr).1) h,fun h => trim_path hs h (reached_zero hs)⟩
abbrev allT (s:Sch) (out:Str):List Rev.Res:=Rev.allE s.2.2 s.2.1 out
theorem all_trim {s:Sch} (hs:OkS s) (out:Str):Rev.IsAll (trimE s).1.2.2 s.2.1 out (allT s out) :=
  Rev.isAll_congr (fun x c => (trim_inp hs).symm) (Rev.all_all (ok_rules hs))
theorem low_let {u:UInt8} (h:low u = true):Rev.isLet u:=by
  unfold low at h
  rw [decide_eq_true_eq] at h
  exact h
def bestE (s:Sch) (out:Str) (k:Int):List Rev.Res × Int :=
  if isTextB out = false ∨ k < 1 ∨ 50 < k then ([],1) else if allT s out = [] then ([],50) else ((allT s out).take k.toNat,0)
structure BI (K:List Rl) (a:Int) (out:Str) (ys js:List Br) (R:List Rev.Res) (it c:Nat):Prop where
  front:Rev.Front K a out (ys.map feB) R
  ok:∀ b,b ∈ ys → BrOK K out b
  heap:Rev.IsHeap lessB ys ys.length
  top:Rev.TopC c (ys.map feB)
  turns:it ≤ 42 * R.length + c
  c41:c ≤ 41
  size:ys.length + js.length ≤ 28 * it + 2
theorem top_le {c d:Nat} {H:List Rev.FE} (h:Rev.TopC c H) (hd:d ≤ c):Rev.TopC d H:=by
  rcases h with h | ⟨t,H',h1,h2,h3⟩
  · exact .inl (by omega)
  · exact .inr ⟨t,H',h1,h2,by omega⟩
theorem ordBr:Rev.Ord2 lessB:=⟨fun a => Rev.ordE.irr _,fun a b => Rev.ordE.asym _ _,fun a b c => Rev.ordE.trans _ _ _⟩
theorem BI.pop {K:List Rl} {a:Int} {out:Str} {ys js:List Br} {R:List Rev.Res} {it c:Nat} (h:BI K a out ys js R it c) (h0:0 < ys.length):∃ e zs,Rev.downL lessB (Rev.swapL ys 0 (ys.length - 1)) 0 (ys.length - 1) = zs ++ [e] ∧ zs.length + 1 = ys.length ∧ (∀ b,b ∈ zs → BrOK K out b) ∧ BrOK K out e ∧ Rev.IsHeap lessB zs zs.length ∧ Rev.Front K a out (feB e :: zs.map feB) R ∧ c ≤ Rev.topL (feB e) ∧ (∀ b,b ∈ zs.map feB → Rev.lessE b (feB e) = false):=by
  obtain ⟨e,he⟩:∃ e,ys[0]? = some e:=get_of_lt h0
  obtain ⟨zs,h1,h2,h3,h4⟩:=Rev.pop_spec ordBr he h.heap
  have hpm:(feB e :: zs.map feB).Perm (ys.map feB):=h2.map feB
  have hmin:∀ b,b ∈ zs.map feB → Rev.lessE b (feB e) = false:=fun b hb => by
    obtain ⟨b',hb',rfl⟩:=List.mem_map.1 hb
    exact h4 b' hb'
  refine ⟨e,zs,h1,?_,fun b hb => h.ok b (h2.mem_iff.1 (List.mem_cons_of_mem _ hb)),h.ok e (h2.mem_iff.1 List.mem_cons_self),h3,Rev.front_perm h.front hpm.symm,Rev.top_pop h.top hpm hmin,hmin⟩
  have:=h2.length_eq
  rw [List.length_cons] at this
  exact this
theorem exists_min {S:Rev.Price → Prop} (h:∀ p,S p → 0 ≤ p.1 ∧ 0 ≤ p.2 ∧ p.2 ≤ 40):∃ o,Rev.IsMin S o:=by
  by_cases he:∃ p,S p
  · obtain ⟨p,hp⟩:=he
    have key:∀ (n:Nat) (p:Rev.Price),S p → (p.1 * 41 + p.2).toNat ≤ n → ∃ m,S m ∧ ∀ q,S q → Rev.lessP q m = false:=by
      intro n
      induction n with
      | zero =>
        intro p hp hn
        refine ⟨p,hp,fun q hq => ?_⟩
        have h1:=h p hp
        have h2:=h q hq
        rw [Rev.lessP_no]
        omega
      | succ n ih =>
        intro p hp hn
        by_cases hq:∃ q,S q ∧ Rev.lessP q p = true
        · obtain ⟨q,hq,hl⟩:=hq
          refine ih q hq ?_
          have h1:=h p hp
          have h2:=h q hq
          rw [Rev.lessP_iff] at hl
          omega
        · exact ⟨p,hp,fun q hq2 => Bool.eq_false_iff.2 fun hl => hq ⟨q,hq2,hl⟩⟩
    obtain ⟨m,h1,h2⟩:=key _ p hp (Nat.le_refl _)
    exact ⟨some m,h1,h2⟩
  · exact ⟨none,fun p hp => he ⟨p,hp⟩⟩
theorem lst_min {rs:List Rl} (hR:Rev.OkR rs) (a:Int) (out x:Str):Rev.IsMin (Rev.leastS rs a out x) (lst rs a out x):=by
  have hx:=exists_min (S:=Rev.leastS rs a out x) fun p hp => by
    obtain ⟨y,c,hi,hl,rfl⟩:=hp
    exact ⟨Rev.path_cost hR hi,Int.natCast_nonneg _,by dsimp only; omega⟩
  unfold lst
  rw [dif_pos hx]
  exact Classical.choose_spec hx
def foldW (acc:Int) (out x:Str) (E:Th):Option Rev.Price:=E.foldl (fun b t => Rev.better b (Rev.endP acc out x t)) none
theorem foldW_is {acc:Int} {out x:Str} {E:Th}:Rev.IsMin (fun pr => ∃ t,t ∈ E ∧ Rev.endS acc out x t pr) (foldW acc out x E):=by
  have:=Rev.fold_min (T:=fun _ => False) (b:=none) (f:=Rev.endP acc out x) E (fun p hp => hp) fun t ht => Rev.end_min (acc:=acc) (out:=out) (x:=x) (t:=t)
  exact Rev.min_congr (fun p => by simp) this
theorem okIn_of {s:Sch} (hs:OkS s):Rev.OkIn s.2.2:=fun r hr u hu => by
  have h:=hs.right r hr
  simp only [rightR,Bool.and_eq_true] at h
  have hall:r.2.2.1.all low = true:=by simp_all
  exact low_let (List.all_eq_true.1 hall u hu)
theorem BI.done {K:List Rl} {a:Int} {out:Str} {zs js:List Br} {e:Br} {R:List Rev.Res} {it c n:Nat} (hF:Rev.Front K a out (feB e :: zs.map feB) R) (hd:e.2.1 = true) (hm:∀ b,b ∈ zs.map feB → Rev.lessE b (feB e) = false) (hok:∀ b,b ∈ zs → BrOK K out b) (hh:Rev.IsHeap lessB zs zs.length)
    (hc:c ≤ 41) (ht:it ≤ 42 * R.length + c) (hn:zs.length + 1 = n) (hs:n + js.length ≤ 28 * it + 2):BI K a out zs (e :: js) (R ++ [((feB e).1,e.2.2.1.1)]) (it + 1) 0 :=
  ⟨Rev.front_done hF hd hm,hok,hh,.inl rfl,by rw [List.length_append]; simp only [List.length_cons,List.length_nil]; omega,by omega,by rw [List.length_cons]; omega⟩
def doneB (xi:List Int) (o:Option Rev.Price):List Br:=match o with | none => [] | some m => [(xi,true,m,[])]
theorem doneB_map {x:Str} (o:Option Rev.Price):(doneB (toI x) o).map feB = Rev.doneC x o:=by
  cases o with
  | none => rfl
  | some m =>
    show [feB (toI x,true,m,[])] = _
    rw [feB_mk rfl]; rfl
theorem grow_len {s:Sch} {out x:Str} {bs:List Br} (h:GrowY s out x 26 bs):bs.length ≤ 26:=by
  have:=congrArg List.length h.1
  rw [List.length_map] at this
  rw [this]
  unfold Rev.longC
  exact Nat.le_trans (List.length_filterMap_le _ _) (by decide)
theorem BI.grow {s:Sch} (hs:OkS s) {out x:Str} {ys ls zs bs:List Br} {p:Int × Int} {E:Th} {R:List Rev.Res} {it c n:Nat} {js:List Br} (hF:Rev.Front s.2.2 s.2.1 out (feB (toI x,false,p,E) :: zs.map feB) R) (hm:∀ b,b ∈ zs.map feB → Rev.lessE b (feB (toI x,false,p,E)) = false) (hok:∀ b,b ∈ zs → BrOK s.2.2 out b)
    (hO:OpenY s.2.2 out x E) (hY:GrowY s out x 26 bs) (hp:ys.Perm (zs ++ (doneB (toI x) (foldW s.2.1 out x E) ++ bs))) (hh:Rev.IsHeap lessB ys ys.length) (hc:c ≤ Rev.topL (feB (toI x,false,p,E))) (ht:it ≤ 42 * R.length + c) (hn:zs.length + 1 = n) (hsz:n + js.length ≤ 28 * it + 2) (hls:ls.length ≤ js.length + 1):BI s.2.2 s.2.1 out ys ls R (it + 1) (c + 1):=by
  have hR:=ok_rules hs
  have hlet:=okIn_of hs
  rw [feB_mk rfl] at hF hm hc
  have hw:=Rev.threads_whole (acc:=s.2.1) hO.1 (foldW_is (acc:=s.2.1) (out:=out) (x:=x) (E:=E))
  have hg:∀ u,u ∈ Rev.letters → Rev.IsMin (Rev.leastS s.2.2 s.2.1 out (x ++ [u])) (lst s.2.2 s.2.1 out (x ++ [u])):=fun u _ => lst_min hR _ _ _
  have hn2:=Rev.grow_front hR hlet hF rfl hw (g:=fun u => lst s.2.2 s.2.1 out (x ++ [u])) hg
  have htop:=Rev.top_grow hlet hF rfl hm hw (g:=fun u => lst s.2.2 s.2.1 out (x ++ [u])) hg hn2
  have hpm:(ys.map feB).Perm (zs.map feB ++ (Rev.doneC x (foldW s.2.1 out x E) ++ Rev.longC x (fun u => lst s.2.2 s.2.1 out (x ++ [u])) Rev.letters)):=by
    have:=hp.map feB
    rw [List.map_append,List.map_append,doneB_map,hY.1,List.take_of_length_le (by decide)] at this
    exact this
  have hx40:c ≤ x.length ∧ x.length ≤ 40:=by
    have h1:=Rev.front_len hF List.mem_cons_self
    have e:Rev.topL (x,false,p) = x.length:=rfl
    rw [e] at hc h1
    obtain ⟨⟨y,c',_,hl,_⟩,_⟩:=hF.live _ List.mem_cons_self rfl
    rw [List.length_append] at hl
    dsimp only at hl
    exact ⟨hc,by omega⟩
  have hbl:bs.length ≤ 26:=by
    have:=congrArg List.length hY.1
    rw [List.length_map] at this
    rw [this]
    unfold Rev.longC
    exact Nat.le_trans (List.length_filterMap_le _ _) (by decide)
  have hdl:(doneB (toI x) (foldW s.2.1 out x E)).length ≤ 1:=by unfold doneB; split <;> simp
  have hyl:=hp.length_eq
  rw [List.length_append,List.length_append] at hyl
  refine ⟨Rev.front_perm hn2 hpm.symm,fun b hb => ?_,hh,top_le (Rev.top_perm htop hpm.symm) (by show c + 1 ≤ x.length + 1; omega),by omega,by omega,by omega⟩
  rcases List.mem_append.1 (hp.mem_iff.1 hb) with hb | hb
  · exact hok b hb
  · rcases List.mem_append.1 hb with hb | hb
    · unfold doneB at hb
      split at hb
      · cases hb
      · rw [List.mem_singleton.1 hb]
        exact ⟨⟨x,rfl⟩,fun h => by cases h⟩
    · exact hY.2 b hb
theorem c_BestT (s:Sch) (hs:OkS s) (hv:(checkE s).2 = 0) (out:Str) (k:Int) (h1:isTextB out = true) (hk1:1 ≤ k) (hk2:k ≤ 50):PC env 12 [⟨SchemeT,s⟩,⟨.str,out⟩,⟨.int .i64,k⟩] (.tup (.sl ResultT) (.int .i64)) (if allT s out = [] then ([],50) else ((allT s out).take k.toNat,0)):=by
  have ho:out.length ≤ 20:=by
    unfold isTextB at h1
    simp only [Bool.and_eq_true,decide_eq_true_eq] at h1
    exact h1.1
  have ht:=trim_ok hs
  have hall:=all_trim hs out
  have hR:=ok_rules ht
  have hta:(trimE s).1.2.1 = s.2.1:=rfl
  have hTrim:=c_Trim s hs
  generalize hT:(if allT s out = [] then ([],50) else ((allT s out).take k.toNat,0):List Rev.Res × Int) = T
  generalize htt:trimE s = tt at *
  obtain ⟨⟨n,a,rs⟩,kept⟩:=tt
  dsimp only at ht hall hR hta
  rw [← hta] at hall
  refine PC.of_PW (m:=2000) env_ok fn_12 rfl rfl rfl rfl (by kernel_rfl) ?_; intro hx; simp only [Try.f12]; simp only [go_sem,zA,↓reduceIte,↓reduceDIte,zB,zC,zD,zE,zF,zG,zH,zI]
  refine ⟨_,c_isText out,?_⟩
  rw [h1]
  simp only [go_sem,zA,↓reduceIte,↓reduceDIte,zB,zC,zD,zE,zF,zG,zH,zI]
  refine ⟨fun _ => ⟨fun h => absurd h (by omega),fun _ => ⟨_,c_Valid s,?_⟩⟩,fun h => absurd h (by omega)⟩
  rw [decide_eq_true hv]
  simp only [go_sem,zA,↓reduceIte,↓reduceDIte,zB,zC,zD,zE,zF,zG,zH,zI]
  refine ⟨_,hTrim,fun _ => ?_⟩
  dsimp only
  have hG0:GI (n,a,rs) out []:=⟨fun k hk => absurd hk List.not_mem_nil,List.nodup_nil,fun k g h => by cases h⟩
  have hop:=h_open (n,a,rs) ht out ho [] [] (fun p m c => p = (0,0,1) ∧ m = [] ∧ c = 0) Rev.comes_start [(((0,0,1),[]),0)] (by simp) (fun p m c h => by
      have h2:=mfind_mem eqT h
      rw [List.mem_singleton] at h2
      injection h2 with h2 h3
      injection h2 with h2 h4
      rw [h2,h3,h4]
      exact .start) (fun p m c ⟨h2,h3,h4⟩ => ⟨0,by omega,by rw [h2,h3]; rfl⟩)
  have hone:(mset (eqB ThreadT) [] ((((0:Int),(0:Int),(1:Int)),bytesOf ⟨#[]⟩):ThreadT.den) ((0:Int):(Ty.int .i64).den)).length ≤ 9223372036854775807:=by
    have:=mset_lenG eqT ((((0:Int),(0:Int),(1:Int)),bytesOf ⟨#[]⟩):ThreadT.den) ((0:Int):(Ty.int .i64).den) []
    rw [List.length_nil] at this
    omega
  refine ⟨hone,_,_,_,_,hop,fun E hE => ⟨rfl,fun _ _ => ?_⟩⟩
  simp only [go_sem,zA,↓reduceIte,↓reduceDIte,zB,zC,zD,zE,zF,zG,zH,zI]
  refine Walks.sealw [41] ?_
  simp only [go_sem,zA,↓reduceIte,↓reduceDIte,zB,zC,zD,zE,zF,zG,zH,zI]
  refine Walks.weakA [] [(46,.box [.iv (.sl (.int .u8)) [],.iv .bool false,.iv (.int .i64) (0:Int),.iv (.int .i64) (0:Int),.iv (.mp ThreadT (.int .i64)) E])] ?_; intro b1 b2 hb1 hb2; simp (config:={maxSteps:=4000000}) only [go_sem,zA,↓reduceIte,↓reduceDIte,zB,zC,zD,zE,zF,zG,zH,zI] at hb1 hb2; subst hb1; subst hb2; refine ⟨(by refine ⟨?_,?_,rfl,rfl⟩ <;> repeat' (first | exact trivial | exact Or.inl rfl | exact Or.inr rfl | apply le1 | apply le2 | apply le3 | apply le4 | exact ⟨(by show (_:Nat) < 1000000000; omega),rfl,rfl⟩ | rfl | (refine And.intro (Or.inl ?_) ?_) | (refine And.intro ?_ ?_))),?_⟩
  refine PW_skipTo 10 env_ok ⟨_,fn_12,rfl⟩ 2000 _ _ (by kernel_rfl) ?_; simp only [go_sem,zA,↓reduceIte,↓reduceDIte,zB,zC,zD,zE,zF,zG,zH,zI]
  have hpr:=h_price (n,a,rs) ht out ho [] hG0 [] [] rfl (by simp) false 0 0 E (okTh_of hR ho hE.1.sound) _ (fold_is hR hE.1)
  refine ⟨_,_,_,_,hpr,fun es2 hG2 => ⟨rfl,fun _ _ => ?_⟩⟩
  have hfl:=fold_lst (acc:=a) hR hE.1
  cases hf:foldP rs a out [] E with
  | none =>
    rw [hf] at hfl
    have hnil:=Rev.front_end (Rev.front_start hfl) hall
    simp only [go_sem,zA,↓reduceIte,↓reduceDIte,zB,zC,zD,zE,zF,zG,zH,zI]
    refine Walks.loopA (X:=Unit) (fun (z:Unit) => [(11,.nilsl)]) (fun (z:Unit) => []) (fun (z:Unit) => True) (fun (z:Unit) => 0) () ?_; intro b1 b2 hb1 hb2; simp (config:={maxSteps:=4000000}) only [go_sem,zA,↓reduceIte,↓reduceDIte,zB,zC,zD,zE,zF,zG,zH,zI] at hb1 hb2; subst hb1; subst hb2; refine ⟨(by refine ⟨?_,?_,rfl,rfl⟩ <;> repeat' (first | exact trivial | exact Or.inl rfl | exact Or.inr rfl | apply le1 | apply le2 | apply le3 | apply le4 | exact ⟨(by show (_:Nat) < 1000000000; omega),rfl,rfl⟩ | rfl | (refine And.intro (Or.inl ?_) ?_) | (refine And.intro ?_ ?_))),?_,?_⟩
    · trivial
    intro _ _ back
    refine PW_sound env_ok ⟨_,fn_12,rfl⟩ 2000 _ _ (by kernel_rfl) ?_; simp only [go_sem,zA,↓reduceIte,↓reduceDIte,zB,zC,zD,zE,zF,zG,zH,zI]
    rw [← hT,if_pos hnil.symm]
  | some pr =>
    rw [hf] at hfl
    have hF0:=Rev.front_start hfl
    obtain ⟨p1,p2⟩:=pr
    dsimp only at hF0
    simp only [prD_some]
    simp only [go_sem,zA,↓reduceIte,↓reduceDIte,zB,zC,zD,zE,zF,zG,zH,zI]
    refine Walks.sealp [46] 9 (.ptr BranchT) ([],false,(p1,p2),E) rfl rfl ?_
    simp only [go_sem,zA,↓reduceIte,↓reduceDIte,zB,zC,zD,zE,zF,zG,zH,zI]
    refine PW_go env_ok ⟨_,fn_12,rfl⟩ 2000 _ _ (by kernel_rfl) ?_; simp only [go_sem,zA,↓reduceIte,↓reduceDIte,zB,zC,zD,zE,zF,zG,zH,zI]
    refine Walks.ren [(59,1000),(1000,59)] rfl ?_
    simp only [go_sem,zA,↓reduceIte,↓reduceDIte,zB,zC,zD,zE,zF,zG,zH,zI]
    have hB0:BI rs a out [([],false,(p1,p2),E)] [] [] 0 0:=by
      refine ⟨hF0,fun b hb => ?_,fun k h1 h2 => ?_,.inl rfl,by simp,by omega,by simp⟩
      · rw [List.mem_singleton.1 hb]
        exact ⟨⟨[],rfl⟩,fun _ => hE⟩
      · simp only [List.length_cons,List.length_nil] at h2
        omega
    refine Walks.loopA (X:=List Br × List Br × List Rev.Res × Gs × Nat × Nat) (fun (z:List Br × List Br × List Rev.Res × Gs × Nat × Nat) => [(11,.lfull 94),(56,.any),(57,.any),(58,.any),(59,.any),(60,.any)]) (fun (z:List Br × List Br × List Rev.Res × Gs × Nat × Nat) => [(10,.box [.lsl 1000 1 0 z.1.length]),(1000,.arr (.ptr BranchT) (z.1 ++ z.2.1)),(94,.arr ResultT z.2.2.1),(38,.mp RestT GoalT z.2.2.2.1)]) (fun (z:List Br × List Br × List Rev.Res × Gs × Nat × Nat) => BI rs a out z.1 z.2.1 z.2.2.1 z.2.2.2.2.1 z.2.2.2.2.2 ∧ GI (n,a,rs) out z.2.2.2.1 ∧ (z.2.2.1.length:Int) ≤ k) (fun (z:List Br × List Br × List Rev.Res × Gs × Nat × Nat) => 3000 - z.2.2.2.2.1) ([([],false,(p1,p2),E)],[],[],es2,0,0) ?_; intro b1 b2 hb1 hb2; simp (config:={maxSteps:=4000000}) only [go_sem,zA,↓reduceIte,↓reduceDIte,zB,zC,zD,zE,zF,zG,zH,zI] at hb1 hb2; subst hb1; subst hb2; refine ⟨(by refine ⟨?_,?_,rfl,rfl⟩ <;> repeat' (first | exact trivial | exact Or.inl rfl | exact Or.inr rfl | apply le1 | apply le2 | apply le3 | apply le4 | exact ⟨(by show (_:Nat) < 1000000000; omega),rfl,rfl⟩ | rfl | (refine And.intro (Or.inl ?_) ?_) | (refine And.intro ?_ ?_))),?_,?_⟩
    · exact ⟨hB0,hG2,by dsimp only; simp; omega⟩
    clear hB0 hF0 hG2
    intro ⟨ys,js,R,es,it,c⟩ ⟨hB,hG,hRk⟩ back
    dsimp only at hB hG hRk
    have hturn:=hB.turns
    have hc41:=hB.c41
    have hsize:=hB.size
    have hit:it ≤ 2141:=by omega
    have hRt:=Rev.front_take hB.front hall
    have hout:(ys = [] ∨ ¬ (R.length:Int) < k) → (if allT s out = [] then ([],50) else ((allT s out).take k.toNat,0):List Rev.Res × Int) = if R.length = 0 then ([],50) else (R,0):=fun h => by
      have hL:R = (allT s out).take k.toNat ∧ (R.length = 0 ↔ allT s out = []):=by
        rcases h with h | h
        · have hf:=hB.front
          rw [h] at hf
          have:=Rev.front_end hf hall
          rw [← this]
          exact ⟨(List.take_of_length_le (by omega)).symm,List.length_eq_zero_iff⟩
        · have e:k.toNat = R.length:=by omega
          refine ⟨by rw [e]; exact hRt,by omega,fun h0 => ?_⟩
          rw [h0,List.take_nil] at hRt
          rw [hRt]; rfl
      by_cases h0:R.length = 0
      · rw [if_pos (hL.2.1 h0),if_pos h0]
      · rw [if_neg (fun h1 => h0 (hL.2.2 h1)),if_neg h0,← hL.1]
    rw [hT] at hout
    refine PW_sound env_ok ⟨_,fn_12,rfl⟩ 2000 _ _ (by kernel_rfl) ?_; simp only [go_sem,zA,↓reduceIte,↓reduceDIte,zB,zC,zD,zE,zF,zG,zH,zI]
    have hexit:∀ (h:ys = [] ∨ ¬ (R.length:Int) < k),((R.length:Int) = 0 → ([],50) = T) ∧ (¬ (R.length:Int) = 0 → (R,0) = T):=fun h => by
      have:=hout h
      constructor
      · intro h0; rw [this,if_pos (by omega)]
      · intro h0; rw [this,if_neg (by omega)]
    refine ⟨by omega,fun h0 => ⟨fun h1 => ?_,fun h1 => ?_⟩,fun h0 => ?_⟩
    · obtain ⟨e,zs,hd,hzl,hzok,heok,hzh,hzF,hctop,hzmin⟩:=hB.pop (by omega)
      have hn1:ys.length - 1 = zs.length:=by omega
      have hpop:Rev.downL lessB (Rev.swapL (ys ++ js) 0 (ys.length - 1)) 0 (ys.length - 1) = zs ++ (e :: js):=by
        rw [Rev.swap_app _ _ _ _ (by omega) (by omega),Rev.down_app _ _ _ _ _ (Nat.le_refl _) (by rw [Rev.swap_len]; omega),hd,List.append_assoc]
        rfl
      have hP:=h_Pop (ys ++ js) ys.length (by rw [List.length_append]; omega) (by rw [List.length_append]; omega) (by omega) e (by rw [hpop,hn1]; simp)
      rw [hpop,hn1] at hP
      obtain ⟨ei,ed,⟨e1,e2⟩,eE⟩:=e
      refine ⟨_,_,hP,rfl,?_⟩
      simp only [go_sem,zA,↓reduceIte,↓reduceDIte,zB,zC,zD,zE,zF,zG,zH,zI]
      intro _
      cases ed
      · obtain ⟨x,hxe⟩:=heok.inn
        dsimp only at hxe
        subst hxe
        have hO:=heok.op rfl
        dsimp only at hO
        rw [toS_toI] at hO
        have hx40:x.length ≤ 40:=by
          have h1:=Rev.front_len hzF List.mem_cons_self
          rw [feB_mk rfl] at h1
          obtain ⟨⟨y,c',_,hl,_⟩,_⟩:=hzF.live _ List.mem_cons_self rfl
          rw [feB_mk rfl,List.length_append] at hl
          dsimp only at hl
          omega
        simp only [go_sem,zA,↓reduceIte,↓reduceDIte,zB,zC,zD,zE,zF,zG,zH,zI]
        have hwh:=h_whole (n,a,rs) ht out ho es x (toI x) (thr_exp x) false e1 e2 eE (okTh_of hR ho hO.1.sound) (foldW a out x eE) foldW_is
        refine ⟨_,_,hwh,rfl,fun _ _ => ?_⟩
        cases hw:foldW a out x eE with
        | none =>
          simp only [wholeP_none]
          simp only [go_sem,zA,↓reduceIte,↓reduceDIte,zB,zC,zD,zE,zF,zG,zH,zI]
          have hgr:=h_grow (n,a,rs) ht out ho es hG x hx40 false e1 e2 eE hO
          refine ⟨_,_,_,_,hgr,fun r hr => ⟨rfl,fun _ _ => ?_⟩⟩
          obtain ⟨bs,es2⟩:=r
          obtain ⟨hG2,hY⟩:=hr
          dsimp only at hG2 hY
          simp only [go_sem,zA,↓reduceIte,↓reduceDIte,zB,zC,zD,zE,zF,zG,zH,zI]
          refine Walks.loopA (X:=Nat × List Br × List Br) (fun (y:Nat × List Br × List Br) => [(108,.iv (.int .i64) (y.1:Int)),(60,.any)]) (fun (y:Nat × List Br × List Br) => [(10,.box [.lsl 1000 1 0 y.2.1.length]),(1000,.arr (.ptr BranchT) (y.2.1 ++ y.2.2))]) (fun (y:Nat × List Br × List Br) => y.1 ≤ bs.length ∧ Rev.IsHeap lessB y.2.1 y.2.1.length ∧ (y.2.1).Perm (zs ++ (([]:List Br) ++ bs.take y.1)) ∧ y.2.2.length ≤ js.length + 1) (fun (y:Nat × List Br × List Br) => bs.length - y.1) (0,zs,(toI x,false,(e1,e2),eE) :: js) ?_; intro b1 b2 hb1 hb2; simp (config:={maxSteps:=4000000}) only [go_sem,zA,↓reduceIte,↓reduceDIte,zB,zC,zD,zE,zF,zG,zH,zI] at hb1 hb2; subst hb1; subst hb2; refine ⟨(by refine ⟨?_,?_,rfl,rfl⟩ <;> repeat' (first | exact trivial | exact Or.inl rfl | exact Or.inr rfl | apply le1 | apply le2 | apply le3 | apply le4 | exact ⟨(by show (_:Nat) < 1000000000; omega),rfl,rfl⟩ | rfl | (refine And.intro (Or.inl ?_) ?_) | (refine And.intro ?_ ?_))),?_,?_⟩
          · exact ⟨Nat.zero_le _,hzh,by simp,by simp⟩
          intro ⟨j,us,ls⟩ ⟨hj,hh,hpm,hls⟩ back2
          dsimp only at hj hh hpm hls
          have hul:=hpm.length_eq
          rw [List.length_append,List.length_append,List.length_take] at hul
          have hdl:(([]:List Br):List Br).length ≤ 1:=by simp
          have hbl:bs.length ≤ 26:=grow_len hY
          refine PW_sound env_ok ⟨_,fn_12,rfl⟩ 2000 _ _ (by kernel_rfl) ?_; simp only [go_sem,zA,↓reduceIte,↓reduceDIte,zB,zC,zD,zE,zF,zG,zH,zI]
          refine ⟨fun g => ?_,fun g => ?_⟩
          · obtain ⟨b,hb⟩:∃ b,bs[j]? = some b:=get_of_lt (by omega)
            have hPu:=h_Push (us ++ ls) us.length (by rw [List.length_append]; omega) (by omega) b
            rw [List.take_left] at hPu
            refine ⟨Int.natCast_nonneg _,b,hb,_,_,hPu,rfl,?_⟩
            simp only [go_sem,zA,↓reduceIte,↓reduceDIte,zB,zC,zD,zE,zF,zG,zH,zI]
            intro _
            refine ⟨i64_ok (by omega) (by omega),?_⟩
            refine Walks.ren [(11601005,1000),(1000,11601005)] rfl ?_
            simp only [go_sem,zA,↓reduceIte,↓reduceDIte,zB,zC,zD,zE,zF,zG,zH,zI]
            have hul2:(us ++ [b]).length = (Rev.upL lessB (us ++ [b]) us.length).length:=(Rev.up_len _ _).symm
            rw [hul2,show Blk.arr (.ptr BranchT) (Rev.upL lessB (us ++ [b]) us.length) = Blk.arr (.ptr BranchT) (Rev.upL lessB (us ++ [b]) us.length ++ []) from by rw [List.append_nil]]
            refine back2 _ (j + 1,Rev.upL lessB (us ++ [b]) us.length,[]) (by refine ⟨?_,?_,rfl,rfl⟩ <;> repeat' (first | exact trivial | exact Or.inl rfl | exact Or.inr rfl | apply le1 | apply le2 | apply le3 | apply le4 | exact ⟨(by show (_:Nat) < 1000000000; omega),rfl,rfl⟩ | rfl | (refine And.intro (Or.inl ?_) ?_) | (refine And.intro ?_ ?_))) ⟨by omega,?_,?_,by simp⟩ (by dsimp only; omega)
            · dsimp only
              rw [Rev.up_len,List.length_append]
              exact Rev.push_heap ordBr hh
            · dsimp only
              refine (Rev.up_perm _ _).trans ?_
              rw [take_snoc hb,← List.append_assoc,← List.append_assoc]
              refine (hpm.append_right [b]).trans ?_
              rw [← List.append_assoc]
          · have hjb:bs.take j = bs:=List.take_of_length_le (by omega)
            rw [hjb] at hpm
            refine back _ (us,ls,R,es2,it + 1,c + 1) (by refine ⟨?_,?_,rfl,rfl⟩ <;> repeat' (first | exact trivial | exact Or.inl rfl | exact Or.inr rfl | apply le1 | apply le2 | apply le3 | apply le4 | exact ⟨(by show (_:Nat) < 1000000000; omega),rfl,rfl⟩ | rfl | (refine And.intro (Or.inl ?_) ?_) | (refine And.intro ?_ ?_))) ⟨BI.grow (s:=(n,a,rs)) ht hzF hzmin hzok hO hY ?_ hh hctop hturn hzl hsize hls,hG2,hRk⟩ (by dsimp only; omega)
            show us.Perm (zs ++ (doneB (toI x) (foldW a out x eE) ++ bs))
            rw [hw]
            exact hpm
        | some m =>
          obtain ⟨m1,m2⟩:=m
          simp only [wholeP_some]
          simp only [go_sem,zA,↓reduceIte,↓reduceDIte,zB,zC,zD,zE,zF,zG,zH,zI]
          have hPw:=h_Push (zs ++ ((toI x,false,(e1,e2),eE) :: js)) zs.length (by rw [List.length_append]; omega) (by omega) (toI x,true,(m1,m2),[])
          rw [List.take_left] at hPw
          refine ⟨_,_,hPw,rfl,?_⟩
          simp only [go_sem,zA,↓reduceIte,↓reduceDIte,zB,zC,zD,zE,zF,zG,zH,zI]
          intro _
          have hgr:=h_grow (n,a,rs) ht out ho es hG x hx40 false e1 e2 eE hO
          refine ⟨_,_,_,_,hgr,fun r hr => ⟨rfl,fun _ _ => ?_⟩⟩
          obtain ⟨bs,es2⟩:=r
          obtain ⟨hG2,hY⟩:=hr
          dsimp only at hG2 hY
          simp only [go_sem,zA,↓reduceIte,↓reduceDIte,zB,zC,zD,zE,zF,zG,zH,zI]
          refine Walks.ren [(10401005,1000),(1000,10401005)] rfl ?_
          simp only [go_sem,zA,↓reduceIte,↓reduceDIte,zB,zC,zD,zE,zF,zG,zH,zI]
          have hzl2:(zs ++ [((toI x,true,(m1,m2),[]):Br)]).length = (Rev.upL lessB (zs ++ [(toI x,true,(m1,m2),[])]) zs.length).length:=(Rev.up_len _ _).symm
          rw [hzl2,show Blk.arr (.ptr BranchT) (Rev.upL lessB (zs ++ [((toI x,true,(m1,m2),[]):Br)]) zs.length) = Blk.arr (.ptr BranchT) (Rev.upL lessB (zs ++ [((toI x,true,(m1,m2),[]):Br)]) zs.length ++ []) from by rw [List.append_nil]]
          refine Walks.loopA (X:=Nat × List Br × List Br) (fun (y:Nat × List Br × List Br) => [(108,.iv (.int .i64) (y.1:Int)),(60,.any)]) (fun (y:Nat × List Br × List Br) => [(10,.box [.lsl 1000 1 0 y.2.1.length]),(1000,.arr (.ptr BranchT) (y.2.1 ++ y.2.2))]) (fun (y:Nat × List Br × List Br) => y.1 ≤ bs.length ∧ Rev.IsHeap lessB y.2.1 y.2.1.length ∧ (y.2.1).Perm (zs ++ ([((toI x,true,(m1,m2),[]):Br)] ++ bs.take y.1)) ∧ y.2.2.length ≤ js.length + 1) (fun (y:Nat × List Br × List Br) => bs.length - y.1) (0,Rev.upL lessB (zs ++ [(toI x,true,(m1,m2),[])]) zs.length,[]) ?_; intro b1 b2 hb1 hb2; simp (config:={maxSteps:=4000000}) only [go_sem,zA,↓reduceIte,↓reduceDIte,zB,zC,zD,zE,zF,zG,zH,zI] at hb1 hb2; subst hb1; subst hb2; refine ⟨(by refine ⟨?_,?_,rfl,rfl⟩ <;> repeat' (first | exact trivial | exact Or.inl rfl | exact Or.inr rfl | apply le1 | apply le2 | apply le3 | apply le4 | exact ⟨(by show (_:Nat) < 1000000000; omega),rfl,rfl⟩ | rfl | (refine And.intro (Or.inl ?_) ?_) | (refine And.intro ?_ ?_))),?_,?_⟩
          · exact ⟨Nat.zero_le _,by dsimp only; rw [Rev.up_len,List.length_append]; exact Rev.push_heap ordBr hzh,by dsimp only; rw [List.take_zero,List.append_nil]; exact Rev.up_perm _ _,by simp⟩
          intro ⟨j,us,ls⟩ ⟨hj,hh,hpm,hls⟩ back2
          dsimp only at hj hh hpm hls
          have hul:=hpm.length_eq
          rw [List.length_append,List.length_append,List.length_take] at hul
          have hdl:([((toI x,true,(m1,m2),[]):Br)]:List Br).length ≤ 1:=by simp
          have hbl:bs.length ≤ 26:=grow_len hY
          refine PW_sound env_ok ⟨_,fn_12,rfl⟩ 2000 _ _ (by kernel_rfl) ?_; simp only [go_sem,zA,↓reduceIte,↓reduceDIte,zB,zC,zD,zE,zF,zG,zH,zI]
          refine ⟨fun g => ?_,fun g => ?_⟩
          · obtain ⟨b,hb⟩:∃ b,bs[j]? = some b:=get_of_lt (by omega)
            have hPu:=h_Push (us ++ ls) us.length (by rw [List.length_append]; omega) (by omega) b
            rw [List.take_left] at hPu
            refine ⟨Int.natCast_nonneg _,b,hb,_,_,hPu,rfl,?_⟩
            simp only [go_sem,zA,↓reduceIte,↓reduceDIte,zB,zC,zD,zE,zF,zG,zH,zI]
            intro _
            refine ⟨i64_ok (by omega) (by omega),?_⟩
            refine Walks.ren [(11601005,1000),(1000,11601005)] rfl ?_
            simp only [go_sem,zA,↓reduceIte,↓reduceDIte,zB,zC,zD,zE,zF,zG,zH,zI]
            have hul2:(us ++ [b]).length = (Rev.upL lessB (us ++ [b]) us.length).length:=(Rev.up_len _ _).symm
            rw [hul2,show Blk.arr (.ptr BranchT) (Rev.upL lessB (us ++ [b]) us.length) = Blk.arr (.ptr BranchT) (Rev.upL lessB (us ++ [b]) us.length ++ []) from by rw [List.append_nil]]
            refine back2 _ (j + 1,Rev.upL lessB (us ++ [b]) us.length,[]) (by refine ⟨?_,?_,rfl,rfl⟩ <;> repeat' (first | exact trivial | exact Or.inl rfl | exact Or.inr rfl | apply le1 | apply le2 | apply le3 | apply le4 | exact ⟨(by show (_:Nat) < 1000000000; omega),rfl,rfl⟩ | rfl | (refine And.intro (Or.inl ?_) ?_) | (refine And.intro ?_ ?_))) ⟨by omega,?_,?_,by simp⟩ (by dsimp only; omega)
            · dsimp only
              rw [Rev.up_len,List.length_append]
              exact Rev.push_heap ordBr hh
            · dsimp only
              refine (Rev.up_perm _ _).trans ?_
              rw [take_snoc hb,← List.append_assoc,← List.append_assoc]
              refine (hpm.append_right [b]).trans ?_
              rw [← List.append_assoc]
          · have hjb:bs.take j = bs:=List.take_of_length_le (by omega)
            rw [hjb] at hpm
            refine back _ (us,ls,R,es2,it + 1,c + 1) (by refine ⟨?_,?_,rfl,rfl⟩ <;> repeat' (first | exact trivial | exact Or.inl rfl | exact Or.inr rfl | apply le1 | apply le2 | apply le3 | apply le4 | exact ⟨(by show (_:Nat) < 1000000000; omega),rfl,rfl⟩ | rfl | (refine And.intro (Or.inl ?_) ?_) | (refine And.intro ?_ ?_))) ⟨BI.grow (s:=(n,a,rs)) ht hzF hzmin hzok hO hY ?_ hh hctop hturn hzl hsize hls,hG2,hRk⟩ (by dsimp only; omega)
            show us.Perm (zs ++ (doneB (toI x) (foldW a out x eE) ++ bs))
            rw [hw]
            exact hpm
      · simp only [go_sem,zA,↓reduceIte,↓reduceDIte,zB,zC,zD,zE,zF,zG,zH,zI]
        refine ⟨by omega,back _ (zs,(ei,true,(e1,e2),eE) :: js,R ++ [(ei.map (fun c => UInt8.ofNat c.toNat),e1)],es,it + 1,0) (by refine ⟨?_,?_,rfl,rfl⟩ <;> repeat' (first | exact trivial | exact Or.inl rfl | exact Or.inr rfl | apply le1 | apply le2 | apply le3 | apply le4 | exact ⟨(by show (_:Nat) < 1000000000; omega),rfl,rfl⟩ | rfl | (refine And.intro (Or.inl ?_) ?_) | (refine And.intro ?_ ?_))) ⟨BI.done hzF rfl hzmin hzok hzh hc41 hturn hzl hsize,hG,?_⟩ (by dsimp only; omega)⟩
        rw [List.length_append]
        simp only [List.length_cons,List.length_nil]
        omega
    · exact hexit (.inr h1)
    · exact hexit (.inl (List.length_eq_zero_iff.1 (by omega)))
end Go.Proofs.Ytefpgfdemmllpaa
namespace Go.Proofs.Ytefpgfdemmllpaa
set_option maxHeartbeats 4000000
set_option maxRecDepth 100000
theorem c_Best (s:Sch) (hs:OkS s) (hv:(checkE s).2 = 0) (out:Str) (k:Int):PC env 12 [⟨SchemeT,s⟩,⟨.str,out⟩,⟨.int .i64,k⟩] (.tup (.sl ResultT) (.int .i64)) (bestE s out k):=by
  by_cases h:isTextB out = false ∨ k < 1 ∨ 50 < k
  · have hb:bestE s out k = ([],1):=by unfold bestE; rw [if_pos h]
    rw [hb]
    obtain ⟨n,a,rs⟩:=s
    refine PC.of_PW (m:=2000) env_ok fn_12 rfl rfl rfl rfl (by kernel_rfl) ?_; intro hx; simp only [Try.f12]; simp only [go_sem,zA,↓reduceIte,↓reduceDIte,zB,zC,zD,zE,zF,zG,zH,zI]
    refine ⟨_,c_isText out,?_⟩
    cases ht:isTextB out
    · simp only [go_sem,zA,↓reduceIte,↓reduceDIte,zB,zC,zD,zE,zF,zG,zH,zI]
    · rw [ht] at h
      simp only [go_sem,zA,↓reduceIte,↓reduceDIte,zB,zC,zD,zE,zF,zG,zH,zI]
      refine ⟨fun h1 => ⟨fun _ => trivial,fun h2 => ?_⟩,fun _ => trivial⟩
      rcases h with h | h | h
      · cases h
      · exact absurd h h1
      · exact absurd h h2
  · have h1:isTextB out = true:=by
      cases hh:isTextB out with
      | true => rfl
      | false => exact absurd (.inl hh) h
    unfold bestE
    rw [if_neg h]
    exact c_BestT s hs hv out k h1 (by omega) (by omega)
def cheapE (s:Sch) (out:Str):Str × Int × Int:=match bestE s out 1 with
  | (r :: _,0) => (r.1,r.2,0)
  | (_,e) => ([],0,e)
theorem c_Cheapest (s:Sch) (hs:OkS s) (hv:(checkE s).2 = 0) (out:Str):PC env 14 [⟨SchemeT,s⟩,⟨.str,out⟩] (.tup .str (.tup (.int .i64) (.int .i64))) (cheapE s out):=by
  have hB:=c_Best s hs hv out 1
  obtain ⟨l,e,he⟩:∃ l e,bestE s out 1 = (l,e):=⟨_,_,rfl⟩
  have hform:(e = 0 ∧ ∃ r l',l = r :: l') ∨ (e ≠ 0 ∧ l = []):=by
    unfold bestE at he
    split at he
    · injection he with h1 h2; exact .inr ⟨by omega,h1.symm⟩
    · split at he
      · injection he with h1 h2; exact .inr ⟨by omega,h1.symm⟩
      · rename_i hne
        injection he with h1 h2
        refine .inl ⟨h2.symm,?_⟩
        cases hl:allT s out with
        | nil => exact absurd hl hne
        | cons r l' => rw [hl] at h1; exact ⟨r,_,h1.symm⟩
  unfold cheapE
  rw [he] at hB ⊢
  obtain ⟨n,a,rs⟩:=s
  have hb0:bytesOf ⟨#[]⟩ = ([]:Str):=rfl
  rcases hform with ⟨rfl,r,l',rfl⟩ | ⟨h0,rfl⟩
  · obtain ⟨r1,r2⟩:=r
    refine PC.of_PW (m:=2000) env_ok fn_14 rfl rfl rfl rfl (by kernel_rfl) ?_; intro hx; simp only [Try.f14]; simp only [go_sem,zA,↓reduceIte,↓reduceDIte,zB,zC,zD,zE,zF,zG,zH,zI]
    refine ⟨_,hB,fun _ => ?_⟩
    exact ⟨fun h => absurd rfl h,fun _ => ⟨(r1,r2),rfl,(r1,r2),rfl,rfl⟩⟩
  · refine PC.of_PW (m:=2000) env_ok fn_14 rfl rfl rfl rfl (by kernel_rfl) ?_; intro hx; simp only [Try.f14]; simp only [go_sem,zA,↓reduceIte,↓reduceDIte,zB,zC,zD,zE,zF,zG,zH,zI]
    refine ⟨_,hB,fun _ => ?_⟩
    exact ⟨fun _ => rfl,fun h => absurd h h0⟩
end Go.Proofs.Ytefpgfdemmllpaa
