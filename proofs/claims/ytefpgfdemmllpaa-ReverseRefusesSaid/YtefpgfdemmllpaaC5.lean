/- The law RouteTrims, as a contract. Nothing here is trusted; no condition. -/
import Derived.Test.YtefpgfdemmllpaaC4
set_option linter.unusedSimpArgs false
set_option linter.unusedVariables false
open Nat renaming reduceBEq → zA, reduceAdd → zB, reduceSub → zC, reduceMul → zD, reduceLeDiff → zE
open Int renaming reduceLT → zF, reduceLE → zG, reduceToNat → zH, reduceNeg → zI
namespace Go.Proofs.Ytefpgfdemmllpaa
attribute [local go_sem] blsR blsF back_3 back_4 back_5
set_option maxHeartbeats 4000000
set_option maxRecDepth 100000
theorem back_3 {i0 i1 i2 j:Nat} {r:List Nat} {d:Nat}:back (i0 :: i1 :: i2 :: j :: r) d 1000000003 = j:=rfl
theorem back_4 {i0 i1 i2 i3 j:Nat} {r:List Nat} {d:Nat}:back (i0 :: i1 :: i2 :: i3 :: j :: r) d 1000000004 = j:=rfl
theorem back_5 {i0 i1 i2 i3 i4 j:Nat} {r:List Nat} {d:Nat}:back (i0 :: i1 :: i2 :: i3 :: i4 :: j :: r) d 1000000005 = j:=rfl
def blsR (n a:Int) (rs:List Rl) (L:List Bool):List (Nat × Blk):=[(1000000000,.box [.fn 80 [.ref 1000000002 0,.ref 1000000003 0,.ref 1000000004 0]]),(1000000001,.box [.fn 89 [.ref 1000000000 0,.ref 1000000001 0]]),(1000000002,.box [.lfull 1000000005]),(1000000003,.box [.iv (.mp (.int .i64) (.sl (.int .i64))) (leavE rs)]),(1000000004,.box [.iv (.int .i64) n,.iv (.int .u8) a,.iv (.sl RuleT) rs]),(1000000005,.arr .bool L)]
def blsF (n a:Int) (rs:List Rl) (L:List Bool):List (Nat × Blk):=[(1000000000,.box [.lfull 1000000003]),(1000000001,.box [.iv (.mp (.int .i64) (.sl (.int .i64))) (leavE rs)]),(1000000002,.box [.iv (.int .i64) n,.iv (.int .u8) a,.iv (.sl RuleT) rs]),(1000000003,.arr .bool L)]
def tgt (rs:List Rl) (j:Int):Nat:=match rs[j.toNat]? with | some r => r.2.1.toNat | none => 0
def grR (rs:List Rl) (m:Nat):List Nat:=(nexts (m:Int) rs 0).map (tgt rs)
theorem h_visit (n a:Int) (rs:List Rl) (hs:OkS (n,a,rs)) (f:Nat)
    (ih:∀ (L:List Bool) (m:Int),L.length = n.toNat → 0 ≤ m → m < n → cf L < f → HC env 89 [.iv (.int .i64) m,.ref 1000000000 0,.ref 1000000001 0] (blsR n a rs L) (.tup []) (blsR n a rs (dfsC (grR rs) f L m.toNat)))
    (L:List Bool) (m:Int) (hL:L.length = n.toNat) (h0:0 ≤ m) (hm:m < n) (hc:cf L < f + 1):HC env 80 [.iv (.int .i64) m,.fn 89 [.ref 1000000000 0,.ref 1000000001 0],.ref 1000000002 0,.ref 1000000003 0,.ref 1000000004 0] (blsR n a rs L) (.tup []) (blsR n a rs (dfsC (grR rs) (f + 1) L m.toNat)):=by
  have h8:=hs.n8
  have hr:=hs.right
  have hl:=hs.len
  dsimp only at h8 hr hl
  obtain ⟨b,hb⟩:∃ b,L[m.toNat]? = some b:=get_of_lt (by omega)
  generalize hT:dfsC (grR rs) (f + 1) L m.toNat = T
  refine HC.of_PW (m:=2000) env_ok fn_80 rfl rfl rfl rfl (by kernel_rfl) ?_; intro hx hbl; simp only [Try.f80]; simp only [go_sem,zA,↓reduceIte,↓reduceDIte,zB,zC,zD,zE,zF,zG,zH,zI]
  refine ⟨⟨h0,by omega⟩,b,hb,?_⟩
  cases b
  · simp only [go_sem,zA,↓reduceIte,↓reduceDIte,zB,zC,zD,zE,zF,zG,zH,zI]
    refine ⟨⟨h0,by omega⟩,?_⟩
    rw [show (mfind (eqB (.int .i64)) (leavE rs) m).getD [] = nexts m rs 0 from leav_get rs m]
    have hT2:((nexts m rs 0).map (tgt rs)).foldl (fun L k => dfsC (grR rs) f L k) (L.set m.toNat true) = T:=by
      rw [← hT]
      have e:dfsC (grR rs) (f + 1) L m.toNat = if L[m.toNat]? = some true then L else (grR rs m.toNat).foldl (fun L k => dfsC (grR rs) f L k) (L.set m.toNat true):=rfl
      rw [e,if_neg (by rw [hb]; simp)]
      unfold grR
      rw [show ((m.toNat:Nat):Int) = m by omega]
    have hcf:=cf_set hb
    have hnl:=nexts_len m rs 0
    have hG:∀ x y,y ∈ grR rs x → y < n.toNat:=fun x y hy => by
      unfold grR at hy
      obtain ⟨j,hj,rfl⟩:=List.mem_map.1 hy
      obtain ⟨i,r,hi,_,rfl⟩:=nexts_mem.1 hj
      have:=right_nums (hr r (List.mem_of_getElem? hi))
      unfold tgt
      rw [Nat.zero_add,Int.toNat_natCast,hi]
      show r.2.1.toNat < _
      omega
    refine Walks.loopA (X:=Nat × List Bool) (fun (z:Nat × List Bool) => [(20,.iv (.int .i64) (z.1:Int)),(8,.any)]) (fun (z:Nat × List Bool) => [(1000000005,.arr .bool z.2)]) (fun (z:Nat × List Bool) => z.1 ≤ (nexts m rs 0).length ∧ z.2.length = n.toNat ∧ cf z.2 < f ∧ (((nexts m rs 0).drop z.1).map (tgt rs)).foldl (fun L k => dfsC (grR rs) f L k) z.2 = T) (fun (z:Nat × List Bool) => (nexts m rs 0).length - z.1) (0,L.set m.toNat true) ?_; intro b1 b2 hb1 hb2; simp (config:={maxSteps:=4000000}) only [go_sem,zA,↓reduceIte,↓reduceDIte,zB,zC,zD,zE,zF,zG,zH,zI] at hb1 hb2; subst hb1; subst hb2; refine ⟨(by refine ⟨?_,?_,rfl,rfl⟩ <;> repeat' (first | exact trivial | exact Or.inl rfl | exact Or.inr rfl | apply le1 | apply le2 | apply le3 | apply le4 | exact ⟨(by show (_:Nat) < 1000000000; omega),rfl,rfl⟩ | rfl | (refine And.intro (Or.inl ?_) ?_) | (refine And.intro ?_ ?_))),?_,?_⟩
    · exact ⟨Nat.zero_le _,by simpa using hL,by dsimp only; omega,hT2⟩
    clear hT2
    intro ⟨k,M⟩ ⟨hk,hM,hcM,hT2⟩ back
    dsimp only at hk hM hcM hT2
    refine PW_sound env_ok ⟨_,fn_80,rfl⟩ 2000 _ _ (by kernel_rfl) ?_; simp only [go_sem,zA,↓reduceIte,↓reduceDIte,zB,zC,zD,zE,zF,zG,zH,zI]
    refine ⟨fun g => ?_,fun g => ?_⟩
    · obtain ⟨j,hj⟩:∃ j,(nexts m rs 0)[k]? = some j:=get_of_lt (by omega)
      obtain ⟨i,r,hri,hrm,hji⟩:=nexts_mem.1 (List.mem_of_getElem? hj)
      rw [Nat.zero_add] at hji
      subst hji
      have hri':rs[((i:Int)).toNat]? = some r:=by simpa using hri
      have hrn:=right_nums (hr r (List.mem_of_getElem? hri))
      refine ⟨Int.natCast_nonneg _,(i:Int),hj,Int.natCast_nonneg _,r,hri',_,_,ih M r.2.1 hM (by omega) (by omega) hcM,rfl,?_⟩
      simp only [go_sem,zA,↓reduceIte,↓reduceDIte,zB,zC,zD,zE,zF,zG,zH,zI]
      intro _
      rw [drop_cons hj,List.map_cons,List.foldl_cons] at hT2
      have et:tgt rs (i:Int) = r.2.1.toNat:=by unfold tgt; rw [hri']
      rw [et] at hT2
      have hd:=(dfs_ok hG f M r.2.1.toNat hM (by omega) hcM).1
      refine ⟨i64_ok (by omega) (by omega),back _ (k + 1,dfsC (grR rs) f M r.2.1.toNat) (by refine ⟨?_,?_,rfl,rfl⟩ <;> repeat' (first | exact trivial | exact Or.inl rfl | exact Or.inr rfl | apply le1 | apply le2 | apply le3 | apply le4 | exact ⟨(by show (_:Nat) < 1000000000; omega),rfl,rfl⟩ | rfl | (refine And.intro (Or.inl ?_) ?_) | (refine And.intro ?_ ?_))) ⟨(by first | omega | (show (_:Int) ≤ _; omega) | (show (_:Int) < _; omega) | (dsimp only; omega)),by dsimp only; rw [dfsC_len]; exact hM,by have:=hd.cf; dsimp only; omega,hT2⟩ (by dsimp only; omega)⟩
    · rw [List.drop_of_length_le (by omega)] at hT2
      have e:M = T:=hT2
      rw [e]
  · simp only [go_sem,zA,↓reduceIte,↓reduceDIte,zB,zC,zD,zE,zF,zG,zH,zI]
    have e:dfsC (grR rs) (f + 1) L m.toNat = if L[m.toNat]? = some true then L else (grR rs m.toNat).foldl (fun L k => dfsC (grR rs) f L k) (L.set m.toNat true):=rfl
    rw [e,if_pos hb] at hT
    rw [hT]
theorem h_mark (n a:Int) (rs:List Rl) (hs:OkS (n,a,rs)):∀ (f:Nat) (L:List Bool) (m:Int),L.length = n.toNat → 0 ≤ m → m < n → cf L < f → HC env 89 [.iv (.int .i64) m,.ref 1000000000 0,.ref 1000000001 0] (blsR n a rs L) (.tup []) (blsR n a rs (dfsC (grR rs) f L m.toNat))
  | 0,L,m,_,_,_,h => by omega
  | f + 1,L,m,hL,h0,hm,hc => by
    have hv:=h_visit n a rs hs f (h_mark n a rs hs f) L m hL h0 hm hc
    generalize dfsC (grR rs) (f + 1) L m.toNat = T at hv
    refine HC.of_PW (m:=2000) env_ok fn_89 rfl rfl rfl rfl (by kernel_rfl) ?_; intro hx hbl; simp only [Try.f89]; simp only [go_sem,zA,↓reduceIte,↓reduceDIte,zB,zC,zD,zE,zF,zG,zH,zI]
    refine ⟨_,_,hv,rfl,?_⟩
    simp only [go_sem,zA,↓reduceIte,↓reduceDIte,zB,zC,zD,zE,zF,zG,zH,zI]
    intro _
    exact trivial
theorem h_from (n a:Int) (rs:List Rl) (hs:OkS (n,a,rs)) (f:Nat) (L:List Bool) (m:Int) (hL:L.length = n.toNat) (h0:0 ≤ m) (hm:m < n) (hc:cf L < f):HC env 79 [.iv (.int .i64) m,.fn 80 [.ref 1000000000 0,.ref 1000000001 0,.ref 1000000002 0]] (blsF n a rs L) (.tup []) (blsF n a rs (dfsC (grR rs) f L m.toNat)):=by
  have hv:=h_mark n a rs hs f L m hL h0 hm hc
  generalize dfsC (grR rs) f L m.toNat = T at hv
  refine HC.of_PW (m:=2000) env_ok fn_79 rfl rfl rfl rfl (by kernel_rfl) ?_; intro hx hbl; simp only [Try.f79]; simp only [go_sem,zA,↓reduceIte,↓reduceDIte,zB,zC,zD,zE,zF,zG,zH,zI]
  refine ⟨_,_,hv,rfl,?_⟩
  simp only [go_sem,zA,↓reduceIte,↓reduceDIte,zB,zC,zD,zE,zF,zG,zH,zI]
  intro _
  exact trivial
theorem grR_edge {rs:List Rl} {x y:Nat}:y ∈ grR rs x ↔ ∃ r,r ∈ rs ∧ r.1 = (x:Int) ∧ y = r.2.1.toNat:=by
  unfold grR
  constructor
  · intro hy
    obtain ⟨j,hj,rfl⟩:=List.mem_map.1 hy
    obtain ⟨i,r,hi,hm,rfl⟩:=nexts_mem.1 hj
    refine ⟨r,List.mem_of_getElem? hi,hm,?_⟩
    unfold tgt
    rw [Nat.zero_add,Int.toNat_natCast,hi]
  · rintro ⟨r,hr,hm,rfl⟩
    obtain ⟨i,hi⟩:=List.getElem?_of_mem hr
    refine List.mem_map.2 ⟨(i:Int),nexts_mem.2 ⟨i,r,hi,hm,by rw [Nat.zero_add]⟩,?_⟩
    unfold tgt
    rw [Int.toNat_natCast,hi]
theorem dfs_is {n a:Int} {rs:List Rl} (hs:OkS (n,a,rs)):dfsC (grR rs) (n.toNat + 1) (List.replicate n.toNat false) 0 = reachedE (n,a,rs):=by
  have h1:=hs.n1
  have hr:=hs.right
  dsimp only at h1 hr
  have off:∀ m,¬ on (List.replicate n.toNat false) m:=fun m h => by
    unfold on at h
    rw [List.getElem?_replicate] at h
    split at h <;> simp at h
  have hst:(startR n.toNat).length = n.toNat:=by unfold startR; simp
  have on0:∀ m,on (startR n.toNat) m → m = 0:=fun m h => by
    rcases on_set_cases h with e | e
    · exact e
    · exact absurd e (off m)
  have hG:∀ x y,y ∈ grR rs x → y < n.toNat:=fun x y hy => by
    obtain ⟨r,h1,h2,rfl⟩:=grR_edge.1 hy
    have:=right_nums (hr r h1)
    omega
  have hE:∀ x y,y ∈ grR rs x → (x,y) ∈ edgesR rs:=fun x y hy => by
    obtain ⟨r,h1,h2,rfl⟩:=grR_edge.1 hy
    exact List.mem_map.2 ⟨r,h1,by rw [h2,Int.toNat_natCast]⟩
  have hcf:cf (List.replicate n.toNat false) < n.toNat + 1:=by
    have:=cf_le (List.replicate n.toNat false)
    rw [List.length_replicate] at this
    omega
  obtain ⟨d1,d2⟩:=dfs_ok hG (n.toNat + 1) (List.replicate n.toNat false) 0 (List.length_replicate ..) (by omega) hcf
  refine clos_uniq ?_ (by rw [hst]; exact Nat.le_refl _) (by rw [dfsC_len,hst,List.length_replicate]) (dfs_sound hE _ _ _ (fun m h => absurd h (off m)) (.base 0 (on_set_self (by rw [List.length_replicate]; omega)))) ?_ ?_
  · intro e he
    unfold edgesR at he
    obtain ⟨r,hrm,rfl⟩:=List.mem_map.1 he
    have:=right_nums (hr r hrm)
    rw [hst]
    show r.2.1.toNat < n.toNat
    omega
  · intro e he hon
    rcases d1.new _ hon with h | h
    · exact absurd h (off _)
    · refine h _ ?_
      unfold edgesR at he
      obtain ⟨r,hrm,rfl⟩:=List.mem_map.1 he
      have:=right_nums (hr r hrm)
      exact grR_edge.2 ⟨r,hrm,by show r.1 = ((r.1.toNat:Nat):Int); omega,rfl⟩
  · intro m hm
    rw [on0 m hm]
    exact d2
theorem c_Reached (s:Sch) (hs:OkS s):PC env 53 [⟨SchemeT,s⟩] (.sl .bool) (reachedE s):=by
  have hs0:=hs
  obtain ⟨n,a,rs⟩:=s
  have h1:=hs.n1
  have h8:=hs.n8
  dsimp only at h1 h8
  have hf:=h_from n a rs hs0 (n.toNat + 1) (List.replicate n.toNat false) 0 (List.length_replicate ..) (Int.le_refl _) (by omega) (by have:=cf_le (List.replicate n.toNat false); rw [List.length_replicate] at this; omega)
  rw [show Int.toNat 0 = 0 from rfl,dfs_is hs0] at hf
  generalize reachedE (n,a,rs) = T at hf ⊢
  refine PC.of_PW (m:=2000) env_ok fn_53 rfl rfl rfl rfl (by kernel_rfl) ?_; intro hx; simp only [Try.f53]; simp only [go_sem,zA,↓reduceIte,↓reduceDIte,zB,zC,zD,zE,zF,zG,zH,zI]
  refine ⟨_,_,h_marks (n,a,rs) ⟨by dsimp only; omega,h8⟩,rfl,?_⟩
  simp only [go_sem,zA,↓reduceIte,↓reduceDIte,zB,zC,zD,zE,zF,zG,zH,zI]
  intro _
  refine ⟨fun h => absurd h (by rw [List.length_replicate]; omega),fun _ => ⟨_,c_leaving (n,a,rs) hs0,fun _ => ⟨_,_,hf,rfl,?_⟩⟩⟩
  simp only [go_sem,zA,↓reduceIte,↓reduceDIte,zB,zC,zD,zE,zF,zG,zH,zI]
  exact fun _ => trivial
end Go.Proofs.Ytefpgfdemmllpaa
namespace Go.Proofs.Ytefpgfdemmllpaa
attribute [local go_sem] tr1P tr1B tr2P tr2B St.ren permF
set_option maxHeartbeats 4000000
set_option maxRecDepth 100000
abbrev TrL:=List (Rl × Int)
def pairsT (R L:List Bool):List Rl → Nat → TrL
  | [],_ => []
  | r :: rs,i => if R[r.1.toNat]? = some true ∧ L[r.2.1.toNat]? = some true then (r,(i:Int)) :: pairsT R L rs (i + 1) else pairsT R L rs (i + 1)
def trimL (s:Sch):TrL:=pairsT (reachedE s) (liveE s) s.2.2 0
def trimE (s:Sch):Sch × List Int:=((s.1,s.2.1,(trimL s).map (·.1)),(trimL s).map (·.2))
theorem pairsT_yes {R L:List Bool} {r:Rl} {rs:List Rl} {i:Nat} (h1:R[r.1.toNat]? = some true) (h2:L[r.2.1.toNat]? = some true):pairsT R L (r :: rs) i = (r,(i:Int)) :: pairsT R L rs (i + 1):=by
  have e:pairsT R L (r :: rs) i = if R[r.1.toNat]? = some true ∧ L[r.2.1.toNat]? = some true then (r,(i:Int)) :: pairsT R L rs (i + 1) else pairsT R L rs (i + 1):=rfl
  rw [e,if_pos ⟨h1,h2⟩]
theorem pairsT_no {R L:List Bool} {r:Rl} {rs:List Rl} {i:Nat} (h:R[r.1.toNat]? = some false ∨ L[r.2.1.toNat]? = some false):pairsT R L (r :: rs) i = pairsT R L rs (i + 1):=by
  have e:pairsT R L (r :: rs) i = if R[r.1.toNat]? = some true ∧ L[r.2.1.toNat]? = some true then (r,(i:Int)) :: pairsT R L rs (i + 1) else pairsT R L rs (i + 1):=rfl
  rw [e,if_neg]
  rintro ⟨a,b⟩
  rcases h with h | h
  · rw [a] at h; simp at h
  · rw [b] at h; simp at h
theorem pairsT_len (R L:List Bool):∀ (rs:List Rl) (i:Nat),(pairsT R L rs i).length ≤ rs.length
  | [],_ => Nat.le_refl _
  | r :: rs,i => by
    have:=pairsT_len R L rs (i + 1)
    unfold pairsT
    split <;> simp only [List.length_cons] <;> omega
def tr1P:TrL → PV × PV
  | [] => (.nilsl,.nilsl) | _ :: _ => (.lfull 48,.lfull 53)
def tr1B:TrL → List (Nat × Blk)
  | [] => [] | x :: r => [(48,.arr RuleT ((x :: r).map (·.1))),(53,.arr (.int .i64) ((x :: r).map (·.2)))]
def tr2P:TrL → PV
  | [] => .nilsl | _ :: _ => .lfull 1000
def tr2B:TrL → List (Nat × Blk)
  | [] => [(18,.arr (.int .i64) [])] | x :: r => [(1000,.arr RuleT ((x :: r).map (·.1))),(18,.arr (.int .i64) ((x :: r).map (·.2)))]
theorem c_Trim (s:Sch) (hs:OkS s):PC env 32 [⟨SchemeT,s⟩] (.tup SchemeT (.sl (.int .i64))) (trimE s):=by
  have hs0:=hs
  have hRl:(reachedE s).length = s.1.toNat:=by unfold reachedE; rw [closC_len]; unfold startR; simp
  have hLl:(liveE s).length = s.1.toNat:=by unfold liveE; rw [closC_len,startL_len]
  have c1:=c_Reached s hs
  have c2:=c_Live s hs
  have hT:pairsT (reachedE s) (liveE s) s.2.2 0 = trimL s:=rfl
  have hE:trimE s = ((s.1,s.2.1,(trimL s).map (·.1)),(trimL s).map (·.2)):=rfl
  rw [hE]
  generalize reachedE s = R at *
  generalize liveE s = L at *
  generalize trimL s = T at *
  obtain ⟨n,a,rs⟩:=s
  have h8:=hs.n8
  have hl:=hs.len
  have hr:=hs.right
  dsimp only at h8 hl hr hRl hLl hT ⊢
  refine PC.of_PW (m:=2000) env_ok fn_32 rfl rfl rfl rfl (by kernel_rfl) ?_; intro hx; simp only [Try.f32]; simp only [go_sem,zA,↓reduceIte,↓reduceDIte,zB,zC,zD,zE,zF,zG,zH,zI]
  refine ⟨_,c1,fun _ => ⟨_,c2,fun _ => ?_⟩⟩
  refine Walks.loopA (X:=Nat × TrL) (fun (z:Nat × TrL) => [(22,.iv (.int .i64) (z.1:Int)),(7,(tr1P z.2).2),(8,.any),(9,.any)]) (fun (z:Nat × TrL) => ((6,.box [.iv (.int .i64) n,.iv (.int .u8) a,(tr1P z.2).1]) :: tr1B z.2)) (fun (z:Nat × TrL) => z.1 ≤ rs.length ∧ z.2.length ≤ z.1 ∧ z.2 ++ pairsT R L (rs.drop z.1) z.1 = T) (fun (z:Nat × TrL) => rs.length - z.1) (0,[]) ?_; intro b1 b2 hb1 hb2; simp (config:={maxSteps:=4000000}) only [go_sem,zA,↓reduceIte,↓reduceDIte,zB,zC,zD,zE,zF,zG,zH,zI] at hb1 hb2; subst hb1; subst hb2; refine ⟨(by refine ⟨?_,?_,rfl,rfl⟩ <;> repeat' (first | exact trivial | exact Or.inl rfl | exact Or.inr rfl | apply le1 | apply le2 | apply le3 | apply le4 | exact ⟨(by show (_:Nat) < 1000000000; omega),rfl,rfl⟩ | rfl | (refine And.intro (Or.inl ?_) ?_) | (refine And.intro ?_ ?_))),?_,?_⟩
  · exact ⟨Nat.zero_le _,Nat.le_refl _,hT⟩
  clear hT
  intro ⟨k,acc⟩ ⟨hk,ha,hT⟩ back
  dsimp only at hk ha hT
  rcases acc with _ | ⟨p0,acc⟩
  · refine PW_sound env_ok ⟨_,fn_32,rfl⟩ 2000 _ _ (by kernel_rfl) ?_; simp only [go_sem,zA,↓reduceIte,↓reduceDIte,zB,zC,zD,zE,zF,zG,zH,zI]
    refine ⟨fun g => ?_,fun g => ?_⟩
    · obtain ⟨r,hri⟩:∃ r,rs[k]? = some r:=get_of_lt (by omega)
      have hrr:=hr r (List.mem_of_getElem? hri)
      have hrn:=right_nums hrr
      rw [drop_cons hri] at hT
      obtain ⟨b1,hb1⟩:∃ b,R[r.1.toNat]? = some b:=get_of_lt (by omega)
      obtain ⟨b2,hb2⟩:∃ b,L[r.2.1.toNat]? = some b:=get_of_lt (by omega)
      have hf:=c_fits (n,a,rs) r
      dsimp only at hf
      rw [right_fits h8 hrr] at hf
      refine ⟨Int.natCast_nonneg _,r,hri,_,hf,?_⟩
      simp only [go_sem,zA,↓reduceIte,↓reduceDIte,zB,zC,zD,zE,zF,zG,zH,zI]
      refine ⟨by omega,b1,hb1,?_⟩
      cases b1
      · simp only [go_sem,zA,↓reduceIte,↓reduceDIte,zB,zC,zD,zE,zF,zG,zH,zI]
        rw [pairsT_no (.inl hb1)] at hT
        exact ⟨i64_ok (by omega) (by omega),back _ (k + 1,[]) (by refine ⟨?_,?_,rfl,rfl⟩ <;> repeat' (first | exact trivial | exact Or.inl rfl | exact Or.inr rfl | apply le1 | apply le2 | apply le3 | apply le4 | exact ⟨(by show (_:Nat) < 1000000000; omega),rfl,rfl⟩ | rfl | (refine And.intro (Or.inl ?_) ?_) | (refine And.intro ?_ ?_))) ⟨(by first | omega | (show (_:Int) ≤ _; omega) | (show (_:Int) < _; omega) | (dsimp only; omega)),by dsimp only; omega,hT⟩ (by dsimp only; omega)⟩
      · simp only [go_sem,zA,↓reduceIte,↓reduceDIte,zB,zC,zD,zE,zF,zG,zH,zI]
        refine ⟨by omega,b2,hb2,?_⟩
        cases b2
        · simp only [go_sem,zA,↓reduceIte,↓reduceDIte,zB,zC,zD,zE,zF,zG,zH,zI]
          rw [pairsT_no (.inr hb2)] at hT
          exact ⟨i64_ok (by omega) (by omega),back _ (k + 1,[]) (by refine ⟨?_,?_,rfl,rfl⟩ <;> repeat' (first | exact trivial | exact Or.inl rfl | exact Or.inr rfl | apply le1 | apply le2 | apply le3 | apply le4 | exact ⟨(by show (_:Nat) < 1000000000; omega),rfl,rfl⟩ | rfl | (refine And.intro (Or.inl ?_) ?_) | (refine And.intro ?_ ?_))) ⟨(by first | omega | (show (_:Int) ≤ _; omega) | (show (_:Int) < _; omega) | (dsimp only; omega)),by dsimp only; omega,hT⟩ (by dsimp only; omega)⟩
        · simp only [go_sem,zA,↓reduceIte,↓reduceDIte,zB,zC,zD,zE,zF,zG,zH,zI]
          rw [pairsT_yes hb1 hb2] at hT
          exact ⟨i64_ok (by omega) (by omega),back _ (k + 1,[(r,(k:Int))]) (by refine ⟨?_,?_,rfl,rfl⟩ <;> repeat' (first | exact trivial | exact Or.inl rfl | exact Or.inr rfl | apply le1 | apply le2 | apply le3 | apply le4 | exact ⟨(by show (_:Nat) < 1000000000; omega),rfl,rfl⟩ | rfl | (refine And.intro (Or.inl ?_) ?_) | (refine And.intro ?_ ?_))) ⟨(by first | omega | (show (_:Int) ≤ _; omega) | (show (_:Int) < _; omega) | (dsimp only; omega)),by simp,hT⟩ (by dsimp only; omega)⟩
    · rw [List.drop_of_length_le (by omega)] at hT
      have e:([]:TrL) = T:=by simpa [pairsT] using hT
      rw [← e]; rfl
  · refine PW_sound env_ok ⟨_,fn_32,rfl⟩ 2000 _ _ (by kernel_rfl) ?_; simp only [go_sem,zA,↓reduceIte,↓reduceDIte,zB,zC,zD,zE,zF,zG,zH,zI]
    refine ⟨fun g => ?_,fun g => ?_⟩
    · obtain ⟨r,hri⟩:∃ r,rs[k]? = some r:=get_of_lt (by omega)
      have hrr:=hr r (List.mem_of_getElem? hri)
      have hrn:=right_nums hrr
      rw [drop_cons hri] at hT
      obtain ⟨b1,hb1⟩:∃ b,R[r.1.toNat]? = some b:=get_of_lt (by omega)
      obtain ⟨b2,hb2⟩:∃ b,L[r.2.1.toNat]? = some b:=get_of_lt (by omega)
      have hf:=c_fits (n,a,rs) r
      dsimp only at hf
      rw [right_fits h8 hrr] at hf
      refine ⟨Int.natCast_nonneg _,r,hri,_,hf,?_⟩
      simp only [go_sem,zA,↓reduceIte,↓reduceDIte,zB,zC,zD,zE,zF,zG,zH,zI]
      refine ⟨by omega,b1,hb1,?_⟩
      cases b1
      · simp only [go_sem,zA,↓reduceIte,↓reduceDIte,zB,zC,zD,zE,zF,zG,zH,zI]
        rw [pairsT_no (.inl hb1)] at hT
        exact ⟨i64_ok (by omega) (by omega),back _ (k + 1,p0 :: acc) (by refine ⟨?_,?_,rfl,rfl⟩ <;> repeat' (first | exact trivial | exact Or.inl rfl | exact Or.inr rfl | apply le1 | apply le2 | apply le3 | apply le4 | exact ⟨(by show (_:Nat) < 1000000000; omega),rfl,rfl⟩ | rfl | (refine And.intro (Or.inl ?_) ?_) | (refine And.intro ?_ ?_))) ⟨(by first | omega | (show (_:Int) ≤ _; omega) | (show (_:Int) < _; omega) | (dsimp only; omega)),by dsimp only; omega,hT⟩ (by dsimp only; omega)⟩
      · simp only [go_sem,zA,↓reduceIte,↓reduceDIte,zB,zC,zD,zE,zF,zG,zH,zI]
        refine ⟨by omega,b2,hb2,?_⟩
        cases b2
        · simp only [go_sem,zA,↓reduceIte,↓reduceDIte,zB,zC,zD,zE,zF,zG,zH,zI]
          rw [pairsT_no (.inr hb2)] at hT
          exact ⟨i64_ok (by omega) (by omega),back _ (k + 1,p0 :: acc) (by refine ⟨?_,?_,rfl,rfl⟩ <;> repeat' (first | exact trivial | exact Or.inl rfl | exact Or.inr rfl | apply le1 | apply le2 | apply le3 | apply le4 | exact ⟨(by show (_:Nat) < 1000000000; omega),rfl,rfl⟩ | rfl | (refine And.intro (Or.inl ?_) ?_) | (refine And.intro ?_ ?_))) ⟨(by first | omega | (show (_:Int) ≤ _; omega) | (show (_:Int) < _; omega) | (dsimp only; omega)),by dsimp only; omega,hT⟩ (by dsimp only; omega)⟩
        · simp only [go_sem,zA,↓reduceIte,↓reduceDIte,zB,zC,zD,zE,zF,zG,zH,zI]
          rw [pairsT_yes hb1 hb2] at hT
          have e1:List.map (fun x:Rl × Int => x.2) acc ++ [(k:Int)] = List.map (fun x => x.2) (acc ++ [(r,(k:Int))]):=by simp
          have e2:List.map (fun x:Rl × Int => x.1) acc ++ [(r.1,r.2.1,r.2.2.1,r.2.2.2.1,r.2.2.2.2)] = List.map (fun x => x.1) (acc ++ [(r,(k:Int))]):=by simp
          rw [e1,e2]
          simp only [List.length_cons] at ha
          exact ⟨by rw [List.length_map]; omega,by rw [List.length_map]; omega,i64_ok (by omega) (by omega),back _ (k + 1,p0 :: (acc ++ [(r,(k:Int))])) (by refine ⟨?_,?_,rfl,rfl⟩ <;> repeat' (first | exact trivial | exact Or.inl rfl | exact Or.inr rfl | apply le1 | apply le2 | apply le3 | apply le4 | exact ⟨(by show (_:Nat) < 1000000000; omega),rfl,rfl⟩ | rfl | (refine And.intro (Or.inl ?_) ?_) | (refine And.intro ?_ ?_))) ⟨(by first | omega | (show (_:Int) ≤ _; omega) | (show (_:Int) < _; omega) | (dsimp only; omega)),by simp; omega,by rw [← hT]; simp⟩ (by dsimp only; omega)⟩
    · rw [List.drop_of_length_le (by omega)] at hT
      have e:p0 :: acc = T:=by simpa [pairsT] using hT
      rw [← e]; rfl
end Go.Proofs.Ytefpgfdemmllpaa
namespace Go.Proofs.Ytefpgfdemmllpaa
set_option maxHeartbeats 4000000
set_option maxRecDepth 100000
structure StE (a:Int) (n k:Nat) (L:List En):Prop where
  len:L.length = n
  at_:∀ i e,L[i]? = some e → e = ([],0,decide (i < k) && accB a (i:Int))
theorem StE.zero {a:Int} {n:Nat}:StE a n 0 (List.replicate n ([],0,false)) :=
  ⟨List.length_replicate ..,fun i e h => by
    rw [List.getElem?_replicate] at h
    split at h
    · injection h with h; rw [← h]; simp
    · cases h⟩
theorem StE.next {a:Int} {n k:Nat} {L:List En} (h:StE a n k L):StE a n (k + 1) (L.modify k fun x => (x.1,x.2.1,accB a (k:Int))) :=
  ⟨by rw [List.length_modify]; exact h.len,fun i e he => by
    rw [List.getElem?_modify] at he
    cases hi:L[i]? with
    | none => rw [hi] at he; cases he
    | some q =>
      rw [hi] at he
      have he:(if k = i then ((q.1,q.2.1,accB a (k:Int)):En) else q) = e:=by injection he
      have:=h.at_ i q hi
      subst this
      rw [← he]
      by_cases hki:k = i
      · subst hki; simp
      · rw [if_neg hki]
        have:decide (i < k) = decide (i < k + 1):=decide_eq_decide.2 (by omega)
        rw [this]⟩
theorem StE.done {a:Int} {n:Nat} {L:List En} (h:StE a n n L):L = startE a n:=by
  refine List.ext_getElem? fun i => ?_
  unfold startE
  rw [List.getElem?_map]
  by_cases hi:i < n
  · rw [List.getElem?_range hi]
    obtain ⟨e,he⟩:∃ e,L[i]? = some e:=get_of_lt (by rw [h.len]; exact hi)
    rw [he,h.at_ i e he]
    simp [hi]
  · rw [List.getElem?_eq_none (by rw [h.len]; omega),List.getElem?_eq_none (by simp; omega)]
    rfl
end Go.Proofs.Ytefpgfdemmllpaa
namespace Go.Proofs.Ytefpgfdemmllpaa
set_option maxHeartbeats 4000000
set_option maxRecDepth 100000
def fewS:Sch:=(2,1,[(0,1,[99],[],1),(0,0,[98],[98],2)])
theorem tf:trimE fewS = ((2,1,[(0,0,[98],[98],2)]),[1]):=by decide
theorem PK_cast {E:Env} {G:Goal} {n:Nat} {b b':Bool} {d:Nat} {want:Bool} {o:Oper} {all:List Oper} {N:List Nat} {acc:List (List Nat)} {os:List Oper} {k:List WI} {s:St} (h:b = b') (hp:PK E G n (.iv .bool b') d want o all N acc os k s):PK E G n (.iv .bool b) d want o all N acc os k s:=by rw [h]; exact hp
end Go.Proofs.Ytefpgfdemmllpaa
namespace Go.Proofs.Ytefpgfdemmllpaa
set_option maxHeartbeats 4000000
set_option maxRecDepth 100000
end Go.Proofs.Ytefpgfdemmllpaa
namespace Go.Proofs.Ytefpgfdemmllpaa
set_option maxHeartbeats 4000000
set_option maxRecDepth 100000
end Go.Proofs.Ytefpgfdemmllpaa
namespace Go.Proofs.Ytefpgfdemmllpaa
set_option maxHeartbeats 4000000
set_option maxRecDepth 100000
theorem edgesR_lt {s:Sch} (hs:OkS s):∀ e,e ∈ edgesR s.2.2 → e.2 < (startR s.1.toNat).length:=by
  intro e he
  unfold edgesR at he
  obtain ⟨r,hr,rfl⟩:=List.mem_map.1 he
  have:=right_nums (hs.right r hr)
  unfold startR
  simp
  omega
theorem edgesL_lt {s:Sch} (hs:OkS s):∀ e,e ∈ edgesL s.2.2 → e.2 < (startL s.2.1 s.1.toNat).length:=by
  intro e he
  unfold edgesL at he
  obtain ⟨r,hr,rfl⟩:=List.mem_map.1 he
  have:=right_nums (hs.right r hr)
  rw [startL_len]
  show r.1.toNat < _
  omega
theorem reached_iff {s:Sch} (hs:OkS s) (m:Nat):on (reachedE s) m ↔ Cl (edgesR s.2.2) (startR s.1.toNat) m :=
  clos_iff (edgesR_lt hs) (by unfold startR; simp) m
theorem live_cl {s:Sch} (hs:OkS s) (m:Nat):on (liveE s) m ↔ Cl (edgesL s.2.2) (startL s.2.1 s.1.toNat) m :=
  clos_iff (edgesL_lt hs) (by rw [startL_len]; exact Nat.le_refl _) m
theorem reached_zero {s:Sch} (hs:OkS s):on (reachedE s) 0:=(reached_iff hs 0).2 (.base 0 (on_set_self (by have:=hs.n1; rw [List.length_replicate]; omega)))
theorem reached_step {s:Sch} (hs:OkS s) {r:Rl} (hr:r ∈ s.2.2) (h:on (reachedE s) r.1.toNat):on (reachedE s) r.2.1.toNat :=
  (reached_iff hs _).2 (.step _ _ ((reached_iff hs _).1 h) (List.mem_map.2 ⟨r,hr,rfl⟩))
theorem live_step {s:Sch} (hs:OkS s) {r:Rl} (hr:r ∈ s.2.2) (h:on (liveE s) r.2.1.toNat):on (liveE s) r.1.toNat :=
  (live_cl hs _).2 (.step _ _ ((live_cl hs _).1 h) (List.mem_map.2 ⟨r,hr,rfl⟩))
theorem live_acc {s:Sch} (hs:OkS s) {m:Nat} (hm:m < s.1.toNat) (h:accB s.2.1 (m:Int) = true):on (liveE s) m :=
  (live_cl hs _).2 (.base m (by unfold on; rw [startL_at hm,h]))
theorem PB_cast {E:Env} {G:Goal} {n:Nat} {b b':Bool} {x y:Code} {k:List WI} {s:St} (h:b = b') (hp:PB E G n (.iv .bool b') x y k s):PB E G n (.iv .bool b) x y k s:=by rw [h]; exact hp
end Go.Proofs.Ytefpgfdemmllpaa
namespace Go.Proofs.Ytefpgfdemmllpaa
set_option maxHeartbeats 4000000
set_option maxRecDepth 100000
theorem pairsT_mem {R L:List Bool}:∀ {rs:List Rl} {i:Nat} {p:Rl × Int},p ∈ pairsT R L rs i ↔ ∃ (j:Nat),rs[j]? = some p.1 ∧ p.2 = ((i + j:Nat):Int) ∧ on R p.1.1.toNat ∧ on L p.1.2.1.toNat
  | [],i,p => by simp [pairsT]
  | r :: rs,i,p => by
    have ih:=@pairsT_mem R L rs (i + 1) p
    have hd:(∃ (j:Nat),(r :: rs)[j]? = some p.1 ∧ p.2 = ((i + j:Nat):Int) ∧ on R p.1.1.toNat ∧ on L p.1.2.1.toNat) ↔ (r = p.1 ∧ p.2 = (i:Int) ∧ on R p.1.1.toNat ∧ on L p.1.2.1.toNat) ∨ ∃ (j:Nat),rs[j]? = some p.1 ∧ p.2 = ((i + 1 + j:Nat):Int) ∧ on R p.1.1.toNat ∧ on L p.1.2.1.toNat:=by
      constructor
      · rintro ⟨j,h1,h2,h3⟩
        cases j with
        | zero => exact .inl ⟨by simpa using h1,by simpa using h2,h3⟩
        | succ j => exact .inr ⟨j,by simpa using h1,by rw [h2]; congr 1; omega,h3⟩
      · rintro (⟨h1,h2,h3⟩ | ⟨j,h1,h2,h3⟩)
        · exact ⟨0,by simpa using h1,by simpa using h2,h3⟩
        · exact ⟨j + 1,by simpa using h1,by rw [h2]; congr 1; omega,h3⟩
    rw [hd,← ih]
    have e:pairsT R L (r :: rs) i = if R[r.1.toNat]? = some true ∧ L[r.2.1.toNat]? = some true then (r,(i:Int)) :: pairsT R L rs (i + 1) else pairsT R L rs (i + 1):=rfl
    rw [e]
    split
    · rename_i h
      rw [List.mem_cons]
      refine or_congr ?_ Iff.rfl
      constructor
      · rintro rfl; exact ⟨rfl,rfl,h⟩
      · rintro ⟨rfl,h2,_⟩; exact Prod.ext rfl h2
    · rename_i h
      refine ⟨.inr,fun g => g.resolve_left ?_⟩
      rintro ⟨rfl,_,h3⟩
      exact h h3
theorem pairsT_sub {R L:List Bool}:∀ {rs:List Rl} {i:Nat},((pairsT R L rs i).map (·.1)).Sublist rs
  | [],_ => List.Sublist.slnil
  | r :: rs,i => by
    have e:pairsT R L (r :: rs) i = if R[r.1.toNat]? = some true ∧ L[r.2.1.toNat]? = some true then (r,(i:Int)) :: pairsT R L rs (i + 1) else pairsT R L rs (i + 1):=rfl
    rw [e]
    split
    · exact List.Sublist.cons_cons _ pairsT_sub
    · exact List.Sublist.cons _ pairsT_sub
theorem trim_kept {s:Sch} {r:Rl}:r ∈ (trimE s).1.2.2 ↔ r ∈ s.2.2 ∧ on (reachedE s) r.1.toNat ∧ on (liveE s) r.2.1.toNat:=by
  show r ∈ (trimL s).map (·.1) ↔ _
  rw [List.mem_map]
  constructor
  · rintro ⟨p,hp,rfl⟩
    obtain ⟨j,h1,_,h3⟩:=pairsT_mem.1 hp
    exact ⟨List.mem_of_getElem? h1,h3⟩
  · rintro ⟨h1,h2⟩
    obtain ⟨j,hj⟩:=List.getElem?_of_mem h1
    exact ⟨(r,((0 + j:Nat):Int)),pairsT_mem.2 ⟨j,hj,rfl,h2⟩,rfl⟩
theorem trim_ok {s:Sch} (hs:OkS s):OkS (trimE s).1 :=
  ⟨hs.n1,hs.n8,hs.a1,hs.a2,Nat.le_trans (by show ((trimL s).map (·.1)).length ≤ _; rw [List.length_map]; exact pairsT_len _ _ _ _) hs.len,fun r hr => hs.right r (trim_kept.1 hr).1,hs.nodup.sublist pairsT_sub⟩
theorem trim_lens (s:Sch):(trimE s).1.2.2.length = (trimE s).2.length:=by
  show ((trimL s).map _).length = ((trimL s).map _).length
  rw [List.length_map,List.length_map]
theorem pairsT_ge {R L:List Bool} {rs:List Rl} {i:Nat} {p:Rl × Int} (h:p ∈ pairsT R L rs i):(i:Int) ≤ p.2:=by
  obtain ⟨j,_,h,_⟩:=pairsT_mem.1 h
  omega
theorem pairsT_not {R L:List Bool} {r:Rl} {rs:List Rl} {i:Nat} (h:¬ (on R r.1.toNat ∧ on L r.2.1.toNat)):pairsT R L (r :: rs) i = pairsT R L rs (i + 1):=by
  have e:pairsT R L (r :: rs) i = if R[r.1.toNat]? = some true ∧ L[r.2.1.toNat]? = some true then (r,(i:Int)) :: pairsT R L rs (i + 1) else pairsT R L rs (i + 1):=rfl
  rw [e]
  exact if_neg h
end Go.Proofs.Ytefpgfdemmllpaa
