/- Contracts: the threads that are opened. Nothing here is trusted; no condition. -/
import Derived.Test.YtefpgfdemmllpaaD1
set_option linter.unusedSimpArgs false
set_option linter.unusedVariables false
open Nat renaming reduceBEq → zA, reduceAdd → zB, reduceSub → zC, reduceMul → zD, reduceLeDiff → zE
open Int renaming reduceLT → zF, reduceLE → zG, reduceToNat → zH, reduceNeg → zI
namespace Go.Proofs.Ytefpgfdemmllpaa
set_option maxHeartbeats 1000000
section
variable {K V:Type} {eq:K → K → Bool} (he:∀ x y,eq x y = true ↔ x = y)
include he
theorem eq_no {x y:K} (h:x ≠ y):eq x y = false:=by
  cases hh:eq x y with
  | false => rfl
  | true => exact absurd ((he x y).1 hh) h
theorem eq_yes (x:K):eq x x = true:=(he x x).2 rfl
theorem mfind_setG (v:V) (a b:K):∀ (m:List (K × V)),mfind eq (mset eq m a v) b = bif eq b a then some v else mfind eq m b
  | [] => by simp only [mset,mfind]
  | p :: r => by
    simp only [mset]
    cases hap:eq a p.1 with
    | true =>
      have e:=(he a p.1).1 hap
      simp only [cond_true,mfind]
      rw [← e]
      cases eq b a <;> rfl
    | false =>
      simp only [cond_false,mfind]
      rw [mfind_setG v a b r]
      cases hbp:eq b p.1 with
      | true =>
        have e:=(he b p.1).1 hbp
        have:eq b a = false:=eq_no he (fun h => by rw [← h,e,eq_yes he] at hap; cases hap)
        simp only [cond_true,this,cond_false]
      | false => simp only [cond_false]
theorem mfind_same (v:V) (a:K) (m:List (K × V)):mfind eq (mset eq m a v) a = some v:=by rw [mfind_setG he,eq_yes he]; rfl
theorem mfind_other (v:V) {a b:K} (h:b ≠ a) (m:List (K × V)):mfind eq (mset eq m a v) b = mfind eq m b:=by rw [mfind_setG he,eq_no he h]; rfl
theorem mfind_mem {k:K} {v:V}:∀ {m:List (K × V)},mfind eq m k = some v → (k,v) ∈ m
  | [],h => by simp [mfind] at h
  | p :: r,h => by
    simp only [mfind] at h
    cases hkp:eq k p.1 with
    | true =>
      rw [hkp] at h
      simp only [cond_true,Option.some.injEq] at h
      have e:=(he k p.1).1 hkp
      rw [e,← h]
      exact List.mem_cons_self
    | false =>
      rw [hkp] at h
      exact List.mem_cons_of_mem _ (mfind_mem h)
theorem mfind_some {k:K}:∀ {m:List (K × V)},k ∈ m.map (·.1) → ∃ v,mfind eq m k = some v
  | [],h => by simp at h
  | p :: r,h => by
    simp only [mfind]
    cases hkp:eq k p.1 with
    | true => exact ⟨_,rfl⟩
    | false =>
      rw [List.map_cons,List.mem_cons] at h
      rcases h with h | h
      · rw [h,eq_yes he] at hkp; cases hkp
      · exact mfind_some h
theorem mset_keysG (k:K) (v:V):∀ (m:List (K × V)),(k ∈ m.map (·.1) ∧ (mset eq m k v).map (·.1) = m.map (·.1)) ∨ (k ∉ m.map (·.1) ∧ (mset eq m k v).map (·.1) = m.map (·.1) ++ [k])
  | [] => .inr ⟨by simp,rfl⟩
  | p :: r => by
    simp only [mset]
    cases hkp:eq k p.1 with
    | true =>
      have e:=(he k p.1).1 hkp
      exact .inl ⟨by rw [e]; simp,by simp only [cond_true,List.map_cons]; rw [e]⟩
    | false =>
      have hne:k ≠ p.1:=fun h => by rw [h,eq_yes he] at hkp; cases hkp
      simp only [cond_false,List.map_cons]
      rcases mset_keysG k v r with ⟨h1,h2⟩ | ⟨h1,h2⟩
      · exact .inl ⟨List.mem_cons_of_mem _ h1,by rw [h2]⟩
      · exact .inr ⟨fun h => (List.mem_cons.1 h).elim hne h1,by rw [h2]; rfl⟩
theorem mset_onceG {k:K} {v:V} {m:List (K × V)} (h:(m.map (·.1)).Nodup):((mset eq m k v).map (·.1)).Nodup:=by
  rcases mset_keysG he k v m with ⟨_,h2⟩ | ⟨h1,h2⟩
  · rw [h2]; exact h
  · rw [h2,List.nodup_append]
    refine ⟨h,by simp,fun a ha b hb => ?_⟩
    rw [List.mem_singleton] at hb
    subst hb
    exact fun e => h1 (e ▸ ha)
theorem mem_mfind {k:K} {v:V}:∀ {m:List (K × V)},(m.map (·.1)).Nodup → ((k,v) ∈ m ↔ mfind eq m k = some v)
  | [],_ => by simp [mfind]
  | p :: r,h => by
    rw [List.map_cons,List.nodup_cons] at h
    refine ⟨fun hm => ?_,mfind_mem he⟩
    simp only [mfind]
    rcases List.mem_cons.1 hm with e | hm
    · subst e
      rw [eq_yes he]; rfl
    · rw [eq_no he (fun e => h.1 (by rw [← e]; exact List.mem_map.2 ⟨_,hm,rfl⟩)),cond_false]
      exact (mem_mfind h.2).1 hm
theorem mset_lenG (k:K) (v:V) (m:List (K × V)):(mset eq m k v).length ≤ m.length + 1:=by
  have:=congrArg List.length (show (mset eq m k v).map (·.1) = _ from rfl)
  rcases mset_keysG he k v m with ⟨_,h2⟩ | ⟨_,h2⟩
  · have:=congrArg List.length h2
    simp only [List.length_map] at this
    omega
  · have:=congrArg List.length h2
    simp only [List.length_map,List.length_append,List.length_cons,List.length_nil] at this
    omega
end
end Go.Proofs.Ytefpgfdemmllpaa
namespace Go.Proofs.Ytefpgfdemmllpaa
attribute [local go_sem] litP appendC ne_eq not_false_eq_true
set_option maxHeartbeats 4000000
set_option maxRecDepth 100000
def isTextB (s:Str):Bool:=decide (s.length ≤ 20) && s.all aln
theorem isText_word (s:Str):isTextB s = (decide (s = []) || wordB s):=by
  unfold isTextB wordB
  cases s with
  | nil => rfl
  | cons a l => simp
theorem c_isText (s:Str):PC env 30 [⟨.str,s⟩] .bool (isTextB s):=by
  rw [isText_word]
  refine PC.of_PW (m:=2000) env_ok fn_30 rfl rfl rfl rfl (by kernel_rfl) ?_; intro hx; simp only [Try.f30]; simp only [go_sem,zA,↓reduceIte,↓reduceDIte,zB,zC,zD,zE,zF,zG,zH,zI]
  have d:=(c_Word s).dec
  generalize wordB s = b at *
  have hb0:bytesOf ⟨#[]⟩ = ([]:Str):=rfl
  simp only [hb0]
  repeat' (first | (with_reducible intro _) | (with_reducible apply And.intro) | (with_reducible refine ⟨_,d,?_⟩; try simp only [go_sem,zA,↓reduceIte,↓reduceDIte,zB,zC,zD,zE,zF,zG,zH,zI]) | fail)
  all_goals first | omega | (simp_all; try omega)
theorem c_IsText2 (s:Str):PC env 26 [⟨.str,s⟩] .bool (isTextB s):=by
  refine PC.of_PW (m:=2000) env_ok fn_26 rfl rfl rfl rfl (by kernel_rfl) ?_; intro hx; simp only [Try.f26]; simp only [go_sem,zA,↓reduceIte,↓reduceDIte,zB,zC,zD,zE,zF,zG,zH,zI]
  have d:=(c_Plain s).dec
  unfold isTextB
  generalize s.all aln = b at *
  repeat' (first | (with_reducible intro _) | (with_reducible apply And.intro) | (with_reducible refine ⟨_,d,?_⟩; try simp only [go_sem,zA,↓reduceIte,↓reduceDIte,zB,zC,zD,zE,zF,zG,zH,zI]) | fail)
  all_goals first | omega | (simp_all; try omega)
theorem c_accepting6 (s:Sch) (m:Int) (h0:0 ≤ m ∧ m < 8):PC env 66 [⟨SchemeT,s⟩,⟨.int .i64,m⟩] .bool (accB s.2.1 m):=by
  obtain ⟨n,a,rs⟩:=s
  refine PC.of_PW (m:=2000) env_ok fn_66 rfl rfl rfl rfl (by kernel_rfl) ?_; intro hx; simp only [Try.f66]; simp only [go_sem,zA,↓reduceIte,↓reduceDIte,zB,zC,zD,zE,zF,zG,zH,zI]
  have ha:0 ≤ a:=hx.1.2.1.1
  refine ⟨⟨ha,h0⟩,shr_nn ha _,?_⟩
  have:=and_one (shr_nn ha m.toNat)
  simp only [Int.reduceToNat] at this
  rw [this]
  rfl
theorem c_lessP (p q:Int × Int):PC env 60 [⟨PriceT,p⟩,⟨PriceT,q⟩] .bool (Rev.lessP p q):=by
  obtain ⟨a,b⟩:=p
  obtain ⟨c,d⟩:=q
  refine PC.of_PW (m:=2000) env_ok fn_60 rfl rfl rfl rfl (by kernel_rfl) ?_; intro hx; simp only [Try.f60]; simp only [go_sem,zA,↓reduceIte,↓reduceDIte,zB,zC,zD,zE,zF,zG,zH,zI]
  unfold Rev.lessP
  refine ⟨fun g => ⟨fun g1 => ?_,fun g1 => ?_⟩,fun g => ?_⟩
  · exact decide_eq_decide.2 (by dsimp only; omega)
  · exact (decide_eq_false (by dsimp only; omega)).symm
  · exact (decide_eq_true (by dsimp only; omega)).symm
theorem c_plusP (p q:Int × Int) (h:-9223372036854775808 ≤ p.1 + q.1 ∧ p.1 + q.1 ≤ 9223372036854775807) (h2:-9223372036854775808 ≤ p.2 + q.2 ∧ p.2 + q.2 ≤ 9223372036854775807):PC env 59 [⟨PriceT,p⟩,⟨PriceT,q⟩] PriceT (Rev.plusP p q):=by
  obtain ⟨a,b⟩:=p
  obtain ⟨c,d⟩:=q
  refine PC.of_PW (m:=2000) env_ok fn_59 rfl rfl rfl rfl (by kernel_rfl) ?_; intro hx; simp only [Try.f59]; simp only [go_sem,zA,↓reduceIte,↓reduceDIte,zB,zC,zD,zE,zF,zG,zH,zI]
  exact ⟨h,h2,rfl⟩
theorem c_HasPrefixL (s p:Str):PC env 90 [⟨.str,s⟩,⟨.str,p⟩] .bool (p.isPrefixOf s):=by
  refine PC.of_PW (m:=2000) env_ok fn_90 rfl rfl rfl rfl (by kernel_rfl) ?_; intro hx; simp only [Try.f90]; simp only [go_sem,zA,↓reduceIte,↓reduceDIte,zB,zC,zD,zE,zF,zG,zH,zI]
  refine ⟨fun g => ⟨⟨Int.natCast_nonneg _,g⟩,?_⟩,fun g => ?_⟩
  · rw [Bool.eq_iff_iff,decide_eq_true_eq,List.isPrefixOf_iff_prefix,List.prefix_iff_eq_take]
    exact eq_comm
  · cases h:p.isPrefixOf s with
    | false => rfl
    | true =>
      have:=(List.isPrefixOf_iff_prefix.1 h).length_le
      omega
theorem c_HasPrefix (s p:Str):PC env 83 [⟨.str,s⟩,⟨.str,p⟩] .bool (p.isPrefixOf s):=by
  refine PC.of_PW (m:=2000) env_ok fn_83 rfl rfl rfl rfl (by kernel_rfl) ?_; intro hx; simp only [Try.f83]; simp only [go_sem,zA,↓reduceIte,↓reduceDIte,zB,zC,zD,zE,zF,zG,zH,zI]
  exact ⟨_,c_HasPrefixL s p,rfl⟩
abbrev Sp:=Int × Int × Int
abbrev Gs:=List ((Sp × Int) × ((Int × Int) × Bool))
abbrev fBl (s:Sch) (out:Str) (es:Gs):List (Nat × Blk):=[(1000000000,.box [.iv (.int .i64) s.1,.iv (.int .u8) s.2.1,.iv (.sl RuleT) s.2.2,.iv .str out,.lmap 1000000001]),(1000000001,.mp RestT GoalT es)]
def afterV (out:Str) (p:Sp) (r:Rl):Sp × Bool :=
  if r.1 = p.2.1 ∧ r.2.2.2.1.isPrefixOf (out.drop p.1.toNat) = true then
    if r.2.2.2.1 ≠ [] then ((p.1 + (r.2.2.2.1.length:Int),r.2.1,(1 * 2 ^ r.2.1.toNat:Int)),true)
    else ((p.1,r.2.1,((p.2.2.toNat ||| (1 * 2 ^ r.2.1.toNat:Int).toNat:Nat):Int)),decide (((p.2.2.toNat &&& (1 * 2 ^ r.2.1.toNat:Int).toNat:Nat):Int) = 0))
  else ((0,0,0),false)
theorem pow_nat (m:Nat):(1 * 2 ^ m:Int) = ((2 ^ m:Nat):Int):=by rw [Int.one_mul]; exact (Int.natCast_pow 2 m).symm
theorem or_and_bits:∀ m:Fin 8,∀ s:Fin 256,(s.val &&& 2 ^ m.val = 0 ↔ s.val / 2 ^ m.val % 2 = 0) ∧ (s.val / 2 ^ m.val % 2 = 0 → s.val ||| 2 ^ m.val = s.val + 2 ^ m.val):=by decide +kernel
theorem after_some {out:Str} {p q:Sp} {r:Rl} (hp:Rev.OkP out p) (hr:0 ≤ r.2.1 ∧ r.2.1 < 8):(afterV out p r = (q,true) ↔ Rev.afterE out p r = some q):=by
  have hb:=or_and_bits ⟨r.2.1.toNat,by omega⟩ ⟨p.2.2.toNat,by have:=hp.seen; omega⟩
  dsimp only at hb
  unfold afterV Rev.afterE
  split
  · split
    · rw [pow_nat,Prod.mk.injEq,Option.some.injEq]
      unfold Rev.bitOf
      simp
    · rw [pow_nat,Int.toNat_natCast]
      unfold Rev.hasBit
      by_cases hz:p.2.2.toNat / 2 ^ r.2.1.toNat % 2 = 0
      · rw [if_pos (decide_eq_false (by omega)),hb.2 hz,hb.1.2 hz,Prod.mk.injEq,Option.some.injEq]
        unfold Rev.bitOf
        have e:((p.2.2.toNat + 2 ^ r.2.1.toNat:Nat):Int) = p.2.2 + ((2 ^ r.2.1.toNat:Nat):Int):=by have:=hp.seen; omega
        rw [e]
        simp
      · rw [if_neg (by rw [decide_eq_false_iff_not]; omega),Prod.mk.injEq]
        have:¬ (((p.2.2.toNat &&& 2 ^ r.2.1.toNat:Nat):Int) = 0):=fun h => hz (hb.1.1 (by omega))
        rw [decide_eq_false this]
        simp
  · simp
theorem after_none {out:Str} {p:Sp} {r:Rl} (hp:Rev.OkP out p) (hr:0 ≤ r.2.1 ∧ r.2.1 < 8) (h:(afterV out p r).2 = false):Rev.afterE out p r = none:=by
  cases hh:Rev.afterE out p r with
  | none => rfl
  | some q => rw [(after_some hp hr).2 hh] at h; cases h
theorem c_ends (s:Sch) (out:Str) (es:Gs) (p:Sp) (h0:0 ≤ p.2.1 ∧ p.2.1 < 8):PC env 62 [⟨.ptr SearchT,(s,out,es)⟩,⟨SpotT,p⟩] .bool (decide (p.1 = out.length) && accB s.2.1 p.2.1):=by
  obtain ⟨n,a,rs⟩:=s
  obtain ⟨at_,md,sn⟩:=p
  refine PC.of_PW (m:=2000) env_ok fn_62 rfl rfl rfl rfl (by kernel_rfl) ?_; intro hx; simp only [Try.f62]; simp only [go_sem,zA,↓reduceIte,↓reduceDIte,zB,zC,zD,zE,zF,zG,zH,zI]
  refine ⟨fun g => ⟨_,c_accepting6 (n,a,rs) md h0,?_⟩,fun g => ?_⟩
  · rw [decide_eq_true g]; rfl
  · rw [decide_eq_false g]; rfl
theorem c_after (s:Sch) (out:Str) (ho:out.length ≤ 20) (es:Gs) (p:Sp) (r:Rl) (hp:Rev.OkP out p) (hr:0 ≤ r.2.1 ∧ r.2.1 < 8):PC env 56 [⟨.ptr SearchT,(s,out,es)⟩,⟨SpotT,p⟩,⟨RuleT,r⟩] (.tup SpotT .bool) (afterV out p r):=by
  obtain ⟨n,a,rs⟩:=s
  obtain ⟨at_,md,sn⟩:=p
  obtain ⟨fr,to,i,o,c⟩:=r
  refine PC.of_PW (m:=2000) env_ok fn_56 rfl rfl rfl rfl (by kernel_rfl) ?_; intro hx; simp only [Try.f56]; simp only [go_sem,zA,↓reduceIte,↓reduceDIte,zB,zC,zD,zE,zF,zG,zH,zI]
  have hb0:bytesOf ⟨#[]⟩ = ([]:Str):=rfl
  refine ⟨fun g => ⟨⟨hp.at0,hp.at1⟩,_,c_HasPrefix (out.drop at_.toNat) o,?_⟩,fun g => ?_⟩
  · cases hq:o.isPrefixOf (out.drop at_.toNat)
    · simp only [Bool.not_false]
      simp only [go_sem,zA,↓reduceIte,↓reduceDIte,zB,zC,zD,zE,zF,zG,zH,zI]
      unfold afterV
      rw [if_neg (by rintro ⟨_,h⟩; dsimp only at h; rw [hq] at h; cases h)]
    · simp only [Bool.not_true]
      simp only [go_sem,zA,↓reduceIte,↓reduceDIte,zB,zC,zD,zE,zF,zG,zH,zI]
      simp only [hb0]
      have hE:afterV out (at_,md,sn) (fr,to,i,o,c) = if o ≠ [] then ((at_ + (o.length:Int),to,(1 * 2 ^ to.toNat:Int)),true)
          else ((at_,to,((sn.toNat ||| (1 * 2 ^ to.toNat:Int).toNat:Nat):Int)),decide (((sn.toNat &&& (1 * 2 ^ to.toNat:Int).toNat:Nat):Int) = 0)):=by
        unfold afterV
        rw [if_pos ⟨g,hq⟩]
      rw [hE]
      have h0:=hp.at0
      have h1:=hp.at1
      have h2:=hp.seen
      dsimp only at h0 h1 h2 hr
      have hpre:=(List.isPrefixOf_iff_prefix.1 hq).length_le
      rw [List.length_drop] at hpre
      have hbit:(0:Int) ≤ 1 * 2 ^ to.toNat ∧ (1 * 2 ^ to.toNat:Int) ≤ 255:=by
        rw [pow_nat]
        have:=Rev.bit_lt (m:=to) hr.2
        unfold Rev.bitOf at this
        refine ⟨Int.natCast_nonneg _,?_⟩
        omega
      refine ⟨hr,hbit,fun g1 => ⟨⟨by omega,by omega⟩,?_⟩,fun g1 => ⟨⟨h2.1,hbit.1⟩,⟨h2.1,hbit.1⟩,?_⟩⟩
      · rw [if_pos g1]
      · rw [if_neg (by simpa using g1)]
  · unfold afterV
    rw [if_neg (by rintro ⟨h,_⟩; exact g h)]
abbrev Th:=List ((Sp × Str) × Int)
theorem eqT (x y:ThreadT.den):eqB ThreadT x y = true ↔ x = y:=eqB_iff ThreadT x y rfl
theorem eqR (x y:RestT.den):eqB RestT x y = true ↔ x = y:=eqB_iff RestT x y rfl
def noteB (es:Th) (t:Sp × Str) (c:Int):Bool:=match mfind (eqB ThreadT) es t with | some old => decide (c < old) | none => true
def noteE (es:Th) (t:Sp × Str) (c:Int):Th:=if noteB es t c = true then mset (eqB ThreadT) es t c else es
theorem h_note (es:Th) (hl:es.length < 9223372036854775807) (t:Sp × Str) (c:Int):HC env 57 [.lmap 1000000000,.iv ThreadT t,.iv (.int .i64) c] [(1000000000,.mp ThreadT (.int .i64) es)] (.iv .bool (noteB es t c)) [(1000000000,.mp ThreadT (.int .i64) (noteE es t c))]:=by
  obtain ⟨⟨at_,md,sn⟩,m⟩:=t
  refine HC.of_PW (m:=2000) env_ok fn_57 rfl rfl rfl rfl (by kernel_rfl) ?_; intro hx hbl; simp only [Try.f57]; simp only [go_sem,zA,↓reduceIte,↓reduceDIte,zB,zC,zD,zE,zF,zG,zH,zI]
  have hlen:=mset_lenG eqT ((at_,md,sn),m) c es
  unfold noteE noteB
  refine ⟨fun x hx => ⟨fun g => ?_,fun g => ⟨?_,?_⟩⟩,fun hn => ⟨?_,?_⟩⟩
  all_goals first | (show (_:Nat) ≤ _; omega) | skip
  · rw [hx]; simp; omega
  · rw [hx]; simp; omega
  · rw [hn]; simp
end Go.Proofs.Ytefpgfdemmllpaa
namespace Go.Proofs.Ytefpgfdemmllpaa
attribute [local go_sem] litP appendC ne_eq not_false_eq_true
set_option maxHeartbeats 4000000
set_option maxRecDepth 100000
def gl (o:Option (Int × Int)):(Int × Int) × Bool:=match o with | none => ((0,0),true) | some p => (p,false)
theorem gl_none:gl none = ((0,0),true):=rfl
theorem gl_some (p:Int × Int):gl (some p) = (p,false):=rfl
def goodK (out:Str) (k:Sp × Int):Prop:=Rev.OkP out k.1 ∧ (0 ≤ k.1.2.1 ∧ k.1.2.1 < 8) ∧ 0 ≤ k.2 ∧ k.2 ≤ 40
structure GI (s:Sch) (out:Str) (es:Gs):Prop where
  good:∀ k,k ∈ es.map (·.1) → goodK out k
  once:(es.map (·.1)).Nodup
  val:∀ k g,mfind (eqB RestT) es k = some g → g = gl (Rev.goalE s.2.2 s.2.1 out k.1 k.2)
def codeK (k:Sp × Int):Nat:=((k.1.1.toNat * 8 + k.1.2.1.toNat) * 256 + k.1.2.2.toNat) * 41 + k.2.toNat
theorem codeK_inj {out:Str} {k l:Sp × Int} (hk:goodK out k) (hl:goodK out l) (h:codeK k = codeK l):k = l:=by
  obtain ⟨⟨a,m,s⟩,n⟩:=k
  obtain ⟨⟨a',m',s'⟩,n'⟩:=l
  obtain ⟨⟨h1,h2,h3⟩,h4,h5⟩:=hk
  obtain ⟨⟨g1,g2,g3⟩,g4,g5⟩:=hl
  unfold codeK at h
  dsimp only at *
  have e1:n = n':=by omega
  have e2:s = s':=by omega
  have e3:m = m':=by omega
  have e4:a = a':=by omega
  rw [e1,e2,e3,e4]
theorem codeK_lt {out:Str} (ho:out.length ≤ 20) {k:Sp × Int} (hk:goodK out k):codeK k < 1763328:=by
  obtain ⟨⟨a,m,s⟩,n⟩:=k
  obtain ⟨⟨h1,h2,h3⟩,h4,h5⟩:=hk
  unfold codeK
  dsimp only at *
  omega
theorem nodup_lt:∀ (n:Nat) (l:List Nat),l.Nodup → (∀ x,x ∈ l → x < n) → l.length ≤ n
  | 0,l,_,h => by
    cases l with
    | nil => exact Nat.le_refl _
    | cons a l => exact absurd (h a List.mem_cons_self) (Nat.not_lt_zero _)
  | n + 1,l,hd,h => by
    by_cases hn:n ∈ l
    · have h1:=nodup_lt n (l.erase n) (hd.erase n) fun x hx => by
        have:=(hd.mem_erase_iff).1 hx
        have:=h x this.2
        omega
      rw [List.length_erase_of_mem hn] at h1
      omega
    · have:=nodup_lt n l hd fun x hx => by
        have h1:=h x hx
        have:x ≠ n:=fun e => hn (e ▸ hx)
        omega
      omega
theorem GI.len {s:Sch} {out:Str} (ho:out.length ≤ 20) {es:Gs} (h:GI s out es):es.length ≤ 1763328:=by
  have hn:((es.map (·.1)).map codeK).Nodup:=by
    rw [List.Nodup,List.pairwise_map]
    exact h.once.imp_of_mem fun {a b} ha hb hne he => hne (codeK_inj (h.good a ha) (h.good b hb) he)
  have:=nodup_lt 1763328 _ hn fun x hx => by
    obtain ⟨k,hk,rfl⟩:=List.mem_map.1 hx
    exact codeK_lt ho (h.good k hk)
  simpa using this
theorem GI.put {s:Sch} {out:Str} {es:Gs} (h:GI s out es) {k:Sp × Int} (hk:goodK out k) {g:(Int × Int) × Bool} (hg:g = gl (Rev.goalE s.2.2 s.2.1 out k.1 k.2)):GI s out (mset (eqB RestT) es k g):=by
  refine ⟨fun l hl => ?_,mset_onceG eqR h.once,fun l g' hl => ?_⟩
  · rcases mset_keysG eqR k g es with ⟨_,h2⟩ | ⟨_,h2⟩
    · rw [h2] at hl; exact h.good l hl
    · rw [h2,List.mem_append] at hl
      rcases hl with hl | hl
      · exact h.good l hl
      · rw [List.mem_singleton.1 hl]; exact hk
  · by_cases e:l = k
    · rw [e,mfind_same eqR] at hl
      injection hl with hl
      rw [← hl,e]; exact hg
    · rw [mfind_other eqR _ e] at hl
      exact h.val l g' hl
theorem ok_rules {s:Sch} (hs:OkS s):Rev.OkR s.2.2:=by
  have h8:=hs.n8
  refine ⟨fun r hr => ?_,fun r hr => ?_,fun r hr => ?_⟩
  · have:=right_nums (hs.right r hr); omega
  · have:=right_nums (hs.right r hr); omega
  · have:=right_nums (hs.right r hr); omega
theorem ends_is (a:Int) (out:Str) (p:Sp) (ha:0 ≤ a):Rev.endsE a out p = (decide (p.1 = out.length) && accB a p.2.1):=by
  unfold Rev.endsE Rev.hasBit accB
  congr 1
  have e:a / 2 ^ p.2.1.toNat % 2 = ((a.toNat / 2 ^ p.2.1.toNat % 2:Nat):Int):=by
    obtain ⟨k,rfl⟩:∃ k:Nat,a = k:=⟨a.toNat,by omega⟩
    simp
  rw [e]
  exact decide_eq_decide.2 (by omega)
theorem path_top {rs:List Rl} {acc:Int} {out:Str} (h:Rev.OkR rs) {p:Sp} {x:Str} {c:Int} (hp:Rev.Path rs acc out p x c):Rev.OkP out p → c ≤ 1000 * (Rev.ms out p:Int):=by
  induction hp with
  | done => intro _; omega
  | @step p q r x c hr ha _ ih =>
    intro ho
    obtain ⟨h1,h2,_⟩:=Rev.after_ok ho (h.mode r hr) ha
    have:=ih h1
    have:=(h.cost r hr).2
    omega
theorem goal_top {rs:List Rl} {acc:Int} {out:Str} (h:Rev.OkR rs) {p:Sp} (hp:Rev.OkP out p) {L:Int} {pr:Int × Int} (he:Rev.goalE rs acc out p L = some pr):0 ≤ pr.1 ∧ pr.1 ≤ 1000 * (Rev.ms out p:Int) ∧ 0 ≤ pr.2 ∧ pr.2 ≤ L:=by
  have hmn:=Rev.goalE_min (acc:=acc) h L hp
  rw [he] at hmn
  obtain ⟨⟨x,c,hP,hl,rfl⟩,_⟩:=hmn
  exact ⟨Rev.path_cost h hP,path_top h hP hp,Int.natCast_nonneg _,hl⟩
theorem ms_top {out:Str} (ho:out.length ≤ 20) (p:Sp):Rev.ms out p ≤ 5375:=by
  unfold Rev.ms
  omega
theorem h_goal (s:Sch) (hs:OkS s) (out:Str) (ho:out.length ≤ 20):∀ (f:Nat) (es:Gs) (p:Sp) (L:Int),GI s out es → Rev.OkP out p → (0 ≤ p.2.1 ∧ p.2.1 < 8) → Rev.ms out p < f → (-8 ≤ L ∧ L ≤ 40) →
    HN env 58 [.ref 1000000000 0,.iv SpotT p,.iv (.int .i64) L] (fBl s out es) (.mp RestT GoalT) (GI s out) (fun _ => .iv GoalT (gl (Rev.goalE s.2.2 s.2.1 out p L))) (fun es' => fBl s out es'):=by
  intro f
  induction f with
  | zero => intro _ _ _ _ _ _ h; exact absurd h (Nat.not_lt_zero _)
  | succ f ih =>
    intro es p L hG hp hm hf hL
    obtain ⟨n,a,rs⟩:=s
    obtain ⟨at_,md,sn⟩:=p
    have hrec:=Rev.goalE_rec (acc:=a) (ok_rules hs) L hp
    dsimp only at hrec hm
    obtain ⟨T,hT⟩:∃ T,T = Rev.goalE rs a out (at_,md,sn) L:=⟨_,rfl⟩
    rw [← hT] at hrec
    show HN env _ _ _ _ _ (fun _ => PV.iv GoalT (gl (Rev.goalE rs a out (at_,md,sn) L))) _
    rw [← hT]
    have hends:=c_ends (n,a,rs) out es (at_,md,sn) hm
    rw [← ends_is a out (at_,md,sn) (by have:=hs.a1; dsimp only at this; omega)] at hends
    refine HN.of_PW (m:=2000) env_ok fn_58 rfl rfl rfl rfl (by kernel_rfl) ?_; intro hx hbl; simp only [Try.f58]; simp only [go_sem,zA,↓reduceIte,↓reduceDIte,zB,zC,zD,zE,zF,zG,zH,zI]
    refine ⟨fun h0 => ⟨es,hG,by rw [hrec,if_pos h0]; rfl,rfl⟩,fun h0 => ⟨_,hends,?_⟩⟩
    rw [if_neg h0] at hrec
    cases hend:Rev.endsE a out (at_,md,sn)
    · rw [hend] at hrec
      simp only [Bool.false_eq_true,if_false] at hrec
      simp only [go_sem,zA,↓reduceIte,↓reduceDIte,zB,zC,zD,zE,zF,zG,zH,zI]
      cases hm':mfind (eqB RestT) es ((at_,md,sn),L) with
      | some g =>
        simp only [Option.isSome_some,Option.getD_some]
        simp only [go_sem,zA,↓reduceIte,↓reduceDIte,zB,zC,zD,zE,zF,zG,zH,zI]
        have hg:=hG.val _ _ hm'
        dsimp only at hg
        rw [← hT] at hg
        exact ⟨es,hG,by rw [← hg],rfl⟩
      | none =>
        simp only [Option.isSome_none,Option.getD_none]
        simp only [go_sem,zA,↓reduceIte,↓reduceDIte,zB,zC,zD,zE,zF,zG,zH,zI]
        refine Walks.loopA (X:=Nat × Gs × Option (Int × Int)) (fun (z:Nat × Gs × Option (Int × Int)) => [(44,.iv (.int .i64) (z.1:Int))]) (fun (z:Nat × Gs × Option (Int × Int)) => [(10,.box [.iv (.int .i64) (gl z.2.2).1.1,.iv (.int .i64) (gl z.2.2).1.2,.iv .bool (gl z.2.2).2]),(1000000001,.mp RestT GoalT z.2.1)]) (fun (z:Nat × Gs × Option (Int × Int)) => z.1 ≤ rs.length ∧ GI (n,a,rs) out z.2.1 ∧ (rs.drop z.1).foldl (fun b r => Rev.better b (Rev.viaE out (Rev.goalE rs a out) (at_,md,sn) L r)) z.2.2 = T) (fun (z:Nat × Gs × Option (Int × Int)) => rs.length - z.1) (0,es,none) ?_; intro b1 b2 hb1 hb2; simp (config:={maxSteps:=4000000}) only [go_sem,zA,↓reduceIte,↓reduceDIte,zB,zC,zD,zE,zF,zG,zH,zI] at hb1 hb2; subst hb1; subst hb2; refine ⟨(by refine ⟨?_,?_,rfl,rfl⟩ <;> repeat' (first | exact trivial | exact Or.inl rfl | exact Or.inr rfl | apply le1 | apply le2 | apply le3 | apply le4 | exact ⟨(by show (_:Nat) < 1000000000; omega),rfl,rfl⟩ | rfl | (refine And.intro (Or.inl ?_) ?_) | (refine And.intro ?_ ?_))),?_,?_⟩
        · exact ⟨Nat.zero_le _,hG,hrec.symm⟩
        intro ⟨k,es1,b1⟩ ⟨hk,hG1,hfold⟩ back
        dsimp only at hk hG1 hfold
        refine PW_sound env_ok ⟨_,fn_58,rfl⟩ 2000 _ _ (by kernel_rfl) ?_; simp only [go_sem,zA,↓reduceIte,↓reduceDIte,zB,zC,zD,zE,zF,zG,zH,zI]
        refine ⟨fun g => ?_,fun g => ?_⟩
        · obtain ⟨r,hr⟩:∃ r,rs[k]? = some r:=get_of_lt (by omega)
          have hrm:=List.mem_of_getElem? hr
          have hmode:=(ok_rules hs).mode r hrm
          refine ⟨Int.natCast_nonneg _,r,hr,_,c_after (n,a,rs) out ho es1 (at_,md,sn) r hp hmode,fun _ => ?_⟩
          have hln:rs.length ≤ 64:=hs.len
          rw [drop_cons hr,List.foldl_cons] at hfold
          cases hA:(afterV out (at_,md,sn) r).2
          · have hnone:=after_none hp hmode hA
            have hv:Rev.viaE out (Rev.goalE rs a out) (at_,md,sn) L r = none:=by unfold Rev.viaE; rw [hnone]
            rw [hv] at hfold
            have hb:Rev.better b1 none = b1:=by cases b1 <;> rfl
            rw [hb] at hfold
            simp only [go_sem,zA,↓reduceIte,↓reduceDIte,zB,zC,zD,zE,zF,zG,zH,zI]
            exact ⟨i64_ok (by omega) (by omega),back _ (k + 1,es1,b1) (by refine ⟨?_,?_,rfl,rfl⟩ <;> repeat' (first | exact trivial | exact Or.inl rfl | exact Or.inr rfl | apply le1 | apply le2 | apply le3 | apply le4 | exact ⟨(by show (_:Nat) < 1000000000; omega),rfl,rfl⟩ | rfl | (refine And.intro (Or.inl ?_) ?_) | (refine And.intro ?_ ?_))) ⟨by omega,hG1,hfold⟩ (by dsimp only; omega)⟩
          · have hsome:Rev.afterE out (at_,md,sn) r = some (afterV out (at_,md,sn) r).1:=(after_some hp hmode).1 (Prod.ext rfl hA)
            obtain ⟨q1,q2,q3⟩:=Rev.after_ok hp hmode hsome
            have hin:=(ok_rules hs).inn r hrm
            have hcost:=(ok_rules hs).cost r hrm
            generalize (afterV out (at_,md,sn) r).1 = q at *
            simp only [go_sem,zA,↓reduceIte,↓reduceDIte,zB,zC,zD,zE,zF,zG,zH,zI]
            refine ⟨i64_ok (by omega) (by omega),_,_,_,_,ih es1 q (L - (r.2.2.1.length:Int)) hG1 q1 (by rw [q3]; exact hmode) (by omega) ⟨by omega,by omega⟩,fun es2 hG2 => ⟨rfl,fun _ _ => ?_⟩⟩
            dsimp only
            have hv:Rev.viaE out (Rev.goalE rs a out) (at_,md,sn) L r = Rev.addP (Rev.goalE rs a out q (L - (r.2.2.1.length:Int))) (r.2.2.2.2,(r.2.2.1.length:Int)):=by unfold Rev.viaE; rw [hsome]
            rw [hv] at hfold
            have htop:=fun pr he => goal_top (acc:=a) (ok_rules hs) q1 (L:=L - (r.2.2.1.length:Int)) (pr:=pr) he
            dsimp only at htop
            have hms:=ms_top ho q
            cases hgq:Rev.goalE rs a out q (L - (r.2.2.1.length:Int)) with
            | none =>
              rw [hgq] at hfold
              have hb:Rev.better b1 (Rev.addP none (r.2.2.2.2,(r.2.2.1.length:Int))) = b1:=by cases b1 <;> rfl
              rw [hb] at hfold
              simp only [gl_none]
              simp only [go_sem,zA,↓reduceIte,↓reduceDIte,zB,zC,zD,zE,zF,zG,zH,zI]
              exact ⟨i64_ok (by omega) (by omega),back _ (k + 1,es2,b1) (by refine ⟨?_,?_,rfl,rfl⟩ <;> repeat' (first | exact trivial | exact Or.inl rfl | exact Or.inr rfl | apply le1 | apply le2 | apply le3 | apply le4 | exact ⟨(by show (_:Nat) < 1000000000; omega),rfl,rfl⟩ | rfl | (refine And.intro (Or.inl ?_) ?_) | (refine And.intro ?_ ?_))) ⟨by omega,hG2,hfold⟩ (by dsimp only; omega)⟩
            | some pr =>
              obtain ⟨t1,t2,t3,t4⟩:=htop pr hgq
              obtain ⟨p1,p2⟩:=pr
              rw [hgq] at hfold
              dsimp only at t1 t2 t3 t4
              have hplus:=c_plusP (p1,p2) (r.2.2.2.2,(r.2.2.1.length:Int)) ⟨by dsimp only; omega,by dsimp only; omega⟩ ⟨by dsimp only; omega,by dsimp only; omega⟩
              simp only [gl_some]
              simp only [go_sem,zA,↓reduceIte,↓reduceDIte,zB,zC,zD,zE,zF,zG,zH,zI]
              refine ⟨_,hplus,fun _ => ?_⟩
              have hadd:Rev.addP (some (p1,p2)) (r.2.2.2.2,(r.2.2.1.length:Int)) = some (Rev.plusP (p1,p2) (r.2.2.2.2,(r.2.2.1.length:Int))):=rfl
              rw [hadd] at hfold
              generalize Rev.plusP (p1,p2) (r.2.2.2.2,(r.2.2.1.length:Int)) = x at *
              obtain ⟨x1,x2⟩:=x
              cases b1 with
              | none =>
                simp only [gl_none]
                simp only [go_sem,zA,↓reduceIte,↓reduceDIte,zB,zC,zD,zE,zF,zG,zH,zI]
                exact ⟨i64_ok (by omega) (by omega),back _ (k + 1,es2,some (x1,x2)) (by refine ⟨?_,?_,rfl,rfl⟩ <;> repeat' (first | exact trivial | exact Or.inl rfl | exact Or.inr rfl | apply le1 | apply le2 | apply le3 | apply le4 | exact ⟨(by show (_:Nat) < 1000000000; omega),rfl,rfl⟩ | rfl | (refine And.intro (Or.inl ?_) ?_) | (refine And.intro ?_ ?_))) ⟨by omega,hG2,hfold⟩ (by dsimp only; omega)⟩
              | some b =>
                obtain ⟨b1,b2⟩:=b
                simp only [gl_some]
                simp only [go_sem,zA,↓reduceIte,↓reduceDIte,zB,zC,zD,zE,zF,zG,zH,zI]
                refine ⟨_,c_lessP (x1,x2) (b1,b2),?_⟩
                cases hlt:Rev.lessP (x1,x2) (b1,b2)
                · have hb:Rev.better (some (b1,b2)) (some (x1,x2)) = some (b1,b2):=by unfold Rev.better; dsimp only; rw [hlt]; rfl
                  rw [hb] at hfold
                  simp only [go_sem,zA,↓reduceIte,↓reduceDIte,zB,zC,zD,zE,zF,zG,zH,zI]
                  exact ⟨i64_ok (by omega) (by omega),back _ (k + 1,es2,some (b1,b2)) (by refine ⟨?_,?_,rfl,rfl⟩ <;> repeat' (first | exact trivial | exact Or.inl rfl | exact Or.inr rfl | apply le1 | apply le2 | apply le3 | apply le4 | exact ⟨(by show (_:Nat) < 1000000000; omega),rfl,rfl⟩ | rfl | (refine And.intro (Or.inl ?_) ?_) | (refine And.intro ?_ ?_))) ⟨by omega,hG2,hfold⟩ (by dsimp only; omega)⟩
                · have hb:Rev.better (some (b1,b2)) (some (x1,x2)) = some (x1,x2):=by unfold Rev.better; dsimp only; rw [hlt]; rfl
                  rw [hb] at hfold
                  simp only [go_sem,zA,↓reduceIte,↓reduceDIte,zB,zC,zD,zE,zF,zG,zH,zI]
                  exact ⟨i64_ok (by omega) (by omega),back _ (k + 1,es2,some (x1,x2)) (by refine ⟨?_,?_,rfl,rfl⟩ <;> repeat' (first | exact trivial | exact Or.inl rfl | exact Or.inr rfl | apply le1 | apply le2 | apply le3 | apply le4 | exact ⟨(by show (_:Nat) < 1000000000; omega),rfl,rfl⟩ | rfl | (refine And.intro (Or.inl ?_) ?_) | (refine And.intro ?_ ?_))) ⟨by omega,hG2,hfold⟩ (by dsimp only; omega)⟩
        · rw [List.drop_of_length_le (by omega)] at hfold
          have hbT:b1 = T:=hfold
          subst hbT
          have hgk:goodK out ((at_,md,sn),L):=⟨hp,hm,by dsimp only; omega,hL.2⟩
          have:=mset_lenG eqR ((at_,md,sn),L) (gl b1) es1
          have:=hG1.len ho
          exact ⟨by show (mset (eqB RestT) es1 ((at_,md,sn),L) (gl b1)).length ≤ _; omega,mset (eqB RestT) es1 ((at_,md,sn),L) (gl b1),hG1.put hgk (by rw [hT]),rfl,rfl⟩
    · rw [hend] at hrec
      simp only [if_true] at hrec
      simp only [go_sem,zA,↓reduceIte,↓reduceDIte,zB,zC,zD,zE,zF,zG,zH,zI]
      exact ⟨es,hG,by rw [hrec]; rfl,rfl⟩
end Go.Proofs.Ytefpgfdemmllpaa
namespace Go.Proofs.Ytefpgfdemmllpaa
attribute [local go_sem] litP appendC ne_eq not_false_eq_true
set_option maxHeartbeats 4000000
set_option maxRecDepth 100000
theorem nodup_sub {α:Type} [DecidableEq α]:∀ (l u:List α),l.Nodup → (∀ x,x ∈ l → x ∈ u) → l.length ≤ u.length
  | [],_,_,_ => Nat.zero_le _
  | a :: l,u,hd,h => by
    obtain ⟨h1,h2⟩:=List.nodup_cons.1 hd
    have ha:=h a List.mem_cons_self
    have:=nodup_sub l (u.erase a) h2 fun x hx => (List.mem_erase_of_ne (fun e => h1 (by rw [← e]; exact hx))).2 (h x (List.mem_cons_of_mem _ hx))
    rw [List.length_erase_of_mem ha] at this
    have:=List.length_pos_of_mem ha
    rw [List.length_cons]
    omega
theorem sum_top {α:Type} (f:α → Nat) (B:Nat):∀ l:List α,(∀ x,x ∈ l → f x ≤ B) → (l.map f).sum ≤ l.length * B
  | [],_ => by simp
  | a :: l,h => by
    have h1:=h a List.mem_cons_self
    have h2:=sum_top f B l fun x hx => h x (List.mem_cons_of_mem _ hx)
    rw [List.map_cons,List.sum_cons,List.length_cons,Nat.succ_mul]
    omega
theorem spots_len (n:Nat):(Rev.spots n).length = (n + 1) * 2048:=by
  unfold Rev.spots
  simp only [List.length_flatMap,List.length_map,List.length_range,List.map_const',List.sum_replicate_nat]
def sufs (rs:List Rl):List Str:=[] :: rs.flatMap fun r => (List.range (r.2.2.1.length + 1)).map fun j => r.2.2.1.drop j
def keyU (rs:List Rl) (out:Str):List Rev.Thread:=(Rev.spots out.length).flatMap fun p => (sufs rs).map fun m => (p,m)
theorem sufs_len {rs:List Rl} (h:Rev.OkR rs) (hl:rs.length ≤ 64):(sufs rs).length ≤ 321:=by
  unfold sufs
  rw [List.length_cons,List.length_flatMap]
  have:=sum_top (fun r:Rl => ((List.range (r.2.2.1.length + 1)).map fun j => r.2.2.1.drop j).length) 5 rs fun r hr => by
    have:=h.inn r hr
    simp only [List.length_map,List.length_range]
    omega
  omega
theorem keyU_len {rs:List Rl} {out:Str} (h:Rev.OkR rs) (hl:rs.length ≤ 64) (ho:out.length ≤ 20):(keyU rs out).length ≤ 13805568:=by
  unfold keyU
  rw [List.length_flatMap]
  have:=sum_top (fun p:Rev.Spot => ((sufs rs).map fun m => (p,m)).length) 321 (Rev.spots out.length) fun p _ => by
    rw [List.length_map]
    exact sufs_len h hl
  rw [spots_len] at this
  exact Nat.le_trans this (by omega)
theorem thr_mode {rs:List Rl} {out x m:Str} {p:Sp} {c:Int} (h:Rev.OkR rs) (ht:Rev.Thr rs out x p m c):0 ≤ p.2.1 ∧ p.2.1 < 8:=by
  induction ht with
  | start => exact ⟨by decide,by decide⟩
  | @rule x p q r c ht hr ha ih =>
    rw [(Rev.after_ok (Rev.thr_ok h ht) (h.mode r hr) ha).2.2]
    exact h.mode r hr
  | eat _ ih => exact ih
theorem thr_suf {rs:List Rl} {out x m:Str} {p:Sp} {c:Int} (ht:Rev.Thr rs out x p m c):m ∈ sufs rs:=by
  induction ht with
  | start => exact List.mem_cons_self
  | @rule x p q r c ht hr ha ih => exact List.mem_cons_of_mem _ (List.mem_flatMap.2 ⟨r,hr,List.mem_map.2 ⟨0,by simp,rfl⟩⟩)
  | @eat x p a m c ht ih =>
    unfold sufs at ih
    rcases List.mem_cons.1 ih with e | ih
    · cases e
    · obtain ⟨r,hr,hm⟩:=List.mem_flatMap.1 ih
      obtain ⟨j,hj,he⟩:=List.mem_map.1 hm
      have hl:=congrArg List.length he
      rw [List.length_drop,List.length_cons] at hl
      refine List.mem_cons_of_mem _ (List.mem_flatMap.2 ⟨r,hr,List.mem_map.2 ⟨j + 1,List.mem_range.2 (by omega),?_⟩⟩)
      have:=congrArg (List.drop 1) he
      rw [List.drop_drop] at this
      simpa [Nat.add_comm] using this
theorem thr_suf_len {rs:List Rl} {out x m:Str} {p:Sp} {c:Int} (h:Rev.OkR rs) (ht:Rev.Thr rs out x p m c):m.length ≤ 4:=by
  have:=thr_suf ht
  unfold sufs at this
  rcases List.mem_cons.1 this with e | this
  · rw [e]; exact Nat.zero_le _
  · obtain ⟨r,hr,hm⟩:=List.mem_flatMap.1 this
    obtain ⟨j,hj,he⟩:=List.mem_map.1 hm
    have:=h.inn r hr
    rw [← he,List.length_drop]
    omega
theorem thr_key {rs:List Rl} {out x m:Str} {p:Sp} {c:Int} (h:Rev.OkR rs) (ht:Rev.Thr rs out x p m c):(p,m) ∈ keyU rs out:=by
  have ho:=Rev.thr_ok h ht
  exact List.mem_flatMap.2 ⟨p,Rev.mem_spots ⟨ho.at0,ho.at1⟩ (thr_mode h ht) ho.seen,List.mem_map.2 ⟨m,thr_suf ht,rfl⟩⟩
theorem thr_top {rs:List Rl} {out x m:Str} {p:Sp} {c:Int} (h:Rev.OkR rs) (hl:out.length ≤ 20) (ht:Rev.Thr rs out x p m c):0 ≤ c ∧ c ≤ 5375000:=by
  have:=Rev.thr_bound h ht
  exact ⟨Rev.thr_cost h ht,by omega⟩
abbrev VT (E:Th):Rev.Thread → Option Int:=fun t => mfind (eqB ThreadT) E t
theorem note_at (E:Th) (t:Rev.Thread) (c:Int):∃ c',c' ≤ c ∧ VT (noteE E t c) t = some c':=by
  unfold noteE
  split
  · exact ⟨c,Int.le_refl _,mfind_same eqT _ _ _⟩
  · rename_i h
    unfold noteB at h
    unfold VT
    cases hm:mfind (eqB ThreadT) E t with
    | none => rw [hm] at h; simp at h
    | some d =>
      rw [hm] at h
      simp at h
      exact ⟨d,h,rfl⟩
theorem note_mono (E:Th) (t:Rev.Thread) (c:Int) {u:Rev.Thread} {d:Int} (h:VT E u = some d):∃ c',c' ≤ d ∧ VT (noteE E t c) u = some c':=by
  unfold noteE
  split
  · rename_i hn
    by_cases e:u = t
    · subst e
      unfold noteB at hn
      unfold VT at h
      rw [h] at hn
      simp at hn
      exact ⟨c,by omega,mfind_same eqT _ _ _⟩
    · exact ⟨d,Int.le_refl _,by unfold VT; rw [mfind_other eqT _ e]; exact h⟩
  · exact ⟨d,Int.le_refl _,h⟩
theorem note_back (E:Th) (t:Rev.Thread) (c:Int) {u:Rev.Thread} {d:Int} (h:VT (noteE E t c) u = some d):VT E u = some d ∨ (noteB E t c = true ∧ u = t ∧ d = c):=by
  unfold noteE at h
  split at h
  · rename_i hn
    by_cases e:u = t
    · subst e
      unfold VT at h
      rw [mfind_same eqT] at h
      injection h with h
      exact .inr ⟨hn,rfl,h.symm⟩
    · unfold VT at h
      rw [mfind_other eqT _ e] at h
      exact .inl h
  · exact .inl h
theorem note_once {E:Th} (t:Rev.Thread) (c:Int) (h:(E.map (·.1)).Nodup):((noteE E t c).map (·.1)).Nodup:=by
  unfold noteE
  split
  · exact mset_onceG eqT h
  · exact h
structure OJ (rs:List Rl) (out x:Str) (B:Rev.Spot → Str → Int → Prop) (E:Th) (Q:List Rev.Thread) (p:Rev.Spot) (c:Int) (k:Nat):Prop where
  op:Rev.OpenI rs out x B (VT E) ((p,[]) :: Q)
  once:(E.map (·.1)).Nodup
  qs:∀ t,t ∈ Q → t.2 = [] ∧ ∃ c,VT E t = some c
  cur:VT E (p,[]) = some c
  done:∀ r q,r ∈ rs.take k → Rev.afterE out p r = some q → ∃ c',c' ≤ c + r.2.2.2.2 ∧ VT E (q,r.2.2.1) = some c'
structure OI (rs:List Rl) (out x:Str) (B:Rev.Spot → Str → Int → Prop) (E:Th) (Q:List Rev.Thread):Prop where
  op:Rev.OpenI rs out x B (VT E) Q
  once:(E.map (·.1)).Nodup
  qs:∀ t,t ∈ Q → t.2 = [] ∧ ∃ c,VT E t = some c
variable {rs:List Rl} {out x:Str} {B:Rev.Spot → Str → Int → Prop}
theorem OI.begin {E:Th} {t:Rev.Thread} {Q:List Rev.Thread} (h:OI rs out x B E (t :: Q)):∃ c,t.2 = [] ∧ OJ rs out x B E Q t.1 c 0:=by
  obtain ⟨h1,c,h2⟩:=h.qs t List.mem_cons_self
  obtain ⟨p,m⟩:=t
  dsimp only at h1
  subst h1
  exact ⟨c,rfl,h.op,h.once,fun u hu => h.qs u (List.mem_cons_of_mem _ hu),h2,fun r q hr => by simp at hr⟩
theorem OJ.skip {E:Th} {Q:List Rev.Thread} {p:Rev.Spot} {c:Int} {k:Nat} {r:Rl} (h:OJ rs out x B E Q p c k) (hr:rs[k]? = some r) (ha:Rev.afterE out p r = none):OJ rs out x B E Q p c (k + 1) :=
  ⟨h.op,h.once,h.qs,h.cur,fun r' q hr' hq => by
    rw [take_snoc hr] at hr'
    rcases List.mem_append.1 hr' with hr' | hr'
    · exact h.done r' q hr' hq
    · rw [List.mem_singleton.1 hr',ha] at hq; cases hq⟩
theorem OJ.next {E:Th} {Q:List Rev.Thread} {p q:Rev.Spot} {c:Int} {k:Nat} {r:Rl} (hR:Rev.OkR rs) (h:OJ rs out x B E Q p c k) (hr:rs[k]? = some r) (ha:Rev.afterE out p r = some q) (Q':List Rev.Thread)
    (hQ1:noteB E (q,r.2.2.1) (c + r.2.2.2.2) = true → r.2.2.1 = [] → Q' = Q ++ [(q,r.2.2.1)]) (hQ2:¬ (noteB E (q,r.2.2.1) (c + r.2.2.2.2) = true ∧ r.2.2.1 = []) → Q' = Q):OJ rs out x B (noteE E (q,r.2.2.1) (c + r.2.2.2.2)) Q' p c (k + 1):=by
  have hrm:=List.mem_of_getElem? hr
  have hthr:=h.op.sound p [] c h.cur
  have hpok:=Rev.thr_ok hR hthr
  have hlt:=(Rev.after_ok hpok (hR.mode r hrm) ha).2.1
  have hne:q ≠ p:=fun e => by rw [e] at hlt; omega
  have hsub:∀ t,t ∈ Q → t ∈ Q':=fun t ht => by
    by_cases hh:noteB E (q,r.2.2.1) (c + r.2.2.2.2) = true ∧ r.2.2.1 = []
    · rw [hQ1 hh.1 hh.2]; exact List.mem_append_left _ ht
    · rw [hQ2 hh]; exact ht
  have hqs:∀ t,t ∈ Q' → t.2 = [] ∧ ∃ c1,VT (noteE E (q,r.2.2.1) (c + r.2.2.2.2)) t = some c1:=fun t ht => by
    have hk:(t ∈ Q) ∨ (r.2.2.1 = [] ∧ t = (q,r.2.2.1)):=by
      by_cases hh:noteB E (q,r.2.2.1) (c + r.2.2.2.2) = true ∧ r.2.2.1 = []
      · rw [hQ1 hh.1 hh.2] at ht
        rcases List.mem_append.1 ht with ht | ht
        · exact .inl ht
        · exact .inr ⟨hh.2,List.mem_singleton.1 ht⟩
      · rw [hQ2 hh] at ht; exact .inl ht
    rcases hk with hk | ⟨h1,rfl⟩
    · obtain ⟨h1,c1,h2⟩:=h.qs t hk
      obtain ⟨c2,_,h4⟩:=note_mono E (q,r.2.2.1) (c + r.2.2.2.2) h2
      exact ⟨h1,c2,h4⟩
    · obtain ⟨c',_,h2⟩:=note_at E (q,r.2.2.1) (c + r.2.2.2.2)
      exact ⟨h1,c',h2⟩
  have hcur:VT (noteE E (q,r.2.2.1) (c + r.2.2.2.2)) (p,[]) = some c:=by
    have hc:=h.cur
    unfold noteE
    split
    · unfold VT at hc ⊢
      rw [mfind_other eqT _ (fun e => hne (by injection e with e _; exact e.symm))]
      exact hc
    · exact hc
  refine ⟨⟨fun p' m' c' hc' => ?_,fun p' m' c' hb => ?_,fun p' c' hc' => ?_,fun t ht => ?_⟩,note_once _ _ h.once,hqs,hcur,fun r' q' hr' hq' => ?_⟩
  · rcases note_back _ _ _ hc' with h1 | ⟨_,h1,h2⟩
    · exact h.op.sound p' m' c' h1
    · injection h1 with h1 h3
      subst h1; subst h3; subst h2
      exact .rule hthr hrm ha
  · obtain ⟨c1,h1,h2⟩:=h.op.base p' m' c' hb
    obtain ⟨c2,h3,h4⟩:=note_mono E (q,r.2.2.1) (c + r.2.2.2.2) h2
    exact ⟨c2,by omega,h4⟩
  · rcases note_back _ _ _ hc' with h1 | ⟨h0,h1,h2⟩
    · rcases h.op.step p' c' h1 with h1 | h1
      · rcases List.mem_cons.1 h1 with h1 | h1
        · exact .inl (by rw [h1]; exact List.mem_cons_self)
        · exact .inl (List.mem_cons_of_mem _ (hsub _ h1))
      · refine .inr fun r2 q2 hr2 hq2 => ?_
        obtain ⟨c1,h3,h4⟩:=h1 r2 q2 hr2 hq2
        obtain ⟨c2,h5,h6⟩:=note_mono E (q,r.2.2.1) (c + r.2.2.2.2) h4
        exact ⟨c2,by omega,h6⟩
    · injection h1 with h1 h3
      refine .inl (List.mem_cons_of_mem _ ?_)
      rw [hQ1 h0 h3.symm,h1,h3]
      exact List.mem_append_right _ List.mem_cons_self
  · rcases List.mem_cons.1 ht with rfl | ht
    · exact ⟨rfl,c,hcur⟩
    · exact hqs t ht
  · rw [take_snoc hr] at hr'
    rcases List.mem_append.1 hr' with hr' | hr'
    · obtain ⟨c1,h3,h4⟩:=h.done r' q' hr' hq'
      obtain ⟨c2,h5,h6⟩:=note_mono E (q,r.2.2.1) (c + r.2.2.2.2) h4
      exact ⟨c2,by omega,h6⟩
    · have hr':=List.mem_singleton.1 hr'
      subst hr'
      rw [ha] at hq'
      injection hq' with hq'
      subst hq'
      exact note_at E _ _
theorem OJ.end_ {E:Th} {Q:List Rev.Thread} {p:Rev.Spot} {c:Int} {k:Nat} (h:OJ rs out x B E Q p c k) (hk:rs.length ≤ k):OI rs out x B E Q:=by
  refine ⟨⟨h.op.sound,h.op.base,fun p' c' hc' => ?_,h.qs⟩,h.once,h.qs⟩
  by_cases e:p' = p
  · subst e
    have:=h.cur
    rw [hc'] at this
    injection this with this
    subst this
    refine .inr fun r q hr hq => h.done r q ?_ hq
    rw [List.take_of_length_le hk]
    exact hr
  · rcases h.op.step p' c' hc' with h1 | h1
    · rcases List.mem_cons.1 h1 with h1 | h1
      · injection h1 with h1 _
        exact absurd h1 e
      · exact .inl h1
    · exact .inr h1
def potU (out:Str):List Rev.Thread:=(Rev.spots out.length).map fun p => (p,[])
def potE (out:Str) (E:Th):Nat:=Rev.pot (potU out) 5375001 (VT E)
theorem pot_top {E:Th} (hR:Rev.OkR rs) (ho:out.length ≤ 20) (hs:∀ p m c,VT E (p,m) = some c → Rev.Thr rs out x p m c):potE out E ≤ 231168043008:=by
  unfold potE Rev.pot
  have:=sum_top (fun t:Rev.Thread => match VT E t with | some c => c.toNat | none => 5375001) 5375001 (potU out) fun t _ => by
    split
    · rename_i c hc
      have:=thr_top hR ho (hs t.1 t.2 c hc)
      omega
    · exact Nat.le_refl _
  have hl:(potU out).length ≤ 43008:=by
    unfold potU
    rw [List.length_map,spots_len]
    omega
  exact Nat.le_trans this (Nat.le_trans (Nat.mul_le_mul_right _ hl) (by decide))
theorem pot_note {E:Th} {t:Rev.Thread} {c:Int} (hE:∀ u d,VT E u = some d → 0 ≤ d) (hc:0 ≤ c ∧ c ≤ 5375000):potE out (noteE E t c) ≤ potE out E ∧ (noteB E t c = true → t ∈ potU out → potE out (noteE E t c) < potE out E):=by
  have hle:∀ u,(match VT (noteE E t c) u with | some c => c.toNat | none => 5375001) ≤ (match VT E u with | some c => c.toNat | none => 5375001):=fun u => by
    cases h0:VT E u with
    | some d =>
      obtain ⟨c',h1,h2⟩:=note_mono E t c h0
      rw [h2]
      exact Int.toNat_le_toNat h1
    | none =>
      cases h1:VT (noteE E t c) u with
      | none => exact Nat.le_refl _
      | some d =>
        rcases note_back E t c h1 with h2 | ⟨_,_,h2⟩
        · rw [h0] at h2; cases h2
        · rw [h2]
          show c.toNat ≤ 5375001
          omega
  refine ⟨Rev.pot_le fun u _ => hle u,fun hn ht => Rev.pot_lt ht (fun u _ => hle u) ?_⟩
  have h1:VT (noteE E t c) t = some c:=by
    unfold noteE VT
    rw [if_pos hn,mfind_same eqT]
  rw [h1]
  unfold noteB at hn
  cases h0:VT E t with
  | none =>
    show c.toNat < 5375001
    omega
  | some d =>
    unfold VT at h0
    rw [h0] at hn
    have h3:(0:Int) ≤ d:=hE t d h0
    simp at hn
    have hn:c < d:=hn
    generalize (d:Int) = d at *
    show c.toNat < d.toNat
    omega
def OpenY (rs:List Rl) (out x:Str) (E:Th):Prop:=Rev.Opened rs out x E ∧ (E.map (·.1)).Nodup
theorem OI.done {E:Th} (hR:Rev.OkR rs) (hB:Rev.Comes rs out x B) (h:OI rs out x B E []):OpenY rs out x E :=
  ⟨Rev.open_done hR hB h.op fun t c => mem_mfind eqT h.once,h.once⟩
theorem key_len {E:Th} (hR:Rev.OkR rs) (hl:rs.length ≤ 64) (ho:out.length ≤ 20) (hn:(E.map (·.1)).Nodup) (hs:∀ p m c,VT E (p,m) = some c → Rev.Thr rs out x p m c):E.length ≤ 13805568:=by
  have h1:=nodup_sub (E.map (·.1)) (keyU rs out) hn fun k hk => by
    obtain ⟨v,hv⟩:=mfind_some eqT hk
    exact thr_key hR (hs k.1 k.2 v hv)
  rw [List.length_map] at h1
  exact Nat.le_trans h1 (keyU_len hR hl ho)
theorem h_open (s:Sch) (hs:OkS s) (out:Str) (ho:out.length ≤ 20) (es:Gs) (x:Str) (B:Rev.Spot → Str → Int → Prop) (hB:Rev.Comes s.2.2 out x B) (E0:Th) (hn:(E0.map (·.1)).Nodup) (hsd:∀ p m c,VT E0 (p,m) = some c → Rev.Thr s.2.2 out x p m c) (hb:∀ p m c,B p m c → ∃ c',c' ≤ c ∧ VT E0 (p,m) = some c') :
    HN env 33 [.ref 1000000000 0,.lmap 1000000001] [(1000000000,.box [.iv (.int .i64) s.1,.iv (.int .u8) s.2.1,.iv (.sl RuleT) s.2.2,.iv .str out,.lmap 1000000002]),(1000000001,.mp ThreadT (.int .i64) E0),(1000000002,.mp RestT GoalT es)] (.mp ThreadT (.int .i64)) (OpenY s.2.2 out x) (fun _ => .tup []) (fun E => [(1000000000,.box [.iv (.int .i64) s.1,.iv (.int .u8) s.2.1,.iv (.sl RuleT) s.2.2,.iv .str out,.lmap 1000000002]),(1000000001,.mp ThreadT (.int .i64) E),(1000000002,.mp RestT GoalT es)]):=by
  obtain ⟨n,a,rs⟩:=s
  have hR:=ok_rules hs
  have hl:rs.length ≤ 64:=hs.len
  dsimp only at hB hsd hR ⊢
  have hE0:=key_len hR hl ho hn hsd
  have hb0:bytesOf ⟨#[]⟩ = ([]:Str):=rfl
  refine HN.of_PW (m:=2000) env_ok fn_33 rfl rfl rfl rfl (by kernel_rfl) ?_; intro hx hbl; simp only [Try.f33]; simp only [go_sem,zA,↓reduceIte,↓reduceDIte,zB,zC,zD,zE,zF,zG,zH,zI]
  refine Walks.loopA (X:=List Nat × List Rev.Thread) (fun (z:List Nat × List Rev.Thread) => [(4,.lfull 24)]) (fun (z:List Nat × List Rev.Thread) => [(13,.it [.lmap 1000000001] E0.length z.1),(24,.arr ThreadT z.2)]) (fun (z:List Nat × List Rev.Thread) => (∀ i,i ∈ z.1 → ∀ e,E0[i]? = some e → e.1.2 = [] → e.1 ∈ z.2) ∧ (∀ t,t ∈ z.2 → t.2 = [] ∧ ∃ c,VT E0 t = some c) ∧ z.2.length + unseen E0.length z.1 ≤ E0.length) (fun (z:List Nat × List Rev.Thread) => unseen E0.length z.1) ([],[]) ?_; intro b1 b2 hb1 hb2; simp (config:={maxSteps:=4000000}) only [go_sem,zA,↓reduceIte,↓reduceDIte,zB,zC,zD,zE,zF,zG,zH,zI] at hb1 hb2; subst hb1; subst hb2; refine ⟨(by refine ⟨?_,?_,rfl,rfl⟩ <;> repeat' (first | exact trivial | exact Or.inl rfl | exact Or.inr rfl | apply le1 | apply le2 | apply le3 | apply le4 | exact ⟨(by show (_:Nat) < 1000000000; omega),rfl,rfl⟩ | rfl | (refine And.intro (Or.inl ?_) ?_) | (refine And.intro ?_ ?_))),?_,?_⟩
  · refine ⟨fun i hi => absurd hi List.not_mem_nil,fun t ht => absurd ht List.not_mem_nil,?_⟩
    have:unseen E0.length [] ≤ E0.length:=Nat.le_trans (List.length_filter_le _ _) (by rw [List.length_range]; exact Nat.le_refl _)
    simpa using this
  intro ⟨seen,Q⟩ ⟨hq1,hq2,hq3⟩ back
  dsimp only at hq1 hq2 hq3
  refine PW_sound env_ok ⟨_,fn_33,rfl⟩ 2000 _ _ (by kernel_rfl) ?_; simp only [go_sem,zA,↓reduceIte,↓reduceDIte,zB,zC,zD,zE,zF,zG,zH,zI]
  refine ⟨fun i hi e he => ⟨e,⟨i,by simp,he⟩,fun hm => ⟨?_,?_⟩,fun hm => ?_⟩,fun hdone => ?_⟩
  · omega
  · rw [hb0] at hm
    refine back _ (seen ++ [i],Q ++ [e.1]) (by refine ⟨?_,?_,rfl,rfl⟩ <;> repeat' (first | exact trivial | exact Or.inl rfl | exact Or.inr rfl | apply le1 | apply le2 | apply le3 | apply le4 | exact ⟨(by show (_:Nat) < 1000000000; omega),rfl,rfl⟩ | rfl | (refine And.intro (Or.inl ?_) ?_) | (refine And.intro ?_ ?_))) ⟨fun j hj f hf hfm => ?_,fun t ht => ?_,?_⟩ (unseen_lt hi.1 hi.2)
    · rcases List.mem_append.1 hj with hj | hj
      · exact List.mem_append_left _ (hq1 j hj f hf hfm)
      · rw [List.mem_singleton.1 hj,he] at hf
        injection hf with hf
        rw [← hf]
        exact List.mem_append_right _ List.mem_cons_self
    · rcases List.mem_append.1 ht with ht | ht
      · exact hq2 t ht
      · rw [List.mem_singleton.1 ht]
        exact ⟨hm,e.2,(mem_mfind eqT hn).1 (List.mem_of_getElem? he)⟩
    · have:=unseen_lt hi.1 hi.2
      dsimp only
      rw [List.length_append]
      simp only [List.length_cons,List.length_nil]
      omega
  · rw [hb0] at hm
    refine back _ (seen ++ [i],Q) (by refine ⟨?_,?_,rfl,rfl⟩ <;> repeat' (first | exact trivial | exact Or.inl rfl | exact Or.inr rfl | apply le1 | apply le2 | apply le3 | apply le4 | exact ⟨(by show (_:Nat) < 1000000000; omega),rfl,rfl⟩ | rfl | (refine And.intro (Or.inl ?_) ?_) | (refine And.intro ?_ ?_))) ⟨fun j hj f hf hfm => ?_,hq2,?_⟩ (unseen_lt hi.1 hi.2)
    · rcases List.mem_append.1 hj with hj | hj
      · exact hq1 j hj f hf hfm
      · rw [List.mem_singleton.1 hj,he] at hf
        injection hf with hf
        rw [← hf] at hfm
        exact absurd hfm hm
    · have:=unseen_lt hi.1 hi.2
      dsimp only
      omega
  have hI0:OI rs out x B E0 Q:=by
    refine ⟨⟨hsd,hb,fun p c hc => .inl ?_,hq2⟩,hn,hq2⟩
    obtain ⟨i,hi⟩:=List.getElem?_of_mem ((mem_mfind eqT hn).2 hc)
    exact hq1 i (hdone i (List.getElem?_eq_some_iff.1 hi).1) _ hi rfl
  have hp0:=pot_top (x:=x) hR ho hsd
  have hQl:Q.length ≤ E0.length:=by omega
  clear back hq1 hq2 hq3 hdone
  refine Walks.loopA (X:=Th × List Rev.Thread × Nat × Nat) (fun (z:Th × List Rev.Thread × Nat × Nat) => [(4,.lsl 24 4 z.2.2.1 z.2.2.2)]) (fun (z:Th × List Rev.Thread × Nat × Nat) => [(24,.arr ThreadT z.2.1),(1000000001,.mp ThreadT (.int .i64) z.1)]) (fun (z:Th × List Rev.Thread × Nat × Nat) => OI rs out x B z.1 (z.2.1.drop z.2.2.1) ∧ z.2.2.1 + z.2.2.2 = z.2.1.length ∧ z.2.2.2 + potE out z.1 ≤ 231181848576) (fun (z:Th × List Rev.Thread × Nat × Nat) => 2 * potE out z.1 + z.2.2.2) (E0,Q,0,Q.length) ?_; intro b1 b2 hb1 hb2; simp (config:={maxSteps:=4000000}) only [go_sem,zA,↓reduceIte,↓reduceDIte,zB,zC,zD,zE,zF,zG,zH,zI] at hb1 hb2; subst hb1; subst hb2; refine ⟨(by refine ⟨?_,?_,rfl,rfl⟩ <;> repeat' (first | exact trivial | exact Or.inl rfl | exact Or.inr rfl | apply le1 | apply le2 | apply le3 | apply le4 | exact ⟨(by show (_:Nat) < 1000000000; omega),rfl,rfl⟩ | rfl | (refine And.intro (Or.inl ?_) ?_) | (refine And.intro ?_ ?_))),?_,?_⟩
  · exact ⟨hI0,by simp,by dsimp only; omega⟩
  intro ⟨E,xs,off,len⟩ ⟨hI,hlen,hpl⟩ back
  dsimp only at hI hlen hpl
  refine PW_sound env_ok ⟨_,fn_33,rfl⟩ 2000 _ _ (by kernel_rfl) ?_; simp only [go_sem,zA,↓reduceIte,↓reduceDIte,zB,zC,zD,zE,zF,zG,zH,zI]
  have hbox:∀ (l:Nat),len = l + 1 → ∃ at_ md sn c,xs[off]? = some ((at_,md,sn),[]) ∧ OJ rs out x B E (xs.drop (off + 1)) (at_,md,sn) c 0:=fun l h => by
    obtain ⟨t,ht⟩:∃ t,xs[off]? = some t:=get_of_lt (by omega)
    rw [drop_cons ht] at hI
    obtain ⟨c,h1,h2⟩:=hI.begin
    obtain ⟨⟨at_,md,sn⟩,m⟩:=t
    dsimp only at h1
    subst h1
    exact ⟨at_,md,sn,c,ht,h2⟩
  refine ⟨by omega,fun g => ?_,fun g => ?_⟩
  · obtain ⟨at_,md,sn,c,ht,hJ⟩:=hbox (len - 1) (by omega)
    refine ⟨g,_,ht,by omega,?_⟩
    dsimp only
    clear hbox hI
    refine Walks.loopA (X:=Nat × Th × List Rev.Thread × Nat × Nat) (fun (y:Nat × Th × List Rev.Thread × Nat × Nat) => [(39,.iv (.int .i64) (y.1:Int)),(4,.lsl 24 4 y.2.2.2.1 y.2.2.2.2),(25,.any),(28,.any),(29,.any),(31,.any),(32,.any)]) (fun (y:Nat × Th × List Rev.Thread × Nat × Nat) => [(24,.arr ThreadT y.2.2.1),(1000000001,.mp ThreadT (.int .i64) y.2.1)]) (fun (y:Nat × Th × List Rev.Thread × Nat × Nat) => y.1 ≤ rs.length ∧ OJ rs out x B y.2.1 (y.2.2.1.drop y.2.2.2.1) (at_,md,sn) c y.1 ∧ y.2.2.2.1 + y.2.2.2.2 = y.2.2.1.length ∧ y.2.2.2.2 + potE out y.2.1 ≤ 231181848576 ∧ 2 * potE out y.2.1 + y.2.2.2.2 < 2 * potE out E + len) (fun (y:Nat × Th × List Rev.Thread × Nat × Nat) => rs.length - y.1) (0,E,xs,off + 1,len - 1) ?_; intro b1 b2 hb1 hb2; simp (config:={maxSteps:=4000000}) only [go_sem,zA,↓reduceIte,↓reduceDIte,zB,zC,zD,zE,zF,zG,zH,zI] at hb1 hb2; subst hb1; subst hb2; refine ⟨(by refine ⟨?_,?_,rfl,rfl⟩ <;> repeat' (first | exact trivial | exact Or.inl rfl | exact Or.inr rfl | apply le1 | apply le2 | apply le3 | apply le4 | exact ⟨(by show (_:Nat) < 1000000000; omega),rfl,rfl⟩ | rfl | (refine And.intro (Or.inl ?_) ?_) | (refine And.intro ?_ ?_))),?_,?_⟩
    · exact ⟨Nat.zero_le _,hJ,by dsimp only; omega,by dsimp only; omega,by dsimp only; omega⟩
    clear hJ hpl hlen ht
    intro ⟨k,F,ys,o1,l1⟩ ⟨hk,hJ,hlen,hpl,hms⟩ back2
    dsimp only at hk hJ hlen hpl hms
    refine PW_sound env_ok ⟨_,fn_33,rfl⟩ 2000 _ _ (by kernel_rfl) ?_; simp only [go_sem,zA,↓reduceIte,↓reduceDIte,zB,zC,zD,zE,zF,zG,zH,zI]
    have hthr:=hJ.op.sound (at_,md,sn) [] c hJ.cur
    have hp:=Rev.thr_ok hR hthr
    have hct:=thr_top hR ho hthr
    have hF:=key_len hR hl ho hJ.once hJ.op.sound
    refine ⟨fun g => ?_,fun g => ?_⟩
    · obtain ⟨r,hr⟩:∃ r,rs[k]? = some r:=get_of_lt (by omega)
      have hrm:=List.mem_of_getElem? hr
      have hmode:=hR.mode r hrm
      have hcost:=hR.cost r hrm
      refine ⟨Int.natCast_nonneg _,r,hr,_,c_after (n,a,rs) out ho es (at_,md,sn) r hp hmode,fun _ => ?_⟩
      cases hA:(afterV out (at_,md,sn) r).2
      · have hnone:=after_none hp hmode hA
        simp only [go_sem,zA,↓reduceIte,↓reduceDIte,zB,zC,zD,zE,zF,zG,zH,zI]
        exact ⟨i64_ok (by omega) (by omega),back2 _ (k + 1,F,ys,o1,l1) (by refine ⟨?_,?_,rfl,rfl⟩ <;> repeat' (first | exact trivial | exact Or.inl rfl | exact Or.inr rfl | apply le1 | apply le2 | apply le3 | apply le4 | exact ⟨(by show (_:Nat) < 1000000000; omega),rfl,rfl⟩ | rfl | (refine And.intro (Or.inl ?_) ?_) | (refine And.intro ?_ ?_))) ⟨by omega,hJ.skip hr hnone,hlen,hpl,hms⟩ (by dsimp only; omega)⟩
      · have hsome:Rev.afterE out (at_,md,sn) r = some (afterV out (at_,md,sn) r).1:=(after_some hp hmode).1 (Prod.ext rfl hA)
        obtain ⟨q1,q2,q3⟩:=Rev.after_ok hp hmode hsome
        generalize (afterV out (at_,md,sn) r).1 = q at *
        simp only [go_sem,zA,↓reduceIte,↓reduceDIte,zB,zC,zD,zE,zF,zG,zH,zI]
        have hcur:mfind (V:=(Ty.int .i64).den) (eqB ThreadT) F ((at_,md,sn),[]) = some c:=hJ.cur
        simp only [hcur,Option.getD_some]
        have hno:=h_note F (by omega) (q,r.2.2.1) (c + r.2.2.2.2)
        refine ⟨⟨by omega,by omega⟩,_,_,hno,rfl,fun _ _ => ?_⟩
        have hpn:=pot_note (out:=out) (E:=F) (t:=(q,r.2.2.1)) (c:=c + r.2.2.2.2) (fun u d hd => Rev.thr_cost hR (hJ.op.sound u.1 u.2 d hd)) (by have:=thr_top hR ho (hthr.rule hrm hsome); omega)
        have hmp:∀ m:Str,m = [] → r.2.2.1 = m → (q,r.2.2.1) ∈ potU out:=fun m hm hr' => by
          rw [hr',hm]
          exact List.mem_map.2 ⟨q,Rev.mem_spots ⟨q1.at0,q1.at1⟩ (by rw [q3]; exact hmode) q1.seen,rfl⟩
        have hJn:=hJ.next hR hr hsome
        cases hb:noteB F (q,r.2.2.1) (c + r.2.2.2.2)
        · simp only [go_sem,zA,↓reduceIte,↓reduceDIte,zB,zC,zD,zE,zF,zG,zH,zI]
          refine ⟨i64_ok (by omega) (by omega),back2 _ (k + 1,noteE F (q,r.2.2.1) (c + r.2.2.2.2),ys,o1,l1) (by refine ⟨?_,?_,rfl,rfl⟩ <;> repeat' (first | exact trivial | exact Or.inl rfl | exact Or.inr rfl | apply le1 | apply le2 | apply le3 | apply le4 | exact ⟨(by show (_:Nat) < 1000000000; omega),rfl,rfl⟩ | rfl | (refine And.intro (Or.inl ?_) ?_) | (refine And.intro ?_ ?_))) ⟨by omega,hJn _ (fun h => by rw [hb] at h; cases h) (fun _ => rfl),hlen,?_,?_⟩ (by dsimp only; omega)⟩
          · have:=hpn.1; dsimp only; omega
          · have:=hpn.1; dsimp only; omega
        · simp only [go_sem,zA,↓reduceIte,↓reduceDIte,zB,zC,zD,zE,zF,zG,zH,zI]
          have htk:(ys.drop o1).take l1 = ys.drop o1:=List.take_of_length_le (by rw [List.length_drop]; omega)
          refine ⟨fun hm => ⟨⟨?_,by omega⟩,i64_ok (by omega) (by omega),back2 _ (k + 1,noteE F (q,r.2.2.1) (c + r.2.2.2.2),(ys.drop o1).take l1 ++ [(q,r.2.2.1)],0,((ys.drop o1).take l1 ++ [(q,r.2.2.1)]).length) (by refine ⟨?_,?_,rfl,rfl⟩ <;> repeat' (first | exact trivial | exact Or.inl rfl | exact Or.inr rfl | apply le1 | apply le2 | apply le3 | apply le4 | exact ⟨(by show (_:Nat) < 1000000000; omega),rfl,rfl⟩ | rfl | (refine And.intro (Or.inl ?_) ?_) | (refine And.intro ?_ ?_))) ⟨by omega,hJn _ (fun _ _ => ?_) (fun h => absurd ⟨hb,hm⟩ h),by simp,?_,?_⟩ (by dsimp only; omega)⟩,fun hm => ⟨i64_ok (by omega) (by omega),back2 _ (k + 1,noteE F (q,r.2.2.1) (c + r.2.2.2.2),ys,o1,l1) (by refine ⟨?_,?_,rfl,rfl⟩ <;> repeat' (first | exact trivial | exact Or.inl rfl | exact Or.inr rfl | apply le1 | apply le2 | apply le3 | apply le4 | exact ⟨(by show (_:Nat) < 1000000000; omega),rfl,rfl⟩ | rfl | (refine And.intro (Or.inl ?_) ?_) | (refine And.intro ?_ ?_))) ⟨by omega,hJn _ (fun _ h => absurd h hm) (fun _ => rfl),hlen,?_,?_⟩ (by dsimp only; omega)⟩⟩
          · by_cases h:o1 < ys.length
            · exact .inl h
            · exact .inr ⟨by omega,by omega,by simp⟩
          · dsimp only; rw [htk,List.drop_zero]
          · have:=hpn.2 hb (hmp _ rfl (by rw [hm,hb0]))
            dsimp only
            rw [htk,List.length_append,List.length_drop]
            simp only [List.length_cons,List.length_nil]
            omega
          · have:=hpn.2 hb (hmp _ rfl (by rw [hm,hb0]))
            dsimp only
            rw [htk,List.length_append,List.length_drop]
            simp only [List.length_cons,List.length_nil]
            omega
          · have:=hpn.1; dsimp only; omega
          · have:=hpn.1; dsimp only; omega
    · exact back _ (F,ys,o1,l1) (by refine ⟨?_,?_,rfl,rfl⟩ <;> repeat' (first | exact trivial | exact Or.inl rfl | exact Or.inr rfl | apply le1 | apply le2 | apply le3 | apply le4 | exact ⟨(by show (_:Nat) < 1000000000; omega),rfl,rfl⟩ | rfl | (refine And.intro (Or.inl ?_) ?_) | (refine And.intro ?_ ?_))) ⟨hJ.end_ (by omega),hlen,hpl⟩ hms
  · have h0:off = xs.length:=by omega
    rw [h0,List.drop_length] at hI
    exact ⟨E,hI.done hR hB,rfl⟩
end Go.Proofs.Ytefpgfdemmllpaa
