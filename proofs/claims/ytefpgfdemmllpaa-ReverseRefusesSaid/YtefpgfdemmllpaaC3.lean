/- What leaving's groups hold. Nothing here is trusted; no condition. -/
import Derived.Test.YtefpgfdemmllpaaC2
import Derived.Shelf.Strings.Builder1
import Derived.Shelf.Strings.BuilderF
import Derived.Shelf.Strings.BuilderK
import Derived.Shelf.Strings.Prefix
import Derived.Shelf.Strings.BuilderCap
import Derived.Test.YtefpgfdemmllpaaProg
import Derived.WalkKit
import Derived.RegionTactic
import Derived.BigRegion
import Derived.Lib.Walk
import Derived.Lib.Builder
import Derived.Lib.UnsafeStr
set_option linter.unusedSimpArgs false
set_option linter.unusedVariables false
open Nat renaming reduceBEq → zA, reduceAdd → zB, reduceSub → zC, reduceMul → zD, reduceLeDiff → zE
open Int renaming reduceLT → zF, reduceLE → zG, reduceToNat → zH, reduceNeg → zI
namespace Go.Proofs.Ytefpgfdemmllpaa
open Go.Shelf
end Go.Proofs.Ytefpgfdemmllpaa
namespace Go.Proofs.Ytefpgfdemmllpaa
open Go.RowKit Go.Shelf
set_option maxHeartbeats 4000000
set_option maxRecDepth 100000
def toI (s:Str):List Int:=s.map fun c:UInt8 => (c.toNat:Int)
def toS (l:List Int):Str:=l.map fun n:Int => UInt8.ofNat n.toNat
theorem toS_toI (s:Str):toS (toI s) = s:=by
  unfold toS toI
  rw [List.map_map]
  conv => rhs; rw [← List.map_id s]
  apply List.map_congr_left
  intro c _
  simp
theorem toI_app (s t:Str):toI (s ++ t) = toI s ++ toI t:=List.map_append ..
end Go.Proofs.Ytefpgfdemmllpaa
namespace Go.Proofs.Ytefpgfdemmllpaa
attribute [local go_sem] bldB Int.reduceEq not_true_eq_false not_false_eq_true false_implies
set_option maxHeartbeats 4000000
set_option maxRecDepth 100000
def bldB:Option Bool → Str → Str → List (Nat × Blk)
  | none,_,_ => [(5,.box [.nilptr,.nilsl] (some 118)),(6,.box [.nilptr,.nilsl] (some 118))]
  | some false,a,b => [(5,.box [.ref 5 0,.lfull 4600014] (some 118)),(4600014,.arr (.int .u8) (toI a) (some 5)),(6,.box [.ref 6 0,.lfull 4900014] (some 118)),(4900014,.arr (.int .u8) (toI b) (some 5))]
  | some true,a,b => [(5,.box [.ref 5 0,.lfull 4600015] (some 118)),(4600015,.arr (.int .u8) (toI a) (some 5)),(6,.box [.ref 6 0,.lfull 4900015] (some 118)),(4900015,.arr (.int .u8) (toI b) (some 5))]
end Go.Proofs.Ytefpgfdemmllpaa
namespace Go.Proofs.Ytefpgfdemmllpaa
def isEnd (s:Sch):Int → List Int → Prop
  | m,[] => 0 ≤ m ∧ m < s.1 ∧ accB s.2.1 m = true
  | m,i :: l => ∃ r,0 ≤ i ∧ s.2.2[i.toNat]? = some r ∧ r.1 = m ∧ isEnd s r.2.1 l
def costI (s:Sch) (i:Int):Int:=match s.2.2[i.toNat]? with | some r => r.2.2.2.2 | none => 0
def costL (s:Sch):List Int → Int
  | [] => 0 | i :: l => costI s i + costL s l
def lexL:List Int → List Int → Bool
  | a :: x,b :: y => decide (a < b) || (decide (a = b) && lexL x y)
  | _,_ => false
def befE (c1:Int) (l1:List Int) (c2:Int) (l2:List Int):Bool:=decide (c1 < c2 ∨ c1 = c2 ∧ (l1.length < l2.length ∨ l1.length = l2.length ∧ lexL l1 l2 = true))
theorem lexL_irr:∀ l,lexL l l = false
  | [] => rfl
  | a :: l => by simp [lexL,lexL_irr l]
theorem lexL_trans:∀ {x y z:List Int},lexL x y = true → lexL y z = true → lexL x z = true
  | [],_,_,h,_ => by simp [lexL] at h
  | _ :: _,[],_,h,_ => by simp [lexL] at h
  | _ :: _,_ :: _,[],_,h => by simp [lexL] at h
  | a :: x,b :: y,c :: z,h1,h2 => by
    simp only [lexL,Bool.or_eq_true,Bool.and_eq_true,decide_eq_true_eq] at *
    rcases h1 with h1 | ⟨h1,h1'⟩ <;> rcases h2 with h2 | ⟨h2,h2'⟩
    · exact .inl (by omega)
    · exact .inl (by omega)
    · exact .inl (by omega)
    · exact .inr ⟨by omega,lexL_trans h1' h2'⟩
theorem lexL_total:∀ {x y:List Int},x.length = y.length → x = y ∨ lexL x y = true ∨ lexL y x = true
  | [],[],_ => .inl rfl
  | [],_ :: _,h => by simp at h
  | _ :: _,[],h => by simp at h
  | a :: x,b :: y,h => by
    simp only [lexL,Bool.or_eq_true,Bool.and_eq_true,decide_eq_true_eq]
    rcases Int.lt_trichotomy a b with h1 | h1 | h1
    · exact .inr (.inl (.inl h1))
    · subst h1
      rcases lexL_total (x:=x) (y:=y) (by simpa using h) with h2 | h2 | h2
      · exact .inl (by rw [h2])
      · exact .inr (.inl (.inr ⟨rfl,h2⟩))
      · exact .inr (.inr (.inr ⟨rfl,h2⟩))
    · exact .inr (.inr (.inl h1))
theorem befE_iff {c1 c2:Int} {l1 l2:List Int}:befE c1 l1 c2 l2 = true ↔ c1 < c2 ∨ c1 = c2 ∧ (l1.length < l2.length ∨ l1.length = l2.length ∧ lexL l1 l2 = true):=by simp [befE]
theorem befE_irr (c:Int) (l:List Int):befE c l c l = false:=by
  cases h:befE c l c l with
  | false => rfl
  | true => rw [befE_iff,lexL_irr] at h; simp at h
theorem befE_trans {c1 c2 c3:Int} {l1 l2 l3:List Int} (h1:befE c1 l1 c2 l2 = true) (h2:befE c2 l2 c3 l3 = true):befE c1 l1 c3 l3 = true:=by
  rw [befE_iff] at *
  rcases h1 with h1 | ⟨h1,h1'⟩ <;> rcases h2 with h2 | ⟨h2,h2'⟩
  · exact .inl (by omega)
  · exact .inl (by omega)
  · exact .inl (by omega)
  · refine .inr ⟨by omega,?_⟩
    rcases h1' with h1' | ⟨h1',h3⟩ <;> rcases h2' with h2' | ⟨h2',h4⟩
    · exact .inl (by omega)
    · exact .inl (by omega)
    · exact .inl (by omega)
    · exact .inr ⟨by omega,lexL_trans h3 h4⟩
theorem befE_total {c1 c2:Int} {l1 l2:List Int}:(c1 = c2 ∧ l1 = l2) ∨ befE c1 l1 c2 l2 = true ∨ befE c2 l2 c1 l1 = true:=by
  simp only [befE_iff]
  rcases Int.lt_trichotomy c1 c2 with h | h | h
  · exact .inr (.inl (.inl h))
  · rcases Nat.lt_trichotomy l1.length l2.length with h2 | h2 | h2
    · exact .inr (.inl (.inr ⟨h,.inl h2⟩))
    · rcases lexL_total h2 with h3 | h3 | h3
      · exact .inl ⟨h,h3⟩
      · exact .inr (.inl (.inr ⟨h,.inr ⟨h2,h3⟩⟩))
      · exact .inr (.inr (.inr ⟨h.symm,.inr ⟨h2.symm,h3⟩⟩))
    · exact .inr (.inr (.inr ⟨h.symm,.inl h2⟩))
  · exact .inr (.inr (.inl h))
theorem befE_not {c1 c2:Int} {l1 l2:List Int} (h:befE c1 l1 c2 l2 = true):befE c2 l2 c1 l1 = false:=by
  cases h2:befE c2 l2 c1 l1 with
  | false => rfl
  | true => have:=befE_trans h h2; rw [befE_irr] at this; cases this
def leE (s:Sch) (x y:List Int):Prop:=x = y ∨ befE (costL s x) x (costL s y) y = true
theorem leE_anti {s:Sch} {x y:List Int} (h1:leE s x y) (h2:leE s y x):x = y:=by
  rcases h1 with h1 | h1
  · exact h1
  · rcases h2 with h2 | h2
    · exact h2.symm
    · rw [befE_not h1] at h2; cases h2
theorem leE_total (s:Sch) (x y:List Int):leE s x y ∨ leE s y x:=by
  rcases befE_total (c1:=costL s x) (c2:=costL s y) (l1:=x) (l2:=y) with ⟨_,h⟩ | h | h
  · exact .inl (.inl h)
  · exact .inl (.inr h)
  · exact .inr (.inr h)
theorem leE_cons {s:Sch} {x y:List Int} (i:Int) (h:leE s x y):leE s (i :: x) (i :: y):=by
  rcases h with rfl | h
  · exact .inl rfl
  · refine .inr ?_
    rw [befE_iff] at *
    simp only [costL,List.length_cons,lexL]
    rcases h with h | ⟨h,h'⟩
    · exact .inl (by omega)
    · refine .inr ⟨by omega,?_⟩
      rcases h' with h' | ⟨h',h''⟩
      · exact .inl (by omega)
      · exact .inr ⟨by omega,by simp [h'']⟩
theorem leE_uncons {s:Sch} {x y:List Int} {i:Int} (h:leE s (i :: x) (i :: y)):leE s x y:=by
  rcases leE_total s x y with h' | h'
  · exact h'
  · have:=leE_anti h (leE_cons i h')
    injection this with _ this
    exact .inl this
structure Least (s:Sch) (m:Int) (l:List Int):Prop where
  is:isEnd s m l
  le:∀ l',isEnd s m l' → leE s l l'
theorem Least.uniq {s:Sch} {m:Int} {l l':List Int} (h:Least s m l) (h':Least s m l'):l = l':=leE_anti (h.le _ h'.is) (h'.le _ h.is)
theorem costI_nn {s:Sch} (hs:OkS s) (i:Int):0 ≤ costI s i:=by
  unfold costI
  split
  · rename_i r h; exact (right_nums (hs.right r (List.mem_of_getElem? h))).2.2.2.2.1
  · omega
theorem costI_le {s:Sch} (hs:OkS s) (i:Int):costI s i ≤ 1000:=by
  unfold costI
  split
  · rename_i r h; exact (right_nums (hs.right r (List.mem_of_getElem? h))).2.2.2.2.2.1
  · omega
theorem costL_nn {s:Sch} (hs:OkS s):∀ l,0 ≤ costL s l
  | [] => Int.le_refl _
  | i :: l => by have:=costI_nn hs i; have:=costL_nn hs l; simp only [costL]; omega
theorem costL_le {s:Sch} (hs:OkS s):∀ l,costL s l ≤ 1000 * (l.length:Int)
  | [] => by simp [costL]
  | i :: l => by have:=costI_le hs i; have:=costL_le hs l; simp only [costL,List.length_cons]; omega
theorem Least.tail {s:Sch} {m i:Int} {l:List Int} {r:Rl} (h:Least s m (i :: l)) (hr:s.2.2[i.toNat]? = some r):Least s r.2.1 l:=by
  obtain ⟨r',h0,h1,h2,h3⟩:=h.is
  rw [hr] at h1; injection h1 with h1; subst h1
  exact ⟨h3,fun l' hl' => leE_uncons (h.le (i :: l') ⟨r,h0,hr,h2,hl'⟩)⟩
def modesL (s:Sch):Int → List Int → List Nat
  | m,[] => [m.toNat]
  | m,i :: l => m.toNat :: (match s.2.2[i.toNat]? with | some r => modesL s r.2.1 l | none => [])
theorem isEnd_mode {s:Sch} (hs:OkS s) {m:Int} {l:List Int} (h:isEnd s m l):0 ≤ m ∧ m < s.1:=by
  cases l with
  | nil => exact ⟨h.1,h.2.1⟩
  | cons i l =>
    obtain ⟨r,_,h1,h2,_⟩:=h
    have:=right_nums (hs.right r (List.mem_of_getElem? h1))
    omega
theorem modesL_len {s:Sch}:∀ {l:List Int} {m:Int},isEnd s m l → (modesL s m l).length = l.length + 1
  | [],m,_ => rfl
  | i :: l,m,⟨r,_,h1,_,h3⟩ => by
    simp only [modesL,h1,List.length_cons,modesL_len h3]
theorem modesL_lt {s:Sch} (hs:OkS s):∀ {l:List Int} {m:Int},isEnd s m l → ∀ x,x ∈ modesL s m l → x < s.1.toNat
  | [],m,h,x,hx => by
    simp only [modesL,List.mem_singleton] at hx
    have:=isEnd_mode hs h
    omega
  | i :: l,m,h,x,hx => by
    have hm:=isEnd_mode hs h
    obtain ⟨r,_,h1,_,h3⟩:=h
    simp only [modesL,h1,List.mem_cons] at hx
    rcases hx with rfl | hx
    · omega
    · exact modesL_lt hs h3 x hx
end Go.Proofs.Ytefpgfdemmllpaa
namespace Go.Proofs.Ytefpgfdemmllpaa
abbrev En:=List Int × Int × Bool
def newE (i:Nat) (r:Rl) (o:En):En:=((i:Int) :: o.1,r.2.2.2.2 + o.2.1,true)
def upd1 (out next:List En) (i:Nat) (r:Rl):List En:=match out[r.2.1.toNat]?,next[r.1.toNat]? with
  | some o,some n => if o.2.2 = true then (if n.2.2 = false ∨ befE (newE i r o).2.1 (newE i r o).1 n.2.1 n.1 = true then next.set r.1.toNat (newE i r o) else next) else next
  | _,_ => next
def roundE (out:List En):Nat → List Rl → List En → List En
  | _,[],next => next
  | i,r :: rs,next => roundE out (i + 1) rs (upd1 out next i r)
def endsK (rs:List Rl):Nat → List En → List En
  | 0,out => out
  | k + 1,out => endsK rs k (roundE out 0 rs out)
def startE (a:Int) (n:Nat):List En:=(List.range n).map fun (m:Nat) => ([],0,accB a (m:Int))
def endsE (s:Sch):List En:=endsK s.2.2 s.1.toNat (startE s.2.1 s.1.toNat)
structure EnOK (s:Sch) (k:Nat) (m:Int) (e:En) (all:List Int → Prop):Prop where
  is:e.2.2 = true → isEnd s m e.1 ∧ e.1.length ≤ k ∧ e.2.1 = costL s e.1
  no:e.2.2 = false → e.1 = [] ∧ e.2.1 = 0
  le:∀ l,isEnd s m l → all l → e.2.2 = true ∧ leE s e.1 l
def RoundOK (s:Sch) (k:Nat) (out:List En):Prop:=out.length = s.1.toNat ∧ ∀ (m:Nat) e,out[m]? = some e → EnOK s k m e (fun l => l.length ≤ k)
theorem costL_cons {s:Sch} {i:Nat} {r:Rl} (h:s.2.2[i]? = some r) (l:List Int):costL s ((i:Int) :: l) = r.2.2.2.2 + costL s l:=by
  simp only [costL,costI,Int.toNat_natCast,h]
theorem start_ok {s:Sch} (_hs:OkS s):RoundOK s 0 (startE s.2.1 s.1.toNat):=by
  refine ⟨by simp [startE],fun m e he => ?_⟩
  have hm:m < s.1.toNat:=by have:=(List.getElem?_eq_some_iff.1 he).1; simpa [startE] using this
  unfold startE at he
  rw [List.getElem?_map,List.getElem?_range hm] at he
  obtain rfl:([],0,accB s.2.1 (m:Int)) = e:=by simpa using he
  refine ⟨fun h => ⟨⟨Int.natCast_nonneg _,by omega,h⟩,Nat.le_refl _,rfl⟩,fun _ => ⟨rfl,rfl⟩,fun l hl ha => ?_⟩
  obtain rfl:l = []:=List.eq_nil_of_length_eq_zero (Nat.le_zero.1 ha)
  exact ⟨hl.2.2,.inl rfl⟩
end Go.Proofs.Ytefpgfdemmllpaa
namespace Go.Proofs.Ytefpgfdemmllpaa
set_option maxHeartbeats 1000000
abbrev PM:=List (Int × Pr)
theorem mfind_set {V:Type} (m:List (Int × V)) (a b:Int) (v:V):mfind eqI (mset eqI m a v) b = if b = a then some v else mfind eqI m b:=by
  induction m with
  | nil =>
    simp only [mset,mfind]
    by_cases h:b = a
    · simp only [eqI,h,decide_true,cond_true,if_true]
    · simp only [eqI,h,decide_false,cond_false,if_false]
  | cons p m ih =>
    simp only [mset]
    by_cases h:a = p.1
    · have e:eqI a p.1 = true:=by simp only [eqI,h,decide_true]
      rw [e,cond_true]
      simp only [mfind]
      by_cases h':b = a
      · simp only [eqI,h',decide_true,cond_true,if_true]
      · have e':eqI b a = false:=by simp only [eqI,h',decide_false]
        rw [e',if_neg h',cond_false]
        have e2:eqI b p.1 = false:=by rw [← h]; exact e'
        rw [e2,cond_false]
    · have e:eqI a p.1 = false:=by simp only [eqI,h,decide_false]
      rw [e,cond_false]
      simp only [mfind]
      by_cases h':b = p.1
      · have e':eqI b p.1 = true:=by simp only [eqI,h',decide_true]
        rw [e',cond_true,cond_true,if_neg (fun x => h (by rw [← x,h']))]
      · have e':eqI b p.1 = false:=by simp only [eqI,h',decide_false]
        rw [e',cond_false,cond_false,ih]
theorem lessP_iff {p q:Pr}:lessP p q = true ↔ p.1 < q.1 ∨ p.1 = q.1 ∧ p.2 < q.2:=by simp [lessP]
theorem lessP_no {p q:Pr}:lessP p q = false ↔ ¬ (p.1 < q.1 ∨ p.1 = q.1 ∧ p.2 < q.2):=by simp [lessP]
def prc (s:Sch) (l:List Int):Pr:=(costL s l,(l.length:Int))
def PrS (s:Sch) (ps:PM) (m:Int) (p:Pr):Prop:=∃ l,isEnd s m l ∧ p = prc s l ∧ (modesL s m l).Nodup ∧ ∀ (x:Nat),x ∈ modesL s m l → ∃ px,mfind eqI ps (x:Int) = some px ∧ lessP p px = false
structure PrI (s:Sch) (ps:PM):Prop where
  sound:∀ m p,mfind eqI ps m = some p → PrS s ps m p
  acc:∀ m:Int,0 ≤ m → m < s.1 → accB s.2.1 m = true → mfind eqI ps m = some (0,0)
theorem len_le_of_nodup {l:List Nat} {n:Nat} (hd:l.Nodup) (h:∀ x,x ∈ l → x < n):l.length ≤ n:=by
  have:=List.Nodup.length_le_of_subset hd (l₂:=List.range n) (fun x hx => List.mem_range.2 (h x hx))
  simpa using this
theorem PrS.bound {s:Sch} (hs:OkS s) {ps:PM} {m:Int} {p:Pr} (h:PrS s ps m p):0 ≤ p.1 ∧ p.1 ≤ 8000 ∧ 0 ≤ p.2 ∧ p.2 < s.1 ∧ 0 ≤ m ∧ m < s.1:=by
  obtain ⟨l,h1,rfl,h3,_⟩:=h
  have hl:=len_le_of_nodup h3 (modesL_lt hs h1)
  rw [modesL_len h1] at hl
  have:=costL_le hs l
  have:=costL_nn hs l
  have:=hs.n8
  have:=isEnd_mode hs h1
  simp only [prc]
  omega
theorem PrI.put {s:Sch} (hs:OkS s) {ps:PM} (h:PrI s ps) {i:Nat} {r:Rl} {q:Pr} (hr:s.2.2[i]? = some r) (hq:mfind eqI ps r.2.1 = some q)
    (hnew:∀ p,mfind eqI ps r.1 = some p → lessP (withP q r.2.2.2.2) p = true):PrI s (mset eqI ps r.1 (withP q r.2.2.2.2)):=by
  have hrn:=right_nums (hs.right r (List.mem_of_getElem? hr))
  obtain ⟨l,h1,h2,h3,h4⟩:=h.sound _ _ hq
  have hlt:lessP q (withP q r.2.2.2.2) = true:=by
    rw [lessP_iff]; simp only [withP]; omega
  have hmem:r.1.toNat ∉ modesL s r.2.1 l:=by
    intro hx
    obtain ⟨px,e1,e2⟩:=h4 _ hx
    rw [show ((r.1.toNat:Nat):Int) = r.1 by omega] at e1
    have:=hnew px e1
    rw [lessP_iff] at this hlt
    rw [lessP_no] at e2
    omega
  refine ⟨fun m p hm => ?_,fun m a1 a2 a3 => ?_⟩
  · rw [mfind_set] at hm
    split at hm
    · rename_i e
      subst e
      injection hm with hm
      subst hm
      refine ⟨(i:Int) :: l,⟨r,Int.natCast_nonneg _,by simpa using hr,rfl,h1⟩,?_,?_,fun x hx => ?_⟩
      · rw [h2]
        simp only [prc,withP,List.length_cons,costL_cons hr]
        rw [Int.add_comm r.2.2.2.2]
        simp
      · simp only [modesL,Int.toNat_natCast,hr,List.nodup_cons]
        exact ⟨hmem,h3⟩
      · simp only [modesL,Int.toNat_natCast,hr,List.mem_cons] at hx
        rw [mfind_set]
        rcases hx with rfl | hx
        · rw [if_pos (by omega)]
          exact ⟨_,rfl,by rw [lessP_no]; omega⟩
        · obtain ⟨px,e1,e2⟩:=h4 x hx
          rw [if_neg (fun e => hmem (by rw [← e]; simpa using hx))]
          refine ⟨px,e1,?_⟩
          rw [lessP_iff] at hlt
          rw [lessP_no] at e2 ⊢
          omega
    · rename_i hne
      obtain ⟨l',g1,g2,g3,g4⟩:=h.sound _ _ hm
      refine ⟨l',g1,g2,g3,fun x hx => ?_⟩
      obtain ⟨px,e1,e2⟩:=g4 x hx
      rw [mfind_set]
      split
      · rename_i e
        rw [e] at e1
        have:=hnew px e1
        refine ⟨_,rfl,?_⟩
        rw [lessP_iff] at this
        rw [lessP_no] at e2 ⊢
        omega
      · exact ⟨px,e1,e2⟩
  · rw [mfind_set]
    have ha:=h.acc m a1 a2 a3
    split
    · rename_i e
      subst e
      have:=hnew _ ha
      have hb:=(h.sound _ _ hq).bound hs
      rw [lessP_iff] at this
      simp only [withP] at this
      omega
    · exact ha
def shutP (ps:PM) (r:Rl):Prop:=∀ q,mfind eqI ps r.2.1 = some q → ∃ p,mfind eqI ps r.1 = some p ∧ lessP (withP q r.2.2.2.2) p = false
def valP:Option Pr → Nat
  | none => 100000 | some p => p.1.toNat * 8 + p.2.toNat
def measP (n:Nat) (ps:PM):Nat:=((List.range n).map fun (m:Nat) => valP (mfind eqI ps (m:Int))).sum
theorem sum_le {f g:Nat → Nat}:∀ (l:List Nat),(∀ x,x ∈ l → g x ≤ f x) → (l.map g).sum ≤ (l.map f).sum
  | [],_ => Nat.le_refl _
  | x :: l,h => by
    have:=sum_le l (fun y hy => h y (by simp [hy]))
    have:=h x (by simp)
    simp only [List.map_cons,List.sum_cons]
    omega
theorem sum_lt {f g:Nat → Nat} {m:Nat}:∀ (l:List Nat),(∀ x,x ∈ l → g x ≤ f x) → m ∈ l → g m < f m → (l.map g).sum < (l.map f).sum
  | x :: l,h,hm,hlt => by
    simp only [List.map_cons,List.sum_cons]
    have h1:=sum_le l (fun y hy => h y (by simp [hy]))
    have h2:=h x (by simp)
    rcases List.mem_cons.1 hm with rfl | hm
    · omega
    · have:=sum_lt l (fun y hy => h y (by simp [hy])) hm hlt
      omega
theorem PrI.less {s:Sch} (hs:OkS s) {ps:PM} (h:PrI s ps) {i:Nat} {r:Rl} {q:Pr} (hr:s.2.2[i]? = some r) (hq:mfind eqI ps r.2.1 = some q)
    (hnew:∀ p,mfind eqI ps r.1 = some p → lessP (withP q r.2.2.2.2) p = true):measP s.1.toNat (mset eqI ps r.1 (withP q r.2.2.2.2)) < measP s.1.toNat ps:=by
  have hrn:=right_nums (hs.right r (List.mem_of_getElem? hr))
  have hb:=(h.sound _ _ hq).bound hs
  have h8:=hs.n8
  have key:valP (some (withP q r.2.2.2.2)) < valP (mfind eqI ps r.1):=by
    cases hp:mfind eqI ps r.1 with
    | none => simp only [valP,withP]; omega
    | some p =>
      have hl:=hnew p hp
      have hbp:=(h.sound _ _ hp).bound hs
      have hb2:=((PrI.put hs h hr hq hnew).sound r.1 (withP q r.2.2.2.2) (by rw [mfind_set,if_pos rfl])).bound hs
      rw [lessP_iff] at hl
      simp only [valP]
      omega
  refine sum_lt (m:=r.1.toNat) _ (fun x hx => ?_) (List.mem_range.2 (by omega)) ?_
  · rw [mfind_set]
    split
    · rename_i e
      rw [e]
      exact Nat.le_of_lt key
    · exact Nat.le_refl _
  · rw [mfind_set,if_pos (by omega),show ((r.1.toNat:Nat):Int) = r.1 by omega]
    exact key
theorem mset_keysV {V:Type} (k:Int) (v:V):∀ (m:List (Int × V)),(mset eqI m k v).map (·.1) = if k ∈ m.map (·.1) then m.map (·.1) else m.map (·.1) ++ [k]
  | [] => rfl
  | p :: m => by
    have ih:=mset_keysV k v m
    simp only [mset]
    by_cases h:k = p.1
    · have:eqI k p.1 = true:=by simp only [eqI,h,decide_true]
      rw [this,cond_true,if_pos (by simp [h])]
      simp [h]
    · have:eqI k p.1 = false:=by simp only [eqI,h,decide_false]
      rw [this,cond_false]
      simp only [List.map_cons,ih,List.mem_cons,h,false_or]
      split <;> rfl
theorem mset_onceV {V:Type} {k:Int} {v:V} {m:List (Int × V)} (h:(m.map (·.1)).Nodup):((mset eqI m k v).map (·.1)).Nodup:=by
  rw [mset_keysV]
  split
  · exact h
  · rename_i hk
    rw [List.nodup_append]
    exact ⟨h,by simp,fun a ha b hb => by simp at hb; subst hb; exact fun e => hk (e ▸ ha)⟩
theorem find_of_key {V:Type}:∀ {m:List (Int × V)} {k:Int},k ∈ m.map (·.1) → ∃ v,mfind eqI m k = some v
  | p :: m,k,h => by
    simp only [mfind]
    by_cases e:k = p.1
    · have:eqI k p.1 = true:=by simp only [eqI,e,decide_true]
      exact ⟨p.2,by rw [this,cond_true]⟩
    · have e':eqI k p.1 = false:=by simp only [eqI,e,decide_false]
      rw [e',cond_false]
      simp only [List.map_cons,List.mem_cons] at h
      exact find_of_key (h.resolve_left e)
theorem keys_few {V:Type} {m:List (Int × V)} {n:Nat} (hd:(m.map (·.1)).Nodup) (h:∀ k v,mfind eqI m k = some v → 0 ≤ k ∧ k < (n:Int)):m.length ≤ n:=by
  have:=List.Nodup.length_le_of_subset hd (l₂:=(List.range n).map fun (x:Nat) => (x:Int)) (fun x hx => by
    obtain ⟨v,hv⟩:=find_of_key hx
    have:=h x v hv
    exact List.mem_map.2 ⟨x.toNat,List.mem_range.2 (by omega),by omega⟩)
  simpa using this
structure PrL (s:Sch) (p0:PM) (ch:Bool) (ps:PM) (P:Int → Prop):Prop where
  ok:PrI s ps
  once:(ps.map (·.1)).Nodup
  fall:measP s.1.toNat ps + (if ch = true then 1 else 0) ≤ measP s.1.toNat p0
  shut:ch = false → ∀ i,P i → ∀ r,s.2.2[i.toNat]? = some r → shutP ps r
theorem PrL.weak {s:Sch} {p0 ps:PM} {ch:Bool} {P P':Int → Prop} (h:PrL s p0 ch ps P) (hp:∀ i,P' i → P i):PrL s p0 ch ps P' :=
  ⟨h.ok,h.once,h.fall,fun e i hi => h.shut e i (hp i hi)⟩
theorem PrL.same {s:Sch} {p0 ps:PM} {ch:Bool} {P:Int → Prop} {i:Int} {r:Rl} (h:PrL s p0 ch ps P) (hr:s.2.2[i.toNat]? = some r) (hs:shutP ps r):PrL s p0 ch ps (fun j => P j ∨ j = i) :=
  ⟨h.ok,h.once,h.fall,fun e j hj q hq => by
    rcases hj with hj | rfl
    · exact h.shut e j hj q hq
    · rw [hr] at hq
      injection hq with hq
      subst hq
      exact hs⟩
theorem PrL.put {s:Sch} (hs:OkS s) {p0 ps:PM} {ch:Bool} {P P':Int → Prop} {i:Nat} {r:Rl} {q:Pr} (h:PrL s p0 ch ps P) (hr:s.2.2[i]? = some r) (hq:mfind eqI ps r.2.1 = some q)
    (hnew:∀ p,mfind eqI ps r.1 = some p → lessP (withP q r.2.2.2.2) p = true):PrL s p0 true (mset eqI ps r.1 (withP q r.2.2.2.2)) P':=by
  refine ⟨h.ok.put hs hr hq hnew,mset_onceV h.once,?_,fun e => by cases e⟩
  have:=h.ok.less hs hr hq hnew
  have:=h.fall
  rw [if_pos rfl]
  split at this <;> omega
theorem PrI.few {s:Sch} (hs:OkS s) {ps:PM} (h:PrI s ps) (ho:(ps.map (·.1)).Nodup):ps.length ≤ 8:=by
  have h8:=hs.n8
  have:=keys_few (n:=s.1.toNat) ho (fun k v hv => by have:=(h.sound k v hv).bound hs; omega)
  omega
structure PrZ (s:Sch) (k:Nat) (ps:PM):Prop where
  find:∀ m:Int,mfind eqI ps m = if 0 ≤ m ∧ m < (k:Int) ∧ accB s.2.1 m = true then some (0,0) else none
  once:(ps.map (·.1)).Nodup
theorem PrZ.few {s:Sch} {k:Nat} {ps:PM} (h:PrZ s k ps):ps.length ≤ k :=
  keys_few h.once fun m v hv => by
    rw [h.find] at hv
    split at hv
    · rename_i h'; exact ⟨h'.1,h'.2.1⟩
    · cases hv
theorem PrZ.next {s:Sch} {k:Nat} {ps:PM} (h:PrZ s k ps) (ha:accB s.2.1 (k:Int) = true):PrZ s (k + 1) (mset eqI ps (k:Int) (0,0)):=by
  refine ⟨fun m => ?_,mset_onceV h.once⟩
  rw [mfind_set]
  split
  · rename_i e
    subst e
    rw [if_pos ⟨Int.natCast_nonneg _,by omega,ha⟩]
  · rename_i e
    rw [h.find]
    by_cases hm:0 ≤ m ∧ m < (k:Int) ∧ accB s.2.1 m = true
    · rw [if_pos hm,if_pos ⟨hm.1,by omega,hm.2.2⟩]
    · rw [if_neg hm,if_neg (fun h' => hm ⟨h'.1,by omega,h'.2.2⟩)]
theorem PrZ.skip {s:Sch} {k:Nat} {ps:PM} (h:PrZ s k ps) (ha:accB s.2.1 (k:Int) = false):PrZ s (k + 1) ps:=by
  refine ⟨fun m => ?_,h.once⟩
  rw [h.find]
  by_cases hm:0 ≤ m ∧ m < (k:Int) ∧ accB s.2.1 m = true
  · rw [if_pos hm,if_pos ⟨hm.1,by omega,hm.2.2⟩]
  · rw [if_neg hm,if_neg (fun h' => by
      rcases Int.lt_or_le m k with h1 | h1
      · exact hm ⟨h'.1,h1,h'.2.2⟩
      · have:m = (k:Int):=by omega
        rw [this,ha] at h'
        simp at h')]
theorem PrZ.ok {s:Sch} (_hs:OkS s) {ps:PM} (h:PrZ s s.1.toNat ps):PrI s ps:=by
  refine ⟨fun m p hm => ?_,fun m h1 h2 h3 => by rw [h.find,if_pos ⟨h1,by omega,h3⟩]⟩
  have hm0:=hm
  rw [h.find] at hm
  split at hm
  · rename_i h'
    injection hm with hm
    subst hm
    refine ⟨[],⟨h'.1,by omega,h'.2.2⟩,rfl,by simp [modesL],fun x hx => ?_⟩
    simp only [modesL,List.mem_singleton] at hx
    subst hx
    rw [show ((m.toNat:Nat):Int) = m by omega]
    exact ⟨_,hm0,by rw [lessP_no]; simp⟩
  · cases hm
end Go.Proofs.Ytefpgfdemmllpaa
namespace Go.Proofs.Ytefpgfdemmllpaa
set_option maxHeartbeats 1000000
theorem leav_getL (k:Int):∀ (rs:List Rl) (i:Nat) (m:GM),gget (leavL rs i m) k = gget m k ++ nexts k rs i
  | [],_,m => by simp only [leavL,nexts,List.append_nil]
  | r :: rs,i,m => by
    simp only [leavL]
    rw [leav_getL k rs (i + 1) _,gget_set]
    have e:nexts k (r :: rs) i = if r.1 = k then (i:Int) :: nexts k rs (i + 1) else nexts k rs (i + 1):=rfl
    rw [e]
    by_cases h:r.1 = k
    · rw [if_pos h.symm,if_pos h,h,List.append_assoc]; rfl
    · rw [if_neg (fun e => h e.symm),if_neg h]
theorem leav_get (rs:List Rl) (k:Int):gget (leavE rs) k = nexts k rs 0:=by
  unfold leavE
  rw [leav_getL]
  rfl
theorem mset_keys (k:Int) (v:List Int):∀ (m:GM),(mset eqI m k v).map (·.1) = if k ∈ m.map (·.1) then m.map (·.1) else m.map (·.1) ++ [k]
  | [] => rfl
  | p :: m => by
    have ih:=mset_keys k v m
    simp only [mset]
    by_cases h:k = p.1
    · have:eqI k p.1 = true:=by simp only [eqI,h,decide_true]
      rw [this,cond_true,if_pos (by simp [h])]
      simp [h]
    · have:eqI k p.1 = false:=by simp only [eqI,h,decide_false]
      rw [this,cond_false]
      simp only [List.map_cons,ih,List.mem_cons,h,false_or]
      split <;> rfl
theorem mset_once {k:Int} {v:List Int} {m:GM} (h:(m.map (·.1)).Nodup):((mset eqI m k v).map (·.1)).Nodup:=by
  rw [mset_keys]
  split
  · exact h
  · rename_i hk
    rw [List.nodup_append]
    exact ⟨h,by simp,fun a ha b hb => by simp at hb; subst hb; exact fun e => hk (e ▸ ha)⟩
theorem leav_once:∀ (rs:List Rl) (i:Nat) (m:GM),(m.map (·.1)).Nodup → ((leavL rs i m).map (·.1)).Nodup
  | [],_,_,h => h
  | _ :: rs,i,m,h => leav_once rs (i + 1) _ (mset_once h)
theorem find_mem:∀ {m:GM} {x:Int × List Int},(m.map (·.1)).Nodup → x ∈ m → mfind eqI m x.1 = some x.2
  | p :: m,x,h,hx => by
    simp only [List.map_cons,List.nodup_cons] at h
    simp only [mfind]
    rcases List.mem_cons.1 hx with rfl | hx
    · have:eqI x.1 x.1 = true:=by simp only [eqI,decide_true]
      rw [this,cond_true]
    · have hne:x.1 ≠ p.1:=fun e => h.1 (by rw [← e]; exact List.mem_map_of_mem hx)
      have:eqI x.1 p.1 = false:=by simp only [eqI,hne,decide_false]
      rw [this,cond_false]
      exact find_mem h.2 hx
theorem mem_find:∀ {m:GM} {k:Int} {v:List Int},mfind eqI m k = some v → (k,v) ∈ m
  | p :: m,k,v,h => by
    simp only [mfind] at h
    by_cases e:k = p.1
    · have:eqI k p.1 = true:=by simp only [eqI,e,decide_true]
      rw [this,cond_true] at h
      injection h with h
      subst h; subst e
      simp
    · have:eqI k p.1 = false:=by simp only [eqI,e,decide_false]
      rw [this,cond_false] at h
      exact List.mem_cons_of_mem _ (mem_find h)
theorem leav_entry {rs:List Rl} {x:Int × List Int} (h:x ∈ leavE rs):x.2 = nexts x.1 rs 0:=by
  have hf:=find_mem (leav_once rs 0 [] (by simp)) h
  rw [← leav_get]
  unfold gget
  rw [show leavE rs = leavL rs 0 [] from rfl,hf]; rfl
theorem leav_rule {rs:List Rl} {x:Int × List Int} {j:Int} (h:x ∈ leavE rs) (hj:j ∈ x.2):∃ (i:Nat) (r:Rl),j = (i:Int) ∧ rs[i]? = some r ∧ r.1 = x.1:=by
  rw [leav_entry h] at hj
  obtain ⟨i,r,h1,h2,h3⟩:=nexts_mem.1 hj
  exact ⟨i,r,by rw [h3,Nat.zero_add],h1,h2⟩
theorem leav_all {rs:List Rl} {i:Nat} {r:Rl} (h:rs[i]? = some r):∃ (p:Nat) (x:Int × List Int),(leavE rs)[p]? = some x ∧ x.1 = r.1 ∧ (i:Int) ∈ x.2:=by
  have hm:(i:Int) ∈ gget (leavE rs) r.1:=by
    rw [leav_get]
    exact nexts_mem.2 ⟨i,r,h,rfl,by rw [Nat.zero_add]⟩
  unfold gget at hm
  cases hf:mfind eqI (leavE rs) r.1 with
  | none => rw [hf] at hm; cases hm
  | some v =>
    rw [hf] at hm
    obtain ⟨p,hp⟩:=List.getElem?_of_mem (mem_find hf)
    exact ⟨p,_,hp,rfl,hm⟩
theorem leav_lens (rs:List Rl):(leavE rs).length ≤ rs.length ∧ ∀ x,x ∈ leavE rs → x.2.length ≤ rs.length:=by
  refine ⟨by have:=leavL_len rs 0 []; simpa [leavE] using this,fun x hx => ?_⟩
  rw [leav_entry hx]
  exact nexts_len _ _ _
end Go.Proofs.Ytefpgfdemmllpaa
