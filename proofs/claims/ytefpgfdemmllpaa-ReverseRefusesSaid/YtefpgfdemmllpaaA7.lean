/-
  The trace of a region in the order of its text. Nothing here is trusted; no condition.
-/
import Derived.Test.YtefpgfdemmllpaaA6
set_option linter.unusedSimpArgs false
set_option linter.unusedVariables false
namespace Go.Proofs.Ytefpgfdemmllpaa

def Out.lv (k:Out → Prop):Out → Prop
  | .need _ o => o.lv k
  | .exi _ _ f => ∀ x,(f x).lv k
  | .call _ _ _ g => ∀ r,(g r).lv k
  | .fail _ => True
  | .hcall _ _ _ _ _ _ _ => False
  | .ncall _ _ _ _ => False | .hncall _ _ _ _ _ _ _ => False | .upd _ _ _ => False | .sstore _ _ _ => False | .imp _ _ => False | .both _ _ => False | .allx _ _ _ => False | .alln _ _ => False
  | .val v => k (.val v) | .new v b => k (.new v b) | .store i b => k (.store i b) | .append i j b => k (.append i j b) | .hret i p b => k (.hret i p b) | .sealed ks v => k (.sealed ks v)
theorem Out.lv_pl {k:Out → Prop}:∀ {o:Out},o.lv k → o.pl:=by
  intro o
  induction o with
  | need p o ih => intro h; exact ih h
  | exi T p f ih => intro h x; exact ih x (h x)
  | call f xs T g ih => intro h r; exact ih r (h r)
  | hcall f args bl ids fl used d => intro h; exact h.elim
  | upd i b v => intro h; exact h
  | sstore ks i b => intro h; exact h
  | ncall f xs T g ih => intro h; exact h
  | hncall f args bl ids fl used d => intro h; exact h.elim
  | imp p o => intro h; exact h
  | both a b => intro h; exact h
  | allx T p f => intro h; exact h
  | alln p f => intro h; exact h
  | _ => intro h; trivial
theorem Out.lv_comes {E:Env} {k:Out → Prop}:∀ {o l:Out},o.lv k → Comes1 E o l → k l:=by
  intro o
  induction o with
  | need p o ih => intro l h hc; exact ih h hc.2
  | exi T p f ih => intro l h ⟨x,_,hc⟩; exact ih x (h x) hc
  | call f xs T g ih => intro l h ⟨r,_,_,hc⟩; exact ih r (h r) hc
  | fail m => intro l _ hc; exact hc.elim
  | hcall f args bl ids fl used d => intro l h; exact h.elim
  | upd i b v => intro l h; exact h.elim
  | sstore ks i b => intro l h; exact h.elim
  | ncall f xs T g ih => intro l h; exact h.elim
  | hncall f args bl ids fl used d => intro l h; exact h.elim
  | imp p o => intro l h; exact h.elim
  | both a b => intro l h; exact h.elim
  | allx T p f => intro l h; exact h.elim
  | alln p f => intro l h; exact h.elim
  | _ => intro l h hc; rw [hc]; exact h
def isVal:Out → Prop
  | .val _ => True | _ => False
def isNew:Out → Prop
  | .val _ => True | .new _ _ => True | _ => False
def isStore:Out → Prop
  | .store _ _ => True | _ => False

theorem minMax_vals {mx:Bool} {k:IntKind}:∀ {ps:List PV} {x:Int},(minMax mx k x ps).lv isVal
  | [],x => trivial
  | p :: r,x => by
    cases p with
    | iv T y =>
      cases T with
      | int l => simp only [minMax]; split <;> first | exact minMax_vals | trivial
      | _ => trivial
    | _ => trivial

theorem callO_vals {E:Env} {F:Reg} (he:F.e = false) {s:St} {d:Option Nat} {f:Nat} {ps:List PV}:(callO E F s d f ps).lv isVal:=by
  unfold callO
  simp only [he]
  repeat' split
  all_goals first
    | trivial
    | (intro r; trivial)
    | (rename_i h; cases h; done)
    | simp_all

theorem slots_vals {E:Env} {F:Reg} {s:St} {o:Oper} {rs:List Operand} (ho:slotReads o = some rs):(stepF E F s o).lv isVal:=by
  obtain ⟨dst,op,ty,pos,af,g⟩:=o
  unfold slotReads at ho
  unfold stepF
  cases op <;> simp only [reduceCtorEq] at ho
  case move x => trivial
  case nilCheck x => dsimp only; split <;> trivial
  case assign x => trivial
  case pick c a b => dsimp only; repeat' split
                     all_goals first | trivial | (unfold pickO; split <;> trivial)
  case build u parts => simp only [buildO]; repeat' split
                        all_goals trivial
  case binOp op u x y v =>
    have hn:∀ a b,nilCmp E F op u a b = none:=by
      intro a b
      cases op <;> first | rfl | (simp only [reduceCtorEq] at ho; done)
    simp only [hn,binO]
    repeat' split
    all_goals first
      | trivial
      | (simp only [shiftInt,binInt,binStr,arith,boolV]; repeat' split
         all_goals trivial)
      | (simp only [binEq,boolV]; repeat' split
         all_goals trivial)
  case unOp u v x => dsimp only; repeat' split
                     all_goals first | trivial | (simp only [arith]; trivial)
  case fieldAddr u x f => dsimp only; repeat' split
                          all_goals trivial
  case field u x f => dsimp only; repeat' split
                      all_goals trivial
  case index u x i => dsimp only; repeat' split
                      all_goals first | trivial | (intro x; trivial)
  case extract x i => dsimp only; repeat' split
                      all_goals trivial
  case call c =>
    obtain ⟨callee,args,ats⟩:=c
    cases callee with
    | builtin b =>
      cases b <;> simp only [reduceCtorEq] at ho
      all_goals
        dsimp only
        repeat' split
        all_goals first | trivial | exact minMax_vals
    | _ => simp at ho

def makes (o:Oper):Bool:=match o.op with
  | .alloc _ => true | .box _ _ => true | .buildSlice _ _ _ => true | .makeSlice _ _ _ => true | _ => false
def freeReads' (o:Oper):Option (List Operand):=match o.op with
  | .makeSlice _ n c => some [n,c]
  | _ => freeReads o

theorem free_news {E:Env} {F:Reg} (he:F.e = false) {s:St} {o:Oper} {rs:List Operand} (ho:freeReads' o = some rs):(stepF E F s o).lv (fun l => isNew l ∧ (makes o = false → isVal l) ∧ (∀ v b,l = .new v b → o.dst.isSome = true)):=by
  have up:∀ (o':Out),o'.lv isVal → o'.lv (fun l => isNew l ∧ (makes o = false → isVal l) ∧ (∀ v b,l = .new v b → o.dst.isSome = true)):=by
    intro o'
    induction o' with
    | need p o ih => exact ih
    | exi T p f ih => exact fun h x => ih x (h x)
    | call f xs T g ih => exact fun h r => ih r (h r)
    | fail m => exact fun _ => trivial
    | val v => exact fun _ => ⟨trivial,fun _ => trivial,fun v b h => by cases h⟩
    | _ => exact fun h => h.elim
  cases hs:slotReads o with
  | some rs' => exact up _ (slots_vals hs)
  | none =>
    obtain ⟨dst,op,ty,pos,af,g⟩:=o
    unfold freeReads' freeReads at ho
    unfold slotReads at hs
    cases op <;> simp only [Option.some.injEq,reduceCtorEq] at ho hs
    case binOp op u x y v =>
      refine up _ ?_
      unfold stepF
      simp only [nilCmp_off he,binO]
      repeat' split
      all_goals first
        | trivial
        | (simp only [shiftInt,binInt,binStr,arith,boolV]; repeat' split
           all_goals trivial)
        | (simp only [binEq,boolV]; repeat' split
           all_goals trivial)
    case load u x =>
      refine up _ ?_
      unfold stepF
      simp only [loadO]
      repeat' split
      all_goals first | trivial | (intro x; trivial)
    case convert u v x =>
      refine up _ ?_
      unfold stepF
      simp only [convO]
      repeat' split
      all_goals trivial
    case slice u x lo hi mx =>
      refine up _ ?_
      unfold stepF
      dsimp only
      split
      · split
        · simp only [sliceO]
          repeat' split
          all_goals trivial
        · split
          · simp only [slice3O]
            repeat' split
            all_goals trivial
          · trivial
      · trivial
    case indexAddr u x i =>
      refine up _ ?_
      unfold stepF
      dsimp only
      split
      · simp only [indexO]
        repeat' split
        all_goals first | trivial | (intro x; trivial)
      · trivial
    case lookup u x y ok =>
      refine up _ ?_
      unfold stepF
      simp only [lookupO,he]
      repeat' split
      all_goals first | trivial | (intro x; trivial) | (rename_i h; cases h; done) | simp_all
    case alloc u =>
      unfold stepF
      dsimp only
      split
      · split
        · refine ⟨trivial,fun h => (by simp [makes] at h),fun v b h => ?_⟩
          rename_i hd _ _ _
          simp_all
        · trivial
      · trivial
    case box u x =>
      unfold stepF
      dsimp only
      split
      · split
        · refine ⟨trivial,fun h => (by simp [makes] at h),fun v b h => ?_⟩
          simp_all
        · trivial
      · trivial
    case buildSlice u n parts =>
      unfold stepF
      dsimp only
      split
      · split
        · split
          · exact ⟨trivial,fun _ => trivial,fun v b h => by cases h⟩
          · refine ⟨trivial,fun h => (by simp [makes] at h),fun v b h => ?_⟩
            simp_all
        · trivial
      · trivial
    case makeSlice u n c =>
      unfold stepF
      dsimp only
      split
      · split
        · refine ⟨trivial,fun h => (by simp [makes] at h),fun v b h => ?_⟩
          simp_all
        · trivial
      · trivial
    case call c =>
      obtain ⟨callee,args,ats⟩:=c
      refine up _ ?_
      unfold stepF
      dsimp only
      cases callee with
      | value g =>
        dsimp only
        split
        · exact callO_vals he
        · exact callO_vals he
        · exact callO_vals he
        · exact callO_vals he
        · trivial
      | builtin b =>
        cases b <;> simp only [Option.some.injEq,reduceCtorEq] at ho hs
        case len =>
          dsimp only
          split
          · simp only [lenO]
            repeat' split
            all_goals trivial
          · trivial
        case cap =>
          dsimp only
          repeat' split
          all_goals trivial
      | invoke r m => simp at ho

theorem sealS_off {F:Reg} (he:F.e = false) (p q:PV):sealS F p q = []:=by
  unfold sealS
  cases p <;> simp [he]
theorem store_stores {E:Env} {F:Reg} (he:F.e = false) {s:St} {o:Oper} {t:Nat} {x y:Operand} (ho:o.op = .store t x y):(stepF E F s o).lv isStore:=by
  unfold stepF
  simp only [ho,sealS_off he]
  split
  · simp only [storeO]
    repeat' split
    all_goals first | trivial | (intro x; trivial)
  · trivial

theorem store_ids {E:Env} {F:Reg} (he:F.e = false) {s:St} {o:Oper} {t:Nat} {x y:Operand} (ho:o.op = .store t x y):(stepF E F s o).lv (fun l => ∀ i b,l = .store i b → stOK F.h i = true ∧ mem1 i F.h = false):=by
  unfold stepF
  simp only [ho,sealS_off he]
  split
  · simp only [storeO]
    repeat' split
    all_goals first | trivial | (rename_i hl _ _ _; intro i b h; injection h with h1 h2; subst h1; exact ⟨(lkS_some hl).2.2,(lkS_some hl).2.1⟩) | (intro i b h; injection h with h1 h2; subst h1; exact ⟨(lkS_some (by assumption)).2.2,(lkS_some (by assumption)).2.1⟩)
  · trivial
theorem lkS_congr {F:Reg} {b1 b2:List (Nat × Blk)} (h:∀ id,lk F b1 id = lk F b2 id) (id:Nat):lkS F b1 id = lkS F b2 id:=by
  unfold lkS; rw [h]
theorem stepF_congr' {E:Env} (hE:EnvOK E) {F:Reg} (he:F.e = false) {s t:St} {o:Oper} {rs:List Operand} (ho:freeReads' o = some rs)
    (hs:∀ x,x ∈ rs → s.ev x = t.ev x) (hb:∀ id,lk F s.bl id = lk F t.bl id) (hd:∀ d,o.dst = some d → look d s.bl = look d t.bl):stepF E F s o = stepF E F t o:=by
  by_cases hm:∃ u n c,o.op = .makeSlice u n c
  · obtain ⟨u,n,c,hop⟩:=hm
    unfold freeReads' at ho
    simp only [hop,Option.some.injEq] at ho
    subst ho
    unfold stepF
    simp only [hop,hs n (by simp),hs c (by simp)]
    cases hdst:o.dst with
    | none => split <;> first | rfl | (rename_i h _ _; cases h)
    | some d =>
      have e:=hd d hdst
      split
      · rename_i h1 h2 h3 h4
        injection h2 with h2
        subst h2
        rw [e]
      · rfl
  · have:freeReads o = some rs:=by
      unfold freeReads' at ho
      split at ho
      · rename_i u n c hop; exact absurd ⟨_,_,_,hop⟩ hm
      · exact ho
    exact stepF_congr hE he this hs hb hd
theorem stepF_store {E:Env} (hE:EnvOK E) {F:Reg} (he:F.e = false) {s t:St} {o:Oper} {u:Nat} {x y:Operand} (ho:o.op = .store u x y) (hx:s.ev x = t.ev x) (hy:s.ev y = t.ev y) (hb:∀ id,lk F s.bl id = lk F t.bl id):stepF E F s o = stepF E F t o:=by
  unfold stepF
  simp only [ho,hx,hy,sealS_off he]
  split
  · unfold storeO
    cases ht:E.ty u with
    | none => rfl
    | some T =>
      have how:=(hE.facts ht).own
      cases hc:(t.ev y).cells with
      | none => rfl
      | some vs =>
        cases hl:lenEq vs T.cells with
        | false => dsimp only; rw [hl]
        | true =>
          dsimp only
          rw [hl]
          dsimp only
          cases t.ev x with
          | ref id off => simp only [lkS_congr hb]
          | aptr id base U m i => simp only [lkS_congr hb]
          | lptr id sz i off =>
            simp only [lkS_congr hb]
            cases lkS F t.bl id with
            | none => rfl
            | some b =>
              cases b with
              | arr U xs =>
                dsimp only
                cases hq:T.eq U && Nat.beq sz U.cells with
                | false => rfl
                | true =>
                  simp only [Bool.and_eq_true] at hq
                  have hTU:=Ty.eq_spec hq.1
                  subst hTU
                  cases off with
                  | zero => rw [exp_congr hb T _ how]
                  | succ k => rfl
              | _ => rfl
          | _ => rfl
  · rfl
end Go.Proofs.Ytefpgfdemmllpaa
namespace Go.Proofs.Ytefpgfdemmllpaa
variable {E:Env} {w0:World} {S0:Cx}

def Step1 (E:Env) (all:List Oper) (F:Reg) (s:St) (o:Oper) (r:Res):Prop:=match o.guard with
  | none => ∃ l,r = .done l ∧ Comes1 E (stepF E F s o) l
  | some (j,want) => ∃ d,guardDst all j = some d ∧ ((s.get d = .iv .bool want ∧ ∃ l,r = .done l ∧ Comes1 E (stepF E F s o) l) ∨ ((s.get d = .iv .bool (!want) ∨ s.get d = .tup []) ∧ r = .skip))
def Trace (E:Env) (all:List Oper) (N:List Nat) (K:St → Prop):List (List Nat) → List Oper → St → List (Option Nat × Res) → Prop
  | _,[],s,rs => rs = [] ∧ K s
  | acc,o :: os,s,rs => ∃ r rs' s',rs = (o.dst,r) :: rs' ∧ Step1 E all (forb all N acc o) s o r ∧ Same s' (s.app o.dst r) ∧ Trace E all N K (step1 N acc o) os s' rs'

theorem put_same {s t:St} (h:Same s t) (d:Option Nat) (v:PV):Same (s.put d v) (t.put d v):=by
  cases d with
  | none => exact h
  | some e => exact ⟨fun i => by simp only [St.put,St.set,St.get,look]; cases Nat.beq i e with
      | true => rfl
      | false => exact h.get i,h.blk⟩
theorem set_same {s:St} {d:Nat} {b want:Bool} (hb:s.get d = .iv .bool b) (e:b = want):Same (s.set d (.iv .bool want)) s:=⟨fun i => get_same hb e i,fun _ => rfl⟩

def drawn (o:Oper):Bool:=(freeReads' o).isSome || (match o.op,o.dst with | .store _ _ _,none => true | _,_ => false)
theorem drawn_pl {E:Env} {F:Reg} (he:F.e = false) {o:Oper} (ho:drawn o = true) {u:St}:(stepF E F u o).pl:=by
  cases hr:freeReads' o with
  | some rs => exact Out.lv_pl (free_news he hr)
  | none =>
    unfold drawn at ho
    rw [hr] at ho
    simp only [Option.isSome_none,Bool.false_or] at ho
    split at ho
    · rename_i t x y hop hd
      exact Out.lv_pl (store_stores he (E:=E) (F:=F) (s:=u) hop)
    · cases ho
theorem drawn_fine {F:Reg} (he:F.e = false) {o:Oper} (ho:drawn o = true) {u:St} {l:Out} (h:Comes1 E (stepF E F u o) l):(Res.done l).fine o.dst = true ∧ (makes o = false → (∀ t x y,o.op ≠ .store t x y) → (Res.done l).blk o.dst = none) ∧
    (∀ x,(Res.done l).blk o.dst = some x → (makes o = true ∧ o.dst = some x.1) ∨ ((∃ t y z,o.op = .store t y z) ∧ (stOK F.h x.1 = true ∧ mem1 x.1 F.h = false))):=by
  cases hr:freeReads' o with
  | some rs =>
    obtain ⟨h1,h2,h3⟩:=Out.lv_comes (free_news he hr) h
    cases l with
    | val v => exact ⟨rfl,fun _ _ => rfl,fun x hx => by cases hx⟩
    | new v b =>
      have hd:=h3 v b rfl
      refine ⟨hd,fun hm => (h2 hm).elim,fun x hx => .inl ?_⟩
      cases hdd:o.dst with
      | none => rw [hdd] at hd; cases hd
      | some d =>
        rw [hdd] at hx
        simp only [Res.blk,Option.map_some,Option.some.injEq] at hx
        refine ⟨?_,by rw [← hx]⟩
        cases hm:makes o with
        | true => rfl
        | false => exact (h2 hm).elim
    | _ => exact h1.elim
  | none =>
    unfold drawn at ho
    rw [hr] at ho
    simp only [Option.isSome_none,Bool.false_or] at ho
    split at ho
    · rename_i t x y hop hd
      have h1:=Out.lv_comes (store_stores he (E:=E) (F:=F) (s:=u) hop) h
      have h2:=Out.lv_comes (store_ids he (E:=E) (F:=F) (s:=u) hop) h
      cases l with
      | store i b => exact ⟨rfl,fun _ h => absurd hop (h t x y),fun z hz => .inr ⟨⟨t,x,y,hop⟩,by
          simp only [Res.blk,Option.some.injEq] at hz
          rw [← hz]
          exact h2 i b rfl⟩⟩
      | _ => exact h1.elim
    · cases ho
theorem slots_blk {F:Reg} {o:Oper} {rs:List Operand} (ho:slotReads o = some rs) {u:St} {l:Out} (h:Comes1 E (stepF E F u o) l):(Res.done l).blk o.dst = none:=by
  have h1:=Out.lv_comes (slots_vals ho) h
  cases l with
  | val v => rfl
  | _ => exact h1.elim
theorem forb_e {all:List Oper} {x:Nat} {N:List Nat} {acc:List (List Nat)} {o:Oper}:(forb all (x :: N) acc o).e = false:=rfl

theorem drawn_same (hE:EnvOK E) {F:Reg} (he:F.e = false) {o:Oper} (ho:drawn o = true) {u v:St} (h:Same u v):stepF E F u o = stepF E F v o:=by
  cases hr:freeReads' o with
  | some rs => exact stepF_congr' hE he hr (fun x _ => h.ev x) (fun id => h.lk F id) (fun d _ => h.blk d)
  | none =>
    unfold drawn at ho
    rw [hr] at ho
    simp only [Option.isSome_none,Bool.false_or] at ho
    split at ho
    · rename_i t x y hop hd
      exact stepF_store hE he hop (h.ev x) (h.ev y) (fun id => h.lk F id)
    · cases ho

theorem canPan_draw {E:Env} {G:Goal} {x:Nat} {N:List Nat} {s:St} {o:Oper}:canPan E G (x :: N) s o = false:=by
  unfold canPan
  cases G.pan <;> rfl
theorem runs_trace (hE:EnvOK E) {G:Goal} {n:Nat} {all:List Oper} {x:Nat} {N:List Nat} {K:St → Prop}:∀ (os:List Oper) (acc:List (List Nat)) (s:St) (a:Act) (w:World),os.all (opOK n) = true → os.all drawn = true →
    runs E G all (x :: N) acc os s K → Rel n w0 S0 s a w → ∃ rs,Trace E all (x :: N) K acc os s rs:=by
  intro os
  induction os with
  | nil => intro acc s a w _ _ h _; exact ⟨[],rfl,h⟩
  | cons o os ih =>
    intro acc s a w hos hdr h hr
    simp only [List.all_cons,Bool.and_eq_true] at hos hdr
    unfold runs at h
    have ih':=fun acc s a w => ih acc s a w hos.2 hdr.2
    split at h
    · rename_i hg
      have h:=h.resolve_right (fun h => by rw [canPan_draw] at h; cases h.1)
      refine outcome_of (K:=fun s' => runs E G all (x :: N) (step1 (x :: N) acc o) os s' K) hE hr hos.1 (drawn_pl forb_e hdr.1) h fun l a' w' hc hk hr' => ?_
      obtain ⟨rs,hrs⟩:=ih' _ _ _ _ hk hr'
      exact ⟨(o.dst,.done l) :: rs,.done l,rs,_,rfl,by unfold Step1; simp only [hg]; exact ⟨l,rfl,hc⟩,Same.refl _,hrs⟩
    · rename_i j want hg
      split at h
      · rename_i d hd
        split at h
        · rename_i b hb
          by_cases hbw:b = want
          · have hs:=set_same hb hbw
            refine outcome_of (K:=fun s' => runs E G all (x :: N) (step1 (x :: N) acc o) os s' K) hE (Rel.same hs.symm hr) hos.1 (drawn_pl forb_e hdr.1) (h.1 hbw) fun l a' w' hc hk hr' => ?_
            obtain ⟨rs,hrs⟩:=ih' _ _ _ _ hk hr'
            have hc':=hc
            rw [drawn_same hE forb_e hdr.1 hs] at hc'
            refine ⟨(o.dst,.done l) :: rs,.done l,rs,_,rfl,?_,app_same (r:=.done l) hs (drawn_fine forb_e hdr.1 hc).1,hrs⟩
            unfold Step1; simp only [hg]
            exact ⟨d,hd,.inl ⟨by rw [hb,hbw],l,rfl,hc'⟩⟩
          · have hbn:b = !want:=by cases b <;> cases want <;> simp_all
            have hs:=set_same hb hbn
            obtain ⟨ν,S,hf⟩:=(Rel.same hs.symm hr).full
            obtain ⟨rs,hrs⟩:=ih' _ _ _ _ (h.2 hbn) (hf.put (opOK_dst hos.1) PRel_undef).rel
            refine ⟨(o.dst,.skip) :: rs,.skip,rs,_,rfl,?_,put_same hs _ _,hrs⟩
            unfold Step1; simp only [hg]
            exact ⟨d,hd,.inr ⟨.inl (by rw [hb,hbn]),trivial⟩⟩
        · rename_i hb
          obtain ⟨ν,S,hf⟩:=hr.full
          obtain ⟨rs,hrs⟩:=ih' _ _ _ _ h (hf.put (opOK_dst hos.1) PRel_undef).rel
          refine ⟨(o.dst,.skip) :: rs,.skip,rs,_,rfl,?_,Same.refl _,hrs⟩
          unfold Step1; simp only [hg]
          exact ⟨d,hd,.inr ⟨.inr hb,trivial⟩⟩
        · exact h.elim
      · exact h.elim

/-! ### The trace, operation by operation -/

theorem step1_fine {all:List Oper} {F:Reg} (he:F.e = false) {s:St} {o:Oper} {r:Res} (ho:drawn o = true) (h:Step1 E all F s o r):r.fine o.dst = true ∧
    (∀ x,r.blk o.dst = some x → (makes o = true ∧ o.dst = some x.1) ∨ ((∃ t y z,o.op = .store t y z) ∧ (stOK F.h x.1 = true ∧ mem1 x.1 F.h = false))) ∧ ((slotReads o).isSome = true → r.blk o.dst = none):=by
  have done:∀ l,Comes1 E (stepF E F s o) l → (Res.done l).fine o.dst = true ∧ (∀ x,(Res.done l).blk o.dst = some x → (makes o = true ∧ o.dst = some x.1) ∨ ((∃ t y z,o.op = .store t y z) ∧ (stOK F.h x.1 = true ∧ mem1 x.1 F.h = false))) ∧ ((slotReads o).isSome = true → (Res.done l).blk o.dst = none):=by
    intro l hc
    obtain ⟨h1,_,h3⟩:=drawn_fine he ho hc
    refine ⟨h1,h3,fun hs => ?_⟩
    cases hr:slotReads o with
    | none => rw [hr] at hs; cases hs
    | some rs => exact slots_blk hr hc
  unfold Step1 at h
  split at h
  · obtain ⟨l,rfl,hc⟩:=h
    exact done l hc
  · obtain ⟨d,_,⟨_,l,rfl,hc⟩ | ⟨_,rfl⟩⟩:=h
    · exact done l hc
    · exact ⟨rfl,fun x hx => (by cases hx),fun _ => rfl⟩

def accAt (N:List Nat):List (List Nat) → List Oper → Nat → List (List Nat)
  | acc,o :: os,k + 1 => accAt N (step1 N acc o) os k
  | acc,_,_ => acc
theorem stD_shift {D:Nat → Bool}:∀ {l:List (Option Nat × Res)} {i:Nat} {s:St},stD l D (i + 1) s = stD l (fun j => D (j + 1)) i s
  | [],_,_ => rfl
  | p :: r,i,s => by simp only [stD]; exact stD_shift

theorem trace_at {all:List Oper} {x:Nat} {N:List Nat} {K:St → Prop}:∀ {os:List Oper} {acc:List (List Nat)} {s:St} {rs:List (Option Nat × Res)},os.all drawn = true → Trace E all (x :: N) K acc os s rs →
    rs.length = os.length ∧ (∀ p,p ∈ rs → p.2.fine p.1 = true) ∧ (∃ s',Same s' (stD rs (fun _ => true) 0 s) ∧ K s') ∧
    ∀ (k:Nat) (o:Oper),os[k]? = some o → ∃ r sk,rs[k]? = some (o.dst,r) ∧ Same sk (stD rs (fun j => Nat.blt j k) 0 s) ∧ Step1 E all (forb all (x :: N) (accAt (x :: N) acc os k) o) sk o r
  | [],acc,s,rs,_,h => by
    obtain ⟨rfl,hK⟩:=h
    exact ⟨rfl,fun p hp => (by cases hp),⟨s,Same.refl _,hK⟩,fun k o ho => by simp at ho⟩
  | o :: os,acc,s,rs,hdr,h => by
    simp only [List.all_cons,Bool.and_eq_true] at hdr
    obtain ⟨r,rs',s',rfl,h1,h2,h3⟩:=h
    obtain ⟨e1,e2,⟨sf,e3,e4⟩,e5⟩:=trace_at hdr.2 h3
    obtain ⟨hf,_⟩:=step1_fine forb_e hdr.1 h1
    refine ⟨by simp [e1],fun p hp => ?_,⟨sf,?_,e4⟩,fun k o' ho' => ?_⟩
    · rcases List.mem_cons.1 hp with rfl | hp
      · exact hf
      · exact e2 p hp
    · refine e3.trans ?_
      simp only [stD]
      rw [stD_shift]
      exact stD_same e2 h2
    · cases k with
      | zero =>
        simp only [List.getElem?_cons_zero,Option.some.injEq] at ho'
        subst ho'
        refine ⟨r,s,rfl,?_,h1⟩
        have none:∀ (l:List (Option Nat × Res)) (i:Nat) (u:St),stD l (fun j => Nat.blt j 0) i u = u:=by
          intro l
          induction l with
          | nil => intro i u; rfl
          | cons p r ih =>
            intro i u
            simp only [stD]
            have:Nat.blt i 0 = false:=by cases hb:Nat.blt i 0 with
              | false => rfl
              | true => rw [Nat.blt_eq] at hb; omega
            rw [this]
            exact ih _ _
        rw [none]
        exact Same.refl _
      | succ k =>
        rw [List.getElem?_cons_succ] at ho'
        obtain ⟨r',sk,a1,a2,a3⟩:=e5 k o' ho'
        refine ⟨r',sk,by rw [List.getElem?_cons_succ]; exact a1,a2.trans ?_,a3⟩
        simp only [stD]
        have h0:Nat.blt 0 (k + 1) = true:=by rw [Nat.blt_eq]; omega
        rw [h0,stD_shift]
        have:∀ j,Nat.blt (j + 1) (k + 1) = Nat.blt j k:=by
          intro j
          cases hb:Nat.blt j k with
          | true => rw [Nat.blt_eq] at hb ⊢; omega
          | false =>
            cases hc:Nat.blt (j + 1) (k + 1) with
            | false => rfl
            | true => rw [Nat.blt_eq] at hc; have : Nat.blt j k = true := by rw [Nat.blt_eq]; omega
                      rw [this] at hb; cases hb
        simp only [this]
        exact stD_same e2 h2
end Go.Proofs.Ytefpgfdemmllpaa
