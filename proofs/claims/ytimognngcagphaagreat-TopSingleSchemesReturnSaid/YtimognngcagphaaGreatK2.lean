/- The fixed examples of the laws through layers, whole. Nothing here is trusted; no condition. -/
import Derived.Test.YtimognngcagphaaGreatK1
set_option linter.all false
set_option maxHeartbeats 8000000
set_option maxRecDepth 100000
namespace Go.Proofs.YtimognngcagphaaGreat
section
theorem Je {α β:Type} {R:α->β->Prop} : ∀(L:List α)(M:List β),L.Nodup->(∀a,a∈L-> ∃b,b∈M/\R a b)->(∀a a' b,a∈L->a'∈L->R a b->R a' b->a=a')->L.length<=M.length|[],_,_,_,_=>x9|a::L,M,hn,h1,h2=>by obtain⟨b,hb,iu⟩:=h1 a y8;obtain⟨M1,M2,rfl⟩:=List.append_of_mem hb;have:=Je L (M1++M2) (List.nodup_cons.1 hn).2 (λa' Yh=>by obtain⟨b',jf,bP2⟩:=h1 a' (y7 _ Yh);refine⟨b',?_,bP2⟩;(have bS:b'≠b:=λe=>by subst e;have:=h2 a a' b' y8 (y7 _ Yh) iu bP2;subst this;exact(List.nodup_cons.1 hn).1 Yh);simp only[List.mem_append,List.mem_cons]at jf⊢;rcases jf with h|h|h;(·exact .inl h);(·exact absurd h bS);·exact .inr h) (λx y z hx hy=>h2 x y z (y7 _ hx) (y7 _ hy));simp only[y9,x6]at this⊢;omega
theorem Jf {K:Type} {W:Op.Wk K} {inp inp2:ax} {k0:K} {P:Nat} (hP:P<=inp.length)(he:inp2.take P=inp.take P): ∀ {p:Nat} {k:K} {c:Int},Op.Rt W inp k0 p k c->p<=P->Op.Rt W inp2 k0 p k c:=by
 intro p k c h;induction h with|start=>exact λ_=>.start|TP _ hr hs hm cw ih=>exact λhp=>.TP (ih hp) hr hs hm cw| @take p k c r k' _ hr hs hm L9 cw ih=>intro hp;refine .take (ih v6) hr hs hm ?_ cw;rw[List.isPrefixOf_iff_prefix,List.prefix_iff_eq_take]at L9⊢;(have h1:(inp.drop p).take r.2.2.1.length=((inp.take P).drop p).take r.2.2.1.length:=by rw[List.drop_take,List.take_take,Nat.min_eq_left v6]);(have h2:(inp2.drop p).take r.2.2.1.length=((inp2.take P).drop p).take r.2.2.1.length:=by rw[List.drop_take,List.take_take,Nat.min_eq_left v6]);rw[h2,he,<-h1];exact L9
variable {s:bR}
def Zy(s:bR)(m:Int)(n:Nat):Prop:=gU s.2.1 m=true\/ ∃r,r∈s.2.2/\r.1=m/\gU s.2.1 r.2.1=true/\bP r=false/\r.2.2.1.length<=n
theorem Zz(hs:gw s)(hf:fy s=none) {inp:ax} (hl:inp.all low=true) {p n:Nat} (hp:p<=inp.length)(hn:p+n<=40) {k1 k2:fL} {c1 c2:Int} (h1:Op.Rt (iB s.2.2) inp (0,[]) p k1 c1)(h2:Op.Rt (iB s.2.2) inp (0,[]) p k2 c2)(he:k1.1=k2.1)(hE:Zy s k1.1 n):k1=k2:=by
 (have hlp:(inp.take p).all low=true:=by rw[List.all_eq_true]at hl⊢;exact λx hx=>hl x (List.mem_of_mem_take hx));(have pP:(inp.take p).length=p:=by rw[List.length_take];omega)
 rcases hE with ha|⟨r,hr,hm,ha,vN,oN⟩;(·have g1:=Jf (inp2:=inp.take p) hp (by rw[List.take_take,Nat.min_self]) h1 (x8);have g2:=Jf (inp2:=inp.take p) hp (by rw[List.take_take,Nat.min_self]) h2 (x8);have:=vR hs hf hlp v6 (by rw[pP];exact g1) (by rw[pP];exact g2) ha (he▸ha);exact Prod.ext he this)
 ·(have e:(inp.take p++r.2.2.1).take p=inp.take p:=by rw[List.take_append_of_le_length v6,List.take_take,Nat.min_self]);have g1:=Jf (inp2:=inp.take p++r.2.2.1) hp e h1 (x8);have g2:=Jf (inp2:=inp.take p++r.2.2.1) hp e h2 (x8);(have hd:r.2.2.1.isPrefixOf ((inp.take p++r.2.2.1).drop p)=true:=by rw[List.drop_append_of_le_length v6,List.drop_of_length_le v6,List.nil_append];exact List.isPrefixOf_iff_prefix.2 List.prefix_rfl);have t1:=Op.Rt.take (k':=(r.2.1,k1.2++r.2.2.2.1)) g1 hr vN hm hd rfl;have t2:=Op.Rt.take (k':=(r.2.1,k2.2++r.2.2.2.1)) g2 hr vN (hm.trans he) hd rfl;(have hlen:(inp.take p++r.2.2.1).length=p+r.2.2.1.length:=by rw[y9,pP]);(have bP3:r.2.2.1.all low=true:=by have h:=hs.right r hr;unfold cC at h;simp only[z8]at h;exact h.1.1.1.2);have:=vR hs hf (inp:=inp.take p++r.2.2.1) (by rw[List.all_append,hlp,bP3];rfl) v6 (by rw[hlen];exact t1) (by rw[hlen];exact t2) ha ha;exact Prod.ext he (List.append_cancel_right this)
theorem bP4 {K:Type} {W:Op.Wk K} {inp:ax} {k0:K} {p:Nat} {k:K} {c:Int} (h:Op.Rt W inp k0 p k c):p<=inp.length:=by
 induction h with|start=>exact x9|TP _ _ _ _ _ ih=>exact ih| @take p k c r k' _ hr hs hm L9 cw ih=>have:=(List.isPrefixOf_iff_prefix.1 L9).length_le;rw[List.length_drop]at this;omega
theorem EB(hs:gw s)(hf:fy s=none)(h9:s.2.2.length<=9)(h2:s.1<=2)(hE0:gU s.2.1 0=true)(hE1:1<s.1->Zy s 1 1)(vN: ∀r,r∈s.2.2->bP r=true->r.1=0) {inp:ax} (hl:inp.all low=true)(hn:inp.length<=40) {p:Nat} (hp:p<=inp.length):Op.QS (iB s.2.2) inp (0,[]) 2000 p:=by
 have MQ:=hs.n1;(have oa: ∀ {q:Nat} {k:fL} {c:Int},Op.Rt (iB s.2.2) inp (0,[]) q k c->k.1=0\/k.1=1/\1<s.1:=by intro q k c h;have hmm:0<=k.1/\k.1<s.1:=Eo (A:=λm=>0<=m/\m<s.1) ⟨Int.le_refl _,v6⟩ (λr hr _=>(by have:=hs.qZ r hr;obtain⟨_,_,a,b⟩:=this;exact⟨a,b⟩)) h;omega)
 (have bP5: ∀ {q:Nat} {k1 k2:fL} {c1 c2:Int},Op.Rt (iB s.2.2) inp (0,[]) q k1 c1->Op.Rt (iB s.2.2) inp (0,[]) q k2 c2->k1.1=k2.1->k1.1=0\/q<=39->k1=k2:=by intro q k1 k2 c1 c2 g1 g2 he hq;have hql:=bP4 g1;by_cases h0:k1.1=0;(·exact Zz hs hf hl hql (n:=0) v6 g1 g2 he (.inl (h0▸hE0)));·have h1:=(oa g1).resolve_left h0;exact Zz hs hf hl hql (n:=1) v6 g1 g2 he (h1.1▸hE1 h1.2))
 intro L hL hR;by_cases Z4:p<=39;(·have:=Je (R:=λ(k:fL)(m:Int)=>k.1=m) L [0,1] hL (λk hk=>by obtain⟨c,hc⟩:=hR k hk;rcases oa hc with h|h;(·exact⟨0,by simp,h⟩);·exact⟨1,by simp,h.1⟩) (λk k' m hk nD e e'=>by obtain⟨c,hc⟩:=hR k hk;obtain⟨c',jN⟩:=hR k' nD;exact bP5 hc jN (e.trans e'.symm) (.inr Z4));simp only[x6,List.length_nil]at this;omega)
 ·(have src: ∀k,(∃c,Op.Rt (iB s.2.2) inp (0,[]) p k c)-> ∃r,r∈s.2.2/\ ∃(q:Nat)(k1:fL)(c1:Int),Op.Rt (iB s.2.2) inp (0,[]) q k1 c1/\r.1=k1.1/\k=(r.2.1,k1.2++r.2.2.2.1)/\p=q+r.2.2.1.length/\(k1.1=0\/q<=39):=by rintro k⟨c,h⟩;cases h with|start=>omega| @TP _ k1 c1 r _ g hr tp hm cw=>refine⟨r,hr,p,k1,c1,g,hm,nt cw,?_,.inl (hm.symm.trans (vN r hr tp))⟩;have:r.2.2.1=[]:=of_decide_eq_true tp;rw[this];rfl| @take q k1 c1 r _ g hr tp hm L9 cw=>have:=Op.yc tp;exact⟨r,hr,q,k1,c1,g,hm,nt cw,rfl,.inr v6⟩);have:=Je (R:=λ(k:fL)(r:Rl)=> ∃(q:Nat)(k1:fL)(c1:Int),Op.Rt (iB s.2.2) inp (0,[]) q k1 c1/\r.1=k1.1/\k=(r.2.1,k1.2++r.2.2.2.1)/\p=q+r.2.2.1.length/\(k1.1=0\/q<=39)) L s.2.2 hL (λk hk=>src k (hR k hk)) (λk k' r _ _ hr kF=>by obtain⟨q,k1,c1,g,hm,e,hq,hz⟩:=hr;obtain⟨q',k1',c1',g',Hx,e',Z3,_⟩:=kF;have e3:q=q':=v6;subst e3;have:=bP5 g g' (hm.symm.trans Hx) hz;subst this;rw[e,e']);omega
theorem aS6 {rs:List Rl} {out inp:ax} {p:Nat} {k:Os} {c:Int} (h:Op.Rt (wkS rs out) inp (0,0) p k c):(0<=k.2/\k.2<=out.length)/\Op.Rt (iB rs) inp (0,[]) p (k.1,out.take k.2.toNat) c:=by
 (have key: ∀ {k k':Os} {r:Rl},Ei out k r=(k',true)->0<=k.2->pJ (k.1,out.take k.2.toNat) r=((k'.1,out.take k'.2.toNat),true):=by intro k k' r cw h0;obtain⟨rfl,h2⟩:=Ma cw;unfold pJ;dsimp only;obtain⟨t,ht⟩:=List.isPrefixOf_iff_prefix.1 h2;(have e:(k.2+(r.2.2.2.1.length:Int)).toNat=k.2.toNat+r.2.2.2.1.length:=by omega);rw[e,List.take_add,<-ht,List.take_left])
 induction h with|start=>exact⟨⟨Int.le_refl _,x5⟩,.start⟩| @TP p k c r k' _ hr hs hm cw ih=>exact⟨Mb cw ih.1,.TP ih.2 hr hs hm (key cw ih.1.1)⟩| @take p k c r k' _ hr hs hm L9 cw ih=>exact⟨Mb cw ih.1,.take ih.2 hr hs hm L9 (key cw ih.1.1)⟩
theorem aS7 {rs:List Rl} {acc:Int} {out x:ax} {c:Int} (ha: ∀m,Rev.gL acc m=gU acc m)(hp:Rev.Fh rs acc out x c):zM rs acc x out c:=by
 obtain⟨k,g1,g2,g3⟩:=aQ6 hp [] 0 .start;rw[List.nil_append,Int.zero_add]at g1;obtain⟨_,h⟩:=aS6 g1;refine⟨_,h,?_,?_⟩;(·show out.take k.2.toNat=out;rw[g2,Int.toNat_natCast,List.take_length])
 ·rw[<-ha];exact g3
theorem AZ(hs:gw s)(hf:fy s=none) {inp out:ax} (hl:inp.all low=true)(hn:inp.length<=40)(lN: ∀p,p<=inp.length->Op.QS (iB s.2.2) inp (0,[]) 2000 p) {c:Int} (ho:zM s.2.2 s.2.1 inp out c) {k:Nat} (hk:1<=k) {r:List gV×Int} (hB:Hb s.2.2 s.2.1 inp k r): ∃d,d<=c/\zM s.2.2 s.2.1 inp out d/\r=([(out,d)],0):=by
 (have one: ∀t c,zM s.2.2 s.2.1 inp t c->t=out:=by rintro t c'⟨k1,g1,rfl,a1⟩;obtain⟨k2,g2,rfl,a2⟩:=ho;exact vR hs hf hl hn g1 g2 a1 a2);rcases hB with⟨_,p,hp,E1⟩|⟨_,⟨_,oU⟩|⟨L,bS,bz3,eg,rfl⟩⟩
 (·exact absurd (lN p hp) E1);(·exact absurd ho (oU _ _));·match L,bS,bz3,eg with|x::L',_,bz3,eg=>have hx:=(eg x).1 y8;have e1:=one _ _ hx.1;(have hL':L'=[]:=by cases L' with|nil=>rfl|cons y L2=>have hy:=(eg y).1 (y7 _ y8);have e2:=one _ _ hy.1;have h1:=hx.2 y.2 (by rw[e1,<-e2];exact hy.1);have h2:=hy.2 x.2 (by rw[e2,<-e1];exact hx.1);have e3:x=y:=Prod.ext (e1.trans e2.symm) v6;have h3:=(List.pairwise_cons.1 bz3).1 y y8;rw[e3,I8]at h3;cases h3);subst hL';refine⟨x.2,hx.2 c (by rw[e1];exact ho),by rw[<-e1];exact hx.1,?_⟩;rw[wt (by simp;omega)];exact Prod.ext (by simp[<-e1]) rfl
end
section
theorem ZA(k:Int)(h1:1<(bN k).1): ∃r,r∈(bN k).2.2.drop 1/\r.1=1/\r.2.1=0/\r.2.2.1=[97]:=by
 unfold bN at h1⊢;split at h1;(·dsimp only at h1;omega);split at h1;(·dsimp only at h1;omega);split at h1;(·rename_i g1 g2 g3;rw[if_neg g1,if_neg g2,if_pos g3];exact⟨bC (1,0) [97] [65],by simp,rfl,rfl,rfl⟩)
 split at h1;(·dsimp only at h1;omega);split at h1;(·dsimp only at h1;omega);·dsimp only at h1;omega
theorem Hl(x:xE):gU (cN x).2.1 0=true:=by have:(cN x).2.1=1:=(pd x.1).2.1;rw[this];rfl
theorem OY(x:xE)(h1:1<(cN x).1):Zy (cN x) 1 1:=by
 obtain⟨r,hr,e1,e2,e3⟩:=ZA x.1 h1;refine .inr ⟨r,List.mem_filter.2 ⟨sO _ _ _ ?_,?_⟩,e1,?_,?_,by rw[e3];decide⟩;(·have hd:x.2.1%2=0\/x.2.1%2=1:=v6;rcases hd with h|h<;>rw[h];(·exact List.mem_of_mem_drop hr);·exact hr)
 (·unfold kA;exact decide_eq_true (.inl (by rw[e3];simp)));(·rw[e2];exact Hl x);·unfold bP;rw[e3];rfl
theorem Tt(x:xE)(r:Rl)(hr:r∈(cN x).2.2)(hs:bP r=true):r.1=0:=by
 have h:=vO x r hr hs;obtain⟨a,b,c,d⟩:=(sL x).1.qZ r hr;have:=zz x;unfold AP at h;by_cases e:r.1=1;(·rw[if_pos e]at h;split at h<;>omega);·omega
theorem Tu {s:bR} (hs:gw s) {out x:ax} {p:Rev.cV} {c:Int} (hp:Rev.Path s.2.2 s.2.1 out p x c):x.all low=true:=by
 induction hp with|done=>rfl|step hr _ _ ih=>have h:=hs.right _ hr;unfold cC at h;simp only[z8]at h;rw[List.all_append,ih,h.1.1.1.2,Bool.and_true]
theorem Rf {s:bR} (hs:gw s) {out y:ax} {c:Int} (h:(y,c)∈sK s out):y.all low=true/\y.length<=40/\zM s.2.2 s.2.1 y out c:=by
 have hm:=((LX hs out).mem y c).1 h;have hi:=(LW hs).1 hm.1.1;exact⟨Tu hs hi,hm.2,aS7 (λm=>QI _ m (by have:=hs.a1;omega)) hi⟩
theorem Jg(x:xE)(hf:fy (cN x)=none) {out y:ax} {c:Int} (h:(y,c)∈sK (cN x) out) {r:List gV×Int} (hB:Hb (cN x).2.2 (cN x).2.1 y 5 r): ∃d,d<=c/\r=([(out,d)],0):=by
 obtain⟨dy,_,h9⟩:=sL x;obtain⟨h1,h2,h3⟩:=Rf dy h;obtain⟨d,e1,_,e2⟩:=AZ dy hf h1 h2 (λp hp=>EB dy hf h9 (zz x) (Hl x) (OY x) (Tt x) h1 h2 hp) h3 (by decide) hB
 exact⟨d,e1,e2⟩
end
section
attribute[local go_sem←]u3 u4 u5
attribute[local go_sem]gH bH ne_eq not_false_eq_true
theorem aS8(a b:List gV):PC env 18 [⟨.sl aP,a⟩,⟨.sl aP,b⟩] .bool (decide (a=b)):=by
 refine PC.aC (m:=2000) ae aV4 rfl rfl rfl rfl (by kernel_rfl) ?_;intro hx;simp only[Tryz.f18];simp only[go_sem]
 refine⟨λh=>?_,λh=>?_⟩;(·symm;rw[decide_eq_false_iff_not];rintro rfl;exact h rfl);refine ah.bz (X:=Nat) (λ(k:Nat)=>[(5,.iv (.int .i64) (k:Int))]) (λ(k:Nat)=>[]) (λ(k:Nat)=>k<=a.length/\a.take k=b.take k) (λ(k:Nat)=>a.length-k) 0 ?_
 intro b1 b2 aS bd;simp only[go_sem]at aS bd;subst aS;subst bd;refine⟨v8,?_,?_⟩
 (·exact⟨x9,rfl⟩);have A5:a.length<=9223372036854775807:=hx.1.1;intro k⟨hk,he⟩back;refine av ae ⟨_,aV4,rfl⟩ 2000 _ _ (by kernel_rfl) ?_;simp only[go_sem]
 refine⟨λh2=>?_,λh2=>?_⟩;(·obtain⟨x,nz⟩: ∃x,a[k]?=some x:=au v6;obtain⟨y,hyi⟩: ∃y,b[k]?=some y:=au v6;refine⟨x5,x,nz,x5,y,hyi,λhn=>?_,λhy=>?_⟩;(·symm;rw[decide_eq_false_iff_not];rintro rfl;rw[nz]at hyi;injection hyi with hyi;subst hyi;exact hn ⟨rfl,rfl⟩);·have hxy:x=y:=Prod.ext hy.1 hy.2;subst hxy;exact⟨ak v6 v6,back _ (k+1) v8 ⟨v6,by rw[dD nz,dD hyi,he]⟩ v6⟩)
 ·symm;rw[decide_eq_true_eq];exact aM4 he v6 v6
def BV:bR:=(1,1,[(0,0,[97],[65],1),(0,0,[98],[66],1)])
theorem Hm:(dE BV).2=0:=by decide+kernel
theorem zU:gw BV:=DM Hm
theorem EC:fy BV=none:=by decide+kernel
theorem yi: ∀r,r∈BV.2.2->bP r=false:=by decide
theorem aS9(r:Rl)(hr:r∈BV.2.2)(hs:bP r=true):r.1=0:=by rw[yi r hr]at hs;cases hs
theorem ZB {rs:List Rl} {P:Rl->Bool} {a b:Int} (h:QK rs P a b): ∃r,r∈rs/\P r=true:=by induction h with|one hr hs=>exact⟨_,hr,hs⟩|snoc _ hr hs _=>exact⟨_,hr,hs⟩
theorem zV:PC env 16 [⟨ai,BV⟩] (.int .i64) 0:=by(have h:qR BV=0:=by decide+kernel);rw[<-h];refine QO BV λm _ _ hc=>?_;obtain⟨r,hr,hs⟩:=ZB hc;rw[yi r hr]at hs;cases hs
theorem ZC {inp:ax} {p:Nat} {k:fL} {c:Int} (h:Op.Rt (iB BV.2.2) inp (0,[]) p k c):c=(p:Int):=by
 (have one: ∀r,r∈BV.2.2->r.2.2.1.length=1/\r.2.2.2.2=1:=by decide);induction h with|start=>rfl|TP _ hr hs _ _ _=>rw[yi _ hr]at hs;cases hs|take _ hr _ _ _ _ ih=>obtain⟨h1,h2⟩:=one _ hr;rw[ih,h1,h2];push_cast;rfl
theorem aT0:zM BV.2.2 BV.2.1 [97,98] [65,66] 2:=by
 have h1:Op.Rt (iB BV.2.2) [97,98] (0,[]) 1 (0,[65]) 1:=.take (r:=(0,0,[97],[65],1)) .start (by decide) rfl rfl rfl rfl;have h2:Op.Rt (iB BV.2.2) [97,98] (0,[]) 2 (0,[65,66]) 2:=.take (r:=(0,0,[98],[66],1)) h1 (by decide) rfl rfl rfl rfl
 exact⟨_,h2,rfl,rfl⟩
theorem ZD {r:List gV×Int} (h:Hb BV.2.2 BV.2.1 [97,98] 5 r):r=([([65,66],2)],0):=by
 obtain⟨d,_,⟨k,hk,_,_⟩,rfl⟩:=AZ zU EC rfl (by decide) (λp hp=>EB zU EC (by decide) (by decide) rfl (λh=>absurd h (by decide)) aS9 rfl (by decide) hp) aT0 (by decide) h
 have:=ZC hk;rw[this];rfl
end
end Go.Proofs.YtimognngcagphaaGreat
namespace Go.Proofs.YtimognngcagphaaGreat.S8
attribute[local go_sem←]u3 u4 u5
attribute[local go_sem]gH bH ne_eq not_false_eq_true
noncomputable def eJ:Env:= { env with uo:=λf i=>bif Nat.beq f 6&&Nat.beq i 2 then true else env.uo f i }
theorem ik:eJ.P=env.P:=rfl
theorem fh {t:Nat} :eJ.ty t=env.ty t:=rfl
theorem dO {t:Nat} :eJ.str t=env.str t:=rfl
theorem dP {t:Nat} :eJ.cmp t=env.cmp t:=rfl
theorem fi {f:Nat} :eJ.fn f=env.fn f:=rfl
theorem dQ {f:Nat} :eJ.cW f=env.cW f:=rfl
theorem bZ {t:Nat} :eJ.mapKey t=env.mapKey t:=rfl
theorem fj:eJ.tm=env.tm:=rfl
theorem cQ {t:Nat} :eJ.BW t=env.BW t:=rfl
theorem dR {t:Nat} :eJ.ED t=env.ED t:=rfl
theorem fk {f:Nat} :eJ.nd f=env.nd f:=rfl
theorem dS {t:Nat} :eJ.Hn t=env.Hn t:=rfl
theorem fm {f:Nat} :eJ.px f=env.px f:=rfl
theorem fo {f i:Nat} :eJ.fl f i=env.fl f i:=rfl
theorem dT {t:Nat} :eJ.emp t=env.emp t:=rfl
theorem dU {f i:Nat} :eJ.uo f i=bif Nat.beq f 6&&Nat.beq i 2 then true else env.uo f i:=rfl
theorem cR {t:Nat} {m:String} :eJ.nA t m=env.nA t m:=rfl
theorem fp {d t:Nat} :eJ.ro d t=env.ro d t:=rfl
theorem yj:aI eJ:=by have h:=ae;exact⟨h.ty,h.fn,h.res,h.cW,h.cmp,h.mapKey,h.mixed,h.ED,h.Hn,h.emp,h.nA⟩
theorem ZE {f:Nat} {xs:List (Sigma Ty.den)} {T:Ty} {r:T.den} (h:PC env f xs T r):PC eJ f xs T r:=h
theorem upN {f:Nat} {xs:List (Sigma Ty.den)} {T:Ty} {Y:T.den->Prop} (h:PN env f xs T Y):PN eJ f xs T Y:=h
theorem OZ:PC env 6 [] .bool true:=by
 (have hA: ∀r:Rl,r∈BV.2.2->(λ_:Int=>True) r.1->bP r=true->(λ_:Int=>0) r.1<(λ_:Int=>0) r.2.1:=λr hr _ hs=>by rw[yi r hr]at hs;cases hs);have hB:=I9 BV zU zV [97,98] (by decide) (by decide) 5 ⟨by decide,by decide⟩ (A:=λ_=>True) (h:=λ_=>0) trivial (λ_ _ _=>trivial) hA (λ_=>x9)
 have hI:=aY4 BV zU zV (A:=λ_=>True) (h:=λ_=>0) trivial (λ_ _ _=>trivial) hA (λ_=>x9);rw[EC]at hI;have wc:PC eJ 9 [⟨ai,BV⟩] .bool true:=hI
 have hC:=OD BV zU Hm [65,66];(have Ak:OC BV [65,66]=([97,98],2,0):=by decide+kernel);rw[Ak]at hC;have hS2:PC eJ 18 [⟨.sl aP,([([65,66],2)]:List gV)⟩,⟨.sl aP,([([65,66],2)]:List gV)⟩] .bool true:=aS8 [([65,66],2)] [([65,66],2)]
 have hF:=zV;have hR:=bM4 BV [0,1] zU (by decide);replace hB:=upN hB;replace hC:=ZE hC;replace hF:=ZE hF;replace hR:=ZE hR;show PC eJ _ _ _ _;refine PC.aC (m:=2000) yj bU4 rfl rfl rfl rfl (by kernel_rfl) ?_
 intro hx;simp only[Tryz.f6];simp only[go_sem,ik,fh,dO,dP,fi,dQ,bZ,fj,cQ,dR,fk,dS,fm,fo,dT,dU,cR,fp];refine ah.aO [9] ?_
 simp only[go_sem,ik,fh,dO,dP,fi,dQ,bZ,fj,cQ,dR,fk,dS,fm,fo,dT,dU,cR,fp];refine ah.iJ (dB.walk (m:=2000) yj rfl rfl rfl (by kernel_rfl) ?_)
 simp only[go_sem,ik,fh,dO,dP,fi,dQ,bZ,fj,cQ,dR,fk,dS,fm,fo,dT,dU,cR,fp];refine⟨_,hB,λr hr _=>?_⟩;have e:=ZD hr
 subst e;simp only[go_sem,ik,fh,dO,dP,fi,dQ,bZ,fj,cQ,dR,fk,dS,fm,fo,dT,dU,cR,fp];refine⟨_,hC,λ_=>?_⟩;simp only[go_sem,ik,fh,dO,dP,fi,dQ,bZ,fj,cQ,dR,fk,dS,fm,fo,dT,dU,cR,fp]
 refine⟨⟨_,hS2,?_⟩,λh=>absurd trivial h⟩;simp only[go_sem,ik,fh,dO,dP,fi,dQ,bZ,fj,cQ,dR,fk,dS,fm,fo,dT,dU,cR,fp]
 refine⟨λ_=>⟨_,wc,?_⟩,λh=>absurd rfl h⟩;simp only[go_sem,ik,fh,dO,dP,fi,dQ,bZ,fj,cQ,dR,fk,dS,fm,fo,dT,dU,cR,fp]
 refine⟨_,hF,λ_=>?_⟩;simp only[go_sem,ik,fh,dO,dP,fi,dQ,bZ,fj,cQ,dR,fk,dS,fm,fo,dT,dU,cR,fp];(have Tv:(bu8 BV [0,1]).2.1=[65,66]:=by decide+kernel)
 exact⟨⟨_,hR,λ_=>Tv⟩,λh=>absurd trivial h⟩
end Go.Proofs.YtimognngcagphaaGreat.S8
