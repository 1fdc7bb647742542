/- The law RouteTrims, as a contract. Nothing here is trusted; no condition. -/
import Derived.Test.YtimognngcagphaaGreatC3
set_option linter.all false
set_option maxHeartbeats 8000000
set_option maxRecDepth 100000
namespace Go.Proofs.YtimognngcagphaaGreat
section
attribute[local go_sem←]u3 u4 u5
theorem kR {i0 i1 i2 j:Nat} {r:List Nat} {d:Nat} :back (i0::i1::i2::j::r) d 1000000003=j:=rfl
theorem kS {i0 i1 i2 i3 j:Nat} {r:List Nat} {d:Nat} :back (i0::i1::i2::i3::j::r) d 1000000004=j:=rfl
theorem kT {i0 i1 i2 i3 i4 j:Nat} {r:List Nat} {d:Nat} :back (i0::i1::i2::i3::i4::j::r) d 1000000005=j:=rfl
def qJ(n a:Int)(rs:List Rl)(L:List Bool):List (Nat×aQ):=[(1000000000,.box [.fn 103 [.ref 1000000002 0,.ref 1000000003 0,.ref 1000000004 0]]),(1000000001,.box [.fn 135 [.ref 1000000000 0,.ref 1000000001 0]]),(1000000002,.box [.aB 1000000005]),(1000000003,.box [.iv (.mp (.int .i64) (.sl (.int .i64))) (fB rs)]),(1000000004,.box [.iv (.int .i64) n,.iv (.int .u8) a,.iv (.sl ba) rs]),(1000000005,.arr .bool L)]
def vC(n a:Int)(rs:List Rl)(L:List Bool):List (Nat×aQ):=[(1000000000,.box [.aB 1000000003]),(1000000001,.box [.iv (.mp (.int .i64) (.sl (.int .i64))) (fB rs)]),(1000000002,.box [.iv (.int .i64) n,.iv (.int .u8) a,.iv (.sl ba) rs]),(1000000003,.arr .bool L)]
def tgt(rs:List Rl)(j:Int):Nat:=match rs[j.toNat]? with|some r=>r.2.1.toNat|none=>0
def BC(rs:List Rl)(m:Nat):List Nat:=(jx (m:Int) rs 0).map (tgt rs)
theorem aN5(n a:Int)(rs:List Rl)(hs:gw (n,a,rs))(f:Nat)(ih: ∀(L:List Bool)(m:Int),L.length=n.toNat→0≤m→m<n→cf L<f→HC env 135 [.iv (.int .i64) m,.ref 1000000000 0,.ref 1000000001 0] (qJ n a rs L) (.bG []) (qJ n a rs (kl (BC rs) f L m.toNat)))(L:List Bool)(m:Int)(hL:L.length=n.toNat)(h0:0≤m)(hm:m<n)(hc:cf L<f+1):HC env 103 [.iv (.int .i64) m,.fn 135 [.ref 1000000000 0,.ref 1000000001 0],.ref 1000000002 0,.ref 1000000003 0,.ref 1000000004 0] (qJ n a rs L) (.bG []) (qJ n a rs (kl (BC rs) (f+1) L m.toNat)):=by
 have h8:=hs.n8;have hr:=hs.right;have hl:=hs.len;dsimp only at h8 hr hl;obtain⟨b,hb⟩: ∃b,L[m.toNat]?=some b:=au v6;generalize hT:kl (BC rs) (f+1) L m.toNat=T
 refine HC.aC (m:=2000) ae XD rfl rfl rfl rfl (by kernel_rfl) ?_;intro hx gD;simp only[Tryz.f103];simp only[go_sem,qJ,vC,kR,kS,kT]
 refine⟨⟨h0,v6⟩,b,hb,?_⟩;cases b;(·simp only[go_sem,qJ,vC,kR,kS,kT];refine⟨⟨h0,v6⟩,?_⟩;rw[show(aN (fO (.int .i64)) (fB rs) m).getD []=jx m rs 0 from DD rs m];(have sC:((jx m rs 0).map (tgt rs)).foldl (fun L k=>kl (BC rs) f L k) (L.set m.toNat true)=T:=by rw[←hT];have e:kl (BC rs) (f+1) L m.toNat=if L[m.toNat]?=some true then L else(BC rs m.toNat).foldl (fun L k=>kl (BC rs) f L k) (L.set m.toNat true):=rfl;rw[e,if_neg (by rw[hb];simp)];unfold BC;rw[show((m.toNat:Nat):Int)=m by omega]);have hcf:=zg hb;have hnl:=zi m rs 0;(have hG: ∀x y,y∈BC rs x→y<n.toNat:=fun x y hy=>by unfold BC at hy;obtain⟨j,hj,rfl⟩:=List.mem_map.1 hy;obtain⟨i,r,hi,_,rfl⟩:=kQ.1 hj;have:=bk (hr r (x7 hi));unfold tgt;rw[Nat.zero_add,Int.toNat_natCast,hi];show r.2.1.toNat<_;omega);refine ah.bz (X:=Nat×List Bool) (fun(z:Nat×List Bool)=>[(20,.iv (.int .i64) (z.1:Int)),(8,.any)]) (fun(z:Nat×List Bool)=>[(1000000005,.arr .bool z.2)]) (fun(z:Nat×List Bool)=>z.1≤(jx m rs 0).length∧z.2.length=n.toNat∧cf z.2<f∧(((jx m rs 0).drop z.1).map (tgt rs)).foldl (fun L k=>kl (BC rs) f L k) z.2=T) (fun(z:Nat×List Bool)=>(jx m rs 0).length-z.1) (0,L.set m.toNat true) ?_;intro b1 b2 aS bd;simp(config:= {maxSteps:=4000000})only[go_sem,qJ,vC,kR,kS,kT]at aS bd;subst aS;subst bd;refine⟨v8,?_,?_⟩;(·exact⟨x9,by simpa using hL,v7,sC⟩);clear sC;intro⟨k,M⟩⟨hk,hM,hcM,sC⟩back;dsimp only at hk hM hcM sC;refine av ae ⟨_,XD,rfl⟩ 2000 _ _ (by kernel_rfl) ?_;simp only[go_sem,qJ,vC,kR,kS,kT];refine⟨fun g=>?_,fun g=>?_⟩;(·obtain⟨j,hj⟩: ∃j,(jx m rs 0)[k]?=some j:=au v6;obtain⟨i,r,Bx,wa,MO⟩:=kQ.1 (x7 hj);rw[Nat.zero_add]at MO;subst MO;(have Oi:rs[((i:Int)).toNat]?=some r:=by simpa using Bx);have PF:=bk (hr r (x7 Bx));refine⟨x5,(i:Int),hj,x5,r,Oi,_,_,ih M r.2.1 hM v6 v6 hcM,rfl,?_⟩;simp only[go_sem,qJ,vC,kR,kS,kT];intro _;rw[drop_cons hj,List.map_cons,List.foldl_cons]at sC;(have et:tgt rs (i:Int)=r.2.1.toNat:=by unfold tgt;rw[Oi]);rw[et]at sC;have hd:=(Of hG f M r.2.1.toNat hM v6 hcM).1;refine⟨ak v6 v6,back _ (k+1,kl (BC rs) f M r.2.1.toNat) v8 ⟨(by first|omega|(show(_:Int)≤_;omega)|(show(_:Int)<_;omega)|(dsimp only;omega)),by dsimp only;rw[DC];exact hM,by have:=hd.cf;dsimp only;omega,sC⟩ v7⟩);·rw[List.drop_of_length_le v6]at sC;have e:M=T:=sC;rw[e])
 ·simp only[go_sem,qJ,vC,kR,kS,kT];have e:kl (BC rs) (f+1) L m.toNat=if L[m.toNat]?=some true then L else(BC rs m.toNat).foldl (fun L k=>kl (BC rs) f L k) (L.set m.toNat true):=rfl;rw[e,if_pos hb]at hT;rw[hT]
theorem X4(n a:Int)(rs:List Rl)(hs:gw (n,a,rs)): ∀(f:Nat)(L:List Bool)(m:Int),L.length=n.toNat→0≤m→m<n→cf L<f→HC env 135 [.iv (.int .i64) m,.ref 1000000000 0,.ref 1000000001 0] (qJ n a rs L) (.bG []) (qJ n a rs (kl (BC rs) f L m.toNat))|0,L,m,_,_,_,h=>v6|f+1,L,m,hL,h0,hm,hc=>by have hv:=aN5 n a rs hs f (X4 n a rs hs f) L m hL h0 hm hc;generalize kl (BC rs) (f+1) L m.toNat=T at hv;refine HC.aC (m:=2000) ae bt0 rfl rfl rfl rfl (by kernel_rfl) ?_;intro hx gD;simp only[Tryz.f135];simp only[go_sem,qJ,vC,kR,kS,kT];refine⟨_,_,hv,rfl,?_⟩;simp only[go_sem,qJ,vC,kR,kS,kT];intro _;exact trivial
theorem bv1(n a:Int)(rs:List Rl)(hs:gw (n,a,rs))(f:Nat)(L:List Bool)(m:Int)(hL:L.length=n.toNat)(h0:0≤m)(hm:m<n)(hc:cf L<f):HC env 102 [.iv (.int .i64) m,.fn 103 [.ref 1000000000 0,.ref 1000000001 0,.ref 1000000002 0]] (vC n a rs L) (.bG []) (vC n a rs (kl (BC rs) f L m.toNat)):=by
 have hv:=X4 n a rs hs f L m hL h0 hm hc;generalize kl (BC rs) f L m.toNat=T at hv;refine HC.aC (m:=2000) ae br5 rfl rfl rfl rfl (by kernel_rfl) ?_;intro hx gD;simp only[Tryz.f102]
 simp only[go_sem,qJ,vC,kR,kS,kT];refine⟨_,_,hv,rfl,?_⟩;simp only[go_sem,qJ,vC,kR,kS,kT]
 intro _;exact trivial
theorem DJ {rs:List Rl} {x y:Nat} :y∈BC rs x↔ ∃r,r∈rs∧r.1=(x:Int)∧y=r.2.1.toNat:=by
 unfold BC;constructor;(·intro hy;obtain⟨j,hj,rfl⟩:=List.mem_map.1 hy;obtain⟨i,r,hi,hm,rfl⟩:=kQ.1 hj;refine⟨r,x7 hi,hm,?_⟩;unfold tgt;rw[Nat.zero_add,Int.toNat_natCast,hi])
 ·rintro⟨r,hr,hm,rfl⟩;obtain⟨i,hi⟩:=List.getElem?_of_mem hr;refine List.mem_map.2 ⟨(i:Int),kQ.2 ⟨i,r,hi,hm,by rw[Nat.zero_add]⟩,?_⟩;unfold tgt;rw[Int.toNat_natCast,hi]
theorem bv2 {n a:Int} {rs:List Rl} (hs:gw (n,a,rs)):kl (BC rs) (n.toNat+1) (List.replicate n.toNat false) 0=eD (n,a,rs):=by
 have h1:=hs.n1;have hr:=hs.right;dsimp only at h1 hr;(have off: ∀m,¬on (List.replicate n.toNat false) m:=fun m h=>by unfold on at h;rw[List.getElem?_replicate]at h;split at h<;>simp at h)
 (have cw:(qE n.toNat).length=n.toNat:=by unfold qE;simp);(have on0: ∀m,on (qE n.toNat) m→m=0:=fun m h=>by rcases jV h with e|e;(·exact e);·exact absurd e (off m))
 (have hG: ∀x y,y∈BC rs x→y<n.toNat:=fun x y hy=>by obtain⟨r,h1,h2,rfl⟩:=DJ.1 hy;have:=bk (hr r h1);omega);(have hE: ∀x y,y∈BC rs x→(x,y)∈iK rs:=fun x y hy=>by obtain⟨r,h1,h2,rfl⟩:=DJ.1 hy;exact List.mem_map.2 ⟨r,h1,by rw[h2,Int.toNat_natCast]⟩)
 (have hcf:cf (List.replicate n.toNat false)<n.toNat+1:=by have:=XW (List.replicate n.toNat false);rw[List.length_replicate]at this;omega);obtain⟨d1,d2⟩:=Of hG (n.toNat+1) (List.replicate n.toNat false) 0 (List.length_replicate ..) v6 hcf
 refine GF ?_ (by rw[cw];exact x8) (by rw[DC,cw,List.length_replicate]) (GG hE _ _ _ (fun m h=>absurd h (off m)) (.base 0 (sy (by rw[List.length_replicate];omega)))) ?_ ?_
 (·intro e he;unfold iK at he;obtain⟨r,wa,rfl⟩:=List.mem_map.1 he;have:=bk (hr r wa);rw[cw];show r.2.1.toNat<n.toNat;omega);(·intro e he ZW;rcases d1.new _ ZW with h|h;(·exact absurd h (off _));·refine h _ ?_;unfold iK at he;obtain⟨r,wa,rfl⟩:=List.mem_map.1 he;have:=bk (hr r wa);exact DJ.2 ⟨r,wa,by show r.1=((r.1.toNat:Nat):Int);omega,rfl⟩)
 ·intro m hm;rw[on0 m hm];exact d2
theorem SF(s:bR)(hs:gw s):PC env 51 [⟨ai,s⟩] (.sl .bool) (eD s):=by
 have hs0:=hs;obtain⟨n,a,rs⟩:=s;have h1:=hs.n1;have h8:=hs.n8;dsimp only at h1 h8;have hf:=bv1 n a rs hs0 (n.toNat+1) (List.replicate n.toNat false) 0 (List.length_replicate ..) (Int.le_refl _) v6 (by have:=XW (List.replicate n.toNat false);rw[List.length_replicate]at this;omega)
 rw[show Int.toNat 0=0 from rfl,bv2 hs0]at hf;generalize eD (n,a,rs)=T at hf⊢;refine PC.aC (m:=2000) ae bK0 rfl rfl rfl rfl (by kernel_rfl) ?_;intro hx;simp only[Tryz.f51]
 simp only[go_sem,qJ,vC,kR,kS,kT];refine⟨_,_,Qh (n,a,rs) ⟨v7,h8⟩,rfl,?_⟩;simp only[go_sem,qJ,vC,kR,kS,kT]
 intro _;refine⟨fun h=>absurd h (by rw[List.length_replicate];omega),fun _=>⟨_,GJ (n,a,rs) hs0,fun _=>⟨_,_,hf,rfl,?_⟩⟩⟩;simp only[go_sem,qJ,vC,kR,kS,kT]
 exact fun _=>trivial
end
section
attribute[local go_sem←]u3 u4 u5
attribute[local go_sem]St.eN bn
abbrev TN:=List (Rl×Int)
def dv(R L:List Bool):List Rl→Nat→TN|[],_=>[]|r::rs,i=>if R[r.1.toNat]?=some true∧L[r.2.1.toNat]?=some true then(r,(i:Int))::dv R L rs (i+1)else dv R L rs (i+1)
def AG(s:bR):TN:=dv (eD s) (pf s) s.2.2 0
def xP(s:bR):bR×List Int:=((s.1,s.2.1,(AG s).map (·.1)),(AG s).map (·.2))
theorem DK {R L:List Bool} {r:Rl} {rs:List Rl} {i:Nat} (h1:R[r.1.toNat]?=some true)(h2:L[r.2.1.toNat]?=some true):dv R L (r::rs) i=(r,(i:Int))::dv R L rs (i+1):=by
 have e:dv R L (r::rs) i=if R[r.1.toNat]?=some true∧L[r.2.1.toNat]?=some true then(r,(i:Int))::dv R L rs (i+1)else dv R L rs (i+1):=rfl;rw[e,if_pos ⟨h1,h2⟩]
theorem tP {R L:List Bool} {r:Rl} {rs:List Rl} {i:Nat} (h:R[r.1.toNat]?=some false∨L[r.2.1.toNat]?=some false):dv R L (r::rs) i=dv R L rs (i+1):=by
 have e:dv R L (r::rs) i=if R[r.1.toNat]?=some true∧L[r.2.1.toNat]?=some true then(r,(i:Int))::dv R L rs (i+1)else dv R L rs (i+1):=rfl;rw[e,if_neg];rintro⟨a,b⟩
 rcases h with h|h;(·rw[a]at h;simp at h);·rw[b]at h;simp at h
theorem DL(R L:List Bool): ∀(rs:List Rl)(i:Nat),(dv R L rs i).length≤rs.length|[],_=>x8|r::rs,i=>by have:=DL R L rs (i+1);unfold dv;split<;>simp only[x6]<;>omega
def ui:TN→PV×PV|[]=>(.bO,.bO)|_::_=>(.aB 48,.aB 53)
def vD:TN→List (Nat×aQ)|[]=>[]|x::r=>[(48,.arr ba ((x::r).map (·.1))),(53,.arr (.int .i64) ((x::r).map (·.2)))]
def xQ:TN→PV|[]=>.bO|_::_=>.aB 1000
def xR:TN→List (Nat×aQ)|[]=>[(18,.arr (.int .i64) [])]|x::r=>[(1000,.arr ba ((x::r).map (·.1))),(18,.arr (.int .i64) ((x::r).map (·.2)))]
theorem bv3(s:bR)(hs:gw s):PC env 14 [⟨ai,s⟩] (.bG ai (.sl (.int .i64))) (xP s):=by
 have hs0:=hs;(have hRl:(eD s).length=s.1.toNat:=by unfold eD;rw[pe];unfold qE;simp);(have hLl:(pf s).length=s.1.toNat:=by unfold pf;rw[pe,qF]);have c1:=SF s hs
 have c2:=bv0 s hs;have hT:dv (eD s) (pf s) s.2.2 0=AG s:=rfl;have hE:xP s=((s.1,s.2.1,(AG s).map (·.1)),(AG s).map (·.2)):=rfl;rw[hE];generalize eD s=R at*;generalize pf s=L at*
 generalize AG s=T at*;obtain⟨n,a,rs⟩:=s;have h8:=hs.n8;have hl:=hs.len;have hr:=hs.right;dsimp only at h8 hl hr hRl hLl hT⊢;refine PC.aC (m:=2000) ae Xu rfl rfl rfl rfl (by kernel_rfl) ?_
 intro hx;simp only[Tryz.f14];simp only[go_sem,ui,vD,xQ,xR];refine⟨_,c1,fun _=>⟨_,c2,fun _=>?_⟩⟩;refine ah.bz (X:=Nat×TN) (fun(z:Nat×TN)=>[(22,.iv (.int .i64) (z.1:Int)),(7,(ui z.2).2),(8,.any),(9,.any)]) (fun(z:Nat×TN)=>((6,.box [.iv (.int .i64) n,.iv (.int .u8) a,(ui z.2).1])::vD z.2)) (fun(z:Nat×TN)=>z.1≤rs.length∧z.2.length≤z.1∧z.2++dv R L (rs.drop z.1) z.1=T) (fun(z:Nat×TN)=>rs.length-z.1) (0,[]) ?_
 intro b1 b2 aS bd;simp(config:= {maxSteps:=4000000})only[go_sem,ui,vD,xQ,xR]at aS bd;subst aS;subst bd;refine⟨v8,?_,?_⟩
 (·exact⟨x9,x8,hT⟩);clear hT;intro⟨k,acc⟩⟨hk,ha,hT⟩back;dsimp only at hk ha hT;rcases acc with _|⟨p0,acc⟩;(·refine av ae ⟨_,Xu,rfl⟩ 2000 _ _ (by kernel_rfl) ?_;simp only[go_sem,ui,vD,xQ,xR];refine⟨fun g=>?_,fun g=>?_⟩;(·obtain⟨r,Bx⟩: ∃r,rs[k]?=some r:=au v6;have Ji:=hr r (x7 Bx);have PF:=bk Ji;rw[drop_cons Bx]at hT;obtain⟨b1,aS⟩: ∃b,R[r.1.toNat]?=some b:=au v6;obtain⟨b2,bd⟩: ∃b,L[r.2.1.toNat]?=some b:=au v6;have hf:=Ob (n,a,rs) r;dsimp only at hf;rw[vy h8 Ji]at hf;refine⟨x5,r,Bx,_,hf,?_⟩;simp only[go_sem,ui,vD,xQ,xR];refine⟨v6,b1,aS,?_⟩;cases b1;(·simp only[go_sem,ui,vD,xQ,xR];rw[tP (.inl aS)]at hT;exact⟨ak v6 v6,back _ (k+1,[]) v8 ⟨(by first|omega|(show(_:Int)≤_;omega)|(show(_:Int)<_;omega)|(dsimp only;omega)),v7,hT⟩ v7⟩);·simp only[go_sem,ui,vD,xQ,xR];refine⟨v6,b2,bd,?_⟩;cases b2;(·simp only[go_sem,ui,vD,xQ,xR];rw[tP (.inr bd)]at hT;exact⟨ak v6 v6,back _ (k+1,[]) v8 ⟨(by first|omega|(show(_:Int)≤_;omega)|(show(_:Int)<_;omega)|(dsimp only;omega)),v7,hT⟩ v7⟩);·simp only[go_sem,ui,vD,xQ,xR];rw[DK aS bd]at hT;exact⟨ak v6 v6,back _ (k+1,[(r,(k:Int))]) v8 ⟨(by first|omega|(show(_:Int)≤_;omega)|(show(_:Int)<_;omega)|(dsimp only;omega)),by simp,hT⟩ v7⟩);·rw[List.drop_of_length_le v6]at hT;(have e:([]:TN)=T:=by simpa[dv]using hT);rw[←e];rfl)
 ·refine av ae ⟨_,Xu,rfl⟩ 2000 _ _ (by kernel_rfl) ?_;simp only[go_sem,ui,vD,xQ,xR];refine⟨fun g=>?_,fun g=>?_⟩;(·obtain⟨r,Bx⟩: ∃r,rs[k]?=some r:=au v6;have Ji:=hr r (x7 Bx);have PF:=bk Ji;rw[drop_cons Bx]at hT;obtain⟨b1,aS⟩: ∃b,R[r.1.toNat]?=some b:=au v6;obtain⟨b2,bd⟩: ∃b,L[r.2.1.toNat]?=some b:=au v6;have hf:=Ob (n,a,rs) r;dsimp only at hf;rw[vy h8 Ji]at hf;refine⟨x5,r,Bx,_,hf,?_⟩;simp only[go_sem,ui,vD,xQ,xR];refine⟨v6,b1,aS,?_⟩;cases b1;(·simp only[go_sem,ui,vD,xQ,xR];rw[tP (.inl aS)]at hT;exact⟨ak v6 v6,back _ (k+1,p0::acc) v8 ⟨(by first|omega|(show(_:Int)≤_;omega)|(show(_:Int)<_;omega)|(dsimp only;omega)),v7,hT⟩ v7⟩);·simp only[go_sem,ui,vD,xQ,xR];refine⟨v6,b2,bd,?_⟩;cases b2;(·simp only[go_sem,ui,vD,xQ,xR];rw[tP (.inr bd)]at hT;exact⟨ak v6 v6,back _ (k+1,p0::acc) v8 ⟨(by first|omega|(show(_:Int)≤_;omega)|(show(_:Int)<_;omega)|(dsimp only;omega)),v7,hT⟩ v7⟩);·simp only[go_sem,ui,vD,xQ,xR];rw[DK aS bd]at hT;(have e1:List.map (fun x:Rl×Int=>x.2) acc++ [(k:Int)]=List.map (fun x=>x.2) (acc++ [(r,(k:Int))]):=by simp);(have e2:List.map (fun x:Rl×Int=>x.1) acc++ [(r.1,r.2.1,r.2.2.1,r.2.2.2.1,r.2.2.2.2)]=List.map (fun x=>x.1) (acc++ [(r,(k:Int))]):=by simp);rw[e1,e2];simp only[x6]at ha;exact⟨by rw[List.length_map];omega,by rw[List.length_map];omega,ak v6 v6,back _ (k+1,p0::(acc++ [(r,(k:Int))])) v8 ⟨(by first|omega|(show(_:Int)≤_;omega)|(show(_:Int)<_;omega)|(dsimp only;omega)),by simp;omega,by rw[←hT];simp⟩ v7⟩);·rw[List.drop_of_length_le v6]at hT;(have e:p0::acc=T:=by simpa[dv]using hT);rw[←e];rfl
end
section
structure StE(a:Int)(n k:Nat)(L:List En):Prop where
 len:L.length=n
 at_: ∀i e,L[i]?=some e→e=([],0,decide (i<k)&&gU a (i:Int))
theorem StE.zero {a:Int} {n:Nat} :StE a n 0 (List.replicate n ([],0,false)):=⟨List.length_replicate ..,fun i e h=>by rw[List.getElem?_replicate]at h;split at h;(·injection h with h;rw[←h];simp);·cases h⟩
theorem StE.done {a:Int} {n:Nat} {L:List En} (h:StE a n n L):L=X3 a n:=by
 refine List.ext_getElem? fun i=>?_;unfold X3;rw[List.getElem?_map];by_cases hi:i<n;(·rw[List.getElem?_range hi];obtain⟨e,he⟩: ∃e,L[i]?=some e:=au (by rw[h.len];exact hi);rw[he,h.at_ i e he];simp[hi])
 ·rw[List.getElem?_eq_none (by rw[h.len];omega),List.getElem?_eq_none (by simp;omega)];rfl
end
section
theorem Ql {E:Env} {G:Goal} {n:Nat} {b b':Bool} {d:Nat} {want:Bool} {o:Oper} {all:List Oper} {N:List Nat} {acc:List (List Nat)} {os:List Oper} {k:List WI} {s:St} (h:b=b')(hp:PK E G n (.iv .bool b') d want o all N acc os k s):PK E G n (.iv .bool b) d want o all N acc os k s:=by
 rw[h];exact hp
end
section
end
section
end
section
theorem SG {s:bR} (hs:gw s): ∀e,e∈iK s.2.2→e.2<(qE s.1.toNat).length:=by
 intro e he;unfold iK at he;obtain⟨r,hr,rfl⟩:=List.mem_map.1 he;have:=bk (hs.right r hr);unfold qE;simp;omega
theorem SH {s:bR} (hs:gw s): ∀e,e∈kP s.2.2→e.2<(fK s.2.1 s.1.toNat).length:=by
 intro e he;unfold kP at he;obtain⟨r,hr,rfl⟩:=List.mem_map.1 he;have:=bk (hs.right r hr);rw[qF];show r.1.toNat<_;omega
theorem sD {s:bR} (hs:gw s)(m:Nat):on (eD s) m↔Cl (iK s.2.2) (qE s.1.toNat) m:=xI (SG hs) (by unfold qE;simp) m
theorem IA {s:bR} (hs:gw s)(m:Nat):on (pf s) m↔Cl (kP s.2.2) (fK s.2.1 s.1.toNat) m:=xI (SH hs) (by rw[qF];exact x8) m
theorem IB {s:bR} (hs:gw s):on (eD s) 0:=(sD hs 0).2 (.base 0 (sy (by have:=hs.n1;rw[List.length_replicate];omega)))
theorem IC {s:bR} (hs:gw s) {r:Rl} (hr:r∈s.2.2)(h:on (eD s) r.1.toNat):on (eD s) r.2.1.toNat:=(sD hs _).2 (.step _ _ ((sD hs _).1 h) (List.mem_map.2 ⟨r,hr,rfl⟩))
theorem SJ {s:bR} (hs:gw s) {r:Rl} (hr:r∈s.2.2)(h:on (pf s) r.2.1.toNat):on (pf s) r.1.toNat:=(IA hs _).2 (.step _ _ ((IA hs _).1 h) (List.mem_map.2 ⟨r,hr,rfl⟩))
theorem X5 {s:bR} (hs:gw s) {m:Nat} (hm:m<s.1.toNat)(h:gU s.2.1 (m:Int)=true):on (pf s) m:=(IA hs _).2 (.base m (by unfold on;rw[GH hm,h]))
end
section
theorem vE {R L:List Bool} : ∀ {rs:List Rl} {i:Nat} {p:Rl×Int},p∈dv R L rs i↔ ∃(j:Nat),rs[j]?=some p.1∧p.2=((i+j:Nat):Int)∧on R p.1.1.toNat∧on L p.1.2.1.toNat|[],i,p=>(by simp[dv])|r::rs,i,p=>by have ih:= @vE R L rs (i+1) p;(have hd:(∃(j:Nat),(r::rs)[j]?=some p.1∧p.2=((i+j:Nat):Int)∧on R p.1.1.toNat∧on L p.1.2.1.toNat)↔(r=p.1∧p.2=(i:Int)∧on R p.1.1.toNat∧on L p.1.2.1.toNat)∨ ∃(j:Nat),rs[j]?=some p.1∧p.2=((i+1+j:Nat):Int)∧on R p.1.1.toNat∧on L p.1.2.1.toNat:=by constructor;(·rintro⟨j,h1,h2,h3⟩;cases j with|zero=>exact .inl ⟨by simpa using h1,by simpa using h2,h3⟩|succ j=>exact .inr ⟨j,by simpa using h1,by rw[h2];congr 1;omega,h3⟩);·rintro(⟨h1,h2,h3⟩|⟨j,h1,h2,h3⟩);(·exact⟨0,by simpa using h1,by simpa using h2,h3⟩);·exact⟨j+1,by simpa using h1,by rw[h2];congr 1;omega,h3⟩);rw[hd,←ih];have e:dv R L (r::rs) i=if R[r.1.toNat]?=some true∧L[r.2.1.toNat]?=some true then(r,(i:Int))::dv R L rs (i+1)else dv R L rs (i+1):=rfl;rw[e];split;(·rename_i h;rw[List.mem_cons];refine or_congr ?_ Iff.rfl;constructor;(·rintro rfl;exact⟨rfl,rfl,h⟩);·rintro⟨rfl,h2,_⟩;exact Prod.ext rfl h2);·rename_i h;refine⟨.inr,fun g=>g.resolve_left ?_⟩;rintro⟨rfl,_,h3⟩;exact h h3
theorem vF {R L:List Bool} : ∀ {rs:List Rl} {i:Nat},((dv R L rs i).map (·.1)).Sublist rs|[],_=>List.Sublist.slnil|r::rs,i=>by have e:dv R L (r::rs) i=if R[r.1.toNat]?=some true∧L[r.2.1.toNat]?=some true then(r,(i:Int))::dv R L rs (i+1)else dv R L rs (i+1):=rfl;rw[e];split;(·exact List.Sublist.cons_cons _ vF);·exact List.Sublist.cons _ vF
theorem zn {s:bR} {r:Rl} :r∈(xP s).1.2.2↔r∈s.2.2∧on (eD s) r.1.toNat∧on (pf s) r.2.1.toNat:=by
 show r∈(AG s).map (·.1)↔_;rw[List.mem_map];constructor;(·rintro⟨p,hp,rfl⟩;obtain⟨j,h1,_,h3⟩:=vE.1 hp;exact⟨x7 h1,h3⟩);·rintro⟨h1,h2⟩;obtain⟨j,hj⟩:=List.getElem?_of_mem h1;exact⟨(r,((0+j:Nat):Int)),vE.2 ⟨j,hj,rfl,h2⟩,rfl⟩
theorem aN6 {s:bR} (hs:gw s):gw (xP s).1:=⟨hs.n1,hs.n8,hs.a1,hs.a2,Nat.le_trans (by show((AG s).map (·.1)).length≤_;rw[List.length_map];exact DL _ _ _ _) hs.len,fun r hr=>hs.right r (zn.1 hr).1,hs.nodup.sublist vF⟩
end
end Go.Proofs.YtimognngcagphaaGreat
