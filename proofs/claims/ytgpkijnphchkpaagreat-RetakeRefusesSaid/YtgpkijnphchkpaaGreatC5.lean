/- The law RouteTrims, as a contract. Nothing here is trusted; no condition. -/
import Derived.Test.YtgpkijnphchkpaaGreatC4
set_option linter.unusedSimpArgs false
set_option linter.unusedVariables false
open Nat renaming reduceBEq→zA,reduceAdd→zB,reduceSub→zC,reduceMul→zD,reduceLeDiff→zE
open Int renaming reduceLT→zF,reduceLE→zG,reduceToNat→zH,reduceNeg→zI
namespace Go.Proofs.YtgpkijnphchkpaaGreat
attribute[local go_sem←]Bool.decide_and Bool.decide_or decide_not
set_option maxHeartbeats 4000000
set_option maxRecDepth 100000
theorem cD {i0 i1 i2 j:Nat} {r:List Nat} {d:Nat} :back (i0::i1::i2::j::r) d 1000000003=j:=rfl
theorem cE {i0 i1 i2 i3 j:Nat} {r:List Nat} {d:Nat} :back (i0::i1::i2::i3::j::r) d 1000000004=j:=rfl
theorem cG {i0 i1 i2 i3 i4 j:Nat} {r:List Nat} {d:Nat} :back (i0::i1::i2::i3::i4::j::r) d 1000000005=j:=rfl
def fp(n a:Int)(rs:List Rl)(L:List Bool):List (Nat×L9):=[(1000000000,.box [.fn 168 [.ref 1000000002 0,.ref 1000000003 0,.ref 1000000004 0]]),(1000000001,.box [.fn 179 [.ref 1000000000 0,.ref 1000000001 0]]),(1000000002,.box [.LV 1000000005]),(1000000003,.box [.iv (.mp (.int .i64) (.sl (.int .i64))) (bQ rs)]),(1000000004,.box [.iv (.int .i64) n,.iv (.int .u8) a,.iv (.sl Mn) rs]),(1000000005,.arr .bool L)]
def hH(n a:Int)(rs:List Rl)(L:List Bool):List (Nat×L9):=[(1000000000,.box [.LV 1000000003]),(1000000001,.box [.iv (.mp (.int .i64) (.sl (.int .i64))) (bQ rs)]),(1000000002,.box [.iv (.int .i64) n,.iv (.int .u8) a,.iv (.sl Mn) rs]),(1000000003,.arr .bool L)]
def AF(rs:List Rl)(j:Int):Nat:=match rs[j.toNat]? with|some r=>r.2.1.toNat|none=>0
def kq(rs:List Rl)(m:Nat):List Nat:=(cK (m:Int) rs 0).map (AF rs)
theorem zg(n a:Int)(rs:List Rl)(hs:cx (n,a,rs))(f:Nat)(ih: ∀(L:List Bool)(m:Int),L.length=n.toNat→0≤m→m<n→cf L<f→HC env 179 [.iv (.int .i64) m,.ref 1000000000 0,.ref 1000000001 0] (fp n a rs L) (.Mj []) (fp n a rs (de (kq rs) f L m.toNat)))(L:List Bool)(m:Int)(hL:L.length=n.toNat)(h0:0≤m)(hm:m<n)(hc:cf L<f+1):HC env 168 [.iv (.int .i64) m,.fn 179 [.ref 1000000000 0,.ref 1000000001 0],.ref 1000000002 0,.ref 1000000003 0,.ref 1000000004 0] (fp n a rs L) (.Mj []) (fp n a rs (de (kq rs) (f+1) L m.toNat)):=by
 have h8:=hs.n8;have hr:=hs.right;have hl:=hs.len;dsimp only at h8 hr hl;obtain⟨b,hb⟩: ∃b,L[m.toNat]?=some b:=r3 (by omega);generalize hT:de (kq rs) (f+1) L m.toNat=T
 refine HC.LU (m:=2000) av aP1 rfl rfl rfl rfl (by kernel_rfl) ?_;intro hx dR;simp only[Tryz.f168];simp only[go_sem,zA,↓reduceIte,↓reduceDIte,zB,zC,zD,zE,zF,zG,zH,zI,fp,hH,cD,cE,cG]
 refine⟨⟨h0,by omega⟩,b,hb,?_⟩;cases b;(·simp only[go_sem,zA,↓reduceIte,↓reduceDIte,zB,zC,zD,zE,zF,zG,zH,zI,fp,hH,cD,cE,cG];refine⟨⟨h0,by omega⟩,?_⟩;rw[show(Mg (Pp (.int .i64)) (bQ rs) m).getD []=cK m rs 0 from ld rs m];(have wJ:((cK m rs 0).map (AF rs)).foldl (fun L k=>de (kq rs) f L k) (L.set m.toNat true)=T:=by rw[←hT];have e:de (kq rs) (f+1) L m.toNat=if L[m.toNat]?=some true then L else(kq rs m.toNat).foldl (fun L k=>de (kq rs) f L k) (L.set m.toNat true):=rfl;rw[e,if_neg (by rw[hb];simp)];unfold kq;rw[show((m.toNat:Nat):Int)=m by omega]);have Hm:=jz hb;have BM:=jB m rs 0;(have hG: ∀x y,y∈kq rs x→y<n.toNat:=fun x y hy=>by unfold kq at hy;obtain⟨j,hj,rfl⟩:=List.mem_map.1 hy;obtain⟨i,r,hi,_,rfl⟩:=dt.1 hj;have:=aI (hr r (List.mem_of_getElem? hi));unfold AF;rw[Nat.zero_add,Int.toNat_natCast,hi];show r.2.1.toNat<_;omega);refine u1.Mp (X:=Nat×List Bool) (fun(z:Nat×List Bool)=>[(20,.iv (.int .i64) (z.1:Int)),(8,.any)]) (fun(z:Nat×List Bool)=>[(1000000005,.arr .bool z.2)]) (fun(z:Nat×List Bool)=>z.1≤(cK m rs 0).length∧z.2.length=n.toNat∧cf z.2<f∧(((cK m rs 0).drop z.1).map (AF rs)).foldl (fun L k=>de (kq rs) f L k) z.2=T) (fun(z:Nat×List Bool)=>(cK m rs 0).length-z.1) (0,L.set m.toNat true) ?_;intro b1 b2 ao aq;simp(config:= {maxSteps:=4000000})only[go_sem,zA,↓reduceIte,↓reduceDIte,zB,zC,zD,zE,zF,zG,zH,zI,fp,hH,cD,cE,cG]at ao aq;subst ao;subst aq;refine⟨(by refine⟨?_,?_,rfl,rfl⟩<;>repeat' (first|exact trivial|exact Or.inl rfl|exact Or.inr rfl|apply aw|apply ax|apply ay|apply az|exact⟨(by show(_:Nat)<1000000000;omega),rfl,rfl⟩|rfl|(refine And.intro (Or.inl ?_) ?_)|(refine And.intro ?_ ?_))),?_,?_⟩;(·exact⟨Nat.zero_le _,by simpa using hL,by dsimp only;omega,wJ⟩);clear wJ;intro⟨k,M⟩⟨hk,hM,Hs,wJ⟩back;dsimp only at hk hM Hs wJ;refine LP av ⟨_,aP1,rfl⟩ 2000 _ _ (by kernel_rfl) ?_;simp only[go_sem,zA,↓reduceIte,↓reduceDIte,zB,zC,zD,zE,zF,zG,zH,zI,fp,hH,cD,cE,cG];refine⟨fun g=>?_,fun g=>?_⟩;(·obtain⟨j,hj⟩: ∃j,(cK m rs 0)[k]?=some j:=r3 (by omega);obtain⟨i,r,rC,gH,pa⟩:=dt.1 (List.mem_of_getElem? hj);rw[Nat.zero_add]at pa;subst pa;(have rR:rs[((i:Int)).toNat]?=some r:=by simpa using rC);have tJ:=aI (hr r (List.mem_of_getElem? rC));refine⟨Int.natCast_nonneg _,(i:Int),hj,Int.natCast_nonneg _,r,rR,_,_,ih M r.2.1 hM (by omega) (by omega) Hs,rfl,?_⟩;simp only[go_sem,zA,↓reduceIte,↓reduceDIte,zB,zC,zD,zE,zF,zG,zH,zI,fp,hH,cD,cE,cG];intro _;rw[drop_cons hj,List.map_cons,List.foldl_cons]at wJ;(have et:AF rs (i:Int)=r.2.1.toNat:=by unfold AF;rw[rR]);rw[et]at wJ;have hd:=(rM hG f M r.2.1.toNat hM (by omega) Hs).1;refine⟨LN (by omega) (by omega),back _ (k+1,de (kq rs) f M r.2.1.toNat) (by refine⟨?_,?_,rfl,rfl⟩<;>repeat' (first|exact trivial|exact Or.inl rfl|exact Or.inr rfl|apply aw|apply ax|apply ay|apply az|exact⟨(by show(_:Nat)<1000000000;omega),rfl,rfl⟩|rfl|(refine And.intro (Or.inl ?_) ?_)|(refine And.intro ?_ ?_))) ⟨(by first|omega|(show(_:Int)≤_;omega)|(show(_:Int)<_;omega)|(dsimp only;omega)),by dsimp only;rw[k6];exact hM,by have:=hd.cf;dsimp only;omega,wJ⟩ (by dsimp only;omega)⟩);·rw[List.drop_of_length_le (by omega)]at wJ;have e:M=T:=wJ;rw[e])
 ·simp only[go_sem,zA,↓reduceIte,↓reduceDIte,zB,zC,zD,zE,zF,zG,zH,zI,fp,hH,cD,cE,cG];have e:de (kq rs) (f+1) L m.toNat=if L[m.toNat]?=some true then L else(kq rs m.toNat).foldl (fun L k=>de (kq rs) f L k) (L.set m.toNat true):=rfl;rw[e,if_pos hb]at hT;rw[hT]
theorem wK(n a:Int)(rs:List Rl)(hs:cx (n,a,rs)): ∀(f:Nat)(L:List Bool)(m:Int),L.length=n.toNat→0≤m→m<n→cf L<f→HC env 179 [.iv (.int .i64) m,.ref 1000000000 0,.ref 1000000001 0] (fp n a rs L) (.Mj []) (fp n a rs (de (kq rs) f L m.toNat))|0,L,m,_,_,_,h=>(by omega)|f+1,L,m,hL,h0,hm,hc=>by have hv:=zg n a rs hs f (wK n a rs hs f) L m hL h0 hm hc;generalize de (kq rs) (f+1) L m.toNat=T at hv;refine HC.LU (m:=2000) av bW7 rfl rfl rfl rfl (by kernel_rfl) ?_;intro hx dR;simp only[Tryz.f179];simp only[go_sem,zA,↓reduceIte,↓reduceDIte,zB,zC,zD,zE,zF,zG,zH,zI,fp,hH,cD,cE,cG];refine⟨_,_,hv,rfl,?_⟩;simp only[go_sem,zA,↓reduceIte,↓reduceDIte,zB,zC,zD,zE,zF,zG,zH,zI,fp,hH,cD,cE,cG];intro _;exact trivial
theorem BN(n a:Int)(rs:List Rl)(hs:cx (n,a,rs))(f:Nat)(L:List Bool)(m:Int)(hL:L.length=n.toNat)(h0:0≤m)(hm:m<n)(hc:cf L<f):HC env 167 [.iv (.int .i64) m,.fn 168 [.ref 1000000000 0,.ref 1000000001 0,.ref 1000000002 0]] (hH n a rs L) (.Mj []) (hH n a rs (de (kq rs) f L m.toNat)):=by
 have hv:=wK n a rs hs f L m hL h0 hm hc;generalize de (kq rs) f L m.toNat=T at hv;refine HC.LU (m:=2000) av bW1 rfl rfl rfl rfl (by kernel_rfl) ?_;intro hx dR;simp only[Tryz.f167]
 simp only[go_sem,zA,↓reduceIte,↓reduceDIte,zB,zC,zD,zE,zF,zG,zH,zI,fp,hH,cD,cE,cG];refine⟨_,_,hv,rfl,?_⟩;simp only[go_sem,zA,↓reduceIte,↓reduceDIte,zB,zC,zD,zE,zF,zG,zH,zI,fp,hH,cD,cE,cG]
 intro _;exact trivial
theorem lg {rs:List Rl} {x y:Nat} :y∈kq rs x↔ ∃r,r∈rs∧r.1=(x:Int)∧y=r.2.1.toNat:=by
 unfold kq;constructor;(·intro hy;obtain⟨j,hj,rfl⟩:=List.mem_map.1 hy;obtain⟨i,r,hi,hm,rfl⟩:=dt.1 hj;refine⟨r,List.mem_of_getElem? hi,hm,?_⟩;unfold AF;rw[Nat.zero_add,Int.toNat_natCast,hi])
 ·rintro⟨r,hr,hm,rfl⟩;obtain⟨i,hi⟩:=List.getElem?_of_mem hr;refine List.mem_map.2 ⟨(i:Int),dt.2 ⟨i,r,hi,hm,by rw[Nat.zero_add]⟩,?_⟩;unfold AF;rw[Int.toNat_natCast,hi]
theorem BO {n a:Int} {rs:List Rl} (hs:cx (n,a,rs)):de (kq rs) (n.toNat+1) (List.replicate n.toNat false) 0=bJ (n,a,rs):=by
 have h1:=hs.n1;have hr:=hs.right;dsimp only at h1 hr;(have off: ∀m,¬on (List.replicate n.toNat false) m:=fun m h=>by unfold on at h;rw[List.getElem?_replicate]at h;split at h<;>simp at h)
 (have cS:(fj n.toNat).length=n.toNat:=by unfold fj;simp);(have Kt: ∀m,on (fj n.toNat) m→m=0:=fun m h=>by rcases cX h with e|e;(·exact e);·exact absurd e (off m))
 (have hG: ∀x y,y∈kq rs x→y<n.toNat:=fun x y hy=>by obtain⟨r,h1,h2,rfl⟩:=lg.1 hy;have:=aI (hr r h1);omega);(have hE: ∀x y,y∈kq rs x→(x,y)∈gZ rs:=fun x y hy=>by obtain⟨r,h1,h2,rfl⟩:=lg.1 hy;exact List.mem_map.2 ⟨r,h1,by rw[h2,Int.toNat_natCast]⟩)
 (have Hm:cf (List.replicate n.toNat false)<n.toNat+1:=by have:=wu (List.replicate n.toNat false);rw[List.length_replicate]at this;omega);obtain⟨d1,d2⟩:=rM hG (n.toNat+1) (List.replicate n.toNat false) 0 (List.length_replicate ..) (by omega) Hm
 refine mY ?_ (by rw[cS];exact Nat.le_refl _) (by rw[k6,cS,List.length_replicate]) (mZ hE _ _ _ (fun m h=>absurd h (off m)) (.base 0 (fM (by rw[List.length_replicate];omega)))) ?_ ?_
 (·intro e he;unfold gZ at he;obtain⟨r,gH,rfl⟩:=List.mem_map.1 he;have:=aI (hr r gH);rw[cS];show r.2.1.toNat<n.toNat;omega);(·intro e he CO;rcases d1.new _ CO with h|h;(·exact absurd h (off _));·refine h _ ?_;unfold gZ at he;obtain⟨r,gH,rfl⟩:=List.mem_map.1 he;have:=aI (hr r gH);exact lg.2 ⟨r,gH,by show r.1=((r.1.toNat:Nat):Int);omega,rfl⟩)
 ·intro m hm;rw[Kt m hm];exact d2
theorem tX(s:a8)(hs:cx s):PC env 144 [⟨LQ,s⟩] (.sl .bool) (bJ s):=by
 have AE:=hs;obtain⟨n,a,rs⟩:=s;have h1:=hs.n1;have h8:=hs.n8;dsimp only at h1 h8;have hf:=BN n a rs AE (n.toNat+1) (List.replicate n.toNat false) 0 (List.length_replicate ..) (Int.le_refl _) (by omega) (by have:=wu (List.replicate n.toNat false);rw[List.length_replicate]at this;omega)
 rw[show Int.toNat 0=0 from rfl,BO AE]at hf;generalize bJ (n,a,rs)=T at hf⊢;refine PC.LU (m:=2000) av bU8 rfl rfl rfl rfl (by kernel_rfl) ?_;intro hx;simp only[Tryz.f144]
 simp only[go_sem,zA,↓reduceIte,↓reduceDIte,zB,zC,zD,zE,zF,zG,zH,zI,fp,hH,cD,cE,cG];refine⟨_,_,sH (n,a,rs) ⟨by dsimp only;omega,h8⟩,rfl,?_⟩;simp only[go_sem,zA,↓reduceIte,↓reduceDIte,zB,zC,zD,zE,zF,zG,zH,zI,fp,hH,cD,cE,cG]
 intro _;refine⟨fun h=>absurd h (by rw[List.length_replicate];omega),fun _=>⟨_,mW (n,a,rs) AE,fun _=>⟨_,_,hf,rfl,?_⟩⟩⟩;simp only[go_sem,zA,↓reduceIte,↓reduceDIte,zB,zC,zD,zE,zF,zG,zH,zI,fp,hH,cD,cE,cG]
 exact fun _=>trivial
end Go.Proofs.YtgpkijnphchkpaaGreat
namespace Go.Proofs.YtgpkijnphchkpaaGreat
attribute[local go_sem←]Bool.decide_and Bool.decide_or decide_not
attribute[local go_sem]St.ND Me
set_option maxHeartbeats 4000000
set_option maxRecDepth 100000
abbrev vq:=List (Rl×Int)
def bp(R L:List Bool):List Rl→Nat→vq|[],_=>[]|r::rs,i=>if R[r.1.toNat]?=some true∧L[r.2.1.toNat]?=some true then(r,(i:Int))::bp R L rs (i+1)else bp R L rs (i+1)
def j0(s:a8):vq:=bp (bJ s) (eU s) s.2.2 0
def gJ(s:a8):a8×List Int:=((s.1,s.2.1,(j0 s).map (·.1)),(j0 s).map (·.2))
theorem lh {R L:List Bool} {r:Rl} {rs:List Rl} {i:Nat} (h1:R[r.1.toNat]?=some true)(h2:L[r.2.1.toNat]?=some true):bp R L (r::rs) i=(r,(i:Int))::bp R L rs (i+1):=by
 have e:bp R L (r::rs) i=if R[r.1.toNat]?=some true∧L[r.2.1.toNat]?=some true then(r,(i:Int))::bp R L rs (i+1)else bp R L rs (i+1):=rfl;rw[e,if_pos ⟨h1,h2⟩]
theorem gb {R L:List Bool} {r:Rl} {rs:List Rl} {i:Nat} (h:R[r.1.toNat]?=some false∨L[r.2.1.toNat]?=some false):bp R L (r::rs) i=bp R L rs (i+1):=by
 have e:bp R L (r::rs) i=if R[r.1.toNat]?=some true∧L[r.2.1.toNat]?=some true then(r,(i:Int))::bp R L rs (i+1)else bp R L rs (i+1):=rfl;rw[e,if_neg];rintro⟨a,b⟩
 rcases h with h|h;(·rw[a]at h;simp at h);·rw[b]at h;simp at h
theorem lj(R L:List Bool): ∀(rs:List Rl)(i:Nat),(bp R L rs i).length≤rs.length|[],_=>Nat.le_refl _|r::rs,i=>by have:=lj R L rs (i+1);unfold bp;split<;>simp only[List.length_cons]<;>omega
def gy:vq→PV×PV|[]=>(.Ms,.Ms)|_::_=>(.LV 48,.LV 53)
def hZ:vq→List (Nat×L9)|[]=>[]|x::r=>[(48,.arr Mn ((x::r).map (·.1))),(53,.arr (.int .i64) ((x::r).map (·.2)))]
def iO:vq→PV|[]=>.Ms|_::_=>.LV 1000
def iP:vq→List (Nat×L9)|[]=>[(18,.arr (.int .i64) [])]|x::r=>[(1000,.arr Mn ((x::r).map (·.1))),(18,.arr (.int .i64) ((x::r).map (·.2)))]
theorem BP(s:a8)(hs:cx s):PC env 122 [⟨LQ,s⟩] (.Mj LQ (.sl (.int .i64))) (gJ s):=by
 have AE:=hs;(have Ku:(bJ s).length=s.1.toNat:=by unfold bJ;rw[ga];unfold fj;simp);(have IM:(eU s).length=s.1.toNat:=by unfold eU;rw[ga,fk]);have c1:=tX s hs;have c2:=BL s hs
 have hT:bp (bJ s) (eU s) s.2.2 0=j0 s:=rfl;have hE:gJ s=((s.1,s.2.1,(j0 s).map (·.1)),(j0 s).map (·.2)):=rfl;rw[hE];generalize bJ s=R at*;generalize eU s=L at*
 generalize j0 s=T at*;obtain⟨n,a,rs⟩:=s;have h8:=hs.n8;have hl:=hs.len;have hr:=hs.right;dsimp only at h8 hl hr Ku IM hT⊢;refine PC.LU (m:=2000) av aj6 rfl rfl rfl rfl (by kernel_rfl) ?_
 intro hx;simp only[Tryz.f122];simp only[go_sem,zA,↓reduceIte,↓reduceDIte,zB,zC,zD,zE,zF,zG,zH,zI,gy,hZ,iO,iP];refine⟨_,c1,fun _=>⟨_,c2,fun _=>?_⟩⟩;refine u1.Mp (X:=Nat×vq) (fun(z:Nat×vq)=>[(22,.iv (.int .i64) (z.1:Int)),(7,(gy z.2).2),(8,.any),(9,.any)]) (fun(z:Nat×vq)=>((6,.box [.iv (.int .i64) n,.iv (.int .u8) a,(gy z.2).1])::hZ z.2)) (fun(z:Nat×vq)=>z.1≤rs.length∧z.2.length≤z.1∧z.2++bp R L (rs.drop z.1) z.1=T) (fun(z:Nat×vq)=>rs.length-z.1) (0,[]) ?_
 intro b1 b2 ao aq;simp(config:= {maxSteps:=4000000})only[go_sem,zA,↓reduceIte,↓reduceDIte,zB,zC,zD,zE,zF,zG,zH,zI,gy,hZ,iO,iP]at ao aq;subst ao;subst aq;refine⟨(by refine⟨?_,?_,rfl,rfl⟩<;>repeat' (first|exact trivial|exact Or.inl rfl|exact Or.inr rfl|apply aw|apply ax|apply ay|apply az|exact⟨(by show(_:Nat)<1000000000;omega),rfl,rfl⟩|rfl|(refine And.intro (Or.inl ?_) ?_)|(refine And.intro ?_ ?_))),?_,?_⟩
 (·exact⟨Nat.zero_le _,Nat.le_refl _,hT⟩);clear hT;intro⟨k,acc⟩⟨hk,ha,hT⟩back;dsimp only at hk ha hT;rcases acc with _|⟨p0,acc⟩;(·refine LP av ⟨_,aj6,rfl⟩ 2000 _ _ (by kernel_rfl) ?_;simp only[go_sem,zA,↓reduceIte,↓reduceDIte,zB,zC,zD,zE,zF,zG,zH,zI,gy,hZ,iO,iP];refine⟨fun g=>?_,fun g=>?_⟩;(·obtain⟨r,rC⟩: ∃r,rs[k]?=some r:=r3 (by omega);have qZ:=hr r (List.mem_of_getElem? rC);have tJ:=aI qZ;rw[drop_cons rC]at hT;obtain⟨b1,ao⟩: ∃b,R[r.1.toNat]?=some b:=r3 (by omega);obtain⟨b2,aq⟩: ∃b,L[r.2.1.toNat]?=some b:=r3 (by omega);have hf:=rH (n,a,rs) r;dsimp only at hf;rw[gY h8 qZ]at hf;refine⟨Int.natCast_nonneg _,r,rC,_,hf,?_⟩;simp only[go_sem,zA,↓reduceIte,↓reduceDIte,zB,zC,zD,zE,zF,zG,zH,zI,gy,hZ,iO,iP];refine⟨by omega,b1,ao,?_⟩;cases b1;(·simp only[go_sem,zA,↓reduceIte,↓reduceDIte,zB,zC,zD,zE,zF,zG,zH,zI,gy,hZ,iO,iP];rw[gb (.inl ao)]at hT;exact⟨LN (by omega) (by omega),back _ (k+1,[]) (by refine⟨?_,?_,rfl,rfl⟩<;>repeat' (first|exact trivial|exact Or.inl rfl|exact Or.inr rfl|apply aw|apply ax|apply ay|apply az|exact⟨(by show(_:Nat)<1000000000;omega),rfl,rfl⟩|rfl|(refine And.intro (Or.inl ?_) ?_)|(refine And.intro ?_ ?_))) ⟨(by first|omega|(show(_:Int)≤_;omega)|(show(_:Int)<_;omega)|(dsimp only;omega)),by dsimp only;omega,hT⟩ (by dsimp only;omega)⟩);·simp only[go_sem,zA,↓reduceIte,↓reduceDIte,zB,zC,zD,zE,zF,zG,zH,zI,gy,hZ,iO,iP];refine⟨by omega,b2,aq,?_⟩;cases b2;(·simp only[go_sem,zA,↓reduceIte,↓reduceDIte,zB,zC,zD,zE,zF,zG,zH,zI,gy,hZ,iO,iP];rw[gb (.inr aq)]at hT;exact⟨LN (by omega) (by omega),back _ (k+1,[]) (by refine⟨?_,?_,rfl,rfl⟩<;>repeat' (first|exact trivial|exact Or.inl rfl|exact Or.inr rfl|apply aw|apply ax|apply ay|apply az|exact⟨(by show(_:Nat)<1000000000;omega),rfl,rfl⟩|rfl|(refine And.intro (Or.inl ?_) ?_)|(refine And.intro ?_ ?_))) ⟨(by first|omega|(show(_:Int)≤_;omega)|(show(_:Int)<_;omega)|(dsimp only;omega)),by dsimp only;omega,hT⟩ (by dsimp only;omega)⟩);·simp only[go_sem,zA,↓reduceIte,↓reduceDIte,zB,zC,zD,zE,zF,zG,zH,zI,gy,hZ,iO,iP];rw[lh ao aq]at hT;exact⟨LN (by omega) (by omega),back _ (k+1,[(r,(k:Int))]) (by refine⟨?_,?_,rfl,rfl⟩<;>repeat' (first|exact trivial|exact Or.inl rfl|exact Or.inr rfl|apply aw|apply ax|apply ay|apply az|exact⟨(by show(_:Nat)<1000000000;omega),rfl,rfl⟩|rfl|(refine And.intro (Or.inl ?_) ?_)|(refine And.intro ?_ ?_))) ⟨(by first|omega|(show(_:Int)≤_;omega)|(show(_:Int)<_;omega)|(dsimp only;omega)),by simp,hT⟩ (by dsimp only;omega)⟩);·rw[List.drop_of_length_le (by omega)]at hT;(have e:([]:vq)=T:=by simpa[bp]using hT);rw[←e];rfl)
 ·refine LP av ⟨_,aj6,rfl⟩ 2000 _ _ (by kernel_rfl) ?_;simp only[go_sem,zA,↓reduceIte,↓reduceDIte,zB,zC,zD,zE,zF,zG,zH,zI,gy,hZ,iO,iP];refine⟨fun g=>?_,fun g=>?_⟩;(·obtain⟨r,rC⟩: ∃r,rs[k]?=some r:=r3 (by omega);have qZ:=hr r (List.mem_of_getElem? rC);have tJ:=aI qZ;rw[drop_cons rC]at hT;obtain⟨b1,ao⟩: ∃b,R[r.1.toNat]?=some b:=r3 (by omega);obtain⟨b2,aq⟩: ∃b,L[r.2.1.toNat]?=some b:=r3 (by omega);have hf:=rH (n,a,rs) r;dsimp only at hf;rw[gY h8 qZ]at hf;refine⟨Int.natCast_nonneg _,r,rC,_,hf,?_⟩;simp only[go_sem,zA,↓reduceIte,↓reduceDIte,zB,zC,zD,zE,zF,zG,zH,zI,gy,hZ,iO,iP];refine⟨by omega,b1,ao,?_⟩;cases b1;(·simp only[go_sem,zA,↓reduceIte,↓reduceDIte,zB,zC,zD,zE,zF,zG,zH,zI,gy,hZ,iO,iP];rw[gb (.inl ao)]at hT;exact⟨LN (by omega) (by omega),back _ (k+1,p0::acc) (by refine⟨?_,?_,rfl,rfl⟩<;>repeat' (first|exact trivial|exact Or.inl rfl|exact Or.inr rfl|apply aw|apply ax|apply ay|apply az|exact⟨(by show(_:Nat)<1000000000;omega),rfl,rfl⟩|rfl|(refine And.intro (Or.inl ?_) ?_)|(refine And.intro ?_ ?_))) ⟨(by first|omega|(show(_:Int)≤_;omega)|(show(_:Int)<_;omega)|(dsimp only;omega)),by dsimp only;omega,hT⟩ (by dsimp only;omega)⟩);·simp only[go_sem,zA,↓reduceIte,↓reduceDIte,zB,zC,zD,zE,zF,zG,zH,zI,gy,hZ,iO,iP];refine⟨by omega,b2,aq,?_⟩;cases b2;(·simp only[go_sem,zA,↓reduceIte,↓reduceDIte,zB,zC,zD,zE,zF,zG,zH,zI,gy,hZ,iO,iP];rw[gb (.inr aq)]at hT;exact⟨LN (by omega) (by omega),back _ (k+1,p0::acc) (by refine⟨?_,?_,rfl,rfl⟩<;>repeat' (first|exact trivial|exact Or.inl rfl|exact Or.inr rfl|apply aw|apply ax|apply ay|apply az|exact⟨(by show(_:Nat)<1000000000;omega),rfl,rfl⟩|rfl|(refine And.intro (Or.inl ?_) ?_)|(refine And.intro ?_ ?_))) ⟨(by first|omega|(show(_:Int)≤_;omega)|(show(_:Int)<_;omega)|(dsimp only;omega)),by dsimp only;omega,hT⟩ (by dsimp only;omega)⟩);·simp only[go_sem,zA,↓reduceIte,↓reduceDIte,zB,zC,zD,zE,zF,zG,zH,zI,gy,hZ,iO,iP];rw[lh ao aq]at hT;(have e1:List.map (fun x:Rl×Int=>x.2) acc++ [(k:Int)]=List.map (fun x=>x.2) (acc++ [(r,(k:Int))]):=by simp);(have e2:List.map (fun x:Rl×Int=>x.1) acc++ [(r.1,r.2.1,r.2.2.1,r.2.2.2.1,r.2.2.2.2)]=List.map (fun x=>x.1) (acc++ [(r,(k:Int))]):=by simp);rw[e1,e2];simp only[List.length_cons]at ha;exact⟨by rw[List.length_map];omega,by rw[List.length_map];omega,LN (by omega) (by omega),back _ (k+1,p0::(acc++ [(r,(k:Int))])) (by refine⟨?_,?_,rfl,rfl⟩<;>repeat' (first|exact trivial|exact Or.inl rfl|exact Or.inr rfl|apply aw|apply ax|apply ay|apply az|exact⟨(by show(_:Nat)<1000000000;omega),rfl,rfl⟩|rfl|(refine And.intro (Or.inl ?_) ?_)|(refine And.intro ?_ ?_))) ⟨(by first|omega|(show(_:Int)≤_;omega)|(show(_:Int)<_;omega)|(dsimp only;omega)),by simp;omega,by rw[←hT];simp⟩ (by dsimp only;omega)⟩);·rw[List.drop_of_length_le (by omega)]at hT;(have e:p0::acc=T:=by simpa[bp]using hT);rw[←e];rfl
end Go.Proofs.YtgpkijnphchkpaaGreat
namespace Go.Proofs.YtgpkijnphchkpaaGreat
set_option maxHeartbeats 4000000
set_option maxRecDepth 100000
structure BQ(a:Int)(n k:Nat)(L:List En):Prop where
 len:L.length=n
 at_: ∀i e,L[i]?=some e→e=([],0,decide (i<k)&&cV a (i:Int))
theorem BQ.zero {a:Int} {n:Nat} :BQ a n 0 (List.replicate n ([],0,false)):=⟨List.length_replicate ..,fun i e h=>by rw[List.getElem?_replicate]at h;split at h;(·injection h with h;rw[←h];simp);·cases h⟩
theorem BQ.next {a:Int} {n k:Nat} {L:List En} (h:BQ a n k L):BQ a n (k+1) (L.modify k fun x=>(x.1,x.2.1,cV a (k:Int))):=⟨by rw[List.length_modify];exact h.len,fun i e he=>by rw[List.getElem?_modify]at he;cases hi:L[i]? with|none=>rw[hi]at he;cases he|some q=>rw[hi]at he;(have he:(if k=i then((q.1,q.2.1,cV a (k:Int)):En)else q)=e:=by injection he);have:=h.at_ i q hi;subst this;rw[←he];by_cases fB:k=i;(·subst fB;simp);·rw[if_neg fB];have:decide (i<k)=decide (i<k+1):=decide_eq_decide.2 (by omega);rw[this]⟩
theorem BQ.done {a:Int} {n:Nat} {L:List En} (h:BQ a n n L):L=g9 a n:=by
 refine List.ext_getElem? fun i=>?_;unfold g9;rw[List.getElem?_map];by_cases hi:i<n;(·rw[List.getElem?_range hi];obtain⟨e,he⟩: ∃e,L[i]?=some e:=r3 (by rw[h.len];exact hi);rw[he,h.at_ i e he];simp[hi])
 ·rw[List.getElem?_eq_none (by rw[h.len];omega),List.getElem?_eq_none (by simp;omega)];rfl
end Go.Proofs.YtgpkijnphchkpaaGreat
namespace Go.Proofs.YtgpkijnphchkpaaGreat
set_option maxHeartbeats 4000000
set_option maxRecDepth 100000
def Ht:a8:=(2,1,[(0,1,[99],[],1),(0,0,[98],[98],2)])
theorem tf:gJ Ht=((2,1,[(0,0,[98],[98],2)]),[1]):=by decide
theorem sM {E:Env} {G:Goal} {n:Nat} {b b':Bool} {d:Nat} {want:Bool} {o:Oper} {all:List Oper} {N:List Nat} {acc:List (List Nat)} {os:List Oper} {k:List WI} {s:St} (h:b=b')(hp:PK E G n (.iv .bool b') d want o all N acc os k s):PK E G n (.iv .bool b) d want o all N acc os k s:=by
 rw[h];exact hp
end Go.Proofs.YtgpkijnphchkpaaGreat
namespace Go.Proofs.YtgpkijnphchkpaaGreat
set_option maxHeartbeats 4000000
set_option maxRecDepth 100000
end Go.Proofs.YtgpkijnphchkpaaGreat
namespace Go.Proofs.YtgpkijnphchkpaaGreat
set_option maxHeartbeats 4000000
set_option maxRecDepth 100000
end Go.Proofs.YtgpkijnphchkpaaGreat
namespace Go.Proofs.YtgpkijnphchkpaaGreat
set_option maxHeartbeats 4000000
set_option maxRecDepth 100000
theorem tY {s:a8} (hs:cx s): ∀e,e∈gZ s.2.2→e.2<(fj s.1.toNat).length:=by
 intro e he;unfold gZ at he;obtain⟨r,hr,rfl⟩:=List.mem_map.1 he;have:=aI (hs.right r hr);unfold fj;simp;omega
theorem tZ {s:a8} (hs:cx s): ∀e,e∈dp s.2.2→e.2<(bX s.2.1 s.1.toNat).length:=by
 intro e he;unfold dp at he;obtain⟨r,hr,rfl⟩:=List.mem_map.1 he;have:=aI (hs.right r hr);rw[fk];show r.1.toNat<_;omega
theorem fP {s:a8} (hs:cx s)(m:Nat):on (bJ s) m↔Cl (gZ s.2.2) (fj s.1.toNat) m:=iL (tY hs) (by unfold fj;simp) m
theorem nP {s:a8} (hs:cx s)(m:Nat):on (eU s) m↔Cl (dp s.2.2) (bX s.2.1 s.1.toNat) m:=iL (tZ hs) (by rw[fk];exact Nat.le_refl _) m
theorem nQ {s:a8} (hs:cx s):on (bJ s) 0:=(fP hs 0).2 (.base 0 (fM (by have:=hs.n1;rw[List.length_replicate];omega)))
theorem nR {s:a8} (hs:cx s) {r:Rl} (hr:r∈s.2.2)(h:on (bJ s) r.1.toNat):on (bJ s) r.2.1.toNat:=(fP hs _).2 (.step _ _ ((fP hs _).1 h) (List.mem_map.2 ⟨r,hr,rfl⟩))
theorem uc {s:a8} (hs:cx s) {r:Rl} (hr:r∈s.2.2)(h:on (eU s) r.2.1.toNat):on (eU s) r.1.toNat:=(nP hs _).2 (.step _ _ ((nP hs _).1 h) (List.mem_map.2 ⟨r,hr,rfl⟩))
theorem wL {s:a8} (hs:cx s) {m:Nat} (hm:m<s.1.toNat)(h:cV s.2.1 (m:Int)=true):on (eU s) m:=(nP hs _).2 (.base m (by unfold on;rw[m3 hm,h]))
end Go.Proofs.YtgpkijnphchkpaaGreat
namespace Go.Proofs.YtgpkijnphchkpaaGreat
set_option maxHeartbeats 4000000
set_option maxRecDepth 100000
theorem ia {R L:List Bool} : ∀ {rs:List Rl} {i:Nat} {p:Rl×Int},p∈bp R L rs i↔ ∃(j:Nat),rs[j]?=some p.1∧p.2=((i+j:Nat):Int)∧on R p.1.1.toNat∧on L p.1.2.1.toNat|[],i,p=>(by simp[bp])|r::rs,i,p=>by have ih:= @ia R L rs (i+1) p;(have hd:(∃(j:Nat),(r::rs)[j]?=some p.1∧p.2=((i+j:Nat):Int)∧on R p.1.1.toNat∧on L p.1.2.1.toNat)↔(r=p.1∧p.2=(i:Int)∧on R p.1.1.toNat∧on L p.1.2.1.toNat)∨ ∃(j:Nat),rs[j]?=some p.1∧p.2=((i+1+j:Nat):Int)∧on R p.1.1.toNat∧on L p.1.2.1.toNat:=by constructor;(·rintro⟨j,h1,h2,h3⟩;cases j with|zero=>exact .inl ⟨by simpa using h1,by simpa using h2,h3⟩|succ j=>exact .inr ⟨j,by simpa using h1,by rw[h2];congr 1;omega,h3⟩);·rintro(⟨h1,h2,h3⟩|⟨j,h1,h2,h3⟩);(·exact⟨0,by simpa using h1,by simpa using h2,h3⟩);·exact⟨j+1,by simpa using h1,by rw[h2];congr 1;omega,h3⟩);rw[hd,←ih];have e:bp R L (r::rs) i=if R[r.1.toNat]?=some true∧L[r.2.1.toNat]?=some true then(r,(i:Int))::bp R L rs (i+1)else bp R L rs (i+1):=rfl;rw[e];split;(·rename_i h;rw[List.mem_cons];refine or_congr ?_ Iff.rfl;constructor;(·rintro rfl;exact⟨rfl,rfl,h⟩);·rintro⟨rfl,h2,_⟩;exact Prod.ext rfl h2);·rename_i h;refine⟨.inr,fun g=>g.resolve_left ?_⟩;rintro⟨rfl,_,h3⟩;exact h h3
theorem ib {R L:List Bool} : ∀ {rs:List Rl} {i:Nat},((bp R L rs i).map (·.1)).Sublist rs|[],_=>List.Sublist.slnil|r::rs,i=>by have e:bp R L (r::rs) i=if R[r.1.toNat]?=some true∧L[r.2.1.toNat]?=some true then(r,(i:Int))::bp R L rs (i+1)else bp R L rs (i+1):=rfl;rw[e];split;(·exact List.Sublist.cons_cons _ ib);·exact List.Sublist.cons _ ib
theorem jC {s:a8} {r:Rl} :r∈(gJ s).1.2.2↔r∈s.2.2∧on (bJ s) r.1.toNat∧on (eU s) r.2.1.toNat:=by
 show r∈(j0 s).map (·.1)↔_;rw[List.mem_map];constructor;(·rintro⟨p,hp,rfl⟩;obtain⟨j,h1,_,h3⟩:=ia.1 hp;exact⟨List.mem_of_getElem? h1,h3⟩);·rintro⟨h1,h2⟩;obtain⟨j,hj⟩:=List.getElem?_of_mem h1;exact⟨(r,((0+j:Nat):Int)),ia.2 ⟨j,hj,rfl,h2⟩,rfl⟩
theorem zh {s:a8} (hs:cx s):cx (gJ s).1:=⟨hs.n1,hs.n8,hs.a1,hs.a2,Nat.le_trans (by show((j0 s).map (·.1)).length≤_;rw[List.length_map];exact lj _ _ _ _) hs.len,fun r hr=>hs.right r (jC.1 hr).1,hs.nodup.sublist ib⟩
end Go.Proofs.YtgpkijnphchkpaaGreat
