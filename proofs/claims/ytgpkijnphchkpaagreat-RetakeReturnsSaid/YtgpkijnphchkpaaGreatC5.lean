/- The law RouteTrims, as a contract. Nothing here is trusted; no condition. -/
import Derived.Test.YtgpkijnphchkpaaGreatC4
set_option linter.unusedSimpArgs false
set_option linter.unusedVariables false
open Nat renaming reduceBEq→zA,reduceAdd→zB,reduceSub→zC,reduceMul→zD,reduceLeDiff→zE
open Int renaming reduceLT→zF,reduceLE→zG,reduceToNat→zH,reduceNeg→zI
namespace Go.Proofs.YtgpkijnphchkpaaGreat
attribute[local go_sem←]Bool.decide_and Bool.decide_or decide_not
set_option maxHeartbeats 4000000
set_option maxRecDepth 100000
theorem gZ {i0 i1 i2 j:Nat} {r:List Nat} {d:Nat} :back (i0::i1::i2::j::r) d 1000000003=j:=rfl
theorem hH {i0 i1 i2 i3 j:Nat} {r:List Nat} {d:Nat} :back (i0::i1::i2::i3::j::r) d 1000000004=j:=rfl
theorem hZ {i0 i1 i2 i3 i4 j:Nat} {r:List Nat} {d:Nat} :back (i0::i1::i2::i3::i4::j::r) d 1000000005=j:=rfl
def oE(n a:Int)(rs:List Rl)(L:List Bool):List (Nat×aO):=[(1000000000,.box [.fn 168 [.ref 1000000002 0,.ref 1000000003 0,.ref 1000000004 0]]),(1000000001,.box [.fn 179 [.ref 1000000000 0,.ref 1000000001 0]]),(1000000002,.box [.aF 1000000005]),(1000000003,.box [.iv (.mp (.int .i64) (.sl (.int .i64))) (eH rs)]),(1000000004,.box [.iv (.int .i64) n,.iv (.int .u8) a,.iv (.sl bn) rs]),(1000000005,.arr .bool L)]
def sS(n a:Int)(rs:List Rl)(L:List Bool):List (Nat×aO):=[(1000000000,.box [.aF 1000000003]),(1000000001,.box [.iv (.mp (.int .i64) (.sl (.int .i64))) (eH rs)]),(1000000002,.box [.iv (.int .i64) n,.iv (.int .u8) a,.iv (.sl bn) rs]),(1000000003,.arr .bool L)]
def tgt(rs:List Rl)(j:Int):Nat:=match rs[j.toNat]? with|some r=>r.2.1.toNat|none=>0
def yO(rs:List Rl)(m:Nat):List Nat:=(ix (m:Int) rs 0).map (tgt rs)
theorem aq6(n a:Int)(rs:List Rl)(hs:iB (n,a,rs))(f:Nat)(ih: ∀(L:List Bool)(m:Int),L.length=n.toNat→0≤m→m<n→cf L<f→HC env 179 [.iv (.int .i64) m,.ref 1000000000 0,.ref 1000000001 0] (oE n a rs L) (.bq []) (oE n a rs (jd (yO rs) f L m.toNat)))(L:List Bool)(m:Int)(hL:L.length=n.toNat)(h0:0≤m)(hm:m<n)(hc:cf L<f+1):HC env 168 [.iv (.int .i64) m,.fn 179 [.ref 1000000000 0,.ref 1000000001 0],.ref 1000000002 0,.ref 1000000003 0,.ref 1000000004 0] (oE n a rs L) (.bq []) (oE n a rs (jd (yO rs) (f+1) L m.toNat)):=by
 have h8:=hs.n8;have hr:=hs.right;have hl:=hs.len;dsimp only at h8 hr hl;obtain⟨b,hb⟩: ∃b,L[m.toNat]?=some b:=an (by omega);generalize hT:jd (yO rs) (f+1) L m.toNat=T
 refine HC.ay (m:=2000) ae Uh rfl rfl rfl rfl (by kernel_rfl) ?_;intro hx kj;simp only[Tryz.f168];simp only[go_sem,zA,↓reduceIte,↓reduceDIte,zB,zC,zD,zE,zF,zG,zH,zI,oE,sS,gZ,hH,hZ]
 refine⟨⟨h0,by omega⟩,b,hb,?_⟩;cases b;(·simp only[go_sem,zA,↓reduceIte,↓reduceDIte,zB,zC,zD,zE,zF,zG,zH,zI,oE,sS,gZ,hH,hZ];refine⟨⟨h0,by omega⟩,?_⟩;rw[show(aL (gF (.int .i64)) (eH rs) m).getD []=ix m rs 0 from A3 rs m];(have Uu:((ix m rs 0).map (tgt rs)).foldl (fun L k=>jd (yO rs) f L k) (L.set m.toNat true)=T:=by rw[←hT];have e:jd (yO rs) (f+1) L m.toNat=if L[m.toNat]?=some true then L else(yO rs m.toNat).foldl (fun L k=>jd (yO rs) f L k) (L.set m.toNat true):=rfl;rw[e,if_neg (by rw[hb];simp)];unfold yO;rw[show((m.toNat:Nat):Int)=m by omega]);have hcf:=wO hb;have hnl:=wQ m rs 0;(have hG: ∀x y,y∈yO rs x→y<n.toNat:=fun x y hy=>by unfold yO at hy;obtain⟨j,hj,rfl⟩:=List.mem_map.1 hy;obtain⟨i,r,hi,_,rfl⟩:=jz.1 hj;have:=bK (hr r (List.mem_of_getElem? hi));unfold tgt;rw[Nat.zero_add,Int.toNat_natCast,hi];show r.2.1.toNat<_;omega);refine ah.bH (X:=Nat×List Bool) (fun(z:Nat×List Bool)=>[(20,.iv (.int .i64) (z.1:Int)),(8,.any)]) (fun(z:Nat×List Bool)=>[(1000000005,.arr .bool z.2)]) (fun(z:Nat×List Bool)=>z.1≤(ix m rs 0).length∧z.2.length=n.toNat∧cf z.2<f∧(((ix m rs 0).drop z.1).map (tgt rs)).foldl (fun L k=>jd (yO rs) f L k) z.2=T) (fun(z:Nat×List Bool)=>(ix m rs 0).length-z.1) (0,L.set m.toNat true) ?_;intro b1 b2 bg bu;simp(config:= {maxSteps:=4000000})only[go_sem,zA,↓reduceIte,↓reduceDIte,zB,zC,zD,zE,zF,zG,zH,zI,oE,sS,gZ,hH,hZ]at bg bu;subst bg;subst bu;refine⟨(by refine⟨?_,?_,rfl,rfl⟩<;>repeat' (first|exact trivial|exact Or.inl rfl|exact Or.inr rfl|apply bw|apply bx|apply bz|apply bD|exact⟨(by show(_:Nat)<1000000000;omega),rfl,rfl⟩|rfl|(refine And.intro (Or.inl ?_) ?_)|(refine And.intro ?_ ?_))),?_,?_⟩;(·exact⟨Nat.zero_le _,by simpa using hL,by dsimp only;omega,Uu⟩);clear Uu;intro⟨k,M⟩⟨hk,hM,hcM,Uu⟩back;dsimp only at hk hM hcM Uu;refine av ae ⟨_,Uh,rfl⟩ 2000 _ _ (by kernel_rfl) ?_;simp only[go_sem,zA,↓reduceIte,↓reduceDIte,zB,zC,zD,zE,zF,zG,zH,zI,oE,sS,gZ,hH,hZ];refine⟨fun g=>?_,fun g=>?_⟩;(·obtain⟨j,hj⟩: ∃j,(ix m rs 0)[k]?=some j:=an (by omega);obtain⟨i,r,KC,vH,BY⟩:=jz.1 (List.mem_of_getElem? hj);rw[Nat.zero_add]at BY;subst BY;(have KV:rs[((i:Int)).toNat]?=some r:=by simpa using KC);have hrn:=bK (hr r (List.mem_of_getElem? KC));refine⟨Int.natCast_nonneg _,(i:Int),hj,Int.natCast_nonneg _,r,KV,_,_,ih M r.2.1 hM (by omega) (by omega) hcM,rfl,?_⟩;simp only[go_sem,zA,↓reduceIte,↓reduceDIte,zB,zC,zD,zE,zF,zG,zH,zI,oE,sS,gZ,hH,hZ];intro _;rw[drop_cons hj,List.map_cons,List.foldl_cons]at Uu;(have et:tgt rs (i:Int)=r.2.1.toNat:=by unfold tgt;rw[KV]);rw[et]at Uu;have hd:=(KU hG f M r.2.1.toNat hM (by omega) hcM).1;refine⟨aw (by omega) (by omega),back _ (k+1,jd (yO rs) f M r.2.1.toNat) (by refine⟨?_,?_,rfl,rfl⟩<;>repeat' (first|exact trivial|exact Or.inl rfl|exact Or.inr rfl|apply bw|apply bx|apply bz|apply bD|exact⟨(by show(_:Nat)<1000000000;omega),rfl,rfl⟩|rfl|(refine And.intro (Or.inl ?_) ?_)|(refine And.intro ?_ ?_))) ⟨(by first|omega|(show(_:Int)≤_;omega)|(show(_:Int)<_;omega)|(dsimp only;omega)),by dsimp only;rw[A2];exact hM,by have:=hd.cf;dsimp only;omega,Uu⟩ (by dsimp only;omega)⟩);·rw[List.drop_of_length_le (by omega)]at Uu;have e:M=T:=Uu;rw[e])
 ·simp only[go_sem,zA,↓reduceIte,↓reduceDIte,zB,zC,zD,zE,zF,zG,zH,zI,oE,sS,gZ,hH,hZ];have e:jd (yO rs) (f+1) L m.toNat=if L[m.toNat]?=some true then L else(yO rs m.toNat).foldl (fun L k=>jd (yO rs) f L k) (L.set m.toNat true):=rfl;rw[e,if_pos hb]at hT;rw[hT]
theorem Uv(n a:Int)(rs:List Rl)(hs:iB (n,a,rs)): ∀(f:Nat)(L:List Bool)(m:Int),L.length=n.toNat→0≤m→m<n→cf L<f→HC env 179 [.iv (.int .i64) m,.ref 1000000000 0,.ref 1000000001 0] (oE n a rs L) (.bq []) (oE n a rs (jd (yO rs) f L m.toNat))|0,L,m,_,_,_,h=>(by omega)|f+1,L,m,hL,h0,hm,hc=>by have hv:=aq6 n a rs hs f (Uv n a rs hs f) L m hL h0 hm hc;generalize jd (yO rs) (f+1) L m.toNat=T at hv;refine HC.ay (m:=2000) ae a27 rfl rfl rfl rfl (by kernel_rfl) ?_;intro hx kj;simp only[Tryz.f179];simp only[go_sem,zA,↓reduceIte,↓reduceDIte,zB,zC,zD,zE,zF,zG,zH,zI,oE,sS,gZ,hH,hZ];refine⟨_,_,hv,rfl,?_⟩;simp only[go_sem,zA,↓reduceIte,↓reduceDIte,zB,zC,zD,zE,zF,zG,zH,zI,oE,sS,gZ,hH,hZ];intro _;exact trivial
theorem a40(n a:Int)(rs:List Rl)(hs:iB (n,a,rs))(f:Nat)(L:List Bool)(m:Int)(hL:L.length=n.toNat)(h0:0≤m)(hm:m<n)(hc:cf L<f):HC env 167 [.iv (.int .i64) m,.fn 168 [.ref 1000000000 0,.ref 1000000001 0,.ref 1000000002 0]] (sS n a rs L) (.bq []) (sS n a rs (jd (yO rs) f L m.toNat)):=by
 have hv:=Uv n a rs hs f L m hL h0 hm hc;generalize jd (yO rs) f L m.toNat=T at hv;refine HC.ay (m:=2000) ae a22 rfl rfl rfl rfl (by kernel_rfl) ?_;intro hx kj;simp only[Tryz.f167]
 simp only[go_sem,zA,↓reduceIte,↓reduceDIte,zB,zC,zD,zE,zF,zG,zH,zI,oE,sS,gZ,hH,hZ];refine⟨_,_,hv,rfl,?_⟩;simp only[go_sem,zA,↓reduceIte,↓reduceDIte,zB,zC,zD,zE,zF,zG,zH,zI,oE,sS,gZ,hH,hZ]
 intro _;exact trivial
theorem A5 {rs:List Rl} {x y:Nat} :y∈yO rs x↔ ∃r,r∈rs∧r.1=(x:Int)∧y=r.2.1.toNat:=by
 unfold yO;constructor;(·intro hy;obtain⟨j,hj,rfl⟩:=List.mem_map.1 hy;obtain⟨i,r,hi,hm,rfl⟩:=jz.1 hj;refine⟨r,List.mem_of_getElem? hi,hm,?_⟩;unfold tgt;rw[Nat.zero_add,Int.toNat_natCast,hi])
 ·rintro⟨r,hr,hm,rfl⟩;obtain⟨i,hi⟩:=List.getElem?_of_mem hr;refine List.mem_map.2 ⟨(i:Int),jz.2 ⟨i,r,hi,hm,by rw[Nat.zero_add]⟩,?_⟩;unfold tgt;rw[Int.toNat_natCast,hi]
theorem a41 {n a:Int} {rs:List Rl} (hs:iB (n,a,rs)):jd (yO rs) (n.toNat+1) (List.replicate n.toNat false) 0=eb (n,a,rs):=by
 have h1:=hs.n1;have hr:=hs.right;dsimp only at h1 hr;(have off: ∀m,¬on (List.replicate n.toNat false) m:=fun m h=>by unfold on at h;rw[List.getElem?_replicate]at h;split at h<;>simp at h)
 (have di:(oC n.toNat).length=n.toNat:=by unfold oC;simp);(have on0: ∀m,on (oC n.toNat) m→m=0:=fun m h=>by rcases iM h with e|e;(·exact e);·exact absurd e (off m))
 (have hG: ∀x y,y∈yO rs x→y<n.toNat:=fun x y hy=>by obtain⟨r,h1,h2,rfl⟩:=A5.1 hy;have:=bK (hr r h1);omega);(have hE: ∀x y,y∈yO rs x→(x,y)∈sR rs:=fun x y hy=>by obtain⟨r,h1,h2,rfl⟩:=A5.1 hy;exact List.mem_map.2 ⟨r,h1,by rw[h2,Int.toNat_natCast]⟩)
 (have hcf:cf (List.replicate n.toNat false)<n.toNat+1:=by have:=Up (List.replicate n.toNat false);rw[List.length_replicate]at this;omega);obtain⟨d1,d2⟩:=KU hG (n.toNat+1) (List.replicate n.toNat false) 0 (List.length_replicate ..) (by omega) hcf
 refine DE ?_ (by rw[di];exact Nat.le_refl _) (by rw[A2,di,List.length_replicate]) (DF hE _ _ _ (fun m h=>absurd h (off m)) (.base 0 (qn (by rw[List.length_replicate];omega)))) ?_ ?_
 (·intro e he;unfold sR at he;obtain⟨r,vH,rfl⟩:=List.mem_map.1 he;have:=bK (hr r vH);rw[di];show r.2.1.toNat<n.toNat;omega);(·intro e he hon;rcases d1.new _ hon with h|h;(·exact absurd h (off _));·refine h _ ?_;unfold sR at he;obtain⟨r,vH,rfl⟩:=List.mem_map.1 he;have:=bK (hr r vH);exact A5.2 ⟨r,vH,by show r.1=((r.1.toNat:Nat):Int);omega,rfl⟩)
 ·intro m hm;rw[on0 m hm];exact d2
theorem OR(s:db)(hs:iB s):PC env 144 [⟨al,s⟩] (.sl .bool) (eb s):=by
 have hs0:=hs;obtain⟨n,a,rs⟩:=s;have h1:=hs.n1;have h8:=hs.n8;dsimp only at h1 h8;have hf:=a40 n a rs hs0 (n.toNat+1) (List.replicate n.toNat false) 0 (List.length_replicate ..) (Int.le_refl _) (by omega) (by have:=Up (List.replicate n.toNat false);rw[List.length_replicate]at this;omega)
 rw[show Int.toNat 0=0 from rfl,a41 hs0]at hf;generalize eb (n,a,rs)=T at hf⊢;refine PC.ay (m:=2000) ae a08 rfl rfl rfl rfl (by kernel_rfl) ?_;intro hx;simp only[Tryz.f144]
 simp only[go_sem,zA,↓reduceIte,↓reduceDIte,zB,zC,zD,zE,zF,zG,zH,zI,oE,sS,gZ,hH,hZ];refine⟨_,_,Mz (n,a,rs) ⟨by dsimp only;omega,h8⟩,rfl,?_⟩;simp only[go_sem,zA,↓reduceIte,↓reduceDIte,zB,zC,zD,zE,zF,zG,zH,zI,oE,sS,gZ,hH,hZ]
 intro _;refine⟨fun h=>absurd h (by rw[List.length_replicate];omega),fun _=>⟨_,DC (n,a,rs) hs0,fun _=>⟨_,_,hf,rfl,?_⟩⟩⟩;simp only[go_sem,zA,↓reduceIte,↓reduceDIte,zB,zC,zD,zE,zF,zG,zH,zI,oE,sS,gZ,hH,hZ]
 exact fun _=>trivial
end Go.Proofs.YtgpkijnphchkpaaGreat
namespace Go.Proofs.YtgpkijnphchkpaaGreat
attribute[local go_sem←]Bool.decide_and Bool.decide_or decide_not
attribute[local go_sem]St.ef aS
set_option maxHeartbeats 4000000
set_option maxRecDepth 100000
abbrev P2:=List (Rl×Int)
def dj(R L:List Bool):List Rl→Nat→P2|[],_=>[]|r::rs,i=>if R[r.1.toNat]?=some true∧L[r.2.1.toNat]?=some true then(r,(i:Int))::dj R L rs (i+1)else dj R L rs (i+1)
def xR(s:db):P2:=dj (eb s) (nt s) s.2.2 0
def uP(s:db):db×List Int:=((s.1,s.2.1,(xR s).map (·.1)),(xR s).map (·.2))
theorem A6 {R L:List Bool} {r:Rl} {rs:List Rl} {i:Nat} (h1:R[r.1.toNat]?=some true)(h2:L[r.2.1.toNat]?=some true):dj R L (r::rs) i=(r,(i:Int))::dj R L rs (i+1):=by
 have e:dj R L (r::rs) i=if R[r.1.toNat]?=some true∧L[r.2.1.toNat]?=some true then(r,(i:Int))::dj R L rs (i+1)else dj R L rs (i+1):=rfl;rw[e,if_pos ⟨h1,h2⟩]
theorem rA {R L:List Bool} {r:Rl} {rs:List Rl} {i:Nat} (h:R[r.1.toNat]?=some false∨L[r.2.1.toNat]?=some false):dj R L (r::rs) i=dj R L rs (i+1):=by
 have e:dj R L (r::rs) i=if R[r.1.toNat]?=some true∧L[r.2.1.toNat]?=some true then(r,(i:Int))::dj R L rs (i+1)else dj R L rs (i+1):=rfl;rw[e,if_neg];rintro⟨a,b⟩
 rcases h with h|h;(·rw[a]at h;simp at h);·rw[b]at h;simp at h
theorem A7(R L:List Bool): ∀(rs:List Rl)(i:Nat),(dj R L rs i).length≤rs.length|[],_=>Nat.le_refl _|r::rs,i=>by have:=A7 R L rs (i+1);unfold dj;split<;>simp only[List.length_cons]<;>omega
def rL:P2→PV×PV|[]=>(.bI,.bI)|_::_=>(.aF 48,.aF 53)
def sT:P2→List (Nat×aO)|[]=>[]|x::r=>[(48,.arr bn ((x::r).map (·.1))),(53,.arr (.int .i64) ((x::r).map (·.2)))]
def uQ:P2→PV|[]=>.bI|_::_=>.aF 1000
def uR:P2→List (Nat×aO)|[]=>[(18,.arr (.int .i64) [])]|x::r=>[(1000,.arr bn ((x::r).map (·.1))),(18,.arr (.int .i64) ((x::r).map (·.2)))]
theorem a42(s:db)(hs:iB s):PC env 122 [⟨al,s⟩] (.bq al (.sl (.int .i64))) (uP s):=by
 have hs0:=hs;(have hRl:(eb s).length=s.1.toNat:=by unfold eb;rw[rz];unfold oC;simp);(have hLl:(nt s).length=s.1.toNat:=by unfold nt;rw[rz,oD]);have c1:=OR s hs
 have c2:=a39 s hs;have hT:dj (eb s) (nt s) s.2.2 0=xR s:=rfl;have hE:uP s=((s.1,s.2.1,(xR s).map (·.1)),(xR s).map (·.2)):=rfl;rw[hE];generalize eb s=R at*;generalize nt s=L at*
 generalize xR s=T at*;obtain⟨n,a,rs⟩:=s;have h8:=hs.n8;have hl:=hs.len;have hr:=hs.right;dsimp only at h8 hl hr hRl hLl hT⊢;refine PC.ay (m:=2000) ae KL rfl rfl rfl rfl (by kernel_rfl) ?_
 intro hx;simp only[Tryz.f122];simp only[go_sem,zA,↓reduceIte,↓reduceDIte,zB,zC,zD,zE,zF,zG,zH,zI,rL,sT,uQ,uR];refine⟨_,c1,fun _=>⟨_,c2,fun _=>?_⟩⟩;refine ah.bH (X:=Nat×P2) (fun(z:Nat×P2)=>[(22,.iv (.int .i64) (z.1:Int)),(7,(rL z.2).2),(8,.any),(9,.any)]) (fun(z:Nat×P2)=>((6,.box [.iv (.int .i64) n,.iv (.int .u8) a,(rL z.2).1])::sT z.2)) (fun(z:Nat×P2)=>z.1≤rs.length∧z.2.length≤z.1∧z.2++dj R L (rs.drop z.1) z.1=T) (fun(z:Nat×P2)=>rs.length-z.1) (0,[]) ?_
 intro b1 b2 bg bu;simp(config:= {maxSteps:=4000000})only[go_sem,zA,↓reduceIte,↓reduceDIte,zB,zC,zD,zE,zF,zG,zH,zI,rL,sT,uQ,uR]at bg bu;subst bg;subst bu;refine⟨(by refine⟨?_,?_,rfl,rfl⟩<;>repeat' (first|exact trivial|exact Or.inl rfl|exact Or.inr rfl|apply bw|apply bx|apply bz|apply bD|exact⟨(by show(_:Nat)<1000000000;omega),rfl,rfl⟩|rfl|(refine And.intro (Or.inl ?_) ?_)|(refine And.intro ?_ ?_))),?_,?_⟩
 (·exact⟨Nat.zero_le _,Nat.le_refl _,hT⟩);clear hT;intro⟨k,acc⟩⟨hk,ha,hT⟩back;dsimp only at hk ha hT;rcases acc with _|⟨p0,acc⟩;(·refine av ae ⟨_,KL,rfl⟩ 2000 _ _ (by kernel_rfl) ?_;simp only[go_sem,zA,↓reduceIte,↓reduceDIte,zB,zC,zD,zE,zF,zG,zH,zI,rL,sT,uQ,uR];refine⟨fun g=>?_,fun g=>?_⟩;(·obtain⟨r,KC⟩: ∃r,rs[k]?=some r:=an (by omega);have JK:=hr r (List.mem_of_getElem? KC);have hrn:=bK JK;rw[drop_cons KC]at hT;obtain⟨b1,bg⟩: ∃b,R[r.1.toNat]?=some b:=an (by omega);obtain⟨b2,bu⟩: ∃b,L[r.2.1.toNat]?=some b:=an (by omega);have hf:=KP (n,a,rs) r;dsimp only at hf;rw[sQ h8 JK]at hf;refine⟨Int.natCast_nonneg _,r,KC,_,hf,?_⟩;simp only[go_sem,zA,↓reduceIte,↓reduceDIte,zB,zC,zD,zE,zF,zG,zH,zI,rL,sT,uQ,uR];refine⟨by omega,b1,bg,?_⟩;cases b1;(·simp only[go_sem,zA,↓reduceIte,↓reduceDIte,zB,zC,zD,zE,zF,zG,zH,zI,rL,sT,uQ,uR];rw[rA (.inl bg)]at hT;exact⟨aw (by omega) (by omega),back _ (k+1,[]) (by refine⟨?_,?_,rfl,rfl⟩<;>repeat' (first|exact trivial|exact Or.inl rfl|exact Or.inr rfl|apply bw|apply bx|apply bz|apply bD|exact⟨(by show(_:Nat)<1000000000;omega),rfl,rfl⟩|rfl|(refine And.intro (Or.inl ?_) ?_)|(refine And.intro ?_ ?_))) ⟨(by first|omega|(show(_:Int)≤_;omega)|(show(_:Int)<_;omega)|(dsimp only;omega)),by dsimp only;omega,hT⟩ (by dsimp only;omega)⟩);·simp only[go_sem,zA,↓reduceIte,↓reduceDIte,zB,zC,zD,zE,zF,zG,zH,zI,rL,sT,uQ,uR];refine⟨by omega,b2,bu,?_⟩;cases b2;(·simp only[go_sem,zA,↓reduceIte,↓reduceDIte,zB,zC,zD,zE,zF,zG,zH,zI,rL,sT,uQ,uR];rw[rA (.inr bu)]at hT;exact⟨aw (by omega) (by omega),back _ (k+1,[]) (by refine⟨?_,?_,rfl,rfl⟩<;>repeat' (first|exact trivial|exact Or.inl rfl|exact Or.inr rfl|apply bw|apply bx|apply bz|apply bD|exact⟨(by show(_:Nat)<1000000000;omega),rfl,rfl⟩|rfl|(refine And.intro (Or.inl ?_) ?_)|(refine And.intro ?_ ?_))) ⟨(by first|omega|(show(_:Int)≤_;omega)|(show(_:Int)<_;omega)|(dsimp only;omega)),by dsimp only;omega,hT⟩ (by dsimp only;omega)⟩);·simp only[go_sem,zA,↓reduceIte,↓reduceDIte,zB,zC,zD,zE,zF,zG,zH,zI,rL,sT,uQ,uR];rw[A6 bg bu]at hT;exact⟨aw (by omega) (by omega),back _ (k+1,[(r,(k:Int))]) (by refine⟨?_,?_,rfl,rfl⟩<;>repeat' (first|exact trivial|exact Or.inl rfl|exact Or.inr rfl|apply bw|apply bx|apply bz|apply bD|exact⟨(by show(_:Nat)<1000000000;omega),rfl,rfl⟩|rfl|(refine And.intro (Or.inl ?_) ?_)|(refine And.intro ?_ ?_))) ⟨(by first|omega|(show(_:Int)≤_;omega)|(show(_:Int)<_;omega)|(dsimp only;omega)),by simp,hT⟩ (by dsimp only;omega)⟩);·rw[List.drop_of_length_le (by omega)]at hT;(have e:([]:P2)=T:=by simpa[dj]using hT);rw[←e];rfl)
 ·refine av ae ⟨_,KL,rfl⟩ 2000 _ _ (by kernel_rfl) ?_;simp only[go_sem,zA,↓reduceIte,↓reduceDIte,zB,zC,zD,zE,zF,zG,zH,zI,rL,sT,uQ,uR];refine⟨fun g=>?_,fun g=>?_⟩;(·obtain⟨r,KC⟩: ∃r,rs[k]?=some r:=an (by omega);have JK:=hr r (List.mem_of_getElem? KC);have hrn:=bK JK;rw[drop_cons KC]at hT;obtain⟨b1,bg⟩: ∃b,R[r.1.toNat]?=some b:=an (by omega);obtain⟨b2,bu⟩: ∃b,L[r.2.1.toNat]?=some b:=an (by omega);have hf:=KP (n,a,rs) r;dsimp only at hf;rw[sQ h8 JK]at hf;refine⟨Int.natCast_nonneg _,r,KC,_,hf,?_⟩;simp only[go_sem,zA,↓reduceIte,↓reduceDIte,zB,zC,zD,zE,zF,zG,zH,zI,rL,sT,uQ,uR];refine⟨by omega,b1,bg,?_⟩;cases b1;(·simp only[go_sem,zA,↓reduceIte,↓reduceDIte,zB,zC,zD,zE,zF,zG,zH,zI,rL,sT,uQ,uR];rw[rA (.inl bg)]at hT;exact⟨aw (by omega) (by omega),back _ (k+1,p0::acc) (by refine⟨?_,?_,rfl,rfl⟩<;>repeat' (first|exact trivial|exact Or.inl rfl|exact Or.inr rfl|apply bw|apply bx|apply bz|apply bD|exact⟨(by show(_:Nat)<1000000000;omega),rfl,rfl⟩|rfl|(refine And.intro (Or.inl ?_) ?_)|(refine And.intro ?_ ?_))) ⟨(by first|omega|(show(_:Int)≤_;omega)|(show(_:Int)<_;omega)|(dsimp only;omega)),by dsimp only;omega,hT⟩ (by dsimp only;omega)⟩);·simp only[go_sem,zA,↓reduceIte,↓reduceDIte,zB,zC,zD,zE,zF,zG,zH,zI,rL,sT,uQ,uR];refine⟨by omega,b2,bu,?_⟩;cases b2;(·simp only[go_sem,zA,↓reduceIte,↓reduceDIte,zB,zC,zD,zE,zF,zG,zH,zI,rL,sT,uQ,uR];rw[rA (.inr bu)]at hT;exact⟨aw (by omega) (by omega),back _ (k+1,p0::acc) (by refine⟨?_,?_,rfl,rfl⟩<;>repeat' (first|exact trivial|exact Or.inl rfl|exact Or.inr rfl|apply bw|apply bx|apply bz|apply bD|exact⟨(by show(_:Nat)<1000000000;omega),rfl,rfl⟩|rfl|(refine And.intro (Or.inl ?_) ?_)|(refine And.intro ?_ ?_))) ⟨(by first|omega|(show(_:Int)≤_;omega)|(show(_:Int)<_;omega)|(dsimp only;omega)),by dsimp only;omega,hT⟩ (by dsimp only;omega)⟩);·simp only[go_sem,zA,↓reduceIte,↓reduceDIte,zB,zC,zD,zE,zF,zG,zH,zI,rL,sT,uQ,uR];rw[A6 bg bu]at hT;(have e1:List.map (fun x:Rl×Int=>x.2) acc++ [(k:Int)]=List.map (fun x=>x.2) (acc++ [(r,(k:Int))]):=by simp);(have e2:List.map (fun x:Rl×Int=>x.1) acc++ [(r.1,r.2.1,r.2.2.1,r.2.2.2.1,r.2.2.2.2)]=List.map (fun x=>x.1) (acc++ [(r,(k:Int))]):=by simp);rw[e1,e2];simp only[List.length_cons]at ha;exact⟨by rw[List.length_map];omega,by rw[List.length_map];omega,aw (by omega) (by omega),back _ (k+1,p0::(acc++ [(r,(k:Int))])) (by refine⟨?_,?_,rfl,rfl⟩<;>repeat' (first|exact trivial|exact Or.inl rfl|exact Or.inr rfl|apply bw|apply bx|apply bz|apply bD|exact⟨(by show(_:Nat)<1000000000;omega),rfl,rfl⟩|rfl|(refine And.intro (Or.inl ?_) ?_)|(refine And.intro ?_ ?_))) ⟨(by first|omega|(show(_:Int)≤_;omega)|(show(_:Int)<_;omega)|(dsimp only;omega)),by simp;omega,by rw[←hT];simp⟩ (by dsimp only;omega)⟩);·rw[List.drop_of_length_le (by omega)]at hT;(have e:p0::acc=T:=by simpa[dj]using hT);rw[←e];rfl
end Go.Proofs.YtgpkijnphchkpaaGreat
namespace Go.Proofs.YtgpkijnphchkpaaGreat
set_option maxHeartbeats 4000000
set_option maxRecDepth 100000
structure StE(a:Int)(n k:Nat)(L:List bB1):Prop where
 len:L.length=n
 at_: ∀i e,L[i]?=some e→e=([],0,decide (i<k)&&qk a (i:Int))
theorem StE.zero {a:Int} {n:Nat} :StE a n 0 (List.replicate n ([],0,false)):=⟨List.length_replicate ..,fun i e h=>by rw[List.getElem?_replicate]at h;split at h;(·injection h with h;rw[←h];simp);·cases h⟩
theorem StE.done {a:Int} {n:Nat} {L:List bB1} (h:StE a n n L):L=bB2 a n:=by
 refine List.ext_getElem? fun i=>?_;unfold bB2;rw[List.getElem?_map];by_cases hi:i<n;(·rw[List.getElem?_range hi];obtain⟨e,he⟩: ∃e,L[i]?=some e:=an (by rw[h.len];exact hi);rw[he,h.at_ i e he];simp[hi])
 ·rw[List.getElem?_eq_none (by rw[h.len];omega),List.getElem?_eq_none (by simp;omega)];rfl
end Go.Proofs.YtgpkijnphchkpaaGreat
namespace Go.Proofs.YtgpkijnphchkpaaGreat
set_option maxHeartbeats 4000000
set_option maxRecDepth 100000
theorem MD {E:Env} {G:Goal} {n:Nat} {b b':Bool} {d:Nat} {want:Bool} {o:Oper} {all:List Oper} {N:List Nat} {acc:List (List Nat)} {os:List Oper} {k:List WI} {s:St} (h:b=b')(hp:PK E G n (.iv .bool b') d want o all N acc os k s):PK E G n (.iv .bool b) d want o all N acc os k s:=by
 rw[h];exact hp
end Go.Proofs.YtgpkijnphchkpaaGreat
namespace Go.Proofs.YtgpkijnphchkpaaGreat
set_option maxHeartbeats 4000000
set_option maxRecDepth 100000
end Go.Proofs.YtgpkijnphchkpaaGreat
namespace Go.Proofs.YtgpkijnphchkpaaGreat
set_option maxHeartbeats 4000000
set_option maxRecDepth 100000
end Go.Proofs.YtgpkijnphchkpaaGreat
namespace Go.Proofs.YtgpkijnphchkpaaGreat
set_option maxHeartbeats 4000000
set_option maxRecDepth 100000
theorem OS {s:db} (hs:iB s): ∀e,e∈sR s.2.2→e.2<(oC s.1.toNat).length:=by
 intro e he;unfold sR at he;obtain⟨r,hr,rfl⟩:=List.mem_map.1 he;have:=bK (hs.right r hr);unfold oC;simp;omega
theorem OT {s:db} (hs:iB s): ∀e,e∈jy s.2.2→e.2<(eW s.2.1 s.1.toNat).length:=by
 intro e he;unfold jy at he;obtain⟨r,hr,rfl⟩:=List.mem_map.1 he;have:=bK (hs.right r hr);rw[oD];show r.1.toNat<_;omega
theorem qo {s:db} (hs:iB s)(m:Nat):on (eb s) m↔Cl (sR s.2.2) (oC s.1.toNat) m:=uO (OS hs) (by unfold oC;simp) m
theorem Fq {s:db} (hs:iB s)(m:Nat):on (nt s) m↔Cl (jy s.2.2) (eW s.2.1 s.1.toNat) m:=uO (OT hs) (by rw[oD];exact Nat.le_refl _) m
theorem Fs {s:db} (hs:iB s):on (eb s) 0:=(qo hs 0).2 (.base 0 (qn (by have:=hs.n1;rw[List.length_replicate];omega)))
theorem Ft {s:db} (hs:iB s) {r:Rl} (hr:r∈s.2.2)(h:on (eb s) r.1.toNat):on (eb s) r.2.1.toNat:=(qo hs _).2 (.step _ _ ((qo hs _).1 h) (List.mem_map.2 ⟨r,hr,rfl⟩))
theorem OU {s:db} (hs:iB s) {r:Rl} (hr:r∈s.2.2)(h:on (nt s) r.2.1.toNat):on (nt s) r.1.toNat:=(Fq hs _).2 (.step _ _ ((Fq hs _).1 h) (List.mem_map.2 ⟨r,hr,rfl⟩))
theorem Uw {s:db} (hs:iB s) {m:Nat} (hm:m<s.1.toNat)(h:qk s.2.1 (m:Int)=true):on (nt s) m:=(Fq hs _).2 (.base m (by unfold on;rw[DG hm,h]))
end Go.Proofs.YtgpkijnphchkpaaGreat
namespace Go.Proofs.YtgpkijnphchkpaaGreat
set_option maxHeartbeats 4000000
set_option maxRecDepth 100000
theorem sU {R L:List Bool} : ∀ {rs:List Rl} {i:Nat} {p:Rl×Int},p∈dj R L rs i↔ ∃(j:Nat),rs[j]?=some p.1∧p.2=((i+j:Nat):Int)∧on R p.1.1.toNat∧on L p.1.2.1.toNat|[],i,p=>(by simp[dj])|r::rs,i,p=>by have ih:= @sU R L rs (i+1) p;(have hd:(∃(j:Nat),(r::rs)[j]?=some p.1∧p.2=((i+j:Nat):Int)∧on R p.1.1.toNat∧on L p.1.2.1.toNat)↔(r=p.1∧p.2=(i:Int)∧on R p.1.1.toNat∧on L p.1.2.1.toNat)∨ ∃(j:Nat),rs[j]?=some p.1∧p.2=((i+1+j:Nat):Int)∧on R p.1.1.toNat∧on L p.1.2.1.toNat:=by constructor;(·rintro⟨j,h1,h2,h3⟩;cases j with|zero=>exact .inl ⟨by simpa using h1,by simpa using h2,h3⟩|succ j=>exact .inr ⟨j,by simpa using h1,by rw[h2];congr 1;omega,h3⟩);·rintro(⟨h1,h2,h3⟩|⟨j,h1,h2,h3⟩);(·exact⟨0,by simpa using h1,by simpa using h2,h3⟩);·exact⟨j+1,by simpa using h1,by rw[h2];congr 1;omega,h3⟩);rw[hd,←ih];have e:dj R L (r::rs) i=if R[r.1.toNat]?=some true∧L[r.2.1.toNat]?=some true then(r,(i:Int))::dj R L rs (i+1)else dj R L rs (i+1):=rfl;rw[e];split;(·rename_i h;rw[List.mem_cons];refine or_congr ?_ Iff.rfl;constructor;(·rintro rfl;exact⟨rfl,rfl,h⟩);·rintro⟨rfl,h2,_⟩;exact Prod.ext rfl h2);·rename_i h;refine⟨.inr,fun g=>g.resolve_left ?_⟩;rintro⟨rfl,_,h3⟩;exact h h3
theorem sV {R L:List Bool} : ∀ {rs:List Rl} {i:Nat},((dj R L rs i).map (·.1)).Sublist rs|[],_=>List.Sublist.slnil|r::rs,i=>by have e:dj R L (r::rs) i=if R[r.1.toNat]?=some true∧L[r.2.1.toNat]?=some true then(r,(i:Int))::dj R L rs (i+1)else dj R L rs (i+1):=rfl;rw[e];split;(·exact List.Sublist.cons_cons _ sV);·exact List.Sublist.cons _ sV
theorem wR {s:db} {r:Rl} :r∈(uP s).1.2.2↔r∈s.2.2∧on (eb s) r.1.toNat∧on (nt s) r.2.1.toNat:=by
 show r∈(xR s).map (·.1)↔_;rw[List.mem_map];constructor;(·rintro⟨p,hp,rfl⟩;obtain⟨j,h1,_,h3⟩:=sU.1 hp;exact⟨List.mem_of_getElem? h1,h3⟩);·rintro⟨h1,h2⟩;obtain⟨j,hj⟩:=List.getElem?_of_mem h1;exact⟨(r,((0+j:Nat):Int)),sU.2 ⟨j,hj,rfl,h2⟩,rfl⟩
theorem aq7 {s:db} (hs:iB s):iB (uP s).1:=⟨hs.n1,hs.n8,hs.a1,hs.a2,Nat.le_trans (by show((xR s).map (·.1)).length≤_;rw[List.length_map];exact A7 _ _ _ _) hs.len,fun r hr=>hs.right r (wR.1 hr).1,hs.nodup.sublist sV⟩
end Go.Proofs.YtgpkijnphchkpaaGreat
