/- The law RouteTrims, as a contract. Nothing here is trusted; no condition. -/
import Derived.Test.YtgpkijnphchkpaaGreatC4
set_option linter.unusedSimpArgs false
set_option linter.unusedVariables false
open Nat renaming reduceBEq→zA,reduceAdd→zB,reduceSub→zC,reduceMul→zD,reduceLeDiff→zE
open Int renaming reduceLT→zF,reduceLE→zG,reduceToNat→zH,reduceNeg→zI
namespace Go.Proofs.YtgpkijnphchkpaaGreat
attribute[local go_sem←]Bool.decide_and Bool.decide_or decide_not
set_option maxHeartbeats 4000000
set_option maxRecDepth 100000
theorem gP {i0 i1 i2 j:Nat} {r:List Nat} {d:Nat} :back (i0::i1::i2::j::r) d 1000000003=j:=rfl
theorem gQ {i0 i1 i2 i3 j:Nat} {r:List Nat} {d:Nat} :back (i0::i1::i2::i3::j::r) d 1000000004=j:=rfl
theorem gR {i0 i1 i2 i3 i4 j:Nat} {r:List Nat} {d:Nat} :back (i0::i1::i2::i3::i4::j::r) d 1000000005=j:=rfl
def nH(n a:Int)(rs:List Rl)(L:List Bool):List (Nat×aO):=[(1000000000,.box [.fn 168 [.ref 1000000002 0,.ref 1000000003 0,.ref 1000000004 0]]),(1000000001,.box [.fn 179 [.ref 1000000000 0,.ref 1000000001 0]]),(1000000002,.box [.aF 1000000005]),(1000000003,.box [.iv (.mp (.int .i64) (.sl (.int .i64))) (ey rs)]),(1000000004,.box [.iv (.int .i64) n,.iv (.int .u8) a,.iv (.sl bg) rs]),(1000000005,.arr .bool L)]
def rJ(n a:Int)(rs:List Rl)(L:List Bool):List (Nat×aO):=[(1000000000,.box [.aF 1000000003]),(1000000001,.box [.iv (.mp (.int .i64) (.sl (.int .i64))) (ey rs)]),(1000000002,.box [.iv (.int .i64) n,.iv (.int .u8) a,.iv (.sl bg) rs]),(1000000003,.arr .bool L)]
def tgt(rs:List Rl)(j:Int):Nat:=match rs[j.toNat]? with|some r=>r.2.1.toNat|none=>0
def xh(rs:List Rl)(m:Nat):List Nat:=(ib (m:Int) rs 0).map (tgt rs)
theorem ai0(n a:Int)(rs:List Rl)(hs:ij (n,a,rs))(f:Nat)(ih: ∀(L:List Bool)(m:Int),L.length=n.toNat→0≤m→m<n→cf L<f→HC env 179 [.iv (.int .i64) m,.ref 1000000000 0,.ref 1000000001 0] (nH n a rs L) (.bn []) (nH n a rs (iR (xh rs) f L m.toNat)))(L:List Bool)(m:Int)(hL:L.length=n.toNat)(h0:0≤m)(hm:m<n)(hc:cf L<f+1):HC env 168 [.iv (.int .i64) m,.fn 179 [.ref 1000000000 0,.ref 1000000001 0],.ref 1000000002 0,.ref 1000000003 0,.ref 1000000004 0] (nH n a rs L) (.bn []) (nH n a rs (iR (xh rs) (f+1) L m.toNat)):=by
 have h8:=hs.n8;have hr:=hs.right;have hl:=hs.len;dsimp only at h8 hr hl;obtain⟨b,hb⟩: ∃b,L[m.toNat]?=some b:=an (by omega);generalize hT:iR (xh rs) (f+1) L m.toNat=T
 refine HC.ay (m:=2000) ae SF rfl rfl rfl rfl (by kernel_rfl) ?_;intro hx jW;simp only[Tryz.f168];simp only[go_sem,zA,↓reduceIte,↓reduceDIte,zB,zC,zD,zE,zF,zG,zH,zI,nH,rJ,gP,gQ,gR]
 refine⟨⟨h0,by omega⟩,b,hb,?_⟩;cases b;(·simp only[go_sem,zA,↓reduceIte,↓reduceDIte,zB,zC,zD,zE,zF,zG,zH,zI,nH,rJ,gP,gQ,gR];refine⟨⟨h0,by omega⟩,?_⟩;rw[show(aJ (gv (.int .i64)) (ey rs) m).getD []=ib m rs 0 from zk rs m];(have SR:((ib m rs 0).map (tgt rs)).foldl (fun L k=>iR (xh rs) f L k) (L.set m.toNat true)=T:=by rw[←hT];have e:iR (xh rs) (f+1) L m.toNat=if L[m.toNat]?=some true then L else(xh rs m.toNat).foldl (fun L k=>iR (xh rs) f L k) (L.set m.toNat true):=rfl;rw[e,if_neg (by rw[hb];simp)];unfold xh;rw[show((m.toNat:Nat):Int)=m by omega]);have hcf:=vg hb;have hnl:=vk m rs 0;(have hG: ∀x y,y∈xh rs x→y<n.toNat:=fun x y hy=>by unfold xh at hy;obtain⟨j,hj,rfl⟩:=List.mem_map.1 hy;obtain⟨i,r,hi,_,rfl⟩:=jl.1 hj;have:=bH (hr r (List.mem_of_getElem? hi));unfold tgt;rw[Nat.zero_add,Int.toNat_natCast,hi];show r.2.1.toNat<_;omega);refine ah.bE (X:=Nat×List Bool) (fun(z:Nat×List Bool)=>[(20,.iv (.int .i64) (z.1:Int)),(8,.any)]) (fun(z:Nat×List Bool)=>[(1000000005,.arr .bool z.2)]) (fun(z:Nat×List Bool)=>z.1≤(ib m rs 0).length∧z.2.length=n.toNat∧cf z.2<f∧(((ib m rs 0).drop z.1).map (tgt rs)).foldl (fun L k=>iR (xh rs) f L k) z.2=T) (fun(z:Nat×List Bool)=>(ib m rs 0).length-z.1) (0,L.set m.toNat true) ?_;intro b1 b2 ba bq;simp(config:= {maxSteps:=4000000})only[go_sem,zA,↓reduceIte,↓reduceDIte,zB,zC,zD,zE,zF,zG,zH,zI,nH,rJ,gP,gQ,gR]at ba bq;subst ba;subst bq;refine⟨(by refine⟨?_,?_,rfl,rfl⟩<;>repeat' (first|exact trivial|exact Or.inl rfl|exact Or.inr rfl|apply br|apply bt|apply bu|apply bA|exact⟨(by show(_:Nat)<1000000000;omega),rfl,rfl⟩|rfl|(refine And.intro (Or.inl ?_) ?_)|(refine And.intro ?_ ?_))),?_,?_⟩;(·exact⟨Nat.zero_le _,by simpa using hL,by dsimp only;omega,SR⟩);clear SR;intro⟨k,M⟩⟨hk,hM,hcM,SR⟩back;dsimp only at hk hM hcM SR;refine av ae ⟨_,SF,rfl⟩ 2000 _ _ (by kernel_rfl) ?_;simp only[go_sem,zA,↓reduceIte,↓reduceDIte,zB,zC,zD,zE,zF,zG,zH,zI,nH,rJ,gP,gQ,gR];refine⟨fun g=>?_,fun g=>?_⟩;(·obtain⟨j,hj⟩: ∃j,(ib m rs 0)[k]?=some j:=an (by omega);obtain⟨i,r,I8,ud,An⟩:=jl.1 (List.mem_of_getElem? hj);rw[Nat.zero_add]at An;subst An;(have Js:rs[((i:Int)).toNat]?=some r:=by simpa using I8);have hrn:=bH (hr r (List.mem_of_getElem? I8));refine⟨Int.natCast_nonneg _,(i:Int),hj,Int.natCast_nonneg _,r,Js,_,_,ih M r.2.1 hM (by omega) (by omega) hcM,rfl,?_⟩;simp only[go_sem,zA,↓reduceIte,↓reduceDIte,zB,zC,zD,zE,zF,zG,zH,zI,nH,rJ,gP,gQ,gR];intro _;rw[drop_cons hj,List.map_cons,List.foldl_cons]at SR;(have et:tgt rs (i:Int)=r.2.1.toNat:=by unfold tgt;rw[Js]);rw[et]at SR;have hd:=(Jq hG f M r.2.1.toNat hM (by omega) hcM).1;refine⟨aw (by omega) (by omega),back _ (k+1,iR (xh rs) f M r.2.1.toNat) (by refine⟨?_,?_,rfl,rfl⟩<;>repeat' (first|exact trivial|exact Or.inl rfl|exact Or.inr rfl|apply br|apply bt|apply bu|apply bA|exact⟨(by show(_:Nat)<1000000000;omega),rfl,rfl⟩|rfl|(refine And.intro (Or.inl ?_) ?_)|(refine And.intro ?_ ?_))) ⟨(by first|omega|(show(_:Int)≤_;omega)|(show(_:Int)<_;omega)|(dsimp only;omega)),by dsimp only;rw[zj];exact hM,by have:=hd.cf;dsimp only;omega,SR⟩ (by dsimp only;omega)⟩);·rw[List.drop_of_length_le (by omega)]at SR;have e:M=T:=SR;rw[e])
 ·simp only[go_sem,zA,↓reduceIte,↓reduceDIte,zB,zC,zD,zE,zF,zG,zH,zI,nH,rJ,gP,gQ,gR];have e:iR (xh rs) (f+1) L m.toNat=if L[m.toNat]?=some true then L else(xh rs m.toNat).foldl (fun L k=>iR (xh rs) f L k) (L.set m.toNat true):=rfl;rw[e,if_pos hb]at hT;rw[hT]
theorem SS(n a:Int)(rs:List Rl)(hs:ij (n,a,rs)): ∀(f:Nat)(L:List Bool)(m:Int),L.length=n.toNat→0≤m→m<n→cf L<f→HC env 179 [.iv (.int .i64) m,.ref 1000000000 0,.ref 1000000001 0] (nH n a rs L) (.bn []) (nH n a rs (iR (xh rs) f L m.toNat))|0,L,m,_,_,_,h=>(by omega)|f+1,L,m,hL,h0,hm,hc=>by have hv:=ai0 n a rs hs f (SS n a rs hs f) L m hL h0 hm hc;generalize iR (xh rs) (f+1) L m.toNat=T at hv;refine HC.ay (m:=2000) ae aU2 rfl rfl rfl rfl (by kernel_rfl) ?_;intro hx jW;simp only[Tryz.f179];simp only[go_sem,zA,↓reduceIte,↓reduceDIte,zB,zC,zD,zE,zF,zG,zH,zI,nH,rJ,gP,gQ,gR];refine⟨_,_,hv,rfl,?_⟩;simp only[go_sem,zA,↓reduceIte,↓reduceDIte,zB,zC,zD,zE,zF,zG,zH,zI,nH,rJ,gP,gQ,gR];intro _;exact trivial
theorem aV5(n a:Int)(rs:List Rl)(hs:ij (n,a,rs))(f:Nat)(L:List Bool)(m:Int)(hL:L.length=n.toNat)(h0:0≤m)(hm:m<n)(hc:cf L<f):HC env 167 [.iv (.int .i64) m,.fn 168 [.ref 1000000000 0,.ref 1000000001 0,.ref 1000000002 0]] (rJ n a rs L) (.bn []) (rJ n a rs (iR (xh rs) f L m.toNat)):=by
 have hv:=SS n a rs hs f L m hL h0 hm hc;generalize iR (xh rs) f L m.toNat=T at hv;refine HC.ay (m:=2000) ae aT7 rfl rfl rfl rfl (by kernel_rfl) ?_;intro hx jW;simp only[Tryz.f167]
 simp only[go_sem,zA,↓reduceIte,↓reduceDIte,zB,zC,zD,zE,zF,zG,zH,zI,nH,rJ,gP,gQ,gR];refine⟨_,_,hv,rfl,?_⟩;simp only[go_sem,zA,↓reduceIte,↓reduceDIte,zB,zC,zD,zE,zF,zG,zH,zI,nH,rJ,gP,gQ,gR]
 intro _;exact trivial
theorem zm {rs:List Rl} {x y:Nat} :y∈xh rs x↔ ∃r,r∈rs∧r.1=(x:Int)∧y=r.2.1.toNat:=by
 unfold xh;constructor;(·intro hy;obtain⟨j,hj,rfl⟩:=List.mem_map.1 hy;obtain⟨i,r,hi,hm,rfl⟩:=jl.1 hj;refine⟨r,List.mem_of_getElem? hi,hm,?_⟩;unfold tgt;rw[Nat.zero_add,Int.toNat_natCast,hi])
 ·rintro⟨r,hr,hm,rfl⟩;obtain⟨i,hi⟩:=List.getElem?_of_mem hr;refine List.mem_map.2 ⟨(i:Int),jl.2 ⟨i,r,hi,hm,by rw[Nat.zero_add]⟩,?_⟩;unfold tgt;rw[Int.toNat_natCast,hi]
theorem aV6 {n a:Int} {rs:List Rl} (hs:ij (n,a,rs)):iR (xh rs) (n.toNat+1) (List.replicate n.toNat false) 0=dS (n,a,rs):=by
 have h1:=hs.n1;have hr:=hs.right;dsimp only at h1 hr;(have off: ∀m,¬on (List.replicate n.toNat false) m:=fun m h=>by unfold on at h;rw[List.getElem?_replicate]at h;split at h<;>simp at h)
 (have c8:(nF n.toNat).length=n.toNat:=by unfold nF;simp);(have on0: ∀m,on (nF n.toNat) m→m=0:=fun m h=>by rcases iA h with e|e;(·exact e);·exact absurd e (off m))
 (have hG: ∀x y,y∈xh rs x→y<n.toNat:=fun x y hy=>by obtain⟨r,h1,h2,rfl⟩:=zm.1 hy;have:=bH (hr r h1);omega);(have hE: ∀x y,y∈xh rs x→(x,y)∈rI rs:=fun x y hy=>by obtain⟨r,h1,h2,rfl⟩:=zm.1 hy;exact List.mem_map.2 ⟨r,h1,by rw[h2,Int.toNat_natCast]⟩)
 (have hcf:cf (List.replicate n.toNat false)<n.toNat+1:=by have:=SO (List.replicate n.toNat false);rw[List.length_replicate]at this;omega);obtain⟨d1,d2⟩:=Jq hG (n.toNat+1) (List.replicate n.toNat false) 0 (List.length_replicate ..) (by omega) hcf
 refine BZ ?_ (by rw[c8];exact Nat.le_refl _) (by rw[zj,c8,List.length_replicate]) (B0 hE _ _ _ (fun m h=>absurd h (off m)) (.base 0 (o9 (by rw[List.length_replicate];omega)))) ?_ ?_
 (·intro e he;unfold rI at he;obtain⟨r,ud,rfl⟩:=List.mem_map.1 he;have:=bH (hr r ud);rw[c8];show r.2.1.toNat<n.toNat;omega);(·intro e he hon;rcases d1.new _ hon with h|h;(·exact absurd h (off _));·refine h _ ?_;unfold rI at he;obtain⟨r,ud,rfl⟩:=List.mem_map.1 he;have:=bH (hr r ud);exact zm.2 ⟨r,ud,by show r.1=((r.1.toNat:Nat):Int);omega,rfl⟩)
 ·intro m hm;rw[on0 m hm];exact d2
theorem Nd(s:cB)(hs:ij s):PC env 144 [⟨al,s⟩] (.sl .bool) (dS s):=by
 have hs0:=hs;obtain⟨n,a,rs⟩:=s;have h1:=hs.n1;have h8:=hs.n8;dsimp only at h1 h8;have hf:=aV5 n a rs hs0 (n.toNat+1) (List.replicate n.toNat false) 0 (List.length_replicate ..) (Int.le_refl _) (by omega) (by have:=SO (List.replicate n.toNat false);rw[List.length_replicate]at this;omega)
 rw[show Int.toNat 0=0 from rfl,aV6 hs0]at hf;generalize dS (n,a,rs)=T at hf⊢;refine PC.ay (m:=2000) ae aS3 rfl rfl rfl rfl (by kernel_rfl) ?_;intro hx;simp only[Tryz.f144]
 simp only[go_sem,zA,↓reduceIte,↓reduceDIte,zB,zC,zD,zE,zF,zG,zH,zI,nH,rJ,gP,gQ,gR];refine⟨_,_,KW (n,a,rs) ⟨by dsimp only;omega,h8⟩,rfl,?_⟩;simp only[go_sem,zA,↓reduceIte,↓reduceDIte,zB,zC,zD,zE,zF,zG,zH,zI,nH,rJ,gP,gQ,gR]
 intro _;refine⟨fun h=>absurd h (by rw[List.length_replicate];omega),fun _=>⟨_,BX (n,a,rs) hs0,fun _=>⟨_,_,hf,rfl,?_⟩⟩⟩;simp only[go_sem,zA,↓reduceIte,↓reduceDIte,zB,zC,zD,zE,zF,zG,zH,zI,nH,rJ,gP,gQ,gR]
 exact fun _=>trivial
end Go.Proofs.YtgpkijnphchkpaaGreat
namespace Go.Proofs.YtgpkijnphchkpaaGreat
attribute[local go_sem←]Bool.decide_and Bool.decide_or decide_not
attribute[local go_sem]St.dV aS
set_option maxHeartbeats 4000000
set_option maxRecDepth 100000
abbrev Ob:=List (Rl×Int)
def c9(R L:List Bool):List Rl→Nat→Ob|[],_=>[]|r::rs,i=>if R[r.1.toNat]?=some true∧L[r.2.1.toNat]?=some true then(r,(i:Int))::c9 R L rs (i+1)else c9 R L rs (i+1)
def wc(s:cB):Ob:=c9 (dS s) (mK s) s.2.2 0
def qK(s:cB):cB×List Int:=((s.1,s.2.1,(wc s).map (·.1)),(wc s).map (·.2))
theorem zn {R L:List Bool} {r:Rl} {rs:List Rl} {i:Nat} (h1:R[r.1.toNat]?=some true)(h2:L[r.2.1.toNat]?=some true):c9 R L (r::rs) i=(r,(i:Int))::c9 R L rs (i+1):=by
 have e:c9 R L (r::rs) i=if R[r.1.toNat]?=some true∧L[r.2.1.toNat]?=some true then(r,(i:Int))::c9 R L rs (i+1)else c9 R L rs (i+1):=rfl;rw[e,if_pos ⟨h1,h2⟩]
theorem qk {R L:List Bool} {r:Rl} {rs:List Rl} {i:Nat} (h:R[r.1.toNat]?=some false∨L[r.2.1.toNat]?=some false):c9 R L (r::rs) i=c9 R L rs (i+1):=by
 have e:c9 R L (r::rs) i=if R[r.1.toNat]?=some true∧L[r.2.1.toNat]?=some true then(r,(i:Int))::c9 R L rs (i+1)else c9 R L rs (i+1):=rfl;rw[e,if_neg];rintro⟨a,b⟩
 rcases h with h|h;(·rw[a]at h;simp at h);·rw[b]at h;simp at h
theorem zo(R L:List Bool): ∀(rs:List Rl)(i:Nat),(c9 R L rs i).length≤rs.length|[],_=>Nat.le_refl _|r::rs,i=>by have:=zo R L rs (i+1);unfold c9;split<;>simp only[List.length_cons]<;>omega
def qy:Ob→PV×PV|[]=>(.bF,.bF)|_::_=>(.aF 48,.aF 53)
def rK:Ob→List (Nat×aO)|[]=>[]|x::r=>[(48,.arr bg ((x::r).map (·.1))),(53,.arr (.int .i64) ((x::r).map (·.2)))]
def tv:Ob→PV|[]=>.bF|_::_=>.aF 1000
def tw:Ob→List (Nat×aO)|[]=>[(18,.arr (.int .i64) [])]|x::r=>[(1000,.arr bg ((x::r).map (·.1))),(18,.arr (.int .i64) ((x::r).map (·.2)))]
theorem aV7(s:cB)(hs:ij s):PC env 122 [⟨al,s⟩] (.bn al (.sl (.int .i64))) (qK s):=by
 have hs0:=hs;(have hRl:(dS s).length=s.1.toNat:=by unfold dS;rw[qj];unfold nF;simp);(have hLl:(mK s).length=s.1.toNat:=by unfold mK;rw[qj,nG]);have c1:=Nd s hs
 have c2:=aV4 s hs;have hT:c9 (dS s) (mK s) s.2.2 0=wc s:=rfl;have hE:qK s=((s.1,s.2.1,(wc s).map (·.1)),(wc s).map (·.2)):=rfl;rw[hE];generalize dS s=R at*;generalize mK s=L at*
 generalize wc s=T at*;obtain⟨n,a,rs⟩:=s;have h8:=hs.n8;have hl:=hs.len;have hr:=hs.right;dsimp only at h8 hl hr hRl hLl hT⊢;refine PC.ay (m:=2000) ae Jh rfl rfl rfl rfl (by kernel_rfl) ?_
 intro hx;simp only[Tryz.f122];simp only[go_sem,zA,↓reduceIte,↓reduceDIte,zB,zC,zD,zE,zF,zG,zH,zI,qy,rK,tv,tw];refine⟨_,c1,fun _=>⟨_,c2,fun _=>?_⟩⟩;refine ah.bE (X:=Nat×Ob) (fun(z:Nat×Ob)=>[(22,.iv (.int .i64) (z.1:Int)),(7,(qy z.2).2),(8,.any),(9,.any)]) (fun(z:Nat×Ob)=>((6,.box [.iv (.int .i64) n,.iv (.int .u8) a,(qy z.2).1])::rK z.2)) (fun(z:Nat×Ob)=>z.1≤rs.length∧z.2.length≤z.1∧z.2++c9 R L (rs.drop z.1) z.1=T) (fun(z:Nat×Ob)=>rs.length-z.1) (0,[]) ?_
 intro b1 b2 ba bq;simp(config:= {maxSteps:=4000000})only[go_sem,zA,↓reduceIte,↓reduceDIte,zB,zC,zD,zE,zF,zG,zH,zI,qy,rK,tv,tw]at ba bq;subst ba;subst bq;refine⟨(by refine⟨?_,?_,rfl,rfl⟩<;>repeat' (first|exact trivial|exact Or.inl rfl|exact Or.inr rfl|apply br|apply bt|apply bu|apply bA|exact⟨(by show(_:Nat)<1000000000;omega),rfl,rfl⟩|rfl|(refine And.intro (Or.inl ?_) ?_)|(refine And.intro ?_ ?_))),?_,?_⟩
 (·exact⟨Nat.zero_le _,Nat.le_refl _,hT⟩);clear hT;intro⟨k,acc⟩⟨hk,ha,hT⟩back;dsimp only at hk ha hT;rcases acc with _|⟨p0,acc⟩;(·refine av ae ⟨_,Jh,rfl⟩ 2000 _ _ (by kernel_rfl) ?_;simp only[go_sem,zA,↓reduceIte,↓reduceDIte,zB,zC,zD,zE,zF,zG,zH,zI,qy,rK,tv,tw];refine⟨fun g=>?_,fun g=>?_⟩;(·obtain⟨r,I8⟩: ∃r,rs[k]?=some r:=an (by omega);have Ib:=hr r (List.mem_of_getElem? I8);have hrn:=bH Ib;rw[drop_cons I8]at hT;obtain⟨b1,ba⟩: ∃b,R[r.1.toNat]?=some b:=an (by omega);obtain⟨b2,bq⟩: ∃b,L[r.2.1.toNat]?=some b:=an (by omega);have hf:=Jl (n,a,rs) r;dsimp only at hf;rw[rH h8 Ib]at hf;refine⟨Int.natCast_nonneg _,r,I8,_,hf,?_⟩;simp only[go_sem,zA,↓reduceIte,↓reduceDIte,zB,zC,zD,zE,zF,zG,zH,zI,qy,rK,tv,tw];refine⟨by omega,b1,ba,?_⟩;cases b1;(·simp only[go_sem,zA,↓reduceIte,↓reduceDIte,zB,zC,zD,zE,zF,zG,zH,zI,qy,rK,tv,tw];rw[qk (.inl ba)]at hT;exact⟨aw (by omega) (by omega),back _ (k+1,[]) (by refine⟨?_,?_,rfl,rfl⟩<;>repeat' (first|exact trivial|exact Or.inl rfl|exact Or.inr rfl|apply br|apply bt|apply bu|apply bA|exact⟨(by show(_:Nat)<1000000000;omega),rfl,rfl⟩|rfl|(refine And.intro (Or.inl ?_) ?_)|(refine And.intro ?_ ?_))) ⟨(by first|omega|(show(_:Int)≤_;omega)|(show(_:Int)<_;omega)|(dsimp only;omega)),by dsimp only;omega,hT⟩ (by dsimp only;omega)⟩);·simp only[go_sem,zA,↓reduceIte,↓reduceDIte,zB,zC,zD,zE,zF,zG,zH,zI,qy,rK,tv,tw];refine⟨by omega,b2,bq,?_⟩;cases b2;(·simp only[go_sem,zA,↓reduceIte,↓reduceDIte,zB,zC,zD,zE,zF,zG,zH,zI,qy,rK,tv,tw];rw[qk (.inr bq)]at hT;exact⟨aw (by omega) (by omega),back _ (k+1,[]) (by refine⟨?_,?_,rfl,rfl⟩<;>repeat' (first|exact trivial|exact Or.inl rfl|exact Or.inr rfl|apply br|apply bt|apply bu|apply bA|exact⟨(by show(_:Nat)<1000000000;omega),rfl,rfl⟩|rfl|(refine And.intro (Or.inl ?_) ?_)|(refine And.intro ?_ ?_))) ⟨(by first|omega|(show(_:Int)≤_;omega)|(show(_:Int)<_;omega)|(dsimp only;omega)),by dsimp only;omega,hT⟩ (by dsimp only;omega)⟩);·simp only[go_sem,zA,↓reduceIte,↓reduceDIte,zB,zC,zD,zE,zF,zG,zH,zI,qy,rK,tv,tw];rw[zn ba bq]at hT;exact⟨aw (by omega) (by omega),back _ (k+1,[(r,(k:Int))]) (by refine⟨?_,?_,rfl,rfl⟩<;>repeat' (first|exact trivial|exact Or.inl rfl|exact Or.inr rfl|apply br|apply bt|apply bu|apply bA|exact⟨(by show(_:Nat)<1000000000;omega),rfl,rfl⟩|rfl|(refine And.intro (Or.inl ?_) ?_)|(refine And.intro ?_ ?_))) ⟨(by first|omega|(show(_:Int)≤_;omega)|(show(_:Int)<_;omega)|(dsimp only;omega)),by simp,hT⟩ (by dsimp only;omega)⟩);·rw[List.drop_of_length_le (by omega)]at hT;(have e:([]:Ob)=T:=by simpa[c9]using hT);rw[←e];rfl)
 ·refine av ae ⟨_,Jh,rfl⟩ 2000 _ _ (by kernel_rfl) ?_;simp only[go_sem,zA,↓reduceIte,↓reduceDIte,zB,zC,zD,zE,zF,zG,zH,zI,qy,rK,tv,tw];refine⟨fun g=>?_,fun g=>?_⟩;(·obtain⟨r,I8⟩: ∃r,rs[k]?=some r:=an (by omega);have Ib:=hr r (List.mem_of_getElem? I8);have hrn:=bH Ib;rw[drop_cons I8]at hT;obtain⟨b1,ba⟩: ∃b,R[r.1.toNat]?=some b:=an (by omega);obtain⟨b2,bq⟩: ∃b,L[r.2.1.toNat]?=some b:=an (by omega);have hf:=Jl (n,a,rs) r;dsimp only at hf;rw[rH h8 Ib]at hf;refine⟨Int.natCast_nonneg _,r,I8,_,hf,?_⟩;simp only[go_sem,zA,↓reduceIte,↓reduceDIte,zB,zC,zD,zE,zF,zG,zH,zI,qy,rK,tv,tw];refine⟨by omega,b1,ba,?_⟩;cases b1;(·simp only[go_sem,zA,↓reduceIte,↓reduceDIte,zB,zC,zD,zE,zF,zG,zH,zI,qy,rK,tv,tw];rw[qk (.inl ba)]at hT;exact⟨aw (by omega) (by omega),back _ (k+1,p0::acc) (by refine⟨?_,?_,rfl,rfl⟩<;>repeat' (first|exact trivial|exact Or.inl rfl|exact Or.inr rfl|apply br|apply bt|apply bu|apply bA|exact⟨(by show(_:Nat)<1000000000;omega),rfl,rfl⟩|rfl|(refine And.intro (Or.inl ?_) ?_)|(refine And.intro ?_ ?_))) ⟨(by first|omega|(show(_:Int)≤_;omega)|(show(_:Int)<_;omega)|(dsimp only;omega)),by dsimp only;omega,hT⟩ (by dsimp only;omega)⟩);·simp only[go_sem,zA,↓reduceIte,↓reduceDIte,zB,zC,zD,zE,zF,zG,zH,zI,qy,rK,tv,tw];refine⟨by omega,b2,bq,?_⟩;cases b2;(·simp only[go_sem,zA,↓reduceIte,↓reduceDIte,zB,zC,zD,zE,zF,zG,zH,zI,qy,rK,tv,tw];rw[qk (.inr bq)]at hT;exact⟨aw (by omega) (by omega),back _ (k+1,p0::acc) (by refine⟨?_,?_,rfl,rfl⟩<;>repeat' (first|exact trivial|exact Or.inl rfl|exact Or.inr rfl|apply br|apply bt|apply bu|apply bA|exact⟨(by show(_:Nat)<1000000000;omega),rfl,rfl⟩|rfl|(refine And.intro (Or.inl ?_) ?_)|(refine And.intro ?_ ?_))) ⟨(by first|omega|(show(_:Int)≤_;omega)|(show(_:Int)<_;omega)|(dsimp only;omega)),by dsimp only;omega,hT⟩ (by dsimp only;omega)⟩);·simp only[go_sem,zA,↓reduceIte,↓reduceDIte,zB,zC,zD,zE,zF,zG,zH,zI,qy,rK,tv,tw];rw[zn ba bq]at hT;(have e1:List.map (fun x:Rl×Int=>x.2) acc++ [(k:Int)]=List.map (fun x=>x.2) (acc++ [(r,(k:Int))]):=by simp);(have e2:List.map (fun x:Rl×Int=>x.1) acc++ [(r.1,r.2.1,r.2.2.1,r.2.2.2.1,r.2.2.2.2)]=List.map (fun x=>x.1) (acc++ [(r,(k:Int))]):=by simp);rw[e1,e2];simp only[List.length_cons]at ha;exact⟨by rw[List.length_map];omega,by rw[List.length_map];omega,aw (by omega) (by omega),back _ (k+1,p0::(acc++ [(r,(k:Int))])) (by refine⟨?_,?_,rfl,rfl⟩<;>repeat' (first|exact trivial|exact Or.inl rfl|exact Or.inr rfl|apply br|apply bt|apply bu|apply bA|exact⟨(by show(_:Nat)<1000000000;omega),rfl,rfl⟩|rfl|(refine And.intro (Or.inl ?_) ?_)|(refine And.intro ?_ ?_))) ⟨(by first|omega|(show(_:Int)≤_;omega)|(show(_:Int)<_;omega)|(dsimp only;omega)),by simp;omega,by rw[←hT];simp⟩ (by dsimp only;omega)⟩);·rw[List.drop_of_length_le (by omega)]at hT;(have e:p0::acc=T:=by simpa[c9]using hT);rw[←e];rfl
end Go.Proofs.YtgpkijnphchkpaaGreat
namespace Go.Proofs.YtgpkijnphchkpaaGreat
set_option maxHeartbeats 4000000
set_option maxRecDepth 100000
structure StE(a:Int)(n k:Nat)(L:List En):Prop where
 len:L.length=n
 at_: ∀i e,L[i]?=some e→e=([],0,decide (i<k)&&mI a (i:Int))
end Go.Proofs.YtgpkijnphchkpaaGreat
namespace Go.Proofs.YtgpkijnphchkpaaGreat
set_option maxHeartbeats 4000000
set_option maxRecDepth 100000
def bn9:cB:=(2,1,[(0,1,[99],[],1),(0,0,[98],[98],2)])
theorem tf:qK bn9=((2,1,[(0,0,[98],[98],2)]),[1]):=by decide
theorem K0 {E:Env} {G:Goal} {n:Nat} {b b':Bool} {d:Nat} {want:Bool} {o:Oper} {all:List Oper} {N:List Nat} {acc:List (List Nat)} {os:List Oper} {k:List WI} {s:St} (h:b=b')(hp:PK E G n (.iv .bool b') d want o all N acc os k s):PK E G n (.iv .bool b) d want o all N acc os k s:=by
 rw[h];exact hp
end Go.Proofs.YtgpkijnphchkpaaGreat
namespace Go.Proofs.YtgpkijnphchkpaaGreat
set_option maxHeartbeats 4000000
set_option maxRecDepth 100000
end Go.Proofs.YtgpkijnphchkpaaGreat
namespace Go.Proofs.YtgpkijnphchkpaaGreat
set_option maxHeartbeats 4000000
set_option maxRecDepth 100000
end Go.Proofs.YtgpkijnphchkpaaGreat
namespace Go.Proofs.YtgpkijnphchkpaaGreat
set_option maxHeartbeats 4000000
set_option maxRecDepth 100000
theorem Nf {s:cB} (hs:ij s): ∀e,e∈rI s.2.2→e.2<(nF s.1.toNat).length:=by
 intro e he;unfold rI at he;obtain⟨r,hr,rfl⟩:=List.mem_map.1 he;have:=bH (hs.right r hr);unfold nF;simp;omega
theorem Ng {s:cB} (hs:ij s): ∀e,e∈jk s.2.2→e.2<(eO s.2.1 s.1.toNat).length:=by
 intro e he;unfold jk at he;obtain⟨r,hr,rfl⟩:=List.mem_map.1 he;have:=bH (hs.right r hr);rw[nG];show r.1.toNat<_;omega
theorem pa {s:cB} (hs:ij s)(m:Nat):on (dS s) m↔Cl (rI s.2.2) (nF s.1.toNat) m:=tr (Nf hs) (by unfold nF;simp) m
theorem DL {s:cB} (hs:ij s)(m:Nat):on (mK s) m↔Cl (jk s.2.2) (eO s.2.1 s.1.toNat) m:=tr (Ng hs) (by rw[nG];exact Nat.le_refl _) m
theorem DM {s:cB} (hs:ij s):on (dS s) 0:=(pa hs 0).2 (.base 0 (o9 (by have:=hs.n1;rw[List.length_replicate];omega)))
theorem DN {s:cB} (hs:ij s) {r:Rl} (hr:r∈s.2.2)(h:on (dS s) r.1.toNat):on (dS s) r.2.1.toNat:=(pa hs _).2 (.step _ _ ((pa hs _).1 h) (List.mem_map.2 ⟨r,hr,rfl⟩))
theorem Nh {s:cB} (hs:ij s) {r:Rl} (hr:r∈s.2.2)(h:on (mK s) r.2.1.toNat):on (mK s) r.1.toNat:=(DL hs _).2 (.step _ _ ((DL hs _).1 h) (List.mem_map.2 ⟨r,hr,rfl⟩))
theorem SU {s:cB} (hs:ij s) {m:Nat} (hm:m<s.1.toNat)(h:mI s.2.1 (m:Int)=true):on (mK s) m:=(DL hs _).2 (.base m (by unfold on;rw[B5 hm,h]))
end Go.Proofs.YtgpkijnphchkpaaGreat
namespace Go.Proofs.YtgpkijnphchkpaaGreat
set_option maxHeartbeats 4000000
set_option maxRecDepth 100000
theorem rL {R L:List Bool} : ∀ {rs:List Rl} {i:Nat} {p:Rl×Int},p∈c9 R L rs i↔ ∃(j:Nat),rs[j]?=some p.1∧p.2=((i+j:Nat):Int)∧on R p.1.1.toNat∧on L p.1.2.1.toNat|[],i,p=>(by simp[c9])|r::rs,i,p=>by have ih:= @rL R L rs (i+1) p;(have hd:(∃(j:Nat),(r::rs)[j]?=some p.1∧p.2=((i+j:Nat):Int)∧on R p.1.1.toNat∧on L p.1.2.1.toNat)↔(r=p.1∧p.2=(i:Int)∧on R p.1.1.toNat∧on L p.1.2.1.toNat)∨ ∃(j:Nat),rs[j]?=some p.1∧p.2=((i+1+j:Nat):Int)∧on R p.1.1.toNat∧on L p.1.2.1.toNat:=by constructor;(·rintro⟨j,h1,h2,h3⟩;cases j with|zero=>exact .inl ⟨by simpa using h1,by simpa using h2,h3⟩|succ j=>exact .inr ⟨j,by simpa using h1,by rw[h2];congr 1;omega,h3⟩);·rintro(⟨h1,h2,h3⟩|⟨j,h1,h2,h3⟩);(·exact⟨0,by simpa using h1,by simpa using h2,h3⟩);·exact⟨j+1,by simpa using h1,by rw[h2];congr 1;omega,h3⟩);rw[hd,←ih];have e:c9 R L (r::rs) i=if R[r.1.toNat]?=some true∧L[r.2.1.toNat]?=some true then(r,(i:Int))::c9 R L rs (i+1)else c9 R L rs (i+1):=rfl;rw[e];split;(·rename_i h;rw[List.mem_cons];refine or_congr ?_ Iff.rfl;constructor;(·rintro rfl;exact⟨rfl,rfl,h⟩);·rintro⟨rfl,h2,_⟩;exact Prod.ext rfl h2);·rename_i h;refine⟨.inr,fun g=>g.resolve_left ?_⟩;rintro⟨rfl,_,h3⟩;exact h h3
theorem rM {R L:List Bool} : ∀ {rs:List Rl} {i:Nat},((c9 R L rs i).map (·.1)).Sublist rs|[],_=>List.Sublist.slnil|r::rs,i=>by have e:c9 R L (r::rs) i=if R[r.1.toNat]?=some true∧L[r.2.1.toNat]?=some true then(r,(i:Int))::c9 R L rs (i+1)else c9 R L rs (i+1):=rfl;rw[e];split;(·exact List.Sublist.cons_cons _ rM);·exact List.Sublist.cons _ rM
theorem vm {s:cB} {r:Rl} :r∈(qK s).1.2.2↔r∈s.2.2∧on (dS s) r.1.toNat∧on (mK s) r.2.1.toNat:=by
 show r∈(wc s).map (·.1)↔_;rw[List.mem_map];constructor;(·rintro⟨p,hp,rfl⟩;obtain⟨j,h1,_,h3⟩:=rL.1 hp;exact⟨List.mem_of_getElem? h1,h3⟩);·rintro⟨h1,h2⟩;obtain⟨j,hj⟩:=List.getElem?_of_mem h1;exact⟨(r,((0+j:Nat):Int)),rL.2 ⟨j,hj,rfl,h2⟩,rfl⟩
theorem ai1 {s:cB} (hs:ij s):ij (qK s).1:=⟨hs.n1,hs.n8,hs.a1,hs.a2,Nat.le_trans (by show((wc s).map (·.1)).length≤_;rw[List.length_map];exact zo _ _ _ _) hs.len,fun r hr=>hs.right r (vm.1 hr).1,hs.nodup.sublist rM⟩
end Go.Proofs.YtgpkijnphchkpaaGreat
