/- Contracts: the threads that are opened. Nothing here is trusted; no condition. -/
import Derived.Test.YtimognngcagphaaGreatD1
set_option linter.all false
set_option maxHeartbeats 8000000
set_option maxRecDepth 100000
namespace Go.Proofs.YtimognngcagphaaGreat
section
section
variable {K V:Type} {eq:K→K→Bool} (he: ∀x y,eq x y=true↔x=y)
include he
theorem Yj {x y:K} (h:x≠y):eq x y=false:=by cases hh:eq x y with|false=>rfl|true=>exact absurd ((he x y).1 hh) h
theorem DZ(x:K):eq x x=true:=(he x x).2 rfl
theorem vI(v:V)(a b:K): ∀(m:List (K×V)),aN eq (cU eq m a v) b=bif eq b a then some v else aN eq m b|[]=>(by simp only[cU,aN])|p::r=>by simp only[cU];cases HH:eq a p.1 with|true=>have e:=(he a p.1).1 HH;simp only[cond_true,aN];rw[←e];cases eq b a<;>rfl|false=>simp only[cond_false,aN];rw[vI v a b r];cases hbp:eq b p.1 with|true=>have e:=(he b p.1).1 hbp;have:eq b a=false:=Yj he (fun h=>by rw[←h,e,DZ he]at HH;cases HH);simp only[cond_true,this,cond_false]|false=>simp only[cond_false]
theorem kX(v:V)(a:K)(m:List (K×V)):aN eq (cU eq m a v) a=some v:=by rw[vI he,DZ he];rfl
theorem lC(v:V) {a b:K} (h:b≠a)(m:List (K×V)):aN eq (cU eq m a v) b=aN eq m b:=by rw[vI he,Yj he h];rfl
theorem my {k:K} {v:V} : ∀ {m:List (K×V)},aN eq m k=some v→(k,v)∈m|[],h=>(by simp[aN]at h)|p::r,h=>by simp only[aN]at h;cases TK:eq k p.1 with|true=>rw[TK]at h;simp only[cond_true,y5]at h;have e:=(he k p.1).1 TK;rw[e,←h];exact y8|false=>rw[TK]at h;exact y7 _ (my h)
theorem kY {k:K} : ∀ {m:List (K×V)},k∈m.map (·.1)→ ∃v,aN eq m k=some v|[],h=>(by simp at h)|p::r,h=>by simp only[aN];cases TK:eq k p.1 with|true=>exact⟨_,rfl⟩|false=>rw[List.map_cons,List.mem_cons]at h;rcases h with h|h;(·rw[h,DZ he]at TK;cases TK);·exact kY h
theorem nn(k:K)(v:V): ∀(m:List (K×V)),(k∈m.map (·.1)∧(cU eq m k v).map (·.1)=m.map (·.1))∨(k∉m.map (·.1)∧(cU eq m k v).map (·.1)=m.map (·.1)++ [k])|[]=>.inr ⟨by simp,rfl⟩|p::r=>by simp only[cU];cases TK:eq k p.1 with|true=>have e:=(he k p.1).1 TK;exact .inl ⟨by rw[e];simp,by simp only[cond_true,List.map_cons];rw[e]⟩|false=>(have bS:k≠p.1:=fun h=>by rw[h,DZ he]at TK;cases TK);simp only[cond_false,List.map_cons];rcases nn k v r with⟨h1,h2⟩|⟨h1,h2⟩;(·exact .inl ⟨y7 _ h1,by rw[h2]⟩);·exact .inr ⟨fun h=>(wl h).elim bS h1,by rw[h2];rfl⟩
theorem qO {k:K} {v:V} {m:List (K×V)} (h:(m.map (·.1)).Nodup):((cU eq m k v).map (·.1)).Nodup:=by
 rcases nn he k v m with⟨_,h2⟩|⟨h1,h2⟩;(·rw[h2];exact h);·rw[h2,List.nodup_append];refine⟨h,by simp,fun a ha b hb=>?_⟩;rw[List.mem_singleton]at hb;subst hb;exact fun e=>h1 (e▸ha)
theorem gE {k:K} {v:V} : ∀ {m:List (K×V)},(m.map (·.1)).Nodup→((k,v)∈m↔aN eq m k=some v)|[],_=>(by simp[aN])|p::r,h=>by rw[List.map_cons,List.nodup_cons]at h;refine⟨fun hm=>?_,my he⟩;simp only[aN];rcases wl hm with e|hm;(·subst e;rw[DZ he];rfl);·rw[Yj he (fun e=>h.1 (by rw[←e];exact List.mem_map.2 ⟨_,hm,rfl⟩)),cond_false];exact(gE h.2).1 hm
theorem mz(k:K)(v:V)(m:List (K×V)):(cU eq m k v).length≤m.length+1:=by
 have:=congrArg List.length (show(cU eq m k v).map (·.1)=_ from rfl);rcases nn he k v m with⟨_,h2⟩|⟨_,h2⟩;(·have:=congrArg List.length h2;simp only[List.length_map]at this;omega)
 ·have:=congrArg List.length h2;simp only[List.length_map,y9,x6,List.length_nil]at this;omega
end
end
section
attribute[local go_sem←]u3 u4 u5
attribute[local go_sem]gH bH ne_eq not_false_eq_true
def je(s:ax):Bool:=decide (s.length≤20)&&s.all Dv
theorem LK(s:ax):je s=(decide (s=[])||Lk s):=by unfold je Lk;cases s with|nil=>rfl|cons a l=>simp
theorem LL(s:ax):PC env 31 [⟨.str,s⟩] .bool (je s):=by
 rw[LK];refine PC.aC (m:=2000) ae bI7 rfl rfl rfl rfl (by kernel_rfl) ?_;intro hx;simp only[Tryz.f31];simp only[go_sem]
 have d:=(bv4 s).dec;generalize Lk s=b at*;have jR:bytesOf ⟨#[]⟩=([]:ax):=rfl;simp only[jR];(repeat' (first|(with_reducible intro _)|(with_reducible apply And.intro)|(with_reducible refine⟨_,d,?_⟩;try simp only[go_sem])|fail))
 all_goals first|omega|(simp_all;try omega)
theorem IJ(s:bR)(m:Int)(h0:0≤m∧m<8):PC env 129 [⟨ai,s⟩,⟨.int .i64,m⟩] .bool (gU s.2.1 m):=by
 obtain⟨n,a,rs⟩:=s;refine PC.aC (m:=2000) ae bs6 rfl rfl rfl rfl (by kernel_rfl) ?_;intro hx;simp only[Tryz.f129];simp only[go_sem]
 have ha:0≤a:=hx.1.2.1.1;refine⟨⟨ha,h0⟩,oz ha _,?_⟩;have:=xD (oz ha m.toNat);simp only[Int.reduceToNat]at this;rw[this];rfl
theorem BF(p q:Int×Int):PC env 88 [⟨fv,p⟩,⟨fv,q⟩] .bool (Rev.gy p q):=by
 obtain⟨a,b⟩:=p;obtain⟨c,d⟩:=q;refine PC.aC (m:=2000) ae bL0 rfl rfl rfl rfl (by kernel_rfl) ?_;intro hx;simp only[Tryz.f88];simp only[go_sem]
 unfold Rev.gy;refine⟨fun g=>⟨fun g1=>?_,fun g1=>?_⟩,fun g=>?_⟩;(·exact decide_eq_decide.2 v7);(·exact(decide_eq_false v7).symm)
 ·exact(decide_eq_true v7).symm
theorem QA(p q:Int×Int)(h: -9223372036854775808≤p.1+q.1∧p.1+q.1≤9223372036854775807)(h2: -9223372036854775808≤p.2+q.2∧p.2+q.2≤9223372036854775807):PC env 87 [⟨fv,p⟩,⟨fv,q⟩] fv (Rev.nY p q):=by
 obtain⟨a,b⟩:=p;obtain⟨c,d⟩:=q;refine PC.aC (m:=2000) ae bK9 rfl rfl rfl rfl (by kernel_rfl) ?_;intro hx;simp only[Tryz.f87];simp only[go_sem]
 exact⟨h,h2,rfl⟩
theorem IK(s p:ax):PC env 114 [⟨.str,s⟩,⟨.str,p⟩] .bool (p.isPrefixOf s):=by
 refine PC.aC (m:=2000) ae XE rfl rfl rfl rfl (by kernel_rfl) ?_;intro hx;simp only[Tryz.f114];simp only[go_sem]
 refine⟨fun g=>⟨⟨x5,g⟩,?_⟩,fun g=>?_⟩;(·rw[Bool.eq_iff_iff,decide_eq_true_eq,List.isPrefixOf_iff_prefix,List.prefix_iff_eq_take];exact eq_comm)
 ·cases h:p.isPrefixOf s with|false=>rfl|true=>have:=(List.isPrefixOf_iff_prefix.1 h).length_le;omega
theorem LM(s p:ax):PC env 69 [⟨.str,s⟩,⟨.str,p⟩] .bool (p.isPrefixOf s):=by
 refine PC.aC (m:=2000) ae aW1 rfl rfl rfl rfl (by kernel_rfl) ?_;intro hx;simp only[Tryz.f69];simp only[go_sem]
 exact⟨_,IK s p,rfl⟩
abbrev Sp:=Int×Int×Int
abbrev Gs:=List ((Sp×Int)×((Int×Int)×Bool))
abbrev fBl(s:bR)(out:ax)(es:Gs):List (Nat×aQ):=[(1000000000,.box [.iv (.int .i64) s.1,.iv (.int .u8) s.2.1,.iv (.sl ba) s.2.2,.iv .str out,.lmap 1000000001]),(1000000001,.mp fR ju es)]
def ka(out:ax)(p:Sp)(r:Rl):Sp×Bool:=if r.1=p.2.1∧r.2.2.2.1.isPrefixOf (out.drop p.1.toNat)=true then if r.2.2.2.1≠ []then((p.1+(r.2.2.2.1.length:Int),r.2.1,(1*2^r.2.1.toNat:Int)),true)else((p.1,r.2.1,((p.2.2.toNat ||| (1*2^r.2.1.toNat:Int).toNat:Nat):Int)),decide (((p.2.2.toNat &&& (1*2^r.2.1.toNat:Int).toNat:Nat):Int)=0))else((0,0,0),false)
theorem IL(m:Nat):(1*2^m:Int)=((2^m:Nat):Int):=by rw[Int.one_mul];exact(Int.natCast_pow 2 m).symm
theorem LN: ∀m:Fin 8,∀s:Fin 256,(s.val &&& 2^m.val=0↔s.val/2^m.val%2=0)∧(s.val/2^m.val%2=0→s.val ||| 2^m.val=s.val+2^m.val):=by decide+kernel
theorem vJ {out:ax} {p q:Sp} {r:Rl} (hp:Rev.GO out p)(hr:0≤r.2.1∧r.2.1<8):(ka out p r=(q,true)↔Rev.bD out p r=some q):=by
 have hb:=LN ⟨r.2.1.toNat,v6⟩ ⟨p.2.2.toNat,by have:=hp.seen;omega⟩;dsimp only at hb;unfold ka Rev.bD;split;(·split;(·rw[IL,Prod.mk.injEq,y5];unfold Rev.pB;simp);·rw[IL,Int.toNat_natCast];unfold Rev.gL;by_cases hz:p.2.2.toNat/2^r.2.1.toNat%2=0;(·rw[if_pos (decide_eq_false v6),hb.2 hz,hb.1.2 hz,Prod.mk.injEq,y5];unfold Rev.pB;(have e:((p.2.2.toNat+2^r.2.1.toNat:Nat):Int)=p.2.2+((2^r.2.1.toNat:Nat):Int):=by have:=hp.seen;omega);rw[e];simp);·rw[if_neg (by rw[decide_eq_false_iff_not];omega),Prod.mk.injEq];have: ¬(((p.2.2.toNat &&& 2^r.2.1.toNat:Nat):Int)=0):=fun h=>hz (hb.1.1 v6);rw[decide_eq_false this];simp)
 ·simp
theorem D1 {out:ax} {p:Sp} {r:Rl} (hp:Rev.GO out p)(hr:0≤r.2.1∧r.2.1<8)(h:(ka out p r).2=false):Rev.bD out p r=none:=by
 cases hh:Rev.bD out p r with|none=>rfl|some q=>rw[(vJ hp hr).2 hh]at h;cases h
theorem Yk(s:bR)(out:ax)(es:Gs)(p:Sp)(h0:0≤p.2.1∧p.2.1<8):PC env 90 [⟨.ptr jd,(s,out,es)⟩,⟨ky,p⟩] .bool (decide (p.1=out.length)&&gU s.2.1 p.2.1):=by
 obtain⟨n,a,rs⟩:=s;obtain⟨at_,md,sn⟩:=p;refine PC.aC (m:=2000) ae bL1 rfl rfl rfl rfl (by kernel_rfl) ?_;intro hx;simp only[Tryz.f90];simp only[go_sem]
 refine⟨fun g=>⟨_,IJ (n,a,rs) md h0,?_⟩,fun g=>?_⟩;(·rw[decide_eq_true g];rfl);·rw[decide_eq_false g];rfl
theorem QB(s:bR)(out:ax)(ho:out.length≤20)(es:Gs)(p:Sp)(r:Rl)(hp:Rev.GO out p)(hr:0≤r.2.1∧r.2.1<8):PC env 84 [⟨.ptr jd,(s,out,es)⟩,⟨ky,p⟩,⟨ba,r⟩] (.bG ky .bool) (ka out p r):=by
 obtain⟨n,a,rs⟩:=s;obtain⟨at_,md,sn⟩:=p;obtain⟨fr,to,i,o,c⟩:=r;refine PC.aC (m:=2000) ae bK7 rfl rfl rfl rfl (by kernel_rfl) ?_;intro hx;simp only[Tryz.f84];simp only[go_sem]
 have jR:bytesOf ⟨#[]⟩=([]:ax):=rfl;refine⟨fun g=>⟨⟨hp.at0,hp.at1⟩,_,LM (out.drop at_.toNat) o,?_⟩,fun g=>?_⟩;(·cases hq:o.isPrefixOf (out.drop at_.toNat);(·simp only[Bool.not_false];simp only[go_sem];unfold ka;rw[if_neg (by rintro⟨_,h⟩;dsimp only at h;rw[hq]at h;cases h)]);·simp only[Bool.not_true];simp only[go_sem];simp only[jR];(have hE:ka out (at_,md,sn) (fr,to,i,o,c)=if o≠ []then((at_+(o.length:Int),to,(1*2^to.toNat:Int)),true)else((at_,to,((sn.toNat ||| (1*2^to.toNat:Int).toNat:Nat):Int)),decide (((sn.toNat &&& (1*2^to.toNat:Int).toNat:Nat):Int)=0)):=by unfold ka;rw[if_pos ⟨g,hq⟩]);rw[hE];have h0:=hp.at0;have h1:=hp.at1;have h2:=hp.seen;dsimp only at h0 h1 h2 hr;have jF:=(List.isPrefixOf_iff_prefix.1 hq).length_le;rw[List.length_drop]at jF;(have bw0:(0:Int)≤1*2^to.toNat∧(1*2^to.toNat:Int)≤255:=by rw[IL];have:=Rev.X9 (m:=to) hr.2;unfold Rev.pB at this;refine⟨x5,?_⟩;omega);refine⟨hr,bw0,fun g1=>⟨⟨v6,v6⟩,?_⟩,fun g1=>⟨⟨h2.1,bw0.1⟩,⟨h2.1,bw0.1⟩,?_⟩⟩;(·rw[if_pos g1]);·rw[if_neg (by simpa using g1)])
 ·unfold ka;rw[if_neg (by rintro⟨h,_⟩;exact g h)]
abbrev Th:=List ((Sp×ax)×Int)
theorem Ow(x y:bB.den):fO bB x y=true↔x=y:=nO bB x y rfl
theorem eqR(x y:fR.den):fO fR x y=true↔x=y:=nO fR x y rfl
def pF(es:Th)(t:Sp×ax)(c:Int):Bool:=match aN (fO bB) es t with|some iG=>decide (c<iG)|none=>true
def gz(es:Th)(t:Sp×ax)(c:Int):Th:=if pF es t c=true then cU (fO bB) es t c else es
theorem Yl(es:Th)(hl:es.length<9223372036854775807)(t:Sp×ax)(c:Int):HC env 85 [.lmap 1000000000,.iv bB t,.iv (.int .i64) c] [(1000000000,.mp bB (.int .i64) es)] (.iv .bool (pF es t c)) [(1000000000,.mp bB (.int .i64) (gz es t c))]:=by
 obtain⟨⟨at_,md,sn⟩,m⟩:=t;refine HC.aC (m:=2000) ae bK8 rfl rfl rfl rfl (by kernel_rfl) ?_;intro hx gD;simp only[Tryz.f85];simp only[go_sem]
 have hlen:=mz Ow ((at_,md,sn),m) c es;unfold gz pF;refine⟨fun x hx=>⟨fun g=>?_,fun g=>⟨?_,?_⟩⟩,fun hn=>⟨?_,?_⟩⟩;(all_goals first|(show(_:Nat)≤_;omega)|skip);(·rw[hx];simp;omega)
 (·rw[hx];simp;omega);·rw[hn];simp
end
section
attribute[local go_sem←]u3 u4 u5
attribute[local go_sem]gH bH ne_eq not_false_eq_true
def gl(o:Option (Int×Int)):(Int×Int)×Bool:=match o with|none=>((0,0),true)|some p=>(p,false)
theorem IM:gl none=((0,0),true):=rfl
theorem IN(p:Int×Int):gl (some p)=(p,false):=rfl
def GX(out:ax)(k:Sp×Int):Prop:=Rev.GO out k.1∧(0≤k.1.2.1∧k.1.2.1<8)∧0≤k.2∧k.2≤40
structure GI(s:bR)(out:ax)(es:Gs):Prop where
 iL: ∀k,k∈es.map (·.1)→GX out k
 once:(es.map (·.1)).Nodup
 val: ∀k g,aN (fO fR) es k=some g→g=gl (Rev.jW s.2.2 s.2.1 out k.1 k.2)
def GY(k:Sp×Int):Nat:=((k.1.1.toNat*8+k.1.2.1.toNat)*256+k.1.2.2.toNat)*41+k.2.toNat
theorem S5 {out:ax} {k l:Sp×Int} (hk:GX out k)(hl:GX out l)(h:GY k=GY l):k=l:=by
 obtain⟨⟨a,m,s⟩,n⟩:=k;obtain⟨⟨a',m',s'⟩,n'⟩:=l;obtain⟨⟨h1,h2,h3⟩,h4,h5⟩:=hk;obtain⟨⟨g1,g2,g3⟩,g4,g5⟩:=hl;unfold GY at h;dsimp only at*;have e1:n=n':=v6;have e2:s=s':=v6
 have e3:m=m':=v6;have e4:a=a':=v6;rw[e1,e2,e3,e4]
theorem Ym {out:ax} (ho:out.length≤20) {k:Sp×Int} (hk:GX out k):GY k<1763328:=by obtain⟨⟨a,m,s⟩,n⟩:=k;obtain⟨⟨h1,h2,h3⟩,h4,h5⟩:=hk;unfold GY;dsimp only at*;omega
theorem D2: ∀(n:Nat)(l:List Nat),l.Nodup→(∀x,x∈l→x<n)→l.length≤n|0,l,_,h=>(by cases l with|nil=>exact x8|cons a l=>exact absurd (h a y8) (Nat.not_lt_zero _))|n+1,l,hd,h=>by by_cases hn:n∈l;(·(have h1:=D2 n (l.erase n) (hd.erase n) fun x hx=>by have:=(hd.mem_erase_iff).1 hx;have:=h x this.2;omega);rw[List.length_erase_of_mem hn]at h1;omega);·(have:=D2 n l hd fun x hx=>by have h1:=h x hx;have:x≠n:=fun e=>hn (e▸hx);omega);omega
theorem GI.len {s:bR} {out:ax} (ho:out.length≤20) {es:Gs} (h:GI s out es):es.length≤1763328:=by
 (have hn:((es.map (·.1)).map GY).Nodup:=by rw[List.Nodup,List.pairwise_map];exact h.once.imp_of_mem fun {a b} ha hb bS he=>bS (S5 (h.iL a ha) (h.iL b hb) he));(have:=D2 1763328 _ hn fun x hx=>by obtain⟨k,hk,rfl⟩:=List.mem_map.1 hx;exact Ym ho (h.iL k hk))
 simpa using this
theorem GI.put {s:bR} {out:ax} {es:Gs} (h:GI s out es) {k:Sp×Int} (hk:GX out k) {g:(Int×Int)×Bool} (hg:g=gl (Rev.jW s.2.2 s.2.1 out k.1 k.2)):GI s out (cU (fO fR) es k g):=by
 refine⟨fun l hl=>?_,qO eqR h.once,fun l g' hl=>?_⟩;(·rcases nn eqR k g es with⟨_,h2⟩|⟨_,h2⟩;(·rw[h2]at hl;exact h.iL l hl);·rw[h2,List.mem_append]at hl;rcases hl with hl|hl;(·exact h.iL l hl);·rw[wd hl];exact hk)
 ·by_cases e:l=k;(·rw[e,kX eqR]at hl;injection hl with hl;rw[←hl,e];exact hg);·rw[lC eqR _ e]at hl;exact h.val l g' hl
theorem ij {s:bR} (hs:gw s):Rev.uk s.2.2:=by
 have h8:=hs.n8;refine⟨fun r hr=>?_,fun r hr=>?_,fun r hr=>?_⟩;(·have:=bk (hs.right r hr);omega);(·have:=bk (hs.right r hr);omega);·have:=bk (hs.right r hr);omega
theorem QC(a:Int)(out:ax)(p:Sp)(ha:0≤a):Rev.jy a out p=(decide (p.1=out.length)&&gU a p.2.1):=by
 unfold Rev.jy Rev.gL gU;congr 1;(have e:a/2^p.2.1.toNat%2=((a.toNat/2^p.2.1.toNat%2:Nat):Int):=by obtain⟨k,rfl⟩: ∃k:Nat,a=k:=⟨a.toNat,v6⟩;simp);rw[e];exact decide_eq_decide.2 v6
theorem Yn {rs:List Rl} {acc:Int} {out:ax} (h:Rev.uk rs) {p:Sp} {x:ax} {c:Int} (hp:Rev.Path rs acc out p x c):Rev.GO out p→c≤1000*(Rev.ms out p:Int):=by
 induction hp with|done=>intro _;omega| @step p q r x c hr ha _ ih=>intro ho;obtain⟨h1,h2,_⟩:=Rev.eF ho (h.mode r hr) ha;have:=ih h1;have:=(h.cost r hr).2;omega
theorem LO {rs:List Rl} {acc:Int} {out:ax} (h:Rev.uk rs) {p:Sp} (hp:Rev.GO out p) {L:Int} {pr:Int×Int} (he:Rev.jW rs acc out p L=some pr):0≤pr.1∧pr.1≤1000*(Rev.ms out p:Int)∧0≤pr.2∧pr.2≤L:=by
 have hmn:=Rev.zp (acc:=acc) h L hp;rw[he]at hmn;obtain⟨⟨x,c,hP,hl,rfl⟩,_⟩:=hmn;exact⟨Rev.zo h hP,Yn h hP hp,x5,hl⟩
theorem Yo {out:ax} (ho:out.length≤20)(p:Sp):Rev.ms out p≤5375:=by unfold Rev.ms;omega
theorem bw1(s:bR)(hs:gw s)(out:ax)(ho:out.length≤20): ∀(f:Nat)(es:Gs)(p:Sp)(L:Int),GI s out es→Rev.GO out p→(0≤p.2.1∧p.2.1<8)→Rev.ms out p<f→(-8≤L∧L≤40)→HN env 86 [.ref 1000000000 0,.iv ky p,.iv (.int .i64) L] (fBl s out es) (.mp fR ju) (GI s out) (fun _=>.iv ju (gl (Rev.jW s.2.2 s.2.1 out p L))) (fun es'=>fBl s out es'):=by
 intro f;induction f with|zero=>intro _ _ _ _ _ _ h;exact absurd h (Nat.not_lt_zero _)|succ f ih=>intro es p L hG hp hm hf hL;obtain⟨n,a,rs⟩:=s;obtain⟨at_,md,sn⟩:=p;have Fm:=Rev.SN (acc:=a) (ij hs) L hp;dsimp only at Fm hm;obtain⟨T,hT⟩: ∃T,T=Rev.jW rs a out (at_,md,sn) L:=⟨_,rfl⟩;rw[←hT]at Fm;show HN env _ _ _ _ _ (fun _=>PV.iv ju (gl (Rev.jW rs a out (at_,md,sn) L))) _;rw[←hT];have aX5:=Yk (n,a,rs) out es (at_,md,sn) hm;rw[←QC a out (at_,md,sn) (by have:=hs.a1;dsimp only at this;omega)]at aX5;refine HN.aC (m:=2000) ae aW5 rfl rfl rfl rfl (by kernel_rfl) ?_;intro hx gD;simp only[Tryz.f86];simp only[go_sem];refine⟨fun h0=>⟨es,hG,by rw[Fm,if_pos h0];rfl,rfl⟩,fun h0=>⟨_,aX5,?_⟩⟩;rw[if_neg h0]at Fm;cases aO7:Rev.jy a out (at_,md,sn);(·rw[aO7]at Fm;simp only[Bool.false_eq_true,if_false]at Fm;simp only[go_sem];cases Hx:aN (fO fR) es ((at_,md,sn),L)with|some g=>simp only[Option.isSome_some,Option.getD_some];simp only[go_sem];have hg:=hG.val _ _ Hx;dsimp only at hg;rw[←hT]at hg;exact⟨es,hG,by rw[←hg],rfl⟩|none=>simp only[Option.isSome_none,Option.getD_none];simp only[go_sem];refine ah.bz (X:=Nat×Gs×Option (Int×Int)) (fun(z:Nat×Gs×Option (Int×Int))=>[(44,.iv (.int .i64) (z.1:Int))]) (fun(z:Nat×Gs×Option (Int×Int))=>[(10,.box [.iv (.int .i64) (gl z.2.2).1.1,.iv (.int .i64) (gl z.2.2).1.2,.iv .bool (gl z.2.2).2]),(1000000001,.mp fR ju z.2.1)]) (fun(z:Nat×Gs×Option (Int×Int))=>z.1≤rs.length∧GI (n,a,rs) out z.2.1∧(rs.drop z.1).foldl (fun b r=>Rev.better b (Rev.Bd out (Rev.jW rs a out) (at_,md,sn) L r)) z.2.2=T) (fun(z:Nat×Gs×Option (Int×Int))=>rs.length-z.1) (0,es,none) ?_;intro b1 b2 aS bd;simp only[go_sem]at aS bd;subst aS;subst bd;refine⟨v8,?_,?_⟩;(·exact⟨x9,hG,Fm.symm⟩);intro⟨k,Fo,b1⟩⟨hk,Yp,jA⟩back;dsimp only at hk Yp jA;refine av ae ⟨_,aW5,rfl⟩ 2000 _ _ (by kernel_rfl) ?_;simp only[go_sem];refine⟨fun g=>?_,fun g=>?_⟩;(·obtain⟨r,hr⟩: ∃r,rs[k]?=some r:=au v6;have wa:=x7 hr;have oa:=(ij hs).mode r wa;refine⟨x5,r,hr,_,QB (n,a,rs) out ho Fo (at_,md,sn) r hp oa,fun _=>?_⟩;have hln:rs.length≤64:=hs.len;rw[drop_cons hr,List.foldl_cons]at jA;cases hA:(ka out (at_,md,sn) r).2;(·have Kx:=D1 hp oa hA;(have hv:Rev.Bd out (Rev.jW rs a out) (at_,md,sn) L r=none:=by unfold Rev.Bd;rw[Kx]);rw[hv]at jA;(have hb:Rev.better b1 none=b1:=by cases b1<;>rfl);rw[hb]at jA;simp only[go_sem];exact⟨ak v6 v6,back _ (k+1,Fo,b1) v8 ⟨v6,Yp,jA⟩ v7⟩);·have uw:Rev.bD out (at_,md,sn) r=some (ka out (at_,md,sn) r).1:=(vJ hp oa).1 (Prod.ext rfl hA);obtain⟨q1,q2,q3⟩:=Rev.eF hp oa uw;have lf:=(ij hs).uJ r wa;have bN1:=(ij hs).cost r wa;generalize(ka out (at_,md,sn) r).1=q at*;simp only[go_sem];refine⟨ak v6 v6,_,_,_,_,ih Fo q (L-(r.2.2.1.length:Int)) Yp q1 (by rw[q3];exact oa) v6 ⟨v6,v6⟩,fun IP EI=>⟨rfl,fun _ _=>?_⟩⟩;dsimp only;(have hv:Rev.Bd out (Rev.jW rs a out) (at_,md,sn) L r=Rev.Lq (Rev.jW rs a out q (L-(r.2.2.1.length:Int))) (r.2.2.2.2,(r.2.2.1.length:Int)):=by unfold Rev.Bd;rw[uw]);rw[hv]at jA;have Fp:=fun pr he=>LO (acc:=a) (ij hs) q1 (L:=L-(r.2.2.1.length:Int)) (pr:=pr) he;dsimp only at Fp;have TL:=Yo ho q;cases hgq:Rev.jW rs a out q (L-(r.2.2.1.length:Int))with|none=>rw[hgq]at jA;(have hb:Rev.better b1 (Rev.Lq none (r.2.2.2.2,(r.2.2.1.length:Int)))=b1:=by cases b1<;>rfl);rw[hb]at jA;simp only[IM];simp only[go_sem];exact⟨ak v6 v6,back _ (k+1,IP,b1) v8 ⟨v6,EI,jA⟩ v7⟩|some pr=>obtain⟨t1,t2,t3,t4⟩:=Fp pr hgq;obtain⟨p1,p2⟩:=pr;rw[hgq]at jA;dsimp only at t1 t2 t3 t4;have Yq:=QA (p1,p2) (r.2.2.2.2,(r.2.2.1.length:Int)) ⟨v7,v7⟩ ⟨v7,v7⟩;simp only[IN];simp only[go_sem];refine⟨_,Yq,fun _=>?_⟩;have bw2:Rev.Lq (some (p1,p2)) (r.2.2.2.2,(r.2.2.1.length:Int))=some (Rev.nY (p1,p2) (r.2.2.2.2,(r.2.2.1.length:Int))):=rfl;rw[bw2]at jA;generalize Rev.nY (p1,p2) (r.2.2.2.2,(r.2.2.1.length:Int))=x at*;obtain⟨x1,x2⟩:=x;cases b1 with|none=>simp only[IM];simp only[go_sem];exact⟨ak v6 v6,back _ (k+1,IP,some (x1,x2)) v8 ⟨v6,EI,jA⟩ v7⟩|some b=>obtain⟨b1,b2⟩:=b;simp only[IN];simp only[go_sem];refine⟨_,BF (x1,x2) (b1,b2),?_⟩;cases cu:Rev.gy (x1,x2) (b1,b2);(·(have hb:Rev.better (some (b1,b2)) (some (x1,x2))=some (b1,b2):=by unfold Rev.better;dsimp only;rw[cu];rfl);rw[hb]at jA;simp only[go_sem];exact⟨ak v6 v6,back _ (k+1,IP,some (b1,b2)) v8 ⟨v6,EI,jA⟩ v7⟩);·(have hb:Rev.better (some (b1,b2)) (some (x1,x2))=some (x1,x2):=by unfold Rev.better;dsimp only;rw[cu];rfl);rw[hb]at jA;simp only[go_sem];exact⟨ak v6 v6,back _ (k+1,IP,some (x1,x2)) v8 ⟨v6,EI,jA⟩ v7⟩);·rw[List.drop_of_length_le v6]at jA;have hbT:b1=T:=jA;subst hbT;have ur:GX out ((at_,md,sn),L):=⟨hp,hm,v7,hL.2⟩;have:=mz eqR ((at_,md,sn),L) (gl b1) Fo;have:=Yp.len ho;exact⟨by show(cU (fO fR) Fo ((at_,md,sn),L) (gl b1)).length≤_;omega,cU (fO fR) Fo ((at_,md,sn),L) (gl b1),Yp.put ur (by rw[hT]),rfl,rfl⟩);·rw[aO7]at Fm;simp only[if_true]at Fm;simp only[go_sem];exact⟨es,hG,by rw[Fm];rfl,rfl⟩
end
section
attribute[local go_sem←]u3 u4 u5
attribute[local go_sem]gH bH ne_eq not_false_eq_true
theorem GZ {α:Type} [DecidableEq α]: ∀(l u:List α),l.Nodup→(∀x,x∈l→x∈u)→l.length≤u.length|[],_,_,_=>x9|a::l,u,hd,h=>by obtain⟨h1,h2⟩:=List.nodup_cons.1 hd;have ha:=h a y8;have:=GZ l (u.erase a) h2 fun x hx=>(List.mem_erase_of_ne (fun e=>h1 (by rw[←e];exact hx))).2 (h x (y7 _ hx));rw[List.length_erase_of_mem ha]at this;have:=List.length_pos_of_mem ha;rw[x6];omega
theorem BG {α:Type} (f:α→Nat)(B:Nat): ∀l:List α,(∀x,x∈l→f x≤B)→(l.map f).sum≤l.length*B|[],_=>(by simp)|a::l,h=>by have h1:=h a y8;have h2:=BG f B l fun x hx=>h x (y7 _ hx);rw[List.map_cons,List.sum_cons,x6,Nat.succ_mul];omega
theorem G0(n:Nat):(Rev.DY n).length=(n+1)*2048:=by unfold Rev.DY;simp only[List.length_flatMap,List.length_map,List.length_range,List.map_const',List.sum_replicate_nat]
def Ox(rs:List Rl):List ax:=[]::rs.flatMap fun r=>(List.range (r.2.2.1.length+1)).map fun j=>r.2.2.1.drop j
def aO8(rs:List Rl)(out:ax):List Rev.Thread:=(Rev.DY out.length).flatMap fun p=>(Ox rs).map fun m=>(p,m)
theorem Yr {rs:List Rl} (h:Rev.uk rs)(hl:rs.length≤64):(Ox rs).length≤321:=by
 unfold Ox;rw[x6,List.length_flatMap];(have:=BG (fun r:Rl=>((List.range (r.2.2.1.length+1)).map fun j=>r.2.2.1.drop j).length) 5 rs fun r hr=>by have:=h.uJ r hr;simp only[List.length_map,List.length_range];omega)
 omega
theorem Ys {rs:List Rl} {out:ax} (h:Rev.uk rs)(hl:rs.length≤64)(ho:out.length≤20):(aO8 rs out).length≤13805568:=by
 unfold aO8;rw[List.length_flatMap];(have:=BG (fun p:Rev.cV=>((Ox rs).map fun m=>(p,m)).length) 321 (Rev.DY out.length) fun p _=>by rw[List.length_map];exact Yr h hl)
 rw[G0]at this;exact Nat.le_trans this v6
theorem LP {rs:List Rl} {out x m:ax} {p:Sp} {c:Int} (h:Rev.uk rs)(ht:Rev.oB rs out x p m c):0≤p.2.1∧p.2.1<8:=by
 induction ht with|start=>exact⟨by decide,by decide⟩| @Bc x p q r c ht hr ha ih=>rw[(Rev.eF (Rev.qK h ht) (h.mode r hr) ha).2.2];exact h.mode r hr|Ya _ ih=>exact ih
theorem QD {rs:List Rl} {out x m:ax} {p:Sp} {c:Int} (ht:Rev.oB rs out x p m c):m∈Ox rs:=by
 induction ht with|start=>exact y8| @Bc x p q r c ht hr ha ih=>exact y7 _ (List.mem_flatMap.2 ⟨r,hr,List.mem_map.2 ⟨0,by simp,rfl⟩⟩)| @Ya x p a m c ht ih=>unfold Ox at ih;rcases wl ih with e|ih;(·cases e);·obtain⟨r,hr,hm⟩:=List.mem_flatMap.1 ih;obtain⟨j,hj,he⟩:=List.mem_map.1 hm;have hl:=congrArg List.length he;rw[List.length_drop,x6]at hl;refine y7 _ (List.mem_flatMap.2 ⟨r,hr,List.mem_map.2 ⟨j+1,List.mem_range.2 v6,?_⟩⟩);have:=congrArg (List.drop 1) he;rw[List.drop_drop]at this;simpa[Nat.add_comm]using this
theorem LQ {rs:List Rl} {out x m:ax} {p:Sp} {c:Int} (h:Rev.uk rs)(ht:Rev.oB rs out x p m c):m.length≤4:=by
 have:=QD ht;unfold Ox at this;rcases wl this with e|this;(·rw[e];exact x9);·obtain⟨r,hr,hm⟩:=List.mem_flatMap.1 this;obtain⟨j,hj,he⟩:=List.mem_map.1 hm;have:=h.uJ r hr;rw[←he,List.length_drop];omega
theorem aO9 {rs:List Rl} {out x m:ax} {p:Sp} {c:Int} (h:Rev.uk rs)(ht:Rev.oB rs out x p m c):(p,m)∈aO8 rs out:=by
 have ho:=Rev.qK h ht;exact List.mem_flatMap.2 ⟨p,Rev.GW ⟨ho.at0,ho.at1⟩ (LP h ht) ho.seen,List.mem_map.2 ⟨m,QD ht,rfl⟩⟩
theorem BH {rs:List Rl} {out x m:ax} {p:Sp} {c:Int} (h:Rev.uk rs)(hl:out.length≤20)(ht:Rev.oB rs out x p m c):0≤c∧c≤5375000:=by have:=Rev.SZ h ht;exact⟨Rev.Lo h ht,v6⟩
abbrev VT(E:Th):Rev.Thread→Option Int:=fun t=>aN (fO bB) E t
theorem IQ(E:Th)(t:Rev.Thread)(c:Int): ∃c',c'≤c∧VT (gz E t c) t=some c':=by
 unfold gz;split;(·exact⟨c,Int.le_refl _,kX Ow _ _ _⟩);·rename_i h;unfold pF at h;unfold VT;cases hm:aN (fO bB) E t with|none=>rw[hm]at h;simp at h|some d=>rw[hm]at h;simp at h;exact⟨d,h,rfl⟩
theorem mA(E:Th)(t:Rev.Thread)(c:Int) {u:Rev.Thread} {d:Int} (h:VT E u=some d): ∃c',c'≤d∧VT (gz E t c) u=some c':=by
 unfold gz;split;(·rename_i hn;by_cases e:u=t;(·subst e;unfold pF at hn;unfold VT at h;rw[h]at hn;simp at hn;exact⟨c,v6,kX Ow _ _ _⟩);·exact⟨d,Int.le_refl _,by unfold VT;rw[lC Ow _ e];exact h⟩)
 ·exact⟨d,Int.le_refl _,h⟩
theorem tS(E:Th)(t:Rev.Thread)(c:Int) {u:Rev.Thread} {d:Int} (h:VT (gz E t c) u=some d):VT E u=some d∨(pF E t c=true∧u=t∧d=c):=by
 unfold gz at h;split at h;(·rename_i hn;by_cases e:u=t;(·subst e;unfold VT at h;rw[kX Ow]at h;injection h with h;exact .inr ⟨hn,rfl,h.symm⟩);·unfold VT at h;rw[lC Ow _ e]at h;exact .inl h)
 ·exact .inl h
theorem G1 {E:Th} (t:Rev.Thread)(c:Int)(h:(E.map (·.1)).Nodup):((gz E t c).map (·.1)).Nodup:=by unfold gz;split;(·exact qO Ow h);·exact h
structure OJ(rs:List Rl)(out x:ax)(B:Rev.cV→ax→Int→Prop)(E:Th)(Q:List Rev.Thread)(p:Rev.cV)(c:Int)(k:Nat):Prop where
 op:Rev.Qu rs out x B (VT E) ((p,[])::Q)
 once:(E.map (·.1)).Nodup
 qs: ∀t,t∈Q→t.2=[]∧ ∃c,VT E t=some c
 cur:VT E (p,[])=some c
 done: ∀r q,r∈rs.take k→Rev.bD out p r=some q→ ∃c',c'≤c+r.2.2.2.2∧VT E (q,r.2.2.1)=some c'
structure OI(rs:List Rl)(out x:ax)(B:Rev.cV→ax→Int→Prop)(E:Th)(Q:List Rev.Thread):Prop where
 op:Rev.Qu rs out x B (VT E) Q
 once:(E.map (·.1)).Nodup
 qs: ∀t,t∈Q→t.2=[]∧ ∃c,VT E t=some c
variable {rs:List Rl} {out x:ax} {B:Rev.cV→ax→Int→Prop}
theorem OI.begin {E:Th} {t:Rev.Thread} {Q:List Rev.Thread} (h:OI rs out x B E (t::Q)): ∃c,t.2=[]∧OJ rs out x B E Q t.1 c 0:=by
 obtain⟨h1,c,h2⟩:=h.qs t y8;obtain⟨p,m⟩:=t;dsimp only at h1;subst h1;exact⟨c,rfl,h.op,h.once,fun u hu=>h.qs u (y7 _ hu),h2,fun r q hr=>by simp at hr⟩
theorem OJ.skip {E:Th} {Q:List Rev.Thread} {p:Rev.cV} {c:Int} {k:Nat} {r:Rl} (h:OJ rs out x B E Q p c k)(hr:rs[k]?=some r)(ha:Rev.bD out p r=none):OJ rs out x B E Q p c (k+1):=⟨h.op,h.once,h.qs,h.cur,fun r' q kF hq=>by rw[dD hr]at kF;rcases ws kF with kF|kF;(·exact h.done r' q kF hq);·rw[wd kF,ha]at hq;cases hq⟩
theorem OJ.next {E:Th} {Q:List Rev.Thread} {p q:Rev.cV} {c:Int} {k:Nat} {r:Rl} (hR:Rev.uk rs)(h:OJ rs out x B E Q p c k)(hr:rs[k]?=some r)(ha:Rev.bD out p r=some q)(Q':List Rev.Thread)(hQ1:pF E (q,r.2.2.1) (c+r.2.2.2.2)=true→r.2.2.1=[]→Q'=Q++ [(q,r.2.2.1)])(EJ: ¬(pF E (q,r.2.2.1) (c+r.2.2.2.2)=true∧r.2.2.1=[])→Q'=Q):OJ rs out x B (gz E (q,r.2.2.1) (c+r.2.2.2.2)) Q' p c (k+1):=by
 have wa:=x7 hr;have D3:=h.op.sound p [] c h.cur;have bW6:=Rev.qK hR D3;have cu:=(Rev.eF bW6 (hR.mode r wa) ha).2.1;(have bS:q≠p:=fun e=>by rw[e]at cu;omega)
 (have uY: ∀t,t∈Q→t∈Q':=fun t ht=>by by_cases hh:pF E (q,r.2.2.1) (c+r.2.2.2.2)=true∧r.2.2.1=[];(·rw[hQ1 hh.1 hh.2];exact w9 _ ht);·rw[EJ hh];exact ht)
 (have hqs: ∀t,t∈Q'→t.2=[]∧ ∃c1,VT (gz E (q,r.2.2.1) (c+r.2.2.2.2)) t=some c1:=fun t ht=>by(have hk:(t∈Q)∨(r.2.2.1=[]∧t=(q,r.2.2.1)):=by by_cases hh:pF E (q,r.2.2.1) (c+r.2.2.2.2)=true∧r.2.2.1=[];(·rw[hQ1 hh.1 hh.2]at ht;rcases ws ht with ht|ht;(·exact .inl ht);·exact .inr ⟨hh.2,wd ht⟩);·rw[EJ hh]at ht;exact .inl ht);rcases hk with hk|⟨h1,rfl⟩;(·obtain⟨h1,c1,h2⟩:=h.qs t hk;obtain⟨c2,_,h4⟩:=mA E (q,r.2.2.1) (c+r.2.2.2.2) h2;exact⟨h1,c2,h4⟩);·obtain⟨c',_,h2⟩:=IQ E (q,r.2.2.1) (c+r.2.2.2.2);exact⟨h1,c',h2⟩)
 (have oM:VT (gz E (q,r.2.2.1) (c+r.2.2.2.2)) (p,[])=some c:=by have hc:=h.cur;unfold gz;split;(·unfold VT at hc⊢;rw[lC Ow _ (fun e=>bS (by injection e with e _;exact e.symm))];exact hc);·exact hc)
 refine⟨⟨fun p' m' c' jN=>?_,fun p' m' c' hb=>?_,fun p' c' jN=>?_,fun t ht=>?_⟩,G1 _ _ h.once,hqs,oM,fun r' q' kF Z3=>?_⟩;(·rcases tS _ _ _ jN with h1|⟨_,h1,h2⟩;(·exact h.op.sound p' m' c' h1);·injection h1 with h1 h3;subst h1;subst h3;subst h2;exact .Bc D3 wa ha)
 (·obtain⟨c1,h1,h2⟩:=h.op.base p' m' c' hb;obtain⟨c2,h3,h4⟩:=mA E (q,r.2.2.1) (c+r.2.2.2.2) h2;exact⟨c2,v6,h4⟩);(·rcases tS _ _ _ jN with h1|⟨h0,h1,h2⟩;(·rcases h.op.step p' c' h1 with h1|h1;(·rcases wl h1 with h1|h1;(·exact .inl (by rw[h1];exact y8));·exact .inl (y7 _ (uY _ h1)));·refine .inr fun r2 q2 pQ Fq=>?_;obtain⟨c1,h3,h4⟩:=h1 r2 q2 pQ Fq;obtain⟨c2,h5,h6⟩:=mA E (q,r.2.2.1) (c+r.2.2.2.2) h4;exact⟨c2,v6,h6⟩);·injection h1 with h1 h3;refine .inl (y7 _ ?_);rw[hQ1 h0 h3.symm,h1,h3];exact w5 _ y8)
 (·rcases wl ht with rfl|ht;(·exact⟨rfl,c,oM⟩);·exact hqs t ht);·rw[dD hr]at kF;rcases ws kF with kF|kF;(·obtain⟨c1,h3,h4⟩:=h.done r' q' kF Z3;obtain⟨c2,h5,h6⟩:=mA E (q,r.2.2.1) (c+r.2.2.2.2) h4;exact⟨c2,v6,h6⟩);·have kF:=wd kF;subst kF;rw[ha]at Z3;injection Z3 with Z3;subst Z3;exact IQ E _ _
theorem OJ.end_ {E:Th} {Q:List Rev.Thread} {p:Rev.cV} {c:Int} {k:Nat} (h:OJ rs out x B E Q p c k)(hk:rs.length≤k):OI rs out x B E Q:=by
 refine⟨⟨h.op.sound,h.op.base,fun p' c' jN=>?_,h.qs⟩,h.once,h.qs⟩;by_cases e:p'=p;(·subst e;have:=h.cur;rw[jN]at this;injection this with this;subst this;refine .inr fun r q hr hq=>h.done r q ?_ hq;rw[wt hk];exact hr)
 ·rcases h.op.step p' c' jN with h1|h1;(·rcases wl h1 with h1|h1;(·injection h1 with h1 _;exact absurd h1 e);·exact .inl h1);·exact .inr h1
def S6(out:ax):List Rev.Thread:=(Rev.DY out.length).map fun p=>(p,[])
def D4(out:ax)(E:Th):Nat:=Rev.EH (S6 out) 5375001 (VT E)
theorem aP0 {E:Th} (hR:Rev.uk rs)(ho:out.length≤20)(hs: ∀p m c,VT E (p,m)=some c→Rev.oB rs out x p m c):D4 out E≤231168043008:=by
 unfold D4 Rev.EH;(have:=BG (fun t:Rev.Thread=>match VT E t with|some c=>c.toNat|none=>5375001) 5375001 (S6 out) fun t _=>by split;(·rename_i c hc;have:=BH hR ho (hs t.1 t.2 c hc);omega);·exact x8)
 (have hl:(S6 out).length≤43008:=by unfold S6;rw[List.length_map,G0];omega);exact Nat.le_trans this (Nat.le_trans (Nat.mul_le_mul_right _ hl) (by decide))
theorem Yt {E:Th} {t:Rev.Thread} {c:Int} (hE: ∀u d,VT E u=some d→0≤d)(hc:0≤c∧c≤5375000):D4 out (gz E t c)≤D4 out E∧(pF E t c=true→t∈S6 out→D4 out (gz E t c)<D4 out E):=by
 (have hle: ∀u,(match VT (gz E t c) u with|some c=>c.toNat|none=>5375001)≤(match VT E u with|some c=>c.toNat|none=>5375001):=fun u=>by cases h0:VT E u with|some d=>obtain⟨c',h1,h2⟩:=mA E t c h0;rw[h2];exact Int.toNat_le_toNat h1|none=>cases h1:VT (gz E t c) u with|none=>exact x8|some d=>rcases tS E t c h1 with h2|⟨_,_,h2⟩;(·rw[h0]at h2;cases h2);·rw[h2];show c.toNat≤5375001;omega)
 refine⟨Rev.II fun u _=>hle u,fun hn ht=>Rev.bv8 ht (fun u _=>hle u) ?_⟩;(have h1:VT (gz E t c) t=some c:=by unfold gz VT;rw[if_pos hn,kX Ow]);rw[h1];unfold pF at hn
 cases h0:VT E t with|none=>show c.toNat<5375001;omega|some d=>unfold VT at h0;rw[h0]at hn;have h3:(0:Int)≤d:=hE t d h0;simp at hn;have hn:c<d:=hn;generalize(d:Int)=d at*;show c.toNat<d.toNat;omega
def G5(rs:List Rl)(out x:ax)(E:Th):Prop:=Rev.qL rs out x E∧(E.map (·.1)).Nodup
theorem OI.done {E:Th} (hR:Rev.uk rs)(hB:Rev.Comes rs out x B)(h:OI rs out x B E []):G5 rs out x E:=⟨Rev.SO hR hB h.op fun t c=>gE Ow h.once,h.once⟩
theorem IS {E:Th} (hR:Rev.uk rs)(hl:rs.length≤64)(ho:out.length≤20)(hn:(E.map (·.1)).Nodup)(hs: ∀p m c,VT E (p,m)=some c→Rev.oB rs out x p m c):E.length≤13805568:=by
 (have h1:=GZ (E.map (·.1)) (aO8 rs out) hn fun k hk=>by obtain⟨v,hv⟩:=kY Ow hk;exact aO9 hR (hs k.1 k.2 v hv));rw[List.length_map]at h1;exact Nat.le_trans h1 (Ys hR hl ho)
theorem Yu(s:bR)(hs:gw s)(out:ax)(ho:out.length≤20)(es:Gs)(x:ax)(B:Rev.cV→ax→Int→Prop)(hB:Rev.Comes s.2.2 out x B)(E0:Th)(hn:(E0.map (·.1)).Nodup)(hsd: ∀p m c,VT E0 (p,m)=some c→Rev.oB s.2.2 out x p m c)(hb: ∀p m c,B p m c→ ∃c',c'≤c∧VT E0 (p,m)=some c'):HN env 33 [.ref 1000000000 0,.lmap 1000000001] [(1000000000,.box [.iv (.int .i64) s.1,.iv (.int .u8) s.2.1,.iv (.sl ba) s.2.2,.iv .str out,.lmap 1000000002]),(1000000001,.mp bB (.int .i64) E0),(1000000002,.mp fR ju es)] (.mp bB (.int .i64)) (G5 s.2.2 out x) (fun _=>.bG []) (fun E=>[(1000000000,.box [.iv (.int .i64) s.1,.iv (.int .u8) s.2.1,.iv (.sl ba) s.2.2,.iv .str out,.lmap 1000000002]),(1000000001,.mp bB (.int .i64) E),(1000000002,.mp fR ju es)]):=by
 obtain⟨n,a,rs⟩:=s;have hR:=ij hs;have hl:rs.length≤64:=hs.len;dsimp only at hB hsd hR⊢;have hE0:=IS hR hl ho hn hsd;have jR:bytesOf ⟨#[]⟩=([]:ax):=rfl;refine HN.aC (m:=2000) ae Qe rfl rfl rfl rfl (by kernel_rfl) ?_
 intro hx gD;simp only[Tryz.f33];simp only[go_sem];refine ah.bz (X:=List Nat×List Rev.Thread) (fun(z:List Nat×List Rev.Thread)=>[(4,.aB 24)]) (fun(z:List Nat×List Rev.Thread)=>[(13,.it [.lmap 1000000001] E0.length z.1),(24,.arr bB z.2)]) (fun(z:List Nat×List Rev.Thread)=>(∀i,i∈z.1→ ∀e,E0[i]?=some e→e.1.2=[]→e.1∈z.2)∧(∀t,t∈z.2→t.2=[]∧ ∃c,VT E0 t=some c)∧z.2.length+oA E0.length z.1≤E0.length) (fun(z:List Nat×List Rev.Thread)=>oA E0.length z.1) ([],[]) ?_
 intro b1 b2 aS bd;simp only[go_sem]at aS bd;subst aS;subst bd;refine⟨v8,?_,?_⟩
 (·refine⟨fun i hi=>absurd hi wn,fun t ht=>absurd ht wn,?_⟩;have:oA E0.length []≤E0.length:=Nat.le_trans (List.length_filter_le _ _) (by rw[List.length_range];exact x8);simpa using this)
 intro⟨seen,Q⟩⟨Z5,Fq,hq3⟩back;dsimp only at Z5 Fq hq3;refine av ae ⟨_,Qe,rfl⟩ 2000 _ _ (by kernel_rfl) ?_;simp only[go_sem]
 refine⟨fun i hi e he=>⟨e,⟨i,by simp,he⟩,fun hm=>⟨?_,?_⟩,fun hm=>?_⟩,fun gx=>?_⟩;(·omega);(·rw[jR]at hm;refine back _ (seen++ [i],Q++ [e.1]) v8 ⟨fun j hj f hf hfm=>?_,fun t ht=>?_,?_⟩ (cG hi.1 hi.2);(·rcases ws hj with hj|hj;(·exact w9 _ (Z5 j hj f hf hfm));·rw[wd hj,he]at hf;injection hf with hf;rw[←hf];exact w5 _ y8);(·rcases ws ht with ht|ht;(·exact Fq t ht);·rw[wd ht];exact⟨hm,e.2,(gE Ow hn).1 (x7 he)⟩);·have:=cG hi.1 hi.2;dsimp only;rw[y9];simp only[x6,List.length_nil];omega)
 (·rw[jR]at hm;refine back _ (seen++ [i],Q) v8 ⟨fun j hj f hf hfm=>?_,Fq,?_⟩ (cG hi.1 hi.2);(·rcases ws hj with hj|hj;(·exact Z5 j hj f hf hfm);·rw[wd hj,he]at hf;injection hf with hf;rw[←hf]at hfm;exact absurd hfm hm);·have:=cG hi.1 hi.2;dsimp only;omega)
 (have hI0:OI rs out x B E0 Q:=by refine⟨⟨hsd,hb,fun p c hc=>.inl ?_,Fq⟩,hn,Fq⟩;obtain⟨i,hi⟩:=List.getElem?_of_mem ((gE Ow hn).2 hc);exact Z5 i (gx i (z6 hi).1) _ hi rfl)
 have hp0:=aP0 (x:=x) hR ho hsd;have hQl:Q.length≤E0.length:=v6;clear back Z5 Fq hq3 gx;refine ah.bz (X:=Th×List Rev.Thread×Nat×Nat) (fun(z:Th×List Rev.Thread×Nat×Nat)=>[(4,.ll 24 4 z.2.2.1 z.2.2.2)]) (fun(z:Th×List Rev.Thread×Nat×Nat)=>[(24,.arr bB z.2.1),(1000000001,.mp bB (.int .i64) z.1)]) (fun(z:Th×List Rev.Thread×Nat×Nat)=>OI rs out x B z.1 (z.2.1.drop z.2.2.1)∧z.2.2.1+z.2.2.2=z.2.1.length∧z.2.2.2+D4 out z.1≤231181848576) (fun(z:Th×List Rev.Thread×Nat×Nat)=>2*D4 out z.1+z.2.2.2) (E0,Q,0,Q.length) ?_
 intro b1 b2 aS bd;simp only[go_sem]at aS bd;subst aS;subst bd;refine⟨v8,?_,?_⟩
 (·exact⟨hI0,by simp,v7⟩);intro⟨E,xs,off,len⟩⟨hI,hlen,pP⟩back;dsimp only at hI hlen pP;refine av ae ⟨_,Qe,rfl⟩ 2000 _ _ (by kernel_rfl) ?_;simp only[go_sem]
 (have Hy: ∀(l:Nat),len=l+1→ ∃at_ md sn c,xs[off]?=some ((at_,md,sn),[])∧OJ rs out x B E (xs.drop (off+1)) (at_,md,sn) c 0:=fun l h=>by obtain⟨t,ht⟩: ∃t,xs[off]?=some t:=au v6;rw[drop_cons ht]at hI;obtain⟨c,h1,h2⟩:=hI.begin;obtain⟨⟨at_,md,sn⟩,m⟩:=t;dsimp only at h1;subst h1;exact⟨at_,md,sn,c,ht,h2⟩)
 refine⟨v6,fun g=>?_,fun g=>?_⟩;(·obtain⟨at_,md,sn,c,ht,hJ⟩:=Hy (len-1) v6;refine⟨g,_,ht,v6,?_⟩;dsimp only;clear Hy hI;refine ah.bz (X:=Nat×Th×List Rev.Thread×Nat×Nat) (fun(y:Nat×Th×List Rev.Thread×Nat×Nat)=>[(39,.iv (.int .i64) (y.1:Int)),(4,.ll 24 4 y.2.2.2.1 y.2.2.2.2),(25,.any),(28,.any),(29,.any),(31,.any),(32,.any)]) (fun(y:Nat×Th×List Rev.Thread×Nat×Nat)=>[(24,.arr bB y.2.2.1),(1000000001,.mp bB (.int .i64) y.2.1)]) (fun(y:Nat×Th×List Rev.Thread×Nat×Nat)=>y.1≤rs.length∧OJ rs out x B y.2.1 (y.2.2.1.drop y.2.2.2.1) (at_,md,sn) c y.1∧y.2.2.2.1+y.2.2.2.2=y.2.2.1.length∧y.2.2.2.2+D4 out y.2.1≤231181848576∧2*D4 out y.2.1+y.2.2.2.2<2*D4 out E+len) (fun(y:Nat×Th×List Rev.Thread×Nat×Nat)=>rs.length-y.1) (0,E,xs,off+1,len-1) ?_;intro b1 b2 aS bd;simp only[go_sem]at aS bd;subst aS;subst bd;refine⟨v8,?_,?_⟩;(·exact⟨x9,hJ,v7,v7,v7⟩);clear hJ pP hlen ht;intro⟨k,F,ys,o1,l1⟩⟨hk,hJ,hlen,pP,TL⟩bu;dsimp only at hk hJ hlen pP TL;refine av ae ⟨_,Qe,rfl⟩ 2000 _ _ (by kernel_rfl) ?_;simp only[go_sem];have D3:=hJ.op.sound (at_,md,sn) [] c hJ.cur;have hp:=Rev.qK hR D3;have hct:=BH hR ho D3;have hF:=IS hR hl ho hJ.once hJ.op.sound;refine⟨fun g=>?_,fun g=>?_⟩;(·obtain⟨r,hr⟩: ∃r,rs[k]?=some r:=au v6;have wa:=x7 hr;have oa:=hR.mode r wa;have bN1:=hR.cost r wa;refine⟨x5,r,hr,_,QB (n,a,rs) out ho es (at_,md,sn) r hp oa,fun _=>?_⟩;cases hA:(ka out (at_,md,sn) r).2;(·have Kx:=D1 hp oa hA;simp only[go_sem];exact⟨ak v6 v6,bu _ (k+1,F,ys,o1,l1) v8 ⟨v6,hJ.skip hr Kx,hlen,pP,TL⟩ v7⟩);·have uw:Rev.bD out (at_,md,sn) r=some (ka out (at_,md,sn) r).1:=(vJ hp oa).1 (Prod.ext rfl hA);obtain⟨q1,q2,q3⟩:=Rev.eF hp oa uw;generalize(ka out (at_,md,sn) r).1=q at*;simp only[go_sem];have oM:aN (V:=(Ty.int .i64).den) (fO bB) F ((at_,md,sn),[])=some c:=hJ.cur;simp only[oM,Option.getD_some];have oU:=Yl F v6 (q,r.2.2.1) (c+r.2.2.2.2);refine⟨⟨v6,v6⟩,_,_,oU,rfl,fun _ _=>?_⟩;have yk:=Yt (out:=out) (E:=F) (t:=(q,r.2.2.1)) (c:=c+r.2.2.2.2) (fun u d hd=>Rev.Lo hR (hJ.op.sound u.1 u.2 d hd)) (by have:=BH hR ho (D3.Bc wa uw);omega);(have hmp: ∀m:ax,m=[]→r.2.2.1=m→(q,r.2.2.1)∈S6 out:=fun m hm kF=>by rw[kF,hm];exact List.mem_map.2 ⟨q,Rev.GW ⟨q1.at0,q1.at1⟩ (by rw[q3];exact oa) q1.seen,rfl⟩);have hJn:=hJ.next hR hr uw;cases hb:pF F (q,r.2.2.1) (c+r.2.2.2.2);(·simp only[go_sem];refine⟨ak v6 v6,bu _ (k+1,gz F (q,r.2.2.1) (c+r.2.2.2.2),ys,o1,l1) v8 ⟨v6,hJn _ (fun h=>by rw[hb]at h;cases h) (fun _=>rfl),hlen,?_,?_⟩ v7⟩;(·have:=yk.1;dsimp only;omega);·have:=yk.1;dsimp only;omega);·simp only[go_sem];have htk:(ys.drop o1).take l1=ys.drop o1:=wt (by rw[List.length_drop];omega);refine⟨fun hm=>⟨⟨?_,v6⟩,ak v6 v6,bu _ (k+1,gz F (q,r.2.2.1) (c+r.2.2.2.2),(ys.drop o1).take l1++ [(q,r.2.2.1)],0,((ys.drop o1).take l1++ [(q,r.2.2.1)]).length) v8 ⟨v6,hJn _ (fun _ _=>?_) (fun h=>absurd ⟨hb,hm⟩ h),by simp,?_,?_⟩ v7⟩,fun hm=>⟨ak v6 v6,bu _ (k+1,gz F (q,r.2.2.1) (c+r.2.2.2.2),ys,o1,l1) v8 ⟨v6,hJn _ (fun _ h=>absurd h hm) (fun _=>rfl),hlen,?_,?_⟩ v7⟩⟩;(·by_cases h:o1<ys.length;(·exact .inl h);·exact .inr ⟨v6,v6,by simp⟩);(·dsimp only;rw[htk,List.drop_zero]);(·have:=yk.2 hb (hmp _ rfl (by rw[hm,jR]));dsimp only;rw[htk,y9,List.length_drop];simp only[x6,List.length_nil];omega);(·have:=yk.2 hb (hmp _ rfl (by rw[hm,jR]));dsimp only;rw[htk,y9,List.length_drop];simp only[x6,List.length_nil];omega);(·have:=yk.1;dsimp only;omega);·have:=yk.1;dsimp only;omega);·exact back _ (F,ys,o1,l1) v8 ⟨hJ.end_ v6,hlen,pP⟩ TL)
 ·have h0:off=xs.length:=v6;rw[h0,List.drop_length]at hI;exact⟨E,hI.done hR hB,rfl⟩
end
end Go.Proofs.YtimognngcagphaaGreat
