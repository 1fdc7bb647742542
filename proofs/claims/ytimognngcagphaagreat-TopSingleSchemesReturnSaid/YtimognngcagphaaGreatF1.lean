/- The law TopSingleSchemesReturn holds for every input. No condition. -/
import Derived.Test.YtimognngcagphaaGreatK2
import Derived.Test.YtimognngcagphaaGreatRows
set_option linter.all false
set_option maxHeartbeats 8000000
set_option maxRecDepth 100000
namespace Go.Proofs.YtimognngcagphaaGreat.TS1
attribute[local go_sem←]u3 u4 u5
attribute[local go_sem]gH bH ne_eq not_false_eq_true
noncomputable def eJ:Env:= { env with nd:=λf=>bif Nat.beq f 12 then false else env.nd f }
theorem ik:eJ.P=env.P:=rfl
theorem fh {t:Nat} :eJ.ty t=env.ty t:=rfl
theorem dO {t:Nat} :eJ.str t=env.str t:=rfl
theorem dP {t:Nat} :eJ.cmp t=env.cmp t:=rfl
theorem fi {f:Nat} :eJ.fn f=env.fn f:=rfl
theorem dQ {f:Nat} :eJ.cW f=env.cW f:=rfl
theorem bZ {t:Nat} :eJ.mapKey t=env.mapKey t:=rfl
theorem fj:eJ.tm=env.tm:=rfl
theorem cQ {t:Nat} :eJ.BW t=env.BW t:=rfl
theorem dR {t:Nat} :eJ.ED t=env.ED t:=rfl
theorem fk {f:Nat} :eJ.nd f=bif Nat.beq f 12 then false else env.nd f:=rfl
theorem dS {t:Nat} :eJ.Hn t=env.Hn t:=rfl
theorem fm {f:Nat} :eJ.px f=env.px f:=rfl
theorem fo {f i:Nat} :eJ.fl f i=env.fl f i:=rfl
theorem dT {t:Nat} :eJ.emp t=env.emp t:=rfl
theorem dU {f i:Nat} :eJ.uo f i=env.uo f i:=rfl
theorem cR {t:Nat} {m:String} :eJ.nA t m=env.nA t m:=rfl
theorem fp {d t:Nat} :eJ.ro d t=env.ro d t:=rfl
theorem yj:aI eJ:=by have h:=ae;exact⟨h.ty,h.fn,h.res,h.cW,h.cmp,h.mapKey,h.mixed,h.ED,h.Hn,h.emp,h.nA⟩
theorem ZE {f:Nat} {xs:List (Sigma Ty.den)} {T:Ty} {r:T.den} (h:PC env f xs T r):PC eJ f xs T r:=h
theorem O0(x:xE)(l:List Int):PC env 3 [⟨oy,x⟩,⟨.sl (.int .u8),l⟩] .bool true:=by
 obtain⟨dy,hnl,h9⟩:=sL x;(have hv:(dE (cN x)).2=0:=by rw[Lm dy]);have hS:=L8 x▸QO (cN x) (λm _ _=>IZ (vO x) m);(have hrk: ∀m,AP m<=8:=λm=>by unfold AP;split<;>omega)
 have Ji: ∀r,r∈(cN x).2.2->(λ_:Int=>True) r.1->bP r=true->AP r.1<AP r.2.1:=λr hr _=>vO x r hr;have hI:=aY4 (cN x) dy hS (A:=λ_=>True) trivial (λ_ _ _=>trivial) Ji hrk
 have bY5:=λy h1 h2=>I9 (cN x) dy hS y h1 h2 5 ⟨by decide,by decide⟩ (A:=λ_=>True) trivial (λ_ _ _=>trivial) Ji hrk;have hR4:=Zx (cN x);have hB6:=YG (cN x) dy hv (iZ l 4) 5
 have hM6:=aP8 x;have kI:=λ(hf:fy (cN x)=none)y c h r hB=> @Jg x hf (iZ l 4) y c h r hB;have bt:=λy c h=> @Rf (cN x) dy (iZ l 4) y c h;(have FR:xY (cN x) (iZ l 4) 5=if sK (cN x) (iZ l 4)=[]then([],50)else((sK (cN x) (iZ l 4)).take 5,0):=by unfold xY;rw[if_neg];(·rfl);·rw[YH l 4 v6];simp)
 rw[FR]at hB6;generalize cN x=s at*;generalize sK s (iZ l 4)=L at*;(replace hI: ∀b:Bool,decide (fy s=none)=b->PC eJ 9 [⟨ai,s⟩] .bool b:=λb h=>by subst h;exact hI)
 show PC eJ _ _ _ _;refine PC.aC (m:=2000) yj aM1 rfl rfl rfl rfl (by kernel_rfl) ?_;intro hx;simp only[Tryz.f3];simp only[go_sem,ik,fh,dO,dP,fi,dQ,bZ,fj,cQ,dR,fk,dS,fm,fo,dT,dU,cR,fp]
 refine⟨_,ZE S8.OZ,_,ZE hM6,λ_=>?_⟩;have e4:Int.toNat 4=4:=rfl;have hTx:=aP9 l 4 v6;rw[e4]at hTx;generalize iZ l 4=out at*;by_cases hf:fy s=none;(·refine⟨_,ZE hR4,λ_=>⟨λh0=>⟨_,hI true (decide_eq_true hf),?_⟩,λh0=>?_⟩⟩;(·simp only[go_sem,ik,fh,dO,dP,fi,dQ,bZ,fj,cQ,dR,fk,dS,fm,fo,dT,dU,cR,fp];refine⟨_,ZE hTx,λ_=>⟨_,ZE hB6,λ_=>?_⟩⟩;by_cases hL:L=[];(·rw[if_pos hL];simp only[go_sem,ik,fh,dO,dP,fi,dQ,bZ,fj,cQ,dR,fk,dS,fm,fo,dT,dU,cR,fp];exact⟨λ_=>trivial,λh=>absurd h (by decide)⟩);·rw[if_neg hL];simp only[go_sem,ik,fh,dO,dP,fi,dQ,bZ,fj,cQ,dR,fk,dS,fm,fo,dT,dU,cR,fp];refine⟨λh=>absurd trivial h,?_⟩;have eg: ∀y,y∈L.take 5->y∈L:=λy h=>List.mem_of_mem_take h;(have rR:0<(L.take 5).length:=by cases L with|nil=>exact absurd rfl hL|cons x M=>simp);(have hPl:(L.take 5).length<=5:=by rw[List.length_take];omega);generalize L.take 5=P at*;refine ah.bz (X:=Nat) (λ(i:Nat)=>[(10,.iv (.int .i64) (i:Int)),(11,.any),(12,.any)]) (λ(i:Nat)=>[]) (λ(i:Nat)=>i<=P.length) (λ(i:Nat)=>P.length-i) 0 ?_;intro b1 b2 aS bd;simp(config:= {maxSteps:=4000000})only[go_sem,ik,fh,dO,dP,fi,dQ,bZ,fj,cQ,dR,fk,dS,fm,fo,dT,dU,cR,fp]at aS bd;subst aS;subst bd;refine⟨v8,?_,?_⟩;(·exact x9);intro i hi back;refine av yj ⟨_,aM1,rfl⟩ 2000 _ _ (by kernel_rfl) ?_;simp only[go_sem,ik,fh,dO,dP,fi,dQ,bZ,fj,cQ,dR,fk,dS,fm,fo,dT,dU,cR,fp];refine⟨λg1=>?_,λg1=>?_⟩;(·obtain⟨y,hy⟩:=au (xs:=P) (i:=i) v6;obtain⟨y1,y2⟩:=y;have hyL:=eg _ (x7 hy);obtain⟨h1,h2,_⟩:=bt y1 y2 hyL;obtain⟨r,hr,hP⟩:=by8 (bY5 y1 (by unfold X8;rw[h1,decide_eq_true h2];rfl) h2) (λ_ _=>Y5) ([(out,y2)],0);(obtain⟨d,hd,rfl⟩: ∃d,d<=y2/\r=([(out,d)],0):=by rcases hr with hr|⟨hr,_⟩;(·exact kI hf y1 y2 hyL r hr);·exact⟨y2,Int.le_refl _,hr⟩);refine⟨x5,(y1,y2),hy,_,ZE hP,λ_=>?_⟩;simp only[go_sem,ik,fh,dO,dP,fi,dQ,bZ,fj,cQ,dR,fk,dS,fm,fo,dT,dU,cR,fp];exact⟨⟨⟨(out,d),rfl,λ_=>⟨(out,d),rfl,x5,(y1,y2),hy,λh=>absurd h (by show¬y2<d;omega),λ_=>⟨ak v6 v6,back _ (i+1) v8 v6 v6⟩⟩,λh=>absurd rfl h⟩,λh=>absurd trivial h⟩,λh=>absurd trivial h⟩);·show 0<(P.length:Int);omega);·rfl)
 ·refine⟨_,ZE hR4,λ_=>⟨λh0=>⟨_,hI false (decide_eq_false hf),?_⟩,λh0=>?_⟩⟩;(·simp only[go_sem,ik,fh,dO,dP,fi,dQ,bZ,fj,cQ,dR,fk,dS,fm,fo,dT,dU,cR,fp]);·rfl
end Go.Proofs.YtimognngcagphaaGreat.TS1
namespace Go.Proofs.YtimognngcagphaaGreat
section
open Go.ChangeShapes Go.WideShapes Go.ChangeAt Go.RowKit
theorem ZF:ownKnob Tryz.prog.godebug=none:=by kernel_rfl
theorem ZG:laidOutB env.P=true:=by kernel_rfl
theorem O1(xs:List (Sigma Ty.den))(h:xs.map (·.1)=[oy,.sl (.int .u8)]):PC env 3 xs .bool true:=by
 match xs,h with|[⟨_,y0⟩,⟨_,y1⟩],h=>injection h with h1 h;injection h with h2 h;dsimp only at h1 h2;subst h1 h2;exact TS1.O0 y0 y1
set_option maxRecDepth 100000 in theorem Fv(os:Go.Os)(started:os.Started)(H:Type)(enc:TypeId×Value->H):ReturnsInHanded {} Tryz.checked os 3 .any (Rows.topSingleSchemesReturnSpec.pre6 enc Tryz.prog Tryz.f3 Rows.topSingleSchemesReturnRow.domain false) (Rows.topSingleSchemesReturnSpec.post enc Tryz.prog Tryz.f3 false true false false):=by
 refine returnsInHanded_of_change (C:=Tryz.checked) ZF started (by kernel_rfl) aM1 (ChangeSpec.witness6 (enc:=enc) (C:=Tryz.checked) false ⟨#[],#[.agg #[.int .u8 0,.int .u8 0,.slice none 0 0],.slice none 0 0],[]⟩ 8 (by kernel_rfl) (by kernel_rfl) (by kernel_rfl) (by kernel_rfl)) ?_
 intro W base args ds gs before oK hW _ _;refine Sx (E:=env) (b0:=base) (Ts:=[oy,.sl (.int .u8)]) (tb:=4) ae ZG (of_decide_eq_true (by kernel_rfl)) rfl rfl rfl (by kernel_rfl) rfl ?_ O1 (λg hg=>by cases hg) oK hW
 intro ds hds;match ds,hds with|[d0,d1],_=>rfl
theorem single_holds:Rows.TopSingleSchemesReturnSaid:=OpenClaim.holds_of_wide 3 Tryz.f3 rfl rfl rfl rfl rfl rfl rfl ⟨rfl,rfl,rfl,rfl,rfl⟩ rfl rfl rfl rfl rfl (by kernel_rfl) aM1 (by kernel_rfl) (of_decide_eq_true (by kernel_rfl)) (by unfold Func.isWrapper;first|(rw[if_pos (by decide+kernel)];kernel_rfl)|(rw[if_neg (by decide+kernel)];exact⟨rfl,rfl⟩)) (λos started H enc _=>Fv os started H enc)
end
end Go.Proofs.YtimognngcagphaaGreat
