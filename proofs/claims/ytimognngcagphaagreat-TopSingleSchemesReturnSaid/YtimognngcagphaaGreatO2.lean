/- Reverse's ways are routes that Cost finds. Nothing here is trusted; no condition. -/
import Derived.Test.YtimognngcagphaaGreatO1
set_option linter.all false
set_option maxHeartbeats 8000000
set_option maxRecDepth 100000
namespace Go.Proofs.YtimognngcagphaaGreat
section
attribute[local go_sem]gH bH ne_eq not_false_eq_true St.fin El zL St.eN bn yd I1 sR beq_self_eq_true
end
section
attribute[local go_sem←]u3 u4 u5
attribute[local go_sem]gH bH ne_eq not_false_eq_true
theorem YR(s:bR)(e:Int)(hS:PC env 16 [⟨ai,s⟩] (.int .i64) e):PC env 39 [⟨ai,s⟩] .bool (decide (e=0)):=by
 obtain⟨n,a,rs⟩:=s;refine PC.aC (m:=2000) ae bJ0 rfl rfl rfl rfl (by kernel_rfl) ?_;intro hx;simp only[Tryz.f39];simp only[go_sem]
 exact⟨_,hS,fun _=>rfl⟩
theorem I4(s:bR)(m:Int)(h0:0≤m∧m<8):PC env 44 [⟨ai,s⟩,⟨.int .i64,m⟩] .bool (gU s.2.1 m):=by
 obtain⟨n,a,rs⟩:=s;refine PC.aC (m:=2000) ae bJ4 rfl rfl rfl rfl (by kernel_rfl) ?_;intro hx;simp only[Tryz.f44];simp only[go_sem]
 have ha:0≤a:=hx.1.2.1.1;refine⟨⟨ha,h0⟩,oz ha _,?_⟩;have:=xD (oz ha m.toNat);simp only[Int.reduceToNat]at this;rw[this];rfl
end
section
theorem YS {out:ax} {p q:Rev.cV} {r:Rl} (h:Rev.bD out p r=some q):r.1=p.2.1∧r.2.2.2.1.isPrefixOf (out.drop p.1.toNat)=true∧q.1=p.1+(r.2.2.2.1.length:Int)∧q.2.1=r.2.1:=by
 unfold Rev.bD at h;split at h;(case isFalse=>cases h);rename_i h1;split at h;(·injection h with h;subst h;exact⟨h1.1,h1.2,rfl,rfl⟩);·rename_i h2;have h2:r.2.2.2.1=[]:=Decidable.not_not.1 h2;split at h;(·injection h with h;subst h;exact⟨h1.1,h1.2,by rw[h2];simp,rfl⟩);·cases h
theorem aQ6 {rs:List Rl} {acc:Int} {out x:ax} {p:Rev.cV} {c:Int} (hp:Rev.Path rs acc out p x c): ∀(pre:ax)(c0:Int),Op.Rt (wkS rs out) (pre++x) (0,0) pre.length (p.2.1,p.1) c0→ ∃k,Op.Rt (wkS rs out) (pre++x) (0,0) (pre++x).length k (c0+c)∧k.2=(out.length:Int)∧Rev.gL acc k.1=true:=by
 induction hp with| @done p h=>intro pre c0 hR;unfold Rev.jy at h;rw[z8,decide_eq_true_eq]at h;rw[List.append_nil]at hR⊢;exact⟨(p.2.1,p.1),by rw[Int.add_zero];exact hR,h.1,h.2⟩| @step p q r x c hr h hp ih=>intro pre c0 hR;obtain⟨h1,h2,h3,h4⟩:=YS h;(have cw:(wkS rs out).step (p.2.1,p.1) r=((q.2.1,q.1),true):=by show Ei out (p.2.1,p.1) r=_;unfold Ei;rw[h2,h3,h4]);(have bO2:Op.Rt (wkS rs out) (pre++(r.2.2.1++x)) (0,0) (pre++r.2.2.1).length (q.2.1,q.1) (c0+r.2.2.2.2):=by cases hs:bP r;(·rw[y9];exact .take hR hr hs h1 (by rw[List.drop_left,List.isPrefixOf_iff_prefix];exact List.prefix_append _ _) cw);·(have e:r.2.2.1=[]:=by unfold bP at hs;simpa using hs);rw[e,List.append_nil,List.nil_append];rw[e,List.nil_append]at hR;exact .TP hR hr hs h1 cw);have:=ih (pre++r.2.2.1) (c0+r.2.2.2.2) (by rw[List.append_assoc];exact bO2);rw[List.append_assoc]at this;obtain⟨k,g1,g2,g3⟩:=this;exact⟨k,by rw[←Int.add_assoc];exact g1,g2,g3⟩
end
end Go.Proofs.YtimognngcagphaaGreat
