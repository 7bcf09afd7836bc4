/- For every slice of triples of int8s the law IsolateKnown returns true and its argument reads as before: Roots of the product gives as many roots as the factors have, and each known root lies in its interval. No condition. -/
import Derived.Test.YtipocabbjinbhaaGreatSqw
import Derived.Test.YtipocabbjinbhaaGreatFcp
import Derived.Test.YtipocabbjinbhaaGreatFca
import Derived.Test.YtipocabbjinbhaaGreatAp0
import Derived.Test.YtipocabbjinbhaaGreatStg
import Derived.Test.YtipocabbjinbhaaGreatRbH
import Derived.Test.YtipocabbjinbhaaGreatQuo
import Derived.Test.YtipocabbjinbhaaGreatIsx
import Derived.Test.YtipocabbjinbhaaGreatLes
import Derived.Test.YtipocabbjinbhaaGreatExq
import Derived.Test.YtipocabbjinbhaaGreatRowL
namespace Go.Proofs.YtipocabbjinbhaaGreat
open Go.RowKit
end Go.Proofs.YtipocabbjinbhaaGreat
namespace Go.Proofs.YtipocabbjinbhaaGreat
open Go.RowKit
structure G6 (g:List Int):Prop where
 len:g.length≤6
 b:∀ j,(g.getD j 0).natAbs≤BB
end Go.Proofs.YtipocabbjinbhaaGreat
namespace Go.Proofs.YtipocabbjinbhaaGreat
open Go.RowKit
end Go.Proofs.YtipocabbjinbhaaGreat
namespace Go.Proofs.YtipocabbjinbhaaGreat
open Go.RowKit
theorem lin2_plen {z q:Int} (hq:0<q):plen [-z,q]=2:=plen_eq _ 1 (by have:=plen_le [-z,q];simpa using this) (by show q≠0;omega)
theorem lin2_at {z q:Int} (hq:0<q):sgp [-z,q] (Pt.of ((z:Rat) / (q:Rat)))=0:=by
 unfold sgp
 rw [sgf_of (lp_pv _)]
 have hq':(0:Rat)<(q:Rat):=by exact_mod_cast hq
 have e:pv [-z,q] ((z:Rat) / (q:Rat))=0:=by
  show ((-z:Int):Rat)+(z:Rat) / (q:Rat)*(((q:Int):Rat)+(z:Rat) / (q:Rat)*0)=0
  rw [Rat.mul_zero,Rat.add_zero,Rat.intCast_neg,Rat.div_def]
  generalize (z:Rat)=u at *
  generalize (q:Rat)=v at *
  grind
 rw [e]
 rfl
theorem lin2_root {z q:Int} (hq:0<q) (x:Pt):sgp [-z,q] x=0↔x=Pt.of ((z:Rat) / (q:Rat)):=by
 constructor
 ·intro h
  have h0:=lin2_at (z:=z) hq
  have hp:=lin2_plen (z:=z) hq
  rcases Pt.tri x (Pt.of ((z:Rat) / (q:Rat))) with c | c | c
  ·have:=rts_le 1 _ hp [x,Pt.of ((z:Rat) / (q:Rat))] (by simp [c]) (by intro y hy;simp at hy;rcases hy with rfl | rfl<;>assumption)
   simp at this
  ·exact c
  ·have:=rts_le 1 _ hp [Pt.of ((z:Rat) / (q:Rat)),x] (by simp [c]) (by intro y hy;simp at hy;rcases hy with rfl | rfl<;>assumption)
   simp at this
 ·rintro rfl;exact lin2_at hq
theorem rz_facts {z:Int} {q:Nat} (hq:0<q) (z8:z.natAbs≤ZB) (q8:q≤ZB):0<(rq z q:Int)∧Nat.gcd (rz z q).natAbs ((rq z q:Int)).natAbs=1∧(rz z q).natAbs≤ZB∧rq z q≤ZB∧((rz z q:Int):Rat) / (((rq z q:Nat):Int):Rat)=(z:Rat) / (q:Rat):=by
 obtain ⟨g,hg⟩:∃ g,g=Nat.gcd z.natAbs q:=⟨_,rfl⟩
 have hg0:0<g:=by rw [hg];exact Nat.gcd_pos_of_pos_right _ hq
 have hd1:(g:Int)∣z:=by rw [hg,← Int.natAbs_dvd_natAbs,Int.natAbs_natCast];exact Nat.gcd_dvd_left _ _
 have hd2:g∣q:=by rw [hg];exact Nat.gcd_dvd_right _ _
 obtain ⟨a,ha⟩:=hd1
 obtain ⟨b,hb⟩:=hd2
 have e1:rz z q=a:=by unfold rz;rw [← hg,ha,Int.mul_tdiv_cancel_left _ (by omega)]
 have e2:rq z q=b:=by unfold rq;rw [← hg,hb,Nat.mul_div_cancel_left _ hg0]
 have hb0:0<b:=Nat.pos_of_ne_zero fun h=>by rw [h,Nat.mul_zero] at hb;omega
 rw [e1,e2]
 refine ⟨by omega,?_,?_,?_,?_⟩
 ·rw [Int.natAbs_natCast]
  have h1:Nat.gcd z.natAbs q=g*Nat.gcd a.natAbs b:=by
   rw [ha,hb,Int.natAbs_mul,Int.natAbs_natCast,Nat.gcd_mul_left]
  rw [← hg] at h1
  exact Nat.eq_of_mul_eq_mul_left hg0 (by rw [← h1,Nat.mul_one])
 ·have:z.natAbs=g*a.natAbs:=by rw [ha,Int.natAbs_mul,Int.natAbs_natCast]
  have h2:a.natAbs≤g*a.natAbs:=Nat.le_mul_of_pos_left _ hg0
  omega
 ·have h2:b≤g*b:=Nat.le_mul_of_pos_left _ hg0
  omega
 ·have hbr:(0:Rat)<((b:Nat):Rat):=by exact_mod_cast hb0
  have hgr:(0:Rat)<((g:Nat):Rat):=by exact_mod_cast hg0
  have hgb:=Rat.mul_pos hgr hbr
  rw [ha,hb,Rat.intCast_mul,Rat.natCast_mul,Rat.intCast_natCast,Rat.intCast_natCast,Rat.div_def,Rat.div_def]
  generalize ((g:Nat):Rat)=x at *
  generalize ((b:Nat):Rat)=y at *
  generalize ((a:Int):Rat)=u at *
  grind
end Go.Proofs.YtipocabbjinbhaaGreat
namespace Go.Proofs.YtipocabbjinbhaaGreat
open Go.RowKit
theorem isum_ones:∀ xs:List Pt,isum (xs.map fun _=>1)=xs.length:=fun xs=>isum_one xs fun _ _=>rfl
section
variable {f g:List Int} {za zb zc:Int} {qa qb qc:Nat}
end
end Go.Proofs.YtipocabbjinbhaaGreat
namespace Go.Proofs.YtipocabbjinbhaaGreat
open Go.RowKit
def atv (n d:Int):List Int→Int
 | []=>0
 | a :: t=>atv n d t*n+a*d^t.length
theorem atv_pv {n d:Int} (hd:0<d):∀ f:List Int,((atv n d f:Int):Rat)*(d:Rat)=(d:Rat)^f.length*pv f ((n:Rat) / (d:Rat))
 | []=>by
   show ((0:Int):Rat)*_=_*0
   rw [Rat.mul_zero]
   simp
 | a :: t=>by
   have ih:=atv_pv (n:=n) hd t
   have hd':(0:Rat)<(d:Rat):=by exact_mod_cast hd
   show ((atv n d t*n+a*d^t.length:Int):Rat)*(d:Rat)=(d:Rat)^(t.length+1)*((a:Rat)+(n:Rat) / (d:Rat)*pv t ((n:Rat) / (d:Rat)))
   rw [Rat.intCast_add,Rat.intCast_mul,Rat.intCast_mul,Rat.intCast_pow,Rat.pow_succ]
   have e:(d:Rat)*((n:Rat) / (d:Rat))=(n:Rat):=by rw [Rat.mul_comm,Rat.div_mul_cancel (by grind)]
   generalize pv t ((n:Rat) / (d:Rat))=P at *
   generalize (n:Rat) / (d:Rat)=y at *
   generalize (d:Rat)^t.length=E at *
   generalize ((atv n d t:Int):Rat)=A at *
   have h1:A*(n:Rat)*(d:Rat)=(E*P)*((d:Rat)*y):=by rw [e,← ih];grind
   rw [Rat.add_mul,h1]
   grind
theorem atv_sg {n d:Int} (hd:0<d) (f:List Int):sg (atv n d f)=sgp f (Pt.of ((n:Rat) / (d:Rat))):=by
 have hd':(0:Rat)<(d:Rat):=by exact_mod_cast hd
 unfold sgp
 rw [sgf_of (lp_pv f)]
 have h:=atv_pv (n:=n) hd f
 have hE:(0:Rat)<(d:Rat)^f.length:=Rat.pow_pos hd'
 generalize pv f ((n:Rat) / (d:Rat))=P at *
 generalize (d:Rat)^f.length=E at *
 rcases sg_cases (atv n d f) with ⟨c,e⟩ | ⟨c,e⟩ | ⟨c,e⟩<;>rw [e]
 ·have c':((atv n d f:Int):Rat)<0:=by exact_mod_cast c
  have h1:E*P<0:=by
   rw [← h]
   have:=Rat.mul_pos (show (0:Rat) < -((atv n d f:Int):Rat) by grind) hd'
   grind
  have h2:P<0:=Classical.byContradiction fun hn=>by
   have:=Rat.mul_nonneg (Rat.le_of_lt hE) (show (0:Rat)≤P by grind)
   grind
  rw [if_neg (by grind),if_pos h2]
 ·rw [c] at h
  have h1:E*P=0:=by rw [← h];simp
  have h2:P=0:=by
   rcases Rat.mul_eq_zero.1 h1 with c | c
   ·grind
   ·exact c
  rw [h2]
  rfl
 ·have c':(0:Rat)<((atv n d f:Int):Rat):=by exact_mod_cast c
  have h1:0<E*P:=by rw [← h];exact Rat.mul_pos c' hd'
  have h2:0<P:=Classical.byContradiction fun hn=>by
   have:=Rat.mul_nonneg (Rat.le_of_lt hE) (show (0:Rat)≤-P by grind)
   grind
  rw [if_pos h2]
def Irr (p:List Int):Prop:=(isLin p∨isQd p)∧pcont p=1
theorem isLin.plen {p:List Int} (h:isLin p):Go.Proofs.YtipocabbjinbhaaGreat.plen p=2:=plen_eq p 1 (by have:=plen_le p;have:=h.1;omega) (by have:=h.2;omega)
theorem isQd.plen {p:List Int} (h:isQd p):Go.Proofs.YtipocabbjinbhaaGreat.plen p=3:=plen_eq p 2 (by have:=plen_le p;have:=h.1;omega) (by have:=h.2.1;omega)
theorem Irr.ne {p:List Int} (h:Irr p):plen p≠0:=by
 rcases h.1 with c | c
 ·rw [c.plen];decide
 ·rw [c.plen];decide
theorem lin_root {p:List Int} (h:isLin p) (x:Pt):sgp p x=0↔x=Pt.of (((-p.getD 0 0:Int):Rat) / ((p.getD 1 0:Int):Rat)):=by
 have hp:=list2 h.1
 have h1:p=[-(-p.getD 0 0),p.getD 1 0]:=by rw [Int.neg_neg];exact hp
 conv=>lhs;rw [h1]
 exact lin2_root h.2 x
theorem qd_rat {p:List Int} (h:isQd p) {n d:Int} (hd:0<d):sgp p (Pt.of ((n:Rat) / (d:Rat)))≠0:=fun h0=>by
 rw [← atv_sg hd] at h0
 have h1:atv n d p=0:=by rcases sg_cases (atv n d p) with ⟨_,e⟩ | ⟨c,_⟩ | ⟨_,e⟩<;>first | exact c | omega
 have hp:=list3 h.1
 rw [hp] at h1
 generalize ha:p.getD 0 0=a at *
 generalize hb:p.getD 1 0=b at *
 generalize hc:p.getD 2 0=c at *
 have h2:((0*n+c*d^0)*n+b*d^1)*n+a*d^2=0:=h1
 have h3:(2*c*n+b*d)*(2*c*n+b*d)=dsc p*(d*d):=by unfold dsc;rw [ha,hb,hc];grind
 generalize 2*c*n+b*d=m at h3
 have h4:d.natAbs^2∣m.natAbs^2:=by
  have e:m.natAbs^2=(dsc p).natAbs*d.natAbs^2:=by
   have:=congrArg Int.natAbs h3
   rw [Int.natAbs_mul,Int.natAbs_mul,Int.natAbs_mul] at this
   rw [Nat.pow_two,Nat.pow_two]
   exact this
  rw [e]
  exact Nat.dvd_mul_left _ _
 obtain ⟨s,hs⟩:=(Nat.pow_dvd_pow_iff (by decide)).1 h4
 refine h.2.2 s ?_
 have h5:(m.natAbs:Int)*(m.natAbs:Int)=m*m:=Int.natAbs_mul_self' m
 have h6:(d.natAbs:Int)=d:=by omega
 rw [hs,Int.natCast_mul,h6,h3] at h5
 have h7:(d*d)*((s:Int)*(s:Int))=(d*d)*dsc p:=by grind
 exact Int.eq_of_mul_eq_mul_left (by have:=Int.mul_pos hd hd;omega) h7
theorem qd_roots {p:List Int} (h:isQd p) (hd:0<dsc p):∃ z0 z1,z0<z1∧Lst (fun x=>sgp p x=0) [z0,z1]∧z0<Pt.of (((-p.getD 1 0:Int):Rat) / ((2*p.getD 2 0:Int):Rat))∧Pt.of (((-p.getD 1 0:Int):Rat) / ((2*p.getD 2 0:Int):Rat))<z1 ∧
 (∀ y,y<z0→sgp p y=1)∧(∀ y,z0<y→y<z1→sgp p y=-1)∧(∀ y,z1<y→sgp p y=1):=by
 have hp:=list3 h.1
 have hl:=h.plen
 have hlead:plead p=p.getD 2 0:=by unfold plead;rw [hl]
 obtain ⟨B,hB,f1,f2⟩:=far (f:=p) (by omega)
 have e1:sgE false p=1:=by show sg (plead p)=1;rw [hlead,sgq h.2.1]
 have e2:sgE true p=1:=by show (-1)^(plen p-1)*sg (plead p)=1;rw [hlead,sgq h.2.1,hl];rfl
 rw [e1] at f1
 rw [e2] at f2
 have hc2:0<2*p.getD 2 0:=by have:=h.2.1;omega
 generalize hV:((-p.getD 1 0:Int):Rat) / ((2*p.getD 2 0:Int):Rat)=V
 have hv:sgp p (Pt.of V)=-1:=by
  rw [← hV,← atv_sg hc2]
  refine sgqn ?_
  conv=>lhs;rw [hp]
  show ((0*(-p.getD 1 0)+p.getD 2 0*(2*p.getD 2 0)^0)*(-p.getD 1 0)+p.getD 1 0*(2*p.getD 2 0)^1)*(-p.getD 1 0)+p.getD 0 0*(2*p.getD 2 0)^2<0
  have hc:=h.2.1
  have h2:((0*(-p.getD 1 0)+p.getD 2 0*(2*p.getD 2 0)^0)*(-p.getD 1 0)+p.getD 1 0*(2*p.getD 2 0)^1)*(-p.getD 1 0)+p.getD 0 0*(2*p.getD 2 0)^2=-(p.getD 2 0*dsc p):=by unfold dsc;grind
  rw [h2]
  have:=Int.mul_pos hc hd
  omega
 -- far points on both sides
 have lo:∀ y:Pt,∃ t:Rat,Pt.of t<y∧sgp p (Pt.of t)=1:=fun y=>by
  obtain ⟨q,hq⟩:=y.ne
  refine ⟨min q (-B)-1,Pt.of_lt.2 (Pt.Lle hq (by grind)),f2 _ (by grind)⟩
 have hi:∀ y:Pt,∃ t:Rat,y<Pt.of t∧sgp p (Pt.of t)=1:=fun y=>by
  obtain ⟨q,hq⟩:=y.bd
  refine ⟨max q B+1,Pt.lt_of.2 (Pt.up hq (by grind)),f1 _ (by grind)⟩
 obtain ⟨t0,k0,k1⟩:=lo (Pt.of V)
 obtain ⟨t1,k2,k3⟩:=hi (Pt.of V)
 obtain ⟨z0,a1,a2,a3⟩:=ivt (lp_pv p) k0 (show sgp p (Pt.of t0)*sgp p (Pt.of V)=-1 by rw [k1,hv];rfl)
 obtain ⟨z1,b1,b2,b3⟩:=ivt (lp_pv p) k2 (show sgp p (Pt.of V)*sgp p (Pt.of t1)=-1 by rw [k3,hv];rfl)
 have a3':sgp p z0=0:=a3
 have b3':sgp p z1=0:=b3
 have hz:=Pt.lt_trans a2 b1
 have only:∀ y,sgp p y=0→y=z0∨y=z1:=fun y hy=>by
  rcases Pt.tri y z0 with c | c | c
  ·have:=rts_le 2 p hl [y,z0,z1] (by simp [c,hz,Pt.lt_trans c hz]) (by intro x hx;simp at hx;rcases hx with rfl | rfl | rfl<;>assumption)
   simp at this
  ·exact .inl c
  ·rcases Pt.tri y z1 with c2 | c2 | c2
   ·have:=rts_le 2 p hl [z0,y,z1] (by simp [c,c2,hz]) (by intro x hx;simp at hx;rcases hx with rfl | rfl | rfl<;>assumption)
    simp at this
   ·exact .inr c2
   ·have:=rts_le 2 p hl [z0,z1,y] (by simp [c,c2,hz]) (by intro x hx;simp at hx;rcases hx with rfl | rfl | rfl<;>assumption)
    simp at this
 have nz:∀ y,y≠z0→y≠z1→sgp p y=1∨sgp p y=-1:=fun y h1 h2=>by
  rcases sgp_or p y with c | c | c
  ·exact .inl c
  ·exact .inr c
  ·rcases only y c with c | c
   ·exact absurd c h1
   ·exact absurd c h2
 have ne1:∀ {x y:Pt},x<y→x≠y:=fun h e=>by subst e;exact Pt.irr _ h
 refine ⟨z0,z1,hz,⟨by simp [hz],fun y=>⟨fun hy=>by simp at hy;rcases hy with rfl | rfl<;>assumption,fun hy=>by simp;exact only y hy⟩⟩,a2,b1,fun y hy=>?_,fun y h0 h1=>?_,fun y hy=>?_⟩
 ·rcases nz y (ne1 hy) (ne1 (Pt.lt_trans hy hz)) with c | c
  ·exact c
  ·obtain ⟨t,k4,k5⟩:=lo y
   obtain ⟨z,d1,d2,d3⟩:=ivt (lp_pv p) k4 (show sgp p (Pt.of t)*sgp p y=-1 by rw [k5,c];rfl)
   rcases only z d3 with e | e
   ·rw [e] at d2;exact absurd d2 (Pt.asym hy)
   ·rw [e] at d2;exact absurd d2 (Pt.asym (Pt.lt_trans hy hz))
 ·rcases nz y (fun e=>ne1 h0 e.symm) (ne1 h1) with c | c
  ·rcases Pt.tri y (Pt.of V) with c2 | c2 | c2
   ·obtain ⟨z,d1,d2,d3⟩:=ivt (lp_pv p) c2 (show sgp p y*sgp p (Pt.of V)=-1 by rw [hv,c];rfl)
    rcases only z d3 with e | e
    ·rw [e] at d1;exact absurd d1 (Pt.asym h0)
    ·rw [e] at d2;exact absurd d2 (Pt.asym b1)
   ·rw [c2,hv] at c;cases c
   ·obtain ⟨z,d1,d2,d3⟩:=ivt (lp_pv p) c2 (show sgp p (Pt.of V)*sgp p y=-1 by rw [hv,c];rfl)
    rcases only z d3 with e | e
    ·rw [e] at d1;exact absurd d1 (Pt.asym a2)
    ·rw [e] at d2;exact absurd d2 (Pt.asym h1)
  ·exact c
 ·rcases nz y (fun e=>ne1 (Pt.lt_trans hz hy) e.symm) (fun e=>ne1 hy e.symm) with c | c
  ·exact c
  ·obtain ⟨t,k4,k5⟩:=hi y
   obtain ⟨z,d1,d2,d3⟩:=ivt (lp_pv p) k4 (show sgp p y*sgp p (Pt.of t)=-1 by rw [k5,c];rfl)
   rcases only z d3 with e | e
   ·rw [e] at d1;exact absurd d1 (Pt.asym (Pt.lt_trans hz hy))
   ·rw [e] at d1;exact absurd d1 (Pt.asym hy)
end Go.Proofs.YtipocabbjinbhaaGreat
namespace Go.Proofs.YtipocabbjinbhaaGreat
open Go.RowKit
def realn (p:List Int):Nat:=if p.length=2 then 1 else if 0<dsc p then 2 else 0
def cmpv (p:List Int) (k:Nat) (n d:Int):Int :=
 if p.length=2 then -sg (atv n d p) else if atv n d p<0 then 2*(k:Int)-1 else if -p.getD 1 0*d<2*p.getD 2 0*n then -1 else 1
noncomputable def rts (p:List Int):List Pt:=if h:plen p≠0 then (roots_ex h).choose else []
theorem rts_lst {p:List Int} (h:plen p≠0):Lst (fun x=>sgp p x=0) (rts p):=by
 unfold rts
 rw [dif_pos h]
 exact (roots_ex h).choose_spec
theorem qd_none {p:List Int} (h:isQd p) (hd:¬ 0<dsc p):dsc p<0:=by
 have:dsc p≠0:=fun e=>h.2.2 0 (by rw [e];rfl)
 omega
theorem frac_lt' {z z':Int} {q q':Int} (hq:0<q) (hq':0<q'):Pt.of ((z:Rat) / (q:Rat))<Pt.of ((z':Rat) / (q':Rat))↔z*q'<z'*q:=by
 obtain ⟨a,ha⟩:∃ a:Nat,q=(a:Int):=⟨q.toNat,by omega⟩
 obtain ⟨b,hb⟩:∃ b:Nat,q'=(b:Int):=⟨q'.toNat,by omega⟩
 subst ha hb
 have:=pt_lt (z:=z) (z':=z') (q:=a) (q':=b) (by omega) (by omega)
 exact this
theorem rts_irr {p:List Int} (h:isLin p∨isQd p):(rts p).length=realn p∧∀ k,(hk:k<(rts p).length)→∀ n d:Int,0<d →
 (0<cmpv p k n d↔Pt.of ((n:Rat) / (d:Rat))<(rts p)[k])∧(cmpv p k n d<0↔(rts p)[k]<Pt.of ((n:Rat) / (d:Rat)))∧(cmpv p k n d=1∨cmpv p k n d=0∨cmpv p k n d=-1):=by
 rcases h with h | h
 ·have hl:plen p≠0:=by rw [h.plen];decide
  have e:rts p=[Pt.of (((-p.getD 0 0:Int):Rat) / ((p.getD 1 0:Int):Rat))]:=(rts_lst hl).uniq ⟨by simp,fun x=>by show _↔sgp p x=0;rw [lin_root h];simp⟩
  rw [e]
  refine ⟨by unfold realn;rw [if_pos h.1];rfl,fun k hk n d hd=>?_⟩
  have hk0:k=0:=by simpa using hk
  subst hk0
  have ha:atv n d p=p.getD 1 0*n+p.getD 0 0*d:=by
   conv=>lhs;rw [list2 h.1]
   show (0*n+p.getD 1 0*d^0)*n+p.getD 0 0*d^1=_
   grind
  unfold cmpv
  rw [if_pos h.1,ha]
  show (_↔Pt.of _<Pt.of _)∧(_↔Pt.of _<Pt.of _)∧_
  rw [frac_lt' hd h.2,frac_lt' h.2 hd]
  have m1:n*p.getD 1 0=p.getD 1 0*n:=Int.mul_comm _ _
  have m2:-p.getD 0 0*d=-(p.getD 0 0*d):=Int.neg_mul _ _
  rw [m1,m2]
  generalize p.getD 1 0*n=X
  generalize p.getD 0 0*d=Y
  rcases sg_cases (X+Y) with ⟨c,e⟩ | ⟨c,e⟩ | ⟨c,e⟩<;>rw [e]<;>refine ⟨⟨?_,?_⟩,⟨?_,?_⟩,?_⟩<;>omega
 ·have hl:plen p≠0:=by rw [h.plen];decide
  have h2:¬ p.length=2:=by rw [h.1];decide
  by_cases hd:0<dsc p
  ·obtain ⟨z0,z1,hz,hL,hv0,hv1,g0,g1,g2⟩:=qd_roots h hd
   have e:rts p=[z0,z1]:=(rts_lst hl).uniq hL
   rw [e]
   refine ⟨by unfold realn;rw [if_neg h2,if_pos hd];rfl,fun k hk n d hd=>?_⟩
   have hne:=qd_rat h hd (n:=n)
   have hsg:=atv_sg (n:=n) hd p
   have hc2:0<2*p.getD 2 0:=by have:=h.2.1;omega
   have hV:=frac_lt' (z:=-p.getD 1 0) (q:=2*p.getD 2 0) (z':=n) (q':=d) hc2 hd
   have hV2:=frac_lt' (z':=-p.getD 1 0) (q':=2*p.getD 2 0) (z:=n) (q:=d) hd hc2
   unfold cmpv
   rw [if_neg h2]
   rw [show 2*p.getD 2 0*n=n*(2*p.getD 2 0) from Int.mul_comm _ _]
   generalize hy:Pt.of ((n:Rat) / (d:Rat))=y at *
   generalize Pt.of (((-p.getD 1 0:Int):Rat) / ((2*p.getD 2 0:Int):Rat))=V at *
   have key:(atv n d p<0∧z0<y∧y<z1)∨(0<atv n d p∧y<z0∧¬ V<y)∨(0<atv n d p∧z1<y∧V<y):=by
    rcases Pt.tri y z0 with c | c | c
    ·right;left
     have:=g0 y c
     rw [this] at hsg
     exact ⟨by rcases sg_cases (atv n d p) with ⟨_,e⟩ | ⟨_,e⟩ | ⟨_,e⟩<;>omega,c,fun h=>Pt.asym h (Pt.lt_trans c hv0)⟩
    ·exact absurd ((hL.2 y).1 (by rw [c];simp)) hne
    ·rcases Pt.tri y z1 with c2 | c2 | c2
     ·left
      have:=g1 y c c2
      rw [this] at hsg
      exact ⟨by rcases sg_cases (atv n d p) with ⟨_,e⟩ | ⟨_,e⟩ | ⟨_,e⟩<;>omega,c,c2⟩
     ·exact absurd ((hL.2 y).1 (by rw [c2];simp)) hne
     ·right;right
      have:=g2 y c2
      rw [this] at hsg
      exact ⟨by rcases sg_cases (atv n d p) with ⟨_,e⟩ | ⟨_,e⟩ | ⟨_,e⟩<;>omega,c2,Pt.lt_trans hv1 c2⟩
   have hk2:k=0∨k=1:=by simp at hk;omega
   rcases key with ⟨k1,k2,k3⟩ | ⟨k1,k2,k3⟩ | ⟨k1,k2,k3⟩
   ·rw [if_pos k1]
    rcases hk2 with rfl | rfl
    ·exact ⟨⟨fun h=>absurd h (by decide),fun h=>absurd k2 (Pt.asym h)⟩,⟨fun _=>k2,fun _=>by decide⟩,by decide⟩
    ·exact ⟨⟨fun _=>k3,fun _=>by decide⟩,⟨fun h=>absurd h (by decide),fun h=>absurd k3 (Pt.asym h)⟩,by decide⟩
   ·rw [if_neg (by omega),if_neg (fun h=>k3 (hV.2 h))]
    rcases hk2 with rfl | rfl
    ·exact ⟨⟨fun _=>k2,fun _=>by decide⟩,⟨fun h=>absurd h (by decide),fun h=>absurd k2 (Pt.asym h)⟩,by decide⟩
    ·exact ⟨⟨fun _=>Pt.lt_trans k2 hz,fun _=>by decide⟩,⟨fun h=>absurd h (by decide),fun h=>absurd (Pt.lt_trans k2 hz) (Pt.asym h)⟩,by decide⟩
   ·rw [if_neg (by omega),if_pos (hV.1 k3)]
    rcases hk2 with rfl | rfl
    ·exact ⟨⟨fun h=>absurd h (by decide),fun h=>absurd (Pt.lt_trans hz k2) (Pt.asym h)⟩,⟨fun _=>Pt.lt_trans hz k2,fun _=>by decide⟩,by decide⟩
    ·exact ⟨⟨fun h=>absurd h (by decide),fun h=>absurd k2 (Pt.asym h)⟩,⟨fun _=>k2,fun _=>by decide⟩,by decide⟩
  ·have hn:=qd_none h hd
   have e:rts p=[]:=(rts_lst hl).uniq ⟨List.Pairwise.nil,fun x=>⟨fun h=>(by cases h),fun h0=>absurd h0 (qd_sgp h hn x)⟩⟩
   rw [e]
   exact ⟨by unfold realn;rw [if_neg h2,if_neg hd];rfl,fun k hk=>absurd hk (Nat.not_lt_zero k)⟩
theorem irr_prop {p r:List Int} (hp:Irr p) (hr:Irr r) (hl:p.length=r.length) {a b:Int} (ha:0<a) (hb:0<b) (h:∀ k,a*p.getD k 0=b*r.getD k 0):p=r:=by
 have h1:pcont (psc a p)=pcont (psc b r):=pcont_ext fun k=>by rw [psc_get,psc_get,h]
 rw [pcont_psc,pcont_psc,hp.2,hr.2] at h1
 have hab:a=b:=by omega
 subst hab
 refine List.ext_getElem hl fun k h2 h3=>?_
 have:=Int.eq_of_mul_eq_mul_left (by omega) (h k)
 rw [List.getD_eq_getElem?_getD,List.getElem?_eq_getElem h2,List.getD_eq_getElem?_getD,List.getElem?_eq_getElem h3] at this
 exact this
theorem irr_apart {p r:List Int} (hp:Irr p) (hr:Irr r) {x:Pt} (h1:sgp p x=0) (h2:sgp r x=0):p=r:=by
 rcases hp.1 with p1 | p1<;>rcases hr.1 with r1 | r1
 ·have e1:=(lin_root p1 x).1 h1
  have e2:=(lin_root r1 x).1 h2
  rw [e1] at e2
  have e3:-p.getD 0 0*r.getD 1 0=-r.getD 0 0*p.getD 1 0:=by
   have c1:¬ -p.getD 0 0*r.getD 1 0 < -r.getD 0 0*p.getD 1 0:=fun c=>by
    have:=(frac_lt' p1.2 r1.2).2 c
    rw [e2] at this
    exact Pt.irr _ this
   have c2:¬ -r.getD 0 0*p.getD 1 0 < -p.getD 0 0*r.getD 1 0:=fun c=>by
    have:=(frac_lt' r1.2 p1.2).2 c
    rw [e2] at this
    exact Pt.irr _ this
   omega
  refine irr_prop hp hr (by rw [p1.1,r1.1]) r1.2 p1.2 fun k=>?_
  match k with
  | 0=>grind
  | 1=>exact Int.mul_comm _ _
  | k+2=>rw [getD_ge_plen p (k+2) (by rw [p1.plen];omega),getD_ge_plen r (k+2) (by rw [r1.plen];omega),Int.mul_zero,Int.mul_zero]
 ·rw [(lin_root p1 x).1 h1] at h2
  exact absurd h2 (qd_rat r1 p1.2)
 ·rw [(lin_root r1 x).1 h2] at h1
  exact absurd h1 (qd_rat p1 r1.2)
 ·obtain ⟨L,hL⟩:∃ L,L=padd (psc (r.getD 2 0) p) (psc (-p.getD 2 0) r):=⟨_,rfl⟩
  have hg:∀ k,L.getD k 0=r.getD 2 0*p.getD k 0-p.getD 2 0*r.getD k 0:=fun k=>by rw [hL,padd_get,psc_get,psc_get,Int.neg_mul];omega
  have hz:sgp (psc (-p.getD 2 0) r) x=0:=by rw [sgp_psc,h2,Int.mul_zero]
  have hL0:sgp L x=0:=by rw [hL,sgp_add0 hz,sgp_psc,h1,Int.mul_zero]
  have hpl:plen L≤2:=plen_le_of fun k hk=>by
   rw [hg]
   match k,hk with
   | 2,_=>rw [Int.mul_comm];omega
   | k+3,_=>rw [getD_ge_plen p (k+3) (by rw [p1.plen];omega),getD_ge_plen r (k+3) (by rw [r1.plen];omega)];omega
  have hb:L.getD 1 0=0:=Classical.byContradiction fun hb=>by
   -- the common root would be a fraction
   obtain ⟨M,hM,hM1,hM0⟩:∃ M:List Int,isLin M∧sgp M x=0∧True:=by
    rcases Int.lt_or_gt_of_ne hb with c | c
    ·refine ⟨[-L.getD 0 0,-L.getD 1 0],⟨rfl,by show 0 < -L.getD 1 0;omega⟩,?_,trivial⟩
     have:∀ k,([-L.getD 0 0,-L.getD 1 0]:List Int).getD k 0=(psc (-1) L).getD k 0:=fun k=>by
      rw [psc_get]
      match k with
      | 0=>show -L.getD 0 0=_;omega
      | 1=>show -L.getD 1 0=_;omega
      | k+2=>rw [getD_ge_plen L (k+2) (by omega)];rfl
     rw [sgp_congr this,sgp_psc,hL0,Int.mul_zero]
    ·refine ⟨[L.getD 0 0,L.getD 1 0],⟨rfl,c⟩,?_,trivial⟩
     have:∀ k,([L.getD 0 0,L.getD 1 0]:List Int).getD k 0=L.getD k 0:=fun k=>by
      match k with
      | 0=>rfl
      | 1=>rfl
      | k+2=>rw [getD_ge_plen L (k+2) (by omega)];rfl
     rw [sgp_congr this,hL0]
   rw [(lin_root hM x).1 hM1] at h1
   exact absurd h1 (qd_rat p1 hM.2)
  have ha:L.getD 0 0=0:=by
   have:∀ k,([L.getD 0 0]:List Int).getD k 0=L.getD k 0:=fun k=>by
    match k with
    | 0=>rfl
    | 1=>exact hb.symm
    | k+2=>rw [getD_ge_plen L (k+2) (by omega)];rfl
   rw [← sgp_congr this,sgp_const] at hL0
   rcases sg_cases (L.getD 0 0) with ⟨_,e⟩ | ⟨c,_⟩ | ⟨_,e⟩<;>first | exact c | omega
  refine irr_prop hp hr (by rw [p1.1,r1.1]) r1.2.1 p1.2.1 fun k=>?_
  have:=hg k
  match k with
  | 0=>rw [ha] at this;omega
  | 1=>rw [hb] at this;omega
  | k+2=>rw [getD_ge_plen L (k+2) (by omega)] at this;omega
def Dis (l:List (List Int×Nat)):Prop:=l.Pairwise fun a b=>a.1≠b.1
theorem with_dis {p:List Int}:∀ {l:List (List Int×Nat)},Dis l→Dis (withf l p)∧∀ y∈withf l p,y.1=p∨∃ z∈l,y.1=z.1
 | [],_=>⟨List.pairwise_singleton _ _,fun y hy=>.inl (by rw [List.mem_singleton.1 hy])⟩
 | (r,m) :: l,h=>by
   have h':=List.pairwise_cons.1 h
   unfold withf
   split
   ·rename_i e
    refine ⟨List.pairwise_cons.2 ⟨fun y hy=>h'.1 y hy,h'.2⟩,fun y hy=>?_⟩
    rcases List.mem_cons.1 hy with e2 | e2
    ·rw [e2];exact .inl e
    ·exact .inr ⟨y,List.mem_cons_of_mem _ e2,rfl⟩
   ·rename_i e
    obtain ⟨i1,i2⟩:=with_dis (p:=p) h'.2
    refine ⟨List.pairwise_cons.2 ⟨fun y hy e3=>?_,i1⟩,fun y hy=>?_⟩
    ·rcases i2 y hy with c | ⟨z,hz,c⟩
     ·exact e (by rw [← c];exact e3)
     ·exact h'.1 z hz (by rw [← c];exact e3)
    ·rcases List.mem_cons.1 hy with e2 | e2
     ·exact .inr ⟨(r,m),List.mem_cons_self,by rw [e2]⟩
     ·rcases i2 y e2 with c | ⟨z,hz,c⟩
      ·exact .inl c
      ·exact .inr ⟨z,List.mem_cons_of_mem _ hz,c⟩
theorem addf_dis:∀ {ps:List (List Int)} {l:List (List Int×Nat)},Dis l→Dis (addf l ps)
 | [],_,h=>h
 | p :: ps,l,h=>show Dis (addf (withf l p) ps) from addf_dis (ps:=ps) (with_dis h).1
theorem facs_dis:∀ {qs:List (List Int)} {l:List (List Int×Nat)},Dis l→Dis (facs l qs)
 | [],_,h=>h
 | q :: qs,l,h=>show Dis (facs (addf l (spl q)) qs) from facs_dis (qs:=qs) (addf_dis h)
theorem nrm_cont {p:List Int} (h:plen p≠0):pcont (nrm p)=1:=by
 have h1:pcont (psc (rnu p) (nrm p))=pcont p:=pcont_ext fun k=>by rw [psc_get,nrm_get h]
 rw [pcont_psc] at h1
 have h2:(rnu p).natAbs=pcont p:=by unfold rnu;split<;>omega
 rw [h2] at h1
 exact Nat.eq_of_mul_eq_mul_left (Nat.pos_of_ne_zero (pcont_ne h)) (by rw [h1,Nat.mul_one])
theorem spl_irr {q:List Int} (h:plen q≠0) (h3:plen q≤3):∀ p∈spl q,Irr p:=fun p hp=>⟨(spl_spec h h3).1 p hp,by
 have hld:=nrm_lead h
 unfold spl at hp
 split at hp
 ·cases hp
 ·split at hp
  ·rw [List.mem_singleton.1 hp];exact nrm_cont h
  ·have c3:plen q=3:=by omega
   rw [c3] at hld
   have hn:∀ z:Int,plen [(nrm q).getD 1 0+z,2*(nrm q).getD 2 0]≠0:=fun z=>by
    rw [plen_cons_succ (by rw [plen_cons_one rfl (by show 2*(nrm q).getD 2 0≠0;have:0<(nrm q).getD 2 0:=hld;omega)];omega)]
    omega
   split at hp
   ·rcases List.mem_cons.1 hp with e | e
    ·rw [e];exact nrm_cont (hn _)
    ·rw [List.mem_singleton.1 e];exact nrm_cont (hn _)
   ·rw [List.mem_singleton.1 hp];exact nrm_cont h⟩
theorem facs_irr {qs:List (List Int)} (hq:∀ q∈qs,plen q≠0∧plen q≤3):∀ x∈facs [] qs,Irr x.1:=facs_mem (fun q h=>spl_irr (hq q h).1 (hq q h).2) (fun x hx=>by cases hx)
def lfsum (J:List Int→Int):List (List Int×Nat)→Int
 | []=>0
 | (r,_) :: l=>J r+lfsum J l
theorem lfsum_congr {J K:List Int→Int}:∀ {l:List (List Int×Nat)},(∀ x∈l,J x.1=K x.1)→lfsum J l=lfsum K l
 | [],_=>rfl
 | (r,m) :: l,h=>by
   show J r+lfsum J l=K r+lfsum K l
   rw [h (r,m) List.mem_cons_self,lfsum_congr fun q hq=>h q (List.mem_cons_of_mem _ hq)]
theorem isum_lfsum (J:Pt→List Int→Int) (xs:List Pt):∀ l:List (List Int×Nat),isum (xs.map fun x=>lfsum (J x) l)=lfsum (fun p=>isum (xs.map fun x=>J x p)) l
 | []=>isum_zero xs fun _ _=>rfl
 | (r,m) :: l=>by
   show isum (xs.map fun x=>J x r+lfsum (J x) l)=_+_
   rw [isum_add (fun x=>J x r) (fun x=>lfsum (J x) l),isum_lfsum J xs l]
theorem lfsum_zero {J:List Int→Int}:∀ {l:List (List Int×Nat)},(∀ x∈l,J x.1=0)→lfsum J l=0
 | [],_=>rfl
 | (r,m) :: l,h=>by
   show J r+lfsum J l=0
   rw [h (r,m) List.mem_cons_self,lfsum_zero fun q hq=>h q (List.mem_cons_of_mem _ hq)]
   rfl
theorem lfsum_hit {x:Pt} {c:Int}:∀ {l:List (List Int×Nat)},Dis l→(∀ y∈l,Irr y.1)→(∃ y∈l,sgp y.1 x=0)→lfsum (fun p=>if sgp p x=0 then c else 0) l=c
 | [],_,_,⟨y,hy,_⟩=>by cases hy
 | (r,m) :: l,hd,hi,⟨y,hy,h0⟩=>by
   have hd':=List.pairwise_cons.1 hd
   show (if sgp r x=0 then c else 0)+lfsum _ l=c
   by_cases hr:sgp r x=0
   ·rw [if_pos hr,lfsum_zero fun z hz=>?_,Int.add_zero]
    exact if_neg fun hz0=>hd'.1 z hz (irr_apart (hi (r,m) List.mem_cons_self) (hi z (List.mem_cons_of_mem _ hz)) hr hz0)
   ·rw [if_neg hr,Int.zero_add]
    refine lfsum_hit hd'.2 (fun z hz=>hi z (List.mem_cons_of_mem _ hz)) ?_
    rcases List.mem_cons.1 hy with e | e
    ·rw [e] at h0;exact absurd h0 hr
    ·exact ⟨y,e,h0⟩
theorem prod_root {qs:List (List Int)} (hq:∀ q∈qs,plen q≠0∧plen q≤3) (x:Pt):sgp (prodf [1] qs) x=0↔∃ y∈facs [] qs,sgp y.1 x=0:=by
 have hP:plen (prodf [1] qs)≠0:=(prodf_mult (Pt.of 0) qs [1] (by decide) fun q h=>(hq q h).1).1
 have hm:=mult_prod hq x
 have hi:=facs_irr hq
 constructor
 ·intro h
  refine Classical.byContradiction fun hn=>?_
  have h1:mult x (prodf [1] qs)≠0:=fun e=>(mult_zero hP).1 e h
  have h2:fsum (fun p=>(mult x p:Int)) (facs [] qs)=fsum (fun _=>0) (facs [] qs):=fsum_congr fun y hy=>by
   have:mult x y.1=0:=(mult_zero (hi y hy).ne).2 fun e=>hn ⟨y,hy,e⟩
   show (mult x y.1:Int)=0
   omega
  have h3:∀ l:List (List Int×Nat),fsum (fun _=>0) l=0:=fun l=>by
   induction l with
   | nil=>rfl
   | cons a l ih=>show (a.2:Int)*0+fsum _ l=0;rw [ih];omega
  rw [h2,h3] at hm
  omega
 ·rintro ⟨y,hy,h⟩
  refine Classical.byContradiction fun hn=>?_
  have h1:=(mult_zero hP).2 hn
  rw [h1] at hm
  exact (mult_zero (hi y hy).ne).1 (fsum_zero hm.symm (facs_pos (fun z hz=>by cases hz)) y hy) h
theorem prod_sum {qs:List (List Int)} (hq:∀ q∈qs,plen q≠0∧plen q≤3) (J:Pt→Int) {xs:List Pt} (hx:Lst (fun x=>sgp (prodf [1] qs) x=0) xs):isum (xs.map J)=lfsum (fun p=>isum ((rts p).map J)) (facs [] qs):=by
 have hi:=facs_irr hq
 have hd:Dis (facs [] qs):=facs_dis List.Pairwise.nil
 have e1:isum (xs.map J)=isum (xs.map fun x=>lfsum (fun p=>if sgp p x=0 then J x else 0) (facs [] qs)):=by
  congr 1
  exact List.map_congr_left fun x h=>(lfsum_hit hd hi ((prod_root hq x).1 ((hx.2 x).1 h))).symm
 rw [e1,isum_lfsum (fun x p=>if sgp p x=0 then J x else 0)]
 refine lfsum_congr fun y hy=>?_
 have hr:=rts_lst (hi y hy).ne
 rw [isum_eq (fun x=>if sgp y.1 x=0 then J x else 0) hx hr (fun x h=>(prod_root hq x).2 ⟨y,hy,h⟩) fun x _ h=>if_neg h]
 congr 1
 exact List.map_congr_left fun x h=>if_pos ((hr.2 x).1 h)
def ksum (j:Nat→Int):Nat→Int
 | 0=>0
 | k+1=>ksum j k+j k
theorem isum_append (xs ys:List Int):isum (xs ++ ys)=isum xs+isum ys:=by
 induction xs with
 | nil=>show _=0+_;rw [Int.zero_add];rfl
 | cons a xs ih=>show a+isum (xs ++ ys)=a+isum xs+isum ys;omega
theorem isum_ksum (J:Pt→Int) (j:Nat→Int):∀ (n:Nat) (xs:List Pt),xs.length=n→(∀ k,(h:k<xs.length)→J xs[k]=j k)→isum (xs.map J)=ksum j n
 | 0,xs,h,_=>by rw [List.eq_nil_of_length_eq_zero h];rfl
 | n+1,xs,h,hj=>by
   have hne:xs≠[]:=fun e=>by rw [e] at h;cases h
   have hs:xs=xs.dropLast ++ [xs.getLast hne]:=(List.dropLast_concat_getLast hne).symm
   have hlen:xs.dropLast.length=n:=by rw [List.length_dropLast,h];rfl
   have h1:=isum_ksum J j n xs.dropLast hlen fun k hk=>by
    rw [List.getElem_dropLast]
    exact hj k (by omega)
   have h2:J (xs.getLast hne)=j n:=by
    rw [List.getLast_eq_getElem]
    have:=hj (xs.length-1) (by omega)
    rw [this]
    congr 1
    omega
   rw [hs,List.map_append,isum_append,h1]
   show _+(J (xs.getLast hne)+0)=ksum j n+j n
   omega
end Go.Proofs.YtipocabbjinbhaaGreat
namespace Go.Proofs.YtipocabbjinbhaaGreat
open Go Go.RowKit
def PsE (w:World) (p:List Int) (vs:List Value):Prop:=∃ A l c,vs=[.slice A l c]∧I64At w A l c p
theorem PsE.below {w w':World} {p:List Int} {vs:List Value} (h:PsE w p vs) (hb:Below w.heap.size w w'):PsE w' p vs:=by
 obtain ⟨A,l,c,e,h⟩:=h
 exact ⟨A,l,c,e,h.below hb⟩
abbrev PsAt (w:World) (A:Option Addr) (l c:Nat) (ps:List (List Int)):Prop:=SlE 1 PsE w A l c ps
theorem ps_below {w w':World} {A:Option Addr} {l c:Nat} {ps:List (List Int)} (h:PsAt w A l c ps) (hb:Below w.heap.size w w'):PsAt w' A l c ps:=h.below hb fun _ _ hx=>hx.below hb
theorem ps_one {w:World} {t:TypeId} {A:Option Addr} {l c:Nat} {p:List Int} (h:I64At w A l c p):PsAt (w.alloc (.cells #[.slice A l c] t)) (some ⟨w.heap.size,0,none⟩) 1 1 [p]:=by
 have hb:=below_new w (.cells #[.slice A l c] t)
 refine ⟨rfl,Nat.le_refl _,.inr ⟨w.heap.size,0,rfl,by simp,fun i x hx=>?_⟩⟩
 match i,hx with
 | 0,hx =>
   simp at hx
   subst hx
   refine ⟨_,⟨A,l,c,rfl,h.below hb⟩,fun j v hv=>?_⟩
   match j,hv with
   | 0,hv=>simp at hv;subst hv;simp
   | j+1,hv=>simp at hv
 | i+1,hx=>simp at hx
theorem ps_two {w:World} {t:TypeId} {A:Option Addr} {l c:Nat} {p:List Int} {B:Option Addr} {m d:Nat} {q:List Int} (h:I64At w A l c p) (k:I64At w B m d q):PsAt (w.alloc (.cells #[.slice A l c,.slice B m d] t)) (some ⟨w.heap.size,0,none⟩) 2 2 [p,q]:=by
 have hb:=below_new w (.cells #[.slice A l c,.slice B m d] t)
 refine ⟨rfl,Nat.le_refl _,.inr ⟨w.heap.size,0,rfl,by simp,fun i x hx=>?_⟩⟩
 match i,hx with
 | 0,hx =>
   simp at hx
   subst hx
   refine ⟨_,⟨A,l,c,rfl,h.below hb⟩,fun j v hv=>?_⟩
   match j,hv with
   | 0,hv=>simp at hv;subst hv;simp
   | j+1,hv=>simp at hv
 | 1,hx =>
   simp at hx
   subst hx
   refine ⟨_,⟨B,m,d,rfl,k.below hb⟩,fun j v hv=>?_⟩
   match j,hv with
   | 0,hv=>simp at hv;subst hv;simp
   | j+1,hv=>simp at hv
 | i+2,hx=>simp at hx
theorem rnu_le {p:List Int} {M:Nat} (_h:plen p≠0) (hM:∀ j,(p.getD j 0).natAbs≤M):(rnu p).natAbs≤M:=by
 have h1:=rgc_bd hM (plen p)
 rw [rgc_eq] at h1
 unfold rnu
 split<;>omega
theorem gd3 {a b c:Int} {M:Nat} (ha:a.natAbs≤M) (hb:b.natAbs≤M) (hc:c.natAbs≤M) (j:Nat):(([a,b,c]:List Int).getD j 0).natAbs≤M:=by
 match j with
 | 0=>exact ha
 | 1=>exact hb
 | 2=>exact hc
 | j+3=>exact Nat.zero_le _
theorem gd2 {a b:Int} {M:Nat} (ha:a.natAbs≤M) (hb:b.natAbs≤M) (j:Nat):(([a,b]:List Int).getD j 0).natAbs≤M:=by
 match j with
 | 0=>exact ha
 | 1=>exact hb
 | j+2=>exact Nat.zero_le _
theorem rnrm_two (A:Option Addr) (len cap:Nat) (p:List Int) (w:World) (h:I64At w A len cap p) (hm:len≤1000) (h2:plen p=2) (hM:∀ j,(p.getD j 0).natAbs≤2305843009213693952) :
 Calls Tryz.prog 104 #[.slice A len cap] w fun e w'=>(∃ A',e=.returned (.tuple #[.int .i64 (rnu p),.slice A' 2 2])∧I64At w' A' 2 2 (nrm p))∧Below w.heap.size w w':=by
 refine (rnrm_any A len cap p w h hm (by omega) hM).mono ?_
 rintro e w1 ⟨rfl,hk,hb⟩
 have hk':IRow w1 w.heap.size (nrm p):=hk
 have:=hk'.at_ (cap:=2) (by rw [nrm_len,h2];exact Nat.le_refl _)
 rw [nrm_len,h2] at this
 rw [h2]
 exact ⟨⟨_,rfl,this⟩,hb⟩
set_option maxRecDepth 100000 in
set_option maxHeartbeats 8000000 in
theorem split_any (A:Option Addr) (ca:Nat) (a b c:Int) (w:World) (h:I64At w A 3 ca [a,b,c]) (ha:a.natAbs≤9) (hb:b.natAbs≤9) (hc:c.natAbs≤9) :
 Calls Tryz.prog 53 #[.slice A 3 ca] w fun e w'=>(∃ u A' l' c',e=.returned (.tuple #[.int .i64 u,.slice A' l' c'])∧(u=0↔plen [a,b,c]=0)∧u.natAbs≤9∧PsAt w' A' l' c' (spl [a,b,c]))∧Below w.heap.size w w':=by
 have hM:=gd3 ha hb hc
 obtain ⟨q,hq⟩:∃ q,q=[a,b,c]:=⟨_,rfl⟩
 have hp3:plen [a,b,c]≤3:=plen_le [a,b,c]
 rw [← hq] at h hM hp3 ⊢
 clear hq
 go_enter Tryz.func53,Tryz.ntmps53
 by_cases h0:plen q=0
 ·go_wp2_with fail
  refine (rnrm_zero _ _ _ _ _ h (by omega) h0).mono ?_
  rintro e w1 ⟨rfl,rfl⟩
  have Hsp:=Lib.hid (show spl q=[] by unfold spl;rw [if_pos (by omega)])
  have H0:=Lib.hid h0
  clear h h0
  go_wp2
  refine bodyPost_ret (v:=.tuple #[.int .i64 0,.slice none 0 0]) (by simp [results,Tryz.results53,go_sem]) rfl ⟨⟨0,none,0,0,rfl,⟨fun _=>H0.out,fun _=>rfl⟩,Nat.zero_le _,by rw [Hsp.out];exact ⟨rfl,Nat.le_refl _,.inl ⟨rfl,rfl,rfl⟩⟩⟩,Bel.go⟩
 go_wp2_with fail
 refine (rnrm_any _ _ _ _ _ h (by omega) h0 (fun j=>by have:=hM j;omega)).mono ?_
 rintro e w1 ⟨rfl,hk,hb1⟩
 have hk':IRow w1 w.heap.size (nrm q):=hk
 have HM:=Lib.hid (nrm_le hM)
 have HU:=Lib.hid (show (rnu q=0↔plen q=0)∧(rnu q).natAbs≤9 from ⟨⟨fun e=>absurd e (rnu_ne h0),fun e=>absurd e h0⟩,rnu_le h0 hM⟩)
 have HL:=Lib.hid (nrm_len q)
 have HSP:=Lib.hid (show spl q=spl q from rfl)
 have HK:=Lib.hid hk'
 have Hb:=Lib.hid hb1
 obtain ⟨G,hG⟩:∃ G,G=w.heap.size:=⟨_,rfl⟩
 rw [← hG] at HK
 have HG:=Lib.hid hG
 obtain ⟨u,hu⟩:∃ u,u=rnu q:=⟨_,rfl⟩
 rw [← hu] at HU ⊢
 have hGl:G<w1.heap.size:=HK.out.lt
 clear hk hk' hb1 h hM hu
 rcases (show plen q=1∨plen q=2∨plen q=3 by omega) with e1 | e1 | e1
 ·have Hsp:=Lib.hid (show spl q=[] by unfold spl;rw [if_pos (by omega)])
  rw [e1,← hG]
  clear h0 e1 hp3 hG
  go_wp2
  refine bodyPost_ret (v:=.tuple #[.int .i64 u,.slice none 0 0]) (by simp [results,Tryz.results53,go_sem]) rfl ⟨⟨u,none,0,0,rfl,HU.out.1,HU.out.2,by rw [Hsp.out];exact ⟨rfl,Nat.le_refl _,.inl ⟨rfl,rfl,rfl⟩⟩⟩,Hb.out⟩
 ·have Hsp:=Lib.hid (show spl q=[nrm q] by unfold spl;rw [if_neg (by omega),if_pos e1])
  have HA:=Lib.hid (show I64At w1 (some ⟨G,0,none⟩) 2 2 (nrm q) by have:=HK.out.at_ (cap:=2) (by rw [HL.out,e1];exact Nat.le_refl _);rwa [HL.out,e1] at this)
  rw [e1,← hG]
  clear h0 e1 hp3 hG
  go_wp2
  refine bodyPost_ret (v:=.tuple #[.int .i64 u,.slice (some ⟨w1.heap.size,0,none⟩) 1 1]) (by simp [results,Tryz.results53,go_sem]) rfl ⟨⟨u,_,_,_,rfl,HU.out.1,HU.out.2,by rw [Hsp.out];exact ps_one HA.out⟩,Hb.out.trans ((below_new _ _).mono Hb.out.size)⟩
 ·have HA:=Lib.hid (show I64At w1 (some ⟨G,0,none⟩) 3 3 (nrm q) by have:=HK.out.at_ (cap:=3) (by rw [HL.out,e1];exact Nat.le_refl _);rwa [HL.out,e1] at this)
  have SN:=Lib.hid (show ∀ hn:(∀ s:Nat,(s:Int)*(s:Int)≠dsc (nrm q)),spl q=[nrm q] from fun hn=>by unfold spl;rw [if_neg (by omega),if_neg (by omega),sqd_none hn])
  have SS:=Lib.hid (show ∀ s:Nat,(s:Int)*(s:Int)=dsc (nrm q)→spl q=[lin1 (nrm q) (-(s:Int)),lin1 (nrm q) (s:Int)] from fun s hs=>by unfold spl;rw [if_neg (by omega),if_neg (by omega),sqd_some hs])
  have hln:(nrm q).length=3:=by rw [HL.out,e1]
  have hpos:0<(nrm q).getD 2 0:=by have:=nrm_lead h0;rwa [e1] at this
  have c0:=HK.out.cell (i:=0) (by omega)
  have c1:=HK.out.cell (i:=1) (by omega)
  have c2:=HK.out.cell (i:=2) (by omega)
  have b0:=HM.out 0
  have b1:=HM.out 1
  have b2:=HM.out 2
  obtain ⟨x0,hx0⟩:∃ x,x=(nrm q).getD 0 0:=⟨_,rfl⟩
  obtain ⟨x1,hx1⟩:∃ x,x=(nrm q).getD 1 0:=⟨_,rfl⟩
  obtain ⟨x2,hx2⟩:∃ x,x=(nrm q).getD 2 0:=⟨_,rfl⟩
  rw [← hx0] at c0 b0
  rw [← hx1] at c1 b1
  rw [← hx2] at c2 b2 hpos
  have HX:=Lib.hid (And.intro hx0 (And.intro hx1 hx2))
  obtain ⟨y1,hy1⟩:∃ y,y=x1*x1:=⟨_,rfl⟩
  obtain ⟨y2,hy2⟩:∃ y,y=4*x2:=⟨_,rfl⟩
  obtain ⟨y3,hy3⟩:∃ y,y=y2*x0:=⟨_,rfl⟩
  have m1:y1.natAbs≤81:=by rw [hy1,Int.natAbs_mul];exact Nat.mul_le_mul b1 b1
  have m3:y3.natAbs≤36*9:=by rw [hy3,Int.natAbs_mul];exact Nat.mul_le_mul (by omega) b0
  have i1:IntKind.i64.wrap y1=y1:=IntWalk.i64_in _ (by omega)
  have i2:IntKind.i64.wrap y2=y2:=IntWalk.i64_in _ (by omega)
  have i3:IntKind.i64.wrap y3=y3:=IntWalk.i64_in _ (by omega)
  have i4:IntKind.i64.wrap (y1-y3)=y1-y3:=IntWalk.i64_in _ (by omega)
  have f1:x1*x1=y1:=hy1.symm
  have f2:4*x2=y2:=hy2.symm
  have f3:y2*x0=y3:=hy3.symm
  have HD:=Lib.hid (show dsc (nrm q)=y1-y3 by unfold dsc;rw [← hx0,← hx1,← hx2,f1,f2,f3])
  rw [e1,← hG]
  clear hx0 hx1 hx2 hy1 hy2 hy3 e1 h0 hp3 hG hln
  go_wp2_with fail
  refine wp_region_held_drew (S:=fun w'=>w'.cell? ⟨G,0,none⟩=some (.int .i64 x0)∧w'.cell? ⟨G,1,none⟩=some (.int .i64 x1)∧w'.cell? ⟨G,2,none⟩=some (.int .i64 x2)) (by kernel_rfl) (by (try dsimp only);go_keep) (fun hHeld=>?_)
  (refine tk (i:=0) (v:=?_) rfl rfl (Or.inl ⟨by rfl,?_⟩) ?_;rotate_left;(focus (intro w hSw;(try dsimp only at hSw);go_simp;(try with_reducible rfl)));(simp only [put_lit,List.set]))
  (refine tk (i:=1) (v:=?_) rfl rfl (Or.inl ⟨by rfl,?_⟩) ?_;rotate_left;(focus (intro w hSw;(try dsimp only at hSw);go_simp;(try with_reducible rfl)));(simp only [put_lit,List.set]))
  (refine tk (i:=2) (v:=?_) rfl rfl (Or.inl ⟨by rfl,?_⟩) ?_;rotate_left;(focus (intro w hSw;(try dsimp only at hSw);go_simp;(try with_reducible rfl)));(simp only [put_lit,List.set]))
  (refine tk (i:=3) (v:=?_) rfl rfl (Or.inl ⟨by rfl,?_⟩) ?_;rotate_left;(focus (intro w hSw;(try dsimp only at hSw);go_simp;(try with_reducible rfl)));(simp only [put_lit,List.set]))
  (refine tk (i:=4) (v:=?_) rfl rfl (Or.inl ⟨by rfl,?_⟩) ?_;rotate_left;(focus (intro w hSw;(try dsimp only at hSw);go_simp;(try with_reducible rfl)));(simp only [put_lit,List.set]))
  (refine tk (i:=5) (v:=?_) rfl rfl (Or.inl ⟨by rfl,?_⟩) ?_;rotate_left;(focus (intro w hSw;(try dsimp only at hSw);go_simp;(try with_reducible rfl)));(simp only [put_lit,List.set]))
  (refine tk (i:=6) (v:=?_) rfl rfl (Or.inl ⟨by rfl,?_⟩) ?_;rotate_left;(focus (intro w hSw;(try dsimp only at hSw);go_simp;(try with_reducible rfl)));(simp only [put_lit,List.set]))
  (refine tk (i:=7) (v:=?_) rfl rfl (Or.inl ⟨by rfl,?_⟩) ?_;rotate_left;(focus (intro w hSw;(try dsimp only at hSw);go_simp;(try with_reducible rfl)));(simp only [put_lit,List.set]))
  (refine tk (i:=8) (v:=?_) rfl rfl (Or.inl ⟨by rfl,?_⟩) ?_;rotate_left;(focus (intro w hSw;(try dsimp only at hSw);go_simp;(try with_reducible rfl)));(simp only [put_lit,List.set]))
  (refine tk (i:=9) (v:=?_) rfl rfl (Or.inl ⟨by rfl,?_⟩) ?_;rotate_left;(focus (intro w hSw;(try dsimp only at hSw);go_simp;(try with_reducible rfl)));(simp only [put_lit,List.set]))
  (refine tk (i:=10) (v:=?_) rfl rfl (Or.inl ⟨by rfl,?_⟩) ?_;rotate_left;(focus (intro w hSw;(try dsimp only at hSw);go_simp;(try with_reducible rfl)));(simp only [put_lit,List.set]))
  (refine tk (i:=11) (v:=?_) rfl rfl (Or.inl ⟨by rfl,?_⟩) ?_;rotate_left;(focus (intro w hSw;(try dsimp only at hSw);go_simp;(try with_reducible rfl)));(simp only [put_lit,List.set]))
  (refine tk (i:=12) (v:=?_) rfl rfl (Or.inl ⟨by rfl,?_⟩) ?_;rotate_left;(focus (intro w hSw;(try dsimp only at hSw);go_simp;(try with_reducible rfl)));(simp only [put_lit,List.set]))
  (refine tk (i:=13) (v:=?_) rfl rfl (Or.inl ⟨by rfl,?_⟩) ?_;rotate_left;(focus (intro w hSw;(try dsimp only at hSw);go_simp;(try with_reducible rfl)));(simp only [put_lit,List.set]))
  (refine tk (i:=14) (v:=?_) rfl rfl (Or.inl ⟨by rfl,?_⟩) ?_;rotate_left;(focus (intro w hSw;(try dsimp only at hSw);go_simp;(try with_reducible rfl)));(simp only [put_lit,List.set]))
  (refine tk (i:=15) (v:=?_) rfl rfl (Or.inl ⟨by rfl,?_⟩) ?_;rotate_left;(focus (intro w hSw;(try dsimp only at hSw);go_simp;(try with_reducible rfl)));(simp only [put_lit,List.set]))
  (refine wpAnyH_ready (rs:=[16]) (by kernel_rfl) (by simp) ?_;refine AllReadyH.cons rfl (fun K hK=>?_) AllReadyH.nil;go_simp)
  refine (iroot_any (y1-y3) _ (by omega)).mono ?_
  rintro e w5 ⟨⟨s,rfl,hs,hsn,hst⟩,hw5⟩
  generalize hB:decide (0≤y1-y3∧(s:Int)*(s:Int)=y1-y3)=B
  have HB:=Lib.hid hB
  clear hB
  obtain rfl:=hw5
  have hsl:(s:Int)≤1000:=by omega
  refine hK.out _ _ ?_ (fun _=>?_);(focus ((try dsimp only);go_keep));clear hHeld hK K;rename_i hHeld;(try (simp only [put_lit,List.set]))
  (refine tk (i:=17) (v:=?_) rfl rfl (Or.inl ⟨by rfl,?_⟩) ?_;rotate_left;(focus (intro w hSw;(try dsimp only at hSw);go_simp;(try with_reducible rfl)));(simp only [put_lit,List.set]))
  (refine tk (i:=18) (v:=?_) rfl rfl (Or.inl ⟨by rfl,?_⟩) ?_;rotate_left;(focus (intro w hSw;(try dsimp only at hSw);go_simp;(try with_reducible rfl)));(simp only [put_lit,List.set]))
  (refine tk (i:=19) (v:=?_) rfl rfl (Or.inl ⟨by rfl,?_⟩) ?_;rotate_left;(focus (intro w hSw;(try dsimp only at hSw);go_simp;(try with_reducible rfl)));(simp only [put_lit,List.set]))
  (refine tk (i:=20) (v:=?_) rfl rfl (Or.inl ⟨by rfl,?_⟩) ?_;rotate_left;(focus (intro w hSw;(try dsimp only at hSw);go_simp;(try with_reducible rfl)));(simp only [put_lit,List.set]))
  (refine tk (i:=21) (v:=?_) rfl rfl (Or.inl ⟨by rfl,?_⟩) ?_;rotate_left;(focus (intro w hSw;(try dsimp only at hSw);go_simp;(try with_reducible rfl)));(simp only [put_lit,List.set]))
  refine wpAnyH_done (by kernel_rfl) ?_ _
  by_cases hbt:B=true
  ·subst hbt
   have hok:=of_decide_eq_true HB.out
   clear HB
   have Hsp:=Lib.hid (SS.out s (hok.2.trans HD.out.symm))
   have hs20:s≤20:=by
    refine Nat.le_of_not_lt fun hlt=>?_
    have h1:21*21≤s*s:=Nat.mul_le_mul hlt hlt
    have h2:((s*s:Nat):Int)=y1-y3:=by rw [Int.natCast_mul];exact hok.2
    omega
   have HE1:=Lib.hid (show ([x1-(s:Int),2*x2]:List Int)=[(nrm q).getD 1 0 + -(s:Int),2*(nrm q).getD 2 0] by rw [← HX.out.2.1,← HX.out.2.2];rfl)
   have HE2:=Lib.hid (show ([x1+(s:Int),2*x2]:List Int)=[(nrm q).getD 1 0+(s:Int),2*(nrm q).getD 2 0] by rw [← HX.out.2.1,← HX.out.2.2])
   have P1:=Lib.hid (show plen [x1-(s:Int),2*x2]=2 by rw [plen_cons_succ (by rw [plen_cons_one rfl (by omega)];omega),plen_cons_one rfl (by omega)])
   have P2:=Lib.hid (show plen [x1+(s:Int),2*x2]=2 by rw [plen_cons_succ (by rw [plen_cons_one rfl (by omega)];omega),plen_cons_one rfl (by omega)])
   have j1:IntKind.i64.wrap (x1-(s:Int))=x1-(s:Int):=IntWalk.i64_in _ (by omega)
   have j2:IntKind.i64.wrap (x1+(s:Int))=x1+(s:Int):=IntWalk.i64_in _ (by omega)
   have j3:IntKind.i64.wrap (2*x2)=2*x2:=IntWalk.i64_in _ (by omega)
   have D1:=Lib.hid (show ∀ j,(([x1-(s:Int),2*x2]:List Int).getD j 0).natAbs≤2305843009213693952 from fun j=>gd2 (by omega) (by omega) j)
   have D2:=Lib.hid (show ∀ j,(([x1+(s:Int),2*x2]:List Int).getD j 0).natAbs≤2305843009213693952 from fun j=>gd2 (by omega) (by omega) j)
   clear hok hHeld c0 HX hst hsn i1 i2 i3 i4 f1 f2 f3 m1 m3 b0 hsl HD SN SS
   go_wp2_with fail
   refine wp_region_held_drew (S:=fun w'=>w'.cell? ⟨G,1,none⟩=some (.int .i64 x1)∧w'.cell? ⟨G,2,none⟩=some (.int .i64 x2)) (by kernel_rfl) (by (try dsimp only);go_keep) (fun hHeld=>?_)
   (refine tk (i:=0) (v:=?_) rfl rfl (Or.inl ⟨by rfl,?_⟩) ?_;rotate_left;(focus (intro w hSw;(try dsimp only at hSw);go_simp;(try with_reducible rfl)));(simp only [put_lit,List.set]))
   (refine tk (i:=1) (v:=?_) rfl rfl (Or.inl ⟨by rfl,?_⟩) ?_;rotate_left;(focus (intro w hSw;(try dsimp only at hSw);go_simp;(try with_reducible rfl)));(simp only [put_lit,List.set]))
   (refine tk (i:=2) (v:=?_) rfl rfl (Or.inl ⟨by rfl,?_⟩) ?_;rotate_left;(focus (intro w hSw;(try dsimp only at hSw);go_simp;(try with_reducible rfl)));(simp only [put_lit,List.set]))
   (refine tk (i:=3) (v:=?_) rfl rfl (Or.inl ⟨by rfl,?_⟩) ?_;rotate_left;(focus (intro w hSw;(try dsimp only at hSw);go_simp;(try with_reducible rfl)));(simp only [put_lit,List.set]))
   (refine tk (i:=4) (v:=?_) rfl rfl (Or.inl ⟨by rfl,?_⟩) ?_;rotate_left;(focus (intro w hSw;(try dsimp only at hSw);go_simp;(try with_reducible rfl)));(simp only [put_lit,List.set]))
   (refine tk (i:=5) (v:=?_) rfl rfl (Or.inl ⟨by rfl,?_⟩) ?_;rotate_left;(focus (intro w hSw;(try dsimp only at hSw);go_simp;(try with_reducible rfl)));(simp only [put_lit,List.set]))
   (refine tk (i:=6) (v:=?_) rfl rfl (Or.inl ⟨by rfl,?_⟩) ?_;rotate_left;(focus (intro w hSw;(try dsimp only at hSw);go_simp;(try with_reducible rfl)));(simp only [put_lit,List.set]))
   (refine tk (i:=7) (v:=?_) rfl rfl (Or.inl ⟨by rfl,?_⟩) ?_;rotate_left;(focus (intro w hSw;(try dsimp only at hSw);go_simp;(try with_reducible rfl)));(simp only [put_lit,List.set]))
   (refine tk (i:=8) (v:=?_) rfl rfl (Or.inl ⟨by rfl,?_⟩) ?_;rotate_left;(focus (intro w hSw;(try dsimp only at hSw);go_simp;(try with_reducible rfl)));(simp only [put_lit,List.set]))
   refine wpAnyH_ready (rs:=[9]) (by kernel_rfl) (by simp) ?_;refine AllReadyH.cons rfl (fun K hK=>?_) AllReadyH.nil;go_simp;refine hK.out _ _ ?_ (fun _=>?_);(focus ((try dsimp only);go_keep));clear hHeld hK K;rename_i hHeld;(try (simp only [put_lit,List.set]))
   (refine wpAnyH_ready (rs:=[10]) (by kernel_rfl) (by simp) ?_;refine AllReadyH.cons rfl (fun K hK=>?_) AllReadyH.nil;go_simp)
   refine (rnrm_two _ _ _ [x1-(s:Int),2*x2] _ ((I64At.two w1 _ _).below Bel.go) (by omega) P1.out D1.out).mono ?_
   rintro e w5 ⟨⟨A5,rfl,h5⟩,hb5⟩
   have hb15:Below w1.heap.size w1 w5:=(Below.trans Bel.go (hb5.mono (by simp<;>omega)))
   have H5:=Lib.hid h5
   have c1':=(hb15.cell (p:=⟨G,1,none⟩) hGl).trans c1
   have c2':=(hb15.cell (p:=⟨G,2,none⟩) hGl).trans c2
   have hG5:G<w5.heap.size:=Nat.lt_of_lt_of_le hGl hb15.size
   have Hb5:=Lib.hid (Hb.out.trans (hb15.mono Hb.out.size))
   clear h5 hb15
   obtain ⟨hcx,hfx⟩:=bcellS hb5;refine hK.out _ _ ?_ (fun _=>?_);(focus (((try dsimp only);repeat' apply And.intro)<;>(rw [hcx _ (by go_simp)];go_simp)));clear hHeld hK K hcx hfx;rename_i hHeld;clear hb5
   (refine tk (i:=11) (v:=?_) rfl rfl (Or.inl ⟨by rfl,?_⟩) ?_;rotate_left;(focus (intro w hSw;(try dsimp only at hSw);go_simp;(try with_reducible rfl)));(simp only [put_lit,List.set]))
   (refine tk (i:=12) (v:=?_) rfl rfl (Or.inl ⟨by rfl,?_⟩) ?_;rotate_left;(focus (intro w hSw;(try dsimp only at hSw);go_simp;(try with_reducible rfl)));(simp only [put_lit,List.set]))
   (refine tk (i:=13) (v:=?_) rfl rfl (Or.inl ⟨by rfl,?_⟩) ?_;rotate_left;(focus (intro w hSw;(try dsimp only at hSw);go_simp;(try with_reducible rfl)));(simp only [put_lit,List.set]))
   (refine tk (i:=14) (v:=?_) rfl rfl (Or.inl ⟨by rfl,?_⟩) ?_;rotate_left;(focus (intro w hSw;(try dsimp only at hSw);go_simp;(try with_reducible rfl)));(simp only [put_lit,List.set]))
   (refine tk (i:=15) (v:=?_) rfl rfl (Or.inl ⟨by rfl,?_⟩) ?_;rotate_left;(focus (intro w hSw;(try dsimp only at hSw);go_simp;(try with_reducible rfl)));(simp only [put_lit,List.set]))
   refine wpAnyH_done (by kernel_rfl) ?_ _
   clear hHeld c1 c2 hGl
   go_wp2_with fail
   refine wp_region_held_drew (S:=fun w'=>w'.cell? ⟨G,1,none⟩=some (.int .i64 x1)∧w'.cell? ⟨G,2,none⟩=some (.int .i64 x2)) (by kernel_rfl) (by (try dsimp only);go_keep) (fun hHeld=>?_)
   (refine tk (i:=0) (v:=?_) rfl rfl (Or.inl ⟨by rfl,?_⟩) ?_;rotate_left;(focus (intro w hSw;(try dsimp only at hSw);go_simp;(try with_reducible rfl)));(simp only [put_lit,List.set]))
   (refine tk (i:=1) (v:=?_) rfl rfl (Or.inl ⟨by rfl,?_⟩) ?_;rotate_left;(focus (intro w hSw;(try dsimp only at hSw);go_simp;(try with_reducible rfl)));(simp only [put_lit,List.set]))
   (refine tk (i:=2) (v:=?_) rfl rfl (Or.inl ⟨by rfl,?_⟩) ?_;rotate_left;(focus (intro w hSw;(try dsimp only at hSw);go_simp;(try with_reducible rfl)));(simp only [put_lit,List.set]))
   (refine tk (i:=3) (v:=?_) rfl rfl (Or.inl ⟨by rfl,?_⟩) ?_;rotate_left;(focus (intro w hSw;(try dsimp only at hSw);go_simp;(try with_reducible rfl)));(simp only [put_lit,List.set]))
   (refine tk (i:=4) (v:=?_) rfl rfl (Or.inl ⟨by rfl,?_⟩) ?_;rotate_left;(focus (intro w hSw;(try dsimp only at hSw);go_simp;(try with_reducible rfl)));(simp only [put_lit,List.set]))
   (refine tk (i:=5) (v:=?_) rfl rfl (Or.inl ⟨by rfl,?_⟩) ?_;rotate_left;(focus (intro w hSw;(try dsimp only at hSw);go_simp;(try with_reducible rfl)));(simp only [put_lit,List.set]))
   (refine tk (i:=6) (v:=?_) rfl rfl (Or.inl ⟨by rfl,?_⟩) ?_;rotate_left;(focus (intro w hSw;(try dsimp only at hSw);go_simp;(try with_reducible rfl)));(simp only [put_lit,List.set]))
   (refine tk (i:=7) (v:=?_) rfl rfl (Or.inl ⟨by rfl,?_⟩) ?_;rotate_left;(focus (intro w hSw;(try dsimp only at hSw);go_simp;(try with_reducible rfl)));(simp only [put_lit,List.set]))
   (refine tk (i:=8) (v:=?_) rfl rfl (Or.inl ⟨by rfl,?_⟩) ?_;rotate_left;(focus (intro w hSw;(try dsimp only at hSw);go_simp;(try with_reducible rfl)));(simp only [put_lit,List.set]))
   refine wpAnyH_ready (rs:=[9]) (by kernel_rfl) (by simp) ?_;refine AllReadyH.cons rfl (fun K hK=>?_) AllReadyH.nil;go_simp;refine hK.out _ _ ?_ (fun _=>?_);(focus ((try dsimp only);go_keep));clear hHeld hK K;rename_i hHeld;(try (simp only [put_lit,List.set]))
   (refine wpAnyH_ready (rs:=[10]) (by kernel_rfl) (by simp) ?_;refine AllReadyH.cons rfl (fun K hK=>?_) AllReadyH.nil;go_simp)
   refine (rnrm_two _ _ _ [x1+(s:Int),2*x2] _ ((I64At.two w5 _ _).below Bel.go) (by omega) P2.out D2.out).mono ?_
   rintro e w6 ⟨⟨A6,rfl,h6⟩,hb6⟩
   have hb56:Below w5.heap.size w5 w6:=(Below.trans Bel.go (hb6.mono (by simp<;>omega)))
   have H6:=Lib.hid h6
   have H56:=Lib.hid (H5.out.below hb56)
   have Hb6:=Lib.hid (Hb5.out.trans (hb56.mono Hb5.out.size))
   clear h6 hb56
   obtain ⟨hcx,hfx⟩:=bcellS hb6;refine hK.out _ _ ?_ (fun _=>?_);(focus (((try dsimp only);repeat' apply And.intro)<;>(rw [hcx _ (by go_simp)];go_simp)));clear hHeld hK K hcx hfx;rename_i hHeld;clear hb6
   (refine tk (i:=11) (v:=?_) rfl rfl (Or.inl ⟨by rfl,?_⟩) ?_;rotate_left;(focus (intro w hSw;(try dsimp only at hSw);go_simp;(try with_reducible rfl)));(simp only [put_lit,List.set]))
   (refine tk (i:=12) (v:=?_) rfl rfl (Or.inl ⟨by rfl,?_⟩) ?_;rotate_left;(focus (intro w hSw;(try dsimp only at hSw);go_simp;(try with_reducible rfl)));(simp only [put_lit,List.set]))
   (refine tk (i:=13) (v:=?_) rfl rfl (Or.inl ⟨by rfl,?_⟩) ?_;rotate_left;(focus (intro w hSw;(try dsimp only at hSw);go_simp;(try with_reducible rfl)));(simp only [put_lit,List.set]))
   (refine tk (i:=14) (v:=?_) rfl rfl (Or.inl ⟨by rfl,?_⟩) ?_;rotate_left;(focus (intro w hSw;(try dsimp only at hSw);go_simp;(try with_reducible rfl)));(simp only [put_lit,List.set]))
   (refine tk (i:=15) (v:=?_) rfl rfl (Or.inl ⟨by rfl,?_⟩) ?_;rotate_left;(focus (intro w hSw;(try dsimp only at hSw);go_simp;(try with_reducible rfl)));(simp only [put_lit,List.set]))
   refine wpAnyH_done (by kernel_rfl) ?_ _
   clear hHeld c1' c2' hG5
   go_wp2
   have HF:=Lib.hid (show spl q=[nrm [x1-(s:Int),2*x2],nrm [x1+(s:Int),2*x2]] by rw [Hsp.out,HE1.out,HE2.out];rfl)
   refine bodyPost_ret (v:=.tuple #[.int .i64 u,.slice (some ⟨w6.heap.size,0,none⟩) 2 2]) (by simp [results,Tryz.results53,go_sem]) rfl ⟨⟨u,_,_,_,rfl,HU.out.1,HU.out.2,by rw [HF.out];exact ps_below (ps_two H56.out H6.out) Bel.go⟩,Hb6.out.trans ((below_new _ _).mono Hb6.out.size)⟩
  ·obtain rfl:B=false:=by simpa using hbt
   have hok:=of_decide_eq_false HB.out
   clear HB hbt
   have Hsp:=Lib.hid (SN.out fun t ht=>by
    rw [HD.out] at ht
    rcases Nat.lt_trichotomy t s with c | c | c
    ·have:=hst t c;omega
    ·subst c
     exact hok ⟨by rw [← ht];exact Int.mul_nonneg (by omega) (by omega),ht⟩
    ·have h1:s*s<t*t:=Nat.mul_self_lt_mul_self c
     have h2:((s*s:Nat):Int)<((t*t:Nat):Int):=by omega
     rw [Int.natCast_mul,Int.natCast_mul] at h2
     omega)
   clear hok hHeld c0 c1 c2 HX hst hsn
   go_wp2
   refine bodyPost_ret (v:=.tuple #[.int .i64 u,.slice (some ⟨w1.heap.size,0,none⟩) 1 1]) (by simp [results,Tryz.results53,go_sem]) rfl ⟨⟨u,_,_,_,rfl,HU.out.1,HU.out.2,by rw [Hsp.out];exact ps_below (ps_one HA.out) ((Below.refl _ _).drew)⟩,Hb.out.trans (((below_new _ _).mono Hb.out.size).drew)⟩
theorem rmul_comm (f g:List Int):rmul f g=rmul g f:=by
 rw [← rmul_trim f g,← rmul_trim g f]
 exact ptrim_ext fun k=>by
  rw [rmul_get,rmul_get]
  have h:∀ t,ev (polymul f g) t=ev (polymul g f) t:=fun t=>by rw [ev_mul,ev_mul,Int.mul_comm]
  have:=ev_inj h k
  rwa [polymul_getD,polymul_getD] at this
theorem rmul_bd3 {f g:List Int} {X Y:Nat} (hg3:g.length≤3) (hf:∀ j,(f.getD j 0).natAbs≤X) (hg:∀ j,(g.getD j 0).natAbs≤Y) (k:Nat):((rmul f g).getD k 0).natAbs≤3*(Y*X):=by
 rw [rmul_comm,rmul_get]
 have key:∀ m,(pcs g f k m).natAbs≤min m 3*(Y*X):=fun m=>by
  induction m with
  | zero=>exact Nat.zero_le _
  | succ m ih =>
    rw [pcs]
    by_cases h:m<3
    ·have h2:(g.getD m 0*f.getD (k-m) 0).natAbs≤Y*X:=by rw [Int.natAbs_mul];exact Nat.mul_le_mul (hg m) (hf (k-m))
     have h3:=Int.natAbs_add_le (pcs g f k m) (g.getD m 0*f.getD (k-m) 0)
     rw [Nat.min_eq_left (by omega)] at ih ⊢
     rw [Nat.succ_mul]
     omega
    ·rw [getD_out g (by omega),Int.zero_mul,Int.add_zero]
     rw [Nat.min_eq_right (by omega)] at ih ⊢
     exact ih
 unfold pc
 refine Nat.le_trans (key _) (Nat.mul_le_mul_right _ (Nat.min_le_right _ _))
theorem sma_abs {q:List Int} (h3:q.length=3) (h:Sma q) (j:Nat):(q.getD j 0).natAbs≤9:=by
 by_cases c:j<3
 ·have:=h j c
  omega
 ·rw [getD_out q (by omega)]
  exact Nat.zero_le _
def Tri (qs:List (List Int)):Prop:=∀ q∈qs,q.length=3∧Sma q
theorem prodf_app (P:List Int):∀ (qs:List (List Int)) (q:List Int),prodf P (qs ++ [q])=rmul (prodf P qs) q:=fun qs q=>by
 induction qs generalizing P with
 | nil=>rfl
 | cons r rs ih=>exact ih _
theorem prodf_bd:∀ (qs:List (List Int)) (P:List Int) (X:Nat),Tri qs→(∀ j,(P.getD j 0).natAbs≤X)→∀ j,((prodf P qs).getD j 0).natAbs≤27^qs.length*X
 | [],P,X,_,h,j=>by show (P.getD j 0).natAbs≤27^0*X;rw [Nat.pow_zero,Nat.one_mul];exact h j
 | q :: qs,P,X,ht,h,j=>by
   have hq:=ht q List.mem_cons_self
   have h1:=prodf_bd qs (rmul P q) (27*X) (fun r hr=>ht r (List.mem_cons_of_mem _ hr)) (fun k=>by
    have:=rmul_bd3 (X:=X) (Y:=9) (Nat.le_of_eq hq.1) h (sma_abs hq.1 hq.2) k
    omega) j
   show ((prodf (rmul P q) qs).getD j 0).natAbs≤27^(qs.length+1)*X
   rw [Nat.pow_succ,Nat.mul_assoc]
   exact h1
theorem prodf_len:∀ (qs:List (List Int)) (P:List Int) (a:Nat),Tri qs→plen P≤a+1→P.length≤a+1→(prodf P qs).length≤a+2*qs.length+1
 | [],P,a,_,_,h=>h
 | q :: qs,P,a,ht,h,_=>by
   have hq:=ht q List.mem_cons_self
   have h1:(rmul P q).length≤a+2+1:=rmul_len h (by have:=plen_le q;have:=hq.1;omega)
   have h2:=prodf_len qs (rmul P q) (a+2) (fun r hr=>ht r (List.mem_cons_of_mem _ hr)) (by have:=plen_le (rmul P q);omega) h1
   show (prodf (rmul P q) qs).length≤a+2*(qs.length+1)+1
   omega
theorem prodf_trim:∀ (qs:List (List Int)) (P:List Int),ptrim P=P→ptrim (prodf P qs)=prodf P qs
 | [],_,h=>h
 | q :: qs,_,_=>prodf_trim qs (rmul _ q) (rmul_trim _ q)
theorem one_abs (j:Nat):(([1]:List Int).getD j 0).natAbs≤1:=by
 match j with
 | 0=>exact Nat.le_refl _
 | j+1=>exact Nat.zero_le _
set_option maxRecDepth 100000 in
set_option maxHeartbeats 4000000 in
theorem fprod_any {w:World} {A:Option Addr} {la ca:Nat} {qs:List (List Int)} (h:TrAt w A la ca qs) (hl:la≤5) (ht:Tri qs) :
 Calls Tryz.prog 15 #[.slice A la ca] w fun e w'=>(∃ A' l' c',e=.returned (.slice A' l' c')∧I64At w' A' l' c' (prodf [1] qs))∧Below w.heap.size w w':=by
 have H:=Lib.hid h
 have Hl:=Lib.hid h.length
 have HT:=Lib.hid ht
 clear h ht
 go_enter Tryz.func15,Tryz.ntmps15
 go_wp2
 go_loopw [3,4] (fun s3 s4 wr=>∃ (i:Nat) (A':Option Addr) (l' c':Nat),i≤la∧s3=.slice A' l' c'∧s4=.int .i64 (i:Int)∧I64At wr A' l' c' (prodf [1] (qs.take i))∧Below w.heap.size w wr) (fun _ s4 _=>la-(intOf s4).toNat)
 case atStart=>exact ⟨0,_,_,_,Nat.zero_le _,rfl,rfl,I64At.one _ _,Bel.go⟩
 case round =>
  obtain ⟨i,A',l',c',hi,rfl,rfl,hat,hbw⟩:=hrel
  obtain ⟨wo,rfl⟩:∃ wo:World,wo=wr:=⟨_,rfl⟩
  have Hat:=Lib.hid hat
  have Hbw:=Lib.hid hbw
  by_cases hlt:i<la
  ·have Hlt:=Lib.hid hlt
   obtain ⟨b,o,rfl,hbl,hc⟩:=(H.out.below hbw).at (by omega)
   have hq:=HT.out (qs.getD i []) (by rw [List.getD_eq_getElem?_getD,List.getElem?_eq_getElem (by rw [Hl.out];exact hlt)];exact List.getElem_mem _)
   have e0:=hc i hlt 0 (by omega)
   have e1:=hc i hlt 1 (by omega)
   have e2:=hc i hlt 2 (by omega)
   rw [Nat.add_zero] at e0
   have hl3:=list3 hq.1
   have s0:=hq.2 0 (by omega)
   have s1:=hq.2 1 (by omega)
   have s2:=hq.2 2 (by omega)
   have HA:=Lib.hid (sma_abs hq.1 hq.2)
   have HN:=Lib.hid (show prodf [1] (qs.take (i+1))=rmul (prodf [1] (qs.take i)) (qs.getD i []) by rw [List.take_add_one,List.getElem?_eq_getElem (by rw [Hl.out];exact hlt),Option.toList_some,prodf_app,List.getD_eq_getElem?_getD,List.getElem?_eq_getElem (by rw [Hl.out];exact hlt)];rfl)
   obtain ⟨x0,hx0⟩:∃ x,x=(qs.getD i []).getD 0 0:=⟨_,rfl⟩
   obtain ⟨x1,hx1⟩:∃ x,x=(qs.getD i []).getD 1 0:=⟨_,rfl⟩
   obtain ⟨x2,hx2⟩:∃ x,x=(qs.getD i []).getD 2 0:=⟨_,rfl⟩
   rw [← hx0] at e0 s0 hl3
   rw [← hx1] at e1 s1 hl3
   rw [← hx2] at e2 s2 hl3
   rw [hl3] at HN HA
   have ti:(i:Int)<(la:Int):=by omega
   have tw:IntKind.i64.wrap ((i:Int)+1)=(i:Int)+1:=IntWalk.i64_in _ (by omega)
   have HTI:=Lib.hid (show Tri (qs.take i) from fun q h=>HT.out q (List.mem_of_mem_take h))
   have HLI:=Lib.hid (show (qs.take i).length≤5 by rw [List.length_take];omega)
   clear hx0 hx1 hx2 hc hq hl3 hat hbw
   clear hi hlt
   go_wp2_with fail
   refine (wid_any x0 x1 x2 _ ⟨by omega,by omega⟩ ⟨by omega,by omega⟩ ⟨by omega,by omega⟩).mono ?_
   rintro e w1 ⟨A1,c1,rfl,h1,hb1⟩
   have H1:=Lib.hid h1
   have hat1:=Lib.hid (Hat.out.below hb1)
   replace Hbw:=Lib.hid (Hbw.out.trans (hb1.mono Hbw.out.size))
   have hll:=Lib.hid (show l'≤1000 by rw [← Hat.out.length];have:=prodf_len _ [1] 0 HTI.out (by decide) (by decide);have:=HLI.out;omega)
   clear hb1 h1
   go_wp2_with fail
   refine (rmul_any _ _ _ (prodf [1] (qs.take i)) _ _ _ [x0,x1,x2] _ hat1.out H1.out hll.out (by omega) (X:=27^5) (Y:=9) (fun j=>by
    have h:=prodf_bd _ [1] 1 HTI.out one_abs j
    have h2:27^(qs.take i).length≤27^5:=Nat.pow_le_pow_right (by decide) HLI.out
    omega) HA.out (by decide)).mono ?_
   rintro e w2 ⟨A2,l2,c2,rfl,h2,_,hb2⟩
   have H2:=Lib.hid h2
   replace Hbw:=Lib.hid (Hbw.out.trans (hb2.mono Hbw.out.size))
   clear hb2 h2
   go_wp2
   go_roundw
   case rel=>exact ⟨i+1,_,_,_,Hlt.out,rfl,by go_num,by rw [HN.out];exact H2.out,Hbw.out⟩
   case measure=>have:=Hlt.out;simp [intOf];omega
  ·have ti:¬ (i:Int)<(la:Int):=by omega
   have HE:=Lib.hid (show qs.take i=qs by rw [List.take_of_length_le (by rw [Hl.out];omega)])
   clear hat hbw hi hlt
   go_wp2
   go_ret
   exact ⟨⟨_,_,_,rfl,by rw [← HE.out];exact Hat.out⟩,Hbw.out⟩
end Go.Proofs.YtipocabbjinbhaaGreat
namespace Go.Proofs.YtipocabbjinbhaaGreat
open Go Go.RowKit
def FcE (w:World) (f:List Int×Nat) (vs:List Value):Prop:=∃ A l c,vs=[.slice A l c,.int .i64 (f.2:Int)]∧I64At w A l c f.1
theorem FcE.below {w w':World} {f:List Int×Nat} {vs:List Value} (h:FcE w f vs) (hb:Below w.heap.size w w'):FcE w' f vs:=by
 obtain ⟨A,l,c,e,h⟩:=h
 exact ⟨A,l,c,e,h.below hb⟩
abbrev FsAt (w:World) (A:Option Addr) (l c:Nat) (fs:List (List Int×Nat)):Prop:=SlE 2 FcE w A l c fs
theorem fs_below {w w':World} {A:Option Addr} {l c:Nat} {fs:List (List Int×Nat)} (h:FsAt w A l c fs) (hb:Below w.heap.size w w'):FsAt w' A l c fs:=h.below hb fun _ _ hx=>hx.below hb
theorem fce_len {w:World} {f:List Int×Nat} {vs:List Value} (h:FcE w f vs):vs.length=2:=by
 obtain ⟨A,l,c,e,h⟩:=h
 rw [e];rfl
theorem nd_i64 (n:Int):Nd (.int .i64 n):=⟨(by intro n h;cases h),rfl⟩
theorem nd_slc (A:Option Addr) (l c:Nat):Nd (.slice A l c):=⟨(by intro n h;cases h),rfl⟩
theorem fce_nd {w:World} {f:List Int×Nat} {vs:List Value} (h:FcE w f vs):∀ u∈vs,Nd u:=by
 obtain ⟨A,l,c,e,h⟩:=h
 intro u hu
 rw [e] at hu
 simp at hu
 rcases hu with rfl | rfl
 ·exact nd_slc _ _ _
 ·exact nd_i64 _
def RowF (w0 w:World) (g:Nat) (fs:List (List Int×Nat)):Prop:=∀ i,i<fs.length→∃ A l c,w.cell? ⟨g,i*2,none⟩=some (.slice A l c)∧w.cell? ⟨g,i*2+1,none⟩=some (.int .i64 ((fs.getD i ([],0)).2:Int))∧I64At w0 A l c (fs.getD i ([],0)).1
theorem getD_fs {fs:List (List Int×Nat)} {i:Nat} (h:i<fs.length):fs[i]?=some (fs.getD i ([],0)):=by
 rw [List.getD_eq_getElem?_getD,List.getElem?_eq_getElem h]
 rfl
theorem RowF.sle {w0 w:World} {g n c:Nat} {fs:List (List Int×Nat)} (h:RowF w0 w g fs) (hb:Below w0.heap.size w0 w) (hg:g<w.heap.size) (hn:fs.length=n) (hc:n≤c):FsAt w (some ⟨g,0,none⟩) n c fs:=by
 refine ⟨hn,hc,.inr ⟨g,0,rfl,hg,fun i x hx=>?_⟩⟩
 have hi:i<fs.length:=(List.getElem?_eq_some_iff.1 hx).1
 obtain ⟨A,l,c,h1,h2,h3⟩:=h i hi
 rw [getD_fs hi] at hx
 cases hx
 refine ⟨_,⟨A,l,c,rfl,h3.below hb⟩,fun j v hv=>?_⟩
 match j,hv with
 | 0,hv=>simp at hv;subst hv;rw [Nat.zero_add];exact h1
 | 1,hv=>simp at hv;subst hv;rw [Nat.zero_add];exact h2
 | j+2,hv=>simp at hv
theorem fs_lay {w:World} {A:Option Addr} {l c:Nat} {fs:List (List Int×Nat)} (h:FsAt w A l c fs) (hl:0<l):∃ b o us,A=some ⟨b,o,none⟩∧b<w.heap.size∧Lay (FcE w) fs us∧∀ (j:Nat) (u:Value),us[j]?=some u→w.cell? ⟨b,o+j,none⟩=some u:=by
 rcases h.elems with ⟨h0,_⟩ | ⟨b,o,e,hb,hv⟩
 ·omega
 ·have key:∀ (fs:List (List Int×Nat)) (o:Nat),(∀ (i:Nat) (x:List Int×Nat),fs[i]?=some x→∃ vs,FcE w x vs∧∀ (j:Nat) (v:Value),vs[j]?=some v→w.cell? ⟨b,o+i*2+j,none⟩=some v)→∃ us,Lay (FcE w) fs us∧∀ (j:Nat) (u:Value),us[j]?=some u→w.cell? ⟨b,o+j,none⟩=some u:=by
   intro fs
   induction fs with
   | nil=>intro o _;exact ⟨[],rfl,fun j u h=>by simp at h⟩
   | cons r rs ih =>
     intro o hv
     obtain ⟨vs,h1,h2⟩:=hv 0 r rfl
     obtain ⟨ws,h3,h4⟩:=ih (o+2) (fun i x hx=>by
      obtain ⟨us,g1,g2⟩:=hv (i+1) x (by simpa using hx)
      exact ⟨us,g1,fun j v hv=>by rw [show o+2+i*2+j=o+(i+1)*2+j by rw [Nat.add_mul];omega];exact g2 j v hv⟩)
     have hl:=fce_len h1
     refine ⟨vs ++ ws,⟨vs,ws,h1,rfl,h3⟩,fun j u hj=>?_⟩
     rcases Nat.lt_or_ge j 2 with c | c
     ·rw [List.getElem?_append_left (by omega)] at hj
      have:=h2 j u hj
      rwa [Nat.zero_mul,Nat.add_zero] at this
     ·rw [List.getElem?_append_right (by omega),hl] at hj
      have:=h4 _ u hj
      rwa [show o+2+(j-2)=o+j by omega] at this
  obtain ⟨us,h1,h2⟩:=key fs o hv
  exact ⟨b,o,us,e,hb,h1,h2⟩
theorem fs_nd {w:World}:∀ {fs:List (List Int×Nat)} {us:List Value},Lay (FcE w) fs us→∀ u∈us,Nd u
 | [],us,h,u,hu=>by rw [show us=[] from h] at hu;cases hu
 | r :: rs,us,⟨ws,vs,h1,h2,h3⟩,u,hu=>by
   rw [h2] at hu
   rcases List.mem_append.1 hu with hu | hu
   ·exact fce_nd h1 u hu
   ·exact fs_nd h3 u hu
theorem fac_row {w0 w:World} {t base:Nat} {v:Value} {us:List Value} {fs:List (List Int×Nat)} (h:OwnE Nd 2 t base w v us) (hl:Lay (FcE w0) fs us) (h0:0<fs.length):∃ g c cs,v=.slice (some ⟨g,0,none⟩) fs.length c∧fs.length≤c∧base≤g∧Blk w g t cs∧RowF w0 w g fs:=by
 have hul:=hl.len (E:=2) fun _ _ hx=>fce_len hx
 rcases h with ⟨e,_⟩ | ⟨g,n,cap,cs,e,hb,hun,hnc,huc,hk,hsz,hcs⟩
 ·rw [e] at hul;simp at hul;omega
 ·have:n=fs.length:=by omega
  subst this
  refine ⟨g,cap,cs,e,hnc,hb,hk,fun i hi=>?_⟩
  obtain ⟨vs,⟨A,l,c,rfl,h2⟩,h3⟩:=hl.get (E:=2) (fun _ _ hx=>fce_len hx) i _ (getD_fs hi)
  exact ⟨A,l,c,huc _ _ (h3 0 _ rfl),huc _ _ (h3 1 _ rfl),h2⟩
abbrev facZero:Value:=.agg #[.slice none 0 0,.int .i64 0]
theorem info_fac:(Tryz.prog.info? 66).map (fun i=>(i.zero,i.size,i.bytes))=some (some facZero,2,32):=by kernel_rfl
theorem fac_ndz:∀ j,j<2→Nd (facZero.cells[j]!):=fun j hj=>by
 match j,hj with
 | 0,_=>exact nd_slc _ _ _
 | 1,_=>exact nd_i64 _
theorem wpList_app_fac {w:World} {ops:Array Oper} {rest:List Oper} {o:Oper} {a:Act} {Q:Exit→Act→World→Prop} (hgd:o.guard=none) (s x:Operand)
 (ho:o.op=.call { callee:=.builtin .append,args:=#[s,x],argTypes:=#[25,25] })
 (base:Nat) (v:Value) (us vs:List Value) (hs:a.eval s=v) (hown:OwnE Nd 2 66 base w v us) (hB:base≤w.heap.size)
 (ax:Addr) (m c:Nat) (hx:a.eval x=.slice (some ax) m c) (hvl:vs.length=m*2) (hxc:∀ (j:Nat) (u:Value),vs[j]?=some u→w.cell? (ax.add j)=some u) (hvn:∀ u∈vs,Nd u) (hm:0<m∨v≠.slice none 0 0) (hn:us.length+vs.length≤100000000)
 (dd:Nat) (hdd:o.dst=some dd) (h:∀ v' w',GrE Nd 2 66 base w v us vs v' w'→wpList Tryz.prog ops Q rest (a.put (some dd) v') w') :
 wpList Tryz.prog ops Q (o :: rest) a w:=by
 obtain ⟨i0,hi,hz0,hz1,hz2⟩:=info_parts info_fac
 exact wpList_plain hgd fun _ hK'=>oper_append_own s x 25 66 ho 2 i0 facZero Tryz.underlying25 hi hz0 hz1 (by rw [hz2];omega) rfl Nd (fun _ h=>h) fac_ndz (by decide) base v us vs hs hown hB ax m c hx hvl hxc hvn hm hn dd hdd fun v' w' hg=>hK' _ _ (h v' w' hg)
theorem wpList_app_nil {w:World} {ops:Array Oper} {rest:List Oper} {o:Oper} {a:Act} {Q:Exit→Act→World→Prop} (hgd:o.guard=none) (s x:Operand)
 (ho:o.op=.call { callee:=.builtin .append,args:=#[s,x],argTypes:=#[25,25] })
 (g:Nat) (hs:a.eval s=.slice (some ⟨g,0,none⟩) 0 0) (hx:a.eval x=.slice none 0 0)
 (dd:Nat) (hdd:o.dst=some dd) (h:wpList Tryz.prog ops Q rest (a.put (some dd) (.slice (some ⟨g,0,none⟩) 0 0)) w) :
 wpList Tryz.prog ops Q (o :: rest) a w:=by
 obtain ⟨i0,hi,hz0,hz1,hz2⟩:=info_parts info_fac
 refine wpList_plain hgd fun K' hK'=>?_
 rw [← hdd] at h
 have hrun:(Builtin.append_ #[25,25] o.type #[.slice (some ⟨g,0,none⟩) 0 0,.slice none 0 0]).run Tryz.prog w=.ok (.slice (some ⟨g,0,none⟩) 0 0) w:=by
  simp [Builtin.append_,run_underlying Tryz.underlying25,sizeOf,typeInfo,hi,Builtin.lenOf,Builtin.firstCells,storeCells]
 unfold Oper.wp
 simp only [execOp,ho,resolve,invoke,builtin]
 simp [hs,hx,hrun,Result.andThen]
 exact hK' _ _ h
theorem OwnE.empty {t base:Nat} (w:World) (hb:base≤w.heap.size):OwnE Nd 2 t base (w.alloc (.cells #[] t)) (.slice (some ⟨w.heap.size,0,none⟩) 0 0) [] :=
 .inr ⟨w.heap.size,0,0,#[],rfl,hb,rfl,Nat.le_refl _,fun j u h=>by simp at h,Blk.new _ _ _,rfl,fun j h=>absurd h (by omega)⟩
structure FSt (base:Nat) (w0 w:World) (v:Value) (fs:List (List Int×Nat)):Prop where
 own:∃ us,OwnE Nd 2 66 base w v us∧Lay (FcE w0) fs us
 at_:∃ g c,v=.slice (some ⟨g,0,none⟩) fs.length c∧base≤g∧g<w.heap.size∧(∀ o,w.frozen? ⟨g,o,none⟩=false)∧RowF w0 w g fs∧fs.length≤c
theorem RowF.below {w0 w w':World} {g:Nat} {fs:List (List Int×Nat)} (h:RowF w0 w g fs) (hg:g<w.heap.size) (hb:Below w.heap.size w w'):RowF w0 w' g fs:=fun i hi=>by
 obtain ⟨A,l,c,h1,h2,h3⟩:=h i hi
 exact ⟨A,l,c,(hb.cell (p:=⟨g,i*2,none⟩) hg).trans h1,(hb.cell (p:=⟨g,i*2+1,none⟩) hg).trans h2,h3⟩
theorem wpList_app_cp {w:World} {ops:Array Oper} {rest:List Oper} {o:Oper} {a:Act} {Q:Exit→Act→World→Prop} (hgd:o.guard=none) (s x:Operand)
 (ho:o.op=.call { callee:=.builtin .append,args:=#[s,x],argTypes:=#[25,25] })
 (hs:a.eval s=.slice (some ⟨w.heap.size,0,none⟩) 0 0) {A:Option Addr} {l c:Nat} {fs:List (List Int×Nat)} (hx:a.eval x=.slice A l c) (hF:FsAt w A l c fs) (hl:l≤100) (h0:l=0→A=none∧c=0)
 (dd:Nat) (hdd:o.dst=some dd) (h:∀ v' w',FSt w.heap.size w w' v' fs→Below w.heap.size w w'→wpList Tryz.prog ops Q rest (a.put (some dd) v') w') :
 wpList Tryz.prog ops Q (o :: rest) a (w.alloc (.cells #[] 66)):=by
 by_cases hz:l=0
 ·obtain ⟨rfl,rfl⟩:=h0 hz
  subst hz
  have hn:fs=[]:=List.eq_nil_of_length_eq_zero hF.length
  refine wpList_app_nil hgd s x ho w.heap.size hs hx dd hdd (h _ _ ⟨⟨[],OwnE.empty w (Nat.le_refl _),by rw [hn];rfl⟩,⟨w.heap.size,0,by rw [hn];rfl,Nat.le_refl _,(by have:=(below_new w (.cells #[] 66)).size;simp),fun o=>(Blk.new w 66 #[]).frozen o,fun i hi=>(by rw [hn] at hi;exact absurd hi (Nat.not_lt_zero _)),by rw [hn];exact Nat.le_refl _⟩⟩ (below_new _ _))
 ·obtain ⟨b,o',us,rfl,hbl,hlay,hc⟩:=fs_lay hF (by omega)
  have hul:=hlay.len (E:=2) fun _ _ hx=>fce_len hx
  have hll:=hF.length
  refine wpList_app_fac hgd s x ho w.heap.size _ [] us hs (OwnE.empty w (Nat.le_refl _)) (below_new w _).size ⟨b,o',none⟩ l c hx (by rw [hul,hll]) (fun j u hj=>by rw [Addr.add_lit];exact ((below_new w _).cell (p:=⟨b,o'+j,none⟩) hbl).trans (hc j u hj)) (fs_nd hlay) (.inl (by omega)) (by rw [hul,hll];simp;omega) dd hdd fun v1 w1 hg=>?_
  have hb:Below w.heap.size w w1:=(below_new w _).trans (hg.below (below_new w _).size)
  obtain ⟨g,c',cs,e,h1,h2,h3,h4⟩:=fac_row hg.1 hlay (by omega)
  exact h v1 w1 ⟨⟨us,hg.1,hlay⟩,⟨g,c',e,h2,h3.lt,fun o=>h3.frozen o,h4,h1⟩⟩ hb
theorem RowF.set {w0 w:World} {g i m:Nat} {p:List Int} {fs:List (List Int×Nat)} (h:RowF w0 w g fs) (hi:i<fs.length) (e:(fs.getD i ([],0))=(p,m)):RowF w0 (w.setCell ⟨g,i*2+1,none⟩ (.int .i64 ((m+1:Nat):Int))) g (fs.set i (p,m+1)):=fun k hk=>by
 rw [List.length_set] at hk
 obtain ⟨A,l,c,h1,h2,h3⟩:=h k hk
 have hne:k*2≠i*2+1:=by omega
 have n1:(w.setCell ⟨g,i*2+1,none⟩ (.int .i64 ((m+1:Nat):Int))).cell? ⟨g,k*2,none⟩=some (.slice A l c):=by go_simp
 by_cases hik:i=k
 ·subst hik
  have e2:(fs.set i (p,m+1)).getD i ([],0)=(p,m+1):=by rw [List.getD_eq_getElem?_getD,List.getElem?_set_self hi];rfl
  refine ⟨A,l,c,n1,?_,?_⟩
  ·rw [e2]
   go_simp
  ·rw [e2]
   rw [e] at h3
   exact h3
 ·have e2:(fs.set i (p,m+1)).getD k ([],0)=fs.getD k ([],0):=by rw [List.getD_eq_getElem?_getD,List.getElem?_set_ne hik,← List.getD_eq_getElem?_getD]
  have hne2:k*2+1≠i*2+1:=by omega
  refine ⟨A,l,c,n1,?_,?_⟩
  ·rw [e2]
   go_simp
  ·rw [e2]
   exact h3
theorem withf_len (p:List Int):∀ l:List (List Int×Nat),(withf l p).length≤l.length+1
 | []=>Nat.le_refl _
 | (r,m) :: l=>by
   unfold withf
   split
   ·simp
   ·have:=withf_len p l
    simp only [List.length_cons]
    omega
theorem withf_pow {p:List Int} {N:Nat}:∀ {l:List (List Int×Nat)},(∀ x∈l,x.2≤N)→∀ x∈withf l p,x.2≤N+1
 | [],_,x,hx=>by rw [List.mem_singleton.1 hx];exact Nat.le_add_left _ _
 | (r,m) :: l,h,x,hx=>by
   have h0:=h (r,m) List.mem_cons_self
   unfold withf at hx
   split at hx
   ·rcases List.mem_cons.1 hx with e | e
    ·rw [e];exact Nat.succ_le_succ h0
    ·have:=h x (List.mem_cons_of_mem _ e);omega
   ·rcases List.mem_cons.1 hx with e | e
    ·rw [e];have:m≤N:=h0;show m≤N+1;omega
    ·exact withf_pow (fun y hy=>h y (List.mem_cons_of_mem _ hy)) x e
set_option maxRecDepth 100000 in
set_option maxHeartbeats 8000000 in
theorem with_any (A:Option Addr) (l c:Nat) (fs:List (List Int×Nat)) (B:Option Addr) (lb cb:Nat) (p:List Int) (w:World) (hF:FsAt w A l c fs) (hP:I64At w B lb cb p) (hl:l≤100) (hlb:lb≤1000) (tp:ptrim p=p) (hs:∀ x∈fs,ptrim x.1=x.1∧x.1.length≤1000∧x.2≤100) (h0:l=0→A=none∧c=0) :
 Calls Tryz.prog 55 #[.slice A l c,.slice B lb cb] w fun e w'=>(∃ A' l' c',e=.returned (.slice A' l' c')∧FsAt w' A' l' c' (withf fs p)∧0<l')∧Below w.heap.size w w':=by
 have HF:=Lib.hid hF
 have HP:=Lib.hid hP
 have HS:=Lib.hid hs
 have Hll:=Lib.hid hF.length
 have Hl:=Lib.hid hl
 have H0:=Lib.hid h0
 clear hF hP hs h0 hl
 go_enter Tryz.func55,Tryz.ntmps55
 go_wp2_with (at_builtin;refine wpList_app_cp rfl (.tmp 7) (.tmp 8) rfl rfl rfl HF.out Hl.out H0.out 9 rfl ?_;intro v1 w1 hg1 hb1)
 obtain ⟨g,c1,e1,hg0,hgl,hfr,hrow,hcap⟩:=hg1.at_
 subst e1
 have HO:=Lib.hid hg1.own
 have HB1:=Lib.hid hb1
 have Hrow:=Lib.hid hrow
 have Hfr:=Lib.hid hfr
 have Hg0:=Lib.hid hg0
 have Hgl:=Lib.hid hgl
 have Hcap:=Lib.hid hcap
 obtain ⟨n,hn⟩:∃ n,n=fs.length:=⟨_,rfl⟩
 rw [← hn] at HO ⊢
 have Hn:=Lib.hid hn
 have hn100:n≤100:=by rw [hn,Hll.out];exact Hl.out
 clear hg1 hb1 hrow hfr hn hg0 hgl hcap
 have HP1:=Lib.hid (HP.out.below HB1.out)
 go_wp2
 go_loopw [6] (fun s6 wr=>∃ i:Nat,i≤n∧s6=.int .i64 (i:Int)∧(∀ j,j<i→(fs.getD j ([],0)).1≠p)∧Below w1.heap.size w1 wr) (fun s6 _=>n-(intOf s6).toNat)
 case atStart=>exact ⟨0,Nat.zero_le _,rfl,fun j hj=>absurd hj (Nat.not_lt_zero _),Below.refl _ _⟩
 case round =>
  obtain ⟨i,hi,rfl,hst,hbr⟩:=hrel
  obtain ⟨wo,rfl⟩:∃ wo:World,wo=wr:=⟨_,rfl⟩
  have Hst:=Lib.hid hst
  have Hbr:=Lib.hid hbr
  have Hi:=Lib.hid hi
  have HR:=Lib.hid (Hrow.out.below Hgl.out hbr)
  have hgo:g<wo.heap.size:=Nat.lt_of_lt_of_le Hgl.out hbr.size
  have hfo:∀ o,wo.frozen? ⟨g,o,none⟩=false:=fun o=>(hbr.frozen (p:=⟨g,o,none⟩) Hgl.out).trans (Hfr.out o)
  have Hfo:=Lib.hid hfo
  have Hgo:=Lib.hid hgo
  by_cases hlt:i<n
  ·have Hlt:=Lib.hid hlt
   obtain ⟨A1,l1,c2,k1,k2,k3⟩:=HR.out i (by rw [← Hn.out];exact hlt)
   have hmem:fs.getD i ([],0)∈fs:=by rw [List.getD_eq_getElem?_getD,List.getElem?_eq_getElem (by rw [← Hn.out];exact hlt)];exact List.getElem_mem _
   obtain ⟨q1,q2,q3⟩:=HS.out _ hmem
   obtain ⟨r,hr⟩:∃ r,r=(fs.getD i ([],0)).1:=⟨_,rfl⟩
   obtain ⟨m,hm⟩:∃ m,m=(fs.getD i ([],0)).2:=⟨_,rfl⟩
   rw [← hr] at k3 q1 q2
   rw [← hm] at k2 q3
   have Hr:=Lib.hid hr
   have Hm:=Lib.hid hm
   have k3':=Lib.hid ((k3.below HB1.out).below (hbr.mono (Nat.le_refl _)))
   have hp':=Lib.hid (HP1.out.below (hbr.mono (Nat.le_refl _)))
   have hll:=k3'.out.length
   have ti:(i:Int)<(n:Int):=by omega
   have tw:IntKind.i64.wrap ((i:Int)+1)=(i:Int)+1:=IntWalk.i64_in _ (by omega)
   have tm:IntKind.i64.wrap ((m:Int)+1)=(m:Int)+1:=IntWalk.i64_in _ (by omega)
   have hl1:l1≤1000:=by omega
   clear hr hm hst hbr hfo k3 hi hmem q2 hll
   go_wp2_with fail
   refine (same_any _ _ _ r _ _ _ p _ k3'.out hp'.out hl1 hlb q1 tp).mono ?_
   rintro e w3 ⟨rfl,hb3⟩
   have k2':=(hb3.cell (p:=⟨g,i*2+1,none⟩) hgo).trans k2
   have f2':=(hb3.frozen (p:=⟨g,i*2+1,none⟩) hgo).trans (Hfo.out _)
   have HR3:=Lib.hid (HR.out.below hgo hb3)
   have Hbr3:=Lib.hid (Hbr.out.trans (hb3.mono Hbr.out.size))
   have hg3:g<w3.heap.size:=Nat.lt_of_lt_of_le hgo hb3.size
   clear hb3 k1 k2 hgo
   by_cases hrp:r=p
   ·rw [decide_eq_true hrp]
    have hFin:=Lib.hid (show withf fs p=fs.set i (p,m+1) from withf_hit fs i m Hst.out (by
     rw [getD_fs (by rw [← Hn.out];exact Hlt.out)]
     exact congrArg some (Prod.ext (Hr.out.symm.trans hrp) Hm.out.symm)))
    have hEm:=Lib.hid (show fs.getD i ([],0)=(p,m) from Prod.ext (Hr.out.symm.trans hrp) Hm.out.symm)
    clear hrp
    go_wp2
    go_ret
    have hrow:=RowF.set HR3.out (by rw [← Hn.out];exact Hlt.out) hEm.out
    refine ⟨⟨some ⟨g,0,none⟩,n,c1,rfl,?_,by have:=Hlt.out;omega⟩,?_⟩
    ·rw [hFin.out]
     have:=hrow.sle (n:=n) (c:=c1) ((HB1.out.trans (Hbr3.out.mono HB1.out.size)).setCell (by exact Hg0.out) _) (by simpa using hg3) (by rw [List.length_set,Hn.out]) (by rw [Hn.out];exact Hcap.out)
     simpa using this
    ·have:=(HB1.out.trans (Hbr3.out.mono HB1.out.size)).setCell (p:=⟨g,i*2+1,none⟩) Hg0.out (.int .i64 ((m+1:Nat):Int))
     simpa using this
   ·rw [decide_eq_false hrp]
    have HNE:=Lib.hid hrp
    clear hrp k2' f2'
    go_wp2
    go_roundw
    case rel=>exact ⟨i+1,Hlt.out,by go_num,fun j hj=>(by
     by_cases c2:j<i
     ·exact Hst.out j c2
     ·obtain rfl:j=i:=by omega
      rw [← Hr.out]
      exact HNE.out),Hbr3.out⟩
    case measure=>have:=Hlt.out;simp [intOf];omega
  ·have ti:¬ (i:Int)<(n:Int):=by omega
   have hFin:=Lib.hid (show withf fs p=fs ++ [(p,1)] from withf_miss fs fun j hj=>Hst.out j (by rw [← Hn.out] at hj;omega))
   clear hst hbr hfo hi hlt hgo
   obtain ⟨us,hown,hlay⟩:=HO.out
   have Hown:=Lib.hid (((hown.below Hbr.out)).below (below_new wo (.cells #[.slice B lb cb,.int .i64 1] 66)))
   have Hlay:=Lib.hid hlay
   have Hul:=Lib.hid (show us.length≤200 by rw [hlay.len (E:=2) fun _ _ hx=>fce_len hx,← Hn.out];omega)
   have HpW:=Lib.hid HP.out
   have Hsz:=Lib.hid (show w.heap.size≤(wo.alloc (.cells #[.slice B lb cb,.int .i64 1] 66)).heap.size from Nat.le_trans (Nat.le_trans HB1.out.size Hbr.out.size) (below_new _ _).size)
   have Hvn:=Lib.hid (show ∀ u∈[Value.slice B lb cb,Value.int .i64 1],Nd u from fun u hu=>by
    simp at hu
    rcases hu with rfl | rfl
    ·exact nd_slc _ _ _
    ·exact nd_i64 _)
   have Hvc:=Lib.hid (show ∀ (j:Nat) (u:Value),[Value.slice B lb cb,Value.int .i64 1][j]?=some u→(wo.alloc (.cells #[.slice B lb cb,.int .i64 1] 66)).cell? ((⟨wo.heap.size,0,none⟩:Addr).add j)=some u from fun j u hj=>by
    match j,hj with
    | 0,hj=>simp at hj;subst hj;rw [Addr.add_lit];simp
    | 1,hj=>simp at hj;subst hj;rw [Addr.add_lit];simp
    | j+2,hj=>simp at hj)
   clear hown hlay
   go_wp2_with (at_builtin;refine wpList_app_fac rfl (.tmp 32) (.tmp 35) rfl w.heap.size _ us [.slice B lb cb,.int .i64 1] rfl Hown.out Hsz.out ⟨wo.heap.size,0,none⟩ 1 1 rfl rfl Hvc.out Hvn.out (.inl (by omega)) (by have:=Hul.out;simp;omega) 36 rfl ?_;intro v5 w5 hg5)
   have hb5:=hg5.below Hsz.out
   have hB:Below w.heap.size w w5:=((HB1.out.trans (Hbr.out.mono HB1.out.size)).trans ((below_new wo _).mono (Nat.le_trans HB1.out.size Hbr.out.size))).trans hb5
   have hlay5:Lay (FcE w5) (fs ++ [(p,1)]) (us ++ [.slice B lb cb,.int .i64 1]):=(Hlay.out.mono fun x vs hx=>hx.below hB).app ⟨B,lb,cb,rfl,HpW.out.below hB⟩
   obtain ⟨A5,l5,c5,e5,hs5⟩:=hg5.1.sle (by decide) hlay5 fun _ _ hx=>fce_len hx
   have Hs5:=Lib.hid hs5
   have HB5:=Lib.hid hB
   have HL5:=Lib.hid (show 0<l5 by have:=hs5.length;simp at this;omega)
   subst e5
   clear hg5 hb5 hB hlay5 hs5
   go_wp2
   go_ret
   exact ⟨⟨A5,l5,c5,rfl,by rw [hFin.out];exact Hs5.out,HL5.out⟩,HB5.out⟩
end Go.Proofs.YtipocabbjinbhaaGreat
namespace Go.Proofs.YtipocabbjinbhaaGreat
open Go Go.RowKit
theorem spl_len2 (q:List Int):(spl q).length≤2:=by
 unfold spl
 split
 ·simp
 ·split
  ·simp
  ·split<;>simp
theorem addf_len:∀ (ps:List (List Int)) (l:List (List Int×Nat)),(addf l ps).length≤l.length+ps.length
 | [],_=>Nat.le_refl _
 | p :: ps,l=>by
   have h1:=withf_len p l
   have h2:=addf_len ps (withf l p)
   show (addf (withf l p) ps).length≤l.length+(ps.length+1)
   omega
theorem facs_len:∀ (qs:List (List Int)) (l:List (List Int×Nat)),(facs l qs).length≤l.length+2*qs.length
 | [],_=>Nat.le_refl _
 | q :: qs,l=>by
   have h1:=addf_len (spl q) l
   have h2:=facs_len qs (addf l (spl q))
   have h3:=spl_len2 q
   show (facs (addf l (spl q)) qs).length≤l.length+2*(qs.length+1)
   omega
theorem addf_pow:∀ {ps:List (List Int)} {l:List (List Int×Nat)} {N:Nat},(∀ x∈l,x.2≤N)→∀ x∈addf l ps,x.2≤N+ps.length
 | [],_,_,h=>h
 | p :: ps,l,N,h=>fun x hx=>by
   have:=addf_pow (ps:=ps) (l:=withf l p) (N:=N+1) (withf_pow h) x hx
   simp only [List.length_cons]
   omega
theorem facs_pow:∀ {qs:List (List Int)} {l:List (List Int×Nat)} {N:Nat},(∀ x∈l,x.2≤N)→∀ x∈facs l qs,x.2≤N+2*qs.length
 | [],_,_,h=>h
 | q :: qs,l,N,h=>fun x hx=>by
   have:=facs_pow (qs:=qs) (l:=addf l (spl q)) (N:=N+2) (fun y hy=>by
    have h1:=addf_pow h y hy
    have h2:=spl_len2 q
    omega) x hx
   simp only [List.length_cons]
   omega
theorem addf_app (l:List (List Int×Nat)):∀ (ps:List (List Int)) (p:List Int),addf l (ps ++ [p])=withf (addf l ps) p:=fun ps p=>by
 induction ps generalizing l with
 | nil=>rfl
 | cons r rs ih=>exact ih _
theorem facs_app (l:List (List Int×Nat)):∀ (qs:List (List Int)) (q:List Int),facs l (qs ++ [q])=addf (facs l qs) (spl q):=fun qs q=>by
 induction qs generalizing l with
 | nil=>rfl
 | cons r rs ih=>exact ih _
structure Fsm (p:List Int):Prop where
 tr:ptrim p=p
 len:p.length≤3
 bd:∀ j,(p.getD j 0).natAbs≤29
theorem fsm_nrm {q:List Int} (h3:plen q≤3) (h0:plen q≠0) (hb:∀ j,(q.getD j 0).natAbs≤29):Fsm (nrm q):=⟨by
 have h1:=nrm_plen h0
 unfold ptrim
 rw [h1,← nrm_len,List.take_length],by rw [nrm_len];exact h3,nrm_le hb⟩
theorem spl_fsm {q:List Int} (hl:q.length=3) (hs:Sma q):∀ p∈spl q,Fsm p:=fun p hp=>by
 have h9:=sma_abs hl hs
 have hp3:plen q≤3:=by have:=plen_le q;omega
 unfold spl at hp
 split at hp
 ·cases hp
 ·split at hp
  ·rw [List.mem_singleton.1 hp];exact fsm_nrm hp3 (by omega) fun j=>by have:=h9 j;omega
  ·have h0:plen q≠0:=by omega
   have hld:=nrm_lead h0
   rw [show plen q=3 by omega] at hld
   have n9:=nrm_le h9
   split at hp
   ·rename_i s hsq
    have hss:(s:Int)*(s:Int)=dsc (nrm q):=by
     unfold sqd at hsq
     split at hsq
     ·rename_i he
      cases hsq
      exact he.choose_spec
     ·cases hsq
    have hs20:s≤20:=by
     refine Nat.le_of_not_lt fun hlt=>?_
     have h1:21*21≤s*s:=Nat.mul_le_mul hlt hlt
     have h2:((s*s:Nat):Int)=dsc (nrm q):=by rw [Int.natCast_mul];exact hss
     have m1:((nrm q).getD 1 0*(nrm q).getD 1 0).natAbs≤9*9:=by rw [Int.natAbs_mul];exact Nat.mul_le_mul (n9 1) (n9 1)
     have m2:(4*(nrm q).getD 2 0*(nrm q).getD 0 0).natAbs≤36*9:=by rw [Int.natAbs_mul];exact Nat.mul_le_mul (by have:=n9 2;omega) (n9 0)
     unfold dsc at h2
     omega
    have key:∀ z:Int,z.natAbs≤20→Fsm (lin1 (nrm q) z):=fun z hz=>by
     have hp2:plen [(nrm q).getD 1 0+z,2*(nrm q).getD 2 0]=2:=by rw [plen_cons_succ (by rw [plen_cons_one rfl (by have:0<(nrm q).getD 2 0:=hld;omega)];omega),plen_cons_one rfl (by have:0<(nrm q).getD 2 0:=hld;omega)]
     exact fsm_nrm (by omega) (by omega) fun j=>gd2 (by have:=n9 1;omega) (by have:=n9 2;omega) j
    rcases List.mem_cons.1 hp with e | e
    ·rw [e];exact key _ (by omega)
    ·rw [List.mem_singleton.1 e];exact key _ (by omega)
   ·rw [List.mem_singleton.1 hp];exact fsm_nrm hp3 h0 fun j=>by have:=h9 j;omega
theorem facs_fsm {qs:List (List Int)} (ht:Tri qs):∀ x∈facs [] qs,Fsm x.1:=facs_mem (fun q h=>spl_fsm (ht q h).1 (ht q h).2) (fun x hx=>by cases hx)
theorem tri_take {qs:List (List Int)} (h:Tri qs) (i:Nat):Tri (qs.take i):=fun q hq=>h q (List.mem_of_mem_take hq)
theorem facs_ok {qs:List (List Int)} (ht:Tri qs) (h5:qs.length≤5) {q:List Int} (hq:q.length=3) (hs:Sma q) (k:Nat):∀ x∈addf (facs [] qs) ((spl q).take k),ptrim x.1=x.1∧x.1.length≤1000∧x.2≤100:=fun x hx=>by
 have h1:=addf_mem (P:=Fsm) (fun p hp=>spl_fsm hq hs p (List.mem_of_mem_take hp)) (facs_fsm ht) x hx
 have h2:=addf_pow (facs_pow (qs:=qs) (l:=[]) (N:=0) (fun x hx=>by cases hx)) x hx
 have h3:=spl_len2 q
 have h4:((spl q).take k).length≤(spl q).length:=by rw [List.length_take];omega
 exact ⟨h1.tr,by have:=h1.len;omega,by omega⟩
theorem facs_ln {qs:List (List Int)} (h5:qs.length≤5) (q:List Int) (k:Nat):(addf (facs [] qs) ((spl q).take k)).length≤12:=by
 have h1:=addf_len ((spl q).take k) (facs [] qs)
 have h2:=facs_len qs []
 have h3:=spl_len2 q
 have h4:((spl q).take k).length≤(spl q).length:=by rw [List.length_take];omega
 simp only [List.length_nil] at h2
 omega
theorem tr_load {w:World} {b o i la:Nat} {qs:List (List Int)} (hc:∀ i,i<la→∀ k,k<3→w.cell? ⟨b,o+i*3+k,none⟩=some (.int .i8 ((qs.getD i []).getD k 0))) (hi:i<la) :
 w.cell? ⟨b,o+i*3,none⟩=some (.int .i8 ((qs.getD i []).getD 0 0))∧w.cell? ⟨b,o+i*3+1,none⟩=some (.int .i8 ((qs.getD i []).getD 1 0))∧w.cell? ⟨b,o+i*3+2,none⟩=some (.int .i8 ((qs.getD i []).getD 2 0)):=by
 have e0:=hc i hi 0 (by omega)
 rw [Nat.add_zero] at e0
 exact ⟨e0,hc i hi 1 (by omega),hc i hi 2 (by omega)⟩
theorem ps_at {w:World} {A:Option Addr} {l c:Nat} {ps:List (List Int)} (h:PsAt w A l c ps) {k:Nat} (hk:k<l):∃ b o A1 l1 c1,A=some ⟨b,o,none⟩∧w.cell? ⟨b,o+k,none⟩=some (.slice A1 l1 c1)∧I64At w A1 l1 c1 (ps.getD k []):=by
 rcases h.elems with ⟨h0,_⟩ | ⟨b,o,e,hb,hv⟩
 ·omega
 ·have hkl:k<ps.length:=by rw [h.length];exact hk
  have eg:ps[k]?=some (ps.getD k []):=by rw [List.getD_eq_getElem?_getD,List.getElem?_eq_getElem hkl];rfl
  obtain ⟨vs,⟨A1,l1,c1,ev,h1⟩,hc⟩:=hv k _ eg
  subst ev
  have:=hc 0 _ rfl
  rw [Nat.mul_one,Nat.add_zero] at this
  exact ⟨b,o,A1,l1,c1,e,this,h1⟩
def Zer (qs:List (List Int)):Prop:=∃ q∈qs,plen q=0
def FacR (qs:List (List Int)) (e:Ending) (w':World):Prop:=∃ u A' l' c' fs,e=.returned (.tuple #[.int .i64 u,.slice A' l' c'])∧(u=0↔Zer qs)∧FsAt w' A' l' c' fs∧(u=0→fs=[])∧(u≠0→fs=facs [] qs)
theorem take_snoc {α:Type} {l:List α} {i:Nat} (h:i<l.length) (d:α):l.take (i+1)=l.take i ++ [l.getD i d]:=by
 rw [List.take_add_one,List.getElem?_eq_getElem h,Option.toList_some,List.getD_eq_getElem?_getD,List.getElem?_eq_getElem h]
 rfl
set_option maxRecDepth 100000 in
set_option maxHeartbeats 8000000 in
theorem factors_any {w:World} {A:Option Addr} {la ca:Nat} {qs:List (List Int)} (h:TrAt w A la ca qs) (hl:la≤5) (ht:Tri qs) :
 Calls Tryz.prog 12 #[.slice A la ca] w fun e w'=>FacR qs e w'∧Below w.heap.size w w':=by
 have H:=Lib.hid h
 have Hl:=Lib.hid h.length
 have HT:=Lib.hid ht
 clear h ht
 go_enter Tryz.func12,Tryz.ntmps12
 go_wp2
 go_loopw [4,5,6] (fun s4 s5 s6 wr=>∃ (i:Nat) (u:Int) (A':Option Addr) (l' c':Nat),i≤la∧s4=.int .i64 u∧s5=.slice A' l' c'∧s6=.int .i64 (i:Int)∧u.natAbs≤9^i∧(u=0↔Zer (qs.take i))∧FsAt wr A' l' c' (facs [] (qs.take i))∧(l'=0→A'=none∧c'=0)∧Below w.heap.size w wr) (fun _ _ s6 _=>la-(intOf s6).toNat)
 case atStart=>exact ⟨0,1,none,0,0,Nat.zero_le _,rfl,rfl,rfl,Nat.le_refl _,⟨fun h=>absurd h (by decide),fun ⟨q,hq,_⟩=>(by cases hq)⟩,⟨rfl,Nat.le_refl _,.inl ⟨rfl,rfl,rfl⟩⟩,fun _=>⟨rfl,rfl⟩,Bel.go⟩
 case round =>
  obtain ⟨i,u,A',l',c',hi,rfl,rfl,rfl,hu,huz,hF,h0,hbw⟩:=hrel
  obtain ⟨wo,rfl⟩:∃ wo:World,wo=wr:=⟨_,rfl⟩
  have HF:=Lib.hid hF
  have H0:=Lib.hid h0
  have Huz:=Lib.hid huz
  have Hbw:=Lib.hid hbw
  by_cases hlt:i<la
  ·have Hlt:=Lib.hid hlt
   obtain ⟨b,o,rfl,hbl,hc⟩:=(H.out.below hbw).at (by omega)
   have hil:i<qs.length:=by rw [Hl.out];exact hlt
   have hq:=HT.out (qs.getD i []) (by rw [List.getD_eq_getElem?_getD,List.getElem?_eq_getElem hil];exact List.getElem_mem _)
   obtain ⟨e0,e1,e2⟩:=tr_load hc hlt
   have hl3:=list3 hq.1
   have s0:=hq.2 0 (by omega)
   have s1:=hq.2 1 (by omega)
   have s2:=hq.2 2 (by omega)
   have HQ:=Lib.hid hq
   have HN:=Lib.hid (take_snoc hil [])
   obtain ⟨q,hqd⟩:∃ q,q=qs.getD i []:=⟨_,rfl⟩
   rw [← hqd] at e0 e1 e2 hl3 s0 s1 s2 HQ HN
   obtain ⟨x0,hx0⟩:∃ x,x=q.getD 0 0:=⟨_,rfl⟩
   obtain ⟨x1,hx1⟩:∃ x,x=q.getD 1 0:=⟨_,rfl⟩
   obtain ⟨x2,hx2⟩:∃ x,x=q.getD 2 0:=⟨_,rfl⟩
   rw [← hx0] at e0 s0 hl3
   rw [← hx1] at e1 s1 hl3
   rw [← hx2] at e2 s2 hl3
   have HL3:=Lib.hid hl3.symm
   have ti:(i:Int)<(la:Int):=by omega
   have tw:IntKind.i64.wrap ((i:Int)+1)=(i:Int)+1:=IntWalk.i64_in _ (by omega)
   have HTI:=Lib.hid (tri_take HT.out i)
   have HLI:=Lib.hid (show (qs.take i).length≤5 by rw [List.length_take];omega)
   have h9i:9^i≤9^4:=Nat.pow_le_pow_right (by decide) (by omega)
   have H9:=Lib.hid hu
   have hu4:u.natAbs≤6561:=by omega
   clear hx0 hx1 hx2 hc hq hl3 hqd hF h0 hbw huz hi hlt hil hu h9i
   go_wp2_with fail
   refine (wid_any x0 x1 x2 _ ⟨by omega,by omega⟩ ⟨by omega,by omega⟩ ⟨by omega,by omega⟩).mono ?_
   rintro e w1 ⟨A1,c1,rfl,h1,hb1⟩
   have H1:=Lib.hid h1
   have HF1:=Lib.hid (fs_below HF.out hb1)
   have Hbw1:=Lib.hid (Hbw.out.trans (hb1.mono Hbw.out.size))
   clear h1 hb1 e0 e1 e2 hbl
   go_wp2_with fail
   refine (split_any _ _ x0 x1 x2 _ H1.out (by omega) (by omega) (by omega)).mono ?_
   rintro e w2 ⟨⟨v,Ap,lp,cp,rfl,hv0,hv9,hps⟩,hb2⟩
   rw [HL3.out] at hv0 hps
   have HV0:=Lib.hid hv0
   have HPs:=Lib.hid hps
   have HF2:=Lib.hid (fs_below HF1.out hb2)
   have Hbw2:=Lib.hid (Hbw1.out.trans (hb2.mono Hbw1.out.size))
   have HLp:=Lib.hid hps.length
   have hlp2:lp≤2:=by rw [← hps.length];exact spl_len2 q
   have hm5:(u*v).natAbs≤6561*9:=by rw [Int.natAbs_mul];exact Nat.mul_le_mul hu4 hv9
   have HU5:=Lib.hid (show (u*v).natAbs≤9^(i+1) by rw [Int.natAbs_mul,Nat.pow_succ];exact Nat.mul_le_mul H9.out hv9)
   have HUZ:=Lib.hid (show u*v=0↔Zer (qs.take (i+1)) by
    rw [HN.out,Int.mul_eq_zero,Huz.out,HV0.out]
    unfold Zer
    constructor
    ·rintro (⟨r,hr,h⟩ | h)
     ·exact ⟨r,List.mem_append_left _ hr,h⟩
     ·exact ⟨q,by simp,h⟩
    ·rintro ⟨r,hr,h⟩
     rcases List.mem_append.1 hr with hr | hr
     ·exact .inl ⟨r,hr,h⟩
     ·rw [List.mem_singleton.1 hr] at h;exact .inr h)
   obtain ⟨U,hU⟩:∃ U,U=u*v:=⟨_,rfl⟩
   rw [← hU] at hm5 HU5 HUZ
   have iU:IntKind.i64.wrap U=U:=IntWalk.i64_in _ (by omega)
   have eU:u*v=U:=hU.symm
   clear hU hps hb2 hv0 hv9 hu4
   go_wp2
   go_loopw [5,9] (fun s5 s9 wx=>∃ (k:Nat) (A':Option Addr) (l' c':Nat),k≤lp∧s5=.slice A' l' c'∧s9=.int .i64 (k:Int)∧FsAt wx A' l' c' (addf (facs [] (qs.take i)) ((spl q).take k))∧(l'=0→A'=none∧c'=0)∧Below w2.heap.size w2 wx) (fun _ s9 _=>lp-(intOf s9).toNat)
   case atStart=>exact ⟨0,_,_,_,Nat.zero_le _,rfl,rfl,HF2.out,H0.out,Below.refl _ _⟩
   case round =>
    obtain ⟨k,A6,l6,c6,hk,rfl,rfl,hF6,h06,hbx⟩:=hrel
    have HF6:=Lib.hid hF6
    have H06:=Lib.hid h06
    have Hbx:=Lib.hid hbx
    by_cases hkl:k<lp
    ·have Hkl:=Lib.hid hkl
     obtain ⟨b',o',A7,l7,c7,rfl,k1,k2⟩:=ps_at (ps_below HPs.out hbx) hkl
     have K2:=Lib.hid k2
     have hkk:k<(spl q).length:=by rw [HLp.out];exact hkl
     have HNK:=Lib.hid (take_snoc hkk [])
     have hfp:=spl_fsm HQ.out.1 HQ.out.2 ((spl q).getD k []) (by rw [List.getD_eq_getElem?_getD,List.getElem?_eq_getElem hkk];exact List.getElem_mem _)
     have HFP:=Lib.hid hfp
     have hl7:l7≤1000:=by rw [← k2.length];have:=hfp.len;omega
     have hl6:l6≤100:=by rw [← hF6.length];have:=facs_ln HLI.out q k;omega
     have tk1:(k:Int)<(lp:Int):=by omega
     have tk2:IntKind.i64.wrap ((k:Int)+1)=(k:Int)+1:=IntWalk.i64_in _ (by omega)
     clear k2 hkk hF6 h06 hbx hfp hk hkl
     go_wp2_with fail
     refine (with_any _ _ _ _ _ _ _ ((spl q).getD k []) _ HF6.out K2.out hl6 hl7 HFP.out.tr (facs_ok HTI.out HLI.out HQ.out.1 HQ.out.2 k) H06.out).mono ?_
     rintro e w8 ⟨⟨A8,l8,c8,rfl,h8,p8⟩,hb8⟩
     have H8:=Lib.hid h8
     have Hp8:=Lib.hid p8
     have Hb8:=Lib.hid (Hbx.out.trans (hb8.mono Hbx.out.size))
     clear h8 p8 hb8
     go_wp2
     go_roundw
     case rel=>exact ⟨k+1,_,_,_,Hkl.out,rfl,by go_num,by rw [HNK.out,addf_app];exact H8.out,fun h=>absurd h (by have:=Hp8.out;omega),Hb8.out⟩
     case measure=>have:=Hkl.out;simp [intOf];omega
    ·have tk1:¬ (k:Int)<(lp:Int):=by omega
     have HE:=Lib.hid (show addf (facs [] (qs.take i)) ((spl q).take k)=facs [] (qs.take (i+1)) by rw [HN.out,facs_app,List.take_of_length_le (l:=spl q) (by rw [HLp.out];omega)])
     clear hF6 h06 hbx hk hkl
     go_wp2
     go_roundw
     case rel=>exact ⟨i+1,U,_,_,_,Hlt.out,rfl,rfl,by go_num,HU5.out,HUZ.out,by rw [← HE.out];exact HF6.out,H06.out,Hbw2.out.trans (Hbx.out.mono Hbw2.out.size)⟩
     case measure=>have:=Hlt.out;simp [intOf];omega
  ·have ti:¬ (i:Int)<(la:Int):=by omega
   have HE:qs.take i=qs:=by rw [List.take_of_length_le (by rw [Hl.out];omega)]
   rw [HE] at HF Huz
   have Hll:=Lib.hid hF.length
   clear hF h0 hbw hi hlt huz hu
   by_cases hu0:u=0
   ·subst hu0
    go_wp2
    refine bodyPost_ret (v:=.tuple #[.int .i64 0,.slice none 0 0]) (by simp [results,Tryz.results12,go_sem]) rfl ⟨⟨0,none,0,0,[],rfl,⟨fun _=>Huz.out.1 trivial,fun _=>rfl⟩,⟨rfl,Nat.le_refl _,.inl ⟨rfl,rfl,rfl⟩⟩,fun _=>rfl,fun h=>absurd rfl h⟩,Hbw.out⟩
   ·have bu:(u == 0)=false:=by rw [beq_eq_false_iff_ne];exact hu0
    have Hu0:=Lib.hid hu0
    clear hu0
    go_wp2
    refine bodyPost_ret (v:=.tuple #[.int .i64 u,.slice A' l' c']) (by simp [results,Tryz.results12,go_sem]) rfl ⟨⟨u,A',l',c',facs [] qs,rfl,Huz.out,HF.out,fun h=>absurd h Hu0.out,fun _=>rfl⟩,Hbw.out⟩
end Go.Proofs.YtipocabbjinbhaaGreat
namespace Go.Proofs.YtipocabbjinbhaaGreat
open Go Go.RowKit
structure FcP (p:List Int):Prop where
 irr:isLin p∨isQd p
 bd:∀ j,(p.getD j 0).natAbs≤29
 q9:p.length=3→∀ j,(p.getD j 0).natAbs≤9
theorem FcP.len {p:List Int} (h:FcP p):p.length=2∨p.length=3:=by
 rcases h.irr with c | c
 ·exact .inl c.1
 ·exact .inr c.1
theorem atv_bd {n d:Int} {M Z:Nat} (hZ:1≤Z) (hn:n.natAbs≤Z) (hd:d.natAbs≤Z):∀ f:List Int,(∀ j,(f.getD j 0).natAbs≤M)→(atv n d f).natAbs≤f.length*(M*Z^f.length)
 | [],_=>Nat.zero_le _
 | a :: t,h=>by
   have h1:=atv_bd hZ hn hd t fun j=>h (j+1)
   have h0:a.natAbs≤M:=h 0
   have h2:=Int.natAbs_add_le (atv n d t*n) (a*d^t.length)
   rw [Int.natAbs_mul,Int.natAbs_mul,Int.natAbs_pow] at h2
   have h3:(atv n d t).natAbs*n.natAbs≤t.length*(M*Z^t.length)*Z:=Nat.mul_le_mul h1 hn
   have h4:a.natAbs*d.natAbs^t.length≤M*Z^t.length:=Nat.mul_le_mul h0 (Nat.pow_le_pow_left hd _)
   have h5:M*Z^t.length≤M*Z^(t.length+1):=Nat.mul_le_mul_left _ (Nat.pow_le_pow_right hZ (Nat.le_succ _))
   have h6:t.length*(M*Z^t.length)*Z=t.length*(M*Z^(t.length+1)):=by rw [Nat.pow_succ,Nat.mul_assoc,Nat.mul_assoc]
   show (atv n d t*n+a*d^t.length).natAbs≤(t.length+1)*(M*Z^(t.length+1))
   rw [Nat.succ_mul]
   omega
set_option maxRecDepth 100000 in
theorem sign15_any (n:Int) (w:World):Calls Tryz.prog 135 #[.int .i64 n] w fun e w'=>e=.returned (.int .i64 (sg n))∧w=w':=by
 have HS:=Lib.hid (sg_cases n)
 generalize sg n=s at HS ⊢
 go_enter Tryz.func135,Tryz.ntmps135
 rcases HS.out with ⟨c,rfl⟩ | ⟨c,rfl⟩ | ⟨c,rfl⟩
 ·go_wp2
  go_ret
  exact ⟨rfl,rfl⟩
 ·subst c
  go_wp2
  go_ret
  exact ⟨rfl,rfl⟩
 ·have c2:¬ n<0:=by omega
  go_wp2
  go_ret
  exact ⟨rfl,rfl⟩
set_option maxRecDepth 100000 in
set_option maxHeartbeats 4000000 in
theorem real_any {w:World} {A:Option Addr} {l c:Nat} {p:List Int} (h:I64At w A l c p) (hp:FcP p) :
 Calls Tryz.prog 35 #[.slice A l c] w fun e w'=>e=.returned (.int .i64 (realn p:Int))∧Below w.heap.size w w':=by
 rcases hp.irr with q1 | q1
 ·have hl1:l=2:=by rw [← h.length];exact q1.1
  subst hl1
  have HR:=Lib.hid (show realn p=1 by unfold realn;rw [if_pos q1.1])
  clear h hp q1
  go_enter Tryz.func35,Tryz.ntmps35
  go_wp2
  go_ret
  exact ⟨by rw [HR.out];rfl,Below.refl _ _⟩
 ·have hl1:l=3:=by rw [← h.length];exact q1.1
  subst hl1
  obtain ⟨b1,o1,rfl,hb1,hc1⟩:=h.at_ (by omega)
  have e0:=hc1 0 (by omega)
  have e1:=hc1 1 (by omega)
  have e2:=hc1 2 (by omega)
  rw [Nat.add_zero] at e0
  have HP:=Lib.hid (show realn p=if 0<p.getD 1 0*p.getD 1 0-4*p.getD 2 0*p.getD 0 0 then 2 else 0 by unfold realn;rw [if_neg (by rw [q1.1];decide)];rfl)
  have v0:=hp.bd 0
  have v1:=hp.bd 1
  have v2:=hp.bd 2
  obtain ⟨x0,hx0⟩:∃ x,x=p.getD 0 0:=⟨_,rfl⟩
  obtain ⟨x1,hx1⟩:∃ x,x=p.getD 1 0:=⟨_,rfl⟩
  obtain ⟨x2,hx2⟩:∃ x,x=p.getD 2 0:=⟨_,rfl⟩
  rw [← hx0] at e0 HP v0
  rw [← hx1] at e1 HP v1
  rw [← hx2] at e2 HP v2
  obtain ⟨y1,hy1⟩:∃ y,y=x1*x1:=⟨_,rfl⟩
  obtain ⟨y2,hy2⟩:∃ y,y=4*x2:=⟨_,rfl⟩
  obtain ⟨y3,hy3⟩:∃ y,y=y2*x0:=⟨_,rfl⟩
  have m1:y1.natAbs≤841:=by rw [hy1,Int.natAbs_mul];exact Nat.mul_le_mul v1 v1
  have m3:y3.natAbs≤116*29:=by rw [hy3,Int.natAbs_mul];exact Nat.mul_le_mul (by omega) v0
  have i1:IntKind.i64.wrap y1=y1:=IntWalk.i64_in _ (by omega)
  have i2:IntKind.i64.wrap y2=y2:=IntWalk.i64_in _ (by omega)
  have i3:IntKind.i64.wrap y3=y3:=IntWalk.i64_in _ (by omega)
  have i4:IntKind.i64.wrap (y1-y3)=y1-y3:=IntWalk.i64_in _ (by omega)
  have f1:x1*x1=y1:=hy1.symm
  have f2:4*x2=y2:=hy2.symm
  have f3:y2*x0=y3:=hy3.symm
  rw [f1,f2,f3] at HP
  clear hx0 hx1 hx2 hc1 h hp q1 hy1 hy2 hy3 v0 v1 v2 m1 m3
  go_enter Tryz.func35,Tryz.ntmps35
  go_wp2_with fail
  refine wp_region_held_drew (S:=fun w'=>w'.cell? ⟨b1,o1,none⟩=some (.int .i64 x0)∧w'.cell? ⟨b1,o1+1,none⟩=some (.int .i64 x1)∧w'.cell? ⟨b1,o1+2,none⟩=some (.int .i64 x2)) (by kernel_rfl) (by (try dsimp only);go_keep) (fun hHeld=>?_)
  (refine tk (i:=0) (v:=?_) rfl rfl (Or.inl ⟨by rfl,?_⟩) ?_;rotate_left;(focus (intro w hSw;(try dsimp only at hSw);go_simp;(try with_reducible rfl)));(simp only [put_lit,List.set]))
  (refine tk (i:=1) (v:=?_) rfl rfl (Or.inl ⟨by rfl,?_⟩) ?_;rotate_left;(focus (intro w hSw;(try dsimp only at hSw);go_simp;(try with_reducible rfl)));(simp only [put_lit,List.set]))
  (refine tk (i:=2) (v:=?_) rfl rfl (Or.inl ⟨by rfl,?_⟩) ?_;rotate_left;(focus (intro w hSw;(try dsimp only at hSw);go_simp;(try with_reducible rfl)));(simp only [put_lit,List.set]))
  (refine tk (i:=3) (v:=?_) rfl rfl (Or.inl ⟨by rfl,?_⟩) ?_;rotate_left;(focus (intro w hSw;(try dsimp only at hSw);go_simp;(try with_reducible rfl)));(simp only [put_lit,List.set]))
  (refine tk (i:=4) (v:=?_) rfl rfl (Or.inl ⟨by rfl,?_⟩) ?_;rotate_left;(focus (intro w hSw;(try dsimp only at hSw);go_simp;(try with_reducible rfl)));(simp only [put_lit,List.set]))
  (refine tk (i:=5) (v:=?_) rfl rfl (Or.inl ⟨by rfl,?_⟩) ?_;rotate_left;(focus (intro w hSw;(try dsimp only at hSw);go_simp;(try with_reducible rfl)));(simp only [put_lit,List.set]))
  (refine tk (i:=6) (v:=?_) rfl rfl (Or.inl ⟨by rfl,?_⟩) ?_;rotate_left;(focus (intro w hSw;(try dsimp only at hSw);go_simp;(try with_reducible rfl)));(simp only [put_lit,List.set]))
  (refine tk (i:=7) (v:=?_) rfl rfl (Or.inl ⟨by rfl,?_⟩) ?_;rotate_left;(focus (intro w hSw;(try dsimp only at hSw);go_simp;(try with_reducible rfl)));(simp only [put_lit,List.set]))
  (refine tk (i:=8) (v:=?_) rfl rfl (Or.inl ⟨by rfl,?_⟩) ?_;rotate_left;(focus (intro w hSw;(try dsimp only at hSw);go_simp;(try with_reducible rfl)));(simp only [put_lit,List.set]))
  (refine tk (i:=9) (v:=?_) rfl rfl (Or.inl ⟨by rfl,?_⟩) ?_;rotate_left;(focus (intro w hSw;(try dsimp only at hSw);go_simp;(try with_reducible rfl)));(simp only [put_lit,List.set]))
  (refine tk (i:=10) (v:=?_) rfl rfl (Or.inl ⟨by rfl,?_⟩) ?_;rotate_left;(focus (intro w hSw;(try dsimp only at hSw);go_simp;(try with_reducible rfl)));(simp only [put_lit,List.set]))
  (refine tk (i:=11) (v:=?_) rfl rfl (Or.inl ⟨by rfl,?_⟩) ?_;rotate_left;(focus (intro w hSw;(try dsimp only at hSw);go_simp;(try with_reducible rfl)));(simp only [put_lit,List.set]))
  (refine tk (i:=12) (v:=?_) rfl rfl (Or.inl ⟨by rfl,?_⟩) ?_;rotate_left;(focus (intro w hSw;(try dsimp only at hSw);go_simp;(try with_reducible rfl)));(simp only [put_lit,List.set]))
  (refine tk (i:=13) (v:=?_) rfl rfl (Or.inl ⟨by rfl,?_⟩) ?_;rotate_left;(focus (intro w hSw;(try dsimp only at hSw);go_simp;(try with_reducible rfl)));(simp only [put_lit,List.set]))
  (refine tk (i:=14) (v:=?_) rfl rfl (Or.inl ⟨by rfl,?_⟩) ?_;rotate_left;(focus (intro w hSw;(try dsimp only at hSw);go_simp;(try with_reducible rfl)));(simp only [put_lit,List.set]))
  (refine tk (i:=15) (v:=?_) rfl rfl (Or.inl ⟨by rfl,?_⟩) ?_;rotate_left;(focus (intro w hSw;(try dsimp only at hSw);go_simp;(try with_reducible rfl)));(simp only [put_lit,List.set]))
  (refine tk (i:=16) (v:=?_) rfl rfl (Or.inl ⟨by rfl,?_⟩) ?_;rotate_left;(focus (intro w hSw;(try dsimp only at hSw);go_simp;(try with_reducible rfl)));(simp only [put_lit,List.set]))
  refine wpAnyH_done (by kernel_rfl) ?_ _
  clear hHeld i1 i2 i3 f1 f2 f3
  by_cases cd:0<y1-y3
  ·rw [if_pos cd] at HP
   have cd':y3<y1:=by omega
   go_wp2
   go_ret
   exact ⟨by rw [HP.out];rfl,below_drewn (Below.refl _ _) _⟩
  ·rw [if_neg cd] at HP
   have cd':¬ y3<y1:=by omega
   go_wp2
   go_ret
   exact ⟨by rw [HP.out];rfl,below_drewn (Below.refl _ _) _⟩
set_option maxRecDepth 100000 in
set_option maxHeartbeats 4000000 in
theorem at15_any {w:World} {A:Option Addr} {l c:Nat} {f:List Int} (h:I64At w A l c f) (n d:Int) (hl:l≤100) {M Z:Nat} (hM:1≤M) (hZ:1≤Z) (hn:n.natAbs≤Z) (hd:d.natAbs≤Z) (hf:∀ j,(f.getD j 0).natAbs≤M) (hs:(l+1)*(M*Z^(l+1))≤4611686018427387904) :
 Calls Tryz.prog 84 #[.slice A l c,.int .i64 n,.int .i64 d] w fun e w'=>e=.returned (.int .i64 (sg (atv n d f)))∧Below w.heap.size w w':=by
 have H:=Lib.hid h
 have Hll:=Lib.hid h.length
 have hZl:∀ k,k≤l+1→M*Z^k≤4611686018427387904:=fun k hk=>by
  have h1:Z^k≤Z^(l+1):=Nat.pow_le_pow_right hZ hk
  have h2:M*Z^k≤M*Z^(l+1):=Nat.mul_le_mul_left _ h1
  have h3:M*Z^(l+1)≤(l+1)*(M*Z^(l+1)):=Nat.le_mul_of_pos_left _ (by omega)
  omega
 have HZL:=Lib.hid hZl
 -- the value of the upper coefficients
 have HV:=Lib.hid (show ∀ k,k≤l→(atv n d (f.drop k)).natAbs≤4611686018427387904∧(atv n d (f.drop k)*n).natAbs≤4611686018427387904 from fun k hk=>by
  have h1:=atv_bd (M:=M) hZ hn hd (f.drop k) fun j=>by
   rw [List.getD_eq_getElem?_getD,List.getElem?_drop,← List.getD_eq_getElem?_getD]
   exact hf _
  have hlk:(f.drop k).length≤l:=by rw [List.length_drop,h.length];omega
  generalize (f.drop k).length=m at h1 hlk
  have h2:M*Z^m≤M*Z^l:=Nat.mul_le_mul_left _ (Nat.pow_le_pow_right hZ hlk)
  have h3:m*(M*Z^m)≤l*(M*Z^l):=Nat.mul_le_mul hlk h2
  have h4:l*(M*Z^l)*Z=l*(M*Z^(l+1)):=by rw [Nat.pow_succ,Nat.mul_assoc,Nat.mul_assoc]
  have h5:l*(M*Z^(l+1))≤(l+1)*(M*Z^(l+1)):=Nat.mul_le_mul_right _ (Nat.le_succ _)
  have h6:l*(M*Z^l)≤l*(M*Z^l)*Z:=Nat.le_mul_of_pos_right _ hZ
  refine ⟨by omega,?_⟩
  rw [Int.natAbs_mul]
  have h7:(atv n d (f.drop k)).natAbs*n.natAbs≤l*(M*Z^l)*Z:=Nat.mul_le_mul (by omega) hn
  omega)
 have HP:=Lib.hid (show ∀ k,k≤l+1→(d^k).natAbs≤4611686018427387904 from fun k hk=>by
  rw [Int.natAbs_pow]
  have h1:=Nat.pow_le_pow_left hd k
  have h2:=hZl k hk
  have h3:Z^k≤M*Z^k:=Nat.le_mul_of_pos_left _ hM
  omega)
 have HM:=Lib.hid (show ∀ j k,k≤l→(f.getD j 0*d^k).natAbs≤4611686018427387904 from fun j k hk=>by
  rw [Int.natAbs_mul,Int.natAbs_pow]
  have h1:(f.getD j 0).natAbs*d.natAbs^k≤M*Z^k:=Nat.mul_le_mul (hf j) (Nat.pow_le_pow_left hd k)
  have h2:=hZl k (by omega)
  omega)
 clear h hf hs hZl hM hZ hn hd
 have iw:IntKind.i64.wrap ((l:Int)-1)=(l:Int)-1:=IntWalk.i64_in _ (by omega)
 go_enter Tryz.func84,Tryz.ntmps84
 go_wp2
 go_loopw [7,8,9] (fun s7 s8 s9 wr=>∃ j:Nat,j≤l∧s7=.int .i64 (atv n d (f.drop j))∧s8=.int .i64 (d^(l-j))∧s9=.int .i64 ((j:Int)-1)∧Below w.heap.size w wr) (fun _ _ s9 _=>(intOf s9+1).toNat)
 case atStart=>exact ⟨l,Nat.le_refl _,by rw [List.drop_of_length_le (by rw [Hll.out];exact Nat.le_refl _)];rfl,by rw [Nat.sub_self,Int.pow_zero],rfl,Below.refl _ _⟩
 case round =>
  obtain ⟨j,hj,rfl,rfl,rfl,hbw⟩:=hrel
  have Hbw:=Lib.hid hbw
  by_cases h0:0<j
  ·obtain ⟨i,rfl⟩:∃ i,j=i+1:=⟨j-1,by omega⟩
   obtain ⟨b,o,rfl,hb,hc⟩:=(H.out.below hbw).at_ (by omega)
   have e1:=hc i (by omega)
   have hd1:f.drop i=f.getD i 0 :: f.drop (i+1):=by
    have hil:i<f.length:=by rw [Hll.out];omega
    rw [List.drop_eq_getElem_cons hil,List.getD_eq_getElem?_getD,List.getElem?_eq_getElem hil]
    rfl
   have hA:atv n d (f.drop i)=atv n d (f.drop (i+1))*n+f.getD i 0*d^(l-(i+1)):=by
    rw [hd1]
    show atv n d (f.drop (i+1))*n+f.getD i 0*d^(f.drop (i+1)).length=_
    rw [List.length_drop,Hll.out]
   have hD:d^(l-i)=d^(l-(i+1))*d:=by rw [← Int.pow_succ];congr 1;omega
   have b1:=(HV.out (i+1) hj).2
   have b2:=HM.out i (l-(i+1)) (by omega)
   have b3:=(HV.out i (by omega)).1
   have b4:=HP.out (l-i) (by omega)
   rw [hA] at b3
   rw [hD] at b4
   have HA:=Lib.hid hA
   have HD:=Lib.hid hD
   obtain ⟨V,hV⟩:∃ V,V=atv n d (f.drop (i+1)):=⟨_,rfl⟩
   obtain ⟨P,hP⟩:∃ P,P=d^(l-(i+1)):=⟨_,rfl⟩
   obtain ⟨x,hx⟩:∃ x,x=f.getD i 0:=⟨_,rfl⟩
   rw [← hV] at b1 b3 HA ⊢
   rw [← hP] at b2 b3 b4 HA HD ⊢
   rw [← hx] at b2 b3 e1 HA
   have i0:((i+1:Nat):Int)-1=(i:Int):=by omega
   have i1:IntKind.i64.wrap (V*n)=V*n:=IntWalk.i64_in _ (by omega)
   have i2:IntKind.i64.wrap (x*P)=x*P:=IntWalk.i64_in _ (by omega)
   have i3:IntKind.i64.wrap (V*n+x*P)=V*n+x*P:=IntWalk.i64_in _ (by omega)
   have i4:IntKind.i64.wrap (P*d)=P*d:=IntWalk.i64_in _ (by omega)
   have i5:IntKind.i64.wrap ((i:Int)-1)=(i:Int)-1:=IntWalk.i64_in _ (by omega)
   have i6:(i:Int)<(l:Int):=by omega
   have i7:(0:Int)≤(i:Int):=by omega
   have Hi:=Lib.hid (show i≤l by omega)
   rw [i0]
   clear hV hP hx hd1 hA hD hc hb hbw b1 b2 b3 b4 hj h0
   go_wp2
   go_roundw
   case rel=>exact ⟨i,Hi.out,by rw [HA.out],by rw [HD.out],rfl,Hbw.out⟩
   case measure=>simp [intOf]
  ·obtain rfl:j=0:=by omega
   have HE:f.drop 0=f:=rfl
   rw [HE]
   clear hbw hj h0
   go_wp2_with fail
   refine (sign15_any _ _).mono ?_
   rintro e w2 ⟨rfl,hw2⟩
   obtain rfl:=hw2
   go_wp2
   go_ret
   exact ⟨rfl,Hbw.out⟩
end Go.Proofs.YtipocabbjinbhaaGreat
namespace Go.Proofs.YtipocabbjinbhaaGreat
open Go Go.RowKit
theorem sg_neg_iff (n:Int):sg n<0↔n<0:=by rcases sg_cases n with ⟨c,e⟩ | ⟨c,e⟩ | ⟨c,e⟩<;>omega
set_option maxRecDepth 100000 in
set_option maxHeartbeats 4000000 in
theorem cmp15_any {w:World} {A:Option Addr} {l c:Nat} {p:List Int} (h:I64At w A l c p) (hp:FcP p) (k:Nat) (hk:k≤1) (n d:Int) (hn:n.natAbs≤128) (hd:d.natAbs≤128) :
 Calls Tryz.prog 36 #[.slice A l c,.int .i64 (k:Int),.int .i64 n,.int .i64 d] w fun e w'=>e=.returned (.int .i64 (cmpv p k n d))∧Below w.heap.size w w':=by
 have H:=Lib.hid h
 have hl3:l=2∨l=3:=by rw [← h.length];exact hp.len
 have HB:=Lib.hid hp.bd
 go_enter Tryz.func36,Tryz.ntmps36
 rcases hl3 with rfl | rfl
 ·have HC:=Lib.hid (show cmpv p k n d=-sg (atv n d p) by unfold cmpv;rw [if_pos h.length])
  generalize cmpv p k n d=C at HC ⊢
  clear h hp
  go_wp2_with fail
  refine (at15_any H.out n d (by omega) (M:=29) (Z:=128) (by decide) (by decide) hn hd HB.out (by decide)).mono ?_
  rintro e w1 ⟨rfl,hb1⟩
  have hs:=sg_cases (atv n d p)
  generalize sg (atv n d p)=S at hs HC
  have i1:IntKind.i64.wrap (-S)=-S:=IntWalk.i64_in _ (by omega)
  have Hb1:=Lib.hid hb1
  clear hs hb1
  go_wp2
  go_ret
  exact ⟨by rw [HC.out];rfl,Hb1.out⟩
 ·have HC:=Lib.hid (show cmpv p k n d=if atv n d p<0 then 2*(k:Int)-1 else if -p.getD 1 0*d<2*p.getD 2 0*n then -1 else 1 by unfold cmpv;rw [if_neg (by rw [h.length];decide)])
  generalize cmpv p k n d=C at HC ⊢
  clear h hp
  go_wp2_with fail
  refine (at15_any H.out n d (by omega) (M:=29) (Z:=128) (by decide) (by decide) hn hd HB.out (by decide)).mono ?_
  rintro e w1 ⟨rfl,hb1⟩
  have hs:=sg_cases (atv n d p)
  have hsn:=sg_neg_iff (atv n d p)
  generalize sg (atv n d p)=S at hs hsn ⊢
  have Hb1:=Lib.hid hb1
  by_cases c0:S<0
  ·rw [if_pos (hsn.1 c0)] at HC
   have i1:IntKind.i64.wrap (2*(k:Int))=2*(k:Int):=IntWalk.i64_in _ (by omega)
   have i2:IntKind.i64.wrap (2*(k:Int)-1)=2*(k:Int)-1:=IntWalk.i64_in _ (by omega)
   clear hs hsn hb1
   go_wp2
   go_ret
   exact ⟨by rw [HC.out];rfl,Hb1.out⟩
  ·rw [if_neg (fun h=>c0 (hsn.2 h))] at HC
   obtain ⟨b1,o1,rfl,hb,hc1⟩:=(H.out.below hb1).at_ (by omega)
   have e1:=hc1 1 (by omega)
   have e2:=hc1 2 (by omega)
   have v1:=HB.out 1
   have v2:=HB.out 2
   obtain ⟨x1,hx1⟩:∃ x,x=p.getD 1 0:=⟨_,rfl⟩
   obtain ⟨x2,hx2⟩:∃ x,x=p.getD 2 0:=⟨_,rfl⟩
   rw [← hx1] at e1 HC v1
   rw [← hx2] at e2 HC v2
   obtain ⟨y1,hy1⟩:∃ y,y=2*x2:=⟨_,rfl⟩
   obtain ⟨y2,hy2⟩:∃ y,y=y1*n:=⟨_,rfl⟩
   obtain ⟨y3,hy3⟩:∃ y,y=-x1:=⟨_,rfl⟩
   obtain ⟨y4,hy4⟩:∃ y,y=y3*d:=⟨_,rfl⟩
   have m2:y2.natAbs≤58*128:=by rw [hy2,Int.natAbs_mul];exact Nat.mul_le_mul (by omega) hn
   have m4:y4.natAbs≤29*128:=by rw [hy4,Int.natAbs_mul];exact Nat.mul_le_mul (by omega) hd
   have i1:IntKind.i64.wrap y1=y1:=IntWalk.i64_in _ (by omega)
   have i2:IntKind.i64.wrap y2=y2:=IntWalk.i64_in _ (by omega)
   have i3:IntKind.i64.wrap y3=y3:=IntWalk.i64_in _ (by omega)
   have i4:IntKind.i64.wrap y4=y4:=IntWalk.i64_in _ (by omega)
   have f1:2*x2=y1:=hy1.symm
   have f2:y1*n=y2:=hy2.symm
   have f3:-x1=y3:=hy3.symm
   have f4:y3*d=y4:=hy4.symm
   rw [f3,f1,f4,f2] at HC
   clear hx1 hx2 hc1 hy1 hy2 hy3 hy4 v1 v2 m2 m4 hs hsn hb1
   go_wp2_with fail
   refine wp_region_held_drew (S:=fun w'=>w'.cell? ⟨b1,o1+1,none⟩=some (.int .i64 x1)∧w'.cell? ⟨b1,o1+2,none⟩=some (.int .i64 x2)) (by kernel_rfl) (by (try dsimp only);go_keep) (fun hHeld=>?_)
   (refine tk (i:=0) (v:=?_) rfl rfl (Or.inl ⟨by rfl,?_⟩) ?_;rotate_left;(focus (intro w hSw;(try dsimp only at hSw);go_simp;(try with_reducible rfl)));(simp only [put_lit,List.set]))
   (refine tk (i:=1) (v:=?_) rfl rfl (Or.inl ⟨by rfl,?_⟩) ?_;rotate_left;(focus (intro w hSw;(try dsimp only at hSw);go_simp;(try with_reducible rfl)));(simp only [put_lit,List.set]))
   (refine tk (i:=2) (v:=?_) rfl rfl (Or.inl ⟨by rfl,?_⟩) ?_;rotate_left;(focus (intro w hSw;(try dsimp only at hSw);go_simp;(try with_reducible rfl)));(simp only [put_lit,List.set]))
   (refine tk (i:=3) (v:=?_) rfl rfl (Or.inl ⟨by rfl,?_⟩) ?_;rotate_left;(focus (intro w hSw;(try dsimp only at hSw);go_simp;(try with_reducible rfl)));(simp only [put_lit,List.set]))
   (refine tk (i:=4) (v:=?_) rfl rfl (Or.inl ⟨by rfl,?_⟩) ?_;rotate_left;(focus (intro w hSw;(try dsimp only at hSw);go_simp;(try with_reducible rfl)));(simp only [put_lit,List.set]))
   (refine tk (i:=5) (v:=?_) rfl rfl (Or.inl ⟨by rfl,?_⟩) ?_;rotate_left;(focus (intro w hSw;(try dsimp only at hSw);go_simp;(try with_reducible rfl)));(simp only [put_lit,List.set]))
   (refine tk (i:=6) (v:=?_) rfl rfl (Or.inl ⟨by rfl,?_⟩) ?_;rotate_left;(focus (intro w hSw;(try dsimp only at hSw);go_simp;(try with_reducible rfl)));(simp only [put_lit,List.set]))
   (refine tk (i:=7) (v:=?_) rfl rfl (Or.inl ⟨by rfl,?_⟩) ?_;rotate_left;(focus (intro w hSw;(try dsimp only at hSw);go_simp;(try with_reducible rfl)));(simp only [put_lit,List.set]))
   (refine tk (i:=8) (v:=?_) rfl rfl (Or.inl ⟨by rfl,?_⟩) ?_;rotate_left;(focus (intro w hSw;(try dsimp only at hSw);go_simp;(try with_reducible rfl)));(simp only [put_lit,List.set]))
   (refine tk (i:=9) (v:=?_) rfl rfl (Or.inl ⟨by rfl,?_⟩) ?_;rotate_left;(focus (intro w hSw;(try dsimp only at hSw);go_simp;(try with_reducible rfl)));(simp only [put_lit,List.set]))
   (refine tk (i:=10) (v:=?_) rfl rfl (Or.inl ⟨by rfl,?_⟩) ?_;rotate_left;(focus (intro w hSw;(try dsimp only at hSw);go_simp;(try with_reducible rfl)));(simp only [put_lit,List.set]))
   (refine tk (i:=11) (v:=?_) rfl rfl (Or.inl ⟨by rfl,?_⟩) ?_;rotate_left;(focus (intro w hSw;(try dsimp only at hSw);go_simp;(try with_reducible rfl)));(simp only [put_lit,List.set]))
   (refine tk (i:=12) (v:=?_) rfl rfl (Or.inl ⟨by rfl,?_⟩) ?_;rotate_left;(focus (intro w hSw;(try dsimp only at hSw);go_simp;(try with_reducible rfl)));(simp only [put_lit,List.set]))
   refine wpAnyH_done (by kernel_rfl) ?_ _
   clear hHeld i1 i2 i3 f1 f2 f3
   by_cases cd:y4<y2
   ·rw [if_pos cd] at HC
    go_wp2
    go_ret
    exact ⟨by rw [HC.out];rfl,below_drewn Hb1.out _⟩
   ·rw [if_neg cd] at HC
    go_wp2
    go_ret
    exact ⟨by rw [HC.out];rfl,below_drewn Hb1.out _⟩
end Go.Proofs.YtipocabbjinbhaaGreat
namespace Go.Proofs.YtipocabbjinbhaaGreat
open Go Go.RowKit
theorem lfsum_app (J:List Int→Int) (x:List Int×Nat):∀ l:List (List Int×Nat),lfsum J (l ++ [x])=lfsum J l+J x.1
 | []=>by show J x.1+0=0+_;omega
 | (r,m) :: l=>by
   show J r+lfsum J (l ++ [x])=J r+lfsum J l+_
   rw [lfsum_app J x l]
   omega
theorem realn_le (p:List Int):realn p≤2:=by
 unfold realn
 repeat' split
 all_goals omega
theorem ksum_bd {j:Nat→Int} (h:∀ k,(j k).natAbs≤1):∀ n,(ksum j n).natAbs≤n
 | 0=>Nat.le_refl _
 | n+1=>by
   have h1:=ksum_bd h n
   have h2:=h n
   show (ksum j n+j n).natAbs≤n+1
   omega
theorem lfsum_bd {J:List Int→Int} (h:∀ p,(J p).natAbs≤2):∀ l:List (List Int×Nat),(lfsum J l).natAbs≤2*l.length
 | []=>Nat.le_refl _
 | (r,m) :: l=>by
   have h1:=lfsum_bd h l
   have h2:=h r
   show (J r+lfsum J l).natAbs≤2*(l.length+1)
   omega
def csum (j:List Int→Nat→Int) (l:List (List Int×Nat)):Int:=lfsum (fun p=>ksum (j p) (realn p)) l
theorem csum_bd {j:List Int→Nat→Int} (h:∀ p k,(j p k).natAbs≤1) (l:List (List Int×Nat)):(csum j l).natAbs≤2*l.length :=
 lfsum_bd (fun p=>Nat.le_trans (ksum_bd (h p) _) (realn_le p)) l
structure FsI (w:World) (A:Option Addr) (l i:Nat) (fs:List (List Int×Nat)) (r:List Int) (b o:Nat) (A1:Option Addr) (l1 c1:Nat):Prop where
 eq:A=some ⟨b,o,none⟩
 cell:w.cell? ⟨b,o+i*2,none⟩=some (.slice A1 l1 c1)
 lt:b<w.heap.size
 at_:I64At w A1 l1 c1 r
theorem fs_i {w:World} {A:Option Addr} {l c:Nat} {fs:List (List Int×Nat)} (h:FsAt w A l c fs) {i:Nat} (hi:i<l):∃ b o A1 l1 c1,FsI w A l i fs (fs.getD i ([],0)).1 b o A1 l1 c1:=by
 rcases h.elems with ⟨h0,_⟩ | ⟨b,o,e,hb,hv⟩
 ·omega
 ·obtain ⟨vs,⟨A1,l1,c1,ev,h1⟩,hc⟩:=hv i _ (getD_fs (by rw [h.length];exact hi))
  subst ev
  have:=hc 0 _ rfl
  rw [Nat.add_zero] at this
  exact ⟨b,o,A1,l1,c1,e,this,hb,h1⟩
theorem FsI.below {w w':World} {A:Option Addr} {l i:Nat} {fs:List (List Int×Nat)} {r:List Int} {b o:Nat} {A1:Option Addr} {l1 c1:Nat} (h:FsI w A l i fs r b o A1 l1 c1) (hb:Below w.heap.size w w'):FsI w' A l i fs r b o A1 l1 c1 :=
 ⟨h.eq,(hb.cell (p:=⟨b,o+i*2,none⟩) h.lt).trans h.cell,Nat.lt_of_lt_of_le h.lt hb.size,h.at_.below hb⟩
set_option maxRecDepth 100000 in
set_option maxHeartbeats 8000000 in
theorem all15_any {w:World} {A:Option Addr} {l c:Nat} {fs:List (List Int×Nat)} (hF:FsAt w A l c fs) (hl:l≤100) (hs:∀ x∈fs,FcP x.1) :
 Calls Tryz.prog 28 #[.slice A l c] w fun e w'=>e=.returned (.int .i64 (csum (fun _ _=>1) fs))∧Below w.heap.size w w':=by
 have HS:=Lib.hid hs
 have Hll:=Lib.hid hF.length
 have H1:=Lib.hid hF
 have HSB:=Lib.hid (fun n=>csum_bd (j:=fun _ _=>1) (fun _ _=>by decide) (fs.take n))
 obtain ⟨j,hj⟩:∃ j:List Int→Nat→Int,j=fun _ _=>1:=⟨_,rfl⟩
 rw [← hj] at HSB ⊢
 have HJ:=Lib.hid (show ∀ p n,ksum (j p) n=(n:Int) from fun p n=>by
  rw [hj]
  induction n with
  | zero=>rfl
  | succ n ih=>show ksum (fun _=>1) n+1=_;rw [show ksum (fun _=>1) n=(n:Int) from ih];omega)
 clear hj hF hs
 go_enter Tryz.func28,Tryz.ntmps28
 go_wp2
 go_loopw [3,4] (fun s3 s4 wr=>∃ i:Nat,i≤l∧s3=.int .i64 (csum j (fs.take i))∧s4=.int .i64 (i:Int)∧Below w.heap.size w wr) (fun _ s4 _=>l-(intOf s4).toNat)
 case atStart=>exact ⟨0,Nat.zero_le _,rfl,rfl,Below.refl _ _⟩
 case round =>
  obtain ⟨i,hi,rfl,rfl,hbw⟩:=hrel
  have HF1:=Lib.hid (fs_below H1.out hbw)
  have Hbw:=Lib.hid hbw
  obtain ⟨N,hN⟩:∃ N,N=csum j (fs.take i):=⟨_,rfl⟩
  rw [← hN]
  have hN2:=HSB.out i
  rw [← hN] at hN2
  have hlen:(fs.take i).length≤100:=by rw [List.length_take,Hll.out];omega
  have HN:=Lib.hid hN
  clear hN hbw
  by_cases hlt:i<l
  ·have Hlt:=Lib.hid hlt
   have hif:i<fs.length:=by rw [Hll.out];exact hlt
   obtain ⟨b0,o0,A1,l1,c1,hfi⟩:=fs_i HF1.out hlt
   obtain rfl:=hfi.eq
   have HFI:=Lib.hid hfi
   have e1:=hfi.cell
   have hmem:fs.getD i ([],0)∈fs:=by rw [List.getD_eq_getElem?_getD,List.getElem?_eq_getElem hif];exact List.getElem_mem _
   have HQ:=Lib.hid (HS.out _ hmem)
   have HT:=Lib.hid (show csum j (fs.take (i+1))=N+(realn (fs.getD i ([],0)).1:Int) by unfold csum at HN ⊢;rw [take_snoc hif ([],0),lfsum_app,HN.out,HJ.out])
   obtain ⟨r,hr⟩:∃ r,r=(fs.getD i ([],0)).1:=⟨_,rfl⟩
   rw [← hr] at HFI HT HQ
   have hr2:=realn_le r
   have ti:(i:Int)<(l:Int):=by omega
   have tw:IntKind.i64.wrap ((i:Int)+1)=(i:Int)+1:=IntWalk.i64_in _ (by omega)
   have tn:IntKind.i64.wrap (N+(realn r:Int))=N+(realn r:Int):=IntWalk.i64_in _ (by omega)
   clear hr hmem hif hi hN2 hlen hfi hlt
   go_wp2_with fail
   refine (real_any HFI.out.at_ HQ.out).mono ?_
   rintro e w3 ⟨rfl,hb3⟩
   have Hb3:=Lib.hid (Hbw.out.trans (hb3.mono Hbw.out.size))
   clear e1 hb3 hr2
   go_wp2
   go_roundw
   case rel=>exact ⟨i+1,Hlt.out,by rw [HT.out],by go_num,Hb3.out⟩
   case measure=>have:=Hlt.out;simp [intOf];omega
  ·have ti:¬ (i:Int)<(l:Int):=by omega
   have HE:fs.take i=fs:=by rw [List.take_of_length_le (by rw [Hll.out];omega)]
   rw [HE] at HN
   clear hi hlt hN2 hlen
   go_wp2
   go_ret
   exact ⟨by rw [← HN.out];rfl,Hbw.out⟩
end Go.Proofs.YtipocabbjinbhaaGreat
namespace Go.Proofs.YtipocabbjinbhaaGreat
open Go.RowKit
theorem prodf_nil:∀ (qs:List (List Int)) (P:List Int),plen P=0→plen (prodf P qs)=0
 | [],_,h=>h
 | q :: qs,P,h=>prodf_nil qs (rmul P q) (by rw [rmul_nil_l h];rfl)
theorem prodf_zer:∀ (qs:List (List Int)) (P:List Int),Zer qs→plen (prodf P qs)=0
 | [],_,⟨_,h,_⟩=>by cases h
 | q :: qs,P,⟨r,h,h0⟩=>by
   show plen (prodf (rmul P q) qs)=0
   rcases List.mem_cons.1 h with e | e
   ·exact prodf_nil qs _ (by rw [rmul_nil_r (by rw [← e];exact h0)];rfl)
   ·exact prodf_zer qs _ ⟨r,e,h0⟩
theorem tri_ok {qs:List (List Int)} (ht:Tri qs) (hz:¬ Zer qs):∀ q∈qs,plen q≠0∧plen q≤3:=fun q hq=>⟨fun e=>hz ⟨q,hq,e⟩,by have:=plen_le q;have:=(ht q hq).1;omega⟩
theorem prodf_ne {qs:List (List Int)} (ht:Tri qs) (hz:¬ Zer qs):plen (prodf [1] qs)≠0:=(prodf_mult (Pt.of 0) qs [1] (by decide) fun q h=>(tri_ok ht hz q h).1).1
theorem spl_q9 {q:List Int} (hl:q.length=3) (hs:Sma q):∀ p∈spl q,p.length=3→∀ j,(p.getD j 0).natAbs≤9:=fun p hp h3=>by
 have h9:=sma_abs hl hs
 unfold spl at hp
 split at hp
 ·cases hp
 ·split at hp
  ·rw [List.mem_singleton.1 hp];exact nrm_le h9
  ·have hld:=nrm_lead (p:=q) (by omega)
   rw [show plen q=3 by have:=plen_le q;omega] at hld
   have key:∀ z:Int,(lin1 (nrm q) z).length=2:=fun z=>by
    have hp2:plen [(nrm q).getD 1 0+z,2*(nrm q).getD 2 0]=2:=by rw [plen_cons_succ (by rw [plen_cons_one rfl (by have:0<(nrm q).getD 2 0:=hld;omega)];omega),plen_cons_one rfl (by have:0<(nrm q).getD 2 0:=hld;omega)]
    unfold lin1
    rw [nrm_len,hp2]
   split at hp
   ·rcases List.mem_cons.1 hp with e | e
    ·rw [e,key] at h3;cases h3
    ·rw [List.mem_singleton.1 e,key] at h3;cases h3
   ·rw [List.mem_singleton.1 hp];exact nrm_le h9
theorem facs_q9 {qs:List (List Int)} (ht:Tri qs):∀ x∈facs [] qs,x.1.length=3→∀ j,(x.1.getD j 0).natAbs≤9:=facs_mem (P:=fun p=>p.length=3→∀ j,(p.getD j 0).natAbs≤9) (fun q h=>spl_q9 (ht q h).1 (ht q h).2) (fun x hx=>by cases hx)
theorem facs_fcp {qs:List (List Int)} (ht:Tri qs) (hz:¬ Zer qs):∀ x∈facs [] qs,FcP x.1:=fun x hx=>⟨(facs_irr (tri_ok ht hz) x hx).1,(facs_fsm ht x hx).bd,facs_q9 ht x hx⟩
theorem known_sum {qs:List (List Int)} (ht:Tri qs) (hz:¬ Zer qs) (J:Pt→Int) (j:List Int→Nat→Int) (hj:∀ p,isLin p∨isQd p→∀ k,(h:k<(rts p).length)→J (rts p)[k]=j p k) {xs:List Pt} (hx:Lst (fun x=>sgp (prodf [1] qs) x=0) xs):isum (xs.map J)=csum j (facs [] qs):=by
 rw [prod_sum (tri_ok ht hz) J hx]
 refine lfsum_congr fun y hy=>?_
 have hi:=(facs_irr (tri_ok ht hz) y hy).1
 exact isum_ksum J (j y.1) _ _ (rts_irr hi).1 (hj y.1 hi)
theorem known_p9 {qs:List (List Int)} (ht:Tri qs) (h4:qs.length≤4):P9 (prodf [1] qs):=by
 have h1:=prodf_bd qs [1] 1 ht one_abs
 have h2:=prodf_len qs [1] 0 ht (by decide) (by decide)
 have h3:27^qs.length≤27^4:=Nat.pow_le_pow_right (by decide) h4
 refine ⟨by have:=plen_le (prodf [1] qs);omega,fun j=>?_⟩
 have h5:=h1 j
 refine Nat.le_trans (show ((prodf [1] qs).getD j 0).natAbs≤BB^1 by rw [Nat.pow_one,BB_eq];omega) (bbk_le (by decide))
section
variable {qs:List (List Int)} (ht:Tri qs) (hz:¬ Zer qs) (h4:qs.length≤4)
include ht hz h4
theorem known_all:nall (prodf [1] qs)=csum (fun _ _=>1) (facs [] qs):=by
 have h9:=known_p9 ht h4
 obtain ⟨xs,hx⟩:=roots_ex (prodf_ne ht hz)
 have hx':Lst (fun x=>sgp (prodf [1] qs) x=0) xs:=hx
 rw [nall_count h9.cp h9.der (prodf_ne ht hz) hx',← known_sum ht hz (fun _=>1) (fun _ _=>1) (fun _ _ _ _=>rfl) hx',isum_ones]
end
end Go.Proofs.YtipocabbjinbhaaGreat
namespace Go.Proofs.YtipocabbjinbhaaGreat
open Go.RowKit
set_option maxHeartbeats 4000000 in
theorem floor_all (na:Bool) (A:Option Addr) (la ca:Nat) (a:Int) (nb:Bool) (B:Option Addr) (lb cb:Nat) (b:Int) (w:World) (ha:IntAt w na A la ca a) (hb:IntAt w nb B lb cb b) (hsa:SmI a) (hsb:SmI b) (hb0:b≠0) (hs1:Sm (a.natAbs+1)) (hs2:Sm (a.natAbs+b.natAbs)) :
 Calls Tryz.prog 101 #[.agg #[.bool na,.slice A la ca],.agg #[.bool nb,.slice B lb cb]] w fun e w'=>∃ n1 A1 l1 c1 n2 A2 l2 c2,e=.returned (.tuple #[.agg #[.bool n1,.slice A1 l1 c1],.agg #[.bool n2,.slice A2 l2 c2],.int .i64 0])∧IntN w' n1 A1 l1 c1 (flq a b)∧IntN w' n2 A2 l2 c2 (flr a b)∧Below w.heap.size w w':=by
 have hbx:Below w.heap.size w ((((w.alloc (ibox na A la ca)).alloc (ibox nb B lb cb)).alloc (ibox false none 0 0)).alloc (ibox false none 0 0)):=below_four w _ _ _ _ (Nat.le_refl _)
 have hA0:=ha.below hbx
 have hB0:=hb.below hbx
 have Hbx:=Lib.hid hbx
 clear ha hb hbx
 go_enter Tryz.func101,Tryz.ntmps101
 go_wp2_with fail
 refine (quo_all _ _ _ _ _ _ _ _ _ _ _ hA0 hB0 hsa hsb hb0).mono ?_
 rintro e w1 ⟨n1,A1,l1,c1,n2,A2,l2,c2,rfl,h1,h2,hb1⟩
 obtain ⟨hc,hf⟩:=bcell hb1
 have hsz:=hb1.size
 simp only [World.size_alloc] at hsz
 have d10:w1.cell? ⟨w.heap.size+1,0,none⟩=some (.bool nb):=by rw [hc _ _ (by simp)];go_simp
 have d11:w1.cell? ⟨w.heap.size+1,1,none⟩=some (.slice B lb cb):=by rw [hc _ _ (by simp)];go_simp
 have d20:w1.cell? ⟨w.heap.size+1+1,0,none⟩=some (.bool false):=by rw [hc _ _ (by simp)];go_simp
 have f20:w1.frozen? ⟨w.heap.size+1+1,0,none⟩=false:=by rw [hf _ _ (by simp)];go_simp
 have d21:w1.cell? ⟨w.heap.size+1+1,1,none⟩=some (.slice none 0 0):=by rw [hc _ _ (by simp)];go_simp
 have f21:w1.frozen? ⟨w.heap.size+1+1,1,none⟩=false:=by rw [hf _ _ (by simp)];go_simp
 have d30:w1.cell? ⟨w.heap.size+1+1+1,0,none⟩=some (.bool false):=by rw [hc _ _ (by simp)];go_simp
 have f30:w1.frozen? ⟨w.heap.size+1+1+1,0,none⟩=false:=by rw [hf _ _ (by simp)];go_simp
 have d31:w1.cell? ⟨w.heap.size+1+1+1,1,none⟩=some (.slice none 0 0):=by rw [hc _ _ (by simp)];go_simp
 have f31:w1.frozen? ⟨w.heap.size+1+1+1,1,none⟩=false:=by rw [hf _ _ (by simp)];go_simp
 have h1':=h1.rets (g:=w.heap.size+1+1) (g':=w.heap.size+1+1+1) (by omega) (.bool n1) (.slice A1 l1 c1) (.bool n2) (.slice A2 l2 c2) d20 d21 d30 d31
 have h2':=h2.rets (g:=w.heap.size+1+1) (g':=w.heap.size+1+1+1) (by omega) (.bool n1) (.slice A1 l1 c1) (.bool n2) (.slice A2 l2 c2) d20 d21 d30 d31
 have hB1:=(((((hB0.below hb1).store (.bool n1) d20 (noDigit_bool _)).store (.slice A1 l1 c1) (p:=⟨w.heap.size+1+1,1,none⟩) (v:=.slice none 0 0) (by go_simp) (noDigit_slice _ _ _))).store (.bool n2) (p:=⟨w.heap.size+1+1+1,0,none⟩) (v:=.bool false) (by go_simp) (noDigit_bool _)).store (.slice A2 l2 c2) (p:=⟨w.heap.size+1+1+1,1,none⟩) (v:=.slice none 0 0) (by go_simp) (noDigit_slice _ _ _)
 have hbw:=(((((Hbx.out.trans (hb1.mono Hbx.out.size)).setCell (p:=⟨w.heap.size+1+1,0,none⟩) (by simp<;>omega) (.bool n1)).setCell (p:=⟨w.heap.size+1+1,1,none⟩) (by simp<;>omega) (.slice A1 l1 c1)).setCell (p:=⟨w.heap.size+1+1+1,0,none⟩) (by simp<;>omega) (.bool n2)).setCell (p:=⟨w.heap.size+1+1+1,1,none⟩) (by simp<;>omega) (.slice A2 l2 c2))
 have hW:∃ W,W=(((w1.setCell ⟨w.heap.size+1+1,0,none⟩ (.bool n1)).setCell ⟨w.heap.size+1+1,1,none⟩ (.slice A1 l1 c1)).setCell ⟨w.heap.size+1+1+1,0,none⟩ (.bool n2)).setCell ⟨w.heap.size+1+1+1,1,none⟩ (.slice A2 l2 c2):=⟨_,rfl⟩
 obtain ⟨W,hW⟩:=hW
 rw [← hW] at h1' h2' hB1 hbw
 have w10:W.cell? ⟨w.heap.size+1,0,none⟩=some (.bool nb):=by rw [hW];go_simp
 have w11:W.cell? ⟨w.heap.size+1,1,none⟩=some (.slice B lb cb):=by rw [hW];go_simp
 have w20:W.cell? ⟨w.heap.size+1+1,0,none⟩=some (.bool n1):=by rw [hW];go_simp
 have w21:W.cell? ⟨w.heap.size+1+1,1,none⟩=some (.slice A1 l1 c1):=by rw [hW];go_simp
 have w30:W.cell? ⟨w.heap.size+1+1+1,0,none⟩=some (.bool n2):=by rw [hW];go_simp
 have w31:W.cell? ⟨w.heap.size+1+1+1,1,none⟩=some (.slice A2 l2 c2):=by rw [hW];go_simp
 have g20:W.frozen? ⟨w.heap.size+1+1,0,none⟩=false:=by rw [hW];go_simp
 have g21:W.frozen? ⟨w.heap.size+1+1,1,none⟩=false:=by rw [hW];go_simp
 have g30:W.frozen? ⟨w.heap.size+1+1+1,0,none⟩=false:=by rw [hW];go_simp
 have g31:W.frozen? ⟨w.heap.size+1+1+1,1,none⟩=false:=by rw [hW];go_simp
 have wsz:w.heap.size+4≤W.heap.size:=by rw [hW];simp;omega
 have Hw:=Lib.hid hW
 have HF:FlW w W nb B lb cb b n1 A1 l1 c1 (a.tdiv b) n2 A2 l2 c2 (a.tmod b):=⟨w10,w11,w20,w21,w30,w31,g20,g21,g30,g31,wsz,hB1,h1',h2',hbw⟩
 have HF:=Lib.hid HF
 clear hW h1' h2' hB1 hbw h1 h2 hB0 hA0 w10 w11 w20 w21 w30 w31 g20 g21 g30 g31 wsz
 go_wp2_with fail
 rw [← Hw.out]
 clear Hw d10 d11 d20 d21 d30 d31 f20 f21 f30 f31
 go_cut [24] (fun s24 wx=>s24=.bool (decide (sg (a.tmod b)*sg b<0))∧FlW w wx nb B lb cb b n1 A1 l1 c1 (a.tdiv b) n2 A2 l2 c2 (a.tmod b))
 case first =>
  have e10:=HF.out.w10
  have e11:=HF.out.w11
  have e30:=HF.out.w30
  have e31:=HF.out.w31
  have esz:=HF.out.size
  have k1:w.heap.size+1<W.heap.size:=by omega
  have k3:w.heap.size+1+1+1<W.heap.size:=by omega
  have hwp:IntKind.i64.wrap (sg (a.tmod b)*sg b)=sg (a.tmod b)*sg b:=by
   rcases sg_cases (a.tmod b) with ⟨_,x2⟩ | ⟨_,x2⟩ | ⟨_,x2⟩<;>rcases sg_cases b with ⟨_,y2⟩ | ⟨_,y2⟩ | ⟨_,y2⟩<;>rw [x2,y2]<;>rfl
  have hsr:SmI (a.tmod b):=by
   unfold SmI at *
   refine hsa.mono ?_
   rw [Int.natAbs_tmod]
   exact Nat.mod_le _ _
  go_region_with (first
   | (go_at_call_of 85 (Value.slice A2 l2 c2);go_must (refine (isign_any _ _ _ _ _ _ ?_ hsr).mono ?_;(exact HF.out.hr.at_.below (by repeat (first | exact Below.refl _ _ | refine Below.drew ?_ | refine Below.alloc ?_ (by simp;try omega) _)));rintro e w' ⟨rfl,rfl⟩))
   | (go_at_call_of 85 (Value.slice B lb cb);go_must (refine (isign_any _ _ _ _ _ _ ?_ hsb).mono ?_;(exact HF.out.hb.below (by repeat (first | exact Below.refl _ _ | refine Below.drew ?_ | refine Below.alloc ?_ (by simp;try omega) _)));rintro e w' ⟨rfl,rfl⟩)))
  all_goals go_wp2_with fail
  all_goals go_meet
  all_goals
   refine ⟨rfl,HF.out.move ?_⟩
   repeat (first | exact Below.refl _ _ | refine Below.drew ?_ | refine Below.alloc ?_ (by simp;try omega) _)
 case rest =>
  clear HF
  obtain ⟨rfl,hfl⟩:=hcut
  have HF:=Lib.hid hfl
  by_cases hneg:sg (a.tmod b)*sg b<0
  ·have e1:flq a b=a.tdiv b-1:=if_pos hneg
   have e2:flr a b=a.tmod b+b:=if_pos hneg
   rw [show decide (sg (a.tmod b)*sg b<0)=true from decide_eq_true hneg]
   have E1:=Lib.hid e1
   have E2:=Lib.hid e2
   clear e1 e2 hneg
   have e20:=hfl.w20
   have e21:=hfl.w21
   have f20:=hfl.g20
   have f21:=hfl.g21
   have esz:=hfl.size
   have hq1:=hfl.hq.at_.below (Below.refl _ _).drew
   have hsq:SmI (a.tdiv b):=by
    unfold SmI at *
    refine hsa.mono ?_
    rw [Int.natAbs_tdiv]
    exact Nat.div_le_self _ _
   have hsq1:Sm ((a.tdiv b).natAbs+(1:Int).natAbs):=by
    refine hs1.mono ?_
    rw [Int.natAbs_tdiv]
    have:=Nat.div_le_self a.natAbs b.natAbs
    simp;exact this
   have hsr:SmI (a.tmod b):=by
    unfold SmI at *
    refine hsa.mono ?_
    rw [Int.natAbs_tmod]
    exact Nat.mod_le _ _
   have hsr1:Sm ((a.tmod b).natAbs+b.natAbs):=by
    refine hs2.mono ?_
    rw [Int.natAbs_tmod]
    have:=Nat.mod_le a.natAbs b.natAbs
    omega
   have k2:w.heap.size+1+1<wc.heap.size:=by omega
   have HD:=Lib.hid (hfl.move (Below.refl _ _).drew)
   clear hfl hq1
   go_wp2_with fail
   go_cut [] (fun wx=>∃ n4 A4 l4 c4,FlW w wx nb B lb cb b n4 A4 l4 c4 (a.tdiv b-1) n2 A2 l2 c2 (a.tmod b))
   case first =>
    go_region_with (first
     | (go_at_call 38;go_must (refine (iof_any 1 _ (by unfold I64;omega)).mono ?_;rintro e w3 ⟨n3,A3,l3,c3,rfl,h3,hb3⟩;obtain ⟨hc3,hf3⟩:=bcell hb3;have hsz3:=hb3.size;simp only [World.size_drew] at hsz3;have hq2:=(HD.out.move hb3).hq.at_;have r20:w3.cell? ⟨w.heap.size+1+1,0,none⟩=some (.bool n1):=(hc3 _ _ (by simpa using k2)).trans e20;have r21:w3.cell? ⟨w.heap.size+1+1,1,none⟩=some (.slice A1 l1 c1):=(hc3 _ _ (by simpa using k2)).trans e21))
     | (go_at_call 102;go_must (refine (isub_any _ _ _ _ _ _ _ _ _ _ _ hq2 h3.at_ hsq (SmI.of64 (by unfold I64;omega)) hsq1).mono ?_;rintro e w4 ⟨n4,A4,l4,c4,rfl,h4,hb4⟩;have HG:=Lib.hid (HD.out.move (hb3.trans (hb4.mono hb3.size)));have H4:=Lib.hid h4;have s20:=HG.out.w20;have s21:=HG.out.w21;have t20:=HG.out.g20;have t21:=HG.out.g21)))
    all_goals go_wp2_with fail
    all_goals go_meet
    all_goals exact ⟨_,_,_,_,(HG.out.setq H4.out).move (by repeat (first | exact Below.refl _ _ | refine Below.drew ?_))⟩
   case rest =>
    clear HF HD e20 e21 f20 f21 esz k2 hsq hsq1
    obtain ⟨n4,A4,l4,c4,hfl⟩:=hcut
    have HF:=Lib.hid hfl
    have e10:=hfl.w10
    have e11:=hfl.w11
    have e20:=hfl.w20
    have e21:=hfl.w21
    have e30:=hfl.w30
    have e31:=hfl.w31
    have hr1:=hfl.hr.at_
    have hbb:=hfl.hb
    clear hfl
    go_wp2_with fail
    refine (iadd_any _ _ _ _ _ _ _ _ _ _ _ hr1 hbb hsr hsb hsr1).mono ?_
    rintro e w5 ⟨n5,A5,l5,c5,rfl,h5,hb5⟩
    have hg:=(HF.out.move hb5)
    have H5:=Lib.hid h5
    have HG:=Lib.hid hg
    have HH:=Lib.hid (hg.setr h5)
    clear e10 e11 e20 e21 e30 e31 hr1 hbb h5 hb5 hsr hsr1 HF
    have e20:=hg.w20
    have e21:=hg.w21
    have e30:=hg.w30
    have e31:=hg.w31
    have f20:=hg.g20
    have f21:=hg.g21
    have f30:=hg.g30
    have f31:=hg.g31
    clear hg
    go_wp2_with fail
    go_region
    go_wp2
    have HZ:=Lib.hid (((HH.out.setq HH.out.hq).setr (HH.out.setq HH.out.hq).hr).move (Below.refl _ _).drew)
    have z20:=HZ.out.w20
    have z21:=HZ.out.w21
    have z30:=HZ.out.w30
    have z31:=HZ.out.w31
    refine bodyPost_ret (v:=.tuple #[.agg #[.bool n4,.slice A4 l4 c4],.agg #[.bool n5,.slice A5 l5 c5],.int .i64 0]) (by clear e20 e21 e30 e31 f20 f21 f30 f31 HZ;generalize World.drew _=Z at z20 z21 z30 z31 ⊢;simp [results,Tryz.results101,go_sem,z20,z21,z30,z31]) rfl ⟨_,_,_,_,_,_,_,_,rfl,?_,?_,HZ.out.below⟩
    ·rw [E1.out];exact HZ.out.hq
    ·rw [E2.out];exact HZ.out.hr
  ·have E1:=Lib.hid (show flq a b=a.tdiv b from if_neg hneg)
   have E2:=Lib.hid (show flr a b=a.tmod b from if_neg hneg)
   rw [show decide (sg (a.tmod b)*sg b<0)=false from decide_eq_false hneg]
   have e20:=hfl.w20
   have e21:=hfl.w21
   have e30:=hfl.w30
   have e31:=hfl.w31
   have f20:=hfl.g20
   have f21:=hfl.g21
   have f30:=hfl.g30
   have f31:=hfl.g31
   clear hfl hneg
   go_wp2_with fail
   go_region
   go_wp2
   have HZ:=Lib.hid (((HF.out.setq HF.out.hq).setr (HF.out.setq HF.out.hq).hr).move (Below.refl _ _).drew)
   refine bodyPost_ret (v:=.tuple #[.agg #[.bool n1,.slice A1 l1 c1],.agg #[.bool n2,.slice A2 l2 c2],.int .i64 0]) (by simp [results,Tryz.results101,go_sem,e20,e21,e30,e31]) rfl ⟨_,_,_,_,_,_,_,_,rfl,?_,?_,HZ.out.below⟩
   ·rw [E1.out];exact HZ.out.hq
   ·rw [E2.out];exact HZ.out.hr
structure CauSz (p:List Int):Prop where
 one:Sm (hst (ptrim p) (plen p-1)+1)
 add:Sm (hst (ptrim p) (plen p-1)+(plead (ptrim p)).natAbs)
 fin:Sm ((flq (-(hst (ptrim p) (plen p-1):Nat)) ((plead (ptrim p)).natAbs:Nat)).natAbs+1)
set_option maxHeartbeats 2000000 in
theorem cau_any {I:IntPred} (hI:IK I) (A:Option Addr) (len cap:Nat) (p:List Int) (w:World) (h:PolyP I w A len cap p) (hs:SmP p) (hm:len≤1099511627776) (hok:2≤plen p→CauSz p) :
 Calls Tryz.prog 49 #[.slice A len cap] w fun e w'=>∃ n1 A1 l1 c1,e=.returned (.agg #[.bool n1,.slice A1 l1 c1])∧IntN w' n1 A1 l1 c1 (cau p)∧Below w.heap.size w w':=by
 have hb0:Below w.heap.size w (w.alloc (ibox false none 0 0)):=(Below.refl _ _).alloc (Nat.le_refl _) _
 have h0:=h.below hI hb0
 have hpl:plen p≤1099511627776:=by have:=plen_le p;have:=h.length;omega
 have Hb0:=Lib.hid hb0
 clear h hb0
 go_enter Tryz.func49,Tryz.ntmps49
 go_wp2_with fail
 refine (pnormal_any hI _ _ _ _ _ h0 hs hm).mono ?_
 rintro e w1 ⟨g,rfl,hrow,hg,hb1⟩
 obtain ⟨hc,hf⟩:=bcell hb1
 have hsz:=hb1.size
 simp only [World.size_alloc] at hsz hg
 have d00:w1.cell? ⟨w.heap.size,0,none⟩=some (.bool false):=by rw [hc _ _ (by simp)];go_simp
 have d01:w1.cell? ⟨w.heap.size,1,none⟩=some (.slice none 0 0):=by rw [hc _ _ (by simp)];go_simp
 have f00:w1.frozen? ⟨w.heap.size,0,none⟩=false:=by rw [hf _ _ (by simp)];go_simp
 have f01:w1.frozen? ⟨w.heap.size,1,none⟩=false:=by rw [hf _ _ (by simp)];go_simp
 have Hb1:=Lib.hid (Hb0.out.trans (hb1.mono Hb0.out.size))
 clear hc hf hb1 h0
 by_cases hlt:plen p<2
 ·have E:=Lib.hid (show cau p=0 from if_pos hlt)
  have HB:=Lib.hid (show IBox w1 w.heap.size false none 0 0 0 from ⟨d00,d01,f00,f01,by omega,⟨NatN.zero _ _ _,by simp⟩⟩)
  clear hrow
  go_wp2
  have HP:=Lib.hid (HB.out.put (n':=false) (A':=none) (l':=0) (c':=0) (z':=0) ⟨NatN.zero _ _ _,by simp⟩)
  refine bodyPost_ret (v:=.agg #[.bool false,.slice none 0 0]) (by simp [results,Tryz.results49,go_sem,d00,d01]) rfl ⟨_,_,_,_,rfl,by rw [E.out];exact HP.out.hz,(Hb1.out.setCell (p:=⟨w.heap.size,0,none⟩) (Nat.le_refl _) _).setCell (p:=⟨w.heap.size,1,none⟩) (Nat.le_refl _) _⟩
 ·have E:=Lib.hid (show cau p=_ from if_neg hlt)
  have hok2:=Lib.hid (hok (by omega))
  have hpt:=Lib.hid (ptrim_length p)
  have hpoly:=hrow.poly (cap:=plen p) (by rw [hpt.out];exact Nat.le_refl _)
  rw [hpt.out] at hpoly
  have hsp:=hs.ptrim
  have hpart:=hpoly.take (k:=plen p-1) (by omega)
  have HB:=Lib.hid (show IBox w1 w.heap.size false none 0 0 0 from ⟨d00,d01,f00,f01,by omega,⟨NatN.zero _ _ _,by simp⟩⟩)
  have HPo:=Lib.hid hpoly
  clear hrow hpoly hok
  go_wp2_with fail
  refine (height_any ikN _ _ _ _ _ hpart (hsp.take _) (by omega)).mono ?_
  rintro e w2 ⟨n2,A2,l2,c2,rfl,h2,hb2⟩
  rw [hst_take _ _ _ (Nat.le_refl _)] at h2
  have HB2:=Lib.hid (HB.out.move hb2)
  have HPo2:=Lib.hid (HPo.out.below ikN hb2)
  have Hb2:=Lib.hid (Hb1.out.trans (hb2.mono Hb1.out.size))
  have hsz2:=hb2.size
  have HT3:=Lib.hid (IBox.make h2)
  have hbx:Below w2.heap.size w2 (w2.alloc (ibox n2 A2 l2 c2)):=(Below.refl _ _).alloc (Nat.le_refl _) _
  have HB3:=Lib.hid (HB2.out.move hbx)
  have HPo3:=Lib.hid (HPo2.out.below ikN hbx)
  have Hb3:=Lib.hid (Hb2.out.trans (hbx.mono Hb2.out.size))
  clear d00 d01 f00 f01 hpart HB HPo hb2 HB2 HPo2 h2 hbx
  go_wp2_with fail
  refine (lead_any _ _ _ _ _ (HPo3.out.at_ ikN) hsp (by omega)).mono ?_
  rintro e w3 ⟨n3,A3,l3,c3,rfl,h3,hb3⟩
  have hsl:SmI (plead (ptrim p)):=hsp.getD _
  have HT4:=Lib.hid (HT3.out.move hb3)
  have HB4:=Lib.hid (HB3.out.move hb3)
  have Hb4:=Lib.hid (Hb3.out.trans (hb3.mono Hb3.out.size))
  have hsz3:=hb3.size
  simp only [World.size_alloc] at hsz3
  have hg3:w2.heap.size<w3.heap.size:=by omega
  clear HT3 HB3 HPo3 hb3
  go_wp2_with fail
  refine (iabs_any _ _ _ _ _ _ h3.at_ hsl).mono ?_
  rintro e w4 ⟨n4,A4,l4,c4,rfl,h4,hb4⟩
  have hbx:Below w4.heap.size w4 (w4.alloc (ibox n4 A4 l4 c4)):=(Below.refl _ _).alloc (Nat.le_refl _) _
  have HT5:=Lib.hid ((HT4.out.move hb4).move hbx)
  have HB5:=Lib.hid ((HB4.out.move hb4).move hbx)
  have HL5:=Lib.hid (IBox.make h4)
  have Hb5:=Lib.hid ((Hb4.out.trans (hb4.mono Hb4.out.size)).trans (hbx.mono (Hb4.out.trans (hb4.mono Hb4.out.size)).size))
  have hsz4:=hb4.size
  clear HT4 HB4 h3 h4 hb4 hbx
  have HT:=HT5
  have HL:=HL5
  have HB:=HB5
  have Hb:=Hb5
  have e30:=HT5.out.c0
  have e31:=HT5.out.c1
  have e40:=HL5.out.c0
  have e41:=HL5.out.c1
  have hht:SmI ((hst (ptrim p) (plen p-1):Nat):Int):=by unfold SmI;rw [Int.natAbs_natCast];exact hst_sm hsp _
  have hhn:SmI (-((hst (ptrim p) (plen p-1):Nat):Int)):=by unfold SmI;rw [Int.natAbs_neg,Int.natAbs_natCast];exact hst_sm hsp _
  have hll:SmI (((plead (ptrim p)).natAbs:Nat):Int):=by unfold SmI;rw [Int.natAbs_natCast];exact hsl
  have f0:(((plead (ptrim p)).natAbs:Nat):Int)≠0:=by
   have:=plead_ne (p:=ptrim p) (by rw [plen_ptrim];omega)
   omega
  have f1:Sm ((-((hst (ptrim p) (plen p-1):Nat):Int)).natAbs+1):=by rw [Int.natAbs_neg,Int.natAbs_natCast];exact hok2.out.one
  have f2:Sm ((-((hst (ptrim p) (plen p-1):Nat):Int)).natAbs+(((plead (ptrim p)).natAbs:Nat):Int).natAbs):=by rw [Int.natAbs_neg,Int.natAbs_natCast,Int.natAbs_natCast];exact hok2.out.add
  clear HT5 HL5 HB5 Hb5
  go_wp2_with fail
  have y2:w2.heap.size<w4.heap.size:=by omega
  have v0:w4.heap.size≠w2.heap.size:=by omega
  have v1:w4.heap.size+1≠w2.heap.size:=by omega
  have v2:w4.heap.size+1+1≠w2.heap.size:=by omega
  have v12:w4.heap.size+1+1≠w4.heap.size:=by omega
  go_cut [5] (fun s5 wx=>∃ g5 n6 A6 l6 c6,s5=.pointer (some ⟨g5,0,none⟩)∧w.heap.size<g5∧IBox wx g5 n6 A6 l6 c6 (flq (-(hst (ptrim p) (plen p-1):Nat)) ((plead (ptrim p)).natAbs:Nat))∧IBox wx w.heap.size false none 0 0 0∧Below w.heap.size w wx)
  case first =>
   go_region_held3 (fun w'=>w'.cell? ⟨w2.heap.size,0,none⟩=some (.bool n2)∧w'.cell? ⟨w2.heap.size,1,none⟩=some (.slice A2 l2 c2)∧w'.cell? ⟨w4.heap.size,0,none⟩=some (.bool n4)∧w'.cell? ⟨w4.heap.size,1,none⟩=some (.slice A4 l4 c4)) (go_keep) (first
    | (go_at_call 86;go_must (refine (ineg_any _ _ _ _ _ _ ?_ hht).mono ?_;(exact HT.out.hz.at_.below Bel.go);rintro e w5 ⟨n5,A5,l5,c5,rfl,h5,hb5⟩;obtain ⟨hc5,hf5⟩:=bcellS hb5;have HL6:=Lib.hid (HL.out.move (Below.trans Bel.go (hb5.mono (by simp<;>omega))));have HT6:=Lib.hid (HT.out.move (Below.trans Bel.go (hb5.mono (by simp<;>omega))));have HB6:=Lib.hid (HB.out.move (Below.trans Bel.go (hb5.mono (by simp<;>omega))));have zy:=hb5.size;(try simp only [World.size_alloc,World.size_drew] at zy);(try have z1:w4.heap.size+1<w5.heap.size:=(by omega));(try have z2:w4.heap.size+1+1<w5.heap.size:=(by omega));have v3:w5.heap.size≠w2.heap.size:=(by omega);have v4:w5.heap.size≠w4.heap.size:=(by omega);have v5:w5.heap.size+1≠w2.heap.size:=(by omega);have v6:w5.heap.size+1≠w4.heap.size:=(by omega);(try (have Z1:=Lib.hid (show IBox w5 (w4.heap.size+1) false none 0 0 0 from ⟨(by go_simp),(by go_simp),(by go_simp),(by go_simp),(by omega),⟨NatN.zero _ _ _,(by simp)⟩⟩);have Z1a:=Z1.out.c0;have Z1b:=Z1.out.c1;have Z1c:=Z1.out.f0;have Z1d:=Z1.out.f1));(try (have Z2:=Lib.hid (show IBox w5 (w4.heap.size+1+1) false none 0 0 0 from ⟨(by go_simp),(by go_simp),(by go_simp),(by go_simp),(by omega),⟨NatN.zero _ _ _,(by simp)⟩⟩);have Z2a:=Z2.out.c0;have Z2b:=Z2.out.c1;have Z2c:=Z2.out.f0;have Z2d:=Z2.out.f1));clear hc5 hf5;have Hbn:=Lib.hid (Hb.out.trans ((Below.trans Bel.go (hb5.mono (by simp<;>omega))).mono Hb.out.size));have q30:=HT6.out.c0;have q31:=HT6.out.c1;have q40:=HL6.out.c0;have q41:=HL6.out.c1))
    | (go_at_call 101;go_must (refine (floor_all _ _ _ _ _ _ _ _ _ _ _ ?_ ?_ hhn hll f0 f1 f2).mono ?_;(exact h5.at_.below Bel.go);(exact HL6.out.hz.at_.below Bel.go);rintro e w6 ⟨n6,A6,l6,c6,n7,A7,l7,c7,rfl,h6,h7,hb6⟩;obtain ⟨hc6,hf6⟩:=bcellS hb6;have H6:=Lib.hid h6;have HL7:=Lib.hid (HL6.out.move (Below.trans Bel.go (hb6.mono (by simp<;>omega))));have HT7:=Lib.hid (HT6.out.move (Below.trans Bel.go (hb6.mono (by simp<;>omega))));have HB7:=Lib.hid (HB6.out.move (Below.trans Bel.go (hb6.mono (by simp<;>omega))));have zz:=hb6.size;(try simp only [World.size_alloc] at zz);(try have z3:w4.heap.size+1<w6.heap.size:=(by omega));(try have z4:w4.heap.size+1+1<w6.heap.size:=(by omega));(try have z5:w5.heap.size<w6.heap.size:=(by omega));(try have z6:w5.heap.size+1<w6.heap.size:=(by omega));have v7:w6.heap.size≠w2.heap.size:=(by omega);have v8:w6.heap.size≠w4.heap.size:=(by omega);have v9:w6.heap.size+1≠w2.heap.size:=(by omega);have v10:w6.heap.size+1≠w4.heap.size:=(by omega);(try (have Y1:=Lib.hid (Z1.out.move (Below.trans Bel.go (hb6.mono (by simp<;>omega))));have Y1a:=Y1.out.c0;have Y1b:=Y1.out.c1;have Y1c:=Y1.out.f0;have Y1d:=Y1.out.f1));(try (have Y2:=Lib.hid (Z2.out.move (Below.trans Bel.go (hb6.mono (by simp<;>omega))));have Y2a:=Y2.out.c0;have Y2b:=Y2.out.c1;have Y2c:=Y2.out.f0;have Y2d:=Y2.out.f1));(try (have Y3:=Lib.hid (show IBox w6 (w5.heap.size) false none 0 0 0 from ⟨(by go_simp),(by go_simp),(by go_simp),(by go_simp),(by omega),⟨NatN.zero _ _ _,(by simp)⟩⟩);have Y3a:=Y3.out.c0;have Y3b:=Y3.out.c1;have Y3c:=Y3.out.f0;have Y3d:=Y3.out.f1));(try (have Y4:=Lib.hid (show IBox w6 (w5.heap.size+1) false none 0 0 0 from ⟨(by go_simp),(by go_simp),(by go_simp),(by go_simp),(by omega),⟨NatN.zero _ _ _,(by simp)⟩⟩);have Y4a:=Y4.out.c0;have Y4b:=Y4.out.c1;have Y4c:=Y4.out.f0;have Y4d:=Y4.out.f1));clear hc6 hf6;have HbF:=Lib.hid (Hbn.out.trans ((Below.trans Bel.go (hb6.mono (by simp<;>omega))).mono Hbn.out.size));have p30:=HT7.out.c0;have p31:=HT7.out.c1;have p40:=HL7.out.c0;have p41:=HL7.out.c1)))
   all_goals go_wp2_with fail
   all_goals go_meet
   ·refine ⟨_,n6,A6,l6,c6,rfl,by omega,?_,?_,?_⟩
    ·exact (IBox.make H6.out).move Bel.go
    ·exact HB7.out.move Bel.go
    ·(repeat (first | exact HbF.out | refine Below.alloc ?_ (by first | (simp;done) | (simp;omega) | omega) _ | refine Below.setCell ?_ (by first | (simp;done) | (simp;omega) | omega) _))
   ·refine ⟨_,n6,A6,l6,c6,rfl,by omega,?_,?_,?_⟩
    ·have hx:=IBox.make (W:=w6.alloc (ibox n7 A7 l7 c7)) (H6.out.below Bel.go)
     rw [World.size_alloc] at hx
     exact hx
    ·exact HB7.out.move Bel.go
    ·(repeat (first | exact HbF.out | refine Below.alloc ?_ (by first | (simp;done) | (simp;omega) | omega) _ | refine Below.setCell ?_ (by first | (simp;done) | (simp;omega) | omega) _))
   ·refine ⟨_,n6,A6,l6,c6,rfl,by omega,?_,?_,?_⟩
    ·exact (Y3.out.put H6.out).move Bel.go
    ·exact (HB7.out.far Y3.out (by omega) _ _).move Bel.go
    ·(repeat (first | exact HbF.out | refine Below.alloc ?_ (by first | (simp;done) | (simp;omega) | omega) _ | refine Below.setCell ?_ (by first | (simp;done) | (simp;omega) | omega) _))
   ·refine ⟨_,n6,A6,l6,c6,rfl,by omega,?_,?_,?_⟩
    ·exact (Y3.out.put H6.out).far (Y4.out.far Y3.out (by omega) _ _) (by omega) _ _
    ·exact (HB7.out.far Y3.out (by omega) _ _).far (Y4.out.far Y3.out (by omega) _ _) (by omega) _ _
    ·(repeat (first | exact HbF.out | refine Below.alloc ?_ (by first | (simp;done) | (simp;omega) | omega) _ | refine Below.setCell ?_ (by first | (simp;done) | (simp;omega) | omega) _))
   ·refine ⟨_,n6,A6,l6,c6,rfl,by omega,?_,?_,?_⟩
    ·have hx:=IBox.make (H6.out.ret (.bool n7) (.slice A7 l7 c7) Y3.out.c0 Y3.out.c1)
     rw [World.size_setCell,World.size_setCell] at hx
     exact hx
    ·exact (HB7.out.far Y3.out (by omega) _ _).move Bel.go
    ·(repeat (first | exact HbF.out | refine Below.alloc ?_ (by first | (simp;done) | (simp;omega) | omega) _ | refine Below.setCell ?_ (by first | (simp;done) | (simp;omega) | omega) _))
   ·refine ⟨_,n6,A6,l6,c6,rfl,by omega,?_,?_,?_⟩
    ·exact (Y4.out.put H6.out).far (Y3.out.far Y4.out (by omega) _ _) (by omega) _ _
    ·exact (HB7.out.far Y4.out (by omega) _ _).far (Y3.out.far Y4.out (by omega) _ _) (by omega) _ _
    ·(repeat (first | exact HbF.out | refine Below.alloc ?_ (by first | (simp;done) | (simp;omega) | omega) _ | refine Below.setCell ?_ (by first | (simp;done) | (simp;omega) | omega) _))
   ·refine ⟨_,n6,A6,l6,c6,rfl,by omega,?_,?_,?_⟩
    ·exact (Y1.out.put H6.out).move Bel.go
    ·exact (HB7.out.far Y1.out (by omega) _ _).move Bel.go
    ·(repeat (first | exact HbF.out | refine Below.alloc ?_ (by first | (simp;done) | (simp;omega) | omega) _ | refine Below.setCell ?_ (by first | (simp;done) | (simp;omega) | omega) _))
   ·refine ⟨_,n6,A6,l6,c6,rfl,by omega,?_,?_,?_⟩
    ·exact (Y1.out.put H6.out).far (Y3.out.far Y1.out (by omega) _ _) (by omega) _ _
    ·exact (HB7.out.far Y1.out (by omega) _ _).far (Y3.out.far Y1.out (by omega) _ _) (by omega) _ _
    ·(repeat (first | exact HbF.out | refine Below.alloc ?_ (by first | (simp;done) | (simp;omega) | omega) _ | refine Below.setCell ?_ (by first | (simp;done) | (simp;omega) | omega) _))
   ·refine ⟨_,n6,A6,l6,c6,rfl,by omega,?_,?_,?_⟩
    ·exact (Y1.out.put H6.out).far (Y2.out.far Y1.out (by omega) _ _) (by omega) _ _
    ·exact (HB7.out.far Y1.out (by omega) _ _).far (Y2.out.far Y1.out (by omega) _ _) (by omega) _ _
    ·(repeat (first | exact HbF.out | refine Below.alloc ?_ (by first | (simp;done) | (simp;omega) | omega) _ | refine Below.setCell ?_ (by first | (simp;done) | (simp;omega) | omega) _))
   ·refine ⟨_,n6,A6,l6,c6,rfl,by omega,?_,?_,?_⟩
    ·have hx:=IBox.make (H6.out.ret (.bool n7) (.slice A7 l7 c7) Y1.out.c0 Y1.out.c1)
     rw [World.size_setCell,World.size_setCell] at hx
     exact hx
    ·exact (HB7.out.far Y1.out (by omega) _ _).move Bel.go
    ·(repeat (first | exact HbF.out | refine Below.alloc ?_ (by first | (simp;done) | (simp;omega) | omega) _ | refine Below.setCell ?_ (by first | (simp;done) | (simp;omega) | omega) _))
   ·refine ⟨_,n6,A6,l6,c6,rfl,by omega,?_,?_,?_⟩
    ·exact (Y3.out.put H6.out).far (Y1.out.far Y3.out (by omega) _ _) (by omega) _ _
    ·exact (HB7.out.far Y3.out (by omega) _ _).far (Y1.out.far Y3.out (by omega) _ _) (by omega) _ _
    ·(repeat (first | exact HbF.out | refine Below.alloc ?_ (by first | (simp;done) | (simp;omega) | omega) _ | refine Below.setCell ?_ (by first | (simp;done) | (simp;omega) | omega) _))
   ·refine ⟨_,n6,A6,l6,c6,rfl,by omega,?_,?_,?_⟩
    ·exact (Y2.out.put H6.out).far (Y1.out.far Y2.out (by omega) _ _) (by omega) _ _
    ·exact (HB7.out.far Y2.out (by omega) _ _).far (Y1.out.far Y2.out (by omega) _ _) (by omega) _ _
    ·(repeat (first | exact HbF.out | refine Below.alloc ?_ (by first | (simp;done) | (simp;omega) | omega) _ | refine Below.setCell ?_ (by first | (simp;done) | (simp;omega) | omega) _))
  case rest =>
   clear HT HL HB Hb e30 e31 e40 e41 y2 v0 v1 v2 v12 hht hhn hll f0 f1 f2
   obtain ⟨g5,n6,A6,l6,c6,rfl,hg5,hbx,hb0,hbw⟩:=hcut
   have hne:w.heap.size≠g5:=by omega
   have HX:=Lib.hid hbx
   have HB:=Lib.hid hb0
   have Hbw:=Lib.hid hbw
   have x0:=hbx.c0
   have x1:=hbx.c1
   have hsf:SmI (flq (-(hst (ptrim p) (plen p-1):Nat)) ((plead (ptrim p)).natAbs:Nat)):=hok2.out.fin.mono (Nat.le_add_right _ _)
   have hsf2:Sm ((1:Int).natAbs+(flq (-(hst (ptrim p) (plen p-1):Nat)) ((plead (ptrim p)).natAbs:Nat)).natAbs):=by
    have:=hok2.out.fin
    rw [Nat.add_comm] at this
    exact this
   have hs1:SmI 1:=SmI.of64 (by unfold I64;omega)
   clear hbx hb0 hbw
   go_wp2_with fail
   go_region_held3 (fun w'=>w'.cell? ⟨g5,0,none⟩=some (.bool n6)∧w'.cell? ⟨g5,1,none⟩=some (.slice A6 l6 c6)) (go_keep) (first
    | (go_at_call 38;go_must (refine (iof_any 1 _ (by unfold I64;omega)).mono ?_;rintro e w7 ⟨n8,A8,l8,c8,rfl,h8,hb8⟩;have HX8:=Lib.hid (HX.out.move (Below.trans Bel.go (hb8.mono (by simp<;>omega))));have HB8:=Lib.hid (HB.out.move (Below.trans Bel.go (hb8.mono (by simp<;>omega))));have Hb8:=Lib.hid (Hbw.out.trans ((Below.trans Bel.go (hb8.mono (by simp<;>omega))).mono Hbw.out.size));have q0:=HX8.out.c0;have q1:=HX8.out.c1))
    | (go_at_call 102;go_must (refine (isub_any _ _ _ _ _ _ _ _ _ _ _ ?_ ?_ hs1 hsf hsf2).mono ?_;(exact h8.at_.below Bel.go);(exact HX8.out.hz.at_.below Bel.go);rintro e w9 ⟨n9,A9,l9,c9,rfl,h9,hb9⟩;have HX9:=Lib.hid (HX8.out.move (Below.trans Bel.go (hb9.mono (by simp<;>omega))));have HB9:=Lib.hid (HB8.out.move (Below.trans Bel.go (hb9.mono (by simp<;>omega))));have Hb9:=Lib.hid (Hb8.out.trans ((Below.trans Bel.go (hb9.mono (by simp<;>omega))).mono Hb8.out.size));have p0:=HX9.out.c0;have p1:=HX9.out.c1;have b0:=HB9.out.c0;have b1:=HB9.out.c1;have b2:=HB9.out.f0;have b3:=HB9.out.f1)))
   have HP:=Lib.hid (HB9.out.put h9)
   have HbP:=Lib.hid ((Hb9.out.setCell (p:=⟨w.heap.size,0,none⟩) (Nat.le_refl _) (.bool n9)).setCell (p:=⟨w.heap.size,1,none⟩) (Nat.le_refl _) (.slice A9 l9 c9))
   clear HX HB Hbw x0 x1 hsf hsf2 hs1 HX8 HB8 Hb8 q0 q1 h8 hb8 HX9 HB9 Hb9 p0 p1 h9 hb9
   go_wp2
   refine bodyPost_ret (v:=.agg #[.bool n9,.slice A9 l9 c9]) (by simp [results,Tryz.results49,go_sem,b0,b1]) rfl ⟨_,_,_,_,rfl,by rw [E.out];exact HP.out.hz,HbP.out⟩
end Go.Proofs.YtipocabbjinbhaaGreat
namespace Go.Proofs.YtipocabbjinbhaaGreat
open Go.RowKit
theorem flq_neg (H:Nat) {L:Nat} (hL:0<L):1-flq (-(H:Int)) (L:Int)=1+((H+L-1) / L:Nat):=by
 have h1:(-(H:Int)).tdiv (L:Int)=-((H / L:Nat):Int):=by rw [Int.neg_tdiv];rfl
 have h2:(-(H:Int)).tmod (L:Int)=-((H % L:Nat):Int):=by rw [Int.neg_tmod];rfl
 have hs:sg (L:Int)=1:=sg_pos (by omega)
 have hd:=Nat.div_add_mod H L
 unfold flq
 rw [h1,h2,hs]
 by_cases h0:H % L=0
 ·rw [h0]
  have e:(H+L-1) / L=H / L:=by
   have h3:H+L-1=L*(H / L)+(L-1):=by omega
   have h4:(L-1) / L=0:=Nat.div_eq_of_lt (by omega)
   rw [h3,Nat.mul_add_div hL,h4];rfl
  rw [e,if_neg (by decide)]
  omega
 ·have hm:=Nat.mod_lt H hL
  have e:(H+L-1) / L=H / L+1:=by
   have h3:H+L-1=L*(H / L+1)+(H % L-1):=by rw [Nat.mul_add];omega
   have h4:(H % L-1) / L=0:=Nat.div_eq_of_lt (by omega)
   rw [h3,Nat.mul_add_div hL,h4]
  rw [e,sg_neg (by omega),if_pos (by decide)]
  have h5:(1:Int)-(-((H / L:Nat):Int)-1)=1+((H / L+1:Nat):Int):=by omega
  exact h5
theorem hst_ge (p:List Int):∀ n k,k<n→(p.getD k 0).natAbs≤hst p n
 | 0,_,h=>absurd h (Nat.not_lt_zero _)
 | n+1,k,h=>by
   rw [hst]
   rcases Nat.lt_or_ge k n with h1 | h1
   ·have:=hst_ge p n k h1
    split<;>omega
   ·obtain rfl:k=n:=by omega
    split<;>omega
theorem hst_bd {p:List Int} {M:Nat} (h:∀ k,(p.getD k 0).natAbs≤M):∀ n,hst p n≤M
 | 0=>Nat.zero_le _
 | n+1=>by
   rw [hst]
   split
   ·exact h n
   ·exact hst_bd h n
def cbn (p:List Int):Nat:=1+(hst (ptrim p) (plen p-1)+(plead (ptrim p)).natAbs-1) / (plead (ptrim p)).natAbs
theorem plead_tr {p:List Int} (h:plen p≠0):0<(plead (ptrim p)).natAbs:=by
 have:plead (ptrim p)≠0:=plead_ne (by rw [plen_ptrim];exact h)
 omega
theorem cau_cbn {p:List Int} (h:2≤plen p):cau p=(cbn p:Nat):=by
 unfold cau cbn
 rw [if_neg (by omega),flq_neg _ (plead_tr (by omega)),Int.natCast_add]
 rfl
theorem cdiv_facts (H:Nat) {L:Nat} (hL:0<L):H≤L*((H+L-1) / L)∧(H+L-1) / L≤H:=by
 constructor
 ·have h1:=Nat.div_add_mod (H+L-1) L
  have h2:=Nat.mod_lt (H+L-1) hL
  omega
 ·rcases Nat.eq_zero_or_pos H with h | h
  ·subst h
   rw [Nat.div_eq_of_lt (by omega)]
   exact Nat.le_refl _
  ·refine Nat.div_le_of_le_mul ?_
   obtain ⟨a,rfl⟩:∃ a,L=a+1:=⟨L-1,by omega⟩
   obtain ⟨b,rfl⟩:∃ b,H=b+1:=⟨H-1,by omega⟩
   rw [Nat.add_mul,Nat.mul_add]
   have:=Nat.zero_le (a*b)
   omega
theorem big_mul {L c x v:Rat} (hL:0<L) (hc:1≤c) (hx:c≤x) (hv:L≤v):c*L≤x*v:=by
 have h1:0≤(x-c)*v:=Rat.mul_nonneg (by grind) (by grind)
 have h2:0≤c*(v-L):=Rat.mul_nonneg (by grind) (by grind)
 grind
theorem pv_big {L c q:Rat} (hL:0<L) (hc:1≤c) (hq:c≤q∨q≤-c) {l:Int} (hl:L≤(l:Rat)∨(l:Rat)≤-L):∀ t:List Int,(∀ a∈t,-(L*(c-1))≤(a:Rat)∧(a:Rat)≤L*(c-1))→L≤pv (t ++ [l]) q∨pv (t ++ [l]) q≤-L
 | [],_=>by
   show L≤(l:Rat)+q*0∨(l:Rat)+q*0≤-L
   rw [Rat.mul_zero,Rat.add_zero]
   exact hl
 | a :: t,h=>by
   have ih:=pv_big hL hc hq hl t fun b hb=>h b (List.mem_cons_of_mem _ hb)
   have ha:=h a (List.mem_cons_self ..)
   show L≤(a:Rat)+q*pv (t ++ [l]) q∨(a:Rat)+q*pv (t ++ [l]) q≤-L
   generalize pv (t ++ [l]) q=v at ih ⊢
   generalize (a:Rat)=r at ha ⊢
   have e:L*(c-1)=c*L-L:=by grind
   rw [e] at ha
   rcases hq with hq | hq<;>rcases ih with ih | ih
   ·have:=big_mul hL hc hq ih
    left;grind
   ·have:=big_mul hL hc hq (show L≤-v by grind)
    right;grind
   ·have:=big_mul hL hc (show c≤-q by grind) ih
    right;grind
   ·have:=big_mul hL hc (show c≤-q by grind) (show L≤-v by grind)
    left;grind
theorem rat_abs_le {a:Int} {n:Nat} (h:a.natAbs≤n):-((n:Nat):Rat)≤(a:Rat)∧(a:Rat)≤((n:Nat):Rat):=by
 have h1:-((n:Nat):Int)≤a:=by omega
 have h2:a≤((n:Nat):Int):=by omega
 constructor
 ·have:=Rat.intCast_le_intCast.2 h1
  rw [Rat.intCast_neg,Rat.intCast_natCast] at this
  exact this
 ·have:=Rat.intCast_le_intCast.2 h2
  rw [Rat.intCast_natCast] at this
  exact this
theorem pv_far {Q:List Int} (ht:ptrim Q=Q) (h2:plen Q≠0) {q:Rat} (hq:((cbn Q:Nat):Rat)≤q∨q≤-((cbn Q:Nat):Rat)):1≤pv Q q∨pv Q q≤-1:=by
 have hlen:Q.length=plen Q:=by rw [← ptrim_length Q,ht]
 rcases List.eq_nil_or_concat Q with h | ⟨t,l,h⟩
 ·exact absurd (by rw [h];rfl) h2
 ·rw [List.concat_eq_append] at h
  have hn:plen Q=t.length+1:=by rw [← hlen,h,List.length_append,List.length_singleton]
  have hpl:plead Q=l:=by
   unfold plead
   rw [hn,Nat.add_sub_cancel,h,List.getD_eq_getElem?_getD,List.getElem?_append_right (Nat.le_refl _),Nat.sub_self]
   rfl
  obtain ⟨H,hH⟩:∃ H,H=hst (ptrim Q) (plen Q-1):=⟨_,rfl⟩
  obtain ⟨L,hL⟩:∃ L,L=(plead (ptrim Q)).natAbs:=⟨_,rfl⟩
  have hL0:0<L:=by rw [hL];exact plead_tr h2
  have hLl:L=l.natAbs:=by rw [hL,ht,hpl]
  obtain ⟨c1,hc1⟩:∃ c1,c1=(H+L-1) / L:=⟨_,rfl⟩
  have hc:cbn Q=1+c1:=by unfold cbn;rw [← hH,← hL,← hc1]
  have hf:=(cdiv_facts H hL0).1
  rw [← hc1] at hf
  have hLr:(1:Rat)≤((L:Nat):Rat):=by exact_mod_cast hL0
  have hcr:(1:Rat)≤((cbn Q:Nat):Rat):=by
   have:1≤cbn Q:=by omega
   exact_mod_cast this
  have hb:=pv_big (L:=((L:Nat):Rat)) (c:=((cbn Q:Nat):Rat)) (q:=q) (by grind) hcr hq (l:=l) (by
   have h1:(L:Int)=l∨(L:Int)=-l:=by omega
   rcases h1 with e | e
   ·left
    have:((L:Nat):Rat)=(l:Rat):=by rw [← e,Rat.intCast_natCast]
    rw [this];exact Rat.le_refl
   ·right
    have:(l:Rat)=-((L:Nat):Rat):=by
     have e2:l=-(L:Int):=by omega
     rw [e2,Rat.intCast_neg,Rat.intCast_natCast]
    rw [this];exact Rat.le_refl) t (fun a ha=>by
   obtain ⟨k,hk,rfl⟩:=List.getElem_of_mem ha
   have h1:=hst_ge (ptrim Q) (plen Q-1) k (by omega)
   rw [← hH,ht,h,List.getD_eq_getElem?_getD,List.getElem?_append_left hk,List.getElem?_eq_getElem hk] at h1
   have h3:(t[k]).natAbs≤L*c1:=by simpa using Nat.le_trans h1 hf
   have h4:=rat_abs_le h3
   have e:((L:Nat):Rat)*(((cbn Q:Nat):Rat)-1)=((L*c1:Nat):Rat):=by
    rw [hc,Rat.natCast_mul,Rat.natCast_add]
    have e1:((1:Nat):Rat)=1:=rfl
    rw [e1]
    grind
   rw [e]
   exact h4)
  rw [← h] at hb
  rcases hb with hb | hb
  ·left;grind
  ·right;grind
theorem root_in {Q:List Int} (ht:ptrim Q=Q) (h2:plen Q≠0) {x:Pt} (hx:sgp Q x=0):Pt.of (-((cbn Q:Nat):Rat))<x∧x<Pt.of ((cbn Q:Nat):Rat):=by
 obtain ⟨l,u,hn,hs⟩:=sgf_sml (lp_pv Q) hx (1 / 2) (by grind)
 have hlu:=Pt.lu hn.1 hn.2
 have hfar:∀ q:Rat,((cbn Q:Nat):Rat)≤q∨q≤-((cbn Q:Nat):Rat)→1≤pv Q q∨pv Q q≤-1:=fun q hq=>pv_far ht h2 hq
 generalize ((cbn Q:Nat):Rat)=c at *
 constructor
 ·rw [Pt.of_lt]
  refine Classical.byContradiction fun hc=>?_
  have h1:=Pt.nlt hn.1 hc
  obtain ⟨q,hq1,hq2,hq3⟩:∃ q,l<q∧q<u∧q≤-c:=by
   rcases (Rat.le_total:u≤-c∨-c≤u) with h | h
   ·exact ⟨(l+u) / 2,by grind,by grind,by grind⟩
   ·exact ⟨(l + -c) / 2,by grind,by grind,by grind⟩
  have h3:=hs q hq1 hq2
  rcases hfar q (.inr hq3) with h4 | h4<;>grind
 ·rw [Pt.lt_of]
  refine Classical.byContradiction fun hc=>?_
  have h1:c<u:=Rat.not_le.1 fun h=>hc (hn.2.le h)
  obtain ⟨q,hq1,hq2,hq3⟩:∃ q,l<q∧q<u∧c≤q:=by
   rcases (Rat.le_total:l≤c∨c≤l) with h | h
   ·exact ⟨(c+u) / 2,by grind,by grind,by grind⟩
   ·exact ⟨(l+u) / 2,by grind,by grind,by grind⟩
  have h3:=hs q hq1 hq2
  rcases hfar q (.inl hq3) with h4 | h4<;>grind
structure Dy (K i:Nat) (a:Fq):Prop where
 p:0<a.q
 d:a.q∣2^i
 z:a.z.natAbs≤K*a.q
theorem Dy.up {K i:Nat} {a:Fq} (h:Dy K i a):Dy K (i+1) a:=⟨h.p,by rw [Nat.pow_succ];exact Nat.dvd_trans h.d (Nat.dvd_mul_right _ _),h.z⟩
theorem Dy.mid {K i:Nat} {a b:Fq} (ha:Dy K i a) (hb:Dy K i b):Dy K (i+1) (a.mid b):=by
 obtain ⟨Z,hZ⟩:∃ Z,Z=a.z*(b.q:Int)+b.z*(a.q:Int):=⟨_,rfl⟩
 obtain ⟨D,hD⟩:∃ D,D=a.q*b.q*2:=⟨_,rfl⟩
 have hD0:0<D:=by rw [hD];exact Nat.mul_pos (Nat.mul_pos ha.p hb.p) (by decide)
 obtain ⟨_,hp,hg⟩:=Go.Proofs.YtipocabbjinbhaaGreat.nf_v (z:=Z) hD0
 have ez:(a.mid b).z=rz Z D:=by rw [hZ,hD];rfl
 have eq:(a.mid b).q=rq Z D:=by rw [hZ,hD];rfl
 obtain ⟨g,hgd⟩:∃ g,g=Nat.gcd Z.natAbs D:=⟨_,rfl⟩
 have hg0:0<g:=by rw [hgd];exact Nat.gcd_pos_of_pos_right _ hD0
 have d1:(g:Int)∣Z:=by rw [hgd,← Int.natAbs_dvd_natAbs,Int.natAbs_natCast];exact Nat.gcd_dvd_left _ _
 have d2:g∣D:=by rw [hgd];exact Nat.gcd_dvd_right _ _
 obtain ⟨Z',hZ'⟩:=d1
 obtain ⟨D',hD'⟩:=d2
 have e1:rz Z D=Z':=by unfold rz;rw [← hgd,hZ',Int.mul_tdiv_cancel_left _ (by omega)]
 have e2:rq Z D=D':=by unfold rq;rw [← hgd,hD',Nat.mul_div_cancel_left _ hg0]
 rw [e1,e2] at hg
 rw [e2] at hp
 obtain ⟨x,hx⟩:=ha.d
 obtain ⟨y,hy⟩:=hb.d
 have hxI:(2:Int)^i=(a.q:Int)*(x:Int):=by rw [← Int.natCast_mul,← hx];simp
 have hyI:(2:Int)^i=(b.q:Int)*(y:Int):=by rw [← Int.natCast_mul,← hy];simp
 have key:Z'*(2:Int)^(i+1)=(D':Int)*(a.z*x+b.z*y):=by
  refine Int.eq_of_mul_eq_mul_left (a:=(g:Int)) (by omega) ?_
  have k1:(g:Int)*(Z'*(2:Int)^(i+1))=Z*2^(i+1):=by rw [hZ',Int.mul_assoc]
  have k2:(g:Int)*((D':Int)*(a.z*x+b.z*y))=(D:Int)*(a.z*x+b.z*y):=by rw [hD',Int.natCast_mul,Int.mul_assoc]
  rw [k1,k2,hZ,hD,Int.pow_succ,Int.natCast_mul,Int.natCast_mul]
  have e3:((2:Nat):Int)=2:=rfl
  rw [e3]
  generalize (2:Int)^i=P at hxI hyI ⊢
  generalize (a.q:Int)=s at *
  generalize (b.q:Int)=t at *
  generalize (x:Int)=u at *
  generalize (y:Int)=v at *
  generalize a.z=m at *
  generalize b.z=n at *
  have h1:m*t*P=m*t*(s*u):=by rw [hxI]
  have h2:n*s*P=n*s*(t*v):=by rw [hyI]
  grind
 refine ⟨by rw [eq,e2];exact hp,?_,?_⟩
 ·rw [eq,e2]
  refine Nat.Coprime.dvd_of_dvd_mul_left (m:=Z'.natAbs) (by rw [Nat.coprime_comm];exact hg) ?_
  have h3:=congrArg Int.natAbs key
  rw [Int.natAbs_mul,Int.natAbs_mul,Int.natAbs_natCast,Int.natAbs_pow] at h3
  exact ⟨_,h3⟩
 ·rw [ez,eq,e1,e2]
  refine Nat.le_of_mul_le_mul_left (?_:g*Z'.natAbs≤g*(K*D')) hg0
  have h1:g*Z'.natAbs=Z.natAbs:=by rw [hZ',Int.natAbs_mul,Int.natAbs_natCast]
  have h2:g*(K*D')=K*D:=by rw [hD',Nat.mul_left_comm]
  rw [h1,h2,hZ,hD]
  refine Nat.le_trans (Int.natAbs_add_le _ _) ?_
  rw [Int.natAbs_mul,Int.natAbs_mul,Int.natAbs_natCast,Int.natAbs_natCast]
  have h3:=Nat.mul_le_mul_right b.q ha.z
  have h4:=Nat.mul_le_mul_right a.q hb.z
  have h5:K*(a.q*b.q*2)=K*a.q*b.q+K*b.q*a.q:=by
   rw [Nat.mul_two,Nat.mul_add,← Nat.mul_assoc,Nat.mul_assoc K b.q,Nat.mul_comm b.q a.q,← Nat.mul_assoc]
  omega
theorem Dy.fqb {K i N:Nat} {a:Fq} (h:Dy K i a) (hi:i≤N) (hN:(K+1)*2^N≤ZB):FqB a:=by
 have h1:a.q≤2^i:=Nat.le_of_dvd (Nat.pow_pos (by decide)) h.d
 have h2:a.q≤2^N:=Nat.le_trans h1 (Nat.pow_le_pow_right (by decide) hi)
 have h3:K*a.q≤K*2^N:=Nat.mul_le_mul_left _ h2
 have h4:=h.z
 rw [Nat.add_mul,Nat.one_mul] at hN
 have h5:0<2^N:=Nat.pow_pos (by decide)
 exact ⟨h.p,by omega,by omega⟩
theorem is_fit {Q:List Int} {PS:List (List Int)} {K N:Nat} (hN:(K+1)*2^N≤ZB):∀ (n i:Nat) (a b:Fq),IsOK Q PS n a b→Dy K i a→Dy K i b→i+n≤N+1→IsFit Q PS n a b
 | 0,_,_,_,h,_,_,_=>h.elim
 | n+1,i,a,b,h,ha,hb,hi=>by
   refine ⟨ha.fqb (by omega) hN,hb.fqb (by omega) hN,?_⟩
   rcases h with h | h | ⟨h1,h2⟩
   ·exact .inl h
   ·exact .inr (.inl h)
   ·have hn:0<n:=by
     rcases Nat.eq_zero_or_pos n with e | e
     ·subst e;exact h1.elim
     ·exact e
    have hm:=ha.mid hb
    exact .inr (.inr ⟨hm.fqb (by omega) hN,is_fit hN n (i+1) _ _ h1 ha.up hm (by omega),is_fit hN n (i+1) _ _ h2 hm hb.up (by omega)⟩)
noncomputable def NN:Nat:=Classical.choose (⟨28300,rfl⟩:∃ n:Nat,n=28300)
theorem NN_eq:NN=28300:=Classical.choose_spec (⟨28300,rfl⟩:∃ n:Nat,n=28300)
noncomputable def nroots (Q:List Int):List (Fq×Fq):=isl Q (pchain 12 Q (pder Q)) (NN+1) ⟨-((cbn Q:Nat):Int),1⟩ ⟨((cbn Q:Nat):Int),1⟩
section
variable {Q:List Int}
theorem cbn_le (h:SqF Q 16):cbn Q≤BB^17:=by
 have hb:hst (ptrim Q) (plen Q-1)≤BB^16:=hst_bd (fun k=>by rw [ptrim_getD];exact h.b k) _
 have hc:=(cdiv_facts (hst (ptrim Q) (plen Q-1)) (plead_tr h.q0)).2
 unfold cbn
 have h1:2*BB^16≤BB^17:=bbk_mul (by decide)
 have h2:0<BB^16:=Nat.pow_pos BB_pos
 omega
theorem nn_sep (h:SqF Q 16):sepD 16 ((cbn Q:Nat):Rat)*(((cbn Q:Nat):Rat) - -((cbn Q:Nat):Rat))<(2:Rat)^NN:=by
 obtain ⟨c,hc⟩:∃ c,c=cbn Q:=⟨_,rfl⟩
 have hcl:c≤BB^17:=by rw [hc];exact cbn_le h
 rw [← hc]
 obtain ⟨A,hA⟩:∃ A:Nat,A=500:=⟨_,rfl⟩
 obtain ⟨B,hB⟩:∃ B:Nat,B=170:=⟨_,rfl⟩
 have hc10:c^10≤BB^B:=by
  have:=Nat.pow_le_pow_left hcl 10
  rw [← Nat.pow_mul] at this
  exact Nat.le_trans this (bbk_le (by omega))
 have hn:(2*(10*BB^A*c^10)*(100*BB^22*c^10)+1)*(c+c)<2^NN:=by
  have h1:10*BB^A*c^10≤10*BB^A*BB^B:=Nat.mul_le_mul_left _ hc10
  have h2:100*BB^22*c^10≤100*BB^22*BB^B:=Nat.mul_le_mul_left _ hc10
  have h3:2*(10*BB^A*c^10)*(100*BB^22*c^10)≤2*(10*BB^A*BB^B)*(100*BB^22*BB^B):=Nat.mul_le_mul (Nat.mul_le_mul_left _ h1) h2
  obtain ⟨C,hC⟩:∃ C:Nat,C=A+B+(22+B):=⟨_,rfl⟩
  have e3:2*(10*BB^A*BB^B)*(100*BB^22*BB^B)=2000*BB^C:=by
   rw [hC,Nat.pow_add BB (A+B),Nat.pow_add BB A,Nat.pow_add BB 22]
   generalize BB^A=p
   generalize BB^B=q
   generalize BB^22=r
   grind
  rw [e3] at h3
  have h4:2000*BB^C+1≤BB^(C+1):=by
   have h5:2001*BB^C≤BB^(C+1):=bbk_mul (by decide)
   have h6:0<BB^C:=Nat.pow_pos BB_pos
   omega
  have h7:c+c≤BB^18:=by
   have h5:2*BB^17≤BB^18:=bbk_mul (by decide)
   omega
  have h8:=Nat.mul_le_mul (Nat.le_trans (Nat.add_le_add_right h3 1) h4) h7
  rw [← Nat.pow_add] at h8
  refine Nat.lt_of_le_of_lt h8 ?_
  rw [bb_two]
  exact Nat.pow_lt_pow_right (by decide) (by rw [NN_eq];omega)
 have hr:=Rat.natCast_lt_natCast.2 hn
 have e2:(((2:Nat)^NN:Nat):Rat)=(2:Rat)^NN:=by rw [Rat.natCast_pow];rfl
 rw [e2] at hr
 have heq:sepD 16 ((c:Nat):Rat)*(((c:Nat):Rat) - -((c:Nat):Rat))=(((2*(10*BB^A*c^10)*(100*BB^22*c^10)+1)*(c+c):Nat):Rat):=by
  unfold sepD
  rw [show 20*(16+9)=A by omega]
  simp only [Rat.natCast_mul,Rat.natCast_add,Rat.natCast_pow,show 16+6=22 from rfl]
  have n1:((1:Nat):Rat)=1:=rfl
  have n2:((2:Nat):Rat)=2:=rfl
  have n3:((10:Nat):Rat)=10:=rfl
  have n4:((100:Nat):Rat)=100:=rfl
  rw [n1,n2,n3,n4]
  grind
 rw [heq]
 exact hr
theorem nn_zb (h:SqF Q 16):(cbn Q+1)*2^NN≤ZB:=by
 have h1:=cbn_le h
 have h2:cbn Q+1≤BB^18:=by
  have h5:2*BB^17≤BB^18:=bbk_mul (by decide)
  have h6:0<BB^17:=Nat.pow_pos BB_pos
  omega
 obtain ⟨E,hE⟩:∃ E:Nat,E=885:=⟨_,rfl⟩
 have h3:2^NN≤BB^E:=by
  rw [bb_two]
  exact Nat.pow_le_pow_right (by decide) (by rw [NN_eq];omega)
 refine Nat.le_trans (Nat.mul_le_mul h2 h3) ?_
 rw [← Nat.pow_add]
 exact bbk_le (by rw [ZK_eq];omega)
theorem end_v (c:Nat):(⟨-((c:Nat):Int),1⟩:Fq).v=-((c:Nat):Rat)∧(⟨((c:Nat):Int),1⟩:Fq).v=((c:Nat):Rat):=by
 unfold Fq.v
 have e:(((1:Nat):Nat):Rat)=1:=rfl
 constructor
 ·show ((-((c:Nat):Int):Int):Rat) / ((1:Nat):Rat)=_
  rw [e,Rat.intCast_neg,Rat.intCast_natCast]
  grind
 ·show ((((c:Nat):Int):Int):Rat) / ((1:Nat):Rat)=_
  rw [e,Rat.intCast_natCast]
  grind
theorem cbn_pos (Q:List Int):1≤cbn Q:=by unfold cbn;exact Nat.le_add_right 1 _
theorem roots_fit (h:SqF Q 16):IsFit Q (pchain 12 Q (pder Q)) (NN+1) ⟨-((cbn Q:Nat):Int),1⟩ ⟨((cbn Q:Nat):Int),1⟩∧IsOK Q (pchain 12 Q (pder Q)) (NN+1) ⟨-((cbn Q:Nat):Int),1⟩ ⟨((cbn Q:Nat):Int),1⟩:=by
 have hv:=end_v (cbn Q)
 have hc1:(1:Rat)≤((cbn Q:Nat):Rat):=by exact_mod_cast cbn_pos Q
 have hok:=is_ok h (by decide) hc1 NN ⟨-((cbn Q:Nat):Int),1⟩ ⟨((cbn Q:Nat):Int),1⟩ Nat.one_pos Nat.one_pos (by rw [hv.1,hv.2];grind) (by rw [hv.1];exact Rat.le_refl) (by rw [hv.2];exact Rat.le_refl) (by rw [hv.1,hv.2];exact nn_sep h)
 exact ⟨is_fit (nn_zb h) _ 0 _ _ hok ⟨Nat.one_pos,by simp,by simp⟩ ⟨Nat.one_pos,by simp,by simp⟩ (by omega),hok⟩
theorem roots_isl (h:SqF Q 16) {xs:List Pt} (hx:Lst (fun x=>sgp Q x=0) xs):Isl Q xs (nroots Q) (-((cbn Q:Nat):Rat)) ((cbn Q:Nat):Rat):=by
 have hv:=end_v (cbn Q)
 have hc1:(1:Rat)≤((cbn Q:Nat):Rat):=by exact_mod_cast cbn_pos Q
 have hi:=isl_spec h (by decide) (NN+1) ⟨-((cbn Q:Nat):Int),1⟩ ⟨((cbn Q:Nat):Int),1⟩ Nat.one_pos Nat.one_pos (by rw [hv.1,hv.2];grind) (roots_fit h).2 xs (hx.congr fun x=>⟨fun e=>?_,fun e=>e.1⟩)
 ·rw [hv.1,hv.2] at hi
  exact hi
 ·have:=root_in h.t h.q0 e
  unfold Fq.p
  rw [hv.1,hv.2]
  exact ⟨e,this.1,this.2⟩
end
end Go.Proofs.YtipocabbjinbhaaGreat
namespace Go.Proofs.YtipocabbjinbhaaGreat
open Go Go.RowKit
structure RtsAt (w:World) (A:Option Addr) (l c:Nat) (rs:List (Fq×Fq)):Prop where
 length:rs.length=l
 cap:l≤c
 elems:(l=0∧A=none∧c=0)∨∃ b o,A=some ⟨b,o,none⟩∧b<w.heap.size∧Vals w b o rs
theorem RtsAt.below {w w':World} {A:Option Addr} {l c:Nat} {rs:List (Fq×Fq)} (h:RtsAt w A l c rs) (hb:Below w.heap.size w w'):RtsAt w' A l c rs:=by
 refine ⟨h.length,h.cap,?_⟩
 rcases h.elems with h0 | ⟨b,o,hA,hlt,hv⟩
 ·exact .inl h0
 ·exact .inr ⟨b,o,hA,Nat.lt_of_lt_of_le hlt hb.size,hv.below hlt hb⟩
noncomputable def proots (f:List Int):List (Fq×Fq):=if plen (qpart f)<2 then [] else nroots (qpart f)
theorem FndV.rts {B gs:Nat} {w:World} {F:Value} {rs:List (Fq×Fq)} (h:FndV B gs w F rs):∃ A l c,F=.slice A l c∧RtsAt w A l c rs:=by
 rcases h with ⟨h1,h2⟩ | ⟨g,cap,h1,h2,h3,h4,h5⟩
 ·subst h1
  exact ⟨_,_,_,h2,rfl,Nat.le_refl _,.inl ⟨rfl,rfl,rfl⟩⟩
 ·exact ⟨_,_,_,h1,rfl,h2.le,.inr ⟨g,0,rfl,h2.lt,h4⟩⟩
theorem SqF.cau {Q:List Int} (h:SqF Q 16):CauSz Q:=by
 have hb:hst (ptrim Q) (plen Q-1)≤BB^16:=hst_bd (fun k=>by rw [ptrim_getD];exact h.b k) _
 have hl:(plead (ptrim Q)).natAbs≤BB^16:=by rw [h.t];exact h.b _
 have hc:=(cdiv_facts (hst (ptrim Q) (plen Q-1)) (plead_tr h.q0)).2
 have hf:=flq_neg (hst (ptrim Q) (plen Q-1)) (plead_tr h.q0)
 have h1:4*BB^16≤BB^17:=bbk_mul (by decide)
 have h2:1≤BB^16:=Nat.pow_pos BB_pos
 have h3:BB^17<BB^18:=Nat.pow_lt_pow_right (by rw [BB_eq];decide) (by decide)
 refine ⟨sm_pow (k:=18) (by omega) (by decide),sm_pow (k:=18) (by omega) (by decide),sm_pow (k:=18) ?_ (by decide)⟩
 generalize flq (-((hst (ptrim Q) (plen Q-1):Nat):Int)) ((plead (ptrim Q)).natAbs:Nat)=y at hf ⊢
 generalize (hst (ptrim Q) (plen Q-1)+(plead (ptrim Q)).natAbs-1) / (plead (ptrim Q)).natAbs=x at hf hc
 omega
theorem SqF.der {Q:List Int} {k:Nat} (h:SqF Q k) (hk:k≤31):CP (pder Q) :=
 ⟨by have:=plen_pder Q;have:=h.len;omega,fun j=>Nat.le_trans (pder_abs (by have:=h.len;omega) h.b j) (bbk_le (by omega))⟩
theorem SqF.ctx {Q:List Int} (h:SqF Q 16) {W0:World} {Ap:Option Addr} {lp cp:Nat} {Ac:Option Addr} {lc cc:Nat} (hp:PolyN W0 Ap lp cp Q) (hc:PLst W0 Ac lc cc (pchain 12 Q (pder Q))):IsCtx Q (pchain 12 Q (pder Q)) W0 W0.heap.size Ap lp cp Ac lc cc:=by
 have hcp:=h.cp (by decide)
 obtain ⟨_,k2,_,k4⟩:=chain_all hcp (h.der (by decide))
 have hl:=h.lq
 have h1:=hp.length
 have h2:=hc.length
 exact ⟨hp,hc,by omega,by omega,Nat.le_refl _,fun p hp z q hz hq=>(k2 p hp).at hz hq,fun z q hz hq=>hcp.at hl hz hq⟩
theorem nroots_len {Q:List Int} (h:SqF Q 16):(nroots Q).length≤9:=by
 obtain ⟨xs,hx⟩:=roots_lst h.q0 (fun _=>True)
 have hx2:Lst (fun x=>sgp Q x=0) xs:=hx.congr fun x=>⟨fun e=>e.1,fun e=>⟨e,trivial⟩⟩
 rw [(roots_isl h hx2).length]
 have:=rts_le (plen Q-1) Q (by have:=h.q0;omega) xs hx2.1 fun x hx=>(hx2.2 x).1 hx
 have:=h.len
 omega
structure RDone (W:World) (B0 gs:Nat) (P C:Value) (g5:Nat) (n5:Bool) (A5:Option Addr) (l5 c5:Nat) (B5:Option Addr) (m5 d5:Nat) (z5:Int) (q5:Nat) (R:List (Fq×Fq)) (w':World):Prop where
 r5:RBox w' g5 n5 A5 l5 c5 B5 m5 d5 z5 q5
 fr:FrS gs gs W w'
 f:∃ F',Blk w' gs 115 #[P,C,F']∧FndV B0 gs w' F' R
theorem r_done {W W1 w':World} {B0 gs g5:Nat} {P C:Value} {n5:Bool} {A5 B5:Option Addr} {l5 c5 m5 d5 q5:Nat} {z5:Int} {R:List (Fq×Fq)} {F':Value} (hb:Below W.heap.size W W1) (hB:Blk W gs 115 #[P,C,.slice none 0 0]) (hP:NoDigit P) (hC:NoDigit C) (hfr:FrS gs (fbk gs (.slice none 0 0)) W1 w') (hB':Blk w' gs 115 #[P,C,F']) (hF:FndV B0 gs w' F' ([] ++ R))
 (r5:RBox W g5 n5 A5 l5 c5 B5 m5 d5 z5 q5) (h5:g5≠gs):RDone W B0 gs P C g5 n5 A5 l5 c5 B5 m5 d5 z5 q5 R w':=by
 have hB1:=hB.below hb hB.lt
 obtain ⟨nd1,nd2⟩:=fndv_ndb (B:=0) (rs:=[]) hB1 hP hC (.inl ⟨rfl,rfl⟩)
 exact ⟨(r5.move hb).frs hfr nd1 nd2 h5 h5,FrS.trans (FrS.of_below hb) hfr (.inl rfl),F',hB',hF⟩
set_option maxRecDepth 100000 in
set_option maxHeartbeats 8000000 in
theorem roots_any {I:IntPred} (hI:IK I) (A:Option Addr) (la ca:Nat) (f:List Int) (w:World) (hf:PolyP I w A la ca f) (sf:SmP f) (hq:plen f≠0→QOK f) (hs:plen f≠0→SqF (qpart f) 16) (hla:la≤1000000) :
 Calls Tryz.prog 34 #[.slice A la ca] w fun e w'=>(∃ A' l' c',e=.returned (.slice A' l' c')∧RtsAt w' A' l' c' (proots f))∧Below w.heap.size w w':=by
 obtain ⟨Q,hQ⟩:∃ Q,Q=qpart f:=⟨_,rfl⟩
 have hlq:Q.length≤10:=by
  rw [hQ]
  by_cases h0:plen f=0
  ·rw [qpart_nil h0];exact Nat.zero_le _
  ·exact (hs h0).lq
 have sq:SmP Q:=by
  rw [hQ]
  by_cases h0:plen f=0
  ·rw [qpart_nil h0];intro c hc;simp at hc
  ·exact ((hs h0).fit (by decide)).smp
 have HQ:=Lib.hid hQ
 have Hs:=Lib.hid hs
 clear hQ hs
 go_enter Tryz.func34,Tryz.ntmps34
 go_wp2_with fail
 refine (part_q hI _ _ _ _ _ hf sf hq hla).mono ?_
 rintro e w1 ⟨A1,l1,c1,rfl,h1,hb1⟩
 rw [← HQ.out] at h1
 have hl1:l1≤10:=by have:=h1.length;omega
 have H1:=Lib.hid h1
 have Hb:=Lib.hid hb1
 clear hf h1 hb1 hq
 go_wp2_with fail
 refine (degree_any _ _ _ _ _ (H1.out.at_ ikN) sq (by omega)).mono ?_
 rintro e w2 ⟨rfl,hb2⟩
 replace H1:=Lib.hid (H1.out.below ikN hb2)
 replace Hb:=Lib.hid (Hb.out.trans (hb2.mono Hb.out.size))
 obtain ⟨D,hD⟩:∃ D,D=((plen Q:Nat):Int)-1:=⟨_,rfl⟩
 rw [← hD]
 have HD:=Lib.hid hD
 clear hb2 hD
 by_cases hlt:plen Q<2
 ·have b1:decide (D<1)=true:=decide_eq_true (by have:=HD.out;omega)
  have hr:proots f=[]:=by unfold proots;rw [← HQ.out,if_pos hlt]
  have Hr:=Lib.hid hr
  clear hr hlt
  go_wp2_with fail
  go_ret
  exact ⟨⟨_,_,_,rfl,by rw [Hr.out];exact ⟨rfl,Nat.le_refl _,.inl ⟨rfl,rfl,rfl⟩⟩⟩,Hb.out⟩
 have b1:decide (D<1)=false:=decide_eq_false (by have:=HD.out;omega)
 have hr:proots f=nroots Q:=by unfold proots;rw [← HQ.out,if_neg hlt]
 have Hr:=Lib.hid hr
 have hf0:plen f≠0:=fun h0=>by
  have:=qpart_nil h0
  rw [← HQ.out] at this
  rw [this] at hlt
  exact hlt (by decide)
 have hS:SqF Q 16:=by have:=Hs.out hf0;rwa [← HQ.out] at this
 have hcp:=hS.cp (k:=16) (by decide)
 have hcd:=hS.der (by decide)
 have hok:=(chain_all hcp hcd).1
 have hcl:=(chain_all hcp hcd).2.2.1
 obtain ⟨PS,hPS⟩:∃ PS,PS=pchain 12 Q (pder Q):=⟨_,rfl⟩
 have HPS:=Lib.hid hPS
 have HS:=Lib.hid hS
 have sqd:=hcd.fit.smp
 have p2:2≤plen Q:=by omega
 clear hr hlt HD hf0 hS hcp hcd hPS
 go_wp2_with fail
 refine (sturmof_any _ _ _ _ _ H1.out sq sqd (by omega) 12 hok (by omega)).mono ?_
 rintro e w4 ⟨A4,l4,c4,rfl,h4,hb4⟩
 replace H1:=Lib.hid (H1.out.below ikN hb4)
 replace Hb:=Lib.hid (Hb.out.trans (hb4.mono Hb.out.size))
 have ctx:=HS.out.ctx H1.out h4
 have spl:=iso_any ctx _ _ _ (roots_fit HS.out).1
 have hR2:nroots Q=isl Q PS (NN+1) ⟨-((cbn Q:Nat):Int),1⟩ ⟨((cbn Q:Nat):Int),1⟩:=by unfold nroots;rw [← HPS.out]
 rw [← HPS.out] at ctx spl h4
 obtain ⟨R,hR⟩:∃ R,R=isl Q PS (NN+1) ⟨-((cbn Q:Nat):Int),1⟩ ⟨((cbn Q:Nat):Int),1⟩:=⟨_,rfl⟩
 rw [← hR] at hR2 spl
 have hRl:([]:List (Fq×Fq)).length+R.length≤1000000:=by
  have:=nroots_len HS.out
  rw [hR2] at this
  simp only [List.length_nil]
  omega
 have HR2:=Lib.hid hR2
 have SPL:=Lib.hid spl
 have Ctx:=Lib.hid ctx
 have e3:∀ (z:Int) (q:Nat),(((vst (PS.map (sat z q)) l4).1:Nat):Int)=((Fq.chg PS ⟨z,q⟩:Nat):Int):=fun z q=>by rw [← h4.length];rfl
 have E3:=Lib.hid e3
 have hl4:=ctx.lc
 clear spl hR2 hR e3
 have jb:=below_new w4 (.cells #[.slice A1 l1 c1,.slice A4 l4 c4,.slice none 0 0] 115)
 have hbk:Blk (w4.alloc (.cells #[.slice A1 l1 c1,.slice A4 l4 c4,.slice none 0 0] 115)) w4.heap.size 115 #[.slice A1 l1 c1,.slice A4 l4 c4,.slice none 0 0]:=Blk.new _ _ _
 have HB:=Lib.hid hbk
 have Hw0:=Lib.hid jb
 have hgw:=Hb.out.size
 replace H1:=Lib.hid (H1.out.below ikN jb)
 replace Hb:=Lib.hid (Hb.out.trans (jb.mono Hb.out.size))
 clear hb4 jb hbk h4 ctx hok hcl
 go_wp2_with fail
 obtain ⟨wa,hwa⟩:∃ wa,wa=w4.alloc (.cells #[.slice A1 l1 c1,.slice A4 l4 c4,.slice none 0 0] 115):=⟨_,rfl⟩
 obtain ⟨gs,hgs⟩:∃ gs,gs=w4.heap.size:=⟨_,rfl⟩
 rw [← hwa,← hgs]
 rw [← hwa,← hgs] at HB
 rw [← hwa] at H1 Hb Hw0
 rw [← hgs] at hgw SPL Ctx
 have Hgs:=Lib.hid hgs
 clear hwa hgs
 refine (cau_any ikN _ _ _ _ _ H1.out sq (by omega) (fun _=>HS.out.cau)).mono ?_
 rintro e w3 ⟨n3,A3,l3,c3,rfl,h3,hb3⟩
 rw [cau_cbn p2] at h3
 obtain ⟨c,hc⟩:∃ c,c=cbn Q:=⟨_,rfl⟩
 rw [← hc] at h3 SPL
 have Hc:=Lib.hid hc
 replace HB:=Lib.hid (HB.out.below hb3 HB.out.lt)
 replace Hw0:=Lib.hid (Hw0.out.trans (hb3.mono Hw0.out.size))
 replace Hb:=Lib.hid (Hb.out.trans (hb3.mono Hb.out.size))
 have fB:FqB ⟨((c:Nat):Int),1⟩:=by
  have:=(roots_fit HS.out).1.2.1
  rwa [← hc] at this
 have fA:FqB ⟨-((c:Nat):Int),1⟩:=by
  have:=(roots_fit HS.out).1.1
  rwa [← hc] at this
 have H3:=Lib.hid h3
 have fc:Fit ((c:Nat):Int):=fB.fz
 have f1:Fit (((1:Nat):Int)):=fB.fq
 clear h3 hb3 H1 hc
 go_wp2_with fail
 refine (rfrom_any _ _ _ _ _ _ H3.out.at_ fc.sm).mono ?_
 rintro e w5 ⟨⟨n5,A5,l5,c5,B5,m5,d5,rfl,h5,k5⟩,hb5⟩
 have jb:=below_new w5 (rbox n5 A5 l5 c5 B5 m5 d5)
 have hbj:=hb5.trans (jb.mono hb5.size)
 have r5:=RBox.make h5 k5
 have hgl4:gs<w5.heap.size:=Nat.lt_of_lt_of_le HB.out.lt hb5.size
 replace HB:=Lib.hid (HB.out.below hbj HB.out.lt)
 replace Hw0:=Lib.hid (Hw0.out.trans (hbj.mono Hw0.out.size))
 replace Hb:=Lib.hid (Hb.out.trans (hbj.mono Hb.out.size))
 have x0:=r5.c0
 have x1:=r5.c1
 have x2:=r5.c2
 have R5:=Lib.hid r5
 clear h5 k5 hb5 jb hbj r5 H3
 go_upto_region 6 with (fail)
 obtain ⟨wk,hwk⟩:∃ wk,wk=w5.alloc (rbox n5 A5 l5 c5 B5 m5 d5):=⟨_,rfl⟩
 obtain ⟨g5,e5⟩:∃ g,g=w5.heap.size:=⟨_,rfl⟩
 have hg5:gs<g5:=by rw [e5];exact hgl4
 rw [← hwk,← e5] at R5 x0 x1 x2
 rw [← hwk] at HB Hb Hw0 ⊢
 rw [← e5]
 clear hwk e5 hgl4
 have l5':=R5.out.lt
 have e1:(-((c:Nat):Int)).tdiv ((Nat.gcd ((c:Nat):Int).natAbs 1:Nat):Int)=-((c:Nat):Int):=by rw [Nat.gcd_one_right];exact Int.tdiv_one _
 have e2:1 / Nat.gcd ((c:Nat):Int).natAbs 1=1:=by rw [Nat.gcd_one_right]
 have E1:=Lib.hid e1
 have E2:=Lib.hid e2
 have hgu5:g5≠gs:=by omega
 have Hp:=Lib.hid (Ctx.out.hp.below ikN Hw0.out)
 have Hc4:=Lib.hid (Ctx.out.hc.below Hw0.out)
 clear e1 e2
 go_region_held3 (fun w'=>w'.cell? ⟨g5,0,none⟩=some (.bool n5)∧w'.cell? ⟨g5,1,none⟩=some (.slice A5 l5 c5)∧w'.cell? ⟨g5,2,none⟩=some (.slice B5 m5 d5)) (go_keep) (first
  | (go_at_call 83;go_must (refine (ratneg_any _ _ _ _ _ _ _ _ _ _ ?_ ?_ fc f1 Nat.one_pos).mono ?_;(exact R5.out.hz.below Bel.go);(exact R5.out.hq.below Bel.go);rintro e w6 ⟨⟨n6,A6,l6,c6,B6,m6,d6,rfl,h6,k6⟩,hb6⟩;rw [E1.out] at h6;rw [E2.out] at k6;have H6:=Lib.hid (And.intro h6 k6);have G6:Hid (Below wk.heap.size wk w6):=Lib.hid (Below.trans Bel.go (hb6.mono (by simp<;>omega)));obtain ⟨hcx,hfx⟩:=bcellS hb6;have i0:World.cell? w6 ⟨g5,0,none⟩=some (.bool n5):=(hcx _ (by go_simp)).trans (by go_simp);have i1:World.cell? w6 ⟨g5,1,none⟩=some (.slice A5 l5 c5):=(hcx _ (by go_simp)).trans (by go_simp);have i2:World.cell? w6 ⟨g5,2,none⟩=some (.slice B5 m5 d5):=(hcx _ (by go_simp)).trans (by go_simp);clear hcx hfx hb6 h6 k6))
  | (go_at_call 82;(have _hx:=G7);go_must (refine (mark_any Q PS gs A1 l1 c1 A4 l4 c4 (.slice none 0 0) _ _ _ _ _ _ _ 1 (((c:Nat):Int)) _ ?_ ?_ ?_ (by omega) (by omega) ?_ ?_ fB.at (fun p hp=>Ctx.out.el p hp _ _ fB.z fB.q) (Ctx.out.eq _ _ fB.z fB.q)).mono ?_;(exact (HB.out.below G7.out HB.out.lt).below Bel.go (HB.out.below G7.out HB.out.lt).lt);(exact (Hp.out.below ikN G7.out).below ikN Bel.go);(exact (Hc4.out.below G7.out).below Bel.go);(exact (R5.out.move G7.out).hz.below Bel.go);(exact (R5.out.move G7.out).hq.below Bel.go);rintro e w9 ⟨rfl,hb9⟩;have hbz:Below w7.heap.size w7 w9:=Below.trans Bel.go (hb9.mono (by simp<;>omega));have H9:=Lib.hid (And.intro (H7.out.1.below hbz) (H7.out.2.below hbz));have G9:Hid (Below wk.heap.size wk w9):=Lib.hid (G7.out.trans (hbz.mono G7.out.size));obtain ⟨hcx,hfx⟩:=bcellS hb9;have q0:World.cell? w9 ⟨g5,0,none⟩=some (.bool n5):=(hcx _ (by go_simp)).trans (by go_simp);have q1:World.cell? w9 ⟨g5,1,none⟩=some (.slice A5 l5 c5):=(hcx _ (by go_simp)).trans (by go_simp);have q2:World.cell? w9 ⟨g5,2,none⟩=some (.slice B5 m5 d5):=(hcx _ (by go_simp)).trans (by go_simp);clear hcx hfx hb9 hbz))
  | (go_at_call 82;go_must (refine (mark_any Q PS gs A1 l1 c1 A4 l4 c4 (.slice none 0 0) _ _ _ _ _ _ _ 1 (-((c:Nat):Int)) _ ?_ ?_ ?_ (by omega) (by omega) ?_ ?_ fA.at (fun p hp=>Ctx.out.el p hp _ _ fA.z fA.q) (Ctx.out.eq _ _ fA.z fA.q)).mono ?_;(exact (HB.out.below G6.out HB.out.lt).below Bel.go (HB.out.below G6.out HB.out.lt).lt);(exact (Hp.out.below ikN G6.out).below ikN Bel.go);(exact (Hc4.out.below G6.out).below Bel.go);(exact H6.out.1.below Bel.go);(exact H6.out.2.below Bel.go);rintro e w7 ⟨rfl,hb7⟩;have hbz:Below w6.heap.size w6 w7:=Below.trans Bel.go (hb7.mono (by simp<;>omega));have H7:=Lib.hid (And.intro (H6.out.1.below hbz) (H6.out.2.below hbz));have G7:Hid (Below wk.heap.size wk w7):=Lib.hid (G6.out.trans (hbz.mono G6.out.size));obtain ⟨hcx,hfx⟩:=bcellS hb7;have j0:World.cell? w7 ⟨g5,0,none⟩=some (.bool n5):=(hcx _ (by go_simp)).trans (by go_simp);have j1:World.cell? w7 ⟨g5,1,none⟩=some (.slice A5 l5 c5):=(hcx _ (by go_simp)).trans (by go_simp);have j2:World.cell? w7 ⟨g5,2,none⟩=some (.slice B5 m5 d5):=(hcx _ (by go_simp)).trans (by go_simp);clear hcx hfx hb7 hbz))
  | (go_at_call 81;go_must (refine (SPL.out (.slice none 0 0) [] _ _ _ _ _ _ _ _ _ _ _ _ _ _ _ _ _ _ (E3.out _ _) (E3.out _ _) rfl rfl _ hRl ?_ ?_ (Or.inl ⟨rfl,rfl⟩) ?_ ?_ ?_ ?_).mono ?_;(exact Below.trans (Hw0.out.trans (G9.out.mono Hw0.out.size)) (Below.mono Bel.go (Hw0.out.trans (G9.out.mono Hw0.out.size)).size));(exact (HB.out.below G9.out HB.out.lt).below Bel.go (HB.out.below G9.out HB.out.lt).lt);(exact H9.out.1.below Bel.go);(exact H9.out.2.below Bel.go);(exact (R5.out.move G9.out).hz.below Bel.go);(exact (R5.out.move G9.out).hq.below Bel.go);rintro e w12 ⟨⟨v12,rfl⟩,F',hB',hF',hfr,-⟩;have hst:=r_done (Below.trans G9.out (Below.mono Bel.go G9.out.size)) HB.out (noDigit_slice _ _ _) (noDigit_slice _ _ _) hfr hB' hF' R5.out hgu5;have ST:=Lib.hid hst;have k0:=hst.r5.c0;have k1:=hst.r5.c1;have k2:=hst.r5.c2;clear hst hB' hF' hfr)))
 rename_i hHeld
 obtain ⟨F',hB',hF'⟩:=ST.out.f
 obtain ⟨A',l',c',rfl,hR⟩:=hF'.rts
 have y2:w12.cell? ⟨gs,2,none⟩=some (.slice A' l' c'):=(hB'.cell 2).trans rfl
 have hbf:Below w.heap.size w w12:=ST.out.fr.mono Hb.out hgw hgw Hb.out.size
 have Hbf:=Lib.hid hbf
 have HR:=Lib.hid hR
 have hgl:=hB'.lt
 clear hHeld hbf hR hB' hF' ST k0 k1 k2 i0 i1 i2 j0 j1 j2 q0 q1 q2 x0 x1 x2 G6 G7 G9 H6 H7 H9 R5 HB Hb Hw0 SPL Ctx Hp Hc4 E3
 go_wp2_with fail
 go_ret
 exact ⟨⟨_,_,_,rfl,by rw [Hr.out,HR2.out];exact HR.out⟩,Hbf.out⟩
end Go.Proofs.YtipocabbjinbhaaGreat
namespace Go.Proofs.YtipocabbjinbhaaGreat
open Go Go.RowKit
section
variable {w w':World} {g:Nat} {n:Bool} {A:Option Addr} {l c:Nat} {B:Option Addr} {m d:Nat} {z:Int} {q:Nat} {n':Bool} {A':Option Addr} {l' c':Nat} {B':Option Addr} {m' d':Nat} {z':Int} {q':Nat}
end
end Go.Proofs.YtipocabbjinbhaaGreat
namespace Go.Proofs.YtipocabbjinbhaaGreat
open Go.RowKit
theorem FqB.nf {a:Fq} (h:FqB a):FqB a.nf:=by
 have hn:=(Go.Proofs.YtipocabbjinbhaaGreat.nf_v (z:=a.z) h.p).2.1
 refine ⟨hn,?_,?_⟩
 ·show (rz a.z a.q).natAbs≤ZB
  unfold rz
  rw [Int.natAbs_tdiv]
  exact Nat.le_trans (Nat.div_le_self _ _) h.z
 ·show rq a.z a.q≤ZB
  unfold rq
  exact Nat.le_trans (Nat.div_le_self _ _) h.q
section
variable {f:List Int}
theorem proots_isl (h9:P9 f) (h0:plen f≠0) {xs:List Pt} (hx:Lst (fun x=>sgp f x=0) xs):∃ lo hi,Isl (qpart f) xs (proots f) lo hi:=by
 have hq:=q_facts h9.q h0
 have hx2:Lst (fun x=>sgp (qpart f) x=0) xs:=hx.congr fun x=>(hq.root x).symm
 unfold proots
 by_cases h:plen (qpart f)<2
 ·rw [if_pos h]
  have h1:plen (qpart f)=1:=by have:=hq.q0;omega
  have e:xs=[]:=by
   match xs,hx2 with
   | [],_=>rfl
   | x :: xs,hx2 =>
     have this:sgp (qpart f) x=0:=(hx2.2 x).1 (List.mem_cons_self ..)
     rw [sgp_one h1] at this
     exact absurd this (sg_ne (plead_ne (by omega)))
  rw [e]
  exact ⟨0,0,.nil _ _ Rat.le_refl⟩
 ·rw [if_neg h]
  exact ⟨_,_,roots_isl (SqF.of9 h9 h0) hx2⟩
theorem proots_len (h9:P9 f) (h0:plen f≠0):((proots f).length:Int)=nall f:=by
 obtain ⟨xs,hx⟩:=roots_lst h0 (fun _=>True)
 have hx1:Lst (fun x=>sgp f x=0) xs:=hx.congr fun x=>⟨fun h=>h.1,fun h=>⟨h,trivial⟩⟩
 obtain ⟨lo,hi,hi2⟩:=proots_isl h9 h0 hx1
 rw [hi2.length,nall_count h9.cp h9.der h0 hx1]
theorem p9_w2:P9 w2:=by
 have e:∀ c∈w2,c.natAbs≤2:=by decide
 refine ⟨by decide,fun j=>?_⟩
 have h2:(w2.getD j 0).natAbs≤2:=by
  rw [List.getD_eq_getElem?_getD]
  cases h:w2[j]? with
  | none=>decide
  | some c=>exact e c (List.mem_of_getElem? h)
 refine Nat.le_trans h2 (Nat.le_trans ?_ (bbk_le (show 1≤10 by decide)))
 rw [Nat.pow_one,BB_eq]
 decide
theorem proots_w2:(proots w2).length=2:=by
 have h:=proots_len p9_w2 (by decide)
 have e:nall w2=2:=by decide +kernel
 rw [e] at h
 omega
end
end Go.Proofs.YtipocabbjinbhaaGreat
namespace Go.Proofs.YtipocabbjinbhaaGreat
open Go.RowKit
theorem isl_fqb {Q:List Int} {PS:List (List Int)}:∀ (n:Nat) (a b:Fq),IsFit Q PS n a b→∀ r∈isl Q PS n a b,FqB r.1∧FqB r.2
 | 0,_,_,h,_,_=>h.elim
 | n+1,a,b,⟨ha,hb,h⟩,r,hr=>by
   have e:isl Q PS (n+1) a b=if icnt Q PS a b<1 then [] else if icnt Q PS a b=1∧a.sgn Q≠0∧b.sgn Q≠0 then [(a.nf,b.nf)] else isl Q PS n a (a.mid b) ++ (if (a.mid b).sgn Q=0 then [((a.mid b).nf,(a.mid b).nf)] else []) ++ isl Q PS n (a.mid b) b:=rfl
   rw [e] at hr
   by_cases c1:icnt Q PS a b<1
   ·rw [if_pos c1] at hr;simp at hr
   rw [if_neg c1] at hr
   by_cases c2:icnt Q PS a b=1∧a.sgn Q≠0∧b.sgn Q≠0
   ·rw [if_pos c2,List.mem_singleton] at hr
    rw [hr]
    exact ⟨ha.nf,hb.nf⟩
   rw [if_neg c2] at hr
   obtain ⟨h1,h2,h3⟩:=(h.resolve_left c1).resolve_left c2
   rcases List.mem_append.1 hr with hr | hr
   ·rcases List.mem_append.1 hr with hr | hr
    ·exact isl_fqb n _ _ h2 r hr
    ·split at hr
     ·rw [List.mem_singleton] at hr
      rw [hr]
      exact ⟨h1.nf,h1.nf⟩
     ·simp at hr
   ·exact isl_fqb n _ _ h3 r hr
theorem proots_fqb {f:List Int} (h9:P9 f):∀ r∈proots f,FqB r.1∧FqB r.2:=by
 unfold proots
 by_cases h:plen (qpart f)<2
 ·rw [if_pos h];intro r hr;simp at hr
 ·rw [if_neg h]
  have h0:plen f≠0:=fun h0=>by rw [qpart_nil h0] at h;exact h (by decide)
  exact isl_fqb _ _ _ (roots_fit (SqF.of9 h9 h0)).1
theorem vld_lt {a b:Fq} (ha:0<a.q) (hb:0<b.q):a.z*(b.q:Int)<b.z*(a.q:Int)↔a.v<b.v:=(frac_lt ha hb).symm
section
variable {f:List Int} {a b:Fq} {x:Pt}
def IsoV (f:List Int) (x:Pt) (a b:Fq):Prop :=
 sgp f x=0∧((a.v=b.v∧x=a.p)∨(a.v<b.v∧sgp f a.p≠0∧sgp f b.p≠0∧a.p<x∧x<b.p∧∀ y,sgp f y=0→a.p<y→y<b.p→y=x))
theorem IsoV.lo (h:IsoV f x a b):¬ x<a.p:=by
 rcases h.2 with h | h
 ·rw [h.2];exact Pt.irr _
 ·exact Pt.asym h.2.2.2.1
theorem IsoV.hi (h:IsoV f x a b):¬ b.p<x:=by
 rcases h.2 with h | h
 ·rw [h.2];unfold Fq.p;rw [h.1];exact Pt.irr _
 ·exact Pt.asym h.2.2.2.2.1
theorem Iso.v {Q:List Int} {r:Fq×Fq} (h:Iso Q x r) (hx:sgp f x=0) (e:∀ y,sgp f y=0↔sgp Q y=0):IsoV f x r.1 r.2:=by
 refine ⟨hx,?_⟩
 rcases h.2.2 with ⟨h1,h2⟩ | ⟨h1,h2,h3,h4,h5,h6⟩
 ·exact .inl ⟨by rw [h1],h2⟩
 ·exact .inr ⟨h1,fun h=>h2 ((e _).1 h),fun h=>h3 ((e _).1 h),h4,h5,fun y hy=>h6 y ((e y).1 hy)⟩
end
def r00:Fq×Fq:=(⟨0,1⟩,⟨0,1⟩)
instance instPt:Inhabited Pt:=⟨Pt.of 0⟩
structure RF (f:List Int) (xs:List Pt) (rs:List (Fq×Fq)):Prop where
 len:rs.length=xs.length
 lst:Lst (fun x=>sgp f x=0) xs
 iso:∀ k,k<xs.length→IsoV f (xs.getD k default) (rs.getD k r00).1 (rs.getD k r00).2
 ord:∀ j k,j<k→k<xs.length→(rs.getD j r00).2.v≤(rs.getD k r00).1.v
 fq:∀ r∈rs,FqB r.1∧FqB r.2
section
variable {f:List Int}
theorem Isl.get {Q:List Int} {xs:List Pt} {rs:List (Fq×Fq)} {lo hi:Rat} (h:Isl Q xs rs lo hi) :
 (∀ k,k<xs.length→Iso Q (xs.getD k default) (rs.getD k r00)∧lo≤(rs.getD k r00).1.v)∧∀ j k,j<k→k<xs.length→(rs.getD j r00).2.v≤(rs.getD k r00).1.v:=by
 induction h with
 | nil a b h=>exact ⟨fun k hk=>absurd hk (Nat.not_lt_zero _),fun j k _ hk=>absurd hk (Nat.not_lt_zero _)⟩
 | @cons x xs r l a c b h h1 h2 h3 ih =>
   refine ⟨fun k hk=>?_,fun j k hj hk=>?_⟩
   ·match k,hk with
    | 0,_=>exact ⟨h,h1⟩
    | k+1,hk =>
      obtain ⟨g1,g2⟩:=ih.1 k (by rw [List.length_cons] at hk;omega)
      have hl:=h.le
      exact ⟨g1,show a≤(l.getD k r00).1.v by grind⟩
   ·match j,k,hj,hk with
    | 0,k+1,_,hk =>
      have g2:=(ih.1 k (by rw [List.length_cons] at hk;omega)).2
      show r.2.v≤(l.getD k r00).1.v
      grind
    | j+1,k+1,hj,hk=>exact ih.2 j k (by omega) (by rw [List.length_cons] at hk;omega)
theorem getD_mem {α:Type} {l:List α} {k:Nat} (h:k<l.length) (d:α):l.getD k d∈l:=by
 rw [List.getD_eq_getElem?_getD,List.getElem?_eq_getElem h]
 exact List.getElem_mem h
theorem rf_ex (h9:P9 f) (h0:plen f≠0):∃ xs,RF f xs (proots f):=by
 obtain ⟨xs,hx⟩:=roots_lst h0 (fun _=>True)
 have hx1:Lst (fun x=>sgp f x=0) xs:=hx.congr fun x=>⟨fun h=>h.1,fun h=>⟨h,trivial⟩⟩
 obtain ⟨lo,hi,hi2⟩:=proots_isl h9 h0 hx1
 have hq:=q_facts h9.q h0
 have hg:=hi2.get
 exact ⟨xs,hi2.length,hx1,fun k hk=>(hg.1 k hk).1.v ((hx1.2 _).1 (getD_mem hk _)) fun y=>(hq.root y).symm,hg.2,proots_fqb h9⟩
theorem proots_nil (h0:plen f=0):proots f=[]:=by
 unfold proots
 rw [if_pos (by rw [qpart_nil h0];decide)]
end
def fcmp (a b:Fq):Int:=cmpz (a.z*(b.q:Int)) (b.z*(a.q:Int))
theorem fcmp_gt {a b:Fq} (ha:0<a.q) (hb:0<b.q):fcmp a b=1↔b.v<a.v:=by
 rw [← vld_lt hb ha];unfold fcmp cmpz;constructor
 ·intro h;split at h
  ·omega
  ·split at h<;>omega
 ·intro h;rw [if_neg (by omega),if_neg (by omega)]
theorem fcmp_or (a b:Fq):fcmp a b=-1∨fcmp a b=0∨fcmp a b=1:=by
 unfold fcmp cmpz;split
 ·simp
 ·split<;>simp
theorem fcmp_pos {a b:Fq} (ha:0<a.q) (hb:0<b.q):0<fcmp a b↔b.v<a.v:=by
 rw [← fcmp_gt ha hb];rcases fcmp_or a b with h | h | h<;>omega
section
variable {f:List Int}
end
end Go.Proofs.YtipocabbjinbhaaGreat
namespace Go.Proofs.YtipocabbjinbhaaGreat
open Go.RowKit
open Classical in
theorem asc_index (x:Pt):∀ xs:List Pt,Asc xs→x∈xs→∃ k,k<xs.length∧xs.getD k default=x∧isum (xs.map fun y=>if y<x then 1 else 0)=(k:Int)
 | [],_,h=>by cases h
 | y :: ys,ha,h=>by
   have ha':=List.pairwise_cons.1 ha
   rcases List.mem_cons.1 h with e | e
   ·subst e
    refine ⟨0,Nat.succ_pos _,rfl,?_⟩
    exact isum_zero (x :: ys) fun z hz=>by
     rcases List.mem_cons.1 hz with e | e
     ·rw [e];exact if_neg (Pt.irr _)
     ·exact if_neg (Pt.asym (ha'.1 z e))
   ·obtain ⟨k,h1,h2,h3⟩:=asc_index x ys ha'.2 e
    refine ⟨k+1,Nat.succ_lt_succ h1,h2,?_⟩
    show (if y<x then 1 else 0)+isum (ys.map _)=((k+1:Nat):Int)
    rw [h3,if_pos (ha'.1 x e)]
    omega
section
variable {qs:List (List Int)} (ht:Tri qs) (hz:¬ Zer qs)
include ht hz
theorem known_at {p:List Int} (hp:∃ y∈facs [] qs,y.1=p) (hl:p.length=2) {xs:List Pt} {rs:List (Fq×Fq)} (h:RF (prodf [1] qs) xs rs) :
 ∃ k,k<rs.length∧csum (fun r j=>if cmpv r j (-p.getD 0 0) (p.getD 1 0)<0 then 1 else 0) (facs [] qs)=(k:Int)∧IsoV (prodf [1] qs) (Pt.of (((-p.getD 0 0:Int):Rat) / ((p.getD 1 0:Int):Rat))) (rs.getD k r00).1 (rs.getD k r00).2:=by
 classical
 obtain ⟨y,hy,rfl⟩:=hp
 have hi:=(facs_irr (tri_ok ht hz) y hy).1
 have hlin:isLin y.1:=by
  rcases hi with c | c
  ·exact c
  ·have:=c.1;omega
 have hx0:sgp y.1 (Pt.of (((-y.1.getD 0 0:Int):Rat) / ((y.1.getD 1 0:Int):Rat)))=0:=(lin_root hlin _).2 rfl
 have hroot:=(prod_root (tri_ok ht hz) _).2 ⟨y,hy,hx0⟩
 have hmem:=(h.lst.2 _).2 hroot
 obtain ⟨k,h1,h2,h3⟩:=asc_index _ xs h.lst.1 hmem
 refine ⟨k,by rw [h.len];exact h1,?_,?_⟩
 ·rw [← h3]
  refine (known_sum ht hz _ _ (fun r hr j hj=>?_) h.lst).symm
  have:=((rts_irr hr).2 j hj (-y.1.getD 0 0) (y.1.getD 1 0) hlin.2).2.1
  by_cases c:cmpv r j (-y.1.getD 0 0) (y.1.getD 1 0)<0
  ·rw [if_pos c,if_pos (this.1 c)]
  ·rw [if_neg c,if_neg fun h=>c (this.2 h)]
 ·have:=h.iso k h1
  rw [h2] at this
  exact this
end
end Go.Proofs.YtipocabbjinbhaaGreat
namespace Go.Proofs.YtipocabbjinbhaaGreat
open Go Go.RowKit
theorem few_tri {n:Nat} {qs:List (List Int)} (h3:∀ q∈qs,q.length=3∧∀ c∈q,I8 c) (h:qs.length≤n∧∀ i,i<qs.length→Sma (qs.getD i [])):Tri qs:=fun q hq=>⟨(h3 q hq).1,by
 obtain ⟨i,hi,e⟩:=List.getElem_of_mem hq
 have:=h.2 i hi
 rw [List.getD_eq_getElem?_getD,List.getElem?_eq_getElem hi,e] at this
 exact this⟩
theorem few_true {n:Nat} {qs:List (List Int)} (h:qs.length≤n∧∀ i,i<qs.length→Sma (qs.getD i [])):fewb n qs=true:=by unfold fewb;exact @decide_eq_true _ (Classical.propDecidable _) h
theorem few_false {n:Nat} {qs:List (List Int)} (h:¬ (qs.length≤n∧∀ i,i<qs.length→Sma (qs.getD i []))):fewb n qs=false:=by unfold fewb;exact @decide_eq_false _ (Classical.propDecidable _) h
theorem tri_i64 {qs:List (List Int)} (ht:Tri qs) (h4:qs.length≤4):∀ c∈prodf [1] qs,I64 c:=fun c hc=>by
 have h1:=prodf_bd qs [1] 1 ht one_abs
 have h3:27^qs.length≤27^4:=Nat.pow_le_pow_right (by decide) h4
 obtain ⟨i,hi,e⟩:=List.getElem_of_mem hc
 have:=h1 i
 rw [List.getD_eq_getElem?_getD,List.getElem?_eq_getElem hi,e] at this
 simp at this
 unfold I64
 omega
theorem fcs_len {u:Int} {fs qs:List _} (hf0:u=0→fs=[]) (hf1:u≠0→fs=facs [] qs) (h5:qs.length≤5):fs.length≤100:=by
 have e2:=facs_len qs []
 simp only [List.length_nil] at e2
 by_cases hu0:u=0
 ·rw [hf0 hu0];exact Nat.zero_le _
 ·rw [hf1 hu0];omega
theorem fcs_fcp {u:Int} {fs qs:List _} (ht:Tri qs) (hu:u=0↔Zer qs) (hf0:u=0→fs=[]) (hf1:u≠0→fs=facs [] qs):∀ x∈fs,FcP x.1:=fun x hx=>by
 by_cases hu0:u=0
 ·rw [hf0 hu0] at hx;cases hx
 ·rw [hf1 hu0] at hx
  exact facs_fcp ht (fun hz=>hu0 (hu.2 hz)) x hx
end Go.Proofs.YtipocabbjinbhaaGreat
namespace Go.Proofs.YtipocabbjinbhaaGreat
open Go Go.RowKit
theorem Vals.get {w:World} {g o:Nat} {rs:List (Fq×Fq)} (h:Vals w g o rs) {k:Nat} (hk:k<rs.length) :
 ∃ n A l c B m d n' A' l' c' B' m' d',w.cell? ⟨g,o+k*6,none⟩=some (.bool n)∧w.cell? ⟨g,o+k*6+1,none⟩=some (.slice A l c)∧w.cell? ⟨g,o+k*6+2,none⟩=some (.slice B m d)∧w.cell? ⟨g,o+k*6+3,none⟩=some (.bool n')∧w.cell? ⟨g,o+k*6+4,none⟩=some (.slice A' l' c')∧w.cell? ⟨g,o+k*6+5,none⟩=some (.slice B' m' d') ∧
   IntN w n A l c (rs.getD k r00).1.z∧NatN w B m d (rs.getD k r00).1.q∧IntN w n' A' l' c' (rs.getD k r00).2.z∧NatN w B' m' d' (rs.getD k r00).2.q:=by
 have e:rs[k]?=some (rs.getD k r00):=by rw [List.getD_eq_getElem?_getD,List.getElem?_eq_getElem hk];rfl
 obtain ⟨vs,⟨n,A,l,c,B,m,d,n',A',l',c',B',m',d',hv,h1,h2,h3,h4⟩,hc⟩:=h k _ e
 subst hv
 exact ⟨n,A,l,c,B,m,d,n',A',l',c',B',m',d',hc 0 _ rfl,hc 1 _ rfl,hc 2 _ rfl,hc 3 _ rfl,hc 4 _ rfl,hc 5 _ rfl,h1,h2,h3,h4⟩
theorem getD_fqb {rs:List (Fq×Fq)} (h:∀ r∈rs,FqB r.1∧FqB r.2) {k:Nat} (hk:k<rs.length):FqB (rs.getD k r00).1∧FqB (rs.getD k r00).2:=by
 rw [List.getD_eq_getElem?_getD,List.getElem?_eq_getElem hk]
 exact h _ (List.getElem_mem hk)
end Go.Proofs.YtipocabbjinbhaaGreat
namespace Go.Proofs.YtipocabbjinbhaaGreat
open Go Go.RowKit
theorem w2_atI (w:World):I64At (w.alloc (.cells #[.int .i64 (-2),.int .i64 0,.int .i64 1] 2)) (some ⟨w.heap.size,0,none⟩) 3 3 w2:=by
 refine ⟨rfl,by omega,.inr ⟨w.heap.size,0,rfl,by simp,fun j hj=>?_⟩⟩
 match j,hj with
 | 0,_=>simp [w2]
 | 1,_=>simp [w2]
 | 2,_=>simp [w2]
theorem w2_trimI:ptrim w2=w2:=by decide
set_option maxHeartbeats 1000000 in
theorem awake16_any (w:World) :
 Calls Tryz.prog 33 #[] w fun e w'=>e=.returned (.bool true)∧Below w.heap.size w w':=by
 have jb:=below_new w (.cells #[.int .i64 (-2),.int .i64 0,.int .i64 1] 2)
 have hat:=w2_atI w
 have Hb:=Lib.hid jb
 clear jb
 go_enter Tryz.func33,Tryz.ntmps33
 go_wp2_with fail
 refine (pof_any _ _ _ _ _ hat (by intro c hc;simp [w2] at hc;rcases hc with rfl | rfl | rfl<;>(unfold I64;omega)) (by omega)).mono ?_
 rintro e w1 ⟨A1,l1,c1,rfl,h1,hb1⟩
 rw [show ptrim w2=w2 from w2_trimI] at h1
 have hl1:l1≤3:=by have:=h1.length;have e:w2.length=3:=rfl;omega
 replace Hb:=Lib.hid (Hb.out.trans (hb1.mono Hb.out.size))
 have h9:=p9_w2
 clear hb1 hat
 go_wp2_with fail
 refine (roots_any ikN _ _ _ w2 _ h1 h9.cp.fit.smp (fun _=>h9.q) (fun h=>SqF.of9 h9 h) (by omega)).mono ?_
 rintro e w2' ⟨⟨A2,l2,c2,rfl,h2⟩,hb2⟩
 obtain rfl:l2=2:=by rw [← h2.length];exact proots_w2
 replace Hb:=Lib.hid (Hb.out.trans (hb2.mono Hb.out.size))
 clear hb2 h1 h2
 go_wp2
 go_ret
 exact ⟨rfl,Hb.out⟩
end Go.Proofs.YtipocabbjinbhaaGreat
namespace Go.Proofs.YtipocabbjinbhaaGreat
open Go Go.RowKit
set_option maxRecDepth 100000 in
set_option maxHeartbeats 16000000 in
theorem law_known (A:Option Addr) (la ca:Nat) (qs:List (List Int)) (w:World) (h:TrAt w A la ca qs) (hlm:la≤9223372036854775807) :
 Calls Tryz.prog 7 #[.slice A la ca] w fun e w'=>e=.returned (.bool true)∧Below w.heap.size w w':=by
 have HT3:=Lib.hid h.three
 have Hll:=Lib.hid h.length
 have H0:=Lib.hid h
 clear h
 go_enter Tryz.func7,Tryz.ntmps7
 go_wp2_with fail
 refine (awake16_any _).mono ?_
 rintro e w1 ⟨rfl,hb1⟩
 have H1:=Lib.hid (H0.out.below hb1)
 have Hb1:=Lib.hid hb1
 clear hb1 H0
 go_wp2_with fail
 refine (few_any H1.out 4 (by omega) hlm).mono ?_
 rintro e w2 ⟨rfl,hw2⟩
 obtain rfl:=hw2
 by_cases hfew:qs.length≤4∧∀ i,i<qs.length→Sma (qs.getD i [])
 ·rw [few_true hfew]
  have HT:=Lib.hid (few_tri HT3.out hfew)
  have H4:=Lib.hid hfew.1
  have h5:la≤5:=by rw [← Hll.out];have:=hfew.1;omega
  have F9:=Lib.hid (known_p9 HT.out hfew.1)
  have HFt:=Lib.hid (prodf_trim qs [1] (by decide))
  have HF64:=Lib.hid (tri_i64 HT.out hfew.1)
  clear hfew
  go_wp2_with fail
  refine (factors_any H1.out h5 HT.out).mono ?_
  rintro e w3 ⟨⟨u,A3,l3,c3,fs,rfl,hu,hF,hf0,hf1⟩,hb3⟩
  have H3:=Lib.hid (H1.out.below hb3)
  have HF3:=Lib.hid hF
  have Hb3:=Lib.hid (Hb1.out.trans (hb3.mono Hb1.out.size))
  have hl3:l3≤100:=by rw [← hF.length];exact fcs_len hf0 hf1 (by have:=H4.out;omega)
  have HFC:=Lib.hid (fcs_fcp HT.out hu hf0 hf1)
  have HU:=Lib.hid hu
  have Hf0:=Lib.hid hf0
  have Hf1:=Lib.hid hf1
  clear hb3 hF hu hf0 hf1
  go_wp2_with fail
  refine (fprod_any H3.out h5 HT.out).mono ?_
  rintro e w4 ⟨⟨A4,l4,c4,rfl,h4⟩,hb4⟩
  have H4p:=Lib.hid h4
  have HF4:=Lib.hid (fs_below HF3.out hb4)
  have Hb4:=Lib.hid (Hb3.out.trans (hb4.mono Hb3.out.size))
  have hl4:l4≤1000:=by rw [← h4.length];have:=prodf_len qs [1] 0 HT.out (by decide) (by decide);have:=H4.out;omega
  clear h4 hb4
  go_wp2_with fail
  refine (pol15_any _ _ _ (prodf [1] qs) _ H4p.out hl4 HF64.out).mono ?_
  rintro e w5 ⟨A5,l5,c5,rfl,h5',hb5⟩
  rw [HFt.out] at h5'
  have HF5:=Lib.hid h5'
  have HFs5:=Lib.hid (fs_below HF4.out hb5)
  have Hb5:=Lib.hid (Hb4.out.trans (hb5.mono Hb4.out.size))
  have hl5:l5≤1000000:=by have:=h5'.length;have:=prodf_len qs [1] 0 HT.out (by decide) (by decide);have:=H4.out;omega
  clear hb5 h5'
  go_wp2_with fail
  refine (roots_any ikN _ _ _ (prodf [1] qs) _ HF5.out F9.out.cp.fit.smp (fun _=>F9.out.q) (fun h0=>SqF.of9 F9.out h0) hl5).mono ?_
  rintro e w6 ⟨⟨A6,l6,c6,rfl,h6⟩,hb6⟩
  have H6:=Lib.hid h6
  have HFs6:=Lib.hid (fs_below HFs5.out hb6)
  have Hb6:=Lib.hid (Hb5.out.trans (hb6.mono Hb5.out.size))
  have Hl6:=Lib.hid h6.length
  clear hb6 h6
  by_cases hu0:u=0
  ·have bu:(u == 0)=true:=by rw [beq_iff_eq];exact hu0
   have e0:=proots_nil (prodf_zer qs [1] (HU.out.1 hu0))
   have hl60:l6=0:=by rw [← Hl6.out,e0];rfl
   subst hl60
   clear hu0 e0
   go_wp2
   go_ret
   exact ⟨by simp,Hb6.out⟩
  ·have bu:(u == 0)=false:=by rw [beq_eq_false_iff_ne];exact hu0
   have HZ:=Lib.hid (show ¬ Zer qs from fun hz=>hu0 (HU.out.2 hz))
   have hfs:=Hf1.out hu0
   clear hu0
   go_wp2_with fail
   refine (all15_any HFs6.out hl3 HFC.out).mono ?_
   rintro e w7 ⟨rfl,hb7⟩
   have hall:csum (fun _ _=>1) fs=(l6:Int):=by
    rw [hfs,← known_all HT.out HZ.out H4.out,← proots_len F9.out (prodf_ne HT.out HZ.out),Hl6.out]
   rw [hall]
   have Hfs:=Lib.hid hfs
   have H7:=Lib.hid (H6.out.below hb7)
   have HFs7:=Lib.hid (fs_below HFs6.out hb7)
   have Hb7:=Lib.hid (Hb6.out.trans (hb7.mono Hb6.out.size))
   have bl:((l6:Int) != (l6:Int))=false:=by simp
   obtain ⟨xs,hrf⟩:=rf_ex F9.out (prodf_ne HT.out HZ.out)
   have HRF:=Lib.hid hrf
   have Hl3:=Lib.hid HFs7.out.length
   have hl69:l6≤9:=by
    rw [← Hl6.out,hrf.len]
    have e1:=rts_le (plen (prodf [1] qs)-1) _ (by have:=prodf_ne HT.out HZ.out;omega) xs hrf.lst.1 fun x hx=>(hrf.lst.2 x).1 hx
    have:=F9.out.len
    omega
   clear hb7 hall hrf hfs bu
   go_wp2
   go_loopw [6] (fun s6 wr=>∃ i:Nat,i≤l3∧s6=.int .i64 (i:Int)∧Below w7.heap.size w7 wr) (fun s6 _=>l3-(intOf s6).toNat)
   case atStart=>exact ⟨0,Nat.zero_le _,rfl,Below.refl _ _⟩
   case round =>
    obtain ⟨i,hi,rfl,hbw⟩:=hrel
    obtain ⟨wo,rfl⟩:∃ wo:World,wo=wr:=⟨_,rfl⟩
    have HFo:=Lib.hid (fs_below HFs7.out hbw)
    have HRo:=Lib.hid (H7.out.below hbw)
    have Hbw:=Lib.hid hbw
    clear hbw
    by_cases hlt:i<l3
    ·have Hlt:=Lib.hid hlt
     have hif:i<fs.length:=by rw [Hl3.out];exact hlt
     obtain ⟨b0,o0,A1,l1,c1,hfi⟩:=fs_i HFo.out hlt
     obtain rfl:=hfi.eq
     have e1:=hfi.cell
     have hmem:fs.getD i ([],0)∈fs:=by rw [List.getD_eq_getElem?_getD,List.getElem?_eq_getElem hif];exact List.getElem_mem _
     have HM:=Lib.hid (show ∃ y∈facs [] qs,y.1=(fs.getD i ([],0)).1 from ⟨_,by rw [← Hfs.out];exact hmem,rfl⟩)
     have hQ:=HFC.out _ hmem
     obtain ⟨p,hp⟩:∃ p,p=(fs.getD i ([],0)).1:=⟨_,rfl⟩
     rw [← hp] at hfi HM hQ
     have HFI:=Lib.hid hfi
     have HQ:=Lib.hid hQ
     have hpl:=hfi.at_.length
     have hl23:l1=2∨l1=3:=by rw [← hpl];exact hQ.len
     have Hpl:=Lib.hid hpl
     have ti0:(i:Int)<(l3:Int):=by omega
     have tw:IntKind.i64.wrap ((i:Int)+1)=(i:Int)+1:=IntWalk.i64_in _ (by omega)
     clear hp hmem hif hi hfi hlt hQ hpl
     rcases hl23 with rfl | rfl
     ·obtain ⟨b1,o1,rfl,hb1,hc1⟩:=HFI.out.at_.at_ (by omega)
      have p0:=hc1 0 (by omega)
      have p1:=hc1 1 (by omega)
      rw [Nat.add_zero] at p0
      have v0:=HQ.out.bd 0
      have v1:=HQ.out.bd 1
      have HI:=Lib.hid (known_at HT.out HZ.out HM.out Hpl.out HRF.out)
      have hlin:=HQ.out.irr
      have hpos:0<p.getD 1 0:=by
       rcases hlin with c | c
       ·exact c.2
       ·have:=c.1;have:=Hpl.out;omega
      have hco:pcont p=1:=by
       obtain ⟨y,hy,e⟩:=HM.out
       rw [← e]
       exact (facs_irr (tri_ok HT.out HZ.out) y hy).2
      have HCO:=Lib.hid hco
      rw [← Hfs.out] at HI
      obtain ⟨x0,hx0⟩:∃ x,x=p.getD 0 0:=⟨_,rfl⟩
      obtain ⟨x1,hx1⟩:∃ x,x=p.getD 1 0:=⟨_,rfl⟩
      rw [← hx0] at p0 v0 HI
      rw [← hx1] at p1 v1 HI hpos
      obtain ⟨z0,hz0⟩:∃ z,z=-x0:=⟨_,rfl⟩
      rw [← hz0] at HI
      have nz:-x0=z0:=hz0.symm
      have iz:IntKind.i64.wrap z0=z0:=IntWalk.i64_in _ (by omega)
      have vz:z0.natAbs≤29:=by omega
      obtain ⟨j,hj⟩:∃ j:List Int→Nat→Int,j=fun r m=>if cmpv r m z0 x1<0 then 1 else 0:=⟨_,rfl⟩
      rw [← hj] at HI
      have HJ:=Lib.hid (show ∀ r m,(cmpv r m z0 x1<0→j r m=1)∧(¬ cmpv r m z0 x1<0→j r m=0) from fun r m=>by
       rw [hj]
       exact ⟨fun h=>if_pos h,fun h=>if_neg h⟩)
      have HJB:=Lib.hid (show ∀ r m,(j r m).natAbs≤1 from fun r m=>by rw [hj];dsimp only;split<;>decide)
      have HSB:=Lib.hid (fun n=>csum_bd (j:=j) HJB.out (fs.take n))
      have Hbp:=Lib.hid hb1
      clear hc1 hx0 hx1 hz0 hj hlin hco
      go_wp2
      go_loopw [8,9] (fun s8 s9 wr=>∃ k:Nat,k≤l3∧s8=.int .i64 (csum j (fs.take k))∧s9=.int .i64 (k:Int)∧Below wo.heap.size wo wr) (fun _ s9 _=>l3-(intOf s9).toNat)
      case atStart=>exact ⟨0,Nat.zero_le _,rfl,rfl,Below.refl _ _⟩
      case round =>
       obtain ⟨k,hk,rfl,rfl,hbk⟩:=hrel
       obtain ⟨wk,rfl⟩:∃ wk:World,wk=wr:=⟨_,rfl⟩
       have HFk:=Lib.hid (fs_below HFo.out hbk)
       have Hbk:=Lib.hid hbk
       have r0:=(hbk.cell (p:=⟨b1,o1,none⟩) Hbp.out).trans p0
       have r1:=(hbk.cell (p:=⟨b1,o1+1,none⟩) Hbp.out).trans p1
       obtain ⟨N,hN⟩:∃ N,N=csum j (fs.take k):=⟨_,rfl⟩
       rw [← hN]
       have hN2:=HSB.out k
       rw [← hN] at hN2
       have hlen:(fs.take k).length≤100:=by rw [List.length_take,Hl3.out];omega
       have HN:=Lib.hid hN
       have R0:=Lib.hid r0
       have R1:=Lib.hid r1
       clear hN p0 p1 r0 r1
       by_cases hlt:k<l3
       ·have Hkl:=Lib.hid hlt
        have hif:k<fs.length:=by rw [Hl3.out];exact hlt
        obtain ⟨b2,o2,A2,l2,c2,hfk⟩:=fs_i HFk.out hlt
        obtain ⟨rfl,rfl⟩:b2=b0∧o2=o0:=by have:=hfk.eq;cases this;exact ⟨rfl,rfl⟩
        have HFK:=Lib.hid hfk
        have hmem:fs.getD k ([],0)∈fs:=by rw [List.getD_eq_getElem?_getD,List.getElem?_eq_getElem hif];exact List.getElem_mem _
        have HQk:=Lib.hid (HFC.out _ hmem)
        have HTk:=Lib.hid (show csum j (fs.take (k+1))=N+ksum (j (fs.getD k ([],0)).1) (realn (fs.getD k ([],0)).1) by unfold csum at HN ⊢;rw [take_snoc hif ([],0),lfsum_app,HN.out])
        obtain ⟨r,hr⟩:∃ r,r=(fs.getD k ([],0)).1:=⟨_,rfl⟩
        rw [← hr] at HFK HTk HQk
        have Hr2:=Lib.hid (realn_le r)
        have Hkb:=Lib.hid (fun n=>ksum_bd (HJB.out r) n)
        have HNB:=Lib.hid (show N.natAbs≤200 by omega)
        have tk0:(k:Int)<(l3:Int):=by omega
        clear hr hmem hif hk hN2 hlen hfk hlt hbk
        go_wp2
        go_loopw [8,10] (fun s8 s10 wx=>∃ m:Nat,m≤realn r∧s8=.int .i64 (N+ksum (j r) m)∧s10=.int .i64 (m:Int)∧Below wk.heap.size wk wx) (fun _ s10 _=>realn r-(intOf s10).toNat)
        case atStart=>exact ⟨0,Nat.zero_le _,by rw [show ksum (j r) 0=0 from rfl,Int.add_zero],rfl,Below.refl _ _⟩
        case round =>
         obtain ⟨m,hm,rfl,rfl,hbx⟩:=hrel
         have HF2:=Lib.hid (HFK.out.below hbx)
         have e2:=HF2.out.cell
         have Hbx:=Lib.hid hbx
         obtain ⟨K,hK⟩:∃ K,K=N+ksum (j r) m:=⟨_,rfl⟩
         have hKb:K.natAbs≤202:=by have:=Hkb.out m;have:=HNB.out;have:=Hr2.out;omega
         have HK:=Lib.hid hK
         rw [← hK]
         clear hK hbx
         go_wp2_with fail
         refine (real_any HF2.out.at_ HQk.out).mono ?_
         rintro e w3 ⟨rfl,hb3⟩
         have Hb3x:=Lib.hid (Hbx.out.trans (hb3.mono Hbx.out.size))
         have HF3x:=Lib.hid (HF2.out.below hb3)
         clear e2 hb3
         by_cases hkr:m<realn r
         ·have tm:(m:Int)<(realn r:Int):=by omega
          have twm:IntKind.i64.wrap ((m:Int)+1)=(m:Int)+1:=IntWalk.i64_in _ (by have:=Hr2.out;omega)
          have tK:IntKind.i64.wrap (K+1)=K+1:=IntWalk.i64_in _ (by omega)
          have Hkr:=Lib.hid hkr
          have hm1:m≤1:=by have:=Hr2.out;omega
          have e3:=HF3x.out.cell
          have hpk:b1<wk.heap.size:=Nat.lt_of_lt_of_le Hbp.out Hbk.out.size
          have q0:=(Hb3x.out.cell (p:=⟨b1,o1,none⟩) hpk).trans R0.out
          have q1:=(Hb3x.out.cell (p:=⟨b1,o1+1,none⟩) hpk).trans R1.out
          clear hpk hkr
          go_wp2_with fail
          refine wp_region_held_drew (S:=fun w'=>w'.cell? ⟨b2,o2+k*2,none⟩=some (.slice A2 l2 c2)∧w'.cell? ⟨b1,o1,none⟩=some (.int .i64 x0)∧w'.cell? ⟨b1,o1+1,none⟩=some (.int .i64 x1)) (by kernel_rfl) (by (try dsimp only);go_keep) (fun hHeld=>?_)
          (refine tk (i:=0) (v:=?_) rfl rfl (Or.inl ⟨by rfl,?_⟩) ?_;rotate_left;(focus (intro w hSw;(try dsimp only at hSw);go_simp;(try with_reducible rfl)));(simp only [put_lit,List.set]))
          (refine tk (i:=1) (v:=?_) rfl rfl (Or.inl ⟨by rfl,?_⟩) ?_;rotate_left;(focus (intro w hSw;(try dsimp only at hSw);go_simp;(try with_reducible rfl)));(simp only [put_lit,List.set]))
          (refine tk (i:=2) (v:=?_) rfl rfl (Or.inl ⟨by rfl,?_⟩) ?_;rotate_left;(focus (intro w hSw;(try dsimp only at hSw);go_simp;(try with_reducible rfl)));(simp only [put_lit,List.set]))
          (refine tk (i:=3) (v:=?_) rfl rfl (Or.inl ⟨by rfl,?_⟩) ?_;rotate_left;(focus (intro w hSw;(try dsimp only at hSw);go_simp;(try with_reducible rfl)));(simp only [put_lit,List.set]))
          (refine tk (i:=4) (v:=?_) rfl rfl (Or.inl ⟨by rfl,?_⟩) ?_;rotate_left;(focus (intro w hSw;(try dsimp only at hSw);go_simp;(try with_reducible rfl)));(simp only [put_lit,List.set]))
          (refine tk (i:=5) (v:=?_) rfl rfl (Or.inl ⟨by rfl,?_⟩) ?_;rotate_left;(focus (intro w hSw;(try dsimp only at hSw);go_simp;(try with_reducible rfl)));(simp only [put_lit,List.set]))
          (refine tk (i:=6) (v:=?_) rfl rfl (Or.inl ⟨by rfl,?_⟩) ?_;rotate_left;(focus (intro w hSw;(try dsimp only at hSw);go_simp;(try with_reducible rfl)));(simp only [put_lit,List.set]))
          (refine tk (i:=7) (v:=?_) rfl rfl (Or.inl ⟨by rfl,?_⟩) ?_;rotate_left;(focus (intro w hSw;(try dsimp only at hSw);go_simp;(try with_reducible rfl)));(simp only [put_lit,List.set]))
          (refine tk (i:=8) (v:=?_) rfl rfl (Or.inl ⟨by rfl,?_⟩) ?_;rotate_left;(focus (intro w hSw;(try dsimp only at hSw);go_simp;(try with_reducible rfl)));(simp only [put_lit,List.set]))
          (refine tk (i:=9) (v:=?_) rfl rfl (Or.inl ⟨by rfl,?_⟩) ?_;rotate_left;(focus (intro w hSw;(try dsimp only at hSw);go_simp;(try with_reducible rfl)));(simp only [put_lit,List.set]))
          (refine tk (i:=10) (v:=?_) rfl rfl (Or.inl ⟨by rfl,?_⟩) ?_;rotate_left;(focus (intro w hSw;(try dsimp only at hSw);go_simp;(try with_reducible rfl)));(simp only [put_lit,List.set]))
          (refine tk (i:=11) (v:=?_) rfl rfl (Or.inl ⟨by rfl,?_⟩) ?_;rotate_left;(focus (intro w hSw;(try dsimp only at hSw);go_simp;(try with_reducible rfl)));(simp only [put_lit,List.set]))
          (refine tk (i:=12) (v:=?_) rfl rfl (Or.inl ⟨by rfl,?_⟩) ?_;rotate_left;(focus (intro w hSw;(try dsimp only at hSw);go_simp;(try with_reducible rfl)));(simp only [put_lit,List.set]))
          (refine wpAnyH_ready (rs:=[13]) (by kernel_rfl) (by simp) ?_;refine AllReadyH.cons rfl (fun K hK=>?_) AllReadyH.nil;go_simp)
          refine (cmp15_any (HF3x.out.at_.below Bel.go) HQk.out m hm1 z0 x1 (by omega) (by omega)).mono ?_
          rintro e w4 ⟨rfl,hb4⟩
          have Hb4x:=Lib.hid (Hb3x.out.trans ((show Below w3.heap.size w3 w4 from (Below.trans Bel.go (hb4.mono (by simp<;>omega)))).mono Hb3x.out.size))
          have HJ1:=Lib.hid (HJ.out r m)
          generalize cmpv r m z0 x1=C at HJ1 ⊢
          obtain ⟨hcx,hfx⟩:=bcellS hb4;refine hK.out _ _ ?_ (fun _=>?_);(focus (((try dsimp only);repeat' apply And.intro)<;>(rw [hcx _ (by go_simp)];go_simp)));clear hHeld hK K hcx hfx;rename_i hHeld;clear hb4
          (refine tk (i:=14) (v:=?_) rfl rfl (Or.inl ⟨by rfl,?_⟩) ?_;rotate_left;(focus (intro w hSw;(try dsimp only at hSw);go_simp;(try with_reducible rfl)));(simp only [put_lit,List.set]))
          refine wpAnyH_done (by kernel_rfl) ?_ _
          clear hHeld e3 q0 q1
          by_cases hin:C<0
          ·have HJ2:=Lib.hid (HJ1.out.1 hin)
           go_wp2
           go_roundw
           case rel=>exact ⟨m+1,Hkr.out,by rw [show ksum (j r) (m+1)=ksum (j r) m+j r m from rfl,HJ2.out,HK.out];congr 1;omega,by go_num,by first | exact Hb4x.out | exact below_drewn Hb4x.out _⟩
           case measure=>have:=Hkr.out;simp [intOf];omega
          ·have HJ2:=Lib.hid (HJ1.out.2 (by omega))
           go_wp2
           go_roundw
           case rel=>exact ⟨m+1,Hkr.out,by rw [show ksum (j r) (m+1)=ksum (j r) m+j r m from rfl,HJ2.out,HK.out];congr 1;omega,by go_num,by first | exact Hb4x.out | exact below_drewn Hb4x.out _⟩
           case measure=>have:=Hkr.out;simp [intOf];omega
         ·have tm:¬ (m:Int)<(realn r:Int):=by omega
          have twk:IntKind.i64.wrap ((k:Int)+1)=(k:Int)+1:=IntWalk.i64_in _ (by have:=Hkl.out;omega)
          have hke:m=realn r:=by omega
          rw [hke] at HK
          clear hm hkr hke
          go_wp2
          go_roundw
          case rel=>exact ⟨k+1,Hkl.out,by rw [HTk.out,HK.out],by go_num,Hbk.out.trans (Hb3x.out.mono Hbk.out.size)⟩
          case measure=>have:=Hkl.out;simp [intOf];omega
       ·have tk0:¬ (k:Int)<(l3:Int):=by omega
        have HE:fs.take k=fs:=by rw [List.take_of_length_le (by rw [Hl3.out];omega)]
        rw [HE] at HN
        obtain ⟨kk,hk1,hk2,hiso⟩:=HI.out
        have hNk:N=(kk:Int):=by rw [HN.out,hk2]
        subst hNk
        have hk16:kk<l6:=by rw [← Hl6.out];exact hk1
        obtain ⟨q1,hq1⟩:∃ q:Nat,x1=(q:Int):=⟨x1.toNat,by omega⟩
        subst hq1
        have q0:=R0.out
        have q1c:=R1.out
        have hq0:0<q1:=by omega
        have hzb:z0.natAbs≤ZB:=by have:=zb_128;omega
        have hqb:q1≤ZB:=by have:=zb_128;omega
        obtain ⟨f1,_,f3,f4,f5⟩:=rz_facts (z:=z0) hq0 hzb hqb
        have HRk:=Lib.hid (HRo.out.below Hbk.out)
        have HIso:=Lib.hid hiso
        have HF5x:=Lib.hid f5
        have Hkk:=Lib.hid hk1
        clear hk hlt hN2 hlen hbk hk1 hk2 hiso f5
        have hI0:I64 z0:=by unfold I64;omega
        have hI1:I64 (q1:Int):=by unfold I64;omega
        have hU:U64 z0.natAbs:=by unfold U64;rw [BB_eq];omega
        have hV:q1<BB:=by rw [BB_eq];omega
        have hpk:b1<wk.heap.size:=Nat.lt_of_lt_of_le Hbp.out Hbk.out.size
        go_wp2_with fail
        go_cut [11,12] (fun s11 s12 wx=>s12=.int .i64 0∧∃ g n A l c B m d,s11=.pointer (some ⟨g,0,none⟩)∧wk.heap.size≤g∧RBox wx g n A l c B m d (rz z0 q1) (rq z0 q1)∧Below wk.heap.size wk wx)
        case first =>
         refine wp_region_held_drew (S:=fun w'=>w'.cell? ⟨b1,o1,none⟩=some (.int .i64 x0)∧w'.cell? ⟨b1,o1+1,none⟩=some (.int .i64 (q1:Int))) (by kernel_rfl) (by (try dsimp only);go_keep) (fun hHeld=>?_)
         (refine tk (i:=0) (v:=?_) rfl rfl (Or.inl ⟨by rfl,?_⟩) ?_;rotate_left;(focus (intro w hSw;(try dsimp only at hSw);go_simp;(try with_reducible rfl)));(simp only [put_lit,List.set]))
         (refine tk (i:=1) (v:=?_) rfl rfl (Or.inl ⟨by rfl,?_⟩) ?_;rotate_left;(focus (intro w hSw;(try dsimp only at hSw);go_simp;(try with_reducible rfl)));(simp only [put_lit,List.set]))
         (refine tk (i:=2) (v:=?_) rfl rfl (Or.inl ⟨by rfl,?_⟩) ?_;rotate_left;(focus (intro w hSw;(try dsimp only at hSw);go_simp;(try with_reducible rfl)));(simp only [put_lit,List.set]))
         (refine tk (i:=3) (v:=?_) rfl rfl (Or.inl ⟨by rfl,?_⟩) ?_;rotate_left;(focus (intro w hSw;(try dsimp only at hSw);go_simp;(try with_reducible rfl)));(simp only [put_lit,List.set]))
         (refine tk (i:=5) (v:=?_) rfl rfl (Or.inl ⟨by rfl,?_⟩) ?_;rotate_left;(focus (intro w hSw;(try dsimp only at hSw);go_simp;(try with_reducible rfl)));(simp only [put_lit,List.set]))
         (refine tk (i:=6) (v:=?_) rfl rfl (Or.inl ⟨by rfl,?_⟩) ?_;rotate_left;(focus (intro w hSw;(try dsimp only at hSw);go_simp;(try with_reducible rfl)));(simp only [put_lit,List.set]))
         (refine tk (i:=7) (v:=?_) rfl rfl (Or.inl ⟨by rfl,?_⟩) ?_;rotate_left;(focus (intro w hSw;(try dsimp only at hSw);go_simp;(try with_reducible rfl)));(simp only [put_lit,List.set]))
         refine wpAnyH_ready (rs:=[4,13]) (by kernel_rfl) (by simp) ?_;refine AllReadyH.cons rfl (fun K hK=>?_) (AllReadyH.cons rfl (fun K hK=>?_) AllReadyH.nil)
         ·go_simp
          refine (iof_any z0 _ hI0).mono ?_;rintro e w21 ⟨n21,A21,l21,c21,rfl,h21,hb21⟩;have H21:=Lib.hid h21;have G21:=Lib.hid (show Below wk.heap.size wk w21 from (Below.trans Bel.go (hb21.mono (by simp<;>omega))));clear h21
          obtain ⟨hcx,hfx⟩:=bcellS hb21;refine hK.out _ _ ?_ (fun _=>?_);(focus (((try dsimp only);repeat' apply And.intro)<;>(rw [hcx _ (by go_simp)];go_simp)));clear hHeld hK K hcx hfx;rename_i hHeld;clear hb21
          refine wpAnyH_ready (rs:=[8,13]) (by kernel_rfl) (by simp) ?_;refine AllReadyH.cons rfl (fun K hK=>?_) (AllReadyH.cons rfl (fun K hK=>?_) AllReadyH.nil)
          ·go_simp
           refine (iof_any (q1:Int) _ hI1).mono ?_;rintro e w22 ⟨n22,A22,l22,c22,rfl,h22,hb22⟩;have H22:=Lib.hid h22;have H212:=Lib.hid (H21.out.below (show Below w21.heap.size w21 w22 from (Below.trans Bel.go (hb22.mono (by simp<;>omega)))));have G22:=Lib.hid (G21.out.trans ((show Below w21.heap.size w21 w22 from (Below.trans Bel.go (hb22.mono (by simp<;>omega)))).mono G21.out.size));clear h22
           obtain ⟨hcx,hfx⟩:=bcellS hb22;refine hK.out _ _ ?_ (fun _=>?_);(focus (((try dsimp only);repeat' apply And.intro)<;>(rw [hcx _ (by go_simp)];go_simp)));clear hHeld hK K hcx hfx;rename_i hHeld;clear hb22
           refine wpAnyH_ready (rs:=[9,13]) (by kernel_rfl) (by simp) ?_;refine AllReadyH.cons rfl (fun K hK=>?_) (AllReadyH.cons rfl (fun K hK=>?_) AllReadyH.nil)
           ·go_simp
            refine (make_pos _ _ _ _ z0 _ _ _ _ q1 _ (H212.out.below Bel.go) (H22.out.below Bel.go) hU hV hq0).mono ?_;rintro e w23 ⟨⟨n23,A23,l23,c23,B23,m23,d23,rfl,h23,k23⟩,hb23⟩;have H23:=Lib.hid (show IntN w23 n23 A23 l23 c23 (rz z0 q1) from h23);have K23:=Lib.hid (show NatN w23 B23 m23 d23 (rq z0 q1) from k23);have G23:=Lib.hid (G22.out.trans ((show Below w22.heap.size w22 w23 from (Below.trans Bel.go (hb23.mono (by simp<;>omega)))).mono G22.out.size));clear h23 k23
            obtain ⟨hcx,hfx⟩:=bcellS hb23;refine hK.out _ _ ?_ (fun _=>?_);(focus (((try dsimp only);repeat' apply And.intro)<;>(rw [hcx _ (by go_simp)];go_simp)));clear hHeld hK K hcx hfx;rename_i hHeld;clear hb23
            (refine tk (i:=10) (v:=?_) rfl rfl (Or.inl ⟨by rfl,?_⟩) ?_;rotate_left;(focus (intro w hSw;(try dsimp only at hSw);go_simp;(try with_reducible rfl)));(simp only [put_lit,List.set]))
            (refine tk (i:=11) (v:=?_) rfl rfl (Or.inl ⟨by rfl,?_⟩) ?_;rotate_left;(focus (intro w hSw;(try dsimp only at hSw);go_simp;(try with_reducible rfl)));(simp only [put_lit,List.set]))
            (refine tk (i:=12) (v:=?_) rfl rfl (Or.inl ⟨by rfl,?_⟩) ?_;rotate_left;(focus (intro w hSw;(try dsimp only at hSw);go_simp;(try with_reducible rfl)));(simp only [put_lit,List.set]))
            refine wpAnyH_ready (rs:=[13]) (by kernel_rfl) (by simp) ?_;refine AllReadyH.cons rfl (fun K hK=>?_) AllReadyH.nil;go_simp;refine hK.out _ _ ?_ (fun _=>?_);(focus ((try dsimp only);go_keep));clear hHeld hK K;rename_i hHeld;(try (simp only [put_lit,List.set]))
            obtain ⟨w24,hw24⟩:∃ x,x=w23.alloc (rbox false none 0 0 none 0 0):=⟨_,rfl⟩
            have HX:=Lib.hid (RBox.nil w23)
            have hbn:=below_new w23 (rbox false none 0 0 none 0 0)
            rw [← hw24] at HX hbn
            have e24:w23.alloc (.cells #[.bool false,.slice none 0 0,.slice none 0 0] 53)=w24:=hw24.symm
            have HBN:=Lib.hid hbn
            rw [e24] at hHeld ⊢
            clear e24 hw24 hbn
            have nbG:w23.heap.size≠b1:=by have:=G23.out.size;omega
            have y0:=HX.out.c0
            have y1:=HX.out.c1
            have y2:=HX.out.c2
            have y3:=HX.out.f0
            have y4:=HX.out.f1
            have y5:=HX.out.f2
            refine wpAnyH_ready (rs:=[14]) (by kernel_rfl) (by simp) ?_;refine AllReadyH.cons rfl (fun K hK=>?_) AllReadyH.nil;go_simp;refine hK.out _ _ ?_ (fun _=>?_);(focus ((try dsimp only);go_keep));clear hHeld hK K;rename_i hHeld;(try (simp only [put_lit,List.set]))
            (refine tk (i:=15) (v:=?_) rfl rfl (Or.inl ⟨by rfl,?_⟩) ?_;rotate_left;(focus (intro w hSw;(try dsimp only at hSw);go_simp;(try with_reducible rfl)));(simp only [put_lit,List.set]))
            refine wpAnyH_done (by kernel_rfl) ?_ _
            clear hHeld q0 q1c y0 y1 y2 y3 y4 y5
            go_wp2_with fail
            go_meet
            exact ⟨rfl,_,_,_,_,_,_,_,_,rfl,G23.out.size,HX.out.put (H23.out.below HBN.out) (K23.out.below HBN.out),(((G23.out.trans (HBN.out.mono G23.out.size)).setCell (G23.out.size) _).setCell (G23.out.size) _).setCell (G23.out.size) _⟩
           ·go_simp;refine hK.out _ _ ?_ (fun _=>?_);(focus ((try dsimp only);go_keep));clear hHeld hK K;rename_i hHeld;(try (simp only [put_lit,List.set]))
            have HX:=Lib.hid (RBox.nil w22)
            (refine wpAnyH_ready (rs:=[9]) (by kernel_rfl) (by simp) ?_;refine AllReadyH.cons rfl (fun K hK=>?_) AllReadyH.nil;go_simp)
            refine (make_pos _ _ _ _ z0 _ _ _ _ q1 _ (H212.out.below Bel.go) (H22.out.below Bel.go) hU hV hq0).mono ?_;rintro e w23 ⟨⟨n23,A23,l23,c23,B23,m23,d23,rfl,h23,k23⟩,hb23⟩;have H23:=Lib.hid (show IntN w23 n23 A23 l23 c23 (rz z0 q1) from h23);have K23:=Lib.hid (show NatN w23 B23 m23 d23 (rq z0 q1) from k23);have G23:=Lib.hid (G22.out.trans ((show Below w22.heap.size w22 w23 from (Below.trans Bel.go (hb23.mono (by simp<;>omega)))).mono G22.out.size));clear h23 k23
            replace HX:=Lib.hid (HX.out.move (Below.trans Bel.go (hb23.mono (by simp<;>omega))))
            obtain ⟨hcx,hfx⟩:=bcellS hb23;refine hK.out _ _ ?_ (fun _=>?_);(focus (((try dsimp only);repeat' apply And.intro)<;>(rw [hcx _ (by go_simp)];go_simp)));clear hHeld hK K hcx hfx;rename_i hHeld;clear hb23
            (refine tk (i:=10) (v:=?_) rfl rfl (Or.inl ⟨by rfl,?_⟩) ?_;rotate_left;(focus (intro w hSw;(try dsimp only at hSw);go_simp;(try with_reducible rfl)));(simp only [put_lit,List.set]))
            (refine tk (i:=11) (v:=?_) rfl rfl (Or.inl ⟨by rfl,?_⟩) ?_;rotate_left;(focus (intro w hSw;(try dsimp only at hSw);go_simp;(try with_reducible rfl)));(simp only [put_lit,List.set]))
            (refine tk (i:=12) (v:=?_) rfl rfl (Or.inl ⟨by rfl,?_⟩) ?_;rotate_left;(focus (intro w hSw;(try dsimp only at hSw);go_simp;(try with_reducible rfl)));(simp only [put_lit,List.set]))
            have nbG:w22.heap.size≠b1:=by have:=G22.out.size;omega
            have y0:=HX.out.c0
            have y1:=HX.out.c1
            have y2:=HX.out.c2
            have y3:=HX.out.f0
            have y4:=HX.out.f1
            have y5:=HX.out.f2
            refine wpAnyH_ready (rs:=[14]) (by kernel_rfl) (by simp) ?_;refine AllReadyH.cons rfl (fun K hK=>?_) AllReadyH.nil;go_simp;refine hK.out _ _ ?_ (fun _=>?_);(focus ((try dsimp only);go_keep));clear hHeld hK K;rename_i hHeld;(try (simp only [put_lit,List.set]))
            (refine tk (i:=15) (v:=?_) rfl rfl (Or.inl ⟨by rfl,?_⟩) ?_;rotate_left;(focus (intro w hSw;(try dsimp only at hSw);go_simp;(try with_reducible rfl)));(simp only [put_lit,List.set]))
            refine wpAnyH_done (by kernel_rfl) ?_ _
            clear hHeld q0 q1c y0 y1 y2 y3 y4 y5
            go_wp2_with fail
            go_meet
            exact ⟨rfl,_,_,_,_,_,_,_,_,rfl,G22.out.size,HX.out.put H23.out K23.out,((G23.out.setCell (G22.out.size) _).setCell (G22.out.size) _).setCell (G22.out.size) _⟩
          ·go_simp;refine hK.out _ _ ?_ (fun _=>?_);(focus ((try dsimp only);go_keep));clear hHeld hK K;rename_i hHeld;(try (simp only [put_lit,List.set]))
           have HX:=Lib.hid (RBox.nil w21)
           (refine wpAnyH_ready (rs:=[8]) (by kernel_rfl) (by simp) ?_;refine AllReadyH.cons rfl (fun K hK=>?_) AllReadyH.nil;go_simp)
           refine (iof_any (q1:Int) _ hI1).mono ?_;rintro e w22 ⟨n22,A22,l22,c22,rfl,h22,hb22⟩;have H22:=Lib.hid h22;have H212:=Lib.hid (H21.out.below (show Below w21.heap.size w21 w22 from (Below.trans Bel.go (hb22.mono (by simp<;>omega)))));have G22:=Lib.hid (G21.out.trans ((show Below w21.heap.size w21 w22 from (Below.trans Bel.go (hb22.mono (by simp<;>omega)))).mono G21.out.size));clear h22
           replace HX:=Lib.hid (HX.out.move (Below.trans Bel.go (hb22.mono (by simp<;>omega))))
           obtain ⟨hcx,hfx⟩:=bcellS hb22;refine hK.out _ _ ?_ (fun _=>?_);(focus (((try dsimp only);repeat' apply And.intro)<;>(rw [hcx _ (by go_simp)];go_simp)));clear hHeld hK K hcx hfx;rename_i hHeld;clear hb22
           (refine wpAnyH_ready (rs:=[9]) (by kernel_rfl) (by simp) ?_;refine AllReadyH.cons rfl (fun K hK=>?_) AllReadyH.nil;go_simp)
           refine (make_pos _ _ _ _ z0 _ _ _ _ q1 _ (H212.out.below Bel.go) (H22.out.below Bel.go) hU hV hq0).mono ?_;rintro e w23 ⟨⟨n23,A23,l23,c23,B23,m23,d23,rfl,h23,k23⟩,hb23⟩;have H23:=Lib.hid (show IntN w23 n23 A23 l23 c23 (rz z0 q1) from h23);have K23:=Lib.hid (show NatN w23 B23 m23 d23 (rq z0 q1) from k23);have G23:=Lib.hid (G22.out.trans ((show Below w22.heap.size w22 w23 from (Below.trans Bel.go (hb23.mono (by simp<;>omega)))).mono G22.out.size));clear h23 k23
           replace HX:=Lib.hid (HX.out.move (Below.trans Bel.go (hb23.mono (by simp<;>omega))))
           obtain ⟨hcx,hfx⟩:=bcellS hb23;refine hK.out _ _ ?_ (fun _=>?_);(focus (((try dsimp only);repeat' apply And.intro)<;>(rw [hcx _ (by go_simp)];go_simp)));clear hHeld hK K hcx hfx;rename_i hHeld;clear hb23
           (refine tk (i:=10) (v:=?_) rfl rfl (Or.inl ⟨by rfl,?_⟩) ?_;rotate_left;(focus (intro w hSw;(try dsimp only at hSw);go_simp;(try with_reducible rfl)));(simp only [put_lit,List.set]))
           (refine tk (i:=11) (v:=?_) rfl rfl (Or.inl ⟨by rfl,?_⟩) ?_;rotate_left;(focus (intro w hSw;(try dsimp only at hSw);go_simp;(try with_reducible rfl)));(simp only [put_lit,List.set]))
           (refine tk (i:=12) (v:=?_) rfl rfl (Or.inl ⟨by rfl,?_⟩) ?_;rotate_left;(focus (intro w hSw;(try dsimp only at hSw);go_simp;(try with_reducible rfl)));(simp only [put_lit,List.set]))
           have nbG:w21.heap.size≠b1:=by have:=G21.out.size;omega
           have y0:=HX.out.c0
           have y1:=HX.out.c1
           have y2:=HX.out.c2
           have y3:=HX.out.f0
           have y4:=HX.out.f1
           have y5:=HX.out.f2
           refine wpAnyH_ready (rs:=[14]) (by kernel_rfl) (by simp) ?_;refine AllReadyH.cons rfl (fun K hK=>?_) AllReadyH.nil;go_simp;refine hK.out _ _ ?_ (fun _=>?_);(focus ((try dsimp only);go_keep));clear hHeld hK K;rename_i hHeld;(try (simp only [put_lit,List.set]))
           (refine tk (i:=15) (v:=?_) rfl rfl (Or.inl ⟨by rfl,?_⟩) ?_;rotate_left;(focus (intro w hSw;(try dsimp only at hSw);go_simp;(try with_reducible rfl)));(simp only [put_lit,List.set]))
           refine wpAnyH_done (by kernel_rfl) ?_ _
           clear hHeld q0 q1c y0 y1 y2 y3 y4 y5
           go_wp2_with fail
           go_meet
           exact ⟨rfl,_,_,_,_,_,_,_,_,rfl,G21.out.size,HX.out.put H23.out K23.out,((G23.out.setCell (G21.out.size) _).setCell (G21.out.size) _).setCell (G21.out.size) _⟩
         ·go_simp;refine hK.out _ _ ?_ (fun _=>?_);(focus ((try dsimp only);go_keep));clear hHeld hK K;rename_i hHeld;(try (simp only [put_lit,List.set]))
          have HX:=Lib.hid (RBox.nil wk)
          (refine wpAnyH_ready (rs:=[4]) (by kernel_rfl) (by simp) ?_;refine AllReadyH.cons rfl (fun K hK=>?_) AllReadyH.nil;go_simp)
          refine (iof_any z0 _ hI0).mono ?_;rintro e w21 ⟨n21,A21,l21,c21,rfl,h21,hb21⟩;have H21:=Lib.hid h21;have G21:=Lib.hid (show Below wk.heap.size wk w21 from (Below.trans Bel.go (hb21.mono (by simp<;>omega))));clear h21
          replace HX:=Lib.hid (HX.out.move (Below.trans Bel.go (hb21.mono (by simp<;>omega))))
          obtain ⟨hcx,hfx⟩:=bcellS hb21;refine hK.out _ _ ?_ (fun _=>?_);(focus (((try dsimp only);repeat' apply And.intro)<;>(rw [hcx _ (by go_simp)];go_simp)));clear hHeld hK K hcx hfx;rename_i hHeld;clear hb21
          (refine wpAnyH_ready (rs:=[8]) (by kernel_rfl) (by simp) ?_;refine AllReadyH.cons rfl (fun K hK=>?_) AllReadyH.nil;go_simp)
          refine (iof_any (q1:Int) _ hI1).mono ?_;rintro e w22 ⟨n22,A22,l22,c22,rfl,h22,hb22⟩;have H22:=Lib.hid h22;have H212:=Lib.hid (H21.out.below (show Below w21.heap.size w21 w22 from (Below.trans Bel.go (hb22.mono (by simp<;>omega)))));have G22:=Lib.hid (G21.out.trans ((show Below w21.heap.size w21 w22 from (Below.trans Bel.go (hb22.mono (by simp<;>omega)))).mono G21.out.size));clear h22
          replace HX:=Lib.hid (HX.out.move (Below.trans Bel.go (hb22.mono (by simp<;>omega))))
          obtain ⟨hcx,hfx⟩:=bcellS hb22;refine hK.out _ _ ?_ (fun _=>?_);(focus (((try dsimp only);repeat' apply And.intro)<;>(rw [hcx _ (by go_simp)];go_simp)));clear hHeld hK K hcx hfx;rename_i hHeld;clear hb22
          (refine wpAnyH_ready (rs:=[9]) (by kernel_rfl) (by simp) ?_;refine AllReadyH.cons rfl (fun K hK=>?_) AllReadyH.nil;go_simp)
          refine (make_pos _ _ _ _ z0 _ _ _ _ q1 _ (H212.out.below Bel.go) (H22.out.below Bel.go) hU hV hq0).mono ?_;rintro e w23 ⟨⟨n23,A23,l23,c23,B23,m23,d23,rfl,h23,k23⟩,hb23⟩;have H23:=Lib.hid (show IntN w23 n23 A23 l23 c23 (rz z0 q1) from h23);have K23:=Lib.hid (show NatN w23 B23 m23 d23 (rq z0 q1) from k23);have G23:=Lib.hid (G22.out.trans ((show Below w22.heap.size w22 w23 from (Below.trans Bel.go (hb23.mono (by simp<;>omega)))).mono G22.out.size));clear h23 k23
          replace HX:=Lib.hid (HX.out.move (Below.trans Bel.go (hb23.mono (by simp<;>omega))))
          obtain ⟨hcx,hfx⟩:=bcellS hb23;refine hK.out _ _ ?_ (fun _=>?_);(focus (((try dsimp only);repeat' apply And.intro)<;>(rw [hcx _ (by go_simp)];go_simp)));clear hHeld hK K hcx hfx;rename_i hHeld;clear hb23
          (refine tk (i:=10) (v:=?_) rfl rfl (Or.inl ⟨by rfl,?_⟩) ?_;rotate_left;(focus (intro w hSw;(try dsimp only at hSw);go_simp;(try with_reducible rfl)));(simp only [put_lit,List.set]))
          (refine tk (i:=11) (v:=?_) rfl rfl (Or.inl ⟨by rfl,?_⟩) ?_;rotate_left;(focus (intro w hSw;(try dsimp only at hSw);go_simp;(try with_reducible rfl)));(simp only [put_lit,List.set]))
          (refine tk (i:=12) (v:=?_) rfl rfl (Or.inl ⟨by rfl,?_⟩) ?_;rotate_left;(focus (intro w hSw;(try dsimp only at hSw);go_simp;(try with_reducible rfl)));(simp only [put_lit,List.set]))
          have nbG:wk.heap.size≠b1:=by omega
          have y0:=HX.out.c0
          have y1:=HX.out.c1
          have y2:=HX.out.c2
          have y3:=HX.out.f0
          have y4:=HX.out.f1
          have y5:=HX.out.f2
          refine wpAnyH_ready (rs:=[14]) (by kernel_rfl) (by simp) ?_;refine AllReadyH.cons rfl (fun K hK=>?_) AllReadyH.nil;go_simp;refine hK.out _ _ ?_ (fun _=>?_);(focus ((try dsimp only);go_keep));clear hHeld hK K;rename_i hHeld;(try (simp only [put_lit,List.set]))
          (refine tk (i:=15) (v:=?_) rfl rfl (Or.inl ⟨by rfl,?_⟩) ?_;rotate_left;(focus (intro w hSw;(try dsimp only at hSw);go_simp;(try with_reducible rfl)));(simp only [put_lit,List.set]))
          refine wpAnyH_done (by kernel_rfl) ?_ _
          clear hHeld q0 q1c y0 y1 y2 y3 y4 y5
          go_wp2_with fail
          go_meet
          exact ⟨rfl,_,_,_,_,_,_,_,_,rfl,Nat.le_refl _,HX.out.put H23.out K23.out,((G23.out.setCell (Nat.le_refl _) _).setCell (Nat.le_refl _) _).setCell (Nat.le_refl _) _⟩
        case rest =>
         obtain ⟨rfl,gx,nx,Ax,lx,cx,Bx,mx,dx,rfl,hgx,hrx,hbx⟩:=hcut
         rcases (HRk.out.below hbx).elems with ⟨e0,_⟩ | ⟨b6,o6,rfl,hb6l,hvals⟩
         ·omega
         obtain ⟨n,Ar,lr,cr,Br,mr,dr,n',Ar',lr',cr',Br',mr',dr',k0,k1,k2,k3,k4,k5,i1,i2,i3,i4⟩:=hvals.get Hkk.out
         obtain ⟨fl,fh⟩:=getD_fqb HRF.out.fq Hkk.out
         have X1:=Lib.hid (show ¬ 0<cmpz (((proots (prodf [1] qs)).getD kk r00).1.z*(rq z0 q1:Int)) (rz z0 q1*(((proots (prodf [1] qs)).getD kk r00).1.q:Int)) from fun hc=>by
          have h1:=(fcmp_pos (a:=((proots (prodf [1] qs)).getD kk r00).1) (b:=⟨rz z0 q1,rq z0 q1⟩) fl.p (by exact_mod_cast f1)).1 hc
          refine HIso.out.lo ?_
          have h2:(⟨rz z0 q1,rq z0 q1⟩:Fq).v=(z0:Rat) / ((q1:Int):Rat):=HF5x.out
          rw [h2] at h1
          exact Pt.of_lt_of.2 h1)
         have X2:=Lib.hid (show ¬ 0<cmpz (rz z0 q1*(((proots (prodf [1] qs)).getD kk r00).2.q:Int)) (((proots (prodf [1] qs)).getD kk r00).2.z*(rq z0 q1:Int)) from fun hc=>by
          have h1:=(fcmp_pos (a:=⟨rz z0 q1,rq z0 q1⟩) (b:=((proots (prodf [1] qs)).getD kk r00).2) (by exact_mod_cast f1) fh.p).1 hc
          refine HIso.out.hi ?_
          have h2:(⟨rz z0 q1,rq z0 q1⟩:Fq).v=(z0:Rat) / ((q1:Int):Rat):=HF5x.out
          rw [h2] at h1
          exact Pt.of_lt_of.2 h1)
         have hxf:Fit (rz z0 q1):=zb_fit f3
         have hxq:Fit (rq z0 q1:Int):=zb_fit (by rw [Int.natAbs_natCast];exact f4)
         have hxp:rq z0 q1≠0:=by omega
         generalize ((proots (prodf [1] qs)).getD kk r00).1=lo at *
         generalize ((proots (prodf [1] qs)).getD kk r00).2=hi at *
         have hlp:lo.q≠0:=by have:=fl.p;omega
         have hhp:hi.q≠0:=by have:=fh.p;omega
         have I1:=Lib.hid i1
         have I2:=Lib.hid i2
         have I3:=Lib.hid i3
         have I4:=Lib.hid i4
         have HXr:=Lib.hid hrx
         have y0:=hrx.c0
         have y1:=hrx.c1
         have y2:=hrx.c2
         have tkk:(kk:Int)<(l6:Int):=by omega
         have Gx:=Lib.hid hbx
         obtain ⟨w40,rfl⟩:∃ w40:World,w40=wc:=⟨_,rfl⟩
         clear q0 q1c i1 i2 i3 i4 hrx hbx hvals f1 f3 f4 hgx
         go_wp2_with fail
         refine wp_region_held_drew (S:=fun w'=>w'.cell? ⟨b6,o6+kk*6,none⟩=some (.bool n)∧w'.cell? ⟨b6,o6+kk*6+1,none⟩=some (.slice Ar lr cr)∧w'.cell? ⟨b6,o6+kk*6+2,none⟩=some (.slice Br mr dr)∧w'.cell? ⟨b6,o6+kk*6+3,none⟩=some (.bool n')∧w'.cell? ⟨b6,o6+kk*6+4,none⟩=some (.slice Ar' lr' cr')∧w'.cell? ⟨b6,o6+kk*6+5,none⟩=some (.slice Br' mr' dr')∧w'.cell? ⟨gx,0,none⟩=some (.bool nx)∧w'.cell? ⟨gx,1,none⟩=some (.slice Ax lx cx)∧w'.cell? ⟨gx,2,none⟩=some (.slice Bx mx dx)) (by kernel_rfl) (by (try dsimp only);go_keep) (fun hHeld=>?_)
         (refine tk (i:=0) (v:=?_) rfl rfl (Or.inl ⟨by rfl,?_⟩) ?_;rotate_left;(focus (intro w hSw;(try dsimp only at hSw);go_simp;(try with_reducible rfl)));(simp only [put_lit,List.set]))
         (refine tk (i:=1) (v:=?_) rfl rfl (Or.inl ⟨by rfl,?_⟩) ?_;rotate_left;(focus (intro w hSw;(try dsimp only at hSw);go_simp;(try with_reducible rfl)));(simp only [put_lit,List.set]))
         (refine tk (i:=2) (v:=?_) rfl rfl (Or.inl ⟨by rfl,?_⟩) ?_;rotate_left;(focus (intro w hSw;(try dsimp only at hSw);go_simp;(try with_reducible rfl)));(simp only [put_lit,List.set]))
         (refine tk (i:=3) (v:=?_) rfl rfl (Or.inl ⟨by rfl,?_⟩) ?_;rotate_left;(focus (intro w hSw;(try dsimp only at hSw);go_simp;(try with_reducible rfl)));(simp only [put_lit,List.set]))
         (refine tk (i:=4) (v:=?_) rfl rfl (Or.inl ⟨by rfl,?_⟩) ?_;rotate_left;(focus (intro w hSw;(try dsimp only at hSw);go_simp;(try with_reducible rfl)));(simp only [put_lit,List.set]))
         (refine tk (i:=5) (v:=?_) rfl rfl (Or.inl ⟨by rfl,?_⟩) ?_;rotate_left;(focus (intro w hSw;(try dsimp only at hSw);go_simp;(try with_reducible rfl)));(simp only [put_lit,List.set]))
         (refine wpAnyH_ready (rs:=[6]) (by kernel_rfl) (by simp) ?_;refine AllReadyH.cons rfl (fun K hK=>?_) AllReadyH.nil;go_simp)
         refine (rcmp_any _ _ _ _ _ _ _ lo.q lo.z _ _ _ _ _ _ _ (rq z0 q1) (rz z0 q1) _ (I1.out.below Bel.go).at_ (I2.out.below Bel.go).at_ (HXr.out.hz.below Bel.go).at_ (HXr.out.hq.below Bel.go).at_ hlp hxp fl.fz fl.fq hxf hxq).mono ?_
         rintro e w41 ⟨rfl,hb41⟩
         generalize cmpz (lo.z*(rq z0 q1:Int)) (rz z0 q1*(lo.q:Int))=C1 at X1 ⊢
         have G41:=Lib.hid (show Below w40.heap.size w40 w41 from (Below.trans Bel.go (hb41.mono (by simp<;>omega))))
         have XC1:=X1.out
         have dC1:decide (0<C1)=false:=decide_eq_false (Int.not_lt.mpr X1.out)
         obtain ⟨hcx,hfx⟩:=bcellS hb41;refine hK.out _ _ ?_ (fun _=>?_);(focus (((try dsimp only);repeat' apply And.intro)<;>(rw [hcx _ (by go_simp)];go_simp)));clear hHeld hK K hcx hfx;rename_i hHeld;clear hb41
         (refine tk (i:=7) (v:=?_) rfl rfl (Or.inl ⟨by rfl,?_⟩) ?_;rotate_left;(focus (intro w hSw;(try dsimp only at hSw);go_simp;(try with_reducible rfl)));(simp only [put_lit,List.set]))
         (refine tk (i:=8) (v:=?_) rfl rfl (Or.inl ⟨by rfl,?_⟩) ?_;rotate_left;(focus (intro w hSw;(try dsimp only at hSw);go_simp;(try with_reducible rfl)));(simp only [put_lit,List.set]))
         (refine tk (i:=9) (v:=?_) rfl rfl (Or.inl ⟨by rfl,?_⟩) ?_;rotate_left;(focus (intro w hSw;(try dsimp only at hSw);go_simp;(try with_reducible rfl)));(simp only [put_lit,List.set]))
         (refine tk (i:=10) (v:=?_) rfl rfl (Or.inl ⟨by rfl,?_⟩) ?_;rotate_left;(focus (intro w hSw;(try dsimp only at hSw);go_simp;(try with_reducible rfl)));(simp only [put_lit,List.set]))
         (refine tk (i:=11) (v:=?_) rfl rfl (Or.inl ⟨by rfl,?_⟩) ?_;rotate_left;(focus (intro w hSw;(try dsimp only at hSw);go_simp;(try with_reducible rfl)));(simp only [put_lit,List.set]))
         (refine tk (i:=12) (v:=?_) rfl rfl (Or.inl ⟨by rfl,?_⟩) ?_;rotate_left;(focus (intro w hSw;(try dsimp only at hSw);go_simp;(try with_reducible rfl)));(simp only [put_lit,List.set]))
         (refine tk (i:=13) (v:=?_) rfl rfl (Or.inl ⟨by rfl,?_⟩) ?_;rotate_left;(focus (intro w hSw;(try dsimp only at hSw);go_simp;(try with_reducible rfl)));(simp only [put_lit,List.set]))
         (refine tk (i:=14) (v:=?_) rfl rfl (Or.inl ⟨by rfl,?_⟩) ?_;rotate_left;(focus (intro w hSw;(try dsimp only at hSw);go_simp;(try with_reducible rfl)));(simp only [put_lit,List.set]))
         (refine wpAnyH_ready (rs:=[15]) (by kernel_rfl) (by simp) ?_;refine AllReadyH.cons rfl (fun K hK=>?_) AllReadyH.nil;go_simp)
         refine (rcmp_any _ _ _ _ _ _ _ (rq z0 q1) (rz z0 q1) _ _ _ _ _ _ _ hi.q hi.z _ ((HXr.out.move G41.out).hz.below Bel.go).at_ ((HXr.out.move G41.out).hq.below Bel.go).at_ ((I3.out.below G41.out).below Bel.go).at_ ((I4.out.below G41.out).below Bel.go).at_ hxp hhp hxf hxq fh.fz fh.fq).mono ?_
         rintro e w42 ⟨rfl,hb42⟩
         generalize cmpz (rz z0 q1*(hi.q:Int)) (hi.z*(rq z0 q1:Int))=C2 at X2 ⊢
         have G42:=Lib.hid (G41.out.trans ((show Below w41.heap.size w41 w42 from (Below.trans Bel.go (hb42.mono (by simp<;>omega)))).mono G41.out.size))
         have XC2:=X2.out
         have dC2:decide (0<C2)=false:=decide_eq_false (Int.not_lt.mpr X2.out)
         obtain ⟨hcx,hfx⟩:=bcellS hb42;refine hK.out _ _ ?_ (fun _=>?_);(focus (((try dsimp only);repeat' apply And.intro)<;>(rw [hcx _ (by go_simp)];go_simp)));clear hHeld hK K hcx hfx;rename_i hHeld;clear hb42
         (refine tk (i:=16) (v:=?_) rfl rfl (Or.inl ⟨by rfl,?_⟩) ?_;rotate_left;(focus (intro w hSw;(try dsimp only at hSw);go_simp;(try with_reducible rfl)));(simp only [put_lit,List.set]))
         (refine tk (i:=17) (v:=?_) rfl rfl (Or.inl ⟨by rfl,?_⟩) ?_;rotate_left;(focus (intro w hSw;(try dsimp only at hSw);go_simp;(try with_reducible rfl)));(simp only [put_lit,List.set]))
         refine wpAnyH_done (by kernel_rfl) ?_ _
         clear hHeld k0 k1 k2 k3 k4 k5 y0 y1 y2
         go_wp2
         go_roundw
         case rel=>exact ⟨i+1,Hlt.out,by go_num,by first | exact Hbw.out.trans ((Hbk.out.trans ((Gx.out.trans (G42.out.mono Gx.out.size)).mono Hbk.out.size)).mono Hbw.out.size) | exact below_drewn (Hbw.out.trans ((Hbk.out.trans ((Gx.out.trans (G42.out.mono Gx.out.size)).mono Hbk.out.size)).mono Hbw.out.size)) _⟩
         case measure=>have:=Hlt.out;simp [intOf];omega
     ·go_wp2
      go_roundw
      case rel=>exact ⟨i+1,Hlt.out,by go_num,Hbw.out⟩
      case measure=>have:=Hlt.out;simp [intOf];omega
    ·have ti:¬ (i:Int)<(l3:Int):=by omega
     clear hi hlt
     go_wp2
     go_ret
     exact ⟨rfl,Hb7.out.trans (Hbw.out.mono Hb7.out.size)⟩
 ·rw [few_false hfew]
  clear hfew
  go_wp2_with fail
  (refine (awake16_any _).mono ?_);rintro e w2 ⟨rfl,hb2⟩;have Hb2:=Lib.hid (Hb1.out.trans (hb2.mono Hb1.out.size));clear hb2;go_wp2;go_ret;exact ⟨rfl,Hb2.out⟩
end Go.Proofs.YtipocabbjinbhaaGreat
namespace Go.Proofs.YtipocabbjinbhaaGreat
open Go.ChangeShapes Go.WideShapes Go.ChangeAt Go.RowKit
set_option maxRecDepth 100000 in
theorem known_lifted (os:Os) (started:os.Started) (H:Type) (enc:TypeId×Value→H) :
 ReturnsInHanded {} Tryz.checked os 7 .any (Rows.isolateKnownSpec.pre6 enc Tryz.prog Tryz.f7 Rows.isolateKnownRow.domain false) (Rows.isolateKnownSpec.post enc Tryz.prog Tryz.f7 false true false false):=by
 refine returnsInHanded_of_change (C:=Tryz.checked) Tryz.own started (by kernel_rfl) Tryz.func7
  (ChangeSpec.witness6 (enc:=enc) (C:=Tryz.checked) false ⟨#[],#[.slice none 0 0],[]⟩ 8 (by kernel_rfl) (by kernel_rfl) (by kernel_rfl) (by kernel_rfl)) ?_
 intro W base args ds gs before hval0 hW hcnd _
 exact lifted_trs _ Tryz.f7 Tryz.params7 rfl enc _ rfl (fun _=>rfl) (fun A len cap qs w h hl=>law_known A len cap qs w h hl) W args ds gs before hval0 hW
theorem isolateKnown_holds:Rows.IsolateKnownSaid :=
 OpenClaim.holds_of_wide 7 Tryz.f7 rfl rfl rfl rfl rfl rfl rfl ⟨rfl,rfl,rfl,rfl,rfl⟩ rfl rfl rfl rfl rfl (by kernel_rfl) Tryz.func7 (by kernel_rfl)
  (of_decide_eq_true (by kernel_rfl)) (by unfold Func.isWrapper;first | (rw [if_pos (by decide +kernel)];kernel_rfl) | (rw [if_neg (by decide +kernel)];exact ⟨rfl,rfl⟩))
  (fun os started H enc _=>known_lifted os started H enc)
#print axioms isolateKnown_holds
end Go.Proofs.YtipocabbjinbhaaGreat
