/- The real roots of the irreducible factors of degree 1 and 2: their order against fractions, signs of polynomials there, sums over them; plain. No program. -/
import Derived.Test.YtipocabbjinbhaaGreatFcp
import Derived.Test.YtipocabbjinbhaaGreatAdp
namespace Go.Proofs.YtipocabbjinbhaaGreat
open Go.RowKit
def atv (n d:Int):List Int→Int
 | []=>0
 | a :: t=>atv n d t*n+a*d^t.length
theorem atv_pv {n d:Int} (hd:0<d):∀ f:List Int,((atv n d f:Int):Rat)*(d:Rat)=(d:Rat)^f.length*pv f ((n:Rat) / (d:Rat))
 | []=>by
   show ((0:Int):Rat)*_=_*0
   rw [Rat.mul_zero]
   simp
 | a :: t=>by
   have ih:=atv_pv (n:=n) hd t
   have hd':(0:Rat)<(d:Rat):=by exact_mod_cast hd
   show ((atv n d t*n+a*d^t.length:Int):Rat)*(d:Rat)=(d:Rat)^(t.length+1)*((a:Rat)+(n:Rat) / (d:Rat)*pv t ((n:Rat) / (d:Rat)))
   rw [Rat.intCast_add,Rat.intCast_mul,Rat.intCast_mul,Rat.intCast_pow,Rat.pow_succ]
   have e:(d:Rat)*((n:Rat) / (d:Rat))=(n:Rat):=by rw [Rat.mul_comm,Rat.div_mul_cancel (by grind)]
   generalize pv t ((n:Rat) / (d:Rat))=P at *
   generalize (n:Rat) / (d:Rat)=y at *
   generalize (d:Rat)^t.length=E at *
   generalize ((atv n d t:Int):Rat)=A at *
   have h1:A*(n:Rat)*(d:Rat)=(E*P)*((d:Rat)*y):=by rw [e,← ih];grind
   rw [Rat.add_mul,h1]
   grind
theorem atv_sg {n d:Int} (hd:0<d) (f:List Int):sg (atv n d f)=sgp f (Pt.of ((n:Rat) / (d:Rat))):=by
 have hd':(0:Rat)<(d:Rat):=by exact_mod_cast hd
 unfold sgp
 rw [sgf_of (lp_pv f)]
 have h:=atv_pv (n:=n) hd f
 have hE:(0:Rat)<(d:Rat)^f.length:=Rat.pow_pos hd'
 generalize pv f ((n:Rat) / (d:Rat))=P at *
 generalize (d:Rat)^f.length=E at *
 rcases sg_cases (atv n d f) with ⟨c,e⟩ | ⟨c,e⟩ | ⟨c,e⟩<;>rw [e]
 ·have c':((atv n d f:Int):Rat)<0:=by exact_mod_cast c
  have h1:E*P<0:=by
   rw [← h]
   have:=Rat.mul_pos (show (0:Rat) < -((atv n d f:Int):Rat) by grind) hd'
   grind
  have h2:P<0:=Classical.byContradiction fun hn=>by
   have:=Rat.mul_nonneg (Rat.le_of_lt hE) (show (0:Rat)≤P by grind)
   grind
  rw [if_neg (by grind),if_pos h2]
 ·rw [c] at h
  have h1:E*P=0:=by rw [← h];simp
  have h2:P=0:=by
   rcases Rat.mul_eq_zero.1 h1 with c | c
   ·grind
   ·exact c
  rw [h2]
  rfl
 ·have c':(0:Rat)<((atv n d f:Int):Rat):=by exact_mod_cast c
  have h1:0<E*P:=by rw [← h];exact Rat.mul_pos c' hd'
  have h2:0<P:=Classical.byContradiction fun hn=>by
   have:=Rat.mul_nonneg (Rat.le_of_lt hE) (show (0:Rat)≤-P by grind)
   grind
  rw [if_pos h2]
def Irr (p:List Int):Prop:=(isLin p∨isQd p)∧pcont p=1
theorem isLin.plen {p:List Int} (h:isLin p):Go.Proofs.YtipocabbjinbhaaGreat.plen p=2:=plen_eq p 1 (by have:=plen_le p;have:=h.1;omega) (by have:=h.2;omega)
theorem isQd.plen {p:List Int} (h:isQd p):Go.Proofs.YtipocabbjinbhaaGreat.plen p=3:=plen_eq p 2 (by have:=plen_le p;have:=h.1;omega) (by have:=h.2.1;omega)
theorem Irr.ne {p:List Int} (h:Irr p):plen p≠0:=by
 rcases h.1 with c | c
 ·rw [c.plen];decide
 ·rw [c.plen];decide
theorem lin_root {p:List Int} (h:isLin p) (x:Pt):sgp p x=0↔x=Pt.of (((-p.getD 0 0:Int):Rat) / ((p.getD 1 0:Int):Rat)):=by
 have hp:=list2 h.1
 have h1:p=[-(-p.getD 0 0),p.getD 1 0]:=by rw [Int.neg_neg];exact hp
 conv=>lhs;rw [h1]
 exact lin2_root h.2 x
theorem qd_rat {p:List Int} (h:isQd p) {n d:Int} (hd:0<d):sgp p (Pt.of ((n:Rat) / (d:Rat)))≠0:=fun h0=>by
 rw [← atv_sg hd] at h0
 have h1:atv n d p=0:=by rcases sg_cases (atv n d p) with ⟨_,e⟩ | ⟨c,_⟩ | ⟨_,e⟩<;>first | exact c | omega
 have hp:=list3 h.1
 rw [hp] at h1
 generalize ha:p.getD 0 0=a at *
 generalize hb:p.getD 1 0=b at *
 generalize hc:p.getD 2 0=c at *
 have h2:((0*n+c*d^0)*n+b*d^1)*n+a*d^2=0:=h1
 have h3:(2*c*n+b*d)*(2*c*n+b*d)=dsc p*(d*d):=by unfold dsc;rw [ha,hb,hc];grind
 generalize 2*c*n+b*d=m at h3
 have h4:d.natAbs^2∣m.natAbs^2:=by
  have e:m.natAbs^2=(dsc p).natAbs*d.natAbs^2:=by
   have:=congrArg Int.natAbs h3
   rw [Int.natAbs_mul,Int.natAbs_mul,Int.natAbs_mul] at this
   rw [Nat.pow_two,Nat.pow_two]
   exact this
  rw [e]
  exact Nat.dvd_mul_left _ _
 obtain ⟨s,hs⟩:=(Nat.pow_dvd_pow_iff (by decide)).1 h4
 refine h.2.2 s ?_
 have h5:(m.natAbs:Int)*(m.natAbs:Int)=m*m:=Int.natAbs_mul_self' m
 have h6:(d.natAbs:Int)=d:=by omega
 rw [hs,Int.natCast_mul,h6,h3] at h5
 have h7:(d*d)*((s:Int)*(s:Int))=(d*d)*dsc p:=by grind
 exact Int.eq_of_mul_eq_mul_left (by have:=Int.mul_pos hd hd;omega) h7
theorem qd_roots {p:List Int} (h:isQd p) (hd:0<dsc p):∃ z0 z1,z0<z1∧Lst (fun x=>sgp p x=0) [z0,z1]∧z0<Pt.of (((-p.getD 1 0:Int):Rat) / ((2*p.getD 2 0:Int):Rat))∧Pt.of (((-p.getD 1 0:Int):Rat) / ((2*p.getD 2 0:Int):Rat))<z1 ∧
  (∀ y,y<z0→sgp p y=1)∧(∀ y,z0<y→y<z1→sgp p y=-1)∧(∀ y,z1<y→sgp p y=1):=by
 have hp:=list3 h.1
 have hl:=h.plen
 have hlead:plead p=p.getD 2 0:=by unfold plead;rw [hl]
 obtain ⟨B,hB,f1,f2⟩:=far (f:=p) (by omega)
 have e1:sgE false p=1:=by show sg (plead p)=1;rw [hlead,sgq h.2.1]
 have e2:sgE true p=1:=by show (-1)^(plen p-1)*sg (plead p)=1;rw [hlead,sgq h.2.1,hl];rfl
 rw [e1] at f1
 rw [e2] at f2
 have hc2:0<2*p.getD 2 0:=by have:=h.2.1;omega
 generalize hV:((-p.getD 1 0:Int):Rat) / ((2*p.getD 2 0:Int):Rat)=V
 have hv:sgp p (Pt.of V)=-1:=by
  rw [← hV,← atv_sg hc2]
  refine sgqn ?_
  conv=>lhs;rw [hp]
  show ((0*(-p.getD 1 0)+p.getD 2 0*(2*p.getD 2 0)^0)*(-p.getD 1 0)+p.getD 1 0*(2*p.getD 2 0)^1)*(-p.getD 1 0)+p.getD 0 0*(2*p.getD 2 0)^2<0
  have hc:=h.2.1
  have h2:((0*(-p.getD 1 0)+p.getD 2 0*(2*p.getD 2 0)^0)*(-p.getD 1 0)+p.getD 1 0*(2*p.getD 2 0)^1)*(-p.getD 1 0)+p.getD 0 0*(2*p.getD 2 0)^2=-(p.getD 2 0*dsc p):=by unfold dsc;grind
  rw [h2]
  have:=Int.mul_pos hc hd
  omega
 -- far points on both sides
 have lo:∀ y:Pt,∃ t:Rat,Pt.of t<y∧sgp p (Pt.of t)=1:=fun y=>by
  obtain ⟨q,hq⟩:=y.ne
  refine ⟨min q (-B)-1,Pt.of_lt.2 (Pt.Lle hq (by grind)),f2 _ (by grind)⟩
 have hi:∀ y:Pt,∃ t:Rat,y<Pt.of t∧sgp p (Pt.of t)=1:=fun y=>by
  obtain ⟨q,hq⟩:=y.bd
  refine ⟨max q B+1,Pt.lt_of.2 (Pt.up hq (by grind)),f1 _ (by grind)⟩
 obtain ⟨t0,k0,k1⟩:=lo (Pt.of V)
 obtain ⟨t1,k2,k3⟩:=hi (Pt.of V)
 obtain ⟨z0,a1,a2,a3⟩:=ivt (lp_pv p) k0 (show sgp p (Pt.of t0)*sgp p (Pt.of V)=-1 by rw [k1,hv];rfl)
 obtain ⟨z1,b1,b2,b3⟩:=ivt (lp_pv p) k2 (show sgp p (Pt.of V)*sgp p (Pt.of t1)=-1 by rw [k3,hv];rfl)
 have a3':sgp p z0=0:=a3
 have b3':sgp p z1=0:=b3
 have hz:=Pt.lt_trans a2 b1
 have only:∀ y,sgp p y=0→y=z0∨y=z1:=fun y hy=>by
  rcases Pt.tri y z0 with c | c | c
  ·have:=rts_le 2 p hl [y,z0,z1] (by simp [c,hz,Pt.lt_trans c hz]) (by intro x hx;simp at hx;rcases hx with rfl | rfl | rfl<;>assumption)
   simp at this
  ·exact .inl c
  ·rcases Pt.tri y z1 with c2 | c2 | c2
   ·have:=rts_le 2 p hl [z0,y,z1] (by simp [c,c2,hz]) (by intro x hx;simp at hx;rcases hx with rfl | rfl | rfl<;>assumption)
    simp at this
   ·exact .inr c2
   ·have:=rts_le 2 p hl [z0,z1,y] (by simp [c,c2,hz]) (by intro x hx;simp at hx;rcases hx with rfl | rfl | rfl<;>assumption)
    simp at this
 have nz:∀ y,y≠z0→y≠z1→sgp p y=1∨sgp p y=-1:=fun y h1 h2=>by
  rcases sgp_or p y with c | c | c
  ·exact .inl c
  ·exact .inr c
  ·rcases only y c with c | c
   ·exact absurd c h1
   ·exact absurd c h2
 have ne1:∀ {x y:Pt},x<y→x≠y:=fun h e=>by subst e;exact Pt.irr _ h
 refine ⟨z0,z1,hz,⟨by simp [hz],fun y=>⟨fun hy=>by simp at hy;rcases hy with rfl | rfl<;>assumption,fun hy=>by simp;exact only y hy⟩⟩,a2,b1,fun y hy=>?_,fun y h0 h1=>?_,fun y hy=>?_⟩
 ·rcases nz y (ne1 hy) (ne1 (Pt.lt_trans hy hz)) with c | c
  ·exact c
  ·obtain ⟨t,k4,k5⟩:=lo y
   obtain ⟨z,d1,d2,d3⟩:=ivt (lp_pv p) k4 (show sgp p (Pt.of t)*sgp p y=-1 by rw [k5,c];rfl)
   rcases only z d3 with e | e
   ·rw [e] at d2;exact absurd d2 (Pt.asym hy)
   ·rw [e] at d2;exact absurd d2 (Pt.asym (Pt.lt_trans hy hz))
 ·rcases nz y (fun e=>ne1 h0 e.symm) (ne1 h1) with c | c
  ·rcases Pt.tri y (Pt.of V) with c2 | c2 | c2
   ·obtain ⟨z,d1,d2,d3⟩:=ivt (lp_pv p) c2 (show sgp p y*sgp p (Pt.of V)=-1 by rw [hv,c];rfl)
    rcases only z d3 with e | e
    ·rw [e] at d1;exact absurd d1 (Pt.asym h0)
    ·rw [e] at d2;exact absurd d2 (Pt.asym b1)
   ·rw [c2,hv] at c;cases c
   ·obtain ⟨z,d1,d2,d3⟩:=ivt (lp_pv p) c2 (show sgp p (Pt.of V)*sgp p y=-1 by rw [hv,c];rfl)
    rcases only z d3 with e | e
    ·rw [e] at d1;exact absurd d1 (Pt.asym a2)
    ·rw [e] at d2;exact absurd d2 (Pt.asym h1)
  ·exact c
 ·rcases nz y (fun e=>ne1 (Pt.lt_trans hz hy) e.symm) (fun e=>ne1 hy e.symm) with c | c
  ·exact c
  ·obtain ⟨t,k4,k5⟩:=hi y
   obtain ⟨z,d1,d2,d3⟩:=ivt (lp_pv p) k4 (show sgp p y*sgp p (Pt.of t)=-1 by rw [k5,c];rfl)
   rcases only z d3 with e | e
   ·rw [e] at d1;exact absurd d1 (Pt.asym (Pt.lt_trans hz hy))
   ·rw [e] at d1;exact absurd d1 (Pt.asym hy)
end Go.Proofs.YtipocabbjinbhaaGreat
