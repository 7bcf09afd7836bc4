/- Halving of an isolating interval, plain: the root stays inside, the width is halved. No program. -/
import Derived.Test.YtkefcldcfeolbaaGreatIvp
namespace Go.Proofs.YtkefcldcfeolbaaGreat
open Go.RowKit
section
variable {Q f:List Int} {a b m:Fq} {x y:Pt}
theorem aq5 (h0:aad Q≠0) (hx:sgp Q x=0) (hs:mult x Q<=1) (ha:a.p<x) (hb:x<b.p) (hu:∀ y,sgp Q y=0->a.p<y->y<b.p->y=x) (na:sgp Q a.p≠0) (nb:sgp Q b.p≠0):sgp Q a.p=- sgp Q b.p:=by
 obtain ⟨l,u,hl⟩:=agi h0 x
 have hm:mult x Q=1:=by
  have:mult x Q≠0:=fun e=>(aaX h0).1 e hx
  omega
 rw[hm] at hl
 obtain ⟨y,y1,y2,y3⟩:=Pt.agJ hb hl.hi
 obtain ⟨z,z1,z2,z3⟩:∃ z,z<x/\a.p<z/\Pt.of l<z:=by
  rcases Pt.tri a.p (Pt.of l) with h | h | h
  ·obtain ⟨q,h1,h2⟩:=Pt.mid hl.lo;exact ⟨_,h2,Pt.lt_trans h h1,h1⟩
  ·obtain ⟨q,h1,h2⟩:=Pt.mid hl.lo;exact ⟨_,h2,by rw[h];exact h1,h1⟩
  ·obtain ⟨q,h1,h2⟩:=Pt.mid ha;exact ⟨_,h2,h1,Pt.lt_trans h h1⟩
 have ey:=hl.r y y1 y3
 have ez:=hl.l z z3 z1
 have nz:sgp Q z≠0:=fun e=>by
  have:=hu z e z2 (Pt.lt_trans z1 hb);rw[this] at z1;exact Pt.irr _ z1
 have ny:sgp Q y≠0:=fun e=>by
  have:=hu y e (Pt.lt_trans ha y1) y2;rw[this] at y1;exact Pt.irr _ y1
 have e1:sgp Q a.p=sgp Q z:=aeW z2 (fun t t1 t2 e=>by
  have:=hu t e t1 (Pt.lt_trans t2 (Pt.lt_trans z1 hb));rw[this] at t2;exact Pt.asym z1 t2) na nz
 have e2:sgp Q y=sgp Q b.p:=aeW y2 (fun t t1 t2 e=>by
  have:=hu t e (Pt.lt_trans ha (Pt.lt_trans y1 t1)) t2;rw[this] at t1;exact Pt.asym y1 t1) ny nb
 rw[e1,<- e2,ey,ez]
 omega
theorem afy.cut (h0:aad Q≠0) (hs:∀ x,mult x Q<=1) (e:∀ y,sgp f y=0↔sgp Q y=0) (h:afy f x a b) (hlt:a.v<b.v) (ma:a.v<m.v) (mb:m.v<b.v) (hm:sgp Q m.p≠0) :
  if sgp Q m.p=sgp Q a.p then afy f x m b else afy f x a m:=by
 rcases h.2 with h2 | ⟨_,n1,n2,x1,x2,hu⟩
 ·grind
 have ma':a.p<m.p:=Pt.aaZ.2 ma
 have mb':m.p<b.p:=Pt.aaZ.2 mb
 have hx:=(e x).1 h.1
 have n1':sgp Q a.p≠0:=fun c=>n1 ((e _).2 c)
 have n2':sgp Q b.p≠0:=fun c=>n2 ((e _).2 c)
 have hm':sgp f m.p≠0:=fun c=>hm ((e _).1 c)
 have hu':∀ y,sgp Q y=0->a.p<y->y<b.p->y=x:=fun y hy=>hu y ((e y).2 hy)
 have ht:=aq5 h0 hx (hs x) x1 x2 hu' n1' n2'
 rcases Pt.tri x m.p with c | c | c
 ·have s:sgp Q m.p=sgp Q b.p:=aeW mb' (fun t t1 t2 et=>by
   have:=hu' t et (Pt.lt_trans ma' t1) t2;rw[this] at t1;exact Pt.asym c t1) hm n2'
  rw[if_neg (by omega)]
  exact ⟨h.1,.inr ⟨ma,n1,hm',x1,c,fun y hy y1 y2=>hu y hy y1 (Pt.lt_trans y2 mb')⟩⟩
 ·exact absurd (c ▸ hx) hm
 ·have s:sgp Q a.p=sgp Q m.p:=aeW ma' (fun t t1 t2 et=>by
   have:=hu' t et t1 (Pt.lt_trans t2 mb');rw[this] at t2;exact Pt.asym c t2) n1' hm
  rw[if_pos s.symm]
  exact ⟨h.1,.inr ⟨mb,hm',n2,c,x2,fun y hy y1 y2=>hu y hy (Pt.lt_trans ma' y1) y2⟩⟩
theorem afy.at_ (h:afy f x a b) (hlt:a.v<b.v) (ma:a.v<m.v) (mb:m.v<b.v) (hm:sgp f m.p=0):x=m.p:=by
 rcases h.2 with h2 | ⟨_,n1,n2,x1,x2,hu⟩
 ·grind
 ·exact (hu m.p hm (Pt.aaZ.2 ma) (Pt.aaZ.2 mb)).symm
theorem afy.pt {m':Fq} (hx:sgp f m.p=0) (hv:m'.v=m.v):afy f m.p m' m':=⟨hx,.inl ⟨rfl,by unfold Fq.p;rw[hv]⟩⟩
def hlf (Q:List Int) (r:Fq×Fq):Fq×Fq :=
 if agO r.1 r.2=0 then r
 else if (r.1.mid r.2).sgn Q=0 then ((r.1.mid r.2).nf,(r.1.mid r.2).nf)
 else if (r.1.mid r.2).sgn Q=r.1.sgn Q then (r.1.mid r.2,r.2) else (r.1,r.1.mid r.2)
structure Half (r s:Fq×Fq):Prop where
 p1:0<s.1.q
 p2:0<s.2.q
 lo:r.1.v<=s.1.v
 hi:s.2.v<=r.2.v
 w:2*(s.2.v-s.1.v)<=r.2.v-r.1.v
theorem aq6 {r:Fq×Fq} (h0:aad Q≠0) (hs:∀ x,mult x Q<=1) (e:∀ y,sgp f y=0↔sgp Q y=0) (ha:0<r.1.q) (hb:0<r.2.q) (h:afy f x r.1 r.2):afy f x (hlf Q r).1 (hlf Q r).2/\Half r (hlf Q r):=by
 have hle:=h.le
 unfold hlf
 by_cases c:agO r.1 r.2=0
 ·rw[if_pos c]
  have:=(aeM ha hb).1 c
  exact ⟨h,ha,hb,Rat.le_refl,Rat.le_refl,by grind⟩
 rw[if_neg c]
 have hlt:r.1.v<r.2.v:=by
  have:r.1.v≠r.2.v:=fun e=>c ((aeM ha hb).2 e)
  grind
 obtain ⟨mv,mq⟩:=Fq.apD ha hb
 generalize r.1.mid r.2=m at *
 have ma:r.1.v<m.v:=by rw[mv];grind
 have mb:m.v<r.2.v:=by rw[mv];grind
 rw[aeh mq,aeh ha]
 by_cases c2:sgp Q m.p=0
 ·rw[if_pos c2]
  obtain ⟨nv,nq⟩:=Fq.anE mq
  have ex:=h.at_ hlt ma mb ((e _).2 c2)
  rw[ex]
  exact ⟨.pt ((e _).2 c2) nv,nq,nq,by show r.1.v<=m.nf.v;rw[nv];grind,by show m.nf.v<=r.2.v;rw[nv];grind,by show 2*(m.nf.v-m.nf.v)<=_;grind⟩
 rw[if_neg c2]
 have hc:=h.cut h0 hs e hlt ma mb c2
 by_cases c3:sgp Q m.p=sgp Q r.1.p
 ·rw[if_pos c3] at hc ⊢
  exact ⟨hc,mq,hb,by show r.1.v<=m.v;grind,Rat.le_refl,by show 2*(r.2.v-m.v)<=_;rw[mv];grind⟩
 ·rw[if_neg c3] at hc ⊢
  exact ⟨hc,ha,mq,Rat.le_refl,by show m.v<=r.2.v;grind,by show 2*(m.v-r.1.v)<=_;rw[mv];grind⟩
end
end Go.Proofs.YtkefcldcfeolbaaGreat
