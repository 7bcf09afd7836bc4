/- Halving of an isolating interval, plain: the root stays inside, the width is halved. No program. -/
import Derived.Test.YtdimmlckpgpgcaaGreatIvp
namespace Go.Proofs.YtdimmlckpgpgcaaGreat
open Go.RowKit
section
variable {Q f:List Int} {a b m:Fq} {x y:Pt}
theorem asc (h0:aac Q≠0) (hx:sgp Q x=0) (hs:mult x Q<=1) (ha:a.p<x) (hb:x<b.p) (hu:∀ y,sgp Q y=0->a.p<y->y<b.p->y=x) (na:sgp Q a.p≠0) (nb:sgp Q b.p≠0):sgp Q a.p=- sgp Q b.p:=by
 obtain ⟨l,u,hl⟩:=ai5 h0 x
 have hm:mult x Q=1:=by
  have:mult x Q≠0:=fun e=>(aaT h0).1 e hx
  omega
 rw[hm] at hl
 obtain ⟨y,y1,y2,y3⟩:=Pt.ahn hb hl.hi
 obtain ⟨z,z1,z2,z3⟩:∃ z,z<x/\a.p<z/\Pt.of l<z:=by
  rcases Pt.tri a.p (Pt.of l) with h | h | h
  ·obtain ⟨q,h1,h2⟩:=Pt.mid hl.lo;exact ⟨_,h2,Pt.lt_trans h h1,h1⟩
  ·obtain ⟨q,h1,h2⟩:=Pt.mid hl.lo;exact ⟨_,h2,by rw[h];exact h1,h1⟩
  ·obtain ⟨q,h1,h2⟩:=Pt.mid ha;exact ⟨_,h2,h1,Pt.lt_trans h h1⟩
 have ey:=hl.r y y1 y3
 have ez:=hl.l z z3 z1
 have nz:sgp Q z≠0:=fun e=>by
  have:=hu z e z2 (Pt.lt_trans z1 hb);rw[this] at z1;exact Pt.irr _ z1
 have ny:sgp Q y≠0:=fun e=>by
  have:=hu y e (Pt.lt_trans ha y1) y2;rw[this] at y1;exact Pt.irr _ y1
 have e1:sgp Q a.p=sgp Q z:=ad1 z2 (fun t t1 t2 e=>by
  have:=hu t e t1 (Pt.lt_trans t2 (Pt.lt_trans z1 hb));rw[this] at t2;exact Pt.asym z1 t2) na nz
 have e2:sgp Q y=sgp Q b.p:=ad1 y2 (fun t t1 t2 e=>by
  have:=hu t e (Pt.lt_trans ha (Pt.lt_trans y1 t1)) t2;rw[this] at t1;exact Pt.asym y1 t1) ny nb
 rw[e1,<- e2,ey,ez]
 omega
theorem ahV.cut (h0:aac Q≠0) (hs:∀ x,mult x Q<=1) (e:∀ y,sgp f y=0↔sgp Q y=0) (h:ahV f x a b) (hlt:a.v<b.v) (ma:a.v<m.v) (mb:m.v<b.v) (hm:sgp Q m.p≠0) :
  if sgp Q m.p=sgp Q a.p then ahV f x m b else ahV f x a m:=by
 rcases h.2 with h2 | ⟨_,n1,n2,x1,x2,hu⟩
 ·grind
 have ma':a.p<m.p:=Pt.aaH.2 ma
 have mb':m.p<b.p:=Pt.aaH.2 mb
 have hx:=(e x).1 h.1
 have n1':sgp Q a.p≠0:=fun c=>n1 ((e _).2 c)
 have n2':sgp Q b.p≠0:=fun c=>n2 ((e _).2 c)
 have hm':sgp f m.p≠0:=fun c=>hm ((e _).1 c)
 have hu':∀ y,sgp Q y=0->a.p<y->y<b.p->y=x:=fun y hy=>hu y ((e y).2 hy)
 have ht:=asc h0 hx (hs x) x1 x2 hu' n1' n2'
 rcases Pt.tri x m.p with c | c | c
 ·have s:sgp Q m.p=sgp Q b.p:=ad1 mb' (fun t t1 t2 et=>by
   have:=hu' t et (Pt.lt_trans ma' t1) t2;rw[this] at t1;exact Pt.asym c t1) hm n2'
  rw[if_neg (by omega)]
  exact ⟨h.1,.inr ⟨ma,n1,hm',x1,c,fun y hy y1 y2=>hu y hy y1 (Pt.lt_trans y2 mb')⟩⟩
 ·exact absurd (c ▸ hx) hm
 ·have s:sgp Q a.p=sgp Q m.p:=ad1 ma' (fun t t1 t2 et=>by
   have:=hu' t et t1 (Pt.lt_trans t2 mb');rw[this] at t2;exact Pt.asym c t2) n1' hm
  rw[if_pos s.symm]
  exact ⟨h.1,.inr ⟨mb,hm',n2,c,x2,fun y hy y1 y2=>hu y hy (Pt.lt_trans ma' y1) y2⟩⟩
theorem ahV.at_ (h:ahV f x a b) (hlt:a.v<b.v) (ma:a.v<m.v) (mb:m.v<b.v) (hm:sgp f m.p=0):x=m.p:=by
 rcases h.2 with h2 | ⟨_,n1,n2,x1,x2,hu⟩
 ·grind
 ·exact (hu m.p hm (Pt.aaH.2 ma) (Pt.aaH.2 mb)).symm
def hlf (Q:List Int) (r:Fq×Fq):Fq×Fq :=
 if acO r.1 r.2=0 then r
 else if (r.1.mid r.2).sgn Q=0 then ((r.1.mid r.2).nf,(r.1.mid r.2).nf)
 else if (r.1.mid r.2).sgn Q=r.1.sgn Q then (r.1.mid r.2,r.2) else (r.1,r.1.mid r.2)
end
end Go.Proofs.YtdimmlckpgpgcaaGreat
