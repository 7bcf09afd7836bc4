/- What Valid says of two fractions, what the list of Roots is, and that Complete accepts it. Plain: no program. -/
import Derived.Test.YtphmkdmflopcdaaGreatIsv
namespace Go.Proofs.YtphmkdmflopcdaaGreat
open Go.RowKit
theorem vld_lt {a b:Fq} (ha:0<a.q) (hb:0<b.q):a.z*(b.q:Int)<b.z*(a.q:Int)↔a.v<b.v:=(frac_lt ha hb).symm
section
variable {f:List Int} {a b:Fq} {x:Pt}
def IsoV (f:List Int) (x:Pt) (a b:Fq):Prop :=
 sgp f x=0/\((a.v=b.v/\x=a.p)∨(a.v<b.v/\sgp f a.p≠0/\sgp f b.p≠0/\a.p<x/\x<b.p/\∀ y,sgp f y=0->a.p<y->y<b.p->y=x))
theorem IsoV.le (h:IsoV f x a b):a.v<=b.v:=by
 rcases h.2 with h | h
 ·rw[h.1];exact Rat.le_refl
 ·grind
theorem IsoV.lo (h:IsoV f x a b):¬ x<a.p:=by
 rcases h.2 with h | h
 ·rw[h.2];exact Pt.irr _
 ·exact Pt.asym h.2.2.2.1
theorem IsoV.hi (h:IsoV f x a b):¬ b.p<x:=by
 rcases h.2 with h | h
 ·rw[h.2];unfold Fq.p;rw[h.1];exact Pt.irr _
 ·exact Pt.asym h.2.2.2.2.1
theorem IsoV.uniq {y:Pt} (h:IsoV f x a b) (h':IsoV f y a b):x=y:=by
 rcases h.2 with h1 | h1
 ·rcases h'.2 with h2 | h2
  ·rw[h1.2,h2.2]
  ·grind
 ·rcases h'.2 with h2 | h2
  ·grind
  ·exact h2.2.2.2.2.2 x h.1 h1.2.2.2.1 h1.2.2.2.2.1
theorem Iso.v {Q:List Int} {r:Fq×Fq} (h:Iso Q x r) (hx:sgp f x=0) (e:∀ y,sgp f y=0↔sgp Q y=0):IsoV f x r.1 r.2:=by
 refine ⟨hx,?_⟩
 rcases h.2.2 with ⟨h1,h2⟩ | ⟨h1,h2,h3,h4,h5,h6⟩
 ·exact .inl ⟨by rw[h1],h2⟩
 ·exact .inr ⟨h1,fun h=>h2 ((e _).1 h),fun h=>h3 ((e _).1 h),h4,h5,fun y hy=>h6 y ((e y).1 hy)⟩
end
def r00:Fq×Fq:=(⟨0,1⟩,⟨0,1⟩)
instance instPt:Inhabited Pt:=⟨Pt.of 0⟩
section
variable {f:List Int}
theorem Isl.get {Q:List Int} {xs:List Pt} {rs:List (Fq×Fq)} {lo hi:Rat} (h:Isl Q xs rs lo hi) :
  (∀ k,k<xs.length->Iso Q (xs.getD k default) (rs.getD k r00)/\lo<=(rs.getD k r00).1.v)/\∀ j k,j<k->k<xs.length->(rs.getD j r00).2.v<=(rs.getD k r00).1.v:=by
 induction h with
 | nil a b h=>exact ⟨fun k hk=>absurd hk (Nat.not_lt_zero _),fun j k _ hk=>absurd hk (Nat.not_lt_zero _)⟩
 | @cons x xs r l a c b h h1 h2 h3 ih =>
   refine ⟨fun k hk=>?_,fun j k hj hk=>?_⟩
   ·match k,hk with
    | 0,_=>exact ⟨h,h1⟩
    | k+1,hk =>
      obtain ⟨g1,g2⟩:=ih.1 k (by rw[List.length_cons] at hk;omega)
      have hl:=h.le
      exact ⟨g1,show a<=(l.getD k r00).1.v by grind⟩
   ·match j,k,hj,hk with
    | 0,k+1,_,hk =>
      have g2:=(ih.1 k (by rw[List.length_cons] at hk;omega)).2
      show r.2.v<=(l.getD k r00).1.v
      grind
    | j+1,k+1,hj,hk=>exact ih.2 j k (by omega) (by rw[List.length_cons] at hk;omega)
end
def fcmp (a b:Fq):Int:=cmpz (a.z*(b.q:Int)) (b.z*(a.q:Int))
theorem fcmp_lt {a b:Fq} (ha:0<a.q) (hb:0<b.q):fcmp a b=-1↔a.v<b.v:=by
 rw[<- vld_lt ha hb];unfold fcmp cmpz;constructor
 ·intro h;split at h
  ·assumption
  ·split at h<;>omega
 ·intro h;rw[if_pos h]
theorem fcmp_gt {a b:Fq} (ha:0<a.q) (hb:0<b.q):fcmp a b=1↔b.v<a.v:=by
 rw[<- vld_lt hb ha];unfold fcmp cmpz;constructor
 ·intro h;split at h
  ·omega
  ·split at h<;>omega
 ·intro h;rw[if_neg (by omega),if_neg (by omega)]
theorem fcmp_or (a b:Fq):fcmp a b=-1∨fcmp a b=0∨fcmp a b=1:=by
 unfold fcmp cmpz;split
 ·simp
 ·split<;>simp
theorem fcmp_zero {a b:Fq} (ha:0<a.q) (hb:0<b.q):fcmp a b=0↔a.v=b.v:=by
 have h1:=fcmp_lt ha hb
 have h2:=fcmp_gt ha hb
 rcases fcmp_or a b with h | h | h
 ·have:=h1.1 h;exact ⟨fun e=>by omega,fun e=>by grind⟩
 ·exact ⟨fun _=>by
   have n1:¬ a.v<b.v:=fun e=>by have:=h1.2 e;omega
   have n2:¬ b.v<a.v:=fun e=>by have:=h2.2 e;omega
   grind,fun _=>h⟩
 ·have:=h2.1 h;exact ⟨fun e=>by omega,fun e=>by grind⟩
section
variable {f:List Int}
end
end Go.Proofs.YtphmkdmflopcdaaGreat
