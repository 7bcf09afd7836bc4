/- What the bisection of package isolate finds, plain: the intervals, that they isolate the roots, and how deep it goes. No program. -/
import Derived.Test.YtphmkdmflopcdaaGreatSqw
import Derived.Test.YtphmkdmflopcdaaGreatCof
namespace Go.Proofs.YtphmkdmflopcdaaGreat
open Go.RowKit
section
variable {f g:List Int} {m n G e N H:Nat}
end
end Go.Proofs.YtphmkdmflopcdaaGreat
namespace Go.Proofs.YtphmkdmflopcdaaGreat
open Go.RowKit
end Go.Proofs.YtphmkdmflopcdaaGreat
namespace Go.Proofs.YtphmkdmflopcdaaGreat
open Go.RowKit
structure Fq where
 z:Int
 q:Nat
def Fq.v (a:Fq):Rat:=(a.z:Rat) / (a.q:Rat)
def Fq.p (a:Fq):Pt:=Pt.of a.v
def Fq.nf (a:Fq):Fq:=⟨rz a.z a.q,rq a.z a.q⟩
def Fq.mid (a b:Fq):Fq:=⟨(a.z*(b.q:Int)+b.z*(a.q:Int)).tdiv (Nat.gcd (a.z*(b.q:Int)+b.z*(a.q:Int)).natAbs (a.q*b.q*2)),a.q*b.q*2 / Nat.gcd (a.z*(b.q:Int)+b.z*(a.q:Int)).natAbs (a.q*b.q*2)⟩
theorem nf_v {z:Int} {q:Nat} (hq:0<q):((rz z q:Int):Rat) / ((rq z q:Nat):Rat)=(z:Rat) / (q:Rat)/\0<rq z q/\Nat.gcd (rz z q).natAbs (rq z q)=1:=by
 obtain ⟨g,hg⟩:∃ g,g=Nat.gcd z.natAbs q:=⟨_,rfl⟩
 have hg0:0<g:=by rw[hg];exact Nat.gcd_pos_of_pos_right _ hq
 have hd1:(g:Int)∣z:=by rw[hg,<- Int.natAbs_dvd_natAbs,Int.natAbs_natCast];exact Nat.gcd_dvd_left _ _
 have hd2:g∣q:=by rw[hg];exact Nat.gcd_dvd_right _ _
 obtain ⟨a,ha⟩:=hd1
 obtain ⟨b,hb⟩:=hd2
 have e1:rz z q=a:=by unfold rz;rw[<- hg,ha,Int.mul_tdiv_cancel_left _ (by omega)]
 have e2:rq z q=b:=by unfold rq;rw[<- hg,hb,Nat.mul_div_cancel_left _ hg0]
 have hb0:0<b:=Nat.pos_of_ne_zero fun h=>by rw[h,Nat.mul_zero] at hb;omega
 rw[e1,e2]
 refine ⟨?_,hb0,?_⟩
 ·have hbr:(0:Rat)<((b:Nat):Rat):=by exact_mod_cast hb0
  have hgr:(0:Rat)<((g:Nat):Rat):=by exact_mod_cast hg0
  have hgb:=Rat.mul_pos hgr hbr
  rw[ha,hb,Rat.intCast_mul,Rat.natCast_mul,Rat.intCast_natCast,Rat.div_def,Rat.div_def]
  generalize ((g:Nat):Rat)=x at *
  generalize ((b:Nat):Rat)=y at *
  generalize ((a:Int):Rat)=u at *
  grind
 ·have h1:Nat.gcd z.natAbs q=g*Nat.gcd a.natAbs b:=by
   rw[ha,hb,Int.natAbs_mul,Int.natAbs_natCast,Nat.gcd_mul_left]
  rw[<- hg] at h1
  exact Nat.eq_of_mul_eq_mul_left hg0 (by rw[<- h1,Nat.mul_one])
theorem Fq.nf_v {a:Fq} (h:0<a.q):a.nf.v=a.v/\0<a.nf.q:=⟨(Go.Proofs.YtphmkdmflopcdaaGreat.nf_v h).1,(Go.Proofs.YtphmkdmflopcdaaGreat.nf_v h).2.1⟩
theorem Fq.mid_v {a b:Fq} (ha:0<a.q) (hb:0<b.q):(a.mid b).v=(a.v+b.v) / 2/\0<(a.mid b).q:=by
 have hq:0<a.q*b.q*2:=Nat.mul_pos (Nat.mul_pos ha hb) (by decide)
 obtain ⟨h1,h2,_⟩:=Go.Proofs.YtphmkdmflopcdaaGreat.nf_v (z:=a.z*(b.q:Int)+b.z*(a.q:Int)) hq
 refine ⟨?_,h2⟩
 show ((rz (a.z*(b.q:Int)+b.z*(a.q:Int)) (a.q*b.q*2):Int):Rat) / ((rq (a.z*(b.q:Int)+b.z*(a.q:Int)) (a.q*b.q*2):Nat):Rat)=_
 rw[h1]
 unfold Fq.v
 have x1:(0:Rat)<((a.q:Nat):Rat):=by exact_mod_cast ha
 have x2:(0:Rat)<((b.q:Nat):Rat):=by exact_mod_cast hb
 rw[Rat.intCast_add,Rat.intCast_mul,Rat.intCast_mul,Rat.natCast_mul,Rat.natCast_mul,Rat.intCast_natCast,Rat.intCast_natCast]
 rw[Rat.div_def,Rat.div_def,Rat.div_def,Rat.div_def]
 have x3:=Rat.mul_pos x1 x2
 have e2:((2:Nat):Rat)=2:=rfl
 rw[e2]
 generalize ((a.q:Nat):Rat)=s at *
 generalize ((b.q:Nat):Rat)=t at *
 generalize ((a.z:Int):Rat)=u at *
 generalize ((b.z:Int):Rat)=v at *
 grind
def Fq.sgn (Q:List Int) (a:Fq):Int:=sat a.z a.q Q
def Iso (Q:List Int) (x:Pt) (r:Fq×Fq):Prop :=
 0<r.1.q/\0<r.2.q/\((r.1=r.2/\x=r.1.p)∨(r.1.v<r.2.v/\sgp Q r.1.p≠0/\sgp Q r.2.p≠0/\r.1.p<x/\x<r.2.p/\∀ y,sgp Q y=0->r.1.p<y->y<r.2.p->y=x))
inductive Isl (Q:List Int):List Pt->List (Fq×Fq)->Rat->Rat->Prop
 | nil (a b:Rat) (h:a<=b):Isl Q [] [] a b
 | cons {x:Pt} {xs:List Pt} {r:Fq×Fq} {l:List (Fq×Fq)} {a c b:Rat} (h:Iso Q x r) (h1:a<=r.1.v) (h2:r.2.v<=c) (h3:Isl Q xs l c b):Isl Q (x :: xs) (r :: l) a b
theorem Iso.le {Q:List Int} {x:Pt} {r:Fq×Fq} (h:Iso Q x r):r.1.v<=r.2.v:=by
 rcases h.2.2 with ⟨e,_⟩ | ⟨e,_⟩
 ·rw[e];exact Rat.le_refl
 ·grind
theorem Isl.le {Q:List Int} {xs:List Pt} {l:List (Fq×Fq)} {a b:Rat} (h:Isl Q xs l a b):a<=b:=by
 induction h with
 | nil a b h=>exact h
 | cons h h1 h2 _ ih=>have:=h.le;grind
theorem Isl.append {Q:List Int} {xs ys:List Pt} {l k:List (Fq×Fq)} {a b c:Rat} (h:Isl Q xs l a b) (h':Isl Q ys k b c):Isl Q (xs ++ ys) (l ++ k) a c:=by
 induction h with
 | nil a b h =>
   rw[List.nil_append,List.nil_append]
   cases h' with
   | nil _ _ h2=>exact .nil _ _ (by grind)
   | cons g g1 g2 g3=>exact .cons g (by grind) g2 g3
 | cons h h1 h2 _ ih=>exact .cons h h1 h2 (ih h')
theorem Isl.length {Q:List Int} {xs:List Pt} {l:List (Fq×Fq)} {a b:Rat} (h:Isl Q xs l a b):l.length=xs.length:=by
 induction h with
 | nil=>rfl
 | cons _ _ _ _ ih=>rw[List.length_cons,List.length_cons,ih]
def Op (f:List Int) (a b:Pt) (xs:List Pt):Prop:=Lst (fun x=>sgp f x=0/\a<x/\x<b) xs
section
variable {Q:List Int} {k:Nat}
end
end Go.Proofs.YtphmkdmflopcdaaGreat
