/- Sums and differences of fractions, their values and sizes. Plain: no program. -/
import Derived.Test.YtobcbjcnjpgipaaGreatIvp
namespace Go.Proofs.YtobcbjcnjpgipaaGreat
open Go.RowKit
def Fq.sub (a b:Fq):Fq:=⟨(a.z*(b.q:Int)-b.z*(a.q:Int)).tdiv (Nat.gcd (a.z*(b.q:Int)-b.z*(a.q:Int)).natAbs (a.q*b.q)),a.q*b.q / Nat.gcd (a.z*(b.q:Int)-b.z*(a.q:Int)).natAbs (a.q*b.q)⟩
def Fq.add (a b:Fq):Fq:=⟨(a.z*(b.q:Int)+b.z*(a.q:Int)).tdiv (Nat.gcd (a.z*(b.q:Int)+b.z*(a.q:Int)).natAbs (a.q*b.q)),a.q*b.q / Nat.gcd (a.z*(b.q:Int)+b.z*(a.q:Int)).natAbs (a.q*b.q)⟩
structure Sz (k:Nat) (a:Fq):Prop where
 p:0<a.q
 z:a.z.natAbs<=BB^k
 q:a.q<=BB^k
section
variable {a b:Fq} {j k:Nat}
theorem FqB.sz (h:FqB a):Sz ZK a:=⟨h.p,h.z,h.q⟩
theorem Sz.fz (h:Sz k a) (hk:k<FW):Fit a.z:=Nat.lt_of_le_of_lt h.z (Nat.pow_lt_pow_right (by rw[BB_eq];decide) hk)
theorem Sz.fq (h:Sz k a) (hk:k<FW):Fit (a.q:Int):=by
 unfold Fit
 rw[Int.natAbs_natCast]
 exact Nat.lt_of_le_of_lt h.q (Nat.pow_lt_pow_right (by rw[BB_eq];decide) hk)
theorem sz_le {Z D j k:Nat} (h1:Z<=BB^j) (h2:D<=BB^k):Z*D<=BB^(j+k):=by
 rw[Nat.pow_add]
 exact Nat.mul_le_mul h1 h2
theorem Sz.red (z:Int) (q:Nat) (h0:0<q) (hz:z.natAbs<=BB^k) (hq:q<=BB^k):Sz k ⟨rz z q,rq z q⟩:=by
 refine ⟨(nf_v (z:=z) h0).2.1,?_,?_⟩
 ·show (rz z q).natAbs<=_
  unfold rz
  rw[Int.natAbs_tdiv]
  exact Nat.le_trans (Nat.div_le_self _ _) hz
 ·show rq z q<=_
  unfold rq
  exact Nat.le_trans (Nat.div_le_self _ _) hq
theorem Sz.two (ha:Sz j a) (hb:Sz k b):(a.z*(b.q:Int)).natAbs+(b.z*(a.q:Int)).natAbs<=BB^(j+k+1)/\a.q*b.q<=BB^(j+k+1):=by
 have h1:=sz_le ha.z hb.q
 have h2:=sz_le hb.z ha.q
 have h3:=sz_le ha.q hb.q
 rw[Nat.add_comm k j] at h2
 have h4:2*BB^(j+k)<=BB^(j+k+1):=by
  rw[Nat.pow_succ,Nat.mul_comm]
  exact Nat.mul_le_mul_left _ (by rw[BB_eq];decide)
 rw[Int.natAbs_mul,Int.natAbs_mul,Int.natAbs_natCast,Int.natAbs_natCast]
 omega
theorem Sz.sub (ha:Sz j a) (hb:Sz k b):Sz (j+k+1) (a.sub b):=by
 obtain ⟨h1,h2⟩:=ha.two hb
 exact Sz.red _ _ (Nat.mul_pos ha.p hb.p) (by omega) h2
theorem Fq.sub_v (ha:0<a.q) (hb:0<b.q):(a.sub b).v=a.v-b.v:=by
 have hq:0<a.q*b.q:=Nat.mul_pos ha hb
 have h1:=(Go.Proofs.YtobcbjcnjpgipaaGreat.nf_v (z:=a.z*(b.q:Int)-b.z*(a.q:Int)) hq).1
 refine Eq.trans (show _=((rz (a.z*(b.q:Int)-b.z*(a.q:Int)) (a.q*b.q):Int):Rat) / ((rq (a.z*(b.q:Int)-b.z*(a.q:Int)) (a.q*b.q):Nat):Rat) from rfl) ?_
 rw[h1]
 unfold Fq.v
 have x1:(0:Rat)<((a.q:Nat):Rat):=by exact_mod_cast ha
 have x2:(0:Rat)<((b.q:Nat):Rat):=by exact_mod_cast hb
 have x3:=Rat.mul_pos x1 x2
 rw[Rat.intCast_sub,Rat.intCast_mul,Rat.intCast_mul,Rat.natCast_mul,Rat.intCast_natCast,Rat.intCast_natCast,Rat.div_def,Rat.div_def,Rat.div_def]
 generalize ((a.q:Nat):Rat)=s at *
 generalize ((b.q:Nat):Rat)=t at *
 generalize ((a.z:Int):Rat)=u at *
 generalize ((b.z:Int):Rat)=v at *
 grind
theorem Fq.add_v (ha:0<a.q) (hb:0<b.q):(a.add b).v=a.v+b.v:=by
 have hq:0<a.q*b.q:=Nat.mul_pos ha hb
 have h1:=(Go.Proofs.YtobcbjcnjpgipaaGreat.nf_v (z:=a.z*(b.q:Int)+b.z*(a.q:Int)) hq).1
 refine Eq.trans (show _=((rz (a.z*(b.q:Int)+b.z*(a.q:Int)) (a.q*b.q):Int):Rat) / ((rq (a.z*(b.q:Int)+b.z*(a.q:Int)) (a.q*b.q):Nat):Rat) from rfl) ?_
 rw[h1]
 unfold Fq.v
 have x1:(0:Rat)<((a.q:Nat):Rat):=by exact_mod_cast ha
 have x2:(0:Rat)<((b.q:Nat):Rat):=by exact_mod_cast hb
 have x3:=Rat.mul_pos x1 x2
 rw[Rat.intCast_add,Rat.intCast_mul,Rat.intCast_mul,Rat.natCast_mul,Rat.intCast_natCast,Rat.intCast_natCast,Rat.div_def,Rat.div_def,Rat.div_def]
 generalize ((a.q:Nat):Rat)=s at *
 generalize ((b.q:Nat):Rat)=t at *
 generalize ((a.z:Int):Rat)=u at *
 generalize ((b.z:Int):Rat)=v at *
 grind
end
end Go.Proofs.YtobcbjcnjpgipaaGreat
