/- The ends of the intervals of Roots are dyadic, and how wide the intervals are. Plain: no program. -/
import Derived.Test.YtdimmlckpgpgcaaGreatHfp
namespace Go.Proofs.YtdimmlckpgpgcaaGreat
open Go.RowKit
section
variable {K i j:Nat} {a b:Fq} {r:Fq×Fq} {Q f:List Int}
theorem Dy.le (h:Dy K i a) (hij:i<=j):Dy K j a:=⟨h.p,Nat.dvd_trans h.d (Nat.pow_dvd_pow 2 hij),h.z⟩
theorem Dy.nf (h:Dy K i a):Dy K i a.nf:=by
 have hp:=(Go.Proofs.YtdimmlckpgpgcaaGreat.aom (z:=a.z) h.p).2.1
 obtain ⟨g,hg⟩:∃ g,g=Nat.gcd a.z.natAbs a.q:=⟨_,rfl⟩
 have hg0:0<g:=by rw[hg];exact Nat.gcd_pos_of_pos_right _ h.p
 have d2:g∣a.q:=by rw[hg];exact Nat.gcd_dvd_right _ _
 have d1:g∣a.z.natAbs:=by rw[hg];exact Nat.gcd_dvd_left _ _
 have eq:a.nf.q=a.q / g:=by rw[hg];rfl
 have ez:a.nf.z.natAbs=a.z.natAbs / g:=by
  show (rz a.z a.q).natAbs=_
  unfold rz
  rw[Int.natAbs_tdiv,hg,Int.natAbs_natCast];rfl
 refine ⟨hp,?_,?_⟩
 ·rw[eq];exact Nat.dvd_trans (Nat.div_dvd_of_dvd d2) h.d
 ·rw[ez,eq,<- Nat.mul_div_assoc _ d2]
  exact Nat.div_le_div_right h.z
def DyR (K i:Nat) (r:Fq×Fq):Prop:=Dy K i r.1/\Dy K i r.2
theorem DyR.le (h:DyR K i r) (hij:i<=j):DyR K j r:=⟨h.1.le hij,h.2.le hij⟩
theorem DyR.fqb {N:Nat} (h:DyR K i r) (hi:i<=N) (hN:(K+1)*2^N<=ZB):FqB r.1/\FqB r.2/\(i+1<=N->FqB (r.1.mid r.2)):=⟨h.1.fqb hi hN,h.2.fqb hi hN,fun h2=>(h.1.mid h.2).fqb h2 hN⟩
end
end Go.Proofs.YtdimmlckpgpgcaaGreat
