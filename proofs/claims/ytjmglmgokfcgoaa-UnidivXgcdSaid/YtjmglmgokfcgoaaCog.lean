/- Cofactors as polynomials, and that they are alone: the size of a primitive triple r = u f + v g. Plain: no program. -/
import Derived.Test.YtjmglmgokfcgoaaCof
import Derived.Test.YtjmglmgokfcgoaaRga
namespace Go.Proofs.Ytjmglmgokfcgoaa
theorem prim_div {r u v R U V:List Int} {c d:Int} (hc:c≠0) (hd:d≠0) (hr:∀ k,c*r.getD k 0=d*R.getD k 0) (hu:∀ k,c*u.getD k 0=d*U.getD k 0) (hv:∀ k,c*v.getD k 0=d*V.getD k 0)
  (hp:Nat.gcd (Nat.gcd (pcont r) (pcont u)) (pcont v)=1) :
  ∃ e:Int,e≠0∧(∀ k,R.getD k 0=e*r.getD k 0)∧(∀ k,U.getD k 0=e*u.getD k 0)∧∀ k,V.getD k 0=e*v.getD k 0:=by
 have hdv:∀ {a A:List Int},(∀ k,c*a.getD k 0=d*A.getD k 0)→d.natAbs∣c.natAbs*pcont a:=fun {a A} h=>by
  rw [← pcont_psc]
  exact dvd_pcont fun k=>by rw [psc_get,h k,Int.natAbs_mul];exact Nat.dvd_mul_right _ _
 have hdc:d∣c:=Int.natAbs_dvd_natAbs.1 (by
  have e1:=Nat.dvd_gcd (Nat.dvd_gcd (hdv hr) (hdv hu)) (hdv hv)
  rw [Nat.gcd_mul_left,Nat.gcd_mul_left,hp,Nat.mul_one] at e1
  exact e1)
 obtain ⟨e,rfl⟩:=hdc
 have he:∀ {a A:List Int},(∀ k,d*e*a.getD k 0=d*A.getD k 0)→∀ k,A.getD k 0=e*a.getD k 0:=fun {a A} h k=>by
  have:=h k
  rw [Int.mul_assoc] at this
  exact (Int.eq_of_mul_eq_mul_left hd this).symm
 exact ⟨e,fun h=>hc (by rw [h,Int.mul_zero]),he hr,he hu,he hv⟩
theorem bd_of_mul {a A:List Int} {e:Int} (he:e≠0) (h:∀ k,A.getD k 0=e*a.getD k 0) {K:Nat} (hK:∀ k,(A.getD k 0).natAbs≤K) (k:Nat):(a.getD k 0).natAbs≤K:=by
 have h1:=hK k
 rw [h k,Int.natAbs_mul] at h1
 exact Nat.le_trans (Nat.le_mul_of_pos_left _ (Int.natAbs_pos.2 he)) h1
end Go.Proofs.Ytjmglmgokfcgoaa
