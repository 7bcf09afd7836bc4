/- Separation's value; two different rational roots are farther apart. Plain: no program. -/
import Derived.Test.YtjmglmgokfcgoaaPpt
import Derived.Test.YtjmglmgokfcgoaaBits
namespace Go.Proofs.Ytjmglmgokfcgoaa
def sepx (Q:List Int):Nat:=(plen Q-1)^(plen Q-1+2)*(nst Q Q.length).natAbs^(plen Q-1-1)
theorem nst_bd {p:List Int} {X:Nat} (h:∀ j,(p.getD j 0).natAbs≤X):∀ k,(nst p k).natAbs≤k*(X*X)∧0≤nst p k
 | 0=>by simp [nst]
 | k+1=>by
   obtain ⟨h1,h2⟩:=nst_bd h k
   have h3:(p.getD k 0*p.getD k 0).natAbs≤X*X:=by rw [Int.natAbs_mul];exact Nat.mul_le_mul (h k) (h k)
   have h4:0≤p.getD k 0*p.getD k 0:=by
    rcases Int.le_total 0 (p.getD k 0) with h | h
    ·exact Int.mul_nonneg h h
    ·exact Int.mul_nonneg_of_nonpos_of_nonpos h h
   rw [nst,Nat.succ_mul]
   omega
theorem nst_ge {p:List Int}:∀ k j,j<k→(p.getD j 0).natAbs*(p.getD j 0).natAbs≤(nst p k).natAbs
 | k+1,j,hj=>by
   have h4:0≤p.getD k 0*p.getD k 0:=by
    rcases Int.le_total 0 (p.getD k 0) with h | h
    ·exact Int.mul_nonneg h h
    ·exact Int.mul_nonneg_of_nonpos_of_nonpos h h
   have h2:0≤nst p k:=by
    clear hj h4
    induction k with
    | zero=>exact Int.le_refl _
    | succ k ih =>
      have h4:0≤p.getD k 0*p.getD k 0:=by
       rcases Int.le_total 0 (p.getD k 0) with h | h
       ·exact Int.mul_nonneg h h
       ·exact Int.mul_nonneg_of_nonpos_of_nonpos h h
      rw [nst];omega
   rw [nst]
   by_cases h:j=k
   ·subst h
    rw [← Int.natAbs_mul];omega
   ·have:=nst_ge (p:=p) k j (by omega)
    omega
theorem pc_bd_len {f g:List Int} {X Y:Nat} (hf:∀ j,(f.getD j 0).natAbs≤X) (hg:∀ j,(g.getD j 0).natAbs≤Y) (k:Nat):(pc f g k).natAbs≤plen f*(X*Y):=by
 rw [← qcs_pc f g k (plen f) (Nat.le_refl _)]
 exact qcs_bd hf hg k _
end Go.Proofs.Ytjmglmgokfcgoaa
