/- Separation's value; two different rational roots are farther apart. Plain: no program. -/
import Derived.Test.YtjmglmgokfcgoaaGreatMlt
import Derived.Test.YtjmglmgokfcgoaaGreatExq
import Derived.Test.YtjmglmgokfcgoaaGreatGcx
import Derived.Test.YtjmglmgokfcgoaaGreatBits
namespace Go.Proofs.YtjmglmgokfcgoaaGreat
theorem pc_bd_len {f g:List Int} {X Y:Nat} (hf:∀ j,(f.getD j 0).natAbs≤X) (hg:∀ j,(g.getD j 0).natAbs≤Y) (k:Nat):(pc f g k).natAbs≤plen f*(X*Y):=by
 rw [← qcs_pc f g k (plen f) (Nat.le_refl _)]
 exact qcs_bd hf hg k _
end Go.Proofs.YtjmglmgokfcgoaaGreat
