/- For every two polynomials the law UnidivGcd returns true and its arguments read as before: Gcd returns the greatest common divisor, Coprime whether it is a constant, Lcm the least common multiple. No condition. -/
import Derived.Test.YtgblfpkfapmlnaaGreatRowQ
import Derived.Test.YtgblfpkfapmlnaaGreatGdL
namespace Go.Proofs.YtgblfpkfapmlnaaGreat
open Go.ChangeShapes Go.WideShapes Go.ChangeAt Go.RowKit

set_option maxRecDepth 100000 in
theorem gcd_lifted (os : Os) (started : os.Started) (H : Type) (enc : TypeId × Value → H) :
    ReturnsInHanded {} Tryz.checked os 5 .any (Rows.unidivGcdSpec.pre6 enc Tryz.prog Tryz.f5 Rows.unidivGcdRow.domain false) (Rows.unidivGcdSpec.post enc Tryz.prog Tryz.f5 false true false false) := by
  refine returnsInHanded_of_change (C := Tryz.checked) Tryz.own started (by kernel_rfl) Tryz.func5
    (ChangeSpec.witness6 (enc := enc) (C := Tryz.checked) false ⟨#[], #[.slice none 0 0, .slice none 0 0], []⟩ 8 (by kernel_rfl) (by kernel_rfl) (by kernel_rfl) (by kernel_rfl)) ?_
  intro W base args ds gs before hval0 hW hcnd _
  exact lifted_polys _ Tryz.f5 Tryz.params5 rfl enc _ rfl (fun _ _ => rfl) (fun A la ca p B lb cb q w h h' => law_gcd A la ca p B lb cb q w h h') W args ds gs before hval0 hW

theorem unidivGcd_holds : Rows.UnidivGcdSaid :=
  OpenClaim.holds_of_wide 5 Tryz.f5 rfl rfl rfl rfl rfl rfl rfl ⟨rfl, rfl, rfl, rfl, rfl⟩ rfl rfl rfl rfl rfl (by kernel_rfl) Tryz.func5 (by kernel_rfl)
    (of_decide_eq_true (by kernel_rfl)) (by unfold Func.isWrapper; first | (rw [if_pos (by decide +kernel)]; kernel_rfl) | (rw [if_neg (by decide +kernel)]; exact ⟨rfl, rfl⟩))
    (fun os started H enc _ => gcd_lifted os started H enc)
#print axioms unidivGcd_holds
end Go.Proofs.YtgblfpkfapmlnaaGreat
