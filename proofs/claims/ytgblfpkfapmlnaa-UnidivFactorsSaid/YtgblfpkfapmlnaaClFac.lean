/- For every two polynomials the law UnidivFactors returns true and its arguments read as before: divisibility agrees with the greatest common divisor, and primitive divisors leave integer quotients. No condition. -/
import Derived.Test.YtgblfpkfapmlnaaRowQ
import Derived.Test.YtgblfpkfapmlnaaFcL
namespace Go.Proofs.Ytgblfpkfapmlnaa
open Go.ChangeShapes Go.WideShapes Go.ChangeAt Go.RowKit

set_option maxRecDepth 100000 in
theorem factors_lifted (os : Os) (started : os.Started) (H : Type) (enc : TypeId × Value → H) :
    ReturnsInHanded {} Try.checked os 7 .any (Rows.unidivFactorsSpec.pre6 enc Try.prog Try.f7 Rows.unidivFactorsRow.domain false) (Rows.unidivFactorsSpec.post enc Try.prog Try.f7 false true false false) := by
  refine returnsInHanded_of_change (C := Try.checked) Try.own started (by kernel_rfl) Try.func7
    (ChangeSpec.witness6 (enc := enc) (C := Try.checked) false ⟨#[], #[.slice none 0 0, .slice none 0 0], []⟩ 8 (by kernel_rfl) (by kernel_rfl) (by kernel_rfl) (by kernel_rfl)) ?_
  intro W base args ds gs before hval0 hW hcnd _
  exact lifted_polys _ Try.f7 Try.params7 rfl enc _ rfl (fun _ _ => rfl) (fun A la ca p B lb cb q w h h' => law_factors A la ca p B lb cb q w h h') W args ds gs before hval0 hW

theorem unidivFactors_holds : Rows.UnidivFactorsSaid :=
  OpenClaim.holds_of_wide 7 Try.f7 rfl rfl rfl rfl rfl rfl rfl ⟨rfl, rfl, rfl, rfl, rfl⟩ rfl rfl rfl rfl rfl (by kernel_rfl) Try.func7 (by kernel_rfl)
    (of_decide_eq_true (by kernel_rfl)) (by unfold Func.isWrapper; first | (rw [if_pos (by decide +kernel)]; kernel_rfl) | (rw [if_neg (by decide +kernel)]; exact ⟨rfl, rfl⟩))
    (fun os started H enc _ => factors_lifted os started H enc)
#print axioms unidivFactors_holds
end Go.Proofs.Ytgblfpkfapmlnaa
