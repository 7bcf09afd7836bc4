/- For every two polynomials the law UnidivLast returns true and its arguments read as before: the subresultant sequence falls in degree, each element is the remainder of the two before it up to factors, and the last one is the greatest common divisor up to a factor. No condition. -/
import Derived.Test.YtgblfpkfapmlnaaRowQ
import Derived.Test.YtgblfpkfapmlnaaLsL
namespace Go.Proofs.Ytgblfpkfapmlnaa
open Go.ChangeShapes Go.WideShapes Go.ChangeAt Go.RowKit

set_option maxRecDepth 100000 in
theorem last_lifted (os : Os) (started : os.Started) (H : Type) (enc : TypeId × Value → H) :
    ReturnsInHanded {} Try.checked os 6 .any (Rows.unidivLastSpec.pre6 enc Try.prog Try.f6 Rows.unidivLastRow.domain false) (Rows.unidivLastSpec.post enc Try.prog Try.f6 false true false false) := by
  refine returnsInHanded_of_change (C := Try.checked) Try.own started (by kernel_rfl) Try.func6
    (ChangeSpec.witness6 (enc := enc) (C := Try.checked) false ⟨#[], #[.slice none 0 0, .slice none 0 0], []⟩ 8 (by kernel_rfl) (by kernel_rfl) (by kernel_rfl) (by kernel_rfl)) ?_
  intro W base args ds gs before hval0 hW hcnd _
  exact lifted_polys _ Try.f6 Try.params6 rfl enc _ rfl (fun _ _ => rfl) (fun A la ca p B lb cb q w h h' => law_last A la ca p B lb cb q w h h') W args ds gs before hval0 hW

theorem unidivLast_holds : Rows.UnidivLastSaid :=
  OpenClaim.holds_of_wide 6 Try.f6 rfl rfl rfl rfl rfl rfl rfl ⟨rfl, rfl, rfl, rfl, rfl⟩ rfl rfl rfl rfl rfl (by kernel_rfl) Try.func6 (by kernel_rfl)
    (of_decide_eq_true (by kernel_rfl)) (by unfold Func.isWrapper; first | (rw [if_pos (by decide +kernel)]; kernel_rfl) | (rw [if_neg (by decide +kernel)]; exact ⟨rfl, rfl⟩))
    (fun os started H enc _ => last_lifted os started H enc)
#print axioms unidivLast_holds
end Go.Proofs.Ytgblfpkfapmlnaa
