/- For every two polynomials the law UnidivPseudo returns true and its arguments read as before: Pseudo returns the quotient and the remainder of the reference, or ErrZero. No condition. -/
import Derived.Test.YtgblfpkfapmlnaaRowQ
import Derived.Test.YtgblfpkfapmlnaaPsL
namespace Go.Proofs.Ytgblfpkfapmlnaa
open Go.ChangeShapes Go.WideShapes Go.ChangeAt Go.RowKit

set_option maxRecDepth 100000 in
theorem pseudo_lifted (os : Os) (started : os.Started) (H : Type) (enc : TypeId × Value → H) :
    ReturnsInHanded {} Try.checked os 3 .any (Rows.unidivPseudoSpec.pre6 enc Try.prog Try.f3 Rows.unidivPseudoRow.domain false) (Rows.unidivPseudoSpec.post enc Try.prog Try.f3 false true false false) := by
  refine returnsInHanded_of_change (C := Try.checked) Try.own started (by kernel_rfl) Try.func3
    (ChangeSpec.witness6 (enc := enc) (C := Try.checked) false ⟨#[], #[.slice none 0 0, .slice none 0 0], []⟩ 8 (by kernel_rfl) (by kernel_rfl) (by kernel_rfl) (by kernel_rfl)) ?_
  intro W base args ds gs before hval0 hW hcnd _
  exact lifted_polys _ Try.f3 Try.params3 rfl enc _ rfl (fun _ _ => rfl) (fun A la ca p B lb cb q w h h' => law_pseudo A la ca p B lb cb q w h h') W args ds gs before hval0 hW

theorem unidivPseudo_holds : Rows.UnidivPseudoSaid :=
  OpenClaim.holds_of_wide 3 Try.f3 rfl rfl rfl rfl rfl rfl rfl ⟨rfl, rfl, rfl, rfl, rfl⟩ rfl rfl rfl rfl rfl (by kernel_rfl) Try.func3 (by kernel_rfl)
    (of_decide_eq_true (by kernel_rfl)) (by unfold Func.isWrapper; first | (rw [if_pos (by decide +kernel)]; kernel_rfl) | (rw [if_neg (by decide +kernel)]; exact ⟨rfl, rfl⟩))
    (fun os started H enc _ => pseudo_lifted os started H enc)
#print axioms unidivPseudo_holds
end Go.Proofs.Ytgblfpkfapmlnaa
