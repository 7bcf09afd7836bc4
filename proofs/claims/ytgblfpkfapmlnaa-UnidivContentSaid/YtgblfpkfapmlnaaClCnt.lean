/- For every two polynomials the law UnidivContent returns true and its arguments read as before: Content and Primitive are those of the reference, and the content of a product is the product of the contents. No condition. -/
import Derived.Test.YtgblfpkfapmlnaaRowQ
import Derived.Test.YtgblfpkfapmlnaaCtL
namespace Go.Proofs.Ytgblfpkfapmlnaa
open Go.ChangeShapes Go.WideShapes Go.ChangeAt Go.RowKit

set_option maxRecDepth 100000 in
theorem content_lifted (os : Os) (started : os.Started) (H : Type) (enc : TypeId × Value → H) :
    ReturnsInHanded {} Try.checked os 4 .any (Rows.unidivContentSpec.pre6 enc Try.prog Try.f4 Rows.unidivContentRow.domain false) (Rows.unidivContentSpec.post enc Try.prog Try.f4 false true false false) := by
  refine returnsInHanded_of_change (C := Try.checked) Try.own started (by kernel_rfl) Try.func4
    (ChangeSpec.witness6 (enc := enc) (C := Try.checked) false ⟨#[], #[.slice none 0 0, .slice none 0 0], []⟩ 8 (by kernel_rfl) (by kernel_rfl) (by kernel_rfl) (by kernel_rfl)) ?_
  intro W base args ds gs before hval0 hW hcnd _
  exact lifted_polys _ Try.f4 Try.params4 rfl enc _ rfl (fun _ _ => rfl) (fun A la ca p B lb cb q w h h' => law_content A la ca p B lb cb q w h h') W args ds gs before hval0 hW

theorem unidivContent_holds : Rows.UnidivContentSaid :=
  OpenClaim.holds_of_wide 4 Try.f4 rfl rfl rfl rfl rfl rfl rfl ⟨rfl, rfl, rfl, rfl, rfl⟩ rfl rfl rfl rfl rfl (by kernel_rfl) Try.func4 (by kernel_rfl)
    (of_decide_eq_true (by kernel_rfl)) (by unfold Func.isWrapper; first | (rw [if_pos (by decide +kernel)]; kernel_rfl) | (rw [if_neg (by decide +kernel)]; exact ⟨rfl, rfl⟩))
    (fun os started H enc _ => content_lifted os started H enc)
#print axioms unidivContent_holds
end Go.Proofs.Ytgblfpkfapmlnaa
