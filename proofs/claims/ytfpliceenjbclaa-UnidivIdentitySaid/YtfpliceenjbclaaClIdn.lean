/- For every two polynomials the law UnidivIdentity returns true and its arguments read as before: lead(g)^k f = q g + r for the pseudo-division of the program, and r has a lesser degree than g. No condition. -/
import Derived.Test.YtfpliceenjbclaaRowQ
import Derived.Test.YtfpliceenjbclaaIdL
namespace Go.Proofs.Ytfpliceenjbclaa
open Go.ChangeShapes Go.WideShapes Go.ChangeAt Go.RowKit

set_option maxRecDepth 100000 in
theorem identity_lifted (os : Os) (started : os.Started) (H : Type) (enc : TypeId × Value → H) :
    ReturnsInHanded {} Try.checked os 12 .any (Rows.unidivIdentitySpec.pre6 enc Try.prog Try.f12 Rows.unidivIdentityRow.domain false) (Rows.unidivIdentitySpec.post enc Try.prog Try.f12 false true false false) := by
  refine returnsInHanded_of_change (C := Try.checked) Try.own started (by kernel_rfl) Try.func12
    (ChangeSpec.witness6 (enc := enc) (C := Try.checked) false ⟨#[], #[.slice none 0 0, .slice none 0 0], []⟩ 8 (by kernel_rfl) (by kernel_rfl) (by kernel_rfl) (by kernel_rfl)) ?_
  intro W base args ds gs before hval0 hW hcnd _
  exact lifted_polys _ Try.f12 Try.params12 rfl enc _ rfl (fun _ _ => rfl) (fun A la ca p B lb cb q w h h' => law_identity A la ca p B lb cb q w h h') W args ds gs before hval0 hW

theorem unidivIdentity_holds : Rows.UnidivIdentitySaid :=
  OpenClaim.holds_of_wide 12 Try.f12 rfl rfl rfl rfl rfl rfl rfl ⟨rfl, rfl, rfl, rfl, rfl⟩ rfl rfl rfl rfl rfl (by kernel_rfl) Try.func12 (by kernel_rfl)
    (of_decide_eq_true (by kernel_rfl)) (by unfold Func.isWrapper; first | (rw [if_pos (by decide +kernel)]; kernel_rfl) | (rw [if_neg (by decide +kernel)]; exact ⟨rfl, rfl⟩))
    (fun os started H enc _ => identity_lifted os started H enc)
#print axioms unidivIdentity_holds
end Go.Proofs.Ytfpliceenjbclaa
