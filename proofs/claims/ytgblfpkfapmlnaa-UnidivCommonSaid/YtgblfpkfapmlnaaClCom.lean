/- For every three polynomials the law UnidivCommon returns true and its arguments read as before: a common factor can be taken out of Gcd up to its sign, and Gcd is commutative and associative. No condition. -/
import Derived.Test.YtgblfpkfapmlnaaRowR
import Derived.Test.YtgblfpkfapmlnaaComL
namespace Go.Proofs.Ytgblfpkfapmlnaa
open Go.ChangeShapes Go.WideShapes Go.ChangeAt Go.RowKit

set_option maxRecDepth 100000 in
theorem common_lifted (os : Os) (started : os.Started) (H : Type) (enc : TypeId × Value → H) :
    ReturnsInHanded {} Try.checked os 5 .any (Rows.unidivCommonSpec.pre6 enc Try.prog Try.f5 Rows.unidivCommonRow.domain false) (Rows.unidivCommonSpec.post enc Try.prog Try.f5 false true false false) := by
  refine returnsInHanded_of_change (C := Try.checked) Try.own started (by kernel_rfl) Try.func5
    (ChangeSpec.witness6 (enc := enc) (C := Try.checked) false ⟨#[], #[.slice none 0 0, .slice none 0 0, .slice none 0 0], []⟩ 8 (by kernel_rfl) (by kernel_rfl) (by kernel_rfl) (by kernel_rfl)) ?_
  intro W base args ds gs before hval0 hW hcnd _
  exact lifted_polys3 _ Try.f5 Try.params5 rfl enc _ rfl (fun _ _ _ => rfl) (fun A la ca p B lb cb q C lc cc r w h h' h'' => law_common A la ca p B lb cb q C lc cc r w h h' h'') W args ds gs before hval0 hW

theorem unidivCommon_holds : Rows.UnidivCommonSaid :=
  OpenClaim.holds_of_wide 5 Try.f5 rfl rfl rfl rfl rfl rfl rfl ⟨rfl, rfl, rfl, rfl, rfl⟩ rfl rfl rfl rfl rfl (by kernel_rfl) Try.func5 (by kernel_rfl)
    (of_decide_eq_true (by kernel_rfl)) (by unfold Func.isWrapper; first | (rw [if_pos (by decide +kernel)]; kernel_rfl) | (rw [if_neg (by decide +kernel)]; exact ⟨rfl, rfl⟩))
    (fun os started H enc _ => common_lifted os started H enc)
#print axioms unidivCommon_holds
end Go.Proofs.Ytgblfpkfapmlnaa
