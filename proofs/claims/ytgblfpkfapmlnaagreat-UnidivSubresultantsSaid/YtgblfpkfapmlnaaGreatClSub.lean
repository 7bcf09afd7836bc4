/- For every two polynomials the law UnidivSubresultants returns true and its arguments read as before: Subresultants returns the sequence of the reference, or ErrArg. No condition. -/
import Derived.Test.YtgblfpkfapmlnaaGreatRowQ
import Derived.Test.YtgblfpkfapmlnaaGreatSbL
namespace Go.Proofs.YtgblfpkfapmlnaaGreat
open Go.ChangeShapes Go.WideShapes Go.ChangeAt Go.RowKit

set_option maxRecDepth 100000 in
theorem subres_lifted (os : Os) (started : os.Started) (H : Type) (enc : TypeId × Value → H) :
    ReturnsInHanded {} Tryz.checked os 3 .any (Rows.unidivSubresultantsSpec.pre6 enc Tryz.prog Tryz.f3 Rows.unidivSubresultantsRow.domain false) (Rows.unidivSubresultantsSpec.post enc Tryz.prog Tryz.f3 false true false false) := by
  refine returnsInHanded_of_change (C := Tryz.checked) Tryz.own started (by kernel_rfl) Tryz.func3
    (ChangeSpec.witness6 (enc := enc) (C := Tryz.checked) false ⟨#[], #[.slice none 0 0, .slice none 0 0], []⟩ 8 (by kernel_rfl) (by kernel_rfl) (by kernel_rfl) (by kernel_rfl)) ?_
  intro W base args ds gs before hval0 hW hcnd _
  exact lifted_polys _ Tryz.f3 Tryz.params3 rfl enc _ rfl (fun _ _ => rfl) (fun A la ca p B lb cb q w h h' => law_subres A la ca p B lb cb q w h h') W args ds gs before hval0 hW

theorem unidivSubresultants_holds : Rows.UnidivSubresultantsSaid :=
  OpenClaim.holds_of_wide 3 Tryz.f3 rfl rfl rfl rfl rfl rfl rfl ⟨rfl, rfl, rfl, rfl, rfl⟩ rfl rfl rfl rfl rfl (by kernel_rfl) Tryz.func3 (by kernel_rfl)
    (of_decide_eq_true (by kernel_rfl)) (by unfold Func.isWrapper; first | (rw [if_pos (by decide +kernel)]; kernel_rfl) | (rw [if_neg (by decide +kernel)]; exact ⟨rfl, rfl⟩))
    (fun os started H enc _ => subres_lifted os started H enc)
#print axioms unidivSubresultants_holds
end Go.Proofs.YtgblfpkfapmlnaaGreat
