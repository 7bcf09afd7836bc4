/- For every three polynomials the law UnidivExact returns true and its arguments read as before: a product is divided exactly, and Exact and Divides return the results or errors of the reference. No condition. -/
import Derived.Test.YtgblfpkfapmlnaaGreatRowR
import Derived.Test.YtgblfpkfapmlnaaGreatExL
namespace Go.Proofs.YtgblfpkfapmlnaaGreat
open Go.ChangeShapes Go.WideShapes Go.ChangeAt Go.RowKit

set_option maxRecDepth 100000 in
theorem exact_lifted (os : Os) (started : os.Started) (H : Type) (enc : TypeId × Value → H) :
    ReturnsInHanded {} Tryz.checked os 4 .any (Rows.unidivExactSpec.pre6 enc Tryz.prog Tryz.f4 Rows.unidivExactRow.domain false) (Rows.unidivExactSpec.post enc Tryz.prog Tryz.f4 false true false false) := by
  refine returnsInHanded_of_change (C := Tryz.checked) Tryz.own started (by kernel_rfl) Tryz.func4
    (ChangeSpec.witness6 (enc := enc) (C := Tryz.checked) false ⟨#[], #[.slice none 0 0, .slice none 0 0, .slice none 0 0], []⟩ 8 (by kernel_rfl) (by kernel_rfl) (by kernel_rfl) (by kernel_rfl)) ?_
  intro W base args ds gs before hval0 hW hcnd _
  exact lifted_polys3 _ Tryz.f4 Tryz.params4 rfl enc _ rfl (fun _ _ _ => rfl) (fun A la ca p B lb cb q C lc cc r w h h' h'' => law_exact A la ca p B lb cb q C lc cc r w h h' h'') W args ds gs before hval0 hW

theorem unidivExact_holds : Rows.UnidivExactSaid :=
  OpenClaim.holds_of_wide 4 Tryz.f4 rfl rfl rfl rfl rfl rfl rfl ⟨rfl, rfl, rfl, rfl, rfl⟩ rfl rfl rfl rfl rfl (by kernel_rfl) Tryz.func4 (by kernel_rfl)
    (of_decide_eq_true (by kernel_rfl)) (by unfold Func.isWrapper; first | (rw [if_pos (by decide +kernel)]; kernel_rfl) | (rw [if_neg (by decide +kernel)]; exact ⟨rfl, rfl⟩))
    (fun os started H enc _ => exact_lifted os started H enc)
#print axioms unidivExact_holds
end Go.Proofs.YtgblfpkfapmlnaaGreat
