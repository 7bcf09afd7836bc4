/- For every slice of int16s the law DescartesSides returns true and its argument reads as before: Positive and Negative count the sign changes of f and f(-x), together not more than the degree if the constant coefficient is not 0. No condition. -/
import Derived.Test.YtdihefmjfnlpcaaGreatRow
import Derived.Test.YtdihefmjfnlpcaaGreatSil
namespace Go.Proofs.YtdihefmjfnlpcaaGreat
open Go.ChangeShapes Go.WideShapes Go.ChangeAt Go.RowKit

set_option maxRecDepth 100000 in
theorem sides_lifted (os : Os) (started : os.Started) (H : Type) (enc : TypeId × Value → H) :
    ReturnsInHanded {} Tryz.checked os 3 .any (Rows.descartesSidesSpec.pre6 enc Tryz.prog Tryz.f3 Rows.descartesSidesRow.domain false) (Rows.descartesSidesSpec.post enc Tryz.prog Tryz.f3 false true false false) := by
  refine returnsInHanded_of_change (C := Tryz.checked) Tryz.own started (by kernel_rfl) Tryz.func3
    (ChangeSpec.witness6 (enc := enc) (C := Tryz.checked) false ⟨#[], #[.slice none 0 0], []⟩ 8 (by kernel_rfl) (by kernel_rfl) (by kernel_rfl) (by kernel_rfl)) ?_
  intro W base args ds gs before hval0 hW hcnd _
  exact lifted_i16 _ Tryz.f3 Tryz.params3 rfl enc _ rfl (fun _ => rfl) (fun A len cap p w h hl => law_sides A len cap p w h hl) W args ds gs before hval0 hW

theorem descartesSides_holds : Rows.DescartesSidesSaid :=
  OpenClaim.holds_of_wide 3 Tryz.f3 rfl rfl rfl rfl rfl rfl rfl ⟨rfl, rfl, rfl, rfl, rfl⟩ rfl rfl rfl rfl rfl (by kernel_rfl) Tryz.func3 (by kernel_rfl)
    (of_decide_eq_true (by kernel_rfl)) (by unfold Func.isWrapper; first | (rw [if_pos (by decide +kernel)]; kernel_rfl) | (rw [if_neg (by decide +kernel)]; exact ⟨rfl, rfl⟩))
    (fun os started H enc _ => sides_lifted os started H enc)
#print axioms descartesSides_holds
end Go.Proofs.YtdihefmjfnlpcaaGreat
