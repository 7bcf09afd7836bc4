/- For every three slices of int16s and every pair of int8s the law SturmVariations returns true and its arguments read as before: Variations and VariationsEnd count the sign changes of the values that SignAt and SignEnd give. No condition. -/
import Derived.Test.YtdihefmjfnlpcaaRowS
import Derived.Test.YtdihefmjfnlpcaaSth
namespace Go.Proofs.Ytdihefmjfnlpcaa
open Go.ChangeShapes Go.WideShapes Go.ChangeAt Go.RowKit

set_option maxRecDepth 100000 in
theorem vars_lifted (os : Os) (started : os.Started) (H : Type) (enc : TypeId × Value → H) :
    ReturnsInHanded {} Try.checked os 4 .any (Rows.sturmVariationsSpec.pre6 enc Try.prog Try.f4 Rows.sturmVariationsRow.domain false) (Rows.sturmVariationsSpec.post enc Try.prog Try.f4 false true false false) := by
  refine returnsInHanded_of_change (C := Try.checked) Try.own started (by kernel_rfl) Try.func4
    (ChangeSpec.witness6 (enc := enc) (C := Try.checked) false ⟨#[], #[.agg #[.slice none 0 0, .slice none 0 0, .slice none 0 0], .agg #[.int .i8 0, .int .i8 0]], []⟩ 8 (by kernel_rfl) (by kernel_rfl) (by kernel_rfl) (by kernel_rfl)) ?_
  intro W base args ds gs before hval0 hW hcnd _
  exact lifted_three _ Try.f4 Try.params4 rfl enc _ rfl (fun _ _ => rfl) (fun AA LL CC PP q0 q1 w h h0 h1 => law_vars AA LL CC PP q0 q1 w h h0 h1) W args ds gs before hval0 hW

theorem sturmVariations_holds : Rows.SturmVariationsSaid :=
  OpenClaim.holds_of_wide 4 Try.f4 rfl rfl rfl rfl rfl rfl rfl ⟨rfl, rfl, rfl, rfl, rfl⟩ rfl rfl rfl rfl rfl (by kernel_rfl) Try.func4 (by kernel_rfl)
    (of_decide_eq_true (by kernel_rfl)) (by unfold Func.isWrapper; first | (rw [if_pos (by decide +kernel)]; kernel_rfl) | (rw [if_neg (by decide +kernel)]; exact ⟨rfl, rfl⟩))
    (fun os started H enc _ => vars_lifted os started H enc)
#print axioms sturmVariations_holds
end Go.Proofs.Ytdihefmjfnlpcaa
