/- For any three slices of int16s the law SturmIndex returns true and its arguments read as before: the Cauchy index is the difference of the sign changes of the chain between the ends of the line, it stays when both polynomials are multiplied, changes its sign with the numerator, and that of f'g over f is the Tarski query. No condition. -/
import Derived.Test.YtccapbajbniknaaRowU
import Derived.Test.YtccapbajbniknaaIxL
namespace Go.Proofs.Ytccapbajbniknaa
open Go.ChangeShapes Go.WideShapes Go.ChangeAt Go.RowKit

set_option maxRecDepth 100000 in
theorem index_lifted (os : Os) (started : os.Started) (H : Type) (enc : TypeId × Value → H) :
    ReturnsInHanded {} Try.checked os 4 .any (Rows.sturmIndexSpec.pre6 enc Try.prog Try.f4 Rows.sturmIndexRow.domain false) (Rows.sturmIndexSpec.post enc Try.prog Try.f4 false true false false) := by
  refine returnsInHanded_of_change (C := Try.checked) Try.own started (by kernel_rfl) Try.func4
    (ChangeSpec.witness6 (enc := enc) (C := Try.checked) false ⟨#[], #[.slice none 0 0, .slice none 0 0, .slice none 0 0], []⟩ 8 (by kernel_rfl) (by kernel_rfl) (by kernel_rfl) (by kernel_rfl)) ?_
  intro W base args ds gs before hval0 hW hcnd _
  exact lifted_three16 _ Try.f4 Try.params4 rfl enc _ rfl (fun _ _ _ => rfl) (fun A la ca p B lb cb q C lc cc r w h1 h2 h3 a b c => law_index A la ca p B lb cb q C lc cc r w h1 h2 h3 a b c) W args ds gs before hval0 hW

theorem sturmIndex_holds : Rows.SturmIndexSaid :=
  OpenClaim.holds_of_wide 4 Try.f4 rfl rfl rfl rfl rfl rfl rfl ⟨rfl, rfl, rfl, rfl, rfl⟩ rfl rfl rfl rfl rfl (by kernel_rfl) Try.func4 (by kernel_rfl)
    (of_decide_eq_true (by kernel_rfl)) (by unfold Func.isWrapper; first | (rw [if_pos (by decide +kernel)]; kernel_rfl) | (rw [if_neg (by decide +kernel)]; exact ⟨rfl, rfl⟩))
    (fun os started H enc _ => index_lifted os started H enc)
#print axioms sturmIndex_holds
end Go.Proofs.Ytccapbajbniknaa
