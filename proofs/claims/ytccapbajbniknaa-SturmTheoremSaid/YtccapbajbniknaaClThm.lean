/- For every slice of int16s and any two pairs of int8s the law SturmTheorem returns true and its arguments read as before: the number of roots between two numbers at which the polynomial is not 0 is the difference of the sign changes of its Sturm chain there, and the number of all roots that between the ends of the line. No condition. -/
import Derived.Test.YtccapbajbniknaaRowT
import Derived.Test.YtccapbajbniknaaThL
namespace Go.Proofs.Ytccapbajbniknaa
open Go.ChangeShapes Go.WideShapes Go.ChangeAt Go.RowKit

set_option maxRecDepth 100000 in
theorem theorem_lifted (os : Os) (started : os.Started) (H : Type) (enc : TypeId × Value → H) :
    ReturnsInHanded {} Try.checked os 5 .any (Rows.sturmTheoremSpec.pre6 enc Try.prog Try.f5 Rows.sturmTheoremRow.domain false) (Rows.sturmTheoremSpec.post enc Try.prog Try.f5 false true false false) := by
  refine returnsInHanded_of_change (C := Try.checked) Try.own started (by kernel_rfl) Try.func5
    (ChangeSpec.witness6 (enc := enc) (C := Try.checked) false ⟨#[], #[.slice none 0 0, .agg #[.int .i8 0, .int .i8 0], .agg #[.int .i8 0, .int .i8 0]], []⟩ 8 (by kernel_rfl) (by kernel_rfl) (by kernel_rfl) (by kernel_rfl)) ?_
  intro W base args ds gs before hval0 hW hcnd _
  exact lifted_s16pp _ Try.f5 Try.params5 rfl enc _ rfl (fun _ _ _ => rfl) (fun A len cap p q0 q1 q2 q3 w h hl a b c d => law_theorem A len cap p q0 q1 q2 q3 w h hl a b c d) W args ds gs before hval0 hW

theorem sturmTheorem_holds : Rows.SturmTheoremSaid :=
  OpenClaim.holds_of_wide 5 Try.f5 rfl rfl rfl rfl rfl rfl rfl ⟨rfl, rfl, rfl, rfl, rfl⟩ rfl rfl rfl rfl rfl (by kernel_rfl) Try.func5 (by kernel_rfl)
    (of_decide_eq_true (by kernel_rfl)) (by unfold Func.isWrapper; first | (rw [if_pos (by decide +kernel)]; kernel_rfl) | (rw [if_neg (by decide +kernel)]; exact ⟨rfl, rfl⟩))
    (fun os started H enc _ => theorem_lifted os started H enc)
#print axioms sturmTheorem_holds
end Go.Proofs.Ytccapbajbniknaa
