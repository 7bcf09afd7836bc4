/- For any two slices of int16s and any pair of pairs of int8s the law SturmTarski returns true and its arguments read as before: the Tarski query is the difference of the sign changes of the chain of f and f'g, over the whole line and between two numbers at which f is not 0. No condition. -/
import Derived.Test.YtccapbajbniknaaRowV
import Derived.Test.YtccapbajbniknaaTaL
namespace Go.Proofs.Ytccapbajbniknaa
open Go.ChangeShapes Go.WideShapes Go.ChangeAt Go.RowKit

set_option maxRecDepth 100000 in
theorem tarski_lifted (os : Os) (started : os.Started) (H : Type) (enc : TypeId × Value → H) :
    ReturnsInHanded {} Try.checked os 6 .any (Rows.sturmTarskiSpec.pre6 enc Try.prog Try.f6 Rows.sturmTarskiRow.domain false) (Rows.sturmTarskiSpec.post enc Try.prog Try.f6 false true false false) := by
  refine returnsInHanded_of_change (C := Try.checked) Try.own started (by kernel_rfl) Try.func6
    (ChangeSpec.witness6 (enc := enc) (C := Try.checked) false ⟨#[], #[.slice none 0 0, .slice none 0 0, .agg #[.int .i8 0, .int .i8 0, .int .i8 0, .int .i8 0]], []⟩ 8 (by kernel_rfl) (by kernel_rfl) (by kernel_rfl) (by kernel_rfl)) ?_
  intro W base args ds gs before hval0 hW hcnd _
  exact lifted_two16four _ Try.f6 Try.params6 rfl enc _ rfl (fun _ _ _ => rfl) (fun A la ca p B lb cb q q0 q1 q2 q3 w h1 h2 hl hl2 a b c d => law_tarski A la ca p B lb cb q q0 q1 q2 q3 w h1 h2 hl hl2 a b c d) W args ds gs before hval0 hW

theorem sturmTarski_holds : Rows.SturmTarskiSaid :=
  OpenClaim.holds_of_wide 6 Try.f6 rfl rfl rfl rfl rfl rfl rfl ⟨rfl, rfl, rfl, rfl, rfl⟩ rfl rfl rfl rfl rfl (by kernel_rfl) Try.func6 (by kernel_rfl)
    (of_decide_eq_true (by kernel_rfl)) (by unfold Func.isWrapper; first | (rw [if_pos (by decide +kernel)]; kernel_rfl) | (rw [if_neg (by decide +kernel)]; exact ⟨rfl, rfl⟩))
    (fun os started H enc _ => tarski_lifted os started H enc)
#print axioms sturmTarski_holds
end Go.Proofs.Ytccapbajbniknaa
