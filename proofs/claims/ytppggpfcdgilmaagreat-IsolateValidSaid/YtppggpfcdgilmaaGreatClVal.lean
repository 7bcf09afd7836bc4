/- For any slice of int16s and any pair of pairs of int8s the law IsolateValid returns true and its arguments read as before: isolate.Valid says whether two numbers isolate a root of a polynomial with up to 7 coefficients. No condition. -/
import Derived.Test.YtppggpfcdgilmaaGreatRowX
import Derived.Test.YtppggpfcdgilmaaGreatVdL
namespace Go.Proofs.YtppggpfcdgilmaaGreat
open Go.ChangeShapes Go.WideShapes Go.ChangeAt Go.RowKit

set_option maxRecDepth 100000 in
theorem valid_lifted (os : Os) (started : os.Started) (H : Type) (enc : TypeId × Value → H) :
    ReturnsInHanded {} Tryz.checked os 3 .any (Rows.isolateValidSpec.pre6 enc Tryz.prog Tryz.f3 Rows.isolateValidRow.domain false) (Rows.isolateValidSpec.post enc Tryz.prog Tryz.f3 false true false false) := by
  refine returnsInHanded_of_change (C := Tryz.checked) Tryz.own started (by kernel_rfl) Tryz.func3
    (ChangeSpec.witness6 (enc := enc) (C := Tryz.checked) false ⟨#[], #[.slice none 0 0, .agg #[.int .i8 0, .int .i8 0, .int .i8 0, .int .i8 0]], []⟩ 8 (by kernel_rfl) (by kernel_rfl) (by kernel_rfl) (by kernel_rfl)) ?_
  intro W base args ds gs before hval0 hW hcnd _
  exact lifted_s16four _ Tryz.f3 Tryz.params3 rfl enc _ rfl (fun _ _ => rfl) (fun A la ca p q0 q1 q2 q3 w h1 hl a b c d => law_valid A la ca p q0 q1 q2 q3 w h1 hl a b c d) W args ds gs before hval0 hW

theorem isolateValid_holds : Rows.IsolateValidSaid :=
  OpenClaim.holds_of_wide 3 Tryz.f3 rfl rfl rfl rfl rfl rfl rfl ⟨rfl, rfl, rfl, rfl, rfl⟩ rfl rfl rfl rfl rfl (by kernel_rfl) Tryz.func3 (by kernel_rfl)
    (of_decide_eq_true (by kernel_rfl)) (by unfold Func.isWrapper; first | (rw [if_pos (by decide +kernel)]; kernel_rfl) | (rw [if_neg (by decide +kernel)]; exact ⟨rfl, rfl⟩))
    (fun os started H enc _ => valid_lifted os started H enc)
#print axioms isolateValid_holds
end Go.Proofs.YtppggpfcdgilmaaGreat
