/- For every slice of int8s and every two pairs of int8s the law DescartesMobius returns true and its arguments read as before: Mobius is the transformed primitive polynomial that the reference makes, and Variations the number of its sign changes. No condition. -/
import Derived.Test.YtdihefmjfnlpcaaGreatRowN
import Derived.Test.YtdihefmjfnlpcaaGreatMbx
namespace Go.Proofs.YtdihefmjfnlpcaaGreat
open Go.ChangeShapes Go.WideShapes Go.ChangeAt Go.RowKit

set_option maxRecDepth 100000 in
theorem mobius_lifted (os : Os) (started : os.Started) (H : Type) (enc : TypeId × Value → H) :
    ReturnsInHanded {} Tryz.checked os 4 .any (Rows.descartesMobiusSpec.pre6 enc Tryz.prog Tryz.f4 Rows.descartesMobiusRow.domain false) (Rows.descartesMobiusSpec.post enc Tryz.prog Tryz.f4 false true false false) := by
  refine returnsInHanded_of_change (C := Tryz.checked) Tryz.own started (by kernel_rfl) Tryz.func4
    (ChangeSpec.witness6 (enc := enc) (C := Tryz.checked) false ⟨#[], #[.slice none 0 0, .agg #[.int .i8 0, .int .i8 0], .agg #[.int .i8 0, .int .i8 0]], []⟩ 8 (by kernel_rfl) (by kernel_rfl) (by kernel_rfl) (by kernel_rfl)) ?_
  intro W base args ds gs before hval0 hW hcnd _
  exact lifted_pairs8 _ Tryz.f4 Tryz.params4 rfl enc _ rfl (fun _ _ _ => rfl) (fun A len cap p q0 q1 q2 q3 w h hl => law_mobius A len cap p q0 q1 q2 q3 w h hl) W args ds gs before hval0 hW

theorem descartesMobius_holds : Rows.DescartesMobiusSaid :=
  OpenClaim.holds_of_wide 4 Tryz.f4 rfl rfl rfl rfl rfl rfl rfl ⟨rfl, rfl, rfl, rfl, rfl⟩ rfl rfl rfl rfl rfl (by kernel_rfl) Tryz.func4 (by kernel_rfl)
    (of_decide_eq_true (by kernel_rfl)) (by unfold Func.isWrapper; first | (rw [if_pos (by decide +kernel)]; kernel_rfl) | (rw [if_neg (by decide +kernel)]; exact ⟨rfl, rfl⟩))
    (fun os started H enc _ => mobius_lifted os started H enc)
#print axioms descartesMobius_holds
end Go.Proofs.YtdihefmjfnlpcaaGreat
