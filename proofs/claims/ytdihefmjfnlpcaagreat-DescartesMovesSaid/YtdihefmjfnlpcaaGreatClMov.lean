/- For every slice of int16s, every pair of pairs of int8s and every int16 the law DescartesMoves returns true and its arguments read as before: Mobius is primitive, of no greater degree, keeps its value at the middle and at the lower end up to a positive factor, and changes only its sign with that of the constant. No condition. -/
import Derived.Test.YtdihefmjfnlpcaaGreatRowM
import Derived.Test.YtdihefmjfnlpcaaGreatMvl
namespace Go.Proofs.YtdihefmjfnlpcaaGreat
open Go.ChangeShapes Go.WideShapes Go.ChangeAt Go.RowKit

set_option maxRecDepth 100000 in
theorem moves_lifted (os : Os) (started : os.Started) (H : Type) (enc : TypeId × Value → H) :
    ReturnsInHanded {} Tryz.checked os 5 .any (Rows.descartesMovesSpec.pre6 enc Tryz.prog Tryz.f5 Rows.descartesMovesRow.domain false) (Rows.descartesMovesSpec.post enc Tryz.prog Tryz.f5 false true false false) := by
  refine returnsInHanded_of_change (C := Tryz.checked) Tryz.own started (by kernel_rfl) Tryz.func5
    (ChangeSpec.witness6 (enc := enc) (C := Tryz.checked) false ⟨#[], #[.slice none 0 0, .agg #[.int .i8 0, .int .i8 0, .int .i8 0, .int .i8 0], .int .i16 0], []⟩ 8 (by kernel_rfl) (by kernel_rfl) (by kernel_rfl) (by kernel_rfl)) ?_
  intro W base args ds gs before hval0 hW hcnd _
  exact lifted_four16 _ Tryz.f5 Tryz.params5 rfl enc _ rfl (fun _ _ _ => rfl) (fun A len cap p q0 q1 q2 q3 n w h hl a b c d e => law_moves A len cap p q0 q1 q2 q3 n w h hl a b c d e) W args ds gs before hval0 hW

theorem descartesMoves_holds : Rows.DescartesMovesSaid :=
  OpenClaim.holds_of_wide 5 Tryz.f5 rfl rfl rfl rfl rfl rfl rfl ⟨rfl, rfl, rfl, rfl, rfl⟩ rfl rfl rfl rfl rfl (by kernel_rfl) Tryz.func5 (by kernel_rfl)
    (of_decide_eq_true (by kernel_rfl)) (by unfold Func.isWrapper; first | (rw [if_pos (by decide +kernel)]; kernel_rfl) | (rw [if_neg (by decide +kernel)]; exact ⟨rfl, rfl⟩))
    (fun os started H enc _ => moves_lifted os started H enc)
#print axioms descartesMoves_holds
end Go.Proofs.YtdihefmjfnlpcaaGreat
