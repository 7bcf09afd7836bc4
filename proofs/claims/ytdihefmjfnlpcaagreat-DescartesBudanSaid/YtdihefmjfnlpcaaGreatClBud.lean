/- For every slice of int16s and every triple of int8s the law DescartesBudan returns true and its arguments read as before: Budan's count is the difference of the sign changes of the shifted polynomials, and additive. No condition. -/
import Derived.Test.YtdihefmjfnlpcaaGreatRowB
import Derived.Test.YtdihefmjfnlpcaaGreatBul
namespace Go.Proofs.YtdihefmjfnlpcaaGreat
open Go.ChangeShapes Go.WideShapes Go.ChangeAt Go.RowKit

set_option maxRecDepth 100000 in
theorem budan_lifted (os : Os) (started : os.Started) (H : Type) (enc : TypeId × Value → H) :
    ReturnsInHanded {} Tryz.checked os 6 .any (Rows.descartesBudanSpec.pre6 enc Tryz.prog Tryz.f6 Rows.descartesBudanRow.domain false) (Rows.descartesBudanSpec.post enc Tryz.prog Tryz.f6 false true false false) := by
  refine returnsInHanded_of_change (C := Tryz.checked) Tryz.own started (by kernel_rfl) Tryz.func6
    (ChangeSpec.witness6 (enc := enc) (C := Tryz.checked) false ⟨#[], #[.slice none 0 0, .agg #[.int .i8 0, .int .i8 0, .int .i8 0]], []⟩ 8 (by kernel_rfl) (by kernel_rfl) (by kernel_rfl) (by kernel_rfl)) ?_
  intro W base args ds gs before hval0 hW hcnd _
  exact lifted_tri16 _ Tryz.f6 Tryz.params6 rfl enc _ rfl (fun _ _ => rfl) (fun A len cap p q0 q1 q2 w h hl a b c => law_budan A len cap p q0 q1 q2 w h hl a b c) W args ds gs before hval0 hW

theorem descartesBudan_holds : Rows.DescartesBudanSaid :=
  OpenClaim.holds_of_wide 6 Tryz.f6 rfl rfl rfl rfl rfl rfl rfl ⟨rfl, rfl, rfl, rfl, rfl⟩ rfl rfl rfl rfl rfl (by kernel_rfl) Tryz.func6 (by kernel_rfl)
    (of_decide_eq_true (by kernel_rfl)) (by unfold Func.isWrapper; first | (rw [if_pos (by decide +kernel)]; kernel_rfl) | (rw [if_neg (by decide +kernel)]; exact ⟨rfl, rfl⟩))
    (fun os started H enc _ => budan_lifted os started H enc)
#print axioms descartesBudan_holds
end Go.Proofs.YtdihefmjfnlpcaaGreat
