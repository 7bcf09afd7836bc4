/- For every two pairs of int8s and every slice of int16s the law RootboundApart returns true and its arguments read as before: two different rational roots of the product of their lines and the polynomial are farther apart than 2 to the minus Separation. No condition. -/
import Derived.Test.YtjoenabcjioncaaRowO
import Derived.Test.YtjoenabcjioncaaApl
namespace Go.Proofs.Ytjoenabcjioncaa
open Go.ChangeShapes Go.WideShapes Go.ChangeAt Go.RowKit

set_option maxRecDepth 100000 in
theorem apart_lifted (os : Os) (started : os.Started) (H : Type) (enc : TypeId × Value → H) :
    ReturnsInHanded {} Try.checked os 3 .any (Rows.rootboundApartSpec.pre6 enc Try.prog Try.f3 Rows.rootboundApartRow.domain false) (Rows.rootboundApartSpec.post enc Try.prog Try.f3 false true false false) := by
  refine returnsInHanded_of_change (C := Try.checked) Try.own started (by kernel_rfl) Try.func3
    (ChangeSpec.witness6 (enc := enc) (C := Try.checked) false ⟨#[], #[.agg #[.int .i8 0, .int .i8 0], .agg #[.int .i8 0, .int .i8 0], .slice none 0 0], []⟩ 8 (by kernel_rfl) (by kernel_rfl) (by kernel_rfl) (by kernel_rfl)) ?_
  intro W base args ds gs before hval0 hW hcnd _
  exact lifted_pairs16 _ Try.f3 Try.params3 rfl enc _ rfl (fun _ _ _ => rfl) (fun q0 q1 q2 q3 A len cap p w h hl a b c d => law_apart q0 q1 q2 q3 A len cap p w h hl a b c d) W args ds gs before hval0 hW

theorem rootboundApart_holds : Rows.RootboundApartSaid :=
  OpenClaim.holds_of_wide 3 Try.f3 rfl rfl rfl rfl rfl rfl rfl ⟨rfl, rfl, rfl, rfl, rfl⟩ rfl rfl rfl rfl rfl (by kernel_rfl) Try.func3 (by kernel_rfl)
    (of_decide_eq_true (by kernel_rfl)) (by unfold Func.isWrapper; first | (rw [if_pos (by decide +kernel)]; kernel_rfl) | (rw [if_neg (by decide +kernel)]; exact ⟨rfl, rfl⟩))
    (fun os started H enc _ => apart_lifted os started H enc)
#print axioms rootboundApart_holds
end Go.Proofs.Ytjoenabcjioncaa
