/- For every slice of int16s the law RootboundCauchy returns true and its argument reads as before: Cauchy, Log and Lower of the program are those of the reference. No condition. -/
import Derived.Test.YtfpliceenjbclaaRow
import Derived.Test.YtfpliceenjbclaaCauL
namespace Go.Proofs.Ytfpliceenjbclaa
open Go.ChangeShapes Go.WideShapes Go.ChangeAt Go.RowKit

set_option maxRecDepth 100000 in
theorem cauchy_lifted (os : Os) (started : os.Started) (H : Type) (enc : TypeId × Value → H) :
    ReturnsInHanded {} Try.checked os 6 .any (Rows.rootboundCauchySpec.pre6 enc Try.prog Try.f6 Rows.rootboundCauchyRow.domain false) (Rows.rootboundCauchySpec.post enc Try.prog Try.f6 false true false false) := by
  refine returnsInHanded_of_change (C := Try.checked) Try.own started (by kernel_rfl) Try.func6
    (ChangeSpec.witness6 (enc := enc) (C := Try.checked) false ⟨#[], #[.slice none 0 0], []⟩ 8 (by kernel_rfl) (by kernel_rfl) (by kernel_rfl) (by kernel_rfl)) ?_
  intro W base args ds gs before hval0 hW hcnd _
  exact lifted_i16 _ Try.f6 Try.params6 rfl enc _ rfl (fun _ => rfl) (fun A len cap p w h hl => law_cauchy A len cap p w h hl) W args ds gs before hval0 hW

theorem rootboundCauchy_holds : Rows.RootboundCauchySaid :=
  OpenClaim.holds_of_wide 6 Try.f6 rfl rfl rfl rfl rfl rfl rfl ⟨rfl, rfl, rfl, rfl, rfl⟩ rfl rfl rfl rfl rfl (by kernel_rfl) Try.func6 (by kernel_rfl)
    (of_decide_eq_true (by kernel_rfl)) (by unfold Func.isWrapper; first | (rw [if_pos (by decide +kernel)]; kernel_rfl) | (rw [if_neg (by decide +kernel)]; exact ⟨rfl, rfl⟩))
    (fun os started H enc _ => cauchy_lifted os started H enc)
#print axioms rootboundCauchy_holds
end Go.Proofs.Ytfpliceenjbclaa
