/- For every slice of int16s the law RootboundVariations returns true and its argument reads as before: Variations and Norm of the program are those of the reference. No condition. -/
import Derived.Test.YtfpliceenjbclaaRow
import Derived.Test.YtfpliceenjbclaaRbH
namespace Go.Proofs.Ytfpliceenjbclaa
open Go.ChangeShapes Go.WideShapes Go.ChangeAt Go.RowKit

set_option maxRecDepth 100000 in
theorem variations_lifted (os : Os) (started : os.Started) (H : Type) (enc : TypeId × Value → H) :
    ReturnsInHanded {} Try.checked os 4 .any (Rows.rootboundVariationsSpec.pre6 enc Try.prog Try.f4 Rows.rootboundVariationsRow.domain false) (Rows.rootboundVariationsSpec.post enc Try.prog Try.f4 false true false false) := by
  refine returnsInHanded_of_change (C := Try.checked) Try.own started (by kernel_rfl) Try.func4
    (ChangeSpec.witness6 (enc := enc) (C := Try.checked) false ⟨#[], #[.slice none 0 0], []⟩ 8 (by kernel_rfl) (by kernel_rfl) (by kernel_rfl) (by kernel_rfl)) ?_
  intro W base args ds gs before hval0 hW hcnd _
  exact lifted_i16 _ Try.f4 Try.params4 rfl enc _ rfl (fun _ => rfl) (fun A len cap p w h hl => law_variations A len cap p w h hl) W args ds gs before hval0 hW

theorem rootboundVariations_holds : Rows.RootboundVariationsSaid :=
  OpenClaim.holds_of_wide 4 Try.f4 rfl rfl rfl rfl rfl rfl rfl ⟨rfl, rfl, rfl, rfl, rfl⟩ rfl rfl rfl rfl rfl (by kernel_rfl) Try.func4 (by kernel_rfl)
    (of_decide_eq_true (by kernel_rfl)) (by unfold Func.isWrapper; first | (rw [if_pos (by decide +kernel)]; kernel_rfl) | (rw [if_neg (by decide +kernel)]; exact ⟨rfl, rfl⟩))
    (fun os started H enc _ => variations_lifted os started H enc)
#print axioms rootboundVariations_holds
end Go.Proofs.Ytfpliceenjbclaa
