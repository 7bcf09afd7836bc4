/- For every slice of int16s the law RootboundLaguerre returns true and its argument reads as before: Laguerre of the program is that of the reference. No condition. -/
import Derived.Test.YtfpliceenjbclaaRow
import Derived.Test.YtfpliceenjbclaaLagL
namespace Go.Proofs.Ytfpliceenjbclaa
open Go.ChangeShapes Go.WideShapes Go.ChangeAt Go.RowKit

set_option maxRecDepth 100000 in
theorem laguerre_lifted (os : Os) (started : os.Started) (H : Type) (enc : TypeId × Value → H) :
    ReturnsInHanded {} Try.checked os 5 .any (Rows.rootboundLaguerreSpec.pre6 enc Try.prog Try.f5 Rows.rootboundLaguerreRow.domain false) (Rows.rootboundLaguerreSpec.post enc Try.prog Try.f5 false true false false) := by
  refine returnsInHanded_of_change (C := Try.checked) Try.own started (by kernel_rfl) Try.func5
    (ChangeSpec.witness6 (enc := enc) (C := Try.checked) false ⟨#[], #[.slice none 0 0], []⟩ 8 (by kernel_rfl) (by kernel_rfl) (by kernel_rfl) (by kernel_rfl)) ?_
  intro W base args ds gs before hval0 hW hcnd _
  exact lifted_i16 _ Try.f5 Try.params5 rfl enc _ rfl (fun _ => rfl) (fun A len cap p w h hl => law_laguerre A len cap p w h hl) W args ds gs before hval0 hW

theorem rootboundLaguerre_holds : Rows.RootboundLaguerreSaid :=
  OpenClaim.holds_of_wide 5 Try.f5 rfl rfl rfl rfl rfl rfl rfl ⟨rfl, rfl, rfl, rfl, rfl⟩ rfl rfl rfl rfl rfl (by kernel_rfl) Try.func5 (by kernel_rfl)
    (of_decide_eq_true (by kernel_rfl)) (by unfold Func.isWrapper; first | (rw [if_pos (by decide +kernel)]; kernel_rfl) | (rw [if_neg (by decide +kernel)]; exact ⟨rfl, rfl⟩))
    (fun os started H enc _ => laguerre_lifted os started H enc)
#print axioms rootboundLaguerre_holds
end Go.Proofs.Ytfpliceenjbclaa
