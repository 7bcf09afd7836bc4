/- For every pair of int8s and every slice of int16s the law RootboundHolds returns true and its arguments read as before: a known rational root lies below the bounds of Cauchy, Log and Laguerre, and above Lower. No condition. -/
import Derived.Test.YtfpliceenjbclaaRowP
import Derived.Test.YtfpliceenjbclaaHolL
namespace Go.Proofs.Ytfpliceenjbclaa
open Go.ChangeShapes Go.WideShapes Go.ChangeAt Go.RowKit

set_option maxRecDepth 100000 in
theorem holds_lifted (os : Os) (started : os.Started) (H : Type) (enc : TypeId × Value → H) :
    ReturnsInHanded {} Try.checked os 9 .any (Rows.rootboundHoldsSpec.pre6 enc Try.prog Try.f9 Rows.rootboundHoldsRow.domain false) (Rows.rootboundHoldsSpec.post enc Try.prog Try.f9 false true false false) := by
  refine returnsInHanded_of_change (C := Try.checked) Try.own started (by kernel_rfl) Try.func9
    (ChangeSpec.witness6 (enc := enc) (C := Try.checked) false ⟨#[], #[.agg #[.int .i8 0, .int .i8 0], .slice none 0 0], []⟩ 8 (by kernel_rfl) (by kernel_rfl) (by kernel_rfl) (by kernel_rfl)) ?_
  intro W base args ds gs before hval0 hW hcnd _
  exact lifted_pair16 _ Try.f9 Try.params9 rfl enc _ rfl (fun _ _ => rfl) (fun q0 q1 A len cap p w h0 h1 h hl => law_holds q0 q1 A len cap p w h0 h1 h hl) W args ds gs before hval0 hW

theorem rootboundHolds_holds : Rows.RootboundHoldsSaid :=
  OpenClaim.holds_of_wide 9 Try.f9 rfl rfl rfl rfl rfl rfl rfl ⟨rfl, rfl, rfl, rfl, rfl⟩ rfl rfl rfl rfl rfl (by kernel_rfl) Try.func9 (by kernel_rfl)
    (of_decide_eq_true (by kernel_rfl)) (by unfold Func.isWrapper; first | (rw [if_pos (by decide +kernel)]; kernel_rfl) | (rw [if_neg (by decide +kernel)]; exact ⟨rfl, rfl⟩))
    (fun os started H enc _ => holds_lifted os started H enc)
#print axioms rootboundHolds_holds
end Go.Proofs.Ytfpliceenjbclaa
