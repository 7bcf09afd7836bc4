/- For every slice of int16s the law IsolateCompletes returns true and its argument reads as before: isolate.Roots finds one interval for each real root, in order, and Complete accepts the list. No condition. -/
import Derived.Test.YtppggpfcdgilmaaGreatRowP
import Derived.Test.YtppggpfcdgilmaaGreatCpm
namespace Go.Proofs.YtppggpfcdgilmaaGreat
open Go.ChangeShapes Go.WideShapes Go.ChangeAt Go.RowKit

set_option maxRecDepth 100000 in
theorem completes_lifted (os : Os) (started : os.Started) (H : Type) (enc : TypeId × Value → H) :
    ReturnsInHanded {} Tryz.checked os 6 .any (Rows.isolateCompletesSpec.pre6 enc Tryz.prog Tryz.f6 Rows.isolateCompletesRow.domain false) (Rows.isolateCompletesSpec.post enc Tryz.prog Tryz.f6 false true false false) := by
  refine returnsInHanded_of_change (C := Tryz.checked) Tryz.own started (by kernel_rfl) Tryz.func6
    (ChangeSpec.witness6 (enc := enc) (C := Tryz.checked) false ⟨#[], #[.slice none 0 0], []⟩ 8 (by kernel_rfl) (by kernel_rfl) (by kernel_rfl) (by kernel_rfl)) ?_
  intro W base args ds gs before hval0 hW hcnd _
  exact lifted_i16 _ Tryz.f6 Tryz.params6 rfl enc _ rfl (fun _ => rfl) (fun A len cap p w h hl => law_completes A len cap p w h hl) W args ds gs before hval0 hW

theorem isolateCompletes_holds : Rows.IsolateCompletesSaid :=
  OpenClaim.holds_of_wide 6 Tryz.f6 rfl rfl rfl rfl rfl rfl rfl ⟨rfl, rfl, rfl, rfl, rfl⟩ rfl rfl rfl rfl rfl (by kernel_rfl) Tryz.func6 (by kernel_rfl)
    (of_decide_eq_true (by kernel_rfl)) (by unfold Func.isWrapper; first | (rw [if_pos (by decide +kernel)]; kernel_rfl) | (rw [if_neg (by decide +kernel)]; exact ⟨rfl, rfl⟩))
    (fun os started H enc _ => completes_lifted os started H enc)
#print axioms isolateCompletes_holds
end Go.Proofs.YtppggpfcdgilmaaGreat
