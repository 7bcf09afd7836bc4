/- For every two slices of int16s the law SturmChains returns true and its arguments read as before: the chain that the program makes has the signs that the chain of Euclid's remainders has. No condition. -/
import Derived.Test.YtdihefmjfnlpcaaRowC
import Derived.Test.YtdihefmjfnlpcaaChl
namespace Go.Proofs.Ytdihefmjfnlpcaa
open Go.ChangeShapes Go.WideShapes Go.ChangeAt Go.RowKit

set_option maxRecDepth 100000 in
theorem chains_lifted (os : Os) (started : os.Started) (H : Type) (enc : TypeId × Value → H) :
    ReturnsInHanded {} Try.checked os 3 .any (Rows.sturmChainsSpec.pre6 enc Try.prog Try.f3 Rows.sturmChainsRow.domain false) (Rows.sturmChainsSpec.post enc Try.prog Try.f3 false true false false) := by
  refine returnsInHanded_of_change (C := Try.checked) Try.own started (by kernel_rfl) Try.func3
    (ChangeSpec.witness6 (enc := enc) (C := Try.checked) false ⟨#[], #[.slice none 0 0, .slice none 0 0], []⟩ 8 (by kernel_rfl) (by kernel_rfl) (by kernel_rfl) (by kernel_rfl)) ?_
  intro W base args ds gs before hval0 hW hcnd _
  exact lifted_two16 _ Try.f3 Try.params3 rfl enc _ rfl (fun _ _ => rfl) (fun A la ca p B lb cb q w h h' hla hlb => law_chains A la ca p B lb cb q w h h' hla hlb) W args ds gs before hval0 hW

theorem sturmChains_holds : Rows.SturmChainsSaid :=
  OpenClaim.holds_of_wide 3 Try.f3 rfl rfl rfl rfl rfl rfl rfl ⟨rfl, rfl, rfl, rfl, rfl⟩ rfl rfl rfl rfl rfl (by kernel_rfl) Try.func3 (by kernel_rfl)
    (of_decide_eq_true (by kernel_rfl)) (by unfold Func.isWrapper; first | (rw [if_pos (by decide +kernel)]; kernel_rfl) | (rw [if_neg (by decide +kernel)]; exact ⟨rfl, rfl⟩))
    (fun os started H enc _ => chains_lifted os started H enc)
#print axioms sturmChains_holds
end Go.Proofs.Ytdihefmjfnlpcaa
