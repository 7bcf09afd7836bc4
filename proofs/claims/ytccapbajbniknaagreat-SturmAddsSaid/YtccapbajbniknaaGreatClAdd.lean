/- For any two slices of int16s and any three pairs of int8s the law SturmAdds returns true and its arguments read as before: counts and queries add up over neighbouring intervals, Signs adds up to All, the query for 1 is the count, the square-free part counts as the polynomial, and Below with a count is at most All. No condition. -/
import Derived.Test.YtccapbajbniknaaGreatRowW
import Derived.Test.YtccapbajbniknaaGreatAdL
namespace Go.Proofs.YtccapbajbniknaaGreat
open Go.ChangeShapes Go.WideShapes Go.ChangeAt Go.RowKit

set_option maxRecDepth 100000 in
theorem adds_lifted (os : Os) (started : os.Started) (H : Type) (enc : TypeId × Value → H) :
    ReturnsInHanded {} Tryz.checked os 7 .any (Rows.sturmAddsSpec.pre6 enc Tryz.prog Tryz.f7 Rows.sturmAddsRow.domain false) (Rows.sturmAddsSpec.post enc Tryz.prog Tryz.f7 false true false false) := by
  refine returnsInHanded_of_change (C := Tryz.checked) Tryz.own started (by kernel_rfl) Tryz.func7
    (ChangeSpec.witness6 (enc := enc) (C := Tryz.checked) false ⟨#[], #[.slice none 0 0, .slice none 0 0, .agg #[.int .i8 0, .int .i8 0, .int .i8 0, .int .i8 0, .int .i8 0, .int .i8 0]], []⟩ 8 (by kernel_rfl) (by kernel_rfl) (by kernel_rfl) (by kernel_rfl)) ?_
  intro W base args ds gs before hval0 hW hcnd _
  exact lifted_two16six _ Tryz.f7 Tryz.params7 rfl enc _ rfl (fun _ _ _ => rfl) (fun A la ca p B lb cb q q0 q1 q2 q3 q4 q5 w h1 h2 hl hl2 a b c d e f => law_adds A la ca p B lb cb q q0 q1 q2 q3 q4 q5 w h1 h2 hl hl2 a b c d e f) W args ds gs before hval0 hW

theorem sturmAdds_holds : Rows.SturmAddsSaid :=
  OpenClaim.holds_of_wide 7 Tryz.f7 rfl rfl rfl rfl rfl rfl rfl ⟨rfl, rfl, rfl, rfl, rfl⟩ rfl rfl rfl rfl rfl (by kernel_rfl) Tryz.func7 (by kernel_rfl)
    (of_decide_eq_true (by kernel_rfl)) (by unfold Func.isWrapper; first | (rw [if_pos (by decide +kernel)]; kernel_rfl) | (rw [if_neg (by decide +kernel)]; exact ⟨rfl, rfl⟩))
    (fun os started H enc _ => adds_lifted os started H enc)
#print axioms sturmAdds_holds
end Go.Proofs.YtccapbajbniknaaGreat
