/- For every two polynomials the law UnidivXgcd returns true and its arguments read as before: d = u f + v g, d is the greatest common divisor up to a factor with a positive lead, and the cofactors have small degrees. No condition. -/
import Derived.Test.YtjmglmgokfcgoaaRowQ
import Derived.Test.YtjmglmgokfcgoaaXgL
namespace Go.Proofs.Ytjmglmgokfcgoaa
open Go.ChangeShapes Go.WideShapes Go.ChangeAt Go.RowKit
set_option maxRecDepth 100000 in
theorem xgcd_lifted (os:Os) (started:os.Started) (H:Type) (enc:TypeId×Value→H) :
  ReturnsInHanded {} Try.checked os 3 .any (Rows.unidivXgcdSpec.pre6 enc Try.prog Try.f3 Rows.unidivXgcdRow.domain false) (Rows.unidivXgcdSpec.post enc Try.prog Try.f3 false true false false):=by
 refine returnsInHanded_of_change (C:=Try.checked) Try.own started (by kernel_rfl) Try.func3
  (ChangeSpec.witness6 (enc:=enc) (C:=Try.checked) false ⟨#[],#[.slice none 0 0,.slice none 0 0],[]⟩ 8 (by kernel_rfl) (by kernel_rfl) (by kernel_rfl) (by kernel_rfl)) ?_
 intro W base args ds gs before hval0 hW hcnd _
 exact lifted_polys _ Try.f3 Try.params3 rfl enc _ rfl (fun _ _=>rfl) (fun A la ca p B lb cb q w h h'=>law_xgcd A la ca p B lb cb q w h h') W args ds gs before hval0 hW
theorem unidivXgcd_holds:Rows.UnidivXgcdSaid :=
 OpenClaim.holds_of_wide 3 Try.f3 rfl rfl rfl rfl rfl rfl rfl ⟨rfl,rfl,rfl,rfl,rfl⟩ rfl rfl rfl rfl rfl (by kernel_rfl) Try.func3 (by kernel_rfl)
  (of_decide_eq_true (by kernel_rfl)) (by unfold Func.isWrapper;first | (rw [if_pos (by decide +kernel)];kernel_rfl) | (rw [if_neg (by decide +kernel)];exact ⟨rfl,rfl⟩))
  (fun os started H enc _=>xgcd_lifted os started H enc)
#print axioms unidivXgcd_holds
end Go.Proofs.Ytjmglmgokfcgoaa
