/- The end of a row whose arguments are a pair of int8s and a slice of int16s. -/
import Derived.Test.YtccapbajbniknaaGreatRow
import Derived.WideKeyPair
namespace Go.Proofs.YtccapbajbniknaaGreat
open Go.ChangeShapes Go.WideShapes Go.ChangeAt Go.RowKit
theorem i8_wf {n : Int} (h : (Lit.int .i8 n).wf = true) : -128 ≤ n ∧ n ≤ 127 := by
  have h1 : IntKind.i8.min = -128 := rfl
  have h2 : IntKind.i8.max = 127 := rfl
  simp only [Lit.wf, Bool.and_eq_true, decide_eq_true_eq] at h
  omega

end Go.Proofs.YtccapbajbniknaaGreat
