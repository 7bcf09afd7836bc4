/- The walks of unipoly.SignEnd and, of package sturm, changes, VariationsEnd, lostOnLine. -/
import Derived.Test.YtdihefmjfnlpcaaGreatStb
namespace Go.Proofs.YtdihefmjfnlpcaaGreat
open Go.RowKit

/-- the sign near an end of the line -/
def sge (m : Bool) (f : List Int) : Int := if m = true ∧ ¬ ((plen f : Nat) : Int).tmod 2 = 1 then -(sg (plead f)) else sg (plead f)
theorem sge_unit (m : Bool) (f : List Int) : sge m f = -1 ∨ sge m f = 0 ∨ sge m f = 1 := by
  unfold sge
  split <;> rcases sg_cases (plead f) with ⟨_, e⟩ | ⟨_, e⟩ | ⟨_, e⟩ <;> omega

/-- A list of signs. -/
def Sgn1 (S : List Int) : Prop := ∀ k, S.getD k 0 = -1 ∨ S.getD k 0 = 0 ∨ S.getD k 0 = 1

end Go.Proofs.YtdihefmjfnlpcaaGreat
