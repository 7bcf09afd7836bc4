/- What the law SturmChains compares; the walk of its function signed. -/
import Derived.Test.YtphmkdmflopcdaaGreatStd
import Derived.Test.YtphmkdmflopcdaaGreatPart
namespace Go.Proofs.YtphmkdmflopcdaaGreat
open Go.RowKit
noncomputable def CB:Nat:=Classical.choose (⟨2700000,rfl⟩:∃ n:Nat,n=2700000)
theorem CB_eq:CB=2700000:=Classical.choose_spec (⟨2700000,rfl⟩:∃ n:Nat,n=2700000)
end Go.Proofs.YtphmkdmflopcdaaGreat
namespace Go.Proofs.YtphmkdmflopcdaaGreat
open Go.RowKit
theorem plen_one {c:Int} (h:c≠0):plen [c]=1:=by simp[plen,h]
end Go.Proofs.YtphmkdmflopcdaaGreat
