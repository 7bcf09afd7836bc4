/- The walks of sturm.VariationsEnd, lostOnLine and, at x^2 - 2, of All and of awake of chapter 15. -/
import Derived.Test.YtphmkdmflopcdaaGreatSta
import Derived.Test.YtphmkdmflopcdaaGreatOwp
import Derived.Test.YtphmkdmflopcdaaGreatDer
import Derived.Test.YtphmkdmflopcdaaGreatPart
namespace Go.Proofs.YtphmkdmflopcdaaGreat
open Go.RowKit
end Go.Proofs.YtphmkdmflopcdaaGreat
namespace Go.Proofs.YtphmkdmflopcdaaGreat
open Go.RowKit
end Go.Proofs.YtphmkdmflopcdaaGreat
namespace Go.Proofs.YtphmkdmflopcdaaGreat
open Go.RowKit
theorem w2_at (w:World):I64At (w.alloc (.cells #[.int .i64 (-2),.int .i64 0,.int .i64 1] 2)) (some ⟨w.heap.size,0,none⟩) 3 3 w2:=by
 refine ⟨rfl,by omega,.inr ⟨w.heap.size,0,rfl,by simp,fun j hj=>?_⟩⟩
 match j,hj with
 | 0,_=>simp[w2]
 | 1,_=>simp[w2]
 | 2,_=>simp[w2]
end Go.Proofs.YtphmkdmflopcdaaGreat
