/- The walks of unipoly.Neg and, of package sturm, reduced and negativeRemainder. -/
import Derived.Test.YtphmkdmflopcdaaGreatPsB
import Derived.Test.YtphmkdmflopcdaaGreatPow
namespace Go.Proofs.YtphmkdmflopcdaaGreat
open Go.RowKit
def pmn (p:List Int):List Int:=p.map (- ·)
end Go.Proofs.YtphmkdmflopcdaaGreat
