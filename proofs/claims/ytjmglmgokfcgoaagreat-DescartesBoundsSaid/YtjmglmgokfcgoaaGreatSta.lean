/- The walks of unipoly.Neg and, of package sturm, reduced and negativeRemainder. -/
import Derived.Test.YtjmglmgokfcgoaaGreatPsB
import Derived.Test.YtjmglmgokfcgoaaGreatPow
namespace Go.Proofs.YtjmglmgokfcgoaaGreat
open Go.RowKit
def pmn (p:List Int):List Int:=p.map (- ·)
def pred (f:List Int):List Int:=if plead f<0 then pmn (ptrim (pprim f)) else pprim f
end Go.Proofs.YtjmglmgokfcgoaaGreat
