/- The square-free part of polynomials with at most 8 coefficients: it can be computed, its coefficients are bounded, it keeps each rational root. Plain: no program. -/
import Derived.Test.YtjmglmgokfcgoaaMlt
import Derived.Test.YtjmglmgokfcgoaaExq
import Derived.Test.YtjmglmgokfcgoaaGcx
namespace Go.Proofs.Ytjmglmgokfcgoaa
section
variable {z q:Int}
end
end Go.Proofs.Ytjmglmgokfcgoaa
namespace Go.Proofs.Ytjmglmgokfcgoaa
section
variable {F:List Int}
def PB:Nat:=fbb 15 (8*(4294967296*15^7)) 7
end
end Go.Proofs.Ytjmglmgokfcgoaa
