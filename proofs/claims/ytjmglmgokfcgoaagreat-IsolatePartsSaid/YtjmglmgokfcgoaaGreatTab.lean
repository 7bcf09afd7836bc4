/- Lists of the values of a function. Plain: no program. -/
import Derived.Test.YtjmglmgokfcgoaaGreatNatS
namespace Go.Proofs.YtjmglmgokfcgoaaGreat
def tab (n:Nat) (F:Nat→Int):List Int:=(List.range n).map F
end Go.Proofs.YtjmglmgokfcgoaaGreat
