/- The reference cylinderref11: Mul and Normal, plain. No program. -/
import Derived.Test.YtjmglmgokfcgoaaGreatGti
import Derived.Test.YtjmglmgokfcgoaaGreatTab
namespace Go.Proofs.YtjmglmgokfcgoaaGreat
open Go.RowKit
def rnu (p:List Int):Int:=if plead p<0 then -(pcont p:Int) else (pcont p:Int)
end Go.Proofs.YtjmglmgokfcgoaaGreat
