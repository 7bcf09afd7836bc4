/- The walk of sturm.Query at polynomials that are not too large, f other than 0 at both ends. -/
import Derived.Test.YtjmglmgokfcgoaaGreatSqw
namespace Go.Proofs.YtjmglmgokfcgoaaGreat
open Go.RowKit
def dgm (f g:List Int):List Int:=polymul (ptrim (pder f)) (ptrim g)
def nq (f g:List Int):Int:=pline 12 f (dgm f g)
end Go.Proofs.YtjmglmgokfcgoaaGreat
namespace Go.Proofs.YtjmglmgokfcgoaaGreat
open Go.RowKit
end Go.Proofs.YtjmglmgokfcgoaaGreat
namespace Go.Proofs.YtjmglmgokfcgoaaGreat
open Go.RowKit
end Go.Proofs.YtjmglmgokfcgoaaGreat
