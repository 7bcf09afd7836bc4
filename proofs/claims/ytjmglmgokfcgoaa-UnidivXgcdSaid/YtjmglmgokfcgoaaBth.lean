/- The walk of cylinderref02.Small. -/
import Derived.Test.YtjmglmgokfcgoaaBte
import Derived.Test.YtjmglmgokfcgoaaIntD
namespace Go.Proofs.Ytjmglmgokfcgoaa
open Go.RowKit
structure ZAt (w:World) (s:Int) (A:Option Addr) (l c:Nat) (z:Int):Prop where
 sign:s=sg z
 bits:I64At w A l c (bts z.natAbs)
 typ:Typ w A l
end Go.Proofs.Ytjmglmgokfcgoaa
namespace Go.Proofs.Ytjmglmgokfcgoaa
open Go.RowKit
end Go.Proofs.Ytjmglmgokfcgoaa
namespace Go.Proofs.Ytjmglmgokfcgoaa
open Go.RowKit
end Go.Proofs.Ytjmglmgokfcgoaa
