/- The walks of cylinderref01.Of, To and Is. -/
import Derived.Test.YtjmglmgokfcgoaaBua
import Derived.Test.YtjmglmgokfcgoaaIrow
import Derived.Deep.RegionHeld3
import Derived.Deep.RegionHeld
import Derived.Deep.AppendLies
namespace Go.Proofs.Ytjmglmgokfcgoaa
open Go.RowKit
def Typ (w:World) (A:Option Addr) (l:Nat):Prop:=l=0∨∃ b off cs,A=some ⟨b,off,none⟩∧Blk w b 3 cs
end Go.Proofs.Ytjmglmgokfcgoaa
namespace Go.Proofs.Ytjmglmgokfcgoaa
open Go.RowKit
end Go.Proofs.Ytjmglmgokfcgoaa
namespace Go.Proofs.Ytjmglmgokfcgoaa
open Go.RowKit
end Go.Proofs.Ytjmglmgokfcgoaa
namespace Go.Proofs.Ytjmglmgokfcgoaa
open Go.RowKit
end Go.Proofs.Ytjmglmgokfcgoaa
namespace Go.Proofs.Ytjmglmgokfcgoaa
open Go.RowKit
end Go.Proofs.Ytjmglmgokfcgoaa
