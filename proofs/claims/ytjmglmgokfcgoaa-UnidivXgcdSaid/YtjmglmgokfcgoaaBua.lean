/- Long division of the reference, digit by digit. Plain: no program. -/
import Derived.Test.YtjmglmgokfcgoaaRbH
import Derived.Test.YtjmglmgokfcgoaaIdP
import Derived.Test.YtjmglmgokfcgoaaTab
namespace Go.Proofs.Ytjmglmgokfcgoaa
def btn (n i:Nat):Nat:=n / 2^i % 2
def bln (n:Nat):Nat:=if n=0 then 0 else Nat.log2 n+1
def bts (n:Nat):List Int:=(List.range (bln n)).map fun i=>((btn n i:Nat):Int)
end Go.Proofs.Ytjmglmgokfcgoaa
namespace Go.Proofs.Ytjmglmgokfcgoaa
end Go.Proofs.Ytjmglmgokfcgoaa
namespace Go.Proofs.Ytjmglmgokfcgoaa
end Go.Proofs.Ytjmglmgokfcgoaa
