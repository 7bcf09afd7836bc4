/- The walks of rational.Normal, unipoly.scaled and unipoly.SignAt. -/
import Derived.Test.YtjmglmgokfcgoaaGreatStd
import Derived.Test.YtjmglmgokfcgoaaGreatLin
import Derived.Test.YtjmglmgokfcgoaaGreatRatD
import Derived.Test.YtjmglmgokfcgoaaGreatGcdA
import Derived.Test.YtjmglmgokfcgoaaGreatQuo
namespace Go.Proofs.YtjmglmgokfcgoaaGreat
open Go.RowKit
def scs (p:List Int) (z q:Int) (n:Nat):Nat→Int×Int
 | 0=>(0,1)
 | t+1 =>
   let s:=scs p z q n t
   let pw:=if t=0 then s.2 else s.2*q
   (s.1*z+p.getD (n-1-t) 0*pw,pw)
def ScOK (p:List Int) (z q:Int):Prop:=∀ t,t≤plen p→Fit (scs (ptrim p) z q (plen p) t).1∧Fit (scs (ptrim p) z q (plen p) t).2
end Go.Proofs.YtjmglmgokfcgoaaGreat
