/- Lists of the values of a function. Plain: no program. -/
import Derived.Test.YtjmglmgokfcgoaaNatS
namespace Go.Proofs.Ytjmglmgokfcgoaa
def tab (n:Nat) (F:Nat→Int):List Int:=(List.range n).map F
theorem tab_length (n:Nat) (F:Nat→Int):(tab n F).length=n:=by simp [tab]
theorem tab_get {n:Nat} (F:Nat→Int) {j:Nat} (h:j<n):(tab n F).getD j 0=F j:=by simp [tab,List.getD_eq_getElem?_getD,h]
end Go.Proofs.Ytjmglmgokfcgoaa
