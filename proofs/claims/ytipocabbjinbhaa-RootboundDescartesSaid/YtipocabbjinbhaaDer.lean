/- The walks of unipoly.Derivative and of division.Exact. -/
import Derived.Test.YtipocabbjinbhaaIdP
import Derived.Test.YtipocabbjinbhaaQuo
namespace Go.Proofs.Ytipocabbjinbhaa
open Go.RowKit
def pder (p:List Int):List Int:=(List.range (plen p-1)).map fun k=>p.getD (k+1) 0*((k:Int)+1)
theorem pder_length (p:List Int):(pder p).length=plen p-1:=by simp [pder]
theorem pder_get (p:List Int) {k:Nat} (h:k<plen p-1):(pder p).getD k 0=p.getD (k+1) 0*((k:Int)+1):=by
 rw [List.getD_eq_getElem?_getD,pder,List.getElem?_map,List.getElem?_range h];rfl
end Go.Proofs.Ytipocabbjinbhaa
