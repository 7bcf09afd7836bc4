/- Lists of the values of a function. Plain: no program. -/
import Derived.Test.YtjmglmgokfcgoaaGreatNatS
namespace Go.Proofs.YtjmglmgokfcgoaaGreat
def tab (n:Nat) (F:Nat→Int):List Int:=(List.range n).map F
theorem tab_length (n:Nat) (F:Nat→Int):(tab n F).length=n:=by simp [tab]
theorem tab_get {n:Nat} (F:Nat→Int) {j:Nat} (h:j<n):(tab n F).getD j 0=F j:=by simp [tab,List.getD_eq_getElem?_getD,h]
theorem tab_set (n:Nat) (F:Nat→Int) (i:Nat) (x:Int):(tab n F).set i x=tab n (fun t=>if t=i then x else F t):=by
 refine List.ext_getElem? fun j=>?_
 by_cases hj:j<n
 ·by_cases h:i=j
  ·subst h;simp [tab,hj]
  ·simp [tab,hj,h,Ne.symm h]
 ·simp [tab,hj]
theorem tab_zero (n:Nat):List.replicate n (0:Int)=tab n (fun _=>0):=by
 refine List.ext_getElem? fun j=>?_
 by_cases hj:j<n<;>simp [tab,hj]
theorem tab_ext {n:Nat} {F G:Nat→Int} (h:∀ j,j<n→F j=G j):tab n F=tab n G:=List.map_congr_left fun j hj=>h j (List.mem_range.1 hj)
end Go.Proofs.YtjmglmgokfcgoaaGreat
