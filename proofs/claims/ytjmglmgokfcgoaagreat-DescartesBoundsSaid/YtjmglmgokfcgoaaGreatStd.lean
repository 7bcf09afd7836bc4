/- The walks of sturm.VariationsEnd, lostOnLine and, at x^2 - 2, of All and of awake of chapter 15. -/
import Derived.Test.YtjmglmgokfcgoaaGreatSta
import Derived.Test.YtjmglmgokfcgoaaGreatPow
import Derived.ArgAppend
import Derived.Test.YtjmglmgokfcgoaaGreatDer
import Derived.Test.YtjmglmgokfcgoaaGreatPart
namespace Go.Proofs.YtjmglmgokfcgoaaGreat
open Go.RowKit
def nrem (a b:List Int):List Int:=if (a.length+1-b.length) % 2=1∧plead b<0 then pred (psr a b) else pmn (ptrim (pred (psr a b)))
def chn:Nat→List Int→List Int→List (List Int)
 | 0,_,_=>[]
 | k+1,a,b=>if b=[] then [] else b :: chn k b (nrem a b)
def pchain (k:Nat) (f g:List Int):List (List Int):=if plen f=0 then [] else pred f :: chn k (pred f) (pred g)
end Go.Proofs.YtjmglmgokfcgoaaGreat
namespace Go.Proofs.YtjmglmgokfcgoaaGreat
open Go.RowKit
end Go.Proofs.YtjmglmgokfcgoaaGreat
namespace Go.Proofs.YtjmglmgokfcgoaaGreat
open Go.RowKit
theorem w2_at (w:World):I64At (w.alloc (.cells #[.int .i64 (-2),.int .i64 0,.int .i64 1] 2)) (some ⟨w.heap.size,0,none⟩) 3 3 w2:=by
 refine ⟨rfl,by omega,.inr ⟨w.heap.size,0,rfl,by simp,fun j hj=>?_⟩⟩
 match j,hj with
 | 0,_=>simp [w2]
 | 1,_=>simp [w2]
 | 2,_=>simp [w2]
end Go.Proofs.YtjmglmgokfcgoaaGreat
