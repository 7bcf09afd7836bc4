/- An own slice of polynomials that grows by append: the polynomials in it stay as they are. -/
import Derived.Test.YtjmglmgokfcgoaaPow
import Derived.ArgAppend
namespace Go.Proofs.Ytjmglmgokfcgoaa
open Go.RowKit
structure OwnP (w:World) (g n cap:Nat) (ps:List (List Int)):Prop where
 blk:∃ cs,Blk w g 23 cs∧cs.size=cap∧∀ j,j<cap→∃ A l c,cs[j]?=some (.slice A l c)
 len:ps.length=n
 le:n≤cap
 elems:∀ j,j<n→∃ A l c,w.cell? ⟨g,j,none⟩=some (.slice A l c)∧PolyN w A l c (ps.getD j [])
section
variable {w w':World} {g n cap:Nat} {ps:List (List Int)}
theorem OwnP.lt (h:OwnP w g n cap ps):g<w.heap.size:=by
 obtain ⟨cs,hb,_⟩:=h.blk
 exact hb.lt
end
end Go.Proofs.Ytjmglmgokfcgoaa
