/- The walk of cylinderref15.Less. -/
import Derived.Test.YtjmglmgokfcgoaaLin
import Derived.Test.YtjmglmgokfcgoaaSta
import Derived.Test.YtjmglmgokfcgoaaOwp
import Derived.Test.YtjmglmgokfcgoaaDer
import Derived.Test.YtjmglmgokfcgoaaPart
import Derived.Test.YtjmglmgokfcgoaaRatD
import Derived.Test.YtjmglmgokfcgoaaGcdA
import Derived.Test.YtjmglmgokfcgoaaQuo
namespace Go.Proofs.Ytjmglmgokfcgoaa
open Go.RowKit
end Go.Proofs.Ytjmglmgokfcgoaa
namespace Go.Proofs.Ytjmglmgokfcgoaa
open Go.RowKit
def Two (W:World) (z z':Int) (s s':Value) (wx:World):Prop:=∃ g n A l c g' n' A' l' c',s=.pointer (some ⟨g,0,none⟩)∧s'=.pointer (some ⟨g',0,none⟩)∧g≠g'∧W.heap.size≤g∧W.heap.size≤g'∧IBox wx g n A l c z∧IBox wx g' n' A' l' c' z'∧Below W.heap.size W wx
section
variable {W w9:World} {n n':Bool} {A A':Option Addr} {l c l' c' g g':Nat} {z z':Int}
theorem below_new (w:World) (o:Obj):Below w.heap.size w (w.alloc o):=(Below.refl _ _).alloc (Nat.le_refl _) _
end
end Go.Proofs.Ytjmglmgokfcgoaa
namespace Go.Proofs.Ytjmglmgokfcgoaa
open Go.RowKit
end Go.Proofs.Ytjmglmgokfcgoaa
