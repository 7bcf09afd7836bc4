/- The walks of the law's helpers line, root, two. -/
import Derived.Test.YtjmglmgokfcgoaaGreatRatD
import Derived.Test.YtjmglmgokfcgoaaGreatRbH
import Derived.Test.YtjmglmgokfcgoaaGreatIntE
namespace Go.Proofs.YtjmglmgokfcgoaaGreat
open Go.RowKit
section
variable {W:World} {g g':Nat} {n n':Bool} {A A' B B':Option Addr} {l c l' c' m d m' d':Nat} {z z':Int} {q q':Nat}
theorem RBox.make (hz:IntN W n A l c z) (hq:NatN W B m d q):RBox (W.alloc (rbox n A l c B m d)) W.heap.size n A l c B m d z q :=
 ⟨by go_simp,by go_simp,by go_simp,by go_simp,by go_simp,by go_simp,by simp,hz.below ((Below.refl _ _).alloc (Nat.le_refl _) _),hq.below ((Below.refl _ _).alloc (Nat.le_refl _) _)⟩
end
end Go.Proofs.YtjmglmgokfcgoaaGreat
namespace Go.Proofs.YtjmglmgokfcgoaaGreat
open Go.RowKit
def I8 (z:Int):Prop:=-128≤z∧z≤127
def ld (d:Int):Int:=if d=0 then 1 else d
def lin (p d:Int):List Int:=[-p,ld d]
end Go.Proofs.YtjmglmgokfcgoaaGreat
