/- The walk of cylinderref15.Less. -/
import Derived.Test.YtjmglmgokfcgoaaGreatLin
import Derived.Test.YtjmglmgokfcgoaaGreatStg
namespace Go.Proofs.YtjmglmgokfcgoaaGreat
open Go.RowKit
end Go.Proofs.YtjmglmgokfcgoaaGreat
namespace Go.Proofs.YtjmglmgokfcgoaaGreat
open Go.RowKit
def Two (W:World) (z z':Int) (s s':Value) (wx:World):Prop:=∃ g n A l c g' n' A' l' c',s=.pointer (some ⟨g,0,none⟩)∧s'=.pointer (some ⟨g',0,none⟩)∧g≠g'∧W.heap.size≤g∧W.heap.size≤g'∧IBox wx g n A l c z∧IBox wx g' n' A' l' c' z'∧Below W.heap.size W wx
structure Nbx (W:World) (g:Nat):Prop where
 c0:W.cell? ⟨g,0,none⟩=some (.bool false)
 c1:W.cell? ⟨g,1,none⟩=some (.slice none 0 0)
 f0:W.frozen? ⟨g,0,none⟩=false
 f1:W.frozen? ⟨g,1,none⟩=false
 lt:g<W.heap.size
theorem Nbx.box {W:World} {g:Nat} (h:Nbx W g):IBox W g false none 0 0 0:=⟨h.c0,h.c1,h.f0,h.f1,h.lt,⟨NatN.zero _ _ _,by simp⟩⟩
section
variable {W w9:World} {n n':Bool} {A A':Option Addr} {l c l' c' g g':Nat} {z z':Int}
theorem below_new (w:World) (o:Obj):Below w.heap.size w (w.alloc o):=(Below.refl _ _).alloc (Nat.le_refl _) _
end
end Go.Proofs.YtjmglmgokfcgoaaGreat
namespace Go.Proofs.YtjmglmgokfcgoaaGreat
open Go.RowKit
end Go.Proofs.YtjmglmgokfcgoaaGreat
