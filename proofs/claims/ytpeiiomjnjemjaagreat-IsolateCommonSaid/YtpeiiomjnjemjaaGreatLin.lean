/- The walks of the law's helpers line, root, two. -/
import Derived.Test.YtpeiiomjnjemjaaGreatRatD
import Derived.Test.YtpeiiomjnjemjaaGreatRbH
import Derived.Test.YtpeiiomjnjemjaaGreatIntE
namespace Go.Proofs.YtpeiiomjnjemjaaGreat
open Go.RowKit
section
variable {W:World} {g g':Nat} {n n':Bool} {A A' B B':Option Addr} {l c l' c' m d m' d':Nat} {z z':Int} {q q':Nat}
theorem RBox.make (hz:IntN W n A l c z) (hq:NatN W B m d q):RBox (W.alloc (rbox n A l c B m d)) W.heap.size n A l c B m d z q :=
 ⟨by go_simp,by go_simp,by go_simp,by go_simp,by go_simp,by go_simp,by simp,hz.below ((Below.refl _ _).alloc (Nat.le_refl _) _),hq.below ((Below.refl _ _).alloc (Nat.le_refl _) _)⟩
theorem RBox.far (h:RBox W g n A l c B m d z q) (h':RBox W g' n' A' l' c' B' m' d' z' q') (hg:g≠g') (u v x:Value):RBox (((W.setCell ⟨g',0,none⟩ u).setCell ⟨g',1,none⟩ v).setCell ⟨g',2,none⟩ x) g n A l c B m d z q:=by
 have k0:=h.c0
 have k1:=h.c1
 have k2:=h.c2
 have f0:=h.f0
 have f1:=h.f1
 have f2:=h.f2
 have j0:=h'.c0
 have j1:(W.setCell ⟨g',0,none⟩ u).cell? ⟨g',1,none⟩=some (.slice A' l' c'):=by
  rw[World.cell?_setCell_other W _ _ _ (by simp)];exact h'.c1
 have j2:((W.setCell ⟨g',0,none⟩ u).setCell ⟨g',1,none⟩ v).cell? ⟨g',2,none⟩=some (.slice B' m' d'):=by
  rw[World.cell?_setCell_other _ _ _ _ (by simp),World.cell?_setCell_other _ _ _ _ (by simp)];exact h'.c2
 exact ⟨by go_simp,by go_simp,by go_simp,by go_simp,by go_simp,by go_simp,by simpa [World.setCell] using h.lt,((h.hz.store _ j0 (noDigit_bool _)).store _ j1 (noDigit_slice _ _ _)).store _ j2 (noDigit_slice _ _ _),((h.hq.store _ j0 (noDigit_bool _)).store _ j1 (noDigit_slice _ _ _)).store _ j2 (noDigit_slice _ _ _)⟩
end
end Go.Proofs.YtpeiiomjnjemjaaGreat
namespace Go.Proofs.YtpeiiomjnjemjaaGreat
open Go.RowKit
def I8 (z:Int):Prop:=-128<=z/\z<=127
def ld (d:Int):Int:=if d=0 then 1 else d
def lin (p d:Int):List Int:=[-p,ld d]
end Go.Proofs.YtpeiiomjnjemjaaGreat
