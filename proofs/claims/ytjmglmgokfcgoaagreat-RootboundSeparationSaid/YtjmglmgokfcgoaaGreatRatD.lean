/- The walks of package rational, fourth part: Make at a positive denominator, From, Of. -/
import Derived.Test.YtjmglmgokfcgoaaGreatGcd
import Derived.RegionTactic
import Derived.Test.YtjmglmgokfcgoaaGreatSft
namespace Go.Proofs.YtjmglmgokfcgoaaGreat
open Go.RowKit
abbrev rbox (n:Bool) (A:Option Addr) (l c:Nat) (B:Option Addr) (m d:Nat):Obj:=.cells #[.bool n,.slice A l c,.slice B m d] 51
theorem NatAt.int {w:World} {B:Option Addr} {m d q:Nat} (h:NatAt w B m d q):IntAt w false B m d (q:Int):=⟨by rw [Int.natAbs_natCast];exact h,by rw [Int.natAbs_natCast,sgn_false]⟩
end Go.Proofs.YtjmglmgokfcgoaaGreat
namespace Go.Proofs.YtjmglmgokfcgoaaGreat
open Go.RowKit
end Go.Proofs.YtjmglmgokfcgoaaGreat
namespace Go.Proofs.YtjmglmgokfcgoaaGreat
open Go.RowKit
structure RBox (W:World) (g:Nat) (n:Bool) (A:Option Addr) (l c:Nat) (B:Option Addr) (m d:Nat) (z:Int) (q:Nat):Prop where
 c0:W.cell? ⟨g,0,none⟩=some (.bool n)
 c1:W.cell? ⟨g,1,none⟩=some (.slice A l c)
 c2:W.cell? ⟨g,2,none⟩=some (.slice B m d)
 f0:W.frozen? ⟨g,0,none⟩=false
 f1:W.frozen? ⟨g,1,none⟩=false
 f2:W.frozen? ⟨g,2,none⟩=false
 lt:g<W.heap.size
 hz:IntN W n A l c z
 hq:NatN W B m d q
section
variable {W W':World} {g g':Nat} {n n':Bool} {A A' B B':Option Addr} {l c l' c' m d m' d':Nat} {z z':Int} {q q':Nat}
theorem RBox.move (h:RBox W g n A l c B m d z q) (hb:Below W.heap.size W W'):RBox W' g n A l c B m d z q:=by
 obtain ⟨hc,hf⟩:=bcell hb
 exact ⟨(hc _ _ h.lt).trans h.c0,(hc _ _ h.lt).trans h.c1,(hc _ _ h.lt).trans h.c2,(hf _ _ h.lt).trans h.f0,(hf _ _ h.lt).trans h.f1,(hf _ _ h.lt).trans h.f2,Nat.lt_of_lt_of_le h.lt hb.size,h.hz.below hb,h.hq.below hb⟩
theorem RBox.nil (W:World):RBox (W.alloc (rbox false none 0 0 none 0 0)) W.heap.size false none 0 0 none 0 0 0 0 :=
 ⟨by go_simp,by go_simp,by go_simp,by go_simp,by go_simp,by go_simp,by simp,⟨NatN.zero _ _ _,by simp⟩,NatN.zero _ _ _⟩
abbrev put3 (W:World) (g:Nat) (n:Bool) (A:Option Addr) (l c:Nat) (B:Option Addr) (m d:Nat):World:=((W.setCell ⟨g,0,none⟩ (.bool n)).setCell ⟨g,1,none⟩ (.slice A l c)).setCell ⟨g,2,none⟩ (.slice B m d)
theorem RBox.put (h:RBox W g n A l c B m d z q) (hz:IntN W n' A' l' c' z') (hq:NatN W B' m' d' q'):RBox (put3 W g n' A' l' c' B' m' d') g n' A' l' c' B' m' d' z' q':=by
 have k0:=h.c0
 have k1:=h.c1
 have k2:=h.c2
 have f0:=h.f0
 have f1:=h.f1
 have f2:=h.f2
 have j1:(W.setCell ⟨g,0,none⟩ (.bool n')).cell? ⟨g,1,none⟩=some (.slice A l c):=by
  rw [World.cell?_setCell_other W _ _ _ (by simp)];exact k1
 have j2:((W.setCell ⟨g,0,none⟩ (.bool n')).setCell ⟨g,1,none⟩ (.slice A' l' c')).cell? ⟨g,2,none⟩=some (.slice B m d):=by
  rw [World.cell?_setCell_other _ _ _ _ (by simp),World.cell?_setCell_other _ _ _ _ (by simp)];exact k2
 exact ⟨by go_simp,by go_simp,by go_simp,by go_simp,by go_simp,by go_simp,by simpa [World.setCell] using h.lt,(hz.ret _ _ k0 k1).store _ j2 (noDigit_slice _ _ _),((hq.store _ k0 (noDigit_bool _)).store _ j1 (noDigit_slice _ _ _)).store _ j2 (noDigit_slice _ _ _)⟩
end
end Go.Proofs.YtjmglmgokfcgoaaGreat
namespace Go.Proofs.YtjmglmgokfcgoaaGreat
open Go.RowKit
end Go.Proofs.YtjmglmgokfcgoaaGreat
