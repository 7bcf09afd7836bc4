/- An own slice of polynomials that grows by append: the polynomials in it stay as they are. -/
import Derived.Test.YtphmkdmflopcdaaGreatPow
import Derived.ArgAppend
namespace Go.Proofs.YtphmkdmflopcdaaGreat
open Go.RowKit
structure OwnP (w:World) (g n cap:Nat) (ps:List (List Int)):Prop where
 blk:∃ cs,Blk w g 28 cs/\cs.size=cap/\∀ j,j<cap->∃ A l c,cs[j]?=some (.slice A l c)
 len:ps.length=n
 le:n<=cap
 elems:∀ j,j<n->∃ A l c,w.cell? ⟨g,j,none⟩=some (.slice A l c)/\PolyN w A l c (ps.getD j [])
section
variable {w w':World} {g n cap:Nat} {ps:List (List Int)}
theorem OwnP.lt (h:OwnP w g n cap ps):g<w.heap.size:=by
 obtain ⟨cs,hb,_⟩:=h.blk
 exact hb.lt
theorem OwnP.below (h:OwnP w g n cap ps) (hb:Below w.heap.size w w'):OwnP w' g n cap ps:=by
 have hlt:=h.lt
 obtain ⟨cs,hk,hs,hc⟩:=h.blk
 refine ⟨⟨cs,hk.below hb hlt,hs,hc⟩,h.len,h.le,fun j hj=>?_⟩
 obtain ⟨A,l,c,h1,h2⟩:=h.elems j hj
 exact ⟨A,l,c,(hb.cell (p:=⟨g,j,none⟩) hlt).trans h1,h2.below ikN hb⟩
theorem OwnP.one {A:Option Addr} {l c:Nat} {p:List Int} (h:PolyN w A l c p):OwnP (w.alloc (.cells #[.slice A l c] 28)) w.heap.size 1 1 [p]:=by
 refine ⟨⟨_,Blk.new _ _ _,rfl,fun j hj=>⟨A,l,c,?_⟩⟩,rfl,Nat.le_refl _,fun j hj=>?_⟩
 ·have:j=0:=by omega
  subst this;rfl
 ·have:j=0:=by omega
  subst this
  exact ⟨A,l,c,by go_simp,h.below ikN ((Below.refl _ _).alloc (Nat.le_refl _) _)⟩
end
end Go.Proofs.YtphmkdmflopcdaaGreat
