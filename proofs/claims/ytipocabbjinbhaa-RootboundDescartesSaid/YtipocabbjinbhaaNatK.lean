/- The walks of package natural, sixth part: product (Karatsuba's method), Mul. -/
import Derived.Test.YtipocabbjinbhaaNatS
import Derived.Deep.RegionWith
import Derived.Deep.RegionHeld3
import Derived.Deep.LoopGhost
import Derived.Test.YtipocabbjinbhaaPop
namespace Go.Proofs.Ytipocabbjinbhaa
open Go.RowKit
def PAt (w:World) (g n v:Nat):Prop:=∃ zs,DRow w g zs∧zs.length=n∧Wd zs∧val zs=v
theorem PAt.below {w w':World} {g n v:Nat} (h:PAt w g n v) (hb:Below w.heap.size w w'):PAt w' g n v:=by
 obtain ⟨zs,h1,h2,h3,h4⟩:=h
 exact ⟨zs,h1.below hb h1.lt,h2,h3,h4⟩
theorem PAt.drew {w:World} {g n v:Nat} (h:PAt w g n v):PAt w.drew g n v:=h.below (Below.refl _ w).drew
theorem PAt.dig {w:World} {g n v:Nat} (h:PAt w g n v) {cap:Nat} (hc:n≤cap):∃ zs,DigAt w (some ⟨g,0,none⟩) n cap zs∧val zs=v:=by
 obtain ⟨zs,h1,h2,h3,h4⟩:=h
 have:=h1.dig h3 (cap:=cap) (by omega)
 rw [h2] at this
 exact ⟨zs,this,h4⟩
theorem PAt.lt {w:World} {g n v:Nat} (h:PAt w g n v):g<w.heap.size:=by
 obtain ⟨zs,h1,_⟩:=h
 exact h1.lt
end Go.Proofs.Ytipocabbjinbhaa
