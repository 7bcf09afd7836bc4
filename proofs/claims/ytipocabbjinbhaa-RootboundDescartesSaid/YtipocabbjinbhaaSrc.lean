/- The state of descartes.Roots' search: an own row of roots that grows by append, the frame of a call. -/
import Derived.Test.YtipocabbjinbhaaRatD
import Derived.Test.YtipocabbjinbhaaQuo
import Derived.Test.YtipocabbjinbhaaShelf
import Derived.Test.YtipocabbjinbhaaIntE
import Derived.Test.YtipocabbjinbhaaIrow
import Derived.Deep.QuietTactic
import Derived.BigQuiet
import Derived.Laws.Bits64b
import Derived.Deep.LoopGhost
import Derived.Test.YtipocabbjinbhaaLes
import Derived.Test.YtipocabbjinbhaaSft
import Derived.Test.YtipocabbjinbhaaOwp
import Derived.ArgAppend
namespace Go.Proofs.Ytipocabbjinbhaa
open Go.RowKit
def One (W:World) (z:Int) (s:Value) (wx:World):Prop:=∃ g n A l c,s=.pointer (some ⟨g,0,none⟩)∧W.heap.size≤g∧IBox wx g n A l c z∧Below W.heap.size W wx
section
variable {W w9:World} {n:Bool} {A:Option Addr} {l c g:Nat} {z:Int}
end
end Go.Proofs.Ytipocabbjinbhaa
namespace Go.Proofs.Ytipocabbjinbhaa
open Go
section
variable {P:Program} {ops:Array Oper} {Q:Exit→Act→World→Prop} {md:Region.Mode}
def ClosedL (md:Region.Mode) (ops:Array Oper) (listed:Array Bool):Prop:=∀ (j:Nat) (o:Oper),ops[j]?=some o→listed.getD j false=true→∀ e∈o.after,Region.binds md e=true→listed.getD e.on false=true
theorem ClosedL.step {listed:Array Bool} (h:ClosedL md ops listed) {i:Nat} (hi:i∈Region.ready md ops listed):ClosedL md ops (listed.setIfInBounds i true):=by
 intro j o ho hl e he hb
 have key:listed.getD e.on false=true:=by
  rcases Nat.decEq j i with hne | heq
  ·refine h j o ho ?_ e he hb
   rw [← hl,getD_set_ne false (Ne.symm hne)]
  ·subst heq
   obtain ⟨_,o2,ho2,h2⟩:=mem_ready.1 hi
   rw [ho] at ho2
   injection ho2 with ho2
   subst ho2
   exact h2 e he hb
 exact getD_set_true key
end
end Go.Proofs.Ytipocabbjinbhaa
namespace Go.Proofs.Ytipocabbjinbhaa
open Go.RowKit
def Nd (v:Value):Prop:=NoDigit v∧v.oneCell'=true
structure FrS (g g':Nat) (W W':World):Prop where
 os:W'.os=W.os
 tape:W'.tape=W.tape
 output:W'.output=W.output
 size:W.heap.size≤W'.heap.size
 same:∀ k,k<W.heap.size→k≠g→k≠g'→W'.heap[k]?=W.heap[k]?
theorem FrS.refl (g g':Nat) (W:World):FrS g g' W W:=⟨rfl,rfl,rfl,Nat.le_refl _,fun _ _ _ _=>rfl⟩
theorem FrS.trans {g g1 g2:Nat} {A B C:World} (h:FrS g g1 A B) (k:FrS g g2 B C) (hg:g2=g1∨A.heap.size≤g2):FrS g g1 A C :=
 ⟨k.os.trans h.os,k.tape.trans h.tape,k.output.trans h.output,Nat.le_trans h.size k.size,fun i hi h1 h2=>(k.same i (Nat.lt_of_lt_of_le hi h.size) h1 (by rcases hg with e | e<;>omega)).trans (h.same i hi h1 h2)⟩
theorem FrS.mono {g g' B:Nat} {W0 W W':World} (h:FrS g g' W W') (hb:Below B W0 W) (h1:B≤g) (h2:B≤g') (hB:B≤W.heap.size):Below B W0 W' :=
 ⟨h.os.trans hb.os,h.tape.trans hb.tape,h.output.trans hb.output,Nat.le_trans hb.size h.size,fun k hk=>(h.same k (by omega) (by omega) (by omega)).trans (hb.block k hk)⟩
section
variable {g g':Nat} {W W':World}
theorem FrS.cell (h:FrS g g' W W') {k:Nat} (hk:k<W.heap.size) (h1:k≠g) (h2:k≠g') (o:Nat):W'.cell? ⟨k,o,none⟩=W.cell? ⟨k,o,none⟩:=World.cell?_of_block (w:=W) (h.same k hk h1 h2)
theorem FrS.frozen (h:FrS g g' W W') {k:Nat} (hk:k<W.heap.size) (h1:k≠g) (h2:k≠g') (o:Nat):W'.frozen? ⟨k,o,none⟩=W.frozen? ⟨k,o,none⟩:=by
 simp [World.frozen?,h.same k hk h1 h2]
structure PolyG (g g':Nat) (w:World) (A:Option Addr) (l c:Nat) (p:List Int):Prop where
 n:PolyN w A l c p
 off:l=0∨∃ b o,A=some ⟨b,o,none⟩∧b≠g∧b≠g'
theorem PolyG.below {w w':World} {A:Option Addr} {l c:Nat} {p:List Int} (h:PolyG g g' w A l c p) (hb:Below w.heap.size w w'):PolyG g g' w' A l c p:=⟨h.n.below ikN hb,h.off⟩
end
theorem frs_set {gs g:Nat} {w W:World} (h:FrS gs g w W) (k:Nat) (v:Value):FrS gs g w (W.setCell ⟨g,k,none⟩ v) :=
 ⟨h.os,h.tape,h.output,by simpa [World.setCell] using h.size,fun i hi h1 h2=>(Below.heap_setCell W _ v i h2).trans (h.same i hi h1 h2)⟩
theorem frs_setCells {gs g:Nat} {w:World}:∀ (vs:List Value) (o:Nat) {W:World},FrS gs g w W→FrS gs g w (W.setCells g o vs)
 | [],_,_,h=>h
 | v :: vs,o,_,h=>frs_setCells vs (o+1) (frs_set h o v)
end Go.Proofs.Ytipocabbjinbhaa
