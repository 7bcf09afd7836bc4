/- The walks of unipoly.Pow at constants, unidiv.power, unipoly.Scale. -/
import Derived.Test.YtipocabbjinbhaaQuo
import Derived.Test.YtipocabbjinbhaaShelf
import Derived.Test.YtipocabbjinbhaaIntE
import Derived.Test.YtipocabbjinbhaaIrow
import Derived.Deep.QuietTactic
import Derived.BigQuiet
import Derived.Laws.Bits64b
import Derived.Deep.LoopGhost
import Derived.Test.YtipocabbjinbhaaIdP
import Derived.Test.YtipocabbjinbhaaRbH
namespace Go.Proofs.Ytipocabbjinbhaa
open Go.RowKit
def pcont (p:List Int):Nat:=p.foldr (fun a g=>Nat.gcd a.natAbs g) 0
theorem pcont_drop (p:List Int) {j:Nat} (h:j<p.length):pcont (p.drop j)=Nat.gcd (p.getD j 0).natAbs (pcont (p.drop (j+1))):=by
 rw [List.drop_eq_getElem_cons h,List.getD_eq_getElem?_getD,List.getElem?_eq_getElem h];rfl
theorem pcont_dvd (p:List Int):∀ j,pcont p∣pcont (p.drop j):=by
 intro j
 induction j with
 | zero=>exact Nat.dvd_refl _
 | succ j ih =>
   rcases Nat.lt_or_ge j p.length with h | h
   ·rw [pcont_drop p h] at ih
    exact Nat.dvd_trans ih (Nat.gcd_dvd_right _ _)
   ·rw [List.drop_eq_nil_of_le (by omega)];exact Nat.dvd_zero _
structure PLst (w:World) (A:Option Addr) (len cap:Nat) (ps:List (List Int)):Prop where
 length:ps.length=len
 elems:len=0∨∃ b off,A=some ⟨b,off,none⟩∧b<w.heap.size∧∀ j,j<len→∃ Aj lj cj,w.cell? ⟨b,off+j,none⟩=some (.slice Aj lj cj)∧PolyAt w Aj lj cj (ps.getD j [])
theorem PLst.below {w w':World} {A:Option Addr} {len cap:Nat} {ps:List (List Int)} (h:PLst w A len cap ps) (hb:Below w.heap.size w w'):PLst w' A len cap ps:=by
 refine ⟨h.length,?_⟩
 rcases h.elems with h0 | ⟨b,off,hA,hlt,hc⟩
 ·exact .inl h0
 ·refine .inr ⟨b,off,hA,Nat.lt_of_lt_of_le hlt hb.size,fun j hj=>?_⟩
  obtain ⟨Aj,lj,cj,h1,h2⟩:=hc j hj
  exact ⟨Aj,lj,cj,(hb.cell (p:=⟨b,off+j,none⟩) hlt).trans h1,h2.below ikAt hb⟩
structure CtI (w wr:World) (gr g1 gc:Nat) (n1:Bool) (A1:Option Addr) (l1 c1:Nat) (nc:Bool) (Ac:Option Addr) (lc cc:Nat) (G:Nat):Prop where
 r:IBox wr gr false none 0 0 0
 one:IBox wr g1 n1 A1 l1 c1 1
 c:IBox wr gc nc Ac lc cc (G:Int)
 sm:Sm G
 below:Below w.heap.size w wr
section
variable {w wr w':World} {gr g1 gc:Nat} {n1:Bool} {A1:Option Addr} {l1 c1:Nat} {nc:Bool} {Ac:Option Addr} {lc cc:Nat} {G:Nat}
theorem CtI.move (h:CtI w wr gr g1 gc n1 A1 l1 c1 nc Ac lc cc G) (hb:Below wr.heap.size wr w') :
  CtI w w' gr g1 gc n1 A1 l1 c1 nc Ac lc cc G:=⟨h.r.move hb,h.one.move hb,h.c.move hb,h.sm,h.below.trans (hb.mono h.below.size)⟩
theorem CtI.put (h:CtI w wr gr g1 gc n1 A1 l1 c1 nc Ac lc cc G) {n':Bool} {A':Option Addr} {l' c' G':Nat} (hz:IntN wr n' A' l' c' (G':Int)) (hs:Sm G') (h1:gr≠gc) (h2:g1≠gc) (hg:w.heap.size≤gc) :
  CtI w (put2 wr gc n' A' l' c') gr g1 gc n1 A1 l1 c1 n' A' l' c' G' :=
 ⟨h.r.far h.c h1 _ _,h.one.far h.c h2 _ _,h.c.put hz,hs,(h.below.setCell (p:=⟨gc,0,none⟩) hg _).setCell (p:=⟨gc,1,none⟩) hg _⟩
end
end Go.Proofs.Ytipocabbjinbhaa
namespace Go.Proofs.Ytipocabbjinbhaa
open Go.RowKit
theorem plead_zero {f:List Int}:plead f=0↔plen f=0:=by
 constructor
 ·intro h
  rcases Nat.eq_zero_or_pos (plen f) with h0 | h0
  ·exact h0
  ·exact absurd h (plead_ne (by omega))
 ·intro h
  exact getD_ge_plen f _ (by omega)
theorem pcont_get (p:List Int) (k:Nat):pcont p∣(p.getD k 0).natAbs:=by
 rcases Nat.lt_or_ge k p.length with h | h
 ·have h1:=pcont_dvd p k
  rw [pcont_drop p h] at h1
  exact Nat.dvd_trans h1 (Nat.gcd_dvd_left _ _)
 ·rw [getD_out p h];exact Nat.dvd_zero _
theorem pcont_ne {p:List Int} (h:plen p≠0):pcont p≠0:=by
 intro e
 have h1:=pcont_get p (plen p-1)
 rw [e,Nat.zero_dvd] at h1
 exact plead_ne h (by show p.getD _ 0=0;omega)
end Go.Proofs.Ytipocabbjinbhaa
namespace Go.Proofs.Ytipocabbjinbhaa
open Go.RowKit
theorem Fit.le {a b:Int} (h:Fit b) (hab:a.natAbs≤b.natAbs):Fit a:=Nat.lt_of_le_of_lt hab h
end Go.Proofs.Ytipocabbjinbhaa
