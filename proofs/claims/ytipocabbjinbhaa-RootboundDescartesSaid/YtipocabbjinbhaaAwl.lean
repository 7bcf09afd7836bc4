/- The walk of awake of chapter 9. -/
import Derived.Test.YtipocabbjinbhaaFed
import Derived.Test.YtipocabbjinbhaaIdP
import Derived.RangeFuncOwn
import Derived.Shelf.Abstract
import Derived.Shelf.RegionOpen
import Derived.WalkKit
import Derived.OwnWalkIn
import Derived.TacticsInMore
import Derived.Test.YtipocabbjinbhaaRbH
namespace Go.Proofs.Ytipocabbjinbhaa
open Go.RowKit Go.Shelf
section
variable {W:World} {l:Nat} {ob o':Obj}
theorem cellPut (hl:W.heap[l]?=some ob) (hc:ob.isCells=false) {k o o2:Nat} {v:Value} (hv:W.cell? ⟨k,o,none⟩=some v):(W.putObj l o').cell? ⟨k,o2,none⟩=W.cell? ⟨k,o2,none⟩:=by
 have hne:k≠l:=by
  intro e
  subst e
  unfold World.cell? at hv
  cases ob<;>simp_all [Obj.isCells]
 refine World.cell?_of_block (w:=W) ?_
 exact World.putObj_heap_other (by first | exact hne | exact Ne.symm hne)
theorem DigAt.putObj {A:Option Addr} {len cap:Nat} {ds:List Nat} (hd:DigAt W A len cap ds) (hl:W.heap[l]?=some ob) (hc:ob.isCells=false):DigAt (W.putObj l o') A len cap ds:=by
 refine ⟨hd.length,hd.cap,hd.wd,?_⟩
 rcases hd.cells with e | ⟨b,off,hA,hlt,hcs⟩
 ·exact .inl e
 ·rcases Nat.eq_zero_or_pos len with e | e
  ·exact .inl e
  ·exact .inr ⟨b,off,hA,by simpa using hlt,fun j hj=>(cellPut hl hc (hcs 0 e)).trans (hcs j hj)⟩
theorem IntN.putObj {neg:Bool} {A:Option Addr} {len cap:Nat} {z:Int} (hd:IntN W neg A len cap z) (hl:W.heap[l]?=some ob) (hc:ob.isCells=false):IntN (W.putObj l o') neg A len cap z:=⟨⟨hd.nat.digits.putObj hl hc⟩,hd.sign⟩
theorem PolyP.putObj {A:Option Addr} {len cap:Nat} {p:List Int} (hp:PolyN W A len cap p) (hl:W.heap[l]?=some ob) (hc:ob.isCells=false):PolyN (W.putObj l o') A len cap p:=by
 refine ⟨hp.length,hp.cap,?_⟩
 rcases hp.elems with e | ⟨b,off,hA,hlt,hcs⟩
 ·exact .inl e
 ·refine .inr ⟨b,off,hA,by simpa using hlt,fun j hj=>?_⟩
  obtain ⟨neg,Aj,lj,cj,h1,h2,h3⟩:=hcs j hj
  exact ⟨neg,Aj,lj,cj,(cellPut hl hc h1).trans h1,(cellPut hl hc h1).trans h2,h3.putObj hl hc⟩
end
theorem Keep.belowB {g:Nat} {W0 A C:World} {B:Nat} (h:Keep g W0 A) (hb:Below B A C) (hB:W0.heap.size≤B) (hg:g<B):Keep g W0 C :=
 ⟨hb.os.trans h.os,hb.tape.trans h.tape,hb.output.trans h.output,Nat.le_trans h.size hb.size,fun k _ hk ho hc=>(hb.block k (Nat.lt_of_lt_of_le (Array.getElem?_eq_some_iff.1 ho).1 hB)).trans (h.same k _ hk ho hc),fun hx=>by obtain ⟨A',l,c,hx⟩:=h.box hx;exact ⟨A',l,c,hx.below hb hg⟩⟩
theorem slo_one (A:Option Addr) (l c:Nat) (t:TypeId) (fr:Nat×Nat):SlO (.cells #[.slice A l c] t fr):=⟨by simp,fun j hj=>by
 have:j=0:=by simpa using hj
 subst this
 exact ⟨A,l,c,rfl⟩⟩
theorem Keep.setBox {g:Nat} {W:World} {A A':Option Addr} {l c l' c':Nat} (h:Blk W g 30 #[.slice A l c]):Keep g W (W.setCell ⟨g,0,none⟩ (.slice A' l' c')) :=
 ⟨rfl,rfl,rfl,by simp [World.setCell],fun k o hk ho _=>by
   have hne:k≠g:=by
    intro e
    subst e
    unfold Blk at h
    rw [h] at ho
    cases ho
    exact hk (slo_one _ _ _ _ _)
   rw [← ho];exact Below.heap_setCell W ⟨g,0,none⟩ _ k hne,fun _=>⟨A',l',c',by have:=h.set_ 0 (.slice A' l' c');simpa using this⟩⟩
def lastv (pre:List El):Value:=match pre.getLast? with
 | none=>.slice none 0 0
 | some x=>x.val
theorem lastv_snoc (pre:List El) (x:El):lastv (pre ++ [x])=x.val:=by simp [lastv]
theorem lastv_slice (pre:List El):∃ A l c,lastv pre=.slice A l c:=by
 unfold lastv
 cases pre.getLast? with
 | none=>exact ⟨_,_,_,rfl⟩
 | some x=>exact ⟨_,_,_,rfl⟩
structure LI (gl b:Nat) (W0:World) (pre:List El) (W:World):Prop where
 blk:Blk W gl 30 #[lastv pre]
 keep:Keep gl W0 W
 bel:Below b W0 W
 le:b≤gl
 le2:b≤W0.heap.size
section
variable {gl b:Nat} {W0 W W':World} {pre:List El}
theorem LI.put (h:LI gl b W0 pre W) {l:Nat} {o o':Obj} (hl:W.heap[l]?=some o) (hc:o.isCells=false) (hle:b≤l):LI gl b W0 pre (W.putObj l o'):=by
 obtain ⟨A,m,c,e⟩:=lastv_slice pre
 have hb:=h.blk
 rw [e] at hb
 refine ⟨?_,h.keep.trans (Keep.putObj gl hl hc),h.bel.trans ⟨rfl,rfl,rfl,by simp,fun k hk=>World.putObj_heap_other (by omega)⟩,h.le,h.le2⟩
 have hne:gl≠l:=by
  intro x
  subst x
  unfold Blk at hb
  rw [hb] at hl
  cases hl
  cases hc
 have:=h.blk
 unfold Blk at this ⊢
 rw [World.putObj_heap_other (by first | exact hne | exact Ne.symm hne)]
 exact this
theorem LI.alloc (h:LI gl b W0 pre W) (o:Obj):LI gl b W0 pre (W.alloc o) :=
 ⟨h.blk.alloc o,h.keep.trans (Keep.below gl ((Below.refl _ _).alloc (Nat.le_refl _) _)),h.bel.alloc (Nat.le_trans h.le2 h.keep.size) _,h.le,h.le2⟩
theorem LI.below (h:LI gl b W0 pre W) {B:Nat} (hb:Below B W W') (hB:W0.heap.size≤B) (hg:gl<B):LI gl b W0 pre W' :=
 ⟨h.blk.below hb hg,h.keep.belowB hb hB hg,h.bel.trans (hb.mono (Nat.le_trans h.le2 hB)),h.le,h.le2⟩
theorem LI.set_ (h:LI gl b W0 pre W) (x:El):LI gl b W0 (pre ++ [x]) (W.setCell ⟨gl,0,none⟩ x.val)∧Keep gl W (W.setCell ⟨gl,0,none⟩ x.val):=by
 obtain ⟨A,m,c,e⟩:=lastv_slice pre
 have hb:=h.blk
 rw [e] at hb
 have hk:=Keep.setBox (A':=x.A) (l':=x.l) (c':=x.c) hb
 refine ⟨⟨?_,h.keep.trans hk,h.bel.setCell (p:=⟨gl,0,none⟩) h.le _,h.le,h.le2⟩,hk⟩
 rw [lastv_snoc]
 have:=hb.set_ 0 x.val
 simpa using this
end
end Go.Proofs.Ytipocabbjinbhaa
namespace Go.Proofs.Ytipocabbjinbhaa
open Go.RowKit
theorem FitP.dl {p:List Int} (h:FitP p):Dl 1000000000 p:=fun k=>by
 have:=dlen_le_of_lt (h k)
 have:=FW_eq
 omega
end Go.Proofs.Ytipocabbjinbhaa
namespace Go.Proofs.Ytipocabbjinbhaa
open Go.RowKit
end Go.Proofs.Ytipocabbjinbhaa
