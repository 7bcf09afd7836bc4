/- A law for a range over a function whose elements lie in memory: the iterator vouches for what it hands on. At the widest fence. -/
import Derived.RangeFuncNested
import Derived.RangeFuncBound
import Derived.RangeFuncCalls
import Derived.RangeFuncLeaves
import Derived.Test.YtipocabbjinbhaaNatS
namespace Go.Proofs.Ytipocabbjinbhaa
open Go.RowKit
def SlO:Obj→Prop
 | .cells cs _ _=>0<cs.size∧∀ j,j<cs.size→∃ A l c,cs[j]?=some (.slice A l c)
 | _=>False
structure Keep (g:Nat) (W W':World):Prop where
 os:W'.os=W.os
 tape:W'.tape=W.tape
 output:W'.output=W.output
 size:W.heap.size≤W'.heap.size
 same:∀ (k:Nat) (o:Obj),¬ SlO o→W.heap[k]?=some o→o.isCells=true→W'.heap[k]?=some o
 box:(∃ A l c,Blk W g 30 #[.slice A l c])→∃ A l c,Blk W' g 30 #[.slice A l c]
theorem Keep.refl (g:Nat) (W:World):Keep g W W:=⟨rfl,rfl,rfl,Nat.le_refl _,fun _ _ _ h _=>h,fun h=>h⟩
theorem Keep.trans {g:Nat} {A B C:World} (h:Keep g A B) (k:Keep g B C):Keep g A C :=
 ⟨k.os.trans h.os,k.tape.trans h.tape,k.output.trans h.output,Nat.le_trans h.size k.size,fun i o hi ho hc=>k.same i o hi (h.same i o hi ho hc) hc,fun hb=>k.box (h.box hb)⟩
theorem Keep.putObj (g:Nat) {W:World} {l:Nat} {o:Obj} {o':Obj} (hl:W.heap[l]?=some o) (hc:o.isCells=false):Keep g W (W.putObj l o') :=
 ⟨rfl,rfl,rfl,by simp,fun k x _ hk hx=>by
   rw [World.putObj_heap_other (fun e=>by rw [e,hl] at hk;cases hk;rw [hc] at hx;cases hx)];exact hk,fun ⟨A,m,c,hb⟩=>⟨A,m,c,by
   unfold Blk at *
   rw [World.putObj_heap_other (fun e=>by rw [e,hl] at hb;cases hb;cases hc)];exact hb⟩⟩
theorem Keep.below (g:Nat) {A B:World} (h:Below A.heap.size A B):Keep g A B :=
 ⟨h.os,h.tape,h.output,h.size,fun k _ _ hk _=>(h.block k (Array.getElem?_eq_some_iff.1 hk).1).trans hk,fun ⟨A',l,c,hb⟩=>⟨A',l,c,hb.below h hb.lt⟩⟩
structure Near (B:Nat) (A C:World):Prop where
 bel:Below B A C
 slo:∀ (k:Nat) (o:Obj),SlO o→A.heap[k]?=some o→C.heap[k]?=some o
theorem Near.of {B:Nat} {A C:World} (hb:Below A.heap.size A C) (hB:B≤A.heap.size):Near B A C :=
 ⟨hb.mono hB,fun k _ _ h=>(hb.block k (Array.getElem?_eq_some_iff.1 h).1).trans h⟩
section
variable {g:Nat} {W W':World} {A0:Option Addr} {l0 c0:Nat}
theorem Keep.at_ (h:Keep g W W') (_hg:Blk W g 30 #[.slice A0 l0 c0]) {k o:Nat} {v:Value} (hv:W.cell? ⟨k,o,none⟩=some v) (hn:∀ A l c,v≠.slice A l c):W'.heap[k]?=W.heap[k]?:=by
 obtain ⟨x,hx,hc⟩:∃ x,W.heap[k]?=some x∧x.isCells=true:=by
  unfold World.cell? at hv
  cases e:W.heap[k]? with
  | none=>simp [e] at hv
  | some x=>cases x<;>simp_all [Obj.isCells]
 have hs:¬ SlO x:=by
  intro hs
  cases x with
  | cells cs t fr =>
    have e:W.cell? ⟨k,o,none⟩=cs[o]?:=cell_of_row W k o cs t fr hx
    rw [e] at hv
    have hlt:o<cs.size:=by
     rcases Nat.lt_or_ge o cs.size with h' | h'
     ·exact h'
     ·rw [Array.getElem?_eq_none h'] at hv;cases hv
    obtain ⟨A,l,c,h3⟩:=hs.2 o hlt
    rw [h3] at hv
    cases hv
    exact hn _ _ _ rfl
  | _=>exact hs
 rw [h.same k x hs hx hc,hx]
theorem Keep.cell (h:Keep g W W') (hg:Blk W g 30 #[.slice A0 l0 c0]) {k o o':Nat} {v:Value} (hv:W.cell? ⟨k,o,none⟩=some v) (hn:∀ A l c,v≠.slice A l c):W'.cell? ⟨k,o',none⟩=W.cell? ⟨k,o',none⟩ :=
 World.cell?_of_block (w:=W) (h.at_ hg hv hn)
theorem DigAt.keep {A:Option Addr} {len cap:Nat} {ds:List Nat} (hd:DigAt W A len cap ds) (h:Keep g W W') (hg:Blk W g 30 #[.slice A0 l0 c0]):DigAt W' A len cap ds:=by
 refine ⟨hd.length,hd.cap,hd.wd,?_⟩
 rcases hd.cells with e | ⟨b,off,hA,hlt,hc⟩
 ·exact .inl e
 ·rcases Nat.eq_zero_or_pos len with e | e
  ·exact .inl e
  ·exact .inr ⟨b,off,hA,Nat.lt_of_lt_of_le hlt h.size,fun j hj=>(h.cell hg (hc 0 e) (fun _ _ _ x=>by cases x)).trans (hc j hj)⟩
theorem NatN.keep {A:Option Addr} {len cap n:Nat} (hd:NatN W A len cap n) (h:Keep g W W') (hg:Blk W g 30 #[.slice A0 l0 c0]):NatN W' A len cap n:=⟨hd.digits.keep h hg⟩
theorem IntN.keep {neg:Bool} {A:Option Addr} {len cap:Nat} {z:Int} (hd:IntN W neg A len cap z) (h:Keep g W W') (hg:Blk W g 30 #[.slice A0 l0 c0]):IntN W' neg A len cap z:=⟨hd.nat.keep h hg,hd.sign⟩
end
end Go.Proofs.Ytipocabbjinbhaa
