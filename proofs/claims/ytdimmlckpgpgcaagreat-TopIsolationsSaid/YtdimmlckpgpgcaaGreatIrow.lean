/- Rows of ints of the call's own; the walk of cylinderref11.Trim. -/
import Derived.Test.YtdimmlckpgpgcaaGreatRbH
import Derived.Test.YtdimmlckpgpgcaaGreatSft
import Derived.IntWalk
namespace Go.Proofs.YtdimmlckpgpgcaaGreat
open Go.RowKit
def ah8 (zs:List Int):Array Value:=(zs.map (Value.int .i64)).toArray
theorem anR (zs:List Int) {i:Nat} (h:i<zs.length):(ah8 zs)[i]?=some (.int .i64 (zs.getD i 0)):=by
 simp[ah8,List.getD_eq_getElem?_getD,h]
theorem anS (zs:List Int) (i:Nat) (x:Int):(ah8 zs).setIfInBounds i (.int .i64 x)=ah8 (zs.set i x):=by
 simp[ah8,List.map_set]
def ajW (w:World) (g:Nat) (zs:List Int):Prop:=Blk w g 3 (ah8 zs)
section
variable {w w':World} {g:Nat} {zs:List Int}
theorem ajW.lt (h:ajW w g zs):g<w.heap.size:=Blk.lt h
theorem ajW.cell (h:ajW w g zs) {i:Nat} (hi:i<zs.length):w.cell? ⟨g,i,none⟩=some (.int .i64 (zs.getD i 0)):=(Blk.cell h i).trans (anR zs hi)
theorem ajW.frozen (h:ajW w g zs) (i:Nat):w.frozen? ⟨g,i,none⟩=false:=Blk.frozen h i
theorem ajW.acP (h:ajW w g zs) (i:Nat) (x:Int):ajW (w.setCell ⟨g,i,none⟩ (.int .i64 x)) g (zs.set i x):=by
 unfold ajW
 rw[<- anS]
 exact Blk.acP h i _
theorem ajW.below {B:Nat} (h:ajW w g zs) (hb:Below B w w') (hg:g<B):ajW w' g zs:=Blk.below h hb hg
theorem ajW.drew (h:ajW w g zs):ajW w.drew g zs:=h
theorem ajW.at_ (h:ajW w g zs) {cap:Nat} (hc:zs.length<=cap):afw w (some ⟨g,0,none⟩) zs.length cap zs :=
 ⟨rfl,hc,.inr ⟨g,0,rfl,h.lt,fun j hj=>by rw[Nat.zero_add];exact h.cell hj⟩⟩
end
theorem afw.take {w:World} {A:Option Addr} {len cap:Nat} {p:List Int} (h:afw w A len cap p) {k:Nat} (hk:k<=len):afw w A k cap (p.take k):=by
 refine ⟨by rw[List.length_take,h.length];omega,by have:=h.cap;omega,?_⟩
 rcases Nat.eq_zero_or_pos k with h0 | h0
 ·exact .inl h0
 ·obtain ⟨b,off,hA,hlt,hc⟩:=h.at_ (by omega)
  refine .inr ⟨b,off,hA,hlt,fun j hj=>?_⟩
  rw[hc j (by omega),akb p hj]
end Go.Proofs.YtdimmlckpgpgcaaGreat
