/- Rows of ints of the call's own; the walk of cylinderref11.Trim. -/
import Derived.Test.YtpeiiomjnjemjaaGreatRbH
import Derived.Test.YtpeiiomjnjemjaaGreatSft
import Derived.IntWalk
namespace Go.Proofs.YtpeiiomjnjemjaaGreat
open Go.RowKit
def icells (zs:List Int):Array Value:=(zs.map (Value.int .i64)).toArray
theorem icells_get (zs:List Int) {i:Nat} (h:i<zs.length):(icells zs)[i]?=some (.int .i64 (zs.getD i 0)):=by
 simp[icells,List.getD_eq_getElem?_getD,h]
theorem icells_set (zs:List Int) (i:Nat) (x:Int):(icells zs).setIfInBounds i (.int .i64 x)=icells (zs.set i x):=by
 simp[icells,List.map_set]
def IRow (w:World) (g:Nat) (zs:List Int):Prop:=Blk w g 3 (icells zs)
section
variable {w w':World} {g:Nat} {zs:List Int}
theorem IRow.lt (h:IRow w g zs):g<w.heap.size:=Blk.lt h
theorem IRow.cell (h:IRow w g zs) {i:Nat} (hi:i<zs.length):w.cell? ⟨g,i,none⟩=some (.int .i64 (zs.getD i 0)):=(Blk.cell h i).trans (icells_get zs hi)
theorem IRow.frozen (h:IRow w g zs) (i:Nat):w.frozen? ⟨g,i,none⟩=false:=Blk.frozen h i
theorem IRow.set_ (h:IRow w g zs) (i:Nat) (x:Int):IRow (w.setCell ⟨g,i,none⟩ (.int .i64 x)) g (zs.set i x):=by
 unfold IRow
 rw[<- icells_set]
 exact Blk.set_ h i _
theorem IRow.below {B:Nat} (h:IRow w g zs) (hb:Below B w w') (hg:g<B):IRow w' g zs:=Blk.below h hb hg
theorem IRow.drew (h:IRow w g zs):IRow w.drew g zs:=h
theorem IRow.at_ (h:IRow w g zs) {cap:Nat} (hc:zs.length<=cap):I64At w (some ⟨g,0,none⟩) zs.length cap zs :=
 ⟨rfl,hc,.inr ⟨g,0,rfl,h.lt,fun j hj=>by rw[Nat.zero_add];exact h.cell hj⟩⟩
end
theorem I64At.take {w:World} {A:Option Addr} {len cap:Nat} {p:List Int} (h:I64At w A len cap p) {k:Nat} (hk:k<=len):I64At w A k cap (p.take k):=by
 refine ⟨by rw[List.length_take,h.length];omega,by have:=h.cap;omega,?_⟩
 rcases Nat.eq_zero_or_pos k with h0 | h0
 ·exact .inl h0
 ·obtain ⟨b,off,hA,hlt,hc⟩:=h.at_ (by omega)
  refine .inr ⟨b,off,hA,hlt,fun j hj=>?_⟩
  rw[hc j (by omega),take_getD p hj]
end Go.Proofs.YtpeiiomjnjemjaaGreat
