/- Rows of ints of the call's own; the walk of cylinderref11.Trim. -/
import Derived.Test.YtkefcldcfeolbaaGreatRbH
import Derived.Test.YtkefcldcfeolbaaGreatSft
import Derived.IntWalk
namespace Go.Proofs.YtkefcldcfeolbaaGreat
open Go.RowKit
def aib (zs:List Int):Array Value:=(zs.map (Value.int .i64)).toArray
theorem am0 (zs:List Int) {i:Nat} (h:i<zs.length):(aib zs)[i]?=some (.int .i64 (zs.getD i 0)):=by
 simp[aib,List.getD_eq_getElem?_getD,h]
theorem am1 (zs:List Int) (i:Nat) (x:Int):(aib zs).setIfInBounds i (.int .i64 x)=aib (zs.set i x):=by
 simp[aib,List.map_set]
def ajF (w:World) (g:Nat) (zs:List Int):Prop:=Blk w g 3 (aib zs)
section
variable {w w':World} {g:Nat} {zs:List Int}
theorem ajF.lt (h:ajF w g zs):g<w.heap.size:=Blk.lt h
theorem ajF.cell (h:ajF w g zs) {i:Nat} (hi:i<zs.length):w.cell? ⟨g,i,none⟩=some (.int .i64 (zs.getD i 0)):=(Blk.cell h i).trans (am0 zs hi)
theorem ajF.frozen (h:ajF w g zs) (i:Nat):w.frozen? ⟨g,i,none⟩=false:=Blk.frozen h i
theorem ajF.acn (h:ajF w g zs) (i:Nat) (x:Int):ajF (w.setCell ⟨g,i,none⟩ (.int .i64 x)) g (zs.set i x):=by
 unfold ajF
 rw[<- am1]
 exact Blk.acn h i _
theorem ajF.below {B:Nat} (h:ajF w g zs) (hb:Below B w w') (hg:g<B):ajF w' g zs:=Blk.below h hb hg
theorem ajF.drew (h:ajF w g zs):ajF w.drew g zs:=h
theorem ajF.at_ (h:ajF w g zs) {cap:Nat} (hc:zs.length<=cap):afl w (some ⟨g,0,none⟩) zs.length cap zs :=
 ⟨rfl,hc,.inr ⟨g,0,rfl,h.lt,fun j hj=>by rw[Nat.zero_add];exact h.cell hj⟩⟩
end
theorem afl.take {w:World} {A:Option Addr} {len cap:Nat} {p:List Int} (h:afl w A len cap p) {k:Nat} (hk:k<=len):afl w A k cap (p.take k):=by
 refine ⟨by rw[List.length_take,h.length];omega,by have:=h.cap;omega,?_⟩
 rcases Nat.eq_zero_or_pos k with h0 | h0
 ·exact .inl h0
 ·obtain ⟨b,off,hA,hlt,hc⟩:=h.at_ (by omega)
  refine .inr ⟨b,off,hA,hlt,fun j hj=>?_⟩
  rw[hc j (by omega),ajT p hj]
end Go.Proofs.YtkefcldcfeolbaaGreat
