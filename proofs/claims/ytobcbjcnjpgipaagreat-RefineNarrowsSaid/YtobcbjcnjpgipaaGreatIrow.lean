/- Rows of ints of the call's own; the walk of cylinderref11.Trim. -/
import Derived.Test.YtobcbjcnjpgipaaGreatRbH
import Derived.Test.YtobcbjcnjpgipaaGreatSft
import Derived.IntWalk
namespace Go.Proofs.YtobcbjcnjpgipaaGreat
open Go.RowKit
def icells (zs:List Int):Array Value:=(zs.map (Value.int .i64)).toArray
theorem icells_get (zs:List Int) {i:Nat} (h:i<zs.length):(icells zs)[i]?=some (.int .i64 (zs.getD i 0)):=by
 simp[icells,List.getD_eq_getElem?_getD,h]
def IRow (w:World) (g:Nat) (zs:List Int):Prop:=Blk w g 3 (icells zs)
section
variable {w w':World} {g:Nat} {zs:List Int}
theorem IRow.lt (h:IRow w g zs):g<w.heap.size:=Blk.lt h
theorem IRow.cell (h:IRow w g zs) {i:Nat} (hi:i<zs.length):w.cell? ⟨g,i,none⟩=some (.int .i64 (zs.getD i 0)):=(Blk.cell h i).trans (icells_get zs hi)
theorem IRow.at_ (h:IRow w g zs) {cap:Nat} (hc:zs.length<=cap):I64At w (some ⟨g,0,none⟩) zs.length cap zs :=
 ⟨rfl,hc,.inr ⟨g,0,rfl,h.lt,fun j hj=>by rw[Nat.zero_add];exact h.cell hj⟩⟩
end
theorem I64At.take {w:World} {A:Option Addr} {len cap:Nat} {p:List Int} (h:I64At w A len cap p) {k:Nat} (hk:k<=len):I64At w A k cap (p.take k):=by
 refine ⟨by rw[List.length_take,h.length];omega,by have:=h.cap;omega,?_⟩
 rcases Nat.eq_zero_or_pos k with h0 | h0
 ·exact .inl h0
 ·obtain ⟨b,off,hA,hlt,hc⟩:=h.at_ (by omega)
  refine .inr ⟨b,off,hA,hlt,fun j hj=>?_⟩
  rw[hc j (by omega),take_getD p hj]
end Go.Proofs.YtobcbjcnjpgipaaGreat
