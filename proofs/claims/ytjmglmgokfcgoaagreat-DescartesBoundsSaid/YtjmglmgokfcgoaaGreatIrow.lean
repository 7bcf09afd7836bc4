/- Rows of ints of the call's own; the walk of cylinderref11.Trim. -/
import Derived.Test.YtjmglmgokfcgoaaGreatRbH
import Derived.Test.YtjmglmgokfcgoaaGreatSft
import Derived.IntWalk
namespace Go.Proofs.YtjmglmgokfcgoaaGreat
open Go.RowKit
def icells (zs:List Int):Array Value:=(zs.map (Value.int .i64)).toArray
theorem icells_get (zs:List Int) {i:Nat} (h:i<zs.length):(icells zs)[i]?=some (.int .i64 (zs.getD i 0)):=by
 simp [icells,List.getD_eq_getElem?_getD,h]
theorem icells_set (zs:List Int) (i:Nat) (x:Int):(icells zs).setIfInBounds i (.int .i64 x)=icells (zs.set i x):=by
 simp [icells,List.map_set]
def IRow (w:World) (g:Nat) (zs:List Int):Prop:=Blk w g 3 (icells zs)
section
variable {w w':World} {g:Nat} {zs:List Int}
theorem IRow.lt (h:IRow w g zs):g<w.heap.size:=Blk.lt h
theorem IRow.cell (h:IRow w g zs) {i:Nat} (hi:i<zs.length):w.cell? ⟨g,i,none⟩=some (.int .i64 (zs.getD i 0)):=(Blk.cell h i).trans (icells_get zs hi)
theorem IRow.frozen (h:IRow w g zs) (i:Nat):w.frozen? ⟨g,i,none⟩=false:=Blk.frozen h i
theorem IRow.set_ (h:IRow w g zs) (i:Nat) (x:Int):IRow (w.setCell ⟨g,i,none⟩ (.int .i64 x)) g (zs.set i x):=by
 unfold IRow
 rw [← icells_set]
 exact Blk.set_ h i _
theorem IRow.drew (h:IRow w g zs):IRow w.drew g zs:=h
theorem IRow.at_ (h:IRow w g zs) {cap:Nat} (hc:zs.length≤cap):I64At w (some ⟨g,0,none⟩) zs.length cap zs :=
 ⟨rfl,hc,.inr ⟨g,0,rfl,h.lt,fun j hj=>by rw [Nat.zero_add];exact h.cell hj⟩⟩
end
theorem icells_replicate (n:Nat):icells (List.replicate n 0)=(List.replicate n (.int .i64 0)).toArray:=by
 simp [icells]
theorem wpList_make_int (w:World) {ops:Array Oper} {rest:List Oper} {o:Oper} {a:Act} {Q:Exit→Act→World→Prop}
  (hg:o.guard=none) (l c:Operand) (hop:o.op=Op.makeSlice 32 l c) (n:Nat) (hl:a.eval l=.int .i64 (n:Int)) (hc:a.eval c=.int .i64 (n:Int)) (hn:n≤17592186044416)
  (hK:∀ w',IRow w' w.heap.size (List.replicate n 0)→Below w.heap.size w w'→w'.heap.size=w.heap.size+1→wpList Tryz.prog ops Q rest (a.put o.dst (.slice (some ⟨w.heap.size,0,none⟩) n n)) w') :
  wpList Tryz.prog ops Q (o :: rest) a w:=by
 obtain ⟨i,hi,hz,hs,hb⟩:=info_parts info_int64
 refine wpList_plain hg fun K hK'=>?_
 have hrun:=run_make (P:=Tryz.prog) w 32 3 i (.int .i64 0) Tryz.underlying32 hi hz .i64 .i64 (n:Int) (n:Int) (by omega) (by omega) (by rw [hb];omega) (by omega)
 unfold Oper.wp
 simp [execOp,hop,hl,hc,hrun,Result.andThen]
 refine hK' _ _ (hK _ ?_ ((Below.refl _ _).alloc (Nat.le_refl _) _) (by simp))
 unfold IRow
 rw [icells_replicate,← madeCells_one,hs,Nat.mul_one]
 exact Blk.new w _ _
theorem I64At.take {w:World} {A:Option Addr} {len cap:Nat} {p:List Int} (h:I64At w A len cap p) {k:Nat} (hk:k≤len):I64At w A k cap (p.take k):=by
 refine ⟨by rw [List.length_take,h.length];omega,by have:=h.cap;omega,?_⟩
 rcases Nat.eq_zero_or_pos k with h0 | h0
 ·exact .inl h0
 ·obtain ⟨b,off,hA,hlt,hc⟩:=h.at_ (by omega)
  refine .inr ⟨b,off,hA,hlt,fun j hj=>?_⟩
  rw [hc j (by omega),take_getD p hj]
set_option maxRecDepth 100000 in
set_option maxHeartbeats 1000000 in
theorem rtrim_any (A:Option Addr) (len cap:Nat) (p:List Int) (w:World) (h:I64At w A len cap p) (hm:len≤1099511627776) :
  Calls Tryz.prog 87 #[.slice A len cap] w fun e w'=>e=.returned (.slice A (plen p) cap)∧w=w':=by
 have htl:plen p≤len:=by have:=plen_le p;have:=h.length;omega
 have hcap:=h.cap
 go_enter Tryz.func87,Tryz.ntmps87
 go_wp2
 go_loop [3] (fun n=>∃ k:Nat,k≤len∧plen p≤k∧n=.int .i64 k) (fun n=>(intOf n).toNat)
 case atStart=>exact ⟨len,by omega,by omega,rfl⟩
 case round =>
  obtain ⟨k,hk,ht,rfl⟩:=hrel
  cases k with
  | zero =>
    have H0:=Lib.hid (show plen p=0 by omega)
    clear h ht htl
    go_wp2
    go_ret
    exact ⟨by rw [H0.out];rfl,rfl⟩
  | succ k =>
    obtain ⟨b,off,rfl,hb,hc⟩:=h.at_ (by omega)
    have e0:=hc k (by omega)
    have hpr:=Lib.hid (plen_pred p k ht)
    have heq:=Lib.hid (plen_eq p k ht)
    obtain ⟨x,hx⟩:∃ x,x=p.getD k 0:=⟨_,rfl⟩
    rw [← hx] at e0
    have Hx:=Lib.hid hx
    clear hc h hx ht htl
    have i1:IntKind.i64.wrap ((k+1:Nat)-1:Int)=(k:Int):=by rw [IntWalk.i64_in _ (by omega)];omega
    by_cases h0:x=0
    ·subst h0
     go_wp2
     go_round
     case rel=>exact ⟨k,by omega,hpr.out Hx.out.symm,by go_num⟩
     case measure=>simp [intOf]
    ·have hb0:(x == 0)=false:=by rw [beq_eq_false_iff_ne];exact h0
     have H1:=Lib.hid (heq.out (by rw [← Hx.out];exact h0))
     clear h0
     go_wp2
     go_ret
     exact ⟨by rw [H1.out];rfl,rfl⟩
end Go.Proofs.YtjmglmgokfcgoaaGreat
