/- The walks of package integer, fifth part: Shl. -/
import Derived.Test.YtipocabbjinbhaaNatS
import Derived.Test.YtipocabbjinbhaaIntD
namespace Go.Proofs.Ytipocabbjinbhaa
open Go.RowKit
noncomputable def lo5 (x s:Nat):Nat:=x*2^s % BB
noncomputable def hi5 (x s:Nat):Nat:=x*2^s / BB
theorem lohi5 (x s:Nat):lo5 x s+BB*hi5 x s=x*2^s:=Nat.mod_add_div _ _
theorem hi5_lt {x s:Nat} (hx:x<BB):hi5 x s<2^s:=by
 unfold hi5
 exact Nat.div_lt_of_lt_mul (Nat.mul_lt_mul_of_pos_right hx (Nat.two_pow_pos s))
theorem BB_pow {s:Nat} (hs:s<32):BB=2^s*2^(32-s):=by
 rw [BB_eq,← Nat.pow_add,show s+(32-s)=32 by omega]
theorem lo5_mul {x s:Nat} (hs:s<32):lo5 x s=2^s*(x % 2^(32-s)):=by
 unfold lo5
 rw [BB_pow hs,Nat.mul_comm x,Nat.mul_mod_mul_left]
theorem lo5_lt (x:Nat) {s c:Nat} (hs:s<32) (hc:c<2^s):c+lo5 x s<BB:=by
 rw [lo5_mul hs,BB_pow hs]
 have h1:x % 2^(32-s)+1≤2^(32-s):=Nat.mod_lt _ (Nat.two_pow_pos _)
 have h2:2^s*(x % 2^(32-s)+1)≤2^s*2^(32-s):=Nat.mul_le_mul_left _ h1
 rw [Nat.mul_add] at h2
 omega
structure ShInv (w wr:World) (g q n s:Nat) (da:List Nat) (i:Nat) (zs:List Nat):Prop where
 z:DRow wr g zs
 len:zs.length=n
 wd:Wd zs
 zero:Zf (q+i+1) zs
 top:zs.getD (q+i) 0<2^s
 sum:val zs=BB^q*(val (da.take i)*2^s)
 below:Below w.heap.size w wr
theorem ShInv.step {w wr:World} {q n s:Nat} {da:List Nat} {i:Nat} {zs:List Nat} (h:ShInv w wr w.heap.size q n s da i zs) (hd:Wd da) (hs:s<32) (hn:q+i+1<n) :
  ShInv w ((wr.setCell ⟨w.heap.size,q+i,none⟩ (.int .u32 ((zs.getD (q+i) 0+lo5 (da.getD i 0) s:Nat):Int))).setCell ⟨w.heap.size,q+(i+1),none⟩ (.int .u32 ((hi5 (da.getD i 0) s:Nat):Int))) w.heap.size q n s da (i+1) ((zs.set (q+i) (zs.getD (q+i) 0+lo5 (da.getD i 0) s)).set (q+(i+1)) (hi5 (da.getD i 0) s)):=by
 have hx:=hd.getD i
 have hl:=h.len
 have h3:=hi5_lt (s:=s) hx
 have h4:=lo5_lt (da.getD i 0) hs h.top
 have h5:hi5 (da.getD i 0) s<BB:=Nat.lt_trans h3 (by rw [BB_eq];exact Nat.pow_lt_pow_right (by omega) hs)
 refine ⟨(h.z.set_ _ _).set_ _ _,by simp [hl],(h.wd.set h4).set h5,?_,?_,?_,(h.below.setCell (p:=⟨w.heap.size,q+i,none⟩) (Nat.le_refl _) _).setCell (p:=⟨w.heap.size,q+(i+1),none⟩) (Nat.le_refl _) _⟩
 ·exact ((h.zero.mono (by omega)).set (by omega)).set (by omega)
 ·rw [List.getD_eq_getElem?_getD,List.getElem?_set_self (by simp;omega)]
  exact h3
 ·have h6:=val_set zs (k:=q+i) (by omega) (zs.getD (q+i) 0+lo5 (da.getD i 0) s)
  have h7:=val_set (zs.set (q+i) (zs.getD (q+i) 0+lo5 (da.getD i 0) s)) (k:=q+(i+1)) (by simp;omega) (hi5 (da.getD i 0) s)
  have h8:(zs.set (q+i) (zs.getD (q+i) 0+lo5 (da.getD i 0) s)).getD (q+(i+1)) 0=0:=by
   have:=h.zero (q+(i+1)) (by omega)
   rw [List.getD_eq_getElem?_getD] at *
   rw [List.getElem?_set_ne (by omega)];exact this
  rw [h8,Nat.mul_zero,Nat.add_zero] at h7
  rw [Nat.mul_add] at h6
  have h9:=h.sum
  rw [val_take_succ',Nat.add_mul,Nat.mul_add,← h9,h7]
  have e:BB^q*(BB^i*da.getD i 0*2^s)=BB^(q+i)*lo5 (da.getD i 0) s+BB^(q+(i+1))*hi5 (da.getD i 0) s:=by
   rw [Nat.mul_assoc (BB^i),← lohi5,← Nat.mul_assoc,← Nat.pow_add,Nat.mul_add,← Nat.add_assoc,Nat.pow_succ,Nat.mul_assoc]
  rw [e]
  omega
end Go.Proofs.Ytipocabbjinbhaa
namespace Go.Proofs.Ytipocabbjinbhaa
open Go.RowKit
end Go.Proofs.Ytipocabbjinbhaa
