/- The walks of division.Quo and division.Exact for every divisor other than 0. -/
import Derived.Test.YtipocabbjinbhaaNatS
import Derived.Test.YtipocabbjinbhaaDivC
import Derived.WalkMore
import Derived.Test.YtipocabbjinbhaaIntE
import Derived.Test.YtipocabbjinbhaaShelf
import Derived.Test.YtipocabbjinbhaaIrow
import Derived.Test.YtipocabbjinbhaaSft
import Derived.Deep.RegionHeld3
namespace Go.Proofs.Ytipocabbjinbhaa
structure EstInv (U2 u0 v1 v2 d r o:Nat):Prop where
 dl:d<BB
 rl:r<BB
 ol:o≤1
 sum:d*v1+(r+BB*o)=U2
 top:U2*BB+u0<(d+1)*(v1*BB+v2)∨d=BB-1
theorem EstInv.step {U2 u0 v1 v2 d r:Nat} (h:EstInv U2 u0 v1 v2 d r 0) (hn:r*BB+u0<d*v2) (r' o':Nat) (hr:r'<BB) (ho:o'≤1) (hs:r'+BB*o'=r+v1):0<d∧EstInv U2 u0 v1 v2 (d-1) r' o':=by
 have hd0:0<d:=by
  rcases Nat.eq_zero_or_pos d with h0 | h0
  ·rw [h0,Nat.zero_mul] at hn;omega
  ·exact h0
 obtain ⟨k,rfl⟩:∃ k,d=k+1:=⟨d-1,by omega⟩
 have h1:=h.sum
 have h2:=h.dl
 rw [Nat.add_mul,Nat.one_mul] at h1
 refine ⟨hd0,⟨by omega,hr,ho,?_,.inl ?_⟩⟩
 ·rw [Nat.add_sub_cancel];omega
 ·rw [Nat.add_sub_cancel]
  have e:(k+1)*(v1*BB+v2)=(k+1)*v1*BB+(k+1)*v2:=by rw [Nat.mul_add,Nat.mul_assoc]
  have e2:U2*BB=(k+1)*v1*BB+r*BB:=by
   rw [← h.sum,Nat.mul_zero,Nat.add_zero r,Nat.add_mul]
  rw [e,e2]
  omega
theorem take_set_le (ds:List Nat) {j k:Nat} (h:j≤k) (x:Nat):(ds.set k x).take j=ds.take j:=by
 rw [List.take_set,List.set_eq_of_length_le (by simp;omega)]
end Go.Proofs.Ytipocabbjinbhaa
namespace Go.Proofs.Ytipocabbjinbhaa
open Go.RowKit
structure Win (w wr:World) (g off k:Nat) (zs0 zs:List Nat):Prop where
 z:DRow wr g zs
 len:zs.length=zs0.length
 wd:Wd zs
 take:zs.take off=zs0.take off
 drop:zs.drop (off+k)=zs0.drop (off+k)
 only:Only g w wr
theorem Win.refl {w:World} {g:Nat} {zs:List Nat} (h:DRow w g zs) (hw:Wd zs) (off k:Nat):Win w w g off k zs zs:=⟨h,rfl,hw,rfl,rfl,Only.refl _ _⟩
theorem Win.set_ {w wr:World} {g off k:Nat} {zs0 zs:List Nat} (h:Win w wr g off k zs0 zs) (i x:Nat) (hi:i<k) (hx:x<BB):Win w (wr.setCell ⟨g,off+i,none⟩ (.int .u32 (x:Int))) g off k zs0 (zs.set (off+i) x) :=
 ⟨h.z.set_ _ _,by rw [List.length_set,h.len],h.wd.set hx,by rw [take_set_le _ (by omega),h.take],by rw [drop_set_lt _ (by omega),h.drop],h.only.setCell _ _⟩
theorem mulinv_arith {V V' P B x z l b b' c c' q T S:Nat} (h1:V'+P*x=V+P*z) (h2:V+T=S+P*(c+b)) (h3:z+l+b=x+B*b') (h4:l+B*c'=q+c):V'+(T+P*q)=S+P*B*(c'+b'):=by
 have h5:P*(z+l+b)=P*(x+B*b'):=by rw [h3]
 have h6:P*(l+B*c')=P*(q+c):=by rw [h4]
 rw [Nat.mul_add,Nat.mul_add,Nat.mul_add,← Nat.mul_assoc] at h5
 rw [Nat.mul_add,Nat.mul_add,← Nat.mul_assoc] at h6
 rw [Nat.mul_add] at h2
 rw [Nat.mul_add]
 omega
structure SubMInv (w wr:World) (g off n E:Nat) (dv zs0:List Nat) (i c b:Nat) (zs:List Nat):Prop where
 carry:c<BB
 borrow:b≤1
 win:Win w wr g off (n+1) zs0 zs
 sum:val zs+BB^off*(E*val (dv.take i))=val zs0+BB^(off+i)*(c+b)
theorem SubMInv.step {w wr:World} {g off n E:Nat} {dv zs0:List Nat} {i c b:Nat} {zs:List Nat} (h:SubMInv w wr g off n E dv zs0 i c b zs) (hE:E<BB) (hd:Wd dv) (hi:i<n) (hl:off+n+1≤zs0.length) :
  SubMInv w (wr.setCell ⟨g,off+i,none⟩ (.int .u32 (dLo (zs.getD (off+i) 0) (sLo (mLo (dv.getD i 0) E) c 0) b:Nat))) g off n E dv zs0 (i+1) (pHi1 (dv.getD i 0) E c) (dHi (zs.getD (off+i) 0) (sLo (mLo (dv.getD i 0) E) c 0) b) (zs.set (off+i) (dLo (zs.getD (off+i) 0) (sLo (mLo (dv.getD i 0) E) c 0) b)):=by
 refine ⟨pHi1_lt (hd.getD _) hE h.carry,dHi_le _ _ _,h.win.set_ i _ (by omega) (dLo_lt _ _ _),?_⟩
 have h1:=val_set zs (k:=off+i) (by rw [h.win.len];omega) (dLo (zs.getD (off+i) 0) (sLo (mLo (dv.getD i 0) E) c 0) b)
 have h3:=d_eq (h.win.wd.getD (off+i)) (sLo_lt (mLo (dv.getD i 0) E) c 0) h.borrow
 have h4:=p_eq1 (dv.getD i 0) E c
 have h5:=mulinv_arith h1 h.sum h3 h4
 rw [val_take_succ' dv,← Nat.add_assoc off,Nat.pow_succ,← h5]
 congr 1
 rw [Nat.pow_add]
 generalize val (dv.take i)=X
 generalize dv.getD i 0=y
 generalize BB^i=P
 generalize BB^off=Q
 grind
theorem SubMInv.top {w wr:World} {g off n E:Nat} {dv zs0:List Nat} {c b:Nat} {zs:List Nat} (h:SubMInv w wr g off n E dv zs0 n c b zs) (hl:off+n+1≤zs0.length) (hdl:dv.length=n) :
  Win w (wr.setCell ⟨g,off+n,none⟩ (.int .u32 (dLo (zs.getD (off+n) 0) c b:Nat))) g off (n+1) zs0 (zs.set (off+n) (dLo (zs.getD (off+n) 0) c b)) ∧
   val (zs.set (off+n) (dLo (zs.getD (off+n) 0) c b))+BB^off*(E*val dv)=val zs0+BB^(off+n+1)*dHi (zs.getD (off+n) 0) c b:=by
 refine ⟨h.win.set_ n _ (by omega) (dLo_lt _ _ _),?_⟩
 have h1:=val_set zs (k:=off+n) (by rw [h.win.len];omega) (dLo (zs.getD (off+n) 0) c b)
 have h3:=d_eq (h.win.wd.getD (off+n)) h.carry h.borrow
 have h2:=h.sum
 rw [List.take_of_length_le (by omega)] at h2
 have h5:BB^(off+n)*(dLo (zs.getD (off+n) 0) c b+c+b)=BB^(off+n)*(zs.getD (off+n) 0+BB*dHi (zs.getD (off+n) 0) c b):=by rw [h3]
 rw [Nat.mul_add,Nat.mul_add,Nat.mul_add,← Nat.mul_assoc] at h5
 rw [Nat.mul_add] at h2
 rw [Nat.pow_succ]
 omega
structure AddBInv (w wr:World) (g off n:Nat) (dv zs0:List Nat) (i c:Nat) (zs:List Nat):Prop where
 carry:c≤1
 win:Win w wr g off (n+1) zs0 zs
 sum:val zs+BB^(off+i)*c=val zs0+BB^off*val (dv.take i)
theorem AddBInv.step {w wr:World} {g off n:Nat} {dv zs0:List Nat} {i c:Nat} {zs:List Nat} (h:AddBInv w wr g off n dv zs0 i c zs) (hd:Wd dv) (hi:i<n) (hl:off+n+1≤zs0.length) :
  AddBInv w (wr.setCell ⟨g,off+i,none⟩ (.int .u32 (sLo (zs.getD (off+i) 0) (dv.getD i 0) c:Nat))) g off n dv zs0 (i+1) (sHi (zs.getD (off+i) 0) (dv.getD i 0) c) (zs.set (off+i) (sLo (zs.getD (off+i) 0) (dv.getD i 0) c)):=by
 refine ⟨sHi_le (h.win.wd.getD _) (hd.getD _) h.carry,h.win.set_ i _ (by omega) (sLo_lt _ _ _),?_⟩
 have h1:=val_set zs (k:=off+i) (by rw [h.win.len];omega) (sLo (zs.getD (off+i) 0) (dv.getD i 0) c)
 have h2:=into_arith _ _ _ _ _ _ _ _ _ _ (s_eq (zs.getD (off+i) 0) (dv.getD i 0) c) h.sum h1
 rw [← Nat.add_assoc,Nat.pow_succ,h2,val_take_succ' dv,Nat.mul_add,Nat.add_assoc,Nat.pow_add,Nat.mul_assoc]
theorem AddBInv.top {w wr:World} {g off n:Nat} {dv zs0:List Nat} {c:Nat} {zs:List Nat} (h:AddBInv w wr g off n dv zs0 n c zs) (hl:off+n+1≤zs0.length) (hdl:dv.length=n) :
  Win w (wr.setCell ⟨g,off+n,none⟩ (.int .u32 (sLo (zs.getD (off+n) 0) c 0:Nat))) g off (n+1) zs0 (zs.set (off+n) (sLo (zs.getD (off+n) 0) c 0)) ∧
   val (zs.set (off+n) (sLo (zs.getD (off+n) 0) c 0))+BB^(off+n+1)*sHi (zs.getD (off+n) 0) c 0=val zs0+BB^off*val dv:=by
 refine ⟨h.win.set_ n _ (by omega) (sLo_lt _ _ _),?_⟩
 have h1:=val_set zs (k:=off+n) (by rw [h.win.len];omega) (sLo (zs.getD (off+n) 0) c 0)
 have h3:=s_eq (zs.getD (off+n) 0) c 0
 have h2:=h.sum
 rw [List.take_of_length_le (by omega)] at h2
 have h5:BB^(off+n)*(sLo (zs.getD (off+n) 0) c 0+BB*sHi (zs.getD (off+n) 0) c 0)=BB^(off+n)*(zs.getD (off+n) 0+c):=by rw [h3,Nat.add_zero]
 rw [Nat.mul_add,Nat.mul_add,← Nat.mul_assoc] at h5
 rw [Nat.pow_succ]
 omega
end Go.Proofs.Ytipocabbjinbhaa
namespace Go.Proofs.Ytipocabbjinbhaa
open Go.RowKit
noncomputable def shd (x y s:Nat):Nat:=(x+BB*y) / 2^s % BB
theorem shd_lt (x y s:Nat):shd x y s<BB:=Nat.mod_lt _ BB_pos
theorem shd_eq {x s:Nat} (y:Nat) (hx:x<BB) (hs:s<32):2^s*shd x y s+x % 2^s=x+BB*(y % 2^s):=by
 have hp:=Nat.two_pow_pos s
 have e:BB=2^s*2^(32-s):=BB_pow hs
 unfold shd
 generalize 2^(32-s)=T at *
 generalize 2^s=S at *
 have hy:=Nat.div_add_mod y S
 have hl:=Nat.mod_lt y hp
 generalize y / S=a at *
 generalize y % S=b at *
 have h1:(x+BB*y) / S=x / S+T*y:=by
  rw [e,Nat.mul_assoc,Nat.add_mul_div_left _ _ hp]
 have h2:x / S<T:=by
  refine Nat.div_lt_of_lt_mul ?_
  rw [← e];exact hx
 have h3:x / S+T*y=(x / S+T*b)+BB*a:=by
  rw [← hy,e,Nat.mul_add]
  have:T*(S*a)=S*T*a:=by rw [← Nat.mul_assoc,Nat.mul_comm T S]
  omega
 have h4:x / S+T*b<BB:=by
  have:T*(b+1)≤T*S:=Nat.mul_le_mul_left _ hl
  rw [Nat.mul_comm T S,← e,Nat.mul_add] at this
  omega
 rw [h1,h3,Nat.add_mul_mod_self_left,Nat.mod_eq_of_lt h4,Nat.mul_add]
 have h5:=Nat.div_add_mod x S
 have h6:S*(T*b)=BB*b:=by rw [e,Nat.mul_assoc]
 omega
structure SrInv (w wr:World) (g n s:Nat) (da:List Nat) (i:Nat) (zs:List Nat):Prop where
 z:DRow wr g zs
 len:zs.length=n
 wd:Wd zs
 sum:2^s*val (zs.take i)+da.getD 0 0 % 2^s=val (da.take i)+BB^i*(da.getD i 0 % 2^s)
 below:Below w.heap.size w wr
theorem SrInv.step {w wr:World} {n s:Nat} {da:List Nat} {i:Nat} {zs:List Nat} (h:SrInv w wr w.heap.size n s da i zs) (hd:Wd da) (hs:s<32) (hn:i<n) :
  SrInv w (wr.setCell ⟨w.heap.size,i,none⟩ (.int .u32 ((shd (da.getD i 0) (da.getD (i+1) 0) s:Nat):Int))) w.heap.size n s da (i+1) (zs.set i (shd (da.getD i 0) (da.getD (i+1) 0) s)):=by
 refine ⟨h.z.set_ _ _,by rw [List.length_set,h.len],h.wd.set (shd_lt _ _ _),?_,h.below.setCell (p:=⟨w.heap.size,i,none⟩) (Nat.le_refl _) _⟩
 rw [take_set_succ zs (by rw [h.len];exact hn),val_append,val_take_succ' da]
 have e1:(zs.take i).length=i:=by rw [List.length_take,h.len];omega
 rw [e1]
 simp only [val,Nat.mul_zero,Nat.add_zero]
 have e2:=shd_eq (da.getD (i+1) 0) (hd.getD i) hs
 have e3:=h.sum
 generalize shd (da.getD i 0) (da.getD (i+1) 0) s=z at *
 generalize da.getD (i+1) 0 % 2^s=y at *
 generalize da.getD i 0 % 2^s=r at *
 generalize da.getD i 0=x at *
 generalize da.getD 0 0 % 2^s=r0 at *
 generalize val (zs.take i)=A at *
 generalize val (da.take i)=D at *
 rw [Nat.pow_succ]
 generalize BB^i=P at *
 generalize 2^s=S at *
 generalize BB=B at *
 have h1:P*(S*z+r)=P*(x+B*y):=by rw [e2]
 rw [Nat.mul_add,Nat.mul_add,← Nat.mul_assoc P B] at h1
 rw [Nat.mul_add]
 have h2:S*(P*z)=P*(S*z):=by rw [← Nat.mul_assoc,Nat.mul_comm S P,Nat.mul_assoc]
 omega
end Go.Proofs.Ytipocabbjinbhaa
namespace Go.Proofs.Ytipocabbjinbhaa
open Go.RowKit
section
variable {w wr:World} {gu gq V U m lq j:Nat} {zs qs:List Nat}
end
end Go.Proofs.Ytipocabbjinbhaa
namespace Go.Proofs.Ytipocabbjinbhaa
open Go.RowKit
end Go.Proofs.Ytipocabbjinbhaa
namespace Go.Proofs.Ytipocabbjinbhaa
open Go.RowKit
end Go.Proofs.Ytipocabbjinbhaa
