/- The walk of unipoly.Shift. -/
import Derived.Deep.RegionHeld3
import Derived.Test.YtpeiiomjnjemjaaGreatRbH
import Derived.Test.YtpeiiomjnjemjaaGreatIntE
import Derived.Test.YtpeiiomjnjemjaaGreatPop
import Derived.IntWalk
namespace Go.Proofs.YtpeiiomjnjemjaaGreat
def hd0:List Int->Int
 | []=>0
 | a :: _=>a
def mulX (c:Int):Int->List Int->List Int
 | s,[]=>[s]
 | s,b :: y=>(s+c*b) :: mulX c b y
def hsh (c:Int):List Int->List Int
 | []=>[]
 | a :: t=>mulX c a (hsh c t)
def syn (c:Int):List Int->List Int
 | []=>[]
 | a :: t=>(if t=[] then a else a+c*hd0 (syn c t)) :: syn c t
def pass (c:Int) (low:Nat) (l:List Int):List Int:=l.take low ++ syn c (l.drop low)
def st (c:Int) (l:List Int):Nat->List Int
 | 0=>l
 | k+1=>pass c k (st c l k)
end Go.Proofs.YtpeiiomjnjemjaaGreat
namespace Go.Proofs.YtpeiiomjnjemjaaGreat
open Go.RowKit
noncomputable def FW:Nat:=Classical.choose (⟨1095000,rfl⟩:∃ n:Nat,n=1095000)
theorem FW_eq:FW=1095000:=Classical.choose_spec (⟨1095000,rfl⟩:∃ n:Nat,n=1095000)
def Fit (z:Int):Prop:=z.natAbs<BB^FW
theorem sm_pow {n k:Nat} (h:n<BB^k) (hk:k<=1000000000):Sm n:=Nat.le_trans (dlen_le_of_lt h) (by omega)
theorem Fit.sm {z:Int} (h:Fit z):SmI z:=sm_pow h (by rw[FW_eq];omega)
theorem Fit.mulok {a:Int} (_h:Fit a) (b:Int):MulOK a.natAbs b.natAbs:=trivial
theorem Fit.mul {a b:Int} (ha:Fit a) (hb:Fit b):(a*b).natAbs<BB^(FW+FW):=by
 rw[Int.natAbs_mul,Nat.pow_add]
 exact Nat.mul_lt_mul'' ha hb
theorem Fit.add {a b c:Int} (ha:Fit a) (hb:Fit b) (hc:Fit c):Sm (a.natAbs+(b*c).natAbs):=by
 have h1:=hb.mul hc
 have h2:BB^FW<=BB^(FW+FW):=Nat.pow_le_pow_right BB_pos (by omega)
 refine sm_pow (k:=FW+FW+1) ?_ (by rw[FW_eq];omega)
 rw[Nat.pow_succ]
 have h3:BB^(FW+FW)*2<=BB^(FW+FW)*BB:=Nat.mul_le_mul_left _ (by rw[BB_eq];omega)
 unfold Fit at ha
 omega
theorem Fit.sm2 {a b:Int} (ha:Fit a) (hb:Fit b):SmI (a*b):=sm_pow (ha.mul hb) (by rw[FW_eq];omega)
theorem IBox.row {W:World} {g g':Nat} {n:Bool} {A:Option Addr} {l c:Nat} {z:Int} {zs:List Int} (h:IBox W g n A l c z) (hr:PRow W g' zs) {i:Nat} (hi:i<zs.length) (hg:g≠g') (u v:Value) :
  IBox ((W.setCell ⟨g',i*2,none⟩ u).setCell ⟨g',i*2+1,none⟩ v) g n A l c z:=by
 obtain ⟨n0,A0,l0,c0,e0,e1,_⟩:=hr.elems i hi
 have k0:=h.c0
 have k1:=h.c1
 have f0:=h.f0
 have f1:=h.f1
 have e1':(W.setCell ⟨g',i*2,none⟩ u).cell? ⟨g',i*2+1,none⟩=some (.slice A0 l0 c0):=by
  rw[World.cell?_setCell_other W _ _ _ (by simp)];exact e1
 exact ⟨by go_simp,by go_simp,by go_simp,by go_simp,by simpa [World.setCell] using h.lt,(h.hz.store _ e0 (noDigit_bool _)).store _ e1' (noDigit_slice _ _ _)⟩
theorem Fit.smn {a:Nat} (h:Fit (a:Int)):Sm a:=by
 have h1:=h.sm
 unfold SmI at h1
 rw[Int.natAbs_natCast] at h1
 exact h1
end Go.Proofs.YtpeiiomjnjemjaaGreat
