/- The walks of natural.BitLen, integer.BitLen, rootbound.logarithm, rootbound.Log. (Len32 by the shelf: text Shelf, written by the kit's lay-shelf.mjs and lay-plain.mjs.) -/
import Derived.Test.YtphmkdmflopcdaaGreatShelf
import Derived.Test.YtphmkdmflopcdaaGreatIntE
import Derived.Test.YtphmkdmflopcdaaGreatIrow
namespace Go.Proofs.YtphmkdmflopcdaaGreat
open Go.RowKit
structure BL (n k:Nat):Prop where
 lt:n<2^k
 le:0<n->2^k<=2*n
theorem aux_BL:∀ f x,x<2^f->BL x (Lib.bitLenAux f x):=by
 intro f
 induction f with
 | zero =>
   intro x h
   have:x=0:=by simpa using h
   subst this
   exact ⟨by decide,fun h=>by omega⟩
 | succ f ih =>
   intro x h
   rw[Lib.bitLenAux]
   by_cases h0:x=0
   ·rw[if_pos h0]
    subst h0
    exact ⟨by decide,fun h=>by omega⟩
   ·rw[if_neg h0]
    rw[Nat.pow_succ] at h
    obtain ⟨h1,h2⟩:=ih (x / 2) (by omega)
    refine ⟨by rw[Nat.add_comm,Nat.pow_succ];omega,fun _=>?_⟩
    rw[Nat.add_comm,Nat.pow_succ]
    by_cases h3:0<x / 2
    ·have:=h2 h3
     omega
    ·have h4:x / 2=0:=by omega
     rw[h4]
     have:Lib.bitLenAux f 0=0:=by cases f<;>simp[Lib.bitLenAux]
     rw[this]
     omega
theorem len_BL {x:Nat} (h:x<4294967296):BL x (Lib.bitLen x):=aux_BL 64 x (Nat.lt_trans h (by decide))
theorem BL_le {n k m:Nat} (h:BL n k) (h0:0<n) (hn:n<2^m):k<=m:=by
 rcases Nat.lt_or_ge m k with h1 | h1
 ·have h2:=h.le h0
  have h3:2^(m+1)<=2^k:=Nat.pow_le_pow_right (by omega) h1
  rw[Nat.pow_succ] at h3
  omega
 ·exact h1
theorem BL_digits {a n x k:Nat} {low:Nat} (ha:a=low+BB^n*x) (hlow:low<BB^n) (hx:0<x) (h:BL x k):BL a (32*n+k):=by
 have hB:BB^n=2^(32*n):=by rw[BB_eq,show (4294967296:Nat)=2^32 by decide,<- Nat.pow_mul]
 rw[hB] at ha hlow
 have h1:=h.lt
 have h2:=h.le hx
 refine ⟨?_,fun _=>?_⟩<;>rw[Nat.pow_add]
 ·have h3:2^(32*n)*(x+1)<=2^(32*n)*2^k:=Nat.mul_le_mul_left _ h1
  rw[Nat.mul_add] at h3
  omega
 ·have h3:2^(32*n)*2^k<=2^(32*n)*(2*x):=Nat.mul_le_mul_left _ h2
  have h4:2^(32*n)*(2*x)=2*(2^(32*n)*x):=by rw[Nat.mul_left_comm]
  omega
theorem digs_top {a:Nat} (h:a≠0):0<(digs a).getD (dlen a-1) 0:=by
 have h1:tlen (digs a)=dlen a:=tlen_digs a
 have h2:dlen a≠0:=fun e=>h (dlen_eq_zero e)
 rcases Nat.eq_zero_or_pos ((digs a).getD (dlen a-1) 0) with h0 | h0
 ·have:=tlen_pred (digs a) (dlen a-1) (by omega) h0
  omega
 ·exact h0
def BLE (a:Nat) (e:Ending):Prop:=∃ k:Nat,e=.returned (.int .i64 (k:Int))/\BL a k/\(a=0->k=0)
set_option maxHeartbeats 1000000 in
theorem bitlen_any (A:Option Addr) (la ca a:Nat) (w:World) (ha:NatAt w A la ca a) (hs:Sm a) :
  Calls Tryz.prog 65 #[.slice A la ca] w fun e w'=>BLE a e/\w=w':=by
 go_enter Tryz.func65,Tryz.ntmps65
 go_wp2_with fail
 refine (trim_any _ _ _ _ _ ha hs).mono ?_
 rintro e w1 ⟨l1,rfl,h1,rfl⟩
 clear ha
 have hl:=Lh h1.len
 by_cases h0:l1=0
 ·subst h0
  have ha0:a=0:=dlen_eq_zero hl.out.symm
  subst ha0
  clear h1 hl
  go_wp2
  go_ret
  exact ⟨⟨0,rfl,⟨by decide,fun h=>by omega⟩,fun _=>rfl⟩,rfl⟩
 ·obtain ⟨n,rfl⟩:∃ n,l1=n+1:=⟨l1-1,by omega⟩
  have hn:n<=1099511627776:=by have:=hl.out;unfold Sm at hs;omega
  have ha0:a≠0:=by intro e;have:=hl.out;rw[e,dlen_zero] at this;omega
  have htop:=digs_top ha0
  rw[<- hl.out,show n+1-1=n by omega] at htop
  obtain ⟨b,off,rfl,hb,hc⟩:=h1.digits.at_ (by omega)
  have e0:=hc n (by omega)
  have hx:=(digs_wd a).getD n
  have hval:a=val ((digs a).take n)+BB^n*(digs a).getD n 0:=by
   have h2:=val_take_succ' (digs a) n
   rw[List.take_of_length_le (by have:=hl.out;unfold dlen at this;omega),val_digs] at h2
   exact h2
  have hlow:val ((digs a).take n)<BB^n:=by
   have:=val_lt ((digs_wd a).take n)
   rw[List.length_take] at this
   have h3:n<=(digs a).length:=by have:=hl.out;unfold dlen at this;omega
   rwa [Nat.min_eq_left h3] at this
  obtain ⟨x,hxv⟩:∃ x,x=(digs a).getD n 0:=⟨_,rfl⟩
  rw[<- hxv] at e0 hx hval htop
  have Hval:=Lh hval
  have Hlow:=Lh hlow
  rw[BB_eq] at hx
  have hbl:=len_BL hx
  have hkl:Lib.bitLen x<=32:=BL_le hbl htop (by omega)
  have i1:IntKind.i64.wrap ((n:Int)+1-1)=(n:Int):=by rw[IntWalk.i64_in _ (by omega)];omega
  have hb1:((n:Int)+1 == 0)=false:=by rw[beq_eq_false_iff_ne];omega
  have Hbl:=Lh hbl
  clear hc h1 hxv hval hlow h0 ha0 hl hbl
  go_wp2_with fail
  refine (Tryz.bits_Len32 _ _ (by omega) (by omega)).mono ?_
  rintro e w1 ⟨rfl,rfl⟩
  rw[Int.toNat_natCast]
  generalize Lib.bitLen x=k at *
  clear e0
  go_wp2
  go_ret
  exact ⟨⟨32*n+k,by go_num,BL_digits Hval.out Hlow.out htop Hbl.out,fun e=>by have:=Hval.out;have:0<BB^n*x:=Nat.mul_pos (Nat.pow_pos BB_pos) htop;omega⟩,rfl⟩
set_option maxHeartbeats 400000 in
theorem ibitlen_any (na:Bool) (A:Option Addr) (la ca:Nat) (a:Int) (w:World) (ha:IntAt w na A la ca a) (hs:SmI a) :
  Calls Tryz.prog 64 #[.agg #[.bool na,.slice A la ca]] w fun e w'=>BLE a.natAbs e/\Below w.heap.size w w':=by
 have hb0:Below w.heap.size w (w.alloc (ibox na A la ca)):=(Below.refl _ _).alloc (Nat.le_refl _) _
 have h0:=ha.nat.below hb0
 have Hb0:=Lh hb0
 clear ha hb0
 go_enter Tryz.func64,Tryz.ntmps64
 go_wp2_with fail
 refine (bitlen_any _ _ _ _ _ h0 hs).mono ?_
 rintro e w1 ⟨⟨k,rfl,hk⟩,rfl⟩
 have Hk:=Lh hk
 clear h0 hk
 go_wp2
 go_ret
 exact ⟨⟨k,rfl,Hk.out⟩,Hb0.out⟩
end Go.Proofs.YtphmkdmflopcdaaGreat
