/- The walks of natural.BitLen, integer.BitLen, rootbound.logarithm, rootbound.Log. (Len32 by the shelf: text Shelf, written by the kit's lay-shelf.mjs and lay-plain.mjs.) -/
import Derived.Test.YtjmglmgokfcgoaaShelf
import Derived.Test.YtjmglmgokfcgoaaIntE
import Derived.Test.YtjmglmgokfcgoaaRefB
namespace Go.Proofs.Ytjmglmgokfcgoaa
open Go.RowKit
structure BL (n k:Nat):Prop where
 lt:n<2^k
 le:0<n→2^k≤2*n
theorem aux_BL:∀ f x,x<2^f→BL x (Lib.bitLenAux f x):=by
 intro f
 induction f with
 | zero =>
   intro x h
   have:x=0:=by simpa using h
   subst this
   exact ⟨by decide,fun h=>by omega⟩
 | succ f ih =>
   intro x h
   rw [Lib.bitLenAux]
   by_cases h0:x=0
   ·rw [if_pos h0]
    subst h0
    exact ⟨by decide,fun h=>by omega⟩
   ·rw [if_neg h0]
    rw [Nat.pow_succ] at h
    obtain ⟨h1,h2⟩:=ih (x / 2) (by omega)
    refine ⟨by rw [Nat.add_comm,Nat.pow_succ];omega,fun _=>?_⟩
    rw [Nat.add_comm,Nat.pow_succ]
    by_cases h3:0<x / 2
    ·have:=h2 h3
     omega
    ·have h4:x / 2=0:=by omega
     rw [h4]
     have:Lib.bitLenAux f 0=0:=by cases f<;>simp [Lib.bitLenAux]
     rw [this]
     omega
theorem len_BL {x:Nat} (h:x<4294967296):BL x (Lib.bitLen x):=aux_BL 64 x (Nat.lt_trans h (by decide))
theorem BL_le {n k m:Nat} (h:BL n k) (h0:0<n) (hn:n<2^m):k≤m:=by
 rcases Nat.lt_or_ge m k with h1 | h1
 ·have h2:=h.le h0
  have h3:2^(m+1)≤2^k:=Nat.pow_le_pow_right (by omega) h1
  rw [Nat.pow_succ] at h3
  omega
 ·exact h1
theorem BL_digits {a n x k:Nat} {low:Nat} (ha:a=low+BB^n*x) (hlow:low<BB^n) (hx:0<x) (h:BL x k):BL a (32*n+k):=by
 have hB:BB^n=2^(32*n):=by rw [BB_eq,show (4294967296:Nat)=2^32 by decide,← Nat.pow_mul]
 rw [hB] at ha hlow
 have h1:=h.lt
 have h2:=h.le hx
 refine ⟨?_,fun _=>?_⟩<;>rw [Nat.pow_add]
 ·have h3:2^(32*n)*(x+1)≤2^(32*n)*2^k:=Nat.mul_le_mul_left _ h1
  rw [Nat.mul_add] at h3
  omega
 ·have h3:2^(32*n)*2^k≤2^(32*n)*(2*x):=Nat.mul_le_mul_left _ h2
  have h4:2^(32*n)*(2*x)=2*(2^(32*n)*x):=by rw [Nat.mul_left_comm]
  omega
theorem digs_top {a:Nat} (h:a≠0):0<(digs a).getD (dlen a-1) 0:=by
 have h1:tlen (digs a)=dlen a:=tlen_digs a
 have h2:dlen a≠0:=fun e=>h (dlen_eq_zero e)
 rcases Nat.eq_zero_or_pos ((digs a).getD (dlen a-1) 0) with h0 | h0
 ·have:=tlen_pred (digs a) (dlen a-1) (by omega) h0
  omega
 ·exact h0
def BLE (a:Nat) (e:Ending):Prop:=∃ k:Nat,e=.returned (.int .i64 (k:Int))∧BL a k∧(a=0→k=0)
set_option maxHeartbeats 1000000 in
theorem bitlen_any (A:Option Addr) (la ca a:Nat) (w:World) (ha:NatAt w A la ca a) (hs:Sm a) :
  Calls Try.prog 96 #[.slice A la ca] w fun e w'=>BLE a e∧w=w':=by
 go_enter Try.func96,Try.ntmps96
 go_wp2_with fail
 refine (trim_any _ _ _ _ _ ha hs).mono ?_
 rintro e w1 ⟨l1,rfl,h1,rfl⟩
 clear ha
 have hl:=Lib.hid h1.len
 by_cases h0:l1=0
 ·subst h0
  have ha0:a=0:=dlen_eq_zero hl.out.symm
  subst ha0
  clear h1 hl
  go_wp2
  go_ret
  exact ⟨⟨0,rfl,⟨by decide,fun h=>by omega⟩,fun _=>rfl⟩,rfl⟩
 ·obtain ⟨n,rfl⟩:∃ n,l1=n+1:=⟨l1-1,by omega⟩
  have hn:n≤1099511627776:=by have:=hl.out;unfold Sm at hs;omega
  have ha0:a≠0:=by intro e;have:=hl.out;rw [e,dlen_zero] at this;omega
  have htop:=digs_top ha0
  rw [← hl.out,show n+1-1=n by omega] at htop
  obtain ⟨b,off,rfl,hb,hc⟩:=h1.digits.at_ (by omega)
  have e0:=hc n (by omega)
  have hx:=(digs_wd a).getD n
  have hval:a=val ((digs a).take n)+BB^n*(digs a).getD n 0:=by
   have h2:=val_take_succ' (digs a) n
   rw [List.take_of_length_le (by have:=hl.out;unfold dlen at this;omega),val_digs] at h2
   exact h2
  have hlow:val ((digs a).take n)<BB^n:=by
   have:=val_lt ((digs_wd a).take n)
   rw [List.length_take] at this
   have h3:n≤(digs a).length:=by have:=hl.out;unfold dlen at this;omega
   rwa [Nat.min_eq_left h3] at this
  obtain ⟨x,hxv⟩:∃ x,x=(digs a).getD n 0:=⟨_,rfl⟩
  rw [← hxv] at e0 hx hval htop
  have Hval:=Lib.hid hval
  have Hlow:=Lib.hid hlow
  rw [BB_eq] at hx
  have hbl:=len_BL hx
  have hkl:Lib.bitLen x≤32:=BL_le hbl htop (by omega)
  have i1:IntKind.i64.wrap ((n:Int)+1-1)=(n:Int):=by rw [IntWalk.i64_in _ (by omega)];omega
  have hb1:((n:Int)+1 == 0)=false:=by rw [beq_eq_false_iff_ne];omega
  have Hbl:=Lib.hid hbl
  clear hc h1 hxv hval hlow h0 ha0 hl hbl
  go_wp2_with fail
  refine (Try.bits_Len32 _ _ (by omega) (by omega)).mono ?_
  rintro e w1 ⟨rfl,rfl⟩
  rw [Int.toNat_natCast]
  generalize Lib.bitLen x=k at *
  clear e0
  go_wp2
  go_ret
  exact ⟨⟨32*n+k,by go_num,BL_digits Hval.out Hlow.out htop Hbl.out,fun e=>by have:=Hval.out;have:0<BB^n*x:=Nat.mul_pos (Nat.pow_pos BB_pos) htop;omega⟩,rfl⟩
set_option maxHeartbeats 400000 in
theorem ibitlen_any (na:Bool) (A:Option Addr) (la ca:Nat) (a:Int) (w:World) (ha:IntAt w na A la ca a) (hs:SmI a) :
  Calls Try.prog 83 #[.agg #[.bool na,.slice A la ca]] w fun e w'=>BLE a.natAbs e∧Below w.heap.size w w':=by
 have hb0:Below w.heap.size w (w.alloc (ibox na A la ca)):=(Below.refl _ _).alloc (Nat.le_refl _) _
 have h0:=ha.nat.below hb0
 have Hb0:=Lib.hid hb0
 clear ha hb0
 go_enter Try.func83,Try.ntmps83
 go_wp2_with fail
 refine (bitlen_any _ _ _ _ _ h0 hs).mono ?_
 rintro e w1 ⟨⟨k,rfl,hk⟩,rfl⟩
 have Hk:=Lib.hid hk
 clear h0 hk
 go_wp2
 go_ret
 exact ⟨⟨k,rfl,Hk.out⟩,Hb0.out⟩
structure LG (n:Nat) (k:Nat):Prop where
 le:n≤2^k
 least:∀ j,j<k→2^j<n
def LGE (n:Nat) (e:Ending):Prop:=∃ k:Nat,e=.returned (.int .i64 (k:Int))∧LG n k
theorem LG_of_BL {n k:Nat} (h:BL (n-1) k) (hn:2≤n):LG n k:=by
 refine ⟨by have:=h.lt;omega,fun j hj=>?_⟩
 have h1:=h.le (by omega)
 have h2:2^(j+1)≤2^k:=Nat.pow_le_pow_right (by omega) hj
 rw [Nat.pow_succ] at h2
 omega
theorem LG_one {n:Nat} (hn:n≤1):LG n 0:=⟨by simpa using hn,fun j hj=>by omega⟩
set_option maxHeartbeats 1000000 in
theorem logarithm_any (na:Bool) (A:Option Addr) (la ca:Nat) (n:Nat) (w:World) (ha:IntAt w na A la ca (n:Int)) (hn:n≤1000000000000) :
  Calls Try.prog 60 #[.agg #[.bool na,.slice A la ca]] w fun e w'=>LGE n e∧Below w.heap.size w w':=by
 have hb0:Below w.heap.size w (w.alloc (ibox na A la ca)):=(Below.refl _ _).alloc (Nat.le_refl _) _
 have h0:=ha.below hb0
 have c0:(w.alloc (ibox na A la ca)).cell? ⟨w.heap.size,0,none⟩=some (.bool na):=by go_simp
 have c1:(w.alloc (ibox na A la ca)).cell? ⟨w.heap.size,1,none⟩=some (.slice A la ca):=by go_simp
 have hsn:SmI (n:Int):=SmI.of64 (by unfold I64;omega)
 have hs1:SmI 1:=SmI.of64 (by unfold I64;omega)
 have Hb0:=Lib.hid hb0
 clear ha hb0
 go_enter Try.func60,Try.ntmps60
 go_wp2_with fail
 refine (iof_any 1 _ (by unfold I64;omega)).mono ?_
 rintro e w1 ⟨n1,A1,l1,c2,rfl,h1,hb1⟩
 obtain ⟨hc,hf⟩:=bcellS hb1
 have d0:w1.cell? ⟨w.heap.size,0,none⟩=some (.bool na):=(hc _ (by go_simp)).trans c0
 have d1:w1.cell? ⟨w.heap.size,1,none⟩=some (.slice A la ca):=(hc _ (by go_simp)).trans c1
 have hz:=hb1.size
 simp only [World.size_alloc] at hz
 have hlt:w.heap.size<w1.heap.size:=by omega
 have hx:=Lib.hid ((h0.below hb1).below ((Below.refl _ _).alloc (Nat.le_refl _) (ibox n1 A1 l1 c2)))
 have HB:=Lib.hid (IBox.make h1)
 have Hb1:=Lib.hid ((Hb0.out.trans (hb1.mono Hb0.out.size)).alloc (Hb0.out.trans (hb1.mono Hb0.out.size)).size (ibox n1 A1 l1 c2))
 clear hc hf hb1 h0 c0 c1 h1
 go_wp2_with fail
 refine (icmp_any _ _ _ _ _ _ _ _ _ _ _ hx.out HB.out.hz.at_ hsn hs1).mono ?_
 rintro e w2 ⟨rfl,hb2⟩
 have Hx2:=Lib.hid (hx.out.below hb2)
 have HB2:=Lib.hid (HB.out.move hb2)
 have Hb2:=Lib.hid (Hb1.out.trans (hb2.mono Hb1.out.size))
 by_cases hn1:n≤1
 ·have hcm:cmpz (n:Int) 1≤0:=by unfold cmpz;split<;>(try split)<;>omega
  have HL:=Lib.hid (LG_one hn1)
  generalize cmpz (n:Int) 1=v at hcm ⊢
  clear hn1 hb2
  go_wp2
  go_ret
  exact ⟨⟨0,rfl,HL.out⟩,Hb2.out⟩
 ·have hcm:¬ cmpz (n:Int) 1≤0:=by unfold cmpz;rw [if_neg (by omega),if_neg (by omega)];omega
  generalize cmpz (n:Int) 1=v at hcm ⊢
  obtain ⟨hc,hf⟩:=bcellS hb2
  have e0:w2.cell? ⟨w.heap.size,0,none⟩=some (.bool na):=(hc _ (by go_simp)).trans (by go_simp)
  have e1:w2.cell? ⟨w.heap.size,1,none⟩=some (.slice A la ca):=(hc _ (by go_simp)).trans (by go_simp)
  have e2:=HB2.out.c0
  have e3:=HB2.out.c1
  have hn2:2≤n:=by omega
  clear hn1 hb2 hc hf d0 d1
  go_wp2_with fail
  refine (isub_any _ _ _ _ _ _ _ _ _ _ _ Hx2.out HB2.out.hz.at_ hsn hs1 (sm_small (by omega))).mono ?_
  rintro e w3 ⟨n3,A3,l3,c3,rfl,h3,hb3⟩
  have Hb3:=Lib.hid (Hb2.out.trans (hb3.mono Hb2.out.size))
  have e4:(n:Int)-1=((n-1:Nat):Int):=by omega
  rw [e4] at h3
  clear e0 e1 e2 e3 hb3 e4
  go_wp2_with fail
  refine (ibitlen_any _ _ _ _ _ _ h3.at_ (SmI.of64 (by unfold I64;omega))).mono ?_
  rintro e w4 ⟨⟨k,rfl,hk,_⟩,hb4⟩
  rw [Int.natAbs_natCast] at hk
  have HL:=Lib.hid (LG_of_BL hk hn2)
  have Hb4:=Lib.hid (Hb3.out.trans (hb4.mono Hb3.out.size))
  clear hk hb4 h3
  go_wp2
  go_ret
  exact ⟨⟨k,rfl,HL.out⟩,Hb4.out⟩
set_option maxHeartbeats 400000 in
theorem plog_any {I:IntPred} (hI:IK I) (A:Option Addr) (len cap:Nat) (p:List Int) (w:World) (h:PolyP I w A len cap p) (hs:SmP p) (hm:len≤1099511627776) (hok:2≤plen p→CauOK p) (hb:rcau p≤1000000000000) :
  Calls Try.prog 23 #[.slice A len cap] w fun e w'=>LGE (rcau p) e∧Below w.heap.size w w':=by
 go_enter Try.func23,Try.ntmps23
 go_wp2_with fail
 refine (cauchy_any hI _ _ _ _ _ h hs hm hok).mono ?_
 rintro e w1 ⟨n1,A1,l1,c1,rfl,h1,hb1⟩
 rw [cau_rcau] at h1
 have Hb1:=Lib.hid hb1
 clear h hb1 hok
 go_wp2_with fail
 refine (logarithm_any _ _ _ _ _ _ h1.at_ hb).mono ?_
 rintro e w2 ⟨⟨k,rfl,hk⟩,hb2⟩
 have Hk:=Lib.hid hk
 have Hb2:=Lib.hid (Hb1.out.trans (hb2.mono Hb1.out.size))
 clear h1 hk hb2
 go_wp2
 go_ret
 exact ⟨⟨k,rfl,Hk.out⟩,Hb2.out⟩
end Go.Proofs.Ytjmglmgokfcgoaa
