/- The walks of package integer, fifth part: Shl. -/
import Derived.Test.YtpeiiomjnjemjaaGreatNatS
import Derived.Test.YtpeiiomjnjemjaaGreatIntD
namespace Go.Proofs.YtpeiiomjnjemjaaGreat
open Go.RowKit
theorem bits_or32 {a b:Nat} (ha:a<4294967296) (hb:b<4294967296):bits .or .u32 (a:Int) (b:Int)=((a ||| b:Nat):Int):=by
 have ho:a ||| b<4294967296:=Nat.or_lt_two_pow (n:=32) ha hb
 have e1:(BitVec.ofInt IntKind.u32.bits (a:Int)).toNat=a:=by
  rw[BitVec.ofInt_natCast,BitVec.toNat_ofNat];exact Nat.mod_eq_of_lt ha
 have e2:(BitVec.ofInt IntKind.u32.bits (b:Int)).toNat=b:=by
  rw[BitVec.ofInt_natCast,BitVec.toNat_ofNat];exact Nat.mod_eq_of_lt hb
 unfold bits
 simp only[BitVec.toNat_or,e1,e2]
 rw[IntKind.wrap_u32]
 omega
noncomputable def lo5 (x s:Nat):Nat:=x*2^s % BB
noncomputable def hi5 (x s:Nat):Nat:=x*2^s / BB
theorem lohi5 (x s:Nat):lo5 x s+BB*hi5 x s=x*2^s:=Nat.mod_add_div _ _
theorem hi5_lt {x s:Nat} (hx:x<BB):hi5 x s<2^s:=by
 unfold hi5
 exact Nat.div_lt_of_lt_mul (Nat.mul_lt_mul_of_pos_right hx (Nat.two_pow_pos s))
theorem BB_pow {s:Nat} (hs:s<32):BB=2^s*2^(32-s):=by
 rw[BB_eq,<- Nat.pow_add,show s+(32-s)=32 by omega]
theorem lo5_mul {x s:Nat} (hs:s<32):lo5 x s=2^s*(x % 2^(32-s)):=by
 unfold lo5
 rw[BB_pow hs,Nat.mul_comm x,Nat.mul_mod_mul_left]
theorem lo5_lt (x:Nat) {s c:Nat} (hs:s<32) (hc:c<2^s):c+lo5 x s<BB:=by
 rw[lo5_mul hs,BB_pow hs]
 have h1:x % 2^(32-s)+1<=2^(32-s):=Nat.mod_lt _ (Nat.two_pow_pos _)
 have h2:2^s*(x % 2^(32-s)+1)<=2^s*2^(32-s):=Nat.mul_le_mul_left _ h1
 rw[Nat.mul_add] at h2
 omega
theorem lo5_or (x:Nat) {s c:Nat} (hs:s<32) (hc:c<2^s):c ||| lo5 x s=c+lo5 x s:=by
 rw[lo5_mul hs,Nat.or_comm,<- Nat.two_pow_add_eq_or_of_lt hc,Nat.add_comm]
theorem wide_lt {x s:Nat} (hx:x<4294967296) (hs:s<32):x*2^s<18446744073709551616:=by
 have h1:2^s<=2^32:=Nat.pow_le_pow_right (by omega) (by omega)
 calc x*2^s<4294967296*2^s:=Nat.mul_lt_mul_of_pos_right hx (Nat.two_pow_pos s)
  _<=4294967296*2^32:=Nat.mul_le_mul_left _ h1
  _=18446744073709551616:=by decide
theorem wide_eq {x s:Nat} (hx:x<4294967296) (hs:s<32):IntKind.u64.wrap (IntKind.u64.wrap (x:Int)*2^s)=((x*2^s:Nat):Int):=by
 have h1:=wide_lt hx hs
 have e1:IntKind.u64.wrap (x:Int)=(x:Int):=by rw[IntKind.wrap_u64];omega
 rw[e1]
 have e2:(x:Int)*2^s=((x*2^s:Nat):Int):=by simp
 rw[e2,IntKind.wrap_u64]
 omega
theorem val_lo {x s c:Nat} (hx:x<BB) (hs:s<32) (hc:c<2^s):bits .or .u32 (c:Int) (IntKind.u64.wrap (IntKind.u64.wrap (x:Int)*2^s) % 4294967296)=((c+lo5 x s:Nat):Int):=by
 have hx':x<4294967296:=by rw[BB_eq] at hx;exact hx
 rw[wide_eq hx' hs,<- lo5_or x hs hc]
 have h2:=lo5_lt x hs hc
 have e:((x*2^s:Nat):Int) % 4294967296=((lo5 x s:Nat):Int):=by unfold lo5;rw[BB_eq];rfl
 rw[e]
 rw[BB_eq] at h2
 exact bits_or32 (by omega) (by omega)
theorem val_hi {x s:Nat} (hx:x<BB) (hs:s<32):IntKind.u64.wrap (IntKind.u64.wrap (x:Int)*2^s) / 4294967296 % 4294967296=((hi5 x s:Nat):Int):=by
 have hx':x<4294967296:=by rw[BB_eq] at hx;exact hx
 have h1:=hi5_lt (s:=s) hx
 have h2:2^s<=2^31:=Nat.pow_le_pow_right (by omega) (by omega)
 rw[wide_eq hx' hs]
 have e:((x*2^s:Nat):Int) / 4294967296=((hi5 x s:Nat):Int):=by unfold hi5;rw[BB_eq];rfl
 rw[e]
 omega
structure ShInv (w wr:World) (g q n s:Nat) (da:List Nat) (i:Nat) (zs:List Nat):Prop where
 z:DRow wr g zs
 len:zs.length=n
 wd:Wd zs
 zero:Zf (q+i+1) zs
 top:zs.getD (q+i) 0<2^s
 sum:val zs=BB^q*(val (da.take i)*2^s)
 below:Below w.heap.size w wr
theorem ShInv.step {w wr:World} {q n s:Nat} {da:List Nat} {i:Nat} {zs:List Nat} (h:ShInv w wr w.heap.size q n s da i zs) (hd:Wd da) (hs:s<32) (hn:q+i+1<n) :
  ShInv w ((wr.setCell ⟨w.heap.size,q+i,none⟩ (.int .u32 ((zs.getD (q+i) 0+lo5 (da.getD i 0) s:Nat):Int))).setCell ⟨w.heap.size,q+(i+1),none⟩ (.int .u32 ((hi5 (da.getD i 0) s:Nat):Int))) w.heap.size q n s da (i+1) ((zs.set (q+i) (zs.getD (q+i) 0+lo5 (da.getD i 0) s)).set (q+(i+1)) (hi5 (da.getD i 0) s)):=by
 have hx:=hd.getD i
 have hl:=h.len
 have h3:=hi5_lt (s:=s) hx
 have h4:=lo5_lt (da.getD i 0) hs h.top
 have h5:hi5 (da.getD i 0) s<BB:=Nat.lt_trans h3 (by rw[BB_eq];exact Nat.pow_lt_pow_right (by omega) hs)
 refine ⟨(h.z.set_ _ _).set_ _ _,by simp[hl],(h.wd.set h4).set h5,?_,?_,?_,(h.below.setCell (p:=⟨w.heap.size,q+i,none⟩) (Nat.le_refl _) _).setCell (p:=⟨w.heap.size,q+(i+1),none⟩) (Nat.le_refl _) _⟩
 ·exact ((h.zero.mono (by omega)).set (by omega)).set (by omega)
 ·rw[List.getD_eq_getElem?_getD,List.getElem?_set_self (by simp;omega)]
  exact h3
 ·have h6:=val_set zs (k:=q+i) (by omega) (zs.getD (q+i) 0+lo5 (da.getD i 0) s)
  have h7:=val_set (zs.set (q+i) (zs.getD (q+i) 0+lo5 (da.getD i 0) s)) (k:=q+(i+1)) (by simp;omega) (hi5 (da.getD i 0) s)
  have h8:(zs.set (q+i) (zs.getD (q+i) 0+lo5 (da.getD i 0) s)).getD (q+(i+1)) 0=0:=by
   have:=h.zero (q+(i+1)) (by omega)
   rw[List.getD_eq_getElem?_getD] at *
   rw[List.getElem?_set_ne (by omega)];exact this
  rw[h8,Nat.mul_zero,Nat.add_zero] at h7
  rw[Nat.mul_add] at h6
  have h9:=h.sum
  rw[val_take_succ',Nat.add_mul,Nat.mul_add,<- h9,h7]
  have e:BB^q*(BB^i*da.getD i 0*2^s)=BB^(q+i)*lo5 (da.getD i 0) s+BB^(q+(i+1))*hi5 (da.getD i 0) s:=by
   rw[Nat.mul_assoc (BB^i),<- lohi5,<- Nat.mul_assoc,<- Nat.pow_add,Nat.mul_add,<- Nat.add_assoc,Nat.pow_succ,Nat.mul_assoc]
  rw[e]
  omega
set_option maxRecDepth 100000 in
set_option maxHeartbeats 2000000 in
theorem shl_any (A:Option Addr) (la ca a n:Nat) (w:World) (ha:NatAt w A la ca a) (hs:Sm a) (hn:n<=16777216) :
  Calls Tryz.prog 97 #[.slice A la ca,.int .i64 (n:Int)] w fun e w'=>∃ A' l' c',e=.returned (.slice A' l' c')/\NatN w' A' l' c' (a*2^n)/\Below w.heap.size w w':=by
 go_enter Tryz.func97,Tryz.ntmps97
 go_wp2_with fail
 refine (trim_any _ _ _ _ _ ha hs).mono ?_
 rintro e w1 ⟨l1,rfl,h1,rfl⟩
 clear ha
 have hl:=Lh h1.len
 by_cases h0:l1=0
 ·subst h0
  have ha0:a=0:=dlen_eq_zero hl.out.symm
  subst ha0
  clear h1 hl
  go_wp2
  go_ret
  exact ⟨_,_,_,rfl,by rw[Nat.zero_mul];exact NatN.zero _ _ _,Below.refl _ _⟩
 ·obtain ⟨q,hq⟩:∃ q,q=n / 32:=⟨_,rfl⟩
  obtain ⟨s,hsv⟩:∃ s,s=n % 32:=⟨_,rfl⟩
  have hn2:n=32*q+s:=by omega
  have hs32:s<32:=by omega
  have hq2:q<=524288:=by omega
  have hl2:l1<=1099511627776:=by rw[hl.out];exact hs
  have hb1:((l1:Int) == 0)=false:=by rw[beq_eq_false_iff_ne];omega
  have hc1:¬ ((n:Int)<0):=by omega
  have hc2:¬ (16777216<(n:Int)):=by omega
  have hd1:(n:Int).tdiv 32=(q:Int):=by rw[hq];rfl
  have hd2:(n:Int).tmod 32=(s:Int):=by rw[hsv];rfl
  have Hn2:=Lh hn2
  have hl0:0<l1:=by omega
  clear h0 hq hsv hn2
  go_wp2_with (at_make;refine wpList_make_dig _ rfl (.tmp 29) (.tmp 29) rfl (q+l1+1) rfl rfl (by omega) ?_)
  intro w1 hz hb1 hsz
  have hinv:ShInv w w1 w.heap.size q (q+l1+1) s (digs a) 0 (List.replicate (q+l1+1) 0) :=
   ⟨hz,by simp,Wd.replicate _,Zf.replicate _ _,by have:=Zf.replicate 0 (q+l1+1) (q+0) (by omega);rw[this];exact Nat.two_pow_pos s,by simp[val,val_replicate],hb1⟩
  clear hz hb1 hsz hd1 hd2 hc1 hc2
  go_wp2
  go_loopw [36] (fun i wr=>∃ k zs,k<=l1/\i=.int .i64 (k:Nat)/\ShInv w wr w.heap.size q (q+l1+1) s (digs a) k zs) (fun i _=>l1-(intOf i).toNat)
  case atStart=>exact ⟨0,_,Nat.zero_le _,rfl,hinv⟩
  case round =>
   clear hinv
   obtain ⟨i,zs,hi,rfl,hI⟩:=hrel
   by_cases hlt:i<l1
   ·obtain ⟨b,off,rfl,hb,hc⟩:=h1.digits.at_ (by omega)
    have e0:=(hI.below.cell (p:=⟨b,off+i,none⟩) hb).trans (hc i hlt)
    have e1:=hI.z.cell (i:=q+i) (by rw[hI.len];omega)
    have e2:=hI.z.cell (i:=q+(i+1)) (by rw[hI.len];omega)
    have f1:=hI.z.frozen (q+i)
    have f2:=hI.z.frozen (q+(i+1))
    have hx:=(digs_wd a).getD i
    have ht:=hI.top
    obtain ⟨x,hxv⟩:∃ x,x=(digs a).getD i 0:=⟨_,rfl⟩
    obtain ⟨c,hcv⟩:∃ c,c=zs.getD (q+i) 0:=⟨_,rfl⟩
    rw[<- hxv] at e0 hx
    rw[<- hcv] at e1 ht
    have HI:=Lh hI
    have Hxv:=Lh hxv
    have Hcv:=Lh hcv
    clear hI hc h1 hxv hcv
    have hq1:q+i<q+l1+1:=by omega
    have hq3:(q:Int)+(i:Int)<(q:Int)+(l1:Int)+1:=by omega
    go_wp2
    go_roundw
    case rel =>
     have H:=HI.out.step (digs_wd a) hs32 (by omega)
     rw[<- Hxv.out,<- Hcv.out] at H
     rw[val_lo hx hs32 ht,val_hi hx hs32]
     exact ⟨i+1,_,by omega,by go_num,H⟩
    case measure=>simp[intOf];omega
   ·have hk2:l1=i:=by omega
    subst hk2
    have hv:val zs=a*2^n:=by
     rw[hI.sum,List.take_of_length_le (by have:=hl.out;unfold dlen at this;omega),val_digs,Hn2.out,Nat.pow_add,BB_eq,show (4294967296:Nat)=2^32 by decide,<- Nat.pow_mul]
     rw[Nat.mul_comm,Nat.mul_assoc,Nat.mul_comm (2^s)]
    have hlen:=hI.len
    have hdg:=hI.z.dig hI.wd (cap:=q+l1+1) (by omega)
    rw[hlen] at hdg
    have Hb:=Lh hI.below
    have Hv:=Lh hv
    clear h1 hI hv hlen
    go_wp2_with fail
    refine (trim_dig _ _ _ _ _ _ hdg Hv.out (by omega)).mono ?_
    rintro e w2 ⟨l2,rfl,h2,rfl⟩
    clear hdg
    go_wp2
    go_ret
    exact ⟨_,_,_,rfl,h2,Hb.out⟩
end Go.Proofs.YtpeiiomjnjemjaaGreat
namespace Go.Proofs.YtpeiiomjnjemjaaGreat
open Go.RowKit
theorem sgn_mul (neg:Bool) {z:Int} (h:z=sgn neg z.natAbs) (n:Nat):sgn neg (z.natAbs*2^n)=z*2^n:=by
 generalize z.natAbs=x at *
 subst h
 cases neg<;>simp[sgn,Int.neg_mul]
set_option maxHeartbeats 1000000 in
theorem ishl_any (na:Bool) (A:Option Addr) (la ca:Nat) (a:Int) (n:Nat) (w:World) (ha:IntAt w na A la ca a) (hsa:SmI a) (hn:n<=16777216) :
  Calls Tryz.prog 82 #[.agg #[.bool na,.slice A la ca],.int .i64 (n:Int)] w fun e w'=>∃ neg' A' len' cap',e=.returned (.agg #[.bool neg',.slice A' len' cap'])/\IntN w' neg' A' len' cap' (a*2^n)/\Below w.heap.size w w':=by
 have hb0:Below w.heap.size w ((w.alloc (ibox na A la ca)).alloc (ibox false none 0 0)):=below_two w _ _ (Nat.le_refl _)
 have hA1:=(ha.nat.below hb0).below (Below.refl _ _).drew
 have hsum:=Lh (sgn_mul na ha.sign n)
 have Hb0:=Lh hb0
 clear ha hb0
 go_enter Tryz.func82,Tryz.ntmps82
 go_wp2_with fail
 go_region_held3 (fun w'=>w'.cell? ⟨w.heap.size,0,none⟩=some (.bool na)/\w'.cell? ⟨w.heap.size,1,none⟩=some (.slice A la ca)) (refine ⟨?_,?_⟩<;>go_simp) (first
   | (go_at_call 97;go_must (refine (shl_any _ _ _ _ _ _ hA1 hsa hn).mono ?_;rintro e w1 ⟨A1,l1,c1,rfl,h1,hb1⟩;obtain ⟨hc,hf⟩:=bcell hb1;have hsz:=hb1.size;simp only[World.size_alloc,World.size_drew] at hsz))
   | (go_at_call 32;go_must (refine (signed_any _ _ _ _ _ _ h1).mono ?_;rintro e w2 ⟨n2,rfl,h2,hb2⟩;clear hc hf;have hb3:=hb1.trans (hb2.mono hb1.size);obtain ⟨hc,hf⟩:=bcell hb3;have hsz2:=hb2.size)))
 have H2:=Lh h2
 have Hb3:=Lh hb3
 have Hc:=Lh hc
 rw[hsum.out] at H2
 clear h2 hb3 hb1 hb2 h1 hA1
 go_wp2
 refine bodyPost_ret (v:=.agg #[.bool n2,.slice A1 l1 c1]) (by simp[results,Tryz.results82,go_sem,hc]) rfl ⟨_,_,_,_,rfl,H2.out.ret _ _ (b0:=false) (A0:=none) (l0:=0) (c0:=0) ?_ ?_,?_⟩
 ·rw[Hc.out _ _ (by simp)];go_simp
 ·rw[Hc.out _ _ (by simp)];go_simp
 ·exact ((Hb0.out.trans (((Below.refl _ _).drew.trans Hb3.out).mono Hb0.out.size)).setCell (by simp) _).setCell (by simp) _
end Go.Proofs.YtpeiiomjnjemjaaGreat
