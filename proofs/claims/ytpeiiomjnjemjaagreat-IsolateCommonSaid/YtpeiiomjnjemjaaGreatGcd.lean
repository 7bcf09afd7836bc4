/- The walks of natural.Uint64 and of division.Gcd for numbers below 2^64. -/
import Derived.Test.YtpeiiomjnjemjaaGreatBits
import Derived.Deep.QuietTactic
import Derived.BigQuiet
import Derived.Laws.Bits64b
namespace Go.Proofs.YtpeiiomjnjemjaaGreat
open Go.RowKit
theorem dlen_two {a:Nat} (h:U64 a):dlen a<=2:=dlen_le_of_lt (by rw[Nat.pow_succ,Nat.pow_one];exact h)
theorem two_digits {a:Nat} (h:dlen a=2):a=(digs a).getD 0 0+BB*(digs a).getD 1 0:=by
 have h1:=val_digs a
 have h2:(digs a).length=2:=h
 match hd:digs a,h2 with
 | [x,y],_ =>
   rw[hd] at h1
   simp only[val,Nat.mul_zero,Nat.add_zero] at h1
   simp[h1]
theorem one_digit' {a:Nat} (h:dlen a=1):a=(digs a).getD 0 0:=by
 have h1:=val_digs a
 have h2:(digs a).length=1:=h
 match hd:digs a,h2 with
 | [x],_ =>
   rw[hd] at h1
   simp only[val,Nat.mul_zero,Nat.add_zero] at h1
   simp[h1]
theorem u64_join {x y:Nat} (hx:x<4294967296) (hy:y<4294967296):bits .or .u64 ((y:Int)*4294967296) (x:Int)=((x+4294967296*y:Nat):Int):=by
 have e3:(y:Int)*4294967296=((4294967296*y:Nat):Int):=by omega
 rw[e3,bits_or_u64_nat _ _ (by omega) (by omega)]
 have e4:4294967296*y ||| x=4294967296*y+x:=(Nat.two_pow_add_eq_or_of_lt (i:=32) hx y).symm
 rw[e4,Nat.add_comm]
set_option maxRecDepth 100000 in
set_option maxHeartbeats 1000000 in
theorem uint64_any (A:Option Addr) (la ca a:Nat) (w:World) (ha:NatAt w A la ca a) (hs:U64 a) :
  Calls Tryz.prog 98 #[.slice A la ca] w fun e w'=>e=.returned (.tuple #[.int .u64 (a:Int),.bool true])/\∃ n,w'=w.drewN n:=by
 have hd:=dlen_two hs
 have hsm:Sm a:=Nat.le_trans hd (by omega)
 go_enter Tryz.func98,Tryz.ntmps98
 go_wp2_with fail
 refine (trim_any _ _ _ _ _ ha hsm).mono ?_
 rintro e w1 ⟨l1,rfl,h1,rfl⟩
 clear ha hsm hs
 have hl:=h1.len
 rw[<- hl] at hd
 have hcase:l1=0∨l1=1∨l1=2:=by omega
 rcases hcase with rfl | rfl | rfl
 ·have ha0:a=0:=dlen_eq_zero hl.symm
  subst ha0
  clear h1 hl
  go_wp2
  go_ret2
  exact ⟨rfl,0,rfl⟩
 ·obtain ⟨b,off,rfl,hb,hc⟩:=h1.digits.at_ (by omega)
  have e0:=hc 0 (by omega)
  have hx:=(digs_wd a).getD 0
  rw[BB_eq] at hx
  have hv:=one_digit' hl.symm
  rw[<- hv,Nat.add_zero] at e0
  rw[<- hv] at hx
  have i1:IntKind.u64.wrap (a:Int)=(a:Int):=by rw[IntKind.wrap_u64];omega
  clear h1 hl hc hv
  go_wp2
  go_ret2
  exact ⟨rfl,0,rfl⟩
 ·obtain ⟨b,off,rfl,hb,hc⟩:=h1.digits.at_ (by omega)
  have e0:=hc 0 (by omega)
  have e1:=hc 1 (by omega)
  have hx:=(digs_wd a).getD 0
  have hy:=(digs_wd a).getD 1
  have hv:=two_digits hl.symm
  obtain ⟨x,hxv⟩:∃ x,x=(digs a).getD 0 0:=⟨_,rfl⟩
  obtain ⟨y,hyv⟩:∃ y,y=(digs a).getD 1 0:=⟨_,rfl⟩
  rw[<- hxv,<- hyv] at hv
  rw[<- hxv] at e0 hx
  rw[<- hyv] at e1 hy
  rw[Nat.add_zero] at e0
  rw[BB_eq] at hx hy hv
  have HJ:=Lh (u64_join hx hy)
  have Hv:=Lh hv
  clear h1 hl hc hv hxv hyv hd
  go_wp2
  go_quiet (fail)
  go_wp2
  go_ret2
  refine ⟨?_,_,rfl⟩
  show Ending.returned (.tuple #[.int .u64 (bits .or .u64 ((y:Int)*4294967296) (x:Int)),.bool true])=_
  rw[HJ.out,<- Hv.out]
end Go.Proofs.YtpeiiomjnjemjaaGreat
