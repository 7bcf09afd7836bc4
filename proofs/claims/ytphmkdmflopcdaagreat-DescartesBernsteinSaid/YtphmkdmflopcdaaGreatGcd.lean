/- The walks of natural.Uint64 and of division.Gcd for numbers below 2^64. -/
import Derived.Test.YtphmkdmflopcdaaGreatBits
import Derived.Deep.QuietTactic
import Derived.BigQuiet
import Derived.Laws.Bits64b
namespace Go.Proofs.YtphmkdmflopcdaaGreat
open Go.RowKit
theorem dlen_two {a:Nat} (h:U64 a):dlen a<=2:=dlen_le_of_lt (by rw[Nat.pow_succ,Nat.pow_one];exact h)
theorem two_digits {a:Nat} (h:dlen a=2):a=(digs a).getD 0 0+BB*(digs a).getD 1 0:=by
 have h1:=val_digs a
 have h2:(digs a).length=2:=h
 match hd:digs a,h2 with
 | [x,y],_ =>
   rw[hd] at h1
   simp only[val,Nat.mul_zero,Nat.add_zero] at h1
   simp[h1]
theorem one_digit' {a:Nat} (h:dlen a=1):a=(digs a).getD 0 0:=by
 have h1:=val_digs a
 have h2:(digs a).length=1:=h
 match hd:digs a,h2 with
 | [x],_ =>
   rw[hd] at h1
   simp only[val,Nat.mul_zero,Nat.add_zero] at h1
   simp[h1]
theorem u64_join {x y:Nat} (hx:x<4294967296) (hy:y<4294967296):bits .or .u64 ((y:Int)*4294967296) (x:Int)=((x+4294967296*y:Nat):Int):=by
 have e3:(y:Int)*4294967296=((4294967296*y:Nat):Int):=by omega
 rw[e3,bits_or_u64_nat _ _ (by omega) (by omega)]
 have e4:4294967296*y ||| x=4294967296*y+x:=(Nat.two_pow_add_eq_or_of_lt (i:=32) hx y).symm
 rw[e4,Nat.add_comm]
set_option maxRecDepth 100000 in
set_option maxHeartbeats 1000000 in
theorem uint64_any (A:Option Addr) (la ca a:Nat) (w:World) (ha:NatAt w A la ca a) (hs:U64 a) :
  Calls Tryz.prog 87 #[.slice A la ca] w fun e w'=>e=.returned (.tuple #[.int .u64 (a:Int),.bool true])/\∃ n,w'=w.drewN n:=by
 have hd:=dlen_two hs
 have hsm:Sm a:=Nat.le_trans hd (by omega)
 go_enter Tryz.func87,Tryz.ntmps87
 go_wp2_with fail
 refine (trim_any _ _ _ _ _ ha hsm).mono ?_
 rintro e w1 ⟨l1,rfl,h1,rfl⟩
 clear ha hsm hs
 have hl:=h1.len
 rw[<- hl] at hd
 have hcase:l1=0∨l1=1∨l1=2:=by omega
 rcases hcase with rfl | rfl | rfl
 ·have ha0:a=0:=dlen_eq_zero hl.symm
  subst ha0
  clear h1 hl
  go_wp2
  go_ret2
  exact ⟨rfl,0,rfl⟩
 ·obtain ⟨b,off,rfl,hb,hc⟩:=h1.digits.at_ (by omega)
  have e0:=hc 0 (by omega)
  have hx:=(digs_wd a).getD 0
  rw[BB_eq] at hx
  have hv:=one_digit' hl.symm
  rw[<- hv,Nat.add_zero] at e0
  rw[<- hv] at hx
  have i1:IntKind.u64.wrap (a:Int)=(a:Int):=by rw[IntKind.wrap_u64];omega
  clear h1 hl hc hv
  go_wp2
  go_ret2
  exact ⟨rfl,0,rfl⟩
 ·obtain ⟨b,off,rfl,hb,hc⟩:=h1.digits.at_ (by omega)
  have e0:=hc 0 (by omega)
  have e1:=hc 1 (by omega)
  have hx:=(digs_wd a).getD 0
  have hy:=(digs_wd a).getD 1
  have hv:=two_digits hl.symm
  obtain ⟨x,hxv⟩:∃ x,x=(digs a).getD 0 0:=⟨_,rfl⟩
  obtain ⟨y,hyv⟩:∃ y,y=(digs a).getD 1 0:=⟨_,rfl⟩
  rw[<- hxv,<- hyv] at hv
  rw[<- hxv] at e0 hx
  rw[<- hyv] at e1 hy
  rw[Nat.add_zero] at e0
  rw[BB_eq] at hx hy hv
  have HJ:=Lh (u64_join hx hy)
  have Hv:=Lh hv
  clear h1 hl hc hv hxv hyv hd
  go_wp2
  go_quiet (fail)
  go_wp2
  go_ret2
  refine ⟨?_,_,rfl⟩
  show Ending.returned (.tuple #[.int .u64 (bits .or .u64 ((y:Int)*4294967296) (x:Int)),.bool true])=_
  rw[HJ.out,<- Hv.out]
set_option maxRecDepth 100000 in
set_option maxHeartbeats 2000000 in
theorem gcd_small (na:Bool) (A:Option Addr) (la ca:Nat) (a:Int) (nb:Bool) (B:Option Addr) (lb cb:Nat) (b:Int) (w:World) (ha:IntAt w na A la ca a) (hb:IntAt w nb B lb cb b) (hsa:U64 a.natAbs) (hsb:U64 b.natAbs) :
  Calls Tryz.prog 60 #[.agg #[.bool na,.slice A la ca],.agg #[.bool nb,.slice B lb cb]] w fun e w'=>∃ n1 A1 l1 c1,e=.returned (.agg #[.bool n1,.slice A1 l1 c1])/\IntN w' n1 A1 l1 c1 (Nat.gcd a.natAbs b.natAbs:Nat)/\Below w.heap.size w w':=by
 have hb0:Below w.heap.size w (((w.alloc (ibox na A la ca)).alloc (ibox nb B lb cb)).alloc (ibox false none 0 0)):=below_three w _ _ _ (Nat.le_refl _)
 have hA1:=(ha.nat.below hb0).below (Below.refl _ _).drew
 have hB1:=(hb.nat.below hb0).below (Below.refl _ _).drew
 have hR:=IBox.nil ((w.alloc (ibox na A la ca)).alloc (ibox nb B lb cb))
 simp only[World.size_alloc] at hR
 have HR:=Lh hR
 clear hR
 have Hb0:=Lh hb0
 have hda:=dlen_two hsa
 have hdb:=dlen_two hsb
 have hma:Sm a.natAbs:=Nat.le_trans hda (by omega)
 have hmb:Sm b.natAbs:=Nat.le_trans hdb (by omega)
 clear ha hb hb0
 go_enter Tryz.func60,Tryz.ntmps60
 go_wp2_with fail
 go_region_held3 (fun w'=>w'.cell? ⟨w.heap.size,1,none⟩=some (.slice A la ca)/\w'.cell? ⟨w.heap.size+1,1,none⟩=some (.slice B lb cb)) (go_keep) (first
   | (go_at_call_of 79 (Value.slice A la ca);go_must (refine (normal_any _ _ _ _ _ ?_ hma).mono ?_;(exact hA1.below Bel.go);rintro e w1 ⟨A1,l1,c1,rfl,h1,hb1⟩;obtain ⟨hcx,hfx⟩:=bcellS hb1;have p0w1:w1.cell? ⟨w.heap.size,1,none⟩=some (.slice A la ca):=(hcx _ (by go_simp)).trans (by go_simp);have p1w1:w1.cell? ⟨w.heap.size+1,1,none⟩=some (.slice B lb cb):=(hcx _ (by go_simp)).trans (by go_simp);clear hcx hfx;have hB2:=hB1.below (Below.trans Bel.go (hb1.mono (by simp<;>omega)));have HR1:=Lh (HR.out.move (Below.trans Bel.go (hb1.mono (by simp<;>omega))));have Hb1:=Lh (Hb0.out.trans ((Below.trans Bel.go (hb1.mono (by simp<;>omega))).mono Hb0.out.size))))
   | (go_at_call_of 79 (Value.slice B lb cb);go_must (refine (normal_any _ _ _ _ _ ?_ hmb).mono ?_;(exact hB2.below Bel.go);rintro e w2 ⟨A2,l2,c2,rfl,h2,hb2⟩;obtain ⟨hcx,hfx⟩:=bcellS hb2;have p0w2:w2.cell? ⟨w.heap.size,1,none⟩=some (.slice A la ca):=(hcx _ (by go_simp)).trans (by go_simp);have p1w2:w2.cell? ⟨w.heap.size+1,1,none⟩=some (.slice B lb cb):=(hcx _ (by go_simp)).trans (by go_simp);clear hcx hfx;have h12:=h1.below (Below.trans Bel.go (hb2.mono (by simp<;>omega)));have HR2:=Lh (HR1.out.move (Below.trans Bel.go (hb2.mono (by simp<;>omega))));have Hb2:=Lh (Hb1.out.trans ((Below.trans Bel.go (hb2.mono (by simp<;>omega))).mono Hb1.out.size)))))
 have hl1:=h1.len
 have hl2:=h2.len
 rw[<- hl1] at hda
 rw[<- hl2] at hdb
 have hq1:¬ (2<(l1:Int)):=by omega
 have hq2:¬ (2<(l2:Int)):=by omega
 have H12:=Lh h12
 have H2:=Lh h2
 clear h1 h2 hb1 hb2 hA1 hB1 hB2 hl1 hl2 h12 HR HR1 Hb1 p0w1 p1w1 p0w2 p1w2
 go_wp2
 go_loop [5,6] (fun x y=>x=.slice A1 l1 c1/\y=.slice A2 l2 c2) (fun _ _=>0)
 case atStart=>exact ⟨rfl,rfl⟩
 case round =>
  obtain ⟨rfl,rfl⟩:=hrel
  go_wp2_with fail
  refine (uint64_any _ _ _ _ _ H12.out.at_ hsa).mono ?_
  rintro e w3 ⟨rfl,n3,rfl⟩
  have hbq:Below w2.heap.size w2 (w2.drewN n3):=⟨rfl,rfl,rfl,Nat.le_refl _,fun _ _=>rfl⟩
  have H3:=Lh (H2.out.below hbq)
  have HR3:=Lh (HR2.out.move hbq)
  have Hb3:=Lh (Hb2.out.trans (hbq.mono Hb2.out.size))
  clear hbq
  go_wp2_with fail
  refine (uint64_any _ _ _ _ _ H3.out.at_ hsb).mono ?_
  rintro e w4 ⟨rfl,n4,rfl⟩
  have hbq:Below (w2.drewN n3).heap.size (w2.drewN n3) (w2.drewN (n3+n4)):=⟨rfl,rfl,rfl,Nat.le_refl _,fun _ _=>rfl⟩
  have HR4:=Lh (HR3.out.move hbq)
  have Hb4:=Lh (Hb3.out.trans (hbq.mono Hb3.out.size))
  clear hbq HR2 HR3 Hb2 Hb3 H12 H2 H3
  unfold U64 at hsa hsb
  obtain ⟨M,hM⟩:∃ M,M=a.natAbs:=⟨_,rfl⟩
  obtain ⟨N,hN⟩:∃ N,N=b.natAbs:=⟨_,rfl⟩
  rw[<- hM] at hsa ⊢
  rw[<- hN] at hsb ⊢
  rw[BB_eq] at hsa hsb
  have Hg:=Lh (show Nat.gcd M N=Nat.gcd a.natAbs b.natAbs by rw[hM,hN])
  clear hM hN hma hmb
  go_wp2
  go_loopw [9,11] (fun m n wr=>∃ M N:Nat,m=.int .u64 (M:Int)/\n=.int .u64 (N:Int)/\M<18446744073709551616/\N<18446744073709551616/\Nat.gcd M N=Nat.gcd a.natAbs b.natAbs/\IBox wr (w.heap.size+1+1) false none 0 0 0/\Below w.heap.size w wr) (fun _ n _=>(intOf n).toNat)
  case atStart=>exact ⟨M,N,rfl,rfl,hsa,hsb,Hg.out,HR4.out,Hb4.out⟩
  case round =>
   clear HR4 Hb4 Hg hsa hsb
   obtain ⟨M,N,rfl,rfl,hM,hN,hg,hR,hb⟩:=hrel
   have Hg:=Lh hg
   have HR:=Lh hR
   have Hb:=Lh hb
   clear hg hR hb
   by_cases h0:N=0
   ·subst h0
    have hgm:M=Nat.gcd a.natAbs b.natAbs:=by rw[<- Hg.out,Nat.gcd_zero_right]
    have hMu:U64 M:=by unfold U64;rw[BB_eq];exact hM
    have Hgm:=Lh hgm
    clear hgm
    go_wp2_with fail
    refine (of_any _ _ hMu).mono ?_
    rintro e w5 ⟨A5,l5,c5,rfl,h5,hb5⟩
    have HR5:=Lh (HR.out.move hb5)
    have Hb5:=Lh (Hb.out.trans (hb5.mono Hb.out.size))
    have hsm:Sm M:=Nat.le_trans (dlen_two hMu) (by omega)
    clear hb5
    go_wp2_with fail
    refine (from_any _ _ _ _ _ _ h5.at_ hsm).mono ?_
    rintro e w6 ⟨n6,A6,l6,c6,rfl,h6,hb6⟩
    rw[sgn_false,Hgm.out] at h6
    have hR6:=HR5.out.move hb6
    have Hb6:=Lh (Hb5.out.trans (hb6.mono Hb5.out.size))
    have HP:=Lh (hR6.put h6)
    have d0:=hR6.c0
    have d1:=hR6.c1
    have d2:=hR6.f0
    have d3:=hR6.f1
    clear h5 h6 hb6 hsm hR6
    go_wp2
    refine bodyPost_ret (v:=.agg #[.bool n6,.slice A6 l6 c6]) (by simp[results,Tryz.results60,go_sem,d0,d1]) rfl ⟨_,_,_,_,rfl,HP.out.hz,(Hb6.out.setCell (p:=⟨w.heap.size+1+1,0,none⟩) (by first | (simp;done) | (simp;omega) | omega) _).setCell (p:=⟨w.heap.size+1+1,1,none⟩) (by first | (simp;done) | (simp;omega) | omega) _⟩
   ·have hb0:((N:Int) == 0)=false:=by rw[beq_eq_false_iff_ne];omega
    have hb2:((N:Int) != 0)=true:=by rw[bne_iff_ne];omega
    have hmd:(M:Int).tmod (N:Int)=((M % N:Nat):Int):=rfl
    have hml:M % N<N:=Nat.mod_lt _ (by omega)
    have Hg2:=Lh (show Nat.gcd N (M % N)=Nat.gcd a.natAbs b.natAbs by rw[<- Hg.out,Nat.gcd_comm M N,Nat.gcd_rec N M,Nat.gcd_comm])
    obtain ⟨r,hr⟩:∃ r,r=M % N:=⟨_,rfl⟩
    rw[<- hr] at hmd hml Hg2
    clear hr
    go_wp2
    go_quiet (fail)
    go_wp2
    go_roundw
    case rel =>
     refine ⟨N,r,rfl,rfl,hN,by omega,Hg2.out,HR.out.move ⟨rfl,rfl,rfl,Nat.le_refl _,fun _ _=>rfl⟩,Hb.out.trans ⟨rfl,rfl,rfl,Nat.le_refl _,fun _ _=>rfl⟩⟩
    case measure=>simp[intOf];omega
end Go.Proofs.YtphmkdmflopcdaaGreat
