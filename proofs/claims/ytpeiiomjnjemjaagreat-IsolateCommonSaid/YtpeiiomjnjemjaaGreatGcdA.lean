/- The walk of division.Gcd for all numbers. -/
import Derived.Test.YtpeiiomjnjemjaaGreatQuo
import Derived.Test.YtpeiiomjnjemjaaGreatGcd
import Derived.Deep.LoopGhost
namespace Go.Proofs.YtpeiiomjnjemjaaGreat
open Go.RowKit
structure GcI (w wr:World) (G:Nat) (X:Option Addr) (lx cx:Nat) (Y:Option Addr) (ly cy M N:Nat):Prop where
 hx:NatN wr X lx cx M
 hy:NatN wr Y ly cy N
 sx:Sm M
 sy:Sm N
 g:Nat.gcd M N=G
 r:IBox wr (w.heap.size+1+1) false none 0 0 0
 below:Below w.heap.size w wr
theorem GcI.next {w wr w3:World} {G:Nat} {X:Option Addr} {lx cx:Nat} {Y:Option Addr} {ly cy M N:Nat} {R:Option Addr} {lR cR:Nat} (h:GcI w wr G X lx cx Y ly cy M N) (hR:NatN w3 R lR cR (M % N)) (hb:Below wr.heap.size wr w3) :
  GcI w w3 G Y ly cy R lR cR N (M % N) :=
 ⟨h.hy.below hb,hR,h.sy,h.sx.mono (Nat.mod_le _ _),by rw[<- h.g,Nat.gcd_comm M N,Nat.gcd_rec N M,Nat.gcd_comm],h.r.move hb,h.below.trans (hb.mono h.below.size)⟩
theorem u64_of_dlen {n:Nat} (h:dlen n<=2):U64 n:=by
 unfold U64
 have h1:=lt_pow_dlen n
 have h2:BB^dlen n<=BB^2:=Nat.pow_le_pow_right BB_pos h
 rw[Nat.pow_succ,Nat.pow_one] at h2
 omega
set_option maxRecDepth 100000 in
set_option maxHeartbeats 2000000 in
theorem gcd_all (na:Bool) (A:Option Addr) (la ca:Nat) (a:Int) (nb:Bool) (B:Option Addr) (lb cb:Nat) (b:Int) (w:World) (ha:IntAt w na A la ca a) (hb:IntAt w nb B lb cb b) (hma:SmI a) (hmb:SmI b) :
  Calls Tryz.prog 83 #[.agg #[.bool na,.slice A la ca],.agg #[.bool nb,.slice B lb cb]] w fun e w'=>∃ n1 A1 l1 c1,e=.returned (.agg #[.bool n1,.slice A1 l1 c1])/\IntN w' n1 A1 l1 c1 (Nat.gcd a.natAbs b.natAbs:Nat)/\Below w.heap.size w w':=by
 have hb0:Below w.heap.size w (((w.alloc (ibox na A la ca)).alloc (ibox nb B lb cb)).alloc (ibox false none 0 0)):=below_three w _ _ _ (Nat.le_refl _)
 have hA1:=(ha.nat.below hb0).below (Below.refl _ _).drew
 have hB1:=(hb.nat.below hb0).below (Below.refl _ _).drew
 have hR:=IBox.nil ((w.alloc (ibox na A la ca)).alloc (ibox nb B lb cb))
 simp only[World.size_alloc] at hR
 have HR:=Lh hR
 clear hR
 have Hb0:=Lh hb0
 obtain ⟨G,hG⟩:∃ G,G=Nat.gcd a.natAbs b.natAbs:=⟨_,rfl⟩
 rw[<- hG]
 have HG:=Lh hG
 clear ha hb hb0 hG
 go_enter Tryz.func83,Tryz.ntmps83
 go_wp2_with fail
 go_region_held3 (fun w'=>w'.cell? ⟨w.heap.size,1,none⟩=some (.slice A la ca)/\w'.cell? ⟨w.heap.size+1,1,none⟩=some (.slice B lb cb)) (go_keep) (first
   | (go_at_call_of 58 (Value.slice A la ca);go_must (refine (normal_any _ _ _ _ _ ?_ hma).mono ?_;(exact hA1.below Bel.go);rintro e w1 ⟨A1,l1,c1,rfl,h1,hb1⟩;obtain ⟨hcx,hfx⟩:=bcellS hb1;have p0w1:w1.cell? ⟨w.heap.size,1,none⟩=some (.slice A la ca):=(hcx _ (by go_simp)).trans (by go_simp);have p1w1:w1.cell? ⟨w.heap.size+1,1,none⟩=some (.slice B lb cb):=(hcx _ (by go_simp)).trans (by go_simp);clear hcx hfx;have hB2:=hB1.below (Below.trans Bel.go (hb1.mono (by simp<;>omega)));have HR1:=Lh (HR.out.move (Below.trans Bel.go (hb1.mono (by simp<;>omega))));have Hb1:=Lh (Hb0.out.trans ((Below.trans Bel.go (hb1.mono (by simp<;>omega))).mono Hb0.out.size))))
   | (go_at_call_of 58 (Value.slice B lb cb);go_must (refine (normal_any _ _ _ _ _ ?_ hmb).mono ?_;(exact hB2.below Bel.go);rintro e w2 ⟨A2,l2,c2,rfl,h2,hb2⟩;obtain ⟨hcx,hfx⟩:=bcellS hb2;have p0w2:w2.cell? ⟨w.heap.size,1,none⟩=some (.slice A la ca):=(hcx _ (by go_simp)).trans (by go_simp);have p1w2:w2.cell? ⟨w.heap.size+1,1,none⟩=some (.slice B lb cb):=(hcx _ (by go_simp)).trans (by go_simp);clear hcx hfx;have h12:=h1.below (Below.trans Bel.go (hb2.mono (by simp<;>omega)));have HR2:=Lh (HR1.out.move (Below.trans Bel.go (hb2.mono (by simp<;>omega))));have Hb2:=Lh (Hb1.out.trans ((Below.trans Bel.go (hb2.mono (by simp<;>omega))).mono Hb1.out.size)))))
 have hI:GcI w w2 G A1 l1 c1 A2 l2 c2 a.natAbs b.natAbs:=⟨h12,h2,hma,hmb,HG.out.symm,HR2.out,Hb2.out⟩
 have HI0:=Lh hI
 clear h1 h2 hb1 hb2 hA1 hB1 hB2 h12 HR HR1 Hb1 p0w1 p1w1 p0w2 p1w2 hI HR2 Hb2 Hb0 HG hma hmb
 go_wp2
 go_loopg [5,6] b.natAbs (fun k x y wr=>∃ X lx cx Y ly cy M,x=.slice X lx cx/\y=.slice Y ly cy/\GcI w wr G X lx cx Y ly cy M k)
 case atStart=>exact ⟨_,_,_,_,_,_,_,rfl,rfl,HI0.out⟩
 case round =>
  clear HI0
  obtain ⟨X,lx,cx,Y,ly,cy,M,rfl,rfl,hI⟩:=hrel
  have HI:=Lh hI
  have hlx:=hI.hx.len
  have hly:=hI.hy.len
  clear hI
  by_cases hq:2<lx∨2<ly
  ·by_cases h0:ly=0
   ·have hN0:gk=0:=dlen_eq_zero (by omega)
    subst hN0
    have hg:M=G:=by rw[<- HI.out.g,Nat.gcd_zero_right]
    subst hg
    subst h0
    have hq1:(2:Int)<(lx:Int):=by omega
    clear hq hlx hly
    go_wp2_with fail
    refine (from_any _ _ _ _ _ _ HI.out.hx.at_ HI.out.sx).mono ?_
    rintro e w6 ⟨n6,A6,l6,c6,rfl,h6,hb6⟩
    rw[sgn_false] at h6
    have hR6:=HI.out.r.move hb6
    have Hb6:=Lh (HI.out.below.trans (hb6.mono HI.out.below.size))
    have HP:=Lh (hR6.put h6)
    have d0:=hR6.c0
    have d1:=hR6.c1
    have d2:=hR6.f0
    have d3:=hR6.f1
    clear h6 hb6 hR6 HI
    go_wp2
    refine bodyPost_ret (v:=.agg #[.bool n6,.slice A6 l6 c6]) (by simp[results,Tryz.results83,go_sem,d0,d1]) rfl ⟨_,_,_,_,rfl,HP.out.hz,(Hb6.out.setCell (p:=⟨w.heap.size+1+1,0,none⟩) (by first | (simp;done) | (simp;omega) | omega) _).setCell (p:=⟨w.heap.size+1+1,1,none⟩) (by first | (simp;done) | (simp;omega) | omega) _⟩
   ·have hN0:gk≠0:=by intro e;rw[e,dlen_zero] at hly;exact h0 hly
    have hl0:((ly:Int) == 0)=false:=by rw[beq_eq_false_iff_ne];omega
    by_cases hx2:2<lx
    ·have hq1:(2:Int)<(lx:Int):=by omega
     clear hq hlx hly h0 hx2
     go_wp2_with fail
     refine (divide_all _ _ _ _ _ _ _ _ _ HI.out.hx.at_ HI.out.hy.at_ HI.out.sx HI.out.sy hN0).mono ?_
     rintro e w3 ⟨Q,lQ,cQ,R,lR,cR,rfl,-,hR,hb3⟩
     have hN:=HI.out.next hR hb3
     have HN:=Lh hN
     clear hN hR hb3
     go_wp2
     go_roundg (M % gk)
     case measure=>exact Nat.mod_lt _ (by omega)
     case rel=>exact ⟨Y,ly,cy,R,lR,cR,gk,rfl,rfl,HN.out⟩
    ·have hq1:¬ (2:Int)<(lx:Int):=by omega
     have hq2:(2:Int)<(ly:Int):=by omega
     clear hq hlx hly h0 hx2
     go_wp2_with fail
     refine (divide_all _ _ _ _ _ _ _ _ _ HI.out.hx.at_ HI.out.hy.at_ HI.out.sx HI.out.sy hN0).mono ?_
     rintro e w3 ⟨Q,lQ,cQ,R,lR,cR,rfl,-,hR,hb3⟩
     have hN:=HI.out.next hR hb3
     have HN:=Lh hN
     clear hN hR hb3
     go_wp2
     go_roundg (M % gk)
     case measure=>exact Nat.mod_lt _ (by omega)
     case rel=>exact ⟨Y,ly,cy,R,lR,cR,gk,rfl,rfl,HN.out⟩
  ·have hq1:¬ (2<(lx:Int)):=by omega
   have hq2:¬ (2<(ly:Int)):=by omega
   have hsa:U64 M:=u64_of_dlen (by omega)
   have hsb:U64 gk:=u64_of_dlen (by omega)
   clear hq hlx hly
   go_wp2_with fail
   refine (uint64_any _ _ _ _ _ HI.out.hx.at_ hsa).mono ?_
   rintro e w3 ⟨rfl,n3,rfl⟩
   have hbq:Below wr.heap.size wr (wr.drewN n3):=⟨rfl,rfl,rfl,Nat.le_refl _,fun _ _=>rfl⟩
   have H3:=Lh (HI.out.hy.below hbq)
   have HR3:=Lh (HI.out.r.move hbq)
   have Hb3:=Lh (HI.out.below.trans (hbq.mono HI.out.below.size))
   clear hbq
   go_wp2_with fail
   refine (uint64_any _ _ _ _ _ H3.out.at_ hsb).mono ?_
   rintro e w4 ⟨rfl,n4,rfl⟩
   have hbq:Below (wr.drewN n3).heap.size (wr.drewN n3) (wr.drewN (n3+n4)):=⟨rfl,rfl,rfl,Nat.le_refl _,fun _ _=>rfl⟩
   have HR4:=Lh (HR3.out.move hbq)
   have Hb4:=Lh (Hb3.out.trans (hbq.mono Hb3.out.size))
   unfold U64 at hsa hsb
   rw[BB_eq] at hsa hsb
   have Hg:=Lh HI.out.g
   clear hbq HR3 Hb3 H3 HI
   go_wp2
   go_loopw [9,11] (fun m n wr=>∃ M N:Nat,m=.int .u64 (M:Int)/\n=.int .u64 (N:Int)/\M<18446744073709551616/\N<18446744073709551616/\Nat.gcd M N=G/\IBox wr (w.heap.size+1+1) false none 0 0 0/\Below w.heap.size w wr) (fun _ n _=>(intOf n).toNat)
   case atStart=>exact ⟨M,gk,rfl,rfl,hsa,hsb,Hg.out,HR4.out,Hb4.out⟩
   case round =>
    clear HR4 Hb4 Hg hsa hsb
    obtain ⟨M,N,rfl,rfl,hM,hN,hg,hR,hb⟩:=hrel
    have Hg:=Lh hg
    have HR:=Lh hR
    have Hb:=Lh hb
    clear hg hR hb
    by_cases h0:N=0
    ·subst h0
     have hgm:M=G:=by rw[<- Hg.out,Nat.gcd_zero_right]
     have hMu:U64 M:=by unfold U64;rw[BB_eq];exact hM
     have Hgm:=Lh hgm
     clear hgm
     go_wp2_with fail
     refine (of_any _ _ hMu).mono ?_
     rintro e w5 ⟨A5,l5,c5,rfl,h5,hb5⟩
     have HR5:=Lh (HR.out.move hb5)
     have Hb5:=Lh (Hb.out.trans (hb5.mono Hb.out.size))
     have hsm:Sm M:=Nat.le_trans (dlen_two hMu) (by omega)
     clear hb5
     go_wp2_with fail
     refine (from_any _ _ _ _ _ _ h5.at_ hsm).mono ?_
     rintro e w6 ⟨n6,A6,l6,c6,rfl,h6,hb6⟩
     rw[sgn_false,Hgm.out] at h6
     have hR6:=HR5.out.move hb6
     have Hb6:=Lh (Hb5.out.trans (hb6.mono Hb5.out.size))
     have HP:=Lh (hR6.put h6)
     have d0:=hR6.c0
     have d1:=hR6.c1
     have d2:=hR6.f0
     have d3:=hR6.f1
     clear h5 h6 hb6 hsm hR6
     go_wp2
     refine bodyPost_ret (v:=.agg #[.bool n6,.slice A6 l6 c6]) (by simp[results,Tryz.results83,go_sem,d0,d1]) rfl ⟨_,_,_,_,rfl,HP.out.hz,(Hb6.out.setCell (p:=⟨w.heap.size+1+1,0,none⟩) (by first | (simp;done) | (simp;omega) | omega) _).setCell (p:=⟨w.heap.size+1+1,1,none⟩) (by first | (simp;done) | (simp;omega) | omega) _⟩
    ·have hb0:((N:Int) == 0)=false:=by rw[beq_eq_false_iff_ne];omega
     have hb2:((N:Int) != 0)=true:=by rw[bne_iff_ne];omega
     have hmd:(M:Int).tmod (N:Int)=((M % N:Nat):Int):=rfl
     have hml:M % N<N:=Nat.mod_lt _ (by omega)
     have Hg2:=Lh (show Nat.gcd N (M % N)=G by rw[<- Hg.out,Nat.gcd_comm M N,Nat.gcd_rec N M,Nat.gcd_comm])
     obtain ⟨r,hr⟩:∃ r,r=M % N:=⟨_,rfl⟩
     rw[<- hr] at hmd hml Hg2
     clear hr
     go_wp2
     go_quiet (fail)
     go_wp2
     go_roundw
     case rel =>
      refine ⟨N,r,rfl,rfl,hN,by omega,Hg2.out,HR.out.move ⟨rfl,rfl,rfl,Nat.le_refl _,fun _ _=>rfl⟩,Hb.out.trans ⟨rfl,rfl,rfl,Nat.le_refl _,fun _ _=>rfl⟩⟩
     case measure=>simp[intOf];omega
end Go.Proofs.YtpeiiomjnjemjaaGreat
