/- rootbound.logarithm for numbers of all sizes. -/
import Derived.Test.YtjmglmgokfcgoaaBits
namespace Go.Proofs.Ytjmglmgokfcgoaa
open Go.RowKit
set_option maxHeartbeats 1000000 in
theorem logarithm_all (na:Bool) (A:Option Addr) (la ca:Nat) (n:Nat) (w:World) (ha:IntAt w na A la ca (n:Int)) (hsn:SmI (n:Int)) (hsm:Sm (n+1)) :
  Calls Try.prog 60 #[.agg #[.bool na,.slice A la ca]] w fun e w'=>LGE n e∧Below w.heap.size w w':=by
 have hb0:Below w.heap.size w (w.alloc (ibox na A la ca)):=(Below.refl _ _).alloc (Nat.le_refl _) _
 have h0:=ha.below hb0
 have c0:(w.alloc (ibox na A la ca)).cell? ⟨w.heap.size,0,none⟩=some (.bool na):=by go_simp
 have c1:(w.alloc (ibox na A la ca)).cell? ⟨w.heap.size,1,none⟩=some (.slice A la ca):=by go_simp
 have hs1:SmI 1:=SmI.of64 (by unfold I64;omega)
 have Hb0:=Lib.hid hb0
 clear ha hb0
 go_enter Try.func60,Try.ntmps60
 go_wp2_with fail
 refine (iof_any 1 _ (by unfold I64;omega)).mono ?_
 rintro e w1 ⟨n1,A1,l1,c2,rfl,h1,hb1⟩
 obtain ⟨hc,hf⟩:=bcellS hb1
 have d0:w1.cell? ⟨w.heap.size,0,none⟩=some (.bool na):=(hc _ (by go_simp)).trans c0
 have d1:w1.cell? ⟨w.heap.size,1,none⟩=some (.slice A la ca):=(hc _ (by go_simp)).trans c1
 have hz:=hb1.size
 simp only [World.size_alloc] at hz
 have hlt:w.heap.size<w1.heap.size:=by omega
 have hx:=Lib.hid ((h0.below hb1).below ((Below.refl _ _).alloc (Nat.le_refl _) (ibox n1 A1 l1 c2)))
 have HB:=Lib.hid (IBox.make h1)
 have Hb1:=Lib.hid ((Hb0.out.trans (hb1.mono Hb0.out.size)).alloc (Hb0.out.trans (hb1.mono Hb0.out.size)).size (ibox n1 A1 l1 c2))
 clear hc hf hb1 h0 c0 c1 h1
 go_wp2_with fail
 refine (icmp_any _ _ _ _ _ _ _ _ _ _ _ hx.out HB.out.hz.at_ hsn hs1).mono ?_
 rintro e w2 ⟨rfl,hb2⟩
 have Hx2:=Lib.hid (hx.out.below hb2)
 have HB2:=Lib.hid (HB.out.move hb2)
 have Hb2:=Lib.hid (Hb1.out.trans (hb2.mono Hb1.out.size))
 by_cases hn1:n≤1
 ·have hcm:cmpz (n:Int) 1≤0:=by unfold cmpz;split<;>(try split)<;>omega
  have HL:=Lib.hid (LG_one hn1)
  generalize cmpz (n:Int) 1=v at hcm ⊢
  clear hn1 hb2
  go_wp2
  go_ret
  exact ⟨⟨0,rfl,HL.out⟩,Hb2.out⟩
 ·have hcm:¬ cmpz (n:Int) 1≤0:=by unfold cmpz;rw [if_neg (by omega),if_neg (by omega)];omega
  generalize cmpz (n:Int) 1=v at hcm ⊢
  obtain ⟨hc,hf⟩:=bcellS hb2
  have e0:w2.cell? ⟨w.heap.size,0,none⟩=some (.bool na):=(hc _ (by go_simp)).trans (by go_simp)
  have e1:w2.cell? ⟨w.heap.size,1,none⟩=some (.slice A la ca):=(hc _ (by go_simp)).trans (by go_simp)
  have e2:=HB2.out.c0
  have e3:=HB2.out.c1
  have hn2:2≤n:=by omega
  clear hn1 hb2 hc hf d0 d1
  go_wp2_with fail
  refine (isub_any _ _ _ _ _ _ _ _ _ _ _ Hx2.out HB2.out.hz.at_ hsn hs1 (by rw [Int.natAbs_natCast];exact hsm)).mono ?_
  rintro e w3 ⟨n3,A3,l3,c3,rfl,h3,hb3⟩
  have Hb3:=Lib.hid (Hb2.out.trans (hb3.mono Hb2.out.size))
  have e4:(n:Int)-1=((n-1:Nat):Int):=by omega
  rw [e4] at h3
  clear e0 e1 e2 e3 hb3 e4
  go_wp2_with fail
  refine (ibitlen_any _ _ _ _ _ _ h3.at_ (by unfold SmI;rw [Int.natAbs_natCast];exact Sm.mono hsm (by omega))).mono ?_
  rintro e w4 ⟨⟨k,rfl,hk,_⟩,hb4⟩
  rw [Int.natAbs_natCast] at hk
  have HL:=Lib.hid (LG_of_BL hk hn2)
  have Hb4:=Lib.hid (Hb3.out.trans (hb4.mono Hb3.out.size))
  clear hk hb4 h3
  go_wp2
  go_ret
  exact ⟨⟨k,rfl,HL.out⟩,Hb4.out⟩
end Go.Proofs.Ytjmglmgokfcgoaa
