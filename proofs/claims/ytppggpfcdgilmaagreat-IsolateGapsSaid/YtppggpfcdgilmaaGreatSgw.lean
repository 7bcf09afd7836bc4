/- The walks of sturm.Signs and sturm.Below at polynomials that are not too large. -/
import Derived.Test.YtppggpfcdgilmaaGreatAdp
import Derived.Test.YtppggpfcdgilmaaGreatExq
namespace Go.Proofs.YtppggpfcdgilmaaGreat
open Go.RowKit
end Go.Proofs.YtppggpfcdgilmaaGreat
namespace Go.Proofs.YtppggpfcdgilmaaGreat
open Go.RowKit
set_option maxRecDepth 100000 in
set_option maxHeartbeats 4000000 in
theorem below_any (Af:Option Addr) (lf cf:Nat) (f:List Int) (n:Bool) (A:Option Addr) (l c:Nat) (B:Option Addr) (m d q:Nat) (z:Int) (w:World) (hf:PolyN w Af lf cf f) (hfm:lf≤1000000) (h9:P9 f)
  (hz:IntN w n A l c z) (hq:NatN w B m d q) (ha:AtOK z q) (z8:z.natAbs≤ZB) (q8:q≤ZB) :
  Calls Tryz.prog 32 #[.slice Af lf cf,.agg #[.bool n,.slice A l c,.slice B m d]] w fun e w'=>e=.returned (.int .i64 (nbelow f z q))∧Below w.heap.size w w':=by
 have o1:=below_new w (rbox n A l c B m d)
 have R1:=Lib.hid (RBox.make hz hq)
 have HF:=Lib.hid (hf.below ikN o1)
 have Hb:=Lib.hid o1
 obtain ⟨V,hV⟩:∃ V,V=nbelow f z q:=⟨_,rfl⟩
 rw [← hV]
 have HV:=Lib.hid hV
 have hp:=ha.pos
 have sf:=h9.cp.fit.smp
 have c1:=h9.part
 have c2:=h9.pder
 have ht:=h9.part_t
 clear o1 hz hq hf hV
 go_enter Tryz.func32,Tryz.ntmps32
 go_wp2_with fail
 refine (part_q ikN _ _ _ _ _ HF.out sf (fun _=>h9.q) hfm).mono ?_
 rintro e w3 ⟨A3,l3,c3,rfl,h3,hb3⟩
 have hll:=h3.length
 replace R1:=Lib.hid (R1.out.move hb3)
 replace Hb:=Lib.hid (Hb.out.trans (hb3.mono Hb.out.size))
 clear hb3 HF
 by_cases f0:plen f=0
 ·have e3:l3=0:=by rw [← hll,qpart_nil f0];rfl
  subst e3
  have hV0:V=0:=by rw [HV.out];unfold nbelow;rw [if_pos f0]
  have HV0:=Lib.hid hV0
  clear hV0 f0 h3 hll
  go_wp2_with fail
  go_ret
  exact ⟨by show Ending.returned (.int .i64 0)=_;rw [HV0.out],Hb.out⟩
 have q0:=(q_facts h9.q f0).q0
 obtain ⟨Q,hQ⟩:∃ Q,Q=qpart f:=⟨_,rfl⟩
 rw [← hQ] at h3 c1 c2 ht hll q0
 obtain ⟨PS,hPS⟩:∃ PS,PS=pchain 12 Q (pder Q):=⟨_,rfl⟩
 obtain ⟨k1,k2,k3,k4⟩:=chain_all c1 c2
 rw [← hPS] at k2 k4
 obtain ⟨N1,hN1⟩:∃ N,N=(vst (PS.map (sge true)) PS.length).1:=⟨_,rfl⟩
 obtain ⟨N2,hN2⟩:∃ N,N=(vst (PS.map (sat z q)) PS.length).1:=⟨_,rfl⟩
 obtain ⟨S2,hS2⟩:∃ S,S=sat z q Q:=⟨_,rfl⟩
 have hVe:V=(N1:Int)-(N2:Int)-(if S2=0 then 1 else 0):=by
  rw [HV.out]
  unfold nbelow
  rw [if_neg f0,← hQ,hN1,hN2,vend_eq,vat_eq hp,← hPS,← hS2]
 have n1:=(vst_le (PS.map (sge true)) PS.length).1
 have n2:=(vst_le (PS.map (sat z q)) PS.length).1
 rw [← hN1] at n1
 rw [← hN2] at n2
 have HVe:=Lib.hid hVe
 have HN1:=Lib.hid hN1.symm
 have HN2:=Lib.hid hN2.symm
 have HS2:=Lib.hid hS2
 have HPS:=Lib.hid hPS
 have hl30:¬ l3=0:=by rw [← hll,← ht,ptrim_length];exact q0
 have hl3:l3≤10:=by rw [← hll,← ht,ptrim_length];exact c1.len
 have bl3:((l3:Int) == 0)=false:=by rw [beq_eq_false_iff_ne];omega
 have hw:IntKind.i64.wrap ((N1:Int)-(N2:Int))=(N1:Int)-(N2:Int):=IntWalk.i64_in _ (by omega)
 have hw1:IntKind.i64.wrap ((N1:Int)-(N2:Int)-1)=(N1:Int)-(N2:Int)-1:=IntWalk.i64_in _ (by omega)
 have P1:PoOK z q Q:=c1.at (by have:=plen_le Q;rw [← ht,ptrim_length];have:=c1.len;omega) z8 q8
 have HP:=Lib.hid h3
 have KE:Hid (∀ q∈PS,SmP q∧q.length≤1000000000):=Lib.hid (fun q hq=>(k2 q hq).smp)
 have e2:∀ p∈PS,PoOK z q p:=fun p hp=>(k2 p hp).at z8 q8
 clear f0 hll hVe hN1 hN2 hQ hPS hS2 q0 ht h3
 go_wp2_with fail
 refine (sturmof_any _ _ _ _ _ HP.out c1.fit.smp c2.fit.smp (by omega) 12 k1 (by omega)).mono ?_
 rintro e w4 ⟨A4,l4,c4,rfl,h4,hb4⟩
 rw [← HPS.out] at h4
 obtain rfl:l4=PS.length:=h4.length.symm
 have HC:=Lib.hid h4
 replace R1:=Lib.hid (R1.out.move hb4)
 replace HP:=Lib.hid (HP.out.below ikN hb4)
 replace Hb:=Lib.hid (Hb.out.trans (hb4.mono Hb.out.size))
 clear hb4 h4
 have hlp:PS.length≤1000000:=by omega
 obtain ⟨L,hL⟩:∃ L,L=PS.length:=⟨_,rfl⟩
 rw [← hL] at HC HN1 HN2 hlp n1 n2 k4 ⊢
 obtain ⟨wb,hwb⟩:∃ wb,wb=w4:=⟨_,rfl⟩
 rw [← hwb] at R1 HP HC Hb ⊢
 have x0:=R1.out.c0
 have x1:=R1.out.c1
 have x2:=R1.out.c2
 clear hL hwb
 go_wp2_with fail
 go_region_held3 (fun w'=>w'.cell? ⟨w.heap.size,0,none⟩=some (.bool n)∧w'.cell? ⟨w.heap.size,1,none⟩=some (.slice A l c)∧w'.cell? ⟨w.heap.size,2,none⟩=some (.slice B m d)) (go_keep) (first
  | (go_at_call 63;(have _hx:=G7);go_must (refine (vars_any _ _ _ PS _ _ _ _ _ _ _ _ _ _ ?_ ?_ ?_ ha e2 hlp).mono ?_;(exact ((HC.out.below G7.out).below Bel.go));(exact (R1.out.move G7.out).hz.below Bel.go);(exact (R1.out.move G7.out).hq.below Bel.go);rintro e w9 ⟨rfl,hb9⟩;rw [show (vst (PS.map (sat z q)) L).1=N2 from HN2.out];have G9:Hid (Below wb.heap.size wb w9):=Lib.hid (G7.out.trans ((Below.trans Bel.go (hb9.mono (by simp<;>omega))).mono G7.out.size));obtain ⟨hcx,hfx⟩:=bcellS hb9;have j0:=(R1.out.move G9.out).c0;have j1:=(R1.out.move G9.out).c1;have j2:=(R1.out.move G9.out).c2;clear hcx hfx hb9))
  | (go_at_call 62;go_must (refine (varend_any true _ _ _ PS _ ?_ KE.out hlp).mono ?_;(exact HC.out.below Bel.go);rintro e w7 ⟨rfl,hb7⟩;rw [show (vst (PS.map (sge true)) L).1=N1 from HN1.out];have G7:Hid (Below wb.heap.size wb w7):=Lib.hid (Below.trans Bel.go (hb7.mono (by simp<;>omega)));obtain ⟨hcx,hfx⟩:=bcellS hb7;have i0:=(R1.out.move G7.out).c0;have i1:=(R1.out.move G7.out).c1;have i2:=(R1.out.move G7.out).c2;clear hcx hfx hb7)))
 rename_i hHeld
 clear hHeld
 replace R1:=Lib.hid (R1.out.move G9.out)
 replace HP:=Lib.hid (HP.out.below ikN G9.out)
 replace Hb:=Lib.hid (Hb.out.trans (G9.out.mono Hb.out.size))
 clear j0 j1 j2 i0 i1 i2 x0 x1 x2 HC G7 G9
 have x0:=R1.out.c0
 have x1:=R1.out.c1
 have x2:=R1.out.c2
 go_wp2_with fail
 refine (signat_any ikN _ _ _ Q _ _ _ _ _ _ _ _ _ _ HP.out P1.fit (by omega) R1.out.hz R1.out.hq ha.u ha.v ha.pos P1.ok ha.fz ha.fq).mono ?_
 rintro e w10 ⟨he,hb10⟩
 have he2:e=.returned (.int .i64 S2):=by rw [HS2.out];exact he
 subst he2
 replace Hb:=Lib.hid (Hb.out.trans (hb10.mono Hb.out.size))
 clear hb10 he R1 HP x0 x1 x2
 by_cases c2:S2=0
 ·have b2:(S2 == 0)=true:=by rw [c2];rfl
  have HV2:=Lib.hid (show V=(N1:Int)-(N2:Int)-1 by rw [HVe.out,if_pos c2])
  clear c2
  go_wp2_with fail
  go_ret
  exact ⟨by show Ending.returned (.int .i64 ((N1:Int)-(N2:Int)-1))=_;rw [HV2.out],Hb.out⟩
 ·have b2:(S2 == 0)=false:=by rw [beq_eq_false_iff_ne];exact c2
  have HV2:=Lib.hid (show V=(N1:Int)-(N2:Int) by rw [HVe.out,if_neg c2];omega)
  go_wp2_with fail
  go_ret
  exact ⟨by show Ending.returned (.int .i64 ((N1:Int)-(N2:Int)))=_;rw [HV2.out],Hb.out⟩
end Go.Proofs.YtppggpfcdgilmaaGreat
