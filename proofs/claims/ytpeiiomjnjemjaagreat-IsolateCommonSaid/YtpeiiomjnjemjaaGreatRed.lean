/- rational.reduce for numbers of all sizes. -/
import Derived.Test.YtpeiiomjnjemjaaGreatRatD
import Derived.Test.YtpeiiomjnjemjaaGreatGcdA
import Derived.Test.YtpeiiomjnjemjaaGreatQuo
namespace Go.Proofs.YtpeiiomjnjemjaaGreat
open Go.RowKit
set_option maxRecDepth 100000 in
set_option maxHeartbeats 4000000 in
theorem reduce_all (n:Bool) (A:Option Addr) (l c:Nat) (z:Int) (n':Bool) (A':Option Addr) (l' c':Nat) (q:Nat) (w:World) (hz:IntN w n A l c z) (hq:IntN w n' A' l' c' (q:Int)) (hsz:SmI z) (hsq:SmI (q:Int)) (h0:0<q) :
  Calls Tryz.prog 57 #[.agg #[.bool n,.slice A l c],.agg #[.bool n',.slice A' l' c']] w fun e w'=>RatE (z.tdiv (Nat.gcd z.natAbs q)) (q / Nat.gcd z.natAbs q) e w'/\Below w.heap.size w w':=by
 have hbx:Below w.heap.size w (w.alloc (ibox n A l c)):=(Below.refl _ _).alloc (Nat.le_refl _) _
 have hby:Below (w.alloc (ibox n A l c)).heap.size (w.alloc (ibox n A l c)) ((w.alloc (ibox n A l c)).alloc (ibox n' A' l' c')):=(Below.refl _ _).alloc (Nat.le_refl _) _
 have hbz:Below ((w.alloc (ibox n A l c)).alloc (ibox n' A' l' c')).heap.size ((w.alloc (ibox n A l c)).alloc (ibox n' A' l' c')) (((w.alloc (ibox n A l c)).alloc (ibox n' A' l' c')).alloc (rbox false none 0 0 none 0 0)):=(Below.refl _ _).alloc (Nat.le_refl _) _
 have HN:=Lh (((IBox.make hz).move hby).move hbz)
 have hd:=(IBox.make (hq.below hbx)).move hbz
 have hr:=RBox.nil ((w.alloc (ibox n A l c)).alloc (ibox n' A' l' c'))
 simp only[World.size_alloc] at hd hr
 have HD:=Lh hd
 have HR:=Lh hr
 have hb0:=hbx.trans ((hby.trans (hbz.mono hby.size)).mono hbx.size)
 have Hb0:=Lh hb0
 have hgq:Nat.gcd z.natAbs q<=q:=Nat.gcd_le_right _ h0
 have hg0:0<Nat.gcd z.natAbs q:=Nat.gcd_pos_of_pos_right _ h0
 have e0:=HN.out.c0
 have e1:=HN.out.c1
 have e2:=HD.out.c0
 have e3:=HD.out.c1
 clear hz hq hbx hby hbz hd hr hb0
 go_enter Tryz.func57,Tryz.ntmps57
 go_wp2_with fail
 refine (gcd_all _ _ _ _ _ _ _ _ _ _ _ HN.out.hz.at_ HD.out.hz.at_ hsz hsq).mono ?_
 rintro e w1 ⟨n1,A1,l1,c1,rfl,h1,hb1⟩
 rw[Int.natAbs_natCast] at h1
 obtain ⟨G,hG⟩:∃ G,G=Nat.gcd z.natAbs q:=⟨_,rfl⟩
 rw[<- hG] at h1 hgq hg0
 have HG:=Lh hG
 have hsz1:=hb1.size
 simp only[World.size_alloc] at hsz1
 have hlt:w.heap.size+1+1<w1.heap.size:=by omega
 have hba:Below w1.heap.size w1 (w1.alloc (ibox n1 A1 l1 c1)):=(Below.refl _ _).alloc (Nat.le_refl _) _
 have HN1:=Lh ((HN.out.move hb1).move hba)
 have HD1:=Lh ((HD.out.move hb1).move hba)
 have HR1:=Lh ((HR.out.move hb1).move hba)
 have HG1:=Lh (IBox.make h1)
 have Hb1:=Lh ((Hb0.out.trans (hb1.mono Hb0.out.size)).trans (hba.mono (Hb0.out.trans (hb1.mono Hb0.out.size)).size))
 have hsG:SmI (G:Int):=Sm.mono hsq (by rw[Int.natAbs_natCast,Int.natAbs_natCast];exact hgq)
 have hne:(G:Int)≠0:=by omega
 clear hG h1 hb1 hba HN HD HR Hb0 e0 e1 e2 e3
 have e0:=HN1.out.c0
 have e1:=HN1.out.c1
 have e2:=HG1.out.c0
 have e3:=HG1.out.c1
 go_wp2_with fail
 refine (quo_all _ _ _ _ _ _ _ _ _ _ _ HN1.out.hz.at_ HG1.out.hz.at_ hsz hsG hne).mono ?_
 rintro e w2 ⟨n2,A2,l2,c2,n3,A3,l3,c3,rfl,h2,h3,hb2⟩
 have hN2:=HN1.out.move hb2
 have hD2:=HD1.out.move hb2
 have hR2:=HR1.out.move hb2
 have hG2:=HG1.out.move hb2
 have HN3:=Lh (hN2.put h2)
 have HD3:=Lh (hD2.far hN2 (by omega) (.bool n2) (.slice A2 l2 c2))
 have HR3:=Lh (hR2.farI hN2 (by omega) (.bool n2) (.slice A2 l2 c2))
 have HG3:=Lh (hG2.far hN2 (by omega) (.bool n2) (.slice A2 l2 c2))
 have Hb3:=Lh (((Hb1.out.trans (hb2.mono Hb1.out.size)).setCell (p:=⟨w.heap.size,0,none⟩) (Nat.le_refl _) (.bool n2)).setCell (p:=⟨w.heap.size,1,none⟩) (Nat.le_refl _) (.slice A2 l2 c2))
 clear e0 e1 e2 e3
 have e0:=hN2.c0
 have e1:=hN2.c1
 have e2:=hN2.f0
 have e3:=hN2.f1
 obtain ⟨W3,hW3⟩:∃ W3,W3=put2 w2 w.heap.size n2 A2 l2 c2:=⟨_,rfl⟩
 have Hn2:=Lh hN2
 have Hd2:=Lh hD2
 have Hg2:=Lh hG2
 clear h2 h3 hb2 hN2 hD2 hR2 hG2 HN1 HD1 HR1 HG1 Hb1 hW3
 have d0:=Hd2.out.c0
 have d1:=Hd2.out.c1
 have d2:=Hg2.out.c0
 have d3:=Hg2.out.c1
 have ne1:w.heap.size≠w.heap.size+1:=by omega
 have ne2:w.heap.size≠w1.heap.size:=by omega
 have ne3:w.heap.size+1≠w1.heap.size:=by omega
 go_wp2_with fail
 refine (quo_all _ _ _ _ _ _ _ _ _ _ _ HD3.out.hz.at_ HG3.out.hz.at_ hsq hsG hne).mono ?_
 rintro e w4 ⟨n4,A4,l4,c4,n5,A5,l5,c5,rfl,h4,h5,hb4⟩
 have hN4:=HN3.out.move hb4
 have hD4:=HD3.out.move hb4
 have hR4:=HR3.out.move hb4
 have HN5:=Lh (hN4.far hD4 (by omega) (.bool n4) (.slice A4 l4 c4))
 have HD5:=Lh (hD4.put h4)
 have HR5:=Lh (hR4.farI hD4 (by omega) (.bool n4) (.slice A4 l4 c4))
 have Hb5:=Lh (((Hb3.out.trans (hb4.mono Hb3.out.size)).setCell (p:=⟨w.heap.size+1,0,none⟩) (by simp) (.bool n4)).setCell (p:=⟨w.heap.size+1,1,none⟩) (by simp) (.slice A4 l4 c4))
 have a0:=hN4.c0
 have a1:=hN4.c1
 have a2:=hD4.c0
 have a3:=hD4.c1
 have a4:=hD4.f0
 have a5:=hD4.f1
 have r0:=hR4.c0
 have r1:=hR4.c1
 have r2:=hR4.c2
 have r3:=hR4.f0
 have r4:=hR4.f1
 have r5:=hR4.f2
 have hnat:(((q:Int).tdiv (G:Int))).natAbs=q / G:=by
  show (((q / G:Nat):Int)).natAbs=_
  rw[Int.natAbs_natCast]
 have hq5:=HD5.out.hz.nat
 rw[hnat] at hq5
 have HP:=Lh (HR5.out.put HN5.out.hz hq5)
 have ne4:w.heap.size+1+1≠w.heap.size:=by omega
 have ne5:w.heap.size+1+1≠w.heap.size+1:=by omega
 clear h4 h5 hb4 hN4 hD4 hR4 HN3 HD3 HR3 HG3 Hb3 d0 d1 d2 d3 Hn2 Hd2 Hg2 e0 e1 e2 e3 hq5 hnat
 go_wp2
 refine bodyPost_ret (v:=.agg #[.bool n2,.slice A2 l2 c2,.slice A4 l4 c4]) (by simp[results,Tryz.results57,go_sem,r0,r1,r2]) rfl ⟨⟨_,_,_,_,_,_,_,rfl,?_,?_⟩,?_⟩
 ·rw[<- HG.out];exact HP.out.hz
 ·rw[<- HG.out];exact HP.out.hq
 ·exact ((Hb5.out.setCell (p:=⟨w.heap.size+1+1,0,none⟩) (by first | (simp;done) | (simp;omega) | omega) _).setCell (p:=⟨w.heap.size+1+1,1,none⟩) (by first | (simp;done) | (simp;omega) | omega) _).setCell (p:=⟨w.heap.size+1+1,2,none⟩) (by first | (simp;done) | (simp;omega) | omega) _
end Go.Proofs.YtpeiiomjnjemjaaGreat
