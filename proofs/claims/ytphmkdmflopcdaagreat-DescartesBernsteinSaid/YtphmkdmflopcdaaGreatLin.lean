/- The walks of the law's helpers line, root, two. -/
import Derived.Test.YtphmkdmflopcdaaGreatRatD
import Derived.Test.YtphmkdmflopcdaaGreatRbH
import Derived.Test.YtphmkdmflopcdaaGreatIntE
namespace Go.Proofs.YtphmkdmflopcdaaGreat
open Go.RowKit
section
variable {W:World} {g g':Nat} {n n':Bool} {A A' B B':Option Addr} {l c l' c' m d m' d':Nat} {z z':Int} {q q':Nat}
theorem RBox.make (hz:IntN W n A l c z) (hq:NatN W B m d q):RBox (W.alloc (rbox n A l c B m d)) W.heap.size n A l c B m d z q :=
 ⟨by go_simp,by go_simp,by go_simp,by go_simp,by go_simp,by go_simp,by simp,hz.below ((Below.refl _ _).alloc (Nat.le_refl _) _),hq.below ((Below.refl _ _).alloc (Nat.le_refl _) _)⟩
theorem RBox.far (h:RBox W g n A l c B m d z q) (h':RBox W g' n' A' l' c' B' m' d' z' q') (hg:g≠g') (u v x:Value):RBox (((W.setCell ⟨g',0,none⟩ u).setCell ⟨g',1,none⟩ v).setCell ⟨g',2,none⟩ x) g n A l c B m d z q:=by
 have k0:=h.c0
 have k1:=h.c1
 have k2:=h.c2
 have f0:=h.f0
 have f1:=h.f1
 have f2:=h.f2
 have j0:=h'.c0
 have j1:(W.setCell ⟨g',0,none⟩ u).cell? ⟨g',1,none⟩=some (.slice A' l' c'):=by
  rw[World.cell?_setCell_other W _ _ _ (by simp)];exact h'.c1
 have j2:((W.setCell ⟨g',0,none⟩ u).setCell ⟨g',1,none⟩ v).cell? ⟨g',2,none⟩=some (.slice B' m' d'):=by
  rw[World.cell?_setCell_other _ _ _ _ (by simp),World.cell?_setCell_other _ _ _ _ (by simp)];exact h'.c2
 exact ⟨by go_simp,by go_simp,by go_simp,by go_simp,by go_simp,by go_simp,by simpa [World.setCell] using h.lt,((h.hz.store _ j0 (noDigit_bool _)).store _ j1 (noDigit_slice _ _ _)).store _ j2 (noDigit_slice _ _ _),((h.hq.store _ j0 (noDigit_bool _)).store _ j1 (noDigit_slice _ _ _)).store _ j2 (noDigit_slice _ _ _)⟩
end
end Go.Proofs.YtphmkdmflopcdaaGreat
namespace Go.Proofs.YtphmkdmflopcdaaGreat
open Go.RowKit
def I8 (z:Int):Prop:=-128<=z/\z<=127
def ld (d:Int):Int:=if d=0 then 1 else d
def lin (p d:Int):List Int:=[-p,ld d]
set_option maxRecDepth 100000 in
set_option maxHeartbeats 4000000 in
theorem make_neg (n:Bool) (A:Option Addr) (l c:Nat) (z:Int) (n':Bool) (A':Option Addr) (l' c':Nat) (q:Nat) (w:World) (hz:IntN w n A l c z) (hq:IntN w n' A' l' c' (-(q:Int))) (hu:U64 z.natAbs) (hv:q<BB) (h0:0<q) :
  Calls Tryz.prog 21 #[.agg #[.bool n,.slice A l c],.agg #[.bool n',.slice A' l' c']] w fun e w'=>RatOk ((-z).tdiv (Nat.gcd z.natAbs q)) (q / Nat.gcd z.natAbs q) e w'/\Below w.heap.size w w':=by
 have hbx:Below w.heap.size w (w.alloc (ibox n A l c)):=(Below.refl _ _).alloc (Nat.le_refl _) _
 have hby:Below (w.alloc (ibox n A l c)).heap.size (w.alloc (ibox n A l c)) ((w.alloc (ibox n A l c)).alloc (ibox n' A' l' c')):=(Below.refl _ _).alloc (Nat.le_refl _) _
 have hbz:Below ((w.alloc (ibox n A l c)).alloc (ibox n' A' l' c')).heap.size ((w.alloc (ibox n A l c)).alloc (ibox n' A' l' c')) (((w.alloc (ibox n A l c)).alloc (ibox n' A' l' c')).alloc (rbox false none 0 0 none 0 0)):=(Below.refl _ _).alloc (Nat.le_refl _) _
 have HN:=Lh (((IBox.make hz).move hby).move hbz)
 have hd:=(IBox.make (hq.below hbx)).move hbz
 have hr:=RBox.nil ((w.alloc (ibox n A l c)).alloc (ibox n' A' l' c'))
 simp only[World.size_alloc] at hd hr
 have HD:=Lh hd
 have HR:=Lh hr
 have hb0:=hbx.trans ((hby.trans (hbz.mono hby.size)).mono hbx.size)
 have Hb0:=Lh hb0
 have hsq:SmI (-(q:Int)):=by unfold SmI;rw[Int.natAbs_neg,Int.natAbs_natCast];exact sm_pow (k:=1) (by rw[Nat.pow_one];exact hv) (by omega)
 have e0:=HN.out.c0
 have e1:=HN.out.c1
 have e2:=HD.out.c0
 have e3:=HD.out.c1
 clear hz hq hbx hby hbz hd hr hb0
 go_enter Tryz.func21,Tryz.ntmps21
 go_wp2_with fail
 refine (isign_any _ _ _ _ _ _ HD.out.hz.at_ hsq).mono ?_
 rintro e w1 ⟨rfl,rfl⟩
 rw[show sg (-(q:Int))=-1 from sg_neg (by omega)]
 have hba:Below (((w.alloc (ibox n A l c)).alloc (ibox n' A' l' c')).alloc (rbox false none 0 0 none 0 0)).heap.size (((w.alloc (ibox n A l c)).alloc (ibox n' A' l' c')).alloc (rbox false none 0 0 none 0 0)) ((((w.alloc (ibox n A l c)).alloc (ibox n' A' l' c')).alloc (rbox false none 0 0 none 0 0)).alloc (ibox n' A' l' c')):=(Below.refl _ _).alloc (Nat.le_refl _) _
 have HN1:=Lh (HN.out.move hba)
 have HD1:=Lh (HD.out.move hba)
 have HR1:=Lh (HR.out.move hba)
 have Hb1:=Lh (Hb0.out.trans (hba.mono Hb0.out.size))
 clear e0 e1 e2 e3 HN HD HR Hb0 hba
 have e0:=HN1.out.c0
 have e1:=HN1.out.c1
 have e2:=HD1.out.c0
 have e3:=HD1.out.c1
 have ne4:w.heap.size+1+1≠w.heap.size:=by omega
 have hsz:SmI z:=sm_u64 hu
 go_wp2_with fail
 refine (ineg_any _ _ _ _ _ _ HN1.out.hz.at_ hsz).mono ?_
 rintro e w4 ⟨n4,A4,l4,c4,rfl,h4,hb4⟩
 have hn4:=HN1.out.move hb4
 have hd4:=HD1.out.move hb4
 have hr4:=HR1.out.move hb4
 have Hb4:=Lh (((Hb1.out.trans (hb4.mono Hb1.out.size)).setCell (p:=⟨w.heap.size,0,none⟩) (Nat.le_refl _) (.bool n4)).setCell (p:=⟨w.heap.size,1,none⟩) (Nat.le_refl _) (.slice A4 l4 c4))
 have HN4:=Lh (hn4.put h4)
 have HD4:=Lh (hd4.far hn4 (by omega) (.bool n4) (.slice A4 l4 c4))
 have HR4:=Lh (hr4.farI hn4 (by omega) (.bool n4) (.slice A4 l4 c4))
 have g0:=hn4.c0
 have g1:=hn4.c1
 have g2:=hn4.f0
 have g3:=hn4.f1
 have hu4:U64 (-z).natAbs:=by rw[Int.natAbs_neg];exact hu
 clear e0 e1 e2 e3 HN1 HD1 HR1 Hb1 hb4 h4 hn4 hd4 hr4
 have e0:=HN4.out.c0
 have e1:=HN4.out.c1
 have e2:=HD4.out.c0
 have e3:=HD4.out.c1
 go_wp2_with fail
 go_region_held3 (fun w'=>w'.cell? ⟨w.heap.size,0,none⟩=some (.bool n4)/\w'.cell? ⟨w.heap.size,1,none⟩=some (.slice A4 l4 c4)/\w'.cell? ⟨w.heap.size+1,0,none⟩=some (.bool n')/\w'.cell? ⟨w.heap.size+1,1,none⟩=some (.slice A' l' c')) (go_keep) (first
   | (go_at_call 47;go_must (refine (iabs_any _ _ _ _ _ _ ?_ hsq).mono ?_;(exact HD4.out.hz.at_.below Bel.go);rintro e w2 ⟨n2,A2,l2,c2,rfl,h2,hb2⟩;rw[Int.natAbs_neg,Int.natAbs_natCast] at h2;have HN2:=Lh (HN4.out.move (Below.trans Bel.go (hb2.mono (by simp<;>omega))));have HD2:=Lh (HD4.out.move (Below.trans Bel.go (hb2.mono (by simp<;>omega))));have HR2:=Lh (HR4.out.move (Below.trans Bel.go (hb2.mono (by simp<;>omega))));have Hb2:=Lh (Hb4.out.trans ((Below.trans Bel.go (hb2.mono (by simp<;>omega))).mono Hb4.out.size));have x0:=HN2.out.c0;have x1:=HN2.out.c1;have x2:=HD2.out.c0;have x3:=HD2.out.c1))
   | (go_at_call 29;go_must (refine (reduce_any _ _ _ _ _ _ _ _ _ _ _ ?_ ?_ hu4 hv h0).mono ?_;(exact HN2.out.hz.below Bel.go);(exact h2.below Bel.go);rw[Int.natAbs_neg];rintro e w3 ⟨⟨n3,A3,l3,c3,B3,m3,d3,rfl,h3,h4⟩,hb3⟩;have HN3:=Lh (HN2.out.move (Below.trans Bel.go (hb3.mono (by simp<;>omega))));have HD3:=Lh (HD2.out.move (Below.trans Bel.go (hb3.mono (by simp<;>omega))));have HR3:=Lh (HR2.out.move (Below.trans Bel.go (hb3.mono (by simp<;>omega))));have Hb3:=Lh (Hb2.out.trans ((Below.trans Bel.go (hb3.mono (by simp<;>omega))).mono Hb2.out.size));have y0:=HN3.out.c0;have y1:=HN3.out.c1;have y2:=HD3.out.c0;have y3:=HD3.out.c1;have r0:=HR3.out.c0;have r1:=HR3.out.c1;have r2:=HR3.out.c2;have r3:=HR3.out.f0;have r4:=HR3.out.f1;have r5:=HR3.out.f2)))
 have HP:=Lh (HR3.out.put h3 h4)
 have HbP:=Lh (((Hb3.out.setCell (p:=⟨w.heap.size+1+1,0,none⟩) (by first | (simp;done) | (simp;omega) | omega) (.bool n3)).setCell (p:=⟨w.heap.size+1+1,1,none⟩) (by first | (simp;done) | (simp;omega) | omega) (.slice A3 l3 c3)).setCell (p:=⟨w.heap.size+1+1,2,none⟩) (by first | (simp;done) | (simp;omega) | omega) (.slice B3 m3 d3))
 clear HN4 HD4 HR4 Hb4 HN2 HD2 HR2 Hb2 HN3 HD3 HR3 Hb3 h2 h3 h4 hb2 hb3 e0 e1 e2 e3 x0 x1 x2 x3 y0 y1 y2 y3
 go_wp2
 refine bodyPost_ret (v:=.tuple #[.agg #[.bool n3,.slice A3 l3 c3,.slice B3 m3 d3],.int .i64 0]) (by simp[results,Tryz.results21,go_sem,r0,r1,r2]) rfl ⟨⟨_,_,_,_,_,_,_,rfl,HP.out.hz,HP.out.hq⟩,HbP.out⟩
theorem make_any (n:Bool) (A:Option Addr) (l c:Nat) (z:Int) (n':Bool) (A':Option Addr) (l' c':Nat) (q:Int) (w:World) (hz:IntN w n A l c z) (hq:IntN w n' A' l' c' q) (hu:U64 z.natAbs) (hv:q.natAbs<BB) (h0:q≠0) :
  Calls Tryz.prog 21 #[.agg #[.bool n,.slice A l c],.agg #[.bool n',.slice A' l' c']] w fun e w'=>RatOk ((sg q*z).tdiv (Nat.gcd z.natAbs q.natAbs)) (q.natAbs / Nat.gcd z.natAbs q.natAbs) e w'/\Below w.heap.size w w':=by
 rcases Int.lt_or_le q 0 with h | h
 ·rw[sg_neg h,show (-1:Int)*z=-z by omega]
  exact make_neg n A l c z n' A' l' c' q.natAbs w hz (by rw[show -(q.natAbs:Int)=q by omega];exact hq) hu hv (by omega)
 ·rw[sg_pos (by omega),Int.one_mul]
  exact make_pos n A l c z n' A' l' c' q.natAbs w hz (by rw[show (q.natAbs:Int)=q by omega];exact hq) hu hv (by omega)
end Go.Proofs.YtphmkdmflopcdaaGreat
