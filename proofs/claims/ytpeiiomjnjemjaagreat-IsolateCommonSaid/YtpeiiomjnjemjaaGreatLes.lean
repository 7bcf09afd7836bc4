/- The walk of cylinderref15.Less. -/
import Derived.Test.YtpeiiomjnjemjaaGreatLin
import Derived.Test.YtpeiiomjnjemjaaGreatStg
namespace Go.Proofs.YtpeiiomjnjemjaaGreat
open Go.RowKit
set_option maxRecDepth 100000 in
set_option maxHeartbeats 4000000 in
theorem ratneg_any (n:Bool) (A:Option Addr) (l c:Nat) (B:Option Addr) (m d q:Nat) (z:Int) (w:World) (hz:IntN w n A l c z) (hq:NatN w B m d q) (hu:Fit z) (hv:Fit (q:Int)) (h0:0<q) :
  Calls Tryz.prog 29 #[.agg #[.bool n,.slice A l c,.slice B m d]] w fun e w'=>RatE ((-z).tdiv (Nat.gcd z.natAbs q)) (q / Nat.gcd z.natAbs q) e w'/\Below w.heap.size w w':=by
 have hbx:Below w.heap.size w (w.alloc (rbox n A l c B m d)):=(Below.refl _ _).alloc (Nat.le_refl _) _
 have hby:Below (w.alloc (rbox n A l c B m d)).heap.size (w.alloc (rbox n A l c B m d)) ((w.alloc (rbox n A l c B m d)).alloc (rbox false none 0 0 none 0 0)):=(Below.refl _ _).alloc (Nat.le_refl _) _
 have hb0:=hbx.trans (hby.mono hbx.size)
 have hz1:=hz.below hb0
 have hq1:=hq.below hb0
 have hr:=RBox.nil (w.alloc (rbox n A l c B m d))
 simp only[World.size_alloc] at hr
 have HR:=Lh hr
 have Hb0:=Lh hb0
 have hvq:SmI (q:Int):=hv.sm
 have hsq:Sm q:=by have h:=hvq;unfold SmI at h;rw[Int.natAbs_natCast] at h;exact h
 have hsz:SmI z:=hu.sm
 have hua:SmI (-z):=by unfold SmI;rw[Int.natAbs_neg];exact hsz
 clear hz hq hbx hby hb0 hr
 go_enter Tryz.func29,Tryz.ntmps29
 go_wp2_with fail
 refine (parts_any _ _ _ _ _ _ _ _ _ hq1.at_ hsq (by omega)).mono ?_
 rintro e w1 ⟨rfl,hb1⟩
 have hbi:Below w1.heap.size w1 (w1.alloc (ibox n A l c)):=(Below.refl _ _).alloc (Nat.le_refl _) _
 have hbj:Below (w1.alloc (ibox n A l c)).heap.size (w1.alloc (ibox n A l c)) ((w1.alloc (ibox n A l c)).alloc (ibox false B m d)):=(Below.refl _ _).alloc (Nat.le_refl _) _
 have hN1:=(IBox.make (hz1.below hb1)).move hbj
 have hD1:=IBox.make (W:=w1.alloc (ibox n A l c)) (n:=false) (A:=B) (l:=m) (c:=d) (z:=(q:Int)) ⟨by rw[Int.natAbs_natCast];exact (hq1.below hb1).below hbi,by simp⟩
 simp only[World.size_alloc] at hD1
 have hR1:=((HR.out.move hb1).move hbi).move hbj
 have hbk:=Hb0.out.trans ((hb1.trans ((hbi.trans (hbj.mono hbi.size)).mono hb1.size)).mono Hb0.out.size)
 have HN1:=Lh hN1
 have HD1:=Lh hD1
 have HR1:=Lh hR1
 have Hb1:=Lh hbk
 have hsa:=(HR.out.move hb1).lt
 have ne1:w1.heap.size≠w.heap.size+1:=by omega
 have ne2:w.heap.size+1≠w1.heap.size:=by omega
 have ne3:w1.heap.size≠w.heap.size:=by omega
 have ne4:w.heap.size≠w1.heap.size:=by omega
 clear hz1 hq1 hb1 hbi hbj hN1 hD1 hR1 hbk HR Hb0
 have e0:=HN1.out.c0
 have e1:=HN1.out.c1
 have e2:=HD1.out.c0
 have e3:=HD1.out.c1
 go_wp2_with fail
 go_region_held3 (fun w'=>w'.cell? ⟨w1.heap.size,0,none⟩=some (.bool n)/\w'.cell? ⟨w1.heap.size,1,none⟩=some (.slice A l c)/\w'.cell? ⟨w1.heap.size+1,0,none⟩=some (.bool false)/\w'.cell? ⟨w1.heap.size+1,1,none⟩=some (.slice B m d)) (go_keep) (first
   | (go_at_call 53;go_must (refine (ineg_any _ _ _ _ _ _ ?_ hsz).mono ?_;(exact HN1.out.hz.at_.below Bel.go);rintro e w2 ⟨n2,A2,l2,c2,rfl,h2,hb2⟩;have HN2:=Lh (HN1.out.move (Below.trans Bel.go (hb2.mono (by simp<;>omega))));have HD2:=Lh (HD1.out.move (Below.trans Bel.go (hb2.mono (by simp<;>omega))));have HR2:=Lh (HR1.out.move (Below.trans Bel.go (hb2.mono (by simp<;>omega))));have Hb2:=Lh (Hb1.out.trans ((Below.trans Bel.go (hb2.mono (by simp<;>omega))).mono Hb1.out.size));have x0:=HN2.out.c0;have x1:=HN2.out.c1;have x2:=HD2.out.c0;have x3:=HD2.out.c1))
   | (go_at_call 57;go_must (refine (reduce_all _ _ _ _ _ _ _ _ _ _ _ ?_ ?_ hua hvq h0).mono ?_;(exact h2.below Bel.go);(exact HD2.out.hz.below Bel.go);rw[Int.natAbs_neg];rintro e w3 ⟨⟨n3,A3,l3,c3,B3,m3,d3,rfl,h3,h4⟩,hb3⟩;have HN3:=Lh (HN2.out.move (Below.trans Bel.go (hb3.mono (by simp<;>omega))));have HD3:=Lh (HD2.out.move (Below.trans Bel.go (hb3.mono (by simp<;>omega))));have HR3:=Lh (HR2.out.move (Below.trans Bel.go (hb3.mono (by simp<;>omega))));have Hb3:=Lh (Hb2.out.trans ((Below.trans Bel.go (hb3.mono (by simp<;>omega))).mono Hb2.out.size));have y0:=HN3.out.c0;have y1:=HN3.out.c1;have y2:=HD3.out.c0;have y3:=HD3.out.c1;have r0:=HR3.out.c0;have r1:=HR3.out.c1;have r2:=HR3.out.c2;have r3:=HR3.out.f0;have r4:=HR3.out.f1;have r5:=HR3.out.f2)))
 have HP:=Lh (HR3.out.put h3 h4)
 have HbP:=Lh (((Hb3.out.setCell (p:=⟨w.heap.size+1,0,none⟩) (by first | (simp;done) | (simp;omega) | omega) (.bool n3)).setCell (p:=⟨w.heap.size+1,1,none⟩) (by first | (simp;done) | (simp;omega) | omega) (.slice A3 l3 c3)).setCell (p:=⟨w.heap.size+1,2,none⟩) (by first | (simp;done) | (simp;omega) | omega) (.slice B3 m3 d3))
 clear HN1 HD1 HR1 Hb1 HN2 HD2 HR2 Hb2 HN3 HD3 HR3 Hb3 h2 h3 h4 hb2 hb3 e0 e1 e2 e3 x0 x1 x2 x3 y0 y1 y2 y3
 go_wp2
 refine bodyPost_ret (v:=.agg #[.bool n3,.slice A3 l3 c3,.slice B3 m3 d3]) (by simp[results,Tryz.results29,go_sem,r0,r1,r2]) rfl ⟨⟨_,_,_,_,_,_,_,rfl,HP.out.hz,HP.out.hq⟩,HbP.out⟩
end Go.Proofs.YtpeiiomjnjemjaaGreat
namespace Go.Proofs.YtpeiiomjnjemjaaGreat
open Go.RowKit
def Two (W:World) (z z':Int) (s s':Value) (wx:World):Prop:=∃ g n A l c g' n' A' l' c',s=.pointer (some ⟨g,0,none⟩)/\s'=.pointer (some ⟨g',0,none⟩)/\g≠g'/\W.heap.size<=g/\W.heap.size<=g'/\IBox wx g n A l c z/\IBox wx g' n' A' l' c' z'/\Below W.heap.size W wx
structure Nbx (W:World) (g:Nat):Prop where
 c0:W.cell? ⟨g,0,none⟩=some (.bool false)
 c1:W.cell? ⟨g,1,none⟩=some (.slice none 0 0)
 f0:W.frozen? ⟨g,0,none⟩=false
 f1:W.frozen? ⟨g,1,none⟩=false
 lt:g<W.heap.size
theorem Nbx.box {W:World} {g:Nat} (h:Nbx W g):IBox W g false none 0 0 0:=⟨h.c0,h.c1,h.f0,h.f1,h.lt,⟨NatN.zero _ _ _,by simp⟩⟩
section
variable {W w9:World} {n n':Bool} {A A':Option Addr} {l c l' c' g g':Nat} {z z':Int}
theorem below_put2 (hb:Below W.heap.size W w9) (hg:W.heap.size<=g) (u v:Value):Below W.heap.size W ((w9.setCell ⟨g,0,none⟩ u).setCell ⟨g,1,none⟩ v):=(hb.setCell (p:=⟨g,0,none⟩) hg _).setCell (p:=⟨g,1,none⟩) hg _
theorem below_new (w:World) (o:Obj):Below w.heap.size w (w.alloc o):=(Below.refl _ _).alloc (Nat.le_refl _) _
end
end Go.Proofs.YtpeiiomjnjemjaaGreat
namespace Go.Proofs.YtpeiiomjnjemjaaGreat
open Go.RowKit
end Go.Proofs.YtpeiiomjnjemjaaGreat
