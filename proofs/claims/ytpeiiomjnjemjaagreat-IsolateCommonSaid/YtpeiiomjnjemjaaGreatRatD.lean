/- The walks of package rational, fourth part: Make at a positive denominator, From, Of. -/
import Derived.Test.YtpeiiomjnjemjaaGreatGcd
import Derived.RegionTactic
import Derived.Test.YtpeiiomjnjemjaaGreatSft
namespace Go.Proofs.YtpeiiomjnjemjaaGreat
open Go.RowKit
abbrev rbox (n:Bool) (A:Option Addr) (l c:Nat) (B:Option Addr) (m d:Nat):Obj:=.cells #[.bool n,.slice A l c,.slice B m d] 40
theorem NatAt.int {w:World} {B:Option Addr} {m d q:Nat} (h:NatAt w B m d q):IntAt w false B m d (q:Int):=⟨by rw[Int.natAbs_natCast];exact h,by rw[Int.natAbs_natCast,sgn_false]⟩
set_option maxRecDepth 100000 in
set_option maxHeartbeats 2000000 in
theorem parts_any (n:Bool) (A:Option Addr) (l c:Nat) (B:Option Addr) (m d q:Nat) (w:World) (hq:NatAt w B m d q) (hs:Sm q) (h0:q≠0) :
  Calls Tryz.prog 41 #[.agg #[.bool n,.slice A l c,.slice B m d]] w fun e w'=>e=.returned (.tuple #[.agg #[.bool n,.slice A l c],.agg #[.bool false,.slice B m d]])/\Below w.heap.size w w':=by
 have hb0:Below w.heap.size w (((w.alloc (rbox n A l c B m d)).alloc (ibox false none 0 0)).alloc (ibox false none 0 0)):=below_three w _ _ _ (Nat.le_refl _)
 have hq1:=hq.below hb0
 have Hb0:=Lh hb0
 have hdec:=Lh (show decide (q=0)=false from decide_eq_false h0)
 clear hq hb0
 go_enter Tryz.func41,Tryz.ntmps41
 go_wp2_with fail
 refine (isZero_any _ _ _ _ _ hq1 hs).mono ?_
 rintro e w1 ⟨rfl,rfl⟩
 rw[hdec.out]
 clear hq1 h0
 go_wp2
 go_region
 all_goals go_wp2
 all_goals refine bodyPost_ret (v:=.tuple #[.agg #[.bool n,.slice A l c],.agg #[.bool false,.slice B m d]]) (by simp[results,Tryz.results41,go_sem]) rfl ⟨rfl,(below_three w _ _ _ (Nat.le_refl _)).drew⟩
end Go.Proofs.YtpeiiomjnjemjaaGreat
namespace Go.Proofs.YtpeiiomjnjemjaaGreat
open Go.RowKit
set_option maxRecDepth 100000 in
set_option maxHeartbeats 4000000 in
theorem rcmp_any (n:Bool) (A:Option Addr) (l c:Nat) (B:Option Addr) (m d q:Nat) (z:Int) (n':Bool) (A':Option Addr) (l' c':Nat) (B':Option Addr) (m' d' q':Nat) (z':Int) (w:World)
  (hz:IntAt w n A l c z) (hq:NatAt w B m d q) (hz':IntAt w n' A' l' c' z') (hq':NatAt w B' m' d' q') (h0:q≠0) (h0':q'≠0) (fz:Fit z) (fq:Fit (q:Int)) (fz':Fit z') (fq':Fit (q':Int)) :
  Calls Tryz.prog 20 #[.agg #[.bool n,.slice A l c,.slice B m d],.agg #[.bool n',.slice A' l' c',.slice B' m' d']] w fun e w'=>e=.returned (.int .i64 (cmpz (z*(q':Int)) (z'*(q:Int))))/\Below w.heap.size w w':=by
 have hb0:Below w.heap.size w ((w.alloc (rbox n A l c B m d)).alloc (rbox n' A' l' c' B' m' d')):=below_two w _ _ (Nat.le_refl _)
 have hz1:=hz.below hb0
 have hq1:=hq.below hb0
 have hz1':=hz'.below hb0
 have hq1':=hq'.below hb0
 have sq:Sm q:=by have:=fq.sm;unfold SmI at this;rwa [Int.natAbs_natCast] at this
 have sq':Sm q':=by have:=fq'.sm;unfold SmI at this;rwa [Int.natAbs_natCast] at this
 have Hb0:=Lh hb0
 clear hz hq hz' hq' hb0
 go_enter Tryz.func20,Tryz.ntmps20
 go_wp2_with fail
 refine (parts_any _ _ _ _ _ _ _ _ _ hq1 sq h0).mono ?_
 rintro e w1 ⟨rfl,hb1⟩
 obtain ⟨hcx,hfx⟩:=bcellS hb1
 have b0:w1.cell? ⟨w.heap.size+1,0,none⟩=some (.bool n'):=(hcx _ (by go_simp)).trans (by go_simp)
 have b1:w1.cell? ⟨w.heap.size+1,1,none⟩=some (.slice A' l' c'):=(hcx _ (by go_simp)).trans (by go_simp)
 have b2:w1.cell? ⟨w.heap.size+1,2,none⟩=some (.slice B' m' d'):=(hcx _ (by go_simp)).trans (by go_simp)
 have hsz:=hb1.size
 simp only[World.size_alloc] at hsz
 have hlt:w.heap.size+1<w1.heap.size:=by omega
 have hb2:Below w1.heap.size w1 ((w1.alloc (ibox n A l c)).alloc (ibox false B m d)):=below_two w1 _ _ (Nat.le_refl _)
 obtain ⟨hcy,hfy⟩:=bcellS hb2
 have g0:=(hcy _ (by rw[b0];rfl)).trans b0
 have g1:=(hcy _ (by rw[b1];rfl)).trans b1
 have g2:=(hcy _ (by rw[b2];rfl)).trans b2
 have hz2:=(hz1.below hb1).below hb2
 have hq2:=(hq1.below hb1).below hb2
 have hz2':=(hz1'.below hb1).below hb2
 have hq2':=(hq1'.below hb1).below hb2
 have Hb2:=Lh ((Hb0.out.trans (hb1.mono Hb0.out.size)).trans (hb2.mono (Hb0.out.trans (hb1.mono Hb0.out.size)).size))
 clear hz1 hq1 hz1' hq1' hb1 hb2 hcx hfx hcy hfy b0 b1 b2
 go_wp2_with fail
 refine (parts_any _ _ _ _ _ _ _ _ _ hq2' sq' h0').mono ?_
 rintro e w2 ⟨rfl,hb3⟩
 obtain ⟨hcx,hfx⟩:=bcellS hb3
 have d0:w2.cell? ⟨w1.heap.size,0,none⟩=some (.bool n):=(hcx _ (by go_simp)).trans (by go_simp)
 have d1:w2.cell? ⟨w1.heap.size,1,none⟩=some (.slice A l c):=(hcx _ (by go_simp)).trans (by go_simp)
 have d2:w2.cell? ⟨w1.heap.size+1,0,none⟩=some (.bool false):=(hcx _ (by go_simp)).trans (by go_simp)
 have d3:w2.cell? ⟨w1.heap.size+1,1,none⟩=some (.slice B m d):=(hcx _ (by go_simp)).trans (by go_simp)
 have hsz2:=hb3.size
 simp only[World.size_alloc] at hsz2
 have hlt2:w1.heap.size<w2.heap.size:=by omega
 have hlt3:w1.heap.size+1<w2.heap.size:=by omega
 have hb4:Below w2.heap.size w2 ((w2.alloc (ibox n' A' l' c')).alloc (ibox false B' m' d')):=below_two w2 _ _ (Nat.le_refl _)
 obtain ⟨hcy,hfy⟩:=bcellS hb4
 have k0:=(hcy _ (by rw[d0];rfl)).trans d0
 have k1:=(hcy _ (by rw[d1];rfl)).trans d1
 have k2:=(hcy _ (by rw[d2];rfl)).trans d2
 have k3:=(hcy _ (by rw[d3];rfl)).trans d3
 have Hz:=Lh ((hz2.below hb3).below hb4)
 have Hq:=Lh ((hq2.below hb3).below hb4).int
 have Hz':=Lh ((hz2'.below hb3).below hb4)
 have Hq':=Lh ((hq2'.below hb3).below hb4).int
 have Hb4:=Lh ((Hb2.out.trans (hb3.mono Hb2.out.size)).trans (hb4.mono (Hb2.out.trans (hb3.mono Hb2.out.size)).size))
 have m1:=fz.mulok (q':Int)
 have m2:=fz'.mulok (q:Int)
 have t1:=fz.sm2 fq'
 have t2:=fz'.sm2 fq
 have szz:=fz.sm
 have szz':=fz'.sm
 have sqq:=fq.sm
 have sqq':=fq'.sm
 clear hz2 hq2 hz2' hq2' hb3 hb4 hcx hfx hcy hfy g0 g1 g2 d0 d1 d2 d3 Hb0 Hb2
 go_wp2_with fail
 go_region_held3 (fun w'=>w'.cell? ⟨w1.heap.size,0,none⟩=some (.bool n)/\w'.cell? ⟨w1.heap.size,1,none⟩=some (.slice A l c)/\w'.cell? ⟨w1.heap.size+1,0,none⟩=some (.bool false)/\w'.cell? ⟨w1.heap.size+1,1,none⟩=some (.slice B m d)/\w'.cell? ⟨w2.heap.size,0,none⟩=some (.bool n')/\w'.cell? ⟨w2.heap.size,1,none⟩=some (.slice A' l' c')/\w'.cell? ⟨w2.heap.size+1,0,none⟩=some (.bool false)/\w'.cell? ⟨w2.heap.size+1,1,none⟩=some (.slice B' m' d')) (go_keep) (first
   | (go_at_call_of 17 (Value.slice A l c);go_must (refine (imul_any _ _ _ _ _ _ _ _ _ _ _ ?_ ?_ szz sqq' m1).mono ?_;(exact Hz.out.below Bel.go);(exact Hq'.out.below Bel.go);rintro e w3 ⟨n3,A3,l3,c3,rfl,h3,hb3⟩;obtain ⟨hcx,hfx⟩:=bcellS hb3;have x0w3:w3.cell? ⟨w1.heap.size,0,none⟩=some (.bool n):=(hcx _ (by go_simp)).trans (by go_simp);have x1w3:w3.cell? ⟨w1.heap.size,1,none⟩=some (.slice A l c):=(hcx _ (by go_simp)).trans (by go_simp);have x2w3:w3.cell? ⟨w1.heap.size+1,0,none⟩=some (.bool false):=(hcx _ (by go_simp)).trans (by go_simp);have x3w3:w3.cell? ⟨w1.heap.size+1,1,none⟩=some (.slice B m d):=(hcx _ (by go_simp)).trans (by go_simp);have x4w3:w3.cell? ⟨w2.heap.size,0,none⟩=some (.bool n'):=(hcx _ (by go_simp)).trans (by go_simp);have x5w3:w3.cell? ⟨w2.heap.size,1,none⟩=some (.slice A' l' c'):=(hcx _ (by go_simp)).trans (by go_simp);have x6w3:w3.cell? ⟨w2.heap.size+1,0,none⟩=some (.bool false):=(hcx _ (by go_simp)).trans (by go_simp);have x7w3:w3.cell? ⟨w2.heap.size+1,1,none⟩=some (.slice B' m' d'):=(hcx _ (by go_simp)).trans (by go_simp);clear hcx hfx;have HZ3:=Lh (Hz'.out.below (Below.trans Bel.go (hb3.mono (by simp<;>omega))));have HQ3:=Lh (Hq.out.below (Below.trans Bel.go (hb3.mono (by simp<;>omega))));have Hb5:=Lh (Hb4.out.trans ((Below.trans Bel.go (hb3.mono (by simp<;>omega))).mono Hb4.out.size))))
   | (go_at_call_of 17 (Value.slice A' l' c');go_must (refine (imul_any _ _ _ _ _ _ _ _ _ _ _ ?_ ?_ szz' sqq m2).mono ?_;(exact HZ3.out.below Bel.go);(exact HQ3.out.below Bel.go);rintro e w4 ⟨n4,A4,l4,c4,rfl,h4,hb4⟩;obtain ⟨hcx,hfx⟩:=bcellS hb4;have x0w4:w4.cell? ⟨w1.heap.size,0,none⟩=some (.bool n):=(hcx _ (by go_simp)).trans (by go_simp);have x1w4:w4.cell? ⟨w1.heap.size,1,none⟩=some (.slice A l c):=(hcx _ (by go_simp)).trans (by go_simp);have x2w4:w4.cell? ⟨w1.heap.size+1,0,none⟩=some (.bool false):=(hcx _ (by go_simp)).trans (by go_simp);have x3w4:w4.cell? ⟨w1.heap.size+1,1,none⟩=some (.slice B m d):=(hcx _ (by go_simp)).trans (by go_simp);have x4w4:w4.cell? ⟨w2.heap.size,0,none⟩=some (.bool n'):=(hcx _ (by go_simp)).trans (by go_simp);have x5w4:w4.cell? ⟨w2.heap.size,1,none⟩=some (.slice A' l' c'):=(hcx _ (by go_simp)).trans (by go_simp);have x6w4:w4.cell? ⟨w2.heap.size+1,0,none⟩=some (.bool false):=(hcx _ (by go_simp)).trans (by go_simp);have x7w4:w4.cell? ⟨w2.heap.size+1,1,none⟩=some (.slice B' m' d'):=(hcx _ (by go_simp)).trans (by go_simp);clear hcx hfx;have H34:=Lh (h3.below (Below.trans Bel.go (hb4.mono (by simp<;>omega))));have Hb6:=Lh (Hb5.out.trans ((Below.trans Bel.go (hb4.mono (by simp<;>omega))).mono Hb5.out.size))))
   | (go_at_call 42;go_must (refine (icmp_any _ _ _ _ _ _ _ _ _ _ _ ?_ ?_ t1 t2).mono ?_;(exact H34.out.at_.below Bel.go);(exact h4.at_.below Bel.go);rintro e w5 ⟨rfl,hb5⟩;obtain ⟨hcx,hfx⟩:=bcellS hb5;have x0w5:w5.cell? ⟨w1.heap.size,0,none⟩=some (.bool n):=(hcx _ (by go_simp)).trans (by go_simp);have x1w5:w5.cell? ⟨w1.heap.size,1,none⟩=some (.slice A l c):=(hcx _ (by go_simp)).trans (by go_simp);have x2w5:w5.cell? ⟨w1.heap.size+1,0,none⟩=some (.bool false):=(hcx _ (by go_simp)).trans (by go_simp);have x3w5:w5.cell? ⟨w1.heap.size+1,1,none⟩=some (.slice B m d):=(hcx _ (by go_simp)).trans (by go_simp);have x4w5:w5.cell? ⟨w2.heap.size,0,none⟩=some (.bool n'):=(hcx _ (by go_simp)).trans (by go_simp);have x5w5:w5.cell? ⟨w2.heap.size,1,none⟩=some (.slice A' l' c'):=(hcx _ (by go_simp)).trans (by go_simp);have x6w5:w5.cell? ⟨w2.heap.size+1,0,none⟩=some (.bool false):=(hcx _ (by go_simp)).trans (by go_simp);have x7w5:w5.cell? ⟨w2.heap.size+1,1,none⟩=some (.slice B' m' d'):=(hcx _ (by go_simp)).trans (by go_simp);clear hcx hfx;have Hb7:=Lh (Hb6.out.trans ((Below.trans Bel.go (hb5.mono (by simp<;>omega))).mono Hb6.out.size)))))
 all_goals go_wp2
 all_goals go_ret
 all_goals exact ⟨rfl,Hb7.out⟩
end Go.Proofs.YtpeiiomjnjemjaaGreat
namespace Go.Proofs.YtpeiiomjnjemjaaGreat
open Go.RowKit
structure RBox (W:World) (g:Nat) (n:Bool) (A:Option Addr) (l c:Nat) (B:Option Addr) (m d:Nat) (z:Int) (q:Nat):Prop where
 c0:W.cell? ⟨g,0,none⟩=some (.bool n)
 c1:W.cell? ⟨g,1,none⟩=some (.slice A l c)
 c2:W.cell? ⟨g,2,none⟩=some (.slice B m d)
 f0:W.frozen? ⟨g,0,none⟩=false
 f1:W.frozen? ⟨g,1,none⟩=false
 f2:W.frozen? ⟨g,2,none⟩=false
 lt:g<W.heap.size
 hz:IntN W n A l c z
 hq:NatN W B m d q
section
variable {W W':World} {g g':Nat} {n n':Bool} {A A' B B':Option Addr} {l c l' c' m d m' d':Nat} {z z':Int} {q q':Nat}
theorem RBox.move (h:RBox W g n A l c B m d z q) (hb:Below W.heap.size W W'):RBox W' g n A l c B m d z q:=by
 obtain ⟨hc,hf⟩:=bcell hb
 exact ⟨(hc _ _ h.lt).trans h.c0,(hc _ _ h.lt).trans h.c1,(hc _ _ h.lt).trans h.c2,(hf _ _ h.lt).trans h.f0,(hf _ _ h.lt).trans h.f1,(hf _ _ h.lt).trans h.f2,Nat.lt_of_lt_of_le h.lt hb.size,h.hz.below hb,h.hq.below hb⟩
theorem RBox.nil (W:World):RBox (W.alloc (rbox false none 0 0 none 0 0)) W.heap.size false none 0 0 none 0 0 0 0 :=
 ⟨by go_simp,by go_simp,by go_simp,by go_simp,by go_simp,by go_simp,by simp,⟨NatN.zero _ _ _,by simp⟩,NatN.zero _ _ _⟩
theorem RBox.farI (h:RBox W g n A l c B m d z q) (h':IBox W g' n' A' l' c' z') (hg:g≠g') (u v:Value):RBox ((W.setCell ⟨g',0,none⟩ u).setCell ⟨g',1,none⟩ v) g n A l c B m d z q:=by
 have k0:=h.c0
 have k1:=h.c1
 have k2:=h.c2
 have f0:=h.f0
 have f1:=h.f1
 have f2:=h.f2
 have j0:=h'.c0
 have j1:=h'.c1
 have j1':(W.setCell ⟨g',0,none⟩ u).cell? ⟨g',1,none⟩=some (.slice A' l' c'):=by
  rw[World.cell?_setCell_other W _ _ _ (by simp)];exact j1
 exact ⟨by go_simp,by go_simp,by go_simp,by go_simp,by go_simp,by go_simp,by simpa [World.setCell] using h.lt,h.hz.ret _ _ j0 j1,(h.hq.store _ j0 (noDigit_bool _)).store _ j1' (noDigit_slice _ _ _)⟩
abbrev put3 (W:World) (g:Nat) (n:Bool) (A:Option Addr) (l c:Nat) (B:Option Addr) (m d:Nat):World:=((W.setCell ⟨g,0,none⟩ (.bool n)).setCell ⟨g,1,none⟩ (.slice A l c)).setCell ⟨g,2,none⟩ (.slice B m d)
theorem RBox.put (h:RBox W g n A l c B m d z q) (hz:IntN W n' A' l' c' z') (hq:NatN W B' m' d' q'):RBox (put3 W g n' A' l' c' B' m' d') g n' A' l' c' B' m' d' z' q':=by
 have k0:=h.c0
 have k1:=h.c1
 have k2:=h.c2
 have f0:=h.f0
 have f1:=h.f1
 have f2:=h.f2
 have j1:(W.setCell ⟨g,0,none⟩ (.bool n')).cell? ⟨g,1,none⟩=some (.slice A l c):=by
  rw[World.cell?_setCell_other W _ _ _ (by simp)];exact k1
 have j2:((W.setCell ⟨g,0,none⟩ (.bool n')).setCell ⟨g,1,none⟩ (.slice A' l' c')).cell? ⟨g,2,none⟩=some (.slice B m d):=by
  rw[World.cell?_setCell_other _ _ _ _ (by simp),World.cell?_setCell_other _ _ _ _ (by simp)];exact k2
 exact ⟨by go_simp,by go_simp,by go_simp,by go_simp,by go_simp,by go_simp,by simpa [World.setCell] using h.lt,(hz.ret _ _ k0 k1).store _ j2 (noDigit_slice _ _ _),((hq.store _ k0 (noDigit_bool _)).store _ j1 (noDigit_slice _ _ _)).store _ j2 (noDigit_slice _ _ _)⟩
end
def RatE (z:Int) (q:Nat) (e:Ending) (w:World):Prop:=∃ n A l c B m d,e=.returned (.agg #[.bool n,.slice A l c,.slice B m d])/\IntN w n A l c z/\NatN w B m d q
end Go.Proofs.YtpeiiomjnjemjaaGreat
namespace Go.Proofs.YtpeiiomjnjemjaaGreat
open Go.RowKit
set_option maxRecDepth 100000 in
set_option maxHeartbeats 1000000 in
theorem rfrom_any (n:Bool) (A:Option Addr) (l c:Nat) (z:Int) (w:World) (hz:IntAt w n A l c z) (hs:SmI z) :
  Calls Tryz.prog 25 #[.agg #[.bool n,.slice A l c]] w fun e w'=>RatE z 1 e w'/\Below w.heap.size w w':=by
 have hb0:Below w.heap.size w ((w.alloc (ibox n A l c)).alloc (rbox false none 0 0 none 0 0)):=below_two w _ _ (Nat.le_refl _)
 have hz1:=hz.below hb0
 have hr:=RBox.nil (w.alloc (ibox n A l c))
 simp only[World.size_alloc] at hr
 have HR:=Lh hr
 have Hb0:=Lh hb0
 clear hz hb0 hr
 go_enter Tryz.func25,Tryz.ntmps25
 go_wp2_with fail
 refine (inormal_any _ _ _ _ _ _ hz1 hs).mono ?_
 rintro e w1 ⟨n1,A1,l1,c1,rfl,h1,hb1⟩
 have HR1:=Lh (HR.out.move hb1)
 have Hb1:=Lh (Hb0.out.trans (hb1.mono Hb0.out.size))
 clear hz1 hb1
 go_wp2_with fail
 refine (of_any 1 _ (by unfold U64;rw[BB_eq];omega)).mono ?_
 rintro e w2 ⟨A2,l2,c2,rfl,h2,hb2⟩
 have HR2:=Lh (HR1.out.move hb2)
 have h12:=h1.below hb2
 have Hb2:=Lh (Hb1.out.trans (hb2.mono Hb1.out.size))
 have HP:=Lh (HR2.out.put h12 h2)
 have HbP:=Lh (((Hb2.out.setCell (p:=⟨w.heap.size+1,0,none⟩) (by first | (simp;done) | (simp;omega) | omega) (.bool n1)).setCell (p:=⟨w.heap.size+1,1,none⟩) (by first | (simp;done) | (simp;omega) | omega) (.slice A1 l1 c1)).setCell (p:=⟨w.heap.size+1,2,none⟩) (by first | (simp;done) | (simp;omega) | omega) (.slice A2 l2 c2))
 have r0:=HR2.out.c0
 have r1:=HR2.out.c1
 have r2:=HR2.out.c2
 have r3:=HR2.out.f0
 have r4:=HR2.out.f1
 have r5:=HR2.out.f2
 clear HR HR1 Hb1 HR2 Hb2 h1 h2 h12 hb2
 go_wp2
 refine bodyPost_ret (v:=.agg #[.bool n1,.slice A1 l1 c1,.slice A2 l2 c2]) (by simp[results,Tryz.results25,go_sem,r0,r1,r2]) rfl ⟨⟨_,_,_,_,_,_,_,rfl,HP.out.hz,HP.out.hq⟩,HbP.out⟩
end Go.Proofs.YtpeiiomjnjemjaaGreat
