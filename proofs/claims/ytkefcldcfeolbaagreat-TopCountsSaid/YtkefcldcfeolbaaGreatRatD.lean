/- The walks of package rational, fourth part: Make at a positive denominator, From, Of. -/
import Derived.Test.YtkefcldcfeolbaaGreatGcd
import Derived.RegionTactic
import Derived.Test.YtkefcldcfeolbaaGreatSft
namespace Go.Proofs.YtkefcldcfeolbaaGreat
open Go.RowKit
abbrev aa0 (n:Bool) (A:Option Addr) (l c:Nat) (B:Option Addr) (m d:Nat):Obj:=.cells #[.bool n,.slice A l c,.slice B m d] 38
theorem acd.int {w:World} {B:Option Addr} {m d q:Nat} (h:acd w B m d q):abj w false B m d (q:Int):=⟨by rw[Int.natAbs_natCast];exact h,by rw[Int.natAbs_natCast,abA]⟩
set_option maxRecDepth 100000 in
set_option maxHeartbeats 2000000 in
theorem adL (n:Bool) (A:Option Addr) (l c:Nat) (B:Option Addr) (m d q:Nat) (w:World) (hq:acd w B m d q) (hs:Sm q) (h0:q≠0) :
  Calls Tryz.prog 49 #[.agg #[.bool n,.slice A l c,.slice B m d]] w fun e w'=>e=.returned (.tuple #[.agg #[.bool n,.slice A l c],.agg #[.bool false,.slice B m d]])/\Below w.heap.size w w':=by
 have hb0:Below w.heap.size w (((w.alloc (aa0 n A l c B m d)).alloc (aap false none 0 0)).alloc (aap false none 0 0)):=abP w _ _ _ (Nat.le_refl _)
 have hq1:=hq.below hb0
 have Hb0:=Lh hb0
 have hdec:=Lh (show decide (q=0)=false from decide_eq_false h0)
 clear hq hb0
 go_enter Tryz.func49,Tryz.ntmps49
 go_wp2_with fail
 refine (ah6 _ _ _ _ _ hq1 hs).mono ?_
 rintro e w1 ⟨rfl,rfl⟩
 rw[hdec.out]
 clear hq1 h0
 go_wp2
 go_region
 all_goals go_wp2
 all_goals refine bodyPost_ret (v:=.tuple #[.agg #[.bool n,.slice A l c],.agg #[.bool false,.slice B m d]]) (by simp[results,Tryz.results49,go_sem]) rfl ⟨rfl,(abP w _ _ _ (Nat.le_refl _)).drew⟩
end Go.Proofs.YtkefcldcfeolbaaGreat
namespace Go.Proofs.YtkefcldcfeolbaaGreat
open Go.RowKit
set_option maxRecDepth 100000 in
set_option maxHeartbeats 4000000 in
theorem ag6 (n:Bool) (A:Option Addr) (l c:Nat) (B:Option Addr) (m d q:Nat) (z:Int) (n':Bool) (A':Option Addr) (l' c':Nat) (B':Option Addr) (m' d' q':Nat) (z':Int) (w:World)
  (hz:abj w n A l c z) (hq:acd w B m d q) (hz':abj w n' A' l' c' z') (hq':acd w B' m' d' q') (h0:q≠0) (h0':q'≠0) (fz:Fit z) (fq:Fit (q:Int)) (fz':Fit z') (fq':Fit (q':Int)) :
  Calls Tryz.prog 51 #[.agg #[.bool n,.slice A l c,.slice B m d],.agg #[.bool n',.slice A' l' c',.slice B' m' d']] w fun e w'=>e=.returned (.int .i64 (afd (z*(q':Int)) (z'*(q:Int))))/\Below w.heap.size w w':=by
 have hb0:Below w.heap.size w ((w.alloc (aa0 n A l c B m d)).alloc (aa0 n' A' l' c' B' m' d')):=ab5 w _ _ (Nat.le_refl _)
 have hz1:=hz.below hb0
 have hq1:=hq.below hb0
 have hz1':=hz'.below hb0
 have hq1':=hq'.below hb0
 have sq:Sm q:=by have:=fq.sm;unfold SmI at this;rwa [Int.natAbs_natCast] at this
 have sq':Sm q':=by have:=fq'.sm;unfold SmI at this;rwa [Int.natAbs_natCast] at this
 have Hb0:=Lh hb0
 clear hz hq hz' hq' hb0
 go_enter Tryz.func51,Tryz.ntmps51
 go_wp2_with fail
 refine (adL _ _ _ _ _ _ _ _ _ hq1 sq h0).mono ?_
 rintro e w1 ⟨rfl,hb1⟩
 obtain ⟨hcx,hfx⟩:=aao hb1
 have b0:w1.cell? ⟨w.heap.size+1,0,none⟩=some (.bool n'):=(hcx _ (by go_simp)).trans (by go_simp)
 have b1:w1.cell? ⟨w.heap.size+1,1,none⟩=some (.slice A' l' c'):=(hcx _ (by go_simp)).trans (by go_simp)
 have b2:w1.cell? ⟨w.heap.size+1,2,none⟩=some (.slice B' m' d'):=(hcx _ (by go_simp)).trans (by go_simp)
 have hsz:=hb1.size
 simp only[World.size_alloc] at hsz
 have hlt:w.heap.size+1<w1.heap.size:=by omega
 have hb2:Below w1.heap.size w1 ((w1.alloc (aap n A l c)).alloc (aap false B m d)):=ab5 w1 _ _ (Nat.le_refl _)
 obtain ⟨hcy,hfy⟩:=aao hb2
 have g0:=(hcy _ (by rw[b0];rfl)).trans b0
 have g1:=(hcy _ (by rw[b1];rfl)).trans b1
 have g2:=(hcy _ (by rw[b2];rfl)).trans b2
 have hz2:=(hz1.below hb1).below hb2
 have hq2:=(hq1.below hb1).below hb2
 have hz2':=(hz1'.below hb1).below hb2
 have awV:=(hq1'.below hb1).below hb2
 have Hb2:=Lh ((Hb0.out.trans (hb1.mono Hb0.out.size)).trans (hb2.mono (Hb0.out.trans (hb1.mono Hb0.out.size)).size))
 clear hz1 hq1 hz1' hq1' hb1 hb2 hcx hfx hcy hfy b0 b1 b2
 go_wp2_with fail
 refine (adL _ _ _ _ _ _ _ _ _ awV sq' h0').mono ?_
 rintro e w2 ⟨rfl,hb3⟩
 obtain ⟨hcx,hfx⟩:=aao hb3
 have d0:w2.cell? ⟨w1.heap.size,0,none⟩=some (.bool n):=(hcx _ (by go_simp)).trans (by go_simp)
 have d1:w2.cell? ⟨w1.heap.size,1,none⟩=some (.slice A l c):=(hcx _ (by go_simp)).trans (by go_simp)
 have d2:w2.cell? ⟨w1.heap.size+1,0,none⟩=some (.bool false):=(hcx _ (by go_simp)).trans (by go_simp)
 have d3:w2.cell? ⟨w1.heap.size+1,1,none⟩=some (.slice B m d):=(hcx _ (by go_simp)).trans (by go_simp)
 have hsz2:=hb3.size
 simp only[World.size_alloc] at hsz2
 have hlt2:w1.heap.size<w2.heap.size:=by omega
 have hlt3:w1.heap.size+1<w2.heap.size:=by omega
 have hb4:Below w2.heap.size w2 ((w2.alloc (aap n' A' l' c')).alloc (aap false B' m' d')):=ab5 w2 _ _ (Nat.le_refl _)
 obtain ⟨hcy,hfy⟩:=aao hb4
 have k0:=(hcy _ (by rw[d0];rfl)).trans d0
 have k1:=(hcy _ (by rw[d1];rfl)).trans d1
 have k2:=(hcy _ (by rw[d2];rfl)).trans d2
 have k3:=(hcy _ (by rw[d3];rfl)).trans d3
 have Hz:=Lh ((hz2.below hb3).below hb4)
 have Hq:=Lh ((hq2.below hb3).below hb4).int
 have Hz':=Lh ((hz2'.below hb3).below hb4)
 have Hq':=Lh ((awV.below hb3).below hb4).int
 have Hb4:=Lh ((Hb2.out.trans (hb3.mono Hb2.out.size)).trans (hb4.mono (Hb2.out.trans (hb3.mono Hb2.out.size)).size))
 have m1:=fz.adq (q':Int)
 have m2:=fz'.adq (q:Int)
 have t1:=fz.sm2 fq'
 have t2:=fz'.sm2 fq
 have szz:=fz.sm
 have azq:=fz'.sm
 have sqq:=fq.sm
 have azr:=fq'.sm
 clear hz2 hq2 hz2' awV hb3 hb4 hcx hfx hcy hfy g0 g1 g2 d0 d1 d2 d3 Hb0 Hb2
 go_wp2_with fail
 go_region_held3 (fun w'=>w'.cell? ⟨w1.heap.size,0,none⟩=some (.bool n)/\w'.cell? ⟨w1.heap.size,1,none⟩=some (.slice A l c)/\w'.cell? ⟨w1.heap.size+1,0,none⟩=some (.bool false)/\w'.cell? ⟨w1.heap.size+1,1,none⟩=some (.slice B m d)/\w'.cell? ⟨w2.heap.size,0,none⟩=some (.bool n')/\w'.cell? ⟨w2.heap.size,1,none⟩=some (.slice A' l' c')/\w'.cell? ⟨w2.heap.size+1,0,none⟩=some (.bool false)/\w'.cell? ⟨w2.heap.size+1,1,none⟩=some (.slice B' m' d')) (go_keep) (first
   | (go_at_call_of 65 (Value.slice A l c);go_must (refine (aa7 _ _ _ _ _ _ _ _ _ _ _ ?_ ?_ szz azr m1).mono ?_;(exact Hz.out.below Bel.go);(exact Hq'.out.below Bel.go);rintro e w3 ⟨n3,A3,l3,c3,rfl,h3,hb3⟩;obtain ⟨hcx,hfx⟩:=aao hb3;have aAb:w3.cell? ⟨w1.heap.size,0,none⟩=some (.bool n):=(hcx _ (by go_simp)).trans (by go_simp);have aAc:w3.cell? ⟨w1.heap.size,1,none⟩=some (.slice A l c):=(hcx _ (by go_simp)).trans (by go_simp);have aAd:w3.cell? ⟨w1.heap.size+1,0,none⟩=some (.bool false):=(hcx _ (by go_simp)).trans (by go_simp);have aAe:w3.cell? ⟨w1.heap.size+1,1,none⟩=some (.slice B m d):=(hcx _ (by go_simp)).trans (by go_simp);have aAf:w3.cell? ⟨w2.heap.size,0,none⟩=some (.bool n'):=(hcx _ (by go_simp)).trans (by go_simp);have aAg:w3.cell? ⟨w2.heap.size,1,none⟩=some (.slice A' l' c'):=(hcx _ (by go_simp)).trans (by go_simp);have aAh:w3.cell? ⟨w2.heap.size+1,0,none⟩=some (.bool false):=(hcx _ (by go_simp)).trans (by go_simp);have aAi:w3.cell? ⟨w2.heap.size+1,1,none⟩=some (.slice B' m' d'):=(hcx _ (by go_simp)).trans (by go_simp);clear hcx hfx;have HZ3:=Lh (Hz'.out.below (Below.trans Bel.go (hb3.mono (by simp<;>omega))));have HQ3:=Lh (Hq.out.below (Below.trans Bel.go (hb3.mono (by simp<;>omega))));have Hb5:=Lh (Hb4.out.trans ((Below.trans Bel.go (hb3.mono (by simp<;>omega))).mono Hb4.out.size))))
   | (go_at_call_of 65 (Value.slice A' l' c');go_must (refine (aa7 _ _ _ _ _ _ _ _ _ _ _ ?_ ?_ azq sqq m2).mono ?_;(exact HZ3.out.below Bel.go);(exact HQ3.out.below Bel.go);rintro e w4 ⟨n4,A4,l4,c4,rfl,h4,hb4⟩;obtain ⟨hcx,hfx⟩:=aao hb4;have aAj:w4.cell? ⟨w1.heap.size,0,none⟩=some (.bool n):=(hcx _ (by go_simp)).trans (by go_simp);have aAk:w4.cell? ⟨w1.heap.size,1,none⟩=some (.slice A l c):=(hcx _ (by go_simp)).trans (by go_simp);have aAl:w4.cell? ⟨w1.heap.size+1,0,none⟩=some (.bool false):=(hcx _ (by go_simp)).trans (by go_simp);have aAm:w4.cell? ⟨w1.heap.size+1,1,none⟩=some (.slice B m d):=(hcx _ (by go_simp)).trans (by go_simp);have aAn:w4.cell? ⟨w2.heap.size,0,none⟩=some (.bool n'):=(hcx _ (by go_simp)).trans (by go_simp);have aAo:w4.cell? ⟨w2.heap.size,1,none⟩=some (.slice A' l' c'):=(hcx _ (by go_simp)).trans (by go_simp);have aAp:w4.cell? ⟨w2.heap.size+1,0,none⟩=some (.bool false):=(hcx _ (by go_simp)).trans (by go_simp);have aAq:w4.cell? ⟨w2.heap.size+1,1,none⟩=some (.slice B' m' d'):=(hcx _ (by go_simp)).trans (by go_simp);clear hcx hfx;have H34:=Lh (h3.below (Below.trans Bel.go (hb4.mono (by simp<;>omega))));have Hb6:=Lh (Hb5.out.trans ((Below.trans Bel.go (hb4.mono (by simp<;>omega))).mono Hb5.out.size))))
   | (go_at_call 81;go_must (refine (alJ _ _ _ _ _ _ _ _ _ _ _ ?_ ?_ t1 t2).mono ?_;(exact H34.out.at_.below Bel.go);(exact h4.at_.below Bel.go);rintro e w5 ⟨rfl,hb5⟩;obtain ⟨hcx,hfx⟩:=aao hb5;have aAr:w5.cell? ⟨w1.heap.size,0,none⟩=some (.bool n):=(hcx _ (by go_simp)).trans (by go_simp);have aAs:w5.cell? ⟨w1.heap.size,1,none⟩=some (.slice A l c):=(hcx _ (by go_simp)).trans (by go_simp);have aAt:w5.cell? ⟨w1.heap.size+1,0,none⟩=some (.bool false):=(hcx _ (by go_simp)).trans (by go_simp);have aAu:w5.cell? ⟨w1.heap.size+1,1,none⟩=some (.slice B m d):=(hcx _ (by go_simp)).trans (by go_simp);have aAv:w5.cell? ⟨w2.heap.size,0,none⟩=some (.bool n'):=(hcx _ (by go_simp)).trans (by go_simp);have aAw:w5.cell? ⟨w2.heap.size,1,none⟩=some (.slice A' l' c'):=(hcx _ (by go_simp)).trans (by go_simp);have aAx:w5.cell? ⟨w2.heap.size+1,0,none⟩=some (.bool false):=(hcx _ (by go_simp)).trans (by go_simp);have aAy:w5.cell? ⟨w2.heap.size+1,1,none⟩=some (.slice B' m' d'):=(hcx _ (by go_simp)).trans (by go_simp);clear hcx hfx;have Hb7:=Lh (Hb6.out.trans ((Below.trans Bel.go (hb5.mono (by simp<;>omega))).mono Hb6.out.size)))))
 all_goals go_wp2
 all_goals go_ret
 all_goals exact ⟨rfl,Hb7.out⟩
end Go.Proofs.YtkefcldcfeolbaaGreat
namespace Go.Proofs.YtkefcldcfeolbaaGreat
open Go.RowKit
structure aci (W:World) (g:Nat) (n:Bool) (A:Option Addr) (l c:Nat) (B:Option Addr) (m d:Nat) (z:Int) (q:Nat):Prop where
 c0:W.cell? ⟨g,0,none⟩=some (.bool n)
 c1:W.cell? ⟨g,1,none⟩=some (.slice A l c)
 c2:W.cell? ⟨g,2,none⟩=some (.slice B m d)
 f0:W.frozen? ⟨g,0,none⟩=false
 f1:W.frozen? ⟨g,1,none⟩=false
 f2:W.frozen? ⟨g,2,none⟩=false
 lt:g<W.heap.size
 hz:aaA W n A l c z
 hq:aaT W B m d q
section
variable {W W':World} {g g':Nat} {n n':Bool} {A A' B B':Option Addr} {l c l' c' m d m' d':Nat} {z z':Int} {q q':Nat}
theorem aci.move (h:aci W g n A l c B m d z q) (hb:Below W.heap.size W W'):aci W' g n A l c B m d z q:=by
 obtain ⟨hc,hf⟩:=abH hb
 exact ⟨(hc _ _ h.lt).trans h.c0,(hc _ _ h.lt).trans h.c1,(hc _ _ h.lt).trans h.c2,(hf _ _ h.lt).trans h.f0,(hf _ _ h.lt).trans h.f1,(hf _ _ h.lt).trans h.f2,Nat.lt_of_lt_of_le h.lt hb.size,h.hz.below hb,h.hq.below hb⟩
theorem aci.nil (W:World):aci (W.alloc (aa0 false none 0 0 none 0 0)) W.heap.size false none 0 0 none 0 0 0 0 :=
 ⟨by go_simp,by go_simp,by go_simp,by go_simp,by go_simp,by go_simp,by simp,⟨aaT.zero _ _ _,by simp⟩,aaT.zero _ _ _⟩
theorem aci.atg (h:aci W g n A l c B m d z q) (h':aaK W g' n' A' l' c' z') (hg:g≠g') (u v:Value):aci ((W.setCell ⟨g',0,none⟩ u).setCell ⟨g',1,none⟩ v) g n A l c B m d z q:=by
 have k0:=h.c0
 have k1:=h.c1
 have k2:=h.c2
 have f0:=h.f0
 have f1:=h.f1
 have f2:=h.f2
 have j0:=h'.c0
 have j1:=h'.c1
 have j1':(W.setCell ⟨g',0,none⟩ u).cell? ⟨g',1,none⟩=some (.slice A' l' c'):=by
  rw[World.cell?_setCell_other W _ _ _ (by simp)];exact j1
 exact ⟨by go_simp,by go_simp,by go_simp,by go_simp,by go_simp,by go_simp,by simpa [World.setCell] using h.lt,h.hz.ret _ _ j0 j1,(h.hq.store _ j0 (aax _)).store _ j1' (aah _ _ _)⟩
abbrev anV (W:World) (g:Nat) (n:Bool) (A:Option Addr) (l c:Nat) (B:Option Addr) (m d:Nat):World:=((W.setCell ⟨g,0,none⟩ (.bool n)).setCell ⟨g,1,none⟩ (.slice A l c)).setCell ⟨g,2,none⟩ (.slice B m d)
theorem aci.put (h:aci W g n A l c B m d z q) (hz:aaA W n' A' l' c' z') (hq:aaT W B' m' d' q'):aci (anV W g n' A' l' c' B' m' d') g n' A' l' c' B' m' d' z' q':=by
 have k0:=h.c0
 have k1:=h.c1
 have k2:=h.c2
 have f0:=h.f0
 have f1:=h.f1
 have f2:=h.f2
 have j1:(W.setCell ⟨g,0,none⟩ (.bool n')).cell? ⟨g,1,none⟩=some (.slice A l c):=by
  rw[World.cell?_setCell_other W _ _ _ (by simp)];exact k1
 have j2:((W.setCell ⟨g,0,none⟩ (.bool n')).setCell ⟨g,1,none⟩ (.slice A' l' c')).cell? ⟨g,2,none⟩=some (.slice B m d):=by
  rw[World.cell?_setCell_other _ _ _ _ (by simp),World.cell?_setCell_other _ _ _ _ (by simp)];exact k2
 exact ⟨by go_simp,by go_simp,by go_simp,by go_simp,by go_simp,by go_simp,by simpa [World.setCell] using h.lt,(hz.ret _ _ k0 k1).store _ j2 (aah _ _ _),((hq.store _ k0 (aax _)).store _ j1 (aah _ _ _)).store _ j2 (aah _ _ _)⟩
end
def avj (z:Int) (q:Nat) (e:Ending) (w:World):Prop:=∃ n A l c B m d,e=.returned (.agg #[.bool n,.slice A l c,.slice B m d])/\aaA w n A l c z/\aaT w B m d q
end Go.Proofs.YtkefcldcfeolbaaGreat
namespace Go.Proofs.YtkefcldcfeolbaaGreat
open Go.RowKit
set_option maxRecDepth 100000 in
set_option maxHeartbeats 1000000 in
theorem akl (n:Bool) (A:Option Addr) (l c:Nat) (z:Int) (w:World) (hz:abj w n A l c z) (hs:SmI z) :
  Calls Tryz.prog 17 #[.agg #[.bool n,.slice A l c]] w fun e w'=>avj z 1 e w'/\Below w.heap.size w w':=by
 have hb0:Below w.heap.size w ((w.alloc (aap n A l c)).alloc (aa0 false none 0 0 none 0 0)):=ab5 w _ _ (Nat.le_refl _)
 have hz1:=hz.below hb0
 have hr:=aci.nil (w.alloc (aap n A l c))
 simp only[World.size_alloc] at hr
 have HR:=Lh hr
 have Hb0:=Lh hb0
 clear hz hb0 hr
 go_enter Tryz.func17,Tryz.ntmps17
 go_wp2_with fail
 refine (afi _ _ _ _ _ _ hz1 hs).mono ?_
 rintro e w1 ⟨n1,A1,l1,c1,rfl,h1,hb1⟩
 have HR1:=Lh (HR.out.move hb1)
 have Hb1:=Lh (Hb0.out.trans (hb1.mono Hb0.out.size))
 clear hz1 hb1
 go_wp2_with fail
 refine (ajL 1 _ (by unfold U64;rw[aan];omega)).mono ?_
 rintro e w2 ⟨A2,l2,c2,rfl,h2,hb2⟩
 have HR2:=Lh (HR1.out.move hb2)
 have h12:=h1.below hb2
 have Hb2:=Lh (Hb1.out.trans (hb2.mono Hb1.out.size))
 have HP:=Lh (HR2.out.put h12 h2)
 have HbP:=Lh (((Hb2.out.setCell (p:=⟨w.heap.size+1,0,none⟩) (by first | (simp;done) | (simp;omega) | omega) (.bool n1)).setCell (p:=⟨w.heap.size+1,1,none⟩) (by first | (simp;done) | (simp;omega) | omega) (.slice A1 l1 c1)).setCell (p:=⟨w.heap.size+1,2,none⟩) (by first | (simp;done) | (simp;omega) | omega) (.slice A2 l2 c2))
 have r0:=HR2.out.c0
 have r1:=HR2.out.c1
 have r2:=HR2.out.c2
 have r3:=HR2.out.f0
 have r4:=HR2.out.f1
 have r5:=HR2.out.f2
 clear HR HR1 Hb1 HR2 Hb2 h1 h2 h12 hb2
 go_wp2
 refine bodyPost_ret (v:=.agg #[.bool n1,.slice A1 l1 c1,.slice A2 l2 c2]) (by simp[results,Tryz.results17,go_sem,r0,r1,r2]) rfl ⟨⟨_,_,_,_,_,_,_,rfl,HP.out.hz,HP.out.hq⟩,HbP.out⟩
end Go.Proofs.YtkefcldcfeolbaaGreat
