/- The walks of package rational, fourth part: Make at a positive denominator, From, Of. -/
import Derived.Test.YtphmkdmflopcdaaGreatGcd
import Derived.RegionTactic
import Derived.Test.YtphmkdmflopcdaaGreatSft
namespace Go.Proofs.YtphmkdmflopcdaaGreat
open Go.RowKit
abbrev rbox (n:Bool) (A:Option Addr) (l c:Nat) (B:Option Addr) (m d:Nat):Obj:=.cells #[.bool n,.slice A l c,.slice B m d] 35
theorem NatAt.int {w:World} {B:Option Addr} {m d q:Nat} (h:NatAt w B m d q):IntAt w false B m d (q:Int):=⟨by rw[Int.natAbs_natCast];exact h,by rw[Int.natAbs_natCast,sgn_false]⟩
set_option maxRecDepth 100000 in
set_option maxHeartbeats 2000000 in
theorem parts_any (n:Bool) (A:Option Addr) (l c:Nat) (B:Option Addr) (m d q:Nat) (w:World) (hq:NatAt w B m d q) (hs:Sm q) (h0:q≠0) :
  Calls Tryz.prog 28 #[.agg #[.bool n,.slice A l c,.slice B m d]] w fun e w'=>e=.returned (.tuple #[.agg #[.bool n,.slice A l c],.agg #[.bool false,.slice B m d]])/\Below w.heap.size w w':=by
 have hb0:Below w.heap.size w (((w.alloc (rbox n A l c B m d)).alloc (ibox false none 0 0)).alloc (ibox false none 0 0)):=below_three w _ _ _ (Nat.le_refl _)
 have hq1:=hq.below hb0
 have Hb0:=Lh hb0
 have hdec:=Lh (show decide (q=0)=false from decide_eq_false h0)
 clear hq hb0
 go_enter Tryz.func28,Tryz.ntmps28
 go_wp2_with fail
 refine (isZero_any _ _ _ _ _ hq1 hs).mono ?_
 rintro e w1 ⟨rfl,rfl⟩
 rw[hdec.out]
 clear hq1 h0
 go_wp2
 go_region
 all_goals go_wp2
 all_goals refine bodyPost_ret (v:=.tuple #[.agg #[.bool n,.slice A l c],.agg #[.bool false,.slice B m d]]) (by simp[results,Tryz.results28,go_sem]) rfl ⟨rfl,(below_three w _ _ _ (Nat.le_refl _)).drew⟩
set_option maxRecDepth 100000 in
set_option maxHeartbeats 2000000 in
theorem rsign_any (n:Bool) (A:Option Addr) (l c:Nat) (B:Option Addr) (m d q:Nat) (z:Int) (w:World) (hz:IntAt w n A l c z) (hq:NatAt w B m d q) (hs:Sm q) (hsz:SmI z) (h0:q≠0) :
  Calls Tryz.prog 15 #[.agg #[.bool n,.slice A l c,.slice B m d]] w fun e w'=>e=.returned (.int .i64 (sg z))/\Below w.heap.size w w':=by
 have hb0:Below w.heap.size w (w.alloc (rbox n A l c B m d)):=(Below.refl _ _).alloc (Nat.le_refl _) _
 have hz1:=hz.below hb0
 have hq1:=hq.below hb0
 have Hb0:=Lh hb0
 clear hz hq hb0
 go_enter Tryz.func15,Tryz.ntmps15
 go_wp2_with fail
 refine (parts_any _ _ _ _ _ _ _ _ _ hq1 hs h0).mono ?_
 rintro e w1 ⟨rfl,hb1⟩
 have hb2:Below w1.heap.size w1 ((w1.alloc (ibox n A l c)).alloc (ibox false B m d)):=below_two w1 _ _ (Nat.le_refl _)
 have hz2:=(hz1.below hb1).below hb2
 have Hb1:=Lh (Hb0.out.trans (hb1.mono Hb0.out.size))
 have Hb2:=Lh (Hb1.out.trans (hb2.mono Hb1.out.size))
 clear hz1 hq1 hb1 hb2
 go_wp2_with fail
 refine (isign_any _ _ _ _ _ _ hz2 hsz).mono ?_
 rintro e w2 ⟨rfl,rfl⟩
 clear hz2
 go_wp2
 go_ret
 exact ⟨rfl,Hb2.out.alloc Hb2.out.size _⟩
end Go.Proofs.YtphmkdmflopcdaaGreat
namespace Go.Proofs.YtphmkdmflopcdaaGreat
open Go.RowKit
set_option maxRecDepth 100000 in
set_option maxHeartbeats 4000000 in
theorem rcmp_any (n:Bool) (A:Option Addr) (l c:Nat) (B:Option Addr) (m d q:Nat) (z:Int) (n':Bool) (A':Option Addr) (l' c':Nat) (B':Option Addr) (m' d' q':Nat) (z':Int) (w:World)
  (hz:IntAt w n A l c z) (hq:NatAt w B m d q) (hz':IntAt w n' A' l' c' z') (hq':NatAt w B' m' d' q') (h0:q≠0) (h0':q'≠0) (fz:Fit z) (fq:Fit (q:Int)) (fz':Fit z') (fq':Fit (q':Int)) :
  Calls Tryz.prog 13 #[.agg #[.bool n,.slice A l c,.slice B m d],.agg #[.bool n',.slice A' l' c',.slice B' m' d']] w fun e w'=>e=.returned (.int .i64 (cmpz (z*(q':Int)) (z'*(q:Int))))/\Below w.heap.size w w':=by
 have hb0:Below w.heap.size w ((w.alloc (rbox n A l c B m d)).alloc (rbox n' A' l' c' B' m' d')):=below_two w _ _ (Nat.le_refl _)
 have hz1:=hz.below hb0
 have hq1:=hq.below hb0
 have hz1':=hz'.below hb0
 have hq1':=hq'.below hb0
 have sq:Sm q:=by have:=fq.sm;unfold SmI at this;rwa [Int.natAbs_natCast] at this
 have sq':Sm q':=by have:=fq'.sm;unfold SmI at this;rwa [Int.natAbs_natCast] at this
 have Hb0:=Lh hb0
 clear hz hq hz' hq' hb0
 go_enter Tryz.func13,Tryz.ntmps13
 go_wp2_with fail
 refine (parts_any _ _ _ _ _ _ _ _ _ hq1 sq h0).mono ?_
 rintro e w1 ⟨rfl,hb1⟩
 obtain ⟨hcx,hfx⟩:=bcellS hb1
 have b0:w1.cell? ⟨w.heap.size+1,0,none⟩=some (.bool n'):=(hcx _ (by go_simp)).trans (by go_simp)
 have b1:w1.cell? ⟨w.heap.size+1,1,none⟩=some (.slice A' l' c'):=(hcx _ (by go_simp)).trans (by go_simp)
 have b2:w1.cell? ⟨w.heap.size+1,2,none⟩=some (.slice B' m' d'):=(hcx _ (by go_simp)).trans (by go_simp)
 have hsz:=hb1.size
 simp only[World.size_alloc] at hsz
 have hlt:w.heap.size+1<w1.heap.size:=by omega
 have hb2:Below w1.heap.size w1 ((w1.alloc (ibox n A l c)).alloc (ibox false B m d)):=below_two w1 _ _ (Nat.le_refl _)
 obtain ⟨hcy,hfy⟩:=bcellS hb2
 have g0:=(hcy _ (by rw[b0];rfl)).trans b0
 have g1:=(hcy _ (by rw[b1];rfl)).trans b1
 have g2:=(hcy _ (by rw[b2];rfl)).trans b2
 have hz2:=(hz1.below hb1).below hb2
 have hq2:=(hq1.below hb1).below hb2
 have hz2':=(hz1'.below hb1).below hb2
 have hq2':=(hq1'.below hb1).below hb2
 have Hb2:=Lh ((Hb0.out.trans (hb1.mono Hb0.out.size)).trans (hb2.mono (Hb0.out.trans (hb1.mono Hb0.out.size)).size))
 clear hz1 hq1 hz1' hq1' hb1 hb2 hcx hfx hcy hfy b0 b1 b2
 go_wp2_with fail
 refine (parts_any _ _ _ _ _ _ _ _ _ hq2' sq' h0').mono ?_
 rintro e w2 ⟨rfl,hb3⟩
 obtain ⟨hcx,hfx⟩:=bcellS hb3
 have d0:w2.cell? ⟨w1.heap.size,0,none⟩=some (.bool n):=(hcx _ (by go_simp)).trans (by go_simp)
 have d1:w2.cell? ⟨w1.heap.size,1,none⟩=some (.slice A l c):=(hcx _ (by go_simp)).trans (by go_simp)
 have d2:w2.cell? ⟨w1.heap.size+1,0,none⟩=some (.bool false):=(hcx _ (by go_simp)).trans (by go_simp)
 have d3:w2.cell? ⟨w1.heap.size+1,1,none⟩=some (.slice B m d):=(hcx _ (by go_simp)).trans (by go_simp)
 have hsz2:=hb3.size
 simp only[World.size_alloc] at hsz2
 have hlt2:w1.heap.size<w2.heap.size:=by omega
 have hlt3:w1.heap.size+1<w2.heap.size:=by omega
 have hb4:Below w2.heap.size w2 ((w2.alloc (ibox n' A' l' c')).alloc (ibox false B' m' d')):=below_two w2 _ _ (Nat.le_refl _)
 obtain ⟨hcy,hfy⟩:=bcellS hb4
 have k0:=(hcy _ (by rw[d0];rfl)).trans d0
 have k1:=(hcy _ (by rw[d1];rfl)).trans d1
 have k2:=(hcy _ (by rw[d2];rfl)).trans d2
 have k3:=(hcy _ (by rw[d3];rfl)).trans d3
 have Hz:=Lh ((hz2.below hb3).below hb4)
 have Hq:=Lh ((hq2.below hb3).below hb4).int
 have Hz':=Lh ((hz2'.below hb3).below hb4)
 have Hq':=Lh ((hq2'.below hb3).below hb4).int
 have Hb4:=Lh ((Hb2.out.trans (hb3.mono Hb2.out.size)).trans (hb4.mono (Hb2.out.trans (hb3.mono Hb2.out.size)).size))
 have m1:=fz.mulok (q':Int)
 have m2:=fz'.mulok (q:Int)
 have t1:=fz.sm2 fq'
 have t2:=fz'.sm2 fq
 have szz:=fz.sm
 have szz':=fz'.sm
 have sqq:=fq.sm
 have sqq':=fq'.sm
 clear hz2 hq2 hz2' hq2' hb3 hb4 hcx hfx hcy hfy g0 g1 g2 d0 d1 d2 d3 Hb0 Hb2
 go_wp2_with fail
 go_region_held3 (fun w'=>w'.cell? ⟨w1.heap.size,0,none⟩=some (.bool n)/\w'.cell? ⟨w1.heap.size,1,none⟩=some (.slice A l c)/\w'.cell? ⟨w1.heap.size+1,0,none⟩=some (.bool false)/\w'.cell? ⟨w1.heap.size+1,1,none⟩=some (.slice B m d)/\w'.cell? ⟨w2.heap.size,0,none⟩=some (.bool n')/\w'.cell? ⟨w2.heap.size,1,none⟩=some (.slice A' l' c')/\w'.cell? ⟨w2.heap.size+1,0,none⟩=some (.bool false)/\w'.cell? ⟨w2.heap.size+1,1,none⟩=some (.slice B' m' d')) (go_keep) (first
   | (go_at_call_of 25 (Value.slice A l c);go_must (refine (imul_any _ _ _ _ _ _ _ _ _ _ _ ?_ ?_ szz sqq' m1).mono ?_;(exact Hz.out.below Bel.go);(exact Hq'.out.below Bel.go);rintro e w3 ⟨n3,A3,l3,c3,rfl,h3,hb3⟩;obtain ⟨hcx,hfx⟩:=bcellS hb3;have x0w3:w3.cell? ⟨w1.heap.size,0,none⟩=some (.bool n):=(hcx _ (by go_simp)).trans (by go_simp);have x1w3:w3.cell? ⟨w1.heap.size,1,none⟩=some (.slice A l c):=(hcx _ (by go_simp)).trans (by go_simp);have x2w3:w3.cell? ⟨w1.heap.size+1,0,none⟩=some (.bool false):=(hcx _ (by go_simp)).trans (by go_simp);have x3w3:w3.cell? ⟨w1.heap.size+1,1,none⟩=some (.slice B m d):=(hcx _ (by go_simp)).trans (by go_simp);have x4w3:w3.cell? ⟨w2.heap.size,0,none⟩=some (.bool n'):=(hcx _ (by go_simp)).trans (by go_simp);have x5w3:w3.cell? ⟨w2.heap.size,1,none⟩=some (.slice A' l' c'):=(hcx _ (by go_simp)).trans (by go_simp);have x6w3:w3.cell? ⟨w2.heap.size+1,0,none⟩=some (.bool false):=(hcx _ (by go_simp)).trans (by go_simp);have x7w3:w3.cell? ⟨w2.heap.size+1,1,none⟩=some (.slice B' m' d'):=(hcx _ (by go_simp)).trans (by go_simp);clear hcx hfx;have HZ3:=Lh (Hz'.out.below (Below.trans Bel.go (hb3.mono (by simp<;>omega))));have HQ3:=Lh (Hq.out.below (Below.trans Bel.go (hb3.mono (by simp<;>omega))));have Hb5:=Lh (Hb4.out.trans ((Below.trans Bel.go (hb3.mono (by simp<;>omega))).mono Hb4.out.size))))
   | (go_at_call_of 25 (Value.slice A' l' c');go_must (refine (imul_any _ _ _ _ _ _ _ _ _ _ _ ?_ ?_ szz' sqq m2).mono ?_;(exact HZ3.out.below Bel.go);(exact HQ3.out.below Bel.go);rintro e w4 ⟨n4,A4,l4,c4,rfl,h4,hb4⟩;obtain ⟨hcx,hfx⟩:=bcellS hb4;have x0w4:w4.cell? ⟨w1.heap.size,0,none⟩=some (.bool n):=(hcx _ (by go_simp)).trans (by go_simp);have x1w4:w4.cell? ⟨w1.heap.size,1,none⟩=some (.slice A l c):=(hcx _ (by go_simp)).trans (by go_simp);have x2w4:w4.cell? ⟨w1.heap.size+1,0,none⟩=some (.bool false):=(hcx _ (by go_simp)).trans (by go_simp);have x3w4:w4.cell? ⟨w1.heap.size+1,1,none⟩=some (.slice B m d):=(hcx _ (by go_simp)).trans (by go_simp);have x4w4:w4.cell? ⟨w2.heap.size,0,none⟩=some (.bool n'):=(hcx _ (by go_simp)).trans (by go_simp);have x5w4:w4.cell? ⟨w2.heap.size,1,none⟩=some (.slice A' l' c'):=(hcx _ (by go_simp)).trans (by go_simp);have x6w4:w4.cell? ⟨w2.heap.size+1,0,none⟩=some (.bool false):=(hcx _ (by go_simp)).trans (by go_simp);have x7w4:w4.cell? ⟨w2.heap.size+1,1,none⟩=some (.slice B' m' d'):=(hcx _ (by go_simp)).trans (by go_simp);clear hcx hfx;have H34:=Lh (h3.below (Below.trans Bel.go (hb4.mono (by simp<;>omega))));have Hb6:=Lh (Hb5.out.trans ((Below.trans Bel.go (hb4.mono (by simp<;>omega))).mono Hb5.out.size))))
   | (go_at_call 32;go_must (refine (icmp_any _ _ _ _ _ _ _ _ _ _ _ ?_ ?_ t1 t2).mono ?_;(exact H34.out.at_.below Bel.go);(exact h4.at_.below Bel.go);rintro e w5 ⟨rfl,hb5⟩;obtain ⟨hcx,hfx⟩:=bcellS hb5;have x0w5:w5.cell? ⟨w1.heap.size,0,none⟩=some (.bool n):=(hcx _ (by go_simp)).trans (by go_simp);have x1w5:w5.cell? ⟨w1.heap.size,1,none⟩=some (.slice A l c):=(hcx _ (by go_simp)).trans (by go_simp);have x2w5:w5.cell? ⟨w1.heap.size+1,0,none⟩=some (.bool false):=(hcx _ (by go_simp)).trans (by go_simp);have x3w5:w5.cell? ⟨w1.heap.size+1,1,none⟩=some (.slice B m d):=(hcx _ (by go_simp)).trans (by go_simp);have x4w5:w5.cell? ⟨w2.heap.size,0,none⟩=some (.bool n'):=(hcx _ (by go_simp)).trans (by go_simp);have x5w5:w5.cell? ⟨w2.heap.size,1,none⟩=some (.slice A' l' c'):=(hcx _ (by go_simp)).trans (by go_simp);have x6w5:w5.cell? ⟨w2.heap.size+1,0,none⟩=some (.bool false):=(hcx _ (by go_simp)).trans (by go_simp);have x7w5:w5.cell? ⟨w2.heap.size+1,1,none⟩=some (.slice B' m' d'):=(hcx _ (by go_simp)).trans (by go_simp);clear hcx hfx;have Hb7:=Lh (Hb6.out.trans ((Below.trans Bel.go (hb5.mono (by simp<;>omega))).mono Hb6.out.size)))))
 all_goals go_wp2
 all_goals go_ret
 all_goals exact ⟨rfl,Hb7.out⟩
end Go.Proofs.YtphmkdmflopcdaaGreat
namespace Go.Proofs.YtphmkdmflopcdaaGreat
open Go.RowKit
structure RBox (W:World) (g:Nat) (n:Bool) (A:Option Addr) (l c:Nat) (B:Option Addr) (m d:Nat) (z:Int) (q:Nat):Prop where
 c0:W.cell? ⟨g,0,none⟩=some (.bool n)
 c1:W.cell? ⟨g,1,none⟩=some (.slice A l c)
 c2:W.cell? ⟨g,2,none⟩=some (.slice B m d)
 f0:W.frozen? ⟨g,0,none⟩=false
 f1:W.frozen? ⟨g,1,none⟩=false
 f2:W.frozen? ⟨g,2,none⟩=false
 lt:g<W.heap.size
 hz:IntN W n A l c z
 hq:NatN W B m d q
section
variable {W W':World} {g g':Nat} {n n':Bool} {A A' B B':Option Addr} {l c l' c' m d m' d':Nat} {z z':Int} {q q':Nat}
theorem RBox.move (h:RBox W g n A l c B m d z q) (hb:Below W.heap.size W W'):RBox W' g n A l c B m d z q:=by
 obtain ⟨hc,hf⟩:=bcell hb
 exact ⟨(hc _ _ h.lt).trans h.c0,(hc _ _ h.lt).trans h.c1,(hc _ _ h.lt).trans h.c2,(hf _ _ h.lt).trans h.f0,(hf _ _ h.lt).trans h.f1,(hf _ _ h.lt).trans h.f2,Nat.lt_of_lt_of_le h.lt hb.size,h.hz.below hb,h.hq.below hb⟩
theorem RBox.nil (W:World):RBox (W.alloc (rbox false none 0 0 none 0 0)) W.heap.size false none 0 0 none 0 0 0 0 :=
 ⟨by go_simp,by go_simp,by go_simp,by go_simp,by go_simp,by go_simp,by simp,⟨NatN.zero _ _ _,by simp⟩,NatN.zero _ _ _⟩
theorem RBox.farI (h:RBox W g n A l c B m d z q) (h':IBox W g' n' A' l' c' z') (hg:g≠g') (u v:Value):RBox ((W.setCell ⟨g',0,none⟩ u).setCell ⟨g',1,none⟩ v) g n A l c B m d z q:=by
 have k0:=h.c0
 have k1:=h.c1
 have k2:=h.c2
 have f0:=h.f0
 have f1:=h.f1
 have f2:=h.f2
 have j0:=h'.c0
 have j1:=h'.c1
 have j1':(W.setCell ⟨g',0,none⟩ u).cell? ⟨g',1,none⟩=some (.slice A' l' c'):=by
  rw[World.cell?_setCell_other W _ _ _ (by simp)];exact j1
 exact ⟨by go_simp,by go_simp,by go_simp,by go_simp,by go_simp,by go_simp,by simpa [World.setCell] using h.lt,h.hz.ret _ _ j0 j1,(h.hq.store _ j0 (noDigit_bool _)).store _ j1' (noDigit_slice _ _ _)⟩
abbrev put3 (W:World) (g:Nat) (n:Bool) (A:Option Addr) (l c:Nat) (B:Option Addr) (m d:Nat):World:=((W.setCell ⟨g,0,none⟩ (.bool n)).setCell ⟨g,1,none⟩ (.slice A l c)).setCell ⟨g,2,none⟩ (.slice B m d)
theorem RBox.put (h:RBox W g n A l c B m d z q) (hz:IntN W n' A' l' c' z') (hq:NatN W B' m' d' q'):RBox (put3 W g n' A' l' c' B' m' d') g n' A' l' c' B' m' d' z' q':=by
 have k0:=h.c0
 have k1:=h.c1
 have k2:=h.c2
 have f0:=h.f0
 have f1:=h.f1
 have f2:=h.f2
 have j1:(W.setCell ⟨g,0,none⟩ (.bool n')).cell? ⟨g,1,none⟩=some (.slice A l c):=by
  rw[World.cell?_setCell_other W _ _ _ (by simp)];exact k1
 have j2:((W.setCell ⟨g,0,none⟩ (.bool n')).setCell ⟨g,1,none⟩ (.slice A' l' c')).cell? ⟨g,2,none⟩=some (.slice B m d):=by
  rw[World.cell?_setCell_other _ _ _ _ (by simp),World.cell?_setCell_other _ _ _ _ (by simp)];exact k2
 exact ⟨by go_simp,by go_simp,by go_simp,by go_simp,by go_simp,by go_simp,by simpa [World.setCell] using h.lt,(hz.ret _ _ k0 k1).store _ j2 (noDigit_slice _ _ _),((hq.store _ k0 (noDigit_bool _)).store _ j1 (noDigit_slice _ _ _)).store _ j2 (noDigit_slice _ _ _)⟩
end
def RatE (z:Int) (q:Nat) (e:Ending) (w:World):Prop:=∃ n A l c B m d,e=.returned (.agg #[.bool n,.slice A l c,.slice B m d])/\IntN w n A l c z/\NatN w B m d q
theorem sm_u64 {n:Nat} (h:U64 n):Sm n:=Nat.le_trans (dlen_le_of_lt (k:=2) (by rw[Nat.pow_succ,Nat.pow_one];exact h)) (by omega)
set_option maxRecDepth 100000 in
set_option maxHeartbeats 4000000 in
theorem reduce_any (n:Bool) (A:Option Addr) (l c:Nat) (z:Int) (n':Bool) (A':Option Addr) (l' c':Nat) (q:Nat) (w:World) (hz:IntN w n A l c z) (hq:IntN w n' A' l' c' (q:Int)) (hu:U64 z.natAbs) (hv:q<BB) (h0:0<q) :
  Calls Tryz.prog 29 #[.agg #[.bool n,.slice A l c],.agg #[.bool n',.slice A' l' c']] w fun e w'=>RatE (z.tdiv (Nat.gcd z.natAbs q)) (q / Nat.gcd z.natAbs q) e w'/\Below w.heap.size w w':=by
 have hbx:Below w.heap.size w (w.alloc (ibox n A l c)):=(Below.refl _ _).alloc (Nat.le_refl _) _
 have hby:Below (w.alloc (ibox n A l c)).heap.size (w.alloc (ibox n A l c)) ((w.alloc (ibox n A l c)).alloc (ibox n' A' l' c')):=(Below.refl _ _).alloc (Nat.le_refl _) _
 have hbz:Below ((w.alloc (ibox n A l c)).alloc (ibox n' A' l' c')).heap.size ((w.alloc (ibox n A l c)).alloc (ibox n' A' l' c')) (((w.alloc (ibox n A l c)).alloc (ibox n' A' l' c')).alloc (rbox false none 0 0 none 0 0)):=(Below.refl _ _).alloc (Nat.le_refl _) _
 have HN:=Lh (((IBox.make hz).move hby).move hbz)
 have hd:=(IBox.make (hq.below hbx)).move hbz
 have hr:=RBox.nil ((w.alloc (ibox n A l c)).alloc (ibox n' A' l' c'))
 simp only[World.size_alloc] at hd hr
 have HD:=Lh hd
 have HR:=Lh hr
 have hb0:=hbx.trans ((hby.trans (hbz.mono hby.size)).mono hbx.size)
 have Hb0:=Lh hb0
 have hqu:U64 q:=by
  unfold U64
  have:=BB_pos
  have h3:BB*1<=BB*BB:=Nat.mul_le_mul_left _ (by omega)
  omega
 have hgq:Nat.gcd z.natAbs q<=q:=Nat.gcd_le_right _ h0
 have hg0:0<Nat.gcd z.natAbs q:=Nat.gcd_pos_of_pos_right _ h0
 have hlow:dlen (Nat.gcd z.natAbs q)=1:=dlen_low (by omega) (by omega)
 have hsz:SmI z:=sm_u64 hu
 have hsq:SmI (q:Int):=by unfold SmI;rw[Int.natAbs_natCast];exact sm_u64 hqu
 have e0:=HN.out.c0
 have e1:=HN.out.c1
 have e2:=HD.out.c0
 have e3:=HD.out.c1
 clear hz hq hbx hby hbz hd hr hb0
 go_enter Tryz.func29,Tryz.ntmps29
 go_wp2_with fail
 refine (gcd_small _ _ _ _ _ _ _ _ _ _ _ HN.out.hz.at_ HD.out.hz.at_ hu (by rw[Int.natAbs_natCast];exact hqu)).mono ?_
 rintro e w1 ⟨n1,A1,l1,c1,rfl,h1,hb1⟩
 rw[Int.natAbs_natCast] at h1
 obtain ⟨G,hG⟩:∃ G,G=Nat.gcd z.natAbs q:=⟨_,rfl⟩
 rw[<- hG] at h1 hgq hg0 hlow
 have HG:=Lh hG
 have hsz1:=hb1.size
 simp only[World.size_alloc] at hsz1
 have hlt:w.heap.size+1+1<w1.heap.size:=by omega
 have hba:Below w1.heap.size w1 (w1.alloc (ibox n1 A1 l1 c1)):=(Below.refl _ _).alloc (Nat.le_refl _) _
 have HN1:=Lh ((HN.out.move hb1).move hba)
 have HD1:=Lh ((HD.out.move hb1).move hba)
 have HR1:=Lh ((HR.out.move hb1).move hba)
 have HG1:=Lh (IBox.make h1)
 have Hb1:=Lh ((Hb0.out.trans (hb1.mono Hb0.out.size)).trans (hba.mono (Hb0.out.trans (hb1.mono Hb0.out.size)).size))
 have hsG:SmI (G:Int):=by unfold SmI;rw[Int.natAbs_natCast];exact sm_u64 (Nat.lt_of_le_of_lt hgq hqu)
 have hne:(G:Int)≠0:=by omega
 have dok:DivOK z.natAbs (G:Int).natAbs:=.inr (by rw[Int.natAbs_natCast];exact hlow)
 have dok2:DivOK (q:Int).natAbs (G:Int).natAbs:=.inr (by rw[Int.natAbs_natCast];exact hlow)
 clear hG h1 hb1 hba HN HD HR Hb0 e0 e1 e2 e3 hlow
 have e0:=HN1.out.c0
 have e1:=HN1.out.c1
 have e2:=HG1.out.c0
 have e3:=HG1.out.c1
 go_wp2_with fail
 refine (quo_any _ _ _ _ _ _ _ _ _ _ _ HN1.out.hz.at_ HG1.out.hz.at_ hsz hsG dok hne).mono ?_
 rintro e w2 ⟨n2,A2,l2,c2,n3,A3,l3,c3,rfl,h2,h3,hb2⟩
 have hN2:=HN1.out.move hb2
 have hD2:=HD1.out.move hb2
 have hR2:=HR1.out.move hb2
 have hG2:=HG1.out.move hb2
 have HN3:=Lh (hN2.put h2)
 have HD3:=Lh (hD2.far hN2 (by omega) (.bool n2) (.slice A2 l2 c2))
 have HR3:=Lh (hR2.farI hN2 (by omega) (.bool n2) (.slice A2 l2 c2))
 have HG3:=Lh (hG2.far hN2 (by omega) (.bool n2) (.slice A2 l2 c2))
 have Hb3:=Lh (((Hb1.out.trans (hb2.mono Hb1.out.size)).setCell (p:=⟨w.heap.size,0,none⟩) (Nat.le_refl _) (.bool n2)).setCell (p:=⟨w.heap.size,1,none⟩) (Nat.le_refl _) (.slice A2 l2 c2))
 clear e0 e1 e2 e3
 have e0:=hN2.c0
 have e1:=hN2.c1
 have e2:=hN2.f0
 have e3:=hN2.f1
 obtain ⟨W3,hW3⟩:∃ W3,W3=put2 w2 w.heap.size n2 A2 l2 c2:=⟨_,rfl⟩
 have Hn2:=Lh hN2
 have Hd2:=Lh hD2
 have Hg2:=Lh hG2
 clear h2 h3 hb2 hN2 hD2 hR2 hG2 HN1 HD1 HR1 HG1 Hb1 hW3
 have d0:=Hd2.out.c0
 have d1:=Hd2.out.c1
 have d2:=Hg2.out.c0
 have d3:=Hg2.out.c1
 have ne1:w.heap.size≠w.heap.size+1:=by omega
 have ne2:w.heap.size≠w1.heap.size:=by omega
 have ne3:w.heap.size+1≠w1.heap.size:=by omega
 go_wp2_with fail
 refine (quo_any _ _ _ _ _ _ _ _ _ _ _ HD3.out.hz.at_ HG3.out.hz.at_ hsq hsG dok2 hne).mono ?_
 rintro e w4 ⟨n4,A4,l4,c4,n5,A5,l5,c5,rfl,h4,h5,hb4⟩
 have hN4:=HN3.out.move hb4
 have hD4:=HD3.out.move hb4
 have hR4:=HR3.out.move hb4
 have HN5:=Lh (hN4.far hD4 (by omega) (.bool n4) (.slice A4 l4 c4))
 have HD5:=Lh (hD4.put h4)
 have HR5:=Lh (hR4.farI hD4 (by omega) (.bool n4) (.slice A4 l4 c4))
 have Hb5:=Lh (((Hb3.out.trans (hb4.mono Hb3.out.size)).setCell (p:=⟨w.heap.size+1,0,none⟩) (by simp) (.bool n4)).setCell (p:=⟨w.heap.size+1,1,none⟩) (by simp) (.slice A4 l4 c4))
 have a0:=hN4.c0
 have a1:=hN4.c1
 have a2:=hD4.c0
 have a3:=hD4.c1
 have a4:=hD4.f0
 have a5:=hD4.f1
 have r0:=hR4.c0
 have r1:=hR4.c1
 have r2:=hR4.c2
 have r3:=hR4.f0
 have r4:=hR4.f1
 have r5:=hR4.f2
 have hnat:(((q:Int).tdiv (G:Int))).natAbs=q / G:=by
  show (((q / G:Nat):Int)).natAbs=_
  rw[Int.natAbs_natCast]
 have hq5:=HD5.out.hz.nat
 rw[hnat] at hq5
 have HP:=Lh (HR5.out.put HN5.out.hz hq5)
 have ne4:w.heap.size+1+1≠w.heap.size:=by omega
 have ne5:w.heap.size+1+1≠w.heap.size+1:=by omega
 clear h4 h5 hb4 hN4 hD4 hR4 HN3 HD3 HR3 HG3 Hb3 d0 d1 d2 d3 Hn2 Hd2 Hg2 e0 e1 e2 e3 hq5 hnat
 go_wp2
 refine bodyPost_ret (v:=.agg #[.bool n2,.slice A2 l2 c2,.slice A4 l4 c4]) (by simp[results,Tryz.results29,go_sem,r0,r1,r2]) rfl ⟨⟨_,_,_,_,_,_,_,rfl,?_,?_⟩,?_⟩
 ·rw[<- HG.out];exact HP.out.hz
 ·rw[<- HG.out];exact HP.out.hq
 ·exact ((Hb5.out.setCell (p:=⟨w.heap.size+1+1,0,none⟩) (by first | (simp;done) | (simp;omega) | omega) _).setCell (p:=⟨w.heap.size+1+1,1,none⟩) (by first | (simp;done) | (simp;omega) | omega) _).setCell (p:=⟨w.heap.size+1+1,2,none⟩) (by first | (simp;done) | (simp;omega) | omega) _
end Go.Proofs.YtphmkdmflopcdaaGreat
namespace Go.Proofs.YtphmkdmflopcdaaGreat
open Go.RowKit
def RatOk (z:Int) (q:Nat) (e:Ending) (w:World):Prop:=∃ n A l c B m d,e=.returned (.tuple #[.agg #[.bool n,.slice A l c,.slice B m d],.int .i64 0])/\IntN w n A l c z/\NatN w B m d q
set_option maxRecDepth 100000 in
set_option maxHeartbeats 4000000 in
theorem make_pos (n:Bool) (A:Option Addr) (l c:Nat) (z:Int) (n':Bool) (A':Option Addr) (l' c':Nat) (q:Nat) (w:World) (hz:IntN w n A l c z) (hq:IntN w n' A' l' c' (q:Int)) (hu:U64 z.natAbs) (hv:q<BB) (h0:0<q) :
  Calls Tryz.prog 21 #[.agg #[.bool n,.slice A l c],.agg #[.bool n',.slice A' l' c']] w fun e w'=>RatOk (z.tdiv (Nat.gcd z.natAbs q)) (q / Nat.gcd z.natAbs q) e w'/\Below w.heap.size w w':=by
 have hbx:Below w.heap.size w (w.alloc (ibox n A l c)):=(Below.refl _ _).alloc (Nat.le_refl _) _
 have hby:Below (w.alloc (ibox n A l c)).heap.size (w.alloc (ibox n A l c)) ((w.alloc (ibox n A l c)).alloc (ibox n' A' l' c')):=(Below.refl _ _).alloc (Nat.le_refl _) _
 have hbz:Below ((w.alloc (ibox n A l c)).alloc (ibox n' A' l' c')).heap.size ((w.alloc (ibox n A l c)).alloc (ibox n' A' l' c')) (((w.alloc (ibox n A l c)).alloc (ibox n' A' l' c')).alloc (rbox false none 0 0 none 0 0)):=(Below.refl _ _).alloc (Nat.le_refl _) _
 have HN:=Lh (((IBox.make hz).move hby).move hbz)
 have hd:=(IBox.make (hq.below hbx)).move hbz
 have hr:=RBox.nil ((w.alloc (ibox n A l c)).alloc (ibox n' A' l' c'))
 simp only[World.size_alloc] at hd hr
 have HD:=Lh hd
 have HR:=Lh hr
 have hb0:=hbx.trans ((hby.trans (hbz.mono hby.size)).mono hbx.size)
 have Hb0:=Lh hb0
 have hsq:SmI (q:Int):=by unfold SmI;rw[Int.natAbs_natCast];exact sm_pow (k:=1) (by rw[Nat.pow_one];exact hv) (by omega)
 have e0:=HN.out.c0
 have e1:=HN.out.c1
 have e2:=HD.out.c0
 have e3:=HD.out.c1
 clear hz hq hbx hby hbz hd hr hb0
 go_enter Tryz.func21,Tryz.ntmps21
 go_wp2_with fail
 refine (isign_any _ _ _ _ _ _ HD.out.hz.at_ hsq).mono ?_
 rintro e w1 ⟨rfl,rfl⟩
 rw[show sg (q:Int)=1 from sg_pos (by omega)]
 have hba:Below (((w.alloc (ibox n A l c)).alloc (ibox n' A' l' c')).alloc (rbox false none 0 0 none 0 0)).heap.size (((w.alloc (ibox n A l c)).alloc (ibox n' A' l' c')).alloc (rbox false none 0 0 none 0 0)) ((((w.alloc (ibox n A l c)).alloc (ibox n' A' l' c')).alloc (rbox false none 0 0 none 0 0)).alloc (ibox n' A' l' c')):=(Below.refl _ _).alloc (Nat.le_refl _) _
 have HN1:=Lh (HN.out.move hba)
 have HD1:=Lh (HD.out.move hba)
 have HR1:=Lh (HR.out.move hba)
 have Hb1:=Lh (Hb0.out.trans (hba.mono Hb0.out.size))
 clear e0 e1 e2 e3 HN HD HR Hb0 hba
 have e0:=HN1.out.c0
 have e1:=HN1.out.c1
 have e2:=HD1.out.c0
 have e3:=HD1.out.c1
 have ne4:w.heap.size+1+1≠w.heap.size:=by omega
 go_wp2_with fail
 go_region_held3 (fun w'=>w'.cell? ⟨w.heap.size,0,none⟩=some (.bool n)/\w'.cell? ⟨w.heap.size,1,none⟩=some (.slice A l c)/\w'.cell? ⟨w.heap.size+1,0,none⟩=some (.bool n')/\w'.cell? ⟨w.heap.size+1,1,none⟩=some (.slice A' l' c')) (go_keep) (first
   | (go_at_call 47;go_must (refine (iabs_any _ _ _ _ _ _ ?_ hsq).mono ?_;(exact HD1.out.hz.at_.below Bel.go);rintro e w2 ⟨n2,A2,l2,c2,rfl,h2,hb2⟩;rw[Int.natAbs_natCast] at h2;have HN2:=Lh (HN1.out.move (Below.trans Bel.go (hb2.mono (by simp<;>omega))));have HD2:=Lh (HD1.out.move (Below.trans Bel.go (hb2.mono (by simp<;>omega))));have HR2:=Lh (HR1.out.move (Below.trans Bel.go (hb2.mono (by simp<;>omega))));have Hb2:=Lh (Hb1.out.trans ((Below.trans Bel.go (hb2.mono (by simp<;>omega))).mono Hb1.out.size));have x0:=HN2.out.c0;have x1:=HN2.out.c1;have x2:=HD2.out.c0;have x3:=HD2.out.c1))
   | (go_at_call 29;go_must (refine (reduce_any _ _ _ _ _ _ _ _ _ _ _ ?_ ?_ hu hv h0).mono ?_;(exact HN2.out.hz.below Bel.go);(exact h2.below Bel.go);rintro e w3 ⟨⟨n3,A3,l3,c3,B3,m3,d3,rfl,h3,h4⟩,hb3⟩;have HN3:=Lh (HN2.out.move (Below.trans Bel.go (hb3.mono (by simp<;>omega))));have HD3:=Lh (HD2.out.move (Below.trans Bel.go (hb3.mono (by simp<;>omega))));have HR3:=Lh (HR2.out.move (Below.trans Bel.go (hb3.mono (by simp<;>omega))));have Hb3:=Lh (Hb2.out.trans ((Below.trans Bel.go (hb3.mono (by simp<;>omega))).mono Hb2.out.size));have y0:=HN3.out.c0;have y1:=HN3.out.c1;have y2:=HD3.out.c0;have y3:=HD3.out.c1;have r0:=HR3.out.c0;have r1:=HR3.out.c1;have r2:=HR3.out.c2;have r3:=HR3.out.f0;have r4:=HR3.out.f1;have r5:=HR3.out.f2)))
 have HP:=Lh (HR3.out.put h3 h4)
 have HbP:=Lh (((Hb3.out.setCell (p:=⟨w.heap.size+1+1,0,none⟩) (by first | (simp;done) | (simp;omega) | omega) (.bool n3)).setCell (p:=⟨w.heap.size+1+1,1,none⟩) (by first | (simp;done) | (simp;omega) | omega) (.slice A3 l3 c3)).setCell (p:=⟨w.heap.size+1+1,2,none⟩) (by first | (simp;done) | (simp;omega) | omega) (.slice B3 m3 d3))
 clear HN1 HD1 HR1 Hb1 HN2 HD2 HR2 Hb2 HN3 HD3 HR3 Hb3 h2 h3 h4 hb2 hb3 e0 e1 e2 e3 x0 x1 x2 x3 y0 y1 y2 y3
 go_wp2
 refine bodyPost_ret (v:=.tuple #[.agg #[.bool n3,.slice A3 l3 c3,.slice B3 m3 d3],.int .i64 0]) (by simp[results,Tryz.results21,go_sem,r0,r1,r2]) rfl ⟨⟨_,_,_,_,_,_,_,rfl,HP.out.hz,HP.out.hq⟩,HbP.out⟩
set_option maxRecDepth 100000 in
set_option maxHeartbeats 1000000 in
theorem rfrom_any (n:Bool) (A:Option Addr) (l c:Nat) (z:Int) (w:World) (hz:IntAt w n A l c z) (hs:SmI z) :
  Calls Tryz.prog 41 #[.agg #[.bool n,.slice A l c]] w fun e w'=>RatE z 1 e w'/\Below w.heap.size w w':=by
 have hb0:Below w.heap.size w ((w.alloc (ibox n A l c)).alloc (rbox false none 0 0 none 0 0)):=below_two w _ _ (Nat.le_refl _)
 have hz1:=hz.below hb0
 have hr:=RBox.nil (w.alloc (ibox n A l c))
 simp only[World.size_alloc] at hr
 have HR:=Lh hr
 have Hb0:=Lh hb0
 clear hz hb0 hr
 go_enter Tryz.func41,Tryz.ntmps41
 go_wp2_with fail
 refine (inormal_any _ _ _ _ _ _ hz1 hs).mono ?_
 rintro e w1 ⟨n1,A1,l1,c1,rfl,h1,hb1⟩
 have HR1:=Lh (HR.out.move hb1)
 have Hb1:=Lh (Hb0.out.trans (hb1.mono Hb0.out.size))
 clear hz1 hb1
 go_wp2_with fail
 refine (of_any 1 _ (by unfold U64;rw[BB_eq];omega)).mono ?_
 rintro e w2 ⟨A2,l2,c2,rfl,h2,hb2⟩
 have HR2:=Lh (HR1.out.move hb2)
 have h12:=h1.below hb2
 have Hb2:=Lh (Hb1.out.trans (hb2.mono Hb1.out.size))
 have HP:=Lh (HR2.out.put h12 h2)
 have HbP:=Lh (((Hb2.out.setCell (p:=⟨w.heap.size+1,0,none⟩) (by first | (simp;done) | (simp;omega) | omega) (.bool n1)).setCell (p:=⟨w.heap.size+1,1,none⟩) (by first | (simp;done) | (simp;omega) | omega) (.slice A1 l1 c1)).setCell (p:=⟨w.heap.size+1,2,none⟩) (by first | (simp;done) | (simp;omega) | omega) (.slice A2 l2 c2))
 have r0:=HR2.out.c0
 have r1:=HR2.out.c1
 have r2:=HR2.out.c2
 have r3:=HR2.out.f0
 have r4:=HR2.out.f1
 have r5:=HR2.out.f2
 clear HR HR1 Hb1 HR2 Hb2 h1 h2 h12 hb2
 go_wp2
 refine bodyPost_ret (v:=.agg #[.bool n1,.slice A1 l1 c1,.slice A2 l2 c2]) (by simp[results,Tryz.results41,go_sem,r0,r1,r2]) rfl ⟨⟨_,_,_,_,_,_,_,rfl,HP.out.hz,HP.out.hq⟩,HbP.out⟩
set_option maxRecDepth 100000 in
set_option maxHeartbeats 1000000 in
theorem rof_any (z:Int) (w:World) (h:I64 z) :
  Calls Tryz.prog 33 #[.int .i64 z] w fun e w'=>RatE z 1 e w'/\Below w.heap.size w w':=by
 have hb0:Below w.heap.size w (w.alloc (rbox false none 0 0 none 0 0)):=(Below.refl _ _).alloc (Nat.le_refl _) _
 have HR:=Lh (RBox.nil w)
 have Hb0:=Lh hb0
 clear hb0
 go_enter Tryz.func33,Tryz.ntmps33
 go_wp2_with fail
 refine (iof_any z _ h).mono ?_
 rintro e w1 ⟨n1,A1,l1,c1,rfl,h1,hb1⟩
 have HR1:=Lh (HR.out.move hb1)
 have Hb1:=Lh (Hb0.out.trans (hb1.mono Hb0.out.size))
 have hsz:=SmI.of64 h
 clear hb1 h
 go_wp2_with fail
 refine (rfrom_any _ _ _ _ _ _ h1.at_ hsz).mono ?_
 rintro e w2 ⟨⟨n2,A2,l2,c2,B2,m2,d2,rfl,h2,h3⟩,hb2⟩
 have HR2:=Lh (HR1.out.move hb2)
 have Hb2:=Lh (Hb1.out.trans (hb2.mono Hb1.out.size))
 have HP:=Lh (HR2.out.put h2 h3)
 have HbP:=Lh (((Hb2.out.setCell (p:=⟨w.heap.size,0,none⟩) (Nat.le_refl _) (.bool n2)).setCell (p:=⟨w.heap.size,1,none⟩) (Nat.le_refl _) (.slice A2 l2 c2)).setCell (p:=⟨w.heap.size,2,none⟩) (Nat.le_refl _) (.slice B2 m2 d2))
 have r0:=HR2.out.c0
 have r1:=HR2.out.c1
 have r2:=HR2.out.c2
 have r3:=HR2.out.f0
 have r4:=HR2.out.f1
 have r5:=HR2.out.f2
 clear HR HR1 Hb1 HR2 Hb2 h1 h2 h3 hb2 hsz
 go_wp2
 refine bodyPost_ret (v:=.agg #[.bool n2,.slice A2 l2 c2,.slice B2 m2 d2]) (by simp[results,Tryz.results33,go_sem,r0,r1,r2]) rfl ⟨⟨_,_,_,_,_,_,_,rfl,HP.out.hz,HP.out.hq⟩,HbP.out⟩
end Go.Proofs.YtphmkdmflopcdaaGreat
