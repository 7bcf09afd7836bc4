/- The walk of cylinderref15.Less. -/
import Derived.Test.YtphmkdmflopcdaaGreatLin
import Derived.Test.YtphmkdmflopcdaaGreatStg
namespace Go.Proofs.YtphmkdmflopcdaaGreat
open Go.RowKit
set_option maxRecDepth 100000 in
set_option maxHeartbeats 4000000 in
theorem ratneg_any (n:Bool) (A:Option Addr) (l c:Nat) (B:Option Addr) (m d q:Nat) (z:Int) (w:World) (hz:IntN w n A l c z) (hq:NatN w B m d q) (hu:Fit z) (hv:Fit (q:Int)) (h0:0<q) :
  Calls Tryz.prog 43 #[.agg #[.bool n,.slice A l c,.slice B m d]] w fun e w'=>RatE ((-z).tdiv (Nat.gcd z.natAbs q)) (q / Nat.gcd z.natAbs q) e w'/\Below w.heap.size w w':=by
 have hbx:Below w.heap.size w (w.alloc (rbox n A l c B m d)):=(Below.refl _ _).alloc (Nat.le_refl _) _
 have hby:Below (w.alloc (rbox n A l c B m d)).heap.size (w.alloc (rbox n A l c B m d)) ((w.alloc (rbox n A l c B m d)).alloc (rbox false none 0 0 none 0 0)):=(Below.refl _ _).alloc (Nat.le_refl _) _
 have hb0:=hbx.trans (hby.mono hbx.size)
 have hz1:=hz.below hb0
 have hq1:=hq.below hb0
 have hr:=RBox.nil (w.alloc (rbox n A l c B m d))
 simp only[World.size_alloc] at hr
 have HR:=Lh hr
 have Hb0:=Lh hb0
 have hvq:SmI (q:Int):=hv.sm
 have hsq:Sm q:=by have h:=hvq;unfold SmI at h;rw[Int.natAbs_natCast] at h;exact h
 have hsz:SmI z:=hu.sm
 have hua:SmI (-z):=by unfold SmI;rw[Int.natAbs_neg];exact hsz
 clear hz hq hbx hby hb0 hr
 go_enter Tryz.func43,Tryz.ntmps43
 go_wp2_with fail
 refine (parts_any _ _ _ _ _ _ _ _ _ hq1.at_ hsq (by omega)).mono ?_
 rintro e w1 ⟨rfl,hb1⟩
 have hbi:Below w1.heap.size w1 (w1.alloc (ibox n A l c)):=(Below.refl _ _).alloc (Nat.le_refl _) _
 have hbj:Below (w1.alloc (ibox n A l c)).heap.size (w1.alloc (ibox n A l c)) ((w1.alloc (ibox n A l c)).alloc (ibox false B m d)):=(Below.refl _ _).alloc (Nat.le_refl _) _
 have hN1:=(IBox.make (hz1.below hb1)).move hbj
 have hD1:=IBox.make (W:=w1.alloc (ibox n A l c)) (n:=false) (A:=B) (l:=m) (c:=d) (z:=(q:Int)) ⟨by rw[Int.natAbs_natCast];exact (hq1.below hb1).below hbi,by simp⟩
 simp only[World.size_alloc] at hD1
 have hR1:=((HR.out.move hb1).move hbi).move hbj
 have hbk:=Hb0.out.trans ((hb1.trans ((hbi.trans (hbj.mono hbi.size)).mono hb1.size)).mono Hb0.out.size)
 have HN1:=Lh hN1
 have HD1:=Lh hD1
 have HR1:=Lh hR1
 have Hb1:=Lh hbk
 have hsa:=(HR.out.move hb1).lt
 have ne1:w1.heap.size≠w.heap.size+1:=by omega
 have ne2:w.heap.size+1≠w1.heap.size:=by omega
 have ne3:w1.heap.size≠w.heap.size:=by omega
 have ne4:w.heap.size≠w1.heap.size:=by omega
 clear hz1 hq1 hb1 hbi hbj hN1 hD1 hR1 hbk HR Hb0
 have e0:=HN1.out.c0
 have e1:=HN1.out.c1
 have e2:=HD1.out.c0
 have e3:=HD1.out.c1
 go_wp2_with fail
 go_region_held3 (fun w'=>w'.cell? ⟨w1.heap.size,0,none⟩=some (.bool n)/\w'.cell? ⟨w1.heap.size,1,none⟩=some (.slice A l c)/\w'.cell? ⟨w1.heap.size+1,0,none⟩=some (.bool false)/\w'.cell? ⟨w1.heap.size+1,1,none⟩=some (.slice B m d)) (go_keep) (first
   | (go_at_call 46;go_must (refine (ineg_any _ _ _ _ _ _ ?_ hsz).mono ?_;(exact HN1.out.hz.at_.below Bel.go);rintro e w2 ⟨n2,A2,l2,c2,rfl,h2,hb2⟩;have HN2:=Lh (HN1.out.move (Below.trans Bel.go (hb2.mono (by simp<;>omega))));have HD2:=Lh (HD1.out.move (Below.trans Bel.go (hb2.mono (by simp<;>omega))));have HR2:=Lh (HR1.out.move (Below.trans Bel.go (hb2.mono (by simp<;>omega))));have Hb2:=Lh (Hb1.out.trans ((Below.trans Bel.go (hb2.mono (by simp<;>omega))).mono Hb1.out.size));have x0:=HN2.out.c0;have x1:=HN2.out.c1;have x2:=HD2.out.c0;have x3:=HD2.out.c1))
   | (go_at_call 29;go_must (refine (reduce_all _ _ _ _ _ _ _ _ _ _ _ ?_ ?_ hua hvq h0).mono ?_;(exact h2.below Bel.go);(exact HD2.out.hz.below Bel.go);rw[Int.natAbs_neg];rintro e w3 ⟨⟨n3,A3,l3,c3,B3,m3,d3,rfl,h3,h4⟩,hb3⟩;have HN3:=Lh (HN2.out.move (Below.trans Bel.go (hb3.mono (by simp<;>omega))));have HD3:=Lh (HD2.out.move (Below.trans Bel.go (hb3.mono (by simp<;>omega))));have HR3:=Lh (HR2.out.move (Below.trans Bel.go (hb3.mono (by simp<;>omega))));have Hb3:=Lh (Hb2.out.trans ((Below.trans Bel.go (hb3.mono (by simp<;>omega))).mono Hb2.out.size));have y0:=HN3.out.c0;have y1:=HN3.out.c1;have y2:=HD3.out.c0;have y3:=HD3.out.c1;have r0:=HR3.out.c0;have r1:=HR3.out.c1;have r2:=HR3.out.c2;have r3:=HR3.out.f0;have r4:=HR3.out.f1;have r5:=HR3.out.f2)))
 have HP:=Lh (HR3.out.put h3 h4)
 have HbP:=Lh (((Hb3.out.setCell (p:=⟨w.heap.size+1,0,none⟩) (by first | (simp;done) | (simp;omega) | omega) (.bool n3)).setCell (p:=⟨w.heap.size+1,1,none⟩) (by first | (simp;done) | (simp;omega) | omega) (.slice A3 l3 c3)).setCell (p:=⟨w.heap.size+1,2,none⟩) (by first | (simp;done) | (simp;omega) | omega) (.slice B3 m3 d3))
 clear HN1 HD1 HR1 Hb1 HN2 HD2 HR2 Hb2 HN3 HD3 HR3 Hb3 h2 h3 h4 hb2 hb3 e0 e1 e2 e3 x0 x1 x2 x3 y0 y1 y2 y3
 go_wp2
 refine bodyPost_ret (v:=.agg #[.bool n3,.slice A3 l3 c3,.slice B3 m3 d3]) (by simp[results,Tryz.results43,go_sem,r0,r1,r2]) rfl ⟨⟨_,_,_,_,_,_,_,rfl,HP.out.hz,HP.out.hq⟩,HbP.out⟩
end Go.Proofs.YtphmkdmflopcdaaGreat
namespace Go.Proofs.YtphmkdmflopcdaaGreat
open Go.RowKit
def Two (W:World) (z z':Int) (s s':Value) (wx:World):Prop:=∃ g n A l c g' n' A' l' c',s=.pointer (some ⟨g,0,none⟩)/\s'=.pointer (some ⟨g',0,none⟩)/\g≠g'/\W.heap.size<=g/\W.heap.size<=g'/\IBox wx g n A l c z/\IBox wx g' n' A' l' c' z'/\Below W.heap.size W wx
structure Nbx (W:World) (g:Nat):Prop where
 c0:W.cell? ⟨g,0,none⟩=some (.bool false)
 c1:W.cell? ⟨g,1,none⟩=some (.slice none 0 0)
 f0:W.frozen? ⟨g,0,none⟩=false
 f1:W.frozen? ⟨g,1,none⟩=false
 lt:g<W.heap.size
theorem Nbx.box {W:World} {g:Nat} (h:Nbx W g):IBox W g false none 0 0 0:=⟨h.c0,h.c1,h.f0,h.f1,h.lt,⟨NatN.zero _ _ _,by simp⟩⟩
section
variable {W w9:World} {n n':Bool} {A A':Option Addr} {l c l' c' g g':Nat} {z z':Int}
theorem size_put2 (W:World) (g:Nat) (u v:Value):((W.setCell ⟨g,0,none⟩ u).setCell ⟨g,1,none⟩ v).heap.size=W.heap.size:=by simp[World.setCell]
theorem below_put2 (hb:Below W.heap.size W w9) (hg:W.heap.size<=g) (u v:Value):Below W.heap.size W ((w9.setCell ⟨g,0,none⟩ u).setCell ⟨g,1,none⟩ v):=(hb.setCell (p:=⟨g,0,none⟩) hg _).setCell (p:=⟨g,1,none⟩) hg _
theorem below_new (w:World) (o:Obj):Below w.heap.size w (w.alloc o):=(Below.refl _ _).alloc (Nat.le_refl _) _
theorem two_a (H:IntN w9 n A l c z) (H':IntN w9 n' A' l' c' z') (hb:Below W.heap.size W w9):Two W z z' (.pointer (some ⟨w9.heap.size,0,none⟩)) (.pointer (some ⟨w9.heap.size+1,0,none⟩)) ((w9.alloc (ibox n A l c)).alloc (ibox n' A' l' c')):=by
 have h2:=IBox.make (H'.below (below_new w9 (ibox n A l c)))
 rw[World.size_alloc] at h2
 exact ⟨_,_,_,_,_,_,_,_,_,_,rfl,rfl,by omega,hb.size,Nat.le_succ_of_le hb.size,(IBox.make H).move (below_new _ _),h2,(hb.alloc hb.size _).alloc (by have:=hb.size;simp only[World.size_alloc];omega) _⟩
theorem two_b (H:IntN w9 n A l c z) (H':IntN w9 n' A' l' c' z') (hb:Below W.heap.size W w9):Two W z z' (.pointer (some ⟨w9.heap.size+1,0,none⟩)) (.pointer (some ⟨w9.heap.size,0,none⟩)) ((w9.alloc (ibox n' A' l' c')).alloc (ibox n A l c)):=by
 obtain ⟨g,n,A,l,c,g',n',A',l',c',e,e',h1,h2,h3,h4,h5,h6⟩:=two_a H' H hb
 exact ⟨g',n',A',l',c',g,n,A,l,c,e',e,Ne.symm h1,h3,h2,h5,h4,h6⟩
theorem two_c (h:Nbx w9 g) (H:IntN w9 n A l c z) (H':IntN w9 n' A' l' c' z') (hb:Below W.heap.size W w9) (hg:W.heap.size<=g):Two W z z' (.pointer (some ⟨g,0,none⟩)) (.pointer (some ⟨w9.heap.size,0,none⟩)) (((w9.setCell ⟨g,0,none⟩ (.bool n)).setCell ⟨g,1,none⟩ (.slice A l c)).alloc (ibox n' A' l' c')):=by
 have h2:=IBox.make (H'.ret (g:=g) (.bool n) (.slice A l c) h.c0 h.c1)
 rw[size_put2] at h2
 have:=h.lt
 exact ⟨_,_,_,_,_,_,_,_,_,_,rfl,rfl,by omega,hg,hb.size,(h.box.put H).move (below_new _ _),h2,(below_put2 hb hg _ _).alloc (by rw[size_put2];exact hb.size) _⟩
theorem two_e (h:Nbx w9 g') (H:IntN w9 n A l c z) (H':IntN w9 n' A' l' c' z') (hb:Below W.heap.size W w9) (hg:W.heap.size<=g'):Two W z z' (.pointer (some ⟨w9.heap.size,0,none⟩)) (.pointer (some ⟨g',0,none⟩)) (((w9.setCell ⟨g',0,none⟩ (.bool n')).setCell ⟨g',1,none⟩ (.slice A' l' c')).alloc (ibox n A l c)):=by
 obtain ⟨g,n,A,l,c,g',n',A',l',c',e,e',h1,h2,h3,h4,h5,h6⟩:=two_c h H' H hb hg
 exact ⟨g',n',A',l',c',g,n,A,l,c,e',e,Ne.symm h1,h3,h2,h5,h4,h6⟩
theorem two_d (h:Nbx w9 g) (h':Nbx w9 g') (hne:g≠g') (H:IntN w9 n A l c z) (H':IntN w9 n' A' l' c' z') (hb:Below W.heap.size W w9) (hg:W.heap.size<=g) (hg':W.heap.size<=g'):Two W z z' (.pointer (some ⟨g,0,none⟩)) (.pointer (some ⟨g',0,none⟩)) ((((w9.setCell ⟨g,0,none⟩ (.bool n)).setCell ⟨g,1,none⟩ (.slice A l c)).setCell ⟨g',0,none⟩ (.bool n')).setCell ⟨g',1,none⟩ (.slice A' l' c')):=by
 have h2:=h'.box.far h.box (Ne.symm hne) (.bool n) (.slice A l c)
 exact ⟨_,_,_,_,_,_,_,_,_,_,rfl,rfl,hne,hg,hg',(h.box.put H).far h2 hne _ _,h2.put (H'.ret (g:=g) (.bool n) (.slice A l c) h.c0 h.c1),below_put2 (below_put2 hb hg _ _) hg' _ _⟩
end
set_option maxRecDepth 100000 in
set_option maxHeartbeats 4000000 in
theorem lcm_any (na:Bool) (A:Option Addr) (la ca:Nat) (a:Int) (nb:Bool) (B:Option Addr) (lb cb:Nat) (b:Int) (w:World) (ha:IntN w na A la ca a) (hb:IntN w nb B lb cb b) (ha0:a≠0) (hb0:b≠0) (fa:Fit a) (fb:Fit b) :
  Calls Tryz.prog 80 #[.agg #[.bool na,.slice A la ca],.agg #[.bool nb,.slice B lb cb]] w fun e w'=>∃ n1 A1 l1 c1,e=.returned (.agg #[.bool n1,.slice A1 l1 c1])/\IntN w' n1 A1 l1 c1 ((a.tdiv (Nat.gcd a.natAbs b.natAbs:Nat)*b).natAbs:Nat)/\Below w.heap.size w w':=by
 have hbx:Below w.heap.size w (((w.alloc (ibox na A la ca)).alloc (ibox nb B lb cb)).alloc (ibox false none 0 0)):=below_three w _ _ _ (Nat.le_refl _)
 have HA:=IBox.make ha
 have hy:Below (w.alloc (ibox na A la ca)).heap.size (w.alloc (ibox na A la ca)) (((w.alloc (ibox na A la ca)).alloc (ibox nb B lb cb)).alloc (ibox false none 0 0)):=((Below.refl _ _).alloc (Nat.le_refl _) _).alloc (by simp) _
 have HB:=IBox.make (hb.below ((Below.refl _ _).alloc (Nat.le_refl _) (ibox na A la ca)))
 have hz:Below ((w.alloc (ibox na A la ca)).alloc (ibox nb B lb cb)).heap.size ((w.alloc (ibox na A la ca)).alloc (ibox nb B lb cb)) (((w.alloc (ibox na A la ca)).alloc (ibox nb B lb cb)).alloc (ibox false none 0 0)):=(Below.refl _ _).alloc (Nat.le_refl _) _
 have HC:=IBox.nil ((w.alloc (ibox na A la ca)).alloc (ibox nb B lb cb))
 have HA1:=HA.move hy
 have HB1:=HB.move hz
 simp only[World.size_alloc] at HB1 HC
 have ga:decide (a=0)=false:=decide_eq_false ha0
 have gb:decide (b=0)=false:=decide_eq_false hb0
 have sa:=fa.sm
 have sb:=fb.sm
 obtain ⟨g,hg⟩:∃ g,g=Nat.gcd a.natAbs b.natAbs:=⟨_,rfl⟩
 have g0:(g:Int)≠0:=by
  rw[hg]
  have:=Nat.gcd_pos_of_pos_left b.natAbs (show 0<a.natAbs by omega)
  omega
 have gle:g<=a.natAbs:=by rw[hg];exact Nat.gcd_le_left _ (by omega)
 have fg:Fit (g:Int):=Nat.lt_of_le_of_lt (by rw[Int.natAbs_natCast];exact gle) fa
 rw[<- hg]
 obtain ⟨Q,hQ⟩:∃ Q,Q=a.tdiv (g:Int):=⟨_,rfl⟩
 have fQ:Fit Q:=Nat.lt_of_le_of_lt (by rw[hQ,Int.natAbs_tdiv];exact Nat.div_le_self _ _) fa
 rw[<- hQ]
 have Hg:=Lh hg
 have HQ:=Lh hQ
 have HA2:=Lh HA1
 have HB2:=Lh HB1
 have HC2:=Lh HC
 have Hb:=Lh hbx
 have sg:=fg.sm
 clear hbx HA hy HB hz HC HA1 HB1 hg hQ ha hb gle
 go_enter Tryz.func80,Tryz.ntmps80
 go_wp2_with fail
 refine (dzero_any _ _ _ _ _ _ HA2.out.hz.at_ sa).mono ?_
 rintro e w1 ⟨rfl,hb1⟩
 rw[ga]
 replace HA2:=Lh (HA2.out.move hb1)
 replace HB2:=Lh (HB2.out.move hb1)
 replace HC2:=Lh (HC2.out.move hb1)
 replace Hb:=Lh (Hb.out.trans (hb1.mono Hb.out.size))
 clear hb1 ga
 have x0:=HB2.out.c0
 have x1:=HB2.out.c1
 go_wp2_with fail
 refine (dzero_any _ _ _ _ _ _ HB2.out.hz.at_ sb).mono ?_
 rintro e w2 ⟨rfl,hb1⟩
 rw[gb]
 replace HA2:=Lh (HA2.out.move hb1)
 replace HB2:=Lh (HB2.out.move hb1)
 replace HC2:=Lh (HC2.out.move hb1)
 replace Hb:=Lh (Hb.out.trans (hb1.mono Hb.out.size))
 clear hb1 gb x0 x1
 have x0:=HA2.out.c0
 have x1:=HA2.out.c1
 have y0:=HB2.out.c0
 have y1:=HB2.out.c1
 have ltA:=HA2.out.lt
 have ltB:=HB2.out.lt
 go_wp2_with fail
 obtain ⟨R,hR⟩:∃ R,R=a.tmod (g:Int):=⟨_,rfl⟩
 have HR:=Lh hR
 clear hR
 go_cut [5,6,7] (fun s5 s6 s7 wx=>Two w2 Q R s5 s6 wx)
 case first =>
  have nn1:w2.heap.size≠w.heap.size:=by omega
  have nn2:w2.heap.size≠w.heap.size+1:=by omega
  have nn3:w2.heap.size+1≠w.heap.size:=by omega
  have nn4:w2.heap.size+1≠w.heap.size+1:=by omega
  go_region_held3 (fun w'=>w'.cell? ⟨w.heap.size,0,none⟩=some (.bool na)/\w'.cell? ⟨w.heap.size,1,none⟩=some (.slice A la ca)/\w'.cell? ⟨w.heap.size+1,0,none⟩=some (.bool nb)/\w'.cell? ⟨w.heap.size+1,1,none⟩=some (.slice B lb cb)) (go_keep) (first
   | (go_at_call 60;go_must (refine (gcd_all _ _ _ _ _ _ _ _ _ _ _ ?_ ?_ sa sb).mono ?_;(exact HA2.out.hz.at_.below Bel.go);(exact HB2.out.hz.at_.below Bel.go);rintro e w8 ⟨n8,A8,l8,c8,rfl,h8,hb8⟩;rw[<- Hg.out] at h8;have H8:=Lh h8;have Hb8:Hid (Below w2.heap.size w2 w8):=Lh (Below.trans Bel.go (hb8.mono (by simp<;>omega)));have zy:=hb8.size;(try simp only[World.size_alloc,World.size_drew] at zy);have v8:w8.heap.size≠w.heap.size:=(by omega);have v9:w8.heap.size≠w.heap.size+1:=(by omega);have v10:w8.heap.size+1≠w.heap.size:=(by omega);have v11:w8.heap.size+1≠w.heap.size+1:=(by omega);obtain ⟨hcx,hfx⟩:=bcellS hb8;have v0:w8.cell? ⟨w.heap.size,0,none⟩=some (.bool na):=(hcx _ (by go_simp)).trans (by go_simp);have v1:w8.cell? ⟨w.heap.size,1,none⟩=some (.slice A la ca):=(hcx _ (by go_simp)).trans (by go_simp);have v2:w8.cell? ⟨w.heap.size+1,0,none⟩=some (.bool nb):=(hcx _ (by go_simp)).trans (by go_simp);have v3:w8.cell? ⟨w.heap.size+1,1,none⟩=some (.slice B lb cb):=(hcx _ (by go_simp)).trans (by go_simp);(try (have cpa:World.cell? w8 ⟨w2.heap.size,0,none⟩=some (.bool false):=?_;rotate_left;(focus (refine (hcx _ ?_).trans ?_<;>(go_simp;done)));have cpb:World.cell? w8 ⟨w2.heap.size,1,none⟩=some (.slice none 0 0):=?_;rotate_left;(focus (refine (hcx _ ?_).trans ?_<;>(go_simp;done)));have cpc:World.frozen? w8 ⟨w2.heap.size,0,none⟩=false:=?_;rotate_left;(focus (refine (hfx _ ?_).trans ?_<;>(go_simp;done)));have cpd:World.frozen? w8 ⟨w2.heap.size,1,none⟩=false:=?_;rotate_left;(focus (refine (hfx _ ?_).trans ?_<;>(go_simp;done)));have cpe:w2.heap.size<w8.heap.size:=(by omega);have cpn:=Lh (Nbx.mk cpa cpb cpc cpd cpe)));(try (have cqa:World.cell? w8 ⟨w2.heap.size+1,0,none⟩=some (.bool false):=?_;rotate_left;(focus (refine (hcx _ ?_).trans ?_<;>(go_simp;done)));have cqb:World.cell? w8 ⟨w2.heap.size+1,1,none⟩=some (.slice none 0 0):=?_;rotate_left;(focus (refine (hcx _ ?_).trans ?_<;>(go_simp;done)));have cqc:World.frozen? w8 ⟨w2.heap.size+1,0,none⟩=false:=?_;rotate_left;(focus (refine (hfx _ ?_).trans ?_<;>(go_simp;done)));have cqd:World.frozen? w8 ⟨w2.heap.size+1,1,none⟩=false:=?_;rotate_left;(focus (refine (hfx _ ?_).trans ?_<;>(go_simp;done)));have cqe:w2.heap.size+1<w8.heap.size:=(by omega);have cqn:=Lh (Nbx.mk cqa cqb cqc cqd cqe)));clear h8 hcx hfx hb8))
   | (go_at_call 57;go_must (refine (quo_all _ _ _ _ _ _ _ _ _ _ _ ?_ ?_ sa sg g0).mono ?_;(exact (HA2.out.move Hb8.out).hz.at_.below Bel.go);(exact H8.out.at_.below Bel.go);rintro e w9 ⟨n9,A9,l9,c9,n10,A10,l10,c10,rfl,h9,h10,hb9⟩;rw[<- HQ.out] at h9;rw[<- HR.out] at h10;have H10:=Lh h10;have H9:=Lh h9;have Hb9:Hid (Below w2.heap.size w2 w9):=Lh (Hb8.out.trans ((Below.trans Bel.go (hb9.mono (by simp<;>omega))).mono Hb8.out.size));have zz:=hb9.size;(try simp only[World.size_alloc] at zz);have v18:w9.heap.size≠w.heap.size:=(by omega);have v19:w9.heap.size≠w.heap.size+1:=(by omega);have v20:w9.heap.size+1≠w.heap.size:=(by omega);have v21:w9.heap.size+1≠w.heap.size+1:=(by omega);obtain ⟨hcx,hfx⟩:=bcellS hb9;have u0:w9.cell? ⟨w.heap.size,0,none⟩=some (.bool na):=(hcx _ (by go_simp)).trans (by go_simp);have u1:w9.cell? ⟨w.heap.size,1,none⟩=some (.slice A la ca):=(hcx _ (by go_simp)).trans (by go_simp);have u2:w9.cell? ⟨w.heap.size+1,0,none⟩=some (.bool nb):=(hcx _ (by go_simp)).trans (by go_simp);have u3:w9.cell? ⟨w.heap.size+1,1,none⟩=some (.slice B lb cb):=(hcx _ (by go_simp)).trans (by go_simp);(try (have cra:World.cell? w9 ⟨w2.heap.size,0,none⟩=some (.bool false):=?_;rotate_left;(focus (refine (hcx _ ?_).trans ?_<;>(go_simp;done)));have crb:World.cell? w9 ⟨w2.heap.size,1,none⟩=some (.slice none 0 0):=?_;rotate_left;(focus (refine (hcx _ ?_).trans ?_<;>(go_simp;done)));have crc:World.frozen? w9 ⟨w2.heap.size,0,none⟩=false:=?_;rotate_left;(focus (refine (hfx _ ?_).trans ?_<;>(go_simp;done)));have crd:World.frozen? w9 ⟨w2.heap.size,1,none⟩=false:=?_;rotate_left;(focus (refine (hfx _ ?_).trans ?_<;>(go_simp;done)));have cre:w2.heap.size<w9.heap.size:=(by omega);have crn:=Lh (Nbx.mk cra crb crc crd cre)));(try (have csa:World.cell? w9 ⟨w2.heap.size+1,0,none⟩=some (.bool false):=?_;rotate_left;(focus (refine (hcx _ ?_).trans ?_<;>(go_simp;done)));have csb:World.cell? w9 ⟨w2.heap.size+1,1,none⟩=some (.slice none 0 0):=?_;rotate_left;(focus (refine (hcx _ ?_).trans ?_<;>(go_simp;done)));have csc:World.frozen? w9 ⟨w2.heap.size+1,0,none⟩=false:=?_;rotate_left;(focus (refine (hfx _ ?_).trans ?_<;>(go_simp;done)));have csd:World.frozen? w9 ⟨w2.heap.size+1,1,none⟩=false:=?_;rotate_left;(focus (refine (hfx _ ?_).trans ?_<;>(go_simp;done)));have cse:w2.heap.size+1<w9.heap.size:=(by omega);have csn:=Lh (Nbx.mk csa csb csc csd cse)));(try (have cta:World.cell? w9 ⟨w8.heap.size,0,none⟩=some (.bool false):=?_;rotate_left;(focus (refine (hcx _ ?_).trans ?_<;>(go_simp;done)));have ctb:World.cell? w9 ⟨w8.heap.size,1,none⟩=some (.slice none 0 0):=?_;rotate_left;(focus (refine (hcx _ ?_).trans ?_<;>(go_simp;done)));have ctc:World.frozen? w9 ⟨w8.heap.size,0,none⟩=false:=?_;rotate_left;(focus (refine (hfx _ ?_).trans ?_<;>(go_simp;done)));have ctd:World.frozen? w9 ⟨w8.heap.size,1,none⟩=false:=?_;rotate_left;(focus (refine (hfx _ ?_).trans ?_<;>(go_simp;done)));have cte:w8.heap.size<w9.heap.size:=(by omega);have ctn:=Lh (Nbx.mk cta ctb ctc ctd cte)));(try (have cua:World.cell? w9 ⟨w8.heap.size+1,0,none⟩=some (.bool false):=?_;rotate_left;(focus (refine (hcx _ ?_).trans ?_<;>(go_simp;done)));have cub:World.cell? w9 ⟨w8.heap.size+1,1,none⟩=some (.slice none 0 0):=?_;rotate_left;(focus (refine (hcx _ ?_).trans ?_<;>(go_simp;done)));have cuc:World.frozen? w9 ⟨w8.heap.size+1,0,none⟩=false:=?_;rotate_left;(focus (refine (hfx _ ?_).trans ?_<;>(go_simp;done)));have cud:World.frozen? w9 ⟨w8.heap.size+1,1,none⟩=false:=?_;rotate_left;(focus (refine (hfx _ ?_).trans ?_<;>(go_simp;done)));have cue:w8.heap.size+1<w9.heap.size:=(by omega);have cun:=Lh (Nbx.mk cua cub cuc cud cue)));clear h9 h10 hcx hfx hb9)))
  all_goals go_wp2_with fail
  all_goals go_meet
  all_goals (rename_i hHeld;clear hHeld HA2 HB2 HC2 Hb H8 Hb8)
  all_goals (first | exact two_a H9.out H10.out Hb9.out | exact two_b H9.out H10.out Hb9.out | (refine two_c ?_ H9.out H10.out Hb9.out (by omega);exact Hid.out (by assumption)) | (refine two_e ?_ H9.out H10.out Hb9.out (by omega);exact Hid.out (by assumption)) | (refine two_d ?_ ?_ (by omega) H9.out H10.out Hb9.out (by omega) (by omega)<;>exact Hid.out (by assumption)))
 case rest =>
  obtain ⟨g5,n5,A5,l5,c5,g6,n6,A6,l6,c6,rfl,rfl,hg56,hg5,hg6,h5,h6,hb5⟩:=hcut
  have HA5:=Lh (HA2.out.move hb5)
  have HB5:=Lh (HB2.out.move hb5)
  have HC5:=Lh (HC2.out.move hb5)
  have Hb5:=Lh (Hb.out.trans (hb5.mono Hb.out.size))
  have H5:=Lh h5
  clear h5 hb5 HA2 HB2 HC2 Hb x0 x1 y0 y1
  have x0:=H5.out.c0
  have x1:=H5.out.c1
  have y0:=HB5.out.c0
  have y1:=HB5.out.c1
  go_wp2_with fail
  refine (imul_any _ _ _ _ _ _ _ _ _ _ _ H5.out.hz.at_ HB5.out.hz.at_ fQ.sm sb (fQ.mulok _)).mono ?_
  rintro e w8 ⟨n8,A8,l8,c8,rfl,h8,hb8⟩
  have HC8:=Lh (HC5.out.move hb8)
  have Hb8:=Lh (Hb5.out.trans (hb8.mono Hb5.out.size))
  have H8:=Lh h8
  clear h8 hb8 HC5 Hb5 HA5 H5
  go_wp2_with fail
  refine (iabs_any _ _ _ _ _ _ H8.out.at_ (fQ.sm2 fb)).mono ?_
  rintro e w9 ⟨n9,A9,l9,c9,rfl,h9,hb9⟩
  have hc9:=HC8.out.move hb9
  have hb10:=Hb8.out.trans (hb9.mono Hb8.out.size)
  have HP:=Lh (hc9.put h9)
  have Hb10:=Lh ((hb10.setCell (p:=⟨w.heap.size+1+1,0,none⟩) (by first | (simp;done) | (simp;omega) | omega) (.bool n9)).setCell (p:=⟨w.heap.size+1+1,1,none⟩) (by first | (simp;done) | (simp;omega) | omega) (.slice A9 l9 c9))
  have r0:=hc9.c0
  have r1:=hc9.c1
  have r3:=hc9.f0
  have r4:=hc9.f1
  clear H8 HC8 Hb8 h9 hb9 hc9 hb10 x0 x1 y0 y1
  go_wp2
  refine bodyPost_ret (v:=.agg #[.bool n9,.slice A9 l9 c9]) (by simp[results,Tryz.results80,go_sem,r0,r1]) rfl ⟨_,_,_,_,rfl,HP.out.hz,Hb10.out⟩
end Go.Proofs.YtphmkdmflopcdaaGreat
namespace Go.Proofs.YtphmkdmflopcdaaGreat
open Go.RowKit
set_option maxRecDepth 100000 in
set_option maxHeartbeats 1000000 in
theorem less15_any (p d p' d':Int) (w:World) (hp:I8 p) (hd:I8 d) (hp':I8 p') (hd':I8 d') :
  Calls Tryz.prog 9 #[.agg #[.int .i8 p,.int .i8 d],.agg #[.int .i8 p',.int .i8 d']] w fun e w'=>e=.returned (.bool (decide (frn p d*frd d'<frn p' d'*frd d)))/\Below w.heap.size w w':=by
 have o1:=below_new w (.cells #[.int .i8 p,.int .i8 d] 24)
 have o2:=below_new (w.alloc (.cells #[.int .i8 p,.int .i8 d] 24)) (.cells #[.int .i8 p',.int .i8 d'] 24)
 have Hb:=Lh (o1.trans (o2.mono o1.size))
 obtain ⟨a1,a2,a3⟩:=fr_bd hp hd
 obtain ⟨b1,b2,b3⟩:=fr_bd hp' hd'
 obtain ⟨x,hx⟩:∃ x,x=frn p d:=⟨_,rfl⟩
 obtain ⟨y,hy⟩:∃ y,y=frd d:=⟨_,rfl⟩
 obtain ⟨x',hx'⟩:∃ x,x=frn p' d':=⟨_,rfl⟩
 obtain ⟨y',hy'⟩:∃ y,y=frd d':=⟨_,rfl⟩
 rw[<- hx,<- hy,<- hx',<- hy']
 rw[<- hx] at a1
 rw[<- hy] at a2 a3
 rw[<- hx'] at b1
 rw[<- hy'] at b2 b3
 have m1:(x*y').natAbs<=128*128:=by rw[Int.natAbs_mul];exact Nat.mul_le_mul a1 (by omega)
 have m2:(x'*y).natAbs<=128*128:=by rw[Int.natAbs_mul];exact Nat.mul_le_mul b1 (by omega)
 have w1:IntKind.i64.wrap (x*y')=x*y':=IntWalk.i64_in _ (by omega)
 have w2:IntKind.i64.wrap (x'*y)=x'*y:=IntWalk.i64_in _ (by omega)
 have X:=Lh hx
 have Y:=Lh hy
 have X':=Lh hx'
 have Y':=Lh hy'
 clear hx hy hx' hy' o1 o2 a1 a2 a3 b1 b2 b3 m1 m2
 go_enter Tryz.func9,Tryz.ntmps9
 go_wp2_with fail
 refine (frac_any _ _ _ hp hd).mono ?_
 rintro e wa ⟨rfl,hba⟩
 rw[<- X.out,<- Y.out]
 obtain ⟨hcx,_⟩:=bcellS hba
 have k0:wa.cell? ⟨w.heap.size+1,0,none⟩=some (.int .i8 p'):=(hcx _ (by go_simp)).trans (by go_simp)
 have k1:wa.cell? ⟨w.heap.size+1,1,none⟩=some (.int .i8 d'):=(hcx _ (by go_simp)).trans (by go_simp)
 replace Hb:=Lh (Hb.out.trans (hba.mono Hb.out.size))
 clear hcx hba
 go_wp2_with fail
 refine (frac_any _ _ _ hp' hd').mono ?_
 rintro e wb ⟨rfl,hbb⟩
 rw[<- X'.out,<- Y'.out]
 replace Hb:=Lh (Hb.out.trans (hbb.mono Hb.out.size))
 clear hbb k0 k1
 go_wp2
 go_ret
 exact ⟨rfl,Hb.out⟩
end Go.Proofs.YtphmkdmflopcdaaGreat
