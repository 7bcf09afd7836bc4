/- The walks of sturm.Signs and sturm.Below at polynomials that are not too large. -/
import Derived.Test.YtbfddopopajgaabGreatAdp
import Derived.Test.YtbfddopopajgaabGreatExq
namespace Go.Proofs.YtbfddopopajgaabGreat
open Go.RowKit
theorem poly_two {w:World} {n1 n2:Bool} {A1 A2:Option Addr} {l1 c1 l2 c2:Nat} {z1 z2:Int} (h1:IntN w n1 A1 l1 c1 z1) (h2:IntN w n2 A2 l2 c2 z2) (t:TypeId):PolyN (w.alloc (.cells #[.bool n1,.slice A1 l1 c1,.bool n2,.slice A2 l2 c2] t)) (some ⟨w.heap.size,0,none⟩) 2 2 [z1,z2]:=by
 have hb:Below w.heap.size w (w.alloc (.cells #[.bool n1,.slice A1 l1 c1,.bool n2,.slice A2 l2 c2] t)):=(Below.refl _ _).alloc (Nat.le_refl _) _
 refine ⟨rfl,Nat.le_refl _,.inr ⟨w.heap.size,0,rfl,by simp,fun j hj=>?_⟩⟩
 match j,hj with
 | 0,_=>exact ⟨n1,A1,l1,c1,by simp,by simp,h1.below hb⟩
 | 1,_=>exact ⟨n2,A2,l2,c2,by simp,by simp,h2.below hb⟩
 | j+2,hj=>exact absurd hj (by omega)
set_option maxRecDepth 100000 in
set_option maxHeartbeats 4000000 in
theorem wroot_any (A:Option Addr) (len cap:Nat) (p:List Int) (k:Nat) (n:Bool) (N:Option Addr) (nl nc:Nat) (B:Option Addr) (m d q:Nat) (z:Int) (w:World) (h:PolyN w A len cap p) (hz:IntN w n N nl nc z) (hq:NatN w B m d q) (ha:AtOK z q) (hp:PoOK z q p) (hs:SqF p k) (hk:k≤80) (z8:z.natAbs≤ZB) (q8:q≤ZB) :
  Calls Tryz.prog 47 #[.slice A len cap,.agg #[.bool n,.slice N nl nc,.slice B m d]] w fun e w'=>∃ A1 l1 c1,e=.returned (.slice A1 l1 c1)∧PolyN w' A1 l1 c1 (wrt p z q)∧Below w.heap.size w w':=by
 by_cases h0:sat z q p=0
 ·have hw:=wr_facts hs hk ha.pos z8 q8
  have ok:=hw.ok h0
  have ew:Hid (pexq p [-(rz z q),(rq z q:Int)]=wrt p z q):=Lib.hid (by unfold wrt;rw [if_pos h0])
  obtain ⟨a1,a2,a3,a4,a5⟩:=rz_facts ha.pos z8 q8
  have o1:=below_new w (rbox n N nl nc B m d)
  have R1:=Lib.hid (RBox.make hz hq)
  have HP:=Lib.hid (h.below ikN o1)
  have Hb:=Lib.hid o1
  have HS:=Lib.hid h0
  have x0:=R1.out.c0
  have x1:=R1.out.c1
  have x2:=R1.out.c2
  have hlen:len≤1000000:=by rw [← h.length];exact hp.len
  have sp:SmP p:=(hs.fit (by omega)).smp
  obtain ⟨u,hu⟩:∃ u,u=rz z q:=⟨_,rfl⟩
  obtain ⟨v,hv⟩:∃ v,v=rq z q:=⟨_,rfl⟩
  rw [← hu,← hv] at ok ew
  rw [← hv] at a1 a4
  rw [← hu] at a3
  have HU:=Lib.hid hu
  have HV:=Lib.hid hv
  have H0:=Lib.hid h
  clear o1 hz hq h h0 hw hu hv a2 a5
  have fL:FitP [-u,(v:Int)]:=fun j=>by
   match j with
   | 0=>exact zb_fit (by show (-u).natAbs≤_;omega)
   | 1=>exact zb_fit (by show ((v:Nat):Int).natAbs≤_;omega)
   | j+2=>rw [getD_out [-u,(v:Int)] (by show 2≤j+2;omega)];exact fit_lt2 (by decide)
  have h1:1≤plen [-u,(v:Int)]:=by rw [lin2_plen a1];omega
  go_enter Tryz.func47,Tryz.ntmps47
  go_wp2_with fail
  refine (signat_any ikN _ _ _ p _ _ _ _ _ _ _ _ _ _ HP.out hp.fit hlen R1.out.hz R1.out.hq ha.u ha.v ha.pos hp.ok ha.fz ha.fq).mono ?_
  rintro e w1 ⟨he,hb1⟩
  have he2:e=.returned (.int .i64 0):=by rw [← HS.out];exact he
  subst he2
  replace HP:=Lib.hid (HP.out.below ikN hb1)
  replace R1:=Lib.hid (R1.out.move hb1)
  replace Hb:=Lib.hid (Hb.out.trans (hb1.mono Hb.out.size))
  clear he hb1 x0 x1 x2
  have x0:=R1.out.c0
  have x1:=R1.out.c1
  have x2:=R1.out.c2
  go_wp2_with fail
  refine (rnormal_any _ _ _ _ _ _ _ _ _ _ R1.out.hz R1.out.hq ha.u ha.v ha.pos).mono ?_
  rintro e w2 ⟨⟨n3,A3,l3,c3,B3,m3,d3,rfl,h3,h4⟩,hb2⟩
  replace h3:IntN w2 n3 A3 l3 c3 u:=by rw [HU.out];exact h3
  replace h4:NatN w2 B3 m3 d3 v:=by rw [HV.out];exact h4
  replace HP:=Lib.hid (HP.out.below ikN hb2)
  replace R1:=Lib.hid (R1.out.move hb2)
  replace Hb:=Lib.hid (Hb.out.trans (hb2.mono Hb.out.size))
  clear hb2 x0 x1 x2
  have x0:=R1.out.c0
  have x1:=R1.out.c1
  have x2:=R1.out.c2
  have x3:=R1.out.f0
  have x4:=R1.out.f1
  have x5:=R1.out.f2
  have R2:=R1.out.put h3 h4
  unfold put3 at R2
  have Hbp:=Lib.hid (((Hb.out.setCell (p:=⟨w.heap.size,0,none⟩) (by first | (simp;done) | (simp;omega) | omega) (.bool n3)).setCell (p:=⟨w.heap.size,1,none⟩) (by first | (simp;done) | (simp;omega) | omega) (.slice A3 l3 c3)).setCell (p:=⟨w.heap.size,2,none⟩) (by first | (simp;done) | (simp;omega) | omega) (.slice B3 m3 d3))
  obtain ⟨wq,hwq⟩:∃ wq,wq=((w2.setCell ⟨w.heap.size,0,none⟩ (.bool n3)).setCell ⟨w.heap.size,1,none⟩ (.slice A3 l3 c3)).setCell ⟨w.heap.size,2,none⟩ (.slice B3 m3 d3):=⟨_,rfl⟩
  rw [← hwq] at R2 Hbp
  have HR:=Lib.hid R2
  replace HP:=Lib.hid (H0.out.below ikN Hbp.out)
  clear h3 h4 R1 R2 Hb H0
  go_wp2_with fail
  rw [← hwq]
  clear hwq x0 x1 x2 x3 x4 x5
  have x0:=HR.out.c0
  have x1:=HR.out.c1
  have x2:=HR.out.c2
  refine wp_region_held_drew (S:=fun w'=>w'.cell? ⟨w.heap.size,0,none⟩=some (.bool n3)∧w'.cell? ⟨w.heap.size,1,none⟩=some (.slice A3 l3 c3)∧w'.cell? ⟨w.heap.size,2,none⟩=some (.slice B3 m3 d3)) (by kernel_rfl) (by (try dsimp only);go_keep) (fun hHeld=>?_)
  (refine tk (i:=0) (v:=?_) rfl rfl (Or.inl ⟨by rfl,?_⟩) ?_;rotate_left;(focus (intro w hSw;(try dsimp only at hSw);go_simp;(try with_reducible rfl)));(simp only [put_lit,List.set]))
  (refine tk (i:=1) (v:=?_) rfl rfl (Or.inl ⟨by rfl,?_⟩) ?_;rotate_left;(focus (intro w hSw;(try dsimp only at hSw);go_simp;(try with_reducible rfl)));(simp only [put_lit,List.set]))
  (refine tk (i:=2) (v:=?_) rfl rfl (Or.inl ⟨by rfl,?_⟩) ?_;rotate_left;(focus (intro w hSw;(try dsimp only at hSw);go_simp;(try with_reducible rfl)));(simp only [put_lit,List.set]))
  (refine tk (i:=4) (v:=?_) rfl rfl (Or.inl ⟨by rfl,?_⟩) ?_;rotate_left;(focus (intro w hSw;(try dsimp only at hSw);go_simp;(try with_reducible rfl)));(simp only [put_lit,List.set]))
  (refine tk (i:=5) (v:=?_) rfl rfl (Or.inl ⟨by rfl,?_⟩) ?_;rotate_left;(focus (intro w hSw;(try dsimp only at hSw);go_simp;(try with_reducible rfl)));(simp only [put_lit,List.set]))
  (refine tk (i:=6) (v:=?_) rfl rfl (Or.inl ⟨by rfl,?_⟩) ?_;rotate_left;(focus (intro w hSw;(try dsimp only at hSw);go_simp;(try with_reducible rfl)));(simp only [put_lit,List.set]))
  refine wpAnyH_ready (rs:=[3]) (by kernel_rfl) (by simp) ?_
  refine AllReadyH.cons rfl (fun K hK=>?_) AllReadyH.nil;go_simp
  refine (ineg_any _ _ _ _ u _ (HR.out.hz.below Bel.go).at_ (zb_fit a3).sm).mono ?_
  rintro e w3 ⟨n5,A5,l5,c5,rfl,h5,hb3⟩
  obtain ⟨hcx,hfx⟩:=bcellS hb3
  have Hb4:=Lib.hid (show Below wq.heap.size wq w3 from Below.trans Bel.go (hb3.mono (by simp<;>omega)))
  have H5:=Lib.hid h5
  refine hK.out _ _ ?_ (fun _=>?_)
  ·((try dsimp only);repeat' apply And.intro)<;>(rw [hcx _ (by go_simp)];go_simp)
  clear hHeld hK K hcx hfx;rename_i hHeld
  clear hb3 h5
  refine wpAnyH_ready (rs:=[7]) (by kernel_rfl) (by simp) ?_
  refine AllReadyH.cons rfl (fun K hK=>?_) AllReadyH.nil;go_simp
  have hba:Below w3.heap.size w3 (w3.alloc (Obj.cells #[Value.bool n5,Value.slice A5 l5 c5,Value.bool false,Value.slice B3 m3 d3] 30)):=below_new _ _
  obtain ⟨hcx,hfx⟩:=bcellS hba
  have hq3:=HR.out.hq.below Hb4.out
  have hqi:IntN w3 false B3 m3 d3 (v:Int):=⟨by rw [Int.natAbs_natCast];exact hq3,by simp⟩
  have H2:=Lib.hid (poly_two H5.out hqi 30)
  have Hb5:=Lib.hid (Hb4.out.trans (hba.mono Hb4.out.size))
  refine hK.out _ _ ?_ (fun _=>?_)
  ·((try dsimp only);repeat' apply And.intro)<;>(rw [hcx _ (by go_simp)];go_simp)
  clear hHeld hK K hcx hfx;rename_i hHeld
  clear hba hq3 hqi H5 Hb4
  refine wpAnyH_ready (rs:=[8]) (by kernel_rfl) (by simp) ?_
  refine AllReadyH.cons rfl (fun K hK=>?_) AllReadyH.nil;go_simp
  refine (exact_any ikN ikN _ _ _ p _ _ _ [-u,(v:Int)] 1000000000 1000000000 _ (HP.out.below ikN Hb5.out) H2.out sp (FitP.dl fL) h1 hlen (by omega) (by omega) (by omega) ok).mono ?_
  rintro e w5 ⟨A6,l6,c6,rfl,h6,hb6⟩
  rw [ew.out] at h6
  obtain ⟨hcx,hfx⟩:=bcellS hb6
  have H6:=Lib.hid h6
  have Hb6:=Lib.hid (Hbp.out.trans ((Hb5.out.trans (hb6.mono Hb5.out.size)).mono Hbp.out.size))
  refine hK.out _ _ ?_ (fun _=>?_)
  ·((try dsimp only);repeat' apply And.intro)<;>(rw [hcx _ (by go_simp)];go_simp)
  clear hHeld hK K hcx hfx;rename_i hHeld
  clear hb6 h6 H2 HP HR Hbp Hb5
  (refine tk (i:=9) (v:=?_) rfl rfl (Or.inl ⟨by rfl,?_⟩) ?_;rotate_left;(focus (intro w hSw;(try dsimp only at hSw);go_simp;(try with_reducible rfl)));(simp only [put_lit,List.set]))
  (refine tk (i:=10) (v:=?_) rfl rfl (Or.inl ⟨by rfl,?_⟩) ?_;rotate_left;(focus (intro w hSw;(try dsimp only at hSw);go_simp;(try with_reducible rfl)));(simp only [put_lit,List.set]))
  (refine tk (i:=11) (v:=?_) rfl rfl (Or.inl ⟨by rfl,?_⟩) ?_;rotate_left;(focus (intro w hSw;(try dsimp only at hSw);go_simp;(try with_reducible rfl)));(simp only [put_lit,List.set]))
  (refine tk (i:=12) (v:=?_) rfl rfl (Or.inl ⟨by rfl,?_⟩) ?_;rotate_left;(focus (intro w hSw;(try dsimp only at hSw);go_simp;(try with_reducible rfl)));(simp only [put_lit,List.set]))
  (refine tk (i:=13) (v:=?_) rfl rfl (Or.inl ⟨by rfl,?_⟩) ?_;rotate_left;(focus (intro w hSw;(try dsimp only at hSw);go_simp;(try with_reducible rfl)));(simp only [put_lit,List.set]))
  refine wpAnyH_done (by kernel_rfl) ?_ _
  clear hHeld
  go_wp2
  go_ret
  exact ⟨_,_,_,rfl,H6.out,Hb6.out⟩
 ·refine (wroot_same ikN _ _ _ _ _ _ _ _ _ _ _ _ _ _ h hz hq ha hp h0).mono ?_
  rintro e w' ⟨rfl,hb⟩
  exact ⟨_,_,_,rfl,by unfold wrt;rw [if_neg h0];exact h.below ikN hb,hb⟩
set_option maxRecDepth 100000 in
set_option maxHeartbeats 8000000 in
theorem query_any {I J:IntPred} (hI:IK I) (hJ:IK J) (Af:Option Addr) (lf cf:Nat) (f:List Int) (Ag:Option Addr) (lg cg:Nat) (g:List Int) (n:Bool) (A:Option Addr) (l c:Nat) (B:Option Addr) (m d q:Nat) (z:Int) (n':Bool) (A':Option Addr) (l' c':Nat) (B':Option Addr) (m' d' q':Nat) (z':Int) (w:World) (hf:PolyP I w Af lf cf f) (hg:PolyP J w Ag lg cg g) (hfm:lf≤1000000) (h9:P9 f) (l6:plen f≤6) (g6:G6 g)
  (hz:IntN w n A l c z) (hq:NatN w B m d q) (hz':IntN w n' A' l' c' z') (hq':NatN w B' m' d' q') (ha:AtOK z q) (ha':AtOK z' q') (z8:z.natAbs≤ZB) (q8:q≤ZB) (z8':z'.natAbs≤ZB) (q8':q'≤ZB) :
  Calls Tryz.prog 11 #[.slice Af lf cf,.slice Ag lg cg,.agg #[.bool n,.slice A l c,.slice B m d],.agg #[.bool n',.slice A' l' c',.slice B' m' d']] w fun e w'=>e=.returned (.int .i64 (nquery f g z q z' q'))∧Below w.heap.size w w':=by
 have o1:=below_new w (rbox n A l c B m d)
 have o2:=below_new (w.alloc (rbox n A l c B m d)) (rbox n' A' l' c' B' m' d')
 have b2:Below w.heap.size w ((w.alloc (rbox n A l c B m d)).alloc (rbox n' A' l' c' B' m' d')):=o1.alloc (by simp) _
 have R1:=(RBox.make hz hq).move o2
 have R2:=RBox.make (hz'.below o1) (hq'.below o1)
 simp only [World.size_alloc] at R2
 have HG:=Lib.hid (hg.below hJ b2)
 have hf2:=hf.below hI b2
 replace R1:=Lib.hid R1
 replace R2:=Lib.hid R2
 have Hb:=Lib.hid b2
 have hlg:lg≤6:=by have:=hg.length;have:=g6.len;omega
 have hp:=ha.pos
 have hp':=ha'.pos
 have sf:=h9.cp.fit.smp
 obtain ⟨V,hV⟩:∃ V,V=nquery f g z q z' q':=⟨_,rfl⟩
 rw [← hV]
 have HV:=Lib.hid hV
 have x0:=R1.out.c0;have x1:=R1.out.c1;have x2:=R1.out.c2;have y0:=R2.out.c0;have y1:=R2.out.c1;have y2:=R2.out.c2
 clear o1 o2 b2 hz hq hz' hq' hf hg hV
 go_enter Tryz.func11,Tryz.ntmps11
 go_wp2_with fail
 refine (part_q hI _ _ _ _ _ hf2 sf (fun _=>h9.q) hfm).mono ?_
 rintro e w3 ⟨A3,l3,c3',rfl,h3,hb3⟩
 have hll:=h3.length
 replace HG:=Lib.hid (HG.out.below hJ hb3)
 replace R1:=Lib.hid (R1.out.move hb3);replace R2:=Lib.hid (R2.out.move hb3);replace Hb:=Lib.hid (Hb.out.trans (hb3.mono Hb.out.size))
 clear x0 x1 x2 y0 y1 y2
 have x0:=R1.out.c0;have x1:=R1.out.c1;have x2:=R1.out.c2;have y0:=R2.out.c0;have y1:=R2.out.c1;have y2:=R2.out.c2
 clear hb3 hf2
 by_cases f0:plen f=0
 ·have e3:l3=0:=by rw [← hll,qpart_nil f0];rfl
  subst e3
  have hV0:V=0:=by rw [HV.out];unfold nquery;rw [if_pos (.inl f0)]
  have HV0:=Lib.hid hV0
  clear hV0 f0 h3 hll
  go_wp2_with fail
  go_ret
  exact ⟨by show Ending.returned (.int .i64 0)=_;rw [HV0.out],Hb.out⟩
 have s0:=SqF.of9 h9 f0
 have hqf:=(q_facts h9.q f0).l
 have HF0:=Lib.hid f0
 have hl30:¬ l3=0:=by rw [← hll,← s0.t,ptrim_length];exact s0.q0
 have hl3:l3≤10:=by rw [← hll];exact s0.lq
 have bl3:((l3:Int) == 0)=false:=by rw [beq_eq_false_iff_ne];omega
 have HP:=Lib.hid h3
 clear f0 h3 hll
 go_wp2_with fail
 refine (rcmp_any _ _ _ _ _ _ _ _ _ _ _ _ _ _ _ _ _ _ _ R1.out.hz.at_ R1.out.hq.at_ R2.out.hz.at_ R2.out.hq.at_ (by omega) (by omega) ha.u ha.v ha'.u ha'.v).mono ?_
 rintro e w4 ⟨rfl,hb4⟩
 obtain ⟨C,hC⟩:∃ C,C=cmpz (z*(q':Int)) (z'*(q:Int)):=⟨_,rfl⟩
 rw [← hC]
 replace HG:=Lib.hid (HG.out.below hJ hb4)
 replace HP:=Lib.hid (HP.out.below ikN hb4)
 replace R1:=Lib.hid (R1.out.move hb4);replace R2:=Lib.hid (R2.out.move hb4);replace Hb:=Lib.hid (Hb.out.trans (hb4.mono Hb.out.size))
 clear x0 x1 x2 y0 y1 y2
 have x0:=R1.out.c0;have x1:=R1.out.c1;have x2:=R1.out.c2;have y0:=R2.out.c0;have y1:=R2.out.c1;have y2:=R2.out.c2
 clear hb4
 by_cases hlt:z*(q':Int)<z'*(q:Int)
 ·have hcm:¬ (0≤C):=by rw [hC];unfold cmpz;rw [if_pos hlt];omega
  have w1:=wr_facts s0 (by omega) hp' z8' q8'
  have w2:=wr_facts w1.f (by omega) hp z8 q8
  obtain ⟨Q,hQ⟩:∃ Q,Q=qpart f:=⟨_,rfl⟩
  rw [← hQ] at HP s0 w1 w2 hqf
  obtain ⟨R,hR⟩:∃ R,R=wrt Q z' q':=⟨_,rfl⟩
  rw [← hR] at w2
  obtain ⟨T,hT⟩:∃ T,T=wrt R z q:=⟨_,rfl⟩
  have sR:SqF R 22:=by rw [hR];exact w1.f
  have sT:SqF T 28:=by rw [hT];exact w2.f
  have lT:plen T≤6:=by rw [hT];have:=w2.l;have:=w1.l;rw [← hR] at this;omega
  have cT:CP T:=sT.cp (by omega)
  have cD:CP (dgm T g):=sT.dg (by omega) lT g6
  obtain ⟨PS,hPS⟩:∃ PS,PS=pchain 12 T (dgm T g):=⟨_,rfl⟩
  obtain ⟨k1,k2,k3,k4⟩:=chain_all cT cD
  rw [← hPS] at k2 k4
  obtain ⟨N1,hN1⟩:∃ N,N=(vst (PS.map (sat z q)) PS.length).1:=⟨_,rfl⟩
  obtain ⟨N2,hN2⟩:∃ N,N=(vst (PS.map (sat z' q')) PS.length).1:=⟨_,rfl⟩
  obtain ⟨S2,hS2⟩:∃ S,S=sat z' q' Q:=⟨_,rfl⟩
  obtain ⟨S3,hS3⟩:∃ S,S=sat z' q' g:=⟨_,rfl⟩
  obtain ⟨SG,hSG⟩:∃ S,S=if S2=0 then S3 else 0:=⟨_,rfl⟩
  have bS3:=sat_unit z' q' g
  rw [← hS3] at bS3
  have bSG:SG=-1∨SG=0∨SG=1:=by rw [hSG];split<;>omega
  have hVe:V=SG+(N1:Int)-(N2:Int):=by
   rw [HV.out]
   unfold nquery
   rw [if_neg (by rintro (e | e);exact HF0.out e;exact e hlt),← hQ,← hR,← hT,← hS2,← hS3,← hSG]
   unfold nqi
   rw [hN1,hN2,vat_eq hp,vat_eq hp',hPS]
   omega
  have n1:=(vst_le (PS.map (sat z q)) PS.length).1
  have n2:=(vst_le (PS.map (sat z' q')) PS.length).1
  rw [← hN1] at n1
  rw [← hN2] at n2
  have HVe:=Lib.hid hVe
  have HN1:=Lib.hid hN1
  have HN2:=Lib.hid hN2
  have HPS:=Lib.hid hPS
  have HR:=Lib.hid hR
  have HT:=Lib.hid hT
  have HSG:=Lib.hid hSG
  have HS2:=Lib.hid hS2
  have HS3:=Lib.hid hS3
  have hw0:IntKind.i64.wrap (SG+(N1:Int))=SG+(N1:Int):=IntWalk.i64_in _ (by omega)
  have hw:IntKind.i64.wrap (SG+(N1:Int)-(N2:Int))=SG+(N1:Int)-(N2:Int):=IntWalk.i64_in _ (by omega)
  have K2:=Lib.hid k2
  have P1:PoOK z q R:=(sR.cp (by omega)).at (by have:=sR.lq;omega) z8 q8
  have P2:PoOK z' q' Q:=(s0.cp (by omega)).at (by have:=s0.lq;omega) z8' q8'
  have cg:CP g:=⟨by have:=g6.plen;omega,fun j=>Nat.le_trans (g6.b j) (by have:BB^1≤BB^32:=bbk_le (by decide);rw [Nat.pow_one] at this;exact this)⟩
  have P3:PoOK z' q' g:=cg.at (by have:=g6.len;omega) z8' q8'
  have ldq:=polymul_le (ptrim (pder T)) (ptrim g)
  rw [ptrim_length,ptrim_length] at ldq
  have lg6:=g6.plen
  have lc2:=plen_pder T
  have fT:FitP T:=sT.fit (by omega)
  have fdT:FitP (pder T):=fun j=>Nat.lt_of_le_of_lt (pder_abs (k:=28) (by omega) sT.b j) (Nat.pow_lt_pow_right (by rw [BB_eq];decide) (by rw [FW_eq];omega))
  have hlT:=sT.lq
  clear hVe hN1 hN2 hQ hPS k2 hR hT hSG hS2 hS3 hlt hC w1 w2
  go_wp2_with fail
  refine (signat_any ikN _ _ _ Q _ _ _ _ _ _ _ _ _ _ HP.out P2.fit (by omega) R2.out.hz R2.out.hq ha'.u ha'.v ha'.pos P2.ok ha'.fz ha'.fq).mono ?_
  rintro e w5 ⟨he,hb5⟩
  have he2:e=.returned (.int .i64 S2):=by rw [HS2.out];exact he
  subst he2
  replace HG:=Lib.hid (HG.out.below hJ hb5)
  replace HP:=Lib.hid (HP.out.below ikN hb5)
  replace R1:=Lib.hid (R1.out.move hb5);replace R2:=Lib.hid (R2.out.move hb5);replace Hb:=Lib.hid (Hb.out.trans (hb5.mono Hb.out.size))
  clear x0 x1 x2 y0 y1 y2
  have x0:=R1.out.c0;have x1:=R1.out.c1;have x2:=R1.out.c2;have y0:=R2.out.c0;have y1:=R2.out.c1;have y2:=R2.out.c2
  clear hb5 he
  go_upto_if 26 with (fail)
  go_cut [10] (fun s10 wx=>s10=.int .i64 SG∧Below w5.heap.size w5 wx)
  case first =>
   by_cases c2:S2=0
   ·have hs:SG=S3:=by rw [HSG.out,if_pos c2]
    have Hs:=Lib.hid hs
    have b2:(S2 == 0)=true:=by rw [c2];rfl
    clear c2 hs
    go_wp2_with fail
    refine (signat_any hJ _ _ _ g _ _ _ _ _ _ _ _ _ _ HG.out P3.fit (by omega) R2.out.hz R2.out.hq ha'.u ha'.v ha'.pos P3.ok ha'.fz ha'.fq).mono ?_
    rintro e w6 ⟨he,hb6⟩
    have he2:e=.returned (.int .i64 S3):=by rw [HS3.out];exact he
    subst he2
    clear he
    go_wp2_with fail
    go_meet
    exact ⟨by rw [Hs.out],hb6⟩
   ·have hs:SG=0:=by rw [HSG.out,if_neg c2]
    have Hs:=Lib.hid hs
    have b2:(S2 == 0)=false:=by rw [beq_eq_false_iff_ne];exact c2
    clear hs
    go_wp2_with fail
    go_meet
    exact ⟨by rw [Hs.out],Below.refl _ _⟩
  case rest =>
   obtain ⟨rfl,hb6⟩:=hcut
   replace HG:=Lib.hid (HG.out.below hJ hb6)
   replace HP:=Lib.hid (HP.out.below ikN hb6)
   replace R1:=Lib.hid (R1.out.move hb6);replace R2:=Lib.hid (R2.out.move hb6);replace Hb:=Lib.hid (Hb.out.trans (hb6.mono Hb.out.size))
   clear x0 x1 x2 y0 y1 y2
   have x0:=R1.out.c0;have x1:=R1.out.c1;have x2:=R1.out.c2;have y0:=R2.out.c0;have y1:=R2.out.c1;have y2:=R2.out.c2
   clear hb6
   obtain ⟨wb,hwb⟩:∃ wb,wb=wc:=⟨_,rfl⟩
   rw [← hwb] at R1 R2 HG HP Hb x0 x1 x2 y0 y1 y2 ⊢
   clear hwb
   go_wp2_with fail
   go_region_held3 (fun w'=>w'.cell? ⟨w.heap.size,0,none⟩=some (.bool n)∧w'.cell? ⟨w.heap.size,1,none⟩=some (.slice A l c)∧w'.cell? ⟨w.heap.size,2,none⟩=some (.slice B m d)∧w'.cell? ⟨w.heap.size+1,0,none⟩=some (.bool n')∧w'.cell? ⟨w.heap.size+1,1,none⟩=some (.slice A' l' c')∧w'.cell? ⟨w.heap.size+1,2,none⟩=some (.slice B' m' d')) (go_keep) (first
    | (go_at_call 47;(have _hx:=G7);go_must (refine (wroot_any _ _ _ R 22 _ _ _ _ _ _ _ _ _ _ ?_ ?_ ?_ ha P1 sR (by omega) z8 q8).mono ?_;(exact H7.out.below ikN Bel.go);(exact (R1.out.move G7.out).hz.below Bel.go);(exact (R1.out.move G7.out).hq.below Bel.go);rintro e w9 ⟨A9,l9,c9,rfl,h9',hb9⟩;rw [← HT.out] at h9';have H9:=Lib.hid h9';have G9:Hid (Below wb.heap.size wb w9):=Lib.hid (G7.out.trans ((Below.trans Bel.go (hb9.mono (by simp<;>omega))).mono G7.out.size));obtain ⟨hcx,hfx⟩:=bcellS hb9;have j0:World.cell? w9 ⟨w.heap.size,0,none⟩=some (.bool n):=(hcx _ (by go_simp)).trans (by go_simp);have j0b:World.cell? w9 ⟨w.heap.size,1,none⟩=some (.slice A l c):=(hcx _ (by go_simp)).trans (by go_simp);have j0c:World.cell? w9 ⟨w.heap.size,2,none⟩=some (.slice B m d):=(hcx _ (by go_simp)).trans (by go_simp);have j0d:World.cell? w9 ⟨w.heap.size+1,0,none⟩=some (.bool n'):=(hcx _ (by go_simp)).trans (by go_simp);have j0e:World.cell? w9 ⟨w.heap.size+1,1,none⟩=some (.slice A' l' c'):=(hcx _ (by go_simp)).trans (by go_simp);have j0f:World.cell? w9 ⟨w.heap.size+1,2,none⟩=some (.slice B' m' d'):=(hcx _ (by go_simp)).trans (by go_simp);clear hcx hfx hb9 h9'))
    | (go_at_call 47;go_must (refine (wroot_any _ _ _ Q 16 _ _ _ _ _ _ _ _ _ _ ?_ ?_ ?_ ha' P2 s0 (by omega) z8' q8').mono ?_;(exact HP.out.below ikN Bel.go);(exact R2.out.hz.below Bel.go);(exact R2.out.hq.below Bel.go);rintro e w7 ⟨A7,l7,c7,rfl,h7,hb7⟩;rw [← HR.out] at h7;have H7:=Lib.hid h7;have G7:Hid (Below wb.heap.size wb w7):=Lib.hid (Below.trans Bel.go (hb7.mono (by simp<;>omega)));obtain ⟨hcx,hfx⟩:=bcellS hb7;have i0:World.cell? w7 ⟨w.heap.size,0,none⟩=some (.bool n):=(hcx _ (by go_simp)).trans (by go_simp);have i0b:World.cell? w7 ⟨w.heap.size,1,none⟩=some (.slice A l c):=(hcx _ (by go_simp)).trans (by go_simp);have i0c:World.cell? w7 ⟨w.heap.size,2,none⟩=some (.slice B m d):=(hcx _ (by go_simp)).trans (by go_simp);have i0d:World.cell? w7 ⟨w.heap.size+1,0,none⟩=some (.bool n'):=(hcx _ (by go_simp)).trans (by go_simp);have i0e:World.cell? w7 ⟨w.heap.size+1,1,none⟩=some (.slice A' l' c'):=(hcx _ (by go_simp)).trans (by go_simp);have i0f:World.cell? w7 ⟨w.heap.size+1,2,none⟩=some (.slice B' m' d'):=(hcx _ (by go_simp)).trans (by go_simp);clear hcx hfx hb7 h7)))
   rename_i hHeld
   clear hHeld j0 j0b j0c j0d j0e j0f i0 i0b i0c i0d i0e i0f
   replace HG:=Lib.hid (HG.out.below hJ G9.out)
   replace R1:=Lib.hid (R1.out.move G9.out);replace R2:=Lib.hid (R2.out.move G9.out);replace Hb:=Lib.hid (Hb.out.trans (G9.out.mono Hb.out.size))
   clear x0 x1 x2 y0 y1 y2
   have x0:=R1.out.c0;have x1:=R1.out.c1;have x2:=R1.out.c2;have y0:=R2.out.c0;have y1:=R2.out.c1;have y2:=R2.out.c2
   have hl9:l9≤10:=by have:=H9.out.length;omega
   clear G7 G9 H7 HP
   go_wp2_with fail
   refine (derivative_any ikN _ _ _ T _ H9.out fT.smp (by omega)).mono ?_
   rintro e w11 ⟨A4,l4,c4,rfl,h4,hb11⟩
   have hl4:l4≤10:=by have:=h4.length;rw [pder_length] at this;have:=plen_le T;omega
   replace HG:=Lib.hid (HG.out.below hJ hb11)
   replace H9:=Lib.hid (H9.out.below ikN hb11)
   replace R1:=Lib.hid (R1.out.move hb11);replace R2:=Lib.hid (R2.out.move hb11);replace Hb:=Lib.hid (Hb.out.trans (hb11.mono Hb.out.size))
   clear x0 x1 x2 y0 y1 y2
   clear hb11
   go_wp2_with fail
   refine (polymul_any ikN hJ _ _ _ (pder T) _ _ _ g _ h4 HG.out fdT g6.fit (by omega) (by omega)).mono ?_
   rintro e w12 ⟨A5,l5,c5,rfl,h5,hb12⟩
   have hl5:l5≤20:=by have:=h5.length;omega
   replace H9:=Lib.hid (H9.out.below ikN hb12)
   replace R1:=Lib.hid (R1.out.move hb12);replace R2:=Lib.hid (R2.out.move hb12);replace Hb:=Lib.hid (Hb.out.trans (hb12.mono Hb.out.size))
   clear hb12 h4 HG
   go_wp2_with fail
   refine (chain_any _ _ _ T _ _ _ (dgm T g) _ H9.out h5 fT.smp cD.fit.smp (by omega) (by omega) 12 k1 (by omega)).mono ?_
   rintro e w13 ⟨A6,l6',c6,rfl,h6,hb13⟩
   rw [← HPS.out] at h6
   obtain rfl:l6'=PS.length:=h6.length.symm
   have HC:=Lib.hid h6
   replace R1:=Lib.hid (R1.out.move hb13);replace R2:=Lib.hid (R2.out.move hb13);replace Hb:=Lib.hid (Hb.out.trans (hb13.mono Hb.out.size))
   clear hb13 h5 h6 H9
   have x0:=R1.out.c0;have x1:=R1.out.c1;have x2:=R1.out.c2;have y0:=R2.out.c0;have y1:=R2.out.c1;have y2:=R2.out.c2
   have hlp:PS.length≤1000000:=by omega
   have e1:∀ p∈PS,PoOK z q p:=fun p hp=>(K2.out p hp).at z8 q8
   have e2:∀ p∈PS,PoOK z' q' p:=fun p hp=>(K2.out p hp).at z8' q8'
   obtain ⟨L,hL⟩:∃ L,L=PS.length:=⟨_,rfl⟩
   rw [← hL] at HC HN1 HN2 hlp n1 n2 k4 ⊢
   obtain ⟨wb2,hwb⟩:∃ wb,wb=w13:=⟨_,rfl⟩
   rw [← hwb] at R1 R2 HC Hb x0 x1 x2 y0 y1 y2 ⊢
   clear hL hwb
   go_wp2_with fail
   go_region_held3 (fun w'=>w'.cell? ⟨w.heap.size,0,none⟩=some (.bool n)∧w'.cell? ⟨w.heap.size,1,none⟩=some (.slice A l c)∧w'.cell? ⟨w.heap.size,2,none⟩=some (.slice B m d)∧w'.cell? ⟨w.heap.size+1,0,none⟩=some (.bool n')∧w'.cell? ⟨w.heap.size+1,1,none⟩=some (.slice A' l' c')∧w'.cell? ⟨w.heap.size+1,2,none⟩=some (.slice B' m' d')) (go_keep) (first
    | (go_at_call 50;(have _hx:=G17);go_must (refine (vars_any _ _ _ PS _ _ _ _ _ _ _ _ _ _ ?_ ?_ ?_ ha' e2 hlp).mono ?_;(exact ((HC.out.below G17.out).below Bel.go));(exact (R2.out.move G17.out).hz.below Bel.go);(exact (R2.out.move G17.out).hq.below Bel.go);rintro e w19 ⟨rfl,hb19⟩;rw [show (vst (PS.map (sat z' q')) L).1=N2 from HN2.out.symm];have G19:Hid (Below wb2.heap.size wb2 w19):=Lib.hid (G17.out.trans ((Below.trans Bel.go (hb19.mono (by simp<;>omega))).mono G17.out.size));obtain ⟨hcx,hfx⟩:=bcellS hb19;have j0:World.cell? w19 ⟨w.heap.size,0,none⟩=some (.bool n):=(hcx _ (by go_simp)).trans (by go_simp);have j0b:World.cell? w19 ⟨w.heap.size,1,none⟩=some (.slice A l c):=(hcx _ (by go_simp)).trans (by go_simp);have j0c:World.cell? w19 ⟨w.heap.size,2,none⟩=some (.slice B m d):=(hcx _ (by go_simp)).trans (by go_simp);have j0d:World.cell? w19 ⟨w.heap.size+1,0,none⟩=some (.bool n'):=(hcx _ (by go_simp)).trans (by go_simp);have j0e:World.cell? w19 ⟨w.heap.size+1,1,none⟩=some (.slice A' l' c'):=(hcx _ (by go_simp)).trans (by go_simp);have j0f:World.cell? w19 ⟨w.heap.size+1,2,none⟩=some (.slice B' m' d'):=(hcx _ (by go_simp)).trans (by go_simp);clear hcx hfx hb19))
    | (go_at_call 50;go_must (refine (vars_any _ _ _ PS _ _ _ _ _ _ _ _ _ _ ?_ ?_ ?_ ha e1 hlp).mono ?_;(exact HC.out.below Bel.go);(exact R1.out.hz.below Bel.go);(exact R1.out.hq.below Bel.go);rintro e w17 ⟨rfl,hb17⟩;rw [show (vst (PS.map (sat z q)) L).1=N1 from HN1.out.symm];have G17:Hid (Below wb2.heap.size wb2 w17):=Lib.hid (Below.trans Bel.go (hb17.mono (by simp<;>omega)));obtain ⟨hcx,hfx⟩:=bcellS hb17;have i0:World.cell? w17 ⟨w.heap.size,0,none⟩=some (.bool n):=(hcx _ (by go_simp)).trans (by go_simp);have i0b:World.cell? w17 ⟨w.heap.size,1,none⟩=some (.slice A l c):=(hcx _ (by go_simp)).trans (by go_simp);have i0c:World.cell? w17 ⟨w.heap.size,2,none⟩=some (.slice B m d):=(hcx _ (by go_simp)).trans (by go_simp);have i0d:World.cell? w17 ⟨w.heap.size+1,0,none⟩=some (.bool n'):=(hcx _ (by go_simp)).trans (by go_simp);have i0e:World.cell? w17 ⟨w.heap.size+1,1,none⟩=some (.slice A' l' c'):=(hcx _ (by go_simp)).trans (by go_simp);have i0f:World.cell? w17 ⟨w.heap.size+1,2,none⟩=some (.slice B' m' d'):=(hcx _ (by go_simp)).trans (by go_simp);clear hcx hfx hb17)))
   rename_i hHeld
   have Hb9:=Lib.hid (Hb.out.trans (G19.out.mono Hb.out.size))
   clear hHeld j0 j0b j0c j0d j0e j0f i0 i0b i0c i0d i0e i0f x0 x1 x2 y0 y1 y2 R1 R2 HC Hb G17 G19
   go_wp2
   go_ret
   exact ⟨by show Ending.returned (.int .i64 (SG+(N1:Int)-(N2:Int)))=_;rw [HVe.out],Hb9.out⟩
 ·have hcm:0≤C:=by rw [hC];unfold cmpz;rw [if_neg hlt];split<;>omega
  have hV0:V=0:=by rw [HV.out];unfold nquery;rw [if_pos (.inr hlt)]
  have HV0:=Lib.hid hV0
  clear hV0 hC hlt R1 R2 HG HP
  go_wp2_with fail
  go_ret
  exact ⟨by show Ending.returned (.int .i64 0)=_;rw [HV0.out],Hb.out⟩
end Go.Proofs.YtbfddopopajgaabGreat
namespace Go.Proofs.YtbfddopopajgaabGreat
open Go.RowKit
end Go.Proofs.YtbfddopopajgaabGreat
