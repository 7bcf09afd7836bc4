/- The walk of refine.half. -/
import Derived.Test.YtobcbjcnjpgipaaGreatHfw
namespace Go.Proofs.YtobcbjcnjpgipaaGreat
open Go Go.RowKit
set_option maxRecDepth 100000 in
set_option maxHeartbeats 4000000 in
theorem half_any {I:IntPred} (hI:IK I) {w:World} {Ap:Option Addr} {lp cp:Nat} {Q:List Int} {r:Fq×Fq} {n:Bool} {A:Option Addr} {l c:Nat} {B:Option Addr} {m d:Nat} {n':Bool} {A':Option Addr} {l' c':Nat} {B':Option Addr} {m' d':Nat}
  (hp:PolyP I w Ap lp cp Q) (hlp:lp<=1000000) (hQ:∀ x,FqB x->PoOK x.z x.q Q) (hz:IntN w n A l c r.1.z) (hq:NatN w B m d r.1.q) (hz':IntN w n' A' l' c' r.2.z) (hq':NatN w B' m' d' r.2.q) (ha:FqB r.1) (hb:FqB r.2) (hm:FqB (r.1.mid r.2)) :
  Calls Tryz.prog 33 #[.slice Ap lp cp,.agg #[.bool n,.slice A l c,.slice B m d,.bool n',.slice A' l' c',.slice B' m' d']] w fun e w'=>RootE (hlf Q r) e w'/\Below w.heap.size w w':=by
 have o1:=below_new w (tbox n A l c B m d n' A' l' c' B' m' d')
 have o2:=below_new (w.alloc (tbox n A l c B m d n' A' l' c' B' m' d')) rtObj
 have b2:Below w.heap.size w ((w.alloc (tbox n A l c B m d n' A' l' c' B' m' d')).alloc rtObj):=o1.alloc (by simp) _
 have T:=Lh ((TBox.make hz hq hz' hq').move o2)
 have K3:Blk ((w.alloc (tbox n A l c B m d n' A' l' c' B' m' d')).alloc rtObj) (w.alloc (tbox n A l c B m d n' A' l' c' B' m' d')).heap.size 34 rz6:=Blk.new _ _ _
 simp only[World.size_alloc] at K3
 have HP:=Lh (hp.below hI b2)
 have x0:=T.out.r.c0;have x1:=T.out.r.c1;have x2:=T.out.r.c2;have x3:=T.out.c3;have x4:=T.out.c4;have x5:=T.out.c5
 have K4:=Lh K3
 have Hb:=Lh b2
 have hl3:=K3.lt
 have pa:=hQ _ ha
 have pm:=hQ _ hm
 have HQ:=Lh hQ
 obtain ⟨R,hR⟩:∃ R,R=hlf Q r:=⟨_,rfl⟩
 rw[<- hR]
 unfold hlf at hR
 have HR:=Lh hR
 obtain ⟨S,hS⟩:∃ S,S=(r.1.mid r.2).sgn Q:=⟨_,rfl⟩
 obtain ⟨S2,hS2⟩:∃ S,S=r.1.sgn Q:=⟨_,rfl⟩
 have HS:=Lh hS
 have HS2:=Lh hS2
 obtain ⟨wb,hwb⟩:∃ wb,wb=(w.alloc (tbox n A l c B m d n' A' l' c' B' m' d')).alloc rtObj:=⟨_,rfl⟩
 clear o1 o2 b2 hz hq hz' hq' K3 hp hQ hR hS hS2
 go_enter Tryz.func33,Tryz.ntmps33
 go_wp2_with fail
 rw[<- hwb] at T K4 HP Hb x0 x1 x2 x3 x4 x5 hl3 ⊢
 clear hwb
 obtain ⟨g1,hg1⟩:∃ g,g=w.heap.size:=⟨_,rfl⟩
 obtain ⟨g3,hg3⟩:∃ g,g=w.heap.size+1:=⟨_,rfl⟩
 rw[<- hg1] at T x0 x1 x2 x3 x4 x5
 rw[<- hg3] at K4 hl3
 rw[<- hg3,<- hg1]
 have l1:g1<wb.heap.size:=by omega
 have Hg:=Lh (show w.heap.size<=g3 by omega)
 have ng1:g1≠g3:=by omega
 have ng2:g3≠g1:=by omega
 clear hg1 hg3
 refine (isexact_any T.out.r.hz T.out.r.hq T.out.hz T.out.hq ha hb).mono ?_
 rintro e w1 ⟨rfl,hb1⟩
 replace HP:=Lh (HP.out.below hI hb1);replace T:=Lh (T.out.move hb1);replace K4:=Lh (K4.out.below hb1 K4.out.lt);replace Hb:=Lh (Hb.out.trans ((hb1).mono Hb.out.size))
 clear hb1
 clear x0 x1 x2 x3 x4 x5
 by_cases c0:fcmp r.1 r.2=0
 ·have b1:(fcmp r.1 r.2 == 0)=true:=by rw[c0];rfl
  have ER:=Lh (show R=r by rw[HR.out,if_pos c0])
  clear c0
  have x0:=T.out.r.c0;have x1:=T.out.r.c1;have x2:=T.out.r.c2;have x3:=T.out.c3;have x4:=T.out.c4;have x5:=T.out.c5
  have FX:=Lh (root_fin (r:=r) Hb.out K4.out Hg.out T.out.r.hz T.out.r.hq T.out.hz T.out.hq);rw[<- ER.out] at FX;have r0:=(K4.out.cell 0).trans rfl;have r1:=(K4.out.cell 1).trans rfl;have r2:=(K4.out.cell 2).trans rfl;have r3:=(K4.out.cell 3).trans rfl;have r4:=(K4.out.cell 4).trans rfl;have r5:=(K4.out.cell 5).trans rfl;have s0:=K4.out.frozen 0;have s1:=K4.out.frozen 1;have s2:=K4.out.frozen 2;have s3:=K4.out.frozen 3;have s4:=K4.out.frozen 4;have s5:=K4.out.frozen 5;clear K4 Hb;go_wp2_with fail;refine bodyPost_ret (v:=.agg #[.bool n,.slice A l c,.slice B m d,.bool n',.slice A' l' c',.slice B' m' d']) (by simp[results,Tryz.results33,go_sem,r0,r1,r2,r3,r4,r5]) rfl FX.out
 have b1:(fcmp r.1 r.2 == 0)=false:=by rw[beq_eq_false_iff_ne];exact c0
 have hR:=HR.out
 rw[if_neg c0] at hR
 replace HR:=Lh hR
 clear c0 hR
 have x0:=T.out.r.c0;have x1:=T.out.r.c1;have x2:=T.out.r.c2;have x3:=T.out.c3;have x4:=T.out.c4;have x5:=T.out.c5
 go_wp2_with fail
 refine (mid_any _ _ _ _ _ _ _ _ _ _ _ _ _ _ _ _ _ _ _ T.out.r.hz T.out.r.hq T.out.hz T.out.hq ha.fz ha.fq ha.p hb.fz hb.fq hb.p).mono ?_
 rintro e w2 ⟨⟨n5,A5,l5,c5,B5,m5,d5,rfl,h5,k5⟩,hb2⟩
 obtain ⟨M,hM⟩:∃ M,M=r.1.mid r.2:=⟨_,rfl⟩
 have h5':IntN w2 n5 A5 l5 c5 M.z:=by rw[hM];exact h5
 have k5':NatN w2 B5 m5 d5 M.q:=by rw[hM];exact k5
 rw[<- hM] at hm pm
 have HM:=Lh hM
 have o5:=below_new w2 (rbox n5 A5 l5 c5 B5 m5 d5)
 have b5:Below w1.heap.size w1 (w2.alloc (rbox n5 A5 l5 c5 B5 m5 d5)):=hb2.trans (o5.mono hb2.size)
 have R5:=Lh (RBox.make h5' k5')
 replace HP:=Lh (HP.out.below hI b5);replace T:=Lh (T.out.move b5);replace K4:=Lh (K4.out.below b5 K4.out.lt);replace Hb:=Lh (Hb.out.trans ((b5).mono Hb.out.size))
 have a0:=R5.out.c0
 have a1:=R5.out.c1
 have a2:=R5.out.c2
 clear hb2 h5 k5 h5' k5' hM o5 b5 x0 x1 x2 x3 x4 x5
 go_wp2_with fail
 refine (signat_any hI _ _ _ Q _ _ _ _ _ _ _ _ _ _ HP.out pm.fit (by omega) R5.out.hz R5.out.hq hm.at.u hm.at.v hm.at.pos pm.ok hm.at.fz hm.at.fq).mono ?_
 rintro e w4 ⟨he,hb4⟩
 have he2:e=.returned (.int .i64 S):=by rw[HS.out,<- HM.out];exact he
 subst he2
 clear he a0 a1 a2
 replace HP:=Lh (HP.out.below hI hb4);replace T:=Lh (T.out.move hb4);replace K4:=Lh (K4.out.below hb4 K4.out.lt);replace Hb:=Lh (Hb.out.trans ((hb4).mono Hb.out.size))
 replace R5:=Lh (R5.out.move hb4)
 clear hb4
 by_cases c2:S=0
 ·have b2:(S == 0)=true:=by rw[c2];rfl
  have ER:=Lh (show R=(M.nf,M.nf) by rw[HR.out,<- HS.out,if_pos c2,HM.out])
  clear c2
  have a0:=R5.out.c0
  have a1:=R5.out.c1
  have a2:=R5.out.c2
  go_wp2_with fail
  refine (exact_rt R5.out.hz R5.out.hq hm).mono ?_
  rintro e w6 ⟨⟨n6,A6,l6,c6,B6,m6,d6,n7,A7,l7,c7,B7,m7,d7,rfl,h6,k6,h7,k7⟩,hb6⟩
  replace HP:=Lh (HP.out.below hI hb6);replace T:=Lh (T.out.move hb6);replace K4:=Lh (K4.out.below hb6 K4.out.lt);replace Hb:=Lh (Hb.out.trans ((hb6).mono Hb.out.size))
  have H6:=Lh (And.intro (And.intro h6 k6) (And.intro h7 k7))
  clear hb6 h6 k6 h7 k7 R5 a0 a1 a2 T HP
  have FX:=Lh (root_fin (r:=(M.nf,M.nf)) Hb.out K4.out Hg.out H6.out.1.1 H6.out.1.2 H6.out.2.1 H6.out.2.2);rw[<- ER.out] at FX;have r0:=(K4.out.cell 0).trans rfl;have r1:=(K4.out.cell 1).trans rfl;have r2:=(K4.out.cell 2).trans rfl;have r3:=(K4.out.cell 3).trans rfl;have r4:=(K4.out.cell 4).trans rfl;have r5:=(K4.out.cell 5).trans rfl;have s0:=K4.out.frozen 0;have s1:=K4.out.frozen 1;have s2:=K4.out.frozen 2;have s3:=K4.out.frozen 3;have s4:=K4.out.frozen 4;have s5:=K4.out.frozen 5;clear K4 Hb;go_wp2_with fail;refine bodyPost_ret (v:=.agg #[.bool n6,.slice A6 l6 c6,.slice B6 m6 d6,.bool n7,.slice A7 l7 c7,.slice B7 m7 d7]) (by simp[results,Tryz.results33,go_sem,r0,r1,r2,r3,r4,r5]) rfl FX.out
 have b2:(S == 0)=false:=by rw[beq_eq_false_iff_ne];exact c2
 have hR:=HR.out
 rw[<- HS.out,if_neg c2,<- HS2.out,<- HM.out] at hR
 replace HR:=Lh hR
 clear c2 hR
 have x0:=T.out.r.c0;have x1:=T.out.r.c1;have x2:=T.out.r.c2;have x3:=T.out.c3;have x4:=T.out.c4;have x5:=T.out.c5
 go_wp2_with fail
 refine (signat_any hI _ _ _ Q _ _ _ _ _ _ _ _ _ _ HP.out pa.fit (by omega) T.out.r.hz T.out.r.hq ha.at.u ha.at.v ha.at.pos pa.ok ha.at.fz ha.at.fq).mono ?_
 rintro e w6 ⟨he,hb6⟩
 have he2:e=.returned (.int .i64 S2):=by rw[HS2.out];exact he
 subst he2
 clear he
 clear x0 x1 x2 x3 x4 x5
 replace HP:=Lh (HP.out.below hI hb6);replace T:=Lh (T.out.move hb6);replace K4:=Lh (K4.out.below hb6 K4.out.lt);replace Hb:=Lh (Hb.out.trans ((hb6).mono Hb.out.size))
 replace R5:=Lh (R5.out.move hb6)
 clear hb6
 by_cases c3:S=S2
 ·have b3:(S == S2)=true:=by rw[c3];simp
  have ER:=Lh (show R=(M,r.2) by rw[HR.out,if_pos c3])
  clear c3
  have x0:=T.out.r.c0;have x1:=T.out.r.c1;have x2:=T.out.r.c2;have x3:=T.out.c3;have x4:=T.out.c4;have x5:=T.out.c5
  have a0:=R5.out.c0
  have a1:=R5.out.c1
  have a2:=R5.out.c2
  have FX:=Lh (root_fin (r:=(M,r.2)) Hb.out K4.out Hg.out R5.out.hz R5.out.hq T.out.hz T.out.hq);rw[<- ER.out] at FX;have r0:=(K4.out.cell 0).trans rfl;have r1:=(K4.out.cell 1).trans rfl;have r2:=(K4.out.cell 2).trans rfl;have r3:=(K4.out.cell 3).trans rfl;have r4:=(K4.out.cell 4).trans rfl;have r5:=(K4.out.cell 5).trans rfl;have s0:=K4.out.frozen 0;have s1:=K4.out.frozen 1;have s2:=K4.out.frozen 2;have s3:=K4.out.frozen 3;have s4:=K4.out.frozen 4;have s5:=K4.out.frozen 5;clear K4 Hb;go_wp2_with fail;refine bodyPost_ret (v:=.agg #[.bool n5,.slice A5 l5 c5,.slice B5 m5 d5,.bool n',.slice A' l' c',.slice B' m' d']) (by simp[results,Tryz.results33,go_sem,r0,r1,r2,r3,r4,r5]) rfl FX.out
 ·have b3:(S == S2)=false:=by rw[beq_eq_false_iff_ne];exact c3
  have ER:=Lh (show R=(r.1,M) by rw[HR.out,if_neg c3])
  clear c3
  have x0:=T.out.r.c0;have x1:=T.out.r.c1;have x2:=T.out.r.c2;have x3:=T.out.c3;have x4:=T.out.c4;have x5:=T.out.c5
  have a0:=R5.out.c0
  have a1:=R5.out.c1
  have a2:=R5.out.c2
  have FX:=Lh (root_fin (r:=(r.1,M)) Hb.out K4.out Hg.out T.out.r.hz T.out.r.hq R5.out.hz R5.out.hq);rw[<- ER.out] at FX;have r0:=(K4.out.cell 0).trans rfl;have r1:=(K4.out.cell 1).trans rfl;have r2:=(K4.out.cell 2).trans rfl;have r3:=(K4.out.cell 3).trans rfl;have r4:=(K4.out.cell 4).trans rfl;have r5:=(K4.out.cell 5).trans rfl;have s0:=K4.out.frozen 0;have s1:=K4.out.frozen 1;have s2:=K4.out.frozen 2;have s3:=K4.out.frozen 3;have s4:=K4.out.frozen 4;have s5:=K4.out.frozen 5;clear K4 Hb;go_wp2_with fail;refine bodyPost_ret (v:=.agg #[.bool n,.slice A l c,.slice B m d,.bool n5,.slice A5 l5 c5,.slice B5 m5 d5]) (by simp[results,Tryz.results33,go_sem,r0,r1,r2,r3,r4,r5]) rfl FX.out
end Go.Proofs.YtobcbjcnjpgipaaGreat
