/- refine.compare and refine.Cmp: the order of a root and a number; plain meaning and walks. -/
import Derived.Test.YtobcbjcnjpgipaaGreatHfw
namespace Go.Proofs.YtobcbjcnjpgipaaGreat
open Go Go.RowKit
def cmpr (Q:List Int) (r:Fq×Fq) (a:Fq):Int :=
 if fcmp r.1 r.2=0 then fcmp r.1 a else if fcmp a r.1<=0 then 1 else if 0<=fcmp a r.2 then -1 else if a.sgn Q=0 then 0 else if a.sgn Q=r.1.sgn Q then 1 else -1
section
variable {Q f:List Int} {r:Fq×Fq} {a:Fq} {x:Pt}
end
set_option maxRecDepth 100000 in
set_option maxHeartbeats 4000000 in
theorem compare_any {I:IntPred} (hI:IK I) {w:World} {Ap:Option Addr} {lp cp:Nat} {Q:List Int} {r:Fq×Fq} {a:Fq} {n:Bool} {A:Option Addr} {l c:Nat} {B:Option Addr} {m d:Nat} {n':Bool} {A':Option Addr} {l' c':Nat} {B':Option Addr} {m' d':Nat} {na:Bool} {Aa:Option Addr} {la ca:Nat} {Ba:Option Addr} {ma da:Nat}
  (hp:PolyP I w Ap lp cp Q) (hlp:lp<=1000000) (hQ:∀ x,FqB x->PoOK x.z x.q Q) (hz:IntN w n A l c r.1.z) (hq:NatN w B m d r.1.q) (hz':IntN w n' A' l' c' r.2.z) (hq':NatN w B' m' d' r.2.q) (hza:IntN w na Aa la ca a.z) (hqa:NatN w Ba ma da a.q) (ha:FqB r.1) (hb:FqB r.2) (hc:FqB a) :
  Calls Tryz.prog 56 #[.slice Ap lp cp,.agg #[.bool n,.slice A l c,.slice B m d,.bool n',.slice A' l' c',.slice B' m' d'],.agg #[.bool na,.slice Aa la ca,.slice Ba ma da]] w fun e w'=>e=.returned (.int .i64 (cmpr Q r a))/\Below w.heap.size w w':=by
 have o1:=below_new w (tbox n A l c B m d n' A' l' c' B' m' d')
 have o2:=below_new (w.alloc (tbox n A l c B m d n' A' l' c' B' m' d')) (rbox na Aa la ca Ba ma da)
 have b2:Below w.heap.size w ((w.alloc (tbox n A l c B m d n' A' l' c' B' m' d')).alloc (rbox na Aa la ca Ba ma da)):=o1.alloc (by simp) _
 have T:=Lh ((TBox.make hz hq hz' hq').move o2)
 have r2:=RBox.make (hza.below o1) (hqa.below o1)
 simp only[World.size_alloc] at r2
 have R:=Lh r2
 have HP:=Lh (hp.below hI b2)
 have Hb:=Lh b2
 have p1:=ha.p
 have p2:=hb.p
 have p3:=hc.p
 have pa:=hQ _ ha
 have pc:=hQ _ hc
 obtain ⟨V,hV⟩:∃ V,V=cmpr Q r a:=⟨_,rfl⟩
 rw[<- hV]
 unfold cmpr at hV
 have HV:=Lh hV
 obtain ⟨S,hS⟩:∃ S,S=a.sgn Q:=⟨_,rfl⟩
 obtain ⟨S2,hS2⟩:∃ S,S=r.1.sgn Q:=⟨_,rfl⟩
 have HS:=Lh hS
 have HS2:=Lh hS2
 clear hz hq hz' hq' hza hqa o1 o2 b2 r2 hp hV hS hS2 hQ
 go_enter Tryz.func56,Tryz.ntmps56
 have x0:=T.out.r.c0;have x1:=T.out.r.c1;have x2:=T.out.r.c2;have x3:=T.out.c3;have x4:=T.out.c4;have x5:=T.out.c5;have y0:=R.out.c0;have y1:=R.out.c1;have y2:=R.out.c2
 go_wp2_with fail
 refine (isexact_any T.out.r.hz T.out.r.hq T.out.hz T.out.hq ha hb).mono ?_
 rintro e w1 ⟨rfl,hb1⟩
 clear x0 x1 x2 x3 x4 x5 y0 y1 y2
 replace HP:=Lh (HP.out.below hI hb1);replace T:=Lh (T.out.move hb1);replace R:=Lh (R.out.move hb1);replace Hb:=Lh (Hb.out.trans ((hb1).mono Hb.out.size))
 clear hb1
 by_cases c0:fcmp r.1 r.2=0
 ·have b1:(fcmp r.1 r.2 == 0)=true:=by rw[c0];rfl
  have EV:=Lh (show V=fcmp r.1 a by rw[HV.out,if_pos c0])
  clear c0
  have x0:=T.out.r.c0;have x1:=T.out.r.c1;have x2:=T.out.r.c2;have x3:=T.out.c3;have x4:=T.out.c4;have x5:=T.out.c5;have y0:=R.out.c0;have y1:=R.out.c1;have y2:=R.out.c2
  go_wp2_with fail
  refine (rcmp_any _ _ _ _ _ _ _ _ _ _ _ _ _ _ _ _ _ _ _ T.out.r.hz.at_ T.out.r.hq.at_ R.out.hz.at_ R.out.hq.at_ (by omega) (by omega) ha.fz ha.fq hc.fz hc.fq).mono ?_;rintro e w2 ⟨rfl,hb9⟩;clear x0 x1 x2 x3 x4 x5 y0 y1 y2;replace HP:=Lh (HP.out.below hI hb9);replace T:=Lh (T.out.move hb9);replace R:=Lh (R.out.move hb9);replace Hb:=Lh (Hb.out.trans ((hb9).mono Hb.out.size));clear hb9
  obtain ⟨C,hC⟩:∃ C,C=fcmp r.1 a:=⟨_,rfl⟩
  rw[show cmpz (r.1.z*(a.q:Int)) (a.z*(r.1.q:Int))=C from hC.symm]
  replace EV:=Lh (EV.out.trans hC.symm)
  clear hC T R HP
  go_wp2;go_ret;exact ⟨(by first | (rw[EV.out];done) | (rw[EV.out];rfl)),Hb.out⟩
 have b1:(fcmp r.1 r.2 == 0)=false:=by rw[beq_eq_false_iff_ne];exact c0
 have hV:=HV.out
 rw[if_neg c0] at hV
 replace HV:=Lh hV
 clear c0 hV
 have x0:=T.out.r.c0;have x1:=T.out.r.c1;have x2:=T.out.r.c2;have x3:=T.out.c3;have x4:=T.out.c4;have x5:=T.out.c5;have y0:=R.out.c0;have y1:=R.out.c1;have y2:=R.out.c2
 go_wp2_with fail
 refine (rcmp_any _ _ _ _ _ _ _ _ _ _ _ _ _ _ _ _ _ _ _ R.out.hz.at_ R.out.hq.at_ T.out.r.hz.at_ T.out.r.hq.at_ (by omega) (by omega) hc.fz hc.fq ha.fz ha.fq).mono ?_;rintro e w2 ⟨rfl,hb9⟩;clear x0 x1 x2 x3 x4 x5 y0 y1 y2;replace HP:=Lh (HP.out.below hI hb9);replace T:=Lh (T.out.move hb9);replace R:=Lh (R.out.move hb9);replace Hb:=Lh (Hb.out.trans ((hb9).mono Hb.out.size));clear hb9
 obtain ⟨C1,hC1⟩:∃ C,C=fcmp a r.1:=⟨_,rfl⟩
 rw[show cmpz (a.z*(r.1.q:Int)) (r.1.z*(a.q:Int))=C1 from hC1.symm]
 have hV:=HV.out
 rw[<- hC1] at hV
 replace HV:=Lh hV
 clear hC1 hV
 by_cases c1:C1<=0
 ·have b2:decide (C1<=0)=true:=decide_eq_true c1
  have EV:=Lh (show V=1 by rw[HV.out,if_pos c1])
  clear c1 T R HP
  go_wp2;go_ret;exact ⟨(by first | (rw[EV.out];done) | (rw[EV.out];rfl)),Hb.out⟩
 have b2:decide (C1<=0)=false:=decide_eq_false c1
 have hV:=HV.out
 rw[if_neg c1] at hV
 replace HV:=Lh hV
 clear c1 hV
 have x0:=T.out.r.c0;have x1:=T.out.r.c1;have x2:=T.out.r.c2;have x3:=T.out.c3;have x4:=T.out.c4;have x5:=T.out.c5;have y0:=R.out.c0;have y1:=R.out.c1;have y2:=R.out.c2
 go_wp2_with fail
 refine (rcmp_any _ _ _ _ _ _ _ _ _ _ _ _ _ _ _ _ _ _ _ R.out.hz.at_ R.out.hq.at_ T.out.hz.at_ T.out.hq.at_ (by omega) (by omega) hc.fz hc.fq hb.fz hb.fq).mono ?_;rintro e w3 ⟨rfl,hb9⟩;clear x0 x1 x2 x3 x4 x5 y0 y1 y2;replace HP:=Lh (HP.out.below hI hb9);replace T:=Lh (T.out.move hb9);replace R:=Lh (R.out.move hb9);replace Hb:=Lh (Hb.out.trans ((hb9).mono Hb.out.size));clear hb9
 obtain ⟨C2,hC2⟩:∃ C,C=fcmp a r.2:=⟨_,rfl⟩
 rw[show cmpz (a.z*(r.2.q:Int)) (r.2.z*(a.q:Int))=C2 from hC2.symm]
 have hV:=HV.out
 rw[<- hC2] at hV
 replace HV:=Lh hV
 clear hC2 hV
 by_cases c2:0<=C2
 ·have b3:decide (0<=C2)=true:=decide_eq_true c2
  have EV:=Lh (show V=-1 by rw[HV.out,if_pos c2])
  clear c2 T R HP
  go_wp2;go_ret;exact ⟨(by first | (rw[EV.out];done) | (rw[EV.out];rfl)),Hb.out⟩
 have b3:decide (0<=C2)=false:=decide_eq_false c2
 have hV:=HV.out
 rw[if_neg c2,<- HS.out,<- HS2.out] at hV
 replace HV:=Lh hV
 clear c2 hV
 have x0:=T.out.r.c0;have x1:=T.out.r.c1;have x2:=T.out.r.c2;have x3:=T.out.c3;have x4:=T.out.c4;have x5:=T.out.c5;have y0:=R.out.c0;have y1:=R.out.c1;have y2:=R.out.c2
 go_wp2_with fail
 refine (signat_any hI _ _ _ Q _ _ _ _ _ _ _ _ _ _ HP.out (pc).fit (by omega) R.out.hz R.out.hq (hc).at.u (hc).at.v (hc).at.pos (pc).ok (hc).at.fz (hc).at.fq).mono ?_;rintro e w4 ⟨he,hb9⟩;have he2:e=.returned (.int .i64 S):=(by rw[HS.out];exact he);subst he2;clear he;clear x0 x1 x2 x3 x4 x5 y0 y1 y2;replace HP:=Lh (HP.out.below hI hb9);replace T:=Lh (T.out.move hb9);replace R:=Lh (R.out.move hb9);replace Hb:=Lh (Hb.out.trans ((hb9).mono Hb.out.size));clear hb9
 by_cases c3:S=0
 ·have b4:(S == 0)=true:=by rw[c3];rfl
  have EV:=Lh (show V=0 by rw[HV.out,if_pos c3])
  clear c3 T R HP
  go_wp2;go_ret;exact ⟨(by first | (rw[EV.out];done) | (rw[EV.out];rfl)),Hb.out⟩
 have b4:(S == 0)=false:=by rw[beq_eq_false_iff_ne];exact c3
 have hV:=HV.out
 rw[if_neg c3] at hV
 replace HV:=Lh hV
 clear c3 hV
 have x0:=T.out.r.c0;have x1:=T.out.r.c1;have x2:=T.out.r.c2;have x3:=T.out.c3;have x4:=T.out.c4;have x5:=T.out.c5;have y0:=R.out.c0;have y1:=R.out.c1;have y2:=R.out.c2
 go_wp2_with fail
 refine (signat_any hI _ _ _ Q _ _ _ _ _ _ _ _ _ _ HP.out (pa).fit (by omega) T.out.r.hz T.out.r.hq (ha).at.u (ha).at.v (ha).at.pos (pa).ok (ha).at.fz (ha).at.fq).mono ?_;rintro e w5 ⟨he,hb9⟩;have he2:e=.returned (.int .i64 S2):=(by rw[HS2.out];exact he);subst he2;clear he;clear x0 x1 x2 x3 x4 x5 y0 y1 y2;replace HP:=Lh (HP.out.below hI hb9);replace T:=Lh (T.out.move hb9);replace R:=Lh (R.out.move hb9);replace Hb:=Lh (Hb.out.trans ((hb9).mono Hb.out.size));clear hb9
 by_cases c4:S=S2
 ·have b5:(S == S2)=true:=by rw[c4];simp
  have EV:=Lh (show V=1 by rw[HV.out,if_pos c4])
  clear c4 T R HP
  go_wp2;go_ret;exact ⟨(by first | (rw[EV.out];done) | (rw[EV.out];rfl)),Hb.out⟩
 ·have b5:(S == S2)=false:=by rw[beq_eq_false_iff_ne];exact c4
  have EV:=Lh (show V=-1 by rw[HV.out,if_neg c4])
  clear c4 T R HP
  go_wp2;go_ret;exact ⟨(by first | (rw[EV.out];done) | (rw[EV.out];rfl)),Hb.out⟩
end Go.Proofs.YtobcbjcnjpgipaaGreat
