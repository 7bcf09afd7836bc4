/- width and within of the statements of chapter 18. -/
import Derived.Test.YtobcbjcnjpgipaaGreatHfw
import Derived.Test.YtobcbjcnjpgipaaGreatFrq
import Derived.Test.YtobcbjcnjpgipaaGreatRsb
namespace Go.Proofs.YtobcbjcnjpgipaaGreat
open Go Go.RowKit
section
variable {w:World} {r:Fq×Fq} {n:Bool} {A:Option Addr} {l c:Nat} {B:Option Addr} {m d:Nat} {n':Bool} {A':Option Addr} {l' c':Nat} {B':Option Addr} {m' d':Nat}
set_option maxRecDepth 100000 in
set_option maxHeartbeats 4000000 in
theorem width_any (hz:IntN w n A l c r.1.z) (hq:NatN w B m d r.1.q) (hz':IntN w n' A' l' c' r.2.z) (hq':NatN w B' m' d' r.2.q) (ha:FqB r.1) (hb:FqB r.2) :
  Calls Tryz.prog 13 #[.agg #[.bool n,.slice A l c,.slice B m d,.bool n',.slice A' l' c',.slice B' m' d']] w fun e w'=>RatE (r.2.sub r.1).z (r.2.sub r.1).q e w'/\Below w.heap.size w w':=by
 have o1:=below_new w (tbox n A l c B m d n' A' l' c' B' m' d')
 have o2:=below_new (w.alloc (tbox n A l c B m d n' A' l' c' B' m' d')) (rbox false none 0 0 none 0 0)
 have b2:Below w.heap.size w ((w.alloc (tbox n A l c B m d n' A' l' c' B' m' d')).alloc (rbox false none 0 0 none 0 0)):=o1.alloc (by simp) _
 have T:=Lh ((TBox.make hz hq hz' hq').move o2)
 have r4:=RBox.nil (w.alloc (tbox n A l c B m d n' A' l' c' B' m' d'))
 simp only[World.size_alloc] at r4
 have R4:=Lh r4
 have Hb:=Lh b2
 obtain ⟨g4,hg4⟩:∃ g,g=w.heap.size+1:=⟨_,rfl⟩
 rw[<- hg4] at R4
 have HG4:=Lh hg4
 have Hg:=Lh (show w.heap.size<=g4 by omega)
 clear hz hq hz' hq' o1 o2 b2 r4 hg4
 go_enter Tryz.func13,Tryz.ntmps13
 have x0:=T.out.r.c0;have x1:=T.out.r.c1;have x2:=T.out.r.c2;have x3:=T.out.c3;have x4:=T.out.c4;have x5:=T.out.c5
 go_wp2_with fail
 refine (rsub_any _ _ _ _ _ _ _ _ _ _ _ _ _ _ _ _ _ _ _ T.out.hz T.out.hq T.out.r.hz T.out.r.hq hb.fz hb.fq hb.p ha.fz ha.fq ha.p).mono ?_
 rintro e w1 ⟨⟨n1,A1,l1,c1,B1,m1,d1,rfl,h1,k1⟩,hb1⟩
 have j4:=R4.out.move hb1
 have HP:=Lh (show IntN (put3 w1 g4 n1 A1 l1 c1 B1 m1 d1) n1 A1 l1 c1 (r.2.sub r.1).z/\NatN (put3 w1 g4 n1 A1 l1 c1 B1 m1 d1) B1 m1 d1 (r.2.sub r.1).q from ⟨(j4.put (z':=(r.2.sub r.1).z) (q':=(r.2.sub r.1).q) h1 k1).hz,(j4.put (z':=(r.2.sub r.1).z) (q':=(r.2.sub r.1).q) h1 k1).hq⟩)
 replace Hb:=Lh (Hb.out.trans (hb1.mono Hb.out.size))
 have r0:=j4.c0
 have r1:=j4.c1
 have r2:=j4.c2
 have r3:=j4.f0
 have r4:=j4.f1
 have r5:=j4.f2
 rw[<- HG4.out]
 clear j4 h1 k1 hb1 x0 x1 x2 x3 x4 x5 T R4
 go_wp2_with fail
 refine bodyPost_ret (v:=.agg #[.bool n1,.slice A1 l1 c1,.slice B1 m1 d1]) (by simp[results,Tryz.results13,go_sem,r0,r1,r2]) rfl ⟨⟨_,_,_,_,_,_,_,rfl,HP.out.1,HP.out.2⟩,?_⟩
 exact ((Hb.out.setCell (p:=⟨g4,0,none⟩) Hg.out _).setCell (p:=⟨g4,1,none⟩) Hg.out _).setCell (p:=⟨g4,2,none⟩) Hg.out _
def wthn (f:List Int) (a r:Fq×Fq):Prop:=vld 1 f a.1 a.2=true/\fcmp r.1 a.1<=0/\fcmp a.2 r.2<=0
variable {s:Fq×Fq} {n₂:Bool} {A₂:Option Addr} {l₂ c₂:Nat} {B₂:Option Addr} {m₂ d₂:Nat} {n₃:Bool} {A₃:Option Addr} {l₃ c₃:Nat} {B₃:Option Addr} {m₃ d₃:Nat}
set_option maxRecDepth 100000 in
set_option maxHeartbeats 4000000 in
theorem within_any {I:IntPred} (hI:IK I) {Af:Option Addr} {lf cf:Nat} {f:List Int} (hf:PolyP I w Af lf cf f) (hl:f.length<=10) (h9:P9 f)
  (hz:IntN w n A l c r.1.z) (hq:NatN w B m d r.1.q) (hz':IntN w n' A' l' c' r.2.z) (hq':NatN w B' m' d' r.2.q) (hs1:IntN w n₂ A₂ l₂ c₂ s.1.z) (hs2:NatN w B₂ m₂ d₂ s.1.q) (hs3:IntN w n₃ A₃ l₃ c₃ s.2.z) (hs4:NatN w B₃ m₃ d₃ s.2.q) (ha:FqB r.1) (hb:FqB r.2) (hc:FqB s.1) (hd:FqB s.2) (hw:wthn f r s) :
  Calls Tryz.prog 11 #[.slice Af lf cf,.agg #[.bool n,.slice A l c,.slice B m d,.bool n',.slice A' l' c',.slice B' m' d'],.agg #[.bool n₂,.slice A₂ l₂ c₂,.slice B₂ m₂ d₂,.bool n₃,.slice A₃ l₃ c₃,.slice B₃ m₃ d₃]] w fun e w'=>e=.returned (.bool true)/\Below w.heap.size w w':=by
 have o1:=below_new w (tbox n A l c B m d n' A' l' c' B' m' d')
 have o2:=below_new (w.alloc (tbox n A l c B m d n' A' l' c' B' m' d')) (tbox n₂ A₂ l₂ c₂ B₂ m₂ d₂ n₃ A₃ l₃ c₃ B₃ m₃ d₃)
 have b2:Below w.heap.size w ((w.alloc (tbox n A l c B m d n' A' l' c' B' m' d')).alloc (tbox n₂ A₂ l₂ c₂ B₂ m₂ d₂ n₃ A₃ l₃ c₃ B₃ m₃ d₃)):=o1.alloc (by simp) _
 have T:=Lh ((TBox.make hz hq hz' hq').move o2)
 have s4:=TBox.make (hs1.below o1) (hs2.below o1) (hs3.below o1) (hs4.below o1)
 simp only[World.size_alloc] at s4
 have S:=Lh s4
 have HP:=Lh (hf.below hI b2)
 have Hb:=Lh b2
 have p1:=ha.p
 have p2:=hb.p
 have p3:=hc.p
 have p4:=hd.p
 obtain ⟨C1,hC1⟩:∃ C,C=fcmp s.1 r.1:=⟨_,rfl⟩
 obtain ⟨C2,hC2⟩:∃ C,C=fcmp r.2 s.2:=⟨_,rfl⟩
 obtain ⟨hw1,hw2,hw3⟩:=hw
 rw[<- hC1] at hw2
 rw[<- hC2] at hw3
 have g1:decide (C1<=0)=true:=decide_eq_true hw2
 have g2:decide (C2<=0)=true:=decide_eq_true hw3
 have HW:=Lh hw1
 have HC1:=Lh hC1
 have HC2:=Lh hC2
 clear hz hq hz' hq' hs1 hs2 hs3 hs4 o1 o2 b2 s4 hf hw1 hw2 hw3 hC1 hC2
 go_enter Tryz.func11,Tryz.ntmps11
 have x0:=T.out.r.c0;have x1:=T.out.r.c1;have x2:=T.out.r.c2;have x3:=T.out.c3;have x4:=T.out.c4;have x5:=T.out.c5
 have y0:=S.out.r.c0;have y1:=S.out.r.c1;have y2:=S.out.r.c2;have y3:=S.out.c3;have y4:=S.out.c4;have y5:=S.out.c5
 go_wp2_with fail
 refine (lawvalid_any hI _ _ _ f r.1 r.2 _ _ _ _ _ _ _ _ _ _ _ _ _ _ _ HP.out (by omega) h9.pq T.out.r.hz T.out.r.hq T.out.hz T.out.hq ha hb).mono ?_
 rintro e w1 ⟨he,hb1⟩
 have he2:e=.returned (.bool true):=by rw[<- HW.out];exact he
 subst he2
 replace T:=Lh (T.out.move hb1)
 replace S:=Lh (S.out.move hb1)
 replace Hb:=Lh (Hb.out.trans (hb1.mono Hb.out.size))
 clear he hb1 x0 x1 x2 x3 x4 x5 y0 y1 y2 y3 y4 y5 HP
 have x0:=T.out.r.c0;have x1:=T.out.r.c1;have x2:=T.out.r.c2;have x3:=T.out.c3;have x4:=T.out.c4;have x5:=T.out.c5
 have y0:=S.out.r.c0;have y1:=S.out.r.c1;have y2:=S.out.r.c2;have y3:=S.out.c3;have y4:=S.out.c4;have y5:=S.out.c5
 go_wp2_with fail
 refine (rcmp_any _ _ _ _ _ _ _ _ _ _ _ _ _ _ _ _ _ _ _ S.out.r.hz.at_ S.out.r.hq.at_ T.out.r.hz.at_ T.out.r.hq.at_ (by omega) (by omega) hc.fz hc.fq ha.fz ha.fq).mono ?_
 rintro e w2 ⟨rfl,hb1⟩
 rw[show cmpz (s.1.z*(r.1.q:Int)) (r.1.z*(s.1.q:Int))=C1 from HC1.out.symm]
 replace T:=Lh (T.out.move hb1)
 replace S:=Lh (S.out.move hb1)
 replace Hb:=Lh (Hb.out.trans (hb1.mono Hb.out.size))
 clear hb1 x0 x1 x2 x3 x4 x5 y0 y1 y2 y3 y4 y5
 have x0:=T.out.r.c0;have x1:=T.out.r.c1;have x2:=T.out.r.c2;have x3:=T.out.c3;have x4:=T.out.c4;have x5:=T.out.c5
 have y0:=S.out.r.c0;have y1:=S.out.r.c1;have y2:=S.out.r.c2;have y3:=S.out.c3;have y4:=S.out.c4;have y5:=S.out.c5
 go_wp2_with fail
 refine (rcmp_any _ _ _ _ _ _ _ _ _ _ _ _ _ _ _ _ _ _ _ T.out.hz.at_ T.out.hq.at_ S.out.hz.at_ S.out.hq.at_ (by omega) (by omega) hb.fz hb.fq hd.fz hd.fq).mono ?_
 rintro e w3 ⟨rfl,hb1⟩
 rw[show cmpz (r.2.z*(s.2.q:Int)) (s.2.z*(r.2.q:Int))=C2 from HC2.out.symm]
 replace Hb:=Lh (Hb.out.trans (hb1.mono Hb.out.size))
 clear hb1 x0 x1 x2 x3 x4 x5 y0 y1 y2 y3 y4 y5 T S
 go_wp2
 go_ret
 exact ⟨by first | rfl | simp,Hb.out⟩
end
end Go.Proofs.YtobcbjcnjpgipaaGreat
