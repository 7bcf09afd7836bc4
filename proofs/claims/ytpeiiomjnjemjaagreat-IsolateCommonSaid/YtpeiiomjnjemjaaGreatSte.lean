/- The walks of rational.Normal, unipoly.scaled and unipoly.SignAt. -/
import Derived.Test.YtpeiiomjnjemjaaGreatStd
import Derived.Test.YtpeiiomjnjemjaaGreatLin
import Derived.Test.YtpeiiomjnjemjaaGreatRed
namespace Go.Proofs.YtpeiiomjnjemjaaGreat
open Go.RowKit
set_option maxRecDepth 100000 in
set_option maxHeartbeats 1000000 in
theorem rnormal_any (n:Bool) (A:Option Addr) (l c:Nat) (B:Option Addr) (m d q:Nat) (z:Int) (w:World) (hz:IntN w n A l c z) (hq:NatN w B m d q) (hu:Fit z) (hv:Fit (q:Int)) (h0:0<q) :
  Calls Tryz.prog 73 #[.agg #[.bool n,.slice A l c,.slice B m d]] w fun e w'=>RatE (z.tdiv (Nat.gcd z.natAbs q)) (q / Nat.gcd z.natAbs q) e w'/\Below w.heap.size w w':=by
 have hbx:Below w.heap.size w (w.alloc (rbox n A l c B m d)):=(Below.refl _ _).alloc (Nat.le_refl _) _
 have hby:Below (w.alloc (rbox n A l c B m d)).heap.size (w.alloc (rbox n A l c B m d)) ((w.alloc (rbox n A l c B m d)).alloc (rbox false none 0 0 none 0 0)):=(Below.refl _ _).alloc (Nat.le_refl _) _
 have hb0:=hbx.trans (hby.mono hbx.size)
 have hz1:=hz.below hb0
 have hq1:=hq.below hb0
 have hr:=RBox.nil (w.alloc (rbox n A l c B m d))
 simp only[World.size_alloc] at hr
 have HR:=Lh hr
 have Hb0:=Lh hb0
 have hsq:Sm q:=by have h:=hv.sm;unfold SmI at h;rw[Int.natAbs_natCast] at h;exact h
 clear hz hq hbx hby hb0 hr
 go_enter Tryz.func73,Tryz.ntmps73
 go_wp2_with fail
 refine (parts_any _ _ _ _ _ _ _ _ _ hq1.at_ hsq (by omega)).mono ?_
 rintro e w1 ⟨rfl,hb1⟩
 have hz2:=hz1.below hb1
 have hq2:=hq1.below hb1
 have hqi:IntN w1 false B m d (q:Int):=⟨by rw[Int.natAbs_natCast];exact hq2,by simp⟩
 have HR1:=Lh (HR.out.move hb1)
 have Hb1:=Lh (Hb0.out.trans (hb1.mono Hb0.out.size))
 clear hz1 hq1 hq2 hb1 HR Hb0
 go_wp2_with fail
 refine (reduce_all _ _ _ _ _ _ _ _ _ _ _ hz2 hqi hu.sm hv.sm h0).mono ?_
 rintro e w3 ⟨⟨n3,A3,l3,c3,B3,m3,d3,rfl,h3,h4⟩,hb3⟩
 have HR3:=Lh (HR1.out.move hb3)
 have Hb3:=Lh (Hb1.out.trans (hb3.mono Hb1.out.size))
 have HP:=Lh (HR3.out.put h3 h4)
 have r0:=HR3.out.c0
 have r1:=HR3.out.c1
 have r2:=HR3.out.c2
 have r3:=HR3.out.f0
 have r4:=HR3.out.f1
 have r5:=HR3.out.f2
 have HbP:=Lh (((Hb3.out.setCell (p:=⟨w.heap.size+1,0,none⟩) (by first | (simp;done) | (simp;omega) | omega) (.bool n3)).setCell (p:=⟨w.heap.size+1,1,none⟩) (by first | (simp;done) | (simp;omega) | omega) (.slice A3 l3 c3)).setCell (p:=⟨w.heap.size+1,2,none⟩) (by first | (simp;done) | (simp;omega) | omega) (.slice B3 m3 d3))
 clear hz2 hqi hb3 h3 h4 HR1 Hb1 HR3 Hb3
 go_wp2
 refine bodyPost_ret (v:=.agg #[.bool n3,.slice A3 l3 c3,.slice B3 m3 d3]) (by simp[results,Tryz.results73,go_sem,r0,r1,r2]) rfl ⟨⟨_,_,_,_,_,_,_,rfl,HP.out.hz,HP.out.hq⟩,HbP.out⟩
def scs (p:List Int) (z q:Int) (n:Nat):Nat->Int×Int
 | 0=>(0,1)
 | t+1 =>
   let s:=scs p z q n t
   let pw:=if t=0 then s.2 else s.2*q
   (s.1*z+p.getD (n-1-t) 0*pw,pw)
def ScOK (p:List Int) (z q:Int):Prop:=∀ t,t<=plen p->Fit (scs (ptrim p) z q (plen p) t).1/\Fit (scs (ptrim p) z q (plen p) t).2
def sval (p:List Int) (z q:Int):Int:=(scs (ptrim p) z q (plen p) (plen p)).1
theorem IBox.farR {W:World} {g g':Nat} {n n':Bool} {A A' B':Option Addr} {l c l' c' m' d':Nat} {z z':Int} {q':Nat} (h:IBox W g n A l c z) (h':RBox W g' n' A' l' c' B' m' d' z' q') (hg:g≠g') (u v x:Value):IBox (((W.setCell ⟨g',0,none⟩ u).setCell ⟨g',1,none⟩ v).setCell ⟨g',2,none⟩ x) g n A l c z:=by
 have k0:=h.c0
 have k1:=h.c1
 have f0:=h.f0
 have f1:=h.f1
 have j0:=h'.c0
 have j1:=h'.c1
 have j2:=h'.c2
 have j2':((W.setCell ⟨g',0,none⟩ u).setCell ⟨g',1,none⟩ v).cell? ⟨g',2,none⟩=some (.slice B' m' d'):=by
  rw[World.cell?_setCell_other _ _ _ _ (by simp),World.cell?_setCell_other _ _ _ _ (by simp)];exact j2
 exact ⟨by go_simp,by go_simp,by go_simp,by go_simp,by simpa [World.setCell] using h.lt,(h.hz.ret _ _ j0 j1).store _ j2' (noDigit_slice _ _ _)⟩
set_option maxRecDepth 100000 in
set_option maxHeartbeats 8000000 in
theorem scaled_two {I:IntPred} (hI:IK I) (A:Option Addr) (len cap:Nat) (p:List Int) (n:Bool) (N:Option Addr) (nl nc:Nat) (B:Option Addr) (m d q:Nat) (z:Int) (w:World) (h:PolyP I w A len cap p) (hp:FitP p) (hm:len<=1000000) (hz:IntN w n N nl nc z) (hq:NatN w B m d q) (hu:Fit z) (hv:Fit (q:Int)) (h0:0<q)
  (hok:ScOK p (z.tdiv (Nat.gcd z.natAbs q)) ((q / Nat.gcd z.natAbs q:Nat):Int)) (fz:Fit (z.tdiv (Nat.gcd z.natAbs q))) (fq:Fit ((q / Nat.gcd z.natAbs q:Nat):Int)) :
  Calls Tryz.prog 43 #[.slice A len cap,.agg #[.bool n,.slice N nl nc,.slice B m d]] w fun e w'=>∃ n1 A1 l1 c1 n2 A2 l2 c2,e=.returned (.tuple #[.agg #[.bool n1,.slice A1 l1 c1],.agg #[.bool n2,.slice A2 l2 c2]])/\IntN w' n1 A1 l1 c1 (sval p (z.tdiv (Nat.gcd z.natAbs q)) ((q / Nat.gcd z.natAbs q:Nat):Int))/\IntN w' n2 A2 l2 c2 (scs (ptrim p) (z.tdiv (Nat.gcd z.natAbs q)) ((q / Nat.gcd z.natAbs q:Nat):Int) (plen p) (plen p)).2/\Below w.heap.size w w':=by
 obtain ⟨Z,hZ⟩:∃ Z,Z=z.tdiv (Nat.gcd z.natAbs q):=⟨_,rfl⟩
 obtain ⟨Q,hQ⟩:∃ Q:Nat,Q=q / Nat.gcd z.natAbs q:=⟨_,rfl⟩
 rw[<- hZ,<- hQ] at hok ⊢
 rw[<- hZ] at fz
 rw[<- hQ] at fq
 obtain ⟨k,hk⟩:∃ k,k=plen p:=⟨_,rfl⟩
 obtain ⟨P,hP⟩:∃ P,P=ptrim p:=⟨_,rfl⟩
 obtain ⟨S,hS⟩:∃ S,S=scs P Z (Q:Int) k:=⟨_,rfl⟩
 have hfin:PolyP I w A k cap P:=by rw[hk,hP];exact h.take (by have:=plen_le p;have:=h.length;omega)
 have hkl:k<=len:=by have:=plen_le p;have:=h.length;omega
 have hpP:FitP P:=by rw[hP];exact hp.trim
 have OK:Hid (∀ t,t<=k->Fit (S t).1/\Fit (S t).2):=Lh (by rw[hS,hP,hk];exact hok)
 have SV:Hid (sval p Z (Q:Int)=(S k).1):=Lh (by unfold sval;rw[hS,hP,hk])
 have SV2:Hid ((scs (ptrim p) Z (Q:Int) (plen p) (plen p)).2=(S k).2):=Lh (by rw[hS,hP,hk])
 have S0:Hid (S 0=(0,1)):=Lh (by rw[hS];rfl)
 have SS:Hid (∀ t,S (t+1)=((S t).1*Z+P.getD (k-1-t) 0*(if t=0 then (S t).2 else (S t).2*(Q:Int)),if t=0 then (S t).2 else (S t).2*(Q:Int))):=Lh (fun t=>by rw[hS];rfl)
 have HZ:=Lh hZ
 have HQ:=Lh hQ
 have Hk:=Lh hk
 have HP:=Lh hP
 have HF:=Lh hfin
 obtain ⟨V,hV⟩:∃ V,V=sval p Z (Q:Int):=⟨_,rfl⟩
 rw[<- hV] at SV ⊢
 obtain ⟨V2,hV2⟩:∃ V2,V2=(scs (ptrim p) Z (Q:Int) (plen p) (plen p)).2:=⟨_,rfl⟩
 rw[<- hV2] at SV2 ⊢
 have sfp:=hp.smp
 have hbx:Below w.heap.size w (w.alloc (rbox n N nl nc B m d)):=(Below.refl _ _).alloc (Nat.le_refl _) _
 have hby:Below (w.alloc (rbox n N nl nc B m d)).heap.size (w.alloc (rbox n N nl nc B m d)) ((w.alloc (rbox n N nl nc B m d)).alloc (ibox false none 0 0)):=(Below.refl _ _).alloc (Nat.le_refl _) _
 have hbz:Below ((w.alloc (rbox n N nl nc B m d)).alloc (ibox false none 0 0)).heap.size ((w.alloc (rbox n N nl nc B m d)).alloc (ibox false none 0 0)) (((w.alloc (rbox n N nl nc B m d)).alloc (ibox false none 0 0)).alloc (ibox false none 0 0)):=(Below.refl _ _).alloc (Nat.le_refl _) _
 have hR:=((RBox.make hz hq).move hby).move hbz
 have hv4:=(IBox.nil (w.alloc (rbox n N nl nc B m d))).move hbz
 have hv5:=IBox.nil ((w.alloc (rbox n N nl nc B m d)).alloc (ibox false none 0 0))
 simp only[World.size_alloc] at hv4 hv5
 have hb0:=hbx.trans ((hby.trans (hbz.mono hby.size)).mono hbx.size)
 have h1:=h.below hI hb0
 have HR:=Lh hR
 have H4:=Lh hv4
 have H5:=Lh hv5
 have Hb0:=Lh hb0
 clear h hz hq hbx hby hbz hR hv4 hv5 hb0 hok hZ hQ hk hP hS hfin hV hV2
 go_enter Tryz.func43,Tryz.ntmps43
 go_wp2_with fail
 refine (ptrim_any hI _ _ _ _ _ h1 sfp (by omega)).mono ?_
 rintro e w1 ⟨l1,rfl,-,hl1,hb1⟩
 rw[<- Hk.out] at hl1
 subst hl1
 have HR1:=Lh (HR.out.move hb1)
 have H41:=Lh (H4.out.move hb1)
 have H51:=Lh (H5.out.move hb1)
 have Hb1:=Lh (Hb0.out.trans (hb1.mono Hb0.out.size))
 clear h1 hb1 HR H4 H5 Hb0
 have r0:=HR1.out.c0
 have r1:=HR1.out.c1
 have r2:=HR1.out.c2
 go_wp2_with fail
 refine (rnormal_any _ _ _ _ _ _ _ _ _ _ HR1.out.hz HR1.out.hq hu hv h0).mono ?_
 rintro e w2 ⟨⟨n3,A3,l3,c3,B3,m3,d3,rfl,h3,h4⟩,hb2⟩
 rw[<- HZ.out] at h3
 rw[<- HQ.out] at h4
 have HR2:=Lh (HR1.out.move hb2)
 have H42:=Lh (H41.out.move hb2)
 have H52:=Lh (H51.out.move hb2)
 have Hb2:=Lh (Hb1.out.trans (hb2.mono Hb1.out.size))
 have h3':=Lh h3
 have h4':=Lh h4
 clear h3 h4 hb2 HR1 H41 H51 Hb1 r0 r1 r2
 have r0:=HR2.out.c0
 have r1:=HR2.out.c1
 have r2:=HR2.out.c2
 have r3:=HR2.out.f0
 have r4:=HR2.out.f1
 have r5:=HR2.out.f2
 have x0:=H42.out.c0
 have x1:=H42.out.c1
 have y0:=H52.out.c0
 have y1:=H52.out.c1
 have hlt4:=H42.out.lt
 have hlt5:=H52.out.lt
 have hRP:=HR2.out.put h3'.out h4'.out
 have hXP:IBox (put3 w2 w.heap.size n3 A3 l3 c3 B3 m3 d3) (w.heap.size+1) false none 0 0 0:=H42.out.farR HR2.out (by omega) (.bool n3) (.slice A3 l3 c3) (.slice B3 m3 d3)
 have hYP:IBox (put3 w2 w.heap.size n3 A3 l3 c3 B3 m3 d3) (w.heap.size+1+1) false none 0 0 0:=H52.out.farR HR2.out (by omega) (.bool n3) (.slice A3 l3 c3) (.slice B3 m3 d3)
 have hqP:IntN (put3 w2 w.heap.size n3 A3 l3 c3 B3 m3 d3) false B3 m3 d3 (Q:Int):=⟨by rw[Int.natAbs_natCast];exact hRP.hq,by simp⟩
 have hbP:Below w.heap.size w (put3 w2 w.heap.size n3 A3 l3 c3 B3 m3 d3):=((Hb2.out.setCell (p:=⟨w.heap.size,0,none⟩) (Nat.le_refl _) _).setCell (p:=⟨w.heap.size,1,none⟩) (Nat.le_refl _) _).setCell (p:=⟨w.heap.size,2,none⟩) (Nat.le_refl _) _
 have hszP:(put3 w2 w.heap.size n3 A3 l3 c3 B3 m3 d3).heap.size=w2.heap.size:=by simp[World.setCell]
 obtain ⟨wp,hwp⟩:∃ wp,wp=put3 w2 w.heap.size n3 A3 l3 c3 B3 m3 d3:=⟨_,rfl⟩
 rw[<- hwp] at hRP hXP hYP hqP hbP hszP
 have hba:Below wp.heap.size wp (wp.alloc (ibox false B3 m3 d3)):=(Below.refl _ _).alloc (Nat.le_refl _) _
 have HR3:=Lh (hRP.move hba)
 have H43:=Lh (hXP.move hba)
 have H53:=Lh (hYP.move hba)
 have hq6:=IBox.make hqP
 rw[hszP] at hq6
 have H63:=Lh hq6
 have Hb3:=Lh (hbP.trans (hba.mono hbP.size))
 rw[hwp] at HR3 H43 H53 H63 Hb3
 clear hRP hXP hYP hqP hbP hszP hwp hba hq6 HR2 H42 H52 Hb2 h3' h4'
 go_wp2_with fail
 refine (iof_any 1 _ (by unfold I64;omega)).mono ?_
 rintro e w4 ⟨n5,A5,l5,c5,rfl,h5,hb4⟩
 have HR4:=Lh (HR3.out.move hb4)
 have H44:=Lh (H43.out.move hb4)
 have h54:=H53.out.move hb4
 have H64:=Lh (H63.out.move hb4)
 have hb4':=Hb3.out.trans (hb4.mono Hb3.out.size)
 have HR5:=Lh (HR4.out.farI h54 (by omega) (.bool n5) (.slice A5 l5 c5))
 have H45:=Lh (H44.out.far h54 (by omega) (.bool n5) (.slice A5 l5 c5))
 have H55:=Lh (h54.put h5)
 have H65:=Lh (H64.out.far h54 (by omega) (.bool n5) (.slice A5 l5 c5))
 have Hb5:=Lh ((hb4'.setCell (p:=⟨w.heap.size+1+1,0,none⟩) (by simp;omega) (.bool n5)).setCell (p:=⟨w.heap.size+1+1,1,none⟩) (by simp;omega) (.slice A5 l5 c5))
 clear r0 r1 r2 r3 r4 r5 x0 x1 y0 y1
 have y0:=h54.c0
 have y1:=h54.c1
 have y2:=h54.f0
 have y3:=h54.f1
 have hg6:w.heap.size+1+1<w2.heap.size:=hlt5
 clear h5 hb4 hb4' h54 HR3 H43 H53 H63 Hb3 HR4 H44 H64 hlt4 hlt5
 obtain ⟨g6,hg6e⟩:∃ g6,g6=w2.heap.size:=⟨_,rfl⟩
 have hw1:IntKind.i64.wrap ((l1:Int)-1)=(l1:Int)-1:=IntWalk.i64_in _ (by omega)
 go_wp2
 clear y0 y1 y2 y3
 rw[<- hg6e] at H65 hg6 ⊢
 clear hg6e
 go_loopw [7] (fun s7 wr=>∃ (t:Nat) (n4:Bool) (A4:Option Addr) (l4 c4:Nat) (n5:Bool) (A5:Option Addr) (l5 c5:Nat),t<=l1/\s7=.int .i64 ((l1:Int)-1-(t:Int))/\RBox wr w.heap.size n3 A3 l3 c3 B3 m3 d3 Z Q/\IBox wr (w.heap.size+1) n4 A4 l4 c4 (S t).1/\IBox wr (w.heap.size+1+1) n5 A5 l5 c5 (S t).2/\IBox wr g6 false B3 m3 d3 (Q:Int)/\Below w.heap.size w wr) (fun s7 _=>(intOf s7+1).toNat)
 case atStart=>exact ⟨0,_,_,_,_,_,_,_,_,Nat.zero_le _,by go_num,HR5.out,by rw[S0.out];exact H45.out,by rw[S0.out];exact H55.out,H65.out,Hb5.out⟩
 case round =>
  clear HR5 H45 H55 H65 Hb5
  obtain ⟨t,n4,A4,l4,c4,n5,A5,l5,c5,htl,rfl,hr,h4,h5,h6,hbw⟩:=hrel
  by_cases hlt:t<l1
  ·obtain ⟨ix,hix⟩:∃ ix:Nat,ix=l1-1-t:=⟨_,rfl⟩
   have e0:(l1:Int)-1-(t:Int)=(ix:Int):=by omega
   rw[e0]
   have hixl:ix<l1:=by omega
   have Hix:=Lh hix
   have y0:=h5.c0
   have y1:=h5.c1
   have y2:=h5.f0
   have y3:=h5.f1
   have q0:=h6.c0
   have q1:=h6.c1
   have HR:=Lh hr
   have H4:=Lh h4
   have H5:=Lh h5
   have H6:=Lh h6
   have Hbw:=Lh hbw
   clear hr h4 h5 h6 hbw e0 hix
   obtain ⟨pw,hpw⟩:∃ pw,pw=(if t=0 then (S t).2 else (S t).2*(Q:Int)):=⟨_,rfl⟩
   have Hpw:=Lh hpw
   clear hpw
   go_upto_if 27 with (fail)
   go_cut [] (fun wx=>∃ n5 A5 l5 c5,RBox wx w.heap.size n3 A3 l3 c3 B3 m3 d3 Z Q/\IBox wx (w.heap.size+1) n4 A4 l4 c4 (S t).1/\IBox wx (w.heap.size+1+1) n5 A5 l5 c5 pw/\IBox wx g6 false B3 m3 d3 (Q:Int)/\Below w.heap.size w wx)
   case first =>
    by_cases ht0:t=0
    ·have hc:¬ ((ix:Int)<(l1:Int)-1):=by have:=Hix.out;omega
     have hpe:pw=(S t).2:=by rw[Hpw.out,if_pos ht0]
     have Hpe:=Lh hpe
     clear ht0 hpe
     go_wp2_with (fail)
     go_meet
     exact ⟨_,_,_,_,HR.out,H4.out,by rw[Hpe.out];exact H5.out,H6.out,Hbw.out⟩
    ·have hc:(ix:Int)<(l1:Int)-1:=by have:=Hix.out;omega
     have hpe:pw=(S t).2*(Q:Int):=by rw[Hpw.out,if_neg ht0]
     have Hpe:=Lh hpe
     have fs:=(OK.out t htl).2
     clear ht0 hpe
     go_wp2_with (fail)
     refine (imul_any _ _ _ _ _ _ _ _ _ _ _ H5.out.hz.at_ H6.out.hz.at_ fs.sm fq.sm (fs.mulok _)).mono ?_
     rintro e w7 ⟨n7,A7,l7,c7,rfl,h7,hb7⟩
     rw[<- Hpe.out] at h7
     have hr:=HR.out.move hb7
     have h4:=H4.out.move hb7
     have h5:=H5.out.move hb7
     have h6:=H6.out.move hb7
     have hb:=Hbw.out.trans (hb7.mono Hbw.out.size)
     have HRa:=Lh (hr.farI h5 (by omega) (.bool n7) (.slice A7 l7 c7))
     have H4a:=Lh (h4.far h5 (by omega) (.bool n7) (.slice A7 l7 c7))
     have H5a:=Lh (h5.put h7)
     have H6a:=Lh (h6.far h5 (by omega) (.bool n7) (.slice A7 l7 c7))
     have Hba:=Lh ((hb.setCell (p:=⟨w.heap.size+1+1,0,none⟩) (by simp;omega) (.bool n7)).setCell (p:=⟨w.heap.size+1+1,1,none⟩) (by simp;omega) (.slice A7 l7 c7))
     have v0:=h5.c0
     have v1:=h5.c1
     have v2:=h5.f0
     have v3:=h5.f1
     clear h7 hb7 hr h4 h5 h6 hb HR H4 H5 H6 Hbw y0 y1 y2 y3 q0 q1
     go_wp2_with (fail)
     go_meet
     exact ⟨_,_,_,_,HRa.out,H4a.out,H5a.out,H6a.out,Hba.out⟩
   case rest =>
    clear HR H4 H5 H6 Hbw y0 y1 y2 y3 q0 q1
    obtain ⟨n5,A5,l5,c5,hr,h4,h5,h6,hbw⟩:=hcut
    have e1:S (t+1)=((S t).1*Z+P.getD ix 0*pw,pw):=by rw[SS.out t,<- Hpw.out,<- Hix.out]
    have HE:=Lh e1
    obtain ⟨b1,o1,rfl,hb1,hc1⟩:=HF.out.get (by omega)
    obtain ⟨nf,Af,lf,cf,f0,f1,zf⟩:=hc1 ix hixl
    have e2:=(hbw.cell (p:=⟨b1,o1+ix*2,none⟩) hb1).trans f0
    have e3:=(hbw.cell (p:=⟨b1,o1+ix*2+1,none⟩) hb1).trans f1
    have ZF:=Lh ((hI.at_ zf).below hbw)
    have fv:=(OK.out t htl).1
    have fpw:Fit pw:=by have h1:=(OK.out (t+1) (by omega)).2;rw[e1] at h1;exact h1
    have fc:=hpP ix
    have m1:MulOK (S t).1.natAbs Z.natAbs:=fv.mulok _
    have m2:MulOK (P.getD ix 0).natAbs pw.natAbs:=fc.mulok _
    have t1:=fv.sm2 fz
    have t2:=fc.sm2 fpw
    have ssum:Sm (((S t).1*Z).natAbs+(P.getD ix 0*pw).natAbs):=by
     have a1:=fv.mul fz
     have a2:=fc.mul fpw
     refine sm_pow (k:=FW+FW+1) ?_ (by rw[FW_eq];omega)
     have a3:2*BB^(FW+FW)<BB^(FW+FW+1):=mulpow_lt (by omega)
     omega
    have r0:=hr.c0
    have r1:=hr.c1
    have v0:=h4.c0
    have v1:=h4.c1
    have v2:=h4.f0
    have v3:=h4.f1
    have p0:=h5.c0
    have p1:=h5.c1
    have nb1:w.heap.size≠b1:=by omega
    have nb2:w.heap.size+1≠b1:=by omega
    have nb3:w.heap.size+1+1≠b1:=by omega
    have sv1:=fv.sm
    have sz1:=fz.sm
    have sc1:=fc.sm
    have sp1:=fpw.sm
    have HR:=Lh hr
    have H4:=Lh h4
    have H5:=Lh h5
    have H6:=Lh h6
    have Hbw:=Lh hbw
    clear hr h4 h5 h6 hbw hb1 hc1 f0 f1 zf e1 fv fpw fc
    go_wp2_with fail
    refine wp_region_last (S:=fun w'=>w'.cell? ⟨b1,o1+ix*2,none⟩=some (.bool nf)/\w'.cell? ⟨b1,o1+ix*2+1,none⟩=some (.slice Af lf cf)/\w'.cell? ⟨w.heap.size,0,none⟩=some (.bool n3)/\w'.cell? ⟨w.heap.size,1,none⟩=some (.slice A3 l3 c3)/\w'.cell? ⟨w.heap.size+1,0,none⟩=some (.bool n4)/\w'.cell? ⟨w.heap.size+1,1,none⟩=some (.slice A4 l4 c4)/\w'.cell? ⟨w.heap.size+1+1,0,none⟩=some (.bool n5)/\w'.cell? ⟨w.heap.size+1+1,1,none⟩=some (.slice A5 l5 c5)) (by kernel_rfl) (by kernel_rfl) (by (try dsimp only);go_keep) (fun hHeld=>?_)
    simp only[List.pop_toArray,List.dropLast]
    (refine tq 0 ?_;simp only[put_lit,List.set])
    (refine tq 1 ?_;simp only[put_lit,List.set])
    (refine tq 2 ?_;simp only[put_lit,List.set])
    (refine tq 4 ?_;simp only[put_lit,List.set])
    (refine tq 5 ?_;simp only[put_lit,List.set])
    (refine tq 6 ?_;simp only[put_lit,List.set])
    (refine tq 7 ?_;simp only[put_lit,List.set])
    (refine tq 8 ?_;simp only[put_lit,List.set])
    refine rdy 3 (fun K hK=>?_);go_simp
    refine (imul_any _ _ _ _ _ _ _ _ _ _ _ ?_ ?_ sv1 sz1 m1).mono ?_
    ·exact H4.out.hz.at_.below Bel.go
    ·exact HR.out.hz.at_.below Bel.go
    rintro e w7 ⟨n7,A7,l7,c7,rfl,h7,hb7⟩
    obtain ⟨hcx,hfx⟩:=bcellS hb7
    replace HR:=Lh (HR.out.move (Below.trans Bel.go (hb7.mono (by simp<;>omega))))
    replace H4:=Lh (H4.out.move (Below.trans Bel.go (hb7.mono (by simp<;>omega))))
    replace H5:=Lh (H5.out.move (Below.trans Bel.go (hb7.mono (by simp<;>omega))))
    replace H6:=Lh (H6.out.move (Below.trans Bel.go (hb7.mono (by simp<;>omega))))
    replace ZF:=Lh (ZF.out.below (Below.trans Bel.go (hb7.mono (by simp<;>omega))))
    replace Hbw:=Lh (Hbw.out.trans ((Below.trans Bel.go (hb7.mono (by simp<;>omega))).mono Hbw.out.size))
    have H7:=Lh h7
    refine hK.out _ _ ?_ (fun _=>?_)
    ·((try dsimp only);repeat' apply And.intro)<;>(rw[hcx _ (by go_simp)];go_simp)
    clear hHeld hK K hcx hfx;rename_i hHeld
    clear h7 hb7
    refine rdy 9 (fun K hK=>?_);go_simp
    refine (imul_any _ _ _ _ _ _ _ _ _ _ _ ?_ ?_ sc1 sp1 m2).mono ?_
    ·exact ZF.out.below Bel.go
    ·exact H5.out.hz.at_.below Bel.go
    rintro e w8 ⟨n8,A8,l8,c8,rfl,h8,hb8⟩
    obtain ⟨hcx,hfx⟩:=bcellS hb8
    replace HR:=Lh (HR.out.move (Below.trans Bel.go (hb8.mono (by simp<;>omega))))
    replace H4:=Lh (H4.out.move (Below.trans Bel.go (hb8.mono (by simp<;>omega))))
    replace H5:=Lh (H5.out.move (Below.trans Bel.go (hb8.mono (by simp<;>omega))))
    replace H6:=Lh (H6.out.move (Below.trans Bel.go (hb8.mono (by simp<;>omega))))
    replace H7:=Lh (H7.out.below (Below.trans Bel.go (hb8.mono (by simp<;>omega))))
    replace Hbw:=Lh (Hbw.out.trans ((Below.trans Bel.go (hb8.mono (by simp<;>omega))).mono Hbw.out.size))
    have H8:=Lh h8
    refine hK.out _ _ ?_ (fun _=>?_)
    ·((try dsimp only);repeat' apply And.intro)<;>(rw[hcx _ (by go_simp)];go_simp)
    clear hHeld hK K hcx hfx;rename_i hHeld
    clear h8 hb8
    refine rdy 10 (fun K hK=>?_);go_simp
    refine (iadd_any _ _ _ _ _ _ _ _ _ _ _ ?_ ?_ t1 t2 ssum).mono ?_
    ·exact H7.out.at_.below Bel.go
    ·exact H8.out.at_.below Bel.go
    rintro e w9 ⟨n9,A9,l9,c9,rfl,h9,hb9⟩
    obtain ⟨hcx,hfx⟩:=bcellS hb9
    have hr:=HR.out.move (Below.trans Bel.go (hb9.mono (by simp<;>omega)))
    have h4:=H4.out.move (Below.trans Bel.go (hb9.mono (by simp<;>omega)))
    have h5:=H5.out.move (Below.trans Bel.go (hb9.mono (by simp<;>omega)))
    have h6:=H6.out.move (Below.trans Bel.go (hb9.mono (by simp<;>omega)))
    have Hb9:=Lh (Hbw.out.trans ((Below.trans Bel.go (hb9.mono (by simp<;>omega))).mono Hbw.out.size))
    refine hK.out _ _ ?_ (fun _=>?_)
    ·((try dsimp only);repeat' apply And.intro)<;>(rw[hcx _ (by go_simp)];go_simp)
    clear hHeld hK K hcx hfx;rename_i hHeld
    refine wpAnyH_done (by kernel_rfl) (lastQ_list rfl ?_) _
    have HRa:=Lh (hr.farI h4 (by omega) (.bool n9) (.slice A9 l9 c9))
    have H4a:=Lh (h4.put h9)
    have H5a:=Lh (h5.far h4 (by omega) (.bool n9) (.slice A9 l9 c9))
    have H6a:=Lh (h6.far h4 (by omega) (.bool n9) (.slice A9 l9 c9))
    have Hba:=Lh ((Hb9.out.setCell (p:=⟨w.heap.size+1,0,none⟩) (by simp) (.bool n9)).setCell (p:=⟨w.heap.size+1,1,none⟩) (by simp) (.slice A9 l9 c9))
    clear v0 v1 v2 v3 r0 r1 p0 p1 e2 e3
    have v0:=h4.c0
    have v1:=h4.c1
    have v2:=h4.f0
    have v3:=h4.f1
    clear hHeld hr h4 h5 h6 h9 hb9 HR H4 H5 H6 H7 H8 Hbw Hb9 ZF
    go_wp2
    go_roundw
    case rel=>exact ⟨t+1,_,_,_,_,_,_,_,_,by omega,by have:=Hix.out;go_num,HRa.out,by rw[HE.out];exact H4a.out,by rw[HE.out];exact H5a.out,H6a.out,Hba.out⟩
    case measure=>have:=Hix.out;simp[intOf]<;>omega
  ·have ht2:l1=t:=by omega
   subst ht2
   have e0:(l1:Int)-1-(l1:Int)=-1:=by omega
   rw[e0]
   have v0:=h4.c0
   have v1:=h4.c1
   have v2:=h4.f0
   have v3:=h4.f1
   have p0:=h5.c0
   have p1:=h5.c1
   have p2:=h5.f0
   have p3:=h5.f1
   have HR:=Lh hr
   have H4:=Lh h4
   have H5:=Lh h5
   have Hbw:=Lh hbw
   clear hr h4 h5 h6 hbw e0
   have hne45:w.heap.size+1≠w.heap.size+1+1:=by omega
   have K4:=Lh (H4.out.put H4.out.hz)
   have K5a:=H5.out.far H4.out (by omega) (.bool n4) (.slice A4 l4 c4)
   have K4b:=(H4.out.put H4.out.hz).far K5a (by omega) (.bool n5) (.slice A5 l5 c5)
   have K5:=Lh (K5a.put K5a.hz)
   have K4c:=Lh K4b
   have K5r:=Lh K5a
   clear K5a K4b
   go_wp2_with fail
   go_region
   go_wp2
   obtain ⟨WW,hWW⟩:∃ WW,WW=put2 (put2 wr (w.heap.size+1) n4 A4 l4 c4) (w.heap.size+1+1) n5 A5 l5 c5:=⟨_,rfl⟩
   have K4':IBox (put2 (put2 wr (w.heap.size+1) n4 A4 l4 c4) (w.heap.size+1+1) n5 A5 l5 c5) (w.heap.size+1) n4 A4 l4 c4 (S l1).1:=K4c.out
   have K5':IBox (put2 (put2 wr (w.heap.size+1) n4 A4 l4 c4) (w.heap.size+1+1) n5 A5 l5 c5) (w.heap.size+1+1) n5 A5 l5 c5 (S l1).2:=K5.out
   have hbW:Below w.heap.size w (put2 (put2 wr (w.heap.size+1) n4 A4 l4 c4) (w.heap.size+1+1) n5 A5 l5 c5):=(((Hbw.out.setCell (p:=⟨w.heap.size+1,0,none⟩) (by simp) _).setCell (p:=⟨w.heap.size+1,1,none⟩) (by simp) _).setCell (p:=⟨w.heap.size+1+1,0,none⟩) (by simp;omega) _).setCell (p:=⟨w.heap.size+1+1,1,none⟩) (by simp;omega) _
   have K4x:=K4'.move ((Below.refl _ _).drew)
   have K5x:=K5'.move ((Below.refl _ _).drew)
   have hbx:=hbW.drew
   change bodyPost _ _ _ _ _ (put2 (put2 wr (w.heap.size+1) n4 A4 l4 c4) (w.heap.size+1+1) n5 A5 l5 c5).drew
   rw[<- hWW] at K4x K5x hbx ⊢
   generalize WW.drew=W2 at K4x K5x hbx ⊢
   have k40:=K4x.c0
   have k41:=K4x.c1
   have k50:=K5x.c0
   have k51:=K5x.c1
   refine bodyPost_ret (v:=.tuple #[.agg #[.bool n4,.slice A4 l4 c4],.agg #[.bool n5,.slice A5 l5 c5]]) (by simp[results,Tryz.results43,go_sem,k40,k41,k50,k51]) rfl ⟨_,_,_,_,_,_,_,_,rfl,by rw[SV.out];exact K4x.hz,by rw[SV2.out];exact K5x.hz,hbx⟩
theorem scaled_any {I:IntPred} (hI:IK I) (A:Option Addr) (len cap:Nat) (p:List Int) (n:Bool) (N:Option Addr) (nl nc:Nat) (B:Option Addr) (m d q:Nat) (z:Int) (w:World) (h:PolyP I w A len cap p) (hp:FitP p) (hm:len<=1000000) (hz:IntN w n N nl nc z) (hq:NatN w B m d q) (hu:Fit z) (hv:Fit (q:Int)) (h0:0<q)
  (hok:ScOK p (z.tdiv (Nat.gcd z.natAbs q)) ((q / Nat.gcd z.natAbs q:Nat):Int)) (fz:Fit (z.tdiv (Nat.gcd z.natAbs q))) (fq:Fit ((q / Nat.gcd z.natAbs q:Nat):Int)) :
  Calls Tryz.prog 43 #[.slice A len cap,.agg #[.bool n,.slice N nl nc,.slice B m d]] w fun e w'=>∃ n1 A1 l1 c1 n2 A2 l2 c2 x,e=.returned (.tuple #[.agg #[.bool n1,.slice A1 l1 c1],.agg #[.bool n2,.slice A2 l2 c2]])/\IntN w' n1 A1 l1 c1 (sval p (z.tdiv (Nat.gcd z.natAbs q)) ((q / Nat.gcd z.natAbs q:Nat):Int))/\IntN w' n2 A2 l2 c2 x/\Below w.heap.size w w' :=
 (scaled_two hI A len cap p n N nl nc B m d q z w h hp hm hz hq hu hv h0 hok fz fq).mono fun _ _ ⟨n1,A1,l1,c1,n2,A2,l2,c2,h1,h2,h3,h4⟩=>⟨n1,A1,l1,c1,n2,A2,l2,c2,_,h1,h2,h3,h4⟩
set_option maxHeartbeats 1000000 in
theorem signat_any {I:IntPred} (hI:IK I) (A:Option Addr) (len cap:Nat) (p:List Int) (n:Bool) (N:Option Addr) (nl nc:Nat) (B:Option Addr) (m d q:Nat) (z:Int) (w:World) (h:PolyP I w A len cap p) (hp:FitP p) (hm:len<=1000000) (hz:IntN w n N nl nc z) (hq:NatN w B m d q) (hu:Fit z) (hv:Fit (q:Int)) (h0:0<q)
  (hok:ScOK p (z.tdiv (Nat.gcd z.natAbs q)) ((q / Nat.gcd z.natAbs q:Nat):Int)) (fz:Fit (z.tdiv (Nat.gcd z.natAbs q))) (fq:Fit ((q / Nat.gcd z.natAbs q:Nat):Int)) :
  Calls Tryz.prog 21 #[.slice A len cap,.agg #[.bool n,.slice N nl nc,.slice B m d]] w fun e w'=>e=.returned (.int .i64 (sg (sval p (z.tdiv (Nat.gcd z.natAbs q)) ((q / Nat.gcd z.natAbs q:Nat):Int))))/\Below w.heap.size w w':=by
 obtain ⟨V,hV⟩:∃ V,V=sval p (z.tdiv (Nat.gcd z.natAbs q)) ((q / Nat.gcd z.natAbs q:Nat):Int):=⟨_,rfl⟩
 have fV:SmI V:=by rw[hV];exact (hok (plen p) (Nat.le_refl _)).1.sm
 rw[<- hV]
 have HV:=Lh hV
 have hbx:Below w.heap.size w (w.alloc (rbox n N nl nc B m d)):=(Below.refl _ _).alloc (Nat.le_refl _) _
 have h1:=h.below hI hbx
 have hz1:=hz.below hbx
 have hq1:=hq.below hbx
 have Hbx:=Lh hbx
 clear h hz hq hbx hV
 go_enter Tryz.func21,Tryz.ntmps21
 go_wp2_with fail
 refine (scaled_any hI _ _ _ _ _ _ _ _ _ _ _ _ _ _ h1 hp hm hz1 hq1 hu hv h0 hok fz fq).mono ?_
 rintro e w1 ⟨n1,A1,l1,c1,n2,A2,l2,c2,x,rfl,h3,-,hb1⟩
 rw[<- HV.out] at h3
 have hbc:Below w1.heap.size w1 ((w1.alloc (ibox n1 A1 l1 c1)).alloc (ibox n2 A2 l2 c2)):=below_two w1 _ _ (Nat.le_refl _)
 have h4:=h3.below hbc
 have Hb1:=Lh ((Hbx.out.trans (hb1.mono Hbx.out.size)).trans (hbc.mono (Hbx.out.trans (hb1.mono Hbx.out.size)).size))
 clear h1 hz1 hq1 hb1 hbc h3
 go_wp2_with fail
 refine (isign_any _ _ _ _ _ _ h4.at_ fV).mono ?_
 rintro e w2 ⟨rfl,rfl⟩
 have Hb2:=Lh (Hb1.out.alloc (B:=w.heap.size) Hb1.out.size (ibox n1 A1 l1 c1))
 clear h4
 go_wp2
 go_ret
 exact ⟨rfl,Hb2.out⟩
end Go.Proofs.YtpeiiomjnjemjaaGreat
