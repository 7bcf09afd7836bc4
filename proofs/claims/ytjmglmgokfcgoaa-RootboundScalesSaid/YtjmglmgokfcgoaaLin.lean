/- The walks of the law's helpers line, root, two. -/
import Derived.Test.YtjmglmgokfcgoaaRatD
import Derived.Test.YtjmglmgokfcgoaaRbH
import Derived.Test.YtjmglmgokfcgoaaIntE
namespace Go.Proofs.Ytjmglmgokfcgoaa
open Go.RowKit
section
variable {W:World} {g g':Nat} {n n':Bool} {A A' B B':Option Addr} {l c l' c' m d m' d':Nat} {z z':Int} {q q':Nat}
theorem RBox.make (hz:IntN W n A l c z) (hq:NatN W B m d q):RBox (W.alloc (rbox n A l c B m d)) W.heap.size n A l c B m d z q :=
 ⟨by go_simp,by go_simp,by go_simp,by go_simp,by go_simp,by go_simp,by simp,hz.below ((Below.refl _ _).alloc (Nat.le_refl _) _),hq.below ((Below.refl _ _).alloc (Nat.le_refl _) _)⟩
theorem RBox.far (h:RBox W g n A l c B m d z q) (h':RBox W g' n' A' l' c' B' m' d' z' q') (hg:g≠g') (u v x:Value):RBox (((W.setCell ⟨g',0,none⟩ u).setCell ⟨g',1,none⟩ v).setCell ⟨g',2,none⟩ x) g n A l c B m d z q:=by
 have k0:=h.c0
 have k1:=h.c1
 have k2:=h.c2
 have f0:=h.f0
 have f1:=h.f1
 have f2:=h.f2
 have j0:=h'.c0
 have j1:(W.setCell ⟨g',0,none⟩ u).cell? ⟨g',1,none⟩=some (.slice A' l' c'):=by
  rw [World.cell?_setCell_other W _ _ _ (by simp)];exact h'.c1
 have j2:((W.setCell ⟨g',0,none⟩ u).setCell ⟨g',1,none⟩ v).cell? ⟨g',2,none⟩=some (.slice B' m' d'):=by
  rw [World.cell?_setCell_other _ _ _ _ (by simp),World.cell?_setCell_other _ _ _ _ (by simp)];exact h'.c2
 exact ⟨by go_simp,by go_simp,by go_simp,by go_simp,by go_simp,by go_simp,by simpa [World.setCell] using h.lt,((h.hz.store _ j0 (noDigit_bool _)).store _ j1 (noDigit_slice _ _ _)).store _ j2 (noDigit_slice _ _ _),((h.hq.store _ j0 (noDigit_bool _)).store _ j1 (noDigit_slice _ _ _)).store _ j2 (noDigit_slice _ _ _)⟩
end
def prv (p:List Int):List Int:=ptrim (ptrim p).reverse
def lowz (p:List Int):Int:=if rcau (prv p)=0 then 0 else 1
def lowq (p:List Int):Nat:=if rcau (prv p)=0 then 1 else rcau (prv p)
theorem SmP.rev {p:List Int} (h:SmP p):SmP (prv p):=by
 unfold prv
 exact SmP.ptrim (fun c hc=>h.ptrim c (List.mem_reverse.1 hc))
set_option maxRecDepth 100000 in
set_option maxHeartbeats 4000000 in
theorem lower_any {I:IntPred} (hI:IK I) (A:Option Addr) (len cap:Nat) (p:List Int) (w:World) (h:PolyP I w A len cap p) (hs:SmP p) (hm:len≤1099511627776) (hok:2≤plen (prv p)→CauOK (prv p)) (hb:rcau (prv p)≤1000000000) :
  Calls Try.prog 27 #[.slice A len cap] w fun e w'=>RatE (lowz p) (lowq p) e w'∧Below w.heap.size w w':=by
 have hb0:Below w.heap.size w (w.alloc (rbox false none 0 0 none 0 0)):=(Below.refl _ _).alloc (Nat.le_refl _) _
 have h0:=h.below hI hb0
 have HR:=Lib.hid (RBox.nil w)
 have Hb0:=Lib.hid hb0
 have hlen:=Lib.hid h.length
 clear h hb0
 go_enter Try.func27,Try.ntmps27
 go_wp2_with fail
 refine (prev_any hI _ _ _ _ _ h0 hs hm).mono ?_
 rintro e w1 ⟨A1,l1,c1,rfl,h1,hb1⟩
 have hl1:l1≤1099511627776:=by
  have h3:=h1.length
  have h4:=ptrim_length (ptrim p).reverse
  have h5:=plen_le (ptrim p).reverse
  rw [List.length_reverse,ptrim_length] at h5
  have h6:=plen_le p
  have:=hlen.out
  omega
 have hsr:SmP (ptrim (ptrim p).reverse):=hs.rev
 have HR1:=Lib.hid (HR.out.move hb1)
 have Hb1:=Lib.hid (Hb0.out.trans (hb1.mono Hb0.out.size))
 clear h0 hb1 HR Hb0
 go_wp2_with fail
 refine (cauchy_any ikN _ _ _ _ _ h1 hsr hl1 hok).mono ?_
 rintro e w2 ⟨n2,A2,l2,c2,rfl,h2,hb2⟩
 rw [cau_rcau] at h2
 obtain ⟨b,hbv⟩:∃ b,b=rcau (prv p):=⟨_,rfl⟩
 have e2:rcau (ptrim (ptrim p).reverse)=b:=hbv.symm
 rw [e2] at h2
 rw [← hbv] at hb
 have Hbv:=Lib.hid hbv
 have hba:Below w2.heap.size w2 (w2.alloc (ibox n2 A2 l2 c2)):=(Below.refl _ _).alloc (Nat.le_refl _) _
 have HR2:=Lib.hid ((HR1.out.move hb2).move hba)
 have HB:=Lib.hid (IBox.make h2)
 have Hb2:=Lib.hid ((Hb1.out.trans (hb2.mono Hb1.out.size)).trans (hba.mono (Hb1.out.trans (hb2.mono Hb1.out.size)).size))
 have hsz:=(Hb1.out.trans (hb2.mono Hb1.out.size)).size
 have hsz1:=HR1.out.lt
 have hsz2:=hb2.size
 have hlt:w.heap.size<w2.heap.size:=by omega
 have hsb:SmI (b:Int):=SmI.of64 (by unfold I64;omega)
 clear h1 hsr h2 hb2 hba HR1 Hb1 hbv e2 hok
 have c0:=HB.out.c0
 have c1:=HB.out.c1
 go_wp2_with fail
 refine (isign_any _ _ _ _ _ _ HB.out.hz.at_ hsb).mono ?_
 rintro e w3 ⟨rfl,rfl⟩
 have hba:Below (w2.alloc (ibox n2 A2 l2 c2)).heap.size (w2.alloc (ibox n2 A2 l2 c2)) ((w2.alloc (ibox n2 A2 l2 c2)).alloc (ibox n2 A2 l2 c2)):=(Below.refl _ _).alloc (Nat.le_refl _) _
 have HR3:=Lib.hid (HR2.out.move hba)
 have HB3:=Lib.hid (HB.out.move hba)
 have Hb3:=Lib.hid (Hb2.out.trans (hba.mono Hb2.out.size))
 clear HR2 HB Hb2 hba c0 c1
 by_cases hz:b=0
 ·subst hz
  have E1:=Lib.hid (show lowz p=0 from if_pos Hbv.out.symm)
  have E2:=Lib.hid (show lowq p=1 from if_pos Hbv.out.symm)
  rw [show sg ((0:Nat):Int)=0 from rfl]
  go_wp2_with fail
  refine (rof_any 0 _ (by unfold I64;omega)).mono ?_
  rintro e w4 ⟨⟨n4,A4,l4,c4,B4,m4,d4,rfl,h4,h5⟩,hb4⟩
  have HR4:=Lib.hid (HR3.out.move hb4)
  have Hb4:=Lib.hid (Hb3.out.trans (hb4.mono Hb3.out.size))
  have HP:=Lib.hid (HR4.out.put h4 h5)
  have HbP:=Lib.hid (((Hb4.out.setCell (p:=⟨w.heap.size,0,none⟩) (Nat.le_refl _) (.bool n4)).setCell (p:=⟨w.heap.size,1,none⟩) (Nat.le_refl _) (.slice A4 l4 c4)).setCell (p:=⟨w.heap.size,2,none⟩) (Nat.le_refl _) (.slice B4 m4 d4))
  have r0:=HR4.out.c0
  have r1:=HR4.out.c1
  have r2:=HR4.out.c2
  have r3:=HR4.out.f0
  have r4:=HR4.out.f1
  have r5:=HR4.out.f2
  clear HR3 HB3 Hb3 HR4 Hb4 h4 h5 hb4
  go_wp2
  refine bodyPost_ret (v:=.agg #[.bool n4,.slice A4 l4 c4,.slice B4 m4 d4]) (by simp [results,Try.results27,go_sem,r0,r1,r2]) rfl ⟨⟨_,_,_,_,_,_,_,rfl,by rw [E1.out];exact HP.out.hz,by rw [E2.out];exact HP.out.hq⟩,HbP.out⟩
 ·have E1:=Lib.hid (show lowz p=1 from if_neg (by rw [← Hbv.out];exact hz))
  have E2:=Lib.hid (show lowq p=b from by unfold lowq;rw [← Hbv.out];exact if_neg hz)
  rw [show sg (b:Int)=1 from sg_pos (by omega)]
  have e0:=HB3.out.c0
  have e1:=HB3.out.c1
  have hbB:b<BB:=by rw [BB_eq];omega
  have hb0:0<b:=by omega
  have hu1:U64 (1:Int).natAbs:=by unfold U64;rw [BB_eq];show 1<_;omega
  have v0:w2.heap.size+1+1≠w2.heap.size:=by omega
  have v1:w2.heap.size+1≠w.heap.size:=by omega
  have v2:w2.heap.size+1+1≠w.heap.size:=by omega
  go_wp2_with fail
  go_cut [4] (fun s4 wx=>∃ g4 n A l c B m d,s4=.pointer (some ⟨g4,0,none⟩)∧w.heap.size<g4∧RBox wx g4 n A l c B m d 1 b∧RBox wx w.heap.size false none 0 0 none 0 0 0 0∧Below w.heap.size w wx)
  case first =>
   go_region_held3 (fun w'=>w'.cell? ⟨w2.heap.size,0,none⟩=some (.bool n2)∧w'.cell? ⟨w2.heap.size,1,none⟩=some (.slice A2 l2 c2)) (go_keep) (first
    | (go_at_call 20;go_must (refine (iof_any 1 _ (by unfold I64;omega)).mono ?_;rintro e w4 ⟨n4,A4,l4,c4,rfl,h4,hb4⟩;obtain ⟨hc4,hf4⟩:=bcellS hb4;have HB4:=Lib.hid (HB3.out.move (Below.trans Bel.go (hb4.mono (by simp<;>omega))));have HR4:=Lib.hid (HR3.out.move (Below.trans Bel.go (hb4.mono (by simp<;>omega))));have Hb4:=Lib.hid (Hb3.out.trans ((Below.trans Bel.go (hb4.mono (by simp<;>omega))).mono Hb3.out.size));have zy:=hb4.size;(try simp only [World.size_alloc,World.size_drew] at zy);(try have z1:w2.heap.size+1+1<w4.heap.size:=(by omega));have v3:w4.heap.size≠w2.heap.size:=(by omega);have v4:w4.heap.size≠w.heap.size:=(by omega);have v5:w.heap.size<w4.heap.size:=(by omega);(try (have Z1:=Lib.hid (show RBox w4 (w2.heap.size+1+1) false none 0 0 none 0 0 0 0 from ⟨(by go_simp),(by go_simp),(by go_simp),(by go_simp),(by go_simp),(by go_simp),(by omega),⟨NatN.zero _ _ _,(by simp)⟩,NatN.zero _ _ _⟩);have Z1a:=Z1.out.c0;have Z1b:=Z1.out.c1;have Z1c:=Z1.out.c2;have Z1d:=Z1.out.f0;have Z1e:=Z1.out.f1;have Z1f:=Z1.out.f2));clear hc4 hf4;have q0:=HB4.out.c0;have q1:=HB4.out.c1))
    | (go_at_call 66;go_must (refine (make_pos _ _ _ _ _ _ _ _ _ _ _ ?_ ?_ hu1 hbB hb0).mono ?_;(exact h4.below Bel.go);(exact HB4.out.hz.below Bel.go);rintro e w5 ⟨⟨n5,A5,l5,c5,B5,m5,d5,rfl,h5,h6⟩,hb5⟩;rw [show ((1:Int).natAbs).gcd b=1 from Nat.gcd_one_left b] at h5 h6;rw [Nat.div_one] at h6;obtain ⟨hc5,hf5⟩:=bcellS hb5;have HB5:=Lib.hid (HB4.out.move (Below.trans Bel.go (hb5.mono (by simp<;>omega))));have HR5:=Lib.hid (HR4.out.move (Below.trans Bel.go (hb5.mono (by simp<;>omega))));have Hb5:=Lib.hid (Hb4.out.trans ((Below.trans Bel.go (hb5.mono (by simp<;>omega))).mono Hb4.out.size));have zz:=hb5.size;(try simp only [World.size_alloc] at zz);(try have z2:w2.heap.size+1+1<w5.heap.size:=(by omega));(try have z3:w4.heap.size<w5.heap.size:=(by omega));have v6:w5.heap.size≠w2.heap.size:=(by omega);have v7:w5.heap.size≠w.heap.size:=(by omega);have v8:w.heap.size<w5.heap.size:=(by omega);(try (have Y1:=Lib.hid (Z1.out.move (Below.trans Bel.go (hb5.mono (by simp<;>omega))));have Y1a:=Y1.out.c0;have Y1b:=Y1.out.c1;have Y1c:=Y1.out.c2;have Y1d:=Y1.out.f0;have Y1e:=Y1.out.f1;have Y1f:=Y1.out.f2));(try (have Y2:=Lib.hid (show RBox w5 (w4.heap.size) false none 0 0 none 0 0 0 0 from ⟨(by go_simp),(by go_simp),(by go_simp),(by go_simp),(by go_simp),(by go_simp),(by omega),⟨NatN.zero _ _ _,(by simp)⟩,NatN.zero _ _ _⟩);have Y2a:=Y2.out.c0;have Y2b:=Y2.out.c1;have Y2c:=Y2.out.c2;have Y2d:=Y2.out.f0;have Y2e:=Y2.out.f1;have Y2f:=Y2.out.f2));clear hc5 hf5;have p0:=HB5.out.c0;have p1:=HB5.out.c1)))
   all_goals go_wp2_with fail
   all_goals go_meet
   ·exact ⟨_,n5,A5,l5,c5,B5,m5,d5,rfl,by omega,RBox.make h5 h6,HR5.out.move Bel.go,Hb5.out.alloc (by omega) _⟩
   ·exact ⟨_,n5,A5,l5,c5,B5,m5,d5,rfl,by omega,Y2.out.put h5 h6,HR5.out.far Y2.out (by omega) _ _ _,((Hb5.out.setCell (p:=⟨w4.heap.size,0,none⟩) (by first | (simp;done) | (simp;omega) | omega) _).setCell (p:=⟨w4.heap.size,1,none⟩) (by first | (simp;done) | (simp;omega) | omega) _).setCell (p:=⟨w4.heap.size,2,none⟩) (by first | (simp;done) | (simp;omega) | omega) _⟩
   ·exact ⟨_,n5,A5,l5,c5,B5,m5,d5,rfl,by omega,Y1.out.put h5 h6,HR5.out.far Y1.out (by omega) _ _ _,((Hb5.out.setCell (p:=⟨w2.heap.size+1+1,0,none⟩) (by first | (simp;done) | (simp;omega) | omega) _).setCell (p:=⟨w2.heap.size+1+1,1,none⟩) (by first | (simp;done) | (simp;omega) | omega) _).setCell (p:=⟨w2.heap.size+1+1,2,none⟩) (by first | (simp;done) | (simp;omega) | omega) _⟩
  case rest =>
   clear HR3 HB3 Hb3 e0 e1
   obtain ⟨g4,n5,A5,l5,c5,B5,m5,d5,rfl,hg4,hx,hr,hbw⟩:=hcut
   have HP:=Lib.hid (hr.put hx.hz hx.hq)
   have HbP:=Lib.hid (((hbw.setCell (p:=⟨w.heap.size,0,none⟩) (Nat.le_refl _) (.bool n5)).setCell (p:=⟨w.heap.size,1,none⟩) (Nat.le_refl _) (.slice A5 l5 c5)).setCell (p:=⟨w.heap.size,2,none⟩) (Nat.le_refl _) (.slice B5 m5 d5))
   have x0:=hx.c0
   have x1:=hx.c1
   have x2:=hx.c2
   have r0:=hr.c0
   have r1:=hr.c1
   have r2:=hr.c2
   have r3:=hr.f0
   have r4:=hr.f1
   have r5:=hr.f2
   clear hx hr hbw hsb
   go_wp2
   refine bodyPost_ret (v:=.agg #[.bool n5,.slice A5 l5 c5,.slice B5 m5 d5]) (by simp [results,Try.results27,go_sem,r0,r1,r2]) rfl ⟨⟨_,_,_,_,_,_,_,rfl,by rw [E1.out];exact HP.out.hz,by rw [E2.out];exact HP.out.hq⟩,HbP.out⟩
end Go.Proofs.Ytjmglmgokfcgoaa
namespace Go.Proofs.Ytjmglmgokfcgoaa
open Go.RowKit
def ld (d:Int):Int:=if d=0 then 1 else d
def lin (p d:Int):List Int:=[-p,ld d]
end Go.Proofs.Ytjmglmgokfcgoaa
