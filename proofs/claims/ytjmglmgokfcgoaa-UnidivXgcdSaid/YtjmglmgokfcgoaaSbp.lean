/- The walks of unipoly.combine at integer.Sub and of unipoly.Sub. Written by bin/mksbp.py out of IdP. -/
import Derived.Test.YtjmglmgokfcgoaaIdP
namespace Go.Proofs.Ytjmglmgokfcgoaa
open Go.RowKit
def psub (f g:List Int):List Int:=(List.range (max f.length g.length)).map fun k=>f.getD k 0-g.getD k 0
theorem psub_length (f g:List Int):(psub f g).length=max f.length g.length:=by simp [psub]
theorem psub_get (f g:List Int) (k:Nat):(psub f g).getD k 0=f.getD k 0-g.getD k 0:=by
 rcases Nat.lt_or_ge k (max f.length g.length) with h | h
 ·rw [List.getD_eq_getElem?_getD,psub,List.getElem?_map,List.getElem?_range h];rfl
 ·rw [getD_out _ (by rw [psub_length];exact h),getD_out f (by omega),getD_out g (by omega)];rfl
set_option maxRecDepth 100000 in
set_option maxHeartbeats 4000000 in
theorem combine_sub {I J:IntPred} (hI:IK I) (hJ:IK J) (A:Option Addr) (la ca:Nat) (f:List Int) (B:Option Addr) (lb cb:Nat) (g:List Int) (w:World) (hf:PolyP I w A la ca f) (hg:PolyP J w B lb cb g) (sf:SmP f) (sg:SmP g) (ss:∀ k,Sm ((f.getD k 0).natAbs+(g.getD k 0).natAbs)) (hma:la≤1000000000) (hmb:lb≤1000000000) :
  Calls Try.prog 40 #[.slice A la ca,.slice B lb cb,.agg #[.bool false,.slice none 0 0],.func (.func 59) #[] #[]] w fun e w'=>∃ r n,e=.returned (.slice (some ⟨r,0,none⟩) n n)∧n=max la lb∧PRow w' r (psub f g)∧w.heap.size≤r∧Below w.heap.size w w':=by
 have hbx:Below w.heap.size w (w.alloc (ibox false none 0 0)):=(Below.refl _ _).alloc (Nat.le_refl _) _
 have Hf0:=Lib.hid hf
 have Hg0:=Lib.hid hg
 have HZ:=Lib.hid (IBox.nil w)
 have Hbx:=Lib.hid hbx
 obtain ⟨n,hn⟩:∃ n,n=max la lb:=⟨_,rfl⟩
 have hmx:(if la<lb then (lb:Int) else (la:Int))=(n:Int):=by split<;>omega
 have Hn:=Lib.hid hn
 have hpl:=Lib.hid (show (psub f g).length=n by rw [psub_length,hf.length,hg.length,hn])
 have hnb:n≤1000000000:=by omega
 clear hf hg hbx hn
 go_enter Try.func40,Try.ntmps40
 go_wp2_with (at_make;refine wpList_make_poly _ rfl (.tmp 17) (.tmp 17) rfl n rfl rfl (by omega) ?_)
 intro w1 hz hb3 hsz
 have hb3':Below (w.alloc (ibox false none 0 0)).heap.size (w.alloc (ibox false none 0 0)) w1:=by rw [World.size_alloc];exact hb3
 have hu:=upto_zero (psub f g) n
 rw [← hu] at hz
 have Hz:=Lib.hid hz
 have Hb3:=Lib.hid (Hbx.out.trans (hb3'.mono Hbx.out.size))
 have HZ1:=Lib.hid (HZ.out.move hb3')
 have hsz2:w.heap.size+1<w1.heap.size:=by (try simp only [World.size_alloc] at hsz);omega
 clear hz hsz hu hmx hb3 hb3' HZ Hbx
 go_wp2
 go_loopw [21] (fun s21 wr=>∃ k:Nat,k≤n∧s21=.int .i64 (k:Int)∧PRow wr (w.heap.size+1) (upto (psub f g) k n)∧IBox wr w.heap.size false none 0 0 0∧w1.heap.size≤wr.heap.size∧Below w.heap.size w wr) (fun s21 _=>n-(intOf s21).toNat)
 case atStart=>exact ⟨0,Nat.zero_le _,rfl,Hz.out,HZ1.out,Nat.le_refl _,Hb3.out⟩
 case round =>
  clear Hz HZ1 Hb3
  obtain ⟨k,hk,rfl,hrow,hzb,hws,hbw⟩:=hrel
  obtain ⟨wo,rfl⟩:∃ wo:World,wo=wr:=⟨_,rfl⟩
  have Hrow:=Lib.hid hrow
  have Hzb:=Lib.hid hzb
  have Hf:=Lib.hid (Hf0.out.below hI hbw)
  have Hg:=Lib.hid (Hg0.out.below hJ hbw)
  have Hbw:=Lib.hid hbw
  have z0:=hzb.c0
  have z1:=hzb.c1
  have hlw:=hzb.lt
  have nz0:w.heap.size≠wo.heap.size:=by omega
  have nz1:w.heap.size≠wo.heap.size+1:=by omega
  clear hrow hzb hbw
  by_cases hlt:k<n
  ·have hkn:(k:Int)<(n:Int):=by omega
   go_wp2_with fail
   go_cut [10,11,12] (fun s10 s11 s12 wx=>s10=.int .i64 (k:Int)∧∃ g1 g2,s11=.pointer (some ⟨g1,0,none⟩)∧s12=.pointer (some ⟨g2,0,none⟩)∧ABox wx g1 false none 0 0 0∧ABox wx g2 false none 0 0 0∧g1≠g2∧wo.heap.size≤g1∧wo.heap.size≤g2∧Below wo.heap.size wo wx)
   case first =>
    go_region
    all_goals go_wp2_with fail
    all_goals go_meet
    ·exact ⟨rfl,wo.heap.size,wo.heap.size+1,rfl,rfl,⟨by go_simp,by go_simp,by go_simp,by go_simp,(by first | (simp;done) | (simp;omega) | omega),iz _⟩,⟨by go_simp,by go_simp,by go_simp,by go_simp,(by first | (simp;done) | (simp;omega) | omega),iz _⟩,by omega,Nat.le_refl _,by omega,Bel.go⟩
    ·exact ⟨rfl,wo.heap.size+1,wo.heap.size,rfl,rfl,⟨by go_simp,by go_simp,by go_simp,by go_simp,(by first | (simp;done) | (simp;omega) | omega),iz _⟩,⟨by go_simp,by go_simp,by go_simp,by go_simp,(by first | (simp;done) | (simp;omega) | omega),iz _⟩,by omega,by omega,Nat.le_refl _,Bel.go⟩
   case rest =>
    obtain ⟨rfl,g1,g2,rfl,rfl,hx1,hx2,hne,hg1,hg2,hb4⟩:=hcut
    go_upto_if 29 with (fail)
    go_cut [] (fun wx=>∃ n1 A1 l1 c1,ABox wx g1 n1 A1 l1 c1 (f.getD k 0)∧ABox wx g2 false none 0 0 0∧Below wo.heap.size wo wx)
    case first =>
     by_cases hka:k<la
     ·have hki:(k:Int)<(la:Int):=by omega
      obtain ⟨b1,o1,rfl,hb1,hc1⟩:=Hf.out.get (by omega)
      obtain ⟨nf,Af,lf,cf,f0,f1,zf⟩:=hc1 k hka
      have e0:=(hb4.cell (p:=⟨b1,o1+k*2,none⟩) hb1).trans f0
      have e1:=(hb4.cell (p:=⟨b1,o1+k*2+1,none⟩) hb1).trans f1
      have H1:=Lib.hid (hx1.put ((hI.at_ zf).below hb4))
      have H2:=Lib.hid (hx2.far hx1 (Ne.symm hne) nf Af lf cf)
      have H3:Hid (Below wo.heap.size wo (put2 _ g1 nf Af lf cf)):=Lib.hid ((hb4.setCell (p:=⟨g1,0,none⟩) hg1 (.bool nf)).setCell (p:=⟨g1,1,none⟩) hg1 (.slice Af lf cf))
      have k0:=hx1.c0
      have k1:=hx1.c1
      have k2:=hx1.f0
      have k3:=hx1.f1
      clear hc1 f0 f1 zf hx1 hx2 hb4
      go_wp2_with (fail)
      go_meet
      exact ⟨_,_,_,_,H1.out,H2.out,H3.out⟩
     ·have hki:¬ (k:Int)<(la:Int):=by omega
      have H0:=Lib.hid (show f.getD k 0=0 from getD_out f (by rw [Hf.out.length];omega))
      have H1:=Lib.hid hx1
      have H2:=Lib.hid hx2
      have H3:=Lib.hid hb4
      clear hx1 hx2 hb4
      go_wp2_with (fail)
      go_meet
      exact ⟨_,_,_,_,by rw [H0.out];exact H1.out,H2.out,H3.out⟩
    case rest =>
     clear hx1 hx2 hb4
     obtain ⟨n1,A1,l1,c1,hx1,hx2,hb4⟩:=hcut
     go_upto_if 37 with (fail)
     go_cut [] (fun wx=>∃ n2 A2 l2 c2,ABox wx g1 n1 A1 l1 c1 (f.getD k 0)∧ABox wx g2 n2 A2 l2 c2 (g.getD k 0)∧Below wo.heap.size wo wx)
     case first =>
      by_cases hka:k<lb
      ·have hki:(k:Int)<(lb:Int):=by omega
       obtain ⟨b1,o1,rfl,hb1,hc1⟩:=Hg.out.get (by omega)
       obtain ⟨nf,Af,lf,cf,f0,f1,zf⟩:=hc1 k hka
       have e0:=(hb4.cell (p:=⟨b1,o1+k*2,none⟩) hb1).trans f0
       have e1:=(hb4.cell (p:=⟨b1,o1+k*2+1,none⟩) hb1).trans f1
       have H1:=Lib.hid (hx2.put ((hJ.at_ zf).below hb4))
       have H2:=Lib.hid (hx1.far hx2 hne nf Af lf cf)
       have H3:Hid (Below wo.heap.size wo (put2 _ g2 nf Af lf cf)):=Lib.hid ((hb4.setCell (p:=⟨g2,0,none⟩) hg2 (.bool nf)).setCell (p:=⟨g2,1,none⟩) hg2 (.slice Af lf cf))
       have k0:=hx2.c0
       have k1:=hx2.c1
       have k2:=hx2.f0
       have k3:=hx2.f1
       clear hc1 f0 f1 zf hx1 hx2 hb4
       go_wp2_with (fail)
       go_meet
       exact ⟨_,_,_,_,H2.out,H1.out,H3.out⟩
      ·have hki:¬ (k:Int)<(lb:Int):=by omega
       have H0:=Lib.hid (show g.getD k 0=0 from getD_out g (by rw [Hg.out.length];omega))
       have H1:=Lib.hid hx1
       have H2:=Lib.hid hx2
       have H3:=Lib.hid hb4
       clear hx1 hx2 hb4
       go_wp2_with (fail)
       go_meet
       exact ⟨_,_,_,_,H1.out,by rw [H0.out];exact H2.out,H3.out⟩
     case rest =>
      clear hx1 hx2 hb4
      obtain ⟨n2,A2,l2,c2,hx1,hx2,hb4⟩:=hcut
      have X1:=Lib.hid hx1
      have X2:=Lib.hid hx2
      have Hb4:=Lib.hid hb4
      have k0:=hx1.c0
      have k1:=hx1.c1
      have k2:=hx2.c0
      have k3:=hx2.c1
      have sf1:=sf.getD k
      have sg1:=sg.getD k
      have ss1:=ss k
      clear hx1 hx2 hb4
      go_wp2_with fail
      refine (isub_any _ _ _ _ _ _ _ _ _ _ _ X1.out.hz X2.out.hz sf1 sg1 ss1).mono ?_
      rintro e w9 ⟨n9,A9,l9,c9,rfl,h9,hb9⟩
      have hb10:=Hb4.out.trans (hb9.mono Hb4.out.size)
      have hrw:=Hrow.out.below hb10
      have hul:(upto (psub f g) k n).length=n:=upto_length _ _ _
      obtain ⟨n0,A0,l0,c0,d0,d1,_⟩:=hrw.elems k (by rw [hul];exact hlt)
      have hf0:=hrw.frozen (k*2)
      have hf1:=hrw.frozen (k*2+1)
      have hst:=upto_set (psub f g) (k:=k) (n:=n) hlt
      rw [psub_get] at hst
      have hr2:=hrw.set_ (i:=k) (by rw [hul];exact hlt) h9
      rw [hst] at hr2
      have Hr2:=Lib.hid hr2
      have HZ2:=Lib.hid ((Hzb.out.move hb10).row hrw (i:=k) (by rw [hul];exact hlt) (by omega) (.bool n9) (.slice A9 l9 c9))
      have Hb10:=Lib.hid hb10
      clear h9 hb9 hb10 hrw hul hst hr2 X1 X2 Hb4 k0 k1 k2 k3
      go_wp2
      go_roundw
      case rel=>exact ⟨k+1,by omega,by go_num,Hr2.out,HZ2.out,Nat.le_trans hws (by have:=Hb10.out.size;simpa [World.setCell] using this),((Hbw.out.trans (Hb10.out.mono Hbw.out.size)).setCell (p:=⟨w.heap.size+1,k*2,none⟩) (by simp) _).setCell (p:=⟨w.heap.size+1,k*2+1,none⟩) (by simp) _⟩
      case measure=>simp [intOf];omega
  ·have hk2:n=k:=by omega
   subst hk2
   have hkn:¬ (n:Int)<(n:Int):=by omega
   have hup:upto (psub f g) n n=psub f g:=by have:=upto_full (psub f g);rw [hpl.out] at this;exact this
   rw [hup] at Hrow
   clear hup
   go_wp2
   go_ret
   exact ⟨w.heap.size+1,n,rfl,Hn.out,Hrow.out,by omega,Hbw.out⟩
set_option maxHeartbeats 1000000 in
theorem polysub_any {I J:IntPred} (hI:IK I) (hJ:IK J) (A:Option Addr) (la ca:Nat) (f:List Int) (B:Option Addr) (lb cb:Nat) (g:List Int) (w:World) (hf:PolyP I w A la ca f) (hg:PolyP J w B lb cb g) (sf:SmP f) (sg:SmP g) (ss:∀ k,Sm ((f.getD k 0).natAbs+(g.getD k 0).natAbs)) (hma:la≤1000000000) (hmb:lb≤1000000000) :
  Calls Try.prog 74 #[.slice A la ca,.slice B lb cb] w fun e w'=>∃ A' l' c',e=.returned (.slice A' l' c')∧PolyN w' A' l' c' (ptrim (psub f g))∧Below w.heap.size w w':=by
 have hlen:(psub f g).length=max la lb:=by rw [psub_length,hf.length,hg.length]
 have Hlen:=Lib.hid hlen
 have Hss:=Lib.hid ss
 clear hlen
 go_enter Try.func74,Try.ntmps74
 go_wp2_with fail
 refine (combine_sub hI hJ _ _ _ _ _ _ _ _ _ hf hg sf sg ss hma hmb).mono ?_
 rintro e w1 ⟨r,n,rfl,hn,hrow,hr,hb1⟩
 have hp:=hrow.poly (cap:=n) (by rw [Hlen.out,hn];exact Nat.le_refl _)
 rw [Hlen.out,← hn] at hp
 have Hb1:=Lib.hid hb1
 have hnb:n≤1000000000:=by omega
 have hsr:SmP (psub f g):=fun c hc=>by
  obtain ⟨k,hk⟩:=List.getElem?_of_mem hc
  have e1:(psub f g).getD k 0=c:=by rw [List.getD_eq_getElem?_getD,hk];rfl
  rw [psub_get] at e1
  rw [← e1]
  exact (Hss.out k).mono (Int.natAbs_sub_le _ _)
 clear hrow hb1 hr hn ss hf hg
 go_wp2_with fail
 refine (ptrim_any ikN _ _ _ _ _ hp hsr (by omega)).mono ?_
 rintro e w2 ⟨l2,rfl,h2,-,hb2⟩
 have H2:=Lib.hid h2
 have Hb2:=Lib.hid (Hb1.out.trans (hb2.mono Hb1.out.size))
 clear hp h2 hb2
 go_wp2
 go_ret
 exact ⟨_,_,_,rfl,H2.out,Hb2.out⟩
end Go.Proofs.Ytjmglmgokfcgoaa
