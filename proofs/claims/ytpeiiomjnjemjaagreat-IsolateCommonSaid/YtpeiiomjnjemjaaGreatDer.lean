/- The walks of unipoly.Derivative and of division.Exact. -/
import Derived.Test.YtpeiiomjnjemjaaGreatIdP
import Derived.Test.YtpeiiomjnjemjaaGreatQuo
namespace Go.Proofs.YtpeiiomjnjemjaaGreat
open Go.RowKit
def pder (p:List Int):List Int:=(List.range (plen p-1)).map fun k=>p.getD (k+1) 0*((k:Int)+1)
theorem pder_length (p:List Int):(pder p).length=plen p-1:=by simp[pder]
theorem pder_get (p:List Int) {k:Nat} (h:k<plen p-1):(pder p).getD k 0=p.getD (k+1) 0*((k:Int)+1):=by
 rw[List.getD_eq_getElem?_getD,pder,List.getElem?_map,List.getElem?_range h];rfl
set_option maxRecDepth 100000 in
set_option maxHeartbeats 4000000 in
theorem derivative_any {I:IntPred} (hI:IK I) (A:Option Addr) (len cap:Nat) (p:List Int) (w:World) (h:PolyP I w A len cap p) (hs:SmP p) (hm:len<=1000000000) :
  Calls Tryz.prog 40 #[.slice A len cap] w fun e w'=>∃ A' l' c',e=.returned (.slice A' l' c')/\PolyN w' A' l' c' (pder p)/\Below w.heap.size w w':=by
 have hpl:plen p<=1000000000:=by have:=plen_le p;have:=h.length;omega
 obtain ⟨P,hP⟩:∃ P,P=ptrim p:=⟨_,rfl⟩
 have hPg:Hid (∀ k,P.getD k 0=p.getD k 0):=Lh (fun k=>by rw[hP];exact ptrim_getD p k)
 have sp:SmP P:=by rw[hP];exact hs.ptrim
 have HP:=Lh hP
 clear hP
 go_enter Tryz.func40,Tryz.ntmps40
 go_wp2_with fail
 refine (ptrim_any hI _ _ _ _ _ h hs (by omega)).mono ?_
 rintro e w1 ⟨l1,rfl,h1,hl1,hb1⟩
 rw[<- HP.out] at h1
 have H1:=Lh h1
 have Hl1:=Lh hl1
 have Hb1:=Lh hb1
 have k1:l1<=1000000000:=by omega
 clear h h1 hb1 hl1
 by_cases h0:l1=0
 ·subst h0
  have hd:Hid (pder p=[]):=Lh (by unfold pder;rw[<- Hl1.out];rfl)
  clear H1
  go_wp2
  go_ret
  exact ⟨none,0,0,rfl,by rw[hd.out];exact PolyP.nil _ _ _ _,Hb1.out⟩
 ·obtain ⟨n,hn⟩:∃ n,l1=n+1:=⟨l1-1,by omega⟩
  subst hn
  have hne:(((n+1:Nat):Int) == 0)=false:=by rw[beq_eq_false_iff_ne];omega
  have i1:((n+1:Nat):Int)-1=(n:Int):=by omega
  have hdl:Hid ((pder p).length=n):=Lh (by rw[pder_length,<- Hl1.out];rfl)
  clear h0
  go_wp2_with (at_make;refine wpList_make_poly _ rfl (.tmp 12) (.tmp 12) rfl n rfl rfl (by omega) ?_)
  intro w2 hz hb2 hsz
  rw[<- upto_zero (pder p) n] at hz
  have Hz:=Lh hz
  have Hb2:=Lh hb2
  clear hz hb2 hsz hne i1
  go_wp2
  go_loopw [16] (fun s16 wr=>∃ k:Nat,k<=n/\s16=.int .i64 (k:Int)/\PRow wr w1.heap.size (upto (pder p) k n)/\Below w1.heap.size w1 wr) (fun s16 _=>n-(intOf s16).toNat)
  case atStart=>exact ⟨0,Nat.zero_le _,rfl,Hz.out,Hb2.out⟩
  case round =>
   clear Hz Hb2
   obtain ⟨k,hk,rfl,hrow,hbw⟩:=hrel
   have Hrow:=Lh hrow
   have Hbw:=Lh hbw
   clear hrow hbw
   by_cases hlt:k<n
   ·have hkn:(k:Int)<(n:Int):=by omega
    obtain ⟨b1,o1,rfl,hb1,hc1⟩:=H1.out.get (by omega)
    obtain ⟨k2,hk2⟩:∃ k2,k2=k+1:=⟨_,rfl⟩
    obtain ⟨nf,Af,lf,cf,f0,f1,zf⟩:=hc1 k2 (by omega)
    have e0:=(Hbw.out.cell (p:=⟨b1,o1+k2*2,none⟩) hb1).trans f0
    have e1:=(Hbw.out.cell (p:=⟨b1,o1+k2*2+1,none⟩) hb1).trans f1
    have Zf:=Lh ((hI.at_ zf).below Hbw.out)
    have sa:SmI (P.getD k2 0):=sp.getD k2
    have hik:I64 (k2:Int):=by unfold I64;omega
    have sb:SmI (k2:Int):=SmI.of64 hik
    have mk:MulOK (P.getD k2 0).natAbs (k2:Int).natAbs:=trivial
    have w1':IntKind.i64.wrap (k2:Int)=(k2:Int):=IntWalk.i64_in _ (by omega)
    have i2:k2<n+1:=by omega
    have i4:(k2:Int)<(n:Int)+1:=by omega
    have i3:(k:Int)+1=(k2:Int):=by omega
    have Hk2:=Lh hk2
    have nb1:w1.heap.size≠b1:=by omega
    have hul:(upto (pder p) k n).length=n:=upto_length _ _ _
    obtain ⟨n0,A0,l0,c0,d0,d1,_⟩:=Hrow.out.elems k (by rw[hul];exact hlt)
    have fr0:=Hrow.out.frozen (k*2)
    have fr1:=Hrow.out.frozen (k*2+1)
    have HE:=Lh (show (pder p).getD k 0=P.getD k2 0*(k2:Int) by rw[pder_get p (by have:=Hl1.out;omega),hPg.out,hk2];rfl)
    clear hc1 f0 f1 zf hb1 hk2
    go_wp2_with fail
    refine wp_region_last (S:=fun w'=>w'.cell? ⟨b1,o1+k2*2,none⟩=some (.bool nf)/\w'.cell? ⟨b1,o1+k2*2+1,none⟩=some (.slice Af lf cf)/\w'.cell? ⟨w1.heap.size,k*2,none⟩=some (.bool n0)/\w'.cell? ⟨w1.heap.size,k*2+1,none⟩=some (.slice A0 l0 c0)) (by kernel_rfl) (by kernel_rfl) (by (try dsimp only);go_keep) (fun hHeld=>?_)
    simp only[List.pop_toArray,List.dropLast]
    (refine tq 0 ?_;simp only[put_lit,List.set])
    (refine tq 1 ?_;simp only[put_lit,List.set])
    (refine tq 2 ?_;simp only[put_lit,List.set])
    (refine tq 3 ?_;simp only[put_lit,List.set])
    (refine tq 4 ?_;simp only[put_lit,List.set])
    (refine tq 5 ?_;simp only[put_lit,List.set])
    (refine tq 6 ?_;simp only[put_lit,List.set])
    (refine tq 7 ?_;simp only[put_lit,List.set])
    (refine tq 8 ?_;simp only[put_lit,List.set])
    refine rdy 9 (fun K hK=>?_);go_simp
    refine (iof_any _ _ hik).mono ?_
    rintro e w7 ⟨n8,A8,l8,c8,rfl,h8,hb8⟩
    obtain ⟨hcx,hfx⟩:=bcellS hb8
    have Hr8:=Lh (Hrow.out.below (Below.trans Bel.go (hb8.mono (by simp<;>omega))))
    have Hb8:=Lh (Hbw.out.trans ((Below.trans Bel.go (hb8.mono (by simp<;>omega))).mono Hbw.out.size))
    have Z8:=Lh (Zf.out.below (Below.trans Bel.go (hb8.mono (by simp<;>omega))))
    refine hK.out _ _ ?_ (fun _=>?_)
    ·((try dsimp only);repeat' apply And.intro)<;>(rw[hcx _ (by go_simp)];go_simp)
    clear hHeld hK K hcx hfx;rename_i hHeld
    refine rdy 10 (fun K hK=>?_);go_simp
    refine (imul_any _ _ _ _ _ _ _ _ _ _ _ ?_ ?_ sa sb mk).mono ?_
    ·exact Z8.out.below Bel.go
    ·exact h8.at_.below Bel.go
    rintro e w9 ⟨n9,A9,l9,c9,rfl,h9,hb9⟩
    obtain ⟨hcx,hfx⟩:=bcellS hb9
    have hrw:=Hr8.out.below (Below.trans Bel.go (hb9.mono (by simp<;>omega)))
    have Hb9:=Lh (Hb8.out.trans ((Below.trans Bel.go (hb9.mono (by simp<;>omega))).mono Hb8.out.size))
    refine hK.out _ _ ?_ (fun _=>?_)
    ·((try dsimp only);repeat' apply And.intro)<;>(rw[hcx _ (by go_simp)];go_simp)
    clear hHeld hK K hcx hfx;rename_i hHeld
    (refine tq 11 ?_;simp only[put_lit,List.set])
    refine wpAnyH_done (by kernel_rfl) (lastQ_list rfl ?_) _
    have hst:=upto_set (pder p) (k:=k) (n:=n) hlt
    rw[HE.out] at hst
    have hr2:=hrw.set_ (i:=k) (by rw[hul];exact hlt) h9
    rw[hst] at hr2
    have Hr2:=Lh hr2
    obtain ⟨n5,A5,l5,c5,p0,p1,_⟩:=hrw.elems k (by rw[hul];exact hlt)
    have p2:=hrw.frozen (k*2)
    have p3:=hrw.frozen (k*2+1)
    clear hHeld hr2 hst h9 h8 hb8 hb9 hrw hul
    go_wp2
    go_roundw
    case rel=>exact ⟨k+1,by omega,by go_num,Hr2.out,(Hb9.out.setCell (p:=⟨w1.heap.size,k*2,none⟩) (Nat.le_refl _) _).setCell (p:=⟨w1.heap.size,k*2+1,none⟩) (Nat.le_refl _) _⟩
    case measure=>simp[intOf];omega
   ·have hk2:n=k:=by omega
    subst hk2
    have hkn:¬ (n:Int)<(n:Int):=by omega
    have hup:upto (pder p) n n=pder p:=by have:=upto_full (pder p);rw[hdl.out] at this;exact this
    rw[hup] at Hrow
    clear hup
    have hp:=Hrow.out.poly (cap:=n) (by rw[hdl.out];exact Nat.le_refl _)
    rw[hdl.out] at hp
    have Hp:=Lh hp
    clear hp
    go_wp2
    go_ret
    exact ⟨_,_,_,rfl,Hp.out,Hb1.out.trans (Hbw.out.mono Hb1.out.size)⟩
set_option maxHeartbeats 1000000 in
theorem iexact_any (na:Bool) (A:Option Addr) (la ca:Nat) (a:Int) (nb:Bool) (B:Option Addr) (lb cb:Nat) (b:Int) (w:World) (ha:IntAt w na A la ca a) (hb:IntAt w nb B lb cb b) (hsa:SmI a) (hsb:SmI b) (hb0:b≠0) (hd:a.tmod b=0) :
  Calls Tryz.prog 86 #[.agg #[.bool na,.slice A la ca],.agg #[.bool nb,.slice B lb cb]] w fun e w'=>∃ n1 A1 l1 c1,e=.returned (.tuple #[.agg #[.bool n1,.slice A1 l1 c1],.int .i64 0])/\IntN w' n1 A1 l1 c1 (a.tdiv b)/\Below w.heap.size w w':=by
 have hbx:Below w.heap.size w (((w.alloc (ibox na A la ca)).alloc (ibox nb B lb cb)).alloc (ibox false none 0 0)):=below_three w _ _ _ (Nat.le_refl _)
 have hA:=ha.below hbx
 have hB:=hb.below hbx
 have HX:=Lh (IBox.nil ((w.alloc (ibox na A la ca)).alloc (ibox nb B lb cb)))
 have Hbx:=Lh hbx
 have HD:=Lh hd
 clear hbx ha hb hd
 go_enter Tryz.func86,Tryz.ntmps86
 go_wp2_with fail
 refine (quo_all _ _ _ _ _ _ _ _ _ _ _ hA hB hsa hsb hb0).mono ?_
 rintro e w1 ⟨n1,A1,l1,c1,n2,A2,l2,c2,rfl,h1,h2,hb1⟩
 have HX1:=Lh (HX.out.move hb1)
 have Hb1:=Lh (Hbx.out.trans (hb1.mono Hbx.out.size))
 have hX:=HX1.out
 simp only[World.size_alloc] at hX
 have HX2:=Lh hX
 have hlx:=hX.lt
 have H1:=Lh h1
 have H2:=Lh h2
 rw[HD.out] at h2
 have H20:=Lh h2
 have hdz:decide (a.tmod b=0)=true:=decide_eq_true HD.out
 clear hX hA hB hb1 h1 h2 HX HX1 Hbx H2
 go_wp2_with fail
 refine (dzero_any _ _ _ _ _ _ (H20.out.at_.below Bel.go) SmI.zero).mono ?_
 rintro e w2 ⟨rfl,hb2⟩
 rw[show decide ((0:Int)=0)=true from rfl]
 obtain ⟨hcx,hfx⟩:=bcellS hb2
 have x0:w2.cell? ⟨w1.heap.size,0,none⟩=some (.bool n1):=(hcx _ (by go_simp)).trans (by go_simp)
 have x1:w2.cell? ⟨w1.heap.size,1,none⟩=some (.slice A1 l1 c1):=(hcx _ (by go_simp)).trans (by go_simp)
 have HX3:=HX2.out.move (Below.trans Bel.go (hb2.mono (by simp<;>omega)))
 have H3:=H1.out.below (Below.trans Bel.go (hb2.mono (by simp<;>omega)))
 have HP:=Lh (HX3.put H3)
 have Hb3:=Lh (Hb1.out.trans ((Below.trans Bel.go (hb2.mono (by simp<;>omega))).mono Hb1.out.size))
 have y0:=HX3.c0
 have y1:=HX3.c1
 have y2:=HX3.f0
 have y3:=HX3.f1
 clear hb2 hcx hfx HX3 H3 HX2 H1 Hb1 H20
 go_wp2
 refine bodyPost_ret (v:=.tuple #[.agg #[.bool n1,.slice A1 l1 c1],.int .i64 0]) (by simp[results,Tryz.results86,go_sem,y0,y1]) rfl ⟨_,_,_,_,rfl,HP.out.hz,(Hb3.out.setCell (p:=⟨w.heap.size+1+1,0,none⟩) (by first | (simp;done) | (simp;omega) | omega) _).setCell (p:=⟨w.heap.size+1+1,1,none⟩) (by first | (simp;done) | (simp;omega) | omega) _⟩
end Go.Proofs.YtpeiiomjnjemjaaGreat
