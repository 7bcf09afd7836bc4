/- The walks of unipoly.Neg and, of package sturm, reduced and negativeRemainder. -/
import Derived.Test.YtpeiiomjnjemjaaGreatPsB
import Derived.Test.YtpeiiomjnjemjaaGreatPow
namespace Go.Proofs.YtpeiiomjnjemjaaGreat
open Go.RowKit
def pmn (p:List Int):List Int:=p.map (- ·)
theorem pmn_length (p:List Int):(pmn p).length=p.length:=by simp[pmn]
theorem pmn_get (p:List Int) (k:Nat):(pmn p).getD k 0=-p.getD k 0:=by
 unfold pmn
 rw[List.getD_eq_getElem?_getD,List.getElem?_map,List.getD_eq_getElem?_getD]
 cases p[k]? with
 | none=>simp
 | some x=>rfl
set_option maxHeartbeats 1000000 in
theorem tneg_any {I:IntPred} (hI:IK I) (A:Option Addr) (len cap:Nat) (p:List Int) (w:World) (h:PolyP I w A len cap p) (hs:SmP p) (hm:len<=1099511627776) :
  Calls Tryz.prog 80 #[.slice A len cap,.func (.func 53) #[] #[]] w fun e w'=>∃ g,e=.returned (.slice (some ⟨g,0,none⟩) len len)/\PRow w' g (pmn p)/\w.heap.size<=g/\Below w.heap.size w w':=by
 have hlen:=Lh (show (pmn p).length=len by rw[pmn_length];exact h.length)
 have hpg:=Lh (pmn_get p)
 go_enter Tryz.func80,Tryz.ntmps80
 go_wp2_with (at_make;refine wpList_make_poly _ rfl (.tmp 9) (.tmp 9) rfl len rfl rfl (by omega) ?_)
 intro w1 hz hb1 hsz
 rw[<- upto_zero (pmn p)] at hz
 have Hz:=Lh hz
 have Hb1:=Lh hb1
 clear hz hb1 hsz
 go_wp2
 go_loopw [13] (fun i wr=>∃ k:Nat,k<=len/\i=.int .i64 k/\PRow wr w.heap.size (upto (pmn p) k len)/\Below w.heap.size w wr) (fun i _=>len-(intOf i).toNat)
 case atStart=>exact ⟨0,Nat.zero_le _,rfl,Hz.out,Hb1.out⟩
 case round =>
  clear Hz Hb1
  obtain ⟨k,hk,rfl,hrow,hbw⟩:=hrel
  have Hrow:=Lh hrow
  have Hbw:=Lh hbw
  clear hrow hbw
  by_cases hlt:k<len
  ·obtain ⟨b,off,rfl,hb,hc⟩:=h.get (by omega)
   obtain ⟨neg,Aj,lj,cj,c0,c1,hzk⟩:=hc k hlt
   have e0:=(Hbw.out.cell (p:=⟨b,off+k*2,none⟩) hb).trans c0
   have e1:=(Hbw.out.cell (p:=⟨b,off+k*2+1,none⟩) hb).trans c1
   have hzr:=(hI.at_ hzk).below Hbw.out
   have hsk:=hs.getD k
   have Hh:=Lh h
   clear hc h c0 c1 hzk
   go_wp2_with fail
   refine (ineg_any _ _ _ _ _ _ (hzr.below ((Below.refl _ _).alloc (Nat.le_refl _) _)) hsk).mono ?_
   rintro e w2 ⟨n2,A2,l2,c2,rfl,h2,hb2⟩
   have hbx:Below wr.heap.size wr w2:=((Below.refl _ _).alloc (Nat.le_refl _) _).trans (hb2.mono (by simp))
   have hr2:=Hrow.out.below hbx
   obtain ⟨n0,A0,l0,c0,e0,e1,_⟩:=hr2.elems k (by rw[upto_length];exact hlt)
   have hf0:=hr2.frozen (k*2)
   have hf1:=hr2.frozen (k*2+1)
   have h2':=h2
   rw[<- hpg.out k] at h2'
   have Hr2:Hid (PRow ((w2.setCell ⟨w.heap.size,k*2,none⟩ (.bool n2)).setCell ⟨w.heap.size,k*2+1,none⟩ (.slice A2 l2 c2)) w.heap.size (upto (pmn p) (k+1) len)):=by
    show PRow _ _ _
    rw[<- upto_set (pmn p) hlt]
    exact hr2.set_ (by rw[upto_length];exact hlt) h2'
   have Hb3:Hid (Below w.heap.size w ((w2.setCell ⟨w.heap.size,k*2,none⟩ (.bool n2)).setCell ⟨w.heap.size,k*2+1,none⟩ (.slice A2 l2 c2))):=((Hbw.out.trans (hbx.mono Hbw.out.size)).setCell (p:=⟨w.heap.size,k*2,none⟩) (Nat.le_refl _) _).setCell (p:=⟨w.heap.size,k*2+1,none⟩) (Nat.le_refl _) _
   clear hr2 h2 h2' hb2 hbx hzr hsk
   go_wp2
   go_roundw
   case rel=>exact ⟨k+1,by omega,by go_num,Hr2.out,Hb3.out⟩
   case measure=>simp[intOf];omega
  ·have hk2:len=k:=by omega
   subst hk2
   have hup:upto (pmn p) len len=pmn p:=by have:=upto_full (pmn p);rw[hlen.out] at this;exact this
   rw[hup] at Hrow
   clear hup
   go_wp2
   go_ret
   exact ⟨_,rfl,Hrow.out,Nat.le_refl _,Hbw.out⟩
set_option maxHeartbeats 400000 in
theorem polyneg_any {I:IntPred} (hI:IK I) (A:Option Addr) (len cap:Nat) (p:List Int) (w:World) (h:PolyP I w A len cap p) (hs:SmP p) (hm:len<=1000000000) :
  Calls Tryz.prog 87 #[.slice A len cap] w fun e w'=>∃ A' l' c',e=.returned (.slice A' l' c')/\PolyN w' A' l' c' (pmn (ptrim p))/\Below w.heap.size w w':=by
 have hpl:plen p<=1000000000:=by have:=plen_le p;have:=h.length;omega
 go_enter Tryz.func87,Tryz.ntmps87
 go_wp2_with fail
 refine (ptrim_any hI _ _ _ _ _ h hs (by omega)).mono ?_
 rintro e w1 ⟨l1,rfl,h1,rfl,hb1⟩
 have Hb1:=Lh hb1
 have hs2:=hs.ptrim
 clear h hs hb1
 go_wp2_with fail
 refine (tneg_any hI _ _ _ _ _ h1 hs2 (by omega)).mono ?_
 rintro e w2 ⟨g,rfl,h2,hg,hb2⟩
 have hp:=h2.poly (cap:=plen p) (by rw[pmn_length,ptrim_length];exact Nat.le_refl _)
 rw[pmn_length,ptrim_length] at hp
 have H2:=Lh hp
 have Hb2:=Lh (Hb1.out.trans (hb2.mono Hb1.out.size))
 clear h1 h2 hb2 hp
 go_wp2
 go_ret
 exact ⟨_,_,_,rfl,H2.out,Hb2.out⟩
def pred (f:List Int):List Int:=if plead f<0 then pmn (ptrim (pprim f)) else pprim f
theorem pprim_le' (p:List Int):(pprim p).length<=p.length:=by
 unfold pprim
 split
 ·exact Nat.zero_le _
 ·rw[List.length_map,ptrim_length];exact plen_le p
theorem pprim_smp {p:List Int} (h:SmP p):SmP (pprim p):=fun c hc=>by
 unfold pprim at hc
 split at hc
 ·cases hc
 ·obtain ⟨x,hx,rfl⟩:=List.mem_map.1 hc
  have h1:SmI x:=h.ptrim x hx
  exact Sm.mono h1 (by rw[Int.natAbs_tdiv];exact Nat.div_le_self _ _)
set_option maxHeartbeats 400000 in
theorem reduced_any {I:IntPred} (hI:IK I) (A:Option Addr) (len cap:Nat) (f:List Int) (w:World) (h:PolyP I w A len cap f) (hs:SmP f) (hm:len<=1000000000) :
  Calls Tryz.prog 77 #[.slice A len cap] w fun e w'=>∃ A' l' c',e=.returned (.slice A' l' c')/\PolyN w' A' l' c' (pred f)/\Below w.heap.size w w':=by
 have hfl:=h.length
 go_enter Tryz.func77,Tryz.ntmps77
 go_wp2_with fail
 refine (lead_any _ _ _ _ _ (h.at_ hI) hs (by omega)).mono ?_
 rintro e w1 ⟨n1,A1,l1,c1,rfl,h1,hb1⟩
 have h01:=h.below hI hb1
 have Hb1:=Lh hb1
 have sl:SmI (plead f):=hs.getD _
 clear h hb1
 go_wp2_with fail
 refine (isign_any _ _ _ _ _ _ h1.at_ sl).mono ?_
 rintro e w2 ⟨rfl,hw⟩
 have hb2:Below w1.heap.size w1 w2:=by first | exact hw | (rw[hw];exact Below.refl _ _) | (rw[hw];exact (Below.refl _ _).alloc (Nat.le_refl _) _)
 have h02:=h01.below hI hb2
 have Hb2:=Lh (Hb1.out.trans (hb2.mono Hb1.out.size))
 clear h01 h1 hb2 hw Hb1
 by_cases hn:plead f<0
 ·have hsg:sg (plead f)=-1:=by rcases sg_cases (plead f) with ⟨_,e⟩ | ⟨_,e⟩ | ⟨_,e⟩<;>omega
  have hsl:sg (plead f)<0:=by omega
  have Hn:=Lh hn
  clear hn hsg
  go_wp2_with fail
  refine (primitive_any hI _ _ _ _ _ h02 hs hm).mono ?_
  rintro e w3 ⟨A3,l3,c3,rfl,h3,hb3⟩
  have hl3:=h3.length
  have hpl:=pprim_le' f
  have Hb3:=Lh (Hb2.out.trans (hb3.mono Hb2.out.size))
  clear h02 hb3 Hb2
  go_wp2_with fail
  refine (polyneg_any ikN _ _ _ _ _ h3 (pprim_smp hs) (by omega)).mono ?_
  rintro e w4 ⟨A4,l4,c4,rfl,h4,hb4⟩
  have H4:=Lh h4
  have Hb4:=Lh (Hb3.out.trans (hb4.mono Hb3.out.size))
  clear h3 h4 hb4 Hb3
  go_wp2
  go_ret
  exact ⟨_,_,_,rfl,by unfold pred;rw[if_pos (by have:=Hn.out;omega)];exact H4.out,Hb4.out⟩
 ·have hsl:¬ sg (plead f)<0:=by rcases sg_cases (plead f) with ⟨_,e⟩ | ⟨_,e⟩ | ⟨_,e⟩<;>omega
  have Hn:=Lh hn
  clear hn
  go_wp2_with fail
  refine (primitive_any hI _ _ _ _ _ h02 hs hm).mono ?_
  rintro e w3 ⟨A3,l3,c3,rfl,h3,hb3⟩
  have H3:=Lh h3
  have Hb3:=Lh (Hb2.out.trans (hb3.mono Hb2.out.size))
  clear h02 h3 hb3 Hb2
  go_wp2
  go_ret
  exact ⟨_,_,_,rfl,by unfold pred;rw[if_neg (by have:=Hn.out;omega)];exact H3.out,Hb3.out⟩
end Go.Proofs.YtpeiiomjnjemjaaGreat
