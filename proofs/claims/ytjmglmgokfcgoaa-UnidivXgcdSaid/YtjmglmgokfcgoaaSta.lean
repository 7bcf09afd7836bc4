/- The walks of unipoly.Neg and, of package sturm, reduced and negativeRemainder. -/
import Derived.Test.YtjmglmgokfcgoaaPsB
import Derived.Test.YtjmglmgokfcgoaaPow
namespace Go.Proofs.Ytjmglmgokfcgoaa
open Go.RowKit
def pmn (p:List Int):List Int:=p.map (- ·)
theorem pmn_length (p:List Int):(pmn p).length=p.length:=by simp [pmn]
theorem pmn_get (p:List Int) (k:Nat):(pmn p).getD k 0=-p.getD k 0:=by
 unfold pmn
 rw [List.getD_eq_getElem?_getD,List.getElem?_map,List.getD_eq_getElem?_getD]
 cases p[k]? with
 | none=>simp
 | some x=>rfl
set_option maxHeartbeats 1000000 in
theorem tneg_any {I:IntPred} (hI:IK I) (A:Option Addr) (len cap:Nat) (p:List Int) (w:World) (h:PolyP I w A len cap p) (hs:SmP p) (hm:len≤1099511627776) :
  Calls Try.prog 54 #[.slice A len cap,.func (.func 46) #[] #[]] w fun e w'=>∃ g,e=.returned (.slice (some ⟨g,0,none⟩) len len)∧PRow w' g (pmn p)∧w.heap.size≤g∧Below w.heap.size w w':=by
 have hlen:=Lib.hid (show (pmn p).length=len by rw [pmn_length];exact h.length)
 have hpg:=Lib.hid (pmn_get p)
 go_enter Try.func54,Try.ntmps54
 go_wp2_with (at_make;refine wpList_make_poly _ rfl (.tmp 9) (.tmp 9) rfl len rfl rfl (by omega) ?_)
 intro w1 hz hb1 hsz
 rw [← upto_zero (pmn p)] at hz
 have Hz:=Lib.hid hz
 have Hb1:=Lib.hid hb1
 clear hz hb1 hsz
 go_wp2
 go_loopw [13] (fun i wr=>∃ k:Nat,k≤len∧i=.int .i64 k∧PRow wr w.heap.size (upto (pmn p) k len)∧Below w.heap.size w wr) (fun i _=>len-(intOf i).toNat)
 case atStart=>exact ⟨0,Nat.zero_le _,rfl,Hz.out,Hb1.out⟩
 case round =>
  clear Hz Hb1
  obtain ⟨k,hk,rfl,hrow,hbw⟩:=hrel
  have Hrow:=Lib.hid hrow
  have Hbw:=Lib.hid hbw
  clear hrow hbw
  by_cases hlt:k<len
  ·obtain ⟨b,off,rfl,hb,hc⟩:=h.get (by omega)
   obtain ⟨neg,Aj,lj,cj,c0,c1,hzk⟩:=hc k hlt
   have e0:=(Hbw.out.cell (p:=⟨b,off+k*2,none⟩) hb).trans c0
   have e1:=(Hbw.out.cell (p:=⟨b,off+k*2+1,none⟩) hb).trans c1
   have hzr:=(hI.at_ hzk).below Hbw.out
   have hsk:=hs.getD k
   have Hh:=Lib.hid h
   clear hc h c0 c1 hzk
   go_wp2_with fail
   refine (ineg_any _ _ _ _ _ _ (hzr.below ((Below.refl _ _).alloc (Nat.le_refl _) _)) hsk).mono ?_
   rintro e w2 ⟨n2,A2,l2,c2,rfl,h2,hb2⟩
   have hbx:Below wr.heap.size wr w2:=((Below.refl _ _).alloc (Nat.le_refl _) _).trans (hb2.mono (by simp))
   have hr2:=Hrow.out.below hbx
   obtain ⟨n0,A0,l0,c0,e0,e1,_⟩:=hr2.elems k (by rw [upto_length];exact hlt)
   have hf0:=hr2.frozen (k*2)
   have hf1:=hr2.frozen (k*2+1)
   have h2':=h2
   rw [← hpg.out k] at h2'
   have Hr2:Hid (PRow ((w2.setCell ⟨w.heap.size,k*2,none⟩ (.bool n2)).setCell ⟨w.heap.size,k*2+1,none⟩ (.slice A2 l2 c2)) w.heap.size (upto (pmn p) (k+1) len)):=by
    show PRow _ _ _
    rw [← upto_set (pmn p) hlt]
    exact hr2.set_ (by rw [upto_length];exact hlt) h2'
   have Hb3:Hid (Below w.heap.size w ((w2.setCell ⟨w.heap.size,k*2,none⟩ (.bool n2)).setCell ⟨w.heap.size,k*2+1,none⟩ (.slice A2 l2 c2))):=((Hbw.out.trans (hbx.mono Hbw.out.size)).setCell (p:=⟨w.heap.size,k*2,none⟩) (Nat.le_refl _) _).setCell (p:=⟨w.heap.size,k*2+1,none⟩) (Nat.le_refl _) _
   clear hr2 h2 h2' hb2 hbx hzr hsk
   go_wp2
   go_roundw
   case rel=>exact ⟨k+1,by omega,by go_num,Hr2.out,Hb3.out⟩
   case measure=>simp [intOf];omega
  ·have hk2:len=k:=by omega
   subst hk2
   have hup:upto (pmn p) len len=pmn p:=by have:=upto_full (pmn p);rw [hlen.out] at this;exact this
   rw [hup] at Hrow
   clear hup
   go_wp2
   go_ret
   exact ⟨_,rfl,Hrow.out,Nat.le_refl _,Hbw.out⟩
set_option maxHeartbeats 400000 in
theorem polyneg_any {I:IntPred} (hI:IK I) (A:Option Addr) (len cap:Nat) (p:List Int) (w:World) (h:PolyP I w A len cap p) (hs:SmP p) (hm:len≤1000000000) :
  Calls Try.prog 38 #[.slice A len cap] w fun e w'=>∃ A' l' c',e=.returned (.slice A' l' c')∧PolyN w' A' l' c' (pmn (ptrim p))∧Below w.heap.size w w':=by
 have hpl:plen p≤1000000000:=by have:=plen_le p;have:=h.length;omega
 go_enter Try.func38,Try.ntmps38
 go_wp2_with fail
 refine (ptrim_any hI _ _ _ _ _ h hs (by omega)).mono ?_
 rintro e w1 ⟨l1,rfl,h1,rfl,hb1⟩
 have Hb1:=Lib.hid hb1
 have hs2:=hs.ptrim
 clear h hs hb1
 go_wp2_with fail
 refine (tneg_any hI _ _ _ _ _ h1 hs2 (by omega)).mono ?_
 rintro e w2 ⟨g,rfl,h2,hg,hb2⟩
 have hp:=h2.poly (cap:=plen p) (by rw [pmn_length,ptrim_length];exact Nat.le_refl _)
 rw [pmn_length,ptrim_length] at hp
 have H2:=Lib.hid hp
 have Hb2:=Lib.hid (Hb1.out.trans (hb2.mono Hb1.out.size))
 clear h1 h2 hb2 hp
 go_wp2
 go_ret
 exact ⟨_,_,_,rfl,H2.out,Hb2.out⟩
end Go.Proofs.Ytjmglmgokfcgoaa
