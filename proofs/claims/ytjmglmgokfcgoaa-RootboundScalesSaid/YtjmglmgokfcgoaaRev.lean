/- The walk of unipoly.Reverse. -/
import Derived.Test.YtjmglmgokfcgoaaBits
namespace Go.Proofs.Ytjmglmgokfcgoaa
open Go.RowKit
def rvl (q:List Int) (k:Nat):List Int:=(List.range q.length).map fun j=>if q.length-k≤j then q.getD (q.length-1-j) 0 else 0
theorem rvl_length (q:List Int) (k:Nat):(rvl q k).length=q.length:=by simp [rvl]
theorem rvl_getE (q:List Int) (k:Nat) {j:Nat} (h:j<q.length):(rvl q k)[j]?=some (if q.length-k≤j then q.getD (q.length-1-j) 0 else 0):=by
 unfold rvl
 rw [List.getElem?_map,List.getElem?_range h];rfl
theorem rvl_zero (q:List Int):rvl q 0=List.replicate q.length 0:=by
 apply List.ext_getElem?
 intro j
 by_cases h:j<q.length
 ·rw [rvl_getE q 0 h,if_neg (by omega),List.getElem?_replicate,if_pos h]
 ·rw [List.getElem?_eq_none (by rw [rvl_length];omega),List.getElem?_eq_none (by simp;omega)]
theorem rvl_step (q:List Int) {k:Nat} (hk:k<q.length):(rvl q k).set (q.length-1-k) (q.getD k 0)=rvl q (k+1):=by
 apply List.ext_getElem?
 intro j
 by_cases h:j<q.length
 ·rw [rvl_getE q (k+1) h]
  by_cases h1:j=q.length-1-k
  ·subst h1
   rw [List.getElem?_set_self (by rw [rvl_length];omega),if_pos (by omega),show q.length-1-(q.length-1-k)=k by omega]
  ·rw [List.getElem?_set_ne (by omega),rvl_getE q k h]
   by_cases h2:q.length-k≤j
   ·rw [if_pos h2,if_pos (by omega)]
   ·rw [if_neg h2,if_neg (by omega)]
 ·rw [List.getElem?_eq_none (by simp [rvl_length];omega),List.getElem?_eq_none (by rw [rvl_length];omega)]
theorem rvl_full (q:List Int):rvl q q.length=q.reverse:=by
 apply List.ext_getElem?
 intro j
 by_cases h:j<q.length
 ·rw [rvl_getE q _ h,if_pos (by omega),List.getElem?_reverse h,List.getD_eq_getElem?_getD,List.getElem?_eq_getElem (by omega)];rfl
 ·rw [List.getElem?_eq_none (by rw [rvl_length];omega),List.getElem?_eq_none (by simp;omega)]
set_option maxHeartbeats 1000000 in
theorem prev_any {I:IntPred} (hI:IK I) (A:Option Addr) (len cap:Nat) (p:List Int) (w:World) (h:PolyP I w A len cap p) (hs:SmP p) (hm:len≤1099511627776) :
  Calls Try.prog 64 #[.slice A len cap] w fun e w'=>∃ A' len' cap',e=.returned (.slice A' len' cap')∧PolyN w' A' len' cap' (ptrim (ptrim p).reverse)∧Below w.heap.size w w':=by
 have hpl:plen p≤1099511627776:=by have:=plen_le p;have:=h.length;omega
 go_enter Try.func64,Try.ntmps64
 go_wp2_with fail
 refine (ptrim_any hI _ _ _ _ _ h hs hm).mono ?_
 rintro e w1 ⟨n,rfl,h1,hn,hb1⟩
 have hql:=Lib.hid (ptrim_length p)
 have hsq:=hs.ptrim
 obtain ⟨q,hqv⟩:∃ q,q=ptrim p:=⟨_,rfl⟩
 rw [← hqv] at h1 hsq
 rw [← hqv,← hn] at hql
 have Hqv:=Lib.hid hqv
 have Hb1:=Lib.hid hb1
 have hnl:n≤1099511627776:=by omega
 clear h hs hn hqv hb1 hpl
 go_wp2_with (at_make;refine wpList_make_poly _ rfl (.tmp 9) (.tmp 9) rfl n rfl rfl (by omega) ?_)
 intro w2 hz hb2 hsz
 have hz0:=rvl_zero q
 rw [hql.out] at hz0
 rw [← hz0] at hz
 have Hz:=Lib.hid hz
 have Hb2:=Lib.hid hb2
 clear hz hb2 hsz hz0
 go_wp2
 go_loopw [13] (fun i wr=>∃ k:Nat,k≤n∧i=.int .i64 (k:Int)∧PRow wr w1.heap.size (rvl q k)∧Below w1.heap.size w1 wr) (fun i _=>n-(intOf i).toNat)
 case atStart=>exact ⟨0,Nat.zero_le _,rfl,Hz.out,Hb2.out⟩
 case round =>
  clear Hz Hb2
  obtain ⟨k,hk,rfl,hrow,hbw⟩:=hrel
  have Hrow:=Lib.hid hrow
  have Hbw:=Lib.hid hbw
  clear hrow hbw
  by_cases hlt:k<n
  ·obtain ⟨b,off,rfl,hb,hc⟩:=h1.get (by omega)
   obtain ⟨neg,Aj,lj,cj,c0,c1,hzk⟩:=hc k hlt
   have e0:=(Hbw.out.cell (p:=⟨b,off+k*2,none⟩) hb).trans c0
   have e1:=(Hbw.out.cell (p:=⟨b,off+k*2+1,none⟩) hb).trans c1
   have hzr:=(hI.at_ hzk).below Hbw.out
   have hsk:=hsq.getD k
   obtain ⟨i,hi⟩:∃ i,n=k+1+i:=⟨n-1-k,by omega⟩
   have i1:IntKind.i64.wrap ((n:Int)-1-(k:Int))=(i:Int):=by rw [IntWalk.i64_in _ (by omega)];omega
   have i2:(n:Int)-1-(k:Int)=(i:Int):=by omega
   have hin:i<n:=by omega
   have hin2:(i:Int)<(n:Int):=by omega
   have Hi:=Lib.hid hi
   have Hh:=Lib.hid h1
   clear hc h1 c0 c1 hzk hi
   go_wp2_with fail
   refine (inormal_any _ _ _ _ _ _ (hzr.below ((Below.refl _ _).alloc (Nat.le_refl _) _)) hsk).mono ?_
   rintro e w3 ⟨n2,A2,l2,c2,rfl,h2,hb2⟩
   have hbx:Below wr.heap.size wr w3:=((Below.refl _ _).alloc (Nat.le_refl _) _).trans (hb2.mono (by simp))
   have hr2:=Hrow.out.below hbx
   have hil:i<(rvl q k).length:=by rw [rvl_length,hql.out];exact hin
   obtain ⟨n0,A0,l0,c0,d0,d1,_⟩:=hr2.elems i hil
   have hf0:=hr2.frozen (i*2)
   have hf1:=hr2.frozen (i*2+1)
   have Hr2:Hid (PRow ((w3.setCell ⟨w1.heap.size,i*2,none⟩ (.bool n2)).setCell ⟨w1.heap.size,i*2+1,none⟩ (.slice A2 l2 c2)) w1.heap.size (rvl q (k+1))):=by
    show PRow _ _ _
    have hst:=rvl_step q (k:=k) (by rw [hql.out];exact hlt)
    rw [hql.out,show n-1-k=i by have:=Hi.out;omega] at hst
    rw [← hst]
    exact hr2.set_ hil h2
   have Hb3:Hid (Below w1.heap.size w1 ((w3.setCell ⟨w1.heap.size,i*2,none⟩ (.bool n2)).setCell ⟨w1.heap.size,i*2+1,none⟩ (.slice A2 l2 c2))):=((Hbw.out.trans (hbx.mono Hbw.out.size)).setCell (p:=⟨w1.heap.size,i*2,none⟩) (Nat.le_refl _) _).setCell (p:=⟨w1.heap.size,i*2+1,none⟩) (Nat.le_refl _) _
   clear hr2 h2 hb2 hbx hzr hsk hil
   go_wp2
   go_roundw
   case rel=>exact ⟨k+1,by omega,by go_num,Hr2.out,Hb3.out⟩
   case measure=>simp [intOf];omega
  ·have hk2:n=k:=by omega
   subst hk2
   have hfull:=rvl_full q
   rw [hql.out] at hfull
   rw [hfull] at Hrow
   have hpoly:=Hrow.out.poly (cap:=n) (by rw [List.length_reverse,hql.out];exact Nat.le_refl _)
   rw [List.length_reverse,hql.out] at hpoly
   have hsr:SmP q.reverse:=fun c hc=>hsq c (List.mem_reverse.1 hc)
   clear h1 hsq hfull
   go_wp2_with fail
   refine (ptrim_any ikN _ _ _ _ _ hpoly hsr hnl).mono ?_
   rintro e w3 ⟨l2,rfl,h2,hl2,hb2⟩
   have H2:=Lib.hid h2
   have Hb3:=Lib.hid (Hb1.out.trans ((Hbw.out.trans (hb2.mono Hbw.out.size)).mono Hb1.out.size))
   clear hl2 h2 hb2 hpoly hsr
   go_wp2
   go_ret
   rw [← Hqv.out]
   exact ⟨_,_,_,rfl,H2.out,Hb3.out⟩
end Go.Proofs.Ytjmglmgokfcgoaa
