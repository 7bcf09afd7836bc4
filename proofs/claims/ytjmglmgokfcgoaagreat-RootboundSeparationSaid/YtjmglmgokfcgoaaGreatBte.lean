/- The walks of cylinderref01.Of, To and Is. -/
import Derived.Test.YtjmglmgokfcgoaaGreatBua
import Derived.Test.YtjmglmgokfcgoaaGreatIrow
import Derived.Deep.RegionHeld3
import Derived.Deep.RegionHeld
import Derived.Deep.AppendLies
namespace Go.Proofs.YtjmglmgokfcgoaaGreat
open Go.RowKit
set_option maxRecDepth 100000 in
set_option maxHeartbeats 1000000 in
theorem btrim_any (A:Option Addr) (len cap:Nat) (p:List Int) (w:World) (h:I64At w A len cap p) (hm:len≤1099511627776) :
  Calls Tryz.prog 159 #[.slice A len cap] w fun e w'=>e=.returned (.slice A (plen p) cap)∧w=w':=by
 have htl:plen p≤len:=by have:=plen_le p;have:=h.length;omega
 have hcap:=h.cap
 go_enter Tryz.func159,Tryz.ntmps159
 go_wp2
 go_loop [3] (fun n=>∃ k:Nat,k≤len∧plen p≤k∧n=.int .i64 k) (fun n=>(intOf n).toNat)
 case atStart=>exact ⟨len,by omega,by omega,rfl⟩
 case round =>
  obtain ⟨k,hk,ht,rfl⟩:=hrel
  cases k with
  | zero =>
    have H0:=Lib.hid (show plen p=0 by omega)
    clear h ht htl
    go_wp2
    go_ret
    exact ⟨by rw [H0.out];rfl,rfl⟩
  | succ k =>
    obtain ⟨b,off,rfl,hb,hc⟩:=h.at_ (by omega)
    have e0:=hc k (by omega)
    have hpr:=Lib.hid (plen_pred p k ht)
    have heq:=Lib.hid (plen_eq p k ht)
    obtain ⟨x,hx⟩:∃ x,x=p.getD k 0:=⟨_,rfl⟩
    rw [← hx] at e0
    have Hx:=Lib.hid hx
    clear hc h hx ht htl
    have i1:IntKind.i64.wrap ((k+1:Nat)-1:Int)=(k:Int):=by rw [IntWalk.i64_in _ (by omega)];omega
    by_cases h0:x=0
    ·subst h0
     go_wp2
     go_round
     case rel=>exact ⟨k,by omega,hpr.out Hx.out.symm,by go_num⟩
     case measure=>simp [intOf]
    ·have hb0:(x == 0)=false:=by rw [beq_eq_false_iff_ne];exact h0
     have H1:=Lib.hid (heq.out (by rw [← Hx.out];exact h0))
     clear h0
     go_wp2
     go_ret
     exact ⟨by rw [H1.out];rfl,rfl⟩
set_option maxRecDepth 100000 in
set_option maxHeartbeats 1000000 in
theorem bit_any (A:Option Addr) (len cap:Nat) (p:List Int) (i:Nat) (w:World) (h:I64At w A len cap p) (hm:len≤1099511627776) (hi:i≤1099511627776) :
  Calls Tryz.prog 162 #[.slice A len cap,.int .i64 (i:Int)] w fun e w'=>e=.returned (.int .i64 (p.getD i 0))∧w=w':=by
 have hl:=h.length
 by_cases hlt:i<len
 ·obtain ⟨b,off,rfl,hb,hc⟩:=h.at_ (by omega)
  have e0:=hc i hlt
  have t1:(i:Int)<(len:Int):=by omega
  obtain ⟨x,hx⟩:∃ x,x=p.getD i 0:=⟨_,rfl⟩
  rw [← hx] at e0 ⊢
  clear hc hx h hb
  go_enter Tryz.func162,Tryz.ntmps162
  go_wp2
  go_ret
  exact ⟨rfl,rfl⟩
 ·have t1:¬ (i:Int)<(len:Int):=by omega
  have hx:p.getD i 0=0:=by rw [List.getD_eq_getElem?_getD,List.getElem?_eq_none (by omega)];rfl
  rw [hx]
  clear h hx
  go_enter Tryz.func162,Tryz.ntmps162
  go_wp2
  go_ret
  exact ⟨rfl,rfl⟩
theorem OwnI.at_take {e:TypeId} {w:World} {base k:Nat} {v:Value} {p:List Int} (h:OwnI e w base v k p) (hk:k≤p.length):∃ A cap,v=.slice A k cap∧I64At w A k cap (p.take k):=by
 have h2:OwnI e w base v (p.take k).length (p.take k):=by
  have hl:(p.take k).length=k:=by rw [List.length_take];omega
  rw [hl]
  unfold OwnI at h ⊢
  rw [List.map_take,List.take_take,Nat.min_self]
  exact h
 obtain ⟨A,cap,h3,h4⟩:=h2.at_
 have hl:(p.take k).length=k:=by rw [List.length_take];omega
 rw [hl] at h3 h4
 exact ⟨A,cap,h3,h4⟩
def tabQ (n m:Nat):List Int:=(List.range m).map fun j=>((btn n j:Nat):Int)
theorem tabQ_length (n m:Nat):(tabQ n m).length=m:=by simp [tabQ]
theorem tabQ_get (n m:Nat) {k:Nat} (h:k<m):(tabQ n m)[k]?.getD 0=((btn n k:Nat):Int):=by simp [tabQ,h]
theorem tabQ_bts {n m k:Nat} (hk:k≤m) (hn:n<2^k):ptrim ((tabQ n m).take k)=bts n:=by
 have hl:((tabQ n m).take k).length=k:=by rw [List.length_take,tabQ_length];omega
 refine trim_bts (fun j hj=>?_) (by rw [hl];exact hn)
 rw [hl] at hj
 rw [List.getD_eq_getElem?_getD,List.getElem?_take_of_lt hj]
 exact tabQ_get n m (by omega)
def Typ (w:World) (A:Option Addr) (l:Nat):Prop:=l=0∨∃ b off cs,A=some ⟨b,off,none⟩∧Blk w b 3 cs
theorem Typ.le {w:World} {A:Option Addr} {l k:Nat} (h:Typ w A l) (hk:k≤l):Typ w A k:=by
 rcases h with h | h
 ·exact .inl (by omega)
 ·exact .inr h
theorem Typ.below {w w':World} {A:Option Addr} {l:Nat} (h:Typ w A l) (hb:Below w.heap.size w w'):Typ w' A l:=by
 rcases h with h | ⟨b,off,cs,hA,hk⟩
 ·exact .inl h
 ·exact .inr ⟨b,off,cs,hA,Blk.below hk hb (Blk.lt hk)⟩
theorem own_typ {w:World} {base n:Nat} {A:Option Addr} {l c:Nat} {p:List Int} (h:OwnI 3 w base (.slice A l c) n p):Typ w A l:=by
 obtain ⟨_,⟨h1,_⟩ | ⟨g,cap,cur,h1,_,hg,_⟩⟩:=h
 ·cases h1;exact .inl rfl
 ·cases h1;exact .inr ⟨g,0,cur,rfl,hg⟩
end Go.Proofs.YtjmglmgokfcgoaaGreat
namespace Go.Proofs.YtjmglmgokfcgoaaGreat
open Go.RowKit
def ncmp (a b:Nat):Int:=if a<b then -1 else if b<a then 1 else 0
set_option maxRecDepth 100000 in
set_option maxHeartbeats 4000000 in
theorem bcmp_any (A:Option Addr) (la ca a:Nat) (B:Option Addr) (lb cb b:Nat) (w:World) (ha:I64At w A la ca (bts a)) (hb:I64At w B lb cb (bts b)) (hma:la≤1000000) (hmb:lb≤1000000) :
  Calls Tryz.prog 91 #[.slice A la ca,.slice B lb cb] w fun e w'=>e=.returned (.int .i64 (ncmp a b))∧w=w':=by
 have HA:=Lib.hid ha
 have HB:=Lib.hid hb
 have hla:=ha.length
 have hlb:=hb.length
 rw [bts_length] at hla hlb
 obtain ⟨M,hM⟩:∃ M,M=max la lb:=⟨_,rfl⟩
 have a1:a<2^M:=Nat.lt_of_lt_of_le (bln_lt a) (Nat.pow_le_pow_right (by decide) (by omega))
 have b1:b<2^M:=Nat.lt_of_lt_of_le (bln_lt b) (Nat.pow_le_pow_right (by decide) (by omega))
 have H0:=Lib.hid (show a / 2^M=b / 2^M by rw [Nat.div_eq_of_lt a1,Nat.div_eq_of_lt b1])
 have m1:IntKind.i64.wrap ((M:Int)-1)=(M:Int)-1:=IntWalk.i64_in _ (by omega)
 have hMb:M≤1000000:=by omega
 clear hla hlb a1 b1 ha hb
 by_cases hlt:la<lb
 ·have hM2:M=lb:=by omega
  subst hM2
  clear hM
  go_enter Tryz.func91,Tryz.ntmps91
  go_wp2
  go_loop [5] (fun s5=>∃ k:Nat,k≤M∧s5=.int .i64 ((k:Int)-1)∧a / 2^k=b / 2^k) (fun s5=>(intOf s5+1).toNat)
  case atStart=>exact ⟨M,Nat.le_refl _,rfl,H0.out⟩
  case round =>
   clear m1
   obtain ⟨k,hk,rfl,hd⟩:=hrel
   cases k with
   | zero =>
     have Hr:=Lib.hid (show ncmp a b=0 by
      rw [Nat.pow_zero,Nat.div_one,Nat.div_one] at hd
      unfold ncmp;rw [if_neg (by omega),if_neg (by omega)])
     clear hd
     go_wp2
     go_ret
     exact ⟨by rw [Hr.out];rfl,rfl⟩
   | succ k =>
     have hct:=cmp_top hd
     have xa:=btn_lt a k
     have xb:=btn_lt b k
     have hr:btn a k≠btn b k→ncmp a b=(btn a k:Int)-(btn b k:Int):=fun hne=>by
      unfold ncmp
      rcases Nat.lt_or_ge (btn a k) (btn b k) with h1 | h1
      ·rw [if_pos (hct.2.1 h1)];omega
      ·have h2:=hct.2.2 (by omega)
       rw [if_neg (by omega),if_pos h2];omega
     obtain ⟨p1,hp1⟩:∃ x,x=btn a k:=⟨_,rfl⟩
     obtain ⟨p2,hp2⟩:∃ x,x=btn b k:=⟨_,rfl⟩
     have hc1:=hct.1
     rw [← hp1,← hp2] at hr hc1
     rw [← hp1] at xa
     rw [← hp2] at xb
     have P1:=Lib.hid hp1
     have P2:=Lib.hid hp2
     obtain ⟨k1,hk1⟩:∃ k1:Int,k1=(k:Int):=⟨_,rfl⟩
     have s0:((k+1:Nat):Int)-1=(k:Int):=by omega
     have s1:IntKind.i64.wrap ((p1:Int)-(p2:Int))=(p1:Int)-(p2:Int):=IntWalk.i64_in _ (by omega)
     have s2:IntKind.i64.wrap ((k:Int)-1)=(k:Int)-1:=IntWalk.i64_in _ (by omega)
     have s3:(0:Int)≤(k:Int):=by omega
     rw [s0]
     clear hp1 hp2 hd hct s0 hk1
     by_cases hne:p1=p2
     ·subst hne
      have Hd:=Lib.hid (hc1 rfl)
      clear hr hc1
      go_wp2_with fail
      refine (bit_any _ _ _ (bts a) k _ HA.out (by omega) (by omega)).mono ?_
      rintro e w1 ⟨rfl,rfl⟩
      rw [bts_get,← P1.out]
      go_wp2_with fail
      refine (bit_any _ _ _ (bts b) k _ HB.out (by omega) (by omega)).mono ?_
      rintro e w1 ⟨rfl,rfl⟩
      rw [bts_get,← P2.out]
      go_wp2
      go_round
      case rel=>exact ⟨k,by omega,by go_num,Hd.out⟩
      case measure=>simp [intOf]
     ·have Hr:=Lib.hid (hr hne)
      have b1:((p1:Int) == (p2:Int))=false:=by rw [beq_eq_false_iff_ne];omega
      clear hr hc1
      go_wp2_with fail
      refine (bit_any _ _ _ (bts a) k _ HA.out (by omega) (by omega)).mono ?_
      rintro e w1 ⟨rfl,rfl⟩
      rw [bts_get,← P1.out]
      go_wp2_with fail
      refine (bit_any _ _ _ (bts b) k _ HB.out (by omega) (by omega)).mono ?_
      rintro e w1 ⟨rfl,rfl⟩
      rw [bts_get,← P2.out]
      go_wp2_with fail
      refine (bit_any _ _ _ (bts a) k _ HA.out (by omega) (by omega)).mono ?_
      rintro e w1 ⟨rfl,rfl⟩
      rw [bts_get,← P1.out]
      go_wp2_with fail
      refine (bit_any _ _ _ (bts b) k _ HB.out (by omega) (by omega)).mono ?_
      rintro e w1 ⟨rfl,rfl⟩
      rw [bts_get,← P2.out]
      go_wp2
      go_ret
      exact ⟨by rw [Hr.out];rfl,rfl⟩
 ·have hM2:M=la:=by omega
  subst hM2
  clear hM
  go_enter Tryz.func91,Tryz.ntmps91
  go_wp2
  go_loop [5] (fun s5=>∃ k:Nat,k≤M∧s5=.int .i64 ((k:Int)-1)∧a / 2^k=b / 2^k) (fun s5=>(intOf s5+1).toNat)
  case atStart=>exact ⟨M,Nat.le_refl _,rfl,H0.out⟩
  case round =>
   clear m1
   obtain ⟨k,hk,rfl,hd⟩:=hrel
   cases k with
   | zero =>
     have Hr:=Lib.hid (show ncmp a b=0 by
      rw [Nat.pow_zero,Nat.div_one,Nat.div_one] at hd
      unfold ncmp;rw [if_neg (by omega),if_neg (by omega)])
     clear hd
     go_wp2
     go_ret
     exact ⟨by rw [Hr.out];rfl,rfl⟩
   | succ k =>
     have hct:=cmp_top hd
     have xa:=btn_lt a k
     have xb:=btn_lt b k
     have hr:btn a k≠btn b k→ncmp a b=(btn a k:Int)-(btn b k:Int):=fun hne=>by
      unfold ncmp
      rcases Nat.lt_or_ge (btn a k) (btn b k) with h1 | h1
      ·rw [if_pos (hct.2.1 h1)];omega
      ·have h2:=hct.2.2 (by omega)
       rw [if_neg (by omega),if_pos h2];omega
     obtain ⟨p1,hp1⟩:∃ x,x=btn a k:=⟨_,rfl⟩
     obtain ⟨p2,hp2⟩:∃ x,x=btn b k:=⟨_,rfl⟩
     have hc1:=hct.1
     rw [← hp1,← hp2] at hr hc1
     rw [← hp1] at xa
     rw [← hp2] at xb
     have P1:=Lib.hid hp1
     have P2:=Lib.hid hp2
     obtain ⟨k1,hk1⟩:∃ k1:Int,k1=(k:Int):=⟨_,rfl⟩
     have s0:((k+1:Nat):Int)-1=(k:Int):=by omega
     have s1:IntKind.i64.wrap ((p1:Int)-(p2:Int))=(p1:Int)-(p2:Int):=IntWalk.i64_in _ (by omega)
     have s2:IntKind.i64.wrap ((k:Int)-1)=(k:Int)-1:=IntWalk.i64_in _ (by omega)
     have s3:(0:Int)≤(k:Int):=by omega
     rw [s0]
     clear hp1 hp2 hd hct s0 hk1
     by_cases hne:p1=p2
     ·subst hne
      have Hd:=Lib.hid (hc1 rfl)
      clear hr hc1
      go_wp2_with fail
      refine (bit_any _ _ _ (bts a) k _ HA.out (by omega) (by omega)).mono ?_
      rintro e w1 ⟨rfl,rfl⟩
      rw [bts_get,← P1.out]
      go_wp2_with fail
      refine (bit_any _ _ _ (bts b) k _ HB.out (by omega) (by omega)).mono ?_
      rintro e w1 ⟨rfl,rfl⟩
      rw [bts_get,← P2.out]
      go_wp2
      go_round
      case rel=>exact ⟨k,by omega,by go_num,Hd.out⟩
      case measure=>simp [intOf]
     ·have Hr:=Lib.hid (hr hne)
      have b1:((p1:Int) == (p2:Int))=false:=by rw [beq_eq_false_iff_ne];omega
      clear hr hc1
      go_wp2_with fail
      refine (bit_any _ _ _ (bts a) k _ HA.out (by omega) (by omega)).mono ?_
      rintro e w1 ⟨rfl,rfl⟩
      rw [bts_get,← P1.out]
      go_wp2_with fail
      refine (bit_any _ _ _ (bts b) k _ HB.out (by omega) (by omega)).mono ?_
      rintro e w1 ⟨rfl,rfl⟩
      rw [bts_get,← P2.out]
      go_wp2_with fail
      refine (bit_any _ _ _ (bts a) k _ HA.out (by omega) (by omega)).mono ?_
      rintro e w1 ⟨rfl,rfl⟩
      rw [bts_get,← P1.out]
      go_wp2_with fail
      refine (bit_any _ _ _ (bts b) k _ HB.out (by omega) (by omega)).mono ?_
      rintro e w1 ⟨rfl,rfl⟩
      rw [bts_get,← P2.out]
      go_wp2
      go_ret
      exact ⟨by rw [Hr.out];rfl,rfl⟩
end Go.Proofs.YtjmglmgokfcgoaaGreat
namespace Go.Proofs.YtjmglmgokfcgoaaGreat
open Go.RowKit
def wds (n:Nat) (j:Nat):Int:=((dgt 32768 n j:Nat):Int)
set_option maxRecDepth 100000 in
set_option maxHeartbeats 4000000 in
theorem words_any (A:Option Addr) (la ca a:Nat) (w:World) (ha:I64At w A la ca (bts a)) (hma:la≤1000000) :
  Calls Tryz.prog 160 #[.slice A la ca] w fun e w'=>e=.returned (.slice (some ⟨w.heap.size,0,none⟩) (wln 15 a) (wln 15 a))∧IRow w' w.heap.size (tab (wln 15 a) (wds a))∧Below w.heap.size w w':=by
 have HA:=Lib.hid ha
 have hla:=ha.length
 rw [bts_length] at hla
 obtain ⟨L,hL⟩:∃ L,L=wln 15 a:=⟨_,rfl⟩
 have hLb:L≤1000000:=by rw [hL];unfold wln;omega
 have Hw:=Lib.hid (fun k (hk:k<la)=>(show k / 15<L by rw [hL];exact bit_word (by decide) (by omega)))
 have Hfull:=Lib.hid (show a % 2^la=a from Nat.mod_eq_of_lt (by rw [← hla];exact bln_lt a))
 have n1:Int.tdiv ((la:Int)+14) 15=(L:Int):=by
  rw [show (la:Int)+14=((la+14:Nat):Int) by omega,hL]
  unfold wln
  rw [hla]
  rfl
 have n2:IntKind.i64.wrap ((la:Int)+14)=(la:Int)+14:=IntWalk.i64_in _ (by omega)
 have n3:IntKind.i64.wrap (L:Int)=(L:Int):=IntWalk.i64_in _ (by omega)
 rw [← hL]
 clear hL hla ha
 go_enter Tryz.func160,Tryz.ntmps160
 go_wp2_with (at_make;refine wpList_make_int _ rfl (.tmp 8) (.tmp 8) rfl L rfl rfl (by omega) ?_)
 intro w1 hz hb1 hsz
 rw [tab_zero] at hz
 have Hz:=Lib.hid (show IRow w1 w.heap.size (tab L (wds (a % 2^0))) by rw [tab_ext (G:=fun _=>0) (fun j _=>by unfold wds dgt;rw [Nat.pow_zero,Nat.mod_one,Nat.zero_div];rfl)];exact hz)
 have Hb1:=Lib.hid hb1
 clear hz hb1 hsz n1 n2 n3
 go_wp2
 go_loopw [4] (fun s4 wr=>∃ k:Nat,k≤la∧s4=.int .i64 (k:Int)∧IRow wr w.heap.size (tab L (wds (a % 2^k)))∧Below w.heap.size w wr) (fun s4 _=>la-(intOf s4).toNat)
 case atStart=>exact ⟨0,Nat.zero_le _,rfl,Hz.out,Hb1.out⟩
 case round =>
  clear Hz Hb1
  obtain ⟨k,hk,rfl,hrow,hbw⟩:=hrel
  have Hrow:=Lib.hid hrow
  have Hbw:=Lib.hid hbw
  by_cases hlt:k<la
  ·obtain ⟨c1,o1,rfl,hb1,hc1⟩:=HA.out.at_ (by omega)
   have e1:=(hbw.cell (p:=⟨c1,o1+k,none⟩) hb1).trans (hc1 k hlt)
   rw [bts_get] at e1
   have hq:=Hw.out k hlt
   have e3:=hrow.cell (i:=k / 15) (by rw [tab_length];exact hq)
   rw [tab_get _ hq] at e3
   have f3:=hrow.frozen (k / 15)
   have hroom:=word_room (s:=15) (by decide) a k
   have hstep:=word_step (s:=15) (by decide) a k
   have hb2:=btn_lt a k
   have hr:=Nat.mod_lt k (show 15 > 0 by decide)
   obtain ⟨q,hqq⟩:∃ q,q=k / 15:=⟨_,rfl⟩
   obtain ⟨r,hrr⟩:∃ r,r=k % 15:=⟨_,rfl⟩
   obtain ⟨b,hbb⟩:∃ b,b=btn a k:=⟨_,rfl⟩
   obtain ⟨x,hx⟩:∃ x,x=dgt 32768 (a % 2^k) q:=⟨_,rfl⟩
   rw [← hqq] at e3 f3 hq
   rw [show wds (a % 2^k) q=(x:Int) by unfold wds;rw [hx]] at e3
   rw [← hrr] at hr
   rw [← hbb] at e1 hb2
   rw [← hqq,← hrr,← hbb,show (2:Nat)^15=32768 from rfl,← hx] at hroom
   obtain ⟨s,hs⟩:∃ s,s=b*2^r:=⟨_,rfl⟩
   rw [← hs] at hroom
   have i1:Int.tdiv (k:Int) 15=(q:Int):=by rw [hqq];rfl
   have i2:Int.tmod (k:Int) 15=(r:Int):=by rw [hrr];rfl
   have i3:IntKind.i64.wrap (q:Int)=(q:Int):=IntWalk.i64_in _ (by omega)
   have i4:IntKind.u64.wrap (r:Int)=(r:Int):=IntWalk.u64_in _ (by omega)
   have i5:(b:Int)*2^r=(s:Int):=by rw [hs];simp
   have i6:IntKind.i64.wrap (s:Int)=(s:Int):=IntWalk.i64_in _ (by omega)
   have i7:IntKind.i64.wrap ((x:Int)+(s:Int))=((x+s:Nat):Int):=by rw [IntWalk.i64_in _ (by omega)];omega
   have i7b:(x:Int)+(s:Int)=((x+s:Nat):Int):=by omega
   obtain ⟨y,hy⟩:∃ y,y=x+s:=⟨_,rfl⟩
   rw [← hy] at i7 i7b
   have t1:(k:Int)<(la:Int):=by omega
   have t2:(q:Int)<(L:Int):=by omega
   have nb1:w.heap.size≠c1:=by omega
   have Hset:=Lib.hid (show tab L (fun t=>if t=q then (y:Int) else wds (a % 2^k) t)=tab L (wds (a % 2^(k+1))) from tab_ext fun j _=>by
    unfold wds
    rw [show (32768:Nat)=2^15 from rfl,hstep j,← hqq]
    by_cases h:j=q
    ·rw [if_pos h,if_pos h,h,show (2:Nat)^15=32768 from rfl,← hx,← hbb,← hrr,← hs,← hy]
    ·rw [if_neg h,if_neg h])
   clear hrow hbw hc1 hb1 hstep hqq hrr hbb hx hs hy
   go_wp2_with fail
   refine wp_region_last (S:=fun w'=>w'.cell? ⟨c1,o1+k,none⟩=some (.int .i64 b)∧w'.cell? ⟨w.heap.size,q,none⟩=some (.int .i64 x)) (by kernel_rfl) (by kernel_rfl) (by (try dsimp only);refine ⟨?_,?_⟩<;>go_simp) (fun hHeld=>?_)
   simp only [List.pop_toArray,List.dropLast]
   (refine tk (i:=0) (v:=?_) rfl rfl (Or.inl ⟨by rfl,?_⟩) ?_;rotate_left;(focus (intro w hSw;(try dsimp only at hSw);go_simp;(try with_reducible rfl)));(simp only [put_lit,List.set]))
   (refine tk (i:=1) (v:=?_) rfl rfl (Or.inl ⟨by rfl,?_⟩) ?_;rotate_left;(focus (intro w hSw;(try dsimp only at hSw);go_simp;(try with_reducible rfl)));(simp only [put_lit,List.set]))
   (refine tk (i:=2) (v:=?_) rfl rfl (Or.inl ⟨by rfl,?_⟩) ?_;rotate_left;(focus (intro w hSw;(try dsimp only at hSw);go_simp;(try with_reducible rfl)));(simp only [put_lit,List.set]))
   (refine tk (i:=3) (v:=?_) rfl rfl (Or.inl ⟨by rfl,?_⟩) ?_;rotate_left;(focus (intro w hSw;(try dsimp only at hSw);go_simp;(try with_reducible rfl)));(simp only [put_lit,List.set]))
   (refine tk (i:=4) (v:=?_) rfl rfl (Or.inl ⟨by rfl,?_⟩) ?_;rotate_left;(focus (intro w hSw;(try dsimp only at hSw);go_simp;(try with_reducible rfl)));(simp only [put_lit,List.set]))
   (refine tk (i:=5) (v:=?_) rfl rfl (Or.inl ⟨by rfl,?_⟩) ?_;rotate_left;(focus (intro w hSw;(try dsimp only at hSw);go_simp;(try with_reducible rfl)));(simp only [put_lit,List.set]))
   (refine tk (i:=6) (v:=?_) rfl rfl (Or.inl ⟨by rfl,?_⟩) ?_;rotate_left;(focus (intro w hSw;(try dsimp only at hSw);go_simp;(try with_reducible rfl)));(simp only [put_lit,List.set]))
   (refine tk (i:=7) (v:=?_) rfl rfl (Or.inl ⟨by rfl,?_⟩) ?_;rotate_left;(focus (intro w hSw;(try dsimp only at hSw);go_simp;(try with_reducible rfl)));(simp only [put_lit,List.set]))
   (refine tk (i:=8) (v:=?_) rfl rfl (Or.inl ⟨by rfl,?_⟩) ?_;rotate_left;(focus (intro w hSw;(try dsimp only at hSw);go_simp;(try with_reducible rfl)));(simp only [put_lit,List.set]))
   (refine tk (i:=9) (v:=?_) rfl rfl (Or.inl ⟨by rfl,?_⟩) ?_;rotate_left;(focus (intro w hSw;(try dsimp only at hSw);go_simp;(try with_reducible rfl)));(simp only [put_lit,List.set]))
   (refine tk (i:=10) (v:=?_) rfl rfl (Or.inl ⟨by rfl,?_⟩) ?_;rotate_left;(focus (intro w hSw;(try dsimp only at hSw);go_simp;(try with_reducible rfl)));(simp only [put_lit,List.set]))
   (refine tk (i:=11) (v:=?_) rfl rfl (Or.inl ⟨by rfl,?_⟩) ?_;rotate_left;(focus (intro w hSw;(try dsimp only at hSw);go_simp;(try with_reducible rfl)));(simp only [put_lit,List.set]))
   (refine tk (i:=12) (v:=?_) rfl rfl (Or.inl ⟨by rfl,?_⟩) ?_;rotate_left;(focus (intro w hSw;(try dsimp only at hSw);go_simp;(try with_reducible rfl)));(simp only [put_lit,List.set]))
   (refine tk (i:=13) (v:=?_) rfl rfl (Or.inl ⟨by rfl,?_⟩) ?_;rotate_left;(focus (intro w hSw;(try dsimp only at hSw);go_simp;(try with_reducible rfl)));(simp only [put_lit,List.set]))
   (refine tk (i:=14) (v:=?_) rfl rfl (Or.inl ⟨by rfl,?_⟩) ?_;rotate_left;(focus (intro w hSw;(try dsimp only at hSw);go_simp;(try with_reducible rfl)));(simp only [put_lit,List.set]))
   refine wpAnyH_done (by kernel_rfl) (lastQ_list rfl ?_) _
   clear hHeld
   go_wp2_with fail
   have hr2:=Hrow.out.drew.set_ q (y:Int)
   rw [tab_set,Hset.out] at hr2
   have Hr2:=Lib.hid hr2
   clear hr2
   go_roundw
   case rel=>exact ⟨k+1,by omega,by go_num,Hr2.out,Hbw.out.trans Bel.go⟩
   case measure=>simp [intOf];omega
  ·have hkl:k=la:=by omega
   subst hkl
   rw [Hfull.out] at hrow
   have Hfin:=Lib.hid hrow
   clear hrow Hrow hbw
   go_wp2
   go_ret
   exact ⟨rfl,Hfin.out,Hbw.out⟩
set_option maxRecDepth 100000 in
set_option maxHeartbeats 4000000 in
theorem bits_any (A:Option Addr) (len cap n:Nat) (w:World) (h:I64At w A len cap (tab len (wds n))) (hn:n<32768^len) (hm:len≤60000) :
  Calls Tryz.prog 161 #[.slice A len cap] w fun e w'=>∃ A' l' c',e=.returned (.slice A' l' c')∧I64At w' A' l' c' (bts n)∧Typ w' A' l'∧Below w.heap.size w w':=by
 have HA:=Lib.hid h
 obtain ⟨N,hN⟩:∃ N,N=15*len:=⟨_,rfl⟩
 have Hlt:=Lib.hid (show n<2^N by rw [hN,Nat.pow_mul];exact hn)
 have n1:(15:Int)*(len:Int)=(N:Int):=by omega
 have n2:IntKind.i64.wrap (N:Int)=(N:Int):=IntWalk.i64_in _ (by omega)
 have hNb:N≤900000:=by omega
 have Hw:=Lib.hid (fun k (hk:k<N)=>(show k / 15<len by omega))
 clear hN h hn
 go_enter Tryz.func161,Tryz.ntmps161
 go_wp2_with (at_make;refine wpList_make_int _ rfl (.tmp 7) (.tmp 7) rfl N rfl rfl (by omega) ?_)
 intro w1 hz hb1 hsz
 rw [tab_zero] at hz
 have Hz:=Lib.hid (show IRow w1 w.heap.size (tab N (fun j=>if j<0 then (btn n j:Int) else 0)) by rw [tab_ext (G:=fun _=>0) (fun j _=>by rw [if_neg (by omega)])];exact hz)
 have Hb1:=Lib.hid hb1
 clear hz hb1 hsz n1 n2
 go_wp2
 go_loopw [4] (fun s4 wr=>∃ k:Nat,k≤N∧s4=.int .i64 (k:Int)∧IRow wr w.heap.size (tab N (fun j=>if j<k then (btn n j:Int) else 0))∧Below w.heap.size w wr) (fun s4 _=>N-(intOf s4).toNat)
 case atStart=>exact ⟨0,Nat.zero_le _,rfl,Hz.out,Hb1.out⟩
 case round =>
  clear Hz Hb1
  obtain ⟨k,hk,rfl,hrow,hbw⟩:=hrel
  have Hrow:=Lib.hid hrow
  have Hbw:=Lib.hid hbw
  by_cases hlt:k<N
  ·obtain ⟨c1,o1,rfl,hb1,hc1⟩:=HA.out.at_ (by have:=Hw.out k hlt;omega)
   have hq:=Hw.out k hlt
   have e1:=(hbw.cell (p:=⟨c1,o1+k / 15,none⟩) hb1).trans (hc1 (k / 15) hq)
   rw [tab_get _ hq] at e1
   have e3:=hrow.cell (i:=k) (by rw [tab_length];exact hlt)
   have f3:=hrow.frozen k
   have hbit:=bit_of (s:=15) (by decide) n k
   have hr:=Nat.mod_lt k (show 15 > 0 by decide)
   have hx2:=dgt_lt (B:=32768) (by decide) n (k / 15)
   obtain ⟨q,hqq⟩:∃ q,q=k / 15:=⟨_,rfl⟩
   obtain ⟨r,hrr⟩:∃ r,r=k % 15:=⟨_,rfl⟩
   obtain ⟨x,hx⟩:∃ x,x=dgt 32768 n q:=⟨_,rfl⟩
   rw [← hqq] at e1 hq hx2
   rw [show wds n q=(x:Int) by unfold wds;rw [hx]] at e1
   rw [← hx] at hx2
   rw [← hrr] at hr
   rw [← hqq,← hrr,show (2:Nat)^15=32768 from rfl,← hx] at hbit
   obtain ⟨s,hs⟩:∃ s,s=x / 2^r:=⟨_,rfl⟩
   have hsx:s≤x:=by rw [hs];exact Nat.div_le_self _ _
   obtain ⟨b,hbb⟩:∃ b,b=btn n k:=⟨_,rfl⟩
   rw [← hs,← hbb] at hbit
   have i1:Int.tdiv (k:Int) 15=(q:Int):=by rw [hqq];rfl
   have i2:Int.tmod (k:Int) 15=(r:Int):=by rw [hrr];rfl
   have i3:IntKind.i64.wrap (q:Int)=(q:Int):=IntWalk.i64_in _ (by omega)
   have i4:IntKind.u64.wrap (r:Int)=(r:Int):=IntWalk.u64_in _ (by omega)
   have i5:(x:Int) / 2^r=(s:Int):=by rw [hs];simp
   have i6:IntKind.i64.wrap (s:Int)=(s:Int):=IntWalk.i64_in _ (by omega)
   have i7:Int.tmod (s:Int) 2=(b:Int):=by rw [← hbit];rfl
   have t1:(k:Int)<(N:Int):=by omega
   have t2:(q:Int)<(len:Int):=by omega
   have nb1:w.heap.size≠c1:=by omega
   have Hset:=Lib.hid (show tab N (fun t=>if t=k then (b:Int) else if t<k then (btn n t:Int) else 0)=tab N (fun t=>if t<k+1 then (btn n t:Int) else 0) from tab_ext fun j _=>by
    by_cases h:j=k
    ·rw [if_pos h,if_pos (by omega),h,hbb]
    ·rw [if_neg h]
     by_cases h2:j<k
     ·rw [if_pos h2,if_pos (by omega)]
     ·rw [if_neg h2,if_neg (by omega)])
   clear hrow hbw hc1 hb1 hqq hrr hbb hx hs hbit
   go_wp2_with fail
   have hr2:=Hrow.out.set_ k (b:Int)
   rw [tab_set,Hset.out] at hr2
   have Hr2:=Lib.hid hr2
   clear hr2
   go_roundw
   case rel=>exact ⟨k+1,by omega,by go_num,Hr2.out,Hbw.out.trans Bel.go⟩
   case measure=>simp [intOf];omega
  ·have hkl:k=N:=by omega
   have hres:ptrim (tab N (fun j=>if j<k then (btn n j:Int) else 0))=bts n:=trim_bts (fun j hj=>by
    rw [tab_length] at hj
    rw [tab_get _ hj,if_pos (by omega)]) (by rw [tab_length];exact Hlt.out)
   obtain ⟨Q,hQ⟩:∃ Q,Q=tab N (fun j=>if j<k then (btn n j:Int) else 0):=⟨_,rfl⟩
   have hQl:Q.length=N:=by rw [hQ,tab_length]
   rw [← hQ] at hrow hres
   have hat:=hrow.at_ (cap:=N) (by omega)
   rw [hQl] at hat
   have Hty:=Lib.hid (show Typ wr (some ⟨w.heap.size,0,none⟩) (plen Q) from .inr ⟨_,_,_,rfl,hrow⟩)
   have Hat:=Lib.hid hat
   have Hres:=Lib.hid hres
   have hpl:plen Q≤N:=by have:=plen_le Q;omega
   clear hrow Hrow hbw hQ hQl hres hkl
   go_wp2_with fail
   refine (btrim_any _ _ _ _ _ hat (by omega)).mono ?_
   rintro e w2 ⟨rfl,rfl⟩
   have hfin:=hat.take hpl
   have Hfin:=Lib.hid (show I64At wr (some ⟨w.heap.size,0,none⟩) (plen Q) N (bts n) by rw [← Hres.out];exact hfin)
   clear hfin hat
   go_wp2
   go_ret
   exact ⟨_,_,_,rfl,Hfin.out,Hty.out,Hbw.out⟩
end Go.Proofs.YtjmglmgokfcgoaaGreat
namespace Go.Proofs.YtjmglmgokfcgoaaGreat
open Go.RowKit
def mrn (B N x y i k j:Nat):Nat:=if j<i+k then dgt B (mU B N x y i k) j else dgt B N j
theorem mrn_zero {B:Nat} (hB:0<B) (N x y i j:Nat):mrn B N x y i 0 j=dgt B N j:=by
 unfold mrn
 rw [mU_zero]
 split
 ·rename_i h
  have e:=dgt_low hB (N % B^i) (N / B^i) (m:=i) (j:=j) (by omega)
  rw [Nat.mul_comm,Nat.mod_add_div] at e
  exact e.symm
 ·rfl
theorem mrn_step {B:Nat} (hB:0<B) {N x y i k:Nat} (hx:x<B) {v:Nat} (hv:v=dgt B N (i+k)+x*dgt B y k+mU B N x y i k / B^(i+k)) (j:Nat) :
  (if j=i+k then v % B else mrn B N x y i k j)=mrn B N x y i (k+1) j:=by
 obtain ⟨h1,_,h3,_⟩:=mul_step hB N y i k hx hv
 unfold mrn
 by_cases h:j=i+k
 ·rw [if_pos h,if_pos (by omega),h,h1]
 ·rw [if_neg h]
  by_cases h4:j<i+k
  ·rw [if_pos h4,if_pos (by omega),h3 j h4]
  ·rw [if_neg h4,if_neg (by omega)]
theorem mrn_end {B:Nat} (hB:0<B) {a y i l:Nat} (hy:y<B^l) (j:Nat):(if j=i+l then mU B (a % B^i*y) (dgt B a i) y i l / B^(i+l) else mrn B (a % B^i*y) (dgt B a i) y i l j)=dgt B (a % B^(i+1)*y) j:=by
 have h1:=row_lt a y i l hy hB
 have h2:=row_lt a y (i+1) l hy hB
 have h5:=mU_full a y i l hy hB
 unfold mrn
 rw [h5]
 by_cases h:j=i+l
 ·rw [if_pos h,h,dgt_top (by rw [show i+l+1=i+1+l by omega];exact h2)]
 ·rw [if_neg h]
  by_cases h4:j<i+l
  ·rw [if_pos h4]
  ·rw [if_neg h4,dgt_zero (Nat.lt_of_lt_of_le h1 (Nat.pow_le_pow_right hB (by omega))),dgt_zero (Nat.lt_of_lt_of_le h2 (Nat.pow_le_pow_right hB (by omega)))]
def mrow (N x y i k j:Nat):Int:=((mrn 32768 N x y i k j:Nat):Int)
theorem mrow_zero (N x y i:Nat) (n:Nat):tab n (mrow N x y i 0)=tab n (wds N):=tab_ext fun j _=>by unfold mrow wds;rw [mrn_zero (by decide)]
theorem mrow_step {N x y i k:Nat} (hx:x<32768) {v:Nat} (hv:v=dgt 32768 N (i+k)+x*dgt 32768 y k+mU 32768 N x y i k / 32768^(i+k)) (n:Nat) :
  tab n (fun t=>if t=i+k then ((v % 32768:Nat):Int) else mrow N x y i k t)=tab n (mrow N x y i (k+1)):=tab_ext fun j _=>by
 have h:=mrn_step (by decide) hx hv j
 unfold mrow
 rw [← h]
 split<;>rfl
theorem mrow_end {a y i l:Nat} (hy:y<32768^l) (n:Nat):tab n (fun t=>if t=i+l then ((mU 32768 (a % 32768^i*y) (dgt 32768 a i) y i l / 32768^(i+l):Nat):Int) else mrow (a % 32768^i*y) (dgt 32768 a i) y i l t)=tab n (wds (a % 32768^(i+1)*y)):=tab_ext fun j _=>by
 have h:=mrn_end (by decide) hy j (a:=a) (i:=i)
 unfold mrow wds
 rw [← h]
 split<;>rfl
theorem mrow_at (N x y i k:Nat):mrow N x y i k (i+k)=((dgt 32768 N (i+k):Nat):Int):=by unfold mrow mrn;rw [if_neg (by omega)]
theorem below_drewN {B:Nat} {a w:World} (h:Below B a w) (n:Nat):Below B a (w.drewN n):=⟨h.os,h.tape,h.output,h.size,h.block⟩
set_option maxRecDepth 100000 in
set_option maxHeartbeats 8000000 in
theorem bmul_any (A:Option Addr) (la ca a:Nat) (B:Option Addr) (lb cb b:Nat) (w:World) (ha:I64At w A la ca (bts a)) (hb:I64At w B lb cb (bts b)) (hma:la≤400000) (hmb:lb≤400000) :
  Calls Tryz.prog 89 #[.slice A la ca,.slice B lb cb] w fun e w'=>∃ A' l' c',e=.returned (.slice A' l' c')∧I64At w' A' l' c' (bts (a*b))∧Typ w' A' l'∧Below w.heap.size w w':=by
 have hla:=ha.length
 have hlb:=hb.length
 rw [bts_length] at hla hlb
 have HA:=Lib.hid ha
 have HB:=Lib.hid hb
 obtain ⟨lx,hlx⟩:∃ lx,lx=wln 15 a:=⟨_,rfl⟩
 obtain ⟨ly,hly⟩:∃ ly,ly=wln 15 b:=⟨_,rfl⟩
 have Hax:=Lib.hid (show a<32768^lx by rw [hlx];exact lt_wln (s:=15) (by decide) a)
 have Hby:=Lib.hid (show b<32768^ly by rw [hly];exact lt_wln (s:=15) (by decide) b)
 have lxb:lx≤27000:=by rw [hlx];unfold wln;omega
 have lyb:ly≤27000:=by rw [hly];unfold wln;omega
 obtain ⟨n,hn⟩:∃ n,n=lx+ly:=⟨_,rfl⟩
 have n1:(lx:Int)+(ly:Int)=(n:Int):=by omega
 have n2:IntKind.i64.wrap (n:Int)=(n:Int):=IntWalk.i64_in _ (by omega)
 have HL:=Lib.hid (And.intro hlx hly)
 have Hn:=Lib.hid hn
 have hnb:n≤54000:=by omega
 clear hlx hly hla hlb ha hb hn
 go_enter Tryz.func89,Tryz.ntmps89
 go_wp2_with fail
 refine (words_any _ _ _ a _ HA.out (by omega)).mono ?_
 rintro e w1 ⟨rfl,hx,hb1⟩
 rw [← HL.out.1] at hx
 rw [← HL.out.1]
 have hg1:=hx.lt
 have Hx:=Lib.hid hx
 have Hb1:=Lib.hid hb1
 have hs1:=hb1.size
 clear hx hb1
 go_wp2_with fail
 refine (words_any _ _ _ b _ (HB.out.below Hb1.out) (by omega)).mono ?_
 rintro e w2 ⟨rfl,hy,hb2⟩
 rw [← HL.out.2] at hy
 rw [← HL.out.2]
 have hg2:=hy.lt
 have hs2:=hb2.size
 have hx2:=Hx.out.below hb2 (by omega)
 have Hb2:=Lib.hid (Hb1.out.trans (hb2.mono hs1))
 have HX:=Lib.hid hx2
 have HY:=Lib.hid hy
 have hgl1:w.heap.size<w2.heap.size:=by omega
 clear hy hb2 hx2 Hx Hb1 hs1
 go_wp2_with (at_make;refine wpList_make_int _ rfl (.tmp 20) (.tmp 20) rfl n rfl rfl (by omega) ?_)
 intro w3 hz hb3 hsz
 rw [tab_zero] at hz
 have Hz:=Lib.hid (show IRow w3 w2.heap.size (tab n (wds (a % 32768^0*b))) by rw [tab_ext (G:=fun _=>0) (fun j _=>by unfold wds dgt;rw [Nat.pow_zero,Nat.mod_one,Nat.zero_mul,Nat.zero_div];rfl)];exact hz)
 have Hb3:=Lib.hid hb3
 clear hz hb3 hsz n1 n2
 go_wp2
 go_loopw [8] (fun s8 wr=>∃ i:Nat,i≤lx∧s8=.int .i64 (i:Int)∧IRow wr w2.heap.size (tab n (wds (a % 32768^i*b)))∧Below w2.heap.size w2 wr) (fun s8 _=>lx-(intOf s8).toNat)
 case atStart=>exact ⟨0,Nat.zero_le _,rfl,Hz.out,Hb3.out⟩
 case round =>
  clear Hz Hb3
  obtain ⟨i,hi,rfl,hrow,hbw⟩:=hrel
  obtain ⟨wo,rfl⟩:∃ wo:World,wo=wr:=⟨_,rfl⟩
  have Hrow:=Lib.hid hrow
  have Hbw:=Lib.hid hbw
  clear hrow hbw
  by_cases hlt:i<lx
  ·obtain ⟨N,hN⟩:∃ N,N=a % 32768^i*b:=⟨_,rfl⟩
   obtain ⟨x,hxv⟩:∃ x,x=dgt 32768 a i:=⟨_,rfl⟩
   have hx15:x<32768:=by rw [hxv];exact dgt_lt (by decide) _ _
   have Hend:=Lib.hid (mrow_end (a:=a) (i:=i) Hby.out n)
   have Hlow:=Lib.hid (row_lt a b i ly Hby.out (B:=32768) (by decide))
   rw [← hN,← hxv] at Hend
   rw [← hN] at Hlow
   have HN:=Lib.hid hN
   have Hxv:=Lib.hid hxv
   have Hrow0:=Lib.hid (show IRow wo w2.heap.size (tab n (mrow N x b i 0)) by rw [mrow_zero,hN];exact Hrow.out)
   have t0:(i:Int)<(lx:Int):=by omega
   clear hN hxv Hrow
   go_wp2
   go_loopw [9,10] (fun s9 s10 wx=>∃ k c:Nat,k≤ly∧s10=.int .i64 (k:Int)∧s9=.int .i64 (c:Int)∧IRow wx w2.heap.size (tab n (mrow N x b i k))∧c=mU 32768 N x b i k / 32768^(i+k)∧Below w2.heap.size w2 wx) (fun _ s10 _=>ly-(intOf s10).toNat)
   case atStart=>exact ⟨0,0,Nat.zero_le _,rfl,rfl,Hrow0.out,by rw [mU_zero,Nat.add_zero,Nat.div_eq_of_lt (Nat.mod_lt _ (Nat.pow_pos (by decide)))],Hbw.out⟩
   case round =>
    clear Hrow0 Hbw
    obtain ⟨k,c,hk,rfl,rfl,hrow,hc,hbx⟩:=hrel
    have Hrow:=Lib.hid hrow
    have Hbx:=Lib.hid hbx
    by_cases hkg:k<ly
    ·have hik:i+k<n:=by have:=Hn.out;omega
     have r1:=HX.out.below hbx hgl1
     have r2:=HY.out.below hbx hg2
     have e1:=r1.cell (i:=i) (by rw [tab_length];exact hlt)
     have e2:=r2.cell (i:=k) (by rw [tab_length];exact hkg)
     have e3:=hrow.cell (i:=i+k) (by rw [tab_length];exact hik)
     rw [tab_get _ hlt] at e1
     rw [tab_get _ hkg] at e2
     rw [tab_get _ hik,mrow_at] at e3
     rw [show wds a i=(x:Int) by unfold wds;rw [Hxv.out]] at e1
     have f3:=hrow.frozen (i+k)
     have d1:=dgt_lt (B:=32768) (by decide) N (i+k)
     have d2:=dgt_lt (B:=32768) (by decide) b k
     have d3:=(mul_step (B:=32768) (by decide) N b i k hx15 rfl).2.2.2
     rw [← hc] at d3
     have hst:=fun (v:Nat) hv=>mrow_step (N:=N) (y:=b) (i:=i) (k:=k) hx15 (v:=v) hv n
     have hsc:=fun (v:Nat) hv=>(mul_step (B:=32768) (by decide) N b i k hx15 (v:=v) hv).2.1
     rw [← hc] at hst hsc
     obtain ⟨y,hy⟩:∃ y,y=dgt 32768 b k:=⟨_,rfl⟩
     obtain ⟨d,hd⟩:∃ d,d=dgt 32768 N (i+k):=⟨_,rfl⟩
     rw [show wds b k=(y:Int) by unfold wds;rw [hy]] at e2
     rw [← hd] at e3 d1 hst hsc
     rw [← hy] at d2 hst hsc
     have hxy:x*y≤32767*32767:=Nat.mul_le_mul (by omega) (by omega)
     obtain ⟨z,hz⟩:∃ z,z=x*y:=⟨_,rfl⟩
     rw [← hz] at hxy hst hsc
     obtain ⟨v,hv⟩:∃ v,v=d+z+c:=⟨_,rfl⟩
     have Hst:=Lib.hid (hst v hv)
     have Hsc:=Lib.hid (hsc v hv)
     obtain ⟨vm,hvm⟩:∃ vm,vm=v % 32768:=⟨_,rfl⟩
     obtain ⟨vd,hvd⟩:∃ vd,vd=v / 32768:=⟨_,rfl⟩
     rw [← hvm] at Hst
     rw [← hvd] at Hsc
     obtain ⟨m,hm⟩:∃ m,m=i+k:=⟨_,rfl⟩
     rw [← hm] at e3 f3 hik Hst Hsc
     have i1:(i:Int)+(k:Int)=(m:Int):=by omega
     have i2:IntKind.i64.wrap (m:Int)=(m:Int):=IntWalk.i64_in _ (by omega)
     have i3:(x:Int)*(y:Int)=(z:Int):=by rw [hz];simp
     have i4:IntKind.i64.wrap (z:Int)=(z:Int):=IntWalk.i64_in _ (by omega)
     have i5:IntKind.i64.wrap ((d:Int)+(z:Int))=(d:Int)+(z:Int):=IntWalk.i64_in _ (by omega)
     have i6:IntKind.i64.wrap ((d:Int)+(z:Int)+(c:Int))=(v:Int):=by rw [IntWalk.i64_in _ (by omega)];omega
     have i6b:(d:Int)+(z:Int)+(c:Int)=(v:Int):=by omega
     have i7:Int.tmod (v:Int) 32768=(vm:Int):=by rw [hvm];rfl
     have i8:Int.tdiv (v:Int) 32768=(vd:Int):=by rw [hvd];rfl
     have i11:IntKind.i64.wrap (v:Int)=(v:Int):=IntWalk.i64_in _ (by omega)
     have i9:IntKind.i64.wrap (vm:Int)=(vm:Int):=IntWalk.i64_in _ (by omega)
     have i10:IntKind.i64.wrap (vd:Int)=(vd:Int):=IntWalk.i64_in _ (by omega)
     have t1:(m:Int)<(n:Int):=by omega
     have t2:(k:Int)<(ly:Int):=by omega
     have nb1:w2.heap.size≠w.heap.size:=by omega
     have nb2:w2.heap.size≠w1.heap.size:=by omega
     have Hm:=Lib.hid hm
     clear hrow hbx r1 r2 hc hst hsc hy hd hz hv hvm hvd hm d1 d2 d3 hxy
     go_wp2
     go_quiet (fail)
     go_wp2
     have Hr2:=Lib.hid (fun nq=>(show IRow ((wr.drewN nq).setCell ⟨w2.heap.size,m,none⟩ (.int .i64 (vm:Int))) w2.heap.size (tab n (mrow N x b i (k+1))) by
      have hr2:=IRow.set_ (w:=wr.drewN nq) Hrow.out m (vm:Int)
      rw [tab_set,Hst.out] at hr2
      exact hr2))
     go_roundw
     case rel=>exact ⟨k+1,vd,by omega,by go_num,by go_num,Hr2.out _,by rw [Hsc.out,Hm.out];rfl,Hbx.out.trans (Below.setCell (B:=w2.heap.size) (below_drewN (Below.refl _ _) _) (by simp) _)⟩
     case measure=>simp [intOf];omega
    ·have hkk:k=ly:=by omega
     subst hkk
     have hil:i+k<n:=by have:=Hn.out;omega
     have e3:=hrow.cell (i:=i+k) (by rw [tab_length];exact hil)
     have hmr:mrow N x b i k (i+k)=0:=by rw [mrow_at,dgt_zero Hlow.out];rfl
     rw [tab_get _ hil,hmr] at e3
     have f3:=hrow.frozen (i+k)
     have hcl:=mU_lt (B:=32768) (by decide) N b i k hx15
     have hc15:c<32768:=by
      rw [hc]
      rw [Nat.pow_succ] at hcl
      exact Nat.div_lt_of_lt_mul hcl
     have hend:=Hend.out
     rw [← hc] at hend
     have Hend2:=Lib.hid hend
     obtain ⟨m,hm⟩:∃ m,m=i+k:=⟨_,rfl⟩
     rw [← hm] at e3 f3 hil Hend2
     have i1:(i:Int)+(k:Int)=(m:Int):=by omega
     have i2:IntKind.i64.wrap (m:Int)=(m:Int):=IntWalk.i64_in _ (by omega)
     have i3:IntKind.i64.wrap (c:Int)=(c:Int):=IntWalk.i64_in _ (by omega)
     have t1:(m:Int)<(n:Int):=by omega
     clear hrow hbx hc hmr hcl hend Hend hm
     go_wp2
     have hr2:=Hrow.out.set_ m (c:Int)
     rw [tab_set,Hend2.out] at hr2
     have Hr2:=Lib.hid hr2
     clear hr2
     go_roundw
     case rel=>exact ⟨i+1,by omega,by go_num,Hr2.out,Hbx.out.trans Bel.go⟩
     case measure=>simp [intOf];omega
  ·have hii:i=lx:=by omega
   subst hii
   have hat:=Hrow.out.at_ (cap:=n) (by rw [tab_length];exact Nat.le_refl _)
   rw [tab_length,Nat.mod_eq_of_lt Hax.out] at hat
   have hlt2:a*b<32768^n:=by
    have:=row_lt (B:=32768) a b i ly Hby.out (by decide)
    rw [Nat.mod_eq_of_lt Hax.out,← Hn.out] at this
    exact this
   have Hlt2:=Lib.hid hlt2
   have Hb4:=Lib.hid (Hb2.out.trans (Hbw.out.mono (by omega)))
   have hs4:=Hb4.out.size
   clear Hrow hlt2
   go_wp2_with fail
   refine (bits_any _ n n (a*b) _ hat Hlt2.out (by omega)).mono ?_
   rintro e w4 ⟨A4,l4,c4,rfl,h4,ht4,hb4⟩
   have H4:=Lib.hid h4
   have Ht4:=Lib.hid ht4
   have Hb5:=Lib.hid (Hb4.out.trans (hb4.mono hs4))
   clear h4 ht4 hb4 hat
   go_wp2
   go_ret
   exact ⟨_,_,_,rfl,H4.out,Ht4.out,Hb5.out⟩
end Go.Proofs.YtjmglmgokfcgoaaGreat
namespace Go.Proofs.YtjmglmgokfcgoaaGreat
open Go.RowKit
set_option maxRecDepth 100000 in
set_option maxHeartbeats 4000000 in
theorem bof_any (A:Option Addr) (len cap:Nat) (ds:List Nat) (w:World) (h:DigAt w A len cap ds) (hm:len≤30000) :
  Calls Tryz.prog 88 #[.slice A len cap] w fun e w'=>∃ A' l' c',e=.returned (.slice A' l' c')∧I64At w' A' l' c' (bts (val ds))∧Typ w' A' l'∧Below w.heap.size w w':=by
 obtain ⟨i0,hi,hz0,hz1,hz2⟩:=info_parts info_int64
 have HA:=Lib.hid h
 obtain ⟨N,hN⟩:∃ N,N=32*len:=⟨_,rfl⟩
 obtain ⟨v,hv⟩:∃ v,v=val ds:=⟨_,rfl⟩
 have Hlt:=Lib.hid (show v<2^N by
  have:=val_lt h.wd
  rw [h.length,BBp,← Nat.pow_mul,← hN,← hv] at this
  exact this)
 have Hd:=Lib.hid (fun q=>(show ds.getD q 0=dgt (2^32) v q by rw [← BBp,hv];exact val_digit h.wd q))
 have n1:(32:Int)*(len:Int)=(N:Int):=by omega
 have n2:IntKind.i64.wrap (N:Int)=(N:Int):=IntWalk.i64_in _ (by omega)
 have hNb:N≤960000:=by omega
 have Hw:=Lib.hid (fun k (hk:k<N)=>(show k / 32<len by omega))
 obtain ⟨Q,hQ0⟩:∃ Q,Q=tabQ v N:=⟨_,rfl⟩
 have hQ:=Lib.hid hQ0
 have hQl:=Lib.hid (show Q.length=N by rw [hQ0,tabQ_length])
 rw [← hv]
 clear hN h hQ0 hv
 go_enter Tryz.func88,Tryz.ntmps88
 go_wp2
 go_loopw [3,4] (fun s3 s4 wr=>∃ k:Nat,k≤N∧s4=.int .i64 (k:Int)∧OwnI 3 wr w.heap.size s3 k Q∧Below w.heap.size w wr) (fun _ s4 _=>N-(intOf s4).toNat)
 case atStart=>exact ⟨0,Nat.zero_le _,rfl,World.ownsRow_nil _ _ _ _,Below.refl _ _⟩
 case round =>
  obtain ⟨k,hk,rfl,hown,hbw⟩:=hrel
  have Hown:=Lib.hid hown
  have Hbw:=Lib.hid hbw
  clear hown
  by_cases hlt:k<N
  ·have hq:=Hw.out k hlt
   obtain ⟨c1,o1,rfl,hb1,hc1⟩:=HA.out.at_ (by omega)
   have e1:=(hbw.cell (p:=⟨c1,o1+k / 32,none⟩) hb1).trans (hc1 (k / 32) hq)
   rw [Hd.out] at e1
   have hbit:=bit_of (s:=32) (by decide) v k
   have hr:=Nat.mod_lt k (show 32 > 0 by decide)
   have hx2:=dgt_lt (two_pow_pos 32) v (k / 32)
   rw [show (2:Nat)^32=4294967296 from rfl] at hx2
   obtain ⟨q,hqq⟩:∃ q,q=k / 32:=⟨_,rfl⟩
   obtain ⟨r,hrr⟩:∃ r,r=k % 32:=⟨_,rfl⟩
   rw [← hqq] at e1 hq hx2
   rw [← hqq,← hrr] at hbit
   obtain ⟨x,hx⟩:∃ x,x=dgt (2^32) v q:=⟨_,rfl⟩
   rw [← hx] at e1 hbit
   have hx3:x<4294967296:=by rw [hx];exact hx2
   rw [← hrr] at hr
   obtain ⟨s,hs⟩:∃ s,s=x / 2^r:=⟨_,rfl⟩
   have hsx:s≤x:=by rw [hs];exact Nat.div_le_self _ _
   obtain ⟨b,hbb⟩:∃ b,b=btn v k:=⟨_,rfl⟩
   rw [← hs,← hbb] at hbit
   have hb2:b<2:=by rw [hbb];exact btn_lt _ _
   have Hg:=Lib.hid (show Q[k]?.getD 0=(b:Int) by rw [hQ.out,tabQ_get _ _ hlt,hbb])
   have i1:Int.tdiv (k:Int) 32=(q:Int):=by rw [hqq];rfl
   have i2:Int.tmod (k:Int) 32=(r:Int):=by rw [hrr];rfl
   have i3:IntKind.i64.wrap (q:Int)=(q:Int):=IntWalk.i64_in _ (by omega)
   have i4:IntKind.u64.wrap (r:Int)=(r:Int):=IntWalk.u64_in _ (by omega)
   have i5:(x:Int) / 2^r=(s:Int):=by rw [hs];simp
   have i6:IntKind.u32.wrap (s:Int)=(s:Int):=IntWalk.u32_in _ (by omega)
   have i7:Int.tmod (s:Int) 2=(b:Int):=by rw [← hbit];rfl
   have i8:IntKind.u32.wrap (b:Int)=(b:Int):=IntWalk.u32_in _ (by omega)
   have i9:IntKind.i64.wrap (b:Int)=(b:Int):=IntWalk.i64_in _ (by omega)
   have t1:(k:Int)<(N:Int):=by omega
   have t2:(q:Int)<(len:Int):=by omega
   clear hbw hc1 hb1 hqq hrr hbb hx hs hbit hx2
   go_wp2_with (at_builtin;refine wpList_append_one rfl (.tmp 12) (.tmp 24) 32 rfl w.heap.size 3 i0 (.int .i64 0) 8 Tryz.underlying32 hi hz0 hz1 hz2 rfl _ (.int .i64 b) k _ rfl rfl Hown.out rfl (by omega) (by omega) Hbw.out.size ?_)
   intro v' w1 hown' hgrow
   have R:=Lib.hid (OwnI.step (v':=v') (by rw [hQl.out];omega) Hbw.out.size Hown.out Hbw.out (by rw [Hg.out];exact hown') hgrow)
   clear hown' hgrow
   go_wp2
   go_roundw
   case rel=>exact ⟨k+1,by omega,by go_num,R.out.1,R.out.2⟩
   case measure=>simp [intOf];omega
  ·have hkl:k=N:=by omega
   obtain ⟨A',cap',rfl,hat⟩:=Hown.out.at_take (by rw [hQl.out];exact hk)
   have hres:ptrim (Q.take k)=bts v:=by rw [hQ.out];exact tabQ_bts hk (by rw [hkl];exact Hlt.out)
   have Hat:=Lib.hid hat
   have Hres:=Lib.hid hres
   have t1:¬ (k:Int)<(N:Int):=by omega
   clear hres hi hz0 hz1 hz2 hkl hbw
   go_wp2_with fail
   refine (btrim_any _ _ _ _ _ Hat.out (by omega)).mono ?_
   rintro e w2 ⟨rfl,rfl⟩
   have hfin:=Hat.out.take (k:=plen (Q.take k)) (by have:=plen_le (Q.take k);rw [Hat.out.length] at this;exact this)
   have Hfin:=Lib.hid (show I64At wr A' (plen (Q.take k)) cap' (bts v) by rw [← Hres.out];exact hfin)
   clear hfin hat
   go_wp2
   go_ret
   exact ⟨_,_,_,rfl,Hfin.out,(own_typ Hown.out).le (by have:=plen_le (Q.take k);rw [Hat.out.length] at this;exact this),Hbw.out⟩
end Go.Proofs.YtjmglmgokfcgoaaGreat
