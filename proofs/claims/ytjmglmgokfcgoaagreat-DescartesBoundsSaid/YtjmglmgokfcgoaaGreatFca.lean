/- The reference cylinderref11: Few, Wide, Root, Same. -/
import Derived.Test.YtjmglmgokfcgoaaGreatRowL
import Derived.Test.YtjmglmgokfcgoaaGreatRf1
namespace Go.Proofs.YtjmglmgokfcgoaaGreat
open Go Go.RowKit
theorem plen_of_trim {p:List Int} (h:ptrim p=p):p.length=plen p:=by
 have h1:(ptrim p).length=plen p:=by unfold ptrim;rw [List.length_take];exact Nat.min_eq_left (plen_le p)
 rw [h] at h1
 exact h1
theorem below_drewn {B:Nat} {w w':World} (h:Below B w w') (n:Nat):Below B w (w'.drewN n):=⟨h.os,by simpa [World.drewN] using h.tape,h.output,h.size,h.block⟩
def Sma (q:List Int):Prop:=∀ k,k<3→-9≤q.getD k 0∧q.getD k 0≤9
noncomputable def fewb (n:Nat) (qs:List (List Int)):Bool:=@decide (qs.length≤n∧∀ i,i<qs.length→Sma (qs.getD i [])) (Classical.propDecidable _)
set_option maxRecDepth 100000 in
set_option maxHeartbeats 2000000 in
theorem few_any {w:World} {A:Option Addr} {la ca:Nat} {qs:List (List Int)} (h:TrAt w A la ca qs) (n:Nat) (hn:n≤100) (hlm:la≤9223372036854775807) :
  Calls Tryz.prog 14 #[.int .i64 (n:Int),.slice A la ca] w fun e w'=>e=.returned (.bool (fewb n qs))∧w=w':=by
 have Hl:=Lib.hid h.length
 have H:=Lib.hid h
 have YES:=Lib.hid (show (qs.length≤n∧∀ i,i<qs.length→Sma (qs.getD i []))→fewb n qs=true from fun h=>by unfold fewb;exact @decide_eq_true _ (Classical.propDecidable _) h)
 have NO:=Lib.hid (show ¬ (qs.length≤n∧∀ i,i<qs.length→Sma (qs.getD i []))→fewb n qs=false from fun h=>by unfold fewb;exact @decide_eq_false _ (Classical.propDecidable _) h)
 generalize fewb n qs=F at YES NO ⊢
 clear h
 go_enter Tryz.func14,Tryz.ntmps14
 by_cases hn5:n<la
 ·have g5:(n:Int)<(la:Int):=by omega
  obtain rfl:=NO.out fun h=>by have:=h.1;rw [Hl.out] at this;omega
  go_wp2
  go_ret
  exact ⟨rfl,rfl⟩
 have g5:¬ (n:Int)<(la:Int):=by omega
 go_wp2
 go_loop [5,6] (fun s5 _=>∃ i:Nat,i≤la∧s5=.int .i64 (i:Int)∧∀ j,j<i→Sma (qs.getD j [])) (fun s5 _=>la-(intOf s5).toNat)
 case atStart=>exact ⟨0,Nat.zero_le _,rfl,fun j hj=>absurd hj (Nat.not_lt_zero _)⟩
 case round =>
  obtain ⟨i,hi,rfl,hsm⟩:=hrel
  have Hsm:=Lib.hid hsm
  clear hsm
  by_cases hlt:i<la
  ·have Hil:=Lib.hid hlt
   obtain ⟨b,o,rfl,hbl,hc⟩:=H.out.at (by omega)
   have Hc:=Lib.hid (hc i hlt)
   have ta:(i:Int)<(la:Int):=by omega
   have ti:IntKind.i64.wrap ((i:Int)+1)=(i:Int)+1:=IntWalk.i64_in _ (by omega)
   clear hc hi
   go_wp2
   go_loop [6] (fun s6=>∃ k:Nat,k≤3∧s6=.int .i64 (k:Int)∧∀ j,j<k→-9≤(qs.getD i []).getD j 0∧(qs.getD i []).getD j 0≤9) (fun s6=>3-(intOf s6).toNat)
   case atStart=>exact ⟨0,Nat.zero_le _,rfl,fun j hj=>absurd hj (Nat.not_lt_zero _)⟩
   case round =>
    obtain ⟨k,hk,rfl,hkk⟩:=hrel
    have Hkk:=Lib.hid hkk
    clear hkk
    by_cases hk3:k<3
    ·have Hk3:=Lib.hid hk3
     have tk:(k:Int)<3:=by omega
     have tw:IntKind.i64.wrap ((k:Int)+1)=(k:Int)+1:=IntWalk.i64_in _ (by omega)
     have e1:=Hc.out k hk3
     obtain ⟨x,hx⟩:∃ x,x=(qs.getD i []).getD k 0:=⟨_,rfl⟩
     rw [← hx] at e1
     have Hx:=Lib.hid hx
     clear hx hk
     by_cases x1:x < -9
     ·obtain rfl:=NO.out fun h=>by
       have:=(h.2 i (by rw [Hl.out];exact Hil.out) k Hk3.out).1
       rw [← Hx.out] at this
       omega
      go_wp2
      go_ret
      exact ⟨rfl,rfl⟩
     ·by_cases x2:9<x
      ·obtain rfl:=NO.out fun h=>by
        have:=(h.2 i (by rw [Hl.out];exact Hil.out) k Hk3.out).2
        rw [← Hx.out] at this
        omega
       go_wp2
       go_ret
       exact ⟨rfl,rfl⟩
      ·go_wp2
       go_round
       case rel=>exact ⟨k+1,by have:=Hk3.out;omega,by go_num,fun j hj=>(by
        by_cases c:j<k
        ·exact Hkk.out j c
        ·obtain rfl:j=k:=by omega
         rw [← Hx.out]
         omega)⟩
       case measure=>have:=Hk3.out;simp [intOf];omega
    ·have tk:¬ (k:Int)<3:=by omega
     have HS:=Lib.hid (show Sma (qs.getD i []) from fun j hj=>Hkk.out j (by omega))
     go_wp2
     go_round
     case rel=>exact ⟨i+1,Hil.out,by go_num,fun j hj=>(by
      by_cases c:j<i
      ·exact Hsm.out j c
      ·obtain rfl:j=i:=by omega
       exact HS.out)⟩
     case measure=>have:=Hil.out;simp [intOf];omega
  ·have ta:¬ (i:Int)<(la:Int):=by omega
   obtain rfl:=YES.out ⟨by rw [Hl.out];omega,fun j hj=>Hsm.out j (by rw [Hl.out] at hj;omega)⟩
   go_wp2
   go_ret
   exact ⟨rfl,rfl⟩
set_option maxRecDepth 100000 in
theorem wid_any (a b c:Int) (w:World) (ha:I8 a) (hb:I8 b) (hc:I8 c) :
  Calls Tryz.prog 80 #[.agg #[.int .i8 a,.int .i8 b,.int .i8 c]] w fun e w'=>∃ A' c',e=.returned (.slice A' 3 c')∧I64At w' A' 3 c' [a,b,c]∧Below w.heap.size w w':=by
 have ia:IntKind.i64.wrap a=a:=IntWalk.i64_in _ (by unfold I8 at ha;omega)
 have ib:IntKind.i64.wrap b=b:=IntWalk.i64_in _ (by unfold I8 at hb;omega)
 have ic:IntKind.i64.wrap c=c:=IntWalk.i64_in _ (by unfold I8 at hc;omega)
 go_enter Tryz.func80,Tryz.ntmps80
 go_wp2
 go_ret
 refine ⟨_,_,rfl,?_,Bel.go⟩
 have h:IRow ((w.alloc (.cells #[.int .i8 a,.int .i8 b,.int .i8 c] 122)).alloc (.cells #[.int .i64 a,.int .i64 b,.int .i64 c] 3)) (w.alloc (.cells #[.int .i8 a,.int .i8 b,.int .i8 c] 122)).heap.size [a,b,c]:=Blk.new _ _ _
 have h2:=h.at_ (cap:=3) (by simp)
 simpa using h2
set_option maxRecDepth 100000 in
set_option maxHeartbeats 1000000 in
theorem iroot_any (n:Int) (w:World) (hn:n≤1000000) :
  Calls Tryz.prog 151 #[.int .i64 n] w fun e w'=>(∃ s:Nat,e=.returned (.tuple #[.int .i64 (s:Int),.bool (decide (0≤n∧(s:Int)*(s:Int)=n))])∧s≤1000∧n≤(s:Int)*(s:Int)∧(∀ t:Nat,t<s→(t:Int)*(t:Int)<n))∧w=w':=by
 go_enter Tryz.func151,Tryz.ntmps151
 go_wp2
 go_loop [4] (fun s4=>∃ s:Nat,s≤1000∧s4=.int .i64 (s:Int)∧∀ t:Nat,t<s→(t:Int)*(t:Int)<n) (fun s4=>1000-(intOf s4).toNat)
 case atStart=>exact ⟨0,Nat.zero_le _,rfl,fun t ht=>absurd ht (Nat.not_lt_zero _)⟩
 case round =>
  obtain ⟨s,hs,rfl,hst⟩:=hrel
  have Hst:=Lib.hid hst
  have Hs:=Lib.hid hs
  clear hst
  obtain ⟨q,hq⟩:∃ q:Int,q=(s:Int)*(s:Int):=⟨_,rfl⟩
  have hq0:0≤q:=by rw [hq];exact Int.mul_nonneg (by omega) (by omega)
  have hq1:q≤1000000:=by
   rw [hq]
   have:s*s≤1000*1000:=Nat.mul_le_mul hs hs
   rw [← Int.natCast_mul]
   omega
  have iq:IntKind.i64.wrap q=q:=IntWalk.i64_in _ (by omega)
  have is:IntKind.i64.wrap ((s:Int)+1)=(s:Int)+1:=IntWalk.i64_in _ (by omega)
  have eq2:(s:Int)*(s:Int)=q:=hq.symm
  have Hq:=Lib.hid hq
  clear hq
  by_cases c:q<n
  ·have hs1:s<1000:=by
    refine Classical.byContradiction fun h=>?_
    have:s=1000:=by omega
    subst this
    have:=Hq.out
    omega
   have Hs1:=Lib.hid hs1
   clear hs1 hs
   go_wp2
   go_round
   case rel=>exact ⟨s+1,Hs1.out,by go_num,fun t ht=>(by
    by_cases c2:t<s
    ·exact Hst.out t c2
    ·obtain rfl:t=s:=by omega
     rw [← Hq.out]
     exact c)⟩
   case measure=>have:=Hs1.out;simp [intOf];omega
  ·have HC:=Lib.hid (show n≤(s:Int)*(s:Int) by rw [← Hq.out];omega)
   by_cases n0:0≤n
   ·by_cases e:q=n
    ·have FIN:=Lib.hid (show decide (0≤n∧(s:Int)*(s:Int)=n)=true from decide_eq_true ⟨n0,by rw [← Hq.out];exact e⟩)
     have be:(q == n)=true:=beq_iff_eq.2 e
     have FIN2:=Lib.hid (show decide ((s:Int)*(s:Int)=n)=true from decide_eq_true (by rw [← Hq.out];exact e))
     clear e
     go_wp2
     refine bodyPost_ret (v:=.tuple #[.int .i64 (s:Int),.bool true]) (by simp [results,Tryz.results151,go_sem]) rfl ⟨⟨s,by first | rw [FIN.out] | rw [FIN2.out] | (simp;done) | (simp;intro h;omega),Hs.out,HC.out,Hst.out⟩,rfl⟩
    ·have FIN:=Lib.hid (show decide (0≤n∧(s:Int)*(s:Int)=n)=false from decide_eq_false fun h=>e (by rw [Hq.out];exact h.2))
     have be:(q == n)=false:=beq_eq_false_iff_ne.2 e
     have FIN2:=Lib.hid (show decide ((s:Int)*(s:Int)=n)=false from decide_eq_false fun h=>e (by rw [Hq.out];exact h))
     clear e
     go_wp2
     refine bodyPost_ret (v:=.tuple #[.int .i64 (s:Int),.bool false]) (by simp [results,Tryz.results151,go_sem]) rfl ⟨⟨s,by first | rw [FIN.out] | rw [FIN2.out] | (simp;done) | (simp;intro h;omega),Hs.out,HC.out,Hst.out⟩,rfl⟩
   ·have FIN:=Lib.hid (show decide (0≤n∧(s:Int)*(s:Int)=n)=false from decide_eq_false fun h=>n0 h.1)
    go_wp2
    refine bodyPost_ret (v:=.tuple #[.int .i64 (s:Int),.bool false]) (by simp [results,Tryz.results151,go_sem]) rfl ⟨⟨s,by first | rw [FIN.out] | rw [FIN2.out] | (simp;done) | (simp;intro h;omega),Hs.out,HC.out,Hst.out⟩,rfl⟩
set_option maxRecDepth 100000 in
set_option maxHeartbeats 1000000 in
theorem same_any (A:Option Addr) (la ca:Nat) (f:List Int) (B:Option Addr) (lb cb:Nat) (g:List Int) (w:World) (hf:I64At w A la ca f) (hg:I64At w B lb cb g) (hma:la≤1000) (hmb:lb≤1000) (tf:ptrim f=f) (tg:ptrim g=g) :
  Calls Tryz.prog 152 #[.slice A la ca,.slice B lb cb] w fun e w'=>e=.returned (.bool (decide (f=g)))∧Below w.heap.size w w':=by
 have pf:plen f=la:=by rw [← hf.length,← plen_of_trim tf]
 have pg:plen g=lb:=by rw [← hg.length,← plen_of_trim tg]
 have Lf:=Lib.hid hf.length
 have Lg:=Lib.hid hg.length
 have PF:=Lib.hid pf
 have PG:=Lib.hid pg
 have Hf:=Lib.hid hf
 have Hg:=Lib.hid hg
 have YES:=Lib.hid (show f=g→decide (f=g)=true from fun h=>decide_eq_true h)
 have NO:=Lib.hid (show ¬ f=g→decide (f=g)=false from fun h=>decide_eq_false h)
 generalize decide (f=g)=F at YES NO ⊢
 clear pg tf tg hg
 go_enter Tryz.func152,Tryz.ntmps152
 go_wp2_with fail
 refine (rtrim_any _ _ _ _ _ hf (by omega)).mono ?_
 rintro e w1 ⟨rfl,rfl⟩
 rw [PF.out]
 clear pf
 go_wp2_with fail
 refine (rtrim_any _ _ _ _ _ Hg.out (by omega)).mono ?_
 rintro e w1 ⟨rfl,rfl⟩
 rw [PG.out]
 clear PF PG
 by_cases hl:la=lb
 ·subst hl
  have b0:((la:Int) != (la:Int))=false:=by simp
  go_wp2
  go_loopw [5] (fun s5 wr=>∃ i:Nat,i≤la∧s5=.int .i64 (i:Int)∧(∀ j,j<i→f.getD j 0=g.getD j 0)∧Below w.heap.size w wr) (fun s5 _=>la-(intOf s5).toNat)
  case atStart=>exact ⟨0,Nat.zero_le _,rfl,fun j hj=>absurd hj (Nat.not_lt_zero _),Bel.go⟩
  case round =>
   obtain ⟨i,hi,rfl,hst,hbw⟩:=hrel
   have Hst:=Lib.hid hst
   replace Hf:=Lib.hid (Hf.out.below hbw)
   replace Hg:=Lib.hid (Hg.out.below hbw)
   have Hbw:=Lib.hid hbw
   clear hst hbw
   by_cases hlt:i<la
   ·have Hil:=Lib.hid hlt
    obtain ⟨b,o,rfl,hb,hc⟩:=Hf.out.at_ (by omega)
    obtain ⟨b',o',rfl,hb',hc'⟩:=Hg.out.at_ (by omega)
    have e1:=hc i hlt
    have e2:=hc' i hlt
    have ti:IntKind.i64.wrap ((i:Int)+1)=(i:Int)+1:=IntWalk.i64_in _ (by omega)
    have ta:(i:Int)<(la:Int):=by omega
    obtain ⟨x,hx⟩:∃ x,x=f.getD i 0:=⟨_,rfl⟩
    obtain ⟨y,hy⟩:∃ y,y=g.getD i 0:=⟨_,rfl⟩
    rw [← hx] at e1
    rw [← hy] at e2
    have Hx:=Lib.hid hx
    have Hy:=Lib.hid hy
    clear hx hy hc hc' hi
    by_cases c:x=y
    ·have bn:(x != y)=false:=by rw [c];simp
     have FIN:=Lib.hid c
     clear c
     go_wp2_with fail
     go_quiet (fail)
     go_wp2
     go_roundw
     case rel=>exact ⟨i+1,Hil.out,by go_num,fun j hj=>(by
      by_cases c2:j<i
      ·exact Hst.out j c2
      ·obtain rfl:j=i:=by omega
       rw [← Hx.out,← Hy.out]
       exact FIN.out),(below_drewn Hbw.out _)⟩
     case measure=>have:=Hil.out;simp [intOf];omega
    ·have bn:(x != y)=true:=by rw [bne_iff_ne];exact c
     obtain rfl:=NO.out fun h=>c (by rw [Hx.out,Hy.out,h])
     clear c
     go_wp2_with fail
     go_quiet (fail)
     go_wp2
     go_ret
     exact ⟨rfl,(below_drewn Hbw.out _)⟩
   ·have ta:¬ (i:Int)<(la:Int):=by omega
    obtain rfl:=YES.out (by
     refine List.ext_getElem (by rw [Lf.out,Lg.out]) fun j h1 h2=>?_
     have:=Hst.out j (by rw [Lf.out] at h1;omega)
     rw [List.getD_eq_getElem?_getD,List.getElem?_eq_getElem h1,List.getD_eq_getElem?_getD,List.getElem?_eq_getElem h2] at this
     exact this)
    go_wp2
    go_ret
    exact ⟨rfl,Hbw.out⟩
 ·have b0:((la:Int) != (lb:Int))=true:=by rw [bne_iff_ne];omega
  obtain rfl:=NO.out fun h=>hl (by rw [← Lf.out,← Lg.out,h])
  go_wp2
  go_ret
  exact ⟨rfl,Bel.go⟩
end Go.Proofs.YtjmglmgokfcgoaaGreat
