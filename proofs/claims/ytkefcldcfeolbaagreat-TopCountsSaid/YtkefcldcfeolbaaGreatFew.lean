/- The walks of cylinderlaw08.Few and of few of chapter 9: they only read. -/
import Derived.Test.YtkefcldcfeolbaaGreatPolB
namespace Go.Proofs.YtkefcldcfeolbaaGreat
open Go.RowKit
def ajE:aas:=fun w neg A l c z=>(∃ ds,aaJ w A l c ds/\val ds=z.natAbs)/\z=sgn neg z.natAbs
theorem ajE.below {w w':World} {neg:Bool} {A:Option Addr} {l c:Nat} {z:Int} (h:ajE w neg A l c z) (hb:Below w.heap.size w w'):ajE w' neg A l c z:=by
 obtain ⟨⟨ds,hd,hv⟩,hs⟩:=h
 exact ⟨⟨ds,hd.below hb,hv⟩,hs⟩
theorem auH.below {w w':World} {A:Option Addr} {len cap:Nat} {p:List Int} (h:aar ajE w A len cap p) (hb:Below w.heap.size w w'):aar ajE w' A len cap p:=by
 refine ⟨h.length,h.cap,?_⟩
 rcases h.elems with h0 | ⟨b,off,hA,hlt,hc⟩
 ·exact .inl h0
 ·refine .inr ⟨b,off,hA,Nat.lt_of_lt_of_le hlt hb.size,fun j hj=>?_⟩
  obtain ⟨neg,Aj,lj,cj,h1,h2,h3⟩:=hc j hj
  exact ⟨neg,Aj,lj,cj,(hb.cell (p:=⟨b,off+j*2,none⟩) hlt).trans h1,(hb.cell (p:=⟨b,off+j*2+1,none⟩) hlt).trans h2,h3.below hb⟩
theorem ajE.at_ {w:World} {neg:Bool} {A:Option Addr} {l c:Nat} {z:Int} (h:ajE w neg A l c z) (hl:l<=8):abj w neg A l c z:=by
 obtain ⟨⟨ds,hd,hv⟩,hs⟩:=h
 exact ⟨⟨by omega,ds,hd,hv⟩,hs⟩
theorem ajE.lt {w:World} {neg:Bool} {A:Option Addr} {l c:Nat} {z:Int} (h:ajE w neg A l c z):z.natAbs<BB^l:=by
 obtain ⟨⟨ds,hd,hv⟩,hs⟩:=h
 rw[<- hv,<- hd.length]
 exact ada hd.wd
def asy (w:World) (A:Option Addr) (dg k:Nat):Prop:=∀ j,j<k->∀ b off,A=some ⟨b,off,none⟩->∀ Aj lj cj,w.cell? ⟨b,off+j*2+1,none⟩=some (.slice Aj lj cj)->lj<=dg
theorem asy.ok {w:World} {A:Option Addr} {len cap dg:Nat} {p:List Int} (h:aar ajE w A len cap p) (hf:asy w A dg len) (hd:dg<=8):acH w A len cap p/\∀ k,(p.getD k 0).natAbs<BB^dg:=by
 refine ⟨⟨h.length,h.cap,?_⟩,fun k=>?_⟩
 ·rcases h.elems with h0 | ⟨b,off,hA,hlt,hc⟩
  ·exact .inl h0
  ·refine .inr ⟨b,off,hA,hlt,fun j hj=>?_⟩
   obtain ⟨neg,Aj,lj,cj,h1,h2,h3⟩:=hc j hj
   have:=hf j hj b off hA _ _ _ h2
   exact ⟨neg,Aj,lj,cj,h1,h2,h3.at_ (by omega)⟩
 ·rcases Nat.lt_or_ge k len with h1 | h1
  ·obtain ⟨b,off,hA,hlt,hc⟩:=h.get (by omega)
   obtain ⟨neg,Aj,lj,cj,h1,h2,h3⟩:=hc k h1
   have:=hf k (by assumption) b off hA _ _ _ h2
   exact Nat.lt_of_lt_of_le h3.lt (Nat.pow_le_pow_right aaI this)
  ·rw[List.getD_eq_getElem?_getD,List.getElem?_eq_none (by rw[h.length];exact h1)]
   exact Nat.pow_pos aaI
structure ayN (w:World) (n dg:Nat) (A:Option Addr) (len cap:Nat) (p:List Int):Prop where
 le:len<=n
 at_:acH w A len cap p
 lt:∀ k,(p.getD k 0).natAbs<BB^dg
def ayO (e:Ending) (Q:Prop):Prop:=∃ b:Bool,e=.returned (.bool b)/\(b=true->Q)
set_option maxHeartbeats 1000000 in
theorem alO (n dg:Nat) (A:Option Addr) (len cap:Nat) (p:List Int) (w:World) (h:aar ajE w A len cap p) (hn:n<=1000000) (hdg:dg<=8) :
  Calls Tryz.prog 5 #[.int .i64 (n:Int),.int .i64 (dg:Int),.slice A len cap] w fun e w'=>ayO e (ayN w n dg A len cap p)/\w'=w:=by
 by_cases hln:len<=n
 ·have hl1:¬ ((n:Int)<(len:Int)):=by omega
  go_enter Tryz.func5,Tryz.ntmps5
  go_wp2
  go_loopw [7] (fun i wr=>∃ k:Nat,k<=len/\i=.int .i64 k/\asy w A dg k/\wr=w) (fun i _=>len-(intOf i).toNat)
  case atStart=>exact ⟨0,Nat.zero_le _,rfl,fun j hj=>by omega,rfl⟩
  case round =>
   obtain ⟨k,hk,rfl,hall,hww⟩:=hrel
   subst hww
   by_cases hlt:k<len
   ·obtain ⟨b,off,rfl,hb,hc⟩:=h.get (by omega)
    obtain ⟨neg,Aj,lj,cj,c0,c1,hzk⟩:=hc k hlt
    have azV:(k:Int)<(len:Int):=by omega
    have hal:=Lh hall
    clear hc h c0 hzk hall
    by_cases hd:lj<=dg
    ·have hd1:¬ ((dg:Int)<(lj:Int)):=by omega
     go_wp2
     go_roundw
     case rel =>
      refine ⟨k+1,by omega,by go_num,fun j hj b' off' hA A' l' c' hc'=>?_,trivial⟩
      rcases Nat.lt_or_ge j k with h1 | h1
      ·exact hal.out j h1 b' off' hA A' l' c' hc'
      ·have e1:j=k:=by omega
       subst e1
       simp only[Option.some.injEq,Addr.mk.injEq,and_true] at hA
       obtain ⟨rfl,rfl⟩:=hA
       rw[c1] at hc'
       simp only[Option.some.injEq,Value.slice.injEq] at hc'
       omega
     case measure=>simp[intOf];omega
    ·have hd1:(dg:Int)<(lj:Int):=by omega
     go_wp2
     go_ret
     exact ⟨⟨_,rfl,fun hh=>by cases hh⟩,rfl⟩
   ·have hk2:len=k:=by omega
    subst hk2
    have hkl:¬ ((len:Int)<(len:Int)):=by omega
    have hal:=Lh (hall.ok h hdg)
    clear hall h
    go_wp2
    go_ret
    exact ⟨⟨_,rfl,fun _=>⟨hln,hal.out.1,hal.out.2⟩⟩,rfl⟩
 ·have hl1:(n:Int)<(len:Int):=by omega
  clear h
  go_enter Tryz.func5,Tryz.ntmps5
  go_wp2
  go_ret
  exact ⟨⟨_,rfl,fun hh=>by cases hh⟩,rfl⟩
end Go.Proofs.YtkefcldcfeolbaaGreat
