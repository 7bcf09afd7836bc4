/- The walks of division.Quo and division.Exact for every divisor other than 0. -/
import Derived.Test.YtpeiiomjnjemjaaGreatNatS
import Derived.Test.YtpeiiomjnjemjaaGreatDivC
import Derived.WalkMore
import Derived.Test.YtpeiiomjnjemjaaGreatIntE
import Derived.Test.YtpeiiomjnjemjaaGreatBits
import Derived.Test.YtpeiiomjnjemjaaGreatSft
import Derived.Deep.RegionHeld3
namespace Go.Proofs.YtpeiiomjnjemjaaGreat
noncomputable def est (U V:Nat):Nat:=min (BB-1) (U / V)
theorem est_lt (U V:Nat):est U V<BB:=by have:=BB_pos;unfold est;omega
theorem est_eq {U V d:Nat} (hV:0<V) (hd:d<BB) (h1:d*V<=U) (h2:U<(d+1)*V∨d=BB-1):d=est U V:=by
 have h3:d<=U / V:=(Nat.le_div_iff_mul_le hV).2 h1
 unfold est
 rcases h2 with h2 | h2
 ·have h4:U / V<d+1:=(Nat.div_lt_iff_lt_mul hV).2 h2
  omega
 ·omega
structure EstInv (U2 u0 v1 v2 d r o:Nat):Prop where
 dl:d<BB
 rl:r<BB
 ol:o<=1
 sum:d*v1+(r+BB*o)=U2
 top:U2*BB+u0<(d+1)*(v1*BB+v2)∨d=BB-1
theorem EstInv.done {U2 u0 v1 v2 d r o:Nat} (h:EstInv U2 u0 v1 v2 d r o) (hv:0<v1) (hv2:v2<BB) (he:o=0->d*v2<=r*BB+u0):d=est (U2*BB+u0) (v1*BB+v2):=by
 have hb:=BB_pos
 refine est_eq (by have:=Nat.mul_pos hv hb;omega) h.dl ?_ h.top
 have e:d*(v1*BB+v2)=d*v1*BB+d*v2:=by rw[Nat.mul_add,Nat.mul_assoc]
 have e2:U2*BB=d*v1*BB+(r*BB+BB*o*BB):=by rw[<- h.sum,Nat.add_mul,Nat.add_mul]
 rw[e,e2]
 have ho:=h.ol
 rcases Nat.eq_zero_or_pos o with h0 | h0
 ·have:=he h0
  omega
 ·have h1:o=1:=by omega
  subst h1
  have h2:d*v2<=BB*BB:=Nat.mul_le_mul (Nat.le_of_lt h.dl) (Nat.le_of_lt hv2)
  rw[Nat.mul_one]
  omega
theorem EstInv.step {U2 u0 v1 v2 d r:Nat} (h:EstInv U2 u0 v1 v2 d r 0) (hn:r*BB+u0<d*v2) (r' o':Nat) (hr:r'<BB) (ho:o'<=1) (hs:r'+BB*o'=r+v1):0<d/\EstInv U2 u0 v1 v2 (d-1) r' o':=by
 have hd0:0<d:=by
  rcases Nat.eq_zero_or_pos d with h0 | h0
  ·rw[h0,Nat.zero_mul] at hn;omega
  ·exact h0
 obtain ⟨k,rfl⟩:∃ k,d=k+1:=⟨d-1,by omega⟩
 have h1:=h.sum
 have h2:=h.dl
 rw[Nat.add_mul,Nat.one_mul] at h1
 refine ⟨hd0,⟨by omega,hr,ho,?_,.inl ?_⟩⟩
 ·rw[Nat.add_sub_cancel];omega
 ·rw[Nat.add_sub_cancel]
  have e:(k+1)*(v1*BB+v2)=(k+1)*v1*BB+(k+1)*v2:=by rw[Nat.mul_add,Nat.mul_assoc]
  have e2:U2*BB=(k+1)*v1*BB+r*BB:=by
   rw[<- h.sum,Nat.mul_zero,Nat.add_zero r,Nat.add_mul]
  rw[e,e2]
  omega
theorem est_top {u1 u0 v1 v2:Nat} (hu1:u1<BB) (hv1:v1<BB):EstInv (v1*BB+u1) u0 v1 v2 (BB-1) (sLo u1 v1 0) (sHi u1 v1 0):=by
 have hb:=BB_pos
 have hs:=s_eq u1 v1 0
 refine ⟨by omega,sLo_lt _ _ _,sHi_le hu1 hv1 (Nat.zero_le _),?_,.inr rfl⟩
 obtain ⟨k,hk⟩:∃ k,BB=k+1:=⟨BB-1,by omega⟩
 have e:(BB-1)*v1+v1=v1*BB:=by rw[hk,Nat.add_sub_cancel,Nat.mul_add,Nat.mul_comm k,Nat.mul_one]
 omega
theorem est_digit {k U2 u0 L v1 v2 M P V:Nat} (hL:L<BB^k) (hM:M<BB^k) (hP:P=(U2*BB+u0)*BB^k+L) (hV:V=(v1*BB+v2)*BB^k+M) (hv:0<v1) (hlt:P<V*BB) :
  P / V<=est (U2*BB+u0) (v1*BB+v2)/\est (U2*BB+u0) (v1*BB+v2)<=P / V+1:=by
 have hb:=BB_pos
 have hk:0<BB^k:=Nat.pow_pos hb
 generalize U2*BB+u0=U at *
 have hV2:BB<=v1*BB+v2:=by
  have:1*BB<=v1*BB:=Nat.mul_le_mul_right _ hv
  omega
 generalize v1*BB+v2=W at *
 have hVp:0<V:=by
  have:0<W*BB^k:=Nat.mul_pos (by omega) hk
  omega
 constructor
 ·unfold est
  have h1:P / V<BB:=(Nat.div_lt_iff_lt_mul hVp).2 (by rw[Nat.mul_comm];exact hlt)
  have h2:P / V<=U / W:=by
   rw[Nat.le_div_iff_mul_le (by omega)]
   have h3:P / V*V<=P:=Nat.div_mul_le_self _ _
   have h4:P / V*(W*BB^k)<=P / V*V:=Nat.mul_le_mul_left _ (by omega)
   have h5:P / V*W*BB^k<(U+1)*BB^k:=by
    rw[Nat.mul_assoc,Nat.add_mul,Nat.one_mul]
    omega
   have:=Nat.lt_of_mul_lt_mul_right h5
   omega
  omega
 ·rcases Nat.eq_zero_or_pos (est U W) with h0 | h0
  ·rw[h0];exact Nat.zero_le _
  have h1:est U W*W<=U:=Nat.le_trans (Nat.mul_le_mul_right _ (show est U W<=U / W by unfold est;omega)) (Nat.div_mul_le_self _ _)
  have h2:est U W<=BB:=Nat.le_of_lt (est_lt U W)
  generalize est U W=E at *
  obtain ⟨e,rfl⟩:∃ e,E=e+1:=⟨E-1,by omega⟩
  have h3:e*V<=P:=by
   have h4:(e+1)*V=(e+1)*W*BB^k+(e+1)*M:=by rw[hV,Nat.mul_add,Nat.mul_assoc]
   have h5:(e+1)*W*BB^k<=U*BB^k:=Nat.mul_le_mul_right _ h1
   have h6:(e+1)*M<=W*BB^k:=Nat.mul_le_mul (by omega) (by omega)
   rw[Nat.add_mul,Nat.one_mul] at h4
   omega
  have h7:e<=P / V:=(Nat.le_div_iff_mul_le hVp).2 h3
  omega
theorem val_drop_succ (zs:List Nat) {j:Nat} (h:j<zs.length):val (zs.drop j)=zs.getD j 0+BB*val (zs.drop (j+1)):=by
 rw[drop_getD_cons zs h];rfl
theorem val_three {zs:List Nat} (hw:Wd zs) {j k:Nat} (hl:j+k+3<=zs.length) (h:val (zs.drop j)<BB^(k+3)) :
  ∃ L,L<BB^k/\val (zs.drop j)=((zs.getD (j+k+2) 0*BB+zs.getD (j+k+1) 0)*BB+zs.getD (j+k) 0)*BB^k+L:=by
 have hs:=val_split (zs.drop j) (k:=k) (by simp;omega)
 rw[List.drop_drop] at hs
 have h1:=val_drop_succ zs (j:=j+k) (by omega)
 have h2:=val_drop_succ zs (j:=j+k+1) (by omega)
 have h3:=val_drop_succ zs (j:=j+k+1+1) (by omega)
 have hL:val ((zs.drop j).take k)<BB^k:=by
  have:=val_lt ((hw.drop j).take k)
  rwa [List.length_take,List.length_drop,Nat.min_eq_left (by omega)] at this
 have hz:val (zs.drop (j+k+1+1+1))=0:=by
  rcases Nat.eq_zero_or_pos (val (zs.drop (j+k+1+1+1))) with h0 | h0
  ·exact h0
  ·exfalso
   have e:BB^(k+3)=BB^k*(BB*(BB*BB)):=by rw[Nat.pow_add,Nat.pow_succ,Nat.pow_succ,Nat.pow_one,Nat.mul_assoc BB]
   have h4:BB*1<=BB*val (zs.drop (j+k+1+1+1)):=Nat.mul_le_mul_left _ h0
   have h5:BB*BB<=BB*val (zs.drop (j+k+1+1)):=Nat.mul_le_mul_left _ (by omega)
   have h6:BB*(BB*BB)<=BB*val (zs.drop (j+k+1)):=Nat.mul_le_mul_left _ (by omega)
   have h7:BB^k*(BB*(BB*BB))<=BB^k*val (zs.drop (j+k)):=Nat.mul_le_mul_left _ (by omega)
   omega
 refine ⟨_,hL,?_⟩
 rw[hz,Nat.mul_zero,Nat.add_zero] at h3
 rw[hs,h1,h2,h3,Nat.add_comm,Nat.mul_comm (BB^k)]
 congr 2
 generalize zs.getD (j+k+1+1) 0=z
 generalize zs.getD (j+k+1) 0=y
 generalize zs.getD (j+k) 0=x
 generalize BB=b
 grind
theorem val_two {ds:List Nat} (hw:Wd ds) {k:Nat} (hl:ds.length=k+2) :
  ∃ M,M<BB^k/\val ds=(ds.getD (k+1) 0*BB+ds.getD k 0)*BB^k+M:=by
 have hs:=val_split ds (k:=k) (by omega)
 have h1:=val_drop_succ ds (j:=k) (by omega)
 have h2:=val_drop_succ ds (j:=k+1) (by omega)
 have hM:val (ds.take k)<BB^k:=by
  have:=val_lt (hw.take k)
  rwa [List.length_take,Nat.min_eq_left (by omega)] at this
 refine ⟨_,hM,?_⟩
 rw[List.drop_eq_nil_of_le (show ds.length<=k+1+1 by omega)] at h2
 simp only[val,Nat.mul_zero,Nat.add_zero] at h2
 rw[hs,h1,h2,Nat.mul_comm (BB^k),Nat.add_comm]
 congr 2
 rw[Nat.mul_comm BB,Nat.add_comm]
theorem take_set_le (ds:List Nat) {j k:Nat} (h:j<=k) (x:Nat):(ds.set k x).take j=ds.take j:=by
 rw[List.take_set,List.set_eq_of_length_le (by simp;omega)]
theorem val_drop_eq {zs ys:List Nat} {j a b:Nat} (hl:ys.length=zs.length) (hj:j<=zs.length) (ht:ys.take j=zs.take j) (h:val ys+BB^j*a=val zs+BB^j*b):val (ys.drop j)+a=val (zs.drop j)+b:=by
 have h1:=val_split zs hj
 have h2:=val_split ys (k:=j) (by omega)
 rw[ht] at h2
 have hk:0<BB^j:=Nat.pow_pos BB_pos
 refine Nat.eq_of_mul_eq_mul_left hk ?_
 rw[Nat.mul_add,Nat.mul_add]
 omega
theorem val_drop_lt {zs ys:List Nat} (hw:Wd ys) {j n:Nat} (hl:ys.length=zs.length) (hj:j+n<=zs.length) (hd:ys.drop (j+n)=zs.drop (j+n)) (h:val (zs.drop j)<BB^n):val (ys.drop j)<BB^n:=by
 have h1:=val_split (zs.drop j) (k:=n) (by simp;omega)
 have h2:=val_split (ys.drop j) (k:=n) (by simp;omega)
 rw[List.drop_drop] at h1 h2
 have hz:val (zs.drop (j+n))=0:=by
  rcases Nat.eq_zero_or_pos (val (zs.drop (j+n))) with h0 | h0
  ·exact h0
  ·have:BB^n*1<=BB^n*val (zs.drop (j+n)):=Nat.mul_le_mul_left _ h0
   omega
 rw[hd,hz,Nat.mul_zero,Nat.add_zero] at h2
 rw[h2]
 have:=val_lt ((hw.drop j).take n)
 rwa [List.length_take,List.length_drop,Nat.min_eq_left (by omega)] at this
theorem digit_done {P V E P' β F:Nat} (hV:0<V) (hE:P / V<=E/\E<=P / V+1) (hs:P'+E*V=P+F*β) (hP':P'<F) :
  (β=0->E=P / V/\P'=P % V)/\(β=1->E=P / V+1/\P'+V=F+P % V):=by
 have hm:=Nat.div_add_mod P V
 have hl:=Nat.mod_lt P hV
 rw[Nat.mul_comm] at hm
 constructor
 ·intro h0
  subst h0
  rw[Nat.mul_zero,Nat.add_zero] at hs
  have h1:E<=P / V:=by rw[Nat.le_div_iff_mul_le hV];omega
  have h2:E=P / V:=by omega
  subst h2
  omega
 ·intro h1
  subst h1
  rw[Nat.mul_one] at hs
  have h2:¬ E<=P / V:=by
   intro h3
   have:E*V<=P / V*V:=Nat.mul_le_mul_right _ h3
   omega
  have h3:E=P / V+1:=by omega
  subst h3
  rw[Nat.add_mul,Nat.one_mul] at hs
  omega
theorem digit_next {U0 Q V j q T P R:Nat} (h:U0=Q*(BB^(j+1)*V)+(T+BB^j*P)) (hP:P=q*V+R):U0=(q+BB*Q)*(BB^j*V)+(T+BB^j*R):=by
 subst hP
 rw[h,Nat.add_mul,Nat.mul_add,Nat.pow_succ]
 have e1:Q*(BB^j*BB*V)=BB*Q*(BB^j*V):=by
  rw[Nat.mul_comm (BB^j) BB,Nat.mul_assoc BB,<- Nat.mul_assoc Q,Nat.mul_comm Q BB]
 have e2:q*(BB^j*V)=BB^j*(q*V):=by rw[<- Nat.mul_assoc,Nat.mul_comm q,Nat.mul_assoc]
 rw[e1,e2]
 omega
end Go.Proofs.YtpeiiomjnjemjaaGreat
namespace Go.Proofs.YtpeiiomjnjemjaaGreat
open Go.RowKit
theorem est_start {u2 u1 u0 v1 v2:Nat} (hu1:u1<BB) (hv1:v1<BB) (hu0:u0<BB) (hlt:u2<v1):EstInv (u2*BB+u1) u0 v1 v2 (qD u2 u1 v1) (rD u2 u1 v1) 0:=by
 have h1:=qr_eq u2 u1 v1
 have h2:=rD_lt u2 u1 v1 (by omega)
 refine ⟨qD_lt hlt hu1,by omega,Nat.zero_le _,by rw[Nat.mul_zero,Nat.add_zero];exact h1,.inl ?_⟩
 have h3:u2*BB+u1+1<=(qD u2 u1 v1+1)*v1:=by rw[Nat.add_mul,Nat.one_mul];omega
 have h4:=Nat.mul_le_mul_right BB h3
 have e:(qD u2 u1 v1+1)*(v1*BB+v2)=(qD u2 u1 v1+1)*v1*BB+(qD u2 u1 v1+1)*v2:=by rw[Nat.mul_add,Nat.mul_assoc]
 rw[Nat.add_mul,Nat.one_mul] at h4
 rw[e]
 omega
set_option maxRecDepth 100000 in
set_option maxHeartbeats 2000000 in
theorem estimate_any (u2 u1 u0 v1 v2:Nat) (w:World) (hu2:u2<4294967296) (hu1:u1<4294967296) (hu0:u0<4294967296) (hv1:v1<4294967296) (hv2:v2<4294967296) (hle:u2<=v1) (hv:0<v1) :
  Calls Tryz.prog 103 #[.int .u32 (u2:Int),.int .u32 (u1:Int),.int .u32 (u0:Int),.int .u32 (v1:Int),.int .u32 (v2:Int)] w fun e w'=>e=.returned (.int .u32 (est ((u2*BB+u1)*BB+u0) (v1*BB+v2):Nat))/\∃ n,w'=w.drewN n:=by
 by_cases hlt:u2<v1
 ·have H0:Hid (EstInv (u2*BB+u1) u0 v1 v2 (qD u2 u1 v1) (rD u2 u1 v1) 0):=est_start (by rw[BB_eq];exact hu1) (by rw[BB_eq];exact hv1) (by rw[BB_eq];exact hu0) hlt
  go_enter Tryz.func103,Tryz.ntmps103
  go_wp2_with (go_at_call 107;refine (div32_any u2 u1 v1 _ hlt hu1 hv1).mono ?_;rintro e w2 ⟨rfl,n0,rfl⟩)
  go_loopw [11,12,13] (fun d r o wr=>∃ d' r' o':Nat,d=.int .u32 (d':Int)/\r=.int .u32 (r':Int)/\o=.int .u32 (o':Int)/\EstInv (u2*BB+u1) u0 v1 v2 d' r' o'/\∃ n,wr=w.drewN n) (fun d _ _ _=>(intOf d).toNat)
  case atStart=>exact ⟨_,_,_,rfl,rfl,rfl,H0.out,_,rfl⟩
  case round =>
   clear H0
   obtain ⟨d,r,o,rfl,rfl,rfl,hI,n,rfl⟩:=hrel
   have HI:=Lh hI
   have hd:=hI.dl
   have hr:=hI.rl
   have ho:=hI.ol
   rw[BB_eq] at hd hr
   clear hI
   rcases Nat.eq_zero_or_pos o with h0 | h0
   ·subst h0
    go_wp2_with fail
    refine (mul32_any d v2 _ hd hv2).mono ?_
    rintro e w2 ⟨rfl,rfl⟩
    have hm:=Lh (m_eq d v2)
    have hh:mHi d v2<4294967296:=by have:=hm.out;have:=mul_small hd hv2;rw[BB_eq] at *;omega
    have hl:=mLo_lt d v2
    rw[BB_eq] at hl
    generalize mHi d v2=H at *
    generalize mLo d v2=L at *
    have hD:Hid (d*v2<=r*BB+u0->d=est ((u2*BB+u1)*BB+u0) (v1*BB+v2)):=fun hc=>HI.out.done hv (by rw[BB_eq];exact hv2) (fun _=>hc)
    have hE:Hid (r*BB+u0<d*v2->0<d/\EstInv (u2*BB+u1) u0 v1 v2 (d-1) (sLo r v1 0) (sHi r v1 0)):=fun hc =>
     HI.out.step hc (sLo r v1 0) (sHi r v1 0) (sLo_lt _ _ _) (sHi_le (by rw[BB_eq];exact hr) (by rw[BB_eq];exact hv1) (Nat.zero_le _)) (s_eq r v1 0)
    go_wp2_with (go_at_call 62;refine (add32_any r v1 0 _ hr hv1 (by omega)).mono ?_;rintro e w2 ⟨rfl,rfl⟩)
    all_goals first
     | (go_ret;exact ⟨by rw[<- hD.out (by have:=hm.out;rw[BB_eq] at *;omega)];rfl,_,rfl⟩)
     | (obtain ⟨hd0,HE⟩:=hE.out (by have:=hm.out;rw[BB_eq] at *;omega)
        have hw:=show ((d:Int)-1) % 4294967296=((d-1:Nat):Int) by omega
        go_roundw
        case rel=>exact ⟨d-1,_,_,by rw[hw],rfl,rfl,HE,_,rfl⟩
        case measure=>simp[intOf,hw];omega)
   ·have h1:o=1:=by omega
    subst h1
    have hD:=Lh (HI.out.done hv (by rw[BB_eq];exact hv2) (fun h=>by omega))
    go_wp2
    go_ret
    exact ⟨by rw[<- hD.out];rfl,_,rfl⟩
 ·have he:u2=v1:=by omega
  subst he
  have H0:Hid (EstInv (u2*BB+u1) u0 u2 v2 (BB-1) (sLo u1 u2 0) (sHi u1 u2 0)):=est_top (by rw[BB_eq];exact hu1) (by rw[BB_eq];exact hv1)
  go_enter Tryz.func103,Tryz.ntmps103
  go_wp2_with (go_at_call 62;refine (add32_any u1 u2 0 _ hu1 hu2 (by omega)).mono ?_;rintro e w2 ⟨rfl,rfl⟩)
  go_loopw [11,12,13] (fun d r o wr=>∃ d' r' o':Nat,d=.int .u32 (d':Int)/\r=.int .u32 (r':Int)/\o=.int .u32 (o':Int)/\EstInv (u2*BB+u1) u0 u2 v2 d' r' o'/\∃ n,wr=w.drewN n) (fun d _ _ _=>(intOf d).toNat)
  case atStart=>exact ⟨BB-1,_,_,by rw[BB_eq];rfl,rfl,rfl,H0.out,0,rfl⟩
  case round =>
   clear H0
   obtain ⟨d,r,o,rfl,rfl,rfl,hI,n,rfl⟩:=hrel
   have HI:=Lh hI
   have hd:=hI.dl
   have hr:=hI.rl
   have ho:=hI.ol
   rw[BB_eq] at hd hr
   clear hI
   rcases Nat.eq_zero_or_pos o with h0 | h0
   ·subst h0
    go_wp2_with fail
    refine (mul32_any d v2 _ hd hv2).mono ?_
    rintro e w2 ⟨rfl,rfl⟩
    have hm:=Lh (m_eq d v2)
    have hh:mHi d v2<4294967296:=by have:=hm.out;have:=mul_small hd hv2;rw[BB_eq] at *;omega
    have hl:=mLo_lt d v2
    rw[BB_eq] at hl
    generalize mHi d v2=H at *
    generalize mLo d v2=L at *
    have hD:Hid (d*v2<=r*BB+u0->d=est ((u2*BB+u1)*BB+u0) (u2*BB+v2)):=fun hc=>HI.out.done hv (by rw[BB_eq];exact hv2) (fun _=>hc)
    have hE:Hid (r*BB+u0<d*v2->0<d/\EstInv (u2*BB+u1) u0 u2 v2 (d-1) (sLo r u2 0) (sHi r u2 0)):=fun hc =>
     HI.out.step hc (sLo r u2 0) (sHi r u2 0) (sLo_lt _ _ _) (sHi_le (by rw[BB_eq];exact hr) (by rw[BB_eq];exact hu2) (Nat.zero_le _)) (s_eq r u2 0)
    go_wp2_with (go_at_call 62;refine (add32_any r u2 0 _ hr hu2 (by omega)).mono ?_;rintro e w2 ⟨rfl,rfl⟩)
    all_goals first
     | (go_ret;exact ⟨by rw[<- hD.out (by have:=hm.out;rw[BB_eq] at *;omega)];rfl,_,rfl⟩)
     | (obtain ⟨hd0,HE⟩:=hE.out (by have:=hm.out;rw[BB_eq] at *;omega)
        have hw:=show ((d:Int)-1) % 4294967296=((d-1:Nat):Int) by omega
        go_roundw
        case rel=>exact ⟨d-1,_,_,by rw[hw],rfl,rfl,HE,_,rfl⟩
        case measure=>simp[intOf,hw];omega)
   ·have h1:o=1:=by omega
    subst h1
    have hD:=Lh (HI.out.done hv (by rw[BB_eq];exact hv2) (fun h=>by omega))
    go_wp2
    go_ret
    exact ⟨by rw[<- hD.out];rfl,_,rfl⟩
structure Win (w wr:World) (g off k:Nat) (zs0 zs:List Nat):Prop where
 z:DRow wr g zs
 len:zs.length=zs0.length
 wd:Wd zs
 take:zs.take off=zs0.take off
 drop:zs.drop (off+k)=zs0.drop (off+k)
 only:Only g w wr
theorem Win.refl {w:World} {g:Nat} {zs:List Nat} (h:DRow w g zs) (hw:Wd zs) (off k:Nat):Win w w g off k zs zs:=⟨h,rfl,hw,rfl,rfl,Only.refl _ _⟩
theorem Win.set_ {w wr:World} {g off k:Nat} {zs0 zs:List Nat} (h:Win w wr g off k zs0 zs) (i x:Nat) (hi:i<k) (hx:x<BB):Win w (wr.setCell ⟨g,off+i,none⟩ (.int .u32 (x:Int))) g off k zs0 (zs.set (off+i) x) :=
 ⟨h.z.set_ _ _,by rw[List.length_set,h.len],h.wd.set hx,by rw[take_set_le _ (by omega),h.take],by rw[drop_set_lt _ (by omega),h.drop],h.only.setCell _ _⟩
theorem ret_borrow {b:Nat} (h:b<=1):Ending.returned (.bool (!((b:Int) == 0)))=Ending.returned (.bool (b == 1)):=by
 have h2:b=0∨b=1:=by omega
 rcases h2 with rfl | rfl<;>rfl
theorem mulinv_arith {V V' P B x z l b b' c c' q T S:Nat} (h1:V'+P*x=V+P*z) (h2:V+T=S+P*(c+b)) (h3:z+l+b=x+B*b') (h4:l+B*c'=q+c):V'+(T+P*q)=S+P*B*(c'+b'):=by
 have h5:P*(z+l+b)=P*(x+B*b'):=by rw[h3]
 have h6:P*(l+B*c')=P*(q+c):=by rw[h4]
 rw[Nat.mul_add,Nat.mul_add,Nat.mul_add,<- Nat.mul_assoc] at h5
 rw[Nat.mul_add,Nat.mul_add,<- Nat.mul_assoc] at h6
 rw[Nat.mul_add] at h2
 rw[Nat.mul_add]
 omega
structure SubMInv (w wr:World) (g off n E:Nat) (dv zs0:List Nat) (i c b:Nat) (zs:List Nat):Prop where
 carry:c<BB
 borrow:b<=1
 win:Win w wr g off (n+1) zs0 zs
 sum:val zs+BB^off*(E*val (dv.take i))=val zs0+BB^(off+i)*(c+b)
theorem SubMInv.step {w wr:World} {g off n E:Nat} {dv zs0:List Nat} {i c b:Nat} {zs:List Nat} (h:SubMInv w wr g off n E dv zs0 i c b zs) (hE:E<BB) (hd:Wd dv) (hi:i<n) (hl:off+n+1<=zs0.length) :
  SubMInv w (wr.setCell ⟨g,off+i,none⟩ (.int .u32 (dLo (zs.getD (off+i) 0) (sLo (mLo (dv.getD i 0) E) c 0) b:Nat))) g off n E dv zs0 (i+1) (pHi1 (dv.getD i 0) E c) (dHi (zs.getD (off+i) 0) (sLo (mLo (dv.getD i 0) E) c 0) b) (zs.set (off+i) (dLo (zs.getD (off+i) 0) (sLo (mLo (dv.getD i 0) E) c 0) b)):=by
 refine ⟨pHi1_lt (hd.getD _) hE h.carry,dHi_le _ _ _,h.win.set_ i _ (by omega) (dLo_lt _ _ _),?_⟩
 have h1:=val_set zs (k:=off+i) (by rw[h.win.len];omega) (dLo (zs.getD (off+i) 0) (sLo (mLo (dv.getD i 0) E) c 0) b)
 have h3:=d_eq (h.win.wd.getD (off+i)) (sLo_lt (mLo (dv.getD i 0) E) c 0) h.borrow
 have h4:=p_eq1 (dv.getD i 0) E c
 have h5:=mulinv_arith h1 h.sum h3 h4
 rw[val_take_succ' dv,<- Nat.add_assoc off,Nat.pow_succ,<- h5]
 congr 1
 rw[Nat.pow_add]
 generalize val (dv.take i)=X
 generalize dv.getD i 0=y
 generalize BB^i=P
 generalize BB^off=Q
 grind
theorem SubMInv.top {w wr:World} {g off n E:Nat} {dv zs0:List Nat} {c b:Nat} {zs:List Nat} (h:SubMInv w wr g off n E dv zs0 n c b zs) (hl:off+n+1<=zs0.length) (hdl:dv.length=n) :
  Win w (wr.setCell ⟨g,off+n,none⟩ (.int .u32 (dLo (zs.getD (off+n) 0) c b:Nat))) g off (n+1) zs0 (zs.set (off+n) (dLo (zs.getD (off+n) 0) c b)) /\
   val (zs.set (off+n) (dLo (zs.getD (off+n) 0) c b))+BB^off*(E*val dv)=val zs0+BB^(off+n+1)*dHi (zs.getD (off+n) 0) c b:=by
 refine ⟨h.win.set_ n _ (by omega) (dLo_lt _ _ _),?_⟩
 have h1:=val_set zs (k:=off+n) (by rw[h.win.len];omega) (dLo (zs.getD (off+n) 0) c b)
 have h3:=d_eq (h.win.wd.getD (off+n)) h.carry h.borrow
 have h2:=h.sum
 rw[List.take_of_length_le (by omega)] at h2
 have h5:BB^(off+n)*(dLo (zs.getD (off+n) 0) c b+c+b)=BB^(off+n)*(zs.getD (off+n) 0+BB*dHi (zs.getD (off+n) 0) c b):=by rw[h3]
 rw[Nat.mul_add,Nat.mul_add,Nat.mul_add,<- Nat.mul_assoc] at h5
 rw[Nat.mul_add] at h2
 rw[Nat.pow_succ]
 omega
set_option maxHeartbeats 2000000 in
theorem subtractMultiple_any (g off n zc cv E:Nat) (V:Option Addr) (zs dv:List Nat) (w:World) (hz:DRow w g zs) (hzl:off+n+1<=zs.length) (hwz:Wd zs) (hv:DigAt w V n cv dv) (hV:Off g V) (hE:E<4294967296) (hm:zs.length<=17592186044416) :
  Calls Tryz.prog 104 #[.slice (some ⟨g,off,none⟩) (n+1) zc,.slice V n cv,.int .u32 (E:Int)] w fun e w'=>∃ b zs',e=.returned (.bool (b == 1))/\b<=1/\Win w w' g off (n+1) zs zs'/\val zs'+BB^off*(E*val dv)=val zs+BB^(off+n+1)*b:=by
 have hEB:E<BB:=by rw[BB_eq];exact hE
 have hinv:SubMInv w w g off n E dv zs 0 0 0 zs:=⟨BB_pos,Nat.zero_le _,Win.refl hz hwz _ _,by simp[val]⟩
 have Hzl:=Lh hzl
 clear hz hwz
 go_enter Tryz.func104,Tryz.ntmps104
 go_wp2
 go_loopw [7,8,17] (fun c b i wr=>∃ k c' b' zs',k<=n/\i=.int .i64 (k:Nat)/\c=.int .u32 (c':Nat)/\b=.int .u32 (b':Nat)/\SubMInv w wr g off n E dv zs k c' b' zs') (fun _ _ i _=>n-(intOf i).toNat)
 case atStart=>exact ⟨0,0,0,_,Nat.zero_le _,rfl,rfl,rfl,hinv⟩
 case round =>
  clear hinv
  obtain ⟨k,c,b,zs',hk,rfl,rfl,rfl,hI⟩:=hrel
  have HI:=Lh hI
  have hc:=hI.carry
  have hb:=hI.borrow
  rw[BB_eq] at hc
  clear hI
  by_cases hlt:k<n
  ·obtain ⟨b1,o1,rfl,hb1,hc1⟩:=hv.at_ (by omega)
   have hcell1:=(HI.out.win.only.cell (p:=⟨b1,o1+k,none⟩) (hV b1 o1 rfl)).trans (hc1 k hlt)
   have hd1:dv[k]?.getD 0<4294967296:=by have:=hv.wd.getD k;rwa [List.getD_eq_getElem?_getD,BB_eq] at this
   have hzc:=HI.out.win.z.cell (i:=off+k) (by rw[HI.out.win.len];omega)
   have hzf:=HI.out.win.z.frozen (off+k)
   have hd2:zs'[off+k]?.getD 0<4294967296:=by have:=HI.out.win.wd.getD (off+k);rwa [List.getD_eq_getElem?_getD,BB_eq] at this
   have hp:mHi (dv[k]?.getD 0) E+sHi (mLo (dv[k]?.getD 0) E) c 0<4294967296:=by
    have:=pHi1_lt (x:=dv[k]?.getD 0) (y:=E) (r:=c) (by rw[BB_eq];exact hd1) hEB (by rw[BB_eq];exact hc)
    rwa [BB_eq] at this
   have hm1:mLo (dv[k]?.getD 0) E<4294967296:=by have:=mLo_lt (dv[k]?.getD 0) E;rwa [BB_eq] at this
   have hm2:sLo (mLo (dv[k]?.getD 0) E) c 0<4294967296:=by have:=sLo_lt (mLo (dv[k]?.getD 0) E) c 0;rwa [BB_eq] at this
   have Hv:=Lh hv
   clear hv hc1
   go_wp2_with fail
   refine (mul32_any _ E _ hd1 hE).mono ?_
   rintro e w2 ⟨rfl,rfl⟩
   go_wp2_with fail
   refine (add32_any _ c 0 _ hm1 hc (by omega)).mono ?_
   rintro e w2 ⟨rfl,rfl⟩
   go_wp2_with fail
   refine (sub32_any _ _ b _ hd2 hm2 hb).mono ?_
   rintro e w2 ⟨rfl,rfl⟩
   go_wp2
   go_roundw
   case rel =>
    have:=HI.out.step hEB Hv.out.wd hlt Hzl.out
    simp only[List.getD_eq_getElem?_getD,pHi1] at this
    exact ⟨k+1,_,_,_,by omega,by go_num,rfl,rfl,this⟩
   case measure=>simp[intOf];omega
  ·have hk2:n=k:=by omega
   subst hk2
   have hzc:=HI.out.win.z.cell (i:=off+n) (by rw[HI.out.win.len];omega)
   have hzf:=HI.out.win.z.frozen (off+n)
   have hd2:zs'[off+n]?.getD 0<4294967296:=by have:=HI.out.win.wd.getD (off+n);rwa [List.getD_eq_getElem?_getD,BB_eq] at this
   have HT:=Lh (HI.out.top Hzl.out hv.length)
   simp only[List.getD_eq_getElem?_getD] at HT
   have hdb:=dHi_le (zs'[off+n]?.getD 0) c b
   go_wp2_with fail
   refine (sub32_any _ c b _ hd2 hc hb).mono ?_
   rintro e w2 ⟨rfl,rfl⟩
   go_wp2
   go_ret
   exact ⟨_,_,ret_borrow hdb,hdb,HT.out.1,HT.out.2⟩
structure AddBInv (w wr:World) (g off n:Nat) (dv zs0:List Nat) (i c:Nat) (zs:List Nat):Prop where
 carry:c<=1
 win:Win w wr g off (n+1) zs0 zs
 sum:val zs+BB^(off+i)*c=val zs0+BB^off*val (dv.take i)
theorem AddBInv.step {w wr:World} {g off n:Nat} {dv zs0:List Nat} {i c:Nat} {zs:List Nat} (h:AddBInv w wr g off n dv zs0 i c zs) (hd:Wd dv) (hi:i<n) (hl:off+n+1<=zs0.length) :
  AddBInv w (wr.setCell ⟨g,off+i,none⟩ (.int .u32 (sLo (zs.getD (off+i) 0) (dv.getD i 0) c:Nat))) g off n dv zs0 (i+1) (sHi (zs.getD (off+i) 0) (dv.getD i 0) c) (zs.set (off+i) (sLo (zs.getD (off+i) 0) (dv.getD i 0) c)):=by
 refine ⟨sHi_le (h.win.wd.getD _) (hd.getD _) h.carry,h.win.set_ i _ (by omega) (sLo_lt _ _ _),?_⟩
 have h1:=val_set zs (k:=off+i) (by rw[h.win.len];omega) (sLo (zs.getD (off+i) 0) (dv.getD i 0) c)
 have h2:=into_arith _ _ _ _ _ _ _ _ _ _ (s_eq (zs.getD (off+i) 0) (dv.getD i 0) c) h.sum h1
 rw[<- Nat.add_assoc,Nat.pow_succ,h2,val_take_succ' dv,Nat.mul_add,Nat.add_assoc,Nat.pow_add,Nat.mul_assoc]
theorem AddBInv.top {w wr:World} {g off n:Nat} {dv zs0:List Nat} {c:Nat} {zs:List Nat} (h:AddBInv w wr g off n dv zs0 n c zs) (hl:off+n+1<=zs0.length) (hdl:dv.length=n) :
  Win w (wr.setCell ⟨g,off+n,none⟩ (.int .u32 (sLo (zs.getD (off+n) 0) c 0:Nat))) g off (n+1) zs0 (zs.set (off+n) (sLo (zs.getD (off+n) 0) c 0)) /\
   val (zs.set (off+n) (sLo (zs.getD (off+n) 0) c 0))+BB^(off+n+1)*sHi (zs.getD (off+n) 0) c 0=val zs0+BB^off*val dv:=by
 refine ⟨h.win.set_ n _ (by omega) (sLo_lt _ _ _),?_⟩
 have h1:=val_set zs (k:=off+n) (by rw[h.win.len];omega) (sLo (zs.getD (off+n) 0) c 0)
 have h3:=s_eq (zs.getD (off+n) 0) c 0
 have h2:=h.sum
 rw[List.take_of_length_le (by omega)] at h2
 have h5:BB^(off+n)*(sLo (zs.getD (off+n) 0) c 0+BB*sHi (zs.getD (off+n) 0) c 0)=BB^(off+n)*(zs.getD (off+n) 0+c):=by rw[h3,Nat.add_zero]
 rw[Nat.mul_add,Nat.mul_add,<- Nat.mul_assoc] at h5
 rw[Nat.pow_succ]
 omega
set_option maxHeartbeats 2000000 in
theorem addBack_any (g off n zc cv:Nat) (V:Option Addr) (zs dv:List Nat) (w:World) (hz:DRow w g zs) (hzl:off+n+1<=zs.length) (hwz:Wd zs) (hv:DigAt w V n cv dv) (hV:Off g V) (hm:zs.length<=17592186044416) :
  Calls Tryz.prog 105 #[.slice (some ⟨g,off,none⟩) (n+1) zc,.slice V n cv] w fun e w'=>e=.returned (.tuple #[])/\∃ c zs',c<=1/\Win w w' g off (n+1) zs zs'/\val zs'+BB^(off+n+1)*c=val zs+BB^off*val dv:=by
 have hinv:AddBInv w w g off n dv zs 0 0 zs:=⟨Nat.zero_le _,Win.refl hz hwz _ _,by simp[val]⟩
 have Hzl:=Lh hzl
 clear hz hwz
 go_enter Tryz.func105,Tryz.ntmps105
 go_wp2
 go_loopw [4,9] (fun c i wr=>∃ k c' zs',k<=n/\i=.int .i64 (k:Nat)/\c=.int .u32 (c':Nat)/\AddBInv w wr g off n dv zs k c' zs') (fun _ i _=>n-(intOf i).toNat)
 case atStart=>exact ⟨0,0,_,Nat.zero_le _,rfl,rfl,hinv⟩
 case round =>
  clear hinv
  obtain ⟨k,c,zs',hk,rfl,rfl,hI⟩:=hrel
  have HI:=Lh hI
  have hc:=hI.carry
  clear hI
  by_cases hlt:k<n
  ·obtain ⟨b1,o1,rfl,hb1,hc1⟩:=hv.at_ (by omega)
   have hcell1:=(HI.out.win.only.cell (p:=⟨b1,o1+k,none⟩) (hV b1 o1 rfl)).trans (hc1 k hlt)
   have hd1:dv[k]?.getD 0<4294967296:=by have:=hv.wd.getD k;rwa [List.getD_eq_getElem?_getD,BB_eq] at this
   have hzc:=HI.out.win.z.cell (i:=off+k) (by rw[HI.out.win.len];omega)
   have hzf:=HI.out.win.z.frozen (off+k)
   have hd2:zs'[off+k]?.getD 0<4294967296:=by have:=HI.out.win.wd.getD (off+k);rwa [List.getD_eq_getElem?_getD,BB_eq] at this
   have Hv:=Lh hv
   clear hv hc1
   go_wp2_with (go_at_call 62;refine (add32_any _ _ c _ hd2 hd1 hc).mono ?_;rintro e w2 ⟨rfl,rfl⟩)
   go_roundw
   case rel =>
    have:=HI.out.step Hv.out.wd hlt Hzl.out
    simp only[List.getD_eq_getElem?_getD] at this
    exact ⟨k+1,_,_,by omega,by go_num,rfl,this⟩
   case measure=>simp[intOf];omega
  ·have hk2:n=k:=by omega
   subst hk2
   have hzc:=HI.out.win.z.cell (i:=off+n) (by rw[HI.out.win.len];omega)
   have hzf:=HI.out.win.z.frozen (off+n)
   have hd2:zs'[off+n]?.getD 0<4294967296:=by have:=HI.out.win.wd.getD (off+n);rwa [List.getD_eq_getElem?_getD,BB_eq] at this
   have HT:=Lh (HI.out.top Hzl.out hv.length)
   have hsh:=sHi_le (x:=zs'[off+n]?.getD 0) (y:=c) (c:=0) (by rw[BB_eq];exact hd2) (by rw[BB_eq];omega) (Nat.zero_le _)
   have hval:((zs'[off+n]?.getD 0:Nat)+(c:Int)) % 4294967296=((sLo (zs'[off+n]?.getD 0) c 0:Nat):Int):=by unfold sLo;rw[BB_eq];omega
   simp only[List.getD_eq_getElem?_getD] at HT
   go_wp2
   go_end0
   exact ⟨rfl,_,_,hsh,HT.out.1,HT.out.2⟩
end Go.Proofs.YtpeiiomjnjemjaaGreat
namespace Go.Proofs.YtpeiiomjnjemjaaGreat
open Go.RowKit
noncomputable def shd (x y s:Nat):Nat:=(x+BB*y) / 2^s % BB
theorem shd_lt (x y s:Nat):shd x y s<BB:=Nat.mod_lt _ BB_pos
theorem shd_eq {x s:Nat} (y:Nat) (hx:x<BB) (hs:s<32):2^s*shd x y s+x % 2^s=x+BB*(y % 2^s):=by
 have hp:=Nat.two_pow_pos s
 have e:BB=2^s*2^(32-s):=BB_pow hs
 unfold shd
 generalize 2^(32-s)=T at *
 generalize 2^s=S at *
 have hy:=Nat.div_add_mod y S
 have hl:=Nat.mod_lt y hp
 generalize y / S=a at *
 generalize y % S=b at *
 have h1:(x+BB*y) / S=x / S+T*y:=by
  rw[e,Nat.mul_assoc,Nat.add_mul_div_left _ _ hp]
 have h2:x / S<T:=by
  refine Nat.div_lt_of_lt_mul ?_
  rw[<- e];exact hx
 have h3:x / S+T*y=(x / S+T*b)+BB*a:=by
  rw[<- hy,e,Nat.mul_add]
  have:T*(S*a)=S*T*a:=by rw[<- Nat.mul_assoc,Nat.mul_comm T S]
  omega
 have h4:x / S+T*b<BB:=by
  have:T*(b+1)<=T*S:=Nat.mul_le_mul_left _ hl
  rw[Nat.mul_comm T S,<- e,Nat.mul_add] at this
  omega
 rw[h1,h3,Nat.add_mul_mod_self_left,Nat.mod_eq_of_lt h4,Nat.mul_add]
 have h5:=Nat.div_add_mod x S
 have h6:S*(T*b)=BB*b:=by rw[e,Nat.mul_assoc]
 omega
structure SrInv (w wr:World) (g n s:Nat) (da:List Nat) (i:Nat) (zs:List Nat):Prop where
 z:DRow wr g zs
 len:zs.length=n
 wd:Wd zs
 sum:2^s*val (zs.take i)+da.getD 0 0 % 2^s=val (da.take i)+BB^i*(da.getD i 0 % 2^s)
 below:Below w.heap.size w wr
theorem SrInv.step {w wr:World} {n s:Nat} {da:List Nat} {i:Nat} {zs:List Nat} (h:SrInv w wr w.heap.size n s da i zs) (hd:Wd da) (hs:s<32) (hn:i<n) :
  SrInv w (wr.setCell ⟨w.heap.size,i,none⟩ (.int .u32 ((shd (da.getD i 0) (da.getD (i+1) 0) s:Nat):Int))) w.heap.size n s da (i+1) (zs.set i (shd (da.getD i 0) (da.getD (i+1) 0) s)):=by
 refine ⟨h.z.set_ _ _,by rw[List.length_set,h.len],h.wd.set (shd_lt _ _ _),?_,h.below.setCell (p:=⟨w.heap.size,i,none⟩) (Nat.le_refl _) _⟩
 rw[take_set_succ zs (by rw[h.len];exact hn),val_append,val_take_succ' da]
 have e1:(zs.take i).length=i:=by rw[List.length_take,h.len];omega
 rw[e1]
 simp only[val,Nat.mul_zero,Nat.add_zero]
 have e2:=shd_eq (da.getD (i+1) 0) (hd.getD i) hs
 have e3:=h.sum
 generalize shd (da.getD i 0) (da.getD (i+1) 0) s=z at *
 generalize da.getD (i+1) 0 % 2^s=y at *
 generalize da.getD i 0 % 2^s=r at *
 generalize da.getD i 0=x at *
 generalize da.getD 0 0 % 2^s=r0 at *
 generalize val (zs.take i)=A at *
 generalize val (da.take i)=D at *
 rw[Nat.pow_succ]
 generalize BB^i=P at *
 generalize 2^s=S at *
 generalize BB=B at *
 have h1:P*(S*z+r)=P*(x+B*y):=by rw[e2]
 rw[Nat.mul_add,Nat.mul_add,<- Nat.mul_assoc P B] at h1
 rw[Nat.mul_add]
 have h2:S*(P*z)=P*(S*z):=by rw[<- Nat.mul_assoc,Nat.mul_comm S P,Nat.mul_assoc]
 omega
theorem shr_last (x s:Nat):(x:Int) / 2^s % 4294967296=((shd x 0 s:Nat):Int):=by
 have e2:(x:Int) / 2^s=((x / 2^s:Nat):Int):=by simp
 rw[e2]
 unfold shd
 rw[Nat.mul_zero,Nat.add_zero,BB_eq]
 rfl
theorem shr_two {x y:Nat} (s:Nat) (hx:x<4294967296) (hy:y<4294967296):bits BinOp.or IntKind.u64 (x:Int) ((y:Int)*4294967296) / 2^s % 4294967296=((shd x y s:Nat):Int):=by
 have e3:(y:Int)*4294967296=((y*4294967296:Nat):Int):=by omega
 have e4:bits BinOp.or IntKind.u64 (x:Int) ((y:Int)*4294967296)=bits BinOp.or IntKind.u64 ((y:Int)*4294967296) (x:Int):=by
  rw[e3,u64_or_nat _ _ (by omega) (by omega),u64_or_nat _ _ (by omega) (by omega),Nat.or_comm]
 rw[e4,div32_or hy hx]
 have e5:((y*4294967296+x:Nat):Int) / 2^s=(((y*4294967296+x) / 2^s:Nat):Int):=by simp
 rw[e5]
 unfold shd
 rw[BB_eq,show x+4294967296*y=y*4294967296+x by omega]
 rfl
set_option maxRecDepth 100000 in
set_option maxHeartbeats 2000000 in
theorem shr_dig (A:Option Addr) (la ca s:Nat) (ds:List Nat) (a:Nat) (w:World) (ha:DigAt w A la ca ds) (hv:val ds=a) (hm:la<=8796093022208) (hs:s<32) :
  Calls Tryz.prog 106 #[.slice A la ca,.int .i64 (s:Int)] w fun e w'=>∃ A' l' c',e=.returned (.slice A' l' c')/\NatN w' A' l' c' (a / 2^s)/\Below w.heap.size w w':=by
 have hc1:¬ ((s:Int)<0):=by omega
 have hd1:(s:Int).tdiv 32=0:=by
  have:(s:Int).tdiv 32=((s / 32:Nat):Int):=rfl
  rw[this];omega
 have hd2:(s:Int).tmod 32=(s:Int):=by
  have:(s:Int).tmod 32=((s % 32:Nat):Int):=rfl
  rw[this];omega
 go_enter Tryz.func106,Tryz.ntmps106
 go_wp2_with fail
 refine (trim_dig _ _ _ _ _ _ ha hv hm).mono ?_
 rintro e w1 ⟨l1,rfl,h1,rfl⟩
 have hl:=Lh h1.len
 by_cases h0:l1=0
 ·subst h0
  have ha0:a=0:=dlen_eq_zero hl.out.symm
  have Ha0:=Lh ha0
  clear h1 hl ha0 ha
  go_wp2
  go_ret
  exact ⟨_,_,_,rfl,by rw[Ha0.out,Nat.zero_div];exact NatN.zero _ _ _,Below.refl _ _⟩
 ·have hlm:l1<=8796093022208:=by
   rw[hl.out,<- hv,dlen_val ha.wd]
   exact Nat.le_trans (tlen_le ds) (by rw[ha.length];exact hm)
  have hl0:0<l1:=by omega
  have hl1:¬ ((l1:Int)<=0):=by omega
  clear ha
  go_wp2_with (at_make;refine wpList_make_dig _ rfl (.tmp 29) (.tmp 29) rfl l1 rfl rfl (by omega) ?_)
  intro w2 hz hb1 hsz
  have hinv:SrInv w w2 w.heap.size l1 s (digs a) 0 (List.replicate l1 0) :=
   ⟨hz,by simp,Wd.replicate _,by simp[val],hb1⟩
  clear hz hb1 hsz
  go_wp2
  go_loopw [33] (fun i wr=>∃ k zs,k<=l1/\i=.int .i64 (k:Nat)/\SrInv w wr w.heap.size l1 s (digs a) k zs) (fun i _=>l1-(intOf i).toNat)
  case atStart=>exact ⟨0,_,Nat.zero_le _,rfl,hinv⟩
  case round =>
   clear hinv
   obtain ⟨i,zs,hi,rfl,hI⟩:=hrel
   by_cases hlt:i<l1
   ·obtain ⟨b,off,rfl,hb,hc⟩:=h1.digits.at_ (by omega)
    have e0:=(hI.below.cell (p:=⟨b,off+i,none⟩) hb).trans (hc i hlt)
    have e2:=hI.z.cell (i:=i) (by rw[hI.len];omega)
    have f1:=hI.z.frozen i
    have hx:=(digs_wd a).getD i
    have HS:=Lh (hI.step (digs_wd a) hs hlt)
    by_cases hlt2:i+1<l1
    ·have e1:=(hI.below.cell (p:=⟨b,off+(i+1),none⟩) hb).trans (hc (i+1) hlt2)
     have hy:=(digs_wd a).getD (i+1)
     obtain ⟨x,hxv⟩:∃ x,x=(digs a).getD i 0:=⟨_,rfl⟩
     obtain ⟨y,hyv⟩:∃ y,y=(digs a).getD (i+1) 0:=⟨_,rfl⟩
     rw[<- hxv] at e0 hx HS
     rw[<- hyv] at e1 hy HS
     clear hI hc h1 hxv hyv
     have hlt3:(i:Int)+1<(l1:Int):=by omega
     rw[BB_eq] at hx hy
     go_wp2
     go_roundw
     case rel=>exact ⟨i+1,_,by omega,by go_num,by rw[shr_two s hx hy];exact HS.out⟩
     case measure=>simp[intOf];omega
    ·have hyz:(digs a).getD (i+1) 0=0:=by
      rw[List.getD_eq_getElem?_getD,List.getElem?_eq_none (by have:=hl.out;unfold dlen at this;omega)];rfl
     obtain ⟨x,hxv⟩:∃ x,x=(digs a).getD i 0:=⟨_,rfl⟩
     rw[<- hxv] at e0 hx HS
     rw[hyz] at HS
     clear hI hc h1 hxv hyz
     have hlt3:¬ ((i:Int)+1<(l1:Int)):=by omega
     rw[BB_eq] at hx
     go_wp2
     go_roundw
     case rel=>exact ⟨i+1,_,by omega,by go_num,by rw[shr_last];exact HS.out⟩
     case measure=>simp[intOf];omega
   ·have hk2:l1=i:=by omega
    subst hk2
    have hval:val zs=a / 2^s:=by
     have h2:=hI.sum
     have hz:(digs a).getD l1 0=0:=by
      rw[List.getD_eq_getElem?_getD,List.getElem?_eq_none (by have:=hl.out;unfold dlen at this;omega)];rfl
     rw[hz,Nat.zero_mod,Nat.mul_zero,Nat.add_zero,List.take_of_length_le (by rw[hI.len];exact Nat.le_refl _),List.take_of_length_le (by have:=hl.out;unfold dlen at this;omega),val_digs] at h2
     have h3:=Nat.mod_lt ((digs a).getD 0 0) (Nat.two_pow_pos s)
     rw[<- h2,Nat.add_comm,Nat.add_mul_div_left _ _ (Nat.two_pow_pos s),Nat.div_eq_of_lt h3,Nat.zero_add]
    have hlen:=hI.len
    have hdg:=hI.z.dig hI.wd (cap:=l1) (by omega)
    rw[hlen] at hdg
    have Hb:=Lh hI.below
    have Hv:=Lh hval
    clear h1 hI hval hlen
    go_wp2_with fail
    refine (trim_dig _ _ _ _ _ _ hdg Hv.out (by omega)).mono ?_
    rintro e w2 ⟨l2,rfl,h2,rfl⟩
    clear hdg
    go_wp2
    go_ret
    exact ⟨_,_,_,rfl,h2,Hb.out⟩
end Go.Proofs.YtpeiiomjnjemjaaGreat
namespace Go.Proofs.YtpeiiomjnjemjaaGreat
open Go.RowKit
structure DvInv (w wr:World) (gu gq V U n lq k:Nat) (zs qs:List Nat):Prop where
 u:DRow wr gu zs
 ul:zs.length=lq+n
 uw:Wd zs
 q:DRow wr gq qs
 ql:qs.length=lq
 qw:Wd qs
 below:Below w.heap.size w wr
 sum:U=val (qs.drop k)*(BB^k*V)+val zs
 lt:val (zs.drop k)<V
section
variable {w wr:World} {gu gq V U m lq j:Nat} {zs qs:List Nat}
theorem DvInv.cut (h:DvInv w wr gu gq V U (m+2) lq (j+1) zs qs) (hj:j<lq):val (zs.drop j)<V*BB:=by
 have h1:=val_drop_succ zs (j:=j) (by rw[h.ul];omega)
 have h2:=h.uw.getD j
 have h3:BB*(val (zs.drop (j+1))+1)<=BB*V:=Nat.mul_le_mul_left _ h.lt
 rw[Nat.mul_add,Nat.mul_one] at h3
 rw[Nat.mul_comm V]
 omega
theorem DvInv.est (h:DvInv w wr gu gq V U (m+2) lq (j+1) zs qs) (hj:j<lq) (hV:dlen V=m+2) :
  zs.getD (j+m+2) 0<=(digs V).getD (m+1) 0/\0<(digs V).getD (m+1) 0 /\
  val (zs.drop j) / V<=est ((zs.getD (j+m+2) 0*BB+zs.getD (j+m+1) 0)*BB+zs.getD (j+m) 0) ((digs V).getD (m+1) 0*BB+(digs V).getD m 0) /\
  est ((zs.getD (j+m+2) 0*BB+zs.getD (j+m+1) 0)*BB+zs.getD (j+m) 0) ((digs V).getD (m+1) 0*BB+(digs V).getD m 0)<=val (zs.drop j) / V+1:=by
 have h1:=h.cut hj
 have hlt:V<BB^(m+2):=by have:=lt_pow_dlen V;rwa [hV] at this
 have h2:val (zs.drop j)<BB^(m+3):=by
  have:V*BB<=BB^(m+2)*BB:=Nat.mul_le_mul_right _ (Nat.le_of_lt hlt)
  rw[<- Nat.pow_succ] at this
  exact Nat.lt_of_lt_of_le h1 this
 obtain ⟨L,hL,hP⟩:=val_three h.uw (j:=j) (k:=m) (by rw[h.ul];omega) h2
 obtain ⟨M,hM,hVe⟩:=val_two (digs_wd V) (k:=m) hV
 rw[val_digs] at hVe
 have hv1:0<(digs V).getD (m+1) 0:=by
  have:=digs_top (a:=V) (by intro e;rw[e,dlen_zero] at hV;omega)
  rwa [hV] at this
 have hle:zs.getD (j+m+2) 0<=(digs V).getD (m+1) 0:=by
  rcases Nat.lt_or_ge ((digs V).getD (m+1) 0) (zs.getD (j+m+2) 0) with h3 | h3
  ·exfalso
   have hv2:=(digs_wd V).getD m
   rw[hP,hVe] at h1
   have e1:((digs V).getD (m+1) 0*BB+(digs V).getD m 0+1)*BB^m<=(zs.getD (j+m+2) 0*BB)*BB^m:=by
    refine Nat.mul_le_mul_right _ ?_
    have:((digs V).getD (m+1) 0+1)*BB<=zs.getD (j+m+2) 0*BB:=Nat.mul_le_mul_right _ h3
    rw[Nat.add_mul,Nat.one_mul] at this
    omega
   have e2:(((digs V).getD (m+1) 0*BB+(digs V).getD m 0)*BB^m+M)*BB<=(zs.getD (j+m+2) 0*BB)*BB^m*BB:=by
    refine Nat.mul_le_mul_right _ ?_
    rw[Nat.add_mul,Nat.one_mul] at e1
    omega
   have e3:(zs.getD (j+m+2) 0*BB)*BB^m*BB=(zs.getD (j+m+2) 0*BB)*BB*BB^m:=by rw[Nat.mul_assoc,Nat.mul_comm (BB^m),<- Nat.mul_assoc]
   have e4:(zs.getD (j+m+2) 0*BB)*BB*BB^m<=((zs.getD (j+m+2) 0*BB+zs.getD (j+m+1) 0)*BB+zs.getD (j+m) 0)*BB^m:=by
    refine Nat.mul_le_mul_right _ ?_
    rw[Nat.add_mul]
    omega
   omega
  ·exact h3
 exact ⟨hle,hv1,est_digit hL hM hP hVe hv1 h1⟩
theorem DvInv.next {wr':World} {zs':List Nat} (h:DvInv w wr gu gq V U (m+2) lq (j+1) zs qs) (hj:j<lq) (hV:0<V)
  (hu:DRow wr' gu zs') (hl:zs'.length=zs.length) (hwd:Wd zs') (ht:zs'.take j=zs.take j) (hP:val (zs'.drop j)=val (zs.drop j) % V)
  (hq:DRow wr' gq (qs.set j (val (zs.drop j) / V))) (hb:Below w.heap.size w wr') :
  DvInv w wr' gu gq V U (m+2) lq j zs' (qs.set j (val (zs.drop j) / V)):=by
 have hd:val (zs.drop j) / V<BB:=(Nat.div_lt_iff_lt_mul hV).2 (by rw[Nat.mul_comm];exact h.cut hj)
 refine ⟨hu,by rw[hl,h.ul],hwd,hq,by rw[List.length_set,h.ql],h.qw.set hd,hb,?_,by rw[hP];exact Nat.mod_lt _ hV⟩
 have h1:=val_split zs (k:=j) (by rw[h.ul];omega)
 have h2:=val_split zs' (k:=j) (by rw[hl,h.ul];omega)
 have h3:=h.sum
 rw[h1] at h3
 have hm:=Nat.div_add_mod (val (zs.drop j)) V
 rw[Nat.mul_comm] at hm
 have h4:=digit_next h3 hm.symm
 rw[h2,ht,hP,h4]
 congr 2
 rw[val_drop_succ (qs.set j (val (zs.drop j) / V)) (j:=j) (by rw[List.length_set,h.ql];exact hj),drop_set_lt _ (by omega)]
 congr 1
 rw[List.getD_eq_getElem?_getD,List.getElem?_set_self (by rw[h.ql];exact hj)]
 rfl
theorem DvInv.sub0 {wr0 wr1:World} {zs1:List Nat} {E:Nat} (h:DvInv w wr gu gq V U (m+2) lq (j+1) zs qs) (hj:j<lq) (hV:dlen V=m+2) (hE:val (zs.drop j) / V<=E/\E<=val (zs.drop j) / V+1)
  (hw:Win wr0 wr1 gu j (m+2+1) zs zs1) (he:val zs1+BB^j*(E*V)=val zs+BB^(j+(m+2)+1)*0):E=val (zs.drop j) / V/\val (zs1.drop j)=val (zs.drop j) % V:=by
 have hVp:0<V:=by rcases Nat.eq_zero_or_pos V with e | e;· rw[e,dlen_zero] at hV;omega
                  ·exact e
 rw[show BB^(j+(m+2)+1)=BB^j*BB^(m+2+1) by rw[<- Nat.pow_add,Nat.add_assoc],Nat.mul_assoc] at he
 have h1:=val_drop_eq hw.len (by rw[h.ul];omega) hw.take he
 have h2:val (zs.drop j)<BB^(m+2+1):=by
  have hlt:V<BB^(m+2):=by have:=lt_pow_dlen V;rwa [hV] at this
  have:V*BB<=BB^(m+2)*BB:=Nat.mul_le_mul_right _ (Nat.le_of_lt hlt)
  rw[<- Nat.pow_succ] at this
  exact Nat.lt_of_lt_of_le (h.cut hj) this
 have h3:=val_drop_lt hw.wd hw.len (by rw[h.ul];omega) hw.drop h2
 exact (digit_done hVp hE h1 h3).1 rfl
theorem DvInv.sub1 {wr0 wr1 wr2 wr3:World} {zs1 zs2:List Nat} {E c:Nat} (h:DvInv w wr gu gq V U (m+2) lq (j+1) zs qs) (hj:j<lq) (hV:dlen V=m+2) (hE:val (zs.drop j) / V<=E/\E<=val (zs.drop j) / V+1)
  (hw:Win wr0 wr1 gu j (m+2+1) zs zs1) (he:val zs1+BB^j*(E*V)=val zs+BB^(j+(m+2)+1)*1)
  (hw2:Win wr2 wr3 gu j (m+2+1) zs1 zs2) (hc:c<=1) (he2:val zs2+BB^(j+(m+2)+1)*c=val zs1+BB^j*V):E=val (zs.drop j) / V+1/\val (zs2.drop j)=val (zs.drop j) % V/\zs2.take j=zs.take j/\zs2.length=zs.length:=by
 have hVp:0<V:=by rcases Nat.eq_zero_or_pos V with e | e;· rw[e,dlen_zero] at hV;omega
                  ·exact e
 rw[show BB^(j+(m+2)+1)=BB^j*BB^(m+2+1) by rw[<- Nat.pow_add,Nat.add_assoc],Nat.mul_assoc] at he he2
 have h1:=val_drop_eq hw.len (by rw[h.ul];omega) hw.take he
 have h4:=val_drop_eq hw2.len (by rw[hw.len,h.ul];omega) hw2.take he2
 have hlt:V<BB^(m+2):=by have:=lt_pow_dlen V;rwa [hV] at this
 have h2:val (zs.drop j)<BB^(m+2+1):=by
  have:V*BB<=BB^(m+2)*BB:=Nat.mul_le_mul_right _ (Nat.le_of_lt hlt)
  rw[<- Nat.pow_succ] at this
  exact Nat.lt_of_lt_of_le (h.cut hj) this
 have h3:=val_drop_lt hw.wd hw.len (by rw[h.ul];omega) hw.drop h2
 have h5:=val_drop_lt hw2.wd hw2.len (by rw[hw.len,h.ul];omega) hw2.drop h3
 obtain ⟨e1,e2⟩:=(digit_done hVp hE h1 h3).2 rfl
 refine ⟨e1,?_,hw2.take.trans hw.take,hw2.len.trans hw.len⟩
 have h6:=Nat.mod_lt (val (zs.drop j)) hVp
 have h7:V<=BB^(m+2+1):=Nat.le_trans (Nat.le_of_lt hlt) (Nat.pow_le_pow_right BB_pos (by omega))
 have h8:c=0∨c=1:=by omega
 rcases h8 with rfl | rfl
 ·omega
 ·rw[Nat.mul_one] at h4
  omega
end
theorem sub_pos {wr0 wr1:World} {gu j n E V:Nat} {zs zs1:List Nat} (hw:Win wr0 wr1 gu j n zs zs1) (hl:j+n<=zs.length) (h:val (zs.drop j)<BB^n) (he:val zs1+BB^j*(E*V)=val zs+BB^(j+n)*1):0<E:=by
 rw[Nat.pow_add,Nat.mul_assoc] at he
 have h1:=val_drop_eq hw.len (by omega) hw.take he
 have h3:=val_drop_lt hw.wd hw.len hl hw.drop h
 rcases Nat.eq_zero_or_pos E with h0 | h0
 ·rw[h0,Nat.zero_mul] at h1;omega
 ·exact h0
theorem DvInv.stored {w wr:World} {gu gq V U n lq k:Nat} {zs qs:List Nat} (h:DvInv w wr gu gq V U n lq k zs qs) (hg:w.heap.size<=gu) (hq:gu<gq) (i j E:Nat) :
  DRow ((wr.drewN i).setCell ⟨gq,j,none⟩ (.int .u32 (E:Int))) gu zs/\DRow ((wr.drewN i).setCell ⟨gq,j,none⟩ (.int .u32 (E:Int))) gq (qs.set j E)/\Below w.heap.size w ((wr.drewN i).setCell ⟨gq,j,none⟩ (.int .u32 (E:Int))):=by
 have hbq:Below wr.heap.size wr (wr.drewN i):=⟨rfl,rfl,rfl,Nat.le_refl _,fun _ _=>rfl⟩
 have h1:DRow (wr.drewN i) gu zs:=Blk.drewN h.u i
 have h2:DRow (wr.drewN i) gq qs:=Blk.drewN h.q i
 exact ⟨h1.far (p:=⟨gq,j,none⟩) (by show gu≠gq;omega) _,h2.set_ _ _,(h.below.trans (hbq.mono h.below.size)).setCell (p:=⟨gq,j,none⟩) (by show w.heap.size<=gq;omega) _⟩
theorem norm_div {b x k n:Nat} (hn:dlen b=n+1) (hx:x=(digs b).getD n 0) (hk:BL x k) (hk32:k<=32):dlen (b*2^(32-k))=n+1/\BB^n*BB<=2*(b*2^(32-k)):=by
 have hb0:b≠0:=by intro e;rw[e,dlen_zero] at hn;omega
 have htop:0<x:=by have:=digs_top hb0;rw[hn] at this;rw[hx];exact this
 have hval:b=val ((digs b).take n)+BB^n*x:=by
  have h1:=val_take_succ' (digs b) n
  rw[List.take_of_length_le (by unfold dlen at hn;omega),val_digs,<- hx] at h1
  exact h1
 have hlow:val ((digs b).take n)<BB^n:=by
  have:=val_lt ((digs_wd b).take n)
  rw[List.length_take] at this
  have h3:n<=(digs b).length:=by unfold dlen at hn;omega
  rwa [Nat.min_eq_left h3] at this
 have h1:=hk.lt
 have h2:=hk.le htop
 have e:2^k*2^(32-k)=BB:=by rw[<- Nat.pow_add,show k+(32-k)=32 by omega,BB_eq]
 have hlt:b*2^(32-k)<BB^(n+1):=by
  have h3:b<BB^n*2^k:=by
   have:BB^n*(x+1)<=BB^n*2^k:=Nat.mul_le_mul_left _ h1
   rw[Nat.mul_add] at this
   omega
  have h4:=Nat.mul_lt_mul_of_pos_right h3 (Nat.two_pow_pos (32-k))
  rwa [Nat.mul_assoc,e,<- Nat.pow_succ] at h4
 refine ⟨?_,?_⟩
 ·have h5:=dlen_le_of_lt hlt
  have h6:dlen b<=dlen (b*2^(32-k)):=dlen_mono (Nat.le_mul_of_pos_right _ (Nat.two_pow_pos _))
  omega
 ·have h7:BB^n*x*2^(32-k)<=b*2^(32-k):=Nat.mul_le_mul_right _ (by omega)
  have h8:BB^n*(2^k*2^(32-k))<=BB^n*(2*x*2^(32-k)):=Nat.mul_le_mul_left _ (Nat.mul_le_mul_right _ h2)
  rw[e] at h8
  have e2:BB^n*(2*x*2^(32-k))=2*(BB^n*x*2^(32-k)):=by
   rw[Nat.mul_assoc 2,Nat.mul_left_comm,Nat.mul_assoc (BB^n)]
  omega
theorem start_div {a s V n l:Nat} (ha:a<BB^l) (hs:s<=31) (hV:BB^n*BB<=2*V) (hn:n<=l):a*2^s<V*BB^(l-n):=by
 have h1:2*2^s<=BB:=by
  have:2^s<=2^31:=Nat.pow_le_pow_right (by omega) hs
  rw[BB_eq];omega
 have h2:a*2^s<BB^l*2^s:=Nat.mul_lt_mul_of_pos_right ha (Nat.two_pow_pos s)
 have h3:BB^l*(2*2^s)<=BB^l*BB:=Nat.mul_le_mul_left _ h1
 have h4:BB^n*BB*BB^(l-n)<=2*V*BB^(l-n):=Nat.mul_le_mul_right _ hV
 have e1:BB^n*BB*BB^(l-n)=BB^l*BB:=by
  rw[Nat.mul_right_comm,<- Nat.pow_add,show n+(l-n)=l by omega]
 have e2:BB^l*(2*2^s)=2*(BB^l*2^s):=Nat.mul_left_comm _ _ _
 rw[e1,Nat.mul_assoc] at h4
 omega
theorem drop_lt {zs:List Nat} {U V k:Nat} (hv:val zs=U) (hk:k<=zs.length) (h:U<V*BB^k):val (zs.drop k)<V:=by
 have h1:=val_split zs hk
 rw[hv] at h1
 have h2:BB^k*val (zs.drop k)<BB^k*V:=by rw[Nat.mul_comm _ V];omega
 exact Nat.lt_of_mul_lt_mul_left h2
theorem end_div {a b s Q R:Nat} (hb:0<b) (h:a*2^s=Q*(b*2^s)+R) (hR:R<b*2^s):Q=a / b/\R / 2^s=a % b:=by
 have hp:=Nat.two_pow_pos s
 have h1:Q=a / b:=by
  have e:a*2^s / (b*2^s)=a / b:=Nat.mul_div_mul_right _ _ hp
  rw[<- e,h,Nat.add_comm,Nat.add_mul_div_right _ _ (Nat.mul_pos hb hp),Nat.div_eq_of_lt hR,Nat.zero_add]
 refine ⟨h1,?_⟩
 have h2:R=(a % b)*2^s:=by
  have h3:=Nat.div_add_mod a b
  have h4:a*2^s=(b*(a / b)+a % b)*2^s:=by rw[h3]
  rw[Nat.add_mul] at h4
  have h5:Q*(b*2^s)=b*(a / b)*2^s:=by rw[h1,<- Nat.mul_assoc,Nat.mul_comm (a / b)]
  omega
 rw[h2,Nat.mul_div_cancel _ hp]
end Go.Proofs.YtpeiiomjnjemjaaGreat
namespace Go.Proofs.YtpeiiomjnjemjaaGreat
open Go.RowKit
set_option maxRecDepth 100000 in
set_option maxHeartbeats 4000000 in
theorem divide_all (A B:Option Addr) (la ca lb cb a b:Nat) (w:World) (ha:NatAt w A la ca a) (hb:NatAt w B lb cb b) (hsa:Sm a) (hsb:Sm b) (hb0:b≠0) :
  Calls Tryz.prog 96 #[.slice A la ca,.slice B lb cb] w fun e w'=>∃ A1 l1 c1 A2 l2 c2,e=.returned (.tuple #[.slice A1 l1 c1,.slice A2 l2 c2])/\NatN w' A1 l1 c1 (a / b)/\NatN w' A2 l2 c2 (a % b)/\Below w.heap.size w w':=by
 by_cases hok:DivOK a b
 ·exact divide_any A B la ca lb cb a b w ha hb hsa hsb hok
 have hlt:¬ a<b:=fun h=>hok (.inl h)
 have hd1:dlen b≠1:=fun h=>hok (.inr h)
 have hd0:dlen b≠0:=fun h=>hb0 (dlen_eq_zero h)
 obtain ⟨m,hm⟩:∃ m,dlen b=m+2:=⟨dlen b-2,by omega⟩
 have hle:dlen b<=dlen a:=dlen_mono (by omega)
 have hL:Sm a:=hsa
 unfold Sm at hL
 obtain ⟨n2,hn2⟩:∃ n,n=m+2:=⟨_,rfl⟩
 obtain ⟨k1,hk1⟩:∃ n,n=m+1:=⟨_,rfl⟩
 have e1:(n2:Int)-1=(k1:Int):=by omega
 have l3:k1<n2:=by omega
 have l6:n2<=1099511627778:=by omega
 have nb1:((n2:Int) == 1)=false:=by rw[beq_eq_false_iff_ne];omega
 have i1:IntKind.i64.wrap (k1:Int)=(k1:Int):=IntWalk.i64_in _ (by omega)
 have Hn2:=Lh hn2
 have Hk1:=Lh hk1
 have Hm:=Lh hm
 rw[hm,<- hn2] at hle
 clear hok hd1 hd0 hn2 hk1 hm
 go_enter Tryz.func96,Tryz.ntmps96
 go_wp2
 go_step3
 go_wp2_with fail
 refine (normal_any _ _ _ _ _ hb hsb).mono ?_
 rintro e w1 ⟨B1,lb1,cb1,rfl,hB1,hb1⟩
 have hA1:=ha.below hb1
 have hcm:0<=cmpn a b:=by unfold cmpn;rw[if_neg hlt];split<;>omega
 have hl1:n2=lb1:=by rw[hB1.len,Hn2.out];exact Hm.out.symm
 subst hl1
 clear ha hb
 go_wp2_with fail
 refine (cmp_any _ _ _ _ _ _ _ _ _ hA1 hB1.at_ hsa hsb).mono ?_
 rintro e w2 ⟨rfl,nq,rfl⟩
 have hbq:Below w1.heap.size w1 (w1.drewN nq):=⟨rfl,rfl,rfl,Nat.le_refl _,fun _ _=>rfl⟩
 have hA2:=hA1.below hbq
 have hB2:=hB1.below hbq
 have Hb2:=Lh (hb1.trans (hbq.mono hb1.size))
 clear hA1 hB1 hbq hb1
 generalize w1.drewN nq=w2 at *
 obtain ⟨bb,off,rfl,hbb,hc⟩:=hB2.digits.at_ (by omega)
 have hcell:=hc k1 l3
 obtain ⟨x,hxv⟩:∃ x,x=(digs b).getD k1 0:=⟨_,rfl⟩
 have hx:x<4294967296:=by rw[hxv];have:=(digs_wd b).getD k1;rwa [BB_eq] at this
 rw[<- hxv] at hcell
 have hbl:=len_BL hx
 have htop:0<x:=by have:=digs_top hb0;rw[Hm.out] at this;rw[hxv,Hk1.out];exact this
 have hk32:Lib.bitLen x<=32:=BL_le hbl htop (by omega)
 have hk1:1<=Lib.bitLen x:=by
  have:=hbl.lt
  rcases Nat.eq_zero_or_pos (Lib.bitLen x) with e | e
  ·rw[e] at this;omega
  ·exact e
 obtain ⟨hdV,hVB⟩:=norm_div (n:=m+1) Hm.out (by rw[hxv,Hk1.out]) hbl hk32
 have HdV:=Lh hdV
 have HVB:=Lh hVB
 have Hlt:=Lh hlt
 clear hc hxv hbl htop hdV hVB hlt
 go_wp2_with fail
 refine (Tryz.bits_LeadingZeros32 (x:Int) _ (by omega) (by omega)).mono ?_
 rintro e w1' ⟨rfl,rfl⟩
 rw[Int.toNat_natCast]
 obtain ⟨s,hs⟩:∃ s,s=32-Lib.bitLen x:=⟨_,rfl⟩
 rw[show (32:Int)-(Lib.bitLen x:Int)=(s:Int) by omega]
 rw[<- hs] at HdV HVB
 have hs31:s<=31:=by omega
 clear hs hk32 hk1 hcell hcm
 go_wp2_with fail
 refine (shl_any _ _ _ _ s _ hB2.at_ hsb (by omega)).mono ?_
 rintro e w3 ⟨C,lv,cv,rfl,hV3,hb3⟩
 have hlv:n2=lv:=by rw[hV3.len,Hn2.out];exact HdV.out.symm
 subst hlv
 obtain ⟨V,hV⟩:∃ V,V=b*2^s:=⟨_,rfl⟩
 rw[<- hV] at hV3 HdV HVB
 have HV:=Lh hV
 have hA3:=hA2.below hb3
 have Hb3:=Lh (Hb2.out.trans (hb3.mono Hb2.out.size))
 clear hV hA2 hB2 hb3 hbb
 go_wp2_with fail
 refine (normal_any _ _ _ _ _ hA3 hsa).mono ?_
 rintro e w4 ⟨D,L,c4,rfl,h4,hb4⟩
 have hL4:L=dlen a:=h4.len
 rw[<- hL4] at hle hL
 have Hb4:=Lh hb4
 have hA4:=hA3.below hb4
 have hge:=Hb4.out.size
 have HL4:=Lh hL4
 clear h4 hb4 hA3 hL4
 go_wp2_with (at_make;refine wpList_make_dig _ rfl (.tmp 54) (.tmp 54) rfl (L+1) rfl rfl (by omega) ?_)
 intro w5 hz5 hb5 hsz5
 have hA5:=hA4.below hb5
 have Hb5:=Lh (Hb4.out.trans (hb5.mono Hb4.out.size))
 clear hA4 Hb4 hb5
 go_wp2_with fail
 refine (shl_any _ _ _ _ s _ hA5 hsa (by omega)).mono ?_
 rintro e w6 ⟨F,lu,cu,rfl,hU6,hb6⟩
 have hz6:=hz5.below hb6 (by omega)
 have hul:lu<=L+1:=by
  rw[hU6.len]
  refine dlen_le_of_lt ?_
  have h1:a<BB^L:=by rw[HL4.out];exact lt_pow_dlen a
  have h2:2^s<=BB:=by
   have:2^s<=2^31:=Nat.pow_le_pow_right (by omega) hs31
   rw[BB_eq];omega
  rw[Nat.pow_succ]
  exact Nat.mul_lt_mul_of_lt_of_le h1 h2 BB_pos
 have Hb6:=Lh (Hb5.out.trans (hb6.mono Hb5.out.size))
 have hsz6:w4.heap.size<w6.heap.size:=by have:=hb6.size;omega
 clear hA5 Hb5 hb6 hz5
 go_wp2_with ((with_reducible show wpList _ _ _ (⟨some 60,_,_,_,_,_⟩ :: _) _ _);refine wpList_copy_dig rfl (.tmp 56) (.tmp 59) rfl w4.heap.size 0 (List.replicate (L+1) 0) _ _ _ _ _ _ _ rfl rfl hz6 hU6.digits (fun _=>rfl) (by simp;omega) (by omega) ?_)
 intro w7 hz7 hb7 hsz7 _
 have Hb7:=Lh (Hb6.out.trans (hb7.mono hge))
 have hl0:0<L:=by omega
 obtain ⟨lq,hlq⟩:∃ lq,L+1=lq+n2:=⟨L+1-n2,by omega⟩
 have hq1:(L:Int)+1-(n2:Int)=(lq:Int):=by omega
 have hlq1:1<=lq:=by omega
 have HU:Hid (val (dsplice (List.replicate (L+1) 0) 0 (digs (a*2^s)))=a*2^s):=by
  show _=_
  rw[dsplice_val_zero,val_digs]
 have Hzl:Hid ((dsplice (List.replicate (L+1) 0) 0 (digs (a*2^s))).length=L+1):=by
  show _=_
  rw[dsplice_length _ _ _ (by rw[List.length_replicate];have:=hU6.len;unfold dlen at this;omega),List.length_replicate]
 have Hzw:Hid (Wd (dsplice (List.replicate (L+1) 0) 0 (digs (a*2^s)))):=dsplice_wd _ (Wd.replicate _) (digs_wd _)
 generalize dsplice (List.replicate (L+1) 0) 0 (digs (a*2^s))=zs0 at hz7 HU Hzl Hzw
 have hsz7':w4.heap.size<w7.heap.size:=by omega
 clear hz6 hb7 Hb6 hU6 hsz7 hsz6 hsz5
 go_wp2_with (at_make;refine wpList_make_dig _ rfl (.tmp 64) (.tmp 64) rfl lq rfl rfl (by omega) ?_)
 intro w8 hq8 hb8 hsz8
 have hz8:=hz7.below hb8 (by omega)
 have hinv:DvInv w3 w8 w4.heap.size w7.heap.size V (a*2^s) (m+2) lq lq zs0 (List.replicate lq 0):=by
  refine ⟨hz8,by rw[Hzl.out,hlq,Hn2.out],Hzw.out,hq8,by simp,Wd.replicate _,Hb7.out.trans (hb8.mono Hb7.out.size),?_,?_⟩
  ·rw[List.drop_replicate,Nat.sub_self,HU.out];simp[val]
  ·have:=Hn2.out
   refine drop_lt HU.out (by rw[Hzl.out];omega) ?_
   have h1:a<BB^L:=by rw[HL4.out];exact lt_pow_dlen a
   have h2:=start_div (l:=L) h1 hs31 HVB.out (by omega)
   rwa [show L-(m+1)=lq by omega] at h2
 have Hge:Hid (w3.heap.size<=w4.heap.size):=hge
 have Hgq:Hid (w4.heap.size<w7.heap.size):=by show _<_;omega
 obtain ⟨gu,hgu⟩:∃ g,g=w4.heap.size:=⟨_,rfl⟩
 obtain ⟨gq,hgq⟩:∃ g,g=w7.heap.size:=⟨_,rfl⟩
 rw[<- hgu,<- hgq] at hinv Hgq
 rw[<- hgu] at Hge
 rw[<- hgu,<- hgq]
 clear hz8 hq8 hb8 hsz8 hz7 hsz7' HU Hzl Hzw Hb7 hge hgu hgq
 go_wp2
 go_step3
 go_wp2
 go_loopw [13] (fun j wr=>∃ k zs qs,k<=lq/\j=.int .i64 ((k:Int)-1)/\DvInv w3 wr gu gq V (a*2^s) (m+2) lq k zs qs) (fun j _=>(intOf j+1).toNat)
 case atStart=>exact ⟨lq,_,_,Nat.le_refl _,rfl,hinv⟩
 case round =>
  clear hinv
  obtain ⟨k,zs,qs,hk,rfl,hI⟩:=hrel
  rcases k with _ | j
  ·have hqd:=hI.q.dig hI.qw (cap:=lq) (by rw[hI.ql];exact Nat.le_refl _)
   rw[hI.ql] at hqd
   have hud:=hI.u.dig hI.uw (cap:=lq+n2) (by rw[hI.ul,Hn2.out];exact Nat.le_refl _)
   rw[hI.ul,<- Hn2.out] at hud
   have h1:=hI.sum
   have h2:=hI.lt
   rw[List.drop_zero,Nat.pow_zero,Nat.one_mul,HV.out] at h1
   rw[List.drop_zero,HV.out] at h2
   obtain ⟨h3,h4⟩:=end_div (by omega) h1 h2
   have H3:=Lh h3
   have H4:=Lh h4
   have Hb:=Lh (Hb3.out.trans (hI.below.mono Hb3.out.size))
   clear hI h1 h2 h3 h4
   go_wp2_with fail
   refine (normal_dig _ _ _ _ _ _ hqd rfl (by omega)).mono ?_
   rintro e w9 ⟨Q,lQ,cQ,rfl,hQ,hb9⟩
   rw[H3.out] at hQ
   have HQ:=Lh hQ
   have hud9:=hud.below hb9
   have Hb9:=Lh (Hb.out.trans (hb9.mono Hb.out.size))
   clear hqd hud hQ hb9
   go_wp2_with fail
   refine (shr_dig _ _ _ s _ _ _ hud9 rfl (by omega) (by omega)).mono ?_
   rintro e w10 ⟨R,lR,cR,rfl,hR,hb10⟩
   rw[H4.out] at hR
   have HR:=Lh hR
   have HQ10:=Lh (HQ.out.below hb10)
   have Hb10:=Lh (Hb9.out.trans (hb10.mono Hb9.out.size))
   clear hud9 hR hb10
   go_wp2
   (try rw[Exit.noGoto_ret])
   go_ret2
   exact ⟨_,_,_,_,_,_,rfl,HQ10.out,HR.out,Hb10.out⟩
  ·rw[show (((j+1:Nat):Int)-1)=(j:Int) by omega]
   have hj:j<lq:=by omega
   have Hhk:=Lh hk
   obtain ⟨hE1,hE2,hE3⟩:=hI.est hj HdV.out
   have HE:=Lh hE3
   have hu2:wr.cell? ⟨gu,j+(m+2),none⟩=some (.int .u32 ((zs.getD (j+m+2) 0:Nat):Int)):=hI.u.cell (i:=j+m+2) (by rw[hI.ul];omega)
   have hu1:wr.cell? ⟨gu,j+(m+1),none⟩=some (.int .u32 ((zs.getD (j+m+1) 0:Nat):Int)):=hI.u.cell (i:=j+m+1) (by rw[hI.ul];omega)
   have hu0:=hI.u.cell (i:=j+m) (by rw[hI.ul];omega)
   obtain ⟨bv,ov,rfl,hbv,hcv⟩:=hV3.digits.at_ (by omega)
   have hv1:=(hI.below.cell (p:=⟨bv,ov+(m+1),none⟩) hbv).trans (hcv (m+1) (by have:=Hn2.out;omega))
   have hv2:=(hI.below.cell (p:=⟨bv,ov+m,none⟩) hbv).trans (hcv m (by have:=Hn2.out;omega))
   have hqc:=hI.q.cell (i:=j) (by rw[hI.ql];omega)
   have hqf:=hI.q.frozen j
   have b2:=hI.uw.getD (j+m+2)
   have b1:=hI.uw.getD (j+m+1)
   have b0:=hI.uw.getD (j+m)
   have c1:=(digs_wd V).getD (m+1)
   have c2:=(digs_wd V).getD m
   rw[BB_eq] at b2 b1 b0 c1 c2
   have ne1:gq≠gu:=by have:=Hgq.out;omega
   have ne2:gq≠bv:=by have:=Hgq.out;have:=Hge.out;omega
   have HI:=Lh hI
   generalize zs.getD (j+m+2) 0=u2 at *
   generalize zs.getD (j+m+1) 0=u1 at *
   generalize zs.getD (j+m) 0=u0 at *
   generalize (digs V).getD (m+1) 0=v1 at *
   generalize (digs V).getD m 0=v2 at *
   clear hI hE3 hcv hk
   go_wp2_with fail
   obtain ⟨n3,hn3⟩:∃ n,n=n2+1:=⟨_,rfl⟩
   rw[show j+n2+1-j=n3 by omega]
   rw[<- Hk1.out] at hu1 hv1
   rw[<- Hn2.out] at hu2
   have e2:(n2:Int)-2=(m:Int):=by have:=Hn2.out;omega
   have l1:n2<n3:=by omega
   have l2:k1<n3:=by omega
   have l4:m<n3:=by have:=Hn2.out;omega
   have l5:m<n2:=by have:=Hn2.out;omega
   have i2:IntKind.i64.wrap (m:Int)=(m:Int):=IntWalk.i64_in _ (by omega)
   have Hn3:=Lh hn3
   clear hn3
   refine wp_region_last (S:=fun w'=>w'.cell? ⟨gu,j+n2,none⟩=some (.int .u32 (u2:Int))/\w'.cell? ⟨gu,j+k1,none⟩=some (.int .u32 (u1:Int))/\w'.cell? ⟨gu,j+m,none⟩=some (.int .u32 (u0:Int))/\w'.cell? ⟨bv,ov+k1,none⟩=some (.int .u32 (v1:Int))/\w'.cell? ⟨bv,ov+m,none⟩=some (.int .u32 (v2:Int))) (by kernel_rfl) (by kernel_rfl) (by (try dsimp only);go_keep) (fun hHeld=>?_)
   simp only[List.pop_toArray,List.dropLast]
   (refine tq 0 ?_;simp only[put_lit,List.set])
   (refine tq 1 ?_;simp only[put_lit,List.set])
   (refine tq 2 ?_;simp only[put_lit,List.set])
   (refine tq 3 ?_;simp only[put_lit,List.set])
   (refine tq 4 ?_;simp only[put_lit,List.set])
   (refine tq 5 ?_;simp only[put_lit,List.set])
   (refine tq 6 ?_;simp only[put_lit,List.set])
   (refine tq 7 ?_;simp only[put_lit,List.set])
   (refine tq 8 ?_;simp only[put_lit,List.set])
   (refine tq 9 ?_;simp only[put_lit,List.set])
   (refine tq 10 ?_;simp only[put_lit,List.set])
   (refine tq 11 ?_;simp only[put_lit,List.set])
   (refine tq 12 ?_;simp only[put_lit,List.set])
   (refine tq 13 ?_;simp only[put_lit,List.set])
   (refine tq 14 ?_;simp only[put_lit,List.set])
   (refine tq 15 ?_;simp only[put_lit,List.set])
   (refine tq 16 ?_;simp only[put_lit,List.set])
   (refine tq 17 ?_;simp only[put_lit,List.set])
   (refine tq 18 ?_;simp only[put_lit,List.set])
   (refine tq 19 ?_;simp only[put_lit,List.set])
   (refine tq 20 ?_;simp only[put_lit,List.set])
   (refine tq 21 ?_;simp only[put_lit,List.set])
   (refine tq 22 ?_;simp only[put_lit,List.set])
   (refine tq 23 ?_;simp only[put_lit,List.set])
   (refine tq 24 ?_;simp only[put_lit,List.set])
   (refine tq 25 ?_;simp only[put_lit,List.set])
   refine rdy 26 (fun K hK=>?_);go_simp
   refine (estimate_any _ _ _ _ _ _ b2 b1 b0 c1 c2 hE1 hE2).mono ?_
   rintro e w9 ⟨rfl,n9,rfl⟩
   refine hK.out _ _ ?_ (fun _=>?_)
   ·(try dsimp only);go_keep
   clear hHeld hK K
   rename_i hHeld
   (refine tq 27 ?_;simp only[put_lit,List.set])
   refine wpAnyH_done (by kernel_rfl) (lastQ_list rfl ?_) _
   have hn3:n3=n2+1:=Hn3.out
   subst hn3
   have hEl:=est_lt ((u2*BB+u1)*BB+u0) (v1*BB+v2)
   rw[BB_eq] at hEl
   rw[<- BB_eq] at hEl
   generalize est ((u2*BB+u1)*BB+u0) (v1*BB+v2)=E at *
   clear hHeld hu2 hu1 hu0 hv1 hv2 b2 b1 b0 c1 c2 hE1 hE2 e2 l1 l2 l4 l5 i2
   have hst:=HI.out.stored Hge.out Hgq.out (1+n9) j E
   have hvd:=hV3.digits
   have hoff:Off gu (some ⟨bv,ov,none⟩):=by intro b o h;cases h;have:=Hge.out;omega
   have hln:j+n2+1<=zs.length:=by rw[HI.out.ul];have:=Hn2.out;omega
   have hlm:zs.length<=17592186044416:=by rw[HI.out.ul];have:=Hn2.out;omega
   have hVp:0<V:=by
    have h:=HdV.out
    rcases Nat.eq_zero_or_pos V with e | e
    ·rw[e,dlen_zero] at h;omega
    ·exact e
   have Hst:=Lh hst
   have Hl:=Lh hln
   go_wp2_with fail
   refine (subtractMultiple_any gu j n2 _ _ E _ zs (digs V) _ hst.1 hln HI.out.uw (hvd.below hst.2.2) hoff (by rw[<- BB_eq];exact hEl) hlm).mono ?_
   rintro e w10 ⟨b',zs1,rfl,hb',hW,he⟩
   rw[val_digs,Hn2.out] at he
   have hq10:=hW.only.row Hst.out.2.1 ne1
   have hb10:=Hst.out.2.2.trans (hW.only.below Hge.out)
   have HW:=Lh hW
   have He:=Lh he
   have Hq10:=Lh hq10
   have Hb10:=Lh hb10
   clear hst hW he hb10 hqc hqf hln
   have h01:b'=0∨b'=1:=by omega
   rcases h01 with rfl | rfl
   ·clear hq10
    rw[show ((0:Nat) == 1)=false from rfl]
    go_wp2
    go_roundw
    case rel =>
     have hw:=HW.out
     rw[Hn2.out] at hw
     obtain ⟨h1,h2⟩:=HI.out.sub0 hj HdV.out HE.out hw He.out
     have h3:=Hq10.out
     rw[h1] at h3
     exact ⟨j,_,_,by omega,rfl,HI.out.next hj hVp hw.z hw.len hw.wd hw.take h2 h3 Hb10.out⟩
    case measure=>simp[intOf]
   ·have hE0:0<E:=by
     have hw:=HW.out
     rw[Hn2.out] at hw
     have h2:=HI.out.cut hj
     have hlt2:V<BB^(m+2):=by have:=lt_pow_dlen V;rwa [HdV.out] at this
     refine sub_pos hw (by have:=Hl.out;have:=Hn2.out;omega) (Nat.lt_of_lt_of_le h2 ?_) He.out
     rw[Nat.pow_succ]
     exact Nat.mul_le_mul_right _ (Nat.le_of_lt hlt2)
    have hqc:=hq10.cell (i:=j) (by rw[List.length_set,HI.out.ql];exact hj)
    rw[List.getD_eq_getElem?_getD,List.getElem?_set_self (by rw[HI.out.ql];exact hj)] at hqc
    simp only[Option.getD_some] at hqc
    have hqf:=hq10.frozen j
    rw[show ((1:Nat) == 1)=true from rfl]
    have Hu10:=Lh (HW.out.z.far (p:=⟨gq,j,none⟩) (by show gu≠gq;omega) (.int .u32 ((E-1:Nat):Int)))
    have hs10:=hq10.set_ j (E-1)
    rw[List.set_set] at hs10
    have Hs10:=Lh hs10
    have Hb11:=Lh (Hb10.out.setCell (p:=⟨gq,j,none⟩) (by show w3.heap.size<=gq;have:=Hge.out;have:=Hgq.out;omega) (.int .u32 ((E-1:Nat):Int)))
    clear hs10 hq10
    go_wp2_with fail
    rw[show ((E:Int)-1) % 4294967296=((E-1:Nat):Int) by rw[BB_eq] at hEl;omega]
    refine (addBack_any gu j n2 _ _ _ zs1 (digs V) _ Hu10.out (by rw[HW.out.len];exact Hl.out) HW.out.wd (hvd.below Hb11.out) hoff (by rw[HW.out.len];exact hlm)).mono ?_
    rintro e w12 ⟨rfl,c,zs2,hc,hW2,he2⟩
    rw[val_digs,Hn2.out] at he2
    have HW2:=Lh hW2
    have He2:=Lh he2
    clear hqc hqf hW2 he2
    go_wp2
    go_roundw
    case rel =>
     have hw:=HW.out
     have hw2:=HW2.out
     rw[Hn2.out] at hw hw2
     obtain ⟨h1,h2,h3,h4⟩:=HI.out.sub1 hj HdV.out HE.out hw He.out hw2 hc He2.out
     have h5:=hw2.only.row Hs10.out ne1
     rw[show E-1=val (zs.drop j) / V by omega] at h5
     exact ⟨j,_,_,by omega,rfl,HI.out.next hj hVp hw2.z h4 hw2.wd h3 h2 h5 (Hb11.out.trans (hw2.only.below Hge.out))⟩
    case measure=>simp[intOf]
end Go.Proofs.YtpeiiomjnjemjaaGreat
namespace Go.Proofs.YtpeiiomjnjemjaaGreat
open Go.RowKit
set_option maxHeartbeats 2000000 in
theorem quo_all (na:Bool) (A:Option Addr) (la ca:Nat) (a:Int) (nb:Bool) (B:Option Addr) (lb cb:Nat) (b:Int) (w:World) (ha:IntAt w na A la ca a) (hb:IntAt w nb B lb cb b) (hsa:SmI a) (hsb:SmI b) (hb0:b≠0) :
  Calls Tryz.prog 81 #[.agg #[.bool na,.slice A la ca],.agg #[.bool nb,.slice B lb cb]] w fun e w'=>∃ n1 A1 l1 c1 n2 A2 l2 c2,e=.returned (.tuple #[.agg #[.bool n1,.slice A1 l1 c1],.agg #[.bool n2,.slice A2 l2 c2],.int .i64 0])/\IntN w' n1 A1 l1 c1 (a.tdiv b)/\IntN w' n2 A2 l2 c2 (a.tmod b)/\Below w.heap.size w w':=by
 have hbx:Below w.heap.size w ((((w.alloc (ibox na A la ca)).alloc (ibox nb B lb cb)).alloc (ibox false none 0 0)).alloc (ibox false none 0 0)):=below_four w _ _ _ _ (Nat.le_refl _)
 have hA0:=ha.nat.below hbx
 have hB0:=hb.below hbx
 have hq:=Lh (sgn_tdiv na nb ha.sign hb.sign)
 have hr:=Lh (sgn_tmod (b:=b) na ha.sign)
 have Hbx:=Lh hbx
 clear ha hb hbx
 go_enter Tryz.func81,Tryz.ntmps81
 go_wp2_with fail
 refine (dzero_any _ _ _ _ _ _ hB0 hsb).mono ?_
 rintro e w1 ⟨rfl,hb1⟩
 obtain ⟨hc,hf⟩:=bcell hb1
 have hsz:=hb1.size
 simp only[World.size_alloc] at hsz
 have hA1:=hA0.below hb1
 have hB1:=hB0.nat.below hb1
 have Hb1:=Lh (Hbx.out.trans (hb1.mono Hbx.out.size))
 rw[show decide (b=0)=false from decide_eq_false hb0]
 clear hA0 hB0 hb1
 go_wp2_with fail
 refine (divide_all _ _ _ _ _ _ _ _ _ hA1 hB1 hsa hsb (by omega)).mono ?_
 rintro e w2 ⟨A1,l1,c1,A2,l2,c2,rfl,h1,h2,hb2⟩
 have hfc:∀ b o,b<w.heap.size+4->w2.cell? ⟨b,o,none⟩=((((w.alloc (ibox na A la ca)).alloc (ibox nb B lb cb)).alloc (ibox false none 0 0)).alloc (ibox false none 0 0)).cell? ⟨b,o,none⟩:=by
  intro b o hlt
  rw[(bcell hb2).1 b o (by omega),hc b o (by simp;omega)]
 have hff:∀ b o,b<w.heap.size+4->w2.frozen? ⟨b,o,none⟩=((((w.alloc (ibox na A la ca)).alloc (ibox nb B lb cb)).alloc (ibox false none 0 0)).alloc (ibox false none 0 0)).frozen? ⟨b,o,none⟩:=by
  intro b o hlt
  rw[(bcell hb2).2 b o (by omega),hf b o (by simp;omega)]
 clear hc hf
 have hsz2:=hb2.size
 have Hb2:=Lh (Hb1.out.trans (hb2.mono Hb1.out.size))
 have hq1:Sm (a.natAbs / b.natAbs):=hsa.mono (Nat.div_le_self _ _)
 have hr1:Sm (a.natAbs % b.natAbs):=hsa.mono (Nat.mod_le _ _)
 clear hA1 hB1 hb2
 have h1d:=h1.at_.below (Below.refl _ _).drew
 have h2d:=h2.at_.below (Below.refl _ _).drew
 clear h1 h2
 have Hfc:=Lh hfc
 have Hff:=Lh hff
 have d0:w2.cell? ⟨w.heap.size,0,none⟩=some (.bool na):=by rw[hfc _ _ (by omega)];go_simp
 have d1:w2.cell? ⟨w.heap.size+1,0,none⟩=some (.bool nb):=by rw[hfc _ _ (by omega)];go_simp
 have d20:w2.cell? ⟨w.heap.size+2,0,none⟩=some (.bool false):=by rw[hfc _ _ (by omega)];go_simp
 have f20:w2.frozen? ⟨w.heap.size+2,0,none⟩=false:=by rw[hff _ _ (by omega)];go_simp
 have d21:w2.cell? ⟨w.heap.size+2,1,none⟩=some (.slice none 0 0):=by rw[hfc _ _ (by omega)];go_simp
 have f21:w2.frozen? ⟨w.heap.size+2,1,none⟩=false:=by rw[hff _ _ (by omega)];go_simp
 have d30:w2.cell? ⟨w.heap.size+3,0,none⟩=some (.bool false):=by rw[hfc _ _ (by omega)];go_simp
 have f30:w2.frozen? ⟨w.heap.size+3,0,none⟩=false:=by rw[hff _ _ (by omega)];go_simp
 have d31:w2.cell? ⟨w.heap.size+3,1,none⟩=some (.slice none 0 0):=by rw[hfc _ _ (by omega)];go_simp
 have f31:w2.frozen? ⟨w.heap.size+3,1,none⟩=false:=by rw[hff _ _ (by omega)];go_simp
 have k2:w.heap.size+2<w2.heap.size:=by omega
 have k3:w.heap.size+3<w2.heap.size:=by omega
 have k0:w.heap.size<w2.heap.size:=by omega
 have k1:w.heap.size+1<w2.heap.size:=by omega
 clear hfc hff
 go_wp2_with fail
 go_region_held3 (fun w'=>w'.cell? ⟨w.heap.size,0,none⟩=some (.bool na)/\w'.cell? ⟨w.heap.size+1,0,none⟩=some (.bool nb)) (first | exact ⟨s0,s1⟩ | exact ⟨r0,r1⟩ | (refine ⟨?_,?_⟩<;>go_simp)) (first
   | (go_at_call_of 79 (Value.slice A1 l1 c1);go_must (refine (from_any _ _ _ _ _ _ h1d hq1).mono ?_;rintro e w3 ⟨n3,A3,l3,c3,rfl,h3,hb3⟩;obtain ⟨hc3,hf3⟩:=bcell hb3;have hsz3:=hb3.size;simp only[World.size_drew] at hsz3;have h2e:=h2d.below hb3;have r0:w3.cell? ⟨w.heap.size,0,none⟩=some (.bool na):=(hc3 _ _ (by simpa using k0)).trans d0;have r1:w3.cell? ⟨w.heap.size+1,0,none⟩=some (.bool nb):=(hc3 _ _ (by simpa using k1)).trans d1))
   | (go_at_call_of 79 (Value.slice A2 l2 c2);go_must (refine (from_any _ _ _ _ _ _ h2e hr1).mono ?_;rintro e w4 ⟨n4,A4,l4,c4,rfl,h4,hb4⟩;have h3e:=h3.below hb4;have hc4:=(bcell (hb3.trans (hb4.mono hb3.size))).1;have hf4:=(bcell (hb3.trans (hb4.mono hb3.size))).2;have hsz4:=hb4.size;have s0:w4.cell? ⟨w.heap.size,0,none⟩=some (.bool na):=(hc4 _ _ (by simpa using k0)).trans d0;have s1:w4.cell? ⟨w.heap.size+1,0,none⟩=some (.bool nb):=(hc4 _ _ (by simpa using k1)).trans d1;have s20:w4.cell? ⟨w.heap.size+2,0,none⟩=some (.bool false):=(hc4 _ _ (by simpa using k2)).trans d20;have t20:w4.frozen? ⟨w.heap.size+2,0,none⟩=false:=(hf4 _ _ (by simpa using k2)).trans f20;have s21:w4.cell? ⟨w.heap.size+2,1,none⟩=some (.slice none 0 0):=(hc4 _ _ (by simpa using k2)).trans d21;have t21:w4.frozen? ⟨w.heap.size+2,1,none⟩=false:=(hf4 _ _ (by simpa using k2)).trans f21;have s30:w4.cell? ⟨w.heap.size+3,0,none⟩=some (.bool false):=(hc4 _ _ (by simpa using k3)).trans d30;have t30:w4.frozen? ⟨w.heap.size+3,0,none⟩=false:=(hf4 _ _ (by simpa using k3)).trans f30;have s31:w4.cell? ⟨w.heap.size+3,1,none⟩=some (.slice none 0 0):=(hc4 _ _ (by simpa using k3)).trans d31;have t31:w4.frozen? ⟨w.heap.size+3,1,none⟩=false:=(hf4 _ _ (by simpa using k3)).trans f31)))
 have H3:Hid (IntN w4 n3 A3 l3 c3 (a.tdiv b)):=by rw[<- hq.out];exact h3e
 have H4:Hid (IntN w4 n4 A4 l4 c4 (a.tmod b)):=by rw[<- hr.out];exact h4
 have Hb4:Hid (Below w.heap.size w w4):=Hb2.out.trans (((Below.refl _ _).drew.trans (hb3.trans (hb4.mono hb3.size))).mono Hb2.out.size)
 clear h3e h4 hb3 hb4 h3 h1d h2d h2e hq1 hr1 hc3 hf3 hc4 hf4 r0 r1 d0 d1 d20 d21 d30 d31 f20 f21 f30 f31 s0 s1
 go_wp2
 refine bodyPost_ret (v:=.tuple #[.agg #[.bool n3,.slice A3 l3 c3],.agg #[.bool n4,.slice A4 l4 c4],.int .i64 0]) (by simp[results,Tryz.results81,go_sem,s20,s21,s30,s31]) rfl ⟨_,_,_,_,_,_,_,_,rfl,H3.out.rets (by omega) _ _ _ _ s20 s21 s30 s31,H4.out.rets (by omega) _ _ _ _ s20 s21 s30 s31,?_⟩
 exact (((Hb4.out.setCell (by simp;omega) _).setCell (by simp;omega) _).setCell (by simp;omega) _).setCell (by simp;omega) _
end Go.Proofs.YtpeiiomjnjemjaaGreat
