/- The walks of package natural, sixth part: product (Karatsuba's method), Mul. -/
import Derived.Test.YtpeiiomjnjemjaaGreatNatS
import Derived.Deep.RegionWith
import Derived.Deep.RegionHeld3
import Derived.Deep.LoopGhost
import Derived.Test.YtpeiiomjnjemjaaGreatPop
namespace Go.Proofs.YtpeiiomjnjemjaaGreat
open Go.RowKit
def PAt (w:World) (g n v:Nat):Prop:=∃ zs,DRow w g zs/\zs.length=n/\Wd zs/\val zs=v
theorem PAt.below {w w':World} {g n v:Nat} (h:PAt w g n v) (hb:Below w.heap.size w w'):PAt w' g n v:=by
 obtain ⟨zs,h1,h2,h3,h4⟩:=h
 exact ⟨zs,h1.below hb h1.lt,h2,h3,h4⟩
theorem PAt.drew {w:World} {g n v:Nat} (h:PAt w g n v):PAt w.drew g n v:=h.below (Below.refl _ w).drew
theorem PAt.dig {w:World} {g n v:Nat} (h:PAt w g n v) {cap:Nat} (hc:n<=cap):∃ zs,DigAt w (some ⟨g,0,none⟩) n cap zs/\val zs=v:=by
 obtain ⟨zs,h1,h2,h3,h4⟩:=h
 have:=h1.dig h3 (cap:=cap) (by omega)
 rw[h2] at this
 exact ⟨zs,this,h4⟩
theorem PAt.lt {w:World} {g n v:Nat} (h:PAt w g n v):g<w.heap.size:=by
 obtain ⟨zs,h1,_⟩:=h
 exact h1.lt
theorem kara_mid (a b c d:Nat):(a+b)*(c+d)-(a*c+b*d)=a*d+b*c:=by
 rw[Nat.add_mul,Nat.mul_add,Nat.mul_add];omega
theorem kara_small {B lx ly h a b c d:Nat} (hB:2<=B) (ha:a<B^h) (hb:b<B^(lx-h)) (hc:c<B^h) (hd:d<B^(ly-h)) (h1:h<ly) (h2:h<lx) (hyx:ly<=lx):a*d+b*c<B^(lx+ly-h):=by
 have e1:a*d<B^h*B^(ly-h):=Nat.mul_lt_mul'' ha hd
 have e2:b*c<B^(lx-h)*B^h:=Nat.mul_lt_mul'' hb hc
 rw[<- Nat.pow_add] at e1 e2
 have e3:B^(h+(ly-h))<=B^lx:=Nat.pow_le_pow_right (by omega) (by omega)
 have e4:B^(lx-h+h)<=B^lx:=Nat.pow_le_pow_right (by omega) (by omega)
 have e5:B^(lx+1)<=B^(lx+ly-h):=Nat.pow_le_pow_right (by omega) (by omega)
 have e6:B^lx*2<=B^(lx+1):=by rw[Nat.pow_succ];exact Nat.mul_le_mul_left _ hB
 omega
theorem kara_arith (P a b c d:Nat):(a+P*b)*(c+P*d)=a*c+P*((a+b)*(c+d)-(a*c+b*d))+P*P*(b*d):=by
 have h1:(a+b)*(c+d)-(a*c+b*d)=a*d+b*c:=by
  rw[Nat.add_mul,Nat.mul_add,Nat.mul_add];omega
 rw[h1]
 simp only[Nat.add_mul,Nat.mul_add]
 have e1:P*b*c=P*(b*c):=Nat.mul_assoc _ _ _
 have e2:a*(P*d)=P*(a*d):=by rw[<- Nat.mul_assoc,Nat.mul_comm a P,Nat.mul_assoc]
 have e3:P*b*(P*d)=P*P*(b*d):=by rw[Nat.mul_assoc,Nat.mul_assoc,<- Nat.mul_assoc b P d,Nat.mul_comm b P,Nat.mul_assoc]
 omega
set_option maxRecDepth 100000 in
set_option maxHeartbeats 4000000 in
theorem product_s (A B:Option Addr) (la ca lb cb:Nat) (da db:List Nat) (w:World)  (ha:DigAt w A la ca da) (hb:DigAt w B lb cb db) (hm:la+lb<=2199023255552) (hc:la<48∨lb<48) :
  Calls Tryz.prog 65 #[.slice A la ca,.slice B lb cb] w (ProdPost w (la+lb) (val da*val db)):=by
 go_enter Tryz.func65,Tryz.ntmps65
 go_upto_if 14 with (fail)
 go_cut [0,1] (fun s0 s1 wx=>∃ X lx cx dx Y ly cy dy,s0=.slice X lx cx/\s1=.slice Y ly cy/\DigAt w X lx cx dx/\DigAt w Y ly cy dy/\ly<=lx/\Hid (val dx*val dy=val da*val db)/\Hid (lx+ly=la+lb)/\(ly<48)/\w=wx)
 case first =>
  by_cases hlt:la<lb
  ·go_wp2_with (fail)
   go_meet
   exact ⟨_,_,_,_,_,_,_,_,rfl,rfl,hb,ha,by omega,Nat.mul_comm _ _,Nat.add_comm _ _,by omega,rfl⟩
  ·go_wp2_with (fail)
   go_meet
   exact ⟨_,_,_,_,_,_,_,_,rfl,rfl,ha,hb,by omega,rfl,rfl,by omega,rfl⟩
 case rest =>
  obtain ⟨X,lx,cx,dx,Y,ly,cy,dy,rfl,rfl,hx,hy,hyx,hxy,hlen,hcase,rfl⟩:=hcut
  clear ha hb
  have hm2:lx+ly<=2199023255552:=by have:=hlen.out;omega
  clear hm
  go_wp2_with (go_at_call 84;refine (schoolbook_any _ _ _ _ _ _ _ _ _ hy hx (by omega)).mono ?_;rintro e w1 ⟨g,zs,rfl,h1,h2,h3,h4,h5,h6⟩)
  go_ret
  refine ⟨g,zs,?_,h1,?_,h3,?_,h5,h6⟩
  ·have:=hlen.out
   rw[show ly+lx=la+lb by omega];rfl
  ·have:=hlen.out;omega
  ·rw[h4,Nat.mul_comm,hxy.out]
set_option maxRecDepth 100000 in
set_option maxHeartbeats 4000000 in
theorem product_z (A B:Option Addr) (la ca lb cb:Nat) (da db:List Nat) (w:World)  (ha:DigAt w A la ca da) (hb:DigAt w B lb cb db) (hm:la+lb<=2199023255552) (hc:48<=la/\48<=lb) (hv:val da=0∨val db=0) :
  Calls Tryz.prog 65 #[.slice A la ca,.slice B lb cb] w (ProdPost w (la+lb) (val da*val db)):=by
 go_enter Tryz.func65,Tryz.ntmps65
 go_upto_if 14 with (fail)
 go_cut [0,1] (fun s0 s1 wx=>∃ X lx cx dx Y ly cy dy,s0=.slice X lx cx/\s1=.slice Y ly cy/\DigAt w X lx cx dx/\DigAt w Y ly cy dy/\ly<=lx/\Hid (val dx*val dy=val da*val db)/\Hid (lx+ly=la+lb)/\(48<=ly/\(val dx=0∨val dy=0))/\w=wx)
 case first =>
  by_cases hlt:la<lb
  ·go_wp2_with (fail)
   go_meet
   exact ⟨_,_,_,_,_,_,_,_,rfl,rfl,hb,ha,by omega,Nat.mul_comm _ _,Nat.add_comm _ _,by omega,rfl⟩
  ·go_wp2_with (fail)
   go_meet
   exact ⟨_,_,_,_,_,_,_,_,rfl,rfl,ha,hb,by omega,rfl,rfl,by omega,rfl⟩
 case rest =>
  obtain ⟨X,lx,cx,dx,Y,ly,cy,dy,rfl,rfl,hx,hy,hyx,hxy,hlen,hcase,rfl⟩:=hcut
  clear ha hb
  have hm2:lx+ly<=2199023255552:=by have:=hlen.out;omega
  clear hm
  obtain ⟨h48,h0⟩:=hcase
  have h48:¬ ly<48:=by omega
  go_wp2_with (at_make;refine wpList_make_dig _ rfl (.tmp 27) (.tmp 27) rfl (lx+ly) rfl rfl (by omega) ?_)
  intro w1 hz hb1 hsz
  have hx1:=hx.below hb1
  have hy1:=hy.below hb1
  have Hx:=Lh hx
  have Hy:=Lh hy
  have Hb1:=Lh hb1
  have Hsz:=Lh hsz
  have Hz:=Lh hz
  clear hx hy hb1 hsz hz
  have hzero:Hid (val da*val db=0):=by
   show _=_
   rw[<- hxy.out]
   rcases h0 with h0 | h0<;>rw[h0]<;>simp
  have hd:decide (val dx=0)=true∨(decide (val dx=0)=false/\decide (val dy=0)=true):=by
   by_cases h1:val dx=0
   ·left;simpa using h1
   ·right;exact ⟨by simpa using h1,by simpa using h0.resolve_left h1⟩
  clear h0
  have Hfin:Hid (ProdPost w (la+lb) (val da*val db) (.returned (.slice (some ⟨w.heap.size,0,none⟩) (lx+ly) (lx+ly))) w1):=by
   refine ⟨w.heap.size,List.replicate (lx+ly) 0,by rw[hlen.out],Hz.out,by rw[List.length_replicate,hlen.out],Wd.replicate _,by rw[hzero.out,val_replicate],Nat.le_refl _,Hb1.out⟩
  rcases hd with hd | ⟨hd,hd2⟩
  ·go_wp2_with (first | (go_at_call 59;refine (isZero_dig _ _ _ _ _ _ hx1 rfl (by omega)).mono ?_;rintro e w2 ⟨rfl,rfl⟩))
   go_ret
   exact Hfin.out
  ·go_wp2_with fail
   refine (isZero_dig _ _ _ _ _ _ hx1 rfl (by omega)).mono ?_
   rintro e w2 ⟨rfl,rfl⟩
   go_wp2_with fail
   refine (isZero_dig _ _ _ _ _ _ hy1 rfl (by omega)).mono ?_
   rintro e w2 ⟨rfl,rfl⟩
   go_wp2
   go_ret
   exact Hfin.out
set_option maxRecDepth 100000 in
set_option maxHeartbeats 4000000 in
theorem product_h (A B:Option Addr) (la ca lb cb:Nat) (da db:List Nat) (w:World) {N:Nat} (ih:∀ (A B:Option Addr) (la ca lb cb:Nat) (da db:List Nat) (w:World),la+lb<=N->DigAt w A la ca da->DigAt w B lb cb db->la+lb<=2199023255552->Calls Tryz.prog 65 #[.slice A la ca,.slice B lb cb] w (ProdPost w (la+lb) (val da*val db))) (hN:la+lb<=N+1) (ha:DigAt w A la ca da) (hb:DigAt w B lb cb db) (hm:la+lb<=2199023255552) (hc:48<=la/\48<=lb) (hv:¬ (val da=0∨val db=0)) (hh:min la lb<=(max la lb+1) / 2) :
  Calls Tryz.prog 65 #[.slice A la ca,.slice B lb cb] w (ProdPost w (la+lb) (val da*val db)):=by
 have HN:=Lh hN
 have IH:=Lh ih
 clear hN ih
 go_enter Tryz.func65,Tryz.ntmps65
 go_upto_if 14 with (fail)
 go_cut [0,1] (fun s0 s1 wx=>∃ X lx cx dx Y ly cy dy,s0=.slice X lx cx/\s1=.slice Y ly cy/\DigAt w X lx cx dx/\DigAt w Y ly cy dy/\ly<=lx/\Hid (val dx*val dy=val da*val db)/\Hid (lx+ly=la+lb)/\(48<=ly/\(¬ (val dx=0∨val dy=0))/\ly<=(lx+1) / 2)/\w=wx)
 case first =>
  by_cases hlt:la<lb
  ·go_wp2_with (fail)
   go_meet
   exact ⟨_,_,_,_,_,_,_,_,rfl,rfl,hb,ha,by omega,Nat.mul_comm _ _,Nat.add_comm _ _,by omega,rfl⟩
  ·go_wp2_with (fail)
   go_meet
   exact ⟨_,_,_,_,_,_,_,_,rfl,rfl,ha,hb,by omega,rfl,rfl,by omega,rfl⟩
 case rest =>
  obtain ⟨X,lx,cx,dx,Y,ly,cy,dy,rfl,rfl,hx,hy,hyx,hxy,hlen,hcase,rfl⟩:=hcut
  clear ha hb
  have hm2:lx+ly<=2199023255552:=by have:=hlen.out;omega
  clear hm
  obtain ⟨h48,h0,hly0⟩:=hcase
  have h48:¬ ly<48:=by omega
  go_wp2_with (at_make;refine wpList_make_dig _ rfl (.tmp 27) (.tmp 27) rfl (lx+ly) rfl rfl (by omega) ?_)
  intro w1 hz hb1 hsz
  have hx1:=hx.below hb1
  have hy1:=hy.below hb1
  have Hx:=Lh hx
  have Hy:=Lh hy
  have Hb1:=Lh hb1
  have Hsz:=Lh hsz
  have Hz:=Lh hz
  clear hx hy hb1 hsz hz
  have hd:decide (val dx=0)=false:=by simp;omega
  have hd2:decide (val dy=0)=false:=by simp;omega
  clear h0
  obtain ⟨hf,hh⟩:∃ hf:Nat,(lx+1) / 2=hf:=⟨_,rfl⟩
  have hh1:hf<lx:=by omega
  have hh3:2*hf<=lx+1:=by omega
  have hh4:lx<=2*hf:=by omega
  have hh2:((lx:Int)+1) / 2=(hf:Int):=by omega
  have hcx:lx<=cx:=hx1.cap
  have hcy:ly<=cy:=hy1.cap
  clear hh
  go_wp2_with fail
  refine (isZero_dig _ _ _ _ _ _ hx1 rfl (by omega)).mono ?_
  rintro e w2 ⟨rfl,rfl⟩
  go_wp2_with fail
  refine (isZero_dig _ _ _ _ _ _ hy1 rfl (by omega)).mono ?_
  rintro e w2 ⟨rfl,rfl⟩
  clear hd
  have Hval:Hid (val dx*val dy=val (dx.take hf)*val dy+BB^hf*(val (dx.drop hf)*val dy)):=by
   show _=_
   rw[val_split dx (k:=hf) (by rw[Hx.out.length];omega),Nat.add_mul,Nat.mul_assoc]
  have i0:(0:Int)<=(hf:Int):=by omega
  have i1:(hf:Int)<=(lx:Int):=by omega
  have i2:(hf:Int)<=(cx:Int):=by omega
  have i3:(hf:Int)<=(lx:Int)+(ly:Int):=by omega
  have i4:((hf:Nat):Int)<=((lx+ly:Nat):Int):=by omega
  have hly:ly<=hf:=by omega
  have hne:¬ cx=hf:=by omega
  have hne3:¬ lx+ly=hf:=by omega
  go_wp2_with fail
  clear hd2
  refine (IH.out _ _ _ _ _ _ _ _ _ (by have:=HN.out;have:=hlen.out;omega) (hx1.take (by omega)) hy1 (by omega)).mono ?_
  rintro e w2 ⟨g1,p1,rfl,hp1,hp2,hp3,hp4,hp5,hp6⟩
  have hz2:=Hz.out.below hp6 (by have:=Hsz.out;omega)
  have hP:=hp1.dig hp3 (cap:=hf+ly) (by omega)
  rw[hp2] at hP
  have Hp2:=Lh hp2
  have Hp4:=Lh hp4
  have Hp6:=Lh hp6
  clear hp1 hp2 hp4 hp5 hp6
  go_wp2_with ((with_reducible show wpList _ _ _ (⟨some 50,_,_,_,_,_⟩ :: _) _ _);refine wpList_copy_dig rfl (.tmp 44) (.tmp 49) rfl w.heap.size 0 (List.replicate (lx+ly) 0) _ _ _ _ _ _ _ rfl rfl hz2 hP (fun _=>rfl) (by simp;omega) (by omega) ?_)
  intro w3 hz3 hb3 hs3 hk3
  have Hb3:Hid (Below w.heap.size w w3):=Hb1.out.trans ((Hp6.out.mono Hb1.out.size).trans hb3)
  have hx3:DigAt w3 X lx cx dx:=Hx.out.below Hb3.out
  have hy3:DigAt w3 Y ly cy dy:=Hy.out.below Hb3.out
  have hpv:Hid (val (dsplice (List.replicate (lx+ly) 0) 0 p1)=val (dx.take hf)*val dy):=by
   show _=_
   rw[dsplice_val_zero,Hp4.out]
  have hpl:Hid ((dsplice (List.replicate (lx+ly) 0) 0 p1).length=lx+ly):=by
   show _=_
   rw[dsplice_length _ _ _ (by simp[Hp2.out];omega),List.length_replicate]
  have hpw:Wd (dsplice (List.replicate (lx+ly) 0) 0 p1):=dsplice_wd _ (Wd.replicate _) hp3
  generalize dsplice (List.replicate (lx+ly) 0) 0 p1=zc at *
  have Hz3:=Lh hz3
  have Hlt3:Hid (w.heap.size<w3.heap.size):=by have h1:=Hz3.out.lt;exact h1
  clear hz3 hb3 hs3 hk3 hP hz2
  go_wp2_with fail
  have hx4:=(hx3.drop' (k:=hf) (by omega)).drew
  have hy4:=hy3.drew
  have Hhy:Hid (hf+(lx+ly-hf)=lx+ly):=by show _=_;omega
  have Hroom:Hid (val zc+BB^hf*(val (dx.drop hf)*val dy)<BB^(lx+ly)):=by
   show _<_
   rw[hpv.out,<- Hval.out,Nat.pow_add]
   have h1:=val_lt Hx.out.wd
   have h2:=val_lt Hy.out.wd
   rw[Hx.out.length] at h1
   rw[Hy.out.length] at h2
   exact Nat.mul_lt_mul'' h1 h2
  refine wp_region_held_drew (S:=fun _=>True) (by kernel_rfl) trivial (fun hHeld=>?_)
  (refine tq 0 ?_;simp only[put_lit,List.set])
  (refine tq 1 ?_;simp only[put_lit,List.set])
  (refine tq 2 ?_;simp only[put_lit,List.set])
  (refine tq 3 ?_;simp only[put_lit,List.set])
  (refine tq 4 ?_;simp only[put_lit,List.set])
  (refine tq 5 ?_;simp only[put_lit,List.set])
  (refine tq 6 ?_;simp only[put_lit,List.set])
  refine rdy 7 (fun K hK=>?_);go_simp
  refine (IH.out _ _ _ _ _ _ _ _ _ (by have:=HN.out;have:=hlen.out;omega) hx4 hy4 (by omega)).mono ?_
  rintro e w4 ⟨g2,p2,rfl,hq1,hq2,hq3,hq4,hq5,hq6⟩
  have hqd:=hq1.dig hq3 (cap:=lx-hf+ly) (by omega)
  rw[hq2] at hqd
  have hq7:Below w3.heap.size w3 w4:=((Below.refl w3.heap.size w3).drew).trans hq6
  have hzq:=Hz3.out.below hq7 Hlt3.out
  refine hK.out _ _ trivial (fun _=>?_)
  clear hHeld hK K
  rename_i hHeld
  refine rdy 8 (fun K hK=>?_);go_simp
  refine (trim_dig _ _ _ _ _ _ hqd hq4 (by omega)).mono ?_
  rintro e w5 ⟨l5,rfl,h5,rfl⟩
  have hl5:l5<=lx+ly-hf:=(by have h1:=dlen_val_le hq3;have h2:=h5.len;rw[hq4,hq2] at h1;omega)
  refine hK.out _ _ trivial (fun _=>?_)
  clear hHeld hK K
  rename_i hHeld
  refine rdy 9 (fun K hK=>?_);go_simp
  refine (addInto_any _ _ _ _ _ _ _ _ _ _ hzq (by have:=Hhy.out;have:=hpl.out;omega) hpw h5.digits (Off.of_lt (by have:=Hlt3.out;have h8:w3.heap.size<=g2:=hq5;omega)) hl5 (by rw[val_digs,Hhy.out];exact Hroom.out) (by omega)).mono ?_
  rintro e w5 ⟨rfl,z5,hz5,hz51,hz52,hz53,hz54⟩
  refine hK.out _ _ trivial (fun _=>?_)
  clear hHeld hK K
  refine wpAnyH_done (by kernel_rfl) ?_ _
  all_goals
   have Hfin:Hid (ProdPost w (la+lb) (val da*val db) (.returned (.slice (some ⟨w.heap.size,0,none⟩) (lx+ly) (lx+ly))) w5):=by
    refine ⟨_,z5,by rw[hlen.out],hz5,by rw[hz51];have:=Hhy.out;have:=hlen.out;omega,hz52,?_,Nat.le_refl _,Hb3.out.trans ((hq7.mono (by have:=Hlt3.out;omega)).trans (hz54.below (Nat.le_refl _)))⟩
    rw[hz53,val_digs,hpv.out,<- Hval.out,hxy.out]
   clear hz5 hz51 hz52 hz53 hz54 hq1 hq2 hq3 hq4 hq5 hq6 hqd h5 hl5 hzq hq7
   go_wp2
   go_ret
   exact Hfin.out
set_option maxRecDepth 100000 in
set_option maxHeartbeats 4000000 in
theorem product_k (A B:Option Addr) (la ca lb cb:Nat) (da db:List Nat) (w:World) {N:Nat} (ih:∀ (A B:Option Addr) (la ca lb cb:Nat) (da db:List Nat) (w:World),la+lb<=N->DigAt w A la ca da->DigAt w B lb cb db->la+lb<=2199023255552->Calls Tryz.prog 65 #[.slice A la ca,.slice B lb cb] w (ProdPost w (la+lb) (val da*val db))) (hN:la+lb<=N+1) (ha:DigAt w A la ca da) (hb:DigAt w B lb cb db) (hm:la+lb<=2199023255552) (hc:48<=la/\48<=lb) (hv:¬ (val da=0∨val db=0)) (hh:¬ min la lb<=(max la lb+1) / 2) :
  Calls Tryz.prog 65 #[.slice A la ca,.slice B lb cb] w (ProdPost w (la+lb) (val da*val db)):=by
 have HN:=Lh hN
 have IH:=Lh ih
 clear hN ih
 go_enter Tryz.func65,Tryz.ntmps65
 go_upto_if 14 with (fail)
 go_cut [0,1] (fun s0 s1 wx=>∃ X lx cx dx Y ly cy dy,s0=.slice X lx cx/\s1=.slice Y ly cy/\DigAt w X lx cx dx/\DigAt w Y ly cy dy/\ly<=lx/\Hid (val dx*val dy=val da*val db)/\Hid (lx+ly=la+lb)/\(48<=ly/\(¬ (val dx=0∨val dy=0))/\¬ ly<=(lx+1) / 2)/\w=wx)
 case first =>
  by_cases hlt:la<lb
  ·go_wp2_with (fail)
   go_meet
   exact ⟨_,_,_,_,_,_,_,_,rfl,rfl,hb,ha,by omega,Nat.mul_comm _ _,Nat.add_comm _ _,by omega,rfl⟩
  ·go_wp2_with (fail)
   go_meet
   exact ⟨_,_,_,_,_,_,_,_,rfl,rfl,ha,hb,by omega,rfl,rfl,by omega,rfl⟩
 case rest =>
  obtain ⟨X,lx,cx,dx,Y,ly,cy,dy,rfl,rfl,hx,hy,hyx,hxy,hlen,hcase,rfl⟩:=hcut
  clear ha hb
  have hm2:lx+ly<=2199023255552:=by have:=hlen.out;omega
  clear hm
  obtain ⟨h48,h0,hly0⟩:=hcase
  have h48:¬ ly<48:=by omega
  go_wp2_with (at_make;refine wpList_make_dig _ rfl (.tmp 27) (.tmp 27) rfl (lx+ly) rfl rfl (by omega) ?_)
  intro w1 hz hb1 hsz
  have hx1:=hx.below hb1
  have hy1:=hy.below hb1
  have Hx:=Lh hx
  have Hy:=Lh hy
  have Hb1:=Lh hb1
  have Hsz:=Lh hsz
  have Hz:=Lh hz
  clear hx hy hb1 hsz hz
  have hd:decide (val dx=0)=false:=by simp;omega
  have hd2:decide (val dy=0)=false:=by simp;omega
  clear h0
  obtain ⟨hf,hh⟩:∃ hf:Nat,(lx+1) / 2=hf:=⟨_,rfl⟩
  have hh1:hf<lx:=by omega
  have hh3:2*hf<=lx+1:=by omega
  have hh4:lx<=2*hf:=by omega
  have hh2:((lx:Int)+1) / 2=(hf:Int):=by omega
  have hcx:lx<=cx:=hx1.cap
  have hcy:ly<=cy:=hy1.cap
  clear hh
  go_wp2_with fail
  refine (isZero_dig _ _ _ _ _ _ hx1 rfl (by omega)).mono ?_
  rintro e w2 ⟨rfl,rfl⟩
  go_wp2_with fail
  refine (isZero_dig _ _ _ _ _ _ hy1 rfl (by omega)).mono ?_
  rintro e w2 ⟨rfl,rfl⟩
  clear hd
  have Hval:Hid (val dx*val dy=val (dx.take hf)*val dy+BB^hf*(val (dx.drop hf)*val dy)):=by
   show _=_
   rw[val_split dx (k:=hf) (by rw[Hx.out.length];omega),Nat.add_mul,Nat.mul_assoc]
  have i0:(0:Int)<=(hf:Int):=by omega
  have i1:(hf:Int)<=(lx:Int):=by omega
  have i2:(hf:Int)<=(cx:Int):=by omega
  have i3:(hf:Int)<=(lx:Int)+(ly:Int):=by omega
  have i4:((hf:Nat):Int)<=((lx+ly:Nat):Int):=by omega
  have hly:¬ ly<=hf:=by omega
  have hne:¬ cx=hf:=by omega
  have hne2:¬ cy=hf:=by omega
  have i5:(hf:Int)<=(ly:Int):=by omega
  have i6:(hf:Int)<=(cy:Int):=by omega
  go_upto_region 13 with (fail)
  clear hd2
  have hx2:=(hx1.take (k:=hf) (by omega)).drew
  have hy2:=(hy1.take (k:=hf) (by omega)).drew
  have hz1:PAt w1 w.heap.size (lx+ly) 0:=⟨_,Hz.out,by simp,Wd.replicate _,val_replicate _⟩
  clear hx1 hy1
  go_region_held3 (fun _=>True) (trivial) (first
   | (go_at_call 65;go_must (refine (IH.out _ _ _ _ _ _ _ _ _ (by have:=HN.out;have:=hlen.out;omega) hx2 hy2 (by omega)).mono ?_;rintro e w2 ⟨g1,p1,rfl,hp1a,hp1b,hp1c,hp1d,hp1e,hp1f⟩)))
  have hp1:PAt w2 g1 (hf+hf) (val (dx.take hf)*val (dy.take hf)):=⟨p1,hp1a,hp1b,hp1c,hp1d⟩
  have hg1:w.heap.size<g1:=by have h1:w1.heap.size<=g1:=hp1e;have:=hz1.lt;omega
  have hz2:=hz1.drew.below hp1f
  have hb2:Below w.heap.size w w2:=Hb1.out.trans ((((Below.refl w1.heap.size w1).drew).trans hp1f).mono Hb1.out.size)
  clear hp1a hp1b hp1c hp1d hp1e hp1f hx2 hy2 hz1
  go_upto_region 14 with (fail)
  have hx2:=((Hx.out.below hb2).drop' (k:=hf) (by omega)).drew
  have hy2:=((Hy.out.below hb2).drop' (k:=hf) (by omega)).drew
  go_region_held3 (fun _=>True) (trivial) (first
   | (go_at_call 65;go_must (refine (IH.out _ _ _ _ _ _ _ _ _ (by have:=HN.out;have:=hlen.out;omega) hx2 hy2 (by omega)).mono ?_;rintro e w3 ⟨g2,p2,rfl,hq1,hq2,hq3,hq4,hq5,hq6⟩)))
  have hbq:Below w2.heap.size w2 w3:=((Below.refl w2.heap.size w2).drew).trans hq6
  have hp2:PAt w3 g2 (lx-hf+(ly-hf)) (val (dx.drop hf)*val (dy.drop hf)):=⟨p2,hq1,hq2,hq3,hq4⟩
  have hg2:w.heap.size<g2:=by have h1:w2.heap.size<=g2:=hq5;have:=hz2.lt;omega
  have hp1':=hp1.below hbq
  have hz3:=hz2.below hbq
  have hb3:Below w.heap.size w w3:=hb2.trans (hbq.mono hb2.size)
  clear hq1 hq2 hq3 hq4 hq5 hq6 hx2 hy2 hp1 hz2 hb2 hbq
  have Hv1:Hid (val dx=val (dx.take hf)+BB^hf*val (dx.drop hf)):=val_split dx (k:=hf) (by rw[Hx.out.length];omega)
  have Hv2:Hid (val dy=val (dy.take hf)+BB^hf*val (dy.drop hf)):=val_split dy (k:=hf) (by rw[Hy.out.length];omega)
  have hxl:=(Hx.out.below hb3).take (k:=hf) (by omega)
  have hxh:=(Hx.out.below hb3).drop' (k:=hf) (by omega)
  have hyl:=(Hy.out.below hb3).take (k:=hf) (by omega)
  have hyh:=(Hy.out.below hb3).drop' (k:=hf) (by omega)
  have hl1:dlen (val (dx.take hf)+val (dx.drop hf))<=hf+1:=by
   have h1:=dlen_add_le (val (dx.take hf)) (val (dx.drop hf))
   have h2:=dlen_val_le hxl.wd
   have h3:=dlen_val_le hxh.wd
   rw[hxl.length] at h2
   rw[hxh.length] at h3
   omega
  have hl2:dlen (val (dy.take hf)+val (dy.drop hf))<=hf+1:=by
   have h1:=dlen_add_le (val (dy.take hf)) (val (dy.drop hf))
   have h2:=dlen_val_le hyl.wd
   have h3:=dlen_val_le hyh.wd
   rw[hyl.length] at h2
   rw[hyh.length] at h3
   omega
  have Hl1:=Lh hl1
  have Hl2:=Lh hl2
  clear hl1 hl2
  go_upto_region 15 with (fail)
  go_cut [9] (fun s9 wx=>∃ g3 n3,s9=.slice (some ⟨g3,0,none⟩) n3 n3/\n3<=lx+3/\PAt wx g3 n3 ((val (dx.take hf)+val (dx.drop hf))*(val (dy.take hf)+val (dy.drop hf)))/\Below w3.heap.size w3 wx)
  case first =>
   refine wp_region_held_drew (S:=fun _=>True) (by kernel_rfl) trivial (fun hHeld=>?_)
   (refine tq 0 ?_;simp only[put_lit,List.set])
   (refine tq 1 ?_;simp only[put_lit,List.set])
   (refine tq 2 ?_;simp only[put_lit,List.set])
   (refine tq 3 ?_;simp only[put_lit,List.set])
   (refine tq 4 ?_;simp only[put_lit,List.set])
   (refine tq 5 ?_;simp only[put_lit,List.set])
   (refine tq 7 ?_;simp only[put_lit,List.set])
   (refine tq 8 ?_;simp only[put_lit,List.set])
   (refine tq 9 ?_;simp only[put_lit,List.set])
   (refine tq 10 ?_;simp only[put_lit,List.set])
   (refine tq 11 ?_;simp only[put_lit,List.set])
   (refine tq 12 ?_;simp only[put_lit,List.set])
   refine rdy 6 (fun K hK=>?_);go_simp
   refine (add_dig _ _ _ _ _ _ _ _ _ _ _ hxl.drew hxh.drew rfl rfl (by omega) (by omega)).mono ?_
   rintro e w4 ⟨A3,l3,c3,rfl,h3,hb4⟩
   have hl3:=Lh h3.len
   have hb5:Below w3.heap.size w3 w4:=((Below.refl w3.heap.size w3).drew).trans hb4
   refine hK.out _ _ trivial (fun _=>?_)
   clear hHeld hK K
   rename_i hHeld
   refine rdy 13 (fun K hK=>?_);go_simp
   refine (add_dig _ _ _ _ _ _ _ _ _ _ _ (hyl.below hb5) (hyh.below hb5) rfl rfl (by omega) (by omega)).mono ?_
   rintro e w5 ⟨A4,l4,c4,rfl,h4,hb6⟩
   have hl4:=Lh h4.len
   have h3':=h3.below hb6
   refine hK.out _ _ trivial (fun _=>?_)
   clear hHeld hK K
   rename_i hHeld
   refine rdy 14 (fun K hK=>?_);go_simp
   refine (IH.out _ _ _ _ _ _ _ _ _ (by have:=Hl1.out;have:=Hl2.out;have:=HN.out;have:=hlen.out;have:=hl3.out;have:=hl4.out;omega) h3'.digits h4.digits (by have:=Hl1.out;have:=Hl2.out;have:=hl3.out;have:=hl4.out;omega)).mono ?_
   rintro e w6 ⟨g3,p3,rfl,hq1,hq2,hq3,hq4,hq5,hq6⟩
   have hbb:Below w3.heap.size w3 w6:=hb5.trans ((hb6.mono hb5.size).trans (hq6.mono (Nat.le_trans hb5.size hb6.size)))
   have hp3:PAt w6 g3 (l3+l4) ((val (dx.take hf)+val (dx.drop hf))*(val (dy.take hf)+val (dy.drop hf))):=⟨p3,hq1,hq2,hq3,by rw[hq4,val_digs,val_digs]⟩
   have hn3:l3+l4<=lx+3:=by have:=Hl1.out;have:=Hl2.out;have:=hl3.out;have:=hl4.out;omega
   have HP3:=Lh hp3
   have HBB:=Lh hbb
   clear h3' hq1 hq2 hq3 hq4 hq5 hq6 h3 h4 hb4 hb5 hb6 hp3 hbb
   refine hK.out _ _ trivial (fun _=>?_)
   clear hHeld hK K
   rename_i hHeld
   (refine tq 15 ?_;simp only[put_lit,List.set])
   refine wpAnyH_done (by kernel_rfl) ?_ _
   go_wp2
   go_meet
   exact ⟨_,_,rfl,hn3,HP3.out,HBB.out⟩
  case rest =>
  obtain ⟨g3,n3,rfl,hn3,hp3,hbb⟩:=hcut
  have hp2':=hp2.below hbb
  have hp1:=hp1'.below hbb
  have hz2:=hz3.below hbb
  have hb2:Below w.heap.size w wc:=hb3.trans (hbb.mono hb3.size)
  clear hp2 hp1' hz3 hb3 hxl hxh hyl hyh hbb
  have hp2:=hp2'
  clear hp2'
  obtain ⟨d3,hd3,hv3⟩:=hp3.dig (Nat.le_refl _)
  obtain ⟨d2,hd2,hv2⟩:=hp2.dig (Nat.le_refl _)
  obtain ⟨d1,hd1,hv1⟩:=hp1.dig (Nat.le_refl _)
  have Hd1:=Lh hd1
  have Hd2:=Lh hd2
  have Hd3:=Lh hd3
  clear hd1 hd2 hd3
  have Hv31:=Lh hv1
  have Hv32:=Lh hv2
  have Hv33:=Lh hv3
  clear hv1 hv2 hv3
  have Hp1:=Lh hp1
  have Hp2:=Lh hp2
  have Hz2:=Lh hz2
  have Hb2:=Lh hb2
  clear hp1 hp2 hz2 hb2 hp3
  go_wp2_with fail
  refine (add_dig _ _ _ _ _ _ _ _ _ _ _ Hd1.out Hd2.out Hv31.out Hv32.out (by omega) (by omega)).mono ?_
  rintro e v6 ⟨A6,l6,c6,rfl,h6,hb6⟩
  have Hle:val (dx.take hf)*val (dy.take hf)+val (dx.drop hf)*val (dy.drop hf)<=(val (dx.take hf)+val (dx.drop hf))*(val (dy.take hf)+val (dy.drop hf)):=by rw[Nat.add_mul,Nat.mul_add,Nat.mul_add];omega
  have hl6:l6<=n3:=by
   have h2:=dlen_val_le Hd3.out.wd
   rw[Hd3.out.length,Hv33.out] at h2
   have h3:=dlen_mono Hle
   have h4:=h6.len
   omega
  have HLe:=Lh Hle
  clear Hle
  have H6:=Lh h6
  have Hb6:=Lh hb6
  clear h6 hb6
  go_wp2_with fail
  have Hd3':=Hd3.out.below Hb6.out
  refine (sub_ge_fresh (some ⟨g3,0,none⟩) A6 n3 n3 l6 c6 _ _ d3 _ v6 Hd3' H6.out.digits Hv33.out (val_digs _) (by omega) (by omega) HLe.out).mono ?_
  clear Hd3'
  rintro e w7 ⟨A7,l7,c7,rfl,h7,hb7,hf7⟩
  have hl7:l7<=lx+ly-hf:=by
   have h1:dlen ((val (dx.take hf)+val (dx.drop hf))*(val (dy.take hf)+val (dy.drop hf))-(val (dx.take hf)*val (dy.take hf)+val (dx.drop hf)*val (dy.drop hf)))<=lx+ly-hf:=by
    refine dlen_le_of_lt ?_
    rw[kara_mid]
    have k1:=val_lt (Hx.out.wd.take hf)
    have k2:=val_lt (Hx.out.wd.drop hf)
    have k3:=val_lt (Hy.out.wd.take hf)
    have k4:=val_lt (Hy.out.wd.drop hf)
    rw[List.length_take,Hx.out.length,Nat.min_eq_left (by omega)] at k1
    rw[List.length_drop,Hx.out.length] at k2
    rw[List.length_take,Hy.out.length,Nat.min_eq_left (by omega)] at k3
    rw[List.length_drop,Hy.out.length] at k4
    exact kara_small (by rw[BB_eq];omega) k1 k2 k3 k4 (by omega) (by omega) hyx
   have h4:=h7.len
   omega
  have HB7:Hid (Below wc.heap.size wc w7):=Hb6.out.trans (hb7.mono Hb6.out.size)
  have H7:=Lh h7
  have Hf7:=Lh hf7
  clear hf7
  clear h7 hb7
  have hz7:=Hz2.out.below HB7.out
  obtain ⟨z7,hz71,hz72,hz73,hz74⟩:=hz7
  have Hd17:=Hd1.out.below HB7.out
  have Hzz:Hid (z7.length=lx+ly/\Wd z7/\val z7=0):=⟨hz72,hz73,hz74⟩
  clear hz72 hz73 hz74
  go_wp2_with ((with_reducible show wpList _ _ _ (⟨some 101,_,_,_,_,_⟩ :: _) _ _);refine wpList_copy_dig rfl (.tmp 99) (.tmp 100) rfl w.heap.size 0 z7 _ _ _ _ _ _ _ rfl rfl hz71 Hd17 (fun _=>rfl) (by rw[Hzz.out.1];omega) (by omega) ?_)
  intro w8 hz8 hb8 hs8 hk8
  have ho8:Only w.heap.size w7 w8:=⟨hb8.os,hb8.tape,hb8.output,hs8,hk8⟩
  have Ho8:=Lh ho8
  have Hd28:DigAt w8 (some ⟨g2,0,none⟩) (lx-hf+(ly-hf)) (lx-hf+(ly-hf)) d2:=(Hd2.out.below HB7.out).only ho8 (Off.of_lt hg2)
  clear ho8 hb8 hs8 hk8 hz71 Hd17
  have hcc:hf+hf<lx+ly:=by omega
  have hll8:(dsplice z7 0 d1).length=lx+ly:=by rw[dsplice_length _ _ _ (by rw[Hd1.out.length,Hzz.out.1];omega),Hzz.out.1]
  have Hl8:=Lh hll8
  clear hll8
  go_wp2_with ((with_reducible show wpList _ _ _ (⟨some 107,_,_,_,_,_⟩ :: _) _ _);refine wpList_copy_dig rfl (.tmp 105) (.tmp 106) rfl w.heap.size (2*hf) (dsplice z7 0 d1) _ _ _ _ _ _ _ rfl rfl hz8 Hd28 (fun _=>rfl) (by rw[Hl8.out];omega) (by omega) ?_)
  intro w9 hz9 hb9 hs9 hk9
  have ho9:Only w.heap.size w7 w9:=Ho8.out.trans ⟨hb9.os,hb9.tape,hb9.output,hs9,hk9⟩
  have Ho9:=Lh ho9
  have HA7:Hid (Off w.heap.size A7):=fun b off e=>by have:=Hf7.out b off e;have h1:=Hz2.out.lt;have h2:=Hb6.out.size;omega
  have hd9:=H7.out.digits.only ho9 HA7.out
  have Hzv:Hid (val (dsplice (dsplice z7 0 d1) (2*hf) d2)=val d1+BB^hf*BB^hf*val d2):=by
   show _=_
   have h1:=Hd1.out.length
   rw[dsplice_val_zz Hzz.out.2.2 (by omega:d1.length=2*hf),Nat.two_mul,Nat.pow_add]
  have hw9:Wd (dsplice (dsplice z7 0 d1) (2*hf) d2):=dsplice_wd _ (dsplice_wd _ Hzz.out.2.1 Hd1.out.wd) Hd2.out.wd
  have Hw9:=Lh hw9
  have Hl9:Hid ((dsplice (dsplice z7 0 d1) (2*hf) d2).length=lx+ly):=by
   show _=_
   rw[dsplice_length _ _ _ (by rw[Hl8.out,Hd2.out.length];omega),Hl8.out]
  have Hz9:=Lh hz9
  clear ho9 hb9 hs9 hk9 hz8 Hd28 hw9 hz9
  have Hhy:Hid (hf+(lx+ly-hf)=lx+ly):=by show _=_;omega
  have Htot:Hid (val (dsplice (dsplice z7 0 d1) (2*hf) d2)+BB^hf*((val (dx.take hf)+val (dx.drop hf))*(val (dy.take hf)+val (dy.drop hf))-(val (dx.take hf)*val (dy.take hf)+val (dx.drop hf)*val (dy.drop hf)))=val dx*val dy):=by
   show _=_
   rw[Hzv.out,Hv31.out,Hv32.out,Hv1.out,Hv2.out,kara_arith]
   omega
  have Hroom:Hid (val dx*val dy<BB^(lx+ly)):=by
   show _<_
   rw[Nat.pow_add]
   have h1:=val_lt Hx.out.wd
   have h2:=val_lt Hy.out.wd
   rw[Hx.out.length] at h1
   rw[Hy.out.length] at h2
   exact Nat.mul_lt_mul'' h1 h2
  go_wp2_with fail
  refine (addInto_any w.heap.size hf (lx+ly-hf) _ l7 c7 A7 _ _ w9 Hz9.out (by rw[Hhy.out,Hl9.out]) Hw9.out hd9 HA7.out hl7 (by rw[val_digs,Hhy.out,Htot.out];exact Hroom.out) (by omega)).mono ?_
  rintro e w10 ⟨rfl,z10,hz10,hz101,hz102,hz103,hz104⟩
  have Hfin:Hid (ProdPost w (la+lb) (val da*val db) (.returned (.slice (some ⟨w.heap.size,0,none⟩) (lx+ly) (lx+ly))) w10):=by
   refine ⟨w.heap.size,z10,by rw[hlen.out],hz10,by rw[hz101,Hhy.out,hlen.out],hz102,by rw[hz103,val_digs,Htot.out,hxy.out],Nat.le_refl _,?_⟩
   exact Hb2.out.trans ((HB7.out.mono Hb2.out.size).trans ((Ho9.out.trans hz104).below (Nat.le_refl _)))
  clear hz10 hz101 hz102 hz103 hz104 hd9
  go_wp2
  go_ret
  exact Hfin.out
theorem product_fuel:∀ N (A B:Option Addr) (la ca lb cb:Nat) (da db:List Nat) (w:World),la+lb<=N->DigAt w A la ca da->DigAt w B lb cb db->la+lb<=2199023255552 ->
  Calls Tryz.prog 65 #[.slice A la ca,.slice B lb cb] w (ProdPost w (la+lb) (val da*val db))
 | 0,A,B,la,ca,lb,cb,da,db,w,hN,ha,hb,hm=>product_s A B la ca lb cb da db w ha hb hm (by omega)
 | N+1,A,B,la,ca,lb,cb,da,db,w,hN,ha,hb,hm=>by
   by_cases hc:la<48∨lb<48
   ·exact product_s A B la ca lb cb da db w ha hb hm hc
   ·by_cases hv:val da=0∨val db=0
    ·exact product_z A B la ca lb cb da db w ha hb hm (by omega) hv
    ·by_cases hh:min la lb<=(max la lb+1) / 2
     ·exact product_h A B la ca lb cb da db w (product_fuel N) hN ha hb hm (by omega) hv hh
     ·exact product_k A B la ca lb cb da db w (product_fuel N) hN ha hb hm (by omega) hv hh
theorem product_any (A B:Option Addr) (la ca lb cb:Nat) (da db:List Nat) (w:World) (ha:DigAt w A la ca da) (hb:DigAt w B lb cb db) (hm:la+lb<=2199023255552) :
  Calls Tryz.prog 65 #[.slice A la ca,.slice B lb cb] w (ProdPost w (la+lb) (val da*val db)) :=
 product_fuel (la+lb) A B la ca lb cb da db w (Nat.le_refl _) ha hb hm
set_option maxHeartbeats 400000 in
theorem mul_any (A B:Option Addr) (la ca lb cb a b:Nat) (w:World) (ha:NatAt w A la ca a) (hb:NatAt w B lb cb b) (hsa:Sm a) (hsb:Sm b) (_hk:MulOK a b) :
  Calls Tryz.prog 36 #[.slice A la ca,.slice B lb cb] w fun e w'=>∃ A' len' cap',e=.returned (.slice A' len' cap')/\NatN w' A' len' cap' (a*b)/\Below w.heap.size w w':=by
 go_enter Tryz.func36,Tryz.ntmps36
 go_wp2_with fail
 refine (trim_any _ _ _ _ _ ha hsa).mono ?_
 rintro e w1 ⟨la',rfl,ha',rfl⟩
 go_wp2_with fail
 refine (trim_any _ _ _ _ _ hb hsb).mono ?_
 rintro e w1 ⟨lb',rfl,hb',rfl⟩
 have hla:=Lh ha'.len
 have hlb:=Lh hb'.len
 have hm:la'+lb'<=2199023255552:=by have:=hla.out;have:=hlb.out;unfold Sm at hsa hsb;omega
 clear ha hb
 go_wp2_with fail
 refine (product_any _ _ _ _ _ _ _ _ _ ha'.digits hb'.digits hm).mono ?_
 rintro e w1 ⟨g,zs,rfl,h1,h2,h3,h4,h5,h6⟩
 have hd:=h1.dig h3 (cap:=la'+lb') (by omega)
 rw[h2] at hd
 rw[val_digs,val_digs] at h4
 have H6:=Lh h6
 clear h1 h2 h3 h5 h6 ha' hb'
 go_wp2_with fail
 refine (trim_dig _ _ _ _ _ _ hd h4 (by omega)).mono ?_
 rintro e w2 ⟨l2,rfl,hr,rfl⟩
 have Hr:=Lh hr
 clear hr hd h4
 go_wp2
 go_ret
 exact ⟨_,_,_,rfl,Hr.out,H6.out⟩
end Go.Proofs.YtpeiiomjnjemjaaGreat
