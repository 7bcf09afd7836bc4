/- The walk of descartes.commonDen. -/
import Derived.Test.YtphmkdmflopcdaaGreatLes
import Derived.Test.YtphmkdmflopcdaaGreatDer
namespace Go.Proofs.YtphmkdmflopcdaaGreat
open Go.RowKit
def lcd (a b:Nat):Int:=((((a:Int).tdiv ((Nat.gcd (a:Int).natAbs (b:Int).natAbs:Nat):Int))*(b:Int)).natAbs:Nat)
theorem lcd_eq (a b:Nat):lcd a b=((a / Nat.gcd a b*b:Nat):Int):=by
 unfold lcd
 rw[Int.natAbs_natCast,Int.natAbs_natCast,<- Int.ofNat_tdiv,<- Int.natCast_mul,Int.natAbs_natCast]
theorem lcd_pos {a b:Nat} (ha:0<a) (hb:0<b):0<a / Nat.gcd a b*b:=Nat.mul_pos (Nat.div_pos (Nat.gcd_le_left _ ha) (Nat.gcd_pos_of_pos_left _ ha)) hb
theorem lcd_left {a b:Nat}:(lcd a b).tmod (a:Int)=0:=by
 rw[lcd_eq,<- Int.ofNat_tmod]
 obtain ⟨k,hk⟩:=Nat.gcd_dvd_right a b
 obtain ⟨j,hj⟩:=Nat.gcd_dvd_left a b
 have h:a / Nat.gcd a b*b=a*k:=by
  by_cases hg:Nat.gcd a b=0
  ·have h0:a=0:=Nat.eq_zero_of_gcd_eq_zero_left hg
   rw[h0];simp
  ·have h1:a / Nat.gcd a b=j:=by
    refine Nat.div_eq_of_eq_mul_right (Nat.pos_of_ne_zero hg) hj
   rw[h1]
   calc j*b=j*(Nat.gcd a b*k):=by rw[<- hk]
    _=(Nat.gcd a b*j)*k:=by rw[<- Nat.mul_assoc,Nat.mul_comm j]
    _=a*k:=by rw[<- hj]
 rw[h,Nat.mul_mod_right];rfl
theorem lcd_right {a b:Nat}:(lcd a b).tmod (b:Int)=0:=by
 rw[lcd_eq,<- Int.ofNat_tmod,Nat.mul_mod_left];rfl
theorem IntN.put3 {W:World} {n n':Bool} {A A' B':Option Addr} {l c l' c' m' d' g':Nat} {z z':Int} {q':Nat} (h:IntN W n A l c z) (h':RBox W g' n' A' l' c' B' m' d' z' q') (u v x:Value):IntN (((W.setCell ⟨g',0,none⟩ u).setCell ⟨g',1,none⟩ v).setCell ⟨g',2,none⟩ x) n A l c z:=by
 have j2:((W.setCell ⟨g',0,none⟩ u).setCell ⟨g',1,none⟩ v).cell? ⟨g',2,none⟩=some (.slice B' m' d'):=by
  rw[World.cell?_setCell_other _ _ _ _ (by simp),World.cell?_setCell_other _ _ _ _ (by simp)];exact h'.c2
 exact (h.ret u v h'.c0 h'.c1).store x j2 (noDigit_slice _ _ _)
theorem NatN.put3 {W:World} {n':Bool} {A' B B':Option Addr} {m d l' c' m' d' g':Nat} {q q':Nat} {z':Int} (h:NatN W B m d q) (h':RBox W g' n' A' l' c' B' m' d' z' q') (u v x:Value):NatN (((W.setCell ⟨g',0,none⟩ u).setCell ⟨g',1,none⟩ v).setCell ⟨g',2,none⟩ x) B m d q:=by
 have j1:(W.setCell ⟨g',0,none⟩ u).cell? ⟨g',1,none⟩=some (.slice A' l' c'):=by
  rw[World.cell?_setCell_other W _ _ _ (by simp)];exact h'.c1
 have j2:((W.setCell ⟨g',0,none⟩ u).setCell ⟨g',1,none⟩ v).cell? ⟨g',2,none⟩=some (.slice B' m' d'):=by
  rw[World.cell?_setCell_other _ _ _ _ (by simp),World.cell?_setCell_other _ _ _ _ (by simp)];exact h'.c2
 exact ((h.store u h'.c0 (noDigit_bool _)).store v j1 (noDigit_slice _ _ _)).store x j2 (noDigit_slice _ _ _)
def CdA (w:World) (z1:Int) (a:Nat) (z2:Int) (b:Nat) (wx:World):Prop:=∃ n1 A1 l1 c1 B1 m1 d1 n2 A2 l2 c2 B2 m2 d2,RBox wx w.heap.size n1 A1 l1 c1 B1 m1 d1 z1 a/\RBox wx (w.heap.size+1) n2 A2 l2 c2 B2 m2 d2 z2 b/\IBox wx (w.heap.size+1+1) false none 0 0 0/\IBox wx (w.heap.size+1+1+1) false none 0 0 0/\IBox wx (w.heap.size+1+1+1+1) false none 0 0 0/\Below w.heap.size w wx
set_option maxRecDepth 100000 in
set_option maxHeartbeats 4000000 in
theorem common_all (n:Bool) (A:Option Addr) (l c:Nat) (B:Option Addr) (m d q:Nat) (z:Int) (n':Bool) (A':Option Addr) (l' c':Nat) (B':Option Addr) (m' d' q':Nat) (z':Int) (w:World) (hz:IntN w n A l c z) (hq:NatN w B m d q) (hz':IntN w n' A' l' c' z') (hq':NatN w B' m' d' q') (hu:Fit z) (hv:Fit (q:Int)) (h0:0<q) (hu':Fit z') (hv':Fit (q':Int)) (h0':0<q') (hfD:Fit (lcd (q / Nat.gcd z.natAbs q) (q' / Nat.gcd z'.natAbs q'))) :
  Calls Tryz.prog 51 #[.agg #[.bool n,.slice A l c,.slice B m d],.agg #[.bool n',.slice A' l' c',.slice B' m' d']] w fun e w'=>∃ z1 a z2 b,z1=z.tdiv (Nat.gcd z.natAbs q)/\a=q / Nat.gcd z.natAbs q/\z2=z'.tdiv (Nat.gcd z'.natAbs q')/\b=q' / Nat.gcd z'.natAbs q'/\∃ n1 A1 l1 c1 n2 A2 l2 c2 n3 A3 l3 c3,e=.returned (.tuple #[.agg #[.bool n1,.slice A1 l1 c1],.agg #[.bool n2,.slice A2 l2 c2],.agg #[.bool n3,.slice A3 l3 c3]])/\IntN w' n1 A1 l1 c1 (z1*(lcd a b).tdiv (a:Int))/\IntN w' n2 A2 l2 c2 (z2*(lcd a b).tdiv (b:Int))/\IntN w' n3 A3 l3 c3 (lcd a b)/\Below w.heap.size w w':=by
 obtain ⟨z1,hz1⟩:∃ z1,z1=z.tdiv (Nat.gcd z.natAbs q):=⟨_,rfl⟩
 obtain ⟨a,ha⟩:∃ a,a=q / Nat.gcd z.natAbs q:=⟨_,rfl⟩
 obtain ⟨z2,hz2⟩:∃ z2,z2=z'.tdiv (Nat.gcd z'.natAbs q'):=⟨_,rfl⟩
 obtain ⟨b,hb⟩:∃ b,b=q' / Nat.gcd z'.natAbs q':=⟨_,rfl⟩
 have fa:Fit (a:Int):=by unfold Fit;rw[ha,Int.natAbs_natCast];unfold Fit at hv;rw[Int.natAbs_natCast] at hv;exact Nat.lt_of_le_of_lt (Nat.div_le_self _ _) hv
 have fb:Fit (b:Int):=by unfold Fit;rw[hb,Int.natAbs_natCast];unfold Fit at hv';rw[Int.natAbs_natCast] at hv';exact Nat.lt_of_le_of_lt (Nat.div_le_self _ _) hv'
 have pa:0<a:=by rw[ha];exact Nat.div_pos (Nat.gcd_le_right _ h0) (Nat.gcd_pos_of_pos_right _ h0)
 have pb:0<b:=by rw[hb];exact Nat.div_pos (Nat.gcd_le_right _ h0') (Nat.gcd_pos_of_pos_right _ h0')
 have f1:Fit z1:=Nat.lt_of_le_of_lt (by rw[hz1,Int.natAbs_tdiv];exact Nat.div_le_self _ _) hu
 have f2:Fit z2:=Nat.lt_of_le_of_lt (by rw[hz2,Int.natAbs_tdiv];exact Nat.div_le_self _ _) hu'
 refine Calls.mono ?_ (fun e w' h=>⟨z1,a,z2,b,hz1,ha,hz2,hb,h⟩)
 have Z1:=Lh hz1
 have HA:=Lh ha
 have Z2:=Lh hz2
 have HB:=Lh hb
 clear hz1 ha hz2 hb
 have fD:Fit (lcd a b):=by rw[HA.out,HB.out];exact hfD
 have tl:(lcd a b).tmod (a:Int)=0:=lcd_left
 have tr:(lcd a b).tmod (b:Int)=0:=lcd_right
 have hcE:((((a:Int).tdiv ((Nat.gcd (a:Int).natAbs (b:Int).natAbs:Nat):Int))*(b:Int)).natAbs:Nat)=lcd a b:=rfl
 obtain ⟨D,hD⟩:∃ D,D=lcd a b:=⟨_,rfl⟩
 rw[<- hD] at fD tl tr hcE ⊢
 obtain ⟨U,hU⟩:∃ U,U=D.tdiv (a:Int):=⟨_,rfl⟩
 obtain ⟨V,hV⟩:∃ V,V=D.tdiv (b:Int):=⟨_,rfl⟩
 have fU:Fit U:=Nat.lt_of_le_of_lt (by rw[hU,Int.natAbs_tdiv];exact Nat.div_le_self _ _) fD
 have fV:Fit V:=Nat.lt_of_le_of_lt (by rw[hV,Int.natAbs_tdiv];exact Nat.div_le_self _ _) fD
 rw[<- hU,<- hV]
 have HU:=Lh hU
 have HV:=Lh hV
 have HC:=Lh hcE
 have Ta:=Lh tl
 have Tb:=Lh tr
 clear hU hV hcE hD tl tr
 have na0:(a:Int)≠0:=by omega
 have nb0:(b:Int)≠0:=by omega
 have o1:=below_new w (rbox n A l c B m d)
 have o2:=below_new (w.alloc (rbox n A l c B m d)) (rbox n' A' l' c' B' m' d')
 have o3:=below_new ((w.alloc (rbox n A l c B m d)).alloc (rbox n' A' l' c' B' m' d')) (ibox false none 0 0)
 have o4:=below_new (((w.alloc (rbox n A l c B m d)).alloc (rbox n' A' l' c' B' m' d')).alloc (ibox false none 0 0)) (ibox false none 0 0)
 have o5:=below_new ((((w.alloc (rbox n A l c B m d)).alloc (rbox n' A' l' c' B' m' d')).alloc (ibox false none 0 0)).alloc (ibox false none 0 0)) (ibox false none 0 0)
 have R1:=((((RBox.make hz hq).move o2).move o3).move o4).move o5
 have R2:=(((RBox.make (hz'.below o1) (hq'.below o1)).move o3).move o4).move o5
 have I4:=((IBox.nil ((w.alloc (rbox n A l c B m d)).alloc (rbox n' A' l' c' B' m' d'))).move o4).move o5
 have I5:=(IBox.nil (((w.alloc (rbox n A l c B m d)).alloc (rbox n' A' l' c' B' m' d')).alloc (ibox false none 0 0))).move o5
 have I6:=IBox.nil ((((w.alloc (rbox n A l c B m d)).alloc (rbox n' A' l' c' B' m' d')).alloc (ibox false none 0 0)).alloc (ibox false none 0 0))
 have b5:Below w.heap.size w (((((w.alloc (rbox n A l c B m d)).alloc (rbox n' A' l' c' B' m' d')).alloc (ibox false none 0 0)).alloc (ibox false none 0 0)).alloc (ibox false none 0 0)):=((((o1.alloc (by simp) _).alloc (by simp;omega) _).alloc (by simp;omega) _).alloc (by simp;omega) _)
 simp only[World.size_alloc] at R2 I4 I5 I6
 replace R1:=Lh R1
 replace R2:=Lh R2
 replace I4:=Lh I4
 replace I5:=Lh I5
 replace I6:=Lh I6
 have Hb:=Lh b5
 clear b5 o1 o2 o3 o4 o5 hz hq hz' hq'
 go_enter Tryz.func51,Tryz.ntmps51
 go_wp2_with fail
 go_cut [] (fun wx=>CdA w z1 a z2 b wx)
 case first =>
  obtain ⟨wb,hwb⟩:∃ wb,wb=(((((w.alloc (rbox n A l c B m d)).alloc (rbox n' A' l' c' B' m' d')).alloc (ibox false none 0 0)).alloc (ibox false none 0 0)).alloc (ibox false none 0 0)):=⟨_,rfl⟩
  rw[<- hwb] at R1 R2 I4 I5 I6 Hb ⊢
  clear hwb
  have s0:=R2.out.c0
  have s1:=R2.out.c1
  have s2:=R2.out.c2
  have t0:=R1.out.c0
  have t1:=R1.out.c1
  have t2:=R1.out.c2
  refine wp_region_last (S:=fun w'=>w'.cell? ⟨w.heap.size+1,0,none⟩=some (.bool n')/\w'.cell? ⟨w.heap.size+1,1,none⟩=some (.slice A' l' c')/\w'.cell? ⟨w.heap.size+1,2,none⟩=some (.slice B' m' d')) (by kernel_rfl) (by kernel_rfl) (by (try dsimp only);go_keep) (fun hHeld=>?_)
  simp only[List.pop_toArray,List.dropLast]
  (refine tq 2 ?_;simp only[put_lit,List.set])
  refine rdy 0 (fun K hK=>?_);go_simp
  refine hK.out _ _ ?_ (fun _=>?_)
  ·(try dsimp only);go_keep
  clear hHeld hK K
  rename_i hHeld
  (try (simp only[put_lit,List.set]))
  refine rdy 1 (fun K hK=>?_);go_simp
  refine (rnormal_any _ _ _ _ _ _ _ _ _ _ (R1.out.hz.below Bel.go) (R1.out.hq.below Bel.go) hu hv h0).mono ?_
  rintro e w7 ⟨⟨n7,A7,l7,c7,B7,m7,d7,rfl,h7,k7⟩,hb7⟩
  rw[<- Z1.out] at h7
  rw[<- HA.out] at k7
  obtain ⟨hcx,hfx⟩:=bcellS hb7
  replace R1:=Lh (R1.out.move (Below.trans Bel.go (hb7.mono (by simp<;>omega))))
  replace R2:=Lh (R2.out.move (Below.trans Bel.go (hb7.mono (by simp<;>omega))))
  replace I4:=Lh (I4.out.move (Below.trans Bel.go (hb7.mono (by simp<;>omega))))
  replace I5:=Lh (I5.out.move (Below.trans Bel.go (hb7.mono (by simp<;>omega))))
  replace I6:=Lh (I6.out.move (Below.trans Bel.go (hb7.mono (by simp<;>omega))))
  replace Hb:=Lh (Hb.out.trans ((Below.trans Bel.go (hb7.mono (by simp<;>omega))).mono Hb.out.size))
  have H7:=Lh h7
  have K7:=Lh k7
  refine hK.out _ _ ?_ (fun _=>?_)
  ·((try dsimp only);repeat' apply And.intro)<;>(rw[hcx _ (by go_simp)];go_simp)
  clear hHeld hK K hcx hfx;rename_i hHeld
  clear h7 k7 hb7
  refine rdy 3 (fun K hK=>?_);go_simp
  refine (rnormal_any _ _ _ _ _ _ _ _ _ _ (R2.out.hz.below Bel.go) (R2.out.hq.below Bel.go) hu' hv' h0').mono ?_
  rintro e w8 ⟨⟨n8,A8,l8,c8,B8,m8,d8,rfl,h8,k8⟩,hb8⟩
  rw[<- Z2.out] at h8
  rw[<- HB.out] at k8
  obtain ⟨hcx,hfx⟩:=bcellS hb8
  replace R1:=Lh (R1.out.move (Below.trans Bel.go (hb8.mono (by simp<;>omega))))
  replace R2:=Lh (R2.out.move (Below.trans Bel.go (hb8.mono (by simp<;>omega))))
  replace I4:=Lh (I4.out.move (Below.trans Bel.go (hb8.mono (by simp<;>omega))))
  replace I5:=Lh (I5.out.move (Below.trans Bel.go (hb8.mono (by simp<;>omega))))
  replace I6:=Lh (I6.out.move (Below.trans Bel.go (hb8.mono (by simp<;>omega))))
  replace Hb:=Lh (Hb.out.trans ((Below.trans Bel.go (hb8.mono (by simp<;>omega))).mono Hb.out.size))
  have H7':=Lh (H7.out.below (Below.trans Bel.go (hb8.mono (by simp<;>omega))))
  have K7':=Lh (K7.out.below (Below.trans Bel.go (hb8.mono (by simp<;>omega))))
  have H8:=Lh h8
  have K8:=Lh k8
  refine hK.out _ _ ?_ (fun _=>?_)
  ·((try dsimp only);repeat' apply And.intro)<;>(rw[hcx _ (by go_simp)];go_simp)
  clear hHeld hK K hcx hfx;rename_i hHeld
  clear h8 k8 hb8 H7 K7
  have p0:=R1.out.c0
  have p1:=R1.out.c1
  have p2:=R1.out.c2
  have p3:=R1.out.f0
  have p4:=R1.out.f1
  have p5:=R1.out.f2
  refine rdy 4 (fun K hK=>?_);go_simp
  refine hK.out _ _ ?_ (fun _=>?_)
  ·(try dsimp only);go_keep
  clear hHeld hK K
  have P1:=R1.out.put H7'.out K7'.out
  have P2:=R2.out.far R1.out (by omega) (.bool n7) (.slice A7 l7 c7) (.slice B7 m7 d7)
  have J4:=I4.out.farR R1.out (by omega) (.bool n7) (.slice A7 l7 c7) (.slice B7 m7 d7)
  have J5:=I5.out.farR R1.out (by omega) (.bool n7) (.slice A7 l7 c7) (.slice B7 m7 d7)
  have J6:=I6.out.farR R1.out (by omega) (.bool n7) (.slice A7 l7 c7) (.slice B7 m7 d7)
  have G8:=H8.out.put3 R1.out (.bool n7) (.slice A7 l7 c7) (.slice B7 m7 d7)
  have L8:=K8.out.put3 R1.out (.bool n7) (.slice A7 l7 c7) (.slice B7 m7 d7)
  have Hbp:=((Hb.out.setCell (p:=⟨w.heap.size,0,none⟩) (Nat.le_refl _) (.bool n7)).setCell (p:=⟨w.heap.size,1,none⟩) (Nat.le_refl _) (.slice A7 l7 c7)).setCell (p:=⟨w.heap.size,2,none⟩) (Nat.le_refl _) (.slice B7 m7 d7)
  obtain ⟨wp,hwp⟩:∃ wp,wp=((w8.setCell ⟨w.heap.size,0,none⟩ (.bool n7)).setCell ⟨w.heap.size,1,none⟩ (.slice A7 l7 c7)).setCell ⟨w.heap.size,2,none⟩ (.slice B7 m7 d7):=⟨_,rfl⟩
  unfold put3 at P1
  (try simp only[put_lit,List.set])
  rw[<- hwp] at P1 P2 J4 J5 J6 G8 L8 Hbp
  rw[<- hwp]
  clear hwp p0 p1 p2 p3 p4 p5 R1 R2 I4 I5 I6 Hb H7' K7' H8 K8 s0 s1 s2 t0 t1 t2
  have p0:=P2.c0
  have p1:=P2.c1
  have p2:=P2.c2
  have p3:=P2.f0
  have p4:=P2.f1
  have p5:=P2.f2
  refine wpAnyH_done (by kernel_rfl) (lastQ_list rfl ?_) _
  have Q1:=Lh (P1.far P2 (by omega) (.bool n8) (.slice A8 l8 c8) (.slice B8 m8 d8))
  have Q2:=Lh (P2.put G8 L8)
  have Q4:=Lh (J4.farR P2 (by omega) (.bool n8) (.slice A8 l8 c8) (.slice B8 m8 d8))
  have Q5:=Lh (J5.farR P2 (by omega) (.bool n8) (.slice A8 l8 c8) (.slice B8 m8 d8))
  have Q6:=Lh (J6.farR P2 (by omega) (.bool n8) (.slice A8 l8 c8) (.slice B8 m8 d8))
  have Qb:=Lh (((Hbp.setCell (p:=⟨w.heap.size+1,0,none⟩) (by simp) (.bool n8)).setCell (p:=⟨w.heap.size+1,1,none⟩) (by simp) (.slice A8 l8 c8)).setCell (p:=⟨w.heap.size+1,2,none⟩) (by simp) (.slice B8 m8 d8))
  clear P1 P2 J4 J5 J6 G8 L8 Hbp
  go_wp2
  go_meet
  exact ⟨_,_,_,_,_,_,_,_,_,_,_,_,_,_,Q1.out,Q2.out,Q4.out,Q5.out,Q6.out,Qb.out⟩
 case rest =>
  obtain ⟨n1,A1,l1,c1,B1,m1,d1,n2,A2,l2,c2,B2,m2,d2,r1,r2,i4,i5,i6,hb⟩:=hcut
  clear R1 R2 I4 I5 I6 Hb
  have R1:=Lh r1
  have R2:=Lh r2
  have I4:=Lh i4
  have I5:=Lh i5
  have I6:=Lh i6
  have Hb:=Lh hb
  have p0:=r1.c2
  have q0:=r2.c2
  have ltA:=r1.lt
  have ltB:=r2.lt
  have ltI:=i6.lt
  have nn1:wc.heap.size≠w.heap.size:=by omega
  have nn2:wc.heap.size≠w.heap.size+1:=by omega
  have nn3:wc.heap.size+1≠w.heap.size:=by omega
  have nn4:wc.heap.size+1≠w.heap.size+1:=by omega
  clear r1 r2 i4 i5 i6 hb
  go_wp2_with fail
  go_cut [7,8] (fun s7 s8 wx=>Two wc (a:Int) (b:Int) s7 s8 wx)
  case first =>
   go_region_held3 (fun w'=>w'.cell? ⟨w.heap.size,2,none⟩=some (.slice B1 m1 d1)/\w'.cell? ⟨w.heap.size+1,2,none⟩=some (.slice B2 m2 d2)) (go_keep) (first
    | (go_at_call_of 68 (Value.slice B1 m1 d1);go_must (refine (from_any _ _ _ _ _ _ ?_ fa.smn).mono ?_;(exact R1.out.hq.at_.below Bel.go);rintro e w8 ⟨n8,A8,l8,c8,rfl,h8,hb8⟩;rw[sgn_false] at h8;have H8:=Lh h8;have Hb8:Hid (Below wc.heap.size wc w8):=Lh (Below.trans Bel.go (hb8.mono (by simp<;>omega)));have zy:=hb8.size;(try simp only[World.size_alloc,World.size_drew] at zy);have v8:w8.heap.size≠w.heap.size:=(by omega);have v9:w8.heap.size≠w.heap.size+1:=(by omega);have v10:w8.heap.size+1≠w.heap.size:=(by omega);have v11:w8.heap.size+1≠w.heap.size+1:=(by omega);obtain ⟨hcx,hfx⟩:=bcellS hb8;have v0:w8.cell? ⟨w.heap.size,2,none⟩=some (.slice B1 m1 d1):=(hcx _ (by go_simp)).trans (by go_simp);have v1:w8.cell? ⟨w.heap.size+1,2,none⟩=some (.slice B2 m2 d2):=(hcx _ (by go_simp)).trans (by go_simp);(try (have cpa:World.cell? w8 ⟨wc.heap.size,0,none⟩=some (.bool false):=?_;rotate_left;(focus (refine (hcx _ ?_).trans ?_<;>(go_simp;done)));have cpb:World.cell? w8 ⟨wc.heap.size,1,none⟩=some (.slice none 0 0):=?_;rotate_left;(focus (refine (hcx _ ?_).trans ?_<;>(go_simp;done)));have cpc:World.frozen? w8 ⟨wc.heap.size,0,none⟩=false:=?_;rotate_left;(focus (refine (hfx _ ?_).trans ?_<;>(go_simp;done)));have cpd:World.frozen? w8 ⟨wc.heap.size,1,none⟩=false:=?_;rotate_left;(focus (refine (hfx _ ?_).trans ?_<;>(go_simp;done)));have cpe:wc.heap.size<w8.heap.size:=(by omega);have cpn:=Lh (Nbx.mk cpa cpb cpc cpd cpe)));(try (have cqa:World.cell? w8 ⟨wc.heap.size+1,0,none⟩=some (.bool false):=?_;rotate_left;(focus (refine (hcx _ ?_).trans ?_<;>(go_simp;done)));have cqb:World.cell? w8 ⟨wc.heap.size+1,1,none⟩=some (.slice none 0 0):=?_;rotate_left;(focus (refine (hcx _ ?_).trans ?_<;>(go_simp;done)));have cqc:World.frozen? w8 ⟨wc.heap.size+1,0,none⟩=false:=?_;rotate_left;(focus (refine (hfx _ ?_).trans ?_<;>(go_simp;done)));have cqd:World.frozen? w8 ⟨wc.heap.size+1,1,none⟩=false:=?_;rotate_left;(focus (refine (hfx _ ?_).trans ?_<;>(go_simp;done)));have cqe:wc.heap.size+1<w8.heap.size:=(by omega);have cqn:=Lh (Nbx.mk cqa cqb cqc cqd cqe)));clear h8 hcx hfx hb8))
    | (go_at_call_of 68 (Value.slice B2 m2 d2);go_must (refine (from_any _ _ _ _ _ _ ?_ fb.smn).mono ?_;(exact (R2.out.move Hb8.out).hq.at_.below Bel.go);rintro e w9 ⟨n9,A9,l9,c9,rfl,h9,hb9⟩;rw[sgn_false] at h9;have H8':=Lh (H8.out.below (Below.trans Bel.go (hb9.mono (by simp<;>omega))));have H9:=Lh h9;have Hb9:Hid (Below wc.heap.size wc w9):=Lh (Hb8.out.trans ((Below.trans Bel.go (hb9.mono (by simp<;>omega))).mono Hb8.out.size));have zz:=hb9.size;(try simp only[World.size_alloc] at zz);have v18:w9.heap.size≠w.heap.size:=(by omega);have v19:w9.heap.size≠w.heap.size+1:=(by omega);have v20:w9.heap.size+1≠w.heap.size:=(by omega);have v21:w9.heap.size+1≠w.heap.size+1:=(by omega);obtain ⟨hcx,hfx⟩:=bcellS hb9;have u0:w9.cell? ⟨w.heap.size,2,none⟩=some (.slice B1 m1 d1):=(hcx _ (by go_simp)).trans (by go_simp);have u1:w9.cell? ⟨w.heap.size+1,2,none⟩=some (.slice B2 m2 d2):=(hcx _ (by go_simp)).trans (by go_simp);(try (have cra:World.cell? w9 ⟨wc.heap.size,0,none⟩=some (.bool false):=?_;rotate_left;(focus (refine (hcx _ ?_).trans ?_<;>(go_simp;done)));have crb:World.cell? w9 ⟨wc.heap.size,1,none⟩=some (.slice none 0 0):=?_;rotate_left;(focus (refine (hcx _ ?_).trans ?_<;>(go_simp;done)));have crc:World.frozen? w9 ⟨wc.heap.size,0,none⟩=false:=?_;rotate_left;(focus (refine (hfx _ ?_).trans ?_<;>(go_simp;done)));have crd:World.frozen? w9 ⟨wc.heap.size,1,none⟩=false:=?_;rotate_left;(focus (refine (hfx _ ?_).trans ?_<;>(go_simp;done)));have cre:wc.heap.size<w9.heap.size:=(by omega);have crn:=Lh (Nbx.mk cra crb crc crd cre)));(try (have csa:World.cell? w9 ⟨wc.heap.size+1,0,none⟩=some (.bool false):=?_;rotate_left;(focus (refine (hcx _ ?_).trans ?_<;>(go_simp;done)));have csb:World.cell? w9 ⟨wc.heap.size+1,1,none⟩=some (.slice none 0 0):=?_;rotate_left;(focus (refine (hcx _ ?_).trans ?_<;>(go_simp;done)));have csc:World.frozen? w9 ⟨wc.heap.size+1,0,none⟩=false:=?_;rotate_left;(focus (refine (hfx _ ?_).trans ?_<;>(go_simp;done)));have csd:World.frozen? w9 ⟨wc.heap.size+1,1,none⟩=false:=?_;rotate_left;(focus (refine (hfx _ ?_).trans ?_<;>(go_simp;done)));have cse:wc.heap.size+1<w9.heap.size:=(by omega);have csn:=Lh (Nbx.mk csa csb csc csd cse)));(try (have cta:World.cell? w9 ⟨w8.heap.size,0,none⟩=some (.bool false):=?_;rotate_left;(focus (refine (hcx _ ?_).trans ?_<;>(go_simp;done)));have ctb:World.cell? w9 ⟨w8.heap.size,1,none⟩=some (.slice none 0 0):=?_;rotate_left;(focus (refine (hcx _ ?_).trans ?_<;>(go_simp;done)));have ctc:World.frozen? w9 ⟨w8.heap.size,0,none⟩=false:=?_;rotate_left;(focus (refine (hfx _ ?_).trans ?_<;>(go_simp;done)));have ctd:World.frozen? w9 ⟨w8.heap.size,1,none⟩=false:=?_;rotate_left;(focus (refine (hfx _ ?_).trans ?_<;>(go_simp;done)));have cte:w8.heap.size<w9.heap.size:=(by omega);have ctn:=Lh (Nbx.mk cta ctb ctc ctd cte)));(try (have cua:World.cell? w9 ⟨w8.heap.size+1,0,none⟩=some (.bool false):=?_;rotate_left;(focus (refine (hcx _ ?_).trans ?_<;>(go_simp;done)));have cub:World.cell? w9 ⟨w8.heap.size+1,1,none⟩=some (.slice none 0 0):=?_;rotate_left;(focus (refine (hcx _ ?_).trans ?_<;>(go_simp;done)));have cuc:World.frozen? w9 ⟨w8.heap.size+1,0,none⟩=false:=?_;rotate_left;(focus (refine (hfx _ ?_).trans ?_<;>(go_simp;done)));have cud:World.frozen? w9 ⟨w8.heap.size+1,1,none⟩=false:=?_;rotate_left;(focus (refine (hfx _ ?_).trans ?_<;>(go_simp;done)));have cue:w8.heap.size+1<w9.heap.size:=(by omega);have cun:=Lh (Nbx.mk cua cub cuc cud cue)));clear h9 hcx hfx hb9)))
   all_goals go_wp2_with fail
   all_goals go_meet
   all_goals (rename_i hHeld;clear hHeld R1 R2 I4 I5 I6 Hb H8 Hb8)
   all_goals (first | exact two_a H8'.out H9.out Hb9.out | exact two_b H8'.out H9.out Hb9.out | (refine two_c ?_ H8'.out H9.out Hb9.out (by omega);exact Hid.out (by assumption)) | (refine two_e ?_ H8'.out H9.out Hb9.out (by omega);exact Hid.out (by assumption)) | (refine two_d ?_ ?_ (by omega) H8'.out H9.out Hb9.out (by omega) (by omega)<;>exact Hid.out (by assumption)))
  case rest =>
   obtain ⟨g7,n7,A7,l7,c7,g8,n8,A8,l8,c8,rfl,rfl,hg78,hg7,hg8,h7,h8,hb8⟩:=hcut
   replace R1:=Lh (R1.out.move hb8)
   replace R2:=Lh (R2.out.move hb8)
   replace I4:=Lh (I4.out.move hb8)
   replace I5:=Lh (I5.out.move hb8)
   replace I6:=Lh (I6.out.move hb8)
   replace Hb:=Lh (Hb.out.trans (hb8.mono Hb.out.size))
   have I7:=Lh h7
   have I8:=Lh h8
   clear h7 h8 hb8 p0 q0
   have x0:=I7.out.c0
   have x1:=I7.out.c1
   have y0:=I8.out.c0
   have y1:=I8.out.c1
   go_wp2_with fail
   refine (lcm_any _ _ _ _ _ _ _ _ _ _ _ I7.out.hz I8.out.hz na0 nb0 fa fb).mono ?_
   rintro e w9 ⟨n9,A9,l9,c9,rfl,h9,hb9⟩
   rw[HC.out] at h9
   replace R1:=Lh (R1.out.move hb9)
   replace R2:=Lh (R2.out.move hb9)
   replace I4:=Lh (I4.out.move hb9)
   replace I5:=Lh (I5.out.move hb9)
   replace I6:=Lh (I6.out.move hb9)
   replace I7:=Lh (I7.out.move hb9)
   replace I8:=Lh (I8.out.move hb9)
   replace Hb:=Lh (Hb.out.trans (hb9.mono Hb.out.size))
   have v0:=I6.out.c0
   have v1:=I6.out.c1
   have v2:=I6.out.f0
   have v3:=I6.out.f1
   have H9:=Lh h9
   clear h9 hb9 x0 x1 y0 y1
   have x0:=I7.out.c0
   have x1:=I7.out.c1
   have y0:=I8.out.c0
   have y1:=I8.out.c1
   have ng7:w.heap.size+1+1+1+1≠g7:=by omega
   have ng8:w.heap.size+1+1+1+1≠g8:=by omega
   have ng7':g7≠w.heap.size+1+1+1+1:=by omega
   have ng8':g8≠w.heap.size+1+1+1+1:=by omega
   have S1:=R1.out.farI I6.out (by omega) (.bool n9) (.slice A9 l9 c9)
   have S2:=R2.out.farI I6.out (by omega) (.bool n9) (.slice A9 l9 c9)
   have J4:=I4.out.far I6.out (by omega) (.bool n9) (.slice A9 l9 c9)
   have J5:=I5.out.far I6.out (by omega) (.bool n9) (.slice A9 l9 c9)
   have J7:=I7.out.far I6.out ng7' (.bool n9) (.slice A9 l9 c9)
   have J8:=I8.out.far I6.out ng8' (.bool n9) (.slice A9 l9 c9)
   have J6:=I6.out.put H9.out
   have Jb:=(Hb.out.setCell (p:=⟨w.heap.size+1+1+1+1,0,none⟩) (by simp;omega) (.bool n9)).setCell (p:=⟨w.heap.size+1+1+1+1,1,none⟩) (by simp;omega) (.slice A9 l9 c9)
   have HS1:=Lh S1
   have HS2:=Lh S2
   have HJ4:=Lh J4
   have HJ5:=Lh J5
   have HJ6:=Lh J6
   have HJ7:=Lh J7
   have HJ8:=Lh J8
   have HJb:=Lh Jb
   clear S1 S2 J4 J5 J6 J7 J8 Jb R1 R2 I4 I5 I6 I7 I8 Hb H9
   go_wp2_with fail
   refine (iexact_any _ _ _ _ _ _ _ _ _ _ _ HJ6.out.hz.at_ HJ7.out.hz.at_ fD.sm fa.sm na0 Ta.out).mono ?_
   rintro e w10 ⟨n10,A10,l10,c10,rfl,h10,hb10⟩
   rw[<- HU.out] at h10
   have hbn:=below_new w10 (ibox n10 A10 l10 c10)
   have hb11:=hb10.trans (hbn.mono hb10.size)
   have R1:=Lh (HS1.out.move hb11)
   have R2:=Lh (HS2.out.move hb11)
   have I4:=Lh (HJ4.out.move hb11)
   have I5:=Lh (HJ5.out.move hb11)
   have I6:=Lh (HJ6.out.move hb11)
   have I8:=Lh (HJ8.out.move hb11)
   have I9:=Lh (IBox.make h10)
   have Hb:=Lh (HJb.out.trans (hb11.mono HJb.out.size))
   have lt10:w.heap.size+1+1+1+1<w10.heap.size:=(HJ6.out.move hb10).lt
   clear HS1 HS2 HJ4 HJ5 HJ6 HJ7 HJ8 HJb h10 hb10 hbn hb11 v0 v1 v2 v3 x0 x1 y0 y1
   have v0:=I6.out.c0
   have v1:=I6.out.c1
   have y0:=I8.out.c0
   have y1:=I8.out.c1
   go_wp2_with fail
   refine (iexact_any _ _ _ _ _ _ _ _ _ _ _ I6.out.hz.at_ I8.out.hz.at_ fD.sm fb.sm nb0 Tb.out).mono ?_
   rintro e w11 ⟨n11,A11,l11,c11,rfl,h11,hb10⟩
   rw[<- HV.out] at h11
   have hbn:=below_new w11 (ibox n11 A11 l11 c11)
   have hb11:=hb10.trans (hbn.mono hb10.size)
   replace R1:=Lh (R1.out.move hb11)
   replace R2:=Lh (R2.out.move hb11)
   replace I4:=Lh (I4.out.move hb11)
   replace I5:=Lh (I5.out.move hb11)
   replace I6:=Lh (I6.out.move hb11)
   replace I9:=Lh (I9.out.move hb11)
   have I11:=Lh (IBox.make h11)
   replace Hb:=Lh (Hb.out.trans (hb11.mono Hb.out.size))
   have lt11:w10.heap.size<w11.heap.size:=by have:=hb10.size;simp only[World.size_alloc] at this;omega
   clear h11 hb10 hbn hb11 v0 v1 y0 y1 I8
   obtain ⟨wk,hwk⟩:∃ wk,wk=w11.alloc (ibox n11 A11 l11 c11):=⟨_,rfl⟩
   have a0:=R1.out.c0
   have a1:=R1.out.c1
   have b0:=R2.out.c0
   have b1:=R2.out.c1
   have d0:=I6.out.c0
   have d1:=I6.out.c1
   have e0:=I9.out.c0
   have e1:=I9.out.c1
   have h0:=I11.out.c0
   have h1:=I11.out.c1
   go_wp2_with fail
   rw[<- hwk] at R1 R2 I4 I5 I6 I9 I11 Hb a0 a1 b0 b1 d0 d1 e0 e1 h0 h1 ⊢
   have ltw:w11.heap.size<wk.heap.size:=I11.out.lt
   clear hwk
   have y0:w.heap.size+1+1≠w.heap.size:=by omega
   have y1:w.heap.size+1+1≠w.heap.size+1:=by omega
   have y2:w.heap.size+1+1≠w.heap.size+1+1+1+1:=by omega
   have y3:w.heap.size+1+1+1≠w.heap.size:=by omega
   have y4:w.heap.size+1+1+1≠w.heap.size+1:=by omega
   have y5:w.heap.size+1+1+1≠w.heap.size+1+1+1+1:=by omega
   have y6:w.heap.size+1+1+1+1≠w.heap.size:=by omega
   have y7:w.heap.size+1+1+1+1≠w.heap.size+1:=by omega
   have x1:w.heap.size+1+1≠w10.heap.size:=by omega
   have x2:w.heap.size+1+1≠w11.heap.size:=by omega
   have x3:w.heap.size+1+1+1≠w10.heap.size:=by omega
   have x4:w.heap.size+1+1+1≠w11.heap.size:=by omega
   have x5:w.heap.size+1+1+1+1≠w10.heap.size:=by omega
   have x6:w.heap.size+1+1+1+1≠w11.heap.size:=by omega
   refine wp_region_held_drew (S:=fun w'=>w'.cell? ⟨w.heap.size,0,none⟩=some (.bool n1)/\w'.cell? ⟨w.heap.size,1,none⟩=some (.slice A1 l1 c1)/\w'.cell? ⟨w.heap.size+1,0,none⟩=some (.bool n2)/\w'.cell? ⟨w.heap.size+1,1,none⟩=some (.slice A2 l2 c2)/\w'.cell? ⟨w10.heap.size,0,none⟩=some (.bool n10)/\w'.cell? ⟨w10.heap.size,1,none⟩=some (.slice A10 l10 c10)/\w'.cell? ⟨w11.heap.size,0,none⟩=some (.bool n11)/\w'.cell? ⟨w11.heap.size,1,none⟩=some (.slice A11 l11 c11)/\w'.cell? ⟨w.heap.size+1+1+1+1,0,none⟩=some (.bool n9)/\w'.cell? ⟨w.heap.size+1+1+1+1,1,none⟩=some (.slice A9 l9 c9)) (by kernel_rfl) (by (try dsimp only);go_keep) (fun hHeld=>?_)
   (refine tq 0 ?_;simp only[put_lit,List.set])
   (refine tq 1 ?_;simp only[put_lit,List.set])
   (refine tq 2 ?_;simp only[put_lit,List.set])
   (refine tq 4 ?_;simp only[put_lit,List.set])
   (refine tq 5 ?_;simp only[put_lit,List.set])
   (refine tq 6 ?_;simp only[put_lit,List.set])
   (refine tq 8 ?_;simp only[put_lit,List.set])
   refine rdy 3 (fun K hK=>?_);go_simp
   refine (imul_any _ _ _ _ _ _ _ _ _ _ _ (R1.out.hz.at_.below Bel.go) (I9.out.hz.at_.below Bel.go) f1.sm fU.sm (f1.mulok _)).mono ?_
   rintro e w12 ⟨n12,A12,l12,c12,rfl,h12,hb12⟩
   obtain ⟨hcx,hfx⟩:=bcellS hb12
   replace R2:=Lh (R2.out.move (Below.trans Bel.go (hb12.mono (by simp<;>omega))))
   replace I4:=Lh (I4.out.move (Below.trans Bel.go (hb12.mono (by simp<;>omega))))
   replace I5:=Lh (I5.out.move (Below.trans Bel.go (hb12.mono (by simp<;>omega))))
   replace I6:=Lh (I6.out.move (Below.trans Bel.go (hb12.mono (by simp<;>omega))))
   replace I11:=Lh (I11.out.move (Below.trans Bel.go (hb12.mono (by simp<;>omega))))
   replace Hb:=Lh (Hb.out.trans ((Below.trans Bel.go (hb12.mono (by simp<;>omega))).mono Hb.out.size))
   have H12:=Lh h12
   refine hK.out _ _ ?_ (fun _=>?_)
   ·((try dsimp only);repeat' apply And.intro)<;>(rw[hcx _ (by go_simp)];go_simp)
   clear hHeld hK K hcx hfx;rename_i hHeld
   clear h12 hb12 R1 I9
   refine rdy 7 (fun K hK=>?_);go_simp
   refine (imul_any _ _ _ _ _ _ _ _ _ _ _ (R2.out.hz.at_.below Bel.go) (I11.out.hz.at_.below Bel.go) f2.sm fV.sm (f2.mulok _)).mono ?_
   rintro e w13 ⟨n13,A13,l13,c13,rfl,h13,hb12⟩
   obtain ⟨hcx,hfx⟩:=bcellS hb12
   replace I4:=Lh (I4.out.move (Below.trans Bel.go (hb12.mono (by simp<;>omega))))
   replace I5:=Lh (I5.out.move (Below.trans Bel.go (hb12.mono (by simp<;>omega))))
   replace I6:=Lh (I6.out.move (Below.trans Bel.go (hb12.mono (by simp<;>omega))))
   replace Hb:=Lh (Hb.out.trans ((Below.trans Bel.go (hb12.mono (by simp<;>omega))).mono Hb.out.size))
   replace H12:=Lh (H12.out.below (Below.trans Bel.go (hb12.mono (by simp<;>omega))))
   have H13:=Lh h13
   refine hK.out _ _ ?_ (fun _=>?_)
   ·((try dsimp only);repeat' apply And.intro)<;>(rw[hcx _ (by go_simp)];go_simp)
   clear hHeld hK K hcx hfx;rename_i hHeld
   clear h13 hb12 R2 I11 a0 a1 b0 b1 d0 d1 e0 e1 h0 h1
   have p0:=I4.out.c0
   have p1:=I4.out.c1
   have p2:=I4.out.f0
   have p3:=I4.out.f1
   refine rdy 9 (fun K hK=>?_);go_simp
   refine hK.out _ _ ?_ (fun _=>?_)
   ·(try dsimp only);go_keep
   clear hHeld hK K
   rename_i hHeld
   have F4:IBox ((w13.setCell ⟨w.heap.size+1+1,0,none⟩ (.bool n12)).setCell ⟨w.heap.size+1+1,1,none⟩ (.slice A12 l12 c12)) (w.heap.size+1+1) n12 A12 l12 c12 (z1*U):=I4.out.put H12.out
   have F5:=I5.out.far I4.out (by omega) (.bool n12) (.slice A12 l12 c12)
   have F6:=I6.out.far I4.out (by omega) (.bool n12) (.slice A12 l12 c12)
   have G13:=H13.out.ret (.bool n12) (.slice A12 l12 c12) p0 p1
   have Fb:=(Hb.out.setCell (p:=⟨w.heap.size+1+1,0,none⟩) (by simp;omega) (.bool n12)).setCell (p:=⟨w.heap.size+1+1,1,none⟩) (by simp;omega) (.slice A12 l12 c12)
   obtain ⟨wp,hwp⟩:∃ wp,wp=(w13.setCell ⟨w.heap.size+1+1,0,none⟩ (.bool n12)).setCell ⟨w.heap.size+1+1,1,none⟩ (.slice A12 l12 c12):=⟨_,rfl⟩
   (try simp only[put_lit,List.set])
   rw[<- hwp] at F4 F5 F6 G13 Fb hHeld
   rw[<- hwp]
   clear hwp p0 p1 p2 p3 I4 I5 I6 H12 H13 Hb
   have p0:=F5.c0
   have p1:=F5.c1
   have p2:=F5.f0
   have p3:=F5.f1
   have K4:=Lh F4
   have K5:=Lh F5
   have K6:=Lh F6
   have K13:=Lh G13
   have Kb:=Lh Fb
   clear F4 F5 F6 G13 Fb
   refine rdy 10 (fun K hK=>?_);go_simp
   refine hK.out _ _ ?_ (fun _=>?_)
   ·(try dsimp only);go_keep
   clear hHeld hK K
   rename_i hHeld
   have F5:IBox ((wp.setCell ⟨w.heap.size+1+1+1,0,none⟩ (.bool n13)).setCell ⟨w.heap.size+1+1+1,1,none⟩ (.slice A13 l13 c13)) (w.heap.size+1+1+1) n13 A13 l13 c13 (z2*V):=K5.out.put K13.out
   have F4:=K4.out.far K5.out (by omega) (.bool n13) (.slice A13 l13 c13)
   have F6:=K6.out.far K5.out (by omega) (.bool n13) (.slice A13 l13 c13)
   have Fb:=(Kb.out.setCell (p:=⟨w.heap.size+1+1+1,0,none⟩) (by simp;omega) (.bool n13)).setCell (p:=⟨w.heap.size+1+1+1,1,none⟩) (by simp;omega) (.slice A13 l13 c13)
   obtain ⟨wq,hwq⟩:∃ wq,wq=(wp.setCell ⟨w.heap.size+1+1+1,0,none⟩ (.bool n13)).setCell ⟨w.heap.size+1+1+1,1,none⟩ (.slice A13 l13 c13):=⟨_,rfl⟩
   (try simp only[put_lit,List.set])
   rw[<- hwq] at F4 F5 F6 Fb hHeld
   rw[<- hwq]
   clear hwq p0 p1 p2 p3 K4 K5 K6 K13 Kb
   have p0:=F6.c0
   have p1:=F6.c1
   have p2:=F6.f0
   have p3:=F6.f1
   have K4:=Lh F4
   have K5:=Lh F5
   have K6:=Lh F6
   have Kb:=Lh Fb
   clear F4 F5 F6 Fb
   refine rdy 11 (fun K hK=>?_);go_simp
   refine hK.out _ _ ?_ (fun _=>?_)
   ·(try dsimp only);go_keep;exact ⟨(K6.out.put K6.out.hz).c0,(K6.out.put K6.out.hz).c1⟩
   clear hHeld hK K
   have F6:IBox ((wq.setCell ⟨w.heap.size+1+1+1+1,0,none⟩ (.bool n9)).setCell ⟨w.heap.size+1+1+1+1,1,none⟩ (.slice A9 l9 c9)) (w.heap.size+1+1+1+1) n9 A9 l9 c9 D:=K6.out.put K6.out.hz
   have F4:=K4.out.far K6.out (by omega) (.bool n9) (.slice A9 l9 c9)
   have F5:=K5.out.far K6.out (by omega) (.bool n9) (.slice A9 l9 c9)
   have Fb:=(Kb.out.setCell (p:=⟨w.heap.size+1+1+1+1,0,none⟩) (by simp;omega) (.bool n9)).setCell (p:=⟨w.heap.size+1+1+1+1,1,none⟩) (by simp;omega) (.slice A9 l9 c9)
   obtain ⟨wr,hwr⟩:∃ wr,wr=(wq.setCell ⟨w.heap.size+1+1+1+1,0,none⟩ (.bool n9)).setCell ⟨w.heap.size+1+1+1+1,1,none⟩ (.slice A9 l9 c9):=⟨_,rfl⟩
   rw[<- hwr] at F4 F5 F6 Fb
   rw[<- hwr]
   clear hwr p0 p1 p2 p3 K4 K5 K6 Kb
   have r0:=F4.c0
   have r1:=F4.c1
   have r2:=F5.c0
   have r3:=F5.c1
   have r4:=F6.c0
   have r5:=F6.c1
   have K4:=Lh F4
   have K5:=Lh F5
   have K6:=Lh F6
   have Kb:=Lh Fb
   clear F4 F5 F6 Fb
   refine wpAnyH_done (by kernel_rfl) ?_ _
   go_wp2
   refine bodyPost_ret (v:=.tuple #[.agg #[.bool n12,.slice A12 l12 c12],.agg #[.bool n13,.slice A13 l13 c13],.agg #[.bool n9,.slice A9 l9 c9]]) (by simp[results,Tryz.results51,go_sem,r0,r1,r2,r3,r4,r5]) rfl ⟨_,_,_,_,_,_,_,_,_,_,_,_,rfl,K4.out.hz,K5.out.hz,K6.out.hz,Kb.out⟩
end Go.Proofs.YtphmkdmflopcdaaGreat
