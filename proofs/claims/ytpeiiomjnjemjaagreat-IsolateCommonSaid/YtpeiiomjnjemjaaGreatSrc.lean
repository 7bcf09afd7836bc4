/- The state of descartes.Roots' search: an own row of roots that grows by append, the frame of a call. -/
import Derived.Test.YtpeiiomjnjemjaaGreatRed
import Derived.Test.YtpeiiomjnjemjaaGreatLes
import Derived.Test.YtpeiiomjnjemjaaGreatSft
import Derived.Test.YtpeiiomjnjemjaaGreatOwp
import Derived.ArgAppend
namespace Go.Proofs.YtpeiiomjnjemjaaGreat
open Go.RowKit
def One (W:World) (z:Int) (s:Value) (wx:World):Prop:=∃ g n A l c,s=.pointer (some ⟨g,0,none⟩)/\W.heap.size<=g/\IBox wx g n A l c z/\Below W.heap.size W wx
section
variable {W w9:World} {n:Bool} {A:Option Addr} {l c g:Nat} {z:Int}
theorem one_a (H:IntN w9 n A l c z) (hb:Below W.heap.size W w9):One W z (.pointer (some ⟨w9.heap.size,0,none⟩)) (w9.alloc (ibox n A l c)) :=
 ⟨_,_,_,_,_,rfl,hb.size,IBox.make H,hb.alloc hb.size _⟩
theorem one_c (h:Nbx w9 g) (H:IntN w9 n A l c z) (hb:Below W.heap.size W w9) (hg:W.heap.size<=g):One W z (.pointer (some ⟨g,0,none⟩)) ((w9.setCell ⟨g,0,none⟩ (.bool n)).setCell ⟨g,1,none⟩ (.slice A l c)) :=
 ⟨_,_,_,_,_,rfl,hg,h.box.put H,below_put2 hb hg _ _⟩
end
set_option maxRecDepth 100000 in
set_option maxHeartbeats 8000000 in
theorem mid_any (n:Bool) (A:Option Addr) (l c:Nat) (B:Option Addr) (m d q:Nat) (z:Int) (n':Bool) (A':Option Addr) (l' c':Nat) (B':Option Addr) (m' d' q':Nat) (z':Int) (w:World) (hz:IntN w n A l c z) (hq:NatN w B m d q) (hz':IntN w n' A' l' c' z') (hq':NatN w B' m' d' q') (fz:Fit z) (fq:Fit (q:Int)) (h0:0<q) (fz':Fit z') (fq':Fit (q':Int)) (h0':0<q') :
  Calls Tryz.prog 56 #[.agg #[.bool n,.slice A l c,.slice B m d],.agg #[.bool n',.slice A' l' c',.slice B' m' d']] w fun e w'=>RatE ((z*(q':Int)+z'*(q:Int)).tdiv (Nat.gcd (z*(q':Int)+z'*(q:Int)).natAbs (q*q'*2))) (q*q'*2 / Nat.gcd (z*(q':Int)+z'*(q:Int)).natAbs (q*q'*2)) e w'/\Below w.heap.size w w':=by
 have sq:=fq.smn
 have sq':=fq'.smn
 obtain ⟨S1,hS1⟩:∃ S1,S1=z*(q':Int):=⟨_,rfl⟩
 obtain ⟨S2,hS2⟩:∃ S2,S2=z'*(q:Int):=⟨_,rfl⟩
 obtain ⟨DD,hDD⟩:∃ DD,DD=q*q'*2:=⟨_,rfl⟩
 have ss1:SmI S1:=by rw[hS1];exact fz.sm2 fq'
 have ss2:SmI S2:=by rw[hS2];exact fz'.sm2 fq
 have ssum:Sm (S1.natAbs+S2.natAbs):=by
  have a1:=fz.mul fq'
  have a2:=fz'.mul fq
  rw[<- hS1] at a1
  rw[<- hS2] at a2
  refine sm_pow (k:=FW+FW+1) ?_ (by rw[FW_eq];omega)
  have a3:2*BB^(FW+FW)<BB^(FW+FW+1):=mulpow_lt (by omega)
  omega
 have sS:SmI (S1+S2):=Sm.mono ssum (Int.natAbs_add_le _ _)
 have sqq:SmI ((q:Int)*(q':Int)):=fq.sm2 fq'
 have sD:SmI (DD:Int):=by
  have a1:=fq.mul fq'
  refine sm_pow (k:=FW+FW+1) ?_ (by rw[FW_eq];omega)
  rw[hDD]
  have a3:2*BB^(FW+FW)<BB^(FW+FW+1):=mulpow_lt (by omega)
  rw[Int.natAbs_natCast]
  rw[Int.natAbs_mul,Int.natAbs_natCast,Int.natAbs_natCast] at a1
  omega
 have hD0:0<DD:=by rw[hDD];exact Nat.mul_pos (Nat.mul_pos h0 h0') (by omega)
 rw[<- hS1,<- hS2,<- hDD]
 have HS1:=Lh hS1
 have HS2:=Lh hS2
 have HDD:=Lh hDD
 clear hS1 hS2 hDD
 have o1:=below_new w (rbox n A l c B m d)
 have o2:=below_new (w.alloc (rbox n A l c B m d)) (rbox n' A' l' c' B' m' d')
 have o3:=below_new ((w.alloc (rbox n A l c B m d)).alloc (rbox n' A' l' c' B' m' d')) (rbox false none 0 0 none 0 0)
 have b3:Below w.heap.size w (((w.alloc (rbox n A l c B m d)).alloc (rbox n' A' l' c' B' m' d')).alloc (rbox false none 0 0 none 0 0)):=(o1.alloc (by simp) _).alloc (by simp;omega) _
 have R1:=((RBox.make hz hq).move o2).move o3
 have R2:=(RBox.make (hz'.below o1) (hq'.below o1)).move o3
 have R4:=RBox.nil ((w.alloc (rbox n A l c B m d)).alloc (rbox n' A' l' c' B' m' d'))
 simp only[World.size_alloc] at R2 R4
 replace R1:=Lh R1
 replace R2:=Lh R2
 replace R4:=Lh R4
 have Hb:=Lh b3
 clear o1 o2 o3 b3 hz hq hz' hq'
 go_enter Tryz.func56,Tryz.ntmps56
 go_wp2_with fail
 refine (parts_any _ _ _ _ _ _ _ _ _ R1.out.hq.at_ sq (by omega)).mono ?_
 rintro e w1 ⟨rfl,hb1⟩
 replace R1:=Lh (R1.out.move hb1)
 replace R2:=Lh (R2.out.move hb1)
 replace R4:=Lh (R4.out.move hb1)
 replace Hb:=Lh (Hb.out.trans (hb1.mono Hb.out.size))
 have lt4:w.heap.size+1+1<w1.heap.size:=R4.out.lt
 have x0:=R2.out.c0
 have x1:=R2.out.c1
 have x2:=R2.out.c2
 have ltx:w.heap.size+1<w1.heap.size:=by omega
 have lty:w.heap.size+1<w1.heap.size+1:=by omega
 clear hb1
 go_wp2_with fail
 have k1:=below_new w1 (ibox n A l c)
 have k2:=below_new (w1.alloc (ibox n A l c)) (ibox false B m d)
 have kb:Below w1.heap.size w1 ((w1.alloc (ibox n A l c)).alloc (ibox false B m d)):=k1.alloc (by simp) _
 have i5:=(IBox.make R1.out.hz).move k2
 have hqP:IntN w1 false B m d (q:Int):=⟨by rw[Int.natAbs_natCast];exact R1.out.hq,by simp⟩
 have i6:=IBox.make (hqP.below k1)
 simp only[World.size_alloc] at i6
 replace R2:=Lh (R2.out.move kb)
 replace R4:=Lh (R4.out.move kb)
 replace Hb:=Lh (Hb.out.trans (kb.mono Hb.out.size))
 have I5:=Lh i5
 have I6:=Lh i6
 clear k1 k2 kb i5 i6 hqP R1 x0 x1 x2
 refine (parts_any _ _ _ _ _ _ _ _ _ R2.out.hq.at_ sq' (by omega)).mono ?_
 rintro e w2 ⟨rfl,hb2⟩
 have hsz2:=hb2.size
 simp only[World.size_alloc] at hsz2
 replace I5:=Lh (I5.out.move hb2)
 replace I6:=Lh (I6.out.move hb2)
 replace R2:=Lh (R2.out.move hb2)
 replace R4:=Lh (R4.out.move hb2)
 replace Hb:=Lh (Hb.out.trans (hb2.mono Hb.out.size))
 have k1:=below_new w2 (ibox n' A' l' c')
 have k2:=below_new (w2.alloc (ibox n' A' l' c')) (ibox false B' m' d')
 have kb:Below w2.heap.size w2 ((w2.alloc (ibox n' A' l' c')).alloc (ibox false B' m' d')):=k1.alloc (by simp) _
 have i7:=(IBox.make R2.out.hz).move k2
 have hqP:IntN w2 false B' m' d' (q':Int):=⟨by rw[Int.natAbs_natCast];exact R2.out.hq,by simp⟩
 have i8:=IBox.make (hqP.below k1)
 simp only[World.size_alloc] at i8
 replace I5:=Lh (I5.out.move kb)
 replace I6:=Lh (I6.out.move kb)
 replace R4:=Lh (R4.out.move kb)
 replace Hb:=Lh (Hb.out.trans (kb.mono Hb.out.size))
 have I7:=Lh i7
 have I8:=Lh i8
 clear k1 k2 kb i7 i8 hqP R2 hb2
 obtain ⟨wc,hwc⟩:∃ wc,wc=(w2.alloc (ibox n' A' l' c')).alloc (ibox false B' m' d'):=⟨_,rfl⟩
 have hszc:wc.heap.size=w2.heap.size+1+1:=by rw[hwc];simp
 go_wp2_with fail
 rw[<- hwc] at I5 I6 I7 I8 R4 Hb ⊢
 clear hwc
 obtain ⟨g4,hg4⟩:∃ g,g=w.heap.size+1+1:=⟨_,rfl⟩
 obtain ⟨g5,hg5⟩:∃ g,g=w1.heap.size:=⟨_,rfl⟩
 obtain ⟨g6,hg6⟩:∃ g,g=w1.heap.size+1:=⟨_,rfl⟩
 obtain ⟨g7,hg7⟩:∃ g,g=w2.heap.size:=⟨_,rfl⟩
 obtain ⟨g8,hg8⟩:∃ g,g=w2.heap.size+1:=⟨_,rfl⟩
 rw[<- hg4] at R4
 rw[<- hg5] at I5
 rw[<- hg6] at I6
 rw[<- hg7] at I7
 rw[<- hg8] at I8
 rw[<- hg4,<- hg6,<- hg5,<- hg8,<- hg7]
 have l4:g4<wc.heap.size:=by omega
 have l4w:w.heap.size<g4:=by omega
 have l5:g5<wc.heap.size:=by omega
 have l6:g6<wc.heap.size:=by omega
 have l7:g7<wc.heap.size:=by omega
 have l8:g8<wc.heap.size:=by omega
 clear hg4 hg5 hg6 hg7 hg8 hszc hsz2 lt4 ltx lty
 have a0:=I5.out.c0
 have a1:=I5.out.c1
 have b0:=I6.out.c0
 have b1:=I6.out.c1
 have d0:=I7.out.c0
 have d1:=I7.out.c1
 have e0:=I8.out.c0
 have e1:=I8.out.c1
 go_cut [9] (fun s9 wx=>One wc (S1+S2) s9 wx)
 case first =>
  have nl4:wc.heap.size≠g4:=by omega
  have nl5:wc.heap.size≠g5:=by omega
  have nl6:wc.heap.size≠g6:=by omega
  have nl7:wc.heap.size≠g7:=by omega
  have nl8:wc.heap.size≠g8:=by omega
  go_region_held3 (fun w'=>w'.cell? ⟨g5,0,none⟩=some (.bool n)/\w'.cell? ⟨g5,1,none⟩=some (.slice A l c)/\w'.cell? ⟨g6,0,none⟩=some (.bool false)/\w'.cell? ⟨g6,1,none⟩=some (.slice B m d)/\w'.cell? ⟨g7,0,none⟩=some (.bool n')/\w'.cell? ⟨g7,1,none⟩=some (.slice A' l' c')/\w'.cell? ⟨g8,0,none⟩=some (.bool false)/\w'.cell? ⟨g8,1,none⟩=some (.slice B' m' d')) (go_keep) (first
   | (go_at_call 17;(have _hx:=H8);go_must (refine (imul_any _ _ _ _ _ _ _ _ _ _ _ ?_ ?_ fz'.sm fq.sm (fz'.mulok _)).mono ?_;(exact ((I7.out.move Hb8.out).hz.at_.below Bel.go));(exact ((I6.out.move Hb8.out).hz.at_.below Bel.go));rintro e w9 ⟨n9,A9,l9,c9,rfl,h9,hb9⟩;rw[<- HS2.out] at h9;have H9:=Lh h9;have H8':=Lh (H8.out.below (Below.trans Bel.go (hb9.mono (by simp<;>omega))));have Hb9:Hid (Below wc.heap.size wc w9):=Lh (Hb8.out.trans ((Below.trans Bel.go (hb9.mono (by simp<;>omega))).mono Hb8.out.size));have zz:=hb9.size;(try simp only[World.size_alloc] at zz);have v4:w9.heap.size≠g5:=(by omega);have v5:w9.heap.size≠g6:=(by omega);have v6:w9.heap.size≠g7:=(by omega);have v7:w9.heap.size≠g8:=(by omega);obtain ⟨hcx,hfx⟩:=bcellS hb9;have j0:World.cell? w9 ⟨g5,0,none⟩=some (.bool n):=(hcx _ (by go_simp)).trans (by go_simp);have j1:World.cell? w9 ⟨g5,1,none⟩=some (.slice A l c):=(hcx _ (by go_simp)).trans (by go_simp);have j2:World.cell? w9 ⟨g6,0,none⟩=some (.bool false):=(hcx _ (by go_simp)).trans (by go_simp);have j3:World.cell? w9 ⟨g6,1,none⟩=some (.slice B m d):=(hcx _ (by go_simp)).trans (by go_simp);have j4:World.cell? w9 ⟨g7,0,none⟩=some (.bool n'):=(hcx _ (by go_simp)).trans (by go_simp);have j5:World.cell? w9 ⟨g7,1,none⟩=some (.slice A' l' c'):=(hcx _ (by go_simp)).trans (by go_simp);have j6:World.cell? w9 ⟨g8,0,none⟩=some (.bool false):=(hcx _ (by go_simp)).trans (by go_simp);have j7:World.cell? w9 ⟨g8,1,none⟩=some (.slice B' m' d'):=(hcx _ (by go_simp)).trans (by go_simp);(try (have cra:World.cell? w9 ⟨wc.heap.size,0,none⟩=some (.bool false):=?_;rotate_left;(focus (refine (hcx _ ?_).trans ?_<;>(go_simp;done)));have crb:World.cell? w9 ⟨wc.heap.size,1,none⟩=some (.slice none 0 0):=?_;rotate_left;(focus (refine (hcx _ ?_).trans ?_<;>(go_simp;done)));have crc:World.frozen? w9 ⟨wc.heap.size,0,none⟩=false:=?_;rotate_left;(focus (refine (hfx _ ?_).trans ?_<;>(go_simp;done)));have crd:World.frozen? w9 ⟨wc.heap.size,1,none⟩=false:=?_;rotate_left;(focus (refine (hfx _ ?_).trans ?_<;>(go_simp;done)));have cre:wc.heap.size<w9.heap.size:=(by omega);have crn:=Lh (Nbx.mk cra crb crc crd cre)));(try (have cta:World.cell? w9 ⟨w8.heap.size,0,none⟩=some (.bool false):=?_;rotate_left;(focus (refine (hcx _ ?_).trans ?_<;>(go_simp;done)));have ctb:World.cell? w9 ⟨w8.heap.size,1,none⟩=some (.slice none 0 0):=?_;rotate_left;(focus (refine (hcx _ ?_).trans ?_<;>(go_simp;done)));have ctc:World.frozen? w9 ⟨w8.heap.size,0,none⟩=false:=?_;rotate_left;(focus (refine (hfx _ ?_).trans ?_<;>(go_simp;done)));have ctd:World.frozen? w9 ⟨w8.heap.size,1,none⟩=false:=?_;rotate_left;(focus (refine (hfx _ ?_).trans ?_<;>(go_simp;done)));have cte:w8.heap.size<w9.heap.size:=(by omega);have ctn:=Lh (Nbx.mk cta ctb ctc ctd cte)));clear h9 hcx hfx hb9))
   | (go_at_call 17;go_must (refine (imul_any _ _ _ _ _ _ _ _ _ _ _ ?_ ?_ fz.sm fq'.sm (fz.mulok _)).mono ?_;(exact (I5.out.hz.at_.below Bel.go));(exact (I8.out.hz.at_.below Bel.go));rintro e w8 ⟨n8,A8,l8,c8,rfl,h8,hb8⟩;rw[<- HS1.out] at h8;have H8:=Lh h8;have Hb8:Hid (Below wc.heap.size wc w8):=Lh (Below.trans Bel.go (hb8.mono (by simp<;>omega)));have zy:=hb8.size;(try simp only[World.size_alloc,World.size_drew] at zy);have v0:w8.heap.size≠g5:=(by omega);have v1:w8.heap.size≠g6:=(by omega);have v2:w8.heap.size≠g7:=(by omega);have v3:w8.heap.size≠g8:=(by omega);obtain ⟨hcx,hfx⟩:=bcellS hb8;have i0:World.cell? w8 ⟨g5,0,none⟩=some (.bool n):=(hcx _ (by go_simp)).trans (by go_simp);have i1:World.cell? w8 ⟨g5,1,none⟩=some (.slice A l c):=(hcx _ (by go_simp)).trans (by go_simp);have i2:World.cell? w8 ⟨g6,0,none⟩=some (.bool false):=(hcx _ (by go_simp)).trans (by go_simp);have i3:World.cell? w8 ⟨g6,1,none⟩=some (.slice B m d):=(hcx _ (by go_simp)).trans (by go_simp);have i4:World.cell? w8 ⟨g7,0,none⟩=some (.bool n'):=(hcx _ (by go_simp)).trans (by go_simp);have i5:World.cell? w8 ⟨g7,1,none⟩=some (.slice A' l' c'):=(hcx _ (by go_simp)).trans (by go_simp);have i6:World.cell? w8 ⟨g8,0,none⟩=some (.bool false):=(hcx _ (by go_simp)).trans (by go_simp);have i7:World.cell? w8 ⟨g8,1,none⟩=some (.slice B' m' d'):=(hcx _ (by go_simp)).trans (by go_simp);(try (have cpa:World.cell? w8 ⟨wc.heap.size,0,none⟩=some (.bool false):=?_;rotate_left;(focus (refine (hcx _ ?_).trans ?_<;>(go_simp;done)));have cpb:World.cell? w8 ⟨wc.heap.size,1,none⟩=some (.slice none 0 0):=?_;rotate_left;(focus (refine (hcx _ ?_).trans ?_<;>(go_simp;done)));have cpc:World.frozen? w8 ⟨wc.heap.size,0,none⟩=false:=?_;rotate_left;(focus (refine (hfx _ ?_).trans ?_<;>(go_simp;done)));have cpd:World.frozen? w8 ⟨wc.heap.size,1,none⟩=false:=?_;rotate_left;(focus (refine (hfx _ ?_).trans ?_<;>(go_simp;done)));have cpe:wc.heap.size<w8.heap.size:=(by omega);have cpn:=Lh (Nbx.mk cpa cpb cpc cpd cpe)));clear h8 hcx hfx hb8))
   | (go_at_call 16;go_must (refine (iadd_any _ _ _ _ _ _ _ _ _ _ _ ?_ ?_ ss1 ss2 ssum).mono ?_;(exact H8'.out.at_.below Bel.go);(exact H9.out.at_.below Bel.go);rintro e w10 ⟨n10,A10,l10,c10,rfl,h10,hb10⟩;have H10:=Lh h10;have Hb10:Hid (Below wc.heap.size wc w10):=Lh (Hb9.out.trans ((Below.trans Bel.go (hb10.mono (by simp<;>omega))).mono Hb9.out.size));have zw:=hb10.size;(try simp only[World.size_alloc] at zw);have v8:w10.heap.size≠g5:=(by omega);have v9:w10.heap.size≠g6:=(by omega);have v10:w10.heap.size≠g7:=(by omega);have v11:w10.heap.size≠g8:=(by omega);obtain ⟨hcx,hfx⟩:=bcellS hb10;have k0:World.cell? w10 ⟨g5,0,none⟩=some (.bool n):=(hcx _ (by go_simp)).trans (by go_simp);have k1:World.cell? w10 ⟨g5,1,none⟩=some (.slice A l c):=(hcx _ (by go_simp)).trans (by go_simp);have k2:World.cell? w10 ⟨g6,0,none⟩=some (.bool false):=(hcx _ (by go_simp)).trans (by go_simp);have k3:World.cell? w10 ⟨g6,1,none⟩=some (.slice B m d):=(hcx _ (by go_simp)).trans (by go_simp);have k4:World.cell? w10 ⟨g7,0,none⟩=some (.bool n'):=(hcx _ (by go_simp)).trans (by go_simp);have k5:World.cell? w10 ⟨g7,1,none⟩=some (.slice A' l' c'):=(hcx _ (by go_simp)).trans (by go_simp);have k6:World.cell? w10 ⟨g8,0,none⟩=some (.bool false):=(hcx _ (by go_simp)).trans (by go_simp);have k7:World.cell? w10 ⟨g8,1,none⟩=some (.slice B' m' d'):=(hcx _ (by go_simp)).trans (by go_simp);(try (have cua:World.cell? w10 ⟨wc.heap.size,0,none⟩=some (.bool false):=?_;rotate_left;(focus (refine (hcx _ ?_).trans ?_<;>(go_simp;done)));have cub:World.cell? w10 ⟨wc.heap.size,1,none⟩=some (.slice none 0 0):=?_;rotate_left;(focus (refine (hcx _ ?_).trans ?_<;>(go_simp;done)));have cuc:World.frozen? w10 ⟨wc.heap.size,0,none⟩=false:=?_;rotate_left;(focus (refine (hfx _ ?_).trans ?_<;>(go_simp;done)));have cud:World.frozen? w10 ⟨wc.heap.size,1,none⟩=false:=?_;rotate_left;(focus (refine (hfx _ ?_).trans ?_<;>(go_simp;done)));have cue:wc.heap.size<w10.heap.size:=(by omega);have cun:=Lh (Nbx.mk cua cub cuc cud cue)));(try (have cva:World.cell? w10 ⟨w8.heap.size,0,none⟩=some (.bool false):=?_;rotate_left;(focus (refine (hcx _ ?_).trans ?_<;>(go_simp;done)));have cvb:World.cell? w10 ⟨w8.heap.size,1,none⟩=some (.slice none 0 0):=?_;rotate_left;(focus (refine (hcx _ ?_).trans ?_<;>(go_simp;done)));have cvc:World.frozen? w10 ⟨w8.heap.size,0,none⟩=false:=?_;rotate_left;(focus (refine (hfx _ ?_).trans ?_<;>(go_simp;done)));have cvd:World.frozen? w10 ⟨w8.heap.size,1,none⟩=false:=?_;rotate_left;(focus (refine (hfx _ ?_).trans ?_<;>(go_simp;done)));have cve:w8.heap.size<w10.heap.size:=(by omega);have cvn:=Lh (Nbx.mk cva cvb cvc cvd cve)));(try (have cwa:World.cell? w10 ⟨w9.heap.size,0,none⟩=some (.bool false):=?_;rotate_left;(focus (refine (hcx _ ?_).trans ?_<;>(go_simp;done)));have cwb:World.cell? w10 ⟨w9.heap.size,1,none⟩=some (.slice none 0 0):=?_;rotate_left;(focus (refine (hcx _ ?_).trans ?_<;>(go_simp;done)));have cwc:World.frozen? w10 ⟨w9.heap.size,0,none⟩=false:=?_;rotate_left;(focus (refine (hfx _ ?_).trans ?_<;>(go_simp;done)));have cwd:World.frozen? w10 ⟨w9.heap.size,1,none⟩=false:=?_;rotate_left;(focus (refine (hfx _ ?_).trans ?_<;>(go_simp;done)));have cwe:w9.heap.size<w10.heap.size:=(by omega);have cwn:=Lh (Nbx.mk cwa cwb cwc cwd cwe)));clear h10 hcx hfx hb10)))
  all_goals go_wp2_with fail
  all_goals go_meet
  all_goals (rename_i hHeld;clear hHeld I5 I6 I7 I8 R4 Hb H8 Hb8 H8' H9 Hb9)
  all_goals (first | exact one_a H10.out Hb10.out | (refine one_c ?_ H10.out Hb10.out (by omega);exact Hid.out (by assumption)))
 case rest =>
  obtain ⟨g9,n9,A9,l9,c9,rfl,hg9,i9,hb9⟩:=hcut
  have J6:=Lh (I6.out.move hb9)
  have J8:=Lh (I8.out.move hb9)
  have J4:=Lh (R4.out.move hb9)
  have Jb:=Lh (Hb.out.trans (hb9.mono Hb.out.size))
  have J9:=Lh i9
  clear I5 I6 I7 I8 R4 Hb i9 hb9 a0 a1 b0 b1 d0 d1 e0 e1
  have a0:=J9.out.c0
  have a1:=J9.out.c1
  have b0:=J6.out.c0
  have b1:=J6.out.c1
  have d0:=J8.out.c0
  have d1:=J8.out.c1
  have n49:g4≠g9:=by omega
  go_wp2_with fail
  refine wp_region_last (S:=fun w'=>w'.cell? ⟨g9,0,none⟩=some (.bool n9)/\w'.cell? ⟨g9,1,none⟩=some (.slice A9 l9 c9)/\w'.cell? ⟨g6,0,none⟩=some (.bool false)/\w'.cell? ⟨g6,1,none⟩=some (.slice B m d)/\w'.cell? ⟨g8,0,none⟩=some (.bool false)/\w'.cell? ⟨g8,1,none⟩=some (.slice B' m' d')) (by kernel_rfl) (by kernel_rfl) (by (try dsimp only);go_keep) (fun hHeld=>?_)
  simp only[List.pop_toArray,List.dropLast]
  (refine tq 0 ?_;simp only[put_lit,List.set])
  (refine tq 1 ?_;simp only[put_lit,List.set])
  (refine tq 2 ?_;simp only[put_lit,List.set])
  refine rdy 3 (fun K hK=>?_);go_simp
  refine (imul_any _ _ _ _ _ _ _ _ _ _ _ ?_ ?_ fq.sm fq'.sm (fq.mulok _)).mono ?_
  ·exact J6.out.hz.at_.below Bel.go
  ·exact J8.out.hz.at_.below Bel.go
  rintro e w10 ⟨n10,A10,l10,c10,rfl,h10,hb10⟩
  obtain ⟨hcx,hfx⟩:=bcellS hb10
  replace J9:=Lh (J9.out.move (Below.trans Bel.go (hb10.mono (by simp<;>omega))))
  replace J4:=Lh (J4.out.move (Below.trans Bel.go (hb10.mono (by simp<;>omega))))
  replace Jb:=Lh (Jb.out.trans ((Below.trans Bel.go (hb10.mono (by simp<;>omega))).mono Jb.out.size))
  have H10:=Lh h10
  refine hK.out _ _ ?_ (fun _=>?_)
  ·((try dsimp only);repeat' apply And.intro)<;>(rw[hcx _ (by go_simp)];go_simp)
  clear hHeld hK K hcx hfx;rename_i hHeld
  clear h10 hb10
  refine rdy 4 (fun K hK=>?_);go_simp
  refine (ishl_any _ _ _ _ _ 1 _ (H10.out.at_.below Bel.go) sqq (by omega)).mono ?_
  rintro e w11 ⟨n11,A11,l11,c11,rfl,h11,hb11⟩
  obtain ⟨hcx,hfx⟩:=bcellS hb11
  have e11:(q:Int)*(q':Int)*2^1=(DD:Int):=by rw[HDD.out,Int.natCast_mul,Int.natCast_mul];rfl
  rw[e11] at h11
  replace J9:=Lh (J9.out.move (Below.trans Bel.go (hb11.mono (by simp<;>omega))))
  replace J4:=Lh (J4.out.move (Below.trans Bel.go (hb11.mono (by simp<;>omega))))
  replace Jb:=Lh (Jb.out.trans ((Below.trans Bel.go (hb11.mono (by simp<;>omega))).mono Jb.out.size))
  have H11:=Lh h11
  refine hK.out _ _ ?_ (fun _=>?_)
  ·((try dsimp only);repeat' apply And.intro)<;>(rw[hcx _ (by go_simp)];go_simp)
  clear hHeld hK K hcx hfx;rename_i hHeld
  clear h11 hb11 e11
  refine rdy 5 (fun K hK=>?_);go_simp
  refine (reduce_all _ _ _ _ _ _ _ _ _ _ _ (J9.out.hz.below Bel.go) (H11.out.below Bel.go) sS sD hD0).mono ?_
  rintro e w12 ⟨⟨n12,A12,l12,c12,B12,m12,d12,rfl,h12,k12⟩,hb12⟩
  obtain ⟨hcx,hfx⟩:=bcellS hb12
  have j4:=J4.out.move (Below.trans Bel.go (hb12.mono (by simp<;>omega)))
  have Jb2:=Lh (Jb.out.trans ((Below.trans Bel.go (hb12.mono (by simp<;>omega))).mono Jb.out.size))
  refine hK.out _ _ ?_ (fun _=>?_)
  ·((try dsimp only);repeat' apply And.intro)<;>(rw[hcx _ (by go_simp)];go_simp)
  clear hHeld hK K hcx hfx;rename_i hHeld
  refine wpAnyH_done (by kernel_rfl) (lastQ_list rfl ?_) _
  have HP:=Lh (j4.put h12 k12)
  have r0:=j4.c0
  have r1:=j4.c1
  have r2:=j4.c2
  have r3:=j4.f0
  have r4:=j4.f1
  have r5:=j4.f2
  clear hHeld j4 h12 k12 hb12 a0 a1 b0 b1 d0 d1
  go_wp2
  refine bodyPost_ret (v:=.agg #[.bool n12,.slice A12 l12 c12,.slice B12 m12 d12]) (by simp[results,Tryz.results56,go_sem,r0,r1,r2]) rfl ⟨⟨_,_,_,_,_,_,_,rfl,HP.out.hz,HP.out.hq⟩,?_⟩
  exact ((Jb2.out.setCell (p:=⟨g4,0,none⟩) (by simp;omega) _).setCell (p:=⟨g4,1,none⟩) (by simp;omega) _).setCell (p:=⟨g4,2,none⟩) (by simp;omega) _
end Go.Proofs.YtpeiiomjnjemjaaGreat
namespace Go.Proofs.YtpeiiomjnjemjaaGreat
open Go
section
variable {P:Program} {ops:Array Oper} {Q:Exit->Act->World->Prop} {md:Region.Mode}
def lastBT (md:Region.Mode) (ops:Array Oper):Bool :=
 decide (0<ops.size) &&
 ((List.range (ops.size-1)).all fun i=>((ops[ops.size-1]?).map fun o=>o.after.any fun e=>Region.binds md e && (e.on == i || ((ops[e.on]?).map fun o'=>o'.after.any fun e'=>Region.binds md e' && e'.on == i).getD false)).getD false) &&
 ((List.range ops.size).all fun i=>((ops[i]?).map fun o=>(o.after.all fun e=>decide (e.on<i)) && o.guard.isNone).getD false)
structure LastWaitsT (md:Region.Mode) (ops:Array Oper) (L:Nat):Prop where
 size:ops.size=L+1
 last:∀ i,i<L->∃ o:Oper,ops[L]?=some o/\∃ e∈o.after,Region.binds md e=true/\(e.on=i∨∃ o':Oper,ops[e.on]?=some o'/\∃ e'∈o'.after,Region.binds md e'=true/\e'.on=i)
 back:∀ (i:Nat) (o:Oper),ops[i]?=some o->(∀ e∈o.after,e.on<i)/\o.guard=none
theorem lastB_specT (h:lastBT md ops=true):LastWaitsT md ops (ops.size-1):=by
 unfold lastBT at h
 simp only[Bool.and_eq_true,decide_eq_true_eq] at h
 obtain ⟨⟨h1,h2⟩,h3⟩:=h
 refine ⟨by omega,fun i hi=>?_,fun i o ho=>?_⟩
 ·have h4:=List.all_eq_true.1 h2 i (List.mem_range.2 hi)
  cases hl:ops[ops.size-1]? with
  | none=>rw[hl] at h4;simp at h4
  | some o =>
    rw[hl] at h4
    simp only[Option.map_some,Option.getD_some] at h4
    obtain ⟨e,he,hb⟩:=Array.any_eq_true'.1 h4
    simp only[Bool.and_eq_true,Bool.or_eq_true,beq_iff_eq] at hb
    refine ⟨o,rfl,e,he,hb.1,hb.2.imp id fun h5=>?_⟩
    cases hl2:ops[e.on]? with
    | none=>rw[hl2] at h5;simp at h5
    | some o' =>
      rw[hl2] at h5
      simp only[Option.map_some,Option.getD_some] at h5
      obtain ⟨e',he',hb'⟩:=Array.any_eq_true'.1 h5
      simp only[Bool.and_eq_true,beq_iff_eq] at hb'
      exact ⟨o',rfl,e',he',hb'.1,hb'.2⟩
 ·have hlt:i<ops.size:=(Array.getElem?_eq_some_iff.1 ho).1
  have h4:=List.all_eq_true.1 h3 i (List.mem_range.2 hlt)
  rw[ho] at h4
  simp only[Option.map_some,Option.getD_some,Bool.and_eq_true] at h4
  refine ⟨fun e he=>?_,by simpa using h4.2⟩
  have:=Array.all_eq_true'.1 h4.1 e he
  simpa using this
theorem ready_popT {L:Nat} (hw:LastWaitsT md ops L) {listed:Array Bool} (hs:listed.size=L+1) {i:Nat} (hi:i<L) :
  i∈Region.ready md ops.pop listed.pop↔i∈Region.ready md ops listed:=by
 rw[mem_ready,mem_ready,listed_pop hs _ hi,pop_get hw.size hi]
 constructor
 ·rintro ⟨h1,o,ho,h2⟩
  refine ⟨h1,o,ho,fun e he hb=>?_⟩
  have:=(hw.back i o ho).1 e he
  rw[<- listed_pop hs _ (by omega)]
  exact h2 e he hb
 ·rintro ⟨h1,o,ho,h2⟩
  refine ⟨h1,o,ho,fun e he hb=>?_⟩
  have:=(hw.back i o ho).1 e he
  rw[listed_pop hs _ (by omega)]
  exact h2 e he hb
theorem ready_pop_ltT {L:Nat} (hw:LastWaitsT md ops L) {listed:Array Bool} {i:Nat} (h:i∈Region.ready md ops.pop listed):i<L:=by
 obtain ⟨_,o,ho,_⟩:=mem_ready.1 h
 have:=(Array.getElem?_eq_some_iff.1 ho).1
 rw[Array.size_pop,hw.size] at this
 omega
theorem last_readyT {L:Nat} (hw:LastWaitsT md ops L) {listed:Array Bool} (hs:listed.size=L+1) (hL:listed.getD L true=false) (h:∀ i,i<L->i ∉ Region.ready md ops listed) :
  (∀ i,i<L->listed.getD i false=true)/\L∈Region.ready md ops listed:=by
 have hall:∀ i,i<L->listed.getD i false=true:=by
  intro i
  induction i using Nat.strongRecOn with
  | _ i ih =>
    intro hi
    have hn:=h i hi
    have hlt:i<ops.size:=by rw[hw.size];omega
    have ho:ops[i]?=some ops[i]:=Array.getElem?_eq_getElem hlt
    cases hl:listed.getD i true with
    | true =>
      have hlt2:i<listed.size:=by omega
      simp[hlt2] at hl ⊢
      exact hl
    | false =>
      exfalso
      refine hn (mem_ready.2 ⟨hl,_,ho,fun e he _=>?_⟩)
      have:=(hw.back i _ ho).1 e he
      exact ih e.on this (by omega)
 refine ⟨hall,mem_ready.2 ⟨hL,?_⟩⟩
 have hlt:L<ops.size:=by rw[hw.size];omega
 have ho:ops[L]?=some ops[L]:=Array.getElem?_eq_getElem hlt
 refine ⟨_,ho,fun e he _=>?_⟩
 exact hall _ ((hw.back L _ ho).1 e he)
def ClosedL (md:Region.Mode) (ops:Array Oper) (listed:Array Bool):Prop:=∀ (j:Nat) (o:Oper),ops[j]?=some o->listed.getD j false=true->∀ e∈o.after,Region.binds md e=true->listed.getD e.on false=true
theorem ClosedL.step {listed:Array Bool} (h:ClosedL md ops listed) {i:Nat} (hi:i∈Region.ready md ops listed):ClosedL md ops (listed.setIfInBounds i true):=by
 intro j o ho hl e he hb
 have key:listed.getD e.on false=true:=by
  rcases Nat.decEq j i with hne | heq
  ·refine h j o ho ?_ e he hb
   rw[<- hl,getD_set_ne false (Ne.symm hne)]
  ·subst heq
   obtain ⟨_,o2,ho2,h2⟩:=mem_ready.1 hi
   rw[ho] at ho2
   injection ho2 with ho2
   subst ho2
   exact h2 e he hb
 exact getD_set_true key
theorem last_onlyT {L:Nat} (hw:LastWaitsT md ops L) {listed:Array Bool} (hcl:ClosedL md ops listed) (hL:L∈Region.ready md ops listed):∀ i,i<L->listed.getD i false=true:=by
 intro i hi
 obtain ⟨_,o,ho,h2⟩:=mem_ready.1 hL
 obtain ⟨o',ho',e,he,hb,hon⟩:=hw.last i hi
 rw[ho] at ho'
 injection ho' with ho'
 subst ho'
 rcases hon with hon | ⟨o2,ho2,e2,he2,hb2,hon⟩
 ·rw[<- hon]
  exact h2 e he hb
 ·rw[<- hon]
  exact hcl e.on o2 ho2 (h2 e he hb) e2 he2 hb2
theorem wpOp_popT {L:Nat} (hw:LastWaitsT md ops L) {i:Nat} (hi:i<L) {K:Act->World->Prop} {a:Act} {w:World} (h:wpOp P ops.pop (LastQ P ops L Q) i K a w):wpOp P ops Q i K a w:=by
 have hlt:i<ops.size:=by rw[hw.size];omega
 have ho:ops[i]?=some ops[i]:=Array.getElem?_eq_getElem hlt
 have hg:=(hw.back i _ ho).2
 have hwant:∀ y,Region.wanted ops[i] y=true:=fun y=>by simp[Region.wanted,hg]
 unfold wpOp at *
 rw[pop_get hw.size hi,ho] at h
 rw[ho]
 simp only[hwant,if_true] at h ⊢
 refine h.imp (fun h=>?_) (fun h=>?_)
 ·unfold Oper.wp at *
  generalize (execOp a.eval ops[i]).run P w=r at *
  cases r with
  | ok n w' =>
    cases n<;>simp only[Oper.upon] at h ⊢<;>first
     | exact h
     | (refine Calls.mono h fun e w'' he=>?_
        cases e<;>exact he)
  | halt x w'=>cases x<;>simp only[Oper.upon] at h ⊢<;>exact h
 ·exact h
theorem wpAny_of_popT {L:Nat} (hw:LastWaitsT md ops L):∀ (fuel:Nat) (listed:Array Bool) (a:Act) (w:World),listed.size=L+1->listed.getD L true=false->ClosedL md ops listed ->
  wpAny P md ops.pop (LastQ P ops L Q) fuel listed.pop a w->wpAny P md ops Q (fuel+1) listed a w:=by
 intro fuel
 have step:∀ (f:Nat) (listed:Array Bool) (a:Act) (w:World),listed.size=L+1->(∀ i,i<L->listed.getD i false=true)->LastQ P ops L Q .normal a w ->
   wpOp P ops Q L (wpAny P md ops Q f (listed.setIfInBounds L true)) a w:=by
  intro f listed a w hs hall h
  refine wpOp_mono (fun a' w' h'=>?_) (show wpOp P ops Q L (fun a' w'=>Q .normal a' w') a w from h)
  have hn:=set_last (md:=md) (ops:=ops) hs hall
  cases f with
  | zero=>exact ⟨hn,h'⟩
  | succ f=>exact ⟨fun _=>h',by rw[hn];simp⟩
 induction fuel with
 | zero =>
   intro listed a w hs hL hcl h
   obtain ⟨h1,h2⟩:=h
   have hno:∀ i,i<L->i ∉ Region.ready md ops listed:=fun i hi hr=>by
    have:=(ready_popT hw hs hi).2 hr
    rw[h1] at this
    cases this
   obtain ⟨hall,hrL⟩:=last_readyT hw hs hL hno
   refine ⟨fun h0=>(by rw[h0] at hrL;cases hrL),fun i hi=>?_⟩
   have hiL:i=L:=by
    obtain ⟨_,o,ho,_⟩:=mem_ready.1 hi
    have:=(Array.getElem?_eq_some_iff.1 ho).1
    rw[hw.size] at this
    rcases Nat.lt_or_ge i L with h3 | h3
    ·exact absurd hi (hno i h3)
    ·omega
   subst hiL
   exact step 0 listed a w hs hall h2
 | succ fuel ih =>
   intro listed a w hs hL hcl h
   obtain ⟨h1,h2⟩:=h
   refine ⟨fun h0=>?_,fun i hi=>?_⟩
   ·obtain ⟨_,hrL⟩:=last_readyT hw hs hL (fun i _=>by rw[h0];simp)
    rw[h0] at hrL;cases hrL
   ·have hlt:i<L+1:=by
     obtain ⟨_,o,ho,_⟩:=mem_ready.1 hi
     have:=(Array.getElem?_eq_some_iff.1 ho).1
     rw[hw.size] at this
     exact this
    by_cases hiL:i=L
    ·subst hiL
     have hall:=last_onlyT hw hcl hi
     have hnil:Region.ready md ops.pop listed.pop=[]:=by
      cases hr:Region.ready md ops.pop listed.pop with
      | nil=>rfl
      | cons j rest =>
        exfalso
        have hj:j∈Region.ready md ops.pop listed.pop:=by rw[hr];exact List.mem_cons_self
        have hjl:=ready_pop_ltT hw hj
        exact not_ready hs (by omega) (hall j hjl) ((ready_popT hw hs hjl).1 hj)
     exact step (fuel+1) listed a w hs hall (h1 hnil)
    ·have hil:i<L:=by omega
     have h3:=h2 i ((ready_popT hw hs hil).2 hi)
     refine wpOp_mono (fun a' w' h'=>ih _ a' w' (by simp[hs]) (by rw[getD_set_ne true hiL];exact hL) (hcl.step hi) ?_) (wpOp_popT hw hil h3)
     have e:(listed.setIfInBounds i true).pop=listed.pop.setIfInBounds i true:=by
      apply Array.ext_getElem?
      intro j
      rw[Array.getElem?_pop,Array.getElem?_setIfInBounds,Array.getElem?_setIfInBounds,Array.getElem?_pop]
      by_cases hij:i=j
      ·subst hij
       simp[hs,hil]
       omega
      ·simp[hij]
     rw[e]
     exact h'
theorem wp_region_lastT {S:World->Prop} {id:Nat} {a:Act} {w:World} (hm:P.follows .mixedOrders=true) (hB:lastBT .any ops=true) (hS:S w.drew)
  (h:S w.drew->wpAnyH P .any ops.pop (LastQ P ops (ops.size-1) Q) S (ops.size-1) (Array.replicate (ops.size-1) false) a w.drew):(Code.region id ops true).wp P Q a w:=by
 have hw:=lastB_specT hB
 have hs:=hw.size
 refine wp_region_any hm ?_
 have h1:=wpAny_of_held _ _ _ _ (h hS)
 have e:(Array.replicate ops.size false).pop=Array.replicate (ops.size-1) false:=by simp
 rw[<- e] at h1
 have h2:=wpAny_of_popT (Q:=Q) hw (ops.size-1) (Array.replicate ops.size false) a w.drew (by simp;omega) (by simp[show ops.size-1<ops.size by omega]) (fun j o ho hl=>by rw[Array.getD_eq_getD_getElem?,Array.getElem?_replicate] at hl;split at hl<;>simp at hl) h1
 rw[show ops.size-1+1=ops.size by omega] at h2
 exact h2
end
end Go.Proofs.YtpeiiomjnjemjaaGreat
namespace Go.Proofs.YtpeiiomjnjemjaaGreat
open Go.RowKit
def Nd (v:Value):Prop:=NoDigit v/\v.oneCell'=true
theorem nd_bool (b:Bool):Nd (.bool b):=⟨noDigit_bool _,rfl⟩
theorem nd_slice (A:Option Addr) (l c:Nat):Nd (.slice A l c):=⟨noDigit_slice _ _ _,rfl⟩
abbrev rootZero:Value:=.agg #[.bool false,.slice none 0 0,.slice none 0 0,.bool false,.slice none 0 0,.slice none 0 0]
theorem info_root:(Tryz.prog.info? 42).map (fun i=>(i.zero,i.size,i.bytes))=some (some rootZero,6,112):=by kernel_rfl
structure ORt (w:World) (g n cap:Nat):Prop where
 blk:∃ cs,Blk w g 42 cs/\cs.size=cap*6/\∀ j,j<cap*6->∃ v,cs[j]?=some v/\Nd v
 le:n<=cap
structure FrS (g g':Nat) (W W':World):Prop where
 os:W'.os=W.os
 tape:W'.tape=W.tape
 output:W'.output=W.output
 size:W.heap.size<=W'.heap.size
 same:∀ k,k<W.heap.size->k≠g->k≠g'->W'.heap[k]?=W.heap[k]?
theorem FrS.refl (g g':Nat) (W:World):FrS g g' W W:=⟨rfl,rfl,rfl,Nat.le_refl _,fun _ _ _ _=>rfl⟩
theorem FrS.of_below {g g':Nat} {W W':World} (h:Below W.heap.size W W'):FrS g g' W W':=⟨h.os,h.tape,h.output,h.size,fun k hk _ _=>h.block k hk⟩
theorem FrS.trans {g g1 g2:Nat} {A B C:World} (h:FrS g g1 A B) (k:FrS g g2 B C) (hg:g2=g1∨A.heap.size<=g2):FrS g g1 A C :=
 ⟨k.os.trans h.os,k.tape.trans h.tape,k.output.trans h.output,Nat.le_trans h.size k.size,fun i hi h1 h2=>(k.same i (Nat.lt_of_lt_of_le hi h.size) h1 (by rcases hg with e | e<;>omega)).trans (h.same i hi h1 h2)⟩
theorem FrS.mono {g g' B:Nat} {W0 W W':World} (h:FrS g g' W W') (hb:Below B W0 W) (h1:B<=g) (h2:B<=g') (hB:B<=W.heap.size):Below B W0 W' :=
 ⟨h.os.trans hb.os,h.tape.trans hb.tape,h.output.trans hb.output,Nat.le_trans hb.size h.size,fun k hk=>(h.same k (by omega) (by omega) (by omega)).trans (hb.block k hk)⟩
section
variable {g g':Nat} {W W':World}
theorem FrS.cell (h:FrS g g' W W') {k:Nat} (hk:k<W.heap.size) (h1:k≠g) (h2:k≠g') (o:Nat):W'.cell? ⟨k,o,none⟩=W.cell? ⟨k,o,none⟩:=World.cell?_of_block (w:=W) (h.same k hk h1 h2)
theorem FrS.frozen (h:FrS g g' W W') {k:Nat} (hk:k<W.heap.size) (h1:k≠g) (h2:k≠g') (o:Nat):W'.frozen? ⟨k,o,none⟩=W.frozen? ⟨k,o,none⟩:=by
 simp[World.frozen?,h.same k hk h1 h2]
def NdB (W:World) (g:Nat):Prop:=∀ o v,W.cell? ⟨g,o,none⟩=some v->NoDigit v
theorem DigAt.frs {A:Option Addr} {len cap:Nat} {ds:List Nat} (hd:DigAt W A len cap ds) (h:FrS g g' W W') (h1:NdB W g) (h2:NdB W g'):DigAt W' A len cap ds:=by
 refine ⟨hd.length,hd.cap,hd.wd,?_⟩
 rcases hd.cells with e | ⟨b,off,hA,hlt,hc⟩
 ·exact .inl e
 ·rcases Nat.eq_zero_or_pos len with e | e
  ·exact .inl e
  ·have hne:∀ x,NdB W x->b≠x:=fun x hx ex=>by
    subst ex
    exact hx _ _ (hc 0 e) _ rfl
   exact .inr ⟨b,off,hA,Nat.lt_of_lt_of_le hlt h.size,fun j hj=>(h.cell hlt (hne g h1) (hne g' h2) _).trans (hc j hj)⟩
theorem NatN.frs {A:Option Addr} {len cap n:Nat} (hd:NatN W A len cap n) (h:FrS g g' W W') (h1:NdB W g) (h2:NdB W g'):NatN W' A len cap n:=⟨hd.digits.frs h h1 h2⟩
theorem IntN.frs {neg:Bool} {A:Option Addr} {len cap:Nat} {z:Int} (hd:IntN W neg A len cap z) (h:FrS g g' W W') (h1:NdB W g) (h2:NdB W g'):IntN W' neg A len cap z:=⟨hd.nat.frs h h1 h2,hd.sign⟩
theorem RBox.frs {k:Nat} {n:Bool} {A B:Option Addr} {l c m d q:Nat} {z:Int} (hr:RBox W k n A l c B m d z q) (h:FrS g g' W W') (h1:NdB W g) (h2:NdB W g') (k1:k≠g) (k2:k≠g'):RBox W' k n A l c B m d z q :=
 ⟨(h.cell hr.lt k1 k2 _).trans hr.c0,(h.cell hr.lt k1 k2 _).trans hr.c1,(h.cell hr.lt k1 k2 _).trans hr.c2,(h.frozen hr.lt k1 k2 _).trans hr.f0,(h.frozen hr.lt k1 k2 _).trans hr.f1,(h.frozen hr.lt k1 k2 _).trans hr.f2,Nat.lt_of_lt_of_le hr.lt h.size,hr.hz.frs h h1 h2,hr.hq.frs h h1 h2⟩
structure PolyG (g g':Nat) (w:World) (A:Option Addr) (l c:Nat) (p:List Int):Prop where
 n:PolyN w A l c p
 off:l=0∨∃ b o,A=some ⟨b,o,none⟩/\b≠g/\b≠g'
theorem PolyG.below {w w':World} {A:Option Addr} {l c:Nat} {p:List Int} (h:PolyG g g' w A l c p) (hb:Below w.heap.size w w'):PolyG g g' w' A l c p:=⟨h.n.below ikN hb,h.off⟩
theorem PolyG.frs {A:Option Addr} {l c:Nat} {p:List Int} (hp:PolyG g g' W A l c p) (h:FrS g g' W W') (h1:NdB W g) (h2:NdB W g'):PolyN W' A l c p:=by
 refine ⟨hp.n.length,hp.n.cap,?_⟩
 rcases hp.n.elems with h0 | ⟨b,o,hA,hlt,he⟩
 ·exact .inl h0
 ·rcases hp.off with h0 | ⟨b',o',hA',hne,hne'⟩
  ·exact .inl h0
  ·rw[hA] at hA'
   injection hA' with e
   injection e with e1 e2 e3
   subst e1 e2
   refine .inr ⟨b,o,hA,Nat.lt_of_lt_of_le hlt h.size,fun j hj=>?_⟩
   obtain ⟨neg,Aj,lj,cj,f1,f2,f3⟩:=he j hj
   exact ⟨neg,Aj,lj,cj,(h.cell hlt hne hne' _).trans f1,(h.cell hlt hne hne' _).trans f2,f3.frs h h1 h2⟩
end
theorem blk_ndb {w:World} {g t:Nat} {cs:Array Value} (h:Blk w g t cs) (hc:∀ (j:Nat) (v:Value),cs[j]?=some v->NoDigit v):NdB w g:=fun o v hv=>by
 rw[h.cell] at hv
 exact hc _ _ hv
theorem ORt.ndb {w:World} {g n cap:Nat} (h:ORt w g n cap):NdB w g:=by
 obtain ⟨cs,hb,hs,hc⟩:=h.blk
 refine blk_ndb hb fun j v hv=>?_
 have hj:j<cs.size:=(Array.getElem?_eq_some_iff.1 hv).1
 obtain ⟨v',e,h1⟩:=hc j (by omega)
 rw[e] at hv
 cases hv
 exact h1.1
theorem ORt.lt {w:World} {g n cap:Nat} (h:ORt w g n cap):g<w.heap.size:=by
 obtain ⟨cs,hb,_⟩:=h.blk
 exact hb.lt
theorem ORt.below {w w':World} {g n cap:Nat} (h:ORt w g n cap) (hb:Below w.heap.size w w'):ORt w' g n cap:=by
 have hlt:=h.lt
 obtain ⟨cs,hk,hs⟩:=h.blk
 exact ⟨⟨cs,hk.below hb hlt,hs⟩,h.le⟩
def Grown (gs:Nat) (w:World) (F:Value) (n:Nat) (F':Value) (w':World):Prop:=∃ g' cap',F'=.slice (some ⟨g',0,none⟩) (n+1) cap'/\ORt w' g' (n+1) cap'/\g'≠gs/\((∃ g cap,F=.slice (some ⟨g,0,none⟩) n cap/\g'=g/\FrS g g w w')∨(w.heap.size<=g'/\Below w.heap.size w w'))
def Fnd (gs:Nat) (w:World) (F:Value) (n:Nat):Prop:=(n=0/\F=.slice none 0 0)∨∃ g cap,F=.slice (some ⟨g,0,none⟩) n cap/\ORt w g n cap/\g≠gs
theorem Fnd.below {gs:Nat} {w w':World} {F:Value} {n:Nat} (h:Fnd gs w F n) (hb:Below w.heap.size w w'):Fnd gs w' F n:=by
 rcases h with h | ⟨g,cap,h1,h2,h3⟩
 ·exact .inl h
 ·exact .inr ⟨g,cap,h1,h2.below hb,h3⟩
theorem frs_set {gs g:Nat} {w W:World} (h:FrS gs g w W) (k:Nat) (v:Value):FrS gs g w (W.setCell ⟨g,k,none⟩ v) :=
 ⟨h.os,h.tape,h.output,by simpa [World.setCell] using h.size,fun i hi h1 h2=>(Below.heap_setCell W _ v i h2).trans (h.same i hi h1 h2)⟩
theorem frs_setCells {gs g:Nat} {w:World}:∀ (vs:List Value) (o:Nat) {W:World},FrS gs g w W->FrS gs g w (W.setCells g o vs)
 | [],_,_,h=>h
 | v :: vs,o,_,h=>frs_setCells vs (o+1) (frs_set h o v)
theorem ORt.far {w:World} {g n cap:Nat} (h:ORt w g n cap) {p:Addr} (hp:g≠p.block) (u:Value):ORt (w.setCell p u) g n cap:=by
 obtain ⟨cs,hk,hs,hc⟩:=h.blk
 exact ⟨⟨cs,hk.far hp u,hs,hc⟩,h.le⟩
theorem FrS.weaken {g g' k:Nat} {W W':World} (h:FrS g g W W') (hk:g=g'):FrS k g' W W':=by
 subst hk
 exact ⟨h.os,h.tape,h.output,h.size,fun i hi _ h2=>h.same i hi h2 h2⟩
theorem FrS.self {g g':Nat} {W W':World} (h:FrS g g' W W') (k:Nat) (v:Value):FrS g g' W (W'.setCell ⟨g,k,none⟩ v) :=
 ⟨h.os,h.tape,h.output,by simpa [World.setCell] using h.size,fun i hi h1 h2=>(Below.heap_setCell W' _ v i h1).trans (h.same i hi h1 h2)⟩
def fbk (gs:Nat):Value->Nat
 | .slice (some a) _ _=>a.block
 | _=>gs
theorem Grown.slice {gs n:Nat} {w w':World} {F F':Value} (h:Grown gs w F n F' w'):∃ g cap,F'=.slice (some ⟨g,0,none⟩) (n+1) cap:=by
 obtain ⟨g,cap,e,_⟩:=h
 exact ⟨g,cap,e⟩
theorem Grown.cell {gs n:Nat} {w w':World} {F F':Value} (h:Grown gs w F n F' w') {k:Nat} (hk:k<w.heap.size) (hne:k≠fbk gs F) (o:Nat):w'.cell? ⟨k,o,none⟩=w.cell? ⟨k,o,none⟩:=by
 obtain ⟨g',cap',e,ho,hg,h⟩:=h
 rcases h with ⟨g,cap,eF,eg,hf⟩ | ⟨_,hb⟩
 ·rw[eF] at hne
  exact hf.cell hk hne hne o
 ·exact hb.cell (p:=⟨k,o,none⟩) hk
theorem Grown.blk {gs n t:Nat} {w w':World} {F F':Value} {cs:Array Value} (h:Grown gs w F n F' w') (hb:Blk w gs t cs):Blk w' gs t cs:=by
 obtain ⟨g',cap',e,ho,hg,h⟩:=h
 rcases h with ⟨g,cap,eF,eg,hf⟩ | ⟨_,hbb⟩
 ·exact (hf.same gs hb.lt (by omega) (by omega)).trans hb
 ·exact hb.below hbb hb.lt
theorem newrow_cells (w:World) (vs:List Value) (t:Nat):∀ j v,vs[j]?=some v->(w.alloc (.cells vs.toArray t)).cell? ⟨w.heap.size,j,none⟩=some v:=fun j v hv=>by
 rw[(Blk.new w t vs.toArray).cell,List.getElem?_toArray];exact hv
theorem PolyG.next {g g' g2:Nat} {W W':World} {A:Option Addr} {l c:Nat} {p:List Int} (hp:PolyG g g' W A l c p) (h:FrS g g' W W') (h1:NdB W g) (h2:NdB W g') (hg:g2=g'∨W.heap.size<=g2):PolyG g g2 W' A l c p:=by
 refine ⟨hp.frs h h1 h2,?_⟩
 rcases hp.n.elems with h0 | ⟨b,o,hA,hlt,_⟩
 ·exact .inl h0
 ·rcases hp.off with h0 | ⟨b',o',hA',hne,hne'⟩
  ·exact .inl h0
  ·rw[hA] at hA'
   injection hA' with e
   injection e with e1 e2 e3
   subst e1 e2
   exact .inr ⟨b,o,hA,hne,by rcases hg with e | e<;>omega⟩
end Go.Proofs.YtpeiiomjnjemjaaGreat
