/- descartes.Roots at x^2 - 2, and awake of chapter 17. -/
import Derived.Test.YtphmkdmflopcdaaGreatSpl
import Derived.Test.YtphmkdmflopcdaaGreatLes
import Derived.Test.YtphmkdmflopcdaaGreatPart
namespace Go.Proofs.YtphmkdmflopcdaaGreat
open Go.RowKit
theorem u64_small {n:Nat} (h:n<=1000):U64 n:=by
 unfold U64
 have:=BB_pos
 have e:1001<=BB:=by rw[BB_eq];omega
 have h3:BB*1<=BB*BB:=Nat.mul_le_mul_left _ (by omega)
 omega
theorem bb_small {n:Nat} (h:n<=1000):n<BB:=by rw[BB_eq];omega
theorem w2_trok {z z':Int} (h:∀ k,k<3->(∀ c∈(trs w2 z z' 1 k).1,c.natAbs<=100)/\(∀ c∈(trs w2 z z' 1 k).2.1,c.natAbs<=100)/\(trs w2 z z' 1 k).2.2.natAbs<=100/\(trs w2 z z' 1 k).1.length<=10/\(trs w2 z z' 1 k).2.1.length<=10) (hz:z.natAbs<=100) (hz':z'.natAbs<=100):TrOK w2 z z' 1 :=
 ⟨fit_100 hz,fit_100 hz',fit_100 (by decide),fun k hk=>by
   obtain ⟨a,b,c,d,e⟩:=h k hk
   exact ⟨fitp_100 a,fitp_100 b,fit_100 c,by omega,by omega⟩⟩
theorem w2_trim:ptrim w2=w2:=by decide
theorem w2_fit {z z':Int} (eP:cdP 1 1 z z'=z) (eQ:cdQ 1 1 z z'=z') (eD:cdD 1 1 z z'=1) (ht:TrOK w2 z z' 1) (hn:plen (trs w2 z z' 1 2).1≠0) (hz:z.natAbs<=100) (hz':z'.natAbs<=100) {p:List Int} (hp:pmobius w2 1 1 z z'=p) (hs:∀ c∈p,c.natAbs<=100) (hl:p.length<=10):DsFit w2 z 1 z' 1:=by
 refine ⟨u64_small (by omega),bb_small (by omega),by omega,u64_small (by omega),bb_small (by omega),by omega,fun _ _=>?_,by rw[hp];exact (fitp_100 hs).smp,by rw[hp];omega⟩
 rw[w2_trim,eP,eQ,eD]
 exact ⟨ht,hn,by decide⟩
theorem w2_dsp:DSp w2 (-3) 1 3 1 2:=by
 have e0:mdz (-3) 1 3 1=0:=by decide
 have e1:mdq (-3) 1 3 1=1:=by decide
 refine DSp.node (k1:=1) (k2:=1) (w2_fit (by decide) (by decide) (by decide) (w2_trok (by decide) (by decide) (by decide)) (by decide) (by decide) (by decide) (p:=[7,-22,7]) (by decide) (by decide) (by decide)) (by decide) ?_ ?_ ?_ ?_
 ·rw[e0,e1]
  refine ⟨u64_small (by decide),bb_small (by omega),by omega,?_,fit_100 (by decide),fit_100 (by decide)⟩
  have h:∀ t,t<=plen w2->(scs (ptrim w2) ((0:Int).tdiv (Nat.gcd (0:Int).natAbs 1)) ((1 / Nat.gcd (0:Int).natAbs 1:Nat):Int) (plen w2) t).1.natAbs<=100/\(scs (ptrim w2) ((0:Int).tdiv (Nat.gcd (0:Int).natAbs 1)) ((1 / Nat.gcd (0:Int).natAbs 1:Nat):Int) (plen w2) t).2.natAbs<=100:=by decide
  exact fun t ht=>⟨fit_100 (h t ht).1,fit_100 (h t ht).2⟩
 ·rw[e0,e1];decide
 ·rw[e0,e1]
  exact DSp.one (w2_fit (by decide) (by decide) (by decide) (w2_trok (by decide) (by decide) (by decide)) (by decide) (by decide) (by decide) (p:=[7,-4,-2]) (by decide) (by decide) (by decide)) (by decide)
 ·rw[e0,e1]
  exact DSp.one (w2_fit (by decide) (by decide) (by decide) (w2_trok (by decide) (by decide) (by decide)) (by decide) (by decide) (by decide) (p:=[-2,-4,7]) (by decide) (by decide) (by decide)) (by decide)
theorem w2_cau:cau w2=3:=by decide
theorem w2_cauok:CauOK w2:=cauok_small (by decide) (by decide) (by decide)
structure SplDone (W:World) (gs:Nat) (A:Option Addr) (l c:Nat) (g5 g6:Nat) (n5:Bool) (A5:Option Addr) (l5 c5:Nat) (B5:Option Addr) (m5 d5:Nat) (z5:Int) (q5:Nat) (n6:Bool) (A6:Option Addr) (l6 c6:Nat) (B6:Option Addr) (m6 d6:Nat) (z6:Int) (q6 k:Nat) (w':World):Prop where
 r5:RBox w' g5 n5 A5 l5 c5 B5 m5 d5 z5 q5
 r6:RBox w' g6 n6 A6 l6 c6 B6 m6 d6 z6 q6
 fr:FrS gs gs W w'
 f:∃ F',Blk w' gs 78 #[.slice A l c,F']/\Fnd gs w' F' k
theorem spl_done {W W1 w':World} {gs l c g5 g6 k:Nat} {A:Option Addr} {n5 n6:Bool} {A5 B5 A6 B6:Option Addr} {l5 c5 m5 d5 l6 c6 m6 d6 q5 q6:Nat} {z5 z6:Int} {F':Value} (hb:Below W.heap.size W W1) (hB:Blk W gs 78 #[.slice A l c,.slice none 0 0]) (hfr:FrS gs (fbk gs (.slice none 0 0)) W1 w') (hB':Blk w' gs 78 #[.slice A l c,F']) (hF:Fnd gs w' F' (0+k))
  (r5:RBox W g5 n5 A5 l5 c5 B5 m5 d5 z5 q5) (r6:RBox W g6 n6 A6 l6 c6 B6 m6 d6 z6 q6) (h5:g5≠gs) (h6:g6≠gs):SplDone W gs A l c g5 g6 n5 A5 l5 c5 B5 m5 d5 z5 q5 n6 A6 l6 c6 B6 m6 d6 z6 q6 k w':=by
 have hB1:=hB.below hb hB.lt
 obtain ⟨nd1,nd2⟩:=fnd_ndb hB1 (.inl ⟨rfl,rfl⟩:Fnd gs W1 (.slice none 0 0) 0)
 exact ⟨(r5.move hb).frs hfr nd1 nd2 h5 h5,(r6.move hb).frs hfr nd1 nd2 h6 h6,FrS.trans (FrS.of_below hb) hfr (.inl rfl),F',hB',by rw[Nat.zero_add] at hF;exact hF⟩
theorem SplDone.two {W w':World} {gs l c g5 g6:Nat} {A:Option Addr} {n5 n6:Bool} {A5 B5 A6 B6:Option Addr} {l5 c5 m5 d5 l6 c6 m6 d6 q5 q6:Nat} {z5 z6:Int} (h:SplDone W gs A l c g5 g6 n5 A5 l5 c5 B5 m5 d5 z5 q5 n6 A6 l6 c6 B6 m6 d6 z6 q6 2 w'):∃ g cap,w'.cell? ⟨gs,1,none⟩=some (.slice (some ⟨g,0,none⟩) 2 cap):=by
 obtain ⟨F',hB,hF⟩:=h.f
 rcases hF with ⟨h0,_⟩ | ⟨g,cap,e,_⟩
 ·omega
 ·exact ⟨g,cap,(hB.cell 1).trans (by rw[e];rfl)⟩
set_option maxRecDepth 100000 in
set_option maxHeartbeats 4000000 in
theorem roots_w2 (A:Option Addr) (la ca:Nat) (w:World) (hf:PolyN w A la ca w2) :
  Calls Tryz.prog 18 #[.slice A la ca] w fun e w'=>∃ A' c',e=.returned (.slice A' 2 c')/\Below w.heap.size w w':=by
 go_enter Tryz.func18,Tryz.ntmps18
 go_wp2_with fail
 refine (part_w2 _ _ _ _ hf).mono ?_
 rintro e w1 ⟨A1,l1,c1,rfl,h1,hb1⟩
 have hl1:l1=3:=h1.length.symm
 subst hl1
 have H1:=Lh h1
 have Hb:=Lh hb1
 have s2:FitP w2:=fitp_100 (by decide)
 have hpl:plen w2=3:=by decide
 clear hf h1 hb1
 go_wp2_with fail
 refine (degree_any _ _ _ _ _ (H1.out.at_ ikN) s2.smp (by omega)).mono ?_
 rintro e w2' ⟨rfl,hb2⟩
 rw[hpl]
 replace H1:=Lh (H1.out.below ikN hb2)
 replace Hb:=Lh (Hb.out.trans (hb2.mono Hb.out.size))
 have jb:=below_new w2' (.cells #[.slice A1 3 c1,.slice none 0 0] 78)
 have hbk:Blk (w2'.alloc (.cells #[.slice A1 3 c1,.slice none 0 0] 78)) w2'.heap.size 78 #[.slice A1 3 c1,.slice none 0 0]:=Blk.new _ _ _
 have hpg:PolyG w2'.heap.size w2'.heap.size (w2'.alloc (.cells #[.slice A1 3 c1,.slice none 0 0] 78)) A1 3 c1 w2:=by
  refine ⟨H1.out.below ikN jb,?_⟩
  rcases H1.out.elems with h0 | ⟨b,o,hA,hlt,_⟩
  ·exact .inl h0
  ·exact .inr ⟨b,o,hA,by omega,by omega⟩
 have HB:=Lh hbk
 have HP:=Lh hpg
 have hgw:=Hb.out.size
 replace H1:=Lh (H1.out.below ikN jb)
 replace Hb:=Lh (Hb.out.trans (jb.mono Hb.out.size))
 obtain ⟨wa,hwa⟩:∃ wa,wa=w2'.alloc (.cells #[.slice A1 3 c1,.slice none 0 0] 78):=⟨_,rfl⟩
 obtain ⟨gs,hgs⟩:∃ gs,gs=w2'.heap.size:=⟨_,rfl⟩
 rw[<- hwa,<- hgs] at HB HP
 rw[<- hwa] at H1 Hb
 rw[<- hgs] at hgw
 clear hb2 jb hbk hpg
 go_wp2_with fail
 rw[<- hwa,<- hgs]
 clear hwa hgs
 refine (cauchy_any ikN _ _ _ _ _ H1.out s2.smp (by omega) (fun _=>w2_cauok)).mono ?_
 rintro e w3 ⟨n3,A3,l3,c3,rfl,h3,hb3⟩
 rw[w2_cau] at h3
 replace HB:=Lh (HB.out.below hb3 HB.out.lt)
 replace HP:=Lh (HP.out.below hb3)
 replace Hb:=Lh (Hb.out.trans (hb3.mono Hb.out.size))
 have H3:=Lh h3
 have f3:Fit (3:Int):=fit_100 (by decide)
 clear h3 hb3 H1
 go_wp2_with fail
 refine (rfrom_any _ _ _ _ _ _ H3.out.at_ f3.sm).mono ?_
 rintro e w4 ⟨⟨n5,A5,l5,c5,B5,m5,d5,rfl,h5,k5⟩,hb4⟩
 have jb:=below_new w4 (rbox n5 A5 l5 c5 B5 m5 d5)
 have hbj:=hb4.trans (jb.mono hb4.size)
 have r5:=RBox.make h5 k5
 have hgl4:gs<w4.heap.size:=Nat.lt_of_lt_of_le HB.out.lt hb4.size
 replace HB:=Lh (HB.out.below hbj HB.out.lt)
 replace HP:=Lh (HP.out.below hbj)
 replace Hb:=Lh (Hb.out.trans (hbj.mono Hb.out.size))
 obtain ⟨g5,e5⟩:∃ g,g=w4.heap.size:=⟨_,rfl⟩
 have hg5:gs<g5:=by rw[e5];exact hgl4
 rw[<- e5] at r5
 have R5:=Lh r5
 clear h5 k5 hb4 jb hbj r5 H3
 go_wp2_with fail
 rw[<- e5]
 clear e5
 refine (ratneg_any _ _ _ _ _ _ _ _ _ _ R5.out.hz R5.out.hq (u64_fit (u64_small (by decide))) (nat_fit (bb_small (by omega))) (by omega)).mono ?_
 rintro e w6 ⟨⟨n6,A6,l6,c6,B6,m6,d6,rfl,h6,k6⟩,hb6⟩
 replace h6:IntN w6 n6 A6 l6 c6 (-3):=h6
 replace k6:NatN w6 B6 m6 d6 1:=k6
 have jb:=below_new w6 (rbox n6 A6 l6 c6 B6 m6 d6)
 have hbj:=hb6.trans (jb.mono hb6.size)
 have r6:=RBox.make h6 k6
 have hlt6:g5<w6.heap.size:=Nat.lt_of_lt_of_le R5.out.lt hb6.size
 replace HB:=Lh (HB.out.below hbj HB.out.lt)
 replace HP:=Lh (HP.out.below hbj)
 replace Hb:=Lh (Hb.out.trans (hbj.mono Hb.out.size))
 replace R5:=Lh (R5.out.move hbj)
 obtain ⟨g6,e6⟩:∃ g,g=w6.heap.size:=⟨_,rfl⟩
 rw[<- e6] at r6 hlt6
 have R6:=Lh r6
 obtain ⟨wk,hwk⟩:∃ wk,wk=w6.alloc (rbox n6 A6 l6 c6 B6 m6 d6):=⟨_,rfl⟩
 clear h6 k6 hb6 jb hbj r6
 go_wp2_with fail
 rw[<- hwk] at R5 R6 HB HP Hb ⊢
 rw[<- e6]
 clear hwk e6
 have x0:=R5.out.c0
 have x1:=R5.out.c1
 have x2:=R5.out.c2
 have y0:=R6.out.c0
 have y1:=R6.out.c1
 have y2:=R6.out.c2
 have hgu5:g5≠gs:=by omega
 have hgu6:g6≠gs:=by omega
 have at1:AtFit w2 (-3) 1:=by
  refine ⟨u64_small (by decide),bb_small (by omega),by omega,?_,fit_100 (by decide),fit_100 (by decide)⟩
  have h:∀ t,t<=plen w2->(scs (ptrim w2) ((-3:Int).tdiv (Nat.gcd (-3:Int).natAbs 1)) ((1 / Nat.gcd (-3:Int).natAbs 1:Nat):Int) (plen w2) t).1.natAbs<=100/\(scs (ptrim w2) ((-3:Int).tdiv (Nat.gcd (-3:Int).natAbs 1)) ((1 / Nat.gcd (-3:Int).natAbs 1:Nat):Int) (plen w2) t).2.natAbs<=100:=by decide
  exact fun t ht=>⟨fit_100 (h t ht).1,fit_100 (h t ht).2⟩
 have at2:AtFit w2 3 1:=by
  refine ⟨u64_small (by decide),bb_small (by omega),by omega,?_,fit_100 (by decide),fit_100 (by decide)⟩
  have h:∀ t,t<=plen w2->(scs (ptrim w2) ((3:Int).tdiv (Nat.gcd (3:Int).natAbs 1)) ((1 / Nat.gcd (3:Int).natAbs 1:Nat):Int) (plen w2) t).1.natAbs<=100/\(scs (ptrim w2) ((3:Int).tdiv (Nat.gcd (3:Int).natAbs 1)) ((1 / Nat.gcd (3:Int).natAbs 1:Nat):Int) (plen w2) t).2.natAbs<=100:=by decide
  exact fun t ht=>⟨fit_100 (h t ht).1,fit_100 (h t ht).2⟩
 have sp1:decide (sgat w2 (-3) 1=0)=false:=by decide
 have sp2:decide (sgat w2 3 1=0)=false:=by decide
 have At1:=Lh at1
 have At2:=Lh at2
 have Sp1:=Lh sp1
 have Sp2:=Lh sp2
 have SPL:=Lh (split_any w2 s2 gs A1 3 c1 (by omega) w2_dsp)
 clear at1 at2 sp1 sp2
 go_region_held3 (fun w'=>w'.cell? ⟨g5,0,none⟩=some (.bool n5)/\w'.cell? ⟨g5,1,none⟩=some (.slice A5 l5 c5)/\w'.cell? ⟨g5,2,none⟩=some (.slice B5 m5 d5)/\w'.cell? ⟨g6,0,none⟩=some (.bool n6)/\w'.cell? ⟨g6,1,none⟩=some (.slice A6 l6 c6)/\w'.cell? ⟨g6,2,none⟩=some (.slice B6 m6 d6)) (go_keep) (first
  | (go_at_call 45;(have _hx:=G7);go_must (refine (dzeroat_any gs A1 3 c1 (.slice none 0 0) w2 _ _ _ _ _ _ _ _ _ _ ?_ ?_ s2 (by omega) ?_ ?_ At2.out).mono ?_;(exact ((HB.out.below G7.out HB.out.lt).below Bel.go (HB.out.below G7.out HB.out.lt).lt));(exact ((HP.out.below G7.out).below Bel.go).n);(exact (R5.out.move G7.out).hz.below Bel.go);(exact (R5.out.move G7.out).hq.below Bel.go);rintro e w9 ⟨rfl,hb9⟩;rw[Sp2.out];have G9:Hid (Below wk.heap.size wk w9):=Lh (G7.out.trans ((Below.trans Bel.go (hb9.mono (by simp<;>omega))).mono G7.out.size));obtain ⟨hcx,hfx⟩:=bcellS hb9;have j0:World.cell? w9 ⟨g5,0,none⟩=some (.bool n5):=(hcx _ (by go_simp)).trans (by go_simp);have j1:World.cell? w9 ⟨g5,1,none⟩=some (.slice A5 l5 c5):=(hcx _ (by go_simp)).trans (by go_simp);have j2:World.cell? w9 ⟨g5,2,none⟩=some (.slice B5 m5 d5):=(hcx _ (by go_simp)).trans (by go_simp);have j3:World.cell? w9 ⟨g6,0,none⟩=some (.bool n6):=(hcx _ (by go_simp)).trans (by go_simp);have j4:World.cell? w9 ⟨g6,1,none⟩=some (.slice A6 l6 c6):=(hcx _ (by go_simp)).trans (by go_simp);have j5:World.cell? w9 ⟨g6,2,none⟩=some (.slice B6 m6 d6):=(hcx _ (by go_simp)).trans (by go_simp);clear hcx hfx hb9))
  | (go_at_call 45;go_must (refine (dzeroat_any gs A1 3 c1 (.slice none 0 0) w2 _ _ _ _ _ _ _ _ _ _ ?_ ?_ s2 (by omega) ?_ ?_ At1.out).mono ?_;(exact HB.out.below Bel.go HB.out.lt);(exact (HP.out.below Bel.go).n);(exact R6.out.hz.below Bel.go);(exact R6.out.hq.below Bel.go);rintro e w7 ⟨rfl,hb7⟩;rw[Sp1.out];have G7:Hid (Below wk.heap.size wk w7):=Lh (Below.trans Bel.go (hb7.mono (by simp<;>omega)));obtain ⟨hcx,hfx⟩:=bcellS hb7;have i0:World.cell? w7 ⟨g5,0,none⟩=some (.bool n5):=(hcx _ (by go_simp)).trans (by go_simp);have i1:World.cell? w7 ⟨g5,1,none⟩=some (.slice A5 l5 c5):=(hcx _ (by go_simp)).trans (by go_simp);have i2:World.cell? w7 ⟨g5,2,none⟩=some (.slice B5 m5 d5):=(hcx _ (by go_simp)).trans (by go_simp);have i3:World.cell? w7 ⟨g6,0,none⟩=some (.bool n6):=(hcx _ (by go_simp)).trans (by go_simp);have i4:World.cell? w7 ⟨g6,1,none⟩=some (.slice A6 l6 c6):=(hcx _ (by go_simp)).trans (by go_simp);have i5:World.cell? w7 ⟨g6,2,none⟩=some (.slice B6 m6 d6):=(hcx _ (by go_simp)).trans (by go_simp);clear hcx hfx hb7))
  | (go_at_call 44;go_must (refine (SPL.out (.slice none 0 0) 0 _ _ _ _ _ _ _ _ _ _ _ _ _ _ _ (by omega) ?_ ?_ ?_ ?_ ?_ ?_ ?_).mono ?_;(exact ((HB.out.below G9.out HB.out.lt).below Bel.go (HB.out.below G9.out HB.out.lt).lt));(exact Or.inl ⟨rfl,rfl⟩);(exact ((HP.out.below G9.out).below Bel.go));(exact (R6.out.move G9.out).hz.below Bel.go);(exact (R6.out.move G9.out).hq.below Bel.go);(exact (R5.out.move G9.out).hz.below Bel.go);(exact (R5.out.move G9.out).hq.below Bel.go);rintro e w12 ⟨⟨v12,rfl⟩,F',hB',hF',hfr,-⟩;have hst:=spl_done (Below.trans G9.out Bel.go) HB.out hfr hB' hF' R5.out R6.out hgu5 hgu6;have ST:=Lh hst;have k0:=hst.r5.c0;have k1:=hst.r5.c1;have k2:=hst.r5.c2;have k3:=hst.r6.c0;have k4:=hst.r6.c1;have k5:=hst.r6.c2;clear hst hB' hF' hfr)))
 rename_i hHeld
 obtain ⟨g,cap,hc⟩:=ST.out.two
 have hbf:Below w.heap.size w w12:=ST.out.fr.mono Hb.out hgw hgw Hb.out.size
 have Hbf:=Lh hbf
 clear hHeld hbf ST k0 k1 k2 k3 k4 k5 j0 j1 j2 j3 j4 j5 i0 i1 i2 i3 i4 i5 x0 x1 x2 y0 y1 y2 G7 G9 R5 R6 HB HP Hb
 go_wp2_with fail
 go_ret
 exact ⟨_,_,rfl,Hbf.out⟩
set_option maxHeartbeats 1000000 in
theorem awake17_any (w:World) :
  Calls Tryz.prog 4 #[] w fun e w'=>e=.returned (.bool true)/\Below w.heap.size w w':=by
 have jb:=below_new w (.cells #[.int .i64 (-2),.int .i64 0,.int .i64 1] 2)
 have hat:=w2_at w
 have Hb:=Lh jb
 clear jb
 go_enter Tryz.func4,Tryz.ntmps4
 go_wp2_with fail
 refine (pof_any _ _ _ _ _ hat (by intro c hc;simp[w2] at hc;rcases hc with rfl | rfl | rfl<;>(unfold I64;omega)) (by omega)).mono ?_
 rintro e w1 ⟨A1,l1,c1,rfl,h1,hb1⟩
 rw[show ptrim w2=w2 from w2_trim] at h1
 replace Hb:=Lh (Hb.out.trans (hb1.mono Hb.out.size))
 clear hb1 hat
 go_wp2_with fail
 refine (roots_w2 _ _ _ _ h1).mono ?_
 rintro e w2' ⟨A2,c2,rfl,hb2⟩
 replace Hb:=Lh (Hb.out.trans (hb2.mono Hb.out.size))
 clear hb2 h1
 go_wp2
 go_ret
 exact ⟨rfl,Hb.out⟩
end Go.Proofs.YtphmkdmflopcdaaGreat
