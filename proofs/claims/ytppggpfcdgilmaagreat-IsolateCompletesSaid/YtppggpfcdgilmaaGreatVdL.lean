/- awake of chapter 16, and the law IsolateValid. -/
import Derived.Test.YtppggpfcdgilmaaGreatIsv
import Derived.Test.YtppggpfcdgilmaaGreatSqw
namespace Go.Proofs.YtppggpfcdgilmaaGreat
open Go Go.RowKit
theorem w2_atI (w:World):I64At (w.alloc (.cells #[.int .i64 (-2),.int .i64 0,.int .i64 1] 2)) (some ⟨w.heap.size,0,none⟩) 3 3 w2:=by
 refine ⟨rfl,by omega,.inr ⟨w.heap.size,0,rfl,by simp,fun j hj=>?_⟩⟩
 match j,hj with
 | 0,_=>simp [w2]
 | 1,_=>simp [w2]
 | 2,_=>simp [w2]
theorem w2_trimI:ptrim w2=w2:=by decide
set_option maxHeartbeats 1000000 in
theorem awake16_any (w:World) :
  Calls Tryz.prog 10 #[] w fun e w'=>e=.returned (.bool true)∧Below w.heap.size w w':=by
 have jb:=below_new w (.cells #[.int .i64 (-2),.int .i64 0,.int .i64 1] 2)
 have hat:=w2_atI w
 have Hb:=Lib.hid jb
 clear jb
 go_enter Tryz.func10,Tryz.ntmps10
 go_wp2_with fail
 refine (pof_any _ _ _ _ _ hat (by intro c hc;simp [w2] at hc;rcases hc with rfl | rfl | rfl<;>(unfold I64;omega)) (by omega)).mono ?_
 rintro e w1 ⟨A1,l1,c1,rfl,h1,hb1⟩
 rw [show ptrim w2=w2 from w2_trimI] at h1
 have hl1:l1≤3:=by have:=h1.length;have e:w2.length=3:=rfl;omega
 replace Hb:=Lib.hid (Hb.out.trans (hb1.mono Hb.out.size))
 have h9:=p9_w2
 clear hb1 hat
 go_wp2_with fail
 refine (roots_any ikN _ _ _ w2 _ h1 h9.cp.fit.smp (fun _=>h9.q) (fun h=>SqF.of9 h9 h) (by omega)).mono ?_
 rintro e w2' ⟨⟨A2,l2,c2,rfl,h2⟩,hb2⟩
 obtain rfl:l2=2:=by rw [← h2.length];exact proots_w2
 replace Hb:=Lib.hid (Hb.out.trans (hb2.mono Hb.out.size))
 clear hb2 h1 h2
 go_wp2
 go_ret
 exact ⟨rfl,Hb.out⟩
structure Quad (W:World) (g:Nat) (x0 x1 x2 x3:Int):Prop where
 c0:W.cell? ⟨g,0,none⟩=some (.int .i8 x0)
 c1:W.cell? ⟨g,1,none⟩=some (.int .i8 x1)
 c2:W.cell? ⟨g,2,none⟩=some (.int .i8 x2)
 c3:W.cell? ⟨g,3,none⟩=some (.int .i8 x3)
 lt:g<W.heap.size
theorem Quad.move {W W':World} {g:Nat} {x0 x1 x2 x3:Int} (h:Quad W g x0 x1 x2 x3) (hb:Below W.heap.size W W'):Quad W' g x0 x1 x2 x3 :=
 ⟨(hb.cell (p:=⟨g,0,none⟩) h.lt).trans h.c0,(hb.cell (p:=⟨g,1,none⟩) h.lt).trans h.c1,(hb.cell (p:=⟨g,2,none⟩) h.lt).trans h.c2,(hb.cell (p:=⟨g,3,none⟩) h.lt).trans h.c3,Nat.lt_of_lt_of_le h.lt hb.size⟩
theorem Quad.make (W:World) (x0 x1 x2 x3:Int) (t:TypeId):Quad (W.alloc (.cells #[.int .i8 x0,.int .i8 x1,.int .i8 x2,.int .i8 x3] t)) W.heap.size x0 x1 x2 x3:=⟨by go_simp,by go_simp,by go_simp,by go_simp,by simp⟩
def OwnT (w:World) (a b:Fq) (s:Value) (wx:World):Prop:=∃ g n A l c B m d n' A' l' c' B' m' d',s=.pointer (some ⟨g,0,none⟩)∧TBox wx g n A l c B m d a.z a.q n' A' l' c' B' m' d' b.z b.q∧Below w.heap.size w wx
theorem put6_blk {w:World} {g t:Nat} {z0 z1 z2 z3 z4 z5:Value} (h:Blk w g t #[z0,z1,z2,z3,z4,z5]) (v0 v1 v2 v3 v4 v5:Value):Blk (put6 w g v0 v1 v2 v3 v4 v5) g t #[v0,v1,v2,v3,v4,v5]:=(((((h.set_ 0 v0).set_ 1 v1).set_ 2 v2).set_ 3 v3).set_ 4 v4).set_ 5 v5
theorem tbox_blk {w:World} {g:Nat} {n:Bool} {A:Option Addr} {l c:Nat} {B:Option Addr} {m d:Nat} {z:Int} {q:Nat} {n':Bool} {A':Option Addr} {l' c':Nat} {B':Option Addr} {m' d':Nat} {z':Int} {q':Nat} (hb:Blk w g 38 #[.bool n,.slice A l c,.slice B m d,.bool n',.slice A' l' c',.slice B' m' d']) (hz:IntN w n A l c z) (hq:NatN w B m d q) (hz':IntN w n' A' l' c' z') (hq':NatN w B' m' d' q'):TBox w g n A l c B m d z q n' A' l' c' B' m' d' z' q' :=
 ⟨⟨hb.cell 0,hb.cell 1,hb.cell 2,hb.frozen 0,hb.frozen 1,hb.frozen 2,hb.lt,hz,hq⟩,hb.cell 3,hb.cell 4,hb.cell 5,hz',hq'⟩
abbrev rz6:Array Value:=#[.bool false,.slice none 0 0,.slice none 0 0,.bool false,.slice none 0 0,.slice none 0 0]
theorem rz6_ndb {w:World} {g t:Nat} (h:Blk w g t rz6):NdB w g:=blk_ndb h fun j v hv=>by
 match j,hv with
 | 0,hv=>simp at hv;subst hv;exact noDigit_bool _
 | 1,hv=>simp at hv;subst hv;exact noDigit_slice _ _ _
 | 2,hv=>simp at hv;subst hv;exact noDigit_slice _ _ _
 | 3,hv=>simp at hv;subst hv;exact noDigit_bool _
 | 4,hv=>simp at hv;subst hv;exact noDigit_slice _ _ _
 | 5,hv=>simp at hv;subst hv;exact noDigit_slice _ _ _
 | j+6,hv=>simp at hv
theorem own_put {w w9:World} {g:Nat} {a b:Fq} {n:Bool} {A:Option Addr} {l c:Nat} {B:Option Addr} {m d:Nat} {n':Bool} {A':Option Addr} {l' c':Nat} {B':Option Addr} {m' d':Nat} (hw:Below w.heap.size w w9) (hk:Blk w9 g 38 rz6) (hg:w.heap.size≤g) (hz:IntN w9 n A l c a.z) (hq:NatN w9 B m d a.q) (hz':IntN w9 n' A' l' c' b.z) (hq':NatN w9 B' m' d' b.q) :
  OwnT w a b (.pointer (some ⟨g,0,none⟩)) (put6 w9 g (.bool n) (.slice A l c) (.slice B m d) (.bool n') (.slice A' l' c') (.slice B' m' d')):=by
 have hf:=put6_frs w9 g (.bool n) (.slice A l c) (.slice B m d) (.bool n') (.slice A' l' c') (.slice B' m' d')
 have nd:=rz6_ndb hk
 exact ⟨g,n,A,l,c,B,m,d,n',A',l',c',B',m',d',rfl,tbox_blk (put6_blk hk _ _ _ _ _ _) (hz.frs hf nd nd) (hq.frs hf nd nd) (hz'.frs hf nd nd) (hq'.frs hf nd nd),hf.mono hw hg hg hw.size⟩
theorem own_make {w w9:World} {a b:Fq} {n:Bool} {A:Option Addr} {l c:Nat} {B:Option Addr} {m d:Nat} {n':Bool} {A':Option Addr} {l' c':Nat} {B':Option Addr} {m' d':Nat} (hw:Below w.heap.size w w9) (hz:IntN w9 n A l c a.z) (hq:NatN w9 B m d a.q) (hz':IntN w9 n' A' l' c' b.z) (hq':NatN w9 B' m' d' b.q) :
  OwnT w a b (.pointer (some ⟨w9.heap.size,0,none⟩)) (w9.alloc (tbox n A l c B m d n' A' l' c' B' m' d')) :=
 ⟨_,n,A,l,c,B,m,d,n',A',l',c',B',m',d',rfl,TBox.make hz hq hz' hq',hw.alloc hw.size _⟩
theorem rt_fqb {p d:Int} (hp:I8 p) (hd:I8 d):FqB ⟨rtz p d,rtq p d⟩:=by
 obtain ⟨h1,h2,h3⟩:=at_ok hp hd
 exact ⟨h1.pos,h2,h3⟩
set_option maxRecDepth 100000 in
set_option maxHeartbeats 4000000 in
theorem law_valid (A:Option Addr) (la ca:Nat) (cs:List Int) (q0 q1 q2 q3:Int) (w:World) (h:I16At w A la ca cs) (hlm:la≤9223372036854775807) (h0:I8 q0) (h1:I8 q1) (h2:I8 q2) (h3:I8 q3) :
  Calls Tryz.prog 3 #[.slice A la ca,.agg #[.int .i8 q0,.int .i8 q1,.int .i8 q2,.int .i8 q3]] w fun e w'=>e=.returned (.bool true)∧Below w.heap.size w w':=by
 have o1:=below_new w (.cells #[.int .i8 q0,.int .i8 q1,.int .i8 q2,.int .i8 q3] 25)
 have R:=Lib.hid (Quad.make w q0 q1 q2 q3 25)
 have Hi:=Lib.hid (h.below o1)
 have Hb:=Lib.hid o1
 have F9:P9 (ptrim (cs.take 7)):=short_p9 h (by omega)
 obtain ⟨_,lF,tF,_⟩:=short_bd h 7
 obtain ⟨F,hF⟩:∃ F,F=ptrim (cs.take 7):=⟨_,rfl⟩
 rw [← hF] at F9 lF tF
 have HFe:=Lib.hid hF.symm
 clear o1 h hF
 go_enter Tryz.func3,Tryz.ntmps3
 go_wp2_with fail
 refine (awake16_any _).mono ?_
 rintro e w1 ⟨rfl,hb1⟩
 replace R:=Lib.hid (R.out.move hb1)
 replace Hi:=Lib.hid (Hi.out.below hb1)
 replace Hb:=Lib.hid (Hb.out.trans (hb1.mono Hb.out.size))
 clear hb1
 go_wp2_with fail
 refine (short_any _ _ _ 7 _ _ Hi.out (by omega) hlm).mono ?_
 rintro e w2 ⟨Af,lf,cf,rfl,h2f,hb2⟩
 rw [HFe.out] at h2f
 have hlf:lf≤7:=by have:=h2f.length;omega
 have HP:=Lib.hid h2f
 replace R:=Lib.hid (R.out.move hb2)
 replace Hb:=Lib.hid (Hb.out.trans (hb2.mono Hb.out.size))
 clear hb2 h2f Hi
 go_upto_region 4 with (fail)
 obtain ⟨wb,hwb⟩:∃ wb,wb=w2:=⟨_,rfl⟩
 obtain ⟨g0,hg0⟩:∃ g,g=w.heap.size:=⟨_,rfl⟩
 rw [← hwb] at R HP Hb ⊢
 rw [← hg0] at R ⊢
 clear hwb hg0
 have l0:=R.out.lt
 go_cut [6] (fun s6 wx=>OwnT wb ⟨rtz q0 q1,rtq q0 q1⟩ ⟨rtz q2 q3,rtq q2 q3⟩ s6 wx)
 case first =>
  have x0:=R.out.c0
  have x1:=R.out.c1
  have x2:=R.out.c2
  have x3:=R.out.c3
  have nb1:g0≠wb.heap.size:=by omega
  have nb2:wb.heap.size≠g0:=by omega
  go_region_held3 (fun w'=>w'.cell? ⟨g0,0,none⟩=some (.int .i8 q0)∧w'.cell? ⟨g0,1,none⟩=some (.int .i8 q1)∧w'.cell? ⟨g0,2,none⟩=some (.int .i8 q2)∧w'.cell? ⟨g0,3,none⟩=some (.int .i8 q3)) (go_keep) (first
   | (go_at_call 12;(have _hx:=G7);go_must (refine (rat15_any q2 q3 _ h2 h3).mono ?_;rintro e w9 ⟨⟨n9,A9,l9,c9,B9,m9,d9,rfl,h9,k9⟩,hb9⟩;have hbz:Below w7.heap.size w7 w9:=Below.trans Bel.go (hb9.mono (by simp<;>omega));have H9:=Lib.hid (And.intro (And.intro (H7.out.1.below hbz) (H7.out.2.below hbz)) (And.intro h9 k9));have G9:Hid (Below wb.heap.size wb w9):=Lib.hid (G7.out.trans (hbz.mono G7.out.size));(try (have KK:=K7.out.below hbz K7.out.lt;have K9:=Lib.hid KK;have r0:World.cell? w9 ⟨wb.heap.size,0,none⟩=some (.bool false):=(KK.cell 0).trans rfl;have r1:World.cell? w9 ⟨wb.heap.size,1,none⟩=some (.slice none 0 0):=(KK.cell 1).trans rfl;have r2:World.cell? w9 ⟨wb.heap.size,2,none⟩=some (.slice none 0 0):=(KK.cell 2).trans rfl;have r3:World.cell? w9 ⟨wb.heap.size,3,none⟩=some (.bool false):=(KK.cell 3).trans rfl;have r4:World.cell? w9 ⟨wb.heap.size,4,none⟩=some (.slice none 0 0):=(KK.cell 4).trans rfl;have r5:World.cell? w9 ⟨wb.heap.size,5,none⟩=some (.slice none 0 0):=(KK.cell 5).trans rfl;have s0:=KK.frozen 0;have s1:=KK.frozen 1;have s2:=KK.frozen 2;have s3:=KK.frozen 3;have s4:=KK.frozen 4;have s5:=KK.frozen 5;clear KK));(try (have KK:Blk w9 w7.heap.size 38 rz6:=(hb9.block w7.heap.size (by first | (simp;done) | (simp;omega))).trans (Blk.new w7 38 rz6);have K9:=Lib.hid KK;have r0:World.cell? w9 ⟨w7.heap.size,0,none⟩=some (.bool false):=(KK.cell 0).trans rfl;have r1:World.cell? w9 ⟨w7.heap.size,1,none⟩=some (.slice none 0 0):=(KK.cell 1).trans rfl;have r2:World.cell? w9 ⟨w7.heap.size,2,none⟩=some (.slice none 0 0):=(KK.cell 2).trans rfl;have r3:World.cell? w9 ⟨w7.heap.size,3,none⟩=some (.bool false):=(KK.cell 3).trans rfl;have r4:World.cell? w9 ⟨w7.heap.size,4,none⟩=some (.slice none 0 0):=(KK.cell 4).trans rfl;have r5:World.cell? w9 ⟨w7.heap.size,5,none⟩=some (.slice none 0 0):=(KK.cell 5).trans rfl;have s0:=KK.frozen 0;have s1:=KK.frozen 1;have s2:=KK.frozen 2;have s3:=KK.frozen 3;have s4:=KK.frozen 4;have s5:=KK.frozen 5;clear KK));have T9:=R.out.move G9.out;have j0:=T9.c0;have j1:=T9.c1;have j2:=T9.c2;have j3:=T9.c3;have l9:g0<w9.heap.size:=(by have:=G9.out.size;omega);have nb5:g0≠w9.heap.size:=(by omega);have nb6:w9.heap.size≠g0:=(by omega);clear T9 h9 k9 hb9 hbz))
   | (go_at_call 12;go_must (refine (rat15_any q0 q1 _ h0 h1).mono ?_;rintro e w7 ⟨⟨n7,A7,l7,c7,B7,m7,d7,rfl,h7,k7⟩,hb7⟩;have H7:=Lib.hid (And.intro h7 k7);have G7:Hid (Below wb.heap.size wb w7):=Lib.hid (Below.trans Bel.go (hb7.mono (by simp<;>omega)));(try (have KK:Blk w7 wb.heap.size 38 rz6:=(hb7.block wb.heap.size (by first | (simp;done) | (simp;omega))).trans (Blk.new wb 38 rz6);have K7:=Lib.hid KK;have hk7:=KK.lt;clear KK));have T7:=R.out.move G7.out;have i0:=T7.c0;have i1:=T7.c1;have i2:=T7.c2;have i3:=T7.c3;have l7:g0<w7.heap.size:=(by have:=G7.out.size;omega);have nb3:g0≠w7.heap.size:=(by omega);have nb4:w7.heap.size≠g0:=(by omega);clear T7 h7 k7 hb7)))
  ·clear x0 x1 x2 x3 i0 i1 i2 i3 j0 j1 j2 j3
   go_wp2_with fail
   go_meet
   exact own_make G9.out H9.out.1.1 H9.out.1.2 H9.out.2.1 H9.out.2.2
  ·clear x0 x1 x2 x3 i0 i1 i2 i3 j0 j1 j2 j3
   go_wp2_with fail
   go_meet
   exact own_put G9.out K9.out G7.out.size H9.out.1.1 H9.out.1.2 H9.out.2.1 H9.out.2.2
  ·clear x0 x1 x2 x3 i0 i1 i2 i3 j0 j1 j2 j3
   go_wp2_with fail
   go_meet
   exact own_put G9.out K9.out (Nat.le_refl _) H9.out.1.1 H9.out.1.2 H9.out.2.1 H9.out.2.2
 case rest =>
  obtain ⟨g,n,A1,l1,c1,B1,m1,d1,n',A2,l2,c2,B2,m2,d2,rfl,ht,hb3⟩:=hcut
  have T:=Lib.hid ht
  replace HP:=Lib.hid (HP.out.below ikN hb3)
  replace Hb:=Lib.hid (Hb.out.trans (hb3.mono Hb.out.size))
  have ha:=rt_fqb h0 h1
  have hb:=rt_fqb h2 h3
  obtain ⟨fa,hfa⟩:∃ fa:Fq,fa=⟨rtz q0 q1,rtq q0 q1⟩:=⟨_,rfl⟩
  obtain ⟨fb,hfb⟩:∃ fb:Fq,fb=⟨rtz q2 q3,rtq q2 q3⟩:=⟨_,rfl⟩
  have T2:Hid (TBox wc g n A1 l1 c1 B1 m1 d1 fa.z fa.q n' A2 l2 c2 B2 m2 d2 fb.z fb.q):=Lib.hid (by rw [hfa,hfb];exact T.out)
  rw [← hfa] at ha
  rw [← hfb] at hb
  have hv:=vld_one F9 ha.p hb.p
  obtain ⟨V,hV⟩:∃ V,V=vld 2 F fa fb:=⟨_,rfl⟩
  rw [← hV] at hv
  have HV:=Lib.hid hV.symm
  have HV1:=Lib.hid hv
  clear hV hv T hb3 hfa hfb ht
  obtain ⟨wk,hwk⟩:∃ wk,wk=wc:=⟨_,rfl⟩
  rw [← hwk] at T2 HP Hb ⊢
  clear hwk
  have x0:=T2.out.r.c0
  have x1:=T2.out.r.c1
  have x2:=T2.out.r.c2
  have x3:=T2.out.c3
  have x4:=T2.out.c4
  have x5:=T2.out.c5
  go_wp2_with fail
  go_region_held3 (fun w'=>w'.cell? ⟨g,0,none⟩=some (.bool n)∧w'.cell? ⟨g,1,none⟩=some (.slice A1 l1 c1)∧w'.cell? ⟨g,2,none⟩=some (.slice B1 m1 d1)∧w'.cell? ⟨g,3,none⟩=some (.bool n')∧w'.cell? ⟨g,4,none⟩=some (.slice A2 l2 c2)∧w'.cell? ⟨g,5,none⟩=some (.slice B2 m2 d2)) (go_keep) (first
   | (go_at_call 14;go_must (refine (lawvalid_any ikN _ _ _ F fa fb _ _ _ _ _ _ _ _ _ _ _ _ _ _ _ ?_ (by omega) F9 ?_ ?_ ?_ ?_ ha hb).mono ?_;(exact (HP.out.below ikN G7.out).below ikN Bel.go);(exact (T2.out.move G7.out).r.hz.below Bel.go);(exact (T2.out.move G7.out).r.hq.below Bel.go);(exact (T2.out.move G7.out).hz.below Bel.go);(exact (T2.out.move G7.out).hq.below Bel.go);rintro e w9 ⟨rfl,hb9⟩;rw [HV1.out];have G9:Hid (Below wk.heap.size wk w9):=Lib.hid (G7.out.trans ((Below.trans Bel.go (hb9.mono (by simp<;>omega))).mono G7.out.size));have T9:=T2.out.move G9.out;have j0:=T9.r.c0;have j1:=T9.r.c1;have j2:=T9.r.c2;have j3:=T9.c3;have j4:=T9.c4;have j5:=T9.c5;clear T9 hb9))
   | (go_at_call 13;go_must (refine (valid_any ikN _ _ _ F fa fb _ _ _ _ _ _ _ _ _ _ _ _ _ _ _ ?_ (by omega) F9 ?_ ?_ ?_ ?_ ha hb).mono ?_;(exact HP.out.below ikN Bel.go);(exact T2.out.r.hz.below Bel.go);(exact T2.out.r.hq.below Bel.go);(exact T2.out.hz.below Bel.go);(exact T2.out.hq.below Bel.go);rintro e w7 ⟨rfl,hb7⟩;rw [HV.out];have G7:Hid (Below wk.heap.size wk w7):=Lib.hid (Below.trans Bel.go (hb7.mono (by simp<;>omega)));have T7:=T2.out.move G7.out;have i0:=T7.r.c0;have i1:=T7.r.c1;have i2:=T7.r.c2;have i3:=T7.c3;have i4:=T7.c4;have i5:=T7.c5;clear T7 hb7)))
  rename_i hHeld
  replace Hb:=Lib.hid (Hb.out.trans (G9.out.mono Hb.out.size))
  clear hHeld x0 x1 x2 x3 x4 x5 i0 i1 i2 i3 i4 i5 j0 j1 j2 j3 j4 j5 G7 G9 T2 HP
  go_wp2
  go_ret
  exact ⟨by first | rfl | simp,Hb.out⟩
end Go.Proofs.YtppggpfcdgilmaaGreat
