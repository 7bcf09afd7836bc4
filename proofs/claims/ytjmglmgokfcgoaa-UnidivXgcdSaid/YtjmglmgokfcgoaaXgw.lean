/- The walk of unidiv.Xgcd. -/
import Derived.Test.YtjmglmgokfcgoaaXgr
import Derived.Test.YtjmglmgokfcgoaaSta
namespace Go.Proofs.Ytjmglmgokfcgoaa
open Go Go.RowKit
structure RowB (w:World) (g:Nat) (A1:Option Addr) (l1 c1:Nat) (A2:Option Addr) (l2 c2:Nat) (A3:Option Addr) (l3 c3:Nat) (a u v:List Int):Prop where
 k:Blk w g 60 #[.slice A1 l1 c1,.slice A2 l2 c2,.slice A3 l3 c3]
 p1:PolyN w A1 l1 c1 a
 p2:PolyN w A2 l2 c2 u
 p3:PolyN w A3 l3 c3 v
theorem PolyN.stoB {w:World} {A:Option Addr} {l c:Nat} {p:List Int} (h:PolyN w A l c p) {g i:Nat} {A0:Option Addr} {l0 c0:Nat} (hk:∀ j b,w.cell? ⟨g,j,none⟩≠some (.bool b)) (hc:w.cell? ⟨g,i,none⟩=some (.slice A0 l0 c0)) (u:Value):PolyN (w.setCell ⟨g,i,none⟩ u) A l c p:=by
 refine ⟨h.length,h.cap,?_⟩
 rcases h.elems with h0 | ⟨b,off,hA,hlt,hj⟩
 ·exact .inl h0
 rcases Nat.eq_zero_or_pos l with l0 | lp
 ·exact .inl l0
 have hbg:b≠g:=by
  rintro rfl
  obtain ⟨n,_,_,_,e,_,_⟩:=hj 0 lp
  exact hk _ _ e
 refine .inr ⟨b,off,hA,by simpa using hlt,fun j hjl=>?_⟩
 obtain ⟨n,A1,l1,c1,e1,e2,e3⟩:=hj j hjl
 refine ⟨n,A1,l1,c1,?_,?_,e3.store _ hc (noDigit_slice _ _ _)⟩
 ·rw [World.cell?_setCell_other _ _ _ _ (by intro e;injection e with e _;exact hbg e.symm)];exact e1
 ·rw [World.cell?_setCell_other _ _ _ _ (by intro e;injection e with e _;exact hbg e.symm)];exact e2
theorem blk3_bool {w:World} {g:Nat} {t:TypeId} {A1 A2 A3:Option Addr} {l1 c1 l2 c2 l3 c3:Nat} (k:Blk w g t #[.slice A1 l1 c1,.slice A2 l2 c2,.slice A3 l3 c3]) (j:Nat) (b:Bool):w.cell? ⟨g,j,none⟩≠some (.bool b):=by
 rw [k.cell j]
 match j with
 | 0=>simp
 | 1=>simp
 | 2=>simp
 | j+3=>simp
section
variable {w w':World} {g g':Nat} {A1 A2 A3 B1 B2 B3:Option Addr} {l1 c1 l2 c2 l3 c3 m1 d1 m2 d2 m3 d3:Nat} {a u v b x y p:List Int}
theorem RowB.lt (h:RowB w g A1 l1 c1 A2 l2 c2 A3 l3 c3 a u v):g<w.heap.size:=h.k.lt
theorem RowB.e0 (h:RowB w g A1 l1 c1 A2 l2 c2 A3 l3 c3 a u v):w.cell? ⟨g,0,none⟩=some (.slice A1 l1 c1):=(h.k.cell 0).trans rfl
theorem RowB.e1 (h:RowB w g A1 l1 c1 A2 l2 c2 A3 l3 c3 a u v):w.cell? ⟨g,1,none⟩=some (.slice A2 l2 c2):=(h.k.cell 1).trans rfl
theorem RowB.e2 (h:RowB w g A1 l1 c1 A2 l2 c2 A3 l3 c3 a u v):w.cell? ⟨g,2,none⟩=some (.slice A3 l3 c3):=(h.k.cell 2).trans rfl
theorem RowB.move (h:RowB w g A1 l1 c1 A2 l2 c2 A3 l3 c3 a u v) (hb:Below w.heap.size w w'):RowB w' g A1 l1 c1 A2 l2 c2 A3 l3 c3 a u v:=⟨h.k.below hb h.k.lt,h.p1.below ikN hb,h.p2.below ikN hb,h.p3.below ikN hb⟩
theorem RowB.make (h1:PolyN w A1 l1 c1 a) (h2:PolyN w A2 l2 c2 u) (h3:PolyN w A3 l3 c3 v):RowB (w.alloc (.cells #[.slice A1 l1 c1,.slice A2 l2 c2,.slice A3 l3 c3] 60)) w.heap.size A1 l1 c1 A2 l2 c2 A3 l3 c3 a u v :=
 have hb:Below w.heap.size w (w.alloc (.cells #[.slice A1 l1 c1,.slice A2 l2 c2,.slice A3 l3 c3] 60)):=(Below.refl _ _).alloc (Nat.le_refl _) _
 ⟨Blk.new _ _ _,h1.below ikN hb,h2.below ikN hb,h3.below ikN hb⟩
theorem poly_put3 (h:PolyN w A1 l1 c1 p) (k:Blk w g 60 #[.slice B1 m1 d1,.slice B2 m2 d2,.slice B3 m3 d3]) (E1 E2 E3:Option Addr) (n1 q1 n2 q2 n3 q3:Nat):PolyN (put3 w g (.slice E1 n1 q1) (.slice E2 n2 q2) (.slice E3 n3 q3)) A1 l1 c1 p:=by
 have k1:Blk (w.setCell ⟨g,0,none⟩ (.slice E1 n1 q1)) g 60 #[.slice E1 n1 q1,.slice B2 m2 d2,.slice B3 m3 d3]:=k.set_ 0 _
 have k2:Blk ((w.setCell ⟨g,0,none⟩ (.slice E1 n1 q1)).setCell ⟨g,1,none⟩ (.slice E2 n2 q2)) g 60 #[.slice E1 n1 q1,.slice E2 n2 q2,.slice B3 m3 d3]:=k1.set_ 1 _
 exact ((h.stoB (blk3_bool k) ((k.cell 0).trans rfl) _).stoB (blk3_bool k1) ((k1.cell 1).trans rfl) _).stoB (blk3_bool k2) ((k2.cell 2).trans rfl) _
theorem RowB.put (h:RowB w g A1 l1 c1 A2 l2 c2 A3 l3 c3 a u v) (h1:PolyN w B1 m1 d1 b) (h2:PolyN w B2 m2 d2 x) (h3:PolyN w B3 m3 d3 y):RowB (put3 w g (.slice B1 m1 d1) (.slice B2 m2 d2) (.slice B3 m3 d3)) g B1 m1 d1 B2 m2 d2 B3 m3 d3 b x y :=
 ⟨((h.k.set_ 0 _).set_ 1 _).set_ 2 _,poly_put3 h1 h.k _ _ _ _ _ _ _ _ _,poly_put3 h2 h.k _ _ _ _ _ _ _ _ _,poly_put3 h3 h.k _ _ _ _ _ _ _ _ _⟩
theorem RowB.far (h:RowB w g A1 l1 c1 A2 l2 c2 A3 l3 c3 a u v) (h':RowB w g' B1 m1 d1 B2 m2 d2 B3 m3 d3 b x y) (hg:g≠g') (E1 E2 E3:Option Addr) (n1 q1 n2 q2 n3 q3:Nat):RowB (put3 w g' (.slice E1 n1 q1) (.slice E2 n2 q2) (.slice E3 n3 q3)) g A1 l1 c1 A2 l2 c2 A3 l3 c3 a u v :=
 ⟨((h.k.far (p:=⟨g',0,none⟩) hg _).far (p:=⟨g',1,none⟩) hg _).far (p:=⟨g',2,none⟩) hg _,poly_put3 h.p1 h'.k _ _ _ _ _ _ _ _ _,poly_put3 h.p2 h'.k _ _ _ _ _ _ _ _ _,poly_put3 h.p3 h'.k _ _ _ _ _ _ _ _ _⟩
theorem below_put3 {B:Nat} (h:Below B w w') (hg:B≤g) (x y z:Value):Below B w (put3 w' g x y z):=((h.setCell (p:=⟨g,0,none⟩) hg x).setCell (p:=⟨g,1,none⟩) hg y).setCell (p:=⟨g,2,none⟩) hg z
end
theorem xone_at (w:World) (t:TypeId):I64At (w.alloc (.cells #[.int .i64 1] t)) (some ⟨w.heap.size,0,none⟩) 1 1 [1]:=⟨rfl,Nat.le_refl _,.inr ⟨w.heap.size,0,rfl,by simp,fun j hj=>by
 match j,hj with
 | 0,_=>simp⟩⟩
structure XW (w:World) (F G:List Int) (wr:World) (g1 g2 k:Nat):Prop where
 x:∃ (a ua va b ub vb:List Int) (A1:Option Addr) (l1 c1:Nat) (A2:Option Addr) (l2 c2:Nat) (A3:Option Addr) (l3 c3:Nat) (B1:Option Addr) (d1:Nat) (B2:Option Addr) (m2 d2:Nat) (B3:Option Addr) (m3 d3:Nat),XR F G a ua va b ub vb∧RowB wr g1 A1 l1 c1 A2 l2 c2 A3 l3 c3 a ua va∧RowB wr g2 B1 k d1 B2 m2 d2 B3 m3 d3 b ub vb
 b:Below w.heap.size w wr
def xsg (a p:List Int):List Int:=if plen a=0 then [] else if plead a<0 then pmn (ptrim p) else p
set_option maxRecDepth 100000 in
set_option maxHeartbeats 8000000 in
theorem xgcd_any {I J:IntPred} (hI:IK I) (hJ:IK J) (A:Option Addr) (la ca:Nat) (f:List Int) (B:Option Addr) (lb cb:Nat) (g:List Int) (w:World) (hf:PolyP I w A la ca f) (hg:PolyP J w B lb cb g) (hsf:SmP f) (hsg:SmP g) (hla:la≤1000000) (hlb:lb≤1000000) (ok:XOK (ptrim f) (ptrim g)) :
  Calls Try.prog 7 #[.slice A la ca,.slice B lb cb] w fun e w'=>∃ a ua va R1 r1 e1 R2 r2 e2 R3 r3 e3,XE (ptrim f) (ptrim g) a ua va∧e=.returned (.tuple #[.slice R1 r1 e1,.slice R2 r2 e2,.slice R3 r3 e3]) ∧
   PolyN w' R1 r1 e1 (xsg a a)∧PolyN w' R2 r2 e2 (xsg a ua)∧PolyN w' R3 r3 e3 (xsg a va)∧Below w.heap.size w w':=by
 obtain ⟨F,hF⟩:∃ F,F=ptrim f:=⟨_,rfl⟩
 obtain ⟨G,hG⟩:∃ G,G=ptrim g:=⟨_,rfl⟩
 rw [← hF,← hG] at ok
 have OK:=Lib.hid ok
 have HFe:=Lib.hid hF
 have HGe:=Lib.hid hG
 have Hf:=Lib.hid hf
 have Hg:=Lib.hid hg
 clear hf hg hF hG ok
 go_enter Try.func7,Try.ntmps7
 go_wp2_with fail
 refine (pnormal_any hI _ _ _ _ _ Hf.out hsf (by omega)).mono ?_
 rintro e w1 ⟨gf,rfl,r1,-,hb1⟩
 have P1:=Lib.hid (show PolyN w1 (some ⟨gf,0,none⟩) (plen f) (plen f) F by
  rw [HFe.out]
  have:=r1.poly (cap:=plen f) (by rw [ptrim_length];exact Nat.le_refl _)
  rw [ptrim_length] at this
  exact this)
 have Hb:=Lib.hid hb1
 replace Hg:=Lib.hid (Hg.out.below hJ hb1)
 clear r1 hb1
 go_wp2_with fail
 have ho1:=(Below.refl w1.heap.size w1).alloc (Nat.le_refl _) (.cells #[.int .i64 1] 2)
 refine (pof_any _ _ _ [1] _ (xone_at _ _) (by intro c hc;simp at hc;subst hc;unfold I64;omega) (by omega)).mono ?_
 rintro e w2 ⟨A2,l2,c2,rfl,h2,hb2⟩
 have hb12:=ho1.trans (hb2.mono ho1.size)
 replace P1:=Lib.hid (P1.out.below ikN hb12)
 replace Hb:=Lib.hid (Hb.out.trans (hb12.mono Hb.out.size))
 replace Hg:=Lib.hid (Hg.out.below hJ hb12)
 have P2:=Lib.hid h2
 clear h2 hb2 hb12 ho1
 go_wp2_with fail
 obtain ⟨g1,hg1⟩:∃ g1,g1=w2.heap.size:=⟨_,rfl⟩
 obtain ⟨W1,hW1⟩:∃ W,W=w2.alloc (.cells #[.slice (some ⟨gf,0,none⟩) (plen f) (plen f),.slice A2 l2 c2,.slice none 0 0] 60):=⟨_,rfl⟩
 have R1:=Lib.hid (show RowB W1 g1 (some ⟨gf,0,none⟩) (plen f) (plen f) A2 l2 c2 none 0 0 F [1] [] by rw [hW1,hg1];exact RowB.make P1.out P2.out (PolyP.nil _ _ _ _))
 have hbW:Below w2.heap.size w2 W1:=by rw [hW1];exact (Below.refl _ _).alloc (Nat.le_refl _) _
 have hgw:w.heap.size≤g1:=by rw [hg1];exact Hb.out.size
 replace Hb:=Lib.hid (Hb.out.trans (hbW.mono Hb.out.size))
 replace Hg:=Lib.hid (Hg.out.below hJ hbW)
 rw [← hW1,← hg1]
 clear hbW hW1 hg1 P1 P2 Hf
 go_wp2_with fail
 refine (pnormal_any hJ _ _ _ _ _ Hg.out hsg (by omega)).mono ?_
 rintro e w3 ⟨gg,rfl,r3,-,hb3⟩
 have P3:=Lib.hid (show PolyN w3 (some ⟨gg,0,none⟩) (plen g) (plen g) G by
  rw [HGe.out]
  have:=r3.poly (cap:=plen g) (by rw [ptrim_length];exact Nat.le_refl _)
  rw [ptrim_length] at this
  exact this)
 replace Hb:=Lib.hid (Hb.out.trans (hb3.mono Hb.out.size))
 replace R1:=Lib.hid (R1.out.move hb3)
 clear r3 hb3 Hg
 go_wp2_with fail
 have ho3:=(Below.refl w3.heap.size w3).alloc (Nat.le_refl _) (.cells #[.int .i64 1] 2)
 refine (pof_any _ _ _ [1] _ (xone_at _ _) (by intro c hc;simp at hc;subst hc;unfold I64;omega) (by omega)).mono ?_
 rintro e w4 ⟨A4,l4,c4,rfl,h4,hb4⟩
 have hb34:=ho3.trans (hb4.mono ho3.size)
 replace P3:=Lib.hid (P3.out.below ikN hb34)
 replace R1:=Lib.hid (R1.out.move hb34)
 replace Hb:=Lib.hid (Hb.out.trans (hb34.mono Hb.out.size))
 have P4:=Lib.hid h4
 clear h4 hb4 hb34 ho3
 go_wp2_with fail
 obtain ⟨g2,hg2⟩:∃ g2,g2=w4.heap.size:=⟨_,rfl⟩
 obtain ⟨W2,hW2⟩:∃ W,W=w4.alloc (.cells #[.slice (some ⟨gg,0,none⟩) (plen g) (plen g),.slice none 0 0,.slice A4 l4 c4] 60):=⟨_,rfl⟩
 have R2:=Lib.hid (show RowB W2 g2 (some ⟨gg,0,none⟩) (plen g) (plen g) none 0 0 A4 l4 c4 G [] [1] by rw [hW2,hg2];exact RowB.make P3.out (PolyP.nil _ _ _ _) P4.out)
 have hbW:Below w4.heap.size w4 W2:=by rw [hW2];exact (Below.refl _ _).alloc (Nat.le_refl _) _
 have hg12:g1<g2:=by rw [hg2];exact R1.out.lt
 replace R1:=Lib.hid (R1.out.move hbW)
 replace Hb:=Lib.hid (Hb.out.trans (hbW.mono Hb.out.size))
 rw [← hW2,← hg2]
 have HW:=Lib.hid (XW.mk (w:=w) (F:=F) (G:=G) (wr:=W2) (g1:=g1) (g2:=g2) (k:=plen g) ⟨F,[1],[],G,[],[1],_,_,_,_,_,_,_,_,_,_,_,_,_,_,_,_,_,XR.start OK.out,R1.out,R2.out⟩ Hb.out)
 clear hbW hW2 hg2 P3 P4 R1 R2 Hb
 go_wp2_with fail
 go_loopg [] (plen g) (fun k wr=>XW w F G wr g1 g2 k)
 case atStart=>exact HW.out
 case round =>
  clear HW
  obtain ⟨⟨a,ua,va,b,ub,vb,A1,l1,c1,A2,l2,c2,A3,l3,c3,B1,d1,B2,m2,d2,B3,m3,d3,hx,r1,r2⟩,hb⟩:=hrel
  have HX:=Lib.hid hx
  have R1:=Lib.hid r1
  have R2:=Lib.hid r2
  have Hb:=Lib.hid hb
  have a1:=r1.e0
  have a2:=r1.e1
  have a3:=r1.e2
  have b1:=r2.e0
  have b2:=r2.e1
  have b3:=r2.e2
  have hkb:gk=plen b:=by rw [← r2.p1.length];exact len_trim (hx.trim OK.out).2
  have hl:=hx.len
  have e1:=r1.p1.length
  have e2:=r1.p2.length
  have e3:=r1.p3.length
  have e4:=r2.p1.length
  have e5:=r2.p2.length
  have e6:=r2.p3.length
  have HL:=Lib.hid (show l1≤20∧l2≤20∧l3≤20∧gk≤20∧m2≤20∧m3≤20 by omega)
  have Hkb:=Lib.hid hkb
  clear hx r1 r2 hb hl e1 e2 e3 e4 e5 e6
  by_cases hk:gk=0
  ·have HE:=Lib.hid (HX.out.fin OK.out (by omega))
   have hk1:¬ (0:Int)<(gk:Int):=by omega
   clear HX hkb
   go_wp2_with fail
   refine (lead_any _ _ _ a _ (R1.out.p1.at_ ikN) HE.out.fit.1.smp (by have:=HL.out;omega)).mono ?_
   rintro e w6 ⟨n6,A6,l6,c6,rfl,h6,hb6⟩
   have HS:=Lib.hid (show SmI (plead a) from (show Fit (plead a) from HE.out.fit.1 _).sm)
   replace R1:=Lib.hid (R1.out.move hb6)
   replace Hb:=Lib.hid (Hb.out.trans (hb6.mono Hb.out.size))
   have H6:=Lib.hid h6
   clear h6 hb6 R2 a1 a2 a3 b1 b2 b3
   go_wp2_with fail
   refine (isign_any _ _ _ _ (plead a) _ H6.out.at_ HS.out).mono ?_
   rintro e w7 ⟨rfl,hw7⟩
   have hb7:Below w6.heap.size w6 w7:=by rw [hw7];exact (Below.refl _ _).alloc (Nat.le_refl _) _
   replace R1:=Lib.hid (R1.out.move hb7)
   replace Hb:=Lib.hid (Hb.out.trans (hb7.mono Hb.out.size))
   clear hw7 hb7 H6 HS
   have a1:=R1.out.e0
   have a2:=R1.out.e1
   have a3:=R1.out.e2
   have hg1:=R1.out.lt
   have hlen:=HL.out
   have HA:=Lib.hid (HE.out.fit.1.smp)
   have HU:=Lib.hid (HE.out.fit.2.1.smp)
   have HV:=Lib.hid (HE.out.fit.2.2.smp)
   have hsc:=sg_cases (plead a)
   obtain ⟨s,hs⟩:∃ s,s=sg (plead a):=⟨_,rfl⟩
   rw [← hs] at hsc ⊢
   clear hs
   rcases hsc with ⟨x1,rfl⟩ | ⟨x1,rfl⟩ | ⟨x1,rfl⟩
   ·have pa:plen a≠0:=fun h=>by have:=plead_zero.2 h;omega
    have X1:=Lib.hid (show ∀ p,xsg a p=pmn (ptrim p) from fun p=>by unfold xsg;rw [if_neg pa,if_pos x1])
    clear pa x1
    go_wp2_with fail
    refine wp_region_held_drew (S:=fun w'=>w'.cell? ⟨g1,0,none⟩=some (.slice A1 l1 c1)∧w'.cell? ⟨g1,1,none⟩=some (.slice A2 l2 c2)∧w'.cell? ⟨g1,2,none⟩=some (.slice A3 l3 c3)) (by kernel_rfl) (by (try dsimp only);go_keep) (fun hHeld=>?_)
    (refine tk (i:=0) (v:=?_) rfl rfl (Or.inl ⟨by rfl,?_⟩) ?_;rotate_left;(focus (intro w hSw;(try dsimp only at hSw);go_simp;(try with_reducible rfl)));(simp only [put_lit,List.set]))
    (refine tk (i:=1) (v:=?_) rfl rfl (Or.inl ⟨by rfl,?_⟩) ?_;rotate_left;(focus (intro w hSw;(try dsimp only at hSw);go_simp;(try with_reducible rfl)));(simp only [put_lit,List.set]))
    (refine tk (i:=3) (v:=?_) rfl rfl (Or.inl ⟨by rfl,?_⟩) ?_;rotate_left;(focus (intro w hSw;(try dsimp only at hSw);go_simp;(try with_reducible rfl)));(simp only [put_lit,List.set]))
    (refine tk (i:=4) (v:=?_) rfl rfl (Or.inl ⟨by rfl,?_⟩) ?_;rotate_left;(focus (intro w hSw;(try dsimp only at hSw);go_simp;(try with_reducible rfl)));(simp only [put_lit,List.set]))
    (refine tk (i:=6) (v:=?_) rfl rfl (Or.inl ⟨by rfl,?_⟩) ?_;rotate_left;(focus (intro w hSw;(try dsimp only at hSw);go_simp;(try with_reducible rfl)));(simp only [put_lit,List.set]))
    (refine tk (i:=7) (v:=?_) rfl rfl (Or.inl ⟨by rfl,?_⟩) ?_;rotate_left;(focus (intro w hSw;(try dsimp only at hSw);go_simp;(try with_reducible rfl)));(simp only [put_lit,List.set]))
    (refine wpAnyH_ready (rs:=[2]) (by kernel_rfl) (by simp) ?_;refine AllReadyH.cons rfl (fun K hK=>?_) AllReadyH.nil;go_simp)
    refine (polyneg_any ikN _ _ _ a _ (R1.out.p1.below ikN Bel.go) HA.out (by omega)).mono ?_
    rintro e w8 ⟨E1,n1,q1,rfl,h1,hb8⟩
    have N1:=Lib.hid h1
    have G1:Hid (Below w7.heap.size w7 w8):=Lib.hid (Below.trans Bel.go (hb8.mono (by simp<;>omega)))
    clear h1
    obtain ⟨hcx,hfx⟩:=bcellS hb8;refine hK.out _ _ ?_ (fun _=>?_);(focus (((try dsimp only);repeat' apply And.intro)<;>(rw [hcx _ (by go_simp)];go_simp)));clear hHeld hK K hcx hfx;rename_i hHeld;clear hb8
    (refine wpAnyH_ready (rs:=[5]) (by kernel_rfl) (by simp) ?_;refine AllReadyH.cons rfl (fun K hK=>?_) AllReadyH.nil;go_simp)
    refine (polyneg_any ikN _ _ _ ua _ ((R1.out.p2.below ikN G1.out).below ikN Bel.go) HU.out (by omega)).mono ?_
    rintro e w9 ⟨E2,n2,q2,rfl,h2,hb9⟩
    replace N1:=Lib.hid (N1.out.below ikN (show Below w8.heap.size w8 w9 from (Below.trans Bel.go (hb9.mono (by simp<;>omega)))))
    have N2:=Lib.hid h2
    have G2:Hid (Below w7.heap.size w7 w9):=Lib.hid (G1.out.trans ((show Below w8.heap.size w8 w9 from (Below.trans Bel.go (hb9.mono (by simp<;>omega)))).mono G1.out.size))
    clear h2
    obtain ⟨hcx,hfx⟩:=bcellS hb9;refine hK.out _ _ ?_ (fun _=>?_);(focus (((try dsimp only);repeat' apply And.intro)<;>(rw [hcx _ (by go_simp)];go_simp)));clear hHeld hK K hcx hfx;rename_i hHeld;clear hb9
    (refine wpAnyH_ready (rs:=[8]) (by kernel_rfl) (by simp) ?_;refine AllReadyH.cons rfl (fun K hK=>?_) AllReadyH.nil;go_simp)
    refine (polyneg_any ikN _ _ _ va _ ((R1.out.p3.below ikN G2.out).below ikN Bel.go) HV.out (by omega)).mono ?_
    rintro e w10 ⟨E3,n3,q3,rfl,h3,hb10⟩
    replace N1:=Lib.hid (N1.out.below ikN (show Below w9.heap.size w9 w10 from (Below.trans Bel.go (hb10.mono (by simp<;>omega)))))
    replace N2:=Lib.hid (N2.out.below ikN (show Below w9.heap.size w9 w10 from (Below.trans Bel.go (hb10.mono (by simp<;>omega)))))
    have N3:=Lib.hid h3
    have G3:Hid (Below w7.heap.size w7 w10):=Lib.hid (G2.out.trans ((show Below w9.heap.size w9 w10 from (Below.trans Bel.go (hb10.mono (by simp<;>omega)))).mono G2.out.size))
    clear h3
    obtain ⟨hcx,hfx⟩:=bcellS hb10;refine hK.out _ _ ?_ (fun _=>?_);(focus (((try dsimp only);repeat' apply And.intro)<;>(rw [hcx _ (by go_simp)];go_simp)));clear hHeld hK K hcx hfx;rename_i hHeld;clear hb10
    (refine tk (i:=9) (v:=?_) rfl rfl (Or.inl ⟨by rfl,?_⟩) ?_;rotate_left;(focus (intro w hSw;(try dsimp only at hSw);go_simp;(try with_reducible rfl)));(simp only [put_lit,List.set]))
    (refine tk (i:=10) (v:=?_) rfl rfl (Or.inl ⟨by rfl,?_⟩) ?_;rotate_left;(focus (intro w hSw;(try dsimp only at hSw);go_simp;(try with_reducible rfl)));(simp only [put_lit,List.set]))
    (refine tk (i:=11) (v:=?_) rfl rfl (Or.inl ⟨by rfl,?_⟩) ?_;rotate_left;(focus (intro w hSw;(try dsimp only at hSw);go_simp;(try with_reducible rfl)));(simp only [put_lit,List.set]))
    refine wpAnyH_done (by kernel_rfl) ?_ _
    go_wp2
    refine bodyPost_ret (v:=.tuple #[.slice E1 n1 q1,.slice E2 n2 q2,.slice E3 n3 q3]) (by simp [results,Try.results7,go_sem]) rfl ⟨a,ua,va,E1,n1,q1,E2,n2,q2,E3,n3,q3,by rw [← HFe.out,← HGe.out];exact HE.out,rfl,by rw [X1.out];exact N1.out,by rw [X1.out];exact N2.out,by rw [X1.out];exact N3.out,Hb.out.trans (G3.out.mono Hb.out.size)⟩
   ·have pa:plen a=0:=Classical.byContradiction fun h=>plead_ne h x1
    have X1:=Lib.hid (show ∀ p,xsg a p=[] from fun p=>by unfold xsg;rw [if_pos pa])
    clear pa x1
    go_wp2
    refine bodyPost_ret (v:=.tuple #[.slice none 0 0,.slice none 0 0,.slice none 0 0]) (by simp [results,Try.results7,go_sem]) rfl ⟨a,ua,va,none,0,0,none,0,0,none,0,0,by rw [← HFe.out,← HGe.out];exact HE.out,rfl,by rw [X1.out];exact PolyP.nil _ _ _ _,by rw [X1.out];exact PolyP.nil _ _ _ _,by rw [X1.out];exact PolyP.nil _ _ _ _,Hb.out⟩
   ·have pa:plen a≠0:=fun h=>by have:=plead_zero.2 h;omega
    have X1:=Lib.hid (show ∀ p,xsg a p=p from fun p=>by unfold xsg;rw [if_neg pa,if_neg (by omega)])
    clear pa x1
    go_wp2_with fail
    refine wp_region_held_drew (S:=fun w'=>w'.cell? ⟨g1,0,none⟩=some (.slice A1 l1 c1)∧w'.cell? ⟨g1,1,none⟩=some (.slice A2 l2 c2)∧w'.cell? ⟨g1,2,none⟩=some (.slice A3 l3 c3)) (by kernel_rfl) (by (try dsimp only);go_keep) (fun hHeld=>?_)
    (refine tk (i:=0) (v:=?_) rfl rfl (Or.inl ⟨by rfl,?_⟩) ?_;rotate_left;(focus (intro w hSw;(try dsimp only at hSw);go_simp;(try with_reducible rfl)));(simp only [put_lit,List.set]))
    (refine tk (i:=1) (v:=?_) rfl rfl (Or.inl ⟨by rfl,?_⟩) ?_;rotate_left;(focus (intro w hSw;(try dsimp only at hSw);go_simp;(try with_reducible rfl)));(simp only [put_lit,List.set]))
    (refine tk (i:=2) (v:=?_) rfl rfl (Or.inl ⟨by rfl,?_⟩) ?_;rotate_left;(focus (intro w hSw;(try dsimp only at hSw);go_simp;(try with_reducible rfl)));(simp only [put_lit,List.set]))
    (refine tk (i:=3) (v:=?_) rfl rfl (Or.inl ⟨by rfl,?_⟩) ?_;rotate_left;(focus (intro w hSw;(try dsimp only at hSw);go_simp;(try with_reducible rfl)));(simp only [put_lit,List.set]))
    (refine tk (i:=4) (v:=?_) rfl rfl (Or.inl ⟨by rfl,?_⟩) ?_;rotate_left;(focus (intro w hSw;(try dsimp only at hSw);go_simp;(try with_reducible rfl)));(simp only [put_lit,List.set]))
    (refine tk (i:=5) (v:=?_) rfl rfl (Or.inl ⟨by rfl,?_⟩) ?_;rotate_left;(focus (intro w hSw;(try dsimp only at hSw);go_simp;(try with_reducible rfl)));(simp only [put_lit,List.set]))
    (refine tk (i:=6) (v:=?_) rfl rfl (Or.inl ⟨by rfl,?_⟩) ?_;rotate_left;(focus (intro w hSw;(try dsimp only at hSw);go_simp;(try with_reducible rfl)));(simp only [put_lit,List.set]))
    (refine tk (i:=7) (v:=?_) rfl rfl (Or.inl ⟨by rfl,?_⟩) ?_;rotate_left;(focus (intro w hSw;(try dsimp only at hSw);go_simp;(try with_reducible rfl)));(simp only [put_lit,List.set]))
    (refine tk (i:=8) (v:=?_) rfl rfl (Or.inl ⟨by rfl,?_⟩) ?_;rotate_left;(focus (intro w hSw;(try dsimp only at hSw);go_simp;(try with_reducible rfl)));(simp only [put_lit,List.set]))
    refine wpAnyH_done (by kernel_rfl) ?_ _
    go_wp2
    refine bodyPost_ret (v:=.tuple #[.slice A1 l1 c1,.slice A2 l2 c2,.slice A3 l3 c3]) (by simp [results,Try.results7,go_sem]) rfl ⟨a,ua,va,A1,l1,c1,A2,l2,c2,A3,l3,c3,by rw [← HFe.out,← HGe.out];exact HE.out,rfl,by rw [X1.out];exact R1.out.p1.below ikN Bel.go,by rw [X1.out];exact R1.out.p2.below ikN Bel.go,by rw [X1.out];exact R1.out.p3.below ikN Bel.go,Hb.out.trans (Below.mono Bel.go Hb.out.size)⟩
  ·have hk1:(0:Int)<(gk:Int):=by omega
   have HB0:=Lib.hid (show plen b≠0 by omega)
   have HI:=Lib.hid (HX.out.inn OK.out HB0.out)
   clear hkb
   go_wp2_with fail
   refine wp_region_held_drew (S:=fun _=>True) (by kernel_rfl) trivial (fun hHeld=>?_)
   refine wpAnyH_ready (rs:=[0,1,2]) (by kernel_rfl) (by simp) ?_
   refine AllReadyH.cons rfl (fun K hK=>?_) (AllReadyH.cons rfl (fun K hK=>?_) (AllReadyH.cons rfl (fun K hK=>?_) AllReadyH.nil))
   ·(go_simp;refine hK.out _ _ trivial (fun _=>?_);clear hK K)
    refine wpAnyH_ready (rs:=[1,2]) (by kernel_rfl) (by simp) ?_
    refine AllReadyH.cons rfl (fun K hK=>?_) (AllReadyH.cons rfl (fun K hK=>?_) AllReadyH.nil)
    ·(go_simp;refine hK.out _ _ trivial (fun _=>?_);clear hK K)
     refine wpAnyH_ready (rs:=[2]) (by kernel_rfl) (by simp) ?_
     refine AllReadyH.cons rfl (fun K hK=>?_) AllReadyH.nil
     (go_simp;refine hK.out _ _ trivial (fun _=>?_);clear hK K)
     refine wpAnyH_ready (rs:=[3]) (by kernel_rfl) (by simp) ?_
     refine AllReadyH.cons rfl (fun K hK=>?_) AllReadyH.nil
     (go_simp;refine (following_any HI.out HB0.out A1 l1 c1 A2 l2 c2 A3 l3 c3 B1 gk d1 B2 m2 d2 B3 m3 d3 _ (R1.out.p1.below ikN Bel.go) (R1.out.p2.below ikN Bel.go) (R1.out.p3.below ikN Bel.go) (R2.out.p1.below ikN Bel.go) (R2.out.p2.below ikN Bel.go) (R2.out.p3.below ikN Bel.go) HL.out).mono ?_;rintro e w5 ⟨E1,n1,q1,E2,n2,q2,E3,n3,q3,rfl,h1,h2,h3,hb5⟩;refine hK.out _ _ trivial (fun _=>?_);clear hK K;have hbw:Below wr.heap.size wr w5:=(Below.trans Bel.go (hb5.mono (by simp<;>omega))))
     (have r1:=R1.out.move hbw;have r2:=R2.out.move hbw;have u1:=r1.e0;have u2:=r1.e1;have u3:=r1.e2;have v1:=r2.e0;have v2:=r2.e1;have v3:=r2.e2;have x1:=r1.k.frozen 0;have x2:=r1.k.frozen 1;have x3:=r1.k.frozen 2;have y1:=r2.k.frozen 0;have y2:=r2.k.frozen 1;have y3:=r2.k.frozen 2;have H1:=Lib.hid h1;have H2:=Lib.hid h2;have H3:=Lib.hid h3;have HB:=Lib.hid hbw;clear r1 r2 h1 h2 h3 hb5 hbw a1 a2 a3 b1 b2 b3;refine wpAnyH_ready (rs:=[4]) (by kernel_rfl) (by simp) ?_;refine AllReadyH.cons rfl (fun K hK=>?_) AllReadyH.nil;(go_simp;refine hK.out _ _ trivial (fun _=>?_);clear hK K);refine wpAnyH_ready (rs:=[5]) (by kernel_rfl) (by simp) ?_;refine AllReadyH.cons rfl (fun K hK=>?_) AllReadyH.nil;(go_simp;refine hK.out _ _ trivial (fun _=>?_);clear hK K);refine wpAnyH_done (by kernel_rfl) ?_ _;go_wp2;go_roundg n1)
     case measure=>(have hst:=HX.out.step OK.out HB0.out;have t1:=len_trim (hst.1.trim OK.out).2;have t2:=H1.out.length;have t3:=hst.2;have t4:=Hkb.out;omega)
     case rel=>(have r1:=R1.out.move HB.out;have r2:=R2.out.move HB.out;have s1:=r1.put r2.p1 r2.p2 r2.p3;have s2:=r2.far r1 (by omega) B1 B2 B3 gk d1 m2 d2 m3 d3;exact ⟨⟨b,ub,vb,_,_,_,B1,gk,d1,B2,m2,d2,B3,m3,d3,E1,q1,E2,n2,q2,E3,n3,q3,(HX.out.step OK.out HB0.out).1,s1.far s2 (by omega) E1 E2 E3 n1 q1 n2 q2 n3 q3,s2.put (poly_put3 H1.out r1.k _ _ _ _ _ _ _ _ _) (poly_put3 H2.out r1.k _ _ _ _ _ _ _ _ _) (poly_put3 H3.out r1.k _ _ _ _ _ _ _ _ _)⟩,below_put3 (below_put3 (Hb.out.trans (HB.out.mono Hb.out.size)) hgw _ _ _) (by omega) _ _ _⟩)
    ·(go_simp;refine hK.out _ _ trivial (fun _=>?_);clear hK K)
     refine wpAnyH_ready (rs:=[1]) (by kernel_rfl) (by simp) ?_
     refine AllReadyH.cons rfl (fun K hK=>?_) AllReadyH.nil
     (go_simp;refine hK.out _ _ trivial (fun _=>?_);clear hK K)
     refine wpAnyH_ready (rs:=[3]) (by kernel_rfl) (by simp) ?_
     refine AllReadyH.cons rfl (fun K hK=>?_) AllReadyH.nil
     (go_simp;refine (following_any HI.out HB0.out A1 l1 c1 A2 l2 c2 A3 l3 c3 B1 gk d1 B2 m2 d2 B3 m3 d3 _ (R1.out.p1.below ikN Bel.go) (R1.out.p2.below ikN Bel.go) (R1.out.p3.below ikN Bel.go) (R2.out.p1.below ikN Bel.go) (R2.out.p2.below ikN Bel.go) (R2.out.p3.below ikN Bel.go) HL.out).mono ?_;rintro e w5 ⟨E1,n1,q1,E2,n2,q2,E3,n3,q3,rfl,h1,h2,h3,hb5⟩;refine hK.out _ _ trivial (fun _=>?_);clear hK K;have hbw:Below wr.heap.size wr w5:=(Below.trans Bel.go (hb5.mono (by simp<;>omega))))
     (have r1:=R1.out.move hbw;have r2:=R2.out.move hbw;have u1:=r1.e0;have u2:=r1.e1;have u3:=r1.e2;have v1:=r2.e0;have v2:=r2.e1;have v3:=r2.e2;have x1:=r1.k.frozen 0;have x2:=r1.k.frozen 1;have x3:=r1.k.frozen 2;have y1:=r2.k.frozen 0;have y2:=r2.k.frozen 1;have y3:=r2.k.frozen 2;have H1:=Lib.hid h1;have H2:=Lib.hid h2;have H3:=Lib.hid h3;have HB:=Lib.hid hbw;clear r1 r2 h1 h2 h3 hb5 hbw a1 a2 a3 b1 b2 b3;refine wpAnyH_ready (rs:=[4]) (by kernel_rfl) (by simp) ?_;refine AllReadyH.cons rfl (fun K hK=>?_) AllReadyH.nil;(go_simp;refine hK.out _ _ trivial (fun _=>?_);clear hK K);refine wpAnyH_ready (rs:=[5]) (by kernel_rfl) (by simp) ?_;refine AllReadyH.cons rfl (fun K hK=>?_) AllReadyH.nil;(go_simp;refine hK.out _ _ trivial (fun _=>?_);clear hK K);refine wpAnyH_done (by kernel_rfl) ?_ _;go_wp2;go_roundg n1)
     case measure=>(have hst:=HX.out.step OK.out HB0.out;have t1:=len_trim (hst.1.trim OK.out).2;have t2:=H1.out.length;have t3:=hst.2;have t4:=Hkb.out;omega)
     case rel=>(have r1:=R1.out.move HB.out;have r2:=R2.out.move HB.out;have s1:=r1.put r2.p1 r2.p2 r2.p3;have s2:=r2.far r1 (by omega) B1 B2 B3 gk d1 m2 d2 m3 d3;exact ⟨⟨b,ub,vb,_,_,_,B1,gk,d1,B2,m2,d2,B3,m3,d3,E1,q1,E2,n2,q2,E3,n3,q3,(HX.out.step OK.out HB0.out).1,s1.far s2 (by omega) E1 E2 E3 n1 q1 n2 q2 n3 q3,s2.put (poly_put3 H1.out r1.k _ _ _ _ _ _ _ _ _) (poly_put3 H2.out r1.k _ _ _ _ _ _ _ _ _) (poly_put3 H3.out r1.k _ _ _ _ _ _ _ _ _)⟩,below_put3 (below_put3 (Hb.out.trans (HB.out.mono Hb.out.size)) hgw _ _ _) (by omega) _ _ _⟩)
   ·(go_simp;refine hK.out _ _ trivial (fun _=>?_);clear hK K)
    refine wpAnyH_ready (rs:=[0,2]) (by kernel_rfl) (by simp) ?_
    refine AllReadyH.cons rfl (fun K hK=>?_) (AllReadyH.cons rfl (fun K hK=>?_) AllReadyH.nil)
    ·(go_simp;refine hK.out _ _ trivial (fun _=>?_);clear hK K)
     refine wpAnyH_ready (rs:=[2]) (by kernel_rfl) (by simp) ?_
     refine AllReadyH.cons rfl (fun K hK=>?_) AllReadyH.nil
     (go_simp;refine hK.out _ _ trivial (fun _=>?_);clear hK K)
     refine wpAnyH_ready (rs:=[3]) (by kernel_rfl) (by simp) ?_
     refine AllReadyH.cons rfl (fun K hK=>?_) AllReadyH.nil
     (go_simp;refine (following_any HI.out HB0.out A1 l1 c1 A2 l2 c2 A3 l3 c3 B1 gk d1 B2 m2 d2 B3 m3 d3 _ (R1.out.p1.below ikN Bel.go) (R1.out.p2.below ikN Bel.go) (R1.out.p3.below ikN Bel.go) (R2.out.p1.below ikN Bel.go) (R2.out.p2.below ikN Bel.go) (R2.out.p3.below ikN Bel.go) HL.out).mono ?_;rintro e w5 ⟨E1,n1,q1,E2,n2,q2,E3,n3,q3,rfl,h1,h2,h3,hb5⟩;refine hK.out _ _ trivial (fun _=>?_);clear hK K;have hbw:Below wr.heap.size wr w5:=(Below.trans Bel.go (hb5.mono (by simp<;>omega))))
     (have r1:=R1.out.move hbw;have r2:=R2.out.move hbw;have u1:=r1.e0;have u2:=r1.e1;have u3:=r1.e2;have v1:=r2.e0;have v2:=r2.e1;have v3:=r2.e2;have x1:=r1.k.frozen 0;have x2:=r1.k.frozen 1;have x3:=r1.k.frozen 2;have y1:=r2.k.frozen 0;have y2:=r2.k.frozen 1;have y3:=r2.k.frozen 2;have H1:=Lib.hid h1;have H2:=Lib.hid h2;have H3:=Lib.hid h3;have HB:=Lib.hid hbw;clear r1 r2 h1 h2 h3 hb5 hbw a1 a2 a3 b1 b2 b3;refine wpAnyH_ready (rs:=[4]) (by kernel_rfl) (by simp) ?_;refine AllReadyH.cons rfl (fun K hK=>?_) AllReadyH.nil;(go_simp;refine hK.out _ _ trivial (fun _=>?_);clear hK K);refine wpAnyH_ready (rs:=[5]) (by kernel_rfl) (by simp) ?_;refine AllReadyH.cons rfl (fun K hK=>?_) AllReadyH.nil;(go_simp;refine hK.out _ _ trivial (fun _=>?_);clear hK K);refine wpAnyH_done (by kernel_rfl) ?_ _;go_wp2;go_roundg n1)
     case measure=>(have hst:=HX.out.step OK.out HB0.out;have t1:=len_trim (hst.1.trim OK.out).2;have t2:=H1.out.length;have t3:=hst.2;have t4:=Hkb.out;omega)
     case rel=>(have r1:=R1.out.move HB.out;have r2:=R2.out.move HB.out;have s1:=r1.put r2.p1 r2.p2 r2.p3;have s2:=r2.far r1 (by omega) B1 B2 B3 gk d1 m2 d2 m3 d3;exact ⟨⟨b,ub,vb,_,_,_,B1,gk,d1,B2,m2,d2,B3,m3,d3,E1,q1,E2,n2,q2,E3,n3,q3,(HX.out.step OK.out HB0.out).1,s1.far s2 (by omega) E1 E2 E3 n1 q1 n2 q2 n3 q3,s2.put (poly_put3 H1.out r1.k _ _ _ _ _ _ _ _ _) (poly_put3 H2.out r1.k _ _ _ _ _ _ _ _ _) (poly_put3 H3.out r1.k _ _ _ _ _ _ _ _ _)⟩,below_put3 (below_put3 (Hb.out.trans (HB.out.mono Hb.out.size)) hgw _ _ _) (by omega) _ _ _⟩)
    ·(go_simp;refine hK.out _ _ trivial (fun _=>?_);clear hK K)
     refine wpAnyH_ready (rs:=[0,3]) (by kernel_rfl) (by simp) ?_
     refine AllReadyH.cons rfl (fun K hK=>?_) (AllReadyH.cons rfl (fun K hK=>?_) AllReadyH.nil)
     ·(go_simp;refine hK.out _ _ trivial (fun _=>?_);clear hK K)
      refine wpAnyH_ready (rs:=[3]) (by kernel_rfl) (by simp) ?_
      refine AllReadyH.cons rfl (fun K hK=>?_) AllReadyH.nil
      (go_simp;refine (following_any HI.out HB0.out A1 l1 c1 A2 l2 c2 A3 l3 c3 B1 gk d1 B2 m2 d2 B3 m3 d3 _ (R1.out.p1.below ikN Bel.go) (R1.out.p2.below ikN Bel.go) (R1.out.p3.below ikN Bel.go) (R2.out.p1.below ikN Bel.go) (R2.out.p2.below ikN Bel.go) (R2.out.p3.below ikN Bel.go) HL.out).mono ?_;rintro e w5 ⟨E1,n1,q1,E2,n2,q2,E3,n3,q3,rfl,h1,h2,h3,hb5⟩;refine hK.out _ _ trivial (fun _=>?_);clear hK K;have hbw:Below wr.heap.size wr w5:=(Below.trans Bel.go (hb5.mono (by simp<;>omega))))
      (have r1:=R1.out.move hbw;have r2:=R2.out.move hbw;have u1:=r1.e0;have u2:=r1.e1;have u3:=r1.e2;have v1:=r2.e0;have v2:=r2.e1;have v3:=r2.e2;have x1:=r1.k.frozen 0;have x2:=r1.k.frozen 1;have x3:=r1.k.frozen 2;have y1:=r2.k.frozen 0;have y2:=r2.k.frozen 1;have y3:=r2.k.frozen 2;have H1:=Lib.hid h1;have H2:=Lib.hid h2;have H3:=Lib.hid h3;have HB:=Lib.hid hbw;clear r1 r2 h1 h2 h3 hb5 hbw a1 a2 a3 b1 b2 b3;refine wpAnyH_ready (rs:=[4]) (by kernel_rfl) (by simp) ?_;refine AllReadyH.cons rfl (fun K hK=>?_) AllReadyH.nil;(go_simp;refine hK.out _ _ trivial (fun _=>?_);clear hK K);refine wpAnyH_ready (rs:=[5]) (by kernel_rfl) (by simp) ?_;refine AllReadyH.cons rfl (fun K hK=>?_) AllReadyH.nil;(go_simp;refine hK.out _ _ trivial (fun _=>?_);clear hK K);refine wpAnyH_done (by kernel_rfl) ?_ _;go_wp2;go_roundg n1)
      case measure=>(have hst:=HX.out.step OK.out HB0.out;have t1:=len_trim (hst.1.trim OK.out).2;have t2:=H1.out.length;have t3:=hst.2;have t4:=Hkb.out;omega)
      case rel=>(have r1:=R1.out.move HB.out;have r2:=R2.out.move HB.out;have s1:=r1.put r2.p1 r2.p2 r2.p3;have s2:=r2.far r1 (by omega) B1 B2 B3 gk d1 m2 d2 m3 d3;exact ⟨⟨b,ub,vb,_,_,_,B1,gk,d1,B2,m2,d2,B3,m3,d3,E1,q1,E2,n2,q2,E3,n3,q3,(HX.out.step OK.out HB0.out).1,s1.far s2 (by omega) E1 E2 E3 n1 q1 n2 q2 n3 q3,s2.put (poly_put3 H1.out r1.k _ _ _ _ _ _ _ _ _) (poly_put3 H2.out r1.k _ _ _ _ _ _ _ _ _) (poly_put3 H3.out r1.k _ _ _ _ _ _ _ _ _)⟩,below_put3 (below_put3 (Hb.out.trans (HB.out.mono Hb.out.size)) hgw _ _ _) (by omega) _ _ _⟩)
     ·(go_simp;refine (following_any HI.out HB0.out A1 l1 c1 A2 l2 c2 A3 l3 c3 B1 gk d1 B2 m2 d2 B3 m3 d3 _ (R1.out.p1.below ikN Bel.go) (R1.out.p2.below ikN Bel.go) (R1.out.p3.below ikN Bel.go) (R2.out.p1.below ikN Bel.go) (R2.out.p2.below ikN Bel.go) (R2.out.p3.below ikN Bel.go) HL.out).mono ?_;rintro e w5 ⟨E1,n1,q1,E2,n2,q2,E3,n3,q3,rfl,h1,h2,h3,hb5⟩;refine hK.out _ _ trivial (fun _=>?_);clear hK K;have hbw:Below wr.heap.size wr w5:=(Below.trans Bel.go (hb5.mono (by simp<;>omega))))
      refine wpAnyH_ready (rs:=[0]) (by kernel_rfl) (by simp) ?_
      refine AllReadyH.cons rfl (fun K hK=>?_) AllReadyH.nil
      have a1:=(R1.out.move hbw).e0
      have a2:=(R1.out.move hbw).e1
      have a3:=(R1.out.move hbw).e2
      have b1:=(R2.out.move hbw).e0
      have b2:=(R2.out.move hbw).e1
      have b3:=(R2.out.move hbw).e2
      (go_simp;refine hK.out _ _ trivial (fun _=>?_);clear hK K)
      (have r1:=R1.out.move hbw;have r2:=R2.out.move hbw;have u1:=r1.e0;have u2:=r1.e1;have u3:=r1.e2;have v1:=r2.e0;have v2:=r2.e1;have v3:=r2.e2;have x1:=r1.k.frozen 0;have x2:=r1.k.frozen 1;have x3:=r1.k.frozen 2;have y1:=r2.k.frozen 0;have y2:=r2.k.frozen 1;have y3:=r2.k.frozen 2;have H1:=Lib.hid h1;have H2:=Lib.hid h2;have H3:=Lib.hid h3;have HB:=Lib.hid hbw;clear r1 r2 h1 h2 h3 hb5 hbw a1 a2 a3 b1 b2 b3;refine wpAnyH_ready (rs:=[4]) (by kernel_rfl) (by simp) ?_;refine AllReadyH.cons rfl (fun K hK=>?_) AllReadyH.nil;(go_simp;refine hK.out _ _ trivial (fun _=>?_);clear hK K);refine wpAnyH_ready (rs:=[5]) (by kernel_rfl) (by simp) ?_;refine AllReadyH.cons rfl (fun K hK=>?_) AllReadyH.nil;(go_simp;refine hK.out _ _ trivial (fun _=>?_);clear hK K);refine wpAnyH_done (by kernel_rfl) ?_ _;go_wp2;go_roundg n1)
      case measure=>(have hst:=HX.out.step OK.out HB0.out;have t1:=len_trim (hst.1.trim OK.out).2;have t2:=H1.out.length;have t3:=hst.2;have t4:=Hkb.out;omega)
      case rel=>(have r1:=R1.out.move HB.out;have r2:=R2.out.move HB.out;have s1:=r1.put r2.p1 r2.p2 r2.p3;have s2:=r2.far r1 (by omega) B1 B2 B3 gk d1 m2 d2 m3 d3;exact ⟨⟨b,ub,vb,_,_,_,B1,gk,d1,B2,m2,d2,B3,m3,d3,E1,q1,E2,n2,q2,E3,n3,q3,(HX.out.step OK.out HB0.out).1,s1.far s2 (by omega) E1 E2 E3 n1 q1 n2 q2 n3 q3,s2.put (poly_put3 H1.out r1.k _ _ _ _ _ _ _ _ _) (poly_put3 H2.out r1.k _ _ _ _ _ _ _ _ _) (poly_put3 H3.out r1.k _ _ _ _ _ _ _ _ _)⟩,below_put3 (below_put3 (Hb.out.trans (HB.out.mono Hb.out.size)) hgw _ _ _) (by omega) _ _ _⟩)
   ·(go_simp;refine hK.out _ _ trivial (fun _=>?_);clear hK K)
    refine wpAnyH_ready (rs:=[0,1]) (by kernel_rfl) (by simp) ?_
    refine AllReadyH.cons rfl (fun K hK=>?_) (AllReadyH.cons rfl (fun K hK=>?_) AllReadyH.nil)
    ·(go_simp;refine hK.out _ _ trivial (fun _=>?_);clear hK K)
     refine wpAnyH_ready (rs:=[1]) (by kernel_rfl) (by simp) ?_
     refine AllReadyH.cons rfl (fun K hK=>?_) AllReadyH.nil
     (go_simp;refine hK.out _ _ trivial (fun _=>?_);clear hK K)
     refine wpAnyH_ready (rs:=[3]) (by kernel_rfl) (by simp) ?_
     refine AllReadyH.cons rfl (fun K hK=>?_) AllReadyH.nil
     (go_simp;refine (following_any HI.out HB0.out A1 l1 c1 A2 l2 c2 A3 l3 c3 B1 gk d1 B2 m2 d2 B3 m3 d3 _ (R1.out.p1.below ikN Bel.go) (R1.out.p2.below ikN Bel.go) (R1.out.p3.below ikN Bel.go) (R2.out.p1.below ikN Bel.go) (R2.out.p2.below ikN Bel.go) (R2.out.p3.below ikN Bel.go) HL.out).mono ?_;rintro e w5 ⟨E1,n1,q1,E2,n2,q2,E3,n3,q3,rfl,h1,h2,h3,hb5⟩;refine hK.out _ _ trivial (fun _=>?_);clear hK K;have hbw:Below wr.heap.size wr w5:=(Below.trans Bel.go (hb5.mono (by simp<;>omega))))
     (have r1:=R1.out.move hbw;have r2:=R2.out.move hbw;have u1:=r1.e0;have u2:=r1.e1;have u3:=r1.e2;have v1:=r2.e0;have v2:=r2.e1;have v3:=r2.e2;have x1:=r1.k.frozen 0;have x2:=r1.k.frozen 1;have x3:=r1.k.frozen 2;have y1:=r2.k.frozen 0;have y2:=r2.k.frozen 1;have y3:=r2.k.frozen 2;have H1:=Lib.hid h1;have H2:=Lib.hid h2;have H3:=Lib.hid h3;have HB:=Lib.hid hbw;clear r1 r2 h1 h2 h3 hb5 hbw a1 a2 a3 b1 b2 b3;refine wpAnyH_ready (rs:=[4]) (by kernel_rfl) (by simp) ?_;refine AllReadyH.cons rfl (fun K hK=>?_) AllReadyH.nil;(go_simp;refine hK.out _ _ trivial (fun _=>?_);clear hK K);refine wpAnyH_ready (rs:=[5]) (by kernel_rfl) (by simp) ?_;refine AllReadyH.cons rfl (fun K hK=>?_) AllReadyH.nil;(go_simp;refine hK.out _ _ trivial (fun _=>?_);clear hK K);refine wpAnyH_done (by kernel_rfl) ?_ _;go_wp2;go_roundg n1)
     case measure=>(have hst:=HX.out.step OK.out HB0.out;have t1:=len_trim (hst.1.trim OK.out).2;have t2:=H1.out.length;have t3:=hst.2;have t4:=Hkb.out;omega)
     case rel=>(have r1:=R1.out.move HB.out;have r2:=R2.out.move HB.out;have s1:=r1.put r2.p1 r2.p2 r2.p3;have s2:=r2.far r1 (by omega) B1 B2 B3 gk d1 m2 d2 m3 d3;exact ⟨⟨b,ub,vb,_,_,_,B1,gk,d1,B2,m2,d2,B3,m3,d3,E1,q1,E2,n2,q2,E3,n3,q3,(HX.out.step OK.out HB0.out).1,s1.far s2 (by omega) E1 E2 E3 n1 q1 n2 q2 n3 q3,s2.put (poly_put3 H1.out r1.k _ _ _ _ _ _ _ _ _) (poly_put3 H2.out r1.k _ _ _ _ _ _ _ _ _) (poly_put3 H3.out r1.k _ _ _ _ _ _ _ _ _)⟩,below_put3 (below_put3 (Hb.out.trans (HB.out.mono Hb.out.size)) hgw _ _ _) (by omega) _ _ _⟩)
    ·(go_simp;refine hK.out _ _ trivial (fun _=>?_);clear hK K)
     refine wpAnyH_ready (rs:=[0,3]) (by kernel_rfl) (by simp) ?_
     refine AllReadyH.cons rfl (fun K hK=>?_) (AllReadyH.cons rfl (fun K hK=>?_) AllReadyH.nil)
     ·(go_simp;refine hK.out _ _ trivial (fun _=>?_);clear hK K)
      refine wpAnyH_ready (rs:=[3]) (by kernel_rfl) (by simp) ?_
      refine AllReadyH.cons rfl (fun K hK=>?_) AllReadyH.nil
      (go_simp;refine (following_any HI.out HB0.out A1 l1 c1 A2 l2 c2 A3 l3 c3 B1 gk d1 B2 m2 d2 B3 m3 d3 _ (R1.out.p1.below ikN Bel.go) (R1.out.p2.below ikN Bel.go) (R1.out.p3.below ikN Bel.go) (R2.out.p1.below ikN Bel.go) (R2.out.p2.below ikN Bel.go) (R2.out.p3.below ikN Bel.go) HL.out).mono ?_;rintro e w5 ⟨E1,n1,q1,E2,n2,q2,E3,n3,q3,rfl,h1,h2,h3,hb5⟩;refine hK.out _ _ trivial (fun _=>?_);clear hK K;have hbw:Below wr.heap.size wr w5:=(Below.trans Bel.go (hb5.mono (by simp<;>omega))))
      (have r1:=R1.out.move hbw;have r2:=R2.out.move hbw;have u1:=r1.e0;have u2:=r1.e1;have u3:=r1.e2;have v1:=r2.e0;have v2:=r2.e1;have v3:=r2.e2;have x1:=r1.k.frozen 0;have x2:=r1.k.frozen 1;have x3:=r1.k.frozen 2;have y1:=r2.k.frozen 0;have y2:=r2.k.frozen 1;have y3:=r2.k.frozen 2;have H1:=Lib.hid h1;have H2:=Lib.hid h2;have H3:=Lib.hid h3;have HB:=Lib.hid hbw;clear r1 r2 h1 h2 h3 hb5 hbw a1 a2 a3 b1 b2 b3;refine wpAnyH_ready (rs:=[4]) (by kernel_rfl) (by simp) ?_;refine AllReadyH.cons rfl (fun K hK=>?_) AllReadyH.nil;(go_simp;refine hK.out _ _ trivial (fun _=>?_);clear hK K);refine wpAnyH_ready (rs:=[5]) (by kernel_rfl) (by simp) ?_;refine AllReadyH.cons rfl (fun K hK=>?_) AllReadyH.nil;(go_simp;refine hK.out _ _ trivial (fun _=>?_);clear hK K);refine wpAnyH_done (by kernel_rfl) ?_ _;go_wp2;go_roundg n1)
      case measure=>(have hst:=HX.out.step OK.out HB0.out;have t1:=len_trim (hst.1.trim OK.out).2;have t2:=H1.out.length;have t3:=hst.2;have t4:=Hkb.out;omega)
      case rel=>(have r1:=R1.out.move HB.out;have r2:=R2.out.move HB.out;have s1:=r1.put r2.p1 r2.p2 r2.p3;have s2:=r2.far r1 (by omega) B1 B2 B3 gk d1 m2 d2 m3 d3;exact ⟨⟨b,ub,vb,_,_,_,B1,gk,d1,B2,m2,d2,B3,m3,d3,E1,q1,E2,n2,q2,E3,n3,q3,(HX.out.step OK.out HB0.out).1,s1.far s2 (by omega) E1 E2 E3 n1 q1 n2 q2 n3 q3,s2.put (poly_put3 H1.out r1.k _ _ _ _ _ _ _ _ _) (poly_put3 H2.out r1.k _ _ _ _ _ _ _ _ _) (poly_put3 H3.out r1.k _ _ _ _ _ _ _ _ _)⟩,below_put3 (below_put3 (Hb.out.trans (HB.out.mono Hb.out.size)) hgw _ _ _) (by omega) _ _ _⟩)
     ·(go_simp;refine (following_any HI.out HB0.out A1 l1 c1 A2 l2 c2 A3 l3 c3 B1 gk d1 B2 m2 d2 B3 m3 d3 _ (R1.out.p1.below ikN Bel.go) (R1.out.p2.below ikN Bel.go) (R1.out.p3.below ikN Bel.go) (R2.out.p1.below ikN Bel.go) (R2.out.p2.below ikN Bel.go) (R2.out.p3.below ikN Bel.go) HL.out).mono ?_;rintro e w5 ⟨E1,n1,q1,E2,n2,q2,E3,n3,q3,rfl,h1,h2,h3,hb5⟩;refine hK.out _ _ trivial (fun _=>?_);clear hK K;have hbw:Below wr.heap.size wr w5:=(Below.trans Bel.go (hb5.mono (by simp<;>omega))))
      refine wpAnyH_ready (rs:=[0]) (by kernel_rfl) (by simp) ?_
      refine AllReadyH.cons rfl (fun K hK=>?_) AllReadyH.nil
      have a1:=(R1.out.move hbw).e0
      have a2:=(R1.out.move hbw).e1
      have a3:=(R1.out.move hbw).e2
      have b1:=(R2.out.move hbw).e0
      have b2:=(R2.out.move hbw).e1
      have b3:=(R2.out.move hbw).e2
      (go_simp;refine hK.out _ _ trivial (fun _=>?_);clear hK K)
      (have r1:=R1.out.move hbw;have r2:=R2.out.move hbw;have u1:=r1.e0;have u2:=r1.e1;have u3:=r1.e2;have v1:=r2.e0;have v2:=r2.e1;have v3:=r2.e2;have x1:=r1.k.frozen 0;have x2:=r1.k.frozen 1;have x3:=r1.k.frozen 2;have y1:=r2.k.frozen 0;have y2:=r2.k.frozen 1;have y3:=r2.k.frozen 2;have H1:=Lib.hid h1;have H2:=Lib.hid h2;have H3:=Lib.hid h3;have HB:=Lib.hid hbw;clear r1 r2 h1 h2 h3 hb5 hbw a1 a2 a3 b1 b2 b3;refine wpAnyH_ready (rs:=[4]) (by kernel_rfl) (by simp) ?_;refine AllReadyH.cons rfl (fun K hK=>?_) AllReadyH.nil;(go_simp;refine hK.out _ _ trivial (fun _=>?_);clear hK K);refine wpAnyH_ready (rs:=[5]) (by kernel_rfl) (by simp) ?_;refine AllReadyH.cons rfl (fun K hK=>?_) AllReadyH.nil;(go_simp;refine hK.out _ _ trivial (fun _=>?_);clear hK K);refine wpAnyH_done (by kernel_rfl) ?_ _;go_wp2;go_roundg n1)
      case measure=>(have hst:=HX.out.step OK.out HB0.out;have t1:=len_trim (hst.1.trim OK.out).2;have t2:=H1.out.length;have t3:=hst.2;have t4:=Hkb.out;omega)
      case rel=>(have r1:=R1.out.move HB.out;have r2:=R2.out.move HB.out;have s1:=r1.put r2.p1 r2.p2 r2.p3;have s2:=r2.far r1 (by omega) B1 B2 B3 gk d1 m2 d2 m3 d3;exact ⟨⟨b,ub,vb,_,_,_,B1,gk,d1,B2,m2,d2,B3,m3,d3,E1,q1,E2,n2,q2,E3,n3,q3,(HX.out.step OK.out HB0.out).1,s1.far s2 (by omega) E1 E2 E3 n1 q1 n2 q2 n3 q3,s2.put (poly_put3 H1.out r1.k _ _ _ _ _ _ _ _ _) (poly_put3 H2.out r1.k _ _ _ _ _ _ _ _ _) (poly_put3 H3.out r1.k _ _ _ _ _ _ _ _ _)⟩,below_put3 (below_put3 (Hb.out.trans (HB.out.mono Hb.out.size)) hgw _ _ _) (by omega) _ _ _⟩)
end Go.Proofs.Ytjmglmgokfcgoaa
