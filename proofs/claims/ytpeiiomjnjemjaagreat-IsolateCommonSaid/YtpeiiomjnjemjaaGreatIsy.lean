/- The walk of isolate.Roots. -/
import Derived.Test.YtpeiiomjnjemjaaGreatRbH
import Derived.Test.YtpeiiomjnjemjaaGreatQuo
import Derived.Test.YtpeiiomjnjemjaaGreatIsx
import Derived.Test.YtpeiiomjnjemjaaGreatLes
namespace Go.Proofs.YtpeiiomjnjemjaaGreat
open Go.RowKit
set_option maxHeartbeats 4000000 in
theorem floor_all (na:Bool) (A:Option Addr) (la ca:Nat) (a:Int) (nb:Bool) (B:Option Addr) (lb cb:Nat) (b:Int) (w:World) (ha:IntAt w na A la ca a) (hb:IntAt w nb B lb cb b) (hsa:SmI a) (hsb:SmI b) (hb0:b≠0) (hs1:Sm (a.natAbs+1)) (hs2:Sm (a.natAbs+b.natAbs)) :
  Calls Tryz.prog 52 #[.agg #[.bool na,.slice A la ca],.agg #[.bool nb,.slice B lb cb]] w fun e w'=>∃ n1 A1 l1 c1 n2 A2 l2 c2,e=.returned (.tuple #[.agg #[.bool n1,.slice A1 l1 c1],.agg #[.bool n2,.slice A2 l2 c2],.int .i64 0])/\IntN w' n1 A1 l1 c1 (flq a b)/\IntN w' n2 A2 l2 c2 (flr a b)/\Below w.heap.size w w':=by
 have hbx:Below w.heap.size w ((((w.alloc (ibox na A la ca)).alloc (ibox nb B lb cb)).alloc (ibox false none 0 0)).alloc (ibox false none 0 0)):=below_four w _ _ _ _ (Nat.le_refl _)
 have hA0:=ha.below hbx
 have hB0:=hb.below hbx
 have Hbx:=Lh hbx
 clear ha hb hbx
 go_enter Tryz.func52,Tryz.ntmps52
 go_wp2_with fail
 refine (quo_all _ _ _ _ _ _ _ _ _ _ _ hA0 hB0 hsa hsb hb0).mono ?_
 rintro e w1 ⟨n1,A1,l1,c1,n2,A2,l2,c2,rfl,h1,h2,hb1⟩
 obtain ⟨hc,hf⟩:=bcell hb1
 have hsz:=hb1.size
 simp only[World.size_alloc] at hsz
 have d10:w1.cell? ⟨w.heap.size+1,0,none⟩=some (.bool nb):=by rw[hc _ _ (by simp)];go_simp
 have d11:w1.cell? ⟨w.heap.size+1,1,none⟩=some (.slice B lb cb):=by rw[hc _ _ (by simp)];go_simp
 have d20:w1.cell? ⟨w.heap.size+1+1,0,none⟩=some (.bool false):=by rw[hc _ _ (by simp)];go_simp
 have f20:w1.frozen? ⟨w.heap.size+1+1,0,none⟩=false:=by rw[hf _ _ (by simp)];go_simp
 have d21:w1.cell? ⟨w.heap.size+1+1,1,none⟩=some (.slice none 0 0):=by rw[hc _ _ (by simp)];go_simp
 have f21:w1.frozen? ⟨w.heap.size+1+1,1,none⟩=false:=by rw[hf _ _ (by simp)];go_simp
 have d30:w1.cell? ⟨w.heap.size+1+1+1,0,none⟩=some (.bool false):=by rw[hc _ _ (by simp)];go_simp
 have f30:w1.frozen? ⟨w.heap.size+1+1+1,0,none⟩=false:=by rw[hf _ _ (by simp)];go_simp
 have d31:w1.cell? ⟨w.heap.size+1+1+1,1,none⟩=some (.slice none 0 0):=by rw[hc _ _ (by simp)];go_simp
 have f31:w1.frozen? ⟨w.heap.size+1+1+1,1,none⟩=false:=by rw[hf _ _ (by simp)];go_simp
 have h1':=h1.rets (g:=w.heap.size+1+1) (g':=w.heap.size+1+1+1) (by omega) (.bool n1) (.slice A1 l1 c1) (.bool n2) (.slice A2 l2 c2) d20 d21 d30 d31
 have h2':=h2.rets (g:=w.heap.size+1+1) (g':=w.heap.size+1+1+1) (by omega) (.bool n1) (.slice A1 l1 c1) (.bool n2) (.slice A2 l2 c2) d20 d21 d30 d31
 have hB1:=(((((hB0.below hb1).store (.bool n1) d20 (noDigit_bool _)).store (.slice A1 l1 c1) (p:=⟨w.heap.size+1+1,1,none⟩) (v:=.slice none 0 0) (by go_simp) (noDigit_slice _ _ _))).store (.bool n2) (p:=⟨w.heap.size+1+1+1,0,none⟩) (v:=.bool false) (by go_simp) (noDigit_bool _)).store (.slice A2 l2 c2) (p:=⟨w.heap.size+1+1+1,1,none⟩) (v:=.slice none 0 0) (by go_simp) (noDigit_slice _ _ _)
 have hbw:=(((((Hbx.out.trans (hb1.mono Hbx.out.size)).setCell (p:=⟨w.heap.size+1+1,0,none⟩) (by simp<;>omega) (.bool n1)).setCell (p:=⟨w.heap.size+1+1,1,none⟩) (by simp<;>omega) (.slice A1 l1 c1)).setCell (p:=⟨w.heap.size+1+1+1,0,none⟩) (by simp<;>omega) (.bool n2)).setCell (p:=⟨w.heap.size+1+1+1,1,none⟩) (by simp<;>omega) (.slice A2 l2 c2))
 have hW:∃ W,W=(((w1.setCell ⟨w.heap.size+1+1,0,none⟩ (.bool n1)).setCell ⟨w.heap.size+1+1,1,none⟩ (.slice A1 l1 c1)).setCell ⟨w.heap.size+1+1+1,0,none⟩ (.bool n2)).setCell ⟨w.heap.size+1+1+1,1,none⟩ (.slice A2 l2 c2):=⟨_,rfl⟩
 obtain ⟨W,hW⟩:=hW
 rw[<- hW] at h1' h2' hB1 hbw
 have w10:W.cell? ⟨w.heap.size+1,0,none⟩=some (.bool nb):=by rw[hW];go_simp
 have w11:W.cell? ⟨w.heap.size+1,1,none⟩=some (.slice B lb cb):=by rw[hW];go_simp
 have w20:W.cell? ⟨w.heap.size+1+1,0,none⟩=some (.bool n1):=by rw[hW];go_simp
 have w21:W.cell? ⟨w.heap.size+1+1,1,none⟩=some (.slice A1 l1 c1):=by rw[hW];go_simp
 have w30:W.cell? ⟨w.heap.size+1+1+1,0,none⟩=some (.bool n2):=by rw[hW];go_simp
 have w31:W.cell? ⟨w.heap.size+1+1+1,1,none⟩=some (.slice A2 l2 c2):=by rw[hW];go_simp
 have g20:W.frozen? ⟨w.heap.size+1+1,0,none⟩=false:=by rw[hW];go_simp
 have g21:W.frozen? ⟨w.heap.size+1+1,1,none⟩=false:=by rw[hW];go_simp
 have g30:W.frozen? ⟨w.heap.size+1+1+1,0,none⟩=false:=by rw[hW];go_simp
 have g31:W.frozen? ⟨w.heap.size+1+1+1,1,none⟩=false:=by rw[hW];go_simp
 have wsz:w.heap.size+4<=W.heap.size:=by rw[hW];simp;omega
 have Hw:=Lh hW
 have HF:FlW w W nb B lb cb b n1 A1 l1 c1 (a.tdiv b) n2 A2 l2 c2 (a.tmod b):=⟨w10,w11,w20,w21,w30,w31,g20,g21,g30,g31,wsz,hB1,h1',h2',hbw⟩
 have HF:=Lh HF
 clear hW h1' h2' hB1 hbw h1 h2 hB0 hA0 w10 w11 w20 w21 w30 w31 g20 g21 g30 g31 wsz
 go_wp2_with fail
 rw[<- Hw.out]
 clear Hw d10 d11 d20 d21 d30 d31 f20 f21 f30 f31
 go_cut [24] (fun s24 wx=>s24=.bool (decide (sg (a.tmod b)*sg b<0))/\FlW w wx nb B lb cb b n1 A1 l1 c1 (a.tdiv b) n2 A2 l2 c2 (a.tmod b))
 case first =>
  have e10:=HF.out.w10
  have e11:=HF.out.w11
  have e30:=HF.out.w30
  have e31:=HF.out.w31
  have esz:=HF.out.size
  have k1:w.heap.size+1<W.heap.size:=by omega
  have k3:w.heap.size+1+1+1<W.heap.size:=by omega
  have hwp:IntKind.i64.wrap (sg (a.tmod b)*sg b)=sg (a.tmod b)*sg b:=by
   rcases sg_cases (a.tmod b) with ⟨_,x2⟩ | ⟨_,x2⟩ | ⟨_,x2⟩<;>rcases sg_cases b with ⟨_,y2⟩ | ⟨_,y2⟩ | ⟨_,y2⟩<;>rw[x2,y2]<;>rfl
  have hsr:SmI (a.tmod b):=by
   unfold SmI at *
   refine hsa.mono ?_
   rw[Int.natAbs_tmod]
   exact Nat.mod_le _ _
  go_region_with (first
   | (go_at_call_of 31 (Value.slice A2 l2 c2);go_must (refine (isign_any _ _ _ _ _ _ ?_ hsr).mono ?_;(exact HF.out.hr.at_.below (by repeat (first | exact Below.refl _ _ | refine Below.drew ?_ | refine Below.alloc ?_ (by simp;try omega) _)));rintro e w' ⟨rfl,rfl⟩))
   | (go_at_call_of 31 (Value.slice B lb cb);go_must (refine (isign_any _ _ _ _ _ _ ?_ hsb).mono ?_;(exact HF.out.hb.below (by repeat (first | exact Below.refl _ _ | refine Below.drew ?_ | refine Below.alloc ?_ (by simp;try omega) _)));rintro e w' ⟨rfl,rfl⟩)))
  all_goals go_wp2_with fail
  all_goals go_meet
  all_goals
   refine ⟨rfl,HF.out.move ?_⟩
   repeat (first | exact Below.refl _ _ | refine Below.drew ?_ | refine Below.alloc ?_ (by simp;try omega) _)
 case rest =>
  clear HF
  obtain ⟨rfl,hfl⟩:=hcut
  have HF:=Lh hfl
  by_cases hneg:sg (a.tmod b)*sg b<0
  ·have e1:flq a b=a.tdiv b-1:=if_pos hneg
   have e2:flr a b=a.tmod b+b:=if_pos hneg
   rw[show decide (sg (a.tmod b)*sg b<0)=true from decide_eq_true hneg]
   have E1:=Lh e1
   have E2:=Lh e2
   clear e1 e2 hneg
   have e20:=hfl.w20
   have e21:=hfl.w21
   have f20:=hfl.g20
   have f21:=hfl.g21
   have esz:=hfl.size
   have hq1:=hfl.hq.at_.below (Below.refl _ _).drew
   have hsq:SmI (a.tdiv b):=by
    unfold SmI at *
    refine hsa.mono ?_
    rw[Int.natAbs_tdiv]
    exact Nat.div_le_self _ _
   have hsq1:Sm ((a.tdiv b).natAbs+(1:Int).natAbs):=by
    refine hs1.mono ?_
    rw[Int.natAbs_tdiv]
    have:=Nat.div_le_self a.natAbs b.natAbs
    simp;exact this
   have hsr:SmI (a.tmod b):=by
    unfold SmI at *
    refine hsa.mono ?_
    rw[Int.natAbs_tmod]
    exact Nat.mod_le _ _
   have hsr1:Sm ((a.tmod b).natAbs+b.natAbs):=by
    refine hs2.mono ?_
    rw[Int.natAbs_tmod]
    have:=Nat.mod_le a.natAbs b.natAbs
    omega
   have k2:w.heap.size+1+1<wc.heap.size:=by omega
   have HD:=Lh (hfl.move (Below.refl _ _).drew)
   clear hfl hq1
   go_wp2_with fail
   go_cut [] (fun wx=>∃ n4 A4 l4 c4,FlW w wx nb B lb cb b n4 A4 l4 c4 (a.tdiv b-1) n2 A2 l2 c2 (a.tmod b))
   case first =>
    go_region_with (first
     | (go_at_call 13;go_must (refine (iof_any 1 _ (by unfold I64;omega)).mono ?_;rintro e w3 ⟨n3,A3,l3,c3,rfl,h3,hb3⟩;obtain ⟨hc3,hf3⟩:=bcell hb3;have hsz3:=hb3.size;simp only[World.size_drew] at hsz3;have hq2:=(HD.out.move hb3).hq.at_;have r20:w3.cell? ⟨w.heap.size+1+1,0,none⟩=some (.bool n1):=(hc3 _ _ (by simpa using k2)).trans e20;have r21:w3.cell? ⟨w.heap.size+1+1,1,none⟩=some (.slice A1 l1 c1):=(hc3 _ _ (by simpa using k2)).trans e21))
     | (go_at_call 54;go_must (refine (isub_any _ _ _ _ _ _ _ _ _ _ _ hq2 h3.at_ hsq (SmI.of64 (by unfold I64;omega)) hsq1).mono ?_;rintro e w4 ⟨n4,A4,l4,c4,rfl,h4,hb4⟩;have HG:=Lh (HD.out.move (hb3.trans (hb4.mono hb3.size)));have H4:=Lh h4;have s20:=HG.out.w20;have s21:=HG.out.w21;have t20:=HG.out.g20;have t21:=HG.out.g21)))
    all_goals go_wp2_with fail
    all_goals go_meet
    all_goals exact ⟨_,_,_,_,(HG.out.setq H4.out).move (by repeat (first | exact Below.refl _ _ | refine Below.drew ?_))⟩
   case rest =>
    clear HF HD e20 e21 f20 f21 esz k2 hsq hsq1
    obtain ⟨n4,A4,l4,c4,hfl⟩:=hcut
    have HF:=Lh hfl
    have e10:=hfl.w10
    have e11:=hfl.w11
    have e20:=hfl.w20
    have e21:=hfl.w21
    have e30:=hfl.w30
    have e31:=hfl.w31
    have hr1:=hfl.hr.at_
    have hbb:=hfl.hb
    clear hfl
    go_wp2_with fail
    refine (iadd_any _ _ _ _ _ _ _ _ _ _ _ hr1 hbb hsr hsb hsr1).mono ?_
    rintro e w5 ⟨n5,A5,l5,c5,rfl,h5,hb5⟩
    have hg:=(HF.out.move hb5)
    have H5:=Lh h5
    have HG:=Lh hg
    have HH:=Lh (hg.setr h5)
    clear e10 e11 e20 e21 e30 e31 hr1 hbb h5 hb5 hsr hsr1 HF
    have e20:=hg.w20
    have e21:=hg.w21
    have e30:=hg.w30
    have e31:=hg.w31
    have f20:=hg.g20
    have f21:=hg.g21
    have f30:=hg.g30
    have f31:=hg.g31
    clear hg
    go_wp2_with fail
    go_region
    go_wp2
    have HZ:=Lh (((HH.out.setq HH.out.hq).setr (HH.out.setq HH.out.hq).hr).move (Below.refl _ _).drew)
    have z20:=HZ.out.w20
    have z21:=HZ.out.w21
    have z30:=HZ.out.w30
    have z31:=HZ.out.w31
    refine bodyPost_ret (v:=.tuple #[.agg #[.bool n4,.slice A4 l4 c4],.agg #[.bool n5,.slice A5 l5 c5],.int .i64 0]) (by clear e20 e21 e30 e31 f20 f21 f30 f31 HZ;generalize World.drew _=Z at z20 z21 z30 z31 ⊢;simp[results,Tryz.results52,go_sem,z20,z21,z30,z31]) rfl ⟨_,_,_,_,_,_,_,_,rfl,?_,?_,HZ.out.below⟩
    ·rw[E1.out];exact HZ.out.hq
    ·rw[E2.out];exact HZ.out.hr
  ·have E1:=Lh (show flq a b=a.tdiv b from if_neg hneg)
   have E2:=Lh (show flr a b=a.tmod b from if_neg hneg)
   rw[show decide (sg (a.tmod b)*sg b<0)=false from decide_eq_false hneg]
   have e20:=hfl.w20
   have e21:=hfl.w21
   have e30:=hfl.w30
   have e31:=hfl.w31
   have f20:=hfl.g20
   have f21:=hfl.g21
   have f30:=hfl.g30
   have f31:=hfl.g31
   clear hfl hneg
   go_wp2_with fail
   go_region
   go_wp2
   have HZ:=Lh (((HF.out.setq HF.out.hq).setr (HF.out.setq HF.out.hq).hr).move (Below.refl _ _).drew)
   refine bodyPost_ret (v:=.tuple #[.agg #[.bool n1,.slice A1 l1 c1],.agg #[.bool n2,.slice A2 l2 c2],.int .i64 0]) (by simp[results,Tryz.results52,go_sem,e20,e21,e30,e31]) rfl ⟨_,_,_,_,_,_,_,_,rfl,?_,?_,HZ.out.below⟩
   ·rw[E1.out];exact HZ.out.hq
   ·rw[E2.out];exact HZ.out.hr
structure CauSz (p:List Int):Prop where
 one:Sm (hst (ptrim p) (plen p-1)+1)
 add:Sm (hst (ptrim p) (plen p-1)+(plead (ptrim p)).natAbs)
 fin:Sm ((flq (-(hst (ptrim p) (plen p-1):Nat)) ((plead (ptrim p)).natAbs:Nat)).natAbs+1)
set_option maxHeartbeats 2000000 in
theorem cau_any {I:IntPred} (hI:IK I) (A:Option Addr) (len cap:Nat) (p:List Int) (w:World) (h:PolyP I w A len cap p) (hs:SmP p) (hm:len<=1099511627776) (hok:2<=plen p->CauSz p) :
  Calls Tryz.prog 26 #[.slice A len cap] w fun e w'=>∃ n1 A1 l1 c1,e=.returned (.agg #[.bool n1,.slice A1 l1 c1])/\IntN w' n1 A1 l1 c1 (cau p)/\Below w.heap.size w w':=by
 have hb0:Below w.heap.size w (w.alloc (ibox false none 0 0)):=(Below.refl _ _).alloc (Nat.le_refl _) _
 have h0:=h.below hI hb0
 have hpl:plen p<=1099511627776:=by have:=plen_le p;have:=h.length;omega
 have Hb0:=Lh hb0
 clear h hb0
 go_enter Tryz.func26,Tryz.ntmps26
 go_wp2_with fail
 refine (pnormal_any hI _ _ _ _ _ h0 hs hm).mono ?_
 rintro e w1 ⟨g,rfl,hrow,hg,hb1⟩
 obtain ⟨hc,hf⟩:=bcell hb1
 have hsz:=hb1.size
 simp only[World.size_alloc] at hsz hg
 have d00:w1.cell? ⟨w.heap.size,0,none⟩=some (.bool false):=by rw[hc _ _ (by simp)];go_simp
 have d01:w1.cell? ⟨w.heap.size,1,none⟩=some (.slice none 0 0):=by rw[hc _ _ (by simp)];go_simp
 have f00:w1.frozen? ⟨w.heap.size,0,none⟩=false:=by rw[hf _ _ (by simp)];go_simp
 have f01:w1.frozen? ⟨w.heap.size,1,none⟩=false:=by rw[hf _ _ (by simp)];go_simp
 have Hb1:=Lh (Hb0.out.trans (hb1.mono Hb0.out.size))
 clear hc hf hb1 h0
 by_cases hlt:plen p<2
 ·have E:=Lh (show cau p=0 from if_pos hlt)
  have HB:=Lh (show IBox w1 w.heap.size false none 0 0 0 from ⟨d00,d01,f00,f01,by omega,⟨NatN.zero _ _ _,by simp⟩⟩)
  clear hrow
  go_wp2
  have HP:=Lh (HB.out.put (n':=false) (A':=none) (l':=0) (c':=0) (z':=0) ⟨NatN.zero _ _ _,by simp⟩)
  refine bodyPost_ret (v:=.agg #[.bool false,.slice none 0 0]) (by simp[results,Tryz.results26,go_sem,d00,d01]) rfl ⟨_,_,_,_,rfl,by rw[E.out];exact HP.out.hz,(Hb1.out.setCell (p:=⟨w.heap.size,0,none⟩) (Nat.le_refl _) _).setCell (p:=⟨w.heap.size,1,none⟩) (Nat.le_refl _) _⟩
 ·have E:=Lh (show cau p=_ from if_neg hlt)
  have hok2:=Lh (hok (by omega))
  have hpt:=Lh (ptrim_length p)
  have hpoly:=hrow.poly (cap:=plen p) (by rw[hpt.out];exact Nat.le_refl _)
  rw[hpt.out] at hpoly
  have hsp:=hs.ptrim
  have hpart:=hpoly.take (k:=plen p-1) (by omega)
  have HB:=Lh (show IBox w1 w.heap.size false none 0 0 0 from ⟨d00,d01,f00,f01,by omega,⟨NatN.zero _ _ _,by simp⟩⟩)
  have HPo:=Lh hpoly
  clear hrow hpoly hok
  go_wp2_with fail
  refine (height_any ikN _ _ _ _ _ hpart (hsp.take _) (by omega)).mono ?_
  rintro e w2 ⟨n2,A2,l2,c2,rfl,h2,hb2⟩
  rw[hst_take _ _ _ (Nat.le_refl _)] at h2
  have HB2:=Lh (HB.out.move hb2)
  have HPo2:=Lh (HPo.out.below ikN hb2)
  have Hb2:=Lh (Hb1.out.trans (hb2.mono Hb1.out.size))
  have hsz2:=hb2.size
  have HT3:=Lh (IBox.make h2)
  have hbx:Below w2.heap.size w2 (w2.alloc (ibox n2 A2 l2 c2)):=(Below.refl _ _).alloc (Nat.le_refl _) _
  have HB3:=Lh (HB2.out.move hbx)
  have HPo3:=Lh (HPo2.out.below ikN hbx)
  have Hb3:=Lh (Hb2.out.trans (hbx.mono Hb2.out.size))
  clear d00 d01 f00 f01 hpart HB HPo hb2 HB2 HPo2 h2 hbx
  go_wp2_with fail
  refine (lead_any _ _ _ _ _ (HPo3.out.at_ ikN) hsp (by omega)).mono ?_
  rintro e w3 ⟨n3,A3,l3,c3,rfl,h3,hb3⟩
  have hsl:SmI (plead (ptrim p)):=hsp.getD _
  have HT4:=Lh (HT3.out.move hb3)
  have HB4:=Lh (HB3.out.move hb3)
  have Hb4:=Lh (Hb3.out.trans (hb3.mono Hb3.out.size))
  have hsz3:=hb3.size
  simp only[World.size_alloc] at hsz3
  have hg3:w2.heap.size<w3.heap.size:=by omega
  clear HT3 HB3 HPo3 hb3
  go_wp2_with fail
  refine (iabs_any _ _ _ _ _ _ h3.at_ hsl).mono ?_
  rintro e w4 ⟨n4,A4,l4,c4,rfl,h4,hb4⟩
  have hbx:Below w4.heap.size w4 (w4.alloc (ibox n4 A4 l4 c4)):=(Below.refl _ _).alloc (Nat.le_refl _) _
  have HT5:=Lh ((HT4.out.move hb4).move hbx)
  have HB5:=Lh ((HB4.out.move hb4).move hbx)
  have HL5:=Lh (IBox.make h4)
  have Hb5:=Lh ((Hb4.out.trans (hb4.mono Hb4.out.size)).trans (hbx.mono (Hb4.out.trans (hb4.mono Hb4.out.size)).size))
  have hsz4:=hb4.size
  clear HT4 HB4 h3 h4 hb4 hbx
  have HT:=HT5
  have HL:=HL5
  have HB:=HB5
  have Hb:=Hb5
  have e30:=HT5.out.c0
  have e31:=HT5.out.c1
  have e40:=HL5.out.c0
  have e41:=HL5.out.c1
  have hht:SmI ((hst (ptrim p) (plen p-1):Nat):Int):=by unfold SmI;rw[Int.natAbs_natCast];exact hst_sm hsp _
  have hhn:SmI (-((hst (ptrim p) (plen p-1):Nat):Int)):=by unfold SmI;rw[Int.natAbs_neg,Int.natAbs_natCast];exact hst_sm hsp _
  have hll:SmI (((plead (ptrim p)).natAbs:Nat):Int):=by unfold SmI;rw[Int.natAbs_natCast];exact hsl
  have f0:(((plead (ptrim p)).natAbs:Nat):Int)≠0:=by
   have:=plead_ne (p:=ptrim p) (by rw[plen_ptrim];omega)
   omega
  have f1:Sm ((-((hst (ptrim p) (plen p-1):Nat):Int)).natAbs+1):=by rw[Int.natAbs_neg,Int.natAbs_natCast];exact hok2.out.one
  have f2:Sm ((-((hst (ptrim p) (plen p-1):Nat):Int)).natAbs+(((plead (ptrim p)).natAbs:Nat):Int).natAbs):=by rw[Int.natAbs_neg,Int.natAbs_natCast,Int.natAbs_natCast];exact hok2.out.add
  clear HT5 HL5 HB5 Hb5
  go_wp2_with fail
  have y2:w2.heap.size<w4.heap.size:=by omega
  have v0:w4.heap.size≠w2.heap.size:=by omega
  have v1:w4.heap.size+1≠w2.heap.size:=by omega
  have v2:w4.heap.size+1+1≠w2.heap.size:=by omega
  have v12:w4.heap.size+1+1≠w4.heap.size:=by omega
  go_cut [5] (fun s5 wx=>∃ g5 n6 A6 l6 c6,s5=.pointer (some ⟨g5,0,none⟩)/\w.heap.size<g5/\IBox wx g5 n6 A6 l6 c6 (flq (-(hst (ptrim p) (plen p-1):Nat)) ((plead (ptrim p)).natAbs:Nat))/\IBox wx w.heap.size false none 0 0 0/\Below w.heap.size w wx)
  case first =>
   go_region_held3 (fun w'=>w'.cell? ⟨w2.heap.size,0,none⟩=some (.bool n2)/\w'.cell? ⟨w2.heap.size,1,none⟩=some (.slice A2 l2 c2)/\w'.cell? ⟨w4.heap.size,0,none⟩=some (.bool n4)/\w'.cell? ⟨w4.heap.size,1,none⟩=some (.slice A4 l4 c4)) (go_keep) (first
    | (go_at_call 53;go_must (refine (ineg_any _ _ _ _ _ _ ?_ hht).mono ?_;(exact HT.out.hz.at_.below Bel.go);rintro e w5 ⟨n5,A5,l5,c5,rfl,h5,hb5⟩;obtain ⟨hc5,hf5⟩:=bcellS hb5;have HL6:=Lh (HL.out.move (Below.trans Bel.go (hb5.mono (by simp<;>omega))));have HT6:=Lh (HT.out.move (Below.trans Bel.go (hb5.mono (by simp<;>omega))));have HB6:=Lh (HB.out.move (Below.trans Bel.go (hb5.mono (by simp<;>omega))));have zy:=hb5.size;(try simp only[World.size_alloc,World.size_drew] at zy);(try have z1:w4.heap.size+1<w5.heap.size:=(by omega));(try have z2:w4.heap.size+1+1<w5.heap.size:=(by omega));have v3:w5.heap.size≠w2.heap.size:=(by omega);have v4:w5.heap.size≠w4.heap.size:=(by omega);have v5:w5.heap.size+1≠w2.heap.size:=(by omega);have v6:w5.heap.size+1≠w4.heap.size:=(by omega);(try (have Z1:=Lh (show IBox w5 (w4.heap.size+1) false none 0 0 0 from ⟨(by go_simp),(by go_simp),(by go_simp),(by go_simp),(by omega),⟨NatN.zero _ _ _,(by simp)⟩⟩);have Z1a:=Z1.out.c0;have Z1b:=Z1.out.c1;have Z1c:=Z1.out.f0;have Z1d:=Z1.out.f1));(try (have Z2:=Lh (show IBox w5 (w4.heap.size+1+1) false none 0 0 0 from ⟨(by go_simp),(by go_simp),(by go_simp),(by go_simp),(by omega),⟨NatN.zero _ _ _,(by simp)⟩⟩);have Z2a:=Z2.out.c0;have Z2b:=Z2.out.c1;have Z2c:=Z2.out.f0;have Z2d:=Z2.out.f1));clear hc5 hf5;have Hbn:=Lh (Hb.out.trans ((Below.trans Bel.go (hb5.mono (by simp<;>omega))).mono Hb.out.size));have q30:=HT6.out.c0;have q31:=HT6.out.c1;have q40:=HL6.out.c0;have q41:=HL6.out.c1))
    | (go_at_call 52;go_must (refine (floor_all _ _ _ _ _ _ _ _ _ _ _ ?_ ?_ hhn hll f0 f1 f2).mono ?_;(exact h5.at_.below Bel.go);(exact HL6.out.hz.at_.below Bel.go);rintro e w6 ⟨n6,A6,l6,c6,n7,A7,l7,c7,rfl,h6,h7,hb6⟩;obtain ⟨hc6,hf6⟩:=bcellS hb6;have H6:=Lh h6;have HL7:=Lh (HL6.out.move (Below.trans Bel.go (hb6.mono (by simp<;>omega))));have HT7:=Lh (HT6.out.move (Below.trans Bel.go (hb6.mono (by simp<;>omega))));have HB7:=Lh (HB6.out.move (Below.trans Bel.go (hb6.mono (by simp<;>omega))));have zz:=hb6.size;(try simp only[World.size_alloc] at zz);(try have z3:w4.heap.size+1<w6.heap.size:=(by omega));(try have z4:w4.heap.size+1+1<w6.heap.size:=(by omega));(try have z5:w5.heap.size<w6.heap.size:=(by omega));(try have z6:w5.heap.size+1<w6.heap.size:=(by omega));have v7:w6.heap.size≠w2.heap.size:=(by omega);have v8:w6.heap.size≠w4.heap.size:=(by omega);have v9:w6.heap.size+1≠w2.heap.size:=(by omega);have v10:w6.heap.size+1≠w4.heap.size:=(by omega);(try (have Y1:=Lh (Z1.out.move (Below.trans Bel.go (hb6.mono (by simp<;>omega))));have Y1a:=Y1.out.c0;have Y1b:=Y1.out.c1;have Y1c:=Y1.out.f0;have Y1d:=Y1.out.f1));(try (have Y2:=Lh (Z2.out.move (Below.trans Bel.go (hb6.mono (by simp<;>omega))));have Y2a:=Y2.out.c0;have Y2b:=Y2.out.c1;have Y2c:=Y2.out.f0;have Y2d:=Y2.out.f1));(try (have Y3:=Lh (show IBox w6 (w5.heap.size) false none 0 0 0 from ⟨(by go_simp),(by go_simp),(by go_simp),(by go_simp),(by omega),⟨NatN.zero _ _ _,(by simp)⟩⟩);have Y3a:=Y3.out.c0;have Y3b:=Y3.out.c1;have Y3c:=Y3.out.f0;have Y3d:=Y3.out.f1));(try (have Y4:=Lh (show IBox w6 (w5.heap.size+1) false none 0 0 0 from ⟨(by go_simp),(by go_simp),(by go_simp),(by go_simp),(by omega),⟨NatN.zero _ _ _,(by simp)⟩⟩);have Y4a:=Y4.out.c0;have Y4b:=Y4.out.c1;have Y4c:=Y4.out.f0;have Y4d:=Y4.out.f1));clear hc6 hf6;have HbF:=Lh (Hbn.out.trans ((Below.trans Bel.go (hb6.mono (by simp<;>omega))).mono Hbn.out.size));have p30:=HT7.out.c0;have p31:=HT7.out.c1;have p40:=HL7.out.c0;have p41:=HL7.out.c1)))
   all_goals go_wp2_with fail
   all_goals go_meet
   ·refine ⟨_,n6,A6,l6,c6,rfl,by omega,?_,?_,?_⟩
    ·exact (IBox.make H6.out).move Bel.go
    ·exact HB7.out.move Bel.go
    ·(repeat (first | exact HbF.out | refine Below.alloc ?_ (by first | (simp;done) | (simp;omega) | omega) _ | refine Below.setCell ?_ (by first | (simp;done) | (simp;omega) | omega) _))
   ·refine ⟨_,n6,A6,l6,c6,rfl,by omega,?_,?_,?_⟩
    ·have hx:=IBox.make (W:=w6.alloc (ibox n7 A7 l7 c7)) (H6.out.below Bel.go)
     rw[World.size_alloc] at hx
     exact hx
    ·exact HB7.out.move Bel.go
    ·(repeat (first | exact HbF.out | refine Below.alloc ?_ (by first | (simp;done) | (simp;omega) | omega) _ | refine Below.setCell ?_ (by first | (simp;done) | (simp;omega) | omega) _))
   ·refine ⟨_,n6,A6,l6,c6,rfl,by omega,?_,?_,?_⟩
    ·exact (Y3.out.put H6.out).move Bel.go
    ·exact (HB7.out.far Y3.out (by omega) _ _).move Bel.go
    ·(repeat (first | exact HbF.out | refine Below.alloc ?_ (by first | (simp;done) | (simp;omega) | omega) _ | refine Below.setCell ?_ (by first | (simp;done) | (simp;omega) | omega) _))
   ·refine ⟨_,n6,A6,l6,c6,rfl,by omega,?_,?_,?_⟩
    ·exact (Y3.out.put H6.out).far (Y4.out.far Y3.out (by omega) _ _) (by omega) _ _
    ·exact (HB7.out.far Y3.out (by omega) _ _).far (Y4.out.far Y3.out (by omega) _ _) (by omega) _ _
    ·(repeat (first | exact HbF.out | refine Below.alloc ?_ (by first | (simp;done) | (simp;omega) | omega) _ | refine Below.setCell ?_ (by first | (simp;done) | (simp;omega) | omega) _))
   ·refine ⟨_,n6,A6,l6,c6,rfl,by omega,?_,?_,?_⟩
    ·have hx:=IBox.make (H6.out.ret (.bool n7) (.slice A7 l7 c7) Y3.out.c0 Y3.out.c1)
     rw[World.size_setCell,World.size_setCell] at hx
     exact hx
    ·exact (HB7.out.far Y3.out (by omega) _ _).move Bel.go
    ·(repeat (first | exact HbF.out | refine Below.alloc ?_ (by first | (simp;done) | (simp;omega) | omega) _ | refine Below.setCell ?_ (by first | (simp;done) | (simp;omega) | omega) _))
   ·refine ⟨_,n6,A6,l6,c6,rfl,by omega,?_,?_,?_⟩
    ·exact (Y4.out.put H6.out).far (Y3.out.far Y4.out (by omega) _ _) (by omega) _ _
    ·exact (HB7.out.far Y4.out (by omega) _ _).far (Y3.out.far Y4.out (by omega) _ _) (by omega) _ _
    ·(repeat (first | exact HbF.out | refine Below.alloc ?_ (by first | (simp;done) | (simp;omega) | omega) _ | refine Below.setCell ?_ (by first | (simp;done) | (simp;omega) | omega) _))
   ·refine ⟨_,n6,A6,l6,c6,rfl,by omega,?_,?_,?_⟩
    ·exact (Y1.out.put H6.out).move Bel.go
    ·exact (HB7.out.far Y1.out (by omega) _ _).move Bel.go
    ·(repeat (first | exact HbF.out | refine Below.alloc ?_ (by first | (simp;done) | (simp;omega) | omega) _ | refine Below.setCell ?_ (by first | (simp;done) | (simp;omega) | omega) _))
   ·refine ⟨_,n6,A6,l6,c6,rfl,by omega,?_,?_,?_⟩
    ·exact (Y1.out.put H6.out).far (Y3.out.far Y1.out (by omega) _ _) (by omega) _ _
    ·exact (HB7.out.far Y1.out (by omega) _ _).far (Y3.out.far Y1.out (by omega) _ _) (by omega) _ _
    ·(repeat (first | exact HbF.out | refine Below.alloc ?_ (by first | (simp;done) | (simp;omega) | omega) _ | refine Below.setCell ?_ (by first | (simp;done) | (simp;omega) | omega) _))
   ·refine ⟨_,n6,A6,l6,c6,rfl,by omega,?_,?_,?_⟩
    ·exact (Y1.out.put H6.out).far (Y2.out.far Y1.out (by omega) _ _) (by omega) _ _
    ·exact (HB7.out.far Y1.out (by omega) _ _).far (Y2.out.far Y1.out (by omega) _ _) (by omega) _ _
    ·(repeat (first | exact HbF.out | refine Below.alloc ?_ (by first | (simp;done) | (simp;omega) | omega) _ | refine Below.setCell ?_ (by first | (simp;done) | (simp;omega) | omega) _))
   ·refine ⟨_,n6,A6,l6,c6,rfl,by omega,?_,?_,?_⟩
    ·have hx:=IBox.make (H6.out.ret (.bool n7) (.slice A7 l7 c7) Y1.out.c0 Y1.out.c1)
     rw[World.size_setCell,World.size_setCell] at hx
     exact hx
    ·exact (HB7.out.far Y1.out (by omega) _ _).move Bel.go
    ·(repeat (first | exact HbF.out | refine Below.alloc ?_ (by first | (simp;done) | (simp;omega) | omega) _ | refine Below.setCell ?_ (by first | (simp;done) | (simp;omega) | omega) _))
   ·refine ⟨_,n6,A6,l6,c6,rfl,by omega,?_,?_,?_⟩
    ·exact (Y3.out.put H6.out).far (Y1.out.far Y3.out (by omega) _ _) (by omega) _ _
    ·exact (HB7.out.far Y3.out (by omega) _ _).far (Y1.out.far Y3.out (by omega) _ _) (by omega) _ _
    ·(repeat (first | exact HbF.out | refine Below.alloc ?_ (by first | (simp;done) | (simp;omega) | omega) _ | refine Below.setCell ?_ (by first | (simp;done) | (simp;omega) | omega) _))
   ·refine ⟨_,n6,A6,l6,c6,rfl,by omega,?_,?_,?_⟩
    ·exact (Y2.out.put H6.out).far (Y1.out.far Y2.out (by omega) _ _) (by omega) _ _
    ·exact (HB7.out.far Y2.out (by omega) _ _).far (Y1.out.far Y2.out (by omega) _ _) (by omega) _ _
    ·(repeat (first | exact HbF.out | refine Below.alloc ?_ (by first | (simp;done) | (simp;omega) | omega) _ | refine Below.setCell ?_ (by first | (simp;done) | (simp;omega) | omega) _))
  case rest =>
   clear HT HL HB Hb e30 e31 e40 e41 y2 v0 v1 v2 v12 hht hhn hll f0 f1 f2
   obtain ⟨g5,n6,A6,l6,c6,rfl,hg5,hbx,hb0,hbw⟩:=hcut
   have hne:w.heap.size≠g5:=by omega
   have HX:=Lh hbx
   have HB:=Lh hb0
   have Hbw:=Lh hbw
   have x0:=hbx.c0
   have x1:=hbx.c1
   have hsf:SmI (flq (-(hst (ptrim p) (plen p-1):Nat)) ((plead (ptrim p)).natAbs:Nat)):=hok2.out.fin.mono (Nat.le_add_right _ _)
   have hsf2:Sm ((1:Int).natAbs+(flq (-(hst (ptrim p) (plen p-1):Nat)) ((plead (ptrim p)).natAbs:Nat)).natAbs):=by
    have:=hok2.out.fin
    rw[Nat.add_comm] at this
    exact this
   have hs1:SmI 1:=SmI.of64 (by unfold I64;omega)
   clear hbx hb0 hbw
   go_wp2_with fail
   go_region_held3 (fun w'=>w'.cell? ⟨g5,0,none⟩=some (.bool n6)/\w'.cell? ⟨g5,1,none⟩=some (.slice A6 l6 c6)) (go_keep) (first
    | (go_at_call 13;go_must (refine (iof_any 1 _ (by unfold I64;omega)).mono ?_;rintro e w7 ⟨n8,A8,l8,c8,rfl,h8,hb8⟩;have HX8:=Lh (HX.out.move (Below.trans Bel.go (hb8.mono (by simp<;>omega))));have HB8:=Lh (HB.out.move (Below.trans Bel.go (hb8.mono (by simp<;>omega))));have Hb8:=Lh (Hbw.out.trans ((Below.trans Bel.go (hb8.mono (by simp<;>omega))).mono Hbw.out.size));have q0:=HX8.out.c0;have q1:=HX8.out.c1))
    | (go_at_call 54;go_must (refine (isub_any _ _ _ _ _ _ _ _ _ _ _ ?_ ?_ hs1 hsf hsf2).mono ?_;(exact h8.at_.below Bel.go);(exact HX8.out.hz.at_.below Bel.go);rintro e w9 ⟨n9,A9,l9,c9,rfl,h9,hb9⟩;have HX9:=Lh (HX8.out.move (Below.trans Bel.go (hb9.mono (by simp<;>omega))));have HB9:=Lh (HB8.out.move (Below.trans Bel.go (hb9.mono (by simp<;>omega))));have Hb9:=Lh (Hb8.out.trans ((Below.trans Bel.go (hb9.mono (by simp<;>omega))).mono Hb8.out.size));have p0:=HX9.out.c0;have p1:=HX9.out.c1;have b0:=HB9.out.c0;have b1:=HB9.out.c1;have b2:=HB9.out.f0;have b3:=HB9.out.f1)))
   have HP:=Lh (HB9.out.put h9)
   have HbP:=Lh ((Hb9.out.setCell (p:=⟨w.heap.size,0,none⟩) (Nat.le_refl _) (.bool n9)).setCell (p:=⟨w.heap.size,1,none⟩) (Nat.le_refl _) (.slice A9 l9 c9))
   clear HX HB Hbw x0 x1 hsf hsf2 hs1 HX8 HB8 Hb8 q0 q1 h8 hb8 HX9 HB9 Hb9 p0 p1 h9 hb9
   go_wp2
   refine bodyPost_ret (v:=.agg #[.bool n9,.slice A9 l9 c9]) (by simp[results,Tryz.results26,go_sem,b0,b1]) rfl ⟨_,_,_,_,rfl,by rw[E.out];exact HP.out.hz,HbP.out⟩
end Go.Proofs.YtpeiiomjnjemjaaGreat
namespace Go.Proofs.YtpeiiomjnjemjaaGreat
open Go.RowKit
theorem flq_neg (H:Nat) {L:Nat} (hL:0<L):1-flq (-(H:Int)) (L:Int)=1+((H+L-1) / L:Nat):=by
 have h1:(-(H:Int)).tdiv (L:Int)=-((H / L:Nat):Int):=by rw[Int.neg_tdiv];rfl
 have h2:(-(H:Int)).tmod (L:Int)=-((H % L:Nat):Int):=by rw[Int.neg_tmod];rfl
 have hs:sg (L:Int)=1:=sg_pos (by omega)
 have hd:=Nat.div_add_mod H L
 unfold flq
 rw[h1,h2,hs]
 by_cases h0:H % L=0
 ·rw[h0]
  have e:(H+L-1) / L=H / L:=by
   have h3:H+L-1=L*(H / L)+(L-1):=by omega
   have h4:(L-1) / L=0:=Nat.div_eq_of_lt (by omega)
   rw[h3,Nat.mul_add_div hL,h4];rfl
  rw[e,if_neg (by decide)]
  omega
 ·have hm:=Nat.mod_lt H hL
  have e:(H+L-1) / L=H / L+1:=by
   have h3:H+L-1=L*(H / L+1)+(H % L-1):=by rw[Nat.mul_add];omega
   have h4:(H % L-1) / L=0:=Nat.div_eq_of_lt (by omega)
   rw[h3,Nat.mul_add_div hL,h4]
  rw[e,sg_neg (by omega),if_pos (by decide)]
  have h5:(1:Int)-(-((H / L:Nat):Int)-1)=1+((H / L+1:Nat):Int):=by omega
  exact h5
theorem hst_ge (p:List Int):∀ n k,k<n->(p.getD k 0).natAbs<=hst p n
 | 0,_,h=>absurd h (Nat.not_lt_zero _)
 | n+1,k,h=>by
   rw[hst]
   rcases Nat.lt_or_ge k n with h1 | h1
   ·have:=hst_ge p n k h1
    split<;>omega
   ·obtain rfl:k=n:=by omega
    split<;>omega
theorem hst_bd {p:List Int} {M:Nat} (h:∀ k,(p.getD k 0).natAbs<=M):∀ n,hst p n<=M
 | 0=>Nat.zero_le _
 | n+1=>by
   rw[hst]
   split
   ·exact h n
   ·exact hst_bd h n
def cbn (p:List Int):Nat:=1+(hst (ptrim p) (plen p-1)+(plead (ptrim p)).natAbs-1) / (plead (ptrim p)).natAbs
theorem plead_tr {p:List Int} (h:plen p≠0):0<(plead (ptrim p)).natAbs:=by
 have:plead (ptrim p)≠0:=plead_ne (by rw[plen_ptrim];exact h)
 omega
theorem cau_cbn {p:List Int} (h:2<=plen p):cau p=(cbn p:Nat):=by
 unfold cau cbn
 rw[if_neg (by omega),flq_neg _ (plead_tr (by omega)),Int.natCast_add]
 rfl
theorem cdiv_facts (H:Nat) {L:Nat} (hL:0<L):H<=L*((H+L-1) / L)/\(H+L-1) / L<=H:=by
 constructor
 ·have h1:=Nat.div_add_mod (H+L-1) L
  have h2:=Nat.mod_lt (H+L-1) hL
  omega
 ·rcases Nat.eq_zero_or_pos H with h | h
  ·subst h
   rw[Nat.div_eq_of_lt (by omega)]
   exact Nat.le_refl _
  ·refine Nat.div_le_of_le_mul ?_
   obtain ⟨a,rfl⟩:∃ a,L=a+1:=⟨L-1,by omega⟩
   obtain ⟨b,rfl⟩:∃ b,H=b+1:=⟨H-1,by omega⟩
   rw[Nat.add_mul,Nat.mul_add]
   have:=Nat.zero_le (a*b)
   omega
theorem big_mul {L c x v:Rat} (hL:0<L) (hc:1<=c) (hx:c<=x) (hv:L<=v):c*L<=x*v:=by
 have h1:0<=(x-c)*v:=Rat.mul_nonneg (by grind) (by grind)
 have h2:0<=c*(v-L):=Rat.mul_nonneg (by grind) (by grind)
 grind
theorem pv_big {L c q:Rat} (hL:0<L) (hc:1<=c) (hq:c<=q∨q<=-c) {l:Int} (hl:L<=(l:Rat)∨(l:Rat)<=-L):∀ t:List Int,(∀ a∈t,-(L*(c-1))<=(a:Rat)/\(a:Rat)<=L*(c-1))->L<=pv (t ++ [l]) q∨pv (t ++ [l]) q<=-L
 | [],_=>by
   show L<=(l:Rat)+q*0∨(l:Rat)+q*0<=-L
   rw[Rat.mul_zero,Rat.add_zero]
   exact hl
 | a :: t,h=>by
   have ih:=pv_big hL hc hq hl t fun b hb=>h b (List.mem_cons_of_mem _ hb)
   have ha:=h a (List.mem_cons_self ..)
   show L<=(a:Rat)+q*pv (t ++ [l]) q∨(a:Rat)+q*pv (t ++ [l]) q<=-L
   generalize pv (t ++ [l]) q=v at ih ⊢
   generalize (a:Rat)=r at ha ⊢
   have e:L*(c-1)=c*L-L:=by grind
   rw[e] at ha
   rcases hq with hq | hq<;>rcases ih with ih | ih
   ·have:=big_mul hL hc hq ih
    left;grind
   ·have:=big_mul hL hc hq (show L<=-v by grind)
    right;grind
   ·have:=big_mul hL hc (show c<=-q by grind) ih
    right;grind
   ·have:=big_mul hL hc (show c<=-q by grind) (show L<=-v by grind)
    left;grind
theorem rat_abs_le {a:Int} {n:Nat} (h:a.natAbs<=n):-((n:Nat):Rat)<=(a:Rat)/\(a:Rat)<=((n:Nat):Rat):=by
 have h1:-((n:Nat):Int)<=a:=by omega
 have h2:a<=((n:Nat):Int):=by omega
 constructor
 ·have:=Rat.intCast_le_intCast.2 h1
  rw[Rat.intCast_neg,Rat.intCast_natCast] at this
  exact this
 ·have:=Rat.intCast_le_intCast.2 h2
  rw[Rat.intCast_natCast] at this
  exact this
theorem pv_far {Q:List Int} (ht:ptrim Q=Q) (h2:plen Q≠0) {q:Rat} (hq:((cbn Q:Nat):Rat)<=q∨q<=-((cbn Q:Nat):Rat)):1<=pv Q q∨pv Q q<=-1:=by
 have hlen:Q.length=plen Q:=by rw[<- ptrim_length Q,ht]
 rcases List.eq_nil_or_concat Q with h | ⟨t,l,h⟩
 ·exact absurd (by rw[h];rfl) h2
 ·rw[List.concat_eq_append] at h
  have hn:plen Q=t.length+1:=by rw[<- hlen,h,List.length_append,List.length_singleton]
  have hpl:plead Q=l:=by
   unfold plead
   rw[hn,Nat.add_sub_cancel,h,List.getD_eq_getElem?_getD,List.getElem?_append_right (Nat.le_refl _),Nat.sub_self]
   rfl
  obtain ⟨H,hH⟩:∃ H,H=hst (ptrim Q) (plen Q-1):=⟨_,rfl⟩
  obtain ⟨L,hL⟩:∃ L,L=(plead (ptrim Q)).natAbs:=⟨_,rfl⟩
  have hL0:0<L:=by rw[hL];exact plead_tr h2
  have hLl:L=l.natAbs:=by rw[hL,ht,hpl]
  obtain ⟨c1,hc1⟩:∃ c1,c1=(H+L-1) / L:=⟨_,rfl⟩
  have hc:cbn Q=1+c1:=by unfold cbn;rw[<- hH,<- hL,<- hc1]
  have hf:=(cdiv_facts H hL0).1
  rw[<- hc1] at hf
  have hLr:(1:Rat)<=((L:Nat):Rat):=by exact_mod_cast hL0
  have hcr:(1:Rat)<=((cbn Q:Nat):Rat):=by
   have:1<=cbn Q:=by omega
   exact_mod_cast this
  have hb:=pv_big (L:=((L:Nat):Rat)) (c:=((cbn Q:Nat):Rat)) (q:=q) (by grind) hcr hq (l:=l) (by
   have h1:(L:Int)=l∨(L:Int)=-l:=by omega
   rcases h1 with e | e
   ·left
    have:((L:Nat):Rat)=(l:Rat):=by rw[<- e,Rat.intCast_natCast]
    rw[this];exact Rat.le_refl
   ·right
    have:(l:Rat)=-((L:Nat):Rat):=by
     have e2:l=-(L:Int):=by omega
     rw[e2,Rat.intCast_neg,Rat.intCast_natCast]
    rw[this];exact Rat.le_refl) t (fun a ha=>by
   obtain ⟨k,hk,rfl⟩:=List.getElem_of_mem ha
   have h1:=hst_ge (ptrim Q) (plen Q-1) k (by omega)
   rw[<- hH,ht,h,List.getD_eq_getElem?_getD,List.getElem?_append_left hk,List.getElem?_eq_getElem hk] at h1
   have h3:(t[k]).natAbs<=L*c1:=by simpa using Nat.le_trans h1 hf
   have h4:=rat_abs_le h3
   have e:((L:Nat):Rat)*(((cbn Q:Nat):Rat)-1)=((L*c1:Nat):Rat):=by
    rw[hc,Rat.natCast_mul,Rat.natCast_add]
    have e1:((1:Nat):Rat)=1:=rfl
    rw[e1]
    grind
   rw[e]
   exact h4)
  rw[<- h] at hb
  rcases hb with hb | hb
  ·left;grind
  ·right;grind
theorem root_in {Q:List Int} (ht:ptrim Q=Q) (h2:plen Q≠0) {x:Pt} (hx:sgp Q x=0):Pt.of (-((cbn Q:Nat):Rat))<x/\x<Pt.of ((cbn Q:Nat):Rat):=by
 obtain ⟨l,u,hn,hs⟩:=sgf_sml (lp_pv Q) hx (1 / 2) (by grind)
 have hlu:=Pt.lu hn.1 hn.2
 have hfar:∀ q:Rat,((cbn Q:Nat):Rat)<=q∨q<=-((cbn Q:Nat):Rat)->1<=pv Q q∨pv Q q<=-1:=fun q hq=>pv_far ht h2 hq
 generalize ((cbn Q:Nat):Rat)=c at *
 constructor
 ·rw[Pt.of_lt]
  refine Classical.byContradiction fun hc=>?_
  have h1:=Pt.nlt hn.1 hc
  obtain ⟨q,hq1,hq2,hq3⟩:∃ q,l<q/\q<u/\q<=-c:=by
   rcases (Rat.le_total:u<=-c∨-c<=u) with h | h
   ·exact ⟨(l+u) / 2,by grind,by grind,by grind⟩
   ·exact ⟨(l + -c) / 2,by grind,by grind,by grind⟩
  have h3:=hs q hq1 hq2
  rcases hfar q (.inr hq3) with h4 | h4<;>grind
 ·rw[Pt.lt_of]
  refine Classical.byContradiction fun hc=>?_
  have h1:c<u:=Rat.not_le.1 fun h=>hc (hn.2.le h)
  obtain ⟨q,hq1,hq2,hq3⟩:∃ q,l<q/\q<u/\c<=q:=by
   rcases (Rat.le_total:l<=c∨c<=l) with h | h
   ·exact ⟨(c+u) / 2,by grind,by grind,by grind⟩
   ·exact ⟨(l+u) / 2,by grind,by grind,by grind⟩
  have h3:=hs q hq1 hq2
  rcases hfar q (.inl hq3) with h4 | h4<;>grind
structure Dy (K i:Nat) (a:Fq):Prop where
 p:0<a.q
 d:a.q∣2^i
 z:a.z.natAbs<=K*a.q
theorem Dy.up {K i:Nat} {a:Fq} (h:Dy K i a):Dy K (i+1) a:=⟨h.p,by rw[Nat.pow_succ];exact Nat.dvd_trans h.d (Nat.dvd_mul_right _ _),h.z⟩
theorem Dy.mid {K i:Nat} {a b:Fq} (ha:Dy K i a) (hb:Dy K i b):Dy K (i+1) (a.mid b):=by
 obtain ⟨Z,hZ⟩:∃ Z,Z=a.z*(b.q:Int)+b.z*(a.q:Int):=⟨_,rfl⟩
 obtain ⟨D,hD⟩:∃ D,D=a.q*b.q*2:=⟨_,rfl⟩
 have hD0:0<D:=by rw[hD];exact Nat.mul_pos (Nat.mul_pos ha.p hb.p) (by decide)
 obtain ⟨_,hp,hg⟩:=Go.Proofs.YtpeiiomjnjemjaaGreat.nf_v (z:=Z) hD0
 have ez:(a.mid b).z=rz Z D:=by rw[hZ,hD];rfl
 have eq:(a.mid b).q=rq Z D:=by rw[hZ,hD];rfl
 obtain ⟨g,hgd⟩:∃ g,g=Nat.gcd Z.natAbs D:=⟨_,rfl⟩
 have hg0:0<g:=by rw[hgd];exact Nat.gcd_pos_of_pos_right _ hD0
 have d1:(g:Int)∣Z:=by rw[hgd,<- Int.natAbs_dvd_natAbs,Int.natAbs_natCast];exact Nat.gcd_dvd_left _ _
 have d2:g∣D:=by rw[hgd];exact Nat.gcd_dvd_right _ _
 obtain ⟨Z',hZ'⟩:=d1
 obtain ⟨D',hD'⟩:=d2
 have e1:rz Z D=Z':=by unfold rz;rw[<- hgd,hZ',Int.mul_tdiv_cancel_left _ (by omega)]
 have e2:rq Z D=D':=by unfold rq;rw[<- hgd,hD',Nat.mul_div_cancel_left _ hg0]
 rw[e1,e2] at hg
 rw[e2] at hp
 obtain ⟨x,hx⟩:=ha.d
 obtain ⟨y,hy⟩:=hb.d
 have hxI:(2:Int)^i=(a.q:Int)*(x:Int):=by rw[<- Int.natCast_mul,<- hx];simp
 have hyI:(2:Int)^i=(b.q:Int)*(y:Int):=by rw[<- Int.natCast_mul,<- hy];simp
 have key:Z'*(2:Int)^(i+1)=(D':Int)*(a.z*x+b.z*y):=by
  refine Int.eq_of_mul_eq_mul_left (a:=(g:Int)) (by omega) ?_
  have k1:(g:Int)*(Z'*(2:Int)^(i+1))=Z*2^(i+1):=by rw[hZ',Int.mul_assoc]
  have k2:(g:Int)*((D':Int)*(a.z*x+b.z*y))=(D:Int)*(a.z*x+b.z*y):=by rw[hD',Int.natCast_mul,Int.mul_assoc]
  rw[k1,k2,hZ,hD,Int.pow_succ,Int.natCast_mul,Int.natCast_mul]
  have e3:((2:Nat):Int)=2:=rfl
  rw[e3]
  generalize (2:Int)^i=P at hxI hyI ⊢
  generalize (a.q:Int)=s at *
  generalize (b.q:Int)=t at *
  generalize (x:Int)=u at *
  generalize (y:Int)=v at *
  generalize a.z=m at *
  generalize b.z=n at *
  have h1:m*t*P=m*t*(s*u):=by rw[hxI]
  have h2:n*s*P=n*s*(t*v):=by rw[hyI]
  grind
 refine ⟨by rw[eq,e2];exact hp,?_,?_⟩
 ·rw[eq,e2]
  refine Nat.Coprime.dvd_of_dvd_mul_left (m:=Z'.natAbs) (by rw[Nat.coprime_comm];exact hg) ?_
  have h3:=congrArg Int.natAbs key
  rw[Int.natAbs_mul,Int.natAbs_mul,Int.natAbs_natCast,Int.natAbs_pow] at h3
  exact ⟨_,h3⟩
 ·rw[ez,eq,e1,e2]
  refine Nat.le_of_mul_le_mul_left (?_:g*Z'.natAbs<=g*(K*D')) hg0
  have h1:g*Z'.natAbs=Z.natAbs:=by rw[hZ',Int.natAbs_mul,Int.natAbs_natCast]
  have h2:g*(K*D')=K*D:=by rw[hD',Nat.mul_left_comm]
  rw[h1,h2,hZ,hD]
  refine Nat.le_trans (Int.natAbs_add_le _ _) ?_
  rw[Int.natAbs_mul,Int.natAbs_mul,Int.natAbs_natCast,Int.natAbs_natCast]
  have h3:=Nat.mul_le_mul_right b.q ha.z
  have h4:=Nat.mul_le_mul_right a.q hb.z
  have h5:K*(a.q*b.q*2)=K*a.q*b.q+K*b.q*a.q:=by
   rw[Nat.mul_two,Nat.mul_add,<- Nat.mul_assoc,Nat.mul_assoc K b.q,Nat.mul_comm b.q a.q,<- Nat.mul_assoc]
  omega
theorem Dy.fqb {K i N:Nat} {a:Fq} (h:Dy K i a) (hi:i<=N) (hN:(K+1)*2^N<=ZB):FqB a:=by
 have h1:a.q<=2^i:=Nat.le_of_dvd (Nat.pow_pos (by decide)) h.d
 have h2:a.q<=2^N:=Nat.le_trans h1 (Nat.pow_le_pow_right (by decide) hi)
 have h3:K*a.q<=K*2^N:=Nat.mul_le_mul_left _ h2
 have h4:=h.z
 rw[Nat.add_mul,Nat.one_mul] at hN
 have h5:0<2^N:=Nat.pow_pos (by decide)
 exact ⟨h.p,by omega,by omega⟩
theorem is_fit {Q:List Int} {PS:List (List Int)} {K N:Nat} (hN:(K+1)*2^N<=ZB):∀ (n i:Nat) (a b:Fq),IsOK Q PS n a b->Dy K i a->Dy K i b->i+n<=N+1->IsFit Q PS n a b
 | 0,_,_,_,h,_,_,_=>h.elim
 | n+1,i,a,b,h,ha,hb,hi=>by
   refine ⟨ha.fqb (by omega) hN,hb.fqb (by omega) hN,?_⟩
   rcases h with h | h | ⟨h1,h2⟩
   ·exact .inl h
   ·exact .inr (.inl h)
   ·have hn:0<n:=by
     rcases Nat.eq_zero_or_pos n with e | e
     ·subst e;exact h1.elim
     ·exact e
    have hm:=ha.mid hb
    exact .inr (.inr ⟨hm.fqb (by omega) hN,is_fit hN n (i+1) _ _ h1 ha.up hm (by omega),is_fit hN n (i+1) _ _ h2 hm hb.up (by omega)⟩)
noncomputable def NN:Nat:=Classical.choose (⟨36300,rfl⟩:∃ n:Nat,n=36300)
theorem NN_eq:NN=36300:=Classical.choose_spec (⟨36300,rfl⟩:∃ n:Nat,n=36300)
noncomputable def nroots (Q:List Int):List (Fq×Fq):=isl Q (pchain 15 Q (pder Q)) (NN+1) ⟨-((cbn Q:Nat):Int),1⟩ ⟨((cbn Q:Nat):Int),1⟩
section
variable {Q:List Int}
theorem cbn_le (h:SqF Q 16):cbn Q<=BB^17:=by
 have hb:hst (ptrim Q) (plen Q-1)<=BB^16:=hst_bd (fun k=>by rw[ptrim_getD];exact h.b k) _
 have hc:=(cdiv_facts (hst (ptrim Q) (plen Q-1)) (plead_tr h.q0)).2
 unfold cbn
 have h1:2*BB^16<=BB^17:=bbk_mul (by decide)
 have h2:0<BB^16:=Nat.pow_pos BB_pos
 omega
theorem nn_sep (h:SqF Q 16):sepD 16 ((cbn Q:Nat):Rat)*(((cbn Q:Nat):Rat) - -((cbn Q:Nat):Rat))<(2:Rat)^NN:=by
 obtain ⟨c,hc⟩:∃ c,c=cbn Q:=⟨_,rfl⟩
 have hcl:c<=BB^17:=by rw[hc];exact cbn_le h
 rw[<- hc]
 obtain ⟨A,hA⟩:∃ A:Nat,A=650:=⟨_,rfl⟩
 obtain ⟨B,hB⟩:∃ B:Nat,B=221:=⟨_,rfl⟩
 have hc10:c^13<=BB^B:=by
  have:=Nat.pow_le_pow_left hcl 13
  rw[<- Nat.pow_mul] at this
  exact Nat.le_trans this (bbk_le (by omega))
 have hn:(2*(13*BB^A*c^13)*(169*BB^22*c^13)+1)*(c+c)<2^NN:=by
  have h1:13*BB^A*c^13<=13*BB^A*BB^B:=Nat.mul_le_mul_left _ hc10
  have h2:169*BB^22*c^13<=169*BB^22*BB^B:=Nat.mul_le_mul_left _ hc10
  have h3:2*(13*BB^A*c^13)*(169*BB^22*c^13)<=2*(13*BB^A*BB^B)*(169*BB^22*BB^B):=Nat.mul_le_mul (Nat.mul_le_mul_left _ h1) h2
  obtain ⟨C,hC⟩:∃ C:Nat,C=A+B+(22+B):=⟨_,rfl⟩
  have e3:2*(13*BB^A*BB^B)*(169*BB^22*BB^B)=4394*BB^C:=by
   rw[hC,Nat.pow_add BB (A+B),Nat.pow_add BB A,Nat.pow_add BB 22]
   generalize BB^A=p
   generalize BB^B=q
   generalize BB^22=r
   grind
  rw[e3] at h3
  have h4:4394*BB^C+1<=BB^(C+1):=by
   have h5:4395*BB^C<=BB^(C+1):=bbk_mul (by decide)
   have h6:0<BB^C:=Nat.pow_pos BB_pos
   omega
  have h7:c+c<=BB^18:=by
   have h5:2*BB^17<=BB^18:=bbk_mul (by decide)
   omega
  have h8:=Nat.mul_le_mul (Nat.le_trans (Nat.add_le_add_right h3 1) h4) h7
  rw[<- Nat.pow_add] at h8
  refine Nat.lt_of_le_of_lt h8 ?_
  rw[bb_two]
  exact Nat.pow_lt_pow_right (by decide) (by rw[NN_eq];omega)
 have hr:=Rat.natCast_lt_natCast.2 hn
 have e2:(((2:Nat)^NN:Nat):Rat)=(2:Rat)^NN:=by rw[Rat.natCast_pow];rfl
 rw[e2] at hr
 have heq:sepD 16 ((c:Nat):Rat)*(((c:Nat):Rat) - -((c:Nat):Rat))=(((2*(13*BB^A*c^13)*(169*BB^22*c^13)+1)*(c+c):Nat):Rat):=by
  unfold sepD
  rw[show 26*(16+9)=A by omega]
  simp only[Rat.natCast_mul,Rat.natCast_add,Rat.natCast_pow,show 16+6=22 from rfl]
  have n1:((1:Nat):Rat)=1:=rfl
  have n2:((2:Nat):Rat)=2:=rfl
  have n3:((13:Nat):Rat)=13:=rfl
  have n4:((169:Nat):Rat)=169:=rfl
  rw[n1,n2,n3,n4]
  grind
 rw[heq]
 exact hr
theorem nn_zb (h:SqF Q 16):(cbn Q+1)*2^NN<=ZB:=by
 have h1:=cbn_le h
 have h2:cbn Q+1<=BB^18:=by
  have h5:2*BB^17<=BB^18:=bbk_mul (by decide)
  have h6:0<BB^17:=Nat.pow_pos BB_pos
  omega
 obtain ⟨E,hE⟩:∃ E:Nat,E=1135:=⟨_,rfl⟩
 have h3:2^NN<=BB^E:=by
  rw[bb_two]
  exact Nat.pow_le_pow_right (by decide) (by rw[NN_eq];omega)
 refine Nat.le_trans (Nat.mul_le_mul h2 h3) ?_
 rw[<- Nat.pow_add]
 exact bbk_le (by rw[ZK_eq];omega)
theorem end_v (c:Nat):(⟨-((c:Nat):Int),1⟩:Fq).v=-((c:Nat):Rat)/\(⟨((c:Nat):Int),1⟩:Fq).v=((c:Nat):Rat):=by
 unfold Fq.v
 have e:(((1:Nat):Nat):Rat)=1:=rfl
 constructor
 ·show ((-((c:Nat):Int):Int):Rat) / ((1:Nat):Rat)=_
  rw[e,Rat.intCast_neg,Rat.intCast_natCast]
  grind
 ·show ((((c:Nat):Int):Int):Rat) / ((1:Nat):Rat)=_
  rw[e,Rat.intCast_natCast]
  grind
theorem cbn_pos (Q:List Int):1<=cbn Q:=by unfold cbn;exact Nat.le_add_right 1 _
theorem roots_fit (h:SqF Q 16):IsFit Q (pchain 15 Q (pder Q)) (NN+1) ⟨-((cbn Q:Nat):Int),1⟩ ⟨((cbn Q:Nat):Int),1⟩/\IsOK Q (pchain 15 Q (pder Q)) (NN+1) ⟨-((cbn Q:Nat):Int),1⟩ ⟨((cbn Q:Nat):Int),1⟩:=by
 have hv:=end_v (cbn Q)
 have hc1:(1:Rat)<=((cbn Q:Nat):Rat):=by exact_mod_cast cbn_pos Q
 have hok:=is_ok h (by decide) hc1 NN ⟨-((cbn Q:Nat):Int),1⟩ ⟨((cbn Q:Nat):Int),1⟩ Nat.one_pos Nat.one_pos (by rw[hv.1,hv.2];grind) (by rw[hv.1];exact Rat.le_refl) (by rw[hv.2];exact Rat.le_refl) (by rw[hv.1,hv.2];exact nn_sep h)
 exact ⟨is_fit (nn_zb h) _ 0 _ _ hok ⟨Nat.one_pos,by simp,by simp⟩ ⟨Nat.one_pos,by simp,by simp⟩ (by omega),hok⟩
theorem roots_isl (h:SqF Q 16) {xs:List Pt} (hx:Lst (fun x=>sgp Q x=0) xs):Isl Q xs (nroots Q) (-((cbn Q:Nat):Rat)) ((cbn Q:Nat):Rat):=by
 have hv:=end_v (cbn Q)
 have hc1:(1:Rat)<=((cbn Q:Nat):Rat):=by exact_mod_cast cbn_pos Q
 have hi:=isl_spec h (by decide) (NN+1) ⟨-((cbn Q:Nat):Int),1⟩ ⟨((cbn Q:Nat):Int),1⟩ Nat.one_pos Nat.one_pos (by rw[hv.1,hv.2];grind) (roots_fit h).2 xs (hx.congr fun x=>⟨fun e=>?_,fun e=>e.1⟩)
 ·rw[hv.1,hv.2] at hi
  exact hi
 ·have:=root_in h.t h.q0 e
  unfold Fq.p
  rw[hv.1,hv.2]
  exact ⟨e,this.1,this.2⟩
end
end Go.Proofs.YtpeiiomjnjemjaaGreat
namespace Go.Proofs.YtpeiiomjnjemjaaGreat
open Go Go.RowKit
structure RtsAt (w:World) (A:Option Addr) (l c:Nat) (rs:List (Fq×Fq)):Prop where
 length:rs.length=l
 cap:l<=c
 elems:(l=0/\A=none/\c=0)∨∃ b o,A=some ⟨b,o,none⟩/\b<w.heap.size/\Vals w b o rs
theorem RtsAt.below {w w':World} {A:Option Addr} {l c:Nat} {rs:List (Fq×Fq)} (h:RtsAt w A l c rs) (hb:Below w.heap.size w w'):RtsAt w' A l c rs:=by
 refine ⟨h.length,h.cap,?_⟩
 rcases h.elems with h0 | ⟨b,o,hA,hlt,hv⟩
 ·exact .inl h0
 ·exact .inr ⟨b,o,hA,Nat.lt_of_lt_of_le hlt hb.size,hv.below hlt hb⟩
noncomputable def proots (f:List Int):List (Fq×Fq):=if plen (qpart f)<2 then [] else nroots (qpart f)
theorem FndV.rts {B gs:Nat} {w:World} {F:Value} {rs:List (Fq×Fq)} (h:FndV B gs w F rs):∃ A l c,F=.slice A l c/\RtsAt w A l c rs:=by
 rcases h with ⟨h1,h2⟩ | ⟨g,cap,h1,h2,h3,h4,h5⟩
 ·subst h1
  exact ⟨_,_,_,h2,rfl,Nat.le_refl _,.inl ⟨rfl,rfl,rfl⟩⟩
 ·exact ⟨_,_,_,h1,rfl,h2.le,.inr ⟨g,0,rfl,h2.lt,h4⟩⟩
theorem SqF.cau {Q:List Int} (h:SqF Q 16):CauSz Q:=by
 have hb:hst (ptrim Q) (plen Q-1)<=BB^16:=hst_bd (fun k=>by rw[ptrim_getD];exact h.b k) _
 have hl:(plead (ptrim Q)).natAbs<=BB^16:=by rw[h.t];exact h.b _
 have hc:=(cdiv_facts (hst (ptrim Q) (plen Q-1)) (plead_tr h.q0)).2
 have hf:=flq_neg (hst (ptrim Q) (plen Q-1)) (plead_tr h.q0)
 have h1:4*BB^16<=BB^17:=bbk_mul (by decide)
 have h2:1<=BB^16:=Nat.pow_pos BB_pos
 have h3:BB^17<BB^18:=Nat.pow_lt_pow_right (by rw[BB_eq];decide) (by decide)
 refine ⟨sm_pow (k:=18) (by omega) (by decide),sm_pow (k:=18) (by omega) (by decide),sm_pow (k:=18) ?_ (by decide)⟩
 generalize flq (-((hst (ptrim Q) (plen Q-1):Nat):Int)) ((plead (ptrim Q)).natAbs:Nat)=y at hf ⊢
 generalize (hst (ptrim Q) (plen Q-1)+(plead (ptrim Q)).natAbs-1) / (plead (ptrim Q)).natAbs=x at hf hc
 omega
theorem SqF.der {Q:List Int} {k:Nat} (h:SqF Q k) (hk:k<=31):CP (pder Q) :=
 ⟨by have:=plen_pder Q;have:=h.len;omega,fun j=>Nat.le_trans (pder_abs (by have:=h.len;omega) h.b j) (bbk_le (by omega))⟩
theorem SqF.ctx {Q:List Int} (h:SqF Q 16) {W0:World} {Ap:Option Addr} {lp cp:Nat} {Ac:Option Addr} {lc cc:Nat} (hp:PolyN W0 Ap lp cp Q) (hc:PLst W0 Ac lc cc (pchain 15 Q (pder Q))):IsCtx Q (pchain 15 Q (pder Q)) W0 W0.heap.size Ap lp cp Ac lc cc:=by
 have hcp:=h.cp (by decide)
 obtain ⟨_,k2,_,k4⟩:=chain_all hcp (h.der (by decide))
 have hl:=h.lq
 have h1:=hp.length
 have h2:=hc.length
 exact ⟨hp,hc,by omega,by omega,Nat.le_refl _,fun p hp z q hz hq=>(k2 p hp).at hz hq,fun z q hz hq=>hcp.at hl hz hq⟩
theorem nroots_lt {Q:List Int} (h:SqF Q 16):(nroots Q).length+1<=plen Q:=by
 obtain ⟨xs,hx⟩:=roots_lst h.q0 (fun _=>True)
 have hx2:Lst (fun x=>sgp Q x=0) xs:=hx.congr fun x=>⟨fun e=>e.1,fun e=>⟨e,trivial⟩⟩
 rw[(roots_isl h hx2).length]
 have:=rts_le (plen Q-1) Q (by have:=h.q0;omega) xs hx2.1 fun x hx=>(hx2.2 x).1 hx
 have:=h.q0
 omega
theorem nroots_len {Q:List Int} (h:SqF Q 16):(nroots Q).length<=12:=by
 have:=nroots_lt h
 have:=h.len
 omega
structure RDone (W:World) (B0 gs:Nat) (P C:Value) (g5:Nat) (n5:Bool) (A5:Option Addr) (l5 c5:Nat) (B5:Option Addr) (m5 d5:Nat) (z5:Int) (q5:Nat) (R:List (Fq×Fq)) (w':World):Prop where
 r5:RBox w' g5 n5 A5 l5 c5 B5 m5 d5 z5 q5
 fr:FrS gs gs W w'
 f:∃ F',Blk w' gs 61 #[P,C,F']/\FndV B0 gs w' F' R
theorem r_done {W W1 w':World} {B0 gs g5:Nat} {P C:Value} {n5:Bool} {A5 B5:Option Addr} {l5 c5 m5 d5 q5:Nat} {z5:Int} {R:List (Fq×Fq)} {F':Value} (hb:Below W.heap.size W W1) (hB:Blk W gs 61 #[P,C,.slice none 0 0]) (hP:NoDigit P) (hC:NoDigit C) (hfr:FrS gs (fbk gs (.slice none 0 0)) W1 w') (hB':Blk w' gs 61 #[P,C,F']) (hF:FndV B0 gs w' F' ([] ++ R))
  (r5:RBox W g5 n5 A5 l5 c5 B5 m5 d5 z5 q5) (h5:g5≠gs):RDone W B0 gs P C g5 n5 A5 l5 c5 B5 m5 d5 z5 q5 R w':=by
 have hB1:=hB.below hb hB.lt
 obtain ⟨nd1,nd2⟩:=fndv_ndb (B:=0) (rs:=[]) hB1 hP hC (.inl ⟨rfl,rfl⟩)
 exact ⟨(r5.move hb).frs hfr nd1 nd2 h5 h5,FrS.trans (FrS.of_below hb) hfr (.inl rfl),F',hB',hF⟩
set_option maxRecDepth 100000 in
set_option maxHeartbeats 8000000 in
theorem roots_any {I:IntPred} (hI:IK I) (A:Option Addr) (la ca:Nat) (f:List Int) (w:World) (hf:PolyP I w A la ca f) (sf:SmP f) (hq:plen f≠0->QOK f) (hs:plen f≠0->SqF (qpart f) 16) (hla:la<=1000000) :
  Calls Tryz.prog 12 #[.slice A la ca] w fun e w'=>(∃ A' l' c',e=.returned (.slice A' l' c')/\RtsAt w' A' l' c' (proots f))/\Below w.heap.size w w':=by
 obtain ⟨Q,hQ⟩:∃ Q,Q=qpart f:=⟨_,rfl⟩
 have hlq:Q.length<=13:=by
  rw[hQ]
  by_cases h0:plen f=0
  ·rw[qpart_nil h0];exact Nat.zero_le _
  ·exact (hs h0).lq
 have sq:SmP Q:=by
  rw[hQ]
  by_cases h0:plen f=0
  ·rw[qpart_nil h0];intro c hc;simp at hc
  ·exact ((hs h0).fit (by decide)).smp
 have HQ:=Lh hQ
 have Hs:=Lh hs
 clear hQ hs
 go_enter Tryz.func12,Tryz.ntmps12
 go_wp2_with fail
 refine (part_q hI _ _ _ _ _ hf sf hq hla).mono ?_
 rintro e w1 ⟨A1,l1,c1,rfl,h1,hb1⟩
 rw[<- HQ.out] at h1
 have hl1:l1<=13:=by have:=h1.length;omega
 have H1:=Lh h1
 have Hb:=Lh hb1
 clear hf h1 hb1 hq
 go_wp2_with fail
 refine (degree_any _ _ _ _ _ (H1.out.at_ ikN) sq (by omega)).mono ?_
 rintro e w2 ⟨rfl,hb2⟩
 replace H1:=Lh (H1.out.below ikN hb2)
 replace Hb:=Lh (Hb.out.trans (hb2.mono Hb.out.size))
 obtain ⟨D,hD⟩:∃ D,D=((plen Q:Nat):Int)-1:=⟨_,rfl⟩
 rw[<- hD]
 have HD:=Lh hD
 clear hb2 hD
 by_cases hlt:plen Q<2
 ·have b1:decide (D<1)=true:=decide_eq_true (by have:=HD.out;omega)
  have hr:proots f=[]:=by unfold proots;rw[<- HQ.out,if_pos hlt]
  have Hr:=Lh hr
  clear hr hlt
  go_wp2_with fail
  go_ret
  exact ⟨⟨_,_,_,rfl,by rw[Hr.out];exact ⟨rfl,Nat.le_refl _,.inl ⟨rfl,rfl,rfl⟩⟩⟩,Hb.out⟩
 have b1:decide (D<1)=false:=decide_eq_false (by have:=HD.out;omega)
 have hr:proots f=nroots Q:=by unfold proots;rw[<- HQ.out,if_neg hlt]
 have Hr:=Lh hr
 have hf0:plen f≠0:=fun h0=>by
  have:=qpart_nil h0
  rw[<- HQ.out] at this
  rw[this] at hlt
  exact hlt (by decide)
 have hS:SqF Q 16:=by have:=Hs.out hf0;rwa [<- HQ.out] at this
 have hcp:=hS.cp (k:=16) (by decide)
 have hcd:=hS.der (by decide)
 have hok:=(chain_all hcp hcd).1
 have hcl:=(chain_all hcp hcd).2.2.1
 obtain ⟨PS,hPS⟩:∃ PS,PS=pchain 15 Q (pder Q):=⟨_,rfl⟩
 have HPS:=Lh hPS
 have HS:=Lh hS
 have sqd:=hcd.fit.smp
 have p2:2<=plen Q:=by omega
 clear hr hlt HD hf0 hS hcp hcd hPS
 go_wp2_with fail
 refine (sturmof_any _ _ _ _ _ H1.out sq sqd (by omega) 15 hok (by omega)).mono ?_
 rintro e w4 ⟨A4,l4,c4,rfl,h4,hb4⟩
 replace H1:=Lh (H1.out.below ikN hb4)
 replace Hb:=Lh (Hb.out.trans (hb4.mono Hb.out.size))
 have ctx:=HS.out.ctx H1.out h4
 have spl:=iso_any ctx _ _ _ (roots_fit HS.out).1
 have hR2:nroots Q=isl Q PS (NN+1) ⟨-((cbn Q:Nat):Int),1⟩ ⟨((cbn Q:Nat):Int),1⟩:=by unfold nroots;rw[<- HPS.out]
 rw[<- HPS.out] at ctx spl h4
 obtain ⟨R,hR⟩:∃ R,R=isl Q PS (NN+1) ⟨-((cbn Q:Nat):Int),1⟩ ⟨((cbn Q:Nat):Int),1⟩:=⟨_,rfl⟩
 rw[<- hR] at hR2 spl
 have hRl:([]:List (Fq×Fq)).length+R.length<=1000000:=by
  have:=nroots_len HS.out
  rw[hR2] at this
  simp only[List.length_nil]
  omega
 have HR2:=Lh hR2
 have SPL:=Lh spl
 have Ctx:=Lh ctx
 have e3:∀ (z:Int) (q:Nat),(((vst (PS.map (sat z q)) l4).1:Nat):Int)=((Fq.chg PS ⟨z,q⟩:Nat):Int):=fun z q=>by rw[<- h4.length];rfl
 have E3:=Lh e3
 have hl4:=ctx.lc
 clear spl hR2 hR e3
 have jb:=below_new w4 (.cells #[.slice A1 l1 c1,.slice A4 l4 c4,.slice none 0 0] 61)
 have hbk:Blk (w4.alloc (.cells #[.slice A1 l1 c1,.slice A4 l4 c4,.slice none 0 0] 61)) w4.heap.size 61 #[.slice A1 l1 c1,.slice A4 l4 c4,.slice none 0 0]:=Blk.new _ _ _
 have HB:=Lh hbk
 have Hw0:=Lh jb
 have hgw:=Hb.out.size
 replace H1:=Lh (H1.out.below ikN jb)
 replace Hb:=Lh (Hb.out.trans (jb.mono Hb.out.size))
 clear hb4 jb hbk h4 ctx hok hcl
 go_wp2_with fail
 obtain ⟨wa,hwa⟩:∃ wa,wa=w4.alloc (.cells #[.slice A1 l1 c1,.slice A4 l4 c4,.slice none 0 0] 61):=⟨_,rfl⟩
 obtain ⟨gs,hgs⟩:∃ gs,gs=w4.heap.size:=⟨_,rfl⟩
 rw[<- hwa,<- hgs]
 rw[<- hwa,<- hgs] at HB
 rw[<- hwa] at H1 Hb Hw0
 rw[<- hgs] at hgw SPL Ctx
 have Hgs:=Lh hgs
 clear hwa hgs
 refine (cau_any ikN _ _ _ _ _ H1.out sq (by omega) (fun _=>HS.out.cau)).mono ?_
 rintro e w3 ⟨n3,A3,l3,c3,rfl,h3,hb3⟩
 rw[cau_cbn p2] at h3
 obtain ⟨c,hc⟩:∃ c,c=cbn Q:=⟨_,rfl⟩
 rw[<- hc] at h3 SPL
 have Hc:=Lh hc
 replace HB:=Lh (HB.out.below hb3 HB.out.lt)
 replace Hw0:=Lh (Hw0.out.trans (hb3.mono Hw0.out.size))
 replace Hb:=Lh (Hb.out.trans (hb3.mono Hb.out.size))
 have fB:FqB ⟨((c:Nat):Int),1⟩:=by
  have:=(roots_fit HS.out).1.2.1
  rwa [<- hc] at this
 have fA:FqB ⟨-((c:Nat):Int),1⟩:=by
  have:=(roots_fit HS.out).1.1
  rwa [<- hc] at this
 have H3:=Lh h3
 have fc:Fit ((c:Nat):Int):=fB.fz
 have f1:Fit (((1:Nat):Int)):=fB.fq
 clear h3 hb3 H1 hc
 go_wp2_with fail
 refine (rfrom_any _ _ _ _ _ _ H3.out.at_ fc.sm).mono ?_
 rintro e w5 ⟨⟨n5,A5,l5,c5,B5,m5,d5,rfl,h5,k5⟩,hb5⟩
 have jb:=below_new w5 (rbox n5 A5 l5 c5 B5 m5 d5)
 have hbj:=hb5.trans (jb.mono hb5.size)
 have r5:=RBox.make h5 k5
 have hgl4:gs<w5.heap.size:=Nat.lt_of_lt_of_le HB.out.lt hb5.size
 replace HB:=Lh (HB.out.below hbj HB.out.lt)
 replace Hw0:=Lh (Hw0.out.trans (hbj.mono Hw0.out.size))
 replace Hb:=Lh (Hb.out.trans (hbj.mono Hb.out.size))
 have x0:=r5.c0
 have x1:=r5.c1
 have x2:=r5.c2
 have R5:=Lh r5
 clear h5 k5 hb5 jb hbj r5 H3
 go_upto_region 6 with (fail)
 obtain ⟨wk,hwk⟩:∃ wk,wk=w5.alloc (rbox n5 A5 l5 c5 B5 m5 d5):=⟨_,rfl⟩
 obtain ⟨g5,e5⟩:∃ g,g=w5.heap.size:=⟨_,rfl⟩
 have hg5:gs<g5:=by rw[e5];exact hgl4
 rw[<- hwk,<- e5] at R5 x0 x1 x2
 rw[<- hwk] at HB Hb Hw0 ⊢
 rw[<- e5]
 clear hwk e5 hgl4
 have l5':=R5.out.lt
 have e1:(-((c:Nat):Int)).tdiv ((Nat.gcd ((c:Nat):Int).natAbs 1:Nat):Int)=-((c:Nat):Int):=by rw[Nat.gcd_one_right];exact Int.tdiv_one _
 have e2:1 / Nat.gcd ((c:Nat):Int).natAbs 1=1:=by rw[Nat.gcd_one_right]
 have E1:=Lh e1
 have E2:=Lh e2
 have hgu5:g5≠gs:=by omega
 have Hp:=Lh (Ctx.out.hp.below ikN Hw0.out)
 have Hc4:=Lh (Ctx.out.hc.below Hw0.out)
 clear e1 e2
 go_region_held3 (fun w'=>w'.cell? ⟨g5,0,none⟩=some (.bool n5)/\w'.cell? ⟨g5,1,none⟩=some (.slice A5 l5 c5)/\w'.cell? ⟨g5,2,none⟩=some (.slice B5 m5 d5)) (go_keep) (first
  | (go_at_call 29;go_must (refine (ratneg_any _ _ _ _ _ _ _ _ _ _ ?_ ?_ fc f1 Nat.one_pos).mono ?_;(exact R5.out.hz.below Bel.go);(exact R5.out.hq.below Bel.go);rintro e w6 ⟨⟨n6,A6,l6,c6,B6,m6,d6,rfl,h6,k6⟩,hb6⟩;rw[E1.out] at h6;rw[E2.out] at k6;have H6:=Lh (And.intro h6 k6);have G6:Hid (Below wk.heap.size wk w6):=Lh (Below.trans Bel.go (hb6.mono (by simp<;>omega)));obtain ⟨hcx,hfx⟩:=bcellS hb6;have i0:World.cell? w6 ⟨g5,0,none⟩=some (.bool n5):=(hcx _ (by go_simp)).trans (by go_simp);have i1:World.cell? w6 ⟨g5,1,none⟩=some (.slice A5 l5 c5):=(hcx _ (by go_simp)).trans (by go_simp);have i2:World.cell? w6 ⟨g5,2,none⟩=some (.slice B5 m5 d5):=(hcx _ (by go_simp)).trans (by go_simp);clear hcx hfx hb6 h6 k6))
  | (go_at_call 28;(have _hx:=G7);go_must (refine (mark_any Q PS gs A1 l1 c1 A4 l4 c4 (.slice none 0 0) _ _ _ _ _ _ _ 1 (((c:Nat):Int)) _ ?_ ?_ ?_ (by omega) (by omega) ?_ ?_ fB.at (fun p hp=>Ctx.out.el p hp _ _ fB.z fB.q) (Ctx.out.eq _ _ fB.z fB.q)).mono ?_;(exact (HB.out.below G7.out HB.out.lt).below Bel.go (HB.out.below G7.out HB.out.lt).lt);(exact (Hp.out.below ikN G7.out).below ikN Bel.go);(exact (Hc4.out.below G7.out).below Bel.go);(exact (R5.out.move G7.out).hz.below Bel.go);(exact (R5.out.move G7.out).hq.below Bel.go);rintro e w9 ⟨rfl,hb9⟩;have hbz:Below w7.heap.size w7 w9:=Below.trans Bel.go (hb9.mono (by simp<;>omega));have H9:=Lh (And.intro (H7.out.1.below hbz) (H7.out.2.below hbz));have G9:Hid (Below wk.heap.size wk w9):=Lh (G7.out.trans (hbz.mono G7.out.size));obtain ⟨hcx,hfx⟩:=bcellS hb9;have q0:World.cell? w9 ⟨g5,0,none⟩=some (.bool n5):=(hcx _ (by go_simp)).trans (by go_simp);have q1:World.cell? w9 ⟨g5,1,none⟩=some (.slice A5 l5 c5):=(hcx _ (by go_simp)).trans (by go_simp);have q2:World.cell? w9 ⟨g5,2,none⟩=some (.slice B5 m5 d5):=(hcx _ (by go_simp)).trans (by go_simp);clear hcx hfx hb9 hbz))
  | (go_at_call 28;go_must (refine (mark_any Q PS gs A1 l1 c1 A4 l4 c4 (.slice none 0 0) _ _ _ _ _ _ _ 1 (-((c:Nat):Int)) _ ?_ ?_ ?_ (by omega) (by omega) ?_ ?_ fA.at (fun p hp=>Ctx.out.el p hp _ _ fA.z fA.q) (Ctx.out.eq _ _ fA.z fA.q)).mono ?_;(exact (HB.out.below G6.out HB.out.lt).below Bel.go (HB.out.below G6.out HB.out.lt).lt);(exact (Hp.out.below ikN G6.out).below ikN Bel.go);(exact (Hc4.out.below G6.out).below Bel.go);(exact H6.out.1.below Bel.go);(exact H6.out.2.below Bel.go);rintro e w7 ⟨rfl,hb7⟩;have hbz:Below w6.heap.size w6 w7:=Below.trans Bel.go (hb7.mono (by simp<;>omega));have H7:=Lh (And.intro (H6.out.1.below hbz) (H6.out.2.below hbz));have G7:Hid (Below wk.heap.size wk w7):=Lh (G6.out.trans (hbz.mono G6.out.size));obtain ⟨hcx,hfx⟩:=bcellS hb7;have j0:World.cell? w7 ⟨g5,0,none⟩=some (.bool n5):=(hcx _ (by go_simp)).trans (by go_simp);have j1:World.cell? w7 ⟨g5,1,none⟩=some (.slice A5 l5 c5):=(hcx _ (by go_simp)).trans (by go_simp);have j2:World.cell? w7 ⟨g5,2,none⟩=some (.slice B5 m5 d5):=(hcx _ (by go_simp)).trans (by go_simp);clear hcx hfx hb7 hbz))
  | (go_at_call 27;go_must (refine (SPL.out (.slice none 0 0) [] _ _ _ _ _ _ _ _ _ _ _ _ _ _ _ _ _ _ (E3.out _ _) (E3.out _ _) rfl rfl _ hRl ?_ ?_ (Or.inl ⟨rfl,rfl⟩) ?_ ?_ ?_ ?_).mono ?_;(exact Below.trans (Hw0.out.trans (G9.out.mono Hw0.out.size)) (Below.mono Bel.go (Hw0.out.trans (G9.out.mono Hw0.out.size)).size));(exact (HB.out.below G9.out HB.out.lt).below Bel.go (HB.out.below G9.out HB.out.lt).lt);(exact H9.out.1.below Bel.go);(exact H9.out.2.below Bel.go);(exact (R5.out.move G9.out).hz.below Bel.go);(exact (R5.out.move G9.out).hq.below Bel.go);rintro e w12 ⟨⟨v12,rfl⟩,F',hB',hF',hfr,-⟩;have hst:=r_done (Below.trans G9.out (Below.mono Bel.go G9.out.size)) HB.out (noDigit_slice _ _ _) (noDigit_slice _ _ _) hfr hB' hF' R5.out hgu5;have ST:=Lh hst;have k0:=hst.r5.c0;have k1:=hst.r5.c1;have k2:=hst.r5.c2;clear hst hB' hF' hfr)))
 rename_i hHeld
 obtain ⟨F',hB',hF'⟩:=ST.out.f
 obtain ⟨A',l',c',rfl,hR⟩:=hF'.rts
 have y2:w12.cell? ⟨gs,2,none⟩=some (.slice A' l' c'):=(hB'.cell 2).trans rfl
 have hbf:Below w.heap.size w w12:=ST.out.fr.mono Hb.out hgw hgw Hb.out.size
 have Hbf:=Lh hbf
 have HR:=Lh hR
 have hgl:=hB'.lt
 clear hHeld hbf hR hB' hF' ST k0 k1 k2 i0 i1 i2 j0 j1 j2 q0 q1 q2 x0 x1 x2 G6 G7 G9 H6 H7 H9 R5 HB Hb Hw0 SPL Ctx Hp Hc4 E3
 go_wp2_with fail
 go_ret
 exact ⟨⟨_,_,_,rfl,by rw[Hr.out,HR2.out];exact HR.out⟩,Hbf.out⟩
end Go.Proofs.YtpeiiomjnjemjaaGreat
