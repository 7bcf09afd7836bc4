/- The walk of unidiv.Pseudo. -/
import Derived.Test.YtpeiiomjnjemjaaGreatIdP
namespace Go.Proofs.YtpeiiomjnjemjaaGreat
open Go.RowKit
theorem mulok_r {a b:Nat} (_h:dlen b<=FW):MulOK a b:=trivial
structure PsI (w wr:World) (gr gq gl:Nat) (nL:Bool) (AL:Option Addr) (lL cL:Nat) (lead:Int) (g:List Int) (d m N:Nat) (z0:List Int) (c:Nat):Prop where
 r:PRow wr gr (psn lead g d m N z0 (N-c)).2
 q:PRow wr gq (psn lead g d m N z0 (N-c)).1
 L:IBox wr gl nL AL lL cL lead
 below:Below w.heap.size w wr
set_option maxRecDepth 100000 in
set_option maxHeartbeats 4000000 in
theorem pseudo_any {I J:IntPred} (hI:IK I) (hJ:IK J) (A:Option Addr) (la ca:Nat) (f:List Int) (B:Option Addr) (lb cb:Nat) (g:List Int) (D:Nat) (w:World) (hf:PolyP I w A la ca f) (hg:PolyP J w B lb cb g) (fd:Dl D f) (fg:FitP g) (h1:1<=plen g) (hla:la<=1000000) (hlb:lb<=1000000) (hD:D<=1000000000) :
  Calls Tryz.prog 91 #[.slice A la ca,.slice B lb cb] w fun e w'=>∃ A1 l1 c1 A2 l2 c2,e=.returned (.tuple #[.slice A1 l1 c1,.slice A2 l2 c2,.int .i64 0])/\PolyN w' A1 l1 c1 (psq f g)/\PolyN w' A2 l2 c2 (psr f g)/\Below w.heap.size w w':=by
 obtain ⟨d,hd⟩:∃ d,plen g=d+1:=⟨plen g-1,by omega⟩
 obtain ⟨N,hN⟩:∃ N,N=plen f:=⟨_,rfl⟩
 have hNb:N<=1000000:=by have:=plen_le f;have:=hf.length;omega
 have hdb:d<lb:=by have:=plen_le g;have:=hg.length;omega
 have hsf:SmP f:=fd.smp (by omega)
 have hsg:SmP g:=fg.smp
 have HN:=Lh hN
 have Hd:=Lh hd
 have hd0:¬ ((d:Int)<0):=by omega
 go_enter Tryz.func91,Tryz.ntmps91
 go_wp2_with fail
 refine (degree_any _ _ _ _ _ (hg.at_ hJ) hsg (by omega)).mono ?_
 rintro e w1 ⟨rfl,hb1⟩
 rw[hd,show (((d+1:Nat):Int)-1)=(d:Int) by omega]
 have hf1:=hf.below hI hb1
 have hg1:=hg.below hJ hb1
 have Hb1:=Lh hb1
 have Hg:=Lh hg
 clear hf hg hb1 hd h1
 go_wp2_with fail
 refine (pnormal_any hI _ _ _ _ _ hf1 hsf (by omega)).mono ?_
 rintro e w2 ⟨gr,rfl,hr2,hgr,hb2⟩
 rw[<- hN]
 have hg2:=hg1.below hJ hb2
 have Hb2:=Lh (Hb1.out.trans (hb2.mono Hb1.out.size))
 have Hgr:=Lh (show w.heap.size<=gr by have:=Hb1.out.size;omega)
 clear hf1 hg1 hb2 hgr hN Hb1
 by_cases hle:N<=d
 ·have hle2:(N:Int)<=(d:Int):=by omega
  have hp:=hr2.poly (cap:=N) (by rw[ptrim_length,HN.out];exact Nat.le_refl _)
  rw[ptrim_length,<- HN.out] at hp
  have Hp:=Lh hp
  have Hle:=Lh hle
  clear hr2 hg2 hp hle
  go_wp2
  refine bodyPost_ret (v:=.tuple #[.slice none 0 0,.slice (some ⟨gr,0,none⟩) N N,.int .i64 0]) (by simp[results,Tryz.results91,go_sem]) rfl ⟨_,_,_,_,_,_,rfl,?_,?_,Hb2.out⟩
  ·unfold psq;rw[if_pos (by have:=HN.out;have:=Hd.out;have:=Hle.out;omega)];exact PolyP.nil _ _ _ _
  ·unfold psr;rw[if_pos (by have:=HN.out;have:=Hd.out;have:=Hle.out;omega)];exact Hp.out
 ·have hle2:¬ (N:Int)<=(d:Int):=by omega
  obtain ⟨m,hm⟩:∃ m,N=m+d:=⟨N-d,by omega⟩
  have hm1:1<=m:=by omega
  have hmi:(N:Int)-(d:Int)=(m:Int):=by omega
  have Hm:=Lh hm
  clear hle hm
  go_wp2_with fail
  refine (lead_any _ _ _ _ _ (hg2.at_ hJ) hsg (by omega)).mono ?_
  rintro e w3 ⟨nL,AL,lL,cL,rfl,hL3,hb3⟩
  have hba:Below w3.heap.size w3 (w3.alloc (ibox nL AL lL cL)):=(Below.refl _ _).alloc (Nat.le_refl _) _
  have Hr3:=Lh ((hr2.below hb3).below hba)
  have HL3:=Lh (IBox.make hL3)
  have Hb3:=Lh ((Hb2.out.trans (hb3.mono Hb2.out.size)).trans (hba.mono (Hb2.out.trans (hb3.mono Hb2.out.size)).size))
  have hlt3:gr<w3.heap.size:=Nat.lt_of_lt_of_le hr2.lt hb3.size
  obtain ⟨lead,hlead⟩:∃ l,l=plead g:=⟨_,rfl⟩
  have fl:Fit lead:=by rw[hlead];exact fg _
  rw[<- hlead] at HL3
  have Hlead:=Lh hlead
  clear hr2 hg2 hL3 hb3 hba Hb2 hlead
  go_wp2_with (at_make;refine wpList_make_poly _ rfl (.tmp 30) (.tmp 30) rfl m rfl rfl (by omega) ?_)
  intro w4 hq4 hb4 hsz4
  have hr4:=Hr3.out.below (hb4.mono (by simp))
  have hL4:=HL3.out.move (hb4.mono (by simp))
  have Hb4:=Lh (Hb3.out.trans (hb4.mono (by have:=Hb3.out.size;simpa using this)))
  have hgs:w3.heap.size+1<w4.heap.size:=by omega
  have hz0:(ptrim f).length=N:=by rw[ptrim_length,HN.out]
  have Hz0:=Lh hz0
  have fdt:Dl D (ptrim f):=fd.take _
  obtain ⟨z0,hz⟩:∃ z,z=ptrim f:=⟨_,rfl⟩
  rw[<- hz] at hr4 Hz0 fdt
  have Hz:=Lh hz
  have hinv:PsI w w4 gr (w3.heap.size+1) w3.heap.size nL AL lL cL lead g d m N z0 N:=⟨by rw[Nat.sub_self];exact hr4,by rw[Nat.sub_self];exact hq4,hL4,Hb4.out⟩
  obtain ⟨gl,hgl⟩:∃ g,g=w3.heap.size:=⟨_,rfl⟩
  obtain ⟨gq,hgq⟩:∃ g,g=gl+1:=⟨_,rfl⟩
  rw[<- hgl] at hinv hgs hlt3 ⊢
  rw[<- hgq] at hinv hgs ⊢
  have ne1:gr≠gl:=by omega
  have ne2:gr≠gq:=by omega
  have ne3:gl≠gq:=by omega
  have ne4:gl≠gr:=by omega
  have ne5:gq≠gr:=by omega
  have ne6:gq≠gl:=by omega
  have Hgl:=Lh (show w.heap.size<=gl by have:=Hgr.out;omega)
  have Hgq:=Lh (show w.heap.size<=gq by have:=Hgr.out;omega)
  have HI0:=Lh hinv
  clear hr4 hq4 hL4 Hb4 hinv hgl hgq hb4 hsz4 hgs hz0 hz Hr3 HL3 Hb3 hlt3
  go_wp2
  go_loopw [5,9] (fun r i wr=>∃ c,d<=c/\c<=N/\r=.slice (some ⟨gr,0,none⟩) c N/\i=.int .i64 ((c:Int)-1)/\PsI w wr gr gq gl nL AL lL cL lead g d m N z0 c) (fun _ i _=>(intOf i+1).toNat)
  case atStart=>exact ⟨N,by have:=Hm.out;omega,Nat.le_refl _,rfl,rfl,HI0.out⟩
  case round =>
   clear HI0
   obtain ⟨c,hdc,hcN,rfl,rfl,hI⟩:=hrel
   by_cases hc:c=d
   ·subst hc
    have hlt:¬ ((c:Int)<=(c:Int)-1):=by omega
    have hNc:N-c=m:=by have:=Hm.out;omega
    have hl1:=psn_length1 lead g c m N z0 m
    have hl2:=psn_length2 lead g c m N z0 m
    have hq:=hI.q
    have hr:=hI.r
    rw[hNc] at hq hr
    have hqp:=hq.poly (cap:=m) (by rw[hl1];exact Nat.le_refl _)
    rw[hl1] at hqp
    have hrp:=(hr.poly (cap:=N) (by rw[hl2,Hz0.out];exact Nat.le_refl _)).take (k:=c) (by rw[hl2,Hz0.out];exact hcN)
    obtain ⟨hdq,hdr⟩:=psn_dl (d:=c) (m:=m) (N:=N) fl fg fdt m
    have Hb:=Lh hI.below
    clear hI hq hr hNc
    go_wp2_with fail
    refine (pnormal_any ikN _ _ _ _ _ hqp (hdq.smp (by omega)) (by omega)).mono ?_
    rintro e w5 ⟨g5,rfl,h5,hg5,hb5⟩
    have hrp5:=hrp.below ikN hb5
    have Hb5:=Lh (Hb.out.trans (hb5.mono Hb.out.size))
    have hp5:=h5.poly (cap:=plen (psn lead g c m N z0 m).1) (by rw[ptrim_length];exact Nat.le_refl _)
    rw[ptrim_length] at hp5
    have Hp5:=Lh hp5
    clear hqp hrp hb5 hg5 Hb h5 hp5
    go_wp2_with fail
    refine (pnormal_any ikN _ _ _ _ _ hrp5 ((hdr.take c).smp (by omega)) (by omega)).mono ?_
    rintro e w6 ⟨g6,rfl,h6,hg6,hb6⟩
    have Hp56:=Lh (Hp5.out.below ikN hb6)
    have Hb6:=Lh (Hb5.out.trans (hb6.mono Hb5.out.size))
    have hp6:=h6.poly (cap:=plen ((psn lead g c m N z0 m).2.take c)) (by rw[ptrim_length];exact Nat.le_refl _)
    rw[ptrim_length] at hp6
    have Hp6:=Lh hp6
    clear hrp5 h6 hg6 hb6 hp6 Hp5 Hb5
    have hcond:¬ plen f<=plen g-1:=by have:=HN.out;have:=Hd.out;have:=Hm.out;omega
    have hq1:psq f g=ptrim (psn lead g c m N z0 m).1:=by
     unfold psq
     rw[if_neg hcond,<- HN.out,<- Hlead.out,Hd.out,Nat.add_sub_cancel,<- Hz.out,show N-c=m by have:=Hm.out;omega]
    have hr1:psr f g=ptrim ((psn lead g c m N z0 m).2.take c):=by
     unfold psr
     rw[if_neg hcond,<- HN.out,<- Hlead.out,Hd.out,Nat.add_sub_cancel,<- Hz.out,show N-c=m by have:=Hm.out;omega]
    have Hq1:=Lh hq1
    have Hr1:=Lh hr1
    clear hq1 hr1 hcond
    go_wp2
    refine bodyPost_ret (v:=.tuple #[.slice (some ⟨g5,0,none⟩) (plen (psn lead g c m N z0 m).1) (plen (psn lead g c m N z0 m).1),.slice (some ⟨g6,0,none⟩) (plen ((psn lead g c m N z0 m).2.take c)) (plen ((psn lead g c m N z0 m).2.take c)),.int .i64 0]) (by simp[results,Tryz.results91,go_sem]) rfl ⟨_,_,_,_,_,_,rfl,?_,?_,Hb6.out⟩
    ·rw[Hq1.out];exact Hp56.out
    ·rw[Hr1.out];exact Hp6.out
   ·obtain ⟨i,rfl⟩:∃ i,c=i+1:=⟨c-1,by omega⟩
    rw[show (((i+1:Nat):Int)-1)=(i:Int) by omega]
    have hdi:d<=i:=by omega
    have hdi2:(d:Int)<=(i:Int):=by omega
    have hiN:i<N:=by omega
    obtain ⟨low,hlow⟩:∃ low,i=low+d:=⟨i-d,by omega⟩
    have hli:(i:Int)-(d:Int)=(low:Int):=by omega
    have hlm:low<m:=by have:=Hm.out;omega
    obtain ⟨zs,hzs⟩:∃ z,z=(psn lead g d m N z0 (N-(i+1))).2:=⟨_,rfl⟩
    obtain ⟨ys,hys⟩:∃ y,y=(psn lead g d m N z0 (N-(i+1))).1:=⟨_,rfl⟩
    have hzl:zs.length=N:=by rw[hzs,psn_length2,Hz0.out]
    have hyl:ys.length=m:=by rw[hys,psn_length1]
    obtain ⟨hdq,hdr⟩:=psn_dl (d:=d) (m:=m) (N:=N) fl fg fdt (N-(i+1))
    rw[<- hys] at hdq
    rw[<- hzs] at hdr
    have hstep:psn lead g d m N z0 (N-i)=((psQ lead low ys m).set low (zs.getD i 0),psRow lead (zs.getD i 0) g low zs i):=by
     rw[show N-i=N-(i+1)+1 by omega]
     simp only[psn,<- hzs,<- hys]
     rw[show N-1-(N-(i+1))=i by omega,show i-d=low by omega]
    have Hstep:=Lh hstep
    have hr:=hI.r
    have hq:=hI.q
    rw[<- hzs] at hr
    rw[<- hys] at hq
    have HLx:=Lh hI.L
    have Hb:=Lh hI.below
    have Hr:=Lh hr
    have Hq:=Lh hq
    have Hzl:=Lh hzl
    have Hyl:=Lh hyl
    have Hdq:=Lh (hdq.mono (show _<=1097000000000 by omega))
    have Hdr:=Lh (hdr.mono (show _<=1097000000000 by omega))
    obtain ⟨nF,AF,lF,cF,e0,e1,zF⟩:=hr.elems i (by omega)
    obtain ⟨fac,hfac⟩:∃ x,x=zs.getD i 0:=⟨_,rfl⟩
    rw[<- hfac] at zF Hstep
    have hfd:dlen fac.natAbs<=1097000000000:=by rw[hfac];exact Hdr.out i
    have HzF:=Lh zF
    have Hfd:=Lh hfd
    have i1:i<N:=hiN
    clear hI hr hq hzs hys hzl hyl hdq hdr hstep hc hfac zF hfd
    have Hlow:=Lh hlow
    clear hlow
    have hba:Below wr.heap.size wr (wr.alloc (ibox nF AF lF cF)):=(Below.refl _ _).alloc (Nat.le_refl _) _
    have HF1:=Lh (IBox.make HzF.out)
    have HL1:=Lh (HLx.out.move hba)
    have Hr1:=Lh (Hr.out.below hba)
    have Hq1:=Lh (Hq.out.below hba)
    have Hb1:=Lh (Hb.out.trans (hba.mono Hb.out.size))
    have lt1:=Hr.out.lt
    have lt2:=Hq.out.lt
    have lt3:=HLx.out.lt
    obtain ⟨gf,hgf⟩:∃ g,g=wr.heap.size:=⟨_,rfl⟩
    rw[<- hgf] at HF1
    have nf1:gf≠gr:=by omega
    have nf2:gf≠gq:=by omega
    have nf3:gf≠gl:=by omega
    have nf4:gr≠gf:=by omega
    have nf5:gq≠gf:=by omega
    have nf6:gl≠gf:=by omega
    have Hgf:=Lh (show w.heap.size<=gf by have:=Hgl.out;omega)
    clear hba HLx Hr Hq Hb lt1 lt2 lt3
    go_wp2
    rw[<- hgf]
    clear hgf e0 e1 HzF
    go_loopw [12] (fun j wx=>∃ k,low+1<=k/\k<=m/\j=.int .i64 (k:Int)/\PRow wx gq (psQ lead low ys k)/\PRow wx gr zs/\IBox wx gl nL AL lL cL lead/\IBox wx gf nF AF lF cF fac/\Below w.heap.size w wx) (fun j _=>m-(intOf j).toNat)
    case atStart=>exact ⟨low+1,Nat.le_refl _,hlm,by simp,by rw[psQ_zero];exact Hq1.out,Hr1.out,HL1.out,HF1.out,Hb1.out⟩
    case round =>
     clear HF1 HL1 Hr1 Hq1 Hb1
     obtain ⟨k,hlk,hkm,rfl,hq,hr,hL,hF,hb⟩:=hrel
     by_cases hk:k<m
     ·obtain ⟨n1,A1,l1,c1,e10,e11,z1⟩:=hq.elems k (by rw[psQ_length,Hyl.out];exact hk)
      rw[psQ_get _ _ _ _ (by rw[Hyl.out];exact hk),if_neg (by omega)] at z1
      have f0:=hq.frozen (k*2)
      have f1:=hq.frozen (k*2+1)
      have b0:=hL.c0
      have b1:=hL.c1
      have hst:=Lh (psQ_set lead low ys (j:=k) (by omega) (by rw[Hyl.out];exact hk))
      have hsy:SmI (ys.getD k 0):=Nat.le_trans (Hdq.out k) (by omega)
      have Hz1:=Lh z1
      have Hq:=Lh hq
      have Hr:=Lh hr
      have HL:=Lh hL
      have HF:=Lh hF
      have Hb:=Lh hb
      have Hk:=Lh (show k<(psQ lead low ys k).length by rw[psQ_length,Hyl.out];exact hk)
      generalize ys.getD k 0=yk at *
      clear z1 hq hr hL hF hb
      go_wp2_with fail
      refine wp_region_last (S:=fun w'=>w'.cell? ⟨gq,k*2,none⟩=some (.bool n1)/\w'.cell? ⟨gq,k*2+1,none⟩=some (.slice A1 l1 c1)/\w'.cell? ⟨gl,0,none⟩=some (.bool nL)/\w'.cell? ⟨gl,1,none⟩=some (.slice AL lL cL)) (by kernel_rfl) (by kernel_rfl) (by (try dsimp only);go_keep) (fun hHeld=>?_)
      simp only[List.pop_toArray,List.dropLast]
      (refine tq 0 ?_;simp only[put_lit,List.set])
      (refine tq 1 ?_;simp only[put_lit,List.set])
      (refine tq 2 ?_;simp only[put_lit,List.set])
      (refine tq 3 ?_;simp only[put_lit,List.set])
      (refine tq 4 ?_;simp only[put_lit,List.set])
      (refine tq 5 ?_;simp only[put_lit,List.set])
      (refine tq 6 ?_;simp only[put_lit,List.set])
      refine rdy 7 (fun K hK=>?_);go_simp
      refine (imul_any _ _ _ _ _ _ _ _ _ _ _ ?_ ?_ hsy fl.sm (mulok_r fl.dlen)).mono ?_
      ·exact Hz1.out.at_.below Bel.go
      ·exact HL.out.hz.at_.below Bel.go
      rintro e w7 ⟨n8,A8,l8,c8,rfl,h8,hb8⟩
      obtain ⟨hcx,hfx⟩:=bcellS hb8
      replace Hq:=Lh (Hq.out.below (Below.trans Bel.go (hb8.mono (by simp<;>omega))))
      replace Hr:=Lh (Hr.out.below (Below.trans Bel.go (hb8.mono (by simp<;>omega))))
      replace HL:=Lh (HL.out.move (Below.trans Bel.go (hb8.mono (by simp<;>omega))))
      replace HF:=Lh (HF.out.move (Below.trans Bel.go (hb8.mono (by simp<;>omega))))
      replace Hb:=Lh (Hb.out.trans ((Below.trans Bel.go (hb8.mono (by simp<;>omega))).mono Hb.out.size))
      have H8:=Lh h8
      refine hK.out _ _ ?_ (fun _=>?_)
      ·((try dsimp only);repeat' apply And.intro)<;>(rw[hcx _ (by go_simp)];go_simp)
      clear hHeld hK K hcx hfx;rename_i hHeld
      (refine tq 8 ?_;simp only[put_lit,List.set])
      refine wpAnyH_done (by kernel_rfl) (lastQ_list rfl ?_) _
      have p0:=hHeld.1
      have p1:=hHeld.2.1
      have p2:=Hq.out.frozen (k*2)
      have p3:=Hq.out.frozen (k*2+1)
      clear hHeld
      go_wp2
      go_roundw
      case rel =>
       refine ⟨k+1,by omega,by omega,by go_num,?_,Hr.out.far2 Hq.out Hk.out ne2,HL.out.row Hq.out Hk.out ne3 _ _,HF.out.row Hq.out Hk.out nf2 _ _,(Hb.out.setCell (p:=⟨gq,k*2,none⟩) Hgq.out _).setCell (p:=⟨gq,k*2+1,none⟩) Hgq.out _⟩
       rw[<- hst.out]
       exact Hq.out.set_ Hk.out H8.out
      case measure=>simp[intOf];omega
     ·have hkm2:m=k:=by omega
      subst hkm2
      have hk3:¬ (m:Int)<(m:Int):=by omega
      have hlq:low<(psQ lead low ys m).length:=by rw[psQ_length,Hyl.out];exact hlm
      obtain ⟨n1,A1,l1,c1,e10,e11,-⟩:=hq.elems low hlq
      have f0:=hq.frozen (low*2)
      have f1:=hq.frozen (low*2+1)
      have b0:=hF.c0
      have b1:=hF.c1
      have Hq2:=Lh (hq.set_ hlq hF.hz)
      have Hr2:=Lh (hr.far2 hq hlq ne2 (neg:=nF) (A:=AF) (l:=lF) (c:=cF))
      have HL2:=Lh (hL.row hq hlq ne3 (.bool nF) (.slice AF lF cF))
      have HF2:=Lh (hF.row hq hlq nf2 (.bool nF) (.slice AF lF cF))
      have Hb2:=Lh ((hb.setCell (p:=⟨gq,low*2,none⟩) Hgq.out (.bool nF)).setCell (p:=⟨gq,low*2+1,none⟩) Hgq.out (.slice AF lF cF))
      clear hq hr hL hF hb hk hlk hkm
      go_wp2
      clear e10 e11 f0 f1 b0 b1 hlq
      go_loopw [73] (fun j wx=>∃ k,k<=i/\j=.int .i64 (k:Int)/\PRow wx gr (psRow lead fac g low zs k)/\PRow wx gq ((psQ lead low ys m).set low fac)/\IBox wx gl nL AL lL cL lead/\IBox wx gf nF AF lF cF fac/\Below w.heap.size w wx) (fun j _=>i-(intOf j).toNat)
      case atStart=>exact ⟨0,Nat.zero_le _,rfl,by rw[psRow_zero];exact Hr2.out,Hq2.out,HL2.out,HF2.out,Hb2.out⟩
      case round =>
       clear Hr2 Hq2 HL2 HF2 Hb2
       obtain ⟨k,hki,rfl,hr,hq,hL,hF,hb⟩:=hrel
       by_cases hk:k<i
       ·have hkz:k<zs.length:=by rw[Hzl.out];omega
        obtain ⟨n1,A1,l1,c1,e10,e11,z1⟩:=hr.elems k (by rw[psRow_length];exact hkz)
        rw[psRow_get _ _ _ _ _ _ hkz,if_neg (by omega)] at z1
        have f0:=hr.frozen (k*2)
        have f1:=hr.frozen (k*2+1)
        have b0:=hL.c0
        have b1:=hL.c1
        have hst:=Lh (psRow_set lead fac g low zs (j:=k) hkz)
        have hsz:SmI (zs.getD k 0):=Nat.le_trans (Hdr.out k) (by omega)
        have hdz:=Lh (Hdr.out k)
        have hpR:psR lead fac g low zs k=if low<=k then zs.getD k 0*lead-fac*g.getD (k-low) 0 else zs.getD k 0*lead:=rfl
        rw[hpR] at hst
        have Hz1:=Lh z1
        have Hq:=Lh hq
        have Hr:=Lh hr
        have HL:=Lh hL
        have HF:=Lh hF
        have Hb:=Lh hb
        have Hk:=Lh (show k<(psRow lead fac g low zs k).length by rw[psRow_length];exact hkz)
        generalize zs.getD k 0=zk at *
        clear z1 hq hr hL hF hb hpR hkz
        go_wp2_with fail
        refine wp_region_last (S:=fun w'=>w'.cell? ⟨gr,k*2,none⟩=some (.bool n1)/\w'.cell? ⟨gr,k*2+1,none⟩=some (.slice A1 l1 c1)/\w'.cell? ⟨gl,0,none⟩=some (.bool nL)/\w'.cell? ⟨gl,1,none⟩=some (.slice AL lL cL)) (by kernel_rfl) (by kernel_rfl) (by (try dsimp only);go_keep) (fun hHeld=>?_)
        simp only[List.pop_toArray,List.dropLast]
        (refine tq 0 ?_;simp only[put_lit,List.set])
        (refine tq 1 ?_;simp only[put_lit,List.set])
        (refine tq 2 ?_;simp only[put_lit,List.set])
        (refine tq 3 ?_;simp only[put_lit,List.set])
        (refine tq 4 ?_;simp only[put_lit,List.set])
        (refine tq 5 ?_;simp only[put_lit,List.set])
        (refine tq 6 ?_;simp only[put_lit,List.set])
        refine rdy 7 (fun K hK=>?_);go_simp
        refine (imul_any _ _ _ _ _ _ _ _ _ _ _ ?_ ?_ hsz fl.sm (mulok_r fl.dlen)).mono ?_
        ·exact Hz1.out.at_.below Bel.go
        ·exact HL.out.hz.at_.below Bel.go
        rintro e w7 ⟨n8,A8,l8,c8,rfl,h8,hb8⟩
        obtain ⟨hcx,hfx⟩:=bcellS hb8
        replace Hq:=Lh (Hq.out.below (Below.trans Bel.go (hb8.mono (by simp<;>omega))))
        replace Hr:=Lh (Hr.out.below (Below.trans Bel.go (hb8.mono (by simp<;>omega))))
        replace HL:=Lh (HL.out.move (Below.trans Bel.go (hb8.mono (by simp<;>omega))))
        replace HF:=Lh (HF.out.move (Below.trans Bel.go (hb8.mono (by simp<;>omega))))
        replace Hb:=Lh (Hb.out.trans ((Below.trans Bel.go (hb8.mono (by simp<;>omega))).mono Hb.out.size))
        have H8:=Lh h8
        refine hK.out _ _ ?_ (fun _=>?_)
        ·((try dsimp only);repeat' apply And.intro)<;>(rw[hcx _ (by go_simp)];go_simp)
        clear hHeld hK K hcx hfx;rename_i hHeld
        (refine tq 8 ?_;simp only[put_lit,List.set])
        refine wpAnyH_done (by kernel_rfl) (lastQ_list rfl ?_) _
        have p0:=hHeld.1
        have p1:=hHeld.2.1
        have p2:=Hr.out.frozen (k*2)
        have p3:=Hr.out.frozen (k*2+1)
        have Hr3:=Lh (Hr.out.set_ Hk.out H8.out)
        have Hq3:=Lh (Hq.out.far2 Hr.out Hk.out ne5 (neg:=n8) (A:=A8) (l:=l8) (c:=c8))
        have HL3:=Lh (HL.out.row Hr.out Hk.out ne4 (.bool n8) (.slice A8 l8 c8))
        have HF3:=Lh (HF.out.row Hr.out Hk.out nf1 (.bool n8) (.slice A8 l8 c8))
        have Hb3:=Lh ((Hb.out.setCell (p:=⟨gr,k*2,none⟩) Hgr.out (.bool n8)).setCell (p:=⟨gr,k*2+1,none⟩) Hgr.out (.slice A8 l8 c8))
        clear hHeld Hz1 e10 e11 f0 f1 b0 b1 Hq Hr HL HF Hb H8 h8 hb8
        by_cases hlk:low<=k
        ·obtain ⟨t,ht⟩:∃ t,k=low+t:=⟨k-low,by omega⟩
         rw[if_pos hlk,show k-low=t by omega] at hst
         have htl:t<lb:=by have:=Hlow.out;omega
         have hti:(k:Int)-(low:Int)=(t:Int):=by omega
         have wt:IntKind.i64.wrap (t:Int)=(t:Int):=IntWalk.i64_in _ (by omega)
         clear ht
         obtain ⟨bg,og,hB,hbg,hcg⟩:=(Hg.out.below hJ Hb3.out).get (by omega)
         obtain ⟨ng,Ag,lg,cg,g0,g1,zg⟩:=hcg t htl
         obtain ⟨bg',og',hB',hbg',-⟩:=Hg.out.get (by omega)
         have hbb:bg=bg':=by rw[hB] at hB';cases hB';rfl
         have ngr:gr≠bg:=by have:=Hgr.out;omega
         subst hB
         have fgt:Fit (g.getD t 0):=fg t
         obtain ⟨gt,hgt⟩:∃ x,x=g.getD t 0:=⟨_,rfl⟩
         rw[<- hgt] at zg fgt hst
         have Hzg:=Lh (hJ.at_ zg)
         have hlen3:k<((psRow lead fac g low zs k).set k (zk*lead)).length:=by rw[List.length_set];exact Hk.out
         have q0':((w7.setCell ⟨gr,k*2,none⟩ (.bool n8)).setCell ⟨gr,k*2+1,none⟩ (.slice A8 l8 c8)).cell? ⟨gr,k*2,none⟩=some (.bool n8):=by go_simp
         have q1':((w7.setCell ⟨gr,k*2,none⟩ (.bool n8)).setCell ⟨gr,k*2+1,none⟩ (.slice A8 l8 c8)).cell? ⟨gr,k*2+1,none⟩=some (.slice A8 l8 c8):=by go_simp
         obtain ⟨n9,A9,l9,c9,q0,q1,z9⟩:=Hr3.out.elems k hlen3
         rw[List.getD_eq_getElem?_getD,List.getElem?_set_self Hk.out] at z9
         simp only[Option.getD_some] at z9
         rw[q0'] at q0
         rw[q1'] at q1
         cases q0
         cases q1
         have Hz9:=Lh z9
         have f0:=Hr3.out.frozen (k*2)
         have f1:=Hr3.out.frozen (k*2+1)
         have b0:=HF3.out.c0
         have b1:=HF3.out.c1
         have sfac:SmI fac:=Nat.le_trans Hfd.out (by omega)
         have s1:=dlen_imul zk lead
         have s2:=dlen_imul fac gt
         have s0:=FW_eq
         have s3:=fl.dlen
         have s4:=fgt.dlen
         have s5:=hdz.out
         have s6:=Hfd.out
         have s7:=dlen_add_le (zk*lead).natAbs (fac*gt).natAbs
         have sA:SmI (zk*lead):=by show dlen _<=_;omega
         have sB:SmI (fac*gt):=by show dlen _<=_;omega
         have sC:Sm ((zk*lead).natAbs+(fac*gt).natAbs):=by show dlen _<=_;omega
         have Hl3:=Lh hlen3
         clear s1 s2 s3 s5 s6 s7 zg hcg z9 hbg hbb hB' hbg' hgt hlen3
         go_wp2_with fail
         obtain ⟨W,hW⟩:∃ W,W=(w7.setCell ⟨gr,k*2,none⟩ (.bool n8)).setCell ⟨gr,k*2+1,none⟩ (.slice A8 l8 c8):=⟨_,rfl⟩
         rw[<- hW] at Hr3 Hq3 HL3 HF3 Hb3 Hz9 Hzg q0' q1' f0 f1 b0 b1 g0 g1 ⊢
         clear hW p0 p1 p2 p3
         refine wp_region_last (S:=fun w'=>w'.cell? ⟨gr,k*2,none⟩=some (.bool n8)/\w'.cell? ⟨gr,k*2+1,none⟩=some (.slice A8 l8 c8)/\w'.cell? ⟨gf,0,none⟩=some (.bool nF)/\w'.cell? ⟨gf,1,none⟩=some (.slice AF lF cF)/\w'.cell? ⟨bg,og+t*2,none⟩=some (.bool ng)/\w'.cell? ⟨bg,og+t*2+1,none⟩=some (.slice Ag lg cg)) (by kernel_rfl) (by kernel_rfl) (by (try dsimp only);go_keep) (fun hHeld=>?_)
         simp only[List.pop_toArray,List.dropLast]
         (refine tq 0 ?_;simp only[put_lit,List.set])
         (refine tq 1 ?_;simp only[put_lit,List.set])
         (refine tq 2 ?_;simp only[put_lit,List.set])
         (refine tq 3 ?_;simp only[put_lit,List.set])
         (refine tq 4 ?_;simp only[put_lit,List.set])
         (refine tq 5 ?_;simp only[put_lit,List.set])
         (refine tq 6 ?_;simp only[put_lit,List.set])
         (refine tq 7 ?_;simp only[put_lit,List.set])
         (refine tq 8 ?_;simp only[put_lit,List.set])
         (refine tq 9 ?_;simp only[put_lit,List.set])
         (refine tq 10 ?_;simp only[put_lit,List.set])
         (refine tq 11 ?_;simp only[put_lit,List.set])
         (refine tq 12 ?_;simp only[put_lit,List.set])
         refine rdy 13 (fun K hK=>?_);go_simp
         refine (imul_any _ _ _ _ _ _ _ _ _ _ _ ?_ ?_ sfac fgt.sm (mulok_r s4)).mono ?_
         ·exact HF3.out.hz.at_.below Bel.go
         ·exact Hzg.out.below Bel.go
         rintro e wy ⟨ny,Ay,ly,cy,rfl,hy,hby⟩
         obtain ⟨hcx,hfx⟩:=bcellS hby
         replace Hz9:=Lh (Hz9.out.below (Below.trans Bel.go (hby.mono (by simp<;>omega))))
         replace Hq3:=Lh (Hq3.out.below (Below.trans Bel.go (hby.mono (by simp<;>omega))))
         replace Hr3:=Lh (Hr3.out.below (Below.trans Bel.go (hby.mono (by simp<;>omega))))
         replace HL3:=Lh (HL3.out.move (Below.trans Bel.go (hby.mono (by simp<;>omega))))
         replace HF3:=Lh (HF3.out.move (Below.trans Bel.go (hby.mono (by simp<;>omega))))
         replace Hb3:=Lh (Hb3.out.trans ((Below.trans Bel.go (hby.mono (by simp<;>omega))).mono Hb3.out.size))
         refine hK.out _ _ ?_ (fun _=>?_)
         ·((try dsimp only);repeat' apply And.intro)<;>(rw[hcx _ (by go_simp)];go_simp)
         clear hHeld hK K hcx hfx;rename_i hHeld
         refine rdy 14 (fun K hK=>?_);go_simp
         refine (isub_any _ _ _ _ _ _ _ _ _ _ _ ?_ ?_ sA sB sC).mono ?_
         ·exact Hz9.out.at_.below Bel.go
         ·exact hy.at_.below Bel.go
         rintro e wz ⟨nz,Az,lz,cz,rfl,hz,hbz⟩
         obtain ⟨hcx,hfx⟩:=bcellS hbz
         replace Hq3:=Lh (Hq3.out.below (Below.trans Bel.go (hbz.mono (by simp<;>omega))))
         replace Hr3:=Lh (Hr3.out.below (Below.trans Bel.go (hbz.mono (by simp<;>omega))))
         replace HL3:=Lh (HL3.out.move (Below.trans Bel.go (hbz.mono (by simp<;>omega))))
         replace HF3:=Lh (HF3.out.move (Below.trans Bel.go (hbz.mono (by simp<;>omega))))
         replace Hb3:=Lh (Hb3.out.trans ((Below.trans Bel.go (hbz.mono (by simp<;>omega))).mono Hb3.out.size))
         have Hzz:=Lh hz
         refine hK.out _ _ ?_ (fun _=>?_)
         ·((try dsimp only);repeat' apply And.intro)<;>(rw[hcx _ (by go_simp)];go_simp)
         clear hHeld hK K hcx hfx;rename_i hHeld
         (refine tq 15 ?_;simp only[put_lit,List.set])
         refine wpAnyH_done (by kernel_rfl) (lastQ_list rfl ?_) _
         have p0:=hHeld.1
         have p1:=hHeld.2.1
         have p2:=Hr3.out.frozen (k*2)
         have p3:=Hr3.out.frozen (k*2+1)
         clear hHeld q0' q1' f0 f1 b0 b1 g0 g1
         go_wp2
         go_roundw
         case rel =>
          refine ⟨k+1,by omega,by go_num,?_,Hq3.out.far2 Hr3.out Hl3.out ne5,HL3.out.row Hr3.out Hl3.out ne4 _ _,HF3.out.row Hr3.out Hl3.out nf1 _ _,(Hb3.out.setCell (p:=⟨gr,k*2,none⟩) Hgr.out _).setCell (p:=⟨gr,k*2+1,none⟩) Hgr.out _⟩
          have hs:=Hr3.out.set_ Hl3.out Hzz.out
          rw[List.set_set,hst.out] at hs
          exact hs
         case measure=>simp[intOf];omega
        ·rw[if_neg hlk] at hst
         have hlk2:¬ ((low:Int)<=(k:Int)):=by omega
         go_wp2
         go_roundw
         case rel=>exact ⟨k+1,by omega,by go_num,by rw[<- hst.out];exact Hr3.out,Hq3.out,HL3.out,HF3.out,Hb3.out⟩
         case measure=>simp[intOf];omega
       ·have hki2:i=k:=by omega
        subst hki2
        have hk3:¬ (i:Int)<(i:Int):=by omega
        have Hq:=Lh hq
        have Hr:=Lh hr
        have HL:=Lh hL
        have Hb:=Lh hb
        clear hq hr hL hF hb hk hki
        go_wp2
        go_roundw
        case rel=>exact ⟨i,hdi,by omega,rfl,rfl,⟨by rw[Hstep.out];exact Hr.out,by rw[Hstep.out];exact Hq.out,HL.out,Hb.out⟩⟩
        case measure=>simp[intOf]
end Go.Proofs.YtpeiiomjnjemjaaGreat
