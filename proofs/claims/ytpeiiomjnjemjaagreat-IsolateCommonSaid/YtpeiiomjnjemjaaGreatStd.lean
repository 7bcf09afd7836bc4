/- The walks of sturm.VariationsEnd, lostOnLine and, at x^2 - 2, of All and of awake of chapter 15. -/
import Derived.Test.YtpeiiomjnjemjaaGreatSta
import Derived.Test.YtpeiiomjnjemjaaGreatOwp
import Derived.Test.YtpeiiomjnjemjaaGreatDer
import Derived.Test.YtpeiiomjnjemjaaGreatPart
namespace Go.Proofs.YtpeiiomjnjemjaaGreat
open Go.RowKit
def nrem (a b:List Int):List Int:=if (a.length+1-b.length) % 2=1/\plead b<0 then pred (psr a b) else pmn (ptrim (pred (psr a b)))
structure ChFits (a b:List Int):Prop where
 da:Dl 1000000000 a
 fb:FitP b
 b1:1<=plen b
 la:a.length<=1000000
 lb:b.length<=1000000
 r:SmP (psr a b)
 rl:(psr a b).length<=1000000
 rd:Dl 1000000000 (psr a b)
theorem pred_smp {p:List Int} (h:SmP p):SmP (pred p):=by
 unfold pred
 split
 ·intro c hc
  obtain ⟨x,hx,rfl⟩:=List.mem_map.1 hc
  exact Sm.mono ((pprim_smp h).ptrim x hx) (by rw[Int.natAbs_neg];exact Nat.le_refl _)
 ·exact pprim_smp h
theorem pred_le (p:List Int):(pred p).length<=p.length:=by
 unfold pred
 split
 ·rw[pmn_length,ptrim_length]
  exact Nat.le_trans (plen_le _) (pprim_le' p)
 ·exact pprim_le' p
set_option maxRecDepth 100000 in
set_option maxHeartbeats 1000000 in
theorem negrem_any (A:Option Addr) (la ca:Nat) (a:List Int) (B:Option Addr) (lb cb:Nat) (b:List Int) (w:World) (ha:PolyN w A la ca a) (hb:PolyN w B lb cb b) (hf:ChFits a b) :
  Calls Tryz.prog 78 #[.slice A la ca,.slice B lb cb] w fun e w'=>∃ A' l' c',e=.returned (.slice A' l' c')/\PolyN w' A' l' c' (nrem a b)/\Below w.heap.size w w':=by
 have hla:la<=1000000:=by have:=hf.la;have:=ha.length;omega
 have hlb:lb<=1000000:=by have:=hf.lb;have:=hb.length;omega
 have hal:=ha.length
 have hbl:=hb.length
 have sr:=hf.r
 have srl:=hf.rl
 have sb:SmP b:=hf.fb.smp
 have HF:=Lh hf
 obtain ⟨m,hm⟩:∃ m:Nat,m=la+1-lb:=⟨_,rfl⟩
 go_enter Tryz.func78,Tryz.ntmps78
 go_wp2_with fail
 refine (pseudo_any ikN ikN _ _ _ _ _ _ _ _ 1000000000 _ ha hb hf.da hf.fb hf.b1 (by omega) (by omega) (by omega)).mono ?_
 rintro e w1 ⟨A1,l1,c1,A2,l2,c2,rfl,h1,h2,hb1⟩
 have hB1:=Lh (hb.below ikN hb1)
 have H2:=Lh h2
 have hl2:=h2.length
 have Hb1:=Lh hb1
 have Hal:=Lh hal
 have Hbl:=Lh hbl
 have hmx:max ((la:Int)-(lb:Int)+1) 0=(m:Int):=by omega
 have Hm:=Lh hm
 clear ha hb h1 h2 hb1 hf hal hbl hm
 by_cases hm2:m % 2=1
 ·have ht:Int.tmod (m:Int) 2=1:=by rw[show (2:Int)=((2:Nat):Int) from rfl,<- Int.ofNat_tmod,hm2];rfl
  have hb2:((m:Int).tmod 2 == 1)=true:=by rw[ht];rfl
  have Hm2:=Lh hm2
  have hlb2:b.length=lb:=Hbl.out
  clear hm2
  go_wp2_with fail
  refine (lead_any _ _ _ _ _ (hB1.out.at_ ikN) sb (by omega)).mono ?_
  rintro e w3 ⟨n3,A3,l3,c3,rfl,h3,hb3⟩
  have H23:=Lh (H2.out.below ikN hb3)
  have Hb3:=Lh (Hb1.out.trans (hb3.mono Hb1.out.size))
  have sl:SmI (plead b):=sb.getD _
  clear hb3
  go_wp2_with fail
  refine (isign_any _ _ _ _ _ _ h3.at_ sl).mono ?_
  rintro e w4 ⟨rfl,rfl⟩
  have hb4:Below w3.heap.size w3 (w3.alloc (ibox n3 A3 l3 c3)):=(Below.refl _ _).alloc (Nat.le_refl _) _
  have H24:=Lh (H23.out.below ikN hb4)
  have Hb4:=Lh (Hb3.out.trans (hb4.mono Hb3.out.size))
  clear hb4 h3
  by_cases hn:plead b<0
  ·have hsl:sg (plead b)<0:=by rcases sg_cases (plead b) with ⟨_,e⟩ | ⟨_,e⟩ | ⟨_,e⟩<;>omega
   have Hn:=Lh hn
   clear hn
   go_wp2_with fail
   refine (reduced_any ikN _ _ _ _ _ H24.out sr (by omega)).mono ?_
   rintro e w5 ⟨A5,l5,c5,rfl,h5,hb5⟩
   have H5:=Lh h5
   have Hb5:=Lh (Hb4.out.trans (hb5.mono Hb4.out.size))
   clear h5 hb5
   go_wp2
   go_ret
   exact ⟨_,_,_,rfl,by unfold nrem;rw[if_pos ⟨by rw[Hal.out,Hbl.out,<- Hm.out];exact Hm2.out,by have:=Hn.out;omega⟩];exact H5.out,Hb5.out⟩
  ·have hsl:¬ sg (plead b)<0:=by rcases sg_cases (plead b) with ⟨_,e⟩ | ⟨_,e⟩ | ⟨_,e⟩<;>omega
   have Hn:=Lh hn
   clear hn
   go_wp2_with fail
   refine (reduced_any ikN _ _ _ _ _ H24.out sr (by omega)).mono ?_
   rintro e w5 ⟨A5,l5,c5,rfl,h5,hb5⟩
   have hl5:=h5.length
   have hpl:=pred_le (psr a b)
   have Hb5:=Lh (Hb4.out.trans (hb5.mono Hb4.out.size))
   clear hb5
   go_wp2_with fail
   refine (polyneg_any ikN _ _ _ _ _ h5 (pred_smp sr) (by omega)).mono ?_
   rintro e w6 ⟨A6,l6,c6,rfl,h6,hb6⟩
   have H6:=Lh h6
   have Hb6:=Lh (Hb5.out.trans (hb6.mono Hb5.out.size))
   clear h5 h6 hb6
   go_wp2
   go_ret
   exact ⟨_,_,_,rfl,by unfold nrem;rw[if_neg (fun hh=>by have h1:=Hn.out;have h2:=hh.2;omega)];exact H6.out,Hb6.out⟩
 ·have ht:Int.tmod (m:Int) 2=0:=by rw[show (2:Int)=((2:Nat):Int) from rfl,<- Int.ofNat_tmod,show m % 2=0 by omega];rfl
  have hb2:((m:Int).tmod 2 == 1)=false:=by rw[ht];rfl
  have Hm2:=Lh hm2
  clear hm2
  go_wp2_with fail
  refine (reduced_any ikN _ _ _ _ _ H2.out sr (by omega)).mono ?_
  rintro e w5 ⟨A5,l5,c5,rfl,h5,hb5⟩
  have hl5:=h5.length
  have hpl:=pred_le (psr a b)
  have Hb5:=Lh (Hb1.out.trans (hb5.mono Hb1.out.size))
  clear hb5
  go_wp2_with fail
  refine (polyneg_any ikN _ _ _ _ _ h5 (pred_smp sr) (by omega)).mono ?_
  rintro e w6 ⟨A6,l6,c6,rfl,h6,hb6⟩
  have H6:=Lh h6
  have Hb6:=Lh (Hb5.out.trans (hb6.mono Hb5.out.size))
  clear h5 h6 hb6
  go_wp2
  go_ret
  exact ⟨_,_,_,rfl,by unfold nrem;rw[if_neg (fun hh=>Hm2.out (by rw[Hm.out,<- Hal.out,<- Hbl.out];exact hh.1))];exact H6.out,Hb6.out⟩
def chn:Nat->List Int->List Int->List (List Int)
 | 0,_,_=>[]
 | k+1,a,b=>if b=[] then [] else b :: chn k b (nrem a b)
def chOK:Nat->List Int->List Int->Prop
 | 0,_,_=>False
 | k+1,a,b=>b=[]∨(ChFits a b/\chOK k b (nrem a b))
def pchain (k:Nat) (f g:List Int):List (List Int):=if plen f=0 then [] else pred f :: chn k (pred f) (pred g)
def lenOf:Value->Nat
 | .slice _ l _=>l
 | _=>0
set_option maxRecDepth 100000 in
set_option maxHeartbeats 4000000 in
theorem chain_any (A:Option Addr) (la ca:Nat) (f:List Int) (B:Option Addr) (lb cb:Nat) (g:List Int) (w:World) (hf:PolyN w A la ca f) (hg:PolyN w B lb cb g) (sf:SmP f) (sg:SmP g) (hla:la<=1000000) (hlb:lb<=1000000) (k:Nat) (hok:chOK k (pred f) (pred g)) (hlen:(chn k (pred f) (pred g)).length<=1000000) :
  Calls Tryz.prog 46 #[.slice A la ca,.slice B lb cb] w fun e w'=>∃ A' l' c',e=.returned (.slice A' l' c')/\PLst w' A' l' c' (pchain k f g)/\Below w.heap.size w w':=by
 have hfl:=hf.length
 have hpf:=plen_le f
 obtain ⟨LL,hLL⟩:∃ LL,LL=pchain k f g:=⟨_,rfl⟩
 rw[<- hLL]
 have HLL:=Lh hLL
 clear hLL
 go_enter Tryz.func46,Tryz.ntmps46
 go_wp2_with fail
 refine (degree_any _ _ _ _ _ (hf.at_ ikN) sf (by omega)).mono ?_
 rintro e w1 ⟨rfl,hb1⟩
 have hf1:=hf.below ikN hb1
 have hg1:=hg.below ikN hb1
 have Hb1:=Lh hb1
 clear hf hg hb1
 by_cases h0:plen f=0
 ·have hd:((plen f:Nat):Int)-1<0:=by omega
  have H0:=Lh h0
  clear hf1 hg1 h0
  go_wp2
  go_ret
  exact ⟨_,_,_,rfl,by rw[HLL.out];unfold pchain;rw[if_pos H0.out];exact ⟨rfl,.inl rfl⟩,Hb1.out⟩
 ·have hd:¬ ((plen f:Nat):Int)-1<0:=by omega
  have H0:=Lh h0
  clear h0
  go_wp2_with fail
  refine (reduced_any ikN _ _ _ _ _ hf1 sf (by omega)).mono ?_
  rintro e w2 ⟨A2,l2,c2,rfl,h2,hb2⟩
  have hg2:=hg1.below ikN hb2
  have hba:Below w2.heap.size w2 (w2.alloc (.cells #[.slice A2 l2 c2] 26)):=(Below.refl _ _).alloc (Nat.le_refl _) _
  have Hg3:=Lh (hg2.below ikN hba)
  have HO:=Lh (OwnP.one h2)
  have H3:=Lh (h2.below ikN hba)
  have hg0:w.heap.size<=w2.heap.size:=Nat.le_trans Hb1.out.size hb2.size
  have Hb3:=Lh ((Hb1.out.trans (hb2.mono Hb1.out.size)).trans (hba.mono (Hb1.out.trans (hb2.mono Hb1.out.size)).size))
  clear hf1 hg1 h2 hb2 hg2 hba Hb1
  go_wp2_with fail
  go_region_held3 (fun w'=>w'.cell? ⟨w2.heap.size,0,none⟩=some (.slice A2 l2 c2)) (go_keep) (first
   | (go_at_call 77;go_must (refine (reduced_any ikN _ _ _ _ _ ?_ sg (by omega)).mono ?_;(exact Hg3.out.below ikN Bel.go);rintro e w4 ⟨A4,l4,c4,rfl,h4,hb4⟩;have H4:=Lh h4;have Hb4:=Lh (Hb3.out.trans ((Below.trans Bel.go (hb4.mono (by simp<;>omega))).mono Hb3.out.size));have H34:=Lh (H3.out.below ikN (Below.trans Bel.go (hb4.mono (by simp<;>omega))));have HO4:=Lh (HO.out.below (Below.trans Bel.go (hb4.mono (by simp<;>omega))));obtain ⟨hcx,hfx⟩:=bcellS hb4;have v0:w4.cell? ⟨w2.heap.size,0,none⟩=some (.slice A2 l2 c2):=(hcx _ (by go_simp)).trans (by go_simp);clear h4 hcx hfx hb4)))
  have HL:=Lh (show LL=[pred f] ++ chn k (pred f) (pred g) by rw[HLL.out];unfold pchain;rw[if_neg H0.out];rfl)
  have hl2:l2<=1000000:=by have h1:=H34.out.length;have h2:=pred_le f;omega
  clear Hg3 HO H3 Hb3 v0 hd
  obtain ⟨g1,hg1⟩:∃ g1,g1=w2.heap.size:=⟨_,rfl⟩
  rw[<- hg1] at HO4 hg0
  have hLn:LL.length<=1000001:=by have:=HL.out;rw[this];simp;omega
  have Hok:=Lh hok
  clear hok hlen HLL
  subst hg1
  go_wp2
  go_loopw [5,6,7] (fun s5 s6 s7 wr=>∃ (g1 n cap:Nat) (ps:List (List Int)) (j:Nat) (a b:List Int) (A1:Option Addr) (l1 c1:Nat) (A2:Option Addr) (l2 c2:Nat),s5=.slice (some ⟨g1,0,none⟩) n cap/\s6=.slice A1 l1 c1/\s7=.slice A2 l2 c2/\OwnP wr g1 n cap ps/\PolyN wr A1 l1 c1 a/\PolyN wr A2 l2 c2 b/\chOK j a b/\LL=ps ++ chn j a b/\w.heap.size<=g1/\Below w.heap.size w wr) (fun s5 _ _ _=>LL.length-lenOf s5)
  case atStart=>exact ⟨_,_,_,_,k,_,_,_,_,_,_,_,_,rfl,rfl,rfl,HO4.out,H34.out,H4.out,Hok.out,HL.out,hg0,Hb4.out⟩
  case round =>
   clear HO4 H34 H4 Hok HL Hb4 hg0 hl2
   obtain ⟨g1,n,cap,ps,j,a,b,A1,l1,c1,A2,l2,c2,rfl,rfl,rfl,ho,ha,hb,hok,hL,hg1,hbw⟩:=hrel
   have Ho:=Lh ho
   have Ha:=Lh ha
   have Hb:=Lh hb
   have HL:=Lh hL
   have Hbw:=Lh hbw
   have hbl:=hb.length
   have hnp:=ho.len
   match j,hok with
   | j+1,hok =>
     by_cases hb0:b=[]
     ·subst hb0
      have hl2:l2=0:=hbl.symm
      subst hl2
      have hps:LL=ps:=by have:=HL.out;simp[chn] at this;exact this
      have Hps:=Lh hps
      clear ho ha hb hL hbw hok hbl hps
      go_wp2
      go_ret
      exact ⟨_,_,_,rfl,by rw[Hps.out];exact Ho.out.plst,Hbw.out⟩
     ·obtain ⟨hfit,hok2⟩:=hok.resolve_left hb0
      have hLs:LL=(ps ++ [b]) ++ chn j b (nrem a b):=by
       have h1:=HL.out
       simp only[chn] at h1
       rw[if_neg hb0] at h1
       rw[h1];simp
      have hnlt:n<LL.length:=by rw[hLs];simp;omega
      have hl2:0<l2:=by rw[<- hbl];exact List.length_pos_iff.2 hb0
      have hl2i:(0:Int)<(l2:Int):=by omega
      have hba:Below wr.heap.size wr (wr.alloc (.cells #[.slice A2 l2 c2] 26)):=(Below.refl _ _).alloc (Nat.le_refl _) _
      have Ho1:=Lh (Ho.out.below hba)
      have Ha1:=Lh (Ha.out.below ikN hba)
      have Hb1:=Lh (Hb.out.below ikN hba)
      have Hbw1:=Lh (Hbw.out.trans (hba.mono Hbw.out.size))
      have Hfit:=Lh hfit
      have Hok2:=Lh hok2
      have HLs:=Lh hLs
      clear ho ha hb hL hbw hok hfit hok2 hLs hba hbl Ho Ha Hb Hbw HL
      go_wp2_with (at_builtin;refine wpList_append_poly rfl (.tmp 22) (.tmp 24) rfl _ _ _ _ rfl Ho1.out _ _ _ _ _ rfl (by go_simp) Hb1.out (by omega) ?_)
      intro g' cap' w5 ho5 hg' hfr
      have Ho5:=Lh ho5
      have ha5:=hfr.poly Ha1.out
      have hb5:=hfr.poly Hb1.out
      have Hbw5:=Lh (hfr.below hg1 Hbw1.out.size Hbw1.out)
      have Hb5:=Lh hb5
      clear ho5 hfr Ho1 Ha1 Hb1 Hbw1
      go_wp2_with fail
      refine (negrem_any _ _ _ _ _ _ _ _ _ ha5 hb5 Hfit.out).mono ?_
      rintro e w6 ⟨A6,l6,c6,rfl,h6,hb6⟩
      have H6:=Lh h6
      have Hb6:=Lh (Hb5.out.below ikN hb6)
      have Ho6:=Lh (Ho5.out.below hb6)
      have Hbw6:=Lh (Hbw5.out.trans (hb6.mono Hbw5.out.size))
      clear ha5 hb5 h6 hb6 Hb5 Ho5 Hbw5
      go_wp2
      go_roundw
      case rel=>exact ⟨g',n+1,cap',_,j,_,_,_,_,_,_,_,_,rfl,rfl,rfl,Ho6.out,Hb6.out,H6.out,Hok2.out,HLs.out,by omega,Hbw6.out⟩
      case measure=>simp[lenOf];omega
set_option maxHeartbeats 400000 in
theorem sturmof_any (A:Option Addr) (la ca:Nat) (f:List Int) (w:World) (hf:PolyN w A la ca f) (sf:SmP f) (sd:SmP (pder f)) (hla:la<=1000000) (k:Nat) (hok:chOK k (pred f) (pred (pder f))) (hlen:(chn k (pred f) (pred (pder f))).length<=1000000) :
  Calls Tryz.prog 24 #[.slice A la ca] w fun e w'=>∃ A' l' c',e=.returned (.slice A' l' c')/\PLst w' A' l' c' (pchain k f (pder f))/\Below w.heap.size w w':=by
 have hfl:=hf.length
 have hpf:=plen_le f
 go_enter Tryz.func24,Tryz.ntmps24
 go_wp2_with fail
 refine (derivative_any ikN _ _ _ _ _ hf sf (by omega)).mono ?_
 rintro e w1 ⟨A1,l1,c1,rfl,h1,hb1⟩
 have hf1:=hf.below ikN hb1
 have hl1:=h1.length
 rw[pder_length] at hl1
 have Hb1:=Lh hb1
 clear hf hb1
 go_wp2_with fail
 refine (chain_any _ _ _ _ _ _ _ _ _ hf1 h1 sf sd hla (by omega) k hok hlen).mono ?_
 rintro e w2 ⟨A2,l2,c2,rfl,h2,hb2⟩
 have H2:=Lh h2
 have Hb2:=Lh (Hb1.out.trans (hb2.mono Hb1.out.size))
 clear hf1 h1 h2 hb2
 go_wp2
 go_ret
 exact ⟨_,_,_,rfl,H2.out,Hb2.out⟩
end Go.Proofs.YtpeiiomjnjemjaaGreat
namespace Go.Proofs.YtpeiiomjnjemjaaGreat
open Go.RowKit
def sge (m:Bool) (f:List Int):Int:=if m=true/\¬ ((plen f:Nat):Int).tmod 2=1 then -(sg (plead f)) else sg (plead f)
theorem sge_unit (m:Bool) (f:List Int):sge m f=-1∨sge m f=0∨sge m f=1:=by
 unfold sge
 split<;>rcases sg_cases (plead f) with ⟨_,e⟩ | ⟨_,e⟩ | ⟨_,e⟩<;>omega
set_option maxHeartbeats 1000000 in
theorem signend_any {I:IntPred} (hI:IK I) (A:Option Addr) (len cap:Nat) (f:List Int) (m:Bool) (w:World) (h:PolyP I w A len cap f) (hs:SmP f) (hm:len<=1000000000) :
  Calls Tryz.prog 94 #[.slice A len cap,.bool m] w fun e w'=>e=.returned (.int .i64 (sge m f))/\Below w.heap.size w w':=by
 have hpl:plen f<=1000000000:=by have:=plen_le f;have:=h.length;omega
 have hsc:sg (plead f)=-1∨sg (plead f)=0∨sg (plead f)=1:=by rcases sg_cases (plead f) with ⟨_,e⟩ | ⟨_,e⟩ | ⟨_,e⟩<;>omega
 have sl:SmI (plead f):=hs.getD _
 obtain ⟨s,hsv⟩:∃ s,s=sg (plead f):=⟨_,rfl⟩
 obtain ⟨r,hr⟩:∃ r,r=sge m f:=⟨_,rfl⟩
 rw[<- hr]
 rw[<- hsv] at hsc
 have hwn:IntKind.i64.wrap (-s)=-s:=IntWalk.i64_in _ (by omega)
 have Hsv:=Lh hsv
 have Hr:=Lh hr
 clear hsv hr
 go_enter Tryz.func94,Tryz.ntmps94
 go_wp2_with fail
 refine (lead_any _ _ _ _ _ (h.at_ hI) hs (by omega)).mono ?_
 rintro e w1 ⟨n1,A1,l1,c1,rfl,h1,hb1⟩
 have h01:=h.below hI hb1
 have Hb1:=Lh hb1
 clear h hb1
 go_wp2_with fail
 refine (isign_any _ _ _ _ _ _ h1.at_ sl).mono ?_
 rintro e w2 ⟨he,rfl⟩
 rw[<- Hsv.out] at he
 subst he
 have hb2:Below w1.heap.size w1 (w1.alloc (ibox n1 A1 l1 c1)):=(Below.refl _ _).alloc (Nat.le_refl _) _
 have h02:=h01.below hI hb2
 have Hb2:=Lh (Hb1.out.trans (hb2.mono Hb1.out.size))
 clear h01 h1 hb2 Hb1
 cases m with
 | false =>
   have hrs:r=s:=by rw[Hr.out,Hsv.out];unfold sge;rw[if_neg (by simp)]
   clear h02
   go_wp2
   go_ret
   exact ⟨by rw[hrs];rfl,Hb2.out⟩
 | true =>
   go_wp2_with fail
   refine (degree_any _ _ _ _ _ (h02.at_ hI) hs (by omega)).mono ?_
   rintro e w3 ⟨rfl,hb3⟩
   have Hb3:=Lh (Hb2.out.trans (hb3.mono Hb2.out.size))
   clear h02 hb3 Hb2
   obtain ⟨dd,hdd⟩:∃ dd:Int,dd=((plen f:Nat):Int)-1:=⟨_,rfl⟩
   rw[<- hdd]
   have Hdd:=Lh hdd
   have hdb:-1<=dd/\dd<=1000000000:=by omega
   clear hdd
   by_cases hp:dd.tmod 2=0
   ·have hbn:(dd.tmod 2 != 0)=false:=by rw[hp];rfl
    have hodd:((plen f:Nat):Int).tmod 2=1:=by
     have h1:=Hdd.out
     rcases Nat.eq_zero_or_pos (plen f) with h0 | h0
     ·rw[h0] at h1;rw[h1] at hp;exact absurd hp (by decide)
     ·obtain ⟨n,hn⟩:∃ n:Nat,plen f=n+1:=⟨plen f-1,by omega⟩
      have h2:dd=(n:Int):=by rw[h1,hn];omega
      rw[h2,show (2:Int)=((2:Nat):Int) from rfl,<- Int.ofNat_tmod] at hp
      rw[hn,show (2:Int)=((2:Nat):Int) from rfl,<- Int.ofNat_tmod]
      omega
    have hrs:r=s:=by
     rw[Hr.out,Hsv.out];unfold sge
     rw[if_neg (fun hh=>hh.2 hodd)]
    have Hrs:=Lh hrs
    clear hrs
    go_wp2
    go_ret
    exact ⟨by rw[Hrs.out];rfl,Hb3.out⟩
   ·have hbn:(dd.tmod 2 != 0)=true:=by simpa using hp
    have hrs:r=-s:=by
     rw[Hr.out,Hsv.out];unfold sge
     rcases Nat.eq_zero_or_pos (plen f) with h0 | h0
     ·have h3:plead f=0:=plead_zero.2 h0
      rw[h3];split<;>rfl
     ·have hev:¬ ((plen f:Nat):Int).tmod 2=1:=by
       have h1:=Hdd.out
       obtain ⟨n,hn⟩:∃ n:Nat,plen f=n+1:=⟨plen f-1,by omega⟩
       have h2:dd=(n:Int):=by rw[h1,hn];omega
       rw[h2,show (2:Int)=((2:Nat):Int) from rfl,<- Int.ofNat_tmod] at hp
       rw[hn,show (2:Int)=((2:Nat):Int) from rfl,<- Int.ofNat_tmod]
       omega
      rw[if_pos ⟨rfl,hev⟩]
    have Hrs:=Lh hrs
    clear hrs
    go_wp2
    go_ret
    exact ⟨by rw[Hrs.out];rfl,Hb3.out⟩
def Sgn1 (S:List Int):Prop:=∀ k,S.getD k 0=-1∨S.getD k 0=0∨S.getD k 0=1
set_option maxRecDepth 100000 in
set_option maxHeartbeats 2000000 in
theorem changesE_any (cv:Value) (S:List Int) (A:Option Addr) (len cap:Nat) (ps:List (List Int)) (w:World) (h:PLst w A len cap ps) (hS:Sgn1 S) (hl:len<=1000000)
  (hcall:∀ k,k<len->∀ Aj lj cj w',PolyAt w' Aj lj cj (ps.getD k [])->Below w.heap.size w w'->Calls Tryz.prog 93 #[.slice Aj lj cj,cv] w' fun e w''=>e=.returned (.int .i64 (S.getD k 0))/\Below w'.heap.size w' w'') :
  Calls Tryz.prog 74 #[.slice A len cap,.func (.func 93) #[] #[cv]] w fun e w'=>e=.returned (.int .i64 ((vst S len).1:Nat))/\Below w.heap.size w w':=by
 have Hcall:=Lh hcall
 clear hcall
 go_enter Tryz.func74,Tryz.ntmps74
 go_wp2
 go_loopw [5,6,12] (fun c l i wr=>∃ (k cc:Nat) (ll:Int),k<=len/\c=.int .i64 (cc:Int)/\l=.int .i64 ll/\i=.int .i64 (k:Int)/\vst S k=(cc,ll)/\Below w.heap.size w wr) (fun _ _ i _=>len-(intOf i).toNat)
 case atStart=>exact ⟨0,0,0,Nat.zero_le _,rfl,rfl,rfl,rfl,Below.refl _ _⟩
 case round =>
  obtain ⟨k,cc,ll,hk,rfl,rfl,rfl,hst,hbw⟩:=hrel
  have hle:=vst_le S k
  rw[hst] at hle
  obtain ⟨hcc,hll⟩:=hle
  simp only at hcc hll
  have Hst:=Lh hst
  clear hst
  by_cases hlt:k<len
  ·obtain ⟨b,off,rfl,hb,hc⟩:=h.elems.resolve_left (by omega)
   obtain ⟨Aj,lj,cj,c0,hz⟩:=hc k hlt
   have e0:=(hbw.cell (p:=⟨b,off+k,none⟩) hb).trans c0
   have hz2:=hz.below ikAt hbw
   have hkl:(k:Int)<(len:Int):=by omega
   have Hb:=Lh hbw
   have Hc:=Lh (Hcall.out k hlt Aj lj cj wr hz2 hbw)
   clear hc h c0 hz hbw hz2
   go_wp2_with fail
   refine (Hc.out).mono ?_
   rintro e w2 ⟨he,hb2⟩
   have Hbn:=Lh (Hb.out.trans (hb2.mono Hb.out.size))
   obtain ⟨s,hsv⟩:∃ s,s=S.getD k 0:=⟨_,rfl⟩
   rw[<- hsv] at he
   subst he
   have hcase:=hS k
   rw[<- hsv] at hcase
   have Hsv:Hid (sg (S.getD k 0)=s):=Lh (by rw[<- hsv];rcases hcase with rfl | rfl | rfl<;>rfl)
   clear hsv e0 hb2 Hc Hb
   rcases hcase with rfl | rfl | rfl
   ·rcases hll with rfl | rfl | rfl
    ·have Hn:=Lh (vst_same Hst.out Hsv.out (by omega) (by omega))
     go_wp2
     go_roundw
     case rel=>exact ⟨k+1,_,_,by omega,rfl,rfl,by go_num,Hn.out,Hbn.out⟩
     case measure=>simp[intOf];omega
    ·have Hn:=Lh (vst_same Hst.out Hsv.out (by omega) (by omega))
     go_wp2
     go_roundw
     case rel=>exact ⟨k+1,_,_,by omega,rfl,rfl,by go_num,Hn.out,Hbn.out⟩
     case measure=>simp[intOf];omega
    ·have Hn:=Lh (vst_turn Hst.out Hsv.out (by omega) (by omega))
     go_wp2
     go_roundw
     case rel=>exact ⟨k+1,_,_,by omega,by go_num,rfl,by go_num,Hn.out,Hbn.out⟩
     case measure=>simp[intOf];omega
   ·have Hn:=Lh (vst_zero Hst.out Hsv.out)
    go_wp2
    go_roundw
    case rel=>exact ⟨k+1,_,_,by omega,rfl,rfl,by go_num,Hn.out,Hbn.out⟩
    case measure=>simp[intOf];omega
   ·rcases hll with rfl | rfl | rfl
    ·have Hn:=Lh (vst_turn Hst.out Hsv.out (by omega) (by omega))
     go_wp2
     go_roundw
     case rel=>exact ⟨k+1,_,_,by omega,by go_num,rfl,by go_num,Hn.out,Hbn.out⟩
     case measure=>simp[intOf];omega
    ·have Hn:=Lh (vst_same Hst.out Hsv.out (by omega) (by omega))
     go_wp2
     go_roundw
     case rel=>exact ⟨k+1,_,_,by omega,rfl,rfl,by go_num,Hn.out,Hbn.out⟩
     case measure=>simp[intOf];omega
    ·have Hn:=Lh (vst_same Hst.out Hsv.out (by omega) (by omega))
     go_wp2
     go_roundw
     case rel=>exact ⟨k+1,_,_,by omega,rfl,rfl,by go_num,Hn.out,Hbn.out⟩
     case measure=>simp[intOf];omega
  ·have hk2:len=k:=by omega
   subst hk2
   have hkl:¬ (len:Int)<(len:Int):=by omega
   have Hb:=Lh hbw
   clear hbw h
   go_wp2
   go_ret
   exact ⟨by rw[Hst.out];rfl,Hb.out⟩
set_option maxRecDepth 100000 in
set_option maxHeartbeats 2000000 in
theorem changesV_any (cv:Value) (S:List Int) (A:Option Addr) (len cap:Nat) (ps:List (List Int)) (w:World) (h:PLst w A len cap ps) (hS:Sgn1 S) (hl:len<=1000000)
  (hcall:∀ k,k<len->∀ Aj lj cj w',PolyAt w' Aj lj cj (ps.getD k [])->Below w.heap.size w w'->Calls Tryz.prog 75 #[.slice Aj lj cj,cv] w' fun e w''=>e=.returned (.int .i64 (S.getD k 0))/\Below w'.heap.size w' w'') :
  Calls Tryz.prog 74 #[.slice A len cap,.func (.func 75) #[] #[cv]] w fun e w'=>e=.returned (.int .i64 ((vst S len).1:Nat))/\Below w.heap.size w w':=by
 have Hcall:=Lh hcall
 clear hcall
 go_enter Tryz.func74,Tryz.ntmps74
 go_wp2
 go_loopw [5,6,12] (fun c l i wr=>∃ (k cc:Nat) (ll:Int),k<=len/\c=.int .i64 (cc:Int)/\l=.int .i64 ll/\i=.int .i64 (k:Int)/\vst S k=(cc,ll)/\Below w.heap.size w wr) (fun _ _ i _=>len-(intOf i).toNat)
 case atStart=>exact ⟨0,0,0,Nat.zero_le _,rfl,rfl,rfl,rfl,Below.refl _ _⟩
 case round =>
  obtain ⟨k,cc,ll,hk,rfl,rfl,rfl,hst,hbw⟩:=hrel
  have hle:=vst_le S k
  rw[hst] at hle
  obtain ⟨hcc,hll⟩:=hle
  simp only at hcc hll
  have Hst:=Lh hst
  clear hst
  by_cases hlt:k<len
  ·obtain ⟨b,off,rfl,hb,hc⟩:=h.elems.resolve_left (by omega)
   obtain ⟨Aj,lj,cj,c0,hz⟩:=hc k hlt
   have e0:=(hbw.cell (p:=⟨b,off+k,none⟩) hb).trans c0
   have hz2:=hz.below ikAt hbw
   have hkl:(k:Int)<(len:Int):=by omega
   have Hb:=Lh hbw
   have Hc:=Lh (Hcall.out k hlt Aj lj cj wr hz2 hbw)
   clear hc h c0 hz hbw hz2
   go_wp2_with fail
   refine (Hc.out).mono ?_
   rintro e w2 ⟨he,hb2⟩
   have Hbn:=Lh (Hb.out.trans (hb2.mono Hb.out.size))
   obtain ⟨s,hsv⟩:∃ s,s=S.getD k 0:=⟨_,rfl⟩
   rw[<- hsv] at he
   subst he
   have hcase:=hS k
   rw[<- hsv] at hcase
   have Hsv:Hid (sg (S.getD k 0)=s):=Lh (by rw[<- hsv];rcases hcase with rfl | rfl | rfl<;>rfl)
   clear hsv e0 hb2 Hc Hb
   rcases hcase with rfl | rfl | rfl
   ·rcases hll with rfl | rfl | rfl
    ·have Hn:=Lh (vst_same Hst.out Hsv.out (by omega) (by omega))
     go_wp2
     go_roundw
     case rel=>exact ⟨k+1,_,_,by omega,rfl,rfl,by go_num,Hn.out,Hbn.out⟩
     case measure=>simp[intOf];omega
    ·have Hn:=Lh (vst_same Hst.out Hsv.out (by omega) (by omega))
     go_wp2
     go_roundw
     case rel=>exact ⟨k+1,_,_,by omega,rfl,rfl,by go_num,Hn.out,Hbn.out⟩
     case measure=>simp[intOf];omega
    ·have Hn:=Lh (vst_turn Hst.out Hsv.out (by omega) (by omega))
     go_wp2
     go_roundw
     case rel=>exact ⟨k+1,_,_,by omega,by go_num,rfl,by go_num,Hn.out,Hbn.out⟩
     case measure=>simp[intOf];omega
   ·have Hn:=Lh (vst_zero Hst.out Hsv.out)
    go_wp2
    go_roundw
    case rel=>exact ⟨k+1,_,_,by omega,rfl,rfl,by go_num,Hn.out,Hbn.out⟩
    case measure=>simp[intOf];omega
   ·rcases hll with rfl | rfl | rfl
    ·have Hn:=Lh (vst_turn Hst.out Hsv.out (by omega) (by omega))
     go_wp2
     go_roundw
     case rel=>exact ⟨k+1,_,_,by omega,by go_num,rfl,by go_num,Hn.out,Hbn.out⟩
     case measure=>simp[intOf];omega
    ·have Hn:=Lh (vst_same Hst.out Hsv.out (by omega) (by omega))
     go_wp2
     go_roundw
     case rel=>exact ⟨k+1,_,_,by omega,rfl,rfl,by go_num,Hn.out,Hbn.out⟩
     case measure=>simp[intOf];omega
    ·have Hn:=Lh (vst_same Hst.out Hsv.out (by omega) (by omega))
     go_wp2
     go_roundw
     case rel=>exact ⟨k+1,_,_,by omega,rfl,rfl,by go_num,Hn.out,Hbn.out⟩
     case measure=>simp[intOf];omega
  ·have hk2:len=k:=by omega
   subst hk2
   have hkl:¬ (len:Int)<(len:Int):=by omega
   have Hb:=Lh hbw
   clear hbw h
   go_wp2
   go_ret
   exact ⟨by rw[Hst.out];rfl,Hb.out⟩
end Go.Proofs.YtpeiiomjnjemjaaGreat
namespace Go.Proofs.YtpeiiomjnjemjaaGreat
open Go.RowKit
theorem varend1_any {I:IntPred} (hI:IK I) (A:Option Addr) (len cap:Nat) (f:List Int) (gm:Nat) (m:Bool) (w:World) (h:PolyP I w A len cap f) (hs:SmP f) (hl:len<=1000000000) (hm:w.cell? ⟨gm,0,none⟩=some (.bool m)) :
  Calls Tryz.prog 93 #[.slice A len cap,.pointer (some ⟨gm,0,none⟩)] w fun e w'=>e=.returned (.int .i64 (sge m f))/\Below w.heap.size w w':=by
 go_enter Tryz.func93,Tryz.ntmps93
 go_wp2_with fail
 refine (signend_any hI _ _ _ _ m _ h hs hl).mono ?_
 rintro e w1 ⟨rfl,hb⟩
 have Hb:=Lh hb
 clear h hm hb
 go_wp2
 go_ret
 exact ⟨rfl,Hb.out⟩
theorem sgnMap (F:List Int->Int) (hF:∀ f,F f=-1∨F f=0∨F f=1) (ps:List (List Int)):Sgn1 (ps.map F):=fun k=>by
 rw[List.getD_eq_getElem?_getD,List.getElem?_map]
 cases ps[k]? with
 | none=>exact .inr (.inl rfl)
 | some p=>exact hF p
theorem mapF_get (F:List Int->Int) (ps:List (List Int)) {k:Nat} (hk:k<ps.length):(ps.map F).getD k 0=F (ps.getD k []):=by
 simp[List.getD_eq_getElem?_getD,List.getElem?_eq_getElem hk]
set_option maxHeartbeats 400000 in
theorem varend_any (m:Bool) (A:Option Addr) (len cap:Nat) (ps:List (List Int)) (w:World) (h:PLst w A len cap ps) (hs:∀ p∈ps,SmP p/\p.length<=1000000000) (hl:len<=1000000) :
  Calls Tryz.prog 76 #[.slice A len cap,.bool m] w fun e w'=>e=.returned (.int .i64 ((vst (ps.map (sge m)) len).1:Nat))/\Below w.heap.size w w':=by
 have hba:Below w.heap.size w (w.alloc (.cells #[.bool m] 4)):=(Below.refl _ _).alloc (Nat.le_refl _) _
 have h1:=h.below hba
 have hlen:=h.length
 have Hba:=Lh hba
 have hc0:(w.alloc (.cells #[.bool m] 4)).cell? ⟨w.heap.size,0,none⟩=some (.bool m):=by go_simp
 have Hc0:=Lh hc0
 have hcall:∀ k,k<len->∀ Aj lj cj w',PolyAt w' Aj lj cj (ps.getD k [])->Below (w.alloc (.cells #[.bool m] 4)).heap.size (w.alloc (.cells #[.bool m] 4)) w'->Calls Tryz.prog 93 #[.slice Aj lj cj,.pointer (some ⟨w.heap.size,0,none⟩)] w' fun e w''=>e=.returned (.int .i64 ((ps.map (sge m)).getD k 0))/\Below w'.heap.size w' w'':=by
  intro k hk Aj lj cj w' hp hb
  have hmem:ps.getD k []∈ps:=by rw[List.getD_eq_getElem?_getD,List.getElem?_eq_getElem (by omega)];exact List.getElem_mem _
  obtain ⟨s1,s2⟩:=hs _ hmem
  rw[mapF_get _ _ (by omega)]
  exact varend1_any ikAt _ _ _ _ _ m _ hp s1 (by rw[<- hp.length];exact s2) ((hb.cell (p:=⟨w.heap.size,0,none⟩) (by simp)).trans Hc0.out)
 clear h hba hc0
 go_enter Tryz.func76,Tryz.ntmps76
 go_wp2_with fail
 refine (changesE_any _ (ps.map (sge m)) _ _ _ ps _ h1 (sgnMap _ (sge_unit m) ps) hl hcall).mono ?_
 rintro e w1 ⟨rfl,hb⟩
 have Hb:=Lh (Hba.out.trans (hb.mono Hba.out.size))
 clear h1 hb hcall
 go_wp2
 go_ret
 exact ⟨rfl,Hb.out⟩
set_option maxHeartbeats 400000 in
theorem lost_any (A:Option Addr) (len cap:Nat) (ps:List (List Int)) (w:World) (h:PLst w A len cap ps) (hs:∀ p∈ps,SmP p/\p.length<=1000000000) (hl:len<=1000000) :
  Calls Tryz.prog 45 #[.slice A len cap] w fun e w'=>e=.returned (.int .i64 (((vst (ps.map (sge true)) len).1:Int)-((vst (ps.map (sge false)) len).1:Int)))/\Below w.heap.size w w':=by
 have h1:=(vst_le (ps.map (sge true)) len).1
 have h2:=(vst_le (ps.map (sge false)) len).1
 obtain ⟨a,ha⟩:∃ a,a=(vst (ps.map (sge true)) len).1:=⟨_,rfl⟩
 obtain ⟨b,hb⟩:∃ b,b=(vst (ps.map (sge false)) len).1:=⟨_,rfl⟩
 rw[<- ha] at h1
 rw[<- hb] at h2
 rw[<- ha,<- hb]
 have hw:IntKind.i64.wrap ((a:Int)-(b:Int))=(a:Int)-(b:Int):=IntWalk.i64_in _ (by omega)
 have Ha:=Lh ha
 have Hb:=Lh hb
 clear ha hb
 go_enter Tryz.func45,Tryz.ntmps45
 go_wp2_with fail
 refine (varend_any true _ _ _ _ _ h hs hl).mono ?_
 rintro e w1 ⟨he,hb1⟩
 rw[<- Ha.out] at he
 subst he
 have h01:=h.below hb1
 have Hb1:=Lh hb1
 clear h hb1
 go_wp2_with fail
 refine (varend_any false _ _ _ _ _ h01 hs hl).mono ?_
 rintro e w2 ⟨he,hb2⟩
 rw[<- Hb.out] at he
 subst he
 have Hb2:=Lh (Hb1.out.trans (hb2.mono Hb1.out.size))
 clear h01 hb2
 go_wp2
 go_ret
 exact ⟨rfl,Hb2.out⟩
end Go.Proofs.YtpeiiomjnjemjaaGreat
