/- The walks of descartes.primitive, Mobius and Variations. -/
import Derived.Test.YtphmkdmflopcdaaGreatTra
import Derived.Test.YtphmkdmflopcdaaGreatDer
import Derived.Test.YtphmkdmflopcdaaGreatRbH
import Derived.Test.YtphmkdmflopcdaaGreatRatD
namespace Go.Proofs.YtphmkdmflopcdaaGreat
open Go.RowKit
def pctd (f:List Int):List Int:=f.map (·.tdiv (pcont f:Int))
theorem pctd_get (f:List Int) (k:Nat):(pctd f).getD k 0=(f.getD k 0).tdiv (pcont f:Int):=by
 unfold pctd
 rw[List.getD_eq_getElem?_getD,List.getD_eq_getElem?_getD,List.getElem?_map]
 cases f[k]? with
 | none=>simp
 | some x=>simp
theorem pctd_smp {f:List Int} (h:SmP f):SmP (pctd f):=fun c hc=>by
 obtain ⟨x,hx,rfl⟩:=List.mem_map.1 hc
 exact (h x hx).mono (by rw[Int.natAbs_tdiv];exact Nat.div_le_self _ _)
set_option maxRecDepth 100000 in
set_option maxHeartbeats 4000000 in
theorem dprim_any (A:Option Addr) (len cap:Nat) (f:List Int) (w:World) (h:PolyN w A len cap f) (hs:SmP f) (hm:len<=1000000000) (h1:plen f≠0) :
  Calls Tryz.prog 69 #[.slice A len cap] w fun e w'=>∃ A' l' c',e=.returned (.slice A' l' c')/\PolyN w' A' l' c' (ptrim (pctd f))/\Below w.heap.size w w':=by
 have hl:=h.length
 have hc0:(pcont f:Int)≠0:=by have:=pcont_ne h1;omega
 have scn:SmI (pcont f:Int):=by unfold SmI;rw[Int.natAbs_natCast];exact pcont_sm hs
 have hmod:∀ k,(f.getD k 0).tmod (pcont f:Int)=0:=fun k=>by
  have h2:=pcont_get f k
  have h3:(pcont f:Int)∣f.getD k 0:=by rw[<- Int.natAbs_dvd_natAbs,Int.natAbs_natCast];exact h2
  exact Int.tmod_eq_zero_of_dvd h3
 have hq:=pctd_get f
 have hql:(pctd f).length=len:=by unfold pctd;rw[List.length_map];exact hl
 have hqs:=pctd_smp hs
 obtain ⟨q,hqe⟩:∃ q,q=pctd f:=⟨_,rfl⟩
 rw[<- hqe] at hq hql hqs ⊢
 obtain ⟨c,hce⟩:∃ c:Int,c=(pcont f:Int):=⟨_,rfl⟩
 rw[<- hce] at hc0 scn hmod hq
 have Hq:=Lh hq
 have Hmod:=Lh hmod
 have Hql:=Lh hql
 have HCE:=Lh hce
 have sf:∀ k,SmI (f.getD k 0):=fun k=>hs.getD k
 clear hqe hq hmod hql hce h1 hl
 go_enter Tryz.func69,Tryz.ntmps69
 go_wp2_with fail
 refine (content_any ikN _ _ _ _ _ h hs hm).mono ?_
 rintro e w1 ⟨n1,A1,l1,c1,rfl,hz1,hb1⟩
 rw[<- HCE.out] at hz1
 have j1:=below_new w1 (ibox n1 A1 l1 c1)
 have HX:=Lh (IBox.make hz1)
 have HF:=Lh ((h.below ikN hb1).below ikN j1)
 have Hb:=Lh (hb1.trans (j1.mono hb1.size))
 clear h hz1 hb1 j1
 obtain ⟨wa,hwa⟩:∃ wa,wa=w1.alloc (ibox n1 A1 l1 c1):=⟨_,rfl⟩
 have hsa:wa.heap.size=w1.heap.size+1:=by rw[hwa];simp
 go_wp2_with (at_make;refine wpList_make_poly _ rfl (.tmp 10) (.tmp 10) rfl len rfl rfl (by omega) ?_)
 rw[<- hwa] at HX HF Hb ⊢
 clear hwa
 intro w2 hz hb2 hsz
 rw[<- upto_zero q len] at hz
 have Hz:=Lh hz
 have Hb2:=Lh hb2
 obtain ⟨gr,hgr⟩:∃ gr,gr=w1.heap.size+1:=⟨_,rfl⟩
 rw[<- hgr] at Hz Hb2 ⊢
 have Hgr:=Lh (hgr.trans hsa.symm)
 have lgr:w1.heap.size<gr:=by omega
 clear hz hb2 hsz hsa hgr
 go_wp2
 go_loopw [14] (fun s14 wr=>∃ k:Nat,k<=len/\s14=.int .i64 (k:Int)/\PRow wr gr (upto q k len)/\Below gr wa wr) (fun s14 _=>len-(intOf s14).toNat)
 case atStart=>exact ⟨0,Nat.zero_le _,rfl,Hz.out,Hb2.out⟩
 case round =>
  clear Hz Hb2
  obtain ⟨k,hk,rfl,hrow,hbw⟩:=hrel
  by_cases hlt:k<len
  ·obtain ⟨b1,o1,rfl,hb1,hc1⟩:=HF.out.get (by omega)
   obtain ⟨nf,Af,lf,cf,f0,f1,zf⟩:=hc1 k hlt
   have hbg:b1<gr:=by rw[Hgr.out];exact hb1
   have e0:=(hbw.cell (p:=⟨b1,o1+k*2,none⟩) hbg).trans f0
   have e1:=(hbw.cell (p:=⟨b1,o1+k*2+1,none⟩) hbg).trans f1
   have hbw':Below wa.heap.size wa wr:=by rw[<- Hgr.out];exact hbw
   have zf2:=zf.below hbw'
   have x2:=HX.out.move hbw'
   have x0:=x2.c0
   have x1:=x2.c1
   have hul:(upto q k len).length=len:=upto_length _ _ _
   have hgs:=hrow.lt
   obtain ⟨n0,A0,l0,c0,d0,d1,_⟩:=hrow.elems k (by rw[hul];exact hlt)
   have fr0:=hrow.frozen (k*2)
   have fr1:=hrow.frozen (k*2+1)
   have Zf:=Lh zf2
   have X2:=Lh x2
   have Hrow:=Lh hrow
   have Hbw:=Lh hbw
   have hd:=Hmod.out k
   have sk:=sf k
   have HE:=Lh (Hq.out k)
   have lt1:w1.heap.size<wr.heap.size:=by omega
   have lt2:gr<wr.heap.size:=hgs
   have hkn:(k:Int)<(len:Int):=by omega
   clear hc1 f0 f1 zf hb1 hbw' zf2 x2 hrow hbw
   go_wp2_with fail
   refine (iexact_any _ _ _ _ _ _ _ _ _ _ _ (Zf.out.at_.below Bel.go) (X2.out.hz.at_.below Bel.go) sk scn hc0 hd).mono ?_
   rintro e w3 ⟨n3,A3,l3,c3,rfl,h3,hb3⟩
   have hba:Below wr.heap.size wr w3:=Below.trans Bel.go (hb3.mono (by simp<;>omega))
   have hrw:=Hrow.out.below hba
   have Hb3:=Lh (Hbw.out.trans (hba.mono (by omega)))
   have hst:=upto_set q (k:=k) (n:=len) hlt
   rw[HE.out] at hst
   have hr2:=hrw.set_ (i:=k) (by rw[hul];exact hlt) h3
   rw[hst] at hr2
   have Hr2:=Lh hr2
   obtain ⟨n5,A5,l5,c5,p0,p1,_⟩:=hrw.elems k (by rw[hul];exact hlt)
   have p2:=hrw.frozen (k*2)
   have p3:=hrw.frozen (k*2+1)
   clear e0 e1 x0 x1 d0 d1 fr0 fr1 h3 hb3 hba hrw hst hr2 hul Zf X2 Hrow Hbw HE
   go_wp2_with fail
   go_roundw
   case rel=>exact ⟨k+1,by omega,by go_num,Hr2.out,(Hb3.out.setCell (p:=⟨gr,k*2,none⟩) (Nat.le_refl _) _).setCell (p:=⟨gr,k*2+1,none⟩) (Nat.le_refl _) _⟩
   case measure=>simp[intOf];omega
  ·have hk2:len=k:=by omega
   subst hk2
   have hkn:¬ (len:Int)<(len:Int):=by omega
   have hup:upto q len len=q:=by have:=upto_full q;rw[Hql.out] at this;exact this
   rw[hup] at hrow
   have hp:=hrow.poly (cap:=len) (by rw[Hql.out];exact Nat.le_refl _)
   rw[Hql.out] at hp
   have hb4:Below w.heap.size w wr:=Hb.out.trans (hbw.mono (by rw[Hgr.out];exact Hb.out.size))
   have Hb4:=Lh hb4
   clear hup hrow hbw hb4
   go_wp2_with fail
   refine (pnormal_any ikN _ _ _ _ _ hp hqs (by omega)).mono ?_
   rintro e w5 ⟨g5,rfl,hr5,hg5,hb5⟩
   have hp5:=hr5.poly (cap:=plen q) (by rw[ptrim_length];exact Nat.le_refl _)
   rw[ptrim_length] at hp5
   have Hp5:=Lh hp5
   have Hb5:=Lh (Hb4.out.trans (hb5.mono Hb4.out.size))
   clear hp hr5 hb5 hp5
   go_wp2
   go_ret
   exact ⟨_,_,_,rfl,Hp5.out,Hb5.out⟩
def cdD (q q':Nat) (z z':Int):Int:=lcd (q / Nat.gcd z.natAbs q) (q' / Nat.gcd z'.natAbs q')
def cdP (q q':Nat) (z z':Int):Int:=z.tdiv (Nat.gcd z.natAbs q)*(cdD q q' z z').tdiv ((q / Nat.gcd z.natAbs q:Nat):Int)
def cdQ (q q':Nat) (z z':Int):Int:=z'.tdiv (Nat.gcd z'.natAbs q')*(cdD q q' z z').tdiv ((q' / Nat.gcd z'.natAbs q':Nat):Int)
def pmob (f:List Int) (P Q D:Int):List Int:=ptrim (pctd (trs f P Q D (f.length-1)).1)
def pmobius (f:List Int) (q q':Nat) (z z':Int):List Int:=if plen f=0∨¬ (z*(q':Int)<z'*(q:Int)) then [] else pmob (ptrim f) (cdP q q' z z') (cdQ q q' z z') (cdD q q' z z')
def MobOK (f:List Int) (q q':Nat) (z z':Int):Prop:=1<=plen f->z*(q':Int)<z'*(q:Int)->TrOK (ptrim f) (cdP q q' z z') (cdQ q q' z z') (cdD q q' z z')/\plen (trs (ptrim f) (cdP q q' z z') (cdQ q q' z z') (cdD q q' z z') ((ptrim f).length-1)).1≠0/\1<=(ptrim f).length
set_option maxRecDepth 100000 in
set_option maxHeartbeats 4000000 in
theorem mobius_all {I:IntPred} (hI:IK I) (Af:Option Addr) (lf cf:Nat) (f:List Int) (n:Bool) (A:Option Addr) (l c:Nat) (B:Option Addr) (m d q:Nat) (z:Int) (n':Bool) (A':Option Addr) (l' c':Nat) (B':Option Addr) (m' d' q':Nat) (z':Int) (w:World) (hf:PolyP I w Af lf cf f) (hfm:lf<=900000) (fitf:FitP f)
  (hz:IntN w n A l c z) (hq:NatN w B m d q) (hz':IntN w n' A' l' c' z') (hq':NatN w B' m' d' q') (hu:Fit z) (hv:Fit (q:Int)) (h0:0<q) (hu':Fit z') (hv':Fit (q':Int)) (h0':0<q') (hok:MobOK f q q' z z') :
  Calls Tryz.prog 39 #[.slice Af lf cf,.agg #[.bool n,.slice A l c,.slice B m d],.agg #[.bool n',.slice A' l' c',.slice B' m' d']] w fun e w'=>∃ A1 l1 c1,e=.returned (.slice A1 l1 c1)/\PolyN w' A1 l1 c1 (pmobius f q q' z z')/\Below w.heap.size w w':=by
 have o1:=below_new w (rbox n A l c B m d)
 have o2:=below_new (w.alloc (rbox n A l c B m d)) (rbox n' A' l' c' B' m' d')
 have b2:Below w.heap.size w ((w.alloc (rbox n A l c B m d)).alloc (rbox n' A' l' c' B' m' d')):=o1.alloc (by simp) _
 have R1:=(RBox.make hz hq).move o2
 have R2:=RBox.make (hz'.below o1) (hq'.below o1)
 simp only[World.size_alloc] at R2
 have hf2:=hf.below hI b2
 replace R1:=Lh R1
 replace R2:=Lh R2
 have Hb:=Lh b2
 have hlf:=hf.length
 have hplf:=plen_le f
 obtain ⟨V,hV⟩:∃ V,V=pmobius f q q' z z':=⟨_,rfl⟩
 rw[<- hV]
 have HV:=Lh hV
 have Hok:=Lh hok
 clear o1 o2 b2 hz hq hz' hq' hf hV hok
 go_enter Tryz.func39,Tryz.ntmps39
 go_wp2_with fail
 refine (pnormal_any hI _ _ _ _ _ hf2 fitf.smp (by omega)).mono ?_
 rintro e w1 ⟨g1,rfl,hr1,hg1,hb1⟩
 have hp1:=hr1.poly (cap:=plen f) (by rw[ptrim_length];exact Nat.le_refl _)
 rw[ptrim_length] at hp1
 have HP:=Lh hp1
 replace R1:=Lh (R1.out.move hb1)
 replace R2:=Lh (R2.out.move hb1)
 replace Hb:=Lh (Hb.out.trans (hb1.mono Hb.out.size))
 obtain ⟨L,hL⟩:∃ L,L=plen f:=⟨_,rfl⟩
 rw[<- hL] at HP ⊢
 have HL:=Lh hL
 clear hf2 hr1 hb1 hp1
 by_cases h1:L=0
 ·have hb0:((L:Int) == 0)=true:=by rw[h1];rfl
  have hV0:V=[]:=by rw[HV.out];unfold pmobius;rw[if_pos (.inl (by rw[<- HL.out];exact h1))]
  have HV0:=Lh hV0
  clear h1 hV0 hL
  go_wp2_with fail
  go_ret
  exact ⟨_,_,_,rfl,by rw[HV0.out];exact PolyP.nil _ _ _ _,Hb.out⟩
 ·have hb0:((L:Int) == 0)=false:=by rw[beq_eq_false_iff_ne];omega
  have x0:=R1.out.c0
  have x1:=R1.out.c1
  have x2:=R1.out.c2
  have y0:=R2.out.c0
  have y1:=R2.out.c1
  have y2:=R2.out.c2
  have H1:=Lh (show 1<=plen f by omega)
  clear h1 hL
  go_wp2_with fail
  refine (rcmp_any _ _ _ _ _ _ _ _ _ _ _ _ _ _ _ _ _ _ _ R1.out.hz.at_ R1.out.hq.at_ R2.out.hz.at_ R2.out.hq.at_ (by omega) (by omega) hu hv hu' hv').mono ?_
  rintro e w2 ⟨rfl,hb2⟩
  replace R1:=Lh (R1.out.move hb2)
  replace R2:=Lh (R2.out.move hb2)
  replace HP:=Lh (HP.out.below ikN hb2)
  replace Hb:=Lh (Hb.out.trans (hb2.mono Hb.out.size))
  clear hb2 x0 x1 x2 y0 y1 y2
  by_cases hlt:z*(q':Int)<z'*(q:Int)
  ·have hcm:¬ (0<=cmpz (z*(q':Int)) (z'*(q:Int))):=by unfold cmpz;rw[if_pos hlt];omega
   have x0:=R1.out.c0
   have x1:=R1.out.c1
   have x2:=R1.out.c2
   have y0:=R2.out.c0
   have y1:=R2.out.c1
   have y2:=R2.out.c2
   obtain ⟨tok,tne,tl⟩:=Hok.out H1.out hlt
   have hVe:V=pmob (ptrim f) (cdP q q' z z') (cdQ q q' z z') (cdD q q' z z'):=by
    rw[HV.out];unfold pmobius
    rw[if_neg]
    rintro (h | h)
    ·have:=H1.out;omega
    ·exact h hlt
   have HVe:=Lh hVe
   have tfp:=fitf.trim
   have tpl:plen (ptrim f)=(ptrim f).length:=by rw[plen_ptrim,ptrim_length]
   obtain ⟨p,hp⟩:∃ p,p=ptrim f:=⟨_,rfl⟩
   rw[<- hp] at HP tok tne tl HVe tfp tpl
   obtain ⟨C,hC⟩:∃ C,C=cmpz (z*(q':Int)) (z'*(q:Int)):=⟨_,rfl⟩
   rw[<- hC] at hcm ⊢
   obtain ⟨T1,hT1⟩:∃ T,T=(trs p (cdP q q' z z') (cdQ q q' z z') (cdD q q' z z') (p.length-1)).1:=⟨_,rfl⟩
   have hT:=tok.2.2.2 (p.length-1) (by omega)
   rw[<- hT1] at tne hT
   have hVt:V=ptrim (pctd T1):=by rw[HVe.out,hT1];rfl
   have HVt:=Lh hVt
   have HT1:=Lh hT1
   have sT:=hT.1.smp
   have lT:=hT.2.2.2.1
   have Tok:=Lh tok
   have Htl:=Lh tl
   have HLe:=Lh (show L<=1000000 by have:=HL.out;omega)
   clear hVe hVt hC hT hT1 tok tl hp hlt
   go_wp2_with fail
   refine (transform_all _ _ _ _ _ _ _ _ _ _ _ _ _ _ _ _ _ _ _ _ _ _ _ HP.out tpl Htl.out HLe.out tfp R1.out.hz R1.out.hq R2.out.hz R2.out.hq hu hv h0 hu' hv' h0' _ _ _ _ _ rfl rfl rfl rfl rfl Tok.out).mono ?_
   rintro e w3 ⟨A3,l3,c3,n4,A4,l4,c4,rfl,h3,h4,hb3⟩
   replace h3:PolyN w3 A3 l3 c3 T1:=by rw[HT1.out];exact h3
   have jb:=below_new w3 (ibox n4 A4 l4 c4)
   have hl3:=h3.length
   have H3:=Lh (h3.below ikN jb)
   replace Hb:=Lh ((Hb.out.trans (hb3.mono Hb.out.size)).trans (jb.mono (Hb.out.trans (hb3.mono Hb.out.size)).size))
   clear h3 h4 hb3 jb x0 x1 x2 y0 y1 y2 R1 R2 HP
   go_wp2_with fail
   refine (dprim_any _ _ _ _ _ H3.out sT (by omega) tne).mono ?_
   rintro e w5 ⟨A5,l5,c5,rfl,h5,hb5⟩
   have H5:=Lh h5
   have Hb5:=Lh (Hb.out.trans (hb5.mono Hb.out.size))
   clear h5 hb5 H3 Hb
   go_wp2
   go_ret
   exact ⟨_,_,_,rfl,by rw[HVt.out];exact H5.out,Hb5.out⟩
  ·have hcm:0<=cmpz (z*(q':Int)) (z'*(q:Int)):=by unfold cmpz;rw[if_neg hlt];split<;>omega
   have hV0:V=[]:=by rw[HV.out];unfold pmobius;rw[if_pos (.inr hlt)]
   have HV0:=Lh hV0
   obtain ⟨C,hC⟩:∃ C,C=cmpz (z*(q':Int)) (z'*(q:Int)):=⟨_,rfl⟩
   rw[<- hC] at hcm ⊢
   clear hV0 hC hlt
   go_wp2_with fail
   go_ret
   exact ⟨_,_,_,rfl,by rw[HV0.out];exact PolyP.nil _ _ _ _,Hb.out⟩
set_option maxRecDepth 100000 in
set_option maxHeartbeats 4000000 in
theorem dvar_all {I:IntPred} (hI:IK I) (Af:Option Addr) (lf cf:Nat) (f:List Int) (n:Bool) (A:Option Addr) (l c:Nat) (B:Option Addr) (m d q:Nat) (z:Int) (n':Bool) (A':Option Addr) (l' c':Nat) (B':Option Addr) (m' d' q':Nat) (z':Int) (w:World) (hf:PolyP I w Af lf cf f) (hfm:lf<=900000) (fitf:FitP f)
  (hz:IntN w n A l c z) (hq:NatN w B m d q) (hz':IntN w n' A' l' c' z') (hq':NatN w B' m' d' q') (hu:Fit z) (hv:Fit (q:Int)) (h0:0<q) (hu':Fit z') (hv':Fit (q':Int)) (h0':0<q') (hok:MobOK f q q' z z') (hs:SmP (pmobius f q q' z z')) (hl:(pmobius f q q' z z').length<=1000000) :
  Calls Tryz.prog 17 #[.slice Af lf cf,.agg #[.bool n,.slice A l c,.slice B m d],.agg #[.bool n',.slice A' l' c',.slice B' m' d']] w fun e w'=>e=.returned (.int .i64 ((vst (pmobius f q q' z z') (pmobius f q q' z z').length).1:Nat))/\Below w.heap.size w w':=by
 have o1:=below_new w (rbox n A l c B m d)
 have o2:=below_new (w.alloc (rbox n A l c B m d)) (rbox n' A' l' c' B' m' d')
 have b2:Below w.heap.size w ((w.alloc (rbox n A l c B m d)).alloc (rbox n' A' l' c' B' m' d')):=o1.alloc (by simp) _
 have R1:=(RBox.make hz hq).move o2
 have R2:=RBox.make (hz'.below o1) (hq'.below o1)
 simp only[World.size_alloc] at R2
 have hf2:=hf.below hI b2
 replace R1:=Lh R1
 replace R2:=Lh R2
 have Hb:=Lh b2
 obtain ⟨V,hV⟩:∃ V,V=pmobius f q q' z z':=⟨_,rfl⟩
 rw[<- hV] at hs hl ⊢
 have HV:=Lh hV
 have Hok:=Lh hok
 clear o1 o2 b2 hz hq hz' hq' hf hV hok
 go_enter Tryz.func17,Tryz.ntmps17
 go_wp2_with fail
 refine (mobius_all hI _ _ _ _ _ _ _ _ _ _ _ _ _ _ _ _ _ _ _ _ _ _ _ hf2 hfm fitf R1.out.hz R1.out.hq R2.out.hz R2.out.hq hu hv h0 hu' hv' h0' Hok.out).mono ?_
 rintro e w1 ⟨A1,l1,c1,rfl,h1,hb1⟩
 rw[<- HV.out] at h1
 have hl1:=h1.length
 have H1:=Lh h1
 replace Hb:=Lh (Hb.out.trans (hb1.mono Hb.out.size))
 clear h1 hb1 hf2 R1 R2
 go_wp2_with fail
 refine (rvar_any _ _ _ _ _ (H1.out.at_ ikN) hs (by omega)).mono ?_
 rintro e w2 ⟨rfl,hb2⟩
 rw[<- hl1]
 have Hb2:=Lh (Hb.out.trans (hb2.mono Hb.out.size))
 obtain ⟨X,hX⟩:∃ X,X=(vst V V.length).1:=⟨_,rfl⟩
 rw[<- hX]
 have HX:=Lh hX
 clear hb2 H1 Hb hX
 go_wp2
 go_ret
 exact ⟨by show Ending.returned (.int .i64 (X:Int))=_;rw[HX.out],Hb2.out⟩
theorem dvar_any {I:IntPred} (hI:IK I) (Af:Option Addr) (lf cf:Nat) (f:List Int) (n:Bool) (A:Option Addr) (l c:Nat) (B:Option Addr) (m d q:Nat) (z:Int) (n':Bool) (A':Option Addr) (l' c':Nat) (B':Option Addr) (m' d' q':Nat) (z':Int) (w:World) (hf:PolyP I w Af lf cf f) (hfm:lf<=900000) (fitf:FitP f)
  (hz:IntN w n A l c z) (hq:NatN w B m d q) (hz':IntN w n' A' l' c' z') (hq':NatN w B' m' d' q') (hu:U64 z.natAbs) (hv:q<BB) (h0:0<q) (hu':U64 z'.natAbs) (hv':q'<BB) (h0':0<q') (hok:MobOK f q q' z z') (hs:SmP (pmobius f q q' z z')) (hl:(pmobius f q q' z z').length<=1000000) :
  Calls Tryz.prog 17 #[.slice Af lf cf,.agg #[.bool n,.slice A l c,.slice B m d],.agg #[.bool n',.slice A' l' c',.slice B' m' d']] w fun e w'=>e=.returned (.int .i64 ((vst (pmobius f q q' z z') (pmobius f q q' z z').length).1:Nat))/\Below w.heap.size w w' :=
 dvar_all hI Af lf cf f n A l c B m d q z n' A' l' c' B' m' d' q' z' w hf hfm fitf hz hq hz' hq' (u64_fit hu) (nat_fit hv) h0 (u64_fit hu') (nat_fit hv') h0' hok hs hl
end Go.Proofs.YtphmkdmflopcdaaGreat
