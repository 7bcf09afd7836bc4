/- The walk of the law UnidivXgcd: it answers true, and only makes new memory. -/
import Derived.Test.YtjmglmgokfcgoaaXgw
import Derived.Test.YtjmglmgokfcgoaaFew
import Derived.Test.YtjmglmgokfcgoaaCmp
import Derived.Test.YtjmglmgokfcgoaaDvc
import Derived.Test.YtjmglmgokfcgoaaRga
namespace Go.Proofs.Ytjmglmgokfcgoaa
open Go.RowKit
theorem xp_plen (p:List Int):plen (pmn p)=plen p:=by
 have h1:plen (pmn p)≤plen p:=plen_le_of fun k hk=>by rw [pmn_get,getD_ge_plen p k hk];rfl
 have h2:plen p≤plen (pmn p):=plen_le_of fun k hk=>by have:=getD_ge_plen (pmn p) k hk;rw [pmn_get] at this;omega
 omega
theorem xp_lead (p:List Int):plead (pmn p)=-plead p:=by unfold plead;rw [xp_plen,pmn_get]
theorem xp_ev (f:List Int) (x:Int):ev (pmn f) x=- ev f x:=by
 have:ev (pmn f) x=ev (psc (-1) f) x:=ev_congr (fun k=>by rw [pmn_get,psc_get];omega) x
 rw [this,ev_psc];omega
theorem xp_fit {p:List Int} (h:FitP p):FitP (pmn (ptrim p)):=fun k=>by
 unfold Fit
 rw [pmn_get,ptrim_getD,Int.natAbs_neg]
 exact h k
theorem xlead_trim (p:List Int):plead (ptrim p)=plead p:=by unfold plead;rw [plen_ptrim,ptrim_getD]
structure XD (f g d u v:List Int):Prop where
 ev:∀ x,ev d x=ev u x*ev f x+ev v x*ev g x
 fit:FitP d∧FitP u∧FitP v
 len:d.length≤8∧u.length≤8∧v.length≤8
 du:plen u≤1∨plen u+plen d≤plen g
 dv:plen v≤1∨plen v+plen d≤plen f
 zero:plen f=0→plen g=0→d=[]∧u=[]∧v=[]
 last:∀ D,IsGcd f g D→pprim d=pprim D∧0<plead d
theorem XE.out {f g a ua va:List Int} (h:XE f g a ua va):XD f g (xsg a a) (xsg a ua) (xsg a va):=by
 by_cases h0:plen a=0
 ·have e:∀ p,xsg a p=[]:=fun p=>by unfold xsg;rw [if_pos h0]
  rw [e,e,e]
  exact ⟨fun x=>by rw [ev_nil,Int.zero_mul,Int.zero_mul];rfl,⟨nil_fit,nil_fit,nil_fit⟩,⟨by decide,by decide,by decide⟩,.inl (by decide),.inl (by decide),fun _ _=>⟨rfl,rfl,rfl⟩,fun D hD=>by
   have:=(h.last D hD).2
   have:=hD.ne
   omega⟩
 have hz:plen f=0→plen g=0→False:=fun h1 h2=>h0 (h.zero h1 h2)
 by_cases hn:plead a<0
 ·have e:∀ p,xsg a p=pmn (ptrim p):=fun p=>by unfold xsg;rw [if_neg h0,if_pos hn]
  have hl:∀ p:List Int,(pmn (ptrim p)).length≤p.length:=fun p=>by rw [pmn_length,ptrim_length];exact plen_le p
  have hp:∀ p:List Int,plen (pmn (ptrim p))=plen p:=fun p=>by rw [xp_plen,plen_ptrim]
  rw [e,e,e]
  refine ⟨fun x=>by rw [xp_ev,xp_ev,xp_ev,ev_trim,ev_trim,ev_trim,h.ev,Int.neg_mul,Int.neg_mul];omega,⟨xp_fit h.fit.1,xp_fit h.fit.2.1,xp_fit h.fit.2.2⟩,⟨Nat.le_trans (hl _) h.len.1,Nat.le_trans (hl _) h.len.2.1,Nat.le_trans (hl _) h.len.2.2⟩,by rw [hp,hp];exact h.du,by rw [hp,hp];exact h.dv,fun h1 h2=>(hz h1 h2).elim,fun D hD=>⟨?_,by rw [xp_lead,xlead_trim];omega⟩⟩
  rw [← (h.last D hD).1]
  refine pprim_assoc (by rw [hp];exact h0) h0 ⟨1,[-1],by decide,fun x=>?_⟩ ⟨1,[-1],by decide,fun x=>?_⟩
  ·rw [ev_const,xp_ev,ev_trim];omega
  ·rw [ev_const,xp_ev,ev_trim];omega
 ·have e:∀ p,xsg a p=p:=fun p=>by unfold xsg;rw [if_neg h0,if_neg hn]
  have hne:=plead_ne h0
  rw [e,e,e]
  exact ⟨h.ev,h.fit,h.len,h.du,h.dv,fun h1 h2=>(hz h1 h2).elim,fun D hD=>⟨(h.last D hD).1,by omega⟩⟩
theorem add_szs {u f v g:List Int} (hu:FitP u) (hf:FitP f) (hv:FitP v) (hg:FitP g) (l1:u.length+f.length≤1000000) (l2:v.length+g.length≤1000000):SmP (polymul u f)∧SmP (polymul v g)∧(∀ k,Sm (((polymul u f).getD k 0).natAbs+((polymul v g).getD k 0).natAbs))∧SmP (ptrim (padd (polymul u f) (polymul v g))):=by
 have h1:Bd (1000000*BB^(FW+FW)) (polymul u f):=polymul_bd hu hf 1000000 l1
 have h2:Bd (1000000*BB^(FW+FW)) (polymul v g):=polymul_bd hv hg 1000000 l2
 have h3:1000000*BB^(FW+FW)<BB^(FW+FW+1):=mulpow_lt (Nat.le_refl _)
 have h5:FW+FW+2≤1000000000:=by rw [FW_eq];omega
 have a3:2*BB^(FW+FW+1)<BB^(FW+FW+2):=mulpow_lt (by omega)
 have key:∀ k,((polymul u f).getD k 0).natAbs+((polymul v g).getD k 0).natAbs<BB^(FW+FW+2):=fun k=>by
  have a1:=h1 k
  have a2:=h2 k
  omega
 refine ⟨h1.smp h3 (by omega),h2.smp h3 (by omega),fun k=>sm_pow (k:=FW+FW+2) (key k) h5,?_⟩
 have h6:Bd (2*BB^(FW+FW+1)) (padd (polymul u f) (polymul v g)):=fun k=>by
  rw [padd_get]
  have a1:=h1 k
  have a2:=h2 k
  have:=Int.natAbs_add_le ((polymul u f).getD k 0) ((polymul v g).getD k 0)
  omega
 exact h6.ptrim.smp a3 h5
theorem mul_len2 (f g:List Int):(polymul f g).length≤f.length+g.length:=by
 unfold polymul
 split
 ·exact Nat.zero_le _
 ·rw [pmul_length];omega
theorem isgcd_trim {f g D:List Int} (h:IsGcd f g D):IsGcd (ptrim f) (ptrim g) D:=by
 obtain ⟨c,s,t,hc,e⟩:=h.c
 obtain ⟨c1,q1,h1,e1⟩:=h.l
 obtain ⟨c2,q2,h2,e2⟩:=h.r
 exact ⟨h.trim,h.lead,by rw [pcont_trim,pcont_trim,h.cont],⟨c1,q1,h1,fun x=>by rw [ev_trim];exact e1 x⟩,⟨c2,q2,h2,fun x=>by rw [ev_trim];exact e2 x⟩,c,s,t,hc,fun x=>by rw [ev_trim,ev_trim];exact e x⟩
set_option maxRecDepth 100000 in
set_option maxHeartbeats 8000000 in
theorem law_xgcd (A:Option Addr) (la ca:Nat) (f:List Int) (B:Option Addr) (lb cb:Nat) (g:List Int) (w:World) (hf:PolyP IntR w A la ca f) (hg:PolyP IntR w B lb cb g) :
  Calls Try.prog 3 #[.slice A la ca,.slice B lb cb] w fun e w'=>e=.returned (.bool true)∧Below w.heap.size w w':=by
 go_enter Try.func3,Try.ntmps3
 go_wp2_with fail
 refine (awake9_any _).mono ?_
 rintro e w1 ⟨rfl,hb1⟩
 have hf1:=PolyR.below hf hb1
 have hg1:=PolyR.below hg hb1
 have Hb1:=Lib.hid hb1
 clear hf hg hb1
 go_wp2_with fail
 refine (few_any 6 1 _ _ _ _ _ _ _ _ _ hf1 hg1 (by omega) (by omega)).mono ?_
 rintro e w2 ⟨⟨b,rfl,hq⟩,rfl⟩
 clear hf1 hg1
 cases b with
 | false =>
   clear hq
   go_wp2_with fail
   refine (awake9_any _).mono ?_
   rintro e w3 ⟨rfl,hb3⟩
   have Hb3:=Lib.hid (Hb1.out.trans (hb3.mono Hb1.out.size))
   clear hb3 Hb1
   go_wp2
   go_ret
   exact ⟨rfl,Hb3.out⟩
 | true =>
   obtain ⟨qf,qg⟩:=hq rfl
   have hla:=qf.le
   have hlb:=qg.le
   have hf2:=qf.at_
   have hg2:=qg.at_
   have lf:f.length=la:=hf2.length
   have lg:g.length=lb:=hg2.length
   have hpf:=plen_le f
   have hpg:=plen_le g
   have f7:Few7 f:=⟨by omega,fun j=>by have:=qf.lt j;rw [Nat.pow_one,BB_eq] at this;omega⟩
   have g7:Few7 g:=⟨by omega,fun j=>by have:=qg.lt j;rw [Nat.pow_one,BB_eq] at this;omega⟩
   have OK:=Lib.hid (show XOK (ptrim f) (ptrim g) from ⟨ptrim_ptrim f,ptrim_ptrim g,by rw [plen_ptrim];omega,by rw [plen_ptrim];omega,fun k=>by rw [ptrim_getD];have:=qf.lt k;rw [Nat.pow_one,BB_eq] at this;show _≤4294967296;omega,fun k=>by rw [ptrim_getD];have:=qg.lt k;rw [Nat.pow_one,BB_eq] at this;show _≤4294967296;omega⟩)
   have F7:=Lib.hid f7
   have G7:=Lib.hid g7
   have HF:=Lib.hid hf2
   have HG:=Lib.hid hg2
   have Lf:=Lib.hid (show f.length≤6 by omega)
   have Lg:=Lib.hid (show g.length≤6 by omega)
   have HD:=Lib.hid (gres_dt f7 g7)
   have Hcl:=Lib.hid (gres_is (few7_ga f7 g7))
   clear hq qf qg hf2 hg2 lf lg hpf hpg f7 g7
   go_wp2_with fail
   refine (xgcd_any ikAt ikAt _ _ _ f _ _ _ g _ HF.out HG.out F7.out.fit.smp G7.out.fit.smp (by omega) (by omega) OK.out).mono ?_
   rintro e w3 ⟨a,ua,va,R1,r1,e1,R2,r2,e2,R3,r3,e3,hX,rfl,h1,h2,h3,hb3⟩
   have hXD:=hX.out
   generalize xsg a a=d at *
   generalize xsg a ua=u at *
   generalize xsg a va=v at *
   have XX:=Lib.hid hXD
   have HF3:=Lib.hid (HF.out.below ikAt hb3)
   have HG3:=Lib.hid (HG.out.below ikAt hb3)
   have Hb3:=Lib.hid (Hb1.out.trans (hb3.mono Hb1.out.size))
   have D3:=Lib.hid h1
   have U3:=Lib.hid h2
   have V3:=Lib.hid h3
   have hr1:r1≤8:=by rw [← h1.length];exact hXD.len.1
   have hr2:r2≤8:=by rw [← h2.length];exact hXD.len.2.1
   have hr3:r3≤8:=by rw [← h3.length];exact hXD.len.2.2
   obtain ⟨s1,s2,s3,s4⟩:=add_szs (u:=ptrim u) (f:=ptrim f) (v:=ptrim v) (g:=ptrim g) (fun k=>by rw [ptrim_getD];exact hXD.fit.2.1 k) (fun k=>by rw [ptrim_getD];exact F7.out.fit k) (fun k=>by rw [ptrim_getD];exact hXD.fit.2.2 k) (fun k=>by rw [ptrim_getD];exact G7.out.fit k) (by rw [ptrim_length,ptrim_length];have:=plen_le u;have:=plen_le f;have:=Lf.out;have:=hXD.len;omega) (by rw [ptrim_length,ptrim_length];have:=plen_le v;have:=plen_le g;have:=Lg.out;have:=hXD.len;omega)
   have SS:=Lib.hid (And.intro s1 (And.intro s2 (And.intro s3 s4)))
   clear hXD hX h1 h2 h3 hb3 HF HG Hb1 s1 s2 s3 s4
   go_wp2_with fail
   refine (polymul_any ikN ikAt _ _ _ u _ _ _ f _ U3.out HF3.out XX.out.fit.2.1 F7.out.fit (by omega) (by omega)).mono ?_
   rintro e w4 ⟨A4,l4,c4,rfl,h4,hb4⟩
   have l4b:l4≤40:=by rw [← h4.length];have:=mul_len2 (ptrim u) (ptrim f);rw [ptrim_length,ptrim_length] at this;have:=plen_le u;have:=plen_le f;have:=Lf.out;have:=XX.out.len;omega
   have M4:=Lib.hid h4
   have HF4:=Lib.hid (HF3.out.below ikAt hb4)
   have HG4:=Lib.hid (HG3.out.below ikAt hb4)
   have D4:=Lib.hid (D3.out.below ikN hb4)
   have U4:=Lib.hid (U3.out.below ikN hb4)
   have V4:=Lib.hid (V3.out.below ikN hb4)
   have Hb4:=Lib.hid (Hb3.out.trans (hb4.mono Hb3.out.size))
   clear h4 hb4 HF3 HG3 D3 U3 V3 Hb3
   go_wp2_with fail
   refine (polymul_any ikN ikAt _ _ _ v _ _ _ g _ V4.out HG4.out XX.out.fit.2.2 G7.out.fit (by omega) (by omega)).mono ?_
   rintro e w5 ⟨A5,l5,c5,rfl,h5,hb5⟩
   have l5b:l5≤40:=by rw [← h5.length];have:=mul_len2 (ptrim v) (ptrim g);rw [ptrim_length,ptrim_length] at this;have:=plen_le v;have:=plen_le g;have:=Lg.out;have:=XX.out.len;omega
   have N5:=Lib.hid h5
   have M5:=Lib.hid (M4.out.below ikN hb5)
   have HF5:=Lib.hid (HF4.out.below ikAt hb5)
   have HG5:=Lib.hid (HG4.out.below ikAt hb5)
   have D5:=Lib.hid (D4.out.below ikN hb5)
   have U5:=Lib.hid (U4.out.below ikN hb5)
   have V5:=Lib.hid (V4.out.below ikN hb5)
   have Hb5:=Lib.hid (Hb4.out.trans (hb5.mono Hb4.out.size))
   clear h5 hb5 HF4 HG4 D4 U4 V4 Hb4 M4
   go_wp2_with fail
   refine (polyadd_any ikN ikN _ _ _ (polymul (ptrim u) (ptrim f)) _ _ _ (polymul (ptrim v) (ptrim g)) _ M5.out N5.out SS.out.1 SS.out.2.1 SS.out.2.2.1 (by omega) (by omega)).mono ?_
   rintro e w6 ⟨A6,l6,c6,rfl,h6,hb6⟩
   have l6b:l6≤40:=by
    rw [← h6.length,ptrim_length]
    refine Nat.le_trans (plen_le _) ?_
    rw [padd_length,M5.out.length,N5.out.length]
    omega
   have hsame:ptrim (ptrim (padd (polymul (ptrim u) (ptrim f)) (polymul (ptrim v) (ptrim g))))=ptrim d:=by
    rw [ptrim_ptrim]
    refine ptrim_ext (ev_inj fun x=>?_)
    rw [ev_padd,ev_mul,ev_mul,ev_trim u,ev_trim v,XX.out.ev]
   have SA:=Lib.hid hsame
   have T6:=Lib.hid h6
   have HF6:=Lib.hid (HF5.out.below ikAt hb6)
   have HG6:=Lib.hid (HG5.out.below ikAt hb6)
   have D6:=Lib.hid (D5.out.below ikN hb6)
   have U6:=Lib.hid (U5.out.below ikN hb6)
   have V6:=Lib.hid (V5.out.below ikN hb6)
   have Hb6:=Lib.hid (Hb5.out.trans (hb6.mono Hb5.out.size))
   clear h6 hb6 HF5 HG5 D5 U5 V5 Hb5 M5 N5 hsame
   go_wp2_with fail
   refine (same_any ikN ikN _ _ _ _ _ _ _ d _ T6.out D6.out SS.out.2.2.2 XX.out.fit.1.smp (by omega) (by omega)).mono ?_
   rintro e w7 ⟨rfl,hb7⟩
   rw [decide_eq_true SA.out]
   have HF7:=Lib.hid (HF6.out.below ikAt hb7)
   have HG7:=Lib.hid (HG6.out.below ikAt hb7)
   have D7:=Lib.hid (D6.out.below ikN hb7)
   have U7:=Lib.hid (U6.out.below ikN hb7)
   have V7:=Lib.hid (V6.out.below ikN hb7)
   have Hb7:=Lib.hid (Hb6.out.trans (hb7.mono Hb6.out.size))
   clear hb7 HF6 HG6 D6 U6 V6 Hb6 T6 SA SS
   go_wp2_with fail
   refine (gcd_any ikAt ikAt _ _ _ f _ _ _ g _ HF7.out HG7.out F7.out.fit.smp G7.out.fit.smp (by omega) (by omega) (few7_ga F7.out G7.out)).mono ?_
   rintro e w8 ⟨A8,l8,c8,rfl,h8,hb8⟩
   obtain ⟨Z,hZ⟩:∃ Z,Z=gres f g:=⟨_,rfl⟩
   rw [← hZ] at h8 HD Hcl
   have l8b:l8≤7:=by rw [← h8.length];exact HD.out.len
   have T8:=Lib.hid h8
   have HF8:=Lib.hid (HF7.out.below ikAt hb8)
   have HG8:=Lib.hid (HG7.out.below ikAt hb8)
   have D8:=Lib.hid (D7.out.below ikN hb8)
   have U8:=Lib.hid (U7.out.below ikN hb8)
   have V8:=Lib.hid (V7.out.below ikN hb8)
   have Hb8:=Lib.hid (Hb7.out.trans (hb8.mono Hb7.out.size))
   clear h8 hb8 HF7 HG7 D7 U7 V7 Hb7 hZ
   go_wp2_with fail
   refine (primitive_any ikN _ _ _ Z _ T8.out HD.out.fit.smp (by omega)).mono ?_
   rintro e w9 ⟨A9,l9,c9,rfl,h9,hb9⟩
   have l9e:l9=plen Z:=by rw [← h9.length,len_trim (gp_trim Z),gp_plen]
   have T9:=Lib.hid h9
   have HF9:=Lib.hid (HF8.out.below ikAt hb9)
   have HG9:=Lib.hid (HG8.out.below ikAt hb9)
   have D9:=Lib.hid (D8.out.below ikN hb9)
   have U9:=Lib.hid (U8.out.below ikN hb9)
   have V9:=Lib.hid (V8.out.below ikN hb9)
   have Hb9:=Lib.hid (Hb8.out.trans (hb9.mono Hb8.out.size))
   have L9:=Lib.hid l9e
   clear h9 hb9 HF8 HG8 D8 U8 V8 Hb8 T8 l9e
   by_cases hz:l9=0
   ·have hz0:plen Z=0:=by rw [← L9.out];exact hz
    have hzz:d=[]∧u=[]∧v=[]:=by
     rcases Hcl.out with ⟨f0,g0,_⟩ | ⟨_,hI⟩
     ·exact XX.out.zero (by rw [plen_ptrim];exact f0) (by rw [plen_ptrim];exact g0)
     ·exact absurd hz0 hI.ne
    have q1:r1=0:=by rw [← D9.out.length,hzz.1];rfl
    have q2:r2=0:=by rw [← U9.out.length,hzz.2.1];rfl
    have q3:r3=0:=by rw [← V9.out.length,hzz.2.2];rfl
    subst q1 q2 q3 hz
    clear hzz hz0
    go_wp2
    go_ret
    exact ⟨rfl,Hb9.out⟩
   have hI:IsGcd f g Z:=by
    rcases Hcl.out with ⟨_,_,h0⟩ | ⟨_,hI⟩
    ·exact absurd (by rw [L9.out,h0];rfl) hz
    ·exact hI
   have HL:=Lib.hid (XX.out.last Z (isgcd_trim hI))
   have t1:((l9:Int) == 0)=false:=by rw [beq_eq_false_iff_ne];omega
   have l9b:l9≤7:=by rw [L9.out];exact HD.out.l
   have FD:=Lib.hid (show FitP (pprim d) from fun k=>Nat.lt_of_le_of_lt (pprim_abs d k) (XX.out.fit.1 k))
   have FZ:=Lib.hid (show FitP (pprim Z) from fun k=>Nat.lt_of_le_of_lt (pprim_abs Z k) (HD.out.fit k))
   clear hz hI
   go_wp2_with fail
   refine (primitive_any ikN _ _ _ d _ D9.out XX.out.fit.1.smp (by omega)).mono ?_
   rintro e w10 ⟨A10,l10,c10,rfl,h10,hb10⟩
   have P10:=Lib.hid h10
   have l10b:l10≤8:=by rw [← h10.length,len_trim (gp_trim d),gp_plen];exact Nat.le_trans (plen_le d) XX.out.len.1
   have HF10:=Lib.hid (HF9.out.below ikAt hb10)
   have HG10:=Lib.hid (HG9.out.below ikAt hb10)
   have D10:=Lib.hid (D9.out.below ikN hb10)
   have U10:=Lib.hid (U9.out.below ikN hb10)
   have V10:=Lib.hid (V9.out.below ikN hb10)
   have T10:=Lib.hid (T9.out.below ikN hb10)
   have Hb10:=Lib.hid (Hb9.out.trans (hb10.mono Hb9.out.size))
   clear h10
   clear hb10 HF9 HG9 D9 U9 V9 T9 Hb9
   go_wp2_with fail
   refine (same_any ikN ikN _ _ _ (pprim d) _ _ _ (pprim Z) _ P10.out T10.out FD.out.smp FZ.out.smp (by omega) (by omega)).mono ?_
   rintro e w11 ⟨rfl,hb11⟩
   rw [decide_eq_true (show ptrim (pprim d)=ptrim (pprim Z) by rw [HL.out.1])]
   have HF11:=Lib.hid (HF10.out.below ikAt hb11)
   have HG11:=Lib.hid (HG10.out.below ikAt hb11)
   have D11:=Lib.hid (D10.out.below ikN hb11)
   have U11:=Lib.hid (U10.out.below ikN hb11)
   have V11:=Lib.hid (V10.out.below ikN hb11)
   have Hb11:=Lib.hid (Hb10.out.trans (hb11.mono Hb10.out.size))
   clear hb11 HF10 HG10 D10 U10 V10 Hb10 P10 T10 FD FZ
   go_wp2_with fail
   refine (lead_any _ _ _ d _ (D11.out.at_ ikN) XX.out.fit.1.smp (by omega)).mono ?_
   rintro e w12 ⟨n12,A12,l12,c12,rfl,h12,hb12⟩
   have P12:=Lib.hid h12
   have HF12:=Lib.hid (HF11.out.below ikAt hb12)
   have HG12:=Lib.hid (HG11.out.below ikAt hb12)
   have D12:=Lib.hid (D11.out.below ikN hb12)
   have U12:=Lib.hid (U11.out.below ikN hb12)
   have V12:=Lib.hid (V11.out.below ikN hb12)
   have Hb12:=Lib.hid (Hb11.out.trans (hb12.mono Hb11.out.size))
   clear h12
   clear hb12 HF11 HG11 D11 U11 V11 Hb11
   go_wp2_with fail
   refine (isign_any _ _ _ _ (plead d) _ P12.out.at_ (show Fit (plead d) from XX.out.fit.1 _).sm).mono ?_
   rintro e w13 ⟨rfl,hw13⟩
   have hb13:Below w12.heap.size w12 w13:=by rw [hw13];exact (Below.refl _ _).alloc (Nat.le_refl _) _
   rw [sg_pos HL.out.2]
   have HF13:=Lib.hid (HF12.out.below ikAt hb13)
   have HG13:=Lib.hid (HG12.out.below ikAt hb13)
   have D13:=Lib.hid (D12.out.below ikN hb13)
   have U13:=Lib.hid (U12.out.below ikN hb13)
   have V13:=Lib.hid (V12.out.below ikN hb13)
   have Hb13:=Lib.hid (Hb12.out.trans (hb13.mono Hb12.out.size))
   clear hw13
   clear hb13 HF12 HG12 D12 U12 V12 Hb12 P12
   go_wp2_with fail
   refine (degree_any _ _ _ d _ (D13.out.at_ ikN) XX.out.fit.1.smp (by omega)).mono ?_
   rintro e w14 ⟨rfl,hb14⟩
   obtain ⟨pd,hpd⟩:∃ p,p=plen d:=⟨_,rfl⟩
   obtain ⟨pu,hpu⟩:∃ p,p=plen u:=⟨_,rfl⟩
   obtain ⟨pv,hpv⟩:∃ p,p=plen v:=⟨_,rfl⟩
   obtain ⟨pf,hpf⟩:∃ p,p=plen f:=⟨_,rfl⟩
   obtain ⟨pg,hpg⟩:∃ p,p=plen g:=⟨_,rfl⟩
   have hdu:pu≤1∨pu+pd≤pg:=by have:=XX.out.du;rw [plen_ptrim] at this;omega
   have hdv:pv≤1∨pv+pd≤pf:=by have:=XX.out.dv;rw [plen_ptrim] at this;omega
   have b1:pd≤8:=by have:=plen_le d;have:=XX.out.len;omega
   have b2:pf≤8:=by have:=plen_le f;have:=Lf.out;omega
   have b3:pg≤8:=by have:=plen_le g;have:=Lg.out;omega
   have HPD:=Lib.hid hpd
   have HPU:=Lib.hid hpu
   have HPV:=Lib.hid hpv
   have HPF:=Lib.hid hpf
   have HPG:=Lib.hid hpg
   rw [← hpd]
   clear hpd hpu hpv hpf hpg
   have HF14:=Lib.hid (HF13.out.below ikAt hb14)
   have HG14:=Lib.hid (HG13.out.below ikAt hb14)
   have U14:=Lib.hid (U13.out.below ikN hb14)
   have V14:=Lib.hid (V13.out.below ikN hb14)
   have Hb14:=Lib.hid (Hb13.out.trans (hb14.mono Hb13.out.size))
   clear hb14 HF13 HG13 U13 V13 Hb13 D13
   go_wp2_with fail
   refine (degree_any _ _ _ u _ (U14.out.at_ ikN) XX.out.fit.2.1.smp (by omega)).mono ?_
   rintro e w15 ⟨rfl,hb15⟩
   rw [← HPU.out]
   have HF15:=Lib.hid (HF14.out.below ikAt hb15)
   have HG15:=Lib.hid (HG14.out.below ikAt hb15)
   have V15:=Lib.hid (V14.out.below ikN hb15)
   have Hb15:=Lib.hid (Hb14.out.trans (hb15.mono Hb14.out.size))
   clear hb15 HF14 HG14 V14 Hb14 U14
   obtain ⟨x1,hx1⟩:∃ x:Int,x=(pg:Int)-(pd:Int):=⟨_,rfl⟩
   obtain ⟨y1,hy1⟩:∃ y:Int,y=max x1 1:=⟨_,rfl⟩
   have i1:(pg:Int)-1-((pd:Int)-1)=x1:=by omega
   have i2:IntKind.i64.wrap x1=x1:=IntWalk.i64_in _ (by omega)
   have i3:max x1 1=y1:=hy1.symm
   have i4:(pu:Int)-1<y1:=by omega
   obtain ⟨x2,hx2⟩:∃ x:Int,x=(pf:Int)-(pd:Int):=⟨_,rfl⟩
   obtain ⟨y2,hy2⟩:∃ y:Int,y=max x2 1:=⟨_,rfl⟩
   have i5:(pf:Int)-1-((pd:Int)-1)=x2:=by omega
   have i6:IntKind.i64.wrap x2=x2:=IntWalk.i64_in _ (by omega)
   have i7:max x2 1=y2:=hy2.symm
   have i8:(pv:Int)-1<y2:=by omega
   clear hx1 hy1 hx2 hy2 hdu hdv
   go_wp2_with fail
   refine (degree_any _ _ _ g _ (HG15.out.at_ ikAt) G7.out.fit.smp (by omega)).mono ?_
   rintro e w16 ⟨rfl,hb16⟩
   rw [← HPG.out]
   have HF16:=Lib.hid (HF15.out.below ikAt hb16)
   have V16:=Lib.hid (V15.out.below ikN hb16)
   have Hb16:=Lib.hid (Hb15.out.trans (hb16.mono Hb15.out.size))
   clear hb16 HF15 V15 Hb15 HG15
   go_wp2_with fail
   refine (degree_any _ _ _ v _ (V16.out.at_ ikN) XX.out.fit.2.2.smp (by omega)).mono ?_
   rintro e w17 ⟨rfl,hb17⟩
   rw [← HPV.out]
   have HF17:=Lib.hid (HF16.out.below ikAt hb17)
   have Hb17:=Lib.hid (Hb16.out.trans (hb17.mono Hb16.out.size))
   clear hb17 HF16 Hb16 V16
   go_wp2_with fail
   refine (degree_any _ _ _ f _ (HF17.out.at_ ikAt) F7.out.fit.smp (by omega)).mono ?_
   rintro e w18 ⟨rfl,hb18⟩
   rw [← HPF.out]
   have Hb18:=Lib.hid (Hb17.out.trans (hb18.mono Hb17.out.size))
   clear hb18 HF17 Hb17
   go_wp2
   go_ret
   exact ⟨rfl,Hb18.out⟩
end Go.Proofs.Ytjmglmgokfcgoaa
