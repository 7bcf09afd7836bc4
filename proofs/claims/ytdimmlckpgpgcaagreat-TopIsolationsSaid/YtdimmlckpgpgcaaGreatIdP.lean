/- The identity of the pseudo-division at polynomials: what the law of chapter 9 compares, and how large the numbers are. Plain: no program. -/
import Derived.Test.YtdimmlckpgpgcaaGreatSft
import Derived.Test.YtdimmlckpgpgcaaGreatRbH
namespace Go.Proofs.YtdimmlckpgpgcaaGreat
open Go.RowKit
def pcs (f g:List Int) (k:Nat):Nat->Int
 | 0=>0
 | m+1=>pcs f g k m+f.getD m 0*g.getD (k-m) 0
def pc (f g:List Int) (k:Nat):Int:=pcs f g k (k+1)
def ake (f g:List Int):List Int:=(List.range (f.length+g.length-1)).map (pc f g)
theorem ab4 (f g:List Int):(ake f g).length=f.length+g.length-1:=by simp[ake]
theorem amr (f g:List Int) {k:Nat} (h:k<f.length+g.length-1):(ake f g).getD k 0=pc f g k:=by
 rw[List.getD_eq_getElem?_getD,ake,List.getElem?_map,List.getElem?_range h];rfl
theorem aaC (g:List Int) {j:Nat} (h:g.length<=j):g.getD j 0=0:=by
 rw[List.getD_eq_getElem?_getD,List.getElem?_eq_none h];rfl
theorem aln (f g:List Int) (k:Nat):∀ m,m+g.length<=k+1->pcs f g k m=0:=by
 intro m
 induction m with
 | zero=>intro _;rfl
 | succ m ih =>
   intro h
   rw[pcs,ih (by omega),aaC g (by omega)];simp
theorem ams (f g:List Int) (k:Nat) (a:Nat) (ha:f.length<=a):∀ j,pcs f g k (a+j)=pcs f g k a:=by
 intro j
 induction j with
 | zero=>rfl
 | succ j ih=>rw[<- Nat.add_assoc,pcs,ih,aaC f (by omega)];simp
theorem atM (f g:List Int) (k:Nat) (hf:0<f.length):pcs f g k (min k (f.length-1)+1)=pc f g k:=by
 unfold pc
 rcases Nat.lt_or_ge k f.length with h | h
 ·rw[Nat.min_eq_left (by omega)]
 ·rw[Nat.min_eq_right (by omega)]
  have:=ams f g k (f.length-1+1) (by omega) (k+1-(f.length-1+1))
  rw[show f.length-1+1+(k+1-(f.length-1+1))=k+1 by omega] at this
  exact this.symm
theorem adk (p:List Int) {n k:Nat} (h:k<n):(p.take n).getD k 0=p.getD k 0:=by simp[List.getD_eq_getElem?_getD,h]
def abH (p:List Int):Prop:=∀ k,Fit (p.getD k 0)
theorem abH.smp {p:List Int} (h:abH p):SmP p:=fun c hc=>by
 obtain ⟨k,hk⟩:=List.getElem?_of_mem hc
 have:=h k
 rw[List.getD_eq_getElem?_getD,hk] at this
 exact Fit.sm this
theorem ahe {f g:List Int} (hf:abH f) (hg:abH g) (k:Nat):∀ m,(pcs f g k m).natAbs<=m*BB^(FW+FW):=by
 intro m
 induction m with
 | zero=>simp[pcs]
 | succ m ih =>
   have h1:=(hf m).mul (hg (k-m))
   rw[pcs,Nat.succ_mul]
   omega
theorem avR {f g:List Int} (hf:abH f) (hg:abH g) (k m:Nat) (hm:m<=1000000000):SmI (pcs f g k m):=by
 have h1:=ahe hf hg k m
 refine adE (k:=FW+FW+1) ?_ (by rw[ach];omega)
 have h2:m*BB^(FW+FW)<=1000000000*BB^(FW+FW):=Nat.mul_le_mul_right _ hm
 have h3:1000000001*BB^(FW+FW)<=BB*BB^(FW+FW):=Nat.mul_le_mul_right _ (by rw[aao];omega)
 have h4:0<BB^(FW+FW):=Nat.pow_pos aaI
 have e:BB^(FW+FW+1)=BB*BB^(FW+FW):=by rw[Nat.pow_succ,Nat.mul_comm]
 rw[e]
 omega
theorem atN {f g:List Int} (hf:abH f) (hg:abH g) (k m:Nat) (hm:m<=1000000000):Sm ((pcs f g k m).natAbs+(f.getD m 0*g.getD (k-m) 0).natAbs):=by
 have h1:=ahe hf hg k m
 have h5:=(hf m).mul (hg (k-m))
 refine adE (k:=FW+FW+1) ?_ (by rw[ach];omega)
 have h2:m*BB^(FW+FW)<=1000000000*BB^(FW+FW):=Nat.mul_le_mul_right _ hm
 have h3:1000000001*BB^(FW+FW)<=BB*BB^(FW+FW):=Nat.mul_le_mul_right _ (by rw[aao];omega)
 have e:BB^(FW+FW+1)=BB*BB^(FW+FW):=by rw[Nat.pow_succ,Nat.mul_comm]
 rw[e]
 omega
set_option maxRecDepth 100000 in
set_option maxHeartbeats 4000000 in
theorem agw {I J:aay} (hI:IK I) (hJ:IK J) (A:Option Addr) (la ca:Nat) (f:List Int) (B:Option Addr) (lb cb:Nat) (g:List Int) (w:World) (hf:aaw I w A la ca f) (hg:aaw J w B lb cb g) (ff:abH f) (fg:abH g) (hla:0<la) (hlb:0<lb) (hma:la<=400000000) (hmb:lb<=400000000) :
  Calls Tryz.prog 122 #[.slice A la ca,.slice B lb cb,.agg #[.bool false,.slice none 0 0],.func (.func 73) #[] #[],.func (.func 56) #[] #[]] w fun e w'=>∃ r,e=.returned (.slice (some ⟨r,0,none⟩) (la+lb-1) (la+lb-1))/\ab2 w' r (ake f g)/\w.heap.size<=r/\Below w.heap.size w w':=by
 have hbx:Below w.heap.size w (w.alloc (aaq false none 0 0)):=(Below.refl _ _).alloc (Nat.le_refl _) _
 have aw9:=Lh hf.length
 have axa:=Lh hg.length
 have Hf0:=Lh hf
 have Hg0:=Lh hg
 have HZ:=Lh (aaN.nil w)
 have Hbx:=Lh hbx
 have hb1:((la:Int) == 0)=false:=by rw[beq_eq_false_iff_ne];omega
 have hb2:((lb:Int) == 0)=false:=by rw[beq_eq_false_iff_ne];omega
 obtain ⟨n,hn⟩:∃ n,la+lb=n+1:=⟨la+lb-1,by omega⟩
 have hn2:la+lb-1=n:=by omega
 have hni:IntKind.i64.wrap ((la:Int)+(lb:Int)-1)=(n:Int):=by rw[IntWalk.i64_in _ (by omega)];omega
 have az0:(la:Int)+(lb:Int)-1=(n:Int):=by omega
 rw[hn2]
 have Hn:=Lh hn
 have hpl:=Lh (show (ake f g).length=n by rw[ab4,aw9.out,axa.out];exact hn2)
 have hnb:n<=800000000:=by omega
 clear hf hg hbx hn hn2
 go_enter Tryz.func122,Tryz.ntmps122
 go_wp2_with (at_make;refine aaU _ rfl (.tmp 28) (.tmp 28) rfl n rfl rfl (by omega) ?_)
 intro w1 hz hb3 hsz
 have atO:Below (w.alloc (aaq false none 0 0)).heap.size (w.alloc (aaq false none 0 0)) w1:=by rw[World.size_alloc];exact hb3
 have hu:=ac2 (ake f g) n
 rw[<- hu] at hz
 have Hz:=Lh hz
 have Hb3:=Lh (Hbx.out.trans (atO.mono Hbx.out.size))
 have HZ1:=Lh (HZ.out.move atO)
 have hsz2:w.heap.size+1<w1.heap.size:=by (try simp only[World.size_alloc] at hsz);omega
 clear hz hsz hu hni az0 hb1 hb2 hb3 atO HZ Hbx
 go_wp2
 go_loopw [32] (fun s32 wr=>∃ k:Nat,k<=n/\s32=.int .i64 (k:Int)/\ab2 wr (w.heap.size+1) (upto (ake f g) k n)/\aaN wr w.heap.size false none 0 0 0/\w1.heap.size<=wr.heap.size/\Below w.heap.size w wr) (fun s32 _=>n-(intOf s32).toNat)
 case atStart=>exact ⟨0,Nat.zero_le _,rfl,Hz.out,HZ1.out,Nat.le_refl _,Hb3.out⟩
 case round =>
  clear Hz HZ1 Hb3
  obtain ⟨k,hk,rfl,hrow,hzb,hws,hbw⟩:=hrel
  obtain ⟨wo,rfl⟩:∃ wo:World,wo=wr:=⟨_,rfl⟩
  have abW:=Lh hrow
  have Hzb:=Lh hzb
  have Hf:=Lh (Hf0.out.below hI hbw)
  have Hg:=Lh (Hg0.out.below hJ hbw)
  have Hbw:=Lh hbw
  have z0:=hzb.c0
  have z1:=hzb.c1
  clear hrow hzb hbw
  by_cases hlt:k<n
  ·obtain ⟨lo,hlo⟩:∃ lo:Nat,lo=k+1-lb:=⟨_,rfl⟩
   have hba:Below wo.heap.size wo (wo.alloc (aaq false none 0 0)):=(Below.refl _ _).alloc (Nat.le_refl _) _
   have HS:=Lh (aaN.nil wo)
   have Hba:=Lh hba
   have hkb:k+1<=lb∨lb<k+1:=by omega
   have hmx:(if (0:Int)<(k:Int)-(lb:Int)+1 then (k:Int)-(lb:Int)+1 else 0)=(lo:Int):=by split<;>omega
   obtain ⟨hi,hhi⟩:∃ hi:Nat,hi=min k (la-1):=⟨_,rfl⟩
   have hmn:(if (la:Int)-1<(k:Int) then (la:Int)-1 else (k:Int))=(hi:Int):=by split<;>omega
   have axH:lo<=hi+1:=by have:=Hn.out;omega
   have aA1:hi<=k:=by omega
   have aA2:hi<la:=by omega
   have aA3:k+1<=lo+lb:=by omega
   have Hlo:=Lh (show pcs f g k lo=0 from by
    by_cases h0:lo=0
    ·rw[h0];rfl
    ·exact aln f g k lo (by rw[axa.out];omega))
   have Hhi:=Lh hhi
   clear hba hlo hkb hhi
   go_wp2
   go_loopw [14] (fun s14 wx=>∃ (m:Nat) (n3:Bool) (A3:Option Addr) (l3 c3:Nat),lo<=m/\m<=hi+1/\s14=.int .i64 (m:Int)/\aaN wx wo.heap.size n3 A3 l3 c3 (pcs f g k m)/\Below wo.heap.size wo wx) (fun s14 _=>hi+1-(intOf s14).toNat)
   case atStart=>exact ⟨lo,_,_,_,_,Nat.le_refl _,axH,rfl,by rw[Hlo.out];exact HS.out,Hba.out⟩
   case round =>
    clear HS Hba Hlo
    obtain ⟨m,n3,A3,l3,c3,hlm,hmh,rfl,hsb,hbx⟩:=hrel
    have Hsb:=Lh hsb
    have Hbx:=Lh hbx
    have s0:=hsb.c0
    have s1:=hsb.c1
    by_cases hmi:m<=hi
    ·obtain ⟨j,hj⟩:∃ j,k=m+j:=⟨k-m,by omega⟩
     have hjb:j<lb:=by omega
     have az1:m<la:=by omega
     obtain ⟨b1,o1,rfl,hb1,hc1⟩:=Hf.out.get (by omega)
     obtain ⟨b2,o2,rfl,hb2,hc2⟩:=Hg.out.get (by omega)
     obtain ⟨nf,Af,lf,cf,f0,f1,zf⟩:=hc1 m az1
     obtain ⟨ng,Ag,lg,cg,g0,g1,zg⟩:=hc2 j hjb
     have e0:=(hbx.cell (p:=⟨b1,o1+m*2,none⟩) hb1).trans f0
     have e1:=(hbx.cell (p:=⟨b1,o1+m*2+1,none⟩) hb1).trans f1
     have e2:=(hbx.cell (p:=⟨b2,o2+j*2,none⟩) hb2).trans g0
     have e3:=(hbx.cell (p:=⟨b2,o2+j*2+1,none⟩) hb2).trans g1
     have Zf:=Lh ((hI.at_ zf).below hbx)
     have Zg:=Lh ((hJ.at_ zg).below hbx)
     have apf:=Lh (show pcs f g k (m+1)=pcs f g k m+f.getD m 0*g.getD j 0 from by rw[pcs,hj,show m+j-m=j by omega])
     have sf:=(ff m).sm
     have sgj:=(fg j).sm
     have mk:=(ff m).adA (g.getD j 0)
     have sp:=(ff m).sm2 (fg j)
     have ss:=avR ff fg k m (by omega)
     have sa:=atN ff fg k m (by omega)
     rw[show k-m=j by omega] at sa
     have i1:IntKind.i64.wrap (j:Int)=(j:Int):=IntWalk.i64_in _ (by omega)
     have i2:(k:Int)-(m:Int)=(j:Int):=by omega
     have i3:(m:Int)<(la:Int):=by omega
     have i4:(j:Int)<(lb:Int):=by omega
     have t1:(m:Int)<=(hi:Int):=by omega
     have nb1:wo.heap.size≠b1:=by omega
     have nb2:wo.heap.size≠b2:=by omega
     have fr0:=hsb.f0
     have fr1:=hsb.f1
     have Hj:=Lh hj
     clear hj hc1 hc2 f0 f1 zf g0 g1 zg hsb hbx hb1 hb2
     go_wp2_with fail
     refine aaK (S:=fun w'=>w'.cell? ⟨b1,o1+m*2,none⟩=some (.bool nf)/\w'.cell? ⟨b1,o1+m*2+1,none⟩=some (.slice Af lf cf)/\w'.cell? ⟨b2,o2+j*2,none⟩=some (.bool ng)/\w'.cell? ⟨b2,o2+j*2+1,none⟩=some (.slice Ag lg cg)/\w'.cell? ⟨wo.heap.size,0,none⟩=some (.bool n3)/\w'.cell? ⟨wo.heap.size,1,none⟩=some (.slice A3 l3 c3)) (by kernel_rfl) (by kernel_rfl) (by (try dsimp only);go_keep) (fun hHeld=>?_)
     simp only[List.pop_toArray,List.dropLast]
     (refine tq 0 ?_;simp only[aad,List.set])
     (refine tq 1 ?_;simp only[aad,List.set])
     (refine tq 2 ?_;simp only[aad,List.set])
     (refine tq 3 ?_;simp only[aad,List.set])
     (refine tq 4 ?_;simp only[aad,List.set])
     (refine tq 5 ?_;simp only[aad,List.set])
     (refine tq 6 ?_;simp only[aad,List.set])
     (refine tq 7 ?_;simp only[aad,List.set])
     (refine tq 8 ?_;simp only[aad,List.set])
     (refine tq 9 ?_;simp only[aad,List.set])
     (refine tq 10 ?_;simp only[aad,List.set])
     (refine tq 11 ?_;simp only[aad,List.set])
     (refine tq 12 ?_;simp only[aad,List.set])
     refine rdy 13 (fun K hK=>?_);go_simp
     refine (aa6 _ _ _ _ _ _ _ _ _ _ _ ?_ ?_ sf sgj mk).mono ?_
     ·exact Zf.out.below Bel.go
     ·exact Zg.out.below Bel.go
     rintro e w7 ⟨n8,A8,l8,c8,rfl,h8,hb8⟩
     obtain ⟨hcx,hfx⟩:=aap hb8
     have HS8:=Lh (Hsb.out.move (Below.trans Bel.go (hb8.mono (by simp<;>omega))))
     have Hb8:=Lh (Hbx.out.trans ((Below.trans Bel.go (hb8.mono (by simp<;>omega))).mono Hbx.out.size))
     refine hK.out _ _ ?_ (fun _=>?_)
     ·((try dsimp only);repeat' apply And.intro)<;>(rw[hcx _ (by go_simp)];go_simp)
     clear hHeld hK K hcx hfx;rename_i hHeld
     refine rdy 14 (fun K hK=>?_);go_simp
     refine (aeJ _ _ _ _ _ _ _ _ _ _ _ ?_ ?_ ss sp sa).mono ?_
     ·exact HS8.out.hz.at_.below Bel.go
     ·exact h8.at_.below Bel.go
     rintro e w9 ⟨n9,A9,l9,c9,rfl,h9,hb9⟩
     obtain ⟨hcx,hfx⟩:=aap hb9
     have hS9:=HS8.out.move (Below.trans Bel.go (hb9.mono (by simp<;>omega)))
     have Hb9:=Lh (Hb8.out.trans ((Below.trans Bel.go (hb9.mono (by simp<;>omega))).mono Hb8.out.size))
     refine hK.out _ _ ?_ (fun _=>?_)
     ·((try dsimp only);repeat' apply And.intro)<;>(rw[hcx _ (by go_simp)];go_simp)
     clear hHeld hK K hcx hfx;rename_i hHeld
     refine wpAnyH_done (by kernel_rfl) (aaS rfl ?_) _
     have HP:=Lh (hS9.put h9)
     have p0:=hS9.c0
     have p1:=hS9.c1
     have p2:=hS9.f0
     have p3:=hS9.f1
     clear hHeld hS9 h9 h8 hb8 hb9
     go_wp2
     go_roundw
     case rel=>exact ⟨m+1,_,_,_,_,by omega,by omega,by go_num,by rw[apf.out];exact HP.out,(Hb9.out.setCell (p:=⟨wo.heap.size,0,none⟩) (Nat.le_refl _) _).setCell (p:=⟨wo.heap.size,1,none⟩) (Nat.le_refl _) _⟩
     case measure=>simp[intOf];omega
    ·have hme:m=hi+1:=by omega
     subst hme
     have hend:pcs f g k (hi+1)=(ake f g).getD k 0:=by
      rw[amr f g (by rw[aw9.out,axa.out];have:=Hn.out;omega),Hhi.out,<- aw9.out]
      exact atM f g k (by rw[aw9.out];exact hla)
     rw[hend] at hsb
     have HS2:=Lh hsb
     have hrw:=abW.out.below hbx
     have hul:(upto (ake f g) k n).length=n:=upto_length _ _ _
     obtain ⟨n0,A0,l0,c0,d0,d1,_⟩:=hrw.elems k (by rw[hul];exact hlt)
     have hf0:=hrw.frozen (k*2)
     have hf1:=hrw.frozen (k*2+1)
     have hst:=adD (ake f g) (k:=k) (n:=n) hlt
     have hr2:=hrw.acP (i:=k) (by rw[hul];exact hlt) hsb.hz
     rw[hst] at hr2
     have Hr2:=Lh hr2
     have HZ2:=Lh ((Hzb.out.move hbx).row hrw (i:=k) (by rw[hul];exact hlt) (by omega) (.bool n3) (.slice A3 l3 c3))
     have hki:¬ ((hi:Int)+1<=(hi:Int)):=by omega
     have s0:=hsb.c0
     have s1:=hsb.c1
     have asH:=Lh hbx
     have Hrw:=Lh hrw
     clear hend hsb hbx hrw hul hst hr2 Hsb Hbx
     go_wp2
     go_roundw
     case rel=>exact ⟨k+1,by omega,by go_num,Hr2.out,HZ2.out,Nat.le_trans hws (by have:=asH.out.size;simpa [World.setCell] using this),((Hbw.out.trans (asH.out.mono Hbw.out.size)).setCell (p:=⟨w.heap.size+1,k*2,none⟩) (by simp) _).setCell (p:=⟨w.heap.size+1,k*2+1,none⟩) (by simp) _⟩
     case measure=>simp[intOf];omega
  ·have hk2:n=k:=by omega
   subst hk2
   have hup:upto (ake f g) n n=ake f g:=by have:=ac3 (ake f g);rw[hpl.out] at this;exact this
   rw[hup] at abW
   clear hup
   go_wp2
   go_ret
   exact ⟨w.heap.size+1,rfl,abW.out,by omega,Hbw.out⟩
def aag (f g:List Int):List Int:=if f=[]∨g=[] then [] else ake f g
set_option maxRecDepth 100000 in
set_option maxHeartbeats 1000000 in
theorem agx (A:Option Addr) (la ca:Nat) (B:Option Addr) (lb cb:Nat) (w:World) (h0:la=0∨lb=0) (hma:la<=400000000) (hmb:lb<=400000000) :
  Calls Tryz.prog 122 #[.slice A la ca,.slice B lb cb,.agg #[.bool false,.slice none 0 0],.func (.func 73) #[] #[],.func (.func 56) #[] #[]] w fun e w'=>e=.returned (.slice none 0 0)/\Below w.heap.size w w':=by
 by_cases h1:la=0
 ·subst h1
  clear h0
  go_enter Tryz.func122,Tryz.ntmps122
  go_wp2
  go_ret
  exact ⟨rfl,(Below.refl _ _).alloc (Nat.le_refl _) _⟩
 ·have h2:lb=0:=by omega
  subst h2
  have hb1:((la:Int) == 0)=false:=by rw[beq_eq_false_iff_ne];omega
  clear h0 h1
  go_enter Tryz.func122,Tryz.ntmps122
  go_wp2
  go_ret
  exact ⟨rfl,(Below.refl _ _).alloc (Nat.le_refl _) _⟩
set_option maxRecDepth 100000 in
set_option maxHeartbeats 1000000 in
theorem adr {I J:aay} (hI:IK I) (hJ:IK J) (A:Option Addr) (la ca:Nat) (f:List Int) (B:Option Addr) (lb cb:Nat) (g:List Int) (w:World) (hf:aaw I w A la ca f) (hg:aaw J w B lb cb g) (ff:abH f) (fg:abH g) (hma:la<=400000000) (hmb:lb<=400000000) :
  Calls Tryz.prog 114 #[.slice A la ca,.slice B lb cb] w fun e w'=>∃ A' l' c',e=.returned (.slice A' l' c')/\aaR w' A' l' c' (aag (aaf f) (aaf g))/\Below w.heap.size w w':=by
 have hpf:aac f<=400000000:=by have:=aas f;have:=hf.length;omega
 have hpg:aac g<=400000000:=by have:=aas g;have:=hg.length;omega
 have avS:∀ {q:List Int},abH q->abH (aaf q):=fun {q} h k=>by
  rcases Nat.lt_or_ge k (aac q) with h1 | h1
  ·rw[aaf,adk q h1];exact h k
  ·rw[aaC _ (by rw[aae];exact h1)];unfold Fit;exact Nat.pow_pos aaI
 have ff2:=avS ff
 have fg2:=avS fg
 go_enter Tryz.func114,Tryz.ntmps114
 go_wp2_with fail
 refine (abD hI _ _ _ _ _ hf ff.smp (by omega)).mono ?_
 rintro e w1 ⟨l1,rfl,h1,hl1,hb1⟩
 have hg1:=hg.below hJ hb1
 have Hb1:=Lh hb1
 have H1:=Lh h1
 have Hl1:=Lh hl1
 have b1:l1<=400000000:=by omega
 clear hf hg hb1 h1 hl1
 go_wp2_with fail
 refine (abD hJ _ _ _ _ _ hg1 fg.smp (by omega)).mono ?_
 rintro e w2 ⟨l2,rfl,h2,hl2,hb2⟩
 have h12:=H1.out.below hI hb2
 have Hb2:=Lh (Hb1.out.trans (hb2.mono Hb1.out.size))
 have Hl2:=Lh hl2
 have b2:l2<=400000000:=by omega
 have E1:=Lh (aae f)
 have E2:=Lh (aae g)
 clear hb2 hg1 H1 Hb1 hl2
 by_cases h0:l1=0∨l2=0
 ·have hp:aag (aaf f) (aaf g)=[]:=by
   unfold aag
   rw[if_pos]
   rcases h0 with h0 | h0
   ·exact .inl (List.eq_nil_of_length_eq_zero (by rw[E1.out,<- Hl1.out];exact h0))
   ·exact .inr (List.eq_nil_of_length_eq_zero (by rw[E2.out,<- Hl2.out];exact h0))
  have Hp:=Lh hp
  have H0:=Lh h0
  clear hp h0
  go_wp2_with fail
  refine (agx _ _ _ _ _ _ _ H0.out b1 b2).mono ?_
  rintro e w3 ⟨rfl,hb3⟩
  have Hb3:=Lh (Hb2.out.trans (hb3.mono Hb2.out.size))
  clear h12 h2 hb3
  go_wp2
  go_ret
  exact ⟨_,_,_,rfl,by rw[Hp.out];exact aaw.nil _ _ _ _,Hb3.out⟩
 ·have hp:aag (aaf f) (aaf g)=ake (aaf f) (aaf g):=by
   unfold aag
   rw[if_neg]
   rintro (e | e)
   ·have:=E1.out;rw[e] at this;have:=Hl1.out;simp at *;omega
   ·have:=E2.out;rw[e] at this;have:=Hl2.out;simp at *;omega
  have hlp:=ab4 (aaf f) (aaf g)
  rw[E1.out,E2.out,<- Hl1.out,<- Hl2.out] at hlp
  have Hp:=Lh hp
  have Hlp:=Lh hlp
  have q1:0<l1:=by omega
  have q2:0<l2:=by omega
  clear hp h0 hlp
  go_wp2_with fail
  refine (agw hI hJ _ _ _ _ _ _ _ _ _ h12 h2 ff2 fg2 q1 q2 b1 b2).mono ?_
  rintro e w3 ⟨r,rfl,hr,hle,hb3⟩
  have Hb3:=Lh (Hb2.out.trans (hb3.mono Hb2.out.size))
  have hpo:=hr.poly (cap:=l1+l2-1) (by rw[Hlp.out];exact Nat.le_refl _)
  rw[Hlp.out] at hpo
  have Hpo:=Lh hpo
  clear h12 h2 hb3 hr hle hpo
  go_wp2
  go_ret
  exact ⟨_,_,_,rfl,by rw[Hp.out];exact Hpo.out,Hb3.out⟩
end Go.Proofs.YtdimmlckpgpgcaaGreat
namespace Go.Proofs.YtdimmlckpgpgcaaGreat
open Go.RowKit
def psR (lead fac:Int) (g:List Int) (low:Nat) (z:List Int) (j:Nat):Int:=if low<=j then z.getD j 0*lead-fac*g.getD (j-low) 0 else z.getD j 0*lead
def afz (lead fac:Int) (g:List Int) (low:Nat) (z:List Int) (j:Nat):List Int:=(List.range z.length).map fun t=>if t<j then psR lead fac g low z t else z.getD t 0
theorem abz (lead fac:Int) (g:List Int) (low:Nat) (z:List Int) (j:Nat):(afz lead fac g low z j).length=z.length:=by simp[afz]
theorem aeL (lead fac:Int) (g:List Int) (low:Nat) (z:List Int) (j:Nat) {t:Nat} (h:t<z.length):(afz lead fac g low z j)[t]?=some (if t<j then psR lead fac g low z t else z.getD t 0):=by
 rw[afz,List.getElem?_map,List.getElem?_range h];rfl
theorem afA (lead fac:Int) (g:List Int) (low:Nat) (z:List Int) (j:Nat) {t:Nat} (h:t<z.length):(afz lead fac g low z j).getD t 0=if t<j then psR lead fac g low z t else z.getD t 0:=by
 rw[List.getD_eq_getElem?_getD,aeL lead fac g low z j h];rfl
theorem anX (lead fac:Int) (g:List Int) (low:Nat) (z:List Int):afz lead fac g low z 0=z:=by
 refine List.ext_getElem? fun t=>?_
 rcases Nat.lt_or_ge t z.length with h | h
 ·rw[aeL lead fac g low z 0 h,if_neg (by omega),List.getD_eq_getElem?_getD,List.getElem?_eq_getElem h];rfl
 ·rw[List.getElem?_eq_none (by rw[abz];exact h),List.getElem?_eq_none h]
theorem apg (lead fac:Int) (g:List Int) (low:Nat) (z:List Int) {j:Nat} (hj:j<z.length):(afz lead fac g low z j).set j (psR lead fac g low z j)=afz lead fac g low z (j+1):=by
 refine List.ext_getElem? fun t=>?_
 rcases Nat.lt_or_ge t z.length with h | h
 ·rw[aeL lead fac g low z (j+1) h]
  rcases Nat.decEq t j with hne | heq
  ·rw[List.getElem?_set_ne (by omega),aeL lead fac g low z j h]
   congr 1
   by_cases h1:t<j
   ·rw[if_pos h1,if_pos (by omega)]
   ·rw[if_neg h1,if_neg (by omega)]
  ·subst heq
   rw[List.getElem?_set_self (by rw[abz];exact h),if_pos (by omega)]
 ·rw[List.getElem?_eq_none (by rw[List.length_set,abz];exact h),List.getElem?_eq_none (by rw[abz];exact h)]
def psQ (lead:Int) (low:Nat) (y:List Int) (j:Nat):List Int:=(List.range y.length).map fun t=>if low<t/\t<j then y.getD t 0*lead else y.getD t 0
theorem abu (lead:Int) (low:Nat) (y:List Int) (j:Nat):(psQ lead low y j).length=y.length:=by simp[psQ]
theorem agN (lead:Int) (low:Nat) (y:List Int) (j:Nat) {t:Nat} (h:t<y.length):(psQ lead low y j)[t]?=some (if low<t/\t<j then y.getD t 0*lead else y.getD t 0):=by
 rw[psQ,List.getElem?_map,List.getElem?_range h];rfl
theorem aiX (lead:Int) (low:Nat) (y:List Int) (j:Nat) {t:Nat} (h:t<y.length):(psQ lead low y j).getD t 0=if low<t/\t<j then y.getD t 0*lead else y.getD t 0:=by
 rw[List.getD_eq_getElem?_getD,agN lead low y j h];rfl
theorem arp (lead:Int) (low:Nat) (y:List Int):psQ lead low y (low+1)=y:=by
 refine List.ext_getElem? fun t=>?_
 rcases Nat.lt_or_ge t y.length with h | h
 ·rw[agN lead low y _ h,if_neg (by omega),List.getD_eq_getElem?_getD,List.getElem?_eq_getElem h];rfl
 ·rw[List.getElem?_eq_none (by rw[abu];exact h),List.getElem?_eq_none h]
theorem atP (lead:Int) (low:Nat) (y:List Int) {j:Nat} (hl:low<j) (hj:j<y.length):(psQ lead low y j).set j (y.getD j 0*lead)=psQ lead low y (j+1):=by
 refine List.ext_getElem? fun t=>?_
 rcases Nat.lt_or_ge t y.length with h | h
 ·rw[agN lead low y (j+1) h]
  rcases Nat.decEq t j with hne | heq
  ·rw[List.getElem?_set_ne (by omega),agN lead low y j h]
   congr 1
   by_cases h1:low<t/\t<j
   ·rw[if_pos h1,if_pos (by omega)]
   ·rw[if_neg h1,if_neg (by omega)]
  ·subst heq
   rw[List.getElem?_set_self (by rw[abu];exact h),if_pos (by omega)]
 ·rw[List.getElem?_eq_none (by rw[List.length_set,abu];exact h),List.getElem?_eq_none (by rw[abu];exact h)]
def psn (lead:Int) (g:List Int) (d m N:Nat) (z0:List Int):Nat->List Int×List Int
 | 0=>(List.replicate m 0,z0)
 | t+1 =>
   let s:=psn lead g d m N z0 t
   let i:=N-1-t
   let fac:=s.2.getD i 0
   ((psQ lead (i-d) s.1 m).set (i-d) fac,afz lead fac g (i-d) s.2 i)
theorem acv (lead:Int) (g:List Int) (d m N:Nat) (z0:List Int) (t:Nat):(psn lead g d m N z0 t).1.length=m:=by
 induction t with
 | zero=>simp[psn]
 | succ t ih=>simp only[psn,List.length_set,abu,ih]
theorem acQ (lead:Int) (g:List Int) (d m N:Nat) (z0:List Int) (t:Nat):(psn lead g d m N z0 t).2.length=z0.length:=by
 induction t with
 | zero=>simp[psn]
 | succ t ih=>simp only[psn,abz,ih]
def Dl (D:Nat) (z:List Int):Prop:=∀ k,aa4 (z.getD k 0).natAbs<=D
theorem Dl.mono {D E:Nat} {z:List Int} (h:Dl D z) (hE:D<=E):Dl E z:=fun k=>Nat.le_trans (h k) hE
theorem Dl.smp {D:Nat} {z:List Int} (h:Dl D z) (hD:D<=1099511627776):SmP z:=fun c hc=>by
 obtain ⟨k,hk⟩:=List.getElem?_of_mem hc
 have:=h k
 rw[List.getD_eq_getElem?_getD,hk] at this
 exact Nat.le_trans this hD
theorem Dl.take {D:Nat} {z:List Int} (h:Dl D z) (n:Nat):Dl D (z.take n):=fun k=>by
 rcases Nat.lt_or_ge k n with h1 | h1
 ·rw[adk z h1];exact h k
 ·rw[List.getD_eq_getElem?_getD,List.getElem?_eq_none (by rw[List.length_take];omega)]
  show aa4 0<=D
  rw[aa5];exact Nat.zero_le _
theorem adP (a b:Int):aa4 (a*b).natAbs<=aa4 a.natAbs+aa4 b.natAbs:=by rw[Int.natAbs_mul];exact ak4 _ _
theorem aph (a b:Int):aa4 (a-b).natAbs<=max (aa4 a.natAbs) (aa4 b.natAbs)+1:=Nat.le_trans (acE (show (a-b).natAbs<=a.natAbs+b.natAbs by omega)) (adp _ _)
theorem Fit.aa4 {z:Int} (h:Fit z):aa4 z.natAbs<=FW:=aaF h
theorem avT {lead fac:Int} {g z:List Int} {low D:Nat} (hl:Fit lead) (hf:aa4 fac.natAbs<=D) (hg:abH g) (hz:Dl D z) (j:Nat):aa4 (psR lead fac g low z j).natAbs<=D+100002:=by
 have hw:=ach
 have h1:=adP (z.getD j 0) lead
 have h2:=hz j
 have h3:=hl.aa4
 unfold psR
 split
 ·have h4:=adP fac (g.getD (j-low) 0)
  have h5:=(hg (j-low)).aa4
  have h6:=aph (z.getD j 0*lead) (fac*g.getD (j-low) 0)
  omega
 ·omega
theorem asI {lead:Int} {g z0:List Int} {d m N D:Nat} (hl:Fit lead) (hg:abH g) (hz:Dl D z0) (t:Nat):Dl (D+100002*t) (psn lead g d m N z0 t).1/\Dl (D+100002*t) (psn lead g d m N z0 t).2:=by
 have hw:=ach
 induction t with
 | zero =>
   refine ⟨fun k=>?_,hz.mono (by omega)⟩
   have:(List.replicate m (0:Int)).getD k 0=0:=by rw[List.getD_eq_getElem?_getD,List.getElem?_replicate];split<;>rfl
   show aa4 ((List.replicate m (0:Int)).getD k 0).natAbs<=_
   rw[this]
   show aa4 0<=_
   rw[aa5];exact Nat.zero_le _
 | succ t ih =>
   obtain ⟨h1,h2⟩:=ih
   have hf:=h2 (N-1-t)
   constructor
   ·intro k
    simp only[psn]
    rcases Nat.lt_or_ge k m with hk | hk
    ·rcases Nat.decEq k (N-1-t-d) with hne | heq
     ·rw[List.getD_eq_getElem?_getD,List.getElem?_set_ne (by omega),<- List.getD_eq_getElem?_getD,aiX _ _ _ _ (by rw[acv];exact hk)]
      have h3:=h1 k
      split
      ·have h4:=adP ((psn lead g d m N z0 t).1.getD k 0) lead
       have h5:=hl.aa4
       omega
      ·omega
     ·subst heq
      rw[List.getD_eq_getElem?_getD,List.getElem?_set_self (by rw[abu,acv];exact hk)]
      show aa4 ((psn lead g d m N z0 t).2.getD (N-1-t) 0).natAbs<=_
      omega
    ·rw[List.getD_eq_getElem?_getD,List.getElem?_eq_none (by rw[List.length_set,abu,acv];exact hk)]
     show aa4 0<=_
     rw[aa5];exact Nat.zero_le _
   ·intro k
    simp only[psn]
    rcases Nat.lt_or_ge k z0.length with hk | hk
    ·rw[afA _ _ _ _ _ _ (by rw[acQ];exact hk)]
     split
     ·exact Nat.le_trans (avT hl hf hg h2 k) (by omega)
     ·have:=h2 k;omega
    ·rw[List.getD_eq_getElem?_getD,List.getElem?_eq_none (by rw[abz,acQ];exact hk)]
     show aa4 0<=_
     rw[aa5];exact Nat.zero_le _
def psq (f g:List Int):List Int:=if aac f<=aac g-1 then [] else aaf (psn (aaj g) g (aac g-1) (aac f-(aac g-1)) (aac f) (aaf f) (aac f-(aac g-1))).1
def psr (f g:List Int):List Int:=if aac f<=aac g-1 then aaf f else aaf ((psn (aaj g) g (aac g-1) (aac f-(aac g-1)) (aac f) (aaf f) (aac f-(aac g-1))).2.take (aac g-1))
theorem ab2.avk {w:World} {g g':Nat} {zs ys:List Int} (h:ab2 w g zs) (hr:ab2 w g' ys) {i:Nat} (hi:i<ys.length) (hg:g≠g') {neg:Bool} {A:Option Addr} {l c:Nat} :
  ab2 ((w.setCell ⟨g',i*2,none⟩ (.bool neg)).setCell ⟨g',i*2+1,none⟩ (.slice A l c)) g zs:=by
 obtain ⟨cs,hk,hs⟩:=h.blk
 obtain ⟨n0,A0,l0,c0,e0,e1,_⟩:=hr.elems i hi
 have e1':(w.setCell ⟨g',i*2,none⟩ (.bool neg)).cell? ⟨g',i*2+1,none⟩=some (.slice A0 l0 c0):=by
  rw[World.cell?_setCell_other w _ _ _ (by simp)];exact e1
 have keep:∀ {neg' A' l' c' z'},aaE w neg' A' l' c' z'->aaE ((w.setCell ⟨g',i*2,none⟩ (.bool neg)).setCell ⟨g',i*2+1,none⟩ (.slice A l c)) neg' A' l' c' z' :=
  fun hn=>(hn.store _ e0 (aaL _)).store _ e1' (aai _ _ _)
 refine ⟨⟨cs,(hk.far (p:=⟨g',i*2,none⟩) hg _).far (p:=⟨g',i*2+1,none⟩) hg _,hs⟩,fun j hj=>?_⟩
 obtain ⟨n1,A1,l1,c1,f0,f1,f2⟩:=h.elems j hj
 refine ⟨n1,A1,l1,c1,?_,?_,keep f2⟩
 ·rw[World.cell?_setCell_other _ _ _ _ (by intro e;injection e with e _;exact hg e.symm),World.cell?_setCell_other _ _ _ _ (by intro e;injection e with e _;exact hg e.symm)];exact f0
 ·rw[World.cell?_setCell_other _ _ _ _ (by intro e;injection e with e _;exact hg e.symm),World.cell?_setCell_other _ _ _ _ (by intro e;injection e with e _;exact hg e.symm)];exact f1
end Go.Proofs.YtdimmlckpgpgcaaGreat
namespace Go.Proofs.YtdimmlckpgpgcaaGreat
open Go.RowKit
def cv (q g:Nat->Int) (k:Nat):Nat->Int
 | 0=>0
 | m+1=>cv q g k m+q m*g (k-m)
theorem apj (f g:List Int) (k:Nat):∀ m,pcs f g k m=cv (fun i=>f.getD i 0) (fun i=>g.getD i 0) k m
 | 0=>rfl
 | m+1=>by rw[pcs,cv,apj f g k m]
theorem arq {q q' g g':Nat->Int} {k:Nat} (hq:∀ i,q i=q' i) (hg:∀ i,g i=g' i) (m:Nat):cv q g k m=cv q' g' k m:=by
 rw[funext hq,funext hg]
theorem atQ {q q' g:Nat->Int} {k low:Nat} {lead fac:Int} (hq:∀ i,q' i=lead*q i+if i=low then fac else 0):∀ m,cv q' g k m=lead*cv q g k m+if low<m then fac*g (k-low) else 0:=by
 intro m
 induction m with
 | zero=>simp[cv]
 | succ m ih =>
   rw[cv,ih,hq m,cv]
   rcases Nat.lt_trichotomy low m with h | h | h
   ·rw[if_pos h,if_neg (by omega),if_pos (by omega)];grind
   ·subst h;rw[if_neg (by omega),if_pos rfl,if_pos (by omega)];grind
   ·rw[if_neg (by omega),if_neg (by omega),if_neg (by omega)];grind
theorem alo {q g:Nat->Int} (k:Nat) (h:∀ i,q i=0) (m:Nat):cv q g k m=0:=by
 induction m with
 | zero=>rfl
 | succ m ih=>rw[cv,ih,h];simp
theorem avU (lead:Int) (g:List Int) (d m N:Nat) (z0:List Int) (hN:N=z0.length) (hm:m=N-d) (hd:d<N) (hl:g.getD d 0=lead):∀ t,t<=m ->
  (∀ i,i+t<m->(psn lead g d m N z0 t).1.getD i 0=0) /\
  ∀ k,lead^t*z0.getD k 0=cv (fun i=>(psn lead g d m N z0 t).1.getD i 0) (fun j=>if j<=d then g.getD j 0 else 0) k (k+1)+(if k+t<N then (psn lead g d m N z0 t).2.getD k 0 else 0):=by
 intro t
 induction t with
 | zero =>
   intro _
   have e0:∀ i,(List.replicate m (0:Int)).getD i 0=0:=fun i=>by
    rcases Nat.lt_or_ge i m with h | h
    ·simp[List.getD_eq_getElem?_getD,h]
    ·exact aaC _ (by simpa using h)
   refine ⟨fun i _=>by simpa [psn] using e0 i,fun k=>?_⟩
   rw[alo k (fun i=>by simpa [psn] using e0 i)]
   simp only[psn,Int.pow_zero,Int.one_mul,Nat.add_zero,Int.zero_add]
   by_cases h:k<N
   ·rw[if_pos h]
   ·rw[if_neg h,aaC _ (by omega)]
 | succ t ih =>
   intro ht
   obtain ⟨iha,ihb⟩:=ih (by omega)
   have l1:=acv lead g d m N z0 t
   have l2:=acQ lead g d m N z0 t
   obtain ⟨low,hlow⟩:∃ low,low=N-1-t-d:=⟨_,rfl⟩
   have eq1:(psn lead g d m N z0 (t+1)).1=(psQ lead low (psn lead g d m N z0 t).1 m).set low ((psn lead g d m N z0 t).2.getD (N-1-t) 0):=by rw[hlow];rfl
   have eq2:(psn lead g d m N z0 (t+1)).2=afz lead ((psn lead g d m N z0 t).2.getD (N-1-t) 0) g low (psn lead g d m N z0 t).2 (N-1-t):=by rw[hlow];rfl
   obtain ⟨fac,aoF⟩:∃ fac,fac=(psn lead g d m N z0 t).2.getD (N-1-t) 0:=⟨_,rfl⟩
   rw[eq1,eq2,<- aoF]
   generalize psn lead g d m N z0 t=S at *
   have g1:∀ i,((psQ lead low S.1 m).set low fac).getD i 0=lead*S.1.getD i 0+if i=low then fac else 0:=fun i=>by
    by_cases hi:i=low
    ·subst hi
     rw[List.getD_eq_getElem?_getD,List.getElem?_set_self (by rw[abu];omega),if_pos rfl,iha i (by omega)]
     simp
    ·rw[List.getD_eq_getElem?_getD,List.getElem?_set_ne (fun h=>hi h.symm),<- List.getD_eq_getElem?_getD,if_neg hi,Int.add_zero]
     rcases Nat.lt_or_ge i m with h | h
     ·rw[aiX lead low S.1 m (by omega)]
      by_cases h2:low<i/\i<m
      ·rw[if_pos h2,Int.mul_comm]
      ·rw[if_neg h2,iha i (by omega)];simp
     ·rw[aaC _ (by rw[abu];omega),aaC S.1 (by omega)];simp
   refine ⟨fun i hi=>?_,fun k=>?_⟩
   ·rw[g1,iha i (by omega),if_neg (by omega)];simp
   ·rw[atQ (fun i=>g1 i),Int.pow_succ,Int.mul_comm (lead^t) lead,Int.mul_assoc,ihb k,Int.mul_add]
    rcases Nat.lt_trichotomy k (N-1-t) with h | h | h
    ·rw[if_pos (show k+t<N by omega),if_pos (show k+(t+1)<N by omega),afA lead fac g low S.2 _ (by omega),if_pos h]
     unfold psR
     by_cases h2:low<=k
     ·rw[if_pos (by omega),if_pos h2,if_pos (by omega)];grind
     ·rw[if_neg (by omega),if_neg h2];grind
    ·rw[if_pos (show k+t<N by omega),if_neg (show ¬ k+(t+1)<N by omega),if_pos (by omega),if_pos (by omega),show k-low=d by omega,hl,h,<- aoF];grind
    ·rw[if_neg (show ¬ k+t<N by omega),if_neg (show ¬ k+(t+1)<N by omega),if_pos (by omega),if_neg (by omega)];grind
theorem aam (p:List Int) (k:Nat):(aaf p).getD k 0=p.getD k 0:=by
 rcases Nat.lt_or_ge k (aac p) with h | h
 ·rw[aaf,adk p h]
 ·rw[aaC _ (by rw[aae];exact h),aah p _ h]
theorem atS (f g:List Int) (h1:1<=aac g) (k:Nat):aaj g^(aac f-(aac g-1))*f.getD k 0=pc (psq f g) (aaf g) k+(psr f g).getD k 0:=by
 unfold pc
 rw[apj]
 by_cases h:aac f<=aac g-1
 ·rw[show aac f-(aac g-1)=0 by omega,psq,if_pos h,psr,if_pos h,alo k (fun i=>by simp),aam]
  simp
 ·obtain ⟨-,hb⟩:=avU (aaj g) g (aac g-1) (aac f-(aac g-1)) (aac f) (aaf f) (aae f).symm rfl (by omega) rfl (aac f-(aac g-1)) (Nat.le_refl _)
  have:=hb k
  rw[aam] at this
  rw[this,psq,if_neg h,psr,if_neg h,aam]
  congr 1
  ·refine arq (fun i=>(aam _ i).symm) (fun j=>?_) _
   rw[aam]
   by_cases hj:j<=aac g-1
   ·show (if j<=aac g-1 then g.getD j 0 else 0)=_
    rw[if_pos hj]
   ·show (if j<=aac g-1 then g.getD j 0 else 0)=_
    rw[if_neg hj,aah g j (by omega)]
  ·by_cases hk:k<aac g-1
   ·rw[if_pos (by omega),adk _ hk]
   ·rw[if_neg (by omega),aaC _ (by rw[List.length_take];omega)]
theorem aiY (f g:List Int) (h1:1<=aac g):aac (psr f g)<aac g:=by
 unfold psr
 split
 ·rw[abb];omega
 ·rw[abb]
  have:=aas ((psn (aaj g) g (aac g-1) (aac f-(aac g-1)) (aac f) (aaf f) (aac f-(aac g-1))).2.take (aac g-1))
  rw[List.length_take] at this
  omega
def Bd (B:Nat) (z:List Int):Prop:=∀ k,(z.getD k 0).natAbs<=B
theorem Bd.mono {B C:Nat} {z:List Int} (h:Bd B z) (hC:B<=C):Bd C z:=fun k=>Nat.le_trans (h k) hC
theorem Bd.aaf {B:Nat} {z:List Int} (h:Bd B z):Bd B (aaf z):=fun k=>by rw[aam];exact h k
theorem Bd.take {B:Nat} {z:List Int} (h:Bd B z) (n:Nat):Bd B (z.take n):=fun k=>by
 rcases Nat.lt_or_ge k n with h1 | h1
 ·rw[adk z h1];exact h k
 ·rw[aaC _ (by rw[List.length_take];omega)];exact Nat.zero_le _
theorem Bd.acP {B:Nat} {z:List Int} (h:Bd B z) (i:Nat) {x:Int} (hx:x.natAbs<=B):Bd B (z.set i x):=fun k=>by
 rw[List.getD_eq_getElem?_getD]
 rcases Nat.decEq k i with hne | heq
 ·rw[List.getElem?_set_ne (by omega),<- List.getD_eq_getElem?_getD];exact h k
 ·subst heq
  rcases Nat.lt_or_ge k z.length with h1 | h1
  ·rw[List.getElem?_set_self h1];exact hx
  ·rw[List.getElem?_eq_none (by rw[List.length_set];exact h1)];exact Nat.zero_le _
theorem avV {lead fac:Int} {g z:List Int} {low B M:Nat} (hl:lead.natAbs<=M) (hf:fac.natAbs<=B) (hg:Bd M g) (hz:Bd B z) (j:Nat):(psR lead fac g low z j).natAbs<=2*M*B:=by
 have h1:(z.getD j 0*lead).natAbs<=B*M:=by rw[Int.natAbs_mul];exact Nat.mul_le_mul (hz j) hl
 have h2:∀ i,(fac*g.getD i 0).natAbs<=B*M:=fun i=>by rw[Int.natAbs_mul];exact Nat.mul_le_mul hf (hg i)
 have e:2*M*B=B*M+B*M:=by grind
 unfold psR
 split
 ·have:=h2 (j-low);omega
 ·omega
theorem avW {lead:Int} {g z0:List Int} {d m N M B:Nat} (h1:1<=M) (hl:lead.natAbs<=M) (hg:Bd M g) (hz:Bd B z0) (t:Nat):Bd ((2*M)^t*B) (psn lead g d m N z0 t).1/\Bd ((2*M)^t*B) (psn lead g d m N z0 t).2:=by
 induction t with
 | zero =>
   refine ⟨fun k=>?_,by simpa [psn] using hz⟩
   rcases Nat.lt_or_ge k m with h | h
   ·simp[psn,List.getD_eq_getElem?_getD,h]
   ·rw[aaC _ (by simpa [psn] using h)];exact Nat.zero_le _
 | succ t ih =>
   obtain ⟨ha,hb⟩:=ih
   have e:(2*M)^(t+1)*B=2*M*((2*M)^t*B):=by rw[Nat.pow_succ];grind
   have le:(2*M)^t*B<=(2*M)^(t+1)*B:=by rw[e];exact Nat.le_mul_of_pos_left _ (by omega)
   simp only[psn]
   refine ⟨Bd.acP (fun k=>?_) _ (Nat.le_trans (hb _) le),fun k=>?_⟩
   ·rcases Nat.lt_or_ge k (psn lead g d m N z0 t).1.length with h | h
    ·rw[aiX _ _ _ _ h]
     split
     ·rw[Int.natAbs_mul,e]
      have:=Nat.mul_le_mul (ha k) hl
      refine Nat.le_trans this ?_
      rw[Nat.mul_comm]
      exact Nat.mul_le_mul_right _ (by omega)
     ·exact Nat.le_trans (ha k) le
    ·rw[aaC _ (by rw[abu];exact h)];exact Nat.zero_le _
   ·rcases Nat.lt_or_ge k (psn lead g d m N z0 t).2.length with h | h
    ·rw[afA _ _ _ _ _ _ h]
     split
     ·rw[e];exact avV hl (hb _) hg hb k
     ·exact Nat.le_trans (hb k) le
    ·rw[aaC _ (by rw[abz];exact h)];exact Nat.zero_le _
theorem apk {f g:List Int} {M B n:Nat} (h1:1<=M) (hg:Bd M g) (hf:Bd B f) (hn:aac f-(aac g-1)<=n):Bd ((2*M)^n*B) (psq f g)/\Bd ((2*M)^n*B) (psr f g):=by
 have h2:=avW (d:=aac g-1) (m:=aac f-(aac g-1)) (N:=aac f) h1 (hg (aac g-1)) hg hf.aaf (aac f-(aac g-1))
 have hle:(2*M)^(aac f-(aac g-1))*B<=(2*M)^n*B:=Nat.mul_le_mul_right _ (Nat.pow_le_pow_right (by omega) hn)
 have hB:B<=(2*M)^n*B:=Nat.le_mul_of_pos_left _ (Nat.pow_pos (by omega))
 constructor
 ·unfold psq;split
  ·intro k;simp
  ·exact (h2.1.mono hle).aaf
 ·unfold psr;split
  ·exact (hf.mono hB).aaf
  ·exact ((h2.2.mono hle).take _).aaf
end Go.Proofs.YtdimmlckpgpgcaaGreat
namespace Go.Proofs.YtdimmlckpgpgcaaGreat
open Go.RowKit
def acB (f g:List Int):List Int:=(List.range (max f.length g.length)).map fun k=>f.getD k 0+g.getD k 0
theorem ads (f g:List Int):(acB f g).length=max f.length g.length:=by simp[acB]
theorem aa7 (f g:List Int) (k:Nat):(acB f g).getD k 0=f.getD k 0+g.getD k 0:=by
 rcases Nat.lt_or_ge k (max f.length g.length) with h | h
 ·rw[List.getD_eq_getElem?_getD,acB,List.getElem?_map,List.getElem?_range h];rfl
 ·rw[aaC _ (by rw[ads];exact h),aaC f (by omega),aaC g (by omega)];rfl
structure aib (W:World) (g:Nat) (n:Bool) (A:Option Addr) (l c:Nat) (z:Int):Prop where
 c0:W.cell? ⟨g,0,none⟩=some (.bool n)
 c1:W.cell? ⟨g,1,none⟩=some (.slice A l c)
 f0:W.frozen? ⟨g,0,none⟩=false
 f1:W.frozen? ⟨g,1,none⟩=false
 lt:g<W.heap.size
 hz:abp W n A l c z
section
variable {W W':World} {g g':Nat} {n n':Bool} {A A':Option Addr} {l c l' c':Nat} {z z':Int}
theorem aib.move (h:aib W g n A l c z) (hb:Below W.heap.size W W'):aib W' g n A l c z:=by
 obtain ⟨hc,hf⟩:=acg hb
 exact ⟨(hc _ _ h.lt).trans h.c0,(hc _ _ h.lt).trans h.c1,(hf _ _ h.lt).trans h.f0,(hf _ _ h.lt).trans h.f1,Nat.lt_of_lt_of_le h.lt hb.size,h.hz.below hb⟩
theorem aib.of (h:aaN W g n A l c z):aib W g n A l c z:=⟨h.c0,h.c1,h.f0,h.f1,h.lt,h.hz.at_⟩
theorem aib.two (h:aib W g n A l c z) (hz:abp W n' A' l' c' z') (u:Bool) (B:Option Addr) (lb cb:Nat):abp (adz W g u B lb cb) n' A' l' c' z':=by
 have k0:=h.c0
 have k1:=h.c1
 have k1':(W.setCell ⟨g,0,none⟩ (.bool u)).cell? ⟨g,1,none⟩=some (.slice A l c):=by go_simp
 exact (hz.store _ k0 (aaL _)).store _ k1' (aai _ _ _)
theorem aib.put (h:aib W g n A l c z) (hz:abp W n' A' l' c' z'):aib (adz W g n' A' l' c') g n' A' l' c' z':=by
 have k0:=h.c0
 have k1:=h.c1
 have f0:=h.f0
 have f1:=h.f1
 exact ⟨by go_simp,by go_simp,by go_simp,by go_simp,by simpa [World.setCell] using h.lt,h.two hz _ _ _ _⟩
theorem aib.far (h:aib W g n A l c z) (h':aib W g' n' A' l' c' z') (hg:g≠g') (u:Bool) (B:Option Addr) (lb cb:Nat):aib (adz W g' u B lb cb) g n A l c z:=by
 have k0:=h.c0
 have k1:=h.c1
 have f0:=h.f0
 have f1:=h.f1
 have j0:=h'.c0
 have j1:=h'.c1
 exact ⟨by go_simp,by go_simp,by go_simp,by go_simp,by simpa [World.setCell] using h.lt,h'.two h.hz _ _ _ _⟩
end
theorem iz (W:World):abp W false none 0 0 0:=(show aaE W false none 0 0 0 from ⟨aaW.zero _ _ _,by simp⟩).at_
set_option maxRecDepth 100000 in
set_option maxHeartbeats 4000000 in
theorem alp {I J:aay} (hI:IK I) (hJ:IK J) (A:Option Addr) (la ca:Nat) (f:List Int) (B:Option Addr) (lb cb:Nat) (g:List Int) (w:World) (hf:aaw I w A la ca f) (hg:aaw J w B lb cb g) (sf:SmP f) (sg:SmP g) (ss:∀ k,Sm ((f.getD k 0).natAbs+(g.getD k 0).natAbs)) (hma:la<=1000000000) (hmb:lb<=1000000000) :
  Calls Tryz.prog 123 #[.slice A la ca,.slice B lb cb,.agg #[.bool false,.slice none 0 0],.func (.func 73) #[] #[]] w fun e w'=>∃ r n,e=.returned (.slice (some ⟨r,0,none⟩) n n)/\n=max la lb/\ab2 w' r (acB f g)/\w.heap.size<=r/\Below w.heap.size w w':=by
 have hbx:Below w.heap.size w (w.alloc (aaq false none 0 0)):=(Below.refl _ _).alloc (Nat.le_refl _) _
 have Hf0:=Lh hf
 have Hg0:=Lh hg
 have HZ:=Lh (aaN.nil w)
 have Hbx:=Lh hbx
 obtain ⟨n,hn⟩:∃ n,n=max la lb:=⟨_,rfl⟩
 have hmx:(if la<lb then (lb:Int) else (la:Int))=(n:Int):=by split<;>omega
 have Hn:=Lh hn
 have hpl:=Lh (show (acB f g).length=n by rw[ads,hf.length,hg.length,hn])
 have hnb:n<=1000000000:=by omega
 clear hf hg hbx hn
 go_enter Tryz.func123,Tryz.ntmps123
 go_wp2_with (at_make;refine aaU _ rfl (.tmp 17) (.tmp 17) rfl n rfl rfl (by omega) ?_)
 intro w1 hz hb3 hsz
 have atO:Below (w.alloc (aaq false none 0 0)).heap.size (w.alloc (aaq false none 0 0)) w1:=by rw[World.size_alloc];exact hb3
 have hu:=ac2 (acB f g) n
 rw[<- hu] at hz
 have Hz:=Lh hz
 have Hb3:=Lh (Hbx.out.trans (atO.mono Hbx.out.size))
 have HZ1:=Lh (HZ.out.move atO)
 have hsz2:w.heap.size+1<w1.heap.size:=by (try simp only[World.size_alloc] at hsz);omega
 clear hz hsz hu hmx hb3 atO HZ Hbx
 go_wp2
 go_loopw [21] (fun s21 wr=>∃ k:Nat,k<=n/\s21=.int .i64 (k:Int)/\ab2 wr (w.heap.size+1) (upto (acB f g) k n)/\aaN wr w.heap.size false none 0 0 0/\w1.heap.size<=wr.heap.size/\Below w.heap.size w wr) (fun s21 _=>n-(intOf s21).toNat)
 case atStart=>exact ⟨0,Nat.zero_le _,rfl,Hz.out,HZ1.out,Nat.le_refl _,Hb3.out⟩
 case round =>
  clear Hz HZ1 Hb3
  obtain ⟨k,hk,rfl,hrow,hzb,hws,hbw⟩:=hrel
  obtain ⟨wo,rfl⟩:∃ wo:World,wo=wr:=⟨_,rfl⟩
  have abW:=Lh hrow
  have Hzb:=Lh hzb
  have Hf:=Lh (Hf0.out.below hI hbw)
  have Hg:=Lh (Hg0.out.below hJ hbw)
  have Hbw:=Lh hbw
  have z0:=hzb.c0
  have z1:=hzb.c1
  have hlw:=hzb.lt
  have nz0:w.heap.size≠wo.heap.size:=by omega
  have nz1:w.heap.size≠wo.heap.size+1:=by omega
  clear hrow hzb hbw
  by_cases hlt:k<n
  ·have hkn:(k:Int)<(n:Int):=by omega
   go_wp2_with fail
   go_cut [10,11,12] (fun s10 s11 s12 wx=>s10=.int .i64 (k:Int)/\∃ g1 g2,s11=.pointer (some ⟨g1,0,none⟩)/\s12=.pointer (some ⟨g2,0,none⟩)/\aib wx g1 false none 0 0 0/\aib wx g2 false none 0 0 0/\g1≠g2/\wo.heap.size<=g1/\wo.heap.size<=g2/\Below wo.heap.size wo wx)
   case first =>
    go_region
    all_goals go_wp2_with fail
    all_goals go_meet
    ·exact ⟨rfl,wo.heap.size,wo.heap.size+1,rfl,rfl,⟨by go_simp,by go_simp,by go_simp,by go_simp,(by first | (simp;done) | (simp;omega) | omega),iz _⟩,⟨by go_simp,by go_simp,by go_simp,by go_simp,(by first | (simp;done) | (simp;omega) | omega),iz _⟩,by omega,Nat.le_refl _,by omega,Bel.go⟩
    ·exact ⟨rfl,wo.heap.size+1,wo.heap.size,rfl,rfl,⟨by go_simp,by go_simp,by go_simp,by go_simp,(by first | (simp;done) | (simp;omega) | omega),iz _⟩,⟨by go_simp,by go_simp,by go_simp,by go_simp,(by first | (simp;done) | (simp;omega) | omega),iz _⟩,by omega,by omega,Nat.le_refl _,Bel.go⟩
   case rest =>
    obtain ⟨rfl,g1,g2,rfl,rfl,hx1,hx2,hne,hg1,hg2,hb4⟩:=hcut
    go_upto_if 29 with (fail)
    go_cut [] (fun wx=>∃ n1 A1 l1 c1,aib wx g1 n1 A1 l1 c1 (f.getD k 0)/\aib wx g2 false none 0 0 0/\Below wo.heap.size wo wx)
    case first =>
     by_cases hka:k<la
     ·have hki:(k:Int)<(la:Int):=by omega
      obtain ⟨b1,o1,rfl,hb1,hc1⟩:=Hf.out.get (by omega)
      obtain ⟨nf,Af,lf,cf,f0,f1,zf⟩:=hc1 k hka
      have e0:=(hb4.cell (p:=⟨b1,o1+k*2,none⟩) hb1).trans f0
      have e1:=(hb4.cell (p:=⟨b1,o1+k*2+1,none⟩) hb1).trans f1
      have H1:=Lh (hx1.put ((hI.at_ zf).below hb4))
      have H2:=Lh (hx2.far hx1 (Ne.symm hne) nf Af lf cf)
      have H3:Hid (Below wo.heap.size wo (adz _ g1 nf Af lf cf)):=Lh ((hb4.setCell (p:=⟨g1,0,none⟩) hg1 (.bool nf)).setCell (p:=⟨g1,1,none⟩) hg1 (.slice Af lf cf))
      have k0:=hx1.c0
      have k1:=hx1.c1
      have k2:=hx1.f0
      have k3:=hx1.f1
      clear hc1 f0 f1 zf hx1 hx2 hb4
      go_wp2_with (fail)
      go_meet
      exact ⟨_,_,_,_,H1.out,H2.out,H3.out⟩
     ·have hki:¬ (k:Int)<(la:Int):=by omega
      have H0:=Lh (show f.getD k 0=0 from aaC f (by rw[Hf.out.length];omega))
      have H1:=Lh hx1
      have H2:=Lh hx2
      have H3:=Lh hb4
      clear hx1 hx2 hb4
      go_wp2_with (fail)
      go_meet
      exact ⟨_,_,_,_,by rw[H0.out];exact H1.out,H2.out,H3.out⟩
    case rest =>
     clear hx1 hx2 hb4
     obtain ⟨n1,A1,l1,c1,hx1,hx2,hb4⟩:=hcut
     go_upto_if 37 with (fail)
     go_cut [] (fun wx=>∃ n2 A2 l2 c2,aib wx g1 n1 A1 l1 c1 (f.getD k 0)/\aib wx g2 n2 A2 l2 c2 (g.getD k 0)/\Below wo.heap.size wo wx)
     case first =>
      by_cases hka:k<lb
      ·have hki:(k:Int)<(lb:Int):=by omega
       obtain ⟨b1,o1,rfl,hb1,hc1⟩:=Hg.out.get (by omega)
       obtain ⟨nf,Af,lf,cf,f0,f1,zf⟩:=hc1 k hka
       have e0:=(hb4.cell (p:=⟨b1,o1+k*2,none⟩) hb1).trans f0
       have e1:=(hb4.cell (p:=⟨b1,o1+k*2+1,none⟩) hb1).trans f1
       have H1:=Lh (hx2.put ((hJ.at_ zf).below hb4))
       have H2:=Lh (hx1.far hx2 hne nf Af lf cf)
       have H3:Hid (Below wo.heap.size wo (adz _ g2 nf Af lf cf)):=Lh ((hb4.setCell (p:=⟨g2,0,none⟩) hg2 (.bool nf)).setCell (p:=⟨g2,1,none⟩) hg2 (.slice Af lf cf))
       have k0:=hx2.c0
       have k1:=hx2.c1
       have k2:=hx2.f0
       have k3:=hx2.f1
       clear hc1 f0 f1 zf hx1 hx2 hb4
       go_wp2_with (fail)
       go_meet
       exact ⟨_,_,_,_,H2.out,H1.out,H3.out⟩
      ·have hki:¬ (k:Int)<(lb:Int):=by omega
       have H0:=Lh (show g.getD k 0=0 from aaC g (by rw[Hg.out.length];omega))
       have H1:=Lh hx1
       have H2:=Lh hx2
       have H3:=Lh hb4
       clear hx1 hx2 hb4
       go_wp2_with (fail)
       go_meet
       exact ⟨_,_,_,_,H1.out,by rw[H0.out];exact H2.out,H3.out⟩
     case rest =>
      clear hx1 hx2 hb4
      obtain ⟨n2,A2,l2,c2,hx1,hx2,hb4⟩:=hcut
      have X1:=Lh hx1
      have X2:=Lh hx2
      have Hb4:=Lh hb4
      have k0:=hx1.c0
      have k1:=hx1.c1
      have k2:=hx2.c0
      have k3:=hx2.c1
      have sf1:=sf.getD k
      have sg1:=sg.getD k
      have ss1:=ss k
      clear hx1 hx2 hb4
      go_wp2_with fail
      refine (aeJ _ _ _ _ _ _ _ _ _ _ _ X1.out.hz X2.out.hz sf1 sg1 ss1).mono ?_
      rintro e w9 ⟨n9,A9,l9,c9,rfl,h9,hb9⟩
      have abM:=Hb4.out.trans (hb9.mono Hb4.out.size)
      have hrw:=abW.out.below abM
      have hul:(upto (acB f g) k n).length=n:=upto_length _ _ _
      obtain ⟨n0,A0,l0,c0,d0,d1,_⟩:=hrw.elems k (by rw[hul];exact hlt)
      have hf0:=hrw.frozen (k*2)
      have hf1:=hrw.frozen (k*2+1)
      have hst:=adD (acB f g) (k:=k) (n:=n) hlt
      rw[aa7] at hst
      have hr2:=hrw.acP (i:=k) (by rw[hul];exact hlt) h9
      rw[hst] at hr2
      have Hr2:=Lh hr2
      have HZ2:=Lh ((Hzb.out.move abM).row hrw (i:=k) (by rw[hul];exact hlt) (by omega) (.bool n9) (.slice A9 l9 c9))
      have alk:=Lh abM
      clear h9 hb9 abM hrw hul hst hr2 X1 X2 Hb4 k0 k1 k2 k3
      go_wp2
      go_roundw
      case rel=>exact ⟨k+1,by omega,by go_num,Hr2.out,HZ2.out,Nat.le_trans hws (by have:=alk.out.size;simpa [World.setCell] using this),((Hbw.out.trans (alk.out.mono Hbw.out.size)).setCell (p:=⟨w.heap.size+1,k*2,none⟩) (by simp) _).setCell (p:=⟨w.heap.size+1,k*2+1,none⟩) (by simp) _⟩
      case measure=>simp[intOf];omega
  ·have hk2:n=k:=by omega
   subst hk2
   have hkn:¬ (n:Int)<(n:Int):=by omega
   have hup:upto (acB f g) n n=acB f g:=by have:=ac3 (acB f g);rw[hpl.out] at this;exact this
   rw[hup] at abW
   clear hup
   go_wp2
   go_ret
   exact ⟨w.heap.size+1,n,rfl,Hn.out,abW.out,by omega,Hbw.out⟩
end Go.Proofs.YtdimmlckpgpgcaaGreat
namespace Go.Proofs.YtdimmlckpgpgcaaGreat
open Go.RowKit
set_option maxHeartbeats 1000000 in
theorem anY (na:Bool) (A:Option Addr) (la ca:Nat) (a:Int) (gb:Nat) (nb:Bool) (B:Option Addr) (lb cb:Nat) (c:Int) (w:World) (ha:abp w na A la ca a) (hB:aaN w gb nb B lb cb c) (hsa:SmI a) (hsc:SmI c) (hk:ae1 c.natAbs a.natAbs) :
  Calls Tryz.prog 92 #[.agg #[.bool na,.slice A la ca],.pointer (some ⟨gb,0,none⟩)] w fun e w'=>∃ n1 A1 l1 c1,e=.returned (.agg #[.bool n1,.slice A1 l1 c1])/\aaE w' n1 A1 l1 c1 (c*a)/\Below w.heap.size w w':=by
 have hba:Below w.heap.size w (w.alloc (aaq na A la ca)):=(Below.refl _ _).alloc (Nat.le_refl _) _
 have hbb:Below (w.alloc (aaq na A la ca)).heap.size (w.alloc (aaq na A la ca)) ((w.alloc (aaq na A la ca)).alloc (aaq false none 0 0)):=(Below.refl _ _).alloc (Nat.le_refl _) _
 have hab:=hba.trans (hbb.mono hba.size)
 have hR:=aaN.nil (w.alloc (aaq na A la ca))
 simp only[World.size_alloc] at hR
 have HR:=Lh hR
 have HB:=Lh (hB.move hab)
 have Ha:=Lh (ha.below hab)
 have Hb:=Lh hab
 have b0:=HB.out.c0
 have b1:=HB.out.c1
 have hlt:=hB.lt
 have ne1:gb≠w.heap.size:=by omega
 have ne2:gb≠w.heap.size+1:=by omega
 clear ha hB hba hbb hab hR
 go_enter Tryz.func92,Tryz.ntmps92
 go_wp2_with fail
 refine (aa6 _ _ _ _ _ _ _ _ _ _ _ HB.out.hz.at_ Ha.out hsc hsa hk).mono ?_
 rintro e w2 ⟨n2,A2,l2,c2,rfl,h3,hb2⟩
 have hR2:=HR.out.move hb2
 have HP:=Lh (hR2.put h3)
 have Hb2:=Lh (((Hb.out.trans (hb2.mono Hb.out.size)).setCell (p:=⟨w.heap.size+1,0,none⟩) (by first | (simp;done) | (simp;omega) | omega) (.bool n2)).setCell (p:=⟨w.heap.size+1,1,none⟩) (by first | (simp;done) | (simp;omega) | omega) (.slice A2 l2 c2))
 have d0:=hR2.c0
 have d1:=hR2.c1
 have d2:=hR2.f0
 have d3:=hR2.f1
 clear h3 hb2 hR2 HR Hb HB Ha b0 b1
 go_wp2
 refine bodyPost_ret (v:=.agg #[.bool n2,.slice A2 l2 c2]) (by simp[results,Tryz.results92,go_sem,d0,d1]) rfl ⟨_,_,_,_,rfl,HP.out.hz,Hb2.out⟩
def psc (c:Int) (p:List Int):List Int:=p.map (c*·)
theorem aav (c:Int) (p:List Int) (k:Nat):(psc c p).getD k 0=c*p.getD k 0:=by
 unfold psc
 rw[List.getD_eq_getElem?_getD,List.getElem?_map,List.getD_eq_getElem?_getD]
 cases p[k]? with
 | none=>simp
 | some x=>rfl
set_option maxRecDepth 100000 in
set_option maxHeartbeats 2000000 in
theorem anZ {I:aay} (hI:IK I) (A:Option Addr) (len cap:Nat) (p:List Int) (gb:Nat) (nb:Bool) (B:Option Addr) (lb cb:Nat) (c:Int) (w:World) (h:aaw I w A len cap p) (hB:aaN w gb nb B lb cb c) (hs:SmP p) (hsc:SmI c) (hk:∀ k,ae1 c.natAbs (p.getD k 0).natAbs) (hm:len<=1099511627776) :
  Calls Tryz.prog 70 #[.slice A len cap,.func (.func 92) #[] #[.pointer (some ⟨gb,0,none⟩)]] w fun e w'=>∃ g,e=.returned (.slice (some ⟨g,0,none⟩) len len)/\ab2 w' g (psc c p)/\w.heap.size<=g/\Below w.heap.size w w':=by
 have hlen:=Lh h.length
 have hlt:=hB.lt
 obtain ⟨q,hq⟩:∃ q,q=psc c p:=⟨_,rfl⟩
 have hql:q.length=len:=by rw[hq];unfold psc;rw[List.length_map];exact hlen.out
 have hqg:∀ k,q.getD k 0=c*p.getD k 0:=fun k=>by rw[hq];exact aav c p k
 rw[<- hq]
 have Hql:=Lh hql
 have Hqg:=Lh hqg
 clear hq hql hqg
 go_enter Tryz.func70,Tryz.ntmps70
 go_wp2_with (at_make;refine aaU _ rfl (.tmp 9) (.tmp 9) rfl len rfl rfl (by omega) ?_)
 intro w1 hz hb1 hsz
 rw[<- ac2 q] at hz
 have Hz:=Lh hz
 have Hb1:=Lh hb1
 have HB1:=Lh (hB.move hb1)
 have ne1:gb≠w.heap.size:=by omega
 have ne2:w.heap.size≠gb:=by omega
 clear hz hb1 hsz hB hlt
 go_wp2
 go_loopw [13] (fun i wr=>∃ k:Nat,k<=len/\i=.int .i64 k/\ab2 wr w.heap.size (upto q k len)/\aaN wr gb nb B lb cb c/\Below w.heap.size w wr) (fun i _=>len-(intOf i).toNat)
 case atStart=>exact ⟨0,Nat.zero_le _,rfl,Hz.out,HB1.out,Hb1.out⟩
 case round =>
  clear Hz Hb1 HB1
  obtain ⟨k,hkl,rfl,hrow,hB,hbw⟩:=hrel
  have abW:=Lh hrow
  have HB:=Lh hB
  have Hbw:=Lh hbw
  clear hrow hbw hB
  by_cases hlt:k<len
  ·obtain ⟨b,off,rfl,hb,hc⟩:=h.get (by omega)
   obtain ⟨neg,Aj,lj,cj,c0,c1,hzk⟩:=hc k hlt
   have e0:=(Hbw.out.cell (p:=⟨b,off+k*2,none⟩) hb).trans c0
   have e1:=(Hbw.out.cell (p:=⟨b,off+k*2+1,none⟩) hb).trans c1
   have hzr:=(hI.at_ hzk).below Hbw.out
   have hsk:=hs.getD k
   have hmk:=hk k
   have hba:Below wr.heap.size wr (wr.alloc (aaq neg Aj lj cj)):=(Below.refl _ _).alloc (Nat.le_refl _) _
   have HBa:=Lh (HB.out.move hba)
   have Hh:=Lh h
   clear hc h c0 c1 hzk hba
   go_wp2_with fail
   refine (anY _ _ _ _ _ _ _ _ _ _ _ _ (hzr.below ((Below.refl _ _).alloc (Nat.le_refl _) _)) HBa.out hsk hsc hmk).mono ?_
   rintro e w2 ⟨n2,A2,l2,c2,rfl,h2,hb2⟩
   rw[<- Hqg.out k] at h2
   have hbx:Below wr.heap.size wr w2:=((Below.refl _ _).alloc (Nat.le_refl _) _).trans (hb2.mono (by simp))
   have hr2:=abW.out.below hbx
   have hB2:=HB.out.move hbx
   obtain ⟨n0,A0,l0,c0,e0,e1,_⟩:=hr2.elems k (by rw[upto_length];exact hlt)
   have hf0:=hr2.frozen (k*2)
   have hf1:=hr2.frozen (k*2+1)
   have Hr2:Hid (ab2 ((w2.setCell ⟨w.heap.size,k*2,none⟩ (.bool n2)).setCell ⟨w.heap.size,k*2+1,none⟩ (.slice A2 l2 c2)) w.heap.size (upto q (k+1) len)):=by
    show ab2 _ _ _
    rw[<- adD q hlt]
    exact hr2.acP (by rw[upto_length];exact hlt) h2
   have HB3:Hid (aaN ((w2.setCell ⟨w.heap.size,k*2,none⟩ (.bool n2)).setCell ⟨w.heap.size,k*2+1,none⟩ (.slice A2 l2 c2)) gb nb B lb cb c):=hB2.row hr2 (by rw[upto_length];exact hlt) ne1 _ _
   have Hb3:Hid (Below w.heap.size w ((w2.setCell ⟨w.heap.size,k*2,none⟩ (.bool n2)).setCell ⟨w.heap.size,k*2+1,none⟩ (.slice A2 l2 c2))):=((Hbw.out.trans (hbx.mono Hbw.out.size)).setCell (p:=⟨w.heap.size,k*2,none⟩) (Nat.le_refl _) _).setCell (p:=⟨w.heap.size,k*2+1,none⟩) (Nat.le_refl _) _
   clear hr2 h2 hb2 hbx hzr hsk hB2 HBa hmk
   go_wp2
   go_roundw
   case rel=>exact ⟨k+1,by omega,by go_num,Hr2.out,HB3.out,Hb3.out⟩
   case measure=>simp[intOf];omega
  ·have hk2:len=k:=by omega
   subst hk2
   have hup:upto q len len=q:=by have:=ac3 q;rw[Hql.out] at this;exact this
   rw[hup] at abW
   clear hup
   go_wp2
   go_ret
   exact ⟨_,rfl,abW.out,Nat.le_refl _,Hbw.out⟩
set_option maxRecDepth 100000 in
set_option maxHeartbeats 2000000 in
theorem aer {I:aay} (hI:IK I) (A:Option Addr) (len cap:Nat) (p:List Int) (nb:Bool) (B:Option Addr) (lb cb:Nat) (c:Int) (w:World) (h:aaw I w A len cap p) (hc:aaE w nb B lb cb c) (hs:SmP p) (hsc:SmI c) (hk:∀ k,ae1 c.natAbs (p.getD k 0).natAbs) (hsr:SmP (psc c p)) (hm:len<=1099511627776) :
  Calls Tryz.prog 65 #[.slice A len cap,.agg #[.bool nb,.slice B lb cb]] w fun e w'=>∃ A' l' c',e=.returned (.slice A' l' c')/\aaR w' A' l' c' (aaf (psc c p))/\Below w.heap.size w w':=by
 have hb0:Below w.heap.size w (w.alloc (aaq nb B lb cb)):=(Below.refl _ _).alloc (Nat.le_refl _) _
 have h1:=h.below hI hb0
 have hB0:=Lh (aaN.make hc)
 have Hb0:=Lh hb0
 have hlen:=Lh (show (psc c p).length=len by unfold psc;rw[List.length_map];exact h.length)
 clear h hb0 hc
 go_enter Tryz.func65,Tryz.ntmps65
 go_wp2_with fail
 refine (anZ hI _ _ _ _ _ _ _ _ _ _ _ h1 hB0.out hs hsc hk hm).mono ?_
 rintro e w1 ⟨g,rfl,hrow,hg,hb1⟩
 have hp:=hrow.poly (cap:=len) (by rw[hlen.out];exact Nat.le_refl _)
 rw[hlen.out] at hp
 have Hb1:=Lh (Hb0.out.trans (hb1.mono Hb0.out.size))
 clear h1 hB0 Hb0 hrow hb1 hg
 go_wp2_with fail
 refine (abD ikN _ _ _ _ _ hp hsr hm).mono ?_
 rintro e w2 ⟨l2,rfl,h2,-,hb2⟩
 have H2:=Lh h2
 have Hb2:=Lh (Hb1.out.trans (hb2.mono Hb1.out.size))
 clear hp h2 hb2
 go_wp2
 go_ret
 exact ⟨_,_,_,rfl,H2.out,Hb2.out⟩
end Go.Proofs.YtdimmlckpgpgcaaGreat
namespace Go.Proofs.YtdimmlckpgpgcaaGreat
open Go.RowKit
theorem ahf {p q:List Int} (hl:p.length=q.length) (h:∀ k,k<p.length->p.getD k 0=q.getD k 0):p=q:=by
 refine List.ext_getElem? fun k=>?_
 rcases Nat.lt_or_ge k p.length with h1 | h1
 ·have h2:=h k h1
  rw[List.getD_eq_getElem?_getD,List.getD_eq_getElem?_getD,List.getElem?_eq_getElem h1,List.getElem?_eq_getElem (by omega)] at h2
  rw[List.getElem?_eq_getElem h1,List.getElem?_eq_getElem (by omega)]
  simpa using h2
 ·rw[List.getElem?_eq_none h1,List.getElem?_eq_none (by omega)]
theorem aax {p:List Int} {n:Nat} (h:∀ k,n<=k->p.getD k 0=0):aac p<=n:=by
 rcases Nat.lt_or_ge n (aac p) with h1 | h1
 ·exact absurd (h (aac p-1) (by omega)) (ab3 p (aac p-1) (by omega))
 ·exact h1
theorem aes {p q:List Int} (h:∀ k,p.getD k 0=q.getD k 0):aaf p=aaf q:=by
 have h1:aac p<=aac q:=aax fun k hk=>by rw[h];exact aah q k hk
 have h2:aac q<=aac p:=aax fun k hk=>by rw[<- h];exact aah p k hk
 exact ahf (by rw[aae,aae];omega) fun k _=>by rw[aam,aam];exact h k
theorem aa0 (f g:List Int) (k:Nat):(aag f g).getD k 0=pc f g k:=by
 have hz:∀ {f g:List Int},f=[]∨g=[]->pc f g k=0:=fun {f g} h=>by
  unfold pc
  rcases h with rfl | rfl
  ·rw[apj];exact alo k (fun i=>by simp) _
  ·exact aln f [] k (k+1) (by simp)
 unfold aag
 by_cases h:f=[]∨g=[]
 ·rw[if_pos h,hz h];simp
 ·rw[if_neg h]
  have hf:0<f.length:=by rcases f with _ | ⟨a,t⟩;exact absurd (.inl rfl) h;simp
  have hg:0<g.length:=by rcases g with _ | ⟨a,t⟩;exact absurd (.inr rfl) h;simp
  rcases Nat.lt_or_ge k (f.length+g.length-1) with h1 | h1
  ·exact amr f g h1
  ·rw[aaC _ (by rw[ab4];exact h1)]
   have e:=ams f g k f.length (Nat.le_refl _) (k+1-f.length)
   rw[show f.length+(k+1-f.length)=k+1 by omega] at e
   unfold pc
   rw[e]
   exact (aln f g k f.length (by omega)).symm
theorem atT (f g:List Int):(psr f g).length<=aac f:=by
 unfold psr;split
 ·rw[aae];exact Nat.le_refl _
 ·rw[aae]
  have:=aas ((psn (aaj g) g (aac g-1) (aac f-(aac g-1)) (aac f) (aaf f) (aac f-(aac g-1))).2.take (aac g-1))
  rw[List.length_take,acQ,aae] at this
  omega
structure amu (f g:List Int):Prop where
 ff:∀ k,(f.getD k 0).natAbs<BB^2
 gg:∀ k,(g.getD k 0).natAbs<BB^2
 one:1<=aac g
 lf:aac f<=10
section
variable {f g:List Int}
theorem atU {z:Int} {k:Nat} (h:z.natAbs<BB^k) (hk:k<=FW):Fit z:=Nat.lt_of_lt_of_le h (Nat.pow_le_pow_right aaI hk)
theorem amu.az2 (h:amu f g):abH g:=fun k=>atU (h.gg k) (by rw[ach];omega)
theorem amu.dl (h:amu f g):Dl 2 f:=fun k=>aaF (h.ff k)
theorem amu.bd (h:amu f g):Bd (BB^23) (psq f g)/\Bd (BB^23) (psr f g):=by
 have h1:1<=BB^2:=Nat.pow_pos aaI
 have h2:=apk (f:=f) (g:=g) (M:=BB^2) (B:=BB^2) (n:=10) h1 (fun k=>Nat.le_of_lt (h.gg k)) (fun k=>Nat.le_of_lt (h.ff k)) (by have:=h.lf;omega)
 have e:(2*BB^2)^10*BB^2<=BB^23:=by
  have e1:(2*BB^2)^10*BB^2=1024*BB^22:=by rw[Nat.mul_pow,<- Nat.pow_mul,Nat.mul_assoc,<- Nat.pow_add]
  have e2:BB^23=BB*BB^22:=by rw[Nat.pow_succ,Nat.mul_comm]
  rw[e1,e2]
  exact Nat.mul_le_mul_right _ (by rw[aao];omega)
 exact ⟨h2.1.mono e,h2.2.mono e⟩
theorem Bd.fit {k:Nat} {z:List Int} (h:Bd (BB^k) z) (hk:k<=99999):abH z:=fun j=>by
 refine Nat.lt_of_le_of_lt (h j) ?_
 exact Nat.pow_lt_pow_right (by rw[aao];omega) (by rw[ach];omega)
theorem amu.az3 (h:amu f g):abH (psq f g):=h.bd.1.fit (by omega)
theorem amu.lead (h:amu f g) (i:Nat):(aaj g^i).natAbs<=BB^(2*i):=by
 rw[Int.natAbs_pow,Nat.pow_mul]
 exact Nat.pow_le_pow_left (Nat.le_of_lt (h.gg _)) i
theorem abH.trim {q:List Int} (h:abH q):abH (aaf q):=fun k=>by rw[aam];exact h k
theorem aic {q g:List Int} (hq:abH q) (hg:abH g) (n:Nat) (hl:q.length+g.length<=n):Bd (n*BB^(FW+FW)) (aag q g):=fun k=>by
 rcases Nat.lt_or_ge k n with h | h
 ·rw[aa0]
  exact Nat.le_trans (ahe hq hg k (k+1)) (Nat.mul_le_mul_right _ (by omega))
 ·have hlen:(aag q g).length<=k:=by
   unfold aag
   split
   ·simp
   ·rw[ab4];omega
  rw[aaC _ hlen];exact Nat.zero_le _
theorem Bd.smp {B k:Nat} {z:List Int} (h:Bd B z) (hB:B<BB^k) (hk:k<=1000000000):SmP z:=fun c hc=>by
 obtain ⟨j,hj⟩:=List.getElem?_of_mem hc
 have e1:z.getD j 0=c:=by rw[List.getD_eq_getElem?_getD,hj];rfl
 rw[<- e1]
 exact adE (Nat.lt_of_le_of_lt (h j) hB) hk
theorem ac4 {n k:Nat} (hn:n<=1000000):n*BB^k<BB^(k+1):=by
 rw[Nat.pow_succ,Nat.mul_comm]
 exact Nat.mul_lt_mul_of_pos_left (by rw[aao];omega) (Nat.pow_pos aaI)
theorem amu.prod (h:amu f g) (hl:(psq f g).length+g.length<=1000000):Bd (1000000*BB^(FW+FW)) (aag (aaf (psq f g)) (aaf g)):=by
 have h1:=aas (psq f g)
 have h2:=aas g
 exact aic h.az3.trim h.az2.trim 1000000 (by rw[aae,aae];omega)
theorem amu.sum (h:amu f g) (hl:(psq f g).length+g.length<=1000000) (k:Nat):Sm (((aag (aaf (psq f g)) (aaf g)).getD k 0).natAbs+((psr f g).getD k 0).natAbs):=by
 have h1:=h.prod hl k
 have h2:=h.bd.2 k
 have h3:BB^23<=BB^(FW+FW+1):=Nat.pow_le_pow_right aaI (by rw[ach];omega)
 have h4:1000000*BB^(FW+FW)<BB^(FW+FW+1):=ac4 (by omega)
 have h5:2*BB^(FW+FW+1)<BB^(FW+FW+2):=ac4 (by omega)
 refine adE (k:=FW+FW+2) ?_ (by rw[ach];omega)
 omega
end
end Go.Proofs.YtdimmlckpgpgcaaGreat
