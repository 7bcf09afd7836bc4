/- The identity of the pseudo-division at polynomials: what the law of chapter 9 compares, and how large the numbers are. Plain: no program. -/
import Derived.Test.YtpeiiomjnjemjaaGreatSft
import Derived.Test.YtpeiiomjnjemjaaGreatRbH
namespace Go.Proofs.YtpeiiomjnjemjaaGreat
open Go.RowKit
def pcs (f g:List Int) (k:Nat):Nat->Int
 | 0=>0
 | m+1=>pcs f g k m+f.getD m 0*g.getD (k-m) 0
def pc (f g:List Int) (k:Nat):Int:=pcs f g k (k+1)
def pmul (f g:List Int):List Int:=(List.range (f.length+g.length-1)).map (pc f g)
theorem pmul_length (f g:List Int):(pmul f g).length=f.length+g.length-1:=by simp[pmul]
theorem pmul_get (f g:List Int) {k:Nat} (h:k<f.length+g.length-1):(pmul f g).getD k 0=pc f g k:=by
 rw[List.getD_eq_getElem?_getD,pmul,List.getElem?_map,List.getElem?_range h];rfl
theorem getD_out (g:List Int) {j:Nat} (h:g.length<=j):g.getD j 0=0:=by
 rw[List.getD_eq_getElem?_getD,List.getElem?_eq_none h];rfl
theorem pcs_low (f g:List Int) (k:Nat):∀ m,m+g.length<=k+1->pcs f g k m=0:=by
 intro m
 induction m with
 | zero=>intro _;rfl
 | succ m ih =>
   intro h
   rw[pcs,ih (by omega),getD_out g (by omega)];simp
theorem pcs_high (f g:List Int) (k:Nat) (a:Nat) (ha:f.length<=a):∀ j,pcs f g k (a+j)=pcs f g k a:=by
 intro j
 induction j with
 | zero=>rfl
 | succ j ih=>rw[<- Nat.add_assoc,pcs,ih,getD_out f (by omega)];simp
theorem pcs_end (f g:List Int) (k:Nat) (hf:0<f.length):pcs f g k (min k (f.length-1)+1)=pc f g k:=by
 unfold pc
 rcases Nat.lt_or_ge k f.length with h | h
 ·rw[Nat.min_eq_left (by omega)]
 ·rw[Nat.min_eq_right (by omega)]
  have:=pcs_high f g k (f.length-1+1) (by omega) (k+1-(f.length-1+1))
  rw[show f.length-1+1+(k+1-(f.length-1+1))=k+1 by omega] at this
  exact this.symm
theorem take_getD' (p:List Int) {n k:Nat} (h:k<n):(p.take n).getD k 0=p.getD k 0:=by simp[List.getD_eq_getElem?_getD,h]
def FitP (p:List Int):Prop:=∀ k,Fit (p.getD k 0)
theorem FitP.smp {p:List Int} (h:FitP p):SmP p:=fun c hc=>by
 obtain ⟨k,hk⟩:=List.getElem?_of_mem hc
 have:=h k
 rw[List.getD_eq_getElem?_getD,hk] at this
 exact Fit.sm this
theorem pcs_bound {f g:List Int} (hf:FitP f) (hg:FitP g) (k:Nat):∀ m,(pcs f g k m).natAbs<=m*BB^(FW+FW):=by
 intro m
 induction m with
 | zero=>simp[pcs]
 | succ m ih =>
   have h1:=(hf m).mul (hg (k-m))
   rw[pcs,Nat.succ_mul]
   omega
theorem pcs_sm {f g:List Int} (hf:FitP f) (hg:FitP g) (k m:Nat) (hm:m<=1000000000):SmI (pcs f g k m):=by
 have h1:=pcs_bound hf hg k m
 refine sm_pow (k:=FW+FW+1) ?_ (by rw[FW_eq];omega)
 have h2:m*BB^(FW+FW)<=1000000000*BB^(FW+FW):=Nat.mul_le_mul_right _ hm
 have h3:1000000001*BB^(FW+FW)<=BB*BB^(FW+FW):=Nat.mul_le_mul_right _ (by rw[BB_eq];omega)
 have h4:0<BB^(FW+FW):=Nat.pow_pos BB_pos
 have e:BB^(FW+FW+1)=BB*BB^(FW+FW):=by rw[Nat.pow_succ,Nat.mul_comm]
 rw[e]
 omega
theorem pcs_add {f g:List Int} (hf:FitP f) (hg:FitP g) (k m:Nat) (hm:m<=1000000000):Sm ((pcs f g k m).natAbs+(f.getD m 0*g.getD (k-m) 0).natAbs):=by
 have h1:=pcs_bound hf hg k m
 have h5:=(hf m).mul (hg (k-m))
 refine sm_pow (k:=FW+FW+1) ?_ (by rw[FW_eq];omega)
 have h2:m*BB^(FW+FW)<=1000000000*BB^(FW+FW):=Nat.mul_le_mul_right _ hm
 have h3:1000000001*BB^(FW+FW)<=BB*BB^(FW+FW):=Nat.mul_le_mul_right _ (by rw[BB_eq];omega)
 have e:BB^(FW+FW+1)=BB*BB^(FW+FW):=by rw[Nat.pow_succ,Nat.mul_comm]
 rw[e]
 omega
set_option maxRecDepth 100000 in
set_option maxHeartbeats 4000000 in
theorem convolve_any {I J:IntPred} (hI:IK I) (hJ:IK J) (A:Option Addr) (la ca:Nat) (f:List Int) (B:Option Addr) (lb cb:Nat) (g:List Int) (w:World) (hf:PolyP I w A la ca f) (hg:PolyP J w B lb cb g) (ff:FitP f) (fg:FitP g) (hla:0<la) (hlb:0<lb) (hma:la<=400000000) (hmb:lb<=400000000) :
  Calls Tryz.prog 15 #[.slice A la ca,.slice B lb cb,.agg #[.bool false,.slice none 0 0],.func (.func 16) #[] #[],.func (.func 17) #[] #[]] w fun e w'=>∃ r,e=.returned (.slice (some ⟨r,0,none⟩) (la+lb-1) (la+lb-1))/\PRow w' r (pmul f g)/\w.heap.size<=r/\Below w.heap.size w w':=by
 have hbx:Below w.heap.size w (w.alloc (ibox false none 0 0)):=(Below.refl _ _).alloc (Nat.le_refl _) _
 have hla2:=Lh hf.length
 have hlb2:=Lh hg.length
 have Hf0:=Lh hf
 have Hg0:=Lh hg
 have HZ:=Lh (IBox.nil w)
 have Hbx:=Lh hbx
 have hb1:((la:Int) == 0)=false:=by rw[beq_eq_false_iff_ne];omega
 have hb2:((lb:Int) == 0)=false:=by rw[beq_eq_false_iff_ne];omega
 obtain ⟨n,hn⟩:∃ n,la+lb=n+1:=⟨la+lb-1,by omega⟩
 have hn2:la+lb-1=n:=by omega
 have hni:IntKind.i64.wrap ((la:Int)+(lb:Int)-1)=(n:Int):=by rw[IntWalk.i64_in _ (by omega)];omega
 have hni2:(la:Int)+(lb:Int)-1=(n:Int):=by omega
 rw[hn2]
 have Hn:=Lh hn
 have hpl:=Lh (show (pmul f g).length=n by rw[pmul_length,hla2.out,hlb2.out];exact hn2)
 have hnb:n<=800000000:=by omega
 clear hf hg hbx hn hn2
 go_enter Tryz.func15,Tryz.ntmps15
 go_wp2_with (at_make;refine wpList_make_poly _ rfl (.tmp 28) (.tmp 28) rfl n rfl rfl (by omega) ?_)
 intro w1 hz hb3 hsz
 have hb3':Below (w.alloc (ibox false none 0 0)).heap.size (w.alloc (ibox false none 0 0)) w1:=by rw[World.size_alloc];exact hb3
 have hu:=upto_zero (pmul f g) n
 rw[<- hu] at hz
 have Hz:=Lh hz
 have Hb3:=Lh (Hbx.out.trans (hb3'.mono Hbx.out.size))
 have HZ1:=Lh (HZ.out.move hb3')
 have hsz2:w.heap.size+1<w1.heap.size:=by (try simp only[World.size_alloc] at hsz);omega
 clear hz hsz hu hni hni2 hb1 hb2 hb3 hb3' HZ Hbx
 go_wp2
 go_loopw [32] (fun s32 wr=>∃ k:Nat,k<=n/\s32=.int .i64 (k:Int)/\PRow wr (w.heap.size+1) (upto (pmul f g) k n)/\IBox wr w.heap.size false none 0 0 0/\w1.heap.size<=wr.heap.size/\Below w.heap.size w wr) (fun s32 _=>n-(intOf s32).toNat)
 case atStart=>exact ⟨0,Nat.zero_le _,rfl,Hz.out,HZ1.out,Nat.le_refl _,Hb3.out⟩
 case round =>
  clear Hz HZ1 Hb3
  obtain ⟨k,hk,rfl,hrow,hzb,hws,hbw⟩:=hrel
  obtain ⟨wo,rfl⟩:∃ wo:World,wo=wr:=⟨_,rfl⟩
  have Hrow:=Lh hrow
  have Hzb:=Lh hzb
  have Hf:=Lh (Hf0.out.below hI hbw)
  have Hg:=Lh (Hg0.out.below hJ hbw)
  have Hbw:=Lh hbw
  have z0:=hzb.c0
  have z1:=hzb.c1
  clear hrow hzb hbw
  by_cases hlt:k<n
  ·obtain ⟨lo,hlo⟩:∃ lo:Nat,lo=k+1-lb:=⟨_,rfl⟩
   have hba:Below wo.heap.size wo (wo.alloc (ibox false none 0 0)):=(Below.refl _ _).alloc (Nat.le_refl _) _
   have HS:=Lh (IBox.nil wo)
   have Hba:=Lh hba
   have hkb:k+1<=lb∨lb<k+1:=by omega
   have hmx:(if (0:Int)<(k:Int)-(lb:Int)+1 then (k:Int)-(lb:Int)+1 else 0)=(lo:Int):=by split<;>omega
   obtain ⟨hi,hhi⟩:∃ hi:Nat,hi=min k (la-1):=⟨_,rfl⟩
   have hmn:(if (la:Int)-1<(k:Int) then (la:Int)-1 else (k:Int))=(hi:Int):=by split<;>omega
   have hlohi:lo<=hi+1:=by have:=Hn.out;omega
   have hhik:hi<=k:=by omega
   have hhia:hi<la:=by omega
   have hlok:k+1<=lo+lb:=by omega
   have Hlo:=Lh (show pcs f g k lo=0 from by
    by_cases h0:lo=0
    ·rw[h0];rfl
    ·exact pcs_low f g k lo (by rw[hlb2.out];omega))
   have Hhi:=Lh hhi
   clear hba hlo hkb hhi
   go_wp2
   go_loopw [14] (fun s14 wx=>∃ (m:Nat) (n3:Bool) (A3:Option Addr) (l3 c3:Nat),lo<=m/\m<=hi+1/\s14=.int .i64 (m:Int)/\IBox wx wo.heap.size n3 A3 l3 c3 (pcs f g k m)/\Below wo.heap.size wo wx) (fun s14 _=>hi+1-(intOf s14).toNat)
   case atStart=>exact ⟨lo,_,_,_,_,Nat.le_refl _,hlohi,rfl,by rw[Hlo.out];exact HS.out,Hba.out⟩
   case round =>
    clear HS Hba Hlo
    obtain ⟨m,n3,A3,l3,c3,hlm,hmh,rfl,hsb,hbx⟩:=hrel
    have Hsb:=Lh hsb
    have Hbx:=Lh hbx
    have s0:=hsb.c0
    have s1:=hsb.c1
    by_cases hmi:m<=hi
    ·obtain ⟨j,hj⟩:∃ j,k=m+j:=⟨k-m,by omega⟩
     have hjb:j<lb:=by omega
     have hma2:m<la:=by omega
     obtain ⟨b1,o1,rfl,hb1,hc1⟩:=Hf.out.get (by omega)
     obtain ⟨b2,o2,rfl,hb2,hc2⟩:=Hg.out.get (by omega)
     obtain ⟨nf,Af,lf,cf,f0,f1,zf⟩:=hc1 m hma2
     obtain ⟨ng,Ag,lg,cg,g0,g1,zg⟩:=hc2 j hjb
     have e0:=(hbx.cell (p:=⟨b1,o1+m*2,none⟩) hb1).trans f0
     have e1:=(hbx.cell (p:=⟨b1,o1+m*2+1,none⟩) hb1).trans f1
     have e2:=(hbx.cell (p:=⟨b2,o2+j*2,none⟩) hb2).trans g0
     have e3:=(hbx.cell (p:=⟨b2,o2+j*2+1,none⟩) hb2).trans g1
     have Zf:=Lh ((hI.at_ zf).below hbx)
     have Zg:=Lh ((hJ.at_ zg).below hbx)
     have Hstep:=Lh (show pcs f g k (m+1)=pcs f g k m+f.getD m 0*g.getD j 0 from by rw[pcs,hj,show m+j-m=j by omega])
     have sf:=(ff m).sm
     have sgj:=(fg j).sm
     have mk:=(ff m).mulok (g.getD j 0)
     have sp:=(ff m).sm2 (fg j)
     have ss:=pcs_sm ff fg k m (by omega)
     have sa:=pcs_add ff fg k m (by omega)
     rw[show k-m=j by omega] at sa
     have i1:IntKind.i64.wrap (j:Int)=(j:Int):=IntWalk.i64_in _ (by omega)
     have i2:(k:Int)-(m:Int)=(j:Int):=by omega
     have i3:(m:Int)<(la:Int):=by omega
     have i4:(j:Int)<(lb:Int):=by omega
     have t1:(m:Int)<=(hi:Int):=by omega
     have nb1:wo.heap.size≠b1:=by omega
     have nb2:wo.heap.size≠b2:=by omega
     have fr0:=hsb.f0
     have fr1:=hsb.f1
     have Hj:=Lh hj
     clear hj hc1 hc2 f0 f1 zf g0 g1 zg hsb hbx hb1 hb2
     go_wp2_with fail
     refine wp_region_last (S:=fun w'=>w'.cell? ⟨b1,o1+m*2,none⟩=some (.bool nf)/\w'.cell? ⟨b1,o1+m*2+1,none⟩=some (.slice Af lf cf)/\w'.cell? ⟨b2,o2+j*2,none⟩=some (.bool ng)/\w'.cell? ⟨b2,o2+j*2+1,none⟩=some (.slice Ag lg cg)/\w'.cell? ⟨wo.heap.size,0,none⟩=some (.bool n3)/\w'.cell? ⟨wo.heap.size,1,none⟩=some (.slice A3 l3 c3)) (by kernel_rfl) (by kernel_rfl) (by (try dsimp only);go_keep) (fun hHeld=>?_)
     simp only[List.pop_toArray,List.dropLast]
     (refine tq 0 ?_;simp only[put_lit,List.set])
     (refine tq 1 ?_;simp only[put_lit,List.set])
     (refine tq 2 ?_;simp only[put_lit,List.set])
     (refine tq 3 ?_;simp only[put_lit,List.set])
     (refine tq 4 ?_;simp only[put_lit,List.set])
     (refine tq 5 ?_;simp only[put_lit,List.set])
     (refine tq 6 ?_;simp only[put_lit,List.set])
     (refine tq 7 ?_;simp only[put_lit,List.set])
     (refine tq 8 ?_;simp only[put_lit,List.set])
     (refine tq 9 ?_;simp only[put_lit,List.set])
     (refine tq 10 ?_;simp only[put_lit,List.set])
     (refine tq 11 ?_;simp only[put_lit,List.set])
     (refine tq 12 ?_;simp only[put_lit,List.set])
     refine rdy 13 (fun K hK=>?_);go_simp
     refine (imul_any _ _ _ _ _ _ _ _ _ _ _ ?_ ?_ sf sgj mk).mono ?_
     ·exact Zf.out.below Bel.go
     ·exact Zg.out.below Bel.go
     rintro e w7 ⟨n8,A8,l8,c8,rfl,h8,hb8⟩
     obtain ⟨hcx,hfx⟩:=bcellS hb8
     have HS8:=Lh (Hsb.out.move (Below.trans Bel.go (hb8.mono (by simp<;>omega))))
     have Hb8:=Lh (Hbx.out.trans ((Below.trans Bel.go (hb8.mono (by simp<;>omega))).mono Hbx.out.size))
     refine hK.out _ _ ?_ (fun _=>?_)
     ·((try dsimp only);repeat' apply And.intro)<;>(rw[hcx _ (by go_simp)];go_simp)
     clear hHeld hK K hcx hfx;rename_i hHeld
     refine rdy 14 (fun K hK=>?_);go_simp
     refine (iadd_any _ _ _ _ _ _ _ _ _ _ _ ?_ ?_ ss sp sa).mono ?_
     ·exact HS8.out.hz.at_.below Bel.go
     ·exact h8.at_.below Bel.go
     rintro e w9 ⟨n9,A9,l9,c9,rfl,h9,hb9⟩
     obtain ⟨hcx,hfx⟩:=bcellS hb9
     have hS9:=HS8.out.move (Below.trans Bel.go (hb9.mono (by simp<;>omega)))
     have Hb9:=Lh (Hb8.out.trans ((Below.trans Bel.go (hb9.mono (by simp<;>omega))).mono Hb8.out.size))
     refine hK.out _ _ ?_ (fun _=>?_)
     ·((try dsimp only);repeat' apply And.intro)<;>(rw[hcx _ (by go_simp)];go_simp)
     clear hHeld hK K hcx hfx;rename_i hHeld
     refine wpAnyH_done (by kernel_rfl) (lastQ_list rfl ?_) _
     have HP:=Lh (hS9.put h9)
     have p0:=hS9.c0
     have p1:=hS9.c1
     have p2:=hS9.f0
     have p3:=hS9.f1
     clear hHeld hS9 h9 h8 hb8 hb9
     go_wp2
     go_roundw
     case rel=>exact ⟨m+1,_,_,_,_,by omega,by omega,by go_num,by rw[Hstep.out];exact HP.out,(Hb9.out.setCell (p:=⟨wo.heap.size,0,none⟩) (Nat.le_refl _) _).setCell (p:=⟨wo.heap.size,1,none⟩) (Nat.le_refl _) _⟩
     case measure=>simp[intOf];omega
    ·have hme:m=hi+1:=by omega
     subst hme
     have hend:pcs f g k (hi+1)=(pmul f g).getD k 0:=by
      rw[pmul_get f g (by rw[hla2.out,hlb2.out];have:=Hn.out;omega),Hhi.out,<- hla2.out]
      exact pcs_end f g k (by rw[hla2.out];exact hla)
     rw[hend] at hsb
     have HS2:=Lh hsb
     have hrw:=Hrow.out.below hbx
     have hul:(upto (pmul f g) k n).length=n:=upto_length _ _ _
     obtain ⟨n0,A0,l0,c0,d0,d1,_⟩:=hrw.elems k (by rw[hul];exact hlt)
     have hf0:=hrw.frozen (k*2)
     have hf1:=hrw.frozen (k*2+1)
     have hst:=upto_set (pmul f g) (k:=k) (n:=n) hlt
     have hr2:=hrw.set_ (i:=k) (by rw[hul];exact hlt) hsb.hz
     rw[hst] at hr2
     have Hr2:=Lh hr2
     have HZ2:=Lh ((Hzb.out.move hbx).row hrw (i:=k) (by rw[hul];exact hlt) (by omega) (.bool n3) (.slice A3 l3 c3))
     have hki:¬ ((hi:Int)+1<=(hi:Int)):=by omega
     have s0:=hsb.c0
     have s1:=hsb.c1
     have Hbx2:=Lh hbx
     have Hrw:=Lh hrw
     clear hend hsb hbx hrw hul hst hr2 Hsb Hbx
     go_wp2
     go_roundw
     case rel=>exact ⟨k+1,by omega,by go_num,Hr2.out,HZ2.out,Nat.le_trans hws (by have:=Hbx2.out.size;simpa [World.setCell] using this),((Hbw.out.trans (Hbx2.out.mono Hbw.out.size)).setCell (p:=⟨w.heap.size+1,k*2,none⟩) (by simp) _).setCell (p:=⟨w.heap.size+1,k*2+1,none⟩) (by simp) _⟩
     case measure=>simp[intOf];omega
  ·have hk2:n=k:=by omega
   subst hk2
   have hup:upto (pmul f g) n n=pmul f g:=by have:=upto_full (pmul f g);rw[hpl.out] at this;exact this
   rw[hup] at Hrow
   clear hup
   go_wp2
   go_ret
   exact ⟨w.heap.size+1,rfl,Hrow.out,by omega,Hbw.out⟩
def polymul (f g:List Int):List Int:=if f=[]∨g=[] then [] else pmul f g
set_option maxRecDepth 100000 in
set_option maxHeartbeats 1000000 in
theorem convolve_nil (A:Option Addr) (la ca:Nat) (B:Option Addr) (lb cb:Nat) (w:World) (h0:la=0∨lb=0) (hma:la<=400000000) (hmb:lb<=400000000) :
  Calls Tryz.prog 15 #[.slice A la ca,.slice B lb cb,.agg #[.bool false,.slice none 0 0],.func (.func 16) #[] #[],.func (.func 17) #[] #[]] w fun e w'=>e=.returned (.slice none 0 0)/\Below w.heap.size w w':=by
 by_cases h1:la=0
 ·subst h1
  clear h0
  go_enter Tryz.func15,Tryz.ntmps15
  go_wp2
  go_ret
  exact ⟨rfl,(Below.refl _ _).alloc (Nat.le_refl _) _⟩
 ·have h2:lb=0:=by omega
  subst h2
  have hb1:((la:Int) == 0)=false:=by rw[beq_eq_false_iff_ne];omega
  clear h0 h1
  go_enter Tryz.func15,Tryz.ntmps15
  go_wp2
  go_ret
  exact ⟨rfl,(Below.refl _ _).alloc (Nat.le_refl _) _⟩
set_option maxRecDepth 100000 in
set_option maxHeartbeats 1000000 in
theorem polymul_any {I J:IntPred} (hI:IK I) (hJ:IK J) (A:Option Addr) (la ca:Nat) (f:List Int) (B:Option Addr) (lb cb:Nat) (g:List Int) (w:World) (hf:PolyP I w A la ca f) (hg:PolyP J w B lb cb g) (ff:FitP f) (fg:FitP g) (hma:la<=400000000) (hmb:lb<=400000000) :
  Calls Tryz.prog 8 #[.slice A la ca,.slice B lb cb] w fun e w'=>∃ A' l' c',e=.returned (.slice A' l' c')/\PolyN w' A' l' c' (polymul (ptrim f) (ptrim g))/\Below w.heap.size w w':=by
 have hpf:plen f<=400000000:=by have:=plen_le f;have:=hf.length;omega
 have hpg:plen g<=400000000:=by have:=plen_le g;have:=hg.length;omega
 have fitt:∀ {q:List Int},FitP q->FitP (ptrim q):=fun {q} h k=>by
  rcases Nat.lt_or_ge k (plen q) with h1 | h1
  ·rw[ptrim,take_getD' q h1];exact h k
  ·rw[getD_out _ (by rw[ptrim_length];exact h1)];unfold Fit;exact Nat.pow_pos BB_pos
 have ff2:=fitt ff
 have fg2:=fitt fg
 go_enter Tryz.func8,Tryz.ntmps8
 go_wp2_with fail
 refine (ptrim_any hI _ _ _ _ _ hf ff.smp (by omega)).mono ?_
 rintro e w1 ⟨l1,rfl,h1,hl1,hb1⟩
 have hg1:=hg.below hJ hb1
 have Hb1:=Lh hb1
 have H1:=Lh h1
 have Hl1:=Lh hl1
 have b1:l1<=400000000:=by omega
 clear hf hg hb1 h1 hl1
 go_wp2_with fail
 refine (ptrim_any hJ _ _ _ _ _ hg1 fg.smp (by omega)).mono ?_
 rintro e w2 ⟨l2,rfl,h2,hl2,hb2⟩
 have h12:=H1.out.below hI hb2
 have Hb2:=Lh (Hb1.out.trans (hb2.mono Hb1.out.size))
 have Hl2:=Lh hl2
 have b2:l2<=400000000:=by omega
 have E1:=Lh (ptrim_length f)
 have E2:=Lh (ptrim_length g)
 clear hb2 hg1 H1 Hb1 hl2
 by_cases h0:l1=0∨l2=0
 ·have hp:polymul (ptrim f) (ptrim g)=[]:=by
   unfold polymul
   rw[if_pos]
   rcases h0 with h0 | h0
   ·exact .inl (List.eq_nil_of_length_eq_zero (by rw[E1.out,<- Hl1.out];exact h0))
   ·exact .inr (List.eq_nil_of_length_eq_zero (by rw[E2.out,<- Hl2.out];exact h0))
  have Hp:=Lh hp
  have H0:=Lh h0
  clear hp h0
  go_wp2_with fail
  refine (convolve_nil _ _ _ _ _ _ _ H0.out b1 b2).mono ?_
  rintro e w3 ⟨rfl,hb3⟩
  have Hb3:=Lh (Hb2.out.trans (hb3.mono Hb2.out.size))
  clear h12 h2 hb3
  go_wp2
  go_ret
  exact ⟨_,_,_,rfl,by rw[Hp.out];exact PolyP.nil _ _ _ _,Hb3.out⟩
 ·have hp:polymul (ptrim f) (ptrim g)=pmul (ptrim f) (ptrim g):=by
   unfold polymul
   rw[if_neg]
   rintro (e | e)
   ·have:=E1.out;rw[e] at this;have:=Hl1.out;simp at *;omega
   ·have:=E2.out;rw[e] at this;have:=Hl2.out;simp at *;omega
  have hlp:=pmul_length (ptrim f) (ptrim g)
  rw[E1.out,E2.out,<- Hl1.out,<- Hl2.out] at hlp
  have Hp:=Lh hp
  have Hlp:=Lh hlp
  have q1:0<l1:=by omega
  have q2:0<l2:=by omega
  clear hp h0 hlp
  go_wp2_with fail
  refine (convolve_any hI hJ _ _ _ _ _ _ _ _ _ h12 h2 ff2 fg2 q1 q2 b1 b2).mono ?_
  rintro e w3 ⟨r,rfl,hr,hle,hb3⟩
  have Hb3:=Lh (Hb2.out.trans (hb3.mono Hb2.out.size))
  have hpo:=hr.poly (cap:=l1+l2-1) (by rw[Hlp.out];exact Nat.le_refl _)
  rw[Hlp.out] at hpo
  have Hpo:=Lh hpo
  clear h12 h2 hb3 hr hle hpo
  go_wp2
  go_ret
  exact ⟨_,_,_,rfl,by rw[Hp.out];exact Hpo.out,Hb3.out⟩
end Go.Proofs.YtpeiiomjnjemjaaGreat
namespace Go.Proofs.YtpeiiomjnjemjaaGreat
open Go.RowKit
def psR (lead fac:Int) (g:List Int) (low:Nat) (z:List Int) (j:Nat):Int:=if low<=j then z.getD j 0*lead-fac*g.getD (j-low) 0 else z.getD j 0*lead
def psRow (lead fac:Int) (g:List Int) (low:Nat) (z:List Int) (j:Nat):List Int:=(List.range z.length).map fun t=>if t<j then psR lead fac g low z t else z.getD t 0
theorem psRow_length (lead fac:Int) (g:List Int) (low:Nat) (z:List Int) (j:Nat):(psRow lead fac g low z j).length=z.length:=by simp[psRow]
theorem psRow_getE (lead fac:Int) (g:List Int) (low:Nat) (z:List Int) (j:Nat) {t:Nat} (h:t<z.length):(psRow lead fac g low z j)[t]?=some (if t<j then psR lead fac g low z t else z.getD t 0):=by
 rw[psRow,List.getElem?_map,List.getElem?_range h];rfl
theorem psRow_get (lead fac:Int) (g:List Int) (low:Nat) (z:List Int) (j:Nat) {t:Nat} (h:t<z.length):(psRow lead fac g low z j).getD t 0=if t<j then psR lead fac g low z t else z.getD t 0:=by
 rw[List.getD_eq_getElem?_getD,psRow_getE lead fac g low z j h];rfl
theorem psRow_zero (lead fac:Int) (g:List Int) (low:Nat) (z:List Int):psRow lead fac g low z 0=z:=by
 refine List.ext_getElem? fun t=>?_
 rcases Nat.lt_or_ge t z.length with h | h
 ·rw[psRow_getE lead fac g low z 0 h,if_neg (by omega),List.getD_eq_getElem?_getD,List.getElem?_eq_getElem h];rfl
 ·rw[List.getElem?_eq_none (by rw[psRow_length];exact h),List.getElem?_eq_none h]
theorem psRow_set (lead fac:Int) (g:List Int) (low:Nat) (z:List Int) {j:Nat} (hj:j<z.length):(psRow lead fac g low z j).set j (psR lead fac g low z j)=psRow lead fac g low z (j+1):=by
 refine List.ext_getElem? fun t=>?_
 rcases Nat.lt_or_ge t z.length with h | h
 ·rw[psRow_getE lead fac g low z (j+1) h]
  rcases Nat.decEq t j with hne | heq
  ·rw[List.getElem?_set_ne (by omega),psRow_getE lead fac g low z j h]
   congr 1
   by_cases h1:t<j
   ·rw[if_pos h1,if_pos (by omega)]
   ·rw[if_neg h1,if_neg (by omega)]
  ·subst heq
   rw[List.getElem?_set_self (by rw[psRow_length];exact h),if_pos (by omega)]
 ·rw[List.getElem?_eq_none (by rw[List.length_set,psRow_length];exact h),List.getElem?_eq_none (by rw[psRow_length];exact h)]
def psQ (lead:Int) (low:Nat) (y:List Int) (j:Nat):List Int:=(List.range y.length).map fun t=>if low<t/\t<j then y.getD t 0*lead else y.getD t 0
theorem psQ_length (lead:Int) (low:Nat) (y:List Int) (j:Nat):(psQ lead low y j).length=y.length:=by simp[psQ]
theorem psQ_getE (lead:Int) (low:Nat) (y:List Int) (j:Nat) {t:Nat} (h:t<y.length):(psQ lead low y j)[t]?=some (if low<t/\t<j then y.getD t 0*lead else y.getD t 0):=by
 rw[psQ,List.getElem?_map,List.getElem?_range h];rfl
theorem psQ_get (lead:Int) (low:Nat) (y:List Int) (j:Nat) {t:Nat} (h:t<y.length):(psQ lead low y j).getD t 0=if low<t/\t<j then y.getD t 0*lead else y.getD t 0:=by
 rw[List.getD_eq_getElem?_getD,psQ_getE lead low y j h];rfl
theorem psQ_zero (lead:Int) (low:Nat) (y:List Int):psQ lead low y (low+1)=y:=by
 refine List.ext_getElem? fun t=>?_
 rcases Nat.lt_or_ge t y.length with h | h
 ·rw[psQ_getE lead low y _ h,if_neg (by omega),List.getD_eq_getElem?_getD,List.getElem?_eq_getElem h];rfl
 ·rw[List.getElem?_eq_none (by rw[psQ_length];exact h),List.getElem?_eq_none h]
theorem psQ_set (lead:Int) (low:Nat) (y:List Int) {j:Nat} (hl:low<j) (hj:j<y.length):(psQ lead low y j).set j (y.getD j 0*lead)=psQ lead low y (j+1):=by
 refine List.ext_getElem? fun t=>?_
 rcases Nat.lt_or_ge t y.length with h | h
 ·rw[psQ_getE lead low y (j+1) h]
  rcases Nat.decEq t j with hne | heq
  ·rw[List.getElem?_set_ne (by omega),psQ_getE lead low y j h]
   congr 1
   by_cases h1:low<t/\t<j
   ·rw[if_pos h1,if_pos (by omega)]
   ·rw[if_neg h1,if_neg (by omega)]
  ·subst heq
   rw[List.getElem?_set_self (by rw[psQ_length];exact h),if_pos (by omega)]
 ·rw[List.getElem?_eq_none (by rw[List.length_set,psQ_length];exact h),List.getElem?_eq_none (by rw[psQ_length];exact h)]
def psn (lead:Int) (g:List Int) (d m N:Nat) (z0:List Int):Nat->List Int×List Int
 | 0=>(List.replicate m 0,z0)
 | t+1 =>
   let s:=psn lead g d m N z0 t
   let i:=N-1-t
   let fac:=s.2.getD i 0
   ((psQ lead (i-d) s.1 m).set (i-d) fac,psRow lead fac g (i-d) s.2 i)
theorem psn_length1 (lead:Int) (g:List Int) (d m N:Nat) (z0:List Int) (t:Nat):(psn lead g d m N z0 t).1.length=m:=by
 induction t with
 | zero=>simp[psn]
 | succ t ih=>simp only[psn,List.length_set,psQ_length,ih]
theorem psn_length2 (lead:Int) (g:List Int) (d m N:Nat) (z0:List Int) (t:Nat):(psn lead g d m N z0 t).2.length=z0.length:=by
 induction t with
 | zero=>simp[psn]
 | succ t ih=>simp only[psn,psRow_length,ih]
def Dl (D:Nat) (z:List Int):Prop:=∀ k,dlen (z.getD k 0).natAbs<=D
theorem Dl.mono {D E:Nat} {z:List Int} (h:Dl D z) (hE:D<=E):Dl E z:=fun k=>Nat.le_trans (h k) hE
theorem Dl.smp {D:Nat} {z:List Int} (h:Dl D z) (hD:D<=1099511627776):SmP z:=fun c hc=>by
 obtain ⟨k,hk⟩:=List.getElem?_of_mem hc
 have:=h k
 rw[List.getD_eq_getElem?_getD,hk] at this
 exact Nat.le_trans this hD
theorem Dl.take {D:Nat} {z:List Int} (h:Dl D z) (n:Nat):Dl D (z.take n):=fun k=>by
 rcases Nat.lt_or_ge k n with h1 | h1
 ·rw[take_getD' z h1];exact h k
 ·rw[List.getD_eq_getElem?_getD,List.getElem?_eq_none (by rw[List.length_take];omega)]
  show dlen 0<=D
  rw[dlen_zero];exact Nat.zero_le _
theorem dlen_imul (a b:Int):dlen (a*b).natAbs<=dlen a.natAbs+dlen b.natAbs:=by rw[Int.natAbs_mul];exact dlen_mul_le _ _
theorem dlen_isub (a b:Int):dlen (a-b).natAbs<=max (dlen a.natAbs) (dlen b.natAbs)+1:=Nat.le_trans (dlen_mono (show (a-b).natAbs<=a.natAbs+b.natAbs by omega)) (dlen_add_le _ _)
theorem Fit.dlen {z:Int} (h:Fit z):dlen z.natAbs<=FW:=dlen_le_of_lt h
theorem psR_dl {lead fac:Int} {g z:List Int} {low D:Nat} (hl:Fit lead) (hf:dlen fac.natAbs<=D) (hg:FitP g) (hz:Dl D z) (j:Nat):dlen (psR lead fac g low z j).natAbs<=D+1095002:=by
 have hw:=FW_eq
 have h1:=dlen_imul (z.getD j 0) lead
 have h2:=hz j
 have h3:=hl.dlen
 unfold psR
 split
 ·have h4:=dlen_imul fac (g.getD (j-low) 0)
  have h5:=(hg (j-low)).dlen
  have h6:=dlen_isub (z.getD j 0*lead) (fac*g.getD (j-low) 0)
  omega
 ·omega
theorem psn_dl {lead:Int} {g z0:List Int} {d m N D:Nat} (hl:Fit lead) (hg:FitP g) (hz:Dl D z0) (t:Nat):Dl (D+1095002*t) (psn lead g d m N z0 t).1/\Dl (D+1095002*t) (psn lead g d m N z0 t).2:=by
 have hw:=FW_eq
 induction t with
 | zero =>
   refine ⟨fun k=>?_,hz.mono (by omega)⟩
   have:(List.replicate m (0:Int)).getD k 0=0:=by rw[List.getD_eq_getElem?_getD,List.getElem?_replicate];split<;>rfl
   show dlen ((List.replicate m (0:Int)).getD k 0).natAbs<=_
   rw[this]
   show dlen 0<=_
   rw[dlen_zero];exact Nat.zero_le _
 | succ t ih =>
   obtain ⟨h1,h2⟩:=ih
   have hf:=h2 (N-1-t)
   constructor
   ·intro k
    simp only[psn]
    rcases Nat.lt_or_ge k m with hk | hk
    ·rcases Nat.decEq k (N-1-t-d) with hne | heq
     ·rw[List.getD_eq_getElem?_getD,List.getElem?_set_ne (by omega),<- List.getD_eq_getElem?_getD,psQ_get _ _ _ _ (by rw[psn_length1];exact hk)]
      have h3:=h1 k
      split
      ·have h4:=dlen_imul ((psn lead g d m N z0 t).1.getD k 0) lead
       have h5:=hl.dlen
       omega
      ·omega
     ·subst heq
      rw[List.getD_eq_getElem?_getD,List.getElem?_set_self (by rw[psQ_length,psn_length1];exact hk)]
      show dlen ((psn lead g d m N z0 t).2.getD (N-1-t) 0).natAbs<=_
      omega
    ·rw[List.getD_eq_getElem?_getD,List.getElem?_eq_none (by rw[List.length_set,psQ_length,psn_length1];exact hk)]
     show dlen 0<=_
     rw[dlen_zero];exact Nat.zero_le _
   ·intro k
    simp only[psn]
    rcases Nat.lt_or_ge k z0.length with hk | hk
    ·rw[psRow_get _ _ _ _ _ _ (by rw[psn_length2];exact hk)]
     split
     ·exact Nat.le_trans (psR_dl hl hf hg h2 k) (by omega)
     ·have:=h2 k;omega
    ·rw[List.getD_eq_getElem?_getD,List.getElem?_eq_none (by rw[psRow_length,psn_length2];exact hk)]
     show dlen 0<=_
     rw[dlen_zero];exact Nat.zero_le _
def psq (f g:List Int):List Int:=if plen f<=plen g-1 then [] else ptrim (psn (plead g) g (plen g-1) (plen f-(plen g-1)) (plen f) (ptrim f) (plen f-(plen g-1))).1
def psr (f g:List Int):List Int:=if plen f<=plen g-1 then ptrim f else ptrim ((psn (plead g) g (plen g-1) (plen f-(plen g-1)) (plen f) (ptrim f) (plen f-(plen g-1))).2.take (plen g-1))
theorem PRow.far2 {w:World} {g g':Nat} {zs ys:List Int} (h:PRow w g zs) (hr:PRow w g' ys) {i:Nat} (hi:i<ys.length) (hg:g≠g') {neg:Bool} {A:Option Addr} {l c:Nat} :
  PRow ((w.setCell ⟨g',i*2,none⟩ (.bool neg)).setCell ⟨g',i*2+1,none⟩ (.slice A l c)) g zs:=by
 obtain ⟨cs,hk,hs⟩:=h.blk
 obtain ⟨n0,A0,l0,c0,e0,e1,_⟩:=hr.elems i hi
 have e1':(w.setCell ⟨g',i*2,none⟩ (.bool neg)).cell? ⟨g',i*2+1,none⟩=some (.slice A0 l0 c0):=by
  rw[World.cell?_setCell_other w _ _ _ (by simp)];exact e1
 have keep:∀ {neg' A' l' c' z'},IntN w neg' A' l' c' z'->IntN ((w.setCell ⟨g',i*2,none⟩ (.bool neg)).setCell ⟨g',i*2+1,none⟩ (.slice A l c)) neg' A' l' c' z' :=
  fun hn=>(hn.store _ e0 (noDigit_bool _)).store _ e1' (noDigit_slice _ _ _)
 refine ⟨⟨cs,(hk.far (p:=⟨g',i*2,none⟩) hg _).far (p:=⟨g',i*2+1,none⟩) hg _,hs⟩,fun j hj=>?_⟩
 obtain ⟨n1,A1,l1,c1,f0,f1,f2⟩:=h.elems j hj
 refine ⟨n1,A1,l1,c1,?_,?_,keep f2⟩
 ·rw[World.cell?_setCell_other _ _ _ _ (by intro e;injection e with e _;exact hg e.symm),World.cell?_setCell_other _ _ _ _ (by intro e;injection e with e _;exact hg e.symm)];exact f0
 ·rw[World.cell?_setCell_other _ _ _ _ (by intro e;injection e with e _;exact hg e.symm),World.cell?_setCell_other _ _ _ _ (by intro e;injection e with e _;exact hg e.symm)];exact f1
end Go.Proofs.YtpeiiomjnjemjaaGreat
namespace Go.Proofs.YtpeiiomjnjemjaaGreat
open Go.RowKit
def cv (q g:Nat->Int) (k:Nat):Nat->Int
 | 0=>0
 | m+1=>cv q g k m+q m*g (k-m)
theorem pcs_cv (f g:List Int) (k:Nat):∀ m,pcs f g k m=cv (fun i=>f.getD i 0) (fun i=>g.getD i 0) k m
 | 0=>rfl
 | m+1=>by rw[pcs,cv,pcs_cv f g k m]
theorem cv_congr {q q' g g':Nat->Int} {k:Nat} (hq:∀ i,q i=q' i) (hg:∀ i,g i=g' i) (m:Nat):cv q g k m=cv q' g' k m:=by
 rw[funext hq,funext hg]
theorem cv_step {q q' g:Nat->Int} {k low:Nat} {lead fac:Int} (hq:∀ i,q' i=lead*q i+if i=low then fac else 0):∀ m,cv q' g k m=lead*cv q g k m+if low<m then fac*g (k-low) else 0:=by
 intro m
 induction m with
 | zero=>simp[cv]
 | succ m ih =>
   rw[cv,ih,hq m,cv]
   rcases Nat.lt_trichotomy low m with h | h | h
   ·rw[if_pos h,if_neg (by omega),if_pos (by omega)];grind
   ·subst h;rw[if_neg (by omega),if_pos rfl,if_pos (by omega)];grind
   ·rw[if_neg (by omega),if_neg (by omega),if_neg (by omega)];grind
theorem cv_zero {q g:Nat->Int} (k:Nat) (h:∀ i,q i=0) (m:Nat):cv q g k m=0:=by
 induction m with
 | zero=>rfl
 | succ m ih=>rw[cv,ih,h];simp
theorem psn_id (lead:Int) (g:List Int) (d m N:Nat) (z0:List Int) (hN:N=z0.length) (hm:m=N-d) (hd:d<N) (hl:g.getD d 0=lead):∀ t,t<=m ->
  (∀ i,i+t<m->(psn lead g d m N z0 t).1.getD i 0=0) /\
  ∀ k,lead^t*z0.getD k 0=cv (fun i=>(psn lead g d m N z0 t).1.getD i 0) (fun j=>if j<=d then g.getD j 0 else 0) k (k+1)+(if k+t<N then (psn lead g d m N z0 t).2.getD k 0 else 0):=by
 intro t
 induction t with
 | zero =>
   intro _
   have e0:∀ i,(List.replicate m (0:Int)).getD i 0=0:=fun i=>by
    rcases Nat.lt_or_ge i m with h | h
    ·simp[List.getD_eq_getElem?_getD,h]
    ·exact getD_out _ (by simpa using h)
   refine ⟨fun i _=>by simpa [psn] using e0 i,fun k=>?_⟩
   rw[cv_zero k (fun i=>by simpa [psn] using e0 i)]
   simp only[psn,Int.pow_zero,Int.one_mul,Nat.add_zero,Int.zero_add]
   by_cases h:k<N
   ·rw[if_pos h]
   ·rw[if_neg h,getD_out _ (by omega)]
 | succ t ih =>
   intro ht
   obtain ⟨iha,ihb⟩:=ih (by omega)
   have l1:=psn_length1 lead g d m N z0 t
   have l2:=psn_length2 lead g d m N z0 t
   obtain ⟨low,hlow⟩:∃ low,low=N-1-t-d:=⟨_,rfl⟩
   have eq1:(psn lead g d m N z0 (t+1)).1=(psQ lead low (psn lead g d m N z0 t).1 m).set low ((psn lead g d m N z0 t).2.getD (N-1-t) 0):=by rw[hlow];rfl
   have eq2:(psn lead g d m N z0 (t+1)).2=psRow lead ((psn lead g d m N z0 t).2.getD (N-1-t) 0) g low (psn lead g d m N z0 t).2 (N-1-t):=by rw[hlow];rfl
   obtain ⟨fac,hfac⟩:∃ fac,fac=(psn lead g d m N z0 t).2.getD (N-1-t) 0:=⟨_,rfl⟩
   rw[eq1,eq2,<- hfac]
   generalize psn lead g d m N z0 t=S at *
   have g1:∀ i,((psQ lead low S.1 m).set low fac).getD i 0=lead*S.1.getD i 0+if i=low then fac else 0:=fun i=>by
    by_cases hi:i=low
    ·subst hi
     rw[List.getD_eq_getElem?_getD,List.getElem?_set_self (by rw[psQ_length];omega),if_pos rfl,iha i (by omega)]
     simp
    ·rw[List.getD_eq_getElem?_getD,List.getElem?_set_ne (fun h=>hi h.symm),<- List.getD_eq_getElem?_getD,if_neg hi,Int.add_zero]
     rcases Nat.lt_or_ge i m with h | h
     ·rw[psQ_get lead low S.1 m (by omega)]
      by_cases h2:low<i/\i<m
      ·rw[if_pos h2,Int.mul_comm]
      ·rw[if_neg h2,iha i (by omega)];simp
     ·rw[getD_out _ (by rw[psQ_length];omega),getD_out S.1 (by omega)];simp
   refine ⟨fun i hi=>?_,fun k=>?_⟩
   ·rw[g1,iha i (by omega),if_neg (by omega)];simp
   ·rw[cv_step (fun i=>g1 i),Int.pow_succ,Int.mul_comm (lead^t) lead,Int.mul_assoc,ihb k,Int.mul_add]
    rcases Nat.lt_trichotomy k (N-1-t) with h | h | h
    ·rw[if_pos (show k+t<N by omega),if_pos (show k+(t+1)<N by omega),psRow_get lead fac g low S.2 _ (by omega),if_pos h]
     unfold psR
     by_cases h2:low<=k
     ·rw[if_pos (by omega),if_pos h2,if_pos (by omega)];grind
     ·rw[if_neg (by omega),if_neg h2];grind
    ·rw[if_pos (show k+t<N by omega),if_neg (show ¬ k+(t+1)<N by omega),if_pos (by omega),if_pos (by omega),show k-low=d by omega,hl,h,<- hfac];grind
    ·rw[if_neg (show ¬ k+t<N by omega),if_neg (show ¬ k+(t+1)<N by omega),if_pos (by omega),if_neg (by omega)];grind
theorem ptrim_getD (p:List Int) (k:Nat):(ptrim p).getD k 0=p.getD k 0:=by
 rcases Nat.lt_or_ge k (plen p) with h | h
 ·rw[ptrim,take_getD' p h]
 ·rw[getD_out _ (by rw[ptrim_length];exact h),getD_ge_plen p _ h]
theorem ps_id (f g:List Int) (h1:1<=plen g) (k:Nat):plead g^(plen f-(plen g-1))*f.getD k 0=pc (psq f g) (ptrim g) k+(psr f g).getD k 0:=by
 unfold pc
 rw[pcs_cv]
 by_cases h:plen f<=plen g-1
 ·rw[show plen f-(plen g-1)=0 by omega,psq,if_pos h,psr,if_pos h,cv_zero k (fun i=>by simp),ptrim_getD]
  simp
 ·obtain ⟨-,hb⟩:=psn_id (plead g) g (plen g-1) (plen f-(plen g-1)) (plen f) (ptrim f) (ptrim_length f).symm rfl (by omega) rfl (plen f-(plen g-1)) (Nat.le_refl _)
  have:=hb k
  rw[ptrim_getD] at this
  rw[this,psq,if_neg h,psr,if_neg h,ptrim_getD]
  congr 1
  ·refine cv_congr (fun i=>(ptrim_getD _ i).symm) (fun j=>?_) _
   rw[ptrim_getD]
   by_cases hj:j<=plen g-1
   ·show (if j<=plen g-1 then g.getD j 0 else 0)=_
    rw[if_pos hj]
   ·show (if j<=plen g-1 then g.getD j 0 else 0)=_
    rw[if_neg hj,getD_ge_plen g j (by omega)]
  ·by_cases hk:k<plen g-1
   ·rw[if_pos (by omega),take_getD' _ hk]
   ·rw[if_neg (by omega),getD_out _ (by rw[List.length_take];omega)]
theorem psr_plen (f g:List Int) (h1:1<=plen g):plen (psr f g)<plen g:=by
 unfold psr
 split
 ·rw[plen_ptrim];omega
 ·rw[plen_ptrim]
  have:=plen_le ((psn (plead g) g (plen g-1) (plen f-(plen g-1)) (plen f) (ptrim f) (plen f-(plen g-1))).2.take (plen g-1))
  rw[List.length_take] at this
  omega
def Bd (B:Nat) (z:List Int):Prop:=∀ k,(z.getD k 0).natAbs<=B
theorem Bd.mono {B C:Nat} {z:List Int} (h:Bd B z) (hC:B<=C):Bd C z:=fun k=>Nat.le_trans (h k) hC
theorem Bd.ptrim {B:Nat} {z:List Int} (h:Bd B z):Bd B (ptrim z):=fun k=>by rw[ptrim_getD];exact h k
theorem Bd.take {B:Nat} {z:List Int} (h:Bd B z) (n:Nat):Bd B (z.take n):=fun k=>by
 rcases Nat.lt_or_ge k n with h1 | h1
 ·rw[take_getD' z h1];exact h k
 ·rw[getD_out _ (by rw[List.length_take];omega)];exact Nat.zero_le _
theorem Bd.set_ {B:Nat} {z:List Int} (h:Bd B z) (i:Nat) {x:Int} (hx:x.natAbs<=B):Bd B (z.set i x):=fun k=>by
 rw[List.getD_eq_getElem?_getD]
 rcases Nat.decEq k i with hne | heq
 ·rw[List.getElem?_set_ne (by omega),<- List.getD_eq_getElem?_getD];exact h k
 ·subst heq
  rcases Nat.lt_or_ge k z.length with h1 | h1
  ·rw[List.getElem?_set_self h1];exact hx
  ·rw[List.getElem?_eq_none (by rw[List.length_set];exact h1)];exact Nat.zero_le _
theorem psR_bd {lead fac:Int} {g z:List Int} {low B M:Nat} (hl:lead.natAbs<=M) (hf:fac.natAbs<=B) (hg:Bd M g) (hz:Bd B z) (j:Nat):(psR lead fac g low z j).natAbs<=2*M*B:=by
 have h1:(z.getD j 0*lead).natAbs<=B*M:=by rw[Int.natAbs_mul];exact Nat.mul_le_mul (hz j) hl
 have h2:∀ i,(fac*g.getD i 0).natAbs<=B*M:=fun i=>by rw[Int.natAbs_mul];exact Nat.mul_le_mul hf (hg i)
 have e:2*M*B=B*M+B*M:=by grind
 unfold psR
 split
 ·have:=h2 (j-low);omega
 ·omega
theorem psn_bd {lead:Int} {g z0:List Int} {d m N M B:Nat} (h1:1<=M) (hl:lead.natAbs<=M) (hg:Bd M g) (hz:Bd B z0) (t:Nat):Bd ((2*M)^t*B) (psn lead g d m N z0 t).1/\Bd ((2*M)^t*B) (psn lead g d m N z0 t).2:=by
 induction t with
 | zero =>
   refine ⟨fun k=>?_,by simpa [psn] using hz⟩
   rcases Nat.lt_or_ge k m with h | h
   ·simp[psn,List.getD_eq_getElem?_getD,h]
   ·rw[getD_out _ (by simpa [psn] using h)];exact Nat.zero_le _
 | succ t ih =>
   obtain ⟨ha,hb⟩:=ih
   have e:(2*M)^(t+1)*B=2*M*((2*M)^t*B):=by rw[Nat.pow_succ];grind
   have le:(2*M)^t*B<=(2*M)^(t+1)*B:=by rw[e];exact Nat.le_mul_of_pos_left _ (by omega)
   simp only[psn]
   refine ⟨Bd.set_ (fun k=>?_) _ (Nat.le_trans (hb _) le),fun k=>?_⟩
   ·rcases Nat.lt_or_ge k (psn lead g d m N z0 t).1.length with h | h
    ·rw[psQ_get _ _ _ _ h]
     split
     ·rw[Int.natAbs_mul,e]
      have:=Nat.mul_le_mul (ha k) hl
      refine Nat.le_trans this ?_
      rw[Nat.mul_comm]
      exact Nat.mul_le_mul_right _ (by omega)
     ·exact Nat.le_trans (ha k) le
    ·rw[getD_out _ (by rw[psQ_length];exact h)];exact Nat.zero_le _
   ·rcases Nat.lt_or_ge k (psn lead g d m N z0 t).2.length with h | h
    ·rw[psRow_get _ _ _ _ _ _ h]
     split
     ·rw[e];exact psR_bd hl (hb _) hg hb k
     ·exact Nat.le_trans (hb k) le
    ·rw[getD_out _ (by rw[psRow_length];exact h)];exact Nat.zero_le _
theorem psqr_bd {f g:List Int} {M B n:Nat} (h1:1<=M) (hg:Bd M g) (hf:Bd B f) (hn:plen f-(plen g-1)<=n):Bd ((2*M)^n*B) (psq f g)/\Bd ((2*M)^n*B) (psr f g):=by
 have h2:=psn_bd (d:=plen g-1) (m:=plen f-(plen g-1)) (N:=plen f) h1 (hg (plen g-1)) hg hf.ptrim (plen f-(plen g-1))
 have hle:(2*M)^(plen f-(plen g-1))*B<=(2*M)^n*B:=Nat.mul_le_mul_right _ (Nat.pow_le_pow_right (by omega) hn)
 have hB:B<=(2*M)^n*B:=Nat.le_mul_of_pos_left _ (Nat.pow_pos (by omega))
 constructor
 ·unfold psq;split
  ·intro k;simp
  ·exact (h2.1.mono hle).ptrim
 ·unfold psr;split
  ·exact (hf.mono hB).ptrim
  ·exact ((h2.2.mono hle).take _).ptrim
end Go.Proofs.YtpeiiomjnjemjaaGreat
namespace Go.Proofs.YtpeiiomjnjemjaaGreat
open Go.RowKit
def padd (f g:List Int):List Int:=(List.range (max f.length g.length)).map fun k=>f.getD k 0+g.getD k 0
theorem padd_length (f g:List Int):(padd f g).length=max f.length g.length:=by simp[padd]
theorem padd_get (f g:List Int) (k:Nat):(padd f g).getD k 0=f.getD k 0+g.getD k 0:=by
 rcases Nat.lt_or_ge k (max f.length g.length) with h | h
 ·rw[List.getD_eq_getElem?_getD,padd,List.getElem?_map,List.getElem?_range h];rfl
 ·rw[getD_out _ (by rw[padd_length];exact h),getD_out f (by omega),getD_out g (by omega)];rfl
structure ABox (W:World) (g:Nat) (n:Bool) (A:Option Addr) (l c:Nat) (z:Int):Prop where
 c0:W.cell? ⟨g,0,none⟩=some (.bool n)
 c1:W.cell? ⟨g,1,none⟩=some (.slice A l c)
 f0:W.frozen? ⟨g,0,none⟩=false
 f1:W.frozen? ⟨g,1,none⟩=false
 lt:g<W.heap.size
 hz:IntAt W n A l c z
section
variable {W W':World} {g g':Nat} {n n':Bool} {A A':Option Addr} {l c l' c':Nat} {z z':Int}
theorem ABox.move (h:ABox W g n A l c z) (hb:Below W.heap.size W W'):ABox W' g n A l c z:=by
 obtain ⟨hc,hf⟩:=bcell hb
 exact ⟨(hc _ _ h.lt).trans h.c0,(hc _ _ h.lt).trans h.c1,(hf _ _ h.lt).trans h.f0,(hf _ _ h.lt).trans h.f1,Nat.lt_of_lt_of_le h.lt hb.size,h.hz.below hb⟩
theorem ABox.of (h:IBox W g n A l c z):ABox W g n A l c z:=⟨h.c0,h.c1,h.f0,h.f1,h.lt,h.hz.at_⟩
theorem ABox.two (h:ABox W g n A l c z) (hz:IntAt W n' A' l' c' z') (u:Bool) (B:Option Addr) (lb cb:Nat):IntAt (put2 W g u B lb cb) n' A' l' c' z':=by
 have k0:=h.c0
 have k1:=h.c1
 have k1':(W.setCell ⟨g,0,none⟩ (.bool u)).cell? ⟨g,1,none⟩=some (.slice A l c):=by go_simp
 exact (hz.store _ k0 (noDigit_bool _)).store _ k1' (noDigit_slice _ _ _)
theorem ABox.put (h:ABox W g n A l c z) (hz:IntAt W n' A' l' c' z'):ABox (put2 W g n' A' l' c') g n' A' l' c' z':=by
 have k0:=h.c0
 have k1:=h.c1
 have f0:=h.f0
 have f1:=h.f1
 exact ⟨by go_simp,by go_simp,by go_simp,by go_simp,by simpa [World.setCell] using h.lt,h.two hz _ _ _ _⟩
theorem ABox.far (h:ABox W g n A l c z) (h':ABox W g' n' A' l' c' z') (hg:g≠g') (u:Bool) (B:Option Addr) (lb cb:Nat):ABox (put2 W g' u B lb cb) g n A l c z:=by
 have k0:=h.c0
 have k1:=h.c1
 have f0:=h.f0
 have f1:=h.f1
 have j0:=h'.c0
 have j1:=h'.c1
 exact ⟨by go_simp,by go_simp,by go_simp,by go_simp,by simpa [World.setCell] using h.lt,h'.two h.hz _ _ _ _⟩
end
end Go.Proofs.YtpeiiomjnjemjaaGreat
namespace Go.Proofs.YtpeiiomjnjemjaaGreat
open Go.RowKit
set_option maxHeartbeats 1000000 in
theorem scale1_any (na:Bool) (A:Option Addr) (la ca:Nat) (a:Int) (gb:Nat) (nb:Bool) (B:Option Addr) (lb cb:Nat) (c:Int) (w:World) (ha:IntAt w na A la ca a) (hB:IBox w gb nb B lb cb c) (hsa:SmI a) (hsc:SmI c) (hk:MulOK c.natAbs a.natAbs) :
  Calls Tryz.prog 92 #[.agg #[.bool na,.slice A la ca],.pointer (some ⟨gb,0,none⟩)] w fun e w'=>∃ n1 A1 l1 c1,e=.returned (.agg #[.bool n1,.slice A1 l1 c1])/\IntN w' n1 A1 l1 c1 (c*a)/\Below w.heap.size w w':=by
 have hba:Below w.heap.size w (w.alloc (ibox na A la ca)):=(Below.refl _ _).alloc (Nat.le_refl _) _
 have hbb:Below (w.alloc (ibox na A la ca)).heap.size (w.alloc (ibox na A la ca)) ((w.alloc (ibox na A la ca)).alloc (ibox false none 0 0)):=(Below.refl _ _).alloc (Nat.le_refl _) _
 have hab:=hba.trans (hbb.mono hba.size)
 have hR:=IBox.nil (w.alloc (ibox na A la ca))
 simp only[World.size_alloc] at hR
 have HR:=Lh hR
 have HB:=Lh (hB.move hab)
 have Ha:=Lh (ha.below hab)
 have Hb:=Lh hab
 have b0:=HB.out.c0
 have b1:=HB.out.c1
 have hlt:=hB.lt
 have ne1:gb≠w.heap.size:=by omega
 have ne2:gb≠w.heap.size+1:=by omega
 clear ha hB hba hbb hab hR
 go_enter Tryz.func92,Tryz.ntmps92
 go_wp2_with fail
 refine (imul_any _ _ _ _ _ _ _ _ _ _ _ HB.out.hz.at_ Ha.out hsc hsa hk).mono ?_
 rintro e w2 ⟨n2,A2,l2,c2,rfl,h3,hb2⟩
 have hR2:=HR.out.move hb2
 have HP:=Lh (hR2.put h3)
 have Hb2:=Lh (((Hb.out.trans (hb2.mono Hb.out.size)).setCell (p:=⟨w.heap.size+1,0,none⟩) (by first | (simp;done) | (simp;omega) | omega) (.bool n2)).setCell (p:=⟨w.heap.size+1,1,none⟩) (by first | (simp;done) | (simp;omega) | omega) (.slice A2 l2 c2))
 have d0:=hR2.c0
 have d1:=hR2.c1
 have d2:=hR2.f0
 have d3:=hR2.f1
 clear h3 hb2 hR2 HR Hb HB Ha b0 b1
 go_wp2
 refine bodyPost_ret (v:=.agg #[.bool n2,.slice A2 l2 c2]) (by simp[results,Tryz.results92,go_sem,d0,d1]) rfl ⟨_,_,_,_,rfl,HP.out.hz,Hb2.out⟩
def psc (c:Int) (p:List Int):List Int:=p.map (c*·)
theorem psc_get (c:Int) (p:List Int) (k:Nat):(psc c p).getD k 0=c*p.getD k 0:=by
 unfold psc
 rw[List.getD_eq_getElem?_getD,List.getElem?_map,List.getD_eq_getElem?_getD]
 cases p[k]? with
 | none=>simp
 | some x=>rfl
set_option maxRecDepth 100000 in
set_option maxHeartbeats 2000000 in
theorem tscale_any {I:IntPred} (hI:IK I) (A:Option Addr) (len cap:Nat) (p:List Int) (gb:Nat) (nb:Bool) (B:Option Addr) (lb cb:Nat) (c:Int) (w:World) (h:PolyP I w A len cap p) (hB:IBox w gb nb B lb cb c) (hs:SmP p) (hsc:SmI c) (hk:∀ k,MulOK c.natAbs (p.getD k 0).natAbs) (hm:len<=1099511627776) :
  Calls Tryz.prog 80 #[.slice A len cap,.func (.func 92) #[] #[.pointer (some ⟨gb,0,none⟩)]] w fun e w'=>∃ g,e=.returned (.slice (some ⟨g,0,none⟩) len len)/\PRow w' g (psc c p)/\w.heap.size<=g/\Below w.heap.size w w':=by
 have hlen:=Lh h.length
 have hlt:=hB.lt
 obtain ⟨q,hq⟩:∃ q,q=psc c p:=⟨_,rfl⟩
 have hql:q.length=len:=by rw[hq];unfold psc;rw[List.length_map];exact hlen.out
 have hqg:∀ k,q.getD k 0=c*p.getD k 0:=fun k=>by rw[hq];exact psc_get c p k
 rw[<- hq]
 have Hql:=Lh hql
 have Hqg:=Lh hqg
 clear hq hql hqg
 go_enter Tryz.func80,Tryz.ntmps80
 go_wp2_with (at_make;refine wpList_make_poly _ rfl (.tmp 9) (.tmp 9) rfl len rfl rfl (by omega) ?_)
 intro w1 hz hb1 hsz
 rw[<- upto_zero q] at hz
 have Hz:=Lh hz
 have Hb1:=Lh hb1
 have HB1:=Lh (hB.move hb1)
 have ne1:gb≠w.heap.size:=by omega
 have ne2:w.heap.size≠gb:=by omega
 clear hz hb1 hsz hB hlt
 go_wp2
 go_loopw [13] (fun i wr=>∃ k:Nat,k<=len/\i=.int .i64 k/\PRow wr w.heap.size (upto q k len)/\IBox wr gb nb B lb cb c/\Below w.heap.size w wr) (fun i _=>len-(intOf i).toNat)
 case atStart=>exact ⟨0,Nat.zero_le _,rfl,Hz.out,HB1.out,Hb1.out⟩
 case round =>
  clear Hz Hb1 HB1
  obtain ⟨k,hkl,rfl,hrow,hB,hbw⟩:=hrel
  have Hrow:=Lh hrow
  have HB:=Lh hB
  have Hbw:=Lh hbw
  clear hrow hbw hB
  by_cases hlt:k<len
  ·obtain ⟨b,off,rfl,hb,hc⟩:=h.get (by omega)
   obtain ⟨neg,Aj,lj,cj,c0,c1,hzk⟩:=hc k hlt
   have e0:=(Hbw.out.cell (p:=⟨b,off+k*2,none⟩) hb).trans c0
   have e1:=(Hbw.out.cell (p:=⟨b,off+k*2+1,none⟩) hb).trans c1
   have hzr:=(hI.at_ hzk).below Hbw.out
   have hsk:=hs.getD k
   have hmk:=hk k
   have hba:Below wr.heap.size wr (wr.alloc (ibox neg Aj lj cj)):=(Below.refl _ _).alloc (Nat.le_refl _) _
   have HBa:=Lh (HB.out.move hba)
   have Hh:=Lh h
   clear hc h c0 c1 hzk hba
   go_wp2_with fail
   refine (scale1_any _ _ _ _ _ _ _ _ _ _ _ _ (hzr.below ((Below.refl _ _).alloc (Nat.le_refl _) _)) HBa.out hsk hsc hmk).mono ?_
   rintro e w2 ⟨n2,A2,l2,c2,rfl,h2,hb2⟩
   rw[<- Hqg.out k] at h2
   have hbx:Below wr.heap.size wr w2:=((Below.refl _ _).alloc (Nat.le_refl _) _).trans (hb2.mono (by simp))
   have hr2:=Hrow.out.below hbx
   have hB2:=HB.out.move hbx
   obtain ⟨n0,A0,l0,c0,e0,e1,_⟩:=hr2.elems k (by rw[upto_length];exact hlt)
   have hf0:=hr2.frozen (k*2)
   have hf1:=hr2.frozen (k*2+1)
   have Hr2:Hid (PRow ((w2.setCell ⟨w.heap.size,k*2,none⟩ (.bool n2)).setCell ⟨w.heap.size,k*2+1,none⟩ (.slice A2 l2 c2)) w.heap.size (upto q (k+1) len)):=by
    show PRow _ _ _
    rw[<- upto_set q hlt]
    exact hr2.set_ (by rw[upto_length];exact hlt) h2
   have HB3:Hid (IBox ((w2.setCell ⟨w.heap.size,k*2,none⟩ (.bool n2)).setCell ⟨w.heap.size,k*2+1,none⟩ (.slice A2 l2 c2)) gb nb B lb cb c):=hB2.row hr2 (by rw[upto_length];exact hlt) ne1 _ _
   have Hb3:Hid (Below w.heap.size w ((w2.setCell ⟨w.heap.size,k*2,none⟩ (.bool n2)).setCell ⟨w.heap.size,k*2+1,none⟩ (.slice A2 l2 c2))):=((Hbw.out.trans (hbx.mono Hbw.out.size)).setCell (p:=⟨w.heap.size,k*2,none⟩) (Nat.le_refl _) _).setCell (p:=⟨w.heap.size,k*2+1,none⟩) (Nat.le_refl _) _
   clear hr2 h2 hb2 hbx hzr hsk hB2 HBa hmk
   go_wp2
   go_roundw
   case rel=>exact ⟨k+1,by omega,by go_num,Hr2.out,HB3.out,Hb3.out⟩
   case measure=>simp[intOf];omega
  ·have hk2:len=k:=by omega
   subst hk2
   have hup:upto q len len=q:=by have:=upto_full q;rw[Hql.out] at this;exact this
   rw[hup] at Hrow
   clear hup
   go_wp2
   go_ret
   exact ⟨_,rfl,Hrow.out,Nat.le_refl _,Hbw.out⟩
set_option maxRecDepth 100000 in
set_option maxHeartbeats 2000000 in
theorem scale_any {I:IntPred} (hI:IK I) (A:Option Addr) (len cap:Nat) (p:List Int) (nb:Bool) (B:Option Addr) (lb cb:Nat) (c:Int) (w:World) (h:PolyP I w A len cap p) (hc:IntN w nb B lb cb c) (hs:SmP p) (hsc:SmI c) (hk:∀ k,MulOK c.natAbs (p.getD k 0).natAbs) (hsr:SmP (psc c p)) (hm:len<=1099511627776) :
  Calls Tryz.prog 72 #[.slice A len cap,.agg #[.bool nb,.slice B lb cb]] w fun e w'=>∃ A' l' c',e=.returned (.slice A' l' c')/\PolyN w' A' l' c' (ptrim (psc c p))/\Below w.heap.size w w':=by
 have hb0:Below w.heap.size w (w.alloc (ibox nb B lb cb)):=(Below.refl _ _).alloc (Nat.le_refl _) _
 have h1:=h.below hI hb0
 have hB0:=Lh (IBox.make hc)
 have Hb0:=Lh hb0
 have hlen:=Lh (show (psc c p).length=len by unfold psc;rw[List.length_map];exact h.length)
 clear h hb0 hc
 go_enter Tryz.func72,Tryz.ntmps72
 go_wp2_with fail
 refine (tscale_any hI _ _ _ _ _ _ _ _ _ _ _ h1 hB0.out hs hsc hk hm).mono ?_
 rintro e w1 ⟨g,rfl,hrow,hg,hb1⟩
 have hp:=hrow.poly (cap:=len) (by rw[hlen.out];exact Nat.le_refl _)
 rw[hlen.out] at hp
 have Hb1:=Lh (Hb0.out.trans (hb1.mono Hb0.out.size))
 clear h1 hB0 Hb0 hrow hb1 hg
 go_wp2_with fail
 refine (ptrim_any ikN _ _ _ _ _ hp hsr hm).mono ?_
 rintro e w2 ⟨l2,rfl,h2,-,hb2⟩
 have H2:=Lh h2
 have Hb2:=Lh (Hb1.out.trans (hb2.mono Hb1.out.size))
 clear hp h2 hb2
 go_wp2
 go_ret
 exact ⟨_,_,_,rfl,H2.out,Hb2.out⟩
end Go.Proofs.YtpeiiomjnjemjaaGreat
namespace Go.Proofs.YtpeiiomjnjemjaaGreat
open Go.RowKit
theorem eq_of_getD' {p q:List Int} (hl:p.length=q.length) (h:∀ k,k<p.length->p.getD k 0=q.getD k 0):p=q:=by
 refine List.ext_getElem? fun k=>?_
 rcases Nat.lt_or_ge k p.length with h1 | h1
 ·have h2:=h k h1
  rw[List.getD_eq_getElem?_getD,List.getD_eq_getElem?_getD,List.getElem?_eq_getElem h1,List.getElem?_eq_getElem (by omega)] at h2
  rw[List.getElem?_eq_getElem h1,List.getElem?_eq_getElem (by omega)]
  simpa using h2
 ·rw[List.getElem?_eq_none h1,List.getElem?_eq_none (by omega)]
theorem plen_le_of {p:List Int} {n:Nat} (h:∀ k,n<=k->p.getD k 0=0):plen p<=n:=by
 rcases Nat.lt_or_ge n (plen p) with h1 | h1
 ·exact absurd (h (plen p-1) (by omega)) (plen_lead p (plen p-1) (by omega))
 ·exact h1
theorem ptrim_ext {p q:List Int} (h:∀ k,p.getD k 0=q.getD k 0):ptrim p=ptrim q:=by
 have h1:plen p<=plen q:=plen_le_of fun k hk=>by rw[h];exact getD_ge_plen q k hk
 have h2:plen q<=plen p:=plen_le_of fun k hk=>by rw[<- h];exact getD_ge_plen p k hk
 exact eq_of_getD' (by rw[ptrim_length,ptrim_length];omega) fun k _=>by rw[ptrim_getD,ptrim_getD];exact h k
theorem polymul_getD (f g:List Int) (k:Nat):(polymul f g).getD k 0=pc f g k:=by
 have hz:∀ {f g:List Int},f=[]∨g=[]->pc f g k=0:=fun {f g} h=>by
  unfold pc
  rcases h with rfl | rfl
  ·rw[pcs_cv];exact cv_zero k (fun i=>by simp) _
  ·exact pcs_low f [] k (k+1) (by simp)
 unfold polymul
 by_cases h:f=[]∨g=[]
 ·rw[if_pos h,hz h];simp
 ·rw[if_neg h]
  have hf:0<f.length:=by rcases f with _ | ⟨a,t⟩;exact absurd (.inl rfl) h;simp
  have hg:0<g.length:=by rcases g with _ | ⟨a,t⟩;exact absurd (.inr rfl) h;simp
  rcases Nat.lt_or_ge k (f.length+g.length-1) with h1 | h1
  ·exact pmul_get f g h1
  ·rw[getD_out _ (by rw[pmul_length];exact h1)]
   have e:=pcs_high f g k f.length (Nat.le_refl _) (k+1-f.length)
   rw[show f.length+(k+1-f.length)=k+1 by omega] at e
   unfold pc
   rw[e]
   exact (pcs_low f g k f.length (by omega)).symm
theorem psr_len (f g:List Int):(psr f g).length<=plen f:=by
 unfold psr;split
 ·rw[ptrim_length];exact Nat.le_refl _
 ·rw[ptrim_length]
  have:=plen_le ((psn (plead g) g (plen g-1) (plen f-(plen g-1)) (plen f) (ptrim f) (plen f-(plen g-1))).2.take (plen g-1))
  rw[List.length_take,psn_length2,ptrim_length] at this
  omega
structure IdOK (f g:List Int):Prop where
 ff:∀ k,(f.getD k 0).natAbs<BB^2
 gg:∀ k,(g.getD k 0).natAbs<BB^2
 one:1<=plen g
 lf:plen f<=10
section
variable {f g:List Int}
theorem pow_fit {z:Int} {k:Nat} (h:z.natAbs<BB^k) (hk:k<=FW):Fit z:=Nat.lt_of_lt_of_le h (Nat.pow_le_pow_right BB_pos hk)
theorem IdOK.fitg (h:IdOK f g):FitP g:=fun k=>pow_fit (h.gg k) (by rw[FW_eq];omega)
theorem IdOK.dl (h:IdOK f g):Dl 2 f:=fun k=>dlen_le_of_lt (h.ff k)
theorem IdOK.bd (h:IdOK f g):Bd (BB^23) (psq f g)/\Bd (BB^23) (psr f g):=by
 have h1:1<=BB^2:=Nat.pow_pos BB_pos
 have h2:=psqr_bd (f:=f) (g:=g) (M:=BB^2) (B:=BB^2) (n:=10) h1 (fun k=>Nat.le_of_lt (h.gg k)) (fun k=>Nat.le_of_lt (h.ff k)) (by have:=h.lf;omega)
 have e:(2*BB^2)^10*BB^2<=BB^23:=by
  have e1:(2*BB^2)^10*BB^2=1024*BB^22:=by rw[Nat.mul_pow,<- Nat.pow_mul,Nat.mul_assoc,<- Nat.pow_add]
  have e2:BB^23=BB*BB^22:=by rw[Nat.pow_succ,Nat.mul_comm]
  rw[e1,e2]
  exact Nat.mul_le_mul_right _ (by rw[BB_eq];omega)
 exact ⟨h2.1.mono e,h2.2.mono e⟩
theorem Bd.fit {k:Nat} {z:List Int} (h:Bd (BB^k) z) (hk:k<=99999):FitP z:=fun j=>by
 refine Nat.lt_of_le_of_lt (h j) ?_
 exact Nat.pow_lt_pow_right (by rw[BB_eq];omega) (by rw[FW_eq];omega)
theorem IdOK.fitq (h:IdOK f g):FitP (psq f g):=h.bd.1.fit (by omega)
theorem IdOK.lead (h:IdOK f g) (i:Nat):(plead g^i).natAbs<=BB^(2*i):=by
 rw[Int.natAbs_pow,Nat.pow_mul]
 exact Nat.pow_le_pow_left (Nat.le_of_lt (h.gg _)) i
theorem FitP.trim {q:List Int} (h:FitP q):FitP (ptrim q):=fun k=>by rw[ptrim_getD];exact h k
theorem polymul_bd {q g:List Int} (hq:FitP q) (hg:FitP g) (n:Nat) (hl:q.length+g.length<=n):Bd (n*BB^(FW+FW)) (polymul q g):=fun k=>by
 rcases Nat.lt_or_ge k n with h | h
 ·rw[polymul_getD]
  exact Nat.le_trans (pcs_bound hq hg k (k+1)) (Nat.mul_le_mul_right _ (by omega))
 ·have hlen:(polymul q g).length<=k:=by
   unfold polymul
   split
   ·simp
   ·rw[pmul_length];omega
  rw[getD_out _ hlen];exact Nat.zero_le _
theorem Bd.smp {B k:Nat} {z:List Int} (h:Bd B z) (hB:B<BB^k) (hk:k<=1000000000):SmP z:=fun c hc=>by
 obtain ⟨j,hj⟩:=List.getElem?_of_mem hc
 have e1:z.getD j 0=c:=by rw[List.getD_eq_getElem?_getD,hj];rfl
 rw[<- e1]
 exact sm_pow (Nat.lt_of_le_of_lt (h j) hB) hk
theorem mulpow_lt {n k:Nat} (hn:n<=1000000):n*BB^k<BB^(k+1):=by
 rw[Nat.pow_succ,Nat.mul_comm]
 exact Nat.mul_lt_mul_of_pos_left (by rw[BB_eq];omega) (Nat.pow_pos BB_pos)
theorem IdOK.prod (h:IdOK f g) (hl:(psq f g).length+g.length<=1000000):Bd (1000000*BB^(FW+FW)) (polymul (ptrim (psq f g)) (ptrim g)):=by
 have h1:=plen_le (psq f g)
 have h2:=plen_le g
 exact polymul_bd h.fitq.trim h.fitg.trim 1000000 (by rw[ptrim_length,ptrim_length];omega)
theorem IdOK.sum (h:IdOK f g) (hl:(psq f g).length+g.length<=1000000) (k:Nat):Sm (((polymul (ptrim (psq f g)) (ptrim g)).getD k 0).natAbs+((psr f g).getD k 0).natAbs):=by
 have h1:=h.prod hl k
 have h2:=h.bd.2 k
 have h3:BB^23<=BB^(FW+FW+1):=Nat.pow_le_pow_right BB_pos (by rw[FW_eq];omega)
 have h4:1000000*BB^(FW+FW)<BB^(FW+FW+1):=mulpow_lt (by omega)
 have h5:2*BB^(FW+FW+1)<BB^(FW+FW+2):=mulpow_lt (by omega)
 refine sm_pow (k:=FW+FW+2) ?_ (by rw[FW_eq];omega)
 omega
end
end Go.Proofs.YtpeiiomjnjemjaaGreat
