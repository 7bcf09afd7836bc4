/- The identity of the pseudo-division at polynomials: what the law of chapter 9 compares, and how large the numbers are. Plain: no program. -/
import Derived.Test.YtkefcldcfeolbaaGreatSft
import Derived.Test.YtkefcldcfeolbaaGreatRbH
namespace Go.Proofs.YtkefcldcfeolbaaGreat
open Go.RowKit
def pcs (f g:List Int) (k:Nat):Nat->Int
 | 0=>0
 | m+1=>pcs f g k m+f.getD m 0*g.getD (k-m) 0
def pc (f g:List Int) (k:Nat):Int:=pcs f g k (k+1)
def ajY (f g:List Int):List Int:=(List.range (f.length+g.length-1)).map (pc f g)
theorem ab8 (f g:List Int):(ajY f g).length=f.length+g.length-1:=by simp[ajY]
theorem alQ (f g:List Int) {k:Nat} (h:k<f.length+g.length-1):(ajY f g).getD k 0=pc f g k:=by
 rw[List.getD_eq_getElem?_getD,ajY,List.getElem?_map,List.getElem?_range h];rfl
theorem aaF (g:List Int) {j:Nat} (h:g.length<=j):g.getD j 0=0:=by
 rw[List.getD_eq_getElem?_getD,List.getElem?_eq_none h];rfl
theorem akX (f g:List Int) (k:Nat):∀ m,m+g.length<=k+1->pcs f g k m=0:=by
 intro m
 induction m with
 | zero=>intro _;rfl
 | succ m ih =>
   intro h
   rw[pcs,ih (by omega),aaF g (by omega)];simp
theorem alR (f g:List Int) (k:Nat) (a:Nat) (ha:f.length<=a):∀ j,pcs f g k (a+j)=pcs f g k a:=by
 intro j
 induction j with
 | zero=>rfl
 | succ j ih=>rw[<- Nat.add_assoc,pcs,ih,aaF f (by omega)];simp
theorem asG (f g:List Int) (k:Nat) (hf:0<f.length):pcs f g k (min k (f.length-1)+1)=pc f g k:=by
 unfold pc
 rcases Nat.lt_or_ge k f.length with h | h
 ·rw[Nat.min_eq_left (by omega)]
 ·rw[Nat.min_eq_right (by omega)]
  have:=alR f g k (f.length-1+1) (by omega) (k+1-(f.length-1+1))
  rw[show f.length-1+1+(k+1-(f.length-1+1))=k+1 by omega] at this
  exact this.symm
theorem adi (p:List Int) {n k:Nat} (h:k<n):(p.take n).getD k 0=p.getD k 0:=by simp[List.getD_eq_getElem?_getD,h]
def abw (p:List Int):Prop:=∀ k,Fit (p.getD k 0)
theorem abw.smp {p:List Int} (h:abw p):SmP p:=fun c hc=>by
 obtain ⟨k,hk⟩:=List.getElem?_of_mem hc
 have:=h k
 rw[List.getD_eq_getElem?_getD,hk] at this
 exact Fit.sm this
theorem ahm {f g:List Int} (hf:abw f) (hg:abw g) (k:Nat):∀ m,(pcs f g k m).natAbs<=m*BB^(FW+FW):=by
 intro m
 induction m with
 | zero=>simp[pcs]
 | succ m ih =>
   have h1:=(hf m).mul (hg (k-m))
   rw[pcs,Nat.succ_mul]
   omega
theorem auR {f g:List Int} (hf:abw f) (hg:abw g) (k m:Nat) (hm:m<=1000000000):SmI (pcs f g k m):=by
 have h1:=ahm hf hg k m
 refine adz (k:=FW+FW+1) ?_ (by rw[abZ];omega)
 have h2:m*BB^(FW+FW)<=1000000000*BB^(FW+FW):=Nat.mul_le_mul_right _ hm
 have h3:1000000001*BB^(FW+FW)<=BB*BB^(FW+FW):=Nat.mul_le_mul_right _ (by rw[aan];omega)
 have h4:0<BB^(FW+FW):=Nat.pow_pos aaI
 have e:BB^(FW+FW+1)=BB*BB^(FW+FW):=by rw[Nat.pow_succ,Nat.mul_comm]
 rw[e]
 omega
theorem asH {f g:List Int} (hf:abw f) (hg:abw g) (k m:Nat) (hm:m<=1000000000):Sm ((pcs f g k m).natAbs+(f.getD m 0*g.getD (k-m) 0).natAbs):=by
 have h1:=ahm hf hg k m
 have h5:=(hf m).mul (hg (k-m))
 refine adz (k:=FW+FW+1) ?_ (by rw[abZ];omega)
 have h2:m*BB^(FW+FW)<=1000000000*BB^(FW+FW):=Nat.mul_le_mul_right _ hm
 have h3:1000000001*BB^(FW+FW)<=BB*BB^(FW+FW):=Nat.mul_le_mul_right _ (by rw[aan];omega)
 have e:BB^(FW+FW+1)=BB*BB^(FW+FW):=by rw[Nat.pow_succ,Nat.mul_comm]
 rw[e]
 omega
set_option maxRecDepth 100000 in
set_option maxHeartbeats 4000000 in
theorem agF {I J:aas} (hI:IK I) (hJ:IK J) (A:Option Addr) (la ca:Nat) (f:List Int) (B:Option Addr) (lb cb:Nat) (g:List Int) (w:World) (hf:aar I w A la ca f) (hg:aar J w B lb cb g) (ff:abw f) (fg:abw g) (hla:0<la) (hlb:0<lb) (hma:la<=400000000) (hmb:lb<=400000000) :
  Calls Tryz.prog 63 #[.slice A la ca,.slice B lb cb,.agg #[.bool false,.slice none 0 0],.func (.func 64) #[] #[],.func (.func 65) #[] #[]] w fun e w'=>∃ r,e=.returned (.slice (some ⟨r,0,none⟩) (la+lb-1) (la+lb-1))/\ab6 w' r (ajY f g)/\w.heap.size<=r/\Below w.heap.size w w':=by
 have hbx:Below w.heap.size w (w.alloc (aap false none 0 0)):=(Below.refl _ _).alloc (Nat.le_refl _) _
 have avZ:=Lh hf.length
 have auS:=Lh hg.length
 have Hf0:=Lh hf
 have Hg0:=Lh hg
 have HZ:=Lh (aaK.nil w)
 have Hbx:=Lh hbx
 have hb1:((la:Int) == 0)=false:=by rw[beq_eq_false_iff_ne];omega
 have hb2:((lb:Int) == 0)=false:=by rw[beq_eq_false_iff_ne];omega
 obtain ⟨n,hn⟩:∃ n,la+lb=n+1:=⟨la+lb-1,by omega⟩
 have hn2:la+lb-1=n:=by omega
 have hni:IntKind.i64.wrap ((la:Int)+(lb:Int)-1)=(n:Int):=by rw[IntWalk.i64_in _ (by omega)];omega
 have ay1:(la:Int)+(lb:Int)-1=(n:Int):=by omega
 rw[hn2]
 have Hn:=Lh hn
 have hpl:=Lh (show (ajY f g).length=n by rw[ab8,avZ.out,auS.out];exact hn2)
 have hnb:n<=800000000:=by omega
 clear hf hg hbx hn hn2
 go_enter Tryz.func63,Tryz.ntmps63
 go_wp2_with (at_make;refine aaW _ rfl (.tmp 28) (.tmp 28) rfl n rfl rfl (by omega) ?_)
 intro w1 hz hb3 hsz
 have asI:Below (w.alloc (aap false none 0 0)).heap.size (w.alloc (aap false none 0 0)) w1:=by rw[World.size_alloc];exact hb3
 have hu:=ac2 (ajY f g) n
 rw[<- hu] at hz
 have Hz:=Lh hz
 have Hb3:=Lh (Hbx.out.trans (asI.mono Hbx.out.size))
 have HZ1:=Lh (HZ.out.move asI)
 have hsz2:w.heap.size+1<w1.heap.size:=by (try simp only[World.size_alloc] at hsz);omega
 clear hz hsz hu hni ay1 hb1 hb2 hb3 asI HZ Hbx
 go_wp2
 go_loopw [32] (fun s32 wr=>∃ k:Nat,k<=n/\s32=.int .i64 (k:Int)/\ab6 wr (w.heap.size+1) (upto (ajY f g) k n)/\aaK wr w.heap.size false none 0 0 0/\w1.heap.size<=wr.heap.size/\Below w.heap.size w wr) (fun s32 _=>n-(intOf s32).toNat)
 case atStart=>exact ⟨0,Nat.zero_le _,rfl,Hz.out,HZ1.out,Nat.le_refl _,Hb3.out⟩
 case round =>
  clear Hz HZ1 Hb3
  obtain ⟨k,hk,rfl,hrow,hzb,hws,hbw⟩:=hrel
  obtain ⟨wo,rfl⟩:∃ wo:World,wo=wr:=⟨_,rfl⟩
  have ab2:=Lh hrow
  have Hzb:=Lh hzb
  have Hf:=Lh (Hf0.out.below hI hbw)
  have Hg:=Lh (Hg0.out.below hJ hbw)
  have Hbw:=Lh hbw
  have z0:=hzb.c0
  have z1:=hzb.c1
  clear hrow hzb hbw
  by_cases hlt:k<n
  ·obtain ⟨lo,hlo⟩:∃ lo:Nat,lo=k+1-lb:=⟨_,rfl⟩
   have hba:Below wo.heap.size wo (wo.alloc (aap false none 0 0)):=(Below.refl _ _).alloc (Nat.le_refl _) _
   have HS:=Lh (aaK.nil wo)
   have Hba:=Lh hba
   have hkb:k+1<=lb∨lb<k+1:=by omega
   have hmx:(if (0:Int)<(k:Int)-(lb:Int)+1 then (k:Int)-(lb:Int)+1 else 0)=(lo:Int):=by split<;>omega
   obtain ⟨hi,hhi⟩:∃ hi:Nat,hi=min k (la-1):=⟨_,rfl⟩
   have hmn:(if (la:Int)-1<(k:Int) then (la:Int)-1 else (k:Int))=(hi:Int):=by split<;>omega
   have awu:lo<=hi+1:=by have:=Hn.out;omega
   have azX:hi<=k:=by omega
   have azY:hi<la:=by omega
   have azZ:k+1<=lo+lb:=by omega
   have Hlo:=Lh (show pcs f g k lo=0 from by
    by_cases h0:lo=0
    ·rw[h0];rfl
    ·exact akX f g k lo (by rw[auS.out];omega))
   have Hhi:=Lh hhi
   clear hba hlo hkb hhi
   go_wp2
   go_loopw [14] (fun s14 wx=>∃ (m:Nat) (n3:Bool) (A3:Option Addr) (l3 c3:Nat),lo<=m/\m<=hi+1/\s14=.int .i64 (m:Int)/\aaK wx wo.heap.size n3 A3 l3 c3 (pcs f g k m)/\Below wo.heap.size wo wx) (fun s14 _=>hi+1-(intOf s14).toNat)
   case atStart=>exact ⟨lo,_,_,_,_,Nat.le_refl _,awu,rfl,by rw[Hlo.out];exact HS.out,Hba.out⟩
   case round =>
    clear HS Hba Hlo
    obtain ⟨m,n3,A3,l3,c3,hlm,hmh,rfl,hsb,hbx⟩:=hrel
    have Hsb:=Lh hsb
    have Hbx:=Lh hbx
    have s0:=hsb.c0
    have s1:=hsb.c1
    by_cases hmi:m<=hi
    ·obtain ⟨j,hj⟩:∃ j,k=m+j:=⟨k-m,by omega⟩
     have hjb:j<lb:=by omega
     have ay2:m<la:=by omega
     obtain ⟨b1,o1,rfl,hb1,hc1⟩:=Hf.out.get (by omega)
     obtain ⟨b2,o2,rfl,hb2,hc2⟩:=Hg.out.get (by omega)
     obtain ⟨nf,Af,lf,cf,f0,f1,zf⟩:=hc1 m ay2
     obtain ⟨ng,Ag,lg,cg,g0,g1,zg⟩:=hc2 j hjb
     have e0:=(hbx.cell (p:=⟨b1,o1+m*2,none⟩) hb1).trans f0
     have e1:=(hbx.cell (p:=⟨b1,o1+m*2+1,none⟩) hb1).trans f1
     have e2:=(hbx.cell (p:=⟨b2,o2+j*2,none⟩) hb2).trans g0
     have e3:=(hbx.cell (p:=⟨b2,o2+j*2+1,none⟩) hb2).trans g1
     have Zf:=Lh ((hI.at_ zf).below hbx)
     have Zg:=Lh ((hJ.at_ zg).below hbx)
     have aop:=Lh (show pcs f g k (m+1)=pcs f g k m+f.getD m 0*g.getD j 0 from by rw[pcs,hj,show m+j-m=j by omega])
     have sf:=(ff m).sm
     have sgj:=(fg j).sm
     have mk:=(ff m).adq (g.getD j 0)
     have sp:=(ff m).sm2 (fg j)
     have ss:=auR ff fg k m (by omega)
     have sa:=asH ff fg k m (by omega)
     rw[show k-m=j by omega] at sa
     have i1:IntKind.i64.wrap (j:Int)=(j:Int):=IntWalk.i64_in _ (by omega)
     have i2:(k:Int)-(m:Int)=(j:Int):=by omega
     have i3:(m:Int)<(la:Int):=by omega
     have i4:(j:Int)<(lb:Int):=by omega
     have t1:(m:Int)<=(hi:Int):=by omega
     have nb1:wo.heap.size≠b1:=by omega
     have nb2:wo.heap.size≠b2:=by omega
     have fr0:=hsb.f0
     have fr1:=hsb.f1
     have Hj:=Lh hj
     clear hj hc1 hc2 f0 f1 zf g0 g1 zg hsb hbx hb1 hb2
     go_wp2_with fail
     refine aaL (S:=fun w'=>w'.cell? ⟨b1,o1+m*2,none⟩=some (.bool nf)/\w'.cell? ⟨b1,o1+m*2+1,none⟩=some (.slice Af lf cf)/\w'.cell? ⟨b2,o2+j*2,none⟩=some (.bool ng)/\w'.cell? ⟨b2,o2+j*2+1,none⟩=some (.slice Ag lg cg)/\w'.cell? ⟨wo.heap.size,0,none⟩=some (.bool n3)/\w'.cell? ⟨wo.heap.size,1,none⟩=some (.slice A3 l3 c3)) (by kernel_rfl) (by kernel_rfl) (by (try dsimp only);go_keep) (fun hHeld=>?_)
     simp only[List.pop_toArray,List.dropLast]
     (refine tq 0 ?_;simp only[aac,List.set])
     (refine tq 1 ?_;simp only[aac,List.set])
     (refine tq 2 ?_;simp only[aac,List.set])
     (refine tq 3 ?_;simp only[aac,List.set])
     (refine tq 4 ?_;simp only[aac,List.set])
     (refine tq 5 ?_;simp only[aac,List.set])
     (refine tq 6 ?_;simp only[aac,List.set])
     (refine tq 7 ?_;simp only[aac,List.set])
     (refine tq 8 ?_;simp only[aac,List.set])
     (refine tq 9 ?_;simp only[aac,List.set])
     (refine tq 10 ?_;simp only[aac,List.set])
     (refine tq 11 ?_;simp only[aac,List.set])
     (refine tq 12 ?_;simp only[aac,List.set])
     refine rdy 13 (fun K hK=>?_);go_simp
     refine (aa7 _ _ _ _ _ _ _ _ _ _ _ ?_ ?_ sf sgj mk).mono ?_
     ·exact Zf.out.below Bel.go
     ·exact Zg.out.below Bel.go
     rintro e w7 ⟨n8,A8,l8,c8,rfl,h8,hb8⟩
     obtain ⟨hcx,hfx⟩:=aao hb8
     have HS8:=Lh (Hsb.out.move (Below.trans Bel.go (hb8.mono (by simp<;>omega))))
     have Hb8:=Lh (Hbx.out.trans ((Below.trans Bel.go (hb8.mono (by simp<;>omega))).mono Hbx.out.size))
     refine hK.out _ _ ?_ (fun _=>?_)
     ·((try dsimp only);repeat' apply And.intro)<;>(rw[hcx _ (by go_simp)];go_simp)
     clear hHeld hK K hcx hfx;rename_i hHeld
     refine rdy 14 (fun K hK=>?_);go_simp
     refine (adU _ _ _ _ _ _ _ _ _ _ _ ?_ ?_ ss sp sa).mono ?_
     ·exact HS8.out.hz.at_.below Bel.go
     ·exact h8.at_.below Bel.go
     rintro e w9 ⟨n9,A9,l9,c9,rfl,h9,hb9⟩
     obtain ⟨hcx,hfx⟩:=aao hb9
     have hS9:=HS8.out.move (Below.trans Bel.go (hb9.mono (by simp<;>omega)))
     have Hb9:=Lh (Hb8.out.trans ((Below.trans Bel.go (hb9.mono (by simp<;>omega))).mono Hb8.out.size))
     refine hK.out _ _ ?_ (fun _=>?_)
     ·((try dsimp only);repeat' apply And.intro)<;>(rw[hcx _ (by go_simp)];go_simp)
     clear hHeld hK K hcx hfx;rename_i hHeld
     refine wpAnyH_done (by kernel_rfl) (aaV rfl ?_) _
     have HP:=Lh (hS9.put h9)
     have p0:=hS9.c0
     have p1:=hS9.c1
     have p2:=hS9.f0
     have p3:=hS9.f1
     clear hHeld hS9 h9 h8 hb8 hb9
     go_wp2
     go_roundw
     case rel=>exact ⟨m+1,_,_,_,_,by omega,by omega,by go_num,by rw[aop.out];exact HP.out,(Hb9.out.setCell (p:=⟨wo.heap.size,0,none⟩) (Nat.le_refl _) _).setCell (p:=⟨wo.heap.size,1,none⟩) (Nat.le_refl _) _⟩
     case measure=>simp[intOf];omega
    ·have hme:m=hi+1:=by omega
     subst hme
     have hend:pcs f g k (hi+1)=(ajY f g).getD k 0:=by
      rw[alQ f g (by rw[avZ.out,auS.out];have:=Hn.out;omega),Hhi.out,<- avZ.out]
      exact asG f g k (by rw[avZ.out];exact hla)
     rw[hend] at hsb
     have HS2:=Lh hsb
     have hrw:=ab2.out.below hbx
     have hul:(upto (ajY f g) k n).length=n:=upto_length _ _ _
     obtain ⟨n0,A0,l0,c0,d0,d1,_⟩:=hrw.elems k (by rw[hul];exact hlt)
     have hf0:=hrw.frozen (k*2)
     have hf1:=hrw.frozen (k*2+1)
     have hst:=ady (ajY f g) (k:=k) (n:=n) hlt
     have hr2:=hrw.acn (i:=k) (by rw[hul];exact hlt) hsb.hz
     rw[hst] at hr2
     have Hr2:=Lh hr2
     have HZ2:=Lh ((Hzb.out.move hbx).row hrw (i:=k) (by rw[hul];exact hlt) (by omega) (.bool n3) (.slice A3 l3 c3))
     have hki:¬ ((hi:Int)+1<=(hi:Int)):=by omega
     have s0:=hsb.c0
     have s1:=hsb.c1
     have arD:=Lh hbx
     have Hrw:=Lh hrw
     clear hend hsb hbx hrw hul hst hr2 Hsb Hbx
     go_wp2
     go_roundw
     case rel=>exact ⟨k+1,by omega,by go_num,Hr2.out,HZ2.out,Nat.le_trans hws (by have:=arD.out.size;simpa [World.setCell] using this),((Hbw.out.trans (arD.out.mono Hbw.out.size)).setCell (p:=⟨w.heap.size+1,k*2,none⟩) (by simp) _).setCell (p:=⟨w.heap.size+1,k*2+1,none⟩) (by simp) _⟩
     case measure=>simp[intOf];omega
  ·have hk2:n=k:=by omega
   subst hk2
   have hup:upto (ajY f g) n n=ajY f g:=by have:=ac3 (ajY f g);rw[hpl.out] at this;exact this
   rw[hup] at ab2
   clear hup
   go_wp2
   go_ret
   exact ⟨w.heap.size+1,rfl,ab2.out,by omega,Hbw.out⟩
def aag (f g:List Int):List Int:=if f=[]∨g=[] then [] else ajY f g
set_option maxRecDepth 100000 in
set_option maxHeartbeats 1000000 in
theorem agG (A:Option Addr) (la ca:Nat) (B:Option Addr) (lb cb:Nat) (w:World) (h0:la=0∨lb=0) (hma:la<=400000000) (hmb:lb<=400000000) :
  Calls Tryz.prog 63 #[.slice A la ca,.slice B lb cb,.agg #[.bool false,.slice none 0 0],.func (.func 64) #[] #[],.func (.func 65) #[] #[]] w fun e w'=>e=.returned (.slice none 0 0)/\Below w.heap.size w w':=by
 by_cases h1:la=0
 ·subst h1
  clear h0
  go_enter Tryz.func63,Tryz.ntmps63
  go_wp2
  go_ret
  exact ⟨rfl,(Below.refl _ _).alloc (Nat.le_refl _) _⟩
 ·have h2:lb=0:=by omega
  subst h2
  have hb1:((la:Int) == 0)=false:=by rw[beq_eq_false_iff_ne];omega
  clear h0 h1
  go_enter Tryz.func63,Tryz.ntmps63
  go_wp2
  go_ret
  exact ⟨rfl,(Below.refl _ _).alloc (Nat.le_refl _) _⟩
set_option maxRecDepth 100000 in
set_option maxHeartbeats 1000000 in
theorem acS {I J:aas} (hI:IK I) (hJ:IK J) (A:Option Addr) (la ca:Nat) (f:List Int) (B:Option Addr) (lb cb:Nat) (g:List Int) (w:World) (hf:aar I w A la ca f) (hg:aar J w B lb cb g) (ff:abw f) (fg:abw g) (hma:la<=400000000) (hmb:lb<=400000000) :
  Calls Tryz.prog 29 #[.slice A la ca,.slice B lb cb] w fun e w'=>∃ A' l' c',e=.returned (.slice A' l' c')/\aaB w' A' l' c' (aag (aaf f) (aaf g))/\Below w.heap.size w w':=by
 have hpf:aad f<=400000000:=by have:=aat f;have:=hf.length;omega
 have hpg:aad g<=400000000:=by have:=aat g;have:=hg.length;omega
 have auT:∀ {q:List Int},abw q->abw (aaf q):=fun {q} h k=>by
  rcases Nat.lt_or_ge k (aad q) with h1 | h1
  ·rw[aaf,adi q h1];exact h k
  ·rw[aaF _ (by rw[aae];exact h1)];unfold Fit;exact Nat.pow_pos aaI
 have ff2:=auT ff
 have fg2:=auT fg
 go_enter Tryz.func29,Tryz.ntmps29
 go_wp2_with fail
 refine (abC hI _ _ _ _ _ hf ff.smp (by omega)).mono ?_
 rintro e w1 ⟨l1,rfl,h1,hl1,hb1⟩
 have hg1:=hg.below hJ hb1
 have Hb1:=Lh hb1
 have H1:=Lh h1
 have Hl1:=Lh hl1
 have b1:l1<=400000000:=by omega
 clear hf hg hb1 h1 hl1
 go_wp2_with fail
 refine (abC hJ _ _ _ _ _ hg1 fg.smp (by omega)).mono ?_
 rintro e w2 ⟨l2,rfl,h2,hl2,hb2⟩
 have h12:=H1.out.below hI hb2
 have Hb2:=Lh (Hb1.out.trans (hb2.mono Hb1.out.size))
 have Hl2:=Lh hl2
 have b2:l2<=400000000:=by omega
 have E1:=Lh (aae f)
 have E2:=Lh (aae g)
 clear hb2 hg1 H1 Hb1 hl2
 by_cases h0:l1=0∨l2=0
 ·have hp:aag (aaf f) (aaf g)=[]:=by
   unfold aag
   rw[if_pos]
   rcases h0 with h0 | h0
   ·exact .inl (List.eq_nil_of_length_eq_zero (by rw[E1.out,<- Hl1.out];exact h0))
   ·exact .inr (List.eq_nil_of_length_eq_zero (by rw[E2.out,<- Hl2.out];exact h0))
  have Hp:=Lh hp
  have H0:=Lh h0
  clear hp h0
  go_wp2_with fail
  refine (agG _ _ _ _ _ _ _ H0.out b1 b2).mono ?_
  rintro e w3 ⟨rfl,hb3⟩
  have Hb3:=Lh (Hb2.out.trans (hb3.mono Hb2.out.size))
  clear h12 h2 hb3
  go_wp2
  go_ret
  exact ⟨_,_,_,rfl,by rw[Hp.out];exact aar.nil _ _ _ _,Hb3.out⟩
 ·have hp:aag (aaf f) (aaf g)=ajY (aaf f) (aaf g):=by
   unfold aag
   rw[if_neg]
   rintro (e | e)
   ·have:=E1.out;rw[e] at this;have:=Hl1.out;simp at *;omega
   ·have:=E2.out;rw[e] at this;have:=Hl2.out;simp at *;omega
  have hlp:=ab8 (aaf f) (aaf g)
  rw[E1.out,E2.out,<- Hl1.out,<- Hl2.out] at hlp
  have Hp:=Lh hp
  have Hlp:=Lh hlp
  have q1:0<l1:=by omega
  have q2:0<l2:=by omega
  clear hp h0 hlp
  go_wp2_with fail
  refine (agF hI hJ _ _ _ _ _ _ _ _ _ h12 h2 ff2 fg2 q1 q2 b1 b2).mono ?_
  rintro e w3 ⟨r,rfl,hr,hle,hb3⟩
  have Hb3:=Lh (Hb2.out.trans (hb3.mono Hb2.out.size))
  have hpo:=hr.poly (cap:=l1+l2-1) (by rw[Hlp.out];exact Nat.le_refl _)
  rw[Hlp.out] at hpo
  have Hpo:=Lh hpo
  clear h12 h2 hb3 hr hle hpo
  go_wp2
  go_ret
  exact ⟨_,_,_,rfl,by rw[Hp.out];exact Hpo.out,Hb3.out⟩
end Go.Proofs.YtkefcldcfeolbaaGreat
namespace Go.Proofs.YtkefcldcfeolbaaGreat
open Go.RowKit
def psR (lead fac:Int) (g:List Int) (low:Nat) (z:List Int) (j:Nat):Int:=if low<=j then z.getD j 0*lead-fac*g.getD (j-low) 0 else z.getD j 0*lead
def afE (lead fac:Int) (g:List Int) (low:Nat) (z:List Int) (j:Nat):List Int:=(List.range z.length).map fun t=>if t<j then psR lead fac g low z t else z.getD t 0
theorem abD (lead fac:Int) (g:List Int) (low:Nat) (z:List Int) (j:Nat):(afE lead fac g low z j).length=z.length:=by simp[afE]
theorem aeS (lead fac:Int) (g:List Int) (low:Nat) (z:List Int) (j:Nat) {t:Nat} (h:t<z.length):(afE lead fac g low z j)[t]?=some (if t<j then psR lead fac g low z t else z.getD t 0):=by
 rw[afE,List.getElem?_map,List.getElem?_range h];rfl
theorem afF (lead fac:Int) (g:List Int) (low:Nat) (z:List Int) (j:Nat) {t:Nat} (h:t<z.length):(afE lead fac g low z j).getD t 0=if t<j then psR lead fac g low z t else z.getD t 0:=by
 rw[List.getD_eq_getElem?_getD,aeS lead fac g low z j h];rfl
theorem am6 (lead fac:Int) (g:List Int) (low:Nat) (z:List Int):afE lead fac g low z 0=z:=by
 refine List.ext_getElem? fun t=>?_
 rcases Nat.lt_or_ge t z.length with h | h
 ·rw[aeS lead fac g low z 0 h,if_neg (by omega),List.getD_eq_getElem?_getD,List.getElem?_eq_getElem h];rfl
 ·rw[List.getElem?_eq_none (by rw[abD];exact h),List.getElem?_eq_none h]
theorem aoq (lead fac:Int) (g:List Int) (low:Nat) (z:List Int) {j:Nat} (hj:j<z.length):(afE lead fac g low z j).set j (psR lead fac g low z j)=afE lead fac g low z (j+1):=by
 refine List.ext_getElem? fun t=>?_
 rcases Nat.lt_or_ge t z.length with h | h
 ·rw[aeS lead fac g low z (j+1) h]
  rcases Nat.decEq t j with hne | heq
  ·rw[List.getElem?_set_ne (by omega),aeS lead fac g low z j h]
   congr 1
   by_cases h1:t<j
   ·rw[if_pos h1,if_pos (by omega)]
   ·rw[if_neg h1,if_neg (by omega)]
  ·subst heq
   rw[List.getElem?_set_self (by rw[abD];exact h),if_pos (by omega)]
 ·rw[List.getElem?_eq_none (by rw[List.length_set,abD];exact h),List.getElem?_eq_none (by rw[abD];exact h)]
def psQ (lead:Int) (low:Nat) (y:List Int) (j:Nat):List Int:=(List.range y.length).map fun t=>if low<t/\t<j then y.getD t 0*lead else y.getD t 0
theorem abu (lead:Int) (low:Nat) (y:List Int) (j:Nat):(psQ lead low y j).length=y.length:=by simp[psQ]
theorem agZ (lead:Int) (low:Nat) (y:List Int) (j:Nat) {t:Nat} (h:t<y.length):(psQ lead low y j)[t]?=some (if low<t/\t<j then y.getD t 0*lead else y.getD t 0):=by
 rw[psQ,List.getElem?_map,List.getElem?_range h];rfl
theorem aiV (lead:Int) (low:Nat) (y:List Int) (j:Nat) {t:Nat} (h:t<y.length):(psQ lead low y j).getD t 0=if low<t/\t<j then y.getD t 0*lead else y.getD t 0:=by
 rw[List.getD_eq_getElem?_getD,agZ lead low y j h];rfl
theorem aqr (lead:Int) (low:Nat) (y:List Int):psQ lead low y (low+1)=y:=by
 refine List.ext_getElem? fun t=>?_
 rcases Nat.lt_or_ge t y.length with h | h
 ·rw[agZ lead low y _ h,if_neg (by omega),List.getD_eq_getElem?_getD,List.getElem?_eq_getElem h];rfl
 ·rw[List.getElem?_eq_none (by rw[abu];exact h),List.getElem?_eq_none h]
theorem asJ (lead:Int) (low:Nat) (y:List Int) {j:Nat} (hl:low<j) (hj:j<y.length):(psQ lead low y j).set j (y.getD j 0*lead)=psQ lead low y (j+1):=by
 refine List.ext_getElem? fun t=>?_
 rcases Nat.lt_or_ge t y.length with h | h
 ·rw[agZ lead low y (j+1) h]
  rcases Nat.decEq t j with hne | heq
  ·rw[List.getElem?_set_ne (by omega),agZ lead low y j h]
   congr 1
   by_cases h1:low<t/\t<j
   ·rw[if_pos h1,if_pos (by omega)]
   ·rw[if_neg h1,if_neg (by omega)]
  ·subst heq
   rw[List.getElem?_set_self (by rw[abu];exact h),if_pos (by omega)]
 ·rw[List.getElem?_eq_none (by rw[List.length_set,abu];exact h),List.getElem?_eq_none (by rw[abu];exact h)]
def psn (lead:Int) (g:List Int) (d m N:Nat) (z0:List Int):Nat->List Int×List Int
 | 0=>(List.replicate m 0,z0)
 | t+1 =>
   let s:=psn lead g d m N z0 t
   let i:=N-1-t
   let fac:=s.2.getD i 0
   ((psQ lead (i-d) s.1 m).set (i-d) fac,afE lead fac g (i-d) s.2 i)
theorem acv (lead:Int) (g:List Int) (d m N:Nat) (z0:List Int) (t:Nat):(psn lead g d m N z0 t).1.length=m:=by
 induction t with
 | zero=>simp[psn]
 | succ t ih=>simp only[psn,List.length_set,abu,ih]
theorem acT (lead:Int) (g:List Int) (d m N:Nat) (z0:List Int) (t:Nat):(psn lead g d m N z0 t).2.length=z0.length:=by
 induction t with
 | zero=>simp[psn]
 | succ t ih=>simp only[psn,abD,ih]
def Dl (D:Nat) (z:List Int):Prop:=∀ k,aa3 (z.getD k 0).natAbs<=D
theorem Dl.mono {D E:Nat} {z:List Int} (h:Dl D z) (hE:D<=E):Dl E z:=fun k=>Nat.le_trans (h k) hE
theorem Dl.smp {D:Nat} {z:List Int} (h:Dl D z) (hD:D<=1099511627776):SmP z:=fun c hc=>by
 obtain ⟨k,hk⟩:=List.getElem?_of_mem hc
 have:=h k
 rw[List.getD_eq_getElem?_getD,hk] at this
 exact Nat.le_trans this hD
theorem Dl.take {D:Nat} {z:List Int} (h:Dl D z) (n:Nat):Dl D (z.take n):=fun k=>by
 rcases Nat.lt_or_ge k n with h1 | h1
 ·rw[adi z h1];exact h k
 ·rw[List.getD_eq_getElem?_getD,List.getElem?_eq_none (by rw[List.length_take];omega)]
  show aa3 0<=D
  rw[aa2];exact Nat.zero_le _
theorem adG (a b:Int):aa3 (a*b).natAbs<=aa3 a.natAbs+aa3 b.natAbs:=by rw[Int.natAbs_mul];exact akE _ _
theorem aor (a b:Int):aa3 (a-b).natAbs<=max (aa3 a.natAbs) (aa3 b.natAbs)+1:=Nat.le_trans (acE (show (a-b).natAbs<=a.natAbs+b.natAbs by omega)) (adn _ _)
theorem Fit.aa3 {z:Int} (h:Fit z):aa3 z.natAbs<=FW:=aaE h
theorem auU {lead fac:Int} {g z:List Int} {low D:Nat} (hl:Fit lead) (hf:aa3 fac.natAbs<=D) (hg:abw g) (hz:Dl D z) (j:Nat):aa3 (psR lead fac g low z j).natAbs<=D+100002:=by
 have hw:=abZ
 have h1:=adG (z.getD j 0) lead
 have h2:=hz j
 have h3:=hl.aa3
 unfold psR
 split
 ·have h4:=adG fac (g.getD (j-low) 0)
  have h5:=(hg (j-low)).aa3
  have h6:=aor (z.getD j 0*lead) (fac*g.getD (j-low) 0)
  omega
 ·omega
theorem arE {lead:Int} {g z0:List Int} {d m N D:Nat} (hl:Fit lead) (hg:abw g) (hz:Dl D z0) (t:Nat):Dl (D+100002*t) (psn lead g d m N z0 t).1/\Dl (D+100002*t) (psn lead g d m N z0 t).2:=by
 have hw:=abZ
 induction t with
 | zero =>
   refine ⟨fun k=>?_,hz.mono (by omega)⟩
   have:(List.replicate m (0:Int)).getD k 0=0:=by rw[List.getD_eq_getElem?_getD,List.getElem?_replicate];split<;>rfl
   show aa3 ((List.replicate m (0:Int)).getD k 0).natAbs<=_
   rw[this]
   show aa3 0<=_
   rw[aa2];exact Nat.zero_le _
 | succ t ih =>
   obtain ⟨h1,h2⟩:=ih
   have hf:=h2 (N-1-t)
   constructor
   ·intro k
    simp only[psn]
    rcases Nat.lt_or_ge k m with hk | hk
    ·rcases Nat.decEq k (N-1-t-d) with hne | heq
     ·rw[List.getD_eq_getElem?_getD,List.getElem?_set_ne (by omega),<- List.getD_eq_getElem?_getD,aiV _ _ _ _ (by rw[acv];exact hk)]
      have h3:=h1 k
      split
      ·have h4:=adG ((psn lead g d m N z0 t).1.getD k 0) lead
       have h5:=hl.aa3
       omega
      ·omega
     ·subst heq
      rw[List.getD_eq_getElem?_getD,List.getElem?_set_self (by rw[abu,acv];exact hk)]
      show aa3 ((psn lead g d m N z0 t).2.getD (N-1-t) 0).natAbs<=_
      omega
    ·rw[List.getD_eq_getElem?_getD,List.getElem?_eq_none (by rw[List.length_set,abu,acv];exact hk)]
     show aa3 0<=_
     rw[aa2];exact Nat.zero_le _
   ·intro k
    simp only[psn]
    rcases Nat.lt_or_ge k z0.length with hk | hk
    ·rw[afF _ _ _ _ _ _ (by rw[acT];exact hk)]
     split
     ·exact Nat.le_trans (auU hl hf hg h2 k) (by omega)
     ·have:=h2 k;omega
    ·rw[List.getD_eq_getElem?_getD,List.getElem?_eq_none (by rw[abD,acT];exact hk)]
     show aa3 0<=_
     rw[aa2];exact Nat.zero_le _
def psq (f g:List Int):List Int:=if aad f<=aad g-1 then [] else aaf (psn (aai g) g (aad g-1) (aad f-(aad g-1)) (aad f) (aaf f) (aad f-(aad g-1))).1
def psr (f g:List Int):List Int:=if aad f<=aad g-1 then aaf f else aaf ((psn (aai g) g (aad g-1) (aad f-(aad g-1)) (aad f) (aaf f) (aad f-(aad g-1))).2.take (aad g-1))
theorem ab6.aug {w:World} {g g':Nat} {zs ys:List Int} (h:ab6 w g zs) (hr:ab6 w g' ys) {i:Nat} (hi:i<ys.length) (hg:g≠g') {neg:Bool} {A:Option Addr} {l c:Nat} :
  ab6 ((w.setCell ⟨g',i*2,none⟩ (.bool neg)).setCell ⟨g',i*2+1,none⟩ (.slice A l c)) g zs:=by
 obtain ⟨cs,hk,hs⟩:=h.blk
 obtain ⟨n0,A0,l0,c0,e0,e1,_⟩:=hr.elems i hi
 have e1':(w.setCell ⟨g',i*2,none⟩ (.bool neg)).cell? ⟨g',i*2+1,none⟩=some (.slice A0 l0 c0):=by
  rw[World.cell?_setCell_other w _ _ _ (by simp)];exact e1
 have keep:∀ {neg' A' l' c' z'},aaA w neg' A' l' c' z'->aaA ((w.setCell ⟨g',i*2,none⟩ (.bool neg)).setCell ⟨g',i*2+1,none⟩ (.slice A l c)) neg' A' l' c' z' :=
  fun hn=>(hn.store _ e0 (aax _)).store _ e1' (aah _ _ _)
 refine ⟨⟨cs,(hk.far (p:=⟨g',i*2,none⟩) hg _).far (p:=⟨g',i*2+1,none⟩) hg _,hs⟩,fun j hj=>?_⟩
 obtain ⟨n1,A1,l1,c1,f0,f1,f2⟩:=h.elems j hj
 refine ⟨n1,A1,l1,c1,?_,?_,keep f2⟩
 ·rw[World.cell?_setCell_other _ _ _ _ (by intro e;injection e with e _;exact hg e.symm),World.cell?_setCell_other _ _ _ _ (by intro e;injection e with e _;exact hg e.symm)];exact f0
 ·rw[World.cell?_setCell_other _ _ _ _ (by intro e;injection e with e _;exact hg e.symm),World.cell?_setCell_other _ _ _ _ (by intro e;injection e with e _;exact hg e.symm)];exact f1
end Go.Proofs.YtkefcldcfeolbaaGreat
namespace Go.Proofs.YtkefcldcfeolbaaGreat
open Go.RowKit
def cv (q g:Nat->Int) (k:Nat):Nat->Int
 | 0=>0
 | m+1=>cv q g k m+q m*g (k-m)
theorem aos (f g:List Int) (k:Nat):∀ m,pcs f g k m=cv (fun i=>f.getD i 0) (fun i=>g.getD i 0) k m
 | 0=>rfl
 | m+1=>by rw[pcs,cv,aos f g k m]
theorem aqs {q q' g g':Nat->Int} {k:Nat} (hq:∀ i,q i=q' i) (hg:∀ i,g i=g' i) (m:Nat):cv q g k m=cv q' g' k m:=by
 rw[funext hq,funext hg]
theorem asK {q q' g:Nat->Int} {k low:Nat} {lead fac:Int} (hq:∀ i,q' i=lead*q i+if i=low then fac else 0):∀ m,cv q' g k m=lead*cv q g k m+if low<m then fac*g (k-low) else 0:=by
 intro m
 induction m with
 | zero=>simp[cv]
 | succ m ih =>
   rw[cv,ih,hq m,cv]
   rcases Nat.lt_trichotomy low m with h | h | h
   ·rw[if_pos h,if_neg (by omega),if_pos (by omega)];grind
   ·subst h;rw[if_neg (by omega),if_pos rfl,if_pos (by omega)];grind
   ·rw[if_neg (by omega),if_neg (by omega),if_neg (by omega)];grind
theorem akY {q g:Nat->Int} (k:Nat) (h:∀ i,q i=0) (m:Nat):cv q g k m=0:=by
 induction m with
 | zero=>rfl
 | succ m ih=>rw[cv,ih,h];simp
theorem auV (lead:Int) (g:List Int) (d m N:Nat) (z0:List Int) (hN:N=z0.length) (hm:m=N-d) (hd:d<N) (hl:g.getD d 0=lead):∀ t,t<=m ->
  (∀ i,i+t<m->(psn lead g d m N z0 t).1.getD i 0=0) /\
  ∀ k,lead^t*z0.getD k 0=cv (fun i=>(psn lead g d m N z0 t).1.getD i 0) (fun j=>if j<=d then g.getD j 0 else 0) k (k+1)+(if k+t<N then (psn lead g d m N z0 t).2.getD k 0 else 0):=by
 intro t
 induction t with
 | zero =>
   intro _
   have e0:∀ i,(List.replicate m (0:Int)).getD i 0=0:=fun i=>by
    rcases Nat.lt_or_ge i m with h | h
    ·simp[List.getD_eq_getElem?_getD,h]
    ·exact aaF _ (by simpa using h)
   refine ⟨fun i _=>by simpa [psn] using e0 i,fun k=>?_⟩
   rw[akY k (fun i=>by simpa [psn] using e0 i)]
   simp only[psn,Int.pow_zero,Int.one_mul,Nat.add_zero,Int.zero_add]
   by_cases h:k<N
   ·rw[if_pos h]
   ·rw[if_neg h,aaF _ (by omega)]
 | succ t ih =>
   intro ht
   obtain ⟨iha,ihb⟩:=ih (by omega)
   have l1:=acv lead g d m N z0 t
   have l2:=acT lead g d m N z0 t
   obtain ⟨low,hlow⟩:∃ low,low=N-1-t-d:=⟨_,rfl⟩
   have eq1:(psn lead g d m N z0 (t+1)).1=(psQ lead low (psn lead g d m N z0 t).1 m).set low ((psn lead g d m N z0 t).2.getD (N-1-t) 0):=by rw[hlow];rfl
   have eq2:(psn lead g d m N z0 (t+1)).2=afE lead ((psn lead g d m N z0 t).2.getD (N-1-t) 0) g low (psn lead g d m N z0 t).2 (N-1-t):=by rw[hlow];rfl
   obtain ⟨fac,anT⟩:∃ fac,fac=(psn lead g d m N z0 t).2.getD (N-1-t) 0:=⟨_,rfl⟩
   rw[eq1,eq2,<- anT]
   generalize psn lead g d m N z0 t=S at *
   have g1:∀ i,((psQ lead low S.1 m).set low fac).getD i 0=lead*S.1.getD i 0+if i=low then fac else 0:=fun i=>by
    by_cases hi:i=low
    ·subst hi
     rw[List.getD_eq_getElem?_getD,List.getElem?_set_self (by rw[abu];omega),if_pos rfl,iha i (by omega)]
     simp
    ·rw[List.getD_eq_getElem?_getD,List.getElem?_set_ne (fun h=>hi h.symm),<- List.getD_eq_getElem?_getD,if_neg hi,Int.add_zero]
     rcases Nat.lt_or_ge i m with h | h
     ·rw[aiV lead low S.1 m (by omega)]
      by_cases h2:low<i/\i<m
      ·rw[if_pos h2,Int.mul_comm]
      ·rw[if_neg h2,iha i (by omega)];simp
     ·rw[aaF _ (by rw[abu];omega),aaF S.1 (by omega)];simp
   refine ⟨fun i hi=>?_,fun k=>?_⟩
   ·rw[g1,iha i (by omega),if_neg (by omega)];simp
   ·rw[asK (fun i=>g1 i),Int.pow_succ,Int.mul_comm (lead^t) lead,Int.mul_assoc,ihb k,Int.mul_add]
    rcases Nat.lt_trichotomy k (N-1-t) with h | h | h
    ·rw[if_pos (show k+t<N by omega),if_pos (show k+(t+1)<N by omega),afF lead fac g low S.2 _ (by omega),if_pos h]
     unfold psR
     by_cases h2:low<=k
     ·rw[if_pos (by omega),if_pos h2,if_pos (by omega)];grind
     ·rw[if_neg (by omega),if_neg h2];grind
    ·rw[if_pos (show k+t<N by omega),if_neg (show ¬ k+(t+1)<N by omega),if_pos (by omega),if_pos (by omega),show k-low=d by omega,hl,h,<- anT];grind
    ·rw[if_neg (show ¬ k+t<N by omega),if_neg (show ¬ k+(t+1)<N by omega),if_pos (by omega),if_neg (by omega)];grind
theorem aau (p:List Int) (k:Nat):(aaf p).getD k 0=p.getD k 0:=by
 rcases Nat.lt_or_ge k (aad p) with h | h
 ·rw[aaf,adi p h]
 ·rw[aaF _ (by rw[aae];exact h),aaj p _ h]
theorem asL (f g:List Int) (h1:1<=aad g) (k:Nat):aai g^(aad f-(aad g-1))*f.getD k 0=pc (psq f g) (aaf g) k+(psr f g).getD k 0:=by
 unfold pc
 rw[aos]
 by_cases h:aad f<=aad g-1
 ·rw[show aad f-(aad g-1)=0 by omega,psq,if_pos h,psr,if_pos h,akY k (fun i=>by simp),aau]
  simp
 ·obtain ⟨-,hb⟩:=auV (aai g) g (aad g-1) (aad f-(aad g-1)) (aad f) (aaf f) (aae f).symm rfl (by omega) rfl (aad f-(aad g-1)) (Nat.le_refl _)
  have:=hb k
  rw[aau] at this
  rw[this,psq,if_neg h,psr,if_neg h,aau]
  congr 1
  ·refine aqs (fun i=>(aau _ i).symm) (fun j=>?_) _
   rw[aau]
   by_cases hj:j<=aad g-1
   ·show (if j<=aad g-1 then g.getD j 0 else 0)=_
    rw[if_pos hj]
   ·show (if j<=aad g-1 then g.getD j 0 else 0)=_
    rw[if_neg hj,aaj g j (by omega)]
  ·by_cases hk:k<aad g-1
   ·rw[if_pos (by omega),adi _ hk]
   ·rw[if_neg (by omega),aaF _ (by rw[List.length_take];omega)]
theorem aiW (f g:List Int) (h1:1<=aad g):aad (psr f g)<aad g:=by
 unfold psr
 split
 ·rw[abK];omega
 ·rw[abK]
  have:=aat ((psn (aai g) g (aad g-1) (aad f-(aad g-1)) (aad f) (aaf f) (aad f-(aad g-1))).2.take (aad g-1))
  rw[List.length_take] at this
  omega
def Bd (B:Nat) (z:List Int):Prop:=∀ k,(z.getD k 0).natAbs<=B
theorem Bd.mono {B C:Nat} {z:List Int} (h:Bd B z) (hC:B<=C):Bd C z:=fun k=>Nat.le_trans (h k) hC
theorem Bd.aaf {B:Nat} {z:List Int} (h:Bd B z):Bd B (aaf z):=fun k=>by rw[aau];exact h k
theorem Bd.take {B:Nat} {z:List Int} (h:Bd B z) (n:Nat):Bd B (z.take n):=fun k=>by
 rcases Nat.lt_or_ge k n with h1 | h1
 ·rw[adi z h1];exact h k
 ·rw[aaF _ (by rw[List.length_take];omega)];exact Nat.zero_le _
theorem Bd.acn {B:Nat} {z:List Int} (h:Bd B z) (i:Nat) {x:Int} (hx:x.natAbs<=B):Bd B (z.set i x):=fun k=>by
 rw[List.getD_eq_getElem?_getD]
 rcases Nat.decEq k i with hne | heq
 ·rw[List.getElem?_set_ne (by omega),<- List.getD_eq_getElem?_getD];exact h k
 ·subst heq
  rcases Nat.lt_or_ge k z.length with h1 | h1
  ·rw[List.getElem?_set_self h1];exact hx
  ·rw[List.getElem?_eq_none (by rw[List.length_set];exact h1)];exact Nat.zero_le _
theorem auW {lead fac:Int} {g z:List Int} {low B M:Nat} (hl:lead.natAbs<=M) (hf:fac.natAbs<=B) (hg:Bd M g) (hz:Bd B z) (j:Nat):(psR lead fac g low z j).natAbs<=2*M*B:=by
 have h1:(z.getD j 0*lead).natAbs<=B*M:=by rw[Int.natAbs_mul];exact Nat.mul_le_mul (hz j) hl
 have h2:∀ i,(fac*g.getD i 0).natAbs<=B*M:=fun i=>by rw[Int.natAbs_mul];exact Nat.mul_le_mul hf (hg i)
 have e:2*M*B=B*M+B*M:=by grind
 unfold psR
 split
 ·have:=h2 (j-low);omega
 ·omega
theorem auX {lead:Int} {g z0:List Int} {d m N M B:Nat} (h1:1<=M) (hl:lead.natAbs<=M) (hg:Bd M g) (hz:Bd B z0) (t:Nat):Bd ((2*M)^t*B) (psn lead g d m N z0 t).1/\Bd ((2*M)^t*B) (psn lead g d m N z0 t).2:=by
 induction t with
 | zero =>
   refine ⟨fun k=>?_,by simpa [psn] using hz⟩
   rcases Nat.lt_or_ge k m with h | h
   ·simp[psn,List.getD_eq_getElem?_getD,h]
   ·rw[aaF _ (by simpa [psn] using h)];exact Nat.zero_le _
 | succ t ih =>
   obtain ⟨ha,hb⟩:=ih
   have e:(2*M)^(t+1)*B=2*M*((2*M)^t*B):=by rw[Nat.pow_succ];grind
   have le:(2*M)^t*B<=(2*M)^(t+1)*B:=by rw[e];exact Nat.le_mul_of_pos_left _ (by omega)
   simp only[psn]
   refine ⟨Bd.acn (fun k=>?_) _ (Nat.le_trans (hb _) le),fun k=>?_⟩
   ·rcases Nat.lt_or_ge k (psn lead g d m N z0 t).1.length with h | h
    ·rw[aiV _ _ _ _ h]
     split
     ·rw[Int.natAbs_mul,e]
      have:=Nat.mul_le_mul (ha k) hl
      refine Nat.le_trans this ?_
      rw[Nat.mul_comm]
      exact Nat.mul_le_mul_right _ (by omega)
     ·exact Nat.le_trans (ha k) le
    ·rw[aaF _ (by rw[abu];exact h)];exact Nat.zero_le _
   ·rcases Nat.lt_or_ge k (psn lead g d m N z0 t).2.length with h | h
    ·rw[afF _ _ _ _ _ _ h]
     split
     ·rw[e];exact auW hl (hb _) hg hb k
     ·exact Nat.le_trans (hb k) le
    ·rw[aaF _ (by rw[abD];exact h)];exact Nat.zero_le _
theorem aot {f g:List Int} {M B n:Nat} (h1:1<=M) (hg:Bd M g) (hf:Bd B f) (hn:aad f-(aad g-1)<=n):Bd ((2*M)^n*B) (psq f g)/\Bd ((2*M)^n*B) (psr f g):=by
 have h2:=auX (d:=aad g-1) (m:=aad f-(aad g-1)) (N:=aad f) h1 (hg (aad g-1)) hg hf.aaf (aad f-(aad g-1))
 have hle:(2*M)^(aad f-(aad g-1))*B<=(2*M)^n*B:=Nat.mul_le_mul_right _ (Nat.pow_le_pow_right (by omega) hn)
 have hB:B<=(2*M)^n*B:=Nat.le_mul_of_pos_left _ (Nat.pow_pos (by omega))
 constructor
 ·unfold psq;split
  ·intro k;simp
  ·exact (h2.1.mono hle).aaf
 ·unfold psr;split
  ·exact (hf.mono hB).aaf
  ·exact ((h2.2.mono hle).take _).aaf
end Go.Proofs.YtkefcldcfeolbaaGreat
namespace Go.Proofs.YtkefcldcfeolbaaGreat
open Go.RowKit
def ac4 (f g:List Int):List Int:=(List.range (max f.length g.length)).map fun k=>f.getD k 0+g.getD k 0
theorem adY (f g:List Int):(ac4 f g).length=max f.length g.length:=by simp[ac4]
theorem abl (f g:List Int) (k:Nat):(ac4 f g).getD k 0=f.getD k 0+g.getD k 0:=by
 rcases Nat.lt_or_ge k (max f.length g.length) with h | h
 ·rw[List.getD_eq_getElem?_getD,ac4,List.getElem?_map,List.getElem?_range h];rfl
 ·rw[aaF _ (by rw[adY];exact h),aaF f (by omega),aaF g (by omega)];rfl
structure aif (W:World) (g:Nat) (n:Bool) (A:Option Addr) (l c:Nat) (z:Int):Prop where
 c0:W.cell? ⟨g,0,none⟩=some (.bool n)
 c1:W.cell? ⟨g,1,none⟩=some (.slice A l c)
 f0:W.frozen? ⟨g,0,none⟩=false
 f1:W.frozen? ⟨g,1,none⟩=false
 lt:g<W.heap.size
 hz:abj W n A l c z
section
variable {W W':World} {g g':Nat} {n n':Bool} {A A':Option Addr} {l c l' c':Nat} {z z':Int}
theorem aif.move (h:aif W g n A l c z) (hb:Below W.heap.size W W'):aif W' g n A l c z:=by
 obtain ⟨hc,hf⟩:=abH hb
 exact ⟨(hc _ _ h.lt).trans h.c0,(hc _ _ h.lt).trans h.c1,(hf _ _ h.lt).trans h.f0,(hf _ _ h.lt).trans h.f1,Nat.lt_of_lt_of_le h.lt hb.size,h.hz.below hb⟩
theorem aif.of (h:aaK W g n A l c z):aif W g n A l c z:=⟨h.c0,h.c1,h.f0,h.f1,h.lt,h.hz.at_⟩
theorem aif.two (h:aif W g n A l c z) (hz:abj W n' A' l' c' z') (u:Bool) (B:Option Addr) (lb cb:Nat):abj (adp W g u B lb cb) n' A' l' c' z':=by
 have k0:=h.c0
 have k1:=h.c1
 have k1':(W.setCell ⟨g,0,none⟩ (.bool u)).cell? ⟨g,1,none⟩=some (.slice A l c):=by go_simp
 exact (hz.store _ k0 (aax _)).store _ k1' (aah _ _ _)
theorem aif.put (h:aif W g n A l c z) (hz:abj W n' A' l' c' z'):aif (adp W g n' A' l' c') g n' A' l' c' z':=by
 have k0:=h.c0
 have k1:=h.c1
 have f0:=h.f0
 have f1:=h.f1
 exact ⟨by go_simp,by go_simp,by go_simp,by go_simp,by simpa [World.setCell] using h.lt,h.two hz _ _ _ _⟩
theorem aif.far (h:aif W g n A l c z) (h':aif W g' n' A' l' c' z') (hg:g≠g') (u:Bool) (B:Option Addr) (lb cb:Nat):aif (adp W g' u B lb cb) g n A l c z:=by
 have k0:=h.c0
 have k1:=h.c1
 have f0:=h.f0
 have f1:=h.f1
 have j0:=h'.c0
 have j1:=h'.c1
 exact ⟨by go_simp,by go_simp,by go_simp,by go_simp,by simpa [World.setCell] using h.lt,h'.two h.hz _ _ _ _⟩
end
theorem iz (W:World):abj W false none 0 0 0:=(show aaA W false none 0 0 0 from ⟨aaT.zero _ _ _,by simp⟩).at_
set_option maxRecDepth 100000 in
set_option maxHeartbeats 4000000 in
theorem akZ {I J:aas} (hI:IK I) (hJ:IK J) (A:Option Addr) (la ca:Nat) (f:List Int) (B:Option Addr) (lb cb:Nat) (g:List Int) (w:World) (hf:aar I w A la ca f) (hg:aar J w B lb cb g) (sf:SmP f) (sg:SmP g) (ss:∀ k,Sm ((f.getD k 0).natAbs+(g.getD k 0).natAbs)) (hma:la<=1000000000) (hmb:lb<=1000000000) :
  Calls Tryz.prog 125 #[.slice A la ca,.slice B lb cb,.agg #[.bool false,.slice none 0 0],.func (.func 64) #[] #[]] w fun e w'=>∃ r n,e=.returned (.slice (some ⟨r,0,none⟩) n n)/\n=max la lb/\ab6 w' r (ac4 f g)/\w.heap.size<=r/\Below w.heap.size w w':=by
 have hbx:Below w.heap.size w (w.alloc (aap false none 0 0)):=(Below.refl _ _).alloc (Nat.le_refl _) _
 have Hf0:=Lh hf
 have Hg0:=Lh hg
 have HZ:=Lh (aaK.nil w)
 have Hbx:=Lh hbx
 obtain ⟨n,hn⟩:∃ n,n=max la lb:=⟨_,rfl⟩
 have hmx:(if la<lb then (lb:Int) else (la:Int))=(n:Int):=by split<;>omega
 have Hn:=Lh hn
 have hpl:=Lh (show (ac4 f g).length=n by rw[adY,hf.length,hg.length,hn])
 have hnb:n<=1000000000:=by omega
 clear hf hg hbx hn
 go_enter Tryz.func125,Tryz.ntmps125
 go_wp2_with (at_make;refine aaW _ rfl (.tmp 17) (.tmp 17) rfl n rfl rfl (by omega) ?_)
 intro w1 hz hb3 hsz
 have asI:Below (w.alloc (aap false none 0 0)).heap.size (w.alloc (aap false none 0 0)) w1:=by rw[World.size_alloc];exact hb3
 have hu:=ac2 (ac4 f g) n
 rw[<- hu] at hz
 have Hz:=Lh hz
 have Hb3:=Lh (Hbx.out.trans (asI.mono Hbx.out.size))
 have HZ1:=Lh (HZ.out.move asI)
 have hsz2:w.heap.size+1<w1.heap.size:=by (try simp only[World.size_alloc] at hsz);omega
 clear hz hsz hu hmx hb3 asI HZ Hbx
 go_wp2
 go_loopw [21] (fun s21 wr=>∃ k:Nat,k<=n/\s21=.int .i64 (k:Int)/\ab6 wr (w.heap.size+1) (upto (ac4 f g) k n)/\aaK wr w.heap.size false none 0 0 0/\w1.heap.size<=wr.heap.size/\Below w.heap.size w wr) (fun s21 _=>n-(intOf s21).toNat)
 case atStart=>exact ⟨0,Nat.zero_le _,rfl,Hz.out,HZ1.out,Nat.le_refl _,Hb3.out⟩
 case round =>
  clear Hz HZ1 Hb3
  obtain ⟨k,hk,rfl,hrow,hzb,hws,hbw⟩:=hrel
  obtain ⟨wo,rfl⟩:∃ wo:World,wo=wr:=⟨_,rfl⟩
  have ab2:=Lh hrow
  have Hzb:=Lh hzb
  have Hf:=Lh (Hf0.out.below hI hbw)
  have Hg:=Lh (Hg0.out.below hJ hbw)
  have Hbw:=Lh hbw
  have z0:=hzb.c0
  have z1:=hzb.c1
  have hlw:=hzb.lt
  have nz0:w.heap.size≠wo.heap.size:=by omega
  have nz1:w.heap.size≠wo.heap.size+1:=by omega
  clear hrow hzb hbw
  by_cases hlt:k<n
  ·have hkn:(k:Int)<(n:Int):=by omega
   go_wp2_with fail
   go_cut [10,11,12] (fun s10 s11 s12 wx=>s10=.int .i64 (k:Int)/\∃ g1 g2,s11=.pointer (some ⟨g1,0,none⟩)/\s12=.pointer (some ⟨g2,0,none⟩)/\aif wx g1 false none 0 0 0/\aif wx g2 false none 0 0 0/\g1≠g2/\wo.heap.size<=g1/\wo.heap.size<=g2/\Below wo.heap.size wo wx)
   case first =>
    go_region
    all_goals go_wp2_with fail
    all_goals go_meet
    ·exact ⟨rfl,wo.heap.size,wo.heap.size+1,rfl,rfl,⟨by go_simp,by go_simp,by go_simp,by go_simp,(by first | (simp;done) | (simp;omega) | omega),iz _⟩,⟨by go_simp,by go_simp,by go_simp,by go_simp,(by first | (simp;done) | (simp;omega) | omega),iz _⟩,by omega,Nat.le_refl _,by omega,Bel.go⟩
    ·exact ⟨rfl,wo.heap.size+1,wo.heap.size,rfl,rfl,⟨by go_simp,by go_simp,by go_simp,by go_simp,(by first | (simp;done) | (simp;omega) | omega),iz _⟩,⟨by go_simp,by go_simp,by go_simp,by go_simp,(by first | (simp;done) | (simp;omega) | omega),iz _⟩,by omega,by omega,Nat.le_refl _,Bel.go⟩
   case rest =>
    obtain ⟨rfl,g1,g2,rfl,rfl,hx1,hx2,hne,hg1,hg2,hb4⟩:=hcut
    go_upto_if 29 with (fail)
    go_cut [] (fun wx=>∃ n1 A1 l1 c1,aif wx g1 n1 A1 l1 c1 (f.getD k 0)/\aif wx g2 false none 0 0 0/\Below wo.heap.size wo wx)
    case first =>
     by_cases hka:k<la
     ·have hki:(k:Int)<(la:Int):=by omega
      obtain ⟨b1,o1,rfl,hb1,hc1⟩:=Hf.out.get (by omega)
      obtain ⟨nf,Af,lf,cf,f0,f1,zf⟩:=hc1 k hka
      have e0:=(hb4.cell (p:=⟨b1,o1+k*2,none⟩) hb1).trans f0
      have e1:=(hb4.cell (p:=⟨b1,o1+k*2+1,none⟩) hb1).trans f1
      have H1:=Lh (hx1.put ((hI.at_ zf).below hb4))
      have H2:=Lh (hx2.far hx1 (Ne.symm hne) nf Af lf cf)
      have H3:Hid (Below wo.heap.size wo (adp _ g1 nf Af lf cf)):=Lh ((hb4.setCell (p:=⟨g1,0,none⟩) hg1 (.bool nf)).setCell (p:=⟨g1,1,none⟩) hg1 (.slice Af lf cf))
      have k0:=hx1.c0
      have k1:=hx1.c1
      have k2:=hx1.f0
      have k3:=hx1.f1
      clear hc1 f0 f1 zf hx1 hx2 hb4
      go_wp2_with (fail)
      go_meet
      exact ⟨_,_,_,_,H1.out,H2.out,H3.out⟩
     ·have hki:¬ (k:Int)<(la:Int):=by omega
      have H0:=Lh (show f.getD k 0=0 from aaF f (by rw[Hf.out.length];omega))
      have H1:=Lh hx1
      have H2:=Lh hx2
      have H3:=Lh hb4
      clear hx1 hx2 hb4
      go_wp2_with (fail)
      go_meet
      exact ⟨_,_,_,_,by rw[H0.out];exact H1.out,H2.out,H3.out⟩
    case rest =>
     clear hx1 hx2 hb4
     obtain ⟨n1,A1,l1,c1,hx1,hx2,hb4⟩:=hcut
     go_upto_if 37 with (fail)
     go_cut [] (fun wx=>∃ n2 A2 l2 c2,aif wx g1 n1 A1 l1 c1 (f.getD k 0)/\aif wx g2 n2 A2 l2 c2 (g.getD k 0)/\Below wo.heap.size wo wx)
     case first =>
      by_cases hka:k<lb
      ·have hki:(k:Int)<(lb:Int):=by omega
       obtain ⟨b1,o1,rfl,hb1,hc1⟩:=Hg.out.get (by omega)
       obtain ⟨nf,Af,lf,cf,f0,f1,zf⟩:=hc1 k hka
       have e0:=(hb4.cell (p:=⟨b1,o1+k*2,none⟩) hb1).trans f0
       have e1:=(hb4.cell (p:=⟨b1,o1+k*2+1,none⟩) hb1).trans f1
       have H1:=Lh (hx2.put ((hJ.at_ zf).below hb4))
       have H2:=Lh (hx1.far hx2 hne nf Af lf cf)
       have H3:Hid (Below wo.heap.size wo (adp _ g2 nf Af lf cf)):=Lh ((hb4.setCell (p:=⟨g2,0,none⟩) hg2 (.bool nf)).setCell (p:=⟨g2,1,none⟩) hg2 (.slice Af lf cf))
       have k0:=hx2.c0
       have k1:=hx2.c1
       have k2:=hx2.f0
       have k3:=hx2.f1
       clear hc1 f0 f1 zf hx1 hx2 hb4
       go_wp2_with (fail)
       go_meet
       exact ⟨_,_,_,_,H2.out,H1.out,H3.out⟩
      ·have hki:¬ (k:Int)<(lb:Int):=by omega
       have H0:=Lh (show g.getD k 0=0 from aaF g (by rw[Hg.out.length];omega))
       have H1:=Lh hx1
       have H2:=Lh hx2
       have H3:=Lh hb4
       clear hx1 hx2 hb4
       go_wp2_with (fail)
       go_meet
       exact ⟨_,_,_,_,H1.out,by rw[H0.out];exact H2.out,H3.out⟩
     case rest =>
      clear hx1 hx2 hb4
      obtain ⟨n2,A2,l2,c2,hx1,hx2,hb4⟩:=hcut
      have X1:=Lh hx1
      have X2:=Lh hx2
      have Hb4:=Lh hb4
      have k0:=hx1.c0
      have k1:=hx1.c1
      have k2:=hx2.c0
      have k3:=hx2.c1
      have sf1:=sf.getD k
      have sg1:=sg.getD k
      have ss1:=ss k
      clear hx1 hx2 hb4
      go_wp2_with fail
      refine (adU _ _ _ _ _ _ _ _ _ _ _ X1.out.hz X2.out.hz sf1 sg1 ss1).mono ?_
      rintro e w9 ⟨n9,A9,l9,c9,rfl,h9,hb9⟩
      have abN:=Hb4.out.trans (hb9.mono Hb4.out.size)
      have hrw:=ab2.out.below abN
      have hul:(upto (ac4 f g) k n).length=n:=upto_length _ _ _
      obtain ⟨n0,A0,l0,c0,d0,d1,_⟩:=hrw.elems k (by rw[hul];exact hlt)
      have hf0:=hrw.frozen (k*2)
      have hf1:=hrw.frozen (k*2+1)
      have hst:=ady (ac4 f g) (k:=k) (n:=n) hlt
      rw[abl] at hst
      have hr2:=hrw.acn (i:=k) (by rw[hul];exact hlt) h9
      rw[hst] at hr2
      have Hr2:=Lh hr2
      have HZ2:=Lh ((Hzb.out.move abN).row hrw (i:=k) (by rw[hul];exact hlt) (by omega) (.bool n9) (.slice A9 l9 c9))
      have akV:=Lh abN
      clear h9 hb9 abN hrw hul hst hr2 X1 X2 Hb4 k0 k1 k2 k3
      go_wp2
      go_roundw
      case rel=>exact ⟨k+1,by omega,by go_num,Hr2.out,HZ2.out,Nat.le_trans hws (by have:=akV.out.size;simpa [World.setCell] using this),((Hbw.out.trans (akV.out.mono Hbw.out.size)).setCell (p:=⟨w.heap.size+1,k*2,none⟩) (by simp) _).setCell (p:=⟨w.heap.size+1,k*2+1,none⟩) (by simp) _⟩
      case measure=>simp[intOf];omega
  ·have hk2:n=k:=by omega
   subst hk2
   have hkn:¬ (n:Int)<(n:Int):=by omega
   have hup:upto (ac4 f g) n n=ac4 f g:=by have:=ac3 (ac4 f g);rw[hpl.out] at this;exact this
   rw[hup] at ab2
   clear hup
   go_wp2
   go_ret
   exact ⟨w.heap.size+1,n,rfl,Hn.out,ab2.out,by omega,Hbw.out⟩
end Go.Proofs.YtkefcldcfeolbaaGreat
namespace Go.Proofs.YtkefcldcfeolbaaGreat
open Go.RowKit
set_option maxHeartbeats 1000000 in
theorem am7 (na:Bool) (A:Option Addr) (la ca:Nat) (a:Int) (gb:Nat) (nb:Bool) (B:Option Addr) (lb cb:Nat) (c:Int) (w:World) (ha:abj w na A la ca a) (hB:aaK w gb nb B lb cb c) (hsa:SmI a) (hsc:SmI c) (hk:ae7 c.natAbs a.natAbs) :
  Calls Tryz.prog 88 #[.agg #[.bool na,.slice A la ca],.pointer (some ⟨gb,0,none⟩)] w fun e w'=>∃ n1 A1 l1 c1,e=.returned (.agg #[.bool n1,.slice A1 l1 c1])/\aaA w' n1 A1 l1 c1 (c*a)/\Below w.heap.size w w':=by
 have hba:Below w.heap.size w (w.alloc (aap na A la ca)):=(Below.refl _ _).alloc (Nat.le_refl _) _
 have hbb:Below (w.alloc (aap na A la ca)).heap.size (w.alloc (aap na A la ca)) ((w.alloc (aap na A la ca)).alloc (aap false none 0 0)):=(Below.refl _ _).alloc (Nat.le_refl _) _
 have hab:=hba.trans (hbb.mono hba.size)
 have hR:=aaK.nil (w.alloc (aap na A la ca))
 simp only[World.size_alloc] at hR
 have HR:=Lh hR
 have HB:=Lh (hB.move hab)
 have Ha:=Lh (ha.below hab)
 have Hb:=Lh hab
 have b0:=HB.out.c0
 have b1:=HB.out.c1
 have hlt:=hB.lt
 have ne1:gb≠w.heap.size:=by omega
 have ne2:gb≠w.heap.size+1:=by omega
 clear ha hB hba hbb hab hR
 go_enter Tryz.func88,Tryz.ntmps88
 go_wp2_with fail
 refine (aa7 _ _ _ _ _ _ _ _ _ _ _ HB.out.hz.at_ Ha.out hsc hsa hk).mono ?_
 rintro e w2 ⟨n2,A2,l2,c2,rfl,h3,hb2⟩
 have hR2:=HR.out.move hb2
 have HP:=Lh (hR2.put h3)
 have Hb2:=Lh (((Hb.out.trans (hb2.mono Hb.out.size)).setCell (p:=⟨w.heap.size+1,0,none⟩) (by first | (simp;done) | (simp;omega) | omega) (.bool n2)).setCell (p:=⟨w.heap.size+1,1,none⟩) (by first | (simp;done) | (simp;omega) | omega) (.slice A2 l2 c2))
 have d0:=hR2.c0
 have d1:=hR2.c1
 have d2:=hR2.f0
 have d3:=hR2.f1
 clear h3 hb2 hR2 HR Hb HB Ha b0 b1
 go_wp2
 refine bodyPost_ret (v:=.agg #[.bool n2,.slice A2 l2 c2]) (by simp[results,Tryz.results88,go_sem,d0,d1]) rfl ⟨_,_,_,_,rfl,HP.out.hz,Hb2.out⟩
def psc (c:Int) (p:List Int):List Int:=p.map (c*·)
theorem aaG (c:Int) (p:List Int) (k:Nat):(psc c p).getD k 0=c*p.getD k 0:=by
 unfold psc
 rw[List.getD_eq_getElem?_getD,List.getElem?_map,List.getD_eq_getElem?_getD]
 cases p[k]? with
 | none=>simp
 | some x=>rfl
set_option maxRecDepth 100000 in
set_option maxHeartbeats 2000000 in
theorem am8 {I:aas} (hI:IK I) (A:Option Addr) (len cap:Nat) (p:List Int) (gb:Nat) (nb:Bool) (B:Option Addr) (lb cb:Nat) (c:Int) (w:World) (h:aar I w A len cap p) (hB:aaK w gb nb B lb cb c) (hs:SmP p) (hsc:SmI c) (hk:∀ k,ae7 c.natAbs (p.getD k 0).natAbs) (hm:len<=1099511627776) :
  Calls Tryz.prog 74 #[.slice A len cap,.func (.func 88) #[] #[.pointer (some ⟨gb,0,none⟩)]] w fun e w'=>∃ g,e=.returned (.slice (some ⟨g,0,none⟩) len len)/\ab6 w' g (psc c p)/\w.heap.size<=g/\Below w.heap.size w w':=by
 have hlen:=Lh h.length
 have hlt:=hB.lt
 obtain ⟨q,hq⟩:∃ q,q=psc c p:=⟨_,rfl⟩
 have hql:q.length=len:=by rw[hq];unfold psc;rw[List.length_map];exact hlen.out
 have hqg:∀ k,q.getD k 0=c*p.getD k 0:=fun k=>by rw[hq];exact aaG c p k
 rw[<- hq]
 have Hql:=Lh hql
 have Hqg:=Lh hqg
 clear hq hql hqg
 go_enter Tryz.func74,Tryz.ntmps74
 go_wp2_with (at_make;refine aaW _ rfl (.tmp 9) (.tmp 9) rfl len rfl rfl (by omega) ?_)
 intro w1 hz hb1 hsz
 rw[<- ac2 q] at hz
 have Hz:=Lh hz
 have Hb1:=Lh hb1
 have HB1:=Lh (hB.move hb1)
 have ne1:gb≠w.heap.size:=by omega
 have ne2:w.heap.size≠gb:=by omega
 clear hz hb1 hsz hB hlt
 go_wp2
 go_loopw [13] (fun i wr=>∃ k:Nat,k<=len/\i=.int .i64 k/\ab6 wr w.heap.size (upto q k len)/\aaK wr gb nb B lb cb c/\Below w.heap.size w wr) (fun i _=>len-(intOf i).toNat)
 case atStart=>exact ⟨0,Nat.zero_le _,rfl,Hz.out,HB1.out,Hb1.out⟩
 case round =>
  clear Hz Hb1 HB1
  obtain ⟨k,hkl,rfl,hrow,hB,hbw⟩:=hrel
  have ab2:=Lh hrow
  have HB:=Lh hB
  have Hbw:=Lh hbw
  clear hrow hbw hB
  by_cases hlt:k<len
  ·obtain ⟨b,off,rfl,hb,hc⟩:=h.get (by omega)
   obtain ⟨neg,Aj,lj,cj,c0,c1,hzk⟩:=hc k hlt
   have e0:=(Hbw.out.cell (p:=⟨b,off+k*2,none⟩) hb).trans c0
   have e1:=(Hbw.out.cell (p:=⟨b,off+k*2+1,none⟩) hb).trans c1
   have hzr:=(hI.at_ hzk).below Hbw.out
   have hsk:=hs.getD k
   have hmk:=hk k
   have hba:Below wr.heap.size wr (wr.alloc (aap neg Aj lj cj)):=(Below.refl _ _).alloc (Nat.le_refl _) _
   have HBa:=Lh (HB.out.move hba)
   have Hh:=Lh h
   clear hc h c0 c1 hzk hba
   go_wp2_with fail
   refine (am7 _ _ _ _ _ _ _ _ _ _ _ _ (hzr.below ((Below.refl _ _).alloc (Nat.le_refl _) _)) HBa.out hsk hsc hmk).mono ?_
   rintro e w2 ⟨n2,A2,l2,c2,rfl,h2,hb2⟩
   rw[<- Hqg.out k] at h2
   have hbx:Below wr.heap.size wr w2:=((Below.refl _ _).alloc (Nat.le_refl _) _).trans (hb2.mono (by simp))
   have hr2:=ab2.out.below hbx
   have hB2:=HB.out.move hbx
   obtain ⟨n0,A0,l0,c0,e0,e1,_⟩:=hr2.elems k (by rw[upto_length];exact hlt)
   have hf0:=hr2.frozen (k*2)
   have hf1:=hr2.frozen (k*2+1)
   have Hr2:Hid (ab6 ((w2.setCell ⟨w.heap.size,k*2,none⟩ (.bool n2)).setCell ⟨w.heap.size,k*2+1,none⟩ (.slice A2 l2 c2)) w.heap.size (upto q (k+1) len)):=by
    show ab6 _ _ _
    rw[<- ady q hlt]
    exact hr2.acn (by rw[upto_length];exact hlt) h2
   have HB3:Hid (aaK ((w2.setCell ⟨w.heap.size,k*2,none⟩ (.bool n2)).setCell ⟨w.heap.size,k*2+1,none⟩ (.slice A2 l2 c2)) gb nb B lb cb c):=hB2.row hr2 (by rw[upto_length];exact hlt) ne1 _ _
   have Hb3:Hid (Below w.heap.size w ((w2.setCell ⟨w.heap.size,k*2,none⟩ (.bool n2)).setCell ⟨w.heap.size,k*2+1,none⟩ (.slice A2 l2 c2))):=((Hbw.out.trans (hbx.mono Hbw.out.size)).setCell (p:=⟨w.heap.size,k*2,none⟩) (Nat.le_refl _) _).setCell (p:=⟨w.heap.size,k*2+1,none⟩) (Nat.le_refl _) _
   clear hr2 h2 hb2 hbx hzr hsk hB2 HBa hmk
   go_wp2
   go_roundw
   case rel=>exact ⟨k+1,by omega,by go_num,Hr2.out,HB3.out,Hb3.out⟩
   case measure=>simp[intOf];omega
  ·have hk2:len=k:=by omega
   subst hk2
   have hup:upto q len len=q:=by have:=ac3 q;rw[Hql.out] at this;exact this
   rw[hup] at ab2
   clear hup
   go_wp2
   go_ret
   exact ⟨_,rfl,ab2.out,Nat.le_refl _,Hbw.out⟩
set_option maxRecDepth 100000 in
set_option maxHeartbeats 2000000 in
theorem aes {I:aas} (hI:IK I) (A:Option Addr) (len cap:Nat) (p:List Int) (nb:Bool) (B:Option Addr) (lb cb:Nat) (c:Int) (w:World) (h:aar I w A len cap p) (hc:aaA w nb B lb cb c) (hs:SmP p) (hsc:SmI c) (hk:∀ k,ae7 c.natAbs (p.getD k 0).natAbs) (hsr:SmP (psc c p)) (hm:len<=1099511627776) :
  Calls Tryz.prog 59 #[.slice A len cap,.agg #[.bool nb,.slice B lb cb]] w fun e w'=>∃ A' l' c',e=.returned (.slice A' l' c')/\aaB w' A' l' c' (aaf (psc c p))/\Below w.heap.size w w':=by
 have hb0:Below w.heap.size w (w.alloc (aap nb B lb cb)):=(Below.refl _ _).alloc (Nat.le_refl _) _
 have h1:=h.below hI hb0
 have hB0:=Lh (aaK.make hc)
 have Hb0:=Lh hb0
 have hlen:=Lh (show (psc c p).length=len by unfold psc;rw[List.length_map];exact h.length)
 clear h hb0 hc
 go_enter Tryz.func59,Tryz.ntmps59
 go_wp2_with fail
 refine (am8 hI _ _ _ _ _ _ _ _ _ _ _ h1 hB0.out hs hsc hk hm).mono ?_
 rintro e w1 ⟨g,rfl,hrow,hg,hb1⟩
 have hp:=hrow.poly (cap:=len) (by rw[hlen.out];exact Nat.le_refl _)
 rw[hlen.out] at hp
 have Hb1:=Lh (Hb0.out.trans (hb1.mono Hb0.out.size))
 clear h1 hB0 Hb0 hrow hb1 hg
 go_wp2_with fail
 refine (abC ikN _ _ _ _ _ hp hsr hm).mono ?_
 rintro e w2 ⟨l2,rfl,h2,-,hb2⟩
 have H2:=Lh h2
 have Hb2:=Lh (Hb1.out.trans (hb2.mono Hb1.out.size))
 clear hp h2 hb2
 go_wp2
 go_ret
 exact ⟨_,_,_,rfl,H2.out,Hb2.out⟩
end Go.Proofs.YtkefcldcfeolbaaGreat
namespace Go.Proofs.YtkefcldcfeolbaaGreat
open Go.RowKit
theorem ahn {p q:List Int} (hl:p.length=q.length) (h:∀ k,k<p.length->p.getD k 0=q.getD k 0):p=q:=by
 refine List.ext_getElem? fun k=>?_
 rcases Nat.lt_or_ge k p.length with h1 | h1
 ·have h2:=h k h1
  rw[List.getD_eq_getElem?_getD,List.getD_eq_getElem?_getD,List.getElem?_eq_getElem h1,List.getElem?_eq_getElem (by omega)] at h2
  rw[List.getElem?_eq_getElem h1,List.getElem?_eq_getElem (by omega)]
  simpa using h2
 ·rw[List.getElem?_eq_none h1,List.getElem?_eq_none (by omega)]
theorem aaP {p:List Int} {n:Nat} (h:∀ k,n<=k->p.getD k 0=0):aad p<=n:=by
 rcases Nat.lt_or_ge n (aad p) with h1 | h1
 ·exact absurd (h (aad p-1) (by omega)) (ab7 p (aad p-1) (by omega))
 ·exact h1
theorem ajZ {p q:List Int} (h:∀ k,p.getD k 0=q.getD k 0):aaf p=aaf q:=by
 have h1:aad p<=aad q:=aaP fun k hk=>by rw[h];exact aaj q k hk
 have h2:aad q<=aad p:=aaP fun k hk=>by rw[<- h];exact aaj p k hk
 exact ahn (by rw[aae,aae];omega) fun k _=>by rw[aau,aau];exact h k
theorem aa5 (f g:List Int) (k:Nat):(aag f g).getD k 0=pc f g k:=by
 have hz:∀ {f g:List Int},f=[]∨g=[]->pc f g k=0:=fun {f g} h=>by
  unfold pc
  rcases h with rfl | rfl
  ·rw[aos];exact akY k (fun i=>by simp) _
  ·exact akX f [] k (k+1) (by simp)
 unfold aag
 by_cases h:f=[]∨g=[]
 ·rw[if_pos h,hz h];simp
 ·rw[if_neg h]
  have hf:0<f.length:=by rcases f with _ | ⟨a,t⟩;exact absurd (.inl rfl) h;simp
  have hg:0<g.length:=by rcases g with _ | ⟨a,t⟩;exact absurd (.inr rfl) h;simp
  rcases Nat.lt_or_ge k (f.length+g.length-1) with h1 | h1
  ·exact alQ f g h1
  ·rw[aaF _ (by rw[ab8];exact h1)]
   have e:=alR f g k f.length (Nat.le_refl _) (k+1-f.length)
   rw[show f.length+(k+1-f.length)=k+1 by omega] at e
   unfold pc
   rw[e]
   exact (akX f g k f.length (by omega)).symm
theorem asM (f g:List Int):(psr f g).length<=aad f:=by
 unfold psr;split
 ·rw[aae];exact Nat.le_refl _
 ·rw[aae]
  have:=aat ((psn (aai g) g (aad g-1) (aad f-(aad g-1)) (aad f) (aaf f) (aad f-(aad g-1))).2.take (aad g-1))
  rw[List.length_take,acT,aae] at this
  omega
structure alS (f g:List Int):Prop where
 ff:∀ k,(f.getD k 0).natAbs<BB^2
 gg:∀ k,(g.getD k 0).natAbs<BB^2
 one:1<=aad g
 lf:aad f<=10
section
variable {f g:List Int}
theorem asN {z:Int} {k:Nat} (h:z.natAbs<BB^k) (hk:k<=FW):Fit z:=Nat.lt_of_lt_of_le h (Nat.pow_le_pow_right aaI hk)
theorem alS.ay3 (h:alS f g):abw g:=fun k=>asN (h.gg k) (by rw[abZ];omega)
theorem alS.dl (h:alS f g):Dl 2 f:=fun k=>aaE (h.ff k)
theorem alS.bd (h:alS f g):Bd (BB^23) (psq f g)/\Bd (BB^23) (psr f g):=by
 have h1:1<=BB^2:=Nat.pow_pos aaI
 have h2:=aot (f:=f) (g:=g) (M:=BB^2) (B:=BB^2) (n:=10) h1 (fun k=>Nat.le_of_lt (h.gg k)) (fun k=>Nat.le_of_lt (h.ff k)) (by have:=h.lf;omega)
 have e:(2*BB^2)^10*BB^2<=BB^23:=by
  have e1:(2*BB^2)^10*BB^2=1024*BB^22:=by rw[Nat.mul_pow,<- Nat.pow_mul,Nat.mul_assoc,<- Nat.pow_add]
  have e2:BB^23=BB*BB^22:=by rw[Nat.pow_succ,Nat.mul_comm]
  rw[e1,e2]
  exact Nat.mul_le_mul_right _ (by rw[aan];omega)
 exact ⟨h2.1.mono e,h2.2.mono e⟩
theorem Bd.fit {k:Nat} {z:List Int} (h:Bd (BB^k) z) (hk:k<=99999):abw z:=fun j=>by
 refine Nat.lt_of_le_of_lt (h j) ?_
 exact Nat.pow_lt_pow_right (by rw[aan];omega) (by rw[abZ];omega)
theorem alS.ay4 (h:alS f g):abw (psq f g):=h.bd.1.fit (by omega)
theorem alS.lead (h:alS f g) (i:Nat):(aai g^i).natAbs<=BB^(2*i):=by
 rw[Int.natAbs_pow,Nat.pow_mul]
 exact Nat.pow_le_pow_left (Nat.le_of_lt (h.gg _)) i
theorem abw.trim {q:List Int} (h:abw q):abw (aaf q):=fun k=>by rw[aau];exact h k
theorem aii {q g:List Int} (hq:abw q) (hg:abw g) (n:Nat) (hl:q.length+g.length<=n):Bd (n*BB^(FW+FW)) (aag q g):=fun k=>by
 rcases Nat.lt_or_ge k n with h | h
 ·rw[aa5]
  exact Nat.le_trans (ahm hq hg k (k+1)) (Nat.mul_le_mul_right _ (by omega))
 ·have hlen:(aag q g).length<=k:=by
   unfold aag
   split
   ·simp
   ·rw[ab8];omega
  rw[aaF _ hlen];exact Nat.zero_le _
theorem Bd.smp {B k:Nat} {z:List Int} (h:Bd B z) (hB:B<BB^k) (hk:k<=1000000000):SmP z:=fun c hc=>by
 obtain ⟨j,hj⟩:=List.getElem?_of_mem hc
 have e1:z.getD j 0=c:=by rw[List.getD_eq_getElem?_getD,hj];rfl
 rw[<- e1]
 exact adz (Nat.lt_of_le_of_lt (h j) hB) hk
theorem ac5 {n k:Nat} (hn:n<=1000000):n*BB^k<BB^(k+1):=by
 rw[Nat.pow_succ,Nat.mul_comm]
 exact Nat.mul_lt_mul_of_pos_left (by rw[aan];omega) (Nat.pow_pos aaI)
theorem alS.prod (h:alS f g) (hl:(psq f g).length+g.length<=1000000):Bd (1000000*BB^(FW+FW)) (aag (aaf (psq f g)) (aaf g)):=by
 have h1:=aat (psq f g)
 have h2:=aat g
 exact aii h.ay4.trim h.ay3.trim 1000000 (by rw[aae,aae];omega)
theorem alS.sum (h:alS f g) (hl:(psq f g).length+g.length<=1000000) (k:Nat):Sm (((aag (aaf (psq f g)) (aaf g)).getD k 0).natAbs+((psr f g).getD k 0).natAbs):=by
 have h1:=h.prod hl k
 have h2:=h.bd.2 k
 have h3:BB^23<=BB^(FW+FW+1):=Nat.pow_le_pow_right aaI (by rw[abZ];omega)
 have h4:1000000*BB^(FW+FW)<BB^(FW+FW+1):=ac5 (by omega)
 have h5:2*BB^(FW+FW+1)<BB^(FW+FW+2):=ac5 (by omega)
 refine adz (k:=FW+FW+2) ?_ (by rw[abZ];omega)
 omega
end
end Go.Proofs.YtkefcldcfeolbaaGreat
