/- The walk of unidiv.Exact where the division leaves nothing. -/
import Derived.Test.YtpeiiomjnjemjaaGreatIdP
import Derived.Test.YtpeiiomjnjemjaaGreatGti
import Derived.Test.YtpeiiomjnjemjaaGreatDer
namespace Go.Proofs.YtpeiiomjnjemjaaGreat
open Go.RowKit
def exRow (fac:Int) (g:List Int) (low:Nat) (z:List Int) (j:Nat):List Int:=(List.range z.length).map fun t=>if low<=t/\t<low+j then z.getD t 0-fac*g.getD (t-low) 0 else z.getD t 0
theorem exRow_length (fac:Int) (g:List Int) (low:Nat) (z:List Int) (j:Nat):(exRow fac g low z j).length=z.length:=by simp[exRow]
theorem exRow_getE (fac:Int) (g:List Int) (low:Nat) (z:List Int) (j:Nat) {t:Nat} (h:t<z.length):(exRow fac g low z j)[t]?=some (if low<=t/\t<low+j then z.getD t 0-fac*g.getD (t-low) 0 else z.getD t 0):=by
 rw[exRow,List.getElem?_map,List.getElem?_range h];rfl
theorem exRow_get (fac:Int) (g:List Int) (low:Nat) (z:List Int) (j:Nat) {t:Nat} (h:t<z.length):(exRow fac g low z j).getD t 0=if low<=t/\t<low+j then z.getD t 0-fac*g.getD (t-low) 0 else z.getD t 0:=by
 rw[List.getD_eq_getElem?_getD,exRow_getE fac g low z j h];rfl
theorem exRow_zero (fac:Int) (g:List Int) (low:Nat) (z:List Int):exRow fac g low z 0=z:=by
 refine List.ext_getElem? fun t=>?_
 rcases Nat.lt_or_ge t z.length with h | h
 ·rw[exRow_getE fac g low z 0 h,if_neg (by omega),List.getD_eq_getElem?_getD,List.getElem?_eq_getElem h];rfl
 ·rw[List.getElem?_eq_none (by rw[exRow_length];exact h),List.getElem?_eq_none h]
theorem exRow_set (fac:Int) (g:List Int) (low:Nat) (z:List Int) {j:Nat} (_hj:low+j<z.length):(exRow fac g low z j).set (low+j) (z.getD (low+j) 0-fac*g.getD j 0)=exRow fac g low z (j+1):=by
 refine List.ext_getElem? fun t=>?_
 rcases Nat.lt_or_ge t z.length with h | h
 ·rw[exRow_getE fac g low z (j+1) h]
  rcases Nat.decEq t (low+j) with hne | heq
  ·rw[List.getElem?_set_ne (by omega),exRow_getE fac g low z j h]
   congr 1
   by_cases h1:low<=t/\t<low+j
   ·rw[if_pos h1,if_pos (by omega)]
   ·rw[if_neg h1,if_neg (by omega)]
  ·subst heq
   rw[List.getElem?_set_self (by rw[exRow_length];exact h),if_pos (by omega),show low+j-low=j by omega]
 ·rw[List.getElem?_eq_none (by rw[List.length_set,exRow_length];exact h),List.getElem?_eq_none (by rw[exRow_length];exact h)]
def exn (lead:Int) (g:List Int) (d m:Nat) (z0:List Int):Nat->List Int×List Int
 | 0=>(List.replicate m 0,z0)
 | t+1 =>
   let s:=exn lead g d m z0 t
   let low:=m-1-t
   let fac:=(s.2.getD (low+d) 0).tdiv lead
   (s.1.set low fac,exRow fac g low s.2 (d+1))
theorem exn_length1 (lead:Int) (g:List Int) (d m:Nat) (z0:List Int) (t:Nat):(exn lead g d m z0 t).1.length=m:=by
 induction t with
 | zero=>simp[exn]
 | succ t ih=>simp only[exn,List.length_set,ih]
theorem exn_length2 (lead:Int) (g:List Int) (d m:Nat) (z0:List Int) (t:Nat):(exn lead g d m z0 t).2.length=z0.length:=by
 induction t with
 | zero=>simp[exn]
 | succ t ih=>simp only[exn,exRow_length,ih]
structure ExOK (D:Nat) (f g:List Int):Prop where
 mok:∀ t,t<plen f-(plen g-1)->∀ j,MulOK (((exn (plead g) g (plen g-1) (plen f-(plen g-1)) (ptrim f) t).2.getD (plen f-(plen g-1)-1-t+(plen g-1)) 0).tdiv (plead g)).natAbs (g.getD j 0).natAbs
 step:∀ t,t<plen f-(plen g-1)->((exn (plead g) g (plen g-1) (plen f-(plen g-1)) (ptrim f) t).2.getD (plen f-(plen g-1)-1-t+(plen g-1)) 0).tmod (plead g)=0
 dl:∀ t,t<=plen f-(plen g-1)->Dl D (exn (plead g) g (plen g-1) (plen f-(plen g-1)) (ptrim f) t).2
 rest:plen (exn (plead g) g (plen g-1) (plen f-(plen g-1)) (ptrim f) (plen f-(plen g-1))).2=0
def pexq (f g:List Int):List Int:=(exn (plead g) g (plen g-1) (plen f-(plen g-1)) (ptrim f) (plen f-(plen g-1))).1
end Go.Proofs.YtpeiiomjnjemjaaGreat
namespace Go.Proofs.YtpeiiomjnjemjaaGreat
def qcs (f g:List Int) (j:Nat):Nat->Int
 | 0=>0
 | m+1=>qcs f g j m+(if m<=j then f.getD m 0*g.getD (j-m) 0 else 0)
theorem qcs_pcs (f g:List Int) (j:Nat):∀ m,m<=j+1->qcs f g j m=pcs f g j m
 | 0,_=>rfl
 | m+1,h=>by rw[qcs,pcs,qcs_pcs f g j m (by omega),if_pos (by omega)]
theorem qcs_high (f g:List Int) (j m:Nat):∀ d,j+1<=m->qcs f g j (m+d)=qcs f g j m
 | 0,_=>rfl
 | d+1,h=>by rw[<- Nat.add_assoc,qcs,qcs_high f g j m d h,if_neg (by omega),Int.add_zero]
theorem qcs_zero (f g:List Int) (j m:Nat) (h:plen f<=m):∀ d,qcs f g j (m+d)=qcs f g j m
 | 0=>rfl
 | d+1=>by rw[<- Nat.add_assoc,qcs,qcs_zero f g j m h d,getD_ge_plen f _ (by omega)];simp
theorem qcs_pc (f g:List Int) (j m:Nat) (hm:plen f<=m):qcs f g j m=pc f g j:=by
 unfold pc
 rw[<- qcs_pcs f g j (j+1) (Nat.le_refl _)]
 by_cases h:m<=j+1
 ·obtain ⟨d,hd⟩:∃ d,j+1=m+d:=⟨j+1-m,by omega⟩
  rw[hd,qcs_zero f g j _ hm]
 ·obtain ⟨d,hd⟩:∃ d,m=j+1+d:=⟨m-(j+1),by omega⟩
  rw[hd,qcs_high f g j _ d (Nat.le_refl _)]
theorem qcs_bd {f g:List Int} {X Y:Nat} (hf:∀ j,(f.getD j 0).natAbs<=X) (hg:∀ j,(g.getD j 0).natAbs<=Y) (j:Nat):∀ m,(qcs f g j m).natAbs<=m*(X*Y)
 | 0=>by simp[qcs]
 | m+1=>by
   rw[qcs]
   have h1:=qcs_bd hf hg j m
   have h2:(if m<=j then f.getD m 0*g.getD (j-m) 0 else 0:Int).natAbs<=X*Y:=by
    split
    ·rw[Int.natAbs_mul];exact Nat.mul_le_mul (hf m) (hg (j-m))
    ·simp
   have h3:=Int.natAbs_add_le (qcs f g j m) (if m<=j then f.getD m 0*g.getD (j-m) 0 else 0)
   rw[Nat.succ_mul]
   omega
section
variable {f g q:List Int} {m d:Nat}
theorem exn_prod (hfq:∀ k,f.getD k 0=pc q g k) (hq:plen q=m) (hgd:plen g=d+1) (hm:1<=m) (hf:plen f=m+d):∀ t,t<=m->(∀ k,k<m+d->(exn (plead g) g d m (ptrim f) t).2.getD k 0=qcs q g k (m-t))/\(∀ j,j<m->(exn (plead g) g d m (ptrim f) t).1.getD j 0=if m-t<=j then q.getD j 0 else 0)
 | 0,_=>by
   refine ⟨fun k hk=>?_,fun j hj=>?_⟩
   ·show (ptrim f).getD k 0=_
    rw[ptrim_getD,hfq,Nat.sub_zero,qcs_pc q g k m (by omega)]
   ·show (List.replicate m (0:Int)).getD j 0=_
    rw[if_neg (by omega)]
    simp[List.getD_eq_getElem?_getD,hj]
 | t+1,ht=>by
   obtain ⟨i1,i2⟩:=exn_prod hfq hq hgd hm hf t (by omega)
   have hld:plead g=g.getD d 0:=by unfold plead;rw[hgd];rfl
   have hl0:g.getD d 0≠0:=plen_lead g d (by omega)
   have l1:=exn_length1 (plead g) g d m (ptrim f) t
   have l2:=exn_length2 (plead g) g d m (ptrim f) t
   rw[ptrim_length,hf] at l2
   obtain ⟨low,hlow⟩:∃ low,m-t=low+1:=⟨m-t-1,by omega⟩
   have hlow2:m-1-t=low:=by omega
   have hlow3:m-(t+1)=low:=by omega
   have hz:(exn (plead g) g d m (ptrim f) t).2.getD (low+d) 0=q.getD low 0*plead g:=by
    rw[i1 _ (by omega),hlow,qcs,if_pos (by omega),show low+d-low=d by omega,hld]
    have:qcs q g (low+d) low=0:=by
     suffices h:∀ i,i<=low->qcs q g (low+d) i=0 from h low (Nat.le_refl _)
     intro i
     induction i with
     | zero=>intro _;rfl
     | succ i ih =>
       intro hi
       rw[qcs,ih (by omega),if_pos (by omega),getD_ge_plen g (low+d-i) (by omega)]
       simp
    rw[this,Int.zero_add]
   have hfac:((exn (plead g) g d m (ptrim f) t).2.getD (low+d) 0).tdiv (plead g)=q.getD low 0:=by
    rw[hz];exact Int.mul_tdiv_cancel _ (by rw[hld];exact hl0)
   refine ⟨fun k hk=>?_,fun j hj=>?_⟩
   ·show (exRow (((exn (plead g) g d m (ptrim f) t).2.getD (m-1-t+d) 0).tdiv (plead g)) g (m-1-t) (exn (plead g) g d m (ptrim f) t).2 (d+1)).getD k 0=_
    rw[hlow2,hfac,exRow_get _ _ _ _ _ (by rw[l2];exact hk),hlow3,i1 k hk,hlow,qcs]
    by_cases h1:low<=k/\k<low+(d+1)
    ·rw[if_pos h1,if_pos h1.1];omega
    ·rw[if_neg h1]
     by_cases h2:low<=k
     ·rw[if_pos h2,getD_ge_plen g (k-low) (by omega),Int.mul_zero,Int.add_zero]
     ·rw[if_neg h2,Int.add_zero]
   ·show ((exn (plead g) g d m (ptrim f) t).1.set (m-1-t) (((exn (plead g) g d m (ptrim f) t).2.getD (m-1-t+d) 0).tdiv (plead g))).getD j 0=_
    rw[hlow2,hfac,hlow3]
    by_cases h1:j=low
    ·subst h1
     rw[if_pos (Nat.le_refl _),List.getD_eq_getElem?_getD,List.getElem?_set_self (by rw[l1];exact hj)];rfl
    ·rw[List.getD_eq_getElem?_getD,List.getElem?_set_ne (Ne.symm h1),<- List.getD_eq_getElem?_getD,i2 j hj,hlow]
     by_cases h2:low+1<=j
     ·rw[if_pos h2,if_pos (by omega)]
     ·rw[if_neg h2,if_neg (by omega)]
theorem exact_prod (hfq:∀ k,f.getD k 0=pc q g k) (tq:ptrim q=q) (q0:plen q≠0) (g0:plen g≠0) (fq:FitP q) (fg:FitP g) (hl:plen q<=1000):ExOK 1000000000 f g/\pexq f g=q:=by
 obtain ⟨m,hm⟩:∃ m,plen q=m:=⟨_,rfl⟩
 obtain ⟨d,hd⟩:∃ d,plen g=d+1:=⟨plen g-1,by omega⟩
 have hpf:plen f=m+d:=by
  have h1:=(plen_mul (f:=q) (g:=g) (by omega) (by omega)).1
  have h2:ptrim f=ptrim (polymul q g):=ptrim_ext fun k=>by rw[hfq,polymul_getD]
  have h3:=congrArg List.length h2
  rw[ptrim_length,ptrim_length,h1] at h3
  omega
 have hmd:plen f-(plen g-1)=m:=by omega
 have hgd:plen g-1=d:=by omega
 have hP:=exn_prod hfq hm hd (by omega) hpf
 have hld:plead g=g.getD d 0:=by unfold plead;rw[hgd]
 have hl0:g.getD d 0≠0:=plen_lead g d (by omega)
 have hz:∀ t,t<m->(exn (plead g) g d m (ptrim f) t).2.getD (m-1-t+d) 0=q.getD (m-1-t) 0*plead g:=fun t ht=>by
  obtain ⟨low,hlow⟩:∃ low,m-t=low+1:=⟨m-t-1,by omega⟩
  have hlow2:m-1-t=low:=by omega
  rw[hlow2,(hP t (by omega)).1 _ (by omega),hlow,qcs,if_pos (by omega),show low+d-low=d by omega,hld]
  have:qcs q g (low+d) low=0:=by
   suffices h:∀ i,i<=low->qcs q g (low+d) i=0 from h low (Nat.le_refl _)
   intro i
   induction i with
   | zero=>intro _;rfl
   | succ i ih =>
     intro hi
     rw[qcs,ih (by omega),if_pos (by omega),getD_ge_plen g (low+d-i) (by omega)]
     simp
  rw[this,Int.zero_add]
 refine ⟨⟨fun t ht j=>?_,fun t ht=>?_,fun t ht k=>?_,?_⟩,?_⟩
 ·rw[hmd] at ht ⊢
  rw[hgd,hz t ht,Int.mul_tdiv_cancel _ (by rw[hld];exact hl0)]
  exact (fq _).mulok _
 ·rw[hmd] at ht ⊢
  rw[hgd,hz t ht]
  exact Int.mul_tmod_left _ _
 ·rw[hmd] at ht ⊢
  rw[hgd]
  by_cases hk:k<m+d
  ·rw[(hP t ht).1 k hk]
   have h1:=qcs_bd (f:=q) (g:=g) (X:=BB^FW) (Y:=BB^FW) (fun j=>Nat.le_of_lt (fq j)) (fun j=>Nat.le_of_lt (fg j)) k (m-t)
   have h2:(qcs q g k (m-t)).natAbs<BB^(FW+FW+1):=by
    have e:BB^(FW+FW+1)=BB*(BB^FW*BB^FW):=by rw[<- Nat.pow_add,<- Nat.pow_succ']
    rw[e]
    have h4:0<BB^FW*BB^FW:=Nat.mul_pos (Nat.pow_pos BB_pos) (Nat.pow_pos BB_pos)
    refine Nat.lt_of_le_of_lt h1 (Nat.mul_lt_mul_of_pos_right ?_ h4)
    rw[BB_eq];omega
   exact Nat.le_trans (dlen_le_of_lt h2) (by rw[FW_eq];omega)
  ·have:=exn_length2 (plead g) g d m (ptrim f) t
   rw[ptrim_length,hpf] at this
   rw[getD_out _ (by omega)]
   exact Nat.le_trans (dlen_le_of_lt (k:=1) (by rw[Nat.pow_one,BB_eq];decide)) (by omega)
 ·rw[hmd,hgd]
  have:plen (exn (plead g) g d m (ptrim f) m).2<=0:=plen_le_of fun k _=>by
   by_cases hk:k<m+d
   ·rw[(hP m (Nat.le_refl _)).1 k hk,Nat.sub_self];rfl
   ·have:=exn_length2 (plead g) g d m (ptrim f) m
    rw[ptrim_length,hpf] at this
    exact getD_out _ (by omega)
  omega
 ·unfold pexq
  rw[hmd,hgd]
  have hl2:=exn_length1 (plead g) g d m (ptrim f) m
  have hql:q.length=m:=by rw[<- tq,ptrim_length];exact hm
  refine List.ext_getElem? fun j=>?_
  by_cases hj:j<m
  ·have h1:=(hP m (Nat.le_refl _)).2 j hj
   rw[if_pos (by omega),List.getD_eq_getElem?_getD,List.getD_eq_getElem?_getD,List.getElem?_eq_getElem (by omega),List.getElem?_eq_getElem (by omega)] at h1
   rw[List.getElem?_eq_getElem (by omega),List.getElem?_eq_getElem (by omega)]
   exact congrArg some h1
  ·rw[List.getElem?_eq_none (by omega),List.getElem?_eq_none (by omega)]
end
end Go.Proofs.YtpeiiomjnjemjaaGreat
namespace Go.Proofs.YtpeiiomjnjemjaaGreat
open Go.RowKit
end Go.Proofs.YtpeiiomjnjemjaaGreat
namespace Go.Proofs.YtpeiiomjnjemjaaGreat
section
variable {f g:List Int} {m d:Nat}
end
end Go.Proofs.YtpeiiomjnjemjaaGreat
namespace Go.Proofs.YtpeiiomjnjemjaaGreat
open Go.RowKit
set_option maxRecDepth 100000 in
set_option maxHeartbeats 8000000 in
theorem exact_any {I J:IntPred} (hI:IK I) (hJ:IK J) (A:Option Addr) (la ca:Nat) (f:List Int) (B:Option Addr) (lb cb:Nat) (g:List Int) (D E2:Nat) (w:World) (hf:PolyP I w A la ca f) (hg:PolyP J w B lb cb g) (hsf:SmP f) (gd:Dl E2 g) (h1:1<=plen g) (hla:la<=1000000) (hlb:lb<=1000000) (hD:D<=1000000000) (hE2:E2<=1000000000) (hok:ExOK D f g) :
  Calls Tryz.prog 68 #[.slice A la ca,.slice B lb cb] w fun e w'=>∃ A1 l1 c1,e=.returned (.tuple #[.slice A1 l1 c1,.int .i64 0])/\PolyN w' A1 l1 c1 (pexq f g)/\Below w.heap.size w w':=by
 obtain ⟨d,hd⟩:∃ d,plen g=d+1:=⟨plen g-1,by omega⟩
 have hd1:plen g-1=d:=by omega
 obtain ⟨N,hN⟩:∃ N,N=plen f:=⟨_,rfl⟩
 obtain ⟨m,hm⟩:∃ m,m=N-d:=⟨_,rfl⟩
 have hNb:N<=1000000:=by have:=plen_le f;have:=hf.length;omega
 have hdb:d<lb:=by have:=plen_le g;have:=hg.length;omega
 have hsg:SmP g:=gd.smp (by omega)
 have hd0:¬ ((d:Int)<0):=by omega
 obtain ⟨L,hL⟩:∃ L,L=plead g:=⟨_,rfl⟩
 have hL0:L≠0:=by rw[hL];exact plead_ne (by omega)
 have hLf:SmI L:=by rw[hL];exact hsg.getD _
 obtain ⟨F,hF⟩:∃ F,F=ptrim f:=⟨_,rfl⟩
 have hFl:F.length=N:=by rw[hF,ptrim_length,hN]
 have ok1:=hok.step
 have ok2:=hok.dl
 have ok3:=hok.rest
 have ok4:=hok.mok
 unfold pexq
 rw[hd1,<- hN,<- hm,<- hL,<- hF] at ok1 ok2 ok3 ok4 ⊢
 obtain ⟨E,hE⟩:∃ E,E=exn L g d m F:=⟨_,rfl⟩
 rw[<- hE] at ok1 ok2 ok3 ok4 ⊢
 have El1:Hid (∀ t,(E t).1.length=m):=Lh (fun t=>by rw[hE];exact exn_length1 _ _ _ _ _ _)
 have El2:Hid (∀ t,(E t).2.length=N):=Lh (fun t=>by rw[hE,exn_length2];exact hFl)
 have E0:Hid (E 0=(List.replicate m 0,F)):=Lh (by rw[hE];rfl)
 have ES:Hid (∀ t,E (t+1)=((E t).1.set (m-1-t) (((E t).2.getD (m-1-t+d) 0).tdiv L),exRow (((E t).2.getD (m-1-t+d) 0).tdiv L) g (m-1-t) (E t).2 (d+1))):=Lh (fun t=>by rw[hE];rfl)
 have Ok1:=Lh ok1
 have Ok2:=Lh ok2
 have Ok3:=Lh ok3
 have Ok4:=Lh ok4
 have HN:=Lh hN
 have Hd:=Lh hd
 have Hm:=Lh hm
 have HL:=Lh hL
 have HF:=Lh hF
 clear hok ok1 ok2 ok3 ok4 hE hF hL
 go_enter Tryz.func68,Tryz.ntmps68
 go_wp2_with fail
 refine (degree_any _ _ _ _ _ (hg.at_ hJ) hsg (by omega)).mono ?_
 rintro e w1 ⟨rfl,hb1⟩
 rw[hd,show (((d+1:Nat):Int)-1)=(d:Int) by omega]
 have hf1:=hf.below hI hb1
 have hg1:=hg.below hJ hb1
 have Hb1:=Lh hb1
 have Hg:=Lh hg
 clear hf hg hb1 hd h1 hd1
 go_wp2_with fail
 refine (lead_any _ _ _ _ _ (hg1.at_ hJ) hsg (by omega)).mono ?_
 rintro e w2 ⟨n2,A2,l2,c2,rfl,h2,hb2⟩
 rw[<- HL.out] at h2
 have hba:Below w2.heap.size w2 (w2.alloc (ibox n2 A2 l2 c2)):=(Below.refl _ _).alloc (Nat.le_refl _) _
 have HX:=Lh (IBox.make h2)
 have hbb:=hb2.trans (hba.mono hb2.size)
 have hf2:=hf1.below hI hbb
 have Hb2:=Lh (Hb1.out.trans (hbb.mono Hb1.out.size))
 have hgl:w.heap.size<=w2.heap.size:=Nat.le_trans Hb1.out.size hb2.size
 have f0:=HX.out.f0
 have f1:=HX.out.f1
 have hlw:w2.heap.size<(w2.alloc (ibox n2 A2 l2 c2)).heap.size:=HX.out.lt
 clear hf1 hg1 hb2 hba hbb Hb1 h2
 go_wp2_with fail
 refine (pnormal_any hI _ _ _ _ _ hf2 hsf (by omega)).mono ?_
 rintro e w3 ⟨gr,rfl,hr3,hgr,hb3⟩
 rw[<- HN.out]
 rw[<- HF.out] at hr3
 have HX3:=Lh (HX.out.move hb3)
 have Hb3:=Lh (Hb2.out.trans (hb3.mono Hb2.out.size))
 have hgw:gr<w3.heap.size:=hr3.lt
 have hg1:w2.heap.size<gr:=Nat.lt_of_lt_of_le hlw hgr
 have Hr3:=Lh hr3
 have hmx:max ((N:Int)-(d:Int)) 0=(m:Int):=by omega
 clear hf2 HX hb3 Hb2 hr3 f0 f1 hgr hlw hN hm
 go_wp2_with (at_make;refine wpList_make_poly _ rfl (.tmp 26) (.tmp 26) rfl m rfl rfl (by omega) ?_)
 intro w4 hz hb4 hsz
 have HX4:=Lh (HX3.out.move hb4)
 have Hr4:=Lh (Hr3.out.below hb4)
 have Hb4:=Lh (Hb3.out.trans (hb4.mono Hb3.out.size))
 have Hq4:=Lh hz
 obtain ⟨gq,hgq⟩:∃ g,g=w3.heap.size:=⟨_,rfl⟩
 rw[<- hgq] at Hq4 hgw ⊢
 have ne1:w2.heap.size≠gr:=by omega
 have ne2:gr≠gq:=by omega
 have ne3:w2.heap.size≠gq:=by omega
 have ne4:gq≠gr:=by omega
 have hqb:w.heap.size<=gq:=by omega
 have hrb:w.heap.size<=gr:=by omega
 clear hz hb4 hsz HX3 Hr3 Hb3 hgq
 have hm1:(m:Int)-1+1=(m:Int):=by omega
 go_wp2
 go_loopw [10] (fun s10 wr=>∃ t:Nat,t<=m/\s10=.int .i64 ((m:Int)-1-(t:Int))/\PRow wr gq (E t).1/\PRow wr gr (E t).2/\IBox wr w2.heap.size n2 A2 l2 c2 L/\Below w.heap.size w wr) (fun s10 _=>(intOf s10+1).toNat)
 case atStart=>exact ⟨0,Nat.zero_le _,by go_num,by rw[E0.out];exact Hq4.out,by rw[E0.out];exact Hr4.out,HX4.out,Hb4.out⟩
 case round =>
  clear Hq4 Hr4 HX4 Hb4
  obtain ⟨t,htm,rfl,hq,hr,hx,hbw⟩:=hrel
  have Hq:=Lh hq
  have Hr:=Lh hr
  have HX:=Lh hx
  have Hbw:=Lh hbw
  by_cases hlt:t<m
  ·obtain ⟨low,hlow⟩:∃ low:Nat,low=m-1-t:=⟨_,rfl⟩
   obtain ⟨ld,hld⟩:∃ ld:Nat,ld=low+d:=⟨_,rfl⟩
   have e0:(m:Int)-1-(t:Int)=(low:Int):=by omega
   rw[e0]
   have i1:(low:Int)+(d:Int)=(ld:Int):=by omega
   have i2:IntKind.i64.wrap (ld:Int)=(ld:Int):=IntWalk.i64_in _ (by omega)
   have i3:ld<N:=by omega
   have i4:low<m:=by omega
   obtain ⟨nr,Ar,lr,cr,r0,r1,zr⟩:=hr.elems ld (by rw[El2.out];exact i3)
   have x0:=hx.c0
   have x1:=hx.c1
   have hE1:=Ok1.out t hlt
   rw[<- hlow,<- hld] at hE1
   have hsz:SmI ((E t).2.getD ld 0):=Nat.le_trans (Ok2.out t htm ld) (by omega)
   have Zr:=Lh zr
   have ZX:=Lh hx.hz
   obtain ⟨fac,hfac⟩:∃ fac,fac=((E t).2.getD ld 0).tdiv L:=⟨_,rfl⟩
   have Hfac:=Lh hfac
   have Hlow:=Lh hlow
   have Hld:=Lh hld
   clear hq hr hx hbw zr hfac hlow hld e0
   go_wp2_with fail
   go_cut [11,12] (fun s11 s12 wx=>s12=.int .i64 0/\∃ g1 n1 A1 l1 c1,s11=.pointer (some ⟨g1,0,none⟩)/\wr.heap.size<=g1/\IBox wx g1 n1 A1 l1 c1 fac/\Below wr.heap.size wr wx)
   case first =>
    have hrlt:=Hr.out.lt
    have hxlt:=HX.out.lt
    have nn1:wr.heap.size≠gr:=by omega
    have nn2:wr.heap.size≠w2.heap.size:=by omega
    go_region_held3 (fun w'=>w'.cell? ⟨gr,ld*2,none⟩=some (.bool nr)/\w'.cell? ⟨gr,ld*2+1,none⟩=some (.slice Ar lr cr)/\w'.cell? ⟨w2.heap.size,0,none⟩=some (.bool n2)/\w'.cell? ⟨w2.heap.size,1,none⟩=some (.slice A2 l2 c2)) (go_keep) (first
     | (go_at_call 86;go_must (refine (iexact_any _ _ _ _ _ _ _ _ _ _ _ ?_ ?_ hsz hLf hL0 hE1).mono ?_;(exact Zr.out.at_.below Bel.go);(exact ZX.out.at_.below Bel.go);rintro e w8 ⟨n8,A8,l8,c8,rfl,h8,hb8⟩;have H8:=Lh h8;have Hb8:Hid (Below wr.heap.size wr w8):=Lh (Below.trans Bel.go (hb8.mono (by simp<;>omega)));have zy:=hb8.size;(try simp only[World.size_alloc,World.size_drew] at zy);have v8:w8.heap.size≠gr:=(by omega);have v9:w8.heap.size≠w2.heap.size:=(by omega);obtain ⟨hcx,hfx⟩:=bcellS hb8;have v0:w8.cell? ⟨gr,ld*2,none⟩=some (.bool nr):=(hcx _ (by go_simp)).trans (by go_simp);have v1:w8.cell? ⟨gr,ld*2+1,none⟩=some (.slice Ar lr cr):=(hcx _ (by go_simp)).trans (by go_simp);have v2:w8.cell? ⟨w2.heap.size,0,none⟩=some (.bool n2):=(hcx _ (by go_simp)).trans (by go_simp);have v3:w8.cell? ⟨w2.heap.size,1,none⟩=some (.slice A2 l2 c2):=(hcx _ (by go_simp)).trans (by go_simp);have v4:=fun (h:World.cell? _ ⟨wr.heap.size,0,none⟩=some (.bool false))=>(hcx _ (by rw[h];rfl)).trans h;have v5:=fun (h:World.cell? _ ⟨wr.heap.size,1,none⟩=some (.slice none 0 0))=>(hcx _ (by rw[h];rfl)).trans h;have v6:=fun (hs:(World.cell? _ ⟨wr.heap.size,0,none⟩).isSome=true) (h:World.frozen? _ ⟨wr.heap.size,0,none⟩=false)=>(hfx _ hs).trans h;have v7:=fun (hs:(World.cell? _ ⟨wr.heap.size,1,none⟩).isSome=true) (h:World.frozen? _ ⟨wr.heap.size,1,none⟩=false)=>(hfx _ hs).trans h;clear h8 hcx hfx hb8)))
    all_goals go_wp2_with fail
    all_goals go_meet
    ·exact ⟨rfl,w8.heap.size,n8,A8,l8,c8,rfl,by omega,by rw[Hfac.out];exact IBox.make H8.out,Hb8.out.alloc (by omega) _⟩
    ·have hz:IBox w8 wr.heap.size false none 0 0 0:=⟨v4 (by go_simp),v5 (by go_simp),v6 (by go_simp) (by go_simp),v7 (by go_simp) (by go_simp),by omega,⟨NatN.zero _ _ _,by simp⟩⟩
     exact ⟨rfl,wr.heap.size,n8,A8,l8,c8,rfl,Nat.le_refl _,by rw[Hfac.out];exact hz.put H8.out,(Hb8.out.setCell (p:=⟨wr.heap.size,0,none⟩) (Nat.le_refl _) _).setCell (p:=⟨wr.heap.size,1,none⟩) (Nat.le_refl _) _⟩
   case rest =>
    obtain ⟨rfl,g1,n1,A1,l1,c1,rfl,hg1',hx1,hb5⟩:=hcut
    have hq5:=Hq.out.below hb5
    have hr5:=Hr.out.below hb5
    have hx5:=HX.out.move hb5
    have hbw5:=Hbw.out.trans (hb5.mono Hbw.out.size)
    have hll:low<(E t).1.length:=by rw[El1.out];exact i4
    obtain ⟨nq,Aq,lq,cq,q0,q1,_⟩:=hq5.elems low hll
    have q2:=hq5.frozen (low*2)
    have q3:=hq5.frozen (low*2+1)
    have y0:=hx1.c0
    have y1:=hx1.c1
    have hqw:=Hq.out.lt
    have hrw:=Hr.out.lt
    have hxw:=HX.out.lt
    have nx1:g1≠gq:=by omega
    have nx2:g1≠gr:=by omega
    have Hq6:=Lh (hq5.set_ hll hx1.hz)
    have Hr6:=Lh (hr5.far2 hq5 hll ne2 (neg:=n1) (A:=A1) (l:=l1) (c:=c1))
    have HX6:=Lh (hx5.row hq5 hll ne3 (.bool n1) (.slice A1 l1 c1))
    have HY6:=Lh (hx1.row hq5 hll nx1 (.bool n1) (.slice A1 l1 c1))
    have Hb6:=Lh ((hbw5.setCell (p:=⟨gq,low*2,none⟩) hqb (.bool n1)).setCell (p:=⟨gq,low*2+1,none⟩) hqb (.slice A1 l1 c1))
    have hfs:dlen fac.natAbs<=D:=by
     rw[Hfac.out,Int.natAbs_tdiv]
     exact Nat.le_trans (dlen_mono (Nat.div_le_self _ _)) (Ok2.out t htm ld)
    have hfsm:SmI fac:=Nat.le_trans hfs (by omega)
    clear hq5 hr5 hx5 hbw5 hx1 hb5 Hq Hr HX Hbw r0 r1 x0 x1 hE1 hsz Zr ZX i1 i2 i3
    go_wp2
    clear q0 q1 q2 q3 y0 y1
    go_loopw [13] (fun s13 wy=>∃ j:Nat,j<=d+1/\s13=.int .i64 (j:Int)/\PRow wy gq ((E t).1.set low fac)/\PRow wy gr (exRow fac g low (E t).2 j)/\IBox wy w2.heap.size n2 A2 l2 c2 L/\IBox wy g1 n1 A1 l1 c1 fac/\Below w.heap.size w wy) (fun s13 _=>d+1-(intOf s13).toNat)
    case atStart=>exact ⟨0,Nat.zero_le _,rfl,Hq6.out,by rw[exRow_zero];exact Hr6.out,HX6.out,HY6.out,Hb6.out⟩
    case round =>
     clear Hq6 Hr6 HX6 HY6 Hb6
     obtain ⟨j,hj,rfl,hq,hr,hx,hy,hbw⟩:=hrel
     have Hq:=Lh hq
     have Hr:=Lh hr
     have HX:=Lh hx
     have HY:=Lh hy
     have Hbw:=Lh hbw
     by_cases hjd:j<=d
     ·obtain ⟨lj,hlj⟩:∃ lj:Nat,lj=low+j:=⟨_,rfl⟩
      have i1:(low:Int)+(j:Int)=(lj:Int):=by omega
      have i2:IntKind.i64.wrap (lj:Int)=(lj:Int):=IntWalk.i64_in _ (by omega)
      have i3:lj<N:=by omega
      have i5:(j:Int)<=(d:Int):=by omega
      have i6:j<lb:=by omega
      have hlr:lj<(exRow fac g low (E t).2 j).length:=by rw[exRow_length,El2.out];exact i3
      obtain ⟨nr,Ar,lr,cr,r0,r1,zr⟩:=hr.elems lj hlr
      rw[exRow_get _ _ _ _ _ (by rw[El2.out];exact i3),if_neg (by omega)] at zr
      obtain ⟨b2,o2,rfl,hb2,hc2⟩:=Hg.out.get (by omega)
      obtain ⟨ng,Ag,lg,cg,g0,g1',zg⟩:=hc2 j i6
      have e2:=(hbw.cell (p:=⟨b2,o2+j*2,none⟩) hb2).trans g0
      have e3:=(hbw.cell (p:=⟨b2,o2+j*2+1,none⟩) hb2).trans g1'
      have Zg:=Lh ((hJ.at_ zg).below hbw)
      have Zr:=Lh zr
      have ZY:=Lh hy.hz
      have y0:=hy.c0
      have y1:=hy.c1
      have fr0:=hr.frozen (lj*2)
      have fr1:=hr.frozen (lj*2+1)
      have hst:=exRow_set fac g low (E t).2 (j:=j) (by rw[El2.out,<- hlj];exact i3)
      rw[<- hlj] at hst
      have Hst:=Lh hst
      have sg:=hsg.getD j
      have mk:MulOK fac.natAbs (g.getD j 0).natAbs:=by have h1:=Ok4.out t hlt j;rw[<- Hlow.out,<- Hld.out,<- Hfac.out] at h1;exact h1
      have hpd:dlen (fac*g.getD j 0).natAbs<=D+E2:=Nat.le_trans (dlen_imul _ _) (by have:=gd j;omega)
      have sp:SmI (fac*g.getD j 0):=Nat.le_trans hpd (by omega)
      have hrd:=Ok2.out t htm lj
      have sr:SmI ((E t).2.getD lj 0):=Nat.le_trans hrd (by omega)
      have ss:Sm (((E t).2.getD lj 0).natAbs+(fac*g.getD j 0).natAbs):=Nat.le_trans (dlen_add_le _ _) (by omega)
      obtain ⟨zv,hzv⟩:∃ zv,zv=(E t).2.getD lj 0:=⟨_,rfl⟩
      obtain ⟨gv,hgv⟩:∃ gv,gv=g.getD j 0:=⟨_,rfl⟩
      rw[<- hzv,<- hgv] at Hst ss
      rw[<- hzv] at Zr sr
      rw[<- hgv] at Zg sg mk sp
      have Hlj:=Lh hlj
      clear hq hr hx hy hbw hb2 hc2 g0 g1' zg zr hst hpd hrd hzv hgv hlj
      go_wp2_with fail
      refine wp_region_last (S:=fun w'=>w'.cell? ⟨gr,lj*2,none⟩=some (.bool nr)/\w'.cell? ⟨gr,lj*2+1,none⟩=some (.slice Ar lr cr)/\w'.cell? ⟨b2,o2+j*2,none⟩=some (.bool ng)/\w'.cell? ⟨b2,o2+j*2+1,none⟩=some (.slice Ag lg cg)/\w'.cell? ⟨g1,0,none⟩=some (.bool n1)/\w'.cell? ⟨g1,1,none⟩=some (.slice A1 l1 c1)) (by kernel_rfl) (by kernel_rfl) (by (try dsimp only);go_keep) (fun hHeld=>?_)
      simp only[List.pop_toArray,List.dropLast]
      (refine tq 0 ?_;simp only[put_lit,List.set])
      (refine tq 1 ?_;simp only[put_lit,List.set])
      (refine tq 2 ?_;simp only[put_lit,List.set])
      (refine tq 3 ?_;simp only[put_lit,List.set])
      (refine tq 4 ?_;simp only[put_lit,List.set])
      (refine tq 5 ?_;simp only[put_lit,List.set])
      (refine tq 6 ?_;simp only[put_lit,List.set])
      (refine tq 7 ?_;simp only[put_lit,List.set])
      (refine tq 8 ?_;simp only[put_lit,List.set])
      (refine tq 9 ?_;simp only[put_lit,List.set])
      (refine tq 10 ?_;simp only[put_lit,List.set])
      (refine tq 11 ?_;simp only[put_lit,List.set])
      (refine tq 12 ?_;simp only[put_lit,List.set])
      (refine tq 13 ?_;simp only[put_lit,List.set])
      (refine tq 14 ?_;simp only[put_lit,List.set])
      refine rdy 15 (fun K hK=>?_);go_simp
      refine (imul_any _ _ _ _ _ _ _ _ _ _ _ ?_ ?_ hfsm sg mk).mono ?_
      ·exact ZY.out.at_.below Bel.go
      ·exact Zg.out.below Bel.go
      rintro e w7 ⟨n8,A8,l8,c8,rfl,h8,hb8⟩
      obtain ⟨hcx,hfx⟩:=bcellS hb8
      have Z8:=Lh (Zr.out.below (Below.trans Bel.go (hb8.mono (by simp<;>omega))))
      have Hq8:=Lh (Hq.out.below (Below.trans Bel.go (hb8.mono (by simp<;>omega))))
      have Hr8:=Lh (Hr.out.below (Below.trans Bel.go (hb8.mono (by simp<;>omega))))
      have HX8:=Lh (HX.out.move (Below.trans Bel.go (hb8.mono (by simp<;>omega))))
      have HY8:=Lh (HY.out.move (Below.trans Bel.go (hb8.mono (by simp<;>omega))))
      have Hb8:=Lh (Hbw.out.trans ((Below.trans Bel.go (hb8.mono (by simp<;>omega))).mono Hbw.out.size))
      refine hK.out _ _ ?_ (fun _=>?_)
      ·((try dsimp only);repeat' apply And.intro)<;>(rw[hcx _ (by go_simp)];go_simp)
      clear hHeld hK K hcx hfx;rename_i hHeld
      refine rdy 16 (fun K hK=>?_);go_simp
      refine (isub_any _ _ _ _ _ _ _ _ _ _ _ ?_ ?_ sr sp ss).mono ?_
      ·exact Z8.out.at_.below Bel.go
      ·exact h8.at_.below Bel.go
      rintro e w9 ⟨n9,A9,l9,c9,rfl,h9,hb9⟩
      obtain ⟨hcx,hfx⟩:=bcellS hb9
      have hq9:=Hq8.out.below (Below.trans Bel.go (hb9.mono (by simp<;>omega)))
      have hr9:=Hr8.out.below (Below.trans Bel.go (hb9.mono (by simp<;>omega)))
      have hx9:=HX8.out.move (Below.trans Bel.go (hb9.mono (by simp<;>omega)))
      have hy9:=HY8.out.move (Below.trans Bel.go (hb9.mono (by simp<;>omega)))
      have Hb9:=Lh (Hb8.out.trans ((Below.trans Bel.go (hb9.mono (by simp<;>omega))).mono Hb8.out.size))
      refine hK.out _ _ ?_ (fun _=>?_)
      ·((try dsimp only);repeat' apply And.intro)<;>(rw[hcx _ (by go_simp)];go_simp)
      clear hHeld hK K hcx hfx;rename_i hHeld
      (refine tq 17 ?_;simp only[put_lit,List.set])
      refine wpAnyH_done (by kernel_rfl) (lastQ_list rfl ?_) _
      obtain ⟨n5,A5,l5,c5,p0,p1,_⟩:=hr9.elems lj hlr
      have p2:=hr9.frozen (lj*2)
      have p3:=hr9.frozen (lj*2+1)
      have hr10:=hr9.set_ hlr h9
      rw[Hst.out] at hr10
      have Hr10:=Lh hr10
      have Hq10:=Lh (hq9.far2 hr9 hlr ne4 (neg:=n9) (A:=A9) (l:=l9) (c:=c9))
      have HX10:=Lh (hx9.row hr9 hlr ne1 (.bool n9) (.slice A9 l9 c9))
      have HY10:=Lh (hy9.row hr9 hlr nx2 (.bool n9) (.slice A9 l9 c9))
      clear hHeld h8 h9 hb8 hb9 hq9 hr9 hx9 hy9 hr10
      go_wp2
      go_roundw
      case rel=>exact ⟨j+1,by omega,by go_num,Hq10.out,Hr10.out,HX10.out,HY10.out,(Hb9.out.setCell (p:=⟨gr,lj*2,none⟩) hrb _).setCell (p:=⟨gr,lj*2+1,none⟩) hrb _⟩
      case measure=>simp[intOf];omega
     ·have hj2:j=d+1:=by omega
      subst hj2
      have i5:¬ ((d:Int)+1<=(d:Int)):=by omega
      have hES:=ES.out t
      rw[<- Hlow.out,<- Hld.out,<- Hfac.out] at hES
      have Hq2:Hid (PRow wr gq (E (t+1)).1):=Lh (by rw[hES];exact hq)
      have Hr2:Hid (PRow wr gr (E (t+1)).2):=Lh (by rw[hES];exact hr)
      clear hES hq hr hx hy hbw
      go_wp2
      go_roundw
      case rel=>exact ⟨t+1,by omega,by have:=Hlow.out;go_num,Hq2.out,Hr2.out,HX.out,Hbw.out⟩
      case measure=>have:=Hlow.out;simp[intOf]<;>omega
  ·have ht2:m=t:=by omega
   subst ht2
   have e1:(m:Int)-1-(m:Int)=-1:=by omega
   rw[e1]
   have hp:=(hr.poly (cap:=N) (by rw[El2.out];exact Nat.le_refl _))
   rw[El2.out] at hp
   have hpq:=(hq.poly (cap:=m) (by rw[El1.out];exact Nat.le_refl _))
   rw[El1.out] at hpq
   have Hpq:=Lh hpq
   have Hp:=Lh hp
   have sE:SmP (E m).2:=(Ok2.out m (Nat.le_refl _)).smp (by omega)
   clear hq hr hx hbw hp hpq e1 Hq Hr HX
   go_wp2_with fail
   refine (degree_any _ _ _ _ _ (Hp.out.at_ ikN) sE (by omega)).mono ?_
   rintro e w7 ⟨rfl,hb7⟩
   rw[Ok3.out,show (((0:Nat):Int)-1)=-1 from rfl]
   have Hpq7:=Lh (Hpq.out.below ikN hb7)
   have Hb7:=Lh (Hbw.out.trans (hb7.mono Hbw.out.size))
   clear hb7 Hp Hpq Hbw
   go_wp2
   refine bodyPost_ret (v:=.tuple #[.slice (some ⟨gq,0,none⟩) m m,.int .i64 0]) (by simp[results,Tryz.results68,go_sem]) rfl ⟨_,_,_,rfl,Hpq7.out,Hb7.out⟩
end Go.Proofs.YtpeiiomjnjemjaaGreat
