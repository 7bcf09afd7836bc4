/- The walks of the reference for layer 14: abs, Cauchy, Log, Reversed. -/
import Derived.Test.YtjmglmgokfcgoaaIrow
namespace Go.Proofs.Ytjmglmgokfcgoaa
open Go.RowKit
def cst (p:List Int) (L:Nat):Nat→Nat
 | 0=>0
 | k+1=>max (cst p L k) (((p.getD k 0).natAbs+L-1) / L)
theorem cst_hst (p:List Int) {L:Nat} (hL:0<L) (k:Nat):cst p L k=(hst p k+L-1) / L:=by
 induction k with
 | zero =>
   show 0=(0+L-1) / L
   rw [Nat.div_eq_of_lt (by omega)]
 | succ k ih =>
   rw [cst,ih,hst]
   split
   ·rename_i h
    exact Nat.max_eq_right (Nat.div_le_div_right (by omega))
   ·rename_i h
    exact Nat.max_eq_left (Nat.div_le_div_right (by omega))
theorem cst_le (p:List Int) {L m:Nat} (hL:0<L) (hp:Tiny m p) (k:Nat):cst p L k≤m+L:=by
 induction k with
 | zero=>exact Nat.zero_le _
 | succ k ih =>
   have h1:=hp k
   have h2:=Nat.div_le_self ((p.getD k 0).natAbs+L-1) L
   rw [cst]
   omega
theorem flq_ceil (H:Nat) {L:Nat} (hL:0<L):1-flq (-(H:Int)) (L:Int)=1+((H+L-1) / L:Nat):=by
 have h1:(-(H:Int)).tdiv (L:Int)=-((H / L:Nat):Int):=by rw [Int.neg_tdiv];rfl
 have h2:(-(H:Int)).tmod (L:Int)=-((H % L:Nat):Int):=by rw [Int.neg_tmod];rfl
 have hs:sg (L:Int)=1:=sg_pos (by omega)
 have hd:=Nat.div_add_mod H L
 unfold flq
 rw [h1,h2,hs]
 by_cases h0:H % L=0
 ·rw [h0]
  have e:(H+L-1) / L=H / L:=by
   have h3:H+L-1=L*(H / L)+(L-1):=by omega
   have h4:(L-1) / L=0:=Nat.div_eq_of_lt (by omega)
   rw [h3,Nat.mul_add_div hL,h4];rfl
  rw [e,if_neg (by decide)]
  omega
 ·have hm:=Nat.mod_lt H hL
  have e:(H+L-1) / L=H / L+1:=by
   have h3:H+L-1=L*(H / L+1)+(H % L-1):=by rw [Nat.mul_add];omega
   have h4:(H % L-1) / L=0:=Nat.div_eq_of_lt (by omega)
   rw [h3,Nat.mul_add_div hL,h4]
  rw [e,sg_neg (by omega),if_pos (by decide)]
  have h5:(1:Int)-(-((H / L:Nat):Int)-1)=1+((H / L+1:Nat):Int):=by omega
  exact h5
def rcau (p:List Int):Nat:=if plen p<2 then 0 else 1+cst p (plead p).natAbs (plen p-1)
theorem hst_trim (p:List Int):hst (ptrim p) (plen p-1)=hst p (plen p-1):=by rw [ptrim];exact hst_take _ _ _ (by omega)
theorem plead_ptrim (p:List Int):plead (ptrim p)=plead p:=by
 unfold plead
 rw [plen_ptrim]
 by_cases h:plen p=0
 ·have h1:ptrim p=[]:=List.eq_nil_of_length_eq_zero (by rw [ptrim_length,h])
  rw [h1,h]
  have:=getD_ge_plen p 0 (by omega)
  rw [show (0:Nat)-1=0 from rfl,this];rfl
 ·rw [ptrim,take_getD p (by omega)]
theorem cau_rcau (p:List Int):cau p=(rcau p:Nat):=by
 unfold cau rcau
 by_cases h:plen p<2
 ·rw [if_pos h,if_pos h];rfl
 ·rw [if_neg h,if_neg h]
  have hne:plead p≠0:=plead_ne (by omega)
  rw [hst_trim,plead_ptrim,flq_ceil _ (by omega),cst_hst p (by omega)]
  omega
end Go.Proofs.Ytjmglmgokfcgoaa
