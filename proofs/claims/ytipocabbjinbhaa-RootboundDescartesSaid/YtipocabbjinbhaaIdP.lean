/- The identity of the pseudo-division at polynomials: what the law of chapter 9 compares, and how large the numbers are. Plain: no program. -/
import Derived.Test.YtipocabbjinbhaaSft
import Derived.Test.YtipocabbjinbhaaRbH
namespace Go.Proofs.Ytipocabbjinbhaa
open Go.RowKit
def pcs (f g:List Int) (k:Nat):Nat→Int
 | 0=>0
 | m+1=>pcs f g k m+f.getD m 0*g.getD (k-m) 0
def pc (f g:List Int) (k:Nat):Int:=pcs f g k (k+1)
def pmul (f g:List Int):List Int:=(List.range (f.length+g.length-1)).map (pc f g)
theorem pmul_length (f g:List Int):(pmul f g).length=f.length+g.length-1:=by simp [pmul]
theorem pmul_get (f g:List Int) {k:Nat} (h:k<f.length+g.length-1):(pmul f g).getD k 0=pc f g k:=by
 rw [List.getD_eq_getElem?_getD,pmul,List.getElem?_map,List.getElem?_range h];rfl
theorem getD_out (g:List Int) {j:Nat} (h:g.length≤j):g.getD j 0=0:=by
 rw [List.getD_eq_getElem?_getD,List.getElem?_eq_none h];rfl
theorem pcs_low (f g:List Int) (k:Nat):∀ m,m+g.length≤k+1→pcs f g k m=0:=by
 intro m
 induction m with
 | zero=>intro _;rfl
 | succ m ih =>
   intro h
   rw [pcs,ih (by omega),getD_out g (by omega)];simp
theorem pcs_high (f g:List Int) (k:Nat) (a:Nat) (ha:f.length≤a):∀ j,pcs f g k (a+j)=pcs f g k a:=by
 intro j
 induction j with
 | zero=>rfl
 | succ j ih=>rw [← Nat.add_assoc,pcs,ih,getD_out f (by omega)];simp
theorem take_getD' (p:List Int) {n k:Nat} (h:k<n):(p.take n).getD k 0=p.getD k 0:=by simp [List.getD_eq_getElem?_getD,h]
def FitP (p:List Int):Prop:=∀ k,Fit (p.getD k 0)
theorem pcs_bound {f g:List Int} (hf:FitP f) (hg:FitP g) (k:Nat):∀ m,(pcs f g k m).natAbs≤m*BB^(FW+FW):=by
 intro m
 induction m with
 | zero=>simp [pcs]
 | succ m ih =>
   have h1:=(hf m).mul (hg (k-m))
   rw [pcs,Nat.succ_mul]
   omega
def polymul (f g:List Int):List Int:=if f=[]∨g=[] then [] else pmul f g
end Go.Proofs.Ytipocabbjinbhaa
namespace Go.Proofs.Ytipocabbjinbhaa
open Go.RowKit
def psR (lead fac:Int) (g:List Int) (low:Nat) (z:List Int) (j:Nat):Int:=if low≤j then z.getD j 0*lead-fac*g.getD (j-low) 0 else z.getD j 0*lead
def psRow (lead fac:Int) (g:List Int) (low:Nat) (z:List Int) (j:Nat):List Int:=(List.range z.length).map fun t=>if t<j then psR lead fac g low z t else z.getD t 0
theorem psRow_length (lead fac:Int) (g:List Int) (low:Nat) (z:List Int) (j:Nat):(psRow lead fac g low z j).length=z.length:=by simp [psRow]
theorem psRow_getE (lead fac:Int) (g:List Int) (low:Nat) (z:List Int) (j:Nat) {t:Nat} (h:t<z.length):(psRow lead fac g low z j)[t]?=some (if t<j then psR lead fac g low z t else z.getD t 0):=by
 rw [psRow,List.getElem?_map,List.getElem?_range h];rfl
theorem psRow_get (lead fac:Int) (g:List Int) (low:Nat) (z:List Int) (j:Nat) {t:Nat} (h:t<z.length):(psRow lead fac g low z j).getD t 0=if t<j then psR lead fac g low z t else z.getD t 0:=by
 rw [List.getD_eq_getElem?_getD,psRow_getE lead fac g low z j h];rfl
def psQ (lead:Int) (low:Nat) (y:List Int) (j:Nat):List Int:=(List.range y.length).map fun t=>if low<t∧t<j then y.getD t 0*lead else y.getD t 0
theorem psQ_length (lead:Int) (low:Nat) (y:List Int) (j:Nat):(psQ lead low y j).length=y.length:=by simp [psQ]
theorem psQ_getE (lead:Int) (low:Nat) (y:List Int) (j:Nat) {t:Nat} (h:t<y.length):(psQ lead low y j)[t]?=some (if low<t∧t<j then y.getD t 0*lead else y.getD t 0):=by
 rw [psQ,List.getElem?_map,List.getElem?_range h];rfl
theorem psQ_get (lead:Int) (low:Nat) (y:List Int) (j:Nat) {t:Nat} (h:t<y.length):(psQ lead low y j).getD t 0=if low<t∧t<j then y.getD t 0*lead else y.getD t 0:=by
 rw [List.getD_eq_getElem?_getD,psQ_getE lead low y j h];rfl
def psn (lead:Int) (g:List Int) (d m N:Nat) (z0:List Int):Nat→List Int×List Int
 | 0=>(List.replicate m 0,z0)
 | t+1 =>
   let s:=psn lead g d m N z0 t
   let i:=N-1-t
   let fac:=s.2.getD i 0
   ((psQ lead (i-d) s.1 m).set (i-d) fac,psRow lead fac g (i-d) s.2 i)
theorem psn_length1 (lead:Int) (g:List Int) (d m N:Nat) (z0:List Int) (t:Nat):(psn lead g d m N z0 t).1.length=m:=by
 induction t with
 | zero=>simp [psn]
 | succ t ih=>simp only [psn,List.length_set,psQ_length,ih]
theorem psn_length2 (lead:Int) (g:List Int) (d m N:Nat) (z0:List Int) (t:Nat):(psn lead g d m N z0 t).2.length=z0.length:=by
 induction t with
 | zero=>simp [psn]
 | succ t ih=>simp only [psn,psRow_length,ih]
def Dl (D:Nat) (z:List Int):Prop:=∀ k,dlen (z.getD k 0).natAbs≤D
theorem Dl.mono {D E:Nat} {z:List Int} (h:Dl D z) (hE:D≤E):Dl E z:=fun k=>Nat.le_trans (h k) hE
theorem Dl.take {D:Nat} {z:List Int} (h:Dl D z) (n:Nat):Dl D (z.take n):=fun k=>by
 rcases Nat.lt_or_ge k n with h1 | h1
 ·rw [take_getD' z h1];exact h k
 ·rw [List.getD_eq_getElem?_getD,List.getElem?_eq_none (by rw [List.length_take];omega)]
  show dlen 0≤D
  rw [dlen_zero];exact Nat.zero_le _
def psq (f g:List Int):List Int:=if plen f≤plen g-1 then [] else ptrim (psn (plead g) g (plen g-1) (plen f-(plen g-1)) (plen f) (ptrim f) (plen f-(plen g-1))).1
def psr (f g:List Int):List Int:=if plen f≤plen g-1 then ptrim f else ptrim ((psn (plead g) g (plen g-1) (plen f-(plen g-1)) (plen f) (ptrim f) (plen f-(plen g-1))).2.take (plen g-1))
end Go.Proofs.Ytipocabbjinbhaa
namespace Go.Proofs.Ytipocabbjinbhaa
open Go.RowKit
def cv (q g:Nat→Int) (k:Nat):Nat→Int
 | 0=>0
 | m+1=>cv q g k m+q m*g (k-m)
theorem pcs_cv (f g:List Int) (k:Nat):∀ m,pcs f g k m=cv (fun i=>f.getD i 0) (fun i=>g.getD i 0) k m
 | 0=>rfl
 | m+1=>by rw [pcs,cv,pcs_cv f g k m]
theorem cv_congr {q q' g g':Nat→Int} {k:Nat} (hq:∀ i,q i=q' i) (hg:∀ i,g i=g' i) (m:Nat):cv q g k m=cv q' g' k m:=by
 rw [funext hq,funext hg]
theorem cv_step {q q' g:Nat→Int} {k low:Nat} {lead fac:Int} (hq:∀ i,q' i=lead*q i+if i=low then fac else 0):∀ m,cv q' g k m=lead*cv q g k m+if low<m then fac*g (k-low) else 0:=by
 intro m
 induction m with
 | zero=>simp [cv]
 | succ m ih =>
   rw [cv,ih,hq m,cv]
   rcases Nat.lt_trichotomy low m with h | h | h
   ·rw [if_pos h,if_neg (by omega),if_pos (by omega)];grind
   ·subst h;rw [if_neg (by omega),if_pos rfl,if_pos (by omega)];grind
   ·rw [if_neg (by omega),if_neg (by omega),if_neg (by omega)];grind
theorem cv_zero {q g:Nat→Int} (k:Nat) (h:∀ i,q i=0) (m:Nat):cv q g k m=0:=by
 induction m with
 | zero=>rfl
 | succ m ih=>rw [cv,ih,h];simp
theorem psn_id (lead:Int) (g:List Int) (d m N:Nat) (z0:List Int) (hN:N=z0.length) (hm:m=N-d) (hd:d<N) (hl:g.getD d 0=lead):∀ t,t≤m →
  (∀ i,i+t<m→(psn lead g d m N z0 t).1.getD i 0=0) ∧
  ∀ k,lead^t*z0.getD k 0=cv (fun i=>(psn lead g d m N z0 t).1.getD i 0) (fun j=>if j≤d then g.getD j 0 else 0) k (k+1)+(if k+t<N then (psn lead g d m N z0 t).2.getD k 0 else 0):=by
 intro t
 induction t with
 | zero =>
   intro _
   have e0:∀ i,(List.replicate m (0:Int)).getD i 0=0:=fun i=>by
    rcases Nat.lt_or_ge i m with h | h
    ·simp [List.getD_eq_getElem?_getD,h]
    ·exact getD_out _ (by simpa using h)
   refine ⟨fun i _=>by simpa [psn] using e0 i,fun k=>?_⟩
   rw [cv_zero k (fun i=>by simpa [psn] using e0 i)]
   simp only [psn,Int.pow_zero,Int.one_mul,Nat.add_zero,Int.zero_add]
   by_cases h:k<N
   ·rw [if_pos h]
   ·rw [if_neg h,getD_out _ (by omega)]
 | succ t ih =>
   intro ht
   obtain ⟨iha,ihb⟩:=ih (by omega)
   have l1:=psn_length1 lead g d m N z0 t
   have l2:=psn_length2 lead g d m N z0 t
   obtain ⟨low,hlow⟩:∃ low,low=N-1-t-d:=⟨_,rfl⟩
   have eq1:(psn lead g d m N z0 (t+1)).1=(psQ lead low (psn lead g d m N z0 t).1 m).set low ((psn lead g d m N z0 t).2.getD (N-1-t) 0):=by rw [hlow];rfl
   have eq2:(psn lead g d m N z0 (t+1)).2=psRow lead ((psn lead g d m N z0 t).2.getD (N-1-t) 0) g low (psn lead g d m N z0 t).2 (N-1-t):=by rw [hlow];rfl
   obtain ⟨fac,hfac⟩:∃ fac,fac=(psn lead g d m N z0 t).2.getD (N-1-t) 0:=⟨_,rfl⟩
   rw [eq1,eq2,← hfac]
   generalize psn lead g d m N z0 t=S at *
   have g1:∀ i,((psQ lead low S.1 m).set low fac).getD i 0=lead*S.1.getD i 0+if i=low then fac else 0:=fun i=>by
    by_cases hi:i=low
    ·subst hi
     rw [List.getD_eq_getElem?_getD,List.getElem?_set_self (by rw [psQ_length];omega),if_pos rfl,iha i (by omega)]
     simp
    ·rw [List.getD_eq_getElem?_getD,List.getElem?_set_ne (fun h=>hi h.symm),← List.getD_eq_getElem?_getD,if_neg hi,Int.add_zero]
     rcases Nat.lt_or_ge i m with h | h
     ·rw [psQ_get lead low S.1 m (by omega)]
      by_cases h2:low<i∧i<m
      ·rw [if_pos h2,Int.mul_comm]
      ·rw [if_neg h2,iha i (by omega)];simp
     ·rw [getD_out _ (by rw [psQ_length];omega),getD_out S.1 (by omega)];simp
   refine ⟨fun i hi=>?_,fun k=>?_⟩
   ·rw [g1,iha i (by omega),if_neg (by omega)];simp
   ·rw [cv_step (fun i=>g1 i),Int.pow_succ,Int.mul_comm (lead^t) lead,Int.mul_assoc,ihb k,Int.mul_add]
    rcases Nat.lt_trichotomy k (N-1-t) with h | h | h
    ·rw [if_pos (show k+t<N by omega),if_pos (show k+(t+1)<N by omega),psRow_get lead fac g low S.2 _ (by omega),if_pos h]
     unfold psR
     by_cases h2:low≤k
     ·rw [if_pos (by omega),if_pos h2,if_pos (by omega)];grind
     ·rw [if_neg (by omega),if_neg h2];grind
    ·rw [if_pos (show k+t<N by omega),if_neg (show ¬ k+(t+1)<N by omega),if_pos (by omega),if_pos (by omega),show k-low=d by omega,hl,h,← hfac];grind
    ·rw [if_neg (show ¬ k+t<N by omega),if_neg (show ¬ k+(t+1)<N by omega),if_pos (by omega),if_neg (by omega)];grind
theorem ptrim_getD (p:List Int) (k:Nat):(ptrim p).getD k 0=p.getD k 0:=by
 rcases Nat.lt_or_ge k (plen p) with h | h
 ·rw [ptrim,take_getD' p h]
 ·rw [getD_out _ (by rw [ptrim_length];exact h),getD_ge_plen p _ h]
theorem ps_id (f g:List Int) (h1:1≤plen g) (k:Nat):plead g^(plen f-(plen g-1))*f.getD k 0=pc (psq f g) (ptrim g) k+(psr f g).getD k 0:=by
 unfold pc
 rw [pcs_cv]
 by_cases h:plen f≤plen g-1
 ·rw [show plen f-(plen g-1)=0 by omega,psq,if_pos h,psr,if_pos h,cv_zero k (fun i=>by simp),ptrim_getD]
  simp
 ·obtain ⟨-,hb⟩:=psn_id (plead g) g (plen g-1) (plen f-(plen g-1)) (plen f) (ptrim f) (ptrim_length f).symm rfl (by omega) rfl (plen f-(plen g-1)) (Nat.le_refl _)
  have:=hb k
  rw [ptrim_getD] at this
  rw [this,psq,if_neg h,psr,if_neg h,ptrim_getD]
  congr 1
  ·refine cv_congr (fun i=>(ptrim_getD _ i).symm) (fun j=>?_) _
   rw [ptrim_getD]
   by_cases hj:j≤plen g-1
   ·show (if j≤plen g-1 then g.getD j 0 else 0)=_
    rw [if_pos hj]
   ·show (if j≤plen g-1 then g.getD j 0 else 0)=_
    rw [if_neg hj,getD_ge_plen g j (by omega)]
  ·by_cases hk:k<plen g-1
   ·rw [if_pos (by omega),take_getD' _ hk]
   ·rw [if_neg (by omega),getD_out _ (by rw [List.length_take];omega)]
theorem psr_plen (f g:List Int) (h1:1≤plen g):plen (psr f g)<plen g:=by
 unfold psr
 split
 ·rw [plen_ptrim];omega
 ·rw [plen_ptrim]
  have:=plen_le ((psn (plead g) g (plen g-1) (plen f-(plen g-1)) (plen f) (ptrim f) (plen f-(plen g-1))).2.take (plen g-1))
  rw [List.length_take] at this
  omega
def Bd (B:Nat) (z:List Int):Prop:=∀ k,(z.getD k 0).natAbs≤B
theorem Bd.mono {B C:Nat} {z:List Int} (h:Bd B z) (hC:B≤C):Bd C z:=fun k=>Nat.le_trans (h k) hC
theorem Bd.ptrim {B:Nat} {z:List Int} (h:Bd B z):Bd B (ptrim z):=fun k=>by rw [ptrim_getD];exact h k
theorem Bd.take {B:Nat} {z:List Int} (h:Bd B z) (n:Nat):Bd B (z.take n):=fun k=>by
 rcases Nat.lt_or_ge k n with h1 | h1
 ·rw [take_getD' z h1];exact h k
 ·rw [getD_out _ (by rw [List.length_take];omega)];exact Nat.zero_le _
theorem Bd.set_ {B:Nat} {z:List Int} (h:Bd B z) (i:Nat) {x:Int} (hx:x.natAbs≤B):Bd B (z.set i x):=fun k=>by
 rw [List.getD_eq_getElem?_getD]
 rcases Nat.decEq k i with hne | heq
 ·rw [List.getElem?_set_ne (by omega),← List.getD_eq_getElem?_getD];exact h k
 ·subst heq
  rcases Nat.lt_or_ge k z.length with h1 | h1
  ·rw [List.getElem?_set_self h1];exact hx
  ·rw [List.getElem?_eq_none (by rw [List.length_set];exact h1)];exact Nat.zero_le _
theorem psR_bd {lead fac:Int} {g z:List Int} {low B M:Nat} (hl:lead.natAbs≤M) (hf:fac.natAbs≤B) (hg:Bd M g) (hz:Bd B z) (j:Nat):(psR lead fac g low z j).natAbs≤2*M*B:=by
 have h1:(z.getD j 0*lead).natAbs≤B*M:=by rw [Int.natAbs_mul];exact Nat.mul_le_mul (hz j) hl
 have h2:∀ i,(fac*g.getD i 0).natAbs≤B*M:=fun i=>by rw [Int.natAbs_mul];exact Nat.mul_le_mul hf (hg i)
 have e:2*M*B=B*M+B*M:=by grind
 unfold psR
 split
 ·have:=h2 (j-low);omega
 ·omega
theorem psn_bd {lead:Int} {g z0:List Int} {d m N M B:Nat} (h1:1≤M) (hl:lead.natAbs≤M) (hg:Bd M g) (hz:Bd B z0) (t:Nat):Bd ((2*M)^t*B) (psn lead g d m N z0 t).1∧Bd ((2*M)^t*B) (psn lead g d m N z0 t).2:=by
 induction t with
 | zero =>
   refine ⟨fun k=>?_,by simpa [psn] using hz⟩
   rcases Nat.lt_or_ge k m with h | h
   ·simp [psn,List.getD_eq_getElem?_getD,h]
   ·rw [getD_out _ (by simpa [psn] using h)];exact Nat.zero_le _
 | succ t ih =>
   obtain ⟨ha,hb⟩:=ih
   have e:(2*M)^(t+1)*B=2*M*((2*M)^t*B):=by rw [Nat.pow_succ];grind
   have le:(2*M)^t*B≤(2*M)^(t+1)*B:=by rw [e];exact Nat.le_mul_of_pos_left _ (by omega)
   simp only [psn]
   refine ⟨Bd.set_ (fun k=>?_) _ (Nat.le_trans (hb _) le),fun k=>?_⟩
   ·rcases Nat.lt_or_ge k (psn lead g d m N z0 t).1.length with h | h
    ·rw [psQ_get _ _ _ _ h]
     split
     ·rw [Int.natAbs_mul,e]
      have:=Nat.mul_le_mul (ha k) hl
      refine Nat.le_trans this ?_
      rw [Nat.mul_comm]
      exact Nat.mul_le_mul_right _ (by omega)
     ·exact Nat.le_trans (ha k) le
    ·rw [getD_out _ (by rw [psQ_length];exact h)];exact Nat.zero_le _
   ·rcases Nat.lt_or_ge k (psn lead g d m N z0 t).2.length with h | h
    ·rw [psRow_get _ _ _ _ _ _ h]
     split
     ·rw [e];exact psR_bd hl (hb _) hg hb k
     ·exact Nat.le_trans (hb k) le
    ·rw [getD_out _ (by rw [psRow_length];exact h)];exact Nat.zero_le _
theorem psqr_bd {f g:List Int} {M B n:Nat} (h1:1≤M) (hg:Bd M g) (hf:Bd B f) (hn:plen f-(plen g-1)≤n):Bd ((2*M)^n*B) (psq f g)∧Bd ((2*M)^n*B) (psr f g):=by
 have h2:=psn_bd (d:=plen g-1) (m:=plen f-(plen g-1)) (N:=plen f) h1 (hg (plen g-1)) hg hf.ptrim (plen f-(plen g-1))
 have hle:(2*M)^(plen f-(plen g-1))*B≤(2*M)^n*B:=Nat.mul_le_mul_right _ (Nat.pow_le_pow_right (by omega) hn)
 have hB:B≤(2*M)^n*B:=Nat.le_mul_of_pos_left _ (Nat.pow_pos (by omega))
 constructor
 ·unfold psq;split
  ·intro k;simp
  ·exact (h2.1.mono hle).ptrim
 ·unfold psr;split
  ·exact (hf.mono hB).ptrim
  ·exact ((h2.2.mono hle).take _).ptrim
end Go.Proofs.Ytipocabbjinbhaa
namespace Go.Proofs.Ytipocabbjinbhaa
open Go.RowKit
def padd (f g:List Int):List Int:=(List.range (max f.length g.length)).map fun k=>f.getD k 0+g.getD k 0
theorem padd_length (f g:List Int):(padd f g).length=max f.length g.length:=by simp [padd]
theorem padd_get (f g:List Int) (k:Nat):(padd f g).getD k 0=f.getD k 0+g.getD k 0:=by
 rcases Nat.lt_or_ge k (max f.length g.length) with h | h
 ·rw [List.getD_eq_getElem?_getD,padd,List.getElem?_map,List.getElem?_range h];rfl
 ·rw [getD_out _ (by rw [padd_length];exact h),getD_out f (by omega),getD_out g (by omega)];rfl
structure ABox (W:World) (g:Nat) (n:Bool) (A:Option Addr) (l c:Nat) (z:Int):Prop where
 c0:W.cell? ⟨g,0,none⟩=some (.bool n)
 c1:W.cell? ⟨g,1,none⟩=some (.slice A l c)
 f0:W.frozen? ⟨g,0,none⟩=false
 f1:W.frozen? ⟨g,1,none⟩=false
 lt:g<W.heap.size
 hz:IntAt W n A l c z
section
variable {W W':World} {g g':Nat} {n n':Bool} {A A':Option Addr} {l c l' c':Nat} {z z':Int}
theorem ABox.move (h:ABox W g n A l c z) (hb:Below W.heap.size W W'):ABox W' g n A l c z:=by
 obtain ⟨hc,hf⟩:=bcell hb
 exact ⟨(hc _ _ h.lt).trans h.c0,(hc _ _ h.lt).trans h.c1,(hf _ _ h.lt).trans h.f0,(hf _ _ h.lt).trans h.f1,Nat.lt_of_lt_of_le h.lt hb.size,h.hz.below hb⟩
theorem ABox.of (h:IBox W g n A l c z):ABox W g n A l c z:=⟨h.c0,h.c1,h.f0,h.f1,h.lt,h.hz.at_⟩
theorem ABox.two (h:ABox W g n A l c z) (hz:IntAt W n' A' l' c' z') (u:Bool) (B:Option Addr) (lb cb:Nat):IntAt (put2 W g u B lb cb) n' A' l' c' z':=by
 have k0:=h.c0
 have k1:=h.c1
 have k1':(W.setCell ⟨g,0,none⟩ (.bool u)).cell? ⟨g,1,none⟩=some (.slice A l c):=by go_simp
 exact (hz.store _ k0 (noDigit_bool _)).store _ k1' (noDigit_slice _ _ _)
theorem ABox.put (h:ABox W g n A l c z) (hz:IntAt W n' A' l' c' z'):ABox (put2 W g n' A' l' c') g n' A' l' c' z':=by
 have k0:=h.c0
 have k1:=h.c1
 have f0:=h.f0
 have f1:=h.f1
 exact ⟨by go_simp,by go_simp,by go_simp,by go_simp,by simpa [World.setCell] using h.lt,h.two hz _ _ _ _⟩
theorem ABox.far (h:ABox W g n A l c z) (h':ABox W g' n' A' l' c' z') (hg:g≠g') (u:Bool) (B:Option Addr) (lb cb:Nat):ABox (put2 W g' u B lb cb) g n A l c z:=by
 have k0:=h.c0
 have k1:=h.c1
 have f0:=h.f0
 have f1:=h.f1
 have j0:=h'.c0
 have j1:=h'.c1
 exact ⟨by go_simp,by go_simp,by go_simp,by go_simp,by simpa [World.setCell] using h.lt,h'.two h.hz _ _ _ _⟩
end
end Go.Proofs.Ytipocabbjinbhaa
namespace Go.Proofs.Ytipocabbjinbhaa
open Go.RowKit
def psc (c:Int) (p:List Int):List Int:=p.map (c*·)
theorem psc_get (c:Int) (p:List Int) (k:Nat):(psc c p).getD k 0=c*p.getD k 0:=by
 unfold psc
 rw [List.getD_eq_getElem?_getD,List.getElem?_map,List.getD_eq_getElem?_getD]
 cases p[k]? with
 | none=>simp
 | some x=>rfl
end Go.Proofs.Ytipocabbjinbhaa
namespace Go.Proofs.Ytipocabbjinbhaa
open Go.RowKit
theorem eq_of_getD' {p q:List Int} (hl:p.length=q.length) (h:∀ k,k<p.length→p.getD k 0=q.getD k 0):p=q:=by
 refine List.ext_getElem? fun k=>?_
 rcases Nat.lt_or_ge k p.length with h1 | h1
 ·have h2:=h k h1
  rw [List.getD_eq_getElem?_getD,List.getD_eq_getElem?_getD,List.getElem?_eq_getElem h1,List.getElem?_eq_getElem (by omega)] at h2
  rw [List.getElem?_eq_getElem h1,List.getElem?_eq_getElem (by omega)]
  simpa using h2
 ·rw [List.getElem?_eq_none h1,List.getElem?_eq_none (by omega)]
theorem plen_le_of {p:List Int} {n:Nat} (h:∀ k,n≤k→p.getD k 0=0):plen p≤n:=by
 rcases Nat.lt_or_ge n (plen p) with h1 | h1
 ·exact absurd (h (plen p-1) (by omega)) (plen_lead p (plen p-1) (by omega))
 ·exact h1
theorem ptrim_ext {p q:List Int} (h:∀ k,p.getD k 0=q.getD k 0):ptrim p=ptrim q:=by
 have h1:plen p≤plen q:=plen_le_of fun k hk=>by rw [h];exact getD_ge_plen q k hk
 have h2:plen q≤plen p:=plen_le_of fun k hk=>by rw [← h];exact getD_ge_plen p k hk
 exact eq_of_getD' (by rw [ptrim_length,ptrim_length];omega) fun k _=>by rw [ptrim_getD,ptrim_getD];exact h k
theorem polymul_getD (f g:List Int) (k:Nat):(polymul f g).getD k 0=pc f g k:=by
 have hz:∀ {f g:List Int},f=[]∨g=[]→pc f g k=0:=fun {f g} h=>by
  unfold pc
  rcases h with rfl | rfl
  ·rw [pcs_cv];exact cv_zero k (fun i=>by simp) _
  ·exact pcs_low f [] k (k+1) (by simp)
 unfold polymul
 by_cases h:f=[]∨g=[]
 ·rw [if_pos h,hz h];simp
 ·rw [if_neg h]
  have hf:0<f.length:=by rcases f with _ | ⟨a,t⟩;exact absurd (.inl rfl) h;simp
  have hg:0<g.length:=by rcases g with _ | ⟨a,t⟩;exact absurd (.inr rfl) h;simp
  rcases Nat.lt_or_ge k (f.length+g.length-1) with h1 | h1
  ·exact pmul_get f g h1
  ·rw [getD_out _ (by rw [pmul_length];exact h1)]
   have e:=pcs_high f g k f.length (Nat.le_refl _) (k+1-f.length)
   rw [show f.length+(k+1-f.length)=k+1 by omega] at e
   unfold pc
   rw [e]
   exact (pcs_low f g k f.length (by omega)).symm
structure IdOK (f g:List Int):Prop where
 ff:∀ k,(f.getD k 0).natAbs<BB^2
 gg:∀ k,(g.getD k 0).natAbs<BB^2
 one:1≤plen g
 lf:plen f≤10
section
variable {f g:List Int}
theorem pow_fit {z:Int} {k:Nat} (h:z.natAbs<BB^k) (hk:k≤FW):Fit z:=Nat.lt_of_lt_of_le h (Nat.pow_le_pow_right BB_pos hk)
theorem IdOK.fitg (h:IdOK f g):FitP g:=fun k=>pow_fit (h.gg k) (by rw [FW_eq];omega)
theorem IdOK.dl (h:IdOK f g):Dl 2 f:=fun k=>dlen_le_of_lt (h.ff k)
theorem IdOK.bd (h:IdOK f g):Bd (BB^23) (psq f g)∧Bd (BB^23) (psr f g):=by
 have h1:1≤BB^2:=Nat.pow_pos BB_pos
 have h2:=psqr_bd (f:=f) (g:=g) (M:=BB^2) (B:=BB^2) (n:=10) h1 (fun k=>Nat.le_of_lt (h.gg k)) (fun k=>Nat.le_of_lt (h.ff k)) (by have:=h.lf;omega)
 have e:(2*BB^2)^10*BB^2≤BB^23:=by
  have e1:(2*BB^2)^10*BB^2=1024*BB^22:=by rw [Nat.mul_pow,← Nat.pow_mul,Nat.mul_assoc,← Nat.pow_add]
  have e2:BB^23=BB*BB^22:=by rw [Nat.pow_succ,Nat.mul_comm]
  rw [e1,e2]
  exact Nat.mul_le_mul_right _ (by rw [BB_eq];omega)
 exact ⟨h2.1.mono e,h2.2.mono e⟩
theorem Bd.fit {k:Nat} {z:List Int} (h:Bd (BB^k) z) (hk:k≤99999):FitP z:=fun j=>by
 refine Nat.lt_of_le_of_lt (h j) ?_
 exact Nat.pow_lt_pow_right (by rw [BB_eq];omega) (by rw [FW_eq];omega)
theorem IdOK.fitq (h:IdOK f g):FitP (psq f g):=h.bd.1.fit (by omega)
theorem FitP.trim {q:List Int} (h:FitP q):FitP (ptrim q):=fun k=>by rw [ptrim_getD];exact h k
theorem polymul_bd {q g:List Int} (hq:FitP q) (hg:FitP g) (n:Nat) (hl:q.length+g.length≤n):Bd (n*BB^(FW+FW)) (polymul q g):=fun k=>by
 rcases Nat.lt_or_ge k n with h | h
 ·rw [polymul_getD]
  exact Nat.le_trans (pcs_bound hq hg k (k+1)) (Nat.mul_le_mul_right _ (by omega))
 ·have hlen:(polymul q g).length≤k:=by
   unfold polymul
   split
   ·simp
   ·rw [pmul_length];omega
  rw [getD_out _ hlen];exact Nat.zero_le _
theorem mulpow_lt {n k:Nat} (hn:n≤1000000):n*BB^k<BB^(k+1):=by
 rw [Nat.pow_succ,Nat.mul_comm]
 exact Nat.mul_lt_mul_of_pos_left (by rw [BB_eq];omega) (Nat.pow_pos BB_pos)
theorem IdOK.prod (h:IdOK f g) (hl:(psq f g).length+g.length≤1000000):Bd (1000000*BB^(FW+FW)) (polymul (ptrim (psq f g)) (ptrim g)):=by
 have h1:=plen_le (psq f g)
 have h2:=plen_le g
 exact polymul_bd h.fitq.trim h.fitg.trim 1000000 (by rw [ptrim_length,ptrim_length];omega)
theorem IdOK.sum (h:IdOK f g) (hl:(psq f g).length+g.length≤1000000) (k:Nat):Sm (((polymul (ptrim (psq f g)) (ptrim g)).getD k 0).natAbs+((psr f g).getD k 0).natAbs):=by
 have h1:=h.prod hl k
 have h2:=h.bd.2 k
 have h3:BB^23≤BB^(FW+FW+1):=Nat.pow_le_pow_right BB_pos (by rw [FW_eq];omega)
 have h4:1000000*BB^(FW+FW)<BB^(FW+FW+1):=mulpow_lt (by omega)
 have h5:2*BB^(FW+FW+1)<BB^(FW+FW+2):=mulpow_lt (by omega)
 refine sm_pow (k:=FW+FW+2) ?_ (by rw [FW_eq];omega)
 omega
end
end Go.Proofs.Ytipocabbjinbhaa
