/- The walks of unidiv.Divides and unidiv.Coprime. -/
import Derived.Test.YtjmglmgokfcgoaaGcx
import Derived.Test.YtjmglmgokfcgoaaPsB
namespace Go.Proofs.Ytjmglmgokfcgoaa
def gokc (m n:Nat):Bool:=(List.range (m+1)).all fun x=>(List.range (n+1)).all fun y=>(decide (1≤y) && decide (y≤x) && !(decide (max 1 (m+n+2-2*x)*(x-y)≤18) && decide ((m+n-2*x)*(x-y-1)≤18))) == false
def gokd (m n:Nat):Bool:=(List.range (n+1)).all fun y=>(List.range (n+1)).all fun z=>(decide (z<y) && !decide ((m+n-2*y)*(y-z)≤18)) == false
theorem gokc_all:((List.range 7).all fun m=>(List.range (m+1)).all fun n=>gokc m n && gokd m n)=true:=by decide +kernel
theorem gok18 {G m n:Nat} (hnm:n≤m) (hm:m≤6) (hG:1≤G) (fit:G^18<BB^FW):GOK G m n 0 18:=by
 have h:=gokc_all
 simp only [List.all_eq_true,List.mem_range,Bool.and_eq_true] at h
 obtain ⟨h1,h2⟩:=h m (by omega) n (by omega)
 unfold gokc at h1
 unfold gokd at h2
 simp only [List.all_eq_true,List.mem_range] at h1 h2
 refine ⟨fit,hG,by omega,fun x hx y hy h3 h4=>?_,fun x hx y hy h3 h4=>?_,fun y hy z hz h3 h4 h5=>?_,by omega⟩
 ·have h5:=h1 x (by omega) y (by omega)
  rw [decide_eq_true (show 1≤y by omega),decide_eq_true h4] at h5
  simp at h5
  exact h5.1
 ·have h5:=h1 x (by omega) y (by omega)
  rw [decide_eq_true (show 1≤y by omega),decide_eq_true h4] at h5
  simp at h5
  exact h5.2
 ·have h6:=h2 y (by omega) z (by omega)
  rw [decide_eq_true h4] at h6
  simpa using h6
def Few7 (f:List Int):Prop:=plen f≤7∧∀ j,(f.getD j 0).natAbs≤18446744073709551616
theorem Few7.fit {f:List Int} (h:Few7 f):FitP f:=fun j=>Nat.lt_of_le_of_lt (h.2 j) (by rw [BB_eq];first | decide +kernel | (rw [FW_eq];decide +kernel))
theorem few7_gc {f g:List Int} (hf:Few7 f) (hg:Few7 g) (f0:plen f≠0) (g0:plen g≠0):GC f g 0 18446744073709551616:=by
 have h1:=hf.1
 have h2:=hg.1
 refine ⟨f0,g0,by omega,by omega,by omega,fun p _ h=>by omega,fun j=>Nat.le_trans (pprim_abs f j) (hf.2 j),fun j=>Nat.le_trans (pprim_abs g j) (hg.2 j),by omega,fun m n hnm _ hm _=>⟨18,gok18 hnm (by omega) (by omega) (by rw [BB_eq];first | decide +kernel | (rw [FW_eq];decide +kernel))⟩,?_⟩
 rw [pconts_two]
 exact Nat.le_trans (gcd_le_r (pcont_ne g0) (pcont_le g0 hg.2)) (by omega)
theorem few7_ga {f g:List Int} (hf:Few7 f) (hg:Few7 g):GAny f g:=by
 by_cases f0:plen f=0
 ·exact .inl f0
 by_cases g0:plen g=0
 ·exact .inr (.inl g0)
 exact .inr (.inr ⟨_,_,few7_gc hf hg f0 g0⟩)
structure DT (d:List Int):Prop where
 t:ptrim d=d
 l:plen d≤7
 b:∀ j,(d.getD j 0).natAbs≤18446744073709551616*(18446744073709551616*32)^12
theorem DT.fit {d:List Int} (h:DT d):FitP d:=fun j=>Nat.lt_of_le_of_lt (h.b j) (by rw [BB_eq];first | decide +kernel | (rw [FW_eq];decide +kernel))
theorem DT.len {d:List Int} (h:DT d):d.length≤7:=by have:=congrArg List.length h.t;rw [ptrim_length] at this;have:=h.l;omega
theorem few7_pos {f:List Int} (h:Few7 f):DT (ppos f):=by
 refine ⟨ppos_trim f,by rw [ppos_plen];exact h.1,fun j=>Nat.le_trans ?_ (show 18446744073709551616≤18446744073709551616*(18446744073709551616*32)^12 by decide +kernel)⟩
 rcases ppos_or f with ⟨h1,_⟩ | ⟨h1,_⟩
 ·rw [h1];exact h.2 j
 ·rw [h1,Int.natAbs_neg];exact h.2 j
theorem gres_dt {f g:List Int} (hf:Few7 f) (hg:Few7 g):DT (gres f g):=by
 unfold gres
 split
 ·exact few7_pos hg
 ·rename_i f0
  split
  ·exact few7_pos hf
  ·rename_i g0
   obtain ⟨h1,_,_,h4,_⟩:=(few7_gc hf hg f0 g0).all
   have hl:plen (gval f g)≤plen f:=dvq_plen h1.l f0
   have h5:=hf.1
   have h6:=hg.1
   refine ⟨h1.trim,by omega,fun j=>?_⟩
   have h0:plen (gval f g)≠0:=h1.ne
   rw [gp_get h0,Int.natAbs_mul,Int.natAbs_mul,Int.natAbs_natCast]
   refine Nat.mul_le_mul ?_ (Nat.le_trans (h4 j) (Nat.pow_le_pow_right (by decide) (by omega)))
   have h7:(sg (plead (gval f g))).natAbs≤1:=by rcases sg_cases (plead (gval f g)) with ⟨_,e⟩ | ⟨_,e⟩ | ⟨_,e⟩<;>rw [e]<;>decide
   have h8:pcont (gval f g)≤18446744073709551616:=by rw [h1.cont];exact gcd_le_r (pcont_ne g0) (pcont_le g0 hg.2)
   exact Nat.le_trans (Nat.mul_le_mul h7 h8) (by omega)
end Go.Proofs.Ytjmglmgokfcgoaa
namespace Go.Proofs.Ytjmglmgokfcgoaa
open Go.RowKit
end Go.Proofs.Ytjmglmgokfcgoaa
