/- The reference cylinderref11: Mul and Normal, plain. No program. -/
import Derived.Test.YtjmglmgokfcgoaaGreatGti
import Derived.Test.YtjmglmgokfcgoaaGreatTab
namespace Go.Proofs.YtjmglmgokfcgoaaGreat
open Go.RowKit
theorem pc_pt (f g:List Int) (k:Nat):pc (ptrim f) (ptrim g) k=pc f g k:=by
 unfold pc
 rw [pcs_cv,pcs_cv]
 exact cv_congr (fun i=>ptrim_getD f i) (fun i=>ptrim_getD g i) _
def rmul (f g:List Int):List Int:=ptrim (polymul (ptrim f) (ptrim g))
theorem rmul_get (f g:List Int) (k:Nat):(rmul f g).getD k 0=pc f g k:=by
 unfold rmul
 rw [ptrim_getD,polymul_getD,pc_pt]
theorem ev_rmul (f g:List Int) (x:Int):ev (rmul f g) x=ev f x*ev g x:=by
 unfold rmul
 rw [ev_trim,ev_mul,ev_trim,ev_trim]
theorem rmul_trim (f g:List Int):ptrim (rmul f g)=rmul f g:=by unfold rmul;rw [ptrim_ptrim]
theorem rmul_len {f g:List Int} {a b:Nat} (hf:plen f≤a+1) (hg:plen g≤b+1):(rmul f g).length≤a+b+1:=by
 unfold rmul
 rw [ptrim_length]
 refine plen_le_of fun k hk=>?_
 rw [polymul_getD,pc_pt]
 exact pc_above (a:=a) (b:=b) (fun i hi=>getD_ge_plen f i (by omega)) (fun i hi=>getD_ge_plen g i (by omega)) (by omega)
def rcs (f g:List Int) (j:Nat):Nat→Int
 | 0=>0
 | m+1=>rcs f g j m+(if m≤j then f.getD m 0*g.getD (j-m) 0 else 0)
theorem rcs_pcs (f g:List Int) (j:Nat):∀ m,m≤j+1→rcs f g j m=pcs f g j m
 | 0,_=>rfl
 | m+1,h=>by rw [rcs,pcs,rcs_pcs f g j m (by omega),if_pos (by omega)]
theorem rcs_high (f g:List Int) (j m:Nat):∀ d,j+1≤m→rcs f g j (m+d)=rcs f g j m
 | 0,_=>rfl
 | d+1,h=>by rw [← Nat.add_assoc,rcs,rcs_high f g j m d h,if_neg (by omega),Int.add_zero]
theorem rcs_zero (f g:List Int) (j m:Nat) (h:plen f≤m):∀ d,rcs f g j (m+d)=rcs f g j m
 | 0=>rfl
 | d+1=>by rw [← Nat.add_assoc,rcs,rcs_zero f g j m h d,getD_ge_plen f _ (by omega)];simp
theorem rcs_pc (f g:List Int) (j:Nat):rcs f g j (plen f)=pc f g j:=by
 unfold pc
 rw [← rcs_pcs f g j (j+1) (Nat.le_refl _)]
 by_cases h:plen f≤j+1
 ·obtain ⟨d,hd⟩:∃ d,j+1=plen f+d:=⟨j+1-plen f,by omega⟩
  rw [hd,rcs_zero f g j _ (Nat.le_refl _)]
 ·obtain ⟨d,hd⟩:∃ d,plen f=j+1+d:=⟨plen f-(j+1),by omega⟩
  rw [hd,rcs_high f g j _ d (Nat.le_refl _)]
theorem rcs_bd {f g:List Int} {X Y:Nat} (hf:∀ j,(f.getD j 0).natAbs≤X) (hg:∀ j,(g.getD j 0).natAbs≤Y) (j:Nat):∀ m,(rcs f g j m).natAbs≤m*(X*Y)
 | 0=>by simp [rcs]
 | m+1=>by
   rw [rcs]
   have h1:=rcs_bd hf hg j m
   have h2:(if m≤j then f.getD m 0*g.getD (j-m) 0 else 0:Int).natAbs≤X*Y:=by
    split
    ·rw [Int.natAbs_mul];exact Nat.mul_le_mul (hf m) (hg (j-m))
    ·simp
   have h3:=Int.natAbs_add_le (rcs f g j m) (if m≤j then f.getD m 0*g.getD (j-m) 0 else 0)
   rw [Nat.succ_mul]
   omega
theorem rmul_nil_l {f g:List Int} (h:plen f=0):rmul f g=[]:=by
 have:(ptrim f)=[]:=List.eq_nil_of_length_eq_zero (by rw [ptrim_length,h])
 unfold rmul polymul
 rw [if_pos (.inl this)];rfl
theorem rmul_nil_r {f g:List Int} (h:plen g=0):rmul f g=[]:=by
 have:(ptrim g)=[]:=List.eq_nil_of_length_eq_zero (by rw [ptrim_length,h])
 unfold rmul polymul
 rw [if_pos (.inr this)];rfl
theorem rmul_tab {f g:List Int} (hf:plen f≠0) (hg:plen g≠0) {n:Nat} (hn:plen f+plen g=n+1):ptrim (tab n (pc f g))=rmul f g:=by
 rw [← rmul_trim]
 refine ptrim_ext fun k=>?_
 rw [rmul_get]
 by_cases h:k<n
 ·exact tab_get _ h
 ·rw [getD_out _ (by rw [tab_length];omega)]
  exact (pc_above (a:=plen f-1) (b:=plen g-1) (fun i hi=>getD_ge_plen f i (by omega)) (fun i hi=>getD_ge_plen g i (by omega)) (by omega)).symm
def rgc (p:List Int):Nat→Nat
 | 0=>0
 | i+1=>Nat.gcd (rgc p i) (p.getD i 0).natAbs
theorem rgc_le (p:List Int):∀ i j,j<i→rgc p i∣(p.getD j 0).natAbs
 | i+1,j,h=>by
   rw [rgc]
   by_cases hj:j=i
   ·subst hj;exact Nat.gcd_dvd_right _ _
   ·exact Nat.dvd_trans (Nat.gcd_dvd_left _ _) (rgc_le p i j (by omega))
theorem dvd_rgc {d:Nat} {p:List Int} (h:∀ k,d∣(p.getD k 0).natAbs):∀ i,d∣rgc p i
 | 0=>Nat.dvd_zero _
 | i+1=>Nat.dvd_gcd (dvd_rgc h i) (h i)
theorem rgc_eq (p:List Int):rgc p (plen p)=pcont p:=Nat.dvd_antisymm (dvd_pcont fun k=>by
 by_cases h:k<plen p
 ·exact rgc_le p _ k h
 ·rw [getD_ge_plen p k (by omega)];exact Nat.dvd_zero _) (dvd_rgc (pcont_get p) _)
theorem rgc_bd {p:List Int} {M:Nat} (hM:∀ j,(p.getD j 0).natAbs≤M):∀ i,rgc p i≤M
 | 0=>Nat.zero_le _
 | i+1=>by
   rw [rgc]
   by_cases h:(p.getD i 0).natAbs=0
   ·rw [h,Nat.gcd_zero_right];exact rgc_bd hM i
   ·exact Nat.le_trans (Nat.gcd_le_right _ (by omega)) (hM i)
def rnu (p:List Int):Int:=if plead p<0 then -(pcont p:Int) else (pcont p:Int)
end Go.Proofs.YtjmglmgokfcgoaaGreat
