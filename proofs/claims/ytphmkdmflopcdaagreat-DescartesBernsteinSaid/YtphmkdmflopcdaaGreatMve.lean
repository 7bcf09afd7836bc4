/- The law DescartesMoves, plain: the signs in the spelling of the walk. -/
import Derived.Test.YtphmkdmflopcdaaGreatStg
import Derived.Test.YtphmkdmflopcdaaGreatMob
import Derived.Test.YtphmkdmflopcdaaGreatSte
import Derived.Test.YtphmkdmflopcdaaGreatGti
import Derived.Test.YtphmkdmflopcdaaGreatSta
namespace Go.Proofs.YtphmkdmflopcdaaGreat
def hv (f:List Int) (u v:Int):Nat->Int
 | 0=>f.getD (f.length-1) 0
 | k+1=>hv f u v k*u+f.getD (f.length-2-k) 0*v^(k+1)
theorem sg_mul_pos {c:Int} (hc:0<c) (y:Int):sg (c*y)=sg y:=by
 rcases sg_cases y with ⟨h,e⟩ | ⟨h,e⟩ | ⟨h,e⟩
 ·rw[e,sg_neg (Int.mul_neg_of_pos_of_neg hc h)]
 ·rw[h,Int.mul_zero]
 ·rw[e,sg_pos (Int.mul_pos hc h)]
theorem ev_two (a b x:Int):ev [a,b] x=a+b*x:=by simp[ev,evn,Int.pow_succ]
theorem tr_ev (f:List Int) (P Q D x:Int):∀ k,ev (trs f P Q D k).1 x=hv f (P+Q*x) (D+D*x) k/\ev (trs f P Q D k).2.1 x=(D+D*x)^k
 | 0=>⟨ev_const _ _,by rw[Int.pow_zero];exact ev_const 1 x⟩
 | k+1=>by
   obtain ⟨h1,h2⟩:=tr_ev f P Q D x k
   have h3:ev (polymul (ptrim (trs f P Q D k).2.1) (ptrim [D,D])) x=(D+D*x)^(k+1):=by
    rw[ev_mul,ev_trim,ev_trim,ev_two,h2,Int.pow_succ]
   refine ⟨?_,h3⟩
   show ev (ptrim (padd (polymul (ptrim (trs f P Q D k).1) (ptrim [P,Q])) (ptrim (psc (f.getD (f.length-2-k) 0) (polymul (ptrim (trs f P Q D k).2.1) (ptrim [D,D])))))) x=_
   rw[ev_trim,ev_padd,ev_mul,ev_trim,ev_trim,ev_two,ev_trim,ev_psc,h3,h1,hv]
theorem hv_below (f:List Int) (u:Int):∀ k,hv f u 0 k=f.getD (f.length-1) 0*u^k
 | 0=>by simp[hv]
 | k+1=>by
   rw[hv,hv_below f u k,Int.zero_pow (by omega),Int.mul_zero,Int.add_zero,Int.pow_succ,Int.mul_assoc]
theorem tr_ne {f:List Int} {P Q D:Int} (hf:f.getD (f.length-1) 0≠0) (h:P≠Q) (k:Nat):plen (trs f P Q D k).1≠0:=by
 intro h0
 have h1:=(tr_ev f P Q D (-1) k).1
 rw[show D+D * -1=0 by omega,hv_below] at h1
 have h2:ev (trs f P Q D k).1 (-1)=0:=by
  have h3:ptrim (trs f P Q D k).1=[]:=List.eq_nil_of_length_eq_zero (by rw[ptrim_length];exact h0)
  rw[<- ev_trim,h3,ev_nil]
 rw[h2] at h1
 have h3:(P+Q * -1)^k≠0:=Int.pow_ne_zero (by omega)
 exact Int.mul_ne_zero hf h3 h1.symm
theorem pctd_mul (g:List Int) (k:Nat):g.getD k 0=(pcont g:Int)*(pctd g).getD k 0:=by
 rw[pctd_get]
 have h2:=pcont_get g k
 have h3:(pcont g:Int)∣g.getD k 0:=by rw[<- Int.natAbs_dvd_natAbs,Int.natAbs_natCast];exact h2
 exact (Int.mul_tdiv_cancel' h3).symm
theorem pctd_plen (g:List Int):plen (pctd g)<=plen g:=plen_le_of fun k hk=>by rw[pctd_get,getD_ge_plen g k hk,Int.zero_tdiv]
section
variable {f:List Int} {P Q D:Int}
end
end Go.Proofs.YtphmkdmflopcdaaGreat
namespace Go.Proofs.YtphmkdmflopcdaaGreat
theorem pc_two {g:List Int} (hg:∀ j,2<=j->g.getD j 0=0):∀ (f:List Int) (k:Nat),pc f g k=f.getD k 0*g.getD 0 0+(if k=0 then 0 else f.getD (k-1) 0*g.getD 1 0)
 | [],k=>by rw[pc_nil];simp
 | a :: t,0=>by rw[pc_cons];simp
 | a :: t,1=>by
   rw[pc_cons,pc_two hg t 0]
   simp
   grind
 | a :: t,k+2=>by
   rw[pc_cons,show k+2-1=k+1 by omega,pc_two hg t (k+1),hg (k+2) (by omega)]
   simp
theorem two_zero (a b:Int):∀ j,2<=j->(ptrim [a,b]).getD j 0=0:=fun j h=>by rw[ptrim_getD];exact getD_out _ (by simpa using h)
theorem two_bound {f:List Int} {X:Nat} (hf:∀ j,(f.getD j 0).natAbs<=X) (a b:Int) (k:Nat):((polymul f (ptrim [a,b])).getD k 0).natAbs<=X*(a.natAbs+b.natAbs):=by
 rw[polymul_getD,pc_two (two_zero a b),ptrim_getD,ptrim_getD]
 have h1:(f.getD k 0*a).natAbs<=X*a.natAbs:=by rw[Int.natAbs_mul];exact Nat.mul_le_mul_right _ (hf k)
 have h2:(if k=0 then (0:Int) else f.getD (k-1) 0*b).natAbs<=X*b.natAbs:=by
  split
  ·simp
  ·rw[Int.natAbs_mul];exact Nat.mul_le_mul_right _ (hf _)
 rw[Nat.mul_add]
 exact Nat.le_trans (Int.natAbs_add_le _ _) (Nat.add_le_add h1 h2)
theorem two_len (f:List Int) (a b:Int):(polymul (ptrim f) (ptrim [a,b])).length<=f.length+1:=by
 unfold polymul
 split
 ·simp
 ·rw[pmul_length,ptrim_length,ptrim_length]
  have h1:=plen_le f
  have h2:=plen_le [a,b]
  simp at h2
  omega
theorem trs_bound (f:List Int) (P Q D:Int) {M B:Nat} (hM:∀ j,(f.getD j 0).natAbs<=M) (h1:P.natAbs+Q.natAbs<=B) (h2:D.natAbs+D.natAbs<=B):∀ k,
  (∀ j,((trs f P Q D k).1.getD j 0).natAbs<=M*(k+1)*B^k)/\(∀ j,((trs f P Q D k).2.1.getD j 0).natAbs<=B^k)/\(trs f P Q D k).2.2.natAbs<=B^k/\(trs f P Q D k).1.length<=k+1/\(trs f P Q D k).2.1.length<=k+1
 | 0=>by
   refine ⟨fun j=>?_,fun j=>?_,by simp[trs],by simp[trs],by simp[trs]⟩
   ·show ([f.getD (f.length-1) 0].getD j 0).natAbs<=_
    match j with
    | 0=>simpa using hM (f.length-1)
    | j+1=>simp
   ·show (([1]:List Int).getD j 0).natAbs<=_
    match j with
    | 0=>simp
    | j+1=>simp
 | k+1=>by
   obtain ⟨a1,a2,a3,a4,a5⟩:=trs_bound f P Q D hM h1 h2 k
   have b2:∀ j,((polymul (ptrim (trs f P Q D k).2.1) (ptrim [D,D])).getD j 0).natAbs<=B^(k+1):=fun j=>by
    refine Nat.le_trans (two_bound (X:=B^k) (fun i=>by rw[ptrim_getD];exact a2 i) D D j) ?_
    rw[Nat.pow_succ]
    exact Nat.mul_le_mul_left _ h2
   have b5:(polymul (ptrim (trs f P Q D k).2.1) (ptrim [D,D])).length<=k+1+1:=Nat.le_trans (two_len _ _ _) (by omega)
   refine ⟨fun j=>?_,b2,?_,?_,b5⟩
   ·show ((ptrim (padd (polymul (ptrim (trs f P Q D k).1) (ptrim [P,Q])) (ptrim (psc (f.getD (f.length-2-k) 0) (polymul (ptrim (trs f P Q D k).2.1) (ptrim [D,D])))))).getD j 0).natAbs<=_
    rw[ptrim_getD,padd_get,ptrim_getD,psc_get]
    have c1:=two_bound (X:=M*(k+1)*B^k) (fun i=>by rw[ptrim_getD];exact a1 i) P Q j
    have c2:(f.getD (f.length-2-k) 0*(polymul (ptrim (trs f P Q D k).2.1) (ptrim [D,D])).getD j 0).natAbs<=M*B^(k+1):=by
     rw[Int.natAbs_mul];exact Nat.mul_le_mul (hM _) (b2 j)
    refine Nat.le_trans (Int.natAbs_add_le _ _) (Nat.le_trans (Nat.add_le_add c1 c2) ?_)
    calc M*(k+1)*B^k*(P.natAbs+Q.natAbs)+M*B^(k+1)<=M*(k+1)*B^k*B+M*B^(k+1):=Nat.add_le_add_right (Nat.mul_le_mul_left _ h1) _
     _=M*(k+1)*B^(k+1)+M*B^(k+1):=by rw[Nat.mul_assoc,<- Nat.pow_succ]
     _=M*(k+1+1)*B^(k+1):=by rw[<- Nat.add_mul,<- Nat.mul_succ]
   ·show ((trs f P Q D k).2.2*D).natAbs<=_
    rw[Int.natAbs_mul,Nat.pow_succ]
    exact Nat.mul_le_mul a3 (by omega)
   ·show (ptrim (padd (polymul (ptrim (trs f P Q D k).1) (ptrim [P,Q])) (ptrim (psc (f.getD (f.length-2-k) 0) (polymul (ptrim (trs f P Q D k).2.1) (ptrim [D,D])))))).length<=_
    rw[ptrim_length]
    refine Nat.le_trans (plen_le _) ?_
    rw[padd_length,ptrim_length]
    have d1:=two_len (trs f P Q D k).1 P Q
    have d2:=plen_le (psc (f.getD (f.length-2-k) 0) (polymul (ptrim (trs f P Q D k).2.1) (ptrim [D,D])))
    have d3:(psc (f.getD (f.length-2-k) 0) (polymul (ptrim (trs f P Q D k).2.1) (ptrim [D,D]))).length=(polymul (ptrim (trs f P Q D k).2.1) (ptrim [D,D])).length:=by unfold psc;rw[List.length_map]
    omega
theorem pmob_plen (f:List Int) (P Q D:Int) (h:1<=f.length):plen (pmob f P Q D)<=f.length:=by
 unfold pmob
 rw[plen_ptrim]
 have h1:=pctd_plen (trs f P Q D (f.length-1)).1
 have h2:=plen_le (trs f P Q D (f.length-1)).1
 have h3:(trs f P Q D (f.length-1)).1.length<=f.length-1+1:=by
  have hM:∃ M:Nat,∀ j,(f.getD j 0).natAbs<=M:=by
   refine ⟨f.foldr (fun a g=>a.natAbs+g) 0,fun j=>?_⟩
   clear h h1 h2
   induction f generalizing j with
   | nil=>simp
   | cons a t ih =>
     match j with
     | 0=>simp
     | j+1=>have:=ih j;simp at this ⊢;omega
  obtain ⟨M,hM⟩:=hM
  exact (trs_bound f P Q D (B:=P.natAbs+Q.natAbs+(D.natAbs+D.natAbs)) hM (by omega) (by omega) _).2.2.2.1
 omega
theorem cd_lo {q q':Nat} (z z':Int) (hq:0<q) (hq':0<q'):0<cdD q q' z z'/\cdP q q' z z'*(q:Int)=z*cdD q q' z z'/\cdQ q q' z z'*(q':Int)=z'*cdD q q' z z':=by
 have g1:Nat.gcd z.natAbs q∣q:=Nat.gcd_dvd_right _ _
 have g2:Nat.gcd z'.natAbs q'∣q':=Nat.gcd_dvd_right _ _
 have p1:0<q / Nat.gcd z.natAbs q:=Nat.div_pos (Nat.le_of_dvd hq g1) (Nat.gcd_pos_of_pos_right _ hq)
 have p2:0<q' / Nat.gcd z'.natAbs q':=Nat.div_pos (Nat.le_of_dvd hq' g2) (Nat.gcd_pos_of_pos_right _ hq')
 have hz:z.tdiv (Nat.gcd z.natAbs q)*((Nat.gcd z.natAbs q:Nat):Int)=z:=Int.tdiv_mul_cancel (by rw[<- Int.natAbs_dvd_natAbs,Int.natAbs_natCast];exact Nat.gcd_dvd_left _ _)
 have hz':z'.tdiv (Nat.gcd z'.natAbs q')*((Nat.gcd z'.natAbs q':Nat):Int)=z':=Int.tdiv_mul_cancel (by rw[<- Int.natAbs_dvd_natAbs,Int.natAbs_natCast];exact Nat.gcd_dvd_left _ _)
 have hqq:((q / Nat.gcd z.natAbs q:Nat):Int)*((Nat.gcd z.natAbs q:Nat):Int)=(q:Int):=by rw[<- Int.natCast_mul,Nat.div_mul_cancel g1]
 have hqq':((q' / Nat.gcd z'.natAbs q':Nat):Int)*((Nat.gcd z'.natAbs q':Nat):Int)=(q':Int):=by rw[<- Int.natCast_mul,Nat.div_mul_cancel g2]
 have hD:(0:Int)<cdD q q' z z':=by
  unfold cdD
  rw[lcd_eq]
  have:=lcd_pos p1 p2
  omega
 have l1:(cdD q q' z z').tdiv ((q / Nat.gcd z.natAbs q:Nat):Int)*((q / Nat.gcd z.natAbs q:Nat):Int)=cdD q q' z z':=Int.tdiv_mul_cancel (Int.dvd_of_tmod_eq_zero lcd_left)
 have l2:(cdD q q' z z').tdiv ((q' / Nat.gcd z'.natAbs q':Nat):Int)*((q' / Nat.gcd z'.natAbs q':Nat):Int)=cdD q q' z z':=Int.tdiv_mul_cancel (Int.dvd_of_tmod_eq_zero lcd_right)
 refine ⟨hD,?_,?_⟩
 ·unfold cdP
  generalize (cdD q q' z z').tdiv ((q / Nat.gcd z.natAbs q:Nat):Int)=T at *
  generalize cdD q q' z z'=D at *
  generalize z.tdiv (Nat.gcd z.natAbs q)=y at *
  calc y*T*(q:Int)=y*T*(((q / Nat.gcd z.natAbs q:Nat):Int)*((Nat.gcd z.natAbs q:Nat):Int)):=by rw[hqq]
   _=(y*((Nat.gcd z.natAbs q:Nat):Int))*(T*((q / Nat.gcd z.natAbs q:Nat):Int)):=by grind
   _=z*D:=by rw[hz,l1]
 ·unfold cdQ
  generalize (cdD q q' z z').tdiv ((q' / Nat.gcd z'.natAbs q':Nat):Int)=T at *
  generalize cdD q q' z z'=D at *
  generalize z'.tdiv (Nat.gcd z'.natAbs q')=y at *
  calc y*T*(q':Int)=y*T*(((q' / Nat.gcd z'.natAbs q':Nat):Int)*((Nat.gcd z'.natAbs q':Nat):Int)):=by rw[hqq']
   _=(y*((Nat.gcd z'.natAbs q':Nat):Int))*(T*((q' / Nat.gcd z'.natAbs q':Nat):Int)):=by grind
   _=z'*D:=by rw[hz',l2]
theorem cd_ne {q q':Nat} {z z':Int} (hq:0<q) (hq':0<q') (h:z*(q':Int)<z'*(q:Int)):cdP q q' z z'≠cdQ q q' z z':=by
 obtain ⟨hD,h1,h2⟩:=cd_lo z z' hq hq'
 intro e
 rw[e] at h1
 have h3:z*cdD q q' z z'*(q':Int)=z'*cdD q q' z z'*(q:Int):=by rw[<- h1,<- h2];grind
 have h4:cdD q q' z z'*(z*(q':Int))=cdD q q' z z'*(z'*(q:Int)):=by grind
 have h5:=Int.mul_lt_mul_of_pos_left h hD
 omega
theorem mobok_nine {f:List Int} {z z':Int} {q q':Nat} (hl:plen f<=9) (hM:∀ j,(f.getD j 0).natAbs<=1073741824) (hz:z.natAbs<=128) (hq:0<q) (hq1:q<=128) (hz':z'.natAbs<=128) (hq':0<q') (hq1':q'<=128):MobOK f q q' z z':=by
 intro h1 hlt
 obtain ⟨hD,hP,hQ⟩:=cd_lo z z' hq hq'
 have bD:(cdD q q' z z').natAbs<=16384:=by
  unfold cdD
  rw[lcd_eq,Int.natAbs_natCast]
  have a1:q / Nat.gcd z.natAbs q<=128:=Nat.le_trans (Nat.div_le_self _ _) hq1
  have a2:q' / Nat.gcd z'.natAbs q'<=128:=Nat.le_trans (Nat.div_le_self _ _) hq1'
  exact Nat.le_trans (Nat.mul_le_mul (Nat.le_trans (Nat.div_le_self _ _) a1) a2) (by omega)
 have bP:(cdP q q' z z').natAbs<=2097152:=by
  unfold cdP
  rw[Int.natAbs_mul,Int.natAbs_tdiv,Int.natAbs_tdiv]
  exact Nat.le_trans (Nat.mul_le_mul (Nat.le_trans (Nat.div_le_self _ _) hz) (Nat.le_trans (Nat.div_le_self _ _) bD)) (by omega)
 have bQ:(cdQ q q' z z').natAbs<=2097152:=by
  unfold cdQ
  rw[Int.natAbs_mul,Int.natAbs_tdiv,Int.natAbs_tdiv]
  exact Nat.le_trans (Nat.mul_le_mul (Nat.le_trans (Nat.div_le_self _ _) hz') (Nat.le_trans (Nat.div_le_self _ _) bD)) (by omega)
 have hlen:1<=(ptrim f).length:=by rw[ptrim_length];exact h1
 have hlen7:(ptrim f).length<=9:=by rw[ptrim_length];exact hl
 have hlead:(ptrim f).getD ((ptrim f).length-1) 0≠0:=by
  rw[ptrim_getD,ptrim_length]
  exact fun e=>by
   have:=plead_zero.1 (show plead f=0 from e)
   omega
 have hb:=trs_bound (ptrim f) (cdP q q' z z') (cdQ q q' z z') (cdD q q' z z') (M:=1073741824) (B:=4194304) (fun j=>by rw[ptrim_getD];exact hM j) (by omega) (by omega)
 refine ⟨⟨?_,?_,?_,fun k hk=>?_⟩,tr_ne hlead (cd_ne hq hq' hlt) _,hlen⟩
 ·exact Nat.lt_of_le_of_lt bP (lt_fw (by rw[BB_eq];decide))
 ·exact Nat.lt_of_le_of_lt bQ (lt_fw (by rw[BB_eq];decide))
 ·exact Nat.lt_of_le_of_lt bD (lt_fw (by rw[BB_eq];decide))
 ·obtain ⟨b1,b2,b3,b4,b5⟩:=hb k
  have hk6:k<=8:=by omega
  have p1:4194304^k<=4194304^8:=Nat.pow_le_pow_right (by omega) hk6
  have p2:1073741824*(k+1)*4194304^k<=1073741824*9*4194304^8:=Nat.mul_le_mul (Nat.mul_le_mul_left _ (by omega)) p1
  have l1:1073741824*9*4194304^8<BB^FW:=lt_fw (by rw[BB_eq];decide)
  have l2:4194304^8<BB^FW:=lt_fw (by rw[BB_eq];decide)
  exact ⟨fun j=>Nat.lt_of_le_of_lt (Nat.le_trans (b1 j) p2) l1,fun j=>Nat.lt_of_le_of_lt (Nat.le_trans (b2 j) p1) l2,Nat.lt_of_le_of_lt (Nat.le_trans b3 p1) l2,by omega,by omega⟩
theorem mobok_small {f:List Int} {z z':Int} {q q':Nat} (hl:plen f<=7) (hM:∀ j,(f.getD j 0).natAbs<=1073741824) (hz:z.natAbs<=128) (hq:0<q) (hq1:q<=128) (hz':z'.natAbs<=128) (hq':0<q') (hq1':q'<=128):MobOK f q q' z z':=mobok_nine (by omega) hM hz hq hq1 hz' hq' hq1'
theorem pmob_fit {f:List Int} {P Q D:Int} (h:TrOK f P Q D) (h1:1<=f.length):FitP (pmob f P Q D):=fun k=>by
 unfold pmob
 rw[ptrim_getD,pctd_get]
 exact Fit.le ((h.2.2.2 (f.length-1) (by omega)).1 k) (by rw[Int.natAbs_tdiv];exact Nat.div_le_self _ _)
theorem pmobius_trim (f:List Int) (q q':Nat) (z z':Int):ptrim (pmobius f q q' z z')=pmobius f q q' z z':=by
 unfold pmobius
 split
 ·rfl
 ·unfold pmob;rw[ptrim_ptrim]
theorem pmobius_fit {f:List Int} {q q':Nat} {z z':Int} (hok:MobOK f q q' z z'):FitP (pmobius f q q' z z'):=by
 by_cases h:plen f=0∨¬ (z*(q':Int)<z'*(q:Int))
 ·unfold pmobius;rw[if_pos h];exact fun k=>by rw[List.getD_nil];exact fit_unit (by decide)
 ·have h1:plen f≠0:=fun e=>h (.inl e)
  have h2:z*(q':Int)<z'*(q:Int):=Classical.byContradiction fun e=>h (.inr e)
  unfold pmobius
  rw[if_neg h]
  obtain ⟨a,_,b⟩:=hok (by omega) h2
  exact pmob_fit a b
theorem pmobius_len {f:List Int} (q q':Nat) (z z':Int):plen (pmobius f q q' z z')<=plen f:=by
 by_cases h:plen f=0∨¬ (z*(q':Int)<z'*(q:Int))
 ·unfold pmobius;rw[if_pos h];exact Nat.zero_le _
 ·unfold pmobius
  rw[if_neg h]
  have:=pmob_plen (ptrim f) (cdP q q' z z') (cdQ q q' z z') (cdD q q' z z') (by rw[ptrim_length];have:plen f≠0:=fun e=>h (.inl e);omega)
  rw[ptrim_length] at this
  exact this
end Go.Proofs.YtphmkdmflopcdaaGreat
namespace Go.Proofs.YtphmkdmflopcdaaGreat
section
variable {f:List Int} {q0 q1:Nat} {z0 z1:Int}
end
end Go.Proofs.YtphmkdmflopcdaaGreat
namespace Go.Proofs.YtphmkdmflopcdaaGreat
end Go.Proofs.YtphmkdmflopcdaaGreat
namespace Go.Proofs.YtphmkdmflopcdaaGreat
section
variable {f:List Int} {q0 q1:Nat} {z0 z1:Int}
end
end Go.Proofs.YtphmkdmflopcdaaGreat
