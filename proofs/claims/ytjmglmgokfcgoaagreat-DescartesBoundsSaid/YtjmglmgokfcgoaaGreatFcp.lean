/- Products of linear and quadratic polynomials, their factors, and the positive roots. Plain: no program. -/
import Derived.Test.YtjmglmgokfcgoaaGreatDsc
import Derived.Test.YtjmglmgokfcgoaaGreatRf0
namespace Go.Proofs.YtjmglmgokfcgoaaGreat
open Go.RowKit
theorem mult_none {g:List Int} (h:plen g=0) (x:Pt):mult x g=0:=by
 unfold mult
 rw [dif_neg fun ⟨m,hm⟩=>hm.ne h]
theorem mult_getD {f g:List Int} (h:∀ k,f.getD k 0=g.getD k 0) (x:Pt):mult x f=mult x g:=by
 by_cases c:plen f=0
 ·rw [mult_none c,mult_none (by rw [← plen_congr h];exact c)]
 ·exact ((show PEq f g from ⟨1,1,by decide,by decide,fun k=>by rw [h k]⟩).mult x c).1
theorem mult_psc {c:Int} (hc:c≠0) (f:List Int) (x:Pt):mult x (psc c f)=mult x f:=by
 by_cases h0:plen f=0
 ·have:plen (psc c f)=0:=by
   refine Classical.byContradiction fun h=>plead_ne h ?_
   show (psc c f).getD _ 0=0
   rw [psc_get,getD_ge_plen f _ (by omega),Int.mul_zero]
  rw [mult_none h0,mult_none this]
 ·have hcp:plen [c]≠0:=by rw [plen_cons_one rfl hc];omega
  have e:∀ k,(psc c f).getD k 0=(polymul [c] f).getD k 0:=ev_inj fun t=>by
   rw [ev_mul,ev_psc,rev_cons,show ev [] t=0 from rfl]
   grind
  rw [mult_getD e,mult_mul hcp h0,(mult_zero hcp).2 (by rw [sgp_const];exact sg_ne hc),Nat.zero_add]
def nrm (p:List Int):List Int:=tab (plen p) fun j=>(p.getD j 0).tdiv (rnu p)
theorem nrm_len (p:List Int):(nrm p).length=plen p:=tab_length _ _
theorem rnu_ne {p:List Int} (h:plen p≠0):rnu p≠0:=by
 have:=pcont_ne h
 unfold rnu
 split<;>omega
theorem rnu_dvd (p:List Int) (k:Nat):rnu p∣p.getD k 0:=by
 have h:((pcont p:Nat):Int)∣p.getD k 0:=Int.ofNat_dvd_left.2 (pcont_get p k)
 unfold rnu
 split
 ·exact Int.neg_dvd.2 h
 ·exact h
theorem nrm_get {p:List Int} (_h:plen p≠0) (k:Nat):rnu p*(nrm p).getD k 0=p.getD k 0:=by
 by_cases c:k<plen p
 ·unfold nrm
  rw [tab_get _ c,Int.mul_tdiv_cancel' (rnu_dvd p k)]
 ·rw [getD_ge_plen p k (by omega),List.getD_eq_getElem?_getD,List.getElem?_eq_none (by rw [nrm_len];omega)]
  exact Int.mul_zero _
theorem nrm_lead {p:List Int} (h:plen p≠0):0<(nrm p).getD (plen p-1) 0:=by
 have h1:=nrm_get h (plen p-1)
 have h2:plead p≠0:=plead_ne h
 have h3:plead p=p.getD (plen p-1) 0:=rfl
 have hp:=pcont_ne h
 rw [← h3] at h1
 by_cases c:plead p<0
 ·have e:rnu p=-(pcont p:Int):=by unfold rnu;rw [if_pos c]
  rw [e] at h1
  refine Classical.byContradiction fun hn=>?_
  have:=Int.mul_nonneg_of_nonpos_of_nonpos (show -(pcont p:Int)≤0 by omega) (show (nrm p).getD (plen p-1) 0≤0 by omega)
  omega
 ·have e:rnu p=(pcont p:Int):=by unfold rnu;rw [if_neg c]
  rw [e] at h1
  refine Classical.byContradiction fun hn=>?_
  have:=Int.mul_nonneg (show (0:Int)≤(pcont p:Int) by omega) (show 0≤-(nrm p).getD (plen p-1) 0 by omega)
  rw [Int.mul_neg] at this
  omega
theorem nrm_mult {p:List Int} (h:plen p≠0) (x:Pt):mult x (nrm p)=mult x p:=by
 rw [← mult_psc (rnu_ne h) (nrm p)]
 exact mult_getD (fun k=>by rw [psc_get,nrm_get h k]) x
theorem nrm_plen {p:List Int} (h:plen p≠0):plen (nrm p)=plen p:=by
 have h1:=nrm_lead h
 have h2:=plen_le (nrm p)
 rw [nrm_len] at h2
 have:=plen_eq (nrm p) (plen p-1) (by omega) (by omega)
 omega
theorem nrm_le {p:List Int} {M:Nat} (hM:∀ j,(p.getD j 0).natAbs≤M) (k:Nat):((nrm p).getD k 0).natAbs≤M:=by
 by_cases c:k<plen p
 ·unfold nrm
  rw [tab_get _ c,Int.natAbs_tdiv]
  exact Nat.le_trans (Nat.div_le_self _ _) (hM k)
 ·rw [List.getD_eq_getElem?_getD,List.getElem?_eq_none (by rw [nrm_len];omega)]
  exact Nat.zero_le _
def dsc (g:List Int):Int:=g.getD 1 0*g.getD 1 0-4*g.getD 2 0*g.getD 0 0
def isLin (p:List Int):Prop:=p.length=2∧0<p.getD 1 0
def isQd (p:List Int):Prop:=p.length=3∧0<p.getD 2 0∧∀ s:Nat,(s:Int)*(s:Int)≠dsc p
open Classical in
noncomputable def sqd (g:List Int):Option Nat:=if h:∃ s:Nat,(s:Int)*(s:Int)=dsc g then some h.choose else none
theorem sqd_some {g:List Int} {s:Nat} (h:(s:Int)*(s:Int)=dsc g):sqd g=some s:=by
 have he:∃ s:Nat,(s:Int)*(s:Int)=dsc g:=⟨s,h⟩
 unfold sqd
 rw [dif_pos he]
 have h1:((he.choose:Nat):Int)*((he.choose:Nat):Int)=(s:Int)*(s:Int):=he.choose_spec.trans h.symm
 congr 1
 have h2:he.choose*he.choose=s*s:=by exact_mod_cast h1
 exact Nat.mul_self_inj.1 h2
theorem sqd_none {g:List Int} (h:∀ s:Nat,(s:Int)*(s:Int)≠dsc g):sqd g=none:=by
 unfold sqd
 rw [dif_neg fun ⟨s,hs⟩=>h s hs]
def lin1 (g:List Int) (s:Int):List Int:=nrm [g.getD 1 0+s,2*g.getD 2 0]
noncomputable def spl (q:List Int):List (List Int) :=
 if plen q<2 then [] else if plen q=2 then [nrm q] else match sqd (nrm q) with
  | some s=>[lin1 (nrm q) (-(s:Int)),lin1 (nrm q) (s:Int)]
  | none=>[nrm q]
theorem lin1_is {g:List Int} (s:Int) (h:0<g.getD 2 0):isLin (lin1 g s)∧∀ x,mult x (lin1 g s)=mult x [g.getD 1 0+s,2*g.getD 2 0]:=by
 have h2:plen [2*g.getD 2 0]=1:=plen_cons_one rfl (by omega)
 have hp:plen [g.getD 1 0+s,2*g.getD 2 0]=2:=by rw [plen_cons_succ (by omega),h2]
 refine ⟨⟨by unfold lin1;rw [nrm_len,hp],?_⟩,fun x=>nrm_mult (by omega) x⟩
 have:=nrm_lead (p:=[g.getD 1 0+s,2*g.getD 2 0]) (by omega)
 rw [hp] at this
 exact this
theorem list3 {g:List Int} (h:g.length=3):g=[g.getD 0 0,g.getD 1 0,g.getD 2 0]:=by
 match g,h with
 | [a,b,c],_=>rfl
theorem list2 {g:List Int} (h:g.length=2):g=[g.getD 0 0,g.getD 1 0]:=by
 match g,h with
 | [a,b],_=>rfl
theorem ev3 (a b c t:Int):ev [a,b,c] t=a+b*t+c*t*t:=by
 rw [rev_cons,rev_cons,rev_cons,show ev [] t=0 from rfl]
 grind
theorem ev2 (a b t:Int):ev [a,b] t=a+b*t:=by
 rw [rev_cons,rev_cons,show ev [] t=0 from rfl]
 grind
theorem lsum_one (x:Pt) (p:List Int):([p].map (mult x)).foldr (·+·) 0=mult x p:=by simp
theorem spl_spec {q:List Int} (h:plen q≠0) (h3:plen q≤3):(∀ p∈spl q,isLin p∨isQd p)∧∀ x,((spl q).map (mult x)).foldr (·+·) 0=mult x q:=by
 have hl:=nrm_len q
 have hld:=nrm_lead h
 unfold spl
 by_cases c1:plen q<2
 ·rw [if_pos c1]
  refine ⟨fun p hp=>(by cases hp),fun x=>?_⟩
  have:sgp q x≠0:=by rw [sgp_one (by omega)];exact sg_ne (plead_ne h)
  rw [(mult_zero h).2 this]
  rfl
 ·rw [if_neg c1]
  by_cases c2:plen q=2
  ·rw [if_pos c2]
   rw [c2] at hld hl
   refine ⟨fun p hp=>?_,fun x=>by rw [lsum_one,nrm_mult h]⟩
   rw [List.mem_singleton.1 hp]
   exact .inl ⟨hl,hld⟩
  ·have c3:plen q=3:=by omega
   rw [if_neg c2]
   rw [c3] at hld hl
   by_cases c4:∃ s:Nat,(s:Int)*(s:Int)=dsc (nrm q)
   ·obtain ⟨s,hs⟩:=c4
    rw [sqd_some hs]
    obtain ⟨a1,a2⟩:=lin1_is (g:=nrm q) (-(s:Int)) hld
    obtain ⟨b1,b2⟩:=lin1_is (g:=nrm q) (s:Int) hld
    refine ⟨fun p hp=>?_,fun x=>?_⟩
    ·rcases List.mem_cons.1 hp with e | e
     ·rw [e];exact .inl a1
     ·rw [List.mem_singleton.1 e];exact .inl b1
    ·show mult x (lin1 (nrm q) (-(s:Int)))+(mult x (lin1 (nrm q) (s:Int))+0)=_
     rw [a2,b2,Nat.add_zero]
     have p1:∀ z:Int,plen [(nrm q).getD 1 0+z,2*(nrm q).getD 2 0]≠0:=fun z=>by
      rw [plen_cons_succ (by rw [plen_cons_one rfl (by show 2*(nrm q).getD 2 0≠0;have:0<(nrm q).getD 2 0:=hld;omega)];omega)]
      omega
     rw [← mult_mul (p1 _) (p1 _),← nrm_mult h x]
     have h4:4*(nrm q).getD 2 0≠0:=by have:0<(nrm q).getD 2 0:=hld;omega
     rw [← mult_psc h4 (nrm q)]
     refine mult_getD (ev_inj fun t=>?_) x
     rw [ev_mul,ev_psc,ev2,ev2]
     conv=>rhs;rw [list3 hl]
     rw [ev3]
     unfold dsc at hs
     grind
   ·have hn:∀ s:Nat,(s:Int)*(s:Int)≠dsc (nrm q):=fun s hs=>c4 ⟨s,hs⟩
    rw [sqd_none hn]
    refine ⟨fun p hp=>?_,fun x=>by rw [lsum_one,nrm_mult h]⟩
    rw [List.mem_singleton.1 hp]
    exact .inr ⟨hl,hld,hn⟩
theorem sgq {c:Int} (h:0<c):sg c=1:=by
 rcases sg_cases c with ⟨h1,e⟩ | ⟨h1,e⟩ | ⟨h1,e⟩<;>omega
theorem sgqn {c:Int} (h:c<0):sg c=-1:=by
 rcases sg_cases c with ⟨h1,e⟩ | ⟨h1,e⟩ | ⟨h1,e⟩<;>omega
theorem qd_sgp {p:List Int} (h:isQd p) (hd:dsc p<0) (x:Pt):sgp p x≠0:=by
 have hp:=list3 h.1
 obtain ⟨L,hL⟩:∃ L,L=[p.getD 1 0,2*p.getD 2 0]:=⟨_,rfl⟩
 have e:∀ t,ev (psc (4*p.getD 2 0) p) t=ev (padd (polymul L L) [-dsc p]) t:=fun t=>by
  rw [ev_psc,ev_padd,ev_mul,hL,ev2,rev_cons (-dsc p),show ev [] t=0 from rfl]
  unfold dsc
  conv=>lhs;rw [hp]
  rw [ev3]
  simp only [List.getD_cons_zero,List.getD_cons_succ]
  grind
 have h1:=sgp_ev e x
 rw [sgp_psc,sgq (show 0<4*p.getD 2 0 by have:=h.2.1;omega),Int.one_mul] at h1
 have h2:sgp [-dsc p] x=1:=by rw [sgp_const,sgq (by omega)]
 have h3:sgp (polymul L L) x=1∨sgp (polymul L L) x=0:=by
  rw [sgp_mul]
  rcases sgp_or L x with c | c | c<;>rw [c]<;>simp
 rw [h1]
 have hc:sgp (padd (polymul L L) [-dsc p]) x=1:=by
  rcases h3 with c | c
  ·have:sgf (fun q=>pv (polymul L L) q+pv [-dsc p] q) x=1:=sgf_addp c h2
   have e2:sgp (padd (polymul L L) [-dsc p]) x=sgf (fun q=>pv (polymul L L) q+pv [-dsc p] q) x:=by
    unfold sgp
    congr 1
    funext q
    exact pv_padd _ _ q
   rw [e2,this]
  ·have e2:∀ t,ev (padd (polymul L L) [-dsc p]) t=ev (padd [-dsc p] (polymul L L)) t:=fun t=>by rw [ev_padd,ev_padd,Int.add_comm]
   rw [sgp_ev e2,sgp_add0 c,h2]
 rw [hc]
 decide
def withf:List (List Int×Nat)→List Int→List (List Int×Nat)
 | [],p=>[(p,1)]
 | (r,m) :: l,p=>if r=p then (r,m+1) :: l else (r,m) :: withf l p
def fsum (J:List Int→Int):List (List Int×Nat)→Int
 | []=>0
 | (r,m) :: l=>(m:Int)*J r+fsum J l
theorem fsum_with (J:List Int→Int) (p:List Int):∀ l,fsum J (withf l p)=fsum J l+J p
 | []=>by show ((1:Nat):Int)*J p+0=0+J p;omega
 | (r,m) :: l=>by
   unfold withf
   split
   ·rename_i e
    subst e
    show ((m+1:Nat):Int)*J r+fsum J l=(m:Int)*J r+fsum J l+J r
    rw [Int.natCast_add,Int.add_mul]
    omega
   ·show (m:Int)*J r+fsum J (withf l p)=(m:Int)*J r+fsum J l+J p
    rw [fsum_with J p l]
    omega
theorem with_mem {P:List Int→Prop} {p:List Int} (hp:P p):∀ {l:List (List Int×Nat)},(∀ x∈l,P x.1)→∀ x∈withf l p,P x.1
 | [],_,x,hx=>by rw [List.mem_singleton.1 hx];exact hp
 | (r,m) :: l,h,x,hx=>by
   unfold withf at hx
   split at hx
   ·rcases List.mem_cons.1 hx with e | e
    ·rw [e];exact h (r,m) List.mem_cons_self
    ·exact h x (List.mem_cons_of_mem _ e)
   ·rcases List.mem_cons.1 hx with e | e
    ·rw [e];exact h (r,m) List.mem_cons_self
    ·exact with_mem hp (fun y hy=>h y (List.mem_cons_of_mem _ hy)) x e
theorem withf_hit {p:List Int}:∀ (l:List (List Int×Nat)) (i m:Nat),(∀ j,j<i→(l.getD j ([],0)).1≠p)→l[i]?=some (p,m)→withf l p=l.set i (p,m+1)
 | [],i,m,_,h=>by simp at h
 | (r,n) :: l,0,m,_,h=>by
   simp at h
   obtain ⟨rfl,rfl⟩:=h
   unfold withf
   rw [if_pos rfl]
   rfl
 | (r,n) :: l,i+1,m,h1,h=>by
   unfold withf
   rw [if_neg (show ¬ r=p from h1 0 (Nat.succ_pos i)),withf_hit l i m (fun j hj=>h1 (j+1) (by omega)) (by simpa using h)]
   rfl
theorem withf_miss {p:List Int}:∀ (l:List (List Int×Nat)),(∀ j,j<l.length→(l.getD j ([],0)).1≠p)→withf l p=l ++ [(p,1)]
 | [],_=>rfl
 | (r,n) :: l,h=>by
   unfold withf
   rw [if_neg (show ¬ r=p from h 0 (by simp)),withf_miss l fun j hj=>h (j+1) (by simpa using hj)]
   rfl
def addf (l:List (List Int×Nat)):List (List Int)→List (List Int×Nat)
 | []=>l
 | p :: ps=>addf (withf l p) ps
noncomputable def facs (l:List (List Int×Nat)):List (List Int)→List (List Int×Nat)
 | []=>l
 | q :: qs=>facs (addf l (spl q)) qs
def jsum (J:List Int→Int):List (List Int)→Int
 | []=>0
 | p :: ps=>J p+jsum J ps
theorem fsum_addf (J:List Int→Int):∀ (ps:List (List Int)) (l:List (List Int×Nat)),fsum J (addf l ps)=fsum J l+jsum J ps
 | [],l=>by show _=fsum J l+0;rw [Int.add_zero];rfl
 | p :: ps,l=>by
   show fsum J (addf (withf l p) ps)=fsum J l+(J p+jsum J ps)
   rw [fsum_addf J ps,fsum_with]
   omega
theorem addf_mem {P:List Int→Prop}:∀ {ps:List (List Int)} {l:List (List Int×Nat)},(∀ p∈ps,P p)→(∀ x∈l,P x.1)→∀ x∈addf l ps,P x.1
 | [],_,_,h=>h
 | p :: ps,l,hp,h=>show ∀ x∈addf (withf l p) ps,P x.1 from addf_mem (ps:=ps) (fun q hq=>hp q (List.mem_cons_of_mem _ hq)) (with_mem (hp p List.mem_cons_self) h)
theorem fsum_facs (J:List Int→Int):∀ (qs:List (List Int)) (l:List (List Int×Nat)),fsum J (facs l qs)=fsum J l+jsum (fun q=>jsum J (spl q)) qs
 | [],l=>by show _=fsum J l+0;rw [Int.add_zero];rfl
 | q :: qs,l=>by
   show fsum J (facs (addf l (spl q)) qs)=fsum J l+(jsum J (spl q)+_)
   rw [fsum_facs J qs,fsum_addf]
   omega
theorem facs_mem {P:List Int→Prop}:∀ {qs:List (List Int)} {l:List (List Int×Nat)},(∀ q∈qs,∀ p∈spl q,P p)→(∀ x∈l,P x.1)→∀ x∈facs l qs,P x.1
 | [],_,_,h=>h
 | q :: qs,l,hp,h=>show ∀ x∈facs (addf l (spl q)) qs,P x.1 from facs_mem (qs:=qs) (fun r hr=>hp r (List.mem_cons_of_mem _ hr)) (addf_mem (hp q List.mem_cons_self) h)
def prodf (P:List Int):List (List Int)→List Int
 | []=>P
 | q :: qs=>prodf (rmul P q) qs
theorem rmul_ev_get (f g:List Int):∀ k,(rmul f g).getD k 0=(polymul f g).getD k 0:=ev_inj fun t=>by rw [ev_rmul,ev_mul]
theorem rmul_mult {f g:List Int} (hf:plen f≠0) (hg:plen g≠0) (x:Pt):mult x (rmul f g)=mult x f+mult x g:=by
 rw [mult_getD (rmul_ev_get f g),mult_mul hf hg]
theorem rmul_ne {f g:List Int} (hf:plen f≠0) (hg:plen g≠0):plen (rmul f g)≠0:=by
 rw [plen_congr (rmul_ev_get f g)]
 exact polymul_ne hf hg
theorem prodf_mult (x:Pt):∀ (qs:List (List Int)) (P:List Int),plen P≠0→(∀ q∈qs,plen q≠0)→plen (prodf P qs)≠0∧((mult x (prodf P qs):Nat):Int)=(mult x P:Int)+jsum (fun q=>(mult x q:Int)) qs
 | [],P,h,_=>⟨h,by show _=_+(0:Int);rw [Int.add_zero];rfl⟩
 | q :: qs,P,h,hq=>by
   have hq0:=hq q List.mem_cons_self
   obtain ⟨h1,h2⟩:=prodf_mult x qs (rmul P q) (rmul_ne h hq0) fun r hr=>hq r (List.mem_cons_of_mem _ hr)
   refine ⟨h1,?_⟩
   show ((mult x (prodf (rmul P q) qs):Nat):Int)=_+((mult x q:Int)+_)
   rw [h2,rmul_mult h hq0]
   omega
theorem jsum_mult (x:Pt):∀ ps:List (List Int),jsum (fun p=>(mult x p:Int)) ps=((ps.map (mult x)).foldr (·+·) 0:Nat)
 | []=>rfl
 | p :: ps=>by
   show (mult x p:Int)+jsum _ ps=_
   rw [jsum_mult x ps]
   simp
theorem jsum_congr {J K:List Int→Int}:∀ {ps:List (List Int)},(∀ p∈ps,J p=K p)→jsum J ps=jsum K ps
 | [],_=>rfl
 | p :: ps,h=>by
   show J p+jsum J ps=K p+jsum K ps
   rw [h p List.mem_cons_self,jsum_congr fun q hq=>h q (List.mem_cons_of_mem _ hq)]
theorem fsum_congr {J K:List Int→Int}:∀ {l:List (List Int×Nat)},(∀ x∈l,J x.1=K x.1)→fsum J l=fsum K l
 | [],_=>rfl
 | (r,m) :: l,h=>by
   show (m:Int)*J r+fsum J l=(m:Int)*K r+fsum K l
   rw [h (r,m) List.mem_cons_self,fsum_congr fun q hq=>h q (List.mem_cons_of_mem _ hq)]
theorem mult_prod {qs:List (List Int)} (hq:∀ q∈qs,plen q≠0∧plen q≤3) (x:Pt):((mult x (prodf [1] qs):Nat):Int)=fsum (fun p=>(mult x p:Int)) (facs [] qs):=by
 rw [(prodf_mult x qs [1] (by decide) fun q h=>(hq q h).1).2,fsum_facs]
 have h1:mult x [1]=0:=(mult_zero (by decide)).2 (by rw [sgp_const];decide)
 rw [h1]
 show (0:Int)+_=0+_
 congr 1
 exact jsum_congr fun q h=>by rw [jsum_mult,(spl_spec (hq q h).1 (hq q h).2).2]
theorem isum_zero {J:Pt→Int}:∀ (xs:List Pt),(∀ x∈xs,J x=0)→isum (xs.map J)=0
 | [],_=>rfl
 | x :: xs,h=>by
   show J x+isum (xs.map J)=0
   rw [h x List.mem_cons_self,isum_zero xs fun y hy=>h y (List.mem_cons_of_mem _ hy)]
   rfl
theorem isum_add (J K:Pt→Int):∀ (xs:List Pt),isum (xs.map fun x=>J x+K x)=isum (xs.map J)+isum (xs.map K)
 | []=>rfl
 | x :: xs=>by
   show J x+K x+isum (xs.map fun x=>J x+K x)=(J x+isum (xs.map J))+(K x+isum (xs.map K))
   rw [isum_add J K xs]
   omega
theorem isum_mul (c:Int) (J:Pt→Int):∀ (xs:List Pt),isum (xs.map fun x=>c*J x)=c*isum (xs.map J)
 | []=>(Int.mul_zero c).symm
 | x :: xs=>by
   show c*J x+isum (xs.map fun x=>c*J x)=c*(J x+isum (xs.map J))
   rw [isum_mul c J xs,Int.mul_add]
theorem isum_fsum (J:Pt→List Int→Int) (xs:List Pt):∀ l:List (List Int×Nat),isum (xs.map fun x=>fsum (J x) l)=fsum (fun p=>isum (xs.map fun x=>J x p)) l
 | []=>isum_zero xs fun _ _=>rfl
 | (r,m) :: l=>by
   show isum (xs.map fun x=>(m:Int)*J x r+fsum (J x) l)=(m:Int)*_+_
   rw [isum_add (fun x=>(m:Int)*J x r) (fun x=>fsum (J x) l),isum_mul,isum_fsum J xs l]
theorem fsum_nn (x:Pt):∀ l:List (List Int×Nat),0≤fsum (fun p=>(mult x p:Int)) l
 | []=>Int.le_refl _
 | (r,m) :: l=>by
   have h1:(0:Int)≤(m:Int)*(mult x r:Int):=Int.mul_nonneg (by omega) (by omega)
   have h2:=fsum_nn x l
   show 0≤(m:Int)*(mult x r:Int)+fsum _ l
   omega
theorem fsum_zero {x:Pt}:∀ {l:List (List Int×Nat)},fsum (fun p=>(mult x p:Int)) l=0→(∀ z∈l,z.2≠0)→∀ z∈l,mult x z.1=0
 | [],_,_,z,hz=>by cases hz
 | (r,m) :: l,h,hp,z,hz=>by
   have h1:(0:Int)≤(m:Int)*(mult x r:Int):=Int.mul_nonneg (by omega) (by omega)
   have h2:=fsum_nn x l
   have h3:(m:Int)*(mult x r:Int)+fsum (fun p=>(mult x p:Int)) l=0:=h
   rcases List.mem_cons.1 hz with e | e
   ·have h4:(m:Int)*(mult x r:Int)=0:=by omega
    have h5:m≠0:=hp (r,m) List.mem_cons_self
    rw [e]
    rcases Int.mul_eq_zero.1 h4 with c | c
    ·omega
    ·show mult x r=0
     omega
   ·exact fsum_zero (by omega) (fun y hy=>hp y (List.mem_cons_of_mem _ hy)) z e
theorem with_pos {p:List Int}:∀ {l:List (List Int×Nat)},(∀ z∈l,z.2≠0)→∀ z∈withf l p,z.2≠0
 | [],_,z,hz=>by rw [List.mem_singleton.1 hz];exact Nat.one_ne_zero
 | (r,m) :: l,h,z,hz=>by
   unfold withf at hz
   split at hz
   ·rcases List.mem_cons.1 hz with e | e
    ·rw [e];exact Nat.succ_ne_zero m
    ·exact h z (List.mem_cons_of_mem _ e)
   ·rcases List.mem_cons.1 hz with e | e
    ·rw [e];exact h (r,m) List.mem_cons_self
    ·exact with_pos (fun y hy=>h y (List.mem_cons_of_mem _ hy)) z e
theorem addf_pos:∀ {ps:List (List Int)} {l:List (List Int×Nat)},(∀ z∈l,z.2≠0)→∀ z∈addf l ps,z.2≠0
 | [],_,h=>h
 | p :: ps,l,h=>show ∀ z∈addf (withf l p) ps,z.2≠0 from addf_pos (ps:=ps) (with_pos h)
theorem facs_pos:∀ {qs:List (List Int)} {l:List (List Int×Nat)},(∀ z∈l,z.2≠0)→∀ z∈facs l qs,z.2≠0
 | [],_,h=>h
 | q :: qs,l,h=>show ∀ z∈facs (addf l (spl q)) qs,z.2≠0 from facs_pos (qs:=qs) (addf_pos h)
end Go.Proofs.YtjmglmgokfcgoaaGreat
