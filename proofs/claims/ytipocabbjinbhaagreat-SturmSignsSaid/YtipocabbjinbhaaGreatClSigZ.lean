/- For every two slices of triples of int8s the law SturmSigns returns true and its arguments read as before: Signs and QueryAll describe the signs of the second product at the distinct real roots of the first one. No condition. -/
import Derived.Test.YtipocabbjinbhaaGreatRowL
import Derived.Test.YtipocabbjinbhaaGreatDsc
import Derived.Test.YtipocabbjinbhaaGreatRf0
import Derived.Test.YtipocabbjinbhaaGreatAdp
import Derived.Test.YtipocabbjinbhaaGreatRf1
import Derived.Test.YtipocabbjinbhaaGreatAp0
import Derived.Test.YtipocabbjinbhaaGreatStg
import Derived.Test.YtipocabbjinbhaaGreatExq
namespace Go.Proofs.YtipocabbjinbhaaGreat
open Go.ChangeShapes Go.WideShapes Go.ChangeAt Go.RowKit
set_option maxRecDepth 100000 in
theorem lifted_twotr (f:Nat) (fn:Func) (hp:fn.params=#[22,22]) (hr:fn.resultTypes=#[4]) {H:Type} (enc:TypeId×Value→H) (spec:ChangeSpec) (hsv:spec.vars=[]) (hsf:∀ d d',spec.fn H [d,d']={ results:=[.lit (.bool true)],args:=[d,d'] })
 (walk:∀ A la ca p B lb cb q w,TrAt w A la ca p→TrAt w B lb cb q→la≤9223372036854775807→lb≤9223372036854775807→Calls Tryz.prog f #[.slice A la ca,.slice B lb cb] w fun e w'=>e=.returned (.bool true)∧Below w.heap.size w w')
 (W:World) (args:Array Value) (ds gs:List (DataW H)) (before:List MemPlace)
 (hval:∀ (j:Nat) t v,fn.params[j]?=some t→args[j]?=some v→Value.okWide Tryz.prog W .any 0 t v)
 (hW:DataW.Whole enc Tryz.prog fn.params.toList spec.vars false W args.toList ds gs before) :
 Calls Tryz.prog f args W fun e W'=>∃ v,e=Ending.returned v∧spec.post enc Tryz.prog fn false true false false W args v W':=by
 have hW':=hW
 obtain ⟨p,q,hA0,hV,rfl,_,_⟩:=hW
 have hA:DataW.TrodAll enc Tryz.prog W 0 (fun _=>true) true fn.params.toList args.toList ds p:=hA0
 rw [hp] at hA hval
 obtain ⟨v0,v1,d0,d1,p0,p1,rfl,rfl,rfl,h0,h1⟩:=trodAll_two hA
 rw [hsv] at hV
 obtain ⟨rfl,rfl⟩:=trodVars_none hV
 obtain ⟨a0,la,ca,rfl⟩:=okWide_slice Tryz.underlying22 (hval 0 22 v0 rfl rfl)
 obtain ⟨a1,lb,cb,rfl⟩:=okWide_slice Tryz.underlying22 (hval 1 22 v1 rfl rfl)
 simp only [List.append_nil] at hW'
 have hlt:∀ x∈p0 ++ p1,x.block<W.heap.size:=fun x hx=>by simpa using hW'.lt x hx
 have hlt0:∀ x∈p0,x.block<W.heap.size:=fun x hx=>hlt x (List.mem_append.2 (.inl hx))
 have hlt1:∀ x∈p1,x.block<W.heap.size:=fun x hx=>hlt x (List.mem_append.2 (.inr hx))
 obtain ⟨hla,zs,hz⟩:=open_trs h0 hlt0
 obtain ⟨hlb,ys,hy⟩:=open_trs h1 hlt1
 refine (walk a0 la ca zs a1 lb cb ys W hz hy hla hlb).mono fun e W' ⟨he,hb⟩=>?_
 subst he
 refine ⟨_,rfl,post_below (pa:=p0 ++ p1) (pv:=[]) hW' (fun _ _ _=>?_) (fun sp hs=>?_) (fun _ _=>?_) (by simp) hb ?_⟩
 ·rw [List.append_nil,hsf,hr]
  exact trodAll_mk1 (shut_bool Tryz.underlying4 _)
 ·rw [List.append_nil,hsf,hp]
  exact trodAll_mk2 (Go.WideElems.Trod_stays Tryz.laidOut (by kernel_rfl) (of_decide_eq_true (by kernel_rfl)) h0 (fun x hx=>hb.same (hlt0 x hx)) (fun x hx=>hs x (List.mem_append.2 (.inl hx)))) (Go.WideElems.Trod_stays Tryz.laidOut (by kernel_rfl) (of_decide_eq_true (by kernel_rfl)) h1 (fun x hx=>hb.same (hlt1 x hx)) (fun x hx=>hs x (List.mem_append.2 (.inr hx))))
 ·rw [hsv,List.append_nil,hsf]
  rfl
 ·exact ok_one hr rfl (okWide_bool_mk Tryz.underlying4 _)
end Go.Proofs.YtipocabbjinbhaaGreat
namespace Go.Proofs.YtipocabbjinbhaaGreat
open Go.RowKit
theorem mult_none {g:List Int} (h:plen g=0) (x:Pt):mult x g=0:=by
 unfold mult
 rw [dif_neg fun ⟨m,hm⟩=>hm.ne h]
theorem mult_getD {f g:List Int} (h:∀ k,f.getD k 0=g.getD k 0) (x:Pt):mult x f=mult x g:=by
 by_cases c:plen f=0
 ·rw [mult_none c,mult_none (by rw [← plen_congr h];exact c)]
 ·exact ((show PEq f g from ⟨1,1,by decide,by decide,fun k=>by rw [h k]⟩).mult x c).1
theorem mult_psc {c:Int} (hc:c≠0) (f:List Int) (x:Pt):mult x (psc c f)=mult x f:=by
 by_cases h0:plen f=0
 ·have:plen (psc c f)=0:=by
   refine Classical.byContradiction fun h=>plead_ne h ?_
   show (psc c f).getD _ 0=0
   rw [psc_get,getD_ge_plen f _ (by omega),Int.mul_zero]
  rw [mult_none h0,mult_none this]
 ·have hcp:plen [c]≠0:=by rw [plen_cons_one rfl hc];omega
  have e:∀ k,(psc c f).getD k 0=(polymul [c] f).getD k 0:=ev_inj fun t=>by
   rw [ev_mul,ev_psc,rev_cons,show ev [] t=0 from rfl]
   grind
  rw [mult_getD e,mult_mul hcp h0,(mult_zero hcp).2 (by rw [sgp_const];exact sg_ne hc),Nat.zero_add]
def nrm (p:List Int):List Int:=tab (plen p) fun j=>(p.getD j 0).tdiv (rnu p)
theorem nrm_len (p:List Int):(nrm p).length=plen p:=tab_length _ _
theorem rnu_ne {p:List Int} (h:plen p≠0):rnu p≠0:=by
 have:=pcont_ne h
 unfold rnu
 split<;>omega
theorem rnu_dvd (p:List Int) (k:Nat):rnu p∣p.getD k 0:=by
 have h:((pcont p:Nat):Int)∣p.getD k 0:=Int.ofNat_dvd_left.2 (pcont_get p k)
 unfold rnu
 split
 ·exact Int.neg_dvd.2 h
 ·exact h
theorem nrm_get {p:List Int} (_h:plen p≠0) (k:Nat):rnu p*(nrm p).getD k 0=p.getD k 0:=by
 by_cases c:k<plen p
 ·unfold nrm
  rw [tab_get _ c,Int.mul_tdiv_cancel' (rnu_dvd p k)]
 ·rw [getD_ge_plen p k (by omega),List.getD_eq_getElem?_getD,List.getElem?_eq_none (by rw [nrm_len];omega)]
  exact Int.mul_zero _
theorem nrm_lead {p:List Int} (h:plen p≠0):0<(nrm p).getD (plen p-1) 0:=by
 have h1:=nrm_get h (plen p-1)
 have h2:plead p≠0:=plead_ne h
 have h3:plead p=p.getD (plen p-1) 0:=rfl
 have hp:=pcont_ne h
 rw [← h3] at h1
 by_cases c:plead p<0
 ·have e:rnu p=-(pcont p:Int):=by unfold rnu;rw [if_pos c]
  rw [e] at h1
  refine Classical.byContradiction fun hn=>?_
  have:=Int.mul_nonneg_of_nonpos_of_nonpos (show -(pcont p:Int)≤0 by omega) (show (nrm p).getD (plen p-1) 0≤0 by omega)
  omega
 ·have e:rnu p=(pcont p:Int):=by unfold rnu;rw [if_neg c]
  rw [e] at h1
  refine Classical.byContradiction fun hn=>?_
  have:=Int.mul_nonneg (show (0:Int)≤(pcont p:Int) by omega) (show 0≤-(nrm p).getD (plen p-1) 0 by omega)
  rw [Int.mul_neg] at this
  omega
theorem nrm_mult {p:List Int} (h:plen p≠0) (x:Pt):mult x (nrm p)=mult x p:=by
 rw [← mult_psc (rnu_ne h) (nrm p)]
 exact mult_getD (fun k=>by rw [psc_get,nrm_get h k]) x
theorem nrm_plen {p:List Int} (h:plen p≠0):plen (nrm p)=plen p:=by
 have h1:=nrm_lead h
 have h2:=plen_le (nrm p)
 rw [nrm_len] at h2
 have:=plen_eq (nrm p) (plen p-1) (by omega) (by omega)
 omega
theorem nrm_le {p:List Int} {M:Nat} (hM:∀ j,(p.getD j 0).natAbs≤M) (k:Nat):((nrm p).getD k 0).natAbs≤M:=by
 by_cases c:k<plen p
 ·unfold nrm
  rw [tab_get _ c,Int.natAbs_tdiv]
  exact Nat.le_trans (Nat.div_le_self _ _) (hM k)
 ·rw [List.getD_eq_getElem?_getD,List.getElem?_eq_none (by rw [nrm_len];omega)]
  exact Nat.zero_le _
def dsc (g:List Int):Int:=g.getD 1 0*g.getD 1 0-4*g.getD 2 0*g.getD 0 0
def isLin (p:List Int):Prop:=p.length=2∧0<p.getD 1 0
def isQd (p:List Int):Prop:=p.length=3∧0<p.getD 2 0∧∀ s:Nat,(s:Int)*(s:Int)≠dsc p
open Classical in
noncomputable def sqd (g:List Int):Option Nat:=if h:∃ s:Nat,(s:Int)*(s:Int)=dsc g then some h.choose else none
theorem sqd_some {g:List Int} {s:Nat} (h:(s:Int)*(s:Int)=dsc g):sqd g=some s:=by
 have he:∃ s:Nat,(s:Int)*(s:Int)=dsc g:=⟨s,h⟩
 unfold sqd
 rw [dif_pos he]
 have h1:((he.choose:Nat):Int)*((he.choose:Nat):Int)=(s:Int)*(s:Int):=he.choose_spec.trans h.symm
 congr 1
 have h2:he.choose*he.choose=s*s:=by exact_mod_cast h1
 exact Nat.mul_self_inj.1 h2
theorem sqd_none {g:List Int} (h:∀ s:Nat,(s:Int)*(s:Int)≠dsc g):sqd g=none:=by
 unfold sqd
 rw [dif_neg fun ⟨s,hs⟩=>h s hs]
def lin1 (g:List Int) (s:Int):List Int:=nrm [g.getD 1 0+s,2*g.getD 2 0]
noncomputable def spl (q:List Int):List (List Int) :=
 if plen q<2 then [] else if plen q=2 then [nrm q] else match sqd (nrm q) with
  | some s=>[lin1 (nrm q) (-(s:Int)),lin1 (nrm q) (s:Int)]
  | none=>[nrm q]
theorem lin1_is {g:List Int} (s:Int) (h:0<g.getD 2 0):isLin (lin1 g s)∧∀ x,mult x (lin1 g s)=mult x [g.getD 1 0+s,2*g.getD 2 0]:=by
 have h2:plen [2*g.getD 2 0]=1:=plen_cons_one rfl (by omega)
 have hp:plen [g.getD 1 0+s,2*g.getD 2 0]=2:=by rw [plen_cons_succ (by omega),h2]
 refine ⟨⟨by unfold lin1;rw [nrm_len,hp],?_⟩,fun x=>nrm_mult (by omega) x⟩
 have:=nrm_lead (p:=[g.getD 1 0+s,2*g.getD 2 0]) (by omega)
 rw [hp] at this
 exact this
theorem list3 {g:List Int} (h:g.length=3):g=[g.getD 0 0,g.getD 1 0,g.getD 2 0]:=by
 match g,h with
 | [a,b,c],_=>rfl
theorem list2 {g:List Int} (h:g.length=2):g=[g.getD 0 0,g.getD 1 0]:=by
 match g,h with
 | [a,b],_=>rfl
theorem ev3 (a b c t:Int):ev [a,b,c] t=a+b*t+c*t*t:=by
 rw [rev_cons,rev_cons,rev_cons,show ev [] t=0 from rfl]
 grind
theorem ev2 (a b t:Int):ev [a,b] t=a+b*t:=by
 rw [rev_cons,rev_cons,show ev [] t=0 from rfl]
 grind
theorem lsum_one (x:Pt) (p:List Int):([p].map (mult x)).foldr (·+·) 0=mult x p:=by simp
theorem spl_spec {q:List Int} (h:plen q≠0) (h3:plen q≤3):(∀ p∈spl q,isLin p∨isQd p)∧∀ x,((spl q).map (mult x)).foldr (·+·) 0=mult x q:=by
 have hl:=nrm_len q
 have hld:=nrm_lead h
 unfold spl
 by_cases c1:plen q<2
 ·rw [if_pos c1]
  refine ⟨fun p hp=>(by cases hp),fun x=>?_⟩
  have:sgp q x≠0:=by rw [sgp_one (by omega)];exact sg_ne (plead_ne h)
  rw [(mult_zero h).2 this]
  rfl
 ·rw [if_neg c1]
  by_cases c2:plen q=2
  ·rw [if_pos c2]
   rw [c2] at hld hl
   refine ⟨fun p hp=>?_,fun x=>by rw [lsum_one,nrm_mult h]⟩
   rw [List.mem_singleton.1 hp]
   exact .inl ⟨hl,hld⟩
  ·have c3:plen q=3:=by omega
   rw [if_neg c2]
   rw [c3] at hld hl
   by_cases c4:∃ s:Nat,(s:Int)*(s:Int)=dsc (nrm q)
   ·obtain ⟨s,hs⟩:=c4
    rw [sqd_some hs]
    obtain ⟨a1,a2⟩:=lin1_is (g:=nrm q) (-(s:Int)) hld
    obtain ⟨b1,b2⟩:=lin1_is (g:=nrm q) (s:Int) hld
    refine ⟨fun p hp=>?_,fun x=>?_⟩
    ·rcases List.mem_cons.1 hp with e | e
     ·rw [e];exact .inl a1
     ·rw [List.mem_singleton.1 e];exact .inl b1
    ·show mult x (lin1 (nrm q) (-(s:Int)))+(mult x (lin1 (nrm q) (s:Int))+0)=_
     rw [a2,b2,Nat.add_zero]
     have p1:∀ z:Int,plen [(nrm q).getD 1 0+z,2*(nrm q).getD 2 0]≠0:=fun z=>by
      rw [plen_cons_succ (by rw [plen_cons_one rfl (by show 2*(nrm q).getD 2 0≠0;have:0<(nrm q).getD 2 0:=hld;omega)];omega)]
      omega
     rw [← mult_mul (p1 _) (p1 _),← nrm_mult h x]
     have h4:4*(nrm q).getD 2 0≠0:=by have:0<(nrm q).getD 2 0:=hld;omega
     rw [← mult_psc h4 (nrm q)]
     refine mult_getD (ev_inj fun t=>?_) x
     rw [ev_mul,ev_psc,ev2,ev2]
     conv=>rhs;rw [list3 hl]
     rw [ev3]
     unfold dsc at hs
     grind
   ·have hn:∀ s:Nat,(s:Int)*(s:Int)≠dsc (nrm q):=fun s hs=>c4 ⟨s,hs⟩
    rw [sqd_none hn]
    refine ⟨fun p hp=>?_,fun x=>by rw [lsum_one,nrm_mult h]⟩
    rw [List.mem_singleton.1 hp]
    exact .inr ⟨hl,hld,hn⟩
theorem sgq {c:Int} (h:0<c):sg c=1:=by
 rcases sg_cases c with ⟨h1,e⟩ | ⟨h1,e⟩ | ⟨h1,e⟩<;>omega
theorem sgqn {c:Int} (h:c<0):sg c=-1:=by
 rcases sg_cases c with ⟨h1,e⟩ | ⟨h1,e⟩ | ⟨h1,e⟩<;>omega
theorem qd_sgp {p:List Int} (h:isQd p) (hd:dsc p<0) (x:Pt):sgp p x≠0:=by
 have hp:=list3 h.1
 obtain ⟨L,hL⟩:∃ L,L=[p.getD 1 0,2*p.getD 2 0]:=⟨_,rfl⟩
 have e:∀ t,ev (psc (4*p.getD 2 0) p) t=ev (padd (polymul L L) [-dsc p]) t:=fun t=>by
  rw [ev_psc,ev_padd,ev_mul,hL,ev2,rev_cons (-dsc p),show ev [] t=0 from rfl]
  unfold dsc
  conv=>lhs;rw [hp]
  rw [ev3]
  simp only [List.getD_cons_zero,List.getD_cons_succ]
  grind
 have h1:=sgp_ev e x
 rw [sgp_psc,sgq (show 0<4*p.getD 2 0 by have:=h.2.1;omega),Int.one_mul] at h1
 have h2:sgp [-dsc p] x=1:=by rw [sgp_const,sgq (by omega)]
 have h3:sgp (polymul L L) x=1∨sgp (polymul L L) x=0:=by
  rw [sgp_mul]
  rcases sgp_or L x with c | c | c<;>rw [c]<;>simp
 rw [h1]
 have hc:sgp (padd (polymul L L) [-dsc p]) x=1:=by
  rcases h3 with c | c
  ·have:sgf (fun q=>pv (polymul L L) q+pv [-dsc p] q) x=1:=sgf_addp c h2
   have e2:sgp (padd (polymul L L) [-dsc p]) x=sgf (fun q=>pv (polymul L L) q+pv [-dsc p] q) x:=by
    unfold sgp
    congr 1
    funext q
    exact pv_padd _ _ q
   rw [e2,this]
  ·have e2:∀ t,ev (padd (polymul L L) [-dsc p]) t=ev (padd [-dsc p] (polymul L L)) t:=fun t=>by rw [ev_padd,ev_padd,Int.add_comm]
   rw [sgp_ev e2,sgp_add0 c,h2]
 rw [hc]
 decide
def withf:List (List Int×Nat)→List Int→List (List Int×Nat)
 | [],p=>[(p,1)]
 | (r,m) :: l,p=>if r=p then (r,m+1) :: l else (r,m) :: withf l p
def fsum (J:List Int→Int):List (List Int×Nat)→Int
 | []=>0
 | (r,m) :: l=>(m:Int)*J r+fsum J l
theorem fsum_with (J:List Int→Int) (p:List Int):∀ l,fsum J (withf l p)=fsum J l+J p
 | []=>by show ((1:Nat):Int)*J p+0=0+J p;omega
 | (r,m) :: l=>by
   unfold withf
   split
   ·rename_i e
    subst e
    show ((m+1:Nat):Int)*J r+fsum J l=(m:Int)*J r+fsum J l+J r
    rw [Int.natCast_add,Int.add_mul]
    omega
   ·show (m:Int)*J r+fsum J (withf l p)=(m:Int)*J r+fsum J l+J p
    rw [fsum_with J p l]
    omega
theorem with_mem {P:List Int→Prop} {p:List Int} (hp:P p):∀ {l:List (List Int×Nat)},(∀ x∈l,P x.1)→∀ x∈withf l p,P x.1
 | [],_,x,hx=>by rw [List.mem_singleton.1 hx];exact hp
 | (r,m) :: l,h,x,hx=>by
   unfold withf at hx
   split at hx
   ·rcases List.mem_cons.1 hx with e | e
    ·rw [e];exact h (r,m) List.mem_cons_self
    ·exact h x (List.mem_cons_of_mem _ e)
   ·rcases List.mem_cons.1 hx with e | e
    ·rw [e];exact h (r,m) List.mem_cons_self
    ·exact with_mem hp (fun y hy=>h y (List.mem_cons_of_mem _ hy)) x e
theorem withf_hit {p:List Int}:∀ (l:List (List Int×Nat)) (i m:Nat),(∀ j,j<i→(l.getD j ([],0)).1≠p)→l[i]?=some (p,m)→withf l p=l.set i (p,m+1)
 | [],i,m,_,h=>by simp at h
 | (r,n) :: l,0,m,_,h=>by
   simp at h
   obtain ⟨rfl,rfl⟩:=h
   unfold withf
   rw [if_pos rfl]
   rfl
 | (r,n) :: l,i+1,m,h1,h=>by
   unfold withf
   rw [if_neg (show ¬ r=p from h1 0 (Nat.succ_pos i)),withf_hit l i m (fun j hj=>h1 (j+1) (by omega)) (by simpa using h)]
   rfl
theorem withf_miss {p:List Int}:∀ (l:List (List Int×Nat)),(∀ j,j<l.length→(l.getD j ([],0)).1≠p)→withf l p=l ++ [(p,1)]
 | [],_=>rfl
 | (r,n) :: l,h=>by
   unfold withf
   rw [if_neg (show ¬ r=p from h 0 (by simp)),withf_miss l fun j hj=>h (j+1) (by simpa using hj)]
   rfl
def addf (l:List (List Int×Nat)):List (List Int)→List (List Int×Nat)
 | []=>l
 | p :: ps=>addf (withf l p) ps
noncomputable def facs (l:List (List Int×Nat)):List (List Int)→List (List Int×Nat)
 | []=>l
 | q :: qs=>facs (addf l (spl q)) qs
def jsum (J:List Int→Int):List (List Int)→Int
 | []=>0
 | p :: ps=>J p+jsum J ps
theorem fsum_addf (J:List Int→Int):∀ (ps:List (List Int)) (l:List (List Int×Nat)),fsum J (addf l ps)=fsum J l+jsum J ps
 | [],l=>by show _=fsum J l+0;rw [Int.add_zero];rfl
 | p :: ps,l=>by
   show fsum J (addf (withf l p) ps)=fsum J l+(J p+jsum J ps)
   rw [fsum_addf J ps,fsum_with]
   omega
theorem addf_mem {P:List Int→Prop}:∀ {ps:List (List Int)} {l:List (List Int×Nat)},(∀ p∈ps,P p)→(∀ x∈l,P x.1)→∀ x∈addf l ps,P x.1
 | [],_,_,h=>h
 | p :: ps,l,hp,h=>show ∀ x∈addf (withf l p) ps,P x.1 from addf_mem (ps:=ps) (fun q hq=>hp q (List.mem_cons_of_mem _ hq)) (with_mem (hp p List.mem_cons_self) h)
theorem fsum_facs (J:List Int→Int):∀ (qs:List (List Int)) (l:List (List Int×Nat)),fsum J (facs l qs)=fsum J l+jsum (fun q=>jsum J (spl q)) qs
 | [],l=>by show _=fsum J l+0;rw [Int.add_zero];rfl
 | q :: qs,l=>by
   show fsum J (facs (addf l (spl q)) qs)=fsum J l+(jsum J (spl q)+_)
   rw [fsum_facs J qs,fsum_addf]
   omega
theorem facs_mem {P:List Int→Prop}:∀ {qs:List (List Int)} {l:List (List Int×Nat)},(∀ q∈qs,∀ p∈spl q,P p)→(∀ x∈l,P x.1)→∀ x∈facs l qs,P x.1
 | [],_,_,h=>h
 | q :: qs,l,hp,h=>show ∀ x∈facs (addf l (spl q)) qs,P x.1 from facs_mem (qs:=qs) (fun r hr=>hp r (List.mem_cons_of_mem _ hr)) (addf_mem (hp q List.mem_cons_self) h)
def prodf (P:List Int):List (List Int)→List Int
 | []=>P
 | q :: qs=>prodf (rmul P q) qs
theorem rmul_ev_get (f g:List Int):∀ k,(rmul f g).getD k 0=(polymul f g).getD k 0:=ev_inj fun t=>by rw [ev_rmul,ev_mul]
theorem rmul_mult {f g:List Int} (hf:plen f≠0) (hg:plen g≠0) (x:Pt):mult x (rmul f g)=mult x f+mult x g:=by
 rw [mult_getD (rmul_ev_get f g),mult_mul hf hg]
theorem rmul_ne {f g:List Int} (hf:plen f≠0) (hg:plen g≠0):plen (rmul f g)≠0:=by
 rw [plen_congr (rmul_ev_get f g)]
 exact polymul_ne hf hg
theorem prodf_mult (x:Pt):∀ (qs:List (List Int)) (P:List Int),plen P≠0→(∀ q∈qs,plen q≠0)→plen (prodf P qs)≠0∧((mult x (prodf P qs):Nat):Int)=(mult x P:Int)+jsum (fun q=>(mult x q:Int)) qs
 | [],P,h,_=>⟨h,by show _=_+(0:Int);rw [Int.add_zero];rfl⟩
 | q :: qs,P,h,hq=>by
   have hq0:=hq q List.mem_cons_self
   obtain ⟨h1,h2⟩:=prodf_mult x qs (rmul P q) (rmul_ne h hq0) fun r hr=>hq r (List.mem_cons_of_mem _ hr)
   refine ⟨h1,?_⟩
   show ((mult x (prodf (rmul P q) qs):Nat):Int)=_+((mult x q:Int)+_)
   rw [h2,rmul_mult h hq0]
   omega
theorem jsum_mult (x:Pt):∀ ps:List (List Int),jsum (fun p=>(mult x p:Int)) ps=((ps.map (mult x)).foldr (·+·) 0:Nat)
 | []=>rfl
 | p :: ps=>by
   show (mult x p:Int)+jsum _ ps=_
   rw [jsum_mult x ps]
   simp
theorem jsum_congr {J K:List Int→Int}:∀ {ps:List (List Int)},(∀ p∈ps,J p=K p)→jsum J ps=jsum K ps
 | [],_=>rfl
 | p :: ps,h=>by
   show J p+jsum J ps=K p+jsum K ps
   rw [h p List.mem_cons_self,jsum_congr fun q hq=>h q (List.mem_cons_of_mem _ hq)]
theorem fsum_congr {J K:List Int→Int}:∀ {l:List (List Int×Nat)},(∀ x∈l,J x.1=K x.1)→fsum J l=fsum K l
 | [],_=>rfl
 | (r,m) :: l,h=>by
   show (m:Int)*J r+fsum J l=(m:Int)*K r+fsum K l
   rw [h (r,m) List.mem_cons_self,fsum_congr fun q hq=>h q (List.mem_cons_of_mem _ hq)]
theorem mult_prod {qs:List (List Int)} (hq:∀ q∈qs,plen q≠0∧plen q≤3) (x:Pt):((mult x (prodf [1] qs):Nat):Int)=fsum (fun p=>(mult x p:Int)) (facs [] qs):=by
 rw [(prodf_mult x qs [1] (by decide) fun q h=>(hq q h).1).2,fsum_facs]
 have h1:mult x [1]=0:=(mult_zero (by decide)).2 (by rw [sgp_const];decide)
 rw [h1]
 show (0:Int)+_=0+_
 congr 1
 exact jsum_congr fun q h=>by rw [jsum_mult,(spl_spec (hq q h).1 (hq q h).2).2]
theorem isum_zero {J:Pt→Int}:∀ (xs:List Pt),(∀ x∈xs,J x=0)→isum (xs.map J)=0
 | [],_=>rfl
 | x :: xs,h=>by
   show J x+isum (xs.map J)=0
   rw [h x List.mem_cons_self,isum_zero xs fun y hy=>h y (List.mem_cons_of_mem _ hy)]
   rfl
theorem isum_add (J K:Pt→Int):∀ (xs:List Pt),isum (xs.map fun x=>J x+K x)=isum (xs.map J)+isum (xs.map K)
 | []=>rfl
 | x :: xs=>by
   show J x+K x+isum (xs.map fun x=>J x+K x)=(J x+isum (xs.map J))+(K x+isum (xs.map K))
   rw [isum_add J K xs]
   omega
theorem fsum_nn (x:Pt):∀ l:List (List Int×Nat),0≤fsum (fun p=>(mult x p:Int)) l
 | []=>Int.le_refl _
 | (r,m) :: l=>by
   have h1:(0:Int)≤(m:Int)*(mult x r:Int):=Int.mul_nonneg (by omega) (by omega)
   have h2:=fsum_nn x l
   show 0≤(m:Int)*(mult x r:Int)+fsum _ l
   omega
theorem fsum_zero {x:Pt}:∀ {l:List (List Int×Nat)},fsum (fun p=>(mult x p:Int)) l=0→(∀ z∈l,z.2≠0)→∀ z∈l,mult x z.1=0
 | [],_,_,z,hz=>by cases hz
 | (r,m) :: l,h,hp,z,hz=>by
   have h1:(0:Int)≤(m:Int)*(mult x r:Int):=Int.mul_nonneg (by omega) (by omega)
   have h2:=fsum_nn x l
   have h3:(m:Int)*(mult x r:Int)+fsum (fun p=>(mult x p:Int)) l=0:=h
   rcases List.mem_cons.1 hz with e | e
   ·have h4:(m:Int)*(mult x r:Int)=0:=by omega
    have h5:m≠0:=hp (r,m) List.mem_cons_self
    rw [e]
    rcases Int.mul_eq_zero.1 h4 with c | c
    ·omega
    ·show mult x r=0
     omega
   ·exact fsum_zero (by omega) (fun y hy=>hp y (List.mem_cons_of_mem _ hy)) z e
theorem with_pos {p:List Int}:∀ {l:List (List Int×Nat)},(∀ z∈l,z.2≠0)→∀ z∈withf l p,z.2≠0
 | [],_,z,hz=>by rw [List.mem_singleton.1 hz];exact Nat.one_ne_zero
 | (r,m) :: l,h,z,hz=>by
   unfold withf at hz
   split at hz
   ·rcases List.mem_cons.1 hz with e | e
    ·rw [e];exact Nat.succ_ne_zero m
    ·exact h z (List.mem_cons_of_mem _ e)
   ·rcases List.mem_cons.1 hz with e | e
    ·rw [e];exact h (r,m) List.mem_cons_self
    ·exact with_pos (fun y hy=>h y (List.mem_cons_of_mem _ hy)) z e
theorem addf_pos:∀ {ps:List (List Int)} {l:List (List Int×Nat)},(∀ z∈l,z.2≠0)→∀ z∈addf l ps,z.2≠0
 | [],_,h=>h
 | p :: ps,l,h=>show ∀ z∈addf (withf l p) ps,z.2≠0 from addf_pos (ps:=ps) (with_pos h)
theorem facs_pos:∀ {qs:List (List Int)} {l:List (List Int×Nat)},(∀ z∈l,z.2≠0)→∀ z∈facs l qs,z.2≠0
 | [],_,h=>h
 | q :: qs,l,h=>show ∀ z∈facs (addf l (spl q)) qs,z.2≠0 from facs_pos (qs:=qs) (addf_pos h)
end Go.Proofs.YtipocabbjinbhaaGreat
namespace Go.Proofs.YtipocabbjinbhaaGreat
open Go.RowKit
def atv (n d:Int):List Int→Int
 | []=>0
 | a :: t=>atv n d t*n+a*d^t.length
theorem atv_pv {n d:Int} (hd:0<d):∀ f:List Int,((atv n d f:Int):Rat)*(d:Rat)=(d:Rat)^f.length*pv f ((n:Rat) / (d:Rat))
 | []=>by
   show ((0:Int):Rat)*_=_*0
   rw [Rat.mul_zero]
   simp
 | a :: t=>by
   have ih:=atv_pv (n:=n) hd t
   have hd':(0:Rat)<(d:Rat):=by exact_mod_cast hd
   show ((atv n d t*n+a*d^t.length:Int):Rat)*(d:Rat)=(d:Rat)^(t.length+1)*((a:Rat)+(n:Rat) / (d:Rat)*pv t ((n:Rat) / (d:Rat)))
   rw [Rat.intCast_add,Rat.intCast_mul,Rat.intCast_mul,Rat.intCast_pow,Rat.pow_succ]
   have e:(d:Rat)*((n:Rat) / (d:Rat))=(n:Rat):=by rw [Rat.mul_comm,Rat.div_mul_cancel (by grind)]
   generalize pv t ((n:Rat) / (d:Rat))=P at *
   generalize (n:Rat) / (d:Rat)=y at *
   generalize (d:Rat)^t.length=E at *
   generalize ((atv n d t:Int):Rat)=A at *
   have h1:A*(n:Rat)*(d:Rat)=(E*P)*((d:Rat)*y):=by rw [e,← ih];grind
   rw [Rat.add_mul,h1]
   grind
theorem atv_sg {n d:Int} (hd:0<d) (f:List Int):sg (atv n d f)=sgp f (Pt.of ((n:Rat) / (d:Rat))):=by
 have hd':(0:Rat)<(d:Rat):=by exact_mod_cast hd
 unfold sgp
 rw [sgf_of (lp_pv f)]
 have h:=atv_pv (n:=n) hd f
 have hE:(0:Rat)<(d:Rat)^f.length:=Rat.pow_pos hd'
 generalize pv f ((n:Rat) / (d:Rat))=P at *
 generalize (d:Rat)^f.length=E at *
 rcases sg_cases (atv n d f) with ⟨c,e⟩ | ⟨c,e⟩ | ⟨c,e⟩<;>rw [e]
 ·have c':((atv n d f:Int):Rat)<0:=by exact_mod_cast c
  have h1:E*P<0:=by
   rw [← h]
   have:=Rat.mul_pos (show (0:Rat) < -((atv n d f:Int):Rat) by grind) hd'
   grind
  have h2:P<0:=Classical.byContradiction fun hn=>by
   have:=Rat.mul_nonneg (Rat.le_of_lt hE) (show (0:Rat)≤P by grind)
   grind
  rw [if_neg (by grind),if_pos h2]
 ·rw [c] at h
  have h1:E*P=0:=by rw [← h];simp
  have h2:P=0:=by
   rcases Rat.mul_eq_zero.1 h1 with c | c
   ·grind
   ·exact c
  rw [h2]
  rfl
 ·have c':(0:Rat)<((atv n d f:Int):Rat):=by exact_mod_cast c
  have h1:0<E*P:=by rw [← h];exact Rat.mul_pos c' hd'
  have h2:0<P:=Classical.byContradiction fun hn=>by
   have:=Rat.mul_nonneg (Rat.le_of_lt hE) (show (0:Rat)≤-P by grind)
   grind
  rw [if_pos h2]
def Irr (p:List Int):Prop:=(isLin p∨isQd p)∧pcont p=1
theorem isLin.plen {p:List Int} (h:isLin p):Go.Proofs.YtipocabbjinbhaaGreat.plen p=2:=plen_eq p 1 (by have:=plen_le p;have:=h.1;omega) (by have:=h.2;omega)
theorem isQd.plen {p:List Int} (h:isQd p):Go.Proofs.YtipocabbjinbhaaGreat.plen p=3:=plen_eq p 2 (by have:=plen_le p;have:=h.1;omega) (by have:=h.2.1;omega)
theorem Irr.ne {p:List Int} (h:Irr p):plen p≠0:=by
 rcases h.1 with c | c
 ·rw [c.plen];decide
 ·rw [c.plen];decide
theorem lin_root {p:List Int} (h:isLin p) (x:Pt):sgp p x=0↔x=Pt.of (((-p.getD 0 0:Int):Rat) / ((p.getD 1 0:Int):Rat)):=by
 have hp:=list2 h.1
 have h1:p=[-(-p.getD 0 0),p.getD 1 0]:=by rw [Int.neg_neg];exact hp
 conv=>lhs;rw [h1]
 exact lin2_root h.2 x
theorem qd_rat {p:List Int} (h:isQd p) {n d:Int} (hd:0<d):sgp p (Pt.of ((n:Rat) / (d:Rat)))≠0:=fun h0=>by
 rw [← atv_sg hd] at h0
 have h1:atv n d p=0:=by rcases sg_cases (atv n d p) with ⟨_,e⟩ | ⟨c,_⟩ | ⟨_,e⟩<;>first | exact c | omega
 have hp:=list3 h.1
 rw [hp] at h1
 generalize ha:p.getD 0 0=a at *
 generalize hb:p.getD 1 0=b at *
 generalize hc:p.getD 2 0=c at *
 have h2:((0*n+c*d^0)*n+b*d^1)*n+a*d^2=0:=h1
 have h3:(2*c*n+b*d)*(2*c*n+b*d)=dsc p*(d*d):=by unfold dsc;rw [ha,hb,hc];grind
 generalize 2*c*n+b*d=m at h3
 have h4:d.natAbs^2∣m.natAbs^2:=by
  have e:m.natAbs^2=(dsc p).natAbs*d.natAbs^2:=by
   have:=congrArg Int.natAbs h3
   rw [Int.natAbs_mul,Int.natAbs_mul,Int.natAbs_mul] at this
   rw [Nat.pow_two,Nat.pow_two]
   exact this
  rw [e]
  exact Nat.dvd_mul_left _ _
 obtain ⟨s,hs⟩:=(Nat.pow_dvd_pow_iff (by decide)).1 h4
 refine h.2.2 s ?_
 have h5:(m.natAbs:Int)*(m.natAbs:Int)=m*m:=Int.natAbs_mul_self' m
 have h6:(d.natAbs:Int)=d:=by omega
 rw [hs,Int.natCast_mul,h6,h3] at h5
 have h7:(d*d)*((s:Int)*(s:Int))=(d*d)*dsc p:=by grind
 exact Int.eq_of_mul_eq_mul_left (by have:=Int.mul_pos hd hd;omega) h7
theorem qd_roots {p:List Int} (h:isQd p) (hd:0<dsc p):∃ z0 z1,z0<z1∧Lst (fun x=>sgp p x=0) [z0,z1]∧z0<Pt.of (((-p.getD 1 0:Int):Rat) / ((2*p.getD 2 0:Int):Rat))∧Pt.of (((-p.getD 1 0:Int):Rat) / ((2*p.getD 2 0:Int):Rat))<z1 ∧
 (∀ y,y<z0→sgp p y=1)∧(∀ y,z0<y→y<z1→sgp p y=-1)∧(∀ y,z1<y→sgp p y=1):=by
 have hp:=list3 h.1
 have hl:=h.plen
 have hlead:plead p=p.getD 2 0:=by unfold plead;rw [hl]
 obtain ⟨B,hB,f1,f2⟩:=far (f:=p) (by omega)
 have e1:sgE false p=1:=by show sg (plead p)=1;rw [hlead,sgq h.2.1]
 have e2:sgE true p=1:=by show (-1)^(plen p-1)*sg (plead p)=1;rw [hlead,sgq h.2.1,hl];rfl
 rw [e1] at f1
 rw [e2] at f2
 have hc2:0<2*p.getD 2 0:=by have:=h.2.1;omega
 generalize hV:((-p.getD 1 0:Int):Rat) / ((2*p.getD 2 0:Int):Rat)=V
 have hv:sgp p (Pt.of V)=-1:=by
  rw [← hV,← atv_sg hc2]
  refine sgqn ?_
  conv=>lhs;rw [hp]
  show ((0*(-p.getD 1 0)+p.getD 2 0*(2*p.getD 2 0)^0)*(-p.getD 1 0)+p.getD 1 0*(2*p.getD 2 0)^1)*(-p.getD 1 0)+p.getD 0 0*(2*p.getD 2 0)^2<0
  have hc:=h.2.1
  have h2:((0*(-p.getD 1 0)+p.getD 2 0*(2*p.getD 2 0)^0)*(-p.getD 1 0)+p.getD 1 0*(2*p.getD 2 0)^1)*(-p.getD 1 0)+p.getD 0 0*(2*p.getD 2 0)^2=-(p.getD 2 0*dsc p):=by unfold dsc;grind
  rw [h2]
  have:=Int.mul_pos hc hd
  omega
 -- far points on both sides
 have lo:∀ y:Pt,∃ t:Rat,Pt.of t<y∧sgp p (Pt.of t)=1:=fun y=>by
  obtain ⟨q,hq⟩:=y.ne
  refine ⟨min q (-B)-1,Pt.of_lt.2 (Pt.Lle hq (by grind)),f2 _ (by grind)⟩
 have hi:∀ y:Pt,∃ t:Rat,y<Pt.of t∧sgp p (Pt.of t)=1:=fun y=>by
  obtain ⟨q,hq⟩:=y.bd
  refine ⟨max q B+1,Pt.lt_of.2 (Pt.up hq (by grind)),f1 _ (by grind)⟩
 obtain ⟨t0,k0,k1⟩:=lo (Pt.of V)
 obtain ⟨t1,k2,k3⟩:=hi (Pt.of V)
 obtain ⟨z0,a1,a2,a3⟩:=ivt (lp_pv p) k0 (show sgp p (Pt.of t0)*sgp p (Pt.of V)=-1 by rw [k1,hv];rfl)
 obtain ⟨z1,b1,b2,b3⟩:=ivt (lp_pv p) k2 (show sgp p (Pt.of V)*sgp p (Pt.of t1)=-1 by rw [k3,hv];rfl)
 have a3':sgp p z0=0:=a3
 have b3':sgp p z1=0:=b3
 have hz:=Pt.lt_trans a2 b1
 have only:∀ y,sgp p y=0→y=z0∨y=z1:=fun y hy=>by
  rcases Pt.tri y z0 with c | c | c
  ·have:=rts_le 2 p hl [y,z0,z1] (by simp [c,hz,Pt.lt_trans c hz]) (by intro x hx;simp at hx;rcases hx with rfl | rfl | rfl<;>assumption)
   simp at this
  ·exact .inl c
  ·rcases Pt.tri y z1 with c2 | c2 | c2
   ·have:=rts_le 2 p hl [z0,y,z1] (by simp [c,c2,hz]) (by intro x hx;simp at hx;rcases hx with rfl | rfl | rfl<;>assumption)
    simp at this
   ·exact .inr c2
   ·have:=rts_le 2 p hl [z0,z1,y] (by simp [c,c2,hz]) (by intro x hx;simp at hx;rcases hx with rfl | rfl | rfl<;>assumption)
    simp at this
 have nz:∀ y,y≠z0→y≠z1→sgp p y=1∨sgp p y=-1:=fun y h1 h2=>by
  rcases sgp_or p y with c | c | c
  ·exact .inl c
  ·exact .inr c
  ·rcases only y c with c | c
   ·exact absurd c h1
   ·exact absurd c h2
 have ne1:∀ {x y:Pt},x<y→x≠y:=fun h e=>by subst e;exact Pt.irr _ h
 refine ⟨z0,z1,hz,⟨by simp [hz],fun y=>⟨fun hy=>by simp at hy;rcases hy with rfl | rfl<;>assumption,fun hy=>by simp;exact only y hy⟩⟩,a2,b1,fun y hy=>?_,fun y h0 h1=>?_,fun y hy=>?_⟩
 ·rcases nz y (ne1 hy) (ne1 (Pt.lt_trans hy hz)) with c | c
  ·exact c
  ·obtain ⟨t,k4,k5⟩:=lo y
   obtain ⟨z,d1,d2,d3⟩:=ivt (lp_pv p) k4 (show sgp p (Pt.of t)*sgp p y=-1 by rw [k5,c];rfl)
   rcases only z d3 with e | e
   ·rw [e] at d2;exact absurd d2 (Pt.asym hy)
   ·rw [e] at d2;exact absurd d2 (Pt.asym (Pt.lt_trans hy hz))
 ·rcases nz y (fun e=>ne1 h0 e.symm) (ne1 h1) with c | c
  ·rcases Pt.tri y (Pt.of V) with c2 | c2 | c2
   ·obtain ⟨z,d1,d2,d3⟩:=ivt (lp_pv p) c2 (show sgp p y*sgp p (Pt.of V)=-1 by rw [hv,c];rfl)
    rcases only z d3 with e | e
    ·rw [e] at d1;exact absurd d1 (Pt.asym h0)
    ·rw [e] at d2;exact absurd d2 (Pt.asym b1)
   ·rw [c2,hv] at c;cases c
   ·obtain ⟨z,d1,d2,d3⟩:=ivt (lp_pv p) c2 (show sgp p (Pt.of V)*sgp p y=-1 by rw [hv,c];rfl)
    rcases only z d3 with e | e
    ·rw [e] at d1;exact absurd d1 (Pt.asym a2)
    ·rw [e] at d2;exact absurd d2 (Pt.asym h1)
  ·exact c
 ·rcases nz y (fun e=>ne1 (Pt.lt_trans hz hy) e.symm) (fun e=>ne1 hy e.symm) with c | c
  ·exact c
  ·obtain ⟨t,k4,k5⟩:=hi y
   obtain ⟨z,d1,d2,d3⟩:=ivt (lp_pv p) k4 (show sgp p y*sgp p (Pt.of t)=-1 by rw [k5,c];rfl)
   rcases only z d3 with e | e
   ·rw [e] at d1;exact absurd d1 (Pt.asym (Pt.lt_trans hz hy))
   ·rw [e] at d1;exact absurd d1 (Pt.asym hy)
end Go.Proofs.YtipocabbjinbhaaGreat
namespace Go.Proofs.YtipocabbjinbhaaGreat
open Go.RowKit
def realn (p:List Int):Nat:=if p.length=2 then 1 else if 0<dsc p then 2 else 0
def cmpv (p:List Int) (k:Nat) (n d:Int):Int :=
 if p.length=2 then -sg (atv n d p) else if atv n d p<0 then 2*(k:Int)-1 else if -p.getD 1 0*d<2*p.getD 2 0*n then -1 else 1
noncomputable def rts (p:List Int):List Pt:=if h:plen p≠0 then (roots_ex h).choose else []
theorem rts_lst {p:List Int} (h:plen p≠0):Lst (fun x=>sgp p x=0) (rts p):=by
 unfold rts
 rw [dif_pos h]
 exact (roots_ex h).choose_spec
theorem qd_none {p:List Int} (h:isQd p) (hd:¬ 0<dsc p):dsc p<0:=by
 have:dsc p≠0:=fun e=>h.2.2 0 (by rw [e];rfl)
 omega
theorem frac_lt' {z z':Int} {q q':Int} (hq:0<q) (hq':0<q'):Pt.of ((z:Rat) / (q:Rat))<Pt.of ((z':Rat) / (q':Rat))↔z*q'<z'*q:=by
 obtain ⟨a,ha⟩:∃ a:Nat,q=(a:Int):=⟨q.toNat,by omega⟩
 obtain ⟨b,hb⟩:∃ b:Nat,q'=(b:Int):=⟨q'.toNat,by omega⟩
 subst ha hb
 have:=pt_lt (z:=z) (z':=z') (q:=a) (q':=b) (by omega) (by omega)
 exact this
theorem rts_irr {p:List Int} (h:isLin p∨isQd p):(rts p).length=realn p∧∀ k,(hk:k<(rts p).length)→∀ n d:Int,0<d →
 (0<cmpv p k n d↔Pt.of ((n:Rat) / (d:Rat))<(rts p)[k])∧(cmpv p k n d<0↔(rts p)[k]<Pt.of ((n:Rat) / (d:Rat)))∧(cmpv p k n d=1∨cmpv p k n d=0∨cmpv p k n d=-1):=by
 rcases h with h | h
 ·have hl:plen p≠0:=by rw [h.plen];decide
  have e:rts p=[Pt.of (((-p.getD 0 0:Int):Rat) / ((p.getD 1 0:Int):Rat))]:=(rts_lst hl).uniq ⟨by simp,fun x=>by show _↔sgp p x=0;rw [lin_root h];simp⟩
  rw [e]
  refine ⟨by unfold realn;rw [if_pos h.1];rfl,fun k hk n d hd=>?_⟩
  have hk0:k=0:=by simpa using hk
  subst hk0
  have ha:atv n d p=p.getD 1 0*n+p.getD 0 0*d:=by
   conv=>lhs;rw [list2 h.1]
   show (0*n+p.getD 1 0*d^0)*n+p.getD 0 0*d^1=_
   grind
  unfold cmpv
  rw [if_pos h.1,ha]
  show (_↔Pt.of _<Pt.of _)∧(_↔Pt.of _<Pt.of _)∧_
  rw [frac_lt' hd h.2,frac_lt' h.2 hd]
  have m1:n*p.getD 1 0=p.getD 1 0*n:=Int.mul_comm _ _
  have m2:-p.getD 0 0*d=-(p.getD 0 0*d):=Int.neg_mul _ _
  rw [m1,m2]
  generalize p.getD 1 0*n=X
  generalize p.getD 0 0*d=Y
  rcases sg_cases (X+Y) with ⟨c,e⟩ | ⟨c,e⟩ | ⟨c,e⟩<;>rw [e]<;>refine ⟨⟨?_,?_⟩,⟨?_,?_⟩,?_⟩<;>omega
 ·have hl:plen p≠0:=by rw [h.plen];decide
  have h2:¬ p.length=2:=by rw [h.1];decide
  by_cases hd:0<dsc p
  ·obtain ⟨z0,z1,hz,hL,hv0,hv1,g0,g1,g2⟩:=qd_roots h hd
   have e:rts p=[z0,z1]:=(rts_lst hl).uniq hL
   rw [e]
   refine ⟨by unfold realn;rw [if_neg h2,if_pos hd];rfl,fun k hk n d hd=>?_⟩
   have hne:=qd_rat h hd (n:=n)
   have hsg:=atv_sg (n:=n) hd p
   have hc2:0<2*p.getD 2 0:=by have:=h.2.1;omega
   have hV:=frac_lt' (z:=-p.getD 1 0) (q:=2*p.getD 2 0) (z':=n) (q':=d) hc2 hd
   have hV2:=frac_lt' (z':=-p.getD 1 0) (q':=2*p.getD 2 0) (z:=n) (q:=d) hd hc2
   unfold cmpv
   rw [if_neg h2]
   rw [show 2*p.getD 2 0*n=n*(2*p.getD 2 0) from Int.mul_comm _ _]
   generalize hy:Pt.of ((n:Rat) / (d:Rat))=y at *
   generalize Pt.of (((-p.getD 1 0:Int):Rat) / ((2*p.getD 2 0:Int):Rat))=V at *
   have key:(atv n d p<0∧z0<y∧y<z1)∨(0<atv n d p∧y<z0∧¬ V<y)∨(0<atv n d p∧z1<y∧V<y):=by
    rcases Pt.tri y z0 with c | c | c
    ·right;left
     have:=g0 y c
     rw [this] at hsg
     exact ⟨by rcases sg_cases (atv n d p) with ⟨_,e⟩ | ⟨_,e⟩ | ⟨_,e⟩<;>omega,c,fun h=>Pt.asym h (Pt.lt_trans c hv0)⟩
    ·exact absurd ((hL.2 y).1 (by rw [c];simp)) hne
    ·rcases Pt.tri y z1 with c2 | c2 | c2
     ·left
      have:=g1 y c c2
      rw [this] at hsg
      exact ⟨by rcases sg_cases (atv n d p) with ⟨_,e⟩ | ⟨_,e⟩ | ⟨_,e⟩<;>omega,c,c2⟩
     ·exact absurd ((hL.2 y).1 (by rw [c2];simp)) hne
     ·right;right
      have:=g2 y c2
      rw [this] at hsg
      exact ⟨by rcases sg_cases (atv n d p) with ⟨_,e⟩ | ⟨_,e⟩ | ⟨_,e⟩<;>omega,c2,Pt.lt_trans hv1 c2⟩
   have hk2:k=0∨k=1:=by simp at hk;omega
   rcases key with ⟨k1,k2,k3⟩ | ⟨k1,k2,k3⟩ | ⟨k1,k2,k3⟩
   ·rw [if_pos k1]
    rcases hk2 with rfl | rfl
    ·exact ⟨⟨fun h=>absurd h (by decide),fun h=>absurd k2 (Pt.asym h)⟩,⟨fun _=>k2,fun _=>by decide⟩,by decide⟩
    ·exact ⟨⟨fun _=>k3,fun _=>by decide⟩,⟨fun h=>absurd h (by decide),fun h=>absurd k3 (Pt.asym h)⟩,by decide⟩
   ·rw [if_neg (by omega),if_neg (fun h=>k3 (hV.2 h))]
    rcases hk2 with rfl | rfl
    ·exact ⟨⟨fun _=>k2,fun _=>by decide⟩,⟨fun h=>absurd h (by decide),fun h=>absurd k2 (Pt.asym h)⟩,by decide⟩
    ·exact ⟨⟨fun _=>Pt.lt_trans k2 hz,fun _=>by decide⟩,⟨fun h=>absurd h (by decide),fun h=>absurd (Pt.lt_trans k2 hz) (Pt.asym h)⟩,by decide⟩
   ·rw [if_neg (by omega),if_pos (hV.1 k3)]
    rcases hk2 with rfl | rfl
    ·exact ⟨⟨fun h=>absurd h (by decide),fun h=>absurd (Pt.lt_trans hz k2) (Pt.asym h)⟩,⟨fun _=>Pt.lt_trans hz k2,fun _=>by decide⟩,by decide⟩
    ·exact ⟨⟨fun h=>absurd h (by decide),fun h=>absurd k2 (Pt.asym h)⟩,⟨fun _=>k2,fun _=>by decide⟩,by decide⟩
  ·have hn:=qd_none h hd
   have e:rts p=[]:=(rts_lst hl).uniq ⟨List.Pairwise.nil,fun x=>⟨fun h=>(by cases h),fun h0=>absurd h0 (qd_sgp h hn x)⟩⟩
   rw [e]
   exact ⟨by unfold realn;rw [if_neg h2,if_neg hd];rfl,fun k hk=>absurd hk (Nat.not_lt_zero k)⟩
theorem irr_prop {p r:List Int} (hp:Irr p) (hr:Irr r) (hl:p.length=r.length) {a b:Int} (ha:0<a) (hb:0<b) (h:∀ k,a*p.getD k 0=b*r.getD k 0):p=r:=by
 have h1:pcont (psc a p)=pcont (psc b r):=pcont_ext fun k=>by rw [psc_get,psc_get,h]
 rw [pcont_psc,pcont_psc,hp.2,hr.2] at h1
 have hab:a=b:=by omega
 subst hab
 refine List.ext_getElem hl fun k h2 h3=>?_
 have:=Int.eq_of_mul_eq_mul_left (by omega) (h k)
 rw [List.getD_eq_getElem?_getD,List.getElem?_eq_getElem h2,List.getD_eq_getElem?_getD,List.getElem?_eq_getElem h3] at this
 exact this
theorem irr_apart {p r:List Int} (hp:Irr p) (hr:Irr r) {x:Pt} (h1:sgp p x=0) (h2:sgp r x=0):p=r:=by
 rcases hp.1 with p1 | p1<;>rcases hr.1 with r1 | r1
 ·have e1:=(lin_root p1 x).1 h1
  have e2:=(lin_root r1 x).1 h2
  rw [e1] at e2
  have e3:-p.getD 0 0*r.getD 1 0=-r.getD 0 0*p.getD 1 0:=by
   have c1:¬ -p.getD 0 0*r.getD 1 0 < -r.getD 0 0*p.getD 1 0:=fun c=>by
    have:=(frac_lt' p1.2 r1.2).2 c
    rw [e2] at this
    exact Pt.irr _ this
   have c2:¬ -r.getD 0 0*p.getD 1 0 < -p.getD 0 0*r.getD 1 0:=fun c=>by
    have:=(frac_lt' r1.2 p1.2).2 c
    rw [e2] at this
    exact Pt.irr _ this
   omega
  refine irr_prop hp hr (by rw [p1.1,r1.1]) r1.2 p1.2 fun k=>?_
  match k with
  | 0=>grind
  | 1=>exact Int.mul_comm _ _
  | k+2=>rw [getD_ge_plen p (k+2) (by rw [p1.plen];omega),getD_ge_plen r (k+2) (by rw [r1.plen];omega),Int.mul_zero,Int.mul_zero]
 ·rw [(lin_root p1 x).1 h1] at h2
  exact absurd h2 (qd_rat r1 p1.2)
 ·rw [(lin_root r1 x).1 h2] at h1
  exact absurd h1 (qd_rat p1 r1.2)
 ·obtain ⟨L,hL⟩:∃ L,L=padd (psc (r.getD 2 0) p) (psc (-p.getD 2 0) r):=⟨_,rfl⟩
  have hg:∀ k,L.getD k 0=r.getD 2 0*p.getD k 0-p.getD 2 0*r.getD k 0:=fun k=>by rw [hL,padd_get,psc_get,psc_get,Int.neg_mul];omega
  have hz:sgp (psc (-p.getD 2 0) r) x=0:=by rw [sgp_psc,h2,Int.mul_zero]
  have hL0:sgp L x=0:=by rw [hL,sgp_add0 hz,sgp_psc,h1,Int.mul_zero]
  have hpl:plen L≤2:=plen_le_of fun k hk=>by
   rw [hg]
   match k,hk with
   | 2,_=>rw [Int.mul_comm];omega
   | k+3,_=>rw [getD_ge_plen p (k+3) (by rw [p1.plen];omega),getD_ge_plen r (k+3) (by rw [r1.plen];omega)];omega
  have hb:L.getD 1 0=0:=Classical.byContradiction fun hb=>by
   -- the common root would be a fraction
   obtain ⟨M,hM,hM1,hM0⟩:∃ M:List Int,isLin M∧sgp M x=0∧True:=by
    rcases Int.lt_or_gt_of_ne hb with c | c
    ·refine ⟨[-L.getD 0 0,-L.getD 1 0],⟨rfl,by show 0 < -L.getD 1 0;omega⟩,?_,trivial⟩
     have:∀ k,([-L.getD 0 0,-L.getD 1 0]:List Int).getD k 0=(psc (-1) L).getD k 0:=fun k=>by
      rw [psc_get]
      match k with
      | 0=>show -L.getD 0 0=_;omega
      | 1=>show -L.getD 1 0=_;omega
      | k+2=>rw [getD_ge_plen L (k+2) (by omega)];rfl
     rw [sgp_congr this,sgp_psc,hL0,Int.mul_zero]
    ·refine ⟨[L.getD 0 0,L.getD 1 0],⟨rfl,c⟩,?_,trivial⟩
     have:∀ k,([L.getD 0 0,L.getD 1 0]:List Int).getD k 0=L.getD k 0:=fun k=>by
      match k with
      | 0=>rfl
      | 1=>rfl
      | k+2=>rw [getD_ge_plen L (k+2) (by omega)];rfl
     rw [sgp_congr this,hL0]
   rw [(lin_root hM x).1 hM1] at h1
   exact absurd h1 (qd_rat p1 hM.2)
  have ha:L.getD 0 0=0:=by
   have:∀ k,([L.getD 0 0]:List Int).getD k 0=L.getD k 0:=fun k=>by
    match k with
    | 0=>rfl
    | 1=>exact hb.symm
    | k+2=>rw [getD_ge_plen L (k+2) (by omega)];rfl
   rw [← sgp_congr this,sgp_const] at hL0
   rcases sg_cases (L.getD 0 0) with ⟨_,e⟩ | ⟨c,_⟩ | ⟨_,e⟩<;>first | exact c | omega
  refine irr_prop hp hr (by rw [p1.1,r1.1]) r1.2.1 p1.2.1 fun k=>?_
  have:=hg k
  match k with
  | 0=>rw [ha] at this;omega
  | 1=>rw [hb] at this;omega
  | k+2=>rw [getD_ge_plen L (k+2) (by omega)] at this;omega
def Dis (l:List (List Int×Nat)):Prop:=l.Pairwise fun a b=>a.1≠b.1
theorem with_dis {p:List Int}:∀ {l:List (List Int×Nat)},Dis l→Dis (withf l p)∧∀ y∈withf l p,y.1=p∨∃ z∈l,y.1=z.1
 | [],_=>⟨List.pairwise_singleton _ _,fun y hy=>.inl (by rw [List.mem_singleton.1 hy])⟩
 | (r,m) :: l,h=>by
   have h':=List.pairwise_cons.1 h
   unfold withf
   split
   ·rename_i e
    refine ⟨List.pairwise_cons.2 ⟨fun y hy=>h'.1 y hy,h'.2⟩,fun y hy=>?_⟩
    rcases List.mem_cons.1 hy with e2 | e2
    ·rw [e2];exact .inl e
    ·exact .inr ⟨y,List.mem_cons_of_mem _ e2,rfl⟩
   ·rename_i e
    obtain ⟨i1,i2⟩:=with_dis (p:=p) h'.2
    refine ⟨List.pairwise_cons.2 ⟨fun y hy e3=>?_,i1⟩,fun y hy=>?_⟩
    ·rcases i2 y hy with c | ⟨z,hz,c⟩
     ·exact e (by rw [← c];exact e3)
     ·exact h'.1 z hz (by rw [← c];exact e3)
    ·rcases List.mem_cons.1 hy with e2 | e2
     ·exact .inr ⟨(r,m),List.mem_cons_self,by rw [e2]⟩
     ·rcases i2 y e2 with c | ⟨z,hz,c⟩
      ·exact .inl c
      ·exact .inr ⟨z,List.mem_cons_of_mem _ hz,c⟩
theorem addf_dis:∀ {ps:List (List Int)} {l:List (List Int×Nat)},Dis l→Dis (addf l ps)
 | [],_,h=>h
 | p :: ps,l,h=>show Dis (addf (withf l p) ps) from addf_dis (ps:=ps) (with_dis h).1
theorem facs_dis:∀ {qs:List (List Int)} {l:List (List Int×Nat)},Dis l→Dis (facs l qs)
 | [],_,h=>h
 | q :: qs,l,h=>show Dis (facs (addf l (spl q)) qs) from facs_dis (qs:=qs) (addf_dis h)
theorem nrm_cont {p:List Int} (h:plen p≠0):pcont (nrm p)=1:=by
 have h1:pcont (psc (rnu p) (nrm p))=pcont p:=pcont_ext fun k=>by rw [psc_get,nrm_get h]
 rw [pcont_psc] at h1
 have h2:(rnu p).natAbs=pcont p:=by unfold rnu;split<;>omega
 rw [h2] at h1
 exact Nat.eq_of_mul_eq_mul_left (Nat.pos_of_ne_zero (pcont_ne h)) (by rw [h1,Nat.mul_one])
theorem spl_irr {q:List Int} (h:plen q≠0) (h3:plen q≤3):∀ p∈spl q,Irr p:=fun p hp=>⟨(spl_spec h h3).1 p hp,by
 have hld:=nrm_lead h
 unfold spl at hp
 split at hp
 ·cases hp
 ·split at hp
  ·rw [List.mem_singleton.1 hp];exact nrm_cont h
  ·have c3:plen q=3:=by omega
   rw [c3] at hld
   have hn:∀ z:Int,plen [(nrm q).getD 1 0+z,2*(nrm q).getD 2 0]≠0:=fun z=>by
    rw [plen_cons_succ (by rw [plen_cons_one rfl (by show 2*(nrm q).getD 2 0≠0;have:0<(nrm q).getD 2 0:=hld;omega)];omega)]
    omega
   split at hp
   ·rcases List.mem_cons.1 hp with e | e
    ·rw [e];exact nrm_cont (hn _)
    ·rw [List.mem_singleton.1 e];exact nrm_cont (hn _)
   ·rw [List.mem_singleton.1 hp];exact nrm_cont h⟩
theorem facs_irr {qs:List (List Int)} (hq:∀ q∈qs,plen q≠0∧plen q≤3):∀ x∈facs [] qs,Irr x.1:=facs_mem (fun q h=>spl_irr (hq q h).1 (hq q h).2) (fun x hx=>by cases hx)
def lsum (J:List Int→Int):List (List Int×Nat)→Int
 | []=>0
 | (r,_) :: l=>J r+lsum J l
theorem lsum_congr {J K:List Int→Int}:∀ {l:List (List Int×Nat)},(∀ x∈l,J x.1=K x.1)→lsum J l=lsum K l
 | [],_=>rfl
 | (r,m) :: l,h=>by
   show J r+lsum J l=K r+lsum K l
   rw [h (r,m) List.mem_cons_self,lsum_congr fun q hq=>h q (List.mem_cons_of_mem _ hq)]
theorem isum_lsum (J:Pt→List Int→Int) (xs:List Pt):∀ l:List (List Int×Nat),isum (xs.map fun x=>lsum (J x) l)=lsum (fun p=>isum (xs.map fun x=>J x p)) l
 | []=>isum_zero xs fun _ _=>rfl
 | (r,m) :: l=>by
   show isum (xs.map fun x=>J x r+lsum (J x) l)=_+_
   rw [isum_add (fun x=>J x r) (fun x=>lsum (J x) l),isum_lsum J xs l]
theorem lsum_zero {J:List Int→Int}:∀ {l:List (List Int×Nat)},(∀ x∈l,J x.1=0)→lsum J l=0
 | [],_=>rfl
 | (r,m) :: l,h=>by
   show J r+lsum J l=0
   rw [h (r,m) List.mem_cons_self,lsum_zero fun q hq=>h q (List.mem_cons_of_mem _ hq)]
   rfl
theorem lsum_hit {x:Pt} {c:Int}:∀ {l:List (List Int×Nat)},Dis l→(∀ y∈l,Irr y.1)→(∃ y∈l,sgp y.1 x=0)→lsum (fun p=>if sgp p x=0 then c else 0) l=c
 | [],_,_,⟨y,hy,_⟩=>by cases hy
 | (r,m) :: l,hd,hi,⟨y,hy,h0⟩=>by
   have hd':=List.pairwise_cons.1 hd
   show (if sgp r x=0 then c else 0)+lsum _ l=c
   by_cases hr:sgp r x=0
   ·rw [if_pos hr,lsum_zero fun z hz=>?_,Int.add_zero]
    exact if_neg fun hz0=>hd'.1 z hz (irr_apart (hi (r,m) List.mem_cons_self) (hi z (List.mem_cons_of_mem _ hz)) hr hz0)
   ·rw [if_neg hr,Int.zero_add]
    refine lsum_hit hd'.2 (fun z hz=>hi z (List.mem_cons_of_mem _ hz)) ?_
    rcases List.mem_cons.1 hy with e | e
    ·rw [e] at h0;exact absurd h0 hr
    ·exact ⟨y,e,h0⟩
theorem prod_root {qs:List (List Int)} (hq:∀ q∈qs,plen q≠0∧plen q≤3) (x:Pt):sgp (prodf [1] qs) x=0↔∃ y∈facs [] qs,sgp y.1 x=0:=by
 have hP:plen (prodf [1] qs)≠0:=(prodf_mult (Pt.of 0) qs [1] (by decide) fun q h=>(hq q h).1).1
 have hm:=mult_prod hq x
 have hi:=facs_irr hq
 constructor
 ·intro h
  refine Classical.byContradiction fun hn=>?_
  have h1:mult x (prodf [1] qs)≠0:=fun e=>(mult_zero hP).1 e h
  have h2:fsum (fun p=>(mult x p:Int)) (facs [] qs)=fsum (fun _=>0) (facs [] qs):=fsum_congr fun y hy=>by
   have:mult x y.1=0:=(mult_zero (hi y hy).ne).2 fun e=>hn ⟨y,hy,e⟩
   show (mult x y.1:Int)=0
   omega
  have h3:∀ l:List (List Int×Nat),fsum (fun _=>0) l=0:=fun l=>by
   induction l with
   | nil=>rfl
   | cons a l ih=>show (a.2:Int)*0+fsum _ l=0;rw [ih];omega
  rw [h2,h3] at hm
  omega
 ·rintro ⟨y,hy,h⟩
  refine Classical.byContradiction fun hn=>?_
  have h1:=(mult_zero hP).2 hn
  rw [h1] at hm
  exact (mult_zero (hi y hy).ne).1 (fsum_zero hm.symm (facs_pos (fun z hz=>by cases hz)) y hy) h
theorem prod_sum {qs:List (List Int)} (hq:∀ q∈qs,plen q≠0∧plen q≤3) (J:Pt→Int) {xs:List Pt} (hx:Lst (fun x=>sgp (prodf [1] qs) x=0) xs):isum (xs.map J)=lsum (fun p=>isum ((rts p).map J)) (facs [] qs):=by
 have hi:=facs_irr hq
 have hd:Dis (facs [] qs):=facs_dis List.Pairwise.nil
 have e1:isum (xs.map J)=isum (xs.map fun x=>lsum (fun p=>if sgp p x=0 then J x else 0) (facs [] qs)):=by
  congr 1
  exact List.map_congr_left fun x h=>(lsum_hit hd hi ((prod_root hq x).1 ((hx.2 x).1 h))).symm
 rw [e1,isum_lsum (fun x p=>if sgp p x=0 then J x else 0)]
 refine lsum_congr fun y hy=>?_
 have hr:=rts_lst (hi y hy).ne
 rw [isum_eq (fun x=>if sgp y.1 x=0 then J x else 0) hx hr (fun x h=>(prod_root hq x).2 ⟨y,hy,h⟩) fun x _ h=>if_neg h]
 congr 1
 exact List.map_congr_left fun x h=>if_pos ((hr.2 x).1 h)
def ksum (j:Nat→Int):Nat→Int
 | 0=>0
 | k+1=>ksum j k+j k
theorem isum_append (xs ys:List Int):isum (xs ++ ys)=isum xs+isum ys:=by
 induction xs with
 | nil=>show _=0+_;rw [Int.zero_add];rfl
 | cons a xs ih=>show a+isum (xs ++ ys)=a+isum xs+isum ys;omega
theorem isum_ksum (J:Pt→Int) (j:Nat→Int):∀ (n:Nat) (xs:List Pt),xs.length=n→(∀ k,(h:k<xs.length)→J xs[k]=j k)→isum (xs.map J)=ksum j n
 | 0,xs,h,_=>by rw [List.eq_nil_of_length_eq_zero h];rfl
 | n+1,xs,h,hj=>by
   have hne:xs≠[]:=fun e=>by rw [e] at h;cases h
   have hs:xs=xs.dropLast ++ [xs.getLast hne]:=(List.dropLast_concat_getLast hne).symm
   have hlen:xs.dropLast.length=n:=by rw [List.length_dropLast,h];rfl
   have h1:=isum_ksum J j n xs.dropLast hlen fun k hk=>by
    rw [List.getElem_dropLast]
    exact hj k (by omega)
   have h2:J (xs.getLast hne)=j n:=by
    rw [List.getLast_eq_getElem]
    have:=hj (xs.length-1) (by omega)
    rw [this]
    congr 1
    omega
   rw [hs,List.map_append,isum_append,h1]
   show _+(J (xs.getLast hne)+0)=ksum j n+j n
   omega
end Go.Proofs.YtipocabbjinbhaaGreat
namespace Go.Proofs.YtipocabbjinbhaaGreat
open Go.RowKit
theorem sgp_addp {p r:List Int} {x:Pt} (h:sgp p x=1) (h':sgp r x=1):sgp (padd p r) x=1:=by
 have e:sgp (padd p r) x=sgf (fun q=>pv p q+pv r q) x:=by
  unfold sgp
  congr 1
  funext q
  exact pv_padd _ _ q
 rw [e]
 exact sgf_addp h h'
theorem sgp_addn {p r:List Int} {x:Pt} (h:sgp p x=-1) (h':sgp r x=-1):sgp (padd p r) x=-1:=by
 have h1:sgp (psc (-1) (padd p r)) x=1:=by
  have e:∀ t,ev (psc (-1) (padd p r)) t=ev (padd (psc (-1) p) (psc (-1) r)) t:=fun t=>by rw [ev_psc,ev_padd,ev_padd,ev_psc,ev_psc];grind
  rw [sgp_ev e]
  exact sgp_addp (by rw [sgp_psc,h];rfl) (by rw [sgp_psc,h'];rfl)
 rw [sgp_psc] at h1
 have:sg (-1:Int)=-1:=rfl
 rw [this] at h1
 omega
def valv (a b n:Int):Int:=if sg a=sg b∨b=0 then sg a else if a=0 then sg b else sg a*sg (a*a-b*b*n)
theorem val_sgp {T:List Int} {x:Pt} {n e a b:Int} (he:e=1∨e=-1) (hT:sgp T x=e) (h2:sgp (padd (polymul T T) [-n]) x=0):sgp (padd [a] (psc b T)) x=valv a (e*b) n:=by
 have e1:sgp (psc b T) x=sg (e*b):=by
  rw [sgp_psc,hT]
  rcases he with rfl | rfl
  ·rw [Int.one_mul,Int.mul_one]
  ·rw [show (-1:Int)*b=-b by omega]
   rcases sg_cases b with ⟨c,h⟩ | ⟨c,h⟩ | ⟨c,h⟩
   ·rw [h,sgq (show 0 < -b by omega)];rfl
   ·rw [c];rfl
   ·rw [h,sgqn (show -b<0 by omega)];rfl
 have e0:sgp [a] x=sg a:=sgp_const a x
 have hbb:e*b*(e*b)=b*b:=by rcases he with rfl | rfl<;>grind
 have hb0:e*b=0↔b=0:=by rcases he with rfl | rfl<;>omega
 unfold valv
 rw [hbb]
 obtain ⟨B,hB⟩:∃ B,B=e*b:=⟨_,rfl⟩
 rw [← hB] at e1 hb0 ⊢
 by_cases c1:B=0
 ·rw [if_pos (.inr c1)]
  rw [sgp_add0 (by rw [e1,c1];rfl),e0]
 ·by_cases c2:a=0
  ·have hz:sgp [a] x=0:=by rw [e0,c2];rfl
   have hc:∀ t,ev (padd [a] (psc b T)) t=ev (padd (psc b T) [a]) t:=fun t=>by rw [ev_padd,ev_padd,Int.add_comm]
   have hne:¬ (sg a=sg B∨B=0):=fun h=>by
    rcases h with h | h
    ·rw [c2] at h
     exact sg_ne c1 h.symm
    ·exact c1 h
   rw [if_neg hne,if_pos c2,sgp_ev hc,sgp_add0 hz,e1]
  ·by_cases c3:sg a=sg B
   ·rw [if_pos (.inl c3)]
    rcases sg_cases a with ⟨c,h⟩ | ⟨c,h⟩ | ⟨c,h⟩
    ·rw [h];exact sgp_addn (by rw [e0,h]) (by rw [e1,← c3,h])
    ·exact absurd c c2
    ·rw [h];exact sgp_addp (by rw [e0,h]) (by rw [e1,← c3,h])
   ·rw [if_neg (by rintro (h | h)<;>contradiction),if_neg c2]
    -- (a + b t) (a - b t) = a^2 - b^2 n - b^2 (t^2 - n)
    have m1:∀ t,ev (polymul (padd [a] (psc b T)) (padd [a] (psc (-b) T))) t=ev (padd [a*a-b*b*n] (psc (-(b*b)) (padd (polymul T T) [-n]))) t:=fun t=>by
     have k:∀ c:Int,ev [c] t=c:=fun c=>by rw [rev_cons,show ev [] t=0 from rfl,Int.mul_zero,Int.add_zero]
     rw [ev_mul,ev_padd,ev_padd,ev_padd,ev_psc,ev_psc,ev_psc,ev_padd,ev_mul,k,k,k]
     grind
    have m2:=sgp_ev m1 x
    rw [sgp_mul,sgp_add0 (p:=[a*a-b*b*n]) (r:=psc (-(b*b)) (padd (polymul T T) [-n])) (by rw [sgp_psc,h2,Int.mul_zero]),sgp_const] at m2
    have e2:sgp (psc (-b) T) x=-sg B:=by
     have:sgp (psc (-b) T) x=-sgp (psc b T) x:=by
      rw [sgp_psc,sgp_psc]
      rcases sg_cases b with ⟨c,h⟩ | ⟨c,h⟩ | ⟨c,h⟩
      ·rw [h,sgq (show 0 < -b by omega)];omega
      ·exact absurd (hb0.2 c) c1
      ·rw [h,sgqn (show -b<0 by omega)];omega
     rw [this,e1]
    have e3:sgp (padd [a] (psc (-b) T)) x=sg a:=by
     rcases sg_cases a with ⟨c,h⟩ | ⟨c,h⟩ | ⟨c,h⟩
     ·rw [h]
      refine sgp_addn (by rw [e0,h]) ?_
      rw [e2]
      rw [h] at c3
      rcases sg_cases B with ⟨_,h2⟩ | ⟨c4,_⟩ | ⟨_,h2⟩
      ·exact absurd h2.symm c3
      ·exact absurd c4 c1
      ·rw [h2]
     ·exact absurd c c2
     ·rw [h]
      refine sgp_addp (by rw [e0,h]) ?_
      rw [e2]
      rw [h] at c3
      rcases sg_cases B with ⟨_,h2⟩ | ⟨c4,_⟩ | ⟨_,h2⟩
      ·rw [h2];rfl
      ·exact absurd c4 c1
      ·exact absurd h2.symm c3
    rw [e3] at m2
    rw [← m2]
    have hs:sg a*sg a=1:=by rcases sg_cases a with ⟨c,h⟩ | ⟨c,h⟩ | ⟨c,h⟩<;>first | exact absurd c c2 | (rw [h];rfl)
    have:sg a*(sgp (padd [a] (psc b T)) x*sg a)=sgp (padd [a] (psc b T)) x*(sg a*sg a):=by grind
    rw [this,hs,Int.mul_one]
def rstep (p:List Int):List Int→List Int
 | [a,b,c]=>[a*p.getD 2 0-c*p.getD 0 0,b*p.getD 2 0-c*p.getD 1 0]
 | a :: t=>a*p.getD 2 0 :: rstep p t
 | []=>[]
theorem rstep_ev {p:List Int} (hp:p.length=3):∀ (k:Nat) (r:List Int),r.length=k+3→∃ c:Int,∀ t,p.getD 2 0*ev r t=ev (rstep p r) t+c*t^k*ev p t
 | 0,[a,b,c],_=>⟨c,fun t=>by
   rw [show rstep p [a,b,c]=[a*p.getD 2 0-c*p.getD 0 0,b*p.getD 2 0-c*p.getD 1 0] from rfl,ev2,ev3]
   conv=>rhs;rw [list3 hp]
   rw [ev3]
   simp only [List.getD_cons_zero,List.getD_cons_succ]
   grind⟩
 | k+1,a :: b :: c :: d :: r,h=>by
   obtain ⟨e,he⟩:=rstep_ev hp k (b :: c :: d :: r) (by simpa using h)
   refine ⟨e,fun t=>?_⟩
   rw [show rstep p (a :: b :: c :: d :: r)=a*p.getD 2 0 :: rstep p (b :: c :: d :: r) from rfl,rev_cons a,rev_cons (a*p.getD 2 0)]
   have:=he t
   generalize ev (b :: c :: d :: r) t=E at *
   generalize ev (rstep p (b :: c :: d :: r)) t=R at *
   rw [Int.pow_succ]
   generalize t^k=T at *
   grind
theorem rstep_len (p:List Int):∀ (k:Nat) (r:List Int),r.length=k+3→(rstep p r).length=k+2
 | 0,[a,b,c],_=>rfl
 | k+1,a :: b :: c :: d :: r,h=>by
   show (rstep p (b :: c :: d :: r)).length+1=_
   rw [rstep_len p k (b :: c :: d :: r) (by simpa using h)]
theorem rstep_sgp {p:List Int} (h:isQd p) {r:List Int} (hr:3≤r.length) {x:Pt} (h0:sgp p x=0):sgp (rstep p r) x=sgp r x:=by
 obtain ⟨k,hk⟩:∃ k,r.length=k+3:=⟨r.length-3,by omega⟩
 obtain ⟨c,hc⟩:=rstep_ev h.1 k r hk
 -- the monomial
 obtain ⟨m,hm⟩:∃ m:List Int,∀ t,ev m t=c*t^k:=by
  clear hc hk
  induction k with
  | zero=>exact ⟨[c],fun t=>by rw [rev_cons,show ev [] t=0 from rfl];simp⟩
  | succ k ih =>
    obtain ⟨m,hm⟩:=ih
    exact ⟨0 :: m,fun t=>by rw [rev_cons,hm,Int.pow_succ];grind⟩
 have e:∀ t,ev (psc (p.getD 2 0) r) t=ev (padd (rstep p r) (polymul m p)) t:=fun t=>by rw [ev_psc,ev_padd,ev_mul,hm,hc]
 have h1:=sgp_ev e x
 rw [sgp_psc,sgq h.2.1,Int.one_mul,sgp_add0 (by rw [sgp_mul,h0,Int.mul_zero])] at h1
 exact h1.symm
def redq (p:List Int):Nat→List Int→List Int
 | 0,r=>r
 | n+1,r=>if 2<r.length then redq p n (rstep p r) else r
theorem redq_sgp {p:List Int} (h:isQd p) {x:Pt} (h0:sgp p x=0):∀ (n:Nat) (r:List Int),sgp (redq p n r) x=sgp r x
 | 0,_=>rfl
 | n+1,r=>by
   unfold redq
   split
   ·rename_i c
    rw [redq_sgp h h0 n,rstep_sgp h (by omega) h0]
   ·rfl
theorem redq_len (p:List Int):∀ (n:Nat) (r:List Int),r.length≤n+2→(redq p n r).length≤2
 | 0,r,h=>h
 | n+1,r,h=>by
   unfold redq
   split
   ·rename_i c
    obtain ⟨k,hk⟩:∃ k,r.length=k+3:=⟨r.length-3,by omega⟩
    exact redq_len p n _ (by rw [rstep_len p k r hk];omega)
   ·omega
def sgnd (p:List Int) (k:Nat) (g:List Int):Int :=
 if p.length=2 then sg (atv (-p.getD 0 0) (p.getD 1 0) g)
 else valv (2*p.getD 2 0*(redq p g.length g).getD 0 0-(redq p g.length g).getD 1 0*p.getD 1 0) (if k=0 then -(redq p g.length g).getD 1 0 else (redq p g.length g).getD 1 0) (dsc p)
theorem sgnd_eq {p:List Int} (h:isLin p∨isQd p) (g:List Int) (k:Nat) (hk:k<(rts p).length):sgnd p k g=sgp g (rts p)[k]:=by
 rcases h with h | h
 ·have hl:plen p≠0:=by rw [h.plen];decide
  have e:rts p=[Pt.of (((-p.getD 0 0:Int):Rat) / ((p.getD 1 0:Int):Rat))]:=(rts_lst hl).uniq ⟨by simp,fun x=>by show _↔sgp p x=0;rw [lin_root h];simp⟩
  have hk0:k=0:=by rw [e] at hk;simpa using hk
  subst hk0
  unfold sgnd
  rw [if_pos h.1,atv_sg h.2]
  simp only [e,List.getElem_cons_zero]
 ·have hl:plen p≠0:=by rw [h.plen];decide
  have h2:¬ p.length=2:=by rw [h.1];decide
  have hd:0<dsc p:=Classical.byContradiction fun hd=>by
   have:rts p=[]:=(rts_lst hl).uniq ⟨List.Pairwise.nil,fun x=>⟨fun h=>(by cases h),fun h0=>absurd h0 (qd_sgp h (qd_none h hd) x)⟩⟩
   rw [this] at hk
   exact Nat.not_lt_zero _ hk
  obtain ⟨z0,z1,hz,hL,hv0,hv1,g0,g1,g2⟩:=qd_roots h hd
  have e:rts p=[z0,z1]:=(rts_lst hl).uniq hL
  have h0:sgp p (rts p)[k]=0:=((rts_lst hl).2 _).1 (List.getElem_mem hk)
  have hc2:0<2*p.getD 2 0:=by have:=h.2.1;omega
  -- the line through the vertex
  have hT:sgp [p.getD 1 0,2*p.getD 2 0] (rts p)[k]=if k=0 then -1 else 1:=by
   have hlt:isLin [p.getD 1 0,2*p.getD 2 0]:=⟨rfl,hc2⟩
   have hroot:=lin_root hlt
   have hV:Pt.of (((-([p.getD 1 0,2*p.getD 2 0]:List Int).getD 0 0:Int):Rat) / ((([p.getD 1 0,2*p.getD 2 0]:List Int).getD 1 0:Int):Rat))=Pt.of (((-p.getD 1 0:Int):Rat) / ((2*p.getD 2 0:Int):Rat)):=rfl
   rw [hV] at hroot
   generalize Pt.of (((-p.getD 1 0:Int):Rat) / ((2*p.getD 2 0:Int):Rat))=V at *
   have hder:∀ z,sgp (pder [p.getD 1 0,2*p.getD 2 0]) z=1:=fun z=>by
    have e2:∀ j,(pder [p.getD 1 0,2*p.getD 2 0]).getD j 0=([2*p.getD 2 0]:List Int).getD j 0:=fun j=>by
     rw [pder_getD]
     match j with
     | 0=>show 2*p.getD 2 0*((0:Nat)+1)=2*p.getD 2 0;simp
     | j+1=>rw [getD_out [p.getD 1 0,2*p.getD 2 0] (by simp),Int.zero_mul];rfl
    rw [sgp_congr e2,sgp_const,sgq hc2]
   have hk2:k=0∨k=1:=by rw [e] at hk;simp at hk;omega
   have hV0:sgp [p.getD 1 0,2*p.getD 2 0] V=0:=(hroot V).2 rfl
   rcases hk2 with rfl | rfl
   ·simp only [e,List.getElem_cons_zero,if_true]
    rcases sgp_or [p.getD 1 0,2*p.getD 2 0] z0 with c | c | c
    ·have:=sgp_rise hv0 (fun z _ _=>hder z) (by rw [c];decide)
     rw [hV0] at this
     cases this
    ·exact c
    ·rw [(hroot z0).1 c] at hv0
     exact absurd hv0 (Pt.irr _)
   ·simp only [e,List.getElem_cons_succ,List.getElem_cons_zero]
    rw [if_neg (by decide)]
    exact sgp_rise hv1 (fun z _ _=>hder z) (by rw [hV0];decide)
  have h4:sgp (padd (polymul [p.getD 1 0,2*p.getD 2 0] [p.getD 1 0,2*p.getD 2 0]) [-dsc p]) (rts p)[k]=0:=by
   have e2:∀ t,ev (padd (polymul [p.getD 1 0,2*p.getD 2 0] [p.getD 1 0,2*p.getD 2 0]) [-dsc p]) t=ev (psc (4*p.getD 2 0) p) t:=fun t=>by
    rw [ev_psc,ev_padd,ev_mul,ev2,rev_cons (-dsc p),show ev [] t=0 from rfl]
    unfold dsc
    conv=>rhs;rw [list3 h.1]
    rw [ev3]
    simp only [List.getD_cons_zero,List.getD_cons_succ]
    grind
   rw [sgp_ev e2,sgp_psc,h0,Int.mul_zero]
  unfold sgnd
  rw [if_neg h2,← redq_sgp h h0 g.length g]
  have hlen:=redq_len p g.length g (by omega)
  generalize redq p g.length g=r at *
  have hr:∀ t,ev (psc (2*p.getD 2 0) r) t=ev (padd [2*p.getD 2 0*r.getD 0 0-r.getD 1 0*p.getD 1 0] (psc (r.getD 1 0) [p.getD 1 0,2*p.getD 2 0])) t:=fun t=>by
   have k1:∀ c:Int,ev [c] t=c:=fun c=>by rw [rev_cons,show ev [] t=0 from rfl,Int.mul_zero,Int.add_zero]
   have k2:ev r t=r.getD 0 0+r.getD 1 0*t:=by
    have:∀ j,r.getD j 0=([r.getD 0 0,r.getD 1 0]:List Int).getD j 0:=fun j=>by
     match j with
     | 0=>rfl
     | 1=>rfl
     | j+2=>rw [List.getD_eq_getElem?_getD,List.getElem?_eq_none (by omega)];rfl
    rw [ev_congr this,ev2]
   rw [ev_psc,ev_padd,ev_psc,k1,k2,ev2]
   grind
  have h5:=sgp_ev hr (rts p)[k]
  rw [sgp_psc,sgq hc2,Int.one_mul] at h5
  rw [h5]
  by_cases ck:k=0
  ·rw [if_pos ck] at hT ⊢
   rw [val_sgp (.inr rfl) hT h4,show (-1:Int)*r.getD 1 0=-r.getD 1 0 by omega]
  ·rw [if_neg ck] at hT ⊢
   rw [val_sgp (.inl rfl) hT h4,Int.one_mul]
end Go.Proofs.YtipocabbjinbhaaGreat
namespace Go.Proofs.YtipocabbjinbhaaGreat
open Go Go.RowKit
theorem plen_of_trim {p:List Int} (h:ptrim p=p):p.length=plen p:=by
 have h1:(ptrim p).length=plen p:=by unfold ptrim;rw [List.length_take];exact Nat.min_eq_left (plen_le p)
 rw [h] at h1
 exact h1
theorem below_drewn {B:Nat} {w w':World} (h:Below B w w') (n:Nat):Below B w (w'.drewN n):=⟨h.os,by simpa [World.drewN] using h.tape,h.output,h.size,h.block⟩
def Sma (q:List Int):Prop:=∀ k,k<3→-9≤q.getD k 0∧q.getD k 0≤9
noncomputable def fewb (n:Nat) (qs:List (List Int)):Bool:=@decide (qs.length≤n∧∀ i,i<qs.length→Sma (qs.getD i [])) (Classical.propDecidable _)
set_option maxRecDepth 100000 in
set_option maxHeartbeats 2000000 in
theorem few_any {w:World} {A:Option Addr} {la ca:Nat} {qs:List (List Int)} (h:TrAt w A la ca qs) (n:Nat) (hn:n≤100) (hlm:la≤9223372036854775807) :
 Calls Tryz.prog 11 #[.int .i64 (n:Int),.slice A la ca] w fun e w'=>e=.returned (.bool (fewb n qs))∧w=w':=by
 have Hl:=Lib.hid h.length
 have H:=Lib.hid h
 have YES:=Lib.hid (show (qs.length≤n∧∀ i,i<qs.length→Sma (qs.getD i []))→fewb n qs=true from fun h=>by unfold fewb;exact @decide_eq_true _ (Classical.propDecidable _) h)
 have NO:=Lib.hid (show ¬ (qs.length≤n∧∀ i,i<qs.length→Sma (qs.getD i []))→fewb n qs=false from fun h=>by unfold fewb;exact @decide_eq_false _ (Classical.propDecidable _) h)
 generalize fewb n qs=F at YES NO ⊢
 clear h
 go_enter Tryz.func11,Tryz.ntmps11
 by_cases hn5:n<la
 ·have g5:(n:Int)<(la:Int):=by omega
  obtain rfl:=NO.out fun h=>by have:=h.1;rw [Hl.out] at this;omega
  go_wp2
  go_ret
  exact ⟨rfl,rfl⟩
 have g5:¬ (n:Int)<(la:Int):=by omega
 go_wp2
 go_loop [5,6] (fun s5 _=>∃ i:Nat,i≤la∧s5=.int .i64 (i:Int)∧∀ j,j<i→Sma (qs.getD j [])) (fun s5 _=>la-(intOf s5).toNat)
 case atStart=>exact ⟨0,Nat.zero_le _,rfl,fun j hj=>absurd hj (Nat.not_lt_zero _)⟩
 case round =>
  obtain ⟨i,hi,rfl,hsm⟩:=hrel
  have Hsm:=Lib.hid hsm
  clear hsm
  by_cases hlt:i<la
  ·have Hil:=Lib.hid hlt
   obtain ⟨b,o,rfl,hbl,hc⟩:=H.out.at (by omega)
   have Hc:=Lib.hid (hc i hlt)
   have ta:(i:Int)<(la:Int):=by omega
   have ti:IntKind.i64.wrap ((i:Int)+1)=(i:Int)+1:=IntWalk.i64_in _ (by omega)
   clear hc hi
   go_wp2
   go_loop [6] (fun s6=>∃ k:Nat,k≤3∧s6=.int .i64 (k:Int)∧∀ j,j<k→-9≤(qs.getD i []).getD j 0∧(qs.getD i []).getD j 0≤9) (fun s6=>3-(intOf s6).toNat)
   case atStart=>exact ⟨0,Nat.zero_le _,rfl,fun j hj=>absurd hj (Nat.not_lt_zero _)⟩
   case round =>
    obtain ⟨k,hk,rfl,hkk⟩:=hrel
    have Hkk:=Lib.hid hkk
    clear hkk
    by_cases hk3:k<3
    ·have Hk3:=Lib.hid hk3
     have tk:(k:Int)<3:=by omega
     have tw:IntKind.i64.wrap ((k:Int)+1)=(k:Int)+1:=IntWalk.i64_in _ (by omega)
     have e1:=Hc.out k hk3
     obtain ⟨x,hx⟩:∃ x,x=(qs.getD i []).getD k 0:=⟨_,rfl⟩
     rw [← hx] at e1
     have Hx:=Lib.hid hx
     clear hx hk
     by_cases x1:x < -9
     ·obtain rfl:=NO.out fun h=>by
       have:=(h.2 i (by rw [Hl.out];exact Hil.out) k Hk3.out).1
       rw [← Hx.out] at this
       omega
      go_wp2
      go_ret
      exact ⟨rfl,rfl⟩
     ·by_cases x2:9<x
      ·obtain rfl:=NO.out fun h=>by
        have:=(h.2 i (by rw [Hl.out];exact Hil.out) k Hk3.out).2
        rw [← Hx.out] at this
        omega
       go_wp2
       go_ret
       exact ⟨rfl,rfl⟩
      ·go_wp2
       go_round
       case rel=>exact ⟨k+1,by have:=Hk3.out;omega,by go_num,fun j hj=>(by
        by_cases c:j<k
        ·exact Hkk.out j c
        ·obtain rfl:j=k:=by omega
         rw [← Hx.out]
         omega)⟩
       case measure=>have:=Hk3.out;simp [intOf];omega
    ·have tk:¬ (k:Int)<3:=by omega
     have HS:=Lib.hid (show Sma (qs.getD i []) from fun j hj=>Hkk.out j (by omega))
     go_wp2
     go_round
     case rel=>exact ⟨i+1,Hil.out,by go_num,fun j hj=>(by
      by_cases c:j<i
      ·exact Hsm.out j c
      ·obtain rfl:j=i:=by omega
       exact HS.out)⟩
     case measure=>have:=Hil.out;simp [intOf];omega
  ·have ta:¬ (i:Int)<(la:Int):=by omega
   obtain rfl:=YES.out ⟨by rw [Hl.out];omega,fun j hj=>Hsm.out j (by rw [Hl.out] at hj;omega)⟩
   go_wp2
   go_ret
   exact ⟨rfl,rfl⟩
set_option maxRecDepth 100000 in
theorem wid_any (a b c:Int) (w:World) (ha:I8 a) (hb:I8 b) (hc:I8 c) :
 Calls Tryz.prog 54 #[.agg #[.int .i8 a,.int .i8 b,.int .i8 c]] w fun e w'=>∃ A' c',e=.returned (.slice A' 3 c')∧I64At w' A' 3 c' [a,b,c]∧Below w.heap.size w w':=by
 have ia:IntKind.i64.wrap a=a:=IntWalk.i64_in _ (by unfold I8 at ha;omega)
 have ib:IntKind.i64.wrap b=b:=IntWalk.i64_in _ (by unfold I8 at hb;omega)
 have ic:IntKind.i64.wrap c=c:=IntWalk.i64_in _ (by unfold I8 at hc;omega)
 go_enter Tryz.func54,Tryz.ntmps54
 go_wp2
 go_ret
 refine ⟨_,_,rfl,?_,Bel.go⟩
 have h:IRow ((w.alloc (.cells #[.int .i8 a,.int .i8 b,.int .i8 c] 83)).alloc (.cells #[.int .i64 a,.int .i64 b,.int .i64 c] 3)) (w.alloc (.cells #[.int .i8 a,.int .i8 b,.int .i8 c] 83)).heap.size [a,b,c]:=Blk.new _ _ _
 have h2:=h.at_ (cap:=3) (by simp)
 simpa using h2
set_option maxRecDepth 100000 in
set_option maxHeartbeats 1000000 in
theorem iroot_any (n:Int) (w:World) (hn:n≤1000000) :
 Calls Tryz.prog 105 #[.int .i64 n] w fun e w'=>(∃ s:Nat,e=.returned (.tuple #[.int .i64 (s:Int),.bool (decide (0≤n∧(s:Int)*(s:Int)=n))])∧s≤1000∧n≤(s:Int)*(s:Int)∧(∀ t:Nat,t<s→(t:Int)*(t:Int)<n))∧w=w':=by
 go_enter Tryz.func105,Tryz.ntmps105
 go_wp2
 go_loop [4] (fun s4=>∃ s:Nat,s≤1000∧s4=.int .i64 (s:Int)∧∀ t:Nat,t<s→(t:Int)*(t:Int)<n) (fun s4=>1000-(intOf s4).toNat)
 case atStart=>exact ⟨0,Nat.zero_le _,rfl,fun t ht=>absurd ht (Nat.not_lt_zero _)⟩
 case round =>
  obtain ⟨s,hs,rfl,hst⟩:=hrel
  have Hst:=Lib.hid hst
  have Hs:=Lib.hid hs
  clear hst
  obtain ⟨q,hq⟩:∃ q:Int,q=(s:Int)*(s:Int):=⟨_,rfl⟩
  have hq0:0≤q:=by rw [hq];exact Int.mul_nonneg (by omega) (by omega)
  have hq1:q≤1000000:=by
   rw [hq]
   have:s*s≤1000*1000:=Nat.mul_le_mul hs hs
   rw [← Int.natCast_mul]
   omega
  have iq:IntKind.i64.wrap q=q:=IntWalk.i64_in _ (by omega)
  have is:IntKind.i64.wrap ((s:Int)+1)=(s:Int)+1:=IntWalk.i64_in _ (by omega)
  have eq2:(s:Int)*(s:Int)=q:=hq.symm
  have Hq:=Lib.hid hq
  clear hq
  by_cases c:q<n
  ·have hs1:s<1000:=by
    refine Classical.byContradiction fun h=>?_
    have:s=1000:=by omega
    subst this
    have:=Hq.out
    omega
   have Hs1:=Lib.hid hs1
   clear hs1 hs
   go_wp2
   go_round
   case rel=>exact ⟨s+1,Hs1.out,by go_num,fun t ht=>(by
    by_cases c2:t<s
    ·exact Hst.out t c2
    ·obtain rfl:t=s:=by omega
     rw [← Hq.out]
     exact c)⟩
   case measure=>have:=Hs1.out;simp [intOf];omega
  ·have HC:=Lib.hid (show n≤(s:Int)*(s:Int) by rw [← Hq.out];omega)
   by_cases n0:0≤n
   ·by_cases e:q=n
    ·have FIN:=Lib.hid (show decide (0≤n∧(s:Int)*(s:Int)=n)=true from decide_eq_true ⟨n0,by rw [← Hq.out];exact e⟩)
     have be:(q == n)=true:=beq_iff_eq.2 e
     have FIN2:=Lib.hid (show decide ((s:Int)*(s:Int)=n)=true from decide_eq_true (by rw [← Hq.out];exact e))
     clear e
     go_wp2
     refine bodyPost_ret (v:=.tuple #[.int .i64 (s:Int),.bool true]) (by simp [results,Tryz.results105,go_sem]) rfl ⟨⟨s,by first | rw [FIN.out] | rw [FIN2.out] | (simp;done) | (simp;intro h;omega),Hs.out,HC.out,Hst.out⟩,rfl⟩
    ·have FIN:=Lib.hid (show decide (0≤n∧(s:Int)*(s:Int)=n)=false from decide_eq_false fun h=>e (by rw [Hq.out];exact h.2))
     have be:(q == n)=false:=beq_eq_false_iff_ne.2 e
     have FIN2:=Lib.hid (show decide ((s:Int)*(s:Int)=n)=false from decide_eq_false fun h=>e (by rw [Hq.out];exact h))
     clear e
     go_wp2
     refine bodyPost_ret (v:=.tuple #[.int .i64 (s:Int),.bool false]) (by simp [results,Tryz.results105,go_sem]) rfl ⟨⟨s,by first | rw [FIN.out] | rw [FIN2.out] | (simp;done) | (simp;intro h;omega),Hs.out,HC.out,Hst.out⟩,rfl⟩
   ·have FIN:=Lib.hid (show decide (0≤n∧(s:Int)*(s:Int)=n)=false from decide_eq_false fun h=>n0 h.1)
    go_wp2
    refine bodyPost_ret (v:=.tuple #[.int .i64 (s:Int),.bool false]) (by simp [results,Tryz.results105,go_sem]) rfl ⟨⟨s,by first | rw [FIN.out] | rw [FIN2.out] | (simp;done) | (simp;intro h;omega),Hs.out,HC.out,Hst.out⟩,rfl⟩
set_option maxRecDepth 100000 in
set_option maxHeartbeats 1000000 in
theorem same_any (A:Option Addr) (la ca:Nat) (f:List Int) (B:Option Addr) (lb cb:Nat) (g:List Int) (w:World) (hf:I64At w A la ca f) (hg:I64At w B lb cb g) (hma:la≤1000) (hmb:lb≤1000) (tf:ptrim f=f) (tg:ptrim g=g) :
 Calls Tryz.prog 106 #[.slice A la ca,.slice B lb cb] w fun e w'=>e=.returned (.bool (decide (f=g)))∧Below w.heap.size w w':=by
 have pf:plen f=la:=by rw [← hf.length,← plen_of_trim tf]
 have pg:plen g=lb:=by rw [← hg.length,← plen_of_trim tg]
 have Lf:=Lib.hid hf.length
 have Lg:=Lib.hid hg.length
 have PF:=Lib.hid pf
 have PG:=Lib.hid pg
 have Hf:=Lib.hid hf
 have Hg:=Lib.hid hg
 have YES:=Lib.hid (show f=g→decide (f=g)=true from fun h=>decide_eq_true h)
 have NO:=Lib.hid (show ¬ f=g→decide (f=g)=false from fun h=>decide_eq_false h)
 generalize decide (f=g)=F at YES NO ⊢
 clear pg tf tg hg
 go_enter Tryz.func106,Tryz.ntmps106
 go_wp2_with fail
 refine (rtrim_any _ _ _ _ _ hf (by omega)).mono ?_
 rintro e w1 ⟨rfl,rfl⟩
 rw [PF.out]
 clear pf
 go_wp2_with fail
 refine (rtrim_any _ _ _ _ _ Hg.out (by omega)).mono ?_
 rintro e w1 ⟨rfl,rfl⟩
 rw [PG.out]
 clear PF PG
 by_cases hl:la=lb
 ·subst hl
  have b0:((la:Int) != (la:Int))=false:=by simp
  go_wp2
  go_loopw [5] (fun s5 wr=>∃ i:Nat,i≤la∧s5=.int .i64 (i:Int)∧(∀ j,j<i→f.getD j 0=g.getD j 0)∧Below w.heap.size w wr) (fun s5 _=>la-(intOf s5).toNat)
  case atStart=>exact ⟨0,Nat.zero_le _,rfl,fun j hj=>absurd hj (Nat.not_lt_zero _),Bel.go⟩
  case round =>
   obtain ⟨i,hi,rfl,hst,hbw⟩:=hrel
   have Hst:=Lib.hid hst
   replace Hf:=Lib.hid (Hf.out.below hbw)
   replace Hg:=Lib.hid (Hg.out.below hbw)
   have Hbw:=Lib.hid hbw
   clear hst hbw
   by_cases hlt:i<la
   ·have Hil:=Lib.hid hlt
    obtain ⟨b,o,rfl,hb,hc⟩:=Hf.out.at_ (by omega)
    obtain ⟨b',o',rfl,hb',hc'⟩:=Hg.out.at_ (by omega)
    have e1:=hc i hlt
    have e2:=hc' i hlt
    have ti:IntKind.i64.wrap ((i:Int)+1)=(i:Int)+1:=IntWalk.i64_in _ (by omega)
    have ta:(i:Int)<(la:Int):=by omega
    obtain ⟨x,hx⟩:∃ x,x=f.getD i 0:=⟨_,rfl⟩
    obtain ⟨y,hy⟩:∃ y,y=g.getD i 0:=⟨_,rfl⟩
    rw [← hx] at e1
    rw [← hy] at e2
    have Hx:=Lib.hid hx
    have Hy:=Lib.hid hy
    clear hx hy hc hc' hi
    by_cases c:x=y
    ·have bn:(x != y)=false:=by rw [c];simp
     have FIN:=Lib.hid c
     clear c
     go_wp2_with fail
     go_quiet (fail)
     go_wp2
     go_roundw
     case rel=>exact ⟨i+1,Hil.out,by go_num,fun j hj=>(by
      by_cases c2:j<i
      ·exact Hst.out j c2
      ·obtain rfl:j=i:=by omega
       rw [← Hx.out,← Hy.out]
       exact FIN.out),(below_drewn Hbw.out _)⟩
     case measure=>have:=Hil.out;simp [intOf];omega
    ·have bn:(x != y)=true:=by rw [bne_iff_ne];exact c
     obtain rfl:=NO.out fun h=>c (by rw [Hx.out,Hy.out,h])
     clear c
     go_wp2_with fail
     go_quiet (fail)
     go_wp2
     go_ret
     exact ⟨rfl,(below_drewn Hbw.out _)⟩
   ·have ta:¬ (i:Int)<(la:Int):=by omega
    obtain rfl:=YES.out (by
     refine List.ext_getElem (by rw [Lf.out,Lg.out]) fun j h1 h2=>?_
     have:=Hst.out j (by rw [Lf.out] at h1;omega)
     rw [List.getD_eq_getElem?_getD,List.getElem?_eq_getElem h1,List.getD_eq_getElem?_getD,List.getElem?_eq_getElem h2] at this
     exact this)
    go_wp2
    go_ret
    exact ⟨rfl,Hbw.out⟩
 ·have b0:((la:Int) != (lb:Int))=true:=by rw [bne_iff_ne];omega
  obtain rfl:=NO.out fun h=>hl (by rw [← Lf.out,← Lg.out,h])
  go_wp2
  go_ret
  exact ⟨rfl,Bel.go⟩
end Go.Proofs.YtipocabbjinbhaaGreat
namespace Go.Proofs.YtipocabbjinbhaaGreat
open Go Go.RowKit
def PsE (w:World) (p:List Int) (vs:List Value):Prop:=∃ A l c,vs=[.slice A l c]∧I64At w A l c p
theorem PsE.below {w w':World} {p:List Int} {vs:List Value} (h:PsE w p vs) (hb:Below w.heap.size w w'):PsE w' p vs:=by
 obtain ⟨A,l,c,e,h⟩:=h
 exact ⟨A,l,c,e,h.below hb⟩
abbrev PsAt (w:World) (A:Option Addr) (l c:Nat) (ps:List (List Int)):Prop:=SlE 1 PsE w A l c ps
theorem ps_below {w w':World} {A:Option Addr} {l c:Nat} {ps:List (List Int)} (h:PsAt w A l c ps) (hb:Below w.heap.size w w'):PsAt w' A l c ps:=h.below hb fun _ _ hx=>hx.below hb
theorem ps_one {w:World} {t:TypeId} {A:Option Addr} {l c:Nat} {p:List Int} (h:I64At w A l c p):PsAt (w.alloc (.cells #[.slice A l c] t)) (some ⟨w.heap.size,0,none⟩) 1 1 [p]:=by
 have hb:=below_new w (.cells #[.slice A l c] t)
 refine ⟨rfl,Nat.le_refl _,.inr ⟨w.heap.size,0,rfl,by simp,fun i x hx=>?_⟩⟩
 match i,hx with
 | 0,hx =>
   simp at hx
   subst hx
   refine ⟨_,⟨A,l,c,rfl,h.below hb⟩,fun j v hv=>?_⟩
   match j,hv with
   | 0,hv=>simp at hv;subst hv;simp
   | j+1,hv=>simp at hv
 | i+1,hx=>simp at hx
theorem ps_two {w:World} {t:TypeId} {A:Option Addr} {l c:Nat} {p:List Int} {B:Option Addr} {m d:Nat} {q:List Int} (h:I64At w A l c p) (k:I64At w B m d q):PsAt (w.alloc (.cells #[.slice A l c,.slice B m d] t)) (some ⟨w.heap.size,0,none⟩) 2 2 [p,q]:=by
 have hb:=below_new w (.cells #[.slice A l c,.slice B m d] t)
 refine ⟨rfl,Nat.le_refl _,.inr ⟨w.heap.size,0,rfl,by simp,fun i x hx=>?_⟩⟩
 match i,hx with
 | 0,hx =>
   simp at hx
   subst hx
   refine ⟨_,⟨A,l,c,rfl,h.below hb⟩,fun j v hv=>?_⟩
   match j,hv with
   | 0,hv=>simp at hv;subst hv;simp
   | j+1,hv=>simp at hv
 | 1,hx =>
   simp at hx
   subst hx
   refine ⟨_,⟨B,m,d,rfl,k.below hb⟩,fun j v hv=>?_⟩
   match j,hv with
   | 0,hv=>simp at hv;subst hv;simp
   | j+1,hv=>simp at hv
 | i+2,hx=>simp at hx
theorem rnu_le {p:List Int} {M:Nat} (_h:plen p≠0) (hM:∀ j,(p.getD j 0).natAbs≤M):(rnu p).natAbs≤M:=by
 have h1:=rgc_bd hM (plen p)
 rw [rgc_eq] at h1
 unfold rnu
 split<;>omega
theorem gd3 {a b c:Int} {M:Nat} (ha:a.natAbs≤M) (hb:b.natAbs≤M) (hc:c.natAbs≤M) (j:Nat):(([a,b,c]:List Int).getD j 0).natAbs≤M:=by
 match j with
 | 0=>exact ha
 | 1=>exact hb
 | 2=>exact hc
 | j+3=>exact Nat.zero_le _
theorem gd2 {a b:Int} {M:Nat} (ha:a.natAbs≤M) (hb:b.natAbs≤M) (j:Nat):(([a,b]:List Int).getD j 0).natAbs≤M:=by
 match j with
 | 0=>exact ha
 | 1=>exact hb
 | j+2=>exact Nat.zero_le _
theorem rnrm_two (A:Option Addr) (len cap:Nat) (p:List Int) (w:World) (h:I64At w A len cap p) (hm:len≤1000) (h2:plen p=2) (hM:∀ j,(p.getD j 0).natAbs≤2305843009213693952) :
 Calls Tryz.prog 104 #[.slice A len cap] w fun e w'=>(∃ A',e=.returned (.tuple #[.int .i64 (rnu p),.slice A' 2 2])∧I64At w' A' 2 2 (nrm p))∧Below w.heap.size w w':=by
 refine (rnrm_any A len cap p w h hm (by omega) hM).mono ?_
 rintro e w1 ⟨rfl,hk,hb⟩
 have hk':IRow w1 w.heap.size (nrm p):=hk
 have:=hk'.at_ (cap:=2) (by rw [nrm_len,h2];exact Nat.le_refl _)
 rw [nrm_len,h2] at this
 rw [h2]
 exact ⟨⟨_,rfl,this⟩,hb⟩
set_option maxRecDepth 100000 in
set_option maxHeartbeats 8000000 in
theorem split_any (A:Option Addr) (ca:Nat) (a b c:Int) (w:World) (h:I64At w A 3 ca [a,b,c]) (ha:a.natAbs≤9) (hb:b.natAbs≤9) (hc:c.natAbs≤9) :
 Calls Tryz.prog 53 #[.slice A 3 ca] w fun e w'=>(∃ u A' l' c',e=.returned (.tuple #[.int .i64 u,.slice A' l' c'])∧(u=0↔plen [a,b,c]=0)∧u.natAbs≤9∧PsAt w' A' l' c' (spl [a,b,c]))∧Below w.heap.size w w':=by
 have hM:=gd3 ha hb hc
 obtain ⟨q,hq⟩:∃ q,q=[a,b,c]:=⟨_,rfl⟩
 have hp3:plen [a,b,c]≤3:=plen_le [a,b,c]
 rw [← hq] at h hM hp3 ⊢
 clear hq
 go_enter Tryz.func53,Tryz.ntmps53
 by_cases h0:plen q=0
 ·go_wp2_with fail
  refine (rnrm_zero _ _ _ _ _ h (by omega) h0).mono ?_
  rintro e w1 ⟨rfl,rfl⟩
  have Hsp:=Lib.hid (show spl q=[] by unfold spl;rw [if_pos (by omega)])
  have H0:=Lib.hid h0
  clear h h0
  go_wp2
  refine bodyPost_ret (v:=.tuple #[.int .i64 0,.slice none 0 0]) (by simp [results,Tryz.results53,go_sem]) rfl ⟨⟨0,none,0,0,rfl,⟨fun _=>H0.out,fun _=>rfl⟩,Nat.zero_le _,by rw [Hsp.out];exact ⟨rfl,Nat.le_refl _,.inl ⟨rfl,rfl,rfl⟩⟩⟩,Bel.go⟩
 go_wp2_with fail
 refine (rnrm_any _ _ _ _ _ h (by omega) h0 (fun j=>by have:=hM j;omega)).mono ?_
 rintro e w1 ⟨rfl,hk,hb1⟩
 have hk':IRow w1 w.heap.size (nrm q):=hk
 have HM:=Lib.hid (nrm_le hM)
 have HU:=Lib.hid (show (rnu q=0↔plen q=0)∧(rnu q).natAbs≤9 from ⟨⟨fun e=>absurd e (rnu_ne h0),fun e=>absurd e h0⟩,rnu_le h0 hM⟩)
 have HL:=Lib.hid (nrm_len q)
 have HSP:=Lib.hid (show spl q=spl q from rfl)
 have HK:=Lib.hid hk'
 have Hb:=Lib.hid hb1
 obtain ⟨G,hG⟩:∃ G,G=w.heap.size:=⟨_,rfl⟩
 rw [← hG] at HK
 have HG:=Lib.hid hG
 obtain ⟨u,hu⟩:∃ u,u=rnu q:=⟨_,rfl⟩
 rw [← hu] at HU ⊢
 have hGl:G<w1.heap.size:=HK.out.lt
 clear hk hk' hb1 h hM hu
 rcases (show plen q=1∨plen q=2∨plen q=3 by omega) with e1 | e1 | e1
 ·have Hsp:=Lib.hid (show spl q=[] by unfold spl;rw [if_pos (by omega)])
  rw [e1,← hG]
  clear h0 e1 hp3 hG
  go_wp2
  refine bodyPost_ret (v:=.tuple #[.int .i64 u,.slice none 0 0]) (by simp [results,Tryz.results53,go_sem]) rfl ⟨⟨u,none,0,0,rfl,HU.out.1,HU.out.2,by rw [Hsp.out];exact ⟨rfl,Nat.le_refl _,.inl ⟨rfl,rfl,rfl⟩⟩⟩,Hb.out⟩
 ·have Hsp:=Lib.hid (show spl q=[nrm q] by unfold spl;rw [if_neg (by omega),if_pos e1])
  have HA:=Lib.hid (show I64At w1 (some ⟨G,0,none⟩) 2 2 (nrm q) by have:=HK.out.at_ (cap:=2) (by rw [HL.out,e1];exact Nat.le_refl _);rwa [HL.out,e1] at this)
  rw [e1,← hG]
  clear h0 e1 hp3 hG
  go_wp2
  refine bodyPost_ret (v:=.tuple #[.int .i64 u,.slice (some ⟨w1.heap.size,0,none⟩) 1 1]) (by simp [results,Tryz.results53,go_sem]) rfl ⟨⟨u,_,_,_,rfl,HU.out.1,HU.out.2,by rw [Hsp.out];exact ps_one HA.out⟩,Hb.out.trans ((below_new _ _).mono Hb.out.size)⟩
 ·have HA:=Lib.hid (show I64At w1 (some ⟨G,0,none⟩) 3 3 (nrm q) by have:=HK.out.at_ (cap:=3) (by rw [HL.out,e1];exact Nat.le_refl _);rwa [HL.out,e1] at this)
  have SN:=Lib.hid (show ∀ hn:(∀ s:Nat,(s:Int)*(s:Int)≠dsc (nrm q)),spl q=[nrm q] from fun hn=>by unfold spl;rw [if_neg (by omega),if_neg (by omega),sqd_none hn])
  have SS:=Lib.hid (show ∀ s:Nat,(s:Int)*(s:Int)=dsc (nrm q)→spl q=[lin1 (nrm q) (-(s:Int)),lin1 (nrm q) (s:Int)] from fun s hs=>by unfold spl;rw [if_neg (by omega),if_neg (by omega),sqd_some hs])
  have hln:(nrm q).length=3:=by rw [HL.out,e1]
  have hpos:0<(nrm q).getD 2 0:=by have:=nrm_lead h0;rwa [e1] at this
  have c0:=HK.out.cell (i:=0) (by omega)
  have c1:=HK.out.cell (i:=1) (by omega)
  have c2:=HK.out.cell (i:=2) (by omega)
  have b0:=HM.out 0
  have b1:=HM.out 1
  have b2:=HM.out 2
  obtain ⟨x0,hx0⟩:∃ x,x=(nrm q).getD 0 0:=⟨_,rfl⟩
  obtain ⟨x1,hx1⟩:∃ x,x=(nrm q).getD 1 0:=⟨_,rfl⟩
  obtain ⟨x2,hx2⟩:∃ x,x=(nrm q).getD 2 0:=⟨_,rfl⟩
  rw [← hx0] at c0 b0
  rw [← hx1] at c1 b1
  rw [← hx2] at c2 b2 hpos
  have HX:=Lib.hid (And.intro hx0 (And.intro hx1 hx2))
  obtain ⟨y1,hy1⟩:∃ y,y=x1*x1:=⟨_,rfl⟩
  obtain ⟨y2,hy2⟩:∃ y,y=4*x2:=⟨_,rfl⟩
  obtain ⟨y3,hy3⟩:∃ y,y=y2*x0:=⟨_,rfl⟩
  have m1:y1.natAbs≤81:=by rw [hy1,Int.natAbs_mul];exact Nat.mul_le_mul b1 b1
  have m3:y3.natAbs≤36*9:=by rw [hy3,Int.natAbs_mul];exact Nat.mul_le_mul (by omega) b0
  have i1:IntKind.i64.wrap y1=y1:=IntWalk.i64_in _ (by omega)
  have i2:IntKind.i64.wrap y2=y2:=IntWalk.i64_in _ (by omega)
  have i3:IntKind.i64.wrap y3=y3:=IntWalk.i64_in _ (by omega)
  have i4:IntKind.i64.wrap (y1-y3)=y1-y3:=IntWalk.i64_in _ (by omega)
  have f1:x1*x1=y1:=hy1.symm
  have f2:4*x2=y2:=hy2.symm
  have f3:y2*x0=y3:=hy3.symm
  have HD:=Lib.hid (show dsc (nrm q)=y1-y3 by unfold dsc;rw [← hx0,← hx1,← hx2,f1,f2,f3])
  rw [e1,← hG]
  clear hx0 hx1 hx2 hy1 hy2 hy3 e1 h0 hp3 hG hln
  go_wp2_with fail
  refine wp_region_held_drew (S:=fun w'=>w'.cell? ⟨G,0,none⟩=some (.int .i64 x0)∧w'.cell? ⟨G,1,none⟩=some (.int .i64 x1)∧w'.cell? ⟨G,2,none⟩=some (.int .i64 x2)) (by kernel_rfl) (by (try dsimp only);go_keep) (fun hHeld=>?_)
  (refine tk (i:=0) (v:=?_) rfl rfl (Or.inl ⟨by rfl,?_⟩) ?_;rotate_left;(focus (intro w hSw;(try dsimp only at hSw);go_simp;(try with_reducible rfl)));(simp only [put_lit,List.set]))
  (refine tk (i:=1) (v:=?_) rfl rfl (Or.inl ⟨by rfl,?_⟩) ?_;rotate_left;(focus (intro w hSw;(try dsimp only at hSw);go_simp;(try with_reducible rfl)));(simp only [put_lit,List.set]))
  (refine tk (i:=2) (v:=?_) rfl rfl (Or.inl ⟨by rfl,?_⟩) ?_;rotate_left;(focus (intro w hSw;(try dsimp only at hSw);go_simp;(try with_reducible rfl)));(simp only [put_lit,List.set]))
  (refine tk (i:=3) (v:=?_) rfl rfl (Or.inl ⟨by rfl,?_⟩) ?_;rotate_left;(focus (intro w hSw;(try dsimp only at hSw);go_simp;(try with_reducible rfl)));(simp only [put_lit,List.set]))
  (refine tk (i:=4) (v:=?_) rfl rfl (Or.inl ⟨by rfl,?_⟩) ?_;rotate_left;(focus (intro w hSw;(try dsimp only at hSw);go_simp;(try with_reducible rfl)));(simp only [put_lit,List.set]))
  (refine tk (i:=5) (v:=?_) rfl rfl (Or.inl ⟨by rfl,?_⟩) ?_;rotate_left;(focus (intro w hSw;(try dsimp only at hSw);go_simp;(try with_reducible rfl)));(simp only [put_lit,List.set]))
  (refine tk (i:=6) (v:=?_) rfl rfl (Or.inl ⟨by rfl,?_⟩) ?_;rotate_left;(focus (intro w hSw;(try dsimp only at hSw);go_simp;(try with_reducible rfl)));(simp only [put_lit,List.set]))
  (refine tk (i:=7) (v:=?_) rfl rfl (Or.inl ⟨by rfl,?_⟩) ?_;rotate_left;(focus (intro w hSw;(try dsimp only at hSw);go_simp;(try with_reducible rfl)));(simp only [put_lit,List.set]))
  (refine tk (i:=8) (v:=?_) rfl rfl (Or.inl ⟨by rfl,?_⟩) ?_;rotate_left;(focus (intro w hSw;(try dsimp only at hSw);go_simp;(try with_reducible rfl)));(simp only [put_lit,List.set]))
  (refine tk (i:=9) (v:=?_) rfl rfl (Or.inl ⟨by rfl,?_⟩) ?_;rotate_left;(focus (intro w hSw;(try dsimp only at hSw);go_simp;(try with_reducible rfl)));(simp only [put_lit,List.set]))
  (refine tk (i:=10) (v:=?_) rfl rfl (Or.inl ⟨by rfl,?_⟩) ?_;rotate_left;(focus (intro w hSw;(try dsimp only at hSw);go_simp;(try with_reducible rfl)));(simp only [put_lit,List.set]))
  (refine tk (i:=11) (v:=?_) rfl rfl (Or.inl ⟨by rfl,?_⟩) ?_;rotate_left;(focus (intro w hSw;(try dsimp only at hSw);go_simp;(try with_reducible rfl)));(simp only [put_lit,List.set]))
  (refine tk (i:=12) (v:=?_) rfl rfl (Or.inl ⟨by rfl,?_⟩) ?_;rotate_left;(focus (intro w hSw;(try dsimp only at hSw);go_simp;(try with_reducible rfl)));(simp only [put_lit,List.set]))
  (refine tk (i:=13) (v:=?_) rfl rfl (Or.inl ⟨by rfl,?_⟩) ?_;rotate_left;(focus (intro w hSw;(try dsimp only at hSw);go_simp;(try with_reducible rfl)));(simp only [put_lit,List.set]))
  (refine tk (i:=14) (v:=?_) rfl rfl (Or.inl ⟨by rfl,?_⟩) ?_;rotate_left;(focus (intro w hSw;(try dsimp only at hSw);go_simp;(try with_reducible rfl)));(simp only [put_lit,List.set]))
  (refine tk (i:=15) (v:=?_) rfl rfl (Or.inl ⟨by rfl,?_⟩) ?_;rotate_left;(focus (intro w hSw;(try dsimp only at hSw);go_simp;(try with_reducible rfl)));(simp only [put_lit,List.set]))
  (refine wpAnyH_ready (rs:=[16]) (by kernel_rfl) (by simp) ?_;refine AllReadyH.cons rfl (fun K hK=>?_) AllReadyH.nil;go_simp)
  refine (iroot_any (y1-y3) _ (by omega)).mono ?_
  rintro e w5 ⟨⟨s,rfl,hs,hsn,hst⟩,hw5⟩
  generalize hB:decide (0≤y1-y3∧(s:Int)*(s:Int)=y1-y3)=B
  have HB:=Lib.hid hB
  clear hB
  obtain rfl:=hw5
  have hsl:(s:Int)≤1000:=by omega
  refine hK.out _ _ ?_ (fun _=>?_);(focus ((try dsimp only);go_keep));clear hHeld hK K;rename_i hHeld;(try (simp only [put_lit,List.set]))
  (refine tk (i:=17) (v:=?_) rfl rfl (Or.inl ⟨by rfl,?_⟩) ?_;rotate_left;(focus (intro w hSw;(try dsimp only at hSw);go_simp;(try with_reducible rfl)));(simp only [put_lit,List.set]))
  (refine tk (i:=18) (v:=?_) rfl rfl (Or.inl ⟨by rfl,?_⟩) ?_;rotate_left;(focus (intro w hSw;(try dsimp only at hSw);go_simp;(try with_reducible rfl)));(simp only [put_lit,List.set]))
  (refine tk (i:=19) (v:=?_) rfl rfl (Or.inl ⟨by rfl,?_⟩) ?_;rotate_left;(focus (intro w hSw;(try dsimp only at hSw);go_simp;(try with_reducible rfl)));(simp only [put_lit,List.set]))
  (refine tk (i:=20) (v:=?_) rfl rfl (Or.inl ⟨by rfl,?_⟩) ?_;rotate_left;(focus (intro w hSw;(try dsimp only at hSw);go_simp;(try with_reducible rfl)));(simp only [put_lit,List.set]))
  (refine tk (i:=21) (v:=?_) rfl rfl (Or.inl ⟨by rfl,?_⟩) ?_;rotate_left;(focus (intro w hSw;(try dsimp only at hSw);go_simp;(try with_reducible rfl)));(simp only [put_lit,List.set]))
  refine wpAnyH_done (by kernel_rfl) ?_ _
  by_cases hbt:B=true
  ·subst hbt
   have hok:=of_decide_eq_true HB.out
   clear HB
   have Hsp:=Lib.hid (SS.out s (hok.2.trans HD.out.symm))
   have hs20:s≤20:=by
    refine Nat.le_of_not_lt fun hlt=>?_
    have h1:21*21≤s*s:=Nat.mul_le_mul hlt hlt
    have h2:((s*s:Nat):Int)=y1-y3:=by rw [Int.natCast_mul];exact hok.2
    omega
   have HE1:=Lib.hid (show ([x1-(s:Int),2*x2]:List Int)=[(nrm q).getD 1 0 + -(s:Int),2*(nrm q).getD 2 0] by rw [← HX.out.2.1,← HX.out.2.2];rfl)
   have HE2:=Lib.hid (show ([x1+(s:Int),2*x2]:List Int)=[(nrm q).getD 1 0+(s:Int),2*(nrm q).getD 2 0] by rw [← HX.out.2.1,← HX.out.2.2])
   have P1:=Lib.hid (show plen [x1-(s:Int),2*x2]=2 by rw [plen_cons_succ (by rw [plen_cons_one rfl (by omega)];omega),plen_cons_one rfl (by omega)])
   have P2:=Lib.hid (show plen [x1+(s:Int),2*x2]=2 by rw [plen_cons_succ (by rw [plen_cons_one rfl (by omega)];omega),plen_cons_one rfl (by omega)])
   have j1:IntKind.i64.wrap (x1-(s:Int))=x1-(s:Int):=IntWalk.i64_in _ (by omega)
   have j2:IntKind.i64.wrap (x1+(s:Int))=x1+(s:Int):=IntWalk.i64_in _ (by omega)
   have j3:IntKind.i64.wrap (2*x2)=2*x2:=IntWalk.i64_in _ (by omega)
   have D1:=Lib.hid (show ∀ j,(([x1-(s:Int),2*x2]:List Int).getD j 0).natAbs≤2305843009213693952 from fun j=>gd2 (by omega) (by omega) j)
   have D2:=Lib.hid (show ∀ j,(([x1+(s:Int),2*x2]:List Int).getD j 0).natAbs≤2305843009213693952 from fun j=>gd2 (by omega) (by omega) j)
   clear hok hHeld c0 HX hst hsn i1 i2 i3 i4 f1 f2 f3 m1 m3 b0 hsl HD SN SS
   go_wp2_with fail
   refine wp_region_held_drew (S:=fun w'=>w'.cell? ⟨G,1,none⟩=some (.int .i64 x1)∧w'.cell? ⟨G,2,none⟩=some (.int .i64 x2)) (by kernel_rfl) (by (try dsimp only);go_keep) (fun hHeld=>?_)
   (refine tk (i:=0) (v:=?_) rfl rfl (Or.inl ⟨by rfl,?_⟩) ?_;rotate_left;(focus (intro w hSw;(try dsimp only at hSw);go_simp;(try with_reducible rfl)));(simp only [put_lit,List.set]))
   (refine tk (i:=1) (v:=?_) rfl rfl (Or.inl ⟨by rfl,?_⟩) ?_;rotate_left;(focus (intro w hSw;(try dsimp only at hSw);go_simp;(try with_reducible rfl)));(simp only [put_lit,List.set]))
   (refine tk (i:=2) (v:=?_) rfl rfl (Or.inl ⟨by rfl,?_⟩) ?_;rotate_left;(focus (intro w hSw;(try dsimp only at hSw);go_simp;(try with_reducible rfl)));(simp only [put_lit,List.set]))
   (refine tk (i:=3) (v:=?_) rfl rfl (Or.inl ⟨by rfl,?_⟩) ?_;rotate_left;(focus (intro w hSw;(try dsimp only at hSw);go_simp;(try with_reducible rfl)));(simp only [put_lit,List.set]))
   (refine tk (i:=4) (v:=?_) rfl rfl (Or.inl ⟨by rfl,?_⟩) ?_;rotate_left;(focus (intro w hSw;(try dsimp only at hSw);go_simp;(try with_reducible rfl)));(simp only [put_lit,List.set]))
   (refine tk (i:=5) (v:=?_) rfl rfl (Or.inl ⟨by rfl,?_⟩) ?_;rotate_left;(focus (intro w hSw;(try dsimp only at hSw);go_simp;(try with_reducible rfl)));(simp only [put_lit,List.set]))
   (refine tk (i:=6) (v:=?_) rfl rfl (Or.inl ⟨by rfl,?_⟩) ?_;rotate_left;(focus (intro w hSw;(try dsimp only at hSw);go_simp;(try with_reducible rfl)));(simp only [put_lit,List.set]))
   (refine tk (i:=7) (v:=?_) rfl rfl (Or.inl ⟨by rfl,?_⟩) ?_;rotate_left;(focus (intro w hSw;(try dsimp only at hSw);go_simp;(try with_reducible rfl)));(simp only [put_lit,List.set]))
   (refine tk (i:=8) (v:=?_) rfl rfl (Or.inl ⟨by rfl,?_⟩) ?_;rotate_left;(focus (intro w hSw;(try dsimp only at hSw);go_simp;(try with_reducible rfl)));(simp only [put_lit,List.set]))
   refine wpAnyH_ready (rs:=[9]) (by kernel_rfl) (by simp) ?_;refine AllReadyH.cons rfl (fun K hK=>?_) AllReadyH.nil;go_simp;refine hK.out _ _ ?_ (fun _=>?_);(focus ((try dsimp only);go_keep));clear hHeld hK K;rename_i hHeld;(try (simp only [put_lit,List.set]))
   (refine wpAnyH_ready (rs:=[10]) (by kernel_rfl) (by simp) ?_;refine AllReadyH.cons rfl (fun K hK=>?_) AllReadyH.nil;go_simp)
   refine (rnrm_two _ _ _ [x1-(s:Int),2*x2] _ ((I64At.two w1 _ _).below Bel.go) (by omega) P1.out D1.out).mono ?_
   rintro e w5 ⟨⟨A5,rfl,h5⟩,hb5⟩
   have hb15:Below w1.heap.size w1 w5:=(Below.trans Bel.go (hb5.mono (by simp<;>omega)))
   have H5:=Lib.hid h5
   have c1':=(hb15.cell (p:=⟨G,1,none⟩) hGl).trans c1
   have c2':=(hb15.cell (p:=⟨G,2,none⟩) hGl).trans c2
   have hG5:G<w5.heap.size:=Nat.lt_of_lt_of_le hGl hb15.size
   have Hb5:=Lib.hid (Hb.out.trans (hb15.mono Hb.out.size))
   clear h5 hb15
   obtain ⟨hcx,hfx⟩:=bcellS hb5;refine hK.out _ _ ?_ (fun _=>?_);(focus (((try dsimp only);repeat' apply And.intro)<;>(rw [hcx _ (by go_simp)];go_simp)));clear hHeld hK K hcx hfx;rename_i hHeld;clear hb5
   (refine tk (i:=11) (v:=?_) rfl rfl (Or.inl ⟨by rfl,?_⟩) ?_;rotate_left;(focus (intro w hSw;(try dsimp only at hSw);go_simp;(try with_reducible rfl)));(simp only [put_lit,List.set]))
   (refine tk (i:=12) (v:=?_) rfl rfl (Or.inl ⟨by rfl,?_⟩) ?_;rotate_left;(focus (intro w hSw;(try dsimp only at hSw);go_simp;(try with_reducible rfl)));(simp only [put_lit,List.set]))
   (refine tk (i:=13) (v:=?_) rfl rfl (Or.inl ⟨by rfl,?_⟩) ?_;rotate_left;(focus (intro w hSw;(try dsimp only at hSw);go_simp;(try with_reducible rfl)));(simp only [put_lit,List.set]))
   (refine tk (i:=14) (v:=?_) rfl rfl (Or.inl ⟨by rfl,?_⟩) ?_;rotate_left;(focus (intro w hSw;(try dsimp only at hSw);go_simp;(try with_reducible rfl)));(simp only [put_lit,List.set]))
   (refine tk (i:=15) (v:=?_) rfl rfl (Or.inl ⟨by rfl,?_⟩) ?_;rotate_left;(focus (intro w hSw;(try dsimp only at hSw);go_simp;(try with_reducible rfl)));(simp only [put_lit,List.set]))
   refine wpAnyH_done (by kernel_rfl) ?_ _
   clear hHeld c1 c2 hGl
   go_wp2_with fail
   refine wp_region_held_drew (S:=fun w'=>w'.cell? ⟨G,1,none⟩=some (.int .i64 x1)∧w'.cell? ⟨G,2,none⟩=some (.int .i64 x2)) (by kernel_rfl) (by (try dsimp only);go_keep) (fun hHeld=>?_)
   (refine tk (i:=0) (v:=?_) rfl rfl (Or.inl ⟨by rfl,?_⟩) ?_;rotate_left;(focus (intro w hSw;(try dsimp only at hSw);go_simp;(try with_reducible rfl)));(simp only [put_lit,List.set]))
   (refine tk (i:=1) (v:=?_) rfl rfl (Or.inl ⟨by rfl,?_⟩) ?_;rotate_left;(focus (intro w hSw;(try dsimp only at hSw);go_simp;(try with_reducible rfl)));(simp only [put_lit,List.set]))
   (refine tk (i:=2) (v:=?_) rfl rfl (Or.inl ⟨by rfl,?_⟩) ?_;rotate_left;(focus (intro w hSw;(try dsimp only at hSw);go_simp;(try with_reducible rfl)));(simp only [put_lit,List.set]))
   (refine tk (i:=3) (v:=?_) rfl rfl (Or.inl ⟨by rfl,?_⟩) ?_;rotate_left;(focus (intro w hSw;(try dsimp only at hSw);go_simp;(try with_reducible rfl)));(simp only [put_lit,List.set]))
   (refine tk (i:=4) (v:=?_) rfl rfl (Or.inl ⟨by rfl,?_⟩) ?_;rotate_left;(focus (intro w hSw;(try dsimp only at hSw);go_simp;(try with_reducible rfl)));(simp only [put_lit,List.set]))
   (refine tk (i:=5) (v:=?_) rfl rfl (Or.inl ⟨by rfl,?_⟩) ?_;rotate_left;(focus (intro w hSw;(try dsimp only at hSw);go_simp;(try with_reducible rfl)));(simp only [put_lit,List.set]))
   (refine tk (i:=6) (v:=?_) rfl rfl (Or.inl ⟨by rfl,?_⟩) ?_;rotate_left;(focus (intro w hSw;(try dsimp only at hSw);go_simp;(try with_reducible rfl)));(simp only [put_lit,List.set]))
   (refine tk (i:=7) (v:=?_) rfl rfl (Or.inl ⟨by rfl,?_⟩) ?_;rotate_left;(focus (intro w hSw;(try dsimp only at hSw);go_simp;(try with_reducible rfl)));(simp only [put_lit,List.set]))
   (refine tk (i:=8) (v:=?_) rfl rfl (Or.inl ⟨by rfl,?_⟩) ?_;rotate_left;(focus (intro w hSw;(try dsimp only at hSw);go_simp;(try with_reducible rfl)));(simp only [put_lit,List.set]))
   refine wpAnyH_ready (rs:=[9]) (by kernel_rfl) (by simp) ?_;refine AllReadyH.cons rfl (fun K hK=>?_) AllReadyH.nil;go_simp;refine hK.out _ _ ?_ (fun _=>?_);(focus ((try dsimp only);go_keep));clear hHeld hK K;rename_i hHeld;(try (simp only [put_lit,List.set]))
   (refine wpAnyH_ready (rs:=[10]) (by kernel_rfl) (by simp) ?_;refine AllReadyH.cons rfl (fun K hK=>?_) AllReadyH.nil;go_simp)
   refine (rnrm_two _ _ _ [x1+(s:Int),2*x2] _ ((I64At.two w5 _ _).below Bel.go) (by omega) P2.out D2.out).mono ?_
   rintro e w6 ⟨⟨A6,rfl,h6⟩,hb6⟩
   have hb56:Below w5.heap.size w5 w6:=(Below.trans Bel.go (hb6.mono (by simp<;>omega)))
   have H6:=Lib.hid h6
   have H56:=Lib.hid (H5.out.below hb56)
   have Hb6:=Lib.hid (Hb5.out.trans (hb56.mono Hb5.out.size))
   clear h6 hb56
   obtain ⟨hcx,hfx⟩:=bcellS hb6;refine hK.out _ _ ?_ (fun _=>?_);(focus (((try dsimp only);repeat' apply And.intro)<;>(rw [hcx _ (by go_simp)];go_simp)));clear hHeld hK K hcx hfx;rename_i hHeld;clear hb6
   (refine tk (i:=11) (v:=?_) rfl rfl (Or.inl ⟨by rfl,?_⟩) ?_;rotate_left;(focus (intro w hSw;(try dsimp only at hSw);go_simp;(try with_reducible rfl)));(simp only [put_lit,List.set]))
   (refine tk (i:=12) (v:=?_) rfl rfl (Or.inl ⟨by rfl,?_⟩) ?_;rotate_left;(focus (intro w hSw;(try dsimp only at hSw);go_simp;(try with_reducible rfl)));(simp only [put_lit,List.set]))
   (refine tk (i:=13) (v:=?_) rfl rfl (Or.inl ⟨by rfl,?_⟩) ?_;rotate_left;(focus (intro w hSw;(try dsimp only at hSw);go_simp;(try with_reducible rfl)));(simp only [put_lit,List.set]))
   (refine tk (i:=14) (v:=?_) rfl rfl (Or.inl ⟨by rfl,?_⟩) ?_;rotate_left;(focus (intro w hSw;(try dsimp only at hSw);go_simp;(try with_reducible rfl)));(simp only [put_lit,List.set]))
   (refine tk (i:=15) (v:=?_) rfl rfl (Or.inl ⟨by rfl,?_⟩) ?_;rotate_left;(focus (intro w hSw;(try dsimp only at hSw);go_simp;(try with_reducible rfl)));(simp only [put_lit,List.set]))
   refine wpAnyH_done (by kernel_rfl) ?_ _
   clear hHeld c1' c2' hG5
   go_wp2
   have HF:=Lib.hid (show spl q=[nrm [x1-(s:Int),2*x2],nrm [x1+(s:Int),2*x2]] by rw [Hsp.out,HE1.out,HE2.out];rfl)
   refine bodyPost_ret (v:=.tuple #[.int .i64 u,.slice (some ⟨w6.heap.size,0,none⟩) 2 2]) (by simp [results,Tryz.results53,go_sem]) rfl ⟨⟨u,_,_,_,rfl,HU.out.1,HU.out.2,by rw [HF.out];exact ps_below (ps_two H56.out H6.out) Bel.go⟩,Hb6.out.trans ((below_new _ _).mono Hb6.out.size)⟩
  ·obtain rfl:B=false:=by simpa using hbt
   have hok:=of_decide_eq_false HB.out
   clear HB hbt
   have Hsp:=Lib.hid (SN.out fun t ht=>by
    rw [HD.out] at ht
    rcases Nat.lt_trichotomy t s with c | c | c
    ·have:=hst t c;omega
    ·subst c
     exact hok ⟨by rw [← ht];exact Int.mul_nonneg (by omega) (by omega),ht⟩
    ·have h1:s*s<t*t:=Nat.mul_self_lt_mul_self c
     have h2:((s*s:Nat):Int)<((t*t:Nat):Int):=by omega
     rw [Int.natCast_mul,Int.natCast_mul] at h2
     omega)
   clear hok hHeld c0 c1 c2 HX hst hsn
   go_wp2
   refine bodyPost_ret (v:=.tuple #[.int .i64 u,.slice (some ⟨w1.heap.size,0,none⟩) 1 1]) (by simp [results,Tryz.results53,go_sem]) rfl ⟨⟨u,_,_,_,rfl,HU.out.1,HU.out.2,by rw [Hsp.out];exact ps_below (ps_one HA.out) ((Below.refl _ _).drew)⟩,Hb.out.trans (((below_new _ _).mono Hb.out.size).drew)⟩
theorem rmul_comm (f g:List Int):rmul f g=rmul g f:=by
 rw [← rmul_trim f g,← rmul_trim g f]
 exact ptrim_ext fun k=>by
  rw [rmul_get,rmul_get]
  have h:∀ t,ev (polymul f g) t=ev (polymul g f) t:=fun t=>by rw [ev_mul,ev_mul,Int.mul_comm]
  have:=ev_inj h k
  rwa [polymul_getD,polymul_getD] at this
theorem rmul_bd3 {f g:List Int} {X Y:Nat} (hg3:g.length≤3) (hf:∀ j,(f.getD j 0).natAbs≤X) (hg:∀ j,(g.getD j 0).natAbs≤Y) (k:Nat):((rmul f g).getD k 0).natAbs≤3*(Y*X):=by
 rw [rmul_comm,rmul_get]
 have key:∀ m,(pcs g f k m).natAbs≤min m 3*(Y*X):=fun m=>by
  induction m with
  | zero=>exact Nat.zero_le _
  | succ m ih =>
    rw [pcs]
    by_cases h:m<3
    ·have h2:(g.getD m 0*f.getD (k-m) 0).natAbs≤Y*X:=by rw [Int.natAbs_mul];exact Nat.mul_le_mul (hg m) (hf (k-m))
     have h3:=Int.natAbs_add_le (pcs g f k m) (g.getD m 0*f.getD (k-m) 0)
     rw [Nat.min_eq_left (by omega)] at ih ⊢
     rw [Nat.succ_mul]
     omega
    ·rw [getD_out g (by omega),Int.zero_mul,Int.add_zero]
     rw [Nat.min_eq_right (by omega)] at ih ⊢
     exact ih
 unfold pc
 refine Nat.le_trans (key _) (Nat.mul_le_mul_right _ (Nat.min_le_right _ _))
theorem sma_abs {q:List Int} (h3:q.length=3) (h:Sma q) (j:Nat):(q.getD j 0).natAbs≤9:=by
 by_cases c:j<3
 ·have:=h j c
  omega
 ·rw [getD_out q (by omega)]
  exact Nat.zero_le _
def Tri (qs:List (List Int)):Prop:=∀ q∈qs,q.length=3∧Sma q
theorem prodf_app (P:List Int):∀ (qs:List (List Int)) (q:List Int),prodf P (qs ++ [q])=rmul (prodf P qs) q:=fun qs q=>by
 induction qs generalizing P with
 | nil=>rfl
 | cons r rs ih=>exact ih _
theorem prodf_bd:∀ (qs:List (List Int)) (P:List Int) (X:Nat),Tri qs→(∀ j,(P.getD j 0).natAbs≤X)→∀ j,((prodf P qs).getD j 0).natAbs≤27^qs.length*X
 | [],P,X,_,h,j=>by show (P.getD j 0).natAbs≤27^0*X;rw [Nat.pow_zero,Nat.one_mul];exact h j
 | q :: qs,P,X,ht,h,j=>by
   have hq:=ht q List.mem_cons_self
   have h1:=prodf_bd qs (rmul P q) (27*X) (fun r hr=>ht r (List.mem_cons_of_mem _ hr)) (fun k=>by
    have:=rmul_bd3 (X:=X) (Y:=9) (Nat.le_of_eq hq.1) h (sma_abs hq.1 hq.2) k
    omega) j
   show ((prodf (rmul P q) qs).getD j 0).natAbs≤27^(qs.length+1)*X
   rw [Nat.pow_succ,Nat.mul_assoc]
   exact h1
theorem prodf_len:∀ (qs:List (List Int)) (P:List Int) (a:Nat),Tri qs→plen P≤a+1→P.length≤a+1→(prodf P qs).length≤a+2*qs.length+1
 | [],P,a,_,_,h=>h
 | q :: qs,P,a,ht,h,_=>by
   have hq:=ht q List.mem_cons_self
   have h1:(rmul P q).length≤a+2+1:=rmul_len h (by have:=plen_le q;have:=hq.1;omega)
   have h2:=prodf_len qs (rmul P q) (a+2) (fun r hr=>ht r (List.mem_cons_of_mem _ hr)) (by have:=plen_le (rmul P q);omega) h1
   show (prodf (rmul P q) qs).length≤a+2*(qs.length+1)+1
   omega
theorem prodf_trim:∀ (qs:List (List Int)) (P:List Int),ptrim P=P→ptrim (prodf P qs)=prodf P qs
 | [],_,h=>h
 | q :: qs,_,_=>prodf_trim qs (rmul _ q) (rmul_trim _ q)
theorem one_abs (j:Nat):(([1]:List Int).getD j 0).natAbs≤1:=by
 match j with
 | 0=>exact Nat.le_refl _
 | j+1=>exact Nat.zero_le _
set_option maxRecDepth 100000 in
set_option maxHeartbeats 4000000 in
theorem fprod_any {w:World} {A:Option Addr} {la ca:Nat} {qs:List (List Int)} (h:TrAt w A la ca qs) (hl:la≤5) (ht:Tri qs) :
 Calls Tryz.prog 15 #[.slice A la ca] w fun e w'=>(∃ A' l' c',e=.returned (.slice A' l' c')∧I64At w' A' l' c' (prodf [1] qs))∧Below w.heap.size w w':=by
 have H:=Lib.hid h
 have Hl:=Lib.hid h.length
 have HT:=Lib.hid ht
 clear h ht
 go_enter Tryz.func15,Tryz.ntmps15
 go_wp2
 go_loopw [3,4] (fun s3 s4 wr=>∃ (i:Nat) (A':Option Addr) (l' c':Nat),i≤la∧s3=.slice A' l' c'∧s4=.int .i64 (i:Int)∧I64At wr A' l' c' (prodf [1] (qs.take i))∧Below w.heap.size w wr) (fun _ s4 _=>la-(intOf s4).toNat)
 case atStart=>exact ⟨0,_,_,_,Nat.zero_le _,rfl,rfl,I64At.one _ _,Bel.go⟩
 case round =>
  obtain ⟨i,A',l',c',hi,rfl,rfl,hat,hbw⟩:=hrel
  obtain ⟨wo,rfl⟩:∃ wo:World,wo=wr:=⟨_,rfl⟩
  have Hat:=Lib.hid hat
  have Hbw:=Lib.hid hbw
  by_cases hlt:i<la
  ·have Hlt:=Lib.hid hlt
   obtain ⟨b,o,rfl,hbl,hc⟩:=(H.out.below hbw).at (by omega)
   have hq:=HT.out (qs.getD i []) (by rw [List.getD_eq_getElem?_getD,List.getElem?_eq_getElem (by rw [Hl.out];exact hlt)];exact List.getElem_mem _)
   have e0:=hc i hlt 0 (by omega)
   have e1:=hc i hlt 1 (by omega)
   have e2:=hc i hlt 2 (by omega)
   rw [Nat.add_zero] at e0
   have hl3:=list3 hq.1
   have s0:=hq.2 0 (by omega)
   have s1:=hq.2 1 (by omega)
   have s2:=hq.2 2 (by omega)
   have HA:=Lib.hid (sma_abs hq.1 hq.2)
   have HN:=Lib.hid (show prodf [1] (qs.take (i+1))=rmul (prodf [1] (qs.take i)) (qs.getD i []) by rw [List.take_add_one,List.getElem?_eq_getElem (by rw [Hl.out];exact hlt),Option.toList_some,prodf_app,List.getD_eq_getElem?_getD,List.getElem?_eq_getElem (by rw [Hl.out];exact hlt)];rfl)
   obtain ⟨x0,hx0⟩:∃ x,x=(qs.getD i []).getD 0 0:=⟨_,rfl⟩
   obtain ⟨x1,hx1⟩:∃ x,x=(qs.getD i []).getD 1 0:=⟨_,rfl⟩
   obtain ⟨x2,hx2⟩:∃ x,x=(qs.getD i []).getD 2 0:=⟨_,rfl⟩
   rw [← hx0] at e0 s0 hl3
   rw [← hx1] at e1 s1 hl3
   rw [← hx2] at e2 s2 hl3
   rw [hl3] at HN HA
   have ti:(i:Int)<(la:Int):=by omega
   have tw:IntKind.i64.wrap ((i:Int)+1)=(i:Int)+1:=IntWalk.i64_in _ (by omega)
   have HTI:=Lib.hid (show Tri (qs.take i) from fun q h=>HT.out q (List.mem_of_mem_take h))
   have HLI:=Lib.hid (show (qs.take i).length≤5 by rw [List.length_take];omega)
   clear hx0 hx1 hx2 hc hq hl3 hat hbw
   clear hi hlt
   go_wp2_with fail
   refine (wid_any x0 x1 x2 _ ⟨by omega,by omega⟩ ⟨by omega,by omega⟩ ⟨by omega,by omega⟩).mono ?_
   rintro e w1 ⟨A1,c1,rfl,h1,hb1⟩
   have H1:=Lib.hid h1
   have hat1:=Lib.hid (Hat.out.below hb1)
   replace Hbw:=Lib.hid (Hbw.out.trans (hb1.mono Hbw.out.size))
   have hll:=Lib.hid (show l'≤1000 by rw [← Hat.out.length];have:=prodf_len _ [1] 0 HTI.out (by decide) (by decide);have:=HLI.out;omega)
   clear hb1 h1
   go_wp2_with fail
   refine (rmul_any _ _ _ (prodf [1] (qs.take i)) _ _ _ [x0,x1,x2] _ hat1.out H1.out hll.out (by omega) (X:=27^5) (Y:=9) (fun j=>by
    have h:=prodf_bd _ [1] 1 HTI.out one_abs j
    have h2:27^(qs.take i).length≤27^5:=Nat.pow_le_pow_right (by decide) HLI.out
    omega) HA.out (by decide)).mono ?_
   rintro e w2 ⟨A2,l2,c2,rfl,h2,_,hb2⟩
   have H2:=Lib.hid h2
   replace Hbw:=Lib.hid (Hbw.out.trans (hb2.mono Hbw.out.size))
   clear hb2 h2
   go_wp2
   go_roundw
   case rel=>exact ⟨i+1,_,_,_,Hlt.out,rfl,by go_num,by rw [HN.out];exact H2.out,Hbw.out⟩
   case measure=>have:=Hlt.out;simp [intOf];omega
  ·have ti:¬ (i:Int)<(la:Int):=by omega
   have HE:=Lib.hid (show qs.take i=qs by rw [List.take_of_length_le (by rw [Hl.out];omega)])
   clear hat hbw hi hlt
   go_wp2
   go_ret
   exact ⟨⟨_,_,_,rfl,by rw [← HE.out];exact Hat.out⟩,Hbw.out⟩
end Go.Proofs.YtipocabbjinbhaaGreat
namespace Go.Proofs.YtipocabbjinbhaaGreat
open Go Go.RowKit
def FcE (w:World) (f:List Int×Nat) (vs:List Value):Prop:=∃ A l c,vs=[.slice A l c,.int .i64 (f.2:Int)]∧I64At w A l c f.1
theorem FcE.below {w w':World} {f:List Int×Nat} {vs:List Value} (h:FcE w f vs) (hb:Below w.heap.size w w'):FcE w' f vs:=by
 obtain ⟨A,l,c,e,h⟩:=h
 exact ⟨A,l,c,e,h.below hb⟩
abbrev FsAt (w:World) (A:Option Addr) (l c:Nat) (fs:List (List Int×Nat)):Prop:=SlE 2 FcE w A l c fs
theorem fs_below {w w':World} {A:Option Addr} {l c:Nat} {fs:List (List Int×Nat)} (h:FsAt w A l c fs) (hb:Below w.heap.size w w'):FsAt w' A l c fs:=h.below hb fun _ _ hx=>hx.below hb
theorem fce_len {w:World} {f:List Int×Nat} {vs:List Value} (h:FcE w f vs):vs.length=2:=by
 obtain ⟨A,l,c,e,h⟩:=h
 rw [e];rfl
theorem nd_i64 (n:Int):Nd (.int .i64 n):=⟨(by intro n h;cases h),rfl⟩
theorem nd_slc (A:Option Addr) (l c:Nat):Nd (.slice A l c):=⟨(by intro n h;cases h),rfl⟩
theorem fce_nd {w:World} {f:List Int×Nat} {vs:List Value} (h:FcE w f vs):∀ u∈vs,Nd u:=by
 obtain ⟨A,l,c,e,h⟩:=h
 intro u hu
 rw [e] at hu
 simp at hu
 rcases hu with rfl | rfl
 ·exact nd_slc _ _ _
 ·exact nd_i64 _
def RowF (w0 w:World) (g:Nat) (fs:List (List Int×Nat)):Prop:=∀ i,i<fs.length→∃ A l c,w.cell? ⟨g,i*2,none⟩=some (.slice A l c)∧w.cell? ⟨g,i*2+1,none⟩=some (.int .i64 ((fs.getD i ([],0)).2:Int))∧I64At w0 A l c (fs.getD i ([],0)).1
theorem getD_fs {fs:List (List Int×Nat)} {i:Nat} (h:i<fs.length):fs[i]?=some (fs.getD i ([],0)):=by
 rw [List.getD_eq_getElem?_getD,List.getElem?_eq_getElem h]
 rfl
theorem RowF.sle {w0 w:World} {g n c:Nat} {fs:List (List Int×Nat)} (h:RowF w0 w g fs) (hb:Below w0.heap.size w0 w) (hg:g<w.heap.size) (hn:fs.length=n) (hc:n≤c):FsAt w (some ⟨g,0,none⟩) n c fs:=by
 refine ⟨hn,hc,.inr ⟨g,0,rfl,hg,fun i x hx=>?_⟩⟩
 have hi:i<fs.length:=(List.getElem?_eq_some_iff.1 hx).1
 obtain ⟨A,l,c,h1,h2,h3⟩:=h i hi
 rw [getD_fs hi] at hx
 cases hx
 refine ⟨_,⟨A,l,c,rfl,h3.below hb⟩,fun j v hv=>?_⟩
 match j,hv with
 | 0,hv=>simp at hv;subst hv;rw [Nat.zero_add];exact h1
 | 1,hv=>simp at hv;subst hv;rw [Nat.zero_add];exact h2
 | j+2,hv=>simp at hv
theorem fs_lay {w:World} {A:Option Addr} {l c:Nat} {fs:List (List Int×Nat)} (h:FsAt w A l c fs) (hl:0<l):∃ b o us,A=some ⟨b,o,none⟩∧b<w.heap.size∧Lay (FcE w) fs us∧∀ (j:Nat) (u:Value),us[j]?=some u→w.cell? ⟨b,o+j,none⟩=some u:=by
 rcases h.elems with ⟨h0,_⟩ | ⟨b,o,e,hb,hv⟩
 ·omega
 ·have key:∀ (fs:List (List Int×Nat)) (o:Nat),(∀ (i:Nat) (x:List Int×Nat),fs[i]?=some x→∃ vs,FcE w x vs∧∀ (j:Nat) (v:Value),vs[j]?=some v→w.cell? ⟨b,o+i*2+j,none⟩=some v)→∃ us,Lay (FcE w) fs us∧∀ (j:Nat) (u:Value),us[j]?=some u→w.cell? ⟨b,o+j,none⟩=some u:=by
   intro fs
   induction fs with
   | nil=>intro o _;exact ⟨[],rfl,fun j u h=>by simp at h⟩
   | cons r rs ih =>
     intro o hv
     obtain ⟨vs,h1,h2⟩:=hv 0 r rfl
     obtain ⟨ws,h3,h4⟩:=ih (o+2) (fun i x hx=>by
      obtain ⟨us,g1,g2⟩:=hv (i+1) x (by simpa using hx)
      exact ⟨us,g1,fun j v hv=>by rw [show o+2+i*2+j=o+(i+1)*2+j by rw [Nat.add_mul];omega];exact g2 j v hv⟩)
     have hl:=fce_len h1
     refine ⟨vs ++ ws,⟨vs,ws,h1,rfl,h3⟩,fun j u hj=>?_⟩
     rcases Nat.lt_or_ge j 2 with c | c
     ·rw [List.getElem?_append_left (by omega)] at hj
      have:=h2 j u hj
      rwa [Nat.zero_mul,Nat.add_zero] at this
     ·rw [List.getElem?_append_right (by omega),hl] at hj
      have:=h4 _ u hj
      rwa [show o+2+(j-2)=o+j by omega] at this
  obtain ⟨us,h1,h2⟩:=key fs o hv
  exact ⟨b,o,us,e,hb,h1,h2⟩
theorem fs_nd {w:World}:∀ {fs:List (List Int×Nat)} {us:List Value},Lay (FcE w) fs us→∀ u∈us,Nd u
 | [],us,h,u,hu=>by rw [show us=[] from h] at hu;cases hu
 | r :: rs,us,⟨ws,vs,h1,h2,h3⟩,u,hu=>by
   rw [h2] at hu
   rcases List.mem_append.1 hu with hu | hu
   ·exact fce_nd h1 u hu
   ·exact fs_nd h3 u hu
theorem fac_row {w0 w:World} {t base:Nat} {v:Value} {us:List Value} {fs:List (List Int×Nat)} (h:OwnE Nd 2 t base w v us) (hl:Lay (FcE w0) fs us) (h0:0<fs.length):∃ g c cs,v=.slice (some ⟨g,0,none⟩) fs.length c∧fs.length≤c∧base≤g∧Blk w g t cs∧RowF w0 w g fs:=by
 have hul:=hl.len (E:=2) fun _ _ hx=>fce_len hx
 rcases h with ⟨e,_⟩ | ⟨g,n,cap,cs,e,hb,hun,hnc,huc,hk,hsz,hcs⟩
 ·rw [e] at hul;simp at hul;omega
 ·have:n=fs.length:=by omega
  subst this
  refine ⟨g,cap,cs,e,hnc,hb,hk,fun i hi=>?_⟩
  obtain ⟨vs,⟨A,l,c,rfl,h2⟩,h3⟩:=hl.get (E:=2) (fun _ _ hx=>fce_len hx) i _ (getD_fs hi)
  exact ⟨A,l,c,huc _ _ (h3 0 _ rfl),huc _ _ (h3 1 _ rfl),h2⟩
abbrev facZero:Value:=.agg #[.slice none 0 0,.int .i64 0]
theorem info_fac:(Tryz.prog.info? 66).map (fun i=>(i.zero,i.size,i.bytes))=some (some facZero,2,32):=by kernel_rfl
theorem fac_ndz:∀ j,j<2→Nd (facZero.cells[j]!):=fun j hj=>by
 match j,hj with
 | 0,_=>exact nd_slc _ _ _
 | 1,_=>exact nd_i64 _
theorem wpList_app_fac {w:World} {ops:Array Oper} {rest:List Oper} {o:Oper} {a:Act} {Q:Exit→Act→World→Prop} (hgd:o.guard=none) (s x:Operand)
 (ho:o.op=.call { callee:=.builtin .append,args:=#[s,x],argTypes:=#[25,25] })
 (base:Nat) (v:Value) (us vs:List Value) (hs:a.eval s=v) (hown:OwnE Nd 2 66 base w v us) (hB:base≤w.heap.size)
 (ax:Addr) (m c:Nat) (hx:a.eval x=.slice (some ax) m c) (hvl:vs.length=m*2) (hxc:∀ (j:Nat) (u:Value),vs[j]?=some u→w.cell? (ax.add j)=some u) (hvn:∀ u∈vs,Nd u) (hm:0<m∨v≠.slice none 0 0) (hn:us.length+vs.length≤100000000)
 (dd:Nat) (hdd:o.dst=some dd) (h:∀ v' w',GrE Nd 2 66 base w v us vs v' w'→wpList Tryz.prog ops Q rest (a.put (some dd) v') w') :
 wpList Tryz.prog ops Q (o :: rest) a w:=by
 obtain ⟨i0,hi,hz0,hz1,hz2⟩:=info_parts info_fac
 exact wpList_plain hgd fun _ hK'=>oper_append_own s x 25 66 ho 2 i0 facZero Tryz.underlying25 hi hz0 hz1 (by rw [hz2];omega) rfl Nd (fun _ h=>h) fac_ndz (by decide) base v us vs hs hown hB ax m c hx hvl hxc hvn hm hn dd hdd fun v' w' hg=>hK' _ _ (h v' w' hg)
theorem wpList_app_nil {w:World} {ops:Array Oper} {rest:List Oper} {o:Oper} {a:Act} {Q:Exit→Act→World→Prop} (hgd:o.guard=none) (s x:Operand)
 (ho:o.op=.call { callee:=.builtin .append,args:=#[s,x],argTypes:=#[25,25] })
 (g:Nat) (hs:a.eval s=.slice (some ⟨g,0,none⟩) 0 0) (hx:a.eval x=.slice none 0 0)
 (dd:Nat) (hdd:o.dst=some dd) (h:wpList Tryz.prog ops Q rest (a.put (some dd) (.slice (some ⟨g,0,none⟩) 0 0)) w) :
 wpList Tryz.prog ops Q (o :: rest) a w:=by
 obtain ⟨i0,hi,hz0,hz1,hz2⟩:=info_parts info_fac
 refine wpList_plain hgd fun K' hK'=>?_
 rw [← hdd] at h
 have hrun:(Builtin.append_ #[25,25] o.type #[.slice (some ⟨g,0,none⟩) 0 0,.slice none 0 0]).run Tryz.prog w=.ok (.slice (some ⟨g,0,none⟩) 0 0) w:=by
  simp [Builtin.append_,run_underlying Tryz.underlying25,sizeOf,typeInfo,hi,Builtin.lenOf,Builtin.firstCells,storeCells]
 unfold Oper.wp
 simp only [execOp,ho,resolve,invoke,builtin]
 simp [hs,hx,hrun,Result.andThen]
 exact hK' _ _ h
theorem OwnE.empty {t base:Nat} (w:World) (hb:base≤w.heap.size):OwnE Nd 2 t base (w.alloc (.cells #[] t)) (.slice (some ⟨w.heap.size,0,none⟩) 0 0) [] :=
 .inr ⟨w.heap.size,0,0,#[],rfl,hb,rfl,Nat.le_refl _,fun j u h=>by simp at h,Blk.new _ _ _,rfl,fun j h=>absurd h (by omega)⟩
structure FSt (base:Nat) (w0 w:World) (v:Value) (fs:List (List Int×Nat)):Prop where
 own:∃ us,OwnE Nd 2 66 base w v us∧Lay (FcE w0) fs us
 at_:∃ g c,v=.slice (some ⟨g,0,none⟩) fs.length c∧base≤g∧g<w.heap.size∧(∀ o,w.frozen? ⟨g,o,none⟩=false)∧RowF w0 w g fs∧fs.length≤c
theorem RowF.below {w0 w w':World} {g:Nat} {fs:List (List Int×Nat)} (h:RowF w0 w g fs) (hg:g<w.heap.size) (hb:Below w.heap.size w w'):RowF w0 w' g fs:=fun i hi=>by
 obtain ⟨A,l,c,h1,h2,h3⟩:=h i hi
 exact ⟨A,l,c,(hb.cell (p:=⟨g,i*2,none⟩) hg).trans h1,(hb.cell (p:=⟨g,i*2+1,none⟩) hg).trans h2,h3⟩
theorem wpList_app_cp {w:World} {ops:Array Oper} {rest:List Oper} {o:Oper} {a:Act} {Q:Exit→Act→World→Prop} (hgd:o.guard=none) (s x:Operand)
 (ho:o.op=.call { callee:=.builtin .append,args:=#[s,x],argTypes:=#[25,25] })
 (hs:a.eval s=.slice (some ⟨w.heap.size,0,none⟩) 0 0) {A:Option Addr} {l c:Nat} {fs:List (List Int×Nat)} (hx:a.eval x=.slice A l c) (hF:FsAt w A l c fs) (hl:l≤100) (h0:l=0→A=none∧c=0)
 (dd:Nat) (hdd:o.dst=some dd) (h:∀ v' w',FSt w.heap.size w w' v' fs→Below w.heap.size w w'→wpList Tryz.prog ops Q rest (a.put (some dd) v') w') :
 wpList Tryz.prog ops Q (o :: rest) a (w.alloc (.cells #[] 66)):=by
 by_cases hz:l=0
 ·obtain ⟨rfl,rfl⟩:=h0 hz
  subst hz
  have hn:fs=[]:=List.eq_nil_of_length_eq_zero hF.length
  refine wpList_app_nil hgd s x ho w.heap.size hs hx dd hdd (h _ _ ⟨⟨[],OwnE.empty w (Nat.le_refl _),by rw [hn];rfl⟩,⟨w.heap.size,0,by rw [hn];rfl,Nat.le_refl _,(by have:=(below_new w (.cells #[] 66)).size;simp),fun o=>(Blk.new w 66 #[]).frozen o,fun i hi=>(by rw [hn] at hi;exact absurd hi (Nat.not_lt_zero _)),by rw [hn];exact Nat.le_refl _⟩⟩ (below_new _ _))
 ·obtain ⟨b,o',us,rfl,hbl,hlay,hc⟩:=fs_lay hF (by omega)
  have hul:=hlay.len (E:=2) fun _ _ hx=>fce_len hx
  have hll:=hF.length
  refine wpList_app_fac hgd s x ho w.heap.size _ [] us hs (OwnE.empty w (Nat.le_refl _)) (below_new w _).size ⟨b,o',none⟩ l c hx (by rw [hul,hll]) (fun j u hj=>by rw [Addr.add_lit];exact ((below_new w _).cell (p:=⟨b,o'+j,none⟩) hbl).trans (hc j u hj)) (fs_nd hlay) (.inl (by omega)) (by rw [hul,hll];simp;omega) dd hdd fun v1 w1 hg=>?_
  have hb:Below w.heap.size w w1:=(below_new w _).trans (hg.below (below_new w _).size)
  obtain ⟨g,c',cs,e,h1,h2,h3,h4⟩:=fac_row hg.1 hlay (by omega)
  exact h v1 w1 ⟨⟨us,hg.1,hlay⟩,⟨g,c',e,h2,h3.lt,fun o=>h3.frozen o,h4,h1⟩⟩ hb
theorem RowF.set {w0 w:World} {g i m:Nat} {p:List Int} {fs:List (List Int×Nat)} (h:RowF w0 w g fs) (hi:i<fs.length) (e:(fs.getD i ([],0))=(p,m)):RowF w0 (w.setCell ⟨g,i*2+1,none⟩ (.int .i64 ((m+1:Nat):Int))) g (fs.set i (p,m+1)):=fun k hk=>by
 rw [List.length_set] at hk
 obtain ⟨A,l,c,h1,h2,h3⟩:=h k hk
 have hne:k*2≠i*2+1:=by omega
 have n1:(w.setCell ⟨g,i*2+1,none⟩ (.int .i64 ((m+1:Nat):Int))).cell? ⟨g,k*2,none⟩=some (.slice A l c):=by go_simp
 by_cases hik:i=k
 ·subst hik
  have e2:(fs.set i (p,m+1)).getD i ([],0)=(p,m+1):=by rw [List.getD_eq_getElem?_getD,List.getElem?_set_self hi];rfl
  refine ⟨A,l,c,n1,?_,?_⟩
  ·rw [e2]
   go_simp
  ·rw [e2]
   rw [e] at h3
   exact h3
 ·have e2:(fs.set i (p,m+1)).getD k ([],0)=fs.getD k ([],0):=by rw [List.getD_eq_getElem?_getD,List.getElem?_set_ne hik,← List.getD_eq_getElem?_getD]
  have hne2:k*2+1≠i*2+1:=by omega
  refine ⟨A,l,c,n1,?_,?_⟩
  ·rw [e2]
   go_simp
  ·rw [e2]
   exact h3
theorem withf_len (p:List Int):∀ l:List (List Int×Nat),(withf l p).length≤l.length+1
 | []=>Nat.le_refl _
 | (r,m) :: l=>by
   unfold withf
   split
   ·simp
   ·have:=withf_len p l
    simp only [List.length_cons]
    omega
theorem withf_pow {p:List Int} {N:Nat}:∀ {l:List (List Int×Nat)},(∀ x∈l,x.2≤N)→∀ x∈withf l p,x.2≤N+1
 | [],_,x,hx=>by rw [List.mem_singleton.1 hx];exact Nat.le_add_left _ _
 | (r,m) :: l,h,x,hx=>by
   have h0:=h (r,m) List.mem_cons_self
   unfold withf at hx
   split at hx
   ·rcases List.mem_cons.1 hx with e | e
    ·rw [e];exact Nat.succ_le_succ h0
    ·have:=h x (List.mem_cons_of_mem _ e);omega
   ·rcases List.mem_cons.1 hx with e | e
    ·rw [e];have:m≤N:=h0;show m≤N+1;omega
    ·exact withf_pow (fun y hy=>h y (List.mem_cons_of_mem _ hy)) x e
set_option maxRecDepth 100000 in
set_option maxHeartbeats 8000000 in
theorem with_any (A:Option Addr) (l c:Nat) (fs:List (List Int×Nat)) (B:Option Addr) (lb cb:Nat) (p:List Int) (w:World) (hF:FsAt w A l c fs) (hP:I64At w B lb cb p) (hl:l≤100) (hlb:lb≤1000) (tp:ptrim p=p) (hs:∀ x∈fs,ptrim x.1=x.1∧x.1.length≤1000∧x.2≤100) (h0:l=0→A=none∧c=0) :
 Calls Tryz.prog 55 #[.slice A l c,.slice B lb cb] w fun e w'=>(∃ A' l' c',e=.returned (.slice A' l' c')∧FsAt w' A' l' c' (withf fs p)∧0<l')∧Below w.heap.size w w':=by
 have HF:=Lib.hid hF
 have HP:=Lib.hid hP
 have HS:=Lib.hid hs
 have Hll:=Lib.hid hF.length
 have Hl:=Lib.hid hl
 have H0:=Lib.hid h0
 clear hF hP hs h0 hl
 go_enter Tryz.func55,Tryz.ntmps55
 go_wp2_with (at_builtin;refine wpList_app_cp rfl (.tmp 7) (.tmp 8) rfl rfl rfl HF.out Hl.out H0.out 9 rfl ?_;intro v1 w1 hg1 hb1)
 obtain ⟨g,c1,e1,hg0,hgl,hfr,hrow,hcap⟩:=hg1.at_
 subst e1
 have HO:=Lib.hid hg1.own
 have HB1:=Lib.hid hb1
 have Hrow:=Lib.hid hrow
 have Hfr:=Lib.hid hfr
 have Hg0:=Lib.hid hg0
 have Hgl:=Lib.hid hgl
 have Hcap:=Lib.hid hcap
 obtain ⟨n,hn⟩:∃ n,n=fs.length:=⟨_,rfl⟩
 rw [← hn] at HO ⊢
 have Hn:=Lib.hid hn
 have hn100:n≤100:=by rw [hn,Hll.out];exact Hl.out
 clear hg1 hb1 hrow hfr hn hg0 hgl hcap
 have HP1:=Lib.hid (HP.out.below HB1.out)
 go_wp2
 go_loopw [6] (fun s6 wr=>∃ i:Nat,i≤n∧s6=.int .i64 (i:Int)∧(∀ j,j<i→(fs.getD j ([],0)).1≠p)∧Below w1.heap.size w1 wr) (fun s6 _=>n-(intOf s6).toNat)
 case atStart=>exact ⟨0,Nat.zero_le _,rfl,fun j hj=>absurd hj (Nat.not_lt_zero _),Below.refl _ _⟩
 case round =>
  obtain ⟨i,hi,rfl,hst,hbr⟩:=hrel
  obtain ⟨wo,rfl⟩:∃ wo:World,wo=wr:=⟨_,rfl⟩
  have Hst:=Lib.hid hst
  have Hbr:=Lib.hid hbr
  have Hi:=Lib.hid hi
  have HR:=Lib.hid (Hrow.out.below Hgl.out hbr)
  have hgo:g<wo.heap.size:=Nat.lt_of_lt_of_le Hgl.out hbr.size
  have hfo:∀ o,wo.frozen? ⟨g,o,none⟩=false:=fun o=>(hbr.frozen (p:=⟨g,o,none⟩) Hgl.out).trans (Hfr.out o)
  have Hfo:=Lib.hid hfo
  have Hgo:=Lib.hid hgo
  by_cases hlt:i<n
  ·have Hlt:=Lib.hid hlt
   obtain ⟨A1,l1,c2,k1,k2,k3⟩:=HR.out i (by rw [← Hn.out];exact hlt)
   have hmem:fs.getD i ([],0)∈fs:=by rw [List.getD_eq_getElem?_getD,List.getElem?_eq_getElem (by rw [← Hn.out];exact hlt)];exact List.getElem_mem _
   obtain ⟨q1,q2,q3⟩:=HS.out _ hmem
   obtain ⟨r,hr⟩:∃ r,r=(fs.getD i ([],0)).1:=⟨_,rfl⟩
   obtain ⟨m,hm⟩:∃ m,m=(fs.getD i ([],0)).2:=⟨_,rfl⟩
   rw [← hr] at k3 q1 q2
   rw [← hm] at k2 q3
   have Hr:=Lib.hid hr
   have Hm:=Lib.hid hm
   have k3':=Lib.hid ((k3.below HB1.out).below (hbr.mono (Nat.le_refl _)))
   have hp':=Lib.hid (HP1.out.below (hbr.mono (Nat.le_refl _)))
   have hll:=k3'.out.length
   have ti:(i:Int)<(n:Int):=by omega
   have tw:IntKind.i64.wrap ((i:Int)+1)=(i:Int)+1:=IntWalk.i64_in _ (by omega)
   have tm:IntKind.i64.wrap ((m:Int)+1)=(m:Int)+1:=IntWalk.i64_in _ (by omega)
   have hl1:l1≤1000:=by omega
   clear hr hm hst hbr hfo k3 hi hmem q2 hll
   go_wp2_with fail
   refine (same_any _ _ _ r _ _ _ p _ k3'.out hp'.out hl1 hlb q1 tp).mono ?_
   rintro e w3 ⟨rfl,hb3⟩
   have k2':=(hb3.cell (p:=⟨g,i*2+1,none⟩) hgo).trans k2
   have f2':=(hb3.frozen (p:=⟨g,i*2+1,none⟩) hgo).trans (Hfo.out _)
   have HR3:=Lib.hid (HR.out.below hgo hb3)
   have Hbr3:=Lib.hid (Hbr.out.trans (hb3.mono Hbr.out.size))
   have hg3:g<w3.heap.size:=Nat.lt_of_lt_of_le hgo hb3.size
   clear hb3 k1 k2 hgo
   by_cases hrp:r=p
   ·rw [decide_eq_true hrp]
    have hFin:=Lib.hid (show withf fs p=fs.set i (p,m+1) from withf_hit fs i m Hst.out (by
     rw [getD_fs (by rw [← Hn.out];exact Hlt.out)]
     exact congrArg some (Prod.ext (Hr.out.symm.trans hrp) Hm.out.symm)))
    have hEm:=Lib.hid (show fs.getD i ([],0)=(p,m) from Prod.ext (Hr.out.symm.trans hrp) Hm.out.symm)
    clear hrp
    go_wp2
    go_ret
    have hrow:=RowF.set HR3.out (by rw [← Hn.out];exact Hlt.out) hEm.out
    refine ⟨⟨some ⟨g,0,none⟩,n,c1,rfl,?_,by have:=Hlt.out;omega⟩,?_⟩
    ·rw [hFin.out]
     have:=hrow.sle (n:=n) (c:=c1) ((HB1.out.trans (Hbr3.out.mono HB1.out.size)).setCell (by exact Hg0.out) _) (by simpa using hg3) (by rw [List.length_set,Hn.out]) (by rw [Hn.out];exact Hcap.out)
     simpa using this
    ·have:=(HB1.out.trans (Hbr3.out.mono HB1.out.size)).setCell (p:=⟨g,i*2+1,none⟩) Hg0.out (.int .i64 ((m+1:Nat):Int))
     simpa using this
   ·rw [decide_eq_false hrp]
    have HNE:=Lib.hid hrp
    clear hrp k2' f2'
    go_wp2
    go_roundw
    case rel=>exact ⟨i+1,Hlt.out,by go_num,fun j hj=>(by
     by_cases c2:j<i
     ·exact Hst.out j c2
     ·obtain rfl:j=i:=by omega
      rw [← Hr.out]
      exact HNE.out),Hbr3.out⟩
    case measure=>have:=Hlt.out;simp [intOf];omega
  ·have ti:¬ (i:Int)<(n:Int):=by omega
   have hFin:=Lib.hid (show withf fs p=fs ++ [(p,1)] from withf_miss fs fun j hj=>Hst.out j (by rw [← Hn.out] at hj;omega))
   clear hst hbr hfo hi hlt hgo
   obtain ⟨us,hown,hlay⟩:=HO.out
   have Hown:=Lib.hid (((hown.below Hbr.out)).below (below_new wo (.cells #[.slice B lb cb,.int .i64 1] 66)))
   have Hlay:=Lib.hid hlay
   have Hul:=Lib.hid (show us.length≤200 by rw [hlay.len (E:=2) fun _ _ hx=>fce_len hx,← Hn.out];omega)
   have HpW:=Lib.hid HP.out
   have Hsz:=Lib.hid (show w.heap.size≤(wo.alloc (.cells #[.slice B lb cb,.int .i64 1] 66)).heap.size from Nat.le_trans (Nat.le_trans HB1.out.size Hbr.out.size) (below_new _ _).size)
   have Hvn:=Lib.hid (show ∀ u∈[Value.slice B lb cb,Value.int .i64 1],Nd u from fun u hu=>by
    simp at hu
    rcases hu with rfl | rfl
    ·exact nd_slc _ _ _
    ·exact nd_i64 _)
   have Hvc:=Lib.hid (show ∀ (j:Nat) (u:Value),[Value.slice B lb cb,Value.int .i64 1][j]?=some u→(wo.alloc (.cells #[.slice B lb cb,.int .i64 1] 66)).cell? ((⟨wo.heap.size,0,none⟩:Addr).add j)=some u from fun j u hj=>by
    match j,hj with
    | 0,hj=>simp at hj;subst hj;rw [Addr.add_lit];simp
    | 1,hj=>simp at hj;subst hj;rw [Addr.add_lit];simp
    | j+2,hj=>simp at hj)
   clear hown hlay
   go_wp2_with (at_builtin;refine wpList_app_fac rfl (.tmp 32) (.tmp 35) rfl w.heap.size _ us [.slice B lb cb,.int .i64 1] rfl Hown.out Hsz.out ⟨wo.heap.size,0,none⟩ 1 1 rfl rfl Hvc.out Hvn.out (.inl (by omega)) (by have:=Hul.out;simp;omega) 36 rfl ?_;intro v5 w5 hg5)
   have hb5:=hg5.below Hsz.out
   have hB:Below w.heap.size w w5:=((HB1.out.trans (Hbr.out.mono HB1.out.size)).trans ((below_new wo _).mono (Nat.le_trans HB1.out.size Hbr.out.size))).trans hb5
   have hlay5:Lay (FcE w5) (fs ++ [(p,1)]) (us ++ [.slice B lb cb,.int .i64 1]):=(Hlay.out.mono fun x vs hx=>hx.below hB).app ⟨B,lb,cb,rfl,HpW.out.below hB⟩
   obtain ⟨A5,l5,c5,e5,hs5⟩:=hg5.1.sle (by decide) hlay5 fun _ _ hx=>fce_len hx
   have Hs5:=Lib.hid hs5
   have HB5:=Lib.hid hB
   have HL5:=Lib.hid (show 0<l5 by have:=hs5.length;simp at this;omega)
   subst e5
   clear hg5 hb5 hB hlay5 hs5
   go_wp2
   go_ret
   exact ⟨⟨A5,l5,c5,rfl,by rw [hFin.out];exact Hs5.out,HL5.out⟩,HB5.out⟩
end Go.Proofs.YtipocabbjinbhaaGreat
namespace Go.Proofs.YtipocabbjinbhaaGreat
open Go Go.RowKit
theorem spl_len2 (q:List Int):(spl q).length≤2:=by
 unfold spl
 split
 ·simp
 ·split
  ·simp
  ·split<;>simp
theorem addf_len:∀ (ps:List (List Int)) (l:List (List Int×Nat)),(addf l ps).length≤l.length+ps.length
 | [],_=>Nat.le_refl _
 | p :: ps,l=>by
   have h1:=withf_len p l
   have h2:=addf_len ps (withf l p)
   show (addf (withf l p) ps).length≤l.length+(ps.length+1)
   omega
theorem facs_len:∀ (qs:List (List Int)) (l:List (List Int×Nat)),(facs l qs).length≤l.length+2*qs.length
 | [],_=>Nat.le_refl _
 | q :: qs,l=>by
   have h1:=addf_len (spl q) l
   have h2:=facs_len qs (addf l (spl q))
   have h3:=spl_len2 q
   show (facs (addf l (spl q)) qs).length≤l.length+2*(qs.length+1)
   omega
theorem addf_pow:∀ {ps:List (List Int)} {l:List (List Int×Nat)} {N:Nat},(∀ x∈l,x.2≤N)→∀ x∈addf l ps,x.2≤N+ps.length
 | [],_,_,h=>h
 | p :: ps,l,N,h=>fun x hx=>by
   have:=addf_pow (ps:=ps) (l:=withf l p) (N:=N+1) (withf_pow h) x hx
   simp only [List.length_cons]
   omega
theorem facs_pow:∀ {qs:List (List Int)} {l:List (List Int×Nat)} {N:Nat},(∀ x∈l,x.2≤N)→∀ x∈facs l qs,x.2≤N+2*qs.length
 | [],_,_,h=>h
 | q :: qs,l,N,h=>fun x hx=>by
   have:=facs_pow (qs:=qs) (l:=addf l (spl q)) (N:=N+2) (fun y hy=>by
    have h1:=addf_pow h y hy
    have h2:=spl_len2 q
    omega) x hx
   simp only [List.length_cons]
   omega
theorem addf_app (l:List (List Int×Nat)):∀ (ps:List (List Int)) (p:List Int),addf l (ps ++ [p])=withf (addf l ps) p:=fun ps p=>by
 induction ps generalizing l with
 | nil=>rfl
 | cons r rs ih=>exact ih _
theorem facs_app (l:List (List Int×Nat)):∀ (qs:List (List Int)) (q:List Int),facs l (qs ++ [q])=addf (facs l qs) (spl q):=fun qs q=>by
 induction qs generalizing l with
 | nil=>rfl
 | cons r rs ih=>exact ih _
structure Fsm (p:List Int):Prop where
 tr:ptrim p=p
 len:p.length≤3
 bd:∀ j,(p.getD j 0).natAbs≤29
theorem fsm_nrm {q:List Int} (h3:plen q≤3) (h0:plen q≠0) (hb:∀ j,(q.getD j 0).natAbs≤29):Fsm (nrm q):=⟨by
 have h1:=nrm_plen h0
 unfold ptrim
 rw [h1,← nrm_len,List.take_length],by rw [nrm_len];exact h3,nrm_le hb⟩
theorem spl_fsm {q:List Int} (hl:q.length=3) (hs:Sma q):∀ p∈spl q,Fsm p:=fun p hp=>by
 have h9:=sma_abs hl hs
 have hp3:plen q≤3:=by have:=plen_le q;omega
 unfold spl at hp
 split at hp
 ·cases hp
 ·split at hp
  ·rw [List.mem_singleton.1 hp];exact fsm_nrm hp3 (by omega) fun j=>by have:=h9 j;omega
  ·have h0:plen q≠0:=by omega
   have hld:=nrm_lead h0
   rw [show plen q=3 by omega] at hld
   have n9:=nrm_le h9
   split at hp
   ·rename_i s hsq
    have hss:(s:Int)*(s:Int)=dsc (nrm q):=by
     unfold sqd at hsq
     split at hsq
     ·rename_i he
      cases hsq
      exact he.choose_spec
     ·cases hsq
    have hs20:s≤20:=by
     refine Nat.le_of_not_lt fun hlt=>?_
     have h1:21*21≤s*s:=Nat.mul_le_mul hlt hlt
     have h2:((s*s:Nat):Int)=dsc (nrm q):=by rw [Int.natCast_mul];exact hss
     have m1:((nrm q).getD 1 0*(nrm q).getD 1 0).natAbs≤9*9:=by rw [Int.natAbs_mul];exact Nat.mul_le_mul (n9 1) (n9 1)
     have m2:(4*(nrm q).getD 2 0*(nrm q).getD 0 0).natAbs≤36*9:=by rw [Int.natAbs_mul];exact Nat.mul_le_mul (by have:=n9 2;omega) (n9 0)
     unfold dsc at h2
     omega
    have key:∀ z:Int,z.natAbs≤20→Fsm (lin1 (nrm q) z):=fun z hz=>by
     have hp2:plen [(nrm q).getD 1 0+z,2*(nrm q).getD 2 0]=2:=by rw [plen_cons_succ (by rw [plen_cons_one rfl (by have:0<(nrm q).getD 2 0:=hld;omega)];omega),plen_cons_one rfl (by have:0<(nrm q).getD 2 0:=hld;omega)]
     exact fsm_nrm (by omega) (by omega) fun j=>gd2 (by have:=n9 1;omega) (by have:=n9 2;omega) j
    rcases List.mem_cons.1 hp with e | e
    ·rw [e];exact key _ (by omega)
    ·rw [List.mem_singleton.1 e];exact key _ (by omega)
   ·rw [List.mem_singleton.1 hp];exact fsm_nrm hp3 h0 fun j=>by have:=h9 j;omega
theorem facs_fsm {qs:List (List Int)} (ht:Tri qs):∀ x∈facs [] qs,Fsm x.1:=facs_mem (fun q h=>spl_fsm (ht q h).1 (ht q h).2) (fun x hx=>by cases hx)
theorem tri_take {qs:List (List Int)} (h:Tri qs) (i:Nat):Tri (qs.take i):=fun q hq=>h q (List.mem_of_mem_take hq)
theorem facs_ok {qs:List (List Int)} (ht:Tri qs) (h5:qs.length≤5) {q:List Int} (hq:q.length=3) (hs:Sma q) (k:Nat):∀ x∈addf (facs [] qs) ((spl q).take k),ptrim x.1=x.1∧x.1.length≤1000∧x.2≤100:=fun x hx=>by
 have h1:=addf_mem (P:=Fsm) (fun p hp=>spl_fsm hq hs p (List.mem_of_mem_take hp)) (facs_fsm ht) x hx
 have h2:=addf_pow (facs_pow (qs:=qs) (l:=[]) (N:=0) (fun x hx=>by cases hx)) x hx
 have h3:=spl_len2 q
 have h4:((spl q).take k).length≤(spl q).length:=by rw [List.length_take];omega
 exact ⟨h1.tr,by have:=h1.len;omega,by omega⟩
theorem facs_ln {qs:List (List Int)} (h5:qs.length≤5) (q:List Int) (k:Nat):(addf (facs [] qs) ((spl q).take k)).length≤12:=by
 have h1:=addf_len ((spl q).take k) (facs [] qs)
 have h2:=facs_len qs []
 have h3:=spl_len2 q
 have h4:((spl q).take k).length≤(spl q).length:=by rw [List.length_take];omega
 simp only [List.length_nil] at h2
 omega
theorem tr_load {w:World} {b o i la:Nat} {qs:List (List Int)} (hc:∀ i,i<la→∀ k,k<3→w.cell? ⟨b,o+i*3+k,none⟩=some (.int .i8 ((qs.getD i []).getD k 0))) (hi:i<la) :
 w.cell? ⟨b,o+i*3,none⟩=some (.int .i8 ((qs.getD i []).getD 0 0))∧w.cell? ⟨b,o+i*3+1,none⟩=some (.int .i8 ((qs.getD i []).getD 1 0))∧w.cell? ⟨b,o+i*3+2,none⟩=some (.int .i8 ((qs.getD i []).getD 2 0)):=by
 have e0:=hc i hi 0 (by omega)
 rw [Nat.add_zero] at e0
 exact ⟨e0,hc i hi 1 (by omega),hc i hi 2 (by omega)⟩
theorem ps_at {w:World} {A:Option Addr} {l c:Nat} {ps:List (List Int)} (h:PsAt w A l c ps) {k:Nat} (hk:k<l):∃ b o A1 l1 c1,A=some ⟨b,o,none⟩∧w.cell? ⟨b,o+k,none⟩=some (.slice A1 l1 c1)∧I64At w A1 l1 c1 (ps.getD k []):=by
 rcases h.elems with ⟨h0,_⟩ | ⟨b,o,e,hb,hv⟩
 ·omega
 ·have hkl:k<ps.length:=by rw [h.length];exact hk
  have eg:ps[k]?=some (ps.getD k []):=by rw [List.getD_eq_getElem?_getD,List.getElem?_eq_getElem hkl];rfl
  obtain ⟨vs,⟨A1,l1,c1,ev,h1⟩,hc⟩:=hv k _ eg
  subst ev
  have:=hc 0 _ rfl
  rw [Nat.mul_one,Nat.add_zero] at this
  exact ⟨b,o,A1,l1,c1,e,this,h1⟩
def Zer (qs:List (List Int)):Prop:=∃ q∈qs,plen q=0
def FacR (qs:List (List Int)) (e:Ending) (w':World):Prop:=∃ u A' l' c' fs,e=.returned (.tuple #[.int .i64 u,.slice A' l' c'])∧(u=0↔Zer qs)∧FsAt w' A' l' c' fs∧(u=0→fs=[])∧(u≠0→fs=facs [] qs)
theorem take_snoc {α:Type} {l:List α} {i:Nat} (h:i<l.length) (d:α):l.take (i+1)=l.take i ++ [l.getD i d]:=by
 rw [List.take_add_one,List.getElem?_eq_getElem h,Option.toList_some,List.getD_eq_getElem?_getD,List.getElem?_eq_getElem h]
 rfl
set_option maxRecDepth 100000 in
set_option maxHeartbeats 8000000 in
theorem factors_any {w:World} {A:Option Addr} {la ca:Nat} {qs:List (List Int)} (h:TrAt w A la ca qs) (hl:la≤5) (ht:Tri qs) :
 Calls Tryz.prog 12 #[.slice A la ca] w fun e w'=>FacR qs e w'∧Below w.heap.size w w':=by
 have H:=Lib.hid h
 have Hl:=Lib.hid h.length
 have HT:=Lib.hid ht
 clear h ht
 go_enter Tryz.func12,Tryz.ntmps12
 go_wp2
 go_loopw [4,5,6] (fun s4 s5 s6 wr=>∃ (i:Nat) (u:Int) (A':Option Addr) (l' c':Nat),i≤la∧s4=.int .i64 u∧s5=.slice A' l' c'∧s6=.int .i64 (i:Int)∧u.natAbs≤9^i∧(u=0↔Zer (qs.take i))∧FsAt wr A' l' c' (facs [] (qs.take i))∧(l'=0→A'=none∧c'=0)∧Below w.heap.size w wr) (fun _ _ s6 _=>la-(intOf s6).toNat)
 case atStart=>exact ⟨0,1,none,0,0,Nat.zero_le _,rfl,rfl,rfl,Nat.le_refl _,⟨fun h=>absurd h (by decide),fun ⟨q,hq,_⟩=>(by cases hq)⟩,⟨rfl,Nat.le_refl _,.inl ⟨rfl,rfl,rfl⟩⟩,fun _=>⟨rfl,rfl⟩,Bel.go⟩
 case round =>
  obtain ⟨i,u,A',l',c',hi,rfl,rfl,rfl,hu,huz,hF,h0,hbw⟩:=hrel
  obtain ⟨wo,rfl⟩:∃ wo:World,wo=wr:=⟨_,rfl⟩
  have HF:=Lib.hid hF
  have H0:=Lib.hid h0
  have Huz:=Lib.hid huz
  have Hbw:=Lib.hid hbw
  by_cases hlt:i<la
  ·have Hlt:=Lib.hid hlt
   obtain ⟨b,o,rfl,hbl,hc⟩:=(H.out.below hbw).at (by omega)
   have hil:i<qs.length:=by rw [Hl.out];exact hlt
   have hq:=HT.out (qs.getD i []) (by rw [List.getD_eq_getElem?_getD,List.getElem?_eq_getElem hil];exact List.getElem_mem _)
   obtain ⟨e0,e1,e2⟩:=tr_load hc hlt
   have hl3:=list3 hq.1
   have s0:=hq.2 0 (by omega)
   have s1:=hq.2 1 (by omega)
   have s2:=hq.2 2 (by omega)
   have HQ:=Lib.hid hq
   have HN:=Lib.hid (take_snoc hil [])
   obtain ⟨q,hqd⟩:∃ q,q=qs.getD i []:=⟨_,rfl⟩
   rw [← hqd] at e0 e1 e2 hl3 s0 s1 s2 HQ HN
   obtain ⟨x0,hx0⟩:∃ x,x=q.getD 0 0:=⟨_,rfl⟩
   obtain ⟨x1,hx1⟩:∃ x,x=q.getD 1 0:=⟨_,rfl⟩
   obtain ⟨x2,hx2⟩:∃ x,x=q.getD 2 0:=⟨_,rfl⟩
   rw [← hx0] at e0 s0 hl3
   rw [← hx1] at e1 s1 hl3
   rw [← hx2] at e2 s2 hl3
   have HL3:=Lib.hid hl3.symm
   have ti:(i:Int)<(la:Int):=by omega
   have tw:IntKind.i64.wrap ((i:Int)+1)=(i:Int)+1:=IntWalk.i64_in _ (by omega)
   have HTI:=Lib.hid (tri_take HT.out i)
   have HLI:=Lib.hid (show (qs.take i).length≤5 by rw [List.length_take];omega)
   have h9i:9^i≤9^4:=Nat.pow_le_pow_right (by decide) (by omega)
   have H9:=Lib.hid hu
   have hu4:u.natAbs≤6561:=by omega
   clear hx0 hx1 hx2 hc hq hl3 hqd hF h0 hbw huz hi hlt hil hu h9i
   go_wp2_with fail
   refine (wid_any x0 x1 x2 _ ⟨by omega,by omega⟩ ⟨by omega,by omega⟩ ⟨by omega,by omega⟩).mono ?_
   rintro e w1 ⟨A1,c1,rfl,h1,hb1⟩
   have H1:=Lib.hid h1
   have HF1:=Lib.hid (fs_below HF.out hb1)
   have Hbw1:=Lib.hid (Hbw.out.trans (hb1.mono Hbw.out.size))
   clear h1 hb1 e0 e1 e2 hbl
   go_wp2_with fail
   refine (split_any _ _ x0 x1 x2 _ H1.out (by omega) (by omega) (by omega)).mono ?_
   rintro e w2 ⟨⟨v,Ap,lp,cp,rfl,hv0,hv9,hps⟩,hb2⟩
   rw [HL3.out] at hv0 hps
   have HV0:=Lib.hid hv0
   have HPs:=Lib.hid hps
   have HF2:=Lib.hid (fs_below HF1.out hb2)
   have Hbw2:=Lib.hid (Hbw1.out.trans (hb2.mono Hbw1.out.size))
   have HLp:=Lib.hid hps.length
   have hlp2:lp≤2:=by rw [← hps.length];exact spl_len2 q
   have hm5:(u*v).natAbs≤6561*9:=by rw [Int.natAbs_mul];exact Nat.mul_le_mul hu4 hv9
   have HU5:=Lib.hid (show (u*v).natAbs≤9^(i+1) by rw [Int.natAbs_mul,Nat.pow_succ];exact Nat.mul_le_mul H9.out hv9)
   have HUZ:=Lib.hid (show u*v=0↔Zer (qs.take (i+1)) by
    rw [HN.out,Int.mul_eq_zero,Huz.out,HV0.out]
    unfold Zer
    constructor
    ·rintro (⟨r,hr,h⟩ | h)
     ·exact ⟨r,List.mem_append_left _ hr,h⟩
     ·exact ⟨q,by simp,h⟩
    ·rintro ⟨r,hr,h⟩
     rcases List.mem_append.1 hr with hr | hr
     ·exact .inl ⟨r,hr,h⟩
     ·rw [List.mem_singleton.1 hr] at h;exact .inr h)
   obtain ⟨U,hU⟩:∃ U,U=u*v:=⟨_,rfl⟩
   rw [← hU] at hm5 HU5 HUZ
   have iU:IntKind.i64.wrap U=U:=IntWalk.i64_in _ (by omega)
   have eU:u*v=U:=hU.symm
   clear hU hps hb2 hv0 hv9 hu4
   go_wp2
   go_loopw [5,9] (fun s5 s9 wx=>∃ (k:Nat) (A':Option Addr) (l' c':Nat),k≤lp∧s5=.slice A' l' c'∧s9=.int .i64 (k:Int)∧FsAt wx A' l' c' (addf (facs [] (qs.take i)) ((spl q).take k))∧(l'=0→A'=none∧c'=0)∧Below w2.heap.size w2 wx) (fun _ s9 _=>lp-(intOf s9).toNat)
   case atStart=>exact ⟨0,_,_,_,Nat.zero_le _,rfl,rfl,HF2.out,H0.out,Below.refl _ _⟩
   case round =>
    obtain ⟨k,A6,l6,c6,hk,rfl,rfl,hF6,h06,hbx⟩:=hrel
    have HF6:=Lib.hid hF6
    have H06:=Lib.hid h06
    have Hbx:=Lib.hid hbx
    by_cases hkl:k<lp
    ·have Hkl:=Lib.hid hkl
     obtain ⟨b',o',A7,l7,c7,rfl,k1,k2⟩:=ps_at (ps_below HPs.out hbx) hkl
     have K2:=Lib.hid k2
     have hkk:k<(spl q).length:=by rw [HLp.out];exact hkl
     have HNK:=Lib.hid (take_snoc hkk [])
     have hfp:=spl_fsm HQ.out.1 HQ.out.2 ((spl q).getD k []) (by rw [List.getD_eq_getElem?_getD,List.getElem?_eq_getElem hkk];exact List.getElem_mem _)
     have HFP:=Lib.hid hfp
     have hl7:l7≤1000:=by rw [← k2.length];have:=hfp.len;omega
     have hl6:l6≤100:=by rw [← hF6.length];have:=facs_ln HLI.out q k;omega
     have tk1:(k:Int)<(lp:Int):=by omega
     have tk2:IntKind.i64.wrap ((k:Int)+1)=(k:Int)+1:=IntWalk.i64_in _ (by omega)
     clear k2 hkk hF6 h06 hbx hfp hk hkl
     go_wp2_with fail
     refine (with_any _ _ _ _ _ _ _ ((spl q).getD k []) _ HF6.out K2.out hl6 hl7 HFP.out.tr (facs_ok HTI.out HLI.out HQ.out.1 HQ.out.2 k) H06.out).mono ?_
     rintro e w8 ⟨⟨A8,l8,c8,rfl,h8,p8⟩,hb8⟩
     have H8:=Lib.hid h8
     have Hp8:=Lib.hid p8
     have Hb8:=Lib.hid (Hbx.out.trans (hb8.mono Hbx.out.size))
     clear h8 p8 hb8
     go_wp2
     go_roundw
     case rel=>exact ⟨k+1,_,_,_,Hkl.out,rfl,by go_num,by rw [HNK.out,addf_app];exact H8.out,fun h=>absurd h (by have:=Hp8.out;omega),Hb8.out⟩
     case measure=>have:=Hkl.out;simp [intOf];omega
    ·have tk1:¬ (k:Int)<(lp:Int):=by omega
     have HE:=Lib.hid (show addf (facs [] (qs.take i)) ((spl q).take k)=facs [] (qs.take (i+1)) by rw [HN.out,facs_app,List.take_of_length_le (l:=spl q) (by rw [HLp.out];omega)])
     clear hF6 h06 hbx hk hkl
     go_wp2
     go_roundw
     case rel=>exact ⟨i+1,U,_,_,_,Hlt.out,rfl,rfl,by go_num,HU5.out,HUZ.out,by rw [← HE.out];exact HF6.out,H06.out,Hbw2.out.trans (Hbx.out.mono Hbw2.out.size)⟩
     case measure=>have:=Hlt.out;simp [intOf];omega
  ·have ti:¬ (i:Int)<(la:Int):=by omega
   have HE:qs.take i=qs:=by rw [List.take_of_length_le (by rw [Hl.out];omega)]
   rw [HE] at HF Huz
   have Hll:=Lib.hid hF.length
   clear hF h0 hbw hi hlt huz hu
   by_cases hu0:u=0
   ·subst hu0
    go_wp2
    refine bodyPost_ret (v:=.tuple #[.int .i64 0,.slice none 0 0]) (by simp [results,Tryz.results12,go_sem]) rfl ⟨⟨0,none,0,0,[],rfl,⟨fun _=>Huz.out.1 trivial,fun _=>rfl⟩,⟨rfl,Nat.le_refl _,.inl ⟨rfl,rfl,rfl⟩⟩,fun _=>rfl,fun h=>absurd rfl h⟩,Hbw.out⟩
   ·have bu:(u == 0)=false:=by rw [beq_eq_false_iff_ne];exact hu0
    have Hu0:=Lib.hid hu0
    clear hu0
    go_wp2
    refine bodyPost_ret (v:=.tuple #[.int .i64 u,.slice A' l' c']) (by simp [results,Tryz.results12,go_sem]) rfl ⟨⟨u,A',l',c',facs [] qs,rfl,Huz.out,HF.out,fun h=>absurd h Hu0.out,fun _=>rfl⟩,Hbw.out⟩
end Go.Proofs.YtipocabbjinbhaaGreat
namespace Go.Proofs.YtipocabbjinbhaaGreat
open Go Go.RowKit
structure FcP (p:List Int):Prop where
 irr:isLin p∨isQd p
 bd:∀ j,(p.getD j 0).natAbs≤29
 q9:p.length=3→∀ j,(p.getD j 0).natAbs≤9
theorem FcP.len {p:List Int} (h:FcP p):p.length=2∨p.length=3:=by
 rcases h.irr with c | c
 ·exact .inl c.1
 ·exact .inr c.1
theorem atv_bd {n d:Int} {M Z:Nat} (hZ:1≤Z) (hn:n.natAbs≤Z) (hd:d.natAbs≤Z):∀ f:List Int,(∀ j,(f.getD j 0).natAbs≤M)→(atv n d f).natAbs≤f.length*(M*Z^f.length)
 | [],_=>Nat.zero_le _
 | a :: t,h=>by
   have h1:=atv_bd hZ hn hd t fun j=>h (j+1)
   have h0:a.natAbs≤M:=h 0
   have h2:=Int.natAbs_add_le (atv n d t*n) (a*d^t.length)
   rw [Int.natAbs_mul,Int.natAbs_mul,Int.natAbs_pow] at h2
   have h3:(atv n d t).natAbs*n.natAbs≤t.length*(M*Z^t.length)*Z:=Nat.mul_le_mul h1 hn
   have h4:a.natAbs*d.natAbs^t.length≤M*Z^t.length:=Nat.mul_le_mul h0 (Nat.pow_le_pow_left hd _)
   have h5:M*Z^t.length≤M*Z^(t.length+1):=Nat.mul_le_mul_left _ (Nat.pow_le_pow_right hZ (Nat.le_succ _))
   have h6:t.length*(M*Z^t.length)*Z=t.length*(M*Z^(t.length+1)):=by rw [Nat.pow_succ,Nat.mul_assoc,Nat.mul_assoc]
   show (atv n d t*n+a*d^t.length).natAbs≤(t.length+1)*(M*Z^(t.length+1))
   rw [Nat.succ_mul]
   omega
set_option maxRecDepth 100000 in
theorem sign15_any (n:Int) (w:World):Calls Tryz.prog 135 #[.int .i64 n] w fun e w'=>e=.returned (.int .i64 (sg n))∧w=w':=by
 have HS:=Lib.hid (sg_cases n)
 generalize sg n=s at HS ⊢
 go_enter Tryz.func135,Tryz.ntmps135
 rcases HS.out with ⟨c,rfl⟩ | ⟨c,rfl⟩ | ⟨c,rfl⟩
 ·go_wp2
  go_ret
  exact ⟨rfl,rfl⟩
 ·subst c
  go_wp2
  go_ret
  exact ⟨rfl,rfl⟩
 ·have c2:¬ n<0:=by omega
  go_wp2
  go_ret
  exact ⟨rfl,rfl⟩
set_option maxRecDepth 100000 in
set_option maxHeartbeats 4000000 in
theorem real_any {w:World} {A:Option Addr} {l c:Nat} {p:List Int} (h:I64At w A l c p) (hp:FcP p) :
 Calls Tryz.prog 35 #[.slice A l c] w fun e w'=>e=.returned (.int .i64 (realn p:Int))∧Below w.heap.size w w':=by
 rcases hp.irr with q1 | q1
 ·have hl1:l=2:=by rw [← h.length];exact q1.1
  subst hl1
  have HR:=Lib.hid (show realn p=1 by unfold realn;rw [if_pos q1.1])
  clear h hp q1
  go_enter Tryz.func35,Tryz.ntmps35
  go_wp2
  go_ret
  exact ⟨by rw [HR.out];rfl,Below.refl _ _⟩
 ·have hl1:l=3:=by rw [← h.length];exact q1.1
  subst hl1
  obtain ⟨b1,o1,rfl,hb1,hc1⟩:=h.at_ (by omega)
  have e0:=hc1 0 (by omega)
  have e1:=hc1 1 (by omega)
  have e2:=hc1 2 (by omega)
  rw [Nat.add_zero] at e0
  have HP:=Lib.hid (show realn p=if 0<p.getD 1 0*p.getD 1 0-4*p.getD 2 0*p.getD 0 0 then 2 else 0 by unfold realn;rw [if_neg (by rw [q1.1];decide)];rfl)
  have v0:=hp.bd 0
  have v1:=hp.bd 1
  have v2:=hp.bd 2
  obtain ⟨x0,hx0⟩:∃ x,x=p.getD 0 0:=⟨_,rfl⟩
  obtain ⟨x1,hx1⟩:∃ x,x=p.getD 1 0:=⟨_,rfl⟩
  obtain ⟨x2,hx2⟩:∃ x,x=p.getD 2 0:=⟨_,rfl⟩
  rw [← hx0] at e0 HP v0
  rw [← hx1] at e1 HP v1
  rw [← hx2] at e2 HP v2
  obtain ⟨y1,hy1⟩:∃ y,y=x1*x1:=⟨_,rfl⟩
  obtain ⟨y2,hy2⟩:∃ y,y=4*x2:=⟨_,rfl⟩
  obtain ⟨y3,hy3⟩:∃ y,y=y2*x0:=⟨_,rfl⟩
  have m1:y1.natAbs≤841:=by rw [hy1,Int.natAbs_mul];exact Nat.mul_le_mul v1 v1
  have m3:y3.natAbs≤116*29:=by rw [hy3,Int.natAbs_mul];exact Nat.mul_le_mul (by omega) v0
  have i1:IntKind.i64.wrap y1=y1:=IntWalk.i64_in _ (by omega)
  have i2:IntKind.i64.wrap y2=y2:=IntWalk.i64_in _ (by omega)
  have i3:IntKind.i64.wrap y3=y3:=IntWalk.i64_in _ (by omega)
  have i4:IntKind.i64.wrap (y1-y3)=y1-y3:=IntWalk.i64_in _ (by omega)
  have f1:x1*x1=y1:=hy1.symm
  have f2:4*x2=y2:=hy2.symm
  have f3:y2*x0=y3:=hy3.symm
  rw [f1,f2,f3] at HP
  clear hx0 hx1 hx2 hc1 h hp q1 hy1 hy2 hy3 v0 v1 v2 m1 m3
  go_enter Tryz.func35,Tryz.ntmps35
  go_wp2_with fail
  refine wp_region_held_drew (S:=fun w'=>w'.cell? ⟨b1,o1,none⟩=some (.int .i64 x0)∧w'.cell? ⟨b1,o1+1,none⟩=some (.int .i64 x1)∧w'.cell? ⟨b1,o1+2,none⟩=some (.int .i64 x2)) (by kernel_rfl) (by (try dsimp only);go_keep) (fun hHeld=>?_)
  (refine tk (i:=0) (v:=?_) rfl rfl (Or.inl ⟨by rfl,?_⟩) ?_;rotate_left;(focus (intro w hSw;(try dsimp only at hSw);go_simp;(try with_reducible rfl)));(simp only [put_lit,List.set]))
  (refine tk (i:=1) (v:=?_) rfl rfl (Or.inl ⟨by rfl,?_⟩) ?_;rotate_left;(focus (intro w hSw;(try dsimp only at hSw);go_simp;(try with_reducible rfl)));(simp only [put_lit,List.set]))
  (refine tk (i:=2) (v:=?_) rfl rfl (Or.inl ⟨by rfl,?_⟩) ?_;rotate_left;(focus (intro w hSw;(try dsimp only at hSw);go_simp;(try with_reducible rfl)));(simp only [put_lit,List.set]))
  (refine tk (i:=3) (v:=?_) rfl rfl (Or.inl ⟨by rfl,?_⟩) ?_;rotate_left;(focus (intro w hSw;(try dsimp only at hSw);go_simp;(try with_reducible rfl)));(simp only [put_lit,List.set]))
  (refine tk (i:=4) (v:=?_) rfl rfl (Or.inl ⟨by rfl,?_⟩) ?_;rotate_left;(focus (intro w hSw;(try dsimp only at hSw);go_simp;(try with_reducible rfl)));(simp only [put_lit,List.set]))
  (refine tk (i:=5) (v:=?_) rfl rfl (Or.inl ⟨by rfl,?_⟩) ?_;rotate_left;(focus (intro w hSw;(try dsimp only at hSw);go_simp;(try with_reducible rfl)));(simp only [put_lit,List.set]))
  (refine tk (i:=6) (v:=?_) rfl rfl (Or.inl ⟨by rfl,?_⟩) ?_;rotate_left;(focus (intro w hSw;(try dsimp only at hSw);go_simp;(try with_reducible rfl)));(simp only [put_lit,List.set]))
  (refine tk (i:=7) (v:=?_) rfl rfl (Or.inl ⟨by rfl,?_⟩) ?_;rotate_left;(focus (intro w hSw;(try dsimp only at hSw);go_simp;(try with_reducible rfl)));(simp only [put_lit,List.set]))
  (refine tk (i:=8) (v:=?_) rfl rfl (Or.inl ⟨by rfl,?_⟩) ?_;rotate_left;(focus (intro w hSw;(try dsimp only at hSw);go_simp;(try with_reducible rfl)));(simp only [put_lit,List.set]))
  (refine tk (i:=9) (v:=?_) rfl rfl (Or.inl ⟨by rfl,?_⟩) ?_;rotate_left;(focus (intro w hSw;(try dsimp only at hSw);go_simp;(try with_reducible rfl)));(simp only [put_lit,List.set]))
  (refine tk (i:=10) (v:=?_) rfl rfl (Or.inl ⟨by rfl,?_⟩) ?_;rotate_left;(focus (intro w hSw;(try dsimp only at hSw);go_simp;(try with_reducible rfl)));(simp only [put_lit,List.set]))
  (refine tk (i:=11) (v:=?_) rfl rfl (Or.inl ⟨by rfl,?_⟩) ?_;rotate_left;(focus (intro w hSw;(try dsimp only at hSw);go_simp;(try with_reducible rfl)));(simp only [put_lit,List.set]))
  (refine tk (i:=12) (v:=?_) rfl rfl (Or.inl ⟨by rfl,?_⟩) ?_;rotate_left;(focus (intro w hSw;(try dsimp only at hSw);go_simp;(try with_reducible rfl)));(simp only [put_lit,List.set]))
  (refine tk (i:=13) (v:=?_) rfl rfl (Or.inl ⟨by rfl,?_⟩) ?_;rotate_left;(focus (intro w hSw;(try dsimp only at hSw);go_simp;(try with_reducible rfl)));(simp only [put_lit,List.set]))
  (refine tk (i:=14) (v:=?_) rfl rfl (Or.inl ⟨by rfl,?_⟩) ?_;rotate_left;(focus (intro w hSw;(try dsimp only at hSw);go_simp;(try with_reducible rfl)));(simp only [put_lit,List.set]))
  (refine tk (i:=15) (v:=?_) rfl rfl (Or.inl ⟨by rfl,?_⟩) ?_;rotate_left;(focus (intro w hSw;(try dsimp only at hSw);go_simp;(try with_reducible rfl)));(simp only [put_lit,List.set]))
  (refine tk (i:=16) (v:=?_) rfl rfl (Or.inl ⟨by rfl,?_⟩) ?_;rotate_left;(focus (intro w hSw;(try dsimp only at hSw);go_simp;(try with_reducible rfl)));(simp only [put_lit,List.set]))
  refine wpAnyH_done (by kernel_rfl) ?_ _
  clear hHeld i1 i2 i3 f1 f2 f3
  by_cases cd:0<y1-y3
  ·rw [if_pos cd] at HP
   have cd':y3<y1:=by omega
   go_wp2
   go_ret
   exact ⟨by rw [HP.out];rfl,below_drewn (Below.refl _ _) _⟩
  ·rw [if_neg cd] at HP
   have cd':¬ y3<y1:=by omega
   go_wp2
   go_ret
   exact ⟨by rw [HP.out];rfl,below_drewn (Below.refl _ _) _⟩
set_option maxRecDepth 100000 in
set_option maxHeartbeats 4000000 in
theorem at15_any {w:World} {A:Option Addr} {l c:Nat} {f:List Int} (h:I64At w A l c f) (n d:Int) (hl:l≤100) {M Z:Nat} (hM:1≤M) (hZ:1≤Z) (hn:n.natAbs≤Z) (hd:d.natAbs≤Z) (hf:∀ j,(f.getD j 0).natAbs≤M) (hs:(l+1)*(M*Z^(l+1))≤4611686018427387904) :
 Calls Tryz.prog 84 #[.slice A l c,.int .i64 n,.int .i64 d] w fun e w'=>e=.returned (.int .i64 (sg (atv n d f)))∧Below w.heap.size w w':=by
 have H:=Lib.hid h
 have Hll:=Lib.hid h.length
 have hZl:∀ k,k≤l+1→M*Z^k≤4611686018427387904:=fun k hk=>by
  have h1:Z^k≤Z^(l+1):=Nat.pow_le_pow_right hZ hk
  have h2:M*Z^k≤M*Z^(l+1):=Nat.mul_le_mul_left _ h1
  have h3:M*Z^(l+1)≤(l+1)*(M*Z^(l+1)):=Nat.le_mul_of_pos_left _ (by omega)
  omega
 have HZL:=Lib.hid hZl
 -- the value of the upper coefficients
 have HV:=Lib.hid (show ∀ k,k≤l→(atv n d (f.drop k)).natAbs≤4611686018427387904∧(atv n d (f.drop k)*n).natAbs≤4611686018427387904 from fun k hk=>by
  have h1:=atv_bd (M:=M) hZ hn hd (f.drop k) fun j=>by
   rw [List.getD_eq_getElem?_getD,List.getElem?_drop,← List.getD_eq_getElem?_getD]
   exact hf _
  have hlk:(f.drop k).length≤l:=by rw [List.length_drop,h.length];omega
  generalize (f.drop k).length=m at h1 hlk
  have h2:M*Z^m≤M*Z^l:=Nat.mul_le_mul_left _ (Nat.pow_le_pow_right hZ hlk)
  have h3:m*(M*Z^m)≤l*(M*Z^l):=Nat.mul_le_mul hlk h2
  have h4:l*(M*Z^l)*Z=l*(M*Z^(l+1)):=by rw [Nat.pow_succ,Nat.mul_assoc,Nat.mul_assoc]
  have h5:l*(M*Z^(l+1))≤(l+1)*(M*Z^(l+1)):=Nat.mul_le_mul_right _ (Nat.le_succ _)
  have h6:l*(M*Z^l)≤l*(M*Z^l)*Z:=Nat.le_mul_of_pos_right _ hZ
  refine ⟨by omega,?_⟩
  rw [Int.natAbs_mul]
  have h7:(atv n d (f.drop k)).natAbs*n.natAbs≤l*(M*Z^l)*Z:=Nat.mul_le_mul (by omega) hn
  omega)
 have HP:=Lib.hid (show ∀ k,k≤l+1→(d^k).natAbs≤4611686018427387904 from fun k hk=>by
  rw [Int.natAbs_pow]
  have h1:=Nat.pow_le_pow_left hd k
  have h2:=hZl k hk
  have h3:Z^k≤M*Z^k:=Nat.le_mul_of_pos_left _ hM
  omega)
 have HM:=Lib.hid (show ∀ j k,k≤l→(f.getD j 0*d^k).natAbs≤4611686018427387904 from fun j k hk=>by
  rw [Int.natAbs_mul,Int.natAbs_pow]
  have h1:(f.getD j 0).natAbs*d.natAbs^k≤M*Z^k:=Nat.mul_le_mul (hf j) (Nat.pow_le_pow_left hd k)
  have h2:=hZl k (by omega)
  omega)
 clear h hf hs hZl hM hZ hn hd
 have iw:IntKind.i64.wrap ((l:Int)-1)=(l:Int)-1:=IntWalk.i64_in _ (by omega)
 go_enter Tryz.func84,Tryz.ntmps84
 go_wp2
 go_loopw [7,8,9] (fun s7 s8 s9 wr=>∃ j:Nat,j≤l∧s7=.int .i64 (atv n d (f.drop j))∧s8=.int .i64 (d^(l-j))∧s9=.int .i64 ((j:Int)-1)∧Below w.heap.size w wr) (fun _ _ s9 _=>(intOf s9+1).toNat)
 case atStart=>exact ⟨l,Nat.le_refl _,by rw [List.drop_of_length_le (by rw [Hll.out];exact Nat.le_refl _)];rfl,by rw [Nat.sub_self,Int.pow_zero],rfl,Below.refl _ _⟩
 case round =>
  obtain ⟨j,hj,rfl,rfl,rfl,hbw⟩:=hrel
  have Hbw:=Lib.hid hbw
  by_cases h0:0<j
  ·obtain ⟨i,rfl⟩:∃ i,j=i+1:=⟨j-1,by omega⟩
   obtain ⟨b,o,rfl,hb,hc⟩:=(H.out.below hbw).at_ (by omega)
   have e1:=hc i (by omega)
   have hd1:f.drop i=f.getD i 0 :: f.drop (i+1):=by
    have hil:i<f.length:=by rw [Hll.out];omega
    rw [List.drop_eq_getElem_cons hil,List.getD_eq_getElem?_getD,List.getElem?_eq_getElem hil]
    rfl
   have hA:atv n d (f.drop i)=atv n d (f.drop (i+1))*n+f.getD i 0*d^(l-(i+1)):=by
    rw [hd1]
    show atv n d (f.drop (i+1))*n+f.getD i 0*d^(f.drop (i+1)).length=_
    rw [List.length_drop,Hll.out]
   have hD:d^(l-i)=d^(l-(i+1))*d:=by rw [← Int.pow_succ];congr 1;omega
   have b1:=(HV.out (i+1) hj).2
   have b2:=HM.out i (l-(i+1)) (by omega)
   have b3:=(HV.out i (by omega)).1
   have b4:=HP.out (l-i) (by omega)
   rw [hA] at b3
   rw [hD] at b4
   have HA:=Lib.hid hA
   have HD:=Lib.hid hD
   obtain ⟨V,hV⟩:∃ V,V=atv n d (f.drop (i+1)):=⟨_,rfl⟩
   obtain ⟨P,hP⟩:∃ P,P=d^(l-(i+1)):=⟨_,rfl⟩
   obtain ⟨x,hx⟩:∃ x,x=f.getD i 0:=⟨_,rfl⟩
   rw [← hV] at b1 b3 HA ⊢
   rw [← hP] at b2 b3 b4 HA HD ⊢
   rw [← hx] at b2 b3 e1 HA
   have i0:((i+1:Nat):Int)-1=(i:Int):=by omega
   have i1:IntKind.i64.wrap (V*n)=V*n:=IntWalk.i64_in _ (by omega)
   have i2:IntKind.i64.wrap (x*P)=x*P:=IntWalk.i64_in _ (by omega)
   have i3:IntKind.i64.wrap (V*n+x*P)=V*n+x*P:=IntWalk.i64_in _ (by omega)
   have i4:IntKind.i64.wrap (P*d)=P*d:=IntWalk.i64_in _ (by omega)
   have i5:IntKind.i64.wrap ((i:Int)-1)=(i:Int)-1:=IntWalk.i64_in _ (by omega)
   have i6:(i:Int)<(l:Int):=by omega
   have i7:(0:Int)≤(i:Int):=by omega
   have Hi:=Lib.hid (show i≤l by omega)
   rw [i0]
   clear hV hP hx hd1 hA hD hc hb hbw b1 b2 b3 b4 hj h0
   go_wp2
   go_roundw
   case rel=>exact ⟨i,Hi.out,by rw [HA.out],by rw [HD.out],rfl,Hbw.out⟩
   case measure=>simp [intOf]
  ·obtain rfl:j=0:=by omega
   have HE:f.drop 0=f:=rfl
   rw [HE]
   clear hbw hj h0
   go_wp2_with fail
   refine (sign15_any _ _).mono ?_
   rintro e w2 ⟨rfl,hw2⟩
   obtain rfl:=hw2
   go_wp2
   go_ret
   exact ⟨rfl,Hbw.out⟩
end Go.Proofs.YtipocabbjinbhaaGreat
namespace Go.Proofs.YtipocabbjinbhaaGreat
open Go Go.RowKit
end Go.Proofs.YtipocabbjinbhaaGreat
namespace Go.Proofs.YtipocabbjinbhaaGreat
open Go Go.RowKit
theorem lsum_app (J:List Int→Int) (x:List Int×Nat):∀ l:List (List Int×Nat),lsum J (l ++ [x])=lsum J l+J x.1
 | []=>by show J x.1+0=0+_;omega
 | (r,m) :: l=>by
   show J r+lsum J (l ++ [x])=J r+lsum J l+_
   rw [lsum_app J x l]
   omega
theorem realn_le (p:List Int):realn p≤2:=by
 unfold realn
 repeat' split
 all_goals omega
theorem ksum_bd {j:Nat→Int} (h:∀ k,(j k).natAbs≤1):∀ n,(ksum j n).natAbs≤n
 | 0=>Nat.le_refl _
 | n+1=>by
   have h1:=ksum_bd h n
   have h2:=h n
   show (ksum j n+j n).natAbs≤n+1
   omega
theorem lsum_bd {J:List Int→Int} (h:∀ p,(J p).natAbs≤2):∀ l:List (List Int×Nat),(lsum J l).natAbs≤2*l.length
 | []=>Nat.le_refl _
 | (r,m) :: l=>by
   have h1:=lsum_bd h l
   have h2:=h r
   show (J r+lsum J l).natAbs≤2*(l.length+1)
   omega
def csum (j:List Int→Nat→Int) (l:List (List Int×Nat)):Int:=lsum (fun p=>ksum (j p) (realn p)) l
theorem csum_bd {j:List Int→Nat→Int} (h:∀ p k,(j p k).natAbs≤1) (l:List (List Int×Nat)):(csum j l).natAbs≤2*l.length :=
 lsum_bd (fun p=>Nat.le_trans (ksum_bd (h p) _) (realn_le p)) l
structure FsI (w:World) (A:Option Addr) (l i:Nat) (fs:List (List Int×Nat)) (r:List Int) (b o:Nat) (A1:Option Addr) (l1 c1:Nat):Prop where
 eq:A=some ⟨b,o,none⟩
 cell:w.cell? ⟨b,o+i*2,none⟩=some (.slice A1 l1 c1)
 lt:b<w.heap.size
 at_:I64At w A1 l1 c1 r
theorem fs_i {w:World} {A:Option Addr} {l c:Nat} {fs:List (List Int×Nat)} (h:FsAt w A l c fs) {i:Nat} (hi:i<l):∃ b o A1 l1 c1,FsI w A l i fs (fs.getD i ([],0)).1 b o A1 l1 c1:=by
 rcases h.elems with ⟨h0,_⟩ | ⟨b,o,e,hb,hv⟩
 ·omega
 ·obtain ⟨vs,⟨A1,l1,c1,ev,h1⟩,hc⟩:=hv i _ (getD_fs (by rw [h.length];exact hi))
  subst ev
  have:=hc 0 _ rfl
  rw [Nat.add_zero] at this
  exact ⟨b,o,A1,l1,c1,e,this,hb,h1⟩
theorem FsI.below {w w':World} {A:Option Addr} {l i:Nat} {fs:List (List Int×Nat)} {r:List Int} {b o:Nat} {A1:Option Addr} {l1 c1:Nat} (h:FsI w A l i fs r b o A1 l1 c1) (hb:Below w.heap.size w w'):FsI w' A l i fs r b o A1 l1 c1 :=
 ⟨h.eq,(hb.cell (p:=⟨b,o+i*2,none⟩) h.lt).trans h.cell,Nat.lt_of_lt_of_le h.lt hb.size,h.at_.below hb⟩
end Go.Proofs.YtipocabbjinbhaaGreat
namespace Go.Proofs.YtipocabbjinbhaaGreat
open Go.RowKit
theorem prodf_nil:∀ (qs:List (List Int)) (P:List Int),plen P=0→plen (prodf P qs)=0
 | [],_,h=>h
 | q :: qs,P,h=>prodf_nil qs (rmul P q) (by rw [rmul_nil_l h];rfl)
theorem prodf_zer:∀ (qs:List (List Int)) (P:List Int),Zer qs→plen (prodf P qs)=0
 | [],_,⟨_,h,_⟩=>by cases h
 | q :: qs,P,⟨r,h,h0⟩=>by
   show plen (prodf (rmul P q) qs)=0
   rcases List.mem_cons.1 h with e | e
   ·exact prodf_nil qs _ (by rw [rmul_nil_r (by rw [← e];exact h0)];rfl)
   ·exact prodf_zer qs _ ⟨r,e,h0⟩
theorem tri_ok {qs:List (List Int)} (ht:Tri qs) (hz:¬ Zer qs):∀ q∈qs,plen q≠0∧plen q≤3:=fun q hq=>⟨fun e=>hz ⟨q,hq,e⟩,by have:=plen_le q;have:=(ht q hq).1;omega⟩
theorem prodf_ne {qs:List (List Int)} (ht:Tri qs) (hz:¬ Zer qs):plen (prodf [1] qs)≠0:=(prodf_mult (Pt.of 0) qs [1] (by decide) fun q h=>(tri_ok ht hz q h).1).1
theorem spl_q9 {q:List Int} (hl:q.length=3) (hs:Sma q):∀ p∈spl q,p.length=3→∀ j,(p.getD j 0).natAbs≤9:=fun p hp h3=>by
 have h9:=sma_abs hl hs
 unfold spl at hp
 split at hp
 ·cases hp
 ·split at hp
  ·rw [List.mem_singleton.1 hp];exact nrm_le h9
  ·have hld:=nrm_lead (p:=q) (by omega)
   rw [show plen q=3 by have:=plen_le q;omega] at hld
   have key:∀ z:Int,(lin1 (nrm q) z).length=2:=fun z=>by
    have hp2:plen [(nrm q).getD 1 0+z,2*(nrm q).getD 2 0]=2:=by rw [plen_cons_succ (by rw [plen_cons_one rfl (by have:0<(nrm q).getD 2 0:=hld;omega)];omega),plen_cons_one rfl (by have:0<(nrm q).getD 2 0:=hld;omega)]
    unfold lin1
    rw [nrm_len,hp2]
   split at hp
   ·rcases List.mem_cons.1 hp with e | e
    ·rw [e,key] at h3;cases h3
    ·rw [List.mem_singleton.1 e,key] at h3;cases h3
   ·rw [List.mem_singleton.1 hp];exact nrm_le h9
theorem facs_q9 {qs:List (List Int)} (ht:Tri qs):∀ x∈facs [] qs,x.1.length=3→∀ j,(x.1.getD j 0).natAbs≤9:=facs_mem (P:=fun p=>p.length=3→∀ j,(p.getD j 0).natAbs≤9) (fun q h=>spl_q9 (ht q h).1 (ht q h).2) (fun x hx=>by cases hx)
theorem facs_fcp {qs:List (List Int)} (ht:Tri qs) (hz:¬ Zer qs):∀ x∈facs [] qs,FcP x.1:=fun x hx=>⟨(facs_irr (tri_ok ht hz) x hx).1,(facs_fsm ht x hx).bd,facs_q9 ht x hx⟩
theorem known_sum {qs:List (List Int)} (ht:Tri qs) (hz:¬ Zer qs) (J:Pt→Int) (j:List Int→Nat→Int) (hj:∀ p,isLin p∨isQd p→∀ k,(h:k<(rts p).length)→J (rts p)[k]=j p k) {xs:List Pt} (hx:Lst (fun x=>sgp (prodf [1] qs) x=0) xs):isum (xs.map J)=csum j (facs [] qs):=by
 rw [prod_sum (tri_ok ht hz) J hx]
 refine lsum_congr fun y hy=>?_
 have hi:=(facs_irr (tri_ok ht hz) y hy).1
 exact isum_ksum J (j y.1) _ _ (rts_irr hi).1 (hj y.1 hi)
theorem known_p9 {qs:List (List Int)} (ht:Tri qs) (h4:qs.length≤4):P9 (prodf [1] qs):=by
 have h1:=prodf_bd qs [1] 1 ht one_abs
 have h2:=prodf_len qs [1] 0 ht (by decide) (by decide)
 have h3:27^qs.length≤27^4:=Nat.pow_le_pow_right (by decide) h4
 refine ⟨by have:=plen_le (prodf [1] qs);omega,fun j=>?_⟩
 have h5:=h1 j
 refine Nat.le_trans (show ((prodf [1] qs).getD j 0).natAbs≤BB^1 by rw [Nat.pow_one,BB_eq];omega) (bbk_le (by decide))
theorem isum_le1 {J:Pt→Int} (P:Pt→Prop) (h1:∀ x,P x→J x=1) (h0:∀ x,¬ P x→J x=0) {Q:Pt→Prop} {xs ys:List Pt} (hx:Lst Q xs) (hy:Lst (fun x=>Q x∧P x) ys):(ys.length:Int)=isum (xs.map J):=by
 rw [isum_eq J hx hy (fun x h=>h.1) fun x h hn=>h0 x fun hp=>hn ⟨h,hp⟩]
 exact (isum_one ys fun x h=>h1 x ((hy.2 x).1 h).2).symm
section
variable {qs:List (List Int)} (ht:Tri qs) (hz:¬ Zer qs) (h4:qs.length≤4)
include ht hz h4
theorem known_all:nall (prodf [1] qs)=csum (fun _ _=>1) (facs [] qs):=by
 have h9:=known_p9 ht h4
 obtain ⟨xs,hx⟩:=roots_ex (prodf_ne ht hz)
 have hx':Lst (fun x=>sgp (prodf [1] qs) x=0) xs:=hx
 rw [nall_count h9.cp h9.der (prodf_ne ht hz) hx',← known_sum ht hz (fun _=>1) (fun _ _=>1) (fun _ _ _ _=>rfl) hx',isum_ones]
end
theorem nall_nil' {f:List Int} (h:plen f=0):nall f=0:=pline_nil h
end Go.Proofs.YtipocabbjinbhaaGreat
namespace Go.Proofs.YtipocabbjinbhaaGreat
open Go Go.RowKit
set_option maxRecDepth 100000 in
set_option maxHeartbeats 4000000 in
theorem value15_any (a b n:Int) (w:World) (h1:(a*a).natAbs≤2305843009213693952) (h2:(b*b).natAbs≤2305843009213693952) (h3:(b*b*n).natAbs≤2305843009213693952) :
 Calls Tryz.prog 118 #[.int .i64 a,.int .i64 b,.int .i64 n] w fun e w'=>e=.returned (.int .i64 (valv a b n))∧Below w.heap.size w w':=by
 have HV:=Lib.hid (show valv a b n=if sg a=sg b∨b=0 then sg a else if a=0 then sg b else sg a*sg (a*a-b*b*n) from rfl)
 have sa:=Lib.hid (sg_cases a)
 have sc:=Lib.hid (sg_cases (a*a-b*b*n))
 generalize valv a b n=V at HV ⊢
 obtain ⟨aa,haa⟩:∃ x,x=a*a:=⟨_,rfl⟩
 obtain ⟨bb,hbb⟩:∃ x,x=b*b:=⟨_,rfl⟩
 obtain ⟨bn,hbn⟩:∃ x,x=bb*n:=⟨_,rfl⟩
 rw [← haa] at h1 HV sc
 rw [← hbb] at h2 h3 HV sc
 rw [← hbn] at h3 HV sc
 have i1:IntKind.i64.wrap aa=aa:=IntWalk.i64_in _ (by omega)
 have i2:IntKind.i64.wrap bb=bb:=IntWalk.i64_in _ (by omega)
 have i3:IntKind.i64.wrap bn=bn:=IntWalk.i64_in _ (by omega)
 have i4:IntKind.i64.wrap (aa-bn)=aa-bn:=IntWalk.i64_in _ (by omega)
 have f1:a*a=aa:=haa.symm
 have f2:b*b=bb:=hbb.symm
 have f3:bb*n=bn:=hbn.symm
 clear haa hbb hbn h1 h2 h3
 go_enter Tryz.func118,Tryz.ntmps118
 go_wp2_with fail
 refine (sign15_any a _).mono ?_
 rintro e w1 ⟨rfl,hw1⟩
 obtain rfl:=hw1
 go_wp2_with fail
 refine (sign15_any b _).mono ?_
 rintro e w1 ⟨rfl,hw1⟩
 obtain rfl:=hw1
 by_cases c1:sg a=sg b∨b=0
 ·rw [if_pos c1] at HV
  rcases c1 with c1 | c1
  ·have e1:(sg a == sg b)=true:=by rw [beq_iff_eq];exact c1
   clear c1
   go_wp2_with fail
   refine (sign15_any a _).mono ?_
   rintro e w1 ⟨rfl,hw1⟩
   obtain rfl:=hw1
   go_wp2
   go_ret
   exact ⟨by rw [HV.out];rfl,Below.refl _ _⟩
  ·have e2:(b == 0)=true:=by rw [beq_iff_eq];exact c1
   clear c1
   cases e1:(sg a == sg b) with
   | true =>
     go_wp2_with fail
     refine (sign15_any a _).mono ?_
     rintro e w1 ⟨rfl,hw1⟩
     obtain rfl:=hw1
     go_wp2
     go_ret
     exact ⟨by rw [HV.out];rfl,Below.refl _ _⟩
   | false =>
     go_wp2_with fail
     refine (sign15_any a _).mono ?_
     rintro e w1 ⟨rfl,hw1⟩
     obtain rfl:=hw1
     go_wp2
     go_ret
     exact ⟨by rw [HV.out];rfl,Below.refl _ _⟩
 ·rw [if_neg c1] at HV
  have e1:(sg a == sg b)=false:=by rw [beq_eq_false_iff_ne];exact fun h=>c1 (.inl h)
  have e2:(b == 0)=false:=by rw [beq_eq_false_iff_ne];exact fun h=>c1 (.inr h)
  clear c1
  by_cases c2:a=0
  ·rw [if_pos c2] at HV
   have e3:(a == 0)=true:=by rw [beq_iff_eq];exact c2
   clear c2
   go_wp2_with fail
   refine (sign15_any b _).mono ?_
   rintro e w1 ⟨rfl,hw1⟩
   obtain rfl:=hw1
   go_wp2
   go_ret
   exact ⟨by rw [HV.out];rfl,Below.refl _ _⟩
  ·rw [if_neg c2] at HV
   have e3:(a == 0)=false:=by rw [beq_eq_false_iff_ne];exact c2
   clear c2
   go_wp2_with fail
   refine (sign15_any a _).mono ?_
   rintro e w1 ⟨rfl,hw1⟩
   obtain rfl:=hw1
   go_wp2_with fail
   refine (sign15_any _ _).mono ?_
   rintro e w1 ⟨rfl,hw1⟩
   obtain rfl:=hw1
   have hp:(sg a*sg (aa-bn)).natAbs≤1:=by
    rw [Int.natAbs_mul]
    have k1:(sg a).natAbs≤1:=by rcases sa.out with ⟨_,h⟩ | ⟨_,h⟩ | ⟨_,h⟩<;>rw [h]<;>decide
    have k2:(sg (aa-bn)).natAbs≤1:=by rcases sc.out with ⟨_,h⟩ | ⟨_,h⟩ | ⟨_,h⟩<;>rw [h]<;>decide
    exact Nat.mul_le_mul k1 k2
   generalize sg a=x at *
   generalize sg (aa-bn)=y at *
   have j1:IntKind.i64.wrap (x*y)=x*y:=IntWalk.i64_in _ (by omega)
   go_wp2
   go_ret
   exact ⟨by rw [HV.out];rfl,Below.refl _ _⟩
theorem rstep_get (p:List Int):∀ (k:Nat) (r:List Int),r.length=k+3→∀ j,j<k+2→(rstep p r).getD j 0=r.getD j 0*p.getD 2 0-(if j=k+1 then r.getD (k+2) 0*p.getD 1 0 else 0)-(if j=k then r.getD (k+2) 0*p.getD 0 0 else 0)
 | 0,[a,b,c],_,j,hj=>by
   match j,hj with
   | 0,_=>show a*p.getD 2 0-c*p.getD 0 0=a*p.getD 2 0-0-c*p.getD 0 0;omega
   | 1,_=>show b*p.getD 2 0-c*p.getD 1 0=b*p.getD 2 0-c*p.getD 1 0-0;omega
 | k+1,a :: b :: c :: d :: r,h,j,hj=>by
   match j,hj with
   | 0,_=>show a*p.getD 2 0=a*p.getD 2 0-0-0;omega
   | j+1,hj =>
     have:=rstep_get p k (b :: c :: d :: r) (by simpa using h) j (by omega)
     show (rstep p (b :: c :: d :: r)).getD j 0=_
     rw [this]
     have e1:(if j+1=k+1+1 then (b :: c :: d :: r).getD (k+2) 0*p.getD 1 0 else 0)=if j=k+1 then (b :: c :: d :: r).getD (k+2) 0*p.getD 1 0 else 0:=by
      by_cases c:j=k+1
      ·rw [if_pos c,if_pos (by omega)]
      ·rw [if_neg c,if_neg (by omega)]
     have e2:(if j+1=k+1 then (b :: c :: d :: r).getD (k+2) 0*p.getD 0 0 else 0)=if j=k then (b :: c :: d :: r).getD (k+2) 0*p.getD 0 0 else 0:=by
      by_cases c:j=k
      ·rw [if_pos c,if_pos (by omega)]
      ·rw [if_neg c,if_neg (by omega)]
     show _=(b :: c :: d :: r).getD j 0*p.getD 2 0-(if j+1=k+1+1 then (b :: c :: d :: r).getD (k+2) 0*p.getD 1 0 else 0)-(if j+1=k+1 then (b :: c :: d :: r).getD (k+2) 0*p.getD 0 0 else 0)
     rw [e1,e2]
theorem rstep_bd {p r:List Int} {X:Nat} (hp:∀ j,(p.getD j 0).natAbs≤9) (hr:∀ j,(r.getD j 0).natAbs≤X) {k:Nat} (hk:r.length=k+3) (j:Nat):((rstep p r).getD j 0).natAbs≤X*18:=by
 by_cases hj:j<k+2
 ·rw [rstep_get p k r hk j hj]
  have a1:(r.getD j 0*p.getD 2 0).natAbs≤X*9:=by rw [Int.natAbs_mul];exact Nat.mul_le_mul (hr _) (hp _)
  have a2:(r.getD (k+2) 0*p.getD 1 0).natAbs≤X*9:=by rw [Int.natAbs_mul];exact Nat.mul_le_mul (hr _) (hp _)
  have a3:(r.getD (k+2) 0*p.getD 0 0).natAbs≤X*9:=by rw [Int.natAbs_mul];exact Nat.mul_le_mul (hr _) (hp _)
  by_cases c1:j=k+1
  ·rw [if_pos c1,if_neg (by omega)];omega
  ·rw [if_neg c1]
   by_cases c2:j=k
   ·rw [if_pos c2];omega
   ·rw [if_neg c2];omega
 ·rw [getD_out _ (by rw [rstep_len p k r hk];omega)]
  exact Nat.zero_le _
theorem rstep_tab {p r:List Int} {k:Nat} (hk:r.length=k+3) {F:Nat→Int} (hF:∀ j,j<k+2→F j=r.getD j 0*p.getD 2 0-(if j=k+1 then r.getD (k+2) 0*p.getD 1 0 else 0)-(if j=k then r.getD (k+2) 0*p.getD 0 0 else 0)):tab (k+2) F=rstep p r:=by
 have h1:tab (rstep p r).length (fun j=>(rstep p r).getD j 0)=rstep p r:=tab_self _
 rw [rstep_len p k r hk] at h1
 rw [← h1]
 exact tab_ext fun j hj=>by rw [hF j hj,rstep_get p k r hk j hj]
theorem wpList_app_ints {w:World} {ops:Array Oper} {rest:List Oper} {o:Oper} {a:Act} {Q:Exit→Act→World→Prop} (hgd:o.guard=none) (s x:Operand)
 (ho:o.op=.call { callee:=.builtin .append,args:=#[s,x],argTypes:=#[32,32] })
 (hs:a.eval s=.slice (some ⟨w.heap.size,0,none⟩) 0 0) {A:Option Addr} {l c:Nat} {f:List Int} (hx:a.eval x=.slice A l c) (hF:I64At w A l c f) (hl:l≤100)
 (dd:Nat) (hdd:o.dst=some dd) (h:∀ A' c' w',I64At w' A' l c' f→Below w.heap.size w w'→wpList Tryz.prog ops Q rest (a.put (some dd) (.slice A' l c')) w') :
 wpList Tryz.prog ops Q (o :: rest) a (w.alloc (.cells #[] 3)):=by
 obtain ⟨i0,hi,hz0,hz1,hz2⟩:=info_parts info_int64
 by_cases hz:l=0
 ·subst hz
  refine wpList_plain hgd fun K' hK'=>?_
  have h':=h (some ⟨w.heap.size,0,none⟩) 0 (w.alloc (.cells #[] 3)) ⟨hF.length,Nat.le_refl _,.inl rfl⟩ (below_new _ _)
  rw [← hdd] at h'
  have hrun:(Builtin.append_ #[32,32] o.type #[.slice (some ⟨w.heap.size,0,none⟩) 0 0,.slice A 0 c]).run Tryz.prog (w.alloc (.cells #[] 3))=.ok (.slice (some ⟨w.heap.size,0,none⟩) 0 0) (w.alloc (.cells #[] 3)):=by
   cases A with
   | none=>simp [Builtin.append_,run_underlying Tryz.underlying32,sizeOf,typeInfo,hi,Builtin.lenOf,Builtin.firstCells,storeCells]
   | some q=>simp [Builtin.append_,run_underlying Tryz.underlying32,sizeOf,typeInfo,hi,Builtin.lenOf,Builtin.firstCells,storeCells,loadCells];rfl
  unfold Oper.wp
  simp only [execOp,ho,resolve,invoke,builtin]
  simp [hs,hx,hrun,Result.andThen]
  exact hK' _ _ h'
 ·obtain ⟨b,o',rfl,hbl,hc⟩:=hF.at_ (by omega)
  have hC:∀ u,(∃ n,u=Value.int .i64 n)→Nd u:=fun u ⟨n,e⟩=>by rw [e];exact nd_i64 n
  refine wpList_plain hgd fun _ hK'=>oper_append_own s x 32 3 ho 1 i0 (.int .i64 0) Tryz.underlying32 hi hz0 hz1 (by rw [hz2];omega) rfl (fun u=>∃ n,u=Value.int .i64 n) hC (fun j hj=>⟨0,by match j,hj with | 0,_=>rfl⟩) (by decide) w.heap.size (.slice (some ⟨w.heap.size,0,none⟩) 0 0) [] (f.map fun n=>Value.int .i64 n) hs
   (.inr ⟨w.heap.size,0,0,#[],rfl,Nat.le_refl _,rfl,Nat.le_refl _,fun j u h=>by simp at h,Blk.new _ _ _,rfl,fun j h=>absurd h (by omega)⟩) (below_new w _).size ⟨b,o',none⟩ l c hx (by rw [List.length_map,hF.length,Nat.mul_one]) (fun j u hj=>?_) (fun u hu=>by obtain ⟨n,_,e⟩:=List.mem_map.1 hu;exact ⟨n,e.symm⟩) (.inl (by omega)) (by rw [List.length_map,hF.length];simp;omega) dd hdd fun v' w' hg=>?_
  ·rw [Addr.add_lit]
   rw [List.getElem?_map] at hj
   have hjl:j<f.length:=by
    refine Nat.lt_of_not_le fun hn=>?_
    rw [List.getElem?_eq_none hn] at hj
    cases hj
   rw [List.getElem?_eq_getElem hjl] at hj
   cases hj
   refine ((below_new w _).cell (p:=⟨b,o'+j,none⟩) hbl).trans ?_
   rw [hc j (by rw [← hF.length];exact hjl),List.getD_eq_getElem?_getD,List.getElem?_eq_getElem hjl]
   rfl
  ·have hb:Below w.heap.size w w':=(below_new w _).trans (hg.below (below_new w _).size)
   rcases hg.1 with ⟨e,_⟩ | ⟨g,n,cap,cs,e,hb1,hun,hnc,huc,hk,hsz,hcs⟩
   ·simp at e
    rw [e] at hF
    exact absurd hF.length.symm hz
   ·rw [List.nil_append,List.length_map,hF.length,Nat.mul_one] at hun
    subst hun
    subst e
    refine hK' _ _ (h _ _ _ ⟨hF.length,hnc,.inr ⟨g,0,rfl,hk.lt,fun i hi=>?_⟩⟩ hb)
    have hil:i<f.length:=by rw [hF.length];exact hi
    have:=huc i (.int .i64 (f.getD i 0)) (by
     rw [List.nil_append,List.getElem?_map,List.getElem?_eq_getElem hil,List.getD_eq_getElem?_getD,List.getElem?_eq_getElem hil]
     rfl)
    rw [Nat.zero_add]
    exact this
end Go.Proofs.YtipocabbjinbhaaGreat
namespace Go.Proofs.YtipocabbjinbhaaGreat
open Go Go.RowKit
def Rbd (l:Nat) (r:List Int):Prop:=∀ j,(r.getD j 0).natAbs≤729*18^(5-l)
theorem value15_zero (a n:Int) (w:World) (h1:(a*a).natAbs≤2305843009213693952) :
 Calls Tryz.prog 118 #[.int .i64 a,.int .i64 0,.int .i64 n] w fun e w'=>e=.returned (.int .i64 (valv a 0 n))∧Below w.heap.size w w' :=
 value15_any a 0 n w h1 (by rw [Int.mul_zero];exact Nat.zero_le _) (by rw [Int.mul_zero,Int.zero_mul];exact Nat.zero_le _)
set_option maxRecDepth 100000 in
set_option maxHeartbeats 16000000 in
theorem sgnd_any {w:World} {A:Option Addr} {l c:Nat} {p:List Int} (h:I64At w A l c p) (hp:FcP p) (k:Nat) (hk:k≤1) {B:Option Addr} {lb cb:Nat} {g:List Int} (hg:I64At w B lb cb g) (hlb:lb≤5) (hgb:∀ j,(g.getD j 0).natAbs≤729) :
 Calls Tryz.prog 68 #[.slice A l c,.int .i64 (k:Int),.slice B lb cb] w fun e w'=>e=.returned (.int .i64 (sgnd p k g))∧Below w.heap.size w w':=by
 have hl3:l=2∨l=3:=by rw [← h.length];exact hp.len
 have HG:=Lib.hid hg
 have H:=Lib.hid h
 go_enter Tryz.func68,Tryz.ntmps68
 rcases hl3 with rfl | rfl
 ·have HC:=Lib.hid (show sgnd p k g=sg (atv (-p.getD 0 0) (p.getD 1 0) g) by unfold sgnd;rw [if_pos h.length])
  obtain ⟨b1,o1,rfl,hb1,hc1⟩:=h.at_ (by omega)
  have e0:=hc1 0 (by omega)
  have e1:=hc1 1 (by omega)
  rw [Nat.add_zero] at e0
  have v0:=hp.bd 0
  have v1:=hp.bd 1
  generalize sgnd p k g=C at HC ⊢
  obtain ⟨x0,hx0⟩:∃ x,x=p.getD 0 0:=⟨_,rfl⟩
  obtain ⟨x1,hx1⟩:∃ x,x=p.getD 1 0:=⟨_,rfl⟩
  rw [← hx0] at e0 HC v0
  rw [← hx1] at e1 HC v1
  have i1:IntKind.i64.wrap (-x0)=-x0:=IntWalk.i64_in _ (by omega)
  clear hx0 hx1 hc1 h hg
  go_wp2_with fail
  refine wp_region_held_drew (S:=fun w'=>w'.cell? ⟨b1,o1,none⟩=some (.int .i64 x0)∧w'.cell? ⟨b1,o1+1,none⟩=some (.int .i64 x1)) (by kernel_rfl) (by (try dsimp only);go_keep) (fun hHeld=>?_)
  (refine tk (i:=0) (v:=?_) rfl rfl (Or.inl ⟨by rfl,?_⟩) ?_;rotate_left;(focus (intro w hSw;(try dsimp only at hSw);go_simp;(try with_reducible rfl)));(simp only [put_lit,List.set]))
  (refine tk (i:=1) (v:=?_) rfl rfl (Or.inl ⟨by rfl,?_⟩) ?_;rotate_left;(focus (intro w hSw;(try dsimp only at hSw);go_simp;(try with_reducible rfl)));(simp only [put_lit,List.set]))
  (refine tk (i:=2) (v:=?_) rfl rfl (Or.inl ⟨by rfl,?_⟩) ?_;rotate_left;(focus (intro w hSw;(try dsimp only at hSw);go_simp;(try with_reducible rfl)));(simp only [put_lit,List.set]))
  (refine tk (i:=3) (v:=?_) rfl rfl (Or.inl ⟨by rfl,?_⟩) ?_;rotate_left;(focus (intro w hSw;(try dsimp only at hSw);go_simp;(try with_reducible rfl)));(simp only [put_lit,List.set]))
  (refine tk (i:=4) (v:=?_) rfl rfl (Or.inl ⟨by rfl,?_⟩) ?_;rotate_left;(focus (intro w hSw;(try dsimp only at hSw);go_simp;(try with_reducible rfl)));(simp only [put_lit,List.set]))
  (refine tk (i:=5) (v:=?_) rfl rfl (Or.inl ⟨by rfl,?_⟩) ?_;rotate_left;(focus (intro w hSw;(try dsimp only at hSw);go_simp;(try with_reducible rfl)));(simp only [put_lit,List.set]))
  (refine tk (i:=6) (v:=?_) rfl rfl (Or.inl ⟨by rfl,?_⟩) ?_;rotate_left;(focus (intro w hSw;(try dsimp only at hSw);go_simp;(try with_reducible rfl)));(simp only [put_lit,List.set]))
  (refine tk (i:=7) (v:=?_) rfl rfl (Or.inl ⟨by rfl,?_⟩) ?_;rotate_left;(focus (intro w hSw;(try dsimp only at hSw);go_simp;(try with_reducible rfl)));(simp only [put_lit,List.set]))
  (refine wpAnyH_ready (rs:=[8]) (by kernel_rfl) (by simp) ?_;refine AllReadyH.cons rfl (fun K hK=>?_) AllReadyH.nil;go_simp)
  refine (at15_any (HG.out.below Bel.go) (-x0) x1 (by omega) (M:=729) (Z:=29) (by decide) (by decide) (by omega) (by omega) hgb (by
   have h1:29^(lb+1)≤29^6:=Nat.pow_le_pow_right (by decide) (by omega)
   have h2:(lb+1)*(729*29^(lb+1))≤6*(729*29^6):=Nat.mul_le_mul (by omega) (Nat.mul_le_mul_left _ h1)
   exact Nat.le_trans h2 (by decide))).mono ?_
  rintro e w4 ⟨rfl,hb4⟩
  have Hb4:=Lib.hid (show Below w.heap.size w w4 from (Below.trans Bel.go (hb4.mono (by simp<;>omega))))
  obtain ⟨hcx,hfx⟩:=bcellS hb4;refine hK.out _ _ ?_ (fun _=>?_);(focus (((try dsimp only);repeat' apply And.intro)<;>(rw [hcx _ (by go_simp)];go_simp)));clear hHeld hK K hcx hfx;rename_i hHeld;clear hb4
  (refine tk (i:=9) (v:=?_) rfl rfl (Or.inl ⟨by rfl,?_⟩) ?_;rotate_left;(focus (intro w hSw;(try dsimp only at hSw);go_simp;(try with_reducible rfl)));(simp only [put_lit,List.set]))
  refine wpAnyH_done (by kernel_rfl) ?_ _
  clear hHeld e0 e1
  go_wp2
  go_ret
  exact ⟨by rw [HC.out];rfl,by first | exact Hb4.out | exact below_drewn Hb4.out _⟩
 ·have h2:¬ p.length=2:=by rw [h.length];decide
  have hqd:isQd p:=by
   rcases hp.irr with c | c
   ·exact absurd c.1 h2
   ·exact c
  have HC:=Lib.hid (show sgnd p k g=valv (2*p.getD 2 0*(redq p g.length g).getD 0 0-(redq p g.length g).getD 1 0*p.getD 1 0) (if k=0 then -(redq p g.length g).getD 1 0 else (redq p g.length g).getD 1 0) (dsc p) by unfold sgnd;rw [if_neg h2])
  have HP9:=Lib.hid (hp.q9 h.length)
  have Hgl:=Lib.hid hg.length
  have hRB:Rbd lb g:=fun j=>by
   have h1:=hgb j
   have h2:1≤18^(5-lb):=Nat.pow_pos (by decide)
   have h3:729*1≤729*18^(5-lb):=Nat.mul_le_mul_left _ h2
   omega
  have HRB:=Lib.hid hRB
  generalize sgnd p k g=C at HC ⊢
  clear h hg hgb hRB h2
  go_wp2_with (at_builtin;refine wpList_app_ints rfl (.tmp 26) (.tmp 27) rfl rfl rfl HG.out (by omega) 28 rfl ?_;intro A0 c0 w1 h1 hb1)
  have H1:=Lib.hid h1
  have Hb1:=Lib.hid hb1
  have HP1:=Lib.hid (H.out.below hb1)
  clear h1 hb1
  go_wp2
  go_loopw [7] (fun s7 wr=>∃ (A':Option Addr) (l' c':Nat) (r:List Int),s7=.slice A' l' c'∧I64At wr A' l' c' r∧l'≤lb∧redq p lb g=redq p l' r∧Rbd l' r∧Below w1.heap.size w1 wr) (fun s7 _=>lenOf s7)
  case atStart=>exact ⟨_,_,_,g,rfl,H1.out,Nat.le_refl _,rfl,HRB.out,Below.refl _ _⟩
  case round =>
   obtain ⟨A',l',c',r,rfl,hr,hl',hred,hbd,hbw⟩:=hrel
   obtain ⟨wo,rfl⟩:∃ wo:World,wo=wr:=⟨_,rfl⟩
   have Hr:=Lib.hid hr
   have HPo:=Lib.hid (HP1.out.below hbw)
   have Hred:=Lib.hid hred
   have Hbd:=Lib.hid hbd
   have Hbw:=Lib.hid hbw
   have Hrl:=Lib.hid hr.length
   clear hr hred hbd hbw
   by_cases h3:2<l'
   ·obtain ⟨n,rfl⟩:∃ n,l'=n+3:=⟨l'-3,by omega⟩
    have hn2:n≤2:=by omega
    have Hl':=Lib.hid hl'
    have HN:=Lib.hid (show redq p (n+3) r=redq p (n+2) (rstep p r) by
     show (if 2<r.length then redq p (n+2) (rstep p r) else r)=_
     rw [if_pos (by rw [Hrl.out];omega)])
    have HB2:=Lib.hid (show Rbd (n+2) (rstep p r) from fun j=>by
     have:=rstep_bd HP9.out Hbd.out Hrl.out j
     have e:5-(n+2)=5-(n+3)+1:=by omega
     rw [e,Nat.pow_succ,← Nat.mul_assoc]
     exact this)
    have hrb:∀ j,(r.getD j 0).natAbs≤729*18^2:=fun j=>Nat.le_trans (Hbd.out j) (Nat.mul_le_mul_left _ (Nat.pow_le_pow_right (by decide) (by omega)))
    have HRb:=Lib.hid hrb
    obtain ⟨b1,o1,rfl,hb1,hc1⟩:=Hr.out.at_ (by omega)
    have eT:=hc1 (n+2) (by omega)
    have HcR:=Lib.hid hc1
    have g1:(2:Int)<((n+3:Nat):Int):=by omega
    have w1':IntKind.i64.wrap (((n+3:Nat):Int)-1)=((n+2:Nat):Int):=by rw [IntWalk.i64_in _ (by omega)];omega
    have w2':((n+3:Nat):Int)-1=((n+2:Nat):Int):=by omega
    obtain ⟨bp,op,rfl,hbp,hcp⟩:=HPo.out.at_ (by omega)
    have p0:=hcp 0 (by omega)
    have p1:=hcp 1 (by omega)
    have p2:=hcp 2 (by omega)
    rw [Nat.add_zero] at p0
    have v0:=HP9.out 0
    have v1:=HP9.out 1
    have v2:=HP9.out 2
    have vT:=HRb.out (n+2)
    have HTB:=Lib.hid (fun F hF=>rstep_tab (p:=p) (r:=r) (k:=n) Hrl.out (F:=F) hF)
    have hKn:n+1+1=n+2:=rfl
    obtain ⟨y0,hy0⟩:∃ x,x=p.getD 0 0:=⟨_,rfl⟩
    obtain ⟨y1,hy1⟩:∃ x,x=p.getD 1 0:=⟨_,rfl⟩
    obtain ⟨y2,hy2⟩:∃ x,x=p.getD 2 0:=⟨_,rfl⟩
    obtain ⟨T,hT⟩:∃ x,x=r.getD (n+2) 0:=⟨_,rfl⟩
    rw [← hy0] at p0 v0
    rw [← hy1] at p1 v1
    rw [← hy2] at p2 v2
    rw [← hT] at eT vT
    rw [← hy0,← hy1,← hy2,← hT] at HTB
    obtain ⟨K,hK⟩:∃ K,K=n+2:=⟨_,rfl⟩
    obtain ⟨L,hL⟩:∃ L,L=n+3:=⟨_,rfl⟩
    rw [← hL] at g1 w1' w2' Hl' HN Hbd Hr hl' HcR Hred ⊢
    rw [← hK] at eT w1' w2' HN HB2 HTB
    have HKn:=Lib.hid hK
    have hLK:L=K+1:=by omega
    have hK4:2≤K∧K≤4:=by omega
    have HLK:=Lib.hid hLK
    have kw:(K:Int)<(L:Int):=by omega
    have hL5:L≤5:=by omega
    have Hbb:=Lib.hid (And.intro hb1 hbp)
    clear hc1 hcp hy0 hy1 hy2 hT hK hL h3 hrb hn2 hKn hLK
    go_wp2_with (at_make;refine wpList_make_int _ rfl (.tmp 39) (.tmp 39) rfl K rfl rfl (by omega) ?_)
    intro w2 hz hb2 hsz
    rw [tab_zero] at hz
    have Hz:=Lib.hid hz
    have Hb2:=Lib.hid hb2
    obtain ⟨G,hG⟩:∃ G,G=wo.heap.size:=⟨_,rfl⟩
    rw [← hG] at Hz ⊢
    have HGe:=Lib.hid hG
    have nb1:G≠b1:=by omega
    have nb2:G≠bp:=by omega
    clear hz hb2 hsz hG
    go_wp2
    go_loopw [11] (fun s11 wx=>∃ (i:Nat) (F:Nat→Int),i≤K∧s11=.int .i64 (i:Int)∧IRow wx G (tab K F)∧(∀ j,j<i→F j=r.getD j 0*y2)∧Below wo.heap.size wo wx) (fun s11 _=>K-(intOf s11).toNat)
    case atStart=>exact ⟨0,_,Nat.zero_le _,rfl,Hz.out,fun j hj=>absurd hj (Nat.not_lt_zero _),Hb2.out⟩
    case round =>
     obtain ⟨i,F,hi,rfl,hrow,hF,hbx⟩:=hrel
     have Hrow:=Lib.hid hrow
     have HF:=Lib.hid hF
     have Hbx:=Lib.hid hbx
     have q0:=(hbx.cell (p:=⟨bp,op,none⟩) Hbb.out.2).trans p0
     have q1:=(hbx.cell (p:=⟨bp,op+1,none⟩) Hbb.out.2).trans p1
     have q2:=(hbx.cell (p:=⟨bp,op+2,none⟩) Hbb.out.2).trans p2
     clear p0 p1 p2 eT
     by_cases hik:i<K
     ·have Hik:=Lib.hid hik
      have e1:=(hbx.cell (p:=⟨b1,o1+i,none⟩) Hbb.out.1).trans (HcR.out i (by have:=HLK.out;omega))
      have e3:=hrow.cell (i:=i) (by rw [tab_length];exact hik)
      rw [tab_get _ hik] at e3
      have f3:=hrow.frozen i
      have vx:=HRb.out i
      obtain ⟨x,hx⟩:∃ x,x=r.getD i 0:=⟨_,rfl⟩
      rw [← hx] at e1 vx
      have Hx:=Lib.hid hx
      have hm:(x*y2).natAbs≤729*18^2*9:=by rw [Int.natAbs_mul];exact Nat.mul_le_mul vx v2
      have i9:IntKind.i64.wrap (x*y2)=x*y2:=IntWalk.i64_in _ (by omega)
      have i5:(i:Int)<(K:Int):=by omega
      have i6:(i:Int)<(L:Int):=by have:=HLK.out;omega
      have tw:IntKind.i64.wrap ((i:Int)+1)=(i:Int)+1:=IntWalk.i64_in _ (by omega)
      clear hrow hF hbx hx hm vx hi q0 q1
      go_wp2_with fail
      refine wp_region_last (S:=fun w'=>w'.cell? ⟨b1,o1+i,none⟩=some (.int .i64 x)∧w'.cell? ⟨bp,op+2,none⟩=some (.int .i64 y2)) (by kernel_rfl) (by kernel_rfl) (by (try dsimp only);refine ⟨?_,?_⟩<;>go_simp) (fun hHeld=>?_)
      simp only [List.pop_toArray,List.dropLast]
      (refine tk (i:=0) (v:=?_) rfl rfl (Or.inl ⟨by rfl,?_⟩) ?_;rotate_left;(focus (intro w hSw;(try dsimp only at hSw);go_simp;(try with_reducible rfl)));(simp only [put_lit,List.set]))
      (refine tk (i:=1) (v:=?_) rfl rfl (Or.inl ⟨by rfl,?_⟩) ?_;rotate_left;(focus (intro w hSw;(try dsimp only at hSw);go_simp;(try with_reducible rfl)));(simp only [put_lit,List.set]))
      (refine tk (i:=2) (v:=?_) rfl rfl (Or.inl ⟨by rfl,?_⟩) ?_;rotate_left;(focus (intro w hSw;(try dsimp only at hSw);go_simp;(try with_reducible rfl)));(simp only [put_lit,List.set]))
      (refine tk (i:=3) (v:=?_) rfl rfl (Or.inl ⟨by rfl,?_⟩) ?_;rotate_left;(focus (intro w hSw;(try dsimp only at hSw);go_simp;(try with_reducible rfl)));(simp only [put_lit,List.set]))
      (refine tk (i:=4) (v:=?_) rfl rfl (Or.inl ⟨by rfl,?_⟩) ?_;rotate_left;(focus (intro w hSw;(try dsimp only at hSw);go_simp;(try with_reducible rfl)));(simp only [put_lit,List.set]))
      (refine tk (i:=5) (v:=?_) rfl rfl (Or.inl ⟨by rfl,?_⟩) ?_;rotate_left;(focus (intro w hSw;(try dsimp only at hSw);go_simp;(try with_reducible rfl)));(simp only [put_lit,List.set]))
      (refine tk (i:=6) (v:=?_) rfl rfl (Or.inl ⟨by rfl,?_⟩) ?_;rotate_left;(focus (intro w hSw;(try dsimp only at hSw);go_simp;(try with_reducible rfl)));(simp only [put_lit,List.set]))
      (refine tk (i:=7) (v:=?_) rfl rfl (Or.inl ⟨by rfl,?_⟩) ?_;rotate_left;(focus (intro w hSw;(try dsimp only at hSw);go_simp;(try with_reducible rfl)));(simp only [put_lit,List.set]))
      (refine tk (i:=8) (v:=?_) rfl rfl (Or.inl ⟨by rfl,?_⟩) ?_;rotate_left;(focus (intro w hSw;(try dsimp only at hSw);go_simp;(try with_reducible rfl)));(simp only [put_lit,List.set]))
      (refine tk (i:=9) (v:=?_) rfl rfl (Or.inl ⟨by rfl,?_⟩) ?_;rotate_left;(focus (intro w hSw;(try dsimp only at hSw);go_simp;(try with_reducible rfl)));(simp only [put_lit,List.set]))
      (refine tk (i:=10) (v:=?_) rfl rfl (Or.inl ⟨by rfl,?_⟩) ?_;rotate_left;(focus (intro w hSw;(try dsimp only at hSw);go_simp;(try with_reducible rfl)));(simp only [put_lit,List.set]))
      refine wpAnyH_done (by kernel_rfl) (lastQ_list rfl ?_) _
      clear hHeld
      go_wp2_with fail
      have hr2:=Hrow.out.drew.set_ i (x*y2)
      rw [tab_set] at hr2
      have Hr2:=Lib.hid hr2
      clear hr2
      go_roundw
      case rel =>
       refine ⟨i+1,_,Hik.out,by go_num,Hr2.out,fun j hj=>?_,((Hbx.out.setCell (p:=⟨G,i,none⟩) (Nat.le_of_eq HGe.out.symm) _).drew)⟩
       by_cases c:j=i
       ·rw [if_pos c,c,Hx.out]
       ·rw [if_neg c];exact HF.out j (by omega)
      case measure=>have:=Hik.out;simp [intOf];omega
     ·have hiK:i=K:=by omega
      have i5:¬ (i:Int)<(K:Int):=by omega
      rw [hiK] at HF
      obtain ⟨m,hm⟩:∃ m,K=m+2:=⟨K-2,by omega⟩
      have HF2:=HF
      have e3:=hrow.cell (i:=m+1) (by rw [tab_length];omega)
      rw [tab_get _ (by omega)] at e3
      have f3:=hrow.frozen (m+1)
      have a1:(F (m+1)).natAbs≤729*18^2*9:=by
       rw [HF.out (m+1) (by omega),Int.natAbs_mul]
       exact Nat.mul_le_mul (HRb.out _) v2
      have a2:(F m).natAbs≤729*18^2*9:=by
       rw [HF.out m (by omega),Int.natAbs_mul]
       exact Nat.mul_le_mul (HRb.out _) v2
      have m1:(T*y1).natAbs≤729*18^2*9:=by rw [Int.natAbs_mul];exact Nat.mul_le_mul vT v1
      have m0:(T*y0).natAbs≤729*18^2*9:=by rw [Int.natAbs_mul];exact Nat.mul_le_mul vT v0
      obtain ⟨V1,hV1⟩:∃ x,x=F (m+1):=⟨_,rfl⟩
      obtain ⟨V0,hV0⟩:∃ x,x=F m:=⟨_,rfl⟩
      rw [← hV1] at e3 a1
      rw [← hV0] at a2
      have HV:=Lib.hid (And.intro hV1 hV0)
      have k1:IntKind.i64.wrap ((K:Int)-1)=((m+1:Nat):Int):=by rw [IntWalk.i64_in _ (by omega)];omega
      have k2:IntKind.i64.wrap ((K:Int)-2)=(m:Int):=by rw [IntWalk.i64_in _ (by omega)];omega
      have k1':(K:Int)-1=((m+1:Nat):Int):=by omega
      have k2':(K:Int)-2=(m:Int):=by omega
      obtain ⟨M,hM⟩:∃ M,M=m+1:=⟨_,rfl⟩
      rw [← hM] at e3 f3 k1 k1'
      have k3:(M:Int)<(K:Int):=by omega
      have k5:IntKind.i64.wrap (M:Int)=(M:Int):=IntWalk.i64_in _ (by omega)
      have k6:IntKind.i64.wrap (m:Int)=(m:Int):=IntWalk.i64_in _ (by omega)
      have k4:(m:Int)<(K:Int):=by omega
      have j1:IntKind.i64.wrap (T*y1)=T*y1:=IntWalk.i64_in _ (by omega)
      have j2:IntKind.i64.wrap (V1-T*y1)=V1-T*y1:=IntWalk.i64_in _ (by omega)
      have j3:IntKind.i64.wrap (T*y0)=T*y0:=IntWalk.i64_in _ (by omega)
      have j4:IntKind.i64.wrap (V0-T*y0)=V0-T*y0:=IntWalk.i64_in _ (by omega)
      have e5:=hrow.cell (i:=m) (by rw [tab_length];omega)
      rw [tab_get _ (by omega),← hV0] at e5
      have f5:=hrow.frozen m
      have nm:m≠M:=by omega
      have nm2:¬ M=m:=by omega
      have HMm:=Lib.hid (And.intro hm hM)
      clear hrow hF hbx a1 a2 m1 m0 hV1 hV0 hm hM hi hik hiK q2
      go_wp2_with fail
      refine wp_region_last (S:=fun w'=>w'.cell? ⟨G,M,none⟩=some (.int .i64 V1)∧w'.cell? ⟨bp,op+1,none⟩=some (.int .i64 y1)) (by kernel_rfl) (by kernel_rfl) (by (try dsimp only);refine ⟨?_,?_⟩<;>go_simp) (fun hHeld=>?_)
      simp only [List.pop_toArray,List.dropLast]
      (refine tk (i:=0) (v:=?_) rfl rfl (Or.inl ⟨by rfl,?_⟩) ?_;rotate_left;(focus (intro w hSw;(try dsimp only at hSw);go_simp;(try with_reducible rfl)));(simp only [put_lit,List.set]))
      (refine tk (i:=1) (v:=?_) rfl rfl (Or.inl ⟨by rfl,?_⟩) ?_;rotate_left;(focus (intro w hSw;(try dsimp only at hSw);go_simp;(try with_reducible rfl)));(simp only [put_lit,List.set]))
      (refine tk (i:=2) (v:=?_) rfl rfl (Or.inl ⟨by rfl,?_⟩) ?_;rotate_left;(focus (intro w hSw;(try dsimp only at hSw);go_simp;(try with_reducible rfl)));(simp only [put_lit,List.set]))
      (refine tk (i:=3) (v:=?_) rfl rfl (Or.inl ⟨by rfl,?_⟩) ?_;rotate_left;(focus (intro w hSw;(try dsimp only at hSw);go_simp;(try with_reducible rfl)));(simp only [put_lit,List.set]))
      (refine tk (i:=4) (v:=?_) rfl rfl (Or.inl ⟨by rfl,?_⟩) ?_;rotate_left;(focus (intro w hSw;(try dsimp only at hSw);go_simp;(try with_reducible rfl)));(simp only [put_lit,List.set]))
      (refine tk (i:=5) (v:=?_) rfl rfl (Or.inl ⟨by rfl,?_⟩) ?_;rotate_left;(focus (intro w hSw;(try dsimp only at hSw);go_simp;(try with_reducible rfl)));(simp only [put_lit,List.set]))
      (refine tk (i:=6) (v:=?_) rfl rfl (Or.inl ⟨by rfl,?_⟩) ?_;rotate_left;(focus (intro w hSw;(try dsimp only at hSw);go_simp;(try with_reducible rfl)));(simp only [put_lit,List.set]))
      (refine tk (i:=7) (v:=?_) rfl rfl (Or.inl ⟨by rfl,?_⟩) ?_;rotate_left;(focus (intro w hSw;(try dsimp only at hSw);go_simp;(try with_reducible rfl)));(simp only [put_lit,List.set]))
      (refine tk (i:=8) (v:=?_) rfl rfl (Or.inl ⟨by rfl,?_⟩) ?_;rotate_left;(focus (intro w hSw;(try dsimp only at hSw);go_simp;(try with_reducible rfl)));(simp only [put_lit,List.set]))
      (refine tk (i:=9) (v:=?_) rfl rfl (Or.inl ⟨by rfl,?_⟩) ?_;rotate_left;(focus (intro w hSw;(try dsimp only at hSw);go_simp;(try with_reducible rfl)));(simp only [put_lit,List.set]))
      (refine tk (i:=10) (v:=?_) rfl rfl (Or.inl ⟨by rfl,?_⟩) ?_;rotate_left;(focus (intro w hSw;(try dsimp only at hSw);go_simp;(try with_reducible rfl)));(simp only [put_lit,List.set]))
      (refine tk (i:=11) (v:=?_) rfl rfl (Or.inl ⟨by rfl,?_⟩) ?_;rotate_left;(focus (intro w hSw;(try dsimp only at hSw);go_simp;(try with_reducible rfl)));(simp only [put_lit,List.set]))
      refine wpAnyH_done (by kernel_rfl) (lastQ_list rfl ?_) _
      clear hHeld
      go_wp2_with fail
      clear e3 f3
      have hr2:=Hrow.out.drew.set_ M (V1-T*y1)
      rw [tab_set] at hr2
      have Hr2:=Lib.hid hr2
      clear hr2
      refine wp_region_last (S:=fun w'=>w'.cell? ⟨G,m,none⟩=some (.int .i64 V0)∧w'.cell? ⟨bp,op,none⟩=some (.int .i64 y0)) (by kernel_rfl) (by kernel_rfl) (by (try dsimp only);refine ⟨?_,?_⟩<;>go_simp) (fun hHeld=>?_)
      simp only [List.pop_toArray,List.dropLast]
      (refine tk (i:=0) (v:=?_) rfl rfl (Or.inl ⟨by rfl,?_⟩) ?_;rotate_left;(focus (intro w hSw;(try dsimp only at hSw);go_simp;(try with_reducible rfl)));(simp only [put_lit,List.set]))
      (refine tk (i:=1) (v:=?_) rfl rfl (Or.inl ⟨by rfl,?_⟩) ?_;rotate_left;(focus (intro w hSw;(try dsimp only at hSw);go_simp;(try with_reducible rfl)));(simp only [put_lit,List.set]))
      (refine tk (i:=2) (v:=?_) rfl rfl (Or.inl ⟨by rfl,?_⟩) ?_;rotate_left;(focus (intro w hSw;(try dsimp only at hSw);go_simp;(try with_reducible rfl)));(simp only [put_lit,List.set]))
      (refine tk (i:=3) (v:=?_) rfl rfl (Or.inl ⟨by rfl,?_⟩) ?_;rotate_left;(focus (intro w hSw;(try dsimp only at hSw);go_simp;(try with_reducible rfl)));(simp only [put_lit,List.set]))
      (refine tk (i:=4) (v:=?_) rfl rfl (Or.inl ⟨by rfl,?_⟩) ?_;rotate_left;(focus (intro w hSw;(try dsimp only at hSw);go_simp;(try with_reducible rfl)));(simp only [put_lit,List.set]))
      (refine tk (i:=5) (v:=?_) rfl rfl (Or.inl ⟨by rfl,?_⟩) ?_;rotate_left;(focus (intro w hSw;(try dsimp only at hSw);go_simp;(try with_reducible rfl)));(simp only [put_lit,List.set]))
      (refine tk (i:=6) (v:=?_) rfl rfl (Or.inl ⟨by rfl,?_⟩) ?_;rotate_left;(focus (intro w hSw;(try dsimp only at hSw);go_simp;(try with_reducible rfl)));(simp only [put_lit,List.set]))
      (refine tk (i:=7) (v:=?_) rfl rfl (Or.inl ⟨by rfl,?_⟩) ?_;rotate_left;(focus (intro w hSw;(try dsimp only at hSw);go_simp;(try with_reducible rfl)));(simp only [put_lit,List.set]))
      (refine tk (i:=8) (v:=?_) rfl rfl (Or.inl ⟨by rfl,?_⟩) ?_;rotate_left;(focus (intro w hSw;(try dsimp only at hSw);go_simp;(try with_reducible rfl)));(simp only [put_lit,List.set]))
      (refine tk (i:=9) (v:=?_) rfl rfl (Or.inl ⟨by rfl,?_⟩) ?_;rotate_left;(focus (intro w hSw;(try dsimp only at hSw);go_simp;(try with_reducible rfl)));(simp only [put_lit,List.set]))
      (refine tk (i:=10) (v:=?_) rfl rfl (Or.inl ⟨by rfl,?_⟩) ?_;rotate_left;(focus (intro w hSw;(try dsimp only at hSw);go_simp;(try with_reducible rfl)));(simp only [put_lit,List.set]))
      (refine tk (i:=11) (v:=?_) rfl rfl (Or.inl ⟨by rfl,?_⟩) ?_;rotate_left;(focus (intro w hSw;(try dsimp only at hSw);go_simp;(try with_reducible rfl)));(simp only [put_lit,List.set]))
      refine wpAnyH_done (by kernel_rfl) (lastQ_list rfl ?_) _
      clear hHeld
      go_wp2_with fail
      clear e5 f5 nm nm2
      have hr3:=Hr2.out.drew.set_ m (V0-T*y0)
      rw [tab_set] at hr3
      have hr4:=hr3.at_ (cap:=K) (by rw [tab_length];exact Nat.le_refl _)
      rw [tab_length] at hr4
      rw [HTB.out _ (fun j hj=>by
       have:=HMm.out
       have hkn:=HKn.out
       have hm1:m=n:=by omega
       by_cases c0:j=m
       ·rw [if_pos c0,if_neg (by omega),if_pos (by omega),HV.out.2,HF2.out m (by omega),c0]
        omega
       ·rw [if_neg c0]
        by_cases c1:j=M
        ·rw [if_pos c1,if_pos (by omega),if_neg (by omega),HV.out.1,HF2.out (m+1) (by omega),c1,this.2]
         omega
        ·rw [if_neg c1,if_neg (by omega),if_neg (by omega),HF2.out j (by have:=HKn.out;omega)]
         omega)] at hr4
      have Hr4:=Lib.hid hr4
      clear hr3 hr4
      go_roundw
      case rel=>exact ⟨some ⟨G,0,none⟩,K,K,rstep p r,rfl,Hr4.out,by have:=HLK.out;have:=Hl'.out;omega,Hred.out.trans HN.out,HB2.out,Hbw.out.trans ((((Hbx.out.setCell (p:=⟨G,M,none⟩) (Nat.le_of_eq HGe.out.symm) _).setCell (p:=⟨G,m,none⟩) (Nat.le_of_eq HGe.out.symm) _).drew.drew).mono Hbw.out.size)⟩
      case measure=>have:=HLK.out;simp [lenOf];omega
   ·have hrr:redq p l' r=r:=by
     cases l' with
     | zero=>rfl
     | succ n=>show (if 2<r.length then _ else r)=r;rw [if_neg (by rw [Hrl.out];omega)]
    rw [Hgl.out,Hred.out,hrr] at HC
    have g1:¬ (2:Int)<(l':Int):=by omega
    obtain ⟨bp,op,rfl,hbp,hcp⟩:=HPo.out.at_ (by omega)
    have p0:=hcp 0 (by omega)
    have p1:=hcp 1 (by omega)
    have p2:=hcp 2 (by omega)
    rw [Nat.add_zero] at p0
    have v0:=HP9.out 0
    have v1:=HP9.out 1
    have v2:=HP9.out 2
    have hD:dsc p=p.getD 1 0*p.getD 1 0-4*p.getD 2 0*p.getD 0 0:=rfl
    obtain ⟨y0,hy0⟩:∃ x,x=p.getD 0 0:=⟨_,rfl⟩
    obtain ⟨y1,hy1⟩:∃ x,x=p.getD 1 0:=⟨_,rfl⟩
    obtain ⟨y2,hy2⟩:∃ x,x=p.getD 2 0:=⟨_,rfl⟩
    rw [← hy0] at p0 v0 hD
    rw [← hy1] at p1 v1 hD HC
    rw [← hy2] at p2 v2 hD HC
    rw [hD] at HC
    obtain ⟨z4,hz4⟩:∃ x,x=y1*y1:=⟨_,rfl⟩
    obtain ⟨z5,hz5⟩:∃ x,x=4*y2:=⟨_,rfl⟩
    obtain ⟨z6,hz6⟩:∃ x,x=z5*y0:=⟨_,rfl⟩
    obtain ⟨D,hDd⟩:∃ x,x=z4-z6:=⟨_,rfl⟩
    have b4:z4.natAbs≤9*9:=by rw [hz4,Int.natAbs_mul];exact Nat.mul_le_mul v1 v1
    have b6:z6.natAbs≤36*9:=by rw [hz6,Int.natAbs_mul];exact Nat.mul_le_mul (by omega) v0
    have hDb:D.natAbs≤405:=by omega
    have t4:IntKind.i64.wrap z4=z4:=IntWalk.i64_in _ (by omega)
    have t5:IntKind.i64.wrap z5=z5:=IntWalk.i64_in _ (by omega)
    have t6:IntKind.i64.wrap z6=z6:=IntWalk.i64_in _ (by omega)
    have tD:IntKind.i64.wrap D=D:=IntWalk.i64_in _ (by omega)
    have g4:y1*y1=z4:=hz4.symm
    have g5:4*y2=z5:=hz5.symm
    have g6:z5*y0=z6:=hz6.symm
    have gD:z4-z6=D:=hDd.symm
    rw [g4,g5,g6,gD] at HC
    have HBW:=Lib.hid (Hb1.out.trans (Hbw.out.mono Hb1.out.size))
    clear hcp hy0 hy1 hy2 hz4 hz5 hz6 hDd hD hrr b4 b6 hl'
    have hcase:l'=0∨l'=1∨l'=2:=by omega
    clear h3
    rcases hcase with rfl | rfl | rfl
    ·have r0:r.getD 0 0=0:=getD_out r (by rw [Hrl.out];exact Nat.le_refl _)
     have r1:r.getD 1 0=0:=getD_out r (by rw [Hrl.out];exact Nat.zero_le _)
     rw [r0,r1] at HC
     have hC2:C=valv 0 0 D:=by
      rw [HC.out,Int.mul_zero,Int.zero_mul,Int.neg_zero,ite_self]
      rfl
     replace HC:=Lib.hid hC2
     have w0:IntKind.i64.wrap 0=0:=IntWalk.i64_in _ (by omega)
     have hA:((0:Int)*0).natAbs≤2305843009213693952:=by simp
     clear r0 r1 hC2
     (by_cases hk0:k=0);(focus (subst hk0;go_wp2_with fail;refine wp_region_held_drew (S:=fun w'=>w'.cell? ⟨bp,op,none⟩=some (.int .i64 y0)∧w'.cell? ⟨bp,op+1,none⟩=some (.int .i64 y1)∧w'.cell? ⟨bp,op+2,none⟩=some (.int .i64 y2)) (by kernel_rfl) (by (try dsimp only);go_keep) (fun hHeld=>?_);(refine tk (i:=0) (v:=?_) rfl rfl (Or.inl ⟨by rfl,?_⟩) ?_;rotate_left;(focus (intro w hSw;(try dsimp only at hSw);go_simp;(try with_reducible rfl)));(simp only [put_lit,List.set]));(refine tk (i:=1) (v:=?_) rfl rfl (Or.inl ⟨by rfl,?_⟩) ?_;rotate_left;(focus (intro w hSw;(try dsimp only at hSw);go_simp;(try with_reducible rfl)));(simp only [put_lit,List.set]));(refine tk (i:=2) (v:=?_) rfl rfl (Or.inl ⟨by rfl,?_⟩) ?_;rotate_left;(focus (intro w hSw;(try dsimp only at hSw);go_simp;(try with_reducible rfl)));(simp only [put_lit,List.set]));(refine tk (i:=3) (v:=?_) rfl rfl (Or.inl ⟨by rfl,?_⟩) ?_;rotate_left;(focus (intro w hSw;(try dsimp only at hSw);go_simp;(try with_reducible rfl)));(simp only [put_lit,List.set]));(refine tk (i:=4) (v:=?_) rfl rfl (Or.inl ⟨by rfl,?_⟩) ?_;rotate_left;(focus (intro w hSw;(try dsimp only at hSw);go_simp;(try with_reducible rfl)));(simp only [put_lit,List.set]));(refine tk (i:=5) (v:=?_) rfl rfl (Or.inl ⟨by rfl,?_⟩) ?_;rotate_left;(focus (intro w hSw;(try dsimp only at hSw);go_simp;(try with_reducible rfl)));(simp only [put_lit,List.set]));(refine tk (i:=6) (v:=?_) rfl rfl (Or.inl ⟨by rfl,?_⟩) ?_;rotate_left;(focus (intro w hSw;(try dsimp only at hSw);go_simp;(try with_reducible rfl)));(simp only [put_lit,List.set]));(refine tk (i:=7) (v:=?_) rfl rfl (Or.inl ⟨by rfl,?_⟩) ?_;rotate_left;(focus (intro w hSw;(try dsimp only at hSw);go_simp;(try with_reducible rfl)));(simp only [put_lit,List.set]));(refine tk (i:=8) (v:=?_) rfl rfl (Or.inl ⟨by rfl,?_⟩) ?_;rotate_left;(focus (intro w hSw;(try dsimp only at hSw);go_simp;(try with_reducible rfl)));(simp only [put_lit,List.set]));(refine tk (i:=9) (v:=?_) rfl rfl (Or.inl ⟨by rfl,?_⟩) ?_;rotate_left;(focus (intro w hSw;(try dsimp only at hSw);go_simp;(try with_reducible rfl)));(simp only [put_lit,List.set]));(refine tk (i:=10) (v:=?_) rfl rfl (Or.inl ⟨by rfl,?_⟩) ?_;rotate_left;(focus (intro w hSw;(try dsimp only at hSw);go_simp;(try with_reducible rfl)));(simp only [put_lit,List.set]));(refine tk (i:=11) (v:=?_) rfl rfl (Or.inl ⟨by rfl,?_⟩) ?_;rotate_left;(focus (intro w hSw;(try dsimp only at hSw);go_simp;(try with_reducible rfl)));(simp only [put_lit,List.set]));(refine tk (i:=12) (v:=?_) rfl rfl (Or.inl ⟨by rfl,?_⟩) ?_;rotate_left;(focus (intro w hSw;(try dsimp only at hSw);go_simp;(try with_reducible rfl)));(simp only [put_lit,List.set]));(refine tk (i:=13) (v:=?_) rfl rfl (Or.inl ⟨by rfl,?_⟩) ?_;rotate_left;(focus (intro w hSw;(try dsimp only at hSw);go_simp;(try with_reducible rfl)));(simp only [put_lit,List.set]));(refine tk (i:=14) (v:=?_) rfl rfl (Or.inl ⟨by rfl,?_⟩) ?_;rotate_left;(focus (intro w hSw;(try dsimp only at hSw);go_simp;(try with_reducible rfl)));(simp only [put_lit,List.set]));(refine tk (i:=15) (v:=?_) rfl rfl (Or.inl ⟨by rfl,?_⟩) ?_;rotate_left;(focus (intro w hSw;(try dsimp only at hSw);go_simp;(try with_reducible rfl)));(simp only [put_lit,List.set]));(refine tk (i:=16) (v:=?_) rfl rfl (Or.inl ⟨by rfl,?_⟩) ?_;rotate_left;(focus (intro w hSw;(try dsimp only at hSw);go_simp;(try with_reducible rfl)));(simp only [put_lit,List.set]));(refine tk (i:=17) (v:=?_) rfl rfl (Or.inl ⟨by rfl,?_⟩) ?_;rotate_left;(focus (intro w hSw;(try dsimp only at hSw);go_simp;(try with_reducible rfl)));(simp only [put_lit,List.set]));(refine tk (i:=18) (v:=?_) rfl rfl (Or.inl ⟨by rfl,?_⟩) ?_;rotate_left;(focus (intro w hSw;(try dsimp only at hSw);go_simp;(try with_reducible rfl)));(simp only [put_lit,List.set]));(refine tk (i:=19) (v:=?_) rfl rfl (Or.inl ⟨by rfl,?_⟩) ?_;rotate_left;(focus (intro w hSw;(try dsimp only at hSw);go_simp;(try with_reducible rfl)));(simp only [put_lit,List.set]));(refine tk (i:=20) (v:=?_) rfl rfl (Or.inl ⟨by rfl,?_⟩) ?_;rotate_left;(focus (intro w hSw;(try dsimp only at hSw);go_simp;(try with_reducible rfl)));(simp only [put_lit,List.set]));(refine tk (i:=21) (v:=?_) rfl rfl (Or.inl ⟨by rfl,?_⟩) ?_;rotate_left;(focus (intro w hSw;(try dsimp only at hSw);go_simp;(try with_reducible rfl)));(simp only [put_lit,List.set]));(refine tk (i:=22) (v:=?_) rfl rfl (Or.inl ⟨by rfl,?_⟩) ?_;rotate_left;(focus (intro w hSw;(try dsimp only at hSw);go_simp;(try with_reducible rfl)));(simp only [put_lit,List.set]));(refine tk (i:=23) (v:=?_) rfl rfl (Or.inl ⟨by rfl,?_⟩) ?_;rotate_left;(focus (intro w hSw;(try dsimp only at hSw);go_simp;(try with_reducible rfl)));(simp only [put_lit,List.set]));(refine tk (i:=24) (v:=?_) rfl rfl (Or.inl ⟨by rfl,?_⟩) ?_;rotate_left;(focus (intro w hSw;(try dsimp only at hSw);go_simp;(try with_reducible rfl)));(simp only [put_lit,List.set]));(refine tk (i:=25) (v:=?_) rfl rfl (Or.inl ⟨by rfl,?_⟩) ?_;rotate_left;(focus (intro w hSw;(try dsimp only at hSw);go_simp;(try with_reducible rfl)));(simp only [put_lit,List.set]));(refine tk (i:=26) (v:=?_) rfl rfl (Or.inl ⟨by rfl,?_⟩) ?_;rotate_left;(focus (intro w hSw;(try dsimp only at hSw);go_simp;(try with_reducible rfl)));(simp only [put_lit,List.set]));(refine tk (i:=27) (v:=?_) rfl rfl (Or.inl ⟨by rfl,?_⟩) ?_;rotate_left;(focus (intro w hSw;(try dsimp only at hSw);go_simp;(try with_reducible rfl)));(simp only [put_lit,List.set]));(refine tk (i:=28) (v:=?_) rfl rfl (Or.inl ⟨by rfl,?_⟩) ?_;rotate_left;(focus (intro w hSw;(try dsimp only at hSw);go_simp;(try with_reducible rfl)));(simp only [put_lit,List.set]));(refine tk (i:=29) (v:=?_) rfl rfl (Or.inl ⟨by rfl,?_⟩) ?_;rotate_left;(focus (intro w hSw;(try dsimp only at hSw);go_simp;(try with_reducible rfl)));(simp only [put_lit,List.set]));(refine wpAnyH_ready (rs:=[30]) (by kernel_rfl) (by simp) ?_;refine AllReadyH.cons rfl (fun K hK=>?_) AllReadyH.nil;go_simp);refine (value15_zero 0 D _ hA).mono ?_;rintro e w4 ⟨rfl,hb4⟩;have Hb4:=Lib.hid (show Below wo.heap.size wo w4 from (Below.trans Bel.go (hb4.mono (by simp<;>omega))));obtain ⟨hcx,hfx⟩:=bcellS hb4;refine hK.out _ _ ?_ (fun _=>?_);(focus (((try dsimp only);repeat' apply And.intro)<;>(rw [hcx _ (by go_simp)];go_simp)));clear hHeld hK K hcx hfx;rename_i hHeld;clear hb4;(refine tk (i:=31) (v:=?_) rfl rfl (Or.inl ⟨by rfl,?_⟩) ?_;rotate_left;(focus (intro w hSw;(try dsimp only at hSw);go_simp;(try with_reducible rfl)));(simp only [put_lit,List.set]));refine wpAnyH_done (by kernel_rfl) ?_ _;clear hHeld;go_wp2;go_ret;exact ⟨by rw [HC.out];rfl,by first | exact HBW.out.trans (Hb4.out.mono HBW.out.size) | exact below_drewn (HBW.out.trans (Hb4.out.mono HBW.out.size)) _⟩));(focus (have kk:((k:Int) == 0)=false:=(by rw [beq_eq_false_iff_ne];omega);go_wp2_with fail;refine wp_region_held_drew (S:=fun w'=>w'.cell? ⟨bp,op,none⟩=some (.int .i64 y0)∧w'.cell? ⟨bp,op+1,none⟩=some (.int .i64 y1)∧w'.cell? ⟨bp,op+2,none⟩=some (.int .i64 y2)) (by kernel_rfl) (by (try dsimp only);go_keep) (fun hHeld=>?_);(refine tk (i:=0) (v:=?_) rfl rfl (Or.inl ⟨by rfl,?_⟩) ?_;rotate_left;(focus (intro w hSw;(try dsimp only at hSw);go_simp;(try with_reducible rfl)));(simp only [put_lit,List.set]));(refine tk (i:=1) (v:=?_) rfl rfl (Or.inl ⟨by rfl,?_⟩) ?_;rotate_left;(focus (intro w hSw;(try dsimp only at hSw);go_simp;(try with_reducible rfl)));(simp only [put_lit,List.set]));(refine tk (i:=2) (v:=?_) rfl rfl (Or.inl ⟨by rfl,?_⟩) ?_;rotate_left;(focus (intro w hSw;(try dsimp only at hSw);go_simp;(try with_reducible rfl)));(simp only [put_lit,List.set]));(refine tk (i:=3) (v:=?_) rfl rfl (Or.inl ⟨by rfl,?_⟩) ?_;rotate_left;(focus (intro w hSw;(try dsimp only at hSw);go_simp;(try with_reducible rfl)));(simp only [put_lit,List.set]));(refine tk (i:=4) (v:=?_) rfl rfl (Or.inl ⟨by rfl,?_⟩) ?_;rotate_left;(focus (intro w hSw;(try dsimp only at hSw);go_simp;(try with_reducible rfl)));(simp only [put_lit,List.set]));(refine tk (i:=5) (v:=?_) rfl rfl (Or.inl ⟨by rfl,?_⟩) ?_;rotate_left;(focus (intro w hSw;(try dsimp only at hSw);go_simp;(try with_reducible rfl)));(simp only [put_lit,List.set]));(refine tk (i:=6) (v:=?_) rfl rfl (Or.inl ⟨by rfl,?_⟩) ?_;rotate_left;(focus (intro w hSw;(try dsimp only at hSw);go_simp;(try with_reducible rfl)));(simp only [put_lit,List.set]));(refine tk (i:=7) (v:=?_) rfl rfl (Or.inl ⟨by rfl,?_⟩) ?_;rotate_left;(focus (intro w hSw;(try dsimp only at hSw);go_simp;(try with_reducible rfl)));(simp only [put_lit,List.set]));(refine tk (i:=8) (v:=?_) rfl rfl (Or.inl ⟨by rfl,?_⟩) ?_;rotate_left;(focus (intro w hSw;(try dsimp only at hSw);go_simp;(try with_reducible rfl)));(simp only [put_lit,List.set]));(refine tk (i:=9) (v:=?_) rfl rfl (Or.inl ⟨by rfl,?_⟩) ?_;rotate_left;(focus (intro w hSw;(try dsimp only at hSw);go_simp;(try with_reducible rfl)));(simp only [put_lit,List.set]));(refine tk (i:=10) (v:=?_) rfl rfl (Or.inl ⟨by rfl,?_⟩) ?_;rotate_left;(focus (intro w hSw;(try dsimp only at hSw);go_simp;(try with_reducible rfl)));(simp only [put_lit,List.set]));(refine tk (i:=11) (v:=?_) rfl rfl (Or.inl ⟨by rfl,?_⟩) ?_;rotate_left;(focus (intro w hSw;(try dsimp only at hSw);go_simp;(try with_reducible rfl)));(simp only [put_lit,List.set]));(refine tk (i:=12) (v:=?_) rfl rfl (Or.inl ⟨by rfl,?_⟩) ?_;rotate_left;(focus (intro w hSw;(try dsimp only at hSw);go_simp;(try with_reducible rfl)));(simp only [put_lit,List.set]));(refine tk (i:=13) (v:=?_) rfl rfl (Or.inl ⟨by rfl,?_⟩) ?_;rotate_left;(focus (intro w hSw;(try dsimp only at hSw);go_simp;(try with_reducible rfl)));(simp only [put_lit,List.set]));(refine tk (i:=14) (v:=?_) rfl rfl (Or.inl ⟨by rfl,?_⟩) ?_;rotate_left;(focus (intro w hSw;(try dsimp only at hSw);go_simp;(try with_reducible rfl)));(simp only [put_lit,List.set]));(refine tk (i:=15) (v:=?_) rfl rfl (Or.inl ⟨by rfl,?_⟩) ?_;rotate_left;(focus (intro w hSw;(try dsimp only at hSw);go_simp;(try with_reducible rfl)));(simp only [put_lit,List.set]));(refine tk (i:=16) (v:=?_) rfl rfl (Or.inl ⟨by rfl,?_⟩) ?_;rotate_left;(focus (intro w hSw;(try dsimp only at hSw);go_simp;(try with_reducible rfl)));(simp only [put_lit,List.set]));(refine tk (i:=17) (v:=?_) rfl rfl (Or.inl ⟨by rfl,?_⟩) ?_;rotate_left;(focus (intro w hSw;(try dsimp only at hSw);go_simp;(try with_reducible rfl)));(simp only [put_lit,List.set]));(refine tk (i:=18) (v:=?_) rfl rfl (Or.inl ⟨by rfl,?_⟩) ?_;rotate_left;(focus (intro w hSw;(try dsimp only at hSw);go_simp;(try with_reducible rfl)));(simp only [put_lit,List.set]));(refine tk (i:=19) (v:=?_) rfl rfl (Or.inl ⟨by rfl,?_⟩) ?_;rotate_left;(focus (intro w hSw;(try dsimp only at hSw);go_simp;(try with_reducible rfl)));(simp only [put_lit,List.set]));(refine tk (i:=20) (v:=?_) rfl rfl (Or.inl ⟨by rfl,?_⟩) ?_;rotate_left;(focus (intro w hSw;(try dsimp only at hSw);go_simp;(try with_reducible rfl)));(simp only [put_lit,List.set]));(refine tk (i:=21) (v:=?_) rfl rfl (Or.inl ⟨by rfl,?_⟩) ?_;rotate_left;(focus (intro w hSw;(try dsimp only at hSw);go_simp;(try with_reducible rfl)));(simp only [put_lit,List.set]));(refine tk (i:=22) (v:=?_) rfl rfl (Or.inl ⟨by rfl,?_⟩) ?_;rotate_left;(focus (intro w hSw;(try dsimp only at hSw);go_simp;(try with_reducible rfl)));(simp only [put_lit,List.set]));(refine tk (i:=23) (v:=?_) rfl rfl (Or.inl ⟨by rfl,?_⟩) ?_;rotate_left;(focus (intro w hSw;(try dsimp only at hSw);go_simp;(try with_reducible rfl)));(simp only [put_lit,List.set]));(refine tk (i:=24) (v:=?_) rfl rfl (Or.inl ⟨by rfl,?_⟩) ?_;rotate_left;(focus (intro w hSw;(try dsimp only at hSw);go_simp;(try with_reducible rfl)));(simp only [put_lit,List.set]));(refine tk (i:=25) (v:=?_) rfl rfl (Or.inl ⟨by rfl,?_⟩) ?_;rotate_left;(focus (intro w hSw;(try dsimp only at hSw);go_simp;(try with_reducible rfl)));(simp only [put_lit,List.set]));(refine tk (i:=26) (v:=?_) rfl rfl (Or.inl ⟨by rfl,?_⟩) ?_;rotate_left;(focus (intro w hSw;(try dsimp only at hSw);go_simp;(try with_reducible rfl)));(simp only [put_lit,List.set]));(refine tk (i:=27) (v:=?_) rfl rfl (Or.inl ⟨by rfl,?_⟩) ?_;rotate_left;(focus (intro w hSw;(try dsimp only at hSw);go_simp;(try with_reducible rfl)));(simp only [put_lit,List.set]));(refine tk (i:=28) (v:=?_) rfl rfl (Or.inl ⟨by rfl,?_⟩) ?_;rotate_left;(focus (intro w hSw;(try dsimp only at hSw);go_simp;(try with_reducible rfl)));(simp only [put_lit,List.set]));(refine wpAnyH_ready (rs:=[29]) (by kernel_rfl) (by simp) ?_;refine AllReadyH.cons rfl (fun K hK=>?_) AllReadyH.nil;go_simp);refine (value15_zero 0 D _ hA).mono ?_;rintro e w4 ⟨rfl,hb4⟩;have Hb4:=Lib.hid (show Below wo.heap.size wo w4 from (Below.trans Bel.go (hb4.mono (by simp<;>omega))));obtain ⟨hcx,hfx⟩:=bcellS hb4;refine hK.out _ _ ?_ (fun _=>?_);(focus (((try dsimp only);repeat' apply And.intro)<;>(rw [hcx _ (by go_simp)];go_simp)));clear hHeld hK K hcx hfx;rename_i hHeld;clear hb4;(refine tk (i:=30) (v:=?_) rfl rfl (Or.inl ⟨by rfl,?_⟩) ?_;rotate_left;(focus (intro w hSw;(try dsimp only at hSw);go_simp;(try with_reducible rfl)));(simp only [put_lit,List.set]));refine wpAnyH_done (by kernel_rfl) ?_ _;clear hHeld;go_wp2;go_ret;exact ⟨by rw [HC.out];rfl,by first | exact HBW.out.trans (Hb4.out.mono HBW.out.size) | exact below_drewn (HBW.out.trans (Hb4.out.mono HBW.out.size)) _⟩))
    ·obtain ⟨b1,o1,rfl,hb1,hc1⟩:=Hr.out.at_ (by omega)
     have e0:=hc1 0 (by omega)
     rw [Nat.add_zero] at e0
     have hVb:(r.getD 0 0).natAbs≤76527504:=Hbd.out 0
     have r1:r.getD 1 0=0:=getD_out r (by rw [Hrl.out];exact Nat.le_refl _)
     rw [r1] at HC
     obtain ⟨V,hV⟩:∃ V,V=r.getD 0 0:=⟨_,rfl⟩
     rw [← hV] at e0 HC hVb
     obtain ⟨z1,hz1⟩:∃ x,x=2*y2:=⟨_,rfl⟩
     obtain ⟨z2,hz2⟩:∃ x,x=z1*V:=⟨_,rfl⟩
     have b2:z2.natAbs≤18*76527504:=by rw [hz2,Int.natAbs_mul];exact Nat.mul_le_mul (by omega) hVb
     have hA:(z2*z2).natAbs≤2305843009213693952:=by rw [Int.natAbs_mul];exact Nat.le_trans (Nat.mul_le_mul b2 b2) (by decide)
     have t1:IntKind.i64.wrap z1=z1:=IntWalk.i64_in _ (by omega)
     have t2:IntKind.i64.wrap z2=z2:=IntWalk.i64_in _ (by omega)
     have g1':2*y2=z1:=hz1.symm
     have g2:z1*V=z2:=hz2.symm
     have hC2:C=valv z2 0 D:=by
      rw [HC.out,g1',g2,Int.zero_mul,Int.neg_zero,ite_self,Int.sub_zero]
     replace HC:=Lib.hid hC2
     have w0:IntKind.i64.wrap 0=0:=IntWalk.i64_in _ (by omega)
     clear hV hc1 r1 hz1 hz2 b2 hVb hC2
     (by_cases hk0:k=0);(focus (subst hk0;go_wp2_with fail;refine wp_region_held_drew (S:=fun w'=>w'.cell? ⟨bp,op,none⟩=some (.int .i64 y0)∧w'.cell? ⟨bp,op+1,none⟩=some (.int .i64 y1)∧w'.cell? ⟨bp,op+2,none⟩=some (.int .i64 y2)) (by kernel_rfl) (by (try dsimp only);go_keep) (fun hHeld=>?_);(refine tk (i:=0) (v:=?_) rfl rfl (Or.inl ⟨by rfl,?_⟩) ?_;rotate_left;(focus (intro w hSw;(try dsimp only at hSw);go_simp;(try with_reducible rfl)));(simp only [put_lit,List.set]));(refine tk (i:=1) (v:=?_) rfl rfl (Or.inl ⟨by rfl,?_⟩) ?_;rotate_left;(focus (intro w hSw;(try dsimp only at hSw);go_simp;(try with_reducible rfl)));(simp only [put_lit,List.set]));(refine tk (i:=2) (v:=?_) rfl rfl (Or.inl ⟨by rfl,?_⟩) ?_;rotate_left;(focus (intro w hSw;(try dsimp only at hSw);go_simp;(try with_reducible rfl)));(simp only [put_lit,List.set]));(refine tk (i:=3) (v:=?_) rfl rfl (Or.inl ⟨by rfl,?_⟩) ?_;rotate_left;(focus (intro w hSw;(try dsimp only at hSw);go_simp;(try with_reducible rfl)));(simp only [put_lit,List.set]));(refine tk (i:=4) (v:=?_) rfl rfl (Or.inl ⟨by rfl,?_⟩) ?_;rotate_left;(focus (intro w hSw;(try dsimp only at hSw);go_simp;(try with_reducible rfl)));(simp only [put_lit,List.set]));(refine tk (i:=5) (v:=?_) rfl rfl (Or.inl ⟨by rfl,?_⟩) ?_;rotate_left;(focus (intro w hSw;(try dsimp only at hSw);go_simp;(try with_reducible rfl)));(simp only [put_lit,List.set]));(refine tk (i:=6) (v:=?_) rfl rfl (Or.inl ⟨by rfl,?_⟩) ?_;rotate_left;(focus (intro w hSw;(try dsimp only at hSw);go_simp;(try with_reducible rfl)));(simp only [put_lit,List.set]));(refine tk (i:=7) (v:=?_) rfl rfl (Or.inl ⟨by rfl,?_⟩) ?_;rotate_left;(focus (intro w hSw;(try dsimp only at hSw);go_simp;(try with_reducible rfl)));(simp only [put_lit,List.set]));(refine tk (i:=8) (v:=?_) rfl rfl (Or.inl ⟨by rfl,?_⟩) ?_;rotate_left;(focus (intro w hSw;(try dsimp only at hSw);go_simp;(try with_reducible rfl)));(simp only [put_lit,List.set]));(refine tk (i:=9) (v:=?_) rfl rfl (Or.inl ⟨by rfl,?_⟩) ?_;rotate_left;(focus (intro w hSw;(try dsimp only at hSw);go_simp;(try with_reducible rfl)));(simp only [put_lit,List.set]));(refine tk (i:=10) (v:=?_) rfl rfl (Or.inl ⟨by rfl,?_⟩) ?_;rotate_left;(focus (intro w hSw;(try dsimp only at hSw);go_simp;(try with_reducible rfl)));(simp only [put_lit,List.set]));(refine tk (i:=11) (v:=?_) rfl rfl (Or.inl ⟨by rfl,?_⟩) ?_;rotate_left;(focus (intro w hSw;(try dsimp only at hSw);go_simp;(try with_reducible rfl)));(simp only [put_lit,List.set]));(refine tk (i:=12) (v:=?_) rfl rfl (Or.inl ⟨by rfl,?_⟩) ?_;rotate_left;(focus (intro w hSw;(try dsimp only at hSw);go_simp;(try with_reducible rfl)));(simp only [put_lit,List.set]));(refine tk (i:=13) (v:=?_) rfl rfl (Or.inl ⟨by rfl,?_⟩) ?_;rotate_left;(focus (intro w hSw;(try dsimp only at hSw);go_simp;(try with_reducible rfl)));(simp only [put_lit,List.set]));(refine tk (i:=14) (v:=?_) rfl rfl (Or.inl ⟨by rfl,?_⟩) ?_;rotate_left;(focus (intro w hSw;(try dsimp only at hSw);go_simp;(try with_reducible rfl)));(simp only [put_lit,List.set]));(refine tk (i:=15) (v:=?_) rfl rfl (Or.inl ⟨by rfl,?_⟩) ?_;rotate_left;(focus (intro w hSw;(try dsimp only at hSw);go_simp;(try with_reducible rfl)));(simp only [put_lit,List.set]));(refine tk (i:=16) (v:=?_) rfl rfl (Or.inl ⟨by rfl,?_⟩) ?_;rotate_left;(focus (intro w hSw;(try dsimp only at hSw);go_simp;(try with_reducible rfl)));(simp only [put_lit,List.set]));(refine tk (i:=17) (v:=?_) rfl rfl (Or.inl ⟨by rfl,?_⟩) ?_;rotate_left;(focus (intro w hSw;(try dsimp only at hSw);go_simp;(try with_reducible rfl)));(simp only [put_lit,List.set]));(refine tk (i:=18) (v:=?_) rfl rfl (Or.inl ⟨by rfl,?_⟩) ?_;rotate_left;(focus (intro w hSw;(try dsimp only at hSw);go_simp;(try with_reducible rfl)));(simp only [put_lit,List.set]));(refine tk (i:=19) (v:=?_) rfl rfl (Or.inl ⟨by rfl,?_⟩) ?_;rotate_left;(focus (intro w hSw;(try dsimp only at hSw);go_simp;(try with_reducible rfl)));(simp only [put_lit,List.set]));(refine tk (i:=20) (v:=?_) rfl rfl (Or.inl ⟨by rfl,?_⟩) ?_;rotate_left;(focus (intro w hSw;(try dsimp only at hSw);go_simp;(try with_reducible rfl)));(simp only [put_lit,List.set]));(refine tk (i:=21) (v:=?_) rfl rfl (Or.inl ⟨by rfl,?_⟩) ?_;rotate_left;(focus (intro w hSw;(try dsimp only at hSw);go_simp;(try with_reducible rfl)));(simp only [put_lit,List.set]));(refine tk (i:=22) (v:=?_) rfl rfl (Or.inl ⟨by rfl,?_⟩) ?_;rotate_left;(focus (intro w hSw;(try dsimp only at hSw);go_simp;(try with_reducible rfl)));(simp only [put_lit,List.set]));(refine tk (i:=23) (v:=?_) rfl rfl (Or.inl ⟨by rfl,?_⟩) ?_;rotate_left;(focus (intro w hSw;(try dsimp only at hSw);go_simp;(try with_reducible rfl)));(simp only [put_lit,List.set]));(refine tk (i:=24) (v:=?_) rfl rfl (Or.inl ⟨by rfl,?_⟩) ?_;rotate_left;(focus (intro w hSw;(try dsimp only at hSw);go_simp;(try with_reducible rfl)));(simp only [put_lit,List.set]));(refine tk (i:=25) (v:=?_) rfl rfl (Or.inl ⟨by rfl,?_⟩) ?_;rotate_left;(focus (intro w hSw;(try dsimp only at hSw);go_simp;(try with_reducible rfl)));(simp only [put_lit,List.set]));(refine tk (i:=26) (v:=?_) rfl rfl (Or.inl ⟨by rfl,?_⟩) ?_;rotate_left;(focus (intro w hSw;(try dsimp only at hSw);go_simp;(try with_reducible rfl)));(simp only [put_lit,List.set]));(refine tk (i:=27) (v:=?_) rfl rfl (Or.inl ⟨by rfl,?_⟩) ?_;rotate_left;(focus (intro w hSw;(try dsimp only at hSw);go_simp;(try with_reducible rfl)));(simp only [put_lit,List.set]));(refine tk (i:=28) (v:=?_) rfl rfl (Or.inl ⟨by rfl,?_⟩) ?_;rotate_left;(focus (intro w hSw;(try dsimp only at hSw);go_simp;(try with_reducible rfl)));(simp only [put_lit,List.set]));(refine tk (i:=29) (v:=?_) rfl rfl (Or.inl ⟨by rfl,?_⟩) ?_;rotate_left;(focus (intro w hSw;(try dsimp only at hSw);go_simp;(try with_reducible rfl)));(simp only [put_lit,List.set]));(refine wpAnyH_ready (rs:=[30]) (by kernel_rfl) (by simp) ?_;refine AllReadyH.cons rfl (fun K hK=>?_) AllReadyH.nil;go_simp);refine (value15_zero z2 D _ hA).mono ?_;rintro e w4 ⟨rfl,hb4⟩;have Hb4:=Lib.hid (show Below wo.heap.size wo w4 from (Below.trans Bel.go (hb4.mono (by simp<;>omega))));obtain ⟨hcx,hfx⟩:=bcellS hb4;refine hK.out _ _ ?_ (fun _=>?_);(focus (((try dsimp only);repeat' apply And.intro)<;>(rw [hcx _ (by go_simp)];go_simp)));clear hHeld hK K hcx hfx;rename_i hHeld;clear hb4;(refine tk (i:=31) (v:=?_) rfl rfl (Or.inl ⟨by rfl,?_⟩) ?_;rotate_left;(focus (intro w hSw;(try dsimp only at hSw);go_simp;(try with_reducible rfl)));(simp only [put_lit,List.set]));refine wpAnyH_done (by kernel_rfl) ?_ _;clear hHeld;go_wp2;go_ret;exact ⟨by rw [HC.out];rfl,by first | exact HBW.out.trans (Hb4.out.mono HBW.out.size) | exact below_drewn (HBW.out.trans (Hb4.out.mono HBW.out.size)) _⟩));(focus (have kk:((k:Int) == 0)=false:=(by rw [beq_eq_false_iff_ne];omega);go_wp2_with fail;refine wp_region_held_drew (S:=fun w'=>w'.cell? ⟨bp,op,none⟩=some (.int .i64 y0)∧w'.cell? ⟨bp,op+1,none⟩=some (.int .i64 y1)∧w'.cell? ⟨bp,op+2,none⟩=some (.int .i64 y2)) (by kernel_rfl) (by (try dsimp only);go_keep) (fun hHeld=>?_);(refine tk (i:=0) (v:=?_) rfl rfl (Or.inl ⟨by rfl,?_⟩) ?_;rotate_left;(focus (intro w hSw;(try dsimp only at hSw);go_simp;(try with_reducible rfl)));(simp only [put_lit,List.set]));(refine tk (i:=1) (v:=?_) rfl rfl (Or.inl ⟨by rfl,?_⟩) ?_;rotate_left;(focus (intro w hSw;(try dsimp only at hSw);go_simp;(try with_reducible rfl)));(simp only [put_lit,List.set]));(refine tk (i:=2) (v:=?_) rfl rfl (Or.inl ⟨by rfl,?_⟩) ?_;rotate_left;(focus (intro w hSw;(try dsimp only at hSw);go_simp;(try with_reducible rfl)));(simp only [put_lit,List.set]));(refine tk (i:=3) (v:=?_) rfl rfl (Or.inl ⟨by rfl,?_⟩) ?_;rotate_left;(focus (intro w hSw;(try dsimp only at hSw);go_simp;(try with_reducible rfl)));(simp only [put_lit,List.set]));(refine tk (i:=4) (v:=?_) rfl rfl (Or.inl ⟨by rfl,?_⟩) ?_;rotate_left;(focus (intro w hSw;(try dsimp only at hSw);go_simp;(try with_reducible rfl)));(simp only [put_lit,List.set]));(refine tk (i:=5) (v:=?_) rfl rfl (Or.inl ⟨by rfl,?_⟩) ?_;rotate_left;(focus (intro w hSw;(try dsimp only at hSw);go_simp;(try with_reducible rfl)));(simp only [put_lit,List.set]));(refine tk (i:=6) (v:=?_) rfl rfl (Or.inl ⟨by rfl,?_⟩) ?_;rotate_left;(focus (intro w hSw;(try dsimp only at hSw);go_simp;(try with_reducible rfl)));(simp only [put_lit,List.set]));(refine tk (i:=7) (v:=?_) rfl rfl (Or.inl ⟨by rfl,?_⟩) ?_;rotate_left;(focus (intro w hSw;(try dsimp only at hSw);go_simp;(try with_reducible rfl)));(simp only [put_lit,List.set]));(refine tk (i:=8) (v:=?_) rfl rfl (Or.inl ⟨by rfl,?_⟩) ?_;rotate_left;(focus (intro w hSw;(try dsimp only at hSw);go_simp;(try with_reducible rfl)));(simp only [put_lit,List.set]));(refine tk (i:=9) (v:=?_) rfl rfl (Or.inl ⟨by rfl,?_⟩) ?_;rotate_left;(focus (intro w hSw;(try dsimp only at hSw);go_simp;(try with_reducible rfl)));(simp only [put_lit,List.set]));(refine tk (i:=10) (v:=?_) rfl rfl (Or.inl ⟨by rfl,?_⟩) ?_;rotate_left;(focus (intro w hSw;(try dsimp only at hSw);go_simp;(try with_reducible rfl)));(simp only [put_lit,List.set]));(refine tk (i:=11) (v:=?_) rfl rfl (Or.inl ⟨by rfl,?_⟩) ?_;rotate_left;(focus (intro w hSw;(try dsimp only at hSw);go_simp;(try with_reducible rfl)));(simp only [put_lit,List.set]));(refine tk (i:=12) (v:=?_) rfl rfl (Or.inl ⟨by rfl,?_⟩) ?_;rotate_left;(focus (intro w hSw;(try dsimp only at hSw);go_simp;(try with_reducible rfl)));(simp only [put_lit,List.set]));(refine tk (i:=13) (v:=?_) rfl rfl (Or.inl ⟨by rfl,?_⟩) ?_;rotate_left;(focus (intro w hSw;(try dsimp only at hSw);go_simp;(try with_reducible rfl)));(simp only [put_lit,List.set]));(refine tk (i:=14) (v:=?_) rfl rfl (Or.inl ⟨by rfl,?_⟩) ?_;rotate_left;(focus (intro w hSw;(try dsimp only at hSw);go_simp;(try with_reducible rfl)));(simp only [put_lit,List.set]));(refine tk (i:=15) (v:=?_) rfl rfl (Or.inl ⟨by rfl,?_⟩) ?_;rotate_left;(focus (intro w hSw;(try dsimp only at hSw);go_simp;(try with_reducible rfl)));(simp only [put_lit,List.set]));(refine tk (i:=16) (v:=?_) rfl rfl (Or.inl ⟨by rfl,?_⟩) ?_;rotate_left;(focus (intro w hSw;(try dsimp only at hSw);go_simp;(try with_reducible rfl)));(simp only [put_lit,List.set]));(refine tk (i:=17) (v:=?_) rfl rfl (Or.inl ⟨by rfl,?_⟩) ?_;rotate_left;(focus (intro w hSw;(try dsimp only at hSw);go_simp;(try with_reducible rfl)));(simp only [put_lit,List.set]));(refine tk (i:=18) (v:=?_) rfl rfl (Or.inl ⟨by rfl,?_⟩) ?_;rotate_left;(focus (intro w hSw;(try dsimp only at hSw);go_simp;(try with_reducible rfl)));(simp only [put_lit,List.set]));(refine tk (i:=19) (v:=?_) rfl rfl (Or.inl ⟨by rfl,?_⟩) ?_;rotate_left;(focus (intro w hSw;(try dsimp only at hSw);go_simp;(try with_reducible rfl)));(simp only [put_lit,List.set]));(refine tk (i:=20) (v:=?_) rfl rfl (Or.inl ⟨by rfl,?_⟩) ?_;rotate_left;(focus (intro w hSw;(try dsimp only at hSw);go_simp;(try with_reducible rfl)));(simp only [put_lit,List.set]));(refine tk (i:=21) (v:=?_) rfl rfl (Or.inl ⟨by rfl,?_⟩) ?_;rotate_left;(focus (intro w hSw;(try dsimp only at hSw);go_simp;(try with_reducible rfl)));(simp only [put_lit,List.set]));(refine tk (i:=22) (v:=?_) rfl rfl (Or.inl ⟨by rfl,?_⟩) ?_;rotate_left;(focus (intro w hSw;(try dsimp only at hSw);go_simp;(try with_reducible rfl)));(simp only [put_lit,List.set]));(refine tk (i:=23) (v:=?_) rfl rfl (Or.inl ⟨by rfl,?_⟩) ?_;rotate_left;(focus (intro w hSw;(try dsimp only at hSw);go_simp;(try with_reducible rfl)));(simp only [put_lit,List.set]));(refine tk (i:=24) (v:=?_) rfl rfl (Or.inl ⟨by rfl,?_⟩) ?_;rotate_left;(focus (intro w hSw;(try dsimp only at hSw);go_simp;(try with_reducible rfl)));(simp only [put_lit,List.set]));(refine tk (i:=25) (v:=?_) rfl rfl (Or.inl ⟨by rfl,?_⟩) ?_;rotate_left;(focus (intro w hSw;(try dsimp only at hSw);go_simp;(try with_reducible rfl)));(simp only [put_lit,List.set]));(refine tk (i:=26) (v:=?_) rfl rfl (Or.inl ⟨by rfl,?_⟩) ?_;rotate_left;(focus (intro w hSw;(try dsimp only at hSw);go_simp;(try with_reducible rfl)));(simp only [put_lit,List.set]));(refine tk (i:=27) (v:=?_) rfl rfl (Or.inl ⟨by rfl,?_⟩) ?_;rotate_left;(focus (intro w hSw;(try dsimp only at hSw);go_simp;(try with_reducible rfl)));(simp only [put_lit,List.set]));(refine tk (i:=28) (v:=?_) rfl rfl (Or.inl ⟨by rfl,?_⟩) ?_;rotate_left;(focus (intro w hSw;(try dsimp only at hSw);go_simp;(try with_reducible rfl)));(simp only [put_lit,List.set]));(refine wpAnyH_ready (rs:=[29]) (by kernel_rfl) (by simp) ?_;refine AllReadyH.cons rfl (fun K hK=>?_) AllReadyH.nil;go_simp);refine (value15_zero z2 D _ hA).mono ?_;rintro e w4 ⟨rfl,hb4⟩;have Hb4:=Lib.hid (show Below wo.heap.size wo w4 from (Below.trans Bel.go (hb4.mono (by simp<;>omega))));obtain ⟨hcx,hfx⟩:=bcellS hb4;refine hK.out _ _ ?_ (fun _=>?_);(focus (((try dsimp only);repeat' apply And.intro)<;>(rw [hcx _ (by go_simp)];go_simp)));clear hHeld hK K hcx hfx;rename_i hHeld;clear hb4;(refine tk (i:=30) (v:=?_) rfl rfl (Or.inl ⟨by rfl,?_⟩) ?_;rotate_left;(focus (intro w hSw;(try dsimp only at hSw);go_simp;(try with_reducible rfl)));(simp only [put_lit,List.set]));refine wpAnyH_done (by kernel_rfl) ?_ _;clear hHeld;go_wp2;go_ret;exact ⟨by rw [HC.out];rfl,by first | exact HBW.out.trans (Hb4.out.mono HBW.out.size) | exact below_drewn (HBW.out.trans (Hb4.out.mono HBW.out.size)) _⟩))
    ·obtain ⟨b1,o1,rfl,hb1,hc1⟩:=Hr.out.at_ (by omega)
     have e0:=hc1 0 (by omega)
     have e1:=hc1 1 (by omega)
     rw [Nat.add_zero] at e0
     have hVb:(r.getD 0 0).natAbs≤4251528:=Hbd.out 0
     have hUb:(r.getD 1 0).natAbs≤4251528:=Hbd.out 1
     obtain ⟨V,hV⟩:∃ V,V=r.getD 0 0:=⟨_,rfl⟩
     obtain ⟨U,hU⟩:∃ U,U=r.getD 1 0:=⟨_,rfl⟩
     rw [← hV] at e0 HC hVb
     rw [← hU] at e1 HC hUb
     clear hV hU hc1
     obtain ⟨z1,hz1⟩:∃ x,x=2*y2:=⟨_,rfl⟩;obtain ⟨z2,hz2⟩:∃ x,x=z1*V:=⟨_,rfl⟩;obtain ⟨z3,hz3⟩:∃ x,x=U*y1:=⟨_,rfl⟩;obtain ⟨z7,hz7⟩:∃ x,x=z2-z3:=⟨_,rfl⟩;have b2:z2.natAbs≤18*4251528:=(by rw [hz2,Int.natAbs_mul];exact Nat.mul_le_mul (by omega) hVb);have b3:z3.natAbs≤4251528*9:=(by rw [hz3,Int.natAbs_mul];exact Nat.mul_le_mul hUb v1);have b7:z7.natAbs≤18*4251528+38263752:=(by omega);have hA:(z7*z7).natAbs≤2305843009213693952:=(by rw [Int.natAbs_mul];exact Nat.le_trans (Nat.mul_le_mul b7 b7) (by decide));have hB0:(U*U).natAbs≤4251528*4251528:=(by rw [Int.natAbs_mul];exact Nat.mul_le_mul hUb hUb);have hB:(U*U).natAbs≤2305843009213693952:=(by omega);have hN:(U*U*D).natAbs≤2305843009213693952:=(by rw [Int.natAbs_mul];exact Nat.le_trans (Nat.mul_le_mul hB0 hDb) (by decide));have t1:IntKind.i64.wrap z1=z1:=IntWalk.i64_in _ (by omega);have t2:IntKind.i64.wrap z2=z2:=IntWalk.i64_in _ (by omega);have t3:IntKind.i64.wrap z3=z3:=IntWalk.i64_in _ (by omega);have t7:IntKind.i64.wrap (z2-z3)=z2-z3:=IntWalk.i64_in _ (by omega);have tU:IntKind.i64.wrap (-U)=-U:=IntWalk.i64_in _ (by omega);have g1:2*y2=z1:=hz1.symm;have g2:z1*V=z2:=hz2.symm;have g3:U*y1=z3:=hz3.symm;have g7:z2-z3=z7:=hz7.symm;rw [g1,g2,g3,g7] at HC;have t7':IntKind.i64.wrap z7=z7:=IntWalk.i64_in _ (by omega);clear t7 hz1 hz2 hz3 hz7 hUb hVb hB0
     (by_cases hk0:k=0);(focus (subst hk0;rw [if_pos rfl] at HC;go_wp2_with fail;refine wp_region_held_drew (S:=fun w'=>w'.cell? ⟨bp,op,none⟩=some (.int .i64 y0)∧w'.cell? ⟨bp,op+1,none⟩=some (.int .i64 y1)∧w'.cell? ⟨bp,op+2,none⟩=some (.int .i64 y2)) (by kernel_rfl) (by (try dsimp only);go_keep) (fun hHeld=>?_);(refine tk (i:=0) (v:=?_) rfl rfl (Or.inl ⟨by rfl,?_⟩) ?_;rotate_left;(focus (intro w hSw;(try dsimp only at hSw);go_simp;(try with_reducible rfl)));(simp only [put_lit,List.set]));(refine tk (i:=1) (v:=?_) rfl rfl (Or.inl ⟨by rfl,?_⟩) ?_;rotate_left;(focus (intro w hSw;(try dsimp only at hSw);go_simp;(try with_reducible rfl)));(simp only [put_lit,List.set]));(refine tk (i:=2) (v:=?_) rfl rfl (Or.inl ⟨by rfl,?_⟩) ?_;rotate_left;(focus (intro w hSw;(try dsimp only at hSw);go_simp;(try with_reducible rfl)));(simp only [put_lit,List.set]));(refine tk (i:=3) (v:=?_) rfl rfl (Or.inl ⟨by rfl,?_⟩) ?_;rotate_left;(focus (intro w hSw;(try dsimp only at hSw);go_simp;(try with_reducible rfl)));(simp only [put_lit,List.set]));(refine tk (i:=4) (v:=?_) rfl rfl (Or.inl ⟨by rfl,?_⟩) ?_;rotate_left;(focus (intro w hSw;(try dsimp only at hSw);go_simp;(try with_reducible rfl)));(simp only [put_lit,List.set]));(refine tk (i:=5) (v:=?_) rfl rfl (Or.inl ⟨by rfl,?_⟩) ?_;rotate_left;(focus (intro w hSw;(try dsimp only at hSw);go_simp;(try with_reducible rfl)));(simp only [put_lit,List.set]));(refine tk (i:=6) (v:=?_) rfl rfl (Or.inl ⟨by rfl,?_⟩) ?_;rotate_left;(focus (intro w hSw;(try dsimp only at hSw);go_simp;(try with_reducible rfl)));(simp only [put_lit,List.set]));(refine tk (i:=7) (v:=?_) rfl rfl (Or.inl ⟨by rfl,?_⟩) ?_;rotate_left;(focus (intro w hSw;(try dsimp only at hSw);go_simp;(try with_reducible rfl)));(simp only [put_lit,List.set]));(refine tk (i:=8) (v:=?_) rfl rfl (Or.inl ⟨by rfl,?_⟩) ?_;rotate_left;(focus (intro w hSw;(try dsimp only at hSw);go_simp;(try with_reducible rfl)));(simp only [put_lit,List.set]));(refine tk (i:=9) (v:=?_) rfl rfl (Or.inl ⟨by rfl,?_⟩) ?_;rotate_left;(focus (intro w hSw;(try dsimp only at hSw);go_simp;(try with_reducible rfl)));(simp only [put_lit,List.set]));(refine tk (i:=10) (v:=?_) rfl rfl (Or.inl ⟨by rfl,?_⟩) ?_;rotate_left;(focus (intro w hSw;(try dsimp only at hSw);go_simp;(try with_reducible rfl)));(simp only [put_lit,List.set]));(refine tk (i:=11) (v:=?_) rfl rfl (Or.inl ⟨by rfl,?_⟩) ?_;rotate_left;(focus (intro w hSw;(try dsimp only at hSw);go_simp;(try with_reducible rfl)));(simp only [put_lit,List.set]));(refine tk (i:=12) (v:=?_) rfl rfl (Or.inl ⟨by rfl,?_⟩) ?_;rotate_left;(focus (intro w hSw;(try dsimp only at hSw);go_simp;(try with_reducible rfl)));(simp only [put_lit,List.set]));(refine tk (i:=13) (v:=?_) rfl rfl (Or.inl ⟨by rfl,?_⟩) ?_;rotate_left;(focus (intro w hSw;(try dsimp only at hSw);go_simp;(try with_reducible rfl)));(simp only [put_lit,List.set]));(refine tk (i:=14) (v:=?_) rfl rfl (Or.inl ⟨by rfl,?_⟩) ?_;rotate_left;(focus (intro w hSw;(try dsimp only at hSw);go_simp;(try with_reducible rfl)));(simp only [put_lit,List.set]));(refine tk (i:=15) (v:=?_) rfl rfl (Or.inl ⟨by rfl,?_⟩) ?_;rotate_left;(focus (intro w hSw;(try dsimp only at hSw);go_simp;(try with_reducible rfl)));(simp only [put_lit,List.set]));(refine tk (i:=16) (v:=?_) rfl rfl (Or.inl ⟨by rfl,?_⟩) ?_;rotate_left;(focus (intro w hSw;(try dsimp only at hSw);go_simp;(try with_reducible rfl)));(simp only [put_lit,List.set]));(refine tk (i:=17) (v:=?_) rfl rfl (Or.inl ⟨by rfl,?_⟩) ?_;rotate_left;(focus (intro w hSw;(try dsimp only at hSw);go_simp;(try with_reducible rfl)));(simp only [put_lit,List.set]));(refine tk (i:=18) (v:=?_) rfl rfl (Or.inl ⟨by rfl,?_⟩) ?_;rotate_left;(focus (intro w hSw;(try dsimp only at hSw);go_simp;(try with_reducible rfl)));(simp only [put_lit,List.set]));(refine tk (i:=19) (v:=?_) rfl rfl (Or.inl ⟨by rfl,?_⟩) ?_;rotate_left;(focus (intro w hSw;(try dsimp only at hSw);go_simp;(try with_reducible rfl)));(simp only [put_lit,List.set]));(refine tk (i:=20) (v:=?_) rfl rfl (Or.inl ⟨by rfl,?_⟩) ?_;rotate_left;(focus (intro w hSw;(try dsimp only at hSw);go_simp;(try with_reducible rfl)));(simp only [put_lit,List.set]));(refine tk (i:=21) (v:=?_) rfl rfl (Or.inl ⟨by rfl,?_⟩) ?_;rotate_left;(focus (intro w hSw;(try dsimp only at hSw);go_simp;(try with_reducible rfl)));(simp only [put_lit,List.set]));(refine tk (i:=22) (v:=?_) rfl rfl (Or.inl ⟨by rfl,?_⟩) ?_;rotate_left;(focus (intro w hSw;(try dsimp only at hSw);go_simp;(try with_reducible rfl)));(simp only [put_lit,List.set]));(refine tk (i:=23) (v:=?_) rfl rfl (Or.inl ⟨by rfl,?_⟩) ?_;rotate_left;(focus (intro w hSw;(try dsimp only at hSw);go_simp;(try with_reducible rfl)));(simp only [put_lit,List.set]));(refine tk (i:=24) (v:=?_) rfl rfl (Or.inl ⟨by rfl,?_⟩) ?_;rotate_left;(focus (intro w hSw;(try dsimp only at hSw);go_simp;(try with_reducible rfl)));(simp only [put_lit,List.set]));(refine tk (i:=25) (v:=?_) rfl rfl (Or.inl ⟨by rfl,?_⟩) ?_;rotate_left;(focus (intro w hSw;(try dsimp only at hSw);go_simp;(try with_reducible rfl)));(simp only [put_lit,List.set]));(refine tk (i:=26) (v:=?_) rfl rfl (Or.inl ⟨by rfl,?_⟩) ?_;rotate_left;(focus (intro w hSw;(try dsimp only at hSw);go_simp;(try with_reducible rfl)));(simp only [put_lit,List.set]));(refine tk (i:=27) (v:=?_) rfl rfl (Or.inl ⟨by rfl,?_⟩) ?_;rotate_left;(focus (intro w hSw;(try dsimp only at hSw);go_simp;(try with_reducible rfl)));(simp only [put_lit,List.set]));(refine tk (i:=28) (v:=?_) rfl rfl (Or.inl ⟨by rfl,?_⟩) ?_;rotate_left;(focus (intro w hSw;(try dsimp only at hSw);go_simp;(try with_reducible rfl)));(simp only [put_lit,List.set]));(refine tk (i:=29) (v:=?_) rfl rfl (Or.inl ⟨by rfl,?_⟩) ?_;rotate_left;(focus (intro w hSw;(try dsimp only at hSw);go_simp;(try with_reducible rfl)));(simp only [put_lit,List.set]));(refine wpAnyH_ready (rs:=[30]) (by kernel_rfl) (by simp) ?_;refine AllReadyH.cons rfl (fun K hK=>?_) AllReadyH.nil;go_simp);refine (value15_any z7 (-U) D _ hA (by rw [Int.neg_mul_neg];exact hB) (by rw [Int.neg_mul_neg];exact hN)).mono ?_;rintro e w4 ⟨rfl,hb4⟩;have Hb4:=Lib.hid (show Below wo.heap.size wo w4 from (Below.trans Bel.go (hb4.mono (by simp<;>omega))));obtain ⟨hcx,hfx⟩:=bcellS hb4;refine hK.out _ _ ?_ (fun _=>?_);(focus (((try dsimp only);repeat' apply And.intro)<;>(rw [hcx _ (by go_simp)];go_simp)));clear hHeld hK K hcx hfx;rename_i hHeld;clear hb4;(refine tk (i:=31) (v:=?_) rfl rfl (Or.inl ⟨by rfl,?_⟩) ?_;rotate_left;(focus (intro w hSw;(try dsimp only at hSw);go_simp;(try with_reducible rfl)));(simp only [put_lit,List.set]));refine wpAnyH_done (by kernel_rfl) ?_ _;clear hHeld;go_wp2;go_ret;exact ⟨by rw [HC.out];rfl,by first | exact HBW.out.trans (Hb4.out.mono HBW.out.size) | exact below_drewn (HBW.out.trans (Hb4.out.mono HBW.out.size)) _⟩));(focus (rw [if_neg hk0] at HC;have kk:((k:Int) == 0)=false:=(by rw [beq_eq_false_iff_ne];omega);go_wp2_with fail;refine wp_region_held_drew (S:=fun w'=>w'.cell? ⟨bp,op,none⟩=some (.int .i64 y0)∧w'.cell? ⟨bp,op+1,none⟩=some (.int .i64 y1)∧w'.cell? ⟨bp,op+2,none⟩=some (.int .i64 y2)) (by kernel_rfl) (by (try dsimp only);go_keep) (fun hHeld=>?_);(refine tk (i:=0) (v:=?_) rfl rfl (Or.inl ⟨by rfl,?_⟩) ?_;rotate_left;(focus (intro w hSw;(try dsimp only at hSw);go_simp;(try with_reducible rfl)));(simp only [put_lit,List.set]));(refine tk (i:=1) (v:=?_) rfl rfl (Or.inl ⟨by rfl,?_⟩) ?_;rotate_left;(focus (intro w hSw;(try dsimp only at hSw);go_simp;(try with_reducible rfl)));(simp only [put_lit,List.set]));(refine tk (i:=2) (v:=?_) rfl rfl (Or.inl ⟨by rfl,?_⟩) ?_;rotate_left;(focus (intro w hSw;(try dsimp only at hSw);go_simp;(try with_reducible rfl)));(simp only [put_lit,List.set]));(refine tk (i:=3) (v:=?_) rfl rfl (Or.inl ⟨by rfl,?_⟩) ?_;rotate_left;(focus (intro w hSw;(try dsimp only at hSw);go_simp;(try with_reducible rfl)));(simp only [put_lit,List.set]));(refine tk (i:=4) (v:=?_) rfl rfl (Or.inl ⟨by rfl,?_⟩) ?_;rotate_left;(focus (intro w hSw;(try dsimp only at hSw);go_simp;(try with_reducible rfl)));(simp only [put_lit,List.set]));(refine tk (i:=5) (v:=?_) rfl rfl (Or.inl ⟨by rfl,?_⟩) ?_;rotate_left;(focus (intro w hSw;(try dsimp only at hSw);go_simp;(try with_reducible rfl)));(simp only [put_lit,List.set]));(refine tk (i:=6) (v:=?_) rfl rfl (Or.inl ⟨by rfl,?_⟩) ?_;rotate_left;(focus (intro w hSw;(try dsimp only at hSw);go_simp;(try with_reducible rfl)));(simp only [put_lit,List.set]));(refine tk (i:=7) (v:=?_) rfl rfl (Or.inl ⟨by rfl,?_⟩) ?_;rotate_left;(focus (intro w hSw;(try dsimp only at hSw);go_simp;(try with_reducible rfl)));(simp only [put_lit,List.set]));(refine tk (i:=8) (v:=?_) rfl rfl (Or.inl ⟨by rfl,?_⟩) ?_;rotate_left;(focus (intro w hSw;(try dsimp only at hSw);go_simp;(try with_reducible rfl)));(simp only [put_lit,List.set]));(refine tk (i:=9) (v:=?_) rfl rfl (Or.inl ⟨by rfl,?_⟩) ?_;rotate_left;(focus (intro w hSw;(try dsimp only at hSw);go_simp;(try with_reducible rfl)));(simp only [put_lit,List.set]));(refine tk (i:=10) (v:=?_) rfl rfl (Or.inl ⟨by rfl,?_⟩) ?_;rotate_left;(focus (intro w hSw;(try dsimp only at hSw);go_simp;(try with_reducible rfl)));(simp only [put_lit,List.set]));(refine tk (i:=11) (v:=?_) rfl rfl (Or.inl ⟨by rfl,?_⟩) ?_;rotate_left;(focus (intro w hSw;(try dsimp only at hSw);go_simp;(try with_reducible rfl)));(simp only [put_lit,List.set]));(refine tk (i:=12) (v:=?_) rfl rfl (Or.inl ⟨by rfl,?_⟩) ?_;rotate_left;(focus (intro w hSw;(try dsimp only at hSw);go_simp;(try with_reducible rfl)));(simp only [put_lit,List.set]));(refine tk (i:=13) (v:=?_) rfl rfl (Or.inl ⟨by rfl,?_⟩) ?_;rotate_left;(focus (intro w hSw;(try dsimp only at hSw);go_simp;(try with_reducible rfl)));(simp only [put_lit,List.set]));(refine tk (i:=14) (v:=?_) rfl rfl (Or.inl ⟨by rfl,?_⟩) ?_;rotate_left;(focus (intro w hSw;(try dsimp only at hSw);go_simp;(try with_reducible rfl)));(simp only [put_lit,List.set]));(refine tk (i:=15) (v:=?_) rfl rfl (Or.inl ⟨by rfl,?_⟩) ?_;rotate_left;(focus (intro w hSw;(try dsimp only at hSw);go_simp;(try with_reducible rfl)));(simp only [put_lit,List.set]));(refine tk (i:=16) (v:=?_) rfl rfl (Or.inl ⟨by rfl,?_⟩) ?_;rotate_left;(focus (intro w hSw;(try dsimp only at hSw);go_simp;(try with_reducible rfl)));(simp only [put_lit,List.set]));(refine tk (i:=17) (v:=?_) rfl rfl (Or.inl ⟨by rfl,?_⟩) ?_;rotate_left;(focus (intro w hSw;(try dsimp only at hSw);go_simp;(try with_reducible rfl)));(simp only [put_lit,List.set]));(refine tk (i:=18) (v:=?_) rfl rfl (Or.inl ⟨by rfl,?_⟩) ?_;rotate_left;(focus (intro w hSw;(try dsimp only at hSw);go_simp;(try with_reducible rfl)));(simp only [put_lit,List.set]));(refine tk (i:=19) (v:=?_) rfl rfl (Or.inl ⟨by rfl,?_⟩) ?_;rotate_left;(focus (intro w hSw;(try dsimp only at hSw);go_simp;(try with_reducible rfl)));(simp only [put_lit,List.set]));(refine tk (i:=20) (v:=?_) rfl rfl (Or.inl ⟨by rfl,?_⟩) ?_;rotate_left;(focus (intro w hSw;(try dsimp only at hSw);go_simp;(try with_reducible rfl)));(simp only [put_lit,List.set]));(refine tk (i:=21) (v:=?_) rfl rfl (Or.inl ⟨by rfl,?_⟩) ?_;rotate_left;(focus (intro w hSw;(try dsimp only at hSw);go_simp;(try with_reducible rfl)));(simp only [put_lit,List.set]));(refine tk (i:=22) (v:=?_) rfl rfl (Or.inl ⟨by rfl,?_⟩) ?_;rotate_left;(focus (intro w hSw;(try dsimp only at hSw);go_simp;(try with_reducible rfl)));(simp only [put_lit,List.set]));(refine tk (i:=23) (v:=?_) rfl rfl (Or.inl ⟨by rfl,?_⟩) ?_;rotate_left;(focus (intro w hSw;(try dsimp only at hSw);go_simp;(try with_reducible rfl)));(simp only [put_lit,List.set]));(refine tk (i:=24) (v:=?_) rfl rfl (Or.inl ⟨by rfl,?_⟩) ?_;rotate_left;(focus (intro w hSw;(try dsimp only at hSw);go_simp;(try with_reducible rfl)));(simp only [put_lit,List.set]));(refine tk (i:=25) (v:=?_) rfl rfl (Or.inl ⟨by rfl,?_⟩) ?_;rotate_left;(focus (intro w hSw;(try dsimp only at hSw);go_simp;(try with_reducible rfl)));(simp only [put_lit,List.set]));(refine tk (i:=26) (v:=?_) rfl rfl (Or.inl ⟨by rfl,?_⟩) ?_;rotate_left;(focus (intro w hSw;(try dsimp only at hSw);go_simp;(try with_reducible rfl)));(simp only [put_lit,List.set]));(refine tk (i:=27) (v:=?_) rfl rfl (Or.inl ⟨by rfl,?_⟩) ?_;rotate_left;(focus (intro w hSw;(try dsimp only at hSw);go_simp;(try with_reducible rfl)));(simp only [put_lit,List.set]));(refine tk (i:=28) (v:=?_) rfl rfl (Or.inl ⟨by rfl,?_⟩) ?_;rotate_left;(focus (intro w hSw;(try dsimp only at hSw);go_simp;(try with_reducible rfl)));(simp only [put_lit,List.set]));(refine wpAnyH_ready (rs:=[29]) (by kernel_rfl) (by simp) ?_;refine AllReadyH.cons rfl (fun K hK=>?_) AllReadyH.nil;go_simp);refine (value15_any z7 U D _ hA hB hN).mono ?_;rintro e w4 ⟨rfl,hb4⟩;have Hb4:=Lib.hid (show Below wo.heap.size wo w4 from (Below.trans Bel.go (hb4.mono (by simp<;>omega))));obtain ⟨hcx,hfx⟩:=bcellS hb4;refine hK.out _ _ ?_ (fun _=>?_);(focus (((try dsimp only);repeat' apply And.intro)<;>(rw [hcx _ (by go_simp)];go_simp)));clear hHeld hK K hcx hfx;rename_i hHeld;clear hb4;(refine tk (i:=30) (v:=?_) rfl rfl (Or.inl ⟨by rfl,?_⟩) ?_;rotate_left;(focus (intro w hSw;(try dsimp only at hSw);go_simp;(try with_reducible rfl)));(simp only [put_lit,List.set]));refine wpAnyH_done (by kernel_rfl) ?_ _;clear hHeld;go_wp2;go_ret;exact ⟨by rw [HC.out];rfl,by first | exact HBW.out.trans (Hb4.out.mono HBW.out.size) | exact below_drewn (HBW.out.trans (Hb4.out.mono HBW.out.size)) _⟩))
end Go.Proofs.YtipocabbjinbhaaGreat
namespace Go.Proofs.YtipocabbjinbhaaGreat
open Go Go.RowKit
theorem sg_bd (n:Int):(sg n).natAbs≤1:=by rcases sg_cases n with ⟨_,h⟩ | ⟨_,h⟩ | ⟨_,h⟩<;>rw [h]<;>decide
theorem valv_bd (a b n:Int):(valv a b n).natAbs≤1:=by
 unfold valv
 split
 ·exact sg_bd _
 ·split
  ·exact sg_bd _
  ·rw [Int.natAbs_mul]
   exact Nat.mul_le_mul (sg_bd _) (sg_bd _)
theorem sgnd_bd (p:List Int) (k:Nat) (g:List Int):(sgnd p k g).natAbs≤1:=by
 unfold sgnd
 split
 ·exact sg_bd _
 ·exact valv_bd _ _ _
def sone (g:List Int) (s:Int) (p:List Int) (k:Nat):Int:=if sgnd p k g=s then 1 else 0
theorem sone_bd (g:List Int) (s:Int) (p:List Int) (k:Nat):(sone g s p k).natAbs≤1:=by unfold sone;split<;>decide
abbrev tri3 (a b c:Int):Array Value:=#[.int .i64 a,.int .i64 b,.int .i64 c]
set_option maxRecDepth 100000 in
set_option maxHeartbeats 8000000 in
theorem signs15_any {w:World} {A:Option Addr} {l c:Nat} {fs:List (List Int×Nat)} (hF:FsAt w A l c fs) (hl:l≤100) (hs:∀ x∈fs,FcP x.1) {Bg:Option Addr} {lg cg:Nat} {g:List Int} (hg:I64At w Bg lg cg g) (hlg:lg≤5) (hgb:∀ j,(g.getD j 0).natAbs≤729) :
 Calls Tryz.prog 19 #[.slice A l c,.slice Bg lg cg] w fun e w'=>e=.returned (.agg (tri3 (csum (sone g (-1)) fs) (csum (sone g 0) fs) (csum (sone g 1) fs)))∧Below w.heap.size w w':=by
 have HS:=Lib.hid hs
 have Hll:=Lib.hid hF.length
 have HSB:=Lib.hid (fun s n=>csum_bd (j:=sone g s) (sone_bd g s) (fs.take n))
 have hbx:Below w.heap.size w (w.alloc (.cells (tri3 0 0 0) 37)):=below_new _ _
 have hby:Below (w.alloc (.cells (tri3 0 0 0) 37)).heap.size (w.alloc (.cells (tri3 0 0 0) 37)) ((w.alloc (.cells (tri3 0 0 0) 37)).alloc (.cells (tri3 0 0 0) 37)):=below_new _ _
 have hb0:=hbx.trans (hby.mono hbx.size)
 have hk4:Blk ((w.alloc (.cells (tri3 0 0 0) 37)).alloc (.cells (tri3 0 0 0) 37)) w.heap.size 37 (tri3 0 0 0):=(Blk.new w 37 (tri3 0 0 0)).below hby (by simp)
 have hk5:Blk ((w.alloc (.cells (tri3 0 0 0) 37)).alloc (.cells (tri3 0 0 0) 37)) (w.heap.size+1) 37 (tri3 0 0 0):=by
  have:=Blk.new (w.alloc (.cells (tri3 0 0 0) 37)) 37 (tri3 0 0 0)
  simpa using this
 have Hb:=Lib.hid hb0
 have H1:=Lib.hid hF
 have HG1:=Lib.hid hg
 obtain ⟨wb,hwb⟩:∃ wb,wb=((w.alloc (.cells (tri3 0 0 0) 37)).alloc (.cells (tri3 0 0 0) 37)):=⟨_,rfl⟩
 rw [← hwb] at Hb hk4 hk5
 have HWB:=Lib.hid hwb
 have HK4:=Lib.hid hk4
 have HK5:=Lib.hid hk5
 clear hbx hby hb0 hF hs hg hk4 hk5 hwb
 have HJ:=Lib.hid (show ∀ s p k,(sgnd p k g=s→sone g s p k=1)∧(sgnd p k g≠s→sone g s p k=0) from fun s p k=>⟨fun h=>if_pos h,fun h=>if_neg h⟩)
 have HJB:=Lib.hid (sone_bd g)
 generalize sone g=J at *
 go_enter Tryz.func19,Tryz.ntmps19
 go_wp2
 rw [← HWB.out]
 go_loopw [6] (fun s6 wr=>∃ i:Nat,i≤l∧s6=.int .i64 (i:Int)∧Blk wr (w.heap.size+1) 37 (tri3 (csum (J (-1)) (fs.take i)) (csum (J 0) (fs.take i)) (csum (J 1) (fs.take i)))∧Blk wr w.heap.size 37 (tri3 0 0 0)∧Below w.heap.size w wr) (fun s6 _=>l-(intOf s6).toNat)
 case atStart=>exact ⟨0,Nat.zero_le _,rfl,HK5.out,HK4.out,Hb.out⟩
 case round =>
  obtain ⟨i,hi,rfl,hk5,hk4,hbw⟩:=hrel
  obtain ⟨wo,rfl⟩:∃ wo:World,wo=wr:=⟨_,rfl⟩
  have HF1:=Lib.hid (fs_below H1.out hbw)
  have Hbw:=Lib.hid hbw
  have HK4o:=Lib.hid hk4
  obtain ⟨N0,hN0⟩:∃ N,N=csum (J (-1)) (fs.take i):=⟨_,rfl⟩
  obtain ⟨N1,hN1⟩:∃ N,N=csum (J 0) (fs.take i):=⟨_,rfl⟩
  obtain ⟨N2,hN2⟩:∃ N,N=csum (J 1) (fs.take i):=⟨_,rfl⟩
  have q0:=HSB.out (-1) i
  have q1:=HSB.out 0 i
  have q2:=HSB.out 1 i
  rw [← hN0] at hk5 q0
  rw [← hN1] at hk5 q1
  rw [← hN2] at hk5 q2
  have hlen:(fs.take i).length≤100:=by rw [List.length_take,Hll.out];omega
  have HN:=Lib.hid (And.intro hN0 (And.intro hN1 hN2))
  have HK5o:=Lib.hid hk5
  clear hN0 hN1 hN2 hbw hk4
  by_cases hlt:i<l
  ·have Hlt:=Lib.hid hlt
   have hif:i<fs.length:=by rw [Hll.out];exact hlt
   obtain ⟨b0,o0,A1,l1,c1,hfi⟩:=fs_i H1.out hlt
   obtain rfl:=hfi.eq
   have HFI:=Lib.hid hfi
   have hmem:fs.getD i ([],0)∈fs:=by rw [List.getD_eq_getElem?_getD,List.getElem?_eq_getElem hif];exact List.getElem_mem _
   have HQ:=Lib.hid (HS.out _ hmem)
   have HT0:=Lib.hid (show csum (J (-1)) (fs.take (i+1))=N0+ksum (J (-1) (fs.getD i ([],0)).1) (realn (fs.getD i ([],0)).1) by unfold csum at HN ⊢;rw [take_snoc hif ([],0),lsum_app,HN.out.1])
   have HT1:=Lib.hid (show csum (J 0) (fs.take (i+1))=N1+ksum (J 0 (fs.getD i ([],0)).1) (realn (fs.getD i ([],0)).1) by unfold csum at HN ⊢;rw [take_snoc hif ([],0),lsum_app,HN.out.2.1])
   have HT2:=Lib.hid (show csum (J 1) (fs.take (i+1))=N2+ksum (J 1 (fs.getD i ([],0)).1) (realn (fs.getD i ([],0)).1) by unfold csum at HN ⊢;rw [take_snoc hif ([],0),lsum_app,HN.out.2.2])
   obtain ⟨r,hr⟩:∃ r,r=(fs.getD i ([],0)).1:=⟨_,rfl⟩
   rw [← hr] at HFI HT0 HT1 HT2 HQ
   have Hr2:=Lib.hid (realn_le r)
   have Hkb:=Lib.hid (fun s n=>ksum_bd (HJB.out s r) n)
   have HNB:=Lib.hid (show N0.natAbs≤200∧N1.natAbs≤200∧N2.natAbs≤200 by omega)
   have ti0:(i:Int)<(l:Int):=by omega
   clear hr hmem hif hi q0 q1 q2 hlen hfi hlt hk5
   go_wp2
   go_loopw [7] (fun s7 wx=>∃ k:Nat,k≤realn r∧s7=.int .i64 (k:Int)∧Blk wx (w.heap.size+1) 37 (tri3 (N0+ksum (J (-1) r) k) (N1+ksum (J 0 r) k) (N2+ksum (J 1 r) k))∧Blk wx w.heap.size 37 (tri3 0 0 0)∧Below w.heap.size w wx) (fun s7 _=>realn r-(intOf s7).toNat)
   case atStart=>exact ⟨0,Nat.zero_le _,rfl,by rw [show ksum (J (-1) r) 0=0 from rfl,show ksum (J 0 r) 0=0 from rfl,show ksum (J 1 r) 0=0 from rfl,Int.add_zero,Int.add_zero,Int.add_zero];exact HK5o.out,HK4o.out,Hbw.out⟩
   case round =>
    obtain ⟨k,hk,rfl,hk5,hk4,hbx⟩:=hrel
    have HF2:=Lib.hid (HFI.out.below hbx)
    have e1:=HF2.out.cell
    have Hbx:=Lib.hid hbx
    obtain ⟨K0,hK0⟩:∃ K,K=N0+ksum (J (-1) r) k:=⟨_,rfl⟩
    obtain ⟨K1,hK1⟩:∃ K,K=N1+ksum (J 0 r) k:=⟨_,rfl⟩
    obtain ⟨K2,hK2⟩:∃ K,K=N2+ksum (J 1 r) k:=⟨_,rfl⟩
    have hKb:K0.natAbs≤202∧K1.natAbs≤202∧K2.natAbs≤202:=by
     have:=Hkb.out (-1) k;have:=Hkb.out 0 k;have:=Hkb.out 1 k;have:=HNB.out;have:=Hr2.out;omega
    have HKK:=Lib.hid (And.intro hK0 (And.intro hK1 hK2))
    rw [← hK0,← hK1,← hK2] at hk5
    have HK4x:=Lib.hid hk4
    have HK5x:=Lib.hid hk5
    clear hK0 hK1 hK2 hbx hk4 hk5
    go_wp2_with fail
    refine (real_any HF2.out.at_ HQ.out).mono ?_
    rintro e w3 ⟨rfl,hb3⟩
    have Hb3:=Lib.hid (Hbx.out.trans (hb3.mono Hbx.out.size))
    have HF3:=Lib.hid (HF2.out.below hb3)
    have HK43:=Lib.hid (HK4x.out.below hb3 HK4x.out.lt)
    have HK53:=Lib.hid (HK5x.out.below hb3 HK5x.out.lt)
    clear e1 hb3
    by_cases hkr:k<realn r
    ·have ti:(k:Int)<(realn r:Int):=by omega
     have tw:IntKind.i64.wrap ((k:Int)+1)=(k:Int)+1:=IntWalk.i64_in _ (by have:=Hr2.out;omega)
     have tK0:IntKind.i64.wrap (K0+1)=K0+1:=IntWalk.i64_in _ (by omega)
     have tK1:IntKind.i64.wrap (K1+1)=K1+1:=IntWalk.i64_in _ (by omega)
     have tK2:IntKind.i64.wrap (K2+1)=K2+1:=IntWalk.i64_in _ (by omega)
     have Hkr:=Lib.hid hkr
     have hk1:k≤1:=by have:=Hr2.out;omega
     have e3:=HF3.out.cell
     have HG3:=Lib.hid (HG1.out.below Hb3.out)
     clear hkr
     go_wp2_with fail
     refine (sgnd_any HF3.out.at_ HQ.out k hk1 HG3.out hlg hgb).mono ?_
     rintro e w5 ⟨rfl,hb5⟩
     have Hb5:=Lib.hid (Hb3.out.trans (hb5.mono Hb3.out.size))
     have HK45:=Lib.hid (HK43.out.below hb5 HK43.out.lt)
     have hk55:=HK53.out.below hb5 HK53.out.lt
     have hsb:=sgnd_bd r k g
     have hs3:sgnd r k g=-1∨sgnd r k g=0∨sgnd r k g=1:=by omega
     have hgl5:w.heap.size+1<w5.heap.size:=hk55.lt
     clear hb5 e3 hsb
     rcases hs3 with hs1 | hs1 | hs1
     ·have HJ2:=Lib.hid (And.intro ((HJ.out (-1) r k).1 hs1) (And.intro ((HJ.out 0 r k).2 (by rw [hs1];decide)) ((HJ.out 1 r k).2 (by rw [hs1];decide))))
      rw [hs1]
      have e5:w5.cell? ⟨w.heap.size+1,0,none⟩=some (.int .i64 K0):=by rw [hk55.cell];rfl
      have f5:=hk55.frozen 0
      have HK55:=Lib.hid hk55
      clear hs1 hk55
      go_wp2
      go_roundw
      case rel =>
       have h9:=HK55.out.set_ 0 (.int .i64 (K0+1))
       refine ⟨k+1,Hkr.out,by go_num,?_,HK45.out.far (by simp) _,Hb5.out.setCell (by simp) _⟩
       rw [show ksum (J (-1) r) (k+1)=ksum (J (-1) r) k+J (-1) r k from rfl,show ksum (J 0 r) (k+1)=ksum (J 0 r) k+J 0 r k from rfl,show ksum (J 1 r) (k+1)=ksum (J 1 r) k+J 1 r k from rfl,HJ2.out.1,HJ2.out.2.1,HJ2.out.2.2,← Int.add_assoc,← Int.add_assoc,← Int.add_assoc,← HKK.out.1,← HKK.out.2.1,← HKK.out.2.2]
       simpa using h9
      case measure=>have:=Hkr.out;simp [intOf];omega
     ·have HJ2:=Lib.hid (And.intro ((HJ.out (-1) r k).2 (by rw [hs1];decide)) (And.intro ((HJ.out 0 r k).1 hs1) ((HJ.out 1 r k).2 (by rw [hs1];decide))))
      rw [hs1]
      have e5:w5.cell? ⟨w.heap.size+1,1,none⟩=some (.int .i64 K1):=by rw [hk55.cell];rfl
      have f5:=hk55.frozen 1
      have HK55:=Lib.hid hk55
      clear hs1 hk55
      go_wp2
      go_roundw
      case rel =>
       have h9:=HK55.out.set_ 1 (.int .i64 (K1+1))
       refine ⟨k+1,Hkr.out,by go_num,?_,HK45.out.far (by simp) _,Hb5.out.setCell (by simp) _⟩
       rw [show ksum (J (-1) r) (k+1)=ksum (J (-1) r) k+J (-1) r k from rfl,show ksum (J 0 r) (k+1)=ksum (J 0 r) k+J 0 r k from rfl,show ksum (J 1 r) (k+1)=ksum (J 1 r) k+J 1 r k from rfl,HJ2.out.1,HJ2.out.2.1,HJ2.out.2.2,← Int.add_assoc,← Int.add_assoc,← Int.add_assoc,← HKK.out.1,← HKK.out.2.1,← HKK.out.2.2]
       simpa using h9
      case measure=>have:=Hkr.out;simp [intOf];omega
     ·have HJ2:=Lib.hid (And.intro ((HJ.out (-1) r k).2 (by rw [hs1];decide)) (And.intro ((HJ.out 0 r k).2 (by rw [hs1];decide)) ((HJ.out 1 r k).1 hs1)))
      rw [hs1]
      have e5:w5.cell? ⟨w.heap.size+1,2,none⟩=some (.int .i64 K2):=by rw [hk55.cell];rfl
      have f5:=hk55.frozen 2
      have HK55:=Lib.hid hk55
      clear hs1 hk55
      go_wp2
      go_roundw
      case rel =>
       have h9:=HK55.out.set_ 2 (.int .i64 (K2+1))
       refine ⟨k+1,Hkr.out,by go_num,?_,HK45.out.far (by simp) _,Hb5.out.setCell (by simp) _⟩
       rw [show ksum (J (-1) r) (k+1)=ksum (J (-1) r) k+J (-1) r k from rfl,show ksum (J 0 r) (k+1)=ksum (J 0 r) k+J 0 r k from rfl,show ksum (J 1 r) (k+1)=ksum (J 1 r) k+J 1 r k from rfl,HJ2.out.1,HJ2.out.2.1,HJ2.out.2.2,← Int.add_assoc,← Int.add_assoc,← Int.add_assoc,← HKK.out.1,← HKK.out.2.1,← HKK.out.2.2]
       simpa using h9
      case measure=>have:=Hkr.out;simp [intOf];omega
    ·have ti:¬ (k:Int)<(realn r:Int):=by omega
     have tw:IntKind.i64.wrap ((i:Int)+1)=(i:Int)+1:=IntWalk.i64_in _ (by have:=Hlt.out;omega)
     have hke:k=realn r:=by omega
     rw [hke] at HKK
     clear hk hkr hke
     go_wp2
     go_roundw
     case rel=>exact ⟨i+1,Hlt.out,by go_num,by rw [HT0.out,HT1.out,HT2.out,← HKK.out.1,← HKK.out.2.1,← HKK.out.2.2];exact HK53.out,HK43.out,Hb3.out⟩
     case measure=>have:=Hlt.out;simp [intOf];omega
  ·have ti:¬ (i:Int)<(l:Int):=by omega
   have HE:fs.take i=fs:=by rw [List.take_of_length_le (by rw [Hll.out];omega)]
   rw [HE] at HN
   have c0:wo.cell? ⟨w.heap.size+1,0,none⟩=some (.int .i64 N0):=by rw [hk5.cell];rfl
   have c1:wo.cell? ⟨w.heap.size+1,1,none⟩=some (.int .i64 N1):=by rw [hk5.cell];rfl
   have c2:wo.cell? ⟨w.heap.size+1,2,none⟩=some (.int .i64 N2):=by rw [hk5.cell];rfl
   have d0:wo.cell? ⟨w.heap.size,0,none⟩=some (.int .i64 0):=by rw [HK4o.out.cell];rfl
   have d1:wo.cell? ⟨w.heap.size,1,none⟩=some (.int .i64 0):=by rw [HK4o.out.cell];rfl
   have d2:wo.cell? ⟨w.heap.size,2,none⟩=some (.int .i64 0):=by rw [HK4o.out.cell];rfl
   have f0:=HK4o.out.frozen 0
   have f1:=HK4o.out.frozen 1
   have f2:=HK4o.out.frozen 2
   clear hi hlt q0 q1 q2 hlen hk5
   have hB:=((HK4o.out.set_ 0 (.int .i64 N0)).set_ 1 (.int .i64 N1)).set_ 2 (.int .i64 N2)
   have k0:(((wo.setCell ⟨w.heap.size,0,none⟩ (.int .i64 N0)).setCell ⟨w.heap.size,1,none⟩ (.int .i64 N1)).setCell ⟨w.heap.size,2,none⟩ (.int .i64 N2)).cell? ⟨w.heap.size,0,none⟩=some (.int .i64 N0):=by rw [hB.cell];rfl
   have k1:(((wo.setCell ⟨w.heap.size,0,none⟩ (.int .i64 N0)).setCell ⟨w.heap.size,1,none⟩ (.int .i64 N1)).setCell ⟨w.heap.size,2,none⟩ (.int .i64 N2)).cell? ⟨w.heap.size,1,none⟩=some (.int .i64 N1):=by rw [hB.cell];rfl
   have k2:(((wo.setCell ⟨w.heap.size,0,none⟩ (.int .i64 N0)).setCell ⟨w.heap.size,1,none⟩ (.int .i64 N1)).setCell ⟨w.heap.size,2,none⟩ (.int .i64 N2)).cell? ⟨w.heap.size,2,none⟩=some (.int .i64 N2):=by rw [hB.cell];rfl
   have HKK:=Lib.hid (And.intro k0 (And.intro k1 k2))
   clear hB k0 k1 k2
   go_wp2
   obtain ⟨k0,k1,k2⟩:=HKK.out
   refine bodyPost_ret (v:=.agg (tri3 N0 N1 N2)) (by simp [results,Tryz.results19,go_sem,k0,k1,k2]) rfl ⟨by rw [HN.out.1,HN.out.2.1,HN.out.2.2],((Hbw.out.setCell (Nat.le_refl _) _).setCell (Nat.le_refl _) _).setCell (Nat.le_refl _) _⟩
end Go.Proofs.YtipocabbjinbhaaGreat
namespace Go.Proofs.YtipocabbjinbhaaGreat
open Go.RowKit
theorem known_g6 {ps:List (List Int)} (ht:Tri ps) (h2:ps.length≤2):G6 (prodf [1] ps)∧(prodf [1] ps).length≤5∧∀ j,((prodf [1] ps).getD j 0).natAbs≤729:=by
 have h1:=prodf_bd ps [1] 1 ht one_abs
 have h3:=prodf_len ps [1] 0 ht (by decide) (by decide)
 have h4:27^ps.length≤27^2:=Nat.pow_le_pow_right (by decide) h2
 have h5:∀ j,((prodf [1] ps).getD j 0).natAbs≤729:=fun j=>by have:=h1 j;omega
 exact ⟨⟨by omega,fun j=>Nat.le_trans (h5 j) (by rw [BB_eq];decide)⟩,by omega,h5⟩
section
variable {qs:List (List Int)} (ht:Tri qs) (hz:¬ Zer qs) (h3:qs.length≤3) {g:List Int} (hg:G6 g) (h5:g.length≤5)
include ht hz h3 hg h5
omit hz hg in
theorem known_l6:plen (prodf [1] qs)+plen g≤12:=by
 have h1:=prodf_len qs [1] 0 ht (by decide) (by decide)
 have h2:=plen_le (prodf [1] qs)
 have h4:=plen_le g
 omega
theorem known_zero:nall (qpart (gres (prodf [1] qs) g))=csum (sone g 0) (facs [] qs):=by
 have h9:=known_p9 ht (by omega)
 have hd:=gd_facts h9 (known_l6 ht h3 h5) hg (prodf_ne ht hz)
 obtain ⟨k1,k2,k3⟩:=gd_sizes hd
 have hf:=q_facts k1 hd.g0
 obtain ⟨xs,hx⟩:=roots_ex (prodf_ne ht hz)
 have hx':Lst (fun x=>sgp (prodf [1] qs) x=0) xs:=hx
 obtain ⟨ys,hy⟩:=roots_lst (prodf_ne ht hz) (fun x=>sgp g x=0)
 have hy':Lst (fun x=>sgp (prodf [1] qs) x=0∧sgp g x=0) ys:=hy
 have hy2:Lst (fun x=>sgp (qpart (gres (prodf [1] qs) g)) x=0) ys:=hy'.congr fun x=>by rw [hf.root,hd.r]
 rw [nall_count k2 k3 hf.q0 hy2]
 classical
 rw [isum_le1 (J:=fun x=>if sgp g x=0 then 1 else 0) (fun x=>sgp g x=0) (fun x h=>if_pos h) (fun x h=>if_neg h) hx' hy']
 refine known_sum ht hz _ _ (fun p hp k hk=>?_) hx'
 unfold sone
 rw [sgnd_eq hp g k hk]
theorem known_nq:nq (prodf [1] qs) g=csum (fun p k=>sgnd p k g) (facs [] qs):=by
 have h9:=known_p9 ht (by omega)
 obtain ⟨xs,hx⟩:=roots_ex (prodf_ne ht hz)
 have hx':Lst (fun x=>sgp (prodf [1] qs) x=0) xs:=hx
 rw [nq_sum h9.cp (h9.dg (known_l6 ht h3 h5) hg.b) (prodf_ne ht hz) hx']
 exact known_sum ht hz _ _ (fun p hp k hk=>(sgnd_eq hp g k hk).symm) hx'
end
theorem ksum_add (i j:Nat→Int):∀ n,ksum (fun k=>i k+j k) n=ksum i n+ksum j n
 | 0=>rfl
 | n+1=>by
   show ksum (fun k=>i k+j k) n+(i n+j n)=(ksum i n+i n)+(ksum j n+j n)
   rw [ksum_add i j n]
   omega
theorem csum_add (i j:List Int→Nat→Int):∀ l:List (List Int×Nat),csum (fun p k=>i p k+j p k) l=csum i l+csum j l
 | []=>rfl
 | (r,m) :: l=>by
   have:=csum_add i j l
   unfold csum at *
   show ksum (fun k=>i r k+j r k) (realn r)+lsum _ l=(ksum (i r) (realn r)+lsum _ l)+(ksum (j r) (realn r)+lsum _ l)
   rw [this,ksum_add]
   omega
theorem csum_congr {i j:List Int→Nat→Int} (h:∀ p k,i p k=j p k) (l:List (List Int×Nat)):csum i l=csum j l:=by
 have:i=j:=funext fun p=>funext fun k=>h p k
 rw [this]
theorem sone_three (g:List Int) (l:List (List Int×Nat)):csum (sone g (-1)) l+csum (sone g 0) l+csum (sone g 1) l=csum (fun _ _=>1) l∧csum (sone g (-1)) l+csum (fun p k=>sgnd p k g) l=csum (sone g 1) l:=by
 refine ⟨?_,?_⟩
 ·rw [← csum_add,← csum_add]
  refine csum_congr (fun p k=>?_) l
  have:=sgnd_bd p k g
  unfold sone
  rcases (show sgnd p k g=-1∨sgnd p k g=0∨sgnd p k g=1 by omega) with h | h | h<;>rw [h]<;>decide
 ·rw [← csum_add]
  refine csum_congr (fun p k=>?_) l
  have:=sgnd_bd p k g
  unfold sone
  rcases (show sgnd p k g=-1∨sgnd p k g=0∨sgnd p k g=1 by omega) with h | h | h<;>rw [h]<;>decide
end Go.Proofs.YtipocabbjinbhaaGreat
namespace Go.Proofs.YtipocabbjinbhaaGreat
open Go.RowKit
end Go.Proofs.YtipocabbjinbhaaGreat
namespace Go.Proofs.YtipocabbjinbhaaGreat
open Go.RowKit
set_option maxHeartbeats 400000 in
theorem all_g (A:Option Addr) (la ca:Nat) (f g G:List Int) (w:World) (hf:PolyN w A la ca G) (hd:GdF f g G) :
 Calls Tryz.prog 27 #[.slice A la ca] w fun e w'=>e=.returned (.int .i64 (nall (qpart G)))∧Below w.heap.size w w':=by
 have sf:=hd.fit.smp
 obtain ⟨hq,c1,c2⟩:=gd_sizes hd
 have ht:ptrim (qpart G)=qpart G:=(q_facts hq hd.g0).t
 have hla:la≤1000000:=by have:=hf.length;have:=hd.t;omega
 obtain ⟨V,hV⟩:∃ V,V=nall (qpart G):=⟨_,rfl⟩
 rw [← hV]
 have HV:=Lib.hid hV
 clear hV
 go_enter Tryz.func27,Tryz.ntmps27
 go_wp2_with fail
 refine (part_q ikN _ _ _ _ _ hf sf (fun _=>hq) hla).mono ?_
 rintro e w1 ⟨A1,l1,c1',rfl,h1,hb1⟩
 have hl:=h1.length
 have hlp:=c1.len
 have hl1:l1≤10:=by rw [← hl,← ht,ptrim_length];exact hlp
 have Hb1:=Lib.hid hb1
 obtain ⟨Q,hQ⟩:∃ Q,Q=qpart G:=⟨_,rfl⟩
 rw [← hQ] at h1 c1 c2 HV
 obtain ⟨k1,k2,k3,k4⟩:=chain_all c1 c2
 clear hf hb1 hl ht hlp hQ
 go_wp2_with fail
 refine (sturmof_any _ _ _ _ _ h1 c1.fit.smp c2.fit.smp (by omega) 12 k1 (by omega)).mono ?_
 rintro e w2' ⟨A2,l2,c2',rfl,h2,hb2⟩
 have Hb2:=Lib.hid (Hb1.out.trans (hb2.mono Hb1.out.size))
 clear h1 hb2 Hb1
 go_wp2_with fail
 refine (lost_q _ _ _ _ _ _ _ h2 k2 (by omega)).mono ?_
 rintro e w3 ⟨he,hb3⟩
 have he2:e=.returned (.int .i64 V):=by rw [he,HV.out];rfl
 subst he2
 have Hb3:=Lib.hid (Hb2.out.trans (hb3.mono Hb2.out.size))
 clear h2 hb3 Hb2 he
 go_wp2
 go_ret
 exact ⟨rfl,Hb3.out⟩
set_option maxHeartbeats 1000000 in
theorem signs_any (A:Option Addr) (la ca:Nat) (f:List Int) (B:Option Addr) (lb cb:Nat) (g:List Int) (w:World) (hf:PolyN w A la ca f) (hg:PolyN w B lb cb g) (h9:P9 f) (l6:plen f+plen g≤12) (hg6:G6 g) (hla:la≤1000000) :
 Calls Tryz.prog 20 #[.slice A la ca,.slice B lb cb] w fun e w'=>(∃ a b c,e=.returned (.tuple #[.int .i64 a,.int .i64 b,.int .i64 c])∧SgV f g a b c∧a≤10∧b≤10∧c≤10)∧Below w.heap.size w w':=by
 have sf:=h9.cp.fit.smp
 have hlb:lb≤6:=by have:=hg.length;have:=hg6.len;omega
 have HF:=Lib.hid hf
 have HG:=Lib.hid hg
 clear hf hg
 go_enter Tryz.func20,Tryz.ntmps20
 go_wp2_with fail
 refine (degree_any _ _ _ _ _ (HF.out.at_ ikN) sf (by omega)).mono ?_
 rintro e w1 ⟨rfl,hb1⟩
 replace HF:=Lib.hid (HF.out.below ikN hb1)
 replace HG:=Lib.hid (HG.out.below ikN hb1)
 have Hb:=Lib.hid hb1
 clear hb1
 by_cases F0:plen f=0
 ·have d0:((plen f:Nat):Int)-1=-1:=by omega
  rw [d0]
  have hn:=Lib.hid (nq_nil (g:=g) F0)
  have hm:=Lib.hid (show nall f=0 from pline_nil F0)
  have HF0:=Lib.hid F0
  clear F0 d0 HF HG
  go_wp2
  refine bodyPost_ret (v:=.tuple #[.int .i64 0,.int .i64 0,.int .i64 0]) (by simp [results,Tryz.results20,go_sem]) rfl ⟨⟨0,0,0,rfl,⟨by rw [hm.out];rfl,by rw [hn.out];rfl,by decide,by decide,by decide,fun h=>absurd HF0.out h⟩,by decide,by decide,by decide⟩,Hb.out⟩
 obtain ⟨dF,hdF⟩:∃ d:Nat,((plen f:Nat):Int)-1=(d:Int):=⟨plen f-1,by omega⟩
 rw [hdF]
 have nF:¬ ((dF:Int)<0):=by omega
 have hd:=gd_facts h9 l6 hg6 F0
 obtain ⟨m,p,e1,e2,e3,e4⟩:=sgv h9 l6 hg6 F0
 obtain ⟨G,hG⟩:∃ G,G=gres f g:=⟨_,rfl⟩
 rw [← hG] at hd e1 e3
 have HGe:=Lib.hid hG.symm
 obtain ⟨N0,hN0⟩:∃ N,N=nall (qpart G):=⟨_,rfl⟩
 obtain ⟨N,hN⟩:∃ N,N=nall f:=⟨_,rfl⟩
 obtain ⟨S,hS⟩:∃ S,S=nq f g:=⟨_,rfl⟩
 rw [← hN0] at e1 e3
 rw [← hN] at e1 e4
 rw [← hS] at e2
 have HN0:=Lib.hid hN0.symm
 have HN:=Lib.hid hN.symm
 have HSe:=Lib.hid hS.symm
 have ga:=hd.ga
 have sg:=hg6.fit.smp
 have w1:IntKind.i64.wrap (N-N0)=(m:Int)+p:=by rw [show N-N0=(m:Int)+p by omega];exact IntWalk.i64_in _ (by omega)
 have w2:IntKind.i64.wrap ((m:Int)+p-S)=2*(m:Int):=by rw [show (m:Int)+p-S=2*(m:Int) by omega];exact IntWalk.i64_in _ (by omega)
 have w3:IntKind.i64.wrap ((m:Int)+p+S)=2*(p:Int):=by rw [show (m:Int)+p+S=2*(p:Int) by omega];exact IntWalk.i64_in _ (by omega)
 have t1:(2*(m:Int)).tdiv 2=(m:Int):=Int.mul_tdiv_cancel_left _ (by decide)
 have t2:(2*(p:Int)).tdiv 2=(p:Int):=Int.mul_tdiv_cancel_left _ (by decide)
 have v1:IntKind.i64.wrap (m:Int)=(m:Int):=IntWalk.i64_in _ (by omega)
 have v2:IntKind.i64.wrap (p:Int)=(p:Int):=IntWalk.i64_in _ (by omega)
 have Hd:=Lib.hid hd
 have HE:=Lib.hid (And.intro e1 (And.intro e2 (And.intro e3 e4)))
 clear F0 hdF hG hN0 hN hS hd e1 e2 e3 e4
 go_wp2_with fail
 refine (gcd_any ikN ikN _ _ _ f _ _ _ g _ HF.out HG.out sf sg (by omega) (by omega) ga).mono ?_
 rintro e w5 ⟨A5,l5,c5,rfl,h5,hb5⟩
 rw [HGe.out] at h5
 replace HF:=Lib.hid (HF.out.below ikN hb5)
 replace HG:=Lib.hid (HG.out.below ikN hb5)
 replace Hb:=Lib.hid (Hb.out.trans (hb5.mono Hb.out.size))
 have H5:=Lib.hid h5
 clear hb5 h5
 go_wp2_with fail
 refine (all_g _ _ _ f g G _ H5.out Hd.out).mono ?_
 rintro e w6 ⟨rfl,hb6⟩
 rw [HN0.out]
 replace HF:=Lib.hid (HF.out.below ikN hb6)
 replace HG:=Lib.hid (HG.out.below ikN hb6)
 replace Hb:=Lib.hid (Hb.out.trans (hb6.mono Hb.out.size))
 clear hb6 H5
 go_wp2_with fail
 refine (all_q ikN _ _ _ _ _ HF.out h9 hla).mono ?_
 rintro e w7 ⟨rfl,hb7⟩
 rw [HN.out]
 replace HF:=Lib.hid (HF.out.below ikN hb7)
 replace HG:=Lib.hid (HG.out.below ikN hb7)
 replace Hb:=Lib.hid (Hb.out.trans (hb7.mono Hb.out.size))
 clear hb7
 go_wp2_with fail
 refine (qall_any ikN ikN _ _ _ f _ _ _ g _ HF.out HG.out h9 l6 hg6 hla).mono ?_
 rintro e w8 ⟨rfl,hb8⟩
 rw [HSe.out]
 replace Hb:=Lib.hid (Hb.out.trans (hb8.mono Hb.out.size))
 clear hb8 HF HG
 go_wp2
 refine bodyPost_ret (v:=.tuple #[.int .i64 (m:Int),.int .i64 N0,.int .i64 (p:Int)]) (by simp [results,Tryz.results20,go_sem]) rfl ⟨⟨(m:Int),N0,(p:Int),rfl,⟨by rw [HN.out];have:=HE.out;omega,by rw [HSe.out];have:=HE.out;omega,by omega,HE.out.2.2.1,by omega,fun _=>by rw [HGe.out,HN0.out]⟩,by have:=HE.out;omega,by have:=HE.out;omega,by have:=HE.out;omega⟩,Hb.out⟩
end Go.Proofs.YtipocabbjinbhaaGreat
namespace Go.Proofs.YtipocabbjinbhaaGreat
open Go Go.RowKit
theorem few_tri {n:Nat} {qs:List (List Int)} (h3:∀ q∈qs,q.length=3∧∀ c∈q,I8 c) (h:qs.length≤n∧∀ i,i<qs.length→Sma (qs.getD i [])):Tri qs:=fun q hq=>⟨(h3 q hq).1,by
 obtain ⟨i,hi,e⟩:=List.getElem_of_mem hq
 have:=h.2 i hi
 rw [List.getD_eq_getElem?_getD,List.getElem?_eq_getElem hi,e] at this
 exact this⟩
theorem few_true {n:Nat} {qs:List (List Int)} (h:qs.length≤n∧∀ i,i<qs.length→Sma (qs.getD i [])):fewb n qs=true:=by unfold fewb;exact @decide_eq_true _ (Classical.propDecidable _) h
theorem few_false {n:Nat} {qs:List (List Int)} (h:¬ (qs.length≤n∧∀ i,i<qs.length→Sma (qs.getD i []))):fewb n qs=false:=by unfold fewb;exact @decide_eq_false _ (Classical.propDecidable _) h
theorem tri_i64 {qs:List (List Int)} (ht:Tri qs) (h4:qs.length≤4):∀ c∈prodf [1] qs,I64 c:=fun c hc=>by
 have h1:=prodf_bd qs [1] 1 ht one_abs
 have h3:27^qs.length≤27^4:=Nat.pow_le_pow_right (by decide) h4
 obtain ⟨i,hi,e⟩:=List.getElem_of_mem hc
 have:=h1 i
 rw [List.getD_eq_getElem?_getD,List.getElem?_eq_getElem hi,e] at this
 simp at this
 unfold I64
 omega
theorem fcs_len {u:Int} {fs qs:List _} (hf0:u=0→fs=[]) (hf1:u≠0→fs=facs [] qs) (h5:qs.length≤5):fs.length≤100:=by
 have e2:=facs_len qs []
 simp only [List.length_nil] at e2
 by_cases hu0:u=0
 ·rw [hf0 hu0];exact Nat.zero_le _
 ·rw [hf1 hu0];omega
theorem fcs_fcp {u:Int} {fs qs:List _} (ht:Tri qs) (hu:u=0↔Zer qs) (hf0:u=0→fs=[]) (hf1:u≠0→fs=facs [] qs):∀ x∈fs,FcP x.1:=fun x hx=>by
 by_cases hu0:u=0
 ·rw [hf0 hu0] at hx;cases hx
 ·rw [hf1 hu0] at hx
  exact facs_fcp ht (fun hz=>hu0 (hu.2 hz)) x hx
end Go.Proofs.YtipocabbjinbhaaGreat
namespace Go.Proofs.YtipocabbjinbhaaGreat
open Go Go.RowKit
set_option maxRecDepth 100000 in
set_option maxHeartbeats 16000000 in
theorem law_signs (A:Option Addr) (la ca:Nat) (qs:List (List Int)) (B:Option Addr) (lb cb:Nat) (ps:List (List Int)) (w:World) (h:TrAt w A la ca qs) (hB:TrAt w B lb cb ps) (hlm:la≤9223372036854775807) (hlm2:lb≤9223372036854775807) :
 Calls Tryz.prog 4 #[.slice A la ca,.slice B lb cb] w fun e w'=>e=.returned (.bool true)∧Below w.heap.size w w':=by
 have HT3:=Lib.hid h.three
 have HT3':=Lib.hid hB.three
 have Hll:=Lib.hid h.length
 have Hll':=Lib.hid hB.length
 have H0:=Lib.hid h
 have HB0:=Lib.hid hB
 clear h hB
 go_enter Tryz.func4,Tryz.ntmps4
 go_wp2_with fail
 refine (awake15_any _).mono ?_
 rintro e w1 ⟨rfl,hb1⟩
 have H1:=Lib.hid (H0.out.below hb1)
 have HB1:=Lib.hid (HB0.out.below hb1)
 have Hb1:=Lib.hid hb1
 clear hb1 H0 HB0
 go_wp2_with fail
 refine (few_any H1.out 3 (by omega) hlm).mono ?_
 rintro e w2 ⟨rfl,hw2⟩
 obtain rfl:=hw2
 by_cases hfew:qs.length≤3∧∀ i,i<qs.length→Sma (qs.getD i [])
 ·rw [few_true hfew]
  have HT:=Lib.hid (few_tri HT3.out hfew)
  have H4:=Lib.hid hfew.1
  have h5:la≤5:=by rw [← Hll.out];have:=hfew.1;omega
  clear hfew
  go_wp2_with fail
  refine (few_any HB1.out 2 (by omega) hlm2).mono ?_
  rintro e w2 ⟨rfl,hw2⟩
  obtain rfl:=hw2
  by_cases hfew:ps.length≤2∧∀ i,i<ps.length→Sma (ps.getD i [])
  ·rw [few_true hfew]
   have HTp:=Lib.hid (few_tri HT3'.out hfew)
   have h5':lb≤5:=by rw [← Hll'.out];have:=hfew.1;omega
   have F9:=Lib.hid (known_p9 HT.out (by have:=H4.out;omega))
   obtain ⟨g6,gl5,gb⟩:=known_g6 HTp.out hfew.1
   have L6:=Lib.hid (known_l6 HT.out H4.out gl5)
   have G6:=Lib.hid g6
   have GL5:=Lib.hid gl5
   have HFt:=Lib.hid (prodf_trim qs [1] (by decide))
   have HGt:=Lib.hid (prodf_trim ps [1] (by decide))
   have HF64:=Lib.hid (tri_i64 HT.out (by have:=H4.out;omega))
   have HG64:=Lib.hid (tri_i64 HTp.out (by have:=hfew.1;omega))
   clear hfew g6 gl5
   go_wp2_with fail
   refine (factors_any H1.out h5 HT.out).mono ?_
   rintro e w3 ⟨⟨u,A3,l3,c3,fs,rfl,hu,hF,hf0,hf1⟩,hb3⟩
   have H3:=Lib.hid (H1.out.below hb3)
   have HB3:=Lib.hid (HB1.out.below hb3)
   have HF3:=Lib.hid hF
   have Hb3:=Lib.hid (Hb1.out.trans (hb3.mono Hb1.out.size))
   have hl3:l3≤100:=by rw [← hF.length];exact fcs_len hf0 hf1 (by have:=H4.out;omega)
   have HFC:=Lib.hid (fcs_fcp HT.out hu hf0 hf1)
   have K:=Lib.hid (show ∀ x y z:Int,SgV (prodf [1] qs) (prodf [1] ps) x y z→(x=csum (sone (prodf [1] ps) (-1)) fs∧y=csum (sone (prodf [1] ps) 0) fs∧z=csum (sone (prodf [1] ps) 1) fs) from fun x y z hv=>by
    obtain ⟨v1,v2,v3,v4,v5,v6⟩:=hv
    by_cases hu0:u=0
    ·have e0:=prodf_zer qs [1] (hu.1 hu0)
     rw [nall_nil' e0] at v1
     rw [hf0 hu0]
     have e1:∀ s,csum (sone (prodf [1] ps) s) []=0:=fun _=>rfl
     rw [e1,e1,e1]
     omega
    ·rw [hf1 hu0]
     have hz:¬ Zer qs:=fun hz=>hu0 (hu.2 hz)
     rw [known_all HT.out hz (by have:=H4.out;omega)] at v1
     rw [known_nq HT.out hz H4.out G6.out GL5.out] at v2
     have v7:=v6 (prodf_ne HT.out hz)
     rw [known_zero HT.out hz H4.out G6.out GL5.out] at v7
     obtain ⟨s1,s2⟩:=sone_three (prodf [1] ps) (facs [] qs)
     omega)
   have HU:=Lib.hid hu
   have Hf0:=Lib.hid hf0
   clear hb3 hF hu hf1 hf0
   -- the list, also where the unit is 0
   have HF30:=Lib.hid (show u=0→FsAt w3 none 0 0 fs from fun hu0=>by rw [Hf0.out hu0];exact ⟨rfl,Nat.le_refl _,.inl ⟨rfl,rfl,rfl⟩⟩)
   by_cases hu0:u=0
   ·have bu:(u == 0)=true:=by rw [beq_iff_eq];exact hu0
    have HFx:=Lib.hid (HF30.out hu0)
    have hlx:(0:Nat)≤100:=by omega
    clear hu0
    go_wp2_with fail;(refine (fprod_any HB3.out h5' HTp.out).mono ?_);rintro e w4 ⟨⟨A4,l4,c4,rfl,h4⟩,hb4⟩;have HG4:=Lib.hid h4;have hl4:l4≤5:=(by rw [← h4.length];exact GL5.out);have H44:=Lib.hid (H3.out.below hb4);have HF4:=Lib.hid (fs_below HFx.out hb4);have Hb4:=Lib.hid (Hb3.out.trans (hb4.mono Hb3.out.size));clear h4 hb4;go_wp2_with fail;(refine (signs15_any HF4.out hlx HFC.out HG4.out hl4 gb).mono ?_);rintro e w5 ⟨rfl,hb5⟩;have HG5:=Lib.hid (HG4.out.below hb5);have H5:=Lib.hid (H44.out.below hb5);have Hb5:=Lib.hid (Hb4.out.trans (hb5.mono Hb4.out.size));clear hb5;generalize csum (sone (prodf [1] ps) (-1)) fs=c0 at K ⊢;generalize csum (sone (prodf [1] ps) 0) fs=c1 at K ⊢;generalize csum (sone (prodf [1] ps) 1) fs=c2 at K ⊢;go_wp2_with fail;obtain ⟨w6,hw6⟩:∃ w6,w6=w5.alloc (.cells #[.int .i64 c0,.int .i64 c1,.int .i64 c2] 37):=⟨_,rfl⟩;have HK6:=Lib.hid (Blk.new w5 37 #[.int .i64 c0,.int .i64 c1,.int .i64 c2]);have HB6:=Lib.hid (below_new w5 (.cells #[.int .i64 c0,.int .i64 c1,.int .i64 c2] 37));rw [← hw6] at HK6 HB6 ⊢;obtain ⟨G8,hG8⟩:∃ G,G=w5.heap.size:=⟨_,rfl⟩;have H6:=Lib.hid (H5.out.below HB6.out);have HG6:=Lib.hid (HG5.out.below HB6.out);have Hb6:=Lib.hid (Hb5.out.trans (HB6.out.mono Hb5.out.size));rw [← hG8] at HK6 ⊢;clear hw6 hG8 HB6;(refine (fprod_any H6.out h5 HT.out).mono ?_);rintro e w77 ⟨⟨A77,l77,c77,rfl,h77⟩,hb77⟩;have hl77:l77≤1000:=(by rw [← h77.length];have:=prodf_len qs [1] 0 HT.out (by decide) (by decide);have:=H4.out;omega);have h77':=Lib.hid h77;have HK77:=Lib.hid (HK6.out.below hb77 HK6.out.lt);have H77:=Lib.hid (H6.out.below hb77);have HG77:=Lib.hid (HG6.out.below hb77);have Hb77:=Lib.hid (Hb6.out.trans (hb77.mono Hb6.out.size));clear h77 hb77;go_wp2_with fail;(refine (pol15_any _ _ _ (prodf [1] qs) _ h77'.out hl77 HF64.out).mono ?_);rintro e w78 ⟨A78,l78,c78,rfl,h78,hb78⟩;rw [HFt.out] at h78;have h78':=Lib.hid h78;have hlf7:l78≤1000000:=(by have:=h78.length;have:=prodf_len qs [1] 0 HT.out (by decide) (by decide);have:=H4.out;omega);have HK78:=Lib.hid (HK77.out.below hb78 HK77.out.lt);have H78:=Lib.hid (H77.out.below hb78);have HG78:=Lib.hid (HG77.out.below hb78);have Hb78:=Lib.hid (Hb77.out.trans (hb78.mono Hb77.out.size));clear h78 hb78;go_wp2_with fail;(refine (pol15_any _ _ _ (prodf [1] ps) _ HG78.out (by omega) HG64.out).mono ?_);rintro e w79 ⟨A79,l79,c79,rfl,h79,hb79⟩;rw [HGt.out] at h79;have Q79:=Lib.hid h79;have P79:=Lib.hid (h78'.out.below ikN hb79);have HK79:=Lib.hid (HK78.out.below hb79 HK78.out.lt);have H79:=Lib.hid (H78.out.below hb79);have HG79:=Lib.hid (HG78.out.below hb79);have Hb79:=Lib.hid (Hb78.out.trans (hb79.mono Hb78.out.size));clear h79 hb79;go_wp2_with fail;(refine (signs_any _ _ _ (prodf [1] qs) _ _ _ (prodf [1] ps) _ P79.out Q79.out F9.out L6.out G6.out hlf7).mono ?_);rintro e w10 ⟨⟨x,y,z,rfl,hv,bx,_,bz⟩,hb10⟩;have ax:=hv.a0;have az:=hv.c0;have tW:IntKind.i64.wrap (z-x)=z-x:=IntWalk.i64_in _ (by omega);have hkk:=K.out x y z hv;obtain ⟨rfl,rfl,rfl⟩:=hkk;have hNQ:=hv.d;have hbdx:=hv.s;have HK10:=Lib.hid (HK79.out.below hb10 HK79.out.lt);have H10:=Lib.hid (H79.out.below hb10);have HG10:=Lib.hid (HG79.out.below hb10);have Hb10:=Lib.hid (Hb79.out.trans (hb10.mono Hb79.out.size));have HNQ:=Lib.hid hNQ;have q0:w10.cell? ⟨G8,0,none⟩=some (.int .i64 x):=(by rw [HK10.out.cell];rfl);have q1:w10.cell? ⟨G8,1,none⟩=some (.int .i64 y):=(by rw [HK10.out.cell];rfl);have q2:w10.cell? ⟨G8,2,none⟩=some (.int .i64 z):=(by rw [HK10.out.cell];rfl);clear hb10 hv hNQ hbdx ax az bx bz;go_wp2_with fail;(refine (fprod_any H10.out h5 HT.out).mono ?_);rintro e w87 ⟨⟨A87,l87,c87,rfl,h87⟩,hb87⟩;have hl87:l87≤1000:=(by rw [← h87.length];have:=prodf_len qs [1] 0 HT.out (by decide) (by decide);have:=H4.out;omega);have h87':=Lib.hid h87;have HK87:=Lib.hid (HK10.out.below hb87 HK10.out.lt);have H87:=Lib.hid (H10.out.below hb87);have HG87:=Lib.hid (HG10.out.below hb87);have Hb87:=Lib.hid (Hb10.out.trans (hb87.mono Hb10.out.size));clear h87 hb87;go_wp2_with fail;(refine (pol15_any _ _ _ (prodf [1] qs) _ h87'.out hl87 HF64.out).mono ?_);rintro e w88 ⟨A88,l88,c88,rfl,h88,hb88⟩;rw [HFt.out] at h88;have h88':=Lib.hid h88;have hlf8:l88≤1000000:=(by have:=h88.length;have:=prodf_len qs [1] 0 HT.out (by decide) (by decide);have:=H4.out;omega);have HK88:=Lib.hid (HK87.out.below hb88 HK87.out.lt);have H88:=Lib.hid (H87.out.below hb88);have HG88:=Lib.hid (HG87.out.below hb88);have Hb88:=Lib.hid (Hb87.out.trans (hb88.mono Hb87.out.size));clear h88 hb88;go_wp2_with fail;(refine (pol15_any _ _ _ (prodf [1] ps) _ HG88.out (by omega) HG64.out).mono ?_);rintro e w89 ⟨A89,l89,c89,rfl,h89,hb89⟩;rw [HGt.out] at h89;have Q89:=Lib.hid h89;have P89:=Lib.hid (h88'.out.below ikN hb89);have HK89:=Lib.hid (HK88.out.below hb89 HK88.out.lt);have H89:=Lib.hid (H88.out.below hb89);have HG89:=Lib.hid (HG88.out.below hb89);have Hb89:=Lib.hid (Hb88.out.trans (hb89.mono Hb88.out.size));clear h89 hb89;go_wp2_with fail;(refine (qall_any ikN ikN _ _ _ (prodf [1] qs) _ _ _ (prodf [1] ps) _ P89.out Q89.out F9.out L6.out G6.out hlf8).mono ?_);rintro e w11 ⟨rfl,hb11⟩;rw [← HNQ.out];have Hb11:=Lib.hid (Hb89.out.trans (hb11.mono Hb89.out.size));clear hb11 q0 q1 q2;go_wp2;go_ret;exact ⟨by simp,Hb11.out⟩
   ·have bu:(u == 0)=false:=by rw [beq_eq_false_iff_ne];exact hu0
    have HFx:=HF3
    have hlx:=hl3
    clear hu0
    go_wp2_with fail;(refine (fprod_any HB3.out h5' HTp.out).mono ?_);rintro e w4 ⟨⟨A4,l4,c4,rfl,h4⟩,hb4⟩;have HG4:=Lib.hid h4;have hl4:l4≤5:=(by rw [← h4.length];exact GL5.out);have H44:=Lib.hid (H3.out.below hb4);have HF4:=Lib.hid (fs_below HFx.out hb4);have Hb4:=Lib.hid (Hb3.out.trans (hb4.mono Hb3.out.size));clear h4 hb4;go_wp2_with fail;(refine (signs15_any HF4.out hlx HFC.out HG4.out hl4 gb).mono ?_);rintro e w5 ⟨rfl,hb5⟩;have HG5:=Lib.hid (HG4.out.below hb5);have H5:=Lib.hid (H44.out.below hb5);have Hb5:=Lib.hid (Hb4.out.trans (hb5.mono Hb4.out.size));clear hb5;generalize csum (sone (prodf [1] ps) (-1)) fs=c0 at K ⊢;generalize csum (sone (prodf [1] ps) 0) fs=c1 at K ⊢;generalize csum (sone (prodf [1] ps) 1) fs=c2 at K ⊢;go_wp2_with fail;obtain ⟨w6,hw6⟩:∃ w6,w6=w5.alloc (.cells #[.int .i64 c0,.int .i64 c1,.int .i64 c2] 37):=⟨_,rfl⟩;have HK6:=Lib.hid (Blk.new w5 37 #[.int .i64 c0,.int .i64 c1,.int .i64 c2]);have HB6:=Lib.hid (below_new w5 (.cells #[.int .i64 c0,.int .i64 c1,.int .i64 c2] 37));rw [← hw6] at HK6 HB6 ⊢;obtain ⟨G8,hG8⟩:∃ G,G=w5.heap.size:=⟨_,rfl⟩;have H6:=Lib.hid (H5.out.below HB6.out);have HG6:=Lib.hid (HG5.out.below HB6.out);have Hb6:=Lib.hid (Hb5.out.trans (HB6.out.mono Hb5.out.size));rw [← hG8] at HK6 ⊢;clear hw6 hG8 HB6;(refine (fprod_any H6.out h5 HT.out).mono ?_);rintro e w77 ⟨⟨A77,l77,c77,rfl,h77⟩,hb77⟩;have hl77:l77≤1000:=(by rw [← h77.length];have:=prodf_len qs [1] 0 HT.out (by decide) (by decide);have:=H4.out;omega);have h77':=Lib.hid h77;have HK77:=Lib.hid (HK6.out.below hb77 HK6.out.lt);have H77:=Lib.hid (H6.out.below hb77);have HG77:=Lib.hid (HG6.out.below hb77);have Hb77:=Lib.hid (Hb6.out.trans (hb77.mono Hb6.out.size));clear h77 hb77;go_wp2_with fail;(refine (pol15_any _ _ _ (prodf [1] qs) _ h77'.out hl77 HF64.out).mono ?_);rintro e w78 ⟨A78,l78,c78,rfl,h78,hb78⟩;rw [HFt.out] at h78;have h78':=Lib.hid h78;have hlf7:l78≤1000000:=(by have:=h78.length;have:=prodf_len qs [1] 0 HT.out (by decide) (by decide);have:=H4.out;omega);have HK78:=Lib.hid (HK77.out.below hb78 HK77.out.lt);have H78:=Lib.hid (H77.out.below hb78);have HG78:=Lib.hid (HG77.out.below hb78);have Hb78:=Lib.hid (Hb77.out.trans (hb78.mono Hb77.out.size));clear h78 hb78;go_wp2_with fail;(refine (pol15_any _ _ _ (prodf [1] ps) _ HG78.out (by omega) HG64.out).mono ?_);rintro e w79 ⟨A79,l79,c79,rfl,h79,hb79⟩;rw [HGt.out] at h79;have Q79:=Lib.hid h79;have P79:=Lib.hid (h78'.out.below ikN hb79);have HK79:=Lib.hid (HK78.out.below hb79 HK78.out.lt);have H79:=Lib.hid (H78.out.below hb79);have HG79:=Lib.hid (HG78.out.below hb79);have Hb79:=Lib.hid (Hb78.out.trans (hb79.mono Hb78.out.size));clear h79 hb79;go_wp2_with fail;(refine (signs_any _ _ _ (prodf [1] qs) _ _ _ (prodf [1] ps) _ P79.out Q79.out F9.out L6.out G6.out hlf7).mono ?_);rintro e w10 ⟨⟨x,y,z,rfl,hv,bx,_,bz⟩,hb10⟩;have ax:=hv.a0;have az:=hv.c0;have tW:IntKind.i64.wrap (z-x)=z-x:=IntWalk.i64_in _ (by omega);have hkk:=K.out x y z hv;obtain ⟨rfl,rfl,rfl⟩:=hkk;have hNQ:=hv.d;have hbdx:=hv.s;have HK10:=Lib.hid (HK79.out.below hb10 HK79.out.lt);have H10:=Lib.hid (H79.out.below hb10);have HG10:=Lib.hid (HG79.out.below hb10);have Hb10:=Lib.hid (Hb79.out.trans (hb10.mono Hb79.out.size));have HNQ:=Lib.hid hNQ;have q0:w10.cell? ⟨G8,0,none⟩=some (.int .i64 x):=(by rw [HK10.out.cell];rfl);have q1:w10.cell? ⟨G8,1,none⟩=some (.int .i64 y):=(by rw [HK10.out.cell];rfl);have q2:w10.cell? ⟨G8,2,none⟩=some (.int .i64 z):=(by rw [HK10.out.cell];rfl);clear hb10 hv hNQ hbdx ax az bx bz;go_wp2_with fail;(refine (fprod_any H10.out h5 HT.out).mono ?_);rintro e w87 ⟨⟨A87,l87,c87,rfl,h87⟩,hb87⟩;have hl87:l87≤1000:=(by rw [← h87.length];have:=prodf_len qs [1] 0 HT.out (by decide) (by decide);have:=H4.out;omega);have h87':=Lib.hid h87;have HK87:=Lib.hid (HK10.out.below hb87 HK10.out.lt);have H87:=Lib.hid (H10.out.below hb87);have HG87:=Lib.hid (HG10.out.below hb87);have Hb87:=Lib.hid (Hb10.out.trans (hb87.mono Hb10.out.size));clear h87 hb87;go_wp2_with fail;(refine (pol15_any _ _ _ (prodf [1] qs) _ h87'.out hl87 HF64.out).mono ?_);rintro e w88 ⟨A88,l88,c88,rfl,h88,hb88⟩;rw [HFt.out] at h88;have h88':=Lib.hid h88;have hlf8:l88≤1000000:=(by have:=h88.length;have:=prodf_len qs [1] 0 HT.out (by decide) (by decide);have:=H4.out;omega);have HK88:=Lib.hid (HK87.out.below hb88 HK87.out.lt);have H88:=Lib.hid (H87.out.below hb88);have HG88:=Lib.hid (HG87.out.below hb88);have Hb88:=Lib.hid (Hb87.out.trans (hb88.mono Hb87.out.size));clear h88 hb88;go_wp2_with fail;(refine (pol15_any _ _ _ (prodf [1] ps) _ HG88.out (by omega) HG64.out).mono ?_);rintro e w89 ⟨A89,l89,c89,rfl,h89,hb89⟩;rw [HGt.out] at h89;have Q89:=Lib.hid h89;have P89:=Lib.hid (h88'.out.below ikN hb89);have HK89:=Lib.hid (HK88.out.below hb89 HK88.out.lt);have H89:=Lib.hid (H88.out.below hb89);have HG89:=Lib.hid (HG88.out.below hb89);have Hb89:=Lib.hid (Hb88.out.trans (hb89.mono Hb88.out.size));clear h89 hb89;go_wp2_with fail;(refine (qall_any ikN ikN _ _ _ (prodf [1] qs) _ _ _ (prodf [1] ps) _ P89.out Q89.out F9.out L6.out G6.out hlf8).mono ?_);rintro e w11 ⟨rfl,hb11⟩;rw [← HNQ.out];have Hb11:=Lib.hid (Hb89.out.trans (hb11.mono Hb89.out.size));clear hb11 q0 q1 q2;go_wp2;go_ret;exact ⟨by simp,Hb11.out⟩
  ·rw [few_false hfew]
   clear hfew
   go_wp2_with fail
   (refine (awake15_any _).mono ?_);rintro e w2 ⟨rfl,hb2⟩;have Hb2:=Lib.hid (Hb1.out.trans (hb2.mono Hb1.out.size));clear hb2;go_wp2;go_ret;exact ⟨rfl,Hb2.out⟩
 ·rw [few_false hfew]
  clear hfew
  go_wp2_with fail
  (refine (awake15_any _).mono ?_);rintro e w2 ⟨rfl,hb2⟩;have Hb2:=Lib.hid (Hb1.out.trans (hb2.mono Hb1.out.size));clear hb2;go_wp2;go_ret;exact ⟨rfl,Hb2.out⟩
end Go.Proofs.YtipocabbjinbhaaGreat
namespace Go.Proofs.YtipocabbjinbhaaGreat
open Go.ChangeShapes Go.WideShapes Go.ChangeAt Go.RowKit
set_option maxRecDepth 100000 in
theorem signs_lifted (os:Os) (started:os.Started) (H:Type) (enc:TypeId×Value→H) :
 ReturnsInHanded {} Tryz.checked os 4 .any (Rows.sturmSignsSpec.pre6 enc Tryz.prog Tryz.f4 Rows.sturmSignsRow.domain false) (Rows.sturmSignsSpec.post enc Tryz.prog Tryz.f4 false true false false):=by
 refine returnsInHanded_of_change (C:=Tryz.checked) Tryz.own started (by kernel_rfl) Tryz.func4
  (ChangeSpec.witness6 (enc:=enc) (C:=Tryz.checked) false ⟨#[],#[.slice none 0 0,.slice none 0 0],[]⟩ 8 (by kernel_rfl) (by kernel_rfl) (by kernel_rfl) (by kernel_rfl)) ?_
 intro W base args ds gs before hval0 hW hcnd _
 exact lifted_twotr _ Tryz.f4 Tryz.params4 rfl enc _ rfl (fun _ _=>rfl) (fun A la ca p B lb cb q w h h' hl hl'=>law_signs A la ca p B lb cb q w h h' hl hl') W args ds gs before hval0 hW
theorem sturmSigns_holds:Rows.SturmSignsSaid :=
 OpenClaim.holds_of_wide 4 Tryz.f4 rfl rfl rfl rfl rfl rfl rfl ⟨rfl,rfl,rfl,rfl,rfl⟩ rfl rfl rfl rfl rfl (by kernel_rfl) Tryz.func4 (by kernel_rfl)
  (of_decide_eq_true (by kernel_rfl)) (by unfold Func.isWrapper;first | (rw [if_pos (by decide +kernel)];kernel_rfl) | (rw [if_neg (by decide +kernel)];exact ⟨rfl,rfl⟩))
  (fun os started H enc _=>signs_lifted os started H enc)
#print axioms sturmSigns_holds
end Go.Proofs.YtipocabbjinbhaaGreat
