/- Products of linear and quadratic polynomials, their factors, and the positive roots. Plain: no program. -/
import Derived.Test.YtjmglmgokfcgoaaGreatRpg
import Derived.Test.YtjmglmgokfcgoaaGreatRf0
namespace Go.Proofs.YtjmglmgokfcgoaaGreat
open Go.RowKit
def nrm (p:List Int):List Int:=tab (plen p) fun j=>(p.getD j 0).tdiv (rnu p)
def dsc (g:List Int):Int:=g.getD 1 0*g.getD 1 0-4*g.getD 2 0*g.getD 0 0
def isQd (p:List Int):Prop:=p.length=3∧0<p.getD 2 0∧∀ s:Nat,(s:Int)*(s:Int)≠dsc p
open Classical in
noncomputable def sqd (g:List Int):Option Nat:=if h:∃ s:Nat,(s:Int)*(s:Int)=dsc g then some h.choose else none
def lin1 (g:List Int) (s:Int):List Int:=nrm [g.getD 1 0+s,2*g.getD 2 0]
noncomputable def spl (q:List Int):List (List Int) :=
 if plen q<2 then [] else if plen q=2 then [nrm q] else match sqd (nrm q) with
  | some s=>[lin1 (nrm q) (-(s:Int)),lin1 (nrm q) (s:Int)]
  | none=>[nrm q]
theorem list3 {g:List Int} (h:g.length=3):g=[g.getD 0 0,g.getD 1 0,g.getD 2 0]:=by
 match g,h with
 | [a,b,c],_=>rfl
theorem ev3 (a b c t:Int):ev [a,b,c] t=a+b*t+c*t*t:=by
 rw [rev_cons,rev_cons,rev_cons,show ev [] t=0 from rfl]
 grind
theorem ev2 (a b t:Int):ev [a,b] t=a+b*t:=by
 rw [rev_cons,rev_cons,show ev [] t=0 from rfl]
 grind
theorem sgq {c:Int} (h:0<c):sg c=1:=by
 rcases sg_cases c with ⟨h1,e⟩ | ⟨h1,e⟩ | ⟨h1,e⟩<;>omega
theorem qd_sgp {p:List Int} (h:isQd p) (hd:dsc p<0) (x:Pt):sgp p x≠0:=by
 have hp:=list3 h.1
 obtain ⟨L,hL⟩:∃ L,L=[p.getD 1 0,2*p.getD 2 0]:=⟨_,rfl⟩
 have e:∀ t,ev (psc (4*p.getD 2 0) p) t=ev (padd (polymul L L) [-dsc p]) t:=fun t=>by
  rw [ev_psc,ev_padd,ev_mul,hL,ev2,rev_cons (-dsc p),show ev [] t=0 from rfl]
  unfold dsc
  conv=>lhs;rw [hp]
  rw [ev3]
  simp only [List.getD_cons_zero,List.getD_cons_succ]
  grind
 have h1:=sgp_ev e x
 rw [sgp_psc,sgq (show 0<4*p.getD 2 0 by have:=h.2.1;omega),Int.one_mul] at h1
 have h2:sgp [-dsc p] x=1:=by rw [sgp_const,sgq (by omega)]
 have h3:sgp (polymul L L) x=1∨sgp (polymul L L) x=0:=by
  rw [sgp_mul]
  rcases sgp_or L x with c | c | c<;>rw [c]<;>simp
 rw [h1]
 have hc:sgp (padd (polymul L L) [-dsc p]) x=1:=by
  rcases h3 with c | c
  ·have:sgf (fun q=>pv (polymul L L) q+pv [-dsc p] q) x=1:=sgf_addp c h2
   have e2:sgp (padd (polymul L L) [-dsc p]) x=sgf (fun q=>pv (polymul L L) q+pv [-dsc p] q) x:=by
    unfold sgp
    congr 1
    funext q
    exact pv_padd _ _ q
   rw [e2,this]
  ·have e2:∀ t,ev (padd (polymul L L) [-dsc p]) t=ev (padd [-dsc p] (polymul L L)) t:=fun t=>by rw [ev_padd,ev_padd,Int.add_comm]
   rw [sgp_ev e2,sgp_add0 c,h2]
 rw [hc]
 decide
end Go.Proofs.YtjmglmgokfcgoaaGreat
