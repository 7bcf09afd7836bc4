/- For every slice of triples of int8s the law RootboundSeparation returns true and its argument reads as before: Separation returns the specified exponent of the square-free part. No condition. -/
import Derived.Test.YtjmglmgokfcgoaaGreatSqw
import Derived.Test.YtjmglmgokfcgoaaGreatFcp
import Derived.Test.YtjmglmgokfcgoaaGreatGcx
import Derived.Test.YtjmglmgokfcgoaaGreatDer
import Derived.Test.YtjmglmgokfcgoaaGreatExq
import Derived.Test.YtjmglmgokfcgoaaGreatBits
import Derived.Test.YtjmglmgokfcgoaaGreatPart
import Derived.Test.YtjmglmgokfcgoaaGreatFca
import Derived.Test.YtjmglmgokfcgoaaGreatAp0
import Derived.Test.YtjmglmgokfcgoaaGreatStg
import Derived.Test.YtjmglmgokfcgoaaGreatBte
import Derived.Test.YtjmglmgokfcgoaaGreatRowL
namespace Go.Proofs.YtjmglmgokfcgoaaGreat
open Go.RowKit
def dgm (f g:List Int):List Int:=polymul (ptrim (pder f)) (ptrim g)
def nq (f g:List Int):Int:=pline 12 f (dgm f g)
end Go.Proofs.YtjmglmgokfcgoaaGreat
namespace Go.Proofs.YtjmglmgokfcgoaaGreat
open Go.RowKit
structure G6 (g:List Int):Prop where
 len:g.length≤6
 b:∀ j,(g.getD j 0).natAbs≤BB
theorem G6.plen {g:List Int} (h:G6 g):plen g≤6:=by have:=plen_le g;have:=h.len;omega
end Go.Proofs.YtjmglmgokfcgoaaGreat
namespace Go.Proofs.YtjmglmgokfcgoaaGreat
open Go.RowKit
end Go.Proofs.YtjmglmgokfcgoaaGreat
namespace Go.Proofs.YtjmglmgokfcgoaaGreat
open Go.RowKit
def atv (n d:Int):List Int→Int
 | []=>0
 | a :: t=>atv n d t*n+a*d^t.length
theorem atv_pv {n d:Int} (hd:0<d):∀ f:List Int,((atv n d f:Int):Rat)*(d:Rat)=(d:Rat)^f.length*pv f ((n:Rat) / (d:Rat))
 | []=>by
   show ((0:Int):Rat)*_=_*0
   rw [Rat.mul_zero]
   simp
 | a :: t=>by
   have ih:=atv_pv (n:=n) hd t
   have hd':(0:Rat)<(d:Rat):=by exact_mod_cast hd
   show ((atv n d t*n+a*d^t.length:Int):Rat)*(d:Rat)=(d:Rat)^(t.length+1)*((a:Rat)+(n:Rat) / (d:Rat)*pv t ((n:Rat) / (d:Rat)))
   rw [Rat.intCast_add,Rat.intCast_mul,Rat.intCast_mul,Rat.intCast_pow,Rat.pow_succ]
   have e:(d:Rat)*((n:Rat) / (d:Rat))=(n:Rat):=by rw [Rat.mul_comm,Rat.div_mul_cancel (by grind)]
   generalize pv t ((n:Rat) / (d:Rat))=P at *
   generalize (n:Rat) / (d:Rat)=y at *
   generalize (d:Rat)^t.length=E at *
   generalize ((atv n d t:Int):Rat)=A at *
   have h1:A*(n:Rat)*(d:Rat)=(E*P)*((d:Rat)*y):=by rw [e,← ih];grind
   rw [Rat.add_mul,h1]
   grind
theorem atv_sg {n d:Int} (hd:0<d) (f:List Int):sg (atv n d f)=sgp f (Pt.of ((n:Rat) / (d:Rat))):=by
 have hd':(0:Rat)<(d:Rat):=by exact_mod_cast hd
 unfold sgp
 rw [sgf_of (lp_pv f)]
 have h:=atv_pv (n:=n) hd f
 have hE:(0:Rat)<(d:Rat)^f.length:=Rat.pow_pos hd'
 generalize pv f ((n:Rat) / (d:Rat))=P at *
 generalize (d:Rat)^f.length=E at *
 rcases sg_cases (atv n d f) with ⟨c,e⟩ | ⟨c,e⟩ | ⟨c,e⟩<;>rw [e]
 ·have c':((atv n d f:Int):Rat)<0:=by exact_mod_cast c
  have h1:E*P<0:=by
   rw [← h]
   have:=Rat.mul_pos (show (0:Rat) < -((atv n d f:Int):Rat) by grind) hd'
   grind
  have h2:P<0:=Classical.byContradiction fun hn=>by
   have:=Rat.mul_nonneg (Rat.le_of_lt hE) (show (0:Rat)≤P by grind)
   grind
  rw [if_neg (by grind),if_pos h2]
 ·rw [c] at h
  have h1:E*P=0:=by rw [← h];simp
  have h2:P=0:=by
   rcases Rat.mul_eq_zero.1 h1 with c | c
   ·grind
   ·exact c
  rw [h2]
  rfl
 ·have c':(0:Rat)<((atv n d f:Int):Rat):=by exact_mod_cast c
  have h1:0<E*P:=by rw [← h];exact Rat.mul_pos c' hd'
  have h2:0<P:=Classical.byContradiction fun hn=>by
   have:=Rat.mul_nonneg (Rat.le_of_lt hE) (show (0:Rat)≤-P by grind)
   grind
  rw [if_pos h2]
def Irr (p:List Int):Prop:=(isLin p∨isQd p)∧pcont p=1
theorem isLin.plen {p:List Int} (h:isLin p):Go.Proofs.YtjmglmgokfcgoaaGreat.plen p=2:=plen_eq p 1 (by have:=plen_le p;have:=h.1;omega) (by have:=h.2;omega)
theorem isQd.plen {p:List Int} (h:isQd p):Go.Proofs.YtjmglmgokfcgoaaGreat.plen p=3:=plen_eq p 2 (by have:=plen_le p;have:=h.1;omega) (by have:=h.2.1;omega)
theorem qd_rat {p:List Int} (h:isQd p) {n d:Int} (hd:0<d):sgp p (Pt.of ((n:Rat) / (d:Rat)))≠0:=fun h0=>by
 rw [← atv_sg hd] at h0
 have h1:atv n d p=0:=by rcases sg_cases (atv n d p) with ⟨_,e⟩ | ⟨c,_⟩ | ⟨_,e⟩<;>first | exact c | omega
 have hp:=list3 h.1
 rw [hp] at h1
 generalize ha:p.getD 0 0=a at *
 generalize hb:p.getD 1 0=b at *
 generalize hc:p.getD 2 0=c at *
 have h2:((0*n+c*d^0)*n+b*d^1)*n+a*d^2=0:=h1
 have h3:(2*c*n+b*d)*(2*c*n+b*d)=dsc p*(d*d):=by unfold dsc;rw [ha,hb,hc];grind
 generalize 2*c*n+b*d=m at h3
 have h4:d.natAbs^2∣m.natAbs^2:=by
  have e:m.natAbs^2=(dsc p).natAbs*d.natAbs^2:=by
   have:=congrArg Int.natAbs h3
   rw [Int.natAbs_mul,Int.natAbs_mul,Int.natAbs_mul] at this
   rw [Nat.pow_two,Nat.pow_two]
   exact this
  rw [e]
  exact Nat.dvd_mul_left _ _
 obtain ⟨s,hs⟩:=(Nat.pow_dvd_pow_iff (by decide)).1 h4
 refine h.2.2 s ?_
 have h5:(m.natAbs:Int)*(m.natAbs:Int)=m*m:=Int.natAbs_mul_self' m
 have h6:(d.natAbs:Int)=d:=by omega
 rw [hs,Int.natCast_mul,h6,h3] at h5
 have h7:(d*d)*((s:Int)*(s:Int))=(d*d)*dsc p:=by grind
 exact Int.eq_of_mul_eq_mul_left (by have:=Int.mul_pos hd hd;omega) h7
end Go.Proofs.YtjmglmgokfcgoaaGreat
namespace Go.Proofs.YtjmglmgokfcgoaaGreat
open Go.RowKit
theorem irr_prop {p r:List Int} (hp:Irr p) (hr:Irr r) (hl:p.length=r.length) {a b:Int} (ha:0<a) (hb:0<b) (h:∀ k,a*p.getD k 0=b*r.getD k 0):p=r:=by
 have h1:pcont (psc a p)=pcont (psc b r):=pcont_ext fun k=>by rw [psc_get,psc_get,h]
 rw [pcont_psc,pcont_psc,hp.2,hr.2] at h1
 have hab:a=b:=by omega
 subst hab
 refine List.ext_getElem hl fun k h2 h3=>?_
 have:=Int.eq_of_mul_eq_mul_left (by omega) (h k)
 rw [List.getD_eq_getElem?_getD,List.getElem?_eq_getElem h2,List.getD_eq_getElem?_getD,List.getElem?_eq_getElem h3] at this
 exact this
def Dis (l:List (List Int×Nat)):Prop:=l.Pairwise fun a b=>a.1≠b.1
theorem with_dis {p:List Int}:∀ {l:List (List Int×Nat)},Dis l→Dis (withf l p)∧∀ y∈withf l p,y.1=p∨∃ z∈l,y.1=z.1
 | [],_=>⟨List.pairwise_singleton _ _,fun y hy=>.inl (by rw [List.mem_singleton.1 hy])⟩
 | (r,m) :: l,h=>by
   have h':=List.pairwise_cons.1 h
   unfold withf
   split
   ·rename_i e
    refine ⟨List.pairwise_cons.2 ⟨fun y hy=>h'.1 y hy,h'.2⟩,fun y hy=>?_⟩
    rcases List.mem_cons.1 hy with e2 | e2
    ·rw [e2];exact .inl e
    ·exact .inr ⟨y,List.mem_cons_of_mem _ e2,rfl⟩
   ·rename_i e
    obtain ⟨i1,i2⟩:=with_dis (p:=p) h'.2
    refine ⟨List.pairwise_cons.2 ⟨fun y hy e3=>?_,i1⟩,fun y hy=>?_⟩
    ·rcases i2 y hy with c | ⟨z,hz,c⟩
     ·exact e (by rw [← c];exact e3)
     ·exact h'.1 z hz (by rw [← c];exact e3)
    ·rcases List.mem_cons.1 hy with e2 | e2
     ·exact .inr ⟨(r,m),List.mem_cons_self,by rw [e2]⟩
     ·rcases i2 y e2 with c | ⟨z,hz,c⟩
      ·exact .inl c
      ·exact .inr ⟨z,List.mem_cons_of_mem _ hz,c⟩
theorem addf_dis:∀ {ps:List (List Int)} {l:List (List Int×Nat)},Dis l→Dis (addf l ps)
 | [],_,h=>h
 | p :: ps,l,h=>show Dis (addf (withf l p) ps) from addf_dis (ps:=ps) (with_dis h).1
theorem facs_dis:∀ {qs:List (List Int)} {l:List (List Int×Nat)},Dis l→Dis (facs l qs)
 | [],_,h=>h
 | q :: qs,l,h=>show Dis (facs (addf l (spl q)) qs) from facs_dis (qs:=qs) (addf_dis h)
theorem nrm_cont {p:List Int} (h:plen p≠0):pcont (nrm p)=1:=by
 have h1:pcont (psc (rnu p) (nrm p))=pcont p:=pcont_ext fun k=>by rw [psc_get,nrm_get h]
 rw [pcont_psc] at h1
 have h2:(rnu p).natAbs=pcont p:=by unfold rnu;split<;>omega
 rw [h2] at h1
 exact Nat.eq_of_mul_eq_mul_left (Nat.pos_of_ne_zero (pcont_ne h)) (by rw [h1,Nat.mul_one])
theorem spl_irr {q:List Int} (h:plen q≠0) (h3:plen q≤3):∀ p∈spl q,Irr p:=fun p hp=>⟨(spl_spec h h3).1 p hp,by
 have hld:=nrm_lead h
 unfold spl at hp
 split at hp
 ·cases hp
 ·split at hp
  ·rw [List.mem_singleton.1 hp];exact nrm_cont h
  ·have c3:plen q=3:=by omega
   rw [c3] at hld
   have hn:∀ z:Int,plen [(nrm q).getD 1 0+z,2*(nrm q).getD 2 0]≠0:=fun z=>by
    rw [plen_cons_succ (by rw [plen_cons_one rfl (by show 2*(nrm q).getD 2 0≠0;have:0<(nrm q).getD 2 0:=hld;omega)];omega)]
    omega
   split at hp
   ·rcases List.mem_cons.1 hp with e | e
    ·rw [e];exact nrm_cont (hn _)
    ·rw [List.mem_singleton.1 e];exact nrm_cont (hn _)
   ·rw [List.mem_singleton.1 hp];exact nrm_cont h⟩
theorem facs_irr {qs:List (List Int)} (hq:∀ q∈qs,plen q≠0∧plen q≤3):∀ x∈facs [] qs,Irr x.1:=facs_mem (fun q h=>spl_irr (hq q h).1 (hq q h).2) (fun x hx=>by cases hx)
end Go.Proofs.YtjmglmgokfcgoaaGreat
namespace Go.Proofs.YtjmglmgokfcgoaaGreat
def dv:List Int→Int→Int
 | [],_=>0
 | _ :: t,x=>ev t x+x*dv t x
theorem dv_taylor (x h:Int):∀ p,∃ A,ev p (x+h)=ev p x+h*dv p x+h*h*A
 | []=>⟨0,by rw [ev_nil,ev_nil];show (0:Int)=0+h*0+h*h*0;simp⟩
 | a :: t=>by
   obtain ⟨A,hA⟩:=dv_taylor x h t
   refine ⟨dv t x+x*A+h*A,?_⟩
   rw [ev_cons,ev_cons,hA]
   show a+(x+h)*(ev t x+h*dv t x+h*h*A)=a+x*ev t x+h*(ev t x+x*dv t x)+h*h*(dv t x+x*A+h*A)
   grind
theorem int_small_dvd {k d:Int} (h:k∣d) (hk:(d.natAbs:Int)<k):d=0:=by
 have h1:k.natAbs∣d.natAbs:=Int.natAbs_dvd_natAbs.2 h
 have h2:=Nat.eq_zero_of_dvd_of_lt h1 (by omega)
 omega
theorem all_dvd_zero {d:Int} (h:∀ k:Int,0<k→k∣d):d=0:=by
 have h1:=h ((d.natAbs:Int)+1) (by omega)
 exact int_small_dvd h1 (by omega)
theorem taylor_alg {k a0 a1 B b0 b1 C p1 A:Int} (hk:k≠0) (e:a0*b0+k*p1+k*k*A=(a0+k*a1+k*k*B)*(b0+k*b1+k*k*C)) :
 p1-(a1*b0+a0*b1)=k*((a0*C+a1*b1+B*b0+k*(a1*C+B*b1)+k*k*(B*C))-A):=by
 refine Int.eq_of_mul_eq_mul_left hk ?_
 have e2:(a0+k*a1+k*k*B)*(b0+k*b1+k*k*C)=a0*b0+k*(a1*b0+a0*b1)+k*k*(a0*C+a1*b1+B*b0)+k*k*k*(a1*C+B*b1)+k*k*k*k*(B*C):=by grind
 rw [e2] at e
 have e3:k*p1=k*(a1*b0+a0*b1)+k*k*(a0*C+a1*b1+B*b0)+k*k*k*(a1*C+B*b1)+k*k*k*k*(B*C)-k*k*A:=by omega
 rw [Int.mul_sub,e3]
 grind
theorem dv_mul {p a b:List Int} (h:∀ x,ev p x=ev a x*ev b x) (x:Int):dv p x=dv a x*ev b x+ev a x*dv b x:=by
 have key:dv p x-(dv a x*ev b x+ev a x*dv b x)=0:=all_dvd_zero fun k hk=>by
  obtain ⟨A,hA⟩:=dv_taylor x k p
  obtain ⟨B,hB⟩:=dv_taylor x k a
  obtain ⟨C,hC⟩:=dv_taylor x k b
  have e:=h (x+k)
  rw [hA,hB,hC,h x] at e
  exact ⟨_,taylor_alg (by omega) e⟩
 omega
theorem pder_ev (p:List Int) (x:Int):ev (pder p) x=dv p x:=by
 have key:∀ t:List Int,∀ k:Int,evn (fun i=>t.getD i 0*((i:Int)+k)) x t.length=k*ev t x+x*dv t x:=by
  intro t
  induction t with
  | nil=>intro k;rw [ev_nil];show (0:Int)=k*0+x*0;omega
  | cons a t ih =>
    intro k
    have h0:∀ (F:Nat→Int) n,evn F x (n+1)=F 0+x*evn (fun i=>F (i+1)) x n:=by
     intro F n
     induction n with
     | zero=>simp [evn]
     | succ n ih=>rw [evn,ih,evn,Int.pow_succ];grind
    rw [List.length_cons,h0,ev_cons]
    have h1:=ih (k+1)
    have h2:evn (fun i=>(a :: t).getD (i+1) 0*(((i+1:Nat):Int)+k)) x t.length=evn (fun i=>t.getD i 0*((i:Int)+(k+1))) x t.length:=evn_congr x (fun i=>by
     show t.getD i 0*(((i+1:Nat):Int)+k)=_
     rw [show ((i+1:Nat):Int)+k=(i:Int)+(k+1) by omega]) _
    rw [h2,h1]
    show a*((0:Nat)+k)+x*((k+1)*ev t x+x*dv t x)=k*(a+x*ev t x)+x*(ev t x+x*dv t x)
    have:((0:Nat):Int)=0:=rfl
    rw [this];grind
 match p with
 | []=>rfl
 | a :: t =>
   have h1:=key t 1
   have h2:ev (pder (a :: t)) x=evn (fun i=>t.getD i 0*((i:Int)+1)) x t.length:=by
    rw [← ev_ge (pder (a :: t)) x (n:=t.length) (by rw [pder_length];have:=plen_le (a :: t);simp only [List.length_cons] at this;omega)]
    refine evn_congr x (fun i=>?_) _
    by_cases hi:i<plen (a :: t)-1
    ·rw [pder_get _ hi];rfl
    ·rw [getD_out (pder (a :: t)) (by rw [pder_length];omega)]
     have:(a :: t).getD (i+1) 0=0:=getD_ge_plen _ _ (by omega)
     have h3:t.getD i 0=0:=by simpa using this
     rw [h3,Int.zero_mul]
   rw [h2,h1]
   show 1*ev t x+x*dv t x=ev t x+x*dv t x
   omega
section
variable {z q:Int}
def hom (z q:Int) (f:List Int) (n:Nat):Int:=evn (fun j=>f.getD j 0*q^(n-j)) z (n+1)
def scl (q:Int) (f:List Int) (n:Nat):List Int:=(List.range (n+1)).map fun j=>f.getD j 0*q^(n-j)
theorem scl_get (q:Int) (f:List Int) (n j:Nat) (hj:j<n+1):(scl q f n).getD j 0=f.getD j 0*q^(n-j):=by simp [scl,List.getD_eq_getElem?_getD,hj]
theorem scl_length (q:Int) (f:List Int) (n:Nat):(scl q f n).length=n+1:=by simp [scl]
theorem scl_hom (f:List Int) (n:Nat):ev (scl q f n) z=hom z q f n:=by
 unfold hom
 rw [← ev_ge (scl q f n) z (n:=n+1) (by rw [scl_length];exact Nat.le_refl _)]
 suffices h:∀ k,k≤n+1→evn (fun i=>(scl q f n).getD i 0) z k=evn (fun j=>f.getD j 0*q^(n-j)) z k from h _ (Nat.le_refl _)
 intro k
 induction k with
 | zero=>intro _;rfl
 | succ k ih =>
   intro hk
   rw [evn,evn,ih (by omega),scl_get q f n k (by omega)]
theorem scl_ev (f:List Int) (n:Nat) (hf:plen f≤n+1) (x:Int):ev (scl q f n) (q*x)=q^n*ev f x:=by
 have e:ev f x=evn (fun i=>f.getD i 0) x (n+1):=by
  rw [← ev_trim f x,← ev_ge (ptrim f) x (n:=n+1) (by rw [ptrim_length];exact hf)]
  exact evn_congr x (fun i=>ptrim_getD f i) _
 rw [e,← ev_ge (scl q f n) (q*x) (n:=n+1) (by rw [scl_length];exact Nat.le_refl _)]
 suffices h:∀ k,k≤n+1→evn (fun i=>(scl q f n).getD i 0) (q*x) k=q^n*evn (fun i=>f.getD i 0) x k from h _ (Nat.le_refl _)
 intro k
 induction k with
 | zero=>intro _;simp [evn]
 | succ k ih =>
   intro hk
   rw [evn,evn,ih (by omega),scl_get q f n k (by omega),Int.mul_pow,Int.mul_add]
   have:q^(n-k)*q^k=q^n:=by rw [← Int.pow_add];congr 1;omega
   rw [← this];grind
theorem hom_div (f:List Int) (n:Nat) (hf:plen f≤n+1):∃ r:List Int,∀ x,q^n*ev f x-hom z q f n=(q*x-z)*ev r x:=by
 refine ⟨(sd z (scl q f n)).1.mapIdx (fun j c=>c*q^j),fun x=>?_⟩
 have h1:=sd_ev z (q*x) (scl q f n)
 rw [scl_ev f n hf,scl_hom] at h1
 have h2:∀ (r:List Int),ev (r.mapIdx (fun j c=>c*q^j)) x=ev r (q*x):=by
  intro r
  rw [← ev_ge (r.mapIdx (fun j c=>c*q^j)) x (n:=r.length) (by simp),← ev_ge r (q*x) (n:=r.length) (Nat.le_refl _)]
  suffices h:∀ k,k≤r.length→evn (fun i=>(r.mapIdx (fun j c=>c*q^j)).getD i 0) x k=evn (fun i=>r.getD i 0) (q*x) k from h _ (Nat.le_refl _)
  intro k
  induction k with
  | zero=>intro _;rfl
  | succ k ih =>
    intro hk
    have hg:(r.mapIdx (fun j c=>c*q^j)).getD k 0=r.getD k 0*q^k:=by
     simp [List.getD_eq_getElem?_getD,List.getElem?_eq_getElem (show k<r.length by omega)]
    rw [evn,evn,ih (by omega),hg,Int.mul_pow];grind
 rw [h2,h1];omega
theorem lin_dvd_zero (hq:0<q) {d:Int} (h:∀ x:Int,(q*x-z)∣d):d=0:=by
 have h1:=h ((d.natAbs:Int)+(z.natAbs:Int)+1)
 refine int_small_dvd h1 ?_
 have h2:1*((d.natAbs:Int)+(z.natAbs:Int)+1)≤q*((d.natAbs:Int)+(z.natAbs:Int)+1):=Int.mul_le_mul_of_nonneg_right (by omega) (by omega)
 omega
theorem hom_mul (hq:0<q) {p a b:List Int} {n m:Nat} (ha:plen a≤n+1) (hb:plen b≤m+1) (hp:plen p≤n+m+1) (h:∀ x,ev p x=ev a x*ev b x):hom z q p (n+m)=hom z q a n*hom z q b m:=by
 have key:hom z q p (n+m)-hom z q a n*hom z q b m=0:=lin_dvd_zero (z:=z) hq fun x=>by
  obtain ⟨r1,h1⟩:=hom_div (z:=z) (q:=q) p (n+m) hp
  obtain ⟨r2,h2⟩:=hom_div (z:=z) (q:=q) a n ha
  obtain ⟨r3,h3⟩:=hom_div (z:=z) (q:=q) b m hb
  have e1:=h1 x
  have e2:=h2 x
  have e3:=h3 x
  have e4:=h x
  refine ⟨hom z q a n*ev r3 x+ev r2 x*hom z q b m+(q*x-z)*(ev r2 x*ev r3 x)-ev r1 x,?_⟩
  have e5:q^(n+m)*ev p x=(q^n*ev a x)*(q^m*ev b x):=by rw [e4,Int.pow_add];grind
  have e6:q^n*ev a x=hom z q a n+(q*x-z)*ev r2 x:=by omega
  have e7:q^m*ev b x=hom z q b m+(q*x-z)*ev r3 x:=by omega
  rw [e6,e7] at e5
  rw [e5] at e1
  grind
 omega
theorem hom_up (f:List Int) (n:Nat) (hf:plen f≤n+1) (d:Nat):hom z q f (n+d)=q^d*hom z q f n:=by
 unfold hom
 have hsplit:∀ k,n+1≤k→k≤n+d+1→evn (fun j=>f.getD j 0*q^(n+d-j)) z k=evn (fun j=>f.getD j 0*q^(n+d-j)) z (n+1):=by
  intro k hk
  induction k with
  | zero=>omega
  | succ k ih =>
    intro hk2
    rcases Nat.lt_or_ge k (n+1) with h | h
    ·have:k=n:=by omega
     subst this;rfl
    ·rw [evn,ih h (by omega)]
     show _+f.getD k 0*q^(n+d-k)*z^k=_
     rw [getD_ge_plen f k (by omega)]
     simp
 rw [hsplit _ (by omega) (Nat.le_refl _)]
 suffices h:∀ k,k≤n+1→evn (fun j=>f.getD j 0*q^(n+d-j)) z k=q^d*evn (fun j=>f.getD j 0*q^(n-j)) z k from h _ (Nat.le_refl _)
 intro k
 induction k with
 | zero=>intro _;simp [evn]
 | succ k ih =>
   intro hk
   rw [evn,evn,ih (by omega),Int.mul_add]
   show _+f.getD k 0*q^(n+d-k)*z^k=_+q^d*(f.getD k 0*q^(n-k)*z^k)
   rw [show n+d-k=d+(n-k) by omega,Int.pow_add]
   grind
def Rt (z q:Int) (f:List Int):Prop:=hom z q f (plen f)=0
theorem Rt.of (hq:0<q) {f:List Int} {n:Nat} (hf:plen f≤n+1):Rt z q f↔hom z q f n=0:=by
 have h1:=hom_up (z:=z) (q:=q) f (plen f) (by omega) (n+1)
 have h2:=hom_up (z:=z) (q:=q) f n hf (plen f+1)
 rw [show plen f+(n+1)=n+(plen f+1) by omega,h2] at h1
 have p1:q^(plen f+1)≠0:=pow_ne (by omega) _
 have p2:q^(n+1)≠0:=pow_ne (by omega) _
 unfold Rt
 constructor
 ·intro h
  rw [h,Int.mul_zero] at h1
  exact (Int.mul_eq_zero.1 h1).resolve_left p1
 ·intro h
  rw [h,Int.mul_zero] at h1
  exact (Int.mul_eq_zero.1 h1.symm).resolve_left p2
theorem Rt.mul (hq:0<q) {p a b:List Int} (h:∀ x,ev p x=ev a x*ev b x):Rt z q p↔Rt z q a∨Rt z q b:=by
 have hp:plen p≤plen a+plen b+1:=by
  have h1:ptrim p=ptrim (polymul a b):=ptrim_ext (ev_inj fun x=>by rw [ev_mul,h])
  have h2:=congrArg List.length h1
  rw [ptrim_length,ptrim_length] at h2
  by_cases ha:plen a=0
  ·rw [polymul_zero_l ha] at h2;omega
  by_cases hb:plen b=0
  ·rw [polymul_zero_r hb] at h2;omega
  have:=(plen_mul (f:=a) (g:=b) (by omega) (by omega)).1
  omega
 rw [Rt.of hq (n:=plen a+plen b) hp,Rt.of hq (f:=a) (n:=plen a) (by omega),Rt.of hq (f:=b) (n:=plen b) (by omega),hom_mul hq (by omega) (by omega) hp h]
 exact Int.mul_eq_zero
end
end Go.Proofs.YtjmglmgokfcgoaaGreat
namespace Go.Proofs.YtjmglmgokfcgoaaGreat
def Cop (a b:List Int):Prop:=∃ (u v:List Int) (c:Int),c≠0∧∀ x,ev u x*ev a x+ev v x*ev b x=c
theorem Cop.symm {a b:List Int}:Cop a b→Cop b a:=fun ⟨u,v,c,hc,h⟩=>⟨v,u,c,hc,fun x=>by rw [Int.add_comm];exact h x⟩
theorem cop_alg (u a v b U V d:Int):(u*(U*a+V*d)+v*b*U)*a+v*V*(b*d)=(u*a+v*b)*(U*a+V*d):=by grind
theorem Cop.mul {a b d:List Int} (h:Cop a b) (k:Cop a d):Cop a (polymul b d):=by
 obtain ⟨u,v,c,hc,h⟩:=h
 obtain ⟨u',v',c',hc',k⟩:=k
 refine ⟨padd (polymul u (padd (polymul u' a) (polymul v' d))) (polymul (polymul v b) u'),polymul v v',c*c',Int.mul_ne_zero hc hc',fun x=>?_⟩
 simp only [ev_padd,ev_mul]
 rw [cop_alg,h x,k x]
theorem cop_alg2 (u a v b s:Int):(u + -1*(v*s))*a+v*(b+s*a)=u*a+v*b:=by grind
theorem Cop.add {a b b' s:List Int} (h:Cop a b) (e:∀ x,ev b' x=ev b x+ev s x*ev a x):Cop a b':=by
 obtain ⟨u,v,c,hc,h⟩:=h
 refine ⟨padd u (psc (-1) (polymul v s)),v,c,hc,fun x=>?_⟩
 simp only [ev_padd,ev_mul,ev_psc,e]
 rw [cop_alg2,h x]
theorem cop_alg3 (u a v b m:Int):m*u*a+v*(m*b)=m*(u*a+v*b):=by grind
theorem Cop.scale {a b:List Int} {m:Int} (hm:m≠0) (h:Cop a b):Cop a (psc m b):=by
 obtain ⟨u,v,c,hc,h⟩:=h
 refine ⟨psc m u,v,m*c,Int.mul_ne_zero hm hc,fun x=>?_⟩
 simp only [ev_psc]
 rw [cop_alg3,h x]
theorem lnr_ev {p:List Int} (h:isLin p) (x:Int):ev p x=p.getD 0 0+p.getD 1 0*x:=by
 conv=>lhs;rw [list2 h.1]
 rw [rev_cons,rev_cons,ev_nil]
 grind
theorem qd_ev {p:List Int} (h:isQd p) (x:Int):ev p x=p.getD 0 0+p.getD 1 0*x+p.getD 2 0*(x*x):=by
 conv=>lhs;rw [list3 h.1]
 rw [rev_cons,rev_cons,rev_cons,ev_nil]
 grind
theorem ev_c2 (a b x:Int):ev [a,b] x=a+b*x:=by
 rw [rev_cons,rev_cons,ev_nil]
 grind
theorem qd_at {r:List Int} (h:isQd r) {n d:Int} (hd:d≠0):r.getD 0 0*(d*d)+r.getD 1 0*(n*d)+r.getD 2 0*(n*n)≠0:=fun e=>by
 have key:∀ n d:Int,0<d→r.getD 0 0*(d*d)+r.getD 1 0*(n*d)+r.getD 2 0*(n*n)≠0:=fun n d hd e=>by
  have h1:=qd_rat h (n:=n) hd
  rw [← atv_sg hd] at h1
  refine h1 ?_
  have e2:atv n d r=r.getD 0 0*(d*d)+r.getD 1 0*(n*d)+r.getD 2 0*(n*n):=by
   conv=>lhs;rw [list3 h.1]
   show ((0*n+r.getD 2 0*d^0)*n+r.getD 1 0*d^1)*n+r.getD 0 0*d^2=_
   grind
  rw [e2,e]
  rfl
 rcases Int.lt_or_gt_of_ne hd with c | c
 ·exact key (-n) (-d) (by omega) (by rw [← e];grind)
 ·exact key n d c e
theorem cop_alg4 (p0 p1 r0 r1 r2 x:Int):-1*(r1*p1-r2*p0+r2*p1*x)*(p0+p1*x)+p1*p1*(r0+r1*x+r2*(x*x))=r0*(p1*p1)+r1*(-p0*p1)+r2*(-p0 * -p0):=by grind
theorem cop_lq {p r:List Int} (hp:isLin p) (hr:isQd r):Cop p r :=
 ⟨psc (-1) [r.getD 1 0*p.getD 1 0-r.getD 2 0*p.getD 0 0,r.getD 2 0*p.getD 1 0],[p.getD 1 0*p.getD 1 0],_,qd_at hr (n:=-p.getD 0 0) (d:=p.getD 1 0) (by have:=hp.2;omega),fun x=>by
   rw [ev_psc,ev_c2,ev_const,lnr_ev hp,qd_ev hr,cop_alg4]⟩
theorem cop_alg5 (p0 p1 p2 r0 r1 r2 x a b:Int) (ha:a=r2*p0-p2*r0) (hb:b=r2*p1-p2*r1):(b*b + -1*(r2*(p1*b-p2*a+p2*b*x)))*(p0+p1*x+p2*(x*x))+p2*(p1*b-p2*a+p2*b*x)*(r0+r1*x+r2*(x*x))=p0*(b*b)+p1*(-a*b)+p2*(-a * -a):=by
 subst ha hb
 grind
theorem cop_alg6 (p0 p1 p2 r0 r1 r2 x:Int) (h:r2*p1-p2*r1=0):r2*(p0+p1*x+p2*(x*x)) + -p2*(r0+r1*x+r2*(x*x))=r2*p0-p2*r0:=by grind
theorem cop_alg7 (p0 p1 r0 r1 x:Int):r1*(p0+p1*x) + -p1*(r0+r1*x)=r1*p0-p1*r0:=by grind
theorem irr_cop {p r:List Int} (hp:Irr p) (hr:Irr r) (hne:p≠r):Cop p r:=by
 rcases hp.1 with p1 | p1<;>rcases hr.1 with r1 | r1
 ·refine ⟨[r.getD 1 0],[-p.getD 1 0],r.getD 1 0*p.getD 0 0-p.getD 1 0*r.getD 0 0,fun e=>hne ?_,fun x=>by rw [ev_const,ev_const,lnr_ev p1,lnr_ev r1,cop_alg7]⟩
  refine irr_prop hp hr (by rw [p1.1,r1.1]) r1.2 p1.2 fun k=>?_
  match k with
  | 0=>omega
  | 1=>exact Int.mul_comm _ _
  | k+2=>rw [getD_ge_plen p (k+2) (by rw [p1.plen];omega),getD_ge_plen r (k+2) (by rw [r1.plen];omega),Int.mul_zero,Int.mul_zero]
 ·exact cop_lq p1 r1
 ·exact (cop_lq r1 p1).symm
 ·obtain ⟨a,ha⟩:∃ a,a=r.getD 2 0*p.getD 0 0-p.getD 2 0*r.getD 0 0:=⟨_,rfl⟩
  obtain ⟨b,hb⟩:∃ b,b=r.getD 2 0*p.getD 1 0-p.getD 2 0*r.getD 1 0:=⟨_,rfl⟩
  by_cases b0:b=0
  ·refine ⟨[r.getD 2 0],[-p.getD 2 0],a,fun e=>hne ?_,fun x=>by rw [ev_const,ev_const,qd_ev p1,qd_ev r1,cop_alg6 _ _ _ _ _ _ _ (by rw [← hb];exact b0),ha]⟩
   refine irr_prop hp hr (by rw [p1.1,r1.1]) r1.2.1 p1.2.1 fun k=>?_
   match k with
   | 0=>omega
   | 1=>omega
   | 2=>exact Int.mul_comm _ _
   | k+3=>rw [getD_ge_plen p (k+3) (by rw [p1.plen];omega),getD_ge_plen r (k+3) (by rw [r1.plen];omega),Int.mul_zero,Int.mul_zero]
  ·refine ⟨padd [b*b] (psc (-1) (psc (r.getD 2 0) [p.getD 1 0*b-p.getD 2 0*a,p.getD 2 0*b])),psc (p.getD 2 0) [p.getD 1 0*b-p.getD 2 0*a,p.getD 2 0*b],_,qd_at p1 (n:=-a) (d:=b) b0,fun x=>?_⟩
   rw [ev_padd,ev_psc,ev_psc,ev_psc,ev_c2,ev_const,qd_ev p1,qd_ev r1,cop_alg5 _ _ _ _ _ _ _ _ _ ha hb]
theorem cop_alg8 (p0 p1 p2 x:Int):4*p2*(p0+p1*x+p2*(x*x))+(-p1 + -(2*p2)*x)*(p1+2*p2*x)=-(p1*p1-4*p2*p0):=by grind
theorem irr_cop_der {p:List Int} (hp:Irr p):Cop p (pder p):=by
 rcases hp.1 with h | h
 ·refine ⟨[],[1],p.getD 1 0,by have:=h.2;omega,fun x=>?_⟩
  have e:∀ k,(pder p).getD k 0=[p.getD 1 0].getD k 0:=fun k=>by
   rw [pder_getD]
   match k with
   | 0=>show p.getD 1 0*(((0:Nat):Int)+1)=p.getD 1 0;push_cast;omega
   | k+1=>rw [getD_ge_plen p (k+1+1) (by rw [h.plen];omega)];simp
  rw [ev_congr e,ev_const,ev_const,ev_nil]
  omega
 ·have e:∀ k,(pder p).getD k 0=[p.getD 1 0,2*p.getD 2 0].getD k 0:=fun k=>by
   rw [pder_getD]
   match k with
   | 0=>show p.getD 1 0*(((0:Nat):Int)+1)=p.getD 1 0;push_cast;omega
   | 1=>show p.getD 2 0*(((1:Nat):Int)+1)=2*p.getD 2 0;push_cast;omega
   | k+2=>rw [getD_ge_plen p (k+2+1) (by rw [h.plen];omega)];simp
  refine ⟨[4*p.getD 2 0],[-p.getD 1 0,-(2*p.getD 2 0)],-dsc p,fun e=>h.2.2 0 (by rw [show dsc p=0 by omega];rfl),fun x=>?_⟩
  rw [ev_congr e,ev_const,ev_c2,ev_c2,qd_ev h,cop_alg8]
  rfl
def prP:List (List Int×Nat)→List Int
 | []=>[1]
 | (p,_) :: l=>polymul p (prP l)
def ppwr (p:List Int):Nat→List Int
 | 0=>[1]
 | k+1=>polymul p (ppwr p k)
def prG:List (List Int×Nat)→List Int
 | []=>[1]
 | (p,m) :: l=>polymul (ppwr p (m-1)) (prG l)
def prS:List (List Int×Nat)→List Int
 | []=>[]
 | (p,m) :: l=>padd (psc (m:Int) (polymul (pder p) (prP l))) (polymul p (prS l))
def prA:List (List Int×Nat)→List Int
 | []=>[1]
 | (p,m) :: l=>polymul (ppwr p m) (prA l)
theorem cop_all {p:List Int} (hp:Irr p):∀ {l:List (List Int×Nat)},(∀ y∈l,Irr y.1)→(∀ y∈l,p≠y.1)→Cop p (prP l)
 | [],_,_=>⟨[],[1],1,by decide,fun x=>by rw [ev_nil,ev_const];show 0*_+1*ev [1] x=1;rw [ev_const];omega⟩
 | (r,m) :: l,hi,hn=>(irr_cop hp (hi (r,m) List.mem_cons_self) (hn (r,m) List.mem_cons_self)).mul (cop_all hp (fun y hy=>hi y (List.mem_cons_of_mem _ hy)) fun y hy=>hn y (List.mem_cons_of_mem _ hy))
theorem prp_cop:∀ {l:List (List Int×Nat)},Dis l→(∀ y∈l,Irr y.1)→(∀ y∈l,y.2≠0)→Cop (prP l) (prS l)
 | [],_,_,_=>⟨[1],[],1,by decide,fun x=>by show ev [1] x*ev [1] x+ev [] x*ev [] x=1;rw [ev_const,ev_nil];rfl⟩
 | (p,m) :: l,hD,hi,hm=>by
   have hd':=List.pairwise_cons.1 hD
   have hp:=hi (p,m) List.mem_cons_self
   have h1:=cop_all hp (fun y hy=>hi y (List.mem_cons_of_mem _ hy)) fun y hy=>hd'.1 y hy
   have h2:=prp_cop hd'.2 (fun y hy=>hi y (List.mem_cons_of_mem _ hy)) fun y hy=>hm y (List.mem_cons_of_mem _ hy)
   have hm0:(m:Int)≠0:=by have:=hm (p,m) List.mem_cons_self;exact fun e=>this (by exact_mod_cast e)
   have k1:Cop p (prS ((p,m) :: l)):=(((irr_cop_der hp).mul h1).scale hm0).add (s:=prS l) fun x=>by
    show ev (padd _ _) x=_
    rw [ev_padd,ev_mul p,Int.mul_comm (ev p x)]
   have k2:Cop (prP l) (prS ((p,m) :: l)):=(h1.symm.mul h2).add (s:=psc (m:Int) (pder p)) fun x=>by
    show ev (padd _ _) x=_
    rw [ev_padd,ev_psc,ev_mul,ev_mul,ev_psc]
    grind
   exact (k1.symm.mul k2.symm).symm
theorem ppwr_ev (p:List Int) (x:Int):∀ k,ev (ppwr p k) x=ev p x^k
 | 0=>by show ev [1] x=_;rw [ev_const,Int.pow_zero]
 | k+1=>by show ev (polymul p _) x=_;rw [ev_mul,ppwr_ev p x k,Int.pow_succ,Int.mul_comm]
theorem pra_ev:∀ {l:List (List Int×Nat)},(∀ y∈l,y.2≠0)→∀ x,ev (prA l) x=ev (prG l) x*ev (prP l) x
 | [],_,x=>by show ev [1] x=ev [1] x*ev [1] x;rw [ev_const];rfl
 | (p,m) :: l,hm,x=>by
   obtain ⟨k,rfl⟩:∃ k,m=k+1:=⟨m-1,by have:=hm (p,m) List.mem_cons_self;omega⟩
   show ev (polymul _ _) x=ev (polymul (ppwr p (k+1-1)) _) x*ev (polymul p _) x
   rw [ev_mul,ev_mul,ev_mul,ppwr_ev,ppwr_ev,pra_ev fun y hy=>hm y (List.mem_cons_of_mem _ hy),Nat.add_sub_cancel,Int.pow_succ]
   grind
theorem dv_cst1 (a x:Int):dv [a] x=0:=by show ev [] x+x*0=0;rw [ev_nil];omega
theorem ppwr_dv (p:List Int) (x:Int):∀ k,dv (ppwr p (k+1)) x=((k:Int)+1)*(ev p x^k*dv p x)
 | 0=>by
   rw [dv_mul (p:=ppwr p 1) (a:=p) (b:=[1]) fun x=>by rw [ppwr_ev,ev_const,Int.pow_succ,Int.pow_zero];omega,dv_cst1,ev_const,Int.pow_zero]
   push_cast;omega
 | k+1=>by
   rw [dv_mul (p:=ppwr p (k+1+1)) (a:=p) (b:=ppwr p (k+1)) fun x=>by show ev (polymul p _) x=_;rw [ev_mul],ppwr_dv p x k,ppwr_ev,Int.pow_succ]
   push_cast
   grind
theorem pra_dv:∀ {l:List (List Int×Nat)},(∀ y∈l,y.2≠0)→∀ x,dv (prA l) x=ev (prG l) x*ev (prS l) x
 | [],_,x=>by show dv [1] x=ev [1] x*ev [] x;rw [dv_cst1,ev_nil];omega
 | (p,m) :: l,hm,x=>by
   have hm':∀ y∈l,y.2≠0:=fun y hy=>hm y (List.mem_cons_of_mem _ hy)
   obtain ⟨k,rfl⟩:∃ k,m=k+1:=⟨m-1,by have:=hm (p,m) List.mem_cons_self;omega⟩
   rw [dv_mul (p:=prA ((p,k+1) :: l)) (a:=ppwr p (k+1)) (b:=prA l) (fun x=>by show ev (polymul _ _) x=_;rw [ev_mul]),ppwr_dv,pra_dv hm',pra_ev hm',ppwr_ev]
   show _=ev (polymul (ppwr p (k+1-1)) _) x*ev (padd _ _) x
   rw [ev_mul,ev_padd,ev_psc,ev_mul,ev_mul,pder_ev,ppwr_ev,Nat.add_sub_cancel,Int.pow_succ]
   push_cast
   grind
def Nor (p:List Int):Prop:=pcont p=1∧0<plead p
theorem nor_one:Nor [1]:=⟨by decide,by decide⟩
theorem plen_pos1 {p:List Int} (h:0<plead p):1≤plen p:=Classical.byContradiction fun hn=>by have:=plead_zero.2 (show plen p=0 by omega);omega
theorem Nor.mul {p q:List Int} (h:Nor p) (k:Nor q):Nor (polymul p q):=⟨by rw [pcont_mul,h.1,k.1],by rw [(plen_mul (plen_pos1 h.2) (plen_pos1 k.2)).2];exact Int.mul_pos h.2 k.2⟩
theorem Irr.nor {p:List Int} (h:Irr p):Nor p:=⟨h.2,by
 rcases h.1 with c | c
 ·show 0<p.getD (plen p-1) 0;rw [c.plen];exact c.2
 ·show 0<p.getD (plen p-1) 0;rw [c.plen];exact c.2.1⟩
theorem Nor.pw {p:List Int} (h:Nor p):∀ k,Nor (ppwr p k)
 | 0=>nor_one
 | k+1=>h.mul (h.pw k)
theorem nor_p:∀ {l:List (List Int×Nat)},(∀ y∈l,Irr y.1)→Nor (prP l)
 | [],_=>nor_one
 | (p,m) :: _,h=>(h (p,m) List.mem_cons_self).nor.mul (nor_p fun y hy=>h y (List.mem_cons_of_mem _ hy))
theorem nor_g:∀ {l:List (List Int×Nat)},(∀ y∈l,Irr y.1)→Nor (prG l)
 | [],_=>nor_one
 | (p,m) :: _,h=>((h (p,m) List.mem_cons_self).nor.pw _).mul (nor_g fun y hy=>h y (List.mem_cons_of_mem _ hy))
theorem nor_a:∀ {l:List (List Int×Nat)},(∀ y∈l,Irr y.1)→Nor (prA l)
 | [],_=>nor_one
 | (p,m) :: _,h=>((h (p,m) List.mem_cons_self).nor.pw _).mul (nor_a fun y hy=>h y (List.mem_cons_of_mem _ hy))
theorem ev_cancel {a b g:List Int} (g0:plen g≠0) (h:∀ x,ev a x*ev g x=ev b x*ev g x) (k:Nat):a.getD k 0=b.getD k 0:=by
 have h1:∀ x,ev (polymul (padd a (psc (-1) b)) g) x=ev [] x:=fun x=>by
  rw [ev_mul,ev_padd,ev_psc,ev_nil,Int.add_mul,h x]
  grind
 have h2:plen (padd a (psc (-1) b))=0:=Classical.byContradiction fun c=>polymul_ne c g0 (by rw [plen_ev h1];rfl)
 have h3:=getD_ge_plen (padd a (psc (-1) b)) k (by omega)
 rw [padd_get,psc_get] at h3
 omega
theorem qpart_pr {F:List Int} (hF:QOK F) (F0:plen F≠0) {l:List (List Int×Nat)} (hD:Dis l) (hi:∀ y∈l,Irr y.1) (hm:∀ y∈l,y.2≠0) {c e:Int} (hc:c≠0) (he:e≠0) (h:∀ x,c*ev F x=e*ev (prA l) x):qpart F=ptrim (prP l):=by
 have Q:=q_facts hF F0
 have p0:plen (pprim F)≠0:=by rw [gp_plen];exact F0
 have hA:=nor_a hi
 have hG:=nor_g hi
 have hPn:=nor_p hi
 have d1:Dvq (pprim F) (prA l):=(dvq_prim_l F0).trans ⟨e,[c],he,fun x=>by rw [ev_const,h]⟩
 have d2:Dvq (prA l) (pprim F):=Dvq.trans ⟨c,[e],hc,fun x=>by rw [ev_const,h]⟩ (dvq_prim_r F0)
 have eA:∀ k,(pprim F).getD k 0=(prA l).getD k 0:=dvq_eq (gp_lead F0) hA.2 (by rw [gp_cont F0,hA.1]) d1 d2
 have eA':∀ x,ev (pprim F) x=ev (prG l) x*ev (prP l) x:=fun x=>by rw [ev_congr eA,pra_ev hm]
 have eD:∀ x,ev (pder (pprim F)) x=ev (prG l) x*ev (prS l) x:=fun x=>by
  rw [ev_congr (q:=pder (prA l)) (fun k=>by rw [pder_getD,pder_getD,eA]),pder_ev,pra_dv hm]
 have hg':IsGcd (pprim F) (pder (pprim F)) (qdiv F):=(gres_is Q.ga).resolve_left (fun h=>p0 h.1) |>.2
 obtain ⟨u,v,d,hd,hb⟩:=prp_cop hD hi hm
 have g1:Dvq (prG l) (qdiv F):=Dvq.comb (d:=prG l) ⟨1,prP l,by decide,fun x=>by rw [eA' x];grind⟩ ⟨1,prS l,by decide,fun x=>by rw [eD x];grind⟩ hg'.c
 have g2:Dvq (qdiv F) (prG l):=Dvq.comb hg'.l hg'.r ⟨d,u,v,hd,fun x=>by rw [eA' x,eD x,← hb x];grind⟩
 have eG:∀ k,(qdiv F).getD k 0=(prG l).getD k 0:=dvq_eq hg'.lead hG.2 (by rw [hg'.cont,gp_cont F0,Nat.gcd_one_left,hG.1]) g2 g1
 rw [← Q.t]
 refine ptrim_ext (ev_cancel (g:=prG l) (by have:=plen_pos1 hG.2;omega) fun x=>?_)
 rw [← ev_congr eG,← Q.prod,eA',Int.mul_comm,← ev_congr eG]
def pev (x:Int):List (List Int)→Int
 | []=>1
 | p :: ps=>ev p x*pev x ps
theorem pra_with (p:List Int) (x:Int):∀ l,ev (prA (withf l p)) x=ev (prA l) x*ev p x
 | []=>by
   show ev (polymul (ppwr p 1) [1]) x=ev [1] x*ev p x
   rw [ev_mul,ppwr_ev,ev_const,Int.pow_succ,Int.pow_zero]
   omega
 | (r,m) :: l=>by
   unfold withf
   split
   ·rename_i e
    subst e
    show ev (polymul (ppwr r (m+1)) (prA l)) x=ev (polymul (ppwr r m) (prA l)) x*ev r x
    rw [ev_mul,ev_mul,ppwr_ev,ppwr_ev,Int.pow_succ]
    grind
   ·show ev (polymul (ppwr r m) (prA (withf l p))) x=ev (polymul (ppwr r m) (prA l)) x*ev p x
    rw [ev_mul,ev_mul,pra_with p x l,Int.mul_assoc]
theorem pra_add (x:Int):∀ (ps:List (List Int)) (l:List (List Int×Nat)),ev (prA (addf l ps)) x=ev (prA l) x*pev x ps
 | [],l=>by show ev (prA l) x=ev (prA l) x*1;omega
 | p :: ps,l=>by
   show ev (prA (addf (withf l p) ps)) x=ev (prA l) x*(ev p x*pev x ps)
   rw [pra_add x ps,pra_with,Int.mul_assoc]
theorem nrm_ev {q:List Int} (h:plen q≠0) (x:Int):ev q x=rnu q*ev (nrm q) x:=by
 rw [← ev_psc]
 exact ev_congr (fun k=>by rw [psc_get,nrm_get h]) x
theorem spl_alg (g0 g1 g2 s x:Int) (h:s*s=g1*g1-4*g2*g0):4*g2*(g0+g1*x+g2*x*x)=(g1 + -s+2*g2*x)*(g1+s+2*g2*x):=by grind
theorem spl_pev {q:List Int} (h:plen q≠0) (h3:plen q≤3):∃ c e:Int,c≠0∧e≠0∧∀ x,c*ev q x=e*pev x (spl q):=by
 have hl:=nrm_len q
 have hld:=nrm_lead h
 unfold spl
 by_cases c1:plen q<2
 ·rw [if_pos c1]
  refine ⟨1,plead q,by decide,plead_ne h,fun x=>?_⟩
  have e:∀ k,q.getD k 0=[plead q].getD k 0:=fun k=>by
   match k with
   | 0=>show q.getD 0 0=q.getD (plen q-1) 0;rw [show plen q-1=0 by omega]
   | k+1=>rw [getD_ge_plen q _ (by omega)];simp
  rw [ev_congr e,ev_const]
  show 1*plead q=plead q*1
  omega
 ·rw [if_neg c1]
  have one:∃ c e:Int,c≠0∧e≠0∧∀ x,c*ev q x=e*pev x [nrm q]:=⟨1,rnu q,by decide,rnu_ne h,fun x=>by rw [nrm_ev h];show _=rnu q*(ev (nrm q) x*1);rw [Int.mul_one,Int.one_mul]⟩
  by_cases c2:plen q=2
  ·rw [if_pos c2];exact one
  ·rw [if_neg c2]
   have c3:plen q=3:=by omega
   rw [c3] at hld hl
   by_cases c4:∃ s:Nat,(s:Int)*(s:Int)=dsc (nrm q)
   ·obtain ⟨s,hs⟩:=c4
    rw [sqd_some hs]
    have hg2:0<(nrm q).getD 2 0:=hld
    have p1:∀ z:Int,plen [(nrm q).getD 1 0+z,2*(nrm q).getD 2 0]≠0:=fun z=>by
     rw [plen_cons_succ (by rw [plen_cons_one rfl (by omega)];omega)]
     omega
    refine ⟨4*(nrm q).getD 2 0,rnu q*(rnu [(nrm q).getD 1 0 + -(s:Int),2*(nrm q).getD 2 0]*rnu [(nrm q).getD 1 0+(s:Int),2*(nrm q).getD 2 0]),by omega,Int.mul_ne_zero (rnu_ne h) (Int.mul_ne_zero (rnu_ne (p1 _)) (rnu_ne (p1 _))),fun x=>?_⟩
    show _=_*(ev (lin1 (nrm q) (-(s:Int))) x*(ev (lin1 (nrm q) (s:Int)) x*1))
    have e1:=nrm_ev (p1 (-(s:Int))) x
    have e2:=nrm_ev (p1 (s:Int)) x
    have e3:ev (nrm q) x=(nrm q).getD 0 0+(nrm q).getD 1 0*x+(nrm q).getD 2 0*x*x:=by
     conv=>lhs;rw [list3 hl]
     rw [ev3]
    have e4:=spl_alg ((nrm q).getD 0 0) ((nrm q).getD 1 0) ((nrm q).getD 2 0) (s:Int) x (by rw [hs];rfl)
    rw [ev2] at e1 e2
    rw [nrm_ev h,e3]
    unfold lin1
    generalize ev (nrm [(nrm q).getD 1 0 + -(s:Int),2*(nrm q).getD 2 0]) x=A at *
    generalize ev (nrm [(nrm q).getD 1 0+(s:Int),2*(nrm q).getD 2 0]) x=B at *
    rw [e1,e2] at e4
    rw [Int.mul_left_comm,e4]
    grind
   ·have hn:∀ s:Nat,(s:Int)*(s:Int)≠dsc (nrm q):=fun s hs=>c4 ⟨s,hs⟩
    rw [sqd_none hn];exact one
theorem prodf_ev:∀ (qs:List (List Int)),(∀ q∈qs,plen q≠0∧plen q≤3)→∀ (P:List Int) (l:List (List Int×Nat)),(∃ c e:Int,c≠0∧e≠0∧∀ x,c*ev P x=e*ev (prA l) x)→∃ c e:Int,c≠0∧e≠0∧∀ x,c*ev (prodf P qs) x=e*ev (prA (facs l qs)) x
 | [],_,_,_,h=>h
 | q :: qs,hq,P,l,⟨c,e,hc,he,h⟩=>by
   obtain ⟨c',e',hc',he',h'⟩:=spl_pev (hq q List.mem_cons_self).1 (hq q List.mem_cons_self).2
   refine prodf_ev qs (fun r hr=>hq r (List.mem_cons_of_mem _ hr)) (rmul P q) (addf l (spl q)) ⟨c*c',e*e',Int.mul_ne_zero hc hc',Int.mul_ne_zero he he',fun x=>?_⟩
   have h1:=h x
   have h2:=h' x
   rw [ev_rmul,pra_add]
   generalize ev P x=A at *
   generalize ev q x=B at *
   generalize ev (prA l) x=C at *
   generalize pev x (spl q)=D at *
   have:c*c'*(A*B)=(c*A)*(c'*B):=by grind
   rw [this,h1,h2]
   grind
theorem qpart_prod {qs:List (List Int)} (hq:∀ q∈qs,plen q≠0∧plen q≤3) (hF:QOK (prodf [1] qs)) (F0:plen (prodf [1] qs)≠0):qpart (prodf [1] qs)=ptrim (prP (facs [] qs)):=by
 obtain ⟨c,e,hc,he,h⟩:=prodf_ev qs hq [1] [] ⟨1,1,by decide,by decide,fun x=>rfl⟩
 exact qpart_pr hF F0 (facs_dis List.Pairwise.nil) (facs_irr hq) (facs_pos fun y hy=>by cases hy) hc he h
end Go.Proofs.YtjmglmgokfcgoaaGreat
namespace Go.Proofs.YtjmglmgokfcgoaaGreat
def sepx (Q:List Int):Nat:=(plen Q-1)^(plen Q-1+2)*(nst Q Q.length).natAbs^(plen Q-1-1)
theorem nst_bd {p:List Int} {X:Nat} (h:∀ j,(p.getD j 0).natAbs≤X):∀ k,(nst p k).natAbs≤k*(X*X)∧0≤nst p k
 | 0=>by simp [nst]
 | k+1=>by
   obtain ⟨h1,h2⟩:=nst_bd h k
   have h3:(p.getD k 0*p.getD k 0).natAbs≤X*X:=by rw [Int.natAbs_mul];exact Nat.mul_le_mul (h k) (h k)
   have h4:0≤p.getD k 0*p.getD k 0:=by
    rcases Int.le_total 0 (p.getD k 0) with h | h
    ·exact Int.mul_nonneg h h
    ·exact Int.mul_nonneg_of_nonpos_of_nonpos h h
   rw [nst,Nat.succ_mul]
   omega
theorem nst_ge {p:List Int}:∀ k j,j<k→(p.getD j 0).natAbs*(p.getD j 0).natAbs≤(nst p k).natAbs
 | k+1,j,hj=>by
   have h4:0≤p.getD k 0*p.getD k 0:=by
    rcases Int.le_total 0 (p.getD k 0) with h | h
    ·exact Int.mul_nonneg h h
    ·exact Int.mul_nonneg_of_nonpos_of_nonpos h h
   have h2:0≤nst p k:=by
    clear hj h4
    induction k with
    | zero=>exact Int.le_refl _
    | succ k ih =>
      have h4:0≤p.getD k 0*p.getD k 0:=by
       rcases Int.le_total 0 (p.getD k 0) with h | h
       ·exact Int.mul_nonneg h h
       ·exact Int.mul_nonneg_of_nonpos_of_nonpos h h
      rw [nst];omega
   rw [nst]
   by_cases h:j=k
   ·subst h
    rw [← Int.natAbs_mul];omega
   ·have:=nst_ge (p:=p) k j (by omega)
    omega
end Go.Proofs.YtjmglmgokfcgoaaGreat
namespace Go.Proofs.YtjmglmgokfcgoaaGreat
open Go.RowKit
set_option maxHeartbeats 1000000 in
theorem logarithm_all (na:Bool) (A:Option Addr) (la ca:Nat) (n:Nat) (w:World) (ha:IntAt w na A la ca (n:Int)) (hsn:SmI (n:Int)) (hsm:Sm (n+1)) :
 Calls Tryz.prog 85 #[.agg #[.bool na,.slice A la ca]] w fun e w'=>LGE n e∧Below w.heap.size w w':=by
 have hb0:Below w.heap.size w (w.alloc (ibox na A la ca)):=(Below.refl _ _).alloc (Nat.le_refl _) _
 have h0:=ha.below hb0
 have c0:(w.alloc (ibox na A la ca)).cell? ⟨w.heap.size,0,none⟩=some (.bool na):=by go_simp
 have c1:(w.alloc (ibox na A la ca)).cell? ⟨w.heap.size,1,none⟩=some (.slice A la ca):=by go_simp
 have hs1:SmI 1:=SmI.of64 (by unfold I64;omega)
 have Hb0:=Lib.hid hb0
 clear ha hb0
 go_enter Tryz.func85,Tryz.ntmps85
 go_wp2_with fail
 refine (iof_any 1 _ (by unfold I64;omega)).mono ?_
 rintro e w1 ⟨n1,A1,l1,c2,rfl,h1,hb1⟩
 obtain ⟨hc,hf⟩:=bcellS hb1
 have d0:w1.cell? ⟨w.heap.size,0,none⟩=some (.bool na):=(hc _ (by go_simp)).trans c0
 have d1:w1.cell? ⟨w.heap.size,1,none⟩=some (.slice A la ca):=(hc _ (by go_simp)).trans c1
 have hz:=hb1.size
 simp only [World.size_alloc] at hz
 have hlt:w.heap.size<w1.heap.size:=by omega
 have hx:=Lib.hid ((h0.below hb1).below ((Below.refl _ _).alloc (Nat.le_refl _) (ibox n1 A1 l1 c2)))
 have HB:=Lib.hid (IBox.make h1)
 have Hb1:=Lib.hid ((Hb0.out.trans (hb1.mono Hb0.out.size)).alloc (Hb0.out.trans (hb1.mono Hb0.out.size)).size (ibox n1 A1 l1 c2))
 clear hc hf hb1 h0 c0 c1 h1
 go_wp2_with fail
 refine (icmp_any _ _ _ _ _ _ _ _ _ _ _ hx.out HB.out.hz.at_ hsn hs1).mono ?_
 rintro e w2 ⟨rfl,hb2⟩
 have Hx2:=Lib.hid (hx.out.below hb2)
 have HB2:=Lib.hid (HB.out.move hb2)
 have Hb2:=Lib.hid (Hb1.out.trans (hb2.mono Hb1.out.size))
 by_cases hn1:n≤1
 ·have hcm:cmpz (n:Int) 1≤0:=by unfold cmpz;split<;>(try split)<;>omega
  have HL:=Lib.hid (LG_one hn1)
  generalize cmpz (n:Int) 1=v at hcm ⊢
  clear hn1 hb2
  go_wp2
  go_ret
  exact ⟨⟨0,rfl,HL.out⟩,Hb2.out⟩
 ·have hcm:¬ cmpz (n:Int) 1≤0:=by unfold cmpz;rw [if_neg (by omega),if_neg (by omega)];omega
  generalize cmpz (n:Int) 1=v at hcm ⊢
  obtain ⟨hc,hf⟩:=bcellS hb2
  have e0:w2.cell? ⟨w.heap.size,0,none⟩=some (.bool na):=(hc _ (by go_simp)).trans (by go_simp)
  have e1:w2.cell? ⟨w.heap.size,1,none⟩=some (.slice A la ca):=(hc _ (by go_simp)).trans (by go_simp)
  have e2:=HB2.out.c0
  have e3:=HB2.out.c1
  have hn2:2≤n:=by omega
  clear hn1 hb2 hc hf d0 d1
  go_wp2_with fail
  refine (isub_any _ _ _ _ _ _ _ _ _ _ _ Hx2.out HB2.out.hz.at_ hsn hs1 (by rw [Int.natAbs_natCast];exact hsm)).mono ?_
  rintro e w3 ⟨n3,A3,l3,c3,rfl,h3,hb3⟩
  have Hb3:=Lib.hid (Hb2.out.trans (hb3.mono Hb2.out.size))
  have e4:(n:Int)-1=((n-1:Nat):Int):=by omega
  rw [e4] at h3
  clear e0 e1 e2 e3 hb3 e4
  go_wp2_with fail
  refine (ibitlen_any _ _ _ _ _ _ h3.at_ (by unfold SmI;rw [Int.natAbs_natCast];exact Sm.mono hsm (by omega))).mono ?_
  rintro e w4 ⟨⟨k,rfl,hk,_⟩,hb4⟩
  rw [Int.natAbs_natCast] at hk
  have HL:=Lib.hid (LG_of_BL hk hn2)
  have Hb4:=Lib.hid (Hb3.out.trans (hb4.mono Hb3.out.size))
  clear hk hb4 h3
  go_wp2
  go_ret
  exact ⟨⟨k,rfl,HL.out⟩,Hb4.out⟩
end Go.Proofs.YtjmglmgokfcgoaaGreat
namespace Go.Proofs.YtjmglmgokfcgoaaGreat
open Go.RowKit
set_option maxRecDepth 100000 in
set_option maxHeartbeats 4000000 in
theorem rpower_any (na:Bool) (A:Option Addr) (la ca:Nat) (a:Int) (n:Nat) (w:World) (h:IntN w na A la ca a) (h0:a≠0) (hf:Fit (a^n)) (hn:n≤1000000000) (hfa:Fit a) :
 Calls Tryz.prog 83 #[.agg #[.bool na,.slice A la ca],.int .i64 (n:Int)] w fun e w'=>∃ n1 A1 l1 c1,e=.returned (.agg #[.bool n1,.slice A1 l1 c1])∧IntN w' n1 A1 l1 c1 (a^n)∧Below w.heap.size w w':=by
 have hba:Below w.heap.size w (w.alloc (ibox na A la ca)):=(Below.refl _ _).alloc (Nat.le_refl _) _
 have hbb:Below (w.alloc (ibox na A la ca)).heap.size (w.alloc (ibox na A la ca)) ((w.alloc (ibox na A la ca)).alloc (ibox false none 0 0)):=(Below.refl _ _).alloc (Nat.le_refl _) _
 have hab:=hba.trans (hbb.mono hba.size)
 have hR:=IBox.nil (w.alloc (ibox na A la ca))
 simp only [World.size_alloc] at hR
 have h1:=h.below hab
 have hp:=poly_ibox h1
 have hbc:Below ((w.alloc (ibox na A la ca)).alloc (ibox false none 0 0)).heap.size ((w.alloc (ibox na A la ca)).alloc (ibox false none 0 0)) (((w.alloc (ibox na A la ca)).alloc (ibox false none 0 0)).alloc (ibox na A la ca)):=(Below.refl _ _).alloc (Nat.le_refl _) _
 have HR:=Lib.hid (hR.move hbc)
 have Hb:=Lib.hid (hab.trans (hbc.mono hab.size))
 simp only [World.size_alloc] at hp
 have Hp:=Lib.hid hp
 clear h hba hbb hab hR h1 hp hbc
 go_enter Tryz.func83,Tryz.ntmps83
 go_wp2_with fail
 refine (cpow_any _ _ _ _ _ Hp.out h0 hf hn hfa).mono ?_
 rintro e w1 ⟨A1,c1,rfl,h2,hb1⟩
 have HR1:=Lib.hid (HR.out.move hb1)
 have Hb1:=Lib.hid (Hb.out.trans (hb1.mono Hb.out.size))
 have hpn:a^n≠0:=Int.pow_ne_zero h0
 clear hb1 Hp HR Hb
 go_wp2_with fail
 refine (lead_any _ _ _ _ _ (h2.at_ ikN) (fitp_const hf).smp (by omega)).mono ?_
 rintro e w2 ⟨n2,A2,l2,c2,rfl,h3,hb2⟩
 rw [plead_const hpn] at h3
 have hR2:=HR1.out.move hb2
 have HP:=Lib.hid (hR2.put h3)
 have Hb2:=Lib.hid (((Hb1.out.trans (hb2.mono Hb1.out.size)).setCell (p:=⟨w.heap.size+1,0,none⟩) (by first | (simp;done) | (simp;omega) | omega) (.bool n2)).setCell (p:=⟨w.heap.size+1,1,none⟩) (by first | (simp;done) | (simp;omega) | omega) (.slice A2 l2 c2))
 have d0:=hR2.c0
 have d1:=hR2.c1
 have d2:=hR2.f0
 have d3:=hR2.f1
 clear h2 h3 hb2 hR2 HR1 Hb1
 go_wp2
 refine bodyPost_ret (v:=.agg #[.bool n2,.slice A2 l2 c2]) (by simp [results,Tryz.results83,go_sem,d0,d1]) rfl ⟨_,_,_,_,rfl,HP.out.hz,Hb2.out⟩
end Go.Proofs.YtjmglmgokfcgoaaGreat
namespace Go.Proofs.YtjmglmgokfcgoaaGreat
open Go.RowKit
def SepQ (Q:List Int) (s:Nat):Prop:=(plen Q<3∧s=0)∨(3≤plen Q∧∃ k,LG (sepx Q) k∧s=(k+1) / 2)
theorem LG.uniq {n k k':Nat} (h:LG n k) (h':LG n k'):k=k':=by
 rcases Nat.lt_trichotomy k k' with c | c | c
 ·have:=h'.least k c;have:=h.le;omega
 ·exact c
 ·have:=h.least k' c;have:=h'.le;omega
theorem SepQ.uniq {Q:List Int} {s s':Nat} (h:SepQ Q s) (h':SepQ Q s'):s=s':=by
 rcases h with ⟨h1,rfl⟩ | ⟨h1,k,h2,rfl⟩
 ·rcases h' with ⟨_,rfl⟩ | ⟨h3,_⟩
  ·rfl
  ·omega
 ·rcases h' with ⟨h3,_⟩ | ⟨_,k',h3,rfl⟩
  ·omega
  ·rw [h2.uniq h3]
theorem lg_bb {X k E:Nat} (hX:X≤BB^E) (hk:LG X k):k≤32*E+1:=by
 refine Classical.byContradiction fun hn=>?_
 have h1:=hk.least (k-1) (by omega)
 rw [bb_two] at hX
 have h2:2^(32*E)≤2^(k-1):=Nat.pow_le_pow_right (by decide) (by omega)
 exact Nat.lt_irrefl X (Nat.lt_of_le_of_lt hX (Nat.lt_of_le_of_lt h2 h1))
theorem bb_fw {k:Nat} (h:k<100000):BB^k<BB^FW:=Nat.pow_lt_pow_right (by rw [BB_eq];decide) (by rw [FW_eq];exact h)
theorem fit_bb {x:Int} {k:Nat} (hx:x.natAbs≤BB^k) (h:k<100000):Fit x:=Nat.lt_of_le_of_lt hx (bb_fw h)
theorem sm_bb {x k:Nat} (hx:x≤BB^k) (h:k<100000):Sm x:=Fit.smn (fit_bb (x:=(x:Int)) (by rw [Int.natAbs_natCast];exact hx) h)
theorem bb_mul {a b k:Nat} (ha:a≤BB) (hb:b≤BB^k):a*b≤BB^(k+1):=by
 rw [Nat.pow_succ,Nat.mul_comm];exact Nat.mul_le_mul hb ha
theorem bb_mul2 {a b j k:Nat} (ha:a≤BB^j) (hb:b≤BB^k):a*b≤BB^(j+k):=by
 rw [Nat.pow_add];exact Nat.mul_le_mul ha hb
theorem bb_pw {a k n m:Nat} (ha:a≤BB^k) (h:k*n≤m):a^n≤BB^m:=Nat.le_trans (Nat.pow_le_pow_left ha n) (by rw [← Nat.pow_mul];exact Nat.pow_le_pow_right BB_pos h)
set_option maxRecDepth 100000 in
set_option maxHeartbeats 4000000 in
theorem sep_q {I:IntPred} (hI:IK I) (A:Option Addr) (la ca:Nat) (F:List Int) (w:World) (hf:PolyP I w A la ca F) (sf:SmP F) (hF:plen F≠0→QOK F) (hla:la≤1000000) :
 Calls Tryz.prog 16 #[.slice A la ca] w fun e w'=>(∃ s:Nat,e=.returned (.int .i64 (s:Int))∧SepQ (qpart F) s∧s≤50000)∧Below w.heap.size w w':=by
 have QQ:plen F≠0→QF F:=fun h=>q_facts (hF h) h
 obtain ⟨Q,hQ⟩:∃ Q,Q=qpart F:=⟨_,rfl⟩
 have qb:∀ j,(Q.getD j 0).natAbs≤BB^46:=fun j=>by
  rw [hQ]
  by_cases h:plen F=0
  ·rw [qpart_nil h];simp
  ·exact (QQ h).b 40 (hF h).b j
 have qt:ptrim Q=Q:=by
  rw [hQ]
  by_cases h:plen F=0
  ·rw [qpart_nil h];rfl
  ·exact (QQ h).t
 have ql:plen Q≤16:=by
  rw [hQ]
  by_cases h:plen F=0
  ·rw [qpart_nil h];decide
  ·exact Nat.le_trans (QQ h).l (hF h).len
 have HQ:=Lib.hid hQ
 have fQ:FitP Q:=fun j=>fit_bb (qb j) (by decide)
 have sQ:SmP Q:=fQ.smp
 have hF':=Lib.hid hF
 clear QQ hQ hF
 by_cases hsm:plen Q<3
 ·have t1:((plen Q:Nat):Int)-1<2:=by omega
  have HV:=Lib.hid (show SepQ (qpart F) 0 from .inl ⟨by rw [← HQ.out];exact hsm,rfl⟩)
  obtain ⟨D,hD⟩:∃ D:Int,D=((plen Q:Nat):Int)-1:=⟨_,rfl⟩
  have hDl:Q.length≤16:=by rw [← qt,ptrim_length];exact ql
  rw [← hD] at t1
  have HD:=Lib.hid hD
  clear hsm hD
  go_enter Tryz.func16,Tryz.ntmps16
  go_wp2_with fail
  refine (part_q hI _ _ _ F _ hf sf hF'.out hla).mono ?_
  rintro e w1 ⟨A1,l1,c1,rfl,h1,hb1⟩
  rw [← HQ.out] at h1
  have hl1:l1≤16:=by rw [← h1.length];exact hDl
  have H1:=Lib.hid h1
  have Hb:=Lib.hid hb1
  clear hf h1 hb1
  go_wp2_with fail
  refine (degree_any _ _ _ _ _ (H1.out.at_ ikN) sQ (by omega)).mono ?_
  rintro e w2 ⟨rfl,hb2⟩
  rw [← HD.out]
  replace Hb:=Lib.hid (Hb.out.trans (hb2.mono Hb.out.size))
  clear hb2
  go_wp2
  go_ret
  exact ⟨⟨0,rfl,HV.out,by omega⟩,Hb.out⟩
 obtain ⟨d,hd⟩:∃ d,plen Q=d+1:=⟨plen Q-1,by omega⟩
 have hd7:d≤15:=by omega
 have hd2':2≤d:=by omega
 have hQl:Q.length=d+1:=by rw [← qt,ptrim_length];exact hd
 have hd2:((plen Q:Nat):Int)-1=(d:Int):=by omega
 have hnb:=nst_bd qb
 have b92:BB^46*BB^46≤BB^92:=bb_mul2 (Nat.le_refl _) (Nat.le_refl _)
 have hnst:∀ k,k≤16→(nst Q k).natAbs≤BB^93:=fun k hk=>Nat.le_trans (hnb k).1 (bb_mul (by rw [BB_eq];omega) b92)
 have hN1:(nst Q (d+1)).natAbs≤BB^93:=hnst _ (by omega)
 have hN0:nst Q (d+1)≠0:=fun e=>by
  have h1:=nst_ge (p:=Q) (d+1) d (by omega)
  have h2:Q.getD d 0≠0:=plen_lead Q d hd
  rw [e] at h1
  have h3:0<(Q.getD d 0).natAbs*(Q.getD d 0).natAbs:=Nat.mul_pos (Int.natAbs_pos.2 h2) (Int.natAbs_pos.2 h2)
  simp only [Int.natAbs_zero] at h1
  omega
 have hok:∀ k,k<d+1→NormOK Q k:=fun k hk=>by
  have b1:(nst Q k).natAbs≤BB^93:=hnst _ (by omega)
  have b2:(Q.getD k 0*Q.getD k 0).natAbs≤BB^92:=by rw [Int.natAbs_mul];exact Nat.le_trans (Nat.mul_le_mul (qb k) (qb k)) b92
  have b3:BB^92≤BB^93:=Nat.pow_le_pow_right BB_pos (by decide)
  have b4:BB^93+BB^93≤BB^94:=by rw [← Nat.two_mul];exact bb_mul (by rw [BB_eq];omega) (Nat.le_refl _)
  have sm:∀ {x:Nat},x≤BB^94→Sm x:=fun {x} hx=>sm_bb hx (by decide)
  exact ⟨(fQ k).mulok _,sm (by omega),sm (by omega),sm (by omega)⟩
 obtain ⟨N,hN⟩:∃ N:Nat,nst Q (d+1)=(N:Int):=⟨(nst Q (d+1)).natAbs,by have:=(hnb (d+1)).2;omega⟩
 rw [hN] at hN1 hN0
 rw [Int.natAbs_natCast] at hN1
 have fN:Fit (N:Int):=fit_bb (k:=93) (by rw [Int.natAbs_natCast];exact hN1) (by decide)
 obtain ⟨E,hE⟩:∃ E,E=1302:=⟨_,rfl⟩
 have hNp:N^(d-1)≤BB^E:=bb_pw hN1 (by omega)
 have fNp:Fit ((N:Int)^(d-1)):=fit_bb (k:=E) (by rw [Int.natAbs_pow,Int.natAbs_natCast];exact hNp) (by omega)
 have hd1:d≤BB^1:=by rw [Nat.pow_one,BB_eq];omega
 have fd:Fit (d:Int):=fit_bb (k:=1) (by rw [Int.natAbs_natCast];exact hd1) (by decide)
 have hdp:d^(d+2)≤BB^17:=bb_pw hd1 (by omega)
 have fdp:Fit ((d:Int)^(d+2)):=fit_bb (k:=17) (by rw [Int.natAbs_pow,Int.natAbs_natCast];exact hdp) (by decide)
 obtain ⟨X,hX⟩:∃ X:Nat,X=d^(d+2)*N^(d-1):=⟨_,rfl⟩
 have hXb:X≤BB^(17+E):=by rw [hX];exact bb_mul2 hdp hNp
 have smX:Sm (X+1):=sm_bb (k:=17+E+1) (Nat.le_trans (Nat.add_le_add hXb (Nat.one_le_pow _ _ BB_pos)) (by rw [← Nat.two_mul];exact bb_mul (by rw [BB_eq];omega) (Nat.le_refl _))) (by omega)
 have siX:SmI (X:Int):=by unfold SmI;rw [Int.natAbs_natCast];exact Sm.mono smX (by omega)
 have hXe:Hid (((d:Int)^(d+2))*((N:Int)^(d-1))=(X:Int)):=Lib.hid (by rw [hX];simp)
 have hsx:Hid (sepx Q=X):=Lib.hid (by unfold sepx;rw [hd,hQl,hN,hX,Nat.add_sub_cancel,Int.natAbs_natCast])
 have HXb:=Lib.hid hXb
 have HE:=Lib.hid hE
 have HN:=Lib.hid hN
 have HQl:=Lib.hid hQl
 have Hd:=Lib.hid hd
 have Hd2:=Lib.hid hd2
 clear qb hnb hN hX hdp hd hd2 ql qt hsm b92 hnst hN1 hNp hd1 hXb hE
 go_enter Tryz.func16,Tryz.ntmps16
 go_wp2_with fail
 refine (part_q hI _ _ _ F _ hf sf hF'.out hla).mono ?_
 rintro e w1 ⟨A1,l1,c1,rfl,h1,hb1⟩
 rw [← HQ.out] at h1
 have hl1:l1=d+1:=by rw [← h1.length];exact HQl.out
 subst hl1
 have H1:=Lib.hid h1
 have Hb:=Lib.hid hb1
 clear hf h1 hb1
 go_wp2_with fail
 refine (degree_any _ _ _ _ _ (H1.out.at_ ikN) sQ (by omega)).mono ?_
 rintro e w2 ⟨rfl,hb2⟩
 rw [Hd2.out]
 replace H1:=Lib.hid (H1.out.below ikN hb2)
 replace Hb:=Lib.hid (Hb.out.trans (hb2.mono Hb.out.size))
 clear hb2
 have t1:¬ (d:Int)<2:=by omega
 have w3:IntKind.i64.wrap (d:Int)=(d:Int):=IntWalk.i64_in _ (by omega)
 obtain ⟨d2,hd2⟩:∃ d2,d2=d+2:=⟨_,rfl⟩
 obtain ⟨d1,hd1⟩:∃ d1,d1=d-1:=⟨_,rfl⟩
 rw [← hd2] at fdp hXe
 rw [← hd1] at fNp hXe
 have q4:IntKind.i64.wrap ((d:Int)+2)=(d2:Int):=by rw [IntWalk.i64_in _ (by omega)];omega
 have q4':(d:Int)+2=(d2:Int):=by omega
 have q4'':IntKind.i64.wrap (d2:Int)=(d2:Int):=IntWalk.i64_in _ (by omega)
 have q5:IntKind.i64.wrap ((d:Int)-1)=(d1:Int):=by rw [IntWalk.i64_in _ (by omega)];omega
 have q5':(d:Int)-1=(d1:Int):=by omega
 have q5'':IntKind.i64.wrap (d1:Int)=(d1:Int):=IntWalk.i64_in _ (by omega)
 have hd2b:d2≤17:=by omega
 have hd1b:d1≤15:=by omega
 clear hd2 hd1
 have d00:(d:Int)≠0:=by omega
 go_wp2_with fail
 refine (iof_any (d:Int) _ (by unfold I64;omega)).mono ?_
 rintro e w3 ⟨n3,A3,l3,c3,rfl,h3,hb3⟩
 replace H1:=Lib.hid (H1.out.below ikN hb3)
 replace Hb:=Lib.hid (Hb.out.trans (hb3.mono Hb.out.size))
 have H3:=Lib.hid h3
 clear h3 hb3
 go_wp2_with fail
 refine (rpower_any _ _ _ _ (d:Int) d2 _ H3.out d00 fdp (by omega) fd).mono ?_
 rintro e w4 ⟨n4,A4,l4,c4,rfl,h4,hb4⟩
 have k4:Below w4.heap.size w4 (w4.alloc (ibox n4 A4 l4 c4)):=(Below.refl _ _).alloc (Nat.le_refl _) _
 replace H1:=Lib.hid ((H1.out.below ikN hb4).below ikN k4)
 have B5:=Lib.hid (IBox.make h4)
 replace Hb:=Lib.hid ((Hb.out.trans (hb4.mono Hb.out.size)).trans (k4.mono (Hb.out.trans (hb4.mono Hb.out.size)).size))
 obtain ⟨g5,hg5⟩:∃ g,g=w4.heap.size:=⟨_,rfl⟩
 obtain ⟨wa,hwa⟩:∃ wa,wa=w4.alloc (ibox n4 A4 l4 c4):=⟨_,rfl⟩
 go_wp2_with fail
 rw [← hwa] at H1 B5 Hb ⊢
 rw [← hg5] at B5 ⊢
 clear h4 hb4 k4 H3 hwa hg5 q4 q4' q4''
 refine (rnorm_any ikN _ _ _ Q _ H1.out sQ (by omega) hok).mono ?_
 rintro e w5 ⟨n5,A5,l5,c5,rfl,h5,hb5⟩
 rw [HN.out] at h5
 have H5:=Lib.hid h5
 replace B5:=Lib.hid (B5.out.move hb5)
 replace Hb:=Lib.hid (Hb.out.trans (hb5.mono Hb.out.size))
 clear h5 hb5 H1
 go_wp2_with fail
 refine (rpower_any _ _ _ _ (N:Int) d1 _ H5.out hN0 fNp (by omega) fN).mono ?_
 rintro e w6 ⟨n6,A6,l6,c6,rfl,h6,hb6⟩
 have k6:Below w6.heap.size w6 (w6.alloc (ibox n6 A6 l6 c6)):=(Below.refl _ _).alloc (Nat.le_refl _) _
 replace B5:=Lib.hid ((B5.out.move hb6).move k6)
 have B6:=Lib.hid (IBox.make h6)
 replace Hb:=Lib.hid ((Hb.out.trans (hb6.mono Hb.out.size)).trans (k6.mono (Hb.out.trans (hb6.mono Hb.out.size)).size))
 obtain ⟨g6,hg6⟩:∃ g,g=w6.heap.size:=⟨_,rfl⟩
 obtain ⟨wc,hwc⟩:∃ wc,wc=w6.alloc (ibox n6 A6 l6 c6):=⟨_,rfl⟩
 rw [← hwc] at B5 B6 Hb
 rw [← hg6] at B6
 have x0:=B5.out.c0
 have x1:=B5.out.c1
 have y0:=B6.out.c0
 have y1:=B6.out.c1
 clear q5 q5' q5''
 rw [hwc,hg6] at y0 y1
 rw [hwc] at x0 x1
 go_wp2_with fail
 rw [← hwc] at x0 x1 y0 y1 ⊢
 clear hwc h6 hb6 k6 H5 x0 x1 y0 y1
 refine (imul_any _ _ _ _ _ _ _ _ _ _ _ B5.out.hz.at_ B6.out.hz.at_ fdp.sm fNp.sm (fdp.mulok _)).mono ?_
 rintro e w7 ⟨n7,A7,l7,c7,rfl,h7,hb7⟩
 rw [hXe.out] at h7
 have H7:=Lib.hid h7
 replace Hb:=Lib.hid (Hb.out.trans (hb7.mono Hb.out.size))
 clear h7 hb7 B5 B6
 go_wp2_with fail
 refine (logarithm_all _ _ _ _ X _ H7.out.at_ siX smX).mono ?_
 rintro e w8 ⟨⟨k,rfl,hk⟩,hb8⟩
 replace Hb:=Lib.hid (Hb.out.trans (hb8.mono Hb.out.size))
 have hk2:k≤50000:=by have:=lg_bb HXb.out hk;have:=HE.out;omega
 obtain ⟨s,hs⟩:∃ s,s=(k+1) / 2:=⟨_,rfl⟩
 have HV:=Lib.hid (show SepQ (qpart F) s from .inr ⟨by rw [← HQ.out,Hd.out];omega,k,by rw [← HQ.out,hsx.out];exact hk,hs⟩)
 have q1:IntKind.i64.wrap ((k:Int)+1)=((k+1:Nat):Int):=by rw [IntWalk.i64_in _ (by omega)];omega
 have q1':(k:Int)+1=((k+1:Nat):Int):=by omega
 have q2:Int.tdiv ((k+1:Nat):Int) 2=(s:Int):=by rw [hs];rfl
 have q3:IntKind.i64.wrap (s:Int)=(s:Int):=IntWalk.i64_in _ (by omega)
 have q4:IntKind.i64.wrap ((k+1:Nat):Int)=((k+1:Nat):Int):=IntWalk.i64_in _ (by omega)
 have hs1:s≤50000:=by omega
 obtain ⟨m,hm⟩:∃ m,m=k+1:=⟨_,rfl⟩
 rw [← hm] at q1 q1' q2 q4
 clear hk hb8 H7 hs hm hk2
 go_wp2
 go_ret
 exact ⟨⟨s,rfl,HV.out,hs1⟩,Hb.out⟩
end Go.Proofs.YtjmglmgokfcgoaaGreat
namespace Go.Proofs.YtjmglmgokfcgoaaGreat
open Go Go.RowKit
def PsE (w:World) (p:List Int) (vs:List Value):Prop:=∃ A l c,vs=[.slice A l c]∧I64At w A l c p
theorem PsE.below {w w':World} {p:List Int} {vs:List Value} (h:PsE w p vs) (hb:Below w.heap.size w w'):PsE w' p vs:=by
 obtain ⟨A,l,c,e,h⟩:=h
 exact ⟨A,l,c,e,h.below hb⟩
abbrev PsAt (w:World) (A:Option Addr) (l c:Nat) (ps:List (List Int)):Prop:=SlE 1 PsE w A l c ps
theorem ps_below {w w':World} {A:Option Addr} {l c:Nat} {ps:List (List Int)} (h:PsAt w A l c ps) (hb:Below w.heap.size w w'):PsAt w' A l c ps:=h.below hb fun _ _ hx=>hx.below hb
theorem ps_one {w:World} {t:TypeId} {A:Option Addr} {l c:Nat} {p:List Int} (h:I64At w A l c p):PsAt (w.alloc (.cells #[.slice A l c] t)) (some ⟨w.heap.size,0,none⟩) 1 1 [p]:=by
 have hb:=below_new w (.cells #[.slice A l c] t)
 refine ⟨rfl,Nat.le_refl _,.inr ⟨w.heap.size,0,rfl,by simp,fun i x hx=>?_⟩⟩
 match i,hx with
 | 0,hx =>
   simp at hx
   subst hx
   refine ⟨_,⟨A,l,c,rfl,h.below hb⟩,fun j v hv=>?_⟩
   match j,hv with
   | 0,hv=>simp at hv;subst hv;simp
   | j+1,hv=>simp at hv
 | i+1,hx=>simp at hx
theorem ps_two {w:World} {t:TypeId} {A:Option Addr} {l c:Nat} {p:List Int} {B:Option Addr} {m d:Nat} {q:List Int} (h:I64At w A l c p) (k:I64At w B m d q):PsAt (w.alloc (.cells #[.slice A l c,.slice B m d] t)) (some ⟨w.heap.size,0,none⟩) 2 2 [p,q]:=by
 have hb:=below_new w (.cells #[.slice A l c,.slice B m d] t)
 refine ⟨rfl,Nat.le_refl _,.inr ⟨w.heap.size,0,rfl,by simp,fun i x hx=>?_⟩⟩
 match i,hx with
 | 0,hx =>
   simp at hx
   subst hx
   refine ⟨_,⟨A,l,c,rfl,h.below hb⟩,fun j v hv=>?_⟩
   match j,hv with
   | 0,hv=>simp at hv;subst hv;simp
   | j+1,hv=>simp at hv
 | 1,hx =>
   simp at hx
   subst hx
   refine ⟨_,⟨B,m,d,rfl,k.below hb⟩,fun j v hv=>?_⟩
   match j,hv with
   | 0,hv=>simp at hv;subst hv;simp
   | j+1,hv=>simp at hv
 | i+2,hx=>simp at hx
theorem rnu_le {p:List Int} {M:Nat} (_h:plen p≠0) (hM:∀ j,(p.getD j 0).natAbs≤M):(rnu p).natAbs≤M:=by
 have h1:=rgc_bd hM (plen p)
 rw [rgc_eq] at h1
 unfold rnu
 split<;>omega
theorem gd3 {a b c:Int} {M:Nat} (ha:a.natAbs≤M) (hb:b.natAbs≤M) (hc:c.natAbs≤M) (j:Nat):(([a,b,c]:List Int).getD j 0).natAbs≤M:=by
 match j with
 | 0=>exact ha
 | 1=>exact hb
 | 2=>exact hc
 | j+3=>exact Nat.zero_le _
theorem gd2 {a b:Int} {M:Nat} (ha:a.natAbs≤M) (hb:b.natAbs≤M) (j:Nat):(([a,b]:List Int).getD j 0).natAbs≤M:=by
 match j with
 | 0=>exact ha
 | 1=>exact hb
 | j+2=>exact Nat.zero_le _
theorem rnrm_two (A:Option Addr) (len cap:Nat) (p:List Int) (w:World) (h:I64At w A len cap p) (hm:len≤1000) (h2:plen p=2) (hM:∀ j,(p.getD j 0).natAbs≤2305843009213693952) :
 Calls Tryz.prog 150 #[.slice A len cap] w fun e w'=>(∃ A',e=.returned (.tuple #[.int .i64 (rnu p),.slice A' 2 2])∧I64At w' A' 2 2 (nrm p))∧Below w.heap.size w w':=by
 refine (rnrm_any A len cap p w h hm (by omega) hM).mono ?_
 rintro e w1 ⟨rfl,hk,hb⟩
 have hk':IRow w1 w.heap.size (nrm p):=hk
 have:=hk'.at_ (cap:=2) (by rw [nrm_len,h2];exact Nat.le_refl _)
 rw [nrm_len,h2] at this
 rw [h2]
 exact ⟨⟨_,rfl,this⟩,hb⟩
set_option maxRecDepth 100000 in
set_option maxHeartbeats 8000000 in
theorem fsplit_any (A:Option Addr) (ca:Nat) (a b c:Int) (w:World) (h:I64At w A 3 ca [a,b,c]) (ha:a.natAbs≤9) (hb:b.natAbs≤9) (hc:c.natAbs≤9) :
 Calls Tryz.prog 79 #[.slice A 3 ca] w fun e w'=>(∃ u A' l' c',e=.returned (.tuple #[.int .i64 u,.slice A' l' c'])∧(u=0↔plen [a,b,c]=0)∧u.natAbs≤9∧PsAt w' A' l' c' (spl [a,b,c]))∧Below w.heap.size w w':=by
 have hM:=gd3 ha hb hc
 obtain ⟨q,hq⟩:∃ q,q=[a,b,c]:=⟨_,rfl⟩
 have hp3:plen [a,b,c]≤3:=plen_le [a,b,c]
 rw [← hq] at h hM hp3 ⊢
 clear hq
 go_enter Tryz.func79,Tryz.ntmps79
 by_cases h0:plen q=0
 ·go_wp2_with fail
  refine (rnrm_zero _ _ _ _ _ h (by omega) h0).mono ?_
  rintro e w1 ⟨rfl,rfl⟩
  have Hsp:=Lib.hid (show spl q=[] by unfold spl;rw [if_pos (by omega)])
  have H0:=Lib.hid h0
  clear h h0
  go_wp2
  refine bodyPost_ret (v:=.tuple #[.int .i64 0,.slice none 0 0]) (by simp [results,Tryz.results79,go_sem]) rfl ⟨⟨0,none,0,0,rfl,⟨fun _=>H0.out,fun _=>rfl⟩,Nat.zero_le _,by rw [Hsp.out];exact ⟨rfl,Nat.le_refl _,.inl ⟨rfl,rfl,rfl⟩⟩⟩,Bel.go⟩
 go_wp2_with fail
 refine (rnrm_any _ _ _ _ _ h (by omega) h0 (fun j=>by have:=hM j;omega)).mono ?_
 rintro e w1 ⟨rfl,hk,hb1⟩
 have hk':IRow w1 w.heap.size (nrm q):=hk
 have HM:=Lib.hid (nrm_le hM)
 have HU:=Lib.hid (show (rnu q=0↔plen q=0)∧(rnu q).natAbs≤9 from ⟨⟨fun e=>absurd e (rnu_ne h0),fun e=>absurd e h0⟩,rnu_le h0 hM⟩)
 have HL:=Lib.hid (nrm_len q)
 have HSP:=Lib.hid (show spl q=spl q from rfl)
 have HK:=Lib.hid hk'
 have Hb:=Lib.hid hb1
 obtain ⟨G,hG⟩:∃ G,G=w.heap.size:=⟨_,rfl⟩
 rw [← hG] at HK
 have HG:=Lib.hid hG
 obtain ⟨u,hu⟩:∃ u,u=rnu q:=⟨_,rfl⟩
 rw [← hu] at HU ⊢
 have hGl:G<w1.heap.size:=HK.out.lt
 clear hk hk' hb1 h hM hu
 rcases (show plen q=1∨plen q=2∨plen q=3 by omega) with e1 | e1 | e1
 ·have Hsp:=Lib.hid (show spl q=[] by unfold spl;rw [if_pos (by omega)])
  rw [e1,← hG]
  clear h0 e1 hp3 hG
  go_wp2
  refine bodyPost_ret (v:=.tuple #[.int .i64 u,.slice none 0 0]) (by simp [results,Tryz.results79,go_sem]) rfl ⟨⟨u,none,0,0,rfl,HU.out.1,HU.out.2,by rw [Hsp.out];exact ⟨rfl,Nat.le_refl _,.inl ⟨rfl,rfl,rfl⟩⟩⟩,Hb.out⟩
 ·have Hsp:=Lib.hid (show spl q=[nrm q] by unfold spl;rw [if_neg (by omega),if_pos e1])
  have HA:=Lib.hid (show I64At w1 (some ⟨G,0,none⟩) 2 2 (nrm q) by have:=HK.out.at_ (cap:=2) (by rw [HL.out,e1];exact Nat.le_refl _);rwa [HL.out,e1] at this)
  rw [e1,← hG]
  clear h0 e1 hp3 hG
  go_wp2
  refine bodyPost_ret (v:=.tuple #[.int .i64 u,.slice (some ⟨w1.heap.size,0,none⟩) 1 1]) (by simp [results,Tryz.results79,go_sem]) rfl ⟨⟨u,_,_,_,rfl,HU.out.1,HU.out.2,by rw [Hsp.out];exact ps_one HA.out⟩,Hb.out.trans ((below_new _ _).mono Hb.out.size)⟩
 ·have HA:=Lib.hid (show I64At w1 (some ⟨G,0,none⟩) 3 3 (nrm q) by have:=HK.out.at_ (cap:=3) (by rw [HL.out,e1];exact Nat.le_refl _);rwa [HL.out,e1] at this)
  have SN:=Lib.hid (show ∀ hn:(∀ s:Nat,(s:Int)*(s:Int)≠dsc (nrm q)),spl q=[nrm q] from fun hn=>by unfold spl;rw [if_neg (by omega),if_neg (by omega),sqd_none hn])
  have SS:=Lib.hid (show ∀ s:Nat,(s:Int)*(s:Int)=dsc (nrm q)→spl q=[lin1 (nrm q) (-(s:Int)),lin1 (nrm q) (s:Int)] from fun s hs=>by unfold spl;rw [if_neg (by omega),if_neg (by omega),sqd_some hs])
  have hln:(nrm q).length=3:=by rw [HL.out,e1]
  have hpos:0<(nrm q).getD 2 0:=by have:=nrm_lead h0;rwa [e1] at this
  have c0:=HK.out.cell (i:=0) (by omega)
  have c1:=HK.out.cell (i:=1) (by omega)
  have c2:=HK.out.cell (i:=2) (by omega)
  have b0:=HM.out 0
  have b1:=HM.out 1
  have b2:=HM.out 2
  obtain ⟨x0,hx0⟩:∃ x,x=(nrm q).getD 0 0:=⟨_,rfl⟩
  obtain ⟨x1,hx1⟩:∃ x,x=(nrm q).getD 1 0:=⟨_,rfl⟩
  obtain ⟨x2,hx2⟩:∃ x,x=(nrm q).getD 2 0:=⟨_,rfl⟩
  rw [← hx0] at c0 b0
  rw [← hx1] at c1 b1
  rw [← hx2] at c2 b2 hpos
  have HX:=Lib.hid (And.intro hx0 (And.intro hx1 hx2))
  obtain ⟨y1,hy1⟩:∃ y,y=x1*x1:=⟨_,rfl⟩
  obtain ⟨y2,hy2⟩:∃ y,y=4*x2:=⟨_,rfl⟩
  obtain ⟨y3,hy3⟩:∃ y,y=y2*x0:=⟨_,rfl⟩
  have m1:y1.natAbs≤81:=by rw [hy1,Int.natAbs_mul];exact Nat.mul_le_mul b1 b1
  have m3:y3.natAbs≤36*9:=by rw [hy3,Int.natAbs_mul];exact Nat.mul_le_mul (by omega) b0
  have i1:IntKind.i64.wrap y1=y1:=IntWalk.i64_in _ (by omega)
  have i2:IntKind.i64.wrap y2=y2:=IntWalk.i64_in _ (by omega)
  have i3:IntKind.i64.wrap y3=y3:=IntWalk.i64_in _ (by omega)
  have i4:IntKind.i64.wrap (y1-y3)=y1-y3:=IntWalk.i64_in _ (by omega)
  have f1:x1*x1=y1:=hy1.symm
  have f2:4*x2=y2:=hy2.symm
  have f3:y2*x0=y3:=hy3.symm
  have HD:=Lib.hid (show dsc (nrm q)=y1-y3 by unfold dsc;rw [← hx0,← hx1,← hx2,f1,f2,f3])
  rw [e1,← hG]
  clear hx0 hx1 hx2 hy1 hy2 hy3 e1 h0 hp3 hG hln
  go_wp2_with fail
  refine wp_region_held_drew (S:=fun w'=>w'.cell? ⟨G,0,none⟩=some (.int .i64 x0)∧w'.cell? ⟨G,1,none⟩=some (.int .i64 x1)∧w'.cell? ⟨G,2,none⟩=some (.int .i64 x2)) (by kernel_rfl) (by (try dsimp only);go_keep) (fun hHeld=>?_)
  (refine tk (i:=0) (v:=?_) rfl rfl (Or.inl ⟨by rfl,?_⟩) ?_;rotate_left;(focus (intro w hSw;(try dsimp only at hSw);go_simp;(try with_reducible rfl)));(simp only [put_lit,List.set]))
  (refine tk (i:=1) (v:=?_) rfl rfl (Or.inl ⟨by rfl,?_⟩) ?_;rotate_left;(focus (intro w hSw;(try dsimp only at hSw);go_simp;(try with_reducible rfl)));(simp only [put_lit,List.set]))
  (refine tk (i:=2) (v:=?_) rfl rfl (Or.inl ⟨by rfl,?_⟩) ?_;rotate_left;(focus (intro w hSw;(try dsimp only at hSw);go_simp;(try with_reducible rfl)));(simp only [put_lit,List.set]))
  (refine tk (i:=3) (v:=?_) rfl rfl (Or.inl ⟨by rfl,?_⟩) ?_;rotate_left;(focus (intro w hSw;(try dsimp only at hSw);go_simp;(try with_reducible rfl)));(simp only [put_lit,List.set]))
  (refine tk (i:=4) (v:=?_) rfl rfl (Or.inl ⟨by rfl,?_⟩) ?_;rotate_left;(focus (intro w hSw;(try dsimp only at hSw);go_simp;(try with_reducible rfl)));(simp only [put_lit,List.set]))
  (refine tk (i:=5) (v:=?_) rfl rfl (Or.inl ⟨by rfl,?_⟩) ?_;rotate_left;(focus (intro w hSw;(try dsimp only at hSw);go_simp;(try with_reducible rfl)));(simp only [put_lit,List.set]))
  (refine tk (i:=6) (v:=?_) rfl rfl (Or.inl ⟨by rfl,?_⟩) ?_;rotate_left;(focus (intro w hSw;(try dsimp only at hSw);go_simp;(try with_reducible rfl)));(simp only [put_lit,List.set]))
  (refine tk (i:=7) (v:=?_) rfl rfl (Or.inl ⟨by rfl,?_⟩) ?_;rotate_left;(focus (intro w hSw;(try dsimp only at hSw);go_simp;(try with_reducible rfl)));(simp only [put_lit,List.set]))
  (refine tk (i:=8) (v:=?_) rfl rfl (Or.inl ⟨by rfl,?_⟩) ?_;rotate_left;(focus (intro w hSw;(try dsimp only at hSw);go_simp;(try with_reducible rfl)));(simp only [put_lit,List.set]))
  (refine tk (i:=9) (v:=?_) rfl rfl (Or.inl ⟨by rfl,?_⟩) ?_;rotate_left;(focus (intro w hSw;(try dsimp only at hSw);go_simp;(try with_reducible rfl)));(simp only [put_lit,List.set]))
  (refine tk (i:=10) (v:=?_) rfl rfl (Or.inl ⟨by rfl,?_⟩) ?_;rotate_left;(focus (intro w hSw;(try dsimp only at hSw);go_simp;(try with_reducible rfl)));(simp only [put_lit,List.set]))
  (refine tk (i:=11) (v:=?_) rfl rfl (Or.inl ⟨by rfl,?_⟩) ?_;rotate_left;(focus (intro w hSw;(try dsimp only at hSw);go_simp;(try with_reducible rfl)));(simp only [put_lit,List.set]))
  (refine tk (i:=12) (v:=?_) rfl rfl (Or.inl ⟨by rfl,?_⟩) ?_;rotate_left;(focus (intro w hSw;(try dsimp only at hSw);go_simp;(try with_reducible rfl)));(simp only [put_lit,List.set]))
  (refine tk (i:=13) (v:=?_) rfl rfl (Or.inl ⟨by rfl,?_⟩) ?_;rotate_left;(focus (intro w hSw;(try dsimp only at hSw);go_simp;(try with_reducible rfl)));(simp only [put_lit,List.set]))
  (refine tk (i:=14) (v:=?_) rfl rfl (Or.inl ⟨by rfl,?_⟩) ?_;rotate_left;(focus (intro w hSw;(try dsimp only at hSw);go_simp;(try with_reducible rfl)));(simp only [put_lit,List.set]))
  (refine tk (i:=15) (v:=?_) rfl rfl (Or.inl ⟨by rfl,?_⟩) ?_;rotate_left;(focus (intro w hSw;(try dsimp only at hSw);go_simp;(try with_reducible rfl)));(simp only [put_lit,List.set]))
  (refine wpAnyH_ready (rs:=[16]) (by kernel_rfl) (by simp) ?_;refine AllReadyH.cons rfl (fun K hK=>?_) AllReadyH.nil;go_simp)
  refine (iroot_any (y1-y3) _ (by omega)).mono ?_
  rintro e w5 ⟨⟨s,rfl,hs,hsn,hst⟩,hw5⟩
  generalize hB:decide (0≤y1-y3∧(s:Int)*(s:Int)=y1-y3)=B
  have HB:=Lib.hid hB
  clear hB
  obtain rfl:=hw5
  have hsl:(s:Int)≤1000:=by omega
  refine hK.out _ _ ?_ (fun _=>?_);(focus ((try dsimp only);go_keep));clear hHeld hK K;rename_i hHeld;(try (simp only [put_lit,List.set]))
  (refine tk (i:=17) (v:=?_) rfl rfl (Or.inl ⟨by rfl,?_⟩) ?_;rotate_left;(focus (intro w hSw;(try dsimp only at hSw);go_simp;(try with_reducible rfl)));(simp only [put_lit,List.set]))
  (refine tk (i:=18) (v:=?_) rfl rfl (Or.inl ⟨by rfl,?_⟩) ?_;rotate_left;(focus (intro w hSw;(try dsimp only at hSw);go_simp;(try with_reducible rfl)));(simp only [put_lit,List.set]))
  (refine tk (i:=19) (v:=?_) rfl rfl (Or.inl ⟨by rfl,?_⟩) ?_;rotate_left;(focus (intro w hSw;(try dsimp only at hSw);go_simp;(try with_reducible rfl)));(simp only [put_lit,List.set]))
  (refine tk (i:=20) (v:=?_) rfl rfl (Or.inl ⟨by rfl,?_⟩) ?_;rotate_left;(focus (intro w hSw;(try dsimp only at hSw);go_simp;(try with_reducible rfl)));(simp only [put_lit,List.set]))
  (refine tk (i:=21) (v:=?_) rfl rfl (Or.inl ⟨by rfl,?_⟩) ?_;rotate_left;(focus (intro w hSw;(try dsimp only at hSw);go_simp;(try with_reducible rfl)));(simp only [put_lit,List.set]))
  refine wpAnyH_done (by kernel_rfl) ?_ _
  by_cases hbt:B=true
  ·subst hbt
   have hok:=of_decide_eq_true HB.out
   clear HB
   have Hsp:=Lib.hid (SS.out s (hok.2.trans HD.out.symm))
   have hs20:s≤20:=by
    refine Nat.le_of_not_lt fun hlt=>?_
    have h1:21*21≤s*s:=Nat.mul_le_mul hlt hlt
    have h2:((s*s:Nat):Int)=y1-y3:=by rw [Int.natCast_mul];exact hok.2
    omega
   have HE1:=Lib.hid (show ([x1-(s:Int),2*x2]:List Int)=[(nrm q).getD 1 0 + -(s:Int),2*(nrm q).getD 2 0] by rw [← HX.out.2.1,← HX.out.2.2];rfl)
   have HE2:=Lib.hid (show ([x1+(s:Int),2*x2]:List Int)=[(nrm q).getD 1 0+(s:Int),2*(nrm q).getD 2 0] by rw [← HX.out.2.1,← HX.out.2.2])
   have P1:=Lib.hid (show plen [x1-(s:Int),2*x2]=2 by rw [plen_cons_succ (by rw [plen_cons_one rfl (by omega)];omega),plen_cons_one rfl (by omega)])
   have P2:=Lib.hid (show plen [x1+(s:Int),2*x2]=2 by rw [plen_cons_succ (by rw [plen_cons_one rfl (by omega)];omega),plen_cons_one rfl (by omega)])
   have j1:IntKind.i64.wrap (x1-(s:Int))=x1-(s:Int):=IntWalk.i64_in _ (by omega)
   have j2:IntKind.i64.wrap (x1+(s:Int))=x1+(s:Int):=IntWalk.i64_in _ (by omega)
   have j3:IntKind.i64.wrap (2*x2)=2*x2:=IntWalk.i64_in _ (by omega)
   have D1:=Lib.hid (show ∀ j,(([x1-(s:Int),2*x2]:List Int).getD j 0).natAbs≤2305843009213693952 from fun j=>gd2 (by omega) (by omega) j)
   have D2:=Lib.hid (show ∀ j,(([x1+(s:Int),2*x2]:List Int).getD j 0).natAbs≤2305843009213693952 from fun j=>gd2 (by omega) (by omega) j)
   clear hok hHeld c0 HX hst hsn i1 i2 i3 i4 f1 f2 f3 m1 m3 b0 hsl HD SN SS
   go_wp2_with fail
   refine wp_region_held_drew (S:=fun w'=>w'.cell? ⟨G,1,none⟩=some (.int .i64 x1)∧w'.cell? ⟨G,2,none⟩=some (.int .i64 x2)) (by kernel_rfl) (by (try dsimp only);go_keep) (fun hHeld=>?_)
   (refine tk (i:=0) (v:=?_) rfl rfl (Or.inl ⟨by rfl,?_⟩) ?_;rotate_left;(focus (intro w hSw;(try dsimp only at hSw);go_simp;(try with_reducible rfl)));(simp only [put_lit,List.set]))
   (refine tk (i:=1) (v:=?_) rfl rfl (Or.inl ⟨by rfl,?_⟩) ?_;rotate_left;(focus (intro w hSw;(try dsimp only at hSw);go_simp;(try with_reducible rfl)));(simp only [put_lit,List.set]))
   (refine tk (i:=2) (v:=?_) rfl rfl (Or.inl ⟨by rfl,?_⟩) ?_;rotate_left;(focus (intro w hSw;(try dsimp only at hSw);go_simp;(try with_reducible rfl)));(simp only [put_lit,List.set]))
   (refine tk (i:=3) (v:=?_) rfl rfl (Or.inl ⟨by rfl,?_⟩) ?_;rotate_left;(focus (intro w hSw;(try dsimp only at hSw);go_simp;(try with_reducible rfl)));(simp only [put_lit,List.set]))
   (refine tk (i:=4) (v:=?_) rfl rfl (Or.inl ⟨by rfl,?_⟩) ?_;rotate_left;(focus (intro w hSw;(try dsimp only at hSw);go_simp;(try with_reducible rfl)));(simp only [put_lit,List.set]))
   (refine tk (i:=5) (v:=?_) rfl rfl (Or.inl ⟨by rfl,?_⟩) ?_;rotate_left;(focus (intro w hSw;(try dsimp only at hSw);go_simp;(try with_reducible rfl)));(simp only [put_lit,List.set]))
   (refine tk (i:=6) (v:=?_) rfl rfl (Or.inl ⟨by rfl,?_⟩) ?_;rotate_left;(focus (intro w hSw;(try dsimp only at hSw);go_simp;(try with_reducible rfl)));(simp only [put_lit,List.set]))
   (refine tk (i:=7) (v:=?_) rfl rfl (Or.inl ⟨by rfl,?_⟩) ?_;rotate_left;(focus (intro w hSw;(try dsimp only at hSw);go_simp;(try with_reducible rfl)));(simp only [put_lit,List.set]))
   (refine tk (i:=8) (v:=?_) rfl rfl (Or.inl ⟨by rfl,?_⟩) ?_;rotate_left;(focus (intro w hSw;(try dsimp only at hSw);go_simp;(try with_reducible rfl)));(simp only [put_lit,List.set]))
   refine wpAnyH_ready (rs:=[9]) (by kernel_rfl) (by simp) ?_;refine AllReadyH.cons rfl (fun K hK=>?_) AllReadyH.nil;go_simp;refine hK.out _ _ ?_ (fun _=>?_);(focus ((try dsimp only);go_keep));clear hHeld hK K;rename_i hHeld;(try (simp only [put_lit,List.set]))
   (refine wpAnyH_ready (rs:=[10]) (by kernel_rfl) (by simp) ?_;refine AllReadyH.cons rfl (fun K hK=>?_) AllReadyH.nil;go_simp)
   refine (rnrm_two _ _ _ [x1-(s:Int),2*x2] _ ((I64At.two w1 _ _).below Bel.go) (by omega) P1.out D1.out).mono ?_
   rintro e w5 ⟨⟨A5,rfl,h5⟩,hb5⟩
   have hb15:Below w1.heap.size w1 w5:=(Below.trans Bel.go (hb5.mono (by simp<;>omega)))
   have H5:=Lib.hid h5
   have c1':=(hb15.cell (p:=⟨G,1,none⟩) hGl).trans c1
   have c2':=(hb15.cell (p:=⟨G,2,none⟩) hGl).trans c2
   have hG5:G<w5.heap.size:=Nat.lt_of_lt_of_le hGl hb15.size
   have Hb5:=Lib.hid (Hb.out.trans (hb15.mono Hb.out.size))
   clear h5 hb15
   obtain ⟨hcx,hfx⟩:=bcellS hb5;refine hK.out _ _ ?_ (fun _=>?_);(focus (((try dsimp only);repeat' apply And.intro)<;>(rw [hcx _ (by go_simp)];go_simp)));clear hHeld hK K hcx hfx;rename_i hHeld;clear hb5
   (refine tk (i:=11) (v:=?_) rfl rfl (Or.inl ⟨by rfl,?_⟩) ?_;rotate_left;(focus (intro w hSw;(try dsimp only at hSw);go_simp;(try with_reducible rfl)));(simp only [put_lit,List.set]))
   (refine tk (i:=12) (v:=?_) rfl rfl (Or.inl ⟨by rfl,?_⟩) ?_;rotate_left;(focus (intro w hSw;(try dsimp only at hSw);go_simp;(try with_reducible rfl)));(simp only [put_lit,List.set]))
   (refine tk (i:=13) (v:=?_) rfl rfl (Or.inl ⟨by rfl,?_⟩) ?_;rotate_left;(focus (intro w hSw;(try dsimp only at hSw);go_simp;(try with_reducible rfl)));(simp only [put_lit,List.set]))
   (refine tk (i:=14) (v:=?_) rfl rfl (Or.inl ⟨by rfl,?_⟩) ?_;rotate_left;(focus (intro w hSw;(try dsimp only at hSw);go_simp;(try with_reducible rfl)));(simp only [put_lit,List.set]))
   (refine tk (i:=15) (v:=?_) rfl rfl (Or.inl ⟨by rfl,?_⟩) ?_;rotate_left;(focus (intro w hSw;(try dsimp only at hSw);go_simp;(try with_reducible rfl)));(simp only [put_lit,List.set]))
   refine wpAnyH_done (by kernel_rfl) ?_ _
   clear hHeld c1 c2 hGl
   go_wp2_with fail
   refine wp_region_held_drew (S:=fun w'=>w'.cell? ⟨G,1,none⟩=some (.int .i64 x1)∧w'.cell? ⟨G,2,none⟩=some (.int .i64 x2)) (by kernel_rfl) (by (try dsimp only);go_keep) (fun hHeld=>?_)
   (refine tk (i:=0) (v:=?_) rfl rfl (Or.inl ⟨by rfl,?_⟩) ?_;rotate_left;(focus (intro w hSw;(try dsimp only at hSw);go_simp;(try with_reducible rfl)));(simp only [put_lit,List.set]))
   (refine tk (i:=1) (v:=?_) rfl rfl (Or.inl ⟨by rfl,?_⟩) ?_;rotate_left;(focus (intro w hSw;(try dsimp only at hSw);go_simp;(try with_reducible rfl)));(simp only [put_lit,List.set]))
   (refine tk (i:=2) (v:=?_) rfl rfl (Or.inl ⟨by rfl,?_⟩) ?_;rotate_left;(focus (intro w hSw;(try dsimp only at hSw);go_simp;(try with_reducible rfl)));(simp only [put_lit,List.set]))
   (refine tk (i:=3) (v:=?_) rfl rfl (Or.inl ⟨by rfl,?_⟩) ?_;rotate_left;(focus (intro w hSw;(try dsimp only at hSw);go_simp;(try with_reducible rfl)));(simp only [put_lit,List.set]))
   (refine tk (i:=4) (v:=?_) rfl rfl (Or.inl ⟨by rfl,?_⟩) ?_;rotate_left;(focus (intro w hSw;(try dsimp only at hSw);go_simp;(try with_reducible rfl)));(simp only [put_lit,List.set]))
   (refine tk (i:=5) (v:=?_) rfl rfl (Or.inl ⟨by rfl,?_⟩) ?_;rotate_left;(focus (intro w hSw;(try dsimp only at hSw);go_simp;(try with_reducible rfl)));(simp only [put_lit,List.set]))
   (refine tk (i:=6) (v:=?_) rfl rfl (Or.inl ⟨by rfl,?_⟩) ?_;rotate_left;(focus (intro w hSw;(try dsimp only at hSw);go_simp;(try with_reducible rfl)));(simp only [put_lit,List.set]))
   (refine tk (i:=7) (v:=?_) rfl rfl (Or.inl ⟨by rfl,?_⟩) ?_;rotate_left;(focus (intro w hSw;(try dsimp only at hSw);go_simp;(try with_reducible rfl)));(simp only [put_lit,List.set]))
   (refine tk (i:=8) (v:=?_) rfl rfl (Or.inl ⟨by rfl,?_⟩) ?_;rotate_left;(focus (intro w hSw;(try dsimp only at hSw);go_simp;(try with_reducible rfl)));(simp only [put_lit,List.set]))
   refine wpAnyH_ready (rs:=[9]) (by kernel_rfl) (by simp) ?_;refine AllReadyH.cons rfl (fun K hK=>?_) AllReadyH.nil;go_simp;refine hK.out _ _ ?_ (fun _=>?_);(focus ((try dsimp only);go_keep));clear hHeld hK K;rename_i hHeld;(try (simp only [put_lit,List.set]))
   (refine wpAnyH_ready (rs:=[10]) (by kernel_rfl) (by simp) ?_;refine AllReadyH.cons rfl (fun K hK=>?_) AllReadyH.nil;go_simp)
   refine (rnrm_two _ _ _ [x1+(s:Int),2*x2] _ ((I64At.two w5 _ _).below Bel.go) (by omega) P2.out D2.out).mono ?_
   rintro e w6 ⟨⟨A6,rfl,h6⟩,hb6⟩
   have hb56:Below w5.heap.size w5 w6:=(Below.trans Bel.go (hb6.mono (by simp<;>omega)))
   have H6:=Lib.hid h6
   have H56:=Lib.hid (H5.out.below hb56)
   have Hb6:=Lib.hid (Hb5.out.trans (hb56.mono Hb5.out.size))
   clear h6 hb56
   obtain ⟨hcx,hfx⟩:=bcellS hb6;refine hK.out _ _ ?_ (fun _=>?_);(focus (((try dsimp only);repeat' apply And.intro)<;>(rw [hcx _ (by go_simp)];go_simp)));clear hHeld hK K hcx hfx;rename_i hHeld;clear hb6
   (refine tk (i:=11) (v:=?_) rfl rfl (Or.inl ⟨by rfl,?_⟩) ?_;rotate_left;(focus (intro w hSw;(try dsimp only at hSw);go_simp;(try with_reducible rfl)));(simp only [put_lit,List.set]))
   (refine tk (i:=12) (v:=?_) rfl rfl (Or.inl ⟨by rfl,?_⟩) ?_;rotate_left;(focus (intro w hSw;(try dsimp only at hSw);go_simp;(try with_reducible rfl)));(simp only [put_lit,List.set]))
   (refine tk (i:=13) (v:=?_) rfl rfl (Or.inl ⟨by rfl,?_⟩) ?_;rotate_left;(focus (intro w hSw;(try dsimp only at hSw);go_simp;(try with_reducible rfl)));(simp only [put_lit,List.set]))
   (refine tk (i:=14) (v:=?_) rfl rfl (Or.inl ⟨by rfl,?_⟩) ?_;rotate_left;(focus (intro w hSw;(try dsimp only at hSw);go_simp;(try with_reducible rfl)));(simp only [put_lit,List.set]))
   (refine tk (i:=15) (v:=?_) rfl rfl (Or.inl ⟨by rfl,?_⟩) ?_;rotate_left;(focus (intro w hSw;(try dsimp only at hSw);go_simp;(try with_reducible rfl)));(simp only [put_lit,List.set]))
   refine wpAnyH_done (by kernel_rfl) ?_ _
   clear hHeld c1' c2' hG5
   go_wp2
   have HF:=Lib.hid (show spl q=[nrm [x1-(s:Int),2*x2],nrm [x1+(s:Int),2*x2]] by rw [Hsp.out,HE1.out,HE2.out];rfl)
   refine bodyPost_ret (v:=.tuple #[.int .i64 u,.slice (some ⟨w6.heap.size,0,none⟩) 2 2]) (by simp [results,Tryz.results79,go_sem]) rfl ⟨⟨u,_,_,_,rfl,HU.out.1,HU.out.2,by rw [HF.out];exact ps_below (ps_two H56.out H6.out) Bel.go⟩,Hb6.out.trans ((below_new _ _).mono Hb6.out.size)⟩
  ·obtain rfl:B=false:=by simpa using hbt
   have hok:=of_decide_eq_false HB.out
   clear HB hbt
   have Hsp:=Lib.hid (SN.out fun t ht=>by
    rw [HD.out] at ht
    rcases Nat.lt_trichotomy t s with c | c | c
    ·have:=hst t c;omega
    ·subst c
     exact hok ⟨by rw [← ht];exact Int.mul_nonneg (by omega) (by omega),ht⟩
    ·have h1:s*s<t*t:=Nat.mul_self_lt_mul_self c
     have h2:((s*s:Nat):Int)<((t*t:Nat):Int):=by omega
     rw [Int.natCast_mul,Int.natCast_mul] at h2
     omega)
   clear hok hHeld c0 c1 c2 HX hst hsn
   go_wp2
   refine bodyPost_ret (v:=.tuple #[.int .i64 u,.slice (some ⟨w1.heap.size,0,none⟩) 1 1]) (by simp [results,Tryz.results79,go_sem]) rfl ⟨⟨u,_,_,_,rfl,HU.out.1,HU.out.2,by rw [Hsp.out];exact ps_below (ps_one HA.out) ((Below.refl _ _).drew)⟩,Hb.out.trans (((below_new _ _).mono Hb.out.size).drew)⟩
theorem rmul_comm (f g:List Int):rmul f g=rmul g f:=by
 rw [← rmul_trim f g,← rmul_trim g f]
 exact ptrim_ext fun k=>by
  rw [rmul_get,rmul_get]
  have h:∀ t,ev (polymul f g) t=ev (polymul g f) t:=fun t=>by rw [ev_mul,ev_mul,Int.mul_comm]
  have:=ev_inj h k
  rwa [polymul_getD,polymul_getD] at this
theorem rmul_bd3 {f g:List Int} {X Y:Nat} (hg3:g.length≤3) (hf:∀ j,(f.getD j 0).natAbs≤X) (hg:∀ j,(g.getD j 0).natAbs≤Y) (k:Nat):((rmul f g).getD k 0).natAbs≤3*(Y*X):=by
 rw [rmul_comm,rmul_get]
 have key:∀ m,(pcs g f k m).natAbs≤min m 3*(Y*X):=fun m=>by
  induction m with
  | zero=>exact Nat.zero_le _
  | succ m ih =>
    rw [pcs]
    by_cases h:m<3
    ·have h2:(g.getD m 0*f.getD (k-m) 0).natAbs≤Y*X:=by rw [Int.natAbs_mul];exact Nat.mul_le_mul (hg m) (hf (k-m))
     have h3:=Int.natAbs_add_le (pcs g f k m) (g.getD m 0*f.getD (k-m) 0)
     rw [Nat.min_eq_left (by omega)] at ih ⊢
     rw [Nat.succ_mul]
     omega
    ·rw [getD_out g (by omega),Int.zero_mul,Int.add_zero]
     rw [Nat.min_eq_right (by omega)] at ih ⊢
     exact ih
 unfold pc
 refine Nat.le_trans (key _) (Nat.mul_le_mul_right _ (Nat.min_le_right _ _))
theorem sma_abs {q:List Int} (h3:q.length=3) (h:Sma q) (j:Nat):(q.getD j 0).natAbs≤9:=by
 by_cases c:j<3
 ·have:=h j c
  omega
 ·rw [getD_out q (by omega)]
  exact Nat.zero_le _
def Tri (qs:List (List Int)):Prop:=∀ q∈qs,q.length=3∧Sma q
theorem prodf_app (P:List Int):∀ (qs:List (List Int)) (q:List Int),prodf P (qs ++ [q])=rmul (prodf P qs) q:=fun qs q=>by
 induction qs generalizing P with
 | nil=>rfl
 | cons r rs ih=>exact ih _
theorem prodf_bd:∀ (qs:List (List Int)) (P:List Int) (X:Nat),Tri qs→(∀ j,(P.getD j 0).natAbs≤X)→∀ j,((prodf P qs).getD j 0).natAbs≤27^qs.length*X
 | [],P,X,_,h,j=>by show (P.getD j 0).natAbs≤27^0*X;rw [Nat.pow_zero,Nat.one_mul];exact h j
 | q :: qs,P,X,ht,h,j=>by
   have hq:=ht q List.mem_cons_self
   have h1:=prodf_bd qs (rmul P q) (27*X) (fun r hr=>ht r (List.mem_cons_of_mem _ hr)) (fun k=>by
    have:=rmul_bd3 (X:=X) (Y:=9) (Nat.le_of_eq hq.1) h (sma_abs hq.1 hq.2) k
    omega) j
   show ((prodf (rmul P q) qs).getD j 0).natAbs≤27^(qs.length+1)*X
   rw [Nat.pow_succ,Nat.mul_assoc]
   exact h1
theorem prodf_len:∀ (qs:List (List Int)) (P:List Int) (a:Nat),Tri qs→plen P≤a+1→P.length≤a+1→(prodf P qs).length≤a+2*qs.length+1
 | [],P,a,_,_,h=>h
 | q :: qs,P,a,ht,h,_=>by
   have hq:=ht q List.mem_cons_self
   have h1:(rmul P q).length≤a+2+1:=rmul_len h (by have:=plen_le q;have:=hq.1;omega)
   have h2:=prodf_len qs (rmul P q) (a+2) (fun r hr=>ht r (List.mem_cons_of_mem _ hr)) (by have:=plen_le (rmul P q);omega) h1
   show (prodf (rmul P q) qs).length≤a+2*(qs.length+1)+1
   omega
theorem prodf_trim:∀ (qs:List (List Int)) (P:List Int),ptrim P=P→ptrim (prodf P qs)=prodf P qs
 | [],_,h=>h
 | q :: qs,_,_=>prodf_trim qs (rmul _ q) (rmul_trim _ q)
theorem one_abs (j:Nat):(([1]:List Int).getD j 0).natAbs≤1:=by
 match j with
 | 0=>exact Nat.le_refl _
 | j+1=>exact Nat.zero_le _
set_option maxRecDepth 100000 in
set_option maxHeartbeats 4000000 in
theorem fprod_any {w:World} {A:Option Addr} {la ca:Nat} {qs:List (List Int)} (h:TrAt w A la ca qs) (hl:la≤5) (ht:Tri qs) :
 Calls Tryz.prog 18 #[.slice A la ca] w fun e w'=>(∃ A' l' c',e=.returned (.slice A' l' c')∧I64At w' A' l' c' (prodf [1] qs))∧Below w.heap.size w w':=by
 have H:=Lib.hid h
 have Hl:=Lib.hid h.length
 have HT:=Lib.hid ht
 clear h ht
 go_enter Tryz.func18,Tryz.ntmps18
 go_wp2
 go_loopw [3,4] (fun s3 s4 wr=>∃ (i:Nat) (A':Option Addr) (l' c':Nat),i≤la∧s3=.slice A' l' c'∧s4=.int .i64 (i:Int)∧I64At wr A' l' c' (prodf [1] (qs.take i))∧Below w.heap.size w wr) (fun _ s4 _=>la-(intOf s4).toNat)
 case atStart=>exact ⟨0,_,_,_,Nat.zero_le _,rfl,rfl,I64At.one _ _,Bel.go⟩
 case round =>
  obtain ⟨i,A',l',c',hi,rfl,rfl,hat,hbw⟩:=hrel
  obtain ⟨wo,rfl⟩:∃ wo:World,wo=wr:=⟨_,rfl⟩
  have Hat:=Lib.hid hat
  have Hbw:=Lib.hid hbw
  by_cases hlt:i<la
  ·have Hlt:=Lib.hid hlt
   obtain ⟨b,o,rfl,hbl,hc⟩:=(H.out.below hbw).at (by omega)
   have hq:=HT.out (qs.getD i []) (by rw [List.getD_eq_getElem?_getD,List.getElem?_eq_getElem (by rw [Hl.out];exact hlt)];exact List.getElem_mem _)
   have e0:=hc i hlt 0 (by omega)
   have e1:=hc i hlt 1 (by omega)
   have e2:=hc i hlt 2 (by omega)
   rw [Nat.add_zero] at e0
   have hl3:=list3 hq.1
   have s0:=hq.2 0 (by omega)
   have s1:=hq.2 1 (by omega)
   have s2:=hq.2 2 (by omega)
   have HA:=Lib.hid (sma_abs hq.1 hq.2)
   have HN:=Lib.hid (show prodf [1] (qs.take (i+1))=rmul (prodf [1] (qs.take i)) (qs.getD i []) by rw [List.take_add_one,List.getElem?_eq_getElem (by rw [Hl.out];exact hlt),Option.toList_some,prodf_app,List.getD_eq_getElem?_getD,List.getElem?_eq_getElem (by rw [Hl.out];exact hlt)];rfl)
   obtain ⟨x0,hx0⟩:∃ x,x=(qs.getD i []).getD 0 0:=⟨_,rfl⟩
   obtain ⟨x1,hx1⟩:∃ x,x=(qs.getD i []).getD 1 0:=⟨_,rfl⟩
   obtain ⟨x2,hx2⟩:∃ x,x=(qs.getD i []).getD 2 0:=⟨_,rfl⟩
   rw [← hx0] at e0 s0 hl3
   rw [← hx1] at e1 s1 hl3
   rw [← hx2] at e2 s2 hl3
   rw [hl3] at HN HA
   have ti:(i:Int)<(la:Int):=by omega
   have tw:IntKind.i64.wrap ((i:Int)+1)=(i:Int)+1:=IntWalk.i64_in _ (by omega)
   have HTI:=Lib.hid (show Tri (qs.take i) from fun q h=>HT.out q (List.mem_of_mem_take h))
   have HLI:=Lib.hid (show (qs.take i).length≤5 by rw [List.length_take];omega)
   clear hx0 hx1 hx2 hc hq hl3 hat hbw
   clear hi hlt
   go_wp2_with fail
   refine (wid_any x0 x1 x2 _ ⟨by omega,by omega⟩ ⟨by omega,by omega⟩ ⟨by omega,by omega⟩).mono ?_
   rintro e w1 ⟨A1,c1,rfl,h1,hb1⟩
   have H1:=Lib.hid h1
   have hat1:=Lib.hid (Hat.out.below hb1)
   replace Hbw:=Lib.hid (Hbw.out.trans (hb1.mono Hbw.out.size))
   have hll:=Lib.hid (show l'≤1000 by rw [← Hat.out.length];have:=prodf_len _ [1] 0 HTI.out (by decide) (by decide);have:=HLI.out;omega)
   clear hb1 h1
   go_wp2_with fail
   refine (rmul_any _ _ _ (prodf [1] (qs.take i)) _ _ _ [x0,x1,x2] _ hat1.out H1.out hll.out (by omega) (X:=27^5) (Y:=9) (fun j=>by
    have h:=prodf_bd _ [1] 1 HTI.out one_abs j
    have h2:27^(qs.take i).length≤27^5:=Nat.pow_le_pow_right (by decide) HLI.out
    omega) HA.out (by decide)).mono ?_
   rintro e w2 ⟨A2,l2,c2,rfl,h2,_,hb2⟩
   have H2:=Lib.hid h2
   replace Hbw:=Lib.hid (Hbw.out.trans (hb2.mono Hbw.out.size))
   clear hb2 h2
   go_wp2
   go_roundw
   case rel=>exact ⟨i+1,_,_,_,Hlt.out,rfl,by go_num,by rw [HN.out];exact H2.out,Hbw.out⟩
   case measure=>have:=Hlt.out;simp [intOf];omega
  ·have ti:¬ (i:Int)<(la:Int):=by omega
   have HE:=Lib.hid (show qs.take i=qs by rw [List.take_of_length_le (by rw [Hl.out];omega)])
   clear hat hbw hi hlt
   go_wp2
   go_ret
   exact ⟨⟨_,_,_,rfl,by rw [← HE.out];exact Hat.out⟩,Hbw.out⟩
end Go.Proofs.YtjmglmgokfcgoaaGreat
namespace Go.Proofs.YtjmglmgokfcgoaaGreat
open Go Go.RowKit
def FcE (w:World) (f:List Int×Nat) (vs:List Value):Prop:=∃ A l c,vs=[.slice A l c,.int .i64 (f.2:Int)]∧I64At w A l c f.1
theorem FcE.below {w w':World} {f:List Int×Nat} {vs:List Value} (h:FcE w f vs) (hb:Below w.heap.size w w'):FcE w' f vs:=by
 obtain ⟨A,l,c,e,h⟩:=h
 exact ⟨A,l,c,e,h.below hb⟩
abbrev FsAt (w:World) (A:Option Addr) (l c:Nat) (fs:List (List Int×Nat)):Prop:=SlE 2 FcE w A l c fs
theorem fs_below {w w':World} {A:Option Addr} {l c:Nat} {fs:List (List Int×Nat)} (h:FsAt w A l c fs) (hb:Below w.heap.size w w'):FsAt w' A l c fs:=h.below hb fun _ _ hx=>hx.below hb
theorem fce_len {w:World} {f:List Int×Nat} {vs:List Value} (h:FcE w f vs):vs.length=2:=by
 obtain ⟨A,l,c,e,h⟩:=h
 rw [e];rfl
theorem nd_i64 (n:Int):Nd (.int .i64 n):=⟨(by intro n h;cases h),rfl⟩
theorem nd_slc (A:Option Addr) (l c:Nat):Nd (.slice A l c):=⟨(by intro n h;cases h),rfl⟩
theorem fce_nd {w:World} {f:List Int×Nat} {vs:List Value} (h:FcE w f vs):∀ u∈vs,Nd u:=by
 obtain ⟨A,l,c,e,h⟩:=h
 intro u hu
 rw [e] at hu
 simp at hu
 rcases hu with rfl | rfl
 ·exact nd_slc _ _ _
 ·exact nd_i64 _
def RowF (w0 w:World) (g:Nat) (fs:List (List Int×Nat)):Prop:=∀ i,i<fs.length→∃ A l c,w.cell? ⟨g,i*2,none⟩=some (.slice A l c)∧w.cell? ⟨g,i*2+1,none⟩=some (.int .i64 ((fs.getD i ([],0)).2:Int))∧I64At w0 A l c (fs.getD i ([],0)).1
theorem getD_fs {fs:List (List Int×Nat)} {i:Nat} (h:i<fs.length):fs[i]?=some (fs.getD i ([],0)):=by
 rw [List.getD_eq_getElem?_getD,List.getElem?_eq_getElem h]
 rfl
theorem RowF.sle {w0 w:World} {g n c:Nat} {fs:List (List Int×Nat)} (h:RowF w0 w g fs) (hb:Below w0.heap.size w0 w) (hg:g<w.heap.size) (hn:fs.length=n) (hc:n≤c):FsAt w (some ⟨g,0,none⟩) n c fs:=by
 refine ⟨hn,hc,.inr ⟨g,0,rfl,hg,fun i x hx=>?_⟩⟩
 have hi:i<fs.length:=(List.getElem?_eq_some_iff.1 hx).1
 obtain ⟨A,l,c,h1,h2,h3⟩:=h i hi
 rw [getD_fs hi] at hx
 cases hx
 refine ⟨_,⟨A,l,c,rfl,h3.below hb⟩,fun j v hv=>?_⟩
 match j,hv with
 | 0,hv=>simp at hv;subst hv;rw [Nat.zero_add];exact h1
 | 1,hv=>simp at hv;subst hv;rw [Nat.zero_add];exact h2
 | j+2,hv=>simp at hv
theorem fs_lay {w:World} {A:Option Addr} {l c:Nat} {fs:List (List Int×Nat)} (h:FsAt w A l c fs) (hl:0<l):∃ b o us,A=some ⟨b,o,none⟩∧b<w.heap.size∧Lay (FcE w) fs us∧∀ (j:Nat) (u:Value),us[j]?=some u→w.cell? ⟨b,o+j,none⟩=some u:=by
 rcases h.elems with ⟨h0,_⟩ | ⟨b,o,e,hb,hv⟩
 ·omega
 ·have key:∀ (fs:List (List Int×Nat)) (o:Nat),(∀ (i:Nat) (x:List Int×Nat),fs[i]?=some x→∃ vs,FcE w x vs∧∀ (j:Nat) (v:Value),vs[j]?=some v→w.cell? ⟨b,o+i*2+j,none⟩=some v)→∃ us,Lay (FcE w) fs us∧∀ (j:Nat) (u:Value),us[j]?=some u→w.cell? ⟨b,o+j,none⟩=some u:=by
   intro fs
   induction fs with
   | nil=>intro o _;exact ⟨[],rfl,fun j u h=>by simp at h⟩
   | cons r rs ih =>
     intro o hv
     obtain ⟨vs,h1,h2⟩:=hv 0 r rfl
     obtain ⟨ws,h3,h4⟩:=ih (o+2) (fun i x hx=>by
      obtain ⟨us,g1,g2⟩:=hv (i+1) x (by simpa using hx)
      exact ⟨us,g1,fun j v hv=>by rw [show o+2+i*2+j=o+(i+1)*2+j by rw [Nat.add_mul];omega];exact g2 j v hv⟩)
     have hl:=fce_len h1
     refine ⟨vs ++ ws,⟨vs,ws,h1,rfl,h3⟩,fun j u hj=>?_⟩
     rcases Nat.lt_or_ge j 2 with c | c
     ·rw [List.getElem?_append_left (by omega)] at hj
      have:=h2 j u hj
      rwa [Nat.zero_mul,Nat.add_zero] at this
     ·rw [List.getElem?_append_right (by omega),hl] at hj
      have:=h4 _ u hj
      rwa [show o+2+(j-2)=o+j by omega] at this
  obtain ⟨us,h1,h2⟩:=key fs o hv
  exact ⟨b,o,us,e,hb,h1,h2⟩
theorem fs_nd {w:World}:∀ {fs:List (List Int×Nat)} {us:List Value},Lay (FcE w) fs us→∀ u∈us,Nd u
 | [],us,h,u,hu=>by rw [show us=[] from h] at hu;cases hu
 | r :: rs,us,⟨ws,vs,h1,h2,h3⟩,u,hu=>by
   rw [h2] at hu
   rcases List.mem_append.1 hu with hu | hu
   ·exact fce_nd h1 u hu
   ·exact fs_nd h3 u hu
theorem fac_row {w0 w:World} {t base:Nat} {v:Value} {us:List Value} {fs:List (List Int×Nat)} (h:OwnE Nd 2 t base w v us) (hl:Lay (FcE w0) fs us) (h0:0<fs.length):∃ g c cs,v=.slice (some ⟨g,0,none⟩) fs.length c∧fs.length≤c∧base≤g∧Blk w g t cs∧RowF w0 w g fs:=by
 have hul:=hl.len (E:=2) fun _ _ hx=>fce_len hx
 rcases h with ⟨e,_⟩ | ⟨g,n,cap,cs,e,hb,hun,hnc,huc,hk,hsz,hcs⟩
 ·rw [e] at hul;simp at hul;omega
 ·have:n=fs.length:=by omega
  subst this
  refine ⟨g,cap,cs,e,hnc,hb,hk,fun i hi=>?_⟩
  obtain ⟨vs,⟨A,l,c,rfl,h2⟩,h3⟩:=hl.get (E:=2) (fun _ _ hx=>fce_len hx) i _ (getD_fs hi)
  exact ⟨A,l,c,huc _ _ (h3 0 _ rfl),huc _ _ (h3 1 _ rfl),h2⟩
abbrev facZero:Value:=.agg #[.slice none 0 0,.int .i64 0]
theorem info_fac:(Tryz.prog.info? 141).map (fun i=>(i.zero,i.size,i.bytes))=some (some facZero,2,32):=by kernel_rfl
theorem fac_ndz:∀ j,j<2→Nd (facZero.cells[j]!):=fun j hj=>by
 match j,hj with
 | 0,_=>exact nd_slc _ _ _
 | 1,_=>exact nd_i64 _
theorem wpList_app_fac {w:World} {ops:Array Oper} {rest:List Oper} {o:Oper} {a:Act} {Q:Exit→Act→World→Prop} (hgd:o.guard=none) (s x:Operand)
 (ho:o.op=.call { callee:=.builtin .append,args:=#[s,x],argTypes:=#[25,25] })
 (base:Nat) (v:Value) (us vs:List Value) (hs:a.eval s=v) (hown:OwnE Nd 2 141 base w v us) (hB:base≤w.heap.size)
 (ax:Addr) (m c:Nat) (hx:a.eval x=.slice (some ax) m c) (hvl:vs.length=m*2) (hxc:∀ (j:Nat) (u:Value),vs[j]?=some u→w.cell? (ax.add j)=some u) (hvn:∀ u∈vs,Nd u) (hm:0<m∨v≠.slice none 0 0) (hn:us.length+vs.length≤100000000)
 (dd:Nat) (hdd:o.dst=some dd) (h:∀ v' w',GrE Nd 2 141 base w v us vs v' w'→wpList Tryz.prog ops Q rest (a.put (some dd) v') w') :
 wpList Tryz.prog ops Q (o :: rest) a w:=by
 obtain ⟨i0,hi,hz0,hz1,hz2⟩:=info_parts info_fac
 exact wpList_plain hgd fun _ hK'=>oper_append_own s x 25 141 ho 2 i0 facZero Tryz.underlying25 hi hz0 hz1 (by rw [hz2];omega) rfl Nd (fun _ h=>h) fac_ndz (by decide) base v us vs hs hown hB ax m c hx hvl hxc hvn hm hn dd hdd fun v' w' hg=>hK' _ _ (h v' w' hg)
theorem wpList_app_nil {w:World} {ops:Array Oper} {rest:List Oper} {o:Oper} {a:Act} {Q:Exit→Act→World→Prop} (hgd:o.guard=none) (s x:Operand)
 (ho:o.op=.call { callee:=.builtin .append,args:=#[s,x],argTypes:=#[25,25] })
 (g:Nat) (hs:a.eval s=.slice (some ⟨g,0,none⟩) 0 0) (hx:a.eval x=.slice none 0 0)
 (dd:Nat) (hdd:o.dst=some dd) (h:wpList Tryz.prog ops Q rest (a.put (some dd) (.slice (some ⟨g,0,none⟩) 0 0)) w) :
 wpList Tryz.prog ops Q (o :: rest) a w:=by
 obtain ⟨i0,hi,hz0,hz1,hz2⟩:=info_parts info_fac
 refine wpList_plain hgd fun K' hK'=>?_
 rw [← hdd] at h
 have hrun:(Builtin.append_ #[25,25] o.type #[.slice (some ⟨g,0,none⟩) 0 0,.slice none 0 0]).run Tryz.prog w=.ok (.slice (some ⟨g,0,none⟩) 0 0) w:=by
  simp [Builtin.append_,run_underlying Tryz.underlying25,sizeOf,typeInfo,hi,Builtin.lenOf,Builtin.firstCells,storeCells]
 unfold Oper.wp
 simp only [execOp,ho,resolve,invoke,builtin]
 simp [hs,hx,hrun,Result.andThen]
 exact hK' _ _ h
theorem OwnE.empty {t base:Nat} (w:World) (hb:base≤w.heap.size):OwnE Nd 2 t base (w.alloc (.cells #[] t)) (.slice (some ⟨w.heap.size,0,none⟩) 0 0) [] :=
 .inr ⟨w.heap.size,0,0,#[],rfl,hb,rfl,Nat.le_refl _,fun j u h=>by simp at h,Blk.new _ _ _,rfl,fun j h=>absurd h (by omega)⟩
structure FSt (base:Nat) (w0 w:World) (v:Value) (fs:List (List Int×Nat)):Prop where
 own:∃ us,OwnE Nd 2 141 base w v us∧Lay (FcE w0) fs us
 at_:∃ g c,v=.slice (some ⟨g,0,none⟩) fs.length c∧base≤g∧g<w.heap.size∧(∀ o,w.frozen? ⟨g,o,none⟩=false)∧RowF w0 w g fs∧fs.length≤c
theorem RowF.below {w0 w w':World} {g:Nat} {fs:List (List Int×Nat)} (h:RowF w0 w g fs) (hg:g<w.heap.size) (hb:Below w.heap.size w w'):RowF w0 w' g fs:=fun i hi=>by
 obtain ⟨A,l,c,h1,h2,h3⟩:=h i hi
 exact ⟨A,l,c,(hb.cell (p:=⟨g,i*2,none⟩) hg).trans h1,(hb.cell (p:=⟨g,i*2+1,none⟩) hg).trans h2,h3⟩
theorem wpList_app_cp {w:World} {ops:Array Oper} {rest:List Oper} {o:Oper} {a:Act} {Q:Exit→Act→World→Prop} (hgd:o.guard=none) (s x:Operand)
 (ho:o.op=.call { callee:=.builtin .append,args:=#[s,x],argTypes:=#[25,25] })
 (hs:a.eval s=.slice (some ⟨w.heap.size,0,none⟩) 0 0) {A:Option Addr} {l c:Nat} {fs:List (List Int×Nat)} (hx:a.eval x=.slice A l c) (hF:FsAt w A l c fs) (hl:l≤100) (h0:l=0→A=none∧c=0)
 (dd:Nat) (hdd:o.dst=some dd) (h:∀ v' w',FSt w.heap.size w w' v' fs→Below w.heap.size w w'→wpList Tryz.prog ops Q rest (a.put (some dd) v') w') :
 wpList Tryz.prog ops Q (o :: rest) a (w.alloc (.cells #[] 141)):=by
 by_cases hz:l=0
 ·obtain ⟨rfl,rfl⟩:=h0 hz
  subst hz
  have hn:fs=[]:=List.eq_nil_of_length_eq_zero hF.length
  refine wpList_app_nil hgd s x ho w.heap.size hs hx dd hdd (h _ _ ⟨⟨[],OwnE.empty w (Nat.le_refl _),by rw [hn];rfl⟩,⟨w.heap.size,0,by rw [hn];rfl,Nat.le_refl _,(by have:=(below_new w (.cells #[] 141)).size;simp),fun o=>(Blk.new w 141 #[]).frozen o,fun i hi=>(by rw [hn] at hi;exact absurd hi (Nat.not_lt_zero _)),by rw [hn];exact Nat.le_refl _⟩⟩ (below_new _ _))
 ·obtain ⟨b,o',us,rfl,hbl,hlay,hc⟩:=fs_lay hF (by omega)
  have hul:=hlay.len (E:=2) fun _ _ hx=>fce_len hx
  have hll:=hF.length
  refine wpList_app_fac hgd s x ho w.heap.size _ [] us hs (OwnE.empty w (Nat.le_refl _)) (below_new w _).size ⟨b,o',none⟩ l c hx (by rw [hul,hll]) (fun j u hj=>by rw [Addr.add_lit];exact ((below_new w _).cell (p:=⟨b,o'+j,none⟩) hbl).trans (hc j u hj)) (fs_nd hlay) (.inl (by omega)) (by rw [hul,hll];simp;omega) dd hdd fun v1 w1 hg=>?_
  have hb:Below w.heap.size w w1:=(below_new w _).trans (hg.below (below_new w _).size)
  obtain ⟨g,c',cs,e,h1,h2,h3,h4⟩:=fac_row hg.1 hlay (by omega)
  exact h v1 w1 ⟨⟨us,hg.1,hlay⟩,⟨g,c',e,h2,h3.lt,fun o=>h3.frozen o,h4,h1⟩⟩ hb
theorem RowF.set {w0 w:World} {g i m:Nat} {p:List Int} {fs:List (List Int×Nat)} (h:RowF w0 w g fs) (hi:i<fs.length) (e:(fs.getD i ([],0))=(p,m)):RowF w0 (w.setCell ⟨g,i*2+1,none⟩ (.int .i64 ((m+1:Nat):Int))) g (fs.set i (p,m+1)):=fun k hk=>by
 rw [List.length_set] at hk
 obtain ⟨A,l,c,h1,h2,h3⟩:=h k hk
 have hne:k*2≠i*2+1:=by omega
 have n1:(w.setCell ⟨g,i*2+1,none⟩ (.int .i64 ((m+1:Nat):Int))).cell? ⟨g,k*2,none⟩=some (.slice A l c):=by go_simp
 by_cases hik:i=k
 ·subst hik
  have e2:(fs.set i (p,m+1)).getD i ([],0)=(p,m+1):=by rw [List.getD_eq_getElem?_getD,List.getElem?_set_self hi];rfl
  refine ⟨A,l,c,n1,?_,?_⟩
  ·rw [e2]
   go_simp
  ·rw [e2]
   rw [e] at h3
   exact h3
 ·have e2:(fs.set i (p,m+1)).getD k ([],0)=fs.getD k ([],0):=by rw [List.getD_eq_getElem?_getD,List.getElem?_set_ne hik,← List.getD_eq_getElem?_getD]
  have hne2:k*2+1≠i*2+1:=by omega
  refine ⟨A,l,c,n1,?_,?_⟩
  ·rw [e2]
   go_simp
  ·rw [e2]
   exact h3
theorem withf_len (p:List Int):∀ l:List (List Int×Nat),(withf l p).length≤l.length+1
 | []=>Nat.le_refl _
 | (r,m) :: l=>by
   unfold withf
   split
   ·simp
   ·have:=withf_len p l
    simp only [List.length_cons]
    omega
theorem withf_pow {p:List Int} {N:Nat}:∀ {l:List (List Int×Nat)},(∀ x∈l,x.2≤N)→∀ x∈withf l p,x.2≤N+1
 | [],_,x,hx=>by rw [List.mem_singleton.1 hx];exact Nat.le_add_left _ _
 | (r,m) :: l,h,x,hx=>by
   have h0:=h (r,m) List.mem_cons_self
   unfold withf at hx
   split at hx
   ·rcases List.mem_cons.1 hx with e | e
    ·rw [e];exact Nat.succ_le_succ h0
    ·have:=h x (List.mem_cons_of_mem _ e);omega
   ·rcases List.mem_cons.1 hx with e | e
    ·rw [e];have:m≤N:=h0;show m≤N+1;omega
    ·exact withf_pow (fun y hy=>h y (List.mem_cons_of_mem _ hy)) x e
set_option maxRecDepth 100000 in
set_option maxHeartbeats 8000000 in
theorem with_any (A:Option Addr) (l c:Nat) (fs:List (List Int×Nat)) (B:Option Addr) (lb cb:Nat) (p:List Int) (w:World) (hF:FsAt w A l c fs) (hP:I64At w B lb cb p) (hl:l≤100) (hlb:lb≤1000) (tp:ptrim p=p) (hs:∀ x∈fs,ptrim x.1=x.1∧x.1.length≤1000∧x.2≤100) (h0:l=0→A=none∧c=0) :
 Calls Tryz.prog 81 #[.slice A l c,.slice B lb cb] w fun e w'=>(∃ A' l' c',e=.returned (.slice A' l' c')∧FsAt w' A' l' c' (withf fs p)∧0<l')∧Below w.heap.size w w':=by
 have HF:=Lib.hid hF
 have HP:=Lib.hid hP
 have HS:=Lib.hid hs
 have Hll:=Lib.hid hF.length
 have Hl:=Lib.hid hl
 have H0:=Lib.hid h0
 clear hF hP hs h0 hl
 go_enter Tryz.func81,Tryz.ntmps81
 go_wp2_with (at_builtin;refine wpList_app_cp rfl (.tmp 7) (.tmp 8) rfl rfl rfl HF.out Hl.out H0.out 9 rfl ?_;intro v1 w1 hg1 hb1)
 obtain ⟨g,c1,e1,hg0,hgl,hfr,hrow,hcap⟩:=hg1.at_
 subst e1
 have HO:=Lib.hid hg1.own
 have HB1:=Lib.hid hb1
 have Hrow:=Lib.hid hrow
 have Hfr:=Lib.hid hfr
 have Hg0:=Lib.hid hg0
 have Hgl:=Lib.hid hgl
 have Hcap:=Lib.hid hcap
 obtain ⟨n,hn⟩:∃ n,n=fs.length:=⟨_,rfl⟩
 rw [← hn] at HO ⊢
 have Hn:=Lib.hid hn
 have hn100:n≤100:=by rw [hn,Hll.out];exact Hl.out
 clear hg1 hb1 hrow hfr hn hg0 hgl hcap
 have HP1:=Lib.hid (HP.out.below HB1.out)
 go_wp2
 go_loopw [6] (fun s6 wr=>∃ i:Nat,i≤n∧s6=.int .i64 (i:Int)∧(∀ j,j<i→(fs.getD j ([],0)).1≠p)∧Below w1.heap.size w1 wr) (fun s6 _=>n-(intOf s6).toNat)
 case atStart=>exact ⟨0,Nat.zero_le _,rfl,fun j hj=>absurd hj (Nat.not_lt_zero _),Below.refl _ _⟩
 case round =>
  obtain ⟨i,hi,rfl,hst,hbr⟩:=hrel
  obtain ⟨wo,rfl⟩:∃ wo:World,wo=wr:=⟨_,rfl⟩
  have Hst:=Lib.hid hst
  have Hbr:=Lib.hid hbr
  have Hi:=Lib.hid hi
  have HR:=Lib.hid (Hrow.out.below Hgl.out hbr)
  have hgo:g<wo.heap.size:=Nat.lt_of_lt_of_le Hgl.out hbr.size
  have hfo:∀ o,wo.frozen? ⟨g,o,none⟩=false:=fun o=>(hbr.frozen (p:=⟨g,o,none⟩) Hgl.out).trans (Hfr.out o)
  have Hfo:=Lib.hid hfo
  have Hgo:=Lib.hid hgo
  by_cases hlt:i<n
  ·have Hlt:=Lib.hid hlt
   obtain ⟨A1,l1,c2,k1,k2,k3⟩:=HR.out i (by rw [← Hn.out];exact hlt)
   have hmem:fs.getD i ([],0)∈fs:=by rw [List.getD_eq_getElem?_getD,List.getElem?_eq_getElem (by rw [← Hn.out];exact hlt)];exact List.getElem_mem _
   obtain ⟨q1,q2,q3⟩:=HS.out _ hmem
   obtain ⟨r,hr⟩:∃ r,r=(fs.getD i ([],0)).1:=⟨_,rfl⟩
   obtain ⟨m,hm⟩:∃ m,m=(fs.getD i ([],0)).2:=⟨_,rfl⟩
   rw [← hr] at k3 q1 q2
   rw [← hm] at k2 q3
   have Hr:=Lib.hid hr
   have Hm:=Lib.hid hm
   have k3':=Lib.hid ((k3.below HB1.out).below (hbr.mono (Nat.le_refl _)))
   have hp':=Lib.hid (HP1.out.below (hbr.mono (Nat.le_refl _)))
   have hll:=k3'.out.length
   have ti:(i:Int)<(n:Int):=by omega
   have tw:IntKind.i64.wrap ((i:Int)+1)=(i:Int)+1:=IntWalk.i64_in _ (by omega)
   have tm:IntKind.i64.wrap ((m:Int)+1)=(m:Int)+1:=IntWalk.i64_in _ (by omega)
   have hl1:l1≤1000:=by omega
   clear hr hm hst hbr hfo k3 hi hmem q2 hll
   go_wp2_with fail
   refine (same_any _ _ _ r _ _ _ p _ k3'.out hp'.out hl1 hlb q1 tp).mono ?_
   rintro e w3 ⟨rfl,hb3⟩
   have k2':=(hb3.cell (p:=⟨g,i*2+1,none⟩) hgo).trans k2
   have f2':=(hb3.frozen (p:=⟨g,i*2+1,none⟩) hgo).trans (Hfo.out _)
   have HR3:=Lib.hid (HR.out.below hgo hb3)
   have Hbr3:=Lib.hid (Hbr.out.trans (hb3.mono Hbr.out.size))
   have hg3:g<w3.heap.size:=Nat.lt_of_lt_of_le hgo hb3.size
   clear hb3 k1 k2 hgo
   by_cases hrp:r=p
   ·rw [decide_eq_true hrp]
    have hFin:=Lib.hid (show withf fs p=fs.set i (p,m+1) from withf_hit fs i m Hst.out (by
     rw [getD_fs (by rw [← Hn.out];exact Hlt.out)]
     exact congrArg some (Prod.ext (Hr.out.symm.trans hrp) Hm.out.symm)))
    have hEm:=Lib.hid (show fs.getD i ([],0)=(p,m) from Prod.ext (Hr.out.symm.trans hrp) Hm.out.symm)
    clear hrp
    go_wp2
    go_ret
    have hrow:=RowF.set HR3.out (by rw [← Hn.out];exact Hlt.out) hEm.out
    refine ⟨⟨some ⟨g,0,none⟩,n,c1,rfl,?_,by have:=Hlt.out;omega⟩,?_⟩
    ·rw [hFin.out]
     have:=hrow.sle (n:=n) (c:=c1) ((HB1.out.trans (Hbr3.out.mono HB1.out.size)).setCell (by exact Hg0.out) _) (by simpa using hg3) (by rw [List.length_set,Hn.out]) (by rw [Hn.out];exact Hcap.out)
     simpa using this
    ·have:=(HB1.out.trans (Hbr3.out.mono HB1.out.size)).setCell (p:=⟨g,i*2+1,none⟩) Hg0.out (.int .i64 ((m+1:Nat):Int))
     simpa using this
   ·rw [decide_eq_false hrp]
    have HNE:=Lib.hid hrp
    clear hrp k2' f2'
    go_wp2
    go_roundw
    case rel=>exact ⟨i+1,Hlt.out,by go_num,fun j hj=>(by
     by_cases c2:j<i
     ·exact Hst.out j c2
     ·obtain rfl:j=i:=by omega
      rw [← Hr.out]
      exact HNE.out),Hbr3.out⟩
    case measure=>have:=Hlt.out;simp [intOf];omega
  ·have ti:¬ (i:Int)<(n:Int):=by omega
   have hFin:=Lib.hid (show withf fs p=fs ++ [(p,1)] from withf_miss fs fun j hj=>Hst.out j (by rw [← Hn.out] at hj;omega))
   clear hst hbr hfo hi hlt hgo
   obtain ⟨us,hown,hlay⟩:=HO.out
   have Hown:=Lib.hid (((hown.below Hbr.out)).below (below_new wo (.cells #[.slice B lb cb,.int .i64 1] 141)))
   have Hlay:=Lib.hid hlay
   have Hul:=Lib.hid (show us.length≤200 by rw [hlay.len (E:=2) fun _ _ hx=>fce_len hx,← Hn.out];omega)
   have HpW:=Lib.hid HP.out
   have Hsz:=Lib.hid (show w.heap.size≤(wo.alloc (.cells #[.slice B lb cb,.int .i64 1] 141)).heap.size from Nat.le_trans (Nat.le_trans HB1.out.size Hbr.out.size) (below_new _ _).size)
   have Hvn:=Lib.hid (show ∀ u∈[Value.slice B lb cb,Value.int .i64 1],Nd u from fun u hu=>by
    simp at hu
    rcases hu with rfl | rfl
    ·exact nd_slc _ _ _
    ·exact nd_i64 _)
   have Hvc:=Lib.hid (show ∀ (j:Nat) (u:Value),[Value.slice B lb cb,Value.int .i64 1][j]?=some u→(wo.alloc (.cells #[.slice B lb cb,.int .i64 1] 141)).cell? ((⟨wo.heap.size,0,none⟩:Addr).add j)=some u from fun j u hj=>by
    match j,hj with
    | 0,hj=>simp at hj;subst hj;rw [Addr.add_lit];simp
    | 1,hj=>simp at hj;subst hj;rw [Addr.add_lit];simp
    | j+2,hj=>simp at hj)
   clear hown hlay
   go_wp2_with (at_builtin;refine wpList_app_fac rfl (.tmp 32) (.tmp 35) rfl w.heap.size _ us [.slice B lb cb,.int .i64 1] rfl Hown.out Hsz.out ⟨wo.heap.size,0,none⟩ 1 1 rfl rfl Hvc.out Hvn.out (.inl (by omega)) (by have:=Hul.out;simp;omega) 36 rfl ?_;intro v5 w5 hg5)
   have hb5:=hg5.below Hsz.out
   have hB:Below w.heap.size w w5:=((HB1.out.trans (Hbr.out.mono HB1.out.size)).trans ((below_new wo _).mono (Nat.le_trans HB1.out.size Hbr.out.size))).trans hb5
   have hlay5:Lay (FcE w5) (fs ++ [(p,1)]) (us ++ [.slice B lb cb,.int .i64 1]):=(Hlay.out.mono fun x vs hx=>hx.below hB).app ⟨B,lb,cb,rfl,HpW.out.below hB⟩
   obtain ⟨A5,l5,c5,e5,hs5⟩:=hg5.1.sle (by decide) hlay5 fun _ _ hx=>fce_len hx
   have Hs5:=Lib.hid hs5
   have HB5:=Lib.hid hB
   have HL5:=Lib.hid (show 0<l5 by have:=hs5.length;simp at this;omega)
   subst e5
   clear hg5 hb5 hB hlay5 hs5
   go_wp2
   go_ret
   exact ⟨⟨A5,l5,c5,rfl,by rw [hFin.out];exact Hs5.out,HL5.out⟩,HB5.out⟩
end Go.Proofs.YtjmglmgokfcgoaaGreat
namespace Go.Proofs.YtjmglmgokfcgoaaGreat
open Go Go.RowKit
theorem spl_len2 (q:List Int):(spl q).length≤2:=by
 unfold spl
 split
 ·simp
 ·split
  ·simp
  ·split<;>simp
theorem addf_len:∀ (ps:List (List Int)) (l:List (List Int×Nat)),(addf l ps).length≤l.length+ps.length
 | [],_=>Nat.le_refl _
 | p :: ps,l=>by
   have h1:=withf_len p l
   have h2:=addf_len ps (withf l p)
   show (addf (withf l p) ps).length≤l.length+(ps.length+1)
   omega
theorem facs_len:∀ (qs:List (List Int)) (l:List (List Int×Nat)),(facs l qs).length≤l.length+2*qs.length
 | [],_=>Nat.le_refl _
 | q :: qs,l=>by
   have h1:=addf_len (spl q) l
   have h2:=facs_len qs (addf l (spl q))
   have h3:=spl_len2 q
   show (facs (addf l (spl q)) qs).length≤l.length+2*(qs.length+1)
   omega
theorem addf_pow:∀ {ps:List (List Int)} {l:List (List Int×Nat)} {N:Nat},(∀ x∈l,x.2≤N)→∀ x∈addf l ps,x.2≤N+ps.length
 | [],_,_,h=>h
 | p :: ps,l,N,h=>fun x hx=>by
   have:=addf_pow (ps:=ps) (l:=withf l p) (N:=N+1) (withf_pow h) x hx
   simp only [List.length_cons]
   omega
theorem facs_pow:∀ {qs:List (List Int)} {l:List (List Int×Nat)} {N:Nat},(∀ x∈l,x.2≤N)→∀ x∈facs l qs,x.2≤N+2*qs.length
 | [],_,_,h=>h
 | q :: qs,l,N,h=>fun x hx=>by
   have:=facs_pow (qs:=qs) (l:=addf l (spl q)) (N:=N+2) (fun y hy=>by
    have h1:=addf_pow h y hy
    have h2:=spl_len2 q
    omega) x hx
   simp only [List.length_cons]
   omega
theorem addf_app (l:List (List Int×Nat)):∀ (ps:List (List Int)) (p:List Int),addf l (ps ++ [p])=withf (addf l ps) p:=fun ps p=>by
 induction ps generalizing l with
 | nil=>rfl
 | cons r rs ih=>exact ih _
theorem facs_app (l:List (List Int×Nat)):∀ (qs:List (List Int)) (q:List Int),facs l (qs ++ [q])=addf (facs l qs) (spl q):=fun qs q=>by
 induction qs generalizing l with
 | nil=>rfl
 | cons r rs ih=>exact ih _
structure Fsm (p:List Int):Prop where
 tr:ptrim p=p
 len:p.length≤3
 bd:∀ j,(p.getD j 0).natAbs≤29
theorem fsm_nrm {q:List Int} (h3:plen q≤3) (h0:plen q≠0) (hb:∀ j,(q.getD j 0).natAbs≤29):Fsm (nrm q):=⟨by
 have h1:=nrm_plen h0
 unfold ptrim
 rw [h1,← nrm_len,List.take_length],by rw [nrm_len];exact h3,nrm_le hb⟩
theorem spl_fsm {q:List Int} (hl:q.length=3) (hs:Sma q):∀ p∈spl q,Fsm p:=fun p hp=>by
 have h9:=sma_abs hl hs
 have hp3:plen q≤3:=by have:=plen_le q;omega
 unfold spl at hp
 split at hp
 ·cases hp
 ·split at hp
  ·rw [List.mem_singleton.1 hp];exact fsm_nrm hp3 (by omega) fun j=>by have:=h9 j;omega
  ·have h0:plen q≠0:=by omega
   have hld:=nrm_lead h0
   rw [show plen q=3 by omega] at hld
   have n9:=nrm_le h9
   split at hp
   ·rename_i s hsq
    have hss:(s:Int)*(s:Int)=dsc (nrm q):=by
     unfold sqd at hsq
     split at hsq
     ·rename_i he
      cases hsq
      exact he.choose_spec
     ·cases hsq
    have hs20:s≤20:=by
     refine Nat.le_of_not_lt fun hlt=>?_
     have h1:21*21≤s*s:=Nat.mul_le_mul hlt hlt
     have h2:((s*s:Nat):Int)=dsc (nrm q):=by rw [Int.natCast_mul];exact hss
     have m1:((nrm q).getD 1 0*(nrm q).getD 1 0).natAbs≤9*9:=by rw [Int.natAbs_mul];exact Nat.mul_le_mul (n9 1) (n9 1)
     have m2:(4*(nrm q).getD 2 0*(nrm q).getD 0 0).natAbs≤36*9:=by rw [Int.natAbs_mul];exact Nat.mul_le_mul (by have:=n9 2;omega) (n9 0)
     unfold dsc at h2
     omega
    have key:∀ z:Int,z.natAbs≤20→Fsm (lin1 (nrm q) z):=fun z hz=>by
     have hp2:plen [(nrm q).getD 1 0+z,2*(nrm q).getD 2 0]=2:=by rw [plen_cons_succ (by rw [plen_cons_one rfl (by have:0<(nrm q).getD 2 0:=hld;omega)];omega),plen_cons_one rfl (by have:0<(nrm q).getD 2 0:=hld;omega)]
     exact fsm_nrm (by omega) (by omega) fun j=>gd2 (by have:=n9 1;omega) (by have:=n9 2;omega) j
    rcases List.mem_cons.1 hp with e | e
    ·rw [e];exact key _ (by omega)
    ·rw [List.mem_singleton.1 e];exact key _ (by omega)
   ·rw [List.mem_singleton.1 hp];exact fsm_nrm hp3 h0 fun j=>by have:=h9 j;omega
theorem facs_fsm {qs:List (List Int)} (ht:Tri qs):∀ x∈facs [] qs,Fsm x.1:=facs_mem (fun q h=>spl_fsm (ht q h).1 (ht q h).2) (fun x hx=>by cases hx)
theorem tri_take {qs:List (List Int)} (h:Tri qs) (i:Nat):Tri (qs.take i):=fun q hq=>h q (List.mem_of_mem_take hq)
theorem facs_ok {qs:List (List Int)} (ht:Tri qs) (h5:qs.length≤5) {q:List Int} (hq:q.length=3) (hs:Sma q) (k:Nat):∀ x∈addf (facs [] qs) ((spl q).take k),ptrim x.1=x.1∧x.1.length≤1000∧x.2≤100:=fun x hx=>by
 have h1:=addf_mem (P:=Fsm) (fun p hp=>spl_fsm hq hs p (List.mem_of_mem_take hp)) (facs_fsm ht) x hx
 have h2:=addf_pow (facs_pow (qs:=qs) (l:=[]) (N:=0) (fun x hx=>by cases hx)) x hx
 have h3:=spl_len2 q
 have h4:((spl q).take k).length≤(spl q).length:=by rw [List.length_take];omega
 exact ⟨h1.tr,by have:=h1.len;omega,by omega⟩
theorem facs_ln {qs:List (List Int)} (h5:qs.length≤5) (q:List Int) (k:Nat):(addf (facs [] qs) ((spl q).take k)).length≤12:=by
 have h1:=addf_len ((spl q).take k) (facs [] qs)
 have h2:=facs_len qs []
 have h3:=spl_len2 q
 have h4:((spl q).take k).length≤(spl q).length:=by rw [List.length_take];omega
 simp only [List.length_nil] at h2
 omega
theorem tr_load {w:World} {b o i la:Nat} {qs:List (List Int)} (hc:∀ i,i<la→∀ k,k<3→w.cell? ⟨b,o+i*3+k,none⟩=some (.int .i8 ((qs.getD i []).getD k 0))) (hi:i<la) :
 w.cell? ⟨b,o+i*3,none⟩=some (.int .i8 ((qs.getD i []).getD 0 0))∧w.cell? ⟨b,o+i*3+1,none⟩=some (.int .i8 ((qs.getD i []).getD 1 0))∧w.cell? ⟨b,o+i*3+2,none⟩=some (.int .i8 ((qs.getD i []).getD 2 0)):=by
 have e0:=hc i hi 0 (by omega)
 rw [Nat.add_zero] at e0
 exact ⟨e0,hc i hi 1 (by omega),hc i hi 2 (by omega)⟩
theorem ps_at {w:World} {A:Option Addr} {l c:Nat} {ps:List (List Int)} (h:PsAt w A l c ps) {k:Nat} (hk:k<l):∃ b o A1 l1 c1,A=some ⟨b,o,none⟩∧w.cell? ⟨b,o+k,none⟩=some (.slice A1 l1 c1)∧I64At w A1 l1 c1 (ps.getD k []):=by
 rcases h.elems with ⟨h0,_⟩ | ⟨b,o,e,hb,hv⟩
 ·omega
 ·have hkl:k<ps.length:=by rw [h.length];exact hk
  have eg:ps[k]?=some (ps.getD k []):=by rw [List.getD_eq_getElem?_getD,List.getElem?_eq_getElem hkl];rfl
  obtain ⟨vs,⟨A1,l1,c1,ev,h1⟩,hc⟩:=hv k _ eg
  subst ev
  have:=hc 0 _ rfl
  rw [Nat.mul_one,Nat.add_zero] at this
  exact ⟨b,o,A1,l1,c1,e,this,h1⟩
def Zer (qs:List (List Int)):Prop:=∃ q∈qs,plen q=0
def FacR (qs:List (List Int)) (e:Ending) (w':World):Prop:=∃ u A' l' c' fs,e=.returned (.tuple #[.int .i64 u,.slice A' l' c'])∧(u=0↔Zer qs)∧FsAt w' A' l' c' fs∧(u=0→fs=[])∧(u≠0→fs=facs [] qs)
theorem take_snoc {α:Type} {l:List α} {i:Nat} (h:i<l.length) (d:α):l.take (i+1)=l.take i ++ [l.getD i d]:=by
 rw [List.take_add_one,List.getElem?_eq_getElem h,Option.toList_some,List.getD_eq_getElem?_getD,List.getElem?_eq_getElem h]
 rfl
set_option maxRecDepth 100000 in
set_option maxHeartbeats 8000000 in
theorem factors_any {w:World} {A:Option Addr} {la ca:Nat} {qs:List (List Int)} (h:TrAt w A la ca qs) (hl:la≤5) (ht:Tri qs) :
 Calls Tryz.prog 15 #[.slice A la ca] w fun e w'=>FacR qs e w'∧Below w.heap.size w w':=by
 have H:=Lib.hid h
 have Hl:=Lib.hid h.length
 have HT:=Lib.hid ht
 clear h ht
 go_enter Tryz.func15,Tryz.ntmps15
 go_wp2
 go_loopw [4,5,6] (fun s4 s5 s6 wr=>∃ (i:Nat) (u:Int) (A':Option Addr) (l' c':Nat),i≤la∧s4=.int .i64 u∧s5=.slice A' l' c'∧s6=.int .i64 (i:Int)∧u.natAbs≤9^i∧(u=0↔Zer (qs.take i))∧FsAt wr A' l' c' (facs [] (qs.take i))∧(l'=0→A'=none∧c'=0)∧Below w.heap.size w wr) (fun _ _ s6 _=>la-(intOf s6).toNat)
 case atStart=>exact ⟨0,1,none,0,0,Nat.zero_le _,rfl,rfl,rfl,Nat.le_refl _,⟨fun h=>absurd h (by decide),fun ⟨q,hq,_⟩=>(by cases hq)⟩,⟨rfl,Nat.le_refl _,.inl ⟨rfl,rfl,rfl⟩⟩,fun _=>⟨rfl,rfl⟩,Bel.go⟩
 case round =>
  obtain ⟨i,u,A',l',c',hi,rfl,rfl,rfl,hu,huz,hF,h0,hbw⟩:=hrel
  obtain ⟨wo,rfl⟩:∃ wo:World,wo=wr:=⟨_,rfl⟩
  have HF:=Lib.hid hF
  have H0:=Lib.hid h0
  have Huz:=Lib.hid huz
  have Hbw:=Lib.hid hbw
  by_cases hlt:i<la
  ·have Hlt:=Lib.hid hlt
   obtain ⟨b,o,rfl,hbl,hc⟩:=(H.out.below hbw).at (by omega)
   have hil:i<qs.length:=by rw [Hl.out];exact hlt
   have hq:=HT.out (qs.getD i []) (by rw [List.getD_eq_getElem?_getD,List.getElem?_eq_getElem hil];exact List.getElem_mem _)
   obtain ⟨e0,e1,e2⟩:=tr_load hc hlt
   have hl3:=list3 hq.1
   have s0:=hq.2 0 (by omega)
   have s1:=hq.2 1 (by omega)
   have s2:=hq.2 2 (by omega)
   have HQ:=Lib.hid hq
   have HN:=Lib.hid (take_snoc hil [])
   obtain ⟨q,hqd⟩:∃ q,q=qs.getD i []:=⟨_,rfl⟩
   rw [← hqd] at e0 e1 e2 hl3 s0 s1 s2 HQ HN
   obtain ⟨x0,hx0⟩:∃ x,x=q.getD 0 0:=⟨_,rfl⟩
   obtain ⟨x1,hx1⟩:∃ x,x=q.getD 1 0:=⟨_,rfl⟩
   obtain ⟨x2,hx2⟩:∃ x,x=q.getD 2 0:=⟨_,rfl⟩
   rw [← hx0] at e0 s0 hl3
   rw [← hx1] at e1 s1 hl3
   rw [← hx2] at e2 s2 hl3
   have HL3:=Lib.hid hl3.symm
   have ti:(i:Int)<(la:Int):=by omega
   have tw:IntKind.i64.wrap ((i:Int)+1)=(i:Int)+1:=IntWalk.i64_in _ (by omega)
   have HTI:=Lib.hid (tri_take HT.out i)
   have HLI:=Lib.hid (show (qs.take i).length≤5 by rw [List.length_take];omega)
   have h9i:9^i≤9^4:=Nat.pow_le_pow_right (by decide) (by omega)
   have H9:=Lib.hid hu
   have hu4:u.natAbs≤6561:=by omega
   clear hx0 hx1 hx2 hc hq hl3 hqd hF h0 hbw huz hi hlt hil hu h9i
   go_wp2_with fail
   refine (wid_any x0 x1 x2 _ ⟨by omega,by omega⟩ ⟨by omega,by omega⟩ ⟨by omega,by omega⟩).mono ?_
   rintro e w1 ⟨A1,c1,rfl,h1,hb1⟩
   have H1:=Lib.hid h1
   have HF1:=Lib.hid (fs_below HF.out hb1)
   have Hbw1:=Lib.hid (Hbw.out.trans (hb1.mono Hbw.out.size))
   clear h1 hb1 e0 e1 e2 hbl
   go_wp2_with fail
   refine (fsplit_any _ _ x0 x1 x2 _ H1.out (by omega) (by omega) (by omega)).mono ?_
   rintro e w2 ⟨⟨v,Ap,lp,cp,rfl,hv0,hv9,hps⟩,hb2⟩
   rw [HL3.out] at hv0 hps
   have HV0:=Lib.hid hv0
   have HPs:=Lib.hid hps
   have HF2:=Lib.hid (fs_below HF1.out hb2)
   have Hbw2:=Lib.hid (Hbw1.out.trans (hb2.mono Hbw1.out.size))
   have HLp:=Lib.hid hps.length
   have hlp2:lp≤2:=by rw [← hps.length];exact spl_len2 q
   have hm5:(u*v).natAbs≤6561*9:=by rw [Int.natAbs_mul];exact Nat.mul_le_mul hu4 hv9
   have HU5:=Lib.hid (show (u*v).natAbs≤9^(i+1) by rw [Int.natAbs_mul,Nat.pow_succ];exact Nat.mul_le_mul H9.out hv9)
   have HUZ:=Lib.hid (show u*v=0↔Zer (qs.take (i+1)) by
    rw [HN.out,Int.mul_eq_zero,Huz.out,HV0.out]
    unfold Zer
    constructor
    ·rintro (⟨r,hr,h⟩ | h)
     ·exact ⟨r,List.mem_append_left _ hr,h⟩
     ·exact ⟨q,by simp,h⟩
    ·rintro ⟨r,hr,h⟩
     rcases List.mem_append.1 hr with hr | hr
     ·exact .inl ⟨r,hr,h⟩
     ·rw [List.mem_singleton.1 hr] at h;exact .inr h)
   obtain ⟨U,hU⟩:∃ U,U=u*v:=⟨_,rfl⟩
   rw [← hU] at hm5 HU5 HUZ
   have iU:IntKind.i64.wrap U=U:=IntWalk.i64_in _ (by omega)
   have eU:u*v=U:=hU.symm
   clear hU hps hb2 hv0 hv9 hu4
   go_wp2
   go_loopw [5,9] (fun s5 s9 wx=>∃ (k:Nat) (A':Option Addr) (l' c':Nat),k≤lp∧s5=.slice A' l' c'∧s9=.int .i64 (k:Int)∧FsAt wx A' l' c' (addf (facs [] (qs.take i)) ((spl q).take k))∧(l'=0→A'=none∧c'=0)∧Below w2.heap.size w2 wx) (fun _ s9 _=>lp-(intOf s9).toNat)
   case atStart=>exact ⟨0,_,_,_,Nat.zero_le _,rfl,rfl,HF2.out,H0.out,Below.refl _ _⟩
   case round =>
    obtain ⟨k,A6,l6,c6,hk,rfl,rfl,hF6,h06,hbx⟩:=hrel
    have HF6:=Lib.hid hF6
    have H06:=Lib.hid h06
    have Hbx:=Lib.hid hbx
    by_cases hkl:k<lp
    ·have Hkl:=Lib.hid hkl
     obtain ⟨b',o',A7,l7,c7,rfl,k1,k2⟩:=ps_at (ps_below HPs.out hbx) hkl
     have K2:=Lib.hid k2
     have hkk:k<(spl q).length:=by rw [HLp.out];exact hkl
     have HNK:=Lib.hid (take_snoc hkk [])
     have hfp:=spl_fsm HQ.out.1 HQ.out.2 ((spl q).getD k []) (by rw [List.getD_eq_getElem?_getD,List.getElem?_eq_getElem hkk];exact List.getElem_mem _)
     have HFP:=Lib.hid hfp
     have hl7:l7≤1000:=by rw [← k2.length];have:=hfp.len;omega
     have hl6:l6≤100:=by rw [← hF6.length];have:=facs_ln HLI.out q k;omega
     have tk1:(k:Int)<(lp:Int):=by omega
     have tk2:IntKind.i64.wrap ((k:Int)+1)=(k:Int)+1:=IntWalk.i64_in _ (by omega)
     clear k2 hkk hF6 h06 hbx hfp hk hkl
     go_wp2_with fail
     refine (with_any _ _ _ _ _ _ _ ((spl q).getD k []) _ HF6.out K2.out hl6 hl7 HFP.out.tr (facs_ok HTI.out HLI.out HQ.out.1 HQ.out.2 k) H06.out).mono ?_
     rintro e w8 ⟨⟨A8,l8,c8,rfl,h8,p8⟩,hb8⟩
     have H8:=Lib.hid h8
     have Hp8:=Lib.hid p8
     have Hb8:=Lib.hid (Hbx.out.trans (hb8.mono Hbx.out.size))
     clear h8 p8 hb8
     go_wp2
     go_roundw
     case rel=>exact ⟨k+1,_,_,_,Hkl.out,rfl,by go_num,by rw [HNK.out,addf_app];exact H8.out,fun h=>absurd h (by have:=Hp8.out;omega),Hb8.out⟩
     case measure=>have:=Hkl.out;simp [intOf];omega
    ·have tk1:¬ (k:Int)<(lp:Int):=by omega
     have HE:=Lib.hid (show addf (facs [] (qs.take i)) ((spl q).take k)=facs [] (qs.take (i+1)) by rw [HN.out,facs_app,List.take_of_length_le (l:=spl q) (by rw [HLp.out];omega)])
     clear hF6 h06 hbx hk hkl
     go_wp2
     go_roundw
     case rel=>exact ⟨i+1,U,_,_,_,Hlt.out,rfl,rfl,by go_num,HU5.out,HUZ.out,by rw [← HE.out];exact HF6.out,H06.out,Hbw2.out.trans (Hbx.out.mono Hbw2.out.size)⟩
     case measure=>have:=Hlt.out;simp [intOf];omega
  ·have ti:¬ (i:Int)<(la:Int):=by omega
   have HE:qs.take i=qs:=by rw [List.take_of_length_le (by rw [Hl.out];omega)]
   rw [HE] at HF Huz
   have Hll:=Lib.hid hF.length
   clear hF h0 hbw hi hlt huz hu
   by_cases hu0:u=0
   ·subst hu0
    go_wp2
    refine bodyPost_ret (v:=.tuple #[.int .i64 0,.slice none 0 0]) (by simp [results,Tryz.results15,go_sem]) rfl ⟨⟨0,none,0,0,[],rfl,⟨fun _=>Huz.out.1 trivial,fun _=>rfl⟩,⟨rfl,Nat.le_refl _,.inl ⟨rfl,rfl,rfl⟩⟩,fun _=>rfl,fun h=>absurd rfl h⟩,Hbw.out⟩
   ·have bu:(u == 0)=false:=by rw [beq_eq_false_iff_ne];exact hu0
    have Hu0:=Lib.hid hu0
    clear hu0
    go_wp2
    refine bodyPost_ret (v:=.tuple #[.int .i64 u,.slice A' l' c']) (by simp [results,Tryz.results15,go_sem]) rfl ⟨⟨u,A',l',c',facs [] qs,rfl,Huz.out,HF.out,fun h=>absurd h Hu0.out,fun _=>rfl⟩,Hbw.out⟩
end Go.Proofs.YtjmglmgokfcgoaaGreat
namespace Go.Proofs.YtjmglmgokfcgoaaGreat
open Go.RowKit
theorem lin_cont {p:List Int} (h:isLin p) (h1:pcont p=1) (h0:p.getD 0 0=0):p.getD 1 0=1:=by
 have e:(p.getD 1 0).natAbs∣pcont p:=dvd_pcont fun k=>by
  match k with
  | 0=>rw [h0];simp
  | 1=>exact Nat.dvd_refl _
  | k+2=>rw [getD_ge_plen p (k+2) (by rw [h.plen];omega)];simp
 rw [h1] at e
 have:=Nat.eq_one_of_dvd_one e
 have:=h.2
 omega
theorem mul_le_of {a c g:Int} (ha:0<a) (hc:0<c) (h:a*c=g):a≤g∧c≤g:=by
 have h1:a*1≤a*c:=Int.mul_le_mul_of_nonneg_left (by omega) (by omega)
 have h2:1*c≤a*c:=Int.mul_le_mul_of_nonneg_right (by omega) (by omega)
 omega
theorem abs_mul_le {b d g:Int} (hb:b≠0) (hd:d≠0) (h:b*d=g):b.natAbs≤g.natAbs∧d.natAbs≤g.natAbs:=by
 have e:b.natAbs*d.natAbs=g.natAbs:=by rw [← h,Int.natAbs_mul]
 have h1:b.natAbs*1≤b.natAbs*d.natAbs:=Nat.mul_le_mul_left _ (by omega)
 have h2:1*d.natAbs≤b.natAbs*d.natAbs:=Nat.mul_le_mul_right _ (by omega)
 omega
theorem lin9 {A B g:List Int} (hA:isLin A) (hB:isLin B) (cA:pcont A=1) (cB:pcont B=1) (h:∀ x,ev g x=ev A x*ev B x) (h9:∀ j,(g.getD j 0).natAbs≤9):(∀ j,(A.getD j 0).natAbs≤9)∧∀ j,(B.getD j 0).natAbs≤9:=by
 have e:∀ k,g.getD k 0=[A.getD 0 0*B.getD 0 0,A.getD 0 0*B.getD 1 0+A.getD 1 0*B.getD 0 0,A.getD 1 0*B.getD 1 0].getD k 0:=ev_inj fun x=>by
  rw [h,lnr_ev hA,lnr_ev hB,ev3]
  grind
 have e0:g.getD 0 0=A.getD 0 0*B.getD 0 0:=e 0
 have e1:g.getD 1 0=A.getD 0 0*B.getD 1 0+A.getD 1 0*B.getD 0 0:=e 1
 have e2:g.getD 2 0=A.getD 1 0*B.getD 1 0:=e 2
 have g0:=h9 0
 have g1:=h9 1
 have g2:=h9 2
 obtain ⟨a1,a2⟩:=mul_le_of hA.2 hB.2 e2.symm
 have pA:=hA.2
 have pB:=hB.2
 have key:(A.getD 0 0).natAbs≤9∧(B.getD 0 0).natAbs≤9:=by
  by_cases z1:A.getD 0 0=0
  ·have:=lin_cont hA cA z1
   rw [z1,this,Int.zero_mul,Int.one_mul] at e1
   rw [z1]
   omega
  ·by_cases z2:B.getD 0 0=0
   ·have:=lin_cont hB cB z2
    rw [z2,this,Int.mul_zero,Int.mul_one] at e1
    rw [z2]
    omega
   ·obtain ⟨b1,b2⟩:=abs_mul_le z1 z2 e0.symm
    omega
 constructor
 ·intro j
  match j with
  | 0=>exact key.1
  | 1=>omega
  | j+2=>rw [getD_ge_plen A (j+2) (by rw [hA.plen];omega)];decide
 ·intro j
  match j with
  | 0=>exact key.2
  | 1=>omega
  | j+2=>rw [getD_ge_plen B (j+2) (by rw [hB.plen];omega)];decide
theorem spl9 {q:List Int} (hl:q.length=3) (hs:Sma q):∀ p∈spl q,∀ j,(p.getD j 0).natAbs≤9:=fun p hp=>by
 have h9:=sma_abs hl hs
 have h3:plen q≤3:=by have:=plen_le q;omega
 have hn:∀ j,((nrm q).getD j 0).natAbs≤9:=nrm_le h9
 by_cases h0:plen q<2
 ·unfold spl at hp;rw [if_pos h0] at hp;cases hp
 have hir:=spl_irr (q:=q) (by omega) h3
 have hpe:plen q=3→∀ A B,spl q=[A,B]→∀ x,4*(nrm q).getD 2 0*ev (nrm q) x=(rnu [(nrm q).getD 1 0 + -((sqd (nrm q)).getD 0:Int),2*(nrm q).getD 2 0]*rnu [(nrm q).getD 1 0+((sqd (nrm q)).getD 0:Int),2*(nrm q).getD 2 0])*(ev A x*ev B x):=fun c3 A B hAB x=>by
  have hld:=nrm_lead (p:=q) (by omega)
  have hnl:=nrm_len q
  rw [c3] at hld hnl
  unfold spl at hAB
  rw [if_neg h0,if_neg (by omega)] at hAB
  by_cases c4:∃ s:Nat,(s:Int)*(s:Int)=dsc (nrm q)
  ·obtain ⟨s,hs'⟩:=c4
   rw [sqd_some hs'] at hAB ⊢
   simp only [Option.getD_some]
   injection hAB with hA hB
   injection hB with hB _
   have hg2:0<(nrm q).getD 2 0:=hld
   have p1:∀ z:Int,plen [(nrm q).getD 1 0+z,2*(nrm q).getD 2 0]≠0:=fun z=>by
    rw [plen_cons_succ (by rw [plen_cons_one rfl (by omega)];omega)]
    omega
   have e1:=nrm_ev (p1 (-(s:Int))) x
   have e2:=nrm_ev (p1 (s:Int)) x
   have e3:ev (nrm q) x=(nrm q).getD 0 0+(nrm q).getD 1 0*x+(nrm q).getD 2 0*x*x:=by
    conv=>lhs;rw [list3 hnl]
    rw [ev3]
   have e4:=spl_alg ((nrm q).getD 0 0) ((nrm q).getD 1 0) ((nrm q).getD 2 0) (s:Int) x (by rw [hs'];rfl)
   rw [ev2] at e1 e2
   rw [e3,e4,e1,e2,← hA,← hB]
   unfold lin1
   generalize ev (nrm [(nrm q).getD 1 0 + -(s:Int),2*(nrm q).getD 2 0]) x=X
   generalize ev (nrm [(nrm q).getD 1 0+(s:Int),2*(nrm q).getD 2 0]) x=Y
   grind
  ·rw [sqd_none fun s hs'=>c4 ⟨s,hs'⟩] at hAB
   cases hAB
 by_cases c2:plen q=2
 ·unfold spl at hp
  rw [if_neg h0,if_pos c2] at hp
  rw [List.mem_singleton.1 hp]
  exact hn
 have c3:plen q=3:=by omega
 have hld:=nrm_lead (p:=q) (by omega)
 cases hsq:sqd (nrm q) with
 | none =>
   unfold spl at hp
   rw [if_neg h0,if_neg c2,hsq] at hp
   rw [List.mem_singleton.1 hp]
   exact hn
 | some s =>
   obtain ⟨A,hA⟩:∃ A,A=lin1 (nrm q) (-(s:Int)):=⟨_,rfl⟩
   obtain ⟨B,hB⟩:∃ B,B=lin1 (nrm q) (s:Int):=⟨_,rfl⟩
   have hAB:spl q=[A,B]:=by unfold spl;rw [if_neg h0,if_neg c2,hsq,hA,hB]
   have iA:=hir A (by rw [hAB];simp)
   have iB:=hir B (by rw [hAB];simp)
   have hg2:0<(nrm q).getD 2 0:=by rw [c3] at hld;exact hld
   have lA:isLin A:=by rw [hA];exact (lin1_is _ hg2).1
   have lB:isLin B:=by rw [hB];exact (lin1_is _ hg2).1
   have hx:=hpe c3 A B hAB
   obtain ⟨e,he⟩:∃ e,e=(rnu [(nrm q).getD 1 0 + -((sqd (nrm q)).getD 0:Int),2*(nrm q).getD 2 0]*rnu [(nrm q).getD 1 0+((sqd (nrm q)).getD 0:Int),2*(nrm q).getD 2 0]):=⟨_,rfl⟩
   rw [← he] at hx
   have p1:∀ z:Int,plen [(nrm q).getD 1 0+z,2*(nrm q).getD 2 0]≠0:=fun z=>by
    rw [plen_cons_succ (by rw [plen_cons_one rfl (by omega)];omega)]
    omega
   have he0:e≠0:=by rw [he];exact Int.mul_ne_zero (rnu_ne (p1 _)) (rnu_ne (p1 _))
   have nq:Nor (nrm q):=⟨nrm_cont (by omega),by show 0<(nrm q).getD (plen (nrm q)-1) 0;rw [nrm_plen (by omega),c3];exact hg2⟩
   have hM:=iA.nor.mul iB.nor
   have eq:=dvq_eq nq.2 hM.2 (by rw [nq.1,hM.1]) ⟨e,[4*(nrm q).getD 2 0],he0,fun x=>by rw [ev_const,ev_mul,hx x]⟩ ⟨4*(nrm q).getD 2 0,[e],by omega,fun x=>by rw [ev_const,ev_mul,hx x]⟩
   obtain ⟨r1,r2⟩:=lin9 lA lB iA.2 iB.2 (fun x=>by rw [← ev_mul];exact ev_congr eq x) hn
   rw [hAB] at hp
   rcases List.mem_cons.1 hp with c | c
   ·rw [c];exact r1
   ·rw [List.mem_singleton.1 c];exact r2
theorem facs9 {qs:List (List Int)} (ht:Tri qs):∀ x∈facs [] qs,∀ j,(x.1.getD j 0).natAbs≤9:=facs_mem (P:=fun p=>∀ j,(p.getD j 0).natAbs≤9) (fun q h=>spl9 (ht q h).1 (ht q h).2) (fun x hx=>by cases hx)
def Sm9 (p:List Int):Prop:=p.length≤3∧∀ j,(p.getD j 0).natAbs≤9
theorem prod9_bd:∀ (ps:List (List Int)) (P:List Int) (X:Nat),(∀ p∈ps,Sm9 p)→(∀ j,(P.getD j 0).natAbs≤X)→∀ j,((prodf P ps).getD j 0).natAbs≤27^ps.length*X
 | [],P,X,_,h,j=>by show (P.getD j 0).natAbs≤27^0*X;rw [Nat.pow_zero,Nat.one_mul];exact h j
 | q :: qs,P,X,ht,h,j=>by
   have hq:=ht q List.mem_cons_self
   have h1:=prod9_bd qs (rmul P q) (27*X) (fun r hr=>ht r (List.mem_cons_of_mem _ hr)) (fun k=>by
    have:=rmul_bd3 (X:=X) (Y:=9) hq.1 h hq.2 k
    omega) j
   show ((prodf (rmul P q) qs).getD j 0).natAbs≤27^(qs.length+1)*X
   rw [Nat.pow_succ,Nat.mul_assoc]
   exact h1
theorem prod9_len:∀ (ps:List (List Int)) (P:List Int) (a:Nat),(∀ p∈ps,Sm9 p)→plen P≤a+1→P.length≤a+1→(prodf P ps).length≤a+2*ps.length+1
 | [],P,a,_,_,h=>h
 | q :: qs,P,a,ht,h,_=>by
   have hq:=ht q List.mem_cons_self
   have h1:(rmul P q).length≤a+2+1:=rmul_len h (by have:=plen_le q;have:=hq.1;omega)
   have h2:=prod9_len qs (rmul P q) (a+2) (fun r hr=>ht r (List.mem_cons_of_mem _ hr)) (by have:=plen_le (rmul P q);omega) h1
   show (prodf (rmul P q) qs).length≤a+2*(qs.length+1)+1
   omega
theorem prodf_pev (x:Int):∀ (ps:List (List Int)) (P:List Int),ev (prodf P ps) x=ev P x*pev x ps
 | [],P=>by show ev P x=ev P x*1;omega
 | q :: qs,P=>by
   show ev (prodf (rmul P q) qs) x=ev P x*(ev q x*pev x qs)
   rw [prodf_pev x qs,ev_rmul,Int.mul_assoc]
theorem prp_pev (x:Int):∀ l:List (List Int×Nat),ev (prP l) x=pev x (l.map (·.1))
 | []=>by show ev [1] x=1;rw [ev_const]
 | (p,m) :: l=>by
   show ev (polymul p (prP l)) x=ev p x*pev x (l.map (·.1))
   rw [ev_mul,prp_pev x l]
theorem part14_eq {qs:List (List Int)} (hq:∀ q∈qs,plen q≠0∧plen q≤3) (hF:QOK (prodf [1] qs)) (F0:plen (prodf [1] qs)≠0):prodf [1] ((facs [] qs).map (·.1))=qpart (prodf [1] qs):=by
 rw [qpart_prod hq hF F0,← prodf_trim _ [1] (by decide)]
 exact ptrim_ext (ev_inj fun x=>by rw [prodf_pev,prp_pev,ev_const,Int.one_mul])
def SepR (Q:List Int) (s:Nat):Prop:=(plen Q<3∧s=0)∨(3≤plen Q∧sepx Q≤2^(2*s)∧∀ t,t<s→2^(2*t)<sepx Q)
theorem SepR.q {Q:List Int} {s:Nat} (h:SepR Q s):SepQ Q s:=by
 rcases h with h | ⟨h1,h2,h3⟩
 ·exact .inl h
 ·refine .inr ⟨h1,?_⟩
  by_cases s0:s=0
  ·subst s0
   exact ⟨0,⟨h2,fun j hj=>absurd hj (Nat.not_lt_zero j)⟩,rfl⟩
  ·have h4:=h3 (s-1) (by omega)
   by_cases c:sepx Q≤2^(2*s-1)
   ·refine ⟨2*s-1,⟨c,fun j hj=>Nat.lt_of_le_of_lt (Nat.pow_le_pow_right (by decide) (by omega)) h4⟩,by omega⟩
   ·refine ⟨2*s,⟨h2,fun j hj=>Nat.lt_of_le_of_lt (Nat.pow_le_pow_right (by decide) (show j≤2*s-1 by omega)) (by omega)⟩,by omega⟩
end Go.Proofs.YtjmglmgokfcgoaaGreat
namespace Go.Proofs.YtjmglmgokfcgoaaGreat
open Go Go.RowKit
structure FcP (p:List Int):Prop where
 irr:isLin p∨isQd p
 bd:∀ j,(p.getD j 0).natAbs≤29
 q9:p.length=3→∀ j,(p.getD j 0).natAbs≤9
theorem FcP.len {p:List Int} (h:FcP p):p.length=2∨p.length=3:=by
 rcases h.irr with c | c
 ·exact .inl c.1
 ·exact .inr c.1
end Go.Proofs.YtjmglmgokfcgoaaGreat
namespace Go.Proofs.YtjmglmgokfcgoaaGreat
open Go Go.RowKit
structure FsI (w:World) (A:Option Addr) (l i:Nat) (fs:List (List Int×Nat)) (r:List Int) (b o:Nat) (A1:Option Addr) (l1 c1:Nat):Prop where
 eq:A=some ⟨b,o,none⟩
 cell:w.cell? ⟨b,o+i*2,none⟩=some (.slice A1 l1 c1)
 lt:b<w.heap.size
 at_:I64At w A1 l1 c1 r
theorem fs_i {w:World} {A:Option Addr} {l c:Nat} {fs:List (List Int×Nat)} (h:FsAt w A l c fs) {i:Nat} (hi:i<l):∃ b o A1 l1 c1,FsI w A l i fs (fs.getD i ([],0)).1 b o A1 l1 c1:=by
 rcases h.elems with ⟨h0,_⟩ | ⟨b,o,e,hb,hv⟩
 ·omega
 ·obtain ⟨vs,⟨A1,l1,c1,ev,h1⟩,hc⟩:=hv i _ (getD_fs (by rw [h.length];exact hi))
  subst ev
  have:=hc 0 _ rfl
  rw [Nat.add_zero] at this
  exact ⟨b,o,A1,l1,c1,e,this,hb,h1⟩
theorem FsI.below {w w':World} {A:Option Addr} {l i:Nat} {fs:List (List Int×Nat)} {r:List Int} {b o:Nat} {A1:Option Addr} {l1 c1:Nat} (h:FsI w A l i fs r b o A1 l1 c1) (hb:Below w.heap.size w w'):FsI w' A l i fs r b o A1 l1 c1 :=
 ⟨h.eq,(hb.cell (p:=⟨b,o+i*2,none⟩) h.lt).trans h.cell,Nat.lt_of_lt_of_le h.lt hb.size,h.at_.below hb⟩
end Go.Proofs.YtjmglmgokfcgoaaGreat
namespace Go.Proofs.YtjmglmgokfcgoaaGreat
open Go.RowKit
set_option maxRecDepth 100000 in
set_option maxHeartbeats 8000000 in
theorem part14_any {w:World} {A:Option Addr} {l c:Nat} {fs:List (List Int×Nat)} (hF:FsAt w A l c fs) (hl:l≤6) (hs:∀ x∈fs,Sm9 x.1) :
 Calls Tryz.prog 20 #[.slice A l c] w fun e w'=>∃ A' l' c',e=.returned (.slice A' l' c')∧I64At w' A' l' c' (prodf [1] (fs.map (·.1)))∧Below w.heap.size w w':=by
 have HS:=Lib.hid hs
 have Hll:=Lib.hid hF.length
 have H1:=Lib.hid hF
 clear hF hs
 go_enter Tryz.func20,Tryz.ntmps20
 go_wp2
 go_loopw [3,4] (fun s3 s4 wr=>∃ (i:Nat) (A':Option Addr) (l' c':Nat),i≤l∧s3=.slice A' l' c'∧s4=.int .i64 (i:Int)∧I64At wr A' l' c' (prodf [1] ((fs.take i).map (·.1)))∧Below w.heap.size w wr) (fun _ s4 _=>l-(intOf s4).toNat)
 case atStart=>exact ⟨0,_,_,_,Nat.zero_le _,rfl,rfl,I64At.one _ _,Bel.go⟩
 case round =>
  obtain ⟨i,A',l',c',hi,rfl,rfl,hat,hbw⟩:=hrel
  obtain ⟨wo,rfl⟩:∃ wo:World,wo=wr:=⟨_,rfl⟩
  have Hat:=Lib.hid hat
  have Hbw:=Lib.hid hbw
  have HF1:=Lib.hid (fs_below H1.out hbw)
  clear hat hbw
  by_cases hlt:i<l
  ·have Hlt:=Lib.hid hlt
   have hif:i<fs.length:=by rw [Hll.out];exact hlt
   obtain ⟨b0,o0,A1,l1,c1,hfi⟩:=fs_i HF1.out hlt
   obtain rfl:=hfi.eq
   have HFI:=Lib.hid hfi
   have hmem:fs.getD i ([],0)∈fs:=by rw [List.getD_eq_getElem?_getD,List.getElem?_eq_getElem hif];exact List.getElem_mem _
   have HQ:=Lib.hid (HS.out _ hmem)
   have HN:=Lib.hid (show prodf [1] ((fs.take (i+1)).map (·.1))=rmul (prodf [1] ((fs.take i).map (·.1))) (fs.getD i ([],0)).1 by rw [take_snoc hif ([],0),List.map_append];exact prodf_app _ _ _)
   have e1:=HFI.out.cell
   have hl1:l1≤3:=by rw [← HFI.out.at_.length];exact HQ.out.1
   have ti0:(i:Int)<(l:Int):=by omega
   have tw:IntKind.i64.wrap ((i:Int)+1)=(i:Int)+1:=IntWalk.i64_in _ (by omega)
   have HSI:=Lib.hid (show ∀ p∈(fs.take i).map (·.1),Sm9 p from fun p hp=>by
    obtain ⟨x,hx,rfl⟩:=List.mem_map.1 hp
    exact HS.out x (List.mem_of_mem_take hx))
   have hli:((fs.take i).map (·.1)).length≤6:=by rw [List.length_map,List.length_take];omega
   have HB:=Lib.hid (prod9_bd _ [1] 1 HSI.out one_abs)
   have hll:l'≤13:=by rw [← Hat.out.length];have:=prod9_len _ [1] 0 HSI.out (by decide) (by decide);omega
   have h27:27^((fs.take i).map (·.1)).length≤27^6:=Nat.pow_le_pow_right (by decide) hli
   have HB2:=Lib.hid (show ∀ j,((prodf [1] ((fs.take i).map (·.1))).getD j 0).natAbs≤387420489 from fun j=>by have:=HB.out j;omega)
   clear hmem hif hi hfi hlt h27 hli
   go_wp2_with fail
   refine (rmul_any _ _ _ (prodf [1] ((fs.take i).map (·.1))) _ _ _ (fs.getD i ([],0)).1 _ Hat.out HFI.out.at_ (by omega) (by omega) (X:=387420489) (Y:=9) HB2.out HQ.out.2 (by decide)).mono ?_
   rintro e w2 ⟨A2,l2,c2,rfl,h2,_,hb2⟩
   have H2:=Lib.hid h2
   have Hb2:=Lib.hid (Hbw.out.trans (hb2.mono Hbw.out.size))
   clear hb2 h2 e1
   go_wp2
   go_roundw
   case rel=>exact ⟨i+1,_,_,_,Hlt.out,rfl,by go_num,by rw [HN.out];exact H2.out,Hb2.out⟩
   case measure=>have:=Hlt.out;simp [intOf];omega
  ·have ti:¬ (i:Int)<(l:Int):=by omega
   have HE:=Lib.hid (show fs.take i=fs by rw [List.take_of_length_le (by rw [Hll.out];omega)])
   clear hi hlt
   go_wp2
   go_ret
   exact ⟨_,_,_,rfl,by rw [← HE.out];exact Hat.out,Hbw.out⟩
def upq (n:Nat):List Int:=List.replicate n 0 ++ [1]
theorem upq_length (n:Nat):(upq n).length=n+1:=by simp [upq]
theorem upq_get (n:Nat) {j:Nat} (h:j<n):(upq n)[j]?.getD 0=0:=by
 unfold upq
 rw [List.getElem?_append_left (by simpa using h),List.getElem?_replicate,if_pos h]
 rfl
theorem upq_top (n:Nat):(upq n)[n]?.getD 0=1:=by
 unfold upq
 rw [List.getElem?_append_right (by simp)]
 simp
theorem upq_bts (n:Nat):upq n=bts (2^n):=by
 have h1:plen (upq n)=n+1:=plen_eq (upq n) n (by have:=plen_le (upq n);rw [upq_length] at this;exact this) (by rw [List.getD_eq_getElem?_getD,upq_top];decide)
 have h2:ptrim (upq n)=upq n:=by unfold ptrim;rw [h1,← upq_length n,List.take_length]
 rw [← h2]
 refine trim_bts (fun j hj=>?_) (by rw [upq_length];exact Nat.pow_lt_pow_right (by decide) (by omega))
 rw [upq_length] at hj
 rw [List.getD_eq_getElem?_getD]
 unfold btn
 rcases Nat.lt_or_ge j n with c | c
 ·rw [upq_get n c,Nat.pow_div (by omega) (by decide),show n-j=(n-j-1)+1 by omega,Nat.pow_succ,Nat.mul_mod_left]
  rfl
 ·obtain rfl:j=n:=by omega
  rw [upq_top,Nat.div_self (Nat.pow_pos (by decide))]
  rfl
set_option maxRecDepth 100000 in
set_option maxHeartbeats 8000000 in
theorem up_any {w:World} {A:Option Addr} {c:Nat} (hA:I64At w A 1 c [1]) (n:Nat) (hn:n≤100000) :
 Calls Tryz.prog 92 #[.slice A 1 c,.int .i64 (n:Int)] w fun e w'=>∃ A' l' c',e=.returned (.slice A' l' c')∧I64At w' A' l' c' (bts (2^n))∧Below w.heap.size w w':=by
 obtain ⟨i0,hi,hz0,hz1,hz2⟩:=info_parts info_int64
 have HA:=Lib.hid hA
 have hQl:=Lib.hid (upq_length n)
 have HQ0:=Lib.hid (fun j (h:j<n)=>upq_get n h)
 have HQ1:=Lib.hid (upq_top n)
 have HQ2:=Lib.hid (upq_bts n)
 obtain ⟨Q,hQ⟩:∃ Q,Q=upq n:=⟨_,rfl⟩
 rw [← hQ] at hQl HQ0 HQ1 HQ2
 clear hA hQ
 go_enter Tryz.func92,Tryz.ntmps92
 go_wp2
 go_loopw [5,6] (fun s5 s6 wr=>∃ k:Nat,k≤n∧s6=.int .i64 (k:Int)∧OwnI 3 wr w.heap.size s5 k Q∧Below w.heap.size w wr) (fun _ s6 _=>n-(intOf s6).toNat)
 case atStart=>exact ⟨0,Nat.zero_le _,rfl,World.ownsRow_nil _ _ _ _,Below.refl _ _⟩
 case round =>
  obtain ⟨k,hk,rfl,hown,hbw⟩:=hrel
  obtain ⟨wo,rfl⟩:∃ wo:World,wo=wr:=⟨_,rfl⟩
  have Hown:=Lib.hid hown
  have Hbw:=Lib.hid hbw
  clear hown hbw
  by_cases hlt:k<n
  ·have Hlt:=Lib.hid hlt
   have Hg:=Lib.hid (HQ0.out k hlt)
   have t1:(k:Int)<(n:Int):=by omega
   have t2:(0:Int)<1:=by decide
   have tw:IntKind.i64.wrap ((k:Int)+1)=(k:Int)+1:=IntWalk.i64_in _ (by omega)
   clear hlt hk
   go_wp2_with (at_builtin;refine wpList_append_one rfl (.tmp 17) (.tmp 18) 32 rfl w.heap.size 3 i0 (.int .i64 0) 8 Tryz.underlying32 hi hz0 hz1 hz2 rfl _ (.int .i64 0) k _ rfl rfl Hown.out rfl (by have:=Hlt.out;omega) (by omega) Hbw.out.size ?_)
   intro v' w1 hown' hgrow
   have R:=Lib.hid (OwnI.step (v':=v') (by rw [hQl.out];have:=Hlt.out;omega) Hbw.out.size Hown.out Hbw.out (by rw [Hg.out];exact hown') hgrow)
   clear hown' hgrow
   go_wp2
   go_roundw
   case rel=>exact ⟨k+1,Hlt.out,by go_num,R.out.1,R.out.2⟩
   case measure=>have:=Hlt.out;simp [intOf];omega
  ·have hkl:k=n:=by omega
   have t1:¬ (k:Int)<(n:Int):=by omega
   obtain ⟨b,o,rfl,hb,hc⟩:=(HA.out.below Hbw.out).at_ (by omega)
   have c0:=hc 0 (by omega)
   rw [Nat.add_zero] at c0
   have C0:=Lib.hid c0
   have Hkl:=Lib.hid hkl
   clear hkl hk hlt hc c0
   go_wp2_with (at_builtin;refine wpList_append_own _ rfl _ _ 32 rfl w.heap.size 3 i0 (.int .i64 0) 1 8 Tryz.underlying32 hi hz0 hz1 hz2 rfl (by decide) _ _ _ rfl Hown.out ⟨b,o,none⟩ 1 c [.int .i64 1] rfl rfl ?c1 ?c2 ?c3 ?c4 ?c5 ?_)
   case c1 =>
    intro j u hj
    match j,hj with
    | 0,hj=>simp at hj;subst hj;exact C0.out
   case c2=>rfl
   case c3=>have:=Hkl.out;unfold maxLen;omega
   case c4=>have:=Hkl.out;omega
   case c5=>exact Hbw.out.size
   ·intro v' w1 hown' hgrow _
    have hb1:Below w.heap.size w w1:=Hbw.out.grown hgrow Hbw.out.size (fun j hj=>(World.ownsRow.lt Hown.out j hj).1)
    have hfin:OwnI 3 w1 w.heap.size v' Q.length Q:=by
     unfold OwnI
     have e1:(Q.map (Value.int .i64)).take (k+1)=(Q.map (Value.int .i64)).take k ++ [.int .i64 (Q[k]?.getD 0)]:=by
      rw [List.take_add_one]
      simp [List.getElem?_map,List.getElem?_eq_getElem (show k<Q.length by rw [hQl.out,Hkl.out];omega)]
     rw [hQl.out,← Hkl.out,e1,Hkl.out,HQ1.out,← Hkl.out]
     exact hown'
    obtain ⟨A',cap',rfl,hat⟩:=hfin.at_
    have Hat:=Lib.hid hat
    have Hb1:=Lib.hid hb1
    clear hown' hgrow hfin hat hb1
    go_wp2
    go_ret
    exact ⟨_,_,_,rfl,by rw [← HQ2.out];exact Hat.out,Hb1.out⟩
set_option maxHeartbeats 1000000 in
theorem refnorm_big (A:Option Addr) (len cap:Nat) (p:List Int) (w:World) (h:I64At w A len cap p) (hm:len≤13) (ht2:Tiny 387420489 p) :
 Calls Tryz.prog 90 #[.slice A len cap] w fun e w'=>e=.returned (.int .i64 (nst p len))∧∃ n,w'=w.drewN n:=by
 go_enter Tryz.func90,Tryz.ntmps90
 go_wp2
 go_loopw [3,4] (fun c i wr=>∃ k:Nat,k≤len∧c=.int .i64 (nst p k)∧i=.int .i64 (k:Int)∧∃ n,wr=w.drewN n) (fun _ i _=>len-(intOf i).toNat)
 case atStart=>exact ⟨0,Nat.zero_le _,rfl,rfl,0,rfl⟩
 case round =>
  obtain ⟨k,hk,rfl,rfl,n,rfl⟩:=hrel
  have hkk:=nst_le ht2 k
  by_cases hlt:k<len
  ·obtain ⟨b,off,rfl,hb,hc⟩:=h.at_ (by omega)
   have hcell:=hc k hlt
   have hsq:=sq_le (ht2 k)
   have hn:nst p (k+1)=nst p k+p.getD k 0*p.getD k 0:=rfl
   have hb3:nst p k≤2000000000000000000:=by omega
   have Hn:=Lib.hid hn
   obtain ⟨s,hsv⟩:∃ s,s=p.getD k 0:=⟨_,rfl⟩
   rw [← hsv] at hcell hsq Hn
   obtain ⟨q,hq⟩:∃ q,q=s*s:=⟨_,rfl⟩
   have hq0:=hsq.1
   have hq1:=hsq.2
   rw [← hq] at hq0 hq1
   obtain ⟨t,htv⟩:∃ t,t=nst p k:=⟨_,rfl⟩
   rw [← htv] at hkk hb3 Hn ⊢
   have hw1:IntKind.i64.wrap (s*s)=q:=by rw [← hq,IntKind.wrap_i64];omega
   have hkl:(k:Int)<(len:Int):=by omega
   have Hq:=Lib.hid hq
   clear hq
   have hk0:=hkk.1
   clear hc h hsq hkk hsv hn ht2 htv
   go_wp2
   go_quiet (fail)
   go_wp2
   go_roundw
   case rel=>exact ⟨k+1,by omega,by rw [Hn.out,← Hq.out],by go_num,_,rfl⟩
   case measure=>simp [intOf];omega
  ·have hk2:len=k:=by omega
   subst hk2
   clear h
   go_wp2
   go_ret
   exact ⟨rfl,n,rfl⟩
theorem DigAt.one (w:World) (x:Nat) (hx:x<BB) (t:TypeId):DigAt (w.alloc (.cells #[.int .u32 (x:Int)] t)) (some ⟨w.heap.size,0,none⟩) 1 1 [x] :=
 ⟨rfl,Nat.le_refl _,fun d hd=>by rw [List.mem_singleton.1 hd];exact hx,.inr ⟨w.heap.size,0,rfl,by simp,fun j hj=>by
   match j,hj with
   | 0,_=>go_simp⟩⟩
theorem DigAt.two (w:World) (x y:Nat) (hx:x<BB) (hy:y<BB) (t:TypeId):DigAt (w.alloc (.cells #[.int .u32 (x:Int),.int .u32 (y:Int)] t)) (some ⟨w.heap.size,0,none⟩) 2 2 [x,y] :=
 ⟨rfl,Nat.le_refl _,fun d hd=>by
   rcases List.mem_cons.1 hd with e | e
   ·rw [e];exact hx
   ·rw [List.mem_singleton.1 e];exact hy,.inr ⟨w.heap.size,0,rfl,by simp,fun j hj=>by
   match j,hj with
   | 0,_=>go_simp
   | 1,_=>go_simp⟩⟩
theorem valof_one (x:Nat):val [x]=x:=by unfold val;unfold val;omega
theorem valof_two (x y:Nat):val [x,y]=x+BB*y:=by unfold val;rw [valof_one]
theorem bln_pow {n k:Nat} (h:n≤2^k):bln n≤k+1:=bln_le (Nat.lt_of_le_of_lt h (Nat.pow_lt_pow_right (by decide) (by omega)))
set_option maxRecDepth 100000 in
set_option maxHeartbeats 8000000 in
theorem sep14_any {w:World} {A:Option Addr} {l c:Nat} {f:List Int} (h:I64At w A l c f) (hl:l≤13) (tf:ptrim f=f) (ht:Tiny 387420489 f) :
 Calls Tryz.prog 19 #[.slice A l c] w fun e w'=>(∃ s:Nat,e=.returned (.int .i64 (s:Int))∧SepR f s∧s≤1000)∧Below w.heap.size w w':=by
 have hpl:plen f=l:=by rw [← ptrim_length,tf];exact h.length
 have H:=Lib.hid h
 have HT:=Lib.hid ht
 have Hpl:=Lib.hid hpl
 clear h tf ht hpl
 go_enter Tryz.func19,Tryz.ntmps19
 go_wp2_with fail
 refine (rtrim_any _ _ _ f _ H.out (by omega)).mono ?_
 rintro e w1 ⟨rfl,hw1⟩
 obtain rfl:=hw1
 rw [Hpl.out]
 by_cases hs:l<3
 ·have w1:IntKind.i64.wrap ((l:Int)-1)=(l:Int)-1:=IntWalk.i64_in _ (by omega)
  have t1:(l:Int)-1<2:=by omega
  have HV:=Lib.hid (show SepR f 0 from .inl ⟨by rw [Hpl.out];exact hs,rfl⟩)
  clear hs
  go_wp2
  go_ret
  exact ⟨⟨0,rfl,HV.out,by omega⟩,Below.refl _ _⟩
 ·obtain ⟨d,hd⟩:∃ d,l=d+1:=⟨l-1,by omega⟩
  have d1:(l:Int)-1=(d:Int):=by omega
  have d2:IntKind.i64.wrap ((l:Int)-1)=(d:Int):=by rw [d1];exact IntWalk.i64_in _ (by omega)
  have hd2:2≤d:=by omega
  have hd12:d≤12:=by omega
  have t1:¬ (d:Int)<2:=by omega
  have d3:IntKind.i64.wrap (d:Int)=(d:Int):=IntWalk.i64_in _ (by omega)
  have d4:IntKind.i64.wrap ((d:Int)+2)=(d:Int)+2:=IntWalk.i64_in _ (by omega)
  have d5:IntKind.i64.wrap ((d:Int)-1)=(d:Int)-1:=IntWalk.i64_in _ (by omega)
  have d6:IntKind.u32.wrap (d:Int)=(d:Int):=IntWalk.u32_in _ (by omega)
  obtain ⟨W,hW⟩:∃ W:Nat,nst f l=(W:Int):=⟨(nst f l).toNat,by have:=(nst_le HT.out l).1;omega⟩
  have hWb:W<2^61:=by
   have h1:=(nst_le HT.out l).2
   have h2:l*(387420489*387420489)≤13*(387420489*387420489):=Nat.mul_le_mul_right _ hl
   rw [hW] at h1
   have h3:W≤l*(387420489*387420489):=by exact_mod_cast h1
   have h4:13*(387420489*387420489)<2^61:=by decide
   omega
  have HW:=Lib.hid hW
  have Hd:=Lib.hid hd
  have Hdp:=Lib.hid (fun i (_:i≤14)=>show d^i≤2^56 from Nat.le_trans (Nat.pow_le_pow_left (show d≤2^4 by omega) i) (by rw [← Nat.pow_mul];exact Nat.pow_le_pow_right (by decide) (by omega)))
  have Hwp:=Lib.hid (fun i (_:i≤11)=>show d^(d+2)*W^i≤2^(56+61*i) from by
   have a1:=Hdp.out (d+2) (by omega)
   have a2:W^i≤2^(61*i):=Nat.le_trans (Nat.pow_le_pow_left (Nat.le_of_lt hWb) i) (by rw [← Nat.pow_mul];exact Nat.le_refl _)
   rw [Nat.pow_add 2 56]
   exact Nat.mul_le_mul a1 a2)
  clear hs hd hW
  go_wp2_with fail
  refine (bof_any _ _ _ [1] _ (DigAt.one w 1 (by rw [BB_eq];decide) _) (by omega)).mono ?_
  rintro e w2 ⟨A2,l2,c2,rfl,h2,_,hb2⟩
  rw [valof_one] at h2
  have Hb2:=Lib.hid ((below_new w (.cells #[.int .u32 1] 135)).trans (hb2.mono (below_new w (.cells #[.int .u32 1] 135)).size))
  have H2:=Lib.hid h2
  clear h2 hb2
  go_wp2
  go_loopw [4,5] (fun s4 s5 wr=>∃ (i:Nat) (A':Option Addr) (l' c':Nat),i≤d+2∧s4=.slice A' l' c'∧s5=.int .i64 (i:Int)∧I64At wr A' l' c' (bts (d^i))∧Below w.heap.size w wr) (fun _ s5 _=>d+2-(intOf s5).toNat)
  case atStart=>exact ⟨0,_,_,_,Nat.zero_le _,rfl,rfl,by rw [Nat.pow_zero];exact H2.out,Hb2.out⟩
  case round =>
   obtain ⟨i,A',l',c',hi,rfl,rfl,hat,hbw⟩:=hrel
   obtain ⟨wo,rfl⟩:∃ wo:World,wo=wr:=⟨_,rfl⟩
   have hll:l'≤1000:=by
    rw [← hat.length,bts_length]
    have:=bln_pow (Hdp.out i (by omega))
    omega
   have Hat:=Lib.hid hat
   have Hbw:=Lib.hid hbw
   clear hat hbw H2 Hb2
   by_cases hlt:i<d+2
   ·have Hlt:=Lib.hid hlt
    have ti:(i:Int)<(d:Int)+2:=by omega
    have tw:IntKind.i64.wrap ((i:Int)+1)=(i:Int)+1:=IntWalk.i64_in _ (by omega)
    clear hi hlt
    go_wp2_with fail
    refine (bof_any _ _ _ [d] _ (DigAt.one wo d (by rw [BB_eq];omega) _) (by omega)).mono ?_
    rintro e w3 ⟨A3,l3,c3,rfl,h3,_,hb3⟩
    rw [valof_one] at h3
    have hnb:=below_new wo (.cells #[.int .u32 (d:Int)] 135)
    have hb03:=hnb.trans (hb3.mono hnb.size)
    have Hat3:=Lib.hid (Hat.out.below hb03)
    have Hb3:=Lib.hid (Hbw.out.trans (hb03.mono Hbw.out.size))
    have hl3:l3≤1000:=by
     rw [← h3.length,bts_length]
     have:=bln_pow (show d≤2^4 by omega)
     omega
    have H3:=Lib.hid h3
    clear h3 hb3 hnb hb03
    go_wp2_with fail
    refine (bmul_any _ _ _ (d^i) _ _ _ d _ Hat3.out H3.out (by omega) (by omega)).mono ?_
    rintro e w4 ⟨A4,l4,c4,rfl,h4,_,hb4⟩
    rw [← Nat.pow_succ] at h4
    have Hb4:=Lib.hid (Hb3.out.trans (hb4.mono Hb3.out.size))
    have H4:=Lib.hid h4
    clear h4 hb4
    go_wp2
    go_roundw
    case rel=>exact ⟨i+1,_,_,_,Hlt.out,rfl,by go_num,H4.out,Hb4.out⟩
    case measure=>have:=Hlt.out;simp [intOf];omega
   ·obtain rfl:i=d+2:=by omega
    have ti:¬ (((d+2:Nat):Int)<(d:Int)+2):=by omega
    clear hi hlt
    go_wp2_with fail
    refine (refnorm_big _ _ _ f _ (H.out.below Hbw.out) (by omega) HT.out).mono ?_
    rintro e w5 ⟨rfl,n5,rfl⟩
    rw [HW.out]
    have hb5:Below wo.heap.size wo (wo.drewN n5):=below_drewN (Below.refl _ _) n5
    have Hat5:=Lib.hid (Hat.out.below hb5)
    have Hb5:=Lib.hid (Hbw.out.trans (hb5.mono Hbw.out.size))
    obtain ⟨w5,hw5⟩:∃ w5,w5=wo.drewN n5:=⟨_,rfl⟩
    rw [← hw5] at Hat5 Hb5 ⊢
    clear hb5 hw5 Hat Hbw
    have u1:IntKind.u64.wrap (W:Int)=(W:Int):=IntWalk.u64_in _ (by omega)
    have u2:IntKind.u32.wrap (W:Int)=((W % 4294967296:Nat):Int):=by rw [IntKind.wrap_u32];omega
    have u3:(W:Int) / 4294967296=((W / 4294967296:Nat):Int):=by omega
    have u4:IntKind.u32.wrap ((W / 4294967296:Nat):Int)=((W / 4294967296:Nat):Int):=IntWalk.u32_in _ (by omega)
    have Hval:=Lib.hid (show val [W % 4294967296,W / 4294967296]=W by rw [valof_two,BB_eq];omega)
    obtain ⟨x0,hx0⟩:∃ x,x=W % 4294967296:=⟨_,rfl⟩
    obtain ⟨x1,hx1⟩:∃ x,x=W / 4294967296:=⟨_,rfl⟩
    rw [← hx0] at u2 Hval
    rw [← hx1] at u3 u4 Hval
    have b0:x0<4294967296:=by omega
    have b1:x1<4294967296:=by omega
    clear hx0 hx1 d2 d4
    go_wp2
    go_loopw [4,7] (fun s4 s7 wr=>∃ (i:Nat) (A':Option Addr) (l' c':Nat),i≤d-1∧s4=.slice A' l' c'∧s7=.int .i64 (i:Int)∧I64At wr A' l' c' (bts (d^(d+2)*W^i))∧Below w.heap.size w wr) (fun _ s7 _=>d-1-(intOf s7).toNat)
    case atStart=>exact ⟨0,_,_,_,Nat.zero_le _,rfl,rfl,by rw [Nat.pow_zero,Nat.mul_one];exact Hat5.out,Hb5.out⟩
    case round =>
     obtain ⟨i,A',l',c',hi,rfl,rfl,hat,hbw⟩:=hrel
     obtain ⟨wp,rfl⟩:∃ wp:World,wp=wr:=⟨_,rfl⟩
     have hll:l'≤1000:=by
      rw [← hat.length,bts_length]
      have:=bln_pow (Hwp.out i (by omega))
      omega
     have Hat:=Lib.hid hat
     have Hbw:=Lib.hid hbw
     clear hat hbw Hat5 Hb5
     by_cases hlt:i<d-1
     ·have Hlt:=Lib.hid hlt
      have ti:(i:Int)<(d:Int)-1:=by omega
      have tw:IntKind.i64.wrap ((i:Int)+1)=(i:Int)+1:=IntWalk.i64_in _ (by omega)
      clear hi hlt
      go_wp2_with fail
      refine (bof_any _ _ _ [x0,x1] _ (DigAt.two wp x0 x1 (by rw [BB_eq];exact b0) (by rw [BB_eq];exact b1) _) (by omega)).mono ?_
      rintro e w3 ⟨A3,l3,c3,rfl,h3,_,hb3⟩
      rw [Hval.out] at h3
      have hnb:=below_new wp (.cells #[.int .u32 (x0:Int),.int .u32 (x1:Int)] 135)
      have hb03:=hnb.trans (hb3.mono hnb.size)
      have Hat3:=Lib.hid (Hat.out.below hb03)
      have Hb3:=Lib.hid (Hbw.out.trans (hb03.mono Hbw.out.size))
      have hl3:l3≤1000:=by
       rw [← h3.length,bts_length]
       have:=bln_pow (Nat.le_of_lt hWb)
       omega
      have H3:=Lib.hid h3
      clear h3 hb3 hnb hb03
      go_wp2_with fail
      refine (bmul_any _ _ _ (d^(d+2)*W^i) _ _ _ W _ Hat3.out H3.out (by omega) (by omega)).mono ?_
      rintro e w4 ⟨A4,l4,c4,rfl,h4,_,hb4⟩
      rw [Nat.mul_assoc,← Nat.pow_succ] at h4
      have Hb4:=Lib.hid (Hb3.out.trans (hb4.mono Hb3.out.size))
      have H4:=Lib.hid h4
      clear h4 hb4
      go_wp2
      go_roundw
      case rel=>exact ⟨i+1,_,_,_,Hlt.out,rfl,by go_num,H4.out,Hb4.out⟩
      case measure=>have:=Hlt.out;simp [intOf];omega
     ·obtain ⟨i2,hi2⟩:∃ i2,i=i2:=⟨_,rfl⟩
      have hie:i=d-1:=by omega
      have ti:¬ ((i:Int)<(d:Int)-1):=by omega
      have HX:=Lib.hid (show sepx f=d^(d+2)*W^i by
       unfold sepx
       rw [Hpl.out,show f.length=l by rw [H.out.length],HW.out,Int.natAbs_natCast,show l-1=d by have:=Hd.out;omega,hie])
      have HXb:=Lib.hid (Hwp.out i (by omega))
      have Hi11:=Lib.hid (show i≤11 by omega)
      obtain ⟨X,hX⟩:∃ X,X=d^(d+2)*W^i:=⟨_,rfl⟩
      rw [← hX] at HX HXb Hat
      clear hi hlt hie hi2 hX
      go_wp2
      go_loopw [8] (fun s8 wr=>∃ s:Nat,s≤364∧(∀ t,t<s→2^(2*t)<X)∧s8=.int .i64 (s:Int)∧Below wp.heap.size wp wr) (fun s8 _=>364-(intOf s8).toNat)
      case atStart=>exact ⟨0,Nat.zero_le _,fun t ht=>absurd ht (Nat.not_lt_zero t),rfl,Below.refl _ _⟩
      case round =>
       obtain ⟨s,hs,hmin,rfl,hbs⟩:=hrel
       obtain ⟨wq,rfl⟩:∃ wq:World,wq=wr:=⟨_,rfl⟩
       have hn1:=below_new wq (.cells #[.int .i64 1] 3)
       have Hbs:=Lib.hid (hbs.trans (hn1.mono hbs.size))
       have Hmin:=Lib.hid hmin
       have q1:(2:Int)*(s:Int)=((2*s:Nat):Int):=by omega
       have q2:IntKind.i64.wrap ((2*s:Nat):Int)=((2*s:Nat):Int):=IntWalk.i64_in _ (by omega)
       have q3:IntKind.i64.wrap ((s:Int)+1)=(s:Int)+1:=IntWalk.i64_in _ (by omega)
       obtain ⟨m,hm⟩:∃ m,m=2*s:=⟨_,rfl⟩
       have Hm:=Lib.hid hm
       rw [← hm] at q1 q2
       have hmb:m≤728:=by omega
       clear hbs hmin hm hn1
       go_wp2_with fail
       refine (up_any (I64At.one wq 1) m (by omega)).mono ?_
       rintro e w6 ⟨A6,l6,c6,rfl,h6,hb6⟩
       have Hb6:=Lib.hid (Hbs.out.trans (hb6.mono Hbs.out.size))
       have hl6:l6≤1000:=by
        rw [← h6.length,bts_length]
        have:=bln_pow (Nat.le_refl (2^m))
        omega
       have H6:=Lib.hid h6
       clear h6 hb6
       go_wp2_with fail
       refine (bcmp_any _ _ _ (2^m) _ _ _ X _ H6.out (Hat.out.below Hb6.out) (by omega) (by omega)).mono ?_
       rintro e w7 ⟨rfl,hw7⟩
       obtain rfl:=hw7
       by_cases hc:2^m<X
       ·have t9:ncmp (2^m) X=-1:=if_pos hc
        have Hc:=Lib.hid hc
        have Hs:=Lib.hid (show s+1≤364 by
         refine Classical.byContradiction fun hcn=>?_
         have h1:m=728:=by have:=Hm.out;omega
         have h2:=HXb.out
         have h3:2^(56+61*i)≤2^m:=Nat.pow_le_pow_right (by decide) (by have:=Hi11.out;omega)
         exact Nat.lt_irrefl _ (Nat.lt_of_lt_of_le hc (Nat.le_trans h2 h3)))
        rw [t9]
        clear hc hs
        go_wp2
        go_roundw
        case rel=>exact ⟨s+1,Hs.out,fun t ht=>by
         rcases (show t<s∨t=s by omega) with e | e
         ·exact Hmin.out t e
         ·rw [e,← Hm.out];exact Hc.out,by go_num,Hb6.out⟩
        case measure=>have:=Hs.out;simp [intOf];omega
       ·obtain ⟨v,hv⟩:∃ v,v=ncmp (2^m) X:=⟨_,rfl⟩
        have t9:¬ v<0:=by rw [hv];unfold ncmp;rw [if_neg hc];split<;>decide
        rw [← hv]
        have HV:=Lib.hid (show SepR f s from .inr ⟨by rw [Hpl.out];have:=Hd.out;omega,by rw [HX.out,← Hm.out];omega,fun t ht=>by rw [HX.out];exact Hmin.out t ht⟩)
        have Hs:=Lib.hid hs
        clear hc hv hs
        go_wp2
        go_ret
        exact ⟨⟨s,rfl,HV.out,by have:=Hs.out;omega⟩,Hbw.out.trans (Hb6.out.mono Hbw.out.size)⟩
end Go.Proofs.YtjmglmgokfcgoaaGreat
namespace Go.Proofs.YtjmglmgokfcgoaaGreat
open Go.RowKit
theorem prodf_nil:∀ (qs:List (List Int)) (P:List Int),plen P=0→plen (prodf P qs)=0
 | [],_,h=>h
 | q :: qs,P,h=>prodf_nil qs (rmul P q) (by rw [rmul_nil_l h];rfl)
theorem prodf_zer:∀ (qs:List (List Int)) (P:List Int),Zer qs→plen (prodf P qs)=0
 | [],_,⟨_,h,_⟩=>by cases h
 | q :: qs,P,⟨r,h,h0⟩=>by
   show plen (prodf (rmul P q) qs)=0
   rcases List.mem_cons.1 h with e | e
   ·exact prodf_nil qs _ (by rw [rmul_nil_r (by rw [← e];exact h0)];rfl)
   ·exact prodf_zer qs _ ⟨r,e,h0⟩
theorem tri_ok {qs:List (List Int)} (ht:Tri qs) (hz:¬ Zer qs):∀ q∈qs,plen q≠0∧plen q≤3:=fun q hq=>⟨fun e=>hz ⟨q,hq,e⟩,by have:=plen_le q;have:=(ht q hq).1;omega⟩
theorem prodf_ne {qs:List (List Int)} (ht:Tri qs) (hz:¬ Zer qs):plen (prodf [1] qs)≠0:=(prodf_mult (Pt.of 0) qs [1] (by decide) fun q h=>(tri_ok ht hz q h).1).1
section
variable {qs:List (List Int)} (ht:Tri qs) (hz:¬ Zer qs) (h4:qs.length≤4)
end
end Go.Proofs.YtjmglmgokfcgoaaGreat
namespace Go.Proofs.YtjmglmgokfcgoaaGreat
open Go Go.RowKit
set_option maxRecDepth 100000 in
set_option maxHeartbeats 8000000 in
theorem law_separation (A:Option Addr) (la ca:Nat) (qs:List (List Int)) (w:World) (h:TrAt w A la ca qs) (hlm:la≤9223372036854775807) :
 Calls Tryz.prog 3 #[.slice A la ca] w fun e w'=>e=.returned (.bool true)∧Below w.heap.size w w':=by
 have HT3:=Lib.hid h.three
 have Hll:=Lib.hid h.length
 have H0:=Lib.hid h
 clear h
 go_enter Tryz.func3,Tryz.ntmps3
 go_wp2_with fail
 refine (awake_any _).mono ?_
 rintro e w1 ⟨rfl,hb1⟩
 have H1:=Lib.hid (H0.out.below hb1)
 have Hb1:=Lib.hid hb1
 clear hb1 H0
 go_wp2_with fail
 refine (few_any H1.out 3 (by omega) hlm).mono ?_
 rintro e w2 ⟨rfl,hw2⟩
 obtain rfl:=hw2
 by_cases hfew:qs.length≤3∧∀ i,i<qs.length→Sma (qs.getD i [])
 ·have ef:fewb 3 qs=true:=by unfold fewb;exact @decide_eq_true _ (Classical.propDecidable _) hfew
  have ht:Tri qs:=fun q hq=>⟨(HT3.out q hq).1,by
   obtain ⟨i,hi,e⟩:=List.getElem_of_mem hq
   have:=hfew.2 i hi
   rw [List.getD_eq_getElem?_getD,List.getElem?_eq_getElem hi,e] at this
   exact this⟩
  have HT:=Lib.hid ht
  have h5:la≤5:=by rw [← Hll.out];have:=hfew.1;omega
  have H4:=Lib.hid hfew.1
  rw [ef]
  clear hfew ht ef
  go_wp2_with fail
  refine (factors_any H1.out h5 HT.out).mono ?_
  rintro e w3 ⟨⟨u,A3,l3,c3,fs,rfl,hu,hF,hf0,hf1⟩,hb3⟩
  have H3:=Lib.hid (H1.out.below hb3)
  have HF3:=Lib.hid hF
  have Hb3:=Lib.hid (Hb1.out.trans (hb3.mono Hb1.out.size))
  have HU:=Lib.hid hu
  have Hf1:=Lib.hid hf1
  clear hb3 hF hu hf0 hf1
  go_wp2_with fail
  refine (fprod_any H3.out h5 HT.out).mono ?_
  rintro e w4 ⟨⟨A4,l4,c4,rfl,h4⟩,hb4⟩
  have H4p:=Lib.hid h4
  have HF4:=Lib.hid (fs_below HF3.out hb4)
  have Hb4:=Lib.hid (Hb3.out.trans (hb4.mono Hb3.out.size))
  have hP:=prodf_bd qs [1] 1 HT.out one_abs
  have hPl:=prodf_len qs [1] 0 HT.out (by decide) (by decide)
  have h27:27^qs.length≤27^3:=Nat.pow_le_pow_right (by decide) H4.out
  have HP:=Lib.hid (show ∀ j,((prodf [1] qs).getD j 0).natAbs≤19683 from fun j=>by have:=hP j;omega)
  have HPt:=Lib.hid (prodf_trim qs [1] (by decide))
  have HPl:=Lib.hid (show (prodf [1] qs).length≤7 by have:=H4.out;omega)
  have hl4:l4≤7:=by rw [← h4.length];exact HPl.out
  have H64:=Lib.hid (show ∀ c∈prodf [1] qs,I64 c from fun c hc=>by
   obtain ⟨i,hi,e⟩:=List.getElem_of_mem hc
   have:=HP.out i
   rw [List.getD_eq_getElem?_getD,List.getElem?_eq_getElem hi,e] at this
   simp at this
   unfold I64
   omega)
  clear h4 hb4 hP hPl h27
  go_wp2_with fail
  refine (poly_any _ _ _ (prodf [1] qs) _ H4p.out H64.out (by omega)).mono ?_
  rintro e w5 ⟨A5,l5,c5,rfl,h5',hb5⟩
  rw [HPt.out] at h5'
  obtain ⟨F,hFd⟩:∃ F,F=prodf [1] qs:=⟨_,rfl⟩
  rw [← hFd] at h5'
  have HFd:=Lib.hid hFd
  have HF5:=Lib.hid h5'
  have HFs5:=Lib.hid (fs_below HF4.out hb5)
  have Hb5:=Lib.hid (Hb4.out.trans (hb5.mono Hb4.out.size))
  have hlF:l5≤7:=by
   have e1:=h5'.length
   have e2:=HPl.out
   rw [← hFd] at e2
   omega
  have FF:∀ j,(F.getD j 0).natAbs≤BB^1:=fun j=>by rw [hFd,Nat.pow_one,BB_eq];have:=HP.out j;omega
  have fF:FitP F:=fun j=>fit_bb (FF j) (by decide)
  have QF:QOK F:=⟨by have:=plen_le F;have:=HPl.out;rw [← hFd] at this;omega,fun j=>Nat.le_trans (pprim_abs F j) (Nat.le_trans (FF j) (bbk_le (by decide)))⟩
  have HQF:=Lib.hid QF
  clear hb5 h5' hFd FF QF
  go_wp2_with fail
  refine (sep_q ikN _ _ _ F _ HF5.out fF.smp (fun _=>HQF.out) (by omega)).mono ?_
  rintro e w6 ⟨⟨s,rfl,hs,hsb⟩,hb6⟩
  have HS:=Lib.hid hs
  have HFs6:=Lib.hid (fs_below HFs5.out hb6)
  have Hb6:=Lib.hid (Hb5.out.trans (hb6.mono Hb5.out.size))
  clear hs hb6
  by_cases hu0:u=0
  ·have bu:(u == 0)=true:=by rw [beq_iff_eq];exact hu0
   have hs0:s=0:=by
    have hz:=prodf_zer qs [1] (HU.out.1 hu0)
    rw [← HFd.out] at hz
    have h1:=HS.out
    rw [qpart_nil hz] at h1
    rcases h1 with h2 | h2
    ·exact h2.2
    ·exact absurd h2.1 (by decide)
   clear hu0
   subst hs0
   go_wp2
   go_ret
   exact ⟨rfl,Hb6.out⟩
  ·have bu:(u == 0)=false:=by rw [beq_eq_false_iff_ne];exact hu0
   have hz:¬ Zer qs:=fun hz=>hu0 (HU.out.2 hz)
   have hfs:=Hf1.out hu0
   have FL:=Lib.hid (show l3≤6 by
    have e1:=HF3.out.length
    have e2:=facs_len qs []
    have e3:=H4.out
    simp only [List.length_nil] at e2
    rw [hfs] at e1;omega)
   have HS9:=Lib.hid (show ∀ x∈fs,Sm9 x.1 from fun x hx=>by
    rw [hfs] at hx
    exact ⟨by have:=(facs_fsm HT.out x hx).len;exact this,facs9 HT.out x hx⟩)
   have HE:=Lib.hid (show prodf [1] (fs.map (·.1))=qpart F by
    rw [hfs,HFd.out]
    have h0:=HQF.out
    rw [HFd.out] at h0
    exact part14_eq (tri_ok HT.out hz) h0 (prodf_ne HT.out hz))
   clear hu0 hz hfs
   go_wp2_with fail
   refine (part14_any HFs6.out FL.out HS9.out).mono ?_
   rintro e w7 ⟨A7,l7,c7,rfl,h7,hb7⟩
   have HS9':=Lib.hid (show ∀ p∈fs.map (·.1),Sm9 p from fun p hp=>by
    obtain ⟨x,hx,rfl⟩:=List.mem_map.1 hp
    exact HS9.out x hx)
   have hml:(fs.map (·.1)).length≤6:=by rw [List.length_map,HF3.out.length];exact FL.out
   have hl7:l7≤13:=by rw [← h7.length];have:=prod9_len _ [1] 0 HS9'.out (by decide) (by decide);omega
   have hT7:Tiny 387420489 (prodf [1] (fs.map (·.1))):=fun j=>by
    have h1:=prod9_bd _ [1] 1 HS9'.out one_abs j
    have h2:27^(fs.map (·.1)).length≤27^6:=Nat.pow_le_pow_right (by decide) hml
    omega
   have ht7:ptrim (prodf [1] (fs.map (·.1)))=prodf [1] (fs.map (·.1)):=prodf_trim _ [1] (by decide)
   have H7:=Lib.hid h7
   have T7:=Lib.hid hT7
   have t7:=Lib.hid ht7
   have Hb7:=Lib.hid (Hb6.out.trans (hb7.mono Hb6.out.size))
   clear h7 hb7 hml hT7 ht7
   go_wp2_with fail
   refine (sep14_any H7.out hl7 t7.out T7.out).mono ?_
   rintro e w8 ⟨⟨s',rfl,hs',_⟩,hb8⟩
   have hse:s'=s:=by
    have h1:=hs'.q
    rw [HE.out] at h1
    exact h1.uniq HS.out
   subst hse
   have Hb8:=Lib.hid (Hb7.out.trans (hb8.mono Hb7.out.size))
   clear hs' hb8
   have hself:((s':Int) == (s':Int))=true:=by simp
   go_wp2
   go_ret
   exact ⟨by simp,Hb8.out⟩
 ·have ef:fewb 3 qs=false:=by unfold fewb;exact @decide_eq_false _ (Classical.propDecidable _) hfew
  rw [ef]
  clear hfew ef
  go_wp2_with fail
  refine (awake_any _).mono ?_
  rintro e w2 ⟨rfl,hb2⟩
  have Hb2:=Lib.hid (Hb1.out.trans (hb2.mono Hb1.out.size))
  clear hb2
  go_wp2
  go_ret
  exact ⟨rfl,Hb2.out⟩
end Go.Proofs.YtjmglmgokfcgoaaGreat
namespace Go.Proofs.YtjmglmgokfcgoaaGreat
open Go.ChangeShapes Go.WideShapes Go.ChangeAt Go.RowKit
set_option maxRecDepth 100000 in
theorem separation_lifted (os:Os) (started:os.Started) (H:Type) (enc:TypeId×Value→H) :
 ReturnsInHanded {} Tryz.checked os 3 .any (Rows.rootboundSeparationSpec.pre6 enc Tryz.prog Tryz.f3 Rows.rootboundSeparationRow.domain false) (Rows.rootboundSeparationSpec.post enc Tryz.prog Tryz.f3 false true false false):=by
 refine returnsInHanded_of_change (C:=Tryz.checked) Tryz.own started (by kernel_rfl) Tryz.func3
  (ChangeSpec.witness6 (enc:=enc) (C:=Tryz.checked) false ⟨#[],#[.slice none 0 0],[]⟩ 8 (by kernel_rfl) (by kernel_rfl) (by kernel_rfl) (by kernel_rfl)) ?_
 intro W base args ds gs before hval0 hW hcnd _
 exact lifted_trs _ Tryz.f3 Tryz.params3 rfl enc _ rfl (fun _=>rfl) (fun A len cap qs w h hl=>law_separation A len cap qs w h hl) W args ds gs before hval0 hW
theorem rootboundSeparation_holds:Rows.RootboundSeparationSaid :=
 OpenClaim.holds_of_wide 3 Tryz.f3 rfl rfl rfl rfl rfl rfl rfl ⟨rfl,rfl,rfl,rfl,rfl⟩ rfl rfl rfl rfl rfl (by kernel_rfl) Tryz.func3 (by kernel_rfl)
  (of_decide_eq_true (by kernel_rfl)) (by unfold Func.isWrapper;first | (rw [if_pos (by decide +kernel)];kernel_rfl) | (rw [if_neg (by decide +kernel)];exact ⟨rfl,rfl⟩))
  (fun os started H enc _=>separation_lifted os started H enc)
#print axioms rootboundSeparation_holds
end Go.Proofs.YtjmglmgokfcgoaaGreat
