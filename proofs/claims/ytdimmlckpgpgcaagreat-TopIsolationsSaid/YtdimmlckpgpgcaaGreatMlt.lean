/- Rational roots: linear factors, products, derivatives; the quotient by the common divisor with the derivative keeps each root. Plain: no program. -/
import Derived.Test.YtdimmlckpgpgcaaGreatGcx
import Derived.Test.YtdimmlckpgpgcaaGreatDer
namespace Go.Proofs.YtdimmlckpgpgcaaGreat
def dv:List Int->Int->Int
 | [],_=>0
 | _ :: t,x=>ev t x+x*dv t x
theorem afP (x h:Int):∀ p,∃ A,ev p (x+h)=ev p x+h*dv p x+h*h*A
 | []=>⟨0,by rw[abt,abt];show (0:Int)=0+h*0+h*h*0;simp⟩
 | a :: t=>by
   obtain ⟨A,hA⟩:=afP x h t
   refine ⟨dv t x+x*A+h*A,?_⟩
   rw[aeE,aeE,hA]
   show a+(x+h)*(ev t x+h*dv t x+h*h*A)=a+x*ev t x+h*(ev t x+x*dv t x)+h*h*(dv t x+x*A+h*A)
   grind
theorem afQ {k d:Int} (h:k∣d) (hk:(d.natAbs:Int)<k):d=0:=by
 have h1:k.natAbs∣d.natAbs:=Int.natAbs_dvd_natAbs.2 h
 have h2:=Nat.eq_zero_of_dvd_of_lt h1 (by omega)
 omega
theorem akR {d:Int} (h:∀ k:Int,0<k->k∣d):d=0:=by
 have h1:=h ((d.natAbs:Int)+1) (by omega)
 exact afQ h1 (by omega)
theorem aoB {k a0 a1 B b0 b1 C p1 A:Int} (hk:k≠0) (e:a0*b0+k*p1+k*k*A=(a0+k*a1+k*k*B)*(b0+k*b1+k*k*C)) :
  p1-(a1*b0+a0*b1)=k*((a0*C+a1*b1+B*b0+k*(a1*C+B*b1)+k*k*(B*C))-A):=by
 refine Int.eq_of_mul_eq_mul_left hk ?_
 have e2:(a0+k*a1+k*k*B)*(b0+k*b1+k*k*C)=a0*b0+k*(a1*b0+a0*b1)+k*k*(a0*C+a1*b1+B*b0)+k*k*k*(a1*C+B*b1)+k*k*k*k*(B*C):=by grind
 rw[e2] at e
 have e3:k*p1=k*(a1*b0+a0*b1)+k*k*(a0*C+a1*b1+B*b0)+k*k*k*(a1*C+B*b1)+k*k*k*k*(B*C)-k*k*A:=by omega
 rw[Int.mul_sub,e3]
 grind
theorem ano {p a b:List Int} (h:∀ x,ev p x=ev a x*ev b x) (x:Int):dv p x=dv a x*ev b x+ev a x*dv b x:=by
 have key:dv p x-(dv a x*ev b x+ev a x*dv b x)=0:=akR fun k hk=>by
  obtain ⟨A,hA⟩:=afP x k p
  obtain ⟨B,hB⟩:=afP x k a
  obtain ⟨C,hC⟩:=afP x k b
  have e:=h (x+k)
  rw[hA,hB,hC,h x] at e
  exact ⟨_,aoB (by omega) e⟩
 omega
theorem afr (p:List Int) (x:Int):ev (aau p) x=dv p x:=by
 have key:∀ t:List Int,∀ k:Int,evn (fun i=>t.getD i 0*((i:Int)+k)) x t.length=k*ev t x+x*dv t x:=by
  intro t
  induction t with
  | nil=>intro k;rw[abt];show (0:Int)=k*0+x*0;omega
  | cons a t ih =>
    intro k
    have h0:∀ (F:Nat->Int) n,evn F x (n+1)=F 0+x*evn (fun i=>F (i+1)) x n:=by
     intro F n
     induction n with
     | zero=>simp[evn]
     | succ n ih=>rw[evn,ih,evn,Int.pow_succ];grind
    rw[List.length_cons,h0,aeE]
    have h1:=ih (k+1)
    have h2:evn (fun i=>(a :: t).getD (i+1) 0*(((i+1:Nat):Int)+k)) x t.length=evn (fun i=>t.getD i 0*((i:Int)+(k+1))) x t.length:=abR x (fun i=>by
     show t.getD i 0*(((i+1:Nat):Int)+k)=_
     rw[show ((i+1:Nat):Int)+k=(i:Int)+(k+1) by omega]) _
    rw[h2,h1]
    show a*((0:Nat)+k)+x*((k+1)*ev t x+x*dv t x)=k*(a+x*ev t x)+x*(ev t x+x*dv t x)
    have:((0:Nat):Int)=0:=rfl
    rw[this];grind
 match p with
 | []=>rfl
 | a :: t =>
   have h1:=key t 1
   have h2:ev (aau (a :: t)) x=evn (fun i=>t.getD i 0*((i:Int)+1)) x t.length:=by
    rw[<- afh (aau (a :: t)) x (n:=t.length) (by rw[abd];have:=aas (a :: t);simp only[List.length_cons] at this;omega)]
    refine abR x (fun i=>?_) _
    by_cases hi:i<aac (a :: t)-1
    ·rw[ai0 _ hi];rfl
    ·rw[aaC (aau (a :: t)) (by rw[abd];omega)]
     have:(a :: t).getD (i+1) 0=0:=aah _ _ (by omega)
     have h3:t.getD i 0=0:=by simpa using this
     rw[h3,Int.zero_mul]
   rw[h2,h1]
   show 1*ev t x+x*dv t x=ev t x+x*dv t x
   omega
section
variable {z q:Int}
def hom (z q:Int) (f:List Int) (n:Nat):Int:=evn (fun j=>f.getD j 0*q^(n-j)) z (n+1)
def scl (q:Int) (f:List Int) (n:Nat):List Int:=(List.range (n+1)).map fun j=>f.getD j 0*q^(n-j)
theorem aqD (q:Int) (f:List Int) (n j:Nat) (hj:j<n+1):(scl q f n).getD j 0=f.getD j 0*q^(n-j):=by simp[scl,List.getD_eq_getElem?_getD,hj]
theorem aiC (q:Int) (f:List Int) (n:Nat):(scl q f n).length=n+1:=by simp[scl]
theorem auY (f:List Int) (n:Nat):ev (scl q f n) z=hom z q f n:=by
 unfold hom
 rw[<- afh (scl q f n) z (n:=n+1) (by rw[aiC];exact Nat.le_refl _)]
 suffices h:∀ k,k<=n+1->evn (fun i=>(scl q f n).getD i 0) z k=evn (fun j=>f.getD j 0*q^(n-j)) z k from h _ (Nat.le_refl _)
 intro k
 induction k with
 | zero=>intro _;rfl
 | succ k ih =>
   intro hk
   rw[evn,evn,ih (by omega),aqD q f n k (by omega)]
theorem awQ (f:List Int) (n:Nat) (hf:aac f<=n+1) (x:Int):ev (scl q f n) (q*x)=q^n*ev f x:=by
 have e:ev f x=evn (fun i=>f.getD i 0) x (n+1):=by
  rw[<- acS f x,<- afh (aaf f) x (n:=n+1) (by rw[aae];exact hf)]
  exact abR x (fun i=>aam f i) _
 rw[e,<- afh (scl q f n) (q*x) (n:=n+1) (by rw[aiC];exact Nat.le_refl _)]
 suffices h:∀ k,k<=n+1->evn (fun i=>(scl q f n).getD i 0) (q*x) k=q^n*evn (fun i=>f.getD i 0) x k from h _ (Nat.le_refl _)
 intro k
 induction k with
 | zero=>intro _;simp[evn]
 | succ k ih =>
   intro hk
   rw[evn,evn,ih (by omega),aqD q f n k (by omega),Int.mul_pow,Int.mul_add]
   have:q^(n-k)*q^k=q^n:=by rw[<- Int.pow_add];congr 1;omega
   rw[<- this];grind
theorem ajJ (f:List Int) (n:Nat) (hf:aac f<=n+1):∃ r:List Int,∀ x,q^n*ev f x-hom z q f n=(q*x-z)*ev r x:=by
 refine ⟨(sd z (scl q f n)).1.mapIdx (fun j c=>c*q^j),fun x=>?_⟩
 have h1:=arZ z (q*x) (scl q f n)
 rw[awQ f n hf,auY] at h1
 have h2:∀ (r:List Int),ev (r.mapIdx (fun j c=>c*q^j)) x=ev r (q*x):=by
  intro r
  rw[<- afh (r.mapIdx (fun j c=>c*q^j)) x (n:=r.length) (by simp),<- afh r (q*x) (n:=r.length) (Nat.le_refl _)]
  suffices h:∀ k,k<=r.length->evn (fun i=>(r.mapIdx (fun j c=>c*q^j)).getD i 0) x k=evn (fun i=>r.getD i 0) (q*x) k from h _ (Nat.le_refl _)
  intro k
  induction k with
  | zero=>intro _;rfl
  | succ k ih =>
    intro hk
    have hg:(r.mapIdx (fun j c=>c*q^j)).getD k 0=r.getD k 0*q^k:=by
     simp[List.getD_eq_getElem?_getD,List.getElem?_eq_getElem (show k<r.length by omega)]
    rw[evn,evn,ih (by omega),hg,Int.mul_pow];grind
 rw[h2,h1];omega
theorem akS (hq:0<q) {d:Int} (h:∀ x:Int,(q*x-z)∣d):d=0:=by
 have h1:=h ((d.natAbs:Int)+(z.natAbs:Int)+1)
 refine afQ h1 ?_
 have h2:1*((d.natAbs:Int)+(z.natAbs:Int)+1)<=q*((d.natAbs:Int)+(z.natAbs:Int)+1):=Int.mul_le_mul_of_nonneg_right (by omega) (by omega)
 omega
theorem auZ (hq:0<q) {p a b:List Int} {n m:Nat} (ha:aac a<=n+1) (hb:aac b<=m+1) (hp:aac p<=n+m+1) (h:∀ x,ev p x=ev a x*ev b x):hom z q p (n+m)=hom z q a n*hom z q b m:=by
 have key:hom z q p (n+m)-hom z q a n*hom z q b m=0:=akS (z:=z) hq fun x=>by
  obtain ⟨r1,h1⟩:=ajJ (z:=z) (q:=q) p (n+m) hp
  obtain ⟨r2,h2⟩:=ajJ (z:=z) (q:=q) a n ha
  obtain ⟨r3,h3⟩:=ajJ (z:=z) (q:=q) b m hb
  have e1:=h1 x
  have e2:=h2 x
  have e3:=h3 x
  have e4:=h x
  refine ⟨hom z q a n*ev r3 x+ev r2 x*hom z q b m+(q*x-z)*(ev r2 x*ev r3 x)-ev r1 x,?_⟩
  have e5:q^(n+m)*ev p x=(q^n*ev a x)*(q^m*ev b x):=by rw[e4,Int.pow_add];grind
  have e6:q^n*ev a x=hom z q a n+(q*x-z)*ev r2 x:=by omega
  have e7:q^m*ev b x=hom z q b m+(q*x-z)*ev r3 x:=by omega
  rw[e6,e7] at e5
  rw[e5] at e1
  grind
 omega
theorem atg (f:List Int) (n:Nat) (hf:aac f<=n+1) (d:Nat):hom z q f (n+d)=q^d*hom z q f n:=by
 unfold hom
 have hsplit:∀ k,n+1<=k->k<=n+d+1->evn (fun j=>f.getD j 0*q^(n+d-j)) z k=evn (fun j=>f.getD j 0*q^(n+d-j)) z (n+1):=by
  intro k hk
  induction k with
  | zero=>omega
  | succ k ih =>
    intro hk2
    rcases Nat.lt_or_ge k (n+1) with h | h
    ·have:k=n:=by omega
     subst this;rfl
    ·rw[evn,ih h (by omega)]
     show _+f.getD k 0*q^(n+d-k)*z^k=_
     rw[aah f k (by omega)]
     simp
 rw[hsplit _ (by omega) (Nat.le_refl _)]
 suffices h:∀ k,k<=n+1->evn (fun j=>f.getD j 0*q^(n+d-j)) z k=q^d*evn (fun j=>f.getD j 0*q^(n-j)) z k from h _ (Nat.le_refl _)
 intro k
 induction k with
 | zero=>intro _;simp[evn]
 | succ k ih =>
   intro hk
   rw[evn,evn,ih (by omega),Int.mul_add]
   show _+f.getD k 0*q^(n+d-k)*z^k=_+q^d*(f.getD k 0*q^(n-k)*z^k)
   rw[show n+d-k=d+(n-k) by omega,Int.pow_add]
   grind
def Rt (z q:Int) (f:List Int):Prop:=hom z q f (aac f)=0
theorem Rt.of (hq:0<q) {f:List Int} {n:Nat} (hf:aac f<=n+1):Rt z q f↔hom z q f n=0:=by
 have h1:=atg (z:=z) (q:=q) f (aac f) (by omega) (n+1)
 have h2:=atg (z:=z) (q:=q) f n hf (aac f+1)
 rw[show aac f+(n+1)=n+(aac f+1) by omega,h2] at h1
 have p1:q^(aac f+1)≠0:=ahx (by omega) _
 have p2:q^(n+1)≠0:=ahx (by omega) _
 unfold Rt
 constructor
 ·intro h
  rw[h,Int.mul_zero] at h1
  exact (Int.mul_eq_zero.1 h1).resolve_left p1
 ·intro h
  rw[h,Int.mul_zero] at h1
  exact (Int.mul_eq_zero.1 h1.symm).resolve_left p2
theorem Rt.mul (hq:0<q) {p a b:List Int} (h:∀ x,ev p x=ev a x*ev b x):Rt z q p↔Rt z q a∨Rt z q b:=by
 have hp:aac p<=aac a+aac b+1:=by
  have h1:aaf p=aaf (aag a b):=aes (abJ fun x=>by rw[aat,h])
  have h2:=congrArg List.length h1
  rw[aae,aae] at h2
  by_cases ha:aac a=0
  ·rw[acr ha] at h2;omega
  by_cases hb:aac b=0
  ·rw[acZ hb] at h2;omega
  have:=(abX (f:=a) (g:=b) (by omega) (by omega)).1
  omega
 rw[Rt.of hq (n:=aac a+aac b) hp,Rt.of hq (f:=a) (n:=aac a) (by omega),Rt.of hq (f:=b) (n:=aac b) (by omega),auZ hq (by omega) (by omega) hp h]
 exact Int.mul_eq_zero
theorem Rt.div (hq:0<q) {f:List Int} (h:Rt z q f):∃ (c:Int) (r:List Int),c≠0/\∀ x,c*ev f x=(q*x-z)*ev r x:=by
 obtain ⟨r,hr⟩:=ajJ (z:=z) (q:=q) f (aac f) (by omega)
 refine ⟨q^aac f,r,ahx (by omega) _,fun x=>?_⟩
 have:=hr x
 rw[show hom z q f (aac f)=0 from h] at this
 omega
end
end Go.Proofs.YtdimmlckpgpgcaaGreat
