/- A row behind two rows of the extended sequence is alone up to a factor. Plain: no program. -/
import Derived.Test.YtjmglmgokfcgoaaXrw
namespace Go.Proofs.Ytjmglmgokfcgoaa
theorem ev_const_of {p:List Int} (h:plen p≤1) (x:Int):ev p x=p.getD 0 0:=by
 rw [ev_congr (p:=p) (q:=[p.getD 0 0]) (fun k=>?_) x,ev_const]
 match k with
 | 0=>simp
 | k+1=>rw [getD_ge_plen p (k+1) (by omega)];simp
theorem zero_of_ev {p:List Int} (h:∀ x,ev p x=0):plen p=0:=by
 have:plen p≤0:=plen_le_of fun k _=>(ev_inj (q:=[]) (fun x=>by rw [h,ev_nil]) k).trans (by simp)
 omega
theorem ev_zero_of {p:List Int} (h:plen p=0) (x:Int):ev p x=0:=by
 rw [ev_congr (p:=p) (q:=[]) (fun j=>by rw [getD_ge_plen p j (by omega)];simp) x,ev_nil]
theorem plen_mul_le2 {p q:List Int} {n:Nat} (h:plen p=0∨plen q=0∨plen p+plen q≤n+1):plen (polymul p q)≤n:=by
 by_cases p0:plen p=0
 ·have:plen (polymul p q)=0:=zero_of_ev fun x=>by rw [ev_mul,ev_zero_of p0,Int.zero_mul]
  omega
 ·by_cases q0:plen q=0
  ·have:plen (polymul p q)=0:=zero_of_ev fun x=>by rw [ev_mul,ev_zero_of q0,Int.mul_zero]
   omega
  ·have:=(plen_mul (f:=p) (g:=q) (by omega) (by omega)).1
   omega
theorem against {f g b ub vb r u v:List Int} (f0:plen f≠0) (eb:∀ x,ev b x=ev ub x*ev f x+ev vb x*ev g x) (er:∀ x,ev r x=ev u x*ev f x+ev v x*ev g x)
  (l1:plen r=0∨plen vb=0∨plen r+plen vb≤plen f+1) (l2:plen b=0∨plen v=0∨plen b+plen v≤plen f+1) :
  ∃ w:Int,∀ x,ev u x*ev vb x-ev v x*ev ub x=w:=by
 obtain ⟨p,hp⟩:∃ p,p=psub (polymul u vb) (polymul v ub):=⟨_,rfl⟩
 have h1:∀ x,ev (polymul p f) x=ev (psub (polymul r vb) (polymul b v)) x:=fun x=>by
  rw [ev_mul,hp,ev_psub,ev_psub,ev_mul,ev_mul,ev_mul,ev_mul,er,eb,Int.sub_mul,Int.add_mul,Int.add_mul]
  have e1:ev u x*ev vb x*ev f x=ev u x*ev f x*ev vb x:=by ac_rfl
  have e2:ev v x*ev ub x*ev f x=ev ub x*ev f x*ev v x:=by ac_rfl
  have e3:ev v x*ev g x*ev vb x=ev vb x*ev g x*ev v x:=by ac_rfl
  rw [e1,e2,e3]
  omega
 have h2:plen (psub (polymul r vb) (polymul b v))≤plen f:=plen_le_of fun k hk=>by
  rw [psub_get,getD_ge_plen _ k (Nat.le_trans (plen_mul_le2 l1) hk),getD_ge_plen _ k (Nat.le_trans (plen_mul_le2 l2) hk)];rfl
 have h3:plen (polymul p f)≤plen f:=by
  have:=congrArg List.length (ptrim_ext (ev_inj h1))
  rw [ptrim_length,ptrim_length] at this
  omega
 have h4:plen p≤1:=by
  rcases Nat.lt_or_ge 1 (plen p) with h | h
  ·have:=(plen_mul (f:=p) (g:=f) (by omega) (by omega)).1
   omega
  ·exact h
 exact ⟨p.getD 0 0,fun x=>by rw [← ev_const_of h4 x,hp,ev_psub,ev_mul,ev_mul]⟩
theorem against_zero {f g ua va b ub vb r u v:List Int} {κ:Int} (hκ:κ≠0) (eb:∀ x,ev b x=ev ub x*ev f x+ev vb x*ev g x) (er:∀ x,ev r x=ev u x*ev f x+ev v x*ev g x)
  (hk:∀ x,ev ua x*ev vb x-ev va x*ev ub x=κ) (h0:∀ x,ev u x*ev vb x-ev v x*ev ub x=0) (hl:plen r<plen b):plen u=0∧plen v=0:=by
 obtain ⟨s,hs⟩:∃ s,s=psub (polymul ua v) (polymul va u):=⟨_,rfl⟩
 -- κ u = ub s, κ v = vb s
 have hu:∀ x,κ*ev u x=ev ub x*ev s x:=fun x=>by
  have e0:=h0 x
  rw [← hk x,hs,ev_psub,ev_mul,ev_mul,Int.sub_mul,Int.mul_sub]
  have e1:ev ua x*ev vb x*ev u x=ev ua x*(ev u x*ev vb x):=by ac_rfl
  have e2:ev u x*ev vb x=ev v x*ev ub x:=by omega
  rw [e1,e2]
  have e3:ev ua x*(ev v x*ev ub x)=ev ub x*(ev ua x*ev v x):=by ac_rfl
  have e4:ev va x*ev ub x*ev u x=ev ub x*(ev va x*ev u x):=by ac_rfl
  rw [e3,e4]
 have hv:∀ x,κ*ev v x=ev vb x*ev s x:=fun x=>by
  have e0:=h0 x
  rw [← hk x,hs,ev_psub,ev_mul,ev_mul,Int.sub_mul,Int.mul_sub]
  have e1:ev va x*ev ub x*ev v x=ev va x*(ev v x*ev ub x):=by ac_rfl
  have e2:ev v x*ev ub x=ev u x*ev vb x:=by omega
  rw [e1,e2]
  have e3:ev va x*(ev u x*ev vb x)=ev vb x*(ev va x*ev u x):=by ac_rfl
  have e4:ev ua x*ev vb x*ev v x=ev vb x*(ev ua x*ev v x):=by ac_rfl
  rw [e3,e4]
 have hr:∀ x,κ*ev r x=ev b x*ev s x:=fun x=>by
  rw [er,eb,Int.mul_add,Int.add_mul]
  have e1:κ*(ev u x*ev f x)=κ*ev u x*ev f x:=(Int.mul_assoc _ _ _).symm
  have e2:κ*(ev v x*ev g x)=κ*ev v x*ev g x:=(Int.mul_assoc _ _ _).symm
  rw [e1,e2,hu,hv]
  congr 1<;>ac_rfl
 have s0:plen s=0:=by
  refine Classical.byContradiction fun s0=>?_
  have h1:=(plen_mul (f:=b) (g:=s) (by omega) (by omega)).1
  have h2:plen (psc κ r)=plen (polymul b s):=by
   have:=congrArg List.length (ptrim_ext (ev_inj (p:=psc κ r) (q:=polymul b s) (fun x=>by rw [ev_psc,ev_mul,hr])))
   rwa [ptrim_length,ptrim_length] at this
  have h3:plen (psc κ r)≤plen r:=plen_le_of fun k hk=>by rw [psc_get,getD_ge_plen r k hk,Int.mul_zero]
  omega
 have z:∀ {p q:List Int},(∀ x,κ*ev p x=ev q x*ev s x)→plen p=0:=fun {p q} h=>zero_of_ev fun x=>by
  have h1:=h x
  rw [ev_zero_of s0,Int.mul_zero] at h1
  exact (Int.mul_eq_zero.1 h1).resolve_left hκ
 exact ⟨z hu,z hv⟩
theorem row_unique {f g ua va b ub vb r u v R U V:List Int} {κ:Int} (hκ:κ≠0) (f0:plen f≠0) (eb:∀ x,ev b x=ev ub x*ev f x+ev vb x*ev g x)
  (er:∀ x,ev r x=ev u x*ev f x+ev v x*ev g x) (eR:∀ x,ev R x=ev U x*ev f x+ev V x*ev g x)
  (hk:∀ x,ev ua x*ev vb x-ev va x*ev ub x=κ) (lr:plen r<plen b) (lR:plen R<plen b) (lb:plen b+plen vb≤plen f+1) (lv:plen b+plen v≤plen f+1) (lV:plen b+plen V≤plen f+1)
  (n0:plen u≠0∨plen v≠0) (N0:plen U≠0∨plen V≠0) :
  ∃ c d:Int,c≠0∧d≠0∧(∀ k,c*r.getD k 0=d*R.getD k 0)∧(∀ k,c*u.getD k 0=d*U.getD k 0)∧∀ k,c*v.getD k 0=d*V.getD k 0:=by
 obtain ⟨w,hw⟩:=against f0 eb er (.inr (.inr (by omega))) (.inr (.inr lv))
 obtain ⟨W,hW⟩:=against f0 eb eR (.inr (.inr (by omega))) (.inr (.inr lV))
 have w0:w≠0:=fun h=>by
  obtain ⟨h1,h2⟩:=against_zero hκ eb er hk (fun x=>by rw [hw,h]) lr
  omega
 have W0:W≠0:=fun h=>by
  obtain ⟨h1,h2⟩:=against_zero hκ eb eR hk (fun x=>by rw [hW,h]) lR
  omega
 obtain ⟨p,hp⟩:∃ p,p=psub (psc W r) (psc w R):=⟨_,rfl⟩
 obtain ⟨s,hs⟩:∃ s,s=psub (psc W u) (psc w U):=⟨_,rfl⟩
 obtain ⟨t,ht⟩:∃ t,t=psub (psc W v) (psc w V):=⟨_,rfl⟩
 have ep:∀ x,ev p x=ev s x*ev f x+ev t x*ev g x:=fun x=>by
  rw [hp,hs,ht,ev_psub,ev_psub,ev_psub,ev_psc,ev_psc,ev_psc,ev_psc,ev_psc,ev_psc,er,eR,Int.sub_mul,Int.sub_mul,Int.mul_add,Int.mul_add,Int.mul_assoc,Int.mul_assoc,Int.mul_assoc,Int.mul_assoc]
  omega
 have ez:∀ x,ev s x*ev vb x-ev t x*ev ub x=0:=fun x=>by
  have h1:=hw x
  have h2:=hW x
  rw [hs,ht,ev_psub,ev_psub,ev_psc,ev_psc,ev_psc,ev_psc,Int.sub_mul,Int.sub_mul,Int.mul_assoc,Int.mul_assoc,Int.mul_assoc,Int.mul_assoc]
  have h3:W*(ev u x*ev vb x-ev v x*ev ub x)=w*(ev U x*ev vb x-ev V x*ev ub x):=by rw [h1,h2,Int.mul_comm]
  rw [Int.mul_sub,Int.mul_sub] at h3
  omega
 have lp:plen p<plen b:=by
  have:plen p≤plen b-1:=plen_le_of fun k hk=>by rw [hp,psub_get,psc_get,psc_get,getD_ge_plen r k (by omega),getD_ge_plen R k (by omega)];simp
  omega
 obtain ⟨s0,t0⟩:=against_zero hκ eb ep hk ez lp
 have p0:plen p=0:=zero_of_ev fun x=>by rw [ep,ev_zero_of s0,ev_zero_of t0];simp
 refine ⟨W,w,W0,w0,fun k=>?_,fun k=>?_,fun k=>?_⟩
 ·have:=getD_ge_plen p k (by omega)
  rw [hp,psub_get,psc_get,psc_get] at this;omega
 ·have:=getD_ge_plen s k (by omega)
  rw [hs,psub_get,psc_get,psc_get] at this;omega
 ·have:=getD_ge_plen t k (by omega)
  rw [ht,psub_get,psc_get,psc_get] at this;omega
end Go.Proofs.Ytjmglmgokfcgoaa
