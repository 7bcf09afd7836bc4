/- The greatest common divisor as the reference computes it is that of the program. Plain: no program. -/
import Derived.Test.YtjmglmgokfcgoaaGcx
import Derived.Test.YtjmglmgokfcgoaaBto
namespace Go.Proofs.Ytjmglmgokfcgoaa
theorem plen_scale {p q:List Int} {c d:Int} (hc:c≠0) (hd:d≠0) (h:∀ k,c*p.getD k 0=d*q.getD k 0):plen p=plen q:=by
 have h1:plen p≤plen q:=plen_le_of fun k hk=>by
  have:=h k
  rw [getD_ge_plen q k hk,Int.mul_zero] at this
  exact (Int.mul_eq_zero.1 this).resolve_left hc
 have h2:plen q≤plen p:=plen_le_of fun k hk=>by
  have:=h k
  rw [getD_ge_plen p k hk,Int.mul_zero] at this
  exact (Int.mul_eq_zero.1 this.symm).resolve_left hd
 omega
theorem pprim_assoc {p q:List Int} (hp:plen p≠0) (hq:plen q≠0) (h1:Dvq p q) (h2:Dvq q p):pprim p=pprim q :=
 eq_of_trim (gp_trim p) (gp_trim q) (dvq_eq (gp_lead hp) (gp_lead hq) (by rw [gp_cont hp,gp_cont hq]) ((dvq_prim_l hp).trans (h1.trans (dvq_prim_r hq))) ((dvq_prim_l hq).trans (h2.trans (dvq_prim_r hp))))
theorem psr_scale {f f' g g':List Int} {s t:Int} (hs:s≠0) (ht:t≠0) (hf:∀ k,f.getD k 0=s*f'.getD k 0) (hg:∀ k,g.getD k 0=t*g'.getD k 0) (h1:1≤plen g):∃ c:Int,c≠0∧∀ k,(psr f g).getD k 0=c*(psr f' g').getD k 0:=by
 have lf:plen f=plen f':=plen_scale (c:=1) (d:=s) (by decide) hs (fun k=>by rw [Int.one_mul];exact hf k)
 have lg:plen g=plen g':=plen_scale (c:=1) (d:=t) (by decide) ht (fun k=>by rw [Int.one_mul];exact hg k)
 have ld:plead g=t*plead g':=by unfold plead;rw [← lg];exact hg _
 obtain ⟨N,hN⟩:∃ N,N=plen f-(plen g-1):=⟨_,rfl⟩
 have i1:=ps_ev f g h1
 have i2:=ps_ev f' g' (by omega)
 rw [← hN,ld] at i1
 rw [← lf,← lg,← hN] at i2
 have ef:∀ x,ev f x=s*ev f' x:=fun x=>by rw [← ev_psc];exact ev_congr (fun k=>by rw [psc_get,hf]) x
 have eg:∀ x,ev g x=t*ev g' x:=fun x=>by rw [← ev_psc];exact ev_congr (fun k=>by rw [psc_get,hg]) x
 have key:∀ x,ev (psc t (psq f g)) x*ev g x+ev (psc t (psr f g)) x=ev (psc (s*t^N) (psq f' g')) x*ev g x+ev (psc (s*t^N*t) (psr f' g')) x:=fun x=>by
  have j1:=i1 x
  have j2:=i2 x
  rw [ev_psc,ev_psc,ev_psc,ev_psc]
  rw [ef,Int.mul_pow] at j1
  have e1:t*ev (psq f g) x*ev g x+t*ev (psr f g) x=t*(ev (psq f g) x*ev g x+ev (psr f g) x):=by rw [Int.mul_add,Int.mul_assoc]
  rw [e1,← j1]
  have e2:t*(t^N*plead g'^N*(s*ev f' x))=s*t^N*t*(plead g'^N*ev f' x):=by ac_rfl
  rw [e2,j2,Int.mul_add,eg]
  congr 1
  ac_rfl
 have hr1:plen (psc t (psr f g))<plen g:=by
  have:=psr_plen f g h1
  have:plen (psc t (psr f g))≤plen (psr f g):=plen_le_of fun k hk=>by rw [psc_get,getD_ge_plen _ k hk,Int.mul_zero]
  omega
 have hr2:plen (psc (s*t^N*t) (psr f' g'))<plen g:=by
  have:=psr_plen f' g' (by omega)
  have:plen (psc (s*t^N*t) (psr f' g'))≤plen (psr f' g'):=plen_le_of fun k hk=>by rw [psc_get,getD_ge_plen _ k hk,Int.mul_zero]
  omega
 have hu:=(div_unique h1 hr1 hr2 (q1:=psc t (psq f g)) (q2:=psc (s*t^N) (psq f' g')) (fun k=>by
  have e:∀ (q r:List Int),pc q g k+r.getD k 0=(padd (polymul q g) r).getD k 0:=fun q r=>by rw [padd_get,polymul_getD]
  rw [e,e]
  exact ev_inj (fun x=>by rw [ev_padd,ev_padd,ev_mul,ev_mul];exact key x) k)).2
 refine ⟨s*t^N,Int.mul_ne_zero hs (Int.pow_ne_zero ht),fun k=>?_⟩
 have:=hu k
 rw [psc_get,psc_get] at this
 refine Int.eq_of_mul_eq_mul_left ht ?_
 rw [this]
 ac_rfl
section
variable {f g L x y:List Int} {m n G e N:Nat}
end
end Go.Proofs.Ytjmglmgokfcgoaa
