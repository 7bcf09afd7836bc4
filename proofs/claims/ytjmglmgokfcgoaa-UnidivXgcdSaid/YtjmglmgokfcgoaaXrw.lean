/- The rows of unidiv.Xgcd: what following computes, plain. -/
import Derived.Test.YtjmglmgokfcgoaaCog
import Derived.Test.YtjmglmgokfcgoaaSbp
namespace Go.Proofs.Ytjmglmgokfcgoaa
theorem ev_psub (p q:List Int) (x:Int):ev (psub p q) x=ev p x-ev q x:=by
 rw [ev_congr (p:=psub p q) (q:=padd p (psc (-1) q)) (fun k=>by rw [psub_get,padd_get,psc_get];omega),ev_padd,ev_psc]
 omega
def xun (a b ua ub:List Int):List Int:=ptrim (psub (ptrim (psc (plead b^(plen a-(plen b-1))) ua)) (polymul (ptrim (psq a b)) (ptrim ub)))
theorem xun_ev (a b ua ub:List Int) (x:Int):ev (xun a b ua ub) x=plead b^(plen a-(plen b-1))*ev ua x-ev (psq a b) x*ev ub x:=by
 unfold xun
 rw [ev_trim,ev_psub,ev_trim,ev_psc,ev_mul,ev_trim,ev_trim]
theorem polymul_pl {q u:List Int} {n k:Nat} (h:plen u=0∨plen q+plen u≤n+1) (hk:n≤k):(polymul (ptrim q) (ptrim u)).getD k 0=0:=by
 by_cases u0:plen u=0
 ·refine (ev_inj (q:=[]) (fun x=>?_) k).trans (by simp)
  rw [ev_mul,ev_trim,ev_trim,ev_congr (p:=u) (q:=[]) (fun j=>by rw [getD_ge_plen u j (by omega)];simp) x,ev_nil,Int.mul_zero]
 ·by_cases q0:plen q=0
  ·refine (ev_inj (q:=[]) (fun x=>?_) k).trans (by simp)
   rw [ev_mul,ev_trim,ev_trim,ev_congr (p:=q) (q:=[]) (fun j=>by rw [getD_ge_plen q j (by omega)];simp) x,ev_nil,Int.zero_mul]
  ·have:=(plen_mul (f:=ptrim q) (g:=ptrim u) (by rw [plen_ptrim];omega) (by rw [plen_ptrim];omega)).1
   rw [plen_ptrim,plen_ptrim] at this
   exact getD_ge_plen _ _ (by omega)
theorem xun_len {a b ua ub:List Int} {n:Nat} (h1:plen ua≤n) (h2:plen ub=0∨plen a-(plen b-1)+plen ub≤n+1):plen (xun a b ua ub)≤n:=plen_le_of fun k hk=>by
 unfold xun
 have h3:=psq_short a b
 have h4:=plen_le (psq a b)
 rw [ptrim_getD,psub_get,ptrim_getD,psc_get,getD_ge_plen ua k (by omega),polymul_pl (n:=n) (h2.imp id (fun h=>by omega)) hk]
 simp
theorem row_ev {f g a b ua va ub vb:List Int} (b1:1≤plen b) (ea:∀ x,ev a x=ev ua x*ev f x+ev va x*ev g x) (eb:∀ x,ev b x=ev ub x*ev f x+ev vb x*ev g x) (x:Int) :
  ev (psr a b) x=ev (xun a b ua ub) x*ev f x+ev (xun a b va vb) x*ev g x:=by
 have h:=ps_ev a b b1 x
 rw [xun_ev,xun_ev,Int.sub_mul,Int.sub_mul]
 rw [ea,eb,Int.mul_add,Int.mul_add] at h
 have e1:plead b^(plen a-(plen b-1))*ev ua x*ev f x=plead b^(plen a-(plen b-1))*(ev ua x*ev f x):=Int.mul_assoc _ _ _
 have e2:plead b^(plen a-(plen b-1))*ev va x*ev g x=plead b^(plen a-(plen b-1))*(ev va x*ev g x):=Int.mul_assoc _ _ _
 have e3:ev (psq a b) x*ev ub x*ev f x=ev (psq a b) x*(ev ub x*ev f x):=Int.mul_assoc _ _ _
 have e4:ev (psq a b) x*ev vb x*ev g x=ev (psq a b) x*(ev vb x*ev g x):=Int.mul_assoc _ _ _
 rw [e1,e2,e3,e4]
 omega
theorem take_out {p q r:List Int} (h0:Nat.gcd (Nat.gcd (pcont p) (pcont q)) (pcont r)≠0) :
  (∀ k,p.getD k 0=((Nat.gcd (Nat.gcd (pcont p) (pcont q)) (pcont r):Nat):Int)*(p.map (·.tdiv ((Nat.gcd (Nat.gcd (pcont p) (pcont q)) (pcont r):Nat):Int))).getD k 0) ∧
  (∀ k,q.getD k 0=((Nat.gcd (Nat.gcd (pcont p) (pcont q)) (pcont r):Nat):Int)*(q.map (·.tdiv ((Nat.gcd (Nat.gcd (pcont p) (pcont q)) (pcont r):Nat):Int))).getD k 0) ∧
  (∀ k,r.getD k 0=((Nat.gcd (Nat.gcd (pcont p) (pcont q)) (pcont r):Nat):Int)*(r.map (·.tdiv ((Nat.gcd (Nat.gcd (pcont p) (pcont q)) (pcont r):Nat):Int))).getD k 0) ∧
  Nat.gcd (Nat.gcd (pcont (p.map (·.tdiv ((Nat.gcd (Nat.gcd (pcont p) (pcont q)) (pcont r):Nat):Int)))) (pcont (q.map (·.tdiv ((Nat.gcd (Nat.gcd (pcont p) (pcont q)) (pcont r):Nat):Int))))) (pcont (r.map (·.tdiv ((Nat.gcd (Nat.gcd (pcont p) (pcont q)) (pcont r):Nat):Int))))=1:=by
 obtain ⟨c,hc⟩:∃ c,c=Nat.gcd (Nat.gcd (pcont p) (pcont q)) (pcont r):=⟨_,rfl⟩
 have hp:c∣pcont p:=by rw [hc];exact Nat.dvd_trans (Nat.gcd_dvd_left _ _) (Nat.gcd_dvd_left _ _)
 have hq:c∣pcont q:=by rw [hc];exact Nat.dvd_trans (Nat.gcd_dvd_left _ _) (Nat.gcd_dvd_right _ _)
 have hr:c∣pcont r:=by rw [hc];exact Nat.gcd_dvd_right _ _
 have h:∀ {s:List Int},c∣pcont s→∀ k,s.getD k 0=(c:Int)*(s.map (·.tdiv (c:Int))).getD k 0:=fun {s} hs k=>by
  rw [map_tdiv_getD]
  exact (Int.mul_tdiv_cancel' (Int.natAbs_dvd_natAbs.1 (by rw [Int.natAbs_natCast];exact Nat.dvd_trans hs (pcont_get s k)))).symm
 have hk:∀ {s:List Int},c∣pcont s→pcont s=c*pcont (s.map (·.tdiv (c:Int))):=fun {s} hs=>by
  have:=pcont_psc (c:Int) (s.map (·.tdiv (c:Int)))
  rw [Int.natAbs_natCast] at this
  rw [← this]
  exact pcont_ext fun k=>by rw [psc_get];exact congrArg Int.natAbs (h hs k)
 rw [← hc] at h0 ⊢
 refine ⟨h hp,h hq,h hr,?_⟩
 have e:=hc
 rw [hk hp,hk hq,hk hr,Nat.gcd_mul_left,Nat.gcd_mul_left] at e
 exact Nat.eq_of_mul_eq_mul_left (Nat.pos_of_ne_zero h0) (by rw [← e,Nat.mul_one])
end Go.Proofs.Ytjmglmgokfcgoaa
