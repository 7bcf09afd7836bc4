/- The division of the reference is that of the program. Plain. -/
import Derived.Test.YtjmglmgokfcgoaaBtl
import Derived.Test.YtjmglmgokfcgoaaIdP
import Derived.Test.YtjmglmgokfcgoaaGti
namespace Go.Proofs.Ytjmglmgokfcgoaa
open Go.RowKit
def rstep (g:List Int) (d k:Nat) (qr:List Int×List Int):List Int×List Int :=
 (zps (zsc qr.1 (g.getD d 0)) (zup (ptrim [qr.2.getD (d+k) 0]) k),zps (zsc qr.2 (g.getD d 0)) (zsc (zup (zsc g (qr.2.getD (d+k) 0)) k) (-1)))
def rrun (f g:List Int) (d K:Nat):Nat→List Int×List Int
 | 0=>([],f)
 | t+1=>rstep g d (K-t) (rrun f g d K t)
theorem rstep_q (g:List Int) (d k:Nat) (qr:List Int×List Int) (j:Nat):(rstep g d k qr).1.getD j 0=qr.1.getD j 0*g.getD d 0+if j=k then qr.2.getD (d+k) 0 else 0:=by
 unfold rstep
 rw [zps_get,zsc_get,zup_get]
 by_cases h:j<k
 ·rw [if_pos h,if_neg (by omega)]
 ·rw [if_neg h,ptrim_getD]
  by_cases h2:j=k
  ·rw [if_pos h2,h2,Nat.sub_self];rfl
  ·rw [if_neg h2,getD_out [qr.2.getD (d+k) 0] (show [qr.2.getD (d+k) 0].length≤j-k by rw [List.length_singleton];omega)]
theorem rstep_r (g:List Int) (d k:Nat) (qr:List Int×List Int) (j:Nat):(rstep g d k qr).2.getD j 0=qr.2.getD j 0*g.getD d 0-if k≤j then g.getD (j-k) 0*qr.2.getD (d+k) 0 else 0:=by
 unfold rstep
 rw [zps_get,zsc_get,zsc_get,zup_get]
 by_cases h:j<k
 ·rw [if_pos h,if_neg (by omega)];omega
 ·rw [if_neg h,if_pos (by omega),zsc_get];omega
theorem rstep_trim (g:List Int) (d k:Nat) (qr:List Int×List Int):ptrim (rstep g d k qr).1=(rstep g d k qr).1∧ptrim (rstep g d k qr).2=(rstep g d k qr).2:=⟨zps_trim _ _,zps_trim _ _⟩
theorem rstep_bd {g:List Int} {d k:Nat} {qr:List Int×List Int} {M X:Nat} (hg:Bd M g) (h1:1≤M) (hq:Bd X qr.1) (hr:Bd X qr.2):Bd (2*M*X) (rstep g d k qr).1∧Bd (2*M*X) (rstep g d k qr).2:=by
 have hX:X≤M*X:=Nat.le_mul_of_pos_left X h1
 have e2:2*M*X=M*X+M*X:=by rw [Nat.mul_assoc,Nat.two_mul]
 constructor<;>intro j
 ·rw [rstep_q]
  have h2:(qr.1.getD j 0*g.getD d 0).natAbs≤X*M:=by rw [Int.natAbs_mul];exact Nat.mul_le_mul (hq j) (hg d)
  have h3:(if j=k then qr.2.getD (d+k) 0 else 0:Int).natAbs≤X:=by
   split
   ·exact hr _
   ·simp
  have h4:=Int.natAbs_add_le (qr.1.getD j 0*g.getD d 0) (if j=k then qr.2.getD (d+k) 0 else 0)
  rw [Nat.mul_comm X M] at h2
  omega
 ·rw [rstep_r]
  have h2:(qr.2.getD j 0*g.getD d 0).natAbs≤X*M:=by rw [Int.natAbs_mul];exact Nat.mul_le_mul (hr j) (hg d)
  have h3:(if k≤j then g.getD (j-k) 0*qr.2.getD (d+k) 0 else 0:Int).natAbs≤M*X:=by
   split
   ·rw [Int.natAbs_mul];exact Nat.mul_le_mul (hg _) (hr _)
   ·simp
  have h4:=Int.natAbs_sub_le (qr.2.getD j 0*g.getD d 0) (if k≤j then g.getD (j-k) 0*qr.2.getD (d+k) 0 else 0)
  rw [Nat.mul_comm X M] at h2
  omega
theorem rrun_bd {f g:List Int} {d K M:Nat} (hg:Bd M g) (hf:Bd M f) (h1:1≤M):∀ t,Bd ((2*M)^t*M) (rrun f g d K t).1∧Bd ((2*M)^t*M) (rrun f g d K t).2
 | 0=>⟨fun j=>by simp [rrun],fun j=>by rw [Nat.pow_zero,Nat.one_mul];exact hf j⟩
 | t+1=>by
   have ih:=rrun_bd (d:=d) (K:=K) hg hf h1 t
   have e:(2*M)^(t+1)*M=2*M*((2*M)^t*M):=by rw [Nat.pow_succ,Nat.mul_comm ((2*M)^t),Nat.mul_assoc]
   rw [rrun,e]
   exact rstep_bd hg h1 ih.1 ih.2
end Go.Proofs.Ytjmglmgokfcgoaa
namespace Go.Proofs.Ytjmglmgokfcgoaa
theorem div_unique {g q1 r1 q2 r2:List Int} (hg:1≤plen g) (h1:plen r1<plen g) (h2:plen r2<plen g) (h:∀ k,pc q1 g k+r1.getD k 0=pc q2 g k+r2.getD k 0):(∀ k,q1.getD k 0=q2.getD k 0)∧∀ k,r1.getD k 0=r2.getD k 0:=by
 have e:∀ (q r:List Int) x,ev (padd (polymul q g) r) x=ev q x*ev g x+ev r x:=fun q r x=>by rw [ev_padd,ev_mul]
 have h3:∀ x,ev q1 x*ev g x+ev r1 x=ev q2 x*ev g x+ev r2 x:=fun x=>by
  rw [← e,← e]
  exact ev_congr (fun k=>by rw [padd_get,padd_get,polymul_getD,polymul_getD];exact h k) x
 obtain ⟨D,hD⟩:∃ D,D=padd q1 (psc (-1) q2):=⟨_,rfl⟩
 have hDg:∀ k,D.getD k 0=q1.getD k 0-q2.getD k 0:=fun k=>by rw [hD,padd_get,psc_get];omega
 have hDe:∀ x,ev D x=ev q1 x-ev q2 x:=fun x=>by rw [hD,ev_padd,ev_psc];omega
 have key:∀ k,(polymul D g).getD k 0=(padd r2 (psc (-1) r1)).getD k 0:=ev_inj fun x=>by
  rw [ev_mul,hDe,ev_padd,ev_psc,Int.sub_mul]
  have:=h3 x
  omega
 have hD0:plen D=0:=by
  refine Classical.byContradiction fun hn=>?_
  have h4:=(plen_mul (f:=D) (g:=g) (by omega) hg).1
  have h5:plen (polymul D g)<plen g:=by
   have:plen (polymul D g)≤plen g-1:=plen_le_of fun k hk=>by
    rw [key,padd_get,psc_get,getD_ge_plen r2 k (by omega),getD_ge_plen r1 k (by omega)];rfl
   omega
  omega
 have hq:∀ k,q1.getD k 0=q2.getD k 0:=fun k=>by
  have h4:=hDg k
  rw [getD_ge_plen D k (by omega)] at h4
  omega
 refine ⟨hq,fun k=>?_⟩
 have h4:=h k
 have h5:pc q1 g k=pc q2 g k:=by
  unfold pc
  rw [pcs_cv,pcs_cv]
  exact cv_congr hq (fun _=>rfl) _
 omega
theorem rrun_id {f g:List Int} {d K:Nat} (hf:∀ j,d+K<j→f.getD j 0=0) (hg:∀ j,d<j→g.getD j 0=0):∀ t,t≤K+1 →
  (∀ j,d+K<j+t→(rrun f g d K t).2.getD j 0=0)∧∀ j,g.getD d 0^t*f.getD j 0=pc (rrun f g d K t).1 g j+(rrun f g d K t).2.getD j 0
 | 0,_=>⟨fun j hj=>hf j (by omega),fun j=>by rw [rrun,Int.pow_zero,pc_nil];show 1*f.getD j 0=0+f.getD j 0;omega⟩
 | t+1,ht=>by
   obtain ⟨i1,i2⟩:=rrun_id hf hg t (by omega)
   obtain ⟨k,hk⟩:∃ k,k=K-t:=⟨_,rfl⟩
   rw [rrun,← hk]
   refine ⟨fun j hj=>?_,fun j=>?_⟩
   ·rw [rstep_r]
    rcases Nat.lt_or_ge (d+k) j with h | h
    ·rw [i1 j (by omega),if_pos (by omega),hg (j-k) (by omega)];simp
    ·have hjd:j=d+k:=by omega
     rw [hjd,if_pos (by omega),Nat.add_sub_cancel,Int.mul_comm];omega
   ·obtain ⟨c,hc⟩:∃ c,c=(rrun f g d K t).2.getD (d+k) 0:=⟨_,rfl⟩
    have h1:pc (rstep g d k (rrun f g d K t)).1 g j=g.getD d 0*pc (rrun f g d K t).1 g j+if k<j+1 then c*g.getD (j-k) 0 else 0:=by
     unfold pc
     rw [pcs_cv,pcs_cv]
     exact cv_step (q:=fun i=>(rrun f g d K t).1.getD i 0) (fun i=>by rw [rstep_q,hc,Int.mul_comm]) (j+1)
    rw [h1,rstep_r,← hc,Int.pow_succ,Int.mul_comm (g.getD d 0^t),Int.mul_assoc,i2 j]
    by_cases h:k≤j
    ·rw [if_pos (by omega),if_pos h];grind
    ·rw [if_neg (by omega),if_neg h];grind
theorem rrun_trim {f g:List Int} {d K:Nat} (hf:ptrim f=f):∀ t,ptrim (rrun f g d K t).1=(rrun f g d K t).1∧ptrim (rrun f g d K t).2=(rrun f g d K t).2
 | 0=>⟨rfl,hf⟩
 | _+1=>rstep_trim _ _ _ _
theorem psq_ptrim (f g:List Int):ptrim (psq f g)=psq f g:=by
 unfold psq
 split
 ·rfl
 ·rw [ptrim_ptrim]
theorem psr_ptrim (f g:List Int):ptrim (psr f g)=psr f g:=by
 unfold psr
 split<;>rw [ptrim_ptrim]
theorem eq_of_trim {p q:List Int} (hp:ptrim p=p) (hq:ptrim q=q) (h:∀ k,p.getD k 0=q.getD k 0):p=q:=by
 rw [← hp,← hq]
 exact ptrim_ext h
theorem rrun_ps {f g:List Int} (hg:1≤plen g):rrun (ptrim f) (ptrim g) (plen g-1) (plen f-plen g) (plen f+1-plen g)=(psq f g,psr f g):=by
 have tr:=rrun_trim (f:=ptrim f) (g:=ptrim g) (d:=plen g-1) (K:=plen f-plen g) (ptrim_ptrim f) (plen f+1-plen g)
 have hid:(∀ j,plen g≤j+1→(rrun (ptrim f) (ptrim g) (plen g-1) (plen f-plen g) (plen f+1-plen g)).2.getD j 0=0)∧∀ j,plead g^(plen f+1-plen g)*f.getD j 0=pc (rrun (ptrim f) (ptrim g) (plen g-1) (plen f-plen g) (plen f+1-plen g)).1 (ptrim g) j+(rrun (ptrim f) (ptrim g) (plen g-1) (plen f-plen g) (plen f+1-plen g)).2.getD j 0:=by
  by_cases h:plen g≤plen f
  ·have:=rrun_id (f:=ptrim f) (g:=ptrim g) (d:=plen g-1) (K:=plen f-plen g) (fun j hj=>by rw [ptrim_getD];exact getD_ge_plen f j (by omega)) (fun j hj=>by rw [ptrim_getD];exact getD_ge_plen g j (by omega)) (plen f+1-plen g) (by omega)
   refine ⟨fun j hj=>this.1 j (by omega),fun j=>?_⟩
   have h2:=this.2 j
   rw [ptrim_getD,ptrim_getD] at h2
   exact h2
  ·rw [show plen f+1-plen g=0 by omega]
   refine ⟨fun j hj=>?_,fun j=>?_⟩
   ·rw [rrun,ptrim_getD];exact getD_ge_plen f j (by omega)
   ·rw [rrun,Int.pow_zero,pc_nil,ptrim_getD];omega
 generalize rrun (ptrim f) (ptrim g) (plen g-1) (plen f-plen g) (plen f+1-plen g)=R at *
 obtain ⟨h1,h2⟩:=hid
 have hr:plen R.2<plen g:=by
  have:plen R.2≤plen g-1:=plen_le_of fun k hk=>h1 k (by omega)
  omega
 have hp:=ps_id f g hg
 have e:plen f-(plen g-1)=plen f+1-plen g:=by omega
 rw [e] at hp
 obtain ⟨u1,u2⟩:=div_unique (g:=ptrim g) (q1:=R.1) (r1:=R.2) (q2:=psq f g) (r2:=psr f g) (by rw [plen_ptrim];exact hg) (by rw [plen_ptrim];exact hr) (by rw [plen_ptrim];exact psr_plen f g hg) (fun k=>by rw [← h2 k,← hp k])
 exact Prod.ext (eq_of_trim tr.1 (psq_ptrim f g) u1) (eq_of_trim tr.2 (psr_ptrim f g) u2)
end Go.Proofs.Ytjmglmgokfcgoaa
