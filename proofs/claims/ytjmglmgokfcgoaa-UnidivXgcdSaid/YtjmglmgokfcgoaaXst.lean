/- The loop of unidiv.Xgcd, plain: what holds of the two rows, but for the sizes. -/
import Derived.Test.YtjmglmgokfcgoaaUni
namespace Go.Proofs.Ytjmglmgokfcgoaa
def Sc (p q:List Int):Prop:=∃ c d:Int,c≠0∧d≠0∧∀ k,c*p.getD k 0=d*q.getD k 0
structure XS (f g a ua va b ub vb:List Int):Prop where
 ta:ptrim a=a
 tb:ptrim b=b
 ea:∀ x,ev a x=ev ua x*ev f x+ev va x*ev g x
 eb:∀ x,ev b x=ev ub x*ev f x+ev vb x*ev g x
 kap:∃ κ:Int,κ≠0∧∀ x,ev ua x*ev vb x-ev va x*ev ub x=κ
 lab:plen b≤plen a
 a0:plen a≠0
 lf:plen a≤plen f
 lg:plen b≤plen g
 lu1:plen ua+plen b≤plen g+1
 lu2:plen ub=0∨plen ub+plen a≤plen g+1
 lv1:plen va=0∨plen va+plen b≤plen f+1
 lv2:plen vb+plen a≤plen f+1
 cf:Comb a b f
 cg:Comb a b g
theorem XS.start {f g:List Int} (tf:ptrim f=f) (tg:ptrim g=g) (f0:plen f≠0) (hfg:plen g≤plen f):XS f g f [1] [] g [] [1] where
 ta:=tf
 tb:=tg
 ea:=fun x=>by rw [ev_const,ev_nil];omega
 eb:=fun x=>by rw [ev_const,ev_nil];omega
 kap:=⟨1,by decide,fun x=>by rw [ev_const,ev_nil];omega⟩
 lab:=hfg
 a0:=f0
 lf:=Nat.le_refl _
 lg:=Nat.le_refl _
 lu1:=by rw [show plen [1]=1 from rfl];omega
 lu2:=.inl rfl
 lv1:=.inl rfl
 lv2:=by rw [show plen [1]=1 from rfl];omega
 cf:=Comb.left _ _
 cg:=Comb.right _ _
def xcont (a ua va b ub vb:List Int):Nat:=Nat.gcd (Nat.gcd (pcont (psr a b)) (pcont (xun a b ua ub))) (pcont (xun a b va vb))
def xdv (c:Nat) (p:List Int):List Int:=p.map (·.tdiv (c:Int))
theorem XS.cont {f g a ua va b ub vb:List Int} (h:XS f g a ua va b ub vb) (b0:plen b≠0):xcont a ua va b ub vb≠0:=by
 intro hc
 have h1:pcont (xun a b ua ub)=0:=Nat.eq_zero_of_gcd_eq_zero_right (Nat.eq_zero_of_gcd_eq_zero_left hc)
 have h2:pcont (xun a b va vb)=0:=Nat.eq_zero_of_gcd_eq_zero_right hc
 obtain ⟨κ,k0,hk⟩:=h.kap
 have z:∀ {p:List Int},pcont p=0→ev p 0=0:=fun {p} hp=>ev_zero_of (Classical.byContradiction fun h=>pcont_ne h hp) 0
 have e1:=z h1
 have e2:=z h2
 rw [xun_ev] at e1 e2
 have e3:=hk 0
 have hf:plead b^(plen a-(plen b-1))≠0:=Int.pow_ne_zero (plead_ne b0)
 have e4:plead b^(plen a-(plen b-1))*κ=0:=by
  rw [← e3,Int.mul_sub]
  have a1:plead b^(plen a-(plen b-1))*(ev ua 0*ev vb 0)=ev (psq a b) 0*ev ub 0*ev vb 0:=by
   rw [← Int.mul_assoc,show plead b^(plen a-(plen b-1))*ev ua 0=ev (psq a b) 0*ev ub 0 by omega]
  have a2:plead b^(plen a-(plen b-1))*(ev va 0*ev ub 0)=ev (psq a b) 0*ev vb 0*ev ub 0:=by
   rw [← Int.mul_assoc,show plead b^(plen a-(plen b-1))*ev va 0=ev (psq a b) 0*ev vb 0 by omega]
  rw [a1,a2,Int.mul_right_comm];omega
 exact (Int.mul_ne_zero hf k0) e4
theorem XS.step {f g a ua va b ub vb:List Int} (h:XS f g a ua va b ub vb) (b0:plen b≠0) :
  XS f g b ub vb (xdv (xcont a ua va b ub vb) (psr a b)) (xdv (xcont a ua va b ub vb) (xun a b ua ub)) (xdv (xcont a ua va b ub vb) (xun a b va vb))∧plen (xdv (xcont a ua va b ub vb) (psr a b))<plen b:=by
 obtain ⟨c,hc⟩:∃ c,c=xcont a ua va b ub vb:=⟨_,rfl⟩
 have c0:=h.cont b0
 obtain ⟨t1,t2,t3,t4⟩:=take_out c0
 rw [show Nat.gcd (Nat.gcd (pcont (psr a b)) (pcont (xun a b ua ub))) (pcont (xun a b va vb))=xcont a ua va b ub vb from rfl] at t1 t2 t3 t4
 rw [← hc] at t1 t2 t3 t4 c0 ⊢
 have ci:(c:Int)≠0:=by omega
 obtain ⟨r,hr⟩:∃ r,r=xdv c (psr a b):=⟨_,rfl⟩
 obtain ⟨u,hu⟩:∃ u,u=xdv c (xun a b ua ub):=⟨_,rfl⟩
 obtain ⟨v,hv⟩:∃ v,v=xdv c (xun a b va vb):=⟨_,rfl⟩
 rw [show (psr a b).map (·.tdiv (c:Int))=r from hr.symm] at t1
 rw [show (xun a b ua ub).map (·.tdiv (c:Int))=u from hu.symm] at t2
 rw [show (xun a b va vb).map (·.tdiv (c:Int))=v from hv.symm] at t3
 rw [← hr,← hu,← hv]
 have ex:∀ {p q:List Int},(∀ k,p.getD k 0=(c:Int)*q.getD k 0)→(∀ x,ev p x=(c:Int)*ev q x)∧plen p=plen q:=fun {p q} hpq=>⟨fun x=>by rw [← ev_psc];exact ev_congr (fun k=>by rw [psc_get];exact hpq k) x,plen_scale (c:=1) (d:=(c:Int)) (by decide) ci (fun k=>by rw [Int.one_mul];exact hpq k)⟩
 obtain ⟨r1,r2⟩:=ex t1
 obtain ⟨u1,u2⟩:=ex t2
 obtain ⟨v1,v2⟩:=ex t3
 have hlt:=psr_plen a b (by omega)
 have lab:=h.lab
 have lf:=h.lf
 have lg:=h.lg
 have lu1:=h.lu1
 have lu2:=h.lu2
 have lv1:=h.lv1
 have lv2:=h.lv2
 have hU:plen u≤plen g+1-plen b:=by rw [← u2];exact xun_len (by omega) (by omega)
 have hV:plen v≤plen f+1-plen b:=by rw [← v2];exact xun_len (by omega) (by omega)
 have hps:=ps_ev a b (by omega)
 have cab:Comb b r a:=⟨plead b^(plen a-(plen b-1)),psq a b,[(c:Int)],Int.pow_ne_zero (plead_ne b0),fun x=>by rw [hps,ev_const,r1]⟩
 obtain ⟨κ,k0,hk⟩:=h.kap
 have trr:plen r=r.length:=by
  rw [← r2,hr];unfold xdv
  rw [List.length_map];exact psr_trim a b
 refine ⟨⟨h.tb,?_,h.eb,fun x=>?_,?_,by omega,b0,by omega,by omega,by omega,by omega,by omega,by omega,Comb.trans cab (Comb.left _ _) h.cf,Comb.trans cab (Comb.left _ _) h.cg⟩,by omega⟩
 ·unfold ptrim;rw [trr,List.take_length]
 ·have h1:=row_ev (by omega) h.ea h.eb x
  rw [r1,u1,v1,Int.mul_assoc,Int.mul_assoc,← Int.mul_add] at h1
  exact Int.eq_of_mul_eq_mul_left ci h1
 · -- the constant
   have key:∀ x,(c:Int)*(ev ub x*ev v x-ev vb x*ev u x)=-(plead b^(plen a-(plen b-1))*κ):=fun x=>by
    rw [← hk x,Int.mul_sub]
    have a1:(c:Int)*(ev ub x*ev v x)=ev ub x*(c*ev v x):=by ac_rfl
    have a2:(c:Int)*(ev vb x*ev u x)=ev vb x*(c*ev u x):=by ac_rfl
    rw [a1,a2,← v1,← u1,xun_ev,xun_ev,Int.mul_sub,Int.mul_sub,Int.mul_sub]
    have b1:ev ub x*(plead b^(plen a-(plen b-1))*ev va x)=plead b^(plen a-(plen b-1))*(ev va x*ev ub x):=by ac_rfl
    have b2:ev vb x*(plead b^(plen a-(plen b-1))*ev ua x)=plead b^(plen a-(plen b-1))*(ev ua x*ev vb x):=by ac_rfl
    have b3:ev ub x*(ev (psq a b) x*ev vb x)=ev vb x*(ev (psq a b) x*ev ub x):=by ac_rfl
    rw [b1,b2,b3]
    omega
   refine ⟨ev ub 0*ev v 0-ev vb 0*ev u 0,fun h0=>?_,fun x=>Int.eq_of_mul_eq_mul_left ci (by rw [key,key])⟩
   have:=key 0
   rw [h0,Int.mul_zero] at this
   have hf:plead b^(plen a-(plen b-1))≠0:=Int.pow_ne_zero (plead_ne b0)
   exact Int.mul_ne_zero hf k0 (Int.neg_eq_zero.1 this.symm)
end Go.Proofs.Ytjmglmgokfcgoaa
