/- The walk of isolate.Roots. -/
import Derived.Test.YtphmkdmflopcdaaGreatRbH
import Derived.Test.YtphmkdmflopcdaaGreatQuo
import Derived.Test.YtphmkdmflopcdaaGreatIsx
import Derived.Test.YtphmkdmflopcdaaGreatLes
namespace Go.Proofs.YtphmkdmflopcdaaGreat
open Go.RowKit
end Go.Proofs.YtphmkdmflopcdaaGreat
namespace Go.Proofs.YtphmkdmflopcdaaGreat
open Go.RowKit
theorem hst_bd {p:List Int} {M:Nat} (h:∀ k,(p.getD k 0).natAbs<=M):∀ n,hst p n<=M
 | 0=>Nat.zero_le _
 | n+1=>by
   rw[hst]
   split
   ·exact h n
   ·exact hst_bd h n
def cbn (p:List Int):Nat:=1+(hst (ptrim p) (plen p-1)+(plead (ptrim p)).natAbs-1) / (plead (ptrim p)).natAbs
theorem plead_tr {p:List Int} (h:plen p≠0):0<(plead (ptrim p)).natAbs:=by
 have:plead (ptrim p)≠0:=plead_ne (by rw[plen_ptrim];exact h)
 omega
theorem cdiv_facts (H:Nat) {L:Nat} (hL:0<L):H<=L*((H+L-1) / L)/\(H+L-1) / L<=H:=by
 constructor
 ·have h1:=Nat.div_add_mod (H+L-1) L
  have h2:=Nat.mod_lt (H+L-1) hL
  omega
 ·rcases Nat.eq_zero_or_pos H with h | h
  ·subst h
   rw[Nat.div_eq_of_lt (by omega)]
   exact Nat.le_refl _
  ·refine Nat.div_le_of_le_mul ?_
   obtain ⟨a,rfl⟩:∃ a,L=a+1:=⟨L-1,by omega⟩
   obtain ⟨b,rfl⟩:∃ b,H=b+1:=⟨H-1,by omega⟩
   rw[Nat.add_mul,Nat.mul_add]
   have:=Nat.zero_le (a*b)
   omega
structure Dy (K i:Nat) (a:Fq):Prop where
 p:0<a.q
 d:a.q∣2^i
 z:a.z.natAbs<=K*a.q
theorem Dy.up {K i:Nat} {a:Fq} (h:Dy K i a):Dy K (i+1) a:=⟨h.p,by rw[Nat.pow_succ];exact Nat.dvd_trans h.d (Nat.dvd_mul_right _ _),h.z⟩
theorem Dy.mid {K i:Nat} {a b:Fq} (ha:Dy K i a) (hb:Dy K i b):Dy K (i+1) (a.mid b):=by
 obtain ⟨Z,hZ⟩:∃ Z,Z=a.z*(b.q:Int)+b.z*(a.q:Int):=⟨_,rfl⟩
 obtain ⟨D,hD⟩:∃ D,D=a.q*b.q*2:=⟨_,rfl⟩
 have hD0:0<D:=by rw[hD];exact Nat.mul_pos (Nat.mul_pos ha.p hb.p) (by decide)
 obtain ⟨_,hp,hg⟩:=Go.Proofs.YtphmkdmflopcdaaGreat.nf_v (z:=Z) hD0
 have ez:(a.mid b).z=rz Z D:=by rw[hZ,hD];rfl
 have eq:(a.mid b).q=rq Z D:=by rw[hZ,hD];rfl
 obtain ⟨g,hgd⟩:∃ g,g=Nat.gcd Z.natAbs D:=⟨_,rfl⟩
 have hg0:0<g:=by rw[hgd];exact Nat.gcd_pos_of_pos_right _ hD0
 have d1:(g:Int)∣Z:=by rw[hgd,<- Int.natAbs_dvd_natAbs,Int.natAbs_natCast];exact Nat.gcd_dvd_left _ _
 have d2:g∣D:=by rw[hgd];exact Nat.gcd_dvd_right _ _
 obtain ⟨Z',hZ'⟩:=d1
 obtain ⟨D',hD'⟩:=d2
 have e1:rz Z D=Z':=by unfold rz;rw[<- hgd,hZ',Int.mul_tdiv_cancel_left _ (by omega)]
 have e2:rq Z D=D':=by unfold rq;rw[<- hgd,hD',Nat.mul_div_cancel_left _ hg0]
 rw[e1,e2] at hg
 rw[e2] at hp
 obtain ⟨x,hx⟩:=ha.d
 obtain ⟨y,hy⟩:=hb.d
 have hxI:(2:Int)^i=(a.q:Int)*(x:Int):=by rw[<- Int.natCast_mul,<- hx];simp
 have hyI:(2:Int)^i=(b.q:Int)*(y:Int):=by rw[<- Int.natCast_mul,<- hy];simp
 have key:Z'*(2:Int)^(i+1)=(D':Int)*(a.z*x+b.z*y):=by
  refine Int.eq_of_mul_eq_mul_left (a:=(g:Int)) (by omega) ?_
  have k1:(g:Int)*(Z'*(2:Int)^(i+1))=Z*2^(i+1):=by rw[hZ',Int.mul_assoc]
  have k2:(g:Int)*((D':Int)*(a.z*x+b.z*y))=(D:Int)*(a.z*x+b.z*y):=by rw[hD',Int.natCast_mul,Int.mul_assoc]
  rw[k1,k2,hZ,hD,Int.pow_succ,Int.natCast_mul,Int.natCast_mul]
  have e3:((2:Nat):Int)=2:=rfl
  rw[e3]
  generalize (2:Int)^i=P at hxI hyI ⊢
  generalize (a.q:Int)=s at *
  generalize (b.q:Int)=t at *
  generalize (x:Int)=u at *
  generalize (y:Int)=v at *
  generalize a.z=m at *
  generalize b.z=n at *
  have h1:m*t*P=m*t*(s*u):=by rw[hxI]
  have h2:n*s*P=n*s*(t*v):=by rw[hyI]
  grind
 refine ⟨by rw[eq,e2];exact hp,?_,?_⟩
 ·rw[eq,e2]
  refine Nat.Coprime.dvd_of_dvd_mul_left (m:=Z'.natAbs) (by rw[Nat.coprime_comm];exact hg) ?_
  have h3:=congrArg Int.natAbs key
  rw[Int.natAbs_mul,Int.natAbs_mul,Int.natAbs_natCast,Int.natAbs_pow] at h3
  exact ⟨_,h3⟩
 ·rw[ez,eq,e1,e2]
  refine Nat.le_of_mul_le_mul_left (?_:g*Z'.natAbs<=g*(K*D')) hg0
  have h1:g*Z'.natAbs=Z.natAbs:=by rw[hZ',Int.natAbs_mul,Int.natAbs_natCast]
  have h2:g*(K*D')=K*D:=by rw[hD',Nat.mul_left_comm]
  rw[h1,h2,hZ,hD]
  refine Nat.le_trans (Int.natAbs_add_le _ _) ?_
  rw[Int.natAbs_mul,Int.natAbs_mul,Int.natAbs_natCast,Int.natAbs_natCast]
  have h3:=Nat.mul_le_mul_right b.q ha.z
  have h4:=Nat.mul_le_mul_right a.q hb.z
  have h5:K*(a.q*b.q*2)=K*a.q*b.q+K*b.q*a.q:=by
   rw[Nat.mul_two,Nat.mul_add,<- Nat.mul_assoc,Nat.mul_assoc K b.q,Nat.mul_comm b.q a.q,<- Nat.mul_assoc]
  omega
theorem Dy.fqb {K i N:Nat} {a:Fq} (h:Dy K i a) (hi:i<=N) (hN:(K+1)*2^N<=ZB):FqB a:=by
 have h1:a.q<=2^i:=Nat.le_of_dvd (Nat.pow_pos (by decide)) h.d
 have h2:a.q<=2^N:=Nat.le_trans h1 (Nat.pow_le_pow_right (by decide) hi)
 have h3:K*a.q<=K*2^N:=Nat.mul_le_mul_left _ h2
 have h4:=h.z
 rw[Nat.add_mul,Nat.one_mul] at hN
 have h5:0<2^N:=Nat.pow_pos (by decide)
 exact ⟨h.p,by omega,by omega⟩
noncomputable def NN:Nat:=Classical.choose (⟨28300,rfl⟩:∃ n:Nat,n=28300)
theorem NN_eq:NN=28300:=Classical.choose_spec (⟨28300,rfl⟩:∃ n:Nat,n=28300)
section
variable {Q:List Int}
theorem cbn_le (h:SqF Q 16):cbn Q<=BB^17:=by
 have hb:hst (ptrim Q) (plen Q-1)<=BB^16:=hst_bd (fun k=>by rw[ptrim_getD];exact h.b k) _
 have hc:=(cdiv_facts (hst (ptrim Q) (plen Q-1)) (plead_tr h.q0)).2
 unfold cbn
 have h1:2*BB^16<=BB^17:=bbk_mul (by decide)
 have h2:0<BB^16:=Nat.pow_pos BB_pos
 omega
end
end Go.Proofs.YtphmkdmflopcdaaGreat
namespace Go.Proofs.YtphmkdmflopcdaaGreat
open Go Go.RowKit
structure RtsAt (w:World) (A:Option Addr) (l c:Nat) (rs:List (Fq×Fq)):Prop where
 length:rs.length=l
 cap:l<=c
 elems:(l=0/\A=none/\c=0)∨∃ b o,A=some ⟨b,o,none⟩/\b<w.heap.size/\Vals w b o rs
theorem RtsAt.below {w w':World} {A:Option Addr} {l c:Nat} {rs:List (Fq×Fq)} (h:RtsAt w A l c rs) (hb:Below w.heap.size w w'):RtsAt w' A l c rs:=by
 refine ⟨h.length,h.cap,?_⟩
 rcases h.elems with h0 | ⟨b,o,hA,hlt,hv⟩
 ·exact .inl h0
 ·exact .inr ⟨b,o,hA,Nat.lt_of_lt_of_le hlt hb.size,hv.below hlt hb⟩
end Go.Proofs.YtphmkdmflopcdaaGreat
