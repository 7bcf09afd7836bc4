/- The ends of the intervals of Roots are dyadic, and how wide the intervals are. Plain: no program. -/
import Derived.Test.YtkefcldcfeolbaaGreatHfp
namespace Go.Proofs.YtkefcldcfeolbaaGreat
open Go.RowKit
section
variable {K i j:Nat} {a b:Fq} {r:Fq×Fq} {Q f:List Int}
theorem Dy.le (h:Dy K i a) (hij:i<=j):Dy K j a:=⟨h.p,Nat.dvd_trans h.d (Nat.pow_dvd_pow 2 hij),h.z⟩
theorem Dy.nf (h:Dy K i a):Dy K i a.nf:=by
 have hp:=(Go.Proofs.YtkefcldcfeolbaaGreat.anE (z:=a.z) h.p).2.1
 obtain ⟨g,hg⟩:∃ g,g=Nat.gcd a.z.natAbs a.q:=⟨_,rfl⟩
 have hg0:0<g:=by rw[hg];exact Nat.gcd_pos_of_pos_right _ h.p
 have d2:g∣a.q:=by rw[hg];exact Nat.gcd_dvd_right _ _
 have d1:g∣a.z.natAbs:=by rw[hg];exact Nat.gcd_dvd_left _ _
 have eq:a.nf.q=a.q / g:=by rw[hg];rfl
 have ez:a.nf.z.natAbs=a.z.natAbs / g:=by
  show (rz a.z a.q).natAbs=_
  unfold rz
  rw[Int.natAbs_tdiv,hg,Int.natAbs_natCast];rfl
 refine ⟨hp,?_,?_⟩
 ·rw[eq];exact Nat.dvd_trans (Nat.div_dvd_of_dvd d2) h.d
 ·rw[ez,eq,<- Nat.mul_div_assoc _ d2]
  exact Nat.div_le_div_right h.z
def DyR (K i:Nat) (r:Fq×Fq):Prop:=Dy K i r.1/\Dy K i r.2
theorem DyR.le (h:DyR K i r) (hij:i<=j):DyR K j r:=⟨h.1.le hij,h.2.le hij⟩
theorem avI (h:DyR K i r):DyR K (i+1) (hlf Q r):=by
 have hm:=h.1.mid h.2
 unfold hlf
 split
 ·exact h.le (Nat.le_succ _)
 ·split
  ·exact ⟨hm.nf,hm.nf⟩
  ·split
   ·exact ⟨hm,h.2.up⟩
   ·exact ⟨h.1.up,hm⟩
structure DyW (K:Nat) (W:Rat) (i:Nat) (r:Fq×Fq):Prop where
 d:DyR K i r
 w:r.1.v=r.2.v∨(r.2.v-r.1.v)*2^i=W
theorem af5 (i:Nat):(2:Rat)^(i+1)=2^i*2:=by rw[Rat.pow_succ]
theorem avJ {W:Rat} (h:DyW K W i r):DyW K W (i+1) (hlf Q r):=by
 refine ⟨avI h.d,?_⟩
 have hv:=Fq.apD h.d.1.p h.d.2.p
 have h0:=aeM h.d.1.p h.d.2.p
 unfold hlf
 split
 ·rename_i c
  exact .inl (h0.1 c)
 ·rename_i c
  have hw:=h.w.resolve_left fun e=>c (h0.2 e)
  split
  ·exact .inl rfl
  ·split
   ·refine .inr ?_
    show (r.2.v-(r.1.mid r.2).v)*2^(i+1)=W
    rw[hv.1,af5]
    grind
   ·refine .inr ?_
    show ((r.1.mid r.2).v-r.1.v)*2^(i+1)=W
    rw[hv.1,af5]
    grind
theorem apU {PS:List (List Int)} {W:Rat}:∀ (n i:Nat) (a b:Fq),Dy K i a->Dy K i b->(b.v-a.v)*2^i=W->∀ r∈isl Q PS n a b,∃ j,i<=j/\j<=i+n/\DyW K W j r
 | 0,_,_,_,_,_,_,r,hr=>by simp[isl] at hr
 | n+1,i,a,b,ha,hb,hw,r,hr=>by
   have e:isl Q PS (n+1) a b=if aiD Q PS a b<1 then [] else if aiD Q PS a b=1/\a.sgn Q≠0/\b.sgn Q≠0 then [(a.nf,b.nf)] else isl Q PS n a (a.mid b) ++ (if (a.mid b).sgn Q=0 then [((a.mid b).nf,(a.mid b).nf)] else []) ++ isl Q PS n (a.mid b) b:=rfl
   rw[e] at hr
   have hm:=ha.mid hb
   have hv:=Fq.apD ha.p hb.p
   by_cases c1:aiD Q PS a b<1
   ·rw[if_pos c1] at hr;simp at hr
   rw[if_neg c1] at hr
   by_cases c2:aiD Q PS a b=1/\a.sgn Q≠0/\b.sgn Q≠0
   ·rw[if_pos c2,List.mem_singleton] at hr
    rw[hr]
    refine ⟨i,Nat.le_refl _,by omega,⟨ha.nf,hb.nf⟩,.inr ?_⟩
    show (b.nf.v-a.nf.v)*2^i=W
    rw[(Fq.anE ha.p).1,(Fq.anE hb.p).1]
    exact hw
   rw[if_neg c2] at hr
   rcases List.mem_append.1 hr with hr | hr
   ·rcases List.mem_append.1 hr with hr | hr
    ·obtain ⟨j,j1,j2,j3⟩:=apU (W:=W) n (i+1) a (a.mid b) ha.up hm (by rw[hv.1,af5];grind) r hr
     exact ⟨j,by omega,by omega,j3⟩
    ·split at hr
     ·rw[List.mem_singleton] at hr
      rw[hr]
      exact ⟨i+1,by omega,by omega,⟨hm.nf,hm.nf⟩,.inl rfl⟩
     ·simp at hr
   ·obtain ⟨j,j1,j2,j3⟩:=apU (W:=W) n (i+1) (a.mid b) b hm hb.up (by rw[hv.1,af5];grind) r hr
    exact ⟨j,by omega,by omega,j3⟩
theorem avK (h:SqF Q 16):(cbn Q+1)*2^(NN+2500)<=ZB:=by
 have h1:=apJ h
 have h2:BB^17+1<=BB^18:=by
  have h3:BB^17<BB^18:=Nat.pow_lt_pow_right (by rw[aan];decide) (by decide)
  omega
 obtain ⟨k,hk⟩:∃ k:Nat,k=18:=⟨_,rfl⟩
 have h4:cbn Q+1<=2^(32*k):=by rw[<- afZ,hk];omega
 have e:ZB=2^(32*ZK):=by unfold ZB;rw[afZ]
 refine Nat.le_trans (Nat.mul_le_mul_right _ h4) ?_
 rw[e,<- Nat.pow_add]
 exact Nat.pow_le_pow_right (by decide) (by rw[hk,atK,akm];decide)
theorem DyR.fqb {N:Nat} (h:DyR K i r) (hi:i<=N) (hN:(K+1)*2^N<=ZB):FqB r.1/\FqB r.2/\(i+1<=N->FqB (r.1.mid r.2)):=⟨h.1.fqb hi hN,h.2.fqb hi hN,fun h2=>(h.1.mid h.2).fqb h2 hN⟩
theorem apV (f:List Int):∀ r∈acQ f,∃ j,j<=NN+1/\DyW (cbn (aaq f)) (2*(cbn (aaq f):Nat)) j r:=by
 unfold acQ
 by_cases h:aad (aaq f)<2
 ·rw[if_pos h];intro r hr;simp at hr
 ·rw[if_neg h]
  have hv:=atL (cbn (aaq f))
  intro r hr
  obtain ⟨j,_,j2,j3⟩:=apU (K:=cbn (aaq f)) (W:=2*((cbn (aaq f):Nat):Rat)) (NN+1) 0 ⟨-((cbn (aaq f):Nat):Int),1⟩ ⟨((cbn (aaq f):Nat):Int),1⟩ ⟨Nat.one_pos,by simp,by simp⟩ ⟨Nat.one_pos,by simp,by simp⟩ (by rw[hv.1,hv.2,Rat.pow_zero];grind) r hr
  exact ⟨j,by omega,j3⟩
end
end Go.Proofs.YtkefcldcfeolbaaGreat
