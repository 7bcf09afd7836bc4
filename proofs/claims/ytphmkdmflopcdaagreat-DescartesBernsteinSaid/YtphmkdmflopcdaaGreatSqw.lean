/- The walks of squarefree.Part, sturm.All and sturm.Count at polynomials that are not too large. -/
import Derived.Test.YtphmkdmflopcdaaGreatRpg
import Derived.Test.YtphmkdmflopcdaaGreatChc
import Derived.Test.YtphmkdmflopcdaaGreatStg
import Derived.Test.YtphmkdmflopcdaaGreatExq
import Derived.Test.YtphmkdmflopcdaaGreatGcx
import Derived.Test.YtphmkdmflopcdaaGreatPart
import Derived.Test.YtphmkdmflopcdaaGreatLes
namespace Go.Proofs.YtphmkdmflopcdaaGreat
open Go.RowKit
theorem scs_pv (p:List Int) (z q:Int):∀ t,t<=p.length->∀ (x:Rat),x*(q:Rat)=(z:Rat) ->
  (((scs p z q p.length t).1:Int):Rat)*q=(q:Rat)^t*pv (p.drop (p.length-t)) x/\((scs p z q p.length t).2:Int)=q^(t-1):=by
 intro t
 induction t with
 | zero =>
   intro _ x _
   rw[Nat.sub_zero,List.drop_length]
   refine ⟨?_,by show (1:Int)=q^0;rw[Int.pow_zero]⟩
   show ((0:Int):Rat)*_=_*(0:Rat)
   rw[Rat.mul_zero]
   exact Rat.zero_mul _
 | succ t ih =>
   intro ht x hx
   obtain ⟨h1,h2⟩:=ih (by omega) x hx
   have hpw:(scs p z q p.length (t+1)).2=q^t:=by
    show (if t=0 then (scs p z q p.length t).2 else (scs p z q p.length t).2*q)=_
    by_cases c:t=0
    ·rw[if_pos c,h2,c]
    ·rw[if_neg c,h2]
     obtain ⟨s,rfl⟩:∃ s,t=s+1:=⟨t-1,by omega⟩
     rw[Nat.add_sub_cancel,Int.pow_succ]
   refine ⟨?_,by rw[Nat.add_sub_cancel];exact hpw⟩
   have e1:(scs p z q p.length (t+1)).1=(scs p z q p.length t).1*z+p.getD (p.length-1-t) 0*(scs p z q p.length (t+1)).2:=rfl
   rw[e1,hpw]
   have hlt:p.length-1-t<p.length:=by omega
   have hd:p.drop (p.length-(t+1))=p.getD (p.length-1-t) 0 :: p.drop (p.length-t):=by
    rw[show p.length-(t+1)=p.length-1-t by omega,List.drop_eq_getElem_cons hlt,show p.length-1-t+1=p.length-t by omega]
    rw[List.getD_eq_getElem?_getD,List.getElem?_eq_getElem hlt];rfl
   rw[hd]
   show _=(q:Rat)^(t+1)*(((p.getD (p.length-1-t) 0:Int):Rat)+x*pv (p.drop (p.length-t)) x)
   generalize p.getD (p.length-1-t) 0=c at *
   generalize pv (p.drop (p.length-t)) x=v at *
   generalize (scs p z q p.length t).1=s at *
   rw[Rat.intCast_add,Rat.intCast_mul,Rat.intCast_mul,Rat.intCast_pow]
   rw[Rat.pow_succ]
   generalize (q:Rat)^t=r at *
   generalize (z:Rat)=zz at *
   subst hx
   grind
theorem sat_eq {z:Int} {q:Nat} (hq:0<q) (f:List Int):sat z q f=sgp f (Pt.of ((z:Rat) / (q:Rat))):=by
 obtain ⟨g,hg⟩:∃ g,g=Nat.gcd z.natAbs q:=⟨_,rfl⟩
 have hg0:0<g:=by rw[hg];exact Nat.gcd_pos_of_pos_right _ hq
 have hd1:(g:Int)∣z:=by rw[hg,<- Int.natAbs_dvd_natAbs,Int.natAbs_natCast];exact Nat.gcd_dvd_left _ _
 have hd2:g∣q:=by rw[hg];exact Nat.gcd_dvd_right _ _
 unfold sat
 rw[<- hg]
 obtain ⟨a,ha⟩:=hd1
 obtain ⟨b,hb⟩:=hd2
 have e1:z.tdiv (g:Int)=a:=by rw[ha,Int.mul_tdiv_cancel_left _ (by omega)]
 have e2:q / g=b:=by rw[hb,Nat.mul_div_cancel_left _ hg0]
 rw[e1,e2]
 have hb0:0<b:=Nat.pos_of_ne_zero fun h=>by rw[h,Nat.mul_zero] at hb;omega
 have hbr:(0:Rat)<(b:Rat):=by exact_mod_cast hb0
 have hgr:(0:Rat)<(g:Rat):=by exact_mod_cast hg0
 have hx:(z:Rat) / (q:Rat)*((b:Int):Rat)=((a:Int):Rat):=by
  have hgb:=Rat.mul_pos hgr hbr
  rw[ha,hb,Rat.intCast_mul,Rat.natCast_mul,Rat.intCast_natCast,Rat.intCast_natCast,Rat.div_def]
  generalize ((g:Nat):Rat)=x at *
  generalize ((b:Nat):Rat)=y at *
  generalize ((a:Int):Rat)=u at *
  grind
 obtain ⟨x,hxd⟩:∃ x,x=(z:Rat) / (q:Rat):=⟨_,rfl⟩
 rw[<- hxd] at hx ⊢
 have h:=(scs_pv (ptrim f) a (b:Int) (ptrim f).length (Nat.le_refl _) x hx).1
 rw[Nat.sub_self,List.drop_zero] at h
 have hl:=ptrim_length f
 have e3:sval f a ((b:Nat):Int)=(scs (ptrim f) a (b:Int) (ptrim f).length (ptrim f).length).1:=by unfold sval;rw[hl]
 rw[e3]
 generalize (scs (ptrim f) a (b:Int) (ptrim f).length (ptrim f).length).1=s at *
 have e4:sgp f (Pt.of x)=sgp (ptrim f) (Pt.of x):=sgp_congr (fun k=>(ptrim_getD f k).symm) _
 rw[e4]
 unfold sgp
 rw[sgf_of (lp_pv _)]
 generalize pv (ptrim f) x=v at *
 have hp:(0:Rat)<((b:Int):Rat)^(ptrim f).length:=Rat.pow_pos (by exact_mod_cast hb0)
 generalize ((b:Int):Rat)^(ptrim f).length=r at *
 have hbr':(0:Rat)<((b:Int):Rat):=by exact_mod_cast hb0
 generalize ((b:Int):Rat)=bb at *
 rcases sg_cases s with ⟨hs,e⟩ | ⟨hs,e⟩ | ⟨hs,e⟩
 ·rw[e]
  have hs':(s:Rat)<0:=by exact_mod_cast hs
  have hv:v<0:=by
   refine Classical.byContradiction fun hc=>?_
   have h1:0<=r*v:=Rat.mul_nonneg (Rat.le_of_lt hp) (by grind)
   have h2:0<(-(s:Rat))*bb:=Rat.mul_pos (by grind) hbr'
   grind
  rw[if_neg (by grind),if_pos hv]
 ·rw[e]
  have hs':(s:Rat)=0:=by rw[hs];rfl
  have hv:v=0:=by
   rw[hs',Rat.zero_mul] at h
   rcases Rat.mul_eq_zero.1 h.symm with h1 | h1
   ·exact absurd h1 (by grind)
   ·exact h1
  rw[if_neg (by grind),if_neg (by grind)]
 ·rw[e]
  have hs':0<(s:Rat):=by exact_mod_cast hs
  have hv:0<v:=by
   refine Classical.byContradiction fun hc=>?_
   have h1:0<=r*(-v):=Rat.mul_nonneg (Rat.le_of_lt hp) (by grind)
   have h2:0<(s:Rat)*bb:=Rat.mul_pos hs' hbr'
   grind
  rw[if_pos hv]
end Go.Proofs.YtphmkdmflopcdaaGreat
namespace Go.Proofs.YtphmkdmflopcdaaGreat
open Go.RowKit
noncomputable def GK:Nat:=Classical.choose (⟨3000,rfl⟩:∃ n:Nat,n=3000)
theorem GK_eq:GK=3000:=Classical.choose_spec (⟨3000,rfl⟩:∃ n:Nat,n=3000)
theorem gok_big {G m n:Nat} (hs:m+n<=32) (hG:1<=G) (hb:G<BB^90):GOK G m n 0 1100:=by
 have mul:∀ {a b:Nat},a<=34->b<=32->a*b<=1100:=fun {a b} ha hb=>Nat.le_trans (Nat.mul_le_mul ha hb) (by decide)
 refine ⟨?_,hG,by omega,fun x h1 y h2 h3 h4=>mul (by omega) (by omega),fun x h1 y h2 h3 h4=>mul (by omega) (by omega),fun y h1 z h2 h3 h4 h5=>mul (by omega) (by omega),by omega⟩
 obtain ⟨K,hK⟩:∃ K,K=1100:=⟨_,rfl⟩
 rw[<- hK]
 calc G^K<(BB^90)^K:=Nat.pow_lt_pow_left hb (by omega)
  _=BB^(90*K):=by rw[<- Nat.pow_mul]
  _<=BB^FW:=Nat.pow_le_pow_right BB_pos (by rw[FW_eq];omega)
theorem bbk_le {a b:Nat} (h:a<=b):BB^a<=BB^b:=Nat.pow_le_pow_right BB_pos h
theorem bbk_mul {c k:Nat} (hc:c<=4294967296):c*BB^k<=BB^(k+1):=by
 rw[Nat.pow_succ,Nat.mul_comm]
 exact Nat.mul_le_mul_left _ (by rw[BB_eq];exact hc)
theorem gc_big {f g:List Int} (hs:plen f+plen g<=34) (hf:∀ j,(f.getD j 0).natAbs<=BB^80) (hg:∀ j,(g.getD j 0).natAbs<=BB^80) (f0:plen f≠0) (g0:plen g≠0):GC f g 0 (BB^80):=by
 have h1:1<=BB^80:=Nat.pow_pos BB_pos
 refine ⟨f0,g0,hs,by omega,by omega,fun p _ h=>by omega,fun j=>Nat.le_trans (pprim_abs f j) (hf j),fun j=>Nat.le_trans (pprim_abs g j) (hg j),h1,fun m n h3 h4 h5 h6=>⟨1100,gok_big (by omega) (by omega) ?_⟩,?_⟩
 ·have h7:BB^80*32<=BB^81:=by rw[Nat.mul_comm];exact bbk_mul (by decide)
  exact Nat.lt_of_le_of_lt h7 (Nat.pow_lt_pow_right (by rw[BB_eq];decide) (by decide))
 ·rw[pconts_two]
  have:=gcd_le_r (a:=pcont f) (pcont_ne g0) (pcont_le g0 hg)
  omega
theorem ga_big {f g:List Int} (hs:plen f+plen g<=34) (hf:∀ j,(f.getD j 0).natAbs<=BB^80) (hg:∀ j,(g.getD j 0).natAbs<=BB^80):GAny f g:=by
 by_cases f0:plen f=0
 ·exact .inl f0
 by_cases g0:plen g=0
 ·exact .inr (.inl g0)
 exact .inr (.inr ⟨_,_,gc_big hs hf hg f0 g0⟩)
theorem gres_bd2 {f g:List Int} (hs:plen f+plen g<=34) (hf:∀ j,(f.getD j 0).natAbs<=BB^80) (hg:∀ j,(g.getD j 0).natAbs<=BB^80) (j:Nat):((gres f g).getD j 0).natAbs<=BB^GK:=by
 have up:∀ p:List Int,(∀ j,(p.getD j 0).natAbs<=BB^80)->((ppos p).getD j 0).natAbs<=BB^GK:=fun p hp=>by
  have h2:BB^80<=BB^GK:=bbk_le (by rw[GK_eq];decide)
  rcases ppos_or p with ⟨h1,_⟩ | ⟨h1,_⟩
  ·rw[h1];exact Nat.le_trans (hp j) h2
  ·rw[h1,Int.natAbs_neg];exact Nat.le_trans (hp j) h2
 unfold gres
 split
 ·exact up g hg
 ·rename_i f0
  split
  ·exact up f hf
  ·rename_i g0
   have hc:=gc_big hs hf hg f0 g0
   obtain ⟨hi,_,_,h4,_⟩:=hc.all
   have hD:=hi.ne
   rw[gp_get hD,Int.natAbs_mul,Int.natAbs_mul,Int.natAbs_natCast]
   have c1:(sg (plead (gval f g))).natAbs<=1:=by rcases sg_cases (plead (gval f g)) with ⟨_,e⟩ | ⟨_,e⟩ | ⟨_,e⟩<;>rw[e]<;>decide
   have c2:pcont (gval f g)<=BB^80:=by
    rw[hi.cont]
    exact gcd_le_r (pcont_ne g0) (pcont_le g0 hg)
   have c3:=h4 j
   obtain ⟨K,hK⟩:∃ K,K=81*34:=⟨_,rfl⟩
   have c4:(BB^80*32)^(max 1 (plen f+plen g-2*plen (gval f g)))<=BB^K:=by
    have h7:BB^80*32<=BB^81:=by rw[Nat.mul_comm];exact bbk_mul (by decide)
    have h8:1<=BB^80:=Nat.pow_pos BB_pos
    calc (BB^80*32)^(max 1 (plen f+plen g-2*plen (gval f g)))<=(BB^80*32)^34:=Nat.pow_le_pow_right (by omega) (by omega)
     _<=(BB^81)^34:=Nat.pow_le_pow_left h7 _
     _=BB^K:=by rw[<- Nat.pow_mul,hK]
   calc (sg (plead (gval f g))).natAbs*pcont (gval f g)*((pprim (gval f g)).getD j 0).natAbs<=1*BB^80*BB^K:=Nat.mul_le_mul (Nat.mul_le_mul c1 c2) (Nat.le_trans c3 c4)
    _=BB^(80+K):=by rw[Nat.one_mul,<- Nat.pow_add]
    _<=BB^GK:=bbk_le (by rw[GK_eq];omega)
theorem fbb_le (X:Nat):∀ n V,fbb X V n<=V*(2*X+3)^n
 | 0,V=>by show V<=V*1;omega
 | n+1,V=>by
   have h:=fbb_le X n (2*V)
   have h1:1<=(2*X+3)^n:=Nat.one_le_pow _ _ (by omega)
   have h2:V*1<=V*(2*X+3)^n:=Nat.mul_le_mul_left V h1
   have h3:=Nat.mul_le_mul_left (1+X) h
   have e:(1+X)*(2*V*(2*X+3)^n)+V*(2*X+3)^n=V*(2*X+3)^(n+1):=by
    rw[Nat.pow_succ]
    generalize (2*X+3)^n=r
    grind
   show (1+X)*fbb X (2*V) n+V<=_
   omega
theorem factor_le {p q g:List Int} {k:Nat} (hp:plen p<=16) (p0:plen p≠0) (hM:∀ j,(p.getD j 0).natAbs<=BB^k) (h:∀ x,ev p x=ev g x*ev q x) (j:Nat):(q.getD j 0).natAbs<=BB^(k+6):=by
 refine Nat.le_trans (factor_bd (n:=15) (M:=BB^k) hp p0 hM h j) (Nat.le_trans (fbb_le _ _ _) ?_)
 have e:16*31^15*65^15<=BB^6:=by rw[BB_eq];first | decide +kernel | (rw[FW_eq];decide +kernel)
 calc (15+1)*(BB^k*(2*15+1)^15)*(2*(2*15+1)+3)^15=BB^k*(16*31^15*65^15):=by
       generalize BB^k=r
       have:∀ a b:Nat,(15+1)*(r*a)*b=r*(16*a*b):=fun a b=>by
        rw[Nat.mul_comm r (16*a*b),show (15+1)*(r*a)*b=16*r*a*b by rw[Nat.mul_assoc 16 r a]]
        rw[Nat.mul_right_comm 16 r a,Nat.mul_right_comm (16*a) r b]
       exact this _ _
  _<=BB^k*BB^6:=Nat.mul_le_mul_left _ e
  _=BB^(k+6):=by rw[Nat.pow_add]
theorem mult_ev {p r:List Int} (h:∀ t,ev p t=ev r t) (p0:plen p≠0) (x:Pt):mult x p=mult x r:=by
 have hk:=ev_inj h
 exact (PEq.mult (f:=p) (g:=r) ⟨1,1,by decide,by decide,fun k=>by rw[hk k]⟩ x p0).1
theorem mult_ev_mul {p a b:List Int} (h:∀ t,ev p t=ev a t*ev b t) (a0:plen a≠0) (b0:plen b≠0) (x:Pt):mult x p=mult x a+mult x b:=by
 have h1:∀ t,ev (polymul a b) t=ev p t:=fun t=>by rw[ev_mul,h]
 rw[<- mult_mul a0 b0 x,mult_ev h1 (polymul_ne a0 b0)]
theorem mult_const {c:Int} (hc:c≠0) (x:Pt):mult x [c]=0:=by
 have h1:plen [c]=1:=plen_one hc
 rw[mult_zero (by omega),sgp_const]
 exact sg_ne hc
theorem mult_cmul {p r:List Int} {c:Int} (hc:c≠0) (h:∀ t,ev r t=c*ev p t) (p0:plen p≠0) (x:Pt):mult x r=mult x p:=by
 rw[mult_ev_mul (a:=[c]) (b:=p) (fun t=>by rw[h t,ev_const]) (by rw[plen_one hc];decide) p0 x,mult_const hc,Nat.zero_add]
theorem plen_ev {p r:List Int} (h:∀ t,ev p t=ev r t):plen p=plen r:=plen_congr (ev_inj h)
theorem plen_cmul {p r:List Int} {c:Int} (hc:c≠0) (h:∀ t,ev r t=c*ev p t):plen r≠0↔plen p≠0:=by
 have h1:∀ t,ev r t=ev [c] t*ev p t:=fun t=>by rw[h t,ev_const]
 constructor
 ·intro hr hp
  refine hr ?_
  rw[plen_ev (p:=r) (r:=[]) fun t=>by rw[h t,ev_congr (p:=p) (q:=[]) (fun k=>by rw[getD_ge_plen p k (by omega)];rfl),ev_nil,Int.mul_zero]]
  rfl
 ·intro hp
  rw[plen_ev (p:=r) (r:=polymul [c] p) fun t=>by rw[ev_mul,h1]]
  exact polymul_ne (by rw[plen_one hc];decide) hp
theorem dvq_mult {f g:List Int} (h:Dvq f g) (g0:plen g≠0) (x:Pt):mult x f<=mult x g:=by
 obtain ⟨c,q,hc,e⟩:=h
 have e1:∀ t,ev (psc c g) t=ev q t*ev f t:=fun t=>by rw[ev_psc,e]
 have n1:plen (psc c g)≠0:=(plen_cmul hc (fun t=>ev_psc _ _ _)).2 g0
 have hne:plen q≠0/\plen f≠0:=by
  constructor
  ·intro hq
   exact n1 (by rw[plen_ev (r:=polymul q f) fun t=>by rw[ev_mul,e1]];exact rmul_zero (.inl hq))
  ·intro hq
   exact n1 (by rw[plen_ev (r:=polymul q f) fun t=>by rw[ev_mul,e1]];exact rmul_zero (.inr hq))
 have h1:=mult_ev_mul e1 hne.1 hne.2 x
 rw[mult_cmul hc (fun t=>ev_psc _ _ _) g0] at h1
 omega
theorem comb_mult {f g d:List Int} (h:Comb f g d) (d0:plen d≠0) (x:Pt) {m:Nat} (hf:Van x m f) (hg:Van x m g):m<=mult x d:=by
 obtain ⟨c,u,v,hc,e⟩:=h
 have h1:Van x m (psc c d):=((hf.mul u).add (hg.mul v)).ev fun t=>by rw[ev_psc,ev_padd,ev_mul,ev_mul,e]
 exact (van_iff d0).1 (h1.of_psc hc)
def qdiv (F:List Int):List Int:=gres (pprim F) (pder (pprim F))
def qpart (F:List Int):List Int:=if plen F=0 then [] else pexq (pprim F) (qdiv F)
structure QOK (F:List Int):Prop where
 len:plen F<=16
 b:∀ j,((pprim F).getD j 0).natAbs<=BB^40
structure QF (F:List Int):Prop where
 ga:GAny (pprim F) (pder (pprim F))
 fp:FitP (pprim F)
 fr:FitP (pder (pprim F))
 fd:FitP (qdiv F)
 d0:plen (qdiv F)≠0
 dl:(qdiv F).length<=16
 ok:ExOK 1000000000 (pprim F) (qdiv F)
 e:qpart F=pexq (pprim F) (qdiv F)
 prod:∀ x,ev (pprim F) x=ev (qpart F) x*ev (qdiv F) x
 t:ptrim (qpart F)=qpart F
 q0:plen (qpart F)≠0
 l:plen (qpart F)<=plen F
 b:∀ k,(∀ j,((pprim F).getD j 0).natAbs<=BB^k)->∀ j,((qpart F).getD j 0).natAbs<=BB^(k+6)
 m:∀ x,mult x (qpart F)=if sgp F x=0 then 1 else 0
theorem pder_abs {p:List Int} {k:Nat} (hp:plen p<=16) (h:∀ j,(p.getD j 0).natAbs<=BB^k) (j:Nat):((pder p).getD j 0).natAbs<=BB^(k+1):=by
 rw[pder_getD,Int.natAbs_mul]
 by_cases c:j+1<16
 ·rw[Nat.pow_succ]
  refine Nat.mul_le_mul (h _) ?_
  rw[BB_eq];omega
 ·rw[getD_ge_plen p _ (by omega)];simp
theorem q_facts {F:List Int} (hF:QOK F) (F0:plen F≠0):QF F:=by
 have p0:plen (pprim F)≠0:=by rw[gp_plen];exact F0
 have cP:pcont (pprim F)=1:=gp_cont F0
 have hl:=hF.len
 have hpl:plen (pprim F)=plen F:=gp_plen F
 have hb:=hF.b
 have hdl:plen (pder (pprim F))<=15:=by have:=plen_le (pder (pprim F));rw[pder_length] at this;omega
 have hb80:∀ j,((pprim F).getD j 0).natAbs<=BB^80:=fun j=>Nat.le_trans (hb j) (bbk_le (by decide))
 have hd80:∀ j,((pder (pprim F)).getD j 0).natAbs<=BB^80:=fun j=>Nat.le_trans (pder_abs (by omega) hb j) (bbk_le (by decide))
 have ga:=ga_big (f:=pprim F) (g:=pder (pprim F)) (by omega) hb80 hd80
 have bD:∀ j,((qdiv F).getD j 0).natAbs<=BB^GK:=gres_bd2 (by omega) hb80 hd80
 have lt_fw:∀ {k:Nat},k<100000->BB^k<BB^FW:=fun h=>Nat.pow_lt_pow_right (by rw[BB_eq];decide) (by rw[FW_eq];exact h)
 obtain ⟨P,hPe⟩:∃ P,P=pprim F:=⟨_,rfl⟩
 obtain ⟨D,hDe⟩:∃ D,D=qdiv F:=⟨_,rfl⟩
 have hg:=gres_is ga
 have hD2:gres (pprim F) (pder (pprim F))=D:=hDe.symm
 rw[hD2] at hg
 have hg':IsGcd (pprim F) (pder (pprim F)) D:=hg.resolve_left (fun h=>p0 h.1) |>.2
 have fP:FitP (pprim F):=fun j=>Nat.lt_of_le_of_lt (hb80 j) (lt_fw (by decide))
 have fR:FitP (pder (pprim F)):=fun j=>Nat.lt_of_le_of_lt (hd80 j) (lt_fw (by decide))
 rw[<- hDe] at bD
 rw[<- hPe] at hg' cP p0 ga hb hpl hdl fP fR
 have cD:pcont D=1:=by rw[hg'.cont,cP,Nat.gcd_one_left]
 have D0:plen D≠0:=hg'.ne
 have dP:plen D<=plen P:=dvq_plen hg'.l p0
 have fD:FitP D:=fun j=>Nat.lt_of_le_of_lt (bD j) (lt_fw (by rw[GK_eq];decide))
 obtain ⟨c,r,hc,e1⟩:=hg'.l
 obtain ⟨s,hs⟩:=gauss_div (l:=D) (f:=P) (r:=r) cD hc (fun x=>by rw[e1,Int.mul_comm])
 obtain ⟨Q,hQ⟩:∃ Q,Q=ptrim s:=⟨_,rfl⟩
 have hQs:∀ x,ev P x=ev D x*ev Q x:=fun x=>by rw[hQ,ev_trim];exact hs x
 have tQ:ptrim Q=Q:=by rw[hQ,ptrim_ptrim]
 have Q0:plen Q≠0:=fun e=>p0 (by rw[plen_ev (r:=polymul D Q) fun x=>by rw[ev_mul,hQs]];exact rmul_zero (.inr e))
 have bQ:∀ k,(∀ j,(P.getD j 0).natAbs<=BB^k)->∀ j,(Q.getD j 0).natAbs<=BB^(k+6):=fun k hk=>factor_le (by omega) p0 hk hQs
 have fQ:FitP Q:=fun j=>Nat.lt_of_le_of_lt (bQ 40 hb j) (lt_fw (by decide))
 have hQl:plen Q<=plen P:=dvq_plen ⟨1,D,by decide,fun x=>by rw[Int.one_mul,hQs]⟩ p0
 obtain ⟨x1,x2⟩:=exact_prod (f:=P) (g:=D) (q:=Q) (ev_inj2 hQs) tQ Q0 D0 fQ fD (by omega)
 have hpart:qpart F=Q:=by
  unfold qpart
  rw[if_neg F0,<- hPe,<- hDe];exact x2
 have hmul:∀ x,mult x P=mult x Q+mult x D:=fun x=>mult_ev_mul (fun t=>by rw[hQs,Int.mul_comm]) Q0 D0 x
 have hPF:∀ x,mult x P=mult x F:=fun x=>(mult_cmul (gp_ne F0) (fun t=>by rw[<- ev_psc];exact ev_congr (fun k=>by rw[psc_get,hPe];exact gp_get F0 k) t) p0 x).symm
 refine ⟨by rw[<- hPe];exact ga,by rw[<- hPe];exact fP,by rw[<- hPe];exact fR,by rw[<- hDe];exact fD,by rw[<- hDe];exact D0,by rw[<- hDe,<- hg'.trim,ptrim_length];omega,by rw[<- hPe,<- hDe];exact x1,by rw[hpart,<- hPe,<- hDe];exact x2.symm,fun x=>by rw[hpart,<- hPe,<- hDe,hQs,Int.mul_comm],by rw[hpart];exact tQ,by rw[hpart];exact Q0,by rw[hpart];omega,by rw[hpart,<- hPe];exact bQ,fun x=>?_⟩
 rw[hpart]
 have h1:=hmul x
 by_cases hx:sgp F x=0
 ·rw[if_pos hx]
  have hmF:mult x F≠0:=fun h=>(mult_zero F0).1 h hx
  have hP0:sgp P x=0:=Classical.byContradiction fun h=>by
   have:=(mult_zero p0).2 h
   rw[hPF x] at this;exact hmF this
  obtain ⟨h2,h3⟩:=mult_pder p0 hP0
  have h4:=dvq_mult hg'.r h3 x
  have h5:=comb_mult hg'.c D0 x (m:=mult x P-1) ((van_iff p0).2 (by omega)) ((van_iff h3).2 (by omega))
  have:=hPF x
  omega
 ·rw[if_neg hx]
  have:=(mult_zero F0).2 hx
  have:=hPF x
  omega
theorem QF.root {F:List Int} (h:QF F) (x:Pt):sgp (qpart F) x=0↔sgp F x=0:=by
 have h1:=h.m x
 have h2:=mult_zero h.q0 (x:=x)
 by_cases c:sgp F x=0
 ·rw[if_pos c] at h1
  exact ⟨fun _=>c,fun _=>Classical.byContradiction fun hn=>by have:=h2.2 hn;omega⟩
 ·rw[if_neg c] at h1
  exact ⟨fun e=>absurd e (h2.1 h1),fun e=>absurd e c⟩
theorem QF.simple {F:List Int} (h:QF F) (x:Pt):mult x (qpart F)<=1:=by
 rw[h.m x];split<;>omega
end Go.Proofs.YtphmkdmflopcdaaGreat
namespace Go.Proofs.YtphmkdmflopcdaaGreat
open Go.RowKit
noncomputable def TB:Nat:=Classical.choose (⟨1024,rfl⟩:∃ n:Nat,n=1024)
theorem TB_eq:TB=1024:=Classical.choose_spec (⟨1024,rfl⟩:∃ n:Nat,n=1024)
structure CP (f:List Int):Prop where
 len:plen f<=10
 b:∀ j,(f.getD j 0).natAbs<=BB^32
theorem bb_two (k:Nat):BB^k=2^(32*k):=by rw[BB_eq,show (4294967296:Nat)=2^32 from rfl,<- Nat.pow_mul]
theorem CP.bits {f:List Int} (h:CP f):Bd (2^TB) f:=fun j=>by
 have h1:=h.b j
 rw[bb_two,show 32*32=TB by rw[TB_eq]] at h1
 exact h1
structure Elm (p:List Int):Prop where
 b:Bd (2^CB) p
 l:p.length<=10
theorem two_fw {k:Nat} (h:k<3200000):2^k<BB^FW:=by
 rw[bb_two]
 exact Nat.pow_lt_pow_right (by decide) (by rw[FW_eq];omega)
theorem Elm.fit {p:List Int} (h:Elm p):FitP p:=fun j=>Nat.lt_of_le_of_lt (h.b j) (two_fw (by rw[CB_eq];decide))
theorem Elm.smp {p:List Int} (h:Elm p):SmP p/\p.length<=1000000000:=⟨h.fit.smp,by have:=h.l;omega⟩
theorem scs_bd2 {M Z:Nat} (hZ:1<=Z) {p:List Int} {z q:Int} (n:Nat) (hp:∀ k,(p.getD k 0).natAbs<=M) (hz:z.natAbs<=Z) (hq:q.natAbs<=Z):∀ t,(scs p z q n t).2.natAbs<=Z^t/\(scs p z q n t).1.natAbs<=t*(M*Z^t)
 | 0=>by simp[scs]
 | t+1=>by
   obtain ⟨h1,h2⟩:=scs_bd2 hZ n hp hz hq t
   have hpw:(scs p z q n (t+1)).2.natAbs<=Z^(t+1):=by
    show (if t=0 then (scs p z q n t).2 else (scs p z q n t).2*q).natAbs<=_
    have h3:Z^t<=Z^(t+1):=Nat.pow_le_pow_right (by omega) (by omega)
    split
    ·omega
    ·rw[Int.natAbs_mul,Nat.pow_succ];exact Nat.mul_le_mul h1 hq
   refine ⟨hpw,?_⟩
   show ((scs p z q n t).1*z+p.getD (n-1-t) 0*(scs p z q n (t+1)).2).natAbs<=_
   have e1:((scs p z q n t).1*z).natAbs<=t*(M*Z^t)*Z:=by rw[Int.natAbs_mul];exact Nat.mul_le_mul h2 hz
   have e2:(p.getD (n-1-t) 0*(scs p z q n (t+1)).2).natAbs<=M*Z^(t+1):=by rw[Int.natAbs_mul];exact Nat.mul_le_mul (hp _) hpw
   have e3:t*(M*Z^t)*Z=t*(M*Z^(t+1)):=by rw[Nat.pow_succ,Nat.mul_assoc,Nat.mul_assoc]
   rw[Nat.add_mul,Nat.one_mul]
   omega
theorem bd_at {p:List Int} {z:Int} {q:Nat} (hb:Bd (2^CB) p) (hl:p.length<=10) (hz:z.natAbs<=ZB) (hq:q<=ZB):PoOK z q p:=by
 have ft:FitP p:=fun j=>Nat.lt_of_le_of_lt (hb j) (two_fw (by rw[CB_eq];decide))
 have hz':(z.tdiv (Nat.gcd z.natAbs q)).natAbs<=ZB:=by
  rw[Int.natAbs_tdiv]
  exact Nat.le_trans (Nat.div_le_self _ _) hz
 have hq':(((q / Nat.gcd z.natAbs q:Nat):Int)).natAbs<=ZB:=by
  rw[Int.natAbs_natCast]
  exact Nat.le_trans (Nat.div_le_self _ _) hq
 refine ⟨ft,by omega,fun t ht=>?_⟩
 have hpl:=plen_le p
 have z1:1<=ZB:=by have:=zb_128;omega
 obtain ⟨h1,h2⟩:=scs_bd2 (p:=ptrim p) (M:=2^CB) z1 (plen p) (fun k=>by rw[ptrim_getD];exact hb k) hz' hq' t
 have e:ZB^t<=2^(32*(ZK*10)):=by
  refine Nat.le_trans (Nat.pow_le_pow_right z1 (show t<=10 by omega)) ?_
  unfold ZB
  rw[<- Nat.pow_mul,bb_two]
  exact Nat.le_refl _
 constructor
 ·refine Nat.lt_of_le_of_lt h2 ?_
  refine Nat.lt_of_le_of_lt (Nat.mul_le_mul (show t<=2^4 by omega) (Nat.mul_le_mul_left (2^CB) e)) ?_
  rw[<- Nat.pow_add,<- Nat.pow_add]
  exact two_fw (by rw[CB_eq,ZK_eq];decide)
 ·exact Nat.lt_of_le_of_lt (Nat.le_trans h1 e) (two_fw (by rw[ZK_eq];decide))
theorem Elm.at {p:List Int} {z:Int} {q:Nat} (h:Elm p) (hz:z.natAbs<=ZB) (hq:q<=ZB):PoOK z q p:=bd_at h.b (by have:=h.l;omega) hz hq
theorem CP.bd {f:List Int} (h:CP f):Bd (2^CB) f:=h.bits.mono (Nat.pow_le_pow_right (by decide) (by rw[CB_eq,TB_eq];decide))
theorem CP.fit {f:List Int} (h:CP f):FitP f:=fun j=>Nat.lt_of_le_of_lt (h.bd j) (two_fw (by rw[CB_eq];decide))
theorem CP.at {f:List Int} {z:Int} {q:Nat} (h:CP f) (hl:f.length<=10) (hz:z.natAbs<=ZB) (hq:q<=ZB):PoOK z q f:=bd_at h.bd hl hz hq
structure PQ (f:List Int):Prop where
 len:plen f<=16
 b:∀ j,(f.getD j 0).natAbs<=BB^10
 pl:plen (qpart f)<=9
structure P9 (f:List Int):Prop where
 len:plen f<=9
 b:∀ j,(f.getD j 0).natAbs<=BB^10
theorem P9.cp {f:List Int} (h:P9 f):CP f:=⟨by have:=h.len;omega,fun j=>Nat.le_trans (h.b j) (bbk_le (by decide))⟩
theorem plen_pder (f:List Int):plen (pder f)<=plen f-1:=by have:=plen_le (pder f);rw[pder_length] at this;exact this
theorem P9.q {f:List Int} (h:P9 f):QOK f:=⟨by have:=h.len;omega,fun j=>Nat.le_trans (pprim_abs f j) (Nat.le_trans (h.b j) (bbk_le (by decide)))⟩
theorem qpart_nil {f:List Int} (h:plen f=0):qpart f=[]:=by unfold qpart;rw[if_pos h]
theorem P9.part_l {f:List Int} (h:P9 f):plen (qpart f)<=plen f:=by
 by_cases h0:plen f=0
 ·rw[qpart_nil h0];exact Nat.zero_le _
 ·exact (q_facts h.q h0).l
theorem P9.pq {f:List Int} (h:P9 f):PQ f:=⟨by have:=h.len;omega,h.b,by have:=h.part_l;have:=h.len;omega⟩
theorem PQ.q {f:List Int} (h:PQ f):QOK f:=⟨h.len,fun j=>Nat.le_trans (pprim_abs f j) (Nat.le_trans (h.b j) (bbk_le (by decide)))⟩
theorem PQ.fit {f:List Int} (h:PQ f):FitP f:=fun j=>Nat.lt_of_le_of_lt (h.b j) (Nat.pow_lt_pow_right (by rw[BB_eq];decide) (by rw[FW_eq];decide))
theorem PQ.cp {f:List Int} (h:PQ f) (hl:plen f<=10):CP f:=⟨hl,fun j=>Nat.le_trans (h.b j) (bbk_le (by decide))⟩
theorem PQ.part_b {f:List Int} (h:PQ f) (j:Nat):((qpart f).getD j 0).natAbs<=BB^16:=by
 by_cases h0:plen f=0
 ·rw[qpart_nil h0];simp
 ·exact (q_facts h.q h0).b 10 (fun j=>Nat.le_trans (pprim_abs f j) (h.b j)) j
theorem PQ.pder {f:List Int} (h:PQ f):CP (pder (qpart f)):=by
 have h2:=h.pl
 have h3:=plen_pder (qpart f)
 exact ⟨by omega,fun j=>Nat.le_trans (pder_abs (k:=16) (by omega) h.part_b j) (bbk_le (by decide))⟩
theorem PQ.at {f:List Int} {z:Int} {q:Nat} (h:PQ f) (hl:f.length<=16) (hz:z.natAbs<=ZB) (hq:q<=ZB):PoOK z q f:=by
 have hz':(z.tdiv (Nat.gcd z.natAbs q)).natAbs<=ZB:=by
  rw[Int.natAbs_tdiv]
  exact Nat.le_trans (Nat.div_le_self _ _) hz
 have hq':(((q / Nat.gcd z.natAbs q:Nat):Int)).natAbs<=ZB:=by
  rw[Int.natAbs_natCast]
  exact Nat.le_trans (Nat.div_le_self _ _) hq
 refine ⟨h.fit,by omega,fun t ht=>?_⟩
 have hpl:=plen_le f
 have hT:∀ j,(f.getD j 0).natAbs<=2^TB:=fun j=>by
  have h1:=Nat.le_trans (h.b j) (bbk_le (show 10<=32 by decide))
  rw[bb_two,show 32*32=TB by rw[TB_eq]] at h1
  exact h1
 have z1:1<=ZB:=by have:=zb_128;omega
 obtain ⟨h1,h2⟩:=scs_bd2 (p:=ptrim f) (M:=2^TB) z1 (plen f) (fun k=>by rw[ptrim_getD];exact hT k) hz' hq' t
 have e:ZB^t<=2^(32*(ZK*16)):=by
  refine Nat.le_trans (Nat.pow_le_pow_right z1 (show t<=16 by omega)) ?_
  unfold ZB
  rw[<- Nat.pow_mul,bb_two]
  exact Nat.le_refl _
 constructor
 ·refine Nat.lt_of_le_of_lt h2 ?_
  refine Nat.lt_of_le_of_lt (Nat.mul_le_mul (show t<=2^4 by omega) (Nat.mul_le_mul_left (2^TB) e)) ?_
  rw[<- Nat.pow_add,<- Nat.pow_add]
  exact two_fw (by rw[TB_eq,ZK_eq];decide)
 ·exact Nat.lt_of_le_of_lt (Nat.le_trans h1 e) (two_fw (by rw[ZK_eq];decide))
theorem P9.part_b {f:List Int} (h:P9 f) (j:Nat):((qpart f).getD j 0).natAbs<=BB^16:=h.pq.part_b j
theorem P9.pder {f:List Int} (h:P9 f):CP (pder (qpart f)):=h.pq.pder
end Go.Proofs.YtphmkdmflopcdaaGreat
namespace Go.Proofs.YtphmkdmflopcdaaGreat
open Go.RowKit
structure SqF (Q:List Int) (k:Nat):Prop where
 t:ptrim Q=Q
 q0:plen Q≠0
 len:plen Q<=10
 b:∀ j,(Q.getD j 0).natAbs<=BB^k
 s:∀ x,mult x Q<=1
theorem SqF.fit {Q:List Int} {k:Nat} (h:SqF Q k) (hk:k<=100):FitP Q:=fun j=>Nat.lt_of_le_of_lt (h.b j) (Nat.pow_lt_pow_right (by rw[BB_eq];decide) (by rw[FW_eq];omega))
theorem SqF.cp {Q:List Int} {k:Nat} (h:SqF Q k) (hk:k<=32):CP Q:=⟨h.len,fun j=>Nat.le_trans (h.b j) (bbk_le hk)⟩
def rz (z:Int) (q:Nat):Int:=z.tdiv (Nat.gcd z.natAbs q)
def rq (z:Int) (q:Nat):Nat:=q / Nat.gcd z.natAbs q
theorem SqF.of9 {f:List Int} (h:PQ f) (h0:plen f≠0):SqF (qpart f) 16:=by
 have hq:=q_facts h.q h0
 exact ⟨hq.t,hq.q0,by have:=h.pl;omega,h.part_b,hq.simple⟩
theorem frac_lt {z z':Int} {q q':Nat} (hq:0<q) (hq':0<q'):((z:Rat) / (q:Rat))<((z':Rat) / (q':Rat))↔z*(q':Int)<z'*(q:Int):=by
 have h1:(0:Rat)<((q:Nat):Rat):=by exact_mod_cast hq
 have h2:(0:Rat)<((q':Nat):Rat):=by exact_mod_cast hq'
 rw[Rat.div_lt_iff h1,show ((z':Int):Rat) / ((q':Nat):Rat)*((q:Nat):Rat)=((z':Int):Rat)*((q:Nat):Rat) / ((q':Nat):Rat) by rw[Rat.div_def,Rat.div_def];grind,Rat.lt_div_iff h2]
 rw[<- Rat.intCast_natCast,<- Rat.intCast_natCast,<- Rat.intCast_mul,<- Rat.intCast_mul,Rat.intCast_lt_intCast]
theorem Lst.append {P Q:Pt->Prop} {xs ys:List Pt} (h:Lst P xs) (h':Lst Q ys) (hpq:∀ x y,P x->Q y->x<y):Lst (fun x=>P x∨Q x) (xs ++ ys) :=
 ⟨List.pairwise_append.2 ⟨h.1,h'.1,fun x hx y hy=>hpq x y ((h.2 x).1 hx) ((h'.2 y).1 hy)⟩,fun x=>by rw[List.mem_append,h.2,h'.2]⟩
def Hf (f:List Int) (a b:Pt) (xs:List Pt):Prop:=Lst (fun x=>sgp f x=0/\a<x/\(x<b∨x=b)) xs
theorem short_bd {w:World} {A:Option Addr} {l c:Nat} {p:List Int} (h:I16At w A l c p) (n:Nat):plen (ptrim (p.take n))<=n/\(ptrim (p.take n)).length<=n/\ptrim (ptrim (p.take n))=ptrim (p.take n)/\∀ j,((ptrim (p.take n)).getD j 0).natAbs<=32768:=by
 have h1:=plen_le (p.take n)
 rw[List.length_take] at h1
 refine ⟨by rw[plen_ptrim];omega,by rw[ptrim_length];omega,ptrim_ptrim _,fun j=>?_⟩
 rw[ptrim_getD]
 rcases Nat.lt_or_ge j (p.take n).length with hj | hj
 ·have hmem:(p.take n).getD j 0∈p:=by
   rw[List.getD_eq_getElem?_getD,List.getElem?_eq_getElem hj]
   exact List.mem_of_mem_take (List.getElem_mem _)
  have:=h.range _ hmem
  omega
 ·rw[getD_out _ hj];omega
theorem short_p9 {w:World} {A:Option Addr} {l c:Nat} {p:List Int} (h:I16At w A l c p) {n:Nat} (hn:n<=9):P9 (ptrim (p.take n)):=by
 obtain ⟨h1,_,_,h2⟩:=short_bd h n
 exact ⟨by omega,fun j=>Nat.le_trans (h2 j) (by rw[BB_eq];decide)⟩
structure Pai (W:World) (g:Nat) (x0 x1:Int):Prop where
 c0:W.cell? ⟨g,0,none⟩=some (.int .i8 x0)
 c1:W.cell? ⟨g,1,none⟩=some (.int .i8 x1)
theorem Pai.move {W W':World} {g:Nat} {x0 x1:Int} (h:Pai W g x0 x1) (hb:Below W.heap.size W W'):Pai W' g x0 x1:=by
 obtain ⟨hc,_⟩:=bcellS hb
 exact ⟨(hc _ (by rw[h.c0];rfl)).trans h.c0,(hc _ (by rw[h.c1];rfl)).trans h.c1⟩
theorem Pai.make (W:World) (x0 x1:Int) (t:TypeId):Pai (W.alloc (.cells #[.int .i8 x0,.int .i8 x1] t)) W.heap.size x0 x1:=⟨by go_simp,by go_simp⟩
end Go.Proofs.YtphmkdmflopcdaaGreat
