/- The walks of squarefree.Part, sturm.All and sturm.Count at polynomials that are not too large. -/
import Derived.Test.YtjmglmgokfcgoaaRpg
import Derived.Test.YtjmglmgokfcgoaaChc
import Derived.Test.YtjmglmgokfcgoaaSta
import Derived.Test.YtjmglmgokfcgoaaOwp
import Derived.Test.YtjmglmgokfcgoaaDer
import Derived.Test.YtjmglmgokfcgoaaPart
import Derived.Test.YtjmglmgokfcgoaaLin
import Derived.Test.YtjmglmgokfcgoaaRatD
import Derived.Test.YtjmglmgokfcgoaaGcdA
import Derived.Test.YtjmglmgokfcgoaaQuo
import Derived.Test.YtjmglmgokfcgoaaExq
import Derived.Test.YtjmglmgokfcgoaaGcx
import Derived.Test.YtjmglmgokfcgoaaLes
namespace Go.Proofs.Ytjmglmgokfcgoaa
open Go.RowKit
end Go.Proofs.Ytjmglmgokfcgoaa
namespace Go.Proofs.Ytjmglmgokfcgoaa
open Go.RowKit
noncomputable def GK:Nat:=Classical.choose (⟨3000,rfl⟩:∃ n:Nat,n=3000)
theorem GK_eq:GK=3000:=Classical.choose_spec (⟨3000,rfl⟩:∃ n:Nat,n=3000)
theorem gok_big {G m n:Nat} (hs:m+n≤32) (hG:1≤G) (hb:G<BB^90):GOK G m n 0 1100:=by
 have mul:∀ {a b:Nat},a≤34→b≤32→a*b≤1100:=fun {a b} ha hb=>Nat.le_trans (Nat.mul_le_mul ha hb) (by decide)
 refine ⟨?_,hG,by omega,fun x h1 y h2 h3 h4=>mul (by omega) (by omega),fun x h1 y h2 h3 h4=>mul (by omega) (by omega),fun y h1 z h2 h3 h4 h5=>mul (by omega) (by omega),by omega⟩
 obtain ⟨K,hK⟩:∃ K,K=1100:=⟨_,rfl⟩
 rw [← hK]
 calc G^K<(BB^90)^K:=Nat.pow_lt_pow_left hb (by omega)
  _=BB^(90*K):=by rw [← Nat.pow_mul]
  _≤BB^FW:=Nat.pow_le_pow_right BB_pos (by rw [FW_eq];omega)
theorem bbk_le {a b:Nat} (h:a≤b):BB^a≤BB^b:=Nat.pow_le_pow_right BB_pos h
theorem bbk_mul {c k:Nat} (hc:c≤4294967296):c*BB^k≤BB^(k+1):=by
 rw [Nat.pow_succ,Nat.mul_comm]
 exact Nat.mul_le_mul_left _ (by rw [BB_eq];exact hc)
theorem gc_big {f g:List Int} (hs:plen f+plen g≤34) (hf:∀ j,(f.getD j 0).natAbs≤BB^80) (hg:∀ j,(g.getD j 0).natAbs≤BB^80) (f0:plen f≠0) (g0:plen g≠0):GC f g 0 (BB^80):=by
 have h1:1≤BB^80:=Nat.pow_pos BB_pos
 refine ⟨f0,g0,hs,by omega,by omega,fun p _ h=>by omega,fun j=>Nat.le_trans (pprim_abs f j) (hf j),fun j=>Nat.le_trans (pprim_abs g j) (hg j),h1,fun m n h3 h4 h5 h6=>⟨1100,gok_big (by omega) (by omega) ?_⟩,?_⟩
 ·have h7:BB^80*32≤BB^81:=by rw [Nat.mul_comm];exact bbk_mul (by decide)
  exact Nat.lt_of_le_of_lt h7 (Nat.pow_lt_pow_right (by rw [BB_eq];decide) (by decide))
 ·rw [pconts_two]
  have:=gcd_le_r (a:=pcont f) (pcont_ne g0) (pcont_le g0 hg)
  omega
theorem ga_big {f g:List Int} (hs:plen f+plen g≤34) (hf:∀ j,(f.getD j 0).natAbs≤BB^80) (hg:∀ j,(g.getD j 0).natAbs≤BB^80):GAny f g:=by
 by_cases f0:plen f=0
 ·exact .inl f0
 by_cases g0:plen g=0
 ·exact .inr (.inl g0)
 exact .inr (.inr ⟨_,_,gc_big hs hf hg f0 g0⟩)
theorem gres_bd2 {f g:List Int} (hs:plen f+plen g≤34) (hf:∀ j,(f.getD j 0).natAbs≤BB^80) (hg:∀ j,(g.getD j 0).natAbs≤BB^80) (j:Nat):((gres f g).getD j 0).natAbs≤BB^GK:=by
 have up:∀ p:List Int,(∀ j,(p.getD j 0).natAbs≤BB^80)→((ppos p).getD j 0).natAbs≤BB^GK:=fun p hp=>by
  have h2:BB^80≤BB^GK:=bbk_le (by rw [GK_eq];decide)
  rcases ppos_or p with ⟨h1,_⟩ | ⟨h1,_⟩
  ·rw [h1];exact Nat.le_trans (hp j) h2
  ·rw [h1,Int.natAbs_neg];exact Nat.le_trans (hp j) h2
 unfold gres
 split
 ·exact up g hg
 ·rename_i f0
  split
  ·exact up f hf
  ·rename_i g0
   have hc:=gc_big hs hf hg f0 g0
   obtain ⟨hi,_,_,h4,_⟩:=hc.all
   have hD:=hi.ne
   rw [gp_get hD,Int.natAbs_mul,Int.natAbs_mul,Int.natAbs_natCast]
   have c1:(sg (plead (gval f g))).natAbs≤1:=by rcases sg_cases (plead (gval f g)) with ⟨_,e⟩ | ⟨_,e⟩ | ⟨_,e⟩<;>rw [e]<;>decide
   have c2:pcont (gval f g)≤BB^80:=by
    rw [hi.cont]
    exact gcd_le_r (pcont_ne g0) (pcont_le g0 hg)
   have c3:=h4 j
   obtain ⟨K,hK⟩:∃ K,K=81*34:=⟨_,rfl⟩
   have c4:(BB^80*32)^(max 1 (plen f+plen g-2*plen (gval f g)))≤BB^K:=by
    have h7:BB^80*32≤BB^81:=by rw [Nat.mul_comm];exact bbk_mul (by decide)
    have h8:1≤BB^80:=Nat.pow_pos BB_pos
    calc (BB^80*32)^(max 1 (plen f+plen g-2*plen (gval f g)))≤(BB^80*32)^34:=Nat.pow_le_pow_right (by omega) (by omega)
     _≤(BB^81)^34:=Nat.pow_le_pow_left h7 _
     _=BB^K:=by rw [← Nat.pow_mul,hK]
   calc (sg (plead (gval f g))).natAbs*pcont (gval f g)*((pprim (gval f g)).getD j 0).natAbs≤1*BB^80*BB^K:=Nat.mul_le_mul (Nat.mul_le_mul c1 c2) (Nat.le_trans c3 c4)
    _=BB^(80+K):=by rw [Nat.one_mul,← Nat.pow_add]
    _≤BB^GK:=bbk_le (by rw [GK_eq];omega)
theorem fbb_le (X:Nat):∀ n V,fbb X V n≤V*(2*X+3)^n
 | 0,V=>by show V≤V*1;omega
 | n+1,V=>by
   have h:=fbb_le X n (2*V)
   have h1:1≤(2*X+3)^n:=Nat.one_le_pow _ _ (by omega)
   have h2:V*1≤V*(2*X+3)^n:=Nat.mul_le_mul_left V h1
   have h3:=Nat.mul_le_mul_left (1+X) h
   have e:(1+X)*(2*V*(2*X+3)^n)+V*(2*X+3)^n=V*(2*X+3)^(n+1):=by
    rw [Nat.pow_succ]
    generalize (2*X+3)^n=r
    grind
   show (1+X)*fbb X (2*V) n+V≤_
   omega
theorem factor_le {p q g:List Int} {k:Nat} (hp:plen p≤16) (p0:plen p≠0) (hM:∀ j,(p.getD j 0).natAbs≤BB^k) (h:∀ x,ev p x=ev g x*ev q x) (j:Nat):(q.getD j 0).natAbs≤BB^(k+6):=by
 refine Nat.le_trans (factor_bd (n:=15) (M:=BB^k) hp p0 hM h j) (Nat.le_trans (fbb_le _ _ _) ?_)
 have e:16*31^15*65^15≤BB^6:=by rw [BB_eq];first | decide +kernel | (rw [FW_eq];decide +kernel)
 calc (15+1)*(BB^k*(2*15+1)^15)*(2*(2*15+1)+3)^15=BB^k*(16*31^15*65^15):=by
       generalize BB^k=r
       have:∀ a b:Nat,(15+1)*(r*a)*b=r*(16*a*b):=fun a b=>by
        rw [Nat.mul_comm r (16*a*b),show (15+1)*(r*a)*b=16*r*a*b by rw [Nat.mul_assoc 16 r a]]
        rw [Nat.mul_right_comm 16 r a,Nat.mul_right_comm (16*a) r b]
       exact this _ _
  _≤BB^k*BB^6:=Nat.mul_le_mul_left _ e
  _=BB^(k+6):=by rw [Nat.pow_add]
theorem mult_ev {p r:List Int} (h:∀ t,ev p t=ev r t) (p0:plen p≠0) (x:Pt):mult x p=mult x r:=by
 have hk:=ev_inj h
 exact (PEq.mult (f:=p) (g:=r) ⟨1,1,by decide,by decide,fun k=>by rw [hk k]⟩ x p0).1
theorem mult_ev_mul {p a b:List Int} (h:∀ t,ev p t=ev a t*ev b t) (a0:plen a≠0) (b0:plen b≠0) (x:Pt):mult x p=mult x a+mult x b:=by
 have h1:∀ t,ev (polymul a b) t=ev p t:=fun t=>by rw [ev_mul,h]
 rw [← mult_mul a0 b0 x,mult_ev h1 (polymul_ne a0 b0)]
theorem mult_const {c:Int} (hc:c≠0) (x:Pt):mult x [c]=0:=by
 have h1:plen [c]=1:=plen_one hc
 rw [mult_zero (by omega),sgp_const]
 exact sg_ne hc
theorem mult_cmul {p r:List Int} {c:Int} (hc:c≠0) (h:∀ t,ev r t=c*ev p t) (p0:plen p≠0) (x:Pt):mult x r=mult x p:=by
 rw [mult_ev_mul (a:=[c]) (b:=p) (fun t=>by rw [h t,ev_const]) (by rw [plen_one hc];decide) p0 x,mult_const hc,Nat.zero_add]
theorem plen_ev {p r:List Int} (h:∀ t,ev p t=ev r t):plen p=plen r:=plen_congr (ev_inj h)
theorem plen_cmul {p r:List Int} {c:Int} (hc:c≠0) (h:∀ t,ev r t=c*ev p t):plen r≠0↔plen p≠0:=by
 have h1:∀ t,ev r t=ev [c] t*ev p t:=fun t=>by rw [h t,ev_const]
 constructor
 ·intro hr hp
  refine hr ?_
  rw [plen_ev (p:=r) (r:=[]) fun t=>by rw [h t,ev_congr (p:=p) (q:=[]) (fun k=>by rw [getD_ge_plen p k (by omega)];rfl),ev_nil,Int.mul_zero]]
  rfl
 ·intro hp
  rw [plen_ev (p:=r) (r:=polymul [c] p) fun t=>by rw [ev_mul,h1]]
  exact polymul_ne (by rw [plen_one hc];decide) hp
theorem dvq_mult {f g:List Int} (h:Dvq f g) (g0:plen g≠0) (x:Pt):mult x f≤mult x g:=by
 obtain ⟨c,q,hc,e⟩:=h
 have e1:∀ t,ev (psc c g) t=ev q t*ev f t:=fun t=>by rw [ev_psc,e]
 have n1:plen (psc c g)≠0:=(plen_cmul hc (fun t=>ev_psc _ _ _)).2 g0
 have hne:plen q≠0∧plen f≠0:=by
  constructor
  ·intro hq
   exact n1 (by rw [plen_ev (r:=polymul q f) fun t=>by rw [ev_mul,e1]];exact rmul_zero (.inl hq))
  ·intro hq
   exact n1 (by rw [plen_ev (r:=polymul q f) fun t=>by rw [ev_mul,e1]];exact rmul_zero (.inr hq))
 have h1:=mult_ev_mul e1 hne.1 hne.2 x
 rw [mult_cmul hc (fun t=>ev_psc _ _ _) g0] at h1
 omega
theorem comb_mult {f g d:List Int} (h:Comb f g d) (d0:plen d≠0) (x:Pt) {m:Nat} (hf:Van x m f) (hg:Van x m g):m≤mult x d:=by
 obtain ⟨c,u,v,hc,e⟩:=h
 have h1:Van x m (psc c d):=((hf.mul u).add (hg.mul v)).ev fun t=>by rw [ev_psc,ev_padd,ev_mul,ev_mul,e]
 exact (van_iff d0).1 (h1.of_psc hc)
def qdiv (F:List Int):List Int:=gres (pprim F) (pder (pprim F))
def qpart (F:List Int):List Int:=if plen F=0 then [] else pexq (pprim F) (qdiv F)
structure QOK (F:List Int):Prop where
 len:plen F≤16
 b:∀ j,((pprim F).getD j 0).natAbs≤BB^40
structure QF (F:List Int):Prop where
 ga:GAny (pprim F) (pder (pprim F))
 fp:FitP (pprim F)
 fr:FitP (pder (pprim F))
 fd:FitP (qdiv F)
 d0:plen (qdiv F)≠0
 dl:(qdiv F).length≤16
 ok:ExOK 1000000000 (pprim F) (qdiv F)
 e:qpart F=pexq (pprim F) (qdiv F)
 prod:∀ x,ev (pprim F) x=ev (qpart F) x*ev (qdiv F) x
 t:ptrim (qpart F)=qpart F
 q0:plen (qpart F)≠0
 l:plen (qpart F)≤plen F
 b:∀ k,(∀ j,((pprim F).getD j 0).natAbs≤BB^k)→∀ j,((qpart F).getD j 0).natAbs≤BB^(k+6)
 m:∀ x,mult x (qpart F)=if sgp F x=0 then 1 else 0
theorem pder_abs {p:List Int} {k:Nat} (hp:plen p≤16) (h:∀ j,(p.getD j 0).natAbs≤BB^k) (j:Nat):((pder p).getD j 0).natAbs≤BB^(k+1):=by
 rw [pder_getD,Int.natAbs_mul]
 by_cases c:j+1<16
 ·rw [Nat.pow_succ]
  refine Nat.mul_le_mul (h _) ?_
  rw [BB_eq];omega
 ·rw [getD_ge_plen p _ (by omega)];simp
theorem q_facts {F:List Int} (hF:QOK F) (F0:plen F≠0):QF F:=by
 have p0:plen (pprim F)≠0:=by rw [gp_plen];exact F0
 have cP:pcont (pprim F)=1:=gp_cont F0
 have hl:=hF.len
 have hpl:plen (pprim F)=plen F:=gp_plen F
 have hb:=hF.b
 have hdl:plen (pder (pprim F))≤15:=by have:=plen_le (pder (pprim F));rw [pder_length] at this;omega
 have hb80:∀ j,((pprim F).getD j 0).natAbs≤BB^80:=fun j=>Nat.le_trans (hb j) (bbk_le (by decide))
 have hd80:∀ j,((pder (pprim F)).getD j 0).natAbs≤BB^80:=fun j=>Nat.le_trans (pder_abs (by omega) hb j) (bbk_le (by decide))
 have ga:=ga_big (f:=pprim F) (g:=pder (pprim F)) (by omega) hb80 hd80
 have bD:∀ j,((qdiv F).getD j 0).natAbs≤BB^GK:=gres_bd2 (by omega) hb80 hd80
 have lt_fw:∀ {k:Nat},k<100000→BB^k<BB^FW:=fun h=>Nat.pow_lt_pow_right (by rw [BB_eq];decide) (by rw [FW_eq];exact h)
 obtain ⟨P,hPe⟩:∃ P,P=pprim F:=⟨_,rfl⟩
 obtain ⟨D,hDe⟩:∃ D,D=qdiv F:=⟨_,rfl⟩
 have hg:=gres_is ga
 have hD2:gres (pprim F) (pder (pprim F))=D:=hDe.symm
 rw [hD2] at hg
 have hg':IsGcd (pprim F) (pder (pprim F)) D:=hg.resolve_left (fun h=>p0 h.1) |>.2
 have fP:FitP (pprim F):=fun j=>Nat.lt_of_le_of_lt (hb80 j) (lt_fw (by decide))
 have fR:FitP (pder (pprim F)):=fun j=>Nat.lt_of_le_of_lt (hd80 j) (lt_fw (by decide))
 rw [← hDe] at bD
 rw [← hPe] at hg' cP p0 ga hb hpl hdl fP fR
 have cD:pcont D=1:=by rw [hg'.cont,cP,Nat.gcd_one_left]
 have D0:plen D≠0:=hg'.ne
 have dP:plen D≤plen P:=dvq_plen hg'.l p0
 have fD:FitP D:=fun j=>Nat.lt_of_le_of_lt (bD j) (lt_fw (by rw [GK_eq];decide))
 obtain ⟨c,r,hc,e1⟩:=hg'.l
 obtain ⟨s,hs⟩:=gauss_div (l:=D) (f:=P) (r:=r) cD hc (fun x=>by rw [e1,Int.mul_comm])
 obtain ⟨Q,hQ⟩:∃ Q,Q=ptrim s:=⟨_,rfl⟩
 have hQs:∀ x,ev P x=ev D x*ev Q x:=fun x=>by rw [hQ,ev_trim];exact hs x
 have tQ:ptrim Q=Q:=by rw [hQ,ptrim_ptrim]
 have Q0:plen Q≠0:=fun e=>p0 (by rw [plen_ev (r:=polymul D Q) fun x=>by rw [ev_mul,hQs]];exact rmul_zero (.inr e))
 have bQ:∀ k,(∀ j,(P.getD j 0).natAbs≤BB^k)→∀ j,(Q.getD j 0).natAbs≤BB^(k+6):=fun k hk=>factor_le (by omega) p0 hk hQs
 have fQ:FitP Q:=fun j=>Nat.lt_of_le_of_lt (bQ 40 hb j) (lt_fw (by decide))
 have hQl:plen Q≤plen P:=dvq_plen ⟨1,D,by decide,fun x=>by rw [Int.one_mul,hQs]⟩ p0
 obtain ⟨x1,x2⟩:=exact_prod (f:=P) (g:=D) (q:=Q) (ev_inj2 hQs) tQ Q0 D0 fQ fD (by omega)
 have hpart:qpart F=Q:=by
  unfold qpart
  rw [if_neg F0,← hPe,← hDe];exact x2
 have hmul:∀ x,mult x P=mult x Q+mult x D:=fun x=>mult_ev_mul (fun t=>by rw [hQs,Int.mul_comm]) Q0 D0 x
 have hPF:∀ x,mult x P=mult x F:=fun x=>(mult_cmul (gp_ne F0) (fun t=>by rw [← ev_psc];exact ev_congr (fun k=>by rw [psc_get,hPe];exact gp_get F0 k) t) p0 x).symm
 refine ⟨by rw [← hPe];exact ga,by rw [← hPe];exact fP,by rw [← hPe];exact fR,by rw [← hDe];exact fD,by rw [← hDe];exact D0,by rw [← hDe,← hg'.trim,ptrim_length];omega,by rw [← hPe,← hDe];exact x1,by rw [hpart,← hPe,← hDe];exact x2.symm,fun x=>by rw [hpart,← hPe,← hDe,hQs,Int.mul_comm],by rw [hpart];exact tQ,by rw [hpart];exact Q0,by rw [hpart];omega,by rw [hpart,← hPe];exact bQ,fun x=>?_⟩
 rw [hpart]
 have h1:=hmul x
 by_cases hx:sgp F x=0
 ·rw [if_pos hx]
  have hmF:mult x F≠0:=fun h=>(mult_zero F0).1 h hx
  have hP0:sgp P x=0:=Classical.byContradiction fun h=>by
   have:=(mult_zero p0).2 h
   rw [hPF x] at this;exact hmF this
  obtain ⟨h2,h3⟩:=mult_pder p0 hP0
  have h4:=dvq_mult hg'.r h3 x
  have h5:=comb_mult hg'.c D0 x (m:=mult x P-1) ((van_iff p0).2 (by omega)) ((van_iff h3).2 (by omega))
  have:=hPF x
  omega
 ·rw [if_neg hx]
  have:=(mult_zero F0).2 hx
  have:=hPF x
  omega
end Go.Proofs.Ytjmglmgokfcgoaa
namespace Go.Proofs.Ytjmglmgokfcgoaa
open Go.RowKit
noncomputable def TB:Nat:=Classical.choose (⟨1024,rfl⟩:∃ n:Nat,n=1024)
theorem TB_eq:TB=1024:=Classical.choose_spec (⟨1024,rfl⟩:∃ n:Nat,n=1024)
structure CP (f:List Int):Prop where
 len:plen f≤10
 b:∀ j,(f.getD j 0).natAbs≤BB^32
theorem bb_two (k:Nat):BB^k=2^(32*k):=by rw [BB_eq,show (4294967296:Nat)=2^32 from rfl,← Nat.pow_mul]
theorem CP.bits {f:List Int} (h:CP f):Bd (2^TB) f:=fun j=>by
 have h1:=h.b j
 rw [bb_two,show 32*32=TB by rw [TB_eq]] at h1
 exact h1
structure Elm (p:List Int):Prop where
 b:Bd (2^CB) p
 l:p.length≤10
theorem two_fw {k:Nat} (h:k<3200000):2^k<BB^FW:=by
 rw [bb_two]
 exact Nat.pow_lt_pow_right (by decide) (by rw [FW_eq];omega)
theorem Elm.fit {p:List Int} (h:Elm p):FitP p:=fun j=>Nat.lt_of_le_of_lt (h.b j) (two_fw (by rw [CB_eq];decide))
theorem CP.bd {f:List Int} (h:CP f):Bd (2^CB) f:=h.bits.mono (Nat.pow_le_pow_right (by decide) (by rw [CB_eq,TB_eq];decide))
theorem CP.fit {f:List Int} (h:CP f):FitP f:=fun j=>Nat.lt_of_le_of_lt (h.bd j) (two_fw (by rw [CB_eq];decide))
structure PQ (f:List Int):Prop where
 len:plen f≤16
 b:∀ j,(f.getD j 0).natAbs≤BB^10
 pl:plen (qpart f)≤9
theorem qpart_nil {f:List Int} (h:plen f=0):qpart f=[]:=by unfold qpart;rw [if_pos h]
theorem PQ.fit {f:List Int} (h:PQ f):FitP f:=fun j=>Nat.lt_of_le_of_lt (h.b j) (Nat.pow_lt_pow_right (by rw [BB_eq];decide) (by rw [FW_eq];decide))
end Go.Proofs.Ytjmglmgokfcgoaa
namespace Go.Proofs.Ytjmglmgokfcgoaa
open Go.RowKit
set_option maxRecDepth 100000 in
set_option maxHeartbeats 1000000 in
theorem part_q {I:IntPred} (hI:IK I) (A:Option Addr) (la ca:Nat) (F:List Int) (w:World) (hf:PolyP I w A la ca F) (sf:SmP F) (hF:plen F≠0→QOK F) (hla:la≤1000000) :
  Calls Try.prog 67 #[.slice A la ca] w fun e w'=>∃ A1 l1 c1,e=.returned (.slice A1 l1 c1)∧PolyN w' A1 l1 c1 (qpart F)∧Below w.heap.size w w':=by
 by_cases F0:plen F=0
 ·have hq:=Lib.hid (qpart_nil F0)
  have hd:((plen F:Nat):Int)-1=-1:=by omega
  have Hd:=Lib.hid hd
  clear F0 hd hF
  go_enter Try.func67,Try.ntmps67
  go_wp2_with fail
  refine (degree_any _ _ _ _ _ (hf.at_ hI) sf (by omega)).mono ?_
  rintro e w1 ⟨rfl,hb1⟩
  rw [Hd.out]
  have Hb1:=Lib.hid hb1
  clear hf hb1
  go_wp2
  go_ret
  exact ⟨_,_,_,rfl,by rw [hq.out];exact PolyP.nil _ _ _ _,Hb1.out⟩
 have PF:=q_facts (hF F0) F0
 have hlen:=(hF F0).len
 have Hdf:Hid (((plen F:Nat):Int)-1=((plen F-1:Nat):Int)):=Lib.hid (by omega)
 have tP:=gp_trim F
 have hl1:plen (pprim F)≤16:=by rw [gp_plen];exact hlen
 obtain ⟨P,hP⟩:∃ P,P=pprim F:=⟨_,rfl⟩
 obtain ⟨D,hD⟩:∃ D,D=qdiv F:=⟨_,rfl⟩
 obtain ⟨Q,hQ⟩:∃ Q,Q=qpart F:=⟨_,rfl⟩
 have ga:=PF.ga
 have fP:=PF.fp
 have fdr:=PF.fr
 have fd:=PF.fd
 have d0:=PF.d0
 have dl:=PF.dl
 have ok:=PF.ok
 have he:=PF.e
 rw [← hP] at ga ok fP fdr hl1 tP he
 rw [← hD] at fd d0 dl ok he
 rw [← hQ] at he
 have hDe:gres P (pder P)=D:=by rw [hD,hP];rfl
 have HP:=Lib.hid hP
 have HD:=Lib.hid hDe
 have HQ:=Lib.hid he.symm
 rw [← hQ]
 have hpl:P.length≤16:=by rw [← tP,ptrim_length];exact hl1
 have hdl:(pder P).length≤16:=by rw [pder_length];omega
 clear PF hP hD hQ hDe he hF
 go_enter Try.func67,Try.ntmps67
 go_wp2_with fail
 refine (degree_any _ _ _ _ _ (hf.at_ hI) sf (by omega)).mono ?_
 rintro e w1 ⟨rfl,hb1⟩
 rw [Hdf.out]
 have dneg:¬ (((plen F-1:Nat):Int)<0):=by omega
 have hf1:=hf.below hI hb1
 have Hb1:=Lib.hid hb1
 clear hf hb1
 go_wp2_with fail
 refine (primitive_any hI _ _ _ _ _ hf1 sf (by omega)).mono ?_
 rintro e w3 ⟨A3,l3,c3,rfl,h3,hb3⟩
 rw [← HP.out] at h3
 have hl3:l3≤16:=by have:=h3.length;omega
 have H3:=Lib.hid h3
 have Hb3:=Lib.hid (Hb1.out.trans (hb3.mono Hb1.out.size))
 clear hf1 hb3 Hb1 dneg
 go_wp2_with fail
 refine (derivative_any ikN _ _ _ _ _ h3 fP.smp (by omega)).mono ?_
 rintro e w4 ⟨A4,l4,c4,rfl,h4,hb4⟩
 have hl4:l4≤16:=by have:=h4.length;omega
 have h34:=H3.out.below ikN hb4
 have Hb4:=Lib.hid (Hb3.out.trans (hb4.mono Hb3.out.size))
 have H34:=Lib.hid h34
 clear h3 hb4 H3 Hb3
 go_wp2_with fail
 refine (gcd_any ikN ikN _ _ _ P _ _ _ (pder P) _ h34 h4 fP.smp fdr.smp (by omega) (by omega) ga).mono ?_
 rintro e w5 ⟨A5,l5,c5,rfl,h5,hb5⟩
 rw [HD.out] at h5
 have hl5:l5≤16:=by have:=h5.length;omega
 have h35:=H34.out.below ikN hb5
 have Hb5:=Lib.hid (Hb4.out.trans (hb5.mono Hb4.out.size))
 clear h34 h4 hb5 H34 Hb4
 go_wp2_with fail
 refine (quotient_any ikN ikN _ _ _ P _ _ _ D 1000000000 _ h35 h5 fP.smp fd (by omega) (by omega) (by omega) (by omega) ok).mono ?_
 rintro e w6 ⟨A6,l6,c6,rfl,h6,hb6⟩
 rw [HQ.out] at h6
 have H6:=Lib.hid h6
 have Hb6:=Lib.hid (Hb5.out.trans (hb6.mono Hb5.out.size))
 clear h35 h5 h6 hb6 Hb5
 go_wp2
 go_ret
 exact ⟨_,_,_,rfl,H6.out,Hb6.out⟩
structure SqF (Q:List Int) (k:Nat):Prop where
 t:ptrim Q=Q
 q0:plen Q≠0
 len:plen Q≤10
 b:∀ j,(Q.getD j 0).natAbs≤BB^k
 s:∀ x,mult x Q≤1
theorem SqF.fit {Q:List Int} {k:Nat} (h:SqF Q k) (hk:k≤100):FitP Q:=fun j=>Nat.lt_of_le_of_lt (h.b j) (Nat.pow_lt_pow_right (by rw [BB_eq];decide) (by rw [FW_eq];omega))
def Hf (f:List Int) (a b:Pt) (xs:List Pt):Prop:=Lst (fun x=>sgp f x=0∧a<x∧(x<b∨x=b)) xs
end Go.Proofs.Ytjmglmgokfcgoaa
