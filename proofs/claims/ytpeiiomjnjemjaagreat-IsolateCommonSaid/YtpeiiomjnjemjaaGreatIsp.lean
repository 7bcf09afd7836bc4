/- What the bisection of package isolate finds, plain: the intervals, that they isolate the roots, and how deep it goes. No program. -/
import Derived.Test.YtpeiiomjnjemjaaGreatSqw
import Derived.Test.YtpeiiomjnjemjaaGreatCof
namespace Go.Proofs.YtpeiiomjnjemjaaGreat
open Go.RowKit
theorem pv_bd {H M:Rat} (hH:0<=H) (hM:1<=M):∀ (p:List Int),(∀ c∈p,-H<=(c:Rat)/\(c:Rat)<=H)->∀ q,-M<=q->q<=M->-((p.length:Rat)*H*M^p.length)<=pv p q/\pv p q<=(p.length:Rat)*H*M^p.length
 | [],_,q,_,_=>by
   show -(((0:Nat):Rat)*H*M^0)<=0/\(0:Rat)<=((0:Nat):Rat)*H*M^0
   have:((0:Nat):Rat)=0:=rfl
   rw[this]
   constructor<;>grind
 | a :: t,h,q,h1,h2=>by
   obtain ⟨ih1,ih2⟩:=pv_bd hH hM t (fun c hc=>h c (List.mem_cons_of_mem _ hc)) q h1 h2
   obtain ⟨a1,a2⟩:=h a (List.mem_cons_self ..)
   have hp:1<=M^t.length:=by
    have:∀ n:Nat,1<=M^n:=by
     intro n
     induction n with
     | zero=>rw[Rat.pow_zero];exact Rat.le_refl
     | succ n ih =>
       rw[Rat.pow_succ]
       have:=Rat.mul_le_mul_of_nonneg_left hM (show 0<=M^n by grind)
       grind
    exact this _
   show -(((t.length+1:Nat):Rat)*H*M^(t.length+1))<=(a:Rat)+q*pv t q/\(a:Rat)+q*pv t q<=((t.length+1:Nat):Rat)*H*M^(t.length+1)
   have e:((t.length+1:Nat):Rat)=(t.length:Rat)+1:=by push_cast;rfl
   rw[e,Rat.pow_succ]
   have hn:(0:Rat)<=(t.length:Rat):=by exact_mod_cast Nat.zero_le _
   generalize M^t.length=P at *
   generalize (t.length:Rat)=n at *
   generalize (a:Rat)=u at *
   generalize pv t q=v at *
   have hB:0<=n*H*P:=Rat.mul_nonneg (Rat.mul_nonneg hn hH) (by grind)
   have hb:=rmul_bd h1 h2 ih1 ih2
   have hHP:H<=H*(P*M):=by
    have h3:1<=P*M:=by
     have:=Rat.mul_le_mul_of_nonneg_left hM (show 0<=P by grind)
     grind
    have:=Rat.mul_le_mul_of_nonneg_left h3 hH
    grind
   constructor<;>grind
theorem pv_lip {H M:Rat} (hH:0<=H) (hM:1<=M):∀ (p:List Int),(∀ c∈p,-H<=(c:Rat)/\(c:Rat)<=H)->∀ q r,-M<=q->q<=M->-M<=r->r<=M->r<=q->-((p.length:Rat)*(p.length:Rat)*H*M^p.length*(q-r))<=pv p q-pv p r/\pv p q-pv p r<=(p.length:Rat)*(p.length:Rat)*H*M^p.length*(q-r)
 | [],_,q,r,_,_,_,_,_=>by
   show -(((0:Nat):Rat)*((0:Nat):Rat)*H*M^0*(q-r))<=0-0/\(0:Rat)-0<=((0:Nat):Rat)*((0:Nat):Rat)*H*M^0*(q-r)
   have:((0:Nat):Rat)=0:=rfl
   rw[this]
   constructor<;>grind
 | a :: t,h,q,r,h1,h2,h3,h4,h5=>by
   have ht:∀ c∈t,-H<=(c:Rat)/\(c:Rat)<=H:=fun c hc=>h c (List.mem_cons_of_mem _ hc)
   obtain ⟨ih1,ih2⟩:=pv_lip hH hM t ht q r h1 h2 h3 h4 h5
   obtain ⟨b1,b2⟩:=pv_bd hH hM t ht r h3 h4
   have hp:0<=M^t.length:=Rat.pow_nonneg (by grind)
   show -(((t.length+1:Nat):Rat)*((t.length+1:Nat):Rat)*H*M^(t.length+1)*(q-r))<=(a:Rat)+q*pv t q-((a:Rat)+r*pv t r)/\(a:Rat)+q*pv t q-((a:Rat)+r*pv t r)<=((t.length+1:Nat):Rat)*((t.length+1:Nat):Rat)*H*M^(t.length+1)*(q-r)
   have e:((t.length+1:Nat):Rat)=(t.length:Rat)+1:=by push_cast;rfl
   rw[e,Rat.pow_succ]
   have hn:(0:Rat)<=(t.length:Rat):=by exact_mod_cast Nat.zero_le _
   generalize M^t.length=P at *
   generalize (t.length:Rat)=n at *
   generalize (a:Rat)=u at *
   generalize pv t q=v at *
   generalize pv t r=s at *
   obtain ⟨d,hd⟩:∃ d,d=q-r:=⟨_,rfl⟩
   have hd0:0<=d:=by grind
   have c1:=rmul_bd h1 h2 ih1 ih2
   have c2:-(n*H*P*d)<=s*d/\s*d<=n*H*P*d:=by
    have x1:=Rat.mul_le_mul_of_nonneg_right b1 hd0
    have x2:=Rat.mul_le_mul_of_nonneg_right b2 hd0
    constructor<;>grind
   have hHP:0<=H*P*d:=Rat.mul_nonneg (Rat.mul_nonneg hH hp) hd0
   have hMd:H*P*d<=M*(H*P*d):=by
    have:=Rat.mul_le_mul_of_nonneg_right hM hHP
    grind
   have hn2:n*(H*P*d)<=n*(M*(H*P*d)):=Rat.mul_le_mul_of_nonneg_left hMd hn
   have hn3:0<=n*(M*(H*P*d)):=Rat.mul_nonneg hn (by grind)
   have e2:u+q*v-(u+r*s)=q*(v-s)+s*d:=by rw[hd];grind
   rw[e2,<- hd]
   rw[<- hd] at c1
   constructor<;>grind
section
variable {f g:List Int} {m n G e N H:Nat}
theorem SInv.uv (ok:GOK G m n e N) (hlow:∀ p,Comb f g p->1<=plen p->e+1<=plen p) (hf:∀ k,(f.getD k 0).natAbs*(m+n)<=G) (hg:∀ k,(g.getD k 0).natAbs*(m+n)<=G) (bf:∀ k,(f.getD k 0).natAbs<=H) (bg:∀ k,(g.getD k 0).natAbs<=H):∀ (k:Nat) (t:RS) (C:Int),SInv f g m n G e t C->t.b.length<=k->2<=t.b.length->plen (lst t.b (rsq k t))=1 ->
  ∃ (U V:List Int) (c:Int),c≠0/\U.length<=n/\V.length<=m/\(∀ t,(U.getD t 0).natAbs<=((n+m)*H+1)^(n+m))/\(∀ t,(V.getD t 0).natAbs<=((n+m)*H+1)^(n+m))/\∀ x,ev U x*ev f x+ev V x*ev g x=c
 | 0,t,C,h,hk,h2,_=>by omega
 | k+1,t,C,h,hk,h2,hl=>by
   by_cases hr:psr t.a t.b=[]
   ·have e1:rsq (k+1) t=[]:=by simp[rsq,hr]
    rw[e1] at hl
    have:plen t.b=1:=hl
    have:=h.tb
    omega
   ·obtain ⟨_,s2,s3⟩:=h.step ok hlow hf hg hr
    have e1:rsq (k+1) t=t.rest :: rsq k t.next:=by rw[rsq,if_neg hr]
    rw[e1] at hl
    have hl':plen (lst t.next.b (rsq k t.next))=1:=hl
    have hb0:1<=t.rest.length:=s2.b0
    by_cases h1:t.rest.length=1
    ·obtain ⟨U,V,u1,u2,u3,u4,u5⟩:=sres_uv (f:=f) (g:=g) (m:=m) (n:=n) (j:=t.b.length-1-1) (H:=H) bf bg
     have hrest:=fun k=>(h.rest hr k).1
     have tr:=h.restTrim hr
     have hbd:((n-(t.b.length-1-1)+(m-(t.b.length-1-1)))*H)^(n-(t.b.length-1-1)+(m-(t.b.length-1-1))-1)<=((n+m)*H+1)^(n+m):=by
      have x1:(n-(t.b.length-1-1)+(m-(t.b.length-1-1)))*H<=(n+m)*H+1:=Nat.le_succ_of_le (Nat.mul_le_mul_right _ (by omega))
      exact Nat.le_trans (Nat.pow_le_pow_left x1 _) (Nat.pow_le_pow_right (by omega) (by omega))
     refine ⟨U,V,sres (fn f) m (fn g) n (t.b.length-1-1) 0,?_,by omega,by omega,fun t=>Nat.le_trans (u3 t) hbd,fun t=>Nat.le_trans (u4 t) hbd,fun x=>?_⟩
     ·have x1:=hrest 0
      have x2:t.rest.getD 0 0≠0:=plen_lead t.rest 0 (by omega)
      omega
     ·have x1:∀ k,(polymul U f).getD k 0+(polymul V g).getD k 0=[sres (fn f) m (fn g) n (t.b.length-1-1) 0].getD k 0:=fun k=>by
       rw[polymul_getD,polymul_getD,<- u5 k]
       match k with
       | 0=>rfl
       | k+1 =>
         have x2:=hrest (k+1)
         rw[getD_out t.rest (by omega)] at x2
         have x3:sres (fn f) m (fn g) n (t.b.length-1-1) (k+1)=0:=by
          have:(0:Int).natAbs=0:=rfl
          omega
         rw[x3];rfl
      have x2:ev (padd (polymul U f) (polymul V g)) x=ev [sres (fn f) m (fn g) n (t.b.length-1-1) 0] x:=ev_congr (fun k=>by rw[<- x1 k,padd_get]) x
      rw[ev_padd,ev_mul,ev_mul,ev_const] at x2
      exact x2
    ·exact SInv.uv ok hlow hf hg bf bg k t.next _ s2 (by show t.rest.length<=k;omega) (by show 2<=t.rest.length;omega) hl'
end
theorem bez {S:List Int} {k:Nat} (tS:ptrim S=S) (l2:2<=plen S) (l10:plen S<=13) (hb:∀ j,(S.getD j 0).natAbs<=BB^k) (hk:k<=60) (hc:∀ p,Dvq p S->Dvq p (pder S)->plen p<=1) :
  ∃ (U V:List Int) (c:Int),c≠0/\U.length<=13/\V.length<=13/\(∀ j,(U.getD j 0).natAbs<=BB^(26*(k+3)))/\(∀ j,(V.getD j 0).natAbs<=BB^(26*(k+3)))/\∀ x,ev U x*ev S x+ev V x*ev (pder S) x=c:=by
 have lS:S.length=plen S:=by rw[<- ptrim_length,tS]
 have pd:=pder_plen l2
 have ld:(pder S).length=plen S-1:=pder_length S
 have hd:∀ j,((pder S).getD j 0).natAbs<=BB^(k+1):=pder_abs (by omega) hb
 have hb':∀ j,(S.getD j 0).natAbs<=BB^(k+1):=fun j=>Nat.le_trans (hb j) (bbk_le (by omega))
 by_cases l3:plen S=2
 ·have e1:plen (pder S)=1:=by omega
  refine ⟨[],[1],(pder S).getD 0 0,plen_lead _ 0 (by omega),by decide,by decide,fun j=>by simp,fun j=>?_,fun x=>?_⟩
  ·have h1:1<=BB^(26*(k+3)):=Nat.pow_pos BB_pos
   match j with
   | 0=>exact h1
   | j+1=>simp
  ·rw[ev_nil,ev_const,Int.zero_mul,Int.zero_add,Int.one_mul]
   rw[ev_congr (p:=pder S) (q:=[(pder S).getD 0 0]) (fun j=>?_) x,ev_const]
   match j with
   | 0=>rfl
   | j+1=>rw[getD_ge_plen (pder S) (j+1) (by omega)];rfl
 ·obtain ⟨m,hm⟩:∃ m,plen S=m+1:=⟨plen S-1,by omega⟩
  obtain ⟨n,hn⟩:∃ n,m=n+1:=⟨m-1,by omega⟩
  have hG:1<=BB^(k+2):=Nat.pow_pos BB_pos
  have ok:GOK (BB^(k+2)) m n 0 1100:=gok_big (by omega) hG (Nat.pow_lt_pow_right (by rw[BB_eq];decide) (by omega))
  have up:∀ {x:Nat},x<=BB^(k+1)->x*(m+n)<=BB^(k+2):=fun hx=>by
   rw[Nat.pow_succ]
   exact Nat.mul_le_mul hx (by rw[BB_eq];omega)
  have hs:=sinv_start (f:=S) (g:=pder S) (m:=m) (n:=n) (G:=BB^(k+2)) (e:=0) (by omega) (by omega) (by omega) (by omega) (by omega) (by omega) hG (fun j=>Nat.le_trans (hb' j) (bbk_le (by omega))) (fun j=>Nat.le_trans (hd j) (bbk_le (by omega)))
  have hlow:∀ p,Comb S (pder S) p->1<=plen p->0+1<=plen p:=fun p _ h=>by omega
  obtain ⟨_,d1,d2⟩:=SInv.spec ok hlow (fun j=>up (hb' j)) (fun j=>up (hd j)) 20 _ _ hs (by show (pder S).length<=20;omega)
  obtain ⟨L,hL⟩:∃ L,L=lst (pder S) (rsq 20 ⟨S,pder S,-1,(-1)^(S.length-(pder S).length+1)⟩):=⟨_,rfl⟩
  have hl1:plen L<=1:=by rw[hL];exact hc _ d1 d2
  have hl0:plen L≠0:=by
   rw[hL]
   intro e0
   obtain ⟨c,q,hc0,e⟩:=d2
   have:plen (pder S)=0:=by
    refine Classical.byContradiction fun hn=>?_
    refine (plen_cmul (p:=pder S) (r:=psc c (pder S)) hc0 (fun t=>ev_psc _ _ _)).2 hn ?_
    rw[plen_ev (r:=polymul q (lst (pder S) (rsq 20 ⟨S,pder S,-1,(-1)^(S.length-(pder S).length+1)⟩))) fun t=>by rw[ev_psc,ev_mul,e]]
    exact rmul_zero (.inr e0)
   omega
  obtain ⟨U,V,c,c0,u1,u2,u3,u4,u5⟩:=SInv.uv ok hlow (fun j=>up (hb' j)) (fun j=>up (hd j)) hb' hd 20 _ _ hs (by show (pder S).length<=20;omega) (by show 2<=(pder S).length;omega) (by show plen (lst (pder S) _)=1;rw[<- hL];omega)
  have hbd:((n+m)*BB^(k+1)+1)^(n+m)<=BB^(26*(k+3)):=by
   have x1:(n+m)*BB^(k+1)+1<=BB^(k+2):=by
    have:BB^(k+1)*26<=BB^(k+1)*BB:=Nat.mul_le_mul_left _ (by rw[BB_eq];decide)
    have h1:1<=BB^(k+1):=Nat.pow_pos BB_pos
    have h2:(n+m)*BB^(k+1)<=25*BB^(k+1):=Nat.mul_le_mul_right _ (by omega)
    have e9:BB^(k+2)=BB^(k+1)*BB:=Nat.pow_succ ..
    rw[e9]
    omega
   calc ((n+m)*BB^(k+1)+1)^(n+m)<=(BB^(k+2))^(n+m):=Nat.pow_le_pow_left x1 _
    _=BB^((k+2)*(n+m)):=by rw[<- Nat.pow_mul]
    _<=BB^(26*(k+3)):=bbk_le (by
     have:(k+2)*(n+m)<=(k+2)*26:=Nat.mul_le_mul_left _ (by omega)
     omega)
  exact ⟨U,V,c,c0,by omega,by omega,fun j=>Nat.le_trans (u3 j) hbd,fun j=>Nat.le_trans (u4 j) hbd,u5⟩
end Go.Proofs.YtpeiiomjnjemjaaGreat
namespace Go.Proofs.YtpeiiomjnjemjaaGreat
open Go.RowKit
structure Core (Q S:List Int):Prop where
 t:ptrim S=S
 n:plen S≠0
 d:∃ T:List Int,∀ x,ev Q x=ev S x*ev T x
 r:∀ x,sgp S x=0↔sgp Q x=0
theorem core_ex {Q:List Int} {k:Nat} (h:SqF Q k):∀ (n:Nat) (S:List Int),plen S<=n->Core Q S->∃ S',Core Q S'/\∀ p,Dvq p S'->Dvq p (pder S')->plen p<=1:=by
 intro n
 induction n with
 | zero=>intro S hn hS;exact absurd hS.n (by omega)
 | succ n ih =>
   intro S hn hS
   by_cases hc:∀ p,Dvq p S->Dvq p (pder S)->plen p<=1
   ·exact ⟨S,hS,hc⟩
   ·obtain ⟨p,hp⟩:=Classical.not_forall.1 hc
    obtain ⟨p1,hp⟩:=Classical.not_imp.1 hp
    obtain ⟨p2,hp⟩:=Classical.not_imp.1 hp
    have p0:plen p≠0:=by omega
    obtain ⟨c,q,hc0,e⟩:=p1
    have hk:=gp_ne p0
    have e2:∀ x,ev p x=(sg (plead p)*(pcont p:Int))*ev (pprim p) x:=fun x=>by
     rw[<- ev_psc]
     exact ev_congr (fun k=>by rw[psc_get];exact gp_get p0 k) x
    obtain ⟨s,hs⟩:=gauss_div (l:=pprim p) (f:=S) (r:=psc (sg (plead p)*(pcont p:Int)) q) (gp_cont p0) hc0 (fun x=>by rw[e,e2,ev_psc];grind)
    obtain ⟨T,hT⟩:∃ T,T=ptrim s:=⟨_,rfl⟩
    have hST:∀ x,ev S x=ev (pprim p) x*ev T x:=fun x=>by rw[hT,ev_ptrim];exact hs x
    have T0:plen T≠0:=fun e0=>hS.n (by rw[plen_ev (r:=polymul (pprim p) T) fun x=>by rw[ev_mul,hST]];exact rmul_zero (.inr e0))
    have q0:plen (pprim p)≠0:=by rw[gp_plen];exact p0
    have hl:plen S=plen (pprim p)+plen T-1:=by
     rw[plen_ev (r:=polymul (pprim p) T) fun x=>by rw[ev_mul,hST]]
     exact (plen_mul (by omega) (by omega)).1
    rw[gp_plen] at hl
    obtain ⟨W,hW⟩:=hS.d
    have hm:∀ x,mult x S=mult x (pprim p)+mult x T:=mult_ev_mul hST q0 T0
    have hpm:∀ x,mult x p=mult x (pprim p):=mult_cmul hk e2 q0
    refine ih T (by omega) ⟨by rw[hT,ptrim_ptrim],T0,⟨polymul (pprim p) W,fun x=>by rw[hW,hST,ev_mul];grind⟩,fun x=>?_⟩
    constructor
    ·intro hx
     rw[<- hS.r,sgp_ev (r:=polymul (pprim p) T) (fun x=>by rw[ev_mul,hST]) x,sgp_mul,hx,Int.mul_zero]
    ·intro hx
     have hx':=(hS.r x).2 hx
     have h1:=h.s x
     have h2:mult x S<=mult x Q:=dvq_mult ⟨1,W,by decide,fun x=>by rw[Int.one_mul,hW,Int.mul_comm]⟩ h.q0 x
     obtain ⟨h3,h4⟩:=mult_pder hS.n hx'
     have h5:=dvq_mult p2 h4 x
     have h6:=hm x
     have h7:=hpm x
     refine Classical.byContradiction fun hn=>?_
     have h8:=(mult_zero T0).2 hn
     omega
theorem core {Q:List Int} {k:Nat} (h:SqF Q k):∃ S,Core Q S/\∀ p,Dvq p S->Dvq p (pder S)->plen p<=1 :=
 core_ex h (plen Q) Q (Nat.le_refl _) ⟨h.t,h.q0,⟨[1],fun x=>by rw[ev_const,Int.mul_one]⟩,fun _=>Iff.rfl⟩
theorem int_abs_rat {c:Int} {N:Nat} (h:c.natAbs<=N):-((N:Nat):Rat)<=(c:Rat)/\(c:Rat)<=((N:Nat):Rat):=by
 have h1:(c:Int)<=(N:Int):=by omega
 have h2:-(N:Int)<=c:=by omega
 constructor
 ·have:(((-(N:Int)):Int):Rat)<=((c:Int):Rat):=Rat.intCast_le_intCast.2 h2
  rw[Rat.intCast_neg,Rat.intCast_natCast] at this
  exact this
 ·have:((c:Int):Rat)<=(((N:Int)):Rat):=Rat.intCast_le_intCast.2 h1
  rw[Rat.intCast_natCast] at this
  exact this
theorem coef_rat {p:List Int} {N:Nat} (h:∀ j,(p.getD j 0).natAbs<=N):∀ c∈p,-((N:Nat):Rat)<=(c:Rat)/\(c:Rat)<=((N:Nat):Rat):=fun c hc=>by
 obtain ⟨j,hj⟩:=List.getElem?_of_mem hc
 have e1:p.getD j 0=c:=by rw[List.getD_eq_getElem?_getD,hj];rfl
 rw[<- e1]
 exact int_abs_rat (h j)
theorem pow_one_le {M:Rat} (hM:1<=M):∀ n:Nat,1<=M^n:=by
 intro n
 induction n with
 | zero=>rw[Rat.pow_zero];exact Rat.le_refl
 | succ n ih =>
   rw[Rat.pow_succ]
   have:=Rat.mul_le_mul_of_nonneg_left hM (show 0<=M^n by grind)
   grind
theorem pow_up {M:Rat} (hM:1<=M) {a b:Nat} (h:a<=b):M^a<=M^b:=by
 obtain ⟨d,rfl⟩:∃ d,b=a+d:=⟨b-a,by omega⟩
 clear h
 induction d with
 | zero=>exact Rat.le_refl
 | succ d ih =>
   rw[show a+(d+1)=(a+d)+1 by omega,Rat.pow_succ]
   have h1:=pow_one_le hM (a+d)
   have:=Rat.mul_le_mul_of_nonneg_left hM (show 0<=M^(a+d) by grind)
   grind
theorem pv_bd10 {H:Nat} {M:Rat} (hM:1<=M) {p:List Int} (hl:p.length<=13) (h:∀ j,(p.getD j 0).natAbs<=H) (q:Rat) (h1:-M<=q) (h2:q<=M):-(13*(H:Rat)*M^13)<=pv p q/\pv p q<=13*(H:Rat)*M^13:=by
 have hH:(0:Rat)<=(H:Rat):=by exact_mod_cast Nat.zero_le _
 obtain ⟨b1,b2⟩:=pv_bd hH hM p (coef_rat h) q h1 h2
 have hn:((p.length:Nat):Rat)<=13:=by exact_mod_cast hl
 have hn0:(0:Rat)<=((p.length:Nat):Rat):=by exact_mod_cast Nat.zero_le _
 have hp:=pow_up hM hl
 have hp1:=pow_one_le hM p.length
 have x1:((p.length:Nat):Rat)*(H:Rat)<=13*(H:Rat):=Rat.mul_le_mul_of_nonneg_right hn hH
 have x2:((p.length:Nat):Rat)*(H:Rat)*M^p.length<=13*(H:Rat)*M^p.length:=Rat.mul_le_mul_of_nonneg_right x1 (by grind)
 have x3:13*(H:Rat)*M^p.length<=13*(H:Rat)*M^13:=Rat.mul_le_mul_of_nonneg_left hp (by grind)
 constructor<;>grind
theorem pv_lip10 {H:Nat} {M:Rat} (hM:1<=M) {p:List Int} (hl:p.length<=13) (h:∀ j,(p.getD j 0).natAbs<=H) {q r w:Rat} (h1:-M<=q) (h2:q<=M) (h3:-M<=r) (h4:r<=M) (h5:q-r<=w) (h6:r-q<=w):-(169*(H:Rat)*M^13*w)<=pv p q-pv p r/\pv p q-pv p r<=169*(H:Rat)*M^13*w:=by
 have hH:(0:Rat)<=(H:Rat):=by exact_mod_cast Nat.zero_le _
 have key:∀ {a b:Rat},-M<=a->a<=M->-M<=b->b<=M->b<=a->a-b<=w->-(169*(H:Rat)*M^13*w)<=pv p a-pv p b/\pv p a-pv p b<=169*(H:Rat)*M^13*w:=by
  intro a b k1 k2 k3 k4 k5 k6
  obtain ⟨b1,b2⟩:=pv_lip hH hM p (coef_rat h) a b k1 k2 k3 k4 k5
  have hn:((p.length:Nat):Rat)*((p.length:Nat):Rat)<=169:=by
   have:p.length*p.length<=169:=Nat.mul_le_mul hl hl
   exact_mod_cast this
  have hn0:(0:Rat)<=((p.length:Nat):Rat)*((p.length:Nat):Rat):=by
   have:(0:Nat)<=p.length*p.length:=Nat.zero_le _
   exact_mod_cast this
  have hp:=pow_up hM hl
  have hp1:=pow_one_le hM p.length
  have x1:((p.length:Nat):Rat)*((p.length:Nat):Rat)*(H:Rat)<=169*(H:Rat):=Rat.mul_le_mul_of_nonneg_right hn hH
  have x2:((p.length:Nat):Rat)*((p.length:Nat):Rat)*(H:Rat)*M^p.length<=169*(H:Rat)*M^p.length:=Rat.mul_le_mul_of_nonneg_right x1 (by grind)
  have x3:169*(H:Rat)*M^p.length<=169*(H:Rat)*M^13:=Rat.mul_le_mul_of_nonneg_left hp (by grind)
  have x4:((p.length:Nat):Rat)*((p.length:Nat):Rat)*(H:Rat)*M^p.length*(a-b)<=169*(H:Rat)*M^13*(a-b):=Rat.mul_le_mul_of_nonneg_right (by grind) (by grind)
  have x5:0<=169*(H:Rat)*M^13:=Rat.mul_nonneg (by grind) (by have:=pow_one_le hM 13;grind)
  have x6:=Rat.mul_le_mul_of_nonneg_left k6 x5
  constructor<;>grind
 rcases Rat.le_total (a:=r) (b:=q) with c | c
 ·exact key h1 h2 h3 h4 c h5
 ·obtain ⟨y1,y2⟩:=key h3 h4 h1 h2 c h6
  constructor<;>grind
noncomputable def sepD (k:Nat) (M:Rat):Rat:=2*(13*((BB^(26*(k+9)):Nat):Rat)*M^13)*(169*((BB^(k+6):Nat):Rat)*M^13)+1
theorem sep {Q:List Int} {k:Nat} (h:SqF Q k) (hk:k<=50) {M a b:Rat} (hM:1<=M) (ha:-M<=a) (hb:b<=M) {x y:Pt} (hx:sgp Q x=0) (hy:sgp Q y=0) (hxy:x<y) (hax:¬ x<Pt.of a) (hyb:¬ Pt.of b<y):1<=sepD k M*(b-a):=by
 obtain ⟨S,hS,hc⟩:=core h
 have hx':=(hS.r x).2 hx
 have hy':=(hS.r y).2 hy
 obtain ⟨T,hT⟩:=hS.d
 have hbS:∀ j,(S.getD j 0).natAbs<=BB^(k+6):=factor_le (by have:=h.len;omega) h.q0 h.b (g:=T) (fun x=>by rw[hT,Int.mul_comm])
 have hlS:plen S<=13:=Nat.le_trans (dvq_plen ⟨1,T,by decide,fun x=>by rw[Int.one_mul,hT,Int.mul_comm]⟩ h.q0) h.len
 have l2:2<=plen S:=by
  refine Classical.byContradiction fun hn=>?_
  have h1:=hS.n
  have h2:=sgp_one (p:=S) (by omega) x
  rw[hx'] at h2
  exact sg_ne (plead_ne h1) h2.symm
 obtain ⟨U,V,c,c0,u1,u2,u3,u4,u5⟩:=bez hS.t l2 hlS hbS (by omega) hc
 obtain ⟨z,xz,zy,hz⟩:=sgp_rolle hxy hx' hy'
 refine Classical.byContradiction fun hcon=>?_
 have hid:∀ q,pv U q*pv S q+pv V q*pv (pder S) q=(c:Rat):=fun q=>by
  have e1:=pv_congr (padd (polymul U S) (polymul V (pder S))) [c] (ev_inj (fun x=>by rw[ev_padd,ev_mul,ev_mul,ev_const,u5])) q
  rw[pv_padd,pv_polymul,pv_polymul] at e1
  rw[e1]
  show (c:Rat)+q*0=c
  grind
 obtain ⟨BU,hBU⟩:∃ B,B=13*((BB^(26*(k+9)):Nat):Rat)*M^13:=⟨_,rfl⟩
 obtain ⟨K,hK⟩:∃ K,K=169*((BB^(k+6):Nat):Rat)*M^13:=⟨_,rfl⟩
 have hp10:=pow_one_le hM 13
 have hBU0:1<=BU:=by
  have:(1:Rat)<=((BB^(26*(k+9)):Nat):Rat):=by
   have:1<=BB^(26*(k+9)):=Nat.pow_pos BB_pos
   exact_mod_cast this
  rw[hBU]
  have:=Rat.mul_le_mul_of_nonneg_left hp10 (show 0<=13*((BB^(26*(k+9)):Nat):Rat) by grind)
  grind
 have hK0:0<=K:=by
  rw[hK]
  have:(0:Rat)<=((BB^(k+6):Nat):Rat):=by exact_mod_cast Nat.zero_le _
  exact Rat.mul_nonneg (by grind) (by grind)
 have hD:sepD k M=2*BU*K+1:=by unfold sepD;rw[<- hBU,<- hK]
 rw[hD] at hcon
 obtain ⟨e,he⟩:∃ e:Rat,e=1 / (8*BU):=⟨_,rfl⟩
 have he0:0<e:=by rw[he,Rat.div_def,Rat.one_mul];exact Rat.inv_pos.2 (by grind)
 have heB:BU*e=1 / 8:=by rw[he,Rat.div_def,Rat.div_def];grind
 obtain ⟨l1,v1,n1,f1⟩:=sgf_sml (lp_pv S) hx' e he0
 obtain ⟨l3,v3,n3,f3⟩:=sgf_sml (lp_pv (pder S)) hz e he0
 -- r beside x, q beside z, both between x and y
 obtain ⟨y1,w1,w2,w3⟩:=Pt.two_up (x:=x) (a:=Pt.of v1) (b:=z) (Pt.lt_of.2 n1.2) xz
 obtain ⟨r,r1,r2⟩:=Pt.mid w1
 obtain ⟨y2,w4,w5,w6⟩:=Pt.two_lo (x:=z) (a:=Pt.of l3) (b:=x) (Pt.of_lt.2 n3.1) xz
 obtain ⟨q,q1,q2⟩:=Pt.mid w4
 have hlr:l1<r:=Pt.of_lt_of.1 (Pt.lt_trans (Pt.of_lt.2 n1.1) r1)
 have hrv:r<v1:=Pt.of_lt_of.1 (Pt.lt_trans r2 w2)
 have hlq:l3<q:=Pt.of_lt_of.1 (Pt.lt_trans w5 q1)
 have hqv:q<v3:=Pt.of_lt_of.1 (Pt.lt_trans q2 (Pt.lt_of.2 n3.2))
 have hle:∀ {s t:Pt},¬ s<t->∀ {r:Pt},s<r->t<r:=fun {s t} h {r} h1=>by
  rcases Pt.tri s t with c | c | c
  ·exact absurd c h
  ·rw[<- c];exact h1
  ·exact Pt.lt_trans c h1
 have hge:∀ {s t:Pt},¬ s<t->∀ {r:Pt},r<t->r<s:=fun {s t} h {r} h1=>by
  rcases Pt.tri s t with c | c | c
  ·exact absurd c h
  ·rw[c];exact h1
  ·exact Pt.lt_trans h1 c
 have har:a<r:=Pt.of_lt_of.1 (hle hax r1)
 have hrb:r<b:=Pt.of_lt_of.1 (hge hyb (Pt.lt_trans r2 (Pt.lt_trans w3 zy)))
 have haq:a<q:=Pt.of_lt_of.1 (hle hax (Pt.lt_trans w6 q1))
 have hqb:q<b:=Pt.of_lt_of.1 (hge hyb (Pt.lt_trans q2 zy))
 obtain ⟨s1,s2⟩:=f1 r hlr hrv
 obtain ⟨s3,s4⟩:=f3 q hlq hqv
 have hlS':S.length<=13:=by rw[<- hS.t,ptrim_length];exact hlS
 obtain ⟨p1,p2⟩:=pv_lip10 (w:=b-a) hM hlS' hbS (q:=q) (r:=r) (by grind) (by grind) (by grind) (by grind) (by grind) (by grind)
 rw[<- hK] at p1 p2
 obtain ⟨b1,b2⟩:=pv_bd10 hM u1 u3 q (by grind) (by grind)
 obtain ⟨b3,b4⟩:=pv_bd10 hM u2 u4 q (by grind) (by grind)
 rw[show k+6+3=k+9 by omega,<- hBU] at b1 b2 b3 b4
 have hs:=hid q
 obtain ⟨w,hw⟩:∃ w,w=b-a:=⟨_,rfl⟩
 rw[<- hw] at p1 p2 hcon
 have hw0:0<w:=by rw[hw];grind
 have m1:=rmul_bd (a:=pv U q) (b:=pv S q) (e:=BU) (k:=e+K*w) b1 b2 (by grind) (by grind)
 have m2:=rmul_bd (a:=pv V q) (b:=pv (pder S) q) (e:=BU) (k:=e) b3 b4 s3 s4
 have hKw:0<=BU*(K*w):=Rat.mul_nonneg (by grind) (Rat.mul_nonneg hK0 (by grind))
 have ec:BU*(e+K*w)=1 / 8+BU*(K*w):=by rw[Rat.mul_add,heB]
 have hcc:(1:Rat)<=(c:Rat)∨(c:Rat)<=-1:=by
  rcases Int.lt_or_lt_of_ne c0 with h1 | h1
  ·right
   have:((c:Int):Rat)<=((-1:Int):Rat):=Rat.intCast_le_intCast.2 (by omega)
   exact this
  ·left
   have:((1:Int):Rat)<=((c:Int):Rat):=Rat.intCast_le_intCast.2 (by omega)
   exact this
 have hcon2:2*(BU*(K*w))+w<1:=by
  have:(2*BU*K+1)*w<1:=by grind
  grind
 rcases hcc with h1 | h1<;>grind
end Go.Proofs.YtpeiiomjnjemjaaGreat
namespace Go.Proofs.YtpeiiomjnjemjaaGreat
open Go.RowKit
structure Fq where
 z:Int
 q:Nat
def Fq.v (a:Fq):Rat:=(a.z:Rat) / (a.q:Rat)
def Fq.p (a:Fq):Pt:=Pt.of a.v
def Fq.nf (a:Fq):Fq:=⟨rz a.z a.q,rq a.z a.q⟩
def Fq.mid (a b:Fq):Fq:=⟨(a.z*(b.q:Int)+b.z*(a.q:Int)).tdiv (Nat.gcd (a.z*(b.q:Int)+b.z*(a.q:Int)).natAbs (a.q*b.q*2)),a.q*b.q*2 / Nat.gcd (a.z*(b.q:Int)+b.z*(a.q:Int)).natAbs (a.q*b.q*2)⟩
theorem nf_v {z:Int} {q:Nat} (hq:0<q):((rz z q:Int):Rat) / ((rq z q:Nat):Rat)=(z:Rat) / (q:Rat)/\0<rq z q/\Nat.gcd (rz z q).natAbs (rq z q)=1:=by
 obtain ⟨g,hg⟩:∃ g,g=Nat.gcd z.natAbs q:=⟨_,rfl⟩
 have hg0:0<g:=by rw[hg];exact Nat.gcd_pos_of_pos_right _ hq
 have hd1:(g:Int)∣z:=by rw[hg,<- Int.natAbs_dvd_natAbs,Int.natAbs_natCast];exact Nat.gcd_dvd_left _ _
 have hd2:g∣q:=by rw[hg];exact Nat.gcd_dvd_right _ _
 obtain ⟨a,ha⟩:=hd1
 obtain ⟨b,hb⟩:=hd2
 have e1:rz z q=a:=by unfold rz;rw[<- hg,ha,Int.mul_tdiv_cancel_left _ (by omega)]
 have e2:rq z q=b:=by unfold rq;rw[<- hg,hb,Nat.mul_div_cancel_left _ hg0]
 have hb0:0<b:=Nat.pos_of_ne_zero fun h=>by rw[h,Nat.mul_zero] at hb;omega
 rw[e1,e2]
 refine ⟨?_,hb0,?_⟩
 ·have hbr:(0:Rat)<((b:Nat):Rat):=by exact_mod_cast hb0
  have hgr:(0:Rat)<((g:Nat):Rat):=by exact_mod_cast hg0
  have hgb:=Rat.mul_pos hgr hbr
  rw[ha,hb,Rat.intCast_mul,Rat.natCast_mul,Rat.intCast_natCast,Rat.div_def,Rat.div_def]
  generalize ((g:Nat):Rat)=x at *
  generalize ((b:Nat):Rat)=y at *
  generalize ((a:Int):Rat)=u at *
  grind
 ·have h1:Nat.gcd z.natAbs q=g*Nat.gcd a.natAbs b:=by
   rw[ha,hb,Int.natAbs_mul,Int.natAbs_natCast,Nat.gcd_mul_left]
  rw[<- hg] at h1
  exact Nat.eq_of_mul_eq_mul_left hg0 (by rw[<- h1,Nat.mul_one])
theorem Fq.nf_v {a:Fq} (h:0<a.q):a.nf.v=a.v/\0<a.nf.q:=⟨(Go.Proofs.YtpeiiomjnjemjaaGreat.nf_v h).1,(Go.Proofs.YtpeiiomjnjemjaaGreat.nf_v h).2.1⟩
theorem Fq.mid_v {a b:Fq} (ha:0<a.q) (hb:0<b.q):(a.mid b).v=(a.v+b.v) / 2/\0<(a.mid b).q:=by
 have hq:0<a.q*b.q*2:=Nat.mul_pos (Nat.mul_pos ha hb) (by decide)
 obtain ⟨h1,h2,_⟩:=Go.Proofs.YtpeiiomjnjemjaaGreat.nf_v (z:=a.z*(b.q:Int)+b.z*(a.q:Int)) hq
 refine ⟨?_,h2⟩
 show ((rz (a.z*(b.q:Int)+b.z*(a.q:Int)) (a.q*b.q*2):Int):Rat) / ((rq (a.z*(b.q:Int)+b.z*(a.q:Int)) (a.q*b.q*2):Nat):Rat)=_
 rw[h1]
 unfold Fq.v
 have x1:(0:Rat)<((a.q:Nat):Rat):=by exact_mod_cast ha
 have x2:(0:Rat)<((b.q:Nat):Rat):=by exact_mod_cast hb
 rw[Rat.intCast_add,Rat.intCast_mul,Rat.intCast_mul,Rat.natCast_mul,Rat.natCast_mul,Rat.intCast_natCast,Rat.intCast_natCast]
 rw[Rat.div_def,Rat.div_def,Rat.div_def,Rat.div_def]
 have x3:=Rat.mul_pos x1 x2
 have e2:((2:Nat):Rat)=2:=rfl
 rw[e2]
 generalize ((a.q:Nat):Rat)=s at *
 generalize ((b.q:Nat):Rat)=t at *
 generalize ((a.z:Int):Rat)=u at *
 generalize ((b.z:Int):Rat)=v at *
 grind
def Fq.chg (PS:List (List Int)) (a:Fq):Nat:=(vst (PS.map (sat a.z a.q)) PS.length).1
def Fq.sgn (Q:List Int) (a:Fq):Int:=sat a.z a.q Q
def isl (Q:List Int) (PS:List (List Int)):Nat->Fq->Fq->List (Fq×Fq)
 | 0,_,_=>[]
 | n+1,a,b =>
   if (a.chg PS:Int)-(b.chg PS:Int)-(if b.sgn Q=0 then 1 else 0)<1 then []
   else if (a.chg PS:Int)-(b.chg PS:Int)-(if b.sgn Q=0 then 1 else 0)=1/\a.sgn Q≠0/\b.sgn Q≠0 then [(a.nf,b.nf)]
   else isl Q PS n a (a.mid b) ++ (if (a.mid b).sgn Q=0 then [((a.mid b).nf,(a.mid b).nf)] else []) ++ isl Q PS n (a.mid b) b
def IsOK (Q:List Int) (PS:List (List Int)):Nat->Fq->Fq->Prop
 | 0,_,_=>False
 | n+1,a,b=>(a.chg PS:Int)-(b.chg PS:Int)-(if b.sgn Q=0 then 1 else 0)<1∨((a.chg PS:Int)-(b.chg PS:Int)-(if b.sgn Q=0 then 1 else 0)=1/\a.sgn Q≠0/\b.sgn Q≠0)∨(IsOK Q PS n a (a.mid b)/\IsOK Q PS n (a.mid b) b)
def Iso (Q:List Int) (x:Pt) (r:Fq×Fq):Prop :=
 0<r.1.q/\0<r.2.q/\((r.1=r.2/\x=r.1.p)∨(r.1.v<r.2.v/\sgp Q r.1.p≠0/\sgp Q r.2.p≠0/\r.1.p<x/\x<r.2.p/\∀ y,sgp Q y=0->r.1.p<y->y<r.2.p->y=x))
inductive Isl (Q:List Int):List Pt->List (Fq×Fq)->Rat->Rat->Prop
 | nil (a b:Rat) (h:a<=b):Isl Q [] [] a b
 | cons {x:Pt} {xs:List Pt} {r:Fq×Fq} {l:List (Fq×Fq)} {a c b:Rat} (h:Iso Q x r) (h1:a<=r.1.v) (h2:r.2.v<=c) (h3:Isl Q xs l c b):Isl Q (x :: xs) (r :: l) a b
theorem Iso.le {Q:List Int} {x:Pt} {r:Fq×Fq} (h:Iso Q x r):r.1.v<=r.2.v:=by
 rcases h.2.2 with ⟨e,_⟩ | ⟨e,_⟩
 ·rw[e];exact Rat.le_refl
 ·grind
theorem Isl.le {Q:List Int} {xs:List Pt} {l:List (Fq×Fq)} {a b:Rat} (h:Isl Q xs l a b):a<=b:=by
 induction h with
 | nil a b h=>exact h
 | cons h h1 h2 _ ih=>have:=h.le;grind
theorem Isl.append {Q:List Int} {xs ys:List Pt} {l k:List (Fq×Fq)} {a b c:Rat} (h:Isl Q xs l a b) (h':Isl Q ys k b c):Isl Q (xs ++ ys) (l ++ k) a c:=by
 induction h with
 | nil a b h =>
   rw[List.nil_append,List.nil_append]
   cases h' with
   | nil _ _ h2=>exact .nil _ _ (by grind)
   | cons g g1 g2 g3=>exact .cons g (by grind) g2 g3
 | cons h h1 h2 _ ih=>exact .cons h h1 h2 (ih h')
theorem Isl.length {Q:List Int} {xs:List Pt} {l:List (Fq×Fq)} {a b:Rat} (h:Isl Q xs l a b):l.length=xs.length:=by
 induction h with
 | nil=>rfl
 | cons _ _ _ _ ih=>rw[List.length_cons,List.length_cons,ih]
def Op (f:List Int) (a b:Pt) (xs:List Pt):Prop:=Lst (fun x=>sgp f x=0/\a<x/\x<b) xs
theorem Pt.of_le {a b:Rat} (h:a<b):Pt.of a<Pt.of b:=Pt.of_lt_of.2 h
section
variable {Q:List Int} {k:Nat}
theorem op_count (h:SqF Q k) (hk:k<=31) {a b:Fq} (ha:0<a.q) (hb:0<b.q) (hab:a.v<b.v) {xs:List Pt} (hx:Op Q a.p b.p xs) :
  (a.chg (pchain 15 Q (pder Q)):Int)-(b.chg (pchain 15 Q (pder Q)):Int)-(if b.sgn Q=0 then 1 else 0)=xs.length:=by
 have hcp:=h.cp (by omega)
 have hcd:CP (pder Q):=⟨by have:=plen_pder Q;have:=h.len;omega,fun j=>Nat.le_trans (pder_abs (by have:=h.len;omega) h.b j) (bbk_le (by omega))⟩
 have hok:=(chain_all hcp hcd).1
 have e1:(a.chg (pchain 15 Q (pder Q)):Int)=chv (pchain 15 Q (pder Q)) a.p:=vat_eq ha _
 have e2:(b.chg (pchain 15 Q (pder Q)):Int)=chv (pchain 15 Q (pder Q)) b.p:=vat_eq hb _
 have e3:b.sgn Q=sgp Q b.p:=sat_eq hb Q
 rw[e1,e2,e3]
 have hpt:a.p<b.p:=Pt.of_le hab
 by_cases c:sgp Q b.p=0
 ·rw[if_pos c]
  have hy:Lst (fun x=>(sgp Q x=0/\a.p<x)/\x<b.p) xs:=hx.congr fun x=>by rw[and_assoc]
  have hz:=(hy.add_top ⟨c,hpt⟩).congr (Q:=fun x=>sgp Q x=0/\a.p<x/\(x<b.p∨x=b.p)) fun x=>by rw[and_assoc]
  rw[half_count h.q0 h.s hok hpt hz,List.length_append,List.length_singleton]
  omega
 ·rw[if_neg c]
  rw[half_count h.q0 h.s hok hpt (xs:=xs) (hx.congr fun x=>⟨fun ⟨h1,h2,h3⟩=>⟨h1,h2,.inl h3⟩,fun ⟨h1,h2,h3⟩=>⟨h1,h2,by
   rcases h3 with h3 | h3
   ·exact h3
   ·exact absurd (h3 ▸ h1) c⟩⟩)]
  omega
theorem isl_spec (h:SqF Q k) (hk:k<=31):∀ (n:Nat) (a b:Fq),0<a.q->0<b.q->a.v<b.v->IsOK Q (pchain 15 Q (pder Q)) n a b->∀ xs,Op Q a.p b.p xs->Isl Q xs (isl Q (pchain 15 Q (pder Q)) n a b) a.v b.v
 | 0,_,_,_,_,_,hok,_,_=>hok.elim
 | n+1,a,b,ha,hb,hab,hok,xs,hx=>by
   have hc:=op_count h hk ha hb hab hx
   rw[isl]
   unfold IsOK at hok
   rw[hc] at hok ⊢
   by_cases c1:(xs.length:Int)<1
   ·rw[if_pos c1]
    have e:xs=[]:=List.eq_nil_of_length_eq_zero (by omega)
    rw[e]
    exact .nil _ _ (by grind)
   rw[if_neg c1]
   by_cases c2:(xs.length:Int)=1/\a.sgn Q≠0/\b.sgn Q≠0
   ·rw[if_pos c2]
    obtain ⟨x,rfl⟩:∃ x,xs=[x]:=by
     match xs,c2.1 with
     | [x],_=>exact ⟨x,rfl⟩
     | x :: y :: r,h=>exact absurd h (by rw[List.length_cons,List.length_cons];omega)
    have hxm:=(hx.2 x).1 (by simp)
    have na:=Fq.nf_v ha
    have nb:=Fq.nf_v hb
    have pa:a.nf.p=a.p:=by unfold Fq.p;rw[na.1]
    have pb:b.nf.p=b.p:=by unfold Fq.p;rw[nb.1]
    refine .cons (c:=b.v) ⟨na.2,nb.2,.inr ⟨by rw[na.1,nb.1];exact hab,?_,?_,?_,?_,?_⟩⟩ (by rw[na.1];exact Rat.le_refl) (by rw[nb.1];exact Rat.le_refl) (.nil _ _ Rat.le_refl)
    ·show sgp Q a.nf.p≠0
     rw[pa,show sgp Q a.p=a.sgn Q from (sat_eq ha Q).symm];exact c2.2.1
    ·show sgp Q b.nf.p≠0
     rw[pb,show sgp Q b.p=b.sgn Q from (sat_eq hb Q).symm];exact c2.2.2
    ·show a.nf.p<x
     rw[pa];exact hxm.2.1
    ·show x<b.nf.p
     rw[pb];exact hxm.2.2
    ·intro y hy hy1 hy2
     have hy1':a.p<y:=by rw[<- pa];exact hy1
     have hy2':y<b.p:=by rw[<- pb];exact hy2
     have:=(hx.2 y).2 ⟨hy,hy1',hy2'⟩
     simpa using this
   rw[if_neg c2]
   obtain ⟨k1,k2⟩:=(hok.resolve_left c1).resolve_left c2
   obtain ⟨mv,mq⟩:=Fq.mid_v ha hb
   have ham:a.v<(a.mid b).v:=by rw[mv];grind
   have hmb:(a.mid b).v<b.v:=by rw[mv];grind
   obtain ⟨m,hm⟩:∃ m,m=a.mid b:=⟨_,rfl⟩
   rw[<- hm] at k1 k2 mq ham hmb ⊢
   obtain ⟨us,hu⟩:=roots_lst h.q0 (fun x=>a.p<x/\x<m.p)
   obtain ⟨vs,hv⟩:=roots_lst h.q0 (fun x=>m.p<x/\x<b.p)
   have i1:=isl_spec h hk n a m ha mq ham k1 us hu
   have i2:=isl_spec h hk n m b mq hb hmb k2 vs hv
   have p1:a.p<m.p:=Pt.of_le ham
   have p2:m.p<b.p:=Pt.of_le hmb
   have hms:m.sgn Q=sgp Q m.p:=sat_eq mq Q
   rw[hms]
   by_cases c3:sgp Q m.p=0
   ·rw[if_pos c3]
    have nm:=Fq.nf_v mq
    have pm:m.nf.p=m.p:=by unfold Fq.p;rw[nm.1]
    have hw:Op Q a.p b.p (us ++ [m.p] ++ vs):=by
     have hu2:Lst (fun x=>(sgp Q x=0/\a.p<x)/\x<m.p) us:=hu.congr fun x=>by rw[and_assoc]
     have hu3:=hu2.add_top ⟨c3,p1⟩
     refine (Lst.append hu3 hv fun x y h1 h2=>?_).congr fun x=>?_
     ·rcases h1.2 with h3 | h3
      ·exact Pt.lt_trans h3 h2.2.1
      ·rw[h3];exact h2.2.1
     ·constructor
      ·rintro (⟨⟨h1,h2⟩,h3⟩ | ⟨h1,h2,h3⟩)
       ·refine ⟨h1,h2,?_⟩
        rcases h3 with h3 | h3
        ·exact Pt.lt_trans h3 p2
        ·rw[h3];exact p2
       ·exact ⟨h1,Pt.lt_trans p1 h2,h3⟩
      ·rintro ⟨h1,h2,h3⟩
       rcases Pt.tri x m.p with e | e | e
       ·exact .inl ⟨⟨h1,h2⟩,.inl e⟩
       ·exact .inl ⟨⟨h1,h2⟩,.inr e⟩
       ·exact .inr ⟨h1,e,h3⟩
    rw[hx.uniq hw]
    refine (i1.append (.cons (c:=m.v) ⟨nm.2,nm.2,.inl ⟨rfl,pm.symm⟩⟩ (by rw[nm.1];exact Rat.le_refl) (by rw[nm.1];exact Rat.le_refl) (.nil _ _ Rat.le_refl))).append i2
   ·rw[if_neg c3,List.append_nil]
    have hw:Op Q a.p b.p (us ++ vs):=by
     refine (Lst.append hu hv fun x y h1 h2=>Pt.lt_trans h1.2.2 h2.2.1).congr fun x=>?_
     constructor
     ·rintro (⟨h1,h2,h3⟩ | ⟨h1,h2,h3⟩)
      ·exact ⟨h1,h2,Pt.lt_trans h3 p2⟩
      ·exact ⟨h1,Pt.lt_trans p1 h2,h3⟩
     ·rintro ⟨h1,h2,h3⟩
      rcases Pt.tri x m.p with e | e | e
      ·exact .inl ⟨h1,h2,e⟩
      ·exact absurd (e ▸ h1) c3
      ·exact .inr ⟨h1,e,h3⟩
    rw[hx.uniq hw]
    exact i1.append i2
theorem is_ok (h:SqF Q k) (hk:k<=31) {M:Rat} (hM:1<=M):∀ (n:Nat) (a b:Fq),0<a.q->0<b.q->a.v<b.v->-M<=a.v->b.v<=M->sepD k M*(b.v-a.v)<(2:Rat)^n->IsOK Q (pchain 15 Q (pder Q)) (n+1) a b:=by
 intro n
 induction n with
 | zero =>
   intro a b ha hb hab hMa hMb hw
   obtain ⟨xs,hx⟩:=roots_lst h.q0 (fun x=>a.p<x/\x<b.p)
   have hc:=op_count h hk ha hb hab hx
   have near:∀ x y,sgp Q x=0->sgp Q y=0->x<y->¬ x<a.p->¬ b.p<y->False:=fun x y h1 h2 h3 h4 h5=>by
    have:=sep h (by omega) hM hMa hMb h1 h2 h3 h4 h5
    rw[Rat.pow_zero] at hw
    grind
   unfold IsOK
   rw[hc]
   match xs,hx with
   | [],_=>exact .inl (by decide)
   | [x],hx =>
     right;left
     have hxm:=(hx.2 x).1 (by simp)
     have e3:b.sgn Q=sgp Q b.p:=sat_eq hb Q
     have e4:a.sgn Q=sgp Q a.p:=sat_eq ha Q
     refine ⟨rfl,fun e=>?_,fun e=>?_⟩
     ·rw[e4] at e
      exact near a.p x e hxm.1 hxm.2.1 (Pt.irr _) (fun h=>Pt.asym h hxm.2.2)
     ·rw[e3] at e
      exact near x b.p hxm.1 e hxm.2.2 (fun h=>Pt.asym h hxm.2.1) (Pt.irr _)
   | x :: y :: r,hx =>
     exfalso
     have hxm:=(hx.2 x).1 (by simp)
     have hym:=(hx.2 y).1 (by simp)
     have hxy:x<y:=(List.pairwise_cons.1 hx.1).1 y (by simp)
     exact near x y hxm.1 hym.1 hxy (fun h=>Pt.asym h hxm.2.1) (fun h=>Pt.asym h hym.2.2)
 | succ n ih =>
   intro a b ha hb hab hMa hMb hw
   unfold IsOK
   right;right
   obtain ⟨mv,mq⟩:=Fq.mid_v ha hb
   have ham:a.v<(a.mid b).v:=by rw[mv];grind
   have hmb:(a.mid b).v<b.v:=by rw[mv];grind
   rw[Rat.pow_succ] at hw
   refine ⟨ih a _ ha mq ham hMa (by grind) ?_,ih _ b mq hb hmb (by grind) hMb ?_⟩
   ·rw[mv]
    have e:sepD k M*((a.v+b.v) / 2-a.v)=sepD k M*(b.v-a.v) / 2:=by grind
    rw[e]
    grind
   ·rw[mv]
    have e:sepD k M*(b.v-(a.v+b.v) / 2)=sepD k M*(b.v-a.v) / 2:=by grind
    rw[e]
    grind
end
end Go.Proofs.YtpeiiomjnjemjaaGreat
