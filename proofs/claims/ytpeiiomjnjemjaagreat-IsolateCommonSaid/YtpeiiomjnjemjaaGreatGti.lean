/- Gauss's lemma, divisibility up to constants, uniqueness of greatest common divisors. Plain: no program. -/
import Derived.Test.YtpeiiomjnjemjaaGreatPow
import Derived.Test.YtpeiiomjnjemjaaGreatIdP
namespace Go.Proofs.YtpeiiomjnjemjaaGreat
def evn (F:Nat->Int) (x:Int):Nat->Int
 | 0=>0
 | n+1=>evn F x n+F n*x^n
theorem evn_add (F G:Nat->Int) (a b x:Int):∀ n,evn (fun i=>a*F i+b*G i) x n=a*evn F x n+b*evn G x n
 | 0=>by simp[evn]
 | n+1=>by
   simp only[evn]
   rw[evn_add F G a b x n]
   simp only[Int.mul_add,Int.add_mul,Int.mul_assoc]
   omega
theorem evn_shift (F:Nat->Int) (x:Int):∀ n,evn (fun i=>if i=0 then 0 else F (i-1)) x (n+1)=x*evn F x n
 | 0=>by simp[evn]
 | n+1=>by
   have h:=evn_shift F x n
   rw[evn,h,evn,if_neg (by omega),Nat.add_sub_cancel,Int.mul_add,Int.pow_succ]
   congr 1
   rw[Int.mul_comm x,Int.mul_assoc]
theorem evn_stop (F:Nat->Int) (x:Int) {n:Nat} (h:∀ i,n<=i->F i=0):∀ m,evn F x (n+m)=evn F x n
 | 0=>rfl
 | m+1=>by rw[<- Nat.add_assoc,evn,evn_stop F x h m,h _ (by omega),Int.zero_mul,Int.add_zero]
theorem evn_congr {F G:Nat->Int} (x:Int) (h:∀ i,F i=G i) (n:Nat):evn F x n=evn G x n:=by rw[show F=G from funext h]
def ev (p:List Int) (x:Int):Int:=evn (fun i=>p.getD i 0) x p.length
theorem ev_ge (p:List Int) (x:Int) {n:Nat} (h:p.length<=n):evn (fun i=>p.getD i 0) x n=ev p x:=by
 have:=evn_stop (fun i=>p.getD i 0) x (n:=p.length) (fun i hi=>getD_out _ hi) (n-p.length)
 rw[show p.length+(n-p.length)=n by omega] at this
 exact this
theorem ev_congr {p q:List Int} (h:∀ k,p.getD k 0=q.getD k 0) (x:Int):ev p x=ev q x:=by
 rw[<- ev_ge p x (Nat.le_max_left p.length q.length),<- ev_ge q x (Nat.le_max_right p.length q.length)]
 exact evn_congr x h _
theorem ev_nil (x:Int):ev [] x=0:=rfl
theorem ev_const (a x:Int):ev [a] x=a:=by simp[ev,evn]
theorem ev_psc (c:Int) (p:List Int) (x:Int):ev (psc c p) x=c*ev p x:=by
 have hl:(psc c p).length=p.length:=by unfold psc;rw[List.length_map]
 unfold ev
 rw[hl]
 have h:=evn_add (fun i=>p.getD i 0) (fun _=>0) c 0 x p.length
 rw[Int.zero_mul (evn _ x _),Int.add_zero (c*_)] at h
 rw[<- h]
 exact evn_congr x (fun i=>by rw[psc_get];omega) _
theorem ev_padd (p q:List Int) (x:Int):ev (padd p q) x=ev p x+ev q x:=by
 have hl:=padd_length p q
 have h:=evn_add (fun i=>p.getD i 0) (fun i=>q.getD i 0) 1 1 x (max p.length q.length)
 rw[ev_ge p x (Nat.le_max_left ..),ev_ge q x (Nat.le_max_right ..),Int.one_mul,Int.one_mul] at h
 rw[<- h]
 unfold ev
 rw[hl]
 exact evn_congr x (fun i=>by rw[padd_get];omega) _
theorem ev_trim (p:List Int) (x:Int):ev (ptrim p) x=ev p x:=ev_congr (fun k=>ptrim_getD p k) x
theorem pcs_cons (a:Int) (t g:List Int) (k:Nat):∀ m,pcs (a :: t) g k (m+1)=a*g.getD k 0+pcs t g (k-1) m
 | 0=>by simp[pcs]
 | m+1=>by
   rw[pcs,pcs_cons a t g k m,pcs]
   rw[show k-(m+1)=k-1-m by omega]
   simp only[List.getD_cons_succ]
   omega
theorem pc_cons (a:Int) (t g:List Int) (k:Nat):pc (a :: t) g k=a*g.getD k 0+(if k=0 then 0 else pc t g (k-1)):=by
 unfold pc
 rw[pcs_cons]
 by_cases h:k=0
 ·subst h;simp[pcs]
 ·rw[if_neg h,show k-1+1=k by omega]
theorem pc_nil (g:List Int) (k:Nat):pc [] g k=0:=by
 unfold pc
 have:∀ m,pcs [] g k m=0:=fun m=>by
  induction m with
  | zero=>rfl
  | succ m ih=>rw[pcs,ih];simp
 exact this _
theorem evn_pc (g:List Int) (x:Int):∀ (f:List Int) (N:Nat),f.length+g.length<=N->evn (pc f g) x N=ev f x*ev g x
 | [],N,_=>by
   rw[ev_nil,Int.zero_mul]
   have:=evn_stop (pc [] g) x (n:=0) (fun i _=>pc_nil g i) N
   rw[Nat.zero_add] at this
   exact this
 | a :: t,N,h=>by
   simp only[List.length_cons] at h
   obtain ⟨M,rfl⟩:∃ M,N=M+1:=⟨N-1,by omega⟩
   have ih:=evn_pc g x t M (by omega)
   have h1:=evn_add (fun i=>g.getD i 0) (fun k=>if k=0 then 0 else pc t g (k-1)) a 1 x (M+1)
   rw[ev_ge g x (by omega),evn_shift,ih] at h1
   have h2:evn (pc (a :: t) g) x (M+1)=evn (fun i=>a*g.getD i 0+1*(if i=0 then 0 else pc t g (i-1))) x (M+1):=evn_congr x (fun i=>by rw[pc_cons,Int.one_mul]) _
   rw[h2,h1]
   have h3:ev (a :: t) x=a+x*ev t x:=by
    have h4:=evn_add (fun i=>if i=0 then 1 else 0) (fun k=>if k=0 then 0 else t.getD (k-1) 0) a 1 x (t.length+1)
    rw[evn_shift (fun i=>t.getD i 0)] at h4
    have h5:evn (fun i=>if i=0 then 1 else 0) x (t.length+1)=1:=by
     have:=evn_stop (fun i=>if i=0 then 1 else 0) x (n:=1) (fun i hi=>if_neg (by omega)) t.length
     rw[Nat.add_comm] at this
     rw[this];simp[evn]
    rw[h5] at h4
    have h6:ev (a :: t) x=evn (fun i=>a*(if i=0 then 1 else 0)+1*(if i=0 then 0 else t.getD (i-1) 0)) x (t.length+1):=by
     unfold ev
     refine evn_congr x (fun i=>?_) _
     cases i with
     | zero=>simp
     | succ i=>simp
    rw[h6,h4]
    show a*1+1*(x*ev t x)=_
    omega
   rw[h3,Int.one_mul,Int.add_mul,Int.mul_assoc]
theorem ev_mul (f g:List Int) (x:Int):ev (polymul f g) x=ev f x*ev g x:=by
 have hl:(polymul f g).length<=f.length+g.length:=by
  unfold polymul
  split
  ·simp
  ·rw[pmul_length];omega
 rw[<- ev_ge _ x hl,<- evn_pc g x f _ (Nat.le_refl _)]
 exact evn_congr x (fun i=>polymul_getD f g i) _
theorem evn_zero:∀ (n:Nat) (F:Nat->Int),(∀ x,1<=x->evn F x n=0)->∀ i,i<n->F i=0
 | 0,_,_,i,hi=>by omega
 | n+1,F,h,i,hi=>by
   have hs:∀ x,evn F x (n+1)=F 0+x*evn (fun i=>F (i+1)) x n:=fun x=>by
    have h4:=evn_add (fun i=>if i=0 then 1 else 0) (fun k=>if k=0 then 0 else F (k-1+1)) (F 0) 1 x (n+1)
    rw[evn_shift (fun i=>F (i+1))] at h4
    have h5:evn (fun i=>if i=0 then 1 else 0) x (n+1)=1:=by
     have:=evn_stop (fun i=>if i=0 then 1 else 0) x (n:=1) (fun i hi=>if_neg (by omega)) n
     rw[Nat.add_comm] at this
     rw[this];simp[evn]
    rw[h5,Int.mul_one,Int.one_mul] at h4
    rw[<- h4]
    refine evn_congr x (fun i=>?_) _
    cases i with
    | zero=>simp
    | succ i=>simp
   have h0:F 0=0:=by
    have h1:=h ((F 0).natAbs+1:Nat) (by omega)
    rw[hs] at h1
    have hd:(((F 0).natAbs+1:Nat):Int)∣F 0:=⟨-evn (fun i=>F (i+1)) (((F 0).natAbs+1:Nat):Int) n,by rw[Int.mul_neg];omega⟩
    have h2:=Int.natAbs_dvd_natAbs.2 hd
    rw[Int.natAbs_natCast] at h2
    rcases Nat.eq_zero_or_pos (F 0).natAbs with h3 | h3
    ·omega
    ·have:=Nat.le_of_dvd h3 h2
     omega
   cases i with
   | zero=>exact h0
   | succ i =>
     refine evn_zero n (fun i=>F (i+1)) (fun x hx=>?_) i (by omega)
     have h1:=h x hx
     rw[hs,h0,Int.zero_add] at h1
     exact (Int.mul_eq_zero.1 h1).resolve_left (by omega)
theorem ev_inj {p q:List Int} (h:∀ x,ev p x=ev q x) (k:Nat):p.getD k 0=q.getD k 0:=by
 rcases Nat.lt_or_ge k (max p.length q.length) with h1 | h1
 ·have h2:=evn_zero (max p.length q.length) (fun i=>1*p.getD i 0+(-1)*q.getD i 0) (fun x _=>by
   rw[evn_add,ev_ge p x (Nat.le_max_left ..),ev_ge q x (Nat.le_max_right ..),h x];omega) k h1
  omega
 ·rw[getD_out p (by omega),getD_out q (by omega)]
theorem pcs_top {f g:List Int} {a b:Nat} (hf:∀ i,a<i->f.getD i 0=0) (hg:∀ j,b<j->g.getD j 0=0):∀ m,m<=a+b+1->pcs f g (a+b) m=if a<m then f.getD a 0*g.getD b 0 else 0
 | 0,_=>by simp[pcs]
 | m+1,h=>by
   rw[pcs,pcs_top hf hg m (by omega)]
   rcases Nat.lt_trichotomy m a with h1 | h1 | h1
   ·rw[if_neg (by omega),if_neg (by omega),hg _ (by omega)];simp
   ·subst h1
    rw[if_neg (by omega),if_pos (by omega),show m+b-m=b by omega];simp
   ·rw[if_pos h1,if_pos (by omega),hf m h1];simp
theorem pc_top {f g:List Int} {a b:Nat} (hf:∀ i,a<i->f.getD i 0=0) (hg:∀ j,b<j->g.getD j 0=0):pc f g (a+b)=f.getD a 0*g.getD b 0:=by
 unfold pc
 rw[pcs_top hf hg _ (Nat.le_refl _),if_pos (by omega)]
theorem pc_above {f g:List Int} {a b k:Nat} (hf:∀ i,a<i->f.getD i 0=0) (hg:∀ j,b<j->g.getD j 0=0) (hk:a+b<k):pc f g k=0:=by
 unfold pc
 have:∀ m,pcs f g k m=0:=fun m=>by
  induction m with
  | zero=>rfl
  | succ m ih =>
    rw[pcs,ih]
    rcases Nat.lt_or_ge a m with h1 | h1
    ·rw[hf m h1];simp
    ·rw[hg _ (by omega)];simp
 exact this _
theorem plen_mul {f g:List Int} (hf:1<=plen f) (hg:1<=plen g):plen (polymul f g)=plen f+plen g-1/\plead (polymul f g)=plead f*plead g:=by
 have zf:∀ i,plen f-1<i->f.getD i 0=0:=fun i hi=>getD_ge_plen f i (by omega)
 have zg:∀ i,plen g-1<i->g.getD i 0=0:=fun i hi=>getD_ge_plen g i (by omega)
 have h1:(polymul f g).getD (plen f-1+(plen g-1)) 0=plead f*plead g:=by rw[polymul_getD,pc_top zf zg];rfl
 have h2:plead f*plead g≠0:=Int.mul_ne_zero (fun e=>by have:=plead_zero.1 e;omega) (fun e=>by have:=plead_zero.1 e;omega)
 have h3:plen (polymul f g)<=plen f-1+(plen g-1)+1:=plen_le_of fun k hk=>by rw[polymul_getD];exact pc_above zf zg (by omega)
 have h4:=plen_eq (polymul f g) (plen f-1+(plen g-1)) h3 (by rw[h1];exact h2)
 refine ⟨by omega,?_⟩
 unfold plead at *
 rw[h4,Nat.add_sub_cancel]
 exact h1
end Go.Proofs.YtpeiiomjnjemjaaGreat
namespace Go.Proofs.YtpeiiomjnjemjaaGreat
theorem dvd_pcont {d:Nat}:∀ {p:List Int},(∀ k,d∣(p.getD k 0).natAbs)->d∣pcont p
 | [],_=>by show d∣0;exact Nat.dvd_zero _
 | a :: t,h=>by
   show d∣Nat.gcd a.natAbs (pcont t)
   exact Nat.dvd_gcd (by simpa using h 0) (dvd_pcont fun k=>by simpa using h (k+1))
theorem pcont_ext {p q:List Int} (h:∀ k,(p.getD k 0).natAbs=(q.getD k 0).natAbs):pcont p=pcont q :=
 Nat.dvd_antisymm (dvd_pcont fun k=>by rw[<- h];exact pcont_get p k) (dvd_pcont fun k=>by rw[h];exact pcont_get q k)
theorem pcont_psc (c:Int) (p:List Int):pcont (psc c p)=c.natAbs*pcont p:=by
 induction p with
 | nil=>simp[psc,pcont]
 | cons a t ih =>
   show Nat.gcd (c*a).natAbs (pcont (psc c t))=c.natAbs*Nat.gcd a.natAbs (pcont t)
   rw[ih,Int.natAbs_mul,Nat.gcd_mul_left]
theorem pcont_zero {p:List Int} (h:plen p=0):pcont p=0:=by
 have h1:pcont (psc 0 p)=0:=by rw[pcont_psc];simp
 rw[<- h1]
 refine pcont_ext fun k=>?_
 rw[psc_get,getD_ge_plen p k (by omega)];simp
def Pr (p:Nat):Prop:=1<p/\∀ d,d∣p->d=1∨d=p
theorem pr_dvd:∀ n:Nat,1<n->∃ p,Pr p/\p∣n:=by
 intro n
 induction n using Nat.strongRecOn with
 | _ n ih =>
   intro h
   by_cases hp:Pr n
   ·exact ⟨n,hp,Nat.dvd_refl _⟩
   ·have:∃ d,d∣n/\d≠1/\d≠n:=Classical.byContradiction fun hc=>hp ⟨h,fun d hd=>Classical.byContradiction fun hx=>hc ⟨d,hd,fun e=>hx (.inl e),fun e=>hx (.inr e)⟩⟩
    obtain ⟨d,hd,h1,h2⟩:=this
    have h3:d<=n:=Nat.le_of_dvd (by omega) hd
    have h4:d≠0:=fun e=>by rw[e] at hd;have:=Nat.eq_zero_of_zero_dvd hd;omega
    obtain ⟨p,hpp,hpd⟩:=ih d (by omega) (by omega)
    exact ⟨p,hpp,Nat.dvd_trans hpd hd⟩
theorem Pr.euclid {p a b:Nat} (hp:Pr p) (h:p∣a*b):p∣a∨p∣b:=by
 by_cases h1:p∣a
 ·exact .inl h1
 ·right
  have hg:Nat.gcd p a=1:=by
   rcases hp.2 _ (Nat.gcd_dvd_left p a) with h2 | h2
   ·exact h2
   ·exact absurd (h2 ▸ Nat.gcd_dvd_right p a) h1
  exact Nat.Coprime.dvd_of_dvd_mul_left hg h
theorem least {P:Nat->Prop} (h:∃ n,P n):∃ n,P n/\∀ m,m<n->¬ P m:=by
 obtain ⟨n,hn⟩:=h
 induction n using Nat.strongRecOn with
 | _ n ih =>
   by_cases hm:∃ m,m<n/\P m
   ·obtain ⟨m,h1,h2⟩:=hm
    exact ih m h1 h2
   ·exact ⟨n,hn,fun m h1 h2=>hm ⟨m,h1,h2⟩⟩
theorem pcs_mod {f g:List Int} {a b:Nat} {p:Int} (hf:∀ i,i<a->p∣f.getD i 0) (hg:∀ j,j<b->p∣g.getD j 0):∀ m,m<=a+b+1->p∣pcs f g (a+b) m-(if a<m then f.getD a 0*g.getD b 0 else 0)
 | 0,_=>by simp[pcs]
 | m+1,h=>by
   have ih:=pcs_mod hf hg m (by omega)
   rw[pcs]
   rcases Nat.lt_trichotomy m a with h1 | h1 | h1
   ·rw[if_neg (by omega)] at ih ⊢
    have h2:p∣f.getD m 0*g.getD (a+b-m) 0:=Int.dvd_mul_of_dvd_left (hf m h1)
    have h3:=Int.dvd_add ih h2
    have e:pcs f g (a+b) m+f.getD m 0*g.getD (a+b-m) 0-0=pcs f g (a+b) m-0+f.getD m 0*g.getD (a+b-m) 0:=by omega
    rw[e];exact h3
   ·subst h1
    rw[if_neg (by omega)] at ih
    rw[if_pos (by omega),show m+b-m=b by omega]
    have e:pcs f g (m+b) m+f.getD m 0*g.getD b 0-f.getD m 0*g.getD b 0=pcs f g (m+b) m-0:=by omega
    rw[e];exact ih
   ·rw[if_pos h1] at ih
    rw[if_pos (by omega)]
    have h2:p∣f.getD m 0*g.getD (a+b-m) 0:=Int.dvd_mul_of_dvd_right (hg _ (by omega))
    have h3:=Int.dvd_add ih h2
    have e:pcs f g (a+b) m+f.getD m 0*g.getD (a+b-m) 0-f.getD a 0*g.getD b 0=pcs f g (a+b) m-f.getD a 0*g.getD b 0+f.getD m 0*g.getD (a+b-m) 0:=by omega
    rw[e];exact h3
theorem pr_mul {f g:List Int} {p:Nat} (hp:Pr p) (h:p∣pcont (polymul f g)):p∣pcont f∨p∣pcont g:=by
 refine Classical.byContradiction fun hc=>?_
 have h1:∃ i,¬ (p∣(f.getD i 0).natAbs):=Classical.byContradiction fun hx=>hc (.inl (dvd_pcont fun k=>Classical.byContradiction fun hy=>hx ⟨k,hy⟩))
 have h2:∃ i,¬ (p∣(g.getD i 0).natAbs):=Classical.byContradiction fun hx=>hc (.inr (dvd_pcont fun k=>Classical.byContradiction fun hy=>hx ⟨k,hy⟩))
 obtain ⟨a,ha,la⟩:=least h1
 obtain ⟨b,hb,lb⟩:=least h2
 have cv:∀ z:Int,p∣z.natAbs->(p:Int)∣z:=fun z hz=>by rw[<- Int.natAbs_dvd_natAbs,Int.natAbs_natCast];exact hz
 have h3:=pcs_mod (f:=f) (g:=g) (a:=a) (b:=b) (p:=(p:Int)) (fun i hi=>cv _ (Classical.not_not.1 (la i hi))) (fun i hi=>cv _ (Classical.not_not.1 (lb i hi))) (a+b+1) (Nat.le_refl _)
 rw[if_pos (by omega)] at h3
 have h4:(p:Int)∣pcs f g (a+b) (a+b+1):=by
  have:=Nat.dvd_trans h (pcont_get (polymul f g) (a+b))
  rw[polymul_getD] at this
  exact cv _ this
 have h5:=Int.dvd_sub h4 h3
 have e:pcs f g (a+b) (a+b+1)-(pcs f g (a+b) (a+b+1)-f.getD a 0*g.getD b 0)=f.getD a 0*g.getD b 0:=by omega
 rw[e] at h5
 have h6:=Int.natAbs_dvd_natAbs.2 h5
 rw[Int.natAbs_natCast,Int.natAbs_mul] at h6
 rcases hp.euclid h6 with h7 | h7
 ·exact ha h7
 ·exact hb h7
def pover (f:List Int):List Int:=f.map (·.tdiv (pcont f:Int))
theorem pover_get (f:List Int) (k:Nat):f.getD k 0=(pcont f:Int)*(pover f).getD k 0:=by
 have h1:(pover f).getD k 0=(f.getD k 0).tdiv (pcont f:Int):=by
  unfold pover
  rw[List.getD_eq_getElem?_getD,List.getD_eq_getElem?_getD,List.getElem?_map]
  cases f[k]? with
  | none=>simp
  | some x=>simp
 rw[h1]
 refine (Int.mul_tdiv_cancel' ?_).symm
 rw[<- Int.natAbs_dvd_natAbs,Int.natAbs_natCast]
 exact pcont_get f k
theorem pover_cont {f:List Int} (h:pcont f≠0):pcont (pover f)=1:=by
 have h1:pcont f=pcont f*pcont (pover f):=by
  have h2:=pcont_psc (pcont f:Int) (pover f)
  rw[Int.natAbs_natCast] at h2
  rw[<- h2]
  exact pcont_ext fun k=>by rw[psc_get,pover_get f k]
 exact Nat.eq_of_mul_eq_mul_left (Nat.pos_of_ne_zero h) (by rw[Nat.mul_one];exact h1.symm)
theorem pcont_mul (f g:List Int):pcont (polymul f g)=pcont f*pcont g:=by
 have key:∀ k,(polymul f g).getD k 0=((pcont f*pcont g:Nat):Int)*(polymul (pover f) (pover g)).getD k 0:=by
  intro k
  rw[<- psc_get]
  refine ev_inj (fun x=>?_) k
  rw[ev_mul,ev_psc,ev_mul,ev_congr (fun k=>(pover_get f k).trans (psc_get _ _ k).symm) x,ev_congr (fun k=>(pover_get g k).trans (psc_get _ _ k).symm) x,ev_psc,ev_psc,Int.natCast_mul]
  ac_rfl
 have h1:pcont (polymul f g)=(pcont f*pcont g)*pcont (polymul (pover f) (pover g)):=by
  have h2:=pcont_psc ((pcont f*pcont g:Nat):Int) (polymul (pover f) (pover g))
  rw[Int.natAbs_natCast] at h2
  rw[<- h2]
  exact pcont_ext fun k=>by rw[psc_get,key]
 rw[h1]
 rcases Nat.eq_zero_or_pos (pcont f*pcont g) with h0 | h0
 ·rw[h0];simp
 ·have hf:pcont f≠0:=fun e=>by rw[e] at h0;simp at h0
  have hg:pcont g≠0:=fun e=>by rw[e] at h0;simp at h0
  have h3:pcont (polymul (pover f) (pover g))=1:=by
   refine Classical.byContradiction fun hne=>?_
   have h4:1<pcont (polymul (pover f) (pover g))∨pcont (polymul (pover f) (pover g))=0:=by omega
   have h5:∃ p,Pr p/\p∣pcont (polymul (pover f) (pover g)):=by
    rcases h4 with h4 | h4
    ·exact pr_dvd _ h4
    ·obtain ⟨p,hp,_⟩:=pr_dvd 2 (by omega)
     exact ⟨p,hp,by rw[h4];exact Nat.dvd_zero _⟩
   obtain ⟨p,hp,hd⟩:=h5
   rcases pr_mul hp hd with h6 | h6
   ·rw[pover_cont hf] at h6
    have:=Nat.le_of_dvd (by omega) h6
    have:=hp.1
    omega
   ·rw[pover_cont hg] at h6
    have:=Nat.le_of_dvd (by omega) h6
    have:=hp.1
    omega
  rw[h3,Nat.mul_one]
def Dvq (f g:List Int):Prop:=∃ (c:Int) (q:List Int),c≠0/\∀ x,c*ev g x=ev q x*ev f x
theorem Dvq.refl (f:List Int):Dvq f f:=⟨1,[1],by decide,fun x=>by rw[ev_const]⟩
theorem Dvq.trans {f g h:List Int} (a:Dvq f g) (b:Dvq g h):Dvq f h:=by
 obtain ⟨c,q,hc,e⟩:=a
 obtain ⟨c',q',hc',e'⟩:=b
 refine ⟨c*c',polymul q q',Int.mul_ne_zero hc hc',fun x=>?_⟩
 rw[ev_mul,Int.mul_assoc,e',Int.mul_left_comm,e]
 ac_rfl
def Comb (f g h:List Int):Prop:=∃ (c:Int) (u v:List Int),c≠0/\∀ x,c*ev h x=ev u x*ev f x+ev v x*ev g x
theorem Comb.left (f g:List Int):Comb f g f:=⟨1,[1],[],by decide,fun x=>by rw[ev_const,ev_nil];omega⟩
theorem Comb.right (f g:List Int):Comb f g g:=⟨1,[],[1],by decide,fun x=>by rw[ev_const,ev_nil];omega⟩
theorem Dvq.comb {d f g h:List Int} (a:Dvq d f) (b:Dvq d g) (k:Comb f g h):Dvq d h:=by
 obtain ⟨c,q,hc,e⟩:=a
 obtain ⟨c',q',hc',e'⟩:=b
 obtain ⟨c2,u,v,hc2,e2⟩:=k
 refine ⟨c*(c'*c2),padd (psc c' (polymul u q)) (psc c (polymul v q')),Int.mul_ne_zero hc (Int.mul_ne_zero hc' hc2),fun x=>?_⟩
 rw[ev_padd,ev_psc,ev_psc,ev_mul,ev_mul,Int.add_mul]
 have h1:c*(c'*c2)*ev h x=c*c'*(c2*ev h x):=by ac_rfl
 rw[h1,e2,Int.mul_add]
 have h2:c*c'*(ev u x*ev f x)=c'*ev u x*(c*ev f x):=by ac_rfl
 have h3:c*c'*(ev v x*ev g x)=c*ev v x*(c'*ev g x):=by ac_rfl
 rw[h2,h3,e,e']
 congr 1<;>ac_rfl
theorem Comb.trans {f g a b h:List Int} (ha:Comb f g a) (hb:Comb f g b) (k:Comb a b h):Comb f g h:=by
 obtain ⟨c,u,v,hc,e⟩:=ha
 obtain ⟨c',u',v',hc',e'⟩:=hb
 obtain ⟨c2,s,t,hc2,e2⟩:=k
 refine ⟨c*(c'*c2),padd (psc c' (polymul s u)) (psc c (polymul t u')),padd (psc c' (polymul s v)) (psc c (polymul t v')),Int.mul_ne_zero hc (Int.mul_ne_zero hc' hc2),fun x=>?_⟩
 simp only[ev_padd,ev_psc,ev_mul]
 have h1:c*(c'*c2)*ev h x=c*c'*(c2*ev h x):=by ac_rfl
 have h2:c*c'*(ev s x*ev a x)=c'*ev s x*(c*ev a x):=by ac_rfl
 have h3:c*c'*(ev t x*ev b x)=c*ev t x*(c'*ev b x):=by ac_rfl
 rw[h1,e2,Int.mul_add,h2,h3,e,e']
 simp only[Int.mul_add,Int.add_mul]
 have r1:c'*ev s x*(ev u x*ev f x)=c'*(ev s x*ev u x)*ev f x:=by ac_rfl
 have r2:c'*ev s x*(ev v x*ev g x)=c'*(ev s x*ev v x)*ev g x:=by ac_rfl
 have r3:c*ev t x*(ev u' x*ev f x)=c*(ev t x*ev u' x)*ev f x:=by ac_rfl
 have r4:c*ev t x*(ev v' x*ev g x)=c*(ev t x*ev v' x)*ev g x:=by ac_rfl
 rw[r1,r2,r3,r4]
 omega
end Go.Proofs.YtpeiiomjnjemjaaGreat
