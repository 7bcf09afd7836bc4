/- Laws of greatest common divisors: with zeros, common factors, commutative, associative. Plain: no program. -/
import Derived.Test.YtpeiiomjnjemjaaGreatGti
import Derived.Test.YtpeiiomjnjemjaaGreatSub
import Derived.Test.YtpeiiomjnjemjaaGreatAwl
import Derived.Test.YtpeiiomjnjemjaaGreatSta
namespace Go.Proofs.YtpeiiomjnjemjaaGreat
theorem sg_mul_self {z:Int} (h:z≠0):sg z*sg z=1:=by
 rcases sg_cases z with ⟨h1,e⟩ | ⟨h1,e⟩ | ⟨h1,e⟩<;>rw[e]<;>first | rfl | omega
theorem gp_get {f:List Int} (h:plen f≠0) (k:Nat):f.getD k 0=sg (plead f)*(pcont f:Int)*(pprim f).getD k 0:=by
 have h1:(pprim f).getD k 0=(f.getD k 0).tdiv (sg (plead f)*(pcont f:Int)):=by
  unfold pprim
  rw[if_neg h,map_tdiv_getD,ptrim_getD]
 rw[h1]
 refine (Int.mul_tdiv_cancel' ?_).symm
 have h2:=pcont_get f k
 have h0:plead f≠0:=fun e=>h (plead_zero.1 e)
 have h3:sg (plead f)*(pcont f:Int)∣(pcont f:Int):=⟨sg (plead f),by rw[Int.mul_right_comm,sg_mul_self h0,Int.one_mul]⟩
 refine Int.dvd_trans h3 ?_
 rw[<- Int.natAbs_dvd_natAbs,Int.natAbs_natCast]
 exact h2
theorem gp_ne {f:List Int} (h:plen f≠0):sg (plead f)*(pcont f:Int)≠0:=by
 have h0:plead f≠0:=fun e=>h (plead_zero.1 e)
 have h1:=pcont_ne h
 refine Int.mul_ne_zero (fun e=>?_) (by omega)
 have:=sg_mul_self h0
 rw[e] at this
 simp at this
theorem gp_cont {f:List Int} (h:plen f≠0):pcont (pprim f)=1:=by
 have h0:plead f≠0:=fun e=>h (plead_zero.1 e)
 have h2:=pcont_psc (sg (plead f)*(pcont f:Int)) (pprim f)
 have h3:pcont (psc (sg (plead f)*(pcont f:Int)) (pprim f))=pcont f:=pcont_ext fun k=>by rw[psc_get,<- gp_get h]
 rw[h3,Int.natAbs_mul,Int.natAbs_natCast] at h2
 have h4:(sg (plead f)).natAbs=1:=by rcases sg_cases (plead f) with ⟨h1,e⟩ | ⟨h1,e⟩ | ⟨h1,e⟩<;>rw[e]<;>first | rfl | omega
 rw[h4,Nat.one_mul] at h2
 have h5:=pcont_ne h
 exact Nat.eq_of_mul_eq_mul_left (Nat.pos_of_ne_zero h5) (by rw[Nat.mul_one];exact h2.symm)
theorem gp_plen (f:List Int):plen (pprim f)=plen f:=by
 by_cases h:plen f=0
 ·unfold pprim;rw[if_pos h,h];rfl
 ·have h1:plen (pprim f)<=plen f:=plen_le_of fun k hk=>by
   have:=gp_get h k
   rw[getD_ge_plen f k hk] at this
   exact (Int.mul_eq_zero.1 this.symm).resolve_left (gp_ne h)
  have h2:plen f<=plen (pprim f):=plen_le_of fun k hk=>by rw[gp_get h k,getD_ge_plen (pprim f) k hk,Int.mul_zero]
  omega
theorem gp_lead {f:List Int} (h:plen f≠0):0<plead (pprim f):=by
 have h0:plead f≠0:=fun e=>h (plead_zero.1 e)
 have h1:plead f=sg (plead f)*(pcont f:Int)*plead (pprim f):=by
  have:=gp_get h (plen f-1)
  unfold plead at *
  rw[gp_plen]
  exact this
 have h2:=pcont_ne h
 have h3:(0:Int)<(pcont f:Int):=by omega
 refine Classical.byContradiction fun hn=>?_
 rcases sg_cases (plead f) with ⟨h4,e⟩ | ⟨h4,e⟩ | ⟨h4,e⟩
 all_goals (rw[e] at h1;have h5:(pcont f:Int)*plead (pprim f)<=0:=Int.mul_nonpos_of_nonneg_of_nonpos (by omega) (by omega))
 all_goals (try rw[Int.mul_assoc] at h1)
 all_goals omega
theorem gp_trim (f:List Int):ptrim (pprim f)=pprim f:=by
 have h:(pprim f).length=plen f:=by
  unfold pprim
  split
  ·rename_i h;rw[h];rfl
  ·rw[List.length_map,ptrim_length]
 unfold ptrim
 rw[gp_plen,<- h,List.take_length]
theorem dvq_scale {p q:List Int} {e e':Int} (he:e'≠0) (h:∀ k,e*p.getD k 0=e'*q.getD k 0):Dvq p q :=
 ⟨e',[e],he,fun x=>by rw[ev_const,<- ev_psc,<- ev_psc];exact (ev_congr (fun k=>by rw[psc_get,psc_get,h k]) x).symm⟩
theorem Dvq.zero (f:List Int) {g:List Int} (h:∀ k,g.getD k 0=0):Dvq f g:=⟨1,[],by decide,fun x=>by rw[ev_nil,ev_congr (q:=[]) (fun k=>by rw[h];simp) x,ev_nil];simp⟩
theorem dvq_prim_l {f:List Int} (h:plen f≠0):Dvq (pprim f) f:=dvq_scale (e:=sg (plead f)*(pcont f:Int)) (e':=1) (by decide) (fun k=>by rw[<- gp_get h,Int.one_mul])
theorem Comb.of_dvq {f g h h':List Int} (k:Comb f g h) (d:∃ c e:Int,c≠0/\∀ x,c*ev h' x=e*ev h x):Comb f g h':=by
 obtain ⟨c,u,v,hc,e⟩:=k
 obtain ⟨c',e',hc',e2⟩:=d
 refine ⟨c*c',psc e' u,psc e' v,Int.mul_ne_zero hc hc',fun x=>?_⟩
 rw[ev_psc,ev_psc,Int.mul_assoc,e2]
 have h1:c*(e'*ev h x)=e'*(c*ev h x):=by ac_rfl
 rw[h1,e,Int.mul_add]
 congr 1<;>ac_rfl
structure IsGcd (f g D:List Int):Prop where
 trim:ptrim D=D
 lead:0<plead D
 cont:pcont D=Nat.gcd (pcont f) (pcont g)
 l:Dvq D f
 r:Dvq D g
 c:Comb f g D
end Go.Proofs.YtpeiiomjnjemjaaGreat
namespace Go.Proofs.YtpeiiomjnjemjaaGreat
def lst:List Int->List (List Int)->List Int
 | b,[]=>b
 | _,s :: r=>lst s r
theorem lastOf_or:∀ (l:List (List Int)) (d:List Int),lastOf d l=lst d l∨(lastOf d l∈l/\plen (lastOf d l)=1)
 | [],_=>.inl rfl
 | s :: r,d=>by
   by_cases h:plen s=1
   ·right
    have e:lastOf d (s :: r)=s:=by show (if plen s=1 then s else lastOf s r)=s;rw[if_pos h]
    rw[e]
    exact ⟨List.mem_cons_self ..,h⟩
   ·have e:lastOf d (s :: r)=lastOf s r:=by show (if plen s=1 then s else lastOf s r)=_;rw[if_neg h]
    rw[e]
    exact (lastOf_or r s).imp id (fun h=>⟨List.mem_cons_of_mem _ h.1,h.2⟩)
theorem lst_mem:∀ (l:List (List Int)) (d:List Int),lst d l∈d :: l
 | [],_=>List.mem_cons_self ..
 | s :: r,_=>List.mem_cons_of_mem _ (lst_mem r s)
theorem Dvq.const {c:List Int} (h:plen c=1) (g:List Int):Dvq c g:=by
 have h0:c.getD 0 0≠0:=plen_lead c 0 (by omega)
 refine ⟨c.getD 0 0,g,h0,fun x=>?_⟩
 have e:ev c x=c.getD 0 0:=by
  rw[ev_congr (q:=[c.getD 0 0]) (fun k=>?_) x,ev_const]
  cases k with
  | zero=>simp
  | succ k=>rw[getD_ge_plen c (k+1) (by omega)];simp
 rw[e,Int.mul_comm]
section
variable {f g:List Int} {m n G e N:Nat}
theorem SInv.spec (ok:GOK G m n e N) (hlow:∀ p,Comb f g p->1<=plen p->e+1<=plen p) (hf:∀ k,(f.getD k 0).natAbs*(m+n)<=G) (hg:∀ k,(g.getD k 0).natAbs*(m+n)<=G):∀ (k:Nat) (t:RS) (C:Int),SInv f g m n G e t C->t.b.length<=k ->
  (∀ p∈rsq k t,Comb t.a t.b p)/\Dvq (lst t.b (rsq k t)) t.a/\Dvq (lst t.b (rsq k t)) t.b
 | 0,t,C,h,hk=>by have:=h.b0;omega
 | k+1,t,C,h,hk=>by
   have hb:1<=plen t.b:=by rw[h.tb];exact h.b0
   by_cases hr:psr t.a t.b=[]
   ·have e:rsq (k+1) t=[]:=by simp[rsq,hr]
    rw[e]
    refine ⟨fun p hp=>(by simp at hp),?_,Dvq.refl _⟩
    refine ⟨plead t.b^(plen t.a-(plen t.b-1)),psq t.a t.b,pow_ne (fun e=>by have:=plead_zero.1 e;omega) _,fun x=>?_⟩
    rw[ps_ev t.a t.b hb,hr,ev_nil,Int.add_zero]
    rfl
   ·obtain ⟨_,h2,h3⟩:=h.step ok hlow hf hg hr
    obtain ⟨c1,c2⟩:=h.evs hr
    obtain ⟨i1,i2,i3⟩:=SInv.spec ok hlow hf hg k t.next _ h2 (by show t.rest.length<=k;omega)
    have e:rsq (k+1) t=t.rest :: rsq k t.next:=by rw[rsq,if_neg hr]
    rw[e]
    have e2:lst t.b (t.rest :: rsq k t.next)=lst t.next.b (rsq k t.next):=rfl
    rw[e2]
    refine ⟨fun p hp=>?_,Dvq.comb i2 i3 c2,i2⟩
    rcases List.mem_cons.1 hp with rfl | hp
    ·exact c1
    ·exact Comb.trans (Comb.right _ _) c1 (i1 p hp)
end
def gcl (k:Nat) (a b:List Int):List Int:=lastOf [] (rseq k a b)
theorem gcl_spec {a b:List Int} {m n G e N k:Nat} (he:e<=n) (hlow:∀ p,Comb a b p->1<=plen p->e+1<=plen p) (ha:a.length=m+1) (hb:b.length=n+1) (ta:plen a=a.length) (tb:plen b=b.length) (hmn:n<=m) (ok:GOK G m n e N) (hf0:∀ k,(a.getD k 0).natAbs<=G) (hg0:∀ k,(b.getD k 0).natAbs<=G) (hf:∀ k,(a.getD k 0).natAbs*(m+n)<=G) (hg:∀ k,(b.getD k 0).natAbs*(m+n)<=G) (hk:b.length<=k) :
  Comb a b (gcl k a b)/\1<=plen (gcl k a b)/\Dvq (gcl k a b) a/\Dvq (gcl k a b) b:=by
 have e1:ptrim a=a:=by unfold ptrim;rw[ta,List.take_length]
 have e2:ptrim b=b:=by unfold ptrim;rw[tb,List.take_length]
 have hs:=sinv_start (e:=e) he ha hb ta tb hmn ok.pos hf0 hg0
 obtain ⟨s1,s2,s3⟩:=SInv.spec ok hlow hf hg k _ _ hs hk
 have els:=SInv.els ok hlow hf hg k _ _ hs
 have hseq:rseq k a b=a :: b :: rsq k ⟨a,b,-1,(-1)^(a.length-b.length+1)⟩:=by unfold rseq;rw[e1,e2,ta,tb]
 have hcomb:∀ p∈rseq k a b,Comb a b p/\1<=plen p:=fun p hp=>by
  rw[hseq] at hp
  rcases List.mem_cons.1 hp with rfl | hp
  ·exact ⟨Comb.left _ _,by omega⟩
  ·rcases List.mem_cons.1 hp with rfl | hp
   ·exact ⟨Comb.right _ _,by omega⟩
   ·obtain ⟨_,_,h3,h4⟩:=els p hp
    exact ⟨s1 p hp,by omega⟩
 have hl:lst [] (rseq k a b)=lst b (rsq k ⟨a,b,-1,(-1)^(a.length-b.length+1)⟩):=by rw[hseq];rfl
 unfold gcl
 rcases lastOf_or (rseq k a b) [] with h | ⟨h1,h2⟩
 ·have hm:lst [] (rseq k a b)∈rseq k a b:=by
   rw[hl,hseq]
   exact List.mem_cons_of_mem _ (lst_mem _ _)
  rw[h]
  obtain ⟨c1,c2⟩:=hcomb _ hm
  rw[hl] at c1 c2 ⊢
  exact ⟨c1,c2,s2,s3⟩
 ·obtain ⟨c1,c2⟩:=hcomb _ h1
  exact ⟨c1,c2,Dvq.const h2 _,Dvq.const h2 _⟩
def pgcd (k:Nat) (f g:List Int):List Int:=ptrim (psc (pconts 0 [f,g]:Int) (pprim (gcl k (gpair f g).1 (gpair f g).2)))
theorem pgcd_is {f g:List Int} {k m n G e N:Nat} (he:e<=n) (hlow:∀ p,Comb (gpair f g).1 (gpair f g).2 p->1<=plen p->e+1<=plen p) (hf:plen f≠0) (hg:plen g≠0) (ha:(gpair f g).1.length=m+1) (hb:(gpair f g).2.length=n+1) (hmn:n<=m) (ok:GOK G m n e N) (hf0:∀ k,((gpair f g).1.getD k 0).natAbs<=G) (hg0:∀ k,((gpair f g).2.getD k 0).natAbs<=G) (hfa:∀ k,((gpair f g).1.getD k 0).natAbs*(m+n)<=G) (hgb:∀ k,((gpair f g).2.getD k 0).natAbs*(m+n)<=G) (hk:(gpair f g).2.length<=k):IsGcd f g (pgcd k f g):=by
 have hcases:(gpair f g=(pprim g,pprim f))∨(gpair f g=(pprim f,pprim g)):=by unfold gpair;split<;>simp
 have hpl:∀ p:List Int,plen (pprim p)=(pprim p).length:=fun p=>by
  have:=congrArg List.length (gp_trim p)
  rw[ptrim_length] at this
  exact this
 have ta:plen (gpair f g).1=(gpair f g).1.length:=by rcases hcases with e | e<;>rw[e]<;>exact hpl _
 have tb:plen (gpair f g).2=(gpair f g).2.length:=by rcases hcases with e | e<;>rw[e]<;>exact hpl _
 obtain ⟨c,c1,d1,d2⟩:=gcl_spec he hlow ha hb ta tb hmn ok hf0 hg0 hfa hgb hk
 obtain ⟨L,hL⟩:∃ L,L=gcl k (gpair f g).1 (gpair f g).2:=⟨_,rfl⟩
 have hP:pgcd k f g=ptrim (psc (pconts 0 [f,g]:Int) (pprim L)):=by unfold pgcd;rw[hL]
 rw[<- hL] at c c1 d1 d2
 have hL0:plen L≠0:=by omega
 have hct:pconts 0 [f,g]=Nat.gcd (pcont f) (pcont g):=by
  show Nat.gcd (Nat.gcd 0 (pcont f)) (pcont g)=_
  rw[Nat.gcd_zero_left]
 have hc0:Nat.gcd (pcont f) (pcont g)≠0:=fun e=>by have:=Nat.eq_zero_of_gcd_eq_zero_left e;exact pcont_ne hf this
 obtain ⟨K,hK⟩:∃ K:Int,K=((Nat.gcd (pcont f) (pcont g):Nat):Int):=⟨_,rfl⟩
 have hK0:0<K:=by omega
 rw[hct,<- hK] at hP
 obtain ⟨D,hD⟩:∃ D,D=pgcd k f g:=⟨_,rfl⟩
 rw[<- hD] at hP ⊢
 have hDg:∀ k,D.getD k 0=K*(pprim L).getD k 0:=fun k=>by rw[hP,ptrim_getD,psc_get]
 have eD:∀ x,ev D x=K*ev (pprim L) x:=fun x=>by rw[hP,ev_trim,ev_psc]
 have DL:Dvq D L:=Dvq.trans (dvq_scale (p:=D) (q:=pprim L) (e:=1) (e':=K) (by omega) (fun k=>by rw[hDg,Int.one_mul])) (dvq_prim_l hL0)
 have hdf:Dvq L f/\Dvq L g:=by
  rcases hcases with e | e<;>rw[e] at d1 d2
  ·exact ⟨d2.trans (dvq_prim_l hf),d1.trans (dvq_prim_l hg)⟩
  ·exact ⟨d1.trans (dvq_prim_l hf),d2.trans (dvq_prim_l hg)⟩
 have cf:Comb f g (pprim f):=(Comb.left f g).of_dvq ⟨sg (plead f)*(pcont f:Int),1,gp_ne hf,fun x=>by rw[Int.one_mul,<- ev_psc];exact ev_congr (fun k=>by rw[psc_get,<- gp_get hf]) x⟩
 have cg:Comb f g (pprim g):=(Comb.right f g).of_dvq ⟨sg (plead g)*(pcont g:Int),1,gp_ne hg,fun x=>by rw[Int.one_mul,<- ev_psc];exact ev_congr (fun k=>by rw[psc_get,<- gp_get hg]) x⟩
 have cL:Comb f g L:=by
  rcases hcases with e | e<;>rw[e] at c
  ·exact cg.trans cf c
  ·exact cf.trans cg c
 refine ⟨by rw[hP,ptrim_ptrim],?_,?_,DL.trans hdf.1,DL.trans hdf.2,?_⟩
 ·have h1:plen D=plen (pprim L):=by
   have a1:plen D<=plen (pprim L):=plen_le_of fun k hk=>by rw[hDg,getD_ge_plen _ k hk,Int.mul_zero]
   have a2:plen (pprim L)<=plen D:=plen_le_of fun k hk=>by
    have:=getD_ge_plen D k hk
    rw[hDg] at this
    exact (Int.mul_eq_zero.1 this).resolve_left (by omega)
   omega
  unfold plead
  rw[h1,hDg]
  exact Int.mul_pos hK0 (gp_lead hL0)
 ·have h1:pcont D=pcont (psc K (pprim L)):=pcont_ext fun k=>by rw[hDg,psc_get]
  rw[h1,pcont_psc,gp_cont hL0,Nat.mul_one,hK,Int.natAbs_natCast]
 ·refine cL.of_dvq ⟨sg (plead L)*(pcont L:Int),K,gp_ne hL0,fun x=>?_⟩
  rw[eD,ev_congr (fun k=>(gp_get hL0 k).trans (psc_get _ _ k).symm) x (p:=L),ev_psc]
  ac_rfl
end Go.Proofs.YtpeiiomjnjemjaaGreat
namespace Go.Proofs.YtpeiiomjnjemjaaGreat
def ppos (g:List Int):List Int:=if plead g<0 then pmn (ptrim g) else ptrim g
theorem pmn_getD (p:List Int) (k:Nat):(pmn p).getD k 0=-p.getD k 0:=by
 unfold pmn
 rw[List.getD_eq_getElem?_getD,List.getD_eq_getElem?_getD,List.getElem?_map]
 cases p[k]? with
 | none=>simp
 | some x=>simp
theorem ppos_or (g:List Int):(∀ k,(ppos g).getD k 0=g.getD k 0)/\¬ plead g<0∨(∀ k,(ppos g).getD k 0=-g.getD k 0)/\plead g<0:=by
 unfold ppos
 by_cases h:plead g<0
 ·right
  rw[if_pos h]
  exact ⟨fun k=>by rw[pmn_getD,ptrim_getD],h⟩
 ·left
  rw[if_neg h]
  exact ⟨fun k=>ptrim_getD g k,h⟩
theorem ppos_plen (g:List Int):plen (ppos g)=plen g:=by
 have key:∀ p q:List Int,(∀ k,p.getD k 0=0↔q.getD k 0=0)->plen p<=plen q:=fun p q h=>plen_le_of fun k hk=>(h k).2 (getD_ge_plen q k hk)
 have h:∀ k,(ppos g).getD k 0=0↔g.getD k 0=0:=fun k=>by
  rcases ppos_or g with ⟨h1,_⟩ | ⟨h1,_⟩<;>rw[h1]<;>omega
 exact Nat.le_antisymm (key _ _ h) (key _ _ (fun k=>(h k).symm))
theorem ppos_lead {g:List Int} (h:plen g≠0):0<plead (ppos g):=by
 have h0:plead g≠0:=fun e=>h (plead_zero.1 e)
 have e:plead (ppos g)=(ppos g).getD (plen g-1) 0:=by unfold plead;rw[ppos_plen]
 rw[e]
 have e2:plead g=g.getD (plen g-1) 0:=rfl
 rcases ppos_or g with ⟨h1,h2⟩ | ⟨h1,h2⟩<;>rw[h1]<;>omega
theorem ppos_cont (g:List Int):pcont (ppos g)=pcont g:=pcont_ext fun k=>by
 rcases ppos_or g with ⟨h1,_⟩ | ⟨h1,_⟩<;>rw[h1]<;>omega
theorem ppos_trim (g:List Int):ptrim (ppos g)=ppos g:=by
 have hl:(ppos g).length=plen g:=by
  unfold ppos
  split
  ·unfold pmn;rw[List.length_map,ptrim_length]
  ·rw[ptrim_length]
 unfold ptrim
 rw[ppos_plen,<- hl,List.take_length]
theorem ppos_ev (g:List Int):∃ c:Int,c≠0/\(∀ x,ev (ppos g) x=c*ev g x)/\∀ k,(ppos g).getD k 0=c*g.getD k 0:=by
 rcases ppos_or g with ⟨h1,_⟩ | ⟨h1,_⟩
 ·exact ⟨1,by decide,fun x=>by rw[ev_congr h1 x,Int.one_mul],fun k=>by rw[h1,Int.one_mul]⟩
 ·refine ⟨-1,by decide,fun x=>?_,fun k=>by rw[h1];omega⟩
  rw[<- ev_psc]
  exact ev_congr (fun k=>by rw[h1,psc_get];omega) x
theorem ppos_dvq (g:List Int):Dvq (ppos g) g/\Dvq g (ppos g):=by
 obtain ⟨c,hc,_,h⟩:=ppos_ev g
 exact ⟨dvq_scale (e:=1) (e':=c) hc (fun k=>by rw[h,Int.one_mul]),dvq_scale (e:=c) (e':=1) (by decide) (fun k=>by rw[h,Int.one_mul])⟩
theorem IsGcd.symm {f g D:List Int} (h:IsGcd f g D):IsGcd g f D:=by
 obtain ⟨c,u,v,hc,e⟩:=h.c
 exact ⟨h.trim,h.lead,by rw[Nat.gcd_comm];exact h.cont,h.r,h.l,c,v,u,hc,fun x=>by rw[e];omega⟩
theorem isgcd_zero {f g:List Int} (hf:plen f=0) (hg:plen g≠0):IsGcd f g (ppos g):=by
 have hz:∀ k,f.getD k 0=0:=fun k=>getD_ge_plen f k (by omega)
 obtain ⟨c,hc,h,_⟩:=ppos_ev g
 refine ⟨ppos_trim g,ppos_lead hg,by rw[ppos_cont,pcont_zero hf,Nat.gcd_zero_left],Dvq.zero _ hz,(ppos_dvq g).1,(Comb.right f g).of_dvq ⟨1,c,by decide,fun x=>by rw[h,Int.one_mul]⟩⟩
theorem Dvq.mul {f g:List Int} (h:Dvq f g) (p:List Int):Dvq (polymul f p) (polymul g p):=by
 obtain ⟨c,q,hc,e⟩:=h
 refine ⟨c,q,hc,fun x=>?_⟩
 rw[ev_mul,ev_mul,<- Int.mul_assoc,e,Int.mul_assoc]
theorem IsGcd.mul {f g D h:List Int} (k:IsGcd f g D) (h0:plen h≠0):IsGcd (polymul f h) (polymul g h) (ppos (polymul D h)):=by
 have hD:plen D≠0:=fun e=>by have:=plead_zero.2 e;have:=k.lead;omega
 have hm:=plen_mul (f:=D) (g:=h) (by omega) (by omega)
 obtain ⟨c,hc,hev,_⟩:=ppos_ev (polymul D h)
 obtain ⟨c2,u,v,hc2,e⟩:=k.c
 refine ⟨ppos_trim _,ppos_lead (by omega),?_,(ppos_dvq _).1.trans (k.l.mul h),(ppos_dvq _).1.trans (k.r.mul h),?_⟩
 ·rw[ppos_cont,pcont_mul,pcont_mul,pcont_mul,k.cont,Nat.gcd_mul_right]
 ·refine ⟨c2,psc c u,psc c v,hc2,fun x=>?_⟩
  rw[hev]
  simp only[ev_mul,ev_psc]
  have h1:c2*(c*(ev D x*ev h x))=c*ev h x*(c2*ev D x):=by ac_rfl
  rw[h1,e,Int.mul_add]
  congr 1<;>ac_rfl
def IsG (f g D:List Int):Prop:=(plen f=0/\plen g=0/\D=[])∨(¬ (plen f=0/\plen g=0)/\IsGcd f g D)
theorem IsGcd.ne {f g D:List Int} (h:IsGcd f g D):plen D≠0:=fun e=>by have:=plead_zero.2 e;have:=h.lead;omega
theorem IsG.symm {f g D:List Int} (h:IsG f g D):IsG g f D:=by
 rcases h with ⟨h1,h2,h3⟩ | ⟨h1,h2⟩
 ·exact .inl ⟨h2,h1,h3⟩
 ·exact .inr ⟨fun e=>h1 ⟨e.2,e.1⟩,h2.symm⟩
theorem polymul_zero_l {f h:List Int} (hf:plen f=0):plen (polymul f h)=0:=by
 have:∀ k,(polymul f h).getD k 0=0:=fun k=>by
  have h1:=ev_inj (p:=polymul f h) (q:=[]) (fun x=>by rw[ev_mul,ev_congr (p:=f) (q:=[]) (fun k=>by rw[getD_ge_plen f k (by omega)];simp) x,ev_nil];simp) k
  rw[h1];simp
 have:=plen_le_of (p:=polymul f h) (n:=0) (fun k _=>this k)
 omega
theorem polymul_zero_r {f h:List Int} (hh:plen h=0):plen (polymul f h)=0:=by
 have:∀ k,(polymul f h).getD k 0=0:=fun k=>by
  have h1:=ev_inj (p:=polymul f h) (q:=[]) (fun x=>by rw[ev_mul,ev_congr (p:=h) (q:=[]) (fun k=>by rw[getD_ge_plen h k (by omega)];simp) x,ev_nil];simp) k
  rw[h1];simp
 have:=plen_le_of (p:=polymul f h) (n:=0) (fun k _=>this k)
 omega
theorem IsG.mul {f g D h:List Int} (k:IsG f g D):IsG (polymul f h) (polymul g h) (ppos (polymul D h)):=by
 by_cases h0:plen h=0
 ·refine .inl ⟨polymul_zero_r h0,polymul_zero_r h0,?_⟩
  have:=ppos_plen (polymul D h)
  rw[polymul_zero_r h0] at this
  rw[<- ppos_trim,ptrim,this];rfl
 ·rcases k with ⟨h1,h2,h3⟩ | ⟨h1,h2⟩
  ·refine .inl ⟨polymul_zero_l h1,polymul_zero_l h2,?_⟩
   have:=ppos_plen (polymul D h)
   rw[polymul_zero_l (by rw[h3];rfl)] at this
   rw[<- ppos_trim,ptrim,this];rfl
  ·refine .inr ⟨fun e=>h1 ?_,h2.mul h0⟩
   have key:∀ p:List Int,plen (polymul p h)=0->plen p=0:=fun p hp=>Classical.byContradiction fun hn=>by
    have:=(plen_mul (f:=p) (g:=h) (by omega) (by omega)).1
    omega
   exact ⟨key f e.1,key g e.2⟩
end Go.Proofs.YtpeiiomjnjemjaaGreat
