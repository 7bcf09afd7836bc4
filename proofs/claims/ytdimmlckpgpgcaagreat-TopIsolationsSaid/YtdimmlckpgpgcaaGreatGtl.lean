/- Laws of greatest common divisors: with zeros, common factors, commutative, associative. Plain: no program. -/
import Derived.Test.YtdimmlckpgpgcaaGreatGti
import Derived.Test.YtdimmlckpgpgcaaGreatSub
import Derived.Test.YtdimmlckpgpgcaaGreatAwl
import Derived.Test.YtdimmlckpgpgcaaGreatSta
namespace Go.Proofs.YtdimmlckpgpgcaaGreat
theorem ahy {z:Int} (h:z≠0):sg z*sg z=1:=by
 rcases aar z with ⟨h1,e⟩ | ⟨h1,e⟩ | ⟨h1,e⟩<;>rw[e]<;>first | rfl | omega
theorem ac9 {f:List Int} (h:aac f≠0) (k:Nat):f.getD k 0=sg (aaj f)*(aal f:Int)*(aan f).getD k 0:=by
 have h1:(aan f).getD k 0=(f.getD k 0).tdiv (sg (aaj f)*(aal f:Int)):=by
  unfold aan
  rw[if_neg h,ad5,aam]
 rw[h1]
 refine (Int.mul_tdiv_cancel' ?_).symm
 have h2:=abE f k
 have h0:aaj f≠0:=fun e=>h (aa1.1 e)
 have h3:sg (aaj f)*(aal f:Int)∣(aal f:Int):=⟨sg (aaj f),by rw[Int.mul_right_comm,ahy h0,Int.one_mul]⟩
 refine Int.dvd_trans h3 ?_
 rw[<- Int.natAbs_dvd_natAbs,Int.natAbs_natCast]
 exact h2
theorem ajk {f:List Int} (h:aac f≠0):sg (aaj f)*(aal f:Int)≠0:=by
 have h0:aaj f≠0:=fun e=>h (aa1.1 e)
 have h1:=abN h
 refine Int.mul_ne_zero (fun e=>?_) (by omega)
 have:=ahy h0
 rw[e] at this
 simp at this
theorem ajl {f:List Int} (h:aac f≠0):aal (aan f)=1:=by
 have h0:aaj f≠0:=fun e=>h (aa1.1 e)
 have h2:=acH (sg (aaj f)*(aal f:Int)) (aan f)
 have h3:aal (psc (sg (aaj f)*(aal f:Int)) (aan f))=aal f:=abS fun k=>by rw[aav,<- ac9 h]
 rw[h3,Int.natAbs_mul,Int.natAbs_natCast] at h2
 have h4:(sg (aaj f)).natAbs=1:=by rcases aar (aaj f) with ⟨h1,e⟩ | ⟨h1,e⟩ | ⟨h1,e⟩<;>rw[e]<;>first | rfl | omega
 rw[h4,Nat.one_mul] at h2
 have h5:=abN h
 exact Nat.eq_of_mul_eq_mul_left (Nat.pos_of_ne_zero h5) (by rw[Nat.mul_one];exact h2.symm)
theorem acJ (f:List Int):aac (aan f)=aac f:=by
 by_cases h:aac f=0
 ·unfold aan;rw[if_pos h,h];rfl
 ·have h1:aac (aan f)<=aac f:=aax fun k hk=>by
   have:=ac9 h k
   rw[aah f k hk] at this
   exact (Int.mul_eq_zero.1 this.symm).resolve_left (ajk h)
  have h2:aac f<=aac (aan f):=aax fun k hk=>by rw[ac9 h k,aah (aan f) k hk,Int.mul_zero]
  omega
theorem aus {f:List Int} (h:aac f≠0):0<aaj (aan f):=by
 have h0:aaj f≠0:=fun e=>h (aa1.1 e)
 have h1:aaj f=sg (aaj f)*(aal f:Int)*aaj (aan f):=by
  have:=ac9 h (aac f-1)
  unfold aaj at *
  rw[acJ]
  exact this
 have h2:=abN h
 have h3:(0:Int)<(aal f:Int):=by omega
 refine Classical.byContradiction fun hn=>?_
 rcases aar (aaj f) with ⟨h4,e⟩ | ⟨h4,e⟩ | ⟨h4,e⟩
 all_goals (rw[e] at h1;have h5:(aal f:Int)*aaj (aan f)<=0:=Int.mul_nonpos_of_nonneg_of_nonpos (by omega) (by omega))
 all_goals (try rw[Int.mul_assoc] at h1)
 all_goals omega
theorem ahz (f:List Int):aaf (aan f)=aan f:=by
 have h:(aan f).length=aac f:=by
  unfold aan
  split
  ·rename_i h;rw[h];rfl
  ·rw[List.length_map,aae]
 unfold aaf
 rw[acJ,<- h,List.take_length]
theorem afH {p q:List Int} {e e':Int} (he:e'≠0) (h:∀ k,e*p.getD k 0=e'*q.getD k 0):Dvq p q :=
 ⟨e',[e],he,fun x=>by rw[aaY,<- aaG,<- aaG];exact (aaz (fun k=>by rw[aav,aav,h k]) x).symm⟩
theorem Dvq.zero (f:List Int) {g:List Int} (h:∀ k,g.getD k 0=0):Dvq f g:=⟨1,[],by decide,fun x=>by rw[abt,aaz (q:=[]) (fun k=>by rw[h];simp) x,abt];simp⟩
theorem acU {f:List Int} (h:aac f≠0):Dvq (aan f) f:=afH (e:=sg (aaj f)*(aal f:Int)) (e':=1) (by decide) (fun k=>by rw[<- ac9 h,Int.one_mul])
theorem acT.aio {f g h h':List Int} (k:acT f g h) (d:∃ c e:Int,c≠0/\∀ x,c*ev h' x=e*ev h x):acT f g h':=by
 obtain ⟨c,u,v,hc,e⟩:=k
 obtain ⟨c',e',hc',e2⟩:=d
 refine ⟨c*c',psc e' u,psc e' v,Int.mul_ne_zero hc hc',fun x=>?_⟩
 rw[aaG,aaG,Int.mul_assoc,e2]
 have h1:c*(e'*ev h x)=e'*(c*ev h x):=by ac_rfl
 rw[h1,e,Int.mul_add]
 congr 1<;>ac_rfl
structure adv (f g D:List Int):Prop where
 trim:aaf D=D
 lead:0<aaj D
 cont:aal D=Nat.gcd (aal f) (aal g)
 l:Dvq D f
 r:Dvq D g
 c:acT f g D
theorem awk {p q:List Int} (hp:0<aaj p) (hq:0<aaj q) (hc:aal p=aal q) (h:Dvq p q) (h':Dvq q p) (k:Nat):p.getD k 0=q.getD k 0:=by
 have p1:1<=aac p:=Classical.byContradiction fun hn=>by have:=aa1.2 (show aac p=0 by omega);omega
 have q1:1<=aac q:=Classical.byContradiction fun hn=>by have:=aa1.2 (show aac q=0 by omega);omega
 have key:∀ {p q:List Int},1<=aac p->1<=aac q->∀ {c:Int} {u:List Int},c≠0->(∀ x,c*ev q x=ev u x*ev p x)->aac q=aac u+aac p-1/\1<=aac u/\∀ k,c*q.getD k 0=(aag u p).getD k 0:=by
  intro p q p1 q1 c u hc e
  have hk:∀ k,(psc c q).getD k 0=(aag u p).getD k 0:=abJ fun x=>by rw[aaG,aat,e]
  have hl:aac (psc c q)=aac q:=by
   have a1:aac (psc c q)<=aac q:=aax fun k hk=>by rw[aav,aah q k hk,Int.mul_zero]
   have a2:aac q<=aac (psc c q):=aax fun k hk=>by
    have:=aah (psc c q) k hk
    rw[aav] at this
    exact (Int.mul_eq_zero.1 this).resolve_left hc
   omega
  have ht:aac (psc c q)=aac (aag u p):=by have:=congrArg List.length (aes hk);rw[aae,aae] at this;exact this
  have u1:1<=aac u:=Classical.byContradiction fun hn=>by
   have hz:∀ k,(aag u p).getD k 0=0:=fun k=>by
    have h1:=abJ (p:=aag u p) (q:=[]) (fun x=>by rw[aat,aaz (p:=u) (q:=[]) (fun k=>by rw[aah u k (by omega)];simp) x,abt];simp) k
    rw[h1];simp
   have:aac (aag u p)<=0:=aax fun k _=>hz k
   omega
  have hm:=(abX u1 p1).1
  exact ⟨by omega,u1,fun k=>by rw[<- aav];exact hk k⟩
 obtain ⟨c,u,hc0,e⟩:=h
 obtain ⟨c',u',hc0',e'⟩:=h'
 obtain ⟨a1,a2,a3⟩:=key p1 q1 hc0 e
 obtain ⟨b1,b2,_⟩:=key q1 p1 hc0' e'
 have hu:aac u=1:=by omega
 obtain ⟨a,ha⟩:∃ a,a=u.getD 0 0:=⟨_,rfl⟩
 have hg:∀ k,c*q.getD k 0=a*p.getD k 0:=fun k=>by
  have h1:∀ x,ev u x=a:=fun x=>by
   rw[aaz (q:=[a]) (fun k=>?_) x,aaY]
   cases k with
   | zero=>simp[ha]
   | succ k=>rw[aah u (k+1) (by omega)];simp
  have h2:=abJ (p:=psc c q) (q:=psc a p) (fun x=>by rw[aaG,aaG,e,h1]) k
  rw[aav,aav] at h2
  exact h2
 have hcc:c.natAbs*aal q=a.natAbs*aal p:=by
  rw[<- acH,<- acH]
  exact abS fun k=>by rw[aav,aav,hg]
 have hcp:aal p≠0:=abN (by omega)
 rw[hc] at hcc hcp
 have hab:c.natAbs=a.natAbs:=Nat.eq_of_mul_eq_mul_right (Nat.pos_of_ne_zero hcp) hcc
 have hlq:aac q=aac p:=by omega
 have hld:=hg (aac p-1)
 have e1:q.getD (aac p-1) 0=aaj q:=by unfold aaj;rw[hlq]
 have e2:p.getD (aac p-1) 0=aaj p:=rfl
 rw[e1,e2] at hld
 have hca:c=a:=by
  rcases Int.natAbs_eq_natAbs_iff.1 hab with h1 | h1
  ·exact h1
  ·exfalso
   rw[h1] at hld
   rcases Int.lt_or_gt_of_ne (show a≠0 by omega) with h2 | h2
   ·have h3:a*aaj p<0:=Int.mul_neg_of_neg_of_pos h2 hp
    have h4:0 < -a*aaj q:=Int.mul_pos (by omega) hq
    omega
   ·have h3:0<a*aaj p:=Int.mul_pos h2 hp
    have h4:-a*aaj q<0:=Int.mul_neg_of_neg_of_pos (by omega) hq
    omega
 have:=hg k
 rw[hca] at this
 exact (Int.eq_of_mul_eq_mul_left (by omega) this).symm
theorem adv.unique {f g D D':List Int} (h:adv f g D) (h':adv f g D'):D=D':=by
 have h1:=awk h.lead h'.lead (by rw[h.cont,h'.cont]) (Dvq.comb h.l h.r h'.c) (Dvq.comb h'.l h'.r h.c)
 rw[<- h.trim,<- h'.trim]
 exact aes h1
end Go.Proofs.YtdimmlckpgpgcaaGreat
namespace Go.Proofs.YtdimmlckpgpgcaaGreat
def lst:List Int->List (List Int)->List Int
 | b,[]=>b
 | _,s :: r=>lst s r
theorem ahA:∀ (l:List (List Int)) (d:List Int),lastOf d l=lst d l∨(lastOf d l∈l/\aac (lastOf d l)=1)
 | [],_=>.inl rfl
 | s :: r,d=>by
   by_cases h:aac s=1
   ·right
    have e:lastOf d (s :: r)=s:=by show (if aac s=1 then s else lastOf s r)=s;rw[if_pos h]
    rw[e]
    exact ⟨List.mem_cons_self ..,h⟩
   ·have e:lastOf d (s :: r)=lastOf s r:=by show (if aac s=1 then s else lastOf s r)=_;rw[if_neg h]
    rw[e]
    exact (ahA r s).imp id (fun h=>⟨List.mem_cons_of_mem _ h.1,h.2⟩)
theorem alR:∀ (l:List (List Int)) (d:List Int),lst d l∈d :: l
 | [],_=>List.mem_cons_self ..
 | s :: r,_=>List.mem_cons_of_mem _ (alR r s)
theorem Dvq.const {c:List Int} (h:aac c=1) (g:List Int):Dvq c g:=by
 have h0:c.getD 0 0≠0:=ab3 c 0 (by omega)
 refine ⟨c.getD 0 0,g,h0,fun x=>?_⟩
 have e:ev c x=c.getD 0 0:=by
  rw[aaz (q:=[c.getD 0 0]) (fun k=>?_) x,aaY]
  cases k with
  | zero=>simp
  | succ k=>rw[aah c (k+1) (by omega)];simp
 rw[e,Int.mul_comm]
section
variable {f g:List Int} {m n G e N:Nat}
theorem adn.spec (ok:GOK G m n e N) (hlow:∀ p,acT f g p->1<=aac p->e+1<=aac p) (hf:∀ k,(f.getD k 0).natAbs*(m+n)<=G) (hg:∀ k,(g.getD k 0).natAbs*(m+n)<=G):∀ (k:Nat) (t:RS) (C:Int),adn f g m n G e t C->t.b.length<=k ->
  (∀ p∈rsq k t,acT t.a t.b p)/\Dvq (lst t.b (rsq k t)) t.a/\Dvq (lst t.b (rsq k t)) t.b
 | 0,t,C,h,hk=>by have:=h.b0;omega
 | k+1,t,C,h,hk=>by
   have hb:1<=aac t.b:=by rw[h.tb];exact h.b0
   by_cases hr:psr t.a t.b=[]
   ·have e:rsq (k+1) t=[]:=by simp[rsq,hr]
    rw[e]
    refine ⟨fun p hp=>(by simp at hp),?_,Dvq.refl _⟩
    refine ⟨aaj t.b^(aac t.a-(aac t.b-1)),psq t.a t.b,ahx (fun e=>by have:=aa1.1 e;omega) _,fun x=>?_⟩
    rw[aur t.a t.b hb,hr,abt,Int.add_zero]
    rfl
   ·obtain ⟨_,h2,h3⟩:=h.step ok hlow hf hg hr
    obtain ⟨c1,c2⟩:=h.evs hr
    obtain ⟨i1,i2,i3⟩:=adn.spec ok hlow hf hg k t.next _ h2 (by show t.rest.length<=k;omega)
    have e:rsq (k+1) t=t.rest :: rsq k t.next:=by rw[rsq,if_neg hr]
    rw[e]
    have e2:lst t.b (t.rest :: rsq k t.next)=lst t.next.b (rsq k t.next):=rfl
    rw[e2]
    refine ⟨fun p hp=>?_,Dvq.comb i2 i3 c2,i2⟩
    rcases List.mem_cons.1 hp with rfl | hp
    ·exact c1
    ·exact acT.trans (acT.right _ _) c1 (i1 p hp)
end
def gcl (k:Nat) (a b:List Int):List Int:=lastOf [] (agB k a b)
theorem am1 {a b:List Int} {m n G e N k:Nat} (he:e<=n) (hlow:∀ p,acT a b p->1<=aac p->e+1<=aac p) (ha:a.length=m+1) (hb:b.length=n+1) (ta:aac a=a.length) (tb:aac b=b.length) (hmn:n<=m) (ok:GOK G m n e N) (hf0:∀ k,(a.getD k 0).natAbs<=G) (hg0:∀ k,(b.getD k 0).natAbs<=G) (hf:∀ k,(a.getD k 0).natAbs*(m+n)<=G) (hg:∀ k,(b.getD k 0).natAbs*(m+n)<=G) (hk:b.length<=k) :
  acT a b (gcl k a b)/\1<=aac (gcl k a b)/\Dvq (gcl k a b) a/\Dvq (gcl k a b) b:=by
 have e1:aaf a=a:=by unfold aaf;rw[ta,List.take_length]
 have e2:aaf b=b:=by unfold aaf;rw[tb,List.take_length]
 have hs:=aeV (e:=e) he ha hb ta tb hmn ok.pos hf0 hg0
 obtain ⟨s1,s2,s3⟩:=adn.spec ok hlow hf hg k _ _ hs hk
 have els:=adn.els ok hlow hf hg k _ _ hs
 have hseq:agB k a b=a :: b :: rsq k ⟨a,b,-1,(-1)^(a.length-b.length+1)⟩:=by unfold agB;rw[e1,e2,ta,tb]
 have awl:∀ p∈agB k a b,acT a b p/\1<=aac p:=fun p hp=>by
  rw[hseq] at hp
  rcases List.mem_cons.1 hp with rfl | hp
  ·exact ⟨acT.left _ _,by omega⟩
  ·rcases List.mem_cons.1 hp with rfl | hp
   ·exact ⟨acT.right _ _,by omega⟩
   ·obtain ⟨_,_,h3,h4⟩:=els p hp
    exact ⟨s1 p hp,by omega⟩
 have hl:lst [] (agB k a b)=lst b (rsq k ⟨a,b,-1,(-1)^(a.length-b.length+1)⟩):=by rw[hseq];rfl
 unfold gcl
 rcases ahA (agB k a b) [] with h | ⟨h1,h2⟩
 ·have hm:lst [] (agB k a b)∈agB k a b:=by
   rw[hl,hseq]
   exact List.mem_cons_of_mem _ (alR _ _)
  rw[h]
  obtain ⟨c1,c2⟩:=awl _ hm
  rw[hl] at c1 c2 ⊢
  exact ⟨c1,c2,s2,s3⟩
 ·obtain ⟨c1,c2⟩:=awl _ h1
  exact ⟨c1,c2,Dvq.const h2 _,Dvq.const h2 _⟩
def avs (k:Nat) (f g:List Int):List Int:=aaf (psc (abe 0 [f,g]:Int) (aan (gcl k (aaB f g).1 (aaB f g).2)))
theorem aut {f g:List Int} {k m n G e N:Nat} (he:e<=n) (hlow:∀ p,acT (aaB f g).1 (aaB f g).2 p->1<=aac p->e+1<=aac p) (hf:aac f≠0) (hg:aac g≠0) (ha:(aaB f g).1.length=m+1) (hb:(aaB f g).2.length=n+1) (hmn:n<=m) (ok:GOK G m n e N) (hf0:∀ k,((aaB f g).1.getD k 0).natAbs<=G) (hg0:∀ k,((aaB f g).2.getD k 0).natAbs<=G) (hfa:∀ k,((aaB f g).1.getD k 0).natAbs*(m+n)<=G) (hgb:∀ k,((aaB f g).2.getD k 0).natAbs*(m+n)<=G) (hk:(aaB f g).2.length<=k):adv f g (avs k f g):=by
 have hcases:(aaB f g=(aan g,aan f))∨(aaB f g=(aan f,aan g)):=by unfold aaB;split<;>simp
 have hpl:∀ p:List Int,aac (aan p)=(aan p).length:=fun p=>by
  have:=congrArg List.length (ahz p)
  rw[aae] at this
  exact this
 have ta:aac (aaB f g).1=(aaB f g).1.length:=by rcases hcases with e | e<;>rw[e]<;>exact hpl _
 have tb:aac (aaB f g).2=(aaB f g).2.length:=by rcases hcases with e | e<;>rw[e]<;>exact hpl _
 obtain ⟨c,c1,d1,d2⟩:=am1 he hlow ha hb ta tb hmn ok hf0 hg0 hfa hgb hk
 obtain ⟨L,hL⟩:∃ L,L=gcl k (aaB f g).1 (aaB f g).2:=⟨_,rfl⟩
 have hP:avs k f g=aaf (psc (abe 0 [f,g]:Int) (aan L)):=by unfold avs;rw[hL]
 rw[<- hL] at c c1 d1 d2
 have hL0:aac L≠0:=by omega
 have hct:abe 0 [f,g]=Nat.gcd (aal f) (aal g):=by
  show Nat.gcd (Nat.gcd 0 (aal f)) (aal g)=_
  rw[Nat.gcd_zero_left]
 have hc0:Nat.gcd (aal f) (aal g)≠0:=fun e=>by have:=Nat.eq_zero_of_gcd_eq_zero_left e;exact abN hf this
 obtain ⟨K,hK⟩:∃ K:Int,K=((Nat.gcd (aal f) (aal g):Nat):Int):=⟨_,rfl⟩
 have hK0:0<K:=by omega
 rw[hct,<- hK] at hP
 obtain ⟨D,hD⟩:∃ D,D=avs k f g:=⟨_,rfl⟩
 rw[<- hD] at hP ⊢
 have hDg:∀ k,D.getD k 0=K*(aan L).getD k 0:=fun k=>by rw[hP,aam,aav]
 have eD:∀ x,ev D x=K*ev (aan L) x:=fun x=>by rw[hP,acS,aaG]
 have DL:Dvq D L:=Dvq.trans (afH (p:=D) (q:=aan L) (e:=1) (e':=K) (by omega) (fun k=>by rw[hDg,Int.one_mul])) (acU hL0)
 have hdf:Dvq L f/\Dvq L g:=by
  rcases hcases with e | e<;>rw[e] at d1 d2
  ·exact ⟨d2.trans (acU hf),d1.trans (acU hg)⟩
  ·exact ⟨d1.trans (acU hf),d2.trans (acU hg)⟩
 have cf:acT f g (aan f):=(acT.left f g).aio ⟨sg (aaj f)*(aal f:Int),1,ajk hf,fun x=>by rw[Int.one_mul,<- aaG];exact aaz (fun k=>by rw[aav,<- ac9 hf]) x⟩
 have cg:acT f g (aan g):=(acT.right f g).aio ⟨sg (aaj g)*(aal g:Int),1,ajk hg,fun x=>by rw[Int.one_mul,<- aaG];exact aaz (fun k=>by rw[aav,<- ac9 hg]) x⟩
 have cL:acT f g L:=by
  rcases hcases with e | e<;>rw[e] at c
  ·exact cg.trans cf c
  ·exact cf.trans cg c
 refine ⟨by rw[hP,acu],?_,?_,DL.trans hdf.1,DL.trans hdf.2,?_⟩
 ·have h1:aac D=aac (aan L):=by
   have a1:aac D<=aac (aan L):=aax fun k hk=>by rw[hDg,aah _ k hk,Int.mul_zero]
   have a2:aac (aan L)<=aac D:=aax fun k hk=>by
    have:=aah D k hk
    rw[hDg] at this
    exact (Int.mul_eq_zero.1 this).resolve_left (by omega)
   omega
  unfold aaj
  rw[h1,hDg]
  exact Int.mul_pos hK0 (aus hL0)
 ·have h1:aal D=aal (psc K (aan L)):=abS fun k=>by rw[hDg,aav]
  rw[h1,acH,ajl hL0,Nat.mul_one,hK,Int.natAbs_natCast]
 ·refine cL.aio ⟨sg (aaj L)*(aal L:Int),K,ajk hL0,fun x=>?_⟩
  rw[eD,aaz (fun k=>(ac9 hL0 k).trans (aav _ _ k).symm) x (p:=L),aaG]
  ac_rfl
end Go.Proofs.YtdimmlckpgpgcaaGreat
namespace Go.Proofs.YtdimmlckpgpgcaaGreat
def aei (g:List Int):List Int:=if aaj g<0 then pmn (aaf g) else aaf g
theorem arX (p:List Int) (k:Nat):(pmn p).getD k 0=-p.getD k 0:=by
 unfold pmn
 rw[List.getD_eq_getElem?_getD,List.getD_eq_getElem?_getD,List.getElem?_map]
 cases p[k]? with
 | none=>simp
 | some x=>simp
theorem af8 (g:List Int):(∀ k,(aei g).getD k 0=g.getD k 0)/\¬ aaj g<0∨(∀ k,(aei g).getD k 0=-g.getD k 0)/\aaj g<0:=by
 unfold aei
 by_cases h:aaj g<0
 ·right
  rw[if_pos h]
  exact ⟨fun k=>by rw[arX,aam],h⟩
 ·left
  rw[if_neg h]
  exact ⟨fun k=>aam g k,h⟩
theorem afI (g:List Int):aac (aei g)=aac g:=by
 have key:∀ p q:List Int,(∀ k,p.getD k 0=0↔q.getD k 0=0)->aac p<=aac q:=fun p q h=>aax fun k hk=>(h k).2 (aah q k hk)
 have h:∀ k,(aei g).getD k 0=0↔g.getD k 0=0:=fun k=>by
  rcases af8 g with ⟨h1,_⟩ | ⟨h1,_⟩<;>rw[h1]<;>omega
 exact Nat.le_antisymm (key _ _ h) (key _ _ (fun k=>(h k).symm))
theorem akz {g:List Int} (h:aac g≠0):0<aaj (aei g):=by
 have h0:aaj g≠0:=fun e=>h (aa1.1 e)
 have e:aaj (aei g)=(aei g).getD (aac g-1) 0:=by unfold aaj;rw[afI]
 rw[e]
 have e2:aaj g=g.getD (aac g-1) 0:=rfl
 rcases af8 g with ⟨h1,h2⟩ | ⟨h1,h2⟩<;>rw[h1]<;>omega
theorem akA (g:List Int):aal (aei g)=aal g:=abS fun k=>by
 rcases af8 g with ⟨h1,_⟩ | ⟨h1,_⟩<;>rw[h1]<;>omega
theorem afJ (g:List Int):aaf (aei g)=aei g:=by
 have hl:(aei g).length=aac g:=by
  unfold aei
  split
  ·unfold pmn;rw[List.length_map,aae]
  ·rw[aae]
 unfold aaf
 rw[afI,<- hl,List.take_length]
theorem alS (g:List Int):∃ c:Int,c≠0/\(∀ x,ev (aei g) x=c*ev g x)/\∀ k,(aei g).getD k 0=c*g.getD k 0:=by
 rcases af8 g with ⟨h1,_⟩ | ⟨h1,_⟩
 ·exact ⟨1,by decide,fun x=>by rw[aaz h1 x,Int.one_mul],fun k=>by rw[h1,Int.one_mul]⟩
 ·refine ⟨-1,by decide,fun x=>?_,fun k=>by rw[h1];omega⟩
  rw[<- aaG]
  exact aaz (fun k=>by rw[h1,aav];omega) x
theorem ajm (g:List Int):Dvq (aei g) g/\Dvq g (aei g):=by
 obtain ⟨c,hc,_,h⟩:=alS g
 exact ⟨afH (e:=1) (e':=c) hc (fun k=>by rw[h,Int.one_mul]),afH (e:=c) (e':=1) (by decide) (fun k=>by rw[h,Int.one_mul])⟩
theorem adv.symm {f g D:List Int} (h:adv f g D):adv g f D:=by
 obtain ⟨c,u,v,hc,e⟩:=h.c
 exact ⟨h.trim,h.lead,by rw[Nat.gcd_comm];exact h.cont,h.r,h.l,c,v,u,hc,fun x=>by rw[e];omega⟩
theorem aip {f g:List Int} (hf:aac f=0) (hg:aac g≠0):adv f g (aei g):=by
 have hz:∀ k,f.getD k 0=0:=fun k=>aah f k (by omega)
 obtain ⟨c,hc,h,_⟩:=alS g
 refine ⟨afJ g,akz hg,by rw[akA,aif hf,Nat.gcd_zero_left],Dvq.zero _ hz,(ajm g).1,(acT.right f g).aio ⟨1,c,by decide,fun x=>by rw[h,Int.one_mul]⟩⟩
theorem Dvq.mul {f g:List Int} (h:Dvq f g) (p:List Int):Dvq (aag f p) (aag g p):=by
 obtain ⟨c,q,hc,e⟩:=h
 refine ⟨c,q,hc,fun x=>?_⟩
 rw[aat,aat,<- Int.mul_assoc,e,Int.mul_assoc]
theorem adv.mul {f g D h:List Int} (k:adv f g D) (h0:aac h≠0):adv (aag f h) (aag g h) (aei (aag D h)):=by
 have hD:aac D≠0:=fun e=>by have:=aa1.2 e;have:=k.lead;omega
 have hm:=abX (f:=D) (g:=h) (by omega) (by omega)
 obtain ⟨c,hc,hev,_⟩:=alS (aag D h)
 obtain ⟨c2,u,v,hc2,e⟩:=k.c
 refine ⟨afJ _,akz (by omega),?_,(ajm _).1.trans (k.l.mul h),(ajm _).1.trans (k.r.mul h),?_⟩
 ·rw[akA,aex,aex,aex,k.cont,Nat.gcd_mul_right]
 ·refine ⟨c2,psc c u,psc c v,hc2,fun x=>?_⟩
  rw[hev]
  simp only[aat,aaG]
  have h1:c2*(c*(ev D x*ev h x))=c*ev h x*(c2*ev D x):=by ac_rfl
  rw[h1,e,Int.mul_add]
  congr 1<;>ac_rfl
def IsG (f g D:List Int):Prop:=(aac f=0/\aac g=0/\D=[])∨(¬ (aac f=0/\aac g=0)/\adv f g D)
theorem adv.ne {f g D:List Int} (h:adv f g D):aac D≠0:=fun e=>by have:=aa1.2 e;have:=h.lead;omega
theorem IsG.unique {f g D D':List Int} (h:IsG f g D) (h':IsG f g D'):D=D':=by
 rcases h with ⟨h1,h2,h3⟩ | ⟨h1,h2⟩
 ·rcases h' with ⟨_,_,h4⟩ | ⟨h4,_⟩
  ·rw[h3,h4]
  ·exact absurd ⟨h1,h2⟩ h4
 ·rcases h' with ⟨h3,h4,_⟩ | ⟨_,h4⟩
  ·exact absurd ⟨h3,h4⟩ h1
  ·exact h2.unique h4
theorem IsG.symm {f g D:List Int} (h:IsG f g D):IsG g f D:=by
 rcases h with ⟨h1,h2,h3⟩ | ⟨h1,h2⟩
 ·exact .inl ⟨h2,h1,h3⟩
 ·exact .inr ⟨fun e=>h1 ⟨e.2,e.1⟩,h2.symm⟩
theorem acr {f h:List Int} (hf:aac f=0):aac (aag f h)=0:=by
 have:∀ k,(aag f h).getD k 0=0:=fun k=>by
  have h1:=abJ (p:=aag f h) (q:=[]) (fun x=>by rw[aat,aaz (p:=f) (q:=[]) (fun k=>by rw[aah f k (by omega)];simp) x,abt];simp) k
  rw[h1];simp
 have:=aax (p:=aag f h) (n:=0) (fun k _=>this k)
 omega
theorem acZ {f h:List Int} (hh:aac h=0):aac (aag f h)=0:=by
 have:∀ k,(aag f h).getD k 0=0:=fun k=>by
  have h1:=abJ (p:=aag f h) (q:=[]) (fun x=>by rw[aat,aaz (p:=h) (q:=[]) (fun k=>by rw[aah h k (by omega)];simp) x,abt];simp) k
  rw[h1];simp
 have:=aax (p:=aag f h) (n:=0) (fun k _=>this k)
 omega
theorem IsG.mul {f g D h:List Int} (k:IsG f g D):IsG (aag f h) (aag g h) (aei (aag D h)):=by
 by_cases h0:aac h=0
 ·refine .inl ⟨acZ h0,acZ h0,?_⟩
  have:=afI (aag D h)
  rw[acZ h0] at this
  rw[<- afJ,aaf,this];rfl
 ·rcases k with ⟨h1,h2,h3⟩ | ⟨h1,h2⟩
  ·refine .inl ⟨acr h1,acr h2,?_⟩
   have:=afI (aag D h)
   rw[acr (by rw[h3];rfl)] at this
   rw[<- afJ,aaf,this];rfl
  ·refine .inr ⟨fun e=>h1 ?_,h2.mul h0⟩
   have key:∀ p:List Int,aac (aag p h)=0->aac p=0:=fun p hp=>Classical.byContradiction fun hn=>by
    have:=(abX (f:=p) (g:=h) (by omega) (by omega)).1
    omega
   exact ⟨key f e.1,key g e.2⟩
end Go.Proofs.YtdimmlckpgpgcaaGreat
