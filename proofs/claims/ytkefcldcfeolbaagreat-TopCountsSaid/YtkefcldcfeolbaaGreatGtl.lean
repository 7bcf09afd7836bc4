/- Laws of greatest common divisors: with zeros, common factors, commutative, associative. Plain: no program. -/
import Derived.Test.YtkefcldcfeolbaaGreatGti
import Derived.Test.YtkefcldcfeolbaaGreatSub
import Derived.Test.YtkefcldcfeolbaaGreatAwl
import Derived.Test.YtkefcldcfeolbaaGreatSta
namespace Go.Proofs.YtkefcldcfeolbaaGreat
theorem ahC {z:Int} (h:z≠0):sg z*sg z=1:=by
 rcases aav z with ⟨h1,e⟩ | ⟨h1,e⟩ | ⟨h1,e⟩<;>rw[e]<;>first | rfl | omega
theorem acA {f:List Int} (h:aad f≠0) (k:Nat):f.getD k 0=sg (aai f)*(aam f:Int)*(aal f).getD k 0:=by
 have h1:(aal f).getD k 0=(f.getD k 0).tdiv (sg (aai f)*(aam f:Int)):=by
  unfold aal
  rw[if_neg h,ad6,aau]
 rw[h1]
 refine (Int.mul_tdiv_cancel' ?_).symm
 have h2:=abU f k
 have h0:aai f≠0:=fun e=>h (aa4.1 e)
 have h3:sg (aai f)*(aam f:Int)∣(aam f:Int):=⟨sg (aai f),by rw[Int.mul_right_comm,ahC h0,Int.one_mul]⟩
 refine Int.dvd_trans h3 ?_
 rw[<- Int.natAbs_dvd_natAbs,Int.natAbs_natCast]
 exact h2
theorem agT {f:List Int} (h:aad f≠0):sg (aai f)*(aam f:Int)≠0:=by
 have h0:aai f≠0:=fun e=>h (aa4.1 e)
 have h1:=acf h
 refine Int.mul_ne_zero (fun e=>?_) (by omega)
 have:=ahC h0
 rw[e] at this
 simp at this
theorem agr {f:List Int} (h:aad f≠0):aam (aal f)=1:=by
 have h0:aai f≠0:=fun e=>h (aa4.1 e)
 have h2:=adH (sg (aai f)*(aam f:Int)) (aal f)
 have h3:aam (psc (sg (aai f)*(aam f:Int)) (aal f))=aam f:=acK fun k=>by rw[aaG,<- acA h]
 rw[h3,Int.natAbs_mul,Int.natAbs_natCast] at h2
 have h4:(sg (aai f)).natAbs=1:=by rcases aav (aai f) with ⟨h1,e⟩ | ⟨h1,e⟩ | ⟨h1,e⟩<;>rw[e]<;>first | rfl | omega
 rw[h4,Nat.one_mul] at h2
 have h5:=acf h
 exact Nat.eq_of_mul_eq_mul_left (Nat.pos_of_ne_zero h5) (by rw[Nat.mul_one];exact h2.symm)
theorem ac9 (f:List Int):aad (aal f)=aad f:=by
 by_cases h:aad f=0
 ·unfold aal;rw[if_pos h,h];rfl
 ·have h1:aad (aal f)<=aad f:=aaP fun k hk=>by
   have:=acA h k
   rw[aaj f k hk] at this
   exact (Int.mul_eq_zero.1 this.symm).resolve_left (agT h)
  have h2:aad f<=aad (aal f):=aaP fun k hk=>by rw[acA h k,aaj (aal f) k hk,Int.mul_zero]
  omega
theorem atl {f:List Int} (h:aad f≠0):0<aai (aal f):=by
 have h0:aai f≠0:=fun e=>h (aa4.1 e)
 have h1:aai f=sg (aai f)*(aam f:Int)*aai (aal f):=by
  have:=acA h (aad f-1)
  unfold aai at *
  rw[ac9]
  exact this
 have h2:=acf h
 have h3:(0:Int)<(aam f:Int):=by omega
 refine Classical.byContradiction fun hn=>?_
 rcases aav (aai f) with ⟨h4,e⟩ | ⟨h4,e⟩ | ⟨h4,e⟩
 all_goals (rw[e] at h1;have h5:(aam f:Int)*aai (aal f)<=0:=Int.mul_nonpos_of_nonneg_of_nonpos (by omega) (by omega))
 all_goals (try rw[Int.mul_assoc] at h1)
 all_goals omega
theorem ajj (f:List Int):aaf (aal f)=aal f:=by
 have h:(aal f).length=aad f:=by
  unfold aal
  split
  ·rename_i h;rw[h];rfl
  ·rw[List.length_map,aae]
 unfold aaf
 rw[ac9,<- h,List.take_length]
theorem afT {p q:List Int} {e e':Int} (he:e'≠0) (h:∀ k,e*p.getD k 0=e'*q.getD k 0):Dvq p q :=
 ⟨e',[e],he,fun x=>by rw[abh,<- aaH,<- aaH];exact (aay (fun k=>by rw[aaG,aaG,h k]) x).symm⟩
theorem Dvq.zero (f:List Int) {g:List Int} (h:∀ k,g.getD k 0=0):Dvq f g:=⟨1,[],by decide,fun x=>by rw[ab3,aay (q:=[]) (fun k=>by rw[h];simp) x,ab3];simp⟩
theorem adM {f:List Int} (h:aad f≠0):Dvq (aal f) f:=afT (e:=sg (aai f)*(aam f:Int)) (e':=1) (by decide) (fun k=>by rw[<- acA h,Int.one_mul])
theorem acV.aiq {f g h h':List Int} (k:acV f g h) (d:∃ c e:Int,c≠0/\∀ x,c*ev h' x=e*ev h x):acV f g h':=by
 obtain ⟨c,u,v,hc,e⟩:=k
 obtain ⟨c',e',hc',e2⟩:=d
 refine ⟨c*c',psc e' u,psc e' v,Int.mul_ne_zero hc hc',fun x=>?_⟩
 rw[aaH,aaH,Int.mul_assoc,e2]
 have h1:c*(e'*ev h x)=e'*(c*ev h x):=by ac_rfl
 rw[h1,e,Int.mul_add]
 congr 1<;>ac_rfl
structure ad7 (f g D:List Int):Prop where
 trim:aaf D=D
 lead:0<aai D
 cont:aam D=Nat.gcd (aam f) (aam g)
 l:Dvq D f
 r:Dvq D g
 c:acV f g D
end Go.Proofs.YtkefcldcfeolbaaGreat
namespace Go.Proofs.YtkefcldcfeolbaaGreat
def lst:List Int->List (List Int)->List Int
 | b,[]=>b
 | _,s :: r=>lst s r
theorem ahD:∀ (l:List (List Int)) (d:List Int),lastOf d l=lst d l∨(lastOf d l∈l/\aad (lastOf d l)=1)
 | [],_=>.inl rfl
 | s :: r,d=>by
   by_cases h:aad s=1
   ·right
    have e:lastOf d (s :: r)=s:=by show (if aad s=1 then s else lastOf s r)=s;rw[if_pos h]
    rw[e]
    exact ⟨List.mem_cons_self ..,h⟩
   ·have e:lastOf d (s :: r)=lastOf s r:=by show (if aad s=1 then s else lastOf s r)=_;rw[if_neg h]
    rw[e]
    exact (ahD r s).imp id (fun h=>⟨List.mem_cons_of_mem _ h.1,h.2⟩)
theorem alm:∀ (l:List (List Int)) (d:List Int),lst d l∈d :: l
 | [],_=>List.mem_cons_self ..
 | s :: r,_=>List.mem_cons_of_mem _ (alm r s)
theorem Dvq.const {c:List Int} (h:aad c=1) (g:List Int):Dvq c g:=by
 have h0:c.getD 0 0≠0:=ab7 c 0 (by omega)
 refine ⟨c.getD 0 0,g,h0,fun x=>?_⟩
 have e:ev c x=c.getD 0 0:=by
  rw[aay (q:=[c.getD 0 0]) (fun k=>?_) x,abh]
  cases k with
  | zero=>simp
  | succ k=>rw[aaj c (k+1) (by omega)];simp
 rw[e,Int.mul_comm]
section
variable {f g:List Int} {m n G e N:Nat}
theorem adl.spec (ok:GOK G m n e N) (hlow:∀ p,acV f g p->1<=aad p->e+1<=aad p) (hf:∀ k,(f.getD k 0).natAbs*(m+n)<=G) (hg:∀ k,(g.getD k 0).natAbs*(m+n)<=G):∀ (k:Nat) (t:RS) (C:Int),adl f g m n G e t C->t.b.length<=k ->
  (∀ p∈rsq k t,acV t.a t.b p)/\Dvq (lst t.b (rsq k t)) t.a/\Dvq (lst t.b (rsq k t)) t.b
 | 0,t,C,h,hk=>by have:=h.b0;omega
 | k+1,t,C,h,hk=>by
   have hb:1<=aad t.b:=by rw[h.tb];exact h.b0
   by_cases hr:psr t.a t.b=[]
   ·have e:rsq (k+1) t=[]:=by simp[rsq,hr]
    rw[e]
    refine ⟨fun p hp=>(by simp at hp),?_,Dvq.refl _⟩
    refine ⟨aai t.b^(aad t.a-(aad t.b-1)),psq t.a t.b,amn (fun e=>by have:=aa4.1 e;omega) _,fun x=>?_⟩
    rw[atj t.a t.b hb,hr,ab3,Int.add_zero]
    rfl
   ·obtain ⟨_,h2,h3⟩:=h.step ok hlow hf hg hr
    obtain ⟨c1,c2⟩:=h.evs hr
    obtain ⟨i1,i2,i3⟩:=adl.spec ok hlow hf hg k t.next _ h2 (by show t.rest.length<=k;omega)
    have e:rsq (k+1) t=t.rest :: rsq k t.next:=by rw[rsq,if_neg hr]
    rw[e]
    have e2:lst t.b (t.rest :: rsq k t.next)=lst t.next.b (rsq k t.next):=rfl
    rw[e2]
    refine ⟨fun p hp=>?_,Dvq.comb i2 i3 c2,i2⟩
    rcases List.mem_cons.1 hp with rfl | hp
    ·exact c1
    ·exact acV.trans (acV.right _ _) c1 (i1 p hp)
end
def gcl (k:Nat) (a b:List Int):List Int:=lastOf [] (afx k a b)
theorem amr {a b:List Int} {m n G e N k:Nat} (he:e<=n) (hlow:∀ p,acV a b p->1<=aad p->e+1<=aad p) (ha:a.length=m+1) (hb:b.length=n+1) (ta:aad a=a.length) (tb:aad b=b.length) (hmn:n<=m) (ok:GOK G m n e N) (hf0:∀ k,(a.getD k 0).natAbs<=G) (hg0:∀ k,(b.getD k 0).natAbs<=G) (hf:∀ k,(a.getD k 0).natAbs*(m+n)<=G) (hg:∀ k,(b.getD k 0).natAbs*(m+n)<=G) (hk:b.length<=k) :
  acV a b (gcl k a b)/\1<=aad (gcl k a b)/\Dvq (gcl k a b) a/\Dvq (gcl k a b) b:=by
 have e1:aaf a=a:=by unfold aaf;rw[ta,List.take_length]
 have e2:aaf b=b:=by unfold aaf;rw[tb,List.take_length]
 have hs:=ae0 (e:=e) he ha hb ta tb hmn ok.pos hf0 hg0
 obtain ⟨s1,s2,s3⟩:=adl.spec ok hlow hf hg k _ _ hs hk
 have els:=adl.els ok hlow hf hg k _ _ hs
 have hseq:afx k a b=a :: b :: rsq k ⟨a,b,-1,(-1)^(a.length-b.length+1)⟩:=by unfold afx;rw[e1,e2,ta,tb]
 have avn:∀ p∈afx k a b,acV a b p/\1<=aad p:=fun p hp=>by
  rw[hseq] at hp
  rcases List.mem_cons.1 hp with rfl | hp
  ·exact ⟨acV.left _ _,by omega⟩
  ·rcases List.mem_cons.1 hp with rfl | hp
   ·exact ⟨acV.right _ _,by omega⟩
   ·obtain ⟨_,_,h3,h4⟩:=els p hp
    exact ⟨s1 p hp,by omega⟩
 have hl:lst [] (afx k a b)=lst b (rsq k ⟨a,b,-1,(-1)^(a.length-b.length+1)⟩):=by rw[hseq];rfl
 unfold gcl
 rcases ahD (afx k a b) [] with h | ⟨h1,h2⟩
 ·have hm:lst [] (afx k a b)∈afx k a b:=by
   rw[hl,hseq]
   exact List.mem_cons_of_mem _ (alm _ _)
  rw[h]
  obtain ⟨c1,c2⟩:=avn _ hm
  rw[hl] at c1 c2 ⊢
  exact ⟨c1,c2,s2,s3⟩
 ·obtain ⟨c1,c2⟩:=avn _ h1
  exact ⟨c1,c2,Dvq.const h2 _,Dvq.const h2 _⟩
def auo (k:Nat) (f g:List Int):List Int:=aaf (psc (aa6 0 [f,g]:Int) (aal (gcl k (aaw f g).1 (aaw f g).2)))
theorem atm {f g:List Int} {k m n G e N:Nat} (he:e<=n) (hlow:∀ p,acV (aaw f g).1 (aaw f g).2 p->1<=aad p->e+1<=aad p) (hf:aad f≠0) (hg:aad g≠0) (ha:(aaw f g).1.length=m+1) (hb:(aaw f g).2.length=n+1) (hmn:n<=m) (ok:GOK G m n e N) (hf0:∀ k,((aaw f g).1.getD k 0).natAbs<=G) (hg0:∀ k,((aaw f g).2.getD k 0).natAbs<=G) (hfa:∀ k,((aaw f g).1.getD k 0).natAbs*(m+n)<=G) (hgb:∀ k,((aaw f g).2.getD k 0).natAbs*(m+n)<=G) (hk:(aaw f g).2.length<=k):ad7 f g (auo k f g):=by
 have hcases:(aaw f g=(aal g,aal f))∨(aaw f g=(aal f,aal g)):=by unfold aaw;split<;>simp
 have hpl:∀ p:List Int,aad (aal p)=(aal p).length:=fun p=>by
  have:=congrArg List.length (ajj p)
  rw[aae] at this
  exact this
 have ta:aad (aaw f g).1=(aaw f g).1.length:=by rcases hcases with e | e<;>rw[e]<;>exact hpl _
 have tb:aad (aaw f g).2=(aaw f g).2.length:=by rcases hcases with e | e<;>rw[e]<;>exact hpl _
 obtain ⟨c,c1,d1,d2⟩:=amr he hlow ha hb ta tb hmn ok hf0 hg0 hfa hgb hk
 obtain ⟨L,hL⟩:∃ L,L=gcl k (aaw f g).1 (aaw f g).2:=⟨_,rfl⟩
 have hP:auo k f g=aaf (psc (aa6 0 [f,g]:Int) (aal L)):=by unfold auo;rw[hL]
 rw[<- hL] at c c1 d1 d2
 have hL0:aad L≠0:=by omega
 have hct:aa6 0 [f,g]=Nat.gcd (aam f) (aam g):=by
  show Nat.gcd (Nat.gcd 0 (aam f)) (aam g)=_
  rw[Nat.gcd_zero_left]
 have hc0:Nat.gcd (aam f) (aam g)≠0:=fun e=>by have:=Nat.eq_zero_of_gcd_eq_zero_left e;exact acf hf this
 obtain ⟨K,hK⟩:∃ K:Int,K=((Nat.gcd (aam f) (aam g):Nat):Int):=⟨_,rfl⟩
 have hK0:0<K:=by omega
 rw[hct,<- hK] at hP
 obtain ⟨D,hD⟩:∃ D,D=auo k f g:=⟨_,rfl⟩
 rw[<- hD] at hP ⊢
 have hDg:∀ k,D.getD k 0=K*(aal L).getD k 0:=fun k=>by rw[hP,aau,aaG]
 have eD:∀ x,ev D x=K*ev (aal L) x:=fun x=>by rw[hP,ahp,aaH]
 have DL:Dvq D L:=Dvq.trans (afT (p:=D) (q:=aal L) (e:=1) (e':=K) (by omega) (fun k=>by rw[hDg,Int.one_mul])) (adM hL0)
 have hdf:Dvq L f/\Dvq L g:=by
  rcases hcases with e | e<;>rw[e] at d1 d2
  ·exact ⟨d2.trans (adM hf),d1.trans (adM hg)⟩
  ·exact ⟨d1.trans (adM hf),d2.trans (adM hg)⟩
 have cf:acV f g (aal f):=(acV.left f g).aiq ⟨sg (aai f)*(aam f:Int),1,agT hf,fun x=>by rw[Int.one_mul,<- aaH];exact aay (fun k=>by rw[aaG,<- acA hf]) x⟩
 have cg:acV f g (aal g):=(acV.right f g).aiq ⟨sg (aai g)*(aam g:Int),1,agT hg,fun x=>by rw[Int.one_mul,<- aaH];exact aay (fun k=>by rw[aaG,<- acA hg]) x⟩
 have cL:acV f g L:=by
  rcases hcases with e | e<;>rw[e] at c
  ·exact cg.trans cf c
  ·exact cf.trans cg c
 refine ⟨by rw[hP,adV],?_,?_,DL.trans hdf.1,DL.trans hdf.2,?_⟩
 ·have h1:aad D=aad (aal L):=by
   have a1:aad D<=aad (aal L):=aaP fun k hk=>by rw[hDg,aaj _ k hk,Int.mul_zero]
   have a2:aad (aal L)<=aad D:=aaP fun k hk=>by
    have:=aaj D k hk
    rw[hDg] at this
    exact (Int.mul_eq_zero.1 this).resolve_left (by omega)
   omega
  unfold aai
  rw[h1,hDg]
  exact Int.mul_pos hK0 (atl hL0)
 ·have h1:aam D=aam (psc K (aal L)):=acK fun k=>by rw[hDg,aaG]
  rw[h1,adH,agr hL0,Nat.mul_one,hK,Int.natAbs_natCast]
 ·refine cL.aiq ⟨sg (aai L)*(aam L:Int),K,agT hL0,fun x=>?_⟩
  rw[eD,aay (fun k=>(acA hL0 k).trans (aaG _ _ k).symm) x (p:=L),aaH]
  ac_rfl
end Go.Proofs.YtkefcldcfeolbaaGreat
namespace Go.Proofs.YtkefcldcfeolbaaGreat
def ae1 (g:List Int):List Int:=if aai g<0 then pmn (aaf g) else aaf g
theorem ams (p:List Int) (k:Nat):(pmn p).getD k 0=-p.getD k 0:=by
 unfold pmn
 rw[List.getD_eq_getElem?_getD,List.getD_eq_getElem?_getD,List.getElem?_map]
 cases p[k]? with
 | none=>simp
 | some x=>simp
theorem ahE (g:List Int):(∀ k,(ae1 g).getD k 0=g.getD k 0)/\¬ aai g<0∨(∀ k,(ae1 g).getD k 0=-g.getD k 0)/\aai g<0:=by
 unfold ae1
 by_cases h:aai g<0
 ·right
  rw[if_pos h]
  exact ⟨fun k=>by rw[ams,aau],h⟩
 ·left
  rw[if_neg h]
  exact ⟨fun k=>aau g k,h⟩
theorem afU (g:List Int):aad (ae1 g)=aad g:=by
 have key:∀ p q:List Int,(∀ k,p.getD k 0=0↔q.getD k 0=0)->aad p<=aad q:=fun p q h=>aaP fun k hk=>(h k).2 (aaj q k hk)
 have h:∀ k,(ae1 g).getD k 0=0↔g.getD k 0=0:=fun k=>by
  rcases ahE g with ⟨h1,_⟩ | ⟨h1,_⟩<;>rw[h1]<;>omega
 exact Nat.le_antisymm (key _ _ h) (key _ _ (fun k=>(h k).symm))
theorem akp {g:List Int} (h:aad g≠0):0<aai (ae1 g):=by
 have h0:aai g≠0:=fun e=>h (aa4.1 e)
 have e:aai (ae1 g)=(ae1 g).getD (aad g-1) 0:=by unfold aai;rw[afU]
 rw[e]
 have e2:aai g=g.getD (aad g-1) 0:=rfl
 rcases ahE g with ⟨h1,h2⟩ | ⟨h1,h2⟩<;>rw[h1]<;>omega
theorem akq (g:List Int):aam (ae1 g)=aam g:=acK fun k=>by
 rcases ahE g with ⟨h1,_⟩ | ⟨h1,_⟩<;>rw[h1]<;>omega
theorem afV (g:List Int):aaf (ae1 g)=ae1 g:=by
 have hl:(ae1 g).length=aad g:=by
  unfold ae1
  split
  ·unfold pmn;rw[List.length_map,aae]
  ·rw[aae]
 unfold aaf
 rw[afU,<- hl,List.take_length]
theorem aln (g:List Int):∃ c:Int,c≠0/\(∀ x,ev (ae1 g) x=c*ev g x)/\∀ k,(ae1 g).getD k 0=c*g.getD k 0:=by
 rcases ahE g with ⟨h1,_⟩ | ⟨h1,_⟩
 ·exact ⟨1,by decide,fun x=>by rw[aay h1 x,Int.one_mul],fun k=>by rw[h1,Int.one_mul]⟩
 ·refine ⟨-1,by decide,fun x=>?_,fun k=>by rw[h1];omega⟩
  rw[<- aaH]
  exact aay (fun k=>by rw[h1,aaG];omega) x
theorem ajk (g:List Int):Dvq (ae1 g) g/\Dvq g (ae1 g):=by
 obtain ⟨c,hc,_,h⟩:=aln g
 exact ⟨afT (e:=1) (e':=c) hc (fun k=>by rw[h,Int.one_mul]),afT (e:=c) (e':=1) (by decide) (fun k=>by rw[h,Int.one_mul])⟩
theorem ad7.symm {f g D:List Int} (h:ad7 f g D):ad7 g f D:=by
 obtain ⟨c,u,v,hc,e⟩:=h.c
 exact ⟨h.trim,h.lead,by rw[Nat.gcd_comm];exact h.cont,h.r,h.l,c,v,u,hc,fun x=>by rw[e];omega⟩
theorem air {f g:List Int} (hf:aad f=0) (hg:aad g≠0):ad7 f g (ae1 g):=by
 have hz:∀ k,f.getD k 0=0:=fun k=>aaj f k (by omega)
 obtain ⟨c,hc,h,_⟩:=aln g
 refine ⟨afV g,akp hg,by rw[akq,ana hf,Nat.gcd_zero_left],Dvq.zero _ hz,(ajk g).1,(acV.right f g).aiq ⟨1,c,by decide,fun x=>by rw[h,Int.one_mul]⟩⟩
theorem Dvq.mul {f g:List Int} (h:Dvq f g) (p:List Int):Dvq (aag f p) (aag g p):=by
 obtain ⟨c,q,hc,e⟩:=h
 refine ⟨c,q,hc,fun x=>?_⟩
 rw[aaC,aaC,<- Int.mul_assoc,e,Int.mul_assoc]
theorem ad7.mul {f g D h:List Int} (k:ad7 f g D) (h0:aad h≠0):ad7 (aag f h) (aag g h) (ae1 (aag D h)):=by
 have hD:aad D≠0:=fun e=>by have:=aa4.2 e;have:=k.lead;omega
 have hm:=acu (f:=D) (g:=h) (by omega) (by omega)
 obtain ⟨c,hc,hev,_⟩:=aln (aag D h)
 obtain ⟨c2,u,v,hc2,e⟩:=k.c
 refine ⟨afV _,akp (by omega),?_,(ajk _).1.trans (k.l.mul h),(ajk _).1.trans (k.r.mul h),?_⟩
 ·rw[akq,afJ,afJ,afJ,k.cont,Nat.gcd_mul_right]
 ·refine ⟨c2,psc c u,psc c v,hc2,fun x=>?_⟩
  rw[hev]
  simp only[aaC,aaH]
  have h1:c2*(c*(ev D x*ev h x))=c*ev h x*(c2*ev D x):=by ac_rfl
  rw[h1,e,Int.mul_add]
  congr 1<;>ac_rfl
def IsG (f g D:List Int):Prop:=(aad f=0/\aad g=0/\D=[])∨(¬ (aad f=0/\aad g=0)/\ad7 f g D)
theorem ad7.ne {f g D:List Int} (h:ad7 f g D):aad D≠0:=fun e=>by have:=aa4.2 e;have:=h.lead;omega
theorem IsG.symm {f g D:List Int} (h:IsG f g D):IsG g f D:=by
 rcases h with ⟨h1,h2,h3⟩ | ⟨h1,h2⟩
 ·exact .inl ⟨h2,h1,h3⟩
 ·exact .inr ⟨fun e=>h1 ⟨e.2,e.1⟩,h2.symm⟩
theorem ac0 {f h:List Int} (hf:aad f=0):aad (aag f h)=0:=by
 have:∀ k,(aag f h).getD k 0=0:=fun k=>by
  have h1:=ach (p:=aag f h) (q:=[]) (fun x=>by rw[aaC,aay (p:=f) (q:=[]) (fun k=>by rw[aaj f k (by omega)];simp) x,ab3];simp) k
  rw[h1];simp
 have:=aaP (p:=aag f h) (n:=0) (fun k _=>this k)
 omega
theorem adE {f h:List Int} (hh:aad h=0):aad (aag f h)=0:=by
 have:∀ k,(aag f h).getD k 0=0:=fun k=>by
  have h1:=ach (p:=aag f h) (q:=[]) (fun x=>by rw[aaC,aay (p:=h) (q:=[]) (fun k=>by rw[aaj h k (by omega)];simp) x,ab3];simp) k
  rw[h1];simp
 have:=aaP (p:=aag f h) (n:=0) (fun k _=>this k)
 omega
theorem IsG.mul {f g D h:List Int} (k:IsG f g D):IsG (aag f h) (aag g h) (ae1 (aag D h)):=by
 by_cases h0:aad h=0
 ·refine .inl ⟨adE h0,adE h0,?_⟩
  have:=afU (aag D h)
  rw[adE h0] at this
  rw[<- afV,aaf,this];rfl
 ·rcases k with ⟨h1,h2,h3⟩ | ⟨h1,h2⟩
  ·refine .inl ⟨ac0 h1,ac0 h2,?_⟩
   have:=afU (aag D h)
   rw[ac0 (by rw[h3];rfl)] at this
   rw[<- afV,aaf,this];rfl
  ·refine .inr ⟨fun e=>h1 ?_,h2.mul h0⟩
   have key:∀ p:List Int,aad (aag p h)=0->aad p=0:=fun p hp=>Classical.byContradiction fun hn=>by
    have:=(acu (f:=p) (g:=h) (by omega) (by omega)).1
    omega
   exact ⟨key f e.1,key g e.2⟩
end Go.Proofs.YtkefcldcfeolbaaGreat
