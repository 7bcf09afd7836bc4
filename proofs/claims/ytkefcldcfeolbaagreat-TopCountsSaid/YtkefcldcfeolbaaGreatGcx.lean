/- unidiv.positive; unidiv.Gcd of any two polynomials of small degree. -/
import Derived.Test.YtkefcldcfeolbaaGreatGtl
import Derived.Test.YtkefcldcfeolbaaGreatAwl
import Derived.Test.YtkefcldcfeolbaaGreatSta
namespace Go.Proofs.YtkefcldcfeolbaaGreat
theorem ae2 {f g:List Int} (h:Dvq f g) (hg:aad g≠0):aad f<=aad g:=by
 by_cases hf:aad f=0
 ·omega
 obtain ⟨c,q,hc,e⟩:=h
 have h1:∀ k,(psc c g).getD k 0=(aag q f).getD k 0:=ach fun x=>by rw[aaH,aaC,e]
 have h2:aad (psc c g)=aad (aag q f):=by have:=congrArg List.length (ajZ h1);rw[aae,aae] at this;exact this
 have h3:aad (psc c g)<=aad g:=aaP fun k hk=>by rw[aaG,aaj g k hk,Int.mul_zero]
 have h4:aad g<=aad (psc c g):=aaP fun k hk=>by
  have:=aaj (psc c g) k hk
  rw[aaG] at this
  exact (Int.mul_eq_zero.1 this).resolve_left hc
 have hq:1<=aad q:=Classical.byContradiction fun hn=>by
  have:aad (aag q f)=0:=ac0 (by omega)
  omega
 have:=(acu (f:=q) (g:=f) hq (by omega)).1
 omega
theorem acM (f:List Int) (j:Nat):((aal f).getD j 0).natAbs<=(f.getD j 0).natAbs:=by
 by_cases h:aad f=0
 ·have:aad (aal f)=0:=by rw[ac9,h]
  rw[aaj (aal f) j (by omega)];simp
 ·rw[acA h j,Int.natAbs_mul]
  exact Nat.le_mul_of_pos_left _ (Int.natAbs_pos.2 (agT h))
theorem ae3 (f g:List Int):aa6 0 [f,g]=Nat.gcd (aam f) (aam g):=by
 show Nat.gcd (Nat.gcd 0 (aam f)) (aam g)=_
 rw[Nat.gcd_zero_left]
theorem ag7 {f:List Int} (h:aad f≠0) {X:Nat} (hX:∀ j,(f.getD j 0).natAbs<=X):aam f<=X:=by
 have h1:=abU f (aad f-1)
 have h2:(f.getD (aad f-1) 0)≠0:=abf h
 exact Nat.le_trans (Nat.le_of_dvd (Int.natAbs_pos.2 h2) h1) (hX _)
structure GC (f g:List Int) (e S:Nat):Prop where
 f0:aad f≠0
 g0:aad g≠0
 sum:aad f+aad g<=34
 fe:e+1<=aad f
 ge:e+1<=aad g
 low:∀ p,acV f g p->1<=aad p->e+1<=aad p
 sf:∀ j,((aal f).getD j 0).natAbs<=S
 sg:∀ j,((aal g).getD j 0).natAbs<=S
 s1:1<=S
 ok:∀ m n,n<=m->e<=n->m+1<=max (aad f) (aad g)->m+n=aad f+aad g-2->∃ N,GOK (S*32) m n e N
 k:aa6 0 [f,g]<=S*32
section
variable {f g:List Int} {e S:Nat}
def ag8 (f g:List Int):List Int:=auo 20 f g
theorem GC.pair (h:GC f g e S):∃ m n,(aaw f g).1.length=m+1/\(aaw f g).2.length=n+1/\n<=m/\e<=n/\m+1<=max (aad f) (aad g)/\m+n=aad f+aad g-2/\(∀ j,((aaw f g).1.getD j 0).natAbs<=S)/\(∀ j,((aaw f g).2.getD j 0).natAbs<=S)/\(∀ p,acV (aaw f g).1 (aaw f g).2 p->acV f g p):=by
 have hpl:∀ p:List Int,(aal p).length=aad p:=fun p=>by
  have:=congrArg List.length (ajj p)
  rw[aae,ac9] at this
  exact this.symm
 have cf:acV f g (aal f):=(acV.left f g).aiq ⟨Go.Proofs.YtkefcldcfeolbaaGreat.sg (aai f)*(aam f:Int),1,agT h.f0,fun x=>by rw[Int.one_mul,<- aaH];exact aay (fun k=>by rw[aaG,<- acA h.f0]) x⟩
 have cg:acV f g (aal g):=(acV.right f g).aiq ⟨Go.Proofs.YtkefcldcfeolbaaGreat.sg (aai g)*(aam g:Int),1,agT h.g0,fun x=>by rw[Int.one_mul,<- aaH];exact aay (fun k=>by rw[aaG,<- acA h.g0]) x⟩
 have h1:=h.fe
 have h2:=h.ge
 have h5:=hpl f
 have h6:=hpl g
 unfold aaw
 split
 ·exact ⟨aad g-1,aad f-1,by dsimp only;omega,by dsimp only;omega,by omega,by omega,by omega,by omega,h.sg,h.sf,fun p c=>cg.trans cf c⟩
 ·exact ⟨aad f-1,aad g-1,by dsimp only;omega,by dsimp only;omega,by omega,by omega,by omega,by omega,h.sf,h.sg,fun p c=>cf.trans cg c⟩
theorem GC.all (h:GC f g e S):ad7 f g (ag8 f g)/\rOK 20 ⟨aaf (aaw f g).1,aaf (aaw f g).2,-1,(-1)^(aad (aaw f g).1-aad (aaw f g).2+1)⟩ /\
  (∀ p∈afx 20 (aaw f g).1 (aaw f g).2,SmP p/\p.length<=1000000/\SmP (aal p)/\SmP (psc (aa6 0 [f,g]:Int) (aal p))) /\
  (∀ j,((aal (ag8 f g)).getD j 0).natAbs<=(S*32)^(max 1 (aad f+aad g-2*aad (ag8 f g))))/\abw (aal f)/\abw (aal g)/\Fit (aa6 0 [f,g]:Int):=by
 obtain ⟨m,n,ha,hb,hmn,hen,hme,hsum,sa,sb,hc⟩:=h.pair
 have hG1:1<=S*32:=by have:=h.s1;omega
 have hsm:=h.sum
 obtain ⟨N,ok⟩:=h.ok m n hmn hen hme hsum
 have hN:=ok.e0
 have hlow:∀ p,acV (aaw f g).1 (aaw f g).2 p->1<=aad p->e+1<=aad p:=fun p c h1=>h.low p (hc p c) h1
 have ah2:∀ {z:Nat},z<=S->z*(m+n)<=S*32:=fun hz=>Nat.mul_le_mul hz (by omega)
 have hcases:(aaw f g=(aal g,aal f))∨(aaw f g=(aal f,aal g)):=by unfold aaw;split<;>simp
 have hpl:∀ p:List Int,aad (aal p)=(aal p).length:=fun p=>by
  have:=congrArg List.length (ajj p)
  rw[aae] at this
  exact this
 have ta:aad (aaw f g).1=(aaw f g).1.length:=by rcases hcases with e | e<;>rw[e]<;>exact hpl _
 have tb:aad (aaw f g).2=(aaw f g).2.length:=by rcases hcases with e | e<;>rw[e]<;>exact hpl _
 have e1:aaf (aaw f g).1=(aaw f g).1:=by unfold aaf;rw[ta,List.take_length]
 have e2:aaf (aaw f g).2=(aaw f g).2:=by unfold aaf;rw[tb,List.take_length]
 have a0:∀ j,((aaw f g).1.getD j 0).natAbs<=S*32:=fun j=>Nat.le_trans (sa j) (by omega)
 have b0:∀ j,((aaw f g).2.getD j 0).natAbs<=S*32:=fun j=>Nat.le_trans (sb j) (by omega)
 have hs:=ae0 (e:=e) hen ha hb ta tb hmn ok.pos a0 b0
 have gis:ad7 f g (ag8 f g):=atm hen hlow h.f0 h.g0 ha hb hmn ok a0 b0 (fun j=>ah2 (sa j)) (fun j=>ah2 (sb j)) (by omega)
 have azt:rOK 20 ⟨(aaw f g).1,(aaw f g).2,-1,(-1)^((aaw f g).1.length-(aaw f g).2.length+1)⟩:=adl.rok ok hlow (fun j=>ah2 (sa j)) (fun j=>ah2 (sb j)) 20 _ _ hs (by dsimp only;omega)
 have els:=adl.els ok hlow (fun j=>ah2 (sa j)) (fun j=>ah2 (sb j)) 20 _ _ hs
 have eld:=adl.ao8 ok hlow (fun j=>ah2 (sa j)) (fun j=>ah2 (sb j)) 20 _ _ hs
 have hseq:afx 20 (aaw f g).1 (aaw f g).2=(aaw f g).1 :: (aaw f g).2 :: rsq 20 ⟨(aaw f g).1,(aaw f g).2,-1,(-1)^((aaw f g).1.length-(aaw f g).2.length+1)⟩:=by unfold afx;rw[e1,e2,ta,tb]
 have hel:∀ p∈afx 20 (aaw f g).1 (aaw f g).2,(∀ j,(p.getD j 0).natAbs<=(S*32)^(m+n+2))/\p.length<=1000000/\aad p=p.length/\1<=p.length/\∀ j,(p.getD j 0).natAbs<=(S*32)^(max 1 (m+n+2-2*p.length)):=fun p hp=>by
  have up:∀ {z i:Nat},1<=i->z<=S*32->z<=(S*32)^i:=fun hi hz=>Nat.le_trans hz (by calc S*32=(S*32)^1:=(Nat.pow_one _).symm
                                                   _<=_:=Nat.pow_le_pow_right hG1 hi)
  rw[hseq] at hp
  rcases List.mem_cons.1 hp with rfl | hp
  ·exact ⟨fun j=>up (by omega) (a0 j),by omega,ta,by omega,fun j=>up (Nat.le_max_left _ _) (a0 j)⟩
  ·rcases List.mem_cons.1 hp with rfl | hp
   ·exact ⟨fun j=>up (by omega) (b0 j),by omega,tb,by omega,fun j=>up (Nat.le_max_left _ _) (b0 j)⟩
   ·obtain ⟨h1,h2,h3,h4⟩:=els p hp
    exact ⟨h1,by omega,h3,h4,eld p hp⟩
 have smb:∀ {p:List Int},(∀ j,(p.getD j 0).natAbs<=(S*32)^(m+n+3))->SmP p:=fun {p} hp c hc=>by
  obtain ⟨j,hj⟩:=List.getElem?_of_mem hc
  have:=hp j
  rw[List.getD_eq_getElem?_getD,hj] at this
  exact ok.sm' this (by omega)
 have aw0:∀ {x:Int},x.natAbs<=S*32->Fit x:=fun {x} hx=>ok.lt (i:=1) (by rw[Nat.pow_one];exact hx) (by omega)
 refine ⟨gis,by rw[e1,e2,ta,tb];exact azt,fun p hp=>?_,fun j=>?_,fun j=>aw0 (Nat.le_trans (h.sf j) (by omega)),fun j=>aw0 (Nat.le_trans (h.sg j) (by omega)),aw0 (by rw[Int.natAbs_natCast];exact h.k)⟩
 ·obtain ⟨h1,h2,h3,h4,h5⟩:=hel p hp
  have up3:(S*32)^(m+n+2)<=(S*32)^(m+n+3):=Nat.pow_le_pow_right hG1 (by omega)
  refine ⟨smb fun j=>Nat.le_trans (h1 j) up3,h2,smb fun j=>Nat.le_trans (Nat.le_trans (acM p j) (h1 j)) up3,smb fun j=>?_⟩
  rw[aaG,Int.natAbs_mul,Int.natAbs_natCast,Nat.pow_succ,Nat.mul_comm]
  exact Nat.mul_le_mul (Nat.le_trans (acM p j) (h1 j)) h.k
 ·obtain ⟨c,c1,_,_⟩:=amr hen hlow ha hb ta tb hmn ok a0 b0 (fun j=>ah2 (sa j)) (fun j=>ah2 (sb j)) (k:=20) (by omega)
  obtain ⟨L,hL⟩:∃ L,L=gcl 20 (aaw f g).1 (aaw f g).2:=⟨_,rfl⟩
  rw[<- hL] at c c1
  have hmem:L∈afx 20 (aaw f g).1 (aaw f g).2:=by
   rw[hL]
   unfold gcl
   rcases ahD (afx 20 (aaw f g).1 (aaw f g).2) [] with h1 | ⟨h1,_⟩
   ·rw[h1,hseq]
    exact List.mem_cons_of_mem _ (alm _ _)
   ·exact h1
  obtain ⟨_,_,l3,_,l5⟩:=hel L hmem
  have hL0:aad L≠0:=by omega
  have hP:ag8 f g=aaf (psc (aa6 0 [f,g]:Int) (aal L)):=by unfold ag8 auo;rw[hL]
  have hK0:0<(aa6 0 [f,g]:Int):=by
   rw[ae3]
   have:Nat.gcd (aam f) (aam g)≠0:=fun e=>acf h.f0 (Nat.eq_zero_of_gcd_eq_zero_left e)
   omega
  have hDg:∀ k,(ag8 f g).getD k 0=(aa6 0 [f,g]:Int)*(aal L).getD k 0:=fun k=>by rw[hP,aau,aaG]
  have hpD:aad (ag8 f g)=aad L:=by
   have a1:aad (ag8 f g)<=aad (aal L):=aaP fun k hk=>by rw[hDg,aaj _ k hk,Int.mul_zero]
   have a2:aad (aal L)<=aad (ag8 f g):=aaP fun k hk=>by
    have:=aaj (ag8 f g) k hk
    rw[hDg] at this
    exact (Int.mul_eq_zero.1 this).resolve_left (by omega)
   rw[ac9] at a1 a2
   omega
  have hD0:aad (ag8 f g)≠0:=by omega
  have azu:Go.Proofs.YtkefcldcfeolbaaGreat.sg (aai (ag8 f g))=1:=afB gis.lead
  have hcD:(aam (ag8 f g):Int)=(aa6 0 [f,g]:Int):=by rw[gis.cont,ae3]
  have heq:(aal (ag8 f g)).getD j 0=(aal L).getD j 0:=by
   have h1:=acA hD0 j
   rw[azu,Int.one_mul,hcD,hDg j] at h1
   exact (Int.eq_of_mul_eq_mul_left (by omega) h1).symm
  rw[heq,hpD,l3]
  refine Nat.le_trans (Nat.le_trans (acM L j) (l5 j)) (Nat.pow_le_pow_right hG1 ?_)
  omega
end
end Go.Proofs.YtkefcldcfeolbaaGreat
namespace Go.Proofs.YtkefcldcfeolbaaGreat
def aqV (f g:List Int):Prop:=aad f=0∨aad g=0∨∃ e S,GC f g e S
def gres (f g:List Int):List Int:=if aad f=0 then ae1 g else if aad g=0 then ae1 f else ag8 f g
theorem aqW {g:List Int} (h:aad g=0):ae1 g=[]:=by
 unfold ae1
 rw[if_neg (by rw[aa4.2 h];omega)]
 exact List.eq_nil_of_length_eq_zero (by rw[aae,h])
theorem alo {f g:List Int} (h:aqV f g):IsG f g (gres f g):=by
 unfold gres
 split
 ·rename_i hf
  by_cases hg:aad g=0
  ·exact .inl ⟨hf,hg,aqW hg⟩
  ·exact .inr ⟨fun e=>hg e.2,air hf hg⟩
 ·rename_i hf
  split
  ·rename_i hg
   exact .inr ⟨fun e=>hf e.1,(air hg hf).symm⟩
  ·rename_i hg
   obtain ⟨e,S,hc⟩:=(h.resolve_left hf).resolve_left hg
   exact .inr ⟨fun e=>hf e.1,hc.all.1⟩
theorem ad7.congr {f f' g g' D:List Int} (hf:∀ k,f.getD k 0=f'.getD k 0) (hg:∀ k,g.getD k 0=g'.getD k 0) (h:ad7 f g D):ad7 f' g' D:=by
 have ef:∀ x,ev f x=ev f' x:=aay hf
 have eg:∀ x,ev g x=ev g' x:=aay hg
 refine ⟨h.trim,h.lead,by rw[h.cont,acK (p:=f) (q:=f') (fun k=>by rw[hf k]),acK (p:=g) (q:=g') (fun k=>by rw[hg k])],?_,?_,?_⟩
 ·obtain ⟨c,q,h1,h2⟩:=h.l
  exact ⟨c,q,h1,fun x=>by rw[<- ef];exact h2 x⟩
 ·obtain ⟨c,q,h1,h2⟩:=h.r
  exact ⟨c,q,h1,fun x=>by rw[<- eg];exact h2 x⟩
 ·obtain ⟨c,u,v,h1,h2⟩:=h.c
  exact ⟨c,u,v,h1,fun x=>by rw[<- ef,<- eg];exact h2 x⟩
def atn (f:List Int):Prop:=aad f<=5/\∀ j,(f.getD j 0).natAbs<=4294967296
structure DS (d:List Int):Prop where
 t:aaf d=d
 l:aad d<=5
 p:∀ j,((aal d).getD j 0).natAbs<=(4294967296*32)^(max 1 (10-2*aad d))
 c:aam d<=4294967296
theorem DS.b {d:List Int} (h:DS d) (j:Nat):(d.getD j 0).natAbs<=4294967296*(4294967296*32)^8:=by
 by_cases h0:aad d=0
 ·rw[aaj d j (by omega)];simp
 ·rw[acA h0,Int.natAbs_mul,Int.natAbs_mul,Int.natAbs_natCast]
  refine Nat.mul_le_mul ?_ (Nat.le_trans (h.p j) (Nat.pow_le_pow_right (by decide) (by omega)))
  have h1:(sg (aai d)).natAbs<=1:=by rcases aav (aai d) with ⟨_,e⟩ | ⟨_,e⟩ | ⟨_,e⟩<;>rw[e]<;>decide
  exact Nat.le_trans (Nat.mul_le_mul h1 h.c) (by omega)
theorem DS.fit {d:List Int} (h:DS d):abw d:=fun j=>Nat.lt_of_le_of_lt (h.b j) (by rw[aan];first | decide +kernel | (rw[abZ];decide +kernel))
theorem atn.fit {f:List Int} (h:atn f):abw f:=fun j=>Nat.lt_of_le_of_lt (h.2 j) (by rw[aan];first | decide +kernel | (rw[abZ];decide +kernel))
theorem atn.cont {f:List Int} (h:atn f) (h0:aad f≠0):aam f<=4294967296:=ag7 h0 h.2
theorem amu {a b X:Nat} (hb:b≠0) (h:b<=X):Nat.gcd a b<=X:=Nat.le_trans (Nat.gcd_le_right a (by omega)) h
theorem GC.symm {f g:List Int} {e S:Nat} (h:GC f g e S):GC g f e S:=by
 refine ⟨h.g0,h.f0,by have:=h.sum;omega,h.ge,h.fe,fun p ⟨c,u,v,h1,h2⟩ hp=>h.low p ⟨c,v,u,h1,fun x=>by rw[h2,Int.add_comm]⟩ hp,h.sg,h.sf,h.s1,?_,?_⟩
 ·intro m n h1 h2 h3 h4
  exact h.ok m n h1 h2 (by rw[Nat.max_comm];exact h3) (by omega)
 ·have:=h.k
  rw[ae3] at this ⊢
  rw[Nat.gcd_comm];exact this
theorem aqV.symm {f g:List Int} (h:aqV f g):aqV g f:=by
 rcases h with h | h | ⟨e,S,h⟩
 ·exact .inr (.inl h)
 ·exact .inl h
 ·exact .inr (.inr ⟨e,S,h.symm⟩)
theorem atn.trim {f:List Int} (h:atn f):atn (aaf f):=⟨by rw[abK];exact h.1,fun j=>by rw[aau];exact h.2 j⟩
theorem aeG {l f r:List Int} {c:Int} (hl:aam l=1) (hc:c≠0) (h:∀ x,c*ev f x=ev l x*ev r x):∃ s:List Int,∀ x,ev f x=ev l x*ev s x:=by
 have h1:∀ k,(psc c f).getD k 0=(aag l r).getD k 0:=ach fun x=>by rw[aaH,aaC,h]
 have h2:c.natAbs*aam f=aam r:=by rw[<- adH,acK (p:=psc c f) (q:=aag l r) (fun k=>by rw[h1 k]),afJ,hl,Nat.one_mul]
 have h3:∀ k,c∣r.getD k 0:=fun k=>by
  rw[<- Int.natAbs_dvd_natAbs]
  exact Nat.dvd_trans ⟨aam f,h2.symm⟩ (abU r k)
 refine ⟨r.map (·.tdiv c),fun x=>?_⟩
 have h4:∀ k,r.getD k 0=c*(r.map (·.tdiv c)).getD k 0:=fun k=>by
  rw[ad6,Int.mul_tdiv_cancel' (h3 k)]
 have h5:ev r x=c*ev (r.map (·.tdiv c)) x:=by rw[<- aaH];exact aay (fun k=>by rw[aaG];exact h4 k) x
 refine Int.eq_of_mul_eq_mul_left hc ?_
 rw[h x,h5]
 grind
theorem ato {p a b:List Int} (h:∀ x,ev p x=ev a x*ev b x) (k:Nat):p.getD k 0=pc b a k:=by
 rw[<- aa5]
 exact ach (fun x=>by rw[aaC,h,Int.mul_comm]) k
end Go.Proofs.YtkefcldcfeolbaaGreat
namespace Go.Proofs.YtkefcldcfeolbaaGreat
theorem ahF (a:Int) (t:List Int) (x:Int):ev (a :: t) x=a+x*ev t x:=by
 unfold ev
 have h:∀ (F:Nat->Int) n,evn F x (n+1)=F 0+x*evn (fun i=>F (i+1)) x n:=by
  intro F n
  induction n with
  | zero=>simp[evn]
  | succ n ih=>rw[evn,ih,evn,Int.pow_succ];grind
 rw[List.length_cons,h]
 rfl
def sd (c:Int):List Int->List Int×Int
 | []=>([],0)
 | a :: t=>((sd c t).2 :: (sd c t).1,a+c*(sd c t).2)
theorem akr (c:Int):∀ p,(sd c p).2=ev p c
 | []=>by rw[ab3];rfl
 | a :: t=>by rw[ahF,<- akr c t];rfl
theorem atp (c x:Int):∀ p,ev p x=(x-c)*ev (sd c p).1 x+ev p c
 | []=>by rw[ab3,ab3];show (0:Int)=(x-c)*ev [] x+0;rw[ab3];omega
 | a :: t=>by
   have h:=atp c x t
   show ev (a :: t) x=(x-c)*ev ((sd c t).2 :: (sd c t).1) x+ev (a :: t) c
   rw[ahF,ahF,ahF,akr,h]
   grind
theorem ao9 (c:Int):∀ (p:List Int) (n:Nat),(∀ j,n<=j->p.getD j 0=0)->∀ j,n<=j+1->(sd c p).1.getD j 0=0
 | [],_,_,j,_=>by show ([]:List Int).getD j 0=0;simp
 | a :: t,n,h,j,hj=>by
   have ht:∀ j,n-1<=j->t.getD j 0=0:=fun j hj=>by have:=h (j+1) (by omega);simpa using this
   show ((sd c t).2 :: (sd c t).1).getD j 0=0
   match j with
   | 0 =>
     show (sd c t).2=0
     rw[akr,aay (q:=[]) (fun k=>by rw[ht k (by omega)];simp) c,ab3]
   | j+1 =>
     have:=ao9 c t (n-1) ht j (by omega)
     simpa using this
theorem apa (c:Int) (p:List Int):aad (sd c p).1<=aad p-1:=aaP fun k hk=>ao9 c p (aad p) (fun j hj=>aaj p j hj) k (by omega)
theorem ar0 (c:Int):∀ (p:List Int),p.getD 0 0=ev p c-c*(sd c p).1.getD 0 0/\∀ j,p.getD (j+1) 0=(sd c p).1.getD j 0-c*(sd c p).1.getD (j+1) 0
 | []=>by
   refine ⟨?_,fun j=>?_⟩
   ·rw[ab3];show (0:Int)=0-c*0;omega
   ·show ([]:List Int).getD (j+1) 0=([]:List Int).getD j 0-c*([]:List Int).getD (j+1) 0
    simp
 | a :: t=>by
   obtain ⟨h1,h2⟩:=ar0 c t
   refine ⟨?_,fun j=>?_⟩
   ·show a=ev (a :: t) c-c*(sd c t).2
    rw[ahF,akr];omega
   ·show t.getD j 0=((sd c t).2 :: (sd c t).1).getD j 0-c*(sd c t).1.getD j 0
    match j with
    | 0=>show t.getD 0 0=(sd c t).2-c*(sd c t).1.getD 0 0;rw[akr];exact h1
    | j+1=>exact h2 j
theorem amv:∀ (n:Nat) (p:List Int) (xs:List Int),aad p<=n+1->aad p≠0->xs.Nodup->(∀ x∈xs,ev p x=0)->xs.length<=n
 | _,_,[],_,_,_,_=>Nat.zero_le _
 | 0,p,x :: xs,hp,h0,_,hz=>by
   have h1:=hz x (List.mem_cons_self ..)
   have h2:p.getD 0 0≠0:=ab7 p 0 (by omega)
   have e:ev p x=p.getD 0 0:=by
    rw[aay (q:=[p.getD 0 0]) (fun k=>?_) x,abh]
    cases k with
    | zero=>simp
    | succ k=>rw[aaj p (k+1) (by omega)];simp
   exact absurd (e ▸ h1) h2
 | n+1,p,x :: xs,hp,h0,hn,hz=>by
   have h1:=hz x (List.mem_cons_self ..)
   have hn':=List.nodup_cons.1 hn
   have hr:=apa x p
   have hpr:∀ y,ev p y=(y-x)*ev (sd x p).1 y:=fun y=>by rw[atp x y p,h1,Int.add_zero]
   have hr0:aad (sd x p).1≠0:=fun e=>by
    have:aad p<=0:=aaP fun k _=>by
     have:=ach (p:=p) (q:=[]) (fun y=>by rw[hpr,aay (q:=[]) (fun k=>by rw[aaj _ k (by omega)];simp) y,ab3,Int.mul_zero]) k
     rw[this];simp
    omega
   have:=amv n (sd x p).1 xs (by omega) hr0 hn'.2 (fun y hy=>by
    have h2:=hz y (List.mem_cons_of_mem _ hy)
    rw[hpr] at h2
    refine (Int.mul_eq_zero.1 h2).resolve_left fun e=>hn'.1 ?_
    rw[show x=y by omega];exact hy)
   simp only[List.length_cons]
   omega
def fbb (X:Nat):Nat->Nat->Nat
 | V,0=>V
 | V,n+1=>(1+X)*fbb X (2*V) n+V
theorem fb (X:Nat):∀ (n:Nat) (p:List Int) (xs:List Int) (V:Nat),aad p<=n+1->xs.length=n+1->xs.Nodup->(∀ x∈xs,x.natAbs<=X/\(ev p x).natAbs<=V)->∀ j,(p.getD j 0).natAbs<=fbb X V n
 | 0,p,xs,V,hp,hl,_,hv,j=>by
   match xs,hl with
   | [x],_ =>
     have h1:=(hv x (List.mem_cons_self ..)).2
     have e:ev p x=p.getD 0 0:=by
      rw[aay (q:=[p.getD 0 0]) (fun k=>?_) x,abh]
      cases k with
      | zero=>simp
      | succ k=>rw[aaj p (k+1) (by omega)];simp
     rw[e] at h1
     match j with
     | 0=>exact h1
     | j+1=>rw[aaj p (j+1) (by omega)];simp
 | n+1,p,xs,V,hp,hl,hn,hv,j=>by
   match xs,hl with
   | x :: xs,hl =>
     have hn':=List.nodup_cons.1 hn
     obtain ⟨hx,hxv⟩:=hv x (List.mem_cons_self ..)
     have ih:=fb X n (sd x p).1 xs (2*V) (by have:=apa x p;omega) (by simpa using hl) hn'.2 (fun y hy=>by
      obtain ⟨h1,h2⟩:=hv y (List.mem_cons_of_mem _ hy)
      refine ⟨h1,?_⟩
      have hne:y-x≠0:=fun e=>hn'.1 (by rw[show x=y by omega];exact hy)
      have h3:=atp x y p
      have h4:((y-x)*ev (sd x p).1 y).natAbs<=2*V:=by
       have:(y-x)*ev (sd x p).1 y=ev p y-ev p x:=by omega
       rw[this];omega
      rw[Int.natAbs_mul] at h4
      exact Nat.le_trans (Nat.le_mul_of_pos_left _ (Int.natAbs_pos.2 hne)) h4)
     obtain ⟨g0,g1⟩:=ar0 x p
     have hm:∀ k,(x*(sd x p).1.getD k 0).natAbs<=X*fbb X (2*V) n:=fun k=>by rw[Int.natAbs_mul];exact Nat.mul_le_mul hx (ih k)
     show (p.getD j 0).natAbs<=(1+X)*fbb X (2*V) n+V
     rw[Nat.add_mul,Nat.one_mul]
     match j with
     | 0=>rw[g0];have:=hm 0;omega
     | j+1=>rw[g1];have:=hm (j+1);have:=ih j;omega
theorem aw1 {p:List Int} {M X n:Nat} (hp:aad p<=n+1) (hM:∀ j,(p.getD j 0).natAbs<=M) {x:Int} (hx:x.natAbs<=X) (hX:1<=X):(ev p x).natAbs<=(n+1)*(M*X^n):=by
 have e:ev p x=evn (fun i=>p.getD i 0) x (n+1):=by
  rw[<- ahp p x,<- aiZ (aaf p) x (n:=n+1) (by rw[aae];exact hp)]
  exact acI x (fun i=>aau p i) _
 rw[e]
 suffices h:∀ k,k<=n+1->(evn (fun i=>p.getD i 0) x k).natAbs<=k*(M*X^n) from h _ (Nat.le_refl _)
 intro k
 induction k with
 | zero=>intro _;simp[evn]
 | succ k ih =>
   intro hk
   have h1:=ih (by omega)
   have h2:(p.getD k 0*x^k).natAbs<=M*X^n:=by
    rw[Int.natAbs_mul,Int.natAbs_pow]
    exact Nat.mul_le_mul (hM k) (Nat.le_trans (Nat.pow_le_pow_left hx k) (Nat.pow_le_pow_right hX (by omega)))
   have h3:evn (fun i=>p.getD i 0) x (k+1)=evn (fun i=>p.getD i 0) x k+p.getD k 0*x^k:=rfl
   rw[h3,Nat.succ_mul]
   have h4:=Int.natAbs_add_le (evn (fun i=>p.getD i 0) x k) (p.getD k 0*x^k)
   omega
def ints (n:Nat):List Int:=(List.range n).map (fun (i:Nat)=>(i:Int))
theorem ais (n:Nat):(ints n).Nodup:=by
 unfold ints
 refine List.Pairwise.map _ (fun (a b:Nat) (h:a≠b)=>?_) (List.nodup_range (n:=n))
 omega
theorem alp (n:Nat):(ints n).length=n:=by simp[ints]
theorem ait (b:Int->Bool):∀ l:List Int,(l.filter b).length+(l.filter (fun x=>!b x)).length=l.length
 | []=>rfl
 | a :: l=>by
   have:=ait b l
   cases h:b a<;>simp[h]<;>omega
theorem apb {p q g:List Int} {n M:Nat} (hp:aad p<=n+1) (p0:aad p≠0) (hM:∀ j,(p.getD j 0).natAbs<=M) (h:∀ x,ev p x=ev g x*ev q x) (j:Nat) :
  (q.getD j 0).natAbs<=fbb (2*n+1) ((n+1)*(M*(2*n+1)^n)) n:=by
 have hq:aad q<=n+1:=Nat.le_trans (ae2 ⟨1,g,by decide,fun x=>by rw[Int.one_mul,h]⟩ p0) hp
 obtain ⟨R,hR⟩:∃ R,R=(ints (2*n+1)).filter (fun x=>decide (ev p x=0)):=⟨_,rfl⟩
 obtain ⟨G,hG⟩:∃ G,G=(ints (2*n+1)).filter (fun x=>!decide (ev p x=0)):=⟨_,rfl⟩
 have hRl:R.length<=n:=amv n p R hp p0 (by rw[hR];exact (ais _).filter _) (fun x hx=>by rw[hR] at hx;exact of_decide_eq_true (List.mem_filter.1 hx).2)
 have hsum:R.length+G.length=2*n+1:=by
  rw[hR,hG,ait,alp]
 have hGn:G.Nodup:=by rw[hG];exact (ais _).filter _
 refine fb (2*n+1) n q (G.take (n+1)) _ hq (by rw[List.length_take];omega) (hGn.sublist (List.take_sublist _ _)) (fun x hx=>?_) j
 have hxG:=List.mem_of_mem_take hx
 rw[hG] at hxG
 obtain ⟨hx1,hx2⟩:=List.mem_filter.1 hxG
 have hx0:ev p x≠0:=by simpa using hx2
 have hxa:x.natAbs<=2*n+1:=by
  unfold ints at hx1
  obtain ⟨i,hi,rfl⟩:=List.mem_map.1 hx1
  have:=List.mem_range.1 hi
  omega
 refine ⟨hxa,?_⟩
 have h1:=aw1 hp hM hxa (by omega)
 have h2:(ev q x).natAbs<=(ev p x).natAbs:=by
  rw[h x,Int.natAbs_mul]
  have hg:ev g x≠0:=fun e=>hx0 (by rw[h x,e,Int.zero_mul])
  exact Nat.le_mul_of_pos_left _ (Int.natAbs_pos.2 hg)
 omega
end Go.Proofs.YtkefcldcfeolbaaGreat
namespace Go.Proofs.YtkefcldcfeolbaaGreat
open Go.RowKit
set_option maxRecDepth 100000 in
set_option maxHeartbeats 1000000 in
theorem agL {I:aas} (hI:IK I) (A:Option Addr) (la ca:Nat) (g:List Int) (w:World) (h:aar I w A la ca g) (hs:SmP g) (hm:la<=1000000) :
  Calls Tryz.prog 56 #[.slice A la ca] w fun e w'=>∃ A' l' c',e=.returned (.slice A' l' c')/\aaB w' A' l' c' (ae1 g)/\Below w.heap.size w w':=by
 have hld:SmI (aai g):=hs.getD _
 have Hg:=Lh h
 clear h
 go_enter Tryz.func56,Tryz.ntmps56
 go_wp2_with fail
 refine (lead_any _ _ _ _ _ (Hg.out.at_ hI) hs (by omega)).mono ?_
 rintro e w1 ⟨n1,A1,l1,c1,rfl,hz1,hb1⟩
 have Hz:=Lh hz1
 replace Hg:=Lh (Hg.out.below hI hb1)
 have Hb:=Lh hb1
 clear hz1 hb1
 go_wp2_with fail
 refine (aa8 _ _ _ _ _ _ Hz.out.at_ hld).mono ?_
 rintro e w2 ⟨rfl,rfl⟩
 by_cases hn:aai g<0
 ·have He:=Lh (show ae1 g=pmn (aaf g) by unfold ae1;rw[if_pos hn])
  rw[ajP hn]
  clear hn hld
  go_wp2_with fail
  refine (ad2 hI _ _ _ g _ (Hg.out.below hI Bel.go) hs (by omega)).mono ?_
  rintro e w3 ⟨A3,l3,c3,rfl,h3,hb3⟩
  have H3:=Lh h3
  have Hb3:=Lh (Hb.out.trans ((Below.trans Bel.go (hb3.mono (by simp<;>omega))).mono Hb.out.size))
  clear h3 hb3
  go_wp2
  go_ret
  exact ⟨_,_,_,rfl,by rw[He.out];exact H3.out,Hb3.out⟩
 ·have He:=Lh (show ae1 g=aaf g by unfold ae1;rw[if_neg hn])
  have hsn:¬ sg (aai g)<0:=by
   rcases aav (aai g) with ⟨h1,e⟩ | ⟨h1,e⟩ | ⟨h1,e⟩<;>omega
  obtain ⟨s,hs2⟩:∃ s,s=sg (aai g):=⟨_,rfl⟩
  rw[<- hs2] at hsn ⊢
  clear hn hld hs2
  go_wp2_with fail
  refine (abd hI _ _ _ g _ (Hg.out.below hI Bel.go) hs (by omega)).mono ?_
  rintro e w3 ⟨r3,rfl,h3,_,hb3⟩
  have hp3:=h3.poly (cap:=aad g) (by rw[aae];exact Nat.le_refl _)
  rw[aae] at hp3
  have H3:=Lh hp3
  have Hb3:=Lh (Hb.out.trans ((Below.trans Bel.go (hb3.mono (by simp<;>omega))).mono Hb.out.size))
  clear h3 hb3 hp3
  go_wp2
  go_ret
  exact ⟨_,_,_,rfl,by rw[He.out];exact H3.out,Hb3.out⟩
set_option maxRecDepth 100000 in
set_option maxHeartbeats 1000000 in
theorem anv {I J:aas} (hI:IK I) (hJ:IK J) (A:Option Addr) (la ca:Nat) (f:List Int) (B:Option Addr) (lb cb:Nat) (g:List Int) (w:World) (hf:aar I w A la ca f) (hg:aar J w B lb cb g) (hsf:SmP f) (hsg:SmP g) (hla:la<=1000000) (hlb:lb<=1000000) (f0:aad f=0) :
  CallsIn Fence.wide 9 Tryz.prog 26 #[.slice A la ca,.slice B lb cb] w fun e w'=>∃ A1 l1 c1,e=.returned (.slice A1 l1 c1)/\aaB w' A1 l1 c1 (ae1 g)/\Below w.heap.size w w':=by
 refine callsIn_of_wp_marks Tryz.func26 rfl trivial ?_ rfl
 simp only[Tryz.ntmps26,List.size_toArray,List.length_cons,List.length_nil,Nat.reduceAdd,Nat.reduceSub,Array.replicate_succ,Array.replicate_zero,List.push_toArray,List.append_toArray,List.nil_append,List.cons_append]
 gi_wp2_with fail
 refine ⟨trivial,(callsIn_wide.2 (aaO _ _ _ _ _ (hf.at_ hI) hsf (by omega))).mono ?_⟩
 rintro e w1 ⟨rfl,hb1⟩
 rw[f0,show ((0:Nat):Int)-1=-1 by omega]
 have Hg:=Lh (hg.below hJ hb1)
 have Hb:=Lh hb1
 clear hf hg hb1
 gi_wp2_with fail
 refine ⟨trivial,(callsIn_wide.2 (agL hJ _ _ _ g _ Hg.out hsg (by omega))).mono ?_⟩
 rintro e w2 ⟨A2,l2,c2,rfl,h2,hb2⟩
 have H2:=Lh h2
 replace Hb:=Lh (Hb.out.trans (hb2.mono Hb.out.size))
 clear h2 hb2 Hg
 gi_wp2
 exact ⟨_,results_tmp rfl _ _ _,A2,l2,c2,rfl,H2.out,Hb.out⟩
set_option maxRecDepth 100000 in
set_option maxHeartbeats 1000000 in
theorem anw {I J:aas} (hI:IK I) (hJ:IK J) (A:Option Addr) (la ca:Nat) (f:List Int) (B:Option Addr) (lb cb:Nat) (g:List Int) (w:World) (hf:aar I w A la ca f) (hg:aar J w B lb cb g) (hsf:SmP f) (hsg:SmP g) (hla:la<=1000000) (hlb:lb<=1000000) (f0:aad f≠0) (g0:aad g=0) :
  CallsIn Fence.wide 9 Tryz.prog 26 #[.slice A la ca,.slice B lb cb] w fun e w'=>∃ A1 l1 c1,e=.returned (.slice A1 l1 c1)/\aaB w' A1 l1 c1 (ae1 f)/\Below w.heap.size w w':=by
 obtain ⟨df,hdf⟩:∃ d,aad f=d+1:=⟨aad f-1,by omega⟩
 have Hdf:=Lh hdf
 refine callsIn_of_wp_marks Tryz.func26 rfl trivial ?_ rfl
 simp only[Tryz.ntmps26,List.size_toArray,List.length_cons,List.length_nil,Nat.reduceAdd,Nat.reduceSub,Array.replicate_succ,Array.replicate_zero,List.push_toArray,List.append_toArray,List.nil_append,List.cons_append]
 clear hdf f0
 gi_wp2_with fail
 refine ⟨trivial,(callsIn_wide.2 (aaO _ _ _ _ _ (hf.at_ hI) hsf (by omega))).mono ?_⟩
 rintro e w1 ⟨rfl,hb1⟩
 rw[Hdf.out,show ((df+1:Nat):Int)-1=(df:Int) by omega]
 have df0:decide ((df:Int)<0)=false:=decide_eq_false (by omega)
 have Hf:=Lh (hf.below hI hb1)
 have Hg:=Lh (hg.below hJ hb1)
 have Hb:=Lh hb1
 clear hf hg hb1
 gi_wp2_with fail
 refine ⟨trivial,(callsIn_wide.2 (aaO _ _ _ _ _ (Hg.out.at_ hJ) hsg (by omega))).mono ?_⟩
 rintro e w2 ⟨rfl,hb2⟩
 rw[g0,show ((0:Nat):Int)-1=-1 by omega]
 replace Hf:=Lh (Hf.out.below hI hb2)
 replace Hb:=Lh (Hb.out.trans (hb2.mono Hb.out.size))
 clear hb2 Hg df0
 gi_wp2_with fail
 refine ⟨trivial,(callsIn_wide.2 (agL hI _ _ _ f _ Hf.out hsf (by omega))).mono ?_⟩
 rintro e w3 ⟨A2,l2,c2,rfl,h2,hb3⟩
 have H2:=Lh h2
 replace Hb:=Lh (Hb.out.trans (hb3.mono Hb.out.size))
 clear h2 hb3 Hf
 gi_wp2
 exact ⟨_,results_tmp rfl _ _ _,A2,l2,c2,rfl,H2.out,Hb.out⟩
theorem alq {I J:aas} (hI:IK I) (hJ:IK J) (A:Option Addr) (la ca:Nat) (f:List Int) (B:Option Addr) (lb cb:Nat) (g:List Int) (w:World) (hf:aar I w A la ca f) (hg:aar J w B lb cb g) (hsf:SmP f) (hsg:SmP g) (hla:la<=1000000) (hlb:lb<=1000000) (hga:aqV f g) :
  Calls Tryz.prog 26 #[.slice A la ca,.slice B lb cb] w fun e w'=>∃ A1 l1 c1,e=.returned (.slice A1 l1 c1)/\aaB w' A1 l1 c1 (gres f g)/\Below w.heap.size w w':=by
 unfold gres
 split
 ·rename_i f0
  exact callsIn_wide.1 (anv hI hJ A la ca f B lb cb g w hf hg hsf hsg hla hlb f0)
 ·rename_i f0
  split
  ·rename_i g0
   exact callsIn_wide.1 (anw hI hJ A la ca f B lb cb g w hf hg hsf hsg hla hlb f0 g0)
  ·rename_i g0
   obtain ⟨e,S,hc⟩:=(hga.resolve_left f0).resolve_left g0
   obtain ⟨_,h2,h3,_,h5,h6,h7⟩:=hc.all
   exact amd hI hJ A la ca f B lb cb g w hf hg hsf hsg hla hlb (by omega) (by omega) 20 h5 h6 h2 h3 h7
end Go.Proofs.YtkefcldcfeolbaaGreat
