/- unidiv.positive; unidiv.Gcd of any two polynomials of small degree. -/
import Derived.Test.YtdimmlckpgpgcaaGreatGtl
import Derived.Test.YtdimmlckpgpgcaaGreatAwl
import Derived.Test.YtdimmlckpgpgcaaGreatSta
namespace Go.Proofs.YtdimmlckpgpgcaaGreat
theorem ad6 {f g:List Int} (h:Dvq f g) (hg:aac g≠0):aac f<=aac g:=by
 by_cases hf:aac f=0
 ·omega
 obtain ⟨c,q,hc,e⟩:=h
 have h1:∀ k,(psc c g).getD k 0=(aag q f).getD k 0:=abJ fun x=>by rw[aaG,aat,e]
 have h2:aac (psc c g)=aac (aag q f):=by have:=congrArg List.length (aes h1);rw[aae,aae] at this;exact this
 have h3:aac (psc c g)<=aac g:=aax fun k hk=>by rw[aav,aah g k hk,Int.mul_zero]
 have h4:aac g<=aac (psc c g):=aax fun k hk=>by
  have:=aah (psc c g) k hk
  rw[aav] at this
  exact (Int.mul_eq_zero.1 this).resolve_left hc
 have hq:1<=aac q:=Classical.byContradiction fun hn=>by
  have:aac (aag q f)=0:=acr (by omega)
  omega
 have:=(abX (f:=q) (g:=f) hq (by omega)).1
 omega
theorem acK (f:List Int) (j:Nat):((aan f).getD j 0).natAbs<=(f.getD j 0).natAbs:=by
 by_cases h:aac f=0
 ·have:aac (aan f)=0:=by rw[acJ,h]
  rw[aah (aan f) j (by omega)];simp
 ·rw[ac9 h j,Int.natAbs_mul]
  exact Nat.le_mul_of_pos_left _ (Int.natAbs_pos.2 (ajk h))
theorem aeW (f g:List Int):abe 0 [f,g]=Nat.gcd (aal f) (aal g):=by
 show Nat.gcd (Nat.gcd 0 (aal f)) (aal g)=_
 rw[Nat.gcd_zero_left]
theorem ajn {f:List Int} (h:aac f≠0) {X:Nat} (hX:∀ j,(f.getD j 0).natAbs<=X):aal f<=X:=by
 have h1:=abE f (aac f-1)
 have h2:(f.getD (aac f-1) 0)≠0:=abw h
 exact Nat.le_trans (Nat.le_of_dvd (Int.natAbs_pos.2 h2) h1) (hX _)
structure GC (f g:List Int) (e S:Nat):Prop where
 f0:aac f≠0
 g0:aac g≠0
 sum:aac f+aac g<=34
 fe:e+1<=aac f
 ge:e+1<=aac g
 low:∀ p,acT f g p->1<=aac p->e+1<=aac p
 sf:∀ j,((aan f).getD j 0).natAbs<=S
 sg:∀ j,((aan g).getD j 0).natAbs<=S
 s1:1<=S
 ok:∀ m n,n<=m->e<=n->m+1<=max (aac f) (aac g)->m+n=aac f+aac g-2->∃ N,GOK (S*32) m n e N
 k:abe 0 [f,g]<=S*32
section
variable {f g:List Int} {e S:Nat}
def agS (f g:List Int):List Int:=avs 20 f g
theorem GC.pair (h:GC f g e S):∃ m n,(aaB f g).1.length=m+1/\(aaB f g).2.length=n+1/\n<=m/\e<=n/\m+1<=max (aac f) (aac g)/\m+n=aac f+aac g-2/\(∀ j,((aaB f g).1.getD j 0).natAbs<=S)/\(∀ j,((aaB f g).2.getD j 0).natAbs<=S)/\(∀ p,acT (aaB f g).1 (aaB f g).2 p->acT f g p):=by
 have hpl:∀ p:List Int,(aan p).length=aac p:=fun p=>by
  have:=congrArg List.length (ahz p)
  rw[aae,acJ] at this
  exact this.symm
 have cf:acT f g (aan f):=(acT.left f g).aio ⟨Go.Proofs.YtdimmlckpgpgcaaGreat.sg (aaj f)*(aal f:Int),1,ajk h.f0,fun x=>by rw[Int.one_mul,<- aaG];exact aaz (fun k=>by rw[aav,<- ac9 h.f0]) x⟩
 have cg:acT f g (aan g):=(acT.right f g).aio ⟨Go.Proofs.YtdimmlckpgpgcaaGreat.sg (aaj g)*(aal g:Int),1,ajk h.g0,fun x=>by rw[Int.one_mul,<- aaG];exact aaz (fun k=>by rw[aav,<- ac9 h.g0]) x⟩
 have h1:=h.fe
 have h2:=h.ge
 have h5:=hpl f
 have h6:=hpl g
 unfold aaB
 split
 ·exact ⟨aac g-1,aac f-1,by dsimp only;omega,by dsimp only;omega,by omega,by omega,by omega,by omega,h.sg,h.sf,fun p c=>cg.trans cf c⟩
 ·exact ⟨aac f-1,aac g-1,by dsimp only;omega,by dsimp only;omega,by omega,by omega,by omega,by omega,h.sf,h.sg,fun p c=>cf.trans cg c⟩
theorem GC.all (h:GC f g e S):adv f g (agS f g)/\rOK 20 ⟨aaf (aaB f g).1,aaf (aaB f g).2,-1,(-1)^(aac (aaB f g).1-aac (aaB f g).2+1)⟩ /\
  (∀ p∈agB 20 (aaB f g).1 (aaB f g).2,SmP p/\p.length<=1000000/\SmP (aan p)/\SmP (psc (abe 0 [f,g]:Int) (aan p))) /\
  (∀ j,((aan (agS f g)).getD j 0).natAbs<=(S*32)^(max 1 (aac f+aac g-2*aac (agS f g))))/\abH (aan f)/\abH (aan g)/\Fit (abe 0 [f,g]:Int):=by
 obtain ⟨m,n,ha,hb,hmn,hen,hme,hsum,sa,sb,hc⟩:=h.pair
 have hG1:1<=S*32:=by have:=h.s1;omega
 have hsm:=h.sum
 obtain ⟨N,ok⟩:=h.ok m n hmn hen hme hsum
 have hN:=ok.e0
 have hlow:∀ p,acT (aaB f g).1 (aaB f g).2 p->1<=aac p->e+1<=aac p:=fun p c h1=>h.low p (hc p c) h1
 have ah0:∀ {z:Nat},z<=S->z*(m+n)<=S*32:=fun hz=>Nat.mul_le_mul hz (by omega)
 have hcases:(aaB f g=(aan g,aan f))∨(aaB f g=(aan f,aan g)):=by unfold aaB;split<;>simp
 have hpl:∀ p:List Int,aac (aan p)=(aan p).length:=fun p=>by
  have:=congrArg List.length (ahz p)
  rw[aae] at this
  exact this
 have ta:aac (aaB f g).1=(aaB f g).1.length:=by rcases hcases with e | e<;>rw[e]<;>exact hpl _
 have tb:aac (aaB f g).2=(aaB f g).2.length:=by rcases hcases with e | e<;>rw[e]<;>exact hpl _
 have e1:aaf (aaB f g).1=(aaB f g).1:=by unfold aaf;rw[ta,List.take_length]
 have e2:aaf (aaB f g).2=(aaB f g).2:=by unfold aaf;rw[tb,List.take_length]
 have a0:∀ j,((aaB f g).1.getD j 0).natAbs<=S*32:=fun j=>Nat.le_trans (sa j) (by omega)
 have b0:∀ j,((aaB f g).2.getD j 0).natAbs<=S*32:=fun j=>Nat.le_trans (sb j) (by omega)
 have hs:=aeV (e:=e) hen ha hb ta tb hmn ok.pos a0 b0
 have gis:adv f g (agS f g):=aut hen hlow h.f0 h.g0 ha hb hmn ok a0 b0 (fun j=>ah0 (sa j)) (fun j=>ah0 (sb j)) (by omega)
 have aAv:rOK 20 ⟨(aaB f g).1,(aaB f g).2,-1,(-1)^((aaB f g).1.length-(aaB f g).2.length+1)⟩:=adn.rok ok hlow (fun j=>ah0 (sa j)) (fun j=>ah0 (sb j)) 20 _ _ hs (by dsimp only;omega)
 have els:=adn.els ok hlow (fun j=>ah0 (sa j)) (fun j=>ah0 (sb j)) 20 _ _ hs
 have eld:=adn.apX ok hlow (fun j=>ah0 (sa j)) (fun j=>ah0 (sb j)) 20 _ _ hs
 have hseq:agB 20 (aaB f g).1 (aaB f g).2=(aaB f g).1 :: (aaB f g).2 :: rsq 20 ⟨(aaB f g).1,(aaB f g).2,-1,(-1)^((aaB f g).1.length-(aaB f g).2.length+1)⟩:=by unfold agB;rw[e1,e2,ta,tb]
 have hel:∀ p∈agB 20 (aaB f g).1 (aaB f g).2,(∀ j,(p.getD j 0).natAbs<=(S*32)^(m+n+2))/\p.length<=1000000/\aac p=p.length/\1<=p.length/\∀ j,(p.getD j 0).natAbs<=(S*32)^(max 1 (m+n+2-2*p.length)):=fun p hp=>by
  have up:∀ {z i:Nat},1<=i->z<=S*32->z<=(S*32)^i:=fun hi hz=>Nat.le_trans hz (by calc S*32=(S*32)^1:=(Nat.pow_one _).symm
                                                   _<=_:=Nat.pow_le_pow_right hG1 hi)
  rw[hseq] at hp
  rcases List.mem_cons.1 hp with rfl | hp
  ·exact ⟨fun j=>up (by omega) (a0 j),by omega,ta,by omega,fun j=>up (Nat.le_max_left _ _) (a0 j)⟩
  ·rcases List.mem_cons.1 hp with rfl | hp
   ·exact ⟨fun j=>up (by omega) (b0 j),by omega,tb,by omega,fun j=>up (Nat.le_max_left _ _) (b0 j)⟩
   ·obtain ⟨h1,h2,h3,h4⟩:=els p hp
    exact ⟨h1,by omega,h3,h4,eld p hp⟩
 have smb:∀ {p:List Int},(∀ j,(p.getD j 0).natAbs<=(S*32)^(m+n+3))->SmP p:=fun {p} hp c hc=>by
  obtain ⟨j,hj⟩:=List.getElem?_of_mem hc
  have:=hp j
  rw[List.getD_eq_getElem?_getD,hj] at this
  exact ok.sm' this (by omega)
 have ax6:∀ {x:Int},x.natAbs<=S*32->Fit x:=fun {x} hx=>ok.lt (i:=1) (by rw[Nat.pow_one];exact hx) (by omega)
 refine ⟨gis,by rw[e1,e2,ta,tb];exact aAv,fun p hp=>?_,fun j=>?_,fun j=>ax6 (Nat.le_trans (h.sf j) (by omega)),fun j=>ax6 (Nat.le_trans (h.sg j) (by omega)),ax6 (by rw[Int.natAbs_natCast];exact h.k)⟩
 ·obtain ⟨h1,h2,h3,h4,h5⟩:=hel p hp
  have up3:(S*32)^(m+n+2)<=(S*32)^(m+n+3):=Nat.pow_le_pow_right hG1 (by omega)
  refine ⟨smb fun j=>Nat.le_trans (h1 j) up3,h2,smb fun j=>Nat.le_trans (Nat.le_trans (acK p j) (h1 j)) up3,smb fun j=>?_⟩
  rw[aav,Int.natAbs_mul,Int.natAbs_natCast,Nat.pow_succ,Nat.mul_comm]
  exact Nat.mul_le_mul (Nat.le_trans (acK p j) (h1 j)) h.k
 ·obtain ⟨c,c1,_,_⟩:=am1 hen hlow ha hb ta tb hmn ok a0 b0 (fun j=>ah0 (sa j)) (fun j=>ah0 (sb j)) (k:=20) (by omega)
  obtain ⟨L,hL⟩:∃ L,L=gcl 20 (aaB f g).1 (aaB f g).2:=⟨_,rfl⟩
  rw[<- hL] at c c1
  have hmem:L∈agB 20 (aaB f g).1 (aaB f g).2:=by
   rw[hL]
   unfold gcl
   rcases ahA (agB 20 (aaB f g).1 (aaB f g).2) [] with h1 | ⟨h1,_⟩
   ·rw[h1,hseq]
    exact List.mem_cons_of_mem _ (alR _ _)
   ·exact h1
  obtain ⟨_,_,l3,_,l5⟩:=hel L hmem
  have hL0:aac L≠0:=by omega
  have hP:agS f g=aaf (psc (abe 0 [f,g]:Int) (aan L)):=by unfold agS avs;rw[hL]
  have hK0:0<(abe 0 [f,g]:Int):=by
   rw[aeW]
   have:Nat.gcd (aal f) (aal g)≠0:=fun e=>abN h.f0 (Nat.eq_zero_of_gcd_eq_zero_left e)
   omega
  have hDg:∀ k,(agS f g).getD k 0=(abe 0 [f,g]:Int)*(aan L).getD k 0:=fun k=>by rw[hP,aam,aav]
  have hpD:aac (agS f g)=aac L:=by
   have a1:aac (agS f g)<=aac (aan L):=aax fun k hk=>by rw[hDg,aah _ k hk,Int.mul_zero]
   have a2:aac (aan L)<=aac (agS f g):=aax fun k hk=>by
    have:=aah (agS f g) k hk
    rw[hDg] at this
    exact (Int.mul_eq_zero.1 this).resolve_left (by omega)
   rw[acJ] at a1 a2
   omega
  have hD0:aac (agS f g)≠0:=by omega
  have aAw:Go.Proofs.YtdimmlckpgpgcaaGreat.sg (aaj (agS f g))=1:=adN gis.lead
  have hcD:(aal (agS f g):Int)=(abe 0 [f,g]:Int):=by rw[gis.cont,aeW]
  have heq:(aan (agS f g)).getD j 0=(aan L).getD j 0:=by
   have h1:=ac9 hD0 j
   rw[aAw,Int.one_mul,hcD,hDg j] at h1
   exact (Int.eq_of_mul_eq_mul_left (by omega) h1).symm
  rw[heq,hpD,l3]
  refine Nat.le_trans (Nat.le_trans (acK L j) (l5 j)) (Nat.pow_le_pow_right hG1 ?_)
  omega
end
end Go.Proofs.YtdimmlckpgpgcaaGreat
namespace Go.Proofs.YtdimmlckpgpgcaaGreat
def as3 (f g:List Int):Prop:=aac f=0∨aac g=0∨∃ e S,GC f g e S
def gres (f g:List Int):List Int:=if aac f=0 then aei g else if aac g=0 then aei f else agS f g
theorem arY {g:List Int} (h:aac g=0):aei g=[]:=by
 unfold aei
 rw[if_neg (by rw[aa1.2 h];omega)]
 exact List.eq_nil_of_length_eq_zero (by rw[aae,h])
theorem ahB {f g:List Int} (h:as3 f g):IsG f g (gres f g):=by
 unfold gres
 split
 ·rename_i hf
  by_cases hg:aac g=0
  ·exact .inl ⟨hf,hg,arY hg⟩
  ·exact .inr ⟨fun e=>hg e.2,aip hf hg⟩
 ·rename_i hf
  split
  ·rename_i hg
   exact .inr ⟨fun e=>hf e.1,(aip hg hf).symm⟩
  ·rename_i hg
   obtain ⟨e,S,hc⟩:=(h.resolve_left hf).resolve_left hg
   exact .inr ⟨fun e=>hf e.1,hc.all.1⟩
theorem adv.congr {f f' g g' D:List Int} (hf:∀ k,f.getD k 0=f'.getD k 0) (hg:∀ k,g.getD k 0=g'.getD k 0) (h:adv f g D):adv f' g' D:=by
 have ef:∀ x,ev f x=ev f' x:=aaz hf
 have eg:∀ x,ev g x=ev g' x:=aaz hg
 refine ⟨h.trim,h.lead,by rw[h.cont,abS (p:=f) (q:=f') (fun k=>by rw[hf k]),abS (p:=g) (q:=g') (fun k=>by rw[hg k])],?_,?_,?_⟩
 ·obtain ⟨c,q,h1,h2⟩:=h.l
  exact ⟨c,q,h1,fun x=>by rw[<- ef];exact h2 x⟩
 ·obtain ⟨c,q,h1,h2⟩:=h.r
  exact ⟨c,q,h1,fun x=>by rw[<- eg];exact h2 x⟩
 ·obtain ⟨c,u,v,h1,h2⟩:=h.c
  exact ⟨c,u,v,h1,fun x=>by rw[<- ef,<- eg];exact h2 x⟩
def auu (f:List Int):Prop:=aac f<=5/\∀ j,(f.getD j 0).natAbs<=4294967296
structure DS (d:List Int):Prop where
 t:aaf d=d
 l:aac d<=5
 p:∀ j,((aan d).getD j 0).natAbs<=(4294967296*32)^(max 1 (10-2*aac d))
 c:aal d<=4294967296
theorem DS.b {d:List Int} (h:DS d) (j:Nat):(d.getD j 0).natAbs<=4294967296*(4294967296*32)^8:=by
 by_cases h0:aac d=0
 ·rw[aah d j (by omega)];simp
 ·rw[ac9 h0,Int.natAbs_mul,Int.natAbs_mul,Int.natAbs_natCast]
  refine Nat.mul_le_mul ?_ (Nat.le_trans (h.p j) (Nat.pow_le_pow_right (by decide) (by omega)))
  have h1:(sg (aaj d)).natAbs<=1:=by rcases aar (aaj d) with ⟨_,e⟩ | ⟨_,e⟩ | ⟨_,e⟩<;>rw[e]<;>decide
  exact Nat.le_trans (Nat.mul_le_mul h1 h.c) (by omega)
theorem DS.fit {d:List Int} (h:DS d):abH d:=fun j=>Nat.lt_of_le_of_lt (h.b j) (by rw[aao];first | decide +kernel | (rw[ach];decide +kernel))
theorem auu.fit {f:List Int} (h:auu f):abH f:=fun j=>Nat.lt_of_le_of_lt (h.2 j) (by rw[aao];first | decide +kernel | (rw[ach];decide +kernel))
theorem auu.cont {f:List Int} (h:auu f) (h0:aac f≠0):aal f<=4294967296:=ajn h0 h.2
theorem am2 {a b X:Nat} (hb:b≠0) (h:b<=X):Nat.gcd a b<=X:=Nat.le_trans (Nat.gcd_le_right a (by omega)) h
theorem GC.symm {f g:List Int} {e S:Nat} (h:GC f g e S):GC g f e S:=by
 refine ⟨h.g0,h.f0,by have:=h.sum;omega,h.ge,h.fe,fun p ⟨c,u,v,h1,h2⟩ hp=>h.low p ⟨c,v,u,h1,fun x=>by rw[h2,Int.add_comm]⟩ hp,h.sg,h.sf,h.s1,?_,?_⟩
 ·intro m n h1 h2 h3 h4
  exact h.ok m n h1 h2 (by rw[Nat.max_comm];exact h3) (by omega)
 ·have:=h.k
  rw[aeW] at this ⊢
  rw[Nat.gcd_comm];exact this
theorem as3.symm {f g:List Int} (h:as3 f g):as3 g f:=by
 rcases h with h | h | ⟨e,S,h⟩
 ·exact .inr (.inl h)
 ·exact .inl h
 ·exact .inr (.inr ⟨e,S,h.symm⟩)
theorem auu.trim {f:List Int} (h:auu f):auu (aaf f):=⟨by rw[abb];exact h.1,fun j=>by rw[aam];exact h.2 j⟩
theorem aeD {l f r:List Int} {c:Int} (hl:aal l=1) (hc:c≠0) (h:∀ x,c*ev f x=ev l x*ev r x):∃ s:List Int,∀ x,ev f x=ev l x*ev s x:=by
 have h1:∀ k,(psc c f).getD k 0=(aag l r).getD k 0:=abJ fun x=>by rw[aaG,aat,h]
 have h2:c.natAbs*aal f=aal r:=by rw[<- acH,abS (p:=psc c f) (q:=aag l r) (fun k=>by rw[h1 k]),aex,hl,Nat.one_mul]
 have h3:∀ k,c∣r.getD k 0:=fun k=>by
  rw[<- Int.natAbs_dvd_natAbs]
  exact Nat.dvd_trans ⟨aal f,h2.symm⟩ (abE r k)
 refine ⟨r.map (·.tdiv c),fun x=>?_⟩
 have h4:∀ k,r.getD k 0=c*(r.map (·.tdiv c)).getD k 0:=fun k=>by
  rw[ad5,Int.mul_tdiv_cancel' (h3 k)]
 have h5:ev r x=c*ev (r.map (·.tdiv c)) x:=by rw[<- aaG];exact aaz (fun k=>by rw[aav];exact h4 k) x
 refine Int.eq_of_mul_eq_mul_left hc ?_
 rw[h x,h5]
 grind
theorem auv {p a b:List Int} (h:∀ x,ev p x=ev a x*ev b x) (k:Nat):p.getD k 0=pc b a k:=by
 rw[<- aa0]
 exact abJ (fun x=>by rw[aat,h,Int.mul_comm]) k
end Go.Proofs.YtdimmlckpgpgcaaGreat
namespace Go.Proofs.YtdimmlckpgpgcaaGreat
theorem aeE (a:Int) (t:List Int) (x:Int):ev (a :: t) x=a+x*ev t x:=by
 unfold ev
 have h:∀ (F:Nat->Int) n,evn F x (n+1)=F 0+x*evn (fun i=>F (i+1)) x n:=by
  intro F n
  induction n with
  | zero=>simp[evn]
  | succ n ih=>rw[evn,ih,evn,Int.pow_succ];grind
 rw[List.length_cons,h]
 rfl
def sd (c:Int):List Int->List Int×Int
 | []=>([],0)
 | a :: t=>((sd c t).2 :: (sd c t).1,a+c*(sd c t).2)
theorem akB (c:Int):∀ p,(sd c p).2=ev p c
 | []=>by rw[abt];rfl
 | a :: t=>by rw[aeE,<- akB c t];rfl
theorem arZ (c x:Int):∀ p,ev p x=(x-c)*ev (sd c p).1 x+ev p c
 | []=>by rw[abt,abt];show (0:Int)=(x-c)*ev [] x+0;rw[abt];omega
 | a :: t=>by
   have h:=arZ c x t
   show ev (a :: t) x=(x-c)*ev ((sd c t).2 :: (sd c t).1) x+ev (a :: t) c
   rw[aeE,aeE,aeE,akB,h]
   grind
theorem apY (c:Int):∀ (p:List Int) (n:Nat),(∀ j,n<=j->p.getD j 0=0)->∀ j,n<=j+1->(sd c p).1.getD j 0=0
 | [],_,_,j,_=>by show ([]:List Int).getD j 0=0;simp
 | a :: t,n,h,j,hj=>by
   have ht:∀ j,n-1<=j->t.getD j 0=0:=fun j hj=>by have:=h (j+1) (by omega);simpa using this
   show ((sd c t).2 :: (sd c t).1).getD j 0=0
   match j with
   | 0 =>
     show (sd c t).2=0
     rw[akB,aaz (q:=[]) (fun k=>by rw[ht k (by omega)];simp) c,abt]
   | j+1 =>
     have:=apY c t (n-1) ht j (by omega)
     simpa using this
theorem apZ (c:Int) (p:List Int):aac (sd c p).1<=aac p-1:=aax fun k hk=>apY c p (aac p) (fun j hj=>aah p j hj) k (by omega)
theorem as4 (c:Int):∀ (p:List Int),p.getD 0 0=ev p c-c*(sd c p).1.getD 0 0/\∀ j,p.getD (j+1) 0=(sd c p).1.getD j 0-c*(sd c p).1.getD (j+1) 0
 | []=>by
   refine ⟨?_,fun j=>?_⟩
   ·rw[abt];show (0:Int)=0-c*0;omega
   ·show ([]:List Int).getD (j+1) 0=([]:List Int).getD j 0-c*([]:List Int).getD (j+1) 0
    simp
 | a :: t=>by
   obtain ⟨h1,h2⟩:=as4 c t
   refine ⟨?_,fun j=>?_⟩
   ·show a=ev (a :: t) c-c*(sd c t).2
    rw[aeE,akB];omega
   ·show t.getD j 0=((sd c t).2 :: (sd c t).1).getD j 0-c*(sd c t).1.getD j 0
    match j with
    | 0=>show t.getD 0 0=(sd c t).2-c*(sd c t).1.getD 0 0;rw[akB];exact h1
    | j+1=>exact h2 j
theorem am3:∀ (n:Nat) (p:List Int) (xs:List Int),aac p<=n+1->aac p≠0->xs.Nodup->(∀ x∈xs,ev p x=0)->xs.length<=n
 | _,_,[],_,_,_,_=>Nat.zero_le _
 | 0,p,x :: xs,hp,h0,_,hz=>by
   have h1:=hz x (List.mem_cons_self ..)
   have h2:p.getD 0 0≠0:=ab3 p 0 (by omega)
   have e:ev p x=p.getD 0 0:=by
    rw[aaz (q:=[p.getD 0 0]) (fun k=>?_) x,aaY]
    cases k with
    | zero=>simp
    | succ k=>rw[aah p (k+1) (by omega)];simp
   exact absurd (e ▸ h1) h2
 | n+1,p,x :: xs,hp,h0,hn,hz=>by
   have h1:=hz x (List.mem_cons_self ..)
   have hn':=List.nodup_cons.1 hn
   have hr:=apZ x p
   have hpr:∀ y,ev p y=(y-x)*ev (sd x p).1 y:=fun y=>by rw[arZ x y p,h1,Int.add_zero]
   have hr0:aac (sd x p).1≠0:=fun e=>by
    have:aac p<=0:=aax fun k _=>by
     have:=abJ (p:=p) (q:=[]) (fun y=>by rw[hpr,aaz (q:=[]) (fun k=>by rw[aah _ k (by omega)];simp) y,abt,Int.mul_zero]) k
     rw[this];simp
    omega
   have:=am3 n (sd x p).1 xs (by omega) hr0 hn'.2 (fun y hy=>by
    have h2:=hz y (List.mem_cons_of_mem _ hy)
    rw[hpr] at h2
    refine (Int.mul_eq_zero.1 h2).resolve_left fun e=>hn'.1 ?_
    rw[show x=y by omega];exact hy)
   simp only[List.length_cons]
   omega
def fbb (X:Nat):Nat->Nat->Nat
 | V,0=>V
 | V,n+1=>(1+X)*fbb X (2*V) n+V
theorem fb (X:Nat):∀ (n:Nat) (p:List Int) (xs:List Int) (V:Nat),aac p<=n+1->xs.length=n+1->xs.Nodup->(∀ x∈xs,x.natAbs<=X/\(ev p x).natAbs<=V)->∀ j,(p.getD j 0).natAbs<=fbb X V n
 | 0,p,xs,V,hp,hl,_,hv,j=>by
   match xs,hl with
   | [x],_ =>
     have h1:=(hv x (List.mem_cons_self ..)).2
     have e:ev p x=p.getD 0 0:=by
      rw[aaz (q:=[p.getD 0 0]) (fun k=>?_) x,aaY]
      cases k with
      | zero=>simp
      | succ k=>rw[aah p (k+1) (by omega)];simp
     rw[e] at h1
     match j with
     | 0=>exact h1
     | j+1=>rw[aah p (j+1) (by omega)];simp
 | n+1,p,xs,V,hp,hl,hn,hv,j=>by
   match xs,hl with
   | x :: xs,hl =>
     have hn':=List.nodup_cons.1 hn
     obtain ⟨hx,hxv⟩:=hv x (List.mem_cons_self ..)
     have ih:=fb X n (sd x p).1 xs (2*V) (by have:=apZ x p;omega) (by simpa using hl) hn'.2 (fun y hy=>by
      obtain ⟨h1,h2⟩:=hv y (List.mem_cons_of_mem _ hy)
      refine ⟨h1,?_⟩
      have hne:y-x≠0:=fun e=>hn'.1 (by rw[show x=y by omega];exact hy)
      have h3:=arZ x y p
      have h4:((y-x)*ev (sd x p).1 y).natAbs<=2*V:=by
       have:(y-x)*ev (sd x p).1 y=ev p y-ev p x:=by omega
       rw[this];omega
      rw[Int.natAbs_mul] at h4
      exact Nat.le_trans (Nat.le_mul_of_pos_left _ (Int.natAbs_pos.2 hne)) h4)
     obtain ⟨g0,g1⟩:=as4 x p
     have hm:∀ k,(x*(sd x p).1.getD k 0).natAbs<=X*fbb X (2*V) n:=fun k=>by rw[Int.natAbs_mul];exact Nat.mul_le_mul hx (ih k)
     show (p.getD j 0).natAbs<=(1+X)*fbb X (2*V) n+V
     rw[Nat.add_mul,Nat.one_mul]
     match j with
     | 0=>rw[g0];have:=hm 0;omega
     | j+1=>rw[g1];have:=hm (j+1);have:=ih j;omega
theorem ax7 {p:List Int} {M X n:Nat} (hp:aac p<=n+1) (hM:∀ j,(p.getD j 0).natAbs<=M) {x:Int} (hx:x.natAbs<=X) (hX:1<=X):(ev p x).natAbs<=(n+1)*(M*X^n):=by
 have e:ev p x=evn (fun i=>p.getD i 0) x (n+1):=by
  rw[<- acS p x,<- afh (aaf p) x (n:=n+1) (by rw[aae];exact hp)]
  exact abR x (fun i=>aam p i) _
 rw[e]
 suffices h:∀ k,k<=n+1->(evn (fun i=>p.getD i 0) x k).natAbs<=k*(M*X^n) from h _ (Nat.le_refl _)
 intro k
 induction k with
 | zero=>intro _;simp[evn]
 | succ k ih =>
   intro hk
   have h1:=ih (by omega)
   have h2:(p.getD k 0*x^k).natAbs<=M*X^n:=by
    rw[Int.natAbs_mul,Int.natAbs_pow]
    exact Nat.mul_le_mul (hM k) (Nat.le_trans (Nat.pow_le_pow_left hx k) (Nat.pow_le_pow_right hX (by omega)))
   have h3:evn (fun i=>p.getD i 0) x (k+1)=evn (fun i=>p.getD i 0) x k+p.getD k 0*x^k:=rfl
   rw[h3,Nat.succ_mul]
   have h4:=Int.natAbs_add_le (evn (fun i=>p.getD i 0) x k) (p.getD k 0*x^k)
   omega
def ints (n:Nat):List Int:=(List.range n).map (fun (i:Nat)=>(i:Int))
theorem aiq (n:Nat):(ints n).Nodup:=by
 unfold ints
 refine List.Pairwise.map _ (fun (a b:Nat) (h:a≠b)=>?_) (List.nodup_range (n:=n))
 omega
theorem alT (n:Nat):(ints n).length=n:=by simp[ints]
theorem air (b:Int->Bool):∀ l:List Int,(l.filter b).length+(l.filter (fun x=>!b x)).length=l.length
 | []=>rfl
 | a :: l=>by
   have:=air b l
   cases h:b a<;>simp[h]<;>omega
theorem ap0 {p q g:List Int} {n M:Nat} (hp:aac p<=n+1) (p0:aac p≠0) (hM:∀ j,(p.getD j 0).natAbs<=M) (h:∀ x,ev p x=ev g x*ev q x) (j:Nat) :
  (q.getD j 0).natAbs<=fbb (2*n+1) ((n+1)*(M*(2*n+1)^n)) n:=by
 have hq:aac q<=n+1:=Nat.le_trans (ad6 ⟨1,g,by decide,fun x=>by rw[Int.one_mul,h]⟩ p0) hp
 obtain ⟨R,hR⟩:∃ R,R=(ints (2*n+1)).filter (fun x=>decide (ev p x=0)):=⟨_,rfl⟩
 obtain ⟨G,hG⟩:∃ G,G=(ints (2*n+1)).filter (fun x=>!decide (ev p x=0)):=⟨_,rfl⟩
 have hRl:R.length<=n:=am3 n p R hp p0 (by rw[hR];exact (aiq _).filter _) (fun x hx=>by rw[hR] at hx;exact of_decide_eq_true (List.mem_filter.1 hx).2)
 have hsum:R.length+G.length=2*n+1:=by
  rw[hR,hG,air,alT]
 have hGn:G.Nodup:=by rw[hG];exact (aiq _).filter _
 refine fb (2*n+1) n q (G.take (n+1)) _ hq (by rw[List.length_take];omega) (hGn.sublist (List.take_sublist _ _)) (fun x hx=>?_) j
 have hxG:=List.mem_of_mem_take hx
 rw[hG] at hxG
 obtain ⟨hx1,hx2⟩:=List.mem_filter.1 hxG
 have hx0:ev p x≠0:=by simpa using hx2
 have hxa:x.natAbs<=2*n+1:=by
  unfold ints at hx1
  obtain ⟨i,hi,rfl⟩:=List.mem_map.1 hx1
  have:=List.mem_range.1 hi
  omega
 refine ⟨hxa,?_⟩
 have h1:=ax7 hp hM hxa (by omega)
 have h2:(ev q x).natAbs<=(ev p x).natAbs:=by
  rw[h x,Int.natAbs_mul]
  have hg:ev g x≠0:=fun e=>hx0 (by rw[h x,e,Int.zero_mul])
  exact Nat.le_mul_of_pos_left _ (Int.natAbs_pos.2 hg)
 omega
end Go.Proofs.YtdimmlckpgpgcaaGreat
namespace Go.Proofs.YtdimmlckpgpgcaaGreat
open Go.RowKit
set_option maxRecDepth 100000 in
set_option maxHeartbeats 1000000 in
theorem agC {I:aay} (hI:IK I) (A:Option Addr) (la ca:Nat) (g:List Int) (w:World) (h:aaw I w A la ca g) (hs:SmP g) (hm:la<=1000000) :
  Calls Tryz.prog 62 #[.slice A la ca] w fun e w'=>∃ A' l' c',e=.returned (.slice A' l' c')/\aaR w' A' l' c' (aei g)/\Below w.heap.size w w':=by
 have hld:SmI (aaj g):=hs.getD _
 have Hg:=Lh h
 clear h
 go_enter Tryz.func62,Tryz.ntmps62
 go_wp2_with fail
 refine (lead_any _ _ _ _ _ (Hg.out.at_ hI) hs (by omega)).mono ?_
 rintro e w1 ⟨n1,A1,l1,c1,rfl,hz1,hb1⟩
 have Hz:=Lh hz1
 replace Hg:=Lh (Hg.out.below hI hb1)
 have Hb:=Lh hb1
 clear hz1 hb1
 go_wp2_with fail
 refine (abC _ _ _ _ _ _ Hz.out.at_ hld).mono ?_
 rintro e w2 ⟨rfl,rfl⟩
 by_cases hn:aaj g<0
 ·have He:=Lh (show aei g=pmn (aaf g) by unfold aei;rw[if_pos hn])
  rw[ahc hn]
  clear hn hld
  go_wp2_with fail
  refine (ad2 hI _ _ _ g _ (Hg.out.below hI Bel.go) hs (by omega)).mono ?_
  rintro e w3 ⟨A3,l3,c3,rfl,h3,hb3⟩
  have H3:=Lh h3
  have Hb3:=Lh (Hb.out.trans ((Below.trans Bel.go (hb3.mono (by simp<;>omega))).mono Hb.out.size))
  clear h3 hb3
  go_wp2
  go_ret
  exact ⟨_,_,_,rfl,by rw[He.out];exact H3.out,Hb3.out⟩
 ·have He:=Lh (show aei g=aaf g by unfold aei;rw[if_neg hn])
  have hsn:¬ sg (aaj g)<0:=by
   rcases aar (aaj g) with ⟨h1,e⟩ | ⟨h1,e⟩ | ⟨h1,e⟩<;>omega
  obtain ⟨s,hs2⟩:∃ s,s=sg (aaj g):=⟨_,rfl⟩
  rw[<- hs2] at hsn ⊢
  clear hn hld hs2
  go_wp2_with fail
  refine (abm hI _ _ _ g _ (Hg.out.below hI Bel.go) hs (by omega)).mono ?_
  rintro e w3 ⟨r3,rfl,h3,_,hb3⟩
  have hp3:=h3.poly (cap:=aac g) (by rw[aae];exact Nat.le_refl _)
  rw[aae] at hp3
  have H3:=Lh hp3
  have Hb3:=Lh (Hb.out.trans ((Below.trans Bel.go (hb3.mono (by simp<;>omega))).mono Hb.out.size))
  clear h3 hb3 hp3
  go_wp2
  go_ret
  exact ⟨_,_,_,rfl,by rw[He.out];exact H3.out,Hb3.out⟩
set_option maxRecDepth 100000 in
set_option maxHeartbeats 1000000 in
theorem aog {I J:aay} (hI:IK I) (hJ:IK J) (A:Option Addr) (la ca:Nat) (f:List Int) (B:Option Addr) (lb cb:Nat) (g:List Int) (w:World) (hf:aaw I w A la ca f) (hg:aaw J w B lb cb g) (hsf:SmP f) (hsg:SmP g) (hla:la<=1000000) (hlb:lb<=1000000) (f0:aac f=0) :
  CallsIn Fence.wide 9 Tryz.prog 33 #[.slice A la ca,.slice B lb cb] w fun e w'=>∃ A1 l1 c1,e=.returned (.slice A1 l1 c1)/\aaR w' A1 l1 c1 (aei g)/\Below w.heap.size w w':=by
 refine callsIn_of_wp_marks Tryz.func33 rfl trivial ?_ rfl
 simp only[Tryz.ntmps33,List.size_toArray,List.length_cons,List.length_nil,Nat.reduceAdd,Nat.reduceSub,Array.replicate_succ,Array.replicate_zero,List.push_toArray,List.append_toArray,List.nil_append,List.cons_append]
 gi_wp2_with fail
 refine ⟨trivial,(callsIn_wide.2 (aaX _ _ _ _ _ (hf.at_ hI) hsf (by omega))).mono ?_⟩
 rintro e w1 ⟨rfl,hb1⟩
 rw[f0,show ((0:Nat):Int)-1=-1 by omega]
 have Hg:=Lh (hg.below hJ hb1)
 have Hb:=Lh hb1
 clear hf hg hb1
 gi_wp2_with fail
 refine ⟨trivial,(callsIn_wide.2 (agC hJ _ _ _ g _ Hg.out hsg (by omega))).mono ?_⟩
 rintro e w2 ⟨A2,l2,c2,rfl,h2,hb2⟩
 have H2:=Lh h2
 replace Hb:=Lh (Hb.out.trans (hb2.mono Hb.out.size))
 clear h2 hb2 Hg
 gi_wp2
 exact ⟨_,results_tmp rfl _ _ _,A2,l2,c2,rfl,H2.out,Hb.out⟩
set_option maxRecDepth 100000 in
set_option maxHeartbeats 1000000 in
theorem aoh {I J:aay} (hI:IK I) (hJ:IK J) (A:Option Addr) (la ca:Nat) (f:List Int) (B:Option Addr) (lb cb:Nat) (g:List Int) (w:World) (hf:aaw I w A la ca f) (hg:aaw J w B lb cb g) (hsf:SmP f) (hsg:SmP g) (hla:la<=1000000) (hlb:lb<=1000000) (f0:aac f≠0) (g0:aac g=0) :
  CallsIn Fence.wide 9 Tryz.prog 33 #[.slice A la ca,.slice B lb cb] w fun e w'=>∃ A1 l1 c1,e=.returned (.slice A1 l1 c1)/\aaR w' A1 l1 c1 (aei f)/\Below w.heap.size w w':=by
 obtain ⟨df,hdf⟩:∃ d,aac f=d+1:=⟨aac f-1,by omega⟩
 have Hdf:=Lh hdf
 refine callsIn_of_wp_marks Tryz.func33 rfl trivial ?_ rfl
 simp only[Tryz.ntmps33,List.size_toArray,List.length_cons,List.length_nil,Nat.reduceAdd,Nat.reduceSub,Array.replicate_succ,Array.replicate_zero,List.push_toArray,List.append_toArray,List.nil_append,List.cons_append]
 clear hdf f0
 gi_wp2_with fail
 refine ⟨trivial,(callsIn_wide.2 (aaX _ _ _ _ _ (hf.at_ hI) hsf (by omega))).mono ?_⟩
 rintro e w1 ⟨rfl,hb1⟩
 rw[Hdf.out,show ((df+1:Nat):Int)-1=(df:Int) by omega]
 have df0:decide ((df:Int)<0)=false:=decide_eq_false (by omega)
 have Hf:=Lh (hf.below hI hb1)
 have Hg:=Lh (hg.below hJ hb1)
 have Hb:=Lh hb1
 clear hf hg hb1
 gi_wp2_with fail
 refine ⟨trivial,(callsIn_wide.2 (aaX _ _ _ _ _ (Hg.out.at_ hJ) hsg (by omega))).mono ?_⟩
 rintro e w2 ⟨rfl,hb2⟩
 rw[g0,show ((0:Nat):Int)-1=-1 by omega]
 replace Hf:=Lh (Hf.out.below hI hb2)
 replace Hb:=Lh (Hb.out.trans (hb2.mono Hb.out.size))
 clear hb2 Hg df0
 gi_wp2_with fail
 refine ⟨trivial,(callsIn_wide.2 (agC hI _ _ _ f _ Hf.out hsf (by omega))).mono ?_⟩
 rintro e w3 ⟨A2,l2,c2,rfl,h2,hb3⟩
 have H2:=Lh h2
 replace Hb:=Lh (Hb.out.trans (hb3.mono Hb.out.size))
 clear h2 hb3 Hf
 gi_wp2
 exact ⟨_,results_tmp rfl _ _ _,A2,l2,c2,rfl,H2.out,Hb.out⟩
theorem ap1 {I J:aay} (hI:IK I) (hJ:IK J) (A:Option Addr) (la ca:Nat) (f:List Int) (B:Option Addr) (lb cb:Nat) (g:List Int) (w:World) (hf:aaw I w A la ca f) (hg:aaw J w B lb cb g) (hsf:SmP f) (hsg:SmP g) (hla:la<=1000000) (hlb:lb<=1000000) (hga:as3 f g) :
  Calls Tryz.prog 33 #[.slice A la ca,.slice B lb cb] w fun e w'=>∃ A1 l1 c1,e=.returned (.slice A1 l1 c1)/\aaR w' A1 l1 c1 (gres f g)/\Below w.heap.size w w':=by
 unfold gres
 split
 ·rename_i f0
  exact callsIn_wide.1 (aog hI hJ A la ca f B lb cb g w hf hg hsf hsg hla hlb f0)
 ·rename_i f0
  split
  ·rename_i g0
   exact callsIn_wide.1 (aoh hI hJ A la ca f B lb cb g w hf hg hsf hsg hla hlb f0 g0)
  ·rename_i g0
   obtain ⟨e,S,hc⟩:=(hga.resolve_left f0).resolve_left g0
   obtain ⟨_,h2,h3,_,h5,h6,h7⟩:=hc.all
   exact arL hI hJ A la ca f B lb cb g w hf hg hsf hsg hla hlb (by omega) (by omega) 20 h5 h6 h2 h3 h7
end Go.Proofs.YtdimmlckpgpgcaaGreat
