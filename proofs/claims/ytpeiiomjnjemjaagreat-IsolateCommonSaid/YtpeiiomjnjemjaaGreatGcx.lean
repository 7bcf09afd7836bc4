/- unidiv.positive; unidiv.Gcd of any two polynomials of small degree. -/
import Derived.Test.YtpeiiomjnjemjaaGreatGtl
import Derived.Test.YtpeiiomjnjemjaaGreatAwl
import Derived.Test.YtpeiiomjnjemjaaGreatSta
namespace Go.Proofs.YtpeiiomjnjemjaaGreat
theorem dvq_plen {f g:List Int} (h:Dvq f g) (hg:plen g≠0):plen f<=plen g:=by
 by_cases hf:plen f=0
 ·omega
 obtain ⟨c,q,hc,e⟩:=h
 have h1:∀ k,(psc c g).getD k 0=(polymul q f).getD k 0:=ev_inj fun x=>by rw[ev_psc,ev_mul,e]
 have h2:plen (psc c g)=plen (polymul q f):=by have:=congrArg List.length (ptrim_ext h1);rw[ptrim_length,ptrim_length] at this;exact this
 have h3:plen (psc c g)<=plen g:=plen_le_of fun k hk=>by rw[psc_get,getD_ge_plen g k hk,Int.mul_zero]
 have h4:plen g<=plen (psc c g):=plen_le_of fun k hk=>by
  have:=getD_ge_plen (psc c g) k hk
  rw[psc_get] at this
  exact (Int.mul_eq_zero.1 this).resolve_left hc
 have hq:1<=plen q:=Classical.byContradiction fun hn=>by
  have:plen (polymul q f)=0:=polymul_zero_l (by omega)
  omega
 have:=(plen_mul (f:=q) (g:=f) hq (by omega)).1
 omega
theorem pprim_abs (f:List Int) (j:Nat):((pprim f).getD j 0).natAbs<=(f.getD j 0).natAbs:=by
 by_cases h:plen f=0
 ·have:plen (pprim f)=0:=by rw[gp_plen,h]
  rw[getD_ge_plen (pprim f) j (by omega)];simp
 ·rw[gp_get h j,Int.natAbs_mul]
  exact Nat.le_mul_of_pos_left _ (Int.natAbs_pos.2 (gp_ne h))
theorem pconts_two (f g:List Int):pconts 0 [f,g]=Nat.gcd (pcont f) (pcont g):=by
 show Nat.gcd (Nat.gcd 0 (pcont f)) (pcont g)=_
 rw[Nat.gcd_zero_left]
theorem pcont_le {f:List Int} (h:plen f≠0) {X:Nat} (hX:∀ j,(f.getD j 0).natAbs<=X):pcont f<=X:=by
 have h1:=pcont_get f (plen f-1)
 have h2:(f.getD (plen f-1) 0)≠0:=plead_ne h
 exact Nat.le_trans (Nat.le_of_dvd (Int.natAbs_pos.2 h2) h1) (hX _)
structure GC (f g:List Int) (e S:Nat):Prop where
 f0:plen f≠0
 g0:plen g≠0
 sum:plen f+plen g<=34
 fe:e+1<=plen f
 ge:e+1<=plen g
 low:∀ p,Comb f g p->1<=plen p->e+1<=plen p
 sf:∀ j,((pprim f).getD j 0).natAbs<=S
 sg:∀ j,((pprim g).getD j 0).natAbs<=S
 s1:1<=S
 ok:∀ m n,n<=m->e<=n->m+1<=max (plen f) (plen g)->m+n=plen f+plen g-2->∃ N,GOK (S*32) m n e N
 k:pconts 0 [f,g]<=S*32
section
variable {f g:List Int} {e S:Nat}
def gval (f g:List Int):List Int:=pgcd 20 f g
theorem GC.pair (h:GC f g e S):∃ m n,(gpair f g).1.length=m+1/\(gpair f g).2.length=n+1/\n<=m/\e<=n/\m+1<=max (plen f) (plen g)/\m+n=plen f+plen g-2/\(∀ j,((gpair f g).1.getD j 0).natAbs<=S)/\(∀ j,((gpair f g).2.getD j 0).natAbs<=S)/\(∀ p,Comb (gpair f g).1 (gpair f g).2 p->Comb f g p):=by
 have hpl:∀ p:List Int,(pprim p).length=plen p:=fun p=>by
  have:=congrArg List.length (gp_trim p)
  rw[ptrim_length,gp_plen] at this
  exact this.symm
 have cf:Comb f g (pprim f):=(Comb.left f g).of_dvq ⟨Go.Proofs.YtpeiiomjnjemjaaGreat.sg (plead f)*(pcont f:Int),1,gp_ne h.f0,fun x=>by rw[Int.one_mul,<- ev_psc];exact ev_congr (fun k=>by rw[psc_get,<- gp_get h.f0]) x⟩
 have cg:Comb f g (pprim g):=(Comb.right f g).of_dvq ⟨Go.Proofs.YtpeiiomjnjemjaaGreat.sg (plead g)*(pcont g:Int),1,gp_ne h.g0,fun x=>by rw[Int.one_mul,<- ev_psc];exact ev_congr (fun k=>by rw[psc_get,<- gp_get h.g0]) x⟩
 have h1:=h.fe
 have h2:=h.ge
 have h5:=hpl f
 have h6:=hpl g
 unfold gpair
 split
 ·exact ⟨plen g-1,plen f-1,by dsimp only;omega,by dsimp only;omega,by omega,by omega,by omega,by omega,h.sg,h.sf,fun p c=>cg.trans cf c⟩
 ·exact ⟨plen f-1,plen g-1,by dsimp only;omega,by dsimp only;omega,by omega,by omega,by omega,by omega,h.sf,h.sg,fun p c=>cf.trans cg c⟩
theorem GC.all (h:GC f g e S):IsGcd f g (gval f g)/\rOK 20 ⟨ptrim (gpair f g).1,ptrim (gpair f g).2,-1,(-1)^(plen (gpair f g).1-plen (gpair f g).2+1)⟩ /\
  (∀ p∈rseq 20 (gpair f g).1 (gpair f g).2,SmP p/\p.length<=1000000/\SmP (pprim p)/\SmP (psc (pconts 0 [f,g]:Int) (pprim p))) /\
  (∀ j,((pprim (gval f g)).getD j 0).natAbs<=(S*32)^(max 1 (plen f+plen g-2*plen (gval f g))))/\FitP (pprim f)/\FitP (pprim g)/\Fit (pconts 0 [f,g]:Int):=by
 obtain ⟨m,n,ha,hb,hmn,hen,hme,hsum,sa,sb,hc⟩:=h.pair
 have hG1:1<=S*32:=by have:=h.s1;omega
 have hsm:=h.sum
 obtain ⟨N,ok⟩:=h.ok m n hmn hen hme hsum
 have hN:=ok.e0
 have hlow:∀ p,Comb (gpair f g).1 (gpair f g).2 p->1<=plen p->e+1<=plen p:=fun p c h1=>h.low p (hc p c) h1
 have mul32:∀ {z:Nat},z<=S->z*(m+n)<=S*32:=fun hz=>Nat.mul_le_mul hz (by omega)
 have hcases:(gpair f g=(pprim g,pprim f))∨(gpair f g=(pprim f,pprim g)):=by unfold gpair;split<;>simp
 have hpl:∀ p:List Int,plen (pprim p)=(pprim p).length:=fun p=>by
  have:=congrArg List.length (gp_trim p)
  rw[ptrim_length] at this
  exact this
 have ta:plen (gpair f g).1=(gpair f g).1.length:=by rcases hcases with e | e<;>rw[e]<;>exact hpl _
 have tb:plen (gpair f g).2=(gpair f g).2.length:=by rcases hcases with e | e<;>rw[e]<;>exact hpl _
 have e1:ptrim (gpair f g).1=(gpair f g).1:=by unfold ptrim;rw[ta,List.take_length]
 have e2:ptrim (gpair f g).2=(gpair f g).2:=by unfold ptrim;rw[tb,List.take_length]
 have a0:∀ j,((gpair f g).1.getD j 0).natAbs<=S*32:=fun j=>Nat.le_trans (sa j) (by omega)
 have b0:∀ j,((gpair f g).2.getD j 0).natAbs<=S*32:=fun j=>Nat.le_trans (sb j) (by omega)
 have hs:=sinv_start (e:=e) hen ha hb ta tb hmn ok.pos a0 b0
 have gis:IsGcd f g (gval f g):=pgcd_is hen hlow h.f0 h.g0 ha hb hmn ok a0 b0 (fun j=>mul32 (sa j)) (fun j=>mul32 (sb j)) (by omega)
 have hrok:rOK 20 ⟨(gpair f g).1,(gpair f g).2,-1,(-1)^((gpair f g).1.length-(gpair f g).2.length+1)⟩:=SInv.rok ok hlow (fun j=>mul32 (sa j)) (fun j=>mul32 (sb j)) 20 _ _ hs (by dsimp only;omega)
 have els:=SInv.els ok hlow (fun j=>mul32 (sa j)) (fun j=>mul32 (sb j)) 20 _ _ hs
 have eld:=SInv.els_deg ok hlow (fun j=>mul32 (sa j)) (fun j=>mul32 (sb j)) 20 _ _ hs
 have hseq:rseq 20 (gpair f g).1 (gpair f g).2=(gpair f g).1 :: (gpair f g).2 :: rsq 20 ⟨(gpair f g).1,(gpair f g).2,-1,(-1)^((gpair f g).1.length-(gpair f g).2.length+1)⟩:=by unfold rseq;rw[e1,e2,ta,tb]
 have hel:∀ p∈rseq 20 (gpair f g).1 (gpair f g).2,(∀ j,(p.getD j 0).natAbs<=(S*32)^(m+n+2))/\p.length<=1000000/\plen p=p.length/\1<=p.length/\∀ j,(p.getD j 0).natAbs<=(S*32)^(max 1 (m+n+2-2*p.length)):=fun p hp=>by
  have up:∀ {z i:Nat},1<=i->z<=S*32->z<=(S*32)^i:=fun hi hz=>Nat.le_trans hz (by calc S*32=(S*32)^1:=(Nat.pow_one _).symm
                                                   _<=_:=Nat.pow_le_pow_right hG1 hi)
  rw[hseq] at hp
  rcases List.mem_cons.1 hp with rfl | hp
  ·exact ⟨fun j=>up (by omega) (a0 j),by omega,ta,by omega,fun j=>up (Nat.le_max_left _ _) (a0 j)⟩
  ·rcases List.mem_cons.1 hp with rfl | hp
   ·exact ⟨fun j=>up (by omega) (b0 j),by omega,tb,by omega,fun j=>up (Nat.le_max_left _ _) (b0 j)⟩
   ·obtain ⟨h1,h2,h3,h4⟩:=els p hp
    exact ⟨h1,by omega,h3,h4,eld p hp⟩
 have smb:∀ {p:List Int},(∀ j,(p.getD j 0).natAbs<=(S*32)^(m+n+3))->SmP p:=fun {p} hp c hc=>by
  obtain ⟨j,hj⟩:=List.getElem?_of_mem hc
  have:=hp j
  rw[List.getD_eq_getElem?_getD,hj] at this
  exact ok.sm' this (by omega)
 have fitb:∀ {x:Int},x.natAbs<=S*32->Fit x:=fun {x} hx=>ok.lt (i:=1) (by rw[Nat.pow_one];exact hx) (by omega)
 refine ⟨gis,by rw[e1,e2,ta,tb];exact hrok,fun p hp=>?_,fun j=>?_,fun j=>fitb (Nat.le_trans (h.sf j) (by omega)),fun j=>fitb (Nat.le_trans (h.sg j) (by omega)),fitb (by rw[Int.natAbs_natCast];exact h.k)⟩
 ·obtain ⟨h1,h2,h3,h4,h5⟩:=hel p hp
  have up3:(S*32)^(m+n+2)<=(S*32)^(m+n+3):=Nat.pow_le_pow_right hG1 (by omega)
  refine ⟨smb fun j=>Nat.le_trans (h1 j) up3,h2,smb fun j=>Nat.le_trans (Nat.le_trans (pprim_abs p j) (h1 j)) up3,smb fun j=>?_⟩
  rw[psc_get,Int.natAbs_mul,Int.natAbs_natCast,Nat.pow_succ,Nat.mul_comm]
  exact Nat.mul_le_mul (Nat.le_trans (pprim_abs p j) (h1 j)) h.k
 ·obtain ⟨c,c1,_,_⟩:=gcl_spec hen hlow ha hb ta tb hmn ok a0 b0 (fun j=>mul32 (sa j)) (fun j=>mul32 (sb j)) (k:=20) (by omega)
  obtain ⟨L,hL⟩:∃ L,L=gcl 20 (gpair f g).1 (gpair f g).2:=⟨_,rfl⟩
  rw[<- hL] at c c1
  have hmem:L∈rseq 20 (gpair f g).1 (gpair f g).2:=by
   rw[hL]
   unfold gcl
   rcases lastOf_or (rseq 20 (gpair f g).1 (gpair f g).2) [] with h1 | ⟨h1,_⟩
   ·rw[h1,hseq]
    exact List.mem_cons_of_mem _ (lst_mem _ _)
   ·exact h1
  obtain ⟨_,_,l3,_,l5⟩:=hel L hmem
  have hL0:plen L≠0:=by omega
  have hP:gval f g=ptrim (psc (pconts 0 [f,g]:Int) (pprim L)):=by unfold gval pgcd;rw[hL]
  have hK0:0<(pconts 0 [f,g]:Int):=by
   rw[pconts_two]
   have:Nat.gcd (pcont f) (pcont g)≠0:=fun e=>pcont_ne h.f0 (Nat.eq_zero_of_gcd_eq_zero_left e)
   omega
  have hDg:∀ k,(gval f g).getD k 0=(pconts 0 [f,g]:Int)*(pprim L).getD k 0:=fun k=>by rw[hP,ptrim_getD,psc_get]
  have hpD:plen (gval f g)=plen L:=by
   have a1:plen (gval f g)<=plen (pprim L):=plen_le_of fun k hk=>by rw[hDg,getD_ge_plen _ k hk,Int.mul_zero]
   have a2:plen (pprim L)<=plen (gval f g):=plen_le_of fun k hk=>by
    have:=getD_ge_plen (gval f g) k hk
    rw[hDg] at this
    exact (Int.mul_eq_zero.1 this).resolve_left (by omega)
   rw[gp_plen] at a1 a2
   omega
  have hD0:plen (gval f g)≠0:=by omega
  have hsgn:Go.Proofs.YtpeiiomjnjemjaaGreat.sg (plead (gval f g))=1:=sg_pos gis.lead
  have hcD:(pcont (gval f g):Int)=(pconts 0 [f,g]:Int):=by rw[gis.cont,pconts_two]
  have heq:(pprim (gval f g)).getD j 0=(pprim L).getD j 0:=by
   have h1:=gp_get hD0 j
   rw[hsgn,Int.one_mul,hcD,hDg j] at h1
   exact (Int.eq_of_mul_eq_mul_left (by omega) h1).symm
  rw[heq,hpD,l3]
  refine Nat.le_trans (Nat.le_trans (pprim_abs L j) (l5 j)) (Nat.pow_le_pow_right hG1 ?_)
  omega
end
end Go.Proofs.YtpeiiomjnjemjaaGreat
namespace Go.Proofs.YtpeiiomjnjemjaaGreat
def GAny (f g:List Int):Prop:=plen f=0∨plen g=0∨∃ e S,GC f g e S
def gres (f g:List Int):List Int:=if plen f=0 then ppos g else if plen g=0 then ppos f else gval f g
theorem ppos_nil {g:List Int} (h:plen g=0):ppos g=[]:=by
 unfold ppos
 rw[if_neg (by rw[plead_zero.2 h];omega)]
 exact List.eq_nil_of_length_eq_zero (by rw[ptrim_length,h])
theorem gres_is {f g:List Int} (h:GAny f g):IsG f g (gres f g):=by
 unfold gres
 split
 ·rename_i hf
  by_cases hg:plen g=0
  ·exact .inl ⟨hf,hg,ppos_nil hg⟩
  ·exact .inr ⟨fun e=>hg e.2,isgcd_zero hf hg⟩
 ·rename_i hf
  split
  ·rename_i hg
   exact .inr ⟨fun e=>hf e.1,(isgcd_zero hg hf).symm⟩
  ·rename_i hg
   obtain ⟨e,S,hc⟩:=(h.resolve_left hf).resolve_left hg
   exact .inr ⟨fun e=>hf e.1,hc.all.1⟩
theorem IsGcd.congr {f f' g g' D:List Int} (hf:∀ k,f.getD k 0=f'.getD k 0) (hg:∀ k,g.getD k 0=g'.getD k 0) (h:IsGcd f g D):IsGcd f' g' D:=by
 have ef:∀ x,ev f x=ev f' x:=ev_congr hf
 have eg:∀ x,ev g x=ev g' x:=ev_congr hg
 refine ⟨h.trim,h.lead,by rw[h.cont,pcont_ext (p:=f) (q:=f') (fun k=>by rw[hf k]),pcont_ext (p:=g) (q:=g') (fun k=>by rw[hg k])],?_,?_,?_⟩
 ·obtain ⟨c,q,h1,h2⟩:=h.l
  exact ⟨c,q,h1,fun x=>by rw[<- ef];exact h2 x⟩
 ·obtain ⟨c,q,h1,h2⟩:=h.r
  exact ⟨c,q,h1,fun x=>by rw[<- eg];exact h2 x⟩
 ·obtain ⟨c,u,v,h1,h2⟩:=h.c
  exact ⟨c,u,v,h1,fun x=>by rw[<- ef,<- eg];exact h2 x⟩
def Few5 (f:List Int):Prop:=plen f<=5/\∀ j,(f.getD j 0).natAbs<=4294967296
structure DS (d:List Int):Prop where
 t:ptrim d=d
 l:plen d<=5
 p:∀ j,((pprim d).getD j 0).natAbs<=(4294967296*32)^(max 1 (10-2*plen d))
 c:pcont d<=4294967296
theorem DS.b {d:List Int} (h:DS d) (j:Nat):(d.getD j 0).natAbs<=4294967296*(4294967296*32)^8:=by
 by_cases h0:plen d=0
 ·rw[getD_ge_plen d j (by omega)];simp
 ·rw[gp_get h0,Int.natAbs_mul,Int.natAbs_mul,Int.natAbs_natCast]
  refine Nat.mul_le_mul ?_ (Nat.le_trans (h.p j) (Nat.pow_le_pow_right (by decide) (by omega)))
  have h1:(sg (plead d)).natAbs<=1:=by rcases sg_cases (plead d) with ⟨_,e⟩ | ⟨_,e⟩ | ⟨_,e⟩<;>rw[e]<;>decide
  exact Nat.le_trans (Nat.mul_le_mul h1 h.c) (by omega)
theorem DS.fit {d:List Int} (h:DS d):FitP d:=fun j=>Nat.lt_of_le_of_lt (h.b j) (by rw[BB_eq];first | decide +kernel | (rw[FW_eq];decide +kernel))
theorem Few5.fit {f:List Int} (h:Few5 f):FitP f:=fun j=>Nat.lt_of_le_of_lt (h.2 j) (by rw[BB_eq];first | decide +kernel | (rw[FW_eq];decide +kernel))
theorem Few5.cont {f:List Int} (h:Few5 f) (h0:plen f≠0):pcont f<=4294967296:=pcont_le h0 h.2
theorem gcd_le_r {a b X:Nat} (hb:b≠0) (h:b<=X):Nat.gcd a b<=X:=Nat.le_trans (Nat.gcd_le_right a (by omega)) h
theorem GC.symm {f g:List Int} {e S:Nat} (h:GC f g e S):GC g f e S:=by
 refine ⟨h.g0,h.f0,by have:=h.sum;omega,h.ge,h.fe,fun p ⟨c,u,v,h1,h2⟩ hp=>h.low p ⟨c,v,u,h1,fun x=>by rw[h2,Int.add_comm]⟩ hp,h.sg,h.sf,h.s1,?_,?_⟩
 ·intro m n h1 h2 h3 h4
  exact h.ok m n h1 h2 (by rw[Nat.max_comm];exact h3) (by omega)
 ·have:=h.k
  rw[pconts_two] at this ⊢
  rw[Nat.gcd_comm];exact this
theorem GAny.symm {f g:List Int} (h:GAny f g):GAny g f:=by
 rcases h with h | h | ⟨e,S,h⟩
 ·exact .inr (.inl h)
 ·exact .inl h
 ·exact .inr (.inr ⟨e,S,h.symm⟩)
theorem Few5.trim {f:List Int} (h:Few5 f):Few5 (ptrim f):=⟨by rw[plen_ptrim];exact h.1,fun j=>by rw[ptrim_getD];exact h.2 j⟩
theorem gauss_div {l f r:List Int} {c:Int} (hl:pcont l=1) (hc:c≠0) (h:∀ x,c*ev f x=ev l x*ev r x):∃ s:List Int,∀ x,ev f x=ev l x*ev s x:=by
 have h1:∀ k,(psc c f).getD k 0=(polymul l r).getD k 0:=ev_inj fun x=>by rw[ev_psc,ev_mul,h]
 have h2:c.natAbs*pcont f=pcont r:=by rw[<- pcont_psc,pcont_ext (p:=psc c f) (q:=polymul l r) (fun k=>by rw[h1 k]),pcont_mul,hl,Nat.one_mul]
 have h3:∀ k,c∣r.getD k 0:=fun k=>by
  rw[<- Int.natAbs_dvd_natAbs]
  exact Nat.dvd_trans ⟨pcont f,h2.symm⟩ (pcont_get r k)
 refine ⟨r.map (·.tdiv c),fun x=>?_⟩
 have h4:∀ k,r.getD k 0=c*(r.map (·.tdiv c)).getD k 0:=fun k=>by
  rw[map_tdiv_getD,Int.mul_tdiv_cancel' (h3 k)]
 have h5:ev r x=c*ev (r.map (·.tdiv c)) x:=by rw[<- ev_psc];exact ev_congr (fun k=>by rw[psc_get];exact h4 k) x
 refine Int.eq_of_mul_eq_mul_left hc ?_
 rw[h x,h5]
 grind
theorem ev_inj2 {p a b:List Int} (h:∀ x,ev p x=ev a x*ev b x) (k:Nat):p.getD k 0=pc b a k:=by
 rw[<- polymul_getD]
 exact ev_inj (fun x=>by rw[ev_mul,h,Int.mul_comm]) k
end Go.Proofs.YtpeiiomjnjemjaaGreat
namespace Go.Proofs.YtpeiiomjnjemjaaGreat
theorem ev_cons (a:Int) (t:List Int) (x:Int):ev (a :: t) x=a+x*ev t x:=by
 unfold ev
 have h:∀ (F:Nat->Int) n,evn F x (n+1)=F 0+x*evn (fun i=>F (i+1)) x n:=by
  intro F n
  induction n with
  | zero=>simp[evn]
  | succ n ih=>rw[evn,ih,evn,Int.pow_succ];grind
 rw[List.length_cons,h]
 rfl
def sd (c:Int):List Int->List Int×Int
 | []=>([],0)
 | a :: t=>((sd c t).2 :: (sd c t).1,a+c*(sd c t).2)
theorem sd_val (c:Int):∀ p,(sd c p).2=ev p c
 | []=>by rw[ev_nil];rfl
 | a :: t=>by rw[ev_cons,<- sd_val c t];rfl
theorem sd_ev (c x:Int):∀ p,ev p x=(x-c)*ev (sd c p).1 x+ev p c
 | []=>by rw[ev_nil,ev_nil];show (0:Int)=(x-c)*ev [] x+0;rw[ev_nil];omega
 | a :: t=>by
   have h:=sd_ev c x t
   show ev (a :: t) x=(x-c)*ev ((sd c t).2 :: (sd c t).1) x+ev (a :: t) c
   rw[ev_cons,ev_cons,ev_cons,sd_val,h]
   grind
theorem sd_zero (c:Int):∀ (p:List Int) (n:Nat),(∀ j,n<=j->p.getD j 0=0)->∀ j,n<=j+1->(sd c p).1.getD j 0=0
 | [],_,_,j,_=>by show ([]:List Int).getD j 0=0;simp
 | a :: t,n,h,j,hj=>by
   have ht:∀ j,n-1<=j->t.getD j 0=0:=fun j hj=>by have:=h (j+1) (by omega);simpa using this
   show ((sd c t).2 :: (sd c t).1).getD j 0=0
   match j with
   | 0 =>
     show (sd c t).2=0
     rw[sd_val,ev_congr (q:=[]) (fun k=>by rw[ht k (by omega)];simp) c,ev_nil]
   | j+1 =>
     have:=sd_zero c t (n-1) ht j (by omega)
     simpa using this
theorem sd_plen (c:Int) (p:List Int):plen (sd c p).1<=plen p-1:=plen_le_of fun k hk=>sd_zero c p (plen p) (fun j hj=>getD_ge_plen p j hj) k (by omega)
theorem sd_get (c:Int):∀ (p:List Int),p.getD 0 0=ev p c-c*(sd c p).1.getD 0 0/\∀ j,p.getD (j+1) 0=(sd c p).1.getD j 0-c*(sd c p).1.getD (j+1) 0
 | []=>by
   refine ⟨?_,fun j=>?_⟩
   ·rw[ev_nil];show (0:Int)=0-c*0;omega
   ·show ([]:List Int).getD (j+1) 0=([]:List Int).getD j 0-c*([]:List Int).getD (j+1) 0
    simp
 | a :: t=>by
   obtain ⟨h1,h2⟩:=sd_get c t
   refine ⟨?_,fun j=>?_⟩
   ·show a=ev (a :: t) c-c*(sd c t).2
    rw[ev_cons,sd_val];omega
   ·show t.getD j 0=((sd c t).2 :: (sd c t).1).getD j 0-c*(sd c t).1.getD j 0
    match j with
    | 0=>show t.getD 0 0=(sd c t).2-c*(sd c t).1.getD 0 0;rw[sd_val];exact h1
    | j+1=>exact h2 j
theorem roots_le:∀ (n:Nat) (p:List Int) (xs:List Int),plen p<=n+1->plen p≠0->xs.Nodup->(∀ x∈xs,ev p x=0)->xs.length<=n
 | _,_,[],_,_,_,_=>Nat.zero_le _
 | 0,p,x :: xs,hp,h0,_,hz=>by
   have h1:=hz x (List.mem_cons_self ..)
   have h2:p.getD 0 0≠0:=plen_lead p 0 (by omega)
   have e:ev p x=p.getD 0 0:=by
    rw[ev_congr (q:=[p.getD 0 0]) (fun k=>?_) x,ev_const]
    cases k with
    | zero=>simp
    | succ k=>rw[getD_ge_plen p (k+1) (by omega)];simp
   exact absurd (e ▸ h1) h2
 | n+1,p,x :: xs,hp,h0,hn,hz=>by
   have h1:=hz x (List.mem_cons_self ..)
   have hn':=List.nodup_cons.1 hn
   have hr:=sd_plen x p
   have hpr:∀ y,ev p y=(y-x)*ev (sd x p).1 y:=fun y=>by rw[sd_ev x y p,h1,Int.add_zero]
   have hr0:plen (sd x p).1≠0:=fun e=>by
    have:plen p<=0:=plen_le_of fun k _=>by
     have:=ev_inj (p:=p) (q:=[]) (fun y=>by rw[hpr,ev_congr (q:=[]) (fun k=>by rw[getD_ge_plen _ k (by omega)];simp) y,ev_nil,Int.mul_zero]) k
     rw[this];simp
    omega
   have:=roots_le n (sd x p).1 xs (by omega) hr0 hn'.2 (fun y hy=>by
    have h2:=hz y (List.mem_cons_of_mem _ hy)
    rw[hpr] at h2
    refine (Int.mul_eq_zero.1 h2).resolve_left fun e=>hn'.1 ?_
    rw[show x=y by omega];exact hy)
   simp only[List.length_cons]
   omega
def fbb (X:Nat):Nat->Nat->Nat
 | V,0=>V
 | V,n+1=>(1+X)*fbb X (2*V) n+V
theorem fb (X:Nat):∀ (n:Nat) (p:List Int) (xs:List Int) (V:Nat),plen p<=n+1->xs.length=n+1->xs.Nodup->(∀ x∈xs,x.natAbs<=X/\(ev p x).natAbs<=V)->∀ j,(p.getD j 0).natAbs<=fbb X V n
 | 0,p,xs,V,hp,hl,_,hv,j=>by
   match xs,hl with
   | [x],_ =>
     have h1:=(hv x (List.mem_cons_self ..)).2
     have e:ev p x=p.getD 0 0:=by
      rw[ev_congr (q:=[p.getD 0 0]) (fun k=>?_) x,ev_const]
      cases k with
      | zero=>simp
      | succ k=>rw[getD_ge_plen p (k+1) (by omega)];simp
     rw[e] at h1
     match j with
     | 0=>exact h1
     | j+1=>rw[getD_ge_plen p (j+1) (by omega)];simp
 | n+1,p,xs,V,hp,hl,hn,hv,j=>by
   match xs,hl with
   | x :: xs,hl =>
     have hn':=List.nodup_cons.1 hn
     obtain ⟨hx,hxv⟩:=hv x (List.mem_cons_self ..)
     have ih:=fb X n (sd x p).1 xs (2*V) (by have:=sd_plen x p;omega) (by simpa using hl) hn'.2 (fun y hy=>by
      obtain ⟨h1,h2⟩:=hv y (List.mem_cons_of_mem _ hy)
      refine ⟨h1,?_⟩
      have hne:y-x≠0:=fun e=>hn'.1 (by rw[show x=y by omega];exact hy)
      have h3:=sd_ev x y p
      have h4:((y-x)*ev (sd x p).1 y).natAbs<=2*V:=by
       have:(y-x)*ev (sd x p).1 y=ev p y-ev p x:=by omega
       rw[this];omega
      rw[Int.natAbs_mul] at h4
      exact Nat.le_trans (Nat.le_mul_of_pos_left _ (Int.natAbs_pos.2 hne)) h4)
     obtain ⟨g0,g1⟩:=sd_get x p
     have hm:∀ k,(x*(sd x p).1.getD k 0).natAbs<=X*fbb X (2*V) n:=fun k=>by rw[Int.natAbs_mul];exact Nat.mul_le_mul hx (ih k)
     show (p.getD j 0).natAbs<=(1+X)*fbb X (2*V) n+V
     rw[Nat.add_mul,Nat.one_mul]
     match j with
     | 0=>rw[g0];have:=hm 0;omega
     | j+1=>rw[g1];have:=hm (j+1);have:=ih j;omega
theorem ev_bd {p:List Int} {M X n:Nat} (hp:plen p<=n+1) (hM:∀ j,(p.getD j 0).natAbs<=M) {x:Int} (hx:x.natAbs<=X) (hX:1<=X):(ev p x).natAbs<=(n+1)*(M*X^n):=by
 have e:ev p x=evn (fun i=>p.getD i 0) x (n+1):=by
  rw[<- ev_trim p x,<- ev_ge (ptrim p) x (n:=n+1) (by rw[ptrim_length];exact hp)]
  exact evn_congr x (fun i=>ptrim_getD p i) _
 rw[e]
 suffices h:∀ k,k<=n+1->(evn (fun i=>p.getD i 0) x k).natAbs<=k*(M*X^n) from h _ (Nat.le_refl _)
 intro k
 induction k with
 | zero=>intro _;simp[evn]
 | succ k ih =>
   intro hk
   have h1:=ih (by omega)
   have h2:(p.getD k 0*x^k).natAbs<=M*X^n:=by
    rw[Int.natAbs_mul,Int.natAbs_pow]
    exact Nat.mul_le_mul (hM k) (Nat.le_trans (Nat.pow_le_pow_left hx k) (Nat.pow_le_pow_right hX (by omega)))
   have h3:evn (fun i=>p.getD i 0) x (k+1)=evn (fun i=>p.getD i 0) x k+p.getD k 0*x^k:=rfl
   rw[h3,Nat.succ_mul]
   have h4:=Int.natAbs_add_le (evn (fun i=>p.getD i 0) x k) (p.getD k 0*x^k)
   omega
def ints (n:Nat):List Int:=(List.range n).map (fun (i:Nat)=>(i:Int))
theorem ints_nodup (n:Nat):(ints n).Nodup:=by
 unfold ints
 refine List.Pairwise.map _ (fun (a b:Nat) (h:a≠b)=>?_) (List.nodup_range (n:=n))
 omega
theorem ints_length (n:Nat):(ints n).length=n:=by simp[ints]
theorem filter_two (b:Int->Bool):∀ l:List Int,(l.filter b).length+(l.filter (fun x=>!b x)).length=l.length
 | []=>rfl
 | a :: l=>by
   have:=filter_two b l
   cases h:b a<;>simp[h]<;>omega
theorem factor_bd {p q g:List Int} {n M:Nat} (hp:plen p<=n+1) (p0:plen p≠0) (hM:∀ j,(p.getD j 0).natAbs<=M) (h:∀ x,ev p x=ev g x*ev q x) (j:Nat) :
  (q.getD j 0).natAbs<=fbb (2*n+1) ((n+1)*(M*(2*n+1)^n)) n:=by
 have hq:plen q<=n+1:=Nat.le_trans (dvq_plen ⟨1,g,by decide,fun x=>by rw[Int.one_mul,h]⟩ p0) hp
 obtain ⟨R,hR⟩:∃ R,R=(ints (2*n+1)).filter (fun x=>decide (ev p x=0)):=⟨_,rfl⟩
 obtain ⟨G,hG⟩:∃ G,G=(ints (2*n+1)).filter (fun x=>!decide (ev p x=0)):=⟨_,rfl⟩
 have hRl:R.length<=n:=roots_le n p R hp p0 (by rw[hR];exact (ints_nodup _).filter _) (fun x hx=>by rw[hR] at hx;exact of_decide_eq_true (List.mem_filter.1 hx).2)
 have hsum:R.length+G.length=2*n+1:=by
  rw[hR,hG,filter_two,ints_length]
 have hGn:G.Nodup:=by rw[hG];exact (ints_nodup _).filter _
 refine fb (2*n+1) n q (G.take (n+1)) _ hq (by rw[List.length_take];omega) (hGn.sublist (List.take_sublist _ _)) (fun x hx=>?_) j
 have hxG:=List.mem_of_mem_take hx
 rw[hG] at hxG
 obtain ⟨hx1,hx2⟩:=List.mem_filter.1 hxG
 have hx0:ev p x≠0:=by simpa using hx2
 have hxa:x.natAbs<=2*n+1:=by
  unfold ints at hx1
  obtain ⟨i,hi,rfl⟩:=List.mem_map.1 hx1
  have:=List.mem_range.1 hi
  omega
 refine ⟨hxa,?_⟩
 have h1:=ev_bd hp hM hxa (by omega)
 have h2:(ev q x).natAbs<=(ev p x).natAbs:=by
  rw[h x,Int.natAbs_mul]
  have hg:ev g x≠0:=fun e=>hx0 (by rw[h x,e,Int.zero_mul])
  exact Nat.le_mul_of_pos_left _ (Int.natAbs_pos.2 hg)
 omega
end Go.Proofs.YtpeiiomjnjemjaaGreat
namespace Go.Proofs.YtpeiiomjnjemjaaGreat
open Go.RowKit
set_option maxRecDepth 100000 in
set_option maxHeartbeats 1000000 in
theorem positive_any {I:IntPred} (hI:IK I) (A:Option Addr) (la ca:Nat) (g:List Int) (w:World) (h:PolyP I w A la ca g) (hs:SmP g) (hm:la<=1000000) :
  Calls Tryz.prog 69 #[.slice A la ca] w fun e w'=>∃ A' l' c',e=.returned (.slice A' l' c')/\PolyN w' A' l' c' (ppos g)/\Below w.heap.size w w':=by
 have hld:SmI (plead g):=hs.getD _
 have Hg:=Lh h
 clear h
 go_enter Tryz.func69,Tryz.ntmps69
 go_wp2_with fail
 refine (lead_any _ _ _ _ _ (Hg.out.at_ hI) hs (by omega)).mono ?_
 rintro e w1 ⟨n1,A1,l1,c1,rfl,hz1,hb1⟩
 have Hz:=Lh hz1
 replace Hg:=Lh (Hg.out.below hI hb1)
 have Hb:=Lh hb1
 clear hz1 hb1
 go_wp2_with fail
 refine (isign_any _ _ _ _ _ _ Hz.out.at_ hld).mono ?_
 rintro e w2 ⟨rfl,rfl⟩
 by_cases hn:plead g<0
 ·have He:=Lh (show ppos g=pmn (ptrim g) by unfold ppos;rw[if_pos hn])
  rw[sg_neg hn]
  clear hn hld
  go_wp2_with fail
  refine (polyneg_any hI _ _ _ g _ (Hg.out.below hI Bel.go) hs (by omega)).mono ?_
  rintro e w3 ⟨A3,l3,c3,rfl,h3,hb3⟩
  have H3:=Lh h3
  have Hb3:=Lh (Hb.out.trans ((Below.trans Bel.go (hb3.mono (by simp<;>omega))).mono Hb.out.size))
  clear h3 hb3
  go_wp2
  go_ret
  exact ⟨_,_,_,rfl,by rw[He.out];exact H3.out,Hb3.out⟩
 ·have He:=Lh (show ppos g=ptrim g by unfold ppos;rw[if_neg hn])
  have hsn:¬ sg (plead g)<0:=by
   rcases sg_cases (plead g) with ⟨h1,e⟩ | ⟨h1,e⟩ | ⟨h1,e⟩<;>omega
  obtain ⟨s,hs2⟩:∃ s,s=sg (plead g):=⟨_,rfl⟩
  rw[<- hs2] at hsn ⊢
  clear hn hld hs2
  go_wp2_with fail
  refine (pnormal_any hI _ _ _ g _ (Hg.out.below hI Bel.go) hs (by omega)).mono ?_
  rintro e w3 ⟨r3,rfl,h3,_,hb3⟩
  have hp3:=h3.poly (cap:=plen g) (by rw[ptrim_length];exact Nat.le_refl _)
  rw[ptrim_length] at hp3
  have H3:=Lh hp3
  have Hb3:=Lh (Hb.out.trans ((Below.trans Bel.go (hb3.mono (by simp<;>omega))).mono Hb.out.size))
  clear h3 hb3 hp3
  go_wp2
  go_ret
  exact ⟨_,_,_,rfl,by rw[He.out];exact H3.out,Hb3.out⟩
set_option maxRecDepth 100000 in
set_option maxHeartbeats 1000000 in
theorem gcd_zero_l {I J:IntPred} (hI:IK I) (hJ:IK J) (A:Option Addr) (la ca:Nat) (f:List Int) (B:Option Addr) (lb cb:Nat) (g:List Int) (w:World) (hf:PolyP I w A la ca f) (hg:PolyP J w B lb cb g) (hsf:SmP f) (hsg:SmP g) (hla:la<=1000000) (hlb:lb<=1000000) (f0:plen f=0) :
  CallsIn Fence.wide 9 Tryz.prog 39 #[.slice A la ca,.slice B lb cb] w fun e w'=>∃ A1 l1 c1,e=.returned (.slice A1 l1 c1)/\PolyN w' A1 l1 c1 (ppos g)/\Below w.heap.size w w':=by
 refine callsIn_of_wp_marks Tryz.func39 rfl trivial ?_ rfl
 simp only[Tryz.ntmps39,List.size_toArray,List.length_cons,List.length_nil,Nat.reduceAdd,Nat.reduceSub,Array.replicate_succ,Array.replicate_zero,List.push_toArray,List.append_toArray,List.nil_append,List.cons_append]
 gi_wp2_with fail
 refine ⟨trivial,(callsIn_wide.2 (degree_any _ _ _ _ _ (hf.at_ hI) hsf (by omega))).mono ?_⟩
 rintro e w1 ⟨rfl,hb1⟩
 rw[f0,show ((0:Nat):Int)-1=-1 by omega]
 have Hg:=Lh (hg.below hJ hb1)
 have Hb:=Lh hb1
 clear hf hg hb1
 gi_wp2_with fail
 refine ⟨trivial,(callsIn_wide.2 (positive_any hJ _ _ _ g _ Hg.out hsg (by omega))).mono ?_⟩
 rintro e w2 ⟨A2,l2,c2,rfl,h2,hb2⟩
 have H2:=Lh h2
 replace Hb:=Lh (Hb.out.trans (hb2.mono Hb.out.size))
 clear h2 hb2 Hg
 gi_wp2
 exact ⟨_,results_tmp rfl _ _ _,A2,l2,c2,rfl,H2.out,Hb.out⟩
set_option maxRecDepth 100000 in
set_option maxHeartbeats 1000000 in
theorem gcd_zero_r {I J:IntPred} (hI:IK I) (hJ:IK J) (A:Option Addr) (la ca:Nat) (f:List Int) (B:Option Addr) (lb cb:Nat) (g:List Int) (w:World) (hf:PolyP I w A la ca f) (hg:PolyP J w B lb cb g) (hsf:SmP f) (hsg:SmP g) (hla:la<=1000000) (hlb:lb<=1000000) (f0:plen f≠0) (g0:plen g=0) :
  CallsIn Fence.wide 9 Tryz.prog 39 #[.slice A la ca,.slice B lb cb] w fun e w'=>∃ A1 l1 c1,e=.returned (.slice A1 l1 c1)/\PolyN w' A1 l1 c1 (ppos f)/\Below w.heap.size w w':=by
 obtain ⟨df,hdf⟩:∃ d,plen f=d+1:=⟨plen f-1,by omega⟩
 have Hdf:=Lh hdf
 refine callsIn_of_wp_marks Tryz.func39 rfl trivial ?_ rfl
 simp only[Tryz.ntmps39,List.size_toArray,List.length_cons,List.length_nil,Nat.reduceAdd,Nat.reduceSub,Array.replicate_succ,Array.replicate_zero,List.push_toArray,List.append_toArray,List.nil_append,List.cons_append]
 clear hdf f0
 gi_wp2_with fail
 refine ⟨trivial,(callsIn_wide.2 (degree_any _ _ _ _ _ (hf.at_ hI) hsf (by omega))).mono ?_⟩
 rintro e w1 ⟨rfl,hb1⟩
 rw[Hdf.out,show ((df+1:Nat):Int)-1=(df:Int) by omega]
 have df0:decide ((df:Int)<0)=false:=decide_eq_false (by omega)
 have Hf:=Lh (hf.below hI hb1)
 have Hg:=Lh (hg.below hJ hb1)
 have Hb:=Lh hb1
 clear hf hg hb1
 gi_wp2_with fail
 refine ⟨trivial,(callsIn_wide.2 (degree_any _ _ _ _ _ (Hg.out.at_ hJ) hsg (by omega))).mono ?_⟩
 rintro e w2 ⟨rfl,hb2⟩
 rw[g0,show ((0:Nat):Int)-1=-1 by omega]
 replace Hf:=Lh (Hf.out.below hI hb2)
 replace Hb:=Lh (Hb.out.trans (hb2.mono Hb.out.size))
 clear hb2 Hg df0
 gi_wp2_with fail
 refine ⟨trivial,(callsIn_wide.2 (positive_any hI _ _ _ f _ Hf.out hsf (by omega))).mono ?_⟩
 rintro e w3 ⟨A2,l2,c2,rfl,h2,hb3⟩
 have H2:=Lh h2
 replace Hb:=Lh (Hb.out.trans (hb3.mono Hb.out.size))
 clear h2 hb3 Hf
 gi_wp2
 exact ⟨_,results_tmp rfl _ _ _,A2,l2,c2,rfl,H2.out,Hb.out⟩
theorem gcd_any {I J:IntPred} (hI:IK I) (hJ:IK J) (A:Option Addr) (la ca:Nat) (f:List Int) (B:Option Addr) (lb cb:Nat) (g:List Int) (w:World) (hf:PolyP I w A la ca f) (hg:PolyP J w B lb cb g) (hsf:SmP f) (hsg:SmP g) (hla:la<=1000000) (hlb:lb<=1000000) (hga:GAny f g) :
  Calls Tryz.prog 39 #[.slice A la ca,.slice B lb cb] w fun e w'=>∃ A1 l1 c1,e=.returned (.slice A1 l1 c1)/\PolyN w' A1 l1 c1 (gres f g)/\Below w.heap.size w w':=by
 unfold gres
 split
 ·rename_i f0
  exact callsIn_wide.1 (gcd_zero_l hI hJ A la ca f B lb cb g w hf hg hsf hsg hla hlb f0)
 ·rename_i f0
  split
  ·rename_i g0
   exact callsIn_wide.1 (gcd_zero_r hI hJ A la ca f B lb cb g w hf hg hsf hsg hla hlb f0 g0)
  ·rename_i g0
   obtain ⟨e,S,hc⟩:=(hga.resolve_left f0).resolve_left g0
   obtain ⟨_,h2,h3,_,h5,h6,h7⟩:=hc.all
   exact gcd_poly hI hJ A la ca f B lb cb g w hf hg hsf hsg hla hlb (by omega) (by omega) 20 h5 h6 h2 h3 h7
end Go.Proofs.YtpeiiomjnjemjaaGreat
