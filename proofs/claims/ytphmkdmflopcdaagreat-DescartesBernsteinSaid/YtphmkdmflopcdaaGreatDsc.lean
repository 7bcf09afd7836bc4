/- Descartes' rule of signs for the positive roots, counted with multiplicity. Plain: no program. -/
import Derived.Test.YtphmkdmflopcdaaGreatRpg
namespace Go.Proofs.YtphmkdmflopcdaaGreat
open Go.RowKit
theorem sg0:sg 0=0:=by decide
theorem chg_none:∀ (S:List Int) (l:Int),(∀ k,S.getD k 0=0)->chg l S=0
 | [],_,_=>rfl
 | s :: S,l,h=>by
   have h0:s=0:=h 0
   rw[h0,chg_zero]
   exact chg_none S l fun k=>h (k+1)
theorem chg_get:∀ (S T:List Int) (l:Int),(∀ k,S.getD k 0=T.getD k 0)->chg l S=chg l T
 | [],T,l,h=>(chg_none T l fun k=>(h k).symm).symm
 | s :: S,[],l,h=>chg_none (s :: S) l h
 | s :: S,t :: T,l,h=>by
   have h0:s=t:=h 0
   subst h0
   simp only[chg,chg_get S T _ (fun k=>h (k+1))]
theorem chg_nn:∀ (S:List Int) (l:Int),0<=chg l S
 | [],_=>Int.le_refl _
 | s :: S,l=>by
   unfold chg
   split
   ·exact chg_nn S l
   ·have:=chg_nn S s
    split<;>omega
theorem chg_more:∀ (S:List Int) (l:Int),chg 0 S<=chg l S
 | [],_=>Int.le_refl _
 | s :: S,l=>by
   unfold chg
   split
   ·exact chg_more S l
   ·rw[if_neg (by omega)]
    split<;>omega
def sgl (p:List Int):List Int:=p.map sg
theorem sgl_get (p:List Int) (k:Nat):(sgl p).getD k 0=sg (p.getD k 0):=by
 unfold sgl
 rw[List.getD_eq_getElem?_getD,List.getElem?_map,List.getD_eq_getElem?_getD]
 cases p[k]? with
 | none=>exact sg0.symm
 | some a=>rfl
def dvar (p:List Int):Int:=chg 0 (sgl p)
theorem dvar_congr {p r:List Int} (h:∀ k,sg (p.getD k 0)=sg (r.getD k 0)):dvar p=dvar r:=chg_get _ _ _ fun k=>by rw[sgl_get,sgl_get,h k]
def lnz:Int->List Int->Int
 | l,[]=>l
 | l,s :: t=>if s=0 then lnz l t else lnz s t
theorem chg_par:∀ (S:List Int) (l:Int),(l=1∨l=-1)->(∀ s∈S,s=1∨s=-1∨s=0)->(lnz l S=l/\chg l S % 2=0)∨(lnz l S=-l/\chg l S % 2=1)
 | [],l,_,_=>.inl ⟨rfl,rfl⟩
 | s :: S,l,hl,h=>by
   have hS:∀ s∈S,s=1∨s=-1∨s=0:=fun x hx=>h x (List.mem_cons_of_mem _ hx)
   unfold chg lnz
   by_cases c:s=0
   ·rw[if_pos c,if_pos c]
    exact chg_par S l hl hS
   ·rw[if_neg c,if_neg c]
    have hs:s=1∨s=-1:=by
     rcases h s List.mem_cons_self with h | h | h
     ·exact .inl h
     ·exact .inr h
     ·exact absurd h c
    have ih:=chg_par S s hs hS
    split<;>omega
theorem lnz_same:∀ (p:List Int) (l:Int),plen p=0->lnz l (sgl p)=l
 | [],_,_=>rfl
 | a :: t,l,h=>by
   have ht:plen t=0:=by
    by_cases c:plen t=0
    ·exact c
    ·rw[plen_cons_succ c] at h;omega
   have ha:a=0:=by
    by_cases c:a=0
    ·exact c
    ·rw[plen_cons_one ht c] at h;omega
   subst ha
   show lnz l (sg 0 :: sgl t)=l
   unfold lnz
   rw[sg0,if_pos rfl]
   exact lnz_same t l ht
theorem lnz_lead:∀ (p:List Int) (l:Int),plen p≠0->lnz l (sgl p)=sg (plead p)
 | [],_,h=>absurd rfl h
 | a :: t,l,h=>by
   show lnz l (sg a :: sgl t)=_
   unfold lnz
   by_cases c:plen t=0
   ·have ha:a≠0:=fun e=>h (plen_cons_zero c e)
    have e1:plead (a :: t)=a:=by
     show (a :: t).getD (plen (a :: t)-1) 0=a
     rw[plen_cons_one c ha]
     rfl
    rw[if_neg (sg_ne ha),lnz_same t _ c,e1]
   ·have e1:plead (a :: t)=plead t:=by
     show (a :: t).getD (plen (a :: t)-1) 0=t.getD (plen t-1) 0
     rw[plen_cons_succ c]
     obtain ⟨n,hn⟩:∃ n,plen t=n+1:=⟨plen t-1,by omega⟩
     rw[hn]
     rfl
    rw[e1,lnz_lead t _ c,lnz_lead t _ c]
    split<;>rfl
noncomputable def Mu (p:List Int) (xs:List Pt):Int:=isum (xs.map fun x=>(mult x p:Int))
theorem Mu_cons (p:List Int) (x:Pt) (xs:List Pt):Mu p (x :: xs)=(mult x p:Int)+Mu p xs:=rfl
theorem Mu_nn (p:List Int):∀ xs,0<=Mu p xs
 | []=>Int.le_refl _
 | x :: xs=>by rw[Mu_cons];have:=Mu_nn p xs;omega
theorem Mu_sub (p:List Int):∀ (ys zs:List Pt),Asc ys->Asc zs->(∀ z∈zs,z∈ys)->Mu p zs<=Mu p ys
 | ys,[],_,_,_=>Mu_nn p ys
 | [],z :: zs,_,_,h=>by cases h z List.mem_cons_self
 | y :: ys,z :: zs,hy,hz,h=>by
   have hy':=List.pairwise_cons.1 hy
   have hz':=List.pairwise_cons.1 hz
   by_cases c:z=y
   ·subst c
    rw[Mu_cons,Mu_cons]
    have:=Mu_sub p ys zs hy'.2 hz'.2 fun t ht=>by
     rcases List.mem_cons.1 (h t (List.mem_cons_of_mem _ ht)) with e | e
     ·have:=hz'.1 t ht
      rw[e] at this
      exact absurd this (Pt.irr _)
     ·exact e
    omega
   ·have hzy:z∈ys:=by
     rcases List.mem_cons.1 (h z List.mem_cons_self) with e | e
     ·exact absurd e c
     ·exact e
    have:=Mu_sub p ys (z :: zs) hy'.2 hz fun t ht=>by
     rcases List.mem_cons.1 ht with e | e
     ·rw[e];exact hzy
     ·rcases List.mem_cons.1 (h t ht) with e2 | e2
      ·have h1:=hz'.1 t e
       rw[e2] at h1
       exact absurd (Pt.lt_trans h1 (hy'.1 z hzy)) (Pt.irr _)
      ·exact e2
    rw[Mu_cons p y ys]
    omega
theorem sgn_path {p:List Int} (hp:plen p≠0):∀ (xs:List Pt) (a b:Pt),a<b->sgp p a≠0->sgp p b≠0->Lst (fun x=>sgp p x=0/\a<x/\x<b) xs->(sgp p b=sgp p a/\Mu p xs % 2=0)∨(sgp p b=- sgp p a/\Mu p xs % 2=1)
 | [],a,b,hab,ha,hb,hx=>.inl ⟨(sgp_stay hab (fun z h1 h2 h3=>by cases (hx.2 z).2 ⟨h3,h1,h2⟩) ha hb).symm,rfl⟩
 | x :: xs,a,b,hab,ha,hb,hx=>by
   obtain ⟨h0,h1,h2⟩:=(hx.2 x).1 List.mem_cons_self
   have hxs:=List.pairwise_cons.1 hx.1
   obtain ⟨l,u,hs⟩:=side_ex hp x
   obtain ⟨c,c1,c2,c3,c4⟩:∃ c,x<c/\c<Pt.of u/\c<b/\∀ y∈xs,c<y:=by
    obtain ⟨c,c1,c2,c3⟩:=Pt.two_up hs.hi h2
    cases xs with
    | nil=>exact ⟨c,c1,c2,c3,fun y hy=>by cases hy⟩
    | cons y ys =>
      obtain ⟨d,d1,d2,d3⟩:=Pt.two_up c1 (hxs.1 y List.mem_cons_self)
      refine ⟨d,d1,Pt.lt_trans d2 c2,Pt.lt_trans d2 c3,fun z hz=>?_⟩
      rcases List.mem_cons.1 hz with e | e
      ·rw[e];exact d3
      ·exact Pt.lt_trans d3 ((List.pairwise_cons.1 hxs.2).1 z e)
   obtain ⟨d,d1,d2,d3⟩:=Pt.two_lo h1 hs.lo
   have ec:sgp p c=rs x p:=hs.r c c1 c2
   have ed:sgp p d=(-1)^(mult x p)*rs x p:=hs.l d d3 d1
   have hr:=rs_pm hp x
   have hpm:=pm_pow (mult x p)
   have hdn:sgp p d≠0:=by
    rw[ed]
    rcases hpm with ⟨e,_⟩ | ⟨e,_⟩<;>rw[e]<;>omega
   have hcn:sgp p c≠0:=by rw[ec];omega
   have ead:sgp p a=sgp p d:=sgp_stay d2 (fun z k1 k2 k3=>by
    rcases List.mem_cons.1 ((hx.2 z).2 ⟨k3,k1,Pt.lt_trans k2 (Pt.lt_trans d1 h2)⟩) with e | e
    ·rw[e] at k2
     exact Pt.asym k2 d1
    ·exact Pt.asym (Pt.lt_trans k2 d1) (hxs.1 z e)) ha hdn
   have ih:=sgn_path hp xs c b c3 hcn hb ⟨hxs.2,fun z=>⟨fun hz=>⟨((hx.2 z).1 (List.mem_cons_of_mem _ hz)).1,c4 z hz,((hx.2 z).1 (List.mem_cons_of_mem _ hz)).2.2⟩,fun ⟨k1,k2,k3⟩=>by
    rcases List.mem_cons.1 ((hx.2 z).2 ⟨k1,Pt.lt_trans h1 (Pt.lt_trans c1 k2),k3⟩) with e | e
    ·rw[e] at k2
     exact absurd k2 (Pt.asym c1)
    ·exact e⟩⟩
   rw[Mu_cons]
   rw[ec] at ih
   rw[ead,ed]
   rcases hpm with ⟨e,e2⟩ | ⟨e,e2⟩
   ·rw[e,Int.one_mul]
    rcases ih with ⟨i1,i2⟩ | ⟨i1,i2⟩
    ·exact .inl ⟨i1,by omega⟩
    ·exact .inr ⟨i1,by omega⟩
   ·rw[e]
    rcases ih with ⟨i1,i2⟩ | ⟨i1,i2⟩
    ·exact .inr ⟨by omega,by omega⟩
    ·exact .inl ⟨by omega,by omega⟩
theorem rolle_mult {p:List Int} (hp:plen p≠0):∀ (xs:List Pt) (x:Pt),Asc (x :: xs)->(∀ y∈x :: xs,sgp p y=0)->∃ zs,Asc zs/\(∀ z∈zs,z=x∨x<z)/\Mu p (x :: xs)<=Mu (pder p) zs+1
 | [],x,_,h=>by
   refine ⟨[x],List.pairwise_singleton _ _,fun z hz=>.inl (List.mem_singleton.1 hz),?_⟩
   rw[Mu_cons,Mu_cons,(mult_pder hp (h x List.mem_cons_self)).1]
   show _+Mu p []<=_+Mu (pder p) []+1
   rw[show Mu p []=0 from rfl,show Mu (pder p) []=0 from rfl]
   omega
 | y :: xs,x,ha,h=>by
   have ha':=List.pairwise_cons.1 ha
   obtain ⟨zs,z1,z2,z3⟩:=rolle_mult hp xs y ha'.2 fun t ht=>h t (List.mem_cons_of_mem _ ht)
   have hxy:=ha'.1 y List.mem_cons_self
   obtain ⟨t,t1,t2,t3⟩:=sgp_rolle hxy (h x List.mem_cons_self) (h y (List.mem_cons_of_mem _ List.mem_cons_self))
   obtain ⟨m1,m2⟩:=mult_pder hp (h x List.mem_cons_self)
   have m3:mult t (pder p)≠0:=fun e=>(mult_zero m2).1 e t3
   have hz:∀ z∈zs,t<z:=fun z hz=>by
    rcases z2 z hz with e | e
    ·rw[e];exact t2
    ·exact Pt.lt_trans t2 e
   refine ⟨x :: t :: zs,List.pairwise_cons.2 ⟨fun z h1=>?_,List.pairwise_cons.2 ⟨hz,z1⟩⟩,fun z h1=>?_,?_⟩
   ·rcases List.mem_cons.1 h1 with e | e
    ·rw[e];exact t1
    ·exact Pt.lt_trans t1 (hz z e)
   ·rcases List.mem_cons.1 h1 with e | e
    ·exact .inl e
    ·rcases List.mem_cons.1 e with e | e
     ·rw[e];exact .inr t1
     ·exact .inr (Pt.lt_trans t1 (hz z e))
   ·rw[Mu_cons p x,Mu_cons _ x,Mu_cons _ t,m1]
    omega
open Classical in
theorem Mu_le {d:List Int} (hd:plen d≠0) {P:Pt->Prop} {ys zs:List Pt} (hy:Lst (fun x=>sgp d x=0/\P x) ys) (hz:Asc zs) (hp:∀ z∈zs,P z):Mu d zs<=Mu d ys:=by
 have e:Mu d zs=Mu d (zs.filter fun x=>@decide (sgp d x=0) (propDecidable _)):=isum_filter (fun x=>(mult x d:Int)) (fun x=>sgp d x=0) zs (fun x _ hx=>by
  have:=(mult_zero hd).2 hx
  omega)
 rw[e]
 refine Mu_sub d ys _ hy.1 (List.Pairwise.filter _ hz) fun z h=>?_
 obtain ⟨h1,h2⟩:=List.mem_filter.1 h
 exact (hy.2 z).2 ⟨by simpa using h2,hp z h1⟩
theorem sgp_x {x:Pt} (h:Pt.of 0<x):sgp [0,1] x≠0:=fun h0=>by
 have h1:sgp [0,1] (Pt.of 0)=0:=by
  have:sgf (pv [0,1]) (Pt.of 0)=_:=sgf_of (lp_pv [0,1]) 0
  rw[show sgp [0,1] (Pt.of 0)=sgf (pv [0,1]) (Pt.of 0) from rfl,this]
  have e:pv [0,1] 0=0:=by unfold pv;grind
  rw[e,if_neg (by decide),if_neg (by decide)]
 have:=rts_le 1 [0,1] rfl [Pt.of 0,x] (List.pairwise_cons.2 ⟨fun y hy=>by rw[List.mem_singleton.1 hy];exact h,List.pairwise_singleton _ _⟩) (fun y hy=>by
  rcases List.mem_cons.1 hy with e | e
  ·rw[e];exact h1
  ·rw[List.mem_singleton.1 e];exact h0)
 simp at this
theorem sgp_at0 (a:Int) (t:List Int):sgp (a :: t) (Pt.of 0)=sg a:=by
 have:sgf (pv (a :: t)) (Pt.of 0)=_:=sgf_of (lp_pv (a :: t)) 0
 rw[show sgp (a :: t) (Pt.of 0)=sgf (pv (a :: t)) (Pt.of 0) from rfl,this]
 have e:pv (a :: t) 0=(a:Rat):=by unfold pv;grind
 rw[e,<- sgf_const (a:Rat) (Pt.of 0),sgf_int]
theorem cons0 {t:List Int} (ht:plen t≠0) {x:Pt} (h:Pt.of 0<x):mult x (0 :: t)=mult x t/\(sgp (0 :: t) x=0↔sgp t x=0):=by
 have he:∀ k,(0 :: t:List Int).getD k 0=(polymul [0,1] t).getD k 0:=ev_inj fun u=>by
  rw[rev_cons,ev_mul,rev_cons,rev_cons,show ev [] u=0 from rfl]
  grind
 have hx:plen [0,1]≠0:=by decide
 have hn:plen (0 :: t)≠0:=by rw[plen_cons_succ ht];omega
 have e1:mult x (0 :: t)=mult x (polymul [0,1] t):=((show PEq (0 :: t) (polymul [0,1] t) from ⟨1,1,by decide,by decide,fun k=>by rw[he k]⟩).mult x hn).1
 have e2:mult x [0,1]=0:=(mult_zero hx).2 (sgp_x h)
 have e3:mult x (0 :: t)=mult x t:=by rw[e1,mult_mul hx ht,e2,Nat.zero_add]
 refine ⟨e3,?_⟩
 have h1:=mult_zero hn (x:=x)
 have h2:=mult_zero ht (x:=x)
 rw[e3] at h1
 constructor
 ·intro h3
  exact Classical.byContradiction fun h4=>h1.1 (h2.2 h4) h3
 ·intro h3
  exact Classical.byContradiction fun h4=>h2.1 (h1.2 h4) h3
theorem descartes:∀ (n:Nat) (p:List Int),p.length<=n->plen p≠0->∀ xs,Lst (fun x=>sgp p x=0/\Pt.of 0<x) xs->Mu p xs<=dvar p/\(dvar p-Mu p xs) % 2=0
 | 0,p,hl,hp,_,_=>by
   rw[List.length_eq_zero_iff.1 (Nat.le_zero.1 hl)] at hp
   exact absurd rfl hp
 | n+1,[],_,hp,_,_=>absurd rfl hp
 | n+1,a :: t,hl,hp,xs,hx=>by
   have htl:t.length<=n:=by simpa using hl
   by_cases ha:a=0
   ·subst ha
    have ht:plen t≠0:=fun e=>hp (plen_cons_zero e rfl)
    have hx':Lst (fun x=>sgp t x=0/\Pt.of 0<x) xs:=hx.congr fun x=>⟨fun h=>⟨(cons0 ht h.2).2.1 h.1,h.2⟩,fun h=>⟨(cons0 ht h.2).2.2 h.1,h.2⟩⟩
    have e1:Mu (0 :: t) xs=Mu t xs:=by
     unfold Mu
     congr 1
     refine List.map_congr_left fun x h=>?_
     rw[(cons0 ht ((hx.2 x).1 h).2).1]
    have e2:dvar (0 :: t)=dvar t:=by
     show chg 0 (sg 0 :: sgl t)=_
     rw[sg0,chg_zero]
     rfl
    rw[e1,e2]
    exact descartes n t htl ht xs hx'
   ·have hsa:sg a=1∨sg a=-1:=by rcases sg_cases a with ⟨_,e⟩ | ⟨h,e⟩ | ⟨_,e⟩;exact .inr e;exact absurd h ha;exact .inl e
    have hv:dvar (a :: t)=chg (sg a) (sgl t):=by
     show (if sg a=0 then chg 0 (sgl t) else if sg a=-0 then chg (sg a) (sgl t)+1 else chg (sg a) (sgl t))=_
     rw[if_neg (sg_ne ha),if_neg (by omega)]
    -- the parity
    obtain ⟨B1,b1,b2,_⟩:=far hp
    obtain ⟨B2,b3,b4⟩:=roots_in hp
    obtain ⟨B,hB1,hB2⟩:∃ B:Rat,B1<=B/\B2<=B:=by
     rcases Rat.le_total (a:=B1) (b:=B2) with h | h
     ·exact ⟨B2,h,Rat.le_refl⟩
     ·exact ⟨B1,Rat.le_refl,h⟩
    have hB0:(0:Rat)<B:=by grind
    have hpath:=sgn_path hp xs (Pt.of 0) (Pt.of B) (Pt.of_lt_of.2 hB0) (by rw[sgp_at0];omega) (by rw[b2 B hB1];exact sgE_ne hp false) (hx.congr fun x=>⟨fun h=>⟨h.1,h.2,by
     have h5:=(b4 x h.1).2
     rcases Rat.le_iff_lt_or_eq.1 hB2 with c | c
     ·exact Pt.lt_trans h5 (Pt.of_lt_of.2 c)
     ·rw[<- c];exact h5⟩,fun h=>⟨h.1,h.2.1⟩⟩)
    rw[sgp_at0,b2 B hB1,show sgE false (a :: t)=sg (plead (a :: t)) from rfl,<- lnz_lead (a :: t) 0 hp,show lnz 0 (sgl (a :: t))=lnz (sg a) (sgl t) by show (if sg a=0 then lnz 0 (sgl t) else lnz (sg a) (sgl t))=_;rw[if_neg (sg_ne ha)]] at hpath
    have hpar:=chg_par (sgl t) (sg a) hsa fun s hs=>by
     obtain ⟨c,_,rfl⟩:=List.mem_map.1 hs
     rcases sg_cases c with ⟨_,e⟩ | ⟨_,e⟩ | ⟨_,e⟩<;>omega
    rw[<- hv] at hpar
    have hmod:(dvar (a :: t)-Mu (a :: t) xs) % 2=0:=by omega
    refine ⟨?_,hmod⟩
    cases xs with
    | nil =>
      rw[hv]
      exact chg_nn _ _
    | cons x xs =>
      have h0:=(hx.2 x).1 List.mem_cons_self
      obtain ⟨_,hd⟩:=mult_pder hp h0.1
      obtain ⟨zs,z1,z2,z3⟩:=rolle_mult hp xs x hx.1 fun y hy=>((hx.2 y).1 hy).1
      obtain ⟨ys,hys⟩:=roots_lst hd (fun x=>Pt.of 0<x)
      have h1:=Mu_le hd hys z1 fun z hz=>by
       rcases z2 z hz with e | e
       ·rw[e];exact h0.2
       ·exact Pt.lt_trans h0.2 e
      have h2:=(descartes n (pder (a :: t)) (by rw[pder_length];have:=plen_le (a :: t);omega) hd ys hys).1
      have h3:dvar (pder (a :: t))=dvar t:=dvar_congr fun k=>by
       rw[pder_getD]
       show sg (t.getD k 0*((k:Int)+1))=_
       rcases sg_cases (t.getD k 0) with ⟨c,e⟩ | ⟨c,e⟩ | ⟨c,e⟩
       ·rw[e]
        rcases sg_cases (t.getD k 0*((k:Int)+1)) with ⟨_,e2⟩ | ⟨c2,_⟩ | ⟨c2,_⟩
        ·exact e2
        ·rcases Int.mul_eq_zero.1 c2 with c3 | c3<;>omega
        ·have:=Int.mul_neg_of_neg_of_pos c (show (0:Int)<(k:Int)+1 by omega)
         omega
       ·rw[c,Int.zero_mul]
       ·rw[e]
        have:=Int.mul_pos c (show (0:Int)<(k:Int)+1 by omega)
        rcases sg_cases (t.getD k 0*((k:Int)+1)) with ⟨c2,_⟩ | ⟨c2,_⟩ | ⟨_,e2⟩
        ·omega
        ·omega
        ·exact e2
      have h4:dvar t<=dvar (a :: t):=by rw[hv];exact chg_more _ _
      omega
end Go.Proofs.YtphmkdmflopcdaaGreat
