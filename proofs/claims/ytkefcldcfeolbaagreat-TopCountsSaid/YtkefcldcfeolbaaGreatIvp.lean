/- What Valid says of two fractions, what the list of Roots is, and that Complete accepts it. Plain: no program. -/
import Derived.Test.YtkefcldcfeolbaaGreatIsv
namespace Go.Proofs.YtkefcldcfeolbaaGreat
open Go.RowKit
theorem alA {Q:List Int} {PS:List (List Int)}:∀ (n:Nat) (a b:Fq),anF Q PS n a b->∀ r∈isl Q PS n a b,FqB r.1/\FqB r.2
 | 0,_,_,h,_,_=>h.elim
 | n+1,a,b,⟨ha,hb,h⟩,r,hr=>by
   have e:isl Q PS (n+1) a b=if aiD Q PS a b<1 then [] else if aiD Q PS a b=1/\a.sgn Q≠0/\b.sgn Q≠0 then [(a.nf,b.nf)] else isl Q PS n a (a.mid b) ++ (if (a.mid b).sgn Q=0 then [((a.mid b).nf,(a.mid b).nf)] else []) ++ isl Q PS n (a.mid b) b:=rfl
   rw[e] at hr
   by_cases c1:aiD Q PS a b<1
   ·rw[if_pos c1] at hr;simp at hr
   rw[if_neg c1] at hr
   by_cases c2:aiD Q PS a b=1/\a.sgn Q≠0/\b.sgn Q≠0
   ·rw[if_pos c2,List.mem_singleton] at hr
    rw[hr]
    exact ⟨ha.nf,hb.nf⟩
   rw[if_neg c2] at hr
   obtain ⟨h1,h2,h3⟩:=(h.resolve_left c1).resolve_left c2
   rcases List.mem_append.1 hr with hr | hr
   ·rcases List.mem_append.1 hr with hr | hr
    ·exact alA n _ _ h2 r hr
    ·split at hr
     ·rw[List.mem_singleton] at hr
      rw[hr]
      exact ⟨h1.nf,h1.nf⟩
     ·simp at hr
   ·exact alA n _ _ h3 r hr
theorem anJ {f:List Int} (h9:PQ f):∀ r∈acQ f,FqB r.1/\FqB r.2:=by
 unfold acQ
 by_cases h:aad (aaq f)<2
 ·rw[if_pos h];intro r hr;simp at hr
 ·rw[if_neg h]
  have h0:aad f≠0:=fun h0=>by rw[abW h0] at h;exact h (by decide)
  exact alA _ _ _ (aeL (SqF.of9 h9 h0)).1
theorem ahT {a b:Fq} (ha:0<a.q) (hb:0<b.q):a.z*(b.q:Int)<b.z*(a.q:Int)↔a.v<b.v:=(aps ha hb).symm
section
variable {f:List Int} {a b:Fq} {x:Pt}
def afy (f:List Int) (x:Pt) (a b:Fq):Prop :=
 sgp f x=0/\((a.v=b.v/\x=a.p)∨(a.v<b.v/\sgp f a.p≠0/\sgp f b.p≠0/\a.p<x/\x<b.p/\∀ y,sgp f y=0->a.p<y->y<b.p->y=x))
theorem afy.le (h:afy f x a b):a.v<=b.v:=by
 rcases h.2 with h | h
 ·rw[h.1];exact Rat.le_refl
 ·grind
theorem afy.lo (h:afy f x a b):¬ x<a.p:=by
 rcases h.2 with h | h
 ·rw[h.2];exact Pt.irr _
 ·exact Pt.asym h.2.2.2.1
theorem afy.hi (h:afy f x a b):¬ b.p<x:=by
 rcases h.2 with h | h
 ·rw[h.2];unfold Fq.p;rw[h.1];exact Pt.irr _
 ·exact Pt.asym h.2.2.2.2.1
theorem afy.uniq {y:Pt} (h:afy f x a b) (h':afy f y a b):x=y:=by
 rcases h.2 with h1 | h1
 ·rcases h'.2 with h2 | h2
  ·rw[h1.2,h2.2]
  ·grind
 ·rcases h'.2 with h2 | h2
  ·grind
  ·exact h2.2.2.2.2.2 x h.1 h1.2.2.2.1 h1.2.2.2.2.1
theorem Iso.v {Q:List Int} {r:Fq×Fq} (h:Iso Q x r) (hx:sgp f x=0) (e:∀ y,sgp f y=0↔sgp Q y=0):afy f x r.1 r.2:=by
 refine ⟨hx,?_⟩
 rcases h.2.2 with ⟨h1,h2⟩ | ⟨h1,h2,h3,h4,h5,h6⟩
 ·exact .inl ⟨by rw[h1],h2⟩
 ·exact .inr ⟨h1,fun h=>h2 ((e _).1 h),fun h=>h3 ((e _).1 h),h4,h5,fun y hy=>h6 y ((e y).1 hy)⟩
theorem atM (h9:PQ f) (h0:aad f≠0) (ha:0<a.q) (hb:0<b.q):vld 2 f a b=true↔∃ x,afy f x a b:=by
 unfold vld
 by_cases h2:aad f<2
 ·rw[if_pos h2]
  have h1:aad f=1:=by omega
  exact ⟨fun h=>by simp at h,fun ⟨x,h⟩=>absurd h.1 (aq4 h1 x)⟩
 rw[if_neg h2]
 by_cases c:a.z*(b.q:Int)<b.z*(a.q:Int)
 ·rw[if_pos c]
  have cv:=(ahT ha hb).1 c
  have cp:a.p<b.p:=Pt.aaZ.2 cv
  rw[aeh ha,aeh hb]
  by_cases ea:sgp f a.p=0
  ·rw[if_pos ea]
   exact ⟨fun h=>by simp at h,fun ⟨x,h⟩=>by
    rcases h.2 with h | h
    ·grind
    ·exact absurd ea h.2.1⟩
  rw[if_neg ea]
  by_cases eb:sgp f b.p=0
  ·rw[if_pos eb]
   exact ⟨fun h=>by simp at h,fun ⟨x,h⟩=>by
    rcases h.2 with h | h
    ·grind
    ·exact absurd eb h.2.2.1⟩
  rw[if_neg eb]
  obtain ⟨xs,hx⟩:=abE h0 (fun x=>a.p<x/\(x<b.p∨x=b.p))
  have hc:apM f a b=xs.length:=ahL h9 h0 ha hb c hx
  rw[hc,beq_iff_eq]
  have hin:∀ y,y∈xs↔sgp f y=0/\a.p<y/\y<b.p:=fun y=>by
   rw[hx.2]
   exact ⟨fun ⟨h1,h2,h3⟩=>⟨h1,h2,h3.resolve_right fun e=>eb (e ▸ h1)⟩,fun ⟨h1,h2,h3⟩=>⟨h1,h2,.inl h3⟩⟩
  constructor
  ·intro h
   obtain ⟨x,rfl⟩:=List.length_eq_one_iff.1 (by omega:xs.length=1)
   have hm:=(hin x).1 (by simp)
   exact ⟨x,hm.1,.inr ⟨cv,ea,eb,hm.2.1,hm.2.2,fun y h1 h2 h3=>by simpa using (hin y).2 ⟨h1,h2,h3⟩⟩⟩
  ·rintro ⟨x,h,h1 | h1⟩
   ·grind
   ·have e:xs=[x]:=ajc hx.1 (List.pairwise_singleton _ _) fun y=>by
     rw[hin,List.mem_singleton]
     exact ⟨fun h2=>h1.2.2.2.2.2 y h2.1 h2.2.1 h2.2.2,fun e=>e ▸ ⟨h,h1.2.2.2.1,h1.2.2.2.2.1⟩⟩
    rw[e];rfl
 rw[if_neg c]
 have cv:¬ a.v<b.v:=fun h=>c ((ahT ha hb).2 h)
 by_cases c2:b.z*(a.q:Int)<a.z*(b.q:Int)
 ·rw[if_pos c2]
  have cv2:=(ahT hb ha).1 c2
  exact ⟨fun h=>by simp at h,fun ⟨x,h⟩=>by have:=h.le;grind⟩
 rw[if_neg c2]
 have cv2:¬ b.v<a.v:=fun h=>c2 ((ahT hb ha).2 h)
 have e:a.v=b.v:=by grind
 rw[beq_iff_eq,aeh ha]
 exact ⟨fun h=>⟨a.p,h,.inl ⟨e,rfl⟩⟩,fun ⟨x,h⟩=>by
  rcases h.2 with h2 | h2
  ·rw[<- h2.2];exact h.1
  ·grind⟩
end
def r00:Fq×Fq:=(⟨0,1⟩,⟨0,1⟩)
instance instPt:Inhabited Pt:=⟨Pt.of 0⟩
structure RF (f:List Int) (xs:List Pt) (rs:List (Fq×Fq)):Prop where
 len:rs.length=xs.length
 lst:Lst (fun x=>sgp f x=0) xs
 iso:∀ k,k<xs.length->afy f (xs.getD k default) (rs.getD k r00).1 (rs.getD k r00).2
 ord:∀ j k,j<k->k<xs.length->(rs.getD j r00).2.v<=(rs.getD k r00).1.v
 fq:∀ r∈rs,FqB r.1/\FqB r.2
section
variable {f:List Int}
theorem Isl.get {Q:List Int} {xs:List Pt} {rs:List (Fq×Fq)} {lo hi:Rat} (h:Isl Q xs rs lo hi) :
  (∀ k,k<xs.length->Iso Q (xs.getD k default) (rs.getD k r00)/\lo<=(rs.getD k r00).1.v)/\∀ j k,j<k->k<xs.length->(rs.getD j r00).2.v<=(rs.getD k r00).1.v:=by
 induction h with
 | nil a b h=>exact ⟨fun k hk=>absurd hk (Nat.not_lt_zero _),fun j k _ hk=>absurd hk (Nat.not_lt_zero _)⟩
 | @cons x xs r l a c b h h1 h2 h3 ih =>
   refine ⟨fun k hk=>?_,fun j k hj hk=>?_⟩
   ·match k,hk with
    | 0,_=>exact ⟨h,h1⟩
    | k+1,hk =>
      obtain ⟨g1,g2⟩:=ih.1 k (by rw[List.length_cons] at hk;omega)
      have hl:=h.le
      exact ⟨g1,show a<=(l.getD k r00).1.v by grind⟩
   ·match j,k,hj,hk with
    | 0,k+1,_,hk =>
      have g2:=(ih.1 k (by rw[List.length_cons] at hk;omega)).2
      show r.2.v<=(l.getD k r00).1.v
      grind
    | j+1,k+1,hj,hk=>exact ih.2 j k (by omega) (by rw[List.length_cons] at hk;omega)
theorem getD_mem {α:Type} {l:List α} {k:Nat} (h:k<l.length) (d:α):l.getD k d∈l:=by
 rw[List.getD_eq_getElem?_getD,List.getElem?_eq_getElem h]
 exact List.getElem_mem h
theorem axh (h9:PQ f) (h0:aad f≠0):∃ xs,RF f xs (acQ f):=by
 obtain ⟨xs,hx⟩:=abE h0 (fun _=>True)
 have hx1:Lst (fun x=>sgp f x=0) xs:=hx.congr fun x=>⟨fun h=>h.1,fun h=>⟨h,trivial⟩⟩
 obtain ⟨lo,hi,hi2⟩:=aiG h9 h0 hx1
 have hq:=abx h9.q h0
 have hg:=hi2.get
 exact ⟨xs,hi2.length,hx1,fun k hk=>(hg.1 k hk).1.v ((hx1.2 _).1 (getD_mem hk _)) fun y=>(hq.root y).symm,hg.2,anJ h9⟩
theorem anK (h9:PQ f):(acQ f).length<=9:=by
 unfold acQ
 by_cases h:aad (aaq f)<2
 ·rw[if_pos h];exact Nat.zero_le _
 ·rw[if_neg h]
  exact aiF (SqF.of9 h9 fun h0=>by rw[abW h0] at h;exact h (by decide))
end
def agO (a b:Fq):Int:=afd (a.z*(b.q:Int)) (b.z*(a.q:Int))
theorem atN {a b:Fq} (ha:0<a.q) (hb:0<b.q):agO a b=-1↔a.v<b.v:=by
 rw[<- ahT ha hb];unfold agO afd;constructor
 ·intro h;split at h
  ·assumption
  ·split at h<;>omega
 ·intro h;rw[if_pos h]
theorem atO {a b:Fq} (ha:0<a.q) (hb:0<b.q):agO a b=1↔b.v<a.v:=by
 rw[<- ahT hb ha];unfold agO afd;constructor
 ·intro h;split at h
  ·omega
  ·split at h<;>omega
 ·intro h;rw[if_neg (by omega),if_neg (by omega)]
theorem atP (a b:Fq):agO a b=-1∨agO a b=0∨agO a b=1:=by
 unfold agO afd;split
 ·simp
 ·split<;>simp
theorem aeM {a b:Fq} (ha:0<a.q) (hb:0<b.q):agO a b=0↔a.v=b.v:=by
 have h1:=atN ha hb
 have h2:=atO ha hb
 rcases atP a b with h | h | h
 ·have:=h1.1 h;exact ⟨fun e=>by omega,fun e=>by grind⟩
 ·exact ⟨fun _=>by
   have n1:¬ a.v<b.v:=fun e=>by have:=h1.2 e;omega
   have n2:¬ b.v<a.v:=fun e=>by have:=h2.2 e;omega
   grind,fun _=>h⟩
 ·have:=h2.1 h;exact ⟨fun e=>by omega,fun e=>by grind⟩
section
variable {f:List Int}
end
end Go.Proofs.YtkefcldcfeolbaaGreat
