/- What Valid says of two fractions, what the list of Roots is, and that Complete accepts it. Plain: no program. -/
import Derived.Test.YtdimmlckpgpgcaaGreatIsv
namespace Go.Proofs.YtdimmlckpgpgcaaGreat
open Go.RowKit
theorem alZ {Q:List Int} {PS:List (List Int)}:∀ (n:Nat) (a b:Fq),aon Q PS n a b->∀ r∈isl Q PS n a b,FqB r.1/\FqB r.2
 | 0,_,_,h,_,_=>h.elim
 | n+1,a,b,⟨ha,hb,h⟩,r,hr=>by
   have e:isl Q PS (n+1) a b=if ak3 Q PS a b<1 then [] else if ak3 Q PS a b=1/\a.sgn Q≠0/\b.sgn Q≠0 then [(a.nf,b.nf)] else isl Q PS n a (a.mid b) ++ (if (a.mid b).sgn Q=0 then [((a.mid b).nf,(a.mid b).nf)] else []) ++ isl Q PS n (a.mid b) b:=rfl
   rw[e] at hr
   by_cases c1:ak3 Q PS a b<1
   ·rw[if_pos c1] at hr;simp at hr
   rw[if_neg c1] at hr
   by_cases c2:ak3 Q PS a b=1/\a.sgn Q≠0/\b.sgn Q≠0
   ·rw[if_pos c2,List.mem_singleton] at hr
    rw[hr]
    exact ⟨ha.nf,hb.nf⟩
   rw[if_neg c2] at hr
   obtain ⟨h1,h2,h3⟩:=(h.resolve_left c1).resolve_left c2
   rcases List.mem_append.1 hr with hr | hr
   ·rcases List.mem_append.1 hr with hr | hr
    ·exact alZ n _ _ h2 r hr
    ·split at hr
     ·rw[List.mem_singleton] at hr
      rw[hr]
      exact ⟨h1.nf,h1.nf⟩
     ·simp at hr
   ·exact alZ n _ _ h3 r hr
theorem aoq {f:List Int} (h9:PQ f):∀ r∈acf f,FqB r.1/\FqB r.2:=by
 unfold acf
 by_cases h:aac (aaP f)<2
 ·rw[if_pos h];intro r hr;simp at hr
 ·rw[if_neg h]
  have h0:aac f≠0:=fun h0=>by rw[abv h0] at h;exact h (by decide)
  exact alZ _ _ _ (aeG (SqF.of9 h9 h0)).1
theorem ahO {a b:Fq} (ha:0<a.q) (hb:0<b.q):a.z*(b.q:Int)<b.z*(a.q:Int)↔a.v<b.v:=(ajr ha hb).symm
section
variable {f:List Int} {a b:Fq} {x:Pt}
def ahV (f:List Int) (x:Pt) (a b:Fq):Prop :=
 sgp f x=0/\((a.v=b.v/\x=a.p)∨(a.v<b.v/\sgp f a.p≠0/\sgp f b.p≠0/\a.p<x/\x<b.p/\∀ y,sgp f y=0->a.p<y->y<b.p->y=x))
theorem ahV.le (h:ahV f x a b):a.v<=b.v:=by
 rcases h.2 with h | h
 ·rw[h.1];exact Rat.le_refl
 ·grind
theorem ahV.lo (h:ahV f x a b):¬ x<a.p:=by
 rcases h.2 with h | h
 ·rw[h.2];exact Pt.irr _
 ·exact Pt.asym h.2.2.2.1
theorem ahV.hi (h:ahV f x a b):¬ b.p<x:=by
 rcases h.2 with h | h
 ·rw[h.2];unfold Fq.p;rw[h.1];exact Pt.irr _
 ·exact Pt.asym h.2.2.2.2.1
theorem ahV.uniq {y:Pt} (h:ahV f x a b) (h':ahV f y a b):x=y:=by
 rcases h.2 with h1 | h1
 ·rcases h'.2 with h2 | h2
  ·rw[h1.2,h2.2]
  ·grind
 ·rcases h'.2 with h2 | h2
  ·grind
  ·exact h2.2.2.2.2.2 x h.1 h1.2.2.2.1 h1.2.2.2.2.1
theorem Iso.v {Q:List Int} {r:Fq×Fq} (h:Iso Q x r) (hx:sgp f x=0) (e:∀ y,sgp f y=0↔sgp Q y=0):ahV f x r.1 r.2:=by
 refine ⟨hx,?_⟩
 rcases h.2.2 with ⟨h1,h2⟩ | ⟨h1,h2,h3,h4,h5,h6⟩
 ·exact .inl ⟨by rw[h1],h2⟩
 ·exact .inr ⟨h1,fun h=>h2 ((e _).1 h),fun h=>h3 ((e _).1 h),h4,h5,fun y hy=>h6 y ((e y).1 hy)⟩
theorem al0 (h9:PQ f) (h0:aac f≠0) (ha:0<a.q) (hb:0<b.q):vld 2 f a b=true↔∃ x,ahV f x a b:=by
 unfold vld
 by_cases h2:aac f<2
 ·rw[if_pos h2]
  have h1:aac f=1:=by omega
  exact ⟨fun h=>by simp at h,fun ⟨x,h⟩=>absurd h.1 (asa h1 x)⟩
 rw[if_neg h2]
 by_cases c:a.z*(b.q:Int)<b.z*(a.q:Int)
 ·rw[if_pos c]
  have cv:=(ahO ha hb).1 c
  have cp:a.p<b.p:=Pt.aaH.2 cv
  rw[akN ha,akN hb]
  by_cases ea:sgp f a.p=0
  ·rw[if_pos ea]
   exact ⟨fun h=>by simp at h,fun ⟨x,h⟩=>by
    rcases h.2 with h | h
    ·grind
    ·exact absurd ea h.2.1⟩
  rw[if_neg ea]
  by_cases eb:sgp f b.p=0
  ·rw[if_pos eb]
   exact ⟨fun h=>by simp at h,fun ⟨x,h⟩=>by
    rcases h.2 with h | h
    ·grind
    ·exact absurd eb h.2.2.1⟩
  rw[if_neg eb]
  obtain ⟨xs,hx⟩:=abj h0 (fun x=>a.p<x/\(x<b.p∨x=b.p))
  have hc:aqy f a b=xs.length:=ahI h9 h0 ha hb c hx
  rw[hc,beq_iff_eq]
  have hin:∀ y,y∈xs↔sgp f y=0/\a.p<y/\y<b.p:=fun y=>by
   rw[hx.2]
   exact ⟨fun ⟨h1,h2,h3⟩=>⟨h1,h2,h3.resolve_right fun e=>eb (e ▸ h1)⟩,fun ⟨h1,h2,h3⟩=>⟨h1,h2,.inl h3⟩⟩
  constructor
  ·intro h
   obtain ⟨x,rfl⟩:=List.length_eq_one_iff.1 (by omega:xs.length=1)
   have hm:=(hin x).1 (by simp)
   exact ⟨x,hm.1,.inr ⟨cv,ea,eb,hm.2.1,hm.2.2,fun y h1 h2 h3=>by simpa using (hin y).2 ⟨h1,h2,h3⟩⟩⟩
  ·rintro ⟨x,h,h1 | h1⟩
   ·grind
   ·have e:xs=[x]:=ajb hx.1 (List.pairwise_singleton _ _) fun y=>by
     rw[hin,List.mem_singleton]
     exact ⟨fun h2=>h1.2.2.2.2.2 y h2.1 h2.2.1 h2.2.2,fun e=>e ▸ ⟨h,h1.2.2.2.1,h1.2.2.2.2.1⟩⟩
    rw[e];rfl
 rw[if_neg c]
 have cv:¬ a.v<b.v:=fun h=>c ((ahO ha hb).2 h)
 by_cases c2:b.z*(a.q:Int)<a.z*(b.q:Int)
 ·rw[if_pos c2]
  have cv2:=(ahO hb ha).1 c2
  exact ⟨fun h=>by simp at h,fun ⟨x,h⟩=>by have:=h.le;grind⟩
 rw[if_neg c2]
 have cv2:¬ b.v<a.v:=fun h=>c2 ((ahO hb ha).2 h)
 have e:a.v=b.v:=by grind
 rw[beq_iff_eq,akN ha]
 exact ⟨fun h=>⟨a.p,h,.inl ⟨e,rfl⟩⟩,fun ⟨x,h⟩=>by
  rcases h.2 with h2 | h2
  ·rw[<- h2.2];exact h.1
  ·grind⟩
end
def r00:Fq×Fq:=(⟨0,1⟩,⟨0,1⟩)
instance instPt:Inhabited Pt:=⟨Pt.of 0⟩
structure RF (f:List Int) (xs:List Pt) (rs:List (Fq×Fq)):Prop where
 len:rs.length=xs.length
 lst:Lst (fun x=>sgp f x=0) xs
 iso:∀ k,k<xs.length->ahV f (xs.getD k default) (rs.getD k r00).1 (rs.getD k r00).2
 ord:∀ j k,j<k->k<xs.length->(rs.getD j r00).2.v<=(rs.getD k r00).1.v
 fq:∀ r∈rs,FqB r.1/\FqB r.2
section
variable {f:List Int}
theorem Isl.get {Q:List Int} {xs:List Pt} {rs:List (Fq×Fq)} {lo hi:Rat} (h:Isl Q xs rs lo hi) :
  (∀ k,k<xs.length->Iso Q (xs.getD k default) (rs.getD k r00)/\lo<=(rs.getD k r00).1.v)/\∀ j k,j<k->k<xs.length->(rs.getD j r00).2.v<=(rs.getD k r00).1.v:=by
 induction h with
 | nil a b h=>exact ⟨fun k hk=>absurd hk (Nat.not_lt_zero _),fun j k _ hk=>absurd hk (Nat.not_lt_zero _)⟩
 | @cons x xs r l a c b h h1 h2 h3 ih =>
   refine ⟨fun k hk=>?_,fun j k hj hk=>?_⟩
   ·match k,hk with
    | 0,_=>exact ⟨h,h1⟩
    | k+1,hk =>
      obtain ⟨g1,g2⟩:=ih.1 k (by rw[List.length_cons] at hk;omega)
      have hl:=h.le
      exact ⟨g1,show a<=(l.getD k r00).1.v by grind⟩
   ·match j,k,hj,hk with
    | 0,k+1,_,hk =>
      have g2:=(ih.1 k (by rw[List.length_cons] at hk;omega)).2
      show r.2.v<=(l.getD k r00).1.v
      grind
    | j+1,k+1,hj,hk=>exact ih.2 j k (by omega) (by rw[List.length_cons] at hk;omega)
theorem getD_mem {α:Type} {l:List α} {k:Nat} (h:k<l.length) (d:α):l.getD k d∈l:=by
 rw[List.getD_eq_getElem?_getD,List.getElem?_eq_getElem h]
 exact List.getElem_mem h
theorem awK (h9:PQ f) (h0:aac f≠0):∃ xs,RF f xs (acf f):=by
 obtain ⟨xs,hx⟩:=abj h0 (fun _=>True)
 have hx1:Lst (fun x=>sgp f x=0) xs:=hx.congr fun x=>⟨fun h=>h.1,fun h=>⟨h,trivial⟩⟩
 obtain ⟨lo,hi,hi2⟩:=aiB h9 h0 hx1
 have hq:=acL h9.q h0
 have hg:=hi2.get
 exact ⟨xs,hi2.length,hx1,fun k hk=>(hg.1 k hk).1.v ((hx1.2 _).1 (getD_mem hk _)) fun y=>(hq.root y).symm,hg.2,aoq h9⟩
theorem aor (h0:aac f=0):acf f=[]:=by
 unfold acf
 rw[if_pos (by rw[abv h0];decide)]
theorem ani (h0:aac f=0):nall f=0:=ahH h0
theorem aos (h9:PQ f):(acf f).length<=9:=by
 unfold acf
 by_cases h:aac (aaP f)<2
 ·rw[if_pos h];exact Nat.zero_le _
 ·rw[if_neg h]
  exact aiA (SqF.of9 h9 fun h0=>by rw[abv h0] at h;exact h (by decide))
theorem RF.fa {xs:List Pt} {rs:List (Fq×Fq)} (h:RF f xs rs) {k:Nat} (hk:k<xs.length):FqB (rs.getD k r00).1/\FqB (rs.getD k r00).2:=h.fq _ (getD_mem (by rw[h.len];exact hk) _)
theorem RF.vld {xs:List Pt} {rs:List (Fq×Fq)} (h:RF f xs rs) (h9:PQ f) (h0:aac f≠0) {k:Nat} (hk:k<xs.length):vld 2 f (rs.getD k r00).1 (rs.getD k r00).2=true :=
 (al0 h9 h0 (h.fa hk).1.p (h.fa hk).2.p).2 ⟨_,h.iso k hk⟩
theorem auO {xs:List Pt} (h:Asc xs) {j k:Nat} (hj:j<k) (hk:k<xs.length):xs.getD j default<xs.getD k default:=by
 rw[List.getD_eq_getElem?_getD,List.getD_eq_getElem?_getD,List.getElem?_eq_getElem hk,List.getElem?_eq_getElem (Nat.lt_trans hj hk)]
 exact List.pairwise_iff_getElem.1 h j k _ hk hj
end
def acO (a b:Fq):Int:=aec (a.z*(b.q:Int)) (b.z*(a.q:Int))
theorem al1 {a b:Fq} (ha:0<a.q) (hb:0<b.q):acO a b=-1↔a.v<b.v:=by
 rw[<- ahO ha hb];unfold acO aec;constructor
 ·intro h;split at h
  ·assumption
  ·split at h<;>omega
 ·intro h;rw[if_pos h]
theorem al2 {a b:Fq} (ha:0<a.q) (hb:0<b.q):acO a b=1↔b.v<a.v:=by
 rw[<- ahO hb ha];unfold acO aec;constructor
 ·intro h;split at h
  ·omega
  ·split at h<;>omega
 ·intro h;rw[if_neg (by omega),if_neg (by omega)]
theorem ajB (a b:Fq):acO a b=-1∨acO a b=0∨acO a b=1:=by
 unfold acO aec;split
 ·simp
 ·split<;>simp
theorem ajC {a b:Fq} (ha:0<a.q) (hb:0<b.q):0<acO a b↔b.v<a.v:=by
 rw[<- al2 ha hb];rcases ajB a b with h | h | h<;>omega
theorem ajD {a b:Fq} (ha:0<a.q) (hb:0<b.q):acO a b<0↔a.v<b.v:=by
 rw[<- al1 ha hb];rcases ajB a b with h | h | h<;>omega
theorem acN {a b:Fq} (ha:0<a.q) (hb:0<b.q):acO a b=0↔a.v=b.v:=by
 have h1:=al1 ha hb
 have h2:=al2 ha hb
 rcases ajB a b with h | h | h
 ·have:=h1.1 h;exact ⟨fun e=>by omega,fun e=>by grind⟩
 ·exact ⟨fun _=>by
   have n1:¬ a.v<b.v:=fun e=>by have:=h1.2 e;omega
   have n2:¬ b.v<a.v:=fun e=>by have:=h2.2 e;omega
   grind,fun _=>h⟩
 ·have:=h2.1 h;exact ⟨fun e=>by omega,fun e=>by grind⟩
def azz (p r:Fq×Fq):Prop:=¬ 0<acO p.2 r.1/\¬ (acO p.2 r.1=0/\acO p.1 p.2=0/\acO r.1 r.2=0)
def aAE (f:List Int) (rs:List (Fq×Fq)) (k:Nat):Prop:=vld 2 f (rs.getD k r00).1 (rs.getD k r00).2=true/\(0<k->azz (rs.getD (k-1) r00) (rs.getD k r00))
def azA (f:List Int) (rs:List (Fq×Fq)):Prop:=(rs.length:Int)=nall f/\∀ k,k<rs.length->aAE f rs k
section
variable {f:List Int}
theorem RF.pr {xs:List Pt} {rs:List (Fq×Fq)} (h:RF f xs rs) {j k:Nat} (hj:j<k) (hk:k<xs.length):azz (rs.getD j r00) (rs.getD k r00):=by
 have a:=h.fa (Nat.lt_trans hj hk)
 have b:=h.fa hk
 refine ⟨fun c=>?_,fun ⟨c1,c2,c3⟩=>?_⟩
 ·have:=(ajC a.2.p b.1.p).1 c
  have:=h.ord j k hj hk
  grind
 ·have e1:=(acN a.2.p b.1.p).1 c1
  have e2:=(acN a.1.p a.2.p).1 c2
  have e3:=(acN b.1.p b.2.p).1 c3
  have i1:=h.iso j (Nat.lt_trans hj hk)
  have i2:=h.iso k hk
  have lt:=auO h.lst.1 hj hk
  rcases i1.2 with i1 | i1
  ·rcases i2.2 with i2 | i2
   ·rw[i1.2,i2.2] at lt
    have:=Pt.aaH.1 lt
    grind
   ·grind
  ·grind
theorem aot (h9:PQ f):azA f (acf f):=by
 by_cases h0:aac f=0
 ·rw[aor h0]
  exact ⟨by rw[ani h0];rfl,fun k hk=>absurd hk (Nat.not_lt_zero _)⟩
 ·obtain ⟨xs,h⟩:=awK h9 h0
  exact ⟨agl h9 h0,fun k hk=>⟨h.vld h9 h0 (by rw[<- h.len];exact hk),fun hk0=>h.pr (by omega) (by rw[<- h.len];exact hk)⟩⟩
end
end Go.Proofs.YtdimmlckpgpgcaaGreat
