/- What Valid says of two fractions, what the list of Roots is, and that Complete accepts it. Plain: no program. -/
import Derived.Test.YtpeiiomjnjemjaaGreatIsv
namespace Go.Proofs.YtpeiiomjnjemjaaGreat
open Go.RowKit
theorem isl_fqb {Q:List Int} {PS:List (List Int)}:∀ (n:Nat) (a b:Fq),IsFit Q PS n a b->∀ r∈isl Q PS n a b,FqB r.1/\FqB r.2
 | 0,_,_,h,_,_=>h.elim
 | n+1,a,b,⟨ha,hb,h⟩,r,hr=>by
   have e:isl Q PS (n+1) a b=if icnt Q PS a b<1 then [] else if icnt Q PS a b=1/\a.sgn Q≠0/\b.sgn Q≠0 then [(a.nf,b.nf)] else isl Q PS n a (a.mid b) ++ (if (a.mid b).sgn Q=0 then [((a.mid b).nf,(a.mid b).nf)] else []) ++ isl Q PS n (a.mid b) b:=rfl
   rw[e] at hr
   by_cases c1:icnt Q PS a b<1
   ·rw[if_pos c1] at hr;simp at hr
   rw[if_neg c1] at hr
   by_cases c2:icnt Q PS a b=1/\a.sgn Q≠0/\b.sgn Q≠0
   ·rw[if_pos c2,List.mem_singleton] at hr
    rw[hr]
    exact ⟨ha.nf,hb.nf⟩
   rw[if_neg c2] at hr
   obtain ⟨h1,h2,h3⟩:=(h.resolve_left c1).resolve_left c2
   rcases List.mem_append.1 hr with hr | hr
   ·rcases List.mem_append.1 hr with hr | hr
    ·exact isl_fqb n _ _ h2 r hr
    ·split at hr
     ·rw[List.mem_singleton] at hr
      rw[hr]
      exact ⟨h1.nf,h1.nf⟩
     ·simp at hr
   ·exact isl_fqb n _ _ h3 r hr
theorem proots_fqb {f:List Int} (h9:PQ f):∀ r∈proots f,FqB r.1/\FqB r.2:=by
 unfold proots
 by_cases h:plen (qpart f)<2
 ·rw[if_pos h];intro r hr;simp at hr
 ·rw[if_neg h]
  have h0:plen f≠0:=fun h0=>by rw[qpart_nil h0] at h;exact h (by decide)
  exact isl_fqb _ _ _ (roots_fit (SqF.of9 h9 h0)).1
theorem vld_lt {a b:Fq} (ha:0<a.q) (hb:0<b.q):a.z*(b.q:Int)<b.z*(a.q:Int)↔a.v<b.v:=(frac_lt ha hb).symm
section
variable {f:List Int} {a b:Fq} {x:Pt}
def IsoV (f:List Int) (x:Pt) (a b:Fq):Prop :=
 sgp f x=0/\((a.v=b.v/\x=a.p)∨(a.v<b.v/\sgp f a.p≠0/\sgp f b.p≠0/\a.p<x/\x<b.p/\∀ y,sgp f y=0->a.p<y->y<b.p->y=x))
theorem IsoV.le (h:IsoV f x a b):a.v<=b.v:=by
 rcases h.2 with h | h
 ·rw[h.1];exact Rat.le_refl
 ·grind
theorem IsoV.lo (h:IsoV f x a b):¬ x<a.p:=by
 rcases h.2 with h | h
 ·rw[h.2];exact Pt.irr _
 ·exact Pt.asym h.2.2.2.1
theorem IsoV.hi (h:IsoV f x a b):¬ b.p<x:=by
 rcases h.2 with h | h
 ·rw[h.2];unfold Fq.p;rw[h.1];exact Pt.irr _
 ·exact Pt.asym h.2.2.2.2.1
theorem IsoV.uniq {y:Pt} (h:IsoV f x a b) (h':IsoV f y a b):x=y:=by
 rcases h.2 with h1 | h1
 ·rcases h'.2 with h2 | h2
  ·rw[h1.2,h2.2]
  ·grind
 ·rcases h'.2 with h2 | h2
  ·grind
  ·exact h2.2.2.2.2.2 x h.1 h1.2.2.2.1 h1.2.2.2.2.1
theorem Iso.v {Q:List Int} {r:Fq×Fq} (h:Iso Q x r) (hx:sgp f x=0) (e:∀ y,sgp f y=0↔sgp Q y=0):IsoV f x r.1 r.2:=by
 refine ⟨hx,?_⟩
 rcases h.2.2 with ⟨h1,h2⟩ | ⟨h1,h2,h3,h4,h5,h6⟩
 ·exact .inl ⟨by rw[h1],h2⟩
 ·exact .inr ⟨h1,fun h=>h2 ((e _).1 h),fun h=>h3 ((e _).1 h),h4,h5,fun y hy=>h6 y ((e y).1 hy)⟩
theorem fq_lt:a.p<b.p↔a.v<b.v:=Pt.of_lt_of
theorem vld_iff (h9:PQ f) (h0:plen f≠0) (ha:0<a.q) (hb:0<b.q):vld 2 f a b=true↔∃ x,IsoV f x a b:=by
 unfold vld
 by_cases h2:plen f<2
 ·rw[if_pos h2]
  have h1:plen f=1:=by omega
  exact ⟨fun h=>by simp at h,fun ⟨x,h⟩=>absurd h.1 (no_roots h1 x)⟩
 rw[if_neg h2]
 by_cases c:a.z*(b.q:Int)<b.z*(a.q:Int)
 ·rw[if_pos c]
  have cv:=(vld_lt ha hb).1 c
  have cp:a.p<b.p:=Pt.of_lt_of.2 cv
  rw[sgn_pt ha,sgn_pt hb]
  by_cases ea:sgp f a.p=0
  ·rw[if_pos ea]
   exact ⟨fun h=>by simp at h,fun ⟨x,h⟩=>by
    rcases h.2 with h | h
    ·grind
    ·exact absurd ea h.2.1⟩
  rw[if_neg ea]
  by_cases eb:sgp f b.p=0
  ·rw[if_pos eb]
   exact ⟨fun h=>by simp at h,fun ⟨x,h⟩=>by
    rcases h.2 with h | h
    ·grind
    ·exact absurd eb h.2.2.1⟩
  rw[if_neg eb]
  obtain ⟨xs,hx⟩:=roots_lst h0 (fun x=>a.p<x/\(x<b.p∨x=b.p))
  have hc:fcount f a b=xs.length:=ncount_half h9 h0 ha hb c hx
  rw[hc,beq_iff_eq]
  have hin:∀ y,y∈xs↔sgp f y=0/\a.p<y/\y<b.p:=fun y=>by
   rw[hx.2]
   exact ⟨fun ⟨h1,h2,h3⟩=>⟨h1,h2,h3.resolve_right fun e=>eb (e ▸ h1)⟩,fun ⟨h1,h2,h3⟩=>⟨h1,h2,.inl h3⟩⟩
  constructor
  ·intro h
   obtain ⟨x,rfl⟩:=List.length_eq_one_iff.1 (by omega:xs.length=1)
   have hm:=(hin x).1 (by simp)
   exact ⟨x,hm.1,.inr ⟨cv,ea,eb,hm.2.1,hm.2.2,fun y h1 h2 h3=>by simpa using (hin y).2 ⟨h1,h2,h3⟩⟩⟩
  ·rintro ⟨x,h,h1 | h1⟩
   ·grind
   ·have e:xs=[x]:=asc_uniq hx.1 (List.pairwise_singleton _ _) fun y=>by
     rw[hin,List.mem_singleton]
     exact ⟨fun h2=>h1.2.2.2.2.2 y h2.1 h2.2.1 h2.2.2,fun e=>e ▸ ⟨h,h1.2.2.2.1,h1.2.2.2.2.1⟩⟩
    rw[e];rfl
 rw[if_neg c]
 have cv:¬ a.v<b.v:=fun h=>c ((vld_lt ha hb).2 h)
 by_cases c2:b.z*(a.q:Int)<a.z*(b.q:Int)
 ·rw[if_pos c2]
  have cv2:=(vld_lt hb ha).1 c2
  exact ⟨fun h=>by simp at h,fun ⟨x,h⟩=>by have:=h.le;grind⟩
 rw[if_neg c2]
 have cv2:¬ b.v<a.v:=fun h=>c2 ((vld_lt hb ha).2 h)
 have e:a.v=b.v:=by grind
 rw[beq_iff_eq,sgn_pt ha]
 exact ⟨fun h=>⟨a.p,h,.inl ⟨e,rfl⟩⟩,fun ⟨x,h⟩=>by
  rcases h.2 with h2 | h2
  ·rw[<- h2.2];exact h.1
  ·grind⟩
end
def r00:Fq×Fq:=(⟨0,1⟩,⟨0,1⟩)
instance instPt:Inhabited Pt:=⟨Pt.of 0⟩
structure RF (f:List Int) (xs:List Pt) (rs:List (Fq×Fq)):Prop where
 len:rs.length=xs.length
 lst:Lst (fun x=>sgp f x=0) xs
 iso:∀ k,k<xs.length->IsoV f (xs.getD k default) (rs.getD k r00).1 (rs.getD k r00).2
 ord:∀ j k,j<k->k<xs.length->(rs.getD j r00).2.v<=(rs.getD k r00).1.v
 fq:∀ r∈rs,FqB r.1/\FqB r.2
section
variable {f:List Int}
theorem Isl.get {Q:List Int} {xs:List Pt} {rs:List (Fq×Fq)} {lo hi:Rat} (h:Isl Q xs rs lo hi) :
  (∀ k,k<xs.length->Iso Q (xs.getD k default) (rs.getD k r00)/\lo<=(rs.getD k r00).1.v)/\∀ j k,j<k->k<xs.length->(rs.getD j r00).2.v<=(rs.getD k r00).1.v:=by
 induction h with
 | nil a b h=>exact ⟨fun k hk=>absurd hk (Nat.not_lt_zero _),fun j k _ hk=>absurd hk (Nat.not_lt_zero _)⟩
 | @cons x xs r l a c b h h1 h2 h3 ih =>
   refine ⟨fun k hk=>?_,fun j k hj hk=>?_⟩
   ·match k,hk with
    | 0,_=>exact ⟨h,h1⟩
    | k+1,hk =>
      obtain ⟨g1,g2⟩:=ih.1 k (by rw[List.length_cons] at hk;omega)
      have hl:=h.le
      exact ⟨g1,show a<=(l.getD k r00).1.v by grind⟩
   ·match j,k,hj,hk with
    | 0,k+1,_,hk =>
      have g2:=(ih.1 k (by rw[List.length_cons] at hk;omega)).2
      show r.2.v<=(l.getD k r00).1.v
      grind
    | j+1,k+1,hj,hk=>exact ih.2 j k (by omega) (by rw[List.length_cons] at hk;omega)
theorem getD_mem {α:Type} {l:List α} {k:Nat} (h:k<l.length) (d:α):l.getD k d∈l:=by
 rw[List.getD_eq_getElem?_getD,List.getElem?_eq_getElem h]
 exact List.getElem_mem h
theorem rf_ex (h9:PQ f) (h0:plen f≠0):∃ xs,RF f xs (proots f):=by
 obtain ⟨xs,hx⟩:=roots_lst h0 (fun _=>True)
 have hx1:Lst (fun x=>sgp f x=0) xs:=hx.congr fun x=>⟨fun h=>h.1,fun h=>⟨h,trivial⟩⟩
 obtain ⟨lo,hi,hi2⟩:=proots_isl h9 h0 hx1
 have hq:=q_facts h9.q h0
 have hg:=hi2.get
 exact ⟨xs,hi2.length,hx1,fun k hk=>(hg.1 k hk).1.v ((hx1.2 _).1 (getD_mem hk _)) fun y=>(hq.root y).symm,hg.2,proots_fqb h9⟩
theorem proots_nil (h0:plen f=0):proots f=[]:=by
 unfold proots
 rw[if_pos (by rw[qpart_nil h0];decide)]
theorem nall_nil (h0:plen f=0):nall f=0:=nall_none h0
theorem proots_lt (h9:PQ f):(proots f).length<=plen (qpart f)-1:=by
 unfold proots
 by_cases h:plen (qpart f)<2
 ·rw[if_pos h];exact Nat.zero_le _
 ·rw[if_neg h]
  have:=nroots_lt (SqF.of9 h9 fun h0=>by rw[qpart_nil h0] at h;exact h (by decide))
  omega
theorem proots_le12 (h9:PQ f):(proots f).length<=12:=by
 have:=proots_lt h9
 have:=h9.pl
 omega
theorem RF.fa {xs:List Pt} {rs:List (Fq×Fq)} (h:RF f xs rs) {k:Nat} (hk:k<xs.length):FqB (rs.getD k r00).1/\FqB (rs.getD k r00).2:=h.fq _ (getD_mem (by rw[h.len];exact hk) _)
theorem RF.vld {xs:List Pt} {rs:List (Fq×Fq)} (h:RF f xs rs) (h9:PQ f) (h0:plen f≠0) {k:Nat} (hk:k<xs.length):vld 2 f (rs.getD k r00).1 (rs.getD k r00).2=true :=
 (vld_iff h9 h0 (h.fa hk).1.p (h.fa hk).2.p).2 ⟨_,h.iso k hk⟩
theorem asc_get {xs:List Pt} (h:Asc xs) {j k:Nat} (hj:j<k) (hk:k<xs.length):xs.getD j default<xs.getD k default:=by
 rw[List.getD_eq_getElem?_getD,List.getD_eq_getElem?_getD,List.getElem?_eq_getElem hk,List.getElem?_eq_getElem (Nat.lt_trans hj hk)]
 exact List.pairwise_iff_getElem.1 h j k _ hk hj
end
def fcmp (a b:Fq):Int:=cmpz (a.z*(b.q:Int)) (b.z*(a.q:Int))
theorem fcmp_lt {a b:Fq} (ha:0<a.q) (hb:0<b.q):fcmp a b=-1↔a.v<b.v:=by
 rw[<- vld_lt ha hb];unfold fcmp cmpz;constructor
 ·intro h;split at h
  ·assumption
  ·split at h<;>omega
 ·intro h;rw[if_pos h]
theorem fcmp_gt {a b:Fq} (ha:0<a.q) (hb:0<b.q):fcmp a b=1↔b.v<a.v:=by
 rw[<- vld_lt hb ha];unfold fcmp cmpz;constructor
 ·intro h;split at h
  ·omega
  ·split at h<;>omega
 ·intro h;rw[if_neg (by omega),if_neg (by omega)]
theorem fcmp_or (a b:Fq):fcmp a b=-1∨fcmp a b=0∨fcmp a b=1:=by
 unfold fcmp cmpz;split
 ·simp
 ·split<;>simp
theorem fcmp_pos {a b:Fq} (ha:0<a.q) (hb:0<b.q):0<fcmp a b↔b.v<a.v:=by
 rw[<- fcmp_gt ha hb];rcases fcmp_or a b with h | h | h<;>omega
theorem fcmp_zero {a b:Fq} (ha:0<a.q) (hb:0<b.q):fcmp a b=0↔a.v=b.v:=by
 have h1:=fcmp_lt ha hb
 have h2:=fcmp_gt ha hb
 rcases fcmp_or a b with h | h | h
 ·have:=h1.1 h;exact ⟨fun e=>by omega,fun e=>by grind⟩
 ·exact ⟨fun _=>by
   have n1:¬ a.v<b.v:=fun e=>by have:=h1.2 e;omega
   have n2:¬ b.v<a.v:=fun e=>by have:=h2.2 e;omega
   grind,fun _=>h⟩
 ·have:=h2.1 h;exact ⟨fun e=>by omega,fun e=>by grind⟩
def prOK (p r:Fq×Fq):Prop:=¬ 0<fcmp p.2 r.1/\¬ (fcmp p.2 r.1=0/\fcmp p.1 p.2=0/\fcmp r.1 r.2=0)
def stOK (f:List Int) (rs:List (Fq×Fq)) (k:Nat):Prop:=vld 2 f (rs.getD k r00).1 (rs.getD k r00).2=true/\(0<k->prOK (rs.getD (k-1) r00) (rs.getD k r00))
def Cmpl (f:List Int) (rs:List (Fq×Fq)):Prop:=(rs.length:Int)=nall f/\∀ k,k<rs.length->stOK f rs k
def stLaw (f:List Int) (rs:List (Fq×Fq)) (k:Nat):Prop:=vld 1 f (rs.getD k r00).1 (rs.getD k r00).2=true/\(0<k->¬ 0<fcmp (rs.getD (k-1) r00).2 (rs.getD k r00).1)
def CmplL (f:List Int) (rs:List (Fq×Fq)):Prop:=(rs.length:Int)=nall f/\∀ k,k<rs.length->stLaw f rs k
section
variable {f:List Int}
theorem RF.pr {xs:List Pt} {rs:List (Fq×Fq)} (h:RF f xs rs) {j k:Nat} (hj:j<k) (hk:k<xs.length):prOK (rs.getD j r00) (rs.getD k r00):=by
 have a:=h.fa (Nat.lt_trans hj hk)
 have b:=h.fa hk
 refine ⟨fun c=>?_,fun ⟨c1,c2,c3⟩=>?_⟩
 ·have:=(fcmp_pos a.2.p b.1.p).1 c
  have:=h.ord j k hj hk
  grind
 ·have e1:=(fcmp_zero a.2.p b.1.p).1 c1
  have e2:=(fcmp_zero a.1.p a.2.p).1 c2
  have e3:=(fcmp_zero b.1.p b.2.p).1 c3
  have i1:=h.iso j (Nat.lt_trans hj hk)
  have i2:=h.iso k hk
  have lt:=asc_get h.lst.1 hj hk
  rcases i1.2 with i1 | i1
  ·rcases i2.2 with i2 | i2
   ·rw[i1.2,i2.2] at lt
    have:=Pt.of_lt_of.1 lt
    grind
   ·grind
  ·grind
theorem cmpl_law (h9:PQ f) {rs:List (Fq×Fq)} (hr:∀ r∈rs,FqB r.1/\FqB r.2) (h:Cmpl f rs):CmplL f rs :=
 ⟨h.1,fun k hk=>by
   obtain ⟨h1,h2⟩:=h.2 k hk
   have hf:=hr _ (getD_mem hk r00)
   exact ⟨by rw[vld_one h9 hf.1.p hf.2.p];exact h1,fun h0=>(h2 h0).1⟩⟩
end
end Go.Proofs.YtpeiiomjnjemjaaGreat
