/- For every slice of int16s the law IsolateGaps returns true and its argument reads as before: isolate.Gaps finds numbers between the roots of a polynomial. No condition. -/
import Derived.Test.YtppggpfcdgilmaaGreatIsv
import Derived.Test.YtppggpfcdgilmaaGreatIsx
import Derived.Test.YtppggpfcdgilmaaGreatRed
import Derived.Test.YtppggpfcdgilmaaGreatIdP
import Derived.Test.YtppggpfcdgilmaaGreatLin
import Derived.Test.YtppggpfcdgilmaaGreatAdp
import Derived.Test.YtppggpfcdgilmaaGreatVdL
import Derived.Test.YtppggpfcdgilmaaGreatSgw
import Derived.Test.YtppggpfcdgilmaaGreatRowP
namespace Go.Proofs.YtppggpfcdgilmaaGreat
open Go.RowKit
theorem isl_fqb {Q:List Int} {PS:List (List Int)}:∀ (n:Nat) (a b:Fq),IsFit Q PS n a b→∀ r∈isl Q PS n a b,FqB r.1∧FqB r.2
 | 0,_,_,h,_,_=>h.elim
 | n+1,a,b,⟨ha,hb,h⟩,r,hr=>by
   have e:isl Q PS (n+1) a b=if icnt Q PS a b<1 then [] else if icnt Q PS a b=1∧a.sgn Q≠0∧b.sgn Q≠0 then [(a.nf,b.nf)] else isl Q PS n a (a.mid b) ++ (if (a.mid b).sgn Q=0 then [((a.mid b).nf,(a.mid b).nf)] else []) ++ isl Q PS n (a.mid b) b:=rfl
   rw [e] at hr
   by_cases c1:icnt Q PS a b<1
   ·rw [if_pos c1] at hr;simp at hr
   rw [if_neg c1] at hr
   by_cases c2:icnt Q PS a b=1∧a.sgn Q≠0∧b.sgn Q≠0
   ·rw [if_pos c2,List.mem_singleton] at hr
    rw [hr]
    exact ⟨ha.nf,hb.nf⟩
   rw [if_neg c2] at hr
   obtain ⟨h1,h2,h3⟩:=(h.resolve_left c1).resolve_left c2
   rcases List.mem_append.1 hr with hr | hr
   ·rcases List.mem_append.1 hr with hr | hr
    ·exact isl_fqb n _ _ h2 r hr
    ·split at hr
     ·rw [List.mem_singleton] at hr
      rw [hr]
      exact ⟨h1.nf,h1.nf⟩
     ·simp at hr
   ·exact isl_fqb n _ _ h3 r hr
theorem proots_fqb {f:List Int} (h9:P9 f):∀ r∈proots f,FqB r.1∧FqB r.2:=by
 unfold proots
 by_cases h:plen (qpart f)<2
 ·rw [if_pos h];intro r hr;simp at hr
 ·rw [if_neg h]
  have h0:plen f≠0:=fun h0=>by rw [qpart_nil h0] at h;exact h (by decide)
  exact isl_fqb _ _ _ (roots_fit (SqF.of9 h9 h0)).1
theorem vld_lt {a b:Fq} (ha:0<a.q) (hb:0<b.q):a.z*(b.q:Int)<b.z*(a.q:Int)↔a.v<b.v:=(frac_lt ha hb).symm
section
variable {f:List Int} {a b:Fq} {x:Pt}
def IsoV (f:List Int) (x:Pt) (a b:Fq):Prop :=
 sgp f x=0∧((a.v=b.v∧x=a.p)∨(a.v<b.v∧sgp f a.p≠0∧sgp f b.p≠0∧a.p<x∧x<b.p∧∀ y,sgp f y=0→a.p<y→y<b.p→y=x))
theorem IsoV.le (h:IsoV f x a b):a.v≤b.v:=by
 rcases h.2 with h | h
 ·rw [h.1];exact Rat.le_refl
 ·grind
theorem IsoV.lo (h:IsoV f x a b):¬ x<a.p:=by
 rcases h.2 with h | h
 ·rw [h.2];exact Pt.irr _
 ·exact Pt.asym h.2.2.2.1
theorem IsoV.hi (h:IsoV f x a b):¬ b.p<x:=by
 rcases h.2 with h | h
 ·rw [h.2];unfold Fq.p;rw [h.1];exact Pt.irr _
 ·exact Pt.asym h.2.2.2.2.1
theorem IsoV.uniq {y:Pt} (h:IsoV f x a b) (h':IsoV f y a b):x=y:=by
 rcases h.2 with h1 | h1
 ·rcases h'.2 with h2 | h2
  ·rw [h1.2,h2.2]
  ·grind
 ·rcases h'.2 with h2 | h2
  ·grind
  ·exact h2.2.2.2.2.2 x h.1 h1.2.2.2.1 h1.2.2.2.2.1
theorem Iso.v {Q:List Int} {r:Fq×Fq} (h:Iso Q x r) (hx:sgp f x=0) (e:∀ y,sgp f y=0↔sgp Q y=0):IsoV f x r.1 r.2:=by
 refine ⟨hx,?_⟩
 rcases h.2.2 with ⟨h1,h2⟩ | ⟨h1,h2,h3,h4,h5,h6⟩
 ·exact .inl ⟨by rw [h1],h2⟩
 ·exact .inr ⟨h1,fun h=>h2 ((e _).1 h),fun h=>h3 ((e _).1 h),h4,h5,fun y hy=>h6 y ((e y).1 hy)⟩
theorem vld_iff (h9:P9 f) (h0:plen f≠0) (ha:0<a.q) (hb:0<b.q):vld 2 f a b=true↔∃ x,IsoV f x a b:=by
 unfold vld
 by_cases h2:plen f<2
 ·rw [if_pos h2]
  have h1:plen f=1:=by omega
  exact ⟨fun h=>by simp at h,fun ⟨x,h⟩=>absurd h.1 (no_roots h1 x)⟩
 rw [if_neg h2]
 by_cases c:a.z*(b.q:Int)<b.z*(a.q:Int)
 ·rw [if_pos c]
  have cv:=(vld_lt ha hb).1 c
  have cp:a.p<b.p:=Pt.of_lt_of.2 cv
  rw [sgn_pt ha,sgn_pt hb]
  by_cases ea:sgp f a.p=0
  ·rw [if_pos ea]
   exact ⟨fun h=>by simp at h,fun ⟨x,h⟩=>by
    rcases h.2 with h | h
    ·grind
    ·exact absurd ea h.2.1⟩
  rw [if_neg ea]
  by_cases eb:sgp f b.p=0
  ·rw [if_pos eb]
   exact ⟨fun h=>by simp at h,fun ⟨x,h⟩=>by
    rcases h.2 with h | h
    ·grind
    ·exact absurd eb h.2.2.1⟩
  rw [if_neg eb]
  obtain ⟨xs,hx⟩:=roots_lst h0 (fun x=>a.p<x∧(x<b.p∨x=b.p))
  have hc:fcount f a b=xs.length:=ncount_half h9 h0 ha hb c hx
  rw [hc,beq_iff_eq]
  have hin:∀ y,y∈xs↔sgp f y=0∧a.p<y∧y<b.p:=fun y=>by
   rw [hx.2]
   exact ⟨fun ⟨h1,h2,h3⟩=>⟨h1,h2,h3.resolve_right fun e=>eb (e ▸ h1)⟩,fun ⟨h1,h2,h3⟩=>⟨h1,h2,.inl h3⟩⟩
  constructor
  ·intro h
   obtain ⟨x,rfl⟩:=List.length_eq_one_iff.1 (by omega:xs.length=1)
   have hm:=(hin x).1 (by simp)
   exact ⟨x,hm.1,.inr ⟨cv,ea,eb,hm.2.1,hm.2.2,fun y h1 h2 h3=>by simpa using (hin y).2 ⟨h1,h2,h3⟩⟩⟩
  ·rintro ⟨x,h,h1 | h1⟩
   ·grind
   ·have e:xs=[x]:=asc_uniq hx.1 (List.pairwise_singleton _ _) fun y=>by
     rw [hin,List.mem_singleton]
     exact ⟨fun h2=>h1.2.2.2.2.2 y h2.1 h2.2.1 h2.2.2,fun e=>e ▸ ⟨h,h1.2.2.2.1,h1.2.2.2.2.1⟩⟩
    rw [e];rfl
 rw [if_neg c]
 have cv:¬ a.v<b.v:=fun h=>c ((vld_lt ha hb).2 h)
 by_cases c2:b.z*(a.q:Int)<a.z*(b.q:Int)
 ·rw [if_pos c2]
  have cv2:=(vld_lt hb ha).1 c2
  exact ⟨fun h=>by simp at h,fun ⟨x,h⟩=>by have:=h.le;grind⟩
 rw [if_neg c2]
 have cv2:¬ b.v<a.v:=fun h=>c2 ((vld_lt hb ha).2 h)
 have e:a.v=b.v:=by grind
 rw [beq_iff_eq,sgn_pt ha]
 exact ⟨fun h=>⟨a.p,h,.inl ⟨e,rfl⟩⟩,fun ⟨x,h⟩=>by
  rcases h.2 with h2 | h2
  ·rw [← h2.2];exact h.1
  ·grind⟩
end
def r00:Fq×Fq:=(⟨0,1⟩,⟨0,1⟩)
instance:Inhabited Pt:=⟨Pt.of 0⟩
structure RF (f:List Int) (xs:List Pt) (rs:List (Fq×Fq)):Prop where
 len:rs.length=xs.length
 lst:Lst (fun x=>sgp f x=0) xs
 iso:∀ k,k<xs.length→IsoV f (xs.getD k default) (rs.getD k r00).1 (rs.getD k r00).2
 ord:∀ j k,j<k→k<xs.length→(rs.getD j r00).2.v≤(rs.getD k r00).1.v
 fq:∀ r∈rs,FqB r.1∧FqB r.2
section
variable {f:List Int}
theorem Isl.get {Q:List Int} {xs:List Pt} {rs:List (Fq×Fq)} {lo hi:Rat} (h:Isl Q xs rs lo hi) :
 (∀ k,k<xs.length→Iso Q (xs.getD k default) (rs.getD k r00)∧lo≤(rs.getD k r00).1.v)∧∀ j k,j<k→k<xs.length→(rs.getD j r00).2.v≤(rs.getD k r00).1.v:=by
 induction h with
 | nil a b h=>exact ⟨fun k hk=>absurd hk (Nat.not_lt_zero _),fun j k _ hk=>absurd hk (Nat.not_lt_zero _)⟩
 | @cons x xs r l a c b h h1 h2 h3 ih =>
   refine ⟨fun k hk=>?_,fun j k hj hk=>?_⟩
   ·match k,hk with
    | 0,_=>exact ⟨h,h1⟩
    | k+1,hk =>
      obtain ⟨g1,g2⟩:=ih.1 k (by rw [List.length_cons] at hk;omega)
      have hl:=h.le
      exact ⟨g1,show a≤(l.getD k r00).1.v by grind⟩
   ·match j,k,hj,hk with
    | 0,k+1,_,hk =>
      have g2:=(ih.1 k (by rw [List.length_cons] at hk;omega)).2
      show r.2.v≤(l.getD k r00).1.v
      grind
    | j+1,k+1,hj,hk=>exact ih.2 j k (by omega) (by rw [List.length_cons] at hk;omega)
theorem getD_mem {α:Type} {l:List α} {k:Nat} (h:k<l.length) (d:α):l.getD k d∈l:=by
 rw [List.getD_eq_getElem?_getD,List.getElem?_eq_getElem h]
 exact List.getElem_mem h
theorem rf_ex (h9:P9 f) (h0:plen f≠0):∃ xs,RF f xs (proots f):=by
 obtain ⟨xs,hx⟩:=roots_lst h0 (fun _=>True)
 have hx1:Lst (fun x=>sgp f x=0) xs:=hx.congr fun x=>⟨fun h=>h.1,fun h=>⟨h,trivial⟩⟩
 obtain ⟨lo,hi,hi2⟩:=proots_isl h9 h0 hx1
 have hq:=q_facts h9.q h0
 have hg:=hi2.get
 exact ⟨xs,hi2.length,hx1,fun k hk=>(hg.1 k hk).1.v ((hx1.2 _).1 (getD_mem hk _)) fun y=>(hq.root y).symm,hg.2,proots_fqb h9⟩
theorem proots_nil (h0:plen f=0):proots f=[]:=by
 unfold proots
 rw [if_pos (by rw [qpart_nil h0];decide)]
theorem nall_nil (h0:plen f=0):nall f=0:=pline_nil h0
theorem proots_le9 (h9:P9 f):(proots f).length≤9:=by
 unfold proots
 by_cases h:plen (qpart f)<2
 ·rw [if_pos h];exact Nat.zero_le _
 ·rw [if_neg h]
  exact nroots_len (SqF.of9 h9 fun h0=>by rw [qpart_nil h0] at h;exact h (by decide))
theorem RF.fa {xs:List Pt} {rs:List (Fq×Fq)} (h:RF f xs rs) {k:Nat} (hk:k<xs.length):FqB (rs.getD k r00).1∧FqB (rs.getD k r00).2:=h.fq _ (getD_mem (by rw [h.len];exact hk) _)
theorem RF.vld {xs:List Pt} {rs:List (Fq×Fq)} (h:RF f xs rs) (h9:P9 f) (h0:plen f≠0) {k:Nat} (hk:k<xs.length):vld 2 f (rs.getD k r00).1 (rs.getD k r00).2=true :=
 (vld_iff h9 h0 (h.fa hk).1.p (h.fa hk).2.p).2 ⟨_,h.iso k hk⟩
theorem asc_get {xs:List Pt} (h:Asc xs) {j k:Nat} (hj:j<k) (hk:k<xs.length):xs.getD j default<xs.getD k default:=by
 rw [List.getD_eq_getElem?_getD,List.getD_eq_getElem?_getD,List.getElem?_eq_getElem hk,List.getElem?_eq_getElem (Nat.lt_trans hj hk)]
 exact List.pairwise_iff_getElem.1 h j k _ hk hj
end
def fcmp (a b:Fq):Int:=cmpz (a.z*(b.q:Int)) (b.z*(a.q:Int))
theorem fcmp_lt {a b:Fq} (ha:0<a.q) (hb:0<b.q):fcmp a b=-1↔a.v<b.v:=by
 rw [← vld_lt ha hb];unfold fcmp cmpz;constructor
 ·intro h;split at h
  ·assumption
  ·split at h<;>omega
 ·intro h;rw [if_pos h]
theorem fcmp_gt {a b:Fq} (ha:0<a.q) (hb:0<b.q):fcmp a b=1↔b.v<a.v:=by
 rw [← vld_lt hb ha];unfold fcmp cmpz;constructor
 ·intro h;split at h
  ·omega
  ·split at h<;>omega
 ·intro h;rw [if_neg (by omega),if_neg (by omega)]
theorem fcmp_or (a b:Fq):fcmp a b=-1∨fcmp a b=0∨fcmp a b=1:=by
 unfold fcmp cmpz;split
 ·simp
 ·split<;>simp
theorem fcmp_pos {a b:Fq} (ha:0<a.q) (hb:0<b.q):0<fcmp a b↔b.v<a.v:=by
 rw [← fcmp_gt ha hb];rcases fcmp_or a b with h | h | h<;>omega
theorem fcmp_zero {a b:Fq} (ha:0<a.q) (hb:0<b.q):fcmp a b=0↔a.v=b.v:=by
 have h1:=fcmp_lt ha hb
 have h2:=fcmp_gt ha hb
 rcases fcmp_or a b with h | h | h
 ·have:=h1.1 h;exact ⟨fun e=>by omega,fun e=>by grind⟩
 ·exact ⟨fun _=>by
   have n1:¬ a.v<b.v:=fun e=>by have:=h1.2 e;omega
   have n2:¬ b.v<a.v:=fun e=>by have:=h2.2 e;omega
   grind,fun _=>h⟩
 ·have:=h2.1 h;exact ⟨fun e=>by omega,fun e=>by grind⟩
def prOK (p r:Fq×Fq):Prop:=¬ 0<fcmp p.2 r.1∧¬ (fcmp p.2 r.1=0∧fcmp p.1 p.2=0∧fcmp r.1 r.2=0)
def stOK (f:List Int) (rs:List (Fq×Fq)) (k:Nat):Prop:=vld 2 f (rs.getD k r00).1 (rs.getD k r00).2=true∧(0<k→prOK (rs.getD (k-1) r00) (rs.getD k r00))
def Cmpl (f:List Int) (rs:List (Fq×Fq)):Prop:=(rs.length:Int)=nall f∧∀ k,k<rs.length→stOK f rs k
def stLaw (f:List Int) (rs:List (Fq×Fq)) (k:Nat):Prop:=vld 1 f (rs.getD k r00).1 (rs.getD k r00).2=true∧(0<k→¬ 0<fcmp (rs.getD (k-1) r00).2 (rs.getD k r00).1)
def CmplL (f:List Int) (rs:List (Fq×Fq)):Prop:=(rs.length:Int)=nall f∧∀ k,k<rs.length→stLaw f rs k
section
variable {f:List Int}
theorem RF.pr {xs:List Pt} {rs:List (Fq×Fq)} (h:RF f xs rs) {j k:Nat} (hj:j<k) (hk:k<xs.length):prOK (rs.getD j r00) (rs.getD k r00):=by
 have a:=h.fa (Nat.lt_trans hj hk)
 have b:=h.fa hk
 refine ⟨fun c=>?_,fun ⟨c1,c2,c3⟩=>?_⟩
 ·have:=(fcmp_pos a.2.p b.1.p).1 c
  have:=h.ord j k hj hk
  grind
 ·have e1:=(fcmp_zero a.2.p b.1.p).1 c1
  have e2:=(fcmp_zero a.1.p a.2.p).1 c2
  have e3:=(fcmp_zero b.1.p b.2.p).1 c3
  have i1:=h.iso j (Nat.lt_trans hj hk)
  have i2:=h.iso k hk
  have lt:=asc_get h.lst.1 hj hk
  rcases i1.2 with i1 | i1
  ·rcases i2.2 with i2 | i2
   ·rw [i1.2,i2.2] at lt
    have:=Pt.of_lt_of.1 lt
    grind
   ·grind
  ·grind
theorem cmpl_roots (h9:P9 f):Cmpl f (proots f):=by
 by_cases h0:plen f=0
 ·rw [proots_nil h0]
  exact ⟨by rw [nall_nil h0];rfl,fun k hk=>absurd hk (Nat.not_lt_zero _)⟩
 ·obtain ⟨xs,h⟩:=rf_ex h9 h0
  exact ⟨proots_len h9 h0,fun k hk=>⟨h.vld h9 h0 (by rw [← h.len];exact hk),fun hk0=>h.pr (by omega) (by rw [← h.len];exact hk)⟩⟩
theorem cmpl_law (h9:P9 f) {rs:List (Fq×Fq)} (hr:∀ r∈rs,FqB r.1∧FqB r.2) (h:Cmpl f rs):CmplL f rs :=
 ⟨h.1,fun k hk=>by
   obtain ⟨h1,h2⟩:=h.2 k hk
   have hf:=hr _ (getD_mem hk r00)
   exact ⟨by rw [vld_one h9 hf.1.p hf.2.p];exact h1,fun h0=>(h2 h0).1⟩⟩
end
end Go.Proofs.YtppggpfcdgilmaaGreat
namespace Go.Proofs.YtppggpfcdgilmaaGreat
open Go Go.RowKit
def BoolE (P:Prop) (e:Ending):Prop:=∃ v:Bool,e=.returned (.bool v)∧(v=true↔P)
theorem BoolE.yes {P:Prop} (h:P):BoolE P (.returned (.bool true)):=⟨true,rfl,⟨fun _=>h,fun _=>rfl⟩⟩
theorem BoolE.no {P:Prop} (h:¬ P):BoolE P (.returned (.bool false)):=⟨false,rfl,⟨fun h=>(by cases h),fun h2=>absurd h2 h⟩⟩
theorem BoolE.get {P:Prop} {e:Ending} (h:BoolE P e) (p:P):e=.returned (.bool true):=by
 obtain ⟨v,rfl,hv⟩:=h
 rw [hv.2 p]
theorem BoolE.not {P:Prop} {e:Ending} (h:BoolE P e) (p:¬ P):e=.returned (.bool false):=by
 obtain ⟨v,rfl,hv⟩:=h
 cases v with
 | false=>rfl
 | true=>exact absurd (hv.1 rfl) p
theorem Vals.get {w:World} {g o:Nat} {rs:List (Fq×Fq)} (h:Vals w g o rs) {k:Nat} (hk:k<rs.length) :
 ∃ n A l c B m d n' A' l' c' B' m' d',w.cell? ⟨g,o+k*6,none⟩=some (.bool n)∧w.cell? ⟨g,o+k*6+1,none⟩=some (.slice A l c)∧w.cell? ⟨g,o+k*6+2,none⟩=some (.slice B m d)∧w.cell? ⟨g,o+k*6+3,none⟩=some (.bool n')∧w.cell? ⟨g,o+k*6+4,none⟩=some (.slice A' l' c')∧w.cell? ⟨g,o+k*6+5,none⟩=some (.slice B' m' d') ∧
   IntN w n A l c (rs.getD k r00).1.z∧NatN w B m d (rs.getD k r00).1.q∧IntN w n' A' l' c' (rs.getD k r00).2.z∧NatN w B' m' d' (rs.getD k r00).2.q:=by
 have e:rs[k]?=some (rs.getD k r00):=by rw [List.getD_eq_getElem?_getD,List.getElem?_eq_getElem hk];rfl
 obtain ⟨vs,⟨n,A,l,c,B,m,d,n',A',l',c',B',m',d',hv,h1,h2,h3,h4⟩,hc⟩:=h k _ e
 subst hv
 exact ⟨n,A,l,c,B,m,d,n',A',l',c',B',m',d',hc 0 _ rfl,hc 1 _ rfl,hc 2 _ rfl,hc 3 _ rfl,hc 4 _ rfl,hc 5 _ rfl,h1,h2,h3,h4⟩
theorem getD_fqb {rs:List (Fq×Fq)} (h:∀ r∈rs,FqB r.1∧FqB r.2) {k:Nat} (hk:k<rs.length):FqB (rs.getD k r00).1∧FqB (rs.getD k r00).2:=by
 rw [List.getD_eq_getElem?_getD,List.getElem?_eq_getElem hk]
 exact h _ (List.getElem_mem hk)
set_option maxRecDepth 100000 in
set_option maxHeartbeats 8000000 in
theorem complete_any {I:IntPred} (hI:IK I) (Af:Option Addr) (lf cf:Nat) (f:List Int) (A:Option Addr) (la ca:Nat) (rs:List (Fq×Fq)) (w:World) (hf:PolyP I w Af lf cf f) (hl:f.length≤10) (h9:P9 f) (hr:RtsAt w A la ca rs) (hfq:∀ r∈rs,FqB r.1∧FqB r.2) (hla:la≤1000) :
 Calls Tryz.prog 25 #[.slice Af lf cf,.slice A la ca] w fun e w'=>BoolE (Cmpl f rs) e∧Below w.heap.size w w':=by
 have hlf:lf≤10:=by have:=hf.length;omega
 have hrl:=hr.length
 have HF:=Lib.hid hf
 have HRs:=Lib.hid hr
 have Hfq:=Lib.hid hfq
 clear hf hr hfq
 go_enter Tryz.func25,Tryz.ntmps25
 go_wp2_with fail
 refine (all_q hI _ _ _ f _ HF.out h9 (by omega)).mono ?_
 rintro e w1 ⟨rfl,hb1⟩
 obtain ⟨NA,hNA⟩:∃ N,N=nall f:=⟨_,rfl⟩
 rw [← hNA]
 have HNA:=Lib.hid hNA
 replace HF:=Lib.hid (HF.out.below hI hb1)
 replace HRs:=Lib.hid (HRs.out.below hb1)
 have Hb:=Lib.hid hb1
 clear hb1 hNA
 by_cases hn:(la:Int)=NA
 ·have b1:((la:Int) != NA)=false:=by rw [hn];simp
  have Hn:=Lib.hid hn
  have Hrl:=Lib.hid hrl
  clear hn hrl
  go_wp2_with fail
  obtain ⟨wo,hwo⟩:∃ wo,wo=w1:=⟨_,rfl⟩
  rw [← hwo] at HF HRs Hb ⊢
  clear hwo
  go_loopw [16] (fun s16 wr=>∃ k:Nat,k≤la∧s16=.int .i64 (k:Int)∧(∀ i,i<k→stOK f rs i)∧Below wo.heap.size wo wr) (fun s16 _=>la-(intOf s16).toNat)
  case atStart=>exact ⟨0,Nat.zero_le _,rfl,fun i hi=>absurd hi (Nat.not_lt_zero _),Bel.go⟩
  case round =>
   obtain ⟨k,hk,rfl,hst,hbw⟩:=hrel
   have Hst:=Lib.hid hst
   have HFr:=Lib.hid (HF.out.below hI hbw)
   have HRr:=Lib.hid (HRs.out.below hbw)
   have Hbw:=Lib.hid hbw
   clear hst
   by_cases hlt:k<la
   ·have Hkl:=Lib.hid hlt
    obtain ⟨b,o,rfl,hb0,hv⟩:∃ b o,A=some ⟨b,o,none⟩∧b<wr.heap.size∧Vals wr b o rs:=by
     rcases HRr.out.elems with ⟨h0,_⟩ | h
     ·omega
     ·exact h
    obtain ⟨n,A1,l1,c1,B1,m1,d1,n',A2,l2,c2,B2,m2,d2,e0,e1,e2,e3,e4,e5,z1,z2,z3,z4⟩:=hv.get (k:=k) (by rw [Hrl.out];exact hlt)
    obtain ⟨fa,fb⟩:=getD_fqb Hfq.out (k:=k) (by rw [Hrl.out];exact hlt)
    obtain ⟨r,hr⟩:∃ r,r=rs.getD k r00:=⟨_,rfl⟩
    rw [← hr] at z1 z2 z3 z4 fa fb
    have Hr:=Lib.hid hr
    have ka:(k:Int)<(la:Int):=by omega
    have p1:=fa.p
    have p2:=fb.p
    have T:=Lib.hid (TBox.make z1 z2 z3 z4)
    have jb:=below_new wr (tbox n A1 l1 c1 B1 m1 d1 n' A2 l2 c2 B2 m2 d2)
    replace HFr:=Lib.hid (HFr.out.below hI jb)
    have Hbx:=Lib.hid (Hbw.out.trans (jb.mono Hbw.out.size))
    have Hjb:=Lib.hid jb
    have x0:=T.out.r.c0
    have x1:=T.out.r.c1
    have x2:=T.out.r.c2
    have x3:=T.out.c3
    have x4:=T.out.c4
    have x5:=T.out.c5
    clear z1 z2 z3 z4 hv hr hk hlt
    go_wp2_with fail
    obtain ⟨V,hV⟩:∃ V,V=vld 2 f r.1 r.2:=⟨_,rfl⟩
    refine (valid_any hI _ _ _ f r.1 r.2 _ _ _ _ _ _ _ _ _ _ _ _ _ _ _ HFr.out hl h9 T.out.r.hz T.out.r.hq T.out.hz T.out.hq fa fb).mono ?_
    rintro e w3 ⟨he,hb3⟩
    have he2:e=.returned (.bool V):=by rw [hV];exact he
    subst he2
    have HV:=Lib.hid hV
    replace HFr:=Lib.hid (HFr.out.below hI hb3)
    replace HRr:=Lib.hid (HRr.out.below (jb.trans (hb3.mono jb.size)))
    replace T:=Lib.hid (T.out.move hb3)
    replace Hbx:=Lib.hid (Hbx.out.trans (hb3.mono Hbx.out.size))
    clear hb3 he hV x0 x1 x2 x3 x4 x5 jb e0 e1 e2 e3 e4 e5
    cases V with
    | false =>
      have FIN:=Lib.hid (show ¬ Cmpl f rs from fun h=>by
       have h1:=(h.2 k (by rw [Hrl.out];exact Hkl.out)).1
       rw [← Hr.out,← HV.out] at h1
       cases h1)
      go_wp2_with fail
      go_ret
      exact ⟨.no FIN.out,Hb.out.trans (Hbx.out.mono Hb.out.size)⟩
    | true =>
      by_cases hk0:k=0
      ·subst hk0
       have b2:((0:Int) == 0)=true:=rfl
       have ST:=Lib.hid (show stOK f rs 0 from ⟨by rw [← Hr.out];exact HV.out.symm,fun h=>absurd h (Nat.lt_irrefl _)⟩)
       go_wp2_with fail
       go_roundw
       case rel=>exact ⟨1,Hkl.out,rfl,fun i hi=>(by obtain rfl:i=0:=(by omega);exact ST.out),Hbx.out⟩
       case measure=>have:=Hkl.out;simp [intOf];omega
      ·obtain ⟨j,hj⟩:∃ j,k=j+1:=⟨k-1,by omega⟩
       have b2:((k:Int) == 0)=false:=by rw [beq_eq_false_iff_ne];omega
       have e1:(k:Int)-1=(j:Int):=by omega
       have i1:IntKind.i64.wrap (j:Int)=(j:Int):=IntWalk.i64_in _ (by have:=Hkl.out;omega)
       have w1:IntKind.i64.wrap ((k:Int)+1)=(k:Int)+1:=IntWalk.i64_in _ (by have:=Hkl.out;omega)
       have ja:(j:Int)<(la:Int):=by omega
       obtain ⟨hbl,hv3⟩:b<w3.heap.size∧Vals w3 b o rs:=by
        rcases HRr.out.elems with ⟨_,h0,_⟩ | ⟨b',o',h1,h2,h3⟩
        ·cases h0
        ·cases h1;exact ⟨h2,h3⟩
       have hjl:j<rs.length:=by rw [Hrl.out];have:=Hkl.out;omega
       obtain ⟨n3,A3,l3,c3,B3,m3,d3,n4,A4,l4,c4,B4,m4,d4,e0,e1',e2,e3,e4,e5,z1,z2,z3,z4⟩:=hv3.get hjl
       obtain ⟨fp1,fp2⟩:=getD_fqb Hfq.out hjl
       obtain ⟨p,hp⟩:∃ p,p=rs.getD j r00:=⟨_,rfl⟩
       rw [← hp] at z1 z2 z3 z4 fp1 fp2
       have ST:=Lib.hid (show prOK p r→stOK f rs k from fun h=>⟨by rw [← Hr.out];exact HV.out.symm,fun _=>by rw [show k-1=j by omega,← hp,← Hr.out];exact h⟩)
       have NO:=Lib.hid (show ¬ prOK p r→¬ Cmpl f rs from fun h h2=>h (by
        have h3:=(h2.2 k (by rw [Hrl.out];exact Hkl.out)).2 (by omega)
        rw [show k-1=j by omega,← hp,← Hr.out] at h3
        exact h3))
       have q1:=fp1.p
       have q2:=fp2.p
       have S:=Lib.hid (TBox.make z1 z2 z3 z4)
       have jb:=below_new w3 (tbox n3 A3 l3 c3 B3 m3 d3 n4 A4 l4 c4 B4 m4 d4)
       replace T:=Lib.hid (T.out.move jb)
       replace HFr:=Lib.hid (HFr.out.below hI jb)
       replace HRr:=Lib.hid (HRr.out.below jb)
       replace Hbx:=Lib.hid (Hbx.out.trans (jb.mono Hbx.out.size))
       have x0:=T.out.r.c0;have x1:=T.out.r.c1;have x2:=T.out.r.c2;have y3:=S.out.c3;have y4:=S.out.c4;have y5:=S.out.c5
       clear z1 z2 z3 z4 hv3 hp jb hj hk0 hbl hjl
       go_wp2_with fail
       refine (rcmp_any _ _ _ _ _ _ _ _ _ _ _ _ _ _ _ _ _ _ _ S.out.hz.at_ S.out.hq.at_ T.out.r.hz.at_ T.out.r.hq.at_ (by omega) (by omega) fp2.fz fp2.fq fa.fz fa.fq).mono ?_
       rintro e w5 ⟨rfl,hb5⟩
       obtain ⟨C1,hC1⟩:∃ C,C=cmpz (p.2.z*(r.1.q:Int)) (r.1.z*(p.2.q:Int)):=⟨_,rfl⟩
       rw [← hC1]
       have HC1:=Lib.hid (show C1=fcmp p.2 r.1 from hC1)
       replace T:=Lib.hid (T.out.move hb5)
       replace S:=Lib.hid (S.out.move hb5)
       replace HFr:=Lib.hid (HFr.out.below hI hb5)
       replace HRr:=Lib.hid (HRr.out.below hb5)
       replace Hbx:=Lib.hid (Hbx.out.trans (hb5.mono Hbx.out.size))
       clear hC1 hb5 x0 x1 x2 y3 y4 y5 e0 e1' e2 e3 e4 e5
       by_cases g1:0<C1
       ·have b3:decide (0<C1)=true:=decide_eq_true g1
        have FIN:=Lib.hid (NO.out fun h=>h.1 (by rw [← HC1.out];exact g1))
        clear g1
        go_wp2_with fail
        go_ret
        exact ⟨.no FIN.out,Hb.out.trans (Hbx.out.mono Hb.out.size)⟩
       have b3:decide (0<C1)=false:=decide_eq_false g1
       have G1:=Lib.hid g1
       clear g1
       by_cases g2:C1=0
       ·have b4:(C1 == 0)=true:=by rw [g2];rfl
        have G2:=Lib.hid g2
        clear g2
        have x0:=S.out.r.c0;have x1:=S.out.r.c1;have x2:=S.out.r.c2;have x3:=S.out.c3;have x4:=S.out.c4;have x5:=S.out.c5
        go_wp2_with fail
        refine (rcmp_any _ _ _ _ _ _ _ _ _ _ _ _ _ _ _ _ _ _ _ S.out.r.hz.at_ S.out.r.hq.at_ S.out.hz.at_ S.out.hq.at_ (by omega) (by omega) fp1.fz fp1.fq fp2.fz fp2.fq).mono ?_
        rintro e w6 ⟨rfl,hb5⟩
        obtain ⟨C2,hC2⟩:∃ C,C=cmpz (p.1.z*(p.2.q:Int)) (p.2.z*(p.1.q:Int)):=⟨_,rfl⟩
        rw [← hC2]
        have HC2:=Lib.hid (show C2=fcmp p.1 p.2 from hC2)
        replace T:=Lib.hid (T.out.move hb5)
        replace HFr:=Lib.hid (HFr.out.below hI hb5)
        replace HRr:=Lib.hid (HRr.out.below hb5)
        replace Hbx:=Lib.hid (Hbx.out.trans (hb5.mono Hbx.out.size))
        clear hC2 hb5 x0 x1 x2 x3 x4 x5 S
        by_cases g3:C2=0
        ·have b5:(C2 == 0)=true:=by rw [g3];rfl
         have G3:=Lib.hid g3
         clear g3
         have x0:=T.out.r.c0;have x1:=T.out.r.c1;have x2:=T.out.r.c2;have x3:=T.out.c3;have x4:=T.out.c4;have x5:=T.out.c5
         go_wp2_with fail
         refine (rcmp_any _ _ _ _ _ _ _ _ _ _ _ _ _ _ _ _ _ _ _ T.out.r.hz.at_ T.out.r.hq.at_ T.out.hz.at_ T.out.hq.at_ (by omega) (by omega) fa.fz fa.fq fb.fz fb.fq).mono ?_
         rintro e w7 ⟨rfl,hb5⟩
         obtain ⟨C3,hC3⟩:∃ C,C=cmpz (r.1.z*(r.2.q:Int)) (r.2.z*(r.1.q:Int)):=⟨_,rfl⟩
         rw [← hC3]
         have HC3:=Lib.hid (show C3=fcmp r.1 r.2 from hC3)
         replace Hbx:=Lib.hid (Hbx.out.trans (hb5.mono Hbx.out.size))
         clear hC3 hb5 x0 x1 x2 x3 x4 x5 T HFr HRr
         by_cases g4:C3=0
         ·have b6:(C3 == 0)=true:=by rw [g4];rfl
          have FIN:=Lib.hid (NO.out fun h=>h.2 ⟨by rw [← HC1.out];exact G2.out,by rw [← HC2.out];exact G3.out,by rw [← HC3.out];exact g4⟩)
          clear g4
          go_wp2_with fail
          go_ret
          exact ⟨.no FIN.out,Hb.out.trans (Hbx.out.mono Hb.out.size)⟩
         ·have b6:(C3 == 0)=false:=by rw [beq_eq_false_iff_ne];exact g4
          have FIN:=Lib.hid (ST.out ⟨by rw [← HC1.out];have:=G1.out;omega,fun h=>g4 (by rw [HC3.out];exact h.2.2)⟩)
          clear g4
          go_wp2_with fail
          go_roundw;(case rel=>exact ⟨k+1,Hkl.out,by go_num,fun i hi=>(by by_cases hi2:i<k;exact Hst.out i hi2;obtain rfl:i=k:=(by omega);exact FIN.out),Hbx.out⟩);(case measure=>have:=Hkl.out;simp [intOf];omega)
        ·have b5:(C2 == 0)=false:=by rw [beq_eq_false_iff_ne];exact g3
         have FIN:=Lib.hid (ST.out ⟨by rw [← HC1.out];have:=G1.out;omega,fun h=>g3 (by rw [HC2.out];exact h.2.1)⟩)
         clear g3
         go_wp2_with fail
         go_roundw;(case rel=>exact ⟨k+1,Hkl.out,by go_num,fun i hi=>(by by_cases hi2:i<k;exact Hst.out i hi2;obtain rfl:i=k:=(by omega);exact FIN.out),Hbx.out⟩);(case measure=>have:=Hkl.out;simp [intOf];omega)
       ·have b4:(C1 == 0)=false:=by rw [beq_eq_false_iff_ne];exact g2
        have FIN:=Lib.hid (ST.out ⟨by rw [← HC1.out];have:=G1.out;omega,fun h=>g2 (by rw [HC1.out];exact h.1)⟩)
        clear g2
        go_wp2_with fail
        go_roundw;(case rel=>exact ⟨k+1,Hkl.out,by go_num,fun i hi=>(by by_cases hi2:i<k;exact Hst.out i hi2;obtain rfl:i=k:=(by omega);exact FIN.out),Hbx.out⟩);(case measure=>have:=Hkl.out;simp [intOf];omega)
   ·have t1:¬ (k:Int)<(la:Int):=by omega
    have hk2:k=la:=by omega
    subst hk2
    have FIN:=Lib.hid (show Cmpl f rs from ⟨by rw [Hrl.out,Hn.out,HNA.out],fun i hi=>Hst.out i (by rw [← Hrl.out];exact hi)⟩)
    clear hlt
    go_wp2_with fail
    go_ret
    exact ⟨.yes FIN.out,Hb.out.trans (Hbw.out.mono Hb.out.size)⟩
 ·have b1:((la:Int) != NA)=true:=by simpa using hn
  have FIN:=Lib.hid (show ¬ Cmpl f rs from fun h=>hn (by rw [← hrl,HNA.out];exact h.1))
  clear hn hrl
  go_wp2_with fail
  go_ret
  exact ⟨.no FIN.out,Hb.out⟩
end Go.Proofs.YtppggpfcdgilmaaGreat
namespace Go.Proofs.YtppggpfcdgilmaaGreat
open Go Go.RowKit
def nxOK (p r:Fq×Fq):Prop:=fcmp p.2 r.1≤0∧(fcmp p.2 r.1=0→fcmp p.1 p.2≠0∧fcmp r.1 r.2≠0)
def spOK (rs:List (Fq×Fq)) (k:Nat):Prop:=fcmp (rs.getD k r00).1 (rs.getD k r00).2≤0∧(0<k→nxOK (rs.getD (k-1) r00) (rs.getD k r00))
def Sepa (rs:List (Fq×Fq)):Prop:=∀ k,k<rs.length→spOK rs k
set_option maxRecDepth 100000 in
set_option maxHeartbeats 8000000 in
theorem separate_any {w:World} {A:Option Addr} {la ca:Nat} {rs:List (Fq×Fq)} (hr:RtsAt w A la ca rs) (hfq:∀ r∈rs,FqB r.1∧FqB r.2) (hla:la≤1000) :
 Calls Tryz.prog 42 #[.slice A la ca] w fun e w'=>BoolE (Sepa rs) e∧Below w.heap.size w w':=by
 have Hrl:=Lib.hid hr.length
 have HRs:=Lib.hid hr
 have Hfq:=Lib.hid hfq
 clear hr hfq
 go_enter Tryz.func42,Tryz.ntmps42
 go_wp2_with fail
 go_loopw [9] (fun s9 wr=>∃ k:Nat,k≤la∧s9=.int .i64 (k:Int)∧(∀ i,i<k→spOK rs i)∧Below w.heap.size w wr) (fun s9 _=>la-(intOf s9).toNat)
 case atStart=>exact ⟨0,Nat.zero_le _,rfl,fun i hi=>absurd hi (Nat.not_lt_zero _),Bel.go⟩
 case round =>
  obtain ⟨k,hk,rfl,hst,hbw⟩:=hrel
  have Hst:=Lib.hid hst
  have HRr:=Lib.hid (HRs.out.below hbw)
  have Hbw:=Lib.hid hbw
  clear hst
  by_cases hlt:k<la
  ·have Hkl:=Lib.hid hlt
   obtain ⟨b,o,rfl,hb0,hv⟩:∃ b o,A=some ⟨b,o,none⟩∧b<wr.heap.size∧Vals wr b o rs:=by
    rcases HRr.out.elems with ⟨h0,_⟩ | h
    ·omega
    ·exact h
   obtain ⟨n,A1,l1,c1,B1,m1,d1,n',A2,l2,c2,B2,m2,d2,e0,e1,e2,e3,e4,e5,z1,z2,z3,z4⟩:=hv.get (k:=k) (by rw [Hrl.out];exact hlt)
   obtain ⟨fa,fb⟩:=getD_fqb Hfq.out (k:=k) (by rw [Hrl.out];exact hlt)
   obtain ⟨r,hr⟩:∃ r,r=rs.getD k r00:=⟨_,rfl⟩
   rw [← hr] at z1 z2 z3 z4 fa fb
   have Hr:=Lib.hid hr
   have ka:(k:Int)<(la:Int):=by omega
   have w1:IntKind.i64.wrap ((k:Int)+1)=(k:Int)+1:=IntWalk.i64_in _ (by have:=Hkl.out;omega)
   have p1:=fa.p
   have p2:=fb.p
   have T:=Lib.hid (TBox.make z1 z2 z3 z4)
   have jb:=below_new wr (tbox n A1 l1 c1 B1 m1 d1 n' A2 l2 c2 B2 m2 d2)
   have Hbx:=Lib.hid (Hbw.out.trans (jb.mono Hbw.out.size))
   have x0:=T.out.r.c0
   have x1:=T.out.r.c1
   have x2:=T.out.r.c2
   have x3:=T.out.c3
   have x4:=T.out.c4
   have x5:=T.out.c5
   clear z1 z2 z3 z4 hv hr hk hlt
   go_wp2_with fail
   refine (rcmp_any _ _ _ _ _ _ _ _ _ _ _ _ _ _ _ _ _ _ _ T.out.r.hz.at_ T.out.r.hq.at_ T.out.hz.at_ T.out.hq.at_ (by omega) (by omega) fa.fz fa.fq fb.fz fb.fq).mono ?_;rintro e w3 ⟨rfl,hb5⟩;obtain ⟨C3,hC3⟩:∃ C,C=cmpz (r.1.z*(r.2.q:Int)) (r.2.z*(r.1.q:Int)):=⟨_,rfl⟩;rw [← hC3];have HC3:=Lib.hid (show C3=fcmp r.1 r.2 from hC3);replace T:=Lib.hid (T.out.move hb5);replace Hbx:=Lib.hid (Hbx.out.trans (hb5.mono Hbx.out.size));clear hC3
   replace HRr:=Lib.hid (HRr.out.below (jb.trans (hb5.mono jb.size)))
   clear hb5 x0 x1 x2 x3 x4 x5 jb e0 e1 e2 e3 e4 e5
   by_cases g0:0<C3
   ·have b0:decide (0<C3)=true:=decide_eq_true g0
    have FIN:=Lib.hid (show ¬ Sepa rs from fun h=>(by have h1:=(h k (by rw [Hrl.out];exact Hkl.out)).1;rw [← Hr.out,← HC3.out] at h1;omega))
    clear g0
    (go_wp2_with fail;go_ret;exact ⟨.no FIN.out,Hbx.out⟩)
   have b0:decide (0<C3)=false:=decide_eq_false g0
   have G0:=Lib.hid (show fcmp r.1 r.2≤0 by rw [← HC3.out];omega)
   clear g0
   by_cases hk0:k=0
   ·subst hk0
    have b2:((0:Int) == 0)=true:=rfl
    have ST:=Lib.hid (show spOK rs 0 from ⟨by rw [← Hr.out];exact G0.out,fun h=>absurd h (Nat.lt_irrefl _)⟩)
    go_wp2_with fail
    go_roundw
    case rel=>exact ⟨1,Hkl.out,rfl,fun i hi=>(by obtain rfl:i=0:=(by omega);exact ST.out),Hbx.out⟩
    case measure=>have:=Hkl.out;simp [intOf];omega
   ·obtain ⟨j,hj⟩:∃ j,k=j+1:=⟨k-1,by omega⟩
    have b2:((k:Int) == 0)=false:=by rw [beq_eq_false_iff_ne];omega
    have e1:(k:Int)-1=(j:Int):=by omega
    have i1:IntKind.i64.wrap (j:Int)=(j:Int):=IntWalk.i64_in _ (by have:=Hkl.out;omega)
    have ja:(j:Int)<(la:Int):=by omega
    obtain ⟨hbl,hv3⟩:b<w3.heap.size∧Vals w3 b o rs:=by
     rcases HRr.out.elems with ⟨_,h0,_⟩ | ⟨b',o',h1,h2,h3⟩
     ·cases h0
     ·cases h1;exact ⟨h2,h3⟩
    have hjl:j<rs.length:=by rw [Hrl.out];have:=Hkl.out;omega
    obtain ⟨n3,A3,l3,c3,B3,m3,d3,n4,A4,l4,c4,B4,m4,d4,e0,e1',e2,e3,e4,e5,z1,z2,z3,z4⟩:=hv3.get hjl
    obtain ⟨fp1,fp2⟩:=getD_fqb Hfq.out hjl
    obtain ⟨p,hp⟩:∃ p,p=rs.getD j r00:=⟨_,rfl⟩
    rw [← hp] at z1 z2 z3 z4 fp1 fp2
    have ST:=Lib.hid (show nxOK p r→spOK rs k from fun h=>⟨by rw [← Hr.out];exact G0.out,fun _=>by rw [show k-1=j by omega,← hp,← Hr.out];exact h⟩)
    have NX:=Lib.hid (show ¬ nxOK p r→¬ Sepa rs from fun h h2=>h (by
     have h3:=(h2 k (by rw [Hrl.out];exact Hkl.out)).2 (by omega)
     rw [show k-1=j by omega,← hp,← Hr.out] at h3
     exact h3))
    have q1:=fp1.p
    have q2:=fp2.p
    have S:=Lib.hid (TBox.make z1 z2 z3 z4)
    have jb:=below_new w3 (tbox n3 A3 l3 c3 B3 m3 d3 n4 A4 l4 c4 B4 m4 d4)
    replace T:=Lib.hid (T.out.move jb)
    replace HRr:=Lib.hid (HRr.out.below jb)
    replace Hbx:=Lib.hid (Hbx.out.trans (jb.mono Hbx.out.size))
    have x0:=T.out.r.c0;have x1:=T.out.r.c1;have x2:=T.out.r.c2;have y3:=S.out.c3;have y4:=S.out.c4;have y5:=S.out.c5
    clear z1 z2 z3 z4 hv3 hp jb hj hk0 hbl hjl
    go_wp2_with fail
    refine (rcmp_any _ _ _ _ _ _ _ _ _ _ _ _ _ _ _ _ _ _ _ S.out.hz.at_ S.out.hq.at_ T.out.r.hz.at_ T.out.r.hq.at_ (by omega) (by omega) fp2.fz fp2.fq fa.fz fa.fq).mono ?_
    rintro e w5 ⟨rfl,hb5⟩
    obtain ⟨C1,hC1⟩:∃ C,C=cmpz (p.2.z*(r.1.q:Int)) (r.1.z*(p.2.q:Int)):=⟨_,rfl⟩
    rw [← hC1]
    have HC1:=Lib.hid (show C1=fcmp p.2 r.1 from hC1)
    replace T:=Lib.hid (T.out.move hb5)
    replace S:=Lib.hid (S.out.move hb5)
    replace HRr:=Lib.hid (HRr.out.below hb5)
    replace Hbx:=Lib.hid (Hbx.out.trans (hb5.mono Hbx.out.size))
    clear hC1 hb5 x0 x1 x2 y3 y4 y5 e0 e1' e2 e3 e4 e5
    by_cases g1:0<C1
    ·have b3:decide (0<C1)=true:=decide_eq_true g1
     have FIN:=Lib.hid (NX.out fun h=>(by have:=h.1;rw [← HC1.out] at this;omega))
     clear g1
     (go_wp2_with fail;go_ret;exact ⟨.no FIN.out,Hbx.out⟩)
    have b3:decide (0<C1)=false:=decide_eq_false g1
    have G1:=Lib.hid (show fcmp p.2 r.1≤0 by rw [← HC1.out];omega)
    clear g1
    by_cases g2:C1=0
    ·have b4:(C1 == 0)=true:=by rw [g2];rfl
     have G2:=Lib.hid (show fcmp p.2 r.1=0 by rw [← HC1.out];exact g2)
     clear g2
     have x0:=S.out.r.c0;have x1:=S.out.r.c1;have x2:=S.out.r.c2;have x3:=S.out.c3;have x4:=S.out.c4;have x5:=S.out.c5
     go_wp2_with fail
     refine (rcmp_any _ _ _ _ _ _ _ _ _ _ _ _ _ _ _ _ _ _ _ S.out.r.hz.at_ S.out.r.hq.at_ S.out.hz.at_ S.out.hq.at_ (by omega) (by omega) fp1.fz fp1.fq fp2.fz fp2.fq).mono ?_
     rintro e w6 ⟨rfl,hb5⟩
     obtain ⟨C2,hC2⟩:∃ C,C=cmpz (p.1.z*(p.2.q:Int)) (p.2.z*(p.1.q:Int)):=⟨_,rfl⟩
     rw [← hC2]
     have HC2:=Lib.hid (show C2=fcmp p.1 p.2 from hC2)
     replace T:=Lib.hid (T.out.move hb5)
     replace HRr:=Lib.hid (HRr.out.below hb5)
     replace Hbx:=Lib.hid (Hbx.out.trans (hb5.mono Hbx.out.size))
     clear hC2 hb5 x0 x1 x2 x3 x4 x5 S HC3
     by_cases g3:C2=0
     ·have b5:(C2 == 0)=true:=by rw [g3];rfl
      have FIN:=Lib.hid (NX.out fun h=>(h.2 G2.out).1 (by rw [← HC2.out];exact g3))
      clear g3
      (go_wp2_with fail;go_ret;exact ⟨.no FIN.out,Hbx.out⟩)
     ·have b5:(C2 == 0)=false:=by rw [beq_eq_false_iff_ne];exact g3
      have G3:=Lib.hid (show fcmp p.1 p.2≠0 by rw [← HC2.out];exact g3)
      clear g3
      have x0:=T.out.r.c0;have x1:=T.out.r.c1;have x2:=T.out.r.c2;have x3:=T.out.c3;have x4:=T.out.c4;have x5:=T.out.c5
      go_wp2_with fail
      refine (rcmp_any _ _ _ _ _ _ _ _ _ _ _ _ _ _ _ _ _ _ _ T.out.r.hz.at_ T.out.r.hq.at_ T.out.hz.at_ T.out.hq.at_ (by omega) (by omega) fa.fz fa.fq fb.fz fb.fq).mono ?_;rintro e w7 ⟨rfl,hb5⟩;obtain ⟨C3,hC3⟩:∃ C,C=cmpz (r.1.z*(r.2.q:Int)) (r.2.z*(r.1.q:Int)):=⟨_,rfl⟩;rw [← hC3];have HC3:=Lib.hid (show C3=fcmp r.1 r.2 from hC3);replace T:=Lib.hid (T.out.move hb5);replace Hbx:=Lib.hid (Hbx.out.trans (hb5.mono Hbx.out.size));clear hC3
      clear hb5 x0 x1 x2 x3 x4 x5 T HRr
      by_cases g4:C3=0
      ·have b6:(C3 == 0)=true:=by rw [g4];rfl
       have FIN:=Lib.hid (NX.out fun h=>(h.2 G2.out).2 (by rw [← HC3.out];exact g4))
       clear g4
       (go_wp2_with fail;go_ret;exact ⟨.no FIN.out,Hbx.out⟩)
      ·have b6:(C3 == 0)=false:=by rw [beq_eq_false_iff_ne];exact g4
       have FIN:=Lib.hid (ST.out ⟨G1.out,fun _=>⟨G3.out,by rw [← HC3.out];exact g4⟩⟩)
       clear g4
       go_wp2_with fail
       go_roundw;(case rel=>exact ⟨k+1,Hkl.out,by go_num,fun i hi=>(by by_cases hi2:i<k;exact Hst.out i hi2;obtain rfl:i=k:=(by omega);exact FIN.out),Hbx.out⟩);(case measure=>have:=Hkl.out;simp [intOf];omega)
    ·have b4:(C1 == 0)=false:=by rw [beq_eq_false_iff_ne];exact g2
     have FIN:=Lib.hid (ST.out ⟨G1.out,fun h=>absurd (HC1.out.trans h) g2⟩)
     clear g2
     go_wp2_with fail
     go_roundw;(case rel=>exact ⟨k+1,Hkl.out,by go_num,fun i hi=>(by by_cases hi2:i<k;exact Hst.out i hi2;obtain rfl:i=k:=(by omega);exact FIN.out),Hbx.out⟩);(case measure=>have:=Hkl.out;simp [intOf];omega)
  ·have t1:¬ (k:Int)<(la:Int):=by omega
   have hk2:k=la:=by omega
   subst hk2
   have FIN:=Lib.hid (show Sepa rs from fun i hi=>Hst.out i (by rw [← Hrl.out];exact hi))
   clear hlt
   go_wp2_with fail
   go_ret
   exact ⟨.yes FIN.out,Hbw.out⟩
end Go.Proofs.YtppggpfcdgilmaaGreat
namespace Go.Proofs.YtppggpfcdgilmaaGreat
open Go Go.RowKit
def OwnE (E t base:Nat) (w:World) (v:Value) (us:List Value):Prop :=
 (us=[]∧v=.slice none 0 0)∨∃ g n cap cs,v=.slice (some ⟨g,0,none⟩) n cap∧base≤g∧us.length=n*E∧n≤cap∧(∀ (j:Nat) (u:Value),us[j]?=some u→w.cell? ⟨g,j,none⟩=some u)∧Blk w g t cs∧cs.size=cap*E∧∀ j,j<cap*E→∃ u,cs[j]?=some u∧Nd u
theorem OwnE.below {E t base:Nat} {w w':World} {v:Value} {us:List Value} (h:OwnE E t base w v us) (hb:Below w.heap.size w w'):OwnE E t base w' v us:=by
 rcases h with h | ⟨g,n,cap,cs,h1,h2,h3,h4,h5,h6,h7,h8⟩
 ·exact .inl h
 ·exact .inr ⟨g,n,cap,cs,h1,h2,h3,h4,fun j u hu=>(hb.cell (p:=⟨g,j,none⟩) h6.lt).trans (h5 j u hu),h6.below hb h6.lt,h7,h8⟩
theorem OwnE.nil (E t base:Nat) (w:World):OwnE E t base w (.slice none 0 0) []:=.inl ⟨rfl,rfl⟩
def GrE (E t base:Nat) (w:World) (v:Value) (us vs:List Value) (v':Value) (w':World):Prop :=
 OwnE E t base w' v' (us ++ vs)∧((∃ g n n' cap,v=.slice (some ⟨g,0,none⟩) n cap∧v'=.slice (some ⟨g,0,none⟩) n' cap∧base≤g∧g<w.heap.size∧NdB w g∧FrS g g w w')∨(Below w.heap.size w w'∧∃ n' cap,v'=.slice (some ⟨w.heap.size,0,none⟩) n' cap))
theorem GrE.below {E t base:Nat} {w w':World} {v v':Value} {us vs:List Value} (h:GrE E t base w v us vs v' w') (hB:base≤w.heap.size):Below base w w':=by
 rcases h.2 with ⟨g,n,n',cap,_,_,h1,_,_,hf⟩ | ⟨hb,_⟩
 ·exact hf.mono (Below.refl _ _) h1 h1 hB
 ·exact hb.mono hB
theorem OwnE.frs {E t base:Nat} {w w':World} {v:Value} {us:List Value} {g:Nat} (h:OwnE E t base w v us) (hf:FrS g g w w') (hg:∀ k n c,v=.slice (some ⟨k,0,none⟩) n c→k≠g):OwnE E t base w' v us:=by
 rcases h with h | ⟨k,n,cap,cs,h1,h2,h3,h4,h5,h6,h7,h8⟩
 ·exact .inl h
 ·have hk:=hg k n cap h1
  exact .inr ⟨k,n,cap,cs,h1,h2,h3,h4,fun j u hu=>(hf.cell h6.lt hk hk j).trans (h5 j u hu),(hf.same k h6.lt hk hk).trans h6,h7,h8⟩
theorem OwnE.len {E t base:Nat} {w:World} {v:Value} {us:List Value} (h:OwnE E t base w v us):∃ A n c,v=.slice A n c∧us.length=n*E∧n≤c:=by
 rcases h with ⟨h1,h2⟩ | ⟨g,n,cap,cs,h1,h2,h3,h4,h5⟩
 ·exact ⟨none,0,0,h2,by rw [h1];simp,Nat.le_refl _⟩
 ·exact ⟨_,n,cap,h1,h3,h4⟩
set_option maxHeartbeats 1000000 in
theorem oper_append_own {w:World} {o:Oper} {a:Act} {K:Act→World→Prop} {Q:Exit→Act→World→Prop} (s x:Operand) (t e:TypeId)
 (ho:o.op=.call { callee:=.builtin .append,args:=#[s,x],argTypes:=#[t,t] }) (E:Nat) (i0:TypeInfo) (z:Value) (ht:Tryz.prog.underlying t=some (.slice e)) (hi:Tryz.prog.info? e=some i0) (hz0:i0.zero=some z) (hz1:i0.size=E) (hz2:i0.bytes≤200) (hzs:z.cells.size=E) (hzn:∀ j,j<E→Nd (z.cells[j]!)) (hE:0<E)
 (base:Nat) (v:Value) (us vs:List Value) (hs:a.eval s=v) (hown:OwnE E e base w v us) (hB:base≤w.heap.size)
 (ax:Addr) (m c:Nat) (hx:a.eval x=.slice (some ax) m c) (hvl:vs.length=m*E) (hxc:∀ (j:Nat) (u:Value),vs[j]?=some u→w.cell? (ax.add j)=some u) (hvn:∀ u∈vs,Nd u) (hm:0<m∨v≠.slice none 0 0) (hn:us.length+vs.length≤100000000)
 (dd:Nat) (hdd:o.dst=some dd) (h:∀ v' w',GrE E e base w v us vs v' w'→K (a.put (some dd) v') w') :
 Oper.wp Tryz.prog o a w K Q:=by
 rw [← hdd] at h
 have hone:∀ u∈vs,u.oneCell'=true:=fun u hu=>(hvn u hu).2
 have hml:m≤100000000:=by
  have:m≤m*E:=Nat.le_mul_of_pos_right _ hE
  omega
 have hzc:∀ k j,j<k*E→∃ v,(Builtin.zeroCells z.cells k)[j]?=some v∧Nd v:=fun k j hj=>by
  unfold Builtin.zeroCells
  rw [Array.getElem?_map,Array.getElem?_range,hzs,if_pos hj]
  exact ⟨_,rfl,hzn _ (Nat.mod_lt _ hE)⟩
 have hzz:∀ k,(Builtin.zeroCells z.cells k).size=k*E:=fun k=>by rw [size_zeroCells,hzs]
 have hvj:∀ j,j<vs.length→∃ u,vs[j]?=some u∧Nd u:=fun j hj=>⟨vs[j]'hj,List.getElem?_eq_getElem hj,hvn _ (List.getElem_mem _)⟩
 have hnew:∀ (n cap':Nat) (olds:List Value),olds.length=n*E→(∀ u∈olds,Nd u)→(us=olds)→n+m≤cap' →
  GrE E e base w v us vs (.slice (some ⟨w.heap.size,0,none⟩) (n+m) cap') (w.drew.alloc (.cells ((olds ++ vs).toArray ++ Builtin.zeroCells z.cells (cap'-(n+m))) e)):=fun n cap' olds hl hnd hu hc=>by
  have hbw:Below w.heap.size w (w.drew.alloc (.cells ((olds ++ vs).toArray ++ Builtin.zeroCells z.cells (cap'-(n+m))) e)):=((Below.refl _ _).drew).alloc (by simp) _
  have hk:Blk (w.drew.alloc (.cells ((olds ++ vs).toArray ++ Builtin.zeroCells z.cells (cap'-(n+m))) e)) w.heap.size e ((olds ++ vs).toArray ++ Builtin.zeroCells z.cells (cap'-(n+m))):=Blk.new w.drew _ _
  have hlen:(olds ++ vs).length=(n+m)*E:=by rw [List.length_append,hl,hvl,Nat.add_mul]
  refine ⟨.inr ⟨w.heap.size,n+m,cap',_,rfl,hB,by rw [hu,hlen],hc,fun j u hj=>?_,hk,?_,fun j hj=>?_⟩,.inr ⟨hbw,_,_,rfl⟩⟩
  ·rw [hu] at hj
   have hjl:=(List.getElem?_eq_some_iff.1 hj).1
   refine (hk.cell j).trans ?_
   rw [Array.getElem?_append_left (by simpa using hjl),List.getElem?_toArray,hj]
  ·rw [Array.size_append,List.size_toArray,hzz,hlen,← Nat.add_mul,Nat.add_sub_cancel' hc]
  ·rcases Nat.lt_or_ge j ((n+m)*E) with h1 | h1
   ·rw [Array.getElem?_append_left (by rw [List.size_toArray,hlen];exact h1),List.getElem?_toArray]
    refine ⟨(olds ++ vs)[j]'(by rw [hlen];exact h1),List.getElem?_eq_getElem _,?_⟩
    rcases List.mem_append.1 (List.getElem_mem (l:=olds ++ vs) (by rw [hlen];exact h1)) with h2 | h2
    ·exact hnd _ h2
    ·exact hvn _ h2
   ·rw [Array.getElem?_append_right (by rw [List.size_toArray,hlen];exact h1),List.size_toArray,hlen]
    refine hzc _ _ ?_
    rw [Nat.sub_mul]
    omega
 rcases hown with ⟨hn0,hF⟩ | ⟨g,n,cap,cs,hF,hBg,hul,hnc,huc,hk,hsz,hcs⟩
 ·subst hF
  have hm0:0<m:=hm.resolve_right fun h=>h rfl
  have hrun:=run_append_nil (P:=Tryz.prog) (w:=w) t o.type e i0 z ht hi hz0 ax m c vs (by rw [hz1,hvl]) hxc hm0 (by omega) (by
   have:=Nat.mul_le_mul hml hz2
   omega)
  have hge:m≤grownCap w m 0 e:=grownCap_ge w m 0 e
  generalize grownCap w m 0 e=cap' at hrun hge
  have hg:=hnew 0 cap' [] (by simp) (fun u hu=>by simp at hu) hn0 (by omega)
  rw [List.nil_append,Nat.zero_add] at hg
  unfold Oper.wp
  simp only [execOp,ho,resolve,invoke,builtin]
  simp [hs,hx,hrun,Result.andThen]
  exact h _ _ hg
 ·subst hF
  have hnl:n≤100000000:=by
   have:n≤n*E:=Nat.le_mul_of_pos_right _ hE
   omega
  by_cases hrm:n+m≤cap
  ·have hnm:n*E+m*E≤cap*E:=by rw [← Nat.add_mul];exact Nat.mul_le_mul_right _ hrm
   have hrun:=run_append_room_cells (P:=Tryz.prog) w t o.type e i0 ht hi g 0 n cap ax m c vs (by rw [hz1,hvl]) hxc hone hrm
    (fun j hj=>by
      obtain ⟨u,eu,_⟩:=hcs (n*E+j) (by rw [hvl] at hj;omega)
      rw [hz1,Nat.zero_add,hk.cell,eu];rfl)
    (fun j hj=>hk.frozen _)
   rw [hz1,Nat.zero_add] at hrun
   unfold Oper.wp
   simp only [execOp,ho,resolve,invoke,builtin]
   simp [hs,hx,hrun,Result.andThen]
   have hnd:NdB w g:=blk_ndb hk fun j u hu=>by
    have hj:j<cs.size:=(Array.getElem?_eq_some_iff.1 hu).1
    obtain ⟨u',e',hd⟩:=hcs j (by rw [← hsz];exact hj)
    rw [hu] at e'
    cases e'
    exact hd.1
   obtain ⟨cs',b1,b2,b3,b4,b5⟩:∃ cs',Blk (w.setCells g (n*E) vs) g e cs'∧cs'.size=cap*E∧(∀ j,j<cap*E→∃ v,cs'[j]?=some v∧Nd v)∧(∀ (j:Nat) (v:Value),vs[j]?=some v→cs'[n*E+j]?=some v)∧∀ j,j<n*E→cs'[j]?=cs[j]?:=blk_setCellsV hcs hsz vs hvn (n*E) (by rw [hvl];exact hnm) hk
   have hfr:FrS g g w (w.setCells g (n*E) vs):=frs_setCells vs (n*E) (FrS.refl _ _ _)
   refine h _ _ ⟨.inr ⟨g,n+m,cap,cs',rfl,hBg,by rw [List.length_append,hul,hvl,Nat.add_mul],hrm,fun j u hj=>?_,b1,b2,b3⟩,.inl ⟨g,n,n+m,cap,rfl,rfl,hBg,hk.lt,hnd,hfr⟩⟩
   refine (b1.cell j).trans ?_
   rcases Nat.lt_or_ge j us.length with h1 | h1
   ·rw [List.getElem?_append_left h1] at hj
    rw [b5 j (by rw [← hul];exact h1),← hk.cell j]
    exact huc j u hj
   ·rw [List.getElem?_append_right h1] at hj
    have:=b4 _ u hj
    rwa [← hul,Nat.add_sub_cancel' h1] at this
  ·have hol:∀ u∈us,Nd u:=fun u hu=>by
    obtain ⟨j,hj,hju⟩:=List.getElem_of_mem hu
    have hc:=huc j u (by rw [List.getElem?_eq_getElem hj,hju])
    rw [hk.cell j] at hc
    obtain ⟨u',e',hd⟩:=hcs j (by
     have:n*E≤cap*E:=Nat.mul_le_mul_right _ hnc
     omega)
    rw [hc] at e'
    cases e'
    exact hd
   have hnm:=Nat.mul_le_mul (show n+m≤200000000 by omega) hz2
   have hfit:=growslice_fits (need:=n+m) (old:=cap) (bytes:=i0.bytes) (by omega) (by omega)
   have hrun:=run_append_grow (P:=Tryz.prog) w t o.type e i0 z ht hi hz0 ⟨g,0,none⟩ n cap us (by rw [hz1,hul])
    (fun j u hj=>by rw [Addr.add_lit,Nat.zero_add];exact huc j u hj)
    ax m c vs (by rw [hz1,hvl]) hxc (by omega) (by omega) hfit
   have hge:=grownCap_ge w (n+m) cap e
   generalize grownCap w (n+m) cap e=cap' at hrun hge
   have hg:=hnew n cap' us hul hol rfl hge
   unfold Oper.wp
   simp only [execOp,ho,resolve,invoke,builtin]
   simp [hs,hx,hrun,Result.andThen]
   exact h _ _ (by simpa using hg)
def Lay {α:Type} (R:α→List Value→Prop):List α→List Value→Prop
 | [],us=>us=[]
 | x :: xs,us=>∃ vs us',R x vs∧us=vs ++ us'∧Lay R xs us'
section
variable {α:Type} {R R':α→List Value→Prop} {E:Nat}
theorem Lay.appl:∀ {xs ys:List α} {us vs:List Value},Lay R xs us→Lay R ys vs→Lay R (xs ++ ys) (us ++ vs)
 | [],ys,us,vs,h,hy=>by rw [show us=[] from h];exact hy
 | x :: xs,ys,us,vs,⟨ws,us',h1,h2,h3⟩,hy=>⟨ws,us' ++ vs,h1,by rw [h2,List.append_assoc],Lay.appl h3 hy⟩
theorem Lay.mono (hm:∀ x vs,R x vs→R' x vs):∀ {xs:List α} {us:List Value},Lay R xs us→Lay R' xs us
 | [],_,h=>h
 | _ :: _,_,⟨vs,us',h1,h2,h3⟩=>⟨vs,us',hm _ _ h1,h2,Lay.mono hm h3⟩
theorem Lay.len (hR:∀ x vs,R x vs→vs.length=E):∀ {xs:List α} {us:List Value},Lay R xs us→us.length=xs.length*E
 | [],us,h=>by rw [show us=[] from h];simp
 | x :: xs,us,⟨vs,us',h1,h2,h3⟩=>by rw [h2,List.length_append,hR _ _ h1,Lay.len hR h3,List.length_cons,Nat.add_mul,Nat.one_mul,Nat.add_comm]
theorem Lay.get (hR:∀ x vs,R x vs→vs.length=E):∀ {xs:List α} {us:List Value},Lay R xs us→∀ (i:Nat) (x:α),xs[i]?=some x→∃ vs,R x vs∧∀ (j:Nat) (v:Value),vs[j]?=some v→us[i*E+j]?=some v
 | [],_,_,i,x,hx=>by simp at hx
 | y :: xs,us,⟨vs,us',h1,h2,h3⟩,i,x,hx=>by
   match i,hx with
   | 0,hx =>
     have e:y=x:=by simpa using hx
     subst e
     refine ⟨vs,h1,fun j v hv=>?_⟩
     rw [h2,Nat.zero_mul,Nat.zero_add,List.getElem?_append_left (List.getElem?_eq_some_iff.1 hv).1]
     exact hv
   | i+1,hx =>
     obtain ⟨ws,g1,g2⟩:=Lay.get hR h3 i x (by simpa using hx)
     refine ⟨ws,g1,fun j v hv=>?_⟩
     have hl:=hR _ _ h1
     rw [h2,List.getElem?_append_right (by rw [hl,Nat.add_mul];omega),hl,show (i+1)*E+j-E=i*E+j by rw [Nat.add_mul];omega]
     exact g2 j v hv
end
structure SlE {α:Type} (E:Nat) (R:World→α→List Value→Prop) (w:World) (A:Option Addr) (l c:Nat) (xs:List α):Prop where
 length:xs.length=l
 cap:l≤c
 elems:(l=0∧A=none∧c=0)∨∃ b o,A=some ⟨b,o,none⟩∧b<w.heap.size∧∀ (i:Nat) (x:α),xs[i]?=some x→∃ vs,R w x vs∧∀ (j:Nat) (v:Value),vs[j]?=some v→w.cell? ⟨b,o+i*E+j,none⟩=some v
theorem SlE.below {α:Type} {E:Nat} {R:World→α→List Value→Prop} {w w':World} {A:Option Addr} {l c:Nat} {xs:List α} (h:SlE E R w A l c xs) (hb:Below w.heap.size w w') (hR:∀ x vs,R w x vs→R w' x vs):SlE E R w' A l c xs:=by
 refine ⟨h.length,h.cap,?_⟩
 rcases h.elems with h0 | ⟨b,o,hA,hlt,hv⟩
 ·exact .inl h0
 ·refine .inr ⟨b,o,hA,Nat.lt_of_lt_of_le hlt hb.size,fun i x hx=>?_⟩
  obtain ⟨vs,h1,h2⟩:=hv i x hx
  exact ⟨vs,hR _ _ h1,fun j v hj=>(hb.cell (p:=⟨b,o+i*E+j,none⟩) hlt).trans (h2 j v hj)⟩
theorem OwnE.sle {α:Type} {E t base:Nat} {R:World→α→List Value→Prop} {w:World} {v:Value} {us:List Value} {xs:List α} (hE:0<E) (h:OwnE E t base w v us) (hl:Lay (R w) xs us) (hR:∀ x vs,R w x vs→vs.length=E):∃ A l c,v=.slice A l c∧SlE E R w A l c xs:=by
 have hlen:=hl.len hR
 rcases h with ⟨h1,h2⟩ | ⟨g,n,cap,cs,h1,h2,h3,h4,h5,h6,h7,h8⟩
 ·have:xs.length=0:=by
   rw [h1,List.length_nil] at hlen
   rcases Nat.mul_eq_zero.1 hlen.symm with h | h<;>omega
  exact ⟨_,_,_,h2,this,Nat.le_refl _,.inl ⟨rfl,rfl,rfl⟩⟩
 ·refine ⟨_,n,cap,h1,Nat.eq_of_mul_eq_mul_right hE (by rw [← hlen,h3]),h4,.inr ⟨g,0,rfl,h6.lt,fun i x hx=>?_⟩⟩
  obtain ⟨vs,g1,g2⟩:=hl.get hR i x hx
  exact ⟨vs,g1,fun j u hu=>by rw [Nat.zero_add];exact h5 _ u (g2 j u hu)⟩
def RatV (w:World) (a:Fq) (vs:List Value):Prop:=∃ n A l c B m d,vs=[.bool n,.slice A l c,.slice B m d]∧IntN w n A l c a.z∧NatN w B m d a.q
theorem RatV.below {w w':World} {a:Fq} {vs:List Value} (h:RatV w a vs) (hb:Below w.heap.size w w'):RatV w' a vs:=by
 obtain ⟨n,A,l,c,B,m,d,e,h1,h2⟩:=h
 exact ⟨n,A,l,c,B,m,d,e,h1.below hb,h2.below hb⟩
theorem RatV.frs {g g':Nat} {w w':World} {a:Fq} {vs:List Value} (h:RatV w a vs) (hf:FrS g g' w w') (k1:NdB w g) (k2:NdB w g'):RatV w' a vs:=by
 obtain ⟨n,A,l,c,B,m,d,e,h1,h2⟩:=h
 exact ⟨n,A,l,c,B,m,d,e,h1.frs hf k1 k2,h2.frs hf k1 k2⟩
theorem RatV.len {w:World} {a:Fq} {vs:List Value} (h:RatV w a vs):vs.length=3:=by
 obtain ⟨n,A,l,c,B,m,d,e,h1,h2⟩:=h
 rw [e];rfl
theorem RatV.nd {w:World} {a:Fq} {vs:List Value} (h:RatV w a vs):∀ v∈vs,Nd v:=by
 obtain ⟨n,A,l,c,B,m,d,e,h1,h2⟩:=h
 intro v hv
 rw [e] at hv
 simp only [List.mem_cons,List.not_mem_nil,or_false] at hv
 rcases hv with rfl | rfl | rfl
 ·exact nd_bool _
 ·exact nd_slice _ _ _
 ·exact nd_slice _ _ _
theorem GrE.lay {α:Type} {E t base:Nat} {R:World→α→List Value→Prop} {w w':World} {v v':Value} {us vs:List Value} {xs ys:List α} (h:GrE E t base w v us vs v' w') (hl:Lay (R w) xs us) (hy:Lay (R w) ys vs) (hb:∀ x vs,Below w.heap.size w w'→R w x vs→R w' x vs) (hf:∀ g x vs,FrS g g w w'→NdB w g→R w x vs→R w' x vs):Lay (R w') (xs ++ ys) (us ++ vs):=by
 have hm:∀ x vs,R w x vs→R w' x vs:=by
  rcases h.2 with ⟨g,n,n',cap,_,_,_,_,k,f⟩ | ⟨k,_⟩
  ·exact fun x vs=>hf g x vs f k
  ·exact fun x vs=>hb x vs k
 exact (hl.mono hm).appl (hy.mono hm)
end Go.Proofs.YtppggpfcdgilmaaGreat
namespace Go.Proofs.YtppggpfcdgilmaaGreat
open Go.RowKit
theorem new_below (w:World) (o:Obj):Below w.heap.size w (w.alloc o):=(Below.refl _ _).alloc (Nat.le_refl _) _
theorem Fit.smnat {a:Nat} (h:Fit (a:Int)):Sm a:=by
 have:=h.sm
 unfold SmI at this
 rw [Int.natAbs_natCast] at this
 exact this
set_option maxRecDepth 100000 in
set_option maxHeartbeats 8000000 in
theorem rsub_any (n:Bool) (A:Option Addr) (l c:Nat) (B:Option Addr) (m d q:Nat) (z:Int) (n':Bool) (A':Option Addr) (l' c':Nat) (B':Option Addr) (m' d' q':Nat) (z':Int) (w:World) (hz:IntN w n A l c z) (hq:NatN w B m d q) (hz':IntN w n' A' l' c' z') (hq':NatN w B' m' d' q') (fz:Fit z) (fq:Fit (q:Int)) (h0:0<q) (fz':Fit z') (fq':Fit (q':Int)) (h0':0<q') :
 Calls Tryz.prog 28 #[.agg #[.bool n,.slice A l c,.slice B m d],.agg #[.bool n',.slice A' l' c',.slice B' m' d']] w fun e w'=>RatE ((z*(q':Int)-z'*(q:Int)).tdiv (Nat.gcd (z*(q':Int)-z'*(q:Int)).natAbs (q*q'))) (q*q' / Nat.gcd (z*(q':Int)-z'*(q:Int)).natAbs (q*q')) e w'∧Below w.heap.size w w':=by
 have sq:=fq.smnat
 have sq':=fq'.smnat
 obtain ⟨S1,hS1⟩:∃ S1,S1=z*(q':Int):=⟨_,rfl⟩
 obtain ⟨S2,hS2⟩:∃ S2,S2=z'*(q:Int):=⟨_,rfl⟩
 obtain ⟨DD,hDD⟩:∃ DD,DD=q*q':=⟨_,rfl⟩
 have ss1:SmI S1:=by rw [hS1];exact fz.sm2 fq'
 have ss2:SmI S2:=by rw [hS2];exact fz'.sm2 fq
 have ssum:Sm (S1.natAbs+S2.natAbs):=by
  have a1:=fz.mul fq'
  have a2:=fz'.mul fq
  rw [← hS1] at a1
  rw [← hS2] at a2
  refine sm_pow (k:=FW+FW+1) ?_ (by rw [FW_eq];decide)
  have a3:2*BB^(FW+FW)<BB^(FW+FW+1):=mulpow_lt (by omega)
  omega
 have sS:SmI (S1-S2):=Sm.mono ssum (by omega)
 have sqq:SmI ((q:Int)*(q':Int)):=fq.sm2 fq'
 have sD:SmI (DD:Int):=by rw [hDD,Int.natCast_mul];exact sqq
 have hD0:0<DD:=by rw [hDD];exact Nat.mul_pos h0 h0'
 rw [← hS1,← hS2,← hDD]
 have HS1:=Lib.hid hS1
 have HS2:=Lib.hid hS2
 have HDD:=Lib.hid hDD
 clear hS1 hS2 hDD
 have o1:=new_below w (rbox n A l c B m d)
 have o2:=new_below (w.alloc (rbox n A l c B m d)) (rbox n' A' l' c' B' m' d')
 have o3:=new_below ((w.alloc (rbox n A l c B m d)).alloc (rbox n' A' l' c' B' m' d')) (rbox false none 0 0 none 0 0)
 have b3:Below w.heap.size w (((w.alloc (rbox n A l c B m d)).alloc (rbox n' A' l' c' B' m' d')).alloc (rbox false none 0 0 none 0 0)):=(o1.alloc (by simp) _).alloc (by simp;omega) _
 have R1:=((RBox.make hz hq).move o2).move o3
 have R2:=(RBox.make (hz'.below o1) (hq'.below o1)).move o3
 have R4:=RBox.nil ((w.alloc (rbox n A l c B m d)).alloc (rbox n' A' l' c' B' m' d'))
 simp only [World.size_alloc] at R2 R4
 replace R1:=Lib.hid R1
 replace R2:=Lib.hid R2
 replace R4:=Lib.hid R4
 have Hb:=Lib.hid b3
 clear o1 o2 o3 b3 hz hq hz' hq'
 go_enter Tryz.func28,Tryz.ntmps28
 go_wp2_with fail
 refine (parts_any _ _ _ _ _ _ _ _ _ R1.out.hq.at_ sq (by omega)).mono ?_
 rintro e w1 ⟨rfl,hb1⟩
 replace R1:=Lib.hid (R1.out.move hb1)
 replace R2:=Lib.hid (R2.out.move hb1)
 replace R4:=Lib.hid (R4.out.move hb1)
 replace Hb:=Lib.hid (Hb.out.trans (hb1.mono Hb.out.size))
 have lt4:w.heap.size+1+1<w1.heap.size:=R4.out.lt
 have x0:=R2.out.c0
 have x1:=R2.out.c1
 have x2:=R2.out.c2
 have ltx:w.heap.size+1<w1.heap.size:=by omega
 have lty:w.heap.size+1<w1.heap.size+1:=by omega
 clear hb1
 go_wp2_with fail
 have k1:=new_below w1 (ibox n A l c)
 have k2:=new_below (w1.alloc (ibox n A l c)) (ibox false B m d)
 have kb:Below w1.heap.size w1 ((w1.alloc (ibox n A l c)).alloc (ibox false B m d)):=k1.alloc (by simp) _
 have i5:=(IBox.make R1.out.hz).move k2
 have hqP:IntN w1 false B m d (q:Int):=⟨by rw [Int.natAbs_natCast];exact R1.out.hq,by simp⟩
 have i6:=IBox.make (hqP.below k1)
 simp only [World.size_alloc] at i6
 replace R2:=Lib.hid (R2.out.move kb)
 replace R4:=Lib.hid (R4.out.move kb)
 replace Hb:=Lib.hid (Hb.out.trans (kb.mono Hb.out.size))
 have I5:=Lib.hid i5
 have I6:=Lib.hid i6
 clear k1 k2 kb i5 i6 hqP R1 x0 x1 x2
 refine (parts_any _ _ _ _ _ _ _ _ _ R2.out.hq.at_ sq' (by omega)).mono ?_
 rintro e w2 ⟨rfl,hb2⟩
 have hsz2:=hb2.size
 simp only [World.size_alloc] at hsz2
 replace I5:=Lib.hid (I5.out.move hb2)
 replace I6:=Lib.hid (I6.out.move hb2)
 replace R2:=Lib.hid (R2.out.move hb2)
 replace R4:=Lib.hid (R4.out.move hb2)
 replace Hb:=Lib.hid (Hb.out.trans (hb2.mono Hb.out.size))
 have k1:=new_below w2 (ibox n' A' l' c')
 have k2:=new_below (w2.alloc (ibox n' A' l' c')) (ibox false B' m' d')
 have kb:Below w2.heap.size w2 ((w2.alloc (ibox n' A' l' c')).alloc (ibox false B' m' d')):=k1.alloc (by simp) _
 have i7:=(IBox.make R2.out.hz).move k2
 have hqP:IntN w2 false B' m' d' (q':Int):=⟨by rw [Int.natAbs_natCast];exact R2.out.hq,by simp⟩
 have i8:=IBox.make (hqP.below k1)
 simp only [World.size_alloc] at i8
 replace I5:=Lib.hid (I5.out.move kb)
 replace I6:=Lib.hid (I6.out.move kb)
 replace R4:=Lib.hid (R4.out.move kb)
 replace Hb:=Lib.hid (Hb.out.trans (kb.mono Hb.out.size))
 have I7:=Lib.hid i7
 have I8:=Lib.hid i8
 clear k1 k2 kb i7 i8 hqP R2 hb2
 obtain ⟨wc,hwc⟩:∃ wc,wc=(w2.alloc (ibox n' A' l' c')).alloc (ibox false B' m' d'):=⟨_,rfl⟩
 have hszc:wc.heap.size=w2.heap.size+1+1:=by rw [hwc];simp
 go_wp2_with fail
 rw [← hwc] at I5 I6 I7 I8 R4 Hb ⊢
 clear hwc
 obtain ⟨g4,hg4⟩:∃ g,g=w.heap.size+1+1:=⟨_,rfl⟩
 obtain ⟨g5,hg5⟩:∃ g,g=w1.heap.size:=⟨_,rfl⟩
 obtain ⟨g6,hg6⟩:∃ g,g=w1.heap.size+1:=⟨_,rfl⟩
 obtain ⟨g7,hg7⟩:∃ g,g=w2.heap.size:=⟨_,rfl⟩
 obtain ⟨g8,hg8⟩:∃ g,g=w2.heap.size+1:=⟨_,rfl⟩
 rw [← hg4] at R4
 rw [← hg5] at I5
 rw [← hg6] at I6
 rw [← hg7] at I7
 rw [← hg8] at I8
 rw [← hg4,← hg6,← hg5,← hg8,← hg7]
 have l4:g4<wc.heap.size:=by omega
 have l4w:w.heap.size<g4:=by omega
 have l5:g5<wc.heap.size:=by omega
 have l6:g6<wc.heap.size:=by omega
 have l7:g7<wc.heap.size:=by omega
 have l8:g8<wc.heap.size:=by omega
 clear hg4 hg5 hg6 hg7 hg8 hszc hsz2 lt4 ltx lty
 have a0:=I5.out.c0
 have a1:=I5.out.c1
 have b0:=I6.out.c0
 have b1:=I6.out.c1
 have d0:=I7.out.c0
 have d1:=I7.out.c1
 have e0:=I8.out.c0
 have e1:=I8.out.c1
 refine wp_region_last (S:=fun w'=>w'.cell? ⟨g5,0,none⟩=some (.bool n)∧w'.cell? ⟨g5,1,none⟩=some (.slice A l c)∧w'.cell? ⟨g6,0,none⟩=some (.bool false)∧w'.cell? ⟨g6,1,none⟩=some (.slice B m d)∧w'.cell? ⟨g7,0,none⟩=some (.bool n')∧w'.cell? ⟨g7,1,none⟩=some (.slice A' l' c')∧w'.cell? ⟨g8,0,none⟩=some (.bool false)∧w'.cell? ⟨g8,1,none⟩=some (.slice B' m' d')) (by kernel_rfl) (by kernel_rfl) (by (try dsimp only);go_keep) (fun hHeld=>?_)
 simp only [List.pop_toArray,List.dropLast]
 (refine tk (i:=0) (v:=?_) rfl rfl (Or.inl ⟨by rfl,?_⟩) ?_;rotate_left;(focus (intro w hSw;(try dsimp only at hSw);go_simp;(try with_reducible rfl)));(simp only [put_lit,List.set]))
 (refine tk (i:=1) (v:=?_) rfl rfl (Or.inl ⟨by rfl,?_⟩) ?_;rotate_left;(focus (intro w hSw;(try dsimp only at hSw);go_simp;(try with_reducible rfl)));(simp only [put_lit,List.set]))
 (refine tk (i:=3) (v:=?_) rfl rfl (Or.inl ⟨by rfl,?_⟩) ?_;rotate_left;(focus (intro w hSw;(try dsimp only at hSw);go_simp;(try with_reducible rfl)));(simp only [put_lit,List.set]))
 (refine tk (i:=4) (v:=?_) rfl rfl (Or.inl ⟨by rfl,?_⟩) ?_;rotate_left;(focus (intro w hSw;(try dsimp only at hSw);go_simp;(try with_reducible rfl)));(simp only [put_lit,List.set]))
 (refine tk (i:=7) (v:=?_) rfl rfl (Or.inl ⟨by rfl,?_⟩) ?_;rotate_left;(focus (intro w hSw;(try dsimp only at hSw);go_simp;(try with_reducible rfl)));(simp only [put_lit,List.set]))
 (refine tk (i:=8) (v:=?_) rfl rfl (Or.inl ⟨by rfl,?_⟩) ?_;rotate_left;(focus (intro w hSw;(try dsimp only at hSw);go_simp;(try with_reducible rfl)));(simp only [put_lit,List.set]))
 refine wpAnyH_ready (rs:=[2]) (by kernel_rfl) (by simp) ?_
 refine AllReadyH.cons rfl (fun K hK=>?_) AllReadyH.nil;go_simp
 refine (imul_any _ _ _ _ _ _ _ _ _ _ _ ?_ ?_ fz.sm fq'.sm (fz.mulok _)).mono ?_
 ·exact I5.out.hz.at_.below Bel.go
 ·exact I8.out.hz.at_.below Bel.go
 rintro e w10 ⟨n10,A10,l10,c10,rfl,h10,hb10⟩
 rw [← HS1.out] at h10
 obtain ⟨hcx,hfx⟩:=bcellS hb10
 replace I6:=Lib.hid (I6.out.move (Below.trans Bel.go (hb10.mono (by simp<;>omega))))
 replace I7:=Lib.hid (I7.out.move (Below.trans Bel.go (hb10.mono (by simp<;>omega))))
 replace I8:=Lib.hid (I8.out.move (Below.trans Bel.go (hb10.mono (by simp<;>omega))))
 replace R4:=Lib.hid (R4.out.move (Below.trans Bel.go (hb10.mono (by simp<;>omega))))
 replace Hb:=Lib.hid (Hb.out.trans ((Below.trans Bel.go (hb10.mono (by simp<;>omega))).mono Hb.out.size))
 have H10:=Lib.hid h10
 refine hK.out _ _ ?_ (fun _=>?_)
 ·((try dsimp only);repeat' apply And.intro)<;>(rw [hcx _ (by go_simp)];go_simp)
 clear hHeld hK K hcx hfx;rename_i hHeld
 clear h10 hb10
 refine wpAnyH_ready (rs:=[5]) (by kernel_rfl) (by simp) ?_
 refine AllReadyH.cons rfl (fun K hK=>?_) AllReadyH.nil;go_simp
 refine (imul_any _ _ _ _ _ _ _ _ _ _ _ ?_ ?_ fz'.sm fq.sm (fz'.mulok _)).mono ?_
 ·exact I7.out.hz.at_.below Bel.go
 ·exact I6.out.hz.at_.below Bel.go
 rintro e w11 ⟨n11,A11,l11,c11,rfl,h11,hb11⟩
 rw [← HS2.out] at h11
 obtain ⟨hcx,hfx⟩:=bcellS hb11
 replace I6:=Lib.hid (I6.out.move (Below.trans Bel.go (hb11.mono (by simp<;>omega))))
 replace I8:=Lib.hid (I8.out.move (Below.trans Bel.go (hb11.mono (by simp<;>omega))))
 replace R4:=Lib.hid (R4.out.move (Below.trans Bel.go (hb11.mono (by simp<;>omega))))
 replace Hb:=Lib.hid (Hb.out.trans ((Below.trans Bel.go (hb11.mono (by simp<;>omega))).mono Hb.out.size))
 replace H10:=Lib.hid (H10.out.below (Below.trans Bel.go (hb11.mono (by simp<;>omega))))
 have H11:=Lib.hid h11
 refine hK.out _ _ ?_ (fun _=>?_)
 ·((try dsimp only);repeat' apply And.intro)<;>(rw [hcx _ (by go_simp)];go_simp)
 clear hHeld hK K hcx hfx;rename_i hHeld
 clear h11 hb11
 refine wpAnyH_ready (rs:=[6]) (by kernel_rfl) (by simp) ?_
 refine AllReadyH.cons rfl (fun K hK=>?_) AllReadyH.nil;go_simp
 refine (isub_any _ _ _ _ S1 _ _ _ _ S2 _ (H10.out.at_.below Bel.go) (H11.out.at_.below Bel.go) ss1 ss2 ssum).mono ?_
 rintro e w12 ⟨n12,A12,l12,c12,rfl,h12,hb12⟩
 obtain ⟨hcx,hfx⟩:=bcellS hb12
 replace I6:=Lib.hid (I6.out.move (Below.trans Bel.go (hb12.mono (by simp<;>omega))))
 replace I8:=Lib.hid (I8.out.move (Below.trans Bel.go (hb12.mono (by simp<;>omega))))
 replace R4:=Lib.hid (R4.out.move (Below.trans Bel.go (hb12.mono (by simp<;>omega))))
 replace Hb:=Lib.hid (Hb.out.trans ((Below.trans Bel.go (hb12.mono (by simp<;>omega))).mono Hb.out.size))
 have H12:=Lib.hid h12
 refine hK.out _ _ ?_ (fun _=>?_)
 ·((try dsimp only);repeat' apply And.intro)<;>(rw [hcx _ (by go_simp)];go_simp)
 clear hHeld hK K hcx hfx;rename_i hHeld
 clear h12 hb12 H10 H11
 refine wpAnyH_ready (rs:=[9]) (by kernel_rfl) (by simp) ?_
 refine AllReadyH.cons rfl (fun K hK=>?_) AllReadyH.nil;go_simp
 refine (imul_any _ _ _ _ _ _ _ _ _ _ _ ?_ ?_ fq.sm fq'.sm (fq.mulok _)).mono ?_
 ·exact I6.out.hz.at_.below Bel.go
 ·exact I8.out.hz.at_.below Bel.go
 rintro e w13 ⟨n13,A13,l13,c13,rfl,h13,hb13⟩
 have e13:(q:Int)*(q':Int)=(DD:Int):=by rw [HDD.out,Int.natCast_mul]
 rw [e13] at h13
 obtain ⟨hcx,hfx⟩:=bcellS hb13
 replace R4:=Lib.hid (R4.out.move (Below.trans Bel.go (hb13.mono (by simp<;>omega))))
 replace Hb:=Lib.hid (Hb.out.trans ((Below.trans Bel.go (hb13.mono (by simp<;>omega))).mono Hb.out.size))
 replace H12:=Lib.hid (H12.out.below (Below.trans Bel.go (hb13.mono (by simp<;>omega))))
 have H13:=Lib.hid h13
 refine hK.out _ _ ?_ (fun _=>?_)
 ·((try dsimp only);repeat' apply And.intro)<;>(rw [hcx _ (by go_simp)];go_simp)
 clear hHeld hK K hcx hfx;rename_i hHeld
 clear h13 hb13 e13
 refine wpAnyH_ready (rs:=[10]) (by kernel_rfl) (by simp) ?_
 refine AllReadyH.cons rfl (fun K hK=>?_) AllReadyH.nil;go_simp
 refine (reduce_all _ _ _ _ (S1-S2) _ _ _ _ DD _ (H12.out.below Bel.go) (H13.out.below Bel.go) sS sD hD0).mono ?_
 rintro e w14 ⟨⟨n14,A14,l14,c14,B14,m14,d14,rfl,h14,k14⟩,hb14⟩
 obtain ⟨hcx,hfx⟩:=bcellS hb14
 have j4:=R4.out.move (Below.trans Bel.go (hb14.mono (by simp<;>omega)))
 have Jb2:=Lib.hid (Hb.out.trans ((Below.trans Bel.go (hb14.mono (by simp<;>omega))).mono Hb.out.size))
 refine hK.out _ _ ?_ (fun _=>?_)
 ·((try dsimp only);repeat' apply And.intro)<;>(rw [hcx _ (by go_simp)];go_simp)
 clear hHeld hK K hcx hfx;rename_i hHeld
 refine wpAnyH_done (by kernel_rfl) (lastQ_list rfl ?_) _
 have HP:=Lib.hid (j4.put h14 k14)
 have r0:=j4.c0
 have r1:=j4.c1
 have r2:=j4.c2
 have r3:=j4.f0
 have r4:=j4.f1
 have r5:=j4.f2
 clear hHeld j4 h14 k14 hb14 a0 a1 b0 b1 d0 d1 e0 e1
 go_wp2
 refine bodyPost_ret (v:=.agg #[.bool n14,.slice A14 l14 c14,.slice B14 m14 d14]) (by simp [results,Tryz.results28,go_sem,r0,r1,r2]) rfl ⟨⟨_,_,_,_,_,_,_,rfl,HP.out.hz,HP.out.hq⟩,?_⟩
 exact ((Jb2.out.setCell (p:=⟨g4,0,none⟩) (by simp;omega) _).setCell (p:=⟨g4,1,none⟩) (by simp;omega) _).setCell (p:=⟨g4,2,none⟩) (by simp;omega) _
end Go.Proofs.YtppggpfcdgilmaaGreat
namespace Go.Proofs.YtppggpfcdgilmaaGreat
open Go.RowKit
set_option maxRecDepth 100000 in
set_option maxHeartbeats 8000000 in
theorem radd_any (n:Bool) (A:Option Addr) (l c:Nat) (B:Option Addr) (m d q:Nat) (z:Int) (n':Bool) (A':Option Addr) (l' c':Nat) (B':Option Addr) (m' d' q':Nat) (z':Int) (w:World) (hz:IntN w n A l c z) (hq:NatN w B m d q) (hz':IntN w n' A' l' c' z') (hq':NatN w B' m' d' q') (fz:Fit z) (fq:Fit (q:Int)) (h0:0<q) (fz':Fit z') (fq':Fit (q':Int)) (h0':0<q') :
 Calls Tryz.prog 44 #[.agg #[.bool n,.slice A l c,.slice B m d],.agg #[.bool n',.slice A' l' c',.slice B' m' d']] w fun e w'=>RatE ((z*(q':Int)+z'*(q:Int)).tdiv (Nat.gcd (z*(q':Int)+z'*(q:Int)).natAbs (q*q'))) (q*q' / Nat.gcd (z*(q':Int)+z'*(q:Int)).natAbs (q*q')) e w'∧Below w.heap.size w w':=by
 have sq:=fq.smnat
 have sq':=fq'.smnat
 obtain ⟨S1,hS1⟩:∃ S1,S1=z*(q':Int):=⟨_,rfl⟩
 obtain ⟨S2,hS2⟩:∃ S2,S2=z'*(q:Int):=⟨_,rfl⟩
 obtain ⟨DD,hDD⟩:∃ DD,DD=q*q':=⟨_,rfl⟩
 have ss1:SmI S1:=by rw [hS1];exact fz.sm2 fq'
 have ss2:SmI S2:=by rw [hS2];exact fz'.sm2 fq
 have ssum:Sm (S1.natAbs+S2.natAbs):=by
  have a1:=fz.mul fq'
  have a2:=fz'.mul fq
  rw [← hS1] at a1
  rw [← hS2] at a2
  refine sm_pow (k:=FW+FW+1) ?_ (by rw [FW_eq];decide)
  have a3:2*BB^(FW+FW)<BB^(FW+FW+1):=mulpow_lt (by omega)
  omega
 have sS:SmI (S1+S2):=Sm.mono ssum (by omega)
 have sqq:SmI ((q:Int)*(q':Int)):=fq.sm2 fq'
 have sD:SmI (DD:Int):=by rw [hDD,Int.natCast_mul];exact sqq
 have hD0:0<DD:=by rw [hDD];exact Nat.mul_pos h0 h0'
 rw [← hS1,← hS2,← hDD]
 have HS1:=Lib.hid hS1
 have HS2:=Lib.hid hS2
 have HDD:=Lib.hid hDD
 clear hS1 hS2 hDD
 have o1:=new_below w (rbox n A l c B m d)
 have o2:=new_below (w.alloc (rbox n A l c B m d)) (rbox n' A' l' c' B' m' d')
 have o3:=new_below ((w.alloc (rbox n A l c B m d)).alloc (rbox n' A' l' c' B' m' d')) (rbox false none 0 0 none 0 0)
 have b3:Below w.heap.size w (((w.alloc (rbox n A l c B m d)).alloc (rbox n' A' l' c' B' m' d')).alloc (rbox false none 0 0 none 0 0)):=(o1.alloc (by simp) _).alloc (by simp;omega) _
 have R1:=((RBox.make hz hq).move o2).move o3
 have R2:=(RBox.make (hz'.below o1) (hq'.below o1)).move o3
 have R4:=RBox.nil ((w.alloc (rbox n A l c B m d)).alloc (rbox n' A' l' c' B' m' d'))
 simp only [World.size_alloc] at R2 R4
 replace R1:=Lib.hid R1
 replace R2:=Lib.hid R2
 replace R4:=Lib.hid R4
 have Hb:=Lib.hid b3
 clear o1 o2 o3 b3 hz hq hz' hq'
 go_enter Tryz.func44,Tryz.ntmps44
 go_wp2_with fail
 refine (parts_any _ _ _ _ _ _ _ _ _ R1.out.hq.at_ sq (by omega)).mono ?_
 rintro e w1 ⟨rfl,hb1⟩
 replace R1:=Lib.hid (R1.out.move hb1)
 replace R2:=Lib.hid (R2.out.move hb1)
 replace R4:=Lib.hid (R4.out.move hb1)
 replace Hb:=Lib.hid (Hb.out.trans (hb1.mono Hb.out.size))
 have lt4:w.heap.size+1+1<w1.heap.size:=R4.out.lt
 have x0:=R2.out.c0
 have x1:=R2.out.c1
 have x2:=R2.out.c2
 have ltx:w.heap.size+1<w1.heap.size:=by omega
 have lty:w.heap.size+1<w1.heap.size+1:=by omega
 clear hb1
 go_wp2_with fail
 have k1:=new_below w1 (ibox n A l c)
 have k2:=new_below (w1.alloc (ibox n A l c)) (ibox false B m d)
 have kb:Below w1.heap.size w1 ((w1.alloc (ibox n A l c)).alloc (ibox false B m d)):=k1.alloc (by simp) _
 have i5:=(IBox.make R1.out.hz).move k2
 have hqP:IntN w1 false B m d (q:Int):=⟨by rw [Int.natAbs_natCast];exact R1.out.hq,by simp⟩
 have i6:=IBox.make (hqP.below k1)
 simp only [World.size_alloc] at i6
 replace R2:=Lib.hid (R2.out.move kb)
 replace R4:=Lib.hid (R4.out.move kb)
 replace Hb:=Lib.hid (Hb.out.trans (kb.mono Hb.out.size))
 have I5:=Lib.hid i5
 have I6:=Lib.hid i6
 clear k1 k2 kb i5 i6 hqP R1 x0 x1 x2
 refine (parts_any _ _ _ _ _ _ _ _ _ R2.out.hq.at_ sq' (by omega)).mono ?_
 rintro e w2 ⟨rfl,hb2⟩
 have hsz2:=hb2.size
 simp only [World.size_alloc] at hsz2
 replace I5:=Lib.hid (I5.out.move hb2)
 replace I6:=Lib.hid (I6.out.move hb2)
 replace R2:=Lib.hid (R2.out.move hb2)
 replace R4:=Lib.hid (R4.out.move hb2)
 replace Hb:=Lib.hid (Hb.out.trans (hb2.mono Hb.out.size))
 have k1:=new_below w2 (ibox n' A' l' c')
 have k2:=new_below (w2.alloc (ibox n' A' l' c')) (ibox false B' m' d')
 have kb:Below w2.heap.size w2 ((w2.alloc (ibox n' A' l' c')).alloc (ibox false B' m' d')):=k1.alloc (by simp) _
 have i7:=(IBox.make R2.out.hz).move k2
 have hqP:IntN w2 false B' m' d' (q':Int):=⟨by rw [Int.natAbs_natCast];exact R2.out.hq,by simp⟩
 have i8:=IBox.make (hqP.below k1)
 simp only [World.size_alloc] at i8
 replace I5:=Lib.hid (I5.out.move kb)
 replace I6:=Lib.hid (I6.out.move kb)
 replace R4:=Lib.hid (R4.out.move kb)
 replace Hb:=Lib.hid (Hb.out.trans (kb.mono Hb.out.size))
 have I7:=Lib.hid i7
 have I8:=Lib.hid i8
 clear k1 k2 kb i7 i8 hqP R2 hb2
 obtain ⟨wc,hwc⟩:∃ wc,wc=(w2.alloc (ibox n' A' l' c')).alloc (ibox false B' m' d'):=⟨_,rfl⟩
 have hszc:wc.heap.size=w2.heap.size+1+1:=by rw [hwc];simp
 go_wp2_with fail
 rw [← hwc] at I5 I6 I7 I8 R4 Hb ⊢
 clear hwc
 obtain ⟨g4,hg4⟩:∃ g,g=w.heap.size+1+1:=⟨_,rfl⟩
 obtain ⟨g5,hg5⟩:∃ g,g=w1.heap.size:=⟨_,rfl⟩
 obtain ⟨g6,hg6⟩:∃ g,g=w1.heap.size+1:=⟨_,rfl⟩
 obtain ⟨g7,hg7⟩:∃ g,g=w2.heap.size:=⟨_,rfl⟩
 obtain ⟨g8,hg8⟩:∃ g,g=w2.heap.size+1:=⟨_,rfl⟩
 rw [← hg4] at R4
 rw [← hg5] at I5
 rw [← hg6] at I6
 rw [← hg7] at I7
 rw [← hg8] at I8
 rw [← hg4,← hg6,← hg5,← hg8,← hg7]
 have l4:g4<wc.heap.size:=by omega
 have l4w:w.heap.size<g4:=by omega
 have l5:g5<wc.heap.size:=by omega
 have l6:g6<wc.heap.size:=by omega
 have l7:g7<wc.heap.size:=by omega
 have l8:g8<wc.heap.size:=by omega
 clear hg4 hg5 hg6 hg7 hg8 hszc hsz2 lt4 ltx lty
 have a0:=I5.out.c0
 have a1:=I5.out.c1
 have b0:=I6.out.c0
 have b1:=I6.out.c1
 have d0:=I7.out.c0
 have d1:=I7.out.c1
 have e0:=I8.out.c0
 have e1:=I8.out.c1
 refine wp_region_last (S:=fun w'=>w'.cell? ⟨g5,0,none⟩=some (.bool n)∧w'.cell? ⟨g5,1,none⟩=some (.slice A l c)∧w'.cell? ⟨g6,0,none⟩=some (.bool false)∧w'.cell? ⟨g6,1,none⟩=some (.slice B m d)∧w'.cell? ⟨g7,0,none⟩=some (.bool n')∧w'.cell? ⟨g7,1,none⟩=some (.slice A' l' c')∧w'.cell? ⟨g8,0,none⟩=some (.bool false)∧w'.cell? ⟨g8,1,none⟩=some (.slice B' m' d')) (by kernel_rfl) (by kernel_rfl) (by (try dsimp only);go_keep) (fun hHeld=>?_)
 simp only [List.pop_toArray,List.dropLast]
 (refine tk (i:=0) (v:=?_) rfl rfl (Or.inl ⟨by rfl,?_⟩) ?_;rotate_left;(focus (intro w hSw;(try dsimp only at hSw);go_simp;(try with_reducible rfl)));(simp only [put_lit,List.set]))
 (refine tk (i:=1) (v:=?_) rfl rfl (Or.inl ⟨by rfl,?_⟩) ?_;rotate_left;(focus (intro w hSw;(try dsimp only at hSw);go_simp;(try with_reducible rfl)));(simp only [put_lit,List.set]))
 (refine tk (i:=3) (v:=?_) rfl rfl (Or.inl ⟨by rfl,?_⟩) ?_;rotate_left;(focus (intro w hSw;(try dsimp only at hSw);go_simp;(try with_reducible rfl)));(simp only [put_lit,List.set]))
 (refine tk (i:=4) (v:=?_) rfl rfl (Or.inl ⟨by rfl,?_⟩) ?_;rotate_left;(focus (intro w hSw;(try dsimp only at hSw);go_simp;(try with_reducible rfl)));(simp only [put_lit,List.set]))
 (refine tk (i:=7) (v:=?_) rfl rfl (Or.inl ⟨by rfl,?_⟩) ?_;rotate_left;(focus (intro w hSw;(try dsimp only at hSw);go_simp;(try with_reducible rfl)));(simp only [put_lit,List.set]))
 (refine tk (i:=8) (v:=?_) rfl rfl (Or.inl ⟨by rfl,?_⟩) ?_;rotate_left;(focus (intro w hSw;(try dsimp only at hSw);go_simp;(try with_reducible rfl)));(simp only [put_lit,List.set]))
 refine wpAnyH_ready (rs:=[2]) (by kernel_rfl) (by simp) ?_
 refine AllReadyH.cons rfl (fun K hK=>?_) AllReadyH.nil;go_simp
 refine (imul_any _ _ _ _ _ _ _ _ _ _ _ ?_ ?_ fz.sm fq'.sm (fz.mulok _)).mono ?_
 ·exact I5.out.hz.at_.below Bel.go
 ·exact I8.out.hz.at_.below Bel.go
 rintro e w10 ⟨n10,A10,l10,c10,rfl,h10,hb10⟩
 rw [← HS1.out] at h10
 obtain ⟨hcx,hfx⟩:=bcellS hb10
 replace I6:=Lib.hid (I6.out.move (Below.trans Bel.go (hb10.mono (by simp<;>omega))))
 replace I7:=Lib.hid (I7.out.move (Below.trans Bel.go (hb10.mono (by simp<;>omega))))
 replace I8:=Lib.hid (I8.out.move (Below.trans Bel.go (hb10.mono (by simp<;>omega))))
 replace R4:=Lib.hid (R4.out.move (Below.trans Bel.go (hb10.mono (by simp<;>omega))))
 replace Hb:=Lib.hid (Hb.out.trans ((Below.trans Bel.go (hb10.mono (by simp<;>omega))).mono Hb.out.size))
 have H10:=Lib.hid h10
 refine hK.out _ _ ?_ (fun _=>?_)
 ·((try dsimp only);repeat' apply And.intro)<;>(rw [hcx _ (by go_simp)];go_simp)
 clear hHeld hK K hcx hfx;rename_i hHeld
 clear h10 hb10
 refine wpAnyH_ready (rs:=[5]) (by kernel_rfl) (by simp) ?_
 refine AllReadyH.cons rfl (fun K hK=>?_) AllReadyH.nil;go_simp
 refine (imul_any _ _ _ _ _ _ _ _ _ _ _ ?_ ?_ fz'.sm fq.sm (fz'.mulok _)).mono ?_
 ·exact I7.out.hz.at_.below Bel.go
 ·exact I6.out.hz.at_.below Bel.go
 rintro e w11 ⟨n11,A11,l11,c11,rfl,h11,hb11⟩
 rw [← HS2.out] at h11
 obtain ⟨hcx,hfx⟩:=bcellS hb11
 replace I6:=Lib.hid (I6.out.move (Below.trans Bel.go (hb11.mono (by simp<;>omega))))
 replace I8:=Lib.hid (I8.out.move (Below.trans Bel.go (hb11.mono (by simp<;>omega))))
 replace R4:=Lib.hid (R4.out.move (Below.trans Bel.go (hb11.mono (by simp<;>omega))))
 replace Hb:=Lib.hid (Hb.out.trans ((Below.trans Bel.go (hb11.mono (by simp<;>omega))).mono Hb.out.size))
 replace H10:=Lib.hid (H10.out.below (Below.trans Bel.go (hb11.mono (by simp<;>omega))))
 have H11:=Lib.hid h11
 refine hK.out _ _ ?_ (fun _=>?_)
 ·((try dsimp only);repeat' apply And.intro)<;>(rw [hcx _ (by go_simp)];go_simp)
 clear hHeld hK K hcx hfx;rename_i hHeld
 clear h11 hb11
 refine wpAnyH_ready (rs:=[6]) (by kernel_rfl) (by simp) ?_
 refine AllReadyH.cons rfl (fun K hK=>?_) AllReadyH.nil;go_simp
 refine (iadd_any _ _ _ _ S1 _ _ _ _ S2 _ (H10.out.at_.below Bel.go) (H11.out.at_.below Bel.go) ss1 ss2 ssum).mono ?_
 rintro e w12 ⟨n12,A12,l12,c12,rfl,h12,hb12⟩
 obtain ⟨hcx,hfx⟩:=bcellS hb12
 replace I6:=Lib.hid (I6.out.move (Below.trans Bel.go (hb12.mono (by simp<;>omega))))
 replace I8:=Lib.hid (I8.out.move (Below.trans Bel.go (hb12.mono (by simp<;>omega))))
 replace R4:=Lib.hid (R4.out.move (Below.trans Bel.go (hb12.mono (by simp<;>omega))))
 replace Hb:=Lib.hid (Hb.out.trans ((Below.trans Bel.go (hb12.mono (by simp<;>omega))).mono Hb.out.size))
 have H12:=Lib.hid h12
 refine hK.out _ _ ?_ (fun _=>?_)
 ·((try dsimp only);repeat' apply And.intro)<;>(rw [hcx _ (by go_simp)];go_simp)
 clear hHeld hK K hcx hfx;rename_i hHeld
 clear h12 hb12 H10 H11
 refine wpAnyH_ready (rs:=[9]) (by kernel_rfl) (by simp) ?_
 refine AllReadyH.cons rfl (fun K hK=>?_) AllReadyH.nil;go_simp
 refine (imul_any _ _ _ _ _ _ _ _ _ _ _ ?_ ?_ fq.sm fq'.sm (fq.mulok _)).mono ?_
 ·exact I6.out.hz.at_.below Bel.go
 ·exact I8.out.hz.at_.below Bel.go
 rintro e w13 ⟨n13,A13,l13,c13,rfl,h13,hb13⟩
 have e13:(q:Int)*(q':Int)=(DD:Int):=by rw [HDD.out,Int.natCast_mul]
 rw [e13] at h13
 obtain ⟨hcx,hfx⟩:=bcellS hb13
 replace R4:=Lib.hid (R4.out.move (Below.trans Bel.go (hb13.mono (by simp<;>omega))))
 replace Hb:=Lib.hid (Hb.out.trans ((Below.trans Bel.go (hb13.mono (by simp<;>omega))).mono Hb.out.size))
 replace H12:=Lib.hid (H12.out.below (Below.trans Bel.go (hb13.mono (by simp<;>omega))))
 have H13:=Lib.hid h13
 refine hK.out _ _ ?_ (fun _=>?_)
 ·((try dsimp only);repeat' apply And.intro)<;>(rw [hcx _ (by go_simp)];go_simp)
 clear hHeld hK K hcx hfx;rename_i hHeld
 clear h13 hb13 e13
 refine wpAnyH_ready (rs:=[10]) (by kernel_rfl) (by simp) ?_
 refine AllReadyH.cons rfl (fun K hK=>?_) AllReadyH.nil;go_simp
 refine (reduce_all _ _ _ _ (S1+S2) _ _ _ _ DD _ (H12.out.below Bel.go) (H13.out.below Bel.go) sS sD hD0).mono ?_
 rintro e w14 ⟨⟨n14,A14,l14,c14,B14,m14,d14,rfl,h14,k14⟩,hb14⟩
 obtain ⟨hcx,hfx⟩:=bcellS hb14
 have j4:=R4.out.move (Below.trans Bel.go (hb14.mono (by simp<;>omega)))
 have Jb2:=Lib.hid (Hb.out.trans ((Below.trans Bel.go (hb14.mono (by simp<;>omega))).mono Hb.out.size))
 refine hK.out _ _ ?_ (fun _=>?_)
 ·((try dsimp only);repeat' apply And.intro)<;>(rw [hcx _ (by go_simp)];go_simp)
 clear hHeld hK K hcx hfx;rename_i hHeld
 refine wpAnyH_done (by kernel_rfl) (lastQ_list rfl ?_) _
 have HP:=Lib.hid (j4.put h14 k14)
 have r0:=j4.c0
 have r1:=j4.c1
 have r2:=j4.c2
 have r3:=j4.f0
 have r4:=j4.f1
 have r5:=j4.f2
 clear hHeld j4 h14 k14 hb14 a0 a1 b0 b1 d0 d1 e0 e1
 go_wp2
 refine bodyPost_ret (v:=.agg #[.bool n14,.slice A14 l14 c14,.slice B14 m14 d14]) (by simp [results,Tryz.results44,go_sem,r0,r1,r2]) rfl ⟨⟨_,_,_,_,_,_,_,rfl,HP.out.hz,HP.out.hq⟩,?_⟩
 exact ((Jb2.out.setCell (p:=⟨g4,0,none⟩) (by simp;omega) _).setCell (p:=⟨g4,1,none⟩) (by simp;omega) _).setCell (p:=⟨g4,2,none⟩) (by simp;omega) _
end Go.Proofs.YtppggpfcdgilmaaGreat
namespace Go.Proofs.YtppggpfcdgilmaaGreat
open Go.RowKit
def Fq.sub (a b:Fq):Fq:=⟨(a.z*(b.q:Int)-b.z*(a.q:Int)).tdiv (Nat.gcd (a.z*(b.q:Int)-b.z*(a.q:Int)).natAbs (a.q*b.q)),a.q*b.q / Nat.gcd (a.z*(b.q:Int)-b.z*(a.q:Int)).natAbs (a.q*b.q)⟩
def Fq.add (a b:Fq):Fq:=⟨(a.z*(b.q:Int)+b.z*(a.q:Int)).tdiv (Nat.gcd (a.z*(b.q:Int)+b.z*(a.q:Int)).natAbs (a.q*b.q)),a.q*b.q / Nat.gcd (a.z*(b.q:Int)+b.z*(a.q:Int)).natAbs (a.q*b.q)⟩
theorem fit_one:Fit 1:=zb_fit (z:=1) (Nat.le_trans (by decide) zb_128)
theorem fit_onen:Fit ((1:Nat):Int):=fit_one
structure Sz (k:Nat) (a:Fq):Prop where
 p:0<a.q
 z:a.z.natAbs≤BB^k
 q:a.q≤BB^k
section
variable {a b:Fq} {j k:Nat}
theorem FqB.sz (h:FqB a):Sz ZK a:=⟨h.p,h.z,h.q⟩
theorem Sz.fz (h:Sz k a) (hk:k<FW):Fit a.z:=Nat.lt_of_le_of_lt h.z (Nat.pow_lt_pow_right (by rw [BB_eq];decide) hk)
theorem Sz.fq (h:Sz k a) (hk:k<FW):Fit (a.q:Int):=by
 unfold Fit
 rw [Int.natAbs_natCast]
 exact Nat.lt_of_le_of_lt h.q (Nat.pow_lt_pow_right (by rw [BB_eq];decide) hk)
theorem sz_le {Z D j k:Nat} (h1:Z≤BB^j) (h2:D≤BB^k):Z*D≤BB^(j+k):=by
 rw [Nat.pow_add]
 exact Nat.mul_le_mul h1 h2
theorem Sz.red (z:Int) (q:Nat) (h0:0<q) (hz:z.natAbs≤BB^k) (hq:q≤BB^k):Sz k ⟨rz z q,rq z q⟩:=by
 refine ⟨(nf_v (z:=z) h0).2.1,?_,?_⟩
 ·show (rz z q).natAbs≤_
  unfold rz
  rw [Int.natAbs_tdiv]
  exact Nat.le_trans (Nat.div_le_self _ _) hz
 ·show rq z q≤_
  unfold rq
  exact Nat.le_trans (Nat.div_le_self _ _) hq
theorem Sz.two (ha:Sz j a) (hb:Sz k b):(a.z*(b.q:Int)).natAbs+(b.z*(a.q:Int)).natAbs≤BB^(j+k+1)∧a.q*b.q≤BB^(j+k+1):=by
 have h1:=sz_le ha.z hb.q
 have h2:=sz_le hb.z ha.q
 have h3:=sz_le ha.q hb.q
 rw [Nat.add_comm k j] at h2
 have h4:2*BB^(j+k)≤BB^(j+k+1):=by
  rw [Nat.pow_succ,Nat.mul_comm]
  exact Nat.mul_le_mul_left _ (by rw [BB_eq];decide)
 rw [Int.natAbs_mul,Int.natAbs_mul,Int.natAbs_natCast,Int.natAbs_natCast]
 omega
theorem Sz.sub (ha:Sz j a) (hb:Sz k b):Sz (j+k+1) (a.sub b):=by
 obtain ⟨h1,h2⟩:=ha.two hb
 exact Sz.red _ _ (Nat.mul_pos ha.p hb.p) (by omega) h2
theorem Sz.add (ha:Sz j a) (hb:Sz k b):Sz (j+k+1) (a.add b):=by
 obtain ⟨h1,h2⟩:=ha.two hb
 exact Sz.red _ _ (Nat.mul_pos ha.p hb.p) (by omega) h2
theorem Fq.sub_v (ha:0<a.q) (hb:0<b.q):(a.sub b).v=a.v-b.v:=by
 have hq:0<a.q*b.q:=Nat.mul_pos ha hb
 have h1:=(Go.Proofs.YtppggpfcdgilmaaGreat.nf_v (z:=a.z*(b.q:Int)-b.z*(a.q:Int)) hq).1
 refine Eq.trans (show _=((rz (a.z*(b.q:Int)-b.z*(a.q:Int)) (a.q*b.q):Int):Rat) / ((rq (a.z*(b.q:Int)-b.z*(a.q:Int)) (a.q*b.q):Nat):Rat) from rfl) ?_
 rw [h1]
 unfold Fq.v
 have x1:(0:Rat)<((a.q:Nat):Rat):=by exact_mod_cast ha
 have x2:(0:Rat)<((b.q:Nat):Rat):=by exact_mod_cast hb
 have x3:=Rat.mul_pos x1 x2
 rw [Rat.intCast_sub,Rat.intCast_mul,Rat.intCast_mul,Rat.natCast_mul,Rat.intCast_natCast,Rat.intCast_natCast,Rat.div_def,Rat.div_def,Rat.div_def]
 generalize ((a.q:Nat):Rat)=s at *
 generalize ((b.q:Nat):Rat)=t at *
 generalize ((a.z:Int):Rat)=u at *
 generalize ((b.z:Int):Rat)=v at *
 grind
theorem Fq.add_v (ha:0<a.q) (hb:0<b.q):(a.add b).v=a.v+b.v:=by
 have hq:0<a.q*b.q:=Nat.mul_pos ha hb
 have h1:=(Go.Proofs.YtppggpfcdgilmaaGreat.nf_v (z:=a.z*(b.q:Int)+b.z*(a.q:Int)) hq).1
 refine Eq.trans (show _=((rz (a.z*(b.q:Int)+b.z*(a.q:Int)) (a.q*b.q):Int):Rat) / ((rq (a.z*(b.q:Int)+b.z*(a.q:Int)) (a.q*b.q):Nat):Rat) from rfl) ?_
 rw [h1]
 unfold Fq.v
 have x1:(0:Rat)<((a.q:Nat):Rat):=by exact_mod_cast ha
 have x2:(0:Rat)<((b.q:Nat):Rat):=by exact_mod_cast hb
 have x3:=Rat.mul_pos x1 x2
 rw [Rat.intCast_add,Rat.intCast_mul,Rat.intCast_mul,Rat.natCast_mul,Rat.intCast_natCast,Rat.intCast_natCast,Rat.div_def,Rat.div_def,Rat.div_def]
 generalize ((a.q:Nat):Rat)=s at *
 generalize ((b.q:Nat):Rat)=t at *
 generalize ((a.z:Int):Rat)=u at *
 generalize ((b.z:Int):Rat)=v at *
 grind
end
end Go.Proofs.YtppggpfcdgilmaaGreat
namespace Go.Proofs.YtppggpfcdgilmaaGreat
open Go Go.RowKit
abbrev ratZero:Value:=.agg #[.bool false,.slice none 0 0,.slice none 0 0]
theorem info_rat:(Tryz.prog.info? 35).map (fun i=>(i.zero,i.size,i.bytes))=some (some ratZero,3,56):=by kernel_rfl
theorem rat_nd:∀ j,j<3→Nd (ratZero.cells[j]!):=fun j hj=>by
 match j,hj with
 | 0,_=>exact nd_bool _
 | 1,_=>exact nd_slice _ _ _
 | 2,_=>exact nd_slice _ _ _
theorem addr0 {w:World} {g:Nat} {vs:List Value} (h:∀ j v,vs[j]?=some v→w.cell? ⟨g,j,none⟩=some v):∀ (j:Nat) (u:Value),vs[j]?=some u→w.cell? ((⟨g,0,none⟩:Addr).add j)=some u:=fun j u hu=>by
 rw [Addr.add_lit,Nat.zero_add];exact h j u hu
theorem wpList_make_own (w:World) {ops:Array Oper} {rest:List Oper} {o:Oper} {a:Act} {Q:Exit→Act→World→Prop} (t e:TypeId) (E:Nat) (i0:TypeInfo) (z:Value) (ht:Tryz.prog.underlying t=some (.slice e)) (hi:Tryz.prog.info? e=some i0) (hz0:i0.zero=some z) (hz1:i0.size=E) (hz2:i0.bytes≤200) (hzs:z.cells.size=E) (hzn:∀ j,j<E→Nd (z.cells[j]!)) (hE:0<E)
 (hg:o.guard=none) (l c:Operand) (hop:o.op=Op.makeSlice t l c) (n:Nat) (hl:a.eval l=.int .i64 0) (hc:a.eval c=.int .i64 (n:Int)) (hn:n≤100000000)
 (hK:∀ w',OwnE E e w.heap.size w' (.slice (some ⟨w.heap.size,0,none⟩) 0 n) []→Below w.heap.size w w'→w'.heap.size=w.heap.size+1→wpList Tryz.prog ops Q rest (a.put o.dst (.slice (some ⟨w.heap.size,0,none⟩) 0 n)) w') :
 wpList Tryz.prog ops Q (o :: rest) a w:=by
 refine wpList_plain hg fun K hK'=>?_
 have hbn:(i0.bytes:Int)*(n:Int)≤281474976710656:=by
  have:=Nat.mul_le_mul hz2 hn
  rw [← Int.natCast_mul]
  omega
 have hrun:=run_make (P:=Tryz.prog) w t e i0 z ht hi hz0 .i64 .i64 0 (n:Int) (by omega) (by omega) hbn (by omega)
 unfold Oper.wp
 simp [execOp,hop,hl,hc,hrun,Result.andThen]
 have hk:Blk (w.alloc (.cells (madeCells z.cells (n*i0.size)) e)) w.heap.size e (madeCells z.cells (n*i0.size)):=Blk.new w _ _
 refine hK' _ _ (hK _ (.inr ⟨_,0,n,_,rfl,Nat.le_refl _,by simp,Nat.zero_le _,fun j u hu=>by simp at hu,hk,by rw [size_madeCells,hz1],fun j hj=>?_⟩) ((Below.refl _ _).alloc (Nat.le_refl _) _) (by simp))
 have h1:j<n*i0.size:=by rw [hz1];exact hj
 refine ⟨z.cells[j % z.cells.size]!,?_,hzn _ (by rw [hzs];exact Nat.mod_lt _ hE)⟩
 unfold madeCells
 rw [Array.getElem?_map,Array.getElem?_range,if_pos h1]
 rfl
def gapp (rs:List (Fq×Fq)):Nat→List Fq
 | 0=>[(rs.getD 0 r00).1.sub ⟨1,1⟩]
 | k+1=>gapp rs k ++ [(rs.getD k r00).2.mid (rs.getD (k+1) r00).1]
theorem gapp_len (rs:List (Fq×Fq)):∀ k,(gapp rs k).length=k+1
 | 0=>rfl
 | k+1=>by rw [gapp,List.length_append,gapp_len rs k];rfl
open Classical in
noncomputable def gapl (rs:List (Fq×Fq)):List Fq :=
 if Sepa rs then (if rs.length=0 then [⟨0,1⟩] else gapp rs (rs.length-1) ++ [(rs.getD (rs.length-1) r00).2.add ⟨1,1⟩]) else []
def RatsE (gs:List Fq) (e:Ending) (w:World):Prop:=∃ A l c,e=.returned (.slice A l c)∧SlE 3 RatV w A l c gs
def GapI (rs:List (Fq×Fq)) (k B:Nat) (v:Value) (w:World):Prop:=∃ us,OwnE 3 35 B w v us∧Lay (RatV w) (gapp rs k) us
theorem GapI.below {rs:List (Fq×Fq)} {k B:Nat} {v:Value} {w w':World} (h:GapI rs k B v w) (hb:Below w.heap.size w w'):GapI rs k B v w':=by
 obtain ⟨us,h1,h2⟩:=h
 exact ⟨us,h1.below hb,h2.mono fun x vs hx=>hx.below hb⟩
theorem gap_len {rs:List (Fq×Fq)} {k:Nat} {w:World} {us:List Value} (h:Lay (RatV w) (gapp rs k) us):us.length=(k+1)*3:=by
 rw [h.len fun x vs hx=>hx.len,gapp_len]
theorem rat_grown {xs ys:List Fq} {B:Nat} {v v':Value} {us vs:List Value} {w w':World} (h:GrE 3 35 B w v us vs v' w') (hl:Lay (RatV w) xs us) (hy:Lay (RatV w) ys vs):Lay (RatV w') (xs ++ ys) (us ++ vs) :=
 h.lay hl hy (fun _ _ hb hx=>hx.below hb) (fun _ _ _ hf hn hx=>hx.frs hf hn hn)
theorem lay_one {w:World} {a:Fq} {n:Bool} {A:Option Addr} {l c:Nat} {B:Option Addr} {m d:Nat} (hz:IntN w n A l c a.z) (hq:NatN w B m d a.q):RatV w a [.bool n,.slice A l c,.slice B m d]:=⟨n,A,l,c,B,m,d,rfl,hz,hq⟩
theorem Lay.one {α:Type} {R:α→List Value→Prop} {x:α} {vs:List Value} (h:R x vs):Lay R [x] vs:=⟨vs,[],h,by simp,rfl⟩
set_option maxRecDepth 100000 in
set_option maxHeartbeats 8000000 in
theorem gaps_any {w:World} {A:Option Addr} {la ca:Nat} {rs:List (Fq×Fq)} (hr:RtsAt w A la ca rs) (hfq:∀ r∈rs,FqB r.1∧FqB r.2) (hla:la≤1000) :
 Calls Tryz.prog 20 #[.slice A la ca] w fun e w'=>RatsE (gapl rs) e w'∧Below w.heap.size w w':=by
 obtain ⟨i0,hi,hz0,hz1,hz2⟩:=info_parts info_rat
 have Hrl:=Lib.hid hr.length
 have HRs:=Lib.hid hr
 have Hfq:=Lib.hid hfq
 clear hr
 obtain ⟨GL,hGL⟩:∃ G,G=gapl rs:=⟨_,rfl⟩
 rw [← hGL]
 unfold gapl at hGL
 have HG:=Lib.hid hGL
 clear hGL
 go_enter Tryz.func20,Tryz.ntmps20
 go_wp2_with fail
 refine (separate_any HRs.out hfq hla).mono ?_
 rintro e w1 ⟨he,hb1⟩
 have Hb:=Lib.hid hb1
 clear hb1 hfq
 by_cases hs:Sepa rs
 rotate_left
 ·have he2:=he.not hs
  subst he2
  have EG:=Lib.hid (show GL=[] by rw [HG.out,if_neg hs])
  clear he hs
  go_wp2_with fail
  go_ret
  rw [EG.out]
  exact ⟨⟨_,_,_,rfl,rfl,Nat.le_refl _,.inl ⟨rfl,rfl,rfl⟩⟩,Hb.out⟩
 have he2:=he.get hs
 subst he2
 have hG:=HG.out
 rw [if_pos hs] at hG
 replace HG:=Lib.hid hG
 clear he hs hG
 by_cases h0:la=0
 ·subst h0
  have EG:=Lib.hid (show GL=[⟨0,1⟩] by rw [HG.out,if_pos Hrl.out])
  go_wp2_with fail
  refine (rof_any 0 _ (by unfold I64;omega)).mono ?_
  rintro e w2 ⟨⟨n2,A2,l2,c2,B2,m2,d2,rfl,h2,k2⟩,hb2⟩
  have jb:=below_new w2 (.cells #[.bool n2,.slice A2 l2 c2,.slice B2 m2 d2] 35)
  have kb:=Blk.new w2 35 #[.bool n2,.slice A2 l2 c2,.slice B2 m2 d2]
  have FX:=Lib.hid (show RatsE GL (.returned (.slice (some ⟨w2.heap.size,0,none⟩) 1 1)) (w2.alloc (.cells #[.bool n2,.slice A2 l2 c2,.slice B2 m2 d2] 35)) from by
   rw [EG.out]
   refine ⟨_,_,_,rfl,rfl,Nat.le_refl _,.inr ⟨_,0,rfl,kb.lt,fun i x hx=>?_⟩⟩
   match i,hx with
   | 0,hx =>
     have e:x=⟨0,1⟩:=by simpa using hx.symm
     subst e
     exact ⟨_,(lay_one (a:=⟨0,1⟩) h2 k2).below jb,fun j v hv=>by rw [show 0+0*3+j=j by omega];exact newrow_cells w2 [.bool n2,.slice A2 l2 c2,.slice B2 m2 d2] _ j v hv⟩
   | i+1,hx=>simp at hx)
  replace Hb:=Lib.hid (Hb.out.trans ((hb2.trans (jb.mono hb2.size)).mono Hb.out.size))
  clear hb2 jb kb h2 k2
  go_wp2
  go_ret
  exact ⟨FX.out,Hb.out⟩
 have g1:((la:Int) == 0)=false:=by rw [beq_eq_false_iff_ne];omega
 have hG:=HG.out
 rw [if_neg (by rw [Hrl.out];exact h0),Hrl.out] at hG
 replace HG:=Lib.hid hG
 clear hG
 obtain ⟨b,o,rfl,hb0,hv0⟩:∃ b o,A=some ⟨b,o,none⟩∧b<w.heap.size∧Vals w b o rs:=by
  rcases HRs.out.elems with ⟨h1,_⟩ | h
  ·omega
  ·exact h
 have Hv:=Lib.hid hv0
 have hl1:0<la:=by omega
 have wl:IntKind.i64.wrap ((la:Int)+1)=((la+1:Nat):Int):=by rw [Int.natCast_add];exact IntWalk.i64_in _ (by omega)
 have hb0':b<w1.heap.size:=Nat.lt_of_lt_of_le hb0 Hb.out.size
 obtain ⟨n,A1,l1,c1,B1,m1,d1,n',A2,l2,c2,B2,m2,d2,e0,e1,e2,_,_,_,z1,z2,_,_⟩:=hv0.get (k:=0) (by rw [Hrl.out];omega)
 obtain ⟨fa,_⟩:=getD_fqb Hfq.out (k:=0) (by rw [Hrl.out];omega)
 clear hv0
 go_wp2_with (at_make;refine wpList_make_own _ 56 35 3 i0 ratZero Tryz.underlying56 hi hz0 hz1 (by rw [hz2];omega) rfl rat_nd (by decide) rfl _ _ rfl (la+1) rfl (by first | rfl | (simp;done)) (by omega) ?_)
 obtain ⟨B0,hB0⟩:∃ B,B=w1.heap.size:=⟨_,rfl⟩
 rw [← hB0]
 intro w2 ho hb2 hs2
 have hwB:w.heap.size≤B0:=by rw [hB0];exact Hb.out.size
 have hbB:b<B0:=by omega
 have hB2:B0≤w2.heap.size:=by omega
 have Hb2:=Lib.hid (Hb.out.trans (hb2.mono hwB))
 have hb2':Below B0 w1 w2:=hb2.mono (by omega)
 have c0:=(hb2'.cell (p:=⟨b,o+0*6,none⟩) hbB).trans ((Hb.out.cell (p:=⟨b,o+0*6,none⟩) hb0).trans e0)
 have c1':=(hb2'.cell (p:=⟨b,o+0*6+1,none⟩) hbB).trans ((Hb.out.cell (p:=⟨b,o+0*6+1,none⟩) hb0).trans e1)
 have c2':=(hb2'.cell (p:=⟨b,o+0*6+2,none⟩) hbB).trans ((Hb.out.cell (p:=⟨b,o+0*6+2,none⟩) hb0).trans e2)
 rw [Nat.zero_mul,Nat.add_zero] at c0 c1' c2'
 have Z1:=Lib.hid (z1.below Hb2.out)
 have Z2:=Lib.hid (z2.below Hb2.out)
 have HO:=Lib.hid ho
 have Hbs:=Lib.hid hb2'
 clear e0 e1 e2 z1 z2 ho hb2 hb2' hB0
 go_wp2_with fail
 refine wp_region_held_drew (S:=fun w'=>w'.cell? ⟨b,o,none⟩=some (.bool n)∧w'.cell? ⟨b,o+1,none⟩=some (.slice A1 l1 c1)∧w'.cell? ⟨b,o+2,none⟩=some (.slice B1 m1 d1)) (by kernel_rfl) (by (try dsimp only);go_keep) (fun hHeld=>?_)
 (refine tk (i:=0) (v:=?_) rfl rfl (Or.inl ⟨by rfl,?_⟩) ?_;rotate_left;(focus (intro w hSw;(try dsimp only at hSw);go_simp;(try with_reducible rfl)));(simp only [put_lit,List.set]))
 (refine tk (i:=1) (v:=?_) rfl rfl (Or.inl ⟨by rfl,?_⟩) ?_;rotate_left;(focus (intro w hSw;(try dsimp only at hSw);go_simp;(try with_reducible rfl)));(simp only [put_lit,List.set]))
 (refine tk (i:=2) (v:=?_) rfl rfl (Or.inl ⟨by rfl,?_⟩) ?_;rotate_left;(focus (intro w hSw;(try dsimp only at hSw);go_simp;(try with_reducible rfl)));(simp only [put_lit,List.set]))
 (refine tk (i:=3) (v:=?_) rfl rfl (Or.inl ⟨by rfl,?_⟩) ?_;rotate_left;(focus (intro w hSw;(try dsimp only at hSw);go_simp;(try with_reducible rfl)));(simp only [put_lit,List.set]))
 (refine tk (i:=4) (v:=?_) rfl rfl (Or.inl ⟨by rfl,?_⟩) ?_;rotate_left;(focus (intro w hSw;(try dsimp only at hSw);go_simp;(try with_reducible rfl)));(simp only [put_lit,List.set]))
 (refine wpAnyH_ready (rs:=[5]) (by kernel_rfl) (by simp) ?_;refine AllReadyH.cons rfl (fun K hK=>?_) AllReadyH.nil;go_simp)
 refine (rof_any 1 _ (by unfold I64;omega)).mono ?_
 rintro e w4 ⟨⟨n4,A4,l4,c4,B4,m4,d4,rfl,h4,k4⟩,hb4⟩
 have G4:=Lib.hid ((Below.trans Bel.go (hb4.mono (by simp<;>omega))):Below w2.heap.size w2 w4)
 have H4:=Lib.hid (And.intro h4 k4)
 obtain ⟨hcx,hfx⟩:=bcellS hb4;refine hK.out _ _ ?_ (fun _=>?_);(focus (((try dsimp only);repeat' apply And.intro)<;>(rw [hcx _ (by go_simp)];go_simp)));clear hHeld hK K hcx hfx;rename_i hHeld
 clear h4 k4 hb4
 (refine wpAnyH_ready (rs:=[6]) (by kernel_rfl) (by simp) ?_;refine AllReadyH.cons rfl (fun K hK=>?_) AllReadyH.nil;go_simp)
 refine (rsub_any _ _ _ _ _ _ _ _ _ _ _ _ _ _ _ _ _ _ _ ((Z1.out.below G4.out).below Bel.go) ((Z2.out.below G4.out).below Bel.go) (H4.out.1.below Bel.go) (H4.out.2.below Bel.go) fa.fz fa.fq fa.p fit_one fit_onen Nat.one_pos).mono ?_
 rintro e w5 ⟨⟨n5,A5,l5,c5,B5,m5,d5,rfl,h5,k5⟩,hb5⟩
 have G5:=Lib.hid (G4.out.trans (((Below.trans Bel.go (hb5.mono (by simp<;>omega))):Below w4.heap.size w4 w5).mono G4.out.size))
 have R5:=Lib.hid (lay_one (a:=(rs.getD 0 r00).1.sub ⟨1,1⟩) h5 k5)
 obtain ⟨hcx,hfx⟩:=bcellS hb5;refine hK.out _ _ ?_ (fun _=>?_);(focus (((try dsimp only);repeat' apply And.intro)<;>(rw [hcx _ (by go_simp)];go_simp)));clear hHeld hK K hcx hfx;rename_i hHeld
 clear h5 k5 hb5 H4
 refine wpAnyH_ready (rs:=[7]) (by kernel_rfl) (by simp) ?_;refine AllReadyH.cons rfl (fun K hK=>?_) AllReadyH.nil;go_simp;refine hK.out _ _ ?_ (fun _=>?_);(focus ((try dsimp only);go_keep));clear hHeld hK K;rename_i hHeld;(try (simp only [put_lit,List.set]))
 have G6:=Lib.hid (G5.out.trans ((below_new w5 (.cells #[.bool n5,.slice A5 l5 c5,.slice B5 m5 d5] 35)).mono G5.out.size))
 have R6:=Lib.hid (R5.out.below (below_new w5 (.cells #[.bool n5,.slice A5 l5 c5,.slice B5 m5 d5] 35)))
 obtain ⟨us,hus⟩:∃ us:List Value,us=[]:=⟨_,rfl⟩
 refine wpAnyH_ready (rs:=[8]) (by kernel_rfl) (by simp) ?_;refine AllReadyH.cons rfl (fun K hK=>?_) AllReadyH.nil;rw [if_pos (by rfl)];refine oper_append_own (.tmp 17) (.tmp 24) 56 35 rfl 3 i0 ratZero Tryz.underlying56 hi hz0 hz1 (by rw [hz2];omega) rfl rat_nd (by decide) B0 _ us _ rfl (by rw [hus];exact HO.out.below G6.out) (by have:=G6.out.size;simp at this ⊢;omega) ⟨_,0,none⟩ 1 1 rfl rfl (addr0 (newrow_cells _ _ _)) R6.out.nd (.inl (by decide)) (by rw [hus];simp) 25 rfl ?_;intro v2 w9 hgr
 have hb9:=hgr.below (by have:=G6.out.size;simp at this ⊢;omega);refine hK.out _ _ ?_ (fun _=>?_);(focus (((try dsimp only);repeat' apply And.intro)<;>(rw [hb9.cell hbB];go_simp)));clear hHeld hK K;rename_i hHeld;(try (simp only [put_lit,List.set]))
 have HI:=Lib.hid (show GapI rs 0 B0 v2 w9 from ⟨_,hgr.1,rat_grown hgr (xs:=[]) (show us=[] from hus) (.one R6.out)⟩)
 have Hb9:=Lib.hid (Hb2.out.trans ((G6.out.mono Hb2.out.size).trans (hb9.mono hwB)))
 have hB9:B0≤w9.heap.size:=by have:=hb9.size;have:=G6.out.size;simp at *;omega
 clear hgr hb9 hus R5 R6 G4 G5 G6 HO Z1 Z2 hB2
 (refine tk (i:=9) (v:=?_) rfl rfl (Or.inl ⟨by rfl,?_⟩) ?_;rotate_left;(focus (intro w hSw;(try dsimp only at hSw);go_simp;(try with_reducible rfl)));(simp only [put_lit,List.set]))
 refine wpAnyH_done (by kernel_rfl) ?_ _
 clear hHeld c0 c1' c2' Hb2 Hbs fa hs2
 have HB9:=Lib.hid hB9
 clear hB9
 go_wp2_with fail
 go_loopw [3,4] (fun s3 s4 wr=>∃ k kk:Nat,kk=k+1∧kk≤la∧s4=.int .i64 (kk:Int)∧GapI rs k B0 s3 wr∧Below w.heap.size w wr∧B0≤wr.heap.size) (fun _ s4 _=>la-(intOf s4).toNat)
 case atStart=>exact ⟨0,1,rfl,hl1,rfl,HI.out,Hb9.out,HB9.out⟩
 case round =>
  obtain ⟨k,kk,hkk,hkl,rfl,hgi,hbw,hbr⟩:=hrel
  have HI:=Lib.hid hgi
  have Hbw:=Lib.hid hbw
  have HBr:=Lib.hid hbr
  clear hgi
  by_cases hlt:kk<la
  ·have Hkl:=Lib.hid hlt
   have ka:(kk:Int)<(la:Int):=by omega
   have e1:(kk:Int)-1=(k:Int):=by omega
   have i1:IntKind.i64.wrap (k:Int)=(k:Int):=IntWalk.i64_in _ (by omega)
   have i2:IntKind.i64.wrap ((kk:Int)+1)=(kk:Int)+1:=IntWalk.i64_in _ (by omega)
   have kb:(k:Int)<(la:Int):=by omega
   obtain ⟨_,_,_,_,_,_,_,n,A1,l1,c1,B1,m1,d1,_,_,_,e3,e4,e5,_,_,z3,z4⟩:=Hv.out.get (k:=k) (by rw [Hrl.out];omega)
   obtain ⟨n3,A3,l3,c3,B3,m3,d3,_,_,_,_,_,_,_,f0,f1,f2,_,_,_,y1,y2,_,_⟩:=Hv.out.get (k:=kk) (by rw [Hrl.out];omega)
   obtain ⟨_,fa⟩:=getD_fqb Hfq.out (k:=k) (by rw [Hrl.out];omega)
   obtain ⟨fb,_⟩:=getD_fqb Hfq.out (k:=kk) (by rw [Hrl.out];omega)
   have x3:=(hbw.cell (p:=⟨b,o+k*6+3,none⟩) hb0).trans e3
   have x4:=(hbw.cell (p:=⟨b,o+k*6+4,none⟩) hb0).trans e4
   have x5:=(hbw.cell (p:=⟨b,o+k*6+5,none⟩) hb0).trans e5
   have x0:=(hbw.cell (p:=⟨b,o+kk*6,none⟩) hb0).trans f0
   have x1:=(hbw.cell (p:=⟨b,o+kk*6+1,none⟩) hb0).trans f1
   have x2:=(hbw.cell (p:=⟨b,o+kk*6+2,none⟩) hb0).trans f2
   have hbr':b<wr.heap.size:=by omega
   have Z:=Lib.hid (And.intro (And.intro (z3.below hbw) (z4.below hbw)) (And.intro (y1.below hbw) (y2.below hbw)))
   have HKK:=Lib.hid hkk
   clear e3 e4 e5 f0 f1 f2 z3 z4 y1 y2 hbw hbr hkl hlt hkk
   go_wp2_with fail
   refine wp_region_held_drew (S:=fun w'=>w'.cell? ⟨b,o+k*6+3,none⟩=some (.bool n)∧w'.cell? ⟨b,o+k*6+4,none⟩=some (.slice A1 l1 c1)∧w'.cell? ⟨b,o+k*6+5,none⟩=some (.slice B1 m1 d1)∧w'.cell? ⟨b,o+kk*6,none⟩=some (.bool n3)∧w'.cell? ⟨b,o+kk*6+1,none⟩=some (.slice A3 l3 c3)∧w'.cell? ⟨b,o+kk*6+2,none⟩=some (.slice B3 m3 d3)) (by kernel_rfl) (by (try dsimp only);go_keep) (fun hHeld=>?_)
   (refine tk (i:=0) (v:=?_) rfl rfl (Or.inl ⟨by rfl,?_⟩) ?_;rotate_left;(focus (intro w hSw;(try dsimp only at hSw);go_simp;(try with_reducible rfl)));(simp only [put_lit,List.set]))
   (refine tk (i:=1) (v:=?_) rfl rfl (Or.inl ⟨by rfl,?_⟩) ?_;rotate_left;(focus (intro w hSw;(try dsimp only at hSw);go_simp;(try with_reducible rfl)));(simp only [put_lit,List.set]))
   (refine tk (i:=2) (v:=?_) rfl rfl (Or.inl ⟨by rfl,?_⟩) ?_;rotate_left;(focus (intro w hSw;(try dsimp only at hSw);go_simp;(try with_reducible rfl)));(simp only [put_lit,List.set]))
   (refine tk (i:=3) (v:=?_) rfl rfl (Or.inl ⟨by rfl,?_⟩) ?_;rotate_left;(focus (intro w hSw;(try dsimp only at hSw);go_simp;(try with_reducible rfl)));(simp only [put_lit,List.set]))
   (refine tk (i:=4) (v:=?_) rfl rfl (Or.inl ⟨by rfl,?_⟩) ?_;rotate_left;(focus (intro w hSw;(try dsimp only at hSw);go_simp;(try with_reducible rfl)));(simp only [put_lit,List.set]))
   (refine tk (i:=5) (v:=?_) rfl rfl (Or.inl ⟨by rfl,?_⟩) ?_;rotate_left;(focus (intro w hSw;(try dsimp only at hSw);go_simp;(try with_reducible rfl)));(simp only [put_lit,List.set]))
   (refine tk (i:=6) (v:=?_) rfl rfl (Or.inl ⟨by rfl,?_⟩) ?_;rotate_left;(focus (intro w hSw;(try dsimp only at hSw);go_simp;(try with_reducible rfl)));(simp only [put_lit,List.set]))
   (refine tk (i:=7) (v:=?_) rfl rfl (Or.inl ⟨by rfl,?_⟩) ?_;rotate_left;(focus (intro w hSw;(try dsimp only at hSw);go_simp;(try with_reducible rfl)));(simp only [put_lit,List.set]))
   (refine tk (i:=8) (v:=?_) rfl rfl (Or.inl ⟨by rfl,?_⟩) ?_;rotate_left;(focus (intro w hSw;(try dsimp only at hSw);go_simp;(try with_reducible rfl)));(simp only [put_lit,List.set]))
   (refine tk (i:=9) (v:=?_) rfl rfl (Or.inl ⟨by rfl,?_⟩) ?_;rotate_left;(focus (intro w hSw;(try dsimp only at hSw);go_simp;(try with_reducible rfl)));(simp only [put_lit,List.set]))
   (refine tk (i:=10) (v:=?_) rfl rfl (Or.inl ⟨by rfl,?_⟩) ?_;rotate_left;(focus (intro w hSw;(try dsimp only at hSw);go_simp;(try with_reducible rfl)));(simp only [put_lit,List.set]))
   (refine tk (i:=11) (v:=?_) rfl rfl (Or.inl ⟨by rfl,?_⟩) ?_;rotate_left;(focus (intro w hSw;(try dsimp only at hSw);go_simp;(try with_reducible rfl)));(simp only [put_lit,List.set]))
   (refine wpAnyH_ready (rs:=[12]) (by kernel_rfl) (by simp) ?_;refine AllReadyH.cons rfl (fun K hK=>?_) AllReadyH.nil;go_simp)
   refine (mid_any _ _ _ _ _ _ _ _ _ _ _ _ _ _ _ _ _ _ _ (Z.out.1.1.below Bel.go) (Z.out.1.2.below Bel.go) (Z.out.2.1.below Bel.go) (Z.out.2.2.below Bel.go) fa.fz fa.fq fa.p fb.fz fb.fq fb.p).mono ?_
   rintro e w5 ⟨⟨n5,A5,l5,c5,B5,m5,d5,rfl,h5,k5⟩,hb5⟩
   have G5:=Lib.hid ((Below.trans Bel.go (hb5.mono (by simp<;>omega))):Below wr.heap.size wr w5)
   have R5:=Lib.hid (lay_one (a:=(rs.getD k r00).2.mid (rs.getD kk r00).1) h5 k5)
   obtain ⟨hcx,hfx⟩:=bcellS hb5;refine hK.out _ _ ?_ (fun _=>?_);(focus (((try dsimp only);repeat' apply And.intro)<;>(rw [hcx _ (by go_simp)];go_simp)));clear hHeld hK K hcx hfx;rename_i hHeld
   clear h5 k5 hb5
   refine wpAnyH_ready (rs:=[13]) (by kernel_rfl) (by simp) ?_;refine AllReadyH.cons rfl (fun K hK=>?_) AllReadyH.nil;go_simp;refine hK.out _ _ ?_ (fun _=>?_);(focus ((try dsimp only);go_keep));clear hHeld hK K;rename_i hHeld;(try (simp only [put_lit,List.set]))
   have G6:=Lib.hid (G5.out.trans ((below_new w5 (.cells #[.bool n5,.slice A5 l5 c5,.slice B5 m5 d5] 35)).mono G5.out.size))
   have R6:=Lib.hid (R5.out.below (below_new w5 (.cells #[.bool n5,.slice A5 l5 c5,.slice B5 m5 d5] 35)))
   obtain ⟨us,ho,hl⟩:=HI.out.below G6.out
   have hul:=gap_len hl
   refine wpAnyH_ready (rs:=[14]) (by kernel_rfl) (by simp) ?_;refine AllReadyH.cons rfl (fun K hK=>?_) AllReadyH.nil;rw [if_pos (by rfl)];refine oper_append_own (.tmp 32) (.tmp 45) 56 35 rfl 3 i0 ratZero Tryz.underlying56 hi hz0 hz1 (by rw [hz2];omega) rfl rat_nd (by decide) B0 _ us _ rfl (ho) (by have:=G6.out.size;have:=HBr.out;simp at *;omega) ⟨_,0,none⟩ 1 1 rfl rfl (addr0 (newrow_cells _ _ _)) R6.out.nd (.inl (by decide)) (by rw [hul];simp;omega) 46 rfl ?_;intro v2 w9 hgr
   have hb9:=hgr.below (by have:=G6.out.size;have:=HBr.out;simp at *;omega);refine hK.out _ _ ?_ (fun _=>?_);(focus (((try dsimp only);repeat' apply And.intro)<;>(rw [hb9.cell hbB];go_simp)));clear hHeld hK K;rename_i hHeld;(try (simp only [put_lit,List.set]))
   have HI2:=Lib.hid (show GapI rs (k+1) B0 v2 w9 from ⟨_,hgr.1,by
    have h:=rat_grown hgr hl (.one R6.out)
    rw [HKK.out] at h
    exact h⟩)
   have Hb9:=Lib.hid (Hbw.out.trans ((G6.out.mono Hbw.out.size).trans (hb9.mono hwB)))
   have HB9:=Lib.hid (show B0≤w9.heap.size by have:=hb9.size;have:=G6.out.size;have:=HBr.out;simp at *;omega)
   clear hgr hb9 R5 R6 G5 G6 HI Z ho hl hul
   (refine tk (i:=15) (v:=?_) rfl rfl (Or.inl ⟨by rfl,?_⟩) ?_;rotate_left;(focus (intro w hSw;(try dsimp only at hSw);go_simp;(try with_reducible rfl)));(simp only [put_lit,List.set]))
   refine wpAnyH_done (by kernel_rfl) ?_ _
   clear hHeld x0 x1 x2 x3 x4 x5
   go_wp2_with fail
   go_roundw
   case rel=>exact ⟨k+1,kk+1,by rw [HKK.out],Hkl.out,by go_num,HI2.out,Hb9.out,HB9.out⟩
   case measure=>have:=Hkl.out;simp [intOf];omega
  ·have hk2:kk=la:=by omega
   subst hk2
   have t1:¬ (kk:Int)<(kk:Int):=by omega
   have e1:(kk:Int)-1=(k:Int):=by omega
   have i1:IntKind.i64.wrap (k:Int)=(k:Int):=IntWalk.i64_in _ (by omega)
   have kb:(k:Int)<(kk:Int):=by omega
   obtain ⟨_,_,_,_,_,_,_,n,A1,l1,c1,B1,m1,d1,_,_,_,e3,e4,e5,_,_,z3,z4⟩:=Hv.out.get (k:=k) (by rw [Hrl.out];omega)
   obtain ⟨_,fa⟩:=getD_fqb Hfq.out (k:=k) (by rw [Hrl.out];omega)
   have x3:=(hbw.cell (p:=⟨b,o+k*6+3,none⟩) hb0).trans e3
   have x4:=(hbw.cell (p:=⟨b,o+k*6+4,none⟩) hb0).trans e4
   have x5:=(hbw.cell (p:=⟨b,o+k*6+5,none⟩) hb0).trans e5
   have hbr':b<wr.heap.size:=by omega
   have Z:=Lib.hid (And.intro (z3.below hbw) (z4.below hbw))
   have EG:=Lib.hid (show GL=gapp rs k ++ [(rs.getD k r00).2.add ⟨1,1⟩] by rw [HG.out,show kk-1=k by omega])
   have hk100:k≤1000:=by omega
   clear e3 e4 e5 z3 z4 hbw hbr hlt hkk hkl
   go_wp2_with fail
   refine wp_region_held_drew (S:=fun w'=>w'.cell? ⟨b,o+k*6+3,none⟩=some (.bool n)∧w'.cell? ⟨b,o+k*6+4,none⟩=some (.slice A1 l1 c1)∧w'.cell? ⟨b,o+k*6+5,none⟩=some (.slice B1 m1 d1)) (by kernel_rfl) (by (try dsimp only);go_keep) (fun hHeld=>?_)
   (refine tk (i:=0) (v:=?_) rfl rfl (Or.inl ⟨by rfl,?_⟩) ?_;rotate_left;(focus (intro w hSw;(try dsimp only at hSw);go_simp;(try with_reducible rfl)));(simp only [put_lit,List.set]))
   (refine tk (i:=1) (v:=?_) rfl rfl (Or.inl ⟨by rfl,?_⟩) ?_;rotate_left;(focus (intro w hSw;(try dsimp only at hSw);go_simp;(try with_reducible rfl)));(simp only [put_lit,List.set]))
   (refine tk (i:=2) (v:=?_) rfl rfl (Or.inl ⟨by rfl,?_⟩) ?_;rotate_left;(focus (intro w hSw;(try dsimp only at hSw);go_simp;(try with_reducible rfl)));(simp only [put_lit,List.set]))
   (refine tk (i:=3) (v:=?_) rfl rfl (Or.inl ⟨by rfl,?_⟩) ?_;rotate_left;(focus (intro w hSw;(try dsimp only at hSw);go_simp;(try with_reducible rfl)));(simp only [put_lit,List.set]))
   (refine tk (i:=4) (v:=?_) rfl rfl (Or.inl ⟨by rfl,?_⟩) ?_;rotate_left;(focus (intro w hSw;(try dsimp only at hSw);go_simp;(try with_reducible rfl)));(simp only [put_lit,List.set]))
   (refine tk (i:=5) (v:=?_) rfl rfl (Or.inl ⟨by rfl,?_⟩) ?_;rotate_left;(focus (intro w hSw;(try dsimp only at hSw);go_simp;(try with_reducible rfl)));(simp only [put_lit,List.set]))
   (refine tk (i:=6) (v:=?_) rfl rfl (Or.inl ⟨by rfl,?_⟩) ?_;rotate_left;(focus (intro w hSw;(try dsimp only at hSw);go_simp;(try with_reducible rfl)));(simp only [put_lit,List.set]))
   (refine tk (i:=7) (v:=?_) rfl rfl (Or.inl ⟨by rfl,?_⟩) ?_;rotate_left;(focus (intro w hSw;(try dsimp only at hSw);go_simp;(try with_reducible rfl)));(simp only [put_lit,List.set]))
   (refine wpAnyH_ready (rs:=[8]) (by kernel_rfl) (by simp) ?_;refine AllReadyH.cons rfl (fun K hK=>?_) AllReadyH.nil;go_simp)
   refine (rof_any 1 _ (by unfold I64;omega)).mono ?_
   rintro e w4 ⟨⟨n4,A4,l4,c4,B4,m4,d4,rfl,h4,k4⟩,hb4⟩
   have G4:=Lib.hid ((Below.trans Bel.go (hb4.mono (by simp<;>omega))):Below wr.heap.size wr w4)
   have H4:=Lib.hid (And.intro h4 k4)
   obtain ⟨hcx,hfx⟩:=bcellS hb4;refine hK.out _ _ ?_ (fun _=>?_);(focus (((try dsimp only);repeat' apply And.intro)<;>(rw [hcx _ (by go_simp)];go_simp)));clear hHeld hK K hcx hfx;rename_i hHeld
   clear h4 k4 hb4
   (refine wpAnyH_ready (rs:=[9]) (by kernel_rfl) (by simp) ?_;refine AllReadyH.cons rfl (fun K hK=>?_) AllReadyH.nil;go_simp)
   refine (radd_any _ _ _ _ _ _ _ _ _ _ _ _ _ _ _ _ _ _ _ ((Z.out.1.below G4.out).below Bel.go) ((Z.out.2.below G4.out).below Bel.go) (H4.out.1.below Bel.go) (H4.out.2.below Bel.go) fa.fz fa.fq fa.p fit_one fit_onen Nat.one_pos).mono ?_
   rintro e w5 ⟨⟨n5,A5,l5,c5,B5,m5,d5,rfl,h5,k5⟩,hb5⟩
   have G5:=Lib.hid (G4.out.trans (((Below.trans Bel.go (hb5.mono (by simp<;>omega))):Below w4.heap.size w4 w5).mono G4.out.size))
   have R5:=Lib.hid (lay_one (a:=(rs.getD k r00).2.add ⟨1,1⟩) h5 k5)
   obtain ⟨hcx,hfx⟩:=bcellS hb5;refine hK.out _ _ ?_ (fun _=>?_);(focus (((try dsimp only);repeat' apply And.intro)<;>(rw [hcx _ (by go_simp)];go_simp)));clear hHeld hK K hcx hfx;rename_i hHeld
   clear h5 k5 hb5 H4
   refine wpAnyH_ready (rs:=[10]) (by kernel_rfl) (by simp) ?_;refine AllReadyH.cons rfl (fun K hK=>?_) AllReadyH.nil;go_simp;refine hK.out _ _ ?_ (fun _=>?_);(focus ((try dsimp only);go_keep));clear hHeld hK K;rename_i hHeld;(try (simp only [put_lit,List.set]))
   have G6:=Lib.hid (G5.out.trans ((below_new w5 (.cells #[.bool n5,.slice A5 l5 c5,.slice B5 m5 d5] 35)).mono G5.out.size))
   have R6:=Lib.hid (R5.out.below (below_new w5 (.cells #[.bool n5,.slice A5 l5 c5,.slice B5 m5 d5] 35)))
   obtain ⟨us,ho,hl⟩:=HI.out.below G6.out
   have hul:=gap_len hl
   refine wpAnyH_ready (rs:=[11]) (by kernel_rfl) (by simp) ?_;refine AllReadyH.cons rfl (fun K hK=>?_) AllReadyH.nil;rw [if_pos (by rfl)];refine oper_append_own (.tmp 47) (.tmp 57) 56 35 rfl 3 i0 ratZero Tryz.underlying56 hi hz0 hz1 (by rw [hz2];omega) rfl rat_nd (by decide) B0 _ us _ rfl (ho) (by have:=G6.out.size;have:=HBr.out;simp at *;omega) ⟨_,0,none⟩ 1 1 rfl rfl (addr0 (newrow_cells _ _ _)) R6.out.nd (.inl (by decide)) (by rw [hul];simp;omega) 58 rfl ?_;intro v2 w9 hgr
   have hb9:=hgr.below (by have:=G6.out.size;have:=HBr.out;simp at *;omega);refine hK.out _ _ ?_ (fun _=>?_);(focus (((try dsimp only);repeat' apply And.intro)<;>(rw [hb9.cell hbB];go_simp)));clear hHeld hK K;rename_i hHeld;(try (simp only [put_lit,List.set]))
   have FX:=Lib.hid (show RatsE GL (.returned v2) w9 by
    rw [EG.out]
    obtain ⟨A9,l9,c9,e9,h9⟩:=hgr.1.sle (by decide) (rat_grown hgr hl (.one R6.out)) fun x vs hx=>hx.len
    exact ⟨A9,l9,c9,by rw [e9],h9⟩)
   have Hb9:=Lib.hid (Hbw.out.trans ((G6.out.mono Hbw.out.size).trans (hb9.mono hwB)))
   clear hgr hb9 R5 R6 G4 G5 G6 HI Z ho hl hul
   (refine tk (i:=12) (v:=?_) rfl rfl (Or.inl ⟨by rfl,?_⟩) ?_;rotate_left;(focus (intro w hSw;(try dsimp only at hSw);go_simp;(try with_reducible rfl)));(simp only [put_lit,List.set]))
   refine wpAnyH_done (by kernel_rfl) ?_ _
   clear hHeld x3 x4 x5
   go_wp2
   go_ret
   exact ⟨FX.out,Hb9.out⟩
end Go.Proofs.YtppggpfcdgilmaaGreat
namespace Go.Proofs.YtppggpfcdgilmaaGreat
open Go.RowKit
section
variable {Q f:List Int} {a b m:Fq} {x y:Pt}
theorem sgn_turn (h0:plen Q≠0) (hx:sgp Q x=0) (hs:mult x Q≤1) (ha:a.p<x) (hb:x<b.p) (hu:∀ y,sgp Q y=0→a.p<y→y<b.p→y=x) (na:sgp Q a.p≠0) (nb:sgp Q b.p≠0):sgp Q a.p=- sgp Q b.p:=by
 obtain ⟨l,u,hl⟩:=side_ex h0 x
 have hm:mult x Q=1:=by
  have:mult x Q≠0:=fun e=>(mult_zero h0).1 e hx
  omega
 rw [hm] at hl
 obtain ⟨y,y1,y2,y3⟩:=Pt.two_up hb hl.hi
 obtain ⟨z,z1,z2,z3⟩:∃ z,z<x∧a.p<z∧Pt.of l<z:=by
  rcases Pt.tri a.p (Pt.of l) with h | h | h
  ·obtain ⟨q,h1,h2⟩:=Pt.mid hl.lo;exact ⟨_,h2,Pt.lt_trans h h1,h1⟩
  ·obtain ⟨q,h1,h2⟩:=Pt.mid hl.lo;exact ⟨_,h2,by rw [h];exact h1,h1⟩
  ·obtain ⟨q,h1,h2⟩:=Pt.mid ha;exact ⟨_,h2,h1,Pt.lt_trans h h1⟩
 have ey:=hl.r y y1 y3
 have ez:=hl.l z z3 z1
 have nz:sgp Q z≠0:=fun e=>by
  have:=hu z e z2 (Pt.lt_trans z1 hb);rw [this] at z1;exact Pt.irr _ z1
 have ny:sgp Q y≠0:=fun e=>by
  have:=hu y e (Pt.lt_trans ha y1) y2;rw [this] at y1;exact Pt.irr _ y1
 have e1:sgp Q a.p=sgp Q z:=sgp_stay z2 (fun t t1 t2 e=>by
  have:=hu t e t1 (Pt.lt_trans t2 (Pt.lt_trans z1 hb));rw [this] at t2;exact Pt.asym z1 t2) na nz
 have e2:sgp Q y=sgp Q b.p:=sgp_stay y2 (fun t t1 t2 e=>by
  have:=hu t e (Pt.lt_trans ha (Pt.lt_trans y1 t1)) t2;rw [this] at t1;exact Pt.asym y1 t1) ny nb
 rw [e1,← e2,ey,ez]
 omega
theorem IsoV.cut (h0:plen Q≠0) (hs:∀ x,mult x Q≤1) (e:∀ y,sgp f y=0↔sgp Q y=0) (h:IsoV f x a b) (hlt:a.v<b.v) (ma:a.v<m.v) (mb:m.v<b.v) (hm:sgp Q m.p≠0) :
 if sgp Q m.p=sgp Q a.p then IsoV f x m b else IsoV f x a m:=by
 rcases h.2 with h2 | ⟨_,n1,n2,x1,x2,hu⟩
 ·grind
 have ma':a.p<m.p:=Pt.of_lt_of.2 ma
 have mb':m.p<b.p:=Pt.of_lt_of.2 mb
 have hx:=(e x).1 h.1
 have n1':sgp Q a.p≠0:=fun c=>n1 ((e _).2 c)
 have n2':sgp Q b.p≠0:=fun c=>n2 ((e _).2 c)
 have hm':sgp f m.p≠0:=fun c=>hm ((e _).1 c)
 have hu':∀ y,sgp Q y=0→a.p<y→y<b.p→y=x:=fun y hy=>hu y ((e y).2 hy)
 have ht:=sgn_turn h0 hx (hs x) x1 x2 hu' n1' n2'
 rcases Pt.tri x m.p with c | c | c
 ·have s:sgp Q m.p=sgp Q b.p:=sgp_stay mb' (fun t t1 t2 et=>by
   have:=hu' t et (Pt.lt_trans ma' t1) t2;rw [this] at t1;exact Pt.asym c t1) hm n2'
  rw [if_neg (by omega)]
  exact ⟨h.1,.inr ⟨ma,n1,hm',x1,c,fun y hy y1 y2=>hu y hy y1 (Pt.lt_trans y2 mb')⟩⟩
 ·exact absurd (c ▸ hx) hm
 ·have s:sgp Q a.p=sgp Q m.p:=sgp_stay ma' (fun t t1 t2 et=>by
   have:=hu' t et t1 (Pt.lt_trans t2 mb');rw [this] at t2;exact Pt.asym c t2) n1' hm
  rw [if_pos s.symm]
  exact ⟨h.1,.inr ⟨mb,hm',n2,c,x2,fun y hy y1 y2=>hu y hy (Pt.lt_trans ma' y1) y2⟩⟩
theorem IsoV.at_ (h:IsoV f x a b) (hlt:a.v<b.v) (ma:a.v<m.v) (mb:m.v<b.v) (hm:sgp f m.p=0):x=m.p:=by
 rcases h.2 with h2 | ⟨_,n1,n2,x1,x2,hu⟩
 ·grind
 ·exact (hu m.p hm (Pt.of_lt_of.2 ma) (Pt.of_lt_of.2 mb)).symm
def hlf (Q:List Int) (r:Fq×Fq):Fq×Fq :=
 if fcmp r.1 r.2=0 then r
 else if (r.1.mid r.2).sgn Q=0 then ((r.1.mid r.2).nf,(r.1.mid r.2).nf)
 else if (r.1.mid r.2).sgn Q=r.1.sgn Q then (r.1.mid r.2,r.2) else (r.1,r.1.mid r.2)
end
end Go.Proofs.YtppggpfcdgilmaaGreat
namespace Go.Proofs.YtppggpfcdgilmaaGreat
open Go.RowKit
section
variable {K i j:Nat} {a b:Fq} {r:Fq×Fq} {Q f:List Int}
theorem Dy.le (h:Dy K i a) (hij:i≤j):Dy K j a:=⟨h.p,Nat.dvd_trans h.d (Nat.pow_dvd_pow 2 hij),h.z⟩
theorem Dy.nf (h:Dy K i a):Dy K i a.nf:=by
 have hp:=(Go.Proofs.YtppggpfcdgilmaaGreat.nf_v (z:=a.z) h.p).2.1
 obtain ⟨g,hg⟩:∃ g,g=Nat.gcd a.z.natAbs a.q:=⟨_,rfl⟩
 have hg0:0<g:=by rw [hg];exact Nat.gcd_pos_of_pos_right _ h.p
 have d2:g∣a.q:=by rw [hg];exact Nat.gcd_dvd_right _ _
 have d1:g∣a.z.natAbs:=by rw [hg];exact Nat.gcd_dvd_left _ _
 have eq:a.nf.q=a.q / g:=by rw [hg];rfl
 have ez:a.nf.z.natAbs=a.z.natAbs / g:=by
  show (rz a.z a.q).natAbs=_
  unfold rz
  rw [Int.natAbs_tdiv,hg,Int.natAbs_natCast];rfl
 refine ⟨hp,?_,?_⟩
 ·rw [eq];exact Nat.dvd_trans (Nat.div_dvd_of_dvd d2) h.d
 ·rw [ez,eq,← Nat.mul_div_assoc _ d2]
  exact Nat.div_le_div_right h.z
def DyR (K i:Nat) (r:Fq×Fq):Prop:=Dy K i r.1∧Dy K i r.2
theorem DyR.le (h:DyR K i r) (hij:i≤j):DyR K j r:=⟨h.1.le hij,h.2.le hij⟩
structure DyW (K:Nat) (W:Rat) (i:Nat) (r:Fq×Fq):Prop where
 d:DyR K i r
 w:r.1.v=r.2.v∨(r.2.v-r.1.v)*2^i=W
theorem pow2_succ (i:Nat):(2:Rat)^(i+1)=2^i*2:=by rw [Rat.pow_succ]
theorem isl_dw {PS:List (List Int)} {W:Rat}:∀ (n i:Nat) (a b:Fq),Dy K i a→Dy K i b→(b.v-a.v)*2^i=W→∀ r∈isl Q PS n a b,∃ j,i≤j∧j≤i+n∧DyW K W j r
 | 0,_,_,_,_,_,_,r,hr=>by simp [isl] at hr
 | n+1,i,a,b,ha,hb,hw,r,hr=>by
   have e:isl Q PS (n+1) a b=if icnt Q PS a b<1 then [] else if icnt Q PS a b=1∧a.sgn Q≠0∧b.sgn Q≠0 then [(a.nf,b.nf)] else isl Q PS n a (a.mid b) ++ (if (a.mid b).sgn Q=0 then [((a.mid b).nf,(a.mid b).nf)] else []) ++ isl Q PS n (a.mid b) b:=rfl
   rw [e] at hr
   have hm:=ha.mid hb
   have hv:=Fq.mid_v ha.p hb.p
   by_cases c1:icnt Q PS a b<1
   ·rw [if_pos c1] at hr;simp at hr
   rw [if_neg c1] at hr
   by_cases c2:icnt Q PS a b=1∧a.sgn Q≠0∧b.sgn Q≠0
   ·rw [if_pos c2,List.mem_singleton] at hr
    rw [hr]
    refine ⟨i,Nat.le_refl _,by omega,⟨ha.nf,hb.nf⟩,.inr ?_⟩
    show (b.nf.v-a.nf.v)*2^i=W
    rw [(Fq.nf_v ha.p).1,(Fq.nf_v hb.p).1]
    exact hw
   rw [if_neg c2] at hr
   rcases List.mem_append.1 hr with hr | hr
   ·rcases List.mem_append.1 hr with hr | hr
    ·obtain ⟨j,j1,j2,j3⟩:=isl_dw (W:=W) n (i+1) a (a.mid b) ha.up hm (by rw [hv.1,pow2_succ];grind) r hr
     exact ⟨j,by omega,by omega,j3⟩
    ·split at hr
     ·rw [List.mem_singleton] at hr
      rw [hr]
      exact ⟨i+1,by omega,by omega,⟨hm.nf,hm.nf⟩,.inl rfl⟩
     ·simp at hr
   ·obtain ⟨j,j1,j2,j3⟩:=isl_dw (W:=W) n (i+1) (a.mid b) b hm hb.up (by rw [hv.1,pow2_succ];grind) r hr
    exact ⟨j,by omega,by omega,j3⟩
theorem nn_zb2 (h:SqF Q 16):(cbn Q+1)*2^(NN+2500)≤ZB:=by
 have h1:=cbn_le h
 have h2:BB^17+1≤BB^18:=by
  have h3:BB^17<BB^18:=Nat.pow_lt_pow_right (by rw [BB_eq];decide) (by decide)
  omega
 obtain ⟨k,hk⟩:∃ k:Nat,k=18:=⟨_,rfl⟩
 have h4:cbn Q+1≤2^(32*k):=by rw [← bb_two,hk];omega
 have e:ZB=2^(32*ZK):=by unfold ZB;rw [bb_two]
 refine Nat.le_trans (Nat.mul_le_mul_right _ h4) ?_
 rw [e,← Nat.pow_add]
 exact Nat.pow_le_pow_right (by decide) (by rw [hk,NN_eq,ZK_eq];decide)
theorem DyR.fqb {N:Nat} (h:DyR K i r) (hi:i≤N) (hN:(K+1)*2^N≤ZB):FqB r.1∧FqB r.2∧(i+1≤N→FqB (r.1.mid r.2)):=⟨h.1.fqb hi hN,h.2.fqb hi hN,fun h2=>(h.1.mid h.2).fqb h2 hN⟩
theorem proots_dw (f:List Int):∀ r∈proots f,∃ j,j≤NN+1∧DyW (cbn (qpart f)) (2*(cbn (qpart f):Nat)) j r:=by
 unfold proots
 by_cases h:plen (qpart f)<2
 ·rw [if_pos h];intro r hr;simp at hr
 ·rw [if_neg h]
  have hv:=end_v (cbn (qpart f))
  intro r hr
  obtain ⟨j,_,j2,j3⟩:=isl_dw (K:=cbn (qpart f)) (W:=2*((cbn (qpart f):Nat):Rat)) (NN+1) 0 ⟨-((cbn (qpart f):Nat):Int),1⟩ ⟨((cbn (qpart f):Nat):Int),1⟩ ⟨Nat.one_pos,by simp,by simp⟩ ⟨Nat.one_pos,by simp,by simp⟩ (by rw [hv.1,hv.2,Rat.pow_zero];grind) r hr
  exact ⟨j,by omega,j3⟩
end
end Go.Proofs.YtppggpfcdgilmaaGreat
namespace Go.Proofs.YtppggpfcdgilmaaGreat
open Go.RowKit
section
variable {K i:Nat} {a:Fq} {f:List Int} {xs:List Pt} {rs:List (Fq×Fq)}
theorem sub_one (a:Fq):a.sub ⟨1,1⟩=(⟨a.z-(a.q:Int),a.q⟩:Fq).nf:=by
 show (⟨_,_⟩:Fq)=⟨rz (a.z-(a.q:Int)) a.q,rq (a.z-(a.q:Int)) a.q⟩
 unfold rz rq
 simp
theorem add_one (a:Fq):a.add ⟨1,1⟩=(⟨a.z+(a.q:Int),a.q⟩:Fq).nf:=by
 show (⟨_,_⟩:Fq)=⟨rz (a.z+(a.q:Int)) a.q,rq (a.z+(a.q:Int)) a.q⟩
 unfold rz rq
 simp
theorem sub_one_v (h:0<a.q):(a.sub ⟨1,1⟩).v=a.v-1:=by
 rw [sub_one,(Fq.nf_v (a:=⟨a.z-(a.q:Int),a.q⟩) h).1]
 unfold Fq.v
 have hr:(0:Rat)<((a.q:Nat):Rat):=by exact_mod_cast h
 show (((a.z-(a.q:Int):Int)):Rat) / ((a.q:Nat):Rat)=_
 rw [Rat.intCast_sub,Rat.intCast_natCast,Rat.div_def,Rat.div_def]
 generalize ((a.q:Nat):Rat)=y at *
 grind
theorem add_one_v (h:0<a.q):(a.add ⟨1,1⟩).v=a.v+1:=by
 rw [add_one,(Fq.nf_v (a:=⟨a.z+(a.q:Int),a.q⟩) h).1]
 unfold Fq.v
 have hr:(0:Rat)<((a.q:Nat):Rat):=by exact_mod_cast h
 show (((a.z+(a.q:Int):Int)):Rat) / ((a.q:Nat):Rat)=_
 rw [Rat.intCast_add,Rat.intCast_natCast,Rat.div_def,Rat.div_def]
 generalize ((a.q:Nat):Rat)=y at *
 grind
theorem sub_one_q (h:0<a.q):0<(a.sub ⟨1,1⟩).q:=by rw [sub_one];exact (Fq.nf_v (a:=(⟨a.z-(a.q:Int),a.q⟩:Fq)) h).2
theorem add_one_q (h:0<a.q):0<(a.add ⟨1,1⟩).q:=by rw [add_one];exact (Fq.nf_v (a:=(⟨a.z+(a.q:Int),a.q⟩:Fq)) h).2
theorem Dy.sub1 (h:Dy K i a):Dy (K+1) i (a.sub ⟨1,1⟩):=by
 rw [sub_one]
 refine Dy.nf ⟨h.p,h.d,?_⟩
 have:=h.z
 show (a.z-(a.q:Int)).natAbs≤(K+1)*a.q
 rw [Nat.add_mul,Nat.one_mul]
 omega
theorem Dy.add1 (h:Dy K i a):Dy (K+1) i (a.add ⟨1,1⟩):=by
 rw [add_one]
 refine Dy.nf ⟨h.p,h.d,?_⟩
 have:=h.z
 show (a.z+(a.q:Int)).natAbs≤(K+1)*a.q
 rw [Nat.add_mul,Nat.one_mul]
 omega
theorem Dy.k1 (h:Dy K i a):Dy (K+1) i a:=⟨h.p,h.d,Nat.le_trans h.z (Nat.mul_le_mul_right _ (Nat.le_succ K))⟩
def gapv (rs:List (Fq×Fq)) (i:Nat):Fq:=if i=0 then (rs.getD 0 r00).1.sub ⟨1,1⟩ else (rs.getD (i-1) r00).2.mid (rs.getD i r00).1
theorem gapp_get (rs:List (Fq×Fq)):∀ k i,i≤k→(gapp rs k).getD i ⟨0,1⟩=gapv rs i
 | 0,i,hi=>by
   obtain rfl:i=0:=by omega
   rfl
 | k+1,i,hi=>by
   have hl:=gapp_len rs k
   rw [List.getD_eq_getElem?_getD]
   rcases Nat.lt_or_ge i (k+1) with h | h
   ·rw [gapp,List.getElem?_append_left (by omega),← List.getD_eq_getElem?_getD]
    exact gapp_get rs k i (by omega)
   ·obtain rfl:i=k+1:=by omega
    rw [gapp,List.getElem?_append_right (by omega),hl,Nat.sub_self]
    rfl
theorem RF.sepa (h:RF f xs rs):Sepa rs:=fun k hk=>by
 have hk':k<xs.length:=by rw [← h.len];exact hk
 have b:=h.fa hk'
 have ik:=h.iso k hk'
 refine ⟨?_,fun h0=>?_⟩
 ·have:=ik.le
  have:¬ 0<fcmp (rs.getD k r00).1 (rs.getD k r00).2:=fun c=>by
   have:=(fcmp_pos b.1.p b.2.p).1 c
   grind
  omega
 ·have hj':k-1<xs.length:=by omega
  have a:=h.fa hj'
  have ij:=h.iso (k-1) hj'
  have ho:=h.ord (k-1) k (by omega) hk'
  have lt:=asc_get h.lst.1 (show k-1<k by omega) hk'
  refine ⟨?_,fun e=>?_⟩
  ·have:¬ 0<fcmp (rs.getD (k-1) r00).2 (rs.getD k r00).1:=fun c=>by
    have:=(fcmp_pos a.2.p b.1.p).1 c
    grind
   omega
  ·have ev:=(fcmp_zero a.2.p b.1.p).1 e
   have ep:(rs.getD (k-1) r00).2.p=(rs.getD k r00).1.p:=by unfold Fq.p;rw [ev]
   refine ⟨fun c=>?_,fun c=>?_⟩
   ·have cv:=(fcmp_zero a.1.p a.2.p).1 c
    rcases ij.2 with i1 | i1
    ·have e1:xs.getD (k-1) default=(rs.getD k r00).1.p:=by rw [i1.2,← ep];unfold Fq.p;rw [cv]
     rcases ik.2 with i2 | i2
     ·rw [e1,i2.2] at lt
      exact Pt.irr _ lt
     ·exact i2.2.1 (by rw [← e1];exact ij.1)
    ·grind
   ·have cv:=(fcmp_zero b.1.p b.2.p).1 c
    rcases ik.2 with i2 | i2
    ·rcases ij.2 with i1 | i1
     ·have e1:xs.getD (k-1) default=(rs.getD k r00).1.p:=by rw [i1.2,← ep];unfold Fq.p;rw [i1.1]
      rw [e1,i2.2] at lt
      exact Pt.irr _ lt
     ·exact i1.2.2.1 (by rw [ep,← i2.2];exact ik.1)
    ·grind
theorem RF.gap (h:RF f xs rs) (hi:i≤xs.length) (h0:0<xs.length) {g:Fq} (hg:g=if i=xs.length then (rs.getD (xs.length-1) r00).2.add ⟨1,1⟩ else gapv rs i):0<g.q∧(∀ j,j<i→xs.getD j default<g.p)∧∀ j,i≤j→j<xs.length→g.p<xs.getD j default:=by
 by_cases c:i=xs.length
 ·rw [if_pos c] at hg
  have b:=h.fa (show xs.length-1<xs.length by omega)
  have il:=h.iso (xs.length-1) (by omega)
  have hv:=add_one_v b.2.p
  refine ⟨by rw [hg];exact add_one_q b.2.p,fun j hj=>?_,fun j h1 h2=>by omega⟩
  have hx:xs.getD (xs.length-1) default<g.p:=by
   have h1:(rs.getD (xs.length-1) r00).2.p<g.p:=Pt.of_lt_of.2 (by rw [hg,hv];grind)
   rcases Pt.tri (xs.getD (xs.length-1) default) (rs.getD (xs.length-1) r00).2.p with h2 | h2 | h2
   ·exact Pt.lt_trans h2 h1
   ·rw [h2];exact h1
   ·exact absurd h2 il.hi
  rcases Nat.lt_or_ge j (xs.length-1) with h1 | h1
  ·exact Pt.lt_trans (asc_get h.lst.1 h1 (by omega)) hx
  ·obtain rfl:j=xs.length-1:=by omega
   exact hx
 rw [if_neg c] at hg
 have hil:i<xs.length:=by omega
 have b:=h.fa hil
 have ik:=h.iso i hil
 have up:g.p<xs.getD i default→∀ j,i≤j→j<xs.length→g.p<xs.getD j default:=fun hx j h1 h2=>by
  rcases Nat.lt_or_ge i j with h3 | h3
  ·exact Pt.lt_trans hx (asc_get h.lst.1 h3 h2)
  ·obtain rfl:j=i:=by omega
   exact hx
 by_cases c0:i=0
 ·subst c0
  have hg0:g=(rs.getD 0 r00).1.sub ⟨1,1⟩:=by rw [hg];rfl
  have hv:=sub_one_v b.1.p
  refine ⟨by rw [hg0];exact sub_one_q b.1.p,fun j hj=>by omega,up ?_⟩
  have h1:g.p<(rs.getD 0 r00).1.p:=Pt.of_lt_of.2 (by rw [hg0,hv];grind)
  rcases Pt.tri (xs.getD 0 default) (rs.getD 0 r00).1.p with h2 | h2 | h2
  ·exact absurd h2 ik.lo
  ·rw [h2];exact h1
  ·exact Pt.lt_trans h1 h2
 ·have hg0:g=(rs.getD (i-1) r00).2.mid (rs.getD i r00).1:=by rw [hg];unfold gapv;rw [if_neg c0]
  have a:=h.fa (show i-1<xs.length by omega)
  have ij:=h.iso (i-1) (by omega)
  have ho:=h.ord (i-1) i (by omega) hil
  have hv:=Fq.mid_v a.2.p b.1.p
  rw [← hg0] at hv
  have hsp:=(h.sepa i (by rw [h.len];exact hil)).2 (by omega)
  have key:xs.getD (i-1) default<g.p∧g.p<xs.getD i default:=by
   by_cases e:(rs.getD (i-1) r00).2.v=(rs.getD i r00).1.v
   ·obtain ⟨n1,n2⟩:=hsp.2 ((fcmp_zero a.2.p b.1.p).2 e)
    have ge1:g.p=(rs.getD (i-1) r00).2.p:=by unfold Fq.p;rw [hv.1,← e];congr 1;grind
    have ge2:g.p=(rs.getD i r00).1.p:=by unfold Fq.p;rw [hv.1,e];congr 1;grind
    refine ⟨?_,?_⟩
    ·rw [ge1]
     rcases ij.2 with i1 | i1
     ·exact absurd ((fcmp_zero a.1.p a.2.p).2 i1.1) n1
     ·exact i1.2.2.2.2.1
    ·rw [ge2]
     rcases ik.2 with i1 | i1
     ·exact absurd ((fcmp_zero b.1.p b.2.p).2 i1.1) n2
     ·exact i1.2.2.2.1
   ·have g1:(rs.getD (i-1) r00).2.p<g.p:=Pt.of_lt_of.2 (by rw [hv.1];grind)
    have g2:g.p<(rs.getD i r00).1.p:=Pt.of_lt_of.2 (by rw [hv.1];grind)
    refine ⟨?_,?_⟩
    ·rcases Pt.tri (xs.getD (i-1) default) (rs.getD (i-1) r00).2.p with h2 | h2 | h2
     ·exact Pt.lt_trans h2 g1
     ·rw [h2];exact g1
     ·exact absurd h2 ij.hi
    ·rcases Pt.tri (xs.getD i default) (rs.getD i r00).1.p with h2 | h2 | h2
     ·exact absurd h2 ik.lo
     ·rw [h2];exact g2
     ·exact Pt.lt_trans g2 h2
  refine ⟨hv.2,fun j hj=>?_,up key.2⟩
  rcases Nat.lt_or_ge j (i-1) with h1 | h1
  ·exact Pt.lt_trans (asc_get h.lst.1 h1 (by omega)) key.1
  ·obtain rfl:j=i-1:=by omega
   exact key.1
theorem gap_below (h9:P9 f) (h0:plen f≠0) (hx:Lst (fun x=>sgp f x=0) xs) (hi:i≤xs.length) {g:Fq} (hq:0<g.q) (lo:∀ j,j<i→xs.getD j default<g.p) (hi2:∀ j,i≤j→j<xs.length→g.p<xs.getD j default):sgp f g.p≠0∧nbelow f g.z g.q=i:=by
 have key:∀ y,sgp f y=0→∃ j,j<xs.length∧xs.getD j default=y:=fun y hy=>by
  obtain ⟨j,hj,e⟩:=List.getElem_of_mem ((hx.2 y).2 hy)
  exact ⟨j,hj,by rw [List.getD_eq_getElem?_getD,List.getElem?_eq_getElem hj,e];rfl⟩
 refine ⟨fun e=>?_,?_⟩
 ·obtain ⟨j,hj,ej⟩:=key _ e
  rcases Nat.lt_or_ge j i with h | h
  ·have:=lo j h;rw [ej] at this;exact Pt.irr _ this
  ·have:=hi2 j h hj;rw [ej] at this;exact Pt.irr _ this
 ·have ht:Lst (fun x=>sgp f x=0∧x<Pt.of ((g.z:Rat) / (g.q:Rat))) (xs.take i):=by
   refine ⟨hx.1.take,fun y=>⟨fun hy=>?_,fun hy=>?_⟩⟩
   ·obtain ⟨j,hj,e⟩:=List.getElem_of_mem hy
    rw [List.length_take] at hj
    rw [List.getElem_take] at e
    have hj2:j<xs.length:=by omega
    refine ⟨(hx.2 y).1 (by rw [← e];exact List.getElem_mem _),?_⟩
    have:=lo j (by omega)
    rw [List.getD_eq_getElem?_getD,List.getElem?_eq_getElem hj2] at this
    rw [← e]
    exact this
   ·obtain ⟨j,hj,e⟩:=key y hy.1
    have hji:j<i:=by
     refine Nat.lt_of_not_le fun hc=>?_
     have:=hi2 j hc hj
     rw [e] at this
     exact Pt.asym this hy.2
    refine List.mem_iff_getElem.2 ⟨j,by rw [List.length_take];omega,?_⟩
    rw [List.getElem_take]
    rw [List.getD_eq_getElem?_getD,List.getElem?_eq_getElem hj] at e
    exact e
  rw [nbelow_len h9 h0 hq ht,List.length_take,Nat.min_eq_left hi]
theorem gapl_roots (h9:P9 f) (h0:plen f≠0):((gapl (proots f)).length:Int)=nall f+1∧∀ i,i<(gapl (proots f)).length→FqB ((gapl (proots f)).getD i ⟨0,1⟩)∧sgp f ((gapl (proots f)).getD i ⟨0,1⟩).p≠0∧nbelow f ((gapl (proots f)).getD i ⟨0,1⟩).z ((gapl (proots f)).getD i ⟨0,1⟩).q=i:=by
 obtain ⟨xs,h⟩:=rf_ex h9 h0
 have hn:=proots_len h9 h0
 have hsp:=h.sepa
 by_cases hz:(proots f).length=0
 ·have e:gapl (proots f)=[⟨0,1⟩]:=by unfold gapl;rw [if_pos hsp,if_pos hz]
  rw [e,← hn,hz]
  refine ⟨rfl,fun i hi=>?_⟩
  obtain rfl:i=0:=by simpa using hi
  have hl:xs.length=0:=by rw [← h.len];exact hz
  have:=gap_below (i:=0) (g:=⟨0,1⟩) h9 h0 h.lst (Nat.zero_le _) Nat.one_pos (fun j hj=>by omega) (fun j _ hj=>by omega)
  exact ⟨⟨Nat.one_pos,by simp,Nat.le_trans (by decide) zb_128⟩,this⟩
 ·have hl:(proots f).length=xs.length:=h.len
  have e:gapl (proots f)=gapp (proots f) (xs.length-1) ++ [((proots f).getD (xs.length-1) r00).2.add ⟨1,1⟩]:=by unfold gapl;rw [if_pos hsp,if_neg hz,hl]
  have hgl:=gapp_len (proots f) (xs.length-1)
  have hxl:0<xs.length:=by omega
  rw [e,← hn,List.length_append,hgl,hl]
  refine ⟨by simp;omega,fun i hi=>?_⟩
  have hi':i≤xs.length:=by simp at hi;omega
  have hget:(gapp (proots f) (xs.length-1) ++ [((proots f).getD (xs.length-1) r00).2.add ⟨1,1⟩]).getD i ⟨0,1⟩=if i=xs.length then ((proots f).getD (xs.length-1) r00).2.add ⟨1,1⟩ else gapv (proots f) i:=by
   by_cases c:i=xs.length
   ·rw [if_pos c,List.getD_eq_getElem?_getD,List.getElem?_append_right (by omega),hgl,show i-(xs.length-1+1)=0 by omega]
    rfl
   ·rw [if_neg c,List.getD_eq_getElem?_getD,List.getElem?_append_left (by omega),← List.getD_eq_getElem?_getD]
    exact gapp_get _ _ _ (by omega)
  rw [hget]
  obtain ⟨g,hg⟩:∃ g,g=if i=xs.length then ((proots f).getD (xs.length-1) r00).2.add ⟨1,1⟩ else gapv (proots f) i:=⟨_,rfl⟩
  rw [← hg]
  obtain ⟨q1,q2,q3⟩:=h.gap hi' hxl hg
  refine ⟨?_,gap_below h9 h0 h.lst hi' q1 q2 q3⟩
  have hdy:∀ k,k<xs.length→DyR (cbn (qpart f)) (NN+1) ((proots f).getD k r00):=fun k hk=>by
   obtain ⟨j,j1,j2⟩:=proots_dw f _ (getD_mem (by rw [hl];exact hk) r00)
   exact j2.d.le j1
  have hd:Dy (cbn (qpart f)+1) (NN+2) g:=by
   rw [hg]
   split
   ·exact ((hdy (xs.length-1) (by omega)).2.add1).le (by omega)
   ·unfold gapv
    split
    ·exact ((hdy 0 hxl).1.sub1).le (by omega)
    ·exact (((hdy (i-1) (by omega)).2).mid (hdy i (by omega)).1).k1
  have hzb:=nn_zb2 (SqF.of9 h9 h0)
  refine hd.fqb (Nat.le_refl _) (Nat.le_trans ?_ hzb)
  clear hzb hd
  obtain ⟨E,hE⟩:∃ E,E=2500:=⟨_,rfl⟩
  rw [← hE,Nat.pow_add 2 NN E,Nat.pow_add 2 NN 2]
  have h5:0<2^NN:=Nat.pow_pos (by decide)
  have h6:8≤2^E:=Nat.le_trans (by decide) (Nat.pow_le_pow_right (n:=2) (by decide) (show 3≤E by rw [hE];decide))
  clear hE
  generalize 2^NN=P at *
  generalize 2^E=R at *
  generalize cbn (qpart f)=C at *
  have h7:(C+1+1)*(P*2^2)≤(C+1)*(P*8):=by
   have:(C+1+1)*(P*2^2)=(C+1+1)*P*4:=by rw [Nat.mul_assoc]
   have h8:(C+1)*(P*8)=(C+1)*P*8:=by rw [Nat.mul_assoc]
   rw [this,h8]
   have h9:(C+1+1)*P=(C+1)*P+P:=by rw [Nat.add_mul (C+1) 1,Nat.one_mul]
   have h10:P≤(C+1)*P:=Nat.le_mul_of_pos_left _ (by omega)
   omega
  exact Nat.le_trans h7 (Nat.mul_le_mul_left _ (Nat.mul_le_mul_left _ h6))
end
end Go.Proofs.YtppggpfcdgilmaaGreat
namespace Go.Proofs.YtppggpfcdgilmaaGreat
open Go Go.RowKit
set_option maxRecDepth 100000 in
set_option maxHeartbeats 8000000 in
theorem lawcomplete_any {I:IntPred} (hI:IK I) (Af:Option Addr) (lf cf:Nat) (f:List Int) (A:Option Addr) (la ca:Nat) (rs:List (Fq×Fq)) (w:World) (hf:PolyP I w Af lf cf f) (hl:f.length≤10) (h9:P9 f) (hr:RtsAt w A la ca rs) (hfq:∀ r∈rs,FqB r.1∧FqB r.2) (hla:la≤1000) :
 Calls Tryz.prog 19 #[.slice Af lf cf,.slice A la ca] w fun e w'=>BoolE (CmplL f rs) e∧Below w.heap.size w w':=by
 have hlf:lf≤10:=by have:=hf.length;omega
 have Hrl:=Lib.hid hr.length
 have HF:=Lib.hid hf
 have HRs:=Lib.hid hr
 have Hfq:=Lib.hid hfq
 have Hb:=Lib.hid (Below.refl w.heap.size w)
 clear hf hr hfq
 go_enter Tryz.func19,Tryz.ntmps19
 go_wp2_with fail
 go_loopw [5] (fun s5 wr=>∃ k:Nat,k≤la∧s5=.int .i64 (k:Int)∧(∀ i,i<k→stLaw f rs i)∧Below w.heap.size w wr) (fun s5 _=>la-(intOf s5).toNat)
 case atStart=>exact ⟨0,Nat.zero_le _,rfl,fun i hi=>absurd hi (Nat.not_lt_zero _),Bel.go⟩
 case round =>
  obtain ⟨k,hk,rfl,hst,hbw⟩:=hrel
  have Hst:=Lib.hid hst
  have HFr:=Lib.hid (HF.out.below hI hbw)
  have HRr:=Lib.hid (HRs.out.below hbw)
  have Hbw:=Lib.hid hbw
  clear hst
  by_cases hlt:k<la
  ·have Hkl:=Lib.hid hlt
   obtain ⟨b,o,rfl,hb0,hv⟩:∃ b o,A=some ⟨b,o,none⟩∧b<wr.heap.size∧Vals wr b o rs:=by
    rcases HRr.out.elems with ⟨h0,_⟩ | h
    ·omega
    ·exact h
   have hkl:k<rs.length:=by rw [Hrl.out];exact hlt
   obtain ⟨n,A1,l1,c1,B1,m1,d1,n',A2,l2,c2,B2,m2,d2,e0,e1,e2,e3,e4,e5,z1,z2,z3,z4⟩:=hv.get hkl
   obtain ⟨fa,fb⟩:=getD_fqb Hfq.out hkl
   obtain ⟨r,hr⟩:∃ r,r=rs.getD k r00:=⟨_,rfl⟩
   rw [← hr] at z1 z2 z3 z4 fa fb
   have Hr:=Lib.hid hr
   have Hv:=Lib.hid hv
   have ka:(k:Int)<(la:Int):=by omega
   have w1:IntKind.i64.wrap ((k:Int)+1)=(k:Int)+1:=IntWalk.i64_in _ (by omega)
   have p1:=fa.p
   have p2:=fb.p
   have Z1:=Lib.hid z1;have Z2:=Lib.hid z2;have Z3:=Lib.hid z3;have Z4:=Lib.hid z4
   clear z1 z2 z3 z4 hv hr hk hlt hbw hkl
   by_cases hv:vld 1 f r.1 r.2=true
   ·by_cases hk0:k=0
    ·have HV:=Lib.hid hv
     have g1:decide ((0:Int)<(k:Int))=false:=decide_eq_false (by omega)
     have gn:decide (0<k)=false:=decide_eq_false (by omega)
     have FIN:=Lib.hid (show stLaw f rs k from ⟨by rw [← Hr.out];exact hv,fun h=>absurd hk0 (by omega)⟩)
     clear hv hk0
     go_wp2_with fail
     refine wp_region_held_drew (S:=fun w'=>w'.cell? ⟨b,o+k*6,none⟩=some (.bool n)∧w'.cell? ⟨b,o+k*6+1,none⟩=some (.slice A1 l1 c1)∧w'.cell? ⟨b,o+k*6+2,none⟩=some (.slice B1 m1 d1)∧w'.cell? ⟨b,o+k*6+3,none⟩=some (.bool n')∧w'.cell? ⟨b,o+k*6+4,none⟩=some (.slice A2 l2 c2)∧w'.cell? ⟨b,o+k*6+5,none⟩=some (.slice B2 m2 d2)) (by kernel_rfl) (by (try dsimp only);go_keep) (fun hHeld=>?_)
     (refine tk (i:=0) (v:=?_) rfl rfl (Or.inl ⟨by rfl,?_⟩) ?_;rotate_left;(focus (intro w hSw;(try dsimp only at hSw);go_simp;(try with_reducible rfl)));(simp only [put_lit,List.set]))
     (refine tk (i:=1) (v:=?_) rfl rfl (Or.inl ⟨by rfl,?_⟩) ?_;rotate_left;(focus (intro w hSw;(try dsimp only at hSw);go_simp;(try with_reducible rfl)));(simp only [put_lit,List.set]))
     (refine tk (i:=2) (v:=?_) rfl rfl (Or.inl ⟨by rfl,?_⟩) ?_;rotate_left;(focus (intro w hSw;(try dsimp only at hSw);go_simp;(try with_reducible rfl)));(simp only [put_lit,List.set]))
     (refine tk (i:=3) (v:=?_) rfl rfl (Or.inl ⟨by rfl,?_⟩) ?_;rotate_left;(focus (intro w hSw;(try dsimp only at hSw);go_simp;(try with_reducible rfl)));(simp only [put_lit,List.set]))
     (refine tk (i:=4) (v:=?_) rfl rfl (Or.inl ⟨by rfl,?_⟩) ?_;rotate_left;(focus (intro w hSw;(try dsimp only at hSw);go_simp;(try with_reducible rfl)));(simp only [put_lit,List.set]))
     refine wpAnyH_ready (rs:=[5]) (by kernel_rfl) (by simp) ?_;refine AllReadyH.cons rfl (fun K hK=>?_) AllReadyH.nil;go_simp;refine (lawvalid_any hI _ _ _ f r.1 r.2 _ _ _ _ _ _ _ _ _ _ _ _ _ _ _ ?_ hl h9 ?_ ?_ ?_ ?_ fa fb).mono ?_;(exact HFr.out.below hI Bel.go);(exact Z1.out.below Bel.go);(exact Z2.out.below Bel.go);(exact Z3.out.below Bel.go);(exact Z4.out.below Bel.go);rintro e w3 ⟨rfl,hb3⟩;rw [HV.out];obtain ⟨hcx,hfx⟩:=bcellS hb3;have G3:=Lib.hid ((Below.trans Bel.go (hb3.mono (by simp<;>omega))):Below wr.heap.size wr w3);refine hK.out _ _ ?_ (fun _=>?_)
     ·((try dsimp only);repeat' apply And.intro)<;>(rw [hcx _ (by go_simp)];go_simp)
     clear hHeld hK K hcx hfx;rename_i hHeld
     (refine tk (i:=6) (v:=?_) rfl rfl (Or.inl ⟨by rfl,?_⟩) ?_;rotate_left;(focus (intro w hSw;(try dsimp only at hSw);go_simp;(try with_reducible rfl)));(simp only [put_lit,List.set]))
     (refine tk (i:=7) (v:=?_) rfl rfl (Or.inl ⟨by rfl,?_⟩) ?_;rotate_left;(focus (intro w hSw;(try dsimp only at hSw);go_simp;(try with_reducible rfl)));(simp only [put_lit,List.set]))
     (refine tk (i:=8) (v:=?_) rfl rfl (Or.inl ⟨by rfl,?_⟩) ?_;rotate_left;(focus (intro w hSw;(try dsimp only at hSw);go_simp;(try with_reducible rfl)));(simp only [put_lit,List.set]))
     (refine tk (i:=9) (v:=?_) rfl rfl (Or.inl ⟨by rfl,?_⟩) ?_;rotate_left;(focus (intro w hSw;(try dsimp only at hSw);go_simp;(try with_reducible rfl)));(simp only [put_lit,List.set]))
     (refine tk (i:=10) (v:=?_) rfl rfl (Or.inl ⟨by rfl,?_⟩) ?_;rotate_left;(focus (intro w hSw;(try dsimp only at hSw);go_simp;(try with_reducible rfl)));(simp only [put_lit,List.set]))
     (refine take_at (i:=11) (oi:=_) (v:=undef) rfl rfl (by kernel_rfl) (by kernel_rfl) (by kernel_rfl) (fun _ _ _ h=>h) (Or.inr ⟨by rfl,rfl⟩) (by assumption) ?_;(simp only [put_lit,List.set]))
     (refine take_at (i:=12) (oi:=_) (v:=undef) rfl rfl (by kernel_rfl) (by kernel_rfl) (by kernel_rfl) (fun _ _ _ h=>h) (Or.inr ⟨by rfl,rfl⟩) (by assumption) ?_;(simp only [put_lit,List.set]))
     (refine take_at (i:=13) (oi:=_) (v:=undef) rfl rfl (by kernel_rfl) (by kernel_rfl) (by kernel_rfl) (fun _ _ _ h=>h) (Or.inr ⟨by rfl,rfl⟩) (by assumption) ?_;(simp only [put_lit,List.set]))
     (refine take_at (i:=14) (oi:=_) (v:=undef) rfl rfl (by kernel_rfl) (by kernel_rfl) (by kernel_rfl) (fun _ _ _ h=>h) (Or.inr ⟨by rfl,rfl⟩) (by assumption) ?_;(simp only [put_lit,List.set]))
     (refine take_at (i:=15) (oi:=_) (v:=undef) rfl rfl (by kernel_rfl) (by kernel_rfl) (by kernel_rfl) (fun _ _ _ h=>h) (Or.inr ⟨by rfl,rfl⟩) (by assumption) ?_;(simp only [put_lit,List.set]))
     (refine take_at (i:=16) (oi:=_) (v:=undef) rfl rfl (by kernel_rfl) (by kernel_rfl) (by kernel_rfl) (fun _ _ _ h=>h) (Or.inr ⟨by rfl,rfl⟩) (by assumption) ?_;(simp only [put_lit,List.set]))
     (refine take_at (i:=17) (oi:=_) (v:=undef) rfl rfl (by kernel_rfl) (by kernel_rfl) (by kernel_rfl) (fun _ _ _ h=>h) (Or.inr ⟨by rfl,rfl⟩) (by assumption) ?_;(simp only [put_lit,List.set]))
     (refine take_at (i:=18) (oi:=_) (v:=undef) rfl rfl (by kernel_rfl) (by kernel_rfl) (by kernel_rfl) (fun _ _ _ h=>h) (Or.inr ⟨by rfl,rfl⟩) (by assumption) ?_;(simp only [put_lit,List.set]))
     (refine take_at (i:=19) (oi:=_) (v:=undef) rfl rfl (by kernel_rfl) (by kernel_rfl) (by kernel_rfl) (fun _ _ _ h=>h) (Or.inr ⟨by rfl,rfl⟩) (by assumption) ?_;(simp only [put_lit,List.set]))
     (refine take_at (i:=20) (oi:=_) (v:=undef) rfl rfl (by kernel_rfl) (by kernel_rfl) (by kernel_rfl) (fun _ _ _ h=>h) (Or.inr ⟨by rfl,rfl⟩) (by assumption) ?_;(simp only [put_lit,List.set]))
     (refine take_at (i:=21) (oi:=_) (v:=undef) rfl rfl (by kernel_rfl) (by kernel_rfl) (by kernel_rfl) (fun _ _ _ h=>h) (Or.inr ⟨by rfl,rfl⟩) (by assumption) ?_;(simp only [put_lit,List.set]))
     (refine take_at (i:=22) (oi:=_) (v:=undef) rfl rfl (by kernel_rfl) (by kernel_rfl) (by kernel_rfl) (fun _ _ _ h=>h) (Or.inr ⟨by rfl,rfl⟩) (by assumption) ?_;(simp only [put_lit,List.set]))
     (refine take_at (i:=23) (oi:=_) (v:=undef) rfl rfl (by kernel_rfl) (by kernel_rfl) (by kernel_rfl) (fun _ _ _ h=>h) (Or.inr ⟨by rfl,rfl⟩) (by assumption) ?_;(simp only [put_lit,List.set]))
     (refine tk (i:=24) (v:=?_) rfl rfl (Or.inl ⟨by rfl,?_⟩) ?_;rotate_left;(focus (intro w hSw;(try dsimp only at hSw);go_simp;(try with_reducible rfl)));(simp only [put_lit,List.set]))
     (refine tk (i:=25) (v:=?_) rfl rfl (Or.inl ⟨by rfl,?_⟩) ?_;rotate_left;(focus (intro w hSw;(try dsimp only at hSw);go_simp;(try with_reducible rfl)));(simp only [put_lit,List.set]))
     refine wpAnyH_done (by kernel_rfl) ?_ _
     have Hbx:=Lib.hid (Hbw.out.trans (G3.out.mono Hbw.out.size))
     go_wp2_with fail
     go_roundw;(case rel=>exact ⟨k+1,Hkl.out,by go_num,fun i hi=>(by by_cases hi2:i<k;exact Hst.out i hi2;obtain rfl:i=k:=(by omega);exact FIN.out),Hbx.out⟩);(case measure=>have:=Hkl.out;simp [intOf];omega)
    ·obtain ⟨j,hj⟩:∃ j,k=j+1:=⟨k-1,by omega⟩
     have HV:=Lib.hid hv
     have g1:decide ((0:Int)<(k:Int))=true:=decide_eq_true (by omega)
     have gn:decide (0<k)=true:=decide_eq_true (by omega)
     have y1:(k:Int)-1=(j:Int):=by omega
     have i1:IntKind.i64.wrap (j:Int)=(j:Int):=IntWalk.i64_in _ (by have:=Hkl.out;omega)
     have ja:(j:Int)<(la:Int):=by omega
     have hjl:j<rs.length:=by rw [Hrl.out];have:=Hkl.out;omega
     obtain ⟨n3,A3,l3,c3,B3,m3,d3,n4,A4,l4,c4,B4,m4,d4,_,_,_,u3,u4,u5,_,_,z3,z4⟩:=Hv.out.get hjl
     obtain ⟨_,fp⟩:=getD_fqb Hfq.out hjl
     obtain ⟨p,hp⟩:∃ p,p=rs.getD j r00:=⟨_,rfl⟩
     rw [← hp] at z3 z4 fp
     have ST:=Lib.hid (show stLaw f rs k↔fcmp p.2 r.1≤0 by
      unfold stLaw
      rw [← Int.not_lt]
      rw [show k-1=j by omega,← hp,← Hr.out]
      exact ⟨fun h=>h.2 (by omega),fun h=>⟨hv,fun _=>h⟩⟩)
     have q2:=fp.p
     have Z5:=Lib.hid z3;have Z6:=Lib.hid z4
     clear z3 z4 hp hj hk0 hjl hv
     go_wp2_with fail
     refine wp_region_held_drew (S:=fun w'=>(w'.cell? ⟨b,o+k*6,none⟩=some (.bool n)∧w'.cell? ⟨b,o+k*6+1,none⟩=some (.slice A1 l1 c1)∧w'.cell? ⟨b,o+k*6+2,none⟩=some (.slice B1 m1 d1)∧w'.cell? ⟨b,o+k*6+3,none⟩=some (.bool n')∧w'.cell? ⟨b,o+k*6+4,none⟩=some (.slice A2 l2 c2)∧w'.cell? ⟨b,o+k*6+5,none⟩=some (.slice B2 m2 d2))∧w'.cell? ⟨b,o+j*6+3,none⟩=some (.bool n4)∧w'.cell? ⟨b,o+j*6+4,none⟩=some (.slice A4 l4 c4)∧w'.cell? ⟨b,o+j*6+5,none⟩=some (.slice B4 m4 d4)) (by kernel_rfl) (by (try dsimp only);go_keep) (fun hHeld=>?_)
     (refine tk (i:=0) (v:=?_) rfl rfl (Or.inl ⟨by rfl,?_⟩) ?_;rotate_left;(focus (intro w hSw;(try dsimp only at hSw);go_simp;(try with_reducible rfl)));(simp only [put_lit,List.set]))
     (refine tk (i:=1) (v:=?_) rfl rfl (Or.inl ⟨by rfl,?_⟩) ?_;rotate_left;(focus (intro w hSw;(try dsimp only at hSw);go_simp;(try with_reducible rfl)));(simp only [put_lit,List.set]))
     (refine tk (i:=2) (v:=?_) rfl rfl (Or.inl ⟨by rfl,?_⟩) ?_;rotate_left;(focus (intro w hSw;(try dsimp only at hSw);go_simp;(try with_reducible rfl)));(simp only [put_lit,List.set]))
     (refine tk (i:=3) (v:=?_) rfl rfl (Or.inl ⟨by rfl,?_⟩) ?_;rotate_left;(focus (intro w hSw;(try dsimp only at hSw);go_simp;(try with_reducible rfl)));(simp only [put_lit,List.set]))
     (refine tk (i:=4) (v:=?_) rfl rfl (Or.inl ⟨by rfl,?_⟩) ?_;rotate_left;(focus (intro w hSw;(try dsimp only at hSw);go_simp;(try with_reducible rfl)));(simp only [put_lit,List.set]))
     refine wpAnyH_ready (rs:=[5]) (by kernel_rfl) (by simp) ?_;refine AllReadyH.cons rfl (fun K hK=>?_) AllReadyH.nil;go_simp;refine (lawvalid_any hI _ _ _ f r.1 r.2 _ _ _ _ _ _ _ _ _ _ _ _ _ _ _ ?_ hl h9 ?_ ?_ ?_ ?_ fa fb).mono ?_;(exact HFr.out.below hI Bel.go);(exact Z1.out.below Bel.go);(exact Z2.out.below Bel.go);(exact Z3.out.below Bel.go);(exact Z4.out.below Bel.go);rintro e w3 ⟨rfl,hb3⟩;rw [HV.out];obtain ⟨hcx,hfx⟩:=bcellS hb3;have G3:=Lib.hid ((Below.trans Bel.go (hb3.mono (by simp<;>omega))):Below wr.heap.size wr w3);refine hK.out _ _ ?_ (fun _=>?_)
     ·((try dsimp only);repeat' apply And.intro)<;>(rw [hcx _ (by go_simp)];go_simp)
     clear hHeld hK K hcx hfx;rename_i hHeld
     (refine tk (i:=6) (v:=?_) rfl rfl (Or.inl ⟨by rfl,?_⟩) ?_;rotate_left;(focus (intro w hSw;(try dsimp only at hSw);go_simp;(try with_reducible rfl)));(simp only [put_lit,List.set]))
     (refine tk (i:=7) (v:=?_) rfl rfl (Or.inl ⟨by rfl,?_⟩) ?_;rotate_left;(focus (intro w hSw;(try dsimp only at hSw);go_simp;(try with_reducible rfl)));(simp only [put_lit,List.set]))
     (refine tk (i:=8) (v:=?_) rfl rfl (Or.inl ⟨by rfl,?_⟩) ?_;rotate_left;(focus (intro w hSw;(try dsimp only at hSw);go_simp;(try with_reducible rfl)));(simp only [put_lit,List.set]))
     (refine tk (i:=9) (v:=?_) rfl rfl (Or.inl ⟨by rfl,?_⟩) ?_;rotate_left;(focus (intro w hSw;(try dsimp only at hSw);go_simp;(try with_reducible rfl)));(simp only [put_lit,List.set]))
     (refine tk (i:=10) (v:=?_) rfl rfl (Or.inl ⟨by rfl,?_⟩) ?_;rotate_left;(focus (intro w hSw;(try dsimp only at hSw);go_simp;(try with_reducible rfl)));(simp only [put_lit,List.set]))
     (refine tk (i:=11) (v:=?_) rfl rfl (Or.inl ⟨by rfl,?_⟩) ?_;rotate_left;(focus (intro w hSw;(try dsimp only at hSw);go_simp;(try with_reducible rfl)));(simp only [put_lit,List.set]))
     (refine tk (i:=12) (v:=?_) rfl rfl (Or.inl ⟨by rfl,?_⟩) ?_;rotate_left;(focus (intro w hSw;(try dsimp only at hSw);go_simp;(try with_reducible rfl)));(simp only [put_lit,List.set]))
     (refine tk (i:=13) (v:=?_) rfl rfl (Or.inl ⟨by rfl,?_⟩) ?_;rotate_left;(focus (intro w hSw;(try dsimp only at hSw);go_simp;(try with_reducible rfl)));(simp only [put_lit,List.set]))
     (refine tk (i:=14) (v:=?_) rfl rfl (Or.inl ⟨by rfl,?_⟩) ?_;rotate_left;(focus (intro w hSw;(try dsimp only at hSw);go_simp;(try with_reducible rfl)));(simp only [put_lit,List.set]))
     (refine tk (i:=15) (v:=?_) rfl rfl (Or.inl ⟨by rfl,?_⟩) ?_;rotate_left;(focus (intro w hSw;(try dsimp only at hSw);go_simp;(try with_reducible rfl)));(simp only [put_lit,List.set]))
     (refine tk (i:=16) (v:=?_) rfl rfl (Or.inl ⟨by rfl,?_⟩) ?_;rotate_left;(focus (intro w hSw;(try dsimp only at hSw);go_simp;(try with_reducible rfl)));(simp only [put_lit,List.set]))
     (refine tk (i:=17) (v:=?_) rfl rfl (Or.inl ⟨by rfl,?_⟩) ?_;rotate_left;(focus (intro w hSw;(try dsimp only at hSw);go_simp;(try with_reducible rfl)));(simp only [put_lit,List.set]))
     (refine tk (i:=18) (v:=?_) rfl rfl (Or.inl ⟨by rfl,?_⟩) ?_;rotate_left;(focus (intro w hSw;(try dsimp only at hSw);go_simp;(try with_reducible rfl)));(simp only [put_lit,List.set]))
     (refine tk (i:=19) (v:=?_) rfl rfl (Or.inl ⟨by rfl,?_⟩) ?_;rotate_left;(focus (intro w hSw;(try dsimp only at hSw);go_simp;(try with_reducible rfl)));(simp only [put_lit,List.set]))
     (refine tk (i:=20) (v:=?_) rfl rfl (Or.inl ⟨by rfl,?_⟩) ?_;rotate_left;(focus (intro w hSw;(try dsimp only at hSw);go_simp;(try with_reducible rfl)));(simp only [put_lit,List.set]))
     (refine tk (i:=21) (v:=?_) rfl rfl (Or.inl ⟨by rfl,?_⟩) ?_;rotate_left;(focus (intro w hSw;(try dsimp only at hSw);go_simp;(try with_reducible rfl)));(simp only [put_lit,List.set]))
     refine wpAnyH_ready (rs:=[22]) (by kernel_rfl) (by simp) ?_
     refine AllReadyH.cons rfl (fun K hK=>?_) AllReadyH.nil;go_simp
     refine (rcmp_any _ _ _ _ _ _ _ _ _ _ _ _ _ _ _ _ _ _ _ ?_ ?_ ?_ ?_ (by omega) (by omega) fp.fz fp.fq fa.fz fa.fq).mono ?_
     ·exact (Z5.out.below G3.out).at_.below Bel.go
     ·exact (Z6.out.below G3.out).at_.below Bel.go
     ·exact (Z1.out.below G3.out).at_.below Bel.go
     ·exact (Z2.out.below G3.out).at_.below Bel.go
     rintro e w4 ⟨rfl,hb4⟩
     obtain ⟨C1,hC1⟩:∃ C,C=cmpz (p.2.z*(r.1.q:Int)) (r.1.z*(p.2.q:Int)):=⟨_,rfl⟩
     rw [← hC1]
     have HC1:=Lib.hid (show C1=fcmp p.2 r.1 from hC1)
     clear hC1
     obtain ⟨hcx,hfx⟩:=bcellS hb4
     have G4:=Lib.hid (G3.out.trans (((Below.trans Bel.go (hb4.mono (by simp<;>omega))):Below w3.heap.size w3 w4).mono G3.out.size))
     refine hK.out _ _ ?_ (fun _=>?_)
     ·((try dsimp only);repeat' apply And.intro)<;>(rw [hcx _ (by go_simp)];go_simp)
     clear hHeld hK K hcx hfx;rename_i hHeld
     have Hbx:=Lib.hid (Hbw.out.trans (G4.out.mono Hbw.out.size))
     by_cases g2:0<C1
     ·have b3:decide (0<C1)=true:=decide_eq_true g2
      have FIN:=Lib.hid (show ¬ CmplL f rs from fun h=>(by have h2:=ST.out.1 (h.2 k (by rw [Hrl.out];exact Hkl.out));rw [← HC1.out] at h2;omega))
      clear g2
      (refine tk (i:=23) (v:=?_) rfl rfl (Or.inl ⟨by rfl,?_⟩) ?_;rotate_left;(focus (intro w hSw;(try dsimp only at hSw);go_simp;(try with_reducible rfl)));(simp only [put_lit,List.set]))
      (refine tk (i:=24) (v:=?_) rfl rfl (Or.inl ⟨by rfl,?_⟩) ?_;rotate_left;(focus (intro w hSw;(try dsimp only at hSw);go_simp;(try with_reducible rfl)));(simp only [put_lit,List.set]))
      (refine tk (i:=25) (v:=?_) rfl rfl (Or.inl ⟨by rfl,?_⟩) ?_;rotate_left;(focus (intro w hSw;(try dsimp only at hSw);go_simp;(try with_reducible rfl)));(simp only [put_lit,List.set]))
      refine wpAnyH_done (by kernel_rfl) ?_ _
      go_wp2_with fail
      go_ret
      exact ⟨.no FIN.out,Hb.out.trans (Hbx.out.mono Hb.out.size)⟩
     ·have b3:decide (0<C1)=false:=decide_eq_false g2
      have FIN:=Lib.hid (ST.out.2 (by rw [← HC1.out];omega))
      clear g2
      (refine tk (i:=23) (v:=?_) rfl rfl (Or.inl ⟨by rfl,?_⟩) ?_;rotate_left;(focus (intro w hSw;(try dsimp only at hSw);go_simp;(try with_reducible rfl)));(simp only [put_lit,List.set]))
      (refine tk (i:=24) (v:=?_) rfl rfl (Or.inl ⟨by rfl,?_⟩) ?_;rotate_left;(focus (intro w hSw;(try dsimp only at hSw);go_simp;(try with_reducible rfl)));(simp only [put_lit,List.set]))
      (refine tk (i:=25) (v:=?_) rfl rfl (Or.inl ⟨by rfl,?_⟩) ?_;rotate_left;(focus (intro w hSw;(try dsimp only at hSw);go_simp;(try with_reducible rfl)));(simp only [put_lit,List.set]))
      refine wpAnyH_done (by kernel_rfl) ?_ _
      go_wp2_with fail
      go_roundw;(case rel=>exact ⟨k+1,Hkl.out,by go_num,fun i hi=>(by by_cases hi2:i<k;exact Hst.out i hi2;obtain rfl:i=k:=(by omega);exact FIN.out),Hbx.out⟩);(case measure=>have:=Hkl.out;simp [intOf];omega)
   ·have HV:=Lib.hid (show vld 1 f r.1 r.2=false by simpa using hv)
    have FIN:=Lib.hid (show ¬ CmplL f rs from fun h=>hv (by rw [Hr.out];exact (h.2 k (by rw [Hrl.out];exact Hkl.out)).1))
    clear hv
    go_wp2_with fail
    refine wp_region_held_drew (S:=fun w'=>w'.cell? ⟨b,o+k*6,none⟩=some (.bool n)∧w'.cell? ⟨b,o+k*6+1,none⟩=some (.slice A1 l1 c1)∧w'.cell? ⟨b,o+k*6+2,none⟩=some (.slice B1 m1 d1)∧w'.cell? ⟨b,o+k*6+3,none⟩=some (.bool n')∧w'.cell? ⟨b,o+k*6+4,none⟩=some (.slice A2 l2 c2)∧w'.cell? ⟨b,o+k*6+5,none⟩=some (.slice B2 m2 d2)) (by kernel_rfl) (by (try dsimp only);go_keep) (fun hHeld=>?_)
    (refine tk (i:=0) (v:=?_) rfl rfl (Or.inl ⟨by rfl,?_⟩) ?_;rotate_left;(focus (intro w hSw;(try dsimp only at hSw);go_simp;(try with_reducible rfl)));(simp only [put_lit,List.set]))
    (refine tk (i:=1) (v:=?_) rfl rfl (Or.inl ⟨by rfl,?_⟩) ?_;rotate_left;(focus (intro w hSw;(try dsimp only at hSw);go_simp;(try with_reducible rfl)));(simp only [put_lit,List.set]))
    (refine tk (i:=2) (v:=?_) rfl rfl (Or.inl ⟨by rfl,?_⟩) ?_;rotate_left;(focus (intro w hSw;(try dsimp only at hSw);go_simp;(try with_reducible rfl)));(simp only [put_lit,List.set]))
    (refine tk (i:=3) (v:=?_) rfl rfl (Or.inl ⟨by rfl,?_⟩) ?_;rotate_left;(focus (intro w hSw;(try dsimp only at hSw);go_simp;(try with_reducible rfl)));(simp only [put_lit,List.set]))
    (refine tk (i:=4) (v:=?_) rfl rfl (Or.inl ⟨by rfl,?_⟩) ?_;rotate_left;(focus (intro w hSw;(try dsimp only at hSw);go_simp;(try with_reducible rfl)));(simp only [put_lit,List.set]))
    refine wpAnyH_ready (rs:=[5]) (by kernel_rfl) (by simp) ?_;refine AllReadyH.cons rfl (fun K hK=>?_) AllReadyH.nil;go_simp;refine (lawvalid_any hI _ _ _ f r.1 r.2 _ _ _ _ _ _ _ _ _ _ _ _ _ _ _ ?_ hl h9 ?_ ?_ ?_ ?_ fa fb).mono ?_;(exact HFr.out.below hI Bel.go);(exact Z1.out.below Bel.go);(exact Z2.out.below Bel.go);(exact Z3.out.below Bel.go);(exact Z4.out.below Bel.go);rintro e w3 ⟨rfl,hb3⟩;rw [HV.out];obtain ⟨hcx,hfx⟩:=bcellS hb3;have G3:=Lib.hid ((Below.trans Bel.go (hb3.mono (by simp<;>omega))):Below wr.heap.size wr w3);refine hK.out _ _ ?_ (fun _=>?_)
    ·((try dsimp only);repeat' apply And.intro)<;>(rw [hcx _ (by go_simp)];go_simp)
    clear hHeld hK K hcx hfx;rename_i hHeld
    (refine tk (i:=6) (v:=?_) rfl rfl (Or.inl ⟨by rfl,?_⟩) ?_;rotate_left;(focus (intro w hSw;(try dsimp only at hSw);go_simp;(try with_reducible rfl)));(simp only [put_lit,List.set]))
    (refine tk (i:=7) (v:=?_) rfl rfl (Or.inl ⟨by rfl,?_⟩) ?_;rotate_left;(focus (intro w hSw;(try dsimp only at hSw);go_simp;(try with_reducible rfl)));(simp only [put_lit,List.set]))
    (refine take_at (i:=8) (oi:=_) (v:=undef) rfl rfl (by kernel_rfl) (by kernel_rfl) (by kernel_rfl) (fun _ _ _ h=>h) (Or.inr ⟨by rfl,rfl⟩) (by assumption) ?_;(simp only [put_lit,List.set]))
    (refine take_at (i:=9) (oi:=_) (v:=undef) rfl rfl (by kernel_rfl) (by kernel_rfl) (by kernel_rfl) (fun _ _ _ h=>h) (Or.inr ⟨by rfl,rfl⟩) (by assumption) ?_;(simp only [put_lit,List.set]))
    (refine take_at (i:=10) (oi:=_) (v:=undef) rfl rfl (by kernel_rfl) (by kernel_rfl) (by kernel_rfl) (fun _ _ _ h=>h) (Or.inr ⟨by rfl,rfl⟩) (by assumption) ?_;(simp only [put_lit,List.set]))
    (refine take_at (i:=11) (oi:=_) (v:=undef) rfl rfl (by kernel_rfl) (by kernel_rfl) (by kernel_rfl) (fun _ _ _ h=>h) (Or.inr ⟨by rfl,rfl⟩) (by assumption) ?_;(simp only [put_lit,List.set]))
    (refine take_at (i:=12) (oi:=_) (v:=undef) rfl rfl (by kernel_rfl) (by kernel_rfl) (by kernel_rfl) (fun _ _ _ h=>h) (Or.inr ⟨by rfl,rfl⟩) (by assumption) ?_;(simp only [put_lit,List.set]))
    (refine take_at (i:=13) (oi:=_) (v:=undef) rfl rfl (by kernel_rfl) (by kernel_rfl) (by kernel_rfl) (fun _ _ _ h=>h) (Or.inr ⟨by rfl,rfl⟩) (by assumption) ?_;(simp only [put_lit,List.set]))
    (refine take_at (i:=14) (oi:=_) (v:=undef) rfl rfl (by kernel_rfl) (by kernel_rfl) (by kernel_rfl) (fun _ _ _ h=>h) (Or.inr ⟨by rfl,rfl⟩) (by assumption) ?_;(simp only [put_lit,List.set]))
    (refine take_at (i:=15) (oi:=_) (v:=undef) rfl rfl (by kernel_rfl) (by kernel_rfl) (by kernel_rfl) (fun _ _ _ h=>h) (Or.inr ⟨by rfl,rfl⟩) (by assumption) ?_;(simp only [put_lit,List.set]))
    (refine take_at (i:=16) (oi:=_) (v:=undef) rfl rfl (by kernel_rfl) (by kernel_rfl) (by kernel_rfl) (fun _ _ _ h=>h) (Or.inr ⟨by rfl,rfl⟩) (by assumption) ?_;(simp only [put_lit,List.set]))
    (refine take_at (i:=17) (oi:=_) (v:=undef) rfl rfl (by kernel_rfl) (by kernel_rfl) (by kernel_rfl) (fun _ _ _ h=>h) (Or.inr ⟨by rfl,rfl⟩) (by assumption) ?_;(simp only [put_lit,List.set]))
    (refine take_at (i:=18) (oi:=_) (v:=undef) rfl rfl (by kernel_rfl) (by kernel_rfl) (by kernel_rfl) (fun _ _ _ h=>h) (Or.inr ⟨by rfl,rfl⟩) (by assumption) ?_;(simp only [put_lit,List.set]))
    (refine take_at (i:=19) (oi:=_) (v:=undef) rfl rfl (by kernel_rfl) (by kernel_rfl) (by kernel_rfl) (fun _ _ _ h=>h) (Or.inr ⟨by rfl,rfl⟩) (by assumption) ?_;(simp only [put_lit,List.set]))
    (refine take_at (i:=20) (oi:=_) (v:=undef) rfl rfl (by kernel_rfl) (by kernel_rfl) (by kernel_rfl) (fun _ _ _ h=>h) (Or.inr ⟨by rfl,rfl⟩) (by assumption) ?_;(simp only [put_lit,List.set]))
    (refine take_at (i:=21) (oi:=_) (v:=undef) rfl rfl (by kernel_rfl) (by kernel_rfl) (by kernel_rfl) (fun _ _ _ h=>h) (Or.inr ⟨by rfl,rfl⟩) (by assumption) ?_;(simp only [put_lit,List.set]))
    (refine take_at (i:=22) (oi:=_) (v:=undef) rfl rfl (by kernel_rfl) (by kernel_rfl) (by kernel_rfl) (fun _ _ _ h=>h) (Or.inr ⟨by rfl,rfl⟩) (by assumption) ?_;(simp only [put_lit,List.set]))
    (refine take_at (i:=23) (oi:=_) (v:=undef) rfl rfl (by kernel_rfl) (by kernel_rfl) (by kernel_rfl) (fun _ _ _ h=>h) (Or.inr ⟨by rfl,rfl⟩) (by assumption) ?_;(simp only [put_lit,List.set]))
    (refine take_at (i:=24) (oi:=_) (v:=undef) rfl rfl (by kernel_rfl) (by kernel_rfl) (by kernel_rfl) (fun _ _ _ h=>h) (Or.inr ⟨by rfl,rfl⟩) (by assumption) ?_;(simp only [put_lit,List.set]))
    (refine tk (i:=25) (v:=?_) rfl rfl (Or.inl ⟨by rfl,?_⟩) ?_;rotate_left;(focus (intro w hSw;(try dsimp only at hSw);go_simp;(try with_reducible rfl)));(simp only [put_lit,List.set]))
    refine wpAnyH_done (by kernel_rfl) ?_ _
    have Hbx:=Lib.hid (Hbw.out.trans (G3.out.mono Hbw.out.size))
    go_wp2_with fail
    go_ret
    exact ⟨.no FIN.out,Hb.out.trans (Hbx.out.mono Hb.out.size)⟩
  ·have t1:¬ (k:Int)<(la:Int):=by omega
   have hk2:k=la:=by omega
   subst hk2
   have Hk:=Lib.hid (show ∀ i,i<rs.length→stLaw f rs i from fun i hi=>Hst.out i (by rw [← Hrl.out];exact hi))
   have Hbx:=Hbw
   clear hlt
   go_wp2_with fail
   refine (all_q hI _ _ _ f _ HFr.out h9 (by omega)).mono ?_
   rintro e w3 ⟨rfl,hb3⟩
   replace Hbx:=Lib.hid (Hbx.out.trans (hb3.mono Hbx.out.size))
   obtain ⟨NA,hNA⟩:∃ N,N=nall f:=⟨_,rfl⟩
   rw [← hNA]
   have HNA:=Lib.hid hNA
   clear hNA hb3
   by_cases hn:(k:Int)=NA
   ·have b1:((k:Int) == NA)=true:=by rw [hn];simp
    have FIN:=Lib.hid (show CmplL f rs from ⟨by rw [Hrl.out,hn,HNA.out],Hk.out⟩)
    clear hn
    go_wp2_with fail
    go_ret
    exact ⟨.yes FIN.out,Hb.out.trans (Hbx.out.mono Hb.out.size)⟩
   ·have b1:((k:Int) == NA)=false:=by rw [beq_eq_false_iff_ne];exact hn
    have FIN:=Lib.hid (show ¬ CmplL f rs from fun h=>hn (by rw [← Hrl.out,HNA.out];exact h.1))
    clear hn
    go_wp2_with fail
    go_ret
    exact ⟨.no FIN.out,Hb.out.trans (Hbx.out.mono Hb.out.size)⟩
set_option maxRecDepth 100000 in
set_option maxHeartbeats 4000000 in
theorem law_completes (A:Option Addr) (la ca:Nat) (cs:List Int) (w:World) (h:I16At w A la ca cs) (hlm:la≤9223372036854775807) :
 Calls Tryz.prog 6 #[.slice A la ca] w fun e w'=>e=.returned (.bool true)∧Below w.heap.size w w':=by
 have Hi:=Lib.hid h
 have F9:P9 (ptrim (cs.take 9)):=short_p9 h (by omega)
 obtain ⟨_,lF,tF,_⟩:=short_bd h 9
 obtain ⟨F,hF⟩:∃ F,F=ptrim (cs.take 9):=⟨_,rfl⟩
 rw [← hF] at F9 lF tF
 have HFe:=Lib.hid hF.symm
 clear h hF
 go_enter Tryz.func6,Tryz.ntmps6
 go_wp2_with fail
 refine (awake16_any _).mono ?_
 rintro e w1 ⟨rfl,hb1⟩
 replace Hi:=Lib.hid (Hi.out.below hb1)
 have Hb:=Lib.hid hb1
 clear hb1
 go_wp2_with fail
 refine (short_any _ _ _ 9 _ _ Hi.out (by omega) hlm).mono ?_
 rintro e w2 ⟨Af,lf,cf,rfl,h2f,hb2⟩
 rw [HFe.out] at h2f
 have hlf:lf≤9:=by have:=h2f.length;omega
 have HP:=Lib.hid h2f
 replace Hb:=Lib.hid (Hb.out.trans (hb2.mono Hb.out.size))
 clear hb2 h2f Hi
 go_wp2_with fail
 refine (roots_any ikN _ _ _ F _ HP.out F9.cp.fit.smp (fun _=>F9.q) (fun h=>SqF.of9 F9 h) (by omega)).mono ?_
 rintro e w3 ⟨⟨A3,l3,c3,rfl,h3⟩,hb3⟩
 have hl3:l3≤9:=by rw [← h3.length];exact proots_le9 F9
 have C1:=Lib.hid (cmpl_roots F9)
 have C2:=Lib.hid (cmpl_law F9 (proots_fqb F9) C1.out)
 have FQ:=Lib.hid (proots_fqb F9)
 replace HP:=Lib.hid (HP.out.below ikN hb3)
 replace Hb:=Lib.hid (Hb.out.trans (hb3.mono Hb.out.size))
 have HR:=Lib.hid h3
 clear hb3 h3
 go_wp2_with fail
 refine (lawcomplete_any ikN _ _ _ F _ _ _ (proots F) _ HP.out (by omega) F9 HR.out FQ.out (by omega)).mono ?_
 rintro e w4 ⟨he,hb4⟩
 have he2:=he.get C2.out
 subst he2
 replace HP:=Lib.hid (HP.out.below ikN hb4)
 replace HR:=Lib.hid (HR.out.below hb4)
 replace Hb:=Lib.hid (Hb.out.trans (hb4.mono Hb.out.size))
 clear hb4 he
 go_wp2_with fail
 refine (complete_any ikN _ _ _ F _ _ _ (proots F) _ HP.out (by omega) F9 HR.out FQ.out (by omega)).mono ?_
 rintro e w5 ⟨he,hb5⟩
 have he2:=he.get C1.out
 subst he2
 replace Hb:=Lib.hid (Hb.out.trans (hb5.mono Hb.out.size))
 clear hb5 he HP HR
 go_wp2
 go_ret
 exact ⟨rfl,Hb.out⟩
end Go.Proofs.YtppggpfcdgilmaaGreat
namespace Go.Proofs.YtppggpfcdgilmaaGreat
open Go Go.RowKit
theorem SlE.getr {w:World} {A:Option Addr} {l c:Nat} {gs:List Fq} (h:SlE 3 RatV w A l c gs) {k:Nat} (hk:k<l) :
 ∃ b o n A1 l1 c1 B m d,A=some ⟨b,o,none⟩∧b<w.heap.size∧w.cell? ⟨b,o+k*3,none⟩=some (.bool n)∧w.cell? ⟨b,o+k*3+1,none⟩=some (.slice A1 l1 c1)∧w.cell? ⟨b,o+k*3+2,none⟩=some (.slice B m d)∧IntN w n A1 l1 c1 (gs.getD k ⟨0,1⟩).z∧NatN w B m d (gs.getD k ⟨0,1⟩).q:=by
 rcases h.elems with ⟨h0,_⟩ | ⟨b,o,e,hb,hv⟩
 ·omega
 ·have hkl:k<gs.length:=by rw [h.length];exact hk
  have eg:gs[k]?=some (gs.getD k ⟨0,1⟩):=by rw [List.getD_eq_getElem?_getD,List.getElem?_eq_getElem hkl];rfl
  obtain ⟨vs,⟨n,A1,l1,c1,B,m,d,ev,h1,h2⟩,hc⟩:=hv k _ eg
  subst ev
  exact ⟨b,o,n,A1,l1,c1,B,m,d,e,hb,hc 0 _ rfl,hc 1 _ rfl,hc 2 _ rfl,h1,h2⟩
theorem SlE.belowr {w w':World} {A:Option Addr} {l c:Nat} {gs:List Fq} (h:SlE 3 RatV w A l c gs) (hb:Below w.heap.size w w'):SlE 3 RatV w' A l c gs:=h.below hb fun _ _ hx=>hx.below hb
set_option maxRecDepth 100000 in
set_option maxHeartbeats 4000000 in
theorem law_gaps (A:Option Addr) (la ca:Nat) (cs:List Int) (w:World) (h:I16At w A la ca cs) (hlm:la≤9223372036854775807) :
 Calls Tryz.prog 9 #[.slice A la ca] w fun e w'=>e=.returned (.bool true)∧Below w.heap.size w w':=by
 have Hi:=Lib.hid h
 have F9:P9 (ptrim (cs.take 8)):=short_p9 h (by omega)
 obtain ⟨_,lF,tF,_⟩:=short_bd h 8
 obtain ⟨F,hF⟩:∃ F,F=ptrim (cs.take 8):=⟨_,rfl⟩
 rw [← hF] at F9 lF tF
 have HFe:=Lib.hid hF.symm
 clear h hF
 go_enter Tryz.func9,Tryz.ntmps9
 go_wp2_with fail
 refine (awake16_any _).mono ?_
 rintro e w1 ⟨rfl,hb1⟩
 replace Hi:=Lib.hid (Hi.out.below hb1)
 have Hb:=Lib.hid hb1
 clear hb1
 go_wp2_with fail
 refine (short_any _ _ _ 8 _ _ Hi.out (by omega) hlm).mono ?_
 rintro e w2 ⟨Af,lf,cf,rfl,h2f,hb2⟩
 rw [HFe.out] at h2f
 have hlf:lf≤8:=by have:=h2f.length;omega
 have HP:=Lib.hid h2f
 replace Hb:=Lib.hid (Hb.out.trans (hb2.mono Hb.out.size))
 clear hb2 h2f Hi
 go_wp2_with fail
 refine (degree_any _ _ _ _ _ (HP.out.at_ ikN) F9.cp.fit.smp (by omega)).mono ?_
 rintro e w3 ⟨rfl,hb3⟩
 replace HP:=Lib.hid (HP.out.below ikN hb3)
 replace Hb:=Lib.hid (Hb.out.trans (hb3.mono Hb.out.size))
 clear hb3
 obtain ⟨D,hD⟩:∃ D,D=((plen F:Nat):Int)-1:=⟨_,rfl⟩
 rw [← hD]
 by_cases h0:plen F=0
 ·have b1:decide (D<0)=true:=decide_eq_true (by omega)
  clear hD h0
  go_wp2_with fail
  go_ret
  exact ⟨rfl,Hb.out⟩
 have b1:decide (D<0)=false:=decide_eq_false (by omega)
 obtain ⟨hgl,hga⟩:=gapl_roots F9 h0
 have hn9:=proots_le9 F9
 have hna:=proots_len F9 h0
 obtain ⟨m,hm⟩:∃ m,m=(proots F).length:=⟨_,rfl⟩
 rw [← hm] at hn9 hna
 obtain ⟨GL,hGL⟩:∃ G,G=gapl (proots F):=⟨_,rfl⟩
 rw [← hGL] at hgl hga
 have hgl2:GL.length=m+1:=by omega
 have HGA:=Lib.hid hga
 have HGL:=Lib.hid hGL
 have HNA:=Lib.hid hna
 clear hD h0 hga hGL hgl hm hna
 go_wp2_with fail
 refine (all_q ikN _ _ _ F _ HP.out F9 (by omega)).mono ?_
 rintro e w4 ⟨rfl,hb4⟩
 rw [← HNA.out]
 replace HP:=Lib.hid (HP.out.below ikN hb4)
 replace Hb:=Lib.hid (Hb.out.trans (hb4.mono Hb.out.size))
 clear hb4
 go_wp2_with fail
 refine (roots_any ikN _ _ _ F _ HP.out F9.cp.fit.smp (fun _=>F9.q) (fun h=>SqF.of9 F9 h) (by omega)).mono ?_
 rintro e w5 ⟨⟨A3,l3,c3,rfl,h3⟩,hb5⟩
 have hl3:l3≤9:=by rw [← h3.length];exact proots_le9 F9
 have HR:=Lib.hid h3
 replace HP:=Lib.hid (HP.out.below ikN hb5)
 replace Hb:=Lib.hid (Hb.out.trans (hb5.mono Hb.out.size))
 clear hb5 h3
 go_wp2_with fail
 refine (gaps_any HR.out (proots_fqb F9) (by omega)).mono ?_
 rintro e w6 ⟨⟨A6,l6,c6,rfl,h6⟩,hb6⟩
 rw [← HGL.out] at h6
 obtain rfl:l6=m+1:=by rw [← h6.length];exact hgl2
 have HS:=Lib.hid h6
 replace HP:=Lib.hid (HP.out.below ikN hb6)
 replace Hb:=Lib.hid (Hb.out.trans (hb6.mono Hb.out.size))
 have g1:(((m+1:Nat):Int) != (m:Int)+1)=false:=by simp
 have i1:IntKind.i64.wrap ((m:Int)+1)=(m:Int)+1:=IntWalk.i64_in _ (by omega)
 clear hb6 h6 HR hl3
 obtain ⟨m1,hm1⟩:∃ m1,m1=m+1:=⟨_,rfl⟩
 rw [← hm1] at HS g1 ⊢
 have HM:=Lib.hid hm1
 clear hm1
 go_wp2_with fail
 obtain ⟨wo,hwo⟩:∃ wo,wo=w6:=⟨_,rfl⟩
 rw [← hwo] at HP HS Hb ⊢
 clear hwo
 go_loopw [6] (fun s6 wr=>∃ k:Nat,k≤m+1∧s6=.int .i64 (k:Int)∧Below wo.heap.size wo wr) (fun s6 _=>m+1-(intOf s6).toNat)
 case atStart=>exact ⟨0,Nat.zero_le _,rfl,Bel.go⟩
 case round =>
  obtain ⟨k,hk,rfl,hbw⟩:=hrel
  have HPr:=Lib.hid (HP.out.below ikN hbw)
  have Hbw:=Lib.hid hbw
  by_cases hlt:k≤m
  ·have b2:decide ((k:Int)≤(m:Int))=true:=decide_eq_true (by omega)
   have ka:(k:Int)<(m1:Int):=by have:=HM.out;omega
   have i2:IntKind.i64.wrap ((k:Int)+1)=(k:Int)+1:=IntWalk.i64_in _ (by omega)
   obtain ⟨b,o,n,A1,l1,c1,B,m2,d,rfl,hb0,e0,e1,e2,z1,z2⟩:=(HS.out.belowr hbw).getr (k:=k) (by have:=HM.out;omega)
   obtain ⟨fg,ng,bg⟩:=HGA.out k (by omega)
   obtain ⟨g,hg⟩:∃ g,g=GL.getD k ⟨0,1⟩:=⟨_,rfl⟩
   rw [← hg] at z1 z2 fg ng bg
   have Z:=Lib.hid (And.intro z1 z2)
   have pg:=F9.cp.at (z:=g.z) (q:=g.q) (by omega) fg.z fg.q
   have NG:=Lib.hid (show g.sgn F≠0 by rw [sgn_pt fg.p];exact ng)
   have BG:=Lib.hid bg
   clear z1 z2 hg ng bg
   go_wp2_with fail
   refine (signat_any ikN _ _ _ F _ _ _ _ _ _ _ _ _ _ HPr.out pg.fit (by omega) Z.out.1 Z.out.2 fg.at.u fg.at.v fg.at.pos pg.ok fg.at.fz fg.at.fq).mono ?_
   rintro e w7 ⟨he,hb7⟩
   obtain ⟨S,hS⟩:∃ S,S=g.sgn F:=⟨_,rfl⟩
   have he2:e=.returned (.int .i64 S):=by rw [hS];exact he
   subst he2
   have b3:(S == 0)=false:=by rw [beq_eq_false_iff_ne,hS];exact NG.out
   have y0:=(hb7.cell (p:=⟨b,o+k*3,none⟩) hb0).trans e0
   have y1:=(hb7.cell (p:=⟨b,o+k*3+1,none⟩) hb0).trans e1
   have y2:=(hb7.cell (p:=⟨b,o+k*3+2,none⟩) hb0).trans e2
   replace HPr:=Lib.hid (HPr.out.below ikN hb7)
   replace Z:=Lib.hid (And.intro (Z.out.1.below hb7) (Z.out.2.below hb7))
   replace Hbw:=Lib.hid (Hbw.out.trans (hb7.mono Hbw.out.size))
   clear hb7 he hS e0 e1 e2 hb0 hbw
   go_wp2_with fail
   refine (below_any _ _ _ F _ _ _ _ _ _ _ _ _ _ HPr.out (by omega) F9 Z.out.1 Z.out.2 fg.at fg.z fg.q).mono ?_
   rintro e w8 ⟨rfl,hb8⟩
   rw [BG.out]
   have b4:((k:Int) != (k:Int))=false:=by simp
   replace Hbw:=Lib.hid (Hbw.out.trans (hb8.mono Hbw.out.size))
   clear hb8 Z HPr y0 y1 y2
   go_wp2_with fail
   go_roundw
   case rel=>exact ⟨k+1,by omega,by go_num,Hbw.out⟩
   case measure=>simp [intOf];omega
  ·have b2:decide ((k:Int)≤(m:Int))=false:=decide_eq_false (by omega)
   go_wp2_with fail
   go_ret
   exact ⟨rfl,Hb.out.trans (Hbw.out.mono Hb.out.size)⟩
end Go.Proofs.YtppggpfcdgilmaaGreat
namespace Go.Proofs.YtppggpfcdgilmaaGreat
open Go.ChangeShapes Go.WideShapes Go.ChangeAt Go.RowKit
set_option maxRecDepth 100000 in
theorem gaps_lifted (os:Os) (started:os.Started) (H:Type) (enc:TypeId×Value→H) :
 ReturnsInHanded {} Tryz.checked os 9 .any (Rows.isolateGapsSpec.pre6 enc Tryz.prog Tryz.f9 Rows.isolateGapsRow.domain false) (Rows.isolateGapsSpec.post enc Tryz.prog Tryz.f9 false true false false):=by
 refine returnsInHanded_of_change (C:=Tryz.checked) Tryz.own started (by kernel_rfl) Tryz.func9
  (ChangeSpec.witness6 (enc:=enc) (C:=Tryz.checked) false ⟨#[],#[.slice none 0 0],[]⟩ 8 (by kernel_rfl) (by kernel_rfl) (by kernel_rfl) (by kernel_rfl)) ?_
 intro W base args ds gs before hval0 hW hcnd _
 exact lifted_i16 _ Tryz.f9 Tryz.params9 rfl enc _ rfl (fun _=>rfl) (fun A len cap p w h hl=>law_gaps A len cap p w h hl) W args ds gs before hval0 hW
theorem isolateGaps_holds:Rows.IsolateGapsSaid :=
 OpenClaim.holds_of_wide 9 Tryz.f9 rfl rfl rfl rfl rfl rfl rfl ⟨rfl,rfl,rfl,rfl,rfl⟩ rfl rfl rfl rfl rfl (by kernel_rfl) Tryz.func9 (by kernel_rfl)
  (of_decide_eq_true (by kernel_rfl)) (by unfold Func.isWrapper;first | (rw [if_pos (by decide +kernel)];kernel_rfl) | (rw [if_neg (by decide +kernel)];exact ⟨rfl,rfl⟩))
  (fun os started H enc _=>gaps_lifted os started H enc)
#print axioms isolateGaps_holds
end Go.Proofs.YtppggpfcdgilmaaGreat
