/- Jumps, ends and numbers of roots: Tarski's sums, half-open intervals, the ends of the line. Plain: no program. -/
import Derived.Test.YtpeiiomjnjemjaaGreatGti
import Derived.Test.YtpeiiomjnjemjaaGreatDer
namespace Go.Proofs.YtpeiiomjnjemjaaGreat
structure Pt where
 L:Rat->Prop
 ne:∃ q,L q
 bd:∃ q,¬ L q
 dn:∀ q r,L q->r<q->L r
 op:∀ q,L q->∃ r,q<r/\L r
theorem Pt.ext {x y:Pt} (h:∀ q,x.L q↔y.L q):x=y:=by
 obtain ⟨L,_,_,_,_⟩:=x
 obtain ⟨M,_,_,_,_⟩:=y
 have:L=M:=funext fun q=>propext (h q)
 subst this
 rfl
theorem Pt.nlt {x:Pt} {q r:Rat} (h:x.L q) (h':¬ x.L r):q<r:=by
 by_cases h3:q<r
 ·exact h3
 ·exfalso
  by_cases h4:r=q
  ·exact h' (h4 ▸ h)
  ·exact h' (x.dn q r h (by grind))
def Pt.U (x:Pt) (q:Rat):Prop:=∃ r,r<q/\¬ x.L r
theorem Pt.U.nL {x:Pt} {q:Rat} (h:x.U q):¬ x.L q:=fun h1=>by
 obtain ⟨r,h2,h3⟩:=h
 exact h3 (x.dn q r h1 h2)
theorem Pt.up {x:Pt} {q r:Rat} (h:¬ x.L q) (h1:q<r):x.U r:=⟨q,h1,h⟩
theorem Pt.U.le {x:Pt} {q r:Rat} (h:x.U q) (h1:q<=r):x.U r:=by
 obtain ⟨s,h2,h3⟩:=h
 exact ⟨s,by grind,h3⟩
theorem Pt.Lle {x:Pt} {q r:Rat} (h:x.L q) (h1:r<=q):x.L r:=by
 by_cases h2:r=q
 ·exact h2 ▸ h
 ·exact x.dn q r h (by grind)
theorem Pt.U.op {x:Pt} {q:Rat} (h:x.U q):∃ r,r<q/\x.U r:=by
 obtain ⟨s,h2,h3⟩:=h
 exact ⟨(s+q) / 2,by grind,s,by grind,h3⟩
theorem Pt.lu {x:Pt} {q r:Rat} (h:x.L q) (h':x.U r):q<r:=Pt.nlt h h'.nL
def Pt.lt (x y:Pt):Prop:=∃ q,¬ x.L q/\y.L q
instance instLTPt:LT Pt:=⟨Pt.lt⟩
theorem Pt.lt_sep {x y:Pt} (h:x<y):∃ q,x.U q/\y.L q:=by
 obtain ⟨q,h1,h2⟩:=h
 obtain ⟨r,h3,h4⟩:=y.op q h2
 exact ⟨r,⟨q,h3,h1⟩,h4⟩
theorem Pt.tri (x y:Pt):x<y∨x=y∨y<x:=by
 by_cases h1:x<y
 ·exact .inl h1
 ·by_cases h2:y<x
  ·exact .inr (.inr h2)
  ·refine .inr (.inl (Pt.ext fun q=>⟨fun h=>?_,fun h=>?_⟩))
   ·exact Classical.byContradiction fun h3=>h2 ⟨q,h3,h⟩
   ·exact Classical.byContradiction fun h3=>h1 ⟨q,h3,h⟩
theorem Pt.irr (x:Pt):¬ x<x:=fun ⟨_,h1,h2⟩=>h1 h2
theorem Pt.lt_trans {x y z:Pt} (h:x<y) (h':y<z):x<z:=by
 obtain ⟨q,h1,h2⟩:=h
 obtain ⟨r,h3,h4⟩:=h'
 exact ⟨q,h1,z.dn r q h4 (Pt.nlt h2 h3)⟩
theorem Pt.asym {x y:Pt} (h:x<y):¬ y<x:=fun h'=>Pt.irr x (Pt.lt_trans h h')
def Pt.of (q:Rat):Pt:=⟨fun r=>r<q,⟨q-1,by grind⟩,⟨q,by grind⟩,fun a b h h'=>by grind,fun a h=>⟨(a+q) / 2,by grind,by grind⟩⟩
theorem Pt.of_L {q r:Rat}:(Pt.of q).L r↔r<q:=Iff.rfl
theorem Pt.of_U {q r:Rat}:(Pt.of q).U r↔q<r:=by
 refine ⟨fun ⟨s,h,h1⟩=>?_,fun h=>⟨q,h,fun h1=>by rw[Pt.of_L] at h1;grind⟩⟩
 rw[Pt.of_L] at h1
 grind
theorem Pt.lt_of {x:Pt} {q:Rat}:x<Pt.of q↔x.U q:=by
 refine ⟨fun ⟨r,h,h1⟩=>⟨r,h1,h⟩,fun ⟨r,h,h1⟩=>⟨r,h1,h⟩⟩
theorem Pt.of_lt {x:Pt} {q:Rat}:Pt.of q<x↔x.L q:=by
 refine ⟨fun ⟨r,h,h1⟩=>?_,fun h=>?_⟩
 ·rw[Pt.of_L] at h
  exact Pt.Lle h1 (by grind)
 ·exact ⟨q,by rw[Pt.of_L];grind,h⟩
theorem Pt.of_lt_of {q r:Rat}:Pt.of q<Pt.of r↔q<r:=by rw[Pt.of_lt,Pt.of_L]
def Nb (x:Pt) (l u:Rat):Prop:=x.L l/\x.U u
theorem Nb.some {x:Pt} {l u:Rat} (h:Nb x l u):∃ q,l<q/\q<u:=by
 have:=Pt.lu h.1 h.2
 exact ⟨(l+u) / 2,by grind,by grind⟩
theorem Nb.in2 {x:Pt} {l u l' u':Rat} (h:Nb x l u) (h':Nb x l' u'):∃ a b,Nb x a b/\l<=a/\l'<=a/\b<=u/\b<=u':=by
 have hl:∃ a,x.L a/\l<=a/\l'<=a:=by
  by_cases c:l<=l'
  ·exact ⟨l',h'.1,c,by grind⟩
  ·exact ⟨l,h.1,by grind,by grind⟩
 have hu:∃ b,x.U b/\b<=u/\b<=u':=by
  by_cases c:u<=u'
  ·exact ⟨u,h.2,by grind,c⟩
  ·exact ⟨u',h'.2,by grind,by grind⟩
 obtain ⟨a,h1,h2,h3⟩:=hl
 obtain ⟨b,h4,h5,h6⟩:=hu
 exact ⟨a,b,⟨h1,h4⟩,h2,h3,h5,h6⟩
theorem Rat.arch (a b:Rat) (h:0<b):∃ n:Nat,a<=b*n:=by
 refine ⟨(a / b).ceil.toNat,?_⟩
 have h1:a / b<=((a / b).ceil:Rat):=Rat.le_ceil
 have h2:((a / b).ceil:Rat)<=(((a / b).ceil.toNat:Nat):Rat):=by
  have:(a / b).ceil<=(((a / b).ceil.toNat:Nat):Int):=by omega
  have h3:=Rat.intCast_le_intCast.2 this
  exact h3
 have h3:a / b<=(((a / b).ceil.toNat:Nat):Rat):=by grind
 have h4:=Rat.mul_le_mul_of_nonneg_left h3 (by grind:(0:Rat)<=b)
 have h5:b*(a / b)=a:=by grind
 grind
theorem Pt.near (x:Pt) (e:Rat) (he:0<e):∃ l u,Nb x l u/\u-l<=e:=by
 obtain ⟨l,hl⟩:=x.ne
 obtain ⟨u,hu⟩:=x.bd
 obtain ⟨n,hn⟩:=Rat.arch (u-l) (e / 2) (by grind)
 have hN:∃ m:Nat,¬ x.L (l+e / 2*m):=⟨n,fun h=>hu (Pt.Lle h (by grind))⟩
 have key:∀ m:Nat,¬ x.L (l+e / 2*m)->∃ k:Nat,x.L (l+e / 2*k)/\¬ x.L (l+e / 2*(k+1:Nat)):=by
  intro m
  induction m with
  | zero=>intro h;exact absurd (by simpa [Rat.mul_zero,Rat.add_zero] using hl) h
  | succ m ih =>
    intro h
    by_cases c:x.L (l+e / 2*m)
    ·exact ⟨m,c,h⟩
    ·exact ih c
 obtain ⟨m,hm⟩:=hN
 obtain ⟨k,h1,h2⟩:=key m hm
 refine ⟨_,l+e / 2*(k+2:Nat),⟨h1,_,?_,h2⟩,?_⟩
 ·have:((k+2:Nat):Rat)=((k+1:Nat):Rat)+1:=by simp[Rat.natCast_add];grind
  rw[this]
  grind
 ·have:((k+2:Nat):Rat)=(k:Rat)+2:=by simp[Rat.natCast_add]
  rw[this]
  grind
def fpos (F:Rat->Rat) (x:Pt):Prop:=∃ e l u,0<e/\Nb x l u/\∀ q,l<q->q<u->e<=F q
def fsml (F:Rat->Rat) (x:Pt):Prop:=∀ e,0<e->∃ l u,Nb x l u/\∀ q,l<q->q<u->-e<=F q/\F q<=e
def fcnt (F:Rat->Rat) (x:Pt):Prop:=∀ e,0<e->∃ l u,Nb x l u/\∀ q r,l<q->q<u->l<r->r<u->F q-F r<=e
def fneg (F:Rat->Rat) (x:Pt):Prop:=fpos (fun q=>-F q) x
theorem fpos.not_neg {F:Rat->Rat} {x:Pt} (h:fpos F x):¬ fneg F x:=by
 intro h'
 obtain ⟨e,l,u,he,hn,h1⟩:=h
 obtain ⟨e',l',u',he',hn',h1'⟩:=h'
 obtain ⟨a,b,hab,h2,h3,h4,h5⟩:=hn.in2 hn'
 obtain ⟨q,h6,h7⟩:=hab.some
 have h8:=h1 q (by grind) (by grind)
 have h9:=h1' q (by grind) (by grind)
 dsimp only at h9
 grind
theorem fpos.not_sml {F:Rat->Rat} {x:Pt} (h:fpos F x):¬ fsml F x:=by
 intro h'
 obtain ⟨e,l,u,he,hn,h1⟩:=h
 obtain ⟨l',u',hn',h1'⟩:=h' (e / 2) (by grind)
 obtain ⟨a,b,hab,h2,h3,h4,h5⟩:=hn.in2 hn'
 obtain ⟨q,h6,h7⟩:=hab.some
 have h8:=h1 q (by grind) (by grind)
 have h9:=h1' q (by grind) (by grind)
 grind
theorem fcnt.neg {F:Rat->Rat} {x:Pt} (h:fcnt F x):fcnt (fun q=>-F q) x:=by
 intro e he
 obtain ⟨l,u,hn,h1⟩:=h e he
 refine ⟨l,u,hn,fun q r a b c d=>?_⟩
 have:=h1 r q c d a b
 grind
theorem fsml.neg {F:Rat->Rat} {x:Pt} (h:fsml F x):fsml (fun q=>-F q) x:=by
 intro e he
 obtain ⟨l,u,hn,h1⟩:=h e he
 refine ⟨l,u,hn,fun q a b=>?_⟩
 have:=h1 q a b
 grind
theorem fcnt.tri {F:Rat->Rat} {x:Pt} (h:fcnt F x):fpos F x∨Go.Proofs.YtpeiiomjnjemjaaGreat.fneg F x∨fsml F x:=by
 by_cases hs:fsml F x
 ·exact .inr (.inr hs)
 ·have:∃ e,0<e/\∀ l u,Nb x l u->∃ q,l<q/\q<u/\¬ (-e<=F q/\F q<=e):=by
   refine Classical.byContradiction fun hc=>hs fun e he=>?_
   refine Classical.byContradiction fun hd=>hc ⟨e,he,fun l u hn=>?_⟩
   refine Classical.byContradiction fun hf=>hd ⟨l,u,hn,fun q h1 h2=>?_⟩
   exact Classical.byContradiction fun hg=>hf ⟨q,h1,h2,hg⟩
  obtain ⟨e,he,h1⟩:=this
  obtain ⟨l,u,hn,h2⟩:=h (e / 2) (by grind)
  obtain ⟨q,h3,h4,h5⟩:=h1 l u hn
  by_cases c:F q<=e
  ·refine .inr (.inl ⟨e / 2,l,u,by grind,hn,fun r h6 h7=>?_⟩)
   have:=h2 r q h6 h7 h3 h4
   grind
  ·refine .inl ⟨e / 2,l,u,by grind,hn,fun r h6 h7=>?_⟩
   have:=h2 q r h3 h4 h6 h7
   grind
theorem fpos.add_sml {F G:Rat->Rat} {x:Pt} (h:fpos F x) (h':fsml G x):fpos (fun q=>F q+G q) x:=by
 obtain ⟨e,l,u,he,hn,h1⟩:=h
 obtain ⟨l',u',hn',h1'⟩:=h' (e / 2) (by grind)
 obtain ⟨a,b,hab,h2,h3,h4,h5⟩:=hn.in2 hn'
 refine ⟨e / 2,a,b,by grind,hab,fun q h6 h7=>?_⟩
 have h8:=h1 q (by grind) (by grind)
 have h9:=h1' q (by grind) (by grind)
 grind
theorem fpos.add {F G:Rat->Rat} {x:Pt} (h:fpos F x) (h':fpos G x):fpos (fun q=>F q+G q) x:=by
 obtain ⟨e,l,u,he,hn,h1⟩:=h
 obtain ⟨e',l',u',he',hn',h1'⟩:=h'
 obtain ⟨a,b,hab,h2,h3,h4,h5⟩:=hn.in2 hn'
 refine ⟨e,a,b,by grind,hab,fun q h6 h7=>?_⟩
 have h8:=h1 q (by grind) (by grind)
 have h9:=h1' q (by grind) (by grind)
 grind
theorem fpos.mul {F G:Rat->Rat} {x:Pt} (h:fpos F x) (h':fpos G x):fpos (fun q=>F q*G q) x:=by
 obtain ⟨e,l,u,he,hn,h1⟩:=h
 obtain ⟨e',l',u',he',hn',h1'⟩:=h'
 obtain ⟨a,b,hab,h2,h3,h4,h5⟩:=hn.in2 hn'
 refine ⟨e*e',a,b,Rat.mul_pos he he',hab,fun q h6 h7=>?_⟩
 have h8:=h1 q (by grind) (by grind)
 have h9:=h1' q (by grind) (by grind)
 have h10:=Rat.mul_le_mul_of_nonneg_right h8 (by grind:0<=e')
 have h11:=Rat.mul_le_mul_of_nonneg_left h9 (by grind:0<=F q)
 dsimp only
 grind
theorem fsml.add {F G:Rat->Rat} {x:Pt} (h:fsml F x) (h':fsml G x):fsml (fun q=>F q+G q) x:=by
 intro e he
 obtain ⟨l,u,hn,h1⟩:=h (e / 2) (by grind)
 obtain ⟨l',u',hn',h1'⟩:=h' (e / 2) (by grind)
 obtain ⟨a,b,hab,h2,h3,h4,h5⟩:=hn.in2 hn'
 refine ⟨a,b,hab,fun q h6 h7=>?_⟩
 have h8:=h1 q (by grind) (by grind)
 have h9:=h1' q (by grind) (by grind)
 grind
def fbnd (F:Rat->Rat) (x:Pt):Prop:=∃ k l u,0<k/\Nb x l u/\∀ q,l<q->q<u->-k<=F q/\F q<=k
theorem fcnt.bnd {F:Rat->Rat} {x:Pt} (h:fcnt F x):fbnd F x:=by
 obtain ⟨l,u,hn,h1⟩:=h 1 (by grind)
 obtain ⟨q,h2,h3⟩:=hn.some
 by_cases c:0<=F q
 ·refine ⟨F q+1,l,u,by grind,hn,fun r h4 h5=>?_⟩
  have h6:=h1 q r h2 h3 h4 h5
  have h7:=h1 r q h4 h5 h2 h3
  grind
 ·refine ⟨1-F q,l,u,by grind,hn,fun r h4 h5=>?_⟩
  have h6:=h1 q r h2 h3 h4 h5
  have h7:=h1 r q h4 h5 h2 h3
  grind
theorem rmul_bd {a b e k:Rat} (h:-e<=a) (h1:a<=e) (h2:-k<=b) (h3:b<=k):-(e*k)<=a*b/\a*b<=e*k:=by
 have he:0<=e:=by grind
 have ha:=Rat.mul_nonneg (by grind:0<=e-a) (by grind:0<=k+b)
 have hb:=Rat.mul_nonneg (by grind:0<=e+a) (by grind:0<=k-b)
 have hc:=Rat.mul_nonneg (by grind:0<=e-a) (by grind:0<=k-b)
 have hd:=Rat.mul_nonneg (by grind:0<=e+a) (by grind:0<=k+b)
 constructor<;>grind
theorem fsml.mul {F G:Rat->Rat} {x:Pt} (h:fsml F x) (h':fbnd G x):fsml (fun q=>F q*G q) x:=by
 obtain ⟨k,l,u,hk,hn,h1⟩:=h'
 intro e he
 have hek:0<e / k:=by
  rw[Rat.div_def]
  exact Rat.mul_pos he (Rat.inv_pos.2 hk)
 obtain ⟨l',u',hn',h1'⟩:=h (e / k) hek
 obtain ⟨a,b,hab,h2,h3,h4,h5⟩:=hn.in2 hn'
 refine ⟨a,b,hab,fun q h6 h7=>?_⟩
 have h8:=h1 q (by grind) (by grind)
 have h9:=h1' q (by grind) (by grind)
 have h10:=rmul_bd h9.1 h9.2 h8.1 h8.2
 have h11:e / k*k=e:=by grind
 rw[h11] at h10
 exact h10
def Lp (F:Rat->Rat):Prop:=∀ M,0<M->∃ K,0<K/\∀ q r,-M<=r->r<=q->q<=M->-(K*(q-r))<=F q-F r/\F q-F r<=K*(q-r)
theorem Lp.bd {F:Rat->Rat} (h:Lp F) (M:Rat) (hM:0<M):∃ B,0<B/\∀ q,-M<=q->q<=M->-B<=F q/\F q<=B:=by
 obtain ⟨K,hK,h1⟩:=h M hM
 have hp:0<K*(2*M):=Rat.mul_pos hK (by grind)
 have key:∀ q,-M<=q->q<=M->-(K*(2*M))<=F q-F (-M)/\F q-F (-M)<=K*(2*M):=by
  intro q h2 h3
  have h4:=h1 q (-M) (by grind) h2 h3
  have h5:=Rat.mul_le_mul_of_nonneg_left (by grind:q - -M<=2*M) (by grind:0<=K)
  constructor<;>grind
 by_cases c:0<=F (-M)
 ·refine ⟨K*(2*M)+F (-M),by grind,fun q h2 h3=>?_⟩
  have:=key q h2 h3
  grind
 ·refine ⟨K*(2*M)-F (-M),by grind,fun q h2 h3=>?_⟩
  have:=key q h2 h3
  grind
theorem Lp.const (c:Rat):Lp fun _=>c:=by
 intro M hM
 refine ⟨1,by grind,fun q r h1 h2 h3=>?_⟩
 dsimp only
 constructor<;>grind
theorem Lp.id:Lp fun q=>q:=by
 intro M hM
 refine ⟨1,by grind,fun q r h1 h2 h3=>?_⟩
 dsimp only
 constructor<;>grind
theorem Lp.add {F G:Rat->Rat} (h:Lp F) (h':Lp G):Lp fun q=>F q+G q:=by
 intro M hM
 obtain ⟨K,hK,h1⟩:=h M hM
 obtain ⟨K',hK',h1'⟩:=h' M hM
 refine ⟨K+K',by grind,fun q r h2 h3 h4=>?_⟩
 have h5:=h1 q r h2 h3 h4
 have h6:=h1' q r h2 h3 h4
 dsimp only
 constructor<;>grind
theorem Lp.mul {F G:Rat->Rat} (h:Lp F) (h':Lp G):Lp fun q=>F q*G q:=by
 intro M hM
 obtain ⟨K,hK,h1⟩:=h M hM
 obtain ⟨K',hK',h1'⟩:=h' M hM
 obtain ⟨B,hB,h2⟩:=h.bd M hM
 obtain ⟨B',hB',h2'⟩:=h'.bd M hM
 refine ⟨K*B'+K'*B,by have:=Rat.mul_pos hK hB';have:=Rat.mul_pos hK' hB;grind,fun q r h3 h4 h5=>?_⟩
 have h6:=h1 q r h3 h4 h5
 have h7:=h1' q r h3 h4 h5
 have h8:=h2 r h3 (by grind)
 have h9:=h2' q (by grind) h5
 have h10:=rmul_bd h6.1 h6.2 h9.1 h9.2
 have h11:=rmul_bd h7.1 h7.2 h8.1 h8.2
 have e:F q*G q-F r*G r=(F q-F r)*G q+(G q-G r)*F r:=by grind
 dsimp only
 rw[e]
 constructor<;>grind
theorem Lp.cnt {F:Rat->Rat} (h:Lp F) (x:Pt):fcnt F x:=by
 obtain ⟨l,hl⟩:=x.ne
 obtain ⟨u,hu⟩:=x.bd
 obtain ⟨M,hM,hM1,hM2⟩:∃ M:Rat,0<M/\-M<=l/\u+1<=M:=by
  have hlu:=Pt.nlt hl hu
  by_cases c:0<=l
  ·exact ⟨u+1,by grind,by grind,by grind⟩
  ·by_cases c2:u+1<=-l
   ·exact ⟨-l,by grind,by grind,by grind⟩
   ·exact ⟨u+1,by grind,by grind,by grind⟩
 obtain ⟨K,hK,h1⟩:=h M hM
 intro e he
 have hek:0<e / K:=by
  rw[Rat.div_def]
  exact Rat.mul_pos he (Rat.inv_pos.2 hK)
 obtain ⟨l',u',hn,h2⟩:=x.near (e / K) hek
 obtain ⟨a,b,hab,h3,h4,h5,h6⟩:=hn.in2 ⟨hl,Pt.up hu (by grind:u<u+1)⟩
 refine ⟨a,b,hab,fun q r h7 h8 h9 h10=>?_⟩
 have h11:e / K*K=e:=by grind
 by_cases c:r<=q
 ·have h12:=h1 q r (by grind) c (by grind)
  have h13:=Rat.mul_le_mul_of_nonneg_left (by grind:q-r<=e / K) (by grind:0<=K)
  grind
 ·have h12:=h1 r q (by grind) (by grind) (by grind)
  have h13:=Rat.mul_le_mul_of_nonneg_left (by grind:r-q<=e / K) (by grind:0<=K)
  grind
open Classical in
noncomputable def sgf (F:Rat->Rat) (x:Pt):Int:=if fpos F x then 1 else if fneg F x then -1 else 0
theorem fpos.sgf {F:Rat->Rat} {x:Pt} (h:fpos F x):sgf F x=1:=if_pos h
theorem fneg.sgf {F:Rat->Rat} {x:Pt} (h:Go.Proofs.YtpeiiomjnjemjaaGreat.fneg F x):sgf F x=-1:=by
 unfold Go.Proofs.YtpeiiomjnjemjaaGreat.sgf
 rw[if_neg fun h1=>h1.not_neg h,if_pos h]
theorem fsml.sgf {F:Rat->Rat} {x:Pt} (h:fsml F x):sgf F x=0:=by
 unfold Go.Proofs.YtpeiiomjnjemjaaGreat.sgf
 rw[if_neg fun h1=>h1.not_sml h,if_neg fun (h1:Go.Proofs.YtpeiiomjnjemjaaGreat.fneg F x)=>fpos.not_sml h1 h.neg]
theorem sgf_pos {F:Rat->Rat} {x:Pt} (h:sgf F x=1):fpos F x:=by
 unfold sgf at h
 split at h
 ·assumption
 ·split at h<;>omega
theorem sgf_neg {F:Rat->Rat} {x:Pt} (h:sgf F x=-1):fneg F x:=by
 unfold sgf at h
 split at h
 ·omega
 ·split at h
  ·assumption
  ·omega
theorem sgf_sml {F:Rat->Rat} {x:Pt} (hF:Lp F) (h:sgf F x=0):fsml F x:=by
 rcases (hF.cnt x).tri with h1 | h1 | h1
 ·have:=h1.sgf;omega
 ·have:=h1.sgf;omega
 ·exact h1
theorem sgf_or (F:Rat->Rat) (x:Pt):sgf F x=1∨sgf F x=-1∨sgf F x=0:=by
 unfold sgf
 split
 ·exact .inl rfl
 ·split
  ·exact .inr (.inl rfl)
  ·exact .inr (.inr rfl)
theorem sgf_minus {F:Rat->Rat} (hF:Lp F) (x:Pt):sgf (fun q=>-F q) x=- sgf F x:=by
 rcases (hF.cnt x).tri with h | h | h
 ·have h1:fneg (fun q=>-F q) x:=by
   show fpos (fun q=>- -F q) x
   simpa only [Rat.neg_neg] using h
  rw[h.sgf,h1.sgf]
 ·rw[h.sgf,fpos.sgf h]
  rfl
 ·rw[h.sgf,h.neg.sgf]
  rfl
theorem sgf_mul {F G:Rat->Rat} (hF:Lp F) (hG:Lp G) (x:Pt):sgf (fun q=>F q*G q) x=sgf F x*sgf G x:=by
 have flip1:fneg F x->fpos G x->fneg (fun q=>F q*G q) x:=by
  intro h h'
  have:=fpos.mul h h'
  show fpos (fun q=>-(F q*G q)) x
  simpa only [Rat.neg_mul] using this
 rcases (hF.cnt x).tri with h | h | h
 ·rcases (hG.cnt x).tri with h' | h' | h'
  ·rw[h.sgf,h'.sgf,(h.mul h').sgf]
   rfl
  ·have:fneg (fun q=>F q*G q) x:=by
    have:=fpos.mul h h'
    show fpos (fun q=>-(F q*G q)) x
    simpa only [Rat.mul_neg] using this
   rw[h.sgf,h'.sgf,this.sgf]
   rfl
  ·have:=h'.mul (hF.cnt x).bnd
   have e:(fun q=>F q*G q)=fun q=>G q*F q:=funext fun q=>Rat.mul_comm _ _
   rw[e,this.sgf,h'.sgf,Int.mul_zero]
 ·rcases (hG.cnt x).tri with h' | h' | h'
  ·rw[h.sgf,h'.sgf,(flip1 h h').sgf]
   rfl
  ·have:fpos (fun q=>F q*G q) x:=by
    have:=fpos.mul h h'
    simpa only [Rat.neg_mul,Rat.mul_neg,Rat.neg_neg] using this
   rw[h.sgf,h'.sgf,this.sgf]
   rfl
  ·have:=h'.mul (hF.cnt x).bnd
   have e:(fun q=>F q*G q)=fun q=>G q*F q:=funext fun q=>Rat.mul_comm _ _
   rw[e,this.sgf,h'.sgf,Int.mul_zero]
 ·rw[h.sgf,(h.mul (hG.cnt x).bnd).sgf,Int.zero_mul]
theorem sgf_add0 {F G:Rat->Rat} (hF:Lp F) (hG:Lp G) {x:Pt} (h:sgf G x=0):sgf (fun q=>F q+G q) x=sgf F x:=by
 have hg:=sgf_sml hG h
 rcases (hF.cnt x).tri with h1 | h1 | h1
 ·rw[h1.sgf,(h1.add_sml hg).sgf]
 ·have:fneg (fun q=>F q+G q) x:=by
   have:=fpos.add_sml h1 hg.neg
   show fpos (fun q=>-(F q+G q)) x
   simpa only [Rat.neg_add] using this
  rw[h1.sgf,this.sgf]
 ·rw[h1.sgf,(h1.add hg).sgf]
theorem sgf_addp {F G:Rat->Rat} {x:Pt} (h:sgf F x=1) (h':sgf G x=1):sgf (fun q=>F q+G q) x=1:=((sgf_pos h).add (sgf_pos h')).sgf
theorem sgf_of {F:Rat->Rat} (hF:Lp F) (q:Rat):sgf F (Pt.of q)=if 0<F q then 1 else if F q<0 then -1 else 0:=by
 have self:∀ l u,Nb (Pt.of q) l u->l<q/\q<u:=fun l u h=>⟨Pt.of_L.1 h.1,Pt.of_U.1 h.2⟩
 rcases (hF.cnt (Pt.of q)).tri with h | h | h
 ·rw[h.sgf]
  obtain ⟨e,l,u,he,hn,h1⟩:=h
  have:=h1 q (self _ _ hn).1 (self _ _ hn).2
  rw[if_pos (by grind)]
 ·rw[h.sgf]
  obtain ⟨e,l,u,he,hn,h1⟩:=h
  have:=h1 q (self _ _ hn).1 (self _ _ hn).2
  dsimp only at this
  rw[if_neg (by grind),if_pos (by grind)]
 ·rw[h.sgf]
  have z:∀ e,0<e->-e<=F q/\F q<=e:=fun e he=>by
   obtain ⟨l,u,hn,h1⟩:=h e he
   exact h1 q (self _ _ hn).1 (self _ _ hn).2
  rw[if_neg,if_neg]
  ·intro hc
   have:=z (-F q / 2) (by grind)
   grind
  ·intro hc
   have:=z (F q / 2) (by grind)
   grind
theorem fpos.near {F:Rat->Rat} {x:Pt} (h:fpos F x):∃ l u,Nb x l u/\∀ y,Nb y l u->fpos F y:=by
 obtain ⟨e,l,u,he,hn,h1⟩:=h
 exact ⟨l,u,hn,fun y hy=>⟨e,l,u,he,hy,h1⟩⟩
theorem sgf_near {F:Rat->Rat} {x:Pt} (h:sgf F x≠0):∃ l u,Nb x l u/\∀ y,Nb y l u->sgf F y=sgf F x:=by
 rcases sgf_or F x with h1 | h1 | h1
 ·obtain ⟨l,u,hn,h2⟩:=(sgf_pos h1).near
  exact ⟨l,u,hn,fun y hy=>by rw[(h2 y hy).sgf,h1]⟩
 ·obtain ⟨l,u,hn,h2⟩:=fpos.near (sgf_neg h1)
  exact ⟨l,u,hn,fun y hy=>by rw[fneg.sgf (h2 y hy),h1]⟩
 ·exact absurd h1 h
end Go.Proofs.YtpeiiomjnjemjaaGreat
namespace Go.Proofs.YtpeiiomjnjemjaaGreat
theorem Pt.ex_between {x y:Pt} (h:x<y) {u l:Rat} (hu:x.U u) (hl:y.L l):∃ a b,a<b/\x.U a/\y.L b/\a<u/\l<b:=by
 obtain ⟨s,h1,h2⟩:=Pt.lt_sep h
 obtain ⟨b1,h3,h4⟩:=y.op s h2
 have hb:∃ b,y.L b/\s<b/\l<b:=by
  by_cases c:l<=s
  ·exact ⟨b1,h4,h3,by grind⟩
  ·obtain ⟨b2,h5,h6⟩:=y.op l hl
   exact ⟨b2,h6,by grind,h5⟩
 have ha:∃ a,x.U a/\a<s/\a<u:=by
  by_cases c:s<=u
  ·obtain ⟨a,h5,h6⟩:=h1.op
   exact ⟨a,h6,h5,by grind⟩
  ·obtain ⟨a,h5,h6⟩:=hu.op
   exact ⟨a,h6,by grind,h5⟩
 obtain ⟨b,h5,h6,h7⟩:=hb
 obtain ⟨a,h8,h9,h10⟩:=ha
 exact ⟨a,b,by grind,h8,h5,h10,h7⟩
def firstz (F:Rat->Rat) (a b:Rat) (ha:F a<0) (hab:a<b):Pt:=⟨fun r=>∃ q,r<q/\q<=b/\∀ t,a<=t->t<=q->F t<0,
 ⟨a-1,a,by grind,by grind,fun t h1 h2=>by rw[show t=a by grind];exact ha⟩,⟨b,fun ⟨q,h1,h2,_⟩=>by grind⟩,
 fun q r ⟨s,h1,h2,h3⟩ h4=>⟨s,by grind,h2,h3⟩,fun q ⟨s,h1,h2,h3⟩=>⟨(q+s) / 2,by grind,s,by grind,h2,h3⟩⟩
theorem ivt_neg {F:Rat->Rat} {x y:Pt} (h:x<y) (hx:sgf F x=-1) (hy:sgf F y=1):∃ z,x<z/\z<y/\sgf F z=0:=by
 obtain ⟨e,l,u,he,hn,h1⟩:=sgf_neg hx
 obtain ⟨e',l',u',he',hn',h1'⟩:=sgf_pos hy
 obtain ⟨a,b,hab,h2,h3,h4,h5⟩:=Pt.ex_between h hn.2 hn'.1
 have fa:F a<0:=by
  have:=h1 a (Pt.lu hn.1 h2) h4
  grind
 have fb:0<F b:=by
  have:=h1' b h5 (Pt.lu h3 hn'.2)
  grind
 refine ⟨firstz F a b fa hab,?_,?_,?_⟩
 ·obtain ⟨r,h6,h7⟩:=h2.op
  exact ⟨r,h7.nL,a,h6,by grind,fun t h8 h9=>by rw[show t=a by grind];exact fa⟩
 ·exact ⟨b,fun ⟨q,h6,h7,_⟩=>by grind,h3⟩
 ·rcases sgf_or F (firstz F a b fa hab) with hz | hz | hz
  ·exfalso
   obtain ⟨d,m,v,hd,hm,k1⟩:=sgf_pos hz
   have hav:a<v:=by
    obtain ⟨r,h6,h7⟩:=hm.2
    refine Classical.byContradiction fun hc=>h7 ⟨a,by grind,by grind,fun t h8 h9=>by rw[show t=a by grind];exact fa⟩
   have ham:a<=m:=Classical.byContradiction fun hc=>by
    have:=k1 a (by grind) hav
    grind
   obtain ⟨t,ht1,ht2⟩:=(firstz F a b fa hab).op m hm.1
   obtain ⟨q,h6,h7,h8⟩:=ht2
   have htv:t<v:=Pt.lu (x:=firstz F a b fa hab) ⟨q,h6,h7,h8⟩ hm.2
   have:=k1 t ht1 htv
   have:=h8 t (by grind) (by grind)
   grind
  ·exfalso
   obtain ⟨d,m,v,hd,hm,k1⟩:=sgf_neg hz
   obtain ⟨q0,h6,h7,h8⟩:=hm.1
   obtain ⟨r,h9,h10⟩:=hm.2
   have hbv:v<=b:=Classical.byContradiction fun hc=>by
    have:=k1 b (by grind) (by grind)
    dsimp only at this
    grind
   refine h10 ⟨(r+v) / 2,by grind,by grind,fun t h11 h12=>?_⟩
   by_cases c:t<=q0
   ·exact h8 t h11 c
   ·have:=k1 t (by grind) (by grind)
    dsimp only at this
    grind
  ·exact hz
theorem ivt {F:Rat->Rat} (hF:Lp F) {x y:Pt} (h:x<y) (hxy:sgf F x*sgf F y=-1):∃ z,x<z/\z<y/\sgf F z=0:=by
 have hm:=Lp.mul (Lp.const (-1)) hF
 have e:(fun q=>-1*F q)=fun q=>-F q:=funext fun q=>by grind
 rw[e] at hm
 rcases sgf_or F x with h1 | h1 | h1
 ·rcases sgf_or F y with h2 | h2 | h2<;>rw[h1,h2] at hxy<;>try omega
  obtain ⟨z,h3,h4,h5⟩:=ivt_neg h (by rw[sgf_minus hF,h1]) (by rw[sgf_minus hF,h2];rfl)
  rw[sgf_minus hF] at h5
  exact ⟨z,h3,h4,by omega⟩
 ·rcases sgf_or F y with h2 | h2 | h2<;>rw[h1,h2] at hxy<;>try omega
  exact ivt_neg h h1 h2
 ·rw[h1] at hxy
  omega
theorem sgf_stay {F:Rat->Rat} (hF:Lp F) {x y:Pt} (h:x<y) (h0:∀ z,x<z->z<y->sgf F z≠0) (hx:sgf F x≠0) (hy:sgf F y≠0):sgf F x=sgf F y:=by
 rcases sgf_or F x with h1 | h1 | h1<;>rcases sgf_or F y with h2 | h2 | h2<;>try omega
 ·obtain ⟨z,h3,h4,h5⟩:=ivt hF h (by rw[h1,h2];rfl)
  exact absurd h5 (h0 z h3 h4)
 ·obtain ⟨z,h3,h4,h5⟩:=ivt hF h (by rw[h1,h2];rfl)
  exact absurd h5 (h0 z h3 h4)
def Ty (F D:Rat->Rat):Prop:=∀ M,0<M->∃ K,0<K/\∀ q r,-M<=r->r<=q->q<=M->-(K*((q-r)*(q-r)))<=F q-F r-(q-r)*D r/\F q-F r-(q-r)*D r<=K*((q-r)*(q-r))
theorem Ty.const (c:Rat):Ty (fun _=>c) (fun _=>0):=by
 intro M hM
 refine ⟨1,by grind,fun q r h1 h2 h3=>?_⟩
 have:=Rat.mul_nonneg (by grind:0<=q-r) (by grind:0<=q-r)
 dsimp only
 constructor<;>grind
theorem Ty.minus {F D:Rat->Rat} (h:Ty F D):Ty (fun q=>-F q) (fun q=>-D q):=by
 intro M hM
 obtain ⟨K,hK,h1⟩:=h M hM
 refine ⟨K,hK,fun q r h2 h3 h4=>?_⟩
 have:=h1 q r h2 h3 h4
 dsimp only
 constructor<;>grind
theorem Ty.xmul {G D:Rat->Rat} (hG:Lp G) (h:Ty G D) (a:Rat):Ty (fun q=>a+q*G q) (fun q=>G q+q*D q):=by
 intro M hM
 obtain ⟨K,hK,h1⟩:=h M hM
 obtain ⟨L,hL,h2⟩:=hG M hM
 refine ⟨L+K*M,by have:=Rat.mul_pos hK hM;grind,fun q r h3 h4 h5=>?_⟩
 have h6:=h1 q r h3 h4 h5
 have h7:=h2 q r h3 h4 h5
 have e:a+q*G q-(a+r*G r)-(q-r)*(G r+r*D r)=(G q-G r)*(q-r)+(G q-G r-(q-r)*D r)*r:=by grind
 dsimp only
 rw[e]
 have h8:=rmul_bd h6.1 h6.2 (by grind:-M<=r) (by grind:r<=M)
 have h9:=Rat.mul_nonneg (by grind:0<=L*(q-r)-(G q-G r)) (by grind:0<=q-r)
 have h10:=Rat.mul_nonneg (by grind:0<=L*(q-r)+(G q-G r)) (by grind:0<=q-r)
 constructor<;>grind
theorem Ty.mono {F D:Rat->Rat} (h:Ty F D) {a b:Rat} (hab:a<=b) (hD:∀ q,a<=q->q<=b->0<=D q):F a<=F b:=by
 obtain ⟨M,hM,hM1,hM2⟩:∃ M:Rat,0<M/\-M<=a/\b<=M:=by
  by_cases c:-a<=b
  ·by_cases c2:0<b
   ·exact ⟨b,c2,by grind,by grind⟩
   ·exact ⟨1,by grind,by grind,by grind⟩
  ·by_cases c2:0 < -a
   ·exact ⟨-a,c2,by grind,by grind⟩
   ·exact ⟨1,by grind,by grind,by grind⟩
 obtain ⟨K,hK,h1⟩:=h M hM
 refine Classical.byContradiction fun hc=>?_
 have hd:0<F a-F b:=by grind
 obtain ⟨n,hn⟩:=Rat.arch (K*((b-a)*(b-a))+1) (F a-F b) hd
 have hn0:0<(n:Rat):=by
  rcases Nat.eq_zero_or_pos n with h0 | h0
  ·rw[h0] at hn
   have:=Rat.mul_nonneg (by grind:0<=b-a) (by grind:0<=b-a)
   have:=Rat.mul_nonneg (by grind:0<=K) this
   have e0:((0:Nat):Rat)=0:=rfl
   rw[e0] at hn
   grind
  ·exact Rat.natCast_pos.2 h0
 have hs:(b-a) / n*n=b-a:=Rat.div_mul_cancel (by grind)
 have hsp:0<=(b-a) / n:=by
  rw[Rat.div_def]
  exact Rat.mul_nonneg (by grind) (by have:=Rat.inv_pos.2 hn0;grind)
 have step:∀ k:Nat,k<=n->F a-K*((b-a) / n*((b-a) / n))*k<=F (a+(b-a) / n*k):=by
  intro k
  induction k with
  | zero=>intro _;have e0:((0:Nat):Rat)=0:=rfl;rw[e0,Rat.mul_zero,Rat.mul_zero,Rat.add_zero];grind
  | succ k ih =>
    intro hk
    have ih:=ih (by omega)
    have ek:((k+1:Nat):Rat)=(k:Rat)+1:=by simp[Rat.natCast_add]
    have hkn:(k:Rat)+1<=n:=by
     have:=Rat.natCast_le_natCast.2 hk
     rw[ek] at this
     exact this
    have hk0:0<=(k:Rat):=Rat.natCast_nonneg
    have p1:=Rat.mul_nonneg hsp hk0
    have p2:=Rat.mul_le_mul_of_nonneg_left hkn hsp
    have h2:=h1 (a+(b-a) / n*(k+1:Nat)) (a+(b-a) / n*k) (by grind) (by rw[ek];grind) (by rw[ek];grind)
    have h3:=hD (a+(b-a) / n*k) (by grind) (by grind)
    rw[ek] at h2 ⊢
    have e1:a+(b-a) / n*((k:Rat)+1)-(a+(b-a) / n*k)=(b-a) / n:=by grind
    rw[e1] at h2
    have h4:=Rat.mul_nonneg hsp h3
    generalize F (a+(b-a) / n*((k:Rat)+1))=X at h2 ⊢
    generalize F (a+(b-a) / n*(k:Rat))=Y at h2 ih
    generalize K*((b-a) / n*((b-a) / n))=Z at h2 ih ⊢
    generalize (b-a) / n*D (a+(b-a) / n*(k:Rat))=V at h2 h4
    grind
 have h2:=step n (Nat.le_refl n)
 have e2:a+(b-a) / n*n=b:=by grind
 rw[e2] at h2
 have h3:=Rat.mul_le_mul_of_nonneg_right (by grind:F a-F b<=K*((b-a) / n*((b-a) / n))*n) (by grind:(0:Rat)<=n)
 have e3:K*((b-a) / n*((b-a) / n))*n*n=K*((b-a)*(b-a)):=by
  have:K*((b-a) / n*((b-a) / n))*n*n=K*((b-a) / n*n*((b-a) / n*n)):=by grind
  rw[this,hs]
 rw[e3] at h3
 grind
theorem Ty.mono_lt {F D:Rat->Rat} (h:Ty F D) {a b:Rat} (hab:a<b) (hD:∀ q,a<=q->q<=b->0<D q):F a<F b:=by
 obtain ⟨M,hM,hM1,hM2⟩:∃ M:Rat,0<M/\-M<=a/\b<=M:=by
  by_cases c:-a<=b
  ·by_cases c2:0<b
   ·exact ⟨b,c2,by grind,by grind⟩
   ·exact ⟨1,by grind,by grind,by grind⟩
  ·by_cases c2:0 < -a
   ·exact ⟨-a,c2,by grind,by grind⟩
   ·exact ⟨1,by grind,by grind,by grind⟩
 obtain ⟨K,hK,h1⟩:=h M hM
 have hDa:=hD a (by grind) (by grind)
 have hKD:0<D a / (2*K):=by
  rw[Rat.div_def]
  exact Rat.mul_pos hDa (Rat.inv_pos.2 (by grind))
 obtain ⟨t,ht,ht1,ht2⟩:∃ t,0<t/\t<=D a / (2*K)/\a+t<=b:=by
  by_cases c:a+D a / (2*K)<=b
  ·exact ⟨_,hKD,by grind,c⟩
  ·exact ⟨b-a,by grind,by grind,by grind⟩
 have h2:=h1 (a+t) a hM1 (by grind) (by grind)
 have e1:a+t-a=t:=by grind
 rw[e1] at h2
 have h3:=Rat.mul_le_mul_of_nonneg_left ht1 (by grind:(0:Rat)<=K)
 have e2:K*(D a / (2*K))=D a / 2:=by
  have:=Rat.div_mul_cancel (a:=D a) (b:=2*K) (by grind)
  generalize D a / (2*K)=X at this ⊢
  grind
 rw[e2] at h3
 have h4:=Rat.mul_le_mul_of_nonneg_right h3 (by grind:0<=t)
 have h5:=Rat.mul_pos ht hDa
 have h6:=h.mono ht2 fun q h7 h8=>by have:=hD q (by grind) h8;grind
 generalize F (a+t)=X at h2 h6
 grind
theorem rise {F D:Rat->Rat} (hF:Lp F) (h:Ty F D) {x y:Pt} (hxy:x<y) (hD:∀ q,x.U q->y.L q->0<D q) (hx:sgf F x≠-1):sgf F y=1:=by
 obtain ⟨s,h1,h2⟩:=Pt.lt_sep hxy
 obtain ⟨p0,h3,h4⟩:=h1.op
 have hs:F p0<F s:=h.mono_lt h3 fun q h5 h6=>hD q (h4.le h5) (Pt.Lle h2 h6)
 have low:∀ p,x.U p->p<=p0->F p<=F p0:=fun p h5 h6=>h.mono h6 fun q h7 h8=>by
  have:=hD q (h5.le h7) (Pt.Lle h2 (by grind));grind
 have fs:0<F s:=by
  rcases sgf_or F x with hz | hz | hz
  ·obtain ⟨d,m,v,hd,hm,k1⟩:=sgf_pos hz
   obtain ⟨p,h5,h6⟩:∃ p,x.U p/\p<v/\p<=p0:=by
    by_cases c:v<=p0
    ·obtain ⟨p,h7,h8⟩:=hm.2.op
     exact ⟨p,h8,h7,by grind⟩
    ·exact ⟨p0,h4,by grind,by grind⟩
   have:=k1 p (Pt.lu hm.1 h5) h6.1
   have:=low p h5 h6.2
   grind
  ·exact absurd hz hx
  ·obtain ⟨m,v,hm,k1⟩:=sgf_sml hF hz ((F s-F p0) / 2) (by grind)
   obtain ⟨p,h5,h6⟩:∃ p,x.U p/\p<v/\p<=p0:=by
    by_cases c:v<=p0
    ·obtain ⟨p,h7,h8⟩:=hm.2.op
     exact ⟨p,h8,h7,by grind⟩
    ·exact ⟨p0,h4,by grind,by grind⟩
   have:=k1 p (Pt.lu hm.1 h5) h6.1
   have:=low p h5 h6.2
   grind
 have high:∀ p,y.L p->s<=p->F s<=F p:=fun p h5 h6=>h.mono h6 fun q h7 h8=>by
  have:=hD q (h1.le h7) (Pt.Lle h5 h8);grind
 have pick:∀ m v,Nb y m v->∃ p,m<p/\p<v/\s<=p/\y.L p:=by
  intro m v hm
  by_cases c:s<=m
  ·obtain ⟨p,h5,h6⟩:=y.op m hm.1
   exact ⟨p,h5,Pt.lu h6 hm.2,by grind,h6⟩
  ·exact ⟨s,by grind,Pt.lu h2 hm.2,by grind,h2⟩
 rcases sgf_or F y with hz | hz | hz
 ·exact hz
 ·obtain ⟨d,m,v,hd,hm,k1⟩:=sgf_neg hz
  obtain ⟨p,h5,h6,h7,h8⟩:=pick m v hm
  have:=k1 p h5 h6
  have:=high p h8 h7
  dsimp only at *
  grind
 ·obtain ⟨m,v,hm,k1⟩:=sgf_sml hF hz (F s / 2) (by grind)
  obtain ⟨p,h5,h6,h7,h8⟩:=pick m v hm
  have:=k1 p h5 h6
  have:=high p h8 h7
  grind
theorem rise_pt {F D:Rat->Rat} (hF:Lp F) (hD:Lp D) (h:Ty F D) {x y:Pt} (hxy:x<y) (hp:∀ z,x<z->z<y->sgf D z=1) (hx:sgf F x≠-1):sgf F y=1:=by
 refine rise hF h hxy (fun q h1 h2=>?_) hx
 have:=hp (Pt.of q) (Pt.lt_of.2 h1) (Pt.of_lt.2 h2)
 rw[sgf_of hD] at this
 split at this
 ·assumption
 ·split at this<;>omega
theorem rolle {F D:Rat->Rat} (hF:Lp F) (hD:Lp D) (h:Ty F D) {x y:Pt} (hxy:x<y) (hx:sgf F x=0) (hy:sgf F y=0):∃ z,x<z/\z<y/\sgf D z=0:=by
 refine Classical.byContradiction fun hc=>?_
 have hn:∀ z,x<z->z<y->sgf D z≠0:=fun z h1 h2 h3=>hc ⟨z,h1,h2,h3⟩
 obtain ⟨s,h1,h2⟩:=Pt.lt_sep hxy
 have hs1:=Pt.lt_of.2 h1
 have hs2:=Pt.of_lt.2 h2
 have all:∀ z,x<z->z<y->sgf D z=sgf D (Pt.of s):=by
  intro z h3 h4
  rcases Pt.tri z (Pt.of s) with h5 | h5 | h5
  ·exact sgf_stay hD h5 (fun t h6 h7=>hn t (Pt.lt_trans h3 h6) (Pt.lt_trans h7 hs2)) (hn z h3 h4) (hn _ hs1 hs2)
  ·rw[h5]
  ·exact (sgf_stay hD h5 (fun t h6 h7=>hn t (Pt.lt_trans hs1 h6) (Pt.lt_trans h7 h4)) (hn _ hs1 hs2) (hn z h3 h4)).symm
 rcases sgf_or D (Pt.of s) with h3 | h3 | h3
 ·have:=rise_pt hF hD h hxy (fun z h4 h5=>by rw[all z h4 h5,h3]) (by rw[hx];decide)
  omega
 ·have e:∀ G:Rat->Rat,(fun q=>-1*G q)=fun q=>-G q:=fun G=>funext fun q=>by grind
  have hFm:=Lp.mul (Lp.const (-1)) hF
  have hDm:=Lp.mul (Lp.const (-1)) hD
  rw[e] at hFm hDm
  have:=rise_pt hFm hDm h.minus hxy (fun z h4 h5=>by rw[sgf_minus hD,all z h4 h5,h3];rfl) (by rw[sgf_minus hF,hx];decide)
  rw[sgf_minus hF] at this
  omega
 ·exact hn _ hs1 hs2 h3
end Go.Proofs.YtpeiiomjnjemjaaGreat
namespace Go.Proofs.YtpeiiomjnjemjaaGreat
def pv:List Int->Rat->Rat
 | [],_=>0
 | a :: t,q=>(a:Rat)+q*pv t q
def pd:List Int->Rat->Rat
 | [],_=>0
 | _ :: t,q=>pv t q+q*pd t q
theorem lp_pv:∀ p,Lp (pv p)
 | []=>Lp.const 0
 | a :: t=>Lp.add (Lp.const (a:Rat)) (Lp.mul Lp.id (lp_pv t))
theorem lp_pd:∀ p,Lp (pd p)
 | []=>Lp.const 0
 | _ :: t=>Lp.add (lp_pv t) (Lp.mul Lp.id (lp_pd t))
theorem ty_pv:∀ p,Ty (pv p) (pd p)
 | []=>Ty.const 0
 | a :: t=>Ty.xmul (lp_pv t) (ty_pv t) (a:Rat)
theorem pv_zero:∀ (p:List Int),(∀ k,p.getD k 0=0)->∀ q,pv p q=0
 | [],_,_=>rfl
 | a :: t,h,q=>by
   have h0:a=0:=h 0
   rw[pv,pv_zero t (fun k=>h (k+1)) q,h0]
   grind
theorem pv_congr:∀ (p r:List Int),(∀ k,p.getD k 0=r.getD k 0)->∀ q,pv p q=pv r q
 | [],r,h,q=>(pv_zero r (fun k=>by rw[<- h k];simp) q).symm
 | a :: t,[],h,q=>pv_zero (a :: t) (fun k=>by rw[h k];simp) q
 | a :: t,b :: s,h,q=>by
   have h0:a=b:=h 0
   rw[pv,pv,pv_congr t s (fun k=>h (k+1)) q,h0]
theorem pv_psc (c:Int):∀ (p:List Int) (q:Rat),pv (psc c p) q=c*pv p q
 | [],q=>by show (0:Rat)=_*0;grind
 | a :: t,q=>by
   show ((c*a:Int):Rat)+q*pv (psc c t) q=c*((a:Rat)+q*pv t q)
   rw[pv_psc c t q,Rat.intCast_mul]
   grind
theorem pv_padd:∀ (p r:List Int) (q:Rat),pv (padd p r) q=pv p q+pv r q
 | [],r,q=>by
   rw[pv_congr (padd [] r) r (fun k=>by rw[padd_get];simp) q,pv]
   grind
 | a :: t,[],q=>by
   rw[pv_congr (padd (a :: t) []) (a :: t) (fun k=>by rw[padd_get];simp) q,pv,pv]
   grind
 | a :: t,b :: s,q=>by
   rw[pv_congr (padd (a :: t) (b :: s)) ((a+b) :: padd t s) (fun k=>?_) q,pv,pv_padd t s q,pv,pv,Rat.intCast_add]
   ·grind
   ·rw[padd_get]
    match k with
    | 0=>rfl
    | k+1 =>
      show t.getD k 0+s.getD k 0=(padd t s).getD k 0
      rw[padd_get]
theorem rev_cons (a:Int) (t:List Int) (x:Int):ev (a :: t) x=a+x*ev t x:=by
 unfold ev
 have h:=evn_shift (fun i=>t.getD i 0) x t.length
 have h2:=evn_add (fun i=>if i=0 then 0 else t.getD (i-1) 0) (fun i=>if i=0 then a else 0) 1 1 x (t.length+1)
 rw[h,Int.one_mul,Int.one_mul] at h2
 have h3:∀ n,evn (fun i=>if i=0 then a else 0) x (n+1)=a:=by
  intro n
  induction n with
  | zero=>simp[evn]
  | succ n ih=>rw[evn,ih];simp
 rw[h3] at h2
 show evn (fun i=>(a :: t).getD i 0) x (t.length+1)=_
 rw[evn_congr (F:=fun i=>(a :: t).getD i 0) (G:=fun i=>1*(if i=0 then 0 else t.getD (i-1) 0)+1*(if i=0 then a else 0)) x (fun i=>?_),h2]
 ·omega
 ·match i with
  | 0=>simp
  | i+1=>simp
theorem pv_polymul:∀ (p r:List Int) (q:Rat),pv (polymul p r) q=pv p q*pv r q
 | [],r,q=>by
   rw[pv_zero (polymul [] r) (fun k=>?_) q,pv]
   ·grind
   ·exact ev_inj (q:=[]) (fun x=>by rw[ev_mul,ev_nil,Int.zero_mul]) k
 | a :: t,r,q=>by
   rw[pv_congr (polymul (a :: t) r) (padd (psc a r) (0 :: polymul t r)) (ev_inj fun x=>?_) q,pv_padd,pv_psc,pv,pv_polymul t r q,pv]
   ·grind
   ·rw[ev_mul,ev_padd,ev_psc,rev_cons,rev_cons,ev_mul]
    grind
def dl:List Int->List Int
 | []=>[]
 | _ :: t=>padd t (0 :: dl t)
theorem pv_dl:∀ p q,pv (dl p) q=pd p q
 | [],q=>rfl
 | a :: t,q=>by
   rw[dl,pv_padd,pv,pv_dl t q,pd]
   grind
theorem dl_get:∀ (p:List Int) (k:Nat),(dl p).getD k 0=((k:Int)+1)*p.getD (k+1) 0
 | [],k=>by simp[dl]
 | a :: t,0=>by
   rw[dl,padd_get]
   simp
 | a :: t,k+1=>by
   rw[dl,padd_get]
   show t.getD (k+1) 0+(dl t).getD k 0=_
   rw[dl_get t k]
   show _=_*t.getD (k+1) 0
   grind
theorem pder_getD (p:List Int) (k:Nat):(pder p).getD k 0=p.getD (k+1) 0*((k:Int)+1):=by
 by_cases h:k<plen p-1
 ·exact pder_get p h
 ·rw[getD_out _ (by rw[pder_length];omega),getD_ge_plen p (k+1) (by omega),Int.zero_mul]
theorem pv_pder (p:List Int) (q:Rat):pv (pder p) q=pd p q:=by
 rw[<- pv_dl]
 exact pv_congr _ _ (fun k=>by rw[pder_getD,dl_get,Int.mul_comm]) q
theorem pd_congr (p r:List Int) (h:∀ k,p.getD k 0=r.getD k 0) (q:Rat):pd p q=pd r q:=by
 rw[<- pv_dl,<- pv_dl]
 exact pv_congr _ _ (fun k=>by rw[dl_get,dl_get,h]) q
theorem pd_psc (c:Int):∀ (p:List Int) (q:Rat),pd (psc c p) q=c*pd p q
 | [],q=>by show (0:Rat)=_*0;grind
 | a :: t,q=>by
   show pv (psc c t) q+q*pd (psc c t) q=c*(pv t q+q*pd t q)
   rw[pv_psc,pd_psc c t q]
   grind
theorem pd_padd:∀ (p r:List Int) (q:Rat),pd (padd p r) q=pd p q+pd r q:=by
 intro p r q
 rw[<- pv_dl,<- pv_dl,<- pv_dl,<- pv_padd]
 refine pv_congr _ _ (fun k=>?_) q
 rw[dl_get,padd_get,padd_get,dl_get,dl_get]
 grind
theorem pd_polymul:∀ (p r:List Int) (q:Rat),pd (polymul p r) q=pd p q*pv r q+pv p q*pd r q
 | [],r,q=>by
   rw[pd_congr (polymul [] r) [] (fun k=>?_) q,pd,pv]
   ·grind
   ·exact ev_inj (q:=[]) (fun x=>by rw[ev_mul,ev_nil,Int.zero_mul]) k
 | a :: t,r,q=>by
   rw[pd_congr (polymul (a :: t) r) (padd (psc a r) (0 :: polymul t r)) (ev_inj fun x=>?_) q,pd_padd,pd_psc,pd,pv_polymul,pd_polymul t r q,pd,pv]
   ·grind
   ·rw[ev_mul,ev_padd,ev_psc,rev_cons,rev_cons,ev_mul]
    grind
noncomputable def sgp (p:List Int) (x:Pt):Int:=sgf (pv p) x
theorem sgp_or (p:List Int) (x:Pt):sgp p x=1∨sgp p x=-1∨sgp p x=0:=sgf_or _ x
theorem sgp_congr {p r:List Int} (h:∀ k,p.getD k 0=r.getD k 0) (x:Pt):sgp p x=sgp r x:=by
 unfold sgp
 rw[show pv p=pv r from funext (pv_congr p r h)]
theorem sgp_ev {p r:List Int} (h:∀ t,ev p t=ev r t) (x:Pt):sgp p x=sgp r x:=sgp_congr (ev_inj h) x
theorem sgp_mul (p r:List Int) (x:Pt):sgp (polymul p r) x=sgp p x*sgp r x:=by
 unfold sgp
 rw[show pv (polymul p r)=fun q=>pv p q*pv r q from funext (pv_polymul p r)]
 exact sgf_mul (lp_pv p) (lp_pv r) x
theorem sgf_const (c:Rat) (x:Pt):sgf (fun _=>c) x=if 0<c then 1 else if c<0 then -1 else 0:=by
 obtain ⟨l,hl⟩:=x.ne
 obtain ⟨u,hu⟩:=x.bd
 have hn:Nb x l (u+1):=⟨hl,u,by grind,hu⟩
 split
 ·next h=>exact fpos.sgf ⟨c,l,u+1,h,hn,fun _ _ _=>by grind⟩
 ·split
  ·next h=>exact fneg.sgf ⟨-c,l,u+1,by grind,hn,fun _ _ _=>by grind⟩
  ·exact fsml.sgf fun e he=>⟨l,u+1,hn,fun _ _ _=>by constructor<;>grind⟩
theorem sgf_int (c:Int) (x:Pt):sgf (fun _=>(c:Rat)) x=sg c:=by
 rw[sgf_const]
 rcases sg_cases c with ⟨h,e⟩ | ⟨h,e⟩ | ⟨h,e⟩
 ·have:(c:Rat)<0:=by have:=Rat.intCast_lt_intCast.2 h;exact this
  rw[if_neg (by grind),if_pos this,e]
 ·subst h
  rfl
 ·have:0<(c:Rat):=by have:=Rat.intCast_lt_intCast.2 h;exact this
  rw[if_pos this,e]
theorem sgp_psc (c:Int) (p:List Int) (x:Pt):sgp (psc c p) x=sg c*sgp p x:=by
 unfold sgp
 rw[show pv (psc c p)=fun q=>(c:Rat)*pv p q from funext (pv_psc c p),sgf_mul (Lp.const _) (lp_pv p),sgf_int]
theorem sgp_const (c:Int) (x:Pt):sgp [c] x=sg c:=by
 unfold sgp
 rw[<- sgf_int c x]
 congr 1
 funext q
 rw[pv,pv]
 grind
theorem sgp_zero {p:List Int} (h:plen p=0) (x:Pt):sgp p x=0:=by
 rw[sgp_congr (r:=[0]) (fun k=>?_) x,sgp_const]
 ·rfl
 ·rw[getD_ge_plen p k (by omega)]
  match k with
  | 0=>rfl
  | k+1=>simp
theorem sgp_one {p:List Int} (h:plen p=1) (x:Pt):sgp p x=sg (plead p):=by
 rw[sgp_congr (r:=[plead p]) (fun k=>?_) x,sgp_const]
 match k with
 | 0=>show _=plead p;unfold plead;rw[h]
 | k+1=>rw[getD_ge_plen p _ (by omega)];simp
theorem sgp_add0 {p r:List Int} {x:Pt} (h:sgp r x=0):sgp (padd p r) x=sgp p x:=by
 unfold sgp
 rw[show pv (padd p r)=fun q=>pv p q+pv r q from funext (pv_padd p r)]
 exact sgf_add0 (lp_pv p) (lp_pv r) h
theorem sgp_near {p:List Int} {x:Pt} (h:sgp p x≠0):∃ l u,Nb x l u/\∀ y,Nb y l u->sgp p y=sgp p x:=sgf_near h
theorem sgp_stay {p:List Int} {x y:Pt} (h:x<y) (h0:∀ z,x<z->z<y->sgp p z≠0) (hx:sgp p x≠0) (hy:sgp p y≠0):sgp p x=sgp p y:=sgf_stay (lp_pv p) h h0 hx hy
theorem sgp_rolle {p:List Int} {x y:Pt} (h:x<y) (hx:sgp p x=0) (hy:sgp p y=0):∃ z,x<z/\z<y/\sgp (pder p) z=0:=by
 obtain ⟨z,h1,h2,h3⟩:=rolle (lp_pv p) (lp_pd p) (ty_pv p) h hx hy
 refine ⟨z,h1,h2,?_⟩
 unfold sgp
 rw[show pv (pder p)=pd p from funext (pv_pder p)]
 exact h3
theorem sgp_rise {p:List Int} {x y:Pt} (h:x<y) (hp:∀ z,x<z->z<y->sgp (pder p) z=1) (hx:sgp p x≠-1):sgp p y=1:=by
 refine rise_pt (lp_pv p) (lp_pd p) (ty_pv p) h (fun z h1 h2=>?_) hx
 have:=hp z h1 h2
 unfold sgp at this
 rw[show pv (pder p)=pd p from funext (pv_pder p)] at this
 exact this
theorem pder_plen {p:List Int} (h:2<=plen p):plen (pder p)=plen p-1:=by
 have:=plen_eq (pder p) (plen p-2) (by have:=plen_le (pder p);rw[pder_length] at this;omega) (by
  rw[pder_getD]
  have:=plen_lead p (plen p-1) (by omega)
  rw[show plen p-2+1=plen p-1 by omega]
  exact Int.mul_ne_zero this (by omega))
 omega
abbrev Asc (xs:List Pt):Prop:=xs.Pairwise (·<·)
theorem rolle_list {p:List Int}:∀ (xs:List Pt) (x:Pt),Asc (x :: xs)->(∀ y∈x :: xs,sgp p y=0)->∃ ys,Asc ys/\(∀ y∈ys,x<y/\sgp (pder p) y=0)/\ys.length=xs.length
 | [],x,_,_=>⟨[],List.Pairwise.nil,fun y hy=>by simp at hy,rfl⟩
 | x' :: xs,x,h,h0=>by
   obtain ⟨h1,h2⟩:=List.pairwise_cons.1 h
   obtain ⟨ys,h3,h4,h5⟩:=rolle_list xs x' h2 (fun y hy=>h0 y (List.mem_cons_of_mem _ hy))
   have hx:=h1 x' (List.mem_cons_self ..)
   obtain ⟨z,hz1,hz2,hz3⟩:=sgp_rolle hx (h0 x (List.mem_cons_self ..)) (h0 x' (List.mem_cons_of_mem _ (List.mem_cons_self ..)))
   refine ⟨z :: ys,List.pairwise_cons.2 ⟨fun y hy=>Pt.lt_trans hz2 (h4 y hy).1,h3⟩,fun y hy=>?_,by simp[h5]⟩
   rcases List.mem_cons.1 hy with rfl | hy
   ·exact ⟨hz1,hz3⟩
   ·exact ⟨Pt.lt_trans hx (h4 y hy).1,(h4 y hy).2⟩
theorem sg_ne {c:Int} (h:c≠0):sg c≠0:=by rcases sg_cases c with ⟨h,e⟩ | ⟨h,e⟩ | ⟨h,e⟩<;>omega
theorem rts_le:∀ (n:Nat) (p:List Int),plen p=n+1->∀ xs,Asc xs->(∀ x∈xs,sgp p x=0)->xs.length<=n
 | 0,p,hp,xs,_,h0=>by
   match xs with
   | []=>simp
   | x :: xs =>
     have:=h0 x (List.mem_cons_self ..)
     rw[sgp_one hp] at this
     exact absurd this (sg_ne (plead_ne (by omega)))
 | n+1,p,hp,xs,h,h0=>by
   match xs with
   | []=>simp
   | x :: xs =>
     obtain ⟨ys,h1,h2,h3⟩:=rolle_list xs x h h0
     have:=rts_le n (pder p) (by rw[pder_plen (by omega)];omega) ys h1 (fun y hy=>(h2 y hy).2)
     simp only[List.length_cons]
     omega
theorem asc_insert (x:Pt):∀ xs:List Pt,Asc xs->x ∉ xs->∃ ys,Asc ys/\(∀ y,y∈ys↔y=x∨y∈xs)/\ys.length=xs.length+1
 | [],_,_=>⟨[x],by simp,fun y=>by simp,rfl⟩
 | a :: xs,h,hx=>by
   obtain ⟨h1,h2⟩:=List.pairwise_cons.1 h
   rcases Pt.tri x a with h3 | h3 | h3
   ·refine ⟨x :: a :: xs,List.pairwise_cons.2 ⟨fun y hy=>?_,h⟩,fun y=>by simp,rfl⟩
    rcases List.mem_cons.1 hy with rfl | hy
    ·exact h3
    ·exact Pt.lt_trans h3 (h1 y hy)
   ·exact absurd (h3 ▸ List.mem_cons_self ..) hx
   ·obtain ⟨ys,h4,h5,h6⟩:=asc_insert x xs h2 (fun hm=>hx (List.mem_cons_of_mem _ hm))
    refine ⟨a :: ys,List.pairwise_cons.2 ⟨fun y hy=>?_,h4⟩,fun y=>?_,by simp[h6]⟩
    ·rcases (h5 y).1 hy with rfl | hy
     ·exact h3
     ·exact h1 y hy
    ·simp only[List.mem_cons,h5]
     constructor
     ·rintro (h | h | h)
      ·exact .inr (.inl h)
      ·exact .inl h
      ·exact .inr (.inr h)
     ·rintro (h | h | h)
      ·exact .inr (.inl h)
      ·exact .inl h
      ·exact .inr (.inr h)
theorem asc_all {P:Pt->Prop} (n:Nat) (hn:∀ xs,Asc xs->(∀ x∈xs,P x)->xs.length<=n):∃ xs,Asc xs/\∀ x,x∈xs↔P x:=by
 have key:∀ k,(∃ xs,Asc xs/\(∀ x∈xs,P x)/\xs.length+k=n)->∃ xs,Asc xs/\∀ x,x∈xs↔P x:=by
  intro k
  induction k with
  | zero =>
    rintro ⟨xs,h1,h2,h3⟩
    refine ⟨xs,h1,fun x=>⟨h2 x,fun hx=>Classical.byContradiction fun hc=>?_⟩⟩
    obtain ⟨ys,h4,h5,h6⟩:=asc_insert x xs h1 hc
    have:=hn ys h4 (fun y hy=>by
     rcases (h5 y).1 hy with rfl | hy
     ·exact hx
     ·exact h2 y hy)
    omega
  | succ k ih =>
    rintro ⟨xs,h1,h2,h3⟩
    by_cases hc:∀ x,P x->x∈xs
    ·exact ⟨xs,h1,fun x=>⟨h2 x,hc x⟩⟩
    ·obtain ⟨x,hx⟩:=Classical.not_forall.1 hc
     obtain ⟨hx,hx'⟩:=Classical.not_imp.1 hx
     obtain ⟨ys,h4,h5,h6⟩:=asc_insert x xs h1 hx'
     exact ih ⟨ys,h4,fun y hy=>by
      rcases (h5 y).1 hy with rfl | hy
      ·exact hx
      ·exact h2 y hy,by omega⟩
 exact key n ⟨[],List.Pairwise.nil,fun x hx=>by simp at hx,by simp⟩
theorem roots_ex {p:List Int} (h:plen p≠0):∃ xs,Asc xs/\∀ x,x∈xs↔sgp p x=0 :=
 asc_all (plen p-1) (fun xs h1 h2=>rts_le (plen p-1) p (by omega) xs h1 h2)
end Go.Proofs.YtpeiiomjnjemjaaGreat
namespace Go.Proofs.YtpeiiomjnjemjaaGreat
theorem pv_int:∀ (p:List Int) (t:Int),pv p (t:Rat)=((ev p t:Int):Rat)
 | [],t=>rfl
 | a :: p,t=>by rw[pv,pv_int p t,rev_cons,Rat.intCast_add,Rat.intCast_mul]
theorem ev_of_pv {p r:List Int} (h:∀ q,pv p q=pv r q) (t:Int):ev p t=ev r t:=by
 have:=h (t:Rat)
 rw[pv_int,pv_int] at this
 exact Rat.intCast_inj.1 this
theorem plen_congr {p r:List Int} (h:∀ k,p.getD k 0=r.getD k 0):plen p=plen r:=by
 have h1:plen p<=plen r:=plen_le_of fun k hk=>by rw[h,getD_ge_plen r k hk]
 have h2:plen r<=plen p:=plen_le_of fun k hk=>by rw[<- h,getD_ge_plen p k hk]
 omega
theorem mul_none {p r:List Int} (h:∀ t,ev p t*ev r t=0):plen p=0∨plen r=0:=by
 refine Classical.byContradiction fun hc=>?_
 have h1:=(plen_mul (f:=p) (g:=r) (by omega) (by omega)).1
 have h2:plen (polymul p r)=plen ([]:List Int):=plen_congr (ev_inj fun t=>by rw[ev_mul,h,ev_nil])
 rw[h1,show plen ([]:List Int)=0 from rfl] at h2
 omega
def Mlt (x:Pt):Nat->List Int->Prop
 | 0,g=>sgp g x≠0
 | m+1,g=>sgp g x=0/\Mlt x m (pder g)
def dk:Nat->List Int->List Int
 | 0,g=>g
 | m+1,g=>dk m (pder g)
theorem Mlt.uniq {x:Pt}:∀ {m n:Nat} {g:List Int},Mlt x m g->Mlt x n g->m=n
 | 0,0,_,_,_=>rfl
 | 0,n+1,_,h,h'=>absurd h'.1 h
 | m+1,0,_,h,h'=>absurd h.1 h'
 | m+1,n+1,_,h,h'=>by rw[Mlt.uniq h.2 h'.2]
theorem Mlt.ex (x:Pt):∀ (n:Nat) (g:List Int),plen g=n+1->∃ m,Mlt x m g
 | 0,g,h=>⟨0,by show sgp g x≠0;rw[sgp_one h];exact sg_ne (plead_ne (by omega))⟩
 | n+1,g,h=>by
   by_cases c:sgp g x=0
   ·obtain ⟨m,hm⟩:=Mlt.ex x n (pder g) (by rw[pder_plen (by omega)];omega)
    exact ⟨m+1,c,hm⟩
   ·exact ⟨0,c⟩
theorem Mlt.ne {x:Pt}:∀ {m:Nat} {g:List Int},Mlt x m g->plen g≠0
 | 0,g,h=>fun h0=>h (sgp_zero h0 x)
 | m+1,g,h=>fun h0=>h.2.ne (by have:=plen_le (pder g);rw[pder_length] at this;omega)
open Classical in
noncomputable def mult (x:Pt) (g:List Int):Nat:=if h:∃ m,Mlt x m g then h.choose else 0
theorem Mlt.mult {x:Pt} {m:Nat} {g:List Int} (h:Mlt x m g):mult x g=m:=by
 unfold Go.Proofs.YtpeiiomjnjemjaaGreat.mult
 have he:∃ m,Mlt x m g:=⟨m,h⟩
 rw[dif_pos he]
 exact he.choose_spec.uniq h
theorem mult_spec {g:List Int} (h:plen g≠0) (x:Pt):Mlt x (mult x g) g:=by
 obtain ⟨m,hm⟩:=Mlt.ex x (plen g-1) g (by omega)
 rw[hm.mult]
 exact hm
theorem mult_zero {g:List Int} (h:plen g≠0) {x:Pt}:mult x g=0↔sgp g x≠0:=by
 have hs:=mult_spec h x
 constructor
 ·intro h0
  rw[h0] at hs
  exact hs
 ·intro h0
  have:Mlt x 0 g:=h0
  exact this.mult
theorem mult_pder {g:List Int} (h:plen g≠0) {x:Pt} (h0:sgp g x=0):mult x g=mult x (pder g)+1/\plen (pder g)≠0:=by
 have hs:=mult_spec h x
 match hm:mult x g with
 | 0=>rw[hm] at hs;exact absurd h0 hs
 | m+1 =>
   rw[hm] at hs
   rw[hs.2.mult]
   exact ⟨rfl,hs.2.ne⟩
noncomputable def rs (x:Pt) (g:List Int):Int:=sgp (dk (mult x g) g) x
theorem rs_zero {g:List Int} {x:Pt} (h:sgp g x≠0):rs x g=sgp g x:=by
 have:Mlt x 0 g:=h
 unfold rs
 rw[this.mult]
 rfl
theorem rs_pder {g:List Int} (h:plen g≠0) {x:Pt} (h0:sgp g x=0):rs x g=rs x (pder g):=by
 unfold rs
 rw[(mult_pder h h0).1]
 rfl
theorem sgp_around {p:List Int} {x:Pt} (h:sgp p x≠0):∃ l u,Pt.of l<x/\x<Pt.of u/\∀ y,Pt.of l<y->y<Pt.of u->sgp p y=sgp p x:=by
 obtain ⟨l,u,hn,h1⟩:=sgp_near h
 exact ⟨l,u,Pt.of_lt.2 hn.1,Pt.lt_of.2 hn.2,fun y h2 h3=>h1 y ⟨Pt.of_lt.1 h2,Pt.lt_of.1 h3⟩⟩
structure Side (x:Pt) (m:Nat) (g:List Int) (l u:Rat):Prop where
 lo:Pt.of l<x
 hi:x<Pt.of u
 r:∀ y,x<y->y<Pt.of u->sgp g y=rs x g
 l:∀ y,Pt.of l<y->y<x->sgp g y=(-1)^m*rs x g
theorem sgp_fall {p:List Int} {x y:Pt} (h:x<y) (hp:∀ z,x<z->z<y->sgp (pder p) z=-1) (hx:sgp p x≠1):sgp p y=-1:=by
 have e:∀ k,(pder (psc (-1) p)).getD k 0=(psc (-1) (pder p)).getD k 0:=fun k=>by rw[pder_getD,psc_get,psc_get,pder_getD];grind
 have:=sgp_rise (p:=psc (-1) p) h (fun z h1 h2=>by rw[sgp_congr e,sgp_psc,hp z h1 h2];rfl) (by
  rw[sgp_psc,show sg (-1)=-1 from rfl]
  omega)
 rw[sgp_psc,show sg (-1)=-1 from rfl] at this
 omega
theorem pm_pow (m:Nat):((-1:Int)^m=1/\m % 2=0)∨((-1:Int)^m=-1/\m % 2=1):=by
 induction m with
 | zero=>exact .inl ⟨rfl,rfl⟩
 | succ m ih=>rw[Int.pow_succ];omega
theorem Mlt.side {x:Pt}:∀ {m:Nat} {g:List Int},Mlt x m g->(rs x g=1∨rs x g=-1)/\∃ l u,Side x m g l u
 | 0,g,h=>by
   obtain ⟨l,u,hl,hu,h1⟩:=sgp_around h
   rw[rs_zero h]
   refine ⟨by rcases sgp_or g x with e | e | e;exact .inl e;exact .inr e;exact absurd e h,l,u,hl,hu,fun y h2 h3=>?_,fun y h2 h3=>?_⟩
   ·rw[rs_zero h]
    exact h1 y (Pt.lt_trans hl h2) h3
   ·rw[rs_zero h,Int.pow_zero,Int.one_mul]
    exact h1 y h2 (Pt.lt_trans h3 hu)
 | m+1,g,h=>by
   obtain ⟨h0,l,u,hs⟩:=Mlt.side h.2
   have hr:rs x g=rs x (pder g):=rs_pder h.ne h.1
   rw[hr]
   refine ⟨h0,l,u,hs.lo,hs.hi,fun y h2 h3=>?_,fun y h2 h3=>?_⟩
   ·rw[hr]
    rcases h0 with h0 | h0
    ·rw[h0]
     exact sgp_rise h2 (fun z h4 h5=>by rw[hs.r z h4 (Pt.lt_trans h5 h3),h0]) (by rw[h.1];decide)
    ·rw[h0]
     exact sgp_fall h2 (fun z h4 h5=>by rw[hs.r z h4 (Pt.lt_trans h5 h3),h0]) (by rw[h.1];decide)
   ·rw[hr]
    have hd:∀ z,y<z->z<x->sgp (pder g) z=(-1)^m*rs x (pder g):=fun z h4 h5=>hs.l z (Pt.lt_trans h2 h4) h5
    have hc:(-1:Int)^m*rs x (pder g)=1∨(-1:Int)^m*rs x (pder g)=-1:=by
     rcases pm_pow m with ⟨e,_⟩ | ⟨e,_⟩<;>rw[e]<;>omega
    rw[Int.pow_succ,show (-1:Int)^m * -1*rs x (pder g)=-((-1:Int)^m*rs x (pder g)) by grind]
    rcases hc with hc | hc
    ·rw[hc] at hd ⊢
     refine Classical.byContradiction fun hn=>?_
     have:=sgp_rise h3 hd hn
     rw[h.1] at this
     omega
    ·rw[hc] at hd ⊢
     refine Classical.byContradiction fun hn=>?_
     have:=sgp_fall h3 hd hn
     rw[h.1] at this
     omega
theorem rs_pm {g:List Int} (h:plen g≠0) (x:Pt):rs x g=1∨rs x g=-1:=(mult_spec h x).side.1
theorem side_ex {g:List Int} (h:plen g≠0) (x:Pt):∃ l u,Side x (mult x g) g l u:=(mult_spec h x).side.2
theorem Pt.mid {x y:Pt} (h:x<y):∃ q,x<Pt.of q/\Pt.of q<y:=by
 obtain ⟨q,h1,h2⟩:=Pt.lt_sep h
 exact ⟨q,Pt.lt_of.2 h1,Pt.of_lt.2 h2⟩
theorem Pt.two_up {x a b:Pt} (ha:x<a) (hb:x<b):∃ y,x<y/\y<a/\y<b:=by
 rcases Pt.tri a b with h | h | h
 ·obtain ⟨q,h1,h2⟩:=Pt.mid ha
  exact ⟨_,h1,h2,Pt.lt_trans h2 h⟩
 ·obtain ⟨q,h1,h2⟩:=Pt.mid ha
  exact ⟨_,h1,h2,h ▸ h2⟩
 ·obtain ⟨q,h1,h2⟩:=Pt.mid hb
  exact ⟨_,h1,Pt.lt_trans h2 h,h2⟩
theorem Pt.two_lo {x a b:Pt} (ha:a<x) (hb:b<x):∃ y,y<x/\a<y/\b<y:=by
 rcases Pt.tri a b with h | h | h
 ·obtain ⟨q,h1,h2⟩:=Pt.mid hb
  exact ⟨_,h2,Pt.lt_trans h h1,h1⟩
 ·obtain ⟨q,h1,h2⟩:=Pt.mid hb
  exact ⟨_,h2,h ▸ h1,h1⟩
 ·obtain ⟨q,h1,h2⟩:=Pt.mid ha
  exact ⟨_,h2,h1,Pt.lt_trans h h1⟩
structure MU (x:Pt) (μ:List Int):Prop where
 len:2<=plen μ
 zero:sgp μ x=0
 min:∀ g,plen g≠0->plen g<plen μ->sgp g x≠0
theorem MU.ex {x:Pt} {p:List Int} (h:plen p≠0) (h0:sgp p x=0):∃ μ,MU x μ:=by
 obtain ⟨n,⟨μ,h1,h2,h3⟩,h4⟩:=least (P:=fun n=>∃ μ,plen μ=n/\plen μ≠0/\sgp μ x=0) ⟨_,p,rfl,h,h0⟩
 refine ⟨μ,?_,h3,fun g h5 h6 h7=>h4 (plen g) (by omega) ⟨g,rfl,h5,h7⟩⟩
 refine Classical.byContradiction fun hc=>?_
 have:plen μ=1:=by omega
 rw[sgp_one this] at h3
 exact sg_ne (plead_ne h2) h3
theorem rps_ev (f g:List Int) (h:1<=plen g) (x:Int):plead g^(plen f-(plen g-1))*ev f x=ev (psq f g) x*ev g x+ev (psr f g) x:=by
 rw[<- ev_psc,<- ev_trim g,<- ev_mul,<- ev_padd]
 exact ev_congr (fun k=>by rw[psc_get,padd_get,polymul_getD,ps_id f g h]) x
theorem MU.div {x:Pt} {μ:List Int} (h:MU x μ) {g:List Int} (hg:plen g≠0) (h0:sgp g x=0) :
  ∃ c q,c≠0/\(∀ t,c*ev g t=ev q t*ev μ t)/\plen q≠0/\plen q<plen g:=by
 have hl:=h.len
 have he:=rps_ev g μ (by omega)
 have hc:plead μ^(plen g-(plen μ-1))≠0:=Int.pow_ne_zero (plead_ne (by omega))
 have hr:sgp (psr g μ) x=0:=by
  have h1:∀ t,ev (psr g μ) t=ev (padd (psc (plead μ^(plen g-(plen μ-1))) g) (psc (-1) (polymul (psq g μ) μ))) t:=fun t=>by
   rw[ev_padd,ev_psc,ev_psc,ev_mul,he];omega
  rw[sgp_ev h1,sgp_add0,sgp_psc,h0,Int.mul_zero]
  rw[sgp_psc,sgp_mul,h.zero,Int.mul_zero,Int.mul_zero]
 have hr0:plen (psr g μ)=0:=Classical.byContradiction fun hn=>h.min _ hn (psr_plen g μ (by omega)) hr
 have he2:∀ t,plead μ^(plen g-(plen μ-1))*ev g t=ev (psq g μ) t*ev μ t:=fun t=>by
  rw[he,ev_congr (p:=psr g μ) (q:=[]) (fun k=>by rw[getD_ge_plen _ k (by omega)];simp),ev_nil,Int.add_zero]
 have hq0:plen (psq g μ)≠0:=fun hn=>by
  have h2:∀ t,ev (psq g μ) t=0:=fun t=>by
   rw[ev_congr (p:=psq g μ) (q:=[]) (fun k=>by rw[getD_ge_plen _ k (by omega)];simp),ev_nil]
  rcases mul_none (p:=[plead μ^(plen g-(plen μ-1))]) (r:=g) (fun t=>by rw[ev_const,he2,h2,Int.zero_mul]) with h3 | h3
  ·simp[plen,hc] at h3
  ·exact hg h3
 refine ⟨_,_,hc,he2,hq0,?_⟩
 have h3:=(plen_mul (f:=psq g μ) (g:=μ) (by omega) (by omega)).1
 have h4:=(plen_mul (f:=[plead μ^(plen g-(plen μ-1))]) (g:=g) (by simp[plen,hc]) (by omega)).1
 have h5:plen (polymul [plead μ^(plen g-(plen μ-1))] g)=plen (polymul (psq g μ) μ):=plen_congr (ev_inj fun t=>by rw[ev_mul,ev_mul,ev_const,he2])
 have h6:plen [plead μ^(plen g-(plen μ-1))]=1:=by simp[plen,hc]
 rw[h6] at h4
 omega
def Frm (x:Pt) (μ:List Int) (m:Nat) (g:List Int):Prop:=∃ c g1,c≠0/\sgp g1 x≠0/\∀ t,c*ev g t=ev μ t^m*ev g1 t
theorem MU.form {x:Pt} {μ:List Int} (h:MU x μ):∀ (n:Nat) (g:List Int),plen g≠0->plen g<=n->∃ m,Frm x μ m g
 | 0,g,h0,h1=>absurd h0 (by omega)
 | n+1,g,h0,h1=>by
   by_cases c:sgp g x=0
   ·obtain ⟨d,q,hd,he,hq,hl⟩:=h.div h0 c
    obtain ⟨m,c,g1,hc,h2,h3⟩:=MU.form h n q hq (by omega)
    refine ⟨m+1,c*d,g1,Int.mul_ne_zero hc hd,h2,fun t=>?_⟩
    rw[Int.mul_assoc,he,<- Int.mul_assoc,h3,Int.pow_succ]
    ac_rfl
   ·exact ⟨0,1,g,by decide,c,fun t=>by rw[Int.pow_zero]⟩
def ppw (μ:List Int):Nat->List Int
 | 0=>[1]
 | m+1=>polymul (ppw μ m) μ
theorem ev_ppw (μ:List Int) (t:Int):∀ m,ev (ppw μ m) t=ev μ t^m
 | 0=>by rw[ppw,ev_const,Int.pow_zero]
 | m+1=>by rw[ppw,ev_mul,ev_ppw μ t m,Int.pow_succ]
theorem pd_ppw (μ:List Int) (q:Rat):∀ m,pd (ppw μ (m+1)) q=((m:Rat)+1)*(pv (ppw μ m) q*pd μ q)
 | 0=>by
   rw[show ppw μ (0+1)=polymul [1] μ from rfl,pd_polymul,show ppw μ 0=[1] from rfl]
   have e1:pd [1] q=0:=by rw[pd,pd,pv];grind
   have e2:pv [1] q=1:=by rw[pv,pv];grind
   have e3:((0:Nat):Rat)=0:=rfl
   rw[e1,e2,e3]
   grind
 | m+1=>by
   rw[ppw,pd_polymul,pd_ppw μ q m]
   have e:pv (ppw μ (m+1)) q=pv (ppw μ m) q*pv μ q:=by rw[ppw,pv_polymul]
   rw[e]
   have e2:((m+1:Nat):Rat)=(m:Rat)+1:=by simp[Rat.natCast_add]
   rw[e2]
   grind
theorem MU.pder {x:Pt} {μ:List Int} (h:MU x μ):sgp (Go.Proofs.YtpeiiomjnjemjaaGreat.pder μ) x≠0:=by
 have:=h.len
 exact h.min _ (by rw[pder_plen h.len];omega) (by rw[pder_plen h.len];omega)
theorem Frm.pder {x:Pt} {μ:List Int} {m:Nat} {g:List Int} (hμ:MU x μ) (h:Frm x μ (m+1) g):Frm x μ m (pder g):=by
 obtain ⟨c,g1,hc,h1,h2⟩:=h
 refine ⟨c,padd (psc (m+1) (polymul (Go.Proofs.YtpeiiomjnjemjaaGreat.pder μ) g1)) (polymul μ (Go.Proofs.YtpeiiomjnjemjaaGreat.pder g1)),hc,?_,fun t=>?_⟩
 ·rw[sgp_add0 (by rw[sgp_mul,hμ.zero,Int.zero_mul]),sgp_psc,sgp_mul]
  exact Int.mul_ne_zero (sg_ne (by omega)) (Int.mul_ne_zero hμ.pder h1)
 ·have e:∀ k,(psc c g).getD k 0=(polymul (ppw μ (m+1)) g1).getD k 0:=ev_inj fun t=>by rw[ev_psc,ev_mul,ev_ppw,h2]
  have e1:=ev_of_pv (p:=psc c (Go.Proofs.YtpeiiomjnjemjaaGreat.pder g)) (r:=polymul (ppw μ m) (padd (psc (m+1) (polymul (Go.Proofs.YtpeiiomjnjemjaaGreat.pder μ) g1)) (polymul μ (Go.Proofs.YtpeiiomjnjemjaaGreat.pder g1)))) (fun q=>by
   rw[pv_psc,pv_pder,<- pd_psc,pd_congr _ _ e,pd_polymul,pd_ppw,pv_polymul,pv_padd,pv_psc,pv_polymul,pv_polymul,pv_pder,pv_pder,ppw,pv_polymul,Rat.intCast_add]
   have e2:((m:Int):Rat)=(m:Rat):=rfl
   have e3:((1:Int):Rat)=1:=rfl
   rw[e2,e3]
   grind) t
  rw[ev_psc,ev_mul,ev_ppw] at e1
  exact e1
theorem Frm.mlt {x:Pt} {μ:List Int} (hμ:MU x μ):∀ {m:Nat} {g:List Int},Frm x μ m g->Mlt x m g
 | 0,g,⟨c,g1,hc,h1,h2⟩=>by
   have:sgp (psc c g) x=sgp g1 x:=sgp_ev (fun t=>by rw[ev_psc,h2,Int.pow_zero,Int.one_mul]) x
   rw[sgp_psc] at this
   intro h0
   rw[h0,Int.mul_zero] at this
   exact h1 this.symm
 | m+1,g,h=>by
   refine ⟨?_,(h.pder hμ).mlt hμ⟩
   obtain ⟨c,g1,hc,h1,h2⟩:=h
   have:sgp (psc c g) x=sgp (polymul μ (polymul (ppw μ m) g1)) x:=sgp_ev (fun t=>by rw[ev_psc,h2,ev_mul,ev_mul,ev_ppw,Int.pow_succ];ac_rfl) x
   rw[sgp_psc,sgp_mul,hμ.zero,Int.zero_mul] at this
   rcases Int.mul_eq_zero.1 this with h3 | h3
   ·exact absurd h3 (sg_ne hc)
   ·exact h3
theorem mult_mul {f g:List Int} (hf:plen f≠0) (hg:plen g≠0) (x:Pt):mult x (polymul f g)=mult x f+mult x g:=by
 by_cases c:sgp f x=0∨sgp g x=0
 ·have:∃ μ,MU x μ:=by
   rcases c with c | c
   ·exact MU.ex hf c
   ·exact MU.ex hg c
  obtain ⟨μ,hμ⟩:=this
  obtain ⟨m,hm⟩:=hμ.form _ f hf (Nat.le_refl _)
  obtain ⟨n,hn⟩:=hμ.form _ g hg (Nat.le_refl _)
  rw[(hm.mlt hμ).mult,(hn.mlt hμ).mult]
  obtain ⟨c,f1,hc,h1,h2⟩:=hm
  obtain ⟨d,g1,hd,h3,h4⟩:=hn
  refine (Frm.mlt hμ ⟨c*d,polymul f1 g1,Int.mul_ne_zero hc hd,by rw[sgp_mul];exact Int.mul_ne_zero h1 h3,fun t=>?_⟩).mult
  rw[ev_mul,ev_mul,Int.pow_add]
  have e:c*d*(ev f t*ev g t)=(c*ev f t)*(d*ev g t):=by ac_rfl
  rw[e,h2,h4]
  ac_rfl
 ·have h1:sgp f x≠0:=fun h=>c (.inl h)
  have h2:sgp g x≠0:=fun h=>c (.inr h)
  have h3:=(plen_mul (f:=f) (g:=g) (by omega) (by omega)).1
  rw[(mult_zero hf).2 h1,(mult_zero hg).2 h2,(mult_zero (by omega)).2]
  rw[sgp_mul]
  exact Int.mul_ne_zero h1 h2
theorem polymul_ne {f g:List Int} (hf:plen f≠0) (hg:plen g≠0):plen (polymul f g)≠0:=by
 have h3:=(plen_mul (f:=f) (g:=g) (by omega) (by omega)).1
 omega
end Go.Proofs.YtpeiiomjnjemjaaGreat
namespace Go.Proofs.YtpeiiomjnjemjaaGreat
def chg:Int->List Int->Int
 | _,[]=>0
 | l,s :: t=>if s=0 then chg l t else if s=-l then chg s t+1 else chg s t
theorem chg_zero (l:Int) (t:List Int):chg l (0 :: t)=chg l t:=by rw[chg,if_pos rfl]
def Nea:List Int->List Int->Prop
 | [],[]=>True
 | s :: S,t :: T=>(t=1∨t=-1)/\(s≠0->t=s)/\Nea S T
 | _,_=>False
def Goo:List Int->Prop
 | []=>True
 | [s]=>s≠0
 | s :: t :: S=>(t=0->∃ u R,S=u :: R/\s=-u)/\Goo (t :: S)
theorem Goo.two:∀ {s t:Int} {S:List Int},Goo (s :: t :: S)->s≠0∨t≠0
 | s,t,[],h=>.inr h.2
 | s,t,u :: S,h=>by
   by_cases c:t=0
   ·obtain ⟨u',R,h1,h2⟩:=h.1 c
    have h3:u=u':=(List.cons.inj h1).1
    rcases Goo.two h.2 with h4 | h4
    ·exact absurd c h4
    ·exact .inl (by omega)
   ·exact .inr c
theorem goo_chg:∀ (n:Nat) (S T:List Int) (s:Int),S.length<=n->(s=1∨s=-1)->Goo (s :: S)->Nea S T->chg s S=chg s T
 | _,[],[],s,_,_,_,_=>rfl
 | _,[],_ :: _,s,_,_,_,h=>absurd h (by simp[Nea])
 | _,_ :: _,[],s,_,_,_,h=>absurd h (by simp[Nea])
 | 0,t :: S,t' :: T,s,hn,hs,hg,h=>by simp at hn
 | n+1,t :: S,t' :: T,s,hn,hs,hg,h=>by
   obtain ⟨h1,h2,h3⟩:=h
   simp only[List.length_cons] at hn
   by_cases c:t=0
   ·obtain ⟨u,R,h4,h5⟩:=hg.1 c
    subst h4
    match T,h3 with
    | u' :: T,h3 =>
      obtain ⟨h6,h7,h8⟩:=h3
      have hu:u'=u:=h7 (by omega)
      subst hu
      subst c
      have ih:=goo_chg n R T u' (by simp only[List.length_cons] at hn;omega) h6 hg.2.2 h8
      rw[chg_zero,chg,chg,if_neg (by omega),if_pos (by omega),if_neg (by omega)]
      by_cases c2:t'=-s
      ·rw[if_pos c2,chg,if_neg (by omega),if_neg (by omega),ih]
      ·rw[if_neg c2,chg,if_neg (by omega),if_pos (by omega),ih]
   ·have ht:=h2 c
    subst ht
    have ih:=goo_chg n S T t' (by omega) h1 hg.2 h3
    rw[chg,chg,if_neg c,if_neg c,ih]
theorem goo_head {S T:List Int} {s:Int} (hs:s=1∨s=-1) (hg:Goo (s :: S)) (h:Nea S T):chg 0 (s :: S)=chg 0 (s :: T):=by
 rw[chg,chg,if_neg (by omega),if_neg (by omega),goo_chg S.length S T s (Nat.le_refl _) hs hg h,if_neg (by omega),if_neg (by omega)]
def opq (t s:Int):Int:=if t*s=-1 then 1 else 0
theorem goo_zero {S T:List Int} {t s:Int} (ht:t=1∨t=-1) (hs:s=1∨s=-1) (hg:Goo (s :: S)) (h:Nea S T):chg 0 (t :: s :: T)=opq t s+chg 0 (s :: S):=by
 have e:=goo_chg S.length S T s (Nat.le_refl _) hs hg h
 rcases ht with rfl | rfl<;>rcases hs with rfl | rfl<;>simp[chg,e,opq]<;>omega
theorem chg_flip:∀ (S:List Int) (l:Int),chg (-l) (S.map (-1*·))=chg l S
 | [],_=>rfl
 | s :: S,l=>by
   have ih:=chg_flip S
   have e:-1*s=-s:=by omega
   rw[List.map_cons,chg,chg,e,ih s,ih l]
   by_cases c:s=0
   ·rw[if_pos c,if_pos (by omega)]
   ·rw[if_neg c,if_neg (by omega)]
    by_cases c2:s=-l
    ·rw[if_pos c2,if_pos (by omega)]
    ·rw[if_neg c2,if_neg (by omega)]
theorem chg_pm {c:Int} (hc:c=1∨c=-1) (S:List Int):chg 0 (S.map (c*·))=chg 0 S:=by
 rcases hc with rfl | rfl
 ·congr 1
  induction S with
  | nil=>rfl
  | cons s S ih=>rw[List.map_cons,ih,Int.one_mul]
 ·have:=chg_flip S 0
  rw[Int.neg_zero] at this
  exact this
def Rel (a b e:List Int):Prop:=∃ c q d,0<c/\0<d/\∀ t,c*ev a t=ev q t*ev b t-d*ev e t
def SCh:List (List Int)->Prop
 | []=>True
 | [a]=>plen a≠0
 | [a,b]=>plen a≠0/\plen b≠0/\Rel a b []
 | a :: b :: e :: r=>plen a≠0/\Rel a b e/\SCh (b :: e :: r)
theorem dk_padd:∀ (m:Nat) (f g:List Int) (x:Pt),sgp (dk m (padd f g)) x=sgp (padd (dk m f) (dk m g)) x
 | 0,f,g,x=>rfl
 | m+1,f,g,x=>by
   have e:∀ (n:Nat) (p r:List Int),(∀ k,p.getD k 0=r.getD k 0)->∀ k,(dk n p).getD k 0=(dk n r).getD k 0:=by
    intro n
    induction n with
    | zero=>intro p r h;exact h
    | succ n ih=>intro p r h;exact ih _ _ (fun k=>by rw[pder_getD,pder_getD,h])
   show sgp (dk m (pder (padd f g))) x=sgp (padd (dk m (pder f)) (dk m (pder g))) x
   rw[<- dk_padd m,sgp_congr (e m _ _ fun k=>?_)]
   rw[pder_getD,padd_get,padd_get,pder_getD,pder_getD]
   grind
theorem dk_congr:∀ (n:Nat) {p r:List Int},(∀ k,p.getD k 0=r.getD k 0)->∀ k,(dk n p).getD k 0=(dk n r).getD k 0
 | 0,_,_,h=>h
 | n+1,p,r,h=>dk_congr n (p:=pder p) (r:=pder r) fun k=>by rw[pder_getD,pder_getD,h]
theorem dk_psc:∀ (m:Nat) (c:Int) (f:List Int) (k:Nat),(dk m (psc c f)).getD k 0=(psc c (dk m f)).getD k 0
 | 0,_,_,_=>rfl
 | m+1,c,f,k=>by
   show (dk m (pder (psc c f))).getD k 0=(psc c (dk m (pder f))).getD k 0
   rw[<- dk_psc m,dk_congr m (fun k=>?_)]
   rw[pder_getD,psc_get,psc_get,pder_getD]
   grind
def Van (x:Pt) (n:Nat) (g:List Int):Prop:=∀ i,i<n->sgp (dk i g) x=0
theorem Mlt.dk_lt {x:Pt}:∀ {m:Nat} {g:List Int},Mlt x m g->∀ i,i<m->sgp (dk i g) x=0
 | 0,_,_,i,hi=>absurd hi (by omega)
 | _+1,g,h,0,_=>h.1
 | m+1,g,h,i+1,hi=>h.2.dk_lt i (by omega)
theorem Mlt.dk_eq {x:Pt}:∀ {m:Nat} {g:List Int},Mlt x m g->sgp (dk m g) x≠0
 | 0,_,h=>h
 | _+1,_,h=>h.2.dk_eq
theorem van_iff {x:Pt} {g:List Int} (h:plen g≠0) {n:Nat}:Van x n g↔n<=mult x g:=by
 have hm:=mult_spec h x
 constructor
 ·intro hv
  refine Classical.byContradiction fun hc=>hm.dk_eq (hv _ (by omega))
 ·intro hn i hi
  exact hm.dk_lt i (by omega)
theorem van_nil {x:Pt} {n:Nat} {g:List Int} (h:plen g=0):Van x n g:=by
 intro i _
 have:∀ i (g:List Int),plen g=0->sgp (dk i g) x=0:=by
  intro i
  induction i with
  | zero=>intro g h;exact sgp_zero h x
  | succ i ih=>intro g h;exact ih _ (by have:=plen_le (pder g);rw[pder_length] at this;omega)
 exact this i g h
theorem rmul_zero {f g:List Int} (h:plen f=0∨plen g=0):plen (polymul f g)=0:=by
 have z:∀ p:List Int,plen p=0->∀ t,ev p t=0:=fun p h t=>by
  rw[ev_congr (p:=p) (q:=[]) (fun k=>by rw[getD_ge_plen _ k (by omega)];simp),ev_nil]
 have h2:plen (polymul f g)=plen ([]:List Int):=plen_congr (ev_inj fun t=>by
  rw[ev_mul,ev_nil]
  rcases h with h | h
  ·rw[z f h,Int.zero_mul]
  ·rw[z g h,Int.mul_zero])
 rw[h2]
 rfl
theorem Van.add {x:Pt} {n:Nat} {f g:List Int} (h:Van x n f) (h':Van x n g):Van x n (padd f g):=fun i hi=>by
 rw[dk_padd,sgp_add0 (h' i hi),h i hi]
theorem Van.psc {x:Pt} {n:Nat} {f:List Int} (h:Van x n f) (c:Int):Van x n (psc c f):=fun i hi=>by
 rw[sgp_congr (dk_psc i c f),sgp_psc,h i hi,Int.mul_zero]
theorem Van.mul {x:Pt} {n:Nat} {f:List Int} (h:Van x n f) (q:List Int):Van x n (polymul q f):=by
 by_cases c:plen f=0
 ·exact van_nil (rmul_zero (.inr c))
 ·by_cases c2:plen q=0
  ·exact van_nil (rmul_zero (.inl c2))
  ·refine (van_iff (polymul_ne c2 c)).2 ?_
   rw[mult_mul c2 c]
   have:=(van_iff c).1 h
   omega
theorem Van.ev {x:Pt} {n:Nat} {f g:List Int} (h:Van x n f) (e:∀ t,ev g t=ev f t):Van x n g:=fun i hi=>by
 rw[sgp_congr (dk_congr i (ev_inj e)),h i hi]
theorem Van.of_psc {x:Pt} {n:Nat} {f:List Int} {c:Int} (hc:c≠0) (h:Van x n (Go.Proofs.YtpeiiomjnjemjaaGreat.psc c f)):Van x n f:=fun i hi=>by
 have:=h i hi
 rw[sgp_congr (dk_psc i c f),sgp_psc] at this
 rcases Int.mul_eq_zero.1 this with h1 | h1
 ·exact absurd h1 (sg_ne hc)
 ·exact h1
theorem Rel.van {a b e:List Int} (h:Rel a b e) {x:Pt} {n:Nat} (hb:Van x n b) (he:Van x n e):Van x n a:=by
 obtain ⟨c,q,d,hc,hd,h1⟩:=h
 refine Van.of_psc (c:=c) (by omega) (Van.ev ((hb.mul q).add (he.psc (-d))) fun t=>?_)
 rw[ev_psc,h1,ev_padd,ev_mul,ev_psc]
 grind
theorem Rel.opp {a b e:List Int} (h:Rel a b e) {x:Pt} {m:Nat} (hb:Van x (m+1) b):sgp (dk m a) x=- sgp (dk m e) x:=by
 obtain ⟨c,q,d,hc,hd,h1⟩:=h
 have hv:Van x (m+1) (padd (psc c a) (psc d e)):=Van.ev (hb.mul q) fun t=>by
  rw[ev_padd,ev_psc,ev_psc,h1,ev_mul]
  omega
 have h2:=hv m (by omega)
 rw[dk_padd] at h2
 have ha:sgp (dk m (psc c a)) x=sgp (dk m a) x:=by rw[sgp_congr (dk_psc m c a),sgp_psc,sg_pos hc,Int.one_mul]
 have he:sgp (dk m (psc d e)) x=sgp (dk m e) x:=by rw[sgp_congr (dk_psc m d e),sgp_psc,sg_pos hd,Int.one_mul]
 have comm:∀ p r:List Int,sgp (padd p r) x=sgp (padd r p) x:=fun p r=>sgp_congr (fun k=>by rw[padd_get,padd_get,Int.add_comm]) x
 have addp:∀ p r:List Int,sgp p x=1->sgp r x=1->sgp (padd p r) x=1:=fun p r h3 h4=>by
  unfold sgp
  rw[show pv (padd p r)=fun q=>pv p q+pv r q from funext (pv_padd p r)]
  exact sgf_addp h3 h4
 have addn:∀ p r:List Int,sgp p x=-1->sgp r x=-1->sgp (padd p r) x=-1:=fun p r h3 h4=>by
  have:=addp (psc (-1) p) (psc (-1) r) (by rw[sgp_psc,h3];rfl) (by rw[sgp_psc,h4];rfl)
  rw[sgp_congr (r:=psc (-1) (padd p r)) (fun k=>by rw[padd_get,psc_get,psc_get,psc_get,padd_get];grind),sgp_psc,show sg (-1)=-1 from rfl] at this
  omega
 rw[<- ha,<- he]
 rcases sgp_or (dk m (psc d e)) x with h5 | h5 | h5
 ·rcases sgp_or (dk m (psc c a)) x with h6 | h6 | h6
  ·rw[addp _ _ h6 h5] at h2;omega
  ·omega
  ·rw[comm,sgp_add0 h6,h5] at h2;omega
 ·rcases sgp_or (dk m (psc c a)) x with h6 | h6 | h6
  ·omega
  ·rw[addn _ _ h6 h5] at h2;omega
  ·rw[comm,sgp_add0 h6,h5] at h2;omega
 ·rw[sgp_add0 h5] at h2
  omega
def lastp:List (List Int)->List Int
 | []=>[]
 | [a]=>a
 | _ :: b :: r=>lastp (b :: r)
theorem SCh.ne:∀ {fs:List (List Int)},SCh fs->∀ f∈fs,plen f≠0
 | [],_,f,hf=>by simp at hf
 | [a],h,f,hf=>by rw[List.mem_singleton.1 hf];exact h
 | [a,b],h,f,hf=>by
   simp only[List.mem_cons,List.not_mem_nil,or_false] at hf
   rcases hf with rfl | rfl
   ·exact h.1
   ·exact h.2.1
 | a :: b :: e :: r,h,f,hf=>by
   rcases List.mem_cons.1 hf with rfl | hf
   ·exact h.1
   ·exact SCh.ne h.2.2 f hf
theorem SCh.tail:∀ {a:List Int} {fs:List (List Int)},SCh (a :: fs)->SCh fs
 | _,[],_=>trivial
 | _,[_],h=>h.2.1
 | _,_ :: _ :: _,h=>h.2.2
theorem SCh.van {x:Pt} {m:Nat}:∀ {fs:List (List Int)},SCh fs->mult x (lastp fs)=m->(∀ f∈fs,Van x m f)/\Goo (fs.map fun f=>sgp (dk m f) x)
 | [],_,_=>⟨fun f hf=>by simp at hf,trivial⟩
 | [a],h,hm=>by
   have h0:plen a≠0:=h
   have hl:=mult_spec h0 x
   rw[show mult x a=m from hm] at hl
   refine ⟨fun f hf=>?_,hl.dk_eq⟩
   rw[List.mem_singleton.1 hf]
   exact (van_iff h0).2 (by rw[show mult x a=m from hm];omega)
 | [a,b],h,hm=>by
   obtain ⟨h1,h2⟩:=SCh.van (fs:=[b]) h.2.1 hm
   have hb:=h1 b (List.mem_singleton.2 rfl)
   refine ⟨fun f hf=>?_,fun h3=>absurd h3 h2,h2⟩
   simp only[List.mem_cons,List.not_mem_nil,or_false] at hf
   rcases hf with rfl | rfl
   ·exact h.2.2.van hb (van_nil rfl)
   ·exact hb
 | a :: b :: e :: r,h,hm=>by
   obtain ⟨h1,h2⟩:=SCh.van (fs:=b :: e :: r) h.2.2 hm
   have hb:=h1 b (List.mem_cons_self ..)
   have he:=h1 e (List.mem_cons_of_mem _ (List.mem_cons_self ..))
   refine ⟨fun f hf=>?_,fun h3=>⟨_,_,rfl,?_⟩,h2⟩
   ·rcases List.mem_cons.1 hf with rfl | hf
    ·exact h.2.1.van hb he
    ·exact h1 f hf
   ·refine h.2.1.opp fun i hi=>?_
    by_cases c:i=m
    ·rw[c];exact h3
    ·exact hb i (by omega)
noncomputable def chv (fs:List (List Int)) (x:Pt):Int:=chg 0 (fs.map fun f=>sgp f x)
noncomputable def jmp (x:Pt) (f g:List Int):Int:=if mult x g<mult x f/\(mult x f+mult x g) % 2=1 then rs x f*rs x g else 0
noncomputable def jmph (x:Pt) (f:List Int):List (List Int)->Int
 | []=>0
 | g :: _=>jmp x f g
theorem side_all {x:Pt}:∀ (fs:List (List Int)),(∀ f∈fs,plen f≠0)->∃ l u,Pt.of l<x/\x<Pt.of u/\∀ f∈fs,Side x (mult x f) f l u
 | [],_=>by
   obtain ⟨l,hl⟩:=x.ne
   obtain ⟨u,hu⟩:=x.bd
   exact ⟨l,u+1,Pt.of_lt.2 hl,Pt.lt_of.2 (Pt.up hu (by grind)),fun f hf=>by simp at hf⟩
 | f :: fs,h=>by
   obtain ⟨l,u,h1,h2,h3⟩:=side_all fs fun g hg=>h g (List.mem_cons_of_mem _ hg)
   obtain ⟨l',u',s⟩:=side_ex (h f (List.mem_cons_self ..)) x
   have hL:∃ L,Pt.of L<x/\l<=L/\l'<=L:=by
    by_cases c:l<=l'
    ·exact ⟨l',s.lo,c,by grind⟩
    ·exact ⟨l,h1,by grind,by grind⟩
   have hU:∃ U,x<Pt.of U/\U<=u/\U<=u':=by
    by_cases c:u<=u'
    ·exact ⟨u,h2,by grind,c⟩
    ·exact ⟨u',s.hi,by grind,by grind⟩
   obtain ⟨L,h4,h5,h6⟩:=hL
   obtain ⟨U,h7,h8,h9⟩:=hU
   have lo:∀ {a b:Rat} {y:Pt},a<=b->Pt.of b<y->Pt.of a<y:=fun h h'=>Pt.of_lt.2 (Pt.Lle (Pt.of_lt.1 h') h)
   have up:∀ {a b:Rat} {y:Pt},b<=a->y<Pt.of b->y<Pt.of a:=fun h h'=>Pt.lt_of.2 ((Pt.lt_of.1 h').le h)
   have key:∀ (g:List Int) (a b:Rat),Side x (mult x g) g a b->a<=L->U<=b->Side x (mult x g) g L U:=fun g a b sg ha hb =>
    ⟨h4,h7,fun y hy hy'=>sg.r y hy (up hb hy'),fun y hy hy'=>sg.l y (lo ha hy) hy'⟩
   refine ⟨L,U,h4,h7,fun g hg=>?_⟩
   rcases List.mem_cons.1 hg with rfl | hg
   ·exact key _ _ _ s h6 h9
   ·exact key _ _ _ (h3 g hg) h5 h8
theorem mlt_rs {x:Pt} {m:Nat} {g:List Int} (h:mult x g=m):rs x g=sgp (dk m g) x:=by unfold rs;rw[h]
theorem nea_side {x:Pt} {m:Nat} {l u:Rat}:∀ {fs:List (List Int)},(∀ f∈fs,plen f≠0)->(∀ f∈fs,Van x m f)->(∀ f∈fs,Side x (mult x f) f l u) ->
  (∀ y,x<y->y<Pt.of u->Nea (fs.map fun f=>sgp (dk m f) x) (fs.map fun f=>sgp f y)) /\
  (∀ y,Pt.of l<y->y<x->Nea (fs.map fun f=>sgp (dk m f) x) ((fs.map fun f=>sgp f y).map ((-1)^m*·)))
 | [],_,_,_=>⟨fun _ _ _=>trivial,fun _ _ _=>trivial⟩
 | f :: fs,h0,hv,hs=>by
   obtain ⟨h1,h2⟩:=nea_side (fs:=fs) (fun g hg=>h0 g (List.mem_cons_of_mem _ hg)) (fun g hg=>hv g (List.mem_cons_of_mem _ hg)) (fun g hg=>hs g (List.mem_cons_of_mem _ hg))
   have hf0:=h0 f (List.mem_cons_self ..)
   have hf:=hs f (List.mem_cons_self ..)
   have hm:=(van_iff hf0).1 (hv f (List.mem_cons_self ..))
   have hr:=rs_pm hf0 x
   have hd:sgp (dk m f) x≠0->mult x f=m:=fun hd=>by
    refine Classical.byContradiction fun hc=>hd ((van_iff hf0 (n:=m+1)).2 (by omega) m (by omega))
   have hp:=pm_pow m
   refine ⟨fun y h3 h4=>⟨?_,fun h5=>?_,h1 y h3 h4⟩,fun y h3 h4=>⟨?_,fun h5=>?_,h2 y h3 h4⟩⟩
   ·show sgp f y=1∨sgp f y=-1
    rw[hf.r y h3 h4];exact hr
   ·show sgp f y=sgp (dk m f) x
    rw[hf.r y h3 h4,mlt_rs (hd h5)]
   ·show (-1)^m*sgp f y=1∨(-1)^m*sgp f y=-1
    rw[hf.l y h3 h4]
    rcases hp with ⟨e,_⟩ | ⟨e,_⟩<;>rcases pm_pow (mult x f) with ⟨e',_⟩ | ⟨e',_⟩<;>rw[e,e']<;>omega
   ·show (-1)^m*sgp f y=sgp (dk m f) x
    rw[hf.l y h3 h4,hd h5,mlt_rs (hd h5)]
    rcases hp with ⟨e,_⟩ | ⟨e,_⟩<;>rw[e]<;>omega
theorem chv_local {f:List Int} {gs:List (List Int)} (h:SCh (f :: gs)) (x:Pt):∃ l u,Pt.of l<x/\x<Pt.of u /\
  (∀ y z,Pt.of l<y->y<x->x<z->z<Pt.of u->chv (f :: gs) y-chv (f :: gs) z=jmph x f gs) /\
  (sgp f x≠0->(∀ y,Pt.of l<y->y<x->chv (f :: gs) y=chv (f :: gs) x)/\(∀ y,x<y->y<Pt.of u->chv (f :: gs) y=chv (f :: gs) x)):=by
 obtain ⟨hv,hg⟩:=h.van (x:=x) rfl
 obtain ⟨l,u,hl,hu,hs⟩:=side_all (x:=x) (f :: gs) h.ne
 have hf0:=h.ne f (List.mem_cons_self ..)
 have hrf:=rs_pm hf0 x
 have hmf:=(van_iff hf0).1 (hv f (List.mem_cons_self ..))
 obtain ⟨nr,nl⟩:=nea_side h.ne hv hs
 generalize hM:mult x (lastp (f :: gs))=m at *
 have hpm:((-1:Int)^m=1∨(-1:Int)^m=-1):=by rcases pm_pow m with ⟨e,_⟩ | ⟨e,_⟩;exact .inl e;exact .inr e
 have lft:∀ y,chg 0 (((f :: gs).map fun f=>sgp f y).map ((-1)^m*·))=chv (f :: gs) y:=fun y=>chg_pm hpm _
 by_cases c:sgp (dk m f) x=0
 · -- f is 0 to a higher order
   have hlt:m<mult x f:=by
    refine Classical.byContradiction fun hc=>?_
    have:=mlt_rs (x:=x) (m:=m) (g:=f) (by omega)
    omega
   match gs,h,hv,hg,hs,nr,nl,lft with
   | [],h,hv,hg,hs,nr,nl,lft=>exact absurd c hg
   | g :: gs,h,hv,hg,hs,nr,nl,lft =>
     have hg0:=h.ne g (List.mem_cons_of_mem _ (List.mem_cons_self ..))
     have hc2:sgp (dk m g) x≠0:=by
      rcases hg.two with h1 | h1
      ·exact absurd c h1
      ·exact h1
     have hmg:mult x g=m:=by
      have h1:=(van_iff hg0).1 (hv g (List.mem_cons_of_mem _ (List.mem_cons_self ..)))
      refine Classical.byContradiction fun hc=>hc2 ((van_iff hg0 (n:=m+1)).2 (by omega) m (by omega))
     have hrg:rs x g=sgp (dk m g) x:=mlt_rs hmg
     have hrg1:=rs_pm hg0 x
     refine ⟨l,u,hl,hu,fun y z h1 h2 h3 h4=>?_,fun h1=>?_⟩
     ·have ny:=nl y h1 h2
      have nz:=nr z h3 h4
      have ey:=lft y
      obtain ⟨ny1,_,ny2,ny3,ny4⟩:=ny
      obtain ⟨nz1,_,nz2,nz3,nz4⟩:=nz
      have zy:=goo_zero ny1 (by rw[hrg] at hrg1;exact hrg1) hg.2 ny4
      have zz:=goo_zero nz1 (by rw[hrg] at hrg1;exact hrg1) hg.2 nz4
      have e1:sgp g z=sgp (dk m g) x:=nz3 hc2
      have e2:(-1)^m*sgp g y=sgp (dk m g) x:=ny3 hc2
      have e3:chv (f :: g :: gs) z=chg 0 (sgp f z :: sgp (dk m g) x :: (gs.map fun f=>sgp f z)):=by
       unfold chv
       rw[List.map_cons,List.map_cons,e1]
      have e4:chv (f :: g :: gs) y=chg 0 (((-1)^m*sgp f y) :: sgp (dk m g) x :: ((gs.map fun f=>sgp f y).map ((-1)^m*·))):=by
       rw[<- ey,List.map_cons,List.map_cons,List.map_cons,List.map_cons,e2]
      rw[e3,e4]
      have zy':=zy
      have zz':=zz
      dsimp only at zy' zz'
      rw[zy',zz']
      have f1:=(hs f (List.mem_cons_self ..)).r z h3 h4
      have f2:=(hs f (List.mem_cons_self ..)).l y h1 h2
      rw[f1,f2,<- hrg]
      show _=jmp x f g
      unfold jmp
      rw[hmg]
      rcases pm_pow m with ⟨p1,p2⟩ | ⟨p1,p2⟩<;>rcases pm_pow (mult x f) with ⟨q1,q2⟩ | ⟨q1,q2⟩<;>rw[p1,q1]
      ·rw[if_neg (c:=m<_/\_) (by omega)]
       rcases hrf with r1 | r1<;>rcases hrg1 with r2 | r2<;>rw[r1,r2]<;>simp[opq]<;>omega
      ·rw[if_pos (c:=m<_/\_) ⟨hlt,by omega⟩]
       rcases hrf with r1 | r1<;>rcases hrg1 with r2 | r2<;>rw[r1,r2]<;>simp[opq]<;>omega
      ·rw[if_pos (c:=m<_/\_) ⟨hlt,by omega⟩]
       rcases hrf with r1 | r1<;>rcases hrg1 with r2 | r2<;>rw[r1,r2]<;>simp[opq]<;>omega
      ·rw[if_neg (c:=m<_/\_) (by omega)]
       rcases hrf with r1 | r1<;>rcases hrg1 with r2 | r2<;>rw[r1,r2]<;>simp[opq]<;>omega
     ·exact absurd ((mult_zero hf0).2 h1) (by omega)
 ·have hmf2:mult x f=m:=by
   refine Classical.byContradiction fun hc=>c ((van_iff hf0 (n:=m+1)).2 (by omega) m (by omega))
  have hh:sgp (dk m f) x=1∨sgp (dk m f) x=-1:=by
   rcases sgp_or (dk m f) x with h1 | h1 | h1
   ·exact .inl h1
   ·exact .inr h1
   ·exact absurd h1 c
  have ez:∀ z,x<z->z<Pt.of u->chv (f :: gs) z=chg 0 ((f :: gs).map fun f=>sgp (dk m f) x):=fun z h3 h4=>by
   obtain ⟨_,nz2,nz3⟩:=nr z h3 h4
   have e1:sgp f z=sgp (dk m f) x:=nz2 c
   unfold chv
   rw[List.map_cons,List.map_cons,e1]
   exact (goo_head hh hg nz3).symm
  have ey:∀ y,Pt.of l<y->y<x->chv (f :: gs) y=chg 0 ((f :: gs).map fun f=>sgp (dk m f) x):=fun y h1 h2=>by
   obtain ⟨_,ny2,ny3⟩:=nl y h1 h2
   have e1:(-1)^m*sgp f y=sgp (dk m f) x:=ny2 c
   rw[<- lft y,List.map_cons,List.map_cons,List.map_cons,e1]
   exact (goo_head hh hg ny3).symm
  refine ⟨l,u,hl,hu,fun y z h1 h2 h3 h4=>?_,fun h1=>?_⟩
  ·rw[ey y h1 h2,ez z h3 h4]
   match gs,hv,h with
   | [],_,_=>exact Int.sub_self _
   | g :: gs,hv,h =>
     have hg0:=h.ne g (List.mem_cons_of_mem _ (List.mem_cons_self ..))
     have h1:=(van_iff hg0).1 (hv g (List.mem_cons_of_mem _ (List.mem_cons_self ..)))
     show _=jmp x f g
     unfold jmp
     rw[if_neg (by omega)]
     omega
  ·have hm0:m=0:=by rw[<- hmf2];exact (mult_zero hf0).2 h1
   subst hm0
   exact ⟨fun y h2 h3=>ey y h2 h3,fun y h2 h3=>ez y h2 h3⟩
end Go.Proofs.YtpeiiomjnjemjaaGreat
namespace Go.Proofs.YtpeiiomjnjemjaaGreat
def isum (l:List Int):Int:=l.foldr (·+·) 0
theorem isum_cons (a:Int) (l:List Int):isum (a :: l)=a+isum l:=rfl
def Lst (P:Pt->Prop) (xs:List Pt):Prop:=Asc xs/\∀ x,x∈xs↔P x
theorem asc_uniq:∀ {xs ys:List Pt},Asc xs->Asc ys->(∀ x,x∈xs↔x∈ys)->xs=ys
 | [],[],_,_,_=>rfl
 | [],y :: ys,_,_,h=>absurd ((h y).2 (List.mem_cons_self ..)) (by simp)
 | x :: xs,[],_,_,h=>absurd ((h x).1 (List.mem_cons_self ..)) (by simp)
 | x :: xs,y :: ys,hx,hy,h=>by
   obtain ⟨h1,h2⟩:=List.pairwise_cons.1 hx
   obtain ⟨h3,h4⟩:=List.pairwise_cons.1 hy
   have e:x=y:=by
    rcases List.mem_cons.1 ((h x).1 (List.mem_cons_self ..)) with e | e
    ·exact e
    ·rcases List.mem_cons.1 ((h y).2 (List.mem_cons_self ..)) with e' | e'
     ·exact e'.symm
     ·exact absurd (h1 y e') (Pt.asym (h3 x e))
   subst e
   rw[asc_uniq h2 h4 fun z=>?_]
   constructor
   ·intro hz
    rcases List.mem_cons.1 ((h z).1 (List.mem_cons_of_mem _ hz)) with e | e
    ·exact absurd (e ▸ h1 z hz) (Pt.irr x)
    ·exact e
   ·intro hz
    rcases List.mem_cons.1 ((h z).2 (List.mem_cons_of_mem _ hz)) with e | e
    ·exact absurd (e ▸ h3 z hz) (Pt.irr x)
    ·exact e
theorem Lst.uniq {P:Pt->Prop} {xs ys:List Pt} (h:Lst P xs) (h':Lst P ys):xs=ys:=asc_uniq h.1 h'.1 fun x=>(h.2 x).trans (h'.2 x).symm
theorem Lst.congr {P Q:Pt->Prop} {xs:List Pt} (h:Lst P xs) (e:∀ x,P x↔Q x):Lst Q xs:=⟨h.1,fun x=>(h.2 x).trans (e x)⟩
open Classical in
theorem Lst.filter {P Q:Pt->Prop} {xs:List Pt} (h:Lst P xs):Lst (fun x=>P x/\Q x) (xs.filter fun x=>decide (Q x)) :=
 ⟨h.1.filter _,fun x=>by rw[List.mem_filter,h.2,decide_eq_true_iff]⟩
theorem roots_lst {p:List Int} (h:plen p≠0) (Q:Pt->Prop):∃ xs,Lst (fun x=>sgp p x=0/\Q x) xs:=by
 obtain ⟨xs,h1,h2⟩:=roots_ex h
 exact ⟨_,Lst.filter (P:=fun x=>sgp p x=0) ⟨h1,h2⟩⟩
open Classical in
theorem isum_filter (J:Pt->Int) (Q:Pt->Prop):∀ (xs:List Pt),(∀ x∈xs,¬ Q x->J x=0)->isum (xs.map J)=isum ((xs.filter fun x=>decide (Q x)).map J)
 | [],_=>rfl
 | x :: xs,h=>by
   have ih:=isum_filter J Q xs fun y hy=>h y (List.mem_cons_of_mem _ hy)
   by_cases c:Q x
   ·rw[List.filter_cons_of_pos (by simpa using c),List.map_cons,List.map_cons,isum_cons,isum_cons,ih]
   ·rw[List.filter_cons_of_neg (by simpa using c),List.map_cons,isum_cons,ih,h x (List.mem_cons_self ..) c,Int.zero_add]
theorem isum_eq {P P':Pt->Prop} {xs ys:List Pt} (J:Pt->Int) (h:Lst P xs) (h':Lst P' ys) (hs:∀ x,P' x->P x) (h0:∀ x,P x->¬ P' x->J x=0):isum (xs.map J)=isum (ys.map J):=by
 rw[isum_filter J P' xs fun x hx=>h0 x ((h.2 x).1 hx)]
 have h1:Lst P' (xs.filter fun x=>@decide (P' x) (Classical.propDecidable _)):=(Lst.filter (Q:=P') h).congr fun x=>⟨fun h2=>h2.2,fun h2=>⟨hs x h2,h2⟩⟩
 rw[h1.uniq h']
theorem tele (V J:Pt->Int) (C:Pt->Prop) (hc:∀ y z,y<z->¬ C y->¬ C z->(∀ t,y<t->t<z->¬ C t)->V y=V z)
  (hj:∀ x,C x->∃ l u,Pt.of l<x/\x<Pt.of u/\∀ y z,Pt.of l<y->y<x->x<z->z<Pt.of u->V y-V z=J x) (b:Pt) (v1:Int)
  (hb:∃ l,Pt.of l<b/\∀ y,Pt.of l<y->y<b->V y=v1) :
  ∀ (xs:List Pt) (a:Pt) (v0:Int),a<b->(∃ u,a<Pt.of u/\∀ y,a<y->y<Pt.of u->V y=v0)->Lst (fun x=>a<x/\x<b/\C x) xs->v0-v1=isum (xs.map J)
 | [],a,v0,hab,ha,h=>by
   obtain ⟨l,hl,h1⟩:=hb
   obtain ⟨u,hu,h2⟩:=ha
   have none:∀ t,a<t->t<b->¬ C t:=fun t h3 h4 h5=>by
    have:=(h.2 t).2 ⟨h3,h4,h5⟩
    simp at this
   obtain ⟨q,h3,h4⟩:=Pt.mid hab
   obtain ⟨y,h5,h6,h7⟩:=Pt.two_up h3 hu
   obtain ⟨z,h8,h9,h10⟩:=Pt.two_lo h4 hl
   have hyz:y<z:=Pt.lt_trans h6 h9
   have:=hc y z hyz (none y h5 (Pt.lt_trans hyz h8)) (none z (Pt.lt_trans h5 hyz) h8) fun t h11 h12=>none t (Pt.lt_trans h5 h11) (Pt.lt_trans h12 h8)
   rw[h2 y h5 h7,h1 z h10 h8] at this
   show v0-v1=0
   omega
 | x :: xs,a,v0,hab,ha,h=>by
   obtain ⟨hx,hxs⟩:=List.pairwise_cons.1 h.1
   obtain ⟨k1,k2,k3⟩:=(h.2 x).1 (List.mem_cons_self ..)
   obtain ⟨l,u,hl,hu,h1⟩:=hj x k3
   obtain ⟨u0,hu0,h2⟩:=ha
   have none:∀ t,a<t->t<x->¬ C t:=fun t h3 h4 h5=>by
    have h6:=(h.2 t).2 ⟨h3,Pt.lt_trans h4 k2,h5⟩
    rcases List.mem_cons.1 h6 with h7 | h7
    ·exact Pt.irr x (h7 ▸ h4)
    ·exact Pt.asym h4 (hx t h7)
   obtain ⟨q,h3,h4⟩:=Pt.mid k1
   obtain ⟨y,h5,h6,h7⟩:=Pt.two_up h3 hu0
   have left:∀ z,Pt.of l<z->z<x->V z=v0:=by
    have base:∀ z,Pt.of q<z->z<x->V z=v0:=fun z h8 h9=>by
     have hyz:y<z:=Pt.lt_trans h6 h8
     have:=hc y z hyz (none y h5 (Pt.lt_trans hyz h9)) (none z (Pt.lt_trans h5 hyz) h9) fun t h11 h12=>none t (Pt.lt_trans h5 h11) (Pt.lt_trans h12 h9)
     rw[<- this,h2 y h5 h7]
    intro z h8 h9
    obtain ⟨z',h10,h11,h12⟩:=Pt.two_lo h4 h9
    obtain ⟨r,h13,h14⟩:=Pt.mid hu
    have e1:=h1 z (Pt.of r) h8 h9 h13 h14
    have e2:=h1 z' (Pt.of r) (Pt.lt_trans h8 h12) h10 h13 h14
    rw[<- base z' h11 h10]
    omega
   obtain ⟨p,h8,h9⟩:=Pt.mid hl
   have right:∀ z,x<z->z<Pt.of u->V z=v0-J x:=fun z h10 h11=>by
    have e1:=h1 (Pt.of p) z h8 h9 h10 h11
    rw[left (Pt.of p) h8 h9] at e1
    omega
   have:=tele V J C hc hj b v1 hb xs x (v0-J x) k2 ⟨u,hu,right⟩ ⟨hxs,fun t=>?_⟩
   ·rw[List.map_cons,isum_cons]
    omega
   ·constructor
    ·intro ht
     have h10:=(h.2 t).1 (List.mem_cons_of_mem _ ht)
     exact ⟨hx t ht,h10.2.1,h10.2.2⟩
    ·rintro ⟨h10,h11,h12⟩
     rcases List.mem_cons.1 ((h.2 t).2 ⟨Pt.lt_trans k1 h10,h11,h12⟩) with h13 | h13
     ·exact absurd (h13 ▸ h10) (Pt.irr x)
     ·exact h13
def pprod:List (List Int)->List Int
 | []=>[1]
 | f :: fs=>polymul f (pprod fs)
theorem pprod_ne:∀ {fs:List (List Int)},(∀ f∈fs,plen f≠0)->plen (pprod fs)≠0
 | [],_=>by decide
 | f :: fs,h=>polymul_ne (h f (List.mem_cons_self ..)) (pprod_ne fun g hg=>h g (List.mem_cons_of_mem _ hg))
theorem sgp_prod {x:Pt}:∀ {fs:List (List Int)},sgp (pprod fs) x=0↔∃ f∈fs,sgp f x=0
 | []=>by
   rw[pprod,sgp_const]
   constructor
   ·intro h;exact absurd h (by decide)
   ·rintro ⟨f,hf,_⟩;simp at hf
 | f :: fs=>by
   rw[pprod,sgp_mul,Int.mul_eq_zero,sgp_prod (fs:=fs)]
   constructor
   ·rintro (h | ⟨g,h1,h2⟩)
    ·exact ⟨f,List.mem_cons_self ..,h⟩
    ·exact ⟨g,List.mem_cons_of_mem _ h1,h2⟩
   ·rintro ⟨g,h1,h2⟩
    rcases List.mem_cons.1 h1 with rfl | h1
    ·exact .inl h2
    ·exact .inr ⟨g,h1,h2⟩
theorem sturm_v {f:List Int} {gs:List (List Int)} (h:SCh (f :: gs)) {a b:Pt} (hab:a<b) {v0 v1:Int} (ha:∃ u,a<Pt.of u/\∀ y,a<y->y<Pt.of u->chv (f :: gs) y=v0)
  (hb:∃ l,Pt.of l<b/\∀ y,Pt.of l<y->y<b->chv (f :: gs) y=v1)
  {xs:List Pt} (hx:Lst (fun x=>sgp f x=0/\a<x/\x<b) xs):v0-v1=isum (xs.map fun x=>jmph x f gs):=by
 have h0:=pprod_ne h.ne
 obtain ⟨ys,hy⟩:=roots_lst h0 (fun x=>a<x/\x<b)
 have main:=tele (chv (f :: gs)) (fun x=>jmph x f gs) (fun x=>sgp (pprod (f :: gs)) x=0) (fun y z h1 h2 h3 h4=>by
   unfold chv
   congr 1
   refine List.map_congr_left fun g hg=>?_
   refine sgp_stay h1 (fun t h5 h6 h7=>h4 t h5 h6 (sgp_prod.2 ⟨g,hg,h7⟩)) (fun h7=>h2 (sgp_prod.2 ⟨g,hg,h7⟩)) (fun h7=>h3 (sgp_prod.2 ⟨g,hg,h7⟩)))
  (fun x _=>by
    obtain ⟨l,u,h1,h2,h3,_⟩:=chv_local h x
    exact ⟨l,u,h1,h2,h3⟩) b v1 hb ys a v0 hab ha
  (hy.congr fun x=>⟨fun ⟨h1,h2,h3⟩=>⟨h2,h3,h1⟩,fun ⟨h1,h2,h3⟩=>⟨h3,h1,h2⟩⟩)
 rw[main]
 refine isum_eq _ hy hx (fun x h1=>⟨sgp_prod.2 ⟨f,List.mem_cons_self ..,h1.1⟩,h1.2⟩) fun x h1 h2=>?_
 have hf:sgp f x≠0:=fun h3=>h2 ⟨h3,h1.2⟩
 have hm:=(mult_zero (h.ne f (List.mem_cons_self ..))).2 hf
 match gs with
 | []=>rfl
 | g :: gs =>
   show jmp x f g=0
   unfold jmp
   rw[hm,if_neg (by omega)]
theorem sturm {f:List Int} {gs:List (List Int)} (h:SCh (f :: gs)) {a b:Pt} (hab:a<b) (ha:sgp f a≠0) (hb:sgp f b≠0)
  {xs:List Pt} (hx:Lst (fun x=>sgp f x=0/\a<x/\x<b) xs):chv (f :: gs) a-chv (f :: gs) b=isum (xs.map fun x=>jmph x f gs):=by
 refine sturm_v h hab ?_ ?_ hx
 ·obtain ⟨l,u,h1,h2,_,h4⟩:=chv_local h a
  exact ⟨u,h2,(h4 ha).2⟩
 ·obtain ⟨l,u,h1,h2,_,h4⟩:=chv_local h b
  exact ⟨l,h1,(h4 hb).1⟩
end Go.Proofs.YtpeiiomjnjemjaaGreat
namespace Go.Proofs.YtpeiiomjnjemjaaGreat
def PEq (f g:List Int):Prop:=∃ c d:Int,0<c/\0<d/\∀ k,c*f.getD k 0=d*g.getD k 0
theorem PEq.refl (f:List Int):PEq f f:=⟨1,1,by decide,by decide,fun _=>rfl⟩
theorem PEq.symm {f g:List Int} (h:PEq f g):PEq g f:=by
 obtain ⟨c,d,hc,hd,e⟩:=h
 exact ⟨d,c,hd,hc,fun k=>(e k).symm⟩
theorem PEq.trans {f g h:List Int} (a:PEq f g) (b:PEq g h):PEq f h:=by
 obtain ⟨c,d,hc,hd,e⟩:=a
 obtain ⟨c',d',hc',hd',e'⟩:=b
 refine ⟨c*c',d*d',Int.mul_pos hc hc',Int.mul_pos hd hd',fun k=>?_⟩
 have h1:=e k
 have h2:=e' k
 have e1:c*c'*f.getD k 0=c'*(c*f.getD k 0):=by ac_rfl
 have e2:d*d'*h.getD k 0=d*(d'*h.getD k 0):=by ac_rfl
 rw[e1,h1,e2,<- h2]
 ac_rfl
theorem PEq.dk {f g:List Int} (h:PEq f g) (i:Nat) (x:Pt):sgp (dk i f) x=sgp (dk i g) x:=by
 obtain ⟨c,d,hc,hd,e⟩:=h
 have h1:sgp (Go.Proofs.YtpeiiomjnjemjaaGreat.dk i (psc c f)) x=sgp (Go.Proofs.YtpeiiomjnjemjaaGreat.dk i (psc d g)) x:=sgp_congr (dk_congr i fun k=>by rw[psc_get,psc_get,e]) x
 rw[sgp_congr (dk_psc i c f),sgp_congr (dk_psc i d g),sgp_psc,sgp_psc,sg_pos hc,sg_pos hd] at h1
 omega
theorem PEq.sgp {f g:List Int} (h:PEq f g) (x:Pt):sgp f x=sgp g x:=h.dk 0 x
theorem PEq.plen {f g:List Int} (h:PEq f g):plen f=plen g:=by
 have key:∀ {f g:List Int},PEq f g->Go.Proofs.YtpeiiomjnjemjaaGreat.plen f<=Go.Proofs.YtpeiiomjnjemjaaGreat.plen g:=fun {f g} h=>by
  obtain ⟨c,d,hc,hd,e⟩:=h
  refine plen_le_of fun k hk=>?_
  have h1:=e k
  rw[getD_ge_plen g k hk,Int.mul_zero] at h1
  rcases Int.mul_eq_zero.1 h1 with h2 | h2
  ·omega
  ·exact h2
 have h1:=key h
 have h2:=key h.symm
 omega
theorem PEq.mult {f g:List Int} (h:PEq f g) (x:Pt) (hf:Go.Proofs.YtpeiiomjnjemjaaGreat.plen f≠0):mult x f=mult x g/\rs x f=rs x g:=by
 have hg:Go.Proofs.YtpeiiomjnjemjaaGreat.plen g≠0:=by rw[<- h.plen];exact hf
 have h1:Go.Proofs.YtpeiiomjnjemjaaGreat.mult x f=Go.Proofs.YtpeiiomjnjemjaaGreat.mult x g:=by
  have a:=(van_iff hf (x:=x) (n:=Go.Proofs.YtpeiiomjnjemjaaGreat.mult x g)).1 fun i hi=>by rw[h.dk];exact (mult_spec hg x).dk_lt i hi
  have b:=(van_iff hg (x:=x) (n:=Go.Proofs.YtpeiiomjnjemjaaGreat.mult x f)).1 fun i hi=>by rw[<- h.dk];exact (mult_spec hf x).dk_lt i hi
  omega
 refine ⟨h1,?_⟩
 unfold rs
 rw[h1,h.dk]
theorem PEq.jmp {f g f' g':List Int} (h:PEq f f') (h':PEq g g') (x:Pt) (hf:Go.Proofs.YtpeiiomjnjemjaaGreat.plen f≠0) (hg:Go.Proofs.YtpeiiomjnjemjaaGreat.plen g≠0):jmp x f g=jmp x f' g':=by
 unfold Go.Proofs.YtpeiiomjnjemjaaGreat.jmp
 rw[(h.mult x hf).1,(h.mult x hf).2,(h'.mult x hg).1,(h'.mult x hg).2]
theorem jmp_one {f:List Int} (hf:plen f≠0) {x:Pt} (h0:sgp f x=0):jmp x f (pder f)=1:=by
 obtain ⟨h1,h2⟩:=mult_pder hf h0
 have h5:=rs_pder hf h0
 have h6:=rs_pm hf x
 unfold jmp
 rw[if_pos (by omega),<- h5]
 rcases h6 with h6 | h6<;>rw[h6]<;>decide
theorem chv_root {f g:List Int} {gs:List (List Int)} (h:SCh (f :: g :: gs)) {x:Pt} (h0:sgp f x=0) (hl:sgp (lastp (f :: g :: gs)) x≠0) (hn:plen (lastp (f :: g :: gs))≠0) :
  sgp g x≠0/\∃ l u,Pt.of l<x/\x<Pt.of u/\(∀ y,Pt.of l<y->y<x->chv (f :: g :: gs) y=opq (sgp f y) (sgp g x)+chv (f :: g :: gs) x) /\
   (∀ y,x<y->y<Pt.of u->chv (f :: g :: gs) y=opq (sgp f y) (sgp g x)+chv (f :: g :: gs) x):=by
 have hm:=(mult_zero hn).2 hl
 obtain ⟨hv,hg⟩:=h.van (x:=x) hm
 obtain ⟨l,u,hl,hu,hs⟩:=side_all (x:=x) _ h.ne
 obtain ⟨nr,nl⟩:=nea_side h.ne hv hs
 have hg0:sgp g x≠0:=by
  rcases hg.two with h1 | h1
  ·exact absurd h0 h1
  ·exact h1
 have hgu:sgp g x=1∨sgp g x=-1:=by
  rcases sgp_or g x with h1 | h1 | h1
  ·exact .inl h1
  ·exact .inr h1
  ·exact absurd h1 hg0
 have base:chv (f :: g :: gs) x=chg 0 (sgp g x :: gs.map fun f=>sgp f x):=by
  unfold chv
  rw[List.map_cons,h0,chg_zero,List.map_cons]
 have key:∀ y,Nea ((f :: g :: gs).map fun f=>sgp f x) ((f :: g :: gs).map fun f=>sgp f y)->chv (f :: g :: gs) y=opq (sgp f y) (sgp g x)+chv (f :: g :: gs) x:=fun y hy=>by
  obtain ⟨h1,_,_,h3,h4⟩:=hy
  have e1:sgp g y=sgp g x:=h3 hg0
  rw[base]
  unfold chv
  rw[List.map_cons,List.map_cons,e1]
  exact goo_zero h1 hgu hg.2 h4
 refine ⟨hg0,l,u,hl,hu,fun y h1 h2=>key y ?_,fun y h1 h2=>key y (nr y h1 h2)⟩
 have:=nl y h1 h2
 have e:∀ S:List Int,S.map ((-1)^0*·)=S:=fun S=>by
  induction S with
  | nil=>rfl
  | cons s S ih=>rw[List.map_cons,ih,Int.pow_zero,Int.one_mul]
 rw[e] at this
 exact this
theorem chv_der {f g:List Int} {gs:List (List Int)} (h:SCh (f :: g :: gs)) (hd:PEq g (pder f)) {x:Pt} (h0:sgp f x=0) (hl:sgp (lastp (f :: g :: gs)) x≠0) (hn:plen (lastp (f :: g :: gs))≠0) :
  (∃ l,Pt.of l<x/\∀ y,Pt.of l<y->y<x->chv (f :: g :: gs) y=1+chv (f :: g :: gs) x) /\
  ∃ u,x<Pt.of u/\∀ y,x<y->y<Pt.of u->chv (f :: g :: gs) y=chv (f :: g :: gs) x:=by
 obtain ⟨hg,l,u,h1,h2,h3,h4⟩:=chv_root h h0 hl hn
 have hf:=h.ne f (List.mem_cons_self ..)
 obtain ⟨m1,m2⟩:=mult_pder hf h0
 have hgd:sgp (pder f) x≠0:=by rw[<- hd.sgp];exact hg
 have m3:=(mult_zero m2).2 hgd
 have r1:=rs_pder hf h0
 rw[rs_zero hgd,<- hd.sgp] at r1
 obtain ⟨l',u',s⟩:=side_ex hf x
 rw[m1,m3] at s
 have hgu:=rs_pm hf x
 obtain ⟨a,a1,a2,a3⟩:=Pt.two_lo h1 s.lo
 obtain ⟨b,b1,b2,b3⟩:=Pt.two_up h2 s.hi
 obtain ⟨qa,qa1,qa2⟩:=Pt.mid a1
 obtain ⟨qb,qb1,qb2⟩:=Pt.mid b1
 refine ⟨⟨qa,qa2,fun y h5 h6=>?_⟩,qb,qb1,fun y h5 h6=>?_⟩
 ·have:=s.l y (Pt.lt_trans a3 (Pt.lt_trans qa1 h5)) h6
  rw[h3 y (Pt.lt_trans a2 (Pt.lt_trans qa1 h5)) h6,this,r1]
  rw[r1] at hgu
  rcases hgu with e | e<;>rw[e]<;>rfl
 ·have:=s.r y h5 (Pt.lt_trans (Pt.lt_trans h6 qb2) b3)
  rw[h4 y h5 (Pt.lt_trans (Pt.lt_trans h6 qb2) b2),this,r1]
  rw[r1] at hgu
  rcases hgu with e | e<;>rw[e]<;>simp[opq]
theorem Lst.add_top {P:Pt->Prop} {b:Pt} {xs:List Pt} (h:Lst (fun x=>P x/\x<b) xs) (hb:P b):Lst (fun x=>P x/\(x<b∨x=b)) (xs ++ [b]):=by
 refine ⟨List.pairwise_append.2 ⟨h.1,List.pairwise_singleton ..,fun x hx y hy=>?_⟩,fun x=>?_⟩
 ·rw[List.mem_singleton.1 hy]
  exact ((h.2 x).1 hx).2
 ·rw[List.mem_append,h.2,List.mem_singleton]
  constructor
  ·rintro (⟨h1,h2⟩ | rfl)
   ·exact ⟨h1,.inl h2⟩
   ·exact ⟨hb,.inr rfl⟩
  ·rintro ⟨h1,h2 | rfl⟩
   ·exact .inl ⟨h1,h2⟩
   ·exact .inr rfl
theorem isum_one {J:Pt->Int}:∀ (xs:List Pt),(∀ x∈xs,J x=1)->isum (xs.map J)=xs.length
 | [],_=>rfl
 | x :: xs,h=>by
   rw[List.map_cons,isum_cons,isum_one xs fun y hy=>h y (List.mem_cons_of_mem _ hy),h x (List.mem_cons_self ..),List.length_cons]
   omega
theorem sturm_count {f g:List Int} {gs:List (List Int)} (h:SCh (f :: g :: gs)) (hd:PEq g (pder f)) {a b:Pt} (hab:a<b) (hn:plen (lastp (f :: g :: gs))≠0) (ha:sgp (lastp (f :: g :: gs)) a≠0)
  (hb:sgp (lastp (f :: g :: gs)) b≠0) {xs:List Pt} (hx:Lst (fun x=>sgp f x=0/\a<x/\(x<b∨x=b)) xs):chv (f :: g :: gs) a-chv (f :: g :: gs) b=xs.length:=by
 have hf:=h.ne f (List.mem_cons_self ..)
 have hg:=h.ne g (List.mem_cons_of_mem _ (List.mem_cons_self ..))
 have right:∃ u,a<Pt.of u/\∀ y,a<y->y<Pt.of u->chv (f :: g :: gs) y=chv (f :: g :: gs) a:=by
  by_cases c:sgp f a=0
  ·exact (chv_der h hd c ha hn).2
  ·obtain ⟨l,u,h1,h2,_,h4⟩:=chv_local h a
   exact ⟨u,h2,(h4 c).2⟩
 obtain ⟨ys,hy⟩:=roots_lst hf (fun x=>a<x/\x<b)
 have hJ:isum (ys.map fun x=>jmph x f (g :: gs))=ys.length:=isum_one ys fun x hx=>by
  show jmp x f g=1
  rw[(PEq.refl f).jmp hd x hf hg]
  exact jmp_one hf ((hy.2 x).1 hx).1
 by_cases c:sgp f b=0
 ·have main:=sturm_v h hab right (chv_der h hd c hb hn).1 hy
  rw[hJ] at main
  have hy2:Lst (fun x=>(sgp f x=0/\a<x)/\x<b) ys:=hy.congr fun x=>by rw[and_assoc]
  have hy3:=(hy2.add_top ⟨c,hab⟩).congr (Q:=fun x=>sgp f x=0/\a<x/\(x<b∨x=b)) fun x=>by rw[and_assoc]
  rw[hx.uniq hy3,List.length_append,List.length_singleton]
  omega
 ·have left:∃ l,Pt.of l<b/\∀ y,Pt.of l<y->y<b->chv (f :: g :: gs) y=chv (f :: g :: gs) b:=by
   obtain ⟨l,u,h1,h2,_,h4⟩:=chv_local h b
   exact ⟨l,h1,(h4 c).1⟩
  have main:=sturm_v h hab right left hy
  rw[hJ] at main
  have hy3:=hy.congr (Q:=fun x=>sgp f x=0/\a<x/\(x<b∨x=b)) fun x=>⟨fun ⟨h1,h2,h3⟩=>⟨h1,h2,.inl h3⟩,fun ⟨h1,h2,h3⟩=>⟨h1,h2,by
   rcases h3 with h3 | h3
   ·exact h3
   ·exact absurd (h3 ▸ h1) c⟩⟩
  rw[hx.uniq hy3]
  omega
def sgE (m:Bool) (f:List Int):Int:=if m then (-1)^(plen f-1)*sg (plead f) else sg (plead f)
theorem far_hi:∀ (f:List Int),plen f≠0->∃ B:Rat,1<=B/\∀ q,B<=q->1<=(plead f:Rat)*pv f q
 | [],h=>absurd rfl h
 | a :: t,h=>by
   by_cases c:plen t=0
   ·have ha:a≠0:=fun h0=>h (plen_cons_zero c h0)
    have hl:plead (a :: t)=a:=by unfold plead;rw[plen_cons_one c ha];rfl
    refine ⟨1,by grind,fun q _=>?_⟩
    rw[hl,pv,pv_zero t (fun k=>getD_ge_plen t k (by omega)),Rat.mul_zero,Rat.add_zero,<- Rat.intCast_mul]
    have h1:1<=a*a:=by
     rcases Int.lt_or_gt_of_ne ha with h2 | h2
     ·have:=Int.mul_pos_of_neg_of_neg h2 h2;omega
     ·have:=Int.mul_pos h2 h2;omega
    exact Rat.intCast_le_intCast.2 h1
   ·obtain ⟨B,hB,h1⟩:=far_hi t c
    have hl:plead (a :: t)=plead t:=by
     unfold plead
     rw[plen_cons_succ c,Nat.add_sub_cancel]
     obtain ⟨n,hn⟩:∃ n,plen t=n+1:=⟨plen t-1,by omega⟩
     rw[hn,Nat.add_sub_cancel]
     rfl
    obtain ⟨N,hN⟩:=Rat.arch (1-(plead t:Rat)*a) 1 (by grind)
    refine ⟨B+N,by have:(0:Rat)<=N:=Rat.natCast_nonneg;grind,fun q hq=>?_⟩
    have hN0:(0:Rat)<=N:=Rat.natCast_nonneg
    have h2:=h1 q (by grind)
    have h3:=Rat.mul_le_mul_of_nonneg_left h2 (by grind:0<=q)
    rw[hl,pv]
    grind
theorem far_lo:∀ (f:List Int),plen f≠0->∃ B:Rat,1<=B/\∀ q,q<=-B->1<=(((-1)^(plen f-1)*plead f:Int):Rat)*pv f q
 | [],h=>absurd rfl h
 | a :: t,h=>by
   by_cases c:plen t=0
   ·have ha:a≠0:=fun h0=>h (plen_cons_zero c h0)
    have hl:plead (a :: t)=a:=by unfold plead;rw[plen_cons_one c ha];rfl
    refine ⟨1,by grind,fun q _=>?_⟩
    rw[hl,plen_cons_one c ha,pv,pv_zero t (fun k=>getD_ge_plen t k (by omega)),Rat.mul_zero,Rat.add_zero,<- Rat.intCast_mul]
    have h1:1<=(-1)^(1-1)*a*a:=by
     rw[show (1-1:Nat)=0 from rfl,Int.pow_zero,Int.one_mul]
     rcases Int.lt_or_gt_of_ne ha with h2 | h2
     ·have:=Int.mul_pos_of_neg_of_neg h2 h2;omega
     ·have:=Int.mul_pos h2 h2;omega
    exact Rat.intCast_le_intCast.2 h1
   ·obtain ⟨B,hB,h1⟩:=far_lo t c
    obtain ⟨n,hn⟩:∃ n,plen t=n+1:=⟨plen t-1,by omega⟩
    have hl:plead (a :: t)=plead t:=by
     unfold plead
     rw[plen_cons_succ c,Nat.add_sub_cancel,hn,Nat.add_sub_cancel]
     rfl
    have hp:((-1:Int)^(plen (a :: t)-1)*plead (a :: t))=-((-1)^(plen t-1)*plead t):=by
     rw[hl,plen_cons_succ c,hn,Nat.add_sub_cancel,Nat.add_sub_cancel,Int.pow_succ]
     grind
    rw[hp,Rat.intCast_neg]
    generalize (-1:Int)^(plen t-1)*plead t=L at h1 ⊢
    obtain ⟨N,hN⟩:=Rat.arch (1+(L:Rat)*a) 1 (by grind)
    have hN0:(0:Rat)<=N:=Rat.natCast_nonneg
    refine ⟨B+N,by grind,fun q hq=>?_⟩
    have h2:=h1 q (by grind)
    have h3:=Rat.mul_le_mul_of_nonneg_left h2 (by grind:0<=-q)
    rw[pv]
    grind
theorem sg_of_pos {L:Int} {v:Rat} (h:1<=(L:Rat)*v):(if 0<v then (1:Int) else if v<0 then -1 else 0)=sg L:=by
 rcases sg_cases L with ⟨h1,e⟩ | ⟨h1,e⟩ | ⟨h1,e⟩
 ·have hL:(L:Rat)<0:=Rat.intCast_lt_intCast.2 h1
  have hv:v<0:=Classical.byContradiction fun hc=>by
   have:=Rat.mul_nonneg (by grind:0<=-(L:Rat)) (by grind:0<=v)
   grind
  rw[if_neg (by grind),if_pos hv,e]
 ·subst h1
  exfalso
  have:((0:Int):Rat)=0:=rfl
  rw[this] at h
  grind
 ·have hL:0<(L:Rat):=Rat.intCast_lt_intCast.2 h1
  have hv:0<v:=Classical.byContradiction fun hc=>by
   have:=Rat.mul_nonneg (by grind:0<=(L:Rat)) (by grind:0<=-v)
   grind
  rw[if_pos hv,e]
theorem sg_pm_mul (m:Nat) (z:Int):sg ((-1)^m*z)=(-1)^m*sg z:=by
 rcases pm_pow m with ⟨e,_⟩ | ⟨e,_⟩<;>rw[e]
 ·rw[Int.one_mul,Int.one_mul]
 ·rcases sg_cases z with ⟨h,e'⟩ | ⟨h,e'⟩ | ⟨h,e'⟩<;>rw[e']
  ·rw[sg_pos (by omega)];rfl
  ·subst h;rfl
  ·rw[sg_neg (by omega)];rfl
theorem far {f:List Int} (h:plen f≠0):∃ B:Rat,1<=B/\(∀ q,B<=q->sgp f (Pt.of q)=sgE false f)/\(∀ q,q<=-B->sgp f (Pt.of q)=sgE true f):=by
 obtain ⟨B,hB,h1⟩:=far_hi f h
 obtain ⟨C,hC,h2⟩:=far_lo f h
 refine ⟨B+C,by grind,fun q hq=>?_,fun q hq=>?_⟩
 ·unfold sgp
  rw[sgf_of (lp_pv f),sg_of_pos (h1 q (by grind))]
  rfl
 ·unfold sgp
  rw[sgf_of (lp_pv f),sg_of_pos (h2 q (by grind)),sg_pm_mul]
  rfl
theorem far_all:∀ (fs:List (List Int)),(∀ f∈fs,plen f≠0)->∃ B:Rat,1<=B/\(∀ q,B<=q->∀ f∈fs,sgp f (Pt.of q)=sgE false f)/\(∀ q,q<=-B->∀ f∈fs,sgp f (Pt.of q)=sgE true f)
 | [],_=>⟨1,by grind,fun _ _ f hf=>by simp at hf,fun _ _ f hf=>by simp at hf⟩
 | f :: fs,h=>by
   obtain ⟨B,hB,h1,h2⟩:=far_all fs fun g hg=>h g (List.mem_cons_of_mem _ hg)
   obtain ⟨C,hC,h3,h4⟩:=far (h f (List.mem_cons_self ..))
   refine ⟨B+C,by grind,fun q hq g hg=>?_,fun q hq g hg=>?_⟩
   ·rcases List.mem_cons.1 hg with rfl | hg
    ·exact h3 q (by grind)
    ·exact h1 q (by grind) g hg
   ·rcases List.mem_cons.1 hg with rfl | hg
    ·exact h4 q (by grind)
    ·exact h2 q (by grind) g hg
theorem pts_in:∀ (xs:List Pt),∃ B:Rat,1<=B/\∀ x∈xs,Pt.of (-B)<x/\x<Pt.of B
 | []=>⟨1,by grind,fun x hx=>by simp at hx⟩
 | x :: xs=>by
   obtain ⟨B,hB,h1⟩:=pts_in xs
   obtain ⟨l,hl⟩:=x.ne
   obtain ⟨u,hu⟩:=x.bd
   obtain ⟨C,hC,h2,h3⟩:∃ C:Rat,B<=C/\-C<=l/\u<C:=by
    have hlu:=Pt.nlt hl hu
    by_cases c:0<=l
    ·exact ⟨B+u+1,by grind,by grind,by grind⟩
    ·by_cases c2:0<=u
     ·exact ⟨B+u+1-l,by grind,by grind,by grind⟩
     ·exact ⟨B-l,by grind,by grind,by grind⟩
   refine ⟨C,by grind,fun y hy=>?_⟩
   rcases List.mem_cons.1 hy with rfl | hy
   ·exact ⟨Pt.of_lt.2 (Pt.Lle hl h2),Pt.lt_of.2 (Pt.up hu h3)⟩
   ·obtain ⟨h4,h5⟩:=h1 y hy
    exact ⟨Pt.of_lt.2 (Pt.Lle (Pt.of_lt.1 h4) (by grind)),Pt.lt_of.2 ((Pt.lt_of.1 h5).le hC)⟩
theorem roots_in {f:List Int} (h:plen f≠0):∃ B:Rat,1<=B/\∀ x,sgp f x=0->Pt.of (-B)<x/\x<Pt.of B:=by
 obtain ⟨xs,h1,h2⟩:=roots_ex h
 obtain ⟨B,hB,h3⟩:=pts_in xs
 exact ⟨B,hB,fun x hx=>h3 x ((h2 x).2 hx)⟩
def chE (m:Bool) (fs:List (List Int)):Int:=chg 0 (fs.map (sgE m))
theorem sgE_ne {f:List Int} (h:plen f≠0) (m:Bool):sgE m f≠0:=by
 have hs:sg (plead f)≠0:=sg_ne (plead_ne h)
 unfold sgE
 split
 ·rcases pm_pow (plen f-1) with ⟨e,_⟩ | ⟨e,_⟩<;>rw[e]<;>omega
 ·exact hs
theorem ends_ex (fs:List (List Int)) (h:∀ f∈fs,plen f≠0):∃ B:Rat,1<=B/\∀ C,B<=C->chv fs (Pt.of C)=chE false fs/\chv fs (Pt.of (-C))=chE true fs/\(∀ f∈fs,∀ x,sgp f x=0->Pt.of (-C)<x/\x<Pt.of C) /\
  ∀ f∈fs,sgp f (Pt.of C)≠0/\sgp f (Pt.of (-C))≠0:=by
 obtain ⟨B,hB,h1,h2⟩:=far_all fs h
 obtain ⟨D,hD,h3⟩:=roots_in (pprod_ne h)
 refine ⟨B+D,by grind,fun C hC=>⟨?_,?_,fun f hf x hx=>?_,fun f hf=>⟨?_,?_⟩⟩⟩
 ·unfold chv chE
  rw[List.map_congr_left fun g hg=>h1 C (by grind) g hg]
 ·unfold chv chE
  rw[List.map_congr_left fun g hg=>h2 (-C) (by grind) g hg]
 ·obtain ⟨h4,h5⟩:=h3 x (sgp_prod.2 ⟨f,hf,hx⟩)
  exact ⟨Pt.of_lt.2 (Pt.Lle (Pt.of_lt.1 h4) (by grind)),Pt.lt_of.2 ((Pt.lt_of.1 h5).le (by grind))⟩
 ·rw[h1 C (by grind) f hf]
  exact sgE_ne (h f hf) _
 ·rw[h2 (-C) (by grind) f hf]
  exact sgE_ne (h f hf) _
theorem sturm_line {f:List Int} {gs:List (List Int)} (h:SCh (f :: gs)) {xs:List Pt} (hx:Lst (fun x=>sgp f x=0) xs):chE true (f :: gs)-chE false (f :: gs)=isum (xs.map fun x=>jmph x f gs):=by
 obtain ⟨B,hB,h1⟩:=ends_ex _ h.ne
 obtain ⟨h2,h3,h4,h5⟩:=h1 B (by grind)
 have hf:=h5 f (List.mem_cons_self ..)
 rw[<- h2,<- h3]
 refine sturm h (Pt.of_lt_of.2 (by grind)) hf.2 hf.1 (hx.congr fun x=>⟨fun h6=>⟨h6,h4 f (List.mem_cons_self ..) x h6⟩,fun h6=>h6.1⟩)
end Go.Proofs.YtpeiiomjnjemjaaGreat
