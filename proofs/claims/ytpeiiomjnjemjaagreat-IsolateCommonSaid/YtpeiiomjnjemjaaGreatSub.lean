/- The sequence of remainders of unidiv divides exactly, and its numbers are not too large. -/
import Derived.Test.YtpeiiomjnjemjaaGreatFed
import Derived.Test.YtpeiiomjnjemjaaGreatGti
namespace Go.Proofs.YtpeiiomjnjemjaaGreat
def alt {V:Type} (h:V->Int) (F:List V->Int):List V->Int
 | []=>0
 | p :: r=>h p*F r-alt h (fun q=>F (p :: q)) r
abbrev Row:=Nat->Int
def lc2 (a:Int) (p:Row) (b:Int) (q:Row):Row:=fun t=>a*p t+b*q t
def det:List Nat->List Row->Int
 | [],[]=>1
 | [],_ :: _=>0
 | d :: ds,ps=>alt (fun p=>p d) (det ds) ps
structure Form (F:List Row->Int):Prop where
 lin:∀ A B p q a b,F (A ++ lc2 a p b q :: B)=a*F (A ++ p :: B)+b*F (A ++ q :: B)
 alt:∀ A B p,F (A ++ p :: p :: B)=0
theorem alt_add (h:Row->Int) (F G:List Row->Int) (a b:Int):∀ B,alt h (fun q=>a*F q+b*G q) B=a*alt h F B+b*alt h G B
 | []=>by simp[alt]
 | p :: r=>by
   simp only[alt]
   rw[alt_add h (fun q=>F (p :: q)) (fun q=>G (p :: q)) a b r]
   simp only[Int.mul_add,Int.mul_sub]
   rw[Int.mul_left_comm (h p) a,Int.mul_left_comm (h p) b]
   omega
theorem alt_zero (h:Row->Int):∀ B,alt h (fun _=>0) B=0
 | []=>rfl
 | p :: r=>by simp only[alt];rw[alt_zero h r];simp
theorem alt_lin (h:Row->Int) (hh:∀ a p b q,h (lc2 a p b q)=a*h p+b*h q):∀ (A:List Row) (F:List Row->Int),(∀ A B p q a b,F (A ++ lc2 a p b q :: B)=a*F (A ++ p :: B)+b*F (A ++ q :: B)) ->
  ∀ B p q a b,alt h F (A ++ lc2 a p b q :: B)=a*alt h F (A ++ p :: B)+b*alt h F (A ++ q :: B)
 | [],F,hF,B,p,q,a,b=>by
   simp only[List.nil_append,alt]
   have e:(fun r=>F (lc2 a p b q :: r))=(fun r=>a*F (p :: r)+b*F (q :: r)):=funext fun r=>by simpa using hF [] r p q a b
   rw[e,alt_add h (fun r=>F (p :: r)) (fun r=>F (q :: r)),hh]
   simp only[Int.mul_sub,Int.add_mul,Int.mul_assoc]
   omega
 | x :: A,F,hF,B,p,q,a,b=>by
   simp only[List.cons_append,alt]
   rw[hF A B p q a b,alt_lin h hh A (fun r=>F (x :: r)) (fun A' B' p' q' a' b'=>hF (x :: A') B' p' q' a' b') B p q a b]
   simp only[Int.mul_sub,Int.mul_add]
   rw[Int.mul_left_comm (h x) a,Int.mul_left_comm (h x) b]
   omega
theorem alt_alt (h:Row->Int):∀ (A:List Row) (F:List Row->Int),(∀ A B p,F (A ++ p :: p :: B)=0)->∀ B p,alt h F (A ++ p :: p :: B)=0
 | [],F,hF,B,p=>by
   simp only[List.nil_append,alt]
   have e:(fun r=>F (p :: p :: r))=(fun _=>0):=funext fun r=>by simpa using hF [] r p
   rw[e,alt_zero]
   omega
 | x :: A,F,hF,B,p=>by
   simp only[List.cons_append,alt]
   rw[hF A B p,alt_alt h A (fun r=>F (x :: r)) (fun A' B' p'=>hF (x :: A') B' p') B p]
   omega
theorem det_form:∀ ds,Form (det ds)
 | []=>⟨fun A B p q a b=>by cases A<;>simp[det],fun A B p=>by cases A<;>simp[det]⟩
 | d :: ds=>by
   have ih:=det_form ds
   refine ⟨fun A B p q a b=>?_,fun A B p=>?_⟩
   ·exact alt_lin (fun p=>p d) (fun _ _ _ _=>rfl) A (det ds) ih.lin B p q a b
   ·exact alt_alt (fun p=>p d) A (det ds) ih.alt B p
section
variable {F:List Row->Int}
theorem lc2_one (p q:Row):lc2 1 p 1 q=fun t=>p t+q t:=by funext t;simp[lc2]
theorem Form.add (hF:Form F) (A B:List Row) (p q:Row):F (A ++ (fun t=>p t+q t) :: B)=F (A ++ p :: B)+F (A ++ q :: B):=by
 have h:=hF.lin A B p q 1 1
 rw[lc2_one,Int.one_mul,Int.one_mul] at h
 exact h
theorem Form.smul (hF:Form F) (A B:List Row) (p:Row) (a:Int):F (A ++ (fun t=>a*p t) :: B)=a*F (A ++ p :: B):=by
 have h:=hF.lin A B p p a 0
 have e:lc2 a p 0 p=fun t=>a*p t:=by funext t;simp[lc2]
 rw[e,Int.zero_mul,Int.add_zero] at h
 exact h
theorem Form.swap (hF:Form F) (A B:List Row) (p q:Row):F (A ++ p :: q :: B)=-F (A ++ q :: p :: B):=by
 have h:=hF.alt A B (fun t=>p t+q t)
 rw[hF.add A _ p q] at h
 have h1:=hF.add (A ++ [p]) B p q
 have h2:=hF.add (A ++ [q]) B p q
 simp only[List.append_assoc,List.singleton_append] at h1 h2
 rw[h1,h2,hF.alt A B p,hF.alt A B q] at h
 omega
theorem Form.move (hF:Form F) (p:Row) (C:List Row):∀ (B A:List Row),F (A ++ p :: (B ++ C))=(-1)^B.length*F (A ++ (B ++ p :: C))
 | [],A=>by simp
 | q :: B,A=>by
   have h:=hF.move p C B (A ++ [q])
   simp only[List.append_assoc,List.cons_append,List.nil_append] at h ⊢
   rw[hF.swap A (B ++ C) p q,h,List.length_cons,Int.pow_succ]
   rw[Int.mul_assoc,Int.neg_mul,Int.one_mul,Int.mul_neg]
theorem Form.twice (hF:Form F) (p:Row) (A B C:List Row):F (A ++ p :: (B ++ p :: C))=0:=by
 have h:=hF.move p (p :: C) B A
 have h2:=hF.alt (A ++ B) C p
 rw[List.append_assoc] at h2
 rw[h,h2,Int.mul_zero]
theorem Form.mem (hF:Form F) {p:Row} {A B:List Row} (h:p∈A∨p∈B):F (A ++ p :: B)=0:=by
 rcases h with h | h
 ·obtain ⟨s,t,rfl⟩:=List.append_of_mem h
  have:=hF.twice p s t B
  simpa using this
 ·obtain ⟨s,t,rfl⟩:=List.append_of_mem h
  exact hF.twice p A s t
theorem Form.blocks (C:List Row):∀ (P:List Row) (F:List Row->Int) (_:Form F) (Q:List Row),F (P ++ (Q ++ C))=(-1)^(P.length*Q.length)*F (Q ++ (P ++ C)):=by
 intro P
 induction P with
 | nil=>intro F _ Q;simp
 | cons p P ih =>
   intro F hF Q
   have h1:=hF.move p (P ++ C) Q []
   have h2:F (p :: P ++ (Q ++ C))=(-1)^(P.length*Q.length)*F ([p] ++ (Q ++ (P ++ C))):=by
    have hF':Form (fun r=>F (p :: r)):=⟨fun A B x y a b=>by simpa using hF.lin (p :: A) B x y a b,fun A B x=>by simpa using hF.alt (p :: A) B x⟩
    have h:=ih (fun r=>F (p :: r)) hF' Q
    simpa using h
   rw[h2]
   simp only[List.nil_append,List.singleton_append] at h1 ⊢
   rw[h1,<- Int.mul_assoc,<- Int.pow_add]
   have e:P.length*Q.length+Q.length=(p :: P).length*Q.length:=by rw[List.length_cons,Nat.succ_mul]
   rw[e]
   simp
end
inductive Span (L:List Row):Row->Prop
 | zero:Span L (fun _=>0)
 | step {v x:Row} (c:Int):Span L v->x∈L->Span L (fun t=>v t+c*x t)
theorem Form.span {F:List Row->Int} (hF:Form F) {A B:List Row} {v:Row} (h:Span (A ++ B) v):F (A ++ v :: B)=0:=by
 induction h with
 | zero =>
   have h:=hF.smul A B (fun _=>0) 0
   have e:(fun t:Nat=>(0:Int)*(fun _:Nat=>(0:Int)) t)=fun _=>0:=by funext t;simp
   rw[e] at h
   rw[h,Int.zero_mul]
 | @step v x c hv hx ih =>
   have h:=hF.add A B v (fun t=>c*x t)
   rw[h,ih,hF.smul A B x c,hF.mem (List.mem_append.1 hx),Int.mul_zero,Int.add_zero]
theorem Form.reduce {F:List Row->Int} (hF:Form F) {A B:List Row} {p r:Row} {c:Int} (h:Span (A ++ B) (fun t=>c*p t-r t)):c*F (A ++ p :: B)=F (A ++ r :: B):=by
 have h1:=hF.span h
 have h2:=hF.add A B (fun t=>c*p t-r t) r
 have e:(fun t=>(fun t=>c*p t-r t) t+r t)=fun t=>c*p t:=by funext t;simp only[];omega
 rw[e,hF.smul A B p c,h1,Int.zero_add] at h2
 exact h2
def sh (i:Nat) (f:Row):Row:=fun t=>if t<i then 0 else f (t-i)
def rows:Nat->Row->List Row
 | 0,_=>[]
 | a+1,f=>sh a f :: rows a f
theorem rows_length (a:Nat) (f:Row):(rows a f).length=a:=by
 induction a with
 | zero=>rfl
 | succ a ih=>simp[rows,ih]
theorem mem_rows {a i:Nat} (f:Row) (h:i<a):sh i f∈rows a f:=by
 induction a with
 | zero=>omega
 | succ a ih =>
   rcases Nat.lt_or_ge i a with h1 | h1
   ·exact List.mem_cons_of_mem _ (ih h1)
   ·have:i=a:=by omega
    subst this;exact List.mem_cons_self ..
def cols:Nat->Nat->Nat->List Nat
 | 0,_,t=>[t]
 | c+1,lo,t=>(lo+c) :: cols c lo t
theorem Form.rows_reduce {F:List Row->Int} (hF:Form F) (f r:Row) (c:Int) (G:List Row):∀ (a:Nat) (A:List Row),(∀ i,i<a->Span G (fun t=>c*sh i f t-sh i r t))->c^a*F (A ++ (rows a f ++ G))=F (A ++ (rows a r ++ G))
 | 0,A,_=>by simp[rows]
 | a+1,A,h=>by
   have h1:=hF.rows_reduce f r c G a (A ++ [sh a f]) (fun i hi=>h i (by omega))
   simp only[List.append_assoc,List.singleton_append] at h1
   simp only[rows,List.cons_append]
   rw[Int.pow_succ',Int.mul_assoc,h1]
   refine hF.reduce ?_
   have hs:=h a (by omega)
   clear h h1
   generalize (fun t=>c*sh a f t-sh a r t)=v at hs
   induction hs with
   | zero=>exact .zero
   | step c _ hx ih=>exact .step c ih (List.mem_append.2 (.inr (List.mem_append.2 (.inr hx))))
theorem det_first {d:Nat} {ds:List Nat} {p:Row} {B:List Row} (h:∀ q∈B,q d=0):det (d :: ds) (p :: B)=p d*det ds B:=by
 have hz:∀ (B:List Row) (F:List Row->Int),(∀ q∈B,q d=0)->alt (fun p=>p d) F B=0:=by
  intro B
  induction B with
  | nil=>intro F _;rfl
  | cons x B ih =>
    intro F h
    simp only[alt]
    rw[h x (List.mem_cons_self ..),ih _ (fun q hq=>h q (List.mem_cons_of_mem _ hq)),Int.zero_mul]
    rfl
 show alt (fun p=>p d) (det ds) (p :: B)=_
 simp only[alt]
 rw[hz B _ h,Int.sub_zero]
theorem rows_zero {a n d:Nat} {g:Row} (hg:∀ t,n<t->g t=0) (hd:a+n<=d):∀ q∈rows a g,q d=0:=by
 induction a with
 | zero=>intro q hq;simp[rows] at hq
 | succ a ih =>
   intro q hq
   rcases List.mem_cons.1 hq with rfl | hq
   ·unfold sh
    rw[if_neg (by omega)]
    exact hg _ (by omega)
   ·exact ih (by omega) q hq
theorem det_strip1 {b a n k lo t:Nat} {g r:Row} (hg:∀ t,n<t->g t=0) (hr:∀ t,k<t->r t=0) (hn:lo+a=n+1) (hk:k+1<=lo+b) (ha:0<a) :
  det (cols (b+a) lo t) (rows (b+1) g ++ rows a r)=g n*det (cols (b+a-1) lo t) (rows b g ++ rows a r):=by
 obtain ⟨c,hc⟩:∃ c,b+a=c+1:=⟨b+a-1,by omega⟩
 rw[hc]
 show det ((lo+c) :: cols c lo t) (sh b g :: (rows b g ++ rows a r))=_
 rw[det_first]
 ·have e1:sh b g (lo+c)=g n:=by
   unfold sh
   rw[if_neg (by omega)]
   congr 1
   omega
  rw[e1]
  rfl
 ·intro q hq
  rcases List.mem_append.1 hq with hq | hq
  ·exact rows_zero hg (by omega) q hq
  ·exact rows_zero hr (by omega) q hq
theorem det_strip {b' a n k lo t:Nat} {g r:Row} (hg:∀ t,n<t->g t=0) (hr:∀ t,k<t->r t=0) (hn:lo+a=n+1) (hk:k+1<=lo+b') (ha:0<a):∀ x:Nat,
  det (cols (b'+x+a-1) lo t) (rows (b'+x) g ++ rows a r)=g n^x*det (cols (b'+a-1) lo t) (rows b' g ++ rows a r)
 | 0=>by simp
 | x+1=>by
   have h:=det_strip hg hr hn hk ha x (t:=t)
   have h1:=det_strip1 (b:=b'+x) (t:=t) hg hr hn (by omega) ha
   rw[show b'+(x+1)+a-1=b'+x+a by omega,show b'+(x+1)=b'+x+1 by omega,h1,h,Int.pow_succ',Int.mul_assoc]
def sres (f:Row) (m:Nat) (g:Row) (n j t:Nat):Int:=det (cols (n-j+(m-j)-1) (j+1) t) (rows (n-j) f ++ rows (m-j) g)
def PsDiv (c:Int) (e:Nat) (f g r:Row) (m n:Nat):Prop:=∀ i j,j<n->i<n-j->m≥n->Span (rows (m-j) g) (fun t=>c^e*sh i f t-sh i r t)
theorem sres_step {f g r:Row} {m n k j e t:Nat} {c:Int} (hd:PsDiv c e f g r m n) (hmn:n<=m) (hg:∀ t,n<t->g t=0) (hr:∀ t,k<t->r t=0) (hk:k<n) (hj:j<=k) :
  c^(e*(n-j))*sres f m g n j t=(-1)^((n-j)*(m-j))*(g n^(m-k)*sres g n r k j t):=by
 unfold sres
 have h1:=(det_form (cols (n-j+(m-j)-1) (j+1) t)).rows_reduce f r (c^e) (rows (m-j) g) (n-j) [] (fun i hi=>hd i j (by omega) hi hmn)
 simp only[List.nil_append] at h1
 rw[Int.pow_mul,h1]
 have h2:=Form.blocks [] (rows (n-j) r) _ (det_form (cols (n-j+(m-j)-1) (j+1) t)) (rows (m-j) g)
 simp only[List.append_nil,rows_length] at h2
 rw[h2]
 congr 1
 have h3:=det_strip (b':=k-j) (a:=n-j) (n:=n) (k:=k) (lo:=j+1) (t:=t) hg hr (by omega) (by omega) (by omega) (m-k)
 rw[show k-j+(m-k)+(n-j)-1=n-j+(m-j)-1 by omega,show k-j+(m-k)=m-j by omega] at h3
 rw[h3]
theorem sres_rem {f g r:Row} {m n e t:Nat} {c:Int} (hd:PsDiv c e f g r m n) (hmn:n<=m) (hn:0<n) (hg:∀ t,n<t->g t=0) (hr:∀ t,n<=t->r t=0) :
  c^e*sres f m g n (n-1) t=(-1)^(m-n+1)*(g n^(m-n+1)*r t):=by
 unfold sres
 have e1:n-(n-1)=1:=by omega
 have e2:m-(n-1)=m-n+1:=by omega
 have h1:=(det_form (cols (n-(n-1)+(m-(n-1))-1) (n-1+1) t)).rows_reduce f r (c^e) (rows (m-(n-1)) g) (n-(n-1)) [] (fun i hi=>hd i (n-1) (by omega) hi hmn)
 simp only[List.nil_append] at h1
 rw[e1,e2] at h1 ⊢
 rw[Int.pow_one] at h1
 rw[h1]
 have h2:=Form.blocks [] (rows 1 r) _ (det_form (cols (1+(m-n+1)-1) (n-1+1) t)) (rows (m-n+1) g)
 simp only[List.append_nil,rows_length,Nat.one_mul] at h2
 rw[h2]
 congr 1
 have h3:=det_strip (b':=0) (a:=1) (n:=n) (k:=n-1) (lo:=n-1+1) (t:=t) hg (fun t ht=>hr t (by omega)) (by omega) (by omega) (by omega) (m-n+1)
 rw[show 0+(m-n+1)+1-1=1+(m-n+1)-1 by omega,Nat.zero_add] at h3
 rw[h3]
 congr 1
 show det [t] [sh 0 r]=r t
 simp[det,alt,sh]
theorem sres_top {f g:Row} {m n t:Nat} (hg:∀ t,n<t->g t=0) (hmn:n<m):sres f m g n n t=g n^(m-n-1)*g t:=by
 unfold sres
 rw[Nat.sub_self,Nat.zero_add]
 show det _ ([] ++ rows (m-n) g)=_
 rw[List.nil_append]
 obtain ⟨x,hx⟩:∃ x,m-n=x+1:=⟨m-n-1,by omega⟩
 rw[hx,Nat.add_sub_cancel]
 clear hx
 induction x with
 | zero=>simp[cols,rows,det,alt,sh]
 | succ x ih =>
   show det ((n+1+x) :: cols x (n+1) t) (sh (x+1) g :: rows (x+1) g)=_
   rw[det_first (rows_zero hg (by omega)),ih]
   have e1:sh (x+1) g (n+1+x)=g n:=by
    unfold sh
    rw[if_neg (by omega)]
    congr 1
    omega
   rw[e1,Int.pow_succ',Int.mul_assoc]
theorem Form.rows_smul {F:List Row->Int} (hF:Form F) (f:Row) (c:Int) (G:List Row):∀ (a:Nat) (A:List Row),F (A ++ (rows a (fun t=>c*f t) ++ G))=c^a*F (A ++ (rows a f ++ G))
 | 0,A=>by simp[rows]
 | a+1,A=>by
   have e:sh a (fun t=>c*f t)=fun t=>c*sh a f t:=by
    funext t
    unfold sh
    by_cases h:t<a
    ·rw[if_pos h,if_pos h,Int.mul_zero]
    ·rw[if_neg h,if_neg h]
   have h1:=hF.rows_smul f c G a (A ++ [sh a f])
   simp only[List.append_assoc,List.singleton_append] at h1
   simp only[rows,List.cons_append]
   rw[e,hF.smul A,h1,Int.pow_succ',Int.mul_assoc]
theorem sres_smul {f g:Row} {m n j t:Nat} (c:Int):sres f m (fun t=>c*g t) n j t=c^(m-j)*sres f m g n j t:=by
 unfold sres
 have h:=(det_form (cols (n-j+(m-j)-1) (j+1) t)).rows_smul g c [] (m-j) (rows (n-j) f)
 simp only[List.append_nil] at h
 exact h
theorem powcancel {c C s s' S X δ u w y:Nat} (hc:0<c) (hC:0<C) (hs:0<s) (hu:u+1=y+w) (h2:(0<δ/\s'*s^(δ-1)=c^δ)∨(δ=0/\s'=1/\s=1))
  (h1:c^((δ+1)*(u+1))*(C^(u+1)*(s^(δ+u)*S))=c^(δ+y)*((C*s^δ)^(u+1)*X)):X=c^w*(s'^u*S):=by
 have hK:0<c^(δ+y)*((C*s^δ)^(u+1)):=Nat.mul_pos (Nat.pow_pos hc) (Nat.pow_pos (Nat.mul_pos hC (Nat.pow_pos hs)))
 refine Nat.eq_of_mul_eq_mul_left hK ?_
 rw[Nat.mul_assoc,<- h1]
 have key:s^(δ*(u+1))*s'^u=s^(δ+u)*c^(δ*u):=by
  rcases h2 with ⟨h0,h2⟩ | ⟨h0,h2,h3⟩
  ·rw[Nat.pow_mul c,<- h2,Nat.mul_pow,<- Nat.pow_mul]
   have e:δ*(u+1)=δ+u+(δ-1)*u:=by
    obtain ⟨d,rfl⟩:∃ d,δ=d+1:=⟨δ-1,by omega⟩
    rw[Nat.add_sub_cancel,Nat.mul_succ,Nat.succ_mul];omega
   rw[e,Nat.pow_add,Nat.mul_assoc,Nat.mul_comm (s'^u)]
  ·subst h0 h2 h3;simp
 have e1:c^((δ+1)*(u+1))=c^(δ+y)*(c^w*c^(δ*u)):=by
  rw[<- Nat.pow_add,<- Nat.pow_add]
  congr 1
  rw[Nat.succ_mul,Nat.mul_succ];omega
 rw[e1,Nat.mul_pow,<- Nat.pow_mul]
 calc c^(δ+y)*(c^w*c^(δ*u))*(C^(u+1)*(s^(δ+u)*S))
   = c^(δ+y)*(C^(u+1)*(c^w*((s^(δ+u)*c^(δ*u))*S))):=by ac_rfl
  _=c^(δ+y)*(C^(u+1)*(c^w*((s^(δ*(u+1))*s'^u)*S))):=by rw[key]
  _=_:=by ac_rfl
structure Prs (f:Row) (m:Nat) (g:Row) (n:Nat) (a:Row) (na:Nat) (b:Row) (nb:Nat) (C s:Int):Prop where
 C0:C≠0
 s0:s≠0
 le:nb<=na
 eq:nb=na->s.natAbs=1
 b0:b nb≠0
 bz:∀ t,nb<t->b t=0
 rel:∀ j,j<=nb->∀ t,(sres a na b nb j t).natAbs=C.natAbs^(nb-j)*(s.natAbs^(na-j-1)*(sres f m g n j t).natAbs)
theorem pow_ne {z:Int} (h:z≠0) (k:Nat):z^k≠0:=Int.pow_ne_zero h
theorem natAbs_sign (k:Nat) (z:Int):((-1)^k*z).natAbs=z.natAbs:=by
 rw[Int.natAbs_mul,Int.natAbs_pow];simp
section
variable {f g a b:Row} {m n na nb:Nat} {C s:Int}
theorem Prs.rem (h:Prs f m g n a na b nb C s) {r:Row} (hd:PsDiv (b nb) (na-nb+1) a b r na nb) (hr:∀ t,nb<=t->r t=0) (hn:0<nb) (t:Nat) :
  (r t).natAbs=C.natAbs*s.natAbs^(na-nb)*(sres f m g n (nb-1) t).natAbs:=by
 have h1:=congrArg Int.natAbs (sres_rem (t:=t) hd h.le hn h.bz hr)
 rw[natAbs_sign,Int.natAbs_mul,Int.natAbs_mul,h.rel (nb-1) (by omega) t] at h1
 have h2:=Nat.eq_of_mul_eq_mul_left (Int.natAbs_pos.2 (pow_ne h.b0 _)) h1
 have hle:=h.le
 rw[<- h2,show nb-(nb-1)=1 by omega,show na-(nb-1)-1=na-nb by omega,Nat.pow_one,Nat.mul_assoc]
theorem Prs.psi (h:Prs f m g n a na b nb C s) (hlt:nb<na):(b nb).natAbs^(na-nb)=s.natAbs^(na-nb-1)*(sres f m g n nb nb).natAbs:=by
 have h1:=h.rel nb (Nat.le_refl _) nb
 rw[sres_top h.bz hlt,Nat.sub_self,Nat.pow_zero,Nat.one_mul,Int.natAbs_mul,Int.natAbs_pow,<- Nat.pow_succ] at h1
 rw[<- h1]
 congr 1
 omega
theorem Prs.next (h:Prs f m g n a na b nb C s) {r x:Row} {k:Nat} {dv s':Int} (hd:PsDiv (b nb) (na-nb+1) a b r na nb) (hk:k<nb)
  (hr:∀ t,r t=dv*x t) (hdv:dv.natAbs=C.natAbs*s.natAbs^(na-nb)) (hx:x k≠0) (hxz:∀ t,k<t->x t=0)
  (hs':(nb<na/\s'.natAbs*s.natAbs^(na-nb-1)=(b nb).natAbs^(na-nb))∨(nb=na/\s'.natAbs=1)):Prs f m g n b nb x k (b nb) s':=by
 have hle:=h.le
 have hb0:0<(b nb).natAbs:=Int.natAbs_pos.2 h.b0
 have hs0:0<s.natAbs:=Int.natAbs_pos.2 h.s0
 have hC0:0<C.natAbs:=Int.natAbs_pos.2 h.C0
 have hs'0:s'≠0:=by
  rcases hs' with ⟨_,h1⟩ | ⟨_,h1⟩
  ·intro e
   subst e
   have:0<(b nb).natAbs^(na-nb):=Nat.pow_pos hb0
   rw[<- h1] at this
   simp at this
  ·intro e;subst e;simp at h1
 refine ⟨h.b0,hs'0,Nat.le_of_lt hk,fun e=>by omega,hx,hxz,fun j hj t=>?_⟩
 have hrz:∀ t,k<t->r t=0:=fun t ht=>by rw[hr,hxz t ht,Int.mul_zero]
 have h1:=congrArg Int.natAbs (sres_step (t:=t) hd hle h.bz hrz hk hj)
 have er:r=fun t=>dv*x t:=funext hr
 rw[er,sres_smul,natAbs_sign] at h1
 simp only[Int.natAbs_mul,Int.natAbs_pow] at h1
 rw[h.rel j (by omega) t,hdv] at h1
 obtain ⟨u,hu⟩:∃ u,nb-j=u+1:=⟨nb-j-1,by omega⟩
 have h2:=powcancel (c:=(b nb).natAbs) (C:=C.natAbs) (s:=s.natAbs) (s':=s'.natAbs) (S:=(sres f m g n j t).natAbs) (X:=(sres b nb x k j t).natAbs) (δ:=na-nb) (u:=u) (w:=k-j) (y:=nb-k) hb0 hC0 hs0 (by omega)
  (by rcases hs' with ⟨h3,h4⟩ | ⟨h3,h4⟩
      ·exact .inl ⟨by omega,h4⟩
      ·exact .inr ⟨by omega,h4,h.eq h3⟩)
  (by rw[show na-nb+(nb-k)=na-k by omega,<- hu,show na-nb+u=na-j-1 by omega];exact h1)
 rw[h2,show nb-j-1=u by omega]
end
theorem Prs.start {f g:Row} {m n:Nat} {s:Int} (hs:s.natAbs=1) (hmn:n<=m) (hg0:g n≠0) (hgz:∀ t,n<t->g t=0):Prs f m g n f m g n 1 s :=
 ⟨by omega,by intro e;subst e;simp at hs,hmn,fun _=>hs,hg0,hgz,fun j _ t=>by rw[hs];simp⟩
theorem det_le (H:Nat):∀ (ds:List Nat) (ps:List Row),(∀ p∈ps,∀ t,(p t).natAbs<=H)->(det ds ps).natAbs<=(ps.length*H)^ds.length:=by
 have halt:∀ (h:Row->Int) (K:Nat) (ps:List Row) (F:List Row->Int),(∀ p∈ps,(h p).natAbs<=H)->(∀ A p B,ps=A ++ p :: B->(F (A ++ B)).natAbs<=K)->(alt h F ps).natAbs<=ps.length*H*K:=by
  intro h K ps
  induction ps with
  | nil=>intro F _ _;simp[alt]
  | cons p r ih =>
    intro F hp hF
    simp only[alt]
    have h1:=ih (fun q=>F (p :: q)) (fun q hq=>hp q (List.mem_cons_of_mem _ hq)) (fun A x B e=>by
     have:=hF (p :: A) x B (by rw[e];rfl)
     simpa using this)
    have h2:(h p*F r).natAbs<=H*K:=by
     rw[Int.natAbs_mul]
     exact Nat.mul_le_mul (hp p (List.mem_cons_self ..)) (by simpa using hF [] p r rfl)
    have h3:(h p*F r-alt h (fun q=>F (p :: q)) r).natAbs<=(h p*F r).natAbs+(alt h (fun q=>F (p :: q)) r).natAbs:=by omega
    rw[List.length_cons,Nat.succ_mul,Nat.add_mul]
    omega
 intro ds
 induction ds with
 | nil=>intro ps _;cases ps<;>simp[det]
 | cons d ds ih =>
   intro ps hps
   have h1:=halt (fun p=>p d) (((ps.length-1)*H)^ds.length) ps (det ds) (fun p hp=>hps p hp d) (fun A p B e=>by
    have:=ih (A ++ B) (fun q hq=>hps q (by rw[e];exact List.mem_append.2 ((List.mem_append.1 hq).imp id (List.mem_cons_of_mem _))))
    rw[show ps.length-1=(A ++ B).length by rw[e];simp]
    exact this)
   refine Nat.le_trans h1 ?_
   rw[List.length_cons,Nat.pow_succ,Nat.mul_comm]
   exact Nat.mul_le_mul_right _ (Nat.pow_le_pow_left (Nat.mul_le_mul_right _ (by omega)) _)
theorem cols_length (c lo t:Nat):(cols c lo t).length=c+1:=by
 induction c with
 | zero=>rfl
 | succ c ih=>simp[cols,ih]
theorem rows_le {a H:Nat} {f:Row} (h:∀ t,(f t).natAbs<=H):∀ p∈rows a f,∀ t,(p t).natAbs<=H:=by
 induction a with
 | zero=>intro p hp;simp[rows] at hp
 | succ a ih =>
   intro p hp t
   rcases List.mem_cons.1 hp with rfl | hp
   ·unfold sh
    by_cases h1:t<a
    ·rw[if_pos h1];simp
    ·rw[if_neg h1];exact h _
   ·exact ih p hp t
theorem sres_le {f g:Row} {m n j t H:Nat} (hf:∀ t,(f t).natAbs<=H) (hg:∀ t,(g t).natAbs<=H) (hx:0<n-j+(m-j)):(sres f m g n j t).natAbs<=((n-j+(m-j))*H)^(n-j+(m-j)):=by
 unfold sres
 have h:=det_le H (cols (n-j+(m-j)-1) (j+1) t) (rows (n-j) f ++ rows (m-j) g) (fun p hp=>by
  rcases List.mem_append.1 hp with h | h
  ·exact rows_le hf p h
  ·exact rows_le hg p h)
 rw[cols_length,List.length_append,rows_length,rows_length,Nat.sub_add_cancel hx] at h
 exact h
end Go.Proofs.YtpeiiomjnjemjaaGreat
namespace Go.Proofs.YtpeiiomjnjemjaaGreat
abbrev fn (p:List Int):Row:=fun k=>p.getD k 0
def qs (q g:Row) (i t:Nat):Nat->Int
 | 0=>0
 | L+1=>qs q g i t L+q L*sh (i+L) g t
theorem span_qs {q g:Row} {i M:Nat}:∀ L,i+L<=M->Span (rows M g) (fun t=>qs q g i t L)
 | 0,_=>.zero
 | L+1,h=>.step (q L) (span_qs L (by omega)) (mem_rows g (by omega))
theorem qs_low {q g:Row} {i t:Nat} (h:t<i):∀ L,qs q g i t L=0
 | 0=>rfl
 | L+1=>by
   rw[qs,qs_low h L]
   unfold sh
   rw[if_pos (by omega)];simp
theorem qs_cut {q g:List Int} {i t:Nat} (h:i<=t):∀ L,qs (fn q) (fn g) i t L=pcs q g (t-i) (min L (t-i+1))
 | 0=>by simp[qs,pcs]
 | L+1=>by
   rw[qs,qs_cut h L]
   unfold sh
   by_cases h1:t<i+L
   ·rw[if_pos h1,Int.mul_zero,Int.add_zero,show min (L+1) (t-i+1)=min L (t-i+1) by omega]
   ·rw[if_neg h1,show min (L+1) (t-i+1)=L+1 by omega,show min L (t-i+1)=L by omega,pcs,show t-(i+L)=t-i-L by omega]
theorem pcs_stop {q g:List Int} {k:Nat}:∀ x L,q.length<=L->pcs q g k (L+x)=pcs q g k L
 | 0,_,_=>rfl
 | x+1,L,h=>by
   rw[<- Nat.add_assoc,pcs,pcs_stop x L h,getD_out q (by omega)];simp
theorem qs_pc {q g:List Int} {i t L:Nat} (h:i<=t) (hL:q.length<=L):qs (fn q) (fn g) i t L=pc q g (t-i):=by
 rw[qs_cut h,pc]
 rcases Nat.le_total L (t-i+1) with h1 | h1
 ·rw[Nat.min_eq_left h1]
  have:=pcs_stop (q:=q) (g:=g) (k:=t-i) (t-i+1-L) L hL
  rw[show L+(t-i+1-L)=t-i+1 by omega] at this
  rw[this]
 ·rw[Nat.min_eq_right h1]
theorem fn_trim (p:List Int):fn (ptrim p)=fn p:=funext fun k=>ptrim_getD p k
theorem psq_short (f g:List Int):(psq f g).length<=plen f-(plen g-1):=by
 unfold psq
 split
 ·simp
 ·rw[ptrim_length]
  refine Nat.le_trans (plen_le _) ?_
  rw[psn_length1];exact Nat.le_refl _
theorem psDiv_of (a b:List Int) (hb:1<=plen b) (ha:plen b<=plen a):PsDiv (fn b (plen b-1)) (plen a-1-(plen b-1)+1) (fn a) (fn b) (fn (psr a b)) (plen a-1) (plen b-1):=by
 intro i j hj hi _
 have hs:=span_qs (q:=fn (psq a b)) (g:=fn b) (i:=i) (M:=plen a-1-j) (plen a-(plen b-1)) (by omega)
 have e:(fun t=>qs (fn (psq a b)) (fn b) i t (plen a-(plen b-1)))=(fun t=>fn b (plen b-1)^(plen a-1-(plen b-1)+1)*sh i (fn a) t-sh i (fn (psr a b)) t):=by
  funext t
  by_cases h:t<i
  ·rw[qs_low h];unfold sh;rw[if_pos h,if_pos h];simp
  ·rw[<- fn_trim b,qs_pc (by omega) (psq_short a b),fn_trim b]
   unfold sh
   rw[if_neg h,if_neg h]
   have h1:=ps_id a b hb (t-i)
   have h2:fn b (plen b-1)=plead b:=rfl
   rw[h2,show plen a-1-(plen b-1)+1=plen a-(plen b-1) by omega]
   show pc (psq a b) (ptrim b) (t-i)=plead b^(plen a-(plen b-1))*a.getD (t-i) 0-(psr a b).getD (t-i) 0
   omega
 rw[<- e]
 exact hs
theorem ps_ev (f g:List Int) (h:1<=plen g) (x:Int):plead g^(plen f-(plen g-1))*ev f x=ev (psq f g) x*ev g x+ev (psr f g) x:=by
 rw[<- ev_psc,<- ev_trim g,<- ev_mul,<- ev_padd]
 exact ev_congr (fun k=>by rw[psc_get,padd_get,polymul_getD,ps_id f g h]) x
structure GOK (G m n e N:Nat):Prop where
 fit:G^N<BB^FW
 pos:1<=G
 e0:max 2 (m+n-2*e)<=N
 e1:∀ x,x<=m->∀ y,y<=n->e+1<=y->y<=x->max 1 (m+n+2-2*x)*(x-y)<=N
 e2:∀ x,x<=m->∀ y,y<=n->e+1<=y->y<=x->(m+n-2*x)*(x-y-1)<=N
 e3:∀ y,y<=n->∀ z,z<=n->e<=z->z<y->y<=m->(m+n-2*y)*(y-z)<=N
 sm:m+n<=400
theorem GOK.lt {G m n e N:Nat} (h:GOK G m n e N) {x i:Nat} (hx:x<=G^i) (hi:i<=N):x<BB^FW:=Nat.lt_of_le_of_lt (Nat.le_trans hx (Nat.pow_le_pow_right h.pos hi)) h.fit
theorem GOK.dl {G m n e N:Nat} (h:GOK G m n e N) {x i E:Nat} (hx:x<=G^i) (hi:i<=E):dlen x<=FW*(E+1):=by
 have h1:G<BB^FW:=h.lt (i:=1) (by rw[Nat.pow_one];exact Nat.le_refl _) (by have:=h.e0;omega)
 have h2:x<BB^(FW*(E+1)):=by
  refine Nat.lt_of_le_of_lt (Nat.le_trans hx (Nat.pow_le_pow_right h.pos hi)) ?_
  rw[Nat.pow_mul]
  exact Nat.lt_of_lt_of_le (Nat.lt_of_le_of_lt (Nat.pow_le_pow_right h.pos (Nat.le_succ E)) (Nat.pow_lt_pow_left h1 (by omega))) (Nat.le_refl _)
 exact dlen_le_of_lt h2
theorem GOK.sm' {G m n e N:Nat} (h:GOK G m n e N) {x i:Nat} (hx:x<=G^i) (hi:i<=1000000):Sm x:=Nat.le_trans (h.dl hx (Nat.le_refl i)) (by rw[FW_eq];omega)
structure SInv (f g:List Int) (m n G e:Nat) (t:RS) (C:Int):Prop where
 prs:Prs (fn f) m (fn g) n (fn t.a) (t.a.length-1) (fn t.b) (t.b.length-1) C t.s
 dv:t.dv.natAbs=C.natAbs*t.s.natAbs^(t.a.length-t.b.length)
 ta:plen t.a=t.a.length
 tb:plen t.b=t.b.length
 b0:1<=t.b.length
 lb:t.b.length<=t.a.length
 la:t.a.length<=m+1
 lg:t.b.length<=n+1
 ab:∀ k,(t.a.getD k 0).natAbs<=G^(m+n+2)
 bs:∀ k,(t.b.getD k 0).natAbs<=G^(max 1 (m+n+2-2*(t.a.length-1)))
 ss:t.s.natAbs<=G^(m+n-2*(t.a.length-1))
 Cs:C.natAbs<=G^(m+n+2)
 low:e+1<=t.b.length
 ca:Comb f g t.a
 cb:Comb f g t.b
 st:t.b.length<t.a.length∨(t.a.length=m+1/\n<=m)
theorem natAbs_dvd' {a b:Int} {c:Nat} (h:b.natAbs=a.natAbs*c):a∣b:=Int.natAbs_dvd_natAbs.1 ⟨c,h⟩
theorem tdiv_abs {a b:Int} {c:Nat} (ha:a≠0) (h:b.natAbs=a.natAbs*c):(b.tdiv a).natAbs=c:=by
 rw[Int.natAbs_tdiv,h];exact Nat.mul_div_cancel_left _ (Int.natAbs_pos.2 ha)
theorem map_tdiv_getD (p:List Int) (d:Int) (k:Nat):(p.map (·.tdiv d)).getD k 0=(p.getD k 0).tdiv d:=by
 rw[List.getD_eq_getElem?_getD,List.getD_eq_getElem?_getD,List.getElem?_map]
 cases p[k]? with
 | none=>simp
 | some x=>simp
theorem last_ne {p:List Int} (h:plen p=p.length) (h1:1<=p.length):p.getD (p.length-1) 0≠0:=plen_lead p _ (by omega)
theorem psr_trim (a b:List Int):plen (psr a b)=(psr a b).length:=by
 unfold psr
 split<;>rw[plen_ptrim,ptrim_length]
section
variable {f g:List Int} {m n G e N:Nat} {t:RS} {C:Int}
theorem SInv.dv0 (h:SInv f g m n G e t C):t.dv≠0:=by
 intro e
 have h1:=h.dv
 rw[e] at h1
 have:0<C.natAbs*t.s.natAbs^(t.a.length-t.b.length):=Nat.mul_pos (Int.natAbs_pos.2 h.prs.C0) (Nat.pow_pos (Int.natAbs_pos.2 h.prs.s0))
 rw[<- h1] at this
 simp at this
theorem SInv.psd (h:SInv f g m n G e t C):PsDiv (fn t.b (t.b.length-1)) (t.a.length-1-(t.b.length-1)+1) (fn t.a) (fn t.b) (fn (psr t.a t.b)) (t.a.length-1) (t.b.length-1):=by
 have h1:=psDiv_of t.a t.b (by rw[h.tb];exact h.b0) (by rw[h.ta,h.tb];exact h.lb)
 rw[h.ta,h.tb] at h1
 exact h1
theorem SInv.rz (h:SInv f g m n G e t C):(psr t.a t.b).length<t.b.length:=by
 have h1:=psr_plen t.a t.b (by rw[h.tb];exact h.b0)
 rw[psr_trim,h.tb] at h1
 exact h1
theorem SInv.rem (h:SInv f g m n G e t C) (hr:psr t.a t.b≠[]) (k:Nat):((psr t.a t.b).getD k 0).natAbs=t.dv.natAbs*(sres (fn f) m (fn g) n (t.b.length-1-1) k).natAbs:=by
 have h1:=h.rz
 have h0:0<(psr t.a t.b).length:=List.length_pos_iff.2 hr
 have h2:=h.prs.rem (r:=fn (psr t.a t.b)) h.psd (fun t ht=>getD_out _ (by omega)) (by omega) k
 have hlb:=h.lb
 rw[show t.a.length-1-(t.b.length-1)=t.a.length-t.b.length by omega,<- h.dv] at h2
 exact h2
theorem SInv.rest (h:SInv f g m n G e t C) (hr:psr t.a t.b≠[]) (k:Nat):(t.rest.getD k 0).natAbs=(sres (fn f) m (fn g) n (t.b.length-1-1) k).natAbs/\(psr t.a t.b).getD k 0=t.dv*t.rest.getD k 0:=by
 have h1:=h.rem hr k
 unfold RS.rest
 rw[map_tdiv_getD,ptrim_getD]
 exact ⟨tdiv_abs h.dv0 h1,(Int.mul_tdiv_cancel' (natAbs_dvd' h1)).symm⟩
theorem SInv.evs (h:SInv f g m n G e t C) (hr:psr t.a t.b≠[]):Comb t.a t.b t.rest/\Comb t.b t.rest t.a:=by
 have hb:1<=plen t.b:=by rw[h.tb];exact h.b0
 have hd:∀ x,ev (psr t.a t.b) x=t.dv*ev t.rest x:=fun x=>by
  rw[<- ev_psc]
  exact ev_congr (fun k=>by rw[psc_get];exact (h.rest hr k).2) x
 have hl:plead t.b^(plen t.a-(plen t.b-1))≠0:=pow_ne (fun e=>by have:=plead_zero.1 e;omega) _
 refine ⟨⟨t.dv,[plead t.b^(plen t.a-(plen t.b-1))],psc (-1) (psq t.a t.b),h.dv0,fun x=>?_⟩,⟨_,psq t.a t.b,[t.dv],hl,fun x=>?_⟩⟩
 ·rw[ev_const,ev_psc,ps_ev t.a t.b hb,<- hd,Int.mul_assoc,Int.neg_mul,Int.one_mul]
  omega
 ·rw[ev_const,ps_ev t.a t.b hb,hd]
theorem SInv.restLen (_h:SInv f g m n G e t C):t.rest.length=(psr t.a t.b).length:=by
 unfold RS.rest
 rw[List.length_map,ptrim_length,psr_trim]
theorem SInv.restTrim (h:SInv f g m n G e t C) (hr:psr t.a t.b≠[]):plen t.rest=t.rest.length:=by
 have h0:0<(psr t.a t.b).length:=List.length_pos_iff.2 hr
 have hl:=h.restLen
 have h1:=last_ne (psr_trim t.a t.b) h0
 have h2:=(h.rest hr ((psr t.a t.b).length-1)).2
 have h3:t.rest.getD ((psr t.a t.b).length-1) 0≠0:=fun e=>h1 (by rw[h2,e,Int.mul_zero])
 have h4:=plen_eq t.rest ((psr t.a t.b).length-1) (by have:=plen_le t.rest;omega) h3
 omega
theorem SInv.psi (h:SInv f g m n G e t C):(t.b.length<t.a.length/\t.s'.natAbs*t.s.natAbs^(t.a.length-1-(t.b.length-1)-1)=(fn t.b (t.b.length-1)).natAbs^(t.a.length-1-(t.b.length-1))/\t.s'.natAbs=(sres (fn f) m (fn g) n (t.b.length-1) (t.b.length-1)).natAbs)∨(t.b.length=t.a.length/\t.s'=t.s/\t.s'.natAbs=1):=by
 have hlb:=h.lb
 have hb0:=h.b0
 unfold RS.s' RS.d
 rcases Nat.lt_or_ge t.b.length t.a.length with h1 | h1
 ·left
  rw[if_pos (by omega)]
  have h2:=h.prs.psi (by omega)
  have h3:(t.lead^(t.a.length-t.b.length)).natAbs=(t.s^(t.a.length-t.b.length-1)).natAbs*(sres (fn f) m (fn g) n (t.b.length-1) (t.b.length-1)).natAbs:=by
   rw[Int.natAbs_pow,Int.natAbs_pow]
   have h4:t.lead.natAbs=(fn t.b (t.b.length-1)).natAbs:=by
    unfold RS.lead plead
    rw[Int.natAbs_neg,h.tb]
   rw[h4]
   rw[show t.a.length-1-(t.b.length-1)=t.a.length-t.b.length by omega] at h2
   exact h2
  have h5:=tdiv_abs (pow_ne h.prs.s0 _) h3
  rw[h5]
  refine ⟨h1,?_,rfl⟩
  rw[h2,Nat.mul_comm]
 ·right
  rw[if_neg (by omega)]
  exact ⟨by omega,rfl,h.prs.eq (by omega)⟩
theorem sres_G (hf:∀ k,(f.getD k 0).natAbs*(m+n)<=G) (hg:∀ k,(g.getD k 0).natAbs*(m+n)<=G) {j:Nat} (hjm:j<=m) (hjn:j<=n) (hx:0<n-j+(m-j)) (k:Nat):(sres (fn f) m (fn g) n j k).natAbs<=G^(m+n-2*j):=by
 obtain ⟨H,hH⟩:∃ H,H=G / (m+n):=⟨_,rfl⟩
 have hp:0<m+n:=by omega
 have h1:∀ k,(fn f k).natAbs<=H:=fun k=>by rw[hH];exact (Nat.le_div_iff_mul_le hp).2 (hf k)
 have h2:∀ k,(fn g k).natAbs<=H:=fun k=>by rw[hH];exact (Nat.le_div_iff_mul_le hp).2 (hg k)
 refine Nat.le_trans (sres_le h1 h2 hx) ?_
 rw[show m+n-2*j=n-j+(m-j) by omega]
 refine Nat.pow_le_pow_left ?_ _
 calc (n-j+(m-j))*H<=(m+n)*H:=Nat.mul_le_mul_right _ (by omega)
  _=H*(m+n):=Nat.mul_comm _ _
  _<=G:=by rw[hH];exact Nat.div_mul_le_self _ _
theorem SInv.step (h:SInv f g m n G e t C) (ok:GOK G m n e N) (hlow:∀ p,Comb f g p->1<=plen p->e+1<=plen p) (hf:∀ k,(f.getD k 0).natAbs*(m+n)<=G) (hg:∀ k,(g.getD k 0).natAbs*(m+n)<=G) (hr:psr t.a t.b≠[]):t.goes/\SInv f g m n G e t.next (fn t.b (t.b.length-1))/\t.rest.length<t.b.length:=by
 have hlb:=h.lb
 have hb0:=h.b0
 have hla:=h.la
 have hlg:=h.lg
 have hrz:=h.rz
 have hrl:=h.restLen
 have h0:0<(psr t.a t.b).length:=List.length_pos_iff.2 hr
 have hsm:=ok.sm
 have hrest:=h.rest hr
 have hrs:∀ k,(t.rest.getD k 0).natAbs<=G^(m+n+2-2*(t.b.length-1)):=fun k=>by
  rw[(hrest k).1]
  have:=sres_G hf hg (j:=t.b.length-1-1) (by omega) (by omega) (by omega) k
  rw[show m+n-2*(t.b.length-1-1)=m+n+2-2*(t.b.length-1) by omega] at this
  exact this
 have hs':t.s'.natAbs<=G^(m+n-2*(t.b.length-1)):=by
  rcases h.psi with ⟨h1,_,h3⟩ | ⟨h1,_,h3⟩
  ·rw[h3]
   exact sres_G hf hg (by omega) (by omega) (by omega) _
  ·rw[h3];exact Nat.pow_pos ok.pos
 have hs'0:t.s'≠0:=by
  intro e
  rcases h.psi with ⟨_,h1,_⟩ | ⟨_,_,h1⟩
  ·have:0<(fn t.b (t.b.length-1)).natAbs^(t.a.length-1-(t.b.length-1)):=Nat.pow_pos (Int.natAbs_pos.2 h.prs.b0)
   rw[<- h1,e] at this
   simp at this
  ·rw[e] at h1;simp at h1
 have hlead:t.lead.natAbs=(fn t.b (t.b.length-1)).natAbs:=by
  unfold RS.lead plead
  rw[Int.natAbs_neg,h.tb]
 have hC:(fn t.b (t.b.length-1)).natAbs<=G^(max 1 (m+n+2-2*(t.a.length-1))):=h.bs _
 have hdv:t.dv.natAbs<=G^(m+n+2+(m+n-2*(t.a.length-1))*(t.a.length-t.b.length)):=by
  rw[h.dv,Nat.pow_add,Nat.pow_mul]
  exact Nat.mul_le_mul h.Cs (Nat.pow_le_pow_left h.ss _)
 have hexp:(m+n-2*(t.a.length-1))*(t.a.length-t.b.length)<=400*400:=Nat.mul_le_mul (by omega) (by omega)
 have he0:=ok.e0
 have hlw:=h.low
 have crest:Comb f g t.rest:=Comb.trans h.ca h.cb (h.evs hr).1
 have hrt:=h.restTrim hr
 have hlr:=hlow t.rest crest (by omega)
 refine ⟨⟨fun c hc=>?_,by omega,h.dv0,ok.sm' hdv (by omega),h.prs.s0,ok.lt h.ss (by omega),?_,?_,hs'0,ok.lt hs' (by omega),?_,by omega⟩,⟨?_,?_,h.tb,h.restTrim hr,?_,?_,?_,?_,?_,?_,hs',?_,?_,h.cb,crest,.inl (show t.rest.length<t.b.length by omega)⟩,by omega⟩
 · -- the remainder
   obtain ⟨k,hk,rfl⟩:=List.mem_iff_getElem.1 hc
   have h1:=(hrest k).2
   have h2:(psr t.a t.b)[k]=(psr t.a t.b).getD k 0:=by rw[List.getD_eq_getElem?_getD,List.getElem?_eq_getElem hk];rfl
   have h3:((psr t.a t.b)[k]).natAbs<=G^(m+n+2+(m+n-2*(t.a.length-1))*(t.a.length-t.b.length)+(m+n+2)):=by
    rw[h2,h1,Int.natAbs_mul,Nat.pow_add]
    exact Nat.mul_le_mul hdv (Nat.le_trans (hrs k) (Nat.pow_le_pow_right ok.pos (by omega)))
   exact ok.sm' h3 (by omega)
 ·show (t.lead^t.d).natAbs<BB^FW
  rw[Int.natAbs_pow,hlead]
  refine ok.lt (i:=max 1 (m+n+2-2*(t.a.length-1))*t.d) (by rw[Nat.pow_mul];exact Nat.pow_le_pow_left hC _) ?_
  have:=ok.e1 (t.a.length-1) (by omega) (t.b.length-1) (by omega) (by omega) (by omega)
  unfold RS.d
  rw[show t.a.length-1-(t.b.length-1)=t.a.length-t.b.length by omega] at this
  exact this
 ·show (t.s^(t.d-1)).natAbs<BB^FW
  rw[Int.natAbs_pow]
  refine ok.lt (i:=(m+n-2*(t.a.length-1))*(t.d-1)) (by rw[Nat.pow_mul];exact Nat.pow_le_pow_left h.ss _) ?_
  have:=ok.e2 (t.a.length-1) (by omega) (t.b.length-1) (by omega) (by omega) (by omega)
  unfold RS.d
  rw[show t.a.length-1-(t.b.length-1)=t.a.length-t.b.length by omega] at this
  exact this
 ·show (t.s'^(t.b.length-t.rest.length)).natAbs<BB^FW
  rw[Int.natAbs_pow]
  refine ok.lt (i:=(m+n-2*(t.b.length-1))*(t.b.length-t.rest.length)) (by rw[Nat.pow_mul];exact Nat.pow_le_pow_left hs' _) ?_
  have:=ok.e3 (t.b.length-1) (by omega) (t.rest.length-1) (by omega) (by omega) (by omega) (by omega)
  rw[show t.b.length-1-(t.rest.length-1)=t.b.length-t.rest.length by omega] at this
  exact this
 · -- the next state
   show Prs (fn f) m (fn g) n (fn t.b) (t.b.length-1) (fn t.rest) (t.rest.length-1) _ t.s'
   refine h.prs.next h.psd (by omega) (fun k=>(hrest k).2) (by rw[h.dv];congr 2;omega) (last_ne (h.restTrim hr) (by omega)) (fun k hk=>getD_out _ (by omega)) ?_
   rcases h.psi with ⟨h1,h2,_⟩ | ⟨h1,_,h3⟩
   ·exact .inl ⟨by omega,h2⟩
   ·exact .inr ⟨by omega,h3⟩
 ·show (t.lead*t.s'^(t.b.length-t.rest.length)).natAbs=_
  rw[Int.natAbs_mul,Int.natAbs_pow,hlead]
  rfl
 ·show 1<=t.rest.length;omega
 ·show t.rest.length<=t.b.length;omega
 ·show t.b.length<=m+1;omega
 ·show t.rest.length<=n+1;omega
 ·intro k
  exact Nat.le_trans (h.bs k) (Nat.pow_le_pow_right ok.pos (by omega))
 ·intro k
  exact Nat.le_trans (hrs k) (Nat.pow_le_pow_right ok.pos (Nat.le_max_right _ _))
 ·exact Nat.le_trans hC (Nat.pow_le_pow_right ok.pos (by omega))
 ·show e+1<=t.rest.length;omega
theorem SInv.fits (h:SInv f g m n G e t C) (ok:GOK G m n e N):t.fits:=by
 have hlb:=h.lb
 have hla:=h.la
 have hsm:=ok.sm
 have he0:=ok.e0
 have hlw:=h.low
 have hst:=h.st
 refine ⟨fun k=>ok.lt (h.bs k) (by omega),by rw[h.tb];exact h.b0,fun k=>?_,by omega,hlb⟩
 exact Nat.le_trans (ok.dl (h.ab k) (Nat.le_refl _)) (by rw[FW_eq];omega)
theorem SInv.rok (ok:GOK G m n e N) (hlow:∀ p,Comb f g p->1<=plen p->e+1<=plen p) (hf:∀ k,(f.getD k 0).natAbs*(m+n)<=G) (hg:∀ k,(g.getD k 0).natAbs*(m+n)<=G):∀ (k:Nat) (t:RS) (C:Int),SInv f g m n G e t C->t.b.length<=k->rOK k t
 | 0,t,C,h,hk=>by have:=h.b0;omega
 | k+1,t,C,h,hk=>⟨h.fits ok,fun hr=>by
    obtain ⟨h1,h2,h3⟩:=h.step ok hlow hf hg hr
    exact ⟨h1,SInv.rok ok hlow hf hg k t.next _ h2 (by show t.rest.length<=k;omega)⟩⟩
theorem SInv.els (ok:GOK G m n e N) (hlow:∀ p,Comb f g p->1<=plen p->e+1<=plen p) (hf:∀ k,(f.getD k 0).natAbs*(m+n)<=G) (hg:∀ k,(g.getD k 0).natAbs*(m+n)<=G):∀ (k:Nat) (t:RS) (C:Int),SInv f g m n G e t C->∀ p∈rsq k t,(∀ k,(p.getD k 0).natAbs<=G^(m+n+2))/\p.length<=n+1/\plen p=p.length/\1<=p.length
 | 0,t,C,h,p,hp=>by simp[rsq] at hp
 | k+1,t,C,h,p,hp=>by
   by_cases hr:psr t.a t.b=[]
   ·simp[rsq,hr] at hp
   ·obtain ⟨_,h2,_⟩:=h.step ok hlow hf hg hr
    rw[rsq,if_neg hr] at hp
    rcases List.mem_cons.1 hp with rfl | hp
    ·exact ⟨fun j=>Nat.le_trans (h2.bs j) (Nat.pow_le_pow_right ok.pos (by omega)),h2.lg,h2.tb,h2.b0⟩
    ·exact SInv.els ok hlow hf hg k t.next _ h2 p hp
theorem SInv.els_deg (ok:GOK G m n e N) (hlow:∀ p,Comb f g p->1<=plen p->e+1<=plen p) (hf:∀ k,(f.getD k 0).natAbs*(m+n)<=G) (hg:∀ k,(g.getD k 0).natAbs*(m+n)<=G):∀ (k:Nat) (t:RS) (C:Int),SInv f g m n G e t C->∀ p∈rsq k t,∀ j,(p.getD j 0).natAbs<=G^(max 1 (m+n+2-2*p.length))
 | 0,t,C,h,p,hp=>by simp[rsq] at hp
 | k+1,t,C,h,p,hp=>by
   by_cases hr:psr t.a t.b=[]
   ·simp[rsq,hr] at hp
   ·obtain ⟨_,h2,h3⟩:=h.step ok hlow hf hg hr
    rw[rsq,if_neg hr] at hp
    rcases List.mem_cons.1 hp with rfl | hp
    ·intro j
     refine Nat.le_trans (h2.bs j) (Nat.pow_le_pow_right ok.pos ?_)
     show max 1 (m+n+2-2*(t.b.length-1))<=_
     omega
    ·exact SInv.els_deg ok hlow hf hg k t.next _ h2 p hp
end
theorem sinv_start {f g:List Int} {m n G e:Nat} (he:e<=n) (hf1:f.length=m+1) (hg1:g.length=n+1) (tf:plen f=f.length) (tg:plen g=g.length) (hmn:n<=m) (hG:1<=G) (hf:∀ k,(f.getD k 0).natAbs<=G) (hg:∀ k,(g.getD k 0).natAbs<=G) :
  SInv f g m n G e ⟨f,g,-1,(-1)^(f.length-g.length+1)⟩ 1:=by
 refine ⟨?_,?_,tf,tg,by dsimp only;omega,by dsimp only;omega,by dsimp only;omega,by dsimp only;omega,fun k=>?_,fun k=>?_,Nat.pow_pos hG,Nat.pow_pos hG,by dsimp only;omega,Comb.left _ _,Comb.right _ _,.inr ⟨hf1,hmn⟩⟩
 ·have h:=Prs.start (f:=fn f) (g:=fn g) (m:=m) (n:=n) (s:=-1) rfl hmn (by have:=last_ne tg (by omega);rw[hg1] at this;exact this) (fun t ht=>getD_out _ (by omega))
  simp only[hf1,hg1,Nat.add_sub_cancel]
  exact h
 ·rw[Int.natAbs_pow];simp
 ·exact Nat.le_trans (hf k) (by calc G=G^1:=(Nat.pow_one _).symm
                  _<=_:=Nat.pow_le_pow_right hG (by omega))
 ·exact Nat.le_trans (hg k) (by calc G=G^1:=(Nat.pow_one _).symm
                  _<=_:=Nat.pow_le_pow_right hG (Nat.le_max_left _ _))
end Go.Proofs.YtpeiiomjnjemjaaGreat
