/- Roots of two polynomials that are not common are an explicit distance apart. Plain: no program. -/
import Derived.Test.YtkefcldcfeolbaaGreatHdy
namespace Go.Proofs.YtkefcldcfeolbaaGreat
open Go.RowKit
theorem avL {S T:List Int} {k:Nat} (tS:aaf S=S) (tT:aaf T=T) (l2:2<=aad T) (lT:aad T<=aad S) (l10:aad S<=10) (hb:∀ j,(S.getD j 0).natAbs<=BB^k) (hd:∀ j,(T.getD j 0).natAbs<=BB^k) (hk:k<=60) (hc:∀ p,Dvq p S->Dvq p T->aad p<=1) :
  ∃ (U V:List Int) (c:Int),c≠0/\U.length<=10/\V.length<=10/\(∀ j,(U.getD j 0).natAbs<=BB^(20*(k+3)))/\(∀ j,(V.getD j 0).natAbs<=BB^(20*(k+3)))/\∀ x,ev U x*ev S x+ev V x*ev T x=c:=by
 have lS:S.length=aad S:=by rw[<- aae,tS]
 have lT2:T.length=aad T:=by rw[<- aae,tT]
 obtain ⟨m,hm⟩:∃ m,aad S=m+1:=⟨aad S-1,by omega⟩
 obtain ⟨n,hn⟩:∃ n,aad T=n+1:=⟨aad T-1,by omega⟩
 have hG:1<=BB^(k+2):=Nat.pow_pos aaI
 have ok:GOK (BB^(k+2)) m n 0 1100:=alr (by omega) hG (Nat.pow_lt_pow_right (by rw[aan];decide) (by omega))
 have hb':∀ j,(S.getD j 0).natAbs<=BB^(k+1):=fun j=>Nat.le_trans (hb j) (aa1 (by omega))
 have hd':∀ j,(T.getD j 0).natAbs<=BB^(k+1):=fun j=>Nat.le_trans (hd j) (aa1 (by omega))
 have up:∀ {x:Nat},x<=BB^(k+1)->x*(m+n)<=BB^(k+2):=fun hx=>by
  rw[Nat.pow_succ]
  exact Nat.mul_le_mul hx (by rw[aan];omega)
 have hs:=ae0 (f:=S) (g:=T) (m:=m) (n:=n) (G:=BB^(k+2)) (e:=0) (by omega) (by omega) (by omega) (by omega) (by omega) (by omega) hG (fun j=>Nat.le_trans (hb' j) (aa1 (by omega))) (fun j=>Nat.le_trans (hd' j) (aa1 (by omega)))
 have hlow:∀ p,acV S T p->1<=aad p->0+1<=aad p:=fun p _ h=>by omega
 obtain ⟨_,d1,d2⟩:=adl.spec ok hlow (fun j=>up (hb' j)) (fun j=>up (hd' j)) 20 _ _ hs (by show T.length<=20;omega)
 obtain ⟨L,hL⟩:∃ L,L=lst T (rsq 20 ⟨S,T,-1,(-1)^(S.length-T.length+1)⟩):=⟨_,rfl⟩
 have hl1:aad L<=1:=by rw[hL];exact hc _ d1 d2
 have hl0:aad L≠0:=by
  rw[hL]
  intro e0
  obtain ⟨c,q,hc0,e⟩:=d2
  have:aad T=0:=by
   refine Classical.byContradiction fun hn=>?_
   refine (ahH (p:=T) (r:=psc c T) hc0 (fun t=>aaH _ _ _)).2 hn ?_
   rw[adu (r:=aag q (lst T (rsq 20 ⟨S,T,-1,(-1)^(S.length-T.length+1)⟩))) fun t=>by rw[aaH,aaC,e]]
   exact abV (.inr e0)
  omega
 obtain ⟨U,V,c,c0,u1,u2,u3,u4,u5⟩:=adl.uv ok hlow (fun j=>up (hb' j)) (fun j=>up (hd' j)) hb' hd' 20 _ _ hs (by show T.length<=20;omega) (by show 2<=T.length;omega) (by show aad (lst T _)=1;rw[<- hL];omega)
 have hbd:((n+m)*BB^(k+1)+1)^(n+m)<=BB^(20*(k+3)):=by
  have x1:(n+m)*BB^(k+1)+1<=BB^(k+2):=by
   have:BB^(k+1)*20<=BB^(k+1)*BB:=Nat.mul_le_mul_left _ (by rw[aan];decide)
   have h1:1<=BB^(k+1):=Nat.pow_pos aaI
   have h2:(n+m)*BB^(k+1)<=19*BB^(k+1):=Nat.mul_le_mul_right _ (by omega)
   have e9:BB^(k+2)=BB^(k+1)*BB:=Nat.pow_succ ..
   rw[e9]
   omega
  calc ((n+m)*BB^(k+1)+1)^(n+m)<=(BB^(k+2))^(n+m):=Nat.pow_le_pow_left x1 _
   _=BB^((k+2)*(n+m)):=by rw[<- Nat.pow_mul]
   _<=BB^(20*(k+3)):=aa1 (by
    have:(k+2)*(n+m)<=(k+2)*20:=Nat.mul_le_mul_left _ (by omega)
    omega)
 exact ⟨U,V,c,c0,by omega,by omega,fun j=>Nat.le_trans (u3 j) hbd,fun j=>Nat.le_trans (u4 j) hbd,u5⟩
theorem azE {S T:List Int} {k:Nat} (tS:aaf S=S) (tT:aaf T=T) (lS:2<=aad S) (lT:2<=aad T) (l10:aad S<=10) (t10:aad T<=10) (hb:∀ j,(S.getD j 0).natAbs<=BB^k) (hd:∀ j,(T.getD j 0).natAbs<=BB^k) (hk:k<=60) (hc:∀ p,Dvq p S->Dvq p T->aad p<=1) :
  ∃ (U V:List Int) (c:Int),c≠0/\U.length<=10/\V.length<=10/\(∀ j,(U.getD j 0).natAbs<=BB^(20*(k+3)))/\(∀ j,(V.getD j 0).natAbs<=BB^(20*(k+3)))/\∀ x,ev U x*ev S x+ev V x*ev T x=c:=by
 rcases Nat.le_total (aad T) (aad S) with h | h
 ·exact avL tS tT lT h l10 hb hd hk hc
 ·obtain ⟨U,V,c,c0,u1,u2,u3,u4,u5⟩:=avL tT tS lS h t10 hd hb hk (fun p p1 p2=>hc p p2 p1)
  exact ⟨V,U,c,c0,u2,u1,u4,u3,fun x=>by rw[<- u5 x,Int.add_comm]⟩
theorem avM {S T:List Int} {k:Nat} (tS:aaf S=S) (tT:aaf T=T) (lS:2<=aad S) (lT:2<=aad T) (l10:aad S<=10) (t10:aad T<=10) (hbS:∀ j,(S.getD j 0).natAbs<=BB^(k+6)) (hbT:∀ j,(T.getD j 0).natAbs<=BB^(k+6)) (hk:k<=50) (hc:∀ p,Dvq p S->Dvq p T->aad p<=1) {M a b:Rat} (hM:1<=M) (ha:-M<=a) (hb:b<=M) {x y:Pt} (hx:sgp S x=0) (hy:sgp T y=0) (hxy:x<y) (hax:¬ x<Pt.of a) (hyb:¬ Pt.of b<y):1<=akC k M*(b-a):=by
 obtain ⟨U,V,c,c0,u1,u2,u3,u4,u5⟩:=azE tS tT lS lT l10 t10 hbS hbT (by omega) hc
 refine Classical.byContradiction fun hcon=>?_
 have hid:∀ q,pv U q*pv S q+pv V q*pv T q=(c:Rat):=fun q=>by
  have e1:=acL (ac4 (aag U S) (aag V T)) [c] (ach (fun x=>by rw[acJ,aaC,aaC,abh,u5])) q
  rw[ad1,aby,aby] at e1
  rw[e1]
  show (c:Rat)+q*0=c
  grind
 obtain ⟨BU,hBU⟩:∃ B,B=10*((BB^(20*(k+9)):Nat):Rat)*M^10:=⟨_,rfl⟩
 obtain ⟨K,hK⟩:∃ K,K=100*((BB^(k+6):Nat):Rat)*M^10:=⟨_,rfl⟩
 have aw9:=acX hM 10
 have azy:1<=BU:=by
  have:(1:Rat)<=((BB^(20*(k+9)):Nat):Rat):=by
   have:1<=BB^(20*(k+9)):=Nat.pow_pos aaI
   exact_mod_cast this
  rw[hBU]
  have:=Rat.mul_le_mul_of_nonneg_left aw9 (show 0<=10*((BB^(20*(k+9)):Nat):Rat) by grind)
  grind
 have hK0:0<=K:=by
  rw[hK]
  have:(0:Rat)<=((BB^(k+6):Nat):Rat):=by exact_mod_cast Nat.zero_le _
  exact Rat.mul_nonneg (by grind) (by grind)
 have hD:akC k M=2*BU*K+1:=by unfold akC;rw[<- hBU,<- hK]
 rw[hD] at hcon
 obtain ⟨e,he⟩:∃ e:Rat,e=1 / (8*BU):=⟨_,rfl⟩
 have he0:0<e:=by rw[he,Rat.div_def,Rat.one_mul];exact Rat.inv_pos.2 (by grind)
 have heB:BU*e=1 / 8:=by rw[he,Rat.div_def,Rat.div_def];grind
 obtain ⟨l1,v1,n1,f1⟩:=aex (adZ S) hx e he0
 obtain ⟨l3,v3,n3,f3⟩:=aex (adZ T) hy e he0
 obtain ⟨y1,w1,w2,w3⟩:=Pt.agJ (x:=x) (a:=Pt.of v1) (b:=y) (Pt.aei.2 n1.2) hxy
 obtain ⟨r,r1,r2⟩:=Pt.mid w1
 obtain ⟨y2,w4,w5,w6⟩:=Pt.aj7 (x:=y) (a:=Pt.of l3) (b:=x) (Pt.of_lt.2 n3.1) hxy
 obtain ⟨q,q1,q2⟩:=Pt.mid w4
 have hlr:l1<r:=Pt.aaZ.1 (Pt.lt_trans (Pt.of_lt.2 n1.1) r1)
 have hrv:r<v1:=Pt.aaZ.1 (Pt.lt_trans r2 w2)
 have hlq:l3<q:=Pt.aaZ.1 (Pt.lt_trans w5 q1)
 have hqv:q<v3:=Pt.aaZ.1 (Pt.lt_trans q2 (Pt.aei.2 n3.2))
 have hle:∀ {s t:Pt},¬ s<t->∀ {r:Pt},s<r->t<r:=fun {s t} h {r} h1=>by
  rcases Pt.tri s t with c | c | c
  ·exact absurd c h
  ·rw[<- c];exact h1
  ·exact Pt.lt_trans c h1
 have hge:∀ {s t:Pt},¬ s<t->∀ {r:Pt},r<t->r<s:=fun {s t} h {r} h1=>by
  rcases Pt.tri s t with c | c | c
  ·exact absurd c h
  ·rw[c];exact h1
  ·exact Pt.lt_trans h1 c
 have har:a<r:=Pt.aaZ.1 (hle hax r1)
 have hrb:r<b:=Pt.aaZ.1 (hge hyb (Pt.lt_trans r2 w3))
 have haq:a<q:=Pt.aaZ.1 (hle hax (Pt.lt_trans w6 q1))
 have hqb:q<b:=Pt.aaZ.1 (hge hyb q2)
 obtain ⟨s1,s2⟩:=f1 r hlr hrv
 obtain ⟨s3,s4⟩:=f3 q hlq hqv
 have axa:S.length<=10:=by rw[<- tS,aae];exact l10
 obtain ⟨p1,p2⟩:=amI (w:=b-a) hM axa hbS (q:=q) (r:=r) (by grind) (by grind) (by grind) (by grind) (by grind) (by grind)
 rw[<- hK] at p1 p2
 obtain ⟨b1,b2⟩:=ajr hM u1 u3 q (by grind) (by grind)
 obtain ⟨b3,b4⟩:=ajr hM u2 u4 q (by grind) (by grind)
 rw[show k+6+3=k+9 by omega,<- hBU] at b1 b2 b3 b4
 have hs:=hid q
 obtain ⟨w,hw⟩:∃ w,w=b-a:=⟨_,rfl⟩
 rw[<- hw] at p1 p2 hcon
 have hw0:0<w:=by rw[hw];grind
 have m1:=adC (a:=pv U q) (b:=pv S q) (e:=BU) (k:=e+K*w) b1 b2 (by grind) (by grind)
 have m2:=adC (a:=pv V q) (b:=pv T q) (e:=BU) (k:=e) b3 b4 s3 s4
 have hKw:0<=BU*(K*w):=Rat.mul_nonneg (by grind) (Rat.mul_nonneg hK0 (by grind))
 have ec:BU*(e+K*w)=1 / 8+BU*(K*w):=by rw[Rat.mul_add,heB]
 have hcc:(1:Rat)<=(c:Rat)∨(c:Rat)<=-1:=by
  rcases Int.lt_or_lt_of_ne c0 with h1 | h1
  ·right
   have:((c:Int):Rat)<=((-1:Int):Rat):=Rat.intCast_le_intCast.2 (by omega)
   exact this
  ·left
   have:((1:Int):Rat)<=((c:Int):Rat):=Rat.intCast_le_intCast.2 (by omega)
   exact this
 have axb:2*(BU*(K*w))+w<1:=by
  have:(2*BU*K+1)*w<1:=by grind
  grind
 rcases hcc with h1 | h1<;>grind
structure Cop (G T:List Int) (y:Pt):Prop where
 t:aaf T=T
 n:aad T≠0
 d:∃ W:List Int,∀ x,ev G x=ev T x*ev W x
 r:sgp T y=0
theorem avN {P G:List Int} {y:Pt} (h0:aad P≠0) (hP:sgp P y≠0):∀ (n:Nat) (T:List Int),aad T<=n->Cop G T y->∃ T',Cop G T' y/\∀ p,Dvq p P->Dvq p T'->aad p<=1:=by
 intro n
 induction n with
 | zero=>intro T hn hT;exact absurd hT.n (by omega)
 | succ n ih =>
   intro S hn hS
   by_cases hc:∀ p,Dvq p P->Dvq p S->aad p<=1
   ·exact ⟨S,hS,hc⟩
   ·obtain ⟨p,hp⟩:=Classical.not_forall.1 hc
    obtain ⟨p2,hp⟩:=Classical.not_imp.1 hp
    obtain ⟨p1,hp⟩:=Classical.not_imp.1 hp
    have p0:aad p≠0:=by omega
    obtain ⟨c,q,hc0,e⟩:=p1
    have hk:=agT p0
    have e2:∀ x,ev p x=(sg (aai p)*(aam p:Int))*ev (aal p) x:=fun x=>by
     rw[<- aaH]
     exact aay (fun k=>by rw[aaG];exact acA p0 k) x
    obtain ⟨s,hs⟩:=aeG (l:=aal p) (f:=S) (r:=psc (sg (aai p)*(aam p:Int)) q) (agr p0) hc0 (fun x=>by rw[e,e2,aaH];grind)
    obtain ⟨T,hT⟩:∃ T,T=aaf s:=⟨_,rfl⟩
    have hST:∀ x,ev S x=ev (aal p) x*ev T x:=fun x=>by rw[hT,afX];exact hs x
    have T0:aad T≠0:=fun e0=>hS.n (by rw[adu (r:=aag (aal p) T) fun x=>by rw[aaC,hST]];exact abV (.inr e0))
    have q0:aad (aal p)≠0:=by rw[ac9];exact p0
    have hl:aad S=aad (aal p)+aad T-1:=by
     rw[adu (r:=aag (aal p) T) fun x=>by rw[aaC,hST]]
     exact (acu (by omega) (by omega)).1
    rw[ac9] at hl
    obtain ⟨W,hW⟩:=hS.d
    have hm:mult y S=mult y (aal p)+mult y T:=adt hST q0 T0 y
    have hpm:mult y p=mult y (aal p):=afY hk e2 q0 y
    refine ih T (by omega) ⟨by rw[hT,adV],T0,⟨aag (aal p) W,fun x=>by rw[hW,hST,aaC];grind⟩,?_⟩
    have h5:=aha p2 h0 y
    have h6:mult y P=0:=(aaX h0).2 hP
    have h7:mult y S≠0:=fun e=>(aaX hS.n).1 e hS.r
    refine Classical.byContradiction fun hn=>?_
    have h8:=(aaX T0).2 hn
    omega
theorem atS {P G:List Int} {k:Nat} (h:SqF P k) (hk:k<=50) (tG:aaf G=G) (lG:aad G<=10) (bG:∀ j,(G.getD j 0).natAbs<=BB^k) {M a b:Rat} (hM:1<=M) (ha:-M<=a) (hb:b<=M) {x y:Pt} (hx:sgp P x=0) (gx:sgp G x≠0) (hy:sgp G y=0) (x1:¬ x<Pt.of a) (x2:¬ Pt.of b<x) (y1:¬ y<Pt.of a) (y2:¬ Pt.of b<y):1<=akC k M*(b-a):=by
 by_cases c:sgp P y=0
 ·rcases Pt.tri x y with t | t | t
  ·exact sep h hk hM ha hb hx c t x1 y2
  ·rw[t] at gx;exact absurd hy gx
  ·exact sep h hk hM ha hb c hx t y1 x2
 ·have g0:aad G≠0:=fun e=>gx (afM e x)
  obtain ⟨T,hT,hc⟩:=avN (G:=G) h.q0 c (aad G) G (Nat.le_refl _) ⟨tG,g0,⟨[1],fun x=>by rw[abh,Int.mul_one]⟩,hy⟩
  obtain ⟨W,hW⟩:=hT.d
  have hbT:∀ j,(T.getD j 0).natAbs<=BB^(k+6):=aeI (by omega) g0 bG (g:=W) (fun x=>by rw[hW,Int.mul_comm])
  have hbP:∀ j,(P.getD j 0).natAbs<=BB^(k+6):=fun j=>Nat.le_trans (h.b j) (aa1 (by omega))
  have hlT:aad T<=10:=Nat.le_trans (ae2 ⟨1,W,by decide,fun x=>by rw[Int.one_mul,hW,Int.mul_comm]⟩ g0) lG
  have two:∀ {S:List Int},aad S≠0->∀ {x:Pt},sgp S x=0->2<=aad S:=fun {S} h1 {x} hx=>by
   refine Classical.byContradiction fun hn=>?_
   have h2:=aez (p:=S) (by omega) x
   rw[hx] at h2
   exact afN (abf h1) h2.symm
  have lP:=two h.q0 hx
  have lT:=two hT.n hT.r
  rcases Pt.tri x y with t | t | t
  ·exact avM h.t hT.t lP lT h.len hlT hbP hbT hk hc hM ha hb hx hT.r t x1 y2
  ·rw[t] at gx;exact absurd hy gx
  ·exact avM hT.t h.t lT lP hlT h.len hbT hbP hk (fun p p1 p2=>hc p p2 p1) hM ha hb hT.r hx t y1 x2
end Go.Proofs.YtkefcldcfeolbaaGreat
