/- unidiv.positive; unidiv.Gcd of any two polynomials of small degree. -/
import Derived.Test.YtjmglmgokfcgoaaGreatGti
import Derived.Test.YtjmglmgokfcgoaaGreatSub
import Derived.Test.YtjmglmgokfcgoaaGreatAwl
import Derived.Test.YtjmglmgokfcgoaaGreatSta
namespace Go.Proofs.YtjmglmgokfcgoaaGreat
section
variable {f g:List Int} {e S:Nat}
end
end Go.Proofs.YtjmglmgokfcgoaaGreat
namespace Go.Proofs.YtjmglmgokfcgoaaGreat
end Go.Proofs.YtjmglmgokfcgoaaGreat
namespace Go.Proofs.YtjmglmgokfcgoaaGreat
theorem ev_cons (a:Int) (t:List Int) (x:Int):ev (a :: t) x=a+x*ev t x:=by
 unfold ev
 have h:∀ (F:Nat→Int) n,evn F x (n+1)=F 0+x*evn (fun i=>F (i+1)) x n:=by
  intro F n
  induction n with
  | zero=>simp [evn]
  | succ n ih=>rw [evn,ih,evn,Int.pow_succ];grind
 rw [List.length_cons,h]
 rfl
def sd (c:Int):List Int→List Int×Int
 | []=>([],0)
 | a :: t=>((sd c t).2 :: (sd c t).1,a+c*(sd c t).2)
theorem sd_val (c:Int):∀ p,(sd c p).2=ev p c
 | []=>by rw [ev_nil];rfl
 | a :: t=>by rw [ev_cons,← sd_val c t];rfl
theorem sd_ev (c x:Int):∀ p,ev p x=(x-c)*ev (sd c p).1 x+ev p c
 | []=>by rw [ev_nil,ev_nil];show (0:Int)=(x-c)*ev [] x+0;rw [ev_nil];omega
 | a :: t=>by
   have h:=sd_ev c x t
   show ev (a :: t) x=(x-c)*ev ((sd c t).2 :: (sd c t).1) x+ev (a :: t) c
   rw [ev_cons,ev_cons,ev_cons,sd_val,h]
   grind
theorem sd_zero (c:Int):∀ (p:List Int) (n:Nat),(∀ j,n≤j→p.getD j 0=0)→∀ j,n≤j+1→(sd c p).1.getD j 0=0
 | [],_,_,j,_=>by show ([]:List Int).getD j 0=0;simp
 | a :: t,n,h,j,hj=>by
   have ht:∀ j,n-1≤j→t.getD j 0=0:=fun j hj=>by have:=h (j+1) (by omega);simpa using this
   show ((sd c t).2 :: (sd c t).1).getD j 0=0
   match j with
   | 0 =>
     show (sd c t).2=0
     rw [sd_val,ev_congr (q:=[]) (fun k=>by rw [ht k (by omega)];simp) c,ev_nil]
   | j+1 =>
     have:=sd_zero c t (n-1) ht j (by omega)
     simpa using this
theorem sd_plen (c:Int) (p:List Int):plen (sd c p).1≤plen p-1:=plen_le_of fun k hk=>sd_zero c p (plen p) (fun j hj=>getD_ge_plen p j hj) k (by omega)
theorem sd_get (c:Int):∀ (p:List Int),p.getD 0 0=ev p c-c*(sd c p).1.getD 0 0∧∀ j,p.getD (j+1) 0=(sd c p).1.getD j 0-c*(sd c p).1.getD (j+1) 0
 | []=>by
   refine ⟨?_,fun j=>?_⟩
   ·rw [ev_nil];show (0:Int)=0-c*0;omega
   ·show ([]:List Int).getD (j+1) 0=([]:List Int).getD j 0-c*([]:List Int).getD (j+1) 0
    simp
 | a :: t=>by
   obtain ⟨h1,h2⟩:=sd_get c t
   refine ⟨?_,fun j=>?_⟩
   ·show a=ev (a :: t) c-c*(sd c t).2
    rw [ev_cons,sd_val];omega
   ·show t.getD j 0=((sd c t).2 :: (sd c t).1).getD j 0-c*(sd c t).1.getD j 0
    match j with
    | 0=>show t.getD 0 0=(sd c t).2-c*(sd c t).1.getD 0 0;rw [sd_val];exact h1
    | j+1=>exact h2 j
def fbb (X:Nat):Nat→Nat→Nat
 | V,0=>V
 | V,n+1=>(1+X)*fbb X (2*V) n+V
theorem fb (X:Nat):∀ (n:Nat) (p:List Int) (xs:List Int) (V:Nat),plen p≤n+1→xs.length=n+1→xs.Nodup→(∀ x∈xs,x.natAbs≤X∧(ev p x).natAbs≤V)→∀ j,(p.getD j 0).natAbs≤fbb X V n
 | 0,p,xs,V,hp,hl,_,hv,j=>by
   match xs,hl with
   | [x],_ =>
     have h1:=(hv x (List.mem_cons_self ..)).2
     have e:ev p x=p.getD 0 0:=by
      rw [ev_congr (q:=[p.getD 0 0]) (fun k=>?_) x,ev_const]
      cases k with
      | zero=>simp
      | succ k=>rw [getD_ge_plen p (k+1) (by omega)];simp
     rw [e] at h1
     match j with
     | 0=>exact h1
     | j+1=>rw [getD_ge_plen p (j+1) (by omega)];simp
 | n+1,p,xs,V,hp,hl,hn,hv,j=>by
   match xs,hl with
   | x :: xs,hl =>
     have hn':=List.nodup_cons.1 hn
     obtain ⟨hx,hxv⟩:=hv x (List.mem_cons_self ..)
     have ih:=fb X n (sd x p).1 xs (2*V) (by have:=sd_plen x p;omega) (by simpa using hl) hn'.2 (fun y hy=>by
      obtain ⟨h1,h2⟩:=hv y (List.mem_cons_of_mem _ hy)
      refine ⟨h1,?_⟩
      have hne:y-x≠0:=fun e=>hn'.1 (by rw [show x=y by omega];exact hy)
      have h3:=sd_ev x y p
      have h4:((y-x)*ev (sd x p).1 y).natAbs≤2*V:=by
       have:(y-x)*ev (sd x p).1 y=ev p y-ev p x:=by omega
       rw [this];omega
      rw [Int.natAbs_mul] at h4
      exact Nat.le_trans (Nat.le_mul_of_pos_left _ (Int.natAbs_pos.2 hne)) h4)
     obtain ⟨g0,g1⟩:=sd_get x p
     have hm:∀ k,(x*(sd x p).1.getD k 0).natAbs≤X*fbb X (2*V) n:=fun k=>by rw [Int.natAbs_mul];exact Nat.mul_le_mul hx (ih k)
     show (p.getD j 0).natAbs≤(1+X)*fbb X (2*V) n+V
     rw [Nat.add_mul,Nat.one_mul]
     match j with
     | 0=>rw [g0];have:=hm 0;omega
     | j+1=>rw [g1];have:=hm (j+1);have:=ih j;omega
def ints (n:Nat):List Int:=(List.range n).map (fun (i:Nat)=>(i:Int))
end Go.Proofs.YtjmglmgokfcgoaaGreat
namespace Go.Proofs.YtjmglmgokfcgoaaGreat
open Go.RowKit
end Go.Proofs.YtjmglmgokfcgoaaGreat
