/- Cofactors: a subresultant is a combination of the rows, with coefficients that are determinants. Plain: no program. -/
import Derived.Test.YtphmkdmflopcdaaGreatSub
namespace Go.Proofs.YtphmkdmflopcdaaGreat
def lsum:List Int->List Row->Nat->Int
 | m :: ms,p :: ps,t=>m*p t+lsum ms ps t
 | _,_,_=>0
def Lin (K:Nat) (ps:List Row) (G:Nat->Int):Prop:=∃ ms:List Int,ms.length=ps.length/\(∀ m∈ms,m.natAbs<=K)/\∀ t,G t=lsum ms ps t
theorem lsum_comb (a:Int):∀ (x y:List Int) (ps:List Row) (t:Nat),x.length=ps.length->y.length=ps.length->lsum (List.zipWith (fun u v=>a*u-v) x y) ps t=a*lsum x ps t-lsum y ps t
 | [],[],[],t,_,_=>by simp[lsum]
 | [],_ :: _,ps,t,h1,h2=>by rw[<- h1] at h2;simp at h2
 | _ :: _,[],ps,t,h1,h2=>by rw[<- h2] at h1;simp at h1
 | u :: x,v :: y,p :: ps,t,h1,h2=>by
   simp only[List.zipWith_cons_cons,lsum]
   rw[lsum_comb a x y ps t (by simpa using h1) (by simpa using h2),Int.sub_mul,Int.mul_add,Int.mul_assoc]
   omega
theorem lsum_zero:∀ (ps:List Row) (t:Nat),lsum (List.replicate ps.length 0) ps t=0
 | [],t=>rfl
 | p :: ps,t=>by
   rw[List.length_cons,List.replicate_succ]
   simp only[lsum]
   rw[lsum_zero ps t];simp
theorem Lin.zero (K:Nat) (ps:List Row):Lin K ps (fun _=>0):=⟨List.replicate ps.length 0,by simp,fun m hm=>by rw[List.eq_of_mem_replicate hm];simp,fun t=>(lsum_zero ps t).symm⟩
theorem mem_zipWith {f:Int->Int->Int}:∀ {x y:List Int} {z:Int},z∈List.zipWith f x y->∃ a∈x,∃ b∈y,z=f a b
 | a :: x,b :: y,z,h=>by
   rw[List.zipWith_cons_cons] at h
   rcases List.mem_cons.1 h with rfl | h
   ·exact ⟨a,List.mem_cons_self ..,b,List.mem_cons_self ..,rfl⟩
   ·obtain ⟨a',ha,b',hb,e⟩:=mem_zipWith h
    exact ⟨a',List.mem_cons_of_mem _ ha,b',List.mem_cons_of_mem _ hb,e⟩
 | [],_,z,h=>by simp at h
 | _ :: _,[],z,h=>by simp at h
theorem Lin.comb {K L M:Nat} {ps:List Row} {F G:Nat->Int} (a:Int) (h:Lin K ps F) (h':Lin L ps G) (hM:a.natAbs*K+L<=M):Lin M ps (fun t=>a*F t-G t):=by
 obtain ⟨x,x1,x2,x3⟩:=h
 obtain ⟨y,y1,y2,y3⟩:=h'
 refine ⟨List.zipWith (fun u v=>a*u-v) x y,by rw[List.length_zipWith,x1,y1,Nat.min_self],fun m hm=>?_,fun t=>?_⟩
 ·obtain ⟨u,hu,v,hv,rfl⟩:=mem_zipWith hm
  have h1:=x2 u hu
  have h2:=y2 v hv
  have h3:(a*u).natAbs<=a.natAbs*K:=by rw[Int.natAbs_mul];exact Nat.mul_le_mul_left _ h1
  omega
 ·show a*F t-G t=_
  rw[lsum_comb a x y ps t x1 y1,x3,y3]
end Go.Proofs.YtphmkdmflopcdaaGreat
