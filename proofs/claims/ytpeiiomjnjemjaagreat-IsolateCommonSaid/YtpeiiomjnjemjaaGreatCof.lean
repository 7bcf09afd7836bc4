/- Cofactors: a subresultant is a combination of the rows, with coefficients that are determinants. Plain: no program. -/
import Derived.Test.YtpeiiomjnjemjaaGreatSub
namespace Go.Proofs.YtpeiiomjnjemjaaGreat
def lsum:List Int->List Row->Nat->Int
 | m :: ms,p :: ps,t=>m*p t+lsum ms ps t
 | _,_,_=>0
def Lin (K:Nat) (ps:List Row) (G:Nat->Int):Prop:=∃ ms:List Int,ms.length=ps.length/\(∀ m∈ms,m.natAbs<=K)/\∀ t,G t=lsum ms ps t
theorem lsum_append:∀ (a b:List Int) (ps qs:List Row) (t:Nat),a.length=ps.length->lsum (a ++ b) (ps ++ qs) t=lsum a ps t+lsum b qs t
 | [],b,[],qs,t,_=>by simp[lsum]
 | m :: a,b,p :: ps,qs,t,h=>by
   simp only[List.cons_append,lsum]
   rw[lsum_append a b ps qs t (by simpa using h),Int.add_assoc]
theorem lsum_comb (a:Int):∀ (x y:List Int) (ps:List Row) (t:Nat),x.length=ps.length->y.length=ps.length->lsum (List.zipWith (fun u v=>a*u-v) x y) ps t=a*lsum x ps t-lsum y ps t
 | [],[],[],t,_,_=>by simp[lsum]
 | [],_ :: _,ps,t,h1,h2=>by rw[<- h1] at h2;simp at h2
 | _ :: _,[],ps,t,h1,h2=>by rw[<- h2] at h1;simp at h1
 | u :: x,v :: y,p :: ps,t,h1,h2=>by
   simp only[List.zipWith_cons_cons,lsum]
   rw[lsum_comb a x y ps t (by simpa using h1) (by simpa using h2),Int.sub_mul,Int.mul_add,Int.mul_assoc]
   omega
theorem lsum_zero:∀ (ps:List Row) (t:Nat),lsum (List.replicate ps.length 0) ps t=0
 | [],t=>rfl
 | p :: ps,t=>by
   rw[List.length_cons,List.replicate_succ]
   simp only[lsum]
   rw[lsum_zero ps t];simp
theorem Lin.zero (K:Nat) (ps:List Row):Lin K ps (fun _=>0):=⟨List.replicate ps.length 0,by simp,fun m hm=>by rw[List.eq_of_mem_replicate hm];simp,fun t=>(lsum_zero ps t).symm⟩
theorem Lin.ins {K:Nat} {C r:List Row} {G:Nat->Int} (h:Lin K (C ++ r) G) (p:Row):Lin K (C ++ p :: r) G:=by
 obtain ⟨ms,h1,h2,h3⟩:=h
 rw[List.length_append] at h1
 refine ⟨ms.take C.length ++ 0 :: ms.drop C.length,by simp only[List.length_append,List.length_cons,List.length_take,List.length_drop];omega,fun m hm=>?_,fun t=>?_⟩
 ·rcases List.mem_append.1 hm with h | h
  ·exact h2 m (List.mem_of_mem_take h)
  ·rcases List.mem_cons.1 h with rfl | h
   ·simp
   ·exact h2 m (List.mem_of_mem_drop h)
 ·have hl:(ms.take C.length).length=C.length:=by rw[List.length_take];omega
  rw[h3,lsum_append _ _ _ _ _ hl]
  simp only[lsum]
  rw[Int.zero_mul,Int.zero_add,<- lsum_append _ _ _ _ _ hl,List.take_append_drop]
theorem mem_zipWith {f:Int->Int->Int}:∀ {x y:List Int} {z:Int},z∈List.zipWith f x y->∃ a∈x,∃ b∈y,z=f a b
 | a :: x,b :: y,z,h=>by
   rw[List.zipWith_cons_cons] at h
   rcases List.mem_cons.1 h with rfl | h
   ·exact ⟨a,List.mem_cons_self ..,b,List.mem_cons_self ..,rfl⟩
   ·obtain ⟨a',ha,b',hb,e⟩:=mem_zipWith h
    exact ⟨a',List.mem_cons_of_mem _ ha,b',List.mem_cons_of_mem _ hb,e⟩
 | [],_,z,h=>by simp at h
 | _ :: _,[],z,h=>by simp at h
theorem Lin.comb {K L M:Nat} {ps:List Row} {F G:Nat->Int} (a:Int) (h:Lin K ps F) (h':Lin L ps G) (hM:a.natAbs*K+L<=M):Lin M ps (fun t=>a*F t-G t):=by
 obtain ⟨x,x1,x2,x3⟩:=h
 obtain ⟨y,y1,y2,y3⟩:=h'
 refine ⟨List.zipWith (fun u v=>a*u-v) x y,by rw[List.length_zipWith,x1,y1,Nat.min_self],fun m hm=>?_,fun t=>?_⟩
 ·obtain ⟨u,hu,v,hv,rfl⟩:=mem_zipWith hm
  have h1:=x2 u hu
  have h2:=y2 v hv
  have h3:(a*u).natAbs<=a.natAbs*K:=by rw[Int.natAbs_mul];exact Nat.mul_le_mul_left _ h1
  omega
 ·show a*F t-G t=_
  rw[lsum_comb a x y ps t x1 y1,x3,y3]
theorem alt_comb (h:Row->Int) (H K:Nat):∀ (ps C:List Row) (F:List Row->Nat->Int),(∀ p∈ps,(h p).natAbs<=H)->(∀ A p B,ps=A ++ p :: B->Lin K (C ++ (A ++ B)) (F (A ++ B)))->Lin (ps.length*H*K) (C ++ ps) (fun t=>alt h (fun q=>F q t) ps)
 | [],C,F,_,_=>by
   simp only[alt]
   exact Lin.zero _ _
 | p :: r,C,F,hp,hF=>by
   have h1:=alt_comb h H K r (C ++ [p]) (fun q t=>F (p :: q) t) (fun q hq=>hp q (List.mem_cons_of_mem _ hq)) (fun A x B e=>by
    have:=hF (p :: A) x B (by rw[e];rfl)
    simpa using this)
   have h2:Lin K (C ++ r) (F r):=by simpa using hF [] p r rfl
   have h3:=h2.ins p
   have h4:Lin (r.length*H*K) (C ++ p :: r) (fun t=>alt h (fun q=>F (p :: q) t) r):=by simpa using h1
   simp only[alt]
   refine h3.comb (h p) h4 ?_
   have h5:(h p).natAbs*K<=H*K:=Nat.mul_le_mul_right _ (hp p (List.mem_cons_self ..))
   rw[List.length_cons,Nat.succ_mul,Nat.add_mul]
   omega
theorem det_comb (H:Nat):∀ (ds:List Nat) (ps:List Row),(∀ p∈ps,∀ t,(p t).natAbs<=H)->Lin ((ps.length*H)^ds.length) ps (fun t=>det (ds ++ [t]) ps)
 | [],ps,_=>by
   match ps with
   | []=>exact ⟨[],rfl,fun m hm=>(by simp at hm),fun t=>by simp[det,alt,lsum]⟩
   | [p]=>exact ⟨[1],rfl,fun m hm=>(by simp at hm;subst hm;simp),fun t=>by simp[det,alt,lsum]⟩
   | p :: q :: r =>
     have h0:∀ t (s:List Row),alt (fun p=>p t) (fun q'=>det [] (p :: q')) s=0:=fun t s=>by
      have:(fun q'=>det [] (p :: q'))=fun _=>0:=funext fun q'=>rfl
      rw[this,alt_zero]
     have h1:(fun t=>det ([] ++ [t]) (p :: q :: r))=fun _=>0:=funext fun t=>by
      simp only[List.nil_append,det]
      rw[alt,h0]
      simp[det]
     rw[h1]
     exact Lin.zero _ _
 | d :: ds,ps,hps=>by
   have h1:=alt_comb (fun p=>p d) H (((ps.length-1)*H)^ds.length) ps [] (fun q t=>det (ds ++ [t]) q) (fun p hp=>hps p hp d) (fun A p B e=>by
    have:=det_comb H ds (A ++ B) (fun q hq=>hps q (by rw[e];exact List.mem_append.2 ((List.mem_append.1 hq).imp id (List.mem_cons_of_mem _))))
    rw[show ps.length-1=(A ++ B).length by rw[e];simp]
    exact this)
   obtain ⟨ms,m1,m2,m3⟩:=h1
   refine ⟨ms,m1,fun m hm=>Nat.le_trans (m2 m hm) ?_,fun t=>?_⟩
   ·rw[List.length_cons,Nat.pow_succ,Nat.mul_comm]
    exact Nat.mul_le_mul_right _ (Nat.pow_le_pow_left (Nat.mul_le_mul_right _ (by omega)) _)
   ·exact m3 t
def chd:Nat->Nat->List Nat
 | 0,_=>[]
 | c+1,lo=>(lo+c) :: chd c lo
theorem cols_chd:∀ (c lo t:Nat),cols c lo t=chd c lo ++ [t]
 | 0,_,_=>rfl
 | c+1,lo,t=>by simp only[cols,chd];rw[cols_chd c lo t];rfl
theorem chd_length:∀ c lo:Nat,(chd c lo).length=c
 | 0,_=>rfl
 | c+1,lo=>by simp only[chd,List.length_cons];rw[chd_length c lo]
theorem sres_comb {f g:Row} {m n j H:Nat} (hf:∀ t,(f t).natAbs<=H) (hg:∀ t,(g t).natAbs<=H):Lin (((n-j+(m-j))*H)^(n-j+(m-j)-1)) (rows (n-j) f ++ rows (m-j) g) (fun t=>sres f m g n j t):=by
 have h:=det_comb H (chd (n-j+(m-j)-1) (j+1)) (rows (n-j) f ++ rows (m-j) g) (fun p hp=>by
  rcases List.mem_append.1 hp with h | h
  ·exact rows_le hf p h
  ·exact rows_le hg p h)
 rw[chd_length,List.length_append,rows_length,rows_length] at h
 obtain ⟨ms,m1,m2,m3⟩:=h
 exact ⟨ms,m1,m2,fun t=>by show sres f m g n j t=_;unfold sres;rw[cols_chd];exact m3 t⟩
theorem pc_snoc (m:Int) (f:List Int):∀ (u:List Int) (t:Nat),pc (u ++ [m]) f t=pc u f t+m*sh u.length (fn f) t
 | [],t=>by
   have h:(if t=0 then (0:Int) else pc [] f (t-1))=0:=by split<;>first | rfl | exact pc_nil _ _
   rw[List.nil_append,pc_cons,h,pc_nil]
   show m*f.getD t 0+0=0+m*sh 0 (fn f) t
   unfold sh
   rw[if_neg (by omega),Nat.sub_zero]
   show _=0+m*f.getD t 0
   omega
 | b :: u,t=>by
   rw[List.cons_append,pc_cons,pc_cons]
   by_cases h0:t=0
   ·rw[if_pos h0,if_pos h0]
    have:sh (b :: u).length (fn f) t=0:=by unfold sh;rw[if_pos (by rw[List.length_cons];omega)]
    rw[this];omega
   ·rw[if_neg h0,if_neg h0,pc_snoc m f u (t-1)]
    have:sh (b :: u).length (fn f) t=sh u.length (fn f) (t-1):=by
     unfold sh
     rw[List.length_cons]
     by_cases h1:t<u.length+1
     ·rw[if_pos h1,if_pos (by omega)]
     ·rw[if_neg h1,if_neg (by omega),show t-(u.length+1)=t-1-u.length by omega]
    rw[this];omega
theorem lsum_rows (f:List Int):∀ (a:Nat) (ms:List Int) (t:Nat),ms.length=a->lsum ms (rows a (fn f)) t=pc ms.reverse f t
 | 0,[],t,_=>by simp[lsum,pc_nil]
 | a+1,m :: ms,t,h=>by
   have h1:ms.length=a:=by simpa using h
   simp only[rows,lsum]
   rw[lsum_rows f a ms t h1,List.reverse_cons,pc_snoc,List.length_reverse,h1,Int.add_comm]
theorem sres_uv {f g:List Int} {m n j H:Nat} (hf:∀ t,(f.getD t 0).natAbs<=H) (hg:∀ t,(g.getD t 0).natAbs<=H):∃ U V:List Int,U.length=n-j/\V.length=m-j/\(∀ t,(U.getD t 0).natAbs<=((n-j+(m-j))*H)^(n-j+(m-j)-1))/\(∀ t,(V.getD t 0).natAbs<=((n-j+(m-j))*H)^(n-j+(m-j)-1))/\∀ t,sres (fn f) m (fn g) n j t=pc U f t+pc V g t:=by
 obtain ⟨ms,m1,m2,m3⟩:=sres_comb (f:=fn f) (g:=fn g) (m:=m) (n:=n) (j:=j) (H:=H) hf hg
 rw[List.length_append,rows_length,rows_length] at m1
 have hb:∀ (l:List Int),(∀ x∈l,x∈ms)->∀ t,(l.getD t 0).natAbs<=((n-j+(m-j))*H)^(n-j+(m-j)-1):=fun l hl t=>by
  rcases Nat.lt_or_ge t l.length with h | h
  ·rw[List.getD_eq_getElem?_getD,List.getElem?_eq_getElem h]
   exact m2 _ (hl _ (List.getElem_mem h))
  ·rw[getD_out l h];simp
 have h1:(ms.take (n-j)).length=n-j:=by rw[List.length_take];omega
 have h2:(ms.drop (n-j)).length=m-j:=by rw[List.length_drop];omega
 refine ⟨(ms.take (n-j)).reverse,(ms.drop (n-j)).reverse,by rw[List.length_reverse,h1],by rw[List.length_reverse,h2],hb _ (fun x hx=>List.mem_of_mem_take (List.mem_reverse.1 hx)),hb _ (fun x hx=>List.mem_of_mem_drop (List.mem_reverse.1 hx)),fun t=>?_⟩
 have h3:=m3 t
 rw[<- List.take_append_drop (n-j) ms,lsum_append _ _ _ _ _ (by rw[h1,rows_length]),lsum_rows f _ _ t h1,lsum_rows g _ _ t h2] at h3
 exact h3
end Go.Proofs.YtpeiiomjnjemjaaGreat
