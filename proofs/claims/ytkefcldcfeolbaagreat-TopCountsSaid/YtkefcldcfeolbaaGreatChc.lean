/- What the law SturmChains compares; the walk of its function signed. -/
import Derived.Test.YtkefcldcfeolbaaGreatStd
import Derived.Test.YtkefcldcfeolbaaGreatPart
namespace Go.Proofs.YtkefcldcfeolbaaGreat
open Go.RowKit
theorem ahy (f:List Int):(aal f).length=aad f:=by
 unfold aal
 split
 ·rename_i h;rw[h];rfl
 ·rw[List.length_map,aae]
theorem alg {p:List Int} {n:Nat} (h1:p.length=n+1) (h2:p.getD n 0≠0):aad p=n+1:=afk p n (by have:=aat p;omega) h2
theorem aeD (f:List Int) (h:aad f≠0) (k:Nat):(aal f).getD k 0=(f.getD k 0).tdiv (sg (aai f)*(aam f:Int)):=by
 unfold aal
 rw[if_neg h,List.getD_eq_getElem?_getD,List.getElem?_map]
 have h2:=aau f k
 rw[List.getD_eq_getElem?_getD] at h2
 cases e:(aaf f)[k]? with
 | none=>rw[e] at h2;rw[<- h2];simp
 | some x=>rw[e] at h2;rw[<- h2];rfl
theorem avi {z:Int} (h:z≠0):sg z=1∨sg z=-1:=by rcases aav z with ⟨_,e⟩ | ⟨_,e⟩ | ⟨_,e⟩<;>omega
theorem aqM {f:List Int} (h:aad f≠0) {k:Nat} (hk:f.getD k 0≠0):(aal f).getD k 0≠0:=by
 rw[aeD f h]
 have hd:=abU f k
 have hs:=avi (abf h)
 intro e
 have h1:((f.getD k 0).tdiv (sg (aai f)*(aam f:Int))).natAbs=(f.getD k 0).natAbs / aam f:=by
  rw[Int.natAbs_tdiv,Int.natAbs_mul,Int.natAbs_natCast]
  rcases hs with e1 | e1<;>rw[e1]<;>simp<;>rfl
 rw[e] at h1
 obtain ⟨c,hc⟩:=hd
 rw[hc,Nat.mul_div_cancel_left _ (Nat.pos_of_ne_zero (acf h))] at h1
 have:(f.getD k 0).natAbs=0:=by rw[hc];simp at h1;rw[<- h1];simp
 omega
theorem agp (f:List Int):aad (aal f)=aad f:=by
 rcases Nat.eq_zero_or_pos (aad f) with h | h
 ·have:=aat (aal f);rw[ahy] at this;omega
 ·obtain ⟨n,hn⟩:∃ n,aad f=n+1:=⟨aad f-1,by omega⟩
  rw[hn]
  exact alg (by rw[ahy,hn]) (aqM (by omega) (ab7 f n hn))
theorem amh (p:List Int):aad (pmn p)=aad p:=by
 have h1:aad (pmn p)<=aad p:=aaP fun k hk=>by rw[agk,aaj p k hk];rfl
 have h2:aad p<=aad (pmn p):=aaP fun k hk=>by have:=aaj (pmn p) k hk;rw[agk] at this;omega
 omega
theorem adf (f:List Int):(pred f).length=aad f:=by
 unfold pred
 split
 ·rw[acy,aae,agp]
 ·exact ahy f
theorem acr (f:List Int):aad (pred f)=aad f:=by
 unfold pred
 split
 ·rw[amh,abK,agp]
 ·exact agp f
theorem ami (a b:List Int):(agn a b).length=aad (psr a b):=by
 unfold agn
 split
 ·exact adf _
 ·rw[acy,aae,acr]
theorem akj (a b:List Int):aad (agn a b)=aad (psr a b):=by
 unfold agn
 split
 ·exact acr _
 ·rw[amh,abK,acr]
theorem amj {B:Nat} {f:List Int} (h:Bd B f):Bd B (aal f):=fun k=>by
 by_cases h0:aad f=0
 ·unfold aal;rw[if_pos h0];simp
 ·rw[aeD f h0,Int.natAbs_tdiv];exact Nat.le_trans (Nat.div_le_self _ _) (h k)
theorem amk {B:Nat} {f:List Int} (h:Bd B f):Bd B (pmn f):=fun k=>by rw[agk,Int.natAbs_neg];exact h k
theorem ahz {B:Nat} {f:List Int} (h:Bd B f):Bd B (pred f):=by
 unfold pred
 split
 ·exact amk (amj h).aaf
 ·exact amj h
theorem atf {B:Nat} {a b:List Int} (h:Bd B (psr a b)):Bd B (agn a b):=by
 unfold agn
 split
 ·exact ahz h
 ·exact amk (ahz h).aaf
theorem akk {f:List Int} (h:aad f<=1):Bd 1 (aal f):=fun k=>by
 by_cases h0:aad f=0
 ·unfold aal;rw[if_pos h0];simp
 ·have h1:aad f=1:=by omega
  rw[aeD f h0,Int.natAbs_tdiv,Int.natAbs_mul,Int.natAbs_natCast]
  have hs:(sg (aai f)).natAbs=1:=by rcases avi (abf h0) with e | e<;>rw[e]<;>rfl
  rw[hs,Nat.one_mul]
  by_cases hk:f.getD k 0=0
  ·rw[hk];show 0 / aam f<=1;simp
  ·have hk0:k=0:=by
    rcases Nat.eq_zero_or_pos k with h2 | h2
    ·exact h2
    ·exact absurd (aaj f k (by omega)) hk
   subst hk0
   have hc:(f.getD 0 0).natAbs∣aam f:=by
    have hall:∀ g:List Int,(∀ j,1<=j->g.getD j 0=0)->(g.getD 0 0).natAbs∣aam g:=by
     intro g hg
     cases g with
     | nil=>simp[aam]
     | cons x t =>
       have ht:∀ l:List Int,(∀ j,l.getD j 0=0)->aam l=0:=by
        intro l
        induction l with
        | nil=>intro _;rfl
        | cons y l ih =>
          intro hl
          have h1:y=0:=by simpa using hl 0
          have h2:=ih (fun j=>by simpa using hl (j+1))
          show Nat.gcd y.natAbs (aam l)=0
          rw[h1,h2];rfl
       have h2:=ht t (fun j=>by simpa using hg (j+1) (by omega))
       show x.natAbs∣Nat.gcd x.natAbs (aam t)
       rw[h2,Nat.gcd_zero_right]
       exact Nat.dvd_refl _
    exact hall f (fun j hj=>aaj f j (by omega))
   have he:aam f=(f.getD 0 0).natAbs:=Nat.dvd_antisymm (abU f 0) hc
   rw[he]
   exact Nat.le_of_eq (Nat.div_self (by omega))
theorem aqN {a b:List Int} (h:aad (psr a b)<=1):Bd 1 (agn a b):=by
 have h1:Bd 1 (pred (psr a b)):=by
  unfold pred
  split
  ·exact amk (akk h).aaf
  ·exact akk h
 unfold agn
 split
 ·exact h1
 ·exact amk h1.aaf
noncomputable def CB:Nat:=Classical.choose (⟨2700000,rfl⟩:∃ n:Nat,n=2700000)
theorem alh:CB=2700000:=Classical.choose_spec (⟨2700000,rfl⟩:∃ n:Nat,n=2700000)
def chk:Nat->Nat->Nat->Nat->Nat->Bool
 | 0,_,_,_,_=>false
 | k+1,la,lb,sa,sb=>lb == 0 || (decide (sb<=2700000) && decide (sa<=2700000) && decide ((la+1-lb)*(sb+1)+sa<=2700000) && (List.range lb).all fun lc=>chk k lb lc sb (if lc<=1 then 1 else (la+1-lb)*(sb+1)+sa))
theorem aoU:∀ (k:Nat) {a b:List Int} {sa sb:Nat},chk k a.length b.length sa sb=true->aad a=a.length->aad b=b.length->a.length<=1000000->b.length<=1000000->Bd (2^sa) a->Bd (2^sb) b->ajH k a b/\∀ p∈chn k a b,Bd (2^CB) p/\p.length<=b.length
 | 0,_,_,_,_,h,_,_,_,_,_,_=>by simp[chk] at h
 | k+1,a,b,sa,sb,h,ha,hb,hla,hlb,ba,bb=>by
   simp only[chk,Bool.or_eq_true,Bool.and_eq_true,beq_iff_eq,decide_eq_true_eq,List.all_eq_true,List.mem_range] at h
   rcases h with h | ⟨⟨⟨h1,h2⟩,hsz⟩,h3⟩
   ·have hb0:b=[]:=List.eq_nil_of_length_eq_zero h
    exact ⟨.inl hb0,fun p hp=>by rw[chn,if_pos hb0] at hp;simp at hp⟩
   ·by_cases hb0:b=[]
    ·exact ⟨.inl hb0,fun p hp=>by rw[chn,if_pos hb0] at hp;simp at hp⟩
    ·have hbl:0<b.length:=List.length_pos_iff.2 hb0
     have fb:abw b:=fun j=>by
      refine Nat.lt_of_le_of_lt (bb j) ?_
      obtain ⟨K,hK⟩:∃ K:Nat,K=32*FW:=⟨_,rfl⟩
      have e1:BB^FW=2^K:=by rw[aan,show (4294967296:Nat)=2^32 from rfl,<- Nat.pow_mul,<- hK]
      rw[abZ] at hK
      rw[e1]
      exact Nat.pow_lt_pow_right (by omega) (by omega)
     have hM:1<=2^sb:=Nat.pow_pos (by omega)
     have hr:=(aot (n:=a.length+1-b.length) hM bb ba (by omega)).2
     have er:(2*2^sb)^(a.length+1-b.length)*2^sa=2^((a.length+1-b.length)*(sb+1)+sa):=by
      rw[show 2*2^sb=2^(sb+1) by rw[Nat.pow_succ,Nat.mul_comm],<- Nat.pow_mul,<- Nat.pow_add,Nat.mul_comm (sb+1)]
     rw[er] at hr
     have hpl:=aiW a b (by omega)
     have hrl:(psr a b).length<=1000000:=by have:=asM a b;omega
     have hrd:Dl 1000000000 (psr a b):=fun j=>by
      have h5:((psr a b).getD j 0).natAbs<BB^((a.length+1-b.length)*(sb+1)+sa+1):=by
       refine Nat.lt_of_le_of_lt (hr j) ?_
       refine Nat.lt_of_lt_of_le (Nat.pow_lt_pow_right (m:=(a.length+1-b.length)*(sb+1)+sa) (n:=(a.length+1-b.length)*(sb+1)+sa+1) (by omega) (by omega)) (Nat.pow_le_pow_left (by rw[aan];omega) _)
      have h6:=aaE h5
      omega
     have hsm:SmP (psr a b):=hrd.smp (by omega)
     have hda:Dl 1000000000 a:=fun j=>by
      have h5:(a.getD j 0).natAbs<BB^(sa+1):=by
       refine Nat.lt_of_le_of_lt (ba j) ?_
       refine Nat.lt_of_lt_of_le (Nat.pow_lt_pow_right (m:=sa) (n:=sa+1) (by omega) (by omega)) (Nat.pow_le_pow_left (by rw[aan];omega) _)
      have:=aaE h5
      omega
     have hnl:=ami a b
     have hnp:=akj a b
     have h4:=h3 (agn a b).length (by rw[hnl];omega)
     have ih:=aoU k h4 hb (by omega) hlb (by omega) bb (by
      split
      ·rename_i h5
       exact (aqN (by omega)).mono (by omega)
      ·exact atf hr)
     refine ⟨.inr ⟨⟨hda,fb,by omega,hla,hlb,hsm,hrl,hrd⟩,ih.1⟩,fun p hp=>?_⟩
     rw[chn,if_neg hb0] at hp
     rcases List.mem_cons.1 hp with rfl | hp
     ·exact ⟨bb.mono (Nat.pow_le_pow_right (by omega) (by rw[alh];exact h1)),Nat.le_refl _⟩
     ·have:=ih.2 p hp
      exact ⟨this.1,by have:=this.2;omega⟩
theorem aoV:∀ (k:Nat) (a b:List Int),(chn k a b).length<=k
 | 0,_,_=>Nat.le_refl _
 | k+1,a,b=>by
   unfold chn
   split
   ·exact Nat.zero_le _
   ·rw[List.length_cons];have:=aoV k b (agn a b);omega
end Go.Proofs.YtkefcldcfeolbaaGreat
namespace Go.Proofs.YtkefcldcfeolbaaGreat
open Go.RowKit
def psd (f:List Int):List Int:=(aaf f).map (·.tdiv (aam f:Int))
theorem aje {c:Int} (h:c≠0):aad [c]=1:=by simp[aad,h]
theorem aoW (f:List Int) (k:Nat):(f.getD k 0).tmod (aam f:Int)=0:=by
 have h:=abU f k
 exact Int.tmod_eq_zero_of_dvd (Int.ofNat_dvd_left.2 h)
theorem aoX (f:List Int) (k:Nat):(psd f).getD k 0=(f.getD k 0).tdiv (aam f:Int):=by
 have h2:=aau f k
 unfold psd
 rw[List.getD_eq_getElem?_getD,List.getElem?_map]
 rw[List.getD_eq_getElem?_getD] at h2
 cases e:(aaf f)[k]? with
 | none=>rw[e] at h2;rw[<- h2];simp
 | some x=>rw[e] at h2;rw[<- h2];rfl
theorem aqO {f:List Int} (h0:aad f≠0):pred f=psd f:=by
 refine ahn (by rw[adf];unfold psd;rw[List.length_map,aae]) fun k _=>?_
 rw[aoX]
 have hne:=abf h0
 unfold pred
 split
 ·rename_i h
  have hs:sg (aai f)=-1:=by rcases aav (aai f) with ⟨_,e⟩ | ⟨_,e⟩ | ⟨_,e⟩<;>omega
  rw[agk,aau,aeD f h0,hs,Int.neg_mul,Int.one_mul,Int.tdiv_neg,Int.neg_neg]
 ·have hs:sg (aai f)=1:=by rcases aav (aai f) with ⟨_,e⟩ | ⟨_,e⟩ | ⟨_,e⟩<;>omega
  rw[aeD f h0,hs,Int.one_mul]
end Go.Proofs.YtkefcldcfeolbaaGreat
