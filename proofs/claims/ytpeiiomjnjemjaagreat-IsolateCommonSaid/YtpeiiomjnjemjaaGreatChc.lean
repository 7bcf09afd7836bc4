/- What the law SturmChains compares; the walk of its function signed. -/
import Derived.Test.YtpeiiomjnjemjaaGreatStd
import Derived.Test.YtpeiiomjnjemjaaGreatPart
namespace Go.Proofs.YtpeiiomjnjemjaaGreat
open Go.RowKit
theorem pprim_len (f:List Int):(pprim f).length=plen f:=by
 unfold pprim
 split
 ·rename_i h;rw[h];rfl
 ·rw[List.length_map,ptrim_length]
theorem plen_of_len {p:List Int} {n:Nat} (h1:p.length=n+1) (h2:p.getD n 0≠0):plen p=n+1:=plen_eq p n (by have:=plen_le p;omega) h2
theorem pprim_get (f:List Int) (h:plen f≠0) (k:Nat):(pprim f).getD k 0=(f.getD k 0).tdiv (sg (plead f)*(pcont f:Int)):=by
 unfold pprim
 rw[if_neg h,List.getD_eq_getElem?_getD,List.getElem?_map]
 have h2:=ptrim_getD f k
 rw[List.getD_eq_getElem?_getD] at h2
 cases e:(ptrim f)[k]? with
 | none=>rw[e] at h2;rw[<- h2];simp
 | some x=>rw[e] at h2;rw[<- h2];rfl
theorem sg_pm {z:Int} (h:z≠0):sg z=1∨sg z=-1:=by rcases sg_cases z with ⟨_,e⟩ | ⟨_,e⟩ | ⟨_,e⟩<;>omega
theorem pprim_ne {f:List Int} (h:plen f≠0) {k:Nat} (hk:f.getD k 0≠0):(pprim f).getD k 0≠0:=by
 rw[pprim_get f h]
 have hd:=pcont_get f k
 have hs:=sg_pm (plead_ne h)
 intro e
 have h1:((f.getD k 0).tdiv (sg (plead f)*(pcont f:Int))).natAbs=(f.getD k 0).natAbs / pcont f:=by
  rw[Int.natAbs_tdiv,Int.natAbs_mul,Int.natAbs_natCast]
  rcases hs with e1 | e1<;>rw[e1]<;>simp<;>rfl
 rw[e] at h1
 obtain ⟨c,hc⟩:=hd
 rw[hc,Nat.mul_div_cancel_left _ (Nat.pos_of_ne_zero (pcont_ne h))] at h1
 have:(f.getD k 0).natAbs=0:=by rw[hc];simp at h1;rw[<- h1];simp
 omega
theorem pprim_plen (f:List Int):plen (pprim f)=plen f:=by
 rcases Nat.eq_zero_or_pos (plen f) with h | h
 ·have:=plen_le (pprim f);rw[pprim_len] at this;omega
 ·obtain ⟨n,hn⟩:∃ n,plen f=n+1:=⟨plen f-1,by omega⟩
  rw[hn]
  exact plen_of_len (by rw[pprim_len,hn]) (pprim_ne (by omega) (plen_lead f n hn))
theorem plen_pmn (p:List Int):plen (pmn p)=plen p:=by
 have h1:plen (pmn p)<=plen p:=plen_le_of fun k hk=>by rw[pmn_get,getD_ge_plen p k hk];rfl
 have h2:plen p<=plen (pmn p):=plen_le_of fun k hk=>by have:=getD_ge_plen (pmn p) k hk;rw[pmn_get] at this;omega
 omega
theorem pred_len (f:List Int):(pred f).length=plen f:=by
 unfold pred
 split
 ·rw[pmn_length,ptrim_length,pprim_plen]
 ·exact pprim_len f
theorem pred_plen (f:List Int):plen (pred f)=plen f:=by
 unfold pred
 split
 ·rw[plen_pmn,plen_ptrim,pprim_plen]
 ·exact pprim_plen f
theorem nrem_len (a b:List Int):(nrem a b).length=plen (psr a b):=by
 unfold nrem
 split
 ·exact pred_len _
 ·rw[pmn_length,ptrim_length,pred_plen]
theorem nrem_plen (a b:List Int):plen (nrem a b)=plen (psr a b):=by
 unfold nrem
 split
 ·exact pred_plen _
 ·rw[plen_pmn,plen_ptrim,pred_plen]
theorem pprim_bd {B:Nat} {f:List Int} (h:Bd B f):Bd B (pprim f):=fun k=>by
 by_cases h0:plen f=0
 ·unfold pprim;rw[if_pos h0];simp
 ·rw[pprim_get f h0,Int.natAbs_tdiv];exact Nat.le_trans (Nat.div_le_self _ _) (h k)
theorem pmn_bd {B:Nat} {f:List Int} (h:Bd B f):Bd B (pmn f):=fun k=>by rw[pmn_get,Int.natAbs_neg];exact h k
theorem pred_bd {B:Nat} {f:List Int} (h:Bd B f):Bd B (pred f):=by
 unfold pred
 split
 ·exact pmn_bd (pprim_bd h).ptrim
 ·exact pprim_bd h
theorem nrem_bd {B:Nat} {a b:List Int} (h:Bd B (psr a b)):Bd B (nrem a b):=by
 unfold nrem
 split
 ·exact pred_bd h
 ·exact pmn_bd (pred_bd h).ptrim
theorem pprim_one {f:List Int} (h:plen f<=1):Bd 1 (pprim f):=fun k=>by
 by_cases h0:plen f=0
 ·unfold pprim;rw[if_pos h0];simp
 ·have h1:plen f=1:=by omega
  rw[pprim_get f h0,Int.natAbs_tdiv,Int.natAbs_mul,Int.natAbs_natCast]
  have hs:(sg (plead f)).natAbs=1:=by rcases sg_pm (plead_ne h0) with e | e<;>rw[e]<;>rfl
  rw[hs,Nat.one_mul]
  by_cases hk:f.getD k 0=0
  ·rw[hk];show 0 / pcont f<=1;simp
  ·have hk0:k=0:=by
    rcases Nat.eq_zero_or_pos k with h2 | h2
    ·exact h2
    ·exact absurd (getD_ge_plen f k (by omega)) hk
   subst hk0
   have hc:(f.getD 0 0).natAbs∣pcont f:=by
    have hall:∀ g:List Int,(∀ j,1<=j->g.getD j 0=0)->(g.getD 0 0).natAbs∣pcont g:=by
     intro g hg
     cases g with
     | nil=>simp[pcont]
     | cons x t =>
       have ht:∀ l:List Int,(∀ j,l.getD j 0=0)->pcont l=0:=by
        intro l
        induction l with
        | nil=>intro _;rfl
        | cons y l ih =>
          intro hl
          have h1:y=0:=by simpa using hl 0
          have h2:=ih (fun j=>by simpa using hl (j+1))
          show Nat.gcd y.natAbs (pcont l)=0
          rw[h1,h2];rfl
       have h2:=ht t (fun j=>by simpa using hg (j+1) (by omega))
       show x.natAbs∣Nat.gcd x.natAbs (pcont t)
       rw[h2,Nat.gcd_zero_right]
       exact Nat.dvd_refl _
    exact hall f (fun j hj=>getD_ge_plen f j (by omega))
   have he:pcont f=(f.getD 0 0).natAbs:=Nat.dvd_antisymm (pcont_get f 0) hc
   rw[he]
   exact Nat.le_of_eq (Nat.div_self (by omega))
theorem nrem_one {a b:List Int} (h:plen (psr a b)<=1):Bd 1 (nrem a b):=by
 have h1:Bd 1 (pred (psr a b)):=by
  unfold pred
  split
  ·exact pmn_bd (pprim_one h).ptrim
  ·exact pprim_one h
 unfold nrem
 split
 ·exact h1
 ·exact pmn_bd h1.ptrim
noncomputable def CB:Nat:=Classical.choose (⟨34297600,rfl⟩:∃ n:Nat,n=34297600)
theorem CB_eq:CB=34297600:=Classical.choose_spec (⟨34297600,rfl⟩:∃ n:Nat,n=34297600)
def chk:Nat->Nat->Nat->Nat->Nat->Bool
 | 0,_,_,_,_=>false
 | k+1,la,lb,sa,sb=>lb == 0 || (decide (sb<=34297600) && decide (sa<=34297600) && decide ((la+1-lb)*(sb+1)+sa<=34297600) && (List.range lb).all fun lc=>chk k lb lc sb (if lc<=1 then 1 else (la+1-lb)*(sb+1)+sa))
theorem chk_ok2:∀ (k:Nat) {a b:List Int} {sa sb:Nat},chk k a.length b.length sa sb=true->plen a=a.length->plen b=b.length->a.length<=1000000->b.length<=1000000->Bd (2^sa) a->Bd (2^sb) b->chOK k a b/\∀ p∈chn k a b,Bd (2^CB) p/\p.length<=b.length
 | 0,_,_,_,_,h,_,_,_,_,_,_=>by simp[chk] at h
 | k+1,a,b,sa,sb,h,ha,hb,hla,hlb,ba,bb=>by
   simp only[chk,Bool.or_eq_true,Bool.and_eq_true,beq_iff_eq,decide_eq_true_eq,List.all_eq_true,List.mem_range] at h
   rcases h with h | ⟨⟨⟨h1,h2⟩,hsz⟩,h3⟩
   ·have hb0:b=[]:=List.eq_nil_of_length_eq_zero h
    exact ⟨.inl hb0,fun p hp=>by rw[chn,if_pos hb0] at hp;simp at hp⟩
   ·by_cases hb0:b=[]
    ·exact ⟨.inl hb0,fun p hp=>by rw[chn,if_pos hb0] at hp;simp at hp⟩
    ·have hbl:0<b.length:=List.length_pos_iff.2 hb0
     have fb:FitP b:=fun j=>by
      refine Nat.lt_of_le_of_lt (bb j) ?_
      obtain ⟨K,hK⟩:∃ K:Nat,K=32*FW:=⟨_,rfl⟩
      have e1:BB^FW=2^K:=by rw[BB_eq,show (4294967296:Nat)=2^32 from rfl,<- Nat.pow_mul,<- hK]
      rw[FW_eq] at hK
      rw[e1]
      exact Nat.pow_lt_pow_right (by omega) (by omega)
     have hM:1<=2^sb:=Nat.pow_pos (by omega)
     have hr:=(psqr_bd (n:=a.length+1-b.length) hM bb ba (by omega)).2
     have er:(2*2^sb)^(a.length+1-b.length)*2^sa=2^((a.length+1-b.length)*(sb+1)+sa):=by
      rw[show 2*2^sb=2^(sb+1) by rw[Nat.pow_succ,Nat.mul_comm],<- Nat.pow_mul,<- Nat.pow_add,Nat.mul_comm (sb+1)]
     rw[er] at hr
     have hpl:=psr_plen a b (by omega)
     have hrl:(psr a b).length<=1000000:=by have:=psr_len a b;omega
     have hrd:Dl 1000000000 (psr a b):=fun j=>by
      have h5:((psr a b).getD j 0).natAbs<BB^((a.length+1-b.length)*(sb+1)+sa+1):=by
       refine Nat.lt_of_le_of_lt (hr j) ?_
       refine Nat.lt_of_lt_of_le (Nat.pow_lt_pow_right (m:=(a.length+1-b.length)*(sb+1)+sa) (n:=(a.length+1-b.length)*(sb+1)+sa+1) (by omega) (by omega)) (Nat.pow_le_pow_left (by rw[BB_eq];omega) _)
      have h6:=dlen_le_of_lt h5
      omega
     have hsm:SmP (psr a b):=hrd.smp (by omega)
     have hda:Dl 1000000000 a:=fun j=>by
      have h5:(a.getD j 0).natAbs<BB^(sa+1):=by
       refine Nat.lt_of_le_of_lt (ba j) ?_
       refine Nat.lt_of_lt_of_le (Nat.pow_lt_pow_right (m:=sa) (n:=sa+1) (by omega) (by omega)) (Nat.pow_le_pow_left (by rw[BB_eq];omega) _)
      have:=dlen_le_of_lt h5
      omega
     have hnl:=nrem_len a b
     have hnp:=nrem_plen a b
     have h4:=h3 (nrem a b).length (by rw[hnl];omega)
     have ih:=chk_ok2 k h4 hb (by omega) hlb (by omega) bb (by
      split
      ·rename_i h5
       exact (nrem_one (by omega)).mono (by omega)
      ·exact nrem_bd hr)
     refine ⟨.inr ⟨⟨hda,fb,by omega,hla,hlb,hsm,hrl,hrd⟩,ih.1⟩,fun p hp=>?_⟩
     rw[chn,if_neg hb0] at hp
     rcases List.mem_cons.1 hp with rfl | hp
     ·exact ⟨bb.mono (Nat.pow_le_pow_right (by omega) (by rw[CB_eq];exact h1)),Nat.le_refl _⟩
     ·have:=ih.2 p hp
      exact ⟨this.1,by have:=this.2;omega⟩
theorem chn_len:∀ (k:Nat) (a b:List Int),(chn k a b).length<=k
 | 0,_,_=>Nat.le_refl _
 | k+1,a,b=>by
   unfold chn
   split
   ·exact Nat.zero_le _
   ·rw[List.length_cons];have:=chn_len k b (nrem a b);omega
end Go.Proofs.YtpeiiomjnjemjaaGreat
namespace Go.Proofs.YtpeiiomjnjemjaaGreat
open Go.RowKit
def psd (f:List Int):List Int:=(ptrim f).map (·.tdiv (pcont f:Int))
theorem plen_one {c:Int} (h:c≠0):plen [c]=1:=by simp[plen,h]
theorem tmod_cont (f:List Int) (k:Nat):(f.getD k 0).tmod (pcont f:Int)=0:=by
 have h:=pcont_get f k
 exact Int.tmod_eq_zero_of_dvd (Int.ofNat_dvd_left.2 h)
theorem psd_get (f:List Int) (k:Nat):(psd f).getD k 0=(f.getD k 0).tdiv (pcont f:Int):=by
 have h2:=ptrim_getD f k
 unfold psd
 rw[List.getD_eq_getElem?_getD,List.getElem?_map]
 rw[List.getD_eq_getElem?_getD] at h2
 cases e:(ptrim f)[k]? with
 | none=>rw[e] at h2;rw[<- h2];simp
 | some x=>rw[e] at h2;rw[<- h2];rfl
theorem pred_psd {f:List Int} (h0:plen f≠0):pred f=psd f:=by
 refine eq_of_getD' (by rw[pred_len];unfold psd;rw[List.length_map,ptrim_length]) fun k _=>?_
 rw[psd_get]
 have hne:=plead_ne h0
 unfold pred
 split
 ·rename_i h
  have hs:sg (plead f)=-1:=by rcases sg_cases (plead f) with ⟨_,e⟩ | ⟨_,e⟩ | ⟨_,e⟩<;>omega
  rw[pmn_get,ptrim_getD,pprim_get f h0,hs,Int.neg_mul,Int.one_mul,Int.tdiv_neg,Int.neg_neg]
 ·have hs:sg (plead f)=1:=by rcases sg_cases (plead f) with ⟨_,e⟩ | ⟨_,e⟩ | ⟨_,e⟩<;>omega
  rw[pprim_get f h0,hs,Int.one_mul]
end Go.Proofs.YtpeiiomjnjemjaaGreat
