/- Long division of the reference, digit by digit. Plain: no program. -/
import Derived.Test.YtjmglmgokfcgoaaGreatRbH
import Derived.Test.YtjmglmgokfcgoaaGreatIdP
import Derived.Test.YtjmglmgokfcgoaaGreatTab
namespace Go.Proofs.YtjmglmgokfcgoaaGreat
def btn (n i:Nat):Nat:=n / 2^i % 2
theorem btn_lt (n i:Nat):btn n i<2:=Nat.mod_lt _ (by decide)
def bln (n:Nat):Nat:=if n=0 then 0 else Nat.log2 n+1
theorem bln_lt (n:Nat):n<2^bln n:=by
 unfold bln
 split
 ·omega
 ·exact Nat.lt_log2_self
theorem bln_le {n k:Nat} (h:n<2^k):bln n≤k:=by
 unfold bln
 split
 ·omega
 ·rename_i h0
  exact (Nat.log2_lt h0).2 h
theorem btn_zero {n i:Nat} (h:n<2^i):btn n i=0:=by unfold btn;rw [Nat.div_eq_of_lt h]
theorem btn_top {n:Nat} (h:n≠0):btn n (bln n-1)=1:=by
 have h1:bln n-1=Nat.log2 n:=by unfold bln;rw [if_neg h,Nat.add_sub_cancel]
 have h2:=Nat.log2_self_le h
 have h3:n<2^(Nat.log2 n+1):=Nat.lt_log2_self
 rw [h1]
 unfold btn
 rw [Nat.pow_succ] at h3
 have h4:n / 2^Nat.log2 n=1:=by
  have hp:0<2^Nat.log2 n:=Nat.pow_pos (by decide)
  refine Nat.le_antisymm ?_ ?_
  ·have:n / 2^Nat.log2 n<2:=(Nat.div_lt_iff_lt_mul hp).2 (by omega)
   omega
  ·exact (Nat.le_div_iff_mul_le hp).2 (by omega)
 rw [h4]
def bts (n:Nat):List Int:=(List.range (bln n)).map fun i=>((btn n i:Nat):Int)
theorem bts_length (n:Nat):(bts n).length=bln n:=by simp [bts]
theorem bts_get (n i:Nat):(bts n).getD i 0=((btn n i:Nat):Int):=by
 by_cases h:i<bln n
 ·simp [bts,List.getD_eq_getElem?_getD,h]
 ·have h1:n<2^i:=Nat.lt_of_lt_of_le (bln_lt n) (Nat.pow_le_pow_right (by decide) (by omega))
  rw [btn_zero h1,List.getD_eq_getElem?_getD,List.getElem?_eq_none (by rw [bts_length];omega)];rfl
theorem bts_plen (n:Nat):plen (bts n)=bln n:=by
 by_cases h:n=0
 ·subst h;rfl
 ·have hb:0<bln n:=by unfold bln;rw [if_neg h];omega
  have:=plen_eq (bts n) (bln n-1) (by have:=plen_le (bts n);rw [bts_length] at this;omega) (by rw [bts_get,btn_top h];decide)
  omega
theorem bts_trim (n:Nat):ptrim (bts n)=bts n:=by unfold ptrim;rw [bts_plen,← bts_length,List.take_length]
theorem trim_bts {p:List Int} {n:Nat} (h:∀ j,j<p.length→p.getD j 0=((btn n j:Nat):Int)) (hn:n<2^p.length):ptrim p=bts n:=by
 rw [← bts_trim]
 refine ptrim_ext fun k=>?_
 rw [bts_get]
 by_cases hk:k<p.length
 ·exact h k hk
 ·have h1:n<2^k:=Nat.lt_of_lt_of_le hn (Nat.pow_le_pow_right (by decide) (by omega))
  rw [btn_zero h1,List.getD_eq_getElem?_getD,List.getElem?_eq_none (by omega)];rfl
theorem btn_mod (n i:Nat):n % 2^(i+1)=n % 2^i+btn n i*2^i:=by
 unfold btn
 rw [Nat.pow_succ,Nat.mod_mul]
 rw [Nat.mul_comm]
end Go.Proofs.YtjmglmgokfcgoaaGreat
namespace Go.Proofs.YtjmglmgokfcgoaaGreat
def dgt (B n i:Nat):Nat:=n / B^i % B
theorem dgt_lt {B:Nat} (hB:0<B) (n i:Nat):dgt B n i<B:=Nat.mod_lt _ hB
theorem mod_succ (B n i:Nat):n % B^(i+1)=n % B^i+dgt B n i*B^i:=by
 unfold dgt
 rw [Nat.pow_succ,Nat.mod_mul,Nat.mul_comm]
theorem dgt_low {B:Nat} (hB:0<B) (u v:Nat) {m j:Nat} (hj:j<m):dgt B (u+v*B^m) j=dgt B u j:=by
 obtain ⟨d,rfl⟩:∃ d,m=j+1+d:=⟨m-(j+1),by omega⟩
 have e:v*B^(j+1+d)=v*B^d*B*B^j:=by rw [Nat.pow_add,Nat.pow_succ];grind
 unfold dgt
 rw [e,Nat.add_mul_div_right _ _ (Nat.pow_pos hB),Nat.add_mul_mod_self_right]
theorem dgt_top {B n j:Nat} (h:n<B^(j+1)):dgt B n j=n / B^j:=by
 unfold dgt
 refine Nat.mod_eq_of_lt ?_
 rw [Nat.pow_succ,Nat.mul_comm] at h
 exact Nat.div_lt_of_lt_mul (by rw [Nat.mul_comm];exact h)
theorem dgt_zero {B n j:Nat} (h:n<B^j):dgt B n j=0:=by unfold dgt;rw [Nat.div_eq_of_lt h,Nat.zero_mod]
theorem two_pow_pos (s:Nat):0<2^s:=Nat.pow_pos (by decide)
theorem word_step {s:Nat} (hs:0<s) (n k j:Nat):dgt (2^s) (n % 2^(k+1)) j=if j=k / s then dgt (2^s) (n % 2^k) j+btn n k*2^(k % s) else dgt (2^s) (n % 2^k) j:=by
 have hk:=Nat.div_add_mod k s
 have hr:=Nat.mod_lt k hs
 obtain ⟨q,hq⟩:∃ q,q=k / s:=⟨_,rfl⟩
 obtain ⟨r,hr2⟩:∃ r,r=k % s:=⟨_,rfl⟩
 rw [← hq,← hr2] at hk
 rw [← hr2] at hr
 rw [← hq,← hr2,btn_mod]
 have e1:2^k=2^r*(2^s)^q:=by rw [← Nat.pow_mul,← Nat.pow_add];congr 1;omega
 have e2:btn n k*2^k=(btn n k*2^r)*(2^s)^q:=by rw [e1,Nat.mul_assoc]
 have hW:0<2^s:=two_pow_pos s
 have hle:2^(k+1)≤(2^s)^(q+1):=by
  rw [← Nat.pow_mul]
  exact Nat.pow_le_pow_right (by decide) (by rw [Nat.mul_succ];omega)
 have hl1:n % 2^k+btn n k*2^k<2^(k+1):=by rw [← btn_mod];exact Nat.mod_lt _ (two_pow_pos _)
 have hl2:n % 2^k<2^(k+1):=Nat.lt_of_le_of_lt (Nat.le_add_right _ _) hl1
 rcases Nat.lt_trichotomy j q with h | h | h
 ·rw [if_neg (by omega),e2,dgt_low hW _ _ h]
 ·subst h
  rw [if_pos rfl,dgt_top (Nat.lt_of_lt_of_le hl1 hle),dgt_top (Nat.lt_of_lt_of_le hl2 hle),e2,Nat.add_mul_div_right _ _ (Nat.pow_pos hW)]
 ·rw [if_neg (by omega)]
  have h3:(2^s)^(q+1)≤(2^s)^j:=Nat.pow_le_pow_right hW (by omega)
  rw [dgt_zero (Nat.lt_of_lt_of_le hl1 (Nat.le_trans hle h3)),dgt_zero (Nat.lt_of_lt_of_le hl2 (Nat.le_trans hle h3))]
theorem word_room {s:Nat} (hs:0<s) (n k:Nat):dgt (2^s) (n % 2^k) (k / s)+btn n k*2^(k % s)<2^s:=by
 have h:=word_step hs n k (k / s)
 rw [if_pos rfl] at h
 rw [← h]
 exact dgt_lt (two_pow_pos s) _ _
theorem bit_of {s:Nat} (hs:0<s) (n i:Nat):dgt (2^s) n (i / s) / 2^(i % s) % 2=btn n i:=by
 have hk:=Nat.div_add_mod i s
 have hr:=Nat.mod_lt i hs
 obtain ⟨q,hq⟩:∃ q,q=i / s:=⟨_,rfl⟩
 obtain ⟨r,hr2⟩:∃ r,r=i % s:=⟨_,rfl⟩
 rw [← hq,← hr2] at hk
 rw [← hr2] at hr
 rw [← hq,← hr2]
 unfold dgt btn
 have e1:(2:Nat)^s=2^r*2^(s-r):=by rw [← Nat.pow_add];congr 1;omega
 have e2:2^i=(2^s)^q*2^r:=by rw [← Nat.pow_mul,← Nat.pow_add];congr 1;omega
 have e3:n / (2^s)^q % 2^s / 2^r=n / (2^s)^q / 2^r % 2^(s-r):=by
  conv=>lhs;rw [e1]
  rw [Nat.mod_mul_right_div_self]
  rw [← e1]
 rw [e3,Nat.div_div_eq_div_mul,← e2]
 refine Nat.mod_mod_of_dvd _ ?_
 obtain ⟨t,ht⟩:∃ t,s-r=t+1:=⟨s-r-1,by omega⟩
 rw [ht,Nat.pow_succ]
 exact Nat.dvd_mul_left _ _
def wln (s n:Nat):Nat:=(bln n+(s-1)) / s
theorem lt_wln {s:Nat} (hs:0<s) (n:Nat):n<(2^s)^wln s n:=by
 refine Nat.lt_of_lt_of_le (bln_lt n) ?_
 rw [← Nat.pow_mul]
 refine Nat.pow_le_pow_right (by decide) ?_
 unfold wln
 have h:=Nat.div_add_mod (bln n+(s-1)) s
 have h2:=Nat.mod_lt (bln n+(s-1)) hs
 omega
theorem bit_word {s n k:Nat} (hs:0<s) (hk:k<bln n):k / s<wln s n:=by
 unfold wln
 refine (Nat.div_lt_iff_lt_mul hs).2 ?_
 have h:=Nat.div_add_mod (bln n+(s-1)) s
 have h2:=Nat.mod_lt (bln n+(s-1)) hs
 rw [Nat.mul_comm]
 omega
def mU (B N x y i k:Nat):Nat:=N % B^(i+k)+x*(y % B^k)*B^i
theorem mU_succ (B N x y i k:Nat):mU B N x y i (k+1)=mU B N x y i k+(dgt B N (i+k)+x*dgt B y k)*B^(i+k):=by
 unfold mU
 rw [← Nat.add_assoc,mod_succ,mod_succ,Nat.pow_add B i k]
 grind
theorem mU_zero (B N x y i:Nat):mU B N x y i 0=N % B^i:=by unfold mU;rw [Nat.pow_zero,Nat.mod_one];simp
theorem mU_lt {B:Nat} (hB:0<B) (N y i k:Nat) {x:Nat} (hx:x<B):mU B N x y i k<B^(i+k+1):=by
 unfold mU
 have h1:=Nat.mod_lt N (Nat.pow_pos hB (n:=i+k))
 have h2:=Nat.mod_lt y (Nat.pow_pos hB (n:=k))
 have h3:x*(y % B^k)*B^i≤(B-1)*B^(i+k):=by
  rw [Nat.pow_add,Nat.mul_comm (B^i),← Nat.mul_assoc]
  exact Nat.mul_le_mul_right _ (Nat.mul_le_mul (by omega) (by omega))
 have h4:B^(i+k+1)=B^(i+k)+(B-1)*B^(i+k):=by
  obtain ⟨C,rfl⟩:∃ C,B=C+1:=⟨B-1,by omega⟩
  rw [Nat.pow_succ,Nat.add_sub_cancel];grind
 omega
theorem mul_step {B:Nat} (hB:0<B) (N y i k:Nat) {x:Nat} (hx:x<B) {v:Nat} (hv:v=dgt B N (i+k)+x*dgt B y k+mU B N x y i k / B^(i+k)) :
  v % B=dgt B (mU B N x y i (k+1)) (i+k)∧v / B=mU B N x y i (k+1) / B^(i+k+1)∧(∀ j,j<i+k→dgt B (mU B N x y i (k+1)) j=dgt B (mU B N x y i k) j)∧mU B N x y i k / B^(i+k)<B:=by
 have hp:0<B^(i+k):=Nat.pow_pos hB
 have e:mU B N x y i (k+1) / B^(i+k)=v:=by
  rw [mU_succ,Nat.add_mul_div_right _ _ hp,hv];omega
 refine ⟨by unfold dgt;rw [e],by rw [Nat.pow_succ,← Nat.div_div_eq_div_mul,e],fun j hj=>?_,?_⟩
 ·rw [mU_succ,dgt_low hB _ _ hj]
 ·have:=mU_lt hB N y i k hx
  rw [Nat.pow_succ] at this
  exact Nat.div_lt_of_lt_mul this
theorem mU_full {B:Nat} (a y i l:Nat) (hy:y<B^l) (hB:0<B):mU B (a % B^i*y) (dgt B a i) y i l=a % B^(i+1)*y:=by
 unfold mU
 have h1:a % B^i*y<B^(i+l):=by
  rw [Nat.pow_add]
  have:=Nat.mod_lt a (Nat.pow_pos hB (n:=i))
  rcases Nat.eq_zero_or_pos y with h | h
  ·subst h;rw [Nat.mul_zero];exact Nat.mul_pos (Nat.pow_pos hB) (Nat.pow_pos hB)
  ·exact Nat.mul_lt_mul'' this hy
 rw [Nat.mod_eq_of_lt h1,Nat.mod_eq_of_lt hy,mod_succ]
 grind
theorem row_lt {B:Nat} (a y i l:Nat) (hy:y<B^l) (hB:0<B):a % B^i*y<B^(i+l):=by
 rw [Nat.pow_add]
 have:=Nat.mod_lt a (Nat.pow_pos hB (n:=i))
 rcases Nat.eq_zero_or_pos y with h | h
 ·subst h;rw [Nat.mul_zero];exact Nat.mul_pos (Nat.pow_pos hB) (Nat.pow_pos hB)
 ·exact Nat.mul_lt_mul'' this hy
theorem cmp_top {a b i:Nat} (h:a / 2^(i+1)=b / 2^(i+1)):(btn a i=btn b i→a / 2^i=b / 2^i)∧(btn a i<btn b i→a<b)∧(btn b i<btn a i→b<a):=by
 have e:∀ n,n / 2^i=2*(n / 2^(i+1))+btn n i:=fun n=>by
  unfold btn
  rw [Nat.pow_succ,← Nat.div_div_eq_div_mul]
  have:=Nat.div_add_mod (n / 2^i) 2
  omega
 have ea:=e a
 have eb:=e b
 rw [← h] at eb
 refine ⟨fun h1=>by omega,fun h1=>?_,fun h1=>?_⟩
 ·refine Classical.byContradiction fun hn=>?_
  have:=Nat.div_le_div_right (c:=2^i) (show b≤a by omega)
  omega
 ·refine Classical.byContradiction fun hn=>?_
  have:=Nat.div_le_div_right (c:=2^i) (show a≤b by omega)
  omega
theorem BBp:BB=2^32:=by rw [BB_eq]
theorem val_digit {ds:List Nat} (h:Wd ds):∀ q,ds.getD q 0=dgt BB (val ds) q:=by
 induction ds with
 | nil=>intro q;simp [val,dgt]
 | cons d ds ih =>
   intro q
   have hd:=h.head
   cases q with
   | zero =>
     unfold dgt
     rw [Nat.pow_zero,Nat.div_one]
     show d=(d+BB*val ds) % BB
     rw [Nat.add_mul_mod_self_left,Nat.mod_eq_of_lt hd]
   | succ q =>
     rw [List.getD_cons_succ,ih h.tail]
     unfold dgt
     rw [Nat.pow_succ,Nat.mul_comm,← Nat.div_div_eq_div_mul]
     show _=(d+BB*val ds) / BB / BB^q % BB
     rw [Nat.add_mul_div_left _ _ BB_pos,Nat.div_eq_of_lt hd,Nat.zero_add]
end Go.Proofs.YtjmglmgokfcgoaaGreat
namespace Go.Proofs.YtjmglmgokfcgoaaGreat
end Go.Proofs.YtjmglmgokfcgoaaGreat
