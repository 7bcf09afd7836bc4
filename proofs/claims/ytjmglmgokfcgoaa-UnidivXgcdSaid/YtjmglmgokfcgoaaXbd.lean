/- What unidiv.following reckons with stays within bounds. Plain: no program. -/
import Derived.Test.YtjmglmgokfcgoaaXsz
import Derived.Test.YtjmglmgokfcgoaaBto
namespace Go.Proofs.Ytjmglmgokfcgoaa
theorem xB_ge (e:Nat):1≤xB e:=Nat.le_trans (by decide) (xB_pos e)
theorem xB_fit {e:Nat} (he:e≤12):xB e<BB^FW:=Nat.lt_of_le_of_lt (Nat.pow_le_pow_right (by decide) (show max 2 e≤12 by omega)) (by rw [BB_eq];first | decide +kernel | (rw [FW_eq];decide +kernel))
theorem RB.fit {e:Nat} {r u v:List Int} (h:RB (xB e) r u v) (he:e≤12):FitP r∧FitP u∧FitP v:=⟨fun k=>Nat.lt_of_le_of_lt (h.1 k) (xB_fit he),fun k=>Nat.lt_of_le_of_lt (h.2.1 k) (xB_fit he),fun k=>Nat.lt_of_le_of_lt (h.2.2 k) (xB_fit he)⟩
theorem xe_mul {la k:Nat} (h1:1≤la) (h6:la≤6) (hk:k≤la):max 2 (14-2*la)*k≤24∧max 2 (14-2*la)*(k+1)≤32:=by
 have hl:la=1∨la=2∨la=3∨la=4∨la=5∨la=6:=by omega
 have m1:max 2 (14-2*la)*k≤max 2 (14-2*la)*la:=Nat.mul_le_mul_left _ hk
 have m2:max 2 (14-2*la)*(k+1)≤max 2 (14-2*la)*(la+1):=Nat.mul_le_mul_left _ (by omega)
 rcases hl with rfl | rfl | rfl | rfl | rfl | rfl<;>exact ⟨Nat.le_trans m1 (by decide),Nat.le_trans m2 (by decide)⟩
theorem XZ.fits {f g a ua va b ub vb:List Int} (h:XZ f g a ua va b ub vb) (b0:plen b≠0) (f6:plen f≤6):Fit (plead b^(plen a-(plen b-1)))∧FitP (psq a b)∧(FitP a∧FitP ua∧FitP va)∧FitP b∧FitP ub∧FitP vb:=by
 have hl:=h.xs.lf
 have a0:=h.xs.a0
 have lab:=h.xs.lab
 have hb:=h.bb b0
 obtain ⟨x1,x2⟩:=xe_mul (la:=plen a) (k:=plen a-(plen b-1)) (by omega) (by omega) (by omega)
 refine ⟨?_,fun k=>?_,h.ba.fit (by omega),hb.fit (by omega)⟩
 ·unfold Fit
  rw [Int.natAbs_pow]
  refine Nat.lt_of_le_of_lt (Nat.pow_le_pow_left (hb.1 (plen b-1)) _) ?_
  unfold xB
  rw [← Nat.pow_mul]
  exact Nat.lt_of_le_of_lt (Nat.pow_le_pow_right (by decide) x1) (by rw [BB_eq];first | decide +kernel | (rw [FW_eq];decide +kernel))
 ·have h1:=rrun_ps (f:=a) (g:=b) (by omega)
  have h2:=(rrun_bd (f:=ptrim a) (g:=ptrim b) (d:=plen b-1) (K:=plen a-plen b) (M:=xB (14-2*plen a)) (fun j=>by rw [ptrim_getD];exact hb.1 j) (fun j=>by rw [ptrim_getD];exact Nat.le_trans (h.ba.1 j) (xB_mono (by omega))) (xB_ge _) (plen a+1-plen b)).1
  rw [h1] at h2
  refine Nat.lt_of_le_of_lt (h2 k) ?_
  have e1:2*xB (14-2*plen a)≤(20*xH)^(max 2 (14-2*plen a)):=by
   unfold xB
   have e0:(20*xH)^(max 2 (14-2*plen a))=2^(max 2 (14-2*plen a))*(10*xH)^(max 2 (14-2*plen a)):=by
    rw [← Nat.mul_pow,show 2*(10*xH)=20*xH from by decide]
   rw [e0]
   refine Nat.mul_le_mul_right _ ?_
   exact Nat.le_trans (show 2≤2^1 by decide) (Nat.pow_le_pow_right (by decide) (by omega))
  have e2:xB (14-2*plen a)≤(20*xH)^(max 2 (14-2*plen a)):=by omega
  have e3:=Nat.mul_le_mul (Nat.pow_le_pow_left e1 (plen a+1-plen b)) e2
  rw [← Nat.pow_mul,← Nat.pow_add] at e3
  refine Nat.lt_of_le_of_lt e3 (Nat.lt_of_le_of_lt (show _≤(20*xH)^32 from Nat.pow_le_pow_right (by decide) ?_) (by rw [BB_eq];first | decide +kernel | (rw [FW_eq];decide +kernel)))
  have e4:max 2 (14-2*plen a)*(plen a+1-plen b)+max 2 (14-2*plen a)=max 2 (14-2*plen a)*(plen a-(plen b-1)+1):=by
   rw [Nat.mul_add,Nat.mul_one,show plen a+1-plen b=plen a-(plen b-1) by omega]
  rw [e4]
  exact x2
end Go.Proofs.Ytjmglmgokfcgoaa
