/- The walk of sturm.Query at polynomials that are not too large, f other than 0 at both ends. -/
import Derived.Test.YtbfddopopajgaabGreatSqw
namespace Go.Proofs.YtbfddopopajgaabGreat
open Go.RowKit
theorem mul_plen {a b:List Int} {n:Nat} (h:plen a=0∨plen b=0∨plen a+plen b≤n+1):plen (polymul a b)≤n:=by
 by_cases a0:plen a=0
 ·rw [rmul_zero (.inl a0)];exact Nat.zero_le _
 by_cases b0:plen b=0
 ·rw [rmul_zero (.inr b0)];exact Nat.zero_le _
 rw [(plen_mul (f:=a) (g:=b) (by omega) (by omega)).1]
 rcases h with h | h | h<;>omega
theorem mul_coef {a b:List Int} {X Y:Nat} (ha:∀ j,(a.getD j 0).natAbs≤X) (hb:∀ j,(b.getD j 0).natAbs≤Y) (la:plen a≤16) (j:Nat):((polymul a b).getD j 0).natAbs≤16*(X*Y):=by
 rw [polymul_getD,← qcs_pc a b j (plen a) (Nat.le_refl _)]
 exact Nat.le_trans (qcs_bd ha hb j _) (Nat.mul_le_mul_right _ la)
theorem mul_coef2 {a b:List Int} {i k:Nat} (ha:∀ j,(a.getD j 0).natAbs≤BB^i) (hb:∀ j,(b.getD j 0).natAbs≤BB^k) (la:plen a≤16) (j:Nat):((polymul a b).getD j 0).natAbs≤BB^(i+k+1):=by
 refine Nat.le_trans (mul_coef ha hb la j) ?_
 rw [← Nat.pow_add]
 exact bbk_mul (by decide)
def dgm (f g:List Int):List Int:=polymul (ptrim (pder f)) (ptrim g)
theorem dgm_get (f g:List Int) (k:Nat):(dgm f g).getD k 0=(polymul (pder f) g).getD k 0:=ev_inj (fun x=>by unfold dgm;rw [ev_mul,ev_mul,ev_ptrim,ev_ptrim]) k
def nq (f g:List Int):Int:=pline 12 f (dgm f g)
noncomputable def nqi (f g:List Int) (a b:Pt):Int:=chv (pchain 12 f (dgm f g)) a-chv (pchain 12 f (dgm f g)) b
theorem nqi_sum {f g:List Int} (hf:CP f) (hd:CP (dgm f g)) {a b:Pt} (hab:a<b) (ha:sgp f a≠0) (hb:sgp f b≠0) {xs:List Pt} (hx:Lst (fun x=>sgp f x=0∧a<x∧x<b) xs):nqi f g a b=isum (xs.map (sgp g)):=by
 have h0:plen f≠0:=fun e=>ha (sgp_zero e a)
 unfold nqi
 rw [pint_jm h0 (chain_all hf hd).1 hab ha hb hx]
 congr 1
 exact List.map_congr_left fun x h=>jm_tarski h0 (dgm_get f g) ((hx.2 x).1 h).1
theorem P9.dg {f g:List Int} (h:P9 f) (lf:plen f≤6) (lg:plen g≤6) (bg:∀ j,(g.getD j 0).natAbs≤BB):CP (dgm f g):=by
 have h2:=plen_pder f
 refine ⟨by rw [plen_congr (dgm_get f g)];exact mul_plen (by omega),fun j=>?_⟩
 rw [dgm_get]
 refine Nat.le_trans (mul_coef2 (i:=11) (k:=1) (fun j=>pder_abs (k:=10) (by omega) h.b j) (fun j=>by rw [Nat.pow_one];exact bg j) (by omega) j) (bbk_le (by decide))
end Go.Proofs.YtbfddopopajgaabGreat
namespace Go.Proofs.YtbfddopopajgaabGreat
open Go.RowKit
structure G6 (g:List Int):Prop where
 len:g.length≤6
 b:∀ j,(g.getD j 0).natAbs≤BB
theorem G6.plen {g:List Int} (h:G6 g):plen g≤6:=by have:=plen_le g;have:=h.len;omega
theorem G6.fit {g:List Int} (h:G6 g):FitP g:=fun j=>Nat.lt_of_le_of_lt (h.b j) (by rw [show BB=BB^1 from (Nat.pow_one _).symm,← Nat.pow_mul,Nat.one_mul];exact Nat.pow_lt_pow_right (by rw [BB_eq];decide) (by rw [FW_eq];decide))
theorem polymul_le (f g:List Int):(polymul f g).length≤f.length+g.length:=by
 unfold polymul
 split
 ·exact Nat.zero_le _
 ·rw [pmul_length];omega
end Go.Proofs.YtbfddopopajgaabGreat
namespace Go.Proofs.YtbfddopopajgaabGreat
open Go.RowKit
set_option maxHeartbeats 1000000 in
theorem wroot_same {I:IntPred} (hI:IK I) (A:Option Addr) (len cap:Nat) (p:List Int) (n:Bool) (N:Option Addr) (nl nc:Nat) (B:Option Addr) (m d q:Nat) (z:Int) (w:World) (h:PolyP I w A len cap p) (hz:IntN w n N nl nc z) (hq:NatN w B m d q) (ha:AtOK z q) (hp:PoOK z q p) (h0:sat z q p≠0) :
  Calls Tryz.prog 47 #[.slice A len cap,.agg #[.bool n,.slice N nl nc,.slice B m d]] w fun e w'=>e=.returned (.slice A len cap)∧Below w.heap.size w w':=by
 have o1:=below_new w (rbox n N nl nc B m d)
 have R1:=Lib.hid (RBox.make hz hq)
 have h1:=h.below hI o1
 have Hb:=Lib.hid o1
 obtain ⟨S,hS⟩:∃ S,S=sat z q p:=⟨_,rfl⟩
 have bS:(S == 0)=false:=by rw [beq_eq_false_iff_ne,hS];exact h0
 have nS:¬ S=0:=by rw [hS];exact h0
 have HS:=Lib.hid hS
 have x0:=R1.out.c0
 have x1:=R1.out.c1
 have x2:=R1.out.c2
 have hlen:len≤1000000:=by rw [← h.length];exact hp.len
 clear o1 hz hq h hS h0
 go_enter Tryz.func47,Tryz.ntmps47
 go_wp2_with fail
 refine (signat_any hI _ _ _ p _ _ _ _ _ _ _ _ _ _ h1 hp.fit hlen R1.out.hz R1.out.hq ha.u ha.v ha.pos hp.ok ha.fz ha.fq).mono ?_
 rintro e w1 ⟨he,hb1⟩
 have he2:e=.returned (.int .i64 S):=by rw [HS.out];exact he
 subst he2
 replace Hb:=Lib.hid (Hb.out.trans (hb1.mono Hb.out.size))
 clear he h1 hb1 R1 x0 x1 x2
 go_wp2
 go_ret
 exact ⟨rfl,Hb.out⟩
end Go.Proofs.YtbfddopopajgaabGreat
