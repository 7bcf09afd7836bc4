/- The walk of sturm.Query at polynomials that are not too large, f other than 0 at both ends. -/
import Derived.Test.YtipocabbjinbhaaGreatSqw
namespace Go.Proofs.YtipocabbjinbhaaGreat
open Go.RowKit
theorem mul_plen {a b:List Int} {n:Nat} (h:plen a=0∨plen b=0∨plen a+plen b≤n+1):plen (polymul a b)≤n:=by
 by_cases a0:plen a=0
 ·rw [rmul_zero (.inl a0)];exact Nat.zero_le _
 by_cases b0:plen b=0
 ·rw [rmul_zero (.inr b0)];exact Nat.zero_le _
 rw [(plen_mul (f:=a) (g:=b) (by omega) (by omega)).1]
 rcases h with h | h | h<;>omega
theorem mul_coef {a b:List Int} {X Y:Nat} (ha:∀ j,(a.getD j 0).natAbs≤X) (hb:∀ j,(b.getD j 0).natAbs≤Y) (la:plen a≤16) (j:Nat):((polymul a b).getD j 0).natAbs≤16*(X*Y):=by
 rw [polymul_getD,← qcs_pc a b j (plen a) (Nat.le_refl _)]
 exact Nat.le_trans (qcs_bd ha hb j _) (Nat.mul_le_mul_right _ la)
theorem mul_coef2 {a b:List Int} {i k:Nat} (ha:∀ j,(a.getD j 0).natAbs≤BB^i) (hb:∀ j,(b.getD j 0).natAbs≤BB^k) (la:plen a≤16) (j:Nat):((polymul a b).getD j 0).natAbs≤BB^(i+k+1):=by
 refine Nat.le_trans (mul_coef ha hb la j) ?_
 rw [← Nat.pow_add]
 exact bbk_mul (by decide)
def dgm (f g:List Int):List Int:=polymul (ptrim (pder f)) (ptrim g)
theorem dgm_get (f g:List Int) (k:Nat):(dgm f g).getD k 0=(polymul (pder f) g).getD k 0:=ev_inj (fun x=>by unfold dgm;rw [ev_mul,ev_mul,ev_ptrim,ev_ptrim]) k
def nq (f g:List Int):Int:=pline 12 f (dgm f g)
noncomputable def nqi (f g:List Int) (a b:Pt):Int:=chv (pchain 12 f (dgm f g)) a-chv (pchain 12 f (dgm f g)) b
theorem nq_sum {f g:List Int} (hf:CP f) (hd:CP (dgm f g)) (h0:plen f≠0) {xs:List Pt} (hx:Lst (fun x=>sgp f x=0) xs):nq f g=isum (xs.map (sgp g)):=by
 unfold nq
 rw [pline_jm h0 (chain_all hf hd).1 hx]
 congr 1
 exact List.map_congr_left fun x h=>jm_tarski h0 (dgm_get f g) ((hx.2 x).1 h)
theorem nqi_sum {f g:List Int} (hf:CP f) (hd:CP (dgm f g)) {a b:Pt} (hab:a<b) (ha:sgp f a≠0) (hb:sgp f b≠0) {xs:List Pt} (hx:Lst (fun x=>sgp f x=0∧a<x∧x<b) xs):nqi f g a b=isum (xs.map (sgp g)):=by
 have h0:plen f≠0:=fun e=>ha (sgp_zero e a)
 unfold nqi
 rw [pint_jm h0 (chain_all hf hd).1 hab ha hb hx]
 congr 1
 exact List.map_congr_left fun x h=>jm_tarski h0 (dgm_get f g) ((hx.2 x).1 h).1
theorem P9.dg {f g:List Int} (h:P9 f) (lf:plen f+plen g≤12) (bg:∀ j,(g.getD j 0).natAbs≤BB):CP (dgm f g):=by
 have h2:=plen_pder f
 refine ⟨by rw [plen_congr (dgm_get f g)];exact mul_plen (by omega),fun j=>?_⟩
 rw [dgm_get]
 refine Nat.le_trans (mul_coef2 (i:=11) (k:=1) (fun j=>pder_abs (k:=10) (by omega) h.b j) (fun j=>by rw [Nat.pow_one];exact bg j) (by omega) j) (bbk_le (by decide))
theorem P9.qg {f g:List Int} (h:P9 f) (lf:plen f+plen g≤12) (bg:∀ j,(g.getD j 0).natAbs≤BB):CP (dgm (qpart f) g):=by
 have h2:=plen_pder (qpart f)
 have h3:=h.part_l
 refine ⟨by rw [plen_congr (dgm_get (qpart f) g)];exact mul_plen (by omega),fun j=>?_⟩
 rw [dgm_get]
 refine Nat.le_trans (mul_coef2 (i:=17) (k:=1) (fun j=>pder_abs (k:=16) (by omega) h.part_b j) (fun j=>by rw [Nat.pow_one];exact bg j) (by omega) j) (bbk_le (by decide))
theorem nq_nil {f g:List Int} (h:plen f=0):nq f g=0:=pline_nil h
theorem nq_part {f g:List Int} (h:P9 f) (lf:plen f+plen g≤12) (bg:∀ j,(g.getD j 0).natAbs≤BB):nq (qpart f) g=nq f g:=by
 by_cases h0:plen f=0
 ·rw [qpart_nil h0,nq_nil h0];exact nq_nil rfl
 ·have hq:=q_facts h.q h0
  obtain ⟨xs,hx⟩:=roots_lst h0 (fun _=>True)
  have hx1:Lst (fun x=>sgp f x=0) xs:=hx.congr fun x=>⟨fun h=>h.1,fun h=>⟨h,trivial⟩⟩
  rw [nq_sum h.cp (h.dg lf bg) h0 hx1,nq_sum h.part (h.qg lf bg) hq.q0 (hx1.congr fun x=>(hq.root x).symm)]
end Go.Proofs.YtipocabbjinbhaaGreat
namespace Go.Proofs.YtipocabbjinbhaaGreat
open Go.RowKit
structure G6 (g:List Int):Prop where
 len:g.length≤6
 b:∀ j,(g.getD j 0).natAbs≤BB
theorem G6.plen {g:List Int} (h:G6 g):plen g≤6:=by have:=plen_le g;have:=h.len;omega
theorem G6.fit {g:List Int} (h:G6 g):FitP g:=fun j=>Nat.lt_of_le_of_lt (h.b j) (by rw [show BB=BB^1 from (Nat.pow_one _).symm,← Nat.pow_mul,Nat.one_mul];exact Nat.pow_lt_pow_right (by rw [BB_eq];decide) (by rw [FW_eq];decide))
theorem polymul_le (f g:List Int):(polymul f g).length≤f.length+g.length:=by
 unfold polymul
 split
 ·exact Nat.zero_le _
 ·rw [pmul_length];omega
set_option maxHeartbeats 400000 in
theorem qall_any {I J:IntPred} (hI:IK I) (hJ:IK J) (A:Option Addr) (la ca:Nat) (f:List Int) (B:Option Addr) (lb cb:Nat) (g:List Int) (w:World) (hf:PolyP I w A la ca f) (hg:PolyP J w B lb cb g) (h9:P9 f) (l6:plen f+plen g≤12) (hg6:G6 g) (hla:la≤1000000) :
  Calls Tryz.prog 22 #[.slice A la ca,.slice B lb cb] w fun e w'=>e=.returned (.int .i64 (nq f g))∧Below w.heap.size w w':=by
 have sf:=h9.cp.fit.smp
 have c1:=h9.part
 have c2:=h9.pder
 have c3:=h9.qg l6 hg6.b
 have hn:=Lib.hid (nq_part h9 l6 hg6.b)
 have ht:=h9.part_t
 have hlb:lb≤6:=by have:=hg.length;have:=hg6.len;omega
 obtain ⟨V,hV⟩:∃ V,V=nq f g:=⟨_,rfl⟩
 rw [← hV] at hn ⊢
 have HG:=Lib.hid hg
 clear hV hg
 go_enter Tryz.func22,Tryz.ntmps22
 go_wp2_with fail
 refine (part_q hI _ _ _ _ _ hf sf (fun _=>h9.q) hla).mono ?_
 rintro e w1 ⟨A1,l1,c1',rfl,h1,hb1⟩
 have hl:=h1.length
 have hlp:=c1.len
 have hl1:l1≤10:=by rw [← hl,← ht,ptrim_length];exact hlp
 replace HG:=Lib.hid (HG.out.below hJ hb1)
 have Hb1:=Lib.hid hb1
 obtain ⟨Q,hQ⟩:∃ Q,Q=qpart f:=⟨_,rfl⟩
 rw [← hQ] at h1 c1 c2 c3 hn
 have H1:=Lib.hid h1
 clear hf hb1 hl ht hlp hQ h1
 go_wp2_with fail
 refine (derivative_any ikN _ _ _ _ _ H1.out c1.fit.smp (by omega)).mono ?_
 rintro e w4 ⟨A4,l4,c4,rfl,h4,hb4⟩
 have hl4:l4≤10:=by have:=h4.length;rw [pder_length] at this;have:=H1.out.length;have:=plen_le Q;omega
 replace H1:=Lib.hid (H1.out.below ikN hb4)
 replace HG:=Lib.hid (HG.out.below hJ hb4)
 have Hb4:=Lib.hid (Hb1.out.trans (hb4.mono Hb1.out.size))
 clear hb4 Hb1
 go_wp2_with fail
 refine (polymul_any ikN hJ _ _ _ (pder Q) _ _ _ g _ h4 HG.out c2.fit hg6.fit (by omega) (by omega)).mono ?_
 rintro e w5 ⟨A5,l5,c5,rfl,h5,hb5⟩
 have hl5:l5≤20:=by
  have:=h5.length
  have:=polymul_le (ptrim (pder Q)) (ptrim g)
  rw [ptrim_length,ptrim_length] at this
  have:=hg6.plen
  have:=c2.len
  omega
 replace H1:=Lib.hid (H1.out.below ikN hb5)
 have Hb5:=Lib.hid (Hb4.out.trans (hb5.mono Hb4.out.size))
 obtain ⟨k1,k2,k3,k4⟩:=chain_all c1 c3
 clear hb5 Hb4 h4 HG
 go_wp2_with fail
 refine (chain_any _ _ _ Q _ _ _ (dgm Q g) _ H1.out h5 c1.fit.smp c3.fit.smp (by omega) (by omega) 12 k1 (by omega)).mono ?_
 rintro e w2' ⟨A2,l2,c2',rfl,h2,hb2⟩
 have Hb2:=Lib.hid (Hb5.out.trans (hb2.mono Hb5.out.size))
 clear h5 hb2 Hb5 H1
 go_wp2_with fail
 refine (lost_q _ _ _ _ _ _ _ h2 k2 (by omega)).mono ?_
 rintro e w3 ⟨he,hb3⟩
 have he2:e=.returned (.int .i64 V):=by rw [he,← hn.out];rfl
 subst he2
 have Hb3:=Lib.hid (Hb2.out.trans (hb3.mono Hb2.out.size))
 clear h2 hb3 Hb2 he
 go_wp2
 go_ret
 exact ⟨rfl,Hb3.out⟩
end Go.Proofs.YtipocabbjinbhaaGreat
namespace Go.Proofs.YtipocabbjinbhaaGreat
open Go.RowKit
set_option maxHeartbeats 1000000 in
theorem wroot_same {I:IntPred} (hI:IK I) (A:Option Addr) (len cap:Nat) (p:List Int) (n:Bool) (N:Option Addr) (nl nc:Nat) (B:Option Addr) (m d q:Nat) (z:Int) (w:World) (h:PolyP I w A len cap p) (hz:IntN w n N nl nc z) (hq:NatN w B m d q) (ha:AtOK z q) (hp:PoOK z q p) (h0:sat z q p≠0) :
  Calls Tryz.prog 79 #[.slice A len cap,.agg #[.bool n,.slice N nl nc,.slice B m d]] w fun e w'=>e=.returned (.slice A len cap)∧Below w.heap.size w w':=by
 have o1:=below_new w (rbox n N nl nc B m d)
 have R1:=Lib.hid (RBox.make hz hq)
 have h1:=h.below hI o1
 have Hb:=Lib.hid o1
 obtain ⟨S,hS⟩:∃ S,S=sat z q p:=⟨_,rfl⟩
 have bS:(S == 0)=false:=by rw [beq_eq_false_iff_ne,hS];exact h0
 have nS:¬ S=0:=by rw [hS];exact h0
 have HS:=Lib.hid hS
 have x0:=R1.out.c0
 have x1:=R1.out.c1
 have x2:=R1.out.c2
 have hlen:len≤1000000:=by rw [← h.length];exact hp.len
 clear o1 hz hq h hS h0
 go_enter Tryz.func79,Tryz.ntmps79
 go_wp2_with fail
 refine (signat_any hI _ _ _ p _ _ _ _ _ _ _ _ _ _ h1 hp.fit hlen R1.out.hz R1.out.hq ha.u ha.v ha.pos hp.ok ha.fz ha.fq).mono ?_
 rintro e w1 ⟨he,hb1⟩
 have he2:e=.returned (.int .i64 S):=by rw [HS.out];exact he
 subst he2
 replace Hb:=Lib.hid (Hb.out.trans (hb1.mono Hb.out.size))
 clear he h1 hb1 R1 x0 x1 x2
 go_wp2
 go_ret
 exact ⟨rfl,Hb.out⟩
end Go.Proofs.YtipocabbjinbhaaGreat
