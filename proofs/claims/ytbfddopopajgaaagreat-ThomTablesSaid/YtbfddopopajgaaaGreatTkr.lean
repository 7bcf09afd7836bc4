/- The walk of sturm.Query at polynomials that are not too large, f other than 0 at both ends. -/
import Derived.Test.YtbfddopopajgaaaGreatSqw
namespace Go.Proofs.YtbfddopopajgaaaGreat
open Go.RowKit
theorem mul_plen {a b:List Int} {n:Nat} (h:plen a=0∨plen b=0∨plen a+plen b≤n+1):plen (polymul a b)≤n:=by
 by_cases a0:plen a=0
 ·rw [rmul_zero (.inl a0)];exact Nat.zero_le _
 by_cases b0:plen b=0
 ·rw [rmul_zero (.inr b0)];exact Nat.zero_le _
 rw [(plen_mul (f:=a) (g:=b) (by omega) (by omega)).1]
 rcases h with h | h | h<;>omega
theorem mul_coef {a b:List Int} {X Y:Nat} (ha:∀ j,(a.getD j 0).natAbs≤X) (hb:∀ j,(b.getD j 0).natAbs≤Y) (la:plen a≤16) (j:Nat):((polymul a b).getD j 0).natAbs≤16*(X*Y):=by
 rw [polymul_getD,← qcs_pc a b j (plen a) (Nat.le_refl _)]
 exact Nat.le_trans (qcs_bd ha hb j _) (Nat.mul_le_mul_right _ la)
theorem mul_coef2 {a b:List Int} {i k:Nat} (ha:∀ j,(a.getD j 0).natAbs≤BB^i) (hb:∀ j,(b.getD j 0).natAbs≤BB^k) (la:plen a≤16) (j:Nat):((polymul a b).getD j 0).natAbs≤BB^(i+k+1):=by
 refine Nat.le_trans (mul_coef ha hb la j) ?_
 rw [← Nat.pow_add]
 exact bbk_mul (by decide)
def dgm (f g:List Int):List Int:=polymul (ptrim (pder f)) (ptrim g)
theorem dgm_get (f g:List Int) (k:Nat):(dgm f g).getD k 0=(polymul (pder f) g).getD k 0:=ev_inj (fun x=>by unfold dgm;rw [ev_mul,ev_mul,ev_ptrim,ev_ptrim]) k
def nq (f g:List Int):Int:=pline 12 f (dgm f g)
noncomputable def nqi (f g:List Int) (a b:Pt):Int:=chv (pchain 12 f (dgm f g)) a-chv (pchain 12 f (dgm f g)) b
theorem nq_sum {f g:List Int} (hf:CP f) (hd:CP (dgm f g)) (h0:plen f≠0) {xs:List Pt} (hx:Lst (fun x=>sgp f x=0) xs):nq f g=isum (xs.map (sgp g)):=by
 unfold nq
 rw [pline_jm h0 (chain_all hf hd).1 hx]
 congr 1
 exact List.map_congr_left fun x h=>jm_tarski h0 (dgm_get f g) ((hx.2 x).1 h)
theorem nqi_sum {f g:List Int} (hf:CP f) (hd:CP (dgm f g)) {a b:Pt} (hab:a<b) (ha:sgp f a≠0) (hb:sgp f b≠0) {xs:List Pt} (hx:Lst (fun x=>sgp f x=0∧a<x∧x<b) xs):nqi f g a b=isum (xs.map (sgp g)):=by
 have h0:plen f≠0:=fun e=>ha (sgp_zero e a)
 unfold nqi
 rw [pint_jm h0 (chain_all hf hd).1 hab ha hb hx]
 congr 1
 exact List.map_congr_left fun x h=>jm_tarski h0 (dgm_get f g) ((hx.2 x).1 h).1
theorem P9.dg {f g:List Int} (h:P9 f) (lf:plen f≤6) (lg:plen g≤6) (bg:∀ j,(g.getD j 0).natAbs≤BB):CP (dgm f g):=by
 have h2:=plen_pder f
 refine ⟨by rw [plen_congr (dgm_get f g)];exact mul_plen (by omega),fun j=>?_⟩
 rw [dgm_get]
 refine Nat.le_trans (mul_coef2 (i:=11) (k:=1) (fun j=>pder_abs (k:=10) (by omega) h.b j) (fun j=>by rw [Nat.pow_one];exact bg j) (by omega) j) (bbk_le (by decide))
theorem P9.qg {f g:List Int} (h:P9 f) (lf:plen f≤6) (lg:plen g≤6) (bg:∀ j,(g.getD j 0).natAbs≤BB):CP (dgm (qpart f) g):=by
 have h2:=plen_pder (qpart f)
 have h3:=h.part_l
 refine ⟨by rw [plen_congr (dgm_get (qpart f) g)];exact mul_plen (by omega),fun j=>?_⟩
 rw [dgm_get]
 refine Nat.le_trans (mul_coef2 (i:=17) (k:=1) (fun j=>pder_abs (k:=16) (by omega) h.part_b j) (fun j=>by rw [Nat.pow_one];exact bg j) (by omega) j) (bbk_le (by decide))
theorem nqi_part {f g:List Int} (h:P9 f) (lf:plen f≤6) (lg:plen g≤6) (bg:∀ j,(g.getD j 0).natAbs≤BB) {a b:Pt} (hab:a<b) (ha:sgp f a≠0) (hb:sgp f b≠0):nqi (qpart f) g a b=nqi f g a b:=by
 have h0:plen f≠0:=fun e=>ha (sgp_zero e a)
 have hq:=q_facts h.q h0
 obtain ⟨xs,hx⟩:=roots_lst h0 (fun x=>a<x∧x<b)
 rw [nqi_sum h.cp (h.dg lf lg bg) hab ha hb hx,nqi_sum h.part (h.qg lf lg bg) hab (fun e=>ha ((hq.root a).1 e)) (fun e=>hb ((hq.root b).1 e)) (hx.congr fun x=>by rw [hq.root x])]
end Go.Proofs.YtbfddopopajgaaaGreat
namespace Go.Proofs.YtbfddopopajgaaaGreat
open Go.RowKit
structure G6 (g:List Int):Prop where
 len:g.length≤6
 b:∀ j,(g.getD j 0).natAbs≤BB
theorem G6.plen {g:List Int} (h:G6 g):plen g≤6:=by have:=plen_le g;have:=h.len;omega
theorem G6.fit {g:List Int} (h:G6 g):FitP g:=fun j=>Nat.lt_of_le_of_lt (h.b j) (by rw [show BB=BB^1 from (Nat.pow_one _).symm,← Nat.pow_mul,Nat.one_mul];exact Nat.pow_lt_pow_right (by rw [BB_eq];decide) (by rw [FW_eq];decide))
theorem polymul_le (f g:List Int):(polymul f g).length≤f.length+g.length:=by
 unfold polymul
 split
 ·exact Nat.zero_le _
 ·rw [pmul_length];omega
end Go.Proofs.YtbfddopopajgaaaGreat
namespace Go.Proofs.YtbfddopopajgaaaGreat
open Go.RowKit
set_option maxHeartbeats 1000000 in
theorem wroot_same {I:IntPred} (hI:IK I) (A:Option Addr) (len cap:Nat) (p:List Int) (n:Bool) (N:Option Addr) (nl nc:Nat) (B:Option Addr) (m d q:Nat) (z:Int) (w:World) (h:PolyP I w A len cap p) (hz:IntN w n N nl nc z) (hq:NatN w B m d q) (ha:AtOK z q) (hp:PoOK z q p) (h0:sat z q p≠0) :
  Calls Tryz.prog 136 #[.slice A len cap,.agg #[.bool n,.slice N nl nc,.slice B m d]] w fun e w'=>e=.returned (.slice A len cap)∧Below w.heap.size w w':=by
 have o1:=below_new w (rbox n N nl nc B m d)
 have R1:=Lib.hid (RBox.make hz hq)
 have h1:=h.below hI o1
 have Hb:=Lib.hid o1
 obtain ⟨S,hS⟩:∃ S,S=sat z q p:=⟨_,rfl⟩
 have bS:(S == 0)=false:=by rw [beq_eq_false_iff_ne,hS];exact h0
 have nS:¬ S=0:=by rw [hS];exact h0
 have HS:=Lib.hid hS
 have x0:=R1.out.c0
 have x1:=R1.out.c1
 have x2:=R1.out.c2
 have hlen:len≤1000000:=by rw [← h.length];exact hp.len
 clear o1 hz hq h hS h0
 go_enter Tryz.func136,Tryz.ntmps136
 go_wp2_with fail
 refine (signat_any hI _ _ _ p _ _ _ _ _ _ _ _ _ _ h1 hp.fit hlen R1.out.hz R1.out.hq ha.u ha.v ha.pos hp.ok ha.fz ha.fq).mono ?_
 rintro e w1 ⟨he,hb1⟩
 have he2:e=.returned (.int .i64 S):=by rw [HS.out];exact he
 subst he2
 replace Hb:=Lib.hid (Hb.out.trans (hb1.mono Hb.out.size))
 clear he h1 hb1 R1 x0 x1 x2
 go_wp2
 go_ret
 exact ⟨rfl,Hb.out⟩
set_option maxRecDepth 100000 in
set_option maxHeartbeats 8000000 in
theorem query_r {I J:IntPred} (hI:IK I) (hJ:IK J) (Af:Option Addr) (lf cf:Nat) (f:List Int) (Ag:Option Addr) (lg cg:Nat) (g:List Int) (n:Bool) (A:Option Addr) (l c:Nat) (B:Option Addr) (m d q:Nat) (z:Int) (n':Bool) (A':Option Addr) (l' c':Nat) (B':Option Addr) (m' d' q':Nat) (z':Int) (w:World) (hf:PolyP I w Af lf cf f) (hg:PolyP J w Ag lg cg g) (hfm:lf≤1000000) (h9:P9 f) (l6:plen f≤6) (g6:G6 g)
  (hz:IntN w n A l c z) (hq:NatN w B m d q) (hz':IntN w n' A' l' c' z') (hq':NatN w B' m' d' q') (ha:AtOK z q) (ha':AtOK z' q') (z8:z.natAbs≤ZB) (q8:q≤ZB) (z8':z'.natAbs≤ZB) (q8':q'≤ZB) (hlt:z*(q':Int)<z'*(q:Int)) (hpt:((z:Rat) / (q:Rat))<((z':Rat) / (q':Rat))) (s1:sat z q f≠0) (s2:sat z' q' f≠0) :
  Calls Tryz.prog 98 #[.slice Af lf cf,.slice Ag lg cg,.agg #[.bool n,.slice A l c,.slice B m d],.agg #[.bool n',.slice A' l' c',.slice B' m' d']] w fun e w'=>e=.returned (.int .i64 (nqi f g (Pt.of ((z:Rat) / (q:Rat))) (Pt.of ((z':Rat) / (q':Rat)))))∧Below w.heap.size w w':=by
 have o1:=below_new w (rbox n A l c B m d)
 have o2:=below_new (w.alloc (rbox n A l c B m d)) (rbox n' A' l' c' B' m' d')
 have b2:Below w.heap.size w ((w.alloc (rbox n A l c B m d)).alloc (rbox n' A' l' c' B' m' d')):=o1.alloc (by simp) _
 have R1:=(RBox.make hz hq).move o2
 have R2:=RBox.make (hz'.below o1) (hq'.below o1)
 simp only [World.size_alloc] at R2
 have HG:=Lib.hid (hg.below hJ b2)
 have hf2:=hf.below hI b2
 replace R1:=Lib.hid R1
 replace R2:=Lib.hid R2
 have Hb:=Lib.hid b2
 have hlg:lg≤6:=by have:=hg.length;have:=g6.len;omega
 have hp:=ha.pos
 have hp':=ha'.pos
 have sf:=h9.cp.fit.smp
 have c1:=h9.part
 have c2:=h9.pder
 have c3:=h9.qg l6 g6.plen g6.b
 have ht:=h9.part_t
 have f1:sgp f (Pt.of ((z:Rat) / (q:Rat)))≠0:=by rw [← sat_eq hp];exact s1
 have f2:sgp f (Pt.of ((z':Rat) / (q':Rat)))≠0:=by rw [← sat_eq hp'];exact s2
 have f0:plen f≠0:=fun e=>f1 (sgp_zero e _)
 have qf:=q_facts h9.q f0
 have t1:sat z q (qpart f)≠0:=by rw [sat_eq hp];exact fun e=>f1 ((qf.root _).1 e)
 have t2:sat z' q' (qpart f)≠0:=by rw [sat_eq hp'];exact fun e=>f2 ((qf.root _).1 e)
 have q0:=qf.q0
 have hv:=nqi_part h9 l6 g6.plen g6.b (Pt.of_lt_of.2 hpt) f1 f2
 obtain ⟨V,hV⟩:∃ V,V=nqi f g (Pt.of ((z:Rat) / (q:Rat))) (Pt.of ((z':Rat) / (q':Rat))):=⟨_,rfl⟩
 rw [← hV] at hv ⊢
 obtain ⟨Q,hQ⟩:∃ Q,Q=qpart f:=⟨_,rfl⟩
 rw [← hQ] at c1 c2 c3 ht t1 t2 q0 hv
 have HQ:=Lib.hid hQ
 have P1:PoOK z q Q:=c1.at (by rw [← ht,ptrim_length];have:=c1.len;omega) z8 q8
 have P2:PoOK z' q' Q:=c1.at (by rw [← ht,ptrim_length];have:=c1.len;omega) z8' q8'
 have hlq:Q.length≤10:=by rw [← ht,ptrim_length];exact c1.len
 have hlq0:Q.length≠0:=by rw [← ht,ptrim_length];exact q0
 obtain ⟨k1,k2,k3,k4⟩:=chain_all c1 c3
 obtain ⟨PS,hPS⟩:∃ PS,PS=pchain 12 Q (dgm Q g):=⟨_,rfl⟩
 rw [← hPS] at k2 k4
 obtain ⟨N1,hN1⟩:∃ N,N=(vst (PS.map (sat z q)) PS.length).1:=⟨_,rfl⟩
 obtain ⟨N2,hN2⟩:∃ N,N=(vst (PS.map (sat z' q')) PS.length).1:=⟨_,rfl⟩
 have hVe:V=(N1:Int)-(N2:Int):=by
  rw [← hv]
  unfold nqi
  rw [hN1,hN2,vat_eq hp,vat_eq hp',hPS]
 have n1:=(vst_le (PS.map (sat z q)) PS.length).1
 have n2:=(vst_le (PS.map (sat z' q')) PS.length).1
 rw [← hN1] at n1
 rw [← hN2] at n2
 have HVe:=Lib.hid hVe
 have HN1:=Lib.hid hN1
 have HN2:=Lib.hid hN2
 have HPS:=Lib.hid hPS
 have hw0:IntKind.i64.wrap ((0:Int)+(N1:Int))=(N1:Int):=by rw [Int.zero_add];exact IntWalk.i64_in _ (by omega)
 have hw00:IntKind.i64.wrap (N1:Int)=(N1:Int):=IntWalk.i64_in _ (by omega)
 have hw:IntKind.i64.wrap ((N1:Int)-(N2:Int))=(N1:Int)-(N2:Int):=IntWalk.i64_in _ (by omega)
 have K2:=Lib.hid k2
 obtain ⟨S2,hS2⟩:∃ S,S=sat z' q' Q:=⟨_,rfl⟩
 have bS:(S2 == 0)=false:=by rw [beq_eq_false_iff_ne,hS2];exact t2
 have nS:¬ S2=0:=by rw [hS2];exact t2
 have HS2:=Lib.hid hS2
 have T1:=Lib.hid t1
 have T2:=Lib.hid t2
 have ldq:=polymul_le (ptrim (pder Q)) (ptrim g)
 rw [ptrim_length,ptrim_length] at ldq
 have lg6:=g6.plen
 have lc2:=c2.len
 have x0:=R1.out.c0;have x1:=R1.out.c1;have x2:=R1.out.c2;have y0:=R2.out.c0;have y1:=R2.out.c1;have y2:=R2.out.c2
 clear o1 o2 b2 hz hq hz' hq' hf hg hVe hN1 hN2 hQ hPS k2 hv hV f1 f2 qf t1 t2 s1 s2 ht hS2 hpt q0
 go_enter Tryz.func98,Tryz.ntmps98
 go_wp2_with fail
 refine (part_q hI _ _ _ _ _ hf2 sf (fun _=>h9.q) hfm).mono ?_
 rintro e w3 ⟨A3,l3,c3',rfl,h3,hb3⟩
 rw [← HQ.out] at h3
 have hl3:l3≤10:=by have:=h3.length;omega
 have hl30:¬ l3=0:=by have:=h3.length;omega
 have bl3:((l3:Int) == 0)=false:=by rw [beq_eq_false_iff_ne];omega
 have HP:=Lib.hid h3
 replace HG:=Lib.hid (HG.out.below hJ hb3)
 replace R1:=Lib.hid (R1.out.move hb3);replace R2:=Lib.hid (R2.out.move hb3);replace Hb:=Lib.hid (Hb.out.trans (hb3.mono Hb.out.size))
 clear x0 x1 x2 y0 y1 y2
 have x0:=R1.out.c0;have x1:=R1.out.c1;have x2:=R1.out.c2;have y0:=R2.out.c0;have y1:=R2.out.c1;have y2:=R2.out.c2
 clear hb3 h3 hf2
 go_wp2_with fail
 refine (rcmp_any _ _ _ _ _ _ _ _ _ _ _ _ _ _ _ _ _ _ _ R1.out.hz.at_ R1.out.hq.at_ R2.out.hz.at_ R2.out.hq.at_ (by omega) (by omega) ha.u ha.v ha'.u ha'.v).mono ?_
 rintro e w4 ⟨rfl,hb4⟩
 obtain ⟨C,hC⟩:∃ C,C=cmpz (z*(q':Int)) (z'*(q:Int)):=⟨_,rfl⟩
 rw [← hC]
 have hcm:¬ (0≤C):=by rw [hC];unfold cmpz;rw [if_pos hlt];omega
 replace HG:=Lib.hid (HG.out.below hJ hb4)
 replace HP:=Lib.hid (HP.out.below ikN hb4)
 replace R1:=Lib.hid (R1.out.move hb4);replace R2:=Lib.hid (R2.out.move hb4);replace Hb:=Lib.hid (Hb.out.trans (hb4.mono Hb.out.size))
 clear x0 x1 x2 y0 y1 y2
 have x0:=R1.out.c0;have x1:=R1.out.c1;have x2:=R1.out.c2;have y0:=R2.out.c0;have y1:=R2.out.c1;have y2:=R2.out.c2
 clear hb4 hC hlt
 go_wp2_with fail
 refine (signat_any ikN _ _ _ Q _ _ _ _ _ _ _ _ _ _ HP.out P2.fit (by omega) R2.out.hz R2.out.hq ha'.u ha'.v ha'.pos P2.ok ha'.fz ha'.fq).mono ?_
 rintro e w5 ⟨he,hb5⟩
 have he2:e=.returned (.int .i64 S2):=by rw [HS2.out];exact he
 subst he2
 replace HG:=Lib.hid (HG.out.below hJ hb5)
 replace HP:=Lib.hid (HP.out.below ikN hb5)
 replace R1:=Lib.hid (R1.out.move hb5);replace R2:=Lib.hid (R2.out.move hb5);replace Hb:=Lib.hid (Hb.out.trans (hb5.mono Hb.out.size))
 clear x0 x1 x2 y0 y1 y2
 have x0:=R1.out.c0;have x1:=R1.out.c1;have x2:=R1.out.c2;have y0:=R2.out.c0;have y1:=R2.out.c1;have y2:=R2.out.c2
 clear hb5 he
 obtain ⟨wb,hwb⟩:∃ wb,wb=w5:=⟨_,rfl⟩
 rw [← hwb] at R1 R2 HG HP Hb x0 x1 x2 y0 y1 y2 ⊢
 clear hwb
 go_wp2_with fail
 go_region_held3 (fun w'=>w'.cell? ⟨w.heap.size,0,none⟩=some (.bool n)∧w'.cell? ⟨w.heap.size,1,none⟩=some (.slice A l c)∧w'.cell? ⟨w.heap.size,2,none⟩=some (.slice B m d)∧w'.cell? ⟨w.heap.size+1,0,none⟩=some (.bool n')∧w'.cell? ⟨w.heap.size+1,1,none⟩=some (.slice A' l' c')∧w'.cell? ⟨w.heap.size+1,2,none⟩=some (.slice B' m' d')) (go_keep) (first
  | (go_at_call 136;(have _hx:=G7);go_must (refine (wroot_same ikN _ _ _ Q _ _ _ _ _ _ _ _ _ _ ?_ ?_ ?_ ha P1 T1.out).mono ?_;(exact ((HP.out.below ikN G7.out).below ikN Bel.go));(exact (R1.out.move G7.out).hz.below Bel.go);(exact (R1.out.move G7.out).hq.below Bel.go);rintro e w9 ⟨rfl,hb9⟩;have G9:Hid (Below wb.heap.size wb w9):=Lib.hid (G7.out.trans ((Below.trans Bel.go (hb9.mono (by simp<;>omega))).mono G7.out.size));obtain ⟨hcx,hfx⟩:=bcellS hb9;have j0:World.cell? w9 ⟨w.heap.size,0,none⟩=some (.bool n):=(hcx _ (by go_simp)).trans (by go_simp);have j0b:World.cell? w9 ⟨w.heap.size,1,none⟩=some (.slice A l c):=(hcx _ (by go_simp)).trans (by go_simp);have j0c:World.cell? w9 ⟨w.heap.size,2,none⟩=some (.slice B m d):=(hcx _ (by go_simp)).trans (by go_simp);have j0d:World.cell? w9 ⟨w.heap.size+1,0,none⟩=some (.bool n'):=(hcx _ (by go_simp)).trans (by go_simp);have j0e:World.cell? w9 ⟨w.heap.size+1,1,none⟩=some (.slice A' l' c'):=(hcx _ (by go_simp)).trans (by go_simp);have j0f:World.cell? w9 ⟨w.heap.size+1,2,none⟩=some (.slice B' m' d'):=(hcx _ (by go_simp)).trans (by go_simp);clear hcx hfx hb9))
  | (go_at_call 136;go_must (refine (wroot_same ikN _ _ _ Q _ _ _ _ _ _ _ _ _ _ ?_ ?_ ?_ ha' P2 T2.out).mono ?_;(exact HP.out.below ikN Bel.go);(exact R2.out.hz.below Bel.go);(exact R2.out.hq.below Bel.go);rintro e w7 ⟨rfl,hb7⟩;have G7:Hid (Below wb.heap.size wb w7):=Lib.hid (Below.trans Bel.go (hb7.mono (by simp<;>omega)));obtain ⟨hcx,hfx⟩:=bcellS hb7;have i0:World.cell? w7 ⟨w.heap.size,0,none⟩=some (.bool n):=(hcx _ (by go_simp)).trans (by go_simp);have i0b:World.cell? w7 ⟨w.heap.size,1,none⟩=some (.slice A l c):=(hcx _ (by go_simp)).trans (by go_simp);have i0c:World.cell? w7 ⟨w.heap.size,2,none⟩=some (.slice B m d):=(hcx _ (by go_simp)).trans (by go_simp);have i0d:World.cell? w7 ⟨w.heap.size+1,0,none⟩=some (.bool n'):=(hcx _ (by go_simp)).trans (by go_simp);have i0e:World.cell? w7 ⟨w.heap.size+1,1,none⟩=some (.slice A' l' c'):=(hcx _ (by go_simp)).trans (by go_simp);have i0f:World.cell? w7 ⟨w.heap.size+1,2,none⟩=some (.slice B' m' d'):=(hcx _ (by go_simp)).trans (by go_simp);clear hcx hfx hb7)))
 rename_i hHeld
 clear hHeld j0 j0b j0c j0d j0e j0f i0 i0b i0c i0d i0e i0f
 replace HG:=Lib.hid (HG.out.below hJ G9.out)
 replace HP:=Lib.hid (HP.out.below ikN G9.out)
 replace R1:=Lib.hid (R1.out.move G9.out);replace R2:=Lib.hid (R2.out.move G9.out);replace Hb:=Lib.hid (Hb.out.trans (G9.out.mono Hb.out.size))
 clear x0 x1 x2 y0 y1 y2
 have x0:=R1.out.c0;have x1:=R1.out.c1;have x2:=R1.out.c2;have y0:=R2.out.c0;have y1:=R2.out.c1;have y2:=R2.out.c2
 clear G7 G9
 go_wp2_with fail
 refine (derivative_any ikN _ _ _ _ _ HP.out c1.fit.smp (by omega)).mono ?_
 rintro e w11 ⟨A4,l4,c4,rfl,h4,hb11⟩
 have hl4:l4≤10:=by have:=h4.length;rw [pder_length] at this;have:=plen_le Q;omega
 replace HG:=Lib.hid (HG.out.below hJ hb11)
 replace HP:=Lib.hid (HP.out.below ikN hb11)
 replace R1:=Lib.hid (R1.out.move hb11);replace R2:=Lib.hid (R2.out.move hb11);replace Hb:=Lib.hid (Hb.out.trans (hb11.mono Hb.out.size))
 clear x0 x1 x2 y0 y1 y2
 clear hb11
 go_wp2_with fail
 refine (polymul_any ikN hJ _ _ _ (pder Q) _ _ _ g _ h4 HG.out c2.fit g6.fit (by omega) (by omega)).mono ?_
 rintro e w12 ⟨A5,l5,c5,rfl,h5,hb12⟩
 have hl5:l5≤20:=by have:=h5.length;omega
 replace HP:=Lib.hid (HP.out.below ikN hb12)
 replace R1:=Lib.hid (R1.out.move hb12);replace R2:=Lib.hid (R2.out.move hb12);replace Hb:=Lib.hid (Hb.out.trans (hb12.mono Hb.out.size))
 clear hb12 h4 HG
 go_wp2_with fail
 refine (chain_any _ _ _ Q _ _ _ (dgm Q g) _ HP.out h5 c1.fit.smp c3.fit.smp (by omega) (by omega) 12 k1 (by omega)).mono ?_
 rintro e w13 ⟨A6,l6',c6,rfl,h6,hb13⟩
 rw [← HPS.out] at h6
 obtain rfl:l6'=PS.length:=h6.length.symm
 have HC:=Lib.hid h6
 replace R1:=Lib.hid (R1.out.move hb13);replace R2:=Lib.hid (R2.out.move hb13);replace Hb:=Lib.hid (Hb.out.trans (hb13.mono Hb.out.size))
 clear hb13 h5 h6 HP
 have x0:=R1.out.c0;have x1:=R1.out.c1;have x2:=R1.out.c2;have y0:=R2.out.c0;have y1:=R2.out.c1;have y2:=R2.out.c2
 have hlp:PS.length≤1000000:=by omega
 have e1:∀ p∈PS,PoOK z q p:=fun p hp=>(K2.out p hp).at z8 q8
 have e2:∀ p∈PS,PoOK z' q' p:=fun p hp=>(K2.out p hp).at z8' q8'
 obtain ⟨L,hL⟩:∃ L,L=PS.length:=⟨_,rfl⟩
 rw [← hL] at HC HN1 HN2 hlp n1 n2 k4 ⊢
 obtain ⟨wb2,hwb⟩:∃ wb,wb=w13:=⟨_,rfl⟩
 rw [← hwb] at R1 R2 HC Hb x0 x1 x2 y0 y1 y2 ⊢
 clear hL hwb
 go_wp2_with fail
 go_region_held3 (fun w'=>w'.cell? ⟨w.heap.size,0,none⟩=some (.bool n)∧w'.cell? ⟨w.heap.size,1,none⟩=some (.slice A l c)∧w'.cell? ⟨w.heap.size,2,none⟩=some (.slice B m d)∧w'.cell? ⟨w.heap.size+1,0,none⟩=some (.bool n')∧w'.cell? ⟨w.heap.size+1,1,none⟩=some (.slice A' l' c')∧w'.cell? ⟨w.heap.size+1,2,none⟩=some (.slice B' m' d')) (go_keep) (first
  | (go_at_call 63;(have _hx:=G17);go_must (refine (vars_any _ _ _ PS _ _ _ _ _ _ _ _ _ _ ?_ ?_ ?_ ha' e2 hlp).mono ?_;(exact ((HC.out.below G17.out).below Bel.go));(exact (R2.out.move G17.out).hz.below Bel.go);(exact (R2.out.move G17.out).hq.below Bel.go);rintro e w19 ⟨rfl,hb19⟩;rw [show (vst (PS.map (sat z' q')) L).1=N2 from HN2.out.symm];have G19:Hid (Below wb2.heap.size wb2 w19):=Lib.hid (G17.out.trans ((Below.trans Bel.go (hb19.mono (by simp<;>omega))).mono G17.out.size));obtain ⟨hcx,hfx⟩:=bcellS hb19;have j0:World.cell? w19 ⟨w.heap.size,0,none⟩=some (.bool n):=(hcx _ (by go_simp)).trans (by go_simp);have j0b:World.cell? w19 ⟨w.heap.size,1,none⟩=some (.slice A l c):=(hcx _ (by go_simp)).trans (by go_simp);have j0c:World.cell? w19 ⟨w.heap.size,2,none⟩=some (.slice B m d):=(hcx _ (by go_simp)).trans (by go_simp);have j0d:World.cell? w19 ⟨w.heap.size+1,0,none⟩=some (.bool n'):=(hcx _ (by go_simp)).trans (by go_simp);have j0e:World.cell? w19 ⟨w.heap.size+1,1,none⟩=some (.slice A' l' c'):=(hcx _ (by go_simp)).trans (by go_simp);have j0f:World.cell? w19 ⟨w.heap.size+1,2,none⟩=some (.slice B' m' d'):=(hcx _ (by go_simp)).trans (by go_simp);clear hcx hfx hb19))
  | (go_at_call 63;go_must (refine (vars_any _ _ _ PS _ _ _ _ _ _ _ _ _ _ ?_ ?_ ?_ ha e1 hlp).mono ?_;(exact HC.out.below Bel.go);(exact R1.out.hz.below Bel.go);(exact R1.out.hq.below Bel.go);rintro e w17 ⟨rfl,hb17⟩;rw [show (vst (PS.map (sat z q)) L).1=N1 from HN1.out.symm];have G17:Hid (Below wb2.heap.size wb2 w17):=Lib.hid (Below.trans Bel.go (hb17.mono (by simp<;>omega)));obtain ⟨hcx,hfx⟩:=bcellS hb17;have i0:World.cell? w17 ⟨w.heap.size,0,none⟩=some (.bool n):=(hcx _ (by go_simp)).trans (by go_simp);have i0b:World.cell? w17 ⟨w.heap.size,1,none⟩=some (.slice A l c):=(hcx _ (by go_simp)).trans (by go_simp);have i0c:World.cell? w17 ⟨w.heap.size,2,none⟩=some (.slice B m d):=(hcx _ (by go_simp)).trans (by go_simp);have i0d:World.cell? w17 ⟨w.heap.size+1,0,none⟩=some (.bool n'):=(hcx _ (by go_simp)).trans (by go_simp);have i0e:World.cell? w17 ⟨w.heap.size+1,1,none⟩=some (.slice A' l' c'):=(hcx _ (by go_simp)).trans (by go_simp);have i0f:World.cell? w17 ⟨w.heap.size+1,2,none⟩=some (.slice B' m' d'):=(hcx _ (by go_simp)).trans (by go_simp);clear hcx hfx hb17)))
 rename_i hHeld
 have Hb9:=Lib.hid (Hb.out.trans (G19.out.mono Hb.out.size))
 clear hHeld j0 j0b j0c j0d j0e j0f i0 i0b i0c i0d i0e i0f x0 x1 x2 y0 y1 y2 R1 R2 HC Hb G17 G19
 go_wp2
 go_ret
 exact ⟨by show Ending.returned (.int .i64 ((N1:Int)-(N2:Int)))=_;rw [HVe.out],Hb9.out⟩
end Go.Proofs.YtbfddopopajgaaaGreat
