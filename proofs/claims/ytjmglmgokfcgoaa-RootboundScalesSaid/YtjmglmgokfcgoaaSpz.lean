/- The contract of rootbound.Separation at every polynomial with up to 16 coefficients. -/
import Derived.Test.YtjmglmgokfcgoaaPrw
import Derived.Test.YtjmglmgokfcgoaaSqw
namespace Go.Proofs.Ytjmglmgokfcgoaa
open Go.RowKit
def SepQ (Q:List Int) (s:Nat):Prop:=(plen Q<3∧s=0)∨(3≤plen Q∧∃ k,LG (sepx Q) k∧s=(k+1) / 2)
theorem LG.uniq {n k k':Nat} (h:LG n k) (h':LG n k'):k=k':=by
 rcases Nat.lt_trichotomy k k' with c | c | c
 ·have:=h'.least k c;have:=h.le;omega
 ·exact c
 ·have:=h.least k' c;have:=h'.le;omega
theorem SepQ.uniq {Q:List Int} {s s':Nat} (h:SepQ Q s) (h':SepQ Q s'):s=s':=by
 rcases h with ⟨h1,rfl⟩ | ⟨h1,k,h2,rfl⟩
 ·rcases h' with ⟨_,rfl⟩ | ⟨h3,_⟩
  ·rfl
  ·omega
 ·rcases h' with ⟨h3,_⟩ | ⟨_,k',h3,rfl⟩
  ·omega
  ·rw [h2.uniq h3]
theorem lg_bb {X k E:Nat} (hX:X≤BB^E) (hk:LG X k):k≤32*E+1:=by
 refine Classical.byContradiction fun hn=>?_
 have h1:=hk.least (k-1) (by omega)
 rw [bb_two] at hX
 have h2:2^(32*E)≤2^(k-1):=Nat.pow_le_pow_right (by decide) (by omega)
 exact Nat.lt_irrefl X (Nat.lt_of_le_of_lt hX (Nat.lt_of_le_of_lt h2 h1))
theorem bb_fw {k:Nat} (h:k<100000):BB^k<BB^FW:=Nat.pow_lt_pow_right (by rw [BB_eq];decide) (by rw [FW_eq];exact h)
theorem fit_bb {x:Int} {k:Nat} (hx:x.natAbs≤BB^k) (h:k<100000):Fit x:=Nat.lt_of_le_of_lt hx (bb_fw h)
theorem sm_bb {x k:Nat} (hx:x≤BB^k) (h:k<100000):Sm x:=Fit.smn (fit_bb (x:=(x:Int)) (by rw [Int.natAbs_natCast];exact hx) h)
theorem bb_mul {a b k:Nat} (ha:a≤BB) (hb:b≤BB^k):a*b≤BB^(k+1):=by
 rw [Nat.pow_succ,Nat.mul_comm];exact Nat.mul_le_mul hb ha
theorem bb_mul2 {a b j k:Nat} (ha:a≤BB^j) (hb:b≤BB^k):a*b≤BB^(j+k):=by
 rw [Nat.pow_add];exact Nat.mul_le_mul ha hb
theorem bb_pw {a k n m:Nat} (ha:a≤BB^k) (h:k*n≤m):a^n≤BB^m:=Nat.le_trans (Nat.pow_le_pow_left ha n) (by rw [← Nat.pow_mul];exact Nat.pow_le_pow_right BB_pos h)
set_option maxRecDepth 100000 in
set_option maxHeartbeats 4000000 in
theorem sep_q {I:IntPred} (hI:IK I) (A:Option Addr) (la ca:Nat) (F:List Int) (w:World) (hf:PolyP I w A la ca F) (sf:SmP F) (hF:plen F≠0→QOK F) (hla:la≤1000000) :
  Calls Try.prog 28 #[.slice A la ca] w fun e w'=>(∃ s:Nat,e=.returned (.int .i64 (s:Int))∧SepQ (qpart F) s∧s≤50000)∧Below w.heap.size w w':=by
 have QQ:plen F≠0→QF F:=fun h=>q_facts (hF h) h
 obtain ⟨Q,hQ⟩:∃ Q,Q=qpart F:=⟨_,rfl⟩
 have qb:∀ j,(Q.getD j 0).natAbs≤BB^46:=fun j=>by
  rw [hQ]
  by_cases h:plen F=0
  ·rw [qpart_nil h];simp
  ·exact (QQ h).b 40 (hF h).b j
 have qt:ptrim Q=Q:=by
  rw [hQ]
  by_cases h:plen F=0
  ·rw [qpart_nil h];rfl
  ·exact (QQ h).t
 have ql:plen Q≤16:=by
  rw [hQ]
  by_cases h:plen F=0
  ·rw [qpart_nil h];decide
  ·exact Nat.le_trans (QQ h).l (hF h).len
 have HQ:=Lib.hid hQ
 have fQ:FitP Q:=fun j=>fit_bb (qb j) (by decide)
 have sQ:SmP Q:=fQ.smp
 have hF':=Lib.hid hF
 clear QQ hQ hF
 by_cases hsm:plen Q<3
 ·have t1:((plen Q:Nat):Int)-1<2:=by omega
  have HV:=Lib.hid (show SepQ (qpart F) 0 from .inl ⟨by rw [← HQ.out];exact hsm,rfl⟩)
  obtain ⟨D,hD⟩:∃ D:Int,D=((plen Q:Nat):Int)-1:=⟨_,rfl⟩
  have hDl:Q.length≤16:=by rw [← qt,ptrim_length];exact ql
  rw [← hD] at t1
  have HD:=Lib.hid hD
  clear hsm hD
  go_enter Try.func28,Try.ntmps28
  go_wp2_with fail
  refine (part_q hI _ _ _ F _ hf sf hF'.out hla).mono ?_
  rintro e w1 ⟨A1,l1,c1,rfl,h1,hb1⟩
  rw [← HQ.out] at h1
  have hl1:l1≤16:=by rw [← h1.length];exact hDl
  have H1:=Lib.hid h1
  have Hb:=Lib.hid hb1
  clear hf h1 hb1
  go_wp2_with fail
  refine (degree_any _ _ _ _ _ (H1.out.at_ ikN) sQ (by omega)).mono ?_
  rintro e w2 ⟨rfl,hb2⟩
  rw [← HD.out]
  replace Hb:=Lib.hid (Hb.out.trans (hb2.mono Hb.out.size))
  clear hb2
  go_wp2
  go_ret
  exact ⟨⟨0,rfl,HV.out,by omega⟩,Hb.out⟩
 obtain ⟨d,hd⟩:∃ d,plen Q=d+1:=⟨plen Q-1,by omega⟩
 have hd7:d≤15:=by omega
 have hd2':2≤d:=by omega
 have hQl:Q.length=d+1:=by rw [← qt,ptrim_length];exact hd
 have hd2:((plen Q:Nat):Int)-1=(d:Int):=by omega
 have hnb:=nst_bd qb
 have b92:BB^46*BB^46≤BB^92:=bb_mul2 (Nat.le_refl _) (Nat.le_refl _)
 have hnst:∀ k,k≤16→(nst Q k).natAbs≤BB^93:=fun k hk=>Nat.le_trans (hnb k).1 (bb_mul (by rw [BB_eq];omega) b92)
 have hN1:(nst Q (d+1)).natAbs≤BB^93:=hnst _ (by omega)
 have hN0:nst Q (d+1)≠0:=fun e=>by
  have h1:=nst_ge (p:=Q) (d+1) d (by omega)
  have h2:Q.getD d 0≠0:=plen_lead Q d hd
  rw [e] at h1
  have h3:0<(Q.getD d 0).natAbs*(Q.getD d 0).natAbs:=Nat.mul_pos (Int.natAbs_pos.2 h2) (Int.natAbs_pos.2 h2)
  simp only [Int.natAbs_zero] at h1
  omega
 have hok:∀ k,k<d+1→NormOK Q k:=fun k hk=>by
  have b1:(nst Q k).natAbs≤BB^93:=hnst _ (by omega)
  have b2:(Q.getD k 0*Q.getD k 0).natAbs≤BB^92:=by rw [Int.natAbs_mul];exact Nat.le_trans (Nat.mul_le_mul (qb k) (qb k)) b92
  have b3:BB^92≤BB^93:=Nat.pow_le_pow_right BB_pos (by decide)
  have b4:BB^93+BB^93≤BB^94:=by rw [← Nat.two_mul];exact bb_mul (by rw [BB_eq];omega) (Nat.le_refl _)
  have sm:∀ {x:Nat},x≤BB^94→Sm x:=fun {x} hx=>sm_bb hx (by decide)
  exact ⟨(fQ k).mulok _,sm (by omega),sm (by omega),sm (by omega)⟩
 obtain ⟨N,hN⟩:∃ N:Nat,nst Q (d+1)=(N:Int):=⟨(nst Q (d+1)).natAbs,by have:=(hnb (d+1)).2;omega⟩
 rw [hN] at hN1 hN0
 rw [Int.natAbs_natCast] at hN1
 have fN:Fit (N:Int):=fit_bb (k:=93) (by rw [Int.natAbs_natCast];exact hN1) (by decide)
 obtain ⟨E,hE⟩:∃ E,E=1302:=⟨_,rfl⟩
 have hNp:N^(d-1)≤BB^E:=bb_pw hN1 (by omega)
 have fNp:Fit ((N:Int)^(d-1)):=fit_bb (k:=E) (by rw [Int.natAbs_pow,Int.natAbs_natCast];exact hNp) (by omega)
 have hd1:d≤BB^1:=by rw [Nat.pow_one,BB_eq];omega
 have fd:Fit (d:Int):=fit_bb (k:=1) (by rw [Int.natAbs_natCast];exact hd1) (by decide)
 have hdp:d^(d+2)≤BB^17:=bb_pw hd1 (by omega)
 have fdp:Fit ((d:Int)^(d+2)):=fit_bb (k:=17) (by rw [Int.natAbs_pow,Int.natAbs_natCast];exact hdp) (by decide)
 obtain ⟨X,hX⟩:∃ X:Nat,X=d^(d+2)*N^(d-1):=⟨_,rfl⟩
 have hXb:X≤BB^(17+E):=by rw [hX];exact bb_mul2 hdp hNp
 have smX:Sm (X+1):=sm_bb (k:=17+E+1) (Nat.le_trans (Nat.add_le_add hXb (Nat.one_le_pow _ _ BB_pos)) (by rw [← Nat.two_mul];exact bb_mul (by rw [BB_eq];omega) (Nat.le_refl _))) (by omega)
 have siX:SmI (X:Int):=by unfold SmI;rw [Int.natAbs_natCast];exact Sm.mono smX (by omega)
 have hXe:Hid (((d:Int)^(d+2))*((N:Int)^(d-1))=(X:Int)):=Lib.hid (by rw [hX];simp)
 have hsx:Hid (sepx Q=X):=Lib.hid (by unfold sepx;rw [hd,hQl,hN,hX,Nat.add_sub_cancel,Int.natAbs_natCast])
 have HXb:=Lib.hid hXb
 have HE:=Lib.hid hE
 have HN:=Lib.hid hN
 have HQl:=Lib.hid hQl
 have Hd:=Lib.hid hd
 have Hd2:=Lib.hid hd2
 clear qb hnb hN hX hdp hd hd2 ql qt hsm b92 hnst hN1 hNp hd1 hXb hE
 go_enter Try.func28,Try.ntmps28
 go_wp2_with fail
 refine (part_q hI _ _ _ F _ hf sf hF'.out hla).mono ?_
 rintro e w1 ⟨A1,l1,c1,rfl,h1,hb1⟩
 rw [← HQ.out] at h1
 have hl1:l1=d+1:=by rw [← h1.length];exact HQl.out
 subst hl1
 have H1:=Lib.hid h1
 have Hb:=Lib.hid hb1
 clear hf h1 hb1
 go_wp2_with fail
 refine (degree_any _ _ _ _ _ (H1.out.at_ ikN) sQ (by omega)).mono ?_
 rintro e w2 ⟨rfl,hb2⟩
 rw [Hd2.out]
 replace H1:=Lib.hid (H1.out.below ikN hb2)
 replace Hb:=Lib.hid (Hb.out.trans (hb2.mono Hb.out.size))
 clear hb2
 have t1:¬ (d:Int)<2:=by omega
 have w3:IntKind.i64.wrap (d:Int)=(d:Int):=IntWalk.i64_in _ (by omega)
 obtain ⟨d2,hd2⟩:∃ d2,d2=d+2:=⟨_,rfl⟩
 obtain ⟨d1,hd1⟩:∃ d1,d1=d-1:=⟨_,rfl⟩
 rw [← hd2] at fdp hXe
 rw [← hd1] at fNp hXe
 have q4:IntKind.i64.wrap ((d:Int)+2)=(d2:Int):=by rw [IntWalk.i64_in _ (by omega)];omega
 have q4':(d:Int)+2=(d2:Int):=by omega
 have q4'':IntKind.i64.wrap (d2:Int)=(d2:Int):=IntWalk.i64_in _ (by omega)
 have q5:IntKind.i64.wrap ((d:Int)-1)=(d1:Int):=by rw [IntWalk.i64_in _ (by omega)];omega
 have q5':(d:Int)-1=(d1:Int):=by omega
 have q5'':IntKind.i64.wrap (d1:Int)=(d1:Int):=IntWalk.i64_in _ (by omega)
 have hd2b:d2≤17:=by omega
 have hd1b:d1≤15:=by omega
 clear hd2 hd1
 have d00:(d:Int)≠0:=by omega
 go_wp2_with fail
 refine (iof_any (d:Int) _ (by unfold I64;omega)).mono ?_
 rintro e w3 ⟨n3,A3,l3,c3,rfl,h3,hb3⟩
 replace H1:=Lib.hid (H1.out.below ikN hb3)
 replace Hb:=Lib.hid (Hb.out.trans (hb3.mono Hb.out.size))
 have H3:=Lib.hid h3
 clear h3 hb3
 go_wp2_with fail
 refine (rpower_any _ _ _ _ (d:Int) d2 _ H3.out d00 fdp (by omega) fd).mono ?_
 rintro e w4 ⟨n4,A4,l4,c4,rfl,h4,hb4⟩
 have k4:Below w4.heap.size w4 (w4.alloc (ibox n4 A4 l4 c4)):=(Below.refl _ _).alloc (Nat.le_refl _) _
 replace H1:=Lib.hid ((H1.out.below ikN hb4).below ikN k4)
 have B5:=Lib.hid (IBox.make h4)
 replace Hb:=Lib.hid ((Hb.out.trans (hb4.mono Hb.out.size)).trans (k4.mono (Hb.out.trans (hb4.mono Hb.out.size)).size))
 obtain ⟨g5,hg5⟩:∃ g,g=w4.heap.size:=⟨_,rfl⟩
 obtain ⟨wa,hwa⟩:∃ wa,wa=w4.alloc (ibox n4 A4 l4 c4):=⟨_,rfl⟩
 go_wp2_with fail
 rw [← hwa] at H1 B5 Hb ⊢
 rw [← hg5] at B5 ⊢
 clear h4 hb4 k4 H3 hwa hg5 q4 q4' q4''
 refine (rnorm_any ikN _ _ _ Q _ H1.out sQ (by omega) hok).mono ?_
 rintro e w5 ⟨n5,A5,l5,c5,rfl,h5,hb5⟩
 rw [HN.out] at h5
 have H5:=Lib.hid h5
 replace B5:=Lib.hid (B5.out.move hb5)
 replace Hb:=Lib.hid (Hb.out.trans (hb5.mono Hb.out.size))
 clear h5 hb5 H1
 go_wp2_with fail
 refine (rpower_any _ _ _ _ (N:Int) d1 _ H5.out hN0 fNp (by omega) fN).mono ?_
 rintro e w6 ⟨n6,A6,l6,c6,rfl,h6,hb6⟩
 have k6:Below w6.heap.size w6 (w6.alloc (ibox n6 A6 l6 c6)):=(Below.refl _ _).alloc (Nat.le_refl _) _
 replace B5:=Lib.hid ((B5.out.move hb6).move k6)
 have B6:=Lib.hid (IBox.make h6)
 replace Hb:=Lib.hid ((Hb.out.trans (hb6.mono Hb.out.size)).trans (k6.mono (Hb.out.trans (hb6.mono Hb.out.size)).size))
 obtain ⟨g6,hg6⟩:∃ g,g=w6.heap.size:=⟨_,rfl⟩
 obtain ⟨wc,hwc⟩:∃ wc,wc=w6.alloc (ibox n6 A6 l6 c6):=⟨_,rfl⟩
 rw [← hwc] at B5 B6 Hb
 rw [← hg6] at B6
 have x0:=B5.out.c0
 have x1:=B5.out.c1
 have y0:=B6.out.c0
 have y1:=B6.out.c1
 clear q5 q5' q5''
 rw [hwc,hg6] at y0 y1
 rw [hwc] at x0 x1
 go_wp2_with fail
 rw [← hwc] at x0 x1 y0 y1 ⊢
 clear hwc h6 hb6 k6 H5 x0 x1 y0 y1
 refine (imul_any _ _ _ _ _ _ _ _ _ _ _ B5.out.hz.at_ B6.out.hz.at_ fdp.sm fNp.sm (fdp.mulok _)).mono ?_
 rintro e w7 ⟨n7,A7,l7,c7,rfl,h7,hb7⟩
 rw [hXe.out] at h7
 have H7:=Lib.hid h7
 replace Hb:=Lib.hid (Hb.out.trans (hb7.mono Hb.out.size))
 clear h7 hb7 B5 B6
 go_wp2_with fail
 refine (logarithm_all _ _ _ _ X _ H7.out.at_ siX smX).mono ?_
 rintro e w8 ⟨⟨k,rfl,hk⟩,hb8⟩
 replace Hb:=Lib.hid (Hb.out.trans (hb8.mono Hb.out.size))
 have hk2:k≤50000:=by have:=lg_bb HXb.out hk;have:=HE.out;omega
 obtain ⟨s,hs⟩:∃ s,s=(k+1) / 2:=⟨_,rfl⟩
 have HV:=Lib.hid (show SepQ (qpart F) s from .inr ⟨by rw [← HQ.out,Hd.out];omega,k,by rw [← HQ.out,hsx.out];exact hk,hs⟩)
 have q1:IntKind.i64.wrap ((k:Int)+1)=((k+1:Nat):Int):=by rw [IntWalk.i64_in _ (by omega)];omega
 have q1':(k:Int)+1=((k+1:Nat):Int):=by omega
 have q2:Int.tdiv ((k+1:Nat):Int) 2=(s:Int):=by rw [hs];rfl
 have q3:IntKind.i64.wrap (s:Int)=(s:Int):=IntWalk.i64_in _ (by omega)
 have q4:IntKind.i64.wrap ((k+1:Nat):Int)=((k+1:Nat):Int):=IntWalk.i64_in _ (by omega)
 have hs1:s≤50000:=by omega
 obtain ⟨m,hm⟩:∃ m,m=k+1:=⟨_,rfl⟩
 rw [← hm] at q1 q1' q2 q4
 clear hk hb8 H7 hs hm hk2
 go_wp2
 go_ret
 exact ⟨⟨s,rfl,HV.out,hs1⟩,Hb.out⟩
end Go.Proofs.Ytjmglmgokfcgoaa
