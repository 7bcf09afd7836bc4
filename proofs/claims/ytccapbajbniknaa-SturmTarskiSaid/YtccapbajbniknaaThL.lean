/- The law SturmTheorem. -/
import Derived.Test.YtccapbajbniknaaSqw
namespace Go.Proofs.Ytccapbajbniknaa
open Go.RowKit

structure Pai (W : World) (g : Nat) (x0 x1 : Int) : Prop where
  c0 : W.cell? ⟨g, 0, none⟩ = some (.int .i8 x0)
  c1 : W.cell? ⟨g, 1, none⟩ = some (.int .i8 x1)
theorem Pai.move {W W' : World} {g : Nat} {x0 x1 : Int} (h : Pai W g x0 x1) (hb : Below W.heap.size W W') : Pai W' g x0 x1 := by
  obtain ⟨hc, _⟩ := bcellS hb
  exact ⟨(hc _ (by rw [h.c0]; rfl)).trans h.c0, (hc _ (by rw [h.c1]; rfl)).trans h.c1⟩
theorem Pai.make (W : World) (x0 x1 : Int) (t : TypeId) : Pai (W.alloc (.cells #[.int .i8 x0, .int .i8 x1] t)) W.heap.size x0 x1 := ⟨by go_simp, by go_simp⟩
/-- the first coefficients of a slice of int16s -/
theorem short_bd {w : World} {A : Option Addr} {l c : Nat} {p : List Int} (h : I16At w A l c p) (n : Nat) : plen (ptrim (p.take n)) ≤ n ∧ (ptrim (p.take n)).length ≤ n ∧ ptrim (ptrim (p.take n)) = ptrim (p.take n) ∧ ∀ j, ((ptrim (p.take n)).getD j 0).natAbs ≤ 32768 := by
  have h1 := plen_le (p.take n)
  rw [List.length_take] at h1
  refine ⟨by rw [plen_ptrim]; omega, by rw [ptrim_length]; omega, ptrim_ptrim _, fun j => ?_⟩
  rw [ptrim_getD]
  rcases Nat.lt_or_ge j (p.take n).length with hj | hj
  · have hmem : (p.take n).getD j 0 ∈ p := by
      rw [List.getD_eq_getElem?_getD, List.getElem?_eq_getElem hj]
      exact List.mem_of_mem_take (List.getElem_mem _)
    have := h.range _ hmem
    omega
  · rw [getD_out _ hj]; omega
theorem short_p9 {w : World} {A : Option Addr} {l c : Nat} {p : List Int} (h : I16At w A l c p) {n : Nat} (hn : n ≤ 9) : P9 (ptrim (p.take n)) := by
  obtain ⟨h1, _, _, h2⟩ := short_bd h n
  exact ⟨by omega, fun j => Nat.le_trans (h2 j) (by rw [BB_eq]; omega)⟩

set_option maxRecDepth 100000 in
set_option maxHeartbeats 8000000 in
theorem law_theorem (A : Option Addr) (len cap : Nat) (cs : List Int) (p d p' d' : Int) (w : World) (h : I16At w A len cap cs) (hlm : len ≤ 9223372036854775807) (hp : I8 p) (hd : I8 d) (hp' : I8 p') (hd' : I8 d') :
    Calls Try.prog 5 #[.slice A len cap, .agg #[.int .i8 p, .int .i8 d], .agg #[.int .i8 p', .int .i8 d']] w fun e w' => e = .returned (.bool true) ∧ Below w.heap.size w w' := by
  have o1 := below_new w (.cells #[.int .i8 p, .int .i8 d] 46)
  have o2 := below_new (w.alloc (.cells #[.int .i8 p, .int .i8 d] 46)) (.cells #[.int .i8 p', .int .i8 d'] 46)
  have Hb := Lib.hid (o1.trans (o2.mono o1.size))
  have r0 := (Pai.make w p d 46).move o2
  have r1 := Pai.make (w.alloc (.cells #[.int .i8 p, .int .i8 d] 46)) p' d' 46
  have R0 := Lib.hid r0
  have R1 := Lib.hid (show Pai ((w.alloc (.cells #[.int .i8 p, .int .i8 d] 46)).alloc (.cells #[.int .i8 p', .int .i8 d'] 46)) (w.heap.size + 1) p' d' by simpa using r1)
  have Hi := Lib.hid ((h.below o1).below o2)
  have F9 : P9 (ptrim (cs.take 8)) := short_p9 h (by omega)
  obtain ⟨_, lF, tF, _⟩ := short_bd h 8
  obtain ⟨F, hF⟩ : ∃ F, F = ptrim (cs.take 8) := ⟨_, rfl⟩
  rw [← hF] at F9 lF tF
  have HFe := Lib.hid hF.symm
  obtain ⟨g0, hg0⟩ : ∃ g0, g0 = w.heap.size := ⟨_, rfl⟩
  obtain ⟨g1, hg1⟩ : ∃ g1, g1 = w.heap.size + 1 := ⟨_, rfl⟩
  have hgw : w.heap.size + 1 < ((w.alloc (.cells #[.int .i8 p, .int .i8 d] 46)).alloc (.cells #[.int .i8 p', .int .i8 d'] 46)).heap.size := by simp
  clear o1 o2 r0 r1 h hF
  go_enter Try.func5, Try.ntmps5
  go_wp2_with fail
  refine (awake15_any _).mono ?_
  rintro e w1 ⟨rfl, hb1⟩
  replace Hi := Lib.hid (Hi.out.below hb1)
  replace R0 := Lib.hid (R0.out.move hb1); replace R1 := Lib.hid (R1.out.move hb1); replace Hb := Lib.hid (Hb.out.trans (hb1.mono Hb.out.size))
  clear hb1
  go_wp2_with fail
  refine (short_any _ _ _ 8 cs _ Hi.out (by omega) hlm).mono ?_
  rintro e w2 ⟨Af, lf, cf, rfl, hf, hb2⟩
  rw [HFe.out] at hf
  have hlf : lf ≤ 8 := by have := hf.length; omega
  have HF := Lib.hid hf
  replace R0 := Lib.hid (R0.out.move hb2); replace R1 := Lib.hid (R1.out.move hb2); replace Hb := Lib.hid (Hb.out.trans (hb2.mono Hb.out.size))
  clear hb2 Hi hf
  have cF := F9.cp
  have cD := F9.der
  obtain ⟨PS, hPS⟩ : ∃ PS, PS = pchain 12 F (pder F) := ⟨_, rfl⟩
  obtain ⟨k1, k2, k3, k4⟩ := chain_all cF cD
  rw [← hPS] at k2 k4
  have HPS := Lib.hid hPS
  clear hPS
  have hlF : lf ≤ 1000000 := by omega
  go_wp2_with fail
  refine (sturmof_any _ _ _ _ _ HF.out cF.fit.smp cD.fit.smp (by omega) 12 k1 (by omega)).mono ?_
  rintro e w3 ⟨As, ls, cs', rfl, hs, hb3⟩
  rw [← HPS.out] at hs
  have Hls := Lib.hid (show ls = PS.length from hs.length.symm)
  have hls2 : ls ≤ 13 := by have := hs.length; omega
  have HS := Lib.hid hs
  replace HF := Lib.hid (HF.out.below ikN hb3)
  replace R0 := Lib.hid (R0.out.move hb3); replace R1 := Lib.hid (R1.out.move hb3); replace Hb := Lib.hid (Hb.out.trans (hb3.mono Hb.out.size))
  clear hb3 hs
  go_wp2_with fail
  refine (all_q ikN _ _ _ _ _ HF.out F9 hlF).mono ?_
  rintro e w4 ⟨rfl, hb4⟩
  replace HF := Lib.hid (HF.out.below ikN hb4)
  replace HS := Lib.hid (HS.out.below hb4)
  replace R0 := Lib.hid (R0.out.move hb4); replace R1 := Lib.hid (R1.out.move hb4); replace Hb := Lib.hid (Hb.out.trans (hb4.mono Hb.out.size))
  clear hb4
  have hlp : ls ≤ 1000000 := by omega
  have KE : Hid (∀ q ∈ PS, SmP q ∧ q.length ≤ 1000000000) := Lib.hid (fun q hq => (k2 q hq).smp)
  obtain ⟨N1, hN1⟩ : ∃ N, N = (vst (PS.map (sge true)) ls).1 := ⟨_, rfl⟩
  obtain ⟨N2, hN2⟩ : ∃ N, N = (vst (PS.map (sge false)) ls).1 := ⟨_, rfl⟩
  have n1 := (vst_le (PS.map (sge true)) ls).1
  have n2 := (vst_le (PS.map (sge false)) ls).1
  rw [← hN1] at n1
  rw [← hN2] at n2
  have hall : nall F = (N1 : Int) - (N2 : Int) := by
    rw [hN1, hN2, Hls.out, vend_eq, vend_eq, HPS.out]; rfl
  rw [hall]
  have HN1 := Lib.hid hN1.symm
  have HN2 := Lib.hid hN2.symm
  have hw : IntKind.i64.wrap ((N1 : Int) - (N2 : Int)) = (N1 : Int) - (N2 : Int) := IntWalk.i64_in _ (by omega)
  clear hN1 hN2 hall
  go_wp2_with fail
  refine (varend_any true _ _ _ PS _ HS.out KE.out hlp).mono ?_
  rintro e w5 ⟨rfl, hb5⟩
  rw [HN1.out]
  replace HF := Lib.hid (HF.out.below ikN hb5)
  replace HS := Lib.hid (HS.out.below hb5)
  replace R0 := Lib.hid (R0.out.move hb5); replace R1 := Lib.hid (R1.out.move hb5); replace Hb := Lib.hid (Hb.out.trans (hb5.mono Hb.out.size))
  clear hb5
  go_wp2_with fail
  refine (varend_any false _ _ _ PS _ HS.out KE.out hlp).mono ?_
  rintro e w6 ⟨rfl, hb6⟩
  rw [HN2.out]
  replace HF := Lib.hid (HF.out.below ikN hb6)
  replace HS := Lib.hid (HS.out.below hb6)
  replace R0 := Lib.hid (R0.out.move hb6); replace R1 := Lib.hid (R1.out.move hb6); replace Hb := Lib.hid (Hb.out.trans (hb6.mono Hb.out.size))
  clear hb6
  obtain ⟨aL, zL, qL⟩ := at_ok hp hd
  obtain ⟨aH, zH, qH⟩ := at_ok hp' hd'
  rw [← hg1] at R1 hgw
  rw [← hg0] at R0
  have hg01 : g0 < g1 := by omega
  try rw [← hg1]
  try rw [← hg0]
  clear hg0 hg1
  have j0 := R0.out.c0
  have j1 := R0.out.c1
  have j2 := R1.out.c0
  have j3 := R1.out.c1
  go_wp2_with fail
  refine (less15_any p d p' d' _ hp hd hp' hd').mono ?_
  rintro e w7 ⟨rfl, hb7⟩
  replace HF := Lib.hid (HF.out.below ikN hb7)
  replace HS := Lib.hid (HS.out.below hb7)
  replace R0 := Lib.hid (R0.out.move hb7); replace R1 := Lib.hid (R1.out.move hb7); replace Hb := Lib.hid (Hb.out.trans (hb7.mono Hb.out.size))
  clear hb7 j0 j1 j2 j3
  have j0 := R0.out.c0
  have j1 := R0.out.c1
  have j2 := R1.out.c0
  have j3 := R1.out.c1
  by_cases hlt : frn p d * frd d' < frn p' d' * frd d
  · rw [decide_eq_true hlt]
    have hlt2 := Lib.hid (rt_less hp hd hp' hd' hlt)
    clear hlt
    obtain ⟨S1, hS1⟩ : ∃ S, S = sat (rtz p d) (rtq p d) F := ⟨_, rfl⟩
    obtain ⟨S2, hS2⟩ : ∃ S, S = sat (rtz p' d') (rtq p' d') F := ⟨_, rfl⟩
    have HS1 := Lib.hid hS1
    have HS2 := Lib.hid hS2
    clear hS1 hS2
    have P1 : PoOK (rtz p d) (rtq p d) F := cF.at (by omega) zL qL
    have P2 : PoOK (rtz p' d') (rtq p' d') F := cF.at (by omega) zH qH
    go_wp2_with fail
    refine (rat15_any p d _ hp hd).mono ?_
    rintro e w8 ⟨⟨n1, A1, l1, c1, B1, m1, d1, rfl, hz1, hq1⟩, hb8⟩
    replace HF := Lib.hid (HF.out.below ikN hb8)
    replace HS := Lib.hid (HS.out.below hb8)
    replace R0 := Lib.hid (R0.out.move hb8); replace R1 := Lib.hid (R1.out.move hb8); replace Hb := Lib.hid (Hb.out.trans (hb8.mono Hb.out.size))
    clear hb8 j0 j1 j2 j3
    have j0 := R0.out.c0
    have j1 := R0.out.c1
    have j2 := R1.out.c0
    have j3 := R1.out.c1
    go_wp2_with fail
    refine (signat_any ikN _ _ _ F _ _ _ _ _ _ _ _ _ _ HF.out cF.fit hlF hz1 hq1 aL.u aL.v aL.pos P1.ok aL.fz aL.fq).mono ?_
    rintro e w9 ⟨he, hb9⟩
    have he2 : e = .returned (.int .i64 S1) := by rw [HS1.out]; exact he
    subst he2
    clear he hz1 hq1
    replace HF := Lib.hid (HF.out.below ikN hb9)
    replace HS := Lib.hid (HS.out.below hb9)
    replace R0 := Lib.hid (R0.out.move hb9); replace R1 := Lib.hid (R1.out.move hb9); replace Hb := Lib.hid (Hb.out.trans (hb9.mono Hb.out.size))
    clear hb9 j0 j1 j2 j3
    have j0 := R0.out.c0
    have j1 := R0.out.c1
    have j2 := R1.out.c0
    have j3 := R1.out.c1
    by_cases c1 : S1 = 0
    · have b1 : (S1 == 0) = true := by rw [c1]; rfl
      clear c1
      go_wp2_with fail
      go_ret
      exact ⟨rfl, Hb.out⟩
    have b1 : (S1 == 0) = false := by rw [beq_eq_false_iff_ne]; exact c1
    have C1 := Lib.hid c1
    clear c1
    go_wp2_with fail
    refine (rat15_any p' d' _ hp' hd').mono ?_
    rintro e w10 ⟨⟨n2, A2, l2, c2, B2, m2, d2, rfl, hz2, hq2⟩, hb10⟩
    replace HF := Lib.hid (HF.out.below ikN hb10)
    replace HS := Lib.hid (HS.out.below hb10)
    replace R0 := Lib.hid (R0.out.move hb10); replace R1 := Lib.hid (R1.out.move hb10); replace Hb := Lib.hid (Hb.out.trans (hb10.mono Hb.out.size))
    clear hb10 j0 j1 j2 j3
    have j0 := R0.out.c0
    have j1 := R0.out.c1
    have j2 := R1.out.c0
    have j3 := R1.out.c1
    go_wp2_with fail
    refine (signat_any ikN _ _ _ F _ _ _ _ _ _ _ _ _ _ HF.out cF.fit hlF hz2 hq2 aH.u aH.v aH.pos P2.ok aH.fz aH.fq).mono ?_
    rintro e w11 ⟨he, hb11⟩
    have he2 : e = .returned (.int .i64 S2) := by rw [HS2.out]; exact he
    subst he2
    clear he hz2 hq2
    replace HF := Lib.hid (HF.out.below ikN hb11)
    replace HS := Lib.hid (HS.out.below hb11)
    replace R0 := Lib.hid (R0.out.move hb11); replace R1 := Lib.hid (R1.out.move hb11); replace Hb := Lib.hid (Hb.out.trans (hb11.mono Hb.out.size))
    clear hb11 j0 j1 j2 j3
    have j0 := R0.out.c0
    have j1 := R0.out.c1
    have j2 := R1.out.c0
    have j3 := R1.out.c1
    by_cases c2 : S2 = 0
    · have b2 : (S2 == 0) = true := by rw [c2]; rfl
      clear c2
      go_wp2_with fail
      go_ret
      exact ⟨rfl, Hb.out⟩
    have b2 : (S2 == 0) = false := by rw [beq_eq_false_iff_ne]; exact c2
    obtain ⟨N3, hN3⟩ : ∃ N, N = (vst (PS.map (sat (rtz p d) (rtq p d))) ls).1 := ⟨_, rfl⟩
    obtain ⟨N4, hN4⟩ : ∃ N, N = (vst (PS.map (sat (rtz p' d') (rtq p' d'))) ls).1 := ⟨_, rfl⟩
    have n3 := (vst_le (PS.map (sat (rtz p d) (rtq p d))) ls).1
    have n4 := (vst_le (PS.map (sat (rtz p' d') (rtq p' d'))) ls).1
    rw [← hN3] at n3
    rw [← hN4] at n4
    have hcn : ncount F (rtz p d) (rtq p d) (rtz p' d') (rtq p' d') = (N3 : Int) - (N4 : Int) := by
      unfold ncount
      rw [if_pos hlt2.out, nint_part F9 (Pt.of_lt_of.2 ((rt_pt hp hd hp' hd').2 hlt2.out)) (by rw [← sat_eq aL.pos, ← HS1.out]; exact C1.out) (by rw [← sat_eq aH.pos, ← HS2.out]; exact c2)]
      unfold nint
      rw [hN3, hN4, Hls.out, vat_eq aL.pos, vat_eq aH.pos, HPS.out]
    have HCN := Lib.hid hcn
    have HN3 := Lib.hid hN3.symm
    have HN4 := Lib.hid hN4.symm
    have hw2 : IntKind.i64.wrap ((N3 : Int) - (N4 : Int)) = (N3 : Int) - (N4 : Int) := IntWalk.i64_in _ (by omega)
    have e1 : ∀ x ∈ PS, PoOK (rtz p d) (rtq p d) x := fun x hx => (k2 x hx).at zL qL
    have e2 : ∀ x ∈ PS, PoOK (rtz p' d') (rtq p' d') x := fun x hx => (k2 x hx).at zH qH
    replace aL := And.intro aL (And.intro zL qL)
    replace aH := And.intro aH (And.intro zH qH)
    obtain ⟨wB, hwB⟩ : ∃ wB, wB = w11 := ⟨_, rfl⟩
    rw [← hwB] at R0 R1 HF HS Hb j0 j1 j2 j3 ⊢
    clear hwB c2 hcn hN3 hN4
    have G40 : Hid (Below wB.heap.size wB wB) := Lib.hid (Below.refl _ _)
    go_wp2_with fail
    go_region_held3 (fun w' => w'.cell? ⟨g0, 0, none⟩ = some (.int .i8 p) ∧ w'.cell? ⟨g0, 1, none⟩ = some (.int .i8 d) ∧ w'.cell? ⟨g1, 0, none⟩ = some (.int .i8 p') ∧ w'.cell? ⟨g1, 1, none⟩ = some (.int .i8 d')) (go_keep) (first
      | (go_at_call 31; (have _hx := G46); go_must (refine (vars_any _ _ _ PS _ _ _ _ _ _ _ _ _ _ ?_ ?_ ?_ aH.1 e2 hlp).mono ?_; (exact (HS.out.below G46.out).below (by (repeat (first | exact Below.refl _ _ | refine Below.drew ?_ | refine Below.alloc ?_ (by first | (simp; done) | (simp; omega) | omega) _ | refine Below.setCell ?_ (by first | (simp; done) | (simp; omega) | omega) _)))); (exact HZ6.out.below (by (repeat (first | exact Below.refl _ _ | refine Below.drew ?_ | refine Below.alloc ?_ (by first | (simp; done) | (simp; omega) | omega) _ | refine Below.setCell ?_ (by first | (simp; done) | (simp; omega) | omega) _)))); (exact HQ6.out.below (by (repeat (first | exact Below.refl _ _ | refine Below.drew ?_ | refine Below.alloc ?_ (by first | (simp; done) | (simp; omega) | omega) _ | refine Below.setCell ?_ (by first | (simp; done) | (simp; omega) | omega) _)))); rintro e w47 ⟨rfl, hb47⟩; rw [HN4.out]; have G47 : Hid (Below wB.heap.size wB w47) := Lib.hid (G46.out.trans ((Below.trans (by (repeat (first | exact Below.refl _ _ | refine Below.drew ?_ | refine Below.alloc ?_ (by first | (simp; done) | (simp; omega) | omega) _ | refine Below.setCell ?_ (by first | (simp; done) | (simp; omega) | omega) _))) (hb47.mono (by simp <;> omega))).mono G46.out.size)); have j0_47 := (R0.out.move G47.out).c0; have j1_47 := (R0.out.move G47.out).c1; have j2_47 := (R1.out.move G47.out).c0; have j3_47 := (R1.out.move G47.out).c1; clear hb47))
      | (go_at_call 29; (have _hx := G45); go_must (refine (rat15_any p' d' _ hp' hd').mono ?_; rintro e w46 ⟨⟨n6, A6, l6, c6, B6, m6, d6, rfl, hz6, hq6⟩, hb46⟩; have HZ6 := Lib.hid hz6; have HQ6 := Lib.hid hq6; clear hz6 hq6; have G46 : Hid (Below wB.heap.size wB w46) := Lib.hid (G45.out.trans ((Below.trans (by (repeat (first | exact Below.refl _ _ | refine Below.drew ?_ | refine Below.alloc ?_ (by first | (simp; done) | (simp; omega) | omega) _ | refine Below.setCell ?_ (by first | (simp; done) | (simp; omega) | omega) _))) (hb46.mono (by simp <;> omega))).mono G45.out.size)); have j0_46 := (R0.out.move G46.out).c0; have j1_46 := (R0.out.move G46.out).c1; have j2_46 := (R1.out.move G46.out).c0; have j3_46 := (R1.out.move G46.out).c1; clear hb46))
      | (go_at_call 31; (have _hx := G44); go_must (refine (vars_any _ _ _ PS _ _ _ _ _ _ _ _ _ _ ?_ ?_ ?_ aL.1 e1 hlp).mono ?_; (exact (HS.out.below G44.out).below (by (repeat (first | exact Below.refl _ _ | refine Below.drew ?_ | refine Below.alloc ?_ (by first | (simp; done) | (simp; omega) | omega) _ | refine Below.setCell ?_ (by first | (simp; done) | (simp; omega) | omega) _)))); (exact HZ4.out.below (by (repeat (first | exact Below.refl _ _ | refine Below.drew ?_ | refine Below.alloc ?_ (by first | (simp; done) | (simp; omega) | omega) _ | refine Below.setCell ?_ (by first | (simp; done) | (simp; omega) | omega) _)))); (exact HQ4.out.below (by (repeat (first | exact Below.refl _ _ | refine Below.drew ?_ | refine Below.alloc ?_ (by first | (simp; done) | (simp; omega) | omega) _ | refine Below.setCell ?_ (by first | (simp; done) | (simp; omega) | omega) _)))); rintro e w45 ⟨rfl, hb45⟩; rw [HN3.out]; have G45 : Hid (Below wB.heap.size wB w45) := Lib.hid (G44.out.trans ((Below.trans (by (repeat (first | exact Below.refl _ _ | refine Below.drew ?_ | refine Below.alloc ?_ (by first | (simp; done) | (simp; omega) | omega) _ | refine Below.setCell ?_ (by first | (simp; done) | (simp; omega) | omega) _))) (hb45.mono (by simp <;> omega))).mono G44.out.size)); have j0_45 := (R0.out.move G45.out).c0; have j1_45 := (R0.out.move G45.out).c1; have j2_45 := (R1.out.move G45.out).c0; have j3_45 := (R1.out.move G45.out).c1; clear hb45))
      | (go_at_call 29; (have _hx := G43); go_must (refine (rat15_any p d _ hp hd).mono ?_; rintro e w44 ⟨⟨n4, A4, l4, c4, B4, m4, d4, rfl, hz4, hq4⟩, hb44⟩; have HZ4 := Lib.hid hz4; have HQ4 := Lib.hid hq4; clear hz4 hq4; have G44 : Hid (Below wB.heap.size wB w44) := Lib.hid (G43.out.trans ((Below.trans (by (repeat (first | exact Below.refl _ _ | refine Below.drew ?_ | refine Below.alloc ?_ (by first | (simp; done) | (simp; omega) | omega) _ | refine Below.setCell ?_ (by first | (simp; done) | (simp; omega) | omega) _))) (hb44.mono (by simp <;> omega))).mono G43.out.size)); have j0_44 := (R0.out.move G44.out).c0; have j1_44 := (R0.out.move G44.out).c1; have j2_44 := (R1.out.move G44.out).c0; have j3_44 := (R1.out.move G44.out).c1; clear hb44))
      | (go_at_call 30; (have _hx := G42); go_must (refine (count_q ikN _ _ _ F _ _ _ _ _ _ _ _ _ _ _ _ _ _ _ _ _ _ _ ?_ hlF F9 ?_ ?_ ?_ ?_ aL.1 aH.1 aL.2.1 aL.2.2 aH.2.1 aH.2.2).mono ?_; (exact (HF.out.below ikN G42.out).below ikN (by (repeat (first | exact Below.refl _ _ | refine Below.drew ?_ | refine Below.alloc ?_ (by first | (simp; done) | (simp; omega) | omega) _ | refine Below.setCell ?_ (by first | (simp; done) | (simp; omega) | omega) _)))); (exact HZ1'.out.below (by (repeat (first | exact Below.refl _ _ | refine Below.drew ?_ | refine Below.alloc ?_ (by first | (simp; done) | (simp; omega) | omega) _ | refine Below.setCell ?_ (by first | (simp; done) | (simp; omega) | omega) _)))); (exact HQ1'.out.below (by (repeat (first | exact Below.refl _ _ | refine Below.drew ?_ | refine Below.alloc ?_ (by first | (simp; done) | (simp; omega) | omega) _ | refine Below.setCell ?_ (by first | (simp; done) | (simp; omega) | omega) _)))); (exact HZ2.out.below (by (repeat (first | exact Below.refl _ _ | refine Below.drew ?_ | refine Below.alloc ?_ (by first | (simp; done) | (simp; omega) | omega) _ | refine Below.setCell ?_ (by first | (simp; done) | (simp; omega) | omega) _)))); (exact HQ2.out.below (by (repeat (first | exact Below.refl _ _ | refine Below.drew ?_ | refine Below.alloc ?_ (by first | (simp; done) | (simp; omega) | omega) _ | refine Below.setCell ?_ (by first | (simp; done) | (simp; omega) | omega) _)))); rintro e w43 ⟨rfl, hb43⟩; rw [HCN.out]; have G43 : Hid (Below wB.heap.size wB w43) := Lib.hid (G42.out.trans ((Below.trans (by (repeat (first | exact Below.refl _ _ | refine Below.drew ?_ | refine Below.alloc ?_ (by first | (simp; done) | (simp; omega) | omega) _ | refine Below.setCell ?_ (by first | (simp; done) | (simp; omega) | omega) _))) (hb43.mono (by simp <;> omega))).mono G42.out.size)); have j0_43 := (R0.out.move G43.out).c0; have j1_43 := (R0.out.move G43.out).c1; have j2_43 := (R1.out.move G43.out).c0; have j3_43 := (R1.out.move G43.out).c1; clear hb43))
      | (go_at_call 29; (have _hx := G41); go_must (refine (rat15_any p' d' _ hp' hd').mono ?_; rintro e w42 ⟨⟨n2, A2, l2, c2, B2, m2, d2, rfl, hz2, hq2⟩, hb42⟩; have HZ2 := Lib.hid hz2; have HQ2 := Lib.hid hq2; clear hz2 hq2; have HZ1' := Lib.hid (HZ1.out.below (Below.trans (by (repeat (first | exact Below.refl _ _ | refine Below.drew ?_ | refine Below.alloc ?_ (by first | (simp; done) | (simp; omega) | omega) _ | refine Below.setCell ?_ (by first | (simp; done) | (simp; omega) | omega) _))) (hb42.mono (by simp <;> omega)))); have HQ1' := Lib.hid (HQ1.out.below (Below.trans (by (repeat (first | exact Below.refl _ _ | refine Below.drew ?_ | refine Below.alloc ?_ (by first | (simp; done) | (simp; omega) | omega) _ | refine Below.setCell ?_ (by first | (simp; done) | (simp; omega) | omega) _))) (hb42.mono (by simp <;> omega)))); have G42 : Hid (Below wB.heap.size wB w42) := Lib.hid (G41.out.trans ((Below.trans (by (repeat (first | exact Below.refl _ _ | refine Below.drew ?_ | refine Below.alloc ?_ (by first | (simp; done) | (simp; omega) | omega) _ | refine Below.setCell ?_ (by first | (simp; done) | (simp; omega) | omega) _))) (hb42.mono (by simp <;> omega))).mono G41.out.size)); have j0_42 := (R0.out.move G42.out).c0; have j1_42 := (R0.out.move G42.out).c1; have j2_42 := (R1.out.move G42.out).c0; have j3_42 := (R1.out.move G42.out).c1; clear hb42))
      | (go_at_call 29; (have _hx := G40); go_must (refine (rat15_any p d _ hp hd).mono ?_; rintro e w41 ⟨⟨n1, A1, l1, c1, B1, m1, d1, rfl, hz1, hq1⟩, hb41⟩; have HZ1 := Lib.hid hz1; have HQ1 := Lib.hid hq1; clear hz1 hq1; have G41 : Hid (Below wB.heap.size wB w41) := Lib.hid (G40.out.trans ((Below.trans (by (repeat (first | exact Below.refl _ _ | refine Below.drew ?_ | refine Below.alloc ?_ (by first | (simp; done) | (simp; omega) | omega) _ | refine Below.setCell ?_ (by first | (simp; done) | (simp; omega) | omega) _))) (hb41.mono (by simp <;> omega))).mono G40.out.size)); have j0_41 := (R0.out.move G41.out).c0; have j1_41 := (R0.out.move G41.out).c1; have j2_41 := (R1.out.move G41.out).c0; have j3_41 := (R1.out.move G41.out).c1; clear hb41)))
    rename_i hHeld
    clear hHeld
    have HbE := Lib.hid (Hb.out.trans (G47.out.mono Hb.out.size))
    clear R0 R1 HF HS Hb
    go_wp2
    go_ret
    exact ⟨rfl, HbE.out⟩
  · rw [decide_eq_false hlt]
    clear hlt
    go_wp2
    go_ret
    exact ⟨rfl, Hb.out⟩
end Go.Proofs.Ytccapbajbniknaa
