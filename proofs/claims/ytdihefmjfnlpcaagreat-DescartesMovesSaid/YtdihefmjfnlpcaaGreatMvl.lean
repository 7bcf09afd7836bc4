/- The law DescartesMoves: its walk. -/
import Derived.Test.YtdihefmjfnlpcaaGreatShk
import Derived.Test.YtdihefmjfnlpcaaGreatMve
import Derived.Test.YtdihefmjfnlpcaaGreatLes
import Derived.Test.YtdihefmjfnlpcaaGreatCmp
import Derived.Test.YtdihefmjfnlpcaaGreatAwd
namespace Go.Proofs.YtdihefmjfnlpcaaGreat
open Go Go.RowKit

/-- a box with two pairs -/
structure Qua (W : World) (g : Nat) (x0 x1 x2 x3 : Int) : Prop where
  c0 : W.cell? ⟨g, 0, none⟩ = some (.int .i8 x0)
  c1 : W.cell? ⟨g, 1, none⟩ = some (.int .i8 x1)
  c2 : W.cell? ⟨g, 2, none⟩ = some (.int .i8 x2)
  c3 : W.cell? ⟨g, 3, none⟩ = some (.int .i8 x3)
theorem Qua.move {W W' : World} {g : Nat} {x0 x1 x2 x3 : Int} (h : Qua W g x0 x1 x2 x3) (hb : Below W.heap.size W W') : Qua W' g x0 x1 x2 x3 := by
  obtain ⟨hc, _⟩ := bcellS hb
  exact ⟨(hc _ (by rw [h.c0]; rfl)).trans h.c0, (hc _ (by rw [h.c1]; rfl)).trans h.c1, (hc _ (by rw [h.c2]; rfl)).trans h.c2, (hc _ (by rw [h.c3]; rfl)).trans h.c3⟩
theorem Qua.make (W : World) (x0 x1 x2 x3 : Int) (t : TypeId) : Qua (W.alloc (.cells #[.int .i8 x0, .int .i8 x1, .int .i8 x2, .int .i8 x3] t)) W.heap.size x0 x1 x2 x3 := ⟨by go_simp, by go_simp, by go_simp, by go_simp⟩

set_option maxRecDepth 100000 in
set_option maxHeartbeats 8000000 in
theorem law_moves (A : Option Addr) (len cap : Nat) (cs : List Int) (p d p' d' n : Int) (w : World) (h : I16At w A len cap cs) (hlm : len ≤ 9223372036854775807) (hp : I8 p) (hd : I8 d) (hp' : I8 p') (hd' : I8 d') (hn : -32768 ≤ n ∧ n ≤ 32767) :
    Calls Tryz.prog 5 #[.slice A len cap, .agg #[.int .i8 p, .int .i8 d, .int .i8 p', .int .i8 d'], .int .i16 n] w fun e w' => e = .returned (.bool true) ∧ Below w.heap.size w w' := by
  have hb0 := below_new w (.cells #[.int .i8 p, .int .i8 d, .int .i8 p', .int .i8 d'] 52)
  have HT := Lib.hid (Qua.make w p d p' d' 52)
  have Hi := Lib.hid (h.below hb0)
  have Hb := Lib.hid hb0
  have hgw : w.heap.size < (w.alloc (.cells #[.int .i8 p, .int .i8 d, .int .i8 p', .int .i8 d'] 52)).heap.size := by simp
  clear hb0 h
  go_enter Tryz.func5, Tryz.ntmps5
  go_wp2_with fail
  refine (awake17_any _).mono ?_
  rintro e wa ⟨rfl, hba⟩
  replace HT := Lib.hid (HT.out.move hba)
  replace Hi := Lib.hid (Hi.out.below hba)
  replace Hb := Lib.hid (Hb.out.trans (hba.mono Hb.out.size))
  replace hgw := Nat.lt_of_lt_of_le hgw hba.size
  have k0 := HT.out.c0
  have k1 := HT.out.c1
  have k2 := HT.out.c2
  have k3 := HT.out.c3
  obtain ⟨gt, hgt⟩ : ∃ gt, gt = w.heap.size := ⟨_, rfl⟩
  rw [← hgt] at HT hgw k0 k1 k2 k3 ⊢
  have Hgt := Lib.hid hgt
  clear hba hgt
  by_cases hn0 : n = 0
  · have d1 : (n == 0) = true := by rw [hn0]; rfl
    have d1' : decide (n = 0) = true := by rw [hn0]; rfl
    clear hn0
    go_wp2_with fail
    refine (awake17_any _).mono ?_; rintro e wb ⟨rfl, hbb⟩; replace Hb := Lib.hid (Hb.out.trans (hbb.mono Hb.out.size)); go_wp2; go_ret; exact ⟨rfl, Hb.out⟩
  · have d1 : (n == 0) = false := by rw [beq_eq_false_iff_ne]; exact hn0
    have d1' : decide (n = 0) = false := by simpa using hn0
    have Hn0 := Lib.hid hn0
    clear hn0
    go_wp2_with fail
    refine (less15_any _ _ _ _ _ hp hd hp' hd').mono ?_
    rintro e w1 ⟨rfl, hb1⟩
    replace HT := Lib.hid (HT.out.move hb1)
    replace Hi := Lib.hid (Hi.out.below hb1)
    replace Hb := Lib.hid (Hb.out.trans (hb1.mono Hb.out.size))
    replace hgw := Nat.lt_of_lt_of_le hgw hb1.size
    replace k0 := HT.out.c0
    replace k1 := HT.out.c1
    replace k2 := HT.out.c2
    replace k3 := HT.out.c3
    clear hb1
    by_cases hlt : frn p d * frd d' < frn p' d' * frd d
    · have d2 : decide (frn p d * frd d' < frn p' d' * frd d) = true := by simpa using hlt
      rw [d2]
      have Hlt := Lib.hid hlt
      clear hlt d2
      go_wp2_with fail
      refine (short_any _ _ _ 7 _ _ Hi.out (by omega) hlm).mono ?_
      rintro e w2 ⟨A2, l2, c2, rfl, hf, hb2⟩
      replace HT := Lib.hid (HT.out.move hb2)
      replace Hb := Lib.hid (Hb.out.trans (hb2.mono Hb.out.size))
      replace hgw := Nat.lt_of_lt_of_le hgw hb2.size
      have hcs : ∀ c ∈ cs, -32768 ≤ c ∧ c ≤ 32767 := Hi.out.range
      replace k0 := HT.out.c0
      replace k1 := HT.out.c1
      replace k2 := HT.out.c2
      replace k3 := HT.out.c3
      have HF := Lib.hid hf
      clear hb2 hf Hi
      go_wp2_with fail
      refine wp_region_held_drew (S := fun w' => w'.cell? ⟨gt, 0, none⟩ = some (.int .i8 p) ∧ w'.cell? ⟨gt, 1, none⟩ = some (.int .i8 d) ∧ w'.cell? ⟨gt, 2, none⟩ = some (.int .i8 p') ∧ w'.cell? ⟨gt, 3, none⟩ = some (.int .i8 d')) (by kernel_rfl) (by (try dsimp only); go_keep) (fun hHeld => ?_)
      (refine take_at (i := 0) (oi := _) (v := ?_) rfl rfl (by kernel_rfl) (by kernel_rfl) (by kernel_rfl) (fun _ _ _ h => h) (Or.inl ⟨by rfl, ?_⟩) (by assumption) ?_; rotate_left; (focus (intro w hSw; (try dsimp only at hSw); go_simp; (try with_reducible rfl))); (simp only [put_lit, List.set]))
      (refine take_at (i := 1) (oi := _) (v := ?_) rfl rfl (by kernel_rfl) (by kernel_rfl) (by kernel_rfl) (fun _ _ _ h => h) (Or.inl ⟨by rfl, ?_⟩) (by assumption) ?_; rotate_left; (focus (intro w hSw; (try dsimp only at hSw); go_simp; (try with_reducible rfl))); (simp only [put_lit, List.set]))
      (refine take_at (i := 3) (oi := _) (v := ?_) rfl rfl (by kernel_rfl) (by kernel_rfl) (by kernel_rfl) (fun _ _ _ h => h) (Or.inl ⟨by rfl, ?_⟩) (by assumption) ?_; rotate_left; (focus (intro w hSw; (try dsimp only at hSw); go_simp; (try with_reducible rfl))); (simp only [put_lit, List.set]))
      (refine take_at (i := 4) (oi := _) (v := ?_) rfl rfl (by kernel_rfl) (by kernel_rfl) (by kernel_rfl) (fun _ _ _ h => h) (Or.inl ⟨by rfl, ?_⟩) (by assumption) ?_; rotate_left; (focus (intro w hSw; (try dsimp only at hSw); go_simp; (try with_reducible rfl))); (simp only [put_lit, List.set]))
      refine wpAnyH_inv (Inv := fun listed a w => ∃ c m s v u, BI (fun i => if i = 0 then rtz p d else rtz p' d') (fun i => if i = 0 then rtq p d else rtq p' d') w2.drew w c m s v u ∧ listed = #[true, true, c 0, true, true, c 1, m 0, m 1, s 0, s 1] ∧ a = ⟨#[.slice A len cap, .agg #[.int .i8 p, .int .i8 d, .int .i8 p', .int .i8 d'], .int .i16 n, undef, .pointer (some ⟨gt, 0, none⟩), undef, .bool false, .slice A2 l2 c2, u 0, u 1, undef, undef, .bool true, .bool false, .bool false, .int .i16 n, .bool false, .bool false, .bool false, .pointer (some ⟨gt, 0, none⟩), .agg #[.int .i8 p, .int .i8 d], .pointer (some ⟨gt, 2, none⟩), .agg #[.int .i8 p', .int .i8 d'], .bool true, .bool false, .bool false, undef, .slice A len cap, .slice A2 l2 c2, .pointer (some ⟨gt, 0, none⟩), .agg #[.int .i8 p, .int .i8 d], v 0, .pointer (some ⟨gt, 2, none⟩), .agg #[.int .i8 p', .int .i8 d'], v 1, undef, undef, undef, undef, undef, undef, undef, undef, undef, undef, undef, undef, undef, undef, undef, undef, undef, undef, undef, undef, undef, undef, undef, undef, undef, undef, undef, undef, undef, undef, undef, undef, undef, undef, undef, undef, undef, undef, undef, undef, undef, undef, undef, undef, undef, undef, undef, undef, undef, undef, undef, undef, undef, undef, undef, undef, undef, undef], []⟩) ?_ ?_ ?_ 6 _ _ _ (by decide +kernel) ?_
      · rintro listed a w ⟨c, m, s, v, u, hB, rfl, rfl⟩
        have hT := (Qua.mk hHeld.1 hHeld.2.1 hHeld.2.2.1 hHeld.2.2.2).move hB.b
        exact ⟨hT.c0, hT.c1, hT.c2, hT.c3⟩
      · rintro listed a w i o ⟨c, m, s, v, u, hB, rfl, rfl⟩ ho hl hdp K hK
        have hi : i < 10 := (Array.getElem?_eq_some_iff.1 ho).1
        have hi' : i = 0 ∨ i = 1 ∨ i = 2 ∨ i = 3 ∨ i = 4 ∨ i = 5 ∨ i = 6 ∨ i = 7 ∨ i = 8 ∨ i = 9 := by omega
        rcases hi' with rfl | rfl | rfl | rfl | rfl | rfl | rfl | rfl | rfl | rfl
        · cases hl
        · cases hl
        · obtain rfl := Option.some.inj ho; go_simp
          refine (rat15_any p d _ hp hd).mono ?_
          rintro e w' ⟨⟨na, B, l, da, C, k, q, rfl, hz, hq⟩, hb⟩
          exact hK.out _ _ ⟨_, _, _, _, _, hB.call hb 0 ⟨_, _, _, _, _, _, _, rfl, hz, hq⟩, rfl, rfl⟩
        · cases hl
        · cases hl
        · obtain rfl := Option.some.inj ho; go_simp
          refine (rat15_any p' d' _ hp' hd').mono ?_
          rintro e w' ⟨⟨na, B, l, da, C, k, q, rfl, hz, hq⟩, hb⟩
          exact hK.out _ _ ⟨_, _, _, _, _, hB.call hb 1 ⟨_, _, _, _, _, _, _, rfl, hz, hq⟩, rfl, rfl⟩
        · obtain rfl := Option.some.inj ho; go_simp
          exact hK.out _ _ ⟨_, _, _, _, _, hB.alloc 0 hl, rfl, rfl⟩
        · obtain rfl := Option.some.inj ho; go_simp
          exact hK.out _ _ ⟨_, _, _, _, _, hB.alloc 1 hl, rfl, rfl⟩
        · obtain rfl := Option.some.inj ho; have hm := hdp ⟨6, .data⟩ (Array.mem_of_getElem? (i := 0) rfl) (by decide +kernel); have hc := hdp ⟨2, .data⟩ (Array.mem_of_getElem? (i := 1) rfl) (by decide +kernel); obtain ⟨n, B, l, d, C, k, q, e1, hz, hq⟩ := hB.r 0 hc; obtain ⟨g, _, _, _, _, _, _, _, _, _, e2, hgk, hR, _⟩ := hB.o 0 hm; have hBs := hB.store 0 hm e2 hz hq; simp only [e1, e2]; have r0 := hR.c0; have r1 := hR.c1; have r2 := hR.c2; have r3 := hR.f0; have r4 := hR.f1; have r5 := hR.f2; go_simp; exact hK.out _ _ ⟨_, _, _, _, _, hBs, rfl, by simp only [e1, e2]⟩
        · obtain rfl := Option.some.inj ho; have hm := hdp ⟨7, .data⟩ (Array.mem_of_getElem? (i := 0) rfl) (by decide +kernel); have hc := hdp ⟨5, .data⟩ (Array.mem_of_getElem? (i := 1) rfl) (by decide +kernel); obtain ⟨n, B, l, d, C, k, q, e1, hz, hq⟩ := hB.r 1 hc; obtain ⟨g, _, _, _, _, _, _, _, _, _, e2, hgk, hR, _⟩ := hB.o 1 hm; have hBs := hB.store 1 hm e2 hz hq; simp only [e1, e2]; have r0 := hR.c0; have r1 := hR.c1; have r2 := hR.c2; have r3 := hR.f0; have r4 := hR.f1; have r5 := hR.f2; go_simp; exact hK.out _ _ ⟨_, _, _, _, _, hBs, rfl, by simp only [e1, e2]⟩
      · rintro listed a wz ⟨c, m, s, v, u, hB, rfl, rfl⟩ hr
        have hall := ready_nil_all (by kernel_rfl) rfl hr
        have m0 : m 0 = true := hall 6 (by simp)
        have m1 : m 1 = true := hall 7 (by simp)
        have s0 : s 0 = true := hall 8 (by simp)
        have s1 : s 1 = true := hall 9 (by simp)
        obtain ⟨g0, n0, B0, l4, c4, C0, m0', d0, z0, q0, e0, _, R0, f0⟩ := hB.o 0 m0
        obtain ⟨g1, n1, B1, l5, c5, C1, m1', d1', z1, q1, e1, _, R1, f1⟩ := hB.o 1 m1
        obtain ⟨hz0, hq0⟩ := f0 s0
        obtain ⟨hz1, hq1⟩ := f1 s1
        replace hz0 : z0 = rtz p d := hz0
        replace hz1 : z1 = rtz p' d' := hz1
        replace hq0 : q0 = rtq p d := hq0
        replace hq1 : q1 = rtq p' d' := hq1
        have hb3 : Below w2.heap.size w2 wz := (Below.trans (by (repeat (first | exact Below.refl _ _ | refine Below.drew ?_ | refine Below.alloc ?_ (by first | (simp; done) | (simp; omega) | omega) _ | refine Below.setCell ?_ (by first | (simp; done) | (simp; omega) | omega) _))) (hB.b.mono (by simp <;> omega)))
        simp only [e0, e1]
        generalize v 0 = y0
        generalize v 1 = y1
        clear hall m0 m1 s0 s1 f0 f1 e0 e1 hB hr hHeld k0 k1 k2 k3 c m s v u HT
        obtain ⟨w3, hw3⟩ : ∃ w3, w3 = wz := ⟨_, rfl⟩
        rw [← hw3] at R0 R1 hb3 ⊢
        replace HF := Lib.hid (HF.out.below ikN hb3)
        replace Hb := Lib.hid (Hb.out.trans (hb3.mono Hb.out.size))
        have Hz0 := Lib.hid hz0
        have Hz1 := Lib.hid hz1
        have Hq0 := Lib.hid hq0
        have Hq1 := Lib.hid hq1
        clear hb3 hw3 hz0 hz1 hq0 hq1 hgw
        obtain ⟨f, hf⟩ : ∃ f, f = ptrim (cs.take 7) := ⟨_, rfl⟩
        rw [← hf] at HF
        have tf : ptrim f = f := by rw [hf, ptrim_ptrim]
        have ht : Tiny 32768 f := by
          rw [hf]
          exact Tiny.trim (tiny_of fun c hc => by have := hcs c (List.mem_of_mem_take hc); omega)
        have hl7 : f.length ≤ 7 := by rw [hf, ptrim_length]; exact Nat.le_trans (plen_le _) (by rw [List.length_take]; omega)
        have fF : FitP f := by rw [hf]; exact (fitp_i16 (fun c hc => hcs c (List.mem_of_mem_take hc))).trim
        have hll := HF.out.length
        clear hf hcs
        replace R0 := Lib.hid R0
        replace R1 := Lib.hid R1
        have j0 := R0.out.c0
        have j1 := R0.out.c1
        have j2 := R0.out.c2
        have j3 := R1.out.c0
        have j4 := R1.out.c1
        have j5 := R1.out.c2
        obtain ⟨_, _, _, _, zb0, qp0, qb0⟩ := rt_bd hp hd
        rw [← Hz0.out] at zb0
        rw [← Hq0.out] at qp0 qb0
        obtain ⟨_, _, _, _, zb1, qp1, qb1⟩ := rt_bd hp' hd'
        rw [← Hz1.out] at zb1
        rw [← Hq1.out] at qp1 qb1
        have hzq : z0 * (q1 : Int) < z1 * (q0 : Int) := by rw [Hz0.out, Hz1.out, Hq0.out, Hq1.out]; exact rt_less hp hd hp' hd' Hlt.out
        have u0 : U64 z0.natAbs := by unfold U64; rw [BB_eq]; omega
        have u1 : U64 z1.natAbs := by unfold U64; rw [BB_eq]; omega
        have v0 : q0 < BB := by rw [BB_eq]; omega
        have v1 : q1 < BB := by rw [BB_eq]; omega
        have hpl7 : plen f ≤ 7 := Nat.le_trans (plen_le f) hl7
        have hok : MobOK f q0 q1 z0 z1 := mobok_small hpl7 (fun j => Nat.le_trans (ht j) (by omega)) zb0 qp0 qb0 zb1 qp1 qb1
        have HZQ := Lib.hid hzq
        have TF := Lib.hid tf
        have sF : SmP f := fF.smp
        have hl2 : l2 ≤ 900000 := by omega
        have hfl : f.length = plen f := by rw [← ptrim_length, tf]
        have HFL := Lib.hid hfl
        clear tf hll hzq hfl
        go_wp2_with fail
        refine (mobius_any ikN _ _ _ _ _ _ _ _ _ _ _ _ _ _ _ _ _ _ _ _ _ _ _ HF.out hl2 fF R0.out.hz R0.out.hq R1.out.hz R1.out.hq u0 v0 qp0 u1 v1 qp1 hok).mono ?_
        rintro e w4 ⟨A4, k4, h4, rfl, hm, hb4⟩
        have fM := pmobius_fit hok
        have tM := pmobius_trim f q0 q1 z0 z1
        have lM := pmobius_len (f := f) q0 q1 z0 z1
        obtain ⟨M, hM⟩ : ∃ M, M = pmobius f q0 q1 z0 z1 := ⟨_, rfl⟩
        rw [← hM] at hm fM tM lM
        have HMe := Lib.hid hM
        have HM := Lib.hid hm
        have TM := Lib.hid tM
        have sM : SmP M := fM.smp
        have hk4 : k4 = plen M := by rw [← hm.length, ← ptrim_length, tM]
        have hk47 : k4 ≤ 7 := by omega
        replace R0 := Lib.hid (R0.out.move hb4)
        replace R1 := Lib.hid (R1.out.move hb4)
        replace HF := Lib.hid (HF.out.below ikN hb4)
        replace Hb := Lib.hid (Hb.out.trans (hb4.mono Hb.out.size))
        have HK4 := Lib.hid hk4
        clear hM hm tM hb4 j0 j1 j2 j3 j4 j5 hk4
        go_wp2_with fail
        refine (degree_any _ _ _ _ _ (HF.out.at_ ikN) sF (by omega)).mono ?_
        rintro e w5 ⟨rfl, hb5⟩
        obtain ⟨Lf, hLf⟩ : ∃ L, L = plen f := ⟨_, rfl⟩
        rw [← hLf]
        have HL := Lib.hid hLf
        replace HM := Lib.hid (HM.out.below ikN hb5)
        replace R0 := Lib.hid (R0.out.move hb5)
        replace R1 := Lib.hid (R1.out.move hb5)
        replace HF := Lib.hid (HF.out.below ikN hb5)
        replace Hb := Lib.hid (Hb.out.trans (hb5.mono Hb.out.size))
        clear hb5 hLf
        by_cases hL0 : Lf = 0
        · have hd0 : decide ((Lf : Int) - 1 < 0) = true := by rw [hL0]; rfl
          have hM0 : plen M = 0 := by rw [HMe.out, pmobius_zero _ _ _ _ (by rw [← HL.out]; exact hL0)]; rfl
          have HM0 := Lib.hid hM0
          clear hL0 hM0
          go_wp2_with fail
          refine (degree_any _ _ _ _ _ (HM.out.at_ ikN) sM (by omega)).mono ?_
          rintro e w6 ⟨rfl, hb6⟩
          rw [HM0.out]
          replace Hb := Lib.hid (Hb.out.trans (hb6.mono Hb.out.size))
          clear hb6
          go_wp2
          go_ret
          exact ⟨rfl, Hb.out⟩
        · have hd0 : decide ((Lf : Int) - 1 < 0) = false := by simp; omega
          have HL0 := Lib.hid hL0
          clear hL0
          have hne : plen f ≠ 0 := by rw [← HL.out]; exact HL0.out
          have bS : ∀ j, ((psc n f).getD j 0).natAbs ≤ 1073741824 := fun j => by
            rw [psc_get, Int.natAbs_mul]
            exact Nat.le_trans (Nat.mul_le_mul (show n.natAbs ≤ 32768 by omega) (ht j)) (by omega)
          have lS : (psc n f).length = f.length := by unfold psc; rw [List.length_map]
          have pS : plen (psc n f) ≤ 7 := by have := plen_le (psc n f); omega
          have fS0 : FitP (psc n f) := fun j => Nat.lt_of_le_of_lt (bS j) (by rw [BB_eq]; decide)
          have fS : FitP (ptrim (psc n f)) := fS0.trim
          have sS : SmP (psc n f) := fS0.smp
          have fn : Fit n := Nat.lt_of_le_of_lt (show n.natAbs ≤ 32768 by omega) (by rw [BB_eq]; decide)
          have sn : SmI n := fn.sm
          have mk : ∀ k, MulOK n.natAbs (f.getD k 0).natAbs := fun k => fn.mulok _
          have hok' : MobOK (ptrim (psc n f)) q0 q1 z0 z1 := mobok_small (by rw [plen_ptrim]; exact pS) (fun j => by rw [ptrim_getD]; exact bS j) zb0 qp0 qb0 zb1 qp1 qb1
          have sM' : SmP (pmobius (ptrim (psc n f)) q0 q1 z0 z1) := (pmobius_fit hok').smp
          have TM' := Lib.hid (pmobius_trim (ptrim (psc n f)) q0 q1 z0 z1)
          have lM' : plen (pmobius (ptrim (psc n f)) q0 q1 z0 z1) ≤ 7 := by have := pmobius_len (f := ptrim (psc n f)) q0 q1 z0 z1; rw [plen_ptrim] at this; omega
          have ESame := mov_same hne TF.out qp0 qp1 HZQ.out Hn0.out
          have ECont := mov_cont hne TF.out qp0 qp1 HZQ.out
          rw [← HMe.out] at ESame ECont
          have ECm : Hid (cmpz ((pcont M : Nat) : Int) 1 = 0) := Lib.hid (by rw [ECont]; rfl)
          have sc1 : SmI ((pcont M : Nat) : Int) := by rw [ECont]; exact (fit_unit (by decide)).sm
          have so1 : SmI 1 := (fit_unit (by decide)).sm
          have In : I64 n := by unfold I64; omega
          have I1 : I64 1 := by unfold I64; omega
          obtain ⟨dM, hdM⟩ : ∃ x : Int, x = ((plen M : Nat) : Int) - 1 := ⟨_, rfl⟩
          obtain ⟨dF, hdF⟩ : ∃ x : Int, x = ((plen f : Nat) : Int) - 1 := ⟨_, rfl⟩
          have hgtr : decide (dF < dM) = false := by rw [decide_eq_false_iff_not]; omega
          have EdM := Lib.hid hdM.symm
          have EdF := Lib.hid hdF.symm
          clear hdM hdF
          have wn : IntKind.i64.wrap n = n := IntWalk.i64_in _ (by omega)
          obtain ⟨zm, hzm⟩ : ∃ x, x = (z0 * (q1 : Int) + z1 * (q0 : Int)).tdiv (Nat.gcd (z0 * (q1 : Int) + z1 * (q0 : Int)).natAbs (q0 * q1 * 2)) := ⟨_, rfl⟩
          obtain ⟨qm, hqm⟩ : ∃ x, x = q0 * q1 * 2 / Nat.gcd (z0 * (q1 : Int) + z1 * (q0 : Int)).natAbs (q0 * q1 * 2) := ⟨_, rfl⟩
          obtain ⟨zmb, qmp, qmb⟩ := mid_bd zb0 zb1 qp0 qp1 qb0 qb1 hzm hqm
          obtain ⟨_, _, _, _, rzb, rqp, rqb⟩ := red_facts zm qmp
          obtain ⟨_, _, _, _, rzb0, rqp0, rqb0⟩ := red_facts z0 qp0
          have bM : ∀ j, (M.getD j 0).natAbs ≤ 1073741824 * 7 * 4194304 ^ 6 := by rw [HMe.out]; exact pmobius_bound hpl7 (fun j => Nat.le_trans (ht j) (by omega)) zb0 qb0 zb1 qb1
          have bf : ∀ j, (f.getD j 0).natAbs ≤ 1073741824 * 7 * 4194304 ^ 6 := fun j => Nat.le_trans (ht j) (by omega)
          have fit4 : ∀ x : Int, x.natAbs ≤ 4194304 → Fit x := fun x hx => Nat.lt_of_le_of_lt hx (by rw [BB_eq]; decide)
          have SC1 : ScOK M ((1 : Int).tdiv (Nat.gcd (1 : Int).natAbs 1)) ((1 / Nat.gcd (1 : Int).natAbs 1 : Nat) : Int) := scok_small (by omega) bM (by decide) (by decide)
          have SC0 : ScOK M ((0 : Int).tdiv (Nat.gcd (0 : Int).natAbs 1)) ((1 / Nat.gcd (0 : Int).natAbs 1 : Nat) : Int) := scok_small (by omega) bM (by decide) (by decide)
          have Cm : ScOK f (zm.tdiv (Nat.gcd zm.natAbs qm)) ((qm / Nat.gcd zm.natAbs qm : Nat) : Int) := scok_small hpl7 bf (by omega) (by omega)
          have Cl : ScOK f (z0.tdiv (Nat.gcd z0.natAbs q0)) ((q0 / Nat.gcd z0.natAbs q0 : Nat) : Int) := scok_small hpl7 bf (by omega) (by omega)
          have F1 : Fit ((1 : Int).tdiv (Nat.gcd (1 : Int).natAbs 1)) := fit4 _ (by decide)
          have F1' : Fit ((1 / Nat.gcd (1 : Int).natAbs 1 : Nat) : Int) := fit4 _ (by decide)
          have F0 : Fit ((0 : Int).tdiv (Nat.gcd (0 : Int).natAbs 1)) := fit4 _ (by decide)
          have F0' : Fit ((1 / Nat.gcd (0 : Int).natAbs 1 : Nat) : Int) := fit4 _ (by decide)
          have Fm : Fit (zm.tdiv (Nat.gcd zm.natAbs qm)) := fit4 _ (by omega)
          have Fm' : Fit ((qm / Nat.gcd zm.natAbs qm : Nat) : Int) := fit4 _ (by omega)
          have Fl : Fit (z0.tdiv (Nat.gcd z0.natAbs q0)) := fit4 _ (by omega)
          have Fl' : Fit ((q0 / Nat.gcd z0.natAbs q0 : Nat) : Int) := fit4 _ (by omega)
          have Fz0 : Fit z0 := fit4 _ (by omega)
          have Fz1 : Fit z1 := fit4 _ (by omega)
          have Fq0 : Fit (q0 : Int) := fit4 _ (by omega)
          have Fq1 : Fit (q1 : Int) := fit4 _ (by omega)
          have um : U64 zm.natAbs := by unfold U64; rw [BB_eq]; omega
          have vm : qm < BB := by rw [BB_eq]; omega
          have U1 : U64 (1 : Int).natAbs := by unfold U64; rw [BB_eq]; decide
          have U0 : U64 (0 : Int).natAbs := by unfold U64; rw [BB_eq]; decide
          have V1 : 1 < BB := by rw [BB_eq]; omega
          have P1 : 0 < 1 := by omega
          have I0 : I64 0 := by unfold I64; omega
          have X1 := mov_mid2 hne TF.out qp0 qp1 HZQ.out hzm hqm
          have X0 := mov_lo2 hne TF.out qp0 qp1 HZQ.out
          rw [← HMe.out] at X1 X0
          obtain ⟨T1, hT1⟩ : ∃ x, x = sg (sval M 1 1) := ⟨_, rfl⟩
          obtain ⟨T0, hT0⟩ : ∃ x, x = sg (sval M 0 1) := ⟨_, rfl⟩
          rw [← hT1] at X1
          rw [← hT0] at X0
          have Y1 : Hid (sg (sval M ((1 : Int).tdiv (Nat.gcd (1 : Int).natAbs 1)) ((1 / Nat.gcd (1 : Int).natAbs 1 : Nat) : Int)) = T1) := Lib.hid hT1.symm
          have Y0 : Hid (sg (sval M ((0 : Int).tdiv (Nat.gcd (0 : Int).natAbs 1)) ((1 / Nat.gcd (0 : Int).natAbs 1 : Nat) : Int)) = T0) := Lib.hid hT0.symm
          have Ym := Lib.hid X1.symm
          have Yl := Lib.hid X0.symm
          have Hzm := Lib.hid hzm
          have Hqm := Lib.hid hqm
          clear X1 X0 hT1 hT0 hzm hqm bM bf
          have HES := Lib.hid ESame
          clear ESame ECont hne bS
          by_cases hneg : n < 0
          · have dn : decide (n < 0) = true := by simpa using hneg
            have HE0 := HES.out
            rw [if_pos hneg] at HE0
            obtain ⟨W, hW⟩ : ∃ W, W = pmn (ptrim M) := ⟨_, rfl⟩
            rw [← hW] at HE0
            have EW : Hid (decide (ptrim (pmobius (ptrim (psc n f)) q0 q1 z0 z1) = ptrim W) = true) := Lib.hid (decide_eq_true HE0)
            clear hneg HE0
            go_wp2_with fail
            refine (polyneg_any ikN _ _ _ M _ HM.out sM (by omega)).mono ?_
            rintro e w6 ⟨A6, k6, h6, rfl, hp6, hb6⟩
            rw [← hW] at hp6
            have hk6 : k6 ≤ 7 := by have := hp6.length; rw [hW, pmn_length, ptrim_length] at this; omega
            have sW : SmP W := by
              rw [hW]
              intro c hc
              obtain ⟨x, hx, rfl⟩ := List.mem_map.1 hc
              have h1 := sM.ptrim x hx
              unfold SmI at h1 ⊢
              rw [Int.natAbs_neg]
              exact h1
            have HW := Lib.hid hp6
            replace HM := Lib.hid (HM.out.below ikN hb6)
            replace HF := Lib.hid (HF.out.below ikN hb6)
            replace R0 := Lib.hid (R0.out.move hb6)
            replace R1 := Lib.hid (R1.out.move hb6)
            replace Hb := Lib.hid (Hb.out.trans (hb6.mono Hb.out.size))
            clear hp6 hb6 hW
            go_wp2_with fail
            obtain ⟨wB, hwB⟩ : ∃ wB, wB = w6 := ⟨_, rfl⟩
            rw [← hwB] at HW HM HF R0 R1 Hb ⊢
            clear hwB
            have G40 : Hid (Below wB.heap.size wB wB) := Lib.hid (Below.refl _ _)
            have j0 := R0.out.c0
            have j1 := R0.out.c1
            have j2 := R0.out.c2
            have j3 := R1.out.c0
            have j4 := R1.out.c1
            have j5 := R1.out.c2
            go_region_held3 (fun w' => w'.cell? ⟨g0, 0, none⟩ = some (.bool n0) ∧ w'.cell? ⟨g0, 1, none⟩ = some (.slice B0 l4 c4) ∧ w'.cell? ⟨g0, 2, none⟩ = some (.slice C0 m0' d0) ∧ w'.cell? ⟨g1, 0, none⟩ = some (.bool n1) ∧ w'.cell? ⟨g1, 1, none⟩ = some (.slice B1 l5 c5) ∧ w'.cell? ⟨g1, 2, none⟩ = some (.slice C1 m1' d1')) (go_keep) (first
              | (go_at_call 29; (have _hx := G48); go_must (refine (icmp_any _ _ _ _ ((pcont M : Nat) : Int) _ _ _ _ 1 _ ?_ ?_ sc1 so1).mono ?_; (exact ((H47.out.below (Below.trans (by (repeat (first | exact Below.refl _ _ | refine Below.drew ?_ | refine Below.alloc ?_ (by first | (simp; done) | (simp; omega) | omega) _ | refine Below.setCell ?_ (by first | (simp; done) | (simp; omega) | omega) _))) (hbx48.mono (by simp <;> omega)))).below (by (repeat (first | exact Below.refl _ _ | refine Below.drew ?_ | refine Below.alloc ?_ (by first | (simp; done) | (simp; omega) | omega) _ | refine Below.setCell ?_ (by first | (simp; done) | (simp; omega) | omega) _)))).at_); (exact (Hz48.out.below (by (repeat (first | exact Below.refl _ _ | refine Below.drew ?_ | refine Below.alloc ?_ (by first | (simp; done) | (simp; omega) | omega) _ | refine Below.setCell ?_ (by first | (simp; done) | (simp; omega) | omega) _)))).at_); rintro e w49 ⟨rfl, hb49⟩; rw [ECm.out]; have G49 : Hid (Below wB.heap.size wB w49) := Lib.hid (G48.out.trans ((Below.trans (by (repeat (first | exact Below.refl _ _ | refine Below.drew ?_ | refine Below.alloc ?_ (by first | (simp; done) | (simp; omega) | omega) _ | refine Below.setCell ?_ (by first | (simp; done) | (simp; omega) | omega) _))) (hb49.mono (by simp <;> omega))).mono G48.out.size)); have j0_49 := (R0.out.move G49.out).c0; have j1_49 := (R0.out.move G49.out).c1; have j2_49 := (R0.out.move G49.out).c2; have j3_49 := (R1.out.move G49.out).c0; have j4_49 := (R1.out.move G49.out).c1; have j5_49 := (R1.out.move G49.out).c2; clear hb49))
              | (go_at_call 17; (have _hx := G47); go_must (refine (iof_any 1 _ I1).mono ?_; rintro e w48 ⟨na48, Aa48, la48, ca48, rfl, hz48, hb48⟩; have Hz48 := Lib.hid hz48; have hbx48 := hb48; clear hz48; have G48 : Hid (Below wB.heap.size wB w48) := Lib.hid (G47.out.trans ((Below.trans (by (repeat (first | exact Below.refl _ _ | refine Below.drew ?_ | refine Below.alloc ?_ (by first | (simp; done) | (simp; omega) | omega) _ | refine Below.setCell ?_ (by first | (simp; done) | (simp; omega) | omega) _))) (hb48.mono (by simp <;> omega))).mono G47.out.size)); have j0_48 := (R0.out.move G48.out).c0; have j1_48 := (R0.out.move G48.out).c1; have j2_48 := (R0.out.move G48.out).c2; have j3_48 := (R1.out.move G48.out).c0; have j4_48 := (R1.out.move G48.out).c1; have j5_48 := (R1.out.move G48.out).c2; clear hb48))
              | (go_at_call 30; (have _hx := G46); go_must (refine (content_any ikN _ _ _ M _ ?_ sM (by omega)).mono ?_; (exact ((HM.out.below ikN G46.out).below ikN (by (repeat (first | exact Below.refl _ _ | refine Below.drew ?_ | refine Below.alloc ?_ (by first | (simp; done) | (simp; omega) | omega) _ | refine Below.setCell ?_ (by first | (simp; done) | (simp; omega) | omega) _))))); rintro e w47 ⟨n47, A47, l47, c47, rfl, h47, hb47⟩; have H47 := Lib.hid h47; clear h47; have G47 : Hid (Below wB.heap.size wB w47) := Lib.hid (G46.out.trans ((Below.trans (by (repeat (first | exact Below.refl _ _ | refine Below.drew ?_ | refine Below.alloc ?_ (by first | (simp; done) | (simp; omega) | omega) _ | refine Below.setCell ?_ (by first | (simp; done) | (simp; omega) | omega) _))) (hb47.mono (by simp <;> omega))).mono G46.out.size)); have j0_47 := (R0.out.move G47.out).c0; have j1_47 := (R0.out.move G47.out).c1; have j2_47 := (R0.out.move G47.out).c2; have j3_47 := (R1.out.move G47.out).c0; have j4_47 := (R1.out.move G47.out).c1; have j5_47 := (R1.out.move G47.out).c2; clear hb47))
              | (go_at_call 14; (have _hx := G45); go_must (refine (degree_any _ _ _ f _ ?_ sF (by omega)).mono ?_; (exact ((HF.out.below ikN G45.out).below ikN (by (repeat (first | exact Below.refl _ _ | refine Below.drew ?_ | refine Below.alloc ?_ (by first | (simp; done) | (simp; omega) | omega) _ | refine Below.setCell ?_ (by first | (simp; done) | (simp; omega) | omega) _)))).at_ ikN); rintro e w46 ⟨rfl, hb46⟩; rw [EdF.out]; have G46 : Hid (Below wB.heap.size wB w46) := Lib.hid (G45.out.trans ((Below.trans (by (repeat (first | exact Below.refl _ _ | refine Below.drew ?_ | refine Below.alloc ?_ (by first | (simp; done) | (simp; omega) | omega) _ | refine Below.setCell ?_ (by first | (simp; done) | (simp; omega) | omega) _))) (hb46.mono (by simp <;> omega))).mono G45.out.size)); have j0_46 := (R0.out.move G46.out).c0; have j1_46 := (R0.out.move G46.out).c1; have j2_46 := (R0.out.move G46.out).c2; have j3_46 := (R1.out.move G46.out).c0; have j4_46 := (R1.out.move G46.out).c1; have j5_46 := (R1.out.move G46.out).c2; clear hb46))
              | (go_at_call 14; (have _hx := G44); go_must (refine (degree_any _ _ _ M _ ?_ sM (by omega)).mono ?_; (exact ((HM.out.below ikN G44.out).below ikN (by (repeat (first | exact Below.refl _ _ | refine Below.drew ?_ | refine Below.alloc ?_ (by first | (simp; done) | (simp; omega) | omega) _ | refine Below.setCell ?_ (by first | (simp; done) | (simp; omega) | omega) _)))).at_ ikN); rintro e w45 ⟨rfl, hb45⟩; rw [EdM.out]; have G45 : Hid (Below wB.heap.size wB w45) := Lib.hid (G44.out.trans ((Below.trans (by (repeat (first | exact Below.refl _ _ | refine Below.drew ?_ | refine Below.alloc ?_ (by first | (simp; done) | (simp; omega) | omega) _ | refine Below.setCell ?_ (by first | (simp; done) | (simp; omega) | omega) _))) (hb45.mono (by simp <;> omega))).mono G44.out.size)); have j0_45 := (R0.out.move G45.out).c0; have j1_45 := (R0.out.move G45.out).c1; have j2_45 := (R0.out.move G45.out).c2; have j3_45 := (R1.out.move G45.out).c0; have j4_45 := (R1.out.move G45.out).c1; have j5_45 := (R1.out.move G45.out).c2; clear hb45))
              | (go_at_call 22; (have _hx := G43); go_must (refine (same_any ikN ikN _ _ _ _ _ _ _ _ _ ?_ ?_ sM' sW (by omega) (by omega)).mono ?_; (exact H43.out.below ikN (by (repeat (first | exact Below.refl _ _ | refine Below.drew ?_ | refine Below.alloc ?_ (by first | (simp; done) | (simp; omega) | omega) _ | refine Below.setCell ?_ (by first | (simp; done) | (simp; omega) | omega) _)))); (exact ((HW.out.below ikN G43.out).below ikN (by (repeat (first | exact Below.refl _ _ | refine Below.drew ?_ | refine Below.alloc ?_ (by first | (simp; done) | (simp; omega) | omega) _ | refine Below.setCell ?_ (by first | (simp; done) | (simp; omega) | omega) _))))); rintro e w44 ⟨rfl, hb44⟩; rw [EW.out]; have G44 : Hid (Below wB.heap.size wB w44) := Lib.hid (G43.out.trans ((Below.trans (by (repeat (first | exact Below.refl _ _ | refine Below.drew ?_ | refine Below.alloc ?_ (by first | (simp; done) | (simp; omega) | omega) _ | refine Below.setCell ?_ (by first | (simp; done) | (simp; omega) | omega) _))) (hb44.mono (by simp <;> omega))).mono G43.out.size)); have j0_44 := (R0.out.move G44.out).c0; have j1_44 := (R0.out.move G44.out).c1; have j2_44 := (R0.out.move G44.out).c2; have j3_44 := (R1.out.move G44.out).c0; have j4_44 := (R1.out.move G44.out).c1; have j5_44 := (R1.out.move G44.out).c2; clear hb44))
              | (go_at_call 23; (have _hx := G42); go_must (refine (mobius_any ikN _ _ _ _ _ _ _ _ _ _ _ _ _ _ _ _ _ _ _ _ _ _ _ ?_ ?_ fS ?_ ?_ ?_ ?_ u0 v0 qp0 u1 v1 qp1 hok').mono ?_; (exact H42.out.below ikN (by (repeat (first | exact Below.refl _ _ | refine Below.drew ?_ | refine Below.alloc ?_ (by first | (simp; done) | (simp; omega) | omega) _ | refine Below.setCell ?_ (by first | (simp; done) | (simp; omega) | omega) _)))); omega; (exact (R0.out.move G42.out).hz.below (by (repeat (first | exact Below.refl _ _ | refine Below.drew ?_ | refine Below.alloc ?_ (by first | (simp; done) | (simp; omega) | omega) _ | refine Below.setCell ?_ (by first | (simp; done) | (simp; omega) | omega) _)))); (exact (R0.out.move G42.out).hq.below (by (repeat (first | exact Below.refl _ _ | refine Below.drew ?_ | refine Below.alloc ?_ (by first | (simp; done) | (simp; omega) | omega) _ | refine Below.setCell ?_ (by first | (simp; done) | (simp; omega) | omega) _)))); (exact (R1.out.move G42.out).hz.below (by (repeat (first | exact Below.refl _ _ | refine Below.drew ?_ | refine Below.alloc ?_ (by first | (simp; done) | (simp; omega) | omega) _ | refine Below.setCell ?_ (by first | (simp; done) | (simp; omega) | omega) _)))); (exact (R1.out.move G42.out).hq.below (by (repeat (first | exact Below.refl _ _ | refine Below.drew ?_ | refine Below.alloc ?_ (by first | (simp; done) | (simp; omega) | omega) _ | refine Below.setCell ?_ (by first | (simp; done) | (simp; omega) | omega) _)))); rintro e w43 ⟨A43, k43, c43, rfl, h43, hb43⟩; have hk43 : k43 ≤ 7 := (by have := h43.length; rw [← TM'.out, ptrim_length] at this; omega); have H43 := Lib.hid h43; clear h43; have G43 : Hid (Below wB.heap.size wB w43) := Lib.hid (G42.out.trans ((Below.trans (by (repeat (first | exact Below.refl _ _ | refine Below.drew ?_ | refine Below.alloc ?_ (by first | (simp; done) | (simp; omega) | omega) _ | refine Below.setCell ?_ (by first | (simp; done) | (simp; omega) | omega) _))) (hb43.mono (by simp <;> omega))).mono G42.out.size)); have j0_43 := (R0.out.move G43.out).c0; have j1_43 := (R0.out.move G43.out).c1; have j2_43 := (R0.out.move G43.out).c2; have j3_43 := (R1.out.move G43.out).c0; have j4_43 := (R1.out.move G43.out).c1; have j5_43 := (R1.out.move G43.out).c2; clear hb43))
              | (go_at_call 28; (have _hx := G41); go_must (refine (scale_any ikN _ _ _ f _ _ _ _ n _ ?_ ?_ sF sn mk sS (by omega)).mono ?_; (exact ((HF.out.below ikN G41.out).below ikN (by (repeat (first | exact Below.refl _ _ | refine Below.drew ?_ | refine Below.alloc ?_ (by first | (simp; done) | (simp; omega) | omega) _ | refine Below.setCell ?_ (by first | (simp; done) | (simp; omega) | omega) _))))); (exact Hz41.out.below (by (repeat (first | exact Below.refl _ _ | refine Below.drew ?_ | refine Below.alloc ?_ (by first | (simp; done) | (simp; omega) | omega) _ | refine Below.setCell ?_ (by first | (simp; done) | (simp; omega) | omega) _)))); rintro e w42 ⟨A42, k42, c42, rfl, h42, hb42⟩; have hk42 : k42 ≤ 7 := (by have := h42.length; rw [ptrim_length] at this; omega); have H42 := Lib.hid h42; clear h42; have G42 : Hid (Below wB.heap.size wB w42) := Lib.hid (G41.out.trans ((Below.trans (by (repeat (first | exact Below.refl _ _ | refine Below.drew ?_ | refine Below.alloc ?_ (by first | (simp; done) | (simp; omega) | omega) _ | refine Below.setCell ?_ (by first | (simp; done) | (simp; omega) | omega) _))) (hb42.mono (by simp <;> omega))).mono G41.out.size)); have j0_42 := (R0.out.move G42.out).c0; have j1_42 := (R0.out.move G42.out).c1; have j2_42 := (R0.out.move G42.out).c2; have j3_42 := (R1.out.move G42.out).c0; have j4_42 := (R1.out.move G42.out).c1; have j5_42 := (R1.out.move G42.out).c2; clear hb42))
              | (go_at_call 17; (have _hx := G40); go_must (refine (iof_any n _ In).mono ?_; rintro e w41 ⟨na41, Aa41, la41, ca41, rfl, hz41, hb41⟩; have Hz41 := Lib.hid hz41; have hbx41 := hb41; clear hz41; have G41 : Hid (Below wB.heap.size wB w41) := Lib.hid (G40.out.trans ((Below.trans (by (repeat (first | exact Below.refl _ _ | refine Below.drew ?_ | refine Below.alloc ?_ (by first | (simp; done) | (simp; omega) | omega) _ | refine Below.setCell ?_ (by first | (simp; done) | (simp; omega) | omega) _))) (hb41.mono (by simp <;> omega))).mono G40.out.size)); have j0_41 := (R0.out.move G41.out).c0; have j1_41 := (R0.out.move G41.out).c1; have j2_41 := (R0.out.move G41.out).c2; have j3_41 := (R1.out.move G41.out).c0; have j4_41 := (R1.out.move G41.out).c1; have j5_41 := (R1.out.move G41.out).c2; clear hb41)))
            rename_i hHeld
            clear hHeld
            replace R0 := Lib.hid (R0.out.move G49.out)
            replace R1 := Lib.hid (R1.out.move G49.out)
            replace HM := Lib.hid (HM.out.below ikN G49.out)
            replace HF := Lib.hid (HF.out.below ikN G49.out)
            replace Hb := Lib.hid (Hb.out.trans (G49.out.mono Hb.out.size))
            clear HW j0_41 j1_41 j2_41 j3_41 j4_41 j5_41 j0_42 j1_42 j2_42 j3_42 j4_42 j5_42 j0_43 j1_43 j2_43 j3_43 j4_43 j5_43 j0_44 j1_44 j2_44 j3_44 j4_44 j5_44 j0_45 j1_45 j2_45 j3_45 j4_45 j5_45 j0_46 j1_46 j2_46 j3_46 j4_46 j5_46 j0_47 j1_47 j2_47 j3_47 j4_47 j5_47 j0_48 j1_48 j2_48 j3_48 j4_48 j5_48 j0_49 j1_49 j2_49 j3_49 j4_49 j5_49 j0 j1 j2 j3 j4 j5 G40 G41 G42 G43 G44 G45 G46 G47 G48 G49
            clear H42 H43 H47 Hz41 Hz48 hbx41 hbx48
            obtain ⟨wB, hwB⟩ : ∃ wB, wB = w49 := ⟨_, rfl⟩
            rw [← hwB] at HM HF R0 R1 Hb ⊢
            clear hwB
            have G50 : Hid (Below wB.heap.size wB wB) := Lib.hid (Below.refl _ _)
            have j0 := R0.out.c0
            have j1 := R0.out.c1
            have j2 := R0.out.c2
            have j3 := R1.out.c0
            have j4 := R1.out.c1
            have j5 := R1.out.c2
            go_wp2_with fail
            go_region_held3 (fun w' => w'.cell? ⟨g0, 0, none⟩ = some (.bool n0) ∧ w'.cell? ⟨g0, 1, none⟩ = some (.slice B0 l4 c4) ∧ w'.cell? ⟨g0, 2, none⟩ = some (.slice C0 m0' d0) ∧ w'.cell? ⟨g1, 0, none⟩ = some (.bool n1) ∧ w'.cell? ⟨g1, 1, none⟩ = some (.slice B1 l5 c5) ∧ w'.cell? ⟨g1, 2, none⟩ = some (.slice C1 m1' d1')) (go_keep) (first
              | (go_at_call 12; (have _hx := G56); go_must (refine (signat_any ikN _ _ _ f _ _ _ _ _ _ _ _ _ _ ?_ (by assumption) (by omega) ?_ ?_ u0 v0 qp0 Cl Fl Fl').mono ?_; (exact ((HF.out.below ikN G56.out).below ikN (by (repeat (first | exact Below.refl _ _ | refine Below.drew ?_ | refine Below.alloc ?_ (by first | (simp; done) | (simp; omega) | omega) _ | refine Below.setCell ?_ (by first | (simp; done) | (simp; omega) | omega) _))))); (exact (R0.out.move G56.out).hz.below (by (repeat (first | exact Below.refl _ _ | refine Below.drew ?_ | refine Below.alloc ?_ (by first | (simp; done) | (simp; omega) | omega) _ | refine Below.setCell ?_ (by first | (simp; done) | (simp; omega) | omega) _)))); (exact (R0.out.move G56.out).hq.below (by (repeat (first | exact Below.refl _ _ | refine Below.drew ?_ | refine Below.alloc ?_ (by first | (simp; done) | (simp; omega) | omega) _ | refine Below.setCell ?_ (by first | (simp; done) | (simp; omega) | omega) _)))); rintro e w57 ⟨rfl, hb57⟩; rw [Yl.out]; have G57 : Hid (Below wB.heap.size wB w57) := Lib.hid (G56.out.trans ((Below.trans (by (repeat (first | exact Below.refl _ _ | refine Below.drew ?_ | refine Below.alloc ?_ (by first | (simp; done) | (simp; omega) | omega) _ | refine Below.setCell ?_ (by first | (simp; done) | (simp; omega) | omega) _))) (hb57.mono (by simp <;> omega))).mono G56.out.size)); have j0_57 := (R0.out.move G57.out).c0; have j1_57 := (R0.out.move G57.out).c1; have j2_57 := (R0.out.move G57.out).c2; have j3_57 := (R1.out.move G57.out).c0; have j4_57 := (R1.out.move G57.out).c1; have j5_57 := (R1.out.move G57.out).c2; clear hb57))
              | (go_at_call 12; (have _hx := G55); go_must (refine (signat_any ikN _ _ _ M _ _ _ _ _ _ _ _ _ _ ?_ (by assumption) (by omega) ?_ ?_ U0 V1 P1 SC0 F0 F0').mono ?_; (exact ((HM.out.below ikN G55.out).below ikN (by (repeat (first | exact Below.refl _ _ | refine Below.drew ?_ | refine Below.alloc ?_ (by first | (simp; done) | (simp; omega) | omega) _ | refine Below.setCell ?_ (by first | (simp; done) | (simp; omega) | omega) _))))); (exact Hz55.out.below (by (repeat (first | exact Below.refl _ _ | refine Below.drew ?_ | refine Below.alloc ?_ (by first | (simp; done) | (simp; omega) | omega) _ | refine Below.setCell ?_ (by first | (simp; done) | (simp; omega) | omega) _)))); (exact Hq55.out.below (by (repeat (first | exact Below.refl _ _ | refine Below.drew ?_ | refine Below.alloc ?_ (by first | (simp; done) | (simp; omega) | omega) _ | refine Below.setCell ?_ (by first | (simp; done) | (simp; omega) | omega) _)))); rintro e w56 ⟨rfl, hb56⟩; rw [Y0.out]; have G56 : Hid (Below wB.heap.size wB w56) := Lib.hid (G55.out.trans ((Below.trans (by (repeat (first | exact Below.refl _ _ | refine Below.drew ?_ | refine Below.alloc ?_ (by first | (simp; done) | (simp; omega) | omega) _ | refine Below.setCell ?_ (by first | (simp; done) | (simp; omega) | omega) _))) (hb56.mono (by simp <;> omega))).mono G55.out.size)); have j0_56 := (R0.out.move G56.out).c0; have j1_56 := (R0.out.move G56.out).c1; have j2_56 := (R0.out.move G56.out).c2; have j3_56 := (R1.out.move G56.out).c0; have j4_56 := (R1.out.move G56.out).c1; have j5_56 := (R1.out.move G56.out).c2; clear hb56))
              | (go_at_call 13; (have _hx := G54); go_must (refine (rof_any 0 _ I0).mono ?_; rintro e w55 ⟨⟨n55, A55, l55, c55, B55, m55, d55, rfl, hz55, hq55⟩, hb55⟩; have Hz55 := Lib.hid hz55; have Hq55 := Lib.hid hq55; clear hz55 hq55; have G55 : Hid (Below wB.heap.size wB w55) := Lib.hid (G54.out.trans ((Below.trans (by (repeat (first | exact Below.refl _ _ | refine Below.drew ?_ | refine Below.alloc ?_ (by first | (simp; done) | (simp; omega) | omega) _ | refine Below.setCell ?_ (by first | (simp; done) | (simp; omega) | omega) _))) (hb55.mono (by simp <;> omega))).mono G54.out.size)); have j0_55 := (R0.out.move G55.out).c0; have j1_55 := (R0.out.move G55.out).c1; have j2_55 := (R0.out.move G55.out).c2; have j3_55 := (R1.out.move G55.out).c0; have j4_55 := (R1.out.move G55.out).c1; have j5_55 := (R1.out.move G55.out).c2; clear hb55))
              | (go_at_call 12; (have _hx := G53); go_must (refine (signat_any ikN _ _ _ f _ _ _ _ _ _ _ _ _ _ ?_ (by assumption) (by omega) ?_ ?_ um vm qmp Cm Fm Fm').mono ?_; (exact ((HF.out.below ikN G53.out).below ikN (by (repeat (first | exact Below.refl _ _ | refine Below.drew ?_ | refine Below.alloc ?_ (by first | (simp; done) | (simp; omega) | omega) _ | refine Below.setCell ?_ (by first | (simp; done) | (simp; omega) | omega) _))))); (exact Hz53.out.below (by (repeat (first | exact Below.refl _ _ | refine Below.drew ?_ | refine Below.alloc ?_ (by first | (simp; done) | (simp; omega) | omega) _ | refine Below.setCell ?_ (by first | (simp; done) | (simp; omega) | omega) _)))); (exact Hq53.out.below (by (repeat (first | exact Below.refl _ _ | refine Below.drew ?_ | refine Below.alloc ?_ (by first | (simp; done) | (simp; omega) | omega) _ | refine Below.setCell ?_ (by first | (simp; done) | (simp; omega) | omega) _)))); rintro e w54 ⟨rfl, hb54⟩; rw [Ym.out]; have G54 : Hid (Below wB.heap.size wB w54) := Lib.hid (G53.out.trans ((Below.trans (by (repeat (first | exact Below.refl _ _ | refine Below.drew ?_ | refine Below.alloc ?_ (by first | (simp; done) | (simp; omega) | omega) _ | refine Below.setCell ?_ (by first | (simp; done) | (simp; omega) | omega) _))) (hb54.mono (by simp <;> omega))).mono G53.out.size)); have j0_54 := (R0.out.move G54.out).c0; have j1_54 := (R0.out.move G54.out).c1; have j2_54 := (R0.out.move G54.out).c2; have j3_54 := (R1.out.move G54.out).c0; have j4_54 := (R1.out.move G54.out).c1; have j5_54 := (R1.out.move G54.out).c2; clear hb54))
              | (go_at_call 31; (have _hx := G52); go_must (refine (mid_any _ _ _ _ _ _ _ _ _ _ _ _ _ _ _ _ _ _ _ ?_ ?_ ?_ ?_ Fz0 Fq0 qp0 Fz1 Fq1 qp1).mono ?_; (exact (R0.out.move G52.out).hz.below (by (repeat (first | exact Below.refl _ _ | refine Below.drew ?_ | refine Below.alloc ?_ (by first | (simp; done) | (simp; omega) | omega) _ | refine Below.setCell ?_ (by first | (simp; done) | (simp; omega) | omega) _)))); (exact (R0.out.move G52.out).hq.below (by (repeat (first | exact Below.refl _ _ | refine Below.drew ?_ | refine Below.alloc ?_ (by first | (simp; done) | (simp; omega) | omega) _ | refine Below.setCell ?_ (by first | (simp; done) | (simp; omega) | omega) _)))); (exact (R1.out.move G52.out).hz.below (by (repeat (first | exact Below.refl _ _ | refine Below.drew ?_ | refine Below.alloc ?_ (by first | (simp; done) | (simp; omega) | omega) _ | refine Below.setCell ?_ (by first | (simp; done) | (simp; omega) | omega) _)))); (exact (R1.out.move G52.out).hq.below (by (repeat (first | exact Below.refl _ _ | refine Below.drew ?_ | refine Below.alloc ?_ (by first | (simp; done) | (simp; omega) | omega) _ | refine Below.setCell ?_ (by first | (simp; done) | (simp; omega) | omega) _)))); rintro e w53 ⟨⟨n53, A53, l53, c53, B53, m53, d53, rfl, hz53, hq53⟩, hb53⟩; rw [← Hzm.out] at hz53; rw [← Hqm.out] at hq53; have Hz53 := Lib.hid hz53; have Hq53 := Lib.hid hq53; clear hz53 hq53; have G53 : Hid (Below wB.heap.size wB w53) := Lib.hid (G52.out.trans ((Below.trans (by (repeat (first | exact Below.refl _ _ | refine Below.drew ?_ | refine Below.alloc ?_ (by first | (simp; done) | (simp; omega) | omega) _ | refine Below.setCell ?_ (by first | (simp; done) | (simp; omega) | omega) _))) (hb53.mono (by simp <;> omega))).mono G52.out.size)); have j0_53 := (R0.out.move G53.out).c0; have j1_53 := (R0.out.move G53.out).c1; have j2_53 := (R0.out.move G53.out).c2; have j3_53 := (R1.out.move G53.out).c0; have j4_53 := (R1.out.move G53.out).c1; have j5_53 := (R1.out.move G53.out).c2; clear hb53))
              | (go_at_call 12; (have _hx := G51); go_must (refine (signat_any ikN _ _ _ M _ _ _ _ _ _ _ _ _ _ ?_ (by assumption) (by omega) ?_ ?_ U1 V1 P1 SC1 F1 F1').mono ?_; (exact ((HM.out.below ikN G51.out).below ikN (by (repeat (first | exact Below.refl _ _ | refine Below.drew ?_ | refine Below.alloc ?_ (by first | (simp; done) | (simp; omega) | omega) _ | refine Below.setCell ?_ (by first | (simp; done) | (simp; omega) | omega) _))))); (exact Hz51.out.below (by (repeat (first | exact Below.refl _ _ | refine Below.drew ?_ | refine Below.alloc ?_ (by first | (simp; done) | (simp; omega) | omega) _ | refine Below.setCell ?_ (by first | (simp; done) | (simp; omega) | omega) _)))); (exact Hq51.out.below (by (repeat (first | exact Below.refl _ _ | refine Below.drew ?_ | refine Below.alloc ?_ (by first | (simp; done) | (simp; omega) | omega) _ | refine Below.setCell ?_ (by first | (simp; done) | (simp; omega) | omega) _)))); rintro e w52 ⟨rfl, hb52⟩; rw [Y1.out]; have G52 : Hid (Below wB.heap.size wB w52) := Lib.hid (G51.out.trans ((Below.trans (by (repeat (first | exact Below.refl _ _ | refine Below.drew ?_ | refine Below.alloc ?_ (by first | (simp; done) | (simp; omega) | omega) _ | refine Below.setCell ?_ (by first | (simp; done) | (simp; omega) | omega) _))) (hb52.mono (by simp <;> omega))).mono G51.out.size)); have j0_52 := (R0.out.move G52.out).c0; have j1_52 := (R0.out.move G52.out).c1; have j2_52 := (R0.out.move G52.out).c2; have j3_52 := (R1.out.move G52.out).c0; have j4_52 := (R1.out.move G52.out).c1; have j5_52 := (R1.out.move G52.out).c2; clear hb52))
              | (go_at_call 13; (have _hx := G50); go_must (refine (rof_any 1 _ I1).mono ?_; rintro e w51 ⟨⟨n51, A51, l51, c51, B51, m51, d51, rfl, hz51, hq51⟩, hb51⟩; have Hz51 := Lib.hid hz51; have Hq51 := Lib.hid hq51; clear hz51 hq51; have G51 : Hid (Below wB.heap.size wB w51) := Lib.hid (G50.out.trans ((Below.trans (by (repeat (first | exact Below.refl _ _ | refine Below.drew ?_ | refine Below.alloc ?_ (by first | (simp; done) | (simp; omega) | omega) _ | refine Below.setCell ?_ (by first | (simp; done) | (simp; omega) | omega) _))) (hb51.mono (by simp <;> omega))).mono G50.out.size)); have j0_51 := (R0.out.move G51.out).c0; have j1_51 := (R0.out.move G51.out).c1; have j2_51 := (R0.out.move G51.out).c2; have j3_51 := (R1.out.move G51.out).c0; have j4_51 := (R1.out.move G51.out).c1; have j5_51 := (R1.out.move G51.out).c2; clear hb51)))
            have HbE := Lib.hid (Hb.out.trans (G57.out.mono Hb.out.size))
            rename_i hHeld
            clear hHeld
            clear R0 R1 HM HF Hb
            go_wp2
            go_ret
            exact ⟨rfl, HbE.out⟩
          · have dn : decide (n < 0) = false := by simpa using hneg
            have HE0 := HES.out
            rw [if_neg hneg] at HE0
            have EW : Hid (decide (ptrim (pmobius (ptrim (psc n f)) q0 q1 z0 z1) = ptrim M) = true) := Lib.hid (decide_eq_true HE0)
            clear hneg HE0
            have HW := HM
            have sW := sM
            go_wp2_with fail
            obtain ⟨wB, hwB⟩ : ∃ wB, wB = w5 := ⟨_, rfl⟩
            rw [← hwB] at HW HM HF R0 R1 Hb ⊢
            clear hwB
            have G40 : Hid (Below wB.heap.size wB wB) := Lib.hid (Below.refl _ _)
            have j0 := R0.out.c0
            have j1 := R0.out.c1
            have j2 := R0.out.c2
            have j3 := R1.out.c0
            have j4 := R1.out.c1
            have j5 := R1.out.c2
            go_region_held3 (fun w' => w'.cell? ⟨g0, 0, none⟩ = some (.bool n0) ∧ w'.cell? ⟨g0, 1, none⟩ = some (.slice B0 l4 c4) ∧ w'.cell? ⟨g0, 2, none⟩ = some (.slice C0 m0' d0) ∧ w'.cell? ⟨g1, 0, none⟩ = some (.bool n1) ∧ w'.cell? ⟨g1, 1, none⟩ = some (.slice B1 l5 c5) ∧ w'.cell? ⟨g1, 2, none⟩ = some (.slice C1 m1' d1')) (go_keep) (first
              | (go_at_call 29; (have _hx := G48); go_must (refine (icmp_any _ _ _ _ ((pcont M : Nat) : Int) _ _ _ _ 1 _ ?_ ?_ sc1 so1).mono ?_; (exact ((H47.out.below (Below.trans (by (repeat (first | exact Below.refl _ _ | refine Below.drew ?_ | refine Below.alloc ?_ (by first | (simp; done) | (simp; omega) | omega) _ | refine Below.setCell ?_ (by first | (simp; done) | (simp; omega) | omega) _))) (hbx48.mono (by simp <;> omega)))).below (by (repeat (first | exact Below.refl _ _ | refine Below.drew ?_ | refine Below.alloc ?_ (by first | (simp; done) | (simp; omega) | omega) _ | refine Below.setCell ?_ (by first | (simp; done) | (simp; omega) | omega) _)))).at_); (exact (Hz48.out.below (by (repeat (first | exact Below.refl _ _ | refine Below.drew ?_ | refine Below.alloc ?_ (by first | (simp; done) | (simp; omega) | omega) _ | refine Below.setCell ?_ (by first | (simp; done) | (simp; omega) | omega) _)))).at_); rintro e w49 ⟨rfl, hb49⟩; rw [ECm.out]; have G49 : Hid (Below wB.heap.size wB w49) := Lib.hid (G48.out.trans ((Below.trans (by (repeat (first | exact Below.refl _ _ | refine Below.drew ?_ | refine Below.alloc ?_ (by first | (simp; done) | (simp; omega) | omega) _ | refine Below.setCell ?_ (by first | (simp; done) | (simp; omega) | omega) _))) (hb49.mono (by simp <;> omega))).mono G48.out.size)); have j0_49 := (R0.out.move G49.out).c0; have j1_49 := (R0.out.move G49.out).c1; have j2_49 := (R0.out.move G49.out).c2; have j3_49 := (R1.out.move G49.out).c0; have j4_49 := (R1.out.move G49.out).c1; have j5_49 := (R1.out.move G49.out).c2; clear hb49))
              | (go_at_call 17; (have _hx := G47); go_must (refine (iof_any 1 _ I1).mono ?_; rintro e w48 ⟨na48, Aa48, la48, ca48, rfl, hz48, hb48⟩; have Hz48 := Lib.hid hz48; have hbx48 := hb48; clear hz48; have G48 : Hid (Below wB.heap.size wB w48) := Lib.hid (G47.out.trans ((Below.trans (by (repeat (first | exact Below.refl _ _ | refine Below.drew ?_ | refine Below.alloc ?_ (by first | (simp; done) | (simp; omega) | omega) _ | refine Below.setCell ?_ (by first | (simp; done) | (simp; omega) | omega) _))) (hb48.mono (by simp <;> omega))).mono G47.out.size)); have j0_48 := (R0.out.move G48.out).c0; have j1_48 := (R0.out.move G48.out).c1; have j2_48 := (R0.out.move G48.out).c2; have j3_48 := (R1.out.move G48.out).c0; have j4_48 := (R1.out.move G48.out).c1; have j5_48 := (R1.out.move G48.out).c2; clear hb48))
              | (go_at_call 30; (have _hx := G46); go_must (refine (content_any ikN _ _ _ M _ ?_ sM (by omega)).mono ?_; (exact ((HM.out.below ikN G46.out).below ikN (by (repeat (first | exact Below.refl _ _ | refine Below.drew ?_ | refine Below.alloc ?_ (by first | (simp; done) | (simp; omega) | omega) _ | refine Below.setCell ?_ (by first | (simp; done) | (simp; omega) | omega) _))))); rintro e w47 ⟨n47, A47, l47, c47, rfl, h47, hb47⟩; have H47 := Lib.hid h47; clear h47; have G47 : Hid (Below wB.heap.size wB w47) := Lib.hid (G46.out.trans ((Below.trans (by (repeat (first | exact Below.refl _ _ | refine Below.drew ?_ | refine Below.alloc ?_ (by first | (simp; done) | (simp; omega) | omega) _ | refine Below.setCell ?_ (by first | (simp; done) | (simp; omega) | omega) _))) (hb47.mono (by simp <;> omega))).mono G46.out.size)); have j0_47 := (R0.out.move G47.out).c0; have j1_47 := (R0.out.move G47.out).c1; have j2_47 := (R0.out.move G47.out).c2; have j3_47 := (R1.out.move G47.out).c0; have j4_47 := (R1.out.move G47.out).c1; have j5_47 := (R1.out.move G47.out).c2; clear hb47))
              | (go_at_call 14; (have _hx := G45); go_must (refine (degree_any _ _ _ f _ ?_ sF (by omega)).mono ?_; (exact ((HF.out.below ikN G45.out).below ikN (by (repeat (first | exact Below.refl _ _ | refine Below.drew ?_ | refine Below.alloc ?_ (by first | (simp; done) | (simp; omega) | omega) _ | refine Below.setCell ?_ (by first | (simp; done) | (simp; omega) | omega) _)))).at_ ikN); rintro e w46 ⟨rfl, hb46⟩; rw [EdF.out]; have G46 : Hid (Below wB.heap.size wB w46) := Lib.hid (G45.out.trans ((Below.trans (by (repeat (first | exact Below.refl _ _ | refine Below.drew ?_ | refine Below.alloc ?_ (by first | (simp; done) | (simp; omega) | omega) _ | refine Below.setCell ?_ (by first | (simp; done) | (simp; omega) | omega) _))) (hb46.mono (by simp <;> omega))).mono G45.out.size)); have j0_46 := (R0.out.move G46.out).c0; have j1_46 := (R0.out.move G46.out).c1; have j2_46 := (R0.out.move G46.out).c2; have j3_46 := (R1.out.move G46.out).c0; have j4_46 := (R1.out.move G46.out).c1; have j5_46 := (R1.out.move G46.out).c2; clear hb46))
              | (go_at_call 14; (have _hx := G44); go_must (refine (degree_any _ _ _ M _ ?_ sM (by omega)).mono ?_; (exact ((HM.out.below ikN G44.out).below ikN (by (repeat (first | exact Below.refl _ _ | refine Below.drew ?_ | refine Below.alloc ?_ (by first | (simp; done) | (simp; omega) | omega) _ | refine Below.setCell ?_ (by first | (simp; done) | (simp; omega) | omega) _)))).at_ ikN); rintro e w45 ⟨rfl, hb45⟩; rw [EdM.out]; have G45 : Hid (Below wB.heap.size wB w45) := Lib.hid (G44.out.trans ((Below.trans (by (repeat (first | exact Below.refl _ _ | refine Below.drew ?_ | refine Below.alloc ?_ (by first | (simp; done) | (simp; omega) | omega) _ | refine Below.setCell ?_ (by first | (simp; done) | (simp; omega) | omega) _))) (hb45.mono (by simp <;> omega))).mono G44.out.size)); have j0_45 := (R0.out.move G45.out).c0; have j1_45 := (R0.out.move G45.out).c1; have j2_45 := (R0.out.move G45.out).c2; have j3_45 := (R1.out.move G45.out).c0; have j4_45 := (R1.out.move G45.out).c1; have j5_45 := (R1.out.move G45.out).c2; clear hb45))
              | (go_at_call 22; (have _hx := G43); go_must (refine (same_any ikN ikN _ _ _ _ _ _ _ _ _ ?_ ?_ sM' sW (by omega) (by omega)).mono ?_; (exact H43.out.below ikN (by (repeat (first | exact Below.refl _ _ | refine Below.drew ?_ | refine Below.alloc ?_ (by first | (simp; done) | (simp; omega) | omega) _ | refine Below.setCell ?_ (by first | (simp; done) | (simp; omega) | omega) _)))); (exact ((HW.out.below ikN G43.out).below ikN (by (repeat (first | exact Below.refl _ _ | refine Below.drew ?_ | refine Below.alloc ?_ (by first | (simp; done) | (simp; omega) | omega) _ | refine Below.setCell ?_ (by first | (simp; done) | (simp; omega) | omega) _))))); rintro e w44 ⟨rfl, hb44⟩; rw [EW.out]; have G44 : Hid (Below wB.heap.size wB w44) := Lib.hid (G43.out.trans ((Below.trans (by (repeat (first | exact Below.refl _ _ | refine Below.drew ?_ | refine Below.alloc ?_ (by first | (simp; done) | (simp; omega) | omega) _ | refine Below.setCell ?_ (by first | (simp; done) | (simp; omega) | omega) _))) (hb44.mono (by simp <;> omega))).mono G43.out.size)); have j0_44 := (R0.out.move G44.out).c0; have j1_44 := (R0.out.move G44.out).c1; have j2_44 := (R0.out.move G44.out).c2; have j3_44 := (R1.out.move G44.out).c0; have j4_44 := (R1.out.move G44.out).c1; have j5_44 := (R1.out.move G44.out).c2; clear hb44))
              | (go_at_call 23; (have _hx := G42); go_must (refine (mobius_any ikN _ _ _ _ _ _ _ _ _ _ _ _ _ _ _ _ _ _ _ _ _ _ _ ?_ ?_ fS ?_ ?_ ?_ ?_ u0 v0 qp0 u1 v1 qp1 hok').mono ?_; (exact H42.out.below ikN (by (repeat (first | exact Below.refl _ _ | refine Below.drew ?_ | refine Below.alloc ?_ (by first | (simp; done) | (simp; omega) | omega) _ | refine Below.setCell ?_ (by first | (simp; done) | (simp; omega) | omega) _)))); omega; (exact (R0.out.move G42.out).hz.below (by (repeat (first | exact Below.refl _ _ | refine Below.drew ?_ | refine Below.alloc ?_ (by first | (simp; done) | (simp; omega) | omega) _ | refine Below.setCell ?_ (by first | (simp; done) | (simp; omega) | omega) _)))); (exact (R0.out.move G42.out).hq.below (by (repeat (first | exact Below.refl _ _ | refine Below.drew ?_ | refine Below.alloc ?_ (by first | (simp; done) | (simp; omega) | omega) _ | refine Below.setCell ?_ (by first | (simp; done) | (simp; omega) | omega) _)))); (exact (R1.out.move G42.out).hz.below (by (repeat (first | exact Below.refl _ _ | refine Below.drew ?_ | refine Below.alloc ?_ (by first | (simp; done) | (simp; omega) | omega) _ | refine Below.setCell ?_ (by first | (simp; done) | (simp; omega) | omega) _)))); (exact (R1.out.move G42.out).hq.below (by (repeat (first | exact Below.refl _ _ | refine Below.drew ?_ | refine Below.alloc ?_ (by first | (simp; done) | (simp; omega) | omega) _ | refine Below.setCell ?_ (by first | (simp; done) | (simp; omega) | omega) _)))); rintro e w43 ⟨A43, k43, c43, rfl, h43, hb43⟩; have hk43 : k43 ≤ 7 := (by have := h43.length; rw [← TM'.out, ptrim_length] at this; omega); have H43 := Lib.hid h43; clear h43; have G43 : Hid (Below wB.heap.size wB w43) := Lib.hid (G42.out.trans ((Below.trans (by (repeat (first | exact Below.refl _ _ | refine Below.drew ?_ | refine Below.alloc ?_ (by first | (simp; done) | (simp; omega) | omega) _ | refine Below.setCell ?_ (by first | (simp; done) | (simp; omega) | omega) _))) (hb43.mono (by simp <;> omega))).mono G42.out.size)); have j0_43 := (R0.out.move G43.out).c0; have j1_43 := (R0.out.move G43.out).c1; have j2_43 := (R0.out.move G43.out).c2; have j3_43 := (R1.out.move G43.out).c0; have j4_43 := (R1.out.move G43.out).c1; have j5_43 := (R1.out.move G43.out).c2; clear hb43))
              | (go_at_call 28; (have _hx := G41); go_must (refine (scale_any ikN _ _ _ f _ _ _ _ n _ ?_ ?_ sF sn mk sS (by omega)).mono ?_; (exact ((HF.out.below ikN G41.out).below ikN (by (repeat (first | exact Below.refl _ _ | refine Below.drew ?_ | refine Below.alloc ?_ (by first | (simp; done) | (simp; omega) | omega) _ | refine Below.setCell ?_ (by first | (simp; done) | (simp; omega) | omega) _))))); (exact Hz41.out.below (by (repeat (first | exact Below.refl _ _ | refine Below.drew ?_ | refine Below.alloc ?_ (by first | (simp; done) | (simp; omega) | omega) _ | refine Below.setCell ?_ (by first | (simp; done) | (simp; omega) | omega) _)))); rintro e w42 ⟨A42, k42, c42, rfl, h42, hb42⟩; have hk42 : k42 ≤ 7 := (by have := h42.length; rw [ptrim_length] at this; omega); have H42 := Lib.hid h42; clear h42; have G42 : Hid (Below wB.heap.size wB w42) := Lib.hid (G41.out.trans ((Below.trans (by (repeat (first | exact Below.refl _ _ | refine Below.drew ?_ | refine Below.alloc ?_ (by first | (simp; done) | (simp; omega) | omega) _ | refine Below.setCell ?_ (by first | (simp; done) | (simp; omega) | omega) _))) (hb42.mono (by simp <;> omega))).mono G41.out.size)); have j0_42 := (R0.out.move G42.out).c0; have j1_42 := (R0.out.move G42.out).c1; have j2_42 := (R0.out.move G42.out).c2; have j3_42 := (R1.out.move G42.out).c0; have j4_42 := (R1.out.move G42.out).c1; have j5_42 := (R1.out.move G42.out).c2; clear hb42))
              | (go_at_call 17; (have _hx := G40); go_must (refine (iof_any n _ In).mono ?_; rintro e w41 ⟨na41, Aa41, la41, ca41, rfl, hz41, hb41⟩; have Hz41 := Lib.hid hz41; have hbx41 := hb41; clear hz41; have G41 : Hid (Below wB.heap.size wB w41) := Lib.hid (G40.out.trans ((Below.trans (by (repeat (first | exact Below.refl _ _ | refine Below.drew ?_ | refine Below.alloc ?_ (by first | (simp; done) | (simp; omega) | omega) _ | refine Below.setCell ?_ (by first | (simp; done) | (simp; omega) | omega) _))) (hb41.mono (by simp <;> omega))).mono G40.out.size)); have j0_41 := (R0.out.move G41.out).c0; have j1_41 := (R0.out.move G41.out).c1; have j2_41 := (R0.out.move G41.out).c2; have j3_41 := (R1.out.move G41.out).c0; have j4_41 := (R1.out.move G41.out).c1; have j5_41 := (R1.out.move G41.out).c2; clear hb41)))
            rename_i hHeld
            clear hHeld
            replace R0 := Lib.hid (R0.out.move G49.out)
            replace R1 := Lib.hid (R1.out.move G49.out)
            replace HM := Lib.hid (HM.out.below ikN G49.out)
            replace HF := Lib.hid (HF.out.below ikN G49.out)
            replace Hb := Lib.hid (Hb.out.trans (G49.out.mono Hb.out.size))
            clear HW j0_41 j1_41 j2_41 j3_41 j4_41 j5_41 j0_42 j1_42 j2_42 j3_42 j4_42 j5_42 j0_43 j1_43 j2_43 j3_43 j4_43 j5_43 j0_44 j1_44 j2_44 j3_44 j4_44 j5_44 j0_45 j1_45 j2_45 j3_45 j4_45 j5_45 j0_46 j1_46 j2_46 j3_46 j4_46 j5_46 j0_47 j1_47 j2_47 j3_47 j4_47 j5_47 j0_48 j1_48 j2_48 j3_48 j4_48 j5_48 j0_49 j1_49 j2_49 j3_49 j4_49 j5_49 j0 j1 j2 j3 j4 j5 G40 G41 G42 G43 G44 G45 G46 G47 G48 G49
            clear H42 H43 H47 Hz41 Hz48 hbx41 hbx48
            obtain ⟨wB, hwB⟩ : ∃ wB, wB = w49 := ⟨_, rfl⟩
            rw [← hwB] at HM HF R0 R1 Hb ⊢
            clear hwB
            have G50 : Hid (Below wB.heap.size wB wB) := Lib.hid (Below.refl _ _)
            have j0 := R0.out.c0
            have j1 := R0.out.c1
            have j2 := R0.out.c2
            have j3 := R1.out.c0
            have j4 := R1.out.c1
            have j5 := R1.out.c2
            go_wp2_with fail
            go_region_held3 (fun w' => w'.cell? ⟨g0, 0, none⟩ = some (.bool n0) ∧ w'.cell? ⟨g0, 1, none⟩ = some (.slice B0 l4 c4) ∧ w'.cell? ⟨g0, 2, none⟩ = some (.slice C0 m0' d0) ∧ w'.cell? ⟨g1, 0, none⟩ = some (.bool n1) ∧ w'.cell? ⟨g1, 1, none⟩ = some (.slice B1 l5 c5) ∧ w'.cell? ⟨g1, 2, none⟩ = some (.slice C1 m1' d1')) (go_keep) (first
              | (go_at_call 12; (have _hx := G56); go_must (refine (signat_any ikN _ _ _ f _ _ _ _ _ _ _ _ _ _ ?_ (by assumption) (by omega) ?_ ?_ u0 v0 qp0 Cl Fl Fl').mono ?_; (exact ((HF.out.below ikN G56.out).below ikN (by (repeat (first | exact Below.refl _ _ | refine Below.drew ?_ | refine Below.alloc ?_ (by first | (simp; done) | (simp; omega) | omega) _ | refine Below.setCell ?_ (by first | (simp; done) | (simp; omega) | omega) _))))); (exact (R0.out.move G56.out).hz.below (by (repeat (first | exact Below.refl _ _ | refine Below.drew ?_ | refine Below.alloc ?_ (by first | (simp; done) | (simp; omega) | omega) _ | refine Below.setCell ?_ (by first | (simp; done) | (simp; omega) | omega) _)))); (exact (R0.out.move G56.out).hq.below (by (repeat (first | exact Below.refl _ _ | refine Below.drew ?_ | refine Below.alloc ?_ (by first | (simp; done) | (simp; omega) | omega) _ | refine Below.setCell ?_ (by first | (simp; done) | (simp; omega) | omega) _)))); rintro e w57 ⟨rfl, hb57⟩; rw [Yl.out]; have G57 : Hid (Below wB.heap.size wB w57) := Lib.hid (G56.out.trans ((Below.trans (by (repeat (first | exact Below.refl _ _ | refine Below.drew ?_ | refine Below.alloc ?_ (by first | (simp; done) | (simp; omega) | omega) _ | refine Below.setCell ?_ (by first | (simp; done) | (simp; omega) | omega) _))) (hb57.mono (by simp <;> omega))).mono G56.out.size)); have j0_57 := (R0.out.move G57.out).c0; have j1_57 := (R0.out.move G57.out).c1; have j2_57 := (R0.out.move G57.out).c2; have j3_57 := (R1.out.move G57.out).c0; have j4_57 := (R1.out.move G57.out).c1; have j5_57 := (R1.out.move G57.out).c2; clear hb57))
              | (go_at_call 12; (have _hx := G55); go_must (refine (signat_any ikN _ _ _ M _ _ _ _ _ _ _ _ _ _ ?_ (by assumption) (by omega) ?_ ?_ U0 V1 P1 SC0 F0 F0').mono ?_; (exact ((HM.out.below ikN G55.out).below ikN (by (repeat (first | exact Below.refl _ _ | refine Below.drew ?_ | refine Below.alloc ?_ (by first | (simp; done) | (simp; omega) | omega) _ | refine Below.setCell ?_ (by first | (simp; done) | (simp; omega) | omega) _))))); (exact Hz55.out.below (by (repeat (first | exact Below.refl _ _ | refine Below.drew ?_ | refine Below.alloc ?_ (by first | (simp; done) | (simp; omega) | omega) _ | refine Below.setCell ?_ (by first | (simp; done) | (simp; omega) | omega) _)))); (exact Hq55.out.below (by (repeat (first | exact Below.refl _ _ | refine Below.drew ?_ | refine Below.alloc ?_ (by first | (simp; done) | (simp; omega) | omega) _ | refine Below.setCell ?_ (by first | (simp; done) | (simp; omega) | omega) _)))); rintro e w56 ⟨rfl, hb56⟩; rw [Y0.out]; have G56 : Hid (Below wB.heap.size wB w56) := Lib.hid (G55.out.trans ((Below.trans (by (repeat (first | exact Below.refl _ _ | refine Below.drew ?_ | refine Below.alloc ?_ (by first | (simp; done) | (simp; omega) | omega) _ | refine Below.setCell ?_ (by first | (simp; done) | (simp; omega) | omega) _))) (hb56.mono (by simp <;> omega))).mono G55.out.size)); have j0_56 := (R0.out.move G56.out).c0; have j1_56 := (R0.out.move G56.out).c1; have j2_56 := (R0.out.move G56.out).c2; have j3_56 := (R1.out.move G56.out).c0; have j4_56 := (R1.out.move G56.out).c1; have j5_56 := (R1.out.move G56.out).c2; clear hb56))
              | (go_at_call 13; (have _hx := G54); go_must (refine (rof_any 0 _ I0).mono ?_; rintro e w55 ⟨⟨n55, A55, l55, c55, B55, m55, d55, rfl, hz55, hq55⟩, hb55⟩; have Hz55 := Lib.hid hz55; have Hq55 := Lib.hid hq55; clear hz55 hq55; have G55 : Hid (Below wB.heap.size wB w55) := Lib.hid (G54.out.trans ((Below.trans (by (repeat (first | exact Below.refl _ _ | refine Below.drew ?_ | refine Below.alloc ?_ (by first | (simp; done) | (simp; omega) | omega) _ | refine Below.setCell ?_ (by first | (simp; done) | (simp; omega) | omega) _))) (hb55.mono (by simp <;> omega))).mono G54.out.size)); have j0_55 := (R0.out.move G55.out).c0; have j1_55 := (R0.out.move G55.out).c1; have j2_55 := (R0.out.move G55.out).c2; have j3_55 := (R1.out.move G55.out).c0; have j4_55 := (R1.out.move G55.out).c1; have j5_55 := (R1.out.move G55.out).c2; clear hb55))
              | (go_at_call 12; (have _hx := G53); go_must (refine (signat_any ikN _ _ _ f _ _ _ _ _ _ _ _ _ _ ?_ (by assumption) (by omega) ?_ ?_ um vm qmp Cm Fm Fm').mono ?_; (exact ((HF.out.below ikN G53.out).below ikN (by (repeat (first | exact Below.refl _ _ | refine Below.drew ?_ | refine Below.alloc ?_ (by first | (simp; done) | (simp; omega) | omega) _ | refine Below.setCell ?_ (by first | (simp; done) | (simp; omega) | omega) _))))); (exact Hz53.out.below (by (repeat (first | exact Below.refl _ _ | refine Below.drew ?_ | refine Below.alloc ?_ (by first | (simp; done) | (simp; omega) | omega) _ | refine Below.setCell ?_ (by first | (simp; done) | (simp; omega) | omega) _)))); (exact Hq53.out.below (by (repeat (first | exact Below.refl _ _ | refine Below.drew ?_ | refine Below.alloc ?_ (by first | (simp; done) | (simp; omega) | omega) _ | refine Below.setCell ?_ (by first | (simp; done) | (simp; omega) | omega) _)))); rintro e w54 ⟨rfl, hb54⟩; rw [Ym.out]; have G54 : Hid (Below wB.heap.size wB w54) := Lib.hid (G53.out.trans ((Below.trans (by (repeat (first | exact Below.refl _ _ | refine Below.drew ?_ | refine Below.alloc ?_ (by first | (simp; done) | (simp; omega) | omega) _ | refine Below.setCell ?_ (by first | (simp; done) | (simp; omega) | omega) _))) (hb54.mono (by simp <;> omega))).mono G53.out.size)); have j0_54 := (R0.out.move G54.out).c0; have j1_54 := (R0.out.move G54.out).c1; have j2_54 := (R0.out.move G54.out).c2; have j3_54 := (R1.out.move G54.out).c0; have j4_54 := (R1.out.move G54.out).c1; have j5_54 := (R1.out.move G54.out).c2; clear hb54))
              | (go_at_call 31; (have _hx := G52); go_must (refine (mid_any _ _ _ _ _ _ _ _ _ _ _ _ _ _ _ _ _ _ _ ?_ ?_ ?_ ?_ Fz0 Fq0 qp0 Fz1 Fq1 qp1).mono ?_; (exact (R0.out.move G52.out).hz.below (by (repeat (first | exact Below.refl _ _ | refine Below.drew ?_ | refine Below.alloc ?_ (by first | (simp; done) | (simp; omega) | omega) _ | refine Below.setCell ?_ (by first | (simp; done) | (simp; omega) | omega) _)))); (exact (R0.out.move G52.out).hq.below (by (repeat (first | exact Below.refl _ _ | refine Below.drew ?_ | refine Below.alloc ?_ (by first | (simp; done) | (simp; omega) | omega) _ | refine Below.setCell ?_ (by first | (simp; done) | (simp; omega) | omega) _)))); (exact (R1.out.move G52.out).hz.below (by (repeat (first | exact Below.refl _ _ | refine Below.drew ?_ | refine Below.alloc ?_ (by first | (simp; done) | (simp; omega) | omega) _ | refine Below.setCell ?_ (by first | (simp; done) | (simp; omega) | omega) _)))); (exact (R1.out.move G52.out).hq.below (by (repeat (first | exact Below.refl _ _ | refine Below.drew ?_ | refine Below.alloc ?_ (by first | (simp; done) | (simp; omega) | omega) _ | refine Below.setCell ?_ (by first | (simp; done) | (simp; omega) | omega) _)))); rintro e w53 ⟨⟨n53, A53, l53, c53, B53, m53, d53, rfl, hz53, hq53⟩, hb53⟩; rw [← Hzm.out] at hz53; rw [← Hqm.out] at hq53; have Hz53 := Lib.hid hz53; have Hq53 := Lib.hid hq53; clear hz53 hq53; have G53 : Hid (Below wB.heap.size wB w53) := Lib.hid (G52.out.trans ((Below.trans (by (repeat (first | exact Below.refl _ _ | refine Below.drew ?_ | refine Below.alloc ?_ (by first | (simp; done) | (simp; omega) | omega) _ | refine Below.setCell ?_ (by first | (simp; done) | (simp; omega) | omega) _))) (hb53.mono (by simp <;> omega))).mono G52.out.size)); have j0_53 := (R0.out.move G53.out).c0; have j1_53 := (R0.out.move G53.out).c1; have j2_53 := (R0.out.move G53.out).c2; have j3_53 := (R1.out.move G53.out).c0; have j4_53 := (R1.out.move G53.out).c1; have j5_53 := (R1.out.move G53.out).c2; clear hb53))
              | (go_at_call 12; (have _hx := G51); go_must (refine (signat_any ikN _ _ _ M _ _ _ _ _ _ _ _ _ _ ?_ (by assumption) (by omega) ?_ ?_ U1 V1 P1 SC1 F1 F1').mono ?_; (exact ((HM.out.below ikN G51.out).below ikN (by (repeat (first | exact Below.refl _ _ | refine Below.drew ?_ | refine Below.alloc ?_ (by first | (simp; done) | (simp; omega) | omega) _ | refine Below.setCell ?_ (by first | (simp; done) | (simp; omega) | omega) _))))); (exact Hz51.out.below (by (repeat (first | exact Below.refl _ _ | refine Below.drew ?_ | refine Below.alloc ?_ (by first | (simp; done) | (simp; omega) | omega) _ | refine Below.setCell ?_ (by first | (simp; done) | (simp; omega) | omega) _)))); (exact Hq51.out.below (by (repeat (first | exact Below.refl _ _ | refine Below.drew ?_ | refine Below.alloc ?_ (by first | (simp; done) | (simp; omega) | omega) _ | refine Below.setCell ?_ (by first | (simp; done) | (simp; omega) | omega) _)))); rintro e w52 ⟨rfl, hb52⟩; rw [Y1.out]; have G52 : Hid (Below wB.heap.size wB w52) := Lib.hid (G51.out.trans ((Below.trans (by (repeat (first | exact Below.refl _ _ | refine Below.drew ?_ | refine Below.alloc ?_ (by first | (simp; done) | (simp; omega) | omega) _ | refine Below.setCell ?_ (by first | (simp; done) | (simp; omega) | omega) _))) (hb52.mono (by simp <;> omega))).mono G51.out.size)); have j0_52 := (R0.out.move G52.out).c0; have j1_52 := (R0.out.move G52.out).c1; have j2_52 := (R0.out.move G52.out).c2; have j3_52 := (R1.out.move G52.out).c0; have j4_52 := (R1.out.move G52.out).c1; have j5_52 := (R1.out.move G52.out).c2; clear hb52))
              | (go_at_call 13; (have _hx := G50); go_must (refine (rof_any 1 _ I1).mono ?_; rintro e w51 ⟨⟨n51, A51, l51, c51, B51, m51, d51, rfl, hz51, hq51⟩, hb51⟩; have Hz51 := Lib.hid hz51; have Hq51 := Lib.hid hq51; clear hz51 hq51; have G51 : Hid (Below wB.heap.size wB w51) := Lib.hid (G50.out.trans ((Below.trans (by (repeat (first | exact Below.refl _ _ | refine Below.drew ?_ | refine Below.alloc ?_ (by first | (simp; done) | (simp; omega) | omega) _ | refine Below.setCell ?_ (by first | (simp; done) | (simp; omega) | omega) _))) (hb51.mono (by simp <;> omega))).mono G50.out.size)); have j0_51 := (R0.out.move G51.out).c0; have j1_51 := (R0.out.move G51.out).c1; have j2_51 := (R0.out.move G51.out).c2; have j3_51 := (R1.out.move G51.out).c0; have j4_51 := (R1.out.move G51.out).c1; have j5_51 := (R1.out.move G51.out).c2; clear hb51)))
            have HbE := Lib.hid (Hb.out.trans (G57.out.mono Hb.out.size))
            rename_i hHeld
            clear hHeld
            clear R0 R1 HM HF Hb
            go_wp2
            go_ret
            exact ⟨rfl, HbE.out⟩
      · exact ⟨fun _ => false, fun _ => false, fun _ => false, fun _ => undef, fun _ => undef, ⟨Below.refl _ _, fun _ h => (by cases h), fun _ h => (by cases h), fun _ _ _ h => (by cases h), fun _ h => (by cases h)⟩, rfl, rfl⟩
    · have d2 : decide (frn p d * frd d' < frn p' d' * frd d) = false := by simpa using hlt
      rw [d2]
      clear hlt d2
      go_wp2_with fail
      refine (awake17_any _).mono ?_; rintro e wb ⟨rfl, hbb⟩; replace Hb := Lib.hid (Hb.out.trans (hbb.mono Hb.out.size)); go_wp2; go_ret; exact ⟨rfl, Hb.out⟩
end Go.Proofs.YtdihefmjfnlpcaaGreat
