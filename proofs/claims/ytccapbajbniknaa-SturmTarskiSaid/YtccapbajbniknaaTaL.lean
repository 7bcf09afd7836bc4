/- The law SturmTarski. -/
import Derived.Test.YtccapbajbniknaaTkr
import Derived.Test.YtccapbajbniknaaThL
import Derived.Test.YtccapbajbniknaaBin
namespace Go.Proofs.Ytccapbajbniknaa
open Go Go.RowKit

/-- a box with two pairs -/
structure Qua (W : World) (g : Nat) (x0 x1 x2 x3 : Int) : Prop where
  c0 : W.cell? ⟨g, 0, none⟩ = some (.int .i8 x0)
  c1 : W.cell? ⟨g, 1, none⟩ = some (.int .i8 x1)
  c2 : W.cell? ⟨g, 2, none⟩ = some (.int .i8 x2)
  c3 : W.cell? ⟨g, 3, none⟩ = some (.int .i8 x3)
theorem Qua.move {W W' : World} {g : Nat} {x0 x1 x2 x3 : Int} (h : Qua W g x0 x1 x2 x3) (hb : Below W.heap.size W W') : Qua W' g x0 x1 x2 x3 := by
  obtain ⟨hc, _⟩ := bcellS hb
  exact ⟨(hc _ (by rw [h.c0]; rfl)).trans h.c0, (hc _ (by rw [h.c1]; rfl)).trans h.c1, (hc _ (by rw [h.c2]; rfl)).trans h.c2, (hc _ (by rw [h.c3]; rfl)).trans h.c3⟩
theorem Qua.make (W : World) (x0 x1 x2 x3 : Int) (t : TypeId) : Qua (W.alloc (.cells #[.int .i8 x0, .int .i8 x1, .int .i8 x2, .int .i8 x3] t)) W.heap.size x0 x1 x2 x3 := ⟨by go_simp, by go_simp, by go_simp, by go_simp⟩

set_option maxRecDepth 100000 in
set_option maxHeartbeats 8000000 in
theorem law_tarski (A : Option Addr) (la ca : Nat) (cs : List Int) (B : Option Addr) (lb cb : Nat) (ds : List Int) (p d p' d' : Int) (w : World) (h1 : I16At w A la ca cs) (h2 : I16At w B lb cb ds) (hla : la ≤ 9223372036854775807) (hlb : lb ≤ 9223372036854775807) (hp : I8 p) (hd : I8 d) (hp' : I8 p') (hd' : I8 d') :
    Calls Try.prog 6 #[.slice A la ca, .slice B lb cb, .agg #[.int .i8 p, .int .i8 d, .int .i8 p', .int .i8 d']] w fun e w' => e = .returned (.bool true) ∧ Below w.heap.size w w' := by
  have hb0 := below_new w (.cells #[.int .i8 p, .int .i8 d, .int .i8 p', .int .i8 d'] 60)
  have HT := Lib.hid (Qua.make w p d p' d' 60)
  have Hi1 := Lib.hid (h1.below hb0)
  have Hi2 := Lib.hid (h2.below hb0)
  have Hb := Lib.hid hb0
  obtain ⟨F, hF⟩ : ∃ F, F = ptrim (cs.take 6) := ⟨_, rfl⟩
  obtain ⟨G, hG⟩ : ∃ G, G = ptrim (ds.take 6) := ⟨_, rfl⟩
  have F9 : P9 F := by rw [hF]; exact short_p9 h1 (by omega)
  have cG : CP G := by rw [hG]; exact (short_p9 h2 (by omega)).cp
  obtain ⟨f1, f2, f3, f4⟩ := short_bd h1 6
  obtain ⟨g1, g2, g3, g4⟩ := short_bd h2 6
  rw [← hF] at f1 f2 f3 f4
  rw [← hG] at g1 g2 g3 g4
  have cF := F9.cp
  have G6' : G6 G := ⟨by omega, fun j => Nat.le_trans (g4 j) (by rw [BB_eq]; decide)⟩
  have EF := Lib.hid hF.symm
  have EG := Lib.hid hG.symm
  have hgw : w.heap.size < (w.alloc (.cells #[.int .i8 p, .int .i8 d, .int .i8 p', .int .i8 d'] 60)).heap.size := by simp
  clear hb0 h1 h2 hF hG
  go_enter Try.func6, Try.ntmps6
  go_wp2_with fail
  refine (awake15_any _).mono ?_
  rintro e w1 ⟨rfl, hb1⟩
  replace HT := Lib.hid (HT.out.move hb1)
  replace Hi1 := Lib.hid (Hi1.out.below hb1)
  replace Hi2 := Lib.hid (Hi2.out.below hb1)
  replace Hb := Lib.hid (Hb.out.trans (hb1.mono Hb.out.size))
  replace hgw := Nat.lt_of_lt_of_le hgw hb1.size
  clear hb1
  go_wp2_with fail
  refine (short_any _ _ _ 6 cs _ Hi1.out (by omega) hla).mono ?_
  rintro e w2 ⟨A2, l2, c2, rfl, hf, hb2⟩
  rw [EF.out] at hf
  have hl2 : l2 ≤ 6 := by have := hf.length; omega
  have HF := Lib.hid hf
  replace HT := Lib.hid (HT.out.move hb2)
  replace Hi2 := Lib.hid (Hi2.out.below hb2)
  replace Hb := Lib.hid (Hb.out.trans (hb2.mono Hb.out.size))
  replace hgw := Nat.lt_of_lt_of_le hgw hb2.size
  clear hb2 hf Hi1
  go_wp2_with fail
  refine (short_any _ _ _ 6 ds _ Hi2.out (by omega) hlb).mono ?_
  rintro e w3 ⟨A3, l3, c3, rfl, hf, hb3⟩
  rw [EG.out] at hf
  have hl3 : l3 ≤ 6 := by have := hf.length; omega
  have HG := Lib.hid hf
  replace HF := Lib.hid (HF.out.below ikN hb3)
  replace HT := Lib.hid (HT.out.move hb3)
  replace Hb := Lib.hid (Hb.out.trans (hb3.mono Hb.out.size))
  replace hgw := Nat.lt_of_lt_of_le hgw hb3.size
  clear hb3 hf Hi2
  obtain ⟨gt, hgt⟩ : ∃ gt, gt = w.heap.size := ⟨_, rfl⟩
  rw [← hgt] at HT hgw
  try rw [← hgt]
  clear hgt
  have k0 := HT.out.c0
  have k1 := HT.out.c1
  have k2 := HT.out.c2
  have k3 := HT.out.c3
  go_wp2_with fail
  refine wp_region_held_drew (S := fun w' => w'.cell? ⟨gt, 0, none⟩ = some (.int .i8 p) ∧ w'.cell? ⟨gt, 1, none⟩ = some (.int .i8 d) ∧ w'.cell? ⟨gt, 2, none⟩ = some (.int .i8 p') ∧ w'.cell? ⟨gt, 3, none⟩ = some (.int .i8 d')) (by kernel_rfl) (by (try dsimp only); go_keep) (fun hHeld => ?_)
  (refine take_at (i := 0) (oi := _) (v := ?_) rfl rfl (by kernel_rfl) (by kernel_rfl) (by kernel_rfl) (fun _ _ _ h => h) (Or.inl ⟨by rfl, ?_⟩) (by assumption) ?_; rotate_left; (focus (intro w hSw; (try dsimp only at hSw); go_simp; (try with_reducible rfl))); (simp only [put_lit, List.set]))
  (refine take_at (i := 1) (oi := _) (v := ?_) rfl rfl (by kernel_rfl) (by kernel_rfl) (by kernel_rfl) (fun _ _ _ h => h) (Or.inl ⟨by rfl, ?_⟩) (by assumption) ?_; rotate_left; (focus (intro w hSw; (try dsimp only at hSw); go_simp; (try with_reducible rfl))); (simp only [put_lit, List.set]))
  (refine take_at (i := 3) (oi := _) (v := ?_) rfl rfl (by kernel_rfl) (by kernel_rfl) (by kernel_rfl) (fun _ _ _ h => h) (Or.inl ⟨by rfl, ?_⟩) (by assumption) ?_; rotate_left; (focus (intro w hSw; (try dsimp only at hSw); go_simp; (try with_reducible rfl))); (simp only [put_lit, List.set]))
  (refine take_at (i := 4) (oi := _) (v := ?_) rfl rfl (by kernel_rfl) (by kernel_rfl) (by kernel_rfl) (fun _ _ _ h => h) (Or.inl ⟨by rfl, ?_⟩) (by assumption) ?_; rotate_left; (focus (intro w hSw; (try dsimp only at hSw); go_simp; (try with_reducible rfl))); (simp only [put_lit, List.set]))
  refine wpAnyH_inv (Inv := fun listed a w => ∃ c m s v u, BI (fun i => if i = 0 then rtz p d else rtz p' d') (fun i => if i = 0 then rtq p d else rtq p' d') w3.drew w c m s v u ∧ listed = #[true, true, c 0, true, true, c 1, m 0, m 1, s 0, s 1] ∧ a = ⟨#[.slice A la ca, .slice B lb cb, .agg #[.int .i8 p, .int .i8 d, .int .i8 p', .int .i8 d'], undef, undef, .pointer (some ⟨gt, 0, none⟩), .bool false, .slice A2 l2 c2, .slice A3 l3 c3, u 0, u 1, undef, .bool true, .bool false, .slice A la ca, .slice A2 l2 c2, .slice B lb cb, .slice A3 l3 c3, .pointer (some ⟨gt, 0, none⟩), .agg #[.int .i8 p, .int .i8 d], v 0, .pointer (some ⟨gt, 2, none⟩), .agg #[.int .i8 p', .int .i8 d'], v 1, undef, undef, undef, undef, undef, undef, undef, undef, undef, undef, undef, undef, undef, undef, undef, undef, undef, undef, undef, undef, undef, undef, undef, undef, undef, undef, undef, undef, undef, undef, undef, undef, undef, undef, undef, undef, undef, undef, undef, undef, undef, undef, undef, undef, undef, undef], []⟩) ?_ ?_ ?_ 6 _ _ _ (by decide +kernel) ?_
  · rintro listed a w ⟨c, m, s, v, u, hB, rfl, rfl⟩
    have hT := (Qua.mk hHeld.1 hHeld.2.1 hHeld.2.2.1 hHeld.2.2.2).move hB.b
    exact ⟨hT.c0, hT.c1, hT.c2, hT.c3⟩
  · rintro listed a w i o ⟨c, m, s, v, u, hB, rfl, rfl⟩ ho hl hdp K hK
    have hi : i < 10 := (Array.getElem?_eq_some_iff.1 ho).1
    have hi' : i = 0 ∨ i = 1 ∨ i = 2 ∨ i = 3 ∨ i = 4 ∨ i = 5 ∨ i = 6 ∨ i = 7 ∨ i = 8 ∨ i = 9 := by omega
    rcases hi' with rfl | rfl | rfl | rfl | rfl | rfl | rfl | rfl | rfl | rfl
    · cases hl
    · cases hl
    · obtain rfl := Option.some.inj ho; go_simp
      refine (rat15_any p d _ hp hd).mono ?_
      rintro e w' ⟨⟨na, B, l, da, C, k, q, rfl, hz, hq⟩, hb⟩
      exact hK.out _ _ ⟨_, _, _, _, _, hB.call hb 0 ⟨_, _, _, _, _, _, _, rfl, hz, hq⟩, rfl, rfl⟩
    · cases hl
    · cases hl
    · obtain rfl := Option.some.inj ho; go_simp
      refine (rat15_any p' d' _ hp' hd').mono ?_
      rintro e w' ⟨⟨na, B, l, da, C, k, q, rfl, hz, hq⟩, hb⟩
      exact hK.out _ _ ⟨_, _, _, _, _, hB.call hb 1 ⟨_, _, _, _, _, _, _, rfl, hz, hq⟩, rfl, rfl⟩
    · obtain rfl := Option.some.inj ho; go_simp
      exact hK.out _ _ ⟨_, _, _, _, _, hB.alloc 0 hl, rfl, rfl⟩
    · obtain rfl := Option.some.inj ho; go_simp
      exact hK.out _ _ ⟨_, _, _, _, _, hB.alloc 1 hl, rfl, rfl⟩
    · obtain rfl := Option.some.inj ho; have hm := hdp ⟨6, .data⟩ (Array.mem_of_getElem? (i := 0) rfl) (by decide +kernel); have hc := hdp ⟨2, .data⟩ (Array.mem_of_getElem? (i := 1) rfl) (by decide +kernel); obtain ⟨n, B, l, d, C, k, q, e1, hz, hq⟩ := hB.r 0 hc; obtain ⟨g, _, _, _, _, _, _, _, _, _, e2, hgk, hR, _⟩ := hB.o 0 hm; have hBs := hB.store 0 hm e2 hz hq; simp only [e1, e2]; have r0 := hR.c0; have r1 := hR.c1; have r2 := hR.c2; have r3 := hR.f0; have r4 := hR.f1; have r5 := hR.f2; go_simp; exact hK.out _ _ ⟨_, _, _, _, _, hBs, rfl, by simp only [e1, e2]⟩
    · obtain rfl := Option.some.inj ho; have hm := hdp ⟨7, .data⟩ (Array.mem_of_getElem? (i := 0) rfl) (by decide +kernel); have hc := hdp ⟨5, .data⟩ (Array.mem_of_getElem? (i := 1) rfl) (by decide +kernel); obtain ⟨n, B, l, d, C, k, q, e1, hz, hq⟩ := hB.r 1 hc; obtain ⟨g, _, _, _, _, _, _, _, _, _, e2, hgk, hR, _⟩ := hB.o 1 hm; have hBs := hB.store 1 hm e2 hz hq; simp only [e1, e2]; have r0 := hR.c0; have r1 := hR.c1; have r2 := hR.c2; have r3 := hR.f0; have r4 := hR.f1; have r5 := hR.f2; go_simp; exact hK.out _ _ ⟨_, _, _, _, _, hBs, rfl, by simp only [e1, e2]⟩
  · rintro listed a wz ⟨c, m, s, v, u, hB, rfl, rfl⟩ hr
    have hall := ready_nil_all (by kernel_rfl) rfl hr
    have m0 : m 0 = true := hall 6 (by simp)
    have m1 : m 1 = true := hall 7 (by simp)
    have s0 : s 0 = true := hall 8 (by simp)
    have s1 : s 1 = true := hall 9 (by simp)
    obtain ⟨g0, n0, B0, l4, c4, C0, m0', d0, z0, q0, e0, _, R0, f0⟩ := hB.o 0 m0
    obtain ⟨g1', n1', B1, l5, c5, C1', m1', d1', z1, qq1, e1, _, R1, f1'⟩ := hB.o 1 m1
    obtain ⟨hz0, hq0⟩ := f0 s0
    obtain ⟨hz1, hq1⟩ := f1' s1
    replace hz0 : z0 = rtz p d := hz0
    replace hz1 : z1 = rtz p' d' := hz1
    replace hq0 : q0 = rtq p d := hq0
    replace hq1 : qq1 = rtq p' d' := hq1
    have hb4 : Below w3.heap.size w3 wz := (Below.trans (by (repeat (first | exact Below.refl _ _ | refine Below.drew ?_ | refine Below.alloc ?_ (by first | (simp; done) | (simp; omega) | omega) _ | refine Below.setCell ?_ (by first | (simp; done) | (simp; omega) | omega) _))) (hB.b.mono (by simp <;> omega)))
    simp only [e0, e1]
    generalize v 0 = y0
    generalize v 1 = y1
    clear hall m0 m1 s0 s1 f0 f1' e0 e1 hB hr hHeld k0 k1 k2 k3 c m s v u
    obtain ⟨w4, hw4⟩ : ∃ w4, w4 = wz := ⟨_, rfl⟩
    rw [← hw4] at R0 R1 hb4 ⊢
    replace HF := Lib.hid (HF.out.below ikN hb4)
    replace HG := Lib.hid (HG.out.below ikN hb4)
    replace HT := Lib.hid (HT.out.move hb4)
    replace Hb := Lib.hid (Hb.out.trans (hb4.mono Hb.out.size))
    clear hb4 hw4 hgw
    subst hz0 hz1 hq0 hq1
    replace R0 := Lib.hid R0
    replace R1 := Lib.hid R1
    obtain ⟨aL, zL, qL⟩ := at_ok hp hd
    obtain ⟨aH, zH, qH⟩ := at_ok hp' hd'
    have cdF : CP (pder F) := F9.der
    have cD : CP (dgm F G) := F9.dg (by omega) (by omega) G6'.b
    have lD := polymul_le (ptrim (pder F)) (ptrim G)
    rw [ptrim_length, ptrim_length] at lD
    have ldF := plen_pder F
    obtain ⟨PS, hPS⟩ : ∃ PS, PS = pchain 12 F (dgm F G) := ⟨_, rfl⟩
    obtain ⟨q1, q2, q3, q4⟩ := chain_all cF cD
    rw [← hPS] at q2 q4
    have HPS := Lib.hid hPS
    obtain ⟨V, hV⟩ : ∃ V, V = nq F G := ⟨_, rfl⟩
    have HV := Lib.hid hV
    clear hPS hV
    go_wp2_with fail
    refine (derivative_any ikN _ _ _ _ _ HF.out cF.fit.smp (by omega)).mono ?_
    rintro e w14 ⟨A7, l7, c7, rfl, h7, hb14⟩
    have hl7 : l7 ≤ 10 := by have := h7.length; rw [pder_length] at this; omega
    replace HT := Lib.hid (HT.out.move hb14); replace R0 := Lib.hid (R0.out.move hb14); replace R1 := Lib.hid (R1.out.move hb14); replace HF := Lib.hid (HF.out.below ikN hb14); replace HG := Lib.hid (HG.out.below ikN hb14); replace Hb := Lib.hid (Hb.out.trans (hb14.mono Hb.out.size))
    have H7 := Lib.hid h7
    clear hb14 h7
    go_wp2_with fail
    refine (polymul_any ikN ikN _ _ _ (pder F) _ _ _ G _ H7.out HG.out cdF.fit cG.fit (by omega) (by omega)).mono ?_
    rintro e w15 ⟨A8, l8, c8, rfl, h8, hb15⟩
    have hl8 : l8 ≤ 20 := by have := h8.length; omega
    replace HT := Lib.hid (HT.out.move hb15); replace R0 := Lib.hid (R0.out.move hb15); replace R1 := Lib.hid (R1.out.move hb15); replace HF := Lib.hid (HF.out.below ikN hb15); replace HG := Lib.hid (HG.out.below ikN hb15); replace Hb := Lib.hid (Hb.out.trans (hb15.mono Hb.out.size))
    have H8 := Lib.hid h8
    clear hb15 h8 H7
    go_wp2_with fail
    refine (chain_any _ _ _ F _ _ _ (dgm F G) _ HF.out H8.out cF.fit.smp cD.fit.smp (by omega) (by omega) 12 q1 (by omega)).mono ?_
    rintro e w7 ⟨As, ls, cs', rfl, hs, hb7⟩
    rw [← HPS.out] at hs
    have Hls := Lib.hid (show ls = PS.length from hs.length.symm)
    have hls2 : ls ≤ 13 := by have := hs.length; omega
    have HS := Lib.hid hs
    replace HT := Lib.hid (HT.out.move hb7); replace R0 := Lib.hid (R0.out.move hb7); replace R1 := Lib.hid (R1.out.move hb7); replace HF := Lib.hid (HF.out.below ikN hb7); replace HG := Lib.hid (HG.out.below ikN hb7); replace Hb := Lib.hid (Hb.out.trans (hb7.mono Hb.out.size))
    clear hb7 hs H8
    have hlp : ls ≤ 1000000 := by omega
    have KE : Hid (∀ q ∈ PS, SmP q ∧ q.length ≤ 1000000000) := Lib.hid (fun q hq => (q2 q hq).smp)
    obtain ⟨N1, hN1⟩ : ∃ N, N = (vst (PS.map (sge true)) ls).1 := ⟨_, rfl⟩
    obtain ⟨N2, hN2⟩ : ∃ N, N = (vst (PS.map (sge false)) ls).1 := ⟨_, rfl⟩
    have n1 := (vst_le (PS.map (sge true)) ls).1
    have n2 := (vst_le (PS.map (sge false)) ls).1
    rw [← hN1] at n1
    rw [← hN2] at n2
    have hall : V = (N1 : Int) - (N2 : Int) := by
      rw [HV.out, hN1, hN2, Hls.out, vend_eq, vend_eq, HPS.out]; rfl
    have HN1 := Lib.hid hN1.symm
    have HN2 := Lib.hid hN2.symm
    have hw : IntKind.i64.wrap ((N1 : Int) - (N2 : Int)) = V := by rw [hall]; exact IntWalk.i64_in _ (by omega)
    clear hN1 hN2 hall
    go_wp2_with fail
    refine (qall_any ikN ikN _ _ _ F _ _ _ G _ HF.out HG.out F9 (by omega) G6' (by omega)).mono ?_
    rintro e w17 ⟨rfl, hb17⟩
    rw [← HV.out]
    replace HS := Lib.hid (HS.out.below hb17)
    replace HT := Lib.hid (HT.out.move hb17); replace R0 := Lib.hid (R0.out.move hb17); replace R1 := Lib.hid (R1.out.move hb17); replace HF := Lib.hid (HF.out.below ikN hb17); replace HG := Lib.hid (HG.out.below ikN hb17); replace Hb := Lib.hid (Hb.out.trans (hb17.mono Hb.out.size))
    clear hb17
    go_wp2_with fail
    refine (varend_any true _ _ _ PS _ HS.out KE.out hlp).mono ?_
    rintro e w8 ⟨rfl, hb8⟩
    rw [HN1.out]
    replace HS := Lib.hid (HS.out.below hb8)
    replace HT := Lib.hid (HT.out.move hb8); replace R0 := Lib.hid (R0.out.move hb8); replace R1 := Lib.hid (R1.out.move hb8); replace HF := Lib.hid (HF.out.below ikN hb8); replace HG := Lib.hid (HG.out.below ikN hb8); replace Hb := Lib.hid (Hb.out.trans (hb8.mono Hb.out.size))
    clear hb8
    go_wp2_with fail
    refine (varend_any false _ _ _ PS _ HS.out KE.out hlp).mono ?_
    rintro e w9 ⟨rfl, hb9⟩
    rw [HN2.out]
    replace HS := Lib.hid (HS.out.below hb9)
    replace HT := Lib.hid (HT.out.move hb9); replace R0 := Lib.hid (R0.out.move hb9); replace R1 := Lib.hid (R1.out.move hb9); replace HF := Lib.hid (HF.out.below ikN hb9); replace HG := Lib.hid (HG.out.below ikN hb9); replace Hb := Lib.hid (Hb.out.trans (hb9.mono Hb.out.size))
    clear hb9
    have k0 := HT.out.c0; have k1 := HT.out.c1; have k2 := HT.out.c2; have k3 := HT.out.c3; have j0 := R0.out.c0; have j1 := R0.out.c1; have j2 := R0.out.c2; have j3 := R1.out.c0; have j4 := R1.out.c1; have j5 := R1.out.c2
    go_wp2_with fail
    refine (less15_any p d p' d' _ hp hd hp' hd').mono ?_
    rintro e w10 ⟨rfl, hb10⟩
    replace HS := Lib.hid (HS.out.below hb10)
    replace HT := Lib.hid (HT.out.move hb10); replace R0 := Lib.hid (R0.out.move hb10); replace R1 := Lib.hid (R1.out.move hb10); replace HF := Lib.hid (HF.out.below ikN hb10); replace HG := Lib.hid (HG.out.below ikN hb10); replace Hb := Lib.hid (Hb.out.trans (hb10.mono Hb.out.size))
    clear hb10
    clear k0 k1 k2 k3 j0 j1 j2 j3 j4 j5
    have k0 := HT.out.c0; have k1 := HT.out.c1; have k2 := HT.out.c2; have k3 := HT.out.c3; have j0 := R0.out.c0; have j1 := R0.out.c1; have j2 := R0.out.c2; have j3 := R1.out.c0; have j4 := R1.out.c1; have j5 := R1.out.c2
    by_cases hlt : frn p d * frd d' < frn p' d' * frd d
    · rw [decide_eq_true hlt]
      have hlt2 := Lib.hid (rt_less hp hd hp' hd' hlt)
      have hpt := Lib.hid ((rt_pt hp hd hp' hd').2 hlt2.out)
      clear hlt
      obtain ⟨S1, hS1⟩ : ∃ S, S = sat (rtz p d) (rtq p d) F := ⟨_, rfl⟩
      obtain ⟨S2, hS2⟩ : ∃ S, S = sat (rtz p' d') (rtq p' d') F := ⟨_, rfl⟩
      have HS1 := Lib.hid hS1
      have HS2 := Lib.hid hS2
      clear hS1 hS2
      have P1 : PoOK (rtz p d) (rtq p d) F := cF.at (by omega) zL qL
      have P2 : PoOK (rtz p' d') (rtq p' d') F := cF.at (by omega) zH qH
      go_wp2_with fail
      refine (signat_any ikN _ _ _ F _ _ _ _ _ _ _ _ _ _ HF.out cF.fit (by omega) R0.out.hz R0.out.hq aL.u aL.v aL.pos P1.ok aL.fz aL.fq).mono ?_
      rintro e w11 ⟨he, hb11⟩
      have he2 : e = .returned (.int .i64 S1) := by rw [HS1.out]; exact he
      subst he2
      replace HS := Lib.hid (HS.out.below hb11)
      replace HT := Lib.hid (HT.out.move hb11); replace R0 := Lib.hid (R0.out.move hb11); replace R1 := Lib.hid (R1.out.move hb11); replace HF := Lib.hid (HF.out.below ikN hb11); replace HG := Lib.hid (HG.out.below ikN hb11); replace Hb := Lib.hid (Hb.out.trans (hb11.mono Hb.out.size))
      clear hb11 he
      clear k0 k1 k2 k3 j0 j1 j2 j3 j4 j5
      have k0 := HT.out.c0; have k1 := HT.out.c1; have k2 := HT.out.c2; have k3 := HT.out.c3; have j0 := R0.out.c0; have j1 := R0.out.c1; have j2 := R0.out.c2; have j3 := R1.out.c0; have j4 := R1.out.c1; have j5 := R1.out.c2
      by_cases c1 : S1 = 0
      · have b1 : (S1 == 0) = true := by rw [c1]; rfl
        clear c1
        go_wp2_with fail
        go_ret
        exact ⟨rfl, Hb.out⟩
      have b1 : (S1 == 0) = false := by rw [beq_eq_false_iff_ne]; exact c1
      have C1 := Lib.hid (show sat (rtz p d) (rtq p d) F ≠ 0 by rw [← HS1.out]; exact c1)
      clear c1
      go_wp2_with fail
      refine (signat_any ikN _ _ _ F _ _ _ _ _ _ _ _ _ _ HF.out cF.fit (by omega) R1.out.hz R1.out.hq aH.u aH.v aH.pos P2.ok aH.fz aH.fq).mono ?_
      rintro e w12 ⟨he, hb12⟩
      have he2 : e = .returned (.int .i64 S2) := by rw [HS2.out]; exact he
      subst he2
      replace HS := Lib.hid (HS.out.below hb12)
      replace HT := Lib.hid (HT.out.move hb12); replace R0 := Lib.hid (R0.out.move hb12); replace R1 := Lib.hid (R1.out.move hb12); replace HF := Lib.hid (HF.out.below ikN hb12); replace HG := Lib.hid (HG.out.below ikN hb12); replace Hb := Lib.hid (Hb.out.trans (hb12.mono Hb.out.size))
      clear hb12 he
      clear k0 k1 k2 k3 j0 j1 j2 j3 j4 j5
      have k0 := HT.out.c0; have k1 := HT.out.c1; have k2 := HT.out.c2; have k3 := HT.out.c3; have j0 := R0.out.c0; have j1 := R0.out.c1; have j2 := R0.out.c2; have j3 := R1.out.c0; have j4 := R1.out.c1; have j5 := R1.out.c2
      by_cases c2 : S2 = 0
      · have b2 : (S2 == 0) = true := by rw [c2]; rfl
        clear c2
        go_wp2_with fail
        go_ret
        exact ⟨rfl, Hb.out⟩
      have b2 : (S2 == 0) = false := by rw [beq_eq_false_iff_ne]; exact c2
      have C2 := Lib.hid (show sat (rtz p' d') (rtq p' d') F ≠ 0 by rw [← HS2.out]; exact c2)
      obtain ⟨N3, hN3⟩ : ∃ N, N = (vst (PS.map (sat (rtz p d) (rtq p d))) ls).1 := ⟨_, rfl⟩
      obtain ⟨N4, hN4⟩ : ∃ N, N = (vst (PS.map (sat (rtz p' d') (rtq p' d'))) ls).1 := ⟨_, rfl⟩
      have n3 := (vst_le (PS.map (sat (rtz p d) (rtq p d))) ls).1
      have n4 := (vst_le (PS.map (sat (rtz p' d') (rtq p' d'))) ls).1
      rw [← hN3] at n3
      rw [← hN4] at n4
      have hcn : nqi F G (Pt.of (((rtz p d : Int) : Rat) / ((rtq p d : Nat) : Rat))) (Pt.of (((rtz p' d' : Int) : Rat) / ((rtq p' d' : Nat) : Rat))) = (N3 : Int) - (N4 : Int) := by
        unfold nqi
        rw [hN3, hN4, Hls.out, vat_eq aL.pos, vat_eq aH.pos, HPS.out]
      have HCN := Lib.hid hcn
      have HN3 := Lib.hid hN3.symm
      have HN4 := Lib.hid hN4.symm
      have hw2 : IntKind.i64.wrap ((N3 : Int) - (N4 : Int)) = (N3 : Int) - (N4 : Int) := IntWalk.i64_in _ (by omega)
      have e1 : ∀ x ∈ PS, PoOK (rtz p d) (rtq p d) x := fun x hx => (q2 x hx).at zL qL
      have e2 : ∀ x ∈ PS, PoOK (rtz p' d') (rtq p' d') x := fun x hx => (q2 x hx).at zH qH
      replace aL := And.intro aL (And.intro zL qL)
      replace aH := And.intro aH (And.intro zH qH)
      have hlF : l2 ≤ 1000000 := by omega
      obtain ⟨wB, hwB⟩ : ∃ wB, wB = w12 := ⟨_, rfl⟩
      rw [← hwB] at HT R0 R1 HF HG HS Hb k0 k1 k2 k3 j0 j1 j2 j3 j4 j5 ⊢
      clear hwB c2 hcn hN3 hN4 k0 k1 k2 k3 HT
      have G40 : Hid (Below wB.heap.size wB wB) := Lib.hid (Below.refl _ _)
      go_wp2_with fail
      go_region_held3 (fun w' => w'.cell? ⟨g0, 0, none⟩ = some (.bool n0) ∧ w'.cell? ⟨g0, 1, none⟩ = some (.slice B0 l4 c4) ∧ w'.cell? ⟨g0, 2, none⟩ = some (.slice C0 m0' d0) ∧ w'.cell? ⟨g1', 0, none⟩ = some (.bool n1') ∧ w'.cell? ⟨g1', 1, none⟩ = some (.slice B1 l5 c5) ∧ w'.cell? ⟨g1', 2, none⟩ = some (.slice C1' m1' d1')) (go_keep) (first
        | (go_at_call 31; (have _hx := G42); go_must (refine (vars_any _ _ _ PS _ _ _ _ _ _ _ _ _ _ ?_ ?_ ?_ aH.1 e2 hlp).mono ?_; (exact (HS.out.below G42.out).below (by (repeat (first | exact Below.refl _ _ | refine Below.drew ?_ | refine Below.alloc ?_ (by first | (simp; done) | (simp; omega) | omega) _ | refine Below.setCell ?_ (by first | (simp; done) | (simp; omega) | omega) _)))); (exact (R1.out.move G42.out).hz.below (by (repeat (first | exact Below.refl _ _ | refine Below.drew ?_ | refine Below.alloc ?_ (by first | (simp; done) | (simp; omega) | omega) _ | refine Below.setCell ?_ (by first | (simp; done) | (simp; omega) | omega) _)))); (exact (R1.out.move G42.out).hq.below (by (repeat (first | exact Below.refl _ _ | refine Below.drew ?_ | refine Below.alloc ?_ (by first | (simp; done) | (simp; omega) | omega) _ | refine Below.setCell ?_ (by first | (simp; done) | (simp; omega) | omega) _)))); rintro e w43 ⟨rfl, hb43⟩; rw [HN4.out]; have G43 : Hid (Below wB.heap.size wB w43) := Lib.hid (G42.out.trans ((Below.trans (by (repeat (first | exact Below.refl _ _ | refine Below.drew ?_ | refine Below.alloc ?_ (by first | (simp; done) | (simp; omega) | omega) _ | refine Below.setCell ?_ (by first | (simp; done) | (simp; omega) | omega) _))) (hb43.mono (by simp <;> omega))).mono G42.out.size)); have j0_43 := (R0.out.move G43.out).c0; have j1_43 := (R0.out.move G43.out).c1; have j2_43 := (R0.out.move G43.out).c2; have j3_43 := (R1.out.move G43.out).c0; have j4_43 := (R1.out.move G43.out).c1; have j5_43 := (R1.out.move G43.out).c2; clear hb43))
        | (go_at_call 31; (have _hx := G41); go_must (refine (vars_any _ _ _ PS _ _ _ _ _ _ _ _ _ _ ?_ ?_ ?_ aL.1 e1 hlp).mono ?_; (exact (HS.out.below G41.out).below (by (repeat (first | exact Below.refl _ _ | refine Below.drew ?_ | refine Below.alloc ?_ (by first | (simp; done) | (simp; omega) | omega) _ | refine Below.setCell ?_ (by first | (simp; done) | (simp; omega) | omega) _)))); (exact (R0.out.move G41.out).hz.below (by (repeat (first | exact Below.refl _ _ | refine Below.drew ?_ | refine Below.alloc ?_ (by first | (simp; done) | (simp; omega) | omega) _ | refine Below.setCell ?_ (by first | (simp; done) | (simp; omega) | omega) _)))); (exact (R0.out.move G41.out).hq.below (by (repeat (first | exact Below.refl _ _ | refine Below.drew ?_ | refine Below.alloc ?_ (by first | (simp; done) | (simp; omega) | omega) _ | refine Below.setCell ?_ (by first | (simp; done) | (simp; omega) | omega) _)))); rintro e w42 ⟨rfl, hb42⟩; rw [HN3.out]; have G42 : Hid (Below wB.heap.size wB w42) := Lib.hid (G41.out.trans ((Below.trans (by (repeat (first | exact Below.refl _ _ | refine Below.drew ?_ | refine Below.alloc ?_ (by first | (simp; done) | (simp; omega) | omega) _ | refine Below.setCell ?_ (by first | (simp; done) | (simp; omega) | omega) _))) (hb42.mono (by simp <;> omega))).mono G41.out.size)); have j0_42 := (R0.out.move G42.out).c0; have j1_42 := (R0.out.move G42.out).c1; have j2_42 := (R0.out.move G42.out).c2; have j3_42 := (R1.out.move G42.out).c0; have j4_42 := (R1.out.move G42.out).c1; have j5_42 := (R1.out.move G42.out).c2; clear hb42))
        | (go_at_call 32; (have _hx := G40); go_must (refine (query_r ikN ikN _ _ _ F _ _ _ G _ _ _ _ _ _ _ _ _ _ _ _ _ _ _ _ _ _ _ ?_ ?_ hlF F9 f1 G6' ?_ ?_ ?_ ?_ aL.1 aH.1 aL.2.1 aL.2.2 aH.2.1 aH.2.2 hlt2.out hpt.out C1.out C2.out).mono ?_; (exact HF.out.below ikN (by (repeat (first | exact Below.refl _ _ | refine Below.drew ?_ | refine Below.alloc ?_ (by first | (simp; done) | (simp; omega) | omega) _ | refine Below.setCell ?_ (by first | (simp; done) | (simp; omega) | omega) _)))); (exact HG.out.below ikN (by (repeat (first | exact Below.refl _ _ | refine Below.drew ?_ | refine Below.alloc ?_ (by first | (simp; done) | (simp; omega) | omega) _ | refine Below.setCell ?_ (by first | (simp; done) | (simp; omega) | omega) _)))); (exact R0.out.hz.below (by (repeat (first | exact Below.refl _ _ | refine Below.drew ?_ | refine Below.alloc ?_ (by first | (simp; done) | (simp; omega) | omega) _ | refine Below.setCell ?_ (by first | (simp; done) | (simp; omega) | omega) _)))); (exact R0.out.hq.below (by (repeat (first | exact Below.refl _ _ | refine Below.drew ?_ | refine Below.alloc ?_ (by first | (simp; done) | (simp; omega) | omega) _ | refine Below.setCell ?_ (by first | (simp; done) | (simp; omega) | omega) _)))); (exact R1.out.hz.below (by (repeat (first | exact Below.refl _ _ | refine Below.drew ?_ | refine Below.alloc ?_ (by first | (simp; done) | (simp; omega) | omega) _ | refine Below.setCell ?_ (by first | (simp; done) | (simp; omega) | omega) _)))); (exact R1.out.hq.below (by (repeat (first | exact Below.refl _ _ | refine Below.drew ?_ | refine Below.alloc ?_ (by first | (simp; done) | (simp; omega) | omega) _ | refine Below.setCell ?_ (by first | (simp; done) | (simp; omega) | omega) _)))); rintro e w41 ⟨rfl, hb41⟩; rw [HCN.out]; have G41 : Hid (Below wB.heap.size wB w41) := Lib.hid (G40.out.trans ((Below.trans (by (repeat (first | exact Below.refl _ _ | refine Below.drew ?_ | refine Below.alloc ?_ (by first | (simp; done) | (simp; omega) | omega) _ | refine Below.setCell ?_ (by first | (simp; done) | (simp; omega) | omega) _))) (hb41.mono (by simp <;> omega))).mono G40.out.size)); have j0_41 := (R0.out.move G41.out).c0; have j1_41 := (R0.out.move G41.out).c1; have j2_41 := (R0.out.move G41.out).c2; have j3_41 := (R1.out.move G41.out).c0; have j4_41 := (R1.out.move G41.out).c1; have j5_41 := (R1.out.move G41.out).c2; clear hb41)))
      rename_i hHeld
      clear hHeld
      have HbE := Lib.hid (Hb.out.trans (G43.out.mono Hb.out.size))
      clear R0 R1 HF HG HS Hb
      go_wp2
      go_ret
      exact ⟨rfl, HbE.out⟩
    · rw [decide_eq_false hlt]
      clear hlt
      go_wp2
      go_ret
      exact ⟨rfl, Hb.out⟩
  · exact ⟨fun _ => false, fun _ => false, fun _ => false, fun _ => undef, fun _ => undef, ⟨Below.refl _ _, fun _ h => (by cases h), fun _ h => (by cases h), fun _ _ _ h => (by cases h), fun _ h => (by cases h)⟩, rfl, rfl⟩
end Go.Proofs.Ytccapbajbniknaa
