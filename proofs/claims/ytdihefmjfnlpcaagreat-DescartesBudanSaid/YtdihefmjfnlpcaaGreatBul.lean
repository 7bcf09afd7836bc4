/- The law DescartesBudan: its walk. -/
import Derived.Test.YtdihefmjfnlpcaaGreatShk
import Derived.Test.YtdihefmjfnlpcaaGreatAwd
import Derived.Test.YtdihefmjfnlpcaaGreatStf
namespace Go.Proofs.YtdihefmjfnlpcaaGreat
open Go Go.RowKit

/-- a box with three numbers -/
structure Tri (W : World) (g : Nat) (x0 x1 x2 : Int) : Prop where
  c0 : W.cell? ⟨g, 0, none⟩ = some (.int .i8 x0)
  c1 : W.cell? ⟨g, 1, none⟩ = some (.int .i8 x1)
  c2 : W.cell? ⟨g, 2, none⟩ = some (.int .i8 x2)
theorem Tri.move {W W' : World} {g : Nat} {x0 x1 x2 : Int} (h : Tri W g x0 x1 x2) (hb : Below W.heap.size W W') : Tri W' g x0 x1 x2 := by
  obtain ⟨hc, _⟩ := bcellS hb
  exact ⟨(hc _ (by rw [h.c0]; rfl)).trans h.c0, (hc _ (by rw [h.c1]; rfl)).trans h.c1, (hc _ (by rw [h.c2]; rfl)).trans h.c2⟩
theorem Tri.make (W : World) (x0 x1 x2 : Int) (t : TypeId) : Tri (W.alloc (.cells #[.int .i8 x0, .int .i8 x1, .int .i8 x2] t)) W.heap.size x0 x1 x2 := ⟨by go_simp, by go_simp, by go_simp⟩

set_option maxRecDepth 100000 in
set_option maxHeartbeats 8000000 in
theorem law_budan (A : Option Addr) (len cap : Nat) (cs : List Int) (x0 x1 x2 : Int) (w : World) (h : I16At w A len cap cs) (hlm : len ≤ 9223372036854775807) (h0 : -128 ≤ x0 ∧ x0 ≤ 127) (h1 : -128 ≤ x1 ∧ x1 ≤ 127) (h2 : -128 ≤ x2 ∧ x2 ≤ 127) :
    Calls Tryz.prog 6 #[.slice A len cap, .agg #[.int .i8 x0, .int .i8 x1, .int .i8 x2]] w fun e w' => e = .returned (.bool true) ∧ Below w.heap.size w w' := by
  have hb0 := below_new w (.cells #[.int .i8 x0, .int .i8 x1, .int .i8 x2] 60)
  have HT := Lib.hid (Tri.make w x0 x1 x2 60)
  have Hi := Lib.hid (h.below hb0)
  have Hb := Lib.hid hb0
  have hgw : w.heap.size < (w.alloc (.cells #[.int .i8 x0, .int .i8 x1, .int .i8 x2] 60)).heap.size := by simp
  clear hb0 h
  go_enter Tryz.func6, Tryz.ntmps6
  go_wp2_with fail
  refine (awake17_any _).mono ?_
  rintro e wa ⟨rfl, hba⟩
  replace HT := Lib.hid (HT.out.move hba)
  replace Hi := Lib.hid (Hi.out.below hba)
  replace Hb := Lib.hid (Hb.out.trans (hba.mono Hb.out.size))
  replace hgw := Nat.lt_of_lt_of_le hgw hba.size
  have k0 := HT.out.c0
  have k1 := HT.out.c1
  have k2 := HT.out.c2
  obtain ⟨gt, hgt⟩ : ∃ gt, gt = w.heap.size := ⟨_, rfl⟩
  rw [← hgt] at HT hgw k0 k1 k2 ⊢
  have Hgt := Lib.hid hgt
  clear hba hgt
  by_cases g1 : x1 < x0
  · have d1 : decide (x1 < x0) = true := by simpa using g1
    go_wp2_with fail
    refine (awake17_any _).mono ?_; rintro e wb ⟨rfl, hbb⟩; replace Hb := Lib.hid (Hb.out.trans (hbb.mono Hb.out.size)); go_wp2; go_ret; exact ⟨rfl, Hb.out⟩
  · have d1 : decide (x1 < x0) = false := by simpa using g1
    by_cases g2 : x2 < x1
    · have d2 : decide (x2 < x1) = true := by simpa using g2
      go_wp2_with fail
      refine (awake17_any _).mono ?_; rintro e wb ⟨rfl, hbb⟩; replace Hb := Lib.hid (Hb.out.trans (hbb.mono Hb.out.size)); go_wp2; go_ret; exact ⟨rfl, Hb.out⟩
    · have d2 : decide (x2 < x1) = false := by simpa using g2
      have g1' : x0 ≤ x1 := by omega
      have g2' : x1 ≤ x2 := by omega
      clear g1 g2
      go_wp2_with fail
      refine (short_any _ _ _ 8 _ _ Hi.out (by omega) hlm).mono ?_
      rintro e w2 ⟨A2, l2, c2, rfl, hf, hb2⟩
      replace HT := Lib.hid (HT.out.move hb2)
      replace Hb := Lib.hid (Hb.out.trans (hb2.mono Hb.out.size))
      replace hgw := Nat.lt_of_lt_of_le hgw hb2.size
      have hcs : ∀ c ∈ cs, -32768 ≤ c ∧ c ≤ 32767 := Hi.out.range
      replace k0 := HT.out.c0
      replace k1 := HT.out.c1
      replace k2 := HT.out.c2
      have HF := Lib.hid hf
      clear hb2 hf Hi
      go_wp2_with fail
      have i0 : IntKind.i64.wrap x0 = x0 := IntWalk.i64_in _ (by omega)
      have i1 : IntKind.i64.wrap x1 = x1 := IntWalk.i64_in _ (by omega)
      have i2 : IntKind.i64.wrap x2 = x2 := IntWalk.i64_in _ (by omega)
      refine wp_region_held_drew (S := fun w' => w'.cell? ⟨gt, 0, none⟩ = some (.int .i8 x0) ∧ w'.cell? ⟨gt, 1, none⟩ = some (.int .i8 x1) ∧ w'.cell? ⟨gt, 2, none⟩ = some (.int .i8 x2)) (by kernel_rfl) (by (try dsimp only); go_keep) (fun hHeld => ?_)
      (refine take_at (i := 0) (oi := _) (v := ?_) rfl rfl (by kernel_rfl) (by kernel_rfl) (by kernel_rfl) (fun _ _ _ h => h) (Or.inl ⟨by rfl, ?_⟩) (by assumption) ?_; rotate_left; (focus (intro w hSw; (try dsimp only at hSw); go_simp; (try with_reducible rfl))); (simp only [put_lit, List.set]))
      (refine take_at (i := 1) (oi := _) (v := ?_) rfl rfl (by kernel_rfl) (by kernel_rfl) (by kernel_rfl) (fun _ _ _ h => h) (Or.inl ⟨by rfl, ?_⟩) (by assumption) ?_; rotate_left; (focus (intro w hSw; (try dsimp only at hSw); go_simp; (try with_reducible rfl))); (simp only [put_lit, List.set]))
      (refine take_at (i := 2) (oi := _) (v := ?_) rfl rfl (by kernel_rfl) (by kernel_rfl) (by kernel_rfl) (fun _ _ _ h => h) (Or.inl ⟨by rfl, ?_⟩) (by assumption) ?_; rotate_left; (focus (intro w hSw; (try dsimp only at hSw); go_simp; (try with_reducible rfl))); (simp only [put_lit, List.set]))
      (refine take_at (i := 4) (oi := _) (v := ?_) rfl rfl (by kernel_rfl) (by kernel_rfl) (by kernel_rfl) (fun _ _ _ h => h) (Or.inl ⟨by rfl, ?_⟩) (by assumption) ?_; rotate_left; (focus (intro w hSw; (try dsimp only at hSw); go_simp; (try with_reducible rfl))); (simp only [put_lit, List.set]))
      (refine take_at (i := 5) (oi := _) (v := ?_) rfl rfl (by kernel_rfl) (by kernel_rfl) (by kernel_rfl) (fun _ _ _ h => h) (Or.inl ⟨by rfl, ?_⟩) (by assumption) ?_; rotate_left; (focus (intro w hSw; (try dsimp only at hSw); go_simp; (try with_reducible rfl))); (simp only [put_lit, List.set]))
      (refine take_at (i := 6) (oi := _) (v := ?_) rfl rfl (by kernel_rfl) (by kernel_rfl) (by kernel_rfl) (fun _ _ _ h => h) (Or.inl ⟨by rfl, ?_⟩) (by assumption) ?_; rotate_left; (focus (intro w hSw; (try dsimp only at hSw); go_simp; (try with_reducible rfl))); (simp only [put_lit, List.set]))
      (refine take_at (i := 8) (oi := _) (v := ?_) rfl rfl (by kernel_rfl) (by kernel_rfl) (by kernel_rfl) (fun _ _ _ h => h) (Or.inl ⟨by rfl, ?_⟩) (by assumption) ?_; rotate_left; (focus (intro w hSw; (try dsimp only at hSw); go_simp; (try with_reducible rfl))); (simp only [put_lit, List.set]))
      (refine take_at (i := 9) (oi := _) (v := ?_) rfl rfl (by kernel_rfl) (by kernel_rfl) (by kernel_rfl) (fun _ _ _ h => h) (Or.inl ⟨by rfl, ?_⟩) (by assumption) ?_; rotate_left; (focus (intro w hSw; (try dsimp only at hSw); go_simp; (try with_reducible rfl))); (simp only [put_lit, List.set]))
      (refine take_at (i := 10) (oi := _) (v := ?_) rfl rfl (by kernel_rfl) (by kernel_rfl) (by kernel_rfl) (fun _ _ _ h => h) (Or.inl ⟨by rfl, ?_⟩) (by assumption) ?_; rotate_left; (focus (intro w hSw; (try dsimp only at hSw); go_simp; (try with_reducible rfl))); (simp only [put_lit, List.set]))
      refine wpAnyH_inv (Inv := fun listed a w => ∃ c m s v u, BI (fun i => if i = 0 then x0 else if i = 1 then x1 else x2) w2.drew w c m s v u ∧ listed = #[true, true, true, c 0, true, true, true, c 1, true, true, true, c 2, m 0, m 1, m 2, s 0, s 1, s 2] ∧ a = ⟨#[.slice A len cap, .agg #[.int .i8 x0, .int .i8 x1, .int .i8 x2], undef, .pointer (some ⟨gt, 0, none⟩), .bool false, .slice A2 l2 c2, u 0, u 1, u 2, .bool true, .bool false, .bool false, .pointer (some ⟨gt, 0, none⟩), .int .i8 x0, .pointer (some ⟨gt, 1, none⟩), .int .i8 x1, .bool false, .bool false, .bool false, .pointer (some ⟨gt, 1, none⟩), .int .i8 x1, .pointer (some ⟨gt, 2, none⟩), .int .i8 x2, .bool false, .bool false, undef, .slice A len cap, .slice A2 l2 c2, .pointer (some ⟨gt, 0, none⟩), .int .i8 x0, .int .i64 x0, v 0, .pointer (some ⟨gt, 1, none⟩), .int .i8 x1, .int .i64 x1, v 1, .pointer (some ⟨gt, 2, none⟩), .int .i8 x2, .int .i64 x2, v 2, undef, undef, undef, undef, undef, undef, undef, undef, undef, undef, undef, undef, undef, undef, undef, undef, undef, undef, undef, undef, undef, undef, undef, undef, undef, undef, undef, undef, undef, undef, undef, undef, undef, undef, undef, undef, undef, undef, undef, undef, undef, undef, undef, undef, undef, undef, undef], []⟩) ?_ ?_ ?_ 9 _ _ _ (by decide +kernel) ?_
      · rintro listed a w ⟨c, m, s, v, u, hB, rfl, rfl⟩
        have hT := (Tri.mk hHeld.1 hHeld.2.1 hHeld.2.2).move hB.b
        exact ⟨hT.c0, hT.c1, hT.c2⟩
      · rintro listed a w i o ⟨c, m, s, v, u, hB, rfl, rfl⟩ ho hl hd K hK
        have hi : i < 18 := (Array.getElem?_eq_some_iff.1 ho).1
        have hi' : i = 0 ∨ i = 1 ∨ i = 2 ∨ i = 3 ∨ i = 4 ∨ i = 5 ∨ i = 6 ∨ i = 7 ∨ i = 8 ∨ i = 9 ∨ i = 10 ∨ i = 11 ∨ i = 12 ∨ i = 13 ∨ i = 14 ∨ i = 15 ∨ i = 16 ∨ i = 17 := by omega
        rcases hi' with rfl | rfl | rfl | rfl | rfl | rfl | rfl | rfl | rfl | rfl | rfl | rfl | rfl | rfl | rfl | rfl | rfl | rfl
        · cases hl
        · cases hl
        · cases hl
        · obtain rfl := Option.some.inj ho; go_simp
          refine (rof_any x0 _ (by unfold I64; omega)).mono ?_
          rintro e w' ⟨⟨n, B, l, d, C, k, q, rfl, hz, hq⟩, hb⟩
          exact hK.out _ _ ⟨_, _, _, _, _, hB.call hb 0 ⟨_, _, _, _, _, _, _, rfl, hz, hq⟩, rfl, rfl⟩
        · cases hl
        · cases hl
        · cases hl
        · obtain rfl := Option.some.inj ho; go_simp
          refine (rof_any x1 _ (by unfold I64; omega)).mono ?_
          rintro e w' ⟨⟨n, B, l, d, C, k, q, rfl, hz, hq⟩, hb⟩
          exact hK.out _ _ ⟨_, _, _, _, _, hB.call hb 1 ⟨_, _, _, _, _, _, _, rfl, hz, hq⟩, rfl, rfl⟩
        · cases hl
        · cases hl
        · cases hl
        · obtain rfl := Option.some.inj ho; go_simp
          refine (rof_any x2 _ (by unfold I64; omega)).mono ?_
          rintro e w' ⟨⟨n, B, l, d, C, k, q, rfl, hz, hq⟩, hb⟩
          exact hK.out _ _ ⟨_, _, _, _, _, hB.call hb 2 ⟨_, _, _, _, _, _, _, rfl, hz, hq⟩, rfl, rfl⟩
        · obtain rfl := Option.some.inj ho; go_simp
          exact hK.out _ _ ⟨_, _, _, _, _, hB.alloc 0 hl, rfl, rfl⟩
        · obtain rfl := Option.some.inj ho; go_simp
          exact hK.out _ _ ⟨_, _, _, _, _, hB.alloc 1 hl, rfl, rfl⟩
        · obtain rfl := Option.some.inj ho; go_simp
          exact hK.out _ _ ⟨_, _, _, _, _, hB.alloc 2 hl, rfl, rfl⟩
        · obtain rfl := Option.some.inj ho; have hm := hd ⟨12, .data⟩ (Array.mem_of_getElem? (i := 0) rfl) (by decide +kernel); have hc := hd ⟨3, .data⟩ (Array.mem_of_getElem? (i := 1) rfl) (by decide +kernel); obtain ⟨n, B, l, d, C, k, q, e1, hz, hq⟩ := hB.r 0 hc; obtain ⟨g, _, _, _, _, _, _, _, _, _, e2, hgk, hR, _⟩ := hB.o 0 hm; have hBs := hB.store 0 hm e2 hz hq; simp only [e1, e2]; have r0 := hR.c0; have r1 := hR.c1; have r2 := hR.c2; have r3 := hR.f0; have r4 := hR.f1; have r5 := hR.f2; go_simp; exact hK.out _ _ ⟨_, _, _, _, _, hBs, rfl, by simp only [e1, e2]⟩
        · obtain rfl := Option.some.inj ho; have hm := hd ⟨13, .data⟩ (Array.mem_of_getElem? (i := 0) rfl) (by decide +kernel); have hc := hd ⟨7, .data⟩ (Array.mem_of_getElem? (i := 1) rfl) (by decide +kernel); obtain ⟨n, B, l, d, C, k, q, e1, hz, hq⟩ := hB.r 1 hc; obtain ⟨g, _, _, _, _, _, _, _, _, _, e2, hgk, hR, _⟩ := hB.o 1 hm; have hBs := hB.store 1 hm e2 hz hq; simp only [e1, e2]; have r0 := hR.c0; have r1 := hR.c1; have r2 := hR.c2; have r3 := hR.f0; have r4 := hR.f1; have r5 := hR.f2; go_simp; exact hK.out _ _ ⟨_, _, _, _, _, hBs, rfl, by simp only [e1, e2]⟩
        · obtain rfl := Option.some.inj ho; have hm := hd ⟨14, .data⟩ (Array.mem_of_getElem? (i := 0) rfl) (by decide +kernel); have hc := hd ⟨11, .data⟩ (Array.mem_of_getElem? (i := 1) rfl) (by decide +kernel); obtain ⟨n, B, l, d, C, k, q, e1, hz, hq⟩ := hB.r 2 hc; obtain ⟨g, _, _, _, _, _, _, _, _, _, e2, hgk, hR, _⟩ := hB.o 2 hm; have hBs := hB.store 2 hm e2 hz hq; simp only [e1, e2]; have r0 := hR.c0; have r1 := hR.c1; have r2 := hR.c2; have r3 := hR.f0; have r4 := hR.f1; have r5 := hR.f2; go_simp; exact hK.out _ _ ⟨_, _, _, _, _, hBs, rfl, by simp only [e1, e2]⟩
      · rintro listed a wz ⟨c, m, s, v, u, hB, rfl, rfl⟩ hr
        have hall := ready_nil_all (by kernel_rfl) rfl hr
        have m0 : m 0 = true := hall 12 (by simp)
        have m1 : m 1 = true := hall 13 (by simp)
        have m2 : m 2 = true := hall 14 (by simp)
        have s0 : s 0 = true := hall 15 (by simp)
        have s1 : s 1 = true := hall 16 (by simp)
        have s2 : s 2 = true := hall 17 (by simp)
        obtain ⟨g0, n0, B0, l4, c4, C0, m0', d0, z0, q0, e0, _, R0, f0⟩ := hB.o 0 m0
        obtain ⟨g1, n1, B1, l5, c5, C1, m1', d1', z1, q1, e1, _, R1, f1⟩ := hB.o 1 m1
        obtain ⟨g2, n2, B2, l6, c6, C2, m2', d2', z2, q2, e2, _, R2, f2⟩ := hB.o 2 m2
        obtain ⟨hz0, rfl⟩ := f0 s0
        obtain ⟨hz1, rfl⟩ := f1 s1
        obtain ⟨hz2, rfl⟩ := f2 s2
        replace hz0 : z0 = x0 := hz0
        replace hz1 : z1 = x1 := hz1
        replace hz2 : z2 = x2 := hz2
        rw [hz0] at R0
        rw [hz1] at R1
        rw [hz2] at R2
        have hb3 : Below w2.heap.size w2 wz := (Below.trans (by (repeat (first | exact Below.refl _ _ | refine Below.drew ?_ | refine Below.alloc ?_ (by first | (simp; done) | (simp; omega) | omega) _ | refine Below.setCell ?_ (by first | (simp; done) | (simp; omega) | omega) _))) (hB.b.mono (by simp <;> omega)))
        simp only [e0, e1, e2]
        generalize v 0 = y0
        generalize v 1 = y1
        generalize v 2 = y2
        clear hall m0 m1 m2 s0 s1 s2 f0 f1 f2 hz0 hz1 hz2 e0 e1 e2 hB hr hHeld k0 k1 k2 c m s v u
        obtain ⟨w3, hw3⟩ : ∃ w3, w3 = wz := ⟨_, rfl⟩
        rw [← hw3] at R0 R1 R2 hb3 ⊢
        replace HT := Lib.hid (HT.out.move hb3)
        replace HF := Lib.hid (HF.out.below ikN hb3)
        replace Hb := Lib.hid (Hb.out.trans (hb3.mono Hb.out.size))
        clear hb3 hw3
        obtain ⟨p, hp⟩ : ∃ p, p = ptrim (cs.take 8) := ⟨_, rfl⟩
        rw [← hp] at HF
        have tp : ptrim p = p := by rw [hp, ptrim_ptrim]
        have ht : Tiny 32768 p := by
          rw [hp]
          exact Tiny.trim (tiny_of fun c hc => by have := hcs c (List.mem_of_mem_take hc); omega)
        have hl8 : p.length ≤ 8 := by rw [hp, ptrim_length]; exact Nat.le_trans (plen_le _) (by rw [List.length_take]; omega)
        have fP : FitP p := by rw [hp]; exact (fitp_i16 (fun c hc => hcs c (List.mem_of_mem_take hc))).trim
        have hll := HF.out.length
        have hl2 : l2 ≤ 1000000 := by omega
        have fN : FitP [] := fun k => by rw [List.getD_nil]; exact fit_unit (by decide)
        have hN0 : (0 : Nat) ≤ 1000000 := by omega
        have S0 : ShFit (ptrim p) x0 1 := by rw [tp]; exact shfit_128 hl8 ht tp (by omega)
        have S1 : ShFit (ptrim p) x1 1 := by rw [tp]; exact shfit_128 hl8 ht tp (by omega)
        have S2 : ShFit (ptrim p) x2 1 := by rw [tp]; exact shfit_128 hl8 ht tp (by omega)
        have tN : Tiny 32768 [] := fun k => by rw [List.getD_nil]; decide
        have N0 : ShFit (ptrim []) x0 1 := shfit_128 (p := []) (by simp) tN rfl (by omega)
        have N2 : ShFit (ptrim []) x2 1 := shfit_128 (p := []) (by simp) tN rfl (by omega)
        obtain ⟨V0, hV0⟩ : ∃ V, V = nsh p x0 1 := ⟨_, rfl⟩
        obtain ⟨V1, hV1⟩ : ∃ V, V = nsh p x1 1 := ⟨_, rfl⟩
        obtain ⟨V2, hV2⟩ : ∃ V, V = nsh p x2 1 := ⟨_, rfl⟩
        have v0 : V0 ≤ p.length := by rw [hV0]; exact nsh_le _ _
        have v1 : V1 ≤ p.length := by rw [hV1]; exact nsh_le _ _
        have v2 : V2 ≤ p.length := by rw [hV2]; exact nsh_le _ _
        obtain ⟨W01, hW01⟩ : ∃ W : Int, W = (V0 : Int) - V1 := ⟨_, rfl⟩
        obtain ⟨W12, hW12⟩ : ∃ W : Int, W = (V1 : Int) - V2 := ⟨_, rfl⟩
        obtain ⟨W02, hW02⟩ : ∃ W : Int, W = (V0 : Int) - V2 := ⟨_, rfl⟩
        have E21 : Hid (nbud p x0 1 x1 1 = W01) := Lib.hid (by rw [nbud_one tp g1', ← hV0, ← hV1, hW01])
        have E22 : Hid (nbud p x1 1 x2 1 = W12) := Lib.hid (by rw [nbud_one tp g2', ← hV1, ← hV2, hW12])
        have E23 : Hid (nbud p x0 1 x2 1 = W02) := Lib.hid (by rw [nbud_one tp (Int.le_trans g1' g2'), ← hV0, ← hV2, hW02])
        have E24 : Hid (nbud p x1 1 x1 1 = 0) := Lib.hid (by rw [nbud_one tp (Int.le_refl _)]; omega)
        have E25 : Hid (nbud [] x0 1 x2 1 = 0) := Lib.hid (nbud_nil _ _)
        have E31 := E23
        have wa : IntKind.i64.wrap (W01 + W12) = W02 := by rw [IntWalk.i64_in _ (by omega)]; omega
        have wb : IntKind.i64.wrap ((V0 : Int) - (V2 : Int)) = W02 := by rw [IntWalk.i64_in _ (by omega)]; omega
        have U0 : Hid (V0 = (vst (hsh x0 p) (plen p)).1) := Lib.hid (by rw [hV0, nsh_one tp])
        have U2 : Hid (V2 = (vst (hsh x2 p) (plen p)).1) := Lib.hid (by rw [hV2, nsh_one tp])
        have HR0 := R0.c0
        clear hV0 hV1 hV2 hW01 hW12 hW02 hp hcs HR0
        have j0 := R0.c0
        have j1 := R0.c1
        have j2 := R0.c2
        have j3 := R1.c0
        have j4 := R1.c1
        have j5 := R1.c2
        have j6 := R2.c0
        have j7 := R2.c1
        have j8 := R2.c2
        have jt0 := HT.out.c0
        have jt1 := HT.out.c1
        have jt2 := HT.out.c2
        have HT3 := HT
        replace R0 := Lib.hid R0
        replace R1 := Lib.hid R1
        replace R2 := Lib.hid R2
        have G20 : Hid (Below w3.heap.size w3 w3) := Lib.hid (Below.refl _ _)
        go_wp2_with fail
        go_region_held3 (fun w' => w'.cell? ⟨g0, 0, none⟩ = some (.bool n0) ∧ w'.cell? ⟨g0, 1, none⟩ = some (.slice B0 l4 c4) ∧ w'.cell? ⟨g0, 2, none⟩ = some (.slice C0 m0' d0) ∧ w'.cell? ⟨g1, 0, none⟩ = some (.bool n1) ∧ w'.cell? ⟨g1, 1, none⟩ = some (.slice B1 l5 c5) ∧ w'.cell? ⟨g1, 2, none⟩ = some (.slice C1 m1' d1') ∧ w'.cell? ⟨g2, 0, none⟩ = some (.bool n2) ∧ w'.cell? ⟨g2, 1, none⟩ = some (.slice B2 l6 c6) ∧ w'.cell? ⟨g2, 2, none⟩ = some (.slice C2 m2' d2')) (go_keep) (first
          | (go_at_call 32; (have _hx := G24); go_must (refine (budan_any ikN _ _ _ _ _ _ _ _ _ _ _ _ _ _ _ _ _ _ _ _ _ _ _ ?_ hN0 fN ?_ ?_ ?_ ?_ N0 N2).mono ?_; (exact PolyP.nil _ _ _ _); (exact (R0.out.move G24.out).hz.below (by (repeat (first | exact Below.refl _ _ | refine Below.drew ?_ | refine Below.alloc ?_ (by first | (simp; done) | (simp; omega) | omega) _ | refine Below.setCell ?_ (by first | (simp; done) | (simp; omega) | omega) _)))); (exact (R0.out.move G24.out).hq.below (by (repeat (first | exact Below.refl _ _ | refine Below.drew ?_ | refine Below.alloc ?_ (by first | (simp; done) | (simp; omega) | omega) _ | refine Below.setCell ?_ (by first | (simp; done) | (simp; omega) | omega) _)))); (exact (R2.out.move G24.out).hz.below (by (repeat (first | exact Below.refl _ _ | refine Below.drew ?_ | refine Below.alloc ?_ (by first | (simp; done) | (simp; omega) | omega) _ | refine Below.setCell ?_ (by first | (simp; done) | (simp; omega) | omega) _)))); (exact (R2.out.move G24.out).hq.below (by (repeat (first | exact Below.refl _ _ | refine Below.drew ?_ | refine Below.alloc ?_ (by first | (simp; done) | (simp; omega) | omega) _ | refine Below.setCell ?_ (by first | (simp; done) | (simp; omega) | omega) _)))); rintro e w25 ⟨rfl, hb25⟩; rw [E25.out]; have G25 : Hid (Below w3.heap.size w3 w25) := Lib.hid (G24.out.trans ((Below.trans (by (repeat (first | exact Below.refl _ _ | refine Below.drew ?_ | refine Below.alloc ?_ (by first | (simp; done) | (simp; omega) | omega) _ | refine Below.setCell ?_ (by first | (simp; done) | (simp; omega) | omega) _))) (hb25.mono (by simp <;> omega))).mono G24.out.size)); have j0_25 := (R0.out.move G25.out).c0; have j1_25 := (R0.out.move G25.out).c1; have j2_25 := (R0.out.move G25.out).c2; have j3_25 := (R1.out.move G25.out).c0; have j4_25 := (R1.out.move G25.out).c1; have j5_25 := (R1.out.move G25.out).c2; have j6_25 := (R2.out.move G25.out).c0; have j7_25 := (R2.out.move G25.out).c1; have j8_25 := (R2.out.move G25.out).c2; have jt0_25 := (HT3.out.move G25.out).c0; have jt1_25 := (HT3.out.move G25.out).c1; have jt2_25 := (HT3.out.move G25.out).c2; clear hb25))
          | (go_at_call 32; (have _hx := G23); go_must (refine (budan_any ikN _ _ _ _ _ _ _ _ _ _ _ _ _ _ _ _ _ _ _ _ _ _ _ ?_ hl2 fP ?_ ?_ ?_ ?_ S1 S1).mono ?_; (exact ((HF.out.below ikN G23.out).below ikN (by (repeat (first | exact Below.refl _ _ | refine Below.drew ?_ | refine Below.alloc ?_ (by first | (simp; done) | (simp; omega) | omega) _ | refine Below.setCell ?_ (by first | (simp; done) | (simp; omega) | omega) _))))); (exact (R1.out.move G23.out).hz.below (by (repeat (first | exact Below.refl _ _ | refine Below.drew ?_ | refine Below.alloc ?_ (by first | (simp; done) | (simp; omega) | omega) _ | refine Below.setCell ?_ (by first | (simp; done) | (simp; omega) | omega) _)))); (exact (R1.out.move G23.out).hq.below (by (repeat (first | exact Below.refl _ _ | refine Below.drew ?_ | refine Below.alloc ?_ (by first | (simp; done) | (simp; omega) | omega) _ | refine Below.setCell ?_ (by first | (simp; done) | (simp; omega) | omega) _)))); (exact (R1.out.move G23.out).hz.below (by (repeat (first | exact Below.refl _ _ | refine Below.drew ?_ | refine Below.alloc ?_ (by first | (simp; done) | (simp; omega) | omega) _ | refine Below.setCell ?_ (by first | (simp; done) | (simp; omega) | omega) _)))); (exact (R1.out.move G23.out).hq.below (by (repeat (first | exact Below.refl _ _ | refine Below.drew ?_ | refine Below.alloc ?_ (by first | (simp; done) | (simp; omega) | omega) _ | refine Below.setCell ?_ (by first | (simp; done) | (simp; omega) | omega) _)))); rintro e w24 ⟨rfl, hb24⟩; rw [E24.out]; have G24 : Hid (Below w3.heap.size w3 w24) := Lib.hid (G23.out.trans ((Below.trans (by (repeat (first | exact Below.refl _ _ | refine Below.drew ?_ | refine Below.alloc ?_ (by first | (simp; done) | (simp; omega) | omega) _ | refine Below.setCell ?_ (by first | (simp; done) | (simp; omega) | omega) _))) (hb24.mono (by simp <;> omega))).mono G23.out.size)); have j0_24 := (R0.out.move G24.out).c0; have j1_24 := (R0.out.move G24.out).c1; have j2_24 := (R0.out.move G24.out).c2; have j3_24 := (R1.out.move G24.out).c0; have j4_24 := (R1.out.move G24.out).c1; have j5_24 := (R1.out.move G24.out).c2; have j6_24 := (R2.out.move G24.out).c0; have j7_24 := (R2.out.move G24.out).c1; have j8_24 := (R2.out.move G24.out).c2; have jt0_24 := (HT3.out.move G24.out).c0; have jt1_24 := (HT3.out.move G24.out).c1; have jt2_24 := (HT3.out.move G24.out).c2; clear hb24))
          | (go_at_call 32; (have _hx := G22); go_must (refine (budan_any ikN _ _ _ _ _ _ _ _ _ _ _ _ _ _ _ _ _ _ _ _ _ _ _ ?_ hl2 fP ?_ ?_ ?_ ?_ S0 S2).mono ?_; (exact ((HF.out.below ikN G22.out).below ikN (by (repeat (first | exact Below.refl _ _ | refine Below.drew ?_ | refine Below.alloc ?_ (by first | (simp; done) | (simp; omega) | omega) _ | refine Below.setCell ?_ (by first | (simp; done) | (simp; omega) | omega) _))))); (exact (R0.out.move G22.out).hz.below (by (repeat (first | exact Below.refl _ _ | refine Below.drew ?_ | refine Below.alloc ?_ (by first | (simp; done) | (simp; omega) | omega) _ | refine Below.setCell ?_ (by first | (simp; done) | (simp; omega) | omega) _)))); (exact (R0.out.move G22.out).hq.below (by (repeat (first | exact Below.refl _ _ | refine Below.drew ?_ | refine Below.alloc ?_ (by first | (simp; done) | (simp; omega) | omega) _ | refine Below.setCell ?_ (by first | (simp; done) | (simp; omega) | omega) _)))); (exact (R2.out.move G22.out).hz.below (by (repeat (first | exact Below.refl _ _ | refine Below.drew ?_ | refine Below.alloc ?_ (by first | (simp; done) | (simp; omega) | omega) _ | refine Below.setCell ?_ (by first | (simp; done) | (simp; omega) | omega) _)))); (exact (R2.out.move G22.out).hq.below (by (repeat (first | exact Below.refl _ _ | refine Below.drew ?_ | refine Below.alloc ?_ (by first | (simp; done) | (simp; omega) | omega) _ | refine Below.setCell ?_ (by first | (simp; done) | (simp; omega) | omega) _)))); rintro e w23 ⟨rfl, hb23⟩; rw [E23.out]; have G23 : Hid (Below w3.heap.size w3 w23) := Lib.hid (G22.out.trans ((Below.trans (by (repeat (first | exact Below.refl _ _ | refine Below.drew ?_ | refine Below.alloc ?_ (by first | (simp; done) | (simp; omega) | omega) _ | refine Below.setCell ?_ (by first | (simp; done) | (simp; omega) | omega) _))) (hb23.mono (by simp <;> omega))).mono G22.out.size)); have j0_23 := (R0.out.move G23.out).c0; have j1_23 := (R0.out.move G23.out).c1; have j2_23 := (R0.out.move G23.out).c2; have j3_23 := (R1.out.move G23.out).c0; have j4_23 := (R1.out.move G23.out).c1; have j5_23 := (R1.out.move G23.out).c2; have j6_23 := (R2.out.move G23.out).c0; have j7_23 := (R2.out.move G23.out).c1; have j8_23 := (R2.out.move G23.out).c2; have jt0_23 := (HT3.out.move G23.out).c0; have jt1_23 := (HT3.out.move G23.out).c1; have jt2_23 := (HT3.out.move G23.out).c2; clear hb23))
          | (go_at_call 32; (have _hx := G21); go_must (refine (budan_any ikN _ _ _ _ _ _ _ _ _ _ _ _ _ _ _ _ _ _ _ _ _ _ _ ?_ hl2 fP ?_ ?_ ?_ ?_ S1 S2).mono ?_; (exact ((HF.out.below ikN G21.out).below ikN (by (repeat (first | exact Below.refl _ _ | refine Below.drew ?_ | refine Below.alloc ?_ (by first | (simp; done) | (simp; omega) | omega) _ | refine Below.setCell ?_ (by first | (simp; done) | (simp; omega) | omega) _))))); (exact (R1.out.move G21.out).hz.below (by (repeat (first | exact Below.refl _ _ | refine Below.drew ?_ | refine Below.alloc ?_ (by first | (simp; done) | (simp; omega) | omega) _ | refine Below.setCell ?_ (by first | (simp; done) | (simp; omega) | omega) _)))); (exact (R1.out.move G21.out).hq.below (by (repeat (first | exact Below.refl _ _ | refine Below.drew ?_ | refine Below.alloc ?_ (by first | (simp; done) | (simp; omega) | omega) _ | refine Below.setCell ?_ (by first | (simp; done) | (simp; omega) | omega) _)))); (exact (R2.out.move G21.out).hz.below (by (repeat (first | exact Below.refl _ _ | refine Below.drew ?_ | refine Below.alloc ?_ (by first | (simp; done) | (simp; omega) | omega) _ | refine Below.setCell ?_ (by first | (simp; done) | (simp; omega) | omega) _)))); (exact (R2.out.move G21.out).hq.below (by (repeat (first | exact Below.refl _ _ | refine Below.drew ?_ | refine Below.alloc ?_ (by first | (simp; done) | (simp; omega) | omega) _ | refine Below.setCell ?_ (by first | (simp; done) | (simp; omega) | omega) _)))); rintro e w22 ⟨rfl, hb22⟩; rw [E22.out]; have G22 : Hid (Below w3.heap.size w3 w22) := Lib.hid (G21.out.trans ((Below.trans (by (repeat (first | exact Below.refl _ _ | refine Below.drew ?_ | refine Below.alloc ?_ (by first | (simp; done) | (simp; omega) | omega) _ | refine Below.setCell ?_ (by first | (simp; done) | (simp; omega) | omega) _))) (hb22.mono (by simp <;> omega))).mono G21.out.size)); have j0_22 := (R0.out.move G22.out).c0; have j1_22 := (R0.out.move G22.out).c1; have j2_22 := (R0.out.move G22.out).c2; have j3_22 := (R1.out.move G22.out).c0; have j4_22 := (R1.out.move G22.out).c1; have j5_22 := (R1.out.move G22.out).c2; have j6_22 := (R2.out.move G22.out).c0; have j7_22 := (R2.out.move G22.out).c1; have j8_22 := (R2.out.move G22.out).c2; have jt0_22 := (HT3.out.move G22.out).c0; have jt1_22 := (HT3.out.move G22.out).c1; have jt2_22 := (HT3.out.move G22.out).c2; clear hb22))
          | (go_at_call 32; (have _hx := G20); go_must (refine (budan_any ikN _ _ _ _ _ _ _ _ _ _ _ _ _ _ _ _ _ _ _ _ _ _ _ ?_ hl2 fP ?_ ?_ ?_ ?_ S0 S1).mono ?_; (exact ((HF.out.below ikN G20.out).below ikN (by (repeat (first | exact Below.refl _ _ | refine Below.drew ?_ | refine Below.alloc ?_ (by first | (simp; done) | (simp; omega) | omega) _ | refine Below.setCell ?_ (by first | (simp; done) | (simp; omega) | omega) _))))); (exact (R0.out.move G20.out).hz.below (by (repeat (first | exact Below.refl _ _ | refine Below.drew ?_ | refine Below.alloc ?_ (by first | (simp; done) | (simp; omega) | omega) _ | refine Below.setCell ?_ (by first | (simp; done) | (simp; omega) | omega) _)))); (exact (R0.out.move G20.out).hq.below (by (repeat (first | exact Below.refl _ _ | refine Below.drew ?_ | refine Below.alloc ?_ (by first | (simp; done) | (simp; omega) | omega) _ | refine Below.setCell ?_ (by first | (simp; done) | (simp; omega) | omega) _)))); (exact (R1.out.move G20.out).hz.below (by (repeat (first | exact Below.refl _ _ | refine Below.drew ?_ | refine Below.alloc ?_ (by first | (simp; done) | (simp; omega) | omega) _ | refine Below.setCell ?_ (by first | (simp; done) | (simp; omega) | omega) _)))); (exact (R1.out.move G20.out).hq.below (by (repeat (first | exact Below.refl _ _ | refine Below.drew ?_ | refine Below.alloc ?_ (by first | (simp; done) | (simp; omega) | omega) _ | refine Below.setCell ?_ (by first | (simp; done) | (simp; omega) | omega) _)))); rintro e w21 ⟨rfl, hb21⟩; rw [E21.out]; have G21 : Hid (Below w3.heap.size w3 w21) := Lib.hid (G20.out.trans ((Below.trans (by (repeat (first | exact Below.refl _ _ | refine Below.drew ?_ | refine Below.alloc ?_ (by first | (simp; done) | (simp; omega) | omega) _ | refine Below.setCell ?_ (by first | (simp; done) | (simp; omega) | omega) _))) (hb21.mono (by simp <;> omega))).mono G20.out.size)); have j0_21 := (R0.out.move G21.out).c0; have j1_21 := (R0.out.move G21.out).c1; have j2_21 := (R0.out.move G21.out).c2; have j3_21 := (R1.out.move G21.out).c0; have j4_21 := (R1.out.move G21.out).c1; have j5_21 := (R1.out.move G21.out).c2; have j6_21 := (R2.out.move G21.out).c0; have j7_21 := (R2.out.move G21.out).c1; have j8_21 := (R2.out.move G21.out).c2; have jt0_21 := (HT3.out.move G21.out).c0; have jt1_21 := (HT3.out.move G21.out).c1; have jt2_21 := (HT3.out.move G21.out).c2; clear hb21)))
        rename_i hHeld
        clear hHeld
        have G30 : Hid (Below w25.heap.size w25 w25) := Lib.hid (Below.refl _ _)
        replace R0 := Lib.hid (R0.out.move G25.out)
        replace R2 := Lib.hid (R2.out.move G25.out)
        replace HT := Lib.hid (HT.out.move G25.out)
        replace HF := Lib.hid (HF.out.below ikN G25.out)
        replace Hb := Lib.hid (Hb.out.trans (G25.out.mono Hb.out.size))
        clear j0_21 j1_21 j2_21 j3_21 j4_21 j5_21 j6_21 j7_21 j8_21 j0_22 j1_22 j2_22 j3_22 j4_22 j5_22 j6_22 j7_22 j8_22 j0_23 j1_23 j2_23 j3_23 j4_23 j5_23 j6_23 j7_23 j8_23 j0_24 j1_24 j2_24 j3_24 j4_24 j5_24 j6_24 j7_24 j8_24 j0_25 j1_25 j2_25 j3_25 j4_25 j5_25 j6_25 j7_25 j8_25 jt0_21 jt1_21 jt2_21 jt0_22 jt1_22 jt2_22 jt0_23 jt1_23 jt2_23 jt0_24 jt1_24 jt2_24 jt0_25 jt1_25 jt2_25 j0 j1 j2 j3 j4 j5 j6 j7 j8 jt0 jt1 jt2
        clear HT3 G20 G21 G22 G23 G24 G25 R1 S1 E21 E22 E24 E25 N0 N2 tN
        have j0 := R0.out.c0
        have j1 := R0.out.c1
        have j2 := R0.out.c2
        have j6 := R2.out.c0
        have j7 := R2.out.c1
        have j8 := R2.out.c2
        have jt0 := HT.out.c0
        have jt2 := HT.out.c2
        have sP := fP.smp
        have tpl : p.length = plen p := by rw [← ptrim_length, tp]
        have hpl : plen p ≤ 8 := by omega
        have K0 : ShOK x0 (ptrim p) := by rw [tp]; exact shok_128 hl8 ht (by omega)
        have K2 : ShOK x2 (ptrim p) := by rw [tp]; exact shok_128 hl8 ht (by omega)
        have M0 : SmP (hsh x0 p) := fun c hc => (fit_big (tiny_len hl8 ht (by omega) c hc)).sm
        have M2 : SmP (hsh x2 p) := fun c hc => (fit_big (tiny_len hl8 ht (by omega) c hc)).sm
        have I0 : I64 x0 := by unfold I64; omega
        have I2 : I64 x2 := by unfold I64; omega
        have TP := Lib.hid tp
        go_wp2_with fail
        go_region_held3 (fun w' => w'.cell? ⟨g0, 0, none⟩ = some (.bool n0) ∧ w'.cell? ⟨g0, 1, none⟩ = some (.slice B0 l4 c4) ∧ w'.cell? ⟨g0, 2, none⟩ = some (.slice C0 m0' d0) ∧ w'.cell? ⟨g2, 0, none⟩ = some (.bool n2) ∧ w'.cell? ⟨g2, 1, none⟩ = some (.slice B2 l6 c6) ∧ w'.cell? ⟨g2, 2, none⟩ = some (.slice C2 m2' d2') ∧ w'.cell? ⟨gt, 0, none⟩ = some (.int .i8 x0) ∧ w'.cell? ⟨gt, 2, none⟩ = some (.int .i8 x2)) (go_keep) (first
          | (go_at_call 15; (have _hx := G36); go_must (refine (rvar_any _ _ _ _ _ ?_ M2 (by omega)).mono ?_; (exact (Hr36.out.below ikN (by (repeat (first | exact Below.refl _ _ | refine Below.drew ?_ | refine Below.alloc ?_ (by first | (simp; done) | (simp; omega) | omega) _ | refine Below.setCell ?_ (by first | (simp; done) | (simp; omega) | omega) _)))).at_ ikN); rintro e w37 ⟨rfl, hb37⟩; rw [← U2.out]; have G37 : Hid (Below w25.heap.size w25 w37) := Lib.hid (G36.out.trans ((Below.trans (by (repeat (first | exact Below.refl _ _ | refine Below.drew ?_ | refine Below.alloc ?_ (by first | (simp; done) | (simp; omega) | omega) _ | refine Below.setCell ?_ (by first | (simp; done) | (simp; omega) | omega) _))) (hb37.mono (by simp <;> omega))).mono G36.out.size)); have j0_37 := (R0.out.move G37.out).c0; have j1_37 := (R0.out.move G37.out).c1; have j2_37 := (R0.out.move G37.out).c2; have j6_37 := (R2.out.move G37.out).c0; have j7_37 := (R2.out.move G37.out).c1; have j8_37 := (R2.out.move G37.out).c2; have jt0_37 := (HT.out.move G37.out).c0; have jt2_37 := (HT.out.move G37.out).c2; clear hb37))
          | (go_at_call 33; (have _hx := G35); go_must (refine (pshift_any ikN _ _ _ p _ _ _ _ x2 _ ?_ ?_ sP (by omega) K2).mono ?_; (exact ((HF.out.below ikN G35.out).below ikN (by (repeat (first | exact Below.refl _ _ | refine Below.drew ?_ | refine Below.alloc ?_ (by first | (simp; done) | (simp; omega) | omega) _ | refine Below.setCell ?_ (by first | (simp; done) | (simp; omega) | omega) _))))); (exact Hz35.out.below (by (repeat (first | exact Below.refl _ _ | refine Below.drew ?_ | refine Below.alloc ?_ (by first | (simp; done) | (simp; omega) | omega) _ | refine Below.setCell ?_ (by first | (simp; done) | (simp; omega) | omega) _)))); rintro e w36 ⟨ga36, rfl, hr36, hg36, hb36⟩; rw [tp] at hr36; have Hr36 := Lib.hid ((by have hq := hr36.poly (cap := plen p) (Nat.le_of_eq (by rw [hsh_length, tpl])); rwa [hsh_length, tpl] at hq : PolyN w36 (some ⟨ga36, 0, none⟩) (plen p) (plen p) (hsh x2 p))); clear hr36 hg36; have G36 : Hid (Below w25.heap.size w25 w36) := Lib.hid (G35.out.trans ((Below.trans (by (repeat (first | exact Below.refl _ _ | refine Below.drew ?_ | refine Below.alloc ?_ (by first | (simp; done) | (simp; omega) | omega) _ | refine Below.setCell ?_ (by first | (simp; done) | (simp; omega) | omega) _))) (hb36.mono (by simp <;> omega))).mono G35.out.size)); have j0_36 := (R0.out.move G36.out).c0; have j1_36 := (R0.out.move G36.out).c1; have j2_36 := (R0.out.move G36.out).c2; have j6_36 := (R2.out.move G36.out).c0; have j7_36 := (R2.out.move G36.out).c1; have j8_36 := (R2.out.move G36.out).c2; have jt0_36 := (HT.out.move G36.out).c0; have jt2_36 := (HT.out.move G36.out).c2; clear hb36))
          | (go_at_call 17; (have _hx := G34); go_must (refine (iof_any x2 _ I2).mono ?_; rintro e w35 ⟨na35, Aa35, la35, ca35, rfl, hz35, hb35⟩; have Hz35 := Lib.hid hz35; clear hz35; have G35 : Hid (Below w25.heap.size w25 w35) := Lib.hid (G34.out.trans ((Below.trans (by (repeat (first | exact Below.refl _ _ | refine Below.drew ?_ | refine Below.alloc ?_ (by first | (simp; done) | (simp; omega) | omega) _ | refine Below.setCell ?_ (by first | (simp; done) | (simp; omega) | omega) _))) (hb35.mono (by simp <;> omega))).mono G34.out.size)); have j0_35 := (R0.out.move G35.out).c0; have j1_35 := (R0.out.move G35.out).c1; have j2_35 := (R0.out.move G35.out).c2; have j6_35 := (R2.out.move G35.out).c0; have j7_35 := (R2.out.move G35.out).c1; have j8_35 := (R2.out.move G35.out).c2; have jt0_35 := (HT.out.move G35.out).c0; have jt2_35 := (HT.out.move G35.out).c2; clear hb35))
          | (go_at_call 15; (have _hx := G33); go_must (refine (rvar_any _ _ _ _ _ ?_ M0 (by omega)).mono ?_; (exact (Hr33.out.below ikN (by (repeat (first | exact Below.refl _ _ | refine Below.drew ?_ | refine Below.alloc ?_ (by first | (simp; done) | (simp; omega) | omega) _ | refine Below.setCell ?_ (by first | (simp; done) | (simp; omega) | omega) _)))).at_ ikN); rintro e w34 ⟨rfl, hb34⟩; rw [← U0.out]; have G34 : Hid (Below w25.heap.size w25 w34) := Lib.hid (G33.out.trans ((Below.trans (by (repeat (first | exact Below.refl _ _ | refine Below.drew ?_ | refine Below.alloc ?_ (by first | (simp; done) | (simp; omega) | omega) _ | refine Below.setCell ?_ (by first | (simp; done) | (simp; omega) | omega) _))) (hb34.mono (by simp <;> omega))).mono G33.out.size)); have j0_34 := (R0.out.move G34.out).c0; have j1_34 := (R0.out.move G34.out).c1; have j2_34 := (R0.out.move G34.out).c2; have j6_34 := (R2.out.move G34.out).c0; have j7_34 := (R2.out.move G34.out).c1; have j8_34 := (R2.out.move G34.out).c2; have jt0_34 := (HT.out.move G34.out).c0; have jt2_34 := (HT.out.move G34.out).c2; clear hb34))
          | (go_at_call 33; (have _hx := G32); go_must (refine (pshift_any ikN _ _ _ p _ _ _ _ x0 _ ?_ ?_ sP (by omega) K0).mono ?_; (exact ((HF.out.below ikN G32.out).below ikN (by (repeat (first | exact Below.refl _ _ | refine Below.drew ?_ | refine Below.alloc ?_ (by first | (simp; done) | (simp; omega) | omega) _ | refine Below.setCell ?_ (by first | (simp; done) | (simp; omega) | omega) _))))); (exact Hz32.out.below (by (repeat (first | exact Below.refl _ _ | refine Below.drew ?_ | refine Below.alloc ?_ (by first | (simp; done) | (simp; omega) | omega) _ | refine Below.setCell ?_ (by first | (simp; done) | (simp; omega) | omega) _)))); rintro e w33 ⟨ga33, rfl, hr33, hg33, hb33⟩; rw [tp] at hr33; have Hr33 := Lib.hid ((by have hq := hr33.poly (cap := plen p) (Nat.le_of_eq (by rw [hsh_length, tpl])); rwa [hsh_length, tpl] at hq : PolyN w33 (some ⟨ga33, 0, none⟩) (plen p) (plen p) (hsh x0 p))); clear hr33 hg33; have G33 : Hid (Below w25.heap.size w25 w33) := Lib.hid (G32.out.trans ((Below.trans (by (repeat (first | exact Below.refl _ _ | refine Below.drew ?_ | refine Below.alloc ?_ (by first | (simp; done) | (simp; omega) | omega) _ | refine Below.setCell ?_ (by first | (simp; done) | (simp; omega) | omega) _))) (hb33.mono (by simp <;> omega))).mono G32.out.size)); have j0_33 := (R0.out.move G33.out).c0; have j1_33 := (R0.out.move G33.out).c1; have j2_33 := (R0.out.move G33.out).c2; have j6_33 := (R2.out.move G33.out).c0; have j7_33 := (R2.out.move G33.out).c1; have j8_33 := (R2.out.move G33.out).c2; have jt0_33 := (HT.out.move G33.out).c0; have jt2_33 := (HT.out.move G33.out).c2; clear hb33))
          | (go_at_call 17; (have _hx := G31); go_must (refine (iof_any x0 _ I0).mono ?_; rintro e w32 ⟨na32, Aa32, la32, ca32, rfl, hz32, hb32⟩; have Hz32 := Lib.hid hz32; clear hz32; have G32 : Hid (Below w25.heap.size w25 w32) := Lib.hid (G31.out.trans ((Below.trans (by (repeat (first | exact Below.refl _ _ | refine Below.drew ?_ | refine Below.alloc ?_ (by first | (simp; done) | (simp; omega) | omega) _ | refine Below.setCell ?_ (by first | (simp; done) | (simp; omega) | omega) _))) (hb32.mono (by simp <;> omega))).mono G31.out.size)); have j0_32 := (R0.out.move G32.out).c0; have j1_32 := (R0.out.move G32.out).c1; have j2_32 := (R0.out.move G32.out).c2; have j6_32 := (R2.out.move G32.out).c0; have j7_32 := (R2.out.move G32.out).c1; have j8_32 := (R2.out.move G32.out).c2; have jt0_32 := (HT.out.move G32.out).c0; have jt2_32 := (HT.out.move G32.out).c2; clear hb32))
          | (go_at_call 32; go_must (refine (budan_any ikN _ _ _ _ _ _ _ _ _ _ _ _ _ _ _ _ _ _ _ _ _ _ _ ?_ hl2 fP ?_ ?_ ?_ ?_ S0 S2).mono ?_; (exact ((HF.out.below ikN G30.out).below ikN (by (repeat (first | exact Below.refl _ _ | refine Below.drew ?_ | refine Below.alloc ?_ (by first | (simp; done) | (simp; omega) | omega) _ | refine Below.setCell ?_ (by first | (simp; done) | (simp; omega) | omega) _))))); (exact (R0.out.move G30.out).hz.below (by (repeat (first | exact Below.refl _ _ | refine Below.drew ?_ | refine Below.alloc ?_ (by first | (simp; done) | (simp; omega) | omega) _ | refine Below.setCell ?_ (by first | (simp; done) | (simp; omega) | omega) _)))); (exact (R0.out.move G30.out).hq.below (by (repeat (first | exact Below.refl _ _ | refine Below.drew ?_ | refine Below.alloc ?_ (by first | (simp; done) | (simp; omega) | omega) _ | refine Below.setCell ?_ (by first | (simp; done) | (simp; omega) | omega) _)))); (exact (R2.out.move G30.out).hz.below (by (repeat (first | exact Below.refl _ _ | refine Below.drew ?_ | refine Below.alloc ?_ (by first | (simp; done) | (simp; omega) | omega) _ | refine Below.setCell ?_ (by first | (simp; done) | (simp; omega) | omega) _)))); (exact (R2.out.move G30.out).hq.below (by (repeat (first | exact Below.refl _ _ | refine Below.drew ?_ | refine Below.alloc ?_ (by first | (simp; done) | (simp; omega) | omega) _ | refine Below.setCell ?_ (by first | (simp; done) | (simp; omega) | omega) _)))); rintro e w31 ⟨rfl, hb31⟩; rw [E23.out]; have G31 : Hid (Below w25.heap.size w25 w31) := Lib.hid (G30.out.trans ((Below.trans (by (repeat (first | exact Below.refl _ _ | refine Below.drew ?_ | refine Below.alloc ?_ (by first | (simp; done) | (simp; omega) | omega) _ | refine Below.setCell ?_ (by first | (simp; done) | (simp; omega) | omega) _))) (hb31.mono (by simp <;> omega))).mono G30.out.size)); have j0_31 := (R0.out.move G31.out).c0; have j1_31 := (R0.out.move G31.out).c1; have j2_31 := (R0.out.move G31.out).c2; have j6_31 := (R2.out.move G31.out).c0; have j7_31 := (R2.out.move G31.out).c1; have j8_31 := (R2.out.move G31.out).c2; have jt0_31 := (HT.out.move G31.out).c0; have jt2_31 := (HT.out.move G31.out).c2; clear hb31)))
        have HbE := Lib.hid (Hb.out.trans (G37.out.mono Hb.out.size))
        rename_i hHeld
        clear hHeld
        clear R0 R2 HT HF Hb
        go_wp2
        go_ret
        exact ⟨rfl, HbE.out⟩
      · exact ⟨fun _ => false, fun _ => false, fun _ => false, fun _ => undef, fun _ => undef, ⟨Below.refl _ _, fun _ h => (by cases h), fun _ h => (by cases h), fun _ _ _ h => (by cases h), fun _ h => (by cases h)⟩, rfl, rfl⟩
end Go.Proofs.YtdihefmjfnlpcaaGreat
