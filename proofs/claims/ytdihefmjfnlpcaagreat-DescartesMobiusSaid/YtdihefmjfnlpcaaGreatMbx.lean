/- The law DescartesMobius: its walk. -/
import Derived.Test.YtdihefmjfnlpcaaGreatMbw
import Derived.Test.YtdihefmjfnlpcaaGreatBin
import Derived.Test.YtdihefmjfnlpcaaGreatCmp
import Derived.Test.YtdihefmjfnlpcaaGreatAwd
namespace Go.Proofs.YtdihefmjfnlpcaaGreat
open Go Go.RowKit

theorem mem_bd {p : List Int} {X : Nat} (h : ∀ j, (p.getD j 0).natAbs ≤ X) {c : Int} (hc : c ∈ p) : c.natAbs ≤ X := by
  obtain ⟨j, hj⟩ := List.getElem?_of_mem hc
  have := h j
  rw [List.getD_eq_getElem?_getD, hj] at this
  exact this
theorem updK {X : Nat → Bool} {K S : Nat → Value} (h : ∀ i, X i = true → K i = S i) (j : Nat) {y : Value} (hy : y = S j) : ∀ i, upd X j true i = true → upd K j y i = S i := fun i hi => by
  rcases Nat.decEq i j with hne | heq
  · rw [upd_ne _ _ hne] at hi ⊢; exact h i hi
  · subst heq; rw [upd_same]; exact hy

set_option maxRecDepth 100000 in
set_option maxHeartbeats 8000000 in
theorem law_mobius (A : Option Addr) (len cap : Nat) (cs : List Int) (p d p' d' : Int) (w : World) (h : I8At w A len cap cs) (hlm : len ≤ 9223372036854775807) :
    Calls Tryz.prog 4 #[.slice A len cap, .agg #[.int .i8 p, .int .i8 d], .agg #[.int .i8 p', .int .i8 d']] w fun e w' => e = .returned (.bool true) ∧ Below w.heap.size w w' := by
  obtain ⟨i0, hi, hz0, hz1, hz2⟩ := info_parts info_int64
  have o1 := below_new w (.cells #[.int .i8 p, .int .i8 d] 41)
  have o2 := below_new (w.alloc (.cells #[.int .i8 p, .int .i8 d] 41)) (.cells #[.int .i8 p', .int .i8 d'] 41)
  have Hb := Lib.hid (o1.trans (o2.mono o1.size))
  have r0 := (Pai.make w p d 41).move o2
  have r1 := Pai.make (w.alloc (.cells #[.int .i8 p, .int .i8 d] 41)) p' d' 41
  have R0 := Lib.hid r0
  have R1 := Lib.hid (show Pai ((w.alloc (.cells #[.int .i8 p, .int .i8 d] 41)).alloc (.cells #[.int .i8 p', .int .i8 d'] 41)) (w.heap.size + 1) p' d' by simpa using r1)
  have hi2 := (h.below o1).below o2
  have Hi := Lib.hid hi2
  obtain ⟨g0, hg0⟩ : ∃ g0, g0 = w.heap.size := ⟨_, rfl⟩
  obtain ⟨g1, hg1⟩ : ∃ g1, g1 = w.heap.size + 1 := ⟨_, rfl⟩
  obtain ⟨q, hq⟩ : ∃ q, q = cs.take 7 := ⟨_, rfl⟩
  have hlen := Lib.hid h.length
  have hrange := Lib.hid h.range
  have hql : Hid (q.length = min 7 len) := Lib.hid (by rw [hq, List.length_take, hlen.out])
  have hqg : Hid (∀ k, k < 7 → q[k]?.getD 0 = cs.getD k 0) := Lib.hid (fun k hk => by rw [hq, List.getElem?_take_of_lt hk, List.getD_eq_getElem?_getD])
  have HQ : Hid (∀ j, (q.getD j 0).natAbs ≤ 128) := Lib.hid (fun j => by
    by_cases hj : j < q.length
    · have := hrange.out (q.getD j 0) (by rw [List.getD_eq_getElem?_getD, List.getElem?_eq_getElem hj]; exact List.mem_of_mem_take (by rw [← hq]; exact List.getElem_mem _))
      omega
    · rw [getD_out q (by omega)]; simp)
  have hgw : w.heap.size + 1 < ((w.alloc (.cells #[.int .i8 p, .int .i8 d] 41)).alloc (.cells #[.int .i8 p', .int .i8 d'] 41)).heap.size := by simp
  clear o1 o2 r0 r1 hi2 hq
  go_enter Tryz.func4, Tryz.ntmps4
  go_wp2_with fail
  refine (awake17_any _).mono ?_
  rintro e wa ⟨rfl, hba⟩
  replace R0 := Lib.hid (R0.out.move hba)
  replace R1 := Lib.hid (R1.out.move hba)
  replace Hi := Lib.hid (Hi.out.below hba)
  replace Hb := Lib.hid (Hb.out.trans (hba.mono Hb.out.size))
  replace hgw := Nat.lt_of_lt_of_le hgw hba.size
  rw [← hg1] at R1 hgw
  rw [← hg0] at R0
  have hg01 : g0 < g1 := by omega
  try rw [← hg1]
  try rw [← hg0]
  have Hg0 := Lib.hid hg0
  have Hg1 := Lib.hid hg1
  clear hba h hg0 hg1
  go_wp2
  go_loopw [7, 8] (fun v i wr => ∃ k : Nat, k ≤ len ∧ k ≤ 7 ∧ i = .int .i64 (k : Int) ∧ OwnI 3 wr wa.heap.size v k q ∧ Below wa.heap.size wa wr) (fun _ i _ => len - (intOf i).toNat)
  case atStart => exact ⟨0, Nat.zero_le _, Nat.zero_le _, rfl, World.ownsRow_nil _ _ _ _, Below.refl _ _⟩
  case round =>
    obtain ⟨k, hk, hkn, rfl, hown, hbw⟩ := hrel
    have Hown := Lib.hid hown
    have Hbw := Lib.hid hbw
    clear hown
    by_cases hlt : k < len ∧ k < 7
    · obtain ⟨hlt, hln⟩ := hlt
      obtain ⟨b, off, rfl, hb, hc⟩ := Hi.out.at_ (by omega)
      have hcell := (hbw.cell (p := ⟨b, off + k, none⟩) hb).trans (hc k hlt)
      have hr : -128 ≤ cs.getD k 0 ∧ cs.getD k 0 ≤ 127 := by
        have := hlen.out
        rw [List.getD_eq_getElem?_getD, List.getElem?_eq_getElem (by omega)]
        exact hrange.out _ (List.getElem_mem _)
      obtain ⟨hr1, hr2⟩ := hr
      have hg := hqg.out k hln
      obtain ⟨c, hcv⟩ : ∃ c, c = cs.getD k 0 := ⟨_, rfl⟩
      rw [← hcv] at hcell hr1 hr2 hg
      have hwc : IntKind.i64.wrap c = c := by rw [IntKind.wrap_i64]; omega
      have Hg := Lib.hid hg
      clear hc hbw hg hcv
      go_wp2_with (at_builtin; refine wpList_append_one rfl (.tmp 25) (.tmp 31) 42 rfl wa.heap.size 3 i0 (.int .i64 0) 8 Tryz.underlying42 hi hz0 hz1 hz2 rfl _ (.int .i64 c) k _ rfl rfl Hown.out rfl (by omega) (by omega) Hbw.out.size ?_)
      intro v' w1 hown' hgrow
      have R := Lib.hid (OwnI.step (v' := v') (by rw [hql.out]; omega) Hbw.out.size Hown.out Hbw.out (by rw [Hg.out]; exact hown') hgrow)
      clear hown' hgrow hcell
      go_wp2
      go_roundw
      case rel => exact ⟨k + 1, by omega, by omega, by go_num, R.out.1, R.out.2⟩
      case measure => simp [intOf]; omega
    · have hk2 : k = q.length := by rw [hql.out]; omega
      have ho := Hown.out
      rw [hk2] at ho
      obtain ⟨A', cap', rfl, hat⟩ := ho.at_
      have hll : q.length ≤ 7 := by rw [hql.out]; omega
      obtain ⟨L, hL⟩ : ∃ L, L = q.length := ⟨_, rfl⟩
      rw [← hL] at hat hk2 hll ⊢
      subst hk2
      have hnot : ¬ (k < len ∧ k < 7) := hlt
      replace R0 := Lib.hid (R0.out.move Hbw.out)
      replace R1 := Lib.hid (R1.out.move Hbw.out)
      replace Hb := Lib.hid (Hb.out.trans (Hbw.out.mono Hb.out.size))
      replace hgw := Nat.lt_of_lt_of_le hgw Hbw.out.size
      have HA := Lib.hid hat
      clear ho hbw hi hz0 hz1 hz2 hL Hown Hbw hat hlt Hi
      have j0 := R0.out.c0
      have j1 := R0.out.c1
      have j2 := R1.out.c0
      have j3 := R1.out.c1
      by_cases hkl : k < len
      · have hkn2 : k = 7 := by omega
        subst hkn2
        clear hnot
        obtain ⟨wB, hwB⟩ : ∃ wB, wB = wr := ⟨_, rfl⟩
        rw [← hwB] at HA R0 R1 Hb hgw j0 j1 j2 j3 ⊢
        clear hwB
        obtain ⟨np, hnp⟩ : ∃ x, x = p.tmod 10 := ⟨_, rfl⟩
        obtain ⟨sp, hsp⟩ : ∃ x, x = smd d := ⟨_, rfl⟩
        obtain ⟨np', hnp'⟩ : ∃ x, x = p'.tmod 10 := ⟨_, rfl⟩
        obtain ⟨sp', hsp'⟩ : ∃ x, x = smd d' := ⟨_, rfl⟩
        have n8 : I8 np := by rw [hnp]; exact (small_i8 p d).1
        have d8 : I8 sp := by rw [hsp]; exact (small_i8 p d).2
        have n8' : I8 np' := by rw [hnp']; exact (small_i8 p' d').1
        have d8' : I8 sp' := by rw [hsp']; exact (small_i8 p' d').2
        have ha9 : (frn np sp).natAbs ≤ 9 := by rw [hnp, hsp, (small_fr p d).1]; exact smn_bd p
        have hb9 : (frn np' sp').natAbs ≤ 9 := by rw [hnp', hsp', (small_fr p' d').1]; exact smn_bd p'
        have hd5 : 1 ≤ frd sp ∧ frd sp ≤ 5 := by rw [hsp, (small_fr p d).2]; exact smd_bd d
        have he5 : 1 ≤ frd sp' ∧ frd sp' ≤ 5 := by rw [hsp', (small_fr p' d').2]; exact smd_bd d'
        have Hnp := Lib.hid hnp
        have Hsp := Lib.hid hsp
        have Hnp' := Lib.hid hnp'
        have Hsp' := Lib.hid hsp'
        have hQ8 := HQ.out
        clear hnp hsp hnp' hsp'
        have G40 : Hid (Below wB.heap.size wB wB) := Lib.hid (Below.refl _ _)
        go_wp2_with fail
        go_region_held3 (fun w' => w'.cell? ⟨g0, 0, none⟩ = some (.int .i8 p) ∧ w'.cell? ⟨g0, 1, none⟩ = some (.int .i8 d) ∧ w'.cell? ⟨g1, 0, none⟩ = some (.int .i8 p') ∧ w'.cell? ⟨g1, 1, none⟩ = some (.int .i8 d')) (go_keep) (first
          | (go_at_call 18; (have _hx := G42); go_must (refine (rmobius_any _ _ _ q np sp np' sp' _ ?_ hll hQ8 n8 d8 n8' d8' ha9 hb9 hd5 he5).mono ?_; (exact (HA.out.below G42.out).below (by (repeat (first | exact Below.refl _ _ | refine Below.drew ?_ | refine Below.alloc ?_ (by first | (simp; done) | (simp; omega) | omega) _ | refine Below.setCell ?_ (by first | (simp; done) | (simp; omega) | omega) _)))); rintro e w43 ⟨A1, l1, c1, rfl, h43, hb43⟩; have H1 := Lib.hid h43; clear h43; have G43 : Hid (Below wB.heap.size wB w43) := Lib.hid (G42.out.trans ((Below.trans (by (repeat (first | exact Below.refl _ _ | refine Below.drew ?_ | refine Below.alloc ?_ (by first | (simp; done) | (simp; omega) | omega) _ | refine Below.setCell ?_ (by first | (simp; done) | (simp; omega) | omega) _))) (hb43.mono (by simp <;> omega))).mono G42.out.size)); have j0_43 := (R0.out.move G43.out).c0; have j1_43 := (R0.out.move G43.out).c1; have j2_43 := (R1.out.move G43.out).c0; have j3_43 := (R1.out.move G43.out).c1; clear hb43))
          | (go_at_call 19; (have _hx := G41); go_must (refine (small17_any p' d' _).mono ?_; rintro e w42 ⟨rfl, hb42⟩; rw [← Hnp'.out, ← Hsp'.out]; have G42 : Hid (Below wB.heap.size wB w42) := Lib.hid (G41.out.trans ((Below.trans (by (repeat (first | exact Below.refl _ _ | refine Below.drew ?_ | refine Below.alloc ?_ (by first | (simp; done) | (simp; omega) | omega) _ | refine Below.setCell ?_ (by first | (simp; done) | (simp; omega) | omega) _))) (hb42.mono (by simp <;> omega))).mono G41.out.size)); have j0_42 := (R0.out.move G42.out).c0; have j1_42 := (R0.out.move G42.out).c1; have j2_42 := (R1.out.move G42.out).c0; have j3_42 := (R1.out.move G42.out).c1; clear hb42))
          | (go_at_call 19; (have _hx := G40); go_must (refine (small17_any p d _).mono ?_; rintro e w41 ⟨rfl, hb41⟩; rw [← Hnp.out, ← Hsp.out]; have G41 : Hid (Below wB.heap.size wB w41) := Lib.hid (G40.out.trans ((Below.trans (by (repeat (first | exact Below.refl _ _ | refine Below.drew ?_ | refine Below.alloc ?_ (by first | (simp; done) | (simp; omega) | omega) _ | refine Below.setCell ?_ (by first | (simp; done) | (simp; omega) | omega) _))) (hb41.mono (by simp <;> omega))).mono G40.out.size)); have j0_41 := (R0.out.move G41.out).c0; have j1_41 := (R0.out.move G41.out).c1; have j2_41 := (R1.out.move G41.out).c0; have j3_41 := (R1.out.move G41.out).c1; clear hb41)))
        rename_i hHeld
        clear hHeld
        replace R0 := Lib.hid (R0.out.move G43.out)
        replace R1 := Lib.hid (R1.out.move G43.out)
        replace HA := Lib.hid (HA.out.below G43.out)
        replace Hb := Lib.hid (Hb.out.trans (G43.out.mono Hb.out.size))
        replace hgw := Nat.lt_of_lt_of_le hgw G43.out.size
        clear j0_41 j1_41 j2_41 j3_41 j0_42 j1_42 j2_42 j3_42 j0_43 j1_43 j2_43 j3_43 j0 j1 j2 j3 G40 G41 G42 G43
        go_wp2_with fail
        have j0 := R0.out.c0
        have j1 := R0.out.c1
        have j2 := R1.out.c0
        have j3 := R1.out.c1
        refine wp_region_held_drew (S := fun w' => w'.cell? ⟨g0, 0, none⟩ = some (.int .i8 p) ∧ w'.cell? ⟨g0, 1, none⟩ = some (.int .i8 d) ∧ w'.cell? ⟨g1, 0, none⟩ = some (.int .i8 p') ∧ w'.cell? ⟨g1, 1, none⟩ = some (.int .i8 d')) (by kernel_rfl) (by (try dsimp only); go_keep) (fun hHeld => ?_)
        (refine take_at (i := 0) (oi := _) (v := ?_) rfl rfl (by kernel_rfl) (by kernel_rfl) (by kernel_rfl) (fun _ _ _ h => h) (Or.inl ⟨by rfl, ?_⟩) (by assumption) ?_; rotate_left; (focus (intro w hSw; (try dsimp only at hSw); go_simp; (try with_reducible rfl))); (simp only [put_lit, List.set]))
        (refine take_at (i := 3) (oi := _) (v := ?_) rfl rfl (by kernel_rfl) (by kernel_rfl) (by kernel_rfl) (fun _ _ _ h => h) (Or.inl ⟨by rfl, ?_⟩) (by assumption) ?_; rotate_left; (focus (intro w hSw; (try dsimp only at hSw); go_simp; (try with_reducible rfl))); (simp only [put_lit, List.set]))
        refine wpAnyH_inv (Inv := fun listed a w => ∃ (c m s : Nat → Bool) (v u : Nat → Value) (X : Nat → Bool) (Kv : Nat → Value), BI (fun i => if i = 0 then rtz np sp else rtz np' sp') (fun i => if i = 0 then rtq np sp else rtq np' sp') w43.drew w c m s v u ∧ (∀ i, X i = true → Kv i = (if i = 0 then Value.agg #[.int .i8 np, .int .i8 sp] else Value.agg #[.int .i8 np', .int .i8 sp'])) ∧ listed = #[true, X 0, c 0, true, X 1, c 1, m 0, m 1, s 0, s 1] ∧ a = ⟨#[.slice A len cap, .agg #[.int .i8 p, .int .i8 d], .agg #[.int .i8 p', .int .i8 d'], undef, .pointer (some ⟨g0, 0, none⟩), .pointer (some ⟨g1, 0, none⟩), .bool false, .slice A' 7 cap', .int .i64 7, .slice A1 l1 c1, u 0, u 1, undef, .bool true, .bool false, .int .i64 7, .slice A len cap, .int .i64 (len : Int), .bool true, .bool true, .int .i64 7, .bool false, .bool false, u23, u24, u25, u26, u27, u28, u29, u30, u31, u32, .slice A' 7 cap', .agg #[.int .i8 p, .int .i8 d], .agg #[.int .i8 np, .int .i8 sp], .agg #[.int .i8 p', .int .i8 d'], .agg #[.int .i8 np', .int .i8 sp'], .slice A1 l1 c1, .agg #[.int .i8 p, .int .i8 d], Kv 0, v 0, .agg #[.int .i8 p', .int .i8 d'], Kv 1, v 1, undef, undef, undef, undef, undef, undef, undef, undef, undef, undef, undef, undef, undef, undef, undef, undef, undef, undef], []⟩) ?_ ?_ ?_ 8 _ _ _ (by decide +kernel) ?_
        · rintro listed a w ⟨c, m, s, v, u, X, Kv, hB, hX, rfl, rfl⟩
          have hT0 := (Pai.mk hHeld.1 hHeld.2.1).move hB.b
          have hT1 := (Pai.mk hHeld.2.2.1 hHeld.2.2.2).move hB.b
          exact ⟨hT0.c0, hT0.c1, hT1.c0, hT1.c1⟩
        · rintro listed a w i o ⟨c, m, s, v, u, X, Kv, hB, hX, rfl, rfl⟩ ho hl hdp K hK
          have hi : i < 10 := (Array.getElem?_eq_some_iff.1 ho).1
          have hi' : i = 0 ∨ i = 1 ∨ i = 2 ∨ i = 3 ∨ i = 4 ∨ i = 5 ∨ i = 6 ∨ i = 7 ∨ i = 8 ∨ i = 9 := by omega
          rcases hi' with rfl | rfl | rfl | rfl | rfl | rfl | rfl | rfl | rfl | rfl
          · cases hl
          · obtain rfl := Option.some.inj ho; go_simp
            refine (small17_any p d _).mono ?_
            rintro e w' ⟨rfl, hb⟩
            exact hK.out _ _ ⟨_, _, _, _, _, _, _, hB.below hb, updK hX 0 (by rw [← Hnp.out, ← Hsp.out]; rfl), rfl, rfl⟩
          · obtain rfl := Option.some.inj ho
            have hc := hdp ⟨1, .data⟩ (Array.mem_of_getElem? (i := 0) rfl) (by decide +kernel)
            have ek : Kv 0 = Value.agg #[.int .i8 np, .int .i8 sp] := hX 0 hc
            simp only [ek]
            go_simp
            refine (rat15_any np sp _ n8 d8).mono ?_
            rintro e w' ⟨⟨na, B, l, da, C, K1, Q1, rfl, hz, hq⟩, hb⟩
            exact hK.out _ _ ⟨_, _, _, _, _, _, _, hB.call hb 0 ⟨_, _, _, _, _, _, _, rfl, hz, hq⟩, hX, rfl, by simp only [ek]; rfl⟩
          · cases hl
          · obtain rfl := Option.some.inj ho; go_simp
            refine (small17_any p' d' _).mono ?_
            rintro e w' ⟨rfl, hb⟩
            exact hK.out _ _ ⟨_, _, _, _, _, _, _, hB.below hb, updK hX 1 (by rw [← Hnp'.out, ← Hsp'.out]; rfl), rfl, rfl⟩
          · obtain rfl := Option.some.inj ho
            have hc := hdp ⟨4, .data⟩ (Array.mem_of_getElem? (i := 0) rfl) (by decide +kernel)
            have ek : Kv 1 = Value.agg #[.int .i8 np', .int .i8 sp'] := hX 1 hc
            simp only [ek]
            go_simp
            refine (rat15_any np' sp' _ n8' d8').mono ?_
            rintro e w' ⟨⟨na, B, l, da, C, K1, Q1, rfl, hz, hq⟩, hb⟩
            exact hK.out _ _ ⟨_, _, _, _, _, _, _, hB.call hb 1 ⟨_, _, _, _, _, _, _, rfl, hz, hq⟩, hX, rfl, by simp only [ek]; rfl⟩
          · obtain rfl := Option.some.inj ho; go_simp
            exact hK.out _ _ ⟨_, _, _, _, _, _, _, hB.alloc 0 hl, hX, rfl, rfl⟩
          · obtain rfl := Option.some.inj ho; go_simp
            exact hK.out _ _ ⟨_, _, _, _, _, _, _, hB.alloc 1 hl, hX, rfl, rfl⟩
          · obtain rfl := Option.some.inj ho; have hm := hdp ⟨6, .data⟩ (Array.mem_of_getElem? (i := 0) rfl) (by decide +kernel); have hc := hdp ⟨2, .data⟩ (Array.mem_of_getElem? (i := 1) rfl) (by decide +kernel); obtain ⟨n, B, l, d, C, k, q, e1, hz, hq⟩ := hB.r 0 hc; obtain ⟨g, _, _, _, _, _, _, _, _, _, e2, hgk, hR, _⟩ := hB.o 0 hm; have hBs := hB.store 0 hm e2 hz hq; simp only [e1, e2]; have r0 := hR.c0; have r1 := hR.c1; have r2 := hR.c2; have r3 := hR.f0; have r4 := hR.f1; have r5 := hR.f2; go_simp; exact hK.out _ _ ⟨_, _, _, _, _, _, _, hBs, hX, rfl, by simp only [e1, e2]⟩
          · obtain rfl := Option.some.inj ho; have hm := hdp ⟨7, .data⟩ (Array.mem_of_getElem? (i := 0) rfl) (by decide +kernel); have hc := hdp ⟨5, .data⟩ (Array.mem_of_getElem? (i := 1) rfl) (by decide +kernel); obtain ⟨n, B, l, d, C, k, q, e1, hz, hq⟩ := hB.r 1 hc; obtain ⟨g, _, _, _, _, _, _, _, _, _, e2, hgk, hR, _⟩ := hB.o 1 hm; have hBs := hB.store 1 hm e2 hz hq; simp only [e1, e2]; have r0 := hR.c0; have r1 := hR.c1; have r2 := hR.c2; have r3 := hR.f0; have r4 := hR.f1; have r5 := hR.f2; go_simp; exact hK.out _ _ ⟨_, _, _, _, _, _, _, hBs, hX, rfl, by simp only [e1, e2]⟩
        · rintro listed a wz ⟨c, m, s, v, u, X, Kv, hB, hX, rfl, rfl⟩ hr
          have hall := ready_nil_all (by kernel_rfl) rfl hr
          have m0 : m 0 = true := hall 6 (by simp)
          have m1 : m 1 = true := hall 7 (by simp)
          have s0 : s 0 = true := hall 8 (by simp)
          have s1 : s 1 = true := hall 9 (by simp)
          obtain ⟨b0, n0, B0, l4, c4, C0, m0', d0, z0, q0, e0, _, T0, f0⟩ := hB.o 0 m0
          obtain ⟨b1, n1, B1, l5, c5, C1, m1', d1', z1, q1, e1, _, T1, f1⟩ := hB.o 1 m1
          obtain ⟨hz0, hq0⟩ := f0 s0
          obtain ⟨hz1, hq1⟩ := f1 s1
          replace hz0 : z0 = rtz np sp := hz0
          replace hz1 : z1 = rtz np' sp' := hz1
          replace hq0 : q0 = rtq np sp := hq0
          replace hq1 : q1 = rtq np' sp' := hq1
          have hb3 : Below w43.heap.size w43 wz := (Below.trans (by (repeat (first | exact Below.refl _ _ | refine Below.drew ?_ | refine Below.alloc ?_ (by first | (simp; done) | (simp; omega) | omega) _ | refine Below.setCell ?_ (by first | (simp; done) | (simp; omega) | omega) _))) (hB.b.mono (by simp <;> omega)))
          simp only [e0, e1]
          generalize v 0 = y0
          generalize v 1 = y1
          generalize Kv 0 = y2
          generalize Kv 1 = y3
          clear hall m0 m1 s0 s1 f0 f1 e0 e1 hB hr hHeld j0 j1 j2 j3 hX c m s v u R0 R1 X Kv
          obtain ⟨w3, hw3⟩ : ∃ w3, w3 = wz := ⟨_, rfl⟩
          rw [← hw3] at T0 T1 hb3 ⊢
          replace HA := Lib.hid (HA.out.below hb3)
          replace H1 := Lib.hid ((H1.out.below (by (repeat (first | exact Below.refl _ _ | refine Below.drew ?_ | refine Below.alloc ?_ (by first | (simp; done) | (simp; omega) | omega) _ | refine Below.setCell ?_ (by first | (simp; done) | (simp; omega) | omega) _)))).below hb3)
          replace Hb := Lib.hid (Hb.out.trans (hb3.mono Hb.out.size))
          clear hb3 hw3
          obtain ⟨ga, hga, ea1, ea2, zb0, qp0, qb0⟩ := rt_bd n8 d8
          rw [← hz0] at ea1 zb0
          rw [← hq0] at ea2 qp0 qb0
          obtain ⟨gb, hgb, eb1, eb2, zb1, qp1, qb1⟩ := rt_bd n8' d8'
          rw [← hz1] at eb1 zb1
          rw [← hq1] at eb2 qp1 qb1
          have hplq : plen q ≤ 7 := by have h1 := plen_le q; have h2 := HA.out.length; omega
          obtain ⟨W, hW⟩ : ∃ W, W = rmob q (frn np sp) (frd sp) (frn np' sp') (frd sp') := ⟨_, rfl⟩
          have hWt : ptrim W = W := by rw [hW]; exact rmob_trim _ _ _ _ _
          have hWe : W = pmobius (ptrim q) q0 q1 z0 z1 := by
            rw [← hWt, hW]
            exact rmob_eq z0 z1 q0 q1 hga hgb ea1 ea2 eb1 eb2 qp0 qp1
          have hWb : ∀ j, (W.getD j 0).natAbs ≤ 2305843009213693952 := by rw [hW]; exact rmob_bd hplq hQ8 ha9 hb9 (by omega) (by omega)
          rw [← hW] at H1
          have hok : MobOK (ptrim q) q0 q1 z0 z1 := mobok_small (by rw [plen_ptrim]; exact hplq) (fun j => by rw [ptrim_getD]; exact Nat.le_trans (hQ8 j) (by omega)) zb0 qp0 qb0 zb1 qp1 qb1
          have fitf : FitP (ptrim q) := fun j => Nat.lt_of_le_of_lt (by rw [ptrim_getD]; exact hQ8 j) (by rw [BB_eq]; decide)
          have u0 : U64 z0.natAbs := by unfold U64; rw [BB_eq]; omega
          have u1 : U64 z1.natAbs := by unfold U64; rw [BB_eq]; omega
          have v0 : q0 < BB := by rw [BB_eq]; omega
          have v1 : q1 < BB := by rw [BB_eq]; omega
          have hq64 : ∀ c ∈ q, I64 c := fun c hc => by have := mem_bd hQ8 hc; unfold I64; omega
          have hW64 : ∀ c ∈ W, I64 c := fun c hc => by have := mem_bd hWb hc; unfold I64; omega
          have sW : SmP W := by
            rw [hWe]
            exact (pmobius_fit hok).smp
          have lW : W.length ≤ 7 := by
            rw [← hWt, ptrim_length, hWe]
            have := pmobius_len (f := ptrim q) q0 q1 z0 z1
            rw [plen_ptrim] at this
            omega
          have hl1 : l1 ≤ 7 := by have := H1.out.length; omega
          have HWl := Lib.hid (show W.length = l1 from H1.out.length)
          have HWe := Lib.hid hWe
          have HWt := Lib.hid hWt
          have Ev := Lib.hid (show ((rst W l1).1 : Nat) = (vst W W.length).1 by rw [HWl.out, (vst_rst W l1).1])
          clear hz0 hz1 hq0 hq1 hga hgb ea1 ea2 eb1 eb2 hW hWt hWe hWb zb0 zb1 qb0 qb1 hgw
          go_wp2_with fail
          refine (pol15_any _ _ _ q _ HA.out (by omega) hq64).mono ?_
          rintro e w4 ⟨A4, k4, h4, rfl, hp4, hb4⟩
          have HP := Lib.hid hp4
          have hk4 : k4 ≤ 7 := by have := hp4.length; rw [ptrim_length] at this; omega
          replace T0 := Lib.hid (T0.move hb4)
          replace T1 := Lib.hid (T1.move hb4)
          replace H1 := Lib.hid (H1.out.below hb4)
          replace Hb := Lib.hid (Hb.out.trans (hb4.mono Hb.out.size))
          have j0 := T0.out.c0
          have j1 := T0.out.c1
          have j2 := T0.out.c2
          have j3 := T1.out.c0
          have j4 := T1.out.c1
          have j5 := T1.out.c2
          clear hp4 hb4 HA hq64
          go_wp2_with fail
          refine (mobius_any ikN _ _ _ (ptrim q) _ _ _ _ _ _ _ _ _ _ _ _ _ _ _ _ _ _ _ HP.out (by omega) fitf T0.out.hz T0.out.hq T1.out.hz T1.out.hq u0 v0 qp0 u1 v1 qp1 hok).mono ?_
          rintro e w5 ⟨A5, k5, h5, rfl, hm, hb5⟩
          rw [← HWe.out] at hm
          have hk5 : k5 ≤ 7 := by have := hm.length; omega
          have HM := Lib.hid hm
          replace HP := Lib.hid (HP.out.below ikN hb5)
          replace T0 := Lib.hid (T0.out.move hb5)
          replace T1 := Lib.hid (T1.out.move hb5)
          replace H1 := Lib.hid (H1.out.below hb5)
          replace Hb := Lib.hid (Hb.out.trans (hb5.mono Hb.out.size))
          clear hm hb5 j0 j1 j2 j3 j4 j5
          go_wp2_with fail
          refine (pol15_any _ _ _ W _ H1.out (by omega) hW64).mono ?_
          rintro e w6 ⟨A6, k6, h6, rfl, hp6, hb6⟩
          rw [HWt.out] at hp6
          have hk6 : k6 ≤ 7 := by have := hp6.length; omega
          have HW := Lib.hid hp6
          replace HM := Lib.hid (HM.out.below ikN hb6)
          replace HP := Lib.hid (HP.out.below ikN hb6)
          replace T0 := Lib.hid (T0.out.move hb6)
          replace T1 := Lib.hid (T1.out.move hb6)
          replace H1 := Lib.hid (H1.out.below hb6)
          replace Hb := Lib.hid (Hb.out.trans (hb6.mono Hb.out.size))
          clear hp6 hb6
          go_wp2_with fail
          refine (same_any ikN ikN _ _ _ W _ _ _ W _ HM.out HW.out sW sW (by omega) (by omega)).mono ?_
          rintro e w7 ⟨rfl, hb7⟩
          rw [show decide (ptrim W = ptrim W) = true from decide_eq_true rfl]
          replace HP := Lib.hid (HP.out.below ikN hb7)
          replace T0 := Lib.hid (T0.out.move hb7)
          replace T1 := Lib.hid (T1.out.move hb7)
          replace H1 := Lib.hid (H1.out.below hb7)
          replace Hb := Lib.hid (Hb.out.trans (hb7.mono Hb.out.size))
          have j0 := T0.out.c0
          have j1 := T0.out.c1
          have j2 := T0.out.c2
          have j3 := T1.out.c0
          have j4 := T1.out.c1
          have j5 := T1.out.c2
          clear hb7 HM HW
          go_wp2_with fail
          refine (dvar_any ikN _ _ _ (ptrim q) _ _ _ _ _ _ _ _ _ _ _ _ _ _ _ _ _ _ _ HP.out (by omega) fitf T0.out.hz T0.out.hq T1.out.hz T1.out.hq u0 v0 qp0 u1 v1 qp1 hok (by rw [← HWe.out]; exact sW) (by rw [← HWe.out]; omega)).mono ?_
          rintro e w8 ⟨rfl, hb8⟩
          rw [← HWe.out, ← Ev.out]
          obtain ⟨V, hV⟩ : ∃ V, V = (rst W l1).1 := ⟨_, rfl⟩
          rw [← hV]
          have HV := Lib.hid hV
          replace H1 := Lib.hid (H1.out.below hb8)
          replace Hb := Lib.hid (Hb.out.trans (hb8.mono Hb.out.size))
          clear hb8 j0 j1 j2 j3 j4 j5 T0 T1 HP hV
          go_wp2_with fail
          refine (refvar_any _ _ _ W _ H1.out (by omega)).mono ?_
          rintro e w9 ⟨rfl, rfl⟩
          rw [← HV.out]
          have hvv : ((V : Int) == (V : Int)) = true := by simp
          go_wp2
          go_ret
          exact ⟨rfl, Hb.out⟩
        · exact ⟨fun _ => false, fun _ => false, fun _ => false, fun _ => undef, fun _ => undef, fun _ => false, fun _ => undef, ⟨Below.refl _ _, fun _ h => (by cases h), fun _ h => (by cases h), fun _ _ _ h => (by cases h), fun _ h => (by cases h)⟩, fun _ h => (by cases h), rfl, rfl⟩
      · have hkn2 : k = len := by omega
        subst hkn2
        clear hnot
        obtain ⟨wB, hwB⟩ : ∃ wB, wB = wr := ⟨_, rfl⟩
        rw [← hwB] at HA R0 R1 Hb hgw j0 j1 j2 j3 ⊢
        clear hwB
        obtain ⟨np, hnp⟩ : ∃ x, x = p.tmod 10 := ⟨_, rfl⟩
        obtain ⟨sp, hsp⟩ : ∃ x, x = smd d := ⟨_, rfl⟩
        obtain ⟨np', hnp'⟩ : ∃ x, x = p'.tmod 10 := ⟨_, rfl⟩
        obtain ⟨sp', hsp'⟩ : ∃ x, x = smd d' := ⟨_, rfl⟩
        have n8 : I8 np := by rw [hnp]; exact (small_i8 p d).1
        have d8 : I8 sp := by rw [hsp]; exact (small_i8 p d).2
        have n8' : I8 np' := by rw [hnp']; exact (small_i8 p' d').1
        have d8' : I8 sp' := by rw [hsp']; exact (small_i8 p' d').2
        have ha9 : (frn np sp).natAbs ≤ 9 := by rw [hnp, hsp, (small_fr p d).1]; exact smn_bd p
        have hb9 : (frn np' sp').natAbs ≤ 9 := by rw [hnp', hsp', (small_fr p' d').1]; exact smn_bd p'
        have hd5 : 1 ≤ frd sp ∧ frd sp ≤ 5 := by rw [hsp, (small_fr p d).2]; exact smd_bd d
        have he5 : 1 ≤ frd sp' ∧ frd sp' ≤ 5 := by rw [hsp', (small_fr p' d').2]; exact smd_bd d'
        have Hnp := Lib.hid hnp
        have Hsp := Lib.hid hsp
        have Hnp' := Lib.hid hnp'
        have Hsp' := Lib.hid hsp'
        have hQ8 := HQ.out
        clear hnp hsp hnp' hsp'
        have G40 : Hid (Below wB.heap.size wB wB) := Lib.hid (Below.refl _ _)
        go_wp2_with fail
        go_region_held3 (fun w' => w'.cell? ⟨g0, 0, none⟩ = some (.int .i8 p) ∧ w'.cell? ⟨g0, 1, none⟩ = some (.int .i8 d) ∧ w'.cell? ⟨g1, 0, none⟩ = some (.int .i8 p') ∧ w'.cell? ⟨g1, 1, none⟩ = some (.int .i8 d')) (go_keep) (first
          | (go_at_call 18; (have _hx := G42); go_must (refine (rmobius_any _ _ _ q np sp np' sp' _ ?_ hll hQ8 n8 d8 n8' d8' ha9 hb9 hd5 he5).mono ?_; (exact (HA.out.below G42.out).below (by (repeat (first | exact Below.refl _ _ | refine Below.drew ?_ | refine Below.alloc ?_ (by first | (simp; done) | (simp; omega) | omega) _ | refine Below.setCell ?_ (by first | (simp; done) | (simp; omega) | omega) _)))); rintro e w43 ⟨A1, l1, c1, rfl, h43, hb43⟩; have H1 := Lib.hid h43; clear h43; have G43 : Hid (Below wB.heap.size wB w43) := Lib.hid (G42.out.trans ((Below.trans (by (repeat (first | exact Below.refl _ _ | refine Below.drew ?_ | refine Below.alloc ?_ (by first | (simp; done) | (simp; omega) | omega) _ | refine Below.setCell ?_ (by first | (simp; done) | (simp; omega) | omega) _))) (hb43.mono (by simp <;> omega))).mono G42.out.size)); have j0_43 := (R0.out.move G43.out).c0; have j1_43 := (R0.out.move G43.out).c1; have j2_43 := (R1.out.move G43.out).c0; have j3_43 := (R1.out.move G43.out).c1; clear hb43))
          | (go_at_call 19; (have _hx := G41); go_must (refine (small17_any p' d' _).mono ?_; rintro e w42 ⟨rfl, hb42⟩; rw [← Hnp'.out, ← Hsp'.out]; have G42 : Hid (Below wB.heap.size wB w42) := Lib.hid (G41.out.trans ((Below.trans (by (repeat (first | exact Below.refl _ _ | refine Below.drew ?_ | refine Below.alloc ?_ (by first | (simp; done) | (simp; omega) | omega) _ | refine Below.setCell ?_ (by first | (simp; done) | (simp; omega) | omega) _))) (hb42.mono (by simp <;> omega))).mono G41.out.size)); have j0_42 := (R0.out.move G42.out).c0; have j1_42 := (R0.out.move G42.out).c1; have j2_42 := (R1.out.move G42.out).c0; have j3_42 := (R1.out.move G42.out).c1; clear hb42))
          | (go_at_call 19; (have _hx := G40); go_must (refine (small17_any p d _).mono ?_; rintro e w41 ⟨rfl, hb41⟩; rw [← Hnp.out, ← Hsp.out]; have G41 : Hid (Below wB.heap.size wB w41) := Lib.hid (G40.out.trans ((Below.trans (by (repeat (first | exact Below.refl _ _ | refine Below.drew ?_ | refine Below.alloc ?_ (by first | (simp; done) | (simp; omega) | omega) _ | refine Below.setCell ?_ (by first | (simp; done) | (simp; omega) | omega) _))) (hb41.mono (by simp <;> omega))).mono G40.out.size)); have j0_41 := (R0.out.move G41.out).c0; have j1_41 := (R0.out.move G41.out).c1; have j2_41 := (R1.out.move G41.out).c0; have j3_41 := (R1.out.move G41.out).c1; clear hb41)))
        rename_i hHeld
        clear hHeld
        replace R0 := Lib.hid (R0.out.move G43.out)
        replace R1 := Lib.hid (R1.out.move G43.out)
        replace HA := Lib.hid (HA.out.below G43.out)
        replace Hb := Lib.hid (Hb.out.trans (G43.out.mono Hb.out.size))
        replace hgw := Nat.lt_of_lt_of_le hgw G43.out.size
        clear j0_41 j1_41 j2_41 j3_41 j0_42 j1_42 j2_42 j3_42 j0_43 j1_43 j2_43 j3_43 j0 j1 j2 j3 G40 G41 G42 G43
        go_wp2_with fail
        have j0 := R0.out.c0
        have j1 := R0.out.c1
        have j2 := R1.out.c0
        have j3 := R1.out.c1
        refine wp_region_held_drew (S := fun w' => w'.cell? ⟨g0, 0, none⟩ = some (.int .i8 p) ∧ w'.cell? ⟨g0, 1, none⟩ = some (.int .i8 d) ∧ w'.cell? ⟨g1, 0, none⟩ = some (.int .i8 p') ∧ w'.cell? ⟨g1, 1, none⟩ = some (.int .i8 d')) (by kernel_rfl) (by (try dsimp only); go_keep) (fun hHeld => ?_)
        (refine take_at (i := 0) (oi := _) (v := ?_) rfl rfl (by kernel_rfl) (by kernel_rfl) (by kernel_rfl) (fun _ _ _ h => h) (Or.inl ⟨by rfl, ?_⟩) (by assumption) ?_; rotate_left; (focus (intro w hSw; (try dsimp only at hSw); go_simp; (try with_reducible rfl))); (simp only [put_lit, List.set]))
        (refine take_at (i := 3) (oi := _) (v := ?_) rfl rfl (by kernel_rfl) (by kernel_rfl) (by kernel_rfl) (fun _ _ _ h => h) (Or.inl ⟨by rfl, ?_⟩) (by assumption) ?_; rotate_left; (focus (intro w hSw; (try dsimp only at hSw); go_simp; (try with_reducible rfl))); (simp only [put_lit, List.set]))
        refine wpAnyH_inv (Inv := fun listed a w => ∃ (c m s : Nat → Bool) (v u : Nat → Value) (X : Nat → Bool) (Kv : Nat → Value), BI (fun i => if i = 0 then rtz np sp else rtz np' sp') (fun i => if i = 0 then rtq np sp else rtq np' sp') w43.drew w c m s v u ∧ (∀ i, X i = true → Kv i = (if i = 0 then Value.agg #[.int .i8 np, .int .i8 sp] else Value.agg #[.int .i8 np', .int .i8 sp'])) ∧ listed = #[true, X 0, c 0, true, X 1, c 1, m 0, m 1, s 0, s 1] ∧ a = ⟨#[.slice A k cap, .agg #[.int .i8 p, .int .i8 d], .agg #[.int .i8 p', .int .i8 d'], undef, .pointer (some ⟨g0, 0, none⟩), .pointer (some ⟨g1, 0, none⟩), .bool false, .slice A' k cap', .int .i64 (k : Int), .slice A1 l1 c1, u 0, u 1, undef, .bool true, .bool false, .int .i64 (k : Int), .slice A k cap, .int .i64 (k : Int), .bool false, .bool false, undef, undef, .bool false, u23, u24, u25, u26, u27, u28, u29, u30, u31, u32, .slice A' k cap', .agg #[.int .i8 p, .int .i8 d], .agg #[.int .i8 np, .int .i8 sp], .agg #[.int .i8 p', .int .i8 d'], .agg #[.int .i8 np', .int .i8 sp'], .slice A1 l1 c1, .agg #[.int .i8 p, .int .i8 d], Kv 0, v 0, .agg #[.int .i8 p', .int .i8 d'], Kv 1, v 1, undef, undef, undef, undef, undef, undef, undef, undef, undef, undef, undef, undef, undef, undef, undef, undef, undef, undef], []⟩) ?_ ?_ ?_ 8 _ _ _ (by decide +kernel) ?_
        · rintro listed a w ⟨c, m, s, v, u, X, Kv, hB, hX, rfl, rfl⟩
          have hT0 := (Pai.mk hHeld.1 hHeld.2.1).move hB.b
          have hT1 := (Pai.mk hHeld.2.2.1 hHeld.2.2.2).move hB.b
          exact ⟨hT0.c0, hT0.c1, hT1.c0, hT1.c1⟩
        · rintro listed a w i o ⟨c, m, s, v, u, X, Kv, hB, hX, rfl, rfl⟩ ho hl hdp K hK
          have hi : i < 10 := (Array.getElem?_eq_some_iff.1 ho).1
          have hi' : i = 0 ∨ i = 1 ∨ i = 2 ∨ i = 3 ∨ i = 4 ∨ i = 5 ∨ i = 6 ∨ i = 7 ∨ i = 8 ∨ i = 9 := by omega
          rcases hi' with rfl | rfl | rfl | rfl | rfl | rfl | rfl | rfl | rfl | rfl
          · cases hl
          · obtain rfl := Option.some.inj ho; go_simp
            refine (small17_any p d _).mono ?_
            rintro e w' ⟨rfl, hb⟩
            exact hK.out _ _ ⟨_, _, _, _, _, _, _, hB.below hb, updK hX 0 (by rw [← Hnp.out, ← Hsp.out]; rfl), rfl, rfl⟩
          · obtain rfl := Option.some.inj ho
            have hc := hdp ⟨1, .data⟩ (Array.mem_of_getElem? (i := 0) rfl) (by decide +kernel)
            have ek : Kv 0 = Value.agg #[.int .i8 np, .int .i8 sp] := hX 0 hc
            simp only [ek]
            go_simp
            refine (rat15_any np sp _ n8 d8).mono ?_
            rintro e w' ⟨⟨na, B, l, da, C, K1, Q1, rfl, hz, hq⟩, hb⟩
            exact hK.out _ _ ⟨_, _, _, _, _, _, _, hB.call hb 0 ⟨_, _, _, _, _, _, _, rfl, hz, hq⟩, hX, rfl, by simp only [ek]; rfl⟩
          · cases hl
          · obtain rfl := Option.some.inj ho; go_simp
            refine (small17_any p' d' _).mono ?_
            rintro e w' ⟨rfl, hb⟩
            exact hK.out _ _ ⟨_, _, _, _, _, _, _, hB.below hb, updK hX 1 (by rw [← Hnp'.out, ← Hsp'.out]; rfl), rfl, rfl⟩
          · obtain rfl := Option.some.inj ho
            have hc := hdp ⟨4, .data⟩ (Array.mem_of_getElem? (i := 0) rfl) (by decide +kernel)
            have ek : Kv 1 = Value.agg #[.int .i8 np', .int .i8 sp'] := hX 1 hc
            simp only [ek]
            go_simp
            refine (rat15_any np' sp' _ n8' d8').mono ?_
            rintro e w' ⟨⟨na, B, l, da, C, K1, Q1, rfl, hz, hq⟩, hb⟩
            exact hK.out _ _ ⟨_, _, _, _, _, _, _, hB.call hb 1 ⟨_, _, _, _, _, _, _, rfl, hz, hq⟩, hX, rfl, by simp only [ek]; rfl⟩
          · obtain rfl := Option.some.inj ho; go_simp
            exact hK.out _ _ ⟨_, _, _, _, _, _, _, hB.alloc 0 hl, hX, rfl, rfl⟩
          · obtain rfl := Option.some.inj ho; go_simp
            exact hK.out _ _ ⟨_, _, _, _, _, _, _, hB.alloc 1 hl, hX, rfl, rfl⟩
          · obtain rfl := Option.some.inj ho; have hm := hdp ⟨6, .data⟩ (Array.mem_of_getElem? (i := 0) rfl) (by decide +kernel); have hc := hdp ⟨2, .data⟩ (Array.mem_of_getElem? (i := 1) rfl) (by decide +kernel); obtain ⟨n, B, l, d, C, k, q, e1, hz, hq⟩ := hB.r 0 hc; obtain ⟨g, _, _, _, _, _, _, _, _, _, e2, hgk, hR, _⟩ := hB.o 0 hm; have hBs := hB.store 0 hm e2 hz hq; simp only [e1, e2]; have r0 := hR.c0; have r1 := hR.c1; have r2 := hR.c2; have r3 := hR.f0; have r4 := hR.f1; have r5 := hR.f2; go_simp; exact hK.out _ _ ⟨_, _, _, _, _, _, _, hBs, hX, rfl, by simp only [e1, e2]⟩
          · obtain rfl := Option.some.inj ho; have hm := hdp ⟨7, .data⟩ (Array.mem_of_getElem? (i := 0) rfl) (by decide +kernel); have hc := hdp ⟨5, .data⟩ (Array.mem_of_getElem? (i := 1) rfl) (by decide +kernel); obtain ⟨n, B, l, d, C, k, q, e1, hz, hq⟩ := hB.r 1 hc; obtain ⟨g, _, _, _, _, _, _, _, _, _, e2, hgk, hR, _⟩ := hB.o 1 hm; have hBs := hB.store 1 hm e2 hz hq; simp only [e1, e2]; have r0 := hR.c0; have r1 := hR.c1; have r2 := hR.c2; have r3 := hR.f0; have r4 := hR.f1; have r5 := hR.f2; go_simp; exact hK.out _ _ ⟨_, _, _, _, _, _, _, hBs, hX, rfl, by simp only [e1, e2]⟩
        · rintro listed a wz ⟨c, m, s, v, u, X, Kv, hB, hX, rfl, rfl⟩ hr
          have hall := ready_nil_all (by kernel_rfl) rfl hr
          have m0 : m 0 = true := hall 6 (by simp)
          have m1 : m 1 = true := hall 7 (by simp)
          have s0 : s 0 = true := hall 8 (by simp)
          have s1 : s 1 = true := hall 9 (by simp)
          obtain ⟨b0, n0, B0, l4, c4, C0, m0', d0, z0, q0, e0, _, T0, f0⟩ := hB.o 0 m0
          obtain ⟨b1, n1, B1, l5, c5, C1, m1', d1', z1, q1, e1, _, T1, f1⟩ := hB.o 1 m1
          obtain ⟨hz0, hq0⟩ := f0 s0
          obtain ⟨hz1, hq1⟩ := f1 s1
          replace hz0 : z0 = rtz np sp := hz0
          replace hz1 : z1 = rtz np' sp' := hz1
          replace hq0 : q0 = rtq np sp := hq0
          replace hq1 : q1 = rtq np' sp' := hq1
          have hb3 : Below w43.heap.size w43 wz := (Below.trans (by (repeat (first | exact Below.refl _ _ | refine Below.drew ?_ | refine Below.alloc ?_ (by first | (simp; done) | (simp; omega) | omega) _ | refine Below.setCell ?_ (by first | (simp; done) | (simp; omega) | omega) _))) (hB.b.mono (by simp <;> omega)))
          simp only [e0, e1]
          generalize v 0 = y0
          generalize v 1 = y1
          generalize Kv 0 = y2
          generalize Kv 1 = y3
          clear hall m0 m1 s0 s1 f0 f1 e0 e1 hB hr hHeld j0 j1 j2 j3 hX c m s v u R0 R1 X Kv
          obtain ⟨w3, hw3⟩ : ∃ w3, w3 = wz := ⟨_, rfl⟩
          rw [← hw3] at T0 T1 hb3 ⊢
          replace HA := Lib.hid (HA.out.below hb3)
          replace H1 := Lib.hid ((H1.out.below (by (repeat (first | exact Below.refl _ _ | refine Below.drew ?_ | refine Below.alloc ?_ (by first | (simp; done) | (simp; omega) | omega) _ | refine Below.setCell ?_ (by first | (simp; done) | (simp; omega) | omega) _)))).below hb3)
          replace Hb := Lib.hid (Hb.out.trans (hb3.mono Hb.out.size))
          clear hb3 hw3
          obtain ⟨ga, hga, ea1, ea2, zb0, qp0, qb0⟩ := rt_bd n8 d8
          rw [← hz0] at ea1 zb0
          rw [← hq0] at ea2 qp0 qb0
          obtain ⟨gb, hgb, eb1, eb2, zb1, qp1, qb1⟩ := rt_bd n8' d8'
          rw [← hz1] at eb1 zb1
          rw [← hq1] at eb2 qp1 qb1
          have hplq : plen q ≤ 7 := by have h1 := plen_le q; have h2 := HA.out.length; omega
          obtain ⟨W, hW⟩ : ∃ W, W = rmob q (frn np sp) (frd sp) (frn np' sp') (frd sp') := ⟨_, rfl⟩
          have hWt : ptrim W = W := by rw [hW]; exact rmob_trim _ _ _ _ _
          have hWe : W = pmobius (ptrim q) q0 q1 z0 z1 := by
            rw [← hWt, hW]
            exact rmob_eq z0 z1 q0 q1 hga hgb ea1 ea2 eb1 eb2 qp0 qp1
          have hWb : ∀ j, (W.getD j 0).natAbs ≤ 2305843009213693952 := by rw [hW]; exact rmob_bd hplq hQ8 ha9 hb9 (by omega) (by omega)
          rw [← hW] at H1
          have hok : MobOK (ptrim q) q0 q1 z0 z1 := mobok_small (by rw [plen_ptrim]; exact hplq) (fun j => by rw [ptrim_getD]; exact Nat.le_trans (hQ8 j) (by omega)) zb0 qp0 qb0 zb1 qp1 qb1
          have fitf : FitP (ptrim q) := fun j => Nat.lt_of_le_of_lt (by rw [ptrim_getD]; exact hQ8 j) (by rw [BB_eq]; decide)
          have u0 : U64 z0.natAbs := by unfold U64; rw [BB_eq]; omega
          have u1 : U64 z1.natAbs := by unfold U64; rw [BB_eq]; omega
          have v0 : q0 < BB := by rw [BB_eq]; omega
          have v1 : q1 < BB := by rw [BB_eq]; omega
          have hq64 : ∀ c ∈ q, I64 c := fun c hc => by have := mem_bd hQ8 hc; unfold I64; omega
          have hW64 : ∀ c ∈ W, I64 c := fun c hc => by have := mem_bd hWb hc; unfold I64; omega
          have sW : SmP W := by
            rw [hWe]
            exact (pmobius_fit hok).smp
          have lW : W.length ≤ 7 := by
            rw [← hWt, ptrim_length, hWe]
            have := pmobius_len (f := ptrim q) q0 q1 z0 z1
            rw [plen_ptrim] at this
            omega
          have hl1 : l1 ≤ 7 := by have := H1.out.length; omega
          have HWl := Lib.hid (show W.length = l1 from H1.out.length)
          have HWe := Lib.hid hWe
          have HWt := Lib.hid hWt
          have Ev := Lib.hid (show ((rst W l1).1 : Nat) = (vst W W.length).1 by rw [HWl.out, (vst_rst W l1).1])
          clear hz0 hz1 hq0 hq1 hga hgb ea1 ea2 eb1 eb2 hW hWt hWe hWb zb0 zb1 qb0 qb1 hgw
          go_wp2_with fail
          refine (pol15_any _ _ _ q _ HA.out (by omega) hq64).mono ?_
          rintro e w4 ⟨A4, k4, h4, rfl, hp4, hb4⟩
          have HP := Lib.hid hp4
          have hk4 : k4 ≤ 7 := by have := hp4.length; rw [ptrim_length] at this; omega
          replace T0 := Lib.hid (T0.move hb4)
          replace T1 := Lib.hid (T1.move hb4)
          replace H1 := Lib.hid (H1.out.below hb4)
          replace Hb := Lib.hid (Hb.out.trans (hb4.mono Hb.out.size))
          have j0 := T0.out.c0
          have j1 := T0.out.c1
          have j2 := T0.out.c2
          have j3 := T1.out.c0
          have j4 := T1.out.c1
          have j5 := T1.out.c2
          clear hp4 hb4 HA hq64
          go_wp2_with fail
          refine (mobius_any ikN _ _ _ (ptrim q) _ _ _ _ _ _ _ _ _ _ _ _ _ _ _ _ _ _ _ HP.out (by omega) fitf T0.out.hz T0.out.hq T1.out.hz T1.out.hq u0 v0 qp0 u1 v1 qp1 hok).mono ?_
          rintro e w5 ⟨A5, k5, h5, rfl, hm, hb5⟩
          rw [← HWe.out] at hm
          have hk5 : k5 ≤ 7 := by have := hm.length; omega
          have HM := Lib.hid hm
          replace HP := Lib.hid (HP.out.below ikN hb5)
          replace T0 := Lib.hid (T0.out.move hb5)
          replace T1 := Lib.hid (T1.out.move hb5)
          replace H1 := Lib.hid (H1.out.below hb5)
          replace Hb := Lib.hid (Hb.out.trans (hb5.mono Hb.out.size))
          clear hm hb5 j0 j1 j2 j3 j4 j5
          go_wp2_with fail
          refine (pol15_any _ _ _ W _ H1.out (by omega) hW64).mono ?_
          rintro e w6 ⟨A6, k6, h6, rfl, hp6, hb6⟩
          rw [HWt.out] at hp6
          have hk6 : k6 ≤ 7 := by have := hp6.length; omega
          have HW := Lib.hid hp6
          replace HM := Lib.hid (HM.out.below ikN hb6)
          replace HP := Lib.hid (HP.out.below ikN hb6)
          replace T0 := Lib.hid (T0.out.move hb6)
          replace T1 := Lib.hid (T1.out.move hb6)
          replace H1 := Lib.hid (H1.out.below hb6)
          replace Hb := Lib.hid (Hb.out.trans (hb6.mono Hb.out.size))
          clear hp6 hb6
          go_wp2_with fail
          refine (same_any ikN ikN _ _ _ W _ _ _ W _ HM.out HW.out sW sW (by omega) (by omega)).mono ?_
          rintro e w7 ⟨rfl, hb7⟩
          rw [show decide (ptrim W = ptrim W) = true from decide_eq_true rfl]
          replace HP := Lib.hid (HP.out.below ikN hb7)
          replace T0 := Lib.hid (T0.out.move hb7)
          replace T1 := Lib.hid (T1.out.move hb7)
          replace H1 := Lib.hid (H1.out.below hb7)
          replace Hb := Lib.hid (Hb.out.trans (hb7.mono Hb.out.size))
          have j0 := T0.out.c0
          have j1 := T0.out.c1
          have j2 := T0.out.c2
          have j3 := T1.out.c0
          have j4 := T1.out.c1
          have j5 := T1.out.c2
          clear hb7 HM HW
          go_wp2_with fail
          refine (dvar_any ikN _ _ _ (ptrim q) _ _ _ _ _ _ _ _ _ _ _ _ _ _ _ _ _ _ _ HP.out (by omega) fitf T0.out.hz T0.out.hq T1.out.hz T1.out.hq u0 v0 qp0 u1 v1 qp1 hok (by rw [← HWe.out]; exact sW) (by rw [← HWe.out]; omega)).mono ?_
          rintro e w8 ⟨rfl, hb8⟩
          rw [← HWe.out, ← Ev.out]
          obtain ⟨V, hV⟩ : ∃ V, V = (rst W l1).1 := ⟨_, rfl⟩
          rw [← hV]
          have HV := Lib.hid hV
          replace H1 := Lib.hid (H1.out.below hb8)
          replace Hb := Lib.hid (Hb.out.trans (hb8.mono Hb.out.size))
          clear hb8 j0 j1 j2 j3 j4 j5 T0 T1 HP hV
          go_wp2_with fail
          refine (refvar_any _ _ _ W _ H1.out (by omega)).mono ?_
          rintro e w9 ⟨rfl, rfl⟩
          rw [← HV.out]
          have hvv : ((V : Int) == (V : Int)) = true := by simp
          go_wp2
          go_ret
          exact ⟨rfl, Hb.out⟩
        · exact ⟨fun _ => false, fun _ => false, fun _ => false, fun _ => undef, fun _ => undef, fun _ => false, fun _ => undef, ⟨Below.refl _ _, fun _ h => (by cases h), fun _ h => (by cases h), fun _ _ _ h => (by cases h), fun _ h => (by cases h)⟩, fun _ h => (by cases h), rfl, rfl⟩
end Go.Proofs.YtdihefmjfnlpcaaGreat
