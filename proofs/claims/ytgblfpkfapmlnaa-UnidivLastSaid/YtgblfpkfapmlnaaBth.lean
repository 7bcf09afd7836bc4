/- The walk of cylinderref02.Small. -/
import Derived.Test.YtgblfpkfapmlnaaBtg
namespace Go.Proofs.Ytgblfpkfapmlnaa
open Go.RowKit

set_option maxRecDepth 100000 in
set_option maxHeartbeats 2000000 in
theorem zsmall_any (z : Int) (w : World) (hz : z.natAbs ≤ 1000000000000) :
    Calls Try.prog 35 #[.int .i64 z] w (ZRet w z) := by
  obtain ⟨i0, hi, hz0, hz1, hz2⟩ := info_parts info_int64
  obtain ⟨m, hm⟩ : ∃ m, m = z.natAbs := ⟨_, rfl⟩
  rw [← hm] at hz
  obtain ⟨L, hL⟩ : ∃ L, L = bln m := ⟨_, rfl⟩
  have hLb : L ≤ 40 := by rw [hL]; exact bln_le (by omega)
  have HL := Lib.hid (show m < 2 ^ L by rw [hL]; exact bln_lt m)
  have HLg := Lib.hid (fun k (h : m < 2 ^ k) => (show L ≤ k by rw [hL]; exact bln_le h))
  obtain ⟨Q, hQ0⟩ : ∃ Q, Q = tabQ m L := ⟨_, rfl⟩
  have hQ := Lib.hid hQ0
  have hQl := Lib.hid (show Q.length = L by rw [hQ0, tabQ_length])
  have hQb := Lib.hid (show Q = bts m by rw [hQ0, hL]; rfl)
  have hb0 : Below w.heap.size w (w.alloc (zbox 0 none 0 0)) := (Below.refl _ _).alloc (Nat.le_refl _) _
  have Hb0 := Lib.hid hb0
  have i0m : IntKind.i64.wrap (m : Int) = (m : Int) := IntWalk.i64_in _ (by omega)
  clear hL hQ0 hb0
  rcases Int.lt_or_le z 0 with h | h
  · have hzz : z = -(m : Int) := by omega
    have hneg : -(m : Int) < 0 := by omega
    have hneg2 : (0 : Int) < (m : Int) := by omega
    have hneg3 : 0 < m := by omega
    subst hzz
    clear h hm
    have Hsz := Lib.hid (sgn_true m)
    go_enter Try.func35, Try.ntmps35
    go_wp2
    go_loopw [0, 4] (fun s0 s4 wr => ∃ k v : Nat, k ≤ L ∧ s0 = .int .i64 (v : Int) ∧ v = m / 2 ^ k ∧ OwnI 3 wr (w.heap.size + 1) s4 k Q ∧ Below (w.heap.size + 1) (w.alloc (zbox 0 none 0 0)) wr) (fun s0 _ _ => (intOf s0).toNat)
    case atStart => exact ⟨0, m, Nat.zero_le _, rfl, by simp, World.ownsRow_nil _ _ _ _, Below.refl _ _⟩
    case round =>
      obtain ⟨k, v, hk, rfl, hv, hown, hbw⟩ := hrel
      have Hown := Lib.hid hown
      have Hbw := Lib.hid hbw
      have Hv := Lib.hid hv
      have hbs : w.heap.size + 1 ≤ wr.heap.size := by have := hbw.size; simpa using this
      clear hown
      by_cases hv0 : 0 < v
      · have hkL : k < L := by
          refine Classical.byContradiction fun hn => ?_
          have h2 : m < 2 ^ k := Nat.lt_of_lt_of_le HL.out (Nat.pow_le_pow_right (by decide) (by omega))
          rw [hv, Nat.div_eq_of_lt h2] at hv0
          omega
        have hvm : v ≤ m := by rw [hv]; exact Nat.div_le_self _ _
        obtain ⟨b, hb⟩ : ∃ b, b = btn m k := ⟨_, rfl⟩
        obtain ⟨v2, hv2⟩ : ∃ v2, v2 = v / 2 := ⟨_, rfl⟩
        have hb2 : v % 2 = b := by rw [hb, hv]; rfl
        have Hv2 := Lib.hid (show v2 = m / 2 ^ (k + 1) by rw [hv2, hv, Nat.pow_succ, Nat.div_div_eq_div_mul])
        have Hg := Lib.hid (show Q[k]?.getD 0 = (b : Int) by rw [hQ.out, tabQ_get _ _ hkL, hb])
        have t1 : (0 : Int) < (v : Int) := by omega
        have i1 : Int.tmod (v : Int) 2 = (b : Int) := by rw [← hb2]; rfl
        have i2 : Int.tdiv (v : Int) 2 = (v2 : Int) := by rw [hv2]; rfl
        have i3 : IntKind.i64.wrap (b : Int) = (b : Int) := IntWalk.i64_in _ (by omega)
        have i4 : IntKind.i64.wrap (v2 : Int) = (v2 : Int) := IntWalk.i64_in _ (by omega)
        have i5 : v2 < v := by omega
        clear hv hb hv2 hb2 hbw
        go_wp2_with (at_builtin; refine wpList_append_one rfl (.tmp 12) (.tmp 15) 43 rfl (w.heap.size + 1) 3 i0 (.int .i64 0) 8 Try.underlying43 hi hz0 hz1 hz2 rfl _ (.int .i64 b) k _ rfl rfl Hown.out rfl (by omega) (by omega) hbs ?_)
        intro v' w1 hown' hgrow
        have R := Lib.hid (OwnI.step (v' := v') (by rw [hQl.out]; omega) hbs Hown.out Hbw.out (by rw [Hg.out]; exact hown') hgrow)
        clear hown' hgrow
        go_wp2
        go_roundw
        case rel => exact ⟨k + 1, v2, by omega, by go_num, Hv2.out, R.out.1, R.out.2⟩
        case measure => simp [intOf]; omega
      · have hv00 : v = 0 := by omega
        have hm2 : m < 2 ^ k := by
          rw [hv00] at hv
          exact (Nat.div_eq_zero_iff_lt (two_pow_pos k)).1 hv.symm
        have hkL : k = L := by have := HLg.out k hm2; omega
        have t1 : ¬ (0 : Int) < (v : Int) := by omega
        obtain ⟨A', cap', rfl, hat⟩ := Hown.out.at_take (by rw [hQl.out]; exact hk)
        rw [show Q.take k = bts m by rw [← hQb.out]; exact List.take_of_length_le (by rw [hQl.out]; omega)] at hat
        have Hat := Lib.hid hat
        have Hty := Lib.hid (own_typ Hown.out)
        clear hat hv hm2 hv00 hkL hi hz0 hz1 hz2
        go_wp2_with fail
        refine (zmake_any true _ _ _ m _ Hat.out Hty.out (by omega)).mono ?_
        rintro e w2 ⟨s2, A2, l2, c2, rfl, h2, hb2⟩
        rw [Hsz.out] at h2
        have hb3 := hbw.trans (hb2.mono hbs)
        rw [← World.size_alloc w (zbox 0 none 0 0)] at hb3
        obtain ⟨hc, hf⟩ := bcell hb3
        have hsz := hb3.size
        simp only [World.size_alloc] at hsz
        have H2 := Lib.hid h2
        have Hb3 := Lib.hid hb3
        have Hc := Lib.hid hc
        clear h2 hb2 hb3 hbw
        go_wp2
        refine bodyPost_ret (v := .agg #[.int .i64 s2, .slice A2 l2 c2]) (by simp [results, Try.results35, go_sem, hc]) rfl ⟨_, _, _, _, rfl, H2.out.ret _ _ (A0 := none) (l0 := 0) (c0 := 0) ?_ ?_, ?_⟩
        · rw [Hc.out _ _ (by simp)]; go_simp
        · rw [Hc.out _ _ (by simp)]; go_simp
        · exact ((Hb0.out.trans (Hb3.out.mono Hb0.out.size)).setCell (Nat.le_refl _) _).setCell (Nat.le_refl _) _
  · have hzz : z = (m : Int) := by omega
    subst hzz
    clear h hm
    have hneg : ¬ (m : Int) < 0 := by omega
    have Hsz := Lib.hid (sgn_false m)
    go_enter Try.func35, Try.ntmps35
    go_wp2
    go_loopw [0, 4] (fun s0 s4 wr => ∃ k v : Nat, k ≤ L ∧ s0 = .int .i64 (v : Int) ∧ v = m / 2 ^ k ∧ OwnI 3 wr (w.heap.size + 1) s4 k Q ∧ Below (w.heap.size + 1) (w.alloc (zbox 0 none 0 0)) wr) (fun s0 _ _ => (intOf s0).toNat)
    case atStart => exact ⟨0, m, Nat.zero_le _, rfl, by simp, World.ownsRow_nil _ _ _ _, Below.refl _ _⟩
    case round =>
      obtain ⟨k, v, hk, rfl, hv, hown, hbw⟩ := hrel
      have Hown := Lib.hid hown
      have Hbw := Lib.hid hbw
      have Hv := Lib.hid hv
      have hbs : w.heap.size + 1 ≤ wr.heap.size := by have := hbw.size; simpa using this
      clear hown
      by_cases hv0 : 0 < v
      · have hkL : k < L := by
          refine Classical.byContradiction fun hn => ?_
          have h2 : m < 2 ^ k := Nat.lt_of_lt_of_le HL.out (Nat.pow_le_pow_right (by decide) (by omega))
          rw [hv, Nat.div_eq_of_lt h2] at hv0
          omega
        have hvm : v ≤ m := by rw [hv]; exact Nat.div_le_self _ _
        obtain ⟨b, hb⟩ : ∃ b, b = btn m k := ⟨_, rfl⟩
        obtain ⟨v2, hv2⟩ : ∃ v2, v2 = v / 2 := ⟨_, rfl⟩
        have hb2 : v % 2 = b := by rw [hb, hv]; rfl
        have Hv2 := Lib.hid (show v2 = m / 2 ^ (k + 1) by rw [hv2, hv, Nat.pow_succ, Nat.div_div_eq_div_mul])
        have Hg := Lib.hid (show Q[k]?.getD 0 = (b : Int) by rw [hQ.out, tabQ_get _ _ hkL, hb])
        have t1 : (0 : Int) < (v : Int) := by omega
        have i1 : Int.tmod (v : Int) 2 = (b : Int) := by rw [← hb2]; rfl
        have i2 : Int.tdiv (v : Int) 2 = (v2 : Int) := by rw [hv2]; rfl
        have i3 : IntKind.i64.wrap (b : Int) = (b : Int) := IntWalk.i64_in _ (by omega)
        have i4 : IntKind.i64.wrap (v2 : Int) = (v2 : Int) := IntWalk.i64_in _ (by omega)
        have i5 : v2 < v := by omega
        clear hv hb hv2 hb2 hbw
        go_wp2_with (at_builtin; refine wpList_append_one rfl (.tmp 12) (.tmp 15) 43 rfl (w.heap.size + 1) 3 i0 (.int .i64 0) 8 Try.underlying43 hi hz0 hz1 hz2 rfl _ (.int .i64 b) k _ rfl rfl Hown.out rfl (by omega) (by omega) hbs ?_)
        intro v' w1 hown' hgrow
        have R := Lib.hid (OwnI.step (v' := v') (by rw [hQl.out]; omega) hbs Hown.out Hbw.out (by rw [Hg.out]; exact hown') hgrow)
        clear hown' hgrow
        go_wp2
        go_roundw
        case rel => exact ⟨k + 1, v2, by omega, by go_num, Hv2.out, R.out.1, R.out.2⟩
        case measure => simp [intOf]; omega
      · have hv00 : v = 0 := by omega
        have hm2 : m < 2 ^ k := by
          rw [hv00] at hv
          exact (Nat.div_eq_zero_iff_lt (two_pow_pos k)).1 hv.symm
        have hkL : k = L := by have := HLg.out k hm2; omega
        have t1 : ¬ (0 : Int) < (v : Int) := by omega
        obtain ⟨A', cap', rfl, hat⟩ := Hown.out.at_take (by rw [hQl.out]; exact hk)
        rw [show Q.take k = bts m by rw [← hQb.out]; exact List.take_of_length_le (by rw [hQl.out]; omega)] at hat
        have Hat := Lib.hid hat
        have Hty := Lib.hid (own_typ Hown.out)
        clear hat hv hm2 hv00 hkL hi hz0 hz1 hz2
        go_wp2_with fail
        refine (zmake_any false _ _ _ m _ Hat.out Hty.out (by omega)).mono ?_
        rintro e w2 ⟨s2, A2, l2, c2, rfl, h2, hb2⟩
        rw [Hsz.out] at h2
        have hb3 := hbw.trans (hb2.mono hbs)
        rw [← World.size_alloc w (zbox 0 none 0 0)] at hb3
        obtain ⟨hc, hf⟩ := bcell hb3
        have hsz := hb3.size
        simp only [World.size_alloc] at hsz
        have H2 := Lib.hid h2
        have Hb3 := Lib.hid hb3
        have Hc := Lib.hid hc
        clear h2 hb2 hb3 hbw
        go_wp2
        refine bodyPost_ret (v := .agg #[.int .i64 s2, .slice A2 l2 c2]) (by simp [results, Try.results35, go_sem, hc]) rfl ⟨_, _, _, _, rfl, H2.out.ret _ _ (A0 := none) (l0 := 0) (c0 := 0) ?_ ?_, ?_⟩
        · rw [Hc.out _ _ (by simp)]; go_simp
        · rw [Hc.out _ _ (by simp)]; go_simp
        · exact ((Hb0.out.trans (Hb3.out.mono Hb0.out.size)).setCell (Nat.le_refl _) _).setCell (Nat.le_refl _) _
end Go.Proofs.Ytgblfpkfapmlnaa
