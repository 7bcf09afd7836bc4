/- The walks of cylinderref01.Sub and Cmp. -/
import Derived.Test.YtgblfpkfapmlnaaBta
import Derived.Test.YtgblfpkfapmlnaaBtq
namespace Go.Proofs.Ytgblfpkfapmlnaa
open Go.RowKit

set_option maxRecDepth 100000 in
set_option maxHeartbeats 4000000 in
theorem bsub_any (A : Option Addr) (la ca a : Nat) (B : Option Addr) (lb cb b : Nat) (w : World) (ha : I64At w A la ca (bts a)) (hb : I64At w B lb cb (bts b)) (hma : la ≤ 1000000) (hmb : lb ≤ 1000000) (hab : b ≤ a) :
    Calls Try.prog 97 #[.slice A la ca, .slice B lb cb] w fun e w' => ∃ A' l' c', e = .returned (.slice A' l' c') ∧ I64At w' A' l' c' (bts (a - b)) ∧ Typ w' A' l' ∧ Below w.heap.size w w' := by
  obtain ⟨i0, hi, hz0, hz1, hz2⟩ := info_parts info_int64
  have HA := Lib.hid ha
  have HB := Lib.hid hb
  have hla := ha.length
  rw [bts_length] at hla
  have hlt := bln_lt a
  rw [hla] at hlt
  have Hlt := Lib.hid (show a - b < 2 ^ la by omega)
  have Hab := Lib.hid hab
  obtain ⟨Q, hQ0⟩ : ∃ Q, Q = tabQ (a - b) la := ⟨_, rfl⟩
  have hQ := Lib.hid hQ0
  have hQl := Lib.hid (show Q.length = la by rw [hQ0, tabQ_length])
  clear hQ0 hla hlt ha hb hab
  go_enter Try.func97, Try.ntmps97
  go_wp2
  go_loopw [5, 6, 7] (fun s5 s6 s7 wr => ∃ k c : Nat, k ≤ la ∧ s6 = .int .i64 (c : Int) ∧ s7 = .int .i64 (k : Int) ∧ OwnI 3 wr w.heap.size s5 k Q ∧ Below w.heap.size w wr ∧ c = if a % 2 ^ k < b % 2 ^ k then 1 else 0) (fun _ _ s7 _ => la - (intOf s7).toNat)
  case atStart => exact ⟨0, 0, Nat.zero_le _, rfl, rfl, World.ownsRow_nil _ _ _ _, Below.refl _ _, by simp [Nat.mod_one]⟩
  case round =>
    obtain ⟨k, c, hk, rfl, rfl, hown, hbw, hcc⟩ := hrel
    have Hown := Lib.hid hown
    have Hbw := Lib.hid hbw
    have hc1 : c ≤ 1 := by rw [hcc]; split <;> omega
    have hst0 := sub_step Hab.out k
    rw [← hcc] at hst0
    clear hown hbw hcc
    by_cases h1 : k < la
    · have t1 : (k : Int) < (la : Int) := by omega
      have xa := btn_lt a k
      have xb := btn_lt b k
      obtain ⟨p1, hp1⟩ : ∃ x, x = btn a k := ⟨_, rfl⟩
      obtain ⟨p2, hp2⟩ : ∃ x, x = btn b k := ⟨_, rfl⟩
      obtain ⟨s, st1, st2, hs⟩ := hst0
      rw [← hp1, ← hp2] at st1 st2
      have Hg := Lib.hid (show Q[k]?.getD 0 = (s : Int) by rw [hQ.out, tabQ_get _ _ h1, hs])
      rw [← hp1] at xa
      rw [← hp2] at xb
      have P1 := Lib.hid hp1
      have P2 := Lib.hid hp2
      have s1 : IntKind.i64.wrap ((p1 : Int) - (p2 : Int)) = (p1 : Int) - (p2 : Int) := IntWalk.i64_in _ (by omega)
      have s2 : IntKind.i64.wrap ((p1 : Int) - (p2 : Int) - (c : Int)) = (p1 : Int) - (p2 : Int) - (c : Int) := IntWalk.i64_in _ (by omega)
      clear hp1 hp2 hs
      by_cases hneg : p1 < p2 + c
      · have hst := st1 (by omega)
        have Hn := Lib.hid hst.2
        have t2 : (p1 : Int) - (p2 : Int) - (c : Int) < 0 := by omega
        have t3 : IntKind.i64.wrap ((p1 : Int) - (p2 : Int) - (c : Int) + 2) = (s : Int) := by rw [IntWalk.i64_in _ (by omega)]; omega
        have t3b : (p1 : Int) - (p2 : Int) - (c : Int) + 2 = (s : Int) := by omega
        have t4 : IntKind.i64.wrap (s : Int) = (s : Int) := IntWalk.i64_in _ (by omega)
        clear hst
        go_wp2_with fail
        refine (bit_any _ _ _ (bts a) k _ (HA.out.below Hbw.out) (by omega) (by omega)).mono ?_
        rintro e w1 ⟨rfl, rfl⟩
        rw [bts_get, ← P1.out]
        go_wp2_with fail
        refine (bit_any _ _ _ (bts b) k _ (HB.out.below Hbw.out) (by omega) (by omega)).mono ?_
        rintro e w1 ⟨rfl, rfl⟩
        rw [bts_get, ← P2.out]
        go_wp2_with (at_builtin; refine wpList_append_one rfl (.tmp 28) (.tmp 30) 43 rfl w.heap.size 3 i0 (.int .i64 0) 8 Try.underlying43 hi hz0 hz1 hz2 rfl _ (.int .i64 s) k _ rfl rfl Hown.out rfl (by omega) (by omega) Hbw.out.size ?_)
        intro v' w1 hown' hgrow
        have R := Lib.hid (OwnI.step (v' := v') (by rw [hQl.out]; omega) Hbw.out.size Hown.out Hbw.out (by rw [Hg.out]; exact hown') hgrow)
        clear hown' hgrow
        go_wp2
        go_roundw
        case rel => exact ⟨k + 1, 1, by omega, by go_num, by go_num, R.out.1, R.out.2, by rw [if_pos Hn.out]⟩
        case measure => simp [intOf]; omega
      · have hst := st2 (by omega)
        have Hn := Lib.hid hst.2
        have t2 : ¬ (p1 : Int) - (p2 : Int) - (c : Int) < 0 := by omega
        have t3 : (p1 : Int) - (p2 : Int) - (c : Int) = (s : Int) := by omega
        have t4 : IntKind.i64.wrap (s : Int) = (s : Int) := IntWalk.i64_in _ (by omega)
        clear hst
        go_wp2_with fail
        refine (bit_any _ _ _ (bts a) k _ (HA.out.below Hbw.out) (by omega) (by omega)).mono ?_
        rintro e w1 ⟨rfl, rfl⟩
        rw [bts_get, ← P1.out]
        go_wp2_with fail
        refine (bit_any _ _ _ (bts b) k _ (HB.out.below Hbw.out) (by omega) (by omega)).mono ?_
        rintro e w1 ⟨rfl, rfl⟩
        rw [bts_get, ← P2.out]
        go_wp2_with (at_builtin; refine wpList_append_one rfl (.tmp 28) (.tmp 30) 43 rfl w.heap.size 3 i0 (.int .i64 0) 8 Try.underlying43 hi hz0 hz1 hz2 rfl _ (.int .i64 s) k _ rfl rfl Hown.out rfl (by omega) (by omega) Hbw.out.size ?_)
        intro v' w1 hown' hgrow
        have R := Lib.hid (OwnI.step (v' := v') (by rw [hQl.out]; omega) Hbw.out.size Hown.out Hbw.out (by rw [Hg.out]; exact hown') hgrow)
        clear hown' hgrow
        go_wp2
        go_roundw
        case rel => exact ⟨k + 1, 0, by omega, by go_num, by go_num, R.out.1, R.out.2, by rw [if_neg Hn.out]⟩
        case measure => simp [intOf]; omega
    · have t1 : ¬ (k : Int) < (la : Int) := by omega
      clear hst0
      have hkl : k = la := by omega
      obtain ⟨A', cap', rfl, hat⟩ := Hown.out.at_take (by rw [hQl.out]; exact hk)
      have hres : ptrim (Q.take k) = bts (a - b) := by rw [hQ.out]; exact tabQ_bts hk (by rw [hkl]; exact Hlt.out)
      have hpl := plen_bts hres
      have Hat := Lib.hid hat
      have Hres := Lib.hid hres
      clear hres hpl hi hz0 hz1 hz2 hkl
      go_wp2_with fail
      refine (btrim_any _ _ _ _ _ Hat.out (by omega)).mono ?_
      rintro e w2 ⟨rfl, rfl⟩
      have hfin := Hat.out.take (k := plen (Q.take k)) (by have := plen_le (Q.take k); rw [Hat.out.length] at this; exact this)
      have Hfin := Lib.hid (show I64At wr A' (plen (Q.take k)) cap' (bts (a - b)) by rw [← Hres.out]; exact hfin)
      clear hfin hat
      go_wp2
      go_ret
      exact ⟨_, _, _, rfl, Hfin.out, (own_typ Hown.out).le (by have := plen_le (Q.take k); rw [Hat.out.length] at this; exact this), Hbw.out⟩

/-- how two numbers lie -/
def ncmp (a b : Nat) : Int := if a < b then -1 else if b < a then 1 else 0
set_option maxRecDepth 100000 in
set_option maxHeartbeats 4000000 in
theorem bcmp_any (A : Option Addr) (la ca a : Nat) (B : Option Addr) (lb cb b : Nat) (w : World) (ha : I64At w A la ca (bts a)) (hb : I64At w B lb cb (bts b)) (hma : la ≤ 1000000) (hmb : lb ≤ 1000000) :
    Calls Try.prog 96 #[.slice A la ca, .slice B lb cb] w fun e w' => e = .returned (.int .i64 (ncmp a b)) ∧ w = w' := by
  have HA := Lib.hid ha
  have HB := Lib.hid hb
  have hla := ha.length
  have hlb := hb.length
  rw [bts_length] at hla hlb
  obtain ⟨M, hM⟩ : ∃ M, M = max la lb := ⟨_, rfl⟩
  have a1 : a < 2 ^ M := Nat.lt_of_lt_of_le (bln_lt a) (Nat.pow_le_pow_right (by decide) (by omega))
  have b1 : b < 2 ^ M := Nat.lt_of_lt_of_le (bln_lt b) (Nat.pow_le_pow_right (by decide) (by omega))
  have H0 := Lib.hid (show a / 2 ^ M = b / 2 ^ M by rw [Nat.div_eq_of_lt a1, Nat.div_eq_of_lt b1])
  have m1 : IntKind.i64.wrap ((M : Int) - 1) = (M : Int) - 1 := IntWalk.i64_in _ (by omega)
  have hMb : M ≤ 1000000 := by omega
  clear hla hlb a1 b1 ha hb
  by_cases hlt : la < lb
  · have hM2 : M = lb := by omega
    subst hM2
    clear hM
    go_enter Try.func96, Try.ntmps96
    go_wp2
    go_loop [5] (fun s5 => ∃ k : Nat, k ≤ M ∧ s5 = .int .i64 ((k : Int) - 1) ∧ a / 2 ^ k = b / 2 ^ k) (fun s5 => (intOf s5 + 1).toNat)
    case atStart => exact ⟨M, Nat.le_refl _, rfl, H0.out⟩
    case round =>
      clear m1
      obtain ⟨k, hk, rfl, hd⟩ := hrel
      cases k with
      | zero =>
        have Hr := Lib.hid (show ncmp a b = 0 by
          rw [Nat.pow_zero, Nat.div_one, Nat.div_one] at hd
          unfold ncmp; rw [if_neg (by omega), if_neg (by omega)])
        clear hd
        go_wp2
        go_ret
        exact ⟨by rw [Hr.out]; rfl, rfl⟩
      | succ k =>
        have hct := cmp_top hd
        have xa := btn_lt a k
        have xb := btn_lt b k
        have hr : btn a k ≠ btn b k → ncmp a b = (btn a k : Int) - (btn b k : Int) := fun hne => by
          unfold ncmp
          rcases Nat.lt_or_ge (btn a k) (btn b k) with h1 | h1
          · rw [if_pos (hct.2.1 h1)]; omega
          · have h2 := hct.2.2 (by omega)
            rw [if_neg (by omega), if_pos h2]; omega
        obtain ⟨p1, hp1⟩ : ∃ x, x = btn a k := ⟨_, rfl⟩
        obtain ⟨p2, hp2⟩ : ∃ x, x = btn b k := ⟨_, rfl⟩
        have hc1 := hct.1
        rw [← hp1, ← hp2] at hr hc1
        rw [← hp1] at xa
        rw [← hp2] at xb
        have P1 := Lib.hid hp1
        have P2 := Lib.hid hp2
        obtain ⟨k1, hk1⟩ : ∃ k1 : Int, k1 = (k : Int) := ⟨_, rfl⟩
        have s0 : ((k + 1 : Nat) : Int) - 1 = (k : Int) := by omega
        have s1 : IntKind.i64.wrap ((p1 : Int) - (p2 : Int)) = (p1 : Int) - (p2 : Int) := IntWalk.i64_in _ (by omega)
        have s2 : IntKind.i64.wrap ((k : Int) - 1) = (k : Int) - 1 := IntWalk.i64_in _ (by omega)
        have s3 : (0 : Int) ≤ (k : Int) := by omega
        rw [s0]
        clear hp1 hp2 hd hct s0 hk1
        by_cases hne : p1 = p2
        · subst hne
          have Hd := Lib.hid (hc1 rfl)
          clear hr hc1
          go_wp2_with fail
          refine (bit_any _ _ _ (bts a) k _ HA.out (by omega) (by omega)).mono ?_
          rintro e w1 ⟨rfl, rfl⟩
          rw [bts_get, ← P1.out]
          go_wp2_with fail
          refine (bit_any _ _ _ (bts b) k _ HB.out (by omega) (by omega)).mono ?_
          rintro e w1 ⟨rfl, rfl⟩
          rw [bts_get, ← P2.out]
          go_wp2
          go_round
          case rel => exact ⟨k, by omega, by go_num, Hd.out⟩
          case measure => simp [intOf]
        · have Hr := Lib.hid (hr hne)
          have b1 : ((p1 : Int) == (p2 : Int)) = false := by rw [beq_eq_false_iff_ne]; omega
          clear hr hc1
          go_wp2_with fail
          refine (bit_any _ _ _ (bts a) k _ HA.out (by omega) (by omega)).mono ?_
          rintro e w1 ⟨rfl, rfl⟩
          rw [bts_get, ← P1.out]
          go_wp2_with fail
          refine (bit_any _ _ _ (bts b) k _ HB.out (by omega) (by omega)).mono ?_
          rintro e w1 ⟨rfl, rfl⟩
          rw [bts_get, ← P2.out]
          go_wp2_with fail
          refine (bit_any _ _ _ (bts a) k _ HA.out (by omega) (by omega)).mono ?_
          rintro e w1 ⟨rfl, rfl⟩
          rw [bts_get, ← P1.out]
          go_wp2_with fail
          refine (bit_any _ _ _ (bts b) k _ HB.out (by omega) (by omega)).mono ?_
          rintro e w1 ⟨rfl, rfl⟩
          rw [bts_get, ← P2.out]
          go_wp2
          go_ret
          exact ⟨by rw [Hr.out]; rfl, rfl⟩
  · have hM2 : M = la := by omega
    subst hM2
    clear hM
    go_enter Try.func96, Try.ntmps96
    go_wp2
    go_loop [5] (fun s5 => ∃ k : Nat, k ≤ M ∧ s5 = .int .i64 ((k : Int) - 1) ∧ a / 2 ^ k = b / 2 ^ k) (fun s5 => (intOf s5 + 1).toNat)
    case atStart => exact ⟨M, Nat.le_refl _, rfl, H0.out⟩
    case round =>
      clear m1
      obtain ⟨k, hk, rfl, hd⟩ := hrel
      cases k with
      | zero =>
        have Hr := Lib.hid (show ncmp a b = 0 by
          rw [Nat.pow_zero, Nat.div_one, Nat.div_one] at hd
          unfold ncmp; rw [if_neg (by omega), if_neg (by omega)])
        clear hd
        go_wp2
        go_ret
        exact ⟨by rw [Hr.out]; rfl, rfl⟩
      | succ k =>
        have hct := cmp_top hd
        have xa := btn_lt a k
        have xb := btn_lt b k
        have hr : btn a k ≠ btn b k → ncmp a b = (btn a k : Int) - (btn b k : Int) := fun hne => by
          unfold ncmp
          rcases Nat.lt_or_ge (btn a k) (btn b k) with h1 | h1
          · rw [if_pos (hct.2.1 h1)]; omega
          · have h2 := hct.2.2 (by omega)
            rw [if_neg (by omega), if_pos h2]; omega
        obtain ⟨p1, hp1⟩ : ∃ x, x = btn a k := ⟨_, rfl⟩
        obtain ⟨p2, hp2⟩ : ∃ x, x = btn b k := ⟨_, rfl⟩
        have hc1 := hct.1
        rw [← hp1, ← hp2] at hr hc1
        rw [← hp1] at xa
        rw [← hp2] at xb
        have P1 := Lib.hid hp1
        have P2 := Lib.hid hp2
        obtain ⟨k1, hk1⟩ : ∃ k1 : Int, k1 = (k : Int) := ⟨_, rfl⟩
        have s0 : ((k + 1 : Nat) : Int) - 1 = (k : Int) := by omega
        have s1 : IntKind.i64.wrap ((p1 : Int) - (p2 : Int)) = (p1 : Int) - (p2 : Int) := IntWalk.i64_in _ (by omega)
        have s2 : IntKind.i64.wrap ((k : Int) - 1) = (k : Int) - 1 := IntWalk.i64_in _ (by omega)
        have s3 : (0 : Int) ≤ (k : Int) := by omega
        rw [s0]
        clear hp1 hp2 hd hct s0 hk1
        by_cases hne : p1 = p2
        · subst hne
          have Hd := Lib.hid (hc1 rfl)
          clear hr hc1
          go_wp2_with fail
          refine (bit_any _ _ _ (bts a) k _ HA.out (by omega) (by omega)).mono ?_
          rintro e w1 ⟨rfl, rfl⟩
          rw [bts_get, ← P1.out]
          go_wp2_with fail
          refine (bit_any _ _ _ (bts b) k _ HB.out (by omega) (by omega)).mono ?_
          rintro e w1 ⟨rfl, rfl⟩
          rw [bts_get, ← P2.out]
          go_wp2
          go_round
          case rel => exact ⟨k, by omega, by go_num, Hd.out⟩
          case measure => simp [intOf]
        · have Hr := Lib.hid (hr hne)
          have b1 : ((p1 : Int) == (p2 : Int)) = false := by rw [beq_eq_false_iff_ne]; omega
          clear hr hc1
          go_wp2_with fail
          refine (bit_any _ _ _ (bts a) k _ HA.out (by omega) (by omega)).mono ?_
          rintro e w1 ⟨rfl, rfl⟩
          rw [bts_get, ← P1.out]
          go_wp2_with fail
          refine (bit_any _ _ _ (bts b) k _ HB.out (by omega) (by omega)).mono ?_
          rintro e w1 ⟨rfl, rfl⟩
          rw [bts_get, ← P2.out]
          go_wp2_with fail
          refine (bit_any _ _ _ (bts a) k _ HA.out (by omega) (by omega)).mono ?_
          rintro e w1 ⟨rfl, rfl⟩
          rw [bts_get, ← P1.out]
          go_wp2_with fail
          refine (bit_any _ _ _ (bts b) k _ HB.out (by omega) (by omega)).mono ?_
          rintro e w1 ⟨rfl, rfl⟩
          rw [bts_get, ← P2.out]
          go_wp2
          go_ret
          exact ⟨by rw [Hr.out]; rfl, rfl⟩
end Go.Proofs.Ytgblfpkfapmlnaa
