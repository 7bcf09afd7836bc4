/- The walks of the reference for layer 14: abs, Cauchy, Log, Reversed. -/
import Derived.Test.YtfpliceenjbclaaIrow
namespace Go.Proofs.Ytfpliceenjbclaa
open Go.RowKit

set_option maxHeartbeats 400000 in
theorem rabs_any (n : Int) (w : World) (h : n.natAbs ≤ 1000000000) :
    Calls Try.prog 93 #[.int .i64 n] w fun e w' => e = .returned (.int .i64 (n.natAbs : Nat)) ∧ w = w' := by
  by_cases h0 : n < 0
  · have h1 : IntKind.i64.wrap (-n) = -n := IntWalk.i64_in _ (by omega)
    have e : ((n.natAbs : Nat) : Int) = -n := by omega
    rw [e]
    clear e
    go_enter Try.func93, Try.ntmps93
    go_wp2
    go_ret
    exact ⟨rfl, rfl⟩
  · have e : ((n.natAbs : Nat) : Int) = n := by omega
    rw [e]
    clear e
    go_enter Try.func93, Try.ntmps93
    go_wp2
    go_ret
    exact ⟨rfl, rfl⟩

/-- the greatest quotient, rounded up, of the first k coefficients and L -/
def cst (p : List Int) (L : Nat) : Nat → Nat
  | 0 => 0
  | k + 1 => max (cst p L k) (((p.getD k 0).natAbs + L - 1) / L)

theorem cst_hst (p : List Int) {L : Nat} (hL : 0 < L) (k : Nat) : cst p L k = (hst p k + L - 1) / L := by
  induction k with
  | zero =>
    show 0 = (0 + L - 1) / L
    rw [Nat.div_eq_of_lt (by omega)]
  | succ k ih =>
    rw [cst, ih, hst]
    split
    · rename_i h
      exact Nat.max_eq_right (Nat.div_le_div_right (by omega))
    · rename_i h
      exact Nat.max_eq_left (Nat.div_le_div_right (by omega))

theorem cst_le (p : List Int) {L m : Nat} (hL : 0 < L) (hp : Tiny m p) (k : Nat) : cst p L k ≤ m + L := by
  induction k with
  | zero => exact Nat.zero_le _
  | succ k ih =>
    have h1 := hp k
    have h2 := Nat.div_le_self ((p.getD k 0).natAbs + L - 1) L
    rw [cst]
    omega

theorem flq_ceil (H : Nat) {L : Nat} (hL : 0 < L) : 1 - flq (-(H : Int)) (L : Int) = 1 + ((H + L - 1) / L : Nat) := by
  have h1 : (-(H : Int)).tdiv (L : Int) = -((H / L : Nat) : Int) := by rw [Int.neg_tdiv]; rfl
  have h2 : (-(H : Int)).tmod (L : Int) = -((H % L : Nat) : Int) := by rw [Int.neg_tmod]; rfl
  have hs : sg (L : Int) = 1 := sg_pos (by omega)
  have hd := Nat.div_add_mod H L
  unfold flq
  rw [h1, h2, hs]
  by_cases h0 : H % L = 0
  · rw [h0]
    have e : (H + L - 1) / L = H / L := by
      have h3 : H + L - 1 = L * (H / L) + (L - 1) := by omega
      have h4 : (L - 1) / L = 0 := Nat.div_eq_of_lt (by omega)
      rw [h3, Nat.mul_add_div hL, h4]; rfl
    rw [e, if_neg (by decide)]
    omega
  · have hm := Nat.mod_lt H hL
    have e : (H + L - 1) / L = H / L + 1 := by
      have h3 : H + L - 1 = L * (H / L + 1) + (H % L - 1) := by rw [Nat.mul_add]; omega
      have h4 : (H % L - 1) / L = 0 := Nat.div_eq_of_lt (by omega)
      rw [h3, Nat.mul_add_div hL, h4]
    rw [e, sg_neg (by omega), if_pos (by decide)]
    have h5 : (1 : Int) - (-((H / L : Nat) : Int) - 1) = 1 + ((H / L + 1 : Nat) : Int) := by omega
    exact h5

/-- the reference's Cauchy -/
def rcau (p : List Int) : Nat := if plen p < 2 then 0 else 1 + cst p (plead p).natAbs (plen p - 1)

theorem hst_trim (p : List Int) : hst (ptrim p) (plen p - 1) = hst p (plen p - 1) := by rw [ptrim]; exact hst_take _ _ _ (by omega)
theorem plead_ptrim (p : List Int) : plead (ptrim p) = plead p := by
  unfold plead
  rw [plen_ptrim]
  by_cases h : plen p = 0
  · have h1 : ptrim p = [] := List.eq_nil_of_length_eq_zero (by rw [ptrim_length, h])
    rw [h1, h]
    have := getD_ge_plen p 0 (by omega)
    rw [show (0 : Nat) - 1 = 0 from rfl, this]; rfl
  · rw [ptrim, take_getD p (by omega)]

theorem cau_rcau (p : List Int) : cau p = (rcau p : Nat) := by
  unfold cau rcau
  by_cases h : plen p < 2
  · rw [if_pos h, if_pos h]; rfl
  · rw [if_neg h, if_neg h]
    have hne : plead p ≠ 0 := plead_ne (by omega)
    rw [hst_trim, plead_ptrim, flq_ceil _ (by omega), cst_hst p (by omega)]
    omega

set_option maxRecDepth 100000 in
set_option maxHeartbeats 1000000 in
theorem rcau_any (A : Option Addr) (len cap : Nat) (p : List Int) (w : World) (h : I64At w A len cap p) (hm : len ≤ 1000) (ht : Tiny 100000 p) :
    Calls Try.prog 31 #[.slice A len cap] w fun e w' => e = .returned (.int .i64 (rcau p : Nat)) ∧ w = w' := by
  have htl : plen p ≤ len := by have := plen_le p; have := h.length; omega
  go_enter Try.func31, Try.ntmps31
  go_wp2_with fail
  refine (rtrim_any _ _ _ _ _ h (by omega)).mono ?_
  rintro e w1 ⟨rfl, rfl⟩
  by_cases hlt : plen p < 2
  · have E := Lib.hid (show rcau p = 0 from if_pos hlt)
    have hlt2 : ((plen p : Nat) : Int) < 2 := by omega
    clear h
    go_wp2
    go_ret
    exact ⟨by rw [E.out]; rfl, rfl⟩
  · have E := Lib.hid (show rcau p = _ from if_neg hlt)
    obtain ⟨n, hn⟩ : ∃ n, plen p = n + 2 := ⟨plen p - 2, by omega⟩
    obtain ⟨b, off, rfl, hb, hc⟩ := h.at_ (by omega)
    have e0 := hc (n + 1) (by omega)
    have hl := ht (n + 1)
    have hlead : plead p = p.getD (n + 1) 0 := by unfold plead; rw [hn]; rfl
    have hne : plead p ≠ 0 := plead_ne (by omega)
    rw [← hlead] at e0 hl
    rw [hn]
    rw [hn] at E htl
    have hlt2 : ¬ (((n + 2 : Nat) : Int) < 2) := by omega
    have i1 : IntKind.i64.wrap (((n + 2 : Nat) : Int) - 1) = ((n + 1 : Nat) : Int) := by rw [IntWalk.i64_in _ (by omega)]; omega
    obtain ⟨L, hL⟩ : ∃ L, L = (plead p).natAbs := ⟨_, rfl⟩
    have hL0 : 0 < L := by omega
    have hLm : L ≤ 100000 := by omega
    have HL := Lib.hid hL
    clear hlead hne hL hn h hlt
    go_wp2_with fail
    refine (rabs_any _ _ (by omega)).mono ?_
    rintro e w1 ⟨rfl, rfl⟩
    rw [← HL.out]
    clear e0 hl
    go_wp2
    go_loop [4, 5] (fun m i => ∃ k : Nat, k ≤ n + 1 ∧ m = .int .i64 (cst p L k : Nat) ∧ i = .int .i64 (k : Int)) (fun _ i => n + 1 - (intOf i).toNat)
    case atStart => exact ⟨0, Nat.zero_le _, rfl, rfl⟩
    case round =>
      obtain ⟨k, hk, rfl, rfl⟩ := hrel
      by_cases hkn : k < n + 1
      · have e0 := hc k (by omega)
        have hx := ht k
        have hcl := cst_le p hL0 ht k
        have Hn := Lib.hid (show cst p L (k + 1) = max (cst p L k) (((p.getD k 0).natAbs + L - 1) / L) from rfl)
        obtain ⟨x, hxv⟩ : ∃ x, x = p.getD k 0 := ⟨_, rfl⟩
        rw [← hxv] at e0 hx Hn
        obtain ⟨q, hq⟩ : ∃ q, q = (x.natAbs + L - 1) / L := ⟨_, rfl⟩
        have hql : q ≤ x.natAbs + L - 1 := by rw [hq]; exact Nat.div_le_self _ _
        have hdv : ((x.natAbs : Nat) + (L : Nat) - 1 : Int).tdiv (L : Int) = (q : Int) := by
          rw [hq, show ((x.natAbs : Nat) + (L : Nat) - 1 : Int) = ((x.natAbs + L - 1 : Nat) : Int) by omega]; rfl
        rw [← hq] at Hn
        obtain ⟨m, hmv⟩ : ∃ m, m = cst p L k := ⟨_, rfl⟩
        rw [← hmv] at Hn hcl ⊢
        have hkn2 : (k : Int) < (n : Int) + 2 - 1 := by omega
        have hkn3 : k < n + 2 := by omega
        have hnn : n ≤ 1000 := by omega
        clear hc hxv hq hmv ht E HL htl
        go_wp2_with fail
        refine (rabs_any _ _ (by omega)).mono ?_
        rintro e w1 ⟨rfl, rfl⟩
        clear e0
        by_cases hmq : m < q
        · have hmx : max m q = q := by omega
          rw [hmx] at Hn
          clear hmx
          go_wp2
          go_round
          case rel => exact ⟨k + 1, by omega, by rw [Hn.out], by go_num⟩
          case measure => simp [intOf]; omega
        · have hmx : max m q = m := by omega
          rw [hmx] at Hn
          clear hmx
          go_wp2
          go_round
          case rel => exact ⟨k + 1, by omega, by rw [Hn.out], by go_num⟩
          case measure => simp [intOf]; omega
      · have hk2 : k = n + 1 := by omega
        subst hk2
        have hkn2 : ¬ ((n : Int) + 1 < (n : Int) + 2 - 1) := by omega
        have hcl := cst_le p hL0 ht (n + 1)
        have hfin : rcau p = 1 + cst p L (n + 1) := by rw [E.out, HL.out]; rfl
        have Hfin := Lib.hid hfin
        generalize cst p L (n + 1) = m at *
        clear hc ht E hfin
        go_wp2
        go_ret
        exact ⟨by rw [Hfin.out]; go_num, rfl⟩

set_option maxHeartbeats 1000000 in
theorem rlog_any (n k : Nat) (w : World) (hk : k ≤ 50) (hz : n ≤ 2 ^ k) (hmin : ∀ j, j < k → 2 ^ j < n) :
    Calls Try.prog 34 #[.int .i64 (n : Int)] w fun e w' => e = .returned (.int .i64 (k : Int)) ∧ w = w' := by
  have Hz := Lib.hid hz
  have Hmin := Lib.hid hmin
  clear hz hmin
  go_enter Try.func34, Try.ntmps34
  go_wp2
  go_loop [3, 4] (fun s3 s4 => ∃ j : Nat, j ≤ k ∧ s3 = .int .i64 (j : Int) ∧ s4 = .int .i64 ((2 ^ j : Nat) : Int)) (fun s3 _ => k - (intOf s3).toNat)
  case atStart => exact ⟨0, Nat.zero_le _, rfl, rfl⟩
  case round =>
    obtain ⟨j, hjk, rfl, rfl⟩ := hrel
    have hb1 : 2 ^ j ≤ 2 ^ 50 := Nat.pow_le_pow_right (by omega) (by omega)
    obtain ⟨c, hc⟩ : ∃ c : Nat, c = 2 ^ j := ⟨_, rfl⟩
    rw [← hc] at hb1 ⊢
    have Hc := Lib.hid hc
    by_cases hj : j = k
    · subst hj
      have hlt : ¬ ((c : Int) < (n : Int)) := by have := Hz.out; omega
      clear hc
      go_wp2
      go_ret
      exact ⟨rfl, rfl⟩
    · have hlt : (c : Int) < (n : Int) := by have := Hmin.out j (by omega); omega
      have i1 : IntKind.i64.wrap ((c : Int) * 2) = (c : Int) * 2 := IntWalk.i64_in _ (by omega)
      clear hc
      go_wp2
      go_round
      case rel => exact ⟨j + 1, by omega, by go_num, by rw [Nat.pow_succ, ← Hc.out]; go_num⟩
      case measure => simp [intOf]; omega

theorem take_rev_succ (f : List Int) {k : Nat} (h : k < f.length) : (f.reverse.map (Value.int .i64)).take (k + 1) = (f.reverse.map (Value.int .i64)).take k ++ [.int .i64 (f.getD (f.length - 1 - k) 0)] := by
  rw [List.take_add_one]
  congr 1
  rw [List.getElem?_map, List.getElem?_reverse (by omega), List.getElem?_eq_getElem (by omega), List.getD_eq_getElem?_getD, List.getElem?_eq_getElem (by omega)]
  rfl

set_option maxRecDepth 100000 in
set_option maxHeartbeats 1000000 in
theorem rrev_any (A : Option Addr) (len cap : Nat) (p : List Int) (w : World) (h : I64At w A len cap p) (hm : len ≤ 1000) :
    Calls Try.prog 35 #[.slice A len cap] w fun e w' => ∃ A' cap', e = .returned (.slice A' (plen (ptrim p).reverse) cap') ∧ I64At w' A' (plen (ptrim p).reverse) cap' (ptrim (ptrim p).reverse) ∧ Below w.heap.size w w' := by
  obtain ⟨i0, hi, hz0, hz1, hz2⟩ := info_parts info_int64
  have htl : plen p ≤ len := by have := plen_le p; have := h.length; omega
  go_enter Try.func35, Try.ntmps35
  go_wp2_with fail
  refine (rtrim_any _ _ _ _ _ h (by omega)).mono ?_
  rintro e w1 ⟨rfl, rfl⟩
  have hq := h.take htl
  have hql := Lib.hid (ptrim_length p)
  have hqe : p.take (plen p) = ptrim p := rfl
  rw [hqe] at hq
  obtain ⟨q, hqv⟩ : ∃ q, q = ptrim p := ⟨_, rfl⟩
  obtain ⟨n, hnv⟩ : ∃ n, n = plen p := ⟨_, rfl⟩
  rw [← hqv, ← hnv] at hq
  rw [← hqv, ← hnv] at hql
  rw [← hnv] at htl ⊢
  have Hqv := Lib.hid hqv
  clear h hqe hqv hnv
  go_wp2
  go_loopw [3, 4] (fun v i wr => ∃ k : Nat, k ≤ n ∧ i = .int .i64 ((n : Int) - 1 - (k : Int)) ∧ OwnI 3 wr w.heap.size v k q.reverse ∧ Below w.heap.size w wr) (fun _ i _ => (intOf i + 1).toNat)
  case atStart => exact ⟨0, Nat.zero_le _, by congr 1; omega, World.ownsRow_nil _ _ _ _, Below.refl _ _⟩
  case round =>
    obtain ⟨k, hk, rfl, hown, hbw⟩ := hrel
    have Hown := Lib.hid hown
    have Hbw := Lib.hid hbw
    clear hown
    by_cases hlt : k < n
    · obtain ⟨i, hin⟩ : ∃ i, n = k + 1 + i := ⟨n - 1 - k, by omega⟩
      rw [show (n : Int) - 1 - (k : Int) = (i : Int) by omega]
      obtain ⟨b, off, rfl, hb, hc⟩ := hq.at_ (by omega)
      have hcell := (hbw.cell (p := ⟨b, off + i, none⟩) hb).trans (hc i (by omega))
      have hv := take_rev_succ q (k := k) (by rw [hql.out]; exact hlt)
      rw [hql.out, show n - 1 - k = i by omega] at hv
      obtain ⟨x, hx⟩ : ∃ x, x = q.getD i 0 := ⟨_, rfl⟩
      rw [← hx] at hcell hv
      have Hv := Lib.hid hv
      have Hin := Lib.hid hin
      have hil : i < n := by omega
      have hil2 : (i : Int) < (n : Int) := by omega
      clear hc hq hbw hx hv hin
      go_wp2_with (at_builtin; refine wpList_append_one rfl (.tmp 14) (.tmp 19) 32 rfl w.heap.size 3 i0 (.int .i64 0) 8 Try.underlying32 hi hz0 hz1 hz2 rfl _ (.int .i64 x) k _ rfl rfl Hown.out rfl (by omega) (by omega) Hbw.out.size ?_)
      intro v' w1 hown' hgrow
      have R1 : Hid (OwnI 3 w1 w.heap.size v' (k + 1) q.reverse) := by
        show World.ownsRow _ _ _ _ _ _ _
        rw [Hv.out, List.map_reverse]
        exact hown'
      have R2 := Lib.hid ((Hbw.out.alloc Hbw.out.size _).grown hgrow (by have := Hbw.out.size; simp; omega) (fun j hj => (World.ownsRow.lt Hown.out j hj).1))
      clear hown' hgrow hcell
      go_wp2
      go_roundw
      case rel => exact ⟨k + 1, by omega, by have := Hin.out; congr 1; omega, R1.out, R2.out⟩
      case measure => simp [intOf]
    · have hk2 : k = n := by omega
      have ho := Hown.out
      have hk3 : k = q.reverse.length := by rw [List.length_reverse, hql.out]; exact hk2
      rw [hk3] at ho
      obtain ⟨A', cap', rfl, hat⟩ := ho.at_
      rw [← hk3] at hat ⊢
      rw [show (n : Int) - 1 - (k : Int) = -1 by omega]
      clear ho hk3 hq hi hz0 hz1 hz2 hbw hk2
      go_wp2_with fail
      refine (rtrim_any _ _ _ _ _ hat (by omega)).mono ?_
      rintro e w2 ⟨rfl, rfl⟩
      have hfin := hat.take (k := plen q.reverse) (by have := plen_le q.reverse; have := hat.length; omega)
      have Hat := Lib.hid hfin
      clear hat hfin
      go_wp2
      go_ret
      rw [← Hqv.out]
      exact ⟨_, _, rfl, Hat.out, Hbw.out⟩
end Go.Proofs.Ytfpliceenjbclaa
