/- The walks of both Laguerre. -/
import Derived.Test.YtfpliceenjbclaaSft
import Derived.Test.YtfpliceenjbclaaSfr
namespace Go.Proofs.Ytfpliceenjbclaa
open Go.RowKit

/-- sign changes of a list of coefficients -/
def VV (l : List Int) : Nat := (rst l l.length).1

theorem rst_append (l r : List Int) : ∀ k, k ≤ l.length → rst (l ++ r) k = rst l k := by
  intro k
  induction k with
  | zero => intro _; rfl
  | succ k ih =>
    intro h
    have e : (l ++ r).getD k 0 = l.getD k 0 := by
      rw [List.getD_eq_getElem?_getD, List.getElem?_append_left (by omega), List.getD_eq_getElem?_getD]
    simp only [rst, e, ih (by omega)]
theorem rst_zeros (l : List Int) (m : Nat) : rst (l ++ List.replicate m 0) (l.length + m) = rst l l.length := by
  have key : ∀ j, j ≤ m → rst (l ++ List.replicate m 0) (l.length + j) = rst l l.length := by
    intro j
    induction j with
    | zero => intro _; exact rst_append l _ _ (Nat.le_refl _)
    | succ j ih =>
      intro h
      have e : (l ++ List.replicate m 0).getD (l.length + j) 0 = 0 := by
        rw [List.getD_eq_getElem?_getD, List.getElem?_append_right (by omega), List.getElem?_replicate]
        split <;> rfl
      rw [← Nat.add_assoc, rst, if_pos e, ih (by omega)]
  exact key m (Nat.le_refl _)
theorem VV_zeros (l : List Int) (m : Nat) : VV (l ++ List.replicate m 0) = VV l := by
  unfold VV
  rw [List.length_append, List.length_replicate, rst_zeros]
theorem ptrim_zeros (f : List Int) : f = ptrim f ++ List.replicate (f.length - plen f) 0 := by
  have hl := plen_le f
  have hp := ptrim_length f
  apply List.ext_getElem?
  intro j
  rcases Nat.lt_or_ge j (plen f) with h | h
  · rw [List.getElem?_append_left (by omega), ptrim, List.getElem?_take_of_lt h]
  · rw [List.getElem?_append_right (by omega), List.getElem?_replicate, hp]
    rcases Nat.lt_or_ge j f.length with h2 | h2
    · rw [if_pos (by omega), List.getElem?_eq_getElem h2]
      have := getD_ge_plen f j h
      rw [List.getD_eq_getElem?_getD, List.getElem?_eq_getElem h2] at this
      simpa using this
    · rw [if_neg (by omega), List.getElem?_eq_none h2]
theorem VV_trim (f : List Int) : VV (ptrim f) = VV f := by
  have := VV_zeros (ptrim f) (f.length - plen f)
  rw [← ptrim_zeros] at this
  exact this.symm
theorem VV_hsh (c : Int) (f : List Int) : VV (hsh c f) = VV (hsh c (ptrim f)) := by
  have := hsh_zeros c (ptrim f) (f.length - plen f)
  rw [← ptrim_zeros] at this
  rw [this, VV_zeros]

set_option maxHeartbeats 1000000 in
theorem plag_low (A : Option Addr) (len cap : Nat) (p : List Int) (w : World) (h : PolyAt w A len cap p) (hs : SmP p) (hm : len ≤ 1099511627776) (h2 : plen p < 2) :
    Calls Try.prog 29 #[.slice A len cap] w fun e w' => e = .returned (.int .i64 0) ∧ Below w.heap.size w w' := by
  go_enter Try.func29, Try.ntmps29
  go_wp2_with fail
  refine (degree_any _ _ _ _ _ h hs hm).mono ?_
  rintro e w1 ⟨rfl, hb⟩
  have Hb := Lib.hid hb
  have h3 : ((plen p : Nat) - 1 : Int) < 1 := by omega
  clear h hb
  go_wp2
  go_ret
  exact ⟨rfl, Hb.out⟩

set_option maxRecDepth 100000 in
set_option maxHeartbeats 4000000 in
theorem plag_any (A : Option Addr) (len cap : Nat) (p : List Int) (k : Nat) (w : World) (h : PolyN w A len cap p) (hs : SmP p) (hm : len ≤ 1000000) (h2 : 2 ≤ plen p)
    (hk : k ≤ 1000) (hz : VV (hsh (2 ^ k) (ptrim p)) = 0) (hmin : ∀ j, j < k → VV (hsh (2 ^ j) (ptrim p)) ≠ 0) (hok : ∀ j, j ≤ k → ShOK (2 ^ j) (ptrim p)) (hsm : ∀ j, j ≤ k → SmP (hsh (2 ^ j) (ptrim p))) :
    Calls Try.prog 29 #[.slice A len cap] w fun e w' => e = .returned (.int .i64 (k : Int)) ∧ Below w.heap.size w w' := by
  have hpl : plen p ≤ 1000000 := by have := plen_le p; have := h.length; omega
  have Hz := Lib.hid hz
  have Hmin := Lib.hid hmin
  have Hok := Lib.hid hok
  have Hsm := Lib.hid hsm
  clear hz hmin hok hsm
  go_enter Try.func29, Try.ntmps29
  go_wp2_with fail
  refine (degree_any _ _ _ _ _ (h.at_ ikN) hs (by omega)).mono ?_
  rintro e w1 ⟨rfl, hb1⟩
  have h1 := h.below ikN hb1
  have Hb1 := Lib.hid hb1
  have h3 : ¬ ((plen p : Nat) - 1 : Int) < 1 := by omega
  clear h hb1 h2
  go_wp2_with fail
  refine (iof_any 1 _ (by unfold I64; omega)).mono ?_
  rintro e w2 ⟨n2, A2, l2, c2, rfl, h2, hb2⟩
  have hbx : Below w2.heap.size w2 (w2.alloc (ibox n2 A2 l2 c2)) := (Below.refl _ _).alloc (Nat.le_refl _) _
  have H1 := Lib.hid (h1.below ikN hb2)
  have HB := Lib.hid (IBox.make h2)
  have Hb2 := Lib.hid (Hb1.out.trans (hb2.mono Hb1.out.size))
  have Hbx := Lib.hid hbx
  clear h1 h2 hb2 Hb1 hbx h3
  go_wp2
  go_loopw [4] (fun s4 wr => ∃ (j : Nat) (n : Bool) (B : Option Addr) (lb cb : Nat), j ≤ k ∧ s4 = .int .i64 (j : Int) ∧ IBox wr w2.heap.size n B lb cb (2 ^ j) ∧ Below w2.heap.size w2 wr) (fun s4 _ => k - (intOf s4).toNat)
  case atStart => exact ⟨0, _, _, _, _, Nat.zero_le _, rfl, HB.out, Hbx.out⟩
  case round =>
    clear HB Hbx
    obtain ⟨j, n, B, lb, cb, hjk, rfl, hbx, hbw⟩ := hrel
    have hp := H1.out.below ikN hbw
    have c0 := hbx.c0
    have c1 := hbx.c1
    have Hp := Lib.hid hp
    have Hbx := Lib.hid hbx
    have Hbw := Lib.hid hbw
    clear hp hbx hbw
    go_wp2_with fail
    refine (pshift_any ikN _ _ _ _ _ _ _ _ _ _ Hp.out Hbx.out.hz hs (by omega) (Hok.out j hjk)).mono ?_
    rintro e w3 ⟨g, rfl, hrow, hg, hb3⟩
    have Hp3 := Lib.hid (Hp.out.below ikN hb3)
    have Hbx3 := Lib.hid (Hbx.out.move hb3)
    have Hbw3 := Lib.hid (Hbw.out.trans (hb3.mono Hbw.out.size))
    have hll : (hsh (2 ^ j) (ptrim p)).length = plen p := by rw [hsh_length, ptrim_length]
    have hpo := hrow.poly (cap := plen p) (by omega)
    rw [hll] at hpo
    clear hrow hg hb3 c0 c1
    go_wp2_with fail
    refine (rvar_any _ _ _ _ _ (hpo.at_ ikN) (Hsm.out j hjk) (by omega)).mono ?_
    rintro e w4 ⟨rfl, hb4⟩
    have ev : (vst (hsh (2 ^ j) (ptrim p)) (plen p)).1 = VV (hsh (2 ^ j) (ptrim p)) := by
      rw [(vst_rst _ _).1]; unfold VV; rw [hll]
    rw [ev]
    have Hp4 := Lib.hid (Hp3.out.below ikN hb4)
    have Hbx4 := Lib.hid (Hbx3.out.move hb4)
    have Hbw4 := Lib.hid (Hbw3.out.trans (hb4.mono Hbw3.out.size))
    clear hll hpo ev hb4 Hp3 Hbx3 Hbw3
    by_cases hj : j = k
    · subst hj
      rw [Hz.out]
      go_wp2
      go_ret
      exact ⟨rfl, Hb2.out.trans (Hbw4.out.mono Hb2.out.size)⟩
    · have hne := Hmin.out j (by omega)
      have hb0 : (((VV (hsh (2 ^ j) (ptrim p)) : Nat) : Int) == 0) = false := by rw [beq_eq_false_iff_ne]; omega
      generalize VV (hsh (2 ^ j) (ptrim p)) = v at hb0 ⊢
      have c0 := Hbx4.out.c0
      have c1 := Hbx4.out.c1
      have fitc := (Hok.out j hjk).1
      clear hne
      go_wp2_with fail
      refine (ishl_any _ _ _ _ _ 1 _ Hbx4.out.hz.at_ fitc.sm (by omega)).mono ?_
      rintro e w5 ⟨n5, A5, l5, c5, rfl, h5, hb5⟩
      have hbx5 := Hbx4.out.move hb5
      have hp5 := Hp4.out.below ikN hb5
      have Hbw5 := Lib.hid ((Hbw4.out.trans (hb5.mono Hbw4.out.size)).setCell (p := ⟨w2.heap.size, 0, none⟩) (Nat.le_refl _) (.bool n5) |>.setCell (p := ⟨w2.heap.size, 1, none⟩) (Nat.le_refl _) (.slice A5 l5 c5))
      have e5 : (2 : Int) ^ j * 2 ^ 1 = 2 ^ (j + 1) := by rw [Int.pow_succ]; rfl
      rw [e5] at h5
      have Hbx5 := Lib.hid (hbx5.put h5)
      have d0 := hbx5.c0
      have d1 := hbx5.c1
      have d2 := hbx5.f0
      have d3 := hbx5.f1
      have Hp5 := Lib.hid hp5
      have Hd := Lib.hid hbx5
      clear h5 hb5 hbx5 hp5 e5 c0 c1 fitc
      go_wp2
      go_roundw
      case rel => exact ⟨j + 1, _, _, _, _, by omega, by go_num, Hbx5.out, Hbw5.out⟩
      case measure => simp [intOf]; omega

set_option maxHeartbeats 1000000 in
theorem rlag_low (A : Option Addr) (len cap : Nat) (f : List Int) (w : World) (h : I64At w A len cap f) (hm : len ≤ 1000) (h2 : plen f < 2) :
    Calls Try.prog 30 #[.slice A len cap] w fun e w' => e = .returned (.int .i64 0) ∧ Below w.heap.size w w' := by
  go_enter Try.func30, Try.ntmps30
  go_wp2_with fail
  refine (rtrim_any _ _ _ _ _ h (by omega)).mono ?_
  rintro e w1 ⟨rfl, rfl⟩
  have h3 : ((plen f : Nat) : Int) < 2 := by omega
  clear h
  go_wp2
  go_ret
  exact ⟨rfl, Below.refl _ _⟩

set_option maxRecDepth 100000 in
set_option maxHeartbeats 4000000 in
theorem rlag_any (A : Option Addr) (len cap : Nat) (f : List Int) (k : Nat) (w : World) (h : I64At w A len cap f) (hm : len ≤ 1000) (h2 : 2 ≤ plen f)
    (hk : k ≤ 20) (hz : VV (hsh (2 ^ k) f) = 0) (hmin : ∀ j, j < k → VV (hsh (2 ^ j) f) ≠ 0) (hok : ∀ j, j ≤ k → RsOK (2 ^ j) f) :
    Calls Try.prog 30 #[.slice A len cap] w fun e w' => e = .returned (.int .i64 (k : Int)) ∧ Below w.heap.size w w' := by
  have Hz := Lib.hid hz
  have Hmin := Lib.hid hmin
  have Hok := Lib.hid hok
  clear hz hmin hok
  go_enter Try.func30, Try.ntmps30
  go_wp2_with fail
  refine (rtrim_any _ _ _ _ _ h (by omega)).mono ?_
  rintro e w1 ⟨rfl, rfl⟩
  have h3 : ¬ ((plen f : Nat) : Int) < 2 := by omega
  go_wp2
  go_loopw [3, 4] (fun s3 s4 wr => ∃ j : Nat, j ≤ k ∧ s3 = .int .i64 (j : Int) ∧ s4 = .int .i64 (2 ^ j) ∧ Below w.heap.size w wr) (fun s3 _ _ => k - (intOf s3).toNat)
  case atStart => exact ⟨0, Nat.zero_le _, rfl, rfl, Below.refl _ _⟩
  case round =>
    obtain ⟨j, hjk, rfl, rfl, hbw⟩ := hrel
    have h1 := h.below hbw
    have Hbw := Lib.hid hbw
    clear hbw
    obtain ⟨c, hc⟩ : ∃ c : Int, c = 2 ^ j := ⟨_, rfl⟩
    rw [← hc]
    have Hc := Lib.hid hc
    have hcb : 0 < c ∧ c ≤ 1048576 := by
      rw [hc]
      have e : (2 : Int) ^ j = ((2 ^ j : Nat) : Int) := by simp
      have h5 : 2 ^ j ≤ 2 ^ 20 := Nat.pow_le_pow_right (by omega) (by omega)
      have h6 : 0 < 2 ^ j := Nat.two_pow_pos j
      omega
    have hok2 : RsOK c f := by rw [hc]; exact Hok.out j hjk
    clear hc
    go_wp2_with fail
    refine (rshift_any _ _ _ _ _ _ h1 hm hok2).mono ?_
    rintro e w2 ⟨A2, c2, rfl, h2, hb2⟩
    have Hb2 := Lib.hid (Hbw.out.trans (hb2.mono Hbw.out.size))
    have hpl : plen (hsh c f) ≤ 1000 := by have := plen_le (hsh c f); have := hsh_length c f; have := h.length; omega
    clear hb2 h1 hok2
    go_wp2_with fail
    refine (refvar_any _ _ _ _ _ h2 (by omega)).mono ?_
    rintro e w3 ⟨rfl, rfl⟩
    have ev : (rst (ptrim (hsh c f)) (plen (hsh c f))).1 = VV (hsh c f) := by
      rw [← VV_trim]; unfold VV; rw [ptrim_length]
    rw [ev]
    clear ev h2 hpl
    by_cases hj : j = k
    · subst hj
      rw [Hc.out, Hz.out]
      clear h
      go_wp2
      go_ret
      exact ⟨rfl, Hb2.out⟩
    · have hne := Hmin.out j (by omega)
      rw [← Hc.out] at hne
      have hb0 : 0 < ((VV (hsh c f) : Nat) : Int) := by omega
      generalize VV (hsh c f) = v at hb0 ⊢
      have i1 : IntKind.i64.wrap (c * 2) = c * 2 := IntWalk.i64_in _ (by omega)
      obtain ⟨hc1, hc2⟩ := hcb
      clear hne
      go_wp2
      go_roundw
      case rel => exact ⟨j + 1, by omega, by go_num, by rw [Int.pow_succ, ← Hc.out], Hb2.out⟩
      case measure => simp [intOf]; omega
end Go.Proofs.Ytfpliceenjbclaa
