/- The walks of the reference for layer 14: Variations, Norm; and rootbound.Variations. -/
import Derived.Test.YtfpliceenjbclaaPolB
namespace Go.Proofs.Ytfpliceenjbclaa
open Go.RowKit

/-- sign changes and the last sign, as rootbound counts them -/
def vst (p : List Int) : Nat → Nat × Int
  | 0 => (0, 0)
  | k + 1 => if sg (p.getD k 0) = 0 then vst p k else (if sg (p.getD k 0) = -(vst p k).2 then (vst p k).1 + 1 else (vst p k).1, sg (p.getD k 0))

/-- sign changes and the last coefficient other than 0, as the reference counts them -/
def rst (p : List Int) : Nat → Nat × Int
  | 0 => (0, 0)
  | k + 1 => if p.getD k 0 = 0 then rst p k else (if ((rst p k).2 < 0 ∧ 0 < p.getD k 0) ∨ (0 < (rst p k).2 ∧ p.getD k 0 < 0) then (rst p k).1 + 1 else (rst p k).1, p.getD k 0)

theorem vst_rst (p : List Int) (k : Nat) : (vst p k).1 = (rst p k).1 ∧ (vst p k).2 = sg (rst p k).2 := by
  induction k with
  | zero => exact ⟨rfl, rfl⟩
  | succ k ih =>
    obtain ⟨h1, h2⟩ := ih
    simp only [vst, rst]
    generalize p.getD k 0 = a
    rw [h1, h2]
    generalize (rst p k).2 = l
    generalize (rst p k).1 = c
    rcases sg_cases a with ⟨a1, a2⟩ | ⟨a1, a2⟩ | ⟨a1, a2⟩
    · rcases sg_cases l with ⟨b1, b2⟩ | ⟨b1, b2⟩ | ⟨b1, b2⟩ <;> rw [a2, b2, if_neg (by omega), if_neg (by omega : ¬ a = 0)] <;> simp [a2] <;> omega
    · subst a1
      simp [sg_zero]
      exact ⟨h1, h2⟩
    · rcases sg_cases l with ⟨b1, b2⟩ | ⟨b1, b2⟩ | ⟨b1, b2⟩ <;> rw [a2, b2, if_neg (by omega), if_neg (by omega : ¬ a = 0)] <;> simp [a2] <;> omega

theorem vst_le (p : List Int) (k : Nat) : (vst p k).1 ≤ k ∧ ((vst p k).2 = -1 ∨ (vst p k).2 = 0 ∨ (vst p k).2 = 1) := by
  induction k with
  | zero => exact ⟨Nat.le_refl _, .inr (.inl rfl)⟩
  | succ k ih =>
    simp only [vst]
    split
    · exact ⟨by omega, ih.2⟩
    · refine ⟨by simp only; split <;> omega, ?_⟩
      rcases sg_cases (p.getD k 0) with ⟨a1, a2⟩ | ⟨a1, a2⟩ | ⟨a1, a2⟩ <;> first | exact .inl a2 | exact .inr (.inl a2) | exact .inr (.inr a2)
theorem rst_le (p : List Int) (k : Nat) : (rst p k).1 ≤ k := by rw [← (vst_rst p k).1]; exact (vst_le p k).1

theorem vst_zero {p : List Int} {k : Nat} {c : Nat} {l : Int} (h : vst p k = (c, l)) (h0 : sg (p.getD k 0) = 0) : vst p (k + 1) = (c, l) := by simp only [vst, if_pos h0]; exact h
theorem vst_turn {p : List Int} {k : Nat} {c : Nat} {l : Int} (h : vst p k = (c, l)) {s : Int} (hs : sg (p.getD k 0) = s) (h0 : s ≠ 0) (h1 : s = -l) : vst p (k + 1) = (c + 1, s) := by
  simp only [vst, h, hs, if_neg h0, if_pos h1]
theorem vst_same {p : List Int} {k : Nat} {c : Nat} {l : Int} (h : vst p k = (c, l)) {s : Int} (hs : sg (p.getD k 0) = s) (h0 : s ≠ 0) (h1 : s ≠ -l) : vst p (k + 1) = (c, s) := by
  simp only [vst, h, hs, if_neg h0, if_neg h1]

set_option maxHeartbeats 2000000 in
theorem rvar_any (A : Option Addr) (len cap : Nat) (p : List Int) (w : World) (h : PolyAt w A len cap p) (hs : SmP p) (hm : len ≤ 1099511627776) :
    Calls Try.prog 20 #[.slice A len cap] w fun e w' => e = .returned (.int .i64 ((vst p len).1 : Nat)) ∧ Below w.heap.size w w' := by
  go_enter Try.func20, Try.ntmps20
  go_wp2
  go_loopw [3, 4, 10] (fun c l i wr => ∃ (k cc : Nat) (ll : Int), k ≤ len ∧ c = .int .i64 (cc : Int) ∧ l = .int .i64 ll ∧ i = .int .i64 (k : Int) ∧ vst p k = (cc, ll) ∧ Below w.heap.size w wr) (fun _ _ i _ => len - (intOf i).toNat)
  case atStart => exact ⟨0, 0, 0, Nat.zero_le _, rfl, rfl, rfl, rfl, Below.refl _ _⟩
  case round =>
    obtain ⟨k, cc, ll, hk, rfl, rfl, rfl, hst, hbw⟩ := hrel
    have hle := vst_le p k
    rw [hst] at hle
    obtain ⟨hcc, hll⟩ := hle
    simp only at hcc hll
    have Hst := Lib.hid hst
    clear hst
    by_cases hlt : k < len
    · obtain ⟨b, off, rfl, hb, hc⟩ := h.get (by omega)
      obtain ⟨neg, Aj, lj, cj, c0, c1, hz⟩ := hc k hlt
      have e0 := (hbw.cell (p := ⟨b, off + k * 2, none⟩) hb).trans c0
      have e1 := (hbw.cell (p := ⟨b, off + k * 2 + 1, none⟩) hb).trans c1
      have hz2 := (hz.below hbw).below ((Below.refl wr.heap.size wr).alloc (Nat.le_refl _) (ibox neg Aj lj cj))
      have hsk := hs.getD k
      have Hb := Lib.hid hbw
      clear hc h c0 c1 hz hbw
      go_wp2_with fail
      refine (isign_any _ _ _ _ _ _ hz2 hsk).mono ?_
      rintro e w2 ⟨rfl, rfl⟩
      have Hbn := Lib.hid (Hb.out.trans ((below_two (B := wr.heap.size) wr (ibox neg Aj lj cj) (ibox neg Aj lj cj) (Nat.le_refl _)).mono Hb.out.size))
      clear hz2 hsk e0 e1
      obtain ⟨s, hsv⟩ : ∃ s, s = sg (p.getD k 0) := ⟨_, rfl⟩
      have Hsv := Lib.hid hsv.symm
      have hcase : s = -1 ∨ s = 0 ∨ s = 1 := by
        rcases sg_cases (p.getD k 0) with ⟨a1, a2⟩ | ⟨a1, a2⟩ | ⟨a1, a2⟩ <;> omega
      rw [← hsv]
      clear hsv
      rcases hcase with rfl | rfl | rfl
      · rcases hll with rfl | rfl | rfl
        · have Hn := Lib.hid (vst_same Hst.out Hsv.out (by omega) (by omega))
          go_wp2
          go_roundw
          case rel => exact ⟨k + 1, _, _, by omega, rfl, rfl, by go_num, Hn.out, Hbn.out⟩
          case measure => simp [intOf]; omega
        · have Hn := Lib.hid (vst_same Hst.out Hsv.out (by omega) (by omega))
          go_wp2
          go_roundw
          case rel => exact ⟨k + 1, _, _, by omega, rfl, rfl, by go_num, Hn.out, Hbn.out⟩
          case measure => simp [intOf]; omega
        · have Hn := Lib.hid (vst_turn Hst.out Hsv.out (by omega) (by omega))
          go_wp2
          go_roundw
          case rel => exact ⟨k + 1, _, _, by omega, by go_num, rfl, by go_num, Hn.out, Hbn.out⟩
          case measure => simp [intOf]; omega
      · have Hn := Lib.hid (vst_zero Hst.out Hsv.out)
        go_wp2
        go_roundw
        case rel => exact ⟨k + 1, _, _, by omega, rfl, rfl, by go_num, Hn.out, Hbn.out⟩
        case measure => simp [intOf]; omega
      · rcases hll with rfl | rfl | rfl
        · have Hn := Lib.hid (vst_turn Hst.out Hsv.out (by omega) (by omega))
          go_wp2
          go_roundw
          case rel => exact ⟨k + 1, _, _, by omega, by go_num, rfl, by go_num, Hn.out, Hbn.out⟩
          case measure => simp [intOf]; omega
        · have Hn := Lib.hid (vst_same Hst.out Hsv.out (by omega) (by omega))
          go_wp2
          go_roundw
          case rel => exact ⟨k + 1, _, _, by omega, rfl, rfl, by go_num, Hn.out, Hbn.out⟩
          case measure => simp [intOf]; omega
        · have Hn := Lib.hid (vst_same Hst.out Hsv.out (by omega) (by omega))
          go_wp2
          go_roundw
          case rel => exact ⟨k + 1, _, _, by omega, rfl, rfl, by go_num, Hn.out, Hbn.out⟩
          case measure => simp [intOf]; omega
    · have hk2 : len = k := by omega
      subst hk2
      have Hb := Lib.hid hbw
      clear h hbw hll
      go_wp2
      go_ret
      exact ⟨by rw [Hst.out]; rfl, Hb.out⟩

theorem rst_zero {p : List Int} {k : Nat} {c : Nat} {l : Int} (h : rst p k = (c, l)) (h0 : p.getD k 0 = 0) : rst p (k + 1) = (c, l) := by simp only [rst, if_pos h0]; exact h
theorem rst_turn {p : List Int} {k : Nat} {c : Nat} {l : Int} (h : rst p k = (c, l)) {s : Int} (hs : p.getD k 0 = s) (h1 : (l < 0 ∧ 0 < s) ∨ (0 < l ∧ s < 0)) : rst p (k + 1) = (c + 1, s) := by
  simp only [rst, h, hs, if_pos h1]; rw [if_neg (by omega)]
theorem rst_same {p : List Int} {k : Nat} {c : Nat} {l : Int} (h : rst p k = (c, l)) {s : Int} (hs : p.getD k 0 = s) (h0 : s ≠ 0) (h1 : ¬ ((l < 0 ∧ 0 < s) ∨ (0 < l ∧ s < 0))) : rst p (k + 1) = (c, s) := by
  simp only [rst, h, hs, if_neg h1]; rw [if_neg h0]

set_option maxHeartbeats 2000000 in
theorem refvar_any (A : Option Addr) (len cap : Nat) (p : List Int) (w : World) (h : I64At w A len cap p) (hm : len ≤ 1099511627776) :
    Calls Try.prog 25 #[.slice A len cap] w fun e w' => e = .returned (.int .i64 ((rst p len).1 : Nat)) ∧ w = w' := by
  go_enter Try.func25, Try.ntmps25
  go_wp2
  go_loop [3, 4, 5] (fun c l i => ∃ (k cc : Nat) (ll : Int), k ≤ len ∧ c = .int .i64 (cc : Int) ∧ l = .int .i64 ll ∧ i = .int .i64 (k : Int) ∧ rst p k = (cc, ll)) (fun _ _ i => len - (intOf i).toNat)
  case atStart => exact ⟨0, 0, 0, Nat.zero_le _, rfl, rfl, rfl, rfl⟩
  case round =>
    obtain ⟨k, cc, ll, hk, rfl, rfl, rfl, hst⟩ := hrel
    have hcc := rst_le p k
    rw [hst] at hcc
    simp only at hcc
    have Hst := Lib.hid hst
    clear hst
    by_cases hlt : k < len
    · obtain ⟨b, off, rfl, hb, hc⟩ := h.at_ (by omega)
      have hcell := hc k hlt
      obtain ⟨s, hsv⟩ : ∃ s, s = p.getD k 0 := ⟨_, rfl⟩
      rw [← hsv] at hcell
      have Hsv := Lib.hid hsv.symm
      clear hc h hsv
      by_cases h0 : s = 0
      · have Hn := Lib.hid (rst_zero Hst.out (Hsv.out.trans h0))
        have hb0 : (s == 0) = true := by simp [h0]
        clear h0
        go_wp2
        go_round
        case rel => exact ⟨k + 1, _, _, by omega, rfl, rfl, by go_num, Hn.out⟩
        case measure => simp [intOf]; omega
      · by_cases h1 : (ll < 0 ∧ 0 < s) ∨ (0 < ll ∧ s < 0)
        · have Hn := Lib.hid (rst_turn Hst.out Hsv.out h1)
          have hb0 : (s == 0) = false := by simp [h0]
          rcases h1 with ⟨h1, h2⟩ | ⟨h1, h2⟩
          · go_wp2
            go_round
            case rel => exact ⟨k + 1, _, _, by omega, by go_num, rfl, by go_num, Hn.out⟩
            case measure => simp [intOf]; omega
          · have h3 : ¬ ll < 0 := by omega
            go_wp2
            go_round
            case rel => exact ⟨k + 1, _, _, by omega, by go_num, rfl, by go_num, Hn.out⟩
            case measure => simp [intOf]; omega
        · have Hn := Lib.hid (rst_same Hst.out Hsv.out h0 h1)
          have hb0 : (s == 0) = false := by simp [h0]
          rcases Int.lt_trichotomy ll 0 with h3 | h3 | h3
          · have h4 : ¬ 0 < s := by omega
            have h5 : ¬ 0 < ll := by omega
            clear h1
            go_wp2
            go_round
            case rel => exact ⟨k + 1, _, _, by omega, rfl, rfl, by go_num, Hn.out⟩
            case measure => simp [intOf]; omega
          · subst h3
            clear h1
            go_wp2
            go_round
            case rel => exact ⟨k + 1, _, _, by omega, rfl, rfl, by go_num, Hn.out⟩
            case measure => simp [intOf]; omega
          · have h4 : ¬ s < 0 := by omega
            have h5 : ¬ ll < 0 := by omega
            clear h1
            go_wp2
            go_round
            case rel => exact ⟨k + 1, _, _, by omega, rfl, rfl, by go_num, Hn.out⟩
            case measure => simp [intOf]; omega
    · have hk2 : len = k := by omega
      subst hk2
      clear h
      go_wp2
      go_ret
      exact ⟨by rw [Hst.out]; rfl, rfl⟩

/-- the sum of the squares of the first k coefficients -/
def nst (p : List Int) : Nat → Int
  | 0 => 0
  | k + 1 => nst p k + p.getD k 0 * p.getD k 0

/-- the numbers are small: then nothing wraps in the reference -/
def Tiny (m : Nat) (p : List Int) : Prop := ∀ k, (p.getD k 0).natAbs ≤ m

theorem sq_le {a : Int} {m : Nat} (h : a.natAbs ≤ m) : 0 ≤ a * a ∧ a * a ≤ ((m * m : Nat) : Int) := by
  have e : a * a = ((a.natAbs * a.natAbs : Nat) : Int) := Int.natAbs_mul_self.symm
  rw [e]
  exact ⟨Int.natCast_nonneg _, Int.ofNat_le.2 (Nat.mul_le_mul h h)⟩

theorem nst_le {p : List Int} {m : Nat} (h : Tiny m p) (k : Nat) : 0 ≤ nst p k ∧ nst p k ≤ ((k * (m * m) : Nat) : Int) := by
  induction k with
  | zero => exact ⟨Int.le_refl _, by simp [nst]⟩
  | succ k ih =>
    have := sq_le (h k)
    rw [Nat.succ_mul]
    simp only [nst]
    omega

set_option maxHeartbeats 1000000 in
theorem refnorm_any (A : Option Addr) (len cap : Nat) (p : List Int) (w : World) (h : I64At w A len cap p) (hm : len ≤ 1000) (ht2 : Tiny 40000 p) :
    Calls Try.prog 28 #[.slice A len cap] w fun e w' => e = .returned (.int .i64 (nst p len)) ∧ ∃ n, w' = w.drewN n := by
  go_enter Try.func28, Try.ntmps28
  go_wp2
  go_loopw [3, 4] (fun c i wr => ∃ k : Nat, k ≤ len ∧ c = .int .i64 (nst p k) ∧ i = .int .i64 (k : Int) ∧ ∃ n, wr = w.drewN n) (fun _ i _ => len - (intOf i).toNat)
  case atStart => exact ⟨0, Nat.zero_le _, rfl, rfl, 0, rfl⟩
  case round =>
    obtain ⟨k, hk, rfl, rfl, n, rfl⟩ := hrel
    have hkk := nst_le ht2 k
    by_cases hlt : k < len
    · obtain ⟨b, off, rfl, hb, hc⟩ := h.at_ (by omega)
      have hcell := hc k hlt
      have hsq := sq_le (ht2 k)
      have hn : nst p (k + 1) = nst p k + p.getD k 0 * p.getD k 0 := rfl
      have hb3 : nst p k ≤ 1600000000000 := by omega
      have Hn := Lib.hid hn
      obtain ⟨s, hsv⟩ : ∃ s, s = p.getD k 0 := ⟨_, rfl⟩
      rw [← hsv] at hcell hsq Hn
      obtain ⟨q, hq⟩ : ∃ q, q = s * s := ⟨_, rfl⟩
      have hq0 := hsq.1
      have hq1 := hsq.2
      rw [← hq] at hq0 hq1
      obtain ⟨t, htv⟩ : ∃ t, t = nst p k := ⟨_, rfl⟩
      rw [← htv] at hkk hb3 Hn ⊢
      have hw1 : IntKind.i64.wrap (s * s) = q := by rw [← hq, IntKind.wrap_i64]; omega
      have hkl : (k : Int) < (len : Int) := by omega
      have Hq := Lib.hid hq
      clear hq
      have hk0 := hkk.1
      clear hc h hsq hkk hsv hn ht2 htv
      go_wp2
      go_quiet (fail)
      go_wp2
      go_roundw
      case rel => exact ⟨k + 1, by omega, by rw [Hn.out, ← Hq.out], by go_num, _, rfl⟩
      case measure => simp [intOf]; omega
    · have hk2 : len = k := by omega
      subst hk2
      clear h
      go_wp2
      go_ret
      exact ⟨rfl, n, rfl⟩
end Go.Proofs.Ytfpliceenjbclaa
