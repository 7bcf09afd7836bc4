/- The walks of unipoly.SignEnd and, of package sturm, changes, VariationsEnd, lostOnLine. -/
import Derived.Test.YtdihefmjfnlpcaaStb
namespace Go.Proofs.Ytdihefmjfnlpcaa
open Go.RowKit

/-- the sign near an end of the line -/
def sge (m : Bool) (f : List Int) : Int := if m = true ∧ ¬ ((plen f : Nat) : Int).tmod 2 = 1 then -(sg (plead f)) else sg (plead f)
theorem sge_unit (m : Bool) (f : List Int) : sge m f = -1 ∨ sge m f = 0 ∨ sge m f = 1 := by
  unfold sge
  split <;> rcases sg_cases (plead f) with ⟨_, e⟩ | ⟨_, e⟩ | ⟨_, e⟩ <;> omega

set_option maxHeartbeats 1000000 in
theorem signend_any {I : IntPred} (hI : IK I) (A : Option Addr) (len cap : Nat) (f : List Int) (m : Bool) (w : World) (h : PolyP I w A len cap f) (hs : SmP f) (hm : len ≤ 1000000000) :
    Calls Try.prog 17 #[.slice A len cap, .bool m] w fun e w' => e = .returned (.int .i64 (sge m f)) ∧ Below w.heap.size w w' := by
  have hpl : plen f ≤ 1000000000 := by have := plen_le f; have := h.length; omega
  have hsc : sg (plead f) = -1 ∨ sg (plead f) = 0 ∨ sg (plead f) = 1 := by rcases sg_cases (plead f) with ⟨_, e⟩ | ⟨_, e⟩ | ⟨_, e⟩ <;> omega
  have sl : SmI (plead f) := hs.getD _
  obtain ⟨s, hsv⟩ : ∃ s, s = sg (plead f) := ⟨_, rfl⟩
  obtain ⟨r, hr⟩ : ∃ r, r = sge m f := ⟨_, rfl⟩
  rw [← hr]
  rw [← hsv] at hsc
  have hwn : IntKind.i64.wrap (-s) = -s := IntWalk.i64_in _ (by omega)
  have Hsv := Lib.hid hsv
  have Hr := Lib.hid hr
  clear hsv hr
  go_enter Try.func17, Try.ntmps17
  go_wp2_with fail
  refine (lead_any _ _ _ _ _ (h.at_ hI) hs (by omega)).mono ?_
  rintro e w1 ⟨n1, A1, l1, c1, rfl, h1, hb1⟩
  have h01 := h.below hI hb1
  have Hb1 := Lib.hid hb1
  clear h hb1
  go_wp2_with fail
  refine (isign_any _ _ _ _ _ _ h1.at_ sl).mono ?_
  rintro e w2 ⟨he, rfl⟩
  rw [← Hsv.out] at he
  subst he
  have hb2 : Below w1.heap.size w1 (w1.alloc (ibox n1 A1 l1 c1)) := (Below.refl _ _).alloc (Nat.le_refl _) _
  have h02 := h01.below hI hb2
  have Hb2 := Lib.hid (Hb1.out.trans (hb2.mono Hb1.out.size))
  clear h01 h1 hb2 Hb1
  cases m with
  | false =>
    have hrs : r = s := by rw [Hr.out, Hsv.out]; unfold sge; rw [if_neg (by simp)]
    clear h02
    go_wp2
    go_ret
    exact ⟨by rw [hrs]; rfl, Hb2.out⟩
  | true =>
    go_wp2_with fail
    refine (degree_any _ _ _ _ _ (h02.at_ hI) hs (by omega)).mono ?_
    rintro e w3 ⟨rfl, hb3⟩
    have Hb3 := Lib.hid (Hb2.out.trans (hb3.mono Hb2.out.size))
    clear h02 hb3 Hb2
    obtain ⟨dd, hdd⟩ : ∃ dd : Int, dd = ((plen f : Nat) : Int) - 1 := ⟨_, rfl⟩
    rw [← hdd]
    have Hdd := Lib.hid hdd
    have hdb : -1 ≤ dd ∧ dd ≤ 1000000000 := by omega
    clear hdd
    by_cases hp : dd.tmod 2 = 0
    · have hbn : (dd.tmod 2 != 0) = false := by rw [hp]; rfl
      have hodd : ((plen f : Nat) : Int).tmod 2 = 1 := by
        have h1 := Hdd.out
        rcases Nat.eq_zero_or_pos (plen f) with h0 | h0
        · rw [h0] at h1; rw [h1] at hp; exact absurd hp (by decide)
        · obtain ⟨n, hn⟩ : ∃ n : Nat, plen f = n + 1 := ⟨plen f - 1, by omega⟩
          have h2 : dd = (n : Int) := by rw [h1, hn]; omega
          rw [h2, show (2 : Int) = ((2 : Nat) : Int) from rfl, ← Int.ofNat_tmod] at hp
          rw [hn, show (2 : Int) = ((2 : Nat) : Int) from rfl, ← Int.ofNat_tmod]
          omega
      have hrs : r = s := by
        rw [Hr.out, Hsv.out]; unfold sge
        rw [if_neg (fun hh => hh.2 hodd)]
      have Hrs := Lib.hid hrs
      clear hrs
      go_wp2
      go_ret
      exact ⟨by rw [Hrs.out]; rfl, Hb3.out⟩
    · have hbn : (dd.tmod 2 != 0) = true := by simpa using hp
      have hrs : r = -s := by
        rw [Hr.out, Hsv.out]; unfold sge
        rcases Nat.eq_zero_or_pos (plen f) with h0 | h0
        · have h3 : plead f = 0 := plead_zero.2 h0
          rw [h3]; split <;> rfl
        · have hev : ¬ ((plen f : Nat) : Int).tmod 2 = 1 := by
            have h1 := Hdd.out
            obtain ⟨n, hn⟩ : ∃ n : Nat, plen f = n + 1 := ⟨plen f - 1, by omega⟩
            have h2 : dd = (n : Int) := by rw [h1, hn]; omega
            rw [h2, show (2 : Int) = ((2 : Nat) : Int) from rfl, ← Int.ofNat_tmod] at hp
            rw [hn, show (2 : Int) = ((2 : Nat) : Int) from rfl, ← Int.ofNat_tmod]
            omega
          rw [if_pos ⟨rfl, hev⟩]
      have Hrs := Lib.hid hrs
      clear hrs
      go_wp2
      go_ret
      exact ⟨by rw [Hrs.out]; rfl, Hb3.out⟩

/-- A list of signs. -/
def Sgn1 (S : List Int) : Prop := ∀ k, S.getD k 0 = -1 ∨ S.getD k 0 = 0 ∨ S.getD k 0 = 1

set_option maxRecDepth 100000 in
set_option maxHeartbeats 2000000 in
theorem changesE_any (cv : Value) (S : List Int) (A : Option Addr) (len cap : Nat) (ps : List (List Int)) (w : World) (h : PLst w A len cap ps) (hS : Sgn1 S) (hl : len ≤ 1000000)
    (hcall : ∀ k, k < len → ∀ Aj lj cj w', PolyAt w' Aj lj cj (ps.getD k []) → Below w.heap.size w w' → Calls Try.prog 42 #[.slice Aj lj cj, cv] w' fun e w'' => e = .returned (.int .i64 (S.getD k 0)) ∧ Below w'.heap.size w' w'') :
    Calls Try.prog 40 #[.slice A len cap, .func (.func 42) #[] #[cv]] w fun e w' => e = .returned (.int .i64 ((vst S len).1 : Nat)) ∧ Below w.heap.size w w' := by
  have Hcall := Lib.hid hcall
  clear hcall
  go_enter Try.func40, Try.ntmps40
  go_wp2
  go_loopw [5, 6, 12] (fun c l i wr => ∃ (k cc : Nat) (ll : Int), k ≤ len ∧ c = .int .i64 (cc : Int) ∧ l = .int .i64 ll ∧ i = .int .i64 (k : Int) ∧ vst S k = (cc, ll) ∧ Below w.heap.size w wr) (fun _ _ i _ => len - (intOf i).toNat)
  case atStart => exact ⟨0, 0, 0, Nat.zero_le _, rfl, rfl, rfl, rfl, Below.refl _ _⟩
  case round =>
    obtain ⟨k, cc, ll, hk, rfl, rfl, rfl, hst, hbw⟩ := hrel
    have hle := vst_le S k
    rw [hst] at hle
    obtain ⟨hcc, hll⟩ := hle
    simp only at hcc hll
    have Hst := Lib.hid hst
    clear hst
    by_cases hlt : k < len
    · obtain ⟨b, off, rfl, hb, hc⟩ := h.elems.resolve_left (by omega)
      obtain ⟨Aj, lj, cj, c0, hz⟩ := hc k hlt
      have e0 := (hbw.cell (p := ⟨b, off + k, none⟩) hb).trans c0
      have hz2 := hz.below ikAt hbw
      have hkl : (k : Int) < (len : Int) := by omega
      have Hb := Lib.hid hbw
      have Hc := Lib.hid (Hcall.out k hlt Aj lj cj wr hz2 hbw)
      clear hc h c0 hz hbw hz2
      go_wp2_with fail
      refine (Hc.out).mono ?_
      rintro e w2 ⟨he, hb2⟩
      have Hbn := Lib.hid (Hb.out.trans (hb2.mono Hb.out.size))
      obtain ⟨s, hsv⟩ : ∃ s, s = S.getD k 0 := ⟨_, rfl⟩
      rw [← hsv] at he
      subst he
      have hcase := hS k
      rw [← hsv] at hcase
      have Hsv : Hid (sg (S.getD k 0) = s) := Lib.hid (by rw [← hsv]; rcases hcase with rfl | rfl | rfl <;> rfl)
      clear hsv e0 hb2 Hc Hb
      rcases hcase with rfl | rfl | rfl
      · rcases hll with rfl | rfl | rfl
        · have Hn := Lib.hid (vst_same Hst.out Hsv.out (by omega) (by omega))
          go_wp2
          go_roundw
          case rel => exact ⟨k + 1, _, _, by omega, rfl, rfl, by go_num, Hn.out, Hbn.out⟩
          case measure => simp [intOf]; omega
        · have Hn := Lib.hid (vst_same Hst.out Hsv.out (by omega) (by omega))
          go_wp2
          go_roundw
          case rel => exact ⟨k + 1, _, _, by omega, rfl, rfl, by go_num, Hn.out, Hbn.out⟩
          case measure => simp [intOf]; omega
        · have Hn := Lib.hid (vst_turn Hst.out Hsv.out (by omega) (by omega))
          go_wp2
          go_roundw
          case rel => exact ⟨k + 1, _, _, by omega, by go_num, rfl, by go_num, Hn.out, Hbn.out⟩
          case measure => simp [intOf]; omega
      · have Hn := Lib.hid (vst_zero Hst.out Hsv.out)
        go_wp2
        go_roundw
        case rel => exact ⟨k + 1, _, _, by omega, rfl, rfl, by go_num, Hn.out, Hbn.out⟩
        case measure => simp [intOf]; omega
      · rcases hll with rfl | rfl | rfl
        · have Hn := Lib.hid (vst_turn Hst.out Hsv.out (by omega) (by omega))
          go_wp2
          go_roundw
          case rel => exact ⟨k + 1, _, _, by omega, by go_num, rfl, by go_num, Hn.out, Hbn.out⟩
          case measure => simp [intOf]; omega
        · have Hn := Lib.hid (vst_same Hst.out Hsv.out (by omega) (by omega))
          go_wp2
          go_roundw
          case rel => exact ⟨k + 1, _, _, by omega, rfl, rfl, by go_num, Hn.out, Hbn.out⟩
          case measure => simp [intOf]; omega
        · have Hn := Lib.hid (vst_same Hst.out Hsv.out (by omega) (by omega))
          go_wp2
          go_roundw
          case rel => exact ⟨k + 1, _, _, by omega, rfl, rfl, by go_num, Hn.out, Hbn.out⟩
          case measure => simp [intOf]; omega
    · have hk2 : len = k := by omega
      subst hk2
      have hkl : ¬ (len : Int) < (len : Int) := by omega
      have Hb := Lib.hid hbw
      clear hbw h
      go_wp2
      go_ret
      exact ⟨by rw [Hst.out]; rfl, Hb.out⟩

set_option maxRecDepth 100000 in
set_option maxHeartbeats 2000000 in
theorem changesV_any (cv : Value) (S : List Int) (A : Option Addr) (len cap : Nat) (ps : List (List Int)) (w : World) (h : PLst w A len cap ps) (hS : Sgn1 S) (hl : len ≤ 1000000)
    (hcall : ∀ k, k < len → ∀ Aj lj cj w', PolyAt w' Aj lj cj (ps.getD k []) → Below w.heap.size w w' → Calls Try.prog 41 #[.slice Aj lj cj, cv] w' fun e w'' => e = .returned (.int .i64 (S.getD k 0)) ∧ Below w'.heap.size w' w'') :
    Calls Try.prog 40 #[.slice A len cap, .func (.func 41) #[] #[cv]] w fun e w' => e = .returned (.int .i64 ((vst S len).1 : Nat)) ∧ Below w.heap.size w w' := by
  have Hcall := Lib.hid hcall
  clear hcall
  go_enter Try.func40, Try.ntmps40
  go_wp2
  go_loopw [5, 6, 12] (fun c l i wr => ∃ (k cc : Nat) (ll : Int), k ≤ len ∧ c = .int .i64 (cc : Int) ∧ l = .int .i64 ll ∧ i = .int .i64 (k : Int) ∧ vst S k = (cc, ll) ∧ Below w.heap.size w wr) (fun _ _ i _ => len - (intOf i).toNat)
  case atStart => exact ⟨0, 0, 0, Nat.zero_le _, rfl, rfl, rfl, rfl, Below.refl _ _⟩
  case round =>
    obtain ⟨k, cc, ll, hk, rfl, rfl, rfl, hst, hbw⟩ := hrel
    have hle := vst_le S k
    rw [hst] at hle
    obtain ⟨hcc, hll⟩ := hle
    simp only at hcc hll
    have Hst := Lib.hid hst
    clear hst
    by_cases hlt : k < len
    · obtain ⟨b, off, rfl, hb, hc⟩ := h.elems.resolve_left (by omega)
      obtain ⟨Aj, lj, cj, c0, hz⟩ := hc k hlt
      have e0 := (hbw.cell (p := ⟨b, off + k, none⟩) hb).trans c0
      have hz2 := hz.below ikAt hbw
      have hkl : (k : Int) < (len : Int) := by omega
      have Hb := Lib.hid hbw
      have Hc := Lib.hid (Hcall.out k hlt Aj lj cj wr hz2 hbw)
      clear hc h c0 hz hbw hz2
      go_wp2_with fail
      refine (Hc.out).mono ?_
      rintro e w2 ⟨he, hb2⟩
      have Hbn := Lib.hid (Hb.out.trans (hb2.mono Hb.out.size))
      obtain ⟨s, hsv⟩ : ∃ s, s = S.getD k 0 := ⟨_, rfl⟩
      rw [← hsv] at he
      subst he
      have hcase := hS k
      rw [← hsv] at hcase
      have Hsv : Hid (sg (S.getD k 0) = s) := Lib.hid (by rw [← hsv]; rcases hcase with rfl | rfl | rfl <;> rfl)
      clear hsv e0 hb2 Hc Hb
      rcases hcase with rfl | rfl | rfl
      · rcases hll with rfl | rfl | rfl
        · have Hn := Lib.hid (vst_same Hst.out Hsv.out (by omega) (by omega))
          go_wp2
          go_roundw
          case rel => exact ⟨k + 1, _, _, by omega, rfl, rfl, by go_num, Hn.out, Hbn.out⟩
          case measure => simp [intOf]; omega
        · have Hn := Lib.hid (vst_same Hst.out Hsv.out (by omega) (by omega))
          go_wp2
          go_roundw
          case rel => exact ⟨k + 1, _, _, by omega, rfl, rfl, by go_num, Hn.out, Hbn.out⟩
          case measure => simp [intOf]; omega
        · have Hn := Lib.hid (vst_turn Hst.out Hsv.out (by omega) (by omega))
          go_wp2
          go_roundw
          case rel => exact ⟨k + 1, _, _, by omega, by go_num, rfl, by go_num, Hn.out, Hbn.out⟩
          case measure => simp [intOf]; omega
      · have Hn := Lib.hid (vst_zero Hst.out Hsv.out)
        go_wp2
        go_roundw
        case rel => exact ⟨k + 1, _, _, by omega, rfl, rfl, by go_num, Hn.out, Hbn.out⟩
        case measure => simp [intOf]; omega
      · rcases hll with rfl | rfl | rfl
        · have Hn := Lib.hid (vst_turn Hst.out Hsv.out (by omega) (by omega))
          go_wp2
          go_roundw
          case rel => exact ⟨k + 1, _, _, by omega, by go_num, rfl, by go_num, Hn.out, Hbn.out⟩
          case measure => simp [intOf]; omega
        · have Hn := Lib.hid (vst_same Hst.out Hsv.out (by omega) (by omega))
          go_wp2
          go_roundw
          case rel => exact ⟨k + 1, _, _, by omega, rfl, rfl, by go_num, Hn.out, Hbn.out⟩
          case measure => simp [intOf]; omega
        · have Hn := Lib.hid (vst_same Hst.out Hsv.out (by omega) (by omega))
          go_wp2
          go_roundw
          case rel => exact ⟨k + 1, _, _, by omega, rfl, rfl, by go_num, Hn.out, Hbn.out⟩
          case measure => simp [intOf]; omega
    · have hk2 : len = k := by omega
      subst hk2
      have hkl : ¬ (len : Int) < (len : Int) := by omega
      have Hb := Lib.hid hbw
      clear hbw h
      go_wp2
      go_ret
      exact ⟨by rw [Hst.out]; rfl, Hb.out⟩
end Go.Proofs.Ytdihefmjfnlpcaa
