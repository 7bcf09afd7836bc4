/- The walks of division, third part: Floor. -/
import Derived.Test.YtfpliceenjbclaaDivB
import Derived.Test.YtfpliceenjbclaaPolB
namespace Go.Proofs.Ytfpliceenjbclaa
open Go.RowKit

/-- the quotient rounded down, and its remainder -/
def flq (a b : Int) : Int := if sg (a.tmod b) * sg b < 0 then a.tdiv b - 1 else a.tdiv b
def flr (a b : Int) : Int := if sg (a.tmod b) * sg b < 0 then a.tmod b + b else a.tmod b

/-- Floor's boxes and result cells: b at 1, the quotient at 2, the remainder at 3. -/
structure FlW (w W : World) (nb : Bool) (B : Option Addr) (lb cb : Nat) (b : Int) (n1 : Bool) (A1 : Option Addr) (l1 c1 : Nat) (q : Int) (n2 : Bool) (A2 : Option Addr) (l2 c2 : Nat) (r : Int) : Prop where
  w10 : W.cell? ⟨w.heap.size + 1, 0, none⟩ = some (.bool nb)
  w11 : W.cell? ⟨w.heap.size + 1, 1, none⟩ = some (.slice B lb cb)
  w20 : W.cell? ⟨w.heap.size + 1 + 1, 0, none⟩ = some (.bool n1)
  w21 : W.cell? ⟨w.heap.size + 1 + 1, 1, none⟩ = some (.slice A1 l1 c1)
  w30 : W.cell? ⟨w.heap.size + 1 + 1 + 1, 0, none⟩ = some (.bool n2)
  w31 : W.cell? ⟨w.heap.size + 1 + 1 + 1, 1, none⟩ = some (.slice A2 l2 c2)
  g20 : W.frozen? ⟨w.heap.size + 1 + 1, 0, none⟩ = false
  g21 : W.frozen? ⟨w.heap.size + 1 + 1, 1, none⟩ = false
  g30 : W.frozen? ⟨w.heap.size + 1 + 1 + 1, 0, none⟩ = false
  g31 : W.frozen? ⟨w.heap.size + 1 + 1 + 1, 1, none⟩ = false
  size : w.heap.size + 4 ≤ W.heap.size
  hb : IntAt W nb B lb cb b
  hq : IntN W n1 A1 l1 c1 q
  hr : IntN W n2 A2 l2 c2 r
  below : Below w.heap.size w W

section
variable {w W W' : World} {nb : Bool} {B : Option Addr} {lb cb : Nat} {b : Int} {n1 : Bool} {A1 : Option Addr} {l1 c1 : Nat} {q : Int} {n2 : Bool} {A2 : Option Addr} {l2 c2 : Nat} {r : Int}
theorem FlW.move (h : FlW w W nb B lb cb b n1 A1 l1 c1 q n2 A2 l2 c2 r) (hb : Below W.heap.size W W') : FlW w W' nb B lb cb b n1 A1 l1 c1 q n2 A2 l2 c2 r := by
  obtain ⟨hc, hf⟩ := bcell hb
  have hs := h.size
  exact ⟨(hc _ _ (by omega)).trans h.w10, (hc _ _ (by omega)).trans h.w11, (hc _ _ (by omega)).trans h.w20, (hc _ _ (by omega)).trans h.w21, (hc _ _ (by omega)).trans h.w30, (hc _ _ (by omega)).trans h.w31,
    (hf _ _ (by omega)).trans h.g20, (hf _ _ (by omega)).trans h.g21, (hf _ _ (by omega)).trans h.g30, (hf _ _ (by omega)).trans h.g31, Nat.le_trans hs hb.size, h.hb.below hb, h.hq.below hb, h.hr.below hb, h.below.trans (hb.mono h.below.size)⟩

theorem ne_off {g : Nat} {i j : Nat} (h : i ≠ j) : (⟨g, i, none⟩ : Addr) ≠ ⟨g, j, none⟩ := by intro e; injection e with _ e _; exact h e
theorem ne_blk {g g' : Nat} {i j : Nat} (h : g ≠ g') : (⟨g, i, none⟩ : Addr) ≠ ⟨g', j, none⟩ := by intro e; injection e with e _ _; exact h e

/-- The quotient's cells are set. -/
theorem FlW.setq (h : FlW w W nb B lb cb b n1 A1 l1 c1 q n2 A2 l2 c2 r) {n3 : Bool} {A3 : Option Addr} {l3 c3 : Nat} {q' : Int} (h3 : IntN W n3 A3 l3 c3 q') :
    FlW w ((W.setCell ⟨w.heap.size + 1 + 1, 0, none⟩ (.bool n3)).setCell ⟨w.heap.size + 1 + 1, 1, none⟩ (.slice A3 l3 c3)) nb B lb cb b n3 A3 l3 c3 q' n2 A2 l2 c2 r := by
  have k := h.w20
  have k1 := h.w21
  have k2 := h.w30
  have k3 := h.w31
  have k4 := h.w10
  have k5 := h.w11
  have f0 := h.g20
  have f1 := h.g21
  have f2 := h.g30
  have f3 := h.g31
  have k1' : (W.setCell ⟨w.heap.size + 1 + 1, 0, none⟩ (.bool n3)).cell? ⟨w.heap.size + 1 + 1, 1, none⟩ = some (.slice A1 l1 c1) := by rw [World.cell?_setCell_other _ _ _ _ (ne_off (by omega))]; exact k1
  exact ⟨by go_simp, by go_simp, by go_simp, by go_simp, by go_simp, by go_simp, by go_simp, by go_simp, by go_simp, by go_simp, by simpa using h.size,
    (h.hb.store _ k (noDigit_bool _)).store _ k1' (noDigit_slice _ _ _), h3.ret _ _ k k1, h.hr.ret _ _ k k1, ((h.below.setCell (p := ⟨w.heap.size + 1 + 1, 0, none⟩) (by simp; omega) _).setCell (p := ⟨w.heap.size + 1 + 1, 1, none⟩) (by simp; omega) _)⟩

/-- The remainder's cells are set. -/
theorem FlW.setr (h : FlW w W nb B lb cb b n1 A1 l1 c1 q n2 A2 l2 c2 r) {n3 : Bool} {A3 : Option Addr} {l3 c3 : Nat} {r' : Int} (h3 : IntN W n3 A3 l3 c3 r') :
    FlW w ((W.setCell ⟨w.heap.size + 1 + 1 + 1, 0, none⟩ (.bool n3)).setCell ⟨w.heap.size + 1 + 1 + 1, 1, none⟩ (.slice A3 l3 c3)) nb B lb cb b n1 A1 l1 c1 q n3 A3 l3 c3 r' := by
  have k := h.w20
  have k1 := h.w21
  have k2 := h.w30
  have k3 := h.w31
  have k4 := h.w10
  have k5 := h.w11
  have f0 := h.g20
  have f1 := h.g21
  have f2 := h.g30
  have f3 := h.g31
  have k1' : (W.setCell ⟨w.heap.size + 1 + 1 + 1, 0, none⟩ (.bool n3)).cell? ⟨w.heap.size + 1 + 1 + 1, 1, none⟩ = some (.slice A2 l2 c2) := by rw [World.cell?_setCell_other _ _ _ _ (ne_off (by omega))]; exact k3
  exact ⟨by go_simp, by go_simp, by go_simp, by go_simp, by go_simp, by go_simp, by go_simp, by go_simp, by go_simp, by go_simp, by simpa using h.size,
    (h.hb.store _ k2 (noDigit_bool _)).store _ k1' (noDigit_slice _ _ _), h.hq.ret _ _ k2 k3, h3.ret _ _ k2 k3, ((h.below.setCell (p := ⟨w.heap.size + 1 + 1 + 1, 0, none⟩) (by simp; omega) _).setCell (p := ⟨w.heap.size + 1 + 1 + 1, 1, none⟩) (by simp; omega) _)⟩
end

set_option maxHeartbeats 4000000 in
theorem floor_any (na : Bool) (A : Option Addr) (la ca : Nat) (a : Int) (nb : Bool) (B : Option Addr) (lb cb : Nat) (b : Int) (w : World) (ha : IntAt w na A la ca a) (hb : IntAt w nb B lb cb b) (hsa : SmI a) (hsb : SmI b) (hok : DivOK a.natAbs b.natAbs) (hb0 : b ≠ 0) (hs1 : Sm (a.natAbs + 1)) (hs2 : Sm (a.natAbs + b.natAbs)) :
    Calls Try.prog 97 #[.agg #[.bool na, .slice A la ca], .agg #[.bool nb, .slice B lb cb]] w fun e w' => ∃ n1 A1 l1 c1 n2 A2 l2 c2, e = .returned (.tuple #[.agg #[.bool n1, .slice A1 l1 c1], .agg #[.bool n2, .slice A2 l2 c2], .int .i64 0]) ∧ IntN w' n1 A1 l1 c1 (flq a b) ∧ IntN w' n2 A2 l2 c2 (flr a b) ∧ Below w.heap.size w w' := by
  have hbx : Below w.heap.size w ((((w.alloc (ibox na A la ca)).alloc (ibox nb B lb cb)).alloc (ibox false none 0 0)).alloc (ibox false none 0 0)) := below_four w _ _ _ _ (Nat.le_refl _)
  have hA0 := ha.below hbx
  have hB0 := hb.below hbx
  have Hbx := Lib.hid hbx
  clear ha hb hbx
  go_enter Try.func97, Try.ntmps97
  go_wp2_with fail
  refine (quo_any _ _ _ _ _ _ _ _ _ _ _ hA0 hB0 hsa hsb hok hb0).mono ?_
  rintro e w1 ⟨n1, A1, l1, c1, n2, A2, l2, c2, rfl, h1, h2, hb1⟩
  obtain ⟨hc, hf⟩ := bcell hb1
  have hsz := hb1.size
  simp only [World.size_alloc] at hsz
  have d10 : w1.cell? ⟨w.heap.size + 1, 0, none⟩ = some (.bool nb) := by rw [hc _ _ (by simp)]; go_simp
  have d11 : w1.cell? ⟨w.heap.size + 1, 1, none⟩ = some (.slice B lb cb) := by rw [hc _ _ (by simp)]; go_simp
  have d20 : w1.cell? ⟨w.heap.size + 1 + 1, 0, none⟩ = some (.bool false) := by rw [hc _ _ (by simp)]; go_simp
  have f20 : w1.frozen? ⟨w.heap.size + 1 + 1, 0, none⟩ = false := by rw [hf _ _ (by simp)]; go_simp
  have d21 : w1.cell? ⟨w.heap.size + 1 + 1, 1, none⟩ = some (.slice none 0 0) := by rw [hc _ _ (by simp)]; go_simp
  have f21 : w1.frozen? ⟨w.heap.size + 1 + 1, 1, none⟩ = false := by rw [hf _ _ (by simp)]; go_simp
  have d30 : w1.cell? ⟨w.heap.size + 1 + 1 + 1, 0, none⟩ = some (.bool false) := by rw [hc _ _ (by simp)]; go_simp
  have f30 : w1.frozen? ⟨w.heap.size + 1 + 1 + 1, 0, none⟩ = false := by rw [hf _ _ (by simp)]; go_simp
  have d31 : w1.cell? ⟨w.heap.size + 1 + 1 + 1, 1, none⟩ = some (.slice none 0 0) := by rw [hc _ _ (by simp)]; go_simp
  have f31 : w1.frozen? ⟨w.heap.size + 1 + 1 + 1, 1, none⟩ = false := by rw [hf _ _ (by simp)]; go_simp
  have h1' := h1.rets (g := w.heap.size + 1 + 1) (g' := w.heap.size + 1 + 1 + 1) (by omega) (.bool n1) (.slice A1 l1 c1) (.bool n2) (.slice A2 l2 c2) d20 d21 d30 d31
  have h2' := h2.rets (g := w.heap.size + 1 + 1) (g' := w.heap.size + 1 + 1 + 1) (by omega) (.bool n1) (.slice A1 l1 c1) (.bool n2) (.slice A2 l2 c2) d20 d21 d30 d31
  have hB1 := (((((hB0.below hb1).store (.bool n1) d20 (noDigit_bool _)).store (.slice A1 l1 c1) (p := ⟨w.heap.size + 1 + 1, 1, none⟩) (v := .slice none 0 0) (by go_simp) (noDigit_slice _ _ _))).store (.bool n2) (p := ⟨w.heap.size + 1 + 1 + 1, 0, none⟩) (v := .bool false) (by go_simp) (noDigit_bool _)).store (.slice A2 l2 c2) (p := ⟨w.heap.size + 1 + 1 + 1, 1, none⟩) (v := .slice none 0 0) (by go_simp) (noDigit_slice _ _ _)
  have hbw := (((((Hbx.out.trans (hb1.mono Hbx.out.size)).setCell (p := ⟨w.heap.size + 1 + 1, 0, none⟩) (by simp <;> omega) (.bool n1)).setCell (p := ⟨w.heap.size + 1 + 1, 1, none⟩) (by simp <;> omega) (.slice A1 l1 c1)).setCell (p := ⟨w.heap.size + 1 + 1 + 1, 0, none⟩) (by simp <;> omega) (.bool n2)).setCell (p := ⟨w.heap.size + 1 + 1 + 1, 1, none⟩) (by simp <;> omega) (.slice A2 l2 c2))
  have hW : ∃ W, W = (((w1.setCell ⟨w.heap.size + 1 + 1, 0, none⟩ (.bool n1)).setCell ⟨w.heap.size + 1 + 1, 1, none⟩ (.slice A1 l1 c1)).setCell ⟨w.heap.size + 1 + 1 + 1, 0, none⟩ (.bool n2)).setCell ⟨w.heap.size + 1 + 1 + 1, 1, none⟩ (.slice A2 l2 c2) := ⟨_, rfl⟩
  obtain ⟨W, hW⟩ := hW
  rw [← hW] at h1' h2' hB1 hbw
  have w10 : W.cell? ⟨w.heap.size + 1, 0, none⟩ = some (.bool nb) := by rw [hW]; go_simp
  have w11 : W.cell? ⟨w.heap.size + 1, 1, none⟩ = some (.slice B lb cb) := by rw [hW]; go_simp
  have w20 : W.cell? ⟨w.heap.size + 1 + 1, 0, none⟩ = some (.bool n1) := by rw [hW]; go_simp
  have w21 : W.cell? ⟨w.heap.size + 1 + 1, 1, none⟩ = some (.slice A1 l1 c1) := by rw [hW]; go_simp
  have w30 : W.cell? ⟨w.heap.size + 1 + 1 + 1, 0, none⟩ = some (.bool n2) := by rw [hW]; go_simp
  have w31 : W.cell? ⟨w.heap.size + 1 + 1 + 1, 1, none⟩ = some (.slice A2 l2 c2) := by rw [hW]; go_simp
  have g20 : W.frozen? ⟨w.heap.size + 1 + 1, 0, none⟩ = false := by rw [hW]; go_simp
  have g21 : W.frozen? ⟨w.heap.size + 1 + 1, 1, none⟩ = false := by rw [hW]; go_simp
  have g30 : W.frozen? ⟨w.heap.size + 1 + 1 + 1, 0, none⟩ = false := by rw [hW]; go_simp
  have g31 : W.frozen? ⟨w.heap.size + 1 + 1 + 1, 1, none⟩ = false := by rw [hW]; go_simp
  have wsz : w.heap.size + 4 ≤ W.heap.size := by rw [hW]; simp; omega
  have Hw := Lib.hid hW
  have HF : FlW w W nb B lb cb b n1 A1 l1 c1 (a.tdiv b) n2 A2 l2 c2 (a.tmod b) := ⟨w10, w11, w20, w21, w30, w31, g20, g21, g30, g31, wsz, hB1, h1', h2', hbw⟩
  have HF := Lib.hid HF
  clear hW h1' h2' hB1 hbw h1 h2 hB0 hA0 w10 w11 w20 w21 w30 w31 g20 g21 g30 g31 wsz
  go_wp2_with fail
  rw [← Hw.out]
  clear Hw d10 d11 d20 d21 d30 d31 f20 f21 f30 f31
  go_cut [24] (fun s24 wx => s24 = .bool (decide (sg (a.tmod b) * sg b < 0)) ∧ FlW w wx nb B lb cb b n1 A1 l1 c1 (a.tdiv b) n2 A2 l2 c2 (a.tmod b))
  case first =>
    have e10 := HF.out.w10
    have e11 := HF.out.w11
    have e30 := HF.out.w30
    have e31 := HF.out.w31
    have esz := HF.out.size
    have k1 : w.heap.size + 1 < W.heap.size := by omega
    have k3 : w.heap.size + 1 + 1 + 1 < W.heap.size := by omega
    have hwp : IntKind.i64.wrap (sg (a.tmod b) * sg b) = sg (a.tmod b) * sg b := by
      rcases sg_cases (a.tmod b) with ⟨_, x2⟩ | ⟨_, x2⟩ | ⟨_, x2⟩ <;> rcases sg_cases b with ⟨_, y2⟩ | ⟨_, y2⟩ | ⟨_, y2⟩ <;> rw [x2, y2] <;> rfl
    have hsr : SmI (a.tmod b) := by
      unfold SmI at *
      refine hsa.mono ?_
      rw [Int.natAbs_tmod]
      exact Nat.mod_le _ _
    go_region_with (first
      | (go_at_call_of 63 (Value.slice A2 l2 c2); go_must (refine (isign_any _ _ _ _ _ _ ?_ hsr).mono ?_; (exact HF.out.hr.at_.below (by repeat (first | exact Below.refl _ _ | refine Below.drew ?_ | refine Below.alloc ?_ (by simp; try omega) _))); rintro e w' ⟨rfl, rfl⟩))
      | (go_at_call_of 63 (Value.slice B lb cb); go_must (refine (isign_any _ _ _ _ _ _ ?_ hsb).mono ?_; (exact HF.out.hb.below (by repeat (first | exact Below.refl _ _ | refine Below.drew ?_ | refine Below.alloc ?_ (by simp; try omega) _))); rintro e w' ⟨rfl, rfl⟩)))
    all_goals go_wp2_with fail
    all_goals go_meet
    all_goals
      refine ⟨rfl, HF.out.move ?_⟩
      repeat (first | exact Below.refl _ _ | refine Below.drew ?_ | refine Below.alloc ?_ (by simp; try omega) _)
  case rest =>
    clear HF
    obtain ⟨rfl, hfl⟩ := hcut
    have HF := Lib.hid hfl
    by_cases hneg : sg (a.tmod b) * sg b < 0
    · have e1 : flq a b = a.tdiv b - 1 := if_pos hneg
      have e2 : flr a b = a.tmod b + b := if_pos hneg
      rw [show decide (sg (a.tmod b) * sg b < 0) = true from decide_eq_true hneg]
      have E1 := Lib.hid e1
      have E2 := Lib.hid e2
      clear e1 e2 hneg
      have e20 := hfl.w20
      have e21 := hfl.w21
      have f20 := hfl.g20
      have f21 := hfl.g21
      have esz := hfl.size
      have hq1 := hfl.hq.at_.below (Below.refl _ _).drew
      have hsq : SmI (a.tdiv b) := by
        unfold SmI at *
        refine hsa.mono ?_
        rw [Int.natAbs_tdiv]
        exact Nat.div_le_self _ _
      have hsq1 : Sm ((a.tdiv b).natAbs + (1 : Int).natAbs) := by
        refine hs1.mono ?_
        rw [Int.natAbs_tdiv]
        have := Nat.div_le_self a.natAbs b.natAbs
        simp; exact this
      have hsr : SmI (a.tmod b) := by
        unfold SmI at *
        refine hsa.mono ?_
        rw [Int.natAbs_tmod]
        exact Nat.mod_le _ _
      have hsr1 : Sm ((a.tmod b).natAbs + b.natAbs) := by
        refine hs2.mono ?_
        rw [Int.natAbs_tmod]
        have := Nat.mod_le a.natAbs b.natAbs
        omega
      have k2 : w.heap.size + 1 + 1 < wc.heap.size := by omega
      have HD := Lib.hid (hfl.move (Below.refl _ _).drew)
      clear hfl hq1
      go_wp2_with fail
      go_cut [] (fun wx => ∃ n4 A4 l4 c4, FlW w wx nb B lb cb b n4 A4 l4 c4 (a.tdiv b - 1) n2 A2 l2 c2 (a.tmod b))
      case first =>
        go_region_with (first
          | (go_at_call 39; go_must (refine (iof_any 1 _ (by unfold I64; omega)).mono ?_; rintro e w3 ⟨n3, A3, l3, c3, rfl, h3, hb3⟩; obtain ⟨hc3, hf3⟩ := bcell hb3; have hsz3 := hb3.size; simp only [World.size_drew] at hsz3; have hq2 := (HD.out.move hb3).hq.at_; have r20 : w3.cell? ⟨w.heap.size + 1 + 1, 0, none⟩ = some (.bool n1) := (hc3 _ _ (by simpa using k2)).trans e20; have r21 : w3.cell? ⟨w.heap.size + 1 + 1, 1, none⟩ = some (.slice A1 l1 c1) := (hc3 _ _ (by simpa using k2)).trans e21))
          | (go_at_call 99; go_must (refine (isub_any _ _ _ _ _ _ _ _ _ _ _ hq2 h3.at_ hsq (SmI.of64 (by unfold I64; omega)) hsq1).mono ?_; rintro e w4 ⟨n4, A4, l4, c4, rfl, h4, hb4⟩; have HG := Lib.hid (HD.out.move (hb3.trans (hb4.mono hb3.size))); have H4 := Lib.hid h4; have s20 := HG.out.w20; have s21 := HG.out.w21; have t20 := HG.out.g20; have t21 := HG.out.g21)))
        all_goals go_wp2_with fail
        all_goals go_meet
        all_goals exact ⟨_, _, _, _, (HG.out.setq H4.out).move (by repeat (first | exact Below.refl _ _ | refine Below.drew ?_))⟩
      case rest =>
        clear HF HD e20 e21 f20 f21 esz k2 hsq hsq1
        obtain ⟨n4, A4, l4, c4, hfl⟩ := hcut
        have HF := Lib.hid hfl
        have e10 := hfl.w10
        have e11 := hfl.w11
        have e20 := hfl.w20
        have e21 := hfl.w21
        have e30 := hfl.w30
        have e31 := hfl.w31
        have hr1 := hfl.hr.at_
        have hbb := hfl.hb
        clear hfl
        go_wp2_with fail
        refine (iadd_any _ _ _ _ _ _ _ _ _ _ _ hr1 hbb hsr hsb hsr1).mono ?_
        rintro e w5 ⟨n5, A5, l5, c5, rfl, h5, hb5⟩
        have hg := (HF.out.move hb5)
        have H5 := Lib.hid h5
        have HG := Lib.hid hg
        have HH := Lib.hid (hg.setr h5)
        clear e10 e11 e20 e21 e30 e31 hr1 hbb h5 hb5 hsr hsr1 HF
        have e20 := hg.w20
        have e21 := hg.w21
        have e30 := hg.w30
        have e31 := hg.w31
        have f20 := hg.g20
        have f21 := hg.g21
        have f30 := hg.g30
        have f31 := hg.g31
        clear hg
        go_wp2_with fail
        go_region
        go_wp2
        have HZ := Lib.hid (((HH.out.setq HH.out.hq).setr (HH.out.setq HH.out.hq).hr).move (Below.refl _ _).drew)
        have z20 := HZ.out.w20
        have z21 := HZ.out.w21
        have z30 := HZ.out.w30
        have z31 := HZ.out.w31
        refine bodyPost_ret (v := .tuple #[.agg #[.bool n4, .slice A4 l4 c4], .agg #[.bool n5, .slice A5 l5 c5], .int .i64 0]) (by clear e20 e21 e30 e31 f20 f21 f30 f31 HZ; generalize World.drew _ = Z at z20 z21 z30 z31 ⊢; simp [results, Try.results97, go_sem, z20, z21, z30, z31]) rfl ⟨_, _, _, _, _, _, _, _, rfl, ?_, ?_, HZ.out.below⟩
        · rw [E1.out]; exact HZ.out.hq
        · rw [E2.out]; exact HZ.out.hr
    · have E1 := Lib.hid (show flq a b = a.tdiv b from if_neg hneg)
      have E2 := Lib.hid (show flr a b = a.tmod b from if_neg hneg)
      rw [show decide (sg (a.tmod b) * sg b < 0) = false from decide_eq_false hneg]
      have e20 := hfl.w20
      have e21 := hfl.w21
      have e30 := hfl.w30
      have e31 := hfl.w31
      have f20 := hfl.g20
      have f21 := hfl.g21
      have f30 := hfl.g30
      have f31 := hfl.g31
      clear hfl hneg
      go_wp2_with fail
      go_region
      go_wp2
      have HZ := Lib.hid (((HF.out.setq HF.out.hq).setr (HF.out.setq HF.out.hq).hr).move (Below.refl _ _).drew)
      refine bodyPost_ret (v := .tuple #[.agg #[.bool n1, .slice A1 l1 c1], .agg #[.bool n2, .slice A2 l2 c2], .int .i64 0]) (by simp [results, Try.results97, go_sem, e20, e21, e30, e31]) rfl ⟨_, _, _, _, _, _, _, _, rfl, ?_, ?_, HZ.out.below⟩
      · rw [E1.out]; exact HZ.out.hq
      · rw [E2.out]; exact HZ.out.hr
end Go.Proofs.Ytfpliceenjbclaa
