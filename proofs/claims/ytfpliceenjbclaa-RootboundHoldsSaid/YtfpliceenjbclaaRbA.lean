/- The walks of rootbound: Norm; unipoly.Height. -/
import Derived.Test.YtfpliceenjbclaaRefA
import Derived.Test.YtfpliceenjbclaaDivC
namespace Go.Proofs.Ytfpliceenjbclaa
open Go.RowKit

/-- the greatest absolute value of the first k coefficients -/
def hst (p : List Int) : Nat → Nat
  | 0 => 0
  | k + 1 => if hst p k < (p.getD k 0).natAbs then (p.getD k 0).natAbs else hst p k

theorem hst_sm {p : List Int} (h : SmP p) (k : Nat) : Sm (hst p k) := by
  induction k with
  | zero => exact SmI.zero
  | succ k ih =>
    simp only [hst]
    split
    · exact h.getD k
    · exact ih

/-- Height's two cells: the result and the height so far. -/
structure HtW (w W : World) (n1 : Bool) (A1 : Option Addr) (l1 c1 : Nat) (q : Int) : Prop where
  c00 : W.cell? ⟨w.heap.size, 0, none⟩ = some (.bool false)
  c01 : W.cell? ⟨w.heap.size, 1, none⟩ = some (.slice none 0 0)
  c10 : W.cell? ⟨w.heap.size + 1, 0, none⟩ = some (.bool n1)
  c11 : W.cell? ⟨w.heap.size + 1, 1, none⟩ = some (.slice A1 l1 c1)
  f00 : W.frozen? ⟨w.heap.size, 0, none⟩ = false
  f01 : W.frozen? ⟨w.heap.size, 1, none⟩ = false
  f10 : W.frozen? ⟨w.heap.size + 1, 0, none⟩ = false
  f11 : W.frozen? ⟨w.heap.size + 1, 1, none⟩ = false
  size : w.heap.size + 2 ≤ W.heap.size
  hq : IntN W n1 A1 l1 c1 q
  below : Below w.heap.size w W

section
variable {w W W' : World} {n1 : Bool} {A1 : Option Addr} {l1 c1 : Nat} {q : Int}
theorem HtW.move (h : HtW w W n1 A1 l1 c1 q) (hb : Below W.heap.size W W') : HtW w W' n1 A1 l1 c1 q := by
  obtain ⟨hc, hf⟩ := bcell hb
  have hs := h.size
  exact ⟨(hc _ _ (by omega)).trans h.c00, (hc _ _ (by omega)).trans h.c01, (hc _ _ (by omega)).trans h.c10, (hc _ _ (by omega)).trans h.c11,
    (hf _ _ (by omega)).trans h.f00, (hf _ _ (by omega)).trans h.f01, (hf _ _ (by omega)).trans h.f10, (hf _ _ (by omega)).trans h.f11, Nat.le_trans hs hb.size, h.hq.below hb, h.below.trans (hb.mono h.below.size)⟩
theorem HtW.setq (h : HtW w W n1 A1 l1 c1 q) {n3 : Bool} {A3 : Option Addr} {l3 c3 : Nat} {q' : Int} (h3 : IntN W n3 A3 l3 c3 q') :
    HtW w ((W.setCell ⟨w.heap.size + 1, 0, none⟩ (.bool n3)).setCell ⟨w.heap.size + 1, 1, none⟩ (.slice A3 l3 c3)) n3 A3 l3 c3 q' := by
  have k := h.c00
  have k1 := h.c01
  have k2 := h.c10
  have k3 := h.c11
  have f0 := h.f00
  have f1 := h.f01
  have f2 := h.f10
  have f3 := h.f11
  exact ⟨by go_simp, by go_simp, by go_simp, by go_simp, by go_simp, by go_simp, by go_simp, by go_simp, by simpa using h.size, h3.ret _ _ k2 k3, ((h.below.setCell (p := ⟨w.heap.size + 1, 0, none⟩) (by simp <;> omega) _).setCell (p := ⟨w.heap.size + 1, 1, none⟩) (by simp <;> omega) _)⟩
end

theorem HtW.start (w : World) : HtW w ((w.alloc (ibox false none 0 0)).alloc (ibox false none 0 0)) false none 0 0 0 := by
  exact ⟨by go_simp, by go_simp, by go_simp, by go_simp, by go_simp, by go_simp, by go_simp, by go_simp, by simp, ⟨NatN.zero _ _ _, by simp⟩, below_two w _ _ (Nat.le_refl _)⟩

set_option maxHeartbeats 2000000 in
theorem height_any {I : IntPred} (hI : IK I) (A : Option Addr) (len cap : Nat) (p : List Int) (w : World) (h : PolyP I w A len cap p) (hs : SmP p) (hm : len ≤ 1099511627776) :
    Calls Try.prog 95 #[.slice A len cap] w fun e w' => ∃ n1 A1 l1 c1, e = .returned (.agg #[.bool n1, .slice A1 l1 c1]) ∧ IntN w' n1 A1 l1 c1 (hst p len : Nat) ∧ Below w.heap.size w w' := by
  have H0 := Lib.hid (HtW.start w)
  go_enter Try.func95, Try.ntmps95
  go_wp2
  go_loopw [9] (fun i wr => ∃ (k : Nat) (n1 : Bool) (A1 : Option Addr) (l1 c1 : Nat), k ≤ len ∧ i = .int .i64 (k : Int) ∧ HtW w wr n1 A1 l1 c1 (hst p k : Nat)) (fun i _ => len - (intOf i).toNat)
  case atStart => exact ⟨0, _, _, _, _, Nat.zero_le _, rfl, H0.out⟩
  case round =>
    clear H0
    obtain ⟨k, n1, A1, l1, c1, hk, rfl, hw⟩ := hrel
    have HW := Lib.hid hw
    have c00 := hw.c00
    have c01 := hw.c01
    have c10 := hw.c10
    have c11 := hw.c11
    have f00 := hw.f00
    have f01 := hw.f01
    have f10 := hw.f10
    have f11 := hw.f11
    have esz := hw.size
    have k0 : w.heap.size < wr.heap.size := by omega
    have k1 : w.heap.size + 1 < wr.heap.size := by omega
    by_cases hlt : k < len
    · obtain ⟨b, off, rfl, hb, hc⟩ := h.get (by omega)
      obtain ⟨neg, Aj, lj, cj, d0, d1, hz⟩ := hc k hlt
      have e0 := (hw.below.cell (p := ⟨b, off + k * 2, none⟩) hb).trans d0
      have e1 := (hw.below.cell (p := ⟨b, off + k * 2 + 1, none⟩) hb).trans d1
      have hbx : Below wr.heap.size wr (wr.alloc (ibox neg Aj lj cj)) := (Below.refl _ _).alloc (Nat.le_refl _) _
      have hz2 := ((hI.at_ hz).below hw.below).below hbx
      have hq2 := (hw.hq.below hbx).nat.at_
      rw [Int.natAbs_natCast] at hq2
      have HX := Lib.hid (hw.move hbx)
      have hsk := hs.getD k
      have hsh := hst_sm hs k
      clear hc h d0 d1 hz hw hbx
      go_wp2_with fail
      refine (cmp_any _ _ _ _ _ _ _ _ _ hz2.nat hq2 hsk hsh).mono ?_
      rintro e w2 ⟨rfl, nq, rfl⟩
      have hbq : Below (wr.alloc (ibox neg Aj lj cj)).heap.size (wr.alloc (ibox neg Aj lj cj)) ((wr.alloc (ibox neg Aj lj cj)).drewN nq) := ⟨rfl, rfl, rfl, Nat.le_refl _, fun _ _ => rfl⟩
      have hz3 := hz2.below hbq
      have HY := Lib.hid (HX.out.move hbq)
      clear hz2 hq2 hbq
      obtain ⟨v, hv⟩ : ∃ v, v = cmpn (p.getD k 0).natAbs (hst p k) := ⟨_, rfl⟩
      rw [← hv]
      by_cases hgt : hst p k < (p.getD k 0).natAbs
      · have hcm : 0 < v := by rw [hv, cmpn_gt hgt]; omega
        clear hv
        have Hn := Lib.hid (show hst p (k + 1) = (p.getD k 0).natAbs from if_pos hgt)
        clear hgt
        go_wp2_with fail
        refine (iabs_any _ _ _ _ _ _ hz3 hsk).mono ?_
        rintro e w3 ⟨n3, A3, l3, c3, rfl, h3, hb3⟩
        have hg := HY.out.move hb3
        have HZ := Lib.hid (hg.setq h3)
        clear c00 c01 c10 c11 f00 f01 f10 f11 e0 e1 hz3 hsk hsh hcm h3 hb3
        have c10 := hg.c10
        have c11 := hg.c11
        have f10 := hg.f10
        have f11 := hg.f11
        clear hg
        go_wp2
        go_roundw
        case rel => exact ⟨k + 1, _, _, _, _, by omega, by go_num, by rw [Hn.out]; exact HZ.out⟩
        case measure => simp [intOf]; omega
      · have hcm : ¬ 0 < v := by
          rw [hv]
          unfold cmpn
          rcases Nat.lt_or_ge (p.getD k 0).natAbs (hst p k) with h1 | h1
          · rw [if_pos h1]; omega
          · rw [if_neg (by omega), if_pos (by omega)]; omega
        clear hv
        have Hn := Lib.hid (show hst p (k + 1) = hst p k from if_neg hgt)
        clear hgt
        go_wp2
        go_roundw
        case rel => exact ⟨k + 1, _, _, _, _, by omega, by go_num, by rw [Hn.out]; exact HY.out⟩
        case measure => simp [intOf]; omega
    · have hk2 : len = k := by omega
      subst hk2
      have HI2 := Lib.hid (hw.hq.ret (.bool n1) (.slice A1 l1 c1) c00 c01)
      have Hb := Lib.hid hw.below
      clear h hw HW
      go_wp2
      refine bodyPost_ret (v := .agg #[.bool n1, .slice A1 l1 c1]) (by simp [results, Try.results95, go_sem, c00, c01]) rfl ⟨_, _, _, _, rfl, HI2.out, (Hb.out.setCell (p := ⟨w.heap.size, 0, none⟩) (Nat.le_refl _) _).setCell (p := ⟨w.heap.size, 1, none⟩) (Nat.le_refl _) _⟩
end Go.Proofs.Ytfpliceenjbclaa
