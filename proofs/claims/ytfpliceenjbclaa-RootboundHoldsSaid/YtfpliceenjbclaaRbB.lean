/- The walks of rootbound: Norm. -/
import Derived.Test.YtfpliceenjbclaaRbA
namespace Go.Proofs.Ytfpliceenjbclaa
open Go.RowKit

/-- what Norm's sums need -/
structure NormOK (p : List Int) (k : Nat) : Prop where
  mul : MulOK (p.getD k 0).natAbs (p.getD k 0).natAbs
  sum : SmI (nst p k)
  sq : SmI (p.getD k 0 * p.getD k 0)
  add : Sm ((nst p k).natAbs + (p.getD k 0 * p.getD k 0).natAbs)

set_option maxHeartbeats 2000000 in
theorem rnorm_any {I : IntPred} (hI : IK I) (A : Option Addr) (len cap : Nat) (p : List Int) (w : World) (h : PolyP I w A len cap p) (hs : SmP p) (hm : len ≤ 1099511627776) (hn : ∀ k, k < len → NormOK p k) :
    Calls Try.prog 27 #[.slice A len cap] w fun e w' => ∃ n1 A1 l1 c1, e = .returned (.agg #[.bool n1, .slice A1 l1 c1]) ∧ IntN w' n1 A1 l1 c1 (nst p len) ∧ Below w.heap.size w w' := by
  have H0 := Lib.hid (HtW.start w)
  go_enter Try.func27, Try.ntmps27
  go_wp2
  go_loopw [9] (fun i wr => ∃ (k : Nat) (n1 : Bool) (A1 : Option Addr) (l1 c1 : Nat), k ≤ len ∧ i = .int .i64 (k : Int) ∧ HtW w wr n1 A1 l1 c1 (nst p k)) (fun i _ => len - (intOf i).toNat)
  case atStart => exact ⟨0, _, _, _, _, Nat.zero_le _, rfl, H0.out⟩
  case round =>
    clear H0
    obtain ⟨k, n1, A1, l1, c1, hk, rfl, hw⟩ := hrel
    have HW := Lib.hid hw
    have esz := hw.size
    have k0 : w.heap.size < wr.heap.size := by omega
    have k1 : w.heap.size + 1 < wr.heap.size := by omega
    by_cases hlt : k < len
    · obtain ⟨b, off, rfl, hb, hc⟩ := h.get (by omega)
      obtain ⟨neg, Aj, lj, cj, d0, d1, hz⟩ := hc k hlt
      have e0 := (hw.below.cell (p := ⟨b, off + k * 2, none⟩) hb).trans d0
      have e1 := (hw.below.cell (p := ⟨b, off + k * 2 + 1, none⟩) hb).trans d1
      have hbx : Below wr.heap.size wr (wr.alloc (ibox neg Aj lj cj)).drew := ((Below.refl _ _).alloc (Nat.le_refl _) _).drew
      have Hz := Lib.hid (((hI.at_ hz).below hw.below).below hbx)
      have HX := Lib.hid (hw.move hbx)
      have hsk := hs.getD k
      have hok := hn k hlt
      have c10 := hw.c10
      have c11 := hw.c11
      have Hn : Hid (nst p (k + 1) = nst p k + p.getD k 0 * p.getD k 0) := rfl
      clear hc h d0 d1 hz hbx hn
      go_wp2_with fail
      clear e0 e1 hw
      go_region_with (first
          | (go_at_call 54; go_must (refine (imul_any _ _ _ _ _ _ _ _ _ _ _ Hz.out Hz.out hsk hsk hok.mul).mono ?_; rintro e w3 ⟨n3, A3, l3, c3, rfl, h3, hb3⟩; have HM := Lib.hid (HX.out.move hb3); have r10 := HM.out.c10; have r11 := HM.out.c11))
          | (go_at_call 88; go_must (refine (iadd_any _ _ _ _ _ _ _ _ _ _ _ HM.out.hq.at_ h3.at_ hok.sum hok.sq hok.add).mono ?_; rintro e w4 ⟨n4, A4, l4, c4, rfl, h4, hb4⟩; have HG := Lib.hid (HM.out.move hb4); have H4 := Lib.hid h4; have s10 := HG.out.c10; have s11 := HG.out.c11; have t10 := HG.out.f10; have t11 := HG.out.f11)))
      all_goals
          have HF := Lib.hid (HG.out.setq H4.out)
          clear HX HW HM H4 c10 c11 r10 r11 h3 h4 hb3 hb4
          go_wp2
          go_roundw
          case rel => exact ⟨k + 1, _, _, _, _, by omega, by go_num, by rw [Hn.out]; exact HF.out.move (by repeat (first | exact Below.refl _ _ | refine Below.drew ?_))⟩
          case measure => simp [intOf]; omega
    · have hk2 : len = k := by omega
      subst hk2
      have c00 := hw.c00
      have c01 := hw.c01
      have c10 := hw.c10
      have c11 := hw.c11
      have f00 := hw.f00
      have f01 := hw.f01
      have HI2 := Lib.hid (hw.hq.ret (.bool n1) (.slice A1 l1 c1) c00 c01)
      have Hb := Lib.hid hw.below
      clear h hw HW
      go_wp2
      refine bodyPost_ret (v := .agg #[.bool n1, .slice A1 l1 c1]) (by simp [results, Try.results27, go_sem, c00, c01]) rfl ⟨_, _, _, _, rfl, HI2.out, (Hb.out.setCell (p := ⟨w.heap.size, 0, none⟩) (Nat.le_refl _) _).setCell (p := ⟨w.heap.size, 1, none⟩) (Nat.le_refl _) _⟩
end Go.Proofs.Ytfpliceenjbclaa
