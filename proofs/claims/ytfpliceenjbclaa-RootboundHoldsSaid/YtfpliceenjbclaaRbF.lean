/- The walks of the law's helpers: awake. -/
import Derived.Test.YtfpliceenjbclaaRbE
namespace Go.Proofs.Ytfpliceenjbclaa
open Go.RowKit

theorem sm_small {n : Nat} (h : n ≤ 9223372036854775807) : Sm n := by
  have := SmI.of64 (z := (n : Int)) (by unfold I64; omega)
  unfold SmI at this
  rwa [Int.natAbs_natCast] at this
theorem dlen_low {n : Nat} (h0 : n ≠ 0) (h : n < BB) : dlen n = 1 := by
  rw [dlen_pos h0, Nat.div_eq_of_lt h, dlen_zero]

theorem cauok_small {p : List Int} (h1 : hst (ptrim p) (plen p - 1) ≤ 1000000000) (h2 : (plead (ptrim p)).natAbs ≤ 1000000000) (h0 : plead (ptrim p) ≠ 0) : CauOK p := by
  have hf : (flq (-(hst (ptrim p) (plen p - 1) : Nat)) ((plead (ptrim p)).natAbs : Nat)).natAbs ≤ 1000000001 := by
    have := Int.natAbs_tdiv (-((hst (ptrim p) (plen p - 1) : Nat) : Int)) ((plead (ptrim p)).natAbs : Nat)
    rw [Int.natAbs_neg, Int.natAbs_natCast, Int.natAbs_natCast] at this
    have h3 := Nat.div_le_self (hst (ptrim p) (plen p - 1)) (plead (ptrim p)).natAbs
    have h3 : _ ≤ _ := Nat.le_trans (Nat.le_of_eq this) h3
    unfold flq
    generalize (-((hst (ptrim p) (plen p - 1) : Nat) : Int)).tdiv ((plead (ptrim p)).natAbs : Nat) = d at h3 ⊢
    split <;> omega
  exact ⟨.inr (dlen_low (by omega) (by rw [BB_eq]; omega)), sm_small (by omega), sm_small (by omega), sm_small (by omega)⟩

/-- the polynomial of awake -/
def aw : List Int := [2, -5, 2]

theorem aw_at (w : World) : I64At (w.alloc (.cells #[.int .i64 2, .int .i64 (-5), .int .i64 2] 2)) (some ⟨w.heap.size, 0, none⟩) 3 3 aw := by
  refine ⟨rfl, by omega, .inr ⟨w.heap.size, 0, rfl, by simp, fun j hj => ?_⟩⟩
  match j, hj with
  | 0, _ => simp [aw]
  | 1, _ => simp [aw]
  | 2, _ => simp [aw]

set_option maxHeartbeats 1000000 in
theorem awake_any (w : World) :
    Calls Try.prog 17 #[] w fun e w' => e = .returned (.bool true) ∧ Below w.heap.size w w' := by
  have h0 := Lib.hid (aw_at w)
  have hb0 : Hid (Below w.heap.size w (w.alloc (.cells #[.int .i64 2, .int .i64 (-5), .int .i64 2] 2))) := (Below.refl _ _).alloc (Nat.le_refl _) _
  go_enter Try.func17, Try.ntmps17
  go_wp2_with fail
  refine (pof_any _ _ _ _ _ h0.out (by intro c hc; unfold aw at hc; unfold I64; simp at hc; omega) (by omega)).mono ?_
  rintro e w1 ⟨A1, l1, c1, rfl, h1, hb1⟩
  have e1 : ptrim aw = aw := rfl
  have hl : l1 = 3 := by have := h1.length; rw [e1] at this; exact this.symm
  rw [e1] at h1
  have hsa : SmP aw := fun c hc => SmI.of64 (by unfold aw at hc; unfold I64; simp at hc; omega)
  have Hb1 := Lib.hid (hb0.out.trans (hb1.mono hb0.out.size))
  have Hl := Lib.hid hl
  clear h0 hb1 hl e1
  go_wp2_with fail
  refine (cauchy_any ikN _ _ _ _ _ h1 hsa (by have := Hl.out; omega) (fun _ => cauok_small (by decide) (by decide) (by decide))).mono ?_
  rintro e w2 ⟨n2, A2, l2, c2, rfl, h2, hb2⟩
  have e2 : cau aw = 4 := by decide
  rw [e2] at h2
  have HB := Lib.hid (IBox.make h2)
  have Hb2 := Lib.hid ((Hb1.out.trans (hb2.mono Hb1.out.size)).alloc (Hb1.out.trans (hb2.mono Hb1.out.size)).size (ibox n2 A2 l2 c2))
  clear e2 h1 hsa h2 hb2 Hb1
  have c0 := HB.out.c0
  have c1 := HB.out.c1
  have hs4 : SmI 4 := SmI.of64 (by unfold I64; omega)
  have hs3 : SmI 3 := SmI.of64 (by unfold I64; omega)
  go_wp2_with fail
  go_region_held3 (fun w' => w'.cell? ⟨w2.heap.size, 0, none⟩ = some (.bool n2) ∧ w'.cell? ⟨w2.heap.size, 1, none⟩ = some (.slice A2 l2 c2)) (go_keep) (first
        | (go_at_call 39; go_must (refine (iof_any 3 _ (by unfold I64; omega)).mono ?_; rintro e w7 ⟨n8, A8, l8, c8, rfl, h8, hb8⟩; have HB8 := Lib.hid (HB.out.move (Below.trans (by (repeat (first | exact Below.refl _ _ | refine Below.drew ?_ | refine Below.alloc ?_ (by first | (simp; done) | (simp; omega) | omega) _ | refine Below.setCell ?_ (by first | (simp; done) | (simp; omega) | omega) _))) (hb8.mono (by simp <;> omega)))); have Hb8 := Lib.hid (Hb2.out.trans ((Below.trans (by (repeat (first | exact Below.refl _ _ | refine Below.drew ?_ | refine Below.alloc ?_ (by first | (simp; done) | (simp; omega) | omega) _ | refine Below.setCell ?_ (by first | (simp; done) | (simp; omega) | omega) _))) (hb8.mono (by simp <;> omega))).mono Hb2.out.size)); have q0 := HB8.out.c0; have q1 := HB8.out.c1))
        | (go_at_call 78; go_must (refine (icmp_any _ _ _ _ _ _ _ _ _ _ _ ?_ ?_ hs4 hs3).mono ?_; (exact HB8.out.hz.at_.below (by (repeat (first | exact Below.refl _ _ | refine Below.drew ?_ | refine Below.alloc ?_ (by first | (simp; done) | (simp; omega) | omega) _ | refine Below.setCell ?_ (by first | (simp; done) | (simp; omega) | omega) _)))); (exact h8.at_.below (by (repeat (first | exact Below.refl _ _ | refine Below.drew ?_ | refine Below.alloc ?_ (by first | (simp; done) | (simp; omega) | omega) _ | refine Below.setCell ?_ (by first | (simp; done) | (simp; omega) | omega) _)))); rintro e w9 ⟨rfl, hb9⟩; rw [show cmpz 4 3 = 1 from rfl]; have HB9 := Lib.hid (HB8.out.move (Below.trans (by (repeat (first | exact Below.refl _ _ | refine Below.drew ?_ | refine Below.alloc ?_ (by first | (simp; done) | (simp; omega) | omega) _ | refine Below.setCell ?_ (by first | (simp; done) | (simp; omega) | omega) _))) (hb9.mono (by simp <;> omega)))); have Hb9 := Lib.hid (Hb8.out.trans ((Below.trans (by (repeat (first | exact Below.refl _ _ | refine Below.drew ?_ | refine Below.alloc ?_ (by first | (simp; done) | (simp; omega) | omega) _ | refine Below.setCell ?_ (by first | (simp; done) | (simp; omega) | omega) _))) (hb9.mono (by simp <;> omega))).mono Hb8.out.size)); have p0 := HB9.out.c0; have p1 := HB9.out.c1))
        | (go_at_call 26; go_must (refine (is_any _ _ _ _ _ 4 _ ?_ hs4 (by unfold I64; omega)).mono ?_; (exact HB9.out.hz.at_.below (by (repeat (first | exact Below.refl _ _ | refine Below.drew ?_ | refine Below.alloc ?_ (by first | (simp; done) | (simp; omega) | omega) _ | refine Below.setCell ?_ (by first | (simp; done) | (simp; omega) | omega) _)))); rintro e w10 ⟨rfl, hb10⟩; rw [show decide ((4 : Int) = 4) = true from rfl]; have HB10 := Lib.hid (HB9.out.move (Below.trans (by (repeat (first | exact Below.refl _ _ | refine Below.drew ?_ | refine Below.alloc ?_ (by first | (simp; done) | (simp; omega) | omega) _ | refine Below.setCell ?_ (by first | (simp; done) | (simp; omega) | omega) _))) (hb10.mono (by simp <;> omega)))); have Hb10 := Lib.hid (Hb9.out.trans ((Below.trans (by (repeat (first | exact Below.refl _ _ | refine Below.drew ?_ | refine Below.alloc ?_ (by first | (simp; done) | (simp; omega) | omega) _ | refine Below.setCell ?_ (by first | (simp; done) | (simp; omega) | omega) _))) (hb10.mono (by simp <;> omega))).mono Hb9.out.size)); have r0 := HB10.out.c0; have r1 := HB10.out.c1)))
  go_wp2
  go_ret
  exact ⟨rfl, Hb10.out⟩
end Go.Proofs.Ytfpliceenjbclaa
