/- The law RootboundHolds: the walk. -/
import Derived.Test.YtfpliceenjbclaaHolE
namespace Go.Proofs.Ytfpliceenjbclaa
open Go.RowKit

/-- the boxed pair of int8 -/
structure QBox (W : World) (g : Nat) (p d : Int) : Prop where
  c0 : W.cell? ⟨g, 0, none⟩ = some (.int .i8 p)
  c1 : W.cell? ⟨g, 1, none⟩ = some (.int .i8 d)
  lt : g < W.heap.size
theorem QBox.move {W W' : World} {g : Nat} {p d : Int} (h : QBox W g p d) (hb : Below W.heap.size W W') : QBox W' g p d := by
  obtain ⟨hc, -⟩ := bcell hb
  exact ⟨(hc _ _ h.lt).trans h.c0, (hc _ _ h.lt).trans h.c1, Nat.lt_of_lt_of_le h.lt hb.size⟩
theorem QBox.make (W : World) (p d : Int) : QBox (W.alloc (.cells #[.int .i8 p, .int .i8 d] 77)) W.heap.size p d :=
  ⟨by go_simp, by go_simp, by simp⟩

set_option maxRecDepth 100000 in
set_option maxHeartbeats 4000000 in
theorem law_holds (q0 q1 : Int) (A : Option Addr) (len cap : Nat) (p : List Int) (w : World) (hq0 : I8 q0) (hq1 : I8 q1) (h : I16At w A len cap p) (hlm : len ≤ 9223372036854775807) :
    Calls Try.prog 9 #[.agg #[.int .i8 q0, .int .i8 q1], .slice A len cap] w fun e w' => e = .returned (.bool true) ∧ Below w.heap.size w w' := by
  have hb0 : Below w.heap.size w (w.alloc (.cells #[.int .i8 q0, .int .i8 q1] 77)) := (Below.refl _ _).alloc (Nat.le_refl _) _
  have h0 := h.below hb0
  have HQ := Lib.hid (QBox.make w q0 q1)
  have Hb0 := Lib.hid hb0
  clear h hb0
  go_enter Try.func9, Try.ntmps9
  go_wp2_with fail
  refine (awake_any _).mono ?_
  rintro e w1 ⟨rfl, hb1⟩
  have h1 := h0.below hb1
  have HQ1 := Lib.hid (HQ.out.move hb1)
  have Hb1 := Lib.hid (Hb0.out.trans (hb1.mono Hb0.out.size))
  clear h0 hb1 HQ Hb0
  go_wp2_with fail
  refine (wide_any _ _ _ 8 40000 _ _ h1 (by omega) (by omega) (by omega) hlm).mono ?_
  rintro e w2 ⟨A2, c2, rfl, h2, hb2⟩
  have ht : Tiny 40000 (wl p 8 40000) := wl_tiny p 8 40000
  have hll : (wl p 8 40000).length ≤ 8 := by rw [wl_length]; omega
  have HQ2 := Lib.hid (HQ1.out.move hb2)
  have Hb2 := Lib.hid (Hb1.out.trans (hb2.mono Hb1.out.size))
  clear h1 hb2 Hb1 HQ1
  generalize wl p 8 40000 = g at *
  obtain ⟨l2, hl2⟩ : ∃ l, l = g.length := ⟨_, rfl⟩
  have hll2 := Lib.hid hll
  rw [← hl2] at h2 hll ⊢
  clear hl2
  have hi64 := ht.i64 (by omega)
  go_wp2_with fail
  refine (poly_any _ _ _ _ _ h2 hi64 (by omega)).mono ?_
  rintro e w3 ⟨A3, l3, c3, rfl, h3, hb3⟩
  have HQ3 := Lib.hid (HQ2.out.move hb3)
  have Hb3 := Lib.hid (Hb2.out.trans (hb3.mono Hb2.out.size))
  have Hl3 := Lib.hid (show l3 ≤ 8 by have := h3.length; rw [ptrim_length] at this; have := plen_le g; have := hll2.out; omega)
  clear h2 hb3 HQ2 Hb2 hi64
  have k0 := HQ3.out.c0
  have k1 := HQ3.out.c1
  go_wp2_with fail
  refine (line_any q0 q1 _ hq0 hq1).mono ?_
  rintro e w4 ⟨A4, l4, c4, rfl, h4, hb4⟩
  have HQ4 := Lib.hid (HQ3.out.move hb4)
  have Hb4 := Lib.hid (Hb3.out.trans (hb4.mono Hb3.out.size))
  have h34 := h3.below ikN hb4
  clear h3 hb4 HQ3 Hb3 k0 k1
  have ff : FitP (ptrim (lin q0 q1)) := by
    have h1 : Tiny 128 (lin q0 q1) := tiny_of fun x hx => by
      unfold I8 at hq0 hq1
      unfold lin ld at hx
      rcases List.mem_cons.1 hx with rfl | hx
      · omega
      · rw [List.mem_singleton.1 hx]; split <;> omega
    exact fun k => Nat.lt_of_le_of_lt (h1.trim k) (by rw [BB_eq]; decide)
  have fg : FitP (ptrim g) := fun k => Nat.lt_of_le_of_lt (ht.trim k) (by rw [BB_eq]; decide)
  have hl4 : l4 ≤ 2 := by have h1 := h4.length; rw [ptrim_length] at h1; have h2 := plen_le (lin q0 q1); have h3 : (lin q0 q1).length = 2 := rfl; omega
  go_wp2_with fail
  refine (polymul_any ikN ikN _ _ _ _ _ _ _ _ _ h4 h34 ff fg (by omega) (by have := Hl3.out; omega)).mono ?_
  rintro e w5 ⟨A5, l5, c5, rfl, h5, hb5⟩
  rw [ptrim_ptrim, ptrim_ptrim] at h5
  have HQ5 := Lib.hid (HQ4.out.move hb5)
  have Hb5 := Lib.hid (Hb4.out.trans (hb5.mono Hb4.out.size))
  clear h4 h34 hb5 HQ4 Hb4 ff fg hl4
  by_cases hg : plen g = 0
  · rw [hol_zero hg] at h5
    clear hll2 ht hg HQ5
    go_wp2_with fail
    refine (degree_any _ _ _ _ _ (h5.at_ ikN) (fun c hc => by cases hc) (by have := h5.length; simp at this; omega)).mono ?_
    rintro e w6 ⟨rfl, hb6⟩
    have Hb6 := Lib.hid (Hb5.out.trans (hb6.mono Hb5.out.size))
    rw [show ((plen [] : Nat) - 1 : Int) = -1 from rfl]
    clear h5 hb6 Hb5
    go_wp2
    go_ret
    exact ⟨rfl, Hb6.out⟩
  · have HF := Lib.hid (hol_f hq0 hq1 ht (by have := hll2.out; omega) (by omega))
    generalize polymul (ptrim (lin q0 q1)) (ptrim g) = f at *
    clear hll2 ht hg
    have hsf : SmP f := HF.out.tiny.smp (by omega)
    have hl5 : l5 ≤ 9 := by have := h5.length; have := HF.out.le; omega
    have hpf : ¬ ((plen f : Nat) - 1 : Int) < 0 := by have := HF.out.two; omega
    go_wp2_with fail
    refine (degree_any _ _ _ _ _ (h5.at_ ikN) hsf (by omega)).mono ?_
    rintro e w6 ⟨rfl, hb6⟩
    have H5 := Lib.hid (h5.below ikN hb6)
    have HQ6 := Lib.hid (HQ5.out.move hb6)
    have Hb6 := Lib.hid (Hb5.out.trans (hb6.mono Hb5.out.size))
    clear h5 hb6 HQ5 Hb5
    have k0 := HQ6.out.c0
    have k1 := HQ6.out.c1
    go_wp2_with fail
    refine (root_any q0 q1 _ hq0 hq1).mono ?_
    rintro e w7 ⟨⟨n7, A7, l7, c7, B7, m7, d7, rfl, h7, h8⟩, hb7⟩
    obtain ⟨-, hrd, hrd2, hrn⟩ := rt_ratio q0 q1
    have hld : (ld q1).natAbs ≤ 128 := by unfold I8 at hq1; unfold ld; split <;> omega
    have hp8 : q0.natAbs ≤ 128 := by unfold I8 at hq0; omega
    have hbx : Below w7.heap.size w7 (w7.alloc (rbox n7 A7 l7 c7 B7 m7 d7)) := (Below.refl _ _).alloc (Nat.le_refl _) _
    have HX7 := Lib.hid (RBox.make h7 h8)
    have H57 := Lib.hid ((H5.out.below ikN hb7).below ikN hbx)
    have Hb7 := Lib.hid (Hb6.out.trans ((hb7.trans (hbx.mono hb7.size)).mono Hb6.out.size))
    have hun : U64 (rtn q0 q1).natAbs := by unfold U64; rw [BB_eq]; omega
    have hvn : rtd q0 q1 < BB := by rw [BB_eq]; omega
    clear h7 h8 hb7 hbx H5 HQ6 Hb6 k0 k1 hld hp8 hrd2 hrn
    have x0 := HX7.out.c0
    have x1 := HX7.out.c1
    have x2 := HX7.out.c2
    go_wp2_with fail
    refine (ratabs_any _ _ _ _ _ _ _ _ _ _ HX7.out.hz HX7.out.hq hun hvn hrd).mono ?_
    rintro e w8 ⟨⟨n8, A8, l8, c8, B8, m8, d8, rfl, h8, h9⟩, hb8⟩
    have hbx : Below w8.heap.size w8 (w8.alloc (rbox n8 A8 l8 c8 B8 m8 d8)) := (Below.refl _ _).alloc (Nat.le_refl _) _
    have HX8 := Lib.hid ((HX7.out.move hb8).move hbx)
    have HA8 := Lib.hid (RBox.make h8 h9)
    have H58 := Lib.hid ((H57.out.below ikN hb8).below ikN hbx)
    have Hb8 := Lib.hid (Hb7.out.trans ((hb8.trans (hbx.mono hb8.size)).mono Hb7.out.size))
    have HX := HX8
    have HA := HA8
    have HP := H58
    have Hb := Hb8
    clear x0 x1 x2 h8 h9 hb8 hbx HX7 H57 Hb7 HX8 HA8 H58 Hb8
    have x0 := HX.out.c0
    have x1 := HX.out.c1
    have x2 := HX.out.c2
    have a0 := HA.out.c0
    have a1 := HA.out.c1
    have a2 := HA.out.c2
    obtain ⟨-, hrx, -, -, -⟩ := ra_ratio q0 q1
    obtain ⟨-, hax, -, har, haz⟩ := ra_ratio q0 q1
    obtain ⟨-, hxx, hxr, hxz⟩ := rt_ratio q0 q1
    have hld : (ld q1).natAbs ≤ 128 := by unfold I8 at hq1; unfold ld; split <;> omega
    have hp8 : q0.natAbs ≤ 128 := by unfold I8 at hq0; omega
    have fa : Fit (ran q0 q1) := fit_small (by omega)
    have fb : Fit (rad q0 q1 : Int) := fit_small (by omega)
    have fx : Fit (rtn q0 q1) := fit_small (by omega)
    have fy : Fit (rtd q0 q1 : Int) := fit_small (by omega)
    have f1 : Fit ((1 : Nat) : Int) := fit_small (by omega)
    have hcl := HF.out.cau_le
    have fc : Fit (rcau f : Int) := fit_small (by omega)
    have na : rad q0 q1 ≠ 0 := by omega
    have nx : rtd q0 q1 ≠ 0 := by omega
    have ht := HF.out.tiny
    have hl9 := HF.out.le
    have h2f := HF.out.two
    have hcok : 2 ≤ plen f → CauOK f := fun h => cauok_tiny ht (by omega) h
    have hdp : (0 : Int) < ((ld q1).natAbs : Int) := by have := ld_ne q1; omega
    have hr0 : hom (sg (ld q1) * q0) ((ld q1).natAbs : Int) (ptrim f) = 0 := by
      rw [ptrim_full HF.out.len]
      exact hom_sg (ld_ne q1) HF.out.root
    have C1 := Lib.hid HF.out.c1
    have S1 := Lib.hid fc.sm
    clear hld hp8 har haz hxr hxz hrx hax hxx
    have hl5' : l5 ≤ 1099511627776 := by omega
    have hl6 : l5 ≤ 1000000 := by omega
    go_wp2_with fail
    go_region_held3 (fun w' => w'.cell? ⟨w7.heap.size, 0, none⟩ = some (.bool n7) ∧ w'.cell? ⟨w7.heap.size, 1, none⟩ = some (.slice A7 l7 c7) ∧ w'.cell? ⟨w7.heap.size, 2, none⟩ = some (.slice B7 m7 d7) ∧ w'.cell? ⟨w8.heap.size, 0, none⟩ = some (.bool n8) ∧ w'.cell? ⟨w8.heap.size, 1, none⟩ = some (.slice A8 l8 c8) ∧ w'.cell? ⟨w8.heap.size, 2, none⟩ = some (.slice B8 m8 d8)) (go_keep) (first
      | (go_at_call 32; go_must (refine (cauchy_any ikN _ _ _ _ _ ?_ hsf hl5' hcok).mono ?_; (exact HP.out.below ikN (by (repeat (first | exact Below.refl _ _ | refine Below.drew ?_ | refine Below.alloc ?_ (by first | (simp; done) | (simp; omega) | omega) _ | refine Below.setCell ?_ (by first | (simp; done) | (simp; omega) | omega) _)))); rintro e w9 ⟨n9, A9, l9, c9, rfl, h9, hb9⟩; rw [cau_rcau] at h9; replace HX := Lib.hid (HX.out.move (Below.trans (by (repeat (first | exact Below.refl _ _ | refine Below.drew ?_ | refine Below.alloc ?_ (by first | (simp; done) | (simp; omega) | omega) _ | refine Below.setCell ?_ (by first | (simp; done) | (simp; omega) | omega) _))) (hb9.mono (by simp <;> omega)))); replace HA := Lib.hid (HA.out.move (Below.trans (by (repeat (first | exact Below.refl _ _ | refine Below.drew ?_ | refine Below.alloc ?_ (by first | (simp; done) | (simp; omega) | omega) _ | refine Below.setCell ?_ (by first | (simp; done) | (simp; omega) | omega) _))) (hb9.mono (by simp <;> omega)))); replace HP := Lib.hid (HP.out.below ikN (Below.trans (by (repeat (first | exact Below.refl _ _ | refine Below.drew ?_ | refine Below.alloc ?_ (by first | (simp; done) | (simp; omega) | omega) _ | refine Below.setCell ?_ (by first | (simp; done) | (simp; omega) | omega) _))) (hb9.mono (by simp <;> omega)))); replace Hb := Lib.hid (Hb.out.trans ((Below.trans (by (repeat (first | exact Below.refl _ _ | refine Below.drew ?_ | refine Below.alloc ?_ (by first | (simp; done) | (simp; omega) | omega) _ | refine Below.setCell ?_ (by first | (simp; done) | (simp; omega) | omega) _))) (hb9.mono (by simp <;> omega))).mono Hb.out.size)); replace x0 := HX.out.c0; replace x1 := HX.out.c1; replace x2 := HX.out.c2; replace a0 := HA.out.c0; replace a1 := HA.out.c1; replace a2 := HA.out.c2))
      | (go_at_call_of 59 (Value.slice A9 l9 c9); go_must (refine (rfrom_any _ _ _ _ _ _ ?_ S1.out).mono ?_; (exact h9.at_.below (by (repeat (first | exact Below.refl _ _ | refine Below.drew ?_ | refine Below.alloc ?_ (by first | (simp; done) | (simp; omega) | omega) _ | refine Below.setCell ?_ (by first | (simp; done) | (simp; omega) | omega) _)))); rintro e w10 ⟨⟨n10, A10, l10, c10, B10, m10, d10, rfl, h10, h11⟩, hb10⟩; replace HX := Lib.hid (HX.out.move (Below.trans (by (repeat (first | exact Below.refl _ _ | refine Below.drew ?_ | refine Below.alloc ?_ (by first | (simp; done) | (simp; omega) | omega) _ | refine Below.setCell ?_ (by first | (simp; done) | (simp; omega) | omega) _))) (hb10.mono (by simp <;> omega)))); replace HA := Lib.hid (HA.out.move (Below.trans (by (repeat (first | exact Below.refl _ _ | refine Below.drew ?_ | refine Below.alloc ?_ (by first | (simp; done) | (simp; omega) | omega) _ | refine Below.setCell ?_ (by first | (simp; done) | (simp; omega) | omega) _))) (hb10.mono (by simp <;> omega)))); replace HP := Lib.hid (HP.out.below ikN (Below.trans (by (repeat (first | exact Below.refl _ _ | refine Below.drew ?_ | refine Below.alloc ?_ (by first | (simp; done) | (simp; omega) | omega) _ | refine Below.setCell ?_ (by first | (simp; done) | (simp; omega) | omega) _))) (hb10.mono (by simp <;> omega)))); replace Hb := Lib.hid (Hb.out.trans ((Below.trans (by (repeat (first | exact Below.refl _ _ | refine Below.drew ?_ | refine Below.alloc ?_ (by first | (simp; done) | (simp; omega) | omega) _ | refine Below.setCell ?_ (by first | (simp; done) | (simp; omega) | omega) _))) (hb10.mono (by simp <;> omega))).mono Hb.out.size)); replace x0 := HX.out.c0; replace x1 := HX.out.c1; replace x2 := HX.out.c2; replace a0 := HA.out.c0; replace a1 := HA.out.c1; replace a2 := HA.out.c2))
      | (go_at_call_of 40 (Value.slice A10 l10 c10); go_must (refine (rcmp_any _ _ _ _ _ _ _ _ _ _ _ _ _ _ _ _ _ _ _ ?_ ?_ ?_ ?_ na (by omega) fa fb fc f1).mono ?_; (exact HA.out.hz.at_.below (by (repeat (first | exact Below.refl _ _ | refine Below.drew ?_ | refine Below.alloc ?_ (by first | (simp; done) | (simp; omega) | omega) _ | refine Below.setCell ?_ (by first | (simp; done) | (simp; omega) | omega) _)))); (exact HA.out.hq.at_.below (by (repeat (first | exact Below.refl _ _ | refine Below.drew ?_ | refine Below.alloc ?_ (by first | (simp; done) | (simp; omega) | omega) _ | refine Below.setCell ?_ (by first | (simp; done) | (simp; omega) | omega) _)))); (exact h10.at_.below (by (repeat (first | exact Below.refl _ _ | refine Below.drew ?_ | refine Below.alloc ?_ (by first | (simp; done) | (simp; omega) | omega) _ | refine Below.setCell ?_ (by first | (simp; done) | (simp; omega) | omega) _)))); (exact h11.at_.below (by (repeat (first | exact Below.refl _ _ | refine Below.drew ?_ | refine Below.alloc ?_ (by first | (simp; done) | (simp; omega) | omega) _ | refine Below.setCell ?_ (by first | (simp; done) | (simp; omega) | omega) _)))); rintro e w11 ⟨rfl, hb11⟩; rw [C1.out]; replace HX := Lib.hid (HX.out.move (Below.trans (by (repeat (first | exact Below.refl _ _ | refine Below.drew ?_ | refine Below.alloc ?_ (by first | (simp; done) | (simp; omega) | omega) _ | refine Below.setCell ?_ (by first | (simp; done) | (simp; omega) | omega) _))) (hb11.mono (by simp <;> omega)))); replace HA := Lib.hid (HA.out.move (Below.trans (by (repeat (first | exact Below.refl _ _ | refine Below.drew ?_ | refine Below.alloc ?_ (by first | (simp; done) | (simp; omega) | omega) _ | refine Below.setCell ?_ (by first | (simp; done) | (simp; omega) | omega) _))) (hb11.mono (by simp <;> omega)))); replace HP := Lib.hid (HP.out.below ikN (Below.trans (by (repeat (first | exact Below.refl _ _ | refine Below.drew ?_ | refine Below.alloc ?_ (by first | (simp; done) | (simp; omega) | omega) _ | refine Below.setCell ?_ (by first | (simp; done) | (simp; omega) | omega) _))) (hb11.mono (by simp <;> omega)))); replace Hb := Lib.hid (Hb.out.trans ((Below.trans (by (repeat (first | exact Below.refl _ _ | refine Below.drew ?_ | refine Below.alloc ?_ (by first | (simp; done) | (simp; omega) | omega) _ | refine Below.setCell ?_ (by first | (simp; done) | (simp; omega) | omega) _))) (hb11.mono (by simp <;> omega))).mono Hb.out.size)); replace x0 := HX.out.c0; replace x1 := HX.out.c1; replace x2 := HX.out.c2; replace a0 := HA.out.c0; replace a1 := HA.out.c1; replace a2 := HA.out.c2))
      | (go_at_call 33; go_must (refine (plog_any ikN _ _ _ _ _ ?_ hsf hl5' hcok (by omega)).mono ?_; (exact HP.out.below ikN (by (repeat (first | exact Below.refl _ _ | refine Below.drew ?_ | refine Below.alloc ?_ (by first | (simp; done) | (simp; omega) | omega) _ | refine Below.setCell ?_ (by first | (simp; done) | (simp; omega) | omega) _)))); rintro e w12 ⟨⟨k, rfl, hk⟩, hb12⟩; have Hk := Lib.hid hk; have hk25 := HF.out.log_le hk; have Fk := Lib.hid (fit_small (z := 2 ^ k) (by have := pow_small hk25; omega)); have C2 := Lib.hid (HF.out.c2 hk); clear hk; replace HX := Lib.hid (HX.out.move (Below.trans (by (repeat (first | exact Below.refl _ _ | refine Below.drew ?_ | refine Below.alloc ?_ (by first | (simp; done) | (simp; omega) | omega) _ | refine Below.setCell ?_ (by first | (simp; done) | (simp; omega) | omega) _))) (hb12.mono (by simp <;> omega)))); replace HA := Lib.hid (HA.out.move (Below.trans (by (repeat (first | exact Below.refl _ _ | refine Below.drew ?_ | refine Below.alloc ?_ (by first | (simp; done) | (simp; omega) | omega) _ | refine Below.setCell ?_ (by first | (simp; done) | (simp; omega) | omega) _))) (hb12.mono (by simp <;> omega)))); replace HP := Lib.hid (HP.out.below ikN (Below.trans (by (repeat (first | exact Below.refl _ _ | refine Below.drew ?_ | refine Below.alloc ?_ (by first | (simp; done) | (simp; omega) | omega) _ | refine Below.setCell ?_ (by first | (simp; done) | (simp; omega) | omega) _))) (hb12.mono (by simp <;> omega)))); replace Hb := Lib.hid (Hb.out.trans ((Below.trans (by (repeat (first | exact Below.refl _ _ | refine Below.drew ?_ | refine Below.alloc ?_ (by first | (simp; done) | (simp; omega) | omega) _ | refine Below.setCell ?_ (by first | (simp; done) | (simp; omega) | omega) _))) (hb12.mono (by simp <;> omega))).mono Hb.out.size)); replace x0 := HX.out.c0; replace x1 := HX.out.c1; replace x2 := HX.out.c2; replace a0 := HA.out.c0; replace a1 := HA.out.c1; replace a2 := HA.out.c2))
      | (go_at_call_of 60 (Value.int .i64 (k : Int)); go_must (refine (two_any _ _ (by omega) Fk.out.sm).mono ?_; rintro e w13 ⟨⟨n13, A13, l13, c13, B13, m13, d13, rfl, h13, h14⟩, hb13⟩; replace HX := Lib.hid (HX.out.move (Below.trans (by (repeat (first | exact Below.refl _ _ | refine Below.drew ?_ | refine Below.alloc ?_ (by first | (simp; done) | (simp; omega) | omega) _ | refine Below.setCell ?_ (by first | (simp; done) | (simp; omega) | omega) _))) (hb13.mono (by simp <;> omega)))); replace HA := Lib.hid (HA.out.move (Below.trans (by (repeat (first | exact Below.refl _ _ | refine Below.drew ?_ | refine Below.alloc ?_ (by first | (simp; done) | (simp; omega) | omega) _ | refine Below.setCell ?_ (by first | (simp; done) | (simp; omega) | omega) _))) (hb13.mono (by simp <;> omega)))); replace HP := Lib.hid (HP.out.below ikN (Below.trans (by (repeat (first | exact Below.refl _ _ | refine Below.drew ?_ | refine Below.alloc ?_ (by first | (simp; done) | (simp; omega) | omega) _ | refine Below.setCell ?_ (by first | (simp; done) | (simp; omega) | omega) _))) (hb13.mono (by simp <;> omega)))); replace Hb := Lib.hid (Hb.out.trans ((Below.trans (by (repeat (first | exact Below.refl _ _ | refine Below.drew ?_ | refine Below.alloc ?_ (by first | (simp; done) | (simp; omega) | omega) _ | refine Below.setCell ?_ (by first | (simp; done) | (simp; omega) | omega) _))) (hb13.mono (by simp <;> omega))).mono Hb.out.size)); replace x0 := HX.out.c0; replace x1 := HX.out.c1; replace x2 := HX.out.c2; replace a0 := HA.out.c0; replace a1 := HA.out.c1; replace a2 := HA.out.c2))
      | (go_at_call_of 40 (Value.slice A13 l13 c13); go_must (refine (rcmp_any _ _ _ _ _ _ _ _ _ _ _ _ _ _ _ _ _ _ _ ?_ ?_ ?_ ?_ na (by omega) fa fb Fk.out f1).mono ?_; (exact HA.out.hz.at_.below (by (repeat (first | exact Below.refl _ _ | refine Below.drew ?_ | refine Below.alloc ?_ (by first | (simp; done) | (simp; omega) | omega) _ | refine Below.setCell ?_ (by first | (simp; done) | (simp; omega) | omega) _)))); (exact HA.out.hq.at_.below (by (repeat (first | exact Below.refl _ _ | refine Below.drew ?_ | refine Below.alloc ?_ (by first | (simp; done) | (simp; omega) | omega) _ | refine Below.setCell ?_ (by first | (simp; done) | (simp; omega) | omega) _)))); (exact h13.at_.below (by (repeat (first | exact Below.refl _ _ | refine Below.drew ?_ | refine Below.alloc ?_ (by first | (simp; done) | (simp; omega) | omega) _ | refine Below.setCell ?_ (by first | (simp; done) | (simp; omega) | omega) _)))); (exact h14.at_.below (by (repeat (first | exact Below.refl _ _ | refine Below.drew ?_ | refine Below.alloc ?_ (by first | (simp; done) | (simp; omega) | omega) _ | refine Below.setCell ?_ (by first | (simp; done) | (simp; omega) | omega) _)))); rintro e w14 ⟨rfl, hb14⟩; rw [C2.out]; replace HX := Lib.hid (HX.out.move (Below.trans (by (repeat (first | exact Below.refl _ _ | refine Below.drew ?_ | refine Below.alloc ?_ (by first | (simp; done) | (simp; omega) | omega) _ | refine Below.setCell ?_ (by first | (simp; done) | (simp; omega) | omega) _))) (hb14.mono (by simp <;> omega)))); replace HA := Lib.hid (HA.out.move (Below.trans (by (repeat (first | exact Below.refl _ _ | refine Below.drew ?_ | refine Below.alloc ?_ (by first | (simp; done) | (simp; omega) | omega) _ | refine Below.setCell ?_ (by first | (simp; done) | (simp; omega) | omega) _))) (hb14.mono (by simp <;> omega)))); replace HP := Lib.hid (HP.out.below ikN (Below.trans (by (repeat (first | exact Below.refl _ _ | refine Below.drew ?_ | refine Below.alloc ?_ (by first | (simp; done) | (simp; omega) | omega) _ | refine Below.setCell ?_ (by first | (simp; done) | (simp; omega) | omega) _))) (hb14.mono (by simp <;> omega)))); replace Hb := Lib.hid (Hb.out.trans ((Below.trans (by (repeat (first | exact Below.refl _ _ | refine Below.drew ?_ | refine Below.alloc ?_ (by first | (simp; done) | (simp; omega) | omega) _ | refine Below.setCell ?_ (by first | (simp; done) | (simp; omega) | omega) _))) (hb14.mono (by simp <;> omega))).mono Hb.out.size)); replace x0 := HX.out.c0; replace x1 := HX.out.c1; replace x2 := HX.out.c2; replace a0 := HA.out.c0; replace a1 := HA.out.c1; replace a2 := HA.out.c2))
      | (go_at_call 29; go_must (refine (hol_lag _ _ _ _ _ ?_ ht hl9 h2f hl6 hdp hr0).mono ?_; (exact HP.out.below ikN (by (repeat (first | exact Below.refl _ _ | refine Below.drew ?_ | refine Below.alloc ?_ (by first | (simp; done) | (simp; omega) | omega) _ | refine Below.setCell ?_ (by first | (simp; done) | (simp; omega) | omega) _)))); rintro e w15 ⟨⟨j, rfl, hj, hjl⟩, hb15⟩; have C3 := Lib.hid (hol_c3 hjl); clear hjl; have Fj := Lib.hid (fit_small (z := 2 ^ j) (by have := pow_small (show j ≤ 25 by omega); omega)); replace HX := Lib.hid (HX.out.move (Below.trans (by (repeat (first | exact Below.refl _ _ | refine Below.drew ?_ | refine Below.alloc ?_ (by first | (simp; done) | (simp; omega) | omega) _ | refine Below.setCell ?_ (by first | (simp; done) | (simp; omega) | omega) _))) (hb15.mono (by simp <;> omega)))); replace HA := Lib.hid (HA.out.move (Below.trans (by (repeat (first | exact Below.refl _ _ | refine Below.drew ?_ | refine Below.alloc ?_ (by first | (simp; done) | (simp; omega) | omega) _ | refine Below.setCell ?_ (by first | (simp; done) | (simp; omega) | omega) _))) (hb15.mono (by simp <;> omega)))); replace HP := Lib.hid (HP.out.below ikN (Below.trans (by (repeat (first | exact Below.refl _ _ | refine Below.drew ?_ | refine Below.alloc ?_ (by first | (simp; done) | (simp; omega) | omega) _ | refine Below.setCell ?_ (by first | (simp; done) | (simp; omega) | omega) _))) (hb15.mono (by simp <;> omega)))); replace Hb := Lib.hid (Hb.out.trans ((Below.trans (by (repeat (first | exact Below.refl _ _ | refine Below.drew ?_ | refine Below.alloc ?_ (by first | (simp; done) | (simp; omega) | omega) _ | refine Below.setCell ?_ (by first | (simp; done) | (simp; omega) | omega) _))) (hb15.mono (by simp <;> omega))).mono Hb.out.size)); replace x0 := HX.out.c0; replace x1 := HX.out.c1; replace x2 := HX.out.c2; replace a0 := HA.out.c0; replace a1 := HA.out.c1; replace a2 := HA.out.c2))
      | (go_at_call_of 60 (Value.int .i64 (j : Int)); go_must (refine (two_any _ _ (by omega) Fj.out.sm).mono ?_; rintro e w16 ⟨⟨n16, A16, l16, c16, B16, m16, d16, rfl, h16, h17⟩, hb16⟩; replace HX := Lib.hid (HX.out.move (Below.trans (by (repeat (first | exact Below.refl _ _ | refine Below.drew ?_ | refine Below.alloc ?_ (by first | (simp; done) | (simp; omega) | omega) _ | refine Below.setCell ?_ (by first | (simp; done) | (simp; omega) | omega) _))) (hb16.mono (by simp <;> omega)))); replace HA := Lib.hid (HA.out.move (Below.trans (by (repeat (first | exact Below.refl _ _ | refine Below.drew ?_ | refine Below.alloc ?_ (by first | (simp; done) | (simp; omega) | omega) _ | refine Below.setCell ?_ (by first | (simp; done) | (simp; omega) | omega) _))) (hb16.mono (by simp <;> omega)))); replace HP := Lib.hid (HP.out.below ikN (Below.trans (by (repeat (first | exact Below.refl _ _ | refine Below.drew ?_ | refine Below.alloc ?_ (by first | (simp; done) | (simp; omega) | omega) _ | refine Below.setCell ?_ (by first | (simp; done) | (simp; omega) | omega) _))) (hb16.mono (by simp <;> omega)))); replace Hb := Lib.hid (Hb.out.trans ((Below.trans (by (repeat (first | exact Below.refl _ _ | refine Below.drew ?_ | refine Below.alloc ?_ (by first | (simp; done) | (simp; omega) | omega) _ | refine Below.setCell ?_ (by first | (simp; done) | (simp; omega) | omega) _))) (hb16.mono (by simp <;> omega))).mono Hb.out.size)); replace x0 := HX.out.c0; replace x1 := HX.out.c1; replace x2 := HX.out.c2; replace a0 := HA.out.c0; replace a1 := HA.out.c1; replace a2 := HA.out.c2))
      | (go_at_call_of 40 (Value.slice A16 l16 c16); go_must (refine (rcmp_any _ _ _ _ _ _ _ _ _ _ _ _ _ _ _ _ _ _ _ ?_ ?_ ?_ ?_ nx (by omega) fx fy Fj.out f1).mono ?_; (exact HX.out.hz.at_.below (by (repeat (first | exact Below.refl _ _ | refine Below.drew ?_ | refine Below.alloc ?_ (by first | (simp; done) | (simp; omega) | omega) _ | refine Below.setCell ?_ (by first | (simp; done) | (simp; omega) | omega) _)))); (exact HX.out.hq.at_.below (by (repeat (first | exact Below.refl _ _ | refine Below.drew ?_ | refine Below.alloc ?_ (by first | (simp; done) | (simp; omega) | omega) _ | refine Below.setCell ?_ (by first | (simp; done) | (simp; omega) | omega) _)))); (exact h16.at_.below (by (repeat (first | exact Below.refl _ _ | refine Below.drew ?_ | refine Below.alloc ?_ (by first | (simp; done) | (simp; omega) | omega) _ | refine Below.setCell ?_ (by first | (simp; done) | (simp; omega) | omega) _)))); (exact h17.at_.below (by (repeat (first | exact Below.refl _ _ | refine Below.drew ?_ | refine Below.alloc ?_ (by first | (simp; done) | (simp; omega) | omega) _ | refine Below.setCell ?_ (by first | (simp; done) | (simp; omega) | omega) _)))); rintro e w17 ⟨rfl, hb17⟩; have c3 := C3.out; generalize cmpz (rtn q0 q1 * ((1 : Nat) : Int)) (2 ^ j * (rtd q0 q1 : Int)) = cz at c3 ⊢; replace HX := Lib.hid (HX.out.move (Below.trans (by (repeat (first | exact Below.refl _ _ | refine Below.drew ?_ | refine Below.alloc ?_ (by first | (simp; done) | (simp; omega) | omega) _ | refine Below.setCell ?_ (by first | (simp; done) | (simp; omega) | omega) _))) (hb17.mono (by simp <;> omega)))); replace HA := Lib.hid (HA.out.move (Below.trans (by (repeat (first | exact Below.refl _ _ | refine Below.drew ?_ | refine Below.alloc ?_ (by first | (simp; done) | (simp; omega) | omega) _ | refine Below.setCell ?_ (by first | (simp; done) | (simp; omega) | omega) _))) (hb17.mono (by simp <;> omega)))); replace HP := Lib.hid (HP.out.below ikN (Below.trans (by (repeat (first | exact Below.refl _ _ | refine Below.drew ?_ | refine Below.alloc ?_ (by first | (simp; done) | (simp; omega) | omega) _ | refine Below.setCell ?_ (by first | (simp; done) | (simp; omega) | omega) _))) (hb17.mono (by simp <;> omega)))); replace Hb := Lib.hid (Hb.out.trans ((Below.trans (by (repeat (first | exact Below.refl _ _ | refine Below.drew ?_ | refine Below.alloc ?_ (by first | (simp; done) | (simp; omega) | omega) _ | refine Below.setCell ?_ (by first | (simp; done) | (simp; omega) | omega) _))) (hb17.mono (by simp <;> omega))).mono Hb.out.size)); replace x0 := HX.out.c0; replace x1 := HX.out.c1; replace x2 := HX.out.c2; replace a0 := HA.out.c0; replace a1 := HA.out.c1; replace a2 := HA.out.c2)))
    have ccz : ¬ 0 < cz := by omega
    clear C1 S1 C2 C3 Hk hk25 Fk Fj hj h9 h10 h11 h13 h14 h16 h17 hb9 hb10 hb11 hb12 hb13 hb14 hb15 hb16 hb17 hl6 hdp hr0 fc hcl hcok
    have sy : Sm (rtd q0 q1) := by have := fy.sm; unfold SmI at this; rwa [Int.natAbs_natCast] at this
    have sx : SmI (rtn q0 q1) := fx.sm
    by_cases hq : q0 = 0
    · have Hs : Hid (sg (rtn q0 q1) = 0) := by show sg _ = 0; rw [hq, rtn_zero]; rfl
      clear hq
      go_wp2_with fail
      refine wp_region_held_drew (S := (fun w' => w'.cell? ⟨w7.heap.size, 0, none⟩ = some (.bool n7) ∧ w'.cell? ⟨w7.heap.size, 1, none⟩ = some (.slice A7 l7 c7) ∧ w'.cell? ⟨w7.heap.size, 2, none⟩ = some (.slice B7 m7 d7) ∧ w'.cell? ⟨w8.heap.size, 0, none⟩ = some (.bool n8) ∧ w'.cell? ⟨w8.heap.size, 1, none⟩ = some (.slice A8 l8 c8) ∧ w'.cell? ⟨w8.heap.size, 2, none⟩ = some (.slice B8 m8 d8))) (by kernel_rfl) (by (try dsimp only); go_keep) (fun hHeld => ?_)
      (refine take_at (i := 0) (oi := _) (v := ?_) rfl rfl (by kernel_rfl) (by kernel_rfl) (by kernel_rfl) (fun _ _ _ h => h) (Or.inl ⟨by rfl, ?_⟩) (by assumption) ?_; rotate_left; (focus (intro w hSw; (try dsimp only at hSw); go_simp; (try with_reducible rfl))); (simp only [put_lit, List.set]))
      refine wpAnyH_ready (rs := [1]) (by kernel_rfl) (by simp) ?_
      refine AllReadyH.cons rfl (fun K hK => ?_) AllReadyH.nil; go_simp
      refine (rsign_any _ _ _ _ _ _ _ _ _ _ ?_ ?_ sy sx nx).mono ?_
      · exact HX.out.hz.at_.below (by (repeat (first | exact Below.refl _ _ | refine Below.drew ?_ | refine Below.alloc ?_ (by first | (simp; done) | (simp; omega) | omega) _ | refine Below.setCell ?_ (by first | (simp; done) | (simp; omega) | omega) _)))
      · exact HX.out.hq.at_.below (by (repeat (first | exact Below.refl _ _ | refine Below.drew ?_ | refine Below.alloc ?_ (by first | (simp; done) | (simp; omega) | omega) _ | refine Below.setCell ?_ (by first | (simp; done) | (simp; omega) | omega) _)))
      rintro e w18 ⟨rfl, hb18⟩
      rw [Hs.out]
      obtain ⟨hcx, hfx⟩ := bcellS hb18
      replace HX := Lib.hid (HX.out.move (Below.trans (by (repeat (first | exact Below.refl _ _ | refine Below.drew ?_ | refine Below.alloc ?_ (by first | (simp; done) | (simp; omega) | omega) _ | refine Below.setCell ?_ (by first | (simp; done) | (simp; omega) | omega) _))) (hb18.mono (by simp <;> omega)))); replace HA := Lib.hid (HA.out.move (Below.trans (by (repeat (first | exact Below.refl _ _ | refine Below.drew ?_ | refine Below.alloc ?_ (by first | (simp; done) | (simp; omega) | omega) _ | refine Below.setCell ?_ (by first | (simp; done) | (simp; omega) | omega) _))) (hb18.mono (by simp <;> omega)))); replace HP := Lib.hid (HP.out.below ikN (Below.trans (by (repeat (first | exact Below.refl _ _ | refine Below.drew ?_ | refine Below.alloc ?_ (by first | (simp; done) | (simp; omega) | omega) _ | refine Below.setCell ?_ (by first | (simp; done) | (simp; omega) | omega) _))) (hb18.mono (by simp <;> omega)))); replace Hb := Lib.hid (Hb.out.trans ((Below.trans (by (repeat (first | exact Below.refl _ _ | refine Below.drew ?_ | refine Below.alloc ?_ (by first | (simp; done) | (simp; omega) | omega) _ | refine Below.setCell ?_ (by first | (simp; done) | (simp; omega) | omega) _))) (hb18.mono (by simp <;> omega))).mono Hb.out.size)); replace x0 := HX.out.c0; replace x1 := HX.out.c1; replace x2 := HX.out.c2; replace a0 := HA.out.c0; replace a1 := HA.out.c1; replace a2 := HA.out.c2
      refine hK.out _ _ ?_ (fun _ => ?_)
      · go_keep
      clear hHeld hK K hcx hfx; rename_i hHeld
      (refine take_at (i := 2) (oi := _) (v := ?_) rfl rfl (by kernel_rfl) (by kernel_rfl) (by kernel_rfl) (fun _ _ _ h => h) (Or.inl ⟨by rfl, ?_⟩) (by assumption) ?_; rotate_left; (focus (intro w hSw; (try dsimp only at hSw); go_simp; (try with_reducible rfl))); (simp only [put_lit, List.set]))
      (refine take_at (i := 3) (oi := _) (v := ?_) rfl rfl (by kernel_rfl) (by kernel_rfl) (by kernel_rfl) (fun _ _ _ h => h) (Or.inl ⟨by rfl, ?_⟩) (by assumption) ?_; rotate_left; (focus (intro w hSw; (try dsimp only at hSw); go_simp; (try with_reducible rfl))); (simp only [put_lit, List.set]))
      (refine take_at (i := 4) (oi := _) (v := undef) rfl rfl (by kernel_rfl) (by kernel_rfl) (by kernel_rfl) (fun _ _ _ h => h) (Or.inr ⟨by rfl, rfl⟩) (by assumption) ?_; (simp only [put_lit, List.set]))
      (refine take_at (i := 5) (oi := _) (v := undef) rfl rfl (by kernel_rfl) (by kernel_rfl) (by kernel_rfl) (fun _ _ _ h => h) (Or.inr ⟨by rfl, rfl⟩) (by assumption) ?_; (simp only [put_lit, List.set]))
      (refine take_at (i := 6) (oi := _) (v := undef) rfl rfl (by kernel_rfl) (by kernel_rfl) (by kernel_rfl) (fun _ _ _ h => h) (Or.inr ⟨by rfl, rfl⟩) (by assumption) ?_; (simp only [put_lit, List.set]))
      (refine take_at (i := 7) (oi := _) (v := undef) rfl rfl (by kernel_rfl) (by kernel_rfl) (by kernel_rfl) (fun _ _ _ h => h) (Or.inr ⟨by rfl, rfl⟩) (by assumption) ?_; (simp only [put_lit, List.set]))
      (refine take_at (i := 8) (oi := _) (v := undef) rfl rfl (by kernel_rfl) (by kernel_rfl) (by kernel_rfl) (fun _ _ _ h => h) (Or.inr ⟨by rfl, rfl⟩) (by assumption) ?_; (simp only [put_lit, List.set]))
      (refine take_at (i := 9) (oi := _) (v := undef) rfl rfl (by kernel_rfl) (by kernel_rfl) (by kernel_rfl) (fun _ _ _ h => h) (Or.inr ⟨by rfl, rfl⟩) (by assumption) ?_; (simp only [put_lit, List.set]))
      (refine take_at (i := 10) (oi := _) (v := undef) rfl rfl (by kernel_rfl) (by kernel_rfl) (by kernel_rfl) (fun _ _ _ h => h) (Or.inr ⟨by rfl, rfl⟩) (by assumption) ?_; (simp only [put_lit, List.set]))
      (refine take_at (i := 11) (oi := _) (v := undef) rfl rfl (by kernel_rfl) (by kernel_rfl) (by kernel_rfl) (fun _ _ _ h => h) (Or.inr ⟨by rfl, rfl⟩) (by assumption) ?_; (simp only [put_lit, List.set]))
      (refine take_at (i := 12) (oi := _) (v := undef) rfl rfl (by kernel_rfl) (by kernel_rfl) (by kernel_rfl) (fun _ _ _ h => h) (Or.inr ⟨by rfl, rfl⟩) (by assumption) ?_; (simp only [put_lit, List.set]))
      (refine take_at (i := 13) (oi := _) (v := undef) rfl rfl (by kernel_rfl) (by kernel_rfl) (by kernel_rfl) (fun _ _ _ h => h) (Or.inr ⟨by rfl, rfl⟩) (by assumption) ?_; (simp only [put_lit, List.set]))
      (refine take_at (i := 14) (oi := _) (v := undef) rfl rfl (by kernel_rfl) (by kernel_rfl) (by kernel_rfl) (fun _ _ _ h => h) (Or.inr ⟨by rfl, rfl⟩) (by assumption) ?_; (simp only [put_lit, List.set]))
      (refine take_at (i := 15) (oi := _) (v := ?_) rfl rfl (by kernel_rfl) (by kernel_rfl) (by kernel_rfl) (fun _ _ _ h => h) (Or.inl ⟨by rfl, ?_⟩) (by assumption) ?_; rotate_left; (focus (intro w hSw; (try dsimp only at hSw); go_simp; (try with_reducible rfl))); (simp only [put_lit, List.set]))
      (refine take_at (i := 16) (oi := _) (v := ?_) rfl rfl (by kernel_rfl) (by kernel_rfl) (by kernel_rfl) (fun _ _ _ h => h) (Or.inl ⟨by rfl, ?_⟩) (by assumption) ?_; rotate_left; (focus (intro w hSw; (try dsimp only at hSw); go_simp; (try with_reducible rfl))); (simp only [put_lit, List.set]))
      refine wpAnyH_done (by kernel_rfl) ?_ _
      go_wp2
      go_ret
      exact ⟨rfl, Hb.out⟩
    · have hcs0 : (sg (rtn q0 q1) == 0) = false := by rw [sg_zero_beq, decide_eq_false_iff_not]; exact rtn_ne hq
      obtain ⟨cs, hcs⟩ : ∃ cs, cs = sg (rtn q0 q1) := ⟨_, rfl⟩
      rw [← hcs] at hcs0
      have Hcs := Lib.hid hcs
      have hll := HF.out.low_le
      have hokL : 2 ≤ plen (prv f) → CauOK (prv f) := fun h => cauok_tiny ht.prv (by omega) h
      have fl : Fit (rcau (prv f) : Int) := fit_small (by omega)
      have nl := HF.out.low_ne hq
      have Lz := Lib.hid (HF.out.lz hq)
      have Lq := Lib.hid (HF.out.lq hq)
      have C4 := Lib.hid (HF.out.c4 hq)
      have fo : Fit 1 := fit_small (by decide)
      have sl : Sm (rcau (prv f)) := by have := fl.sm; unfold SmI at this; rwa [Int.natAbs_natCast] at this
      have hbl : rcau (prv f) ≤ 1000000000 := by omega
      clear hq hcs hll
      go_wp2_with fail
      go_region_held3 (fun w' => w'.cell? ⟨w7.heap.size, 0, none⟩ = some (.bool n7) ∧ w'.cell? ⟨w7.heap.size, 1, none⟩ = some (.slice A7 l7 c7) ∧ w'.cell? ⟨w7.heap.size, 2, none⟩ = some (.slice B7 m7 d7) ∧ w'.cell? ⟨w8.heap.size, 0, none⟩ = some (.bool n8) ∧ w'.cell? ⟨w8.heap.size, 1, none⟩ = some (.slice A8 l8 c8) ∧ w'.cell? ⟨w8.heap.size, 2, none⟩ = some (.slice B8 m8 d8)) (go_keep) (first
        | (go_at_call_of 36 (Value.slice A7 l7 c7); go_must (refine (rsign_any _ _ _ _ _ _ _ _ _ _ ?_ ?_ sy sx nx).mono ?_; (exact HX.out.hz.at_.below (by (repeat (first | exact Below.refl _ _ | refine Below.drew ?_ | refine Below.alloc ?_ (by first | (simp; done) | (simp; omega) | omega) _ | refine Below.setCell ?_ (by first | (simp; done) | (simp; omega) | omega) _)))); (exact HX.out.hq.at_.below (by (repeat (first | exact Below.refl _ _ | refine Below.drew ?_ | refine Below.alloc ?_ (by first | (simp; done) | (simp; omega) | omega) _ | refine Below.setCell ?_ (by first | (simp; done) | (simp; omega) | omega) _)))); rintro e w18 ⟨rfl, hb18⟩; rw [← Hcs.out]; replace HX := Lib.hid (HX.out.move (Below.trans (by (repeat (first | exact Below.refl _ _ | refine Below.drew ?_ | refine Below.alloc ?_ (by first | (simp; done) | (simp; omega) | omega) _ | refine Below.setCell ?_ (by first | (simp; done) | (simp; omega) | omega) _))) (hb18.mono (by simp <;> omega)))); replace HA := Lib.hid (HA.out.move (Below.trans (by (repeat (first | exact Below.refl _ _ | refine Below.drew ?_ | refine Below.alloc ?_ (by first | (simp; done) | (simp; omega) | omega) _ | refine Below.setCell ?_ (by first | (simp; done) | (simp; omega) | omega) _))) (hb18.mono (by simp <;> omega)))); replace HP := Lib.hid (HP.out.below ikN (Below.trans (by (repeat (first | exact Below.refl _ _ | refine Below.drew ?_ | refine Below.alloc ?_ (by first | (simp; done) | (simp; omega) | omega) _ | refine Below.setCell ?_ (by first | (simp; done) | (simp; omega) | omega) _))) (hb18.mono (by simp <;> omega)))); replace Hb := Lib.hid (Hb.out.trans ((Below.trans (by (repeat (first | exact Below.refl _ _ | refine Below.drew ?_ | refine Below.alloc ?_ (by first | (simp; done) | (simp; omega) | omega) _ | refine Below.setCell ?_ (by first | (simp; done) | (simp; omega) | omega) _))) (hb18.mono (by simp <;> omega))).mono Hb.out.size)); replace x0 := HX.out.c0; replace x1 := HX.out.c1; replace x2 := HX.out.c2; replace a0 := HA.out.c0; replace a1 := HA.out.c1; replace a2 := HA.out.c2))
        | (go_at_call 37; (have _hx := hb20); go_must (refine (lower_any ikN _ _ _ _ _ ?_ hsf hl5' hokL hbl).mono ?_; (exact HP.out.below ikN (by (repeat (first | exact Below.refl _ _ | refine Below.drew ?_ | refine Below.alloc ?_ (by first | (simp; done) | (simp; omega) | omega) _ | refine Below.setCell ?_ (by first | (simp; done) | (simp; omega) | omega) _)))); rintro e w21 ⟨⟨n21, A21, l21, c21, B21, m21, d21, rfl, h21, h22⟩, hb21⟩; rw [Lz.out] at h21; rw [Lq.out] at h22; replace HX := Lib.hid (HX.out.move (Below.trans (by (repeat (first | exact Below.refl _ _ | refine Below.drew ?_ | refine Below.alloc ?_ (by first | (simp; done) | (simp; omega) | omega) _ | refine Below.setCell ?_ (by first | (simp; done) | (simp; omega) | omega) _))) (hb21.mono (by simp <;> omega)))); replace HA := Lib.hid (HA.out.move (Below.trans (by (repeat (first | exact Below.refl _ _ | refine Below.drew ?_ | refine Below.alloc ?_ (by first | (simp; done) | (simp; omega) | omega) _ | refine Below.setCell ?_ (by first | (simp; done) | (simp; omega) | omega) _))) (hb21.mono (by simp <;> omega)))); replace HP := Lib.hid (HP.out.below ikN (Below.trans (by (repeat (first | exact Below.refl _ _ | refine Below.drew ?_ | refine Below.alloc ?_ (by first | (simp; done) | (simp; omega) | omega) _ | refine Below.setCell ?_ (by first | (simp; done) | (simp; omega) | omega) _))) (hb21.mono (by simp <;> omega)))); replace Hb := Lib.hid (Hb.out.trans ((Below.trans (by (repeat (first | exact Below.refl _ _ | refine Below.drew ?_ | refine Below.alloc ?_ (by first | (simp; done) | (simp; omega) | omega) _ | refine Below.setCell ?_ (by first | (simp; done) | (simp; omega) | omega) _))) (hb21.mono (by simp <;> omega))).mono Hb.out.size)); replace x0 := HX.out.c0; replace x1 := HX.out.c1; replace x2 := HX.out.c2; replace a0 := HA.out.c0; replace a1 := HA.out.c1; replace a2 := HA.out.c2))
        | (go_at_call 37; go_must (refine (lower_any ikN _ _ _ _ _ ?_ hsf hl5' hokL hbl).mono ?_; (exact HP.out.below ikN (by (repeat (first | exact Below.refl _ _ | refine Below.drew ?_ | refine Below.alloc ?_ (by first | (simp; done) | (simp; omega) | omega) _ | refine Below.setCell ?_ (by first | (simp; done) | (simp; omega) | omega) _)))); rintro e w19 ⟨⟨n19, A19, l19, c19, B19, m19, d19, rfl, h19, h20⟩, hb19⟩; rw [Lz.out] at h19; rw [Lq.out] at h20; replace HX := Lib.hid (HX.out.move (Below.trans (by (repeat (first | exact Below.refl _ _ | refine Below.drew ?_ | refine Below.alloc ?_ (by first | (simp; done) | (simp; omega) | omega) _ | refine Below.setCell ?_ (by first | (simp; done) | (simp; omega) | omega) _))) (hb19.mono (by simp <;> omega)))); replace HA := Lib.hid (HA.out.move (Below.trans (by (repeat (first | exact Below.refl _ _ | refine Below.drew ?_ | refine Below.alloc ?_ (by first | (simp; done) | (simp; omega) | omega) _ | refine Below.setCell ?_ (by first | (simp; done) | (simp; omega) | omega) _))) (hb19.mono (by simp <;> omega)))); replace HP := Lib.hid (HP.out.below ikN (Below.trans (by (repeat (first | exact Below.refl _ _ | refine Below.drew ?_ | refine Below.alloc ?_ (by first | (simp; done) | (simp; omega) | omega) _ | refine Below.setCell ?_ (by first | (simp; done) | (simp; omega) | omega) _))) (hb19.mono (by simp <;> omega)))); replace Hb := Lib.hid (Hb.out.trans ((Below.trans (by (repeat (first | exact Below.refl _ _ | refine Below.drew ?_ | refine Below.alloc ?_ (by first | (simp; done) | (simp; omega) | omega) _ | refine Below.setCell ?_ (by first | (simp; done) | (simp; omega) | omega) _))) (hb19.mono (by simp <;> omega))).mono Hb.out.size)); replace x0 := HX.out.c0; replace x1 := HX.out.c1; replace x2 := HX.out.c2; replace a0 := HA.out.c0; replace a1 := HA.out.c1; replace a2 := HA.out.c2))
        | (go_at_call_of 40 (Value.slice A19 l19 c19); go_must (refine (rcmp_any _ _ _ _ _ _ _ _ _ _ _ _ _ _ _ _ _ _ _ ?_ ?_ ?_ ?_ na nl fa fb fo fl).mono ?_; (exact HA.out.hz.at_.below (by (repeat (first | exact Below.refl _ _ | refine Below.drew ?_ | refine Below.alloc ?_ (by first | (simp; done) | (simp; omega) | omega) _ | refine Below.setCell ?_ (by first | (simp; done) | (simp; omega) | omega) _)))); (exact HA.out.hq.at_.below (by (repeat (first | exact Below.refl _ _ | refine Below.drew ?_ | refine Below.alloc ?_ (by first | (simp; done) | (simp; omega) | omega) _ | refine Below.setCell ?_ (by first | (simp; done) | (simp; omega) | omega) _)))); (exact h19.at_.below (by (repeat (first | exact Below.refl _ _ | refine Below.drew ?_ | refine Below.alloc ?_ (by first | (simp; done) | (simp; omega) | omega) _ | refine Below.setCell ?_ (by first | (simp; done) | (simp; omega) | omega) _)))); (exact h20.at_.below (by (repeat (first | exact Below.refl _ _ | refine Below.drew ?_ | refine Below.alloc ?_ (by first | (simp; done) | (simp; omega) | omega) _ | refine Below.setCell ?_ (by first | (simp; done) | (simp; omega) | omega) _)))); rintro e w20 ⟨rfl, hb20⟩; rw [C4.out]; replace HX := Lib.hid (HX.out.move (Below.trans (by (repeat (first | exact Below.refl _ _ | refine Below.drew ?_ | refine Below.alloc ?_ (by first | (simp; done) | (simp; omega) | omega) _ | refine Below.setCell ?_ (by first | (simp; done) | (simp; omega) | omega) _))) (hb20.mono (by simp <;> omega)))); replace HA := Lib.hid (HA.out.move (Below.trans (by (repeat (first | exact Below.refl _ _ | refine Below.drew ?_ | refine Below.alloc ?_ (by first | (simp; done) | (simp; omega) | omega) _ | refine Below.setCell ?_ (by first | (simp; done) | (simp; omega) | omega) _))) (hb20.mono (by simp <;> omega)))); replace HP := Lib.hid (HP.out.below ikN (Below.trans (by (repeat (first | exact Below.refl _ _ | refine Below.drew ?_ | refine Below.alloc ?_ (by first | (simp; done) | (simp; omega) | omega) _ | refine Below.setCell ?_ (by first | (simp; done) | (simp; omega) | omega) _))) (hb20.mono (by simp <;> omega)))); replace Hb := Lib.hid (Hb.out.trans ((Below.trans (by (repeat (first | exact Below.refl _ _ | refine Below.drew ?_ | refine Below.alloc ?_ (by first | (simp; done) | (simp; omega) | omega) _ | refine Below.setCell ?_ (by first | (simp; done) | (simp; omega) | omega) _))) (hb20.mono (by simp <;> omega))).mono Hb.out.size)); replace x0 := HX.out.c0; replace x1 := HX.out.c1; replace x2 := HX.out.c2; replace a0 := HA.out.c0; replace a1 := HA.out.c1; replace a2 := HA.out.c2))
        | (go_at_call_of 36 (Value.slice A21 l21 c21); go_must (refine (rsign_any _ _ _ _ _ _ _ _ _ _ ?_ ?_ sl fo.sm nl).mono ?_; (exact h21.at_.below (by (repeat (first | exact Below.refl _ _ | refine Below.drew ?_ | refine Below.alloc ?_ (by first | (simp; done) | (simp; omega) | omega) _ | refine Below.setCell ?_ (by first | (simp; done) | (simp; omega) | omega) _)))); (exact h22.at_.below (by (repeat (first | exact Below.refl _ _ | refine Below.drew ?_ | refine Below.alloc ?_ (by first | (simp; done) | (simp; omega) | omega) _ | refine Below.setCell ?_ (by first | (simp; done) | (simp; omega) | omega) _)))); rintro e w23 ⟨rfl, hb23⟩; rw [show sg 1 = 1 from rfl]; replace HX := Lib.hid (HX.out.move (Below.trans (by (repeat (first | exact Below.refl _ _ | refine Below.drew ?_ | refine Below.alloc ?_ (by first | (simp; done) | (simp; omega) | omega) _ | refine Below.setCell ?_ (by first | (simp; done) | (simp; omega) | omega) _))) (hb23.mono (by simp <;> omega)))); replace HA := Lib.hid (HA.out.move (Below.trans (by (repeat (first | exact Below.refl _ _ | refine Below.drew ?_ | refine Below.alloc ?_ (by first | (simp; done) | (simp; omega) | omega) _ | refine Below.setCell ?_ (by first | (simp; done) | (simp; omega) | omega) _))) (hb23.mono (by simp <;> omega)))); replace HP := Lib.hid (HP.out.below ikN (Below.trans (by (repeat (first | exact Below.refl _ _ | refine Below.drew ?_ | refine Below.alloc ?_ (by first | (simp; done) | (simp; omega) | omega) _ | refine Below.setCell ?_ (by first | (simp; done) | (simp; omega) | omega) _))) (hb23.mono (by simp <;> omega)))); replace Hb := Lib.hid (Hb.out.trans ((Below.trans (by (repeat (first | exact Below.refl _ _ | refine Below.drew ?_ | refine Below.alloc ?_ (by first | (simp; done) | (simp; omega) | omega) _ | refine Below.setCell ?_ (by first | (simp; done) | (simp; omega) | omega) _))) (hb23.mono (by simp <;> omega))).mono Hb.out.size)); replace x0 := HX.out.c0; replace x1 := HX.out.c1; replace x2 := HX.out.c2; replace a0 := HA.out.c0; replace a1 := HA.out.c1; replace a2 := HA.out.c2)))
      go_wp2
      go_ret
      exact ⟨rfl, Hb.out⟩
end Go.Proofs.Ytfpliceenjbclaa
