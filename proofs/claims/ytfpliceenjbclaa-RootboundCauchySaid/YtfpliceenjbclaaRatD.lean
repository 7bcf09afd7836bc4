/- The walks of package rational, fourth part: Make at a positive denominator, From, Of. -/
import Derived.Test.YtfpliceenjbclaaRatC
namespace Go.Proofs.Ytfpliceenjbclaa
open Go.RowKit

/-- the call has returned the fraction z / q in canonical digits, and no error -/
def RatOk (z : Int) (q : Nat) (e : Ending) (w : World) : Prop := ∃ n A l c B m d, e = .returned (.tuple #[.agg #[.bool n, .slice A l c, .slice B m d], .int .i64 0]) ∧ IntN w n A l c z ∧ NatN w B m d q

set_option maxRecDepth 100000 in
set_option maxHeartbeats 4000000 in
theorem make_pos (n : Bool) (A : Option Addr) (l c : Nat) (z : Int) (n' : Bool) (A' : Option Addr) (l' c' : Nat) (q : Nat) (w : World) (hz : IntN w n A l c z) (hq : IntN w n' A' l' c' (q : Int)) (hu : U64 z.natAbs) (hv : q < BB) (h0 : 0 < q) :
    Calls Try.prog 38 #[.agg #[.bool n, .slice A l c], .agg #[.bool n', .slice A' l' c']] w fun e w' => RatOk (z.tdiv (Nat.gcd z.natAbs q)) (q / Nat.gcd z.natAbs q) e w' ∧ Below w.heap.size w w' := by
  have hbx : Below w.heap.size w (w.alloc (ibox n A l c)) := (Below.refl _ _).alloc (Nat.le_refl _) _
  have hby : Below (w.alloc (ibox n A l c)).heap.size (w.alloc (ibox n A l c)) ((w.alloc (ibox n A l c)).alloc (ibox n' A' l' c')) := (Below.refl _ _).alloc (Nat.le_refl _) _
  have hbz : Below ((w.alloc (ibox n A l c)).alloc (ibox n' A' l' c')).heap.size ((w.alloc (ibox n A l c)).alloc (ibox n' A' l' c')) (((w.alloc (ibox n A l c)).alloc (ibox n' A' l' c')).alloc (rbox false none 0 0 none 0 0)) := (Below.refl _ _).alloc (Nat.le_refl _) _
  have HN := Lib.hid (((IBox.make hz).move hby).move hbz)
  have hd := (IBox.make (hq.below hbx)).move hbz
  have hr := RBox.nil ((w.alloc (ibox n A l c)).alloc (ibox n' A' l' c'))
  simp only [World.size_alloc] at hd hr
  have HD := Lib.hid hd
  have HR := Lib.hid hr
  have hb0 := hbx.trans ((hby.trans (hbz.mono hby.size)).mono hbx.size)
  have Hb0 := Lib.hid hb0
  have hsq : SmI (q : Int) := by unfold SmI; rw [Int.natAbs_natCast]; exact sm_pow (k := 1) (by rw [Nat.pow_one]; exact hv) (by omega)
  have e0 := HN.out.c0
  have e1 := HN.out.c1
  have e2 := HD.out.c0
  have e3 := HD.out.c1
  clear hz hq hbx hby hbz hd hr hb0
  go_enter Try.func38, Try.ntmps38
  go_wp2_with fail
  refine (isign_any _ _ _ _ _ _ HD.out.hz.at_ hsq).mono ?_
  rintro e w1 ⟨rfl, rfl⟩
  rw [show sg (q : Int) = 1 from sg_pos (by omega)]
  have hba : Below (((w.alloc (ibox n A l c)).alloc (ibox n' A' l' c')).alloc (rbox false none 0 0 none 0 0)).heap.size (((w.alloc (ibox n A l c)).alloc (ibox n' A' l' c')).alloc (rbox false none 0 0 none 0 0)) ((((w.alloc (ibox n A l c)).alloc (ibox n' A' l' c')).alloc (rbox false none 0 0 none 0 0)).alloc (ibox n' A' l' c')) := (Below.refl _ _).alloc (Nat.le_refl _) _
  have HN1 := Lib.hid (HN.out.move hba)
  have HD1 := Lib.hid (HD.out.move hba)
  have HR1 := Lib.hid (HR.out.move hba)
  have Hb1 := Lib.hid (Hb0.out.trans (hba.mono Hb0.out.size))
  clear e0 e1 e2 e3 HN HD HR Hb0 hba
  have e0 := HN1.out.c0
  have e1 := HN1.out.c1
  have e2 := HD1.out.c0
  have e3 := HD1.out.c1
  have ne4 : w.heap.size + 1 + 1 ≠ w.heap.size := by omega
  go_wp2_with fail
  go_region_held3 (fun w' => w'.cell? ⟨w.heap.size, 0, none⟩ = some (.bool n) ∧ w'.cell? ⟨w.heap.size, 1, none⟩ = some (.slice A l c) ∧ w'.cell? ⟨w.heap.size + 1, 0, none⟩ = some (.bool n') ∧ w'.cell? ⟨w.heap.size + 1, 1, none⟩ = some (.slice A' l' c')) (go_keep) (first
      | (go_at_call 96; go_must (refine (iabs_any _ _ _ _ _ _ ?_ hsq).mono ?_; (exact HD1.out.hz.at_.below (by (repeat (first | exact Below.refl _ _ | refine Below.drew ?_ | refine Below.alloc ?_ (by first | (simp; done) | (simp; omega) | omega) _ | refine Below.setCell ?_ (by first | (simp; done) | (simp; omega) | omega) _)))); rintro e w2 ⟨n2, A2, l2, c2, rfl, h2, hb2⟩; rw [Int.natAbs_natCast] at h2; have HN2 := Lib.hid (HN1.out.move (Below.trans (by (repeat (first | exact Below.refl _ _ | refine Below.drew ?_ | refine Below.alloc ?_ (by first | (simp; done) | (simp; omega) | omega) _ | refine Below.setCell ?_ (by first | (simp; done) | (simp; omega) | omega) _))) (hb2.mono (by simp <;> omega)))); have HD2 := Lib.hid (HD1.out.move (Below.trans (by (repeat (first | exact Below.refl _ _ | refine Below.drew ?_ | refine Below.alloc ?_ (by first | (simp; done) | (simp; omega) | omega) _ | refine Below.setCell ?_ (by first | (simp; done) | (simp; omega) | omega) _))) (hb2.mono (by simp <;> omega)))); have HR2 := Lib.hid (HR1.out.move (Below.trans (by (repeat (first | exact Below.refl _ _ | refine Below.drew ?_ | refine Below.alloc ?_ (by first | (simp; done) | (simp; omega) | omega) _ | refine Below.setCell ?_ (by first | (simp; done) | (simp; omega) | omega) _))) (hb2.mono (by simp <;> omega)))); have Hb2 := Lib.hid (Hb1.out.trans ((Below.trans (by (repeat (first | exact Below.refl _ _ | refine Below.drew ?_ | refine Below.alloc ?_ (by first | (simp; done) | (simp; omega) | omega) _ | refine Below.setCell ?_ (by first | (simp; done) | (simp; omega) | omega) _))) (hb2.mono (by simp <;> omega))).mono Hb1.out.size)); have x0 := HN2.out.c0; have x1 := HN2.out.c1; have x2 := HD2.out.c0; have x3 := HD2.out.c1))
      | (go_at_call 104; go_must (refine (reduce_any _ _ _ _ _ _ _ _ _ _ _ ?_ ?_ hu hv h0).mono ?_; (exact HN2.out.hz.below (by (repeat (first | exact Below.refl _ _ | refine Below.drew ?_ | refine Below.alloc ?_ (by first | (simp; done) | (simp; omega) | omega) _ | refine Below.setCell ?_ (by first | (simp; done) | (simp; omega) | omega) _)))); (exact h2.below (by (repeat (first | exact Below.refl _ _ | refine Below.drew ?_ | refine Below.alloc ?_ (by first | (simp; done) | (simp; omega) | omega) _ | refine Below.setCell ?_ (by first | (simp; done) | (simp; omega) | omega) _)))); rintro e w3 ⟨⟨n3, A3, l3, c3, B3, m3, d3, rfl, h3, h4⟩, hb3⟩; have HN3 := Lib.hid (HN2.out.move (Below.trans (by (repeat (first | exact Below.refl _ _ | refine Below.drew ?_ | refine Below.alloc ?_ (by first | (simp; done) | (simp; omega) | omega) _ | refine Below.setCell ?_ (by first | (simp; done) | (simp; omega) | omega) _))) (hb3.mono (by simp <;> omega)))); have HD3 := Lib.hid (HD2.out.move (Below.trans (by (repeat (first | exact Below.refl _ _ | refine Below.drew ?_ | refine Below.alloc ?_ (by first | (simp; done) | (simp; omega) | omega) _ | refine Below.setCell ?_ (by first | (simp; done) | (simp; omega) | omega) _))) (hb3.mono (by simp <;> omega)))); have HR3 := Lib.hid (HR2.out.move (Below.trans (by (repeat (first | exact Below.refl _ _ | refine Below.drew ?_ | refine Below.alloc ?_ (by first | (simp; done) | (simp; omega) | omega) _ | refine Below.setCell ?_ (by first | (simp; done) | (simp; omega) | omega) _))) (hb3.mono (by simp <;> omega)))); have Hb3 := Lib.hid (Hb2.out.trans ((Below.trans (by (repeat (first | exact Below.refl _ _ | refine Below.drew ?_ | refine Below.alloc ?_ (by first | (simp; done) | (simp; omega) | omega) _ | refine Below.setCell ?_ (by first | (simp; done) | (simp; omega) | omega) _))) (hb3.mono (by simp <;> omega))).mono Hb2.out.size)); have y0 := HN3.out.c0; have y1 := HN3.out.c1; have y2 := HD3.out.c0; have y3 := HD3.out.c1; have r0 := HR3.out.c0; have r1 := HR3.out.c1; have r2 := HR3.out.c2; have r3 := HR3.out.f0; have r4 := HR3.out.f1; have r5 := HR3.out.f2)))
  have HP := Lib.hid (HR3.out.put h3 h4)
  have HbP := Lib.hid (((Hb3.out.setCell (p := ⟨w.heap.size + 1 + 1, 0, none⟩) (by first | (simp; done) | (simp; omega) | omega) (.bool n3)).setCell (p := ⟨w.heap.size + 1 + 1, 1, none⟩) (by first | (simp; done) | (simp; omega) | omega) (.slice A3 l3 c3)).setCell (p := ⟨w.heap.size + 1 + 1, 2, none⟩) (by first | (simp; done) | (simp; omega) | omega) (.slice B3 m3 d3))
  clear HN1 HD1 HR1 Hb1 HN2 HD2 HR2 Hb2 HN3 HD3 HR3 Hb3 h2 h3 h4 hb2 hb3 e0 e1 e2 e3 x0 x1 x2 x3 y0 y1 y2 y3
  go_wp2
  refine bodyPost_ret (v := .tuple #[.agg #[.bool n3, .slice A3 l3 c3, .slice B3 m3 d3], .int .i64 0]) (by simp [results, Try.results38, go_sem, r0, r1, r2]) rfl ⟨⟨_, _, _, _, _, _, _, rfl, HP.out.hz, HP.out.hq⟩, HbP.out⟩

set_option maxRecDepth 100000 in
set_option maxHeartbeats 1000000 in
theorem rfrom_any (n : Bool) (A : Option Addr) (l c : Nat) (z : Int) (w : World) (hz : IntAt w n A l c z) (hs : SmI z) :
    Calls Try.prog 59 #[.agg #[.bool n, .slice A l c]] w fun e w' => RatE z 1 e w' ∧ Below w.heap.size w w' := by
  have hb0 : Below w.heap.size w ((w.alloc (ibox n A l c)).alloc (rbox false none 0 0 none 0 0)) := below_two w _ _ (Nat.le_refl _)
  have hz1 := hz.below hb0
  have hr := RBox.nil (w.alloc (ibox n A l c))
  simp only [World.size_alloc] at hr
  have HR := Lib.hid hr
  have Hb0 := Lib.hid hb0
  clear hz hb0 hr
  go_enter Try.func59, Try.ntmps59
  go_wp2_with fail
  refine (inormal_any _ _ _ _ _ _ hz1 hs).mono ?_
  rintro e w1 ⟨n1, A1, l1, c1, rfl, h1, hb1⟩
  have HR1 := Lib.hid (HR.out.move hb1)
  have Hb1 := Lib.hid (Hb0.out.trans (hb1.mono Hb0.out.size))
  clear hz1 hb1
  go_wp2_with fail
  refine (of_any 1 _ (by unfold U64; rw [BB_eq]; omega)).mono ?_
  rintro e w2 ⟨A2, l2, c2, rfl, h2, hb2⟩
  have HR2 := Lib.hid (HR1.out.move hb2)
  have h12 := h1.below hb2
  have Hb2 := Lib.hid (Hb1.out.trans (hb2.mono Hb1.out.size))
  have HP := Lib.hid (HR2.out.put h12 h2)
  have HbP := Lib.hid (((Hb2.out.setCell (p := ⟨w.heap.size + 1, 0, none⟩) (by first | (simp; done) | (simp; omega) | omega) (.bool n1)).setCell (p := ⟨w.heap.size + 1, 1, none⟩) (by first | (simp; done) | (simp; omega) | omega) (.slice A1 l1 c1)).setCell (p := ⟨w.heap.size + 1, 2, none⟩) (by first | (simp; done) | (simp; omega) | omega) (.slice A2 l2 c2))
  have r0 := HR2.out.c0
  have r1 := HR2.out.c1
  have r2 := HR2.out.c2
  have r3 := HR2.out.f0
  have r4 := HR2.out.f1
  have r5 := HR2.out.f2
  clear HR HR1 Hb1 HR2 Hb2 h1 h2 h12 hb2
  go_wp2
  refine bodyPost_ret (v := .agg #[.bool n1, .slice A1 l1 c1, .slice A2 l2 c2]) (by simp [results, Try.results59, go_sem, r0, r1, r2]) rfl ⟨⟨_, _, _, _, _, _, _, rfl, HP.out.hz, HP.out.hq⟩, HbP.out⟩

set_option maxRecDepth 100000 in
set_option maxHeartbeats 1000000 in
theorem rof_any (z : Int) (w : World) (h : I64 z) :
    Calls Try.prog 103 #[.int .i64 z] w fun e w' => RatE z 1 e w' ∧ Below w.heap.size w w' := by
  have hb0 : Below w.heap.size w (w.alloc (rbox false none 0 0 none 0 0)) := (Below.refl _ _).alloc (Nat.le_refl _) _
  have HR := Lib.hid (RBox.nil w)
  have Hb0 := Lib.hid hb0
  clear hb0
  go_enter Try.func103, Try.ntmps103
  go_wp2_with fail
  refine (iof_any z _ h).mono ?_
  rintro e w1 ⟨n1, A1, l1, c1, rfl, h1, hb1⟩
  have HR1 := Lib.hid (HR.out.move hb1)
  have Hb1 := Lib.hid (Hb0.out.trans (hb1.mono Hb0.out.size))
  have hsz := SmI.of64 h
  clear hb1 h
  go_wp2_with fail
  refine (rfrom_any _ _ _ _ _ _ h1.at_ hsz).mono ?_
  rintro e w2 ⟨⟨n2, A2, l2, c2, B2, m2, d2, rfl, h2, h3⟩, hb2⟩
  have HR2 := Lib.hid (HR1.out.move hb2)
  have Hb2 := Lib.hid (Hb1.out.trans (hb2.mono Hb1.out.size))
  have HP := Lib.hid (HR2.out.put h2 h3)
  have HbP := Lib.hid (((Hb2.out.setCell (p := ⟨w.heap.size, 0, none⟩) (Nat.le_refl _) (.bool n2)).setCell (p := ⟨w.heap.size, 1, none⟩) (Nat.le_refl _) (.slice A2 l2 c2)).setCell (p := ⟨w.heap.size, 2, none⟩) (Nat.le_refl _) (.slice B2 m2 d2))
  have r0 := HR2.out.c0
  have r1 := HR2.out.c1
  have r2 := HR2.out.c2
  have r3 := HR2.out.f0
  have r4 := HR2.out.f1
  have r5 := HR2.out.f2
  clear HR HR1 Hb1 HR2 Hb2 h1 h2 h3 hb2 hsz
  go_wp2
  refine bodyPost_ret (v := .agg #[.bool n2, .slice A2 l2 c2, .slice B2 m2 d2]) (by simp [results, Try.results103, go_sem, r0, r1, r2]) rfl ⟨⟨_, _, _, _, _, _, _, rfl, HP.out.hz, HP.out.hq⟩, HbP.out⟩
end Go.Proofs.Ytfpliceenjbclaa
