/- The walks of the law's helpers line, root, two. -/
import Derived.Test.YtjoenabcjioncaaRbH
import Derived.Test.YtjoenabcjioncaaLow
import Derived.Test.YtjoenabcjioncaaIntE
namespace Go.Proofs.Ytjoenabcjioncaa
open Go.RowKit

/-- an int8 -/
def I8 (z : Int) : Prop := -128 ≤ z ∧ z ≤ 127
/-- the denominator of the law's line -/
def ld (d : Int) : Int := if d = 0 then 1 else d
/-- the law's line -/
def lin (p d : Int) : List Int := [-p, ld d]

theorem lin_at (p d : Int) (w : World) : I64At (w.alloc (.cells #[.int .i64 p, .int .i64 d] 2)) (some ⟨w.heap.size, 0, none⟩) 2 2 [p, d] := by
  refine ⟨rfl, by omega, .inr ⟨w.heap.size, 0, rfl, by simp, fun j hj => ?_⟩⟩
  match j, hj with
  | 0, _ => simp
  | 1, _ => simp

set_option maxHeartbeats 1000000 in
theorem line_any (p d : Int) (w : World) (hp : I8 p) (hd : I8 d) :
    Calls Try.prog 7 #[.agg #[.int .i8 p, .int .i8 d]] w fun e w' => ∃ A l c, e = .returned (.slice A l c) ∧ PolyN w' A l c (ptrim (lin p d)) ∧ Below w.heap.size w w' := by
  unfold I8 at hp hd
  have w1 : IntKind.i64.wrap p = p := by rw [IntKind.wrap_i64]; omega
  have w2 : IntKind.i64.wrap d = d := by rw [IntKind.wrap_i64]; omega
  have w3 : IntKind.i64.wrap (-p) = -p := by rw [IntKind.wrap_i64]; omega
  by_cases h0 : d = 0
  · subst h0
    have hb : Below w.heap.size w ((w.alloc (.cells #[.int .i8 p, .int .i8 0] 23)).alloc (.cells #[.int .i64 (-p), .int .i64 1] 2)) := below_two w _ _ (Nat.le_refl _)
    have Hb := Lib.hid hb
    have ha := lin_at (-p) 1 (w.alloc (.cells #[.int .i8 p, .int .i8 0] 23))
    simp only [World.size_alloc] at ha
    have Ha := Lib.hid ha
    clear ha
    clear hb
    go_enter Try.func7, Try.ntmps7
    go_wp2_with fail
    refine (pof_any _ _ _ [-p, 1] _ Ha.out (by intro c hc; unfold I64; simp at hc; omega) (by omega)).mono ?_
    rintro e w4 ⟨A, l, c, rfl, h4, hb4⟩
    have hb5 := Lib.hid (Hb.out.trans (hb4.mono Hb.out.size))
    have H4 := Lib.hid h4
    clear hb4 h4
    go_wp2
    go_ret
    exact ⟨_, _, _, rfl, H4.out, hb5.out⟩
  · have hb : Below w.heap.size w ((w.alloc (.cells #[.int .i8 p, .int .i8 d] 23)).alloc (.cells #[.int .i64 (-p), .int .i64 d] 2)) := below_two w _ _ (Nat.le_refl _)
    have Hb := Lib.hid hb
    have ha := lin_at (-p) d (w.alloc (.cells #[.int .i8 p, .int .i8 d] 23))
    simp only [World.size_alloc] at ha
    have Ha := Lib.hid ha
    clear ha
    have hd0 : (d == 0) = false := by rw [beq_eq_false_iff_ne]; exact h0
    have hl : lin p d = [-p, d] := by unfold lin ld; rw [if_neg h0]
    have Hl := Lib.hid hl
    clear hb hl
    go_enter Try.func7, Try.ntmps7
    go_wp2_with fail
    refine (pof_any _ _ _ [-p, d] _ Ha.out (by intro c hc; unfold I64; simp at hc; omega) (by omega)).mono ?_
    rintro e w4 ⟨A, l, c, rfl, h4, hb4⟩
    have hb5 := Lib.hid (Hb.out.trans (hb4.mono Hb.out.size))
    rw [← Hl.out] at h4
    have H4 := Lib.hid h4
    clear hb4 h4
    go_wp2
    go_ret
    exact ⟨_, _, _, rfl, H4.out, hb5.out⟩
set_option maxRecDepth 100000 in
set_option maxHeartbeats 4000000 in
theorem make_neg (n : Bool) (A : Option Addr) (l c : Nat) (z : Int) (n' : Bool) (A' : Option Addr) (l' c' : Nat) (q : Nat) (w : World) (hz : IntN w n A l c z) (hq : IntN w n' A' l' c' (-(q : Int))) (hu : U64 z.natAbs) (hv : q < BB) (h0 : 0 < q) :
    Calls Try.prog 40 #[.agg #[.bool n, .slice A l c], .agg #[.bool n', .slice A' l' c']] w fun e w' => RatOk ((-z).tdiv (Nat.gcd z.natAbs q)) (q / Nat.gcd z.natAbs q) e w' ∧ Below w.heap.size w w' := by
  have hbx : Below w.heap.size w (w.alloc (ibox n A l c)) := (Below.refl _ _).alloc (Nat.le_refl _) _
  have hby : Below (w.alloc (ibox n A l c)).heap.size (w.alloc (ibox n A l c)) ((w.alloc (ibox n A l c)).alloc (ibox n' A' l' c')) := (Below.refl _ _).alloc (Nat.le_refl _) _
  have hbz : Below ((w.alloc (ibox n A l c)).alloc (ibox n' A' l' c')).heap.size ((w.alloc (ibox n A l c)).alloc (ibox n' A' l' c')) (((w.alloc (ibox n A l c)).alloc (ibox n' A' l' c')).alloc (rbox false none 0 0 none 0 0)) := (Below.refl _ _).alloc (Nat.le_refl _) _
  have HN := Lib.hid (((IBox.make hz).move hby).move hbz)
  have hd := (IBox.make (hq.below hbx)).move hbz
  have hr := RBox.nil ((w.alloc (ibox n A l c)).alloc (ibox n' A' l' c'))
  simp only [World.size_alloc] at hd hr
  have HD := Lib.hid hd
  have HR := Lib.hid hr
  have hb0 := hbx.trans ((hby.trans (hbz.mono hby.size)).mono hbx.size)
  have Hb0 := Lib.hid hb0
  have hsq : SmI (-(q : Int)) := by unfold SmI; rw [Int.natAbs_neg, Int.natAbs_natCast]; exact sm_pow (k := 1) (by rw [Nat.pow_one]; exact hv) (by omega)
  have e0 := HN.out.c0
  have e1 := HN.out.c1
  have e2 := HD.out.c0
  have e3 := HD.out.c1
  clear hz hq hbx hby hbz hd hr hb0
  go_enter Try.func40, Try.ntmps40
  go_wp2_with fail
  refine (isign_any _ _ _ _ _ _ HD.out.hz.at_ hsq).mono ?_
  rintro e w1 ⟨rfl, rfl⟩
  rw [show sg (-(q : Int)) = -1 from sg_neg (by omega)]
  have hba : Below (((w.alloc (ibox n A l c)).alloc (ibox n' A' l' c')).alloc (rbox false none 0 0 none 0 0)).heap.size (((w.alloc (ibox n A l c)).alloc (ibox n' A' l' c')).alloc (rbox false none 0 0 none 0 0)) ((((w.alloc (ibox n A l c)).alloc (ibox n' A' l' c')).alloc (rbox false none 0 0 none 0 0)).alloc (ibox n' A' l' c')) := (Below.refl _ _).alloc (Nat.le_refl _) _
  have HN1 := Lib.hid (HN.out.move hba)
  have HD1 := Lib.hid (HD.out.move hba)
  have HR1 := Lib.hid (HR.out.move hba)
  have Hb1 := Lib.hid (Hb0.out.trans (hba.mono Hb0.out.size))
  clear e0 e1 e2 e3 HN HD HR Hb0 hba
  have e0 := HN1.out.c0
  have e1 := HN1.out.c1
  have e2 := HD1.out.c0
  have e3 := HD1.out.c1
  have ne4 : w.heap.size + 1 + 1 ≠ w.heap.size := by omega
  have hsz : SmI z := sm_u64 hu
  go_wp2_with fail
  refine (ineg_any _ _ _ _ _ _ HN1.out.hz.at_ hsz).mono ?_
  rintro e w4 ⟨n4, A4, l4, c4, rfl, h4, hb4⟩
  have hn4 := HN1.out.move hb4
  have hd4 := HD1.out.move hb4
  have hr4 := HR1.out.move hb4
  have Hb4 := Lib.hid (((Hb1.out.trans (hb4.mono Hb1.out.size)).setCell (p := ⟨w.heap.size, 0, none⟩) (Nat.le_refl _) (.bool n4)).setCell (p := ⟨w.heap.size, 1, none⟩) (Nat.le_refl _) (.slice A4 l4 c4))
  have HN4 := Lib.hid (hn4.put h4)
  have HD4 := Lib.hid (hd4.far hn4 (by omega) (.bool n4) (.slice A4 l4 c4))
  have HR4 := Lib.hid (hr4.farI hn4 (by omega) (.bool n4) (.slice A4 l4 c4))
  have g0 := hn4.c0
  have g1 := hn4.c1
  have g2 := hn4.f0
  have g3 := hn4.f1
  have hu4 : U64 (-z).natAbs := by rw [Int.natAbs_neg]; exact hu
  clear e0 e1 e2 e3 HN1 HD1 HR1 Hb1 hb4 h4 hn4 hd4 hr4
  have e0 := HN4.out.c0
  have e1 := HN4.out.c1
  have e2 := HD4.out.c0
  have e3 := HD4.out.c1
  go_wp2_with fail
  go_region_held3 (fun w' => w'.cell? ⟨w.heap.size, 0, none⟩ = some (.bool n4) ∧ w'.cell? ⟨w.heap.size, 1, none⟩ = some (.slice A4 l4 c4) ∧ w'.cell? ⟨w.heap.size + 1, 0, none⟩ = some (.bool n') ∧ w'.cell? ⟨w.heap.size + 1, 1, none⟩ = some (.slice A' l' c')) (go_keep) (first
      | (go_at_call 38; go_must (refine (iabs_any _ _ _ _ _ _ ?_ hsq).mono ?_; (exact HD4.out.hz.at_.below (by (repeat (first | exact Below.refl _ _ | refine Below.drew ?_ | refine Below.alloc ?_ (by first | (simp; done) | (simp; omega) | omega) _ | refine Below.setCell ?_ (by first | (simp; done) | (simp; omega) | omega) _)))); rintro e w2 ⟨n2, A2, l2, c2, rfl, h2, hb2⟩; rw [Int.natAbs_neg, Int.natAbs_natCast] at h2; have HN2 := Lib.hid (HN4.out.move (Below.trans (by (repeat (first | exact Below.refl _ _ | refine Below.drew ?_ | refine Below.alloc ?_ (by first | (simp; done) | (simp; omega) | omega) _ | refine Below.setCell ?_ (by first | (simp; done) | (simp; omega) | omega) _))) (hb2.mono (by simp <;> omega)))); have HD2 := Lib.hid (HD4.out.move (Below.trans (by (repeat (first | exact Below.refl _ _ | refine Below.drew ?_ | refine Below.alloc ?_ (by first | (simp; done) | (simp; omega) | omega) _ | refine Below.setCell ?_ (by first | (simp; done) | (simp; omega) | omega) _))) (hb2.mono (by simp <;> omega)))); have HR2 := Lib.hid (HR4.out.move (Below.trans (by (repeat (first | exact Below.refl _ _ | refine Below.drew ?_ | refine Below.alloc ?_ (by first | (simp; done) | (simp; omega) | omega) _ | refine Below.setCell ?_ (by first | (simp; done) | (simp; omega) | omega) _))) (hb2.mono (by simp <;> omega)))); have Hb2 := Lib.hid (Hb4.out.trans ((Below.trans (by (repeat (first | exact Below.refl _ _ | refine Below.drew ?_ | refine Below.alloc ?_ (by first | (simp; done) | (simp; omega) | omega) _ | refine Below.setCell ?_ (by first | (simp; done) | (simp; omega) | omega) _))) (hb2.mono (by simp <;> omega))).mono Hb4.out.size)); have x0 := HN2.out.c0; have x1 := HN2.out.c1; have x2 := HD2.out.c0; have x3 := HD2.out.c1))
      | (go_at_call 37; go_must (refine (reduce_any _ _ _ _ _ _ _ _ _ _ _ ?_ ?_ hu4 hv h0).mono ?_; (exact HN2.out.hz.below (by (repeat (first | exact Below.refl _ _ | refine Below.drew ?_ | refine Below.alloc ?_ (by first | (simp; done) | (simp; omega) | omega) _ | refine Below.setCell ?_ (by first | (simp; done) | (simp; omega) | omega) _)))); (exact h2.below (by (repeat (first | exact Below.refl _ _ | refine Below.drew ?_ | refine Below.alloc ?_ (by first | (simp; done) | (simp; omega) | omega) _ | refine Below.setCell ?_ (by first | (simp; done) | (simp; omega) | omega) _)))); rw [Int.natAbs_neg]; rintro e w3 ⟨⟨n3, A3, l3, c3, B3, m3, d3, rfl, h3, h4⟩, hb3⟩; have HN3 := Lib.hid (HN2.out.move (Below.trans (by (repeat (first | exact Below.refl _ _ | refine Below.drew ?_ | refine Below.alloc ?_ (by first | (simp; done) | (simp; omega) | omega) _ | refine Below.setCell ?_ (by first | (simp; done) | (simp; omega) | omega) _))) (hb3.mono (by simp <;> omega)))); have HD3 := Lib.hid (HD2.out.move (Below.trans (by (repeat (first | exact Below.refl _ _ | refine Below.drew ?_ | refine Below.alloc ?_ (by first | (simp; done) | (simp; omega) | omega) _ | refine Below.setCell ?_ (by first | (simp; done) | (simp; omega) | omega) _))) (hb3.mono (by simp <;> omega)))); have HR3 := Lib.hid (HR2.out.move (Below.trans (by (repeat (first | exact Below.refl _ _ | refine Below.drew ?_ | refine Below.alloc ?_ (by first | (simp; done) | (simp; omega) | omega) _ | refine Below.setCell ?_ (by first | (simp; done) | (simp; omega) | omega) _))) (hb3.mono (by simp <;> omega)))); have Hb3 := Lib.hid (Hb2.out.trans ((Below.trans (by (repeat (first | exact Below.refl _ _ | refine Below.drew ?_ | refine Below.alloc ?_ (by first | (simp; done) | (simp; omega) | omega) _ | refine Below.setCell ?_ (by first | (simp; done) | (simp; omega) | omega) _))) (hb3.mono (by simp <;> omega))).mono Hb2.out.size)); have y0 := HN3.out.c0; have y1 := HN3.out.c1; have y2 := HD3.out.c0; have y3 := HD3.out.c1; have r0 := HR3.out.c0; have r1 := HR3.out.c1; have r2 := HR3.out.c2; have r3 := HR3.out.f0; have r4 := HR3.out.f1; have r5 := HR3.out.f2)))
  have HP := Lib.hid (HR3.out.put h3 h4)
  have HbP := Lib.hid (((Hb3.out.setCell (p := ⟨w.heap.size + 1 + 1, 0, none⟩) (by first | (simp; done) | (simp; omega) | omega) (.bool n3)).setCell (p := ⟨w.heap.size + 1 + 1, 1, none⟩) (by first | (simp; done) | (simp; omega) | omega) (.slice A3 l3 c3)).setCell (p := ⟨w.heap.size + 1 + 1, 2, none⟩) (by first | (simp; done) | (simp; omega) | omega) (.slice B3 m3 d3))
  clear HN4 HD4 HR4 Hb4 HN2 HD2 HR2 Hb2 HN3 HD3 HR3 Hb3 h2 h3 h4 hb2 hb3 e0 e1 e2 e3 x0 x1 x2 x3 y0 y1 y2 y3
  go_wp2
  refine bodyPost_ret (v := .tuple #[.agg #[.bool n3, .slice A3 l3 c3, .slice B3 m3 d3], .int .i64 0]) (by simp [results, Try.results40, go_sem, r0, r1, r2]) rfl ⟨⟨_, _, _, _, _, _, _, rfl, HP.out.hz, HP.out.hq⟩, HbP.out⟩

theorem make_any (n : Bool) (A : Option Addr) (l c : Nat) (z : Int) (n' : Bool) (A' : Option Addr) (l' c' : Nat) (q : Int) (w : World) (hz : IntN w n A l c z) (hq : IntN w n' A' l' c' q) (hu : U64 z.natAbs) (hv : q.natAbs < BB) (h0 : q ≠ 0) :
    Calls Try.prog 40 #[.agg #[.bool n, .slice A l c], .agg #[.bool n', .slice A' l' c']] w fun e w' => RatOk ((sg q * z).tdiv (Nat.gcd z.natAbs q.natAbs)) (q.natAbs / Nat.gcd z.natAbs q.natAbs) e w' ∧ Below w.heap.size w w' := by
  rcases Int.lt_or_le q 0 with h | h
  · rw [sg_neg h, show (-1 : Int) * z = -z by omega]
    exact make_neg n A l c z n' A' l' c' q.natAbs w hz (by rw [show -(q.natAbs : Int) = q by omega]; exact hq) hu hv (by omega)
  · rw [sg_pos (by omega), Int.one_mul]
    exact make_pos n A l c z n' A' l' c' q.natAbs w hz (by rw [show (q.natAbs : Int) = q by omega]; exact hq) hu hv (by omega)

/-- the law's root in lowest terms -/
def rtn (p d : Int) : Int := (sg (ld d) * p).tdiv (Nat.gcd p.natAbs (ld d).natAbs)
def rtd (p d : Int) : Nat := (ld d).natAbs / Nat.gcd p.natAbs (ld d).natAbs

set_option maxRecDepth 100000 in
set_option maxHeartbeats 4000000 in
theorem root_any (p d : Int) (w : World) (hp : I8 p) (hd : I8 d) :
    Calls Try.prog 12 #[.agg #[.int .i8 p, .int .i8 d]] w fun e w' => RatE (rtn p d) (rtd p d) e w' ∧ Below w.heap.size w w' := by
  unfold I8 at hp hd
  have w1 : IntKind.i64.wrap p = p := by rw [IntKind.wrap_i64]; omega
  have w2 : IntKind.i64.wrap d = d := by rw [IntKind.wrap_i64]; omega
  have hu : U64 p.natAbs := u64_abs (by unfold I64; omega)
  unfold rtn rtd
  by_cases h0 : d = 0
  · subst h0
    have hv : (1 : Int).natAbs < BB := by rw [BB_eq]; omega
    rw [show ld 0 = 1 from rfl]
    have hb : Below w.heap.size w ((w.alloc (.cells #[.int .i8 p, .int .i8 0] 23)).alloc (rbox false none 0 0 none 0 0)) := below_two w _ _ (Nat.le_refl _)
    have hr := RBox.nil (w.alloc (.cells #[.int .i8 p, .int .i8 0] 23))
    simp only [World.size_alloc] at hr
    have HR := Lib.hid hr
    have Hb := Lib.hid hb
    clear hb hr
    go_enter Try.func12, Try.ntmps12
    go_wp2_with fail
    refine (iof_any p _ (by unfold I64; omega)).mono ?_
    rintro e w4 ⟨n4, A4, l4, c4, rfl, h4, hb4⟩
    have HR4 := Lib.hid (HR.out.move hb4)
    have Hb4 := Lib.hid (Hb.out.trans (hb4.mono Hb.out.size))
    have H4 := Lib.hid h4
    clear HR Hb hb4 h4
    go_wp2_with fail
    refine (iof_any 1 _ (by unfold I64; omega)).mono ?_
    rintro e w5 ⟨n5, A5, l5, c5, rfl, h5, hb5⟩
    have HR5 := Lib.hid (HR4.out.move hb5)
    have Hb5 := Lib.hid (Hb4.out.trans (hb5.mono Hb4.out.size))
    have h45 := H4.out.below hb5
    clear HR4 Hb4 H4 hb5
    go_wp2_with fail
    refine (make_any _ _ _ _ _ _ _ _ _ _ _ h45 h5 hu hv (by omega)).mono ?_
    rintro e w6 ⟨⟨n6, A6, l6, c6, B6, m6, d6, rfl, h6, h7⟩, hb6⟩
    have hbx : Below w6.heap.size w6 (w6.alloc (rbox n6 A6 l6 c6 B6 m6 d6)) := (Below.refl _ _).alloc (Nat.le_refl _) _
    have hr6 := (HR5.out.move hb6).move hbx
    have hb7 := Hb5.out.trans ((hb6.trans (hbx.mono hb6.size)).mono Hb5.out.size)
    have HP := Lib.hid (hr6.put (h6.below hbx) (h7.below hbx))
    have Hb8 := Lib.hid (((hb7.setCell (p := ⟨w.heap.size + 1, 0, none⟩) (by first | (simp; done) | (simp; omega) | omega) (.bool n6)).setCell (p := ⟨w.heap.size + 1, 1, none⟩) (by first | (simp; done) | (simp; omega) | omega) (.slice A6 l6 c6)).setCell (p := ⟨w.heap.size + 1, 2, none⟩) (by first | (simp; done) | (simp; omega) | omega) (.slice B6 m6 d6))
    have r0 := hr6.c0
    have r1 := hr6.c1
    have r2 := hr6.c2
    have r3 := hr6.f0
    have r4 := hr6.f1
    have r5 := hr6.f2
    clear HR5 Hb5 h45 h5 hb6 hbx hr6 hb7 h6 h7
    go_wp2
    refine bodyPost_ret (v := .agg #[.bool n6, .slice A6 l6 c6, .slice B6 m6 d6]) (by simp [results, Try.results12, go_sem, r0, r1, r2]) rfl ⟨⟨_, _, _, _, _, _, _, rfl, HP.out.hz, HP.out.hq⟩, Hb8.out⟩
  · have hl : ld d = d := by unfold ld; rw [if_neg h0]
    rw [hl]
    have hv : d.natAbs < BB := by rw [BB_eq]; omega
    have hd0 : (d == 0) = false := by rw [beq_eq_false_iff_ne]; exact h0
    have hb : Below w.heap.size w ((w.alloc (.cells #[.int .i8 p, .int .i8 d] 23)).alloc (rbox false none 0 0 none 0 0)) := below_two w _ _ (Nat.le_refl _)
    have hr := RBox.nil (w.alloc (.cells #[.int .i8 p, .int .i8 d] 23))
    simp only [World.size_alloc] at hr
    have HR := Lib.hid hr
    have Hb := Lib.hid hb
    clear hb hr hl
    go_enter Try.func12, Try.ntmps12
    go_wp2_with fail
    refine (iof_any p _ (by unfold I64; omega)).mono ?_
    rintro e w4 ⟨n4, A4, l4, c4, rfl, h4, hb4⟩
    have HR4 := Lib.hid (HR.out.move hb4)
    have Hb4 := Lib.hid (Hb.out.trans (hb4.mono Hb.out.size))
    have H4 := Lib.hid h4
    clear HR Hb hb4 h4
    go_wp2_with fail
    refine (iof_any d _ (by unfold I64; omega)).mono ?_
    rintro e w5 ⟨n5, A5, l5, c5, rfl, h5, hb5⟩
    have HR5 := Lib.hid (HR4.out.move hb5)
    have Hb5 := Lib.hid (Hb4.out.trans (hb5.mono Hb4.out.size))
    have h45 := H4.out.below hb5
    clear HR4 Hb4 H4 hb5
    go_wp2_with fail
    refine (make_any _ _ _ _ _ _ _ _ _ _ _ h45 h5 hu hv (by omega)).mono ?_
    rintro e w6 ⟨⟨n6, A6, l6, c6, B6, m6, d6, rfl, h6, h7⟩, hb6⟩
    have hbx : Below w6.heap.size w6 (w6.alloc (rbox n6 A6 l6 c6 B6 m6 d6)) := (Below.refl _ _).alloc (Nat.le_refl _) _
    have hr6 := (HR5.out.move hb6).move hbx
    have hb7 := Hb5.out.trans ((hb6.trans (hbx.mono hb6.size)).mono Hb5.out.size)
    have HP := Lib.hid (hr6.put (h6.below hbx) (h7.below hbx))
    have Hb8 := Lib.hid (((hb7.setCell (p := ⟨w.heap.size + 1, 0, none⟩) (by first | (simp; done) | (simp; omega) | omega) (.bool n6)).setCell (p := ⟨w.heap.size + 1, 1, none⟩) (by first | (simp; done) | (simp; omega) | omega) (.slice A6 l6 c6)).setCell (p := ⟨w.heap.size + 1, 2, none⟩) (by first | (simp; done) | (simp; omega) | omega) (.slice B6 m6 d6))
    have r0 := hr6.c0
    have r1 := hr6.c1
    have r2 := hr6.c2
    have r3 := hr6.f0
    have r4 := hr6.f1
    have r5 := hr6.f2
    clear HR5 Hb5 h45 h5 hb6 hbx hr6 hb7 h6 h7
    go_wp2
    refine bodyPost_ret (v := .agg #[.bool n6, .slice A6 l6 c6, .slice B6 m6 d6]) (by simp [results, Try.results12, go_sem, r0, r1, r2]) rfl ⟨⟨_, _, _, _, _, _, _, rfl, HP.out.hz, HP.out.hq⟩, Hb8.out⟩

set_option maxRecDepth 100000 in
set_option maxHeartbeats 4000000 in
theorem two_any (k : Nat) (w : World) (hk : k ≤ 16777216) (hs : SmI (2 ^ k)) :
    Calls Try.prog 16 #[.int .i64 (k : Int), .bool false] w fun e w' => RatE (2 ^ k) 1 e w' ∧ Below w.heap.size w w' := by
  have hb : Below w.heap.size w (w.alloc (rbox false none 0 0 none 0 0)) := (Below.refl _ _).alloc (Nat.le_refl _) _
  have HR := Lib.hid (RBox.nil w)
  have Hb := Lib.hid hb
  have s1 : SmI 1 := SmI.of64 (by unfold I64; omega)
  clear hb
  go_enter Try.func16, Try.ntmps16
  go_wp2_with fail
  refine (iof_any 1 _ (by unfold I64; omega)).mono ?_
  rintro e w4 ⟨n4, A4, l4, c4, rfl, h4, hb4⟩
  have HR4 := Lib.hid (HR.out.move hb4)
  have Hb4 := Lib.hid (Hb.out.trans (hb4.mono Hb.out.size))
  clear HR Hb hb4
  go_wp2_with fail
  refine (ishl_any _ _ _ _ 1 k _ h4.at_ s1 hk).mono ?_
  rintro e w5 ⟨n5, A5, l5, c5, rfl, h5, hb5⟩
  rw [Int.one_mul] at h5
  have hbx : Below w5.heap.size w5 (w5.alloc (ibox n5 A5 l5 c5)) := (Below.refl _ _).alloc (Nat.le_refl _) _
  have HR5 := Lib.hid ((HR4.out.move hb5).move hbx)
  have hb6 := Hb4.out.trans ((hb5.trans (hbx.mono hb5.size)).mono Hb4.out.size)
  have Hb5 := Lib.hid hb6
  have HX := Lib.hid (IBox.make h5)
  clear HR4 Hb4 hb5 h4 h5 hbx hb6
  have x0 := HX.out.c0
  have x1 := HX.out.c1
  go_wp2_with fail
  refine (rfrom_any _ _ _ _ _ _ HX.out.hz.at_ hs).mono ?_
  rintro e w7 ⟨⟨n6, A6, l6, c6, B6, m6, d6, rfl, h6, h7⟩, hb7⟩
  have hr6 := HR5.out.move hb7
  have hb8 := Hb5.out.trans (hb7.mono Hb5.out.size)
  have HP := Lib.hid (hr6.put h6 h7)
  have Hb8 := Lib.hid (((hb8.setCell (p := ⟨w.heap.size, 0, none⟩) (Nat.le_refl _) (.bool n6)).setCell (p := ⟨w.heap.size, 1, none⟩) (Nat.le_refl _) (.slice A6 l6 c6)).setCell (p := ⟨w.heap.size, 2, none⟩) (Nat.le_refl _) (.slice B6 m6 d6))
  have r0 := hr6.c0
  have r1 := hr6.c1
  have r2 := hr6.c2
  have r3 := hr6.f0
  have r4 := hr6.f1
  have r5 := hr6.f2
  clear x0 x1 HX HR5 Hb5 hb7 hr6 hb8 h6 h7
  go_wp2
  refine bodyPost_ret (v := .agg #[.bool n6, .slice A6 l6 c6, .slice B6 m6 d6]) (by simp [results, Try.results16, go_sem, r0, r1, r2]) rfl ⟨⟨_, _, _, _, _, _, _, rfl, HP.out.hz, HP.out.hq⟩, Hb8.out⟩

set_option maxRecDepth 100000 in
set_option maxHeartbeats 4000000 in
theorem ratabs_any (n : Bool) (A : Option Addr) (l c : Nat) (B : Option Addr) (m d q : Nat) (z : Int) (w : World) (hz : IntN w n A l c z) (hq : NatN w B m d q) (hu : U64 z.natAbs) (hv : q < BB) (h0 : 0 < q) :
    Calls Try.prog 10 #[.agg #[.bool n, .slice A l c, .slice B m d]] w fun e w' => RatE ((z.natAbs : Int).tdiv (Nat.gcd z.natAbs q)) (q / Nat.gcd z.natAbs q) e w' ∧ Below w.heap.size w w' := by
  have hbx : Below w.heap.size w (w.alloc (rbox n A l c B m d)) := (Below.refl _ _).alloc (Nat.le_refl _) _
  have hby : Below (w.alloc (rbox n A l c B m d)).heap.size (w.alloc (rbox n A l c B m d)) ((w.alloc (rbox n A l c B m d)).alloc (rbox false none 0 0 none 0 0)) := (Below.refl _ _).alloc (Nat.le_refl _) _
  have hb0 := hbx.trans (hby.mono hbx.size)
  have hz1 := hz.below hb0
  have hq1 := hq.below hb0
  have hr := RBox.nil (w.alloc (rbox n A l c B m d))
  simp only [World.size_alloc] at hr
  have HR := Lib.hid hr
  have Hb0 := Lib.hid hb0
  have hsq : Sm q := sm_pow (k := 1) (by rw [Nat.pow_one]; exact hv) (by omega)
  have hsz : SmI z := sm_u64 hu
  have hua : U64 (z.natAbs : Int).natAbs := by rw [Int.natAbs_natCast]; exact hu
  clear hz hq hbx hby hb0 hr
  go_enter Try.func10, Try.ntmps10
  go_wp2_with fail
  refine (parts_any _ _ _ _ _ _ _ _ _ hq1.at_ hsq (by omega)).mono ?_
  rintro e w1 ⟨rfl, hb1⟩
  have hbi : Below w1.heap.size w1 (w1.alloc (ibox n A l c)) := (Below.refl _ _).alloc (Nat.le_refl _) _
  have hbj : Below (w1.alloc (ibox n A l c)).heap.size (w1.alloc (ibox n A l c)) ((w1.alloc (ibox n A l c)).alloc (ibox false B m d)) := (Below.refl _ _).alloc (Nat.le_refl _) _
  have hN1 := (IBox.make (hz1.below hb1)).move hbj
  have hD1 := IBox.make (W := w1.alloc (ibox n A l c)) (n := false) (A := B) (l := m) (c := d) (z := (q : Int)) ⟨by rw [Int.natAbs_natCast]; exact (hq1.below hb1).below hbi, by simp⟩
  simp only [World.size_alloc] at hD1
  have hR1 := ((HR.out.move hb1).move hbi).move hbj
  have hbk := Hb0.out.trans ((hb1.trans ((hbi.trans (hbj.mono hbi.size)).mono hb1.size)).mono Hb0.out.size)
  have HN1 := Lib.hid hN1
  have HD1 := Lib.hid hD1
  have HR1 := Lib.hid hR1
  have Hb1 := Lib.hid hbk
  have hsa := (HR.out.move hb1).lt
  have ne1 : w1.heap.size ≠ w.heap.size + 1 := by omega
  have ne2 : w.heap.size + 1 ≠ w1.heap.size := by omega
  have ne3 : w1.heap.size ≠ w.heap.size := by omega
  have ne4 : w.heap.size ≠ w1.heap.size := by omega
  clear hz1 hq1 hb1 hbi hbj hN1 hD1 hR1 hbk HR Hb0
  have e0 := HN1.out.c0
  have e1 := HN1.out.c1
  have e2 := HD1.out.c0
  have e3 := HD1.out.c1
  go_wp2_with fail
  go_region_held3 (fun w' => w'.cell? ⟨w1.heap.size, 0, none⟩ = some (.bool n) ∧ w'.cell? ⟨w1.heap.size, 1, none⟩ = some (.slice A l c) ∧ w'.cell? ⟨w1.heap.size + 1, 0, none⟩ = some (.bool false) ∧ w'.cell? ⟨w1.heap.size + 1, 1, none⟩ = some (.slice B m d)) (go_keep) (first
      | (go_at_call 38; go_must (refine (iabs_any _ _ _ _ _ _ ?_ hsz).mono ?_; (exact HN1.out.hz.at_.below (by (repeat (first | exact Below.refl _ _ | refine Below.drew ?_ | refine Below.alloc ?_ (by first | (simp; done) | (simp; omega) | omega) _ | refine Below.setCell ?_ (by first | (simp; done) | (simp; omega) | omega) _)))); rintro e w2 ⟨n2, A2, l2, c2, rfl, h2, hb2⟩; have HN2 := Lib.hid (HN1.out.move (Below.trans (by (repeat (first | exact Below.refl _ _ | refine Below.drew ?_ | refine Below.alloc ?_ (by first | (simp; done) | (simp; omega) | omega) _ | refine Below.setCell ?_ (by first | (simp; done) | (simp; omega) | omega) _))) (hb2.mono (by simp <;> omega)))); have HD2 := Lib.hid (HD1.out.move (Below.trans (by (repeat (first | exact Below.refl _ _ | refine Below.drew ?_ | refine Below.alloc ?_ (by first | (simp; done) | (simp; omega) | omega) _ | refine Below.setCell ?_ (by first | (simp; done) | (simp; omega) | omega) _))) (hb2.mono (by simp <;> omega)))); have HR2 := Lib.hid (HR1.out.move (Below.trans (by (repeat (first | exact Below.refl _ _ | refine Below.drew ?_ | refine Below.alloc ?_ (by first | (simp; done) | (simp; omega) | omega) _ | refine Below.setCell ?_ (by first | (simp; done) | (simp; omega) | omega) _))) (hb2.mono (by simp <;> omega)))); have Hb2 := Lib.hid (Hb1.out.trans ((Below.trans (by (repeat (first | exact Below.refl _ _ | refine Below.drew ?_ | refine Below.alloc ?_ (by first | (simp; done) | (simp; omega) | omega) _ | refine Below.setCell ?_ (by first | (simp; done) | (simp; omega) | omega) _))) (hb2.mono (by simp <;> omega))).mono Hb1.out.size)); have x0 := HN2.out.c0; have x1 := HN2.out.c1; have x2 := HD2.out.c0; have x3 := HD2.out.c1))
      | (go_at_call 37; go_must (refine (reduce_any _ _ _ _ _ _ _ _ _ _ _ ?_ ?_ hua hv h0).mono ?_; (exact h2.below (by (repeat (first | exact Below.refl _ _ | refine Below.drew ?_ | refine Below.alloc ?_ (by first | (simp; done) | (simp; omega) | omega) _ | refine Below.setCell ?_ (by first | (simp; done) | (simp; omega) | omega) _)))); (exact HD2.out.hz.below (by (repeat (first | exact Below.refl _ _ | refine Below.drew ?_ | refine Below.alloc ?_ (by first | (simp; done) | (simp; omega) | omega) _ | refine Below.setCell ?_ (by first | (simp; done) | (simp; omega) | omega) _)))); rw [Int.natAbs_natCast]; rintro e w3 ⟨⟨n3, A3, l3, c3, B3, m3, d3, rfl, h3, h4⟩, hb3⟩; have HN3 := Lib.hid (HN2.out.move (Below.trans (by (repeat (first | exact Below.refl _ _ | refine Below.drew ?_ | refine Below.alloc ?_ (by first | (simp; done) | (simp; omega) | omega) _ | refine Below.setCell ?_ (by first | (simp; done) | (simp; omega) | omega) _))) (hb3.mono (by simp <;> omega)))); have HD3 := Lib.hid (HD2.out.move (Below.trans (by (repeat (first | exact Below.refl _ _ | refine Below.drew ?_ | refine Below.alloc ?_ (by first | (simp; done) | (simp; omega) | omega) _ | refine Below.setCell ?_ (by first | (simp; done) | (simp; omega) | omega) _))) (hb3.mono (by simp <;> omega)))); have HR3 := Lib.hid (HR2.out.move (Below.trans (by (repeat (first | exact Below.refl _ _ | refine Below.drew ?_ | refine Below.alloc ?_ (by first | (simp; done) | (simp; omega) | omega) _ | refine Below.setCell ?_ (by first | (simp; done) | (simp; omega) | omega) _))) (hb3.mono (by simp <;> omega)))); have Hb3 := Lib.hid (Hb2.out.trans ((Below.trans (by (repeat (first | exact Below.refl _ _ | refine Below.drew ?_ | refine Below.alloc ?_ (by first | (simp; done) | (simp; omega) | omega) _ | refine Below.setCell ?_ (by first | (simp; done) | (simp; omega) | omega) _))) (hb3.mono (by simp <;> omega))).mono Hb2.out.size)); have y0 := HN3.out.c0; have y1 := HN3.out.c1; have y2 := HD3.out.c0; have y3 := HD3.out.c1; have r0 := HR3.out.c0; have r1 := HR3.out.c1; have r2 := HR3.out.c2; have r3 := HR3.out.f0; have r4 := HR3.out.f1; have r5 := HR3.out.f2)))
  have HP := Lib.hid (HR3.out.put h3 h4)
  have HbP := Lib.hid (((Hb3.out.setCell (p := ⟨w.heap.size + 1, 0, none⟩) (by first | (simp; done) | (simp; omega) | omega) (.bool n3)).setCell (p := ⟨w.heap.size + 1, 1, none⟩) (by first | (simp; done) | (simp; omega) | omega) (.slice A3 l3 c3)).setCell (p := ⟨w.heap.size + 1, 2, none⟩) (by first | (simp; done) | (simp; omega) | omega) (.slice B3 m3 d3))
  clear HN1 HD1 HR1 Hb1 HN2 HD2 HR2 Hb2 HN3 HD3 HR3 Hb3 h2 h3 h4 hb2 hb3 e0 e1 e2 e3 x0 x1 x2 x3 y0 y1 y2 y3
  go_wp2
  refine bodyPost_ret (v := .agg #[.bool n3, .slice A3 l3 c3, .slice B3 m3 d3]) (by simp [results, Try.results10, go_sem, r0, r1, r2]) rfl ⟨⟨_, _, _, _, _, _, _, rfl, HP.out.hz, HP.out.hq⟩, HbP.out⟩
end Go.Proofs.Ytjoenabcjioncaa
