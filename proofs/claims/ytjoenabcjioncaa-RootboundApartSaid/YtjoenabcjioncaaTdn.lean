/- rational.Make for numbers of all sizes; 2^-k. -/
import Derived.Test.YtjoenabcjioncaaRed
import Derived.Test.YtjoenabcjioncaaLin
import Derived.Test.YtjoenabcjioncaaBin
namespace Go.Proofs.Ytjoenabcjioncaa
open Go Go.RowKit

set_option maxRecDepth 100000 in
set_option maxHeartbeats 4000000 in
theorem make_all (n : Bool) (A : Option Addr) (l c : Nat) (z : Int) (n' : Bool) (A' : Option Addr) (l' c' : Nat) (q : Nat) (w : World) (hz : IntN w n A l c z) (hq : IntN w n' A' l' c' (q : Int)) (hsz : SmI z) (hsq : SmI (q : Int)) (h0 : 0 < q) :
    Calls Try.prog 40 #[.agg #[.bool n, .slice A l c], .agg #[.bool n', .slice A' l' c']] w fun e w' => RatOk (z.tdiv (Nat.gcd z.natAbs q)) (q / Nat.gcd z.natAbs q) e w' ∧ Below w.heap.size w w' := by
  have hbx : Below w.heap.size w (w.alloc (ibox n A l c)) := (Below.refl _ _).alloc (Nat.le_refl _) _
  have hby : Below (w.alloc (ibox n A l c)).heap.size (w.alloc (ibox n A l c)) ((w.alloc (ibox n A l c)).alloc (ibox n' A' l' c')) := (Below.refl _ _).alloc (Nat.le_refl _) _
  have hbz : Below ((w.alloc (ibox n A l c)).alloc (ibox n' A' l' c')).heap.size ((w.alloc (ibox n A l c)).alloc (ibox n' A' l' c')) (((w.alloc (ibox n A l c)).alloc (ibox n' A' l' c')).alloc (rbox false none 0 0 none 0 0)) := (Below.refl _ _).alloc (Nat.le_refl _) _
  have HN := Lib.hid (((IBox.make hz).move hby).move hbz)
  have hd := (IBox.make (hq.below hbx)).move hbz
  have hr := RBox.nil ((w.alloc (ibox n A l c)).alloc (ibox n' A' l' c'))
  simp only [World.size_alloc] at hd hr
  have HD := Lib.hid hd
  have HR := Lib.hid hr
  have hb0 := hbx.trans ((hby.trans (hbz.mono hby.size)).mono hbx.size)
  have Hb0 := Lib.hid hb0
  have e0 := HN.out.c0
  have e1 := HN.out.c1
  have e2 := HD.out.c0
  have e3 := HD.out.c1
  clear hz hq hbx hby hbz hd hr hb0
  go_enter Try.func40, Try.ntmps40
  go_wp2_with fail
  refine (isign_any _ _ _ _ _ _ HD.out.hz.at_ hsq).mono ?_
  rintro e w1 ⟨rfl, rfl⟩
  rw [show sg (q : Int) = 1 from sg_pos (by omega)]
  have hba : Below (((w.alloc (ibox n A l c)).alloc (ibox n' A' l' c')).alloc (rbox false none 0 0 none 0 0)).heap.size (((w.alloc (ibox n A l c)).alloc (ibox n' A' l' c')).alloc (rbox false none 0 0 none 0 0)) ((((w.alloc (ibox n A l c)).alloc (ibox n' A' l' c')).alloc (rbox false none 0 0 none 0 0)).alloc (ibox n' A' l' c')) := (Below.refl _ _).alloc (Nat.le_refl _) _
  have HN1 := Lib.hid (HN.out.move hba)
  have HD1 := Lib.hid (HD.out.move hba)
  have HR1 := Lib.hid (HR.out.move hba)
  have Hb1 := Lib.hid (Hb0.out.trans (hba.mono Hb0.out.size))
  clear e0 e1 e2 e3 HN HD HR Hb0 hba
  have e0 := HN1.out.c0
  have e1 := HN1.out.c1
  have e2 := HD1.out.c0
  have e3 := HD1.out.c1
  have ne4 : w.heap.size + 1 + 1 ≠ w.heap.size := by omega
  go_wp2_with fail
  go_region_held3 (fun w' => w'.cell? ⟨w.heap.size, 0, none⟩ = some (.bool n) ∧ w'.cell? ⟨w.heap.size, 1, none⟩ = some (.slice A l c) ∧ w'.cell? ⟨w.heap.size + 1, 0, none⟩ = some (.bool n') ∧ w'.cell? ⟨w.heap.size + 1, 1, none⟩ = some (.slice A' l' c')) (go_keep) (first
      | (go_at_call 38; go_must (refine (iabs_any _ _ _ _ _ _ ?_ hsq).mono ?_; (exact HD1.out.hz.at_.below (by (repeat (first | exact Below.refl _ _ | refine Below.drew ?_ | refine Below.alloc ?_ (by first | (simp; done) | (simp; omega) | omega) _ | refine Below.setCell ?_ (by first | (simp; done) | (simp; omega) | omega) _)))); rintro e w2 ⟨n2, A2, l2, c2, rfl, h2, hb2⟩; rw [Int.natAbs_natCast] at h2; have HN2 := Lib.hid (HN1.out.move (Below.trans (by (repeat (first | exact Below.refl _ _ | refine Below.drew ?_ | refine Below.alloc ?_ (by first | (simp; done) | (simp; omega) | omega) _ | refine Below.setCell ?_ (by first | (simp; done) | (simp; omega) | omega) _))) (hb2.mono (by simp <;> omega)))); have HD2 := Lib.hid (HD1.out.move (Below.trans (by (repeat (first | exact Below.refl _ _ | refine Below.drew ?_ | refine Below.alloc ?_ (by first | (simp; done) | (simp; omega) | omega) _ | refine Below.setCell ?_ (by first | (simp; done) | (simp; omega) | omega) _))) (hb2.mono (by simp <;> omega)))); have HR2 := Lib.hid (HR1.out.move (Below.trans (by (repeat (first | exact Below.refl _ _ | refine Below.drew ?_ | refine Below.alloc ?_ (by first | (simp; done) | (simp; omega) | omega) _ | refine Below.setCell ?_ (by first | (simp; done) | (simp; omega) | omega) _))) (hb2.mono (by simp <;> omega)))); have Hb2 := Lib.hid (Hb1.out.trans ((Below.trans (by (repeat (first | exact Below.refl _ _ | refine Below.drew ?_ | refine Below.alloc ?_ (by first | (simp; done) | (simp; omega) | omega) _ | refine Below.setCell ?_ (by first | (simp; done) | (simp; omega) | omega) _))) (hb2.mono (by simp <;> omega))).mono Hb1.out.size)); have x0 := HN2.out.c0; have x1 := HN2.out.c1; have x2 := HD2.out.c0; have x3 := HD2.out.c1))
      | (go_at_call 37; go_must (refine (reduce_all _ _ _ _ _ _ _ _ _ _ _ ?_ ?_ hsz hsq h0).mono ?_; (exact HN2.out.hz.below (by (repeat (first | exact Below.refl _ _ | refine Below.drew ?_ | refine Below.alloc ?_ (by first | (simp; done) | (simp; omega) | omega) _ | refine Below.setCell ?_ (by first | (simp; done) | (simp; omega) | omega) _)))); (exact h2.below (by (repeat (first | exact Below.refl _ _ | refine Below.drew ?_ | refine Below.alloc ?_ (by first | (simp; done) | (simp; omega) | omega) _ | refine Below.setCell ?_ (by first | (simp; done) | (simp; omega) | omega) _)))); rintro e w3 ⟨⟨n3, A3, l3, c3, B3, m3, d3, rfl, h3, h4⟩, hb3⟩; have HN3 := Lib.hid (HN2.out.move (Below.trans (by (repeat (first | exact Below.refl _ _ | refine Below.drew ?_ | refine Below.alloc ?_ (by first | (simp; done) | (simp; omega) | omega) _ | refine Below.setCell ?_ (by first | (simp; done) | (simp; omega) | omega) _))) (hb3.mono (by simp <;> omega)))); have HD3 := Lib.hid (HD2.out.move (Below.trans (by (repeat (first | exact Below.refl _ _ | refine Below.drew ?_ | refine Below.alloc ?_ (by first | (simp; done) | (simp; omega) | omega) _ | refine Below.setCell ?_ (by first | (simp; done) | (simp; omega) | omega) _))) (hb3.mono (by simp <;> omega)))); have HR3 := Lib.hid (HR2.out.move (Below.trans (by (repeat (first | exact Below.refl _ _ | refine Below.drew ?_ | refine Below.alloc ?_ (by first | (simp; done) | (simp; omega) | omega) _ | refine Below.setCell ?_ (by first | (simp; done) | (simp; omega) | omega) _))) (hb3.mono (by simp <;> omega)))); have Hb3 := Lib.hid (Hb2.out.trans ((Below.trans (by (repeat (first | exact Below.refl _ _ | refine Below.drew ?_ | refine Below.alloc ?_ (by first | (simp; done) | (simp; omega) | omega) _ | refine Below.setCell ?_ (by first | (simp; done) | (simp; omega) | omega) _))) (hb3.mono (by simp <;> omega))).mono Hb2.out.size)); have y0 := HN3.out.c0; have y1 := HN3.out.c1; have y2 := HD3.out.c0; have y3 := HD3.out.c1; have r0 := HR3.out.c0; have r1 := HR3.out.c1; have r2 := HR3.out.c2; have r3 := HR3.out.f0; have r4 := HR3.out.f1; have r5 := HR3.out.f2)))
  have HP := Lib.hid (HR3.out.put h3 h4)
  have HbP := Lib.hid (((Hb3.out.setCell (p := ⟨w.heap.size + 1 + 1, 0, none⟩) (by first | (simp; done) | (simp; omega) | omega) (.bool n3)).setCell (p := ⟨w.heap.size + 1 + 1, 1, none⟩) (by first | (simp; done) | (simp; omega) | omega) (.slice A3 l3 c3)).setCell (p := ⟨w.heap.size + 1 + 1, 2, none⟩) (by first | (simp; done) | (simp; omega) | omega) (.slice B3 m3 d3))
  clear HN1 HD1 HR1 Hb1 HN2 HD2 HR2 Hb2 HN3 HD3 HR3 Hb3 h2 h3 h4 hb2 hb3 e0 e1 e2 e3 x0 x1 x2 x3 y0 y1 y2 y3
  go_wp2
  refine bodyPost_ret (v := .tuple #[.agg #[.bool n3, .slice A3 l3 c3, .slice B3 m3 d3], .int .i64 0]) (by simp [results, Try.results40, go_sem, r0, r1, r2]) rfl ⟨⟨_, _, _, _, _, _, _, rfl, HP.out.hz, HP.out.hq⟩, HbP.out⟩


/-- every operation waits, where that binds, for elder ones alone -/
def backM (md : Region.Mode) (ops : Array Oper) : Bool := (List.range ops.size).all fun i => ((ops[i]?).map fun o => o.after.all fun e => !(Region.binds md e) || decide (e.on < i)).getD false
theorem ready_nil_md {ops : Array Oper} {md : Region.Mode} {listed : Array Bool} (hB : backM md ops = true) (hs : listed.size = ops.size) (hr : Region.ready md ops listed = []) : ∀ i, i < ops.size → listed.getD i false = true := by
  intro i
  induction i using Nat.strongRecOn with
  | _ i ih =>
    intro hlt
    have ho : ops[i]? = some ops[i] := Array.getElem?_eq_getElem hlt
    cases hl : listed.getD i true with
    | true =>
      have hlt2 : i < listed.size := by omega
      simp [hlt2] at hl ⊢
      exact hl
    | false =>
      exfalso
      have hm : i ∈ Region.ready md ops listed := mem_ready.2 ⟨hl, _, ho, fun e he hbd => by
        have h4 := List.all_eq_true.1 hB i (List.mem_range.2 hlt)
        rw [ho] at h4
        simp only [Option.map_some, Option.getD_some] at h4
        have := Array.all_eq_true'.1 h4 e he
        rw [hbd] at this
        simp only [Bool.not_true, Bool.false_or, decide_eq_true_eq] at this
        exact ih e.on this (by omega)⟩
      rw [hr] at hm
      cases hm

/-- an Int, as a value -/
def IntV (v : Value) (z : Int) (w : World) : Prop := ∃ n A l c, v = .agg #[.bool n, .slice A l c] ∧ IntN w n A l c z
theorem IntV.below {v : Value} {z : Int} {w w' : World} (h : IntV v z w) (hb : Below w.heap.size w w') : IntV v z w' := by
  obtain ⟨n, A, l, c, h1, h2⟩ := h
  exact ⟨n, A, l, c, h1, h2.below hb⟩
theorem one_gcd (k : Nat) : Nat.gcd (1 : Int).natAbs (2 ^ k) = 1 := Nat.gcd_one_left _

set_option maxRecDepth 100000 in
set_option maxHeartbeats 4000000 in
theorem two_down (k : Nat) (w : World) (hk : k ≤ 16777216) (hs : SmI (2 ^ k)) :
    Calls Try.prog 16 #[.int .i64 (k : Int), .bool true] w fun e w' => RatE 1 (2 ^ k) e w' ∧ Below w.heap.size w w' := by
  have hb : Below w.heap.size w (w.alloc (rbox false none 0 0 none 0 0)) := (Below.refl _ _).alloc (Nat.le_refl _) _
  have HR := Lib.hid (RBox.nil w)
  have Hb := Lib.hid hb
  have s1 : SmI 1 := SmI.of64 (by unfold I64; omega)
  clear hb
  go_enter Try.func16, Try.ntmps16
  go_wp2_with fail
  refine (iof_any 1 _ (by unfold I64; omega)).mono ?_
  rintro e w4 ⟨n4, A4, l4, c4, rfl, h4, hb4⟩
  have HR4 := Lib.hid (HR.out.move hb4)
  have Hb4 := Lib.hid (Hb.out.trans (hb4.mono Hb.out.size))
  clear HR Hb hb4
  go_wp2_with fail
  refine (ishl_any _ _ _ _ 1 k _ h4.at_ s1 hk).mono ?_
  rintro e w5 ⟨n5, A5, l5, c5, rfl, h5, hb5⟩
  rw [Int.one_mul] at h5
  have hbx : Below w5.heap.size w5 (w5.alloc (ibox n5 A5 l5 c5)) := (Below.refl _ _).alloc (Nat.le_refl _) _
  have HR5 := Lib.hid ((HR4.out.move hb5).move hbx)
  have hb6 := Hb4.out.trans ((hb5.trans (hbx.mono hb5.size)).mono Hb4.out.size)
  have Hb5 := Lib.hid hb6
  have HX := Lib.hid (IBox.make h5)
  obtain ⟨gp, hgp⟩ : ∃ gp, gp = w5.heap.size := ⟨_, rfl⟩
  obtain ⟨gr, hgr⟩ : ∃ gr, gr = w.heap.size := ⟨_, rfl⟩
  obtain ⟨wb, hwb⟩ : ∃ wb, wb = w5.alloc (ibox n5 A5 l5 c5) := ⟨_, rfl⟩
  go_wp2_with fail
  rw [← hwb] at HR5 Hb5 HX ⊢
  rw [← hgp] at HX ⊢
  rw [← hgr] at HR5 ⊢
  have Hgr := Lib.hid hgr
  clear HR4 Hb4 hb5 h4 h5 hbx hb6 hgp hwb hgr
  have x0 := HX.out.c0
  have x1 := HX.out.c1
  refine wp_region_held_drew (S := fun w' => w'.cell? ⟨gp, 0, none⟩ = some (.bool n5) ∧ w'.cell? ⟨gp, 1, none⟩ = some (.slice A5 l5 c5)) (by kernel_rfl) (by (try dsimp only); go_keep) (fun hHeld => ?_)
  (refine take_at (i := 1) (oi := _) (v := ?_) rfl rfl (by kernel_rfl) (by kernel_rfl) (by kernel_rfl) (fun _ _ _ h => h) (Or.inl ⟨by rfl, ?_⟩) (by assumption) ?_; rotate_left; (focus (intro w hSw; (try dsimp only at hSw); go_simp; (try with_reducible rfl))); (simp only [put_lit, List.set]))
  have HXd := Lib.hid (HX.out.move ((Below.refl wb.heap.size wb).drew))
  refine wpAnyH_inv (Inv := fun listed a w' => ∃ (c m s : Nat → Bool) (v u : Nat → Value) (X Y Z T R : Bool) (v13 v15 y12 z16 t17 s7 : Value), BI (fun _ => 1) (fun _ => 2 ^ k) wb.drew w' c m s v u ∧ (X = true → c 0 = false → IntV v13 1 w') ∧ (c 0 = true → v15 = .tuple #[v 0, .int .i64 0]) ∧ (Y = true → c 0 = true ∧ y12 = .tuple #[v 0, .int .i64 0]) ∧ (Z = true → c 0 = true ∧ z16 = v 0) ∧ (T = true → t17 = .int .i64 0) ∧ (R = true → s7 = .int .i64 0) ∧ listed = #[X, true, c 0, Y, Z, T, m 0, s 0, R] ∧ a = ⟨#[.int .i64 (k : Int), .bool true, undef, undef, .pointer (some ⟨gr, 0, none⟩), .pointer (some ⟨gp, 0, none⟩), u 0, s7, .agg #[.bool n4, .slice A4 l4 c4], .int .i64 (k : Int), .agg #[.bool n5, .slice A5 l5 c5], .bool true, y12, v13, .agg #[.bool n5, .slice A5 l5 c5], v15, z16, t17, undef, undef, undef], []⟩) ?_ ?_ ?_ 8 _ _ _ (by decide +kernel) ?_
  · rintro listed a w' ⟨c, m, s, v, u, X, Y, Z, T, R, v13, v15, y12, z16, t17, s7, hB, hX, hC, hY, hZ, hT, hR, rfl, rfl⟩
    have hT0 := HXd.out.move hB.b
    exact ⟨hT0.c0, hT0.c1⟩
  · rintro listed a w' i o ⟨c, m, s, v, u, X, Y, Z, T, R, v13, v15, y12, z16, t17, s7, hB, hX, hC, hY, hZ, hT, hR, rfl, rfl⟩ ho hl hdp K hK
    have hi : i < 9 := (Array.getElem?_eq_some_iff.1 ho).1
    have hi' : i = 0 ∨ i = 1 ∨ i = 2 ∨ i = 3 ∨ i = 4 ∨ i = 5 ∨ i = 6 ∨ i = 7 ∨ i = 8 := by omega
    rcases hi' with rfl | rfl | rfl | rfl | rfl | rfl | rfl | rfl | rfl
    · obtain rfl := Option.some.inj ho
      go_simp
      refine (iof_any 1 _ (by unfold I64; omega)).mono ?_
      rintro e w7 ⟨n7, A7, l7, c7, rfl, h7, hb⟩
      exact hK.out _ _ ⟨c, m, s, v, u, true, Y, Z, T, R, _, v15, y12, z16, t17, s7, hB.below hb, fun _ _ => ⟨_, _, _, _, rfl, h7⟩, hC, hY, hZ, hT, hR, rfl, rfl⟩
    · cases hl
    · obtain rfl := Option.some.inj ho
      have hx := hdp ⟨0, .data⟩ (Array.mem_of_getElem? (i := 0) rfl) (by decide +kernel)
      have hc0 : c 0 = false := hl
      obtain ⟨n7, A7, l7, c7, e7, h7⟩ := hX hx hc0
      simp only [e7]
      go_simp
      have hp7 := (HXd.out.move hB.b).hz
      have ep : (2 : Int) ^ k = ((2 ^ k : Nat) : Int) := by simp
      rw [ep] at hp7
      refine (make_all n7 A7 l7 c7 1 n5 A5 l5 c5 (2 ^ k) _ h7 hp7 s1 (by rw [← ep]; exact hs) (Nat.pow_pos (by omega))).mono ?_
      rintro e w8 ⟨⟨n8, A8, l8, c8, B8, m8, d8, rfl, h8, k8⟩, hb⟩
      rw [one_gcd] at h8 k8
      rw [show (1 : Int).tdiv ((1 : Nat) : Int) = 1 from rfl] at h8
      rw [Nat.div_one] at k8
      have hnc : ∀ {P : Prop}, c 0 = true → P := fun h => by rw [hc0] at h; cases h
      exact hK.out _ _ ⟨_, m, s, _, u, X, Y, Z, T, R, v13, _, y12, z16, t17, s7, hB.call hb 0 ⟨_, _, _, _, _, _, _, rfl, h8, k8⟩, fun _ h => (by cases h), fun _ => rfl, fun h => hnc (hY h).1, fun h => hnc (hZ h).1, hT, hR, rfl, by simp only [e7]; rfl⟩
    · obtain rfl := Option.some.inj ho
      have hc0 : c 0 = true := hdp ⟨2, .data⟩ (Array.mem_of_getElem? (i := 0) rfl) (by decide +kernel)
      go_simp
      exact hK.out _ _ ⟨c, m, s, v, u, X, true, Z, T, R, v13, v15, .tuple #[v 0, .int .i64 0], z16, t17, s7, hB, hX, hC, fun _ => ⟨hc0, rfl⟩, hZ, hT, hR, rfl, by simp only [hC hc0]⟩
    · obtain rfl := Option.some.inj ho
      have hy : Y = true := hdp ⟨3, .data⟩ (Array.mem_of_getElem? (i := 0) rfl) (by decide +kernel)
      obtain ⟨hc0, ey⟩ := hY hy
      simp only [ey]
      go_simp
      exact hK.out _ _ ⟨c, m, s, v, u, X, Y, true, T, R, v13, v15, y12, v 0, t17, s7, hB, hX, hC, hY, fun _ => ⟨hc0, rfl⟩, hT, hR, rfl, by simp only [ey, hC hc0]⟩
    · obtain rfl := Option.some.inj ho
      have hy : Y = true := hdp ⟨3, .data⟩ (Array.mem_of_getElem? (i := 0) rfl) (by decide +kernel)
      obtain ⟨hc0, ey⟩ := hY hy
      simp only [ey]
      go_simp
      exact hK.out _ _ ⟨c, m, s, v, u, X, Y, Z, true, R, v13, v15, y12, z16, .int .i64 0, s7, hB, hX, hC, hY, hZ, fun _ => rfl, hR, rfl, by simp only [ey, hC hc0]⟩
    · obtain rfl := Option.some.inj ho
      go_simp
      exact hK.out _ _ ⟨c, _, s, v, _, X, Y, Z, T, R, v13, v15, y12, z16, t17, s7, hB.alloc 0 hl, fun a b => (hX a b).below ((Below.refl _ _).alloc (Nat.le_refl _) _), hC, hY, hZ, hT, hR, rfl, rfl⟩
    · obtain rfl := Option.some.inj ho
      have hm := hdp ⟨6, .data⟩ (Array.mem_of_getElem? (i := 0) rfl) (by decide +kernel)
      have hz := hdp ⟨4, .data⟩ (Array.mem_of_getElem? (i := 1) rfl) (by decide +kernel)
      obtain ⟨hc0, ez⟩ := hZ hz
      obtain ⟨n8, A8, l8, c8, B8, m8, d8, e8, h8, k8⟩ := hB.r 0 hc0
      obtain ⟨g9, _, _, _, _, _, _, _, _, _, e9, hgk, hR9, _⟩ := hB.o 0 hm
      have hBs := hB.store 0 hm e9 h8 k8
      simp only [ez, e8, e9]
      have r0 := hR9.c0
      have r1 := hR9.c1
      have r2 := hR9.c2
      have r3 := hR9.f0
      have r4 := hR9.f1
      have r5 := hR9.f2
      go_simp
      exact hK.out _ _ ⟨c, m, _, v, u, X, Y, Z, T, R, v13, v15, y12, z16, t17, s7, hBs, fun _ h => (by rw [hc0] at h; cases h), hC, hY, hZ, hT, hR, rfl, by simp only [hC hc0, ez, e8, e9]⟩
    · obtain rfl := Option.some.inj ho
      have ht : T = true := hdp ⟨5, .data⟩ (Array.mem_of_getElem? (i := 0) rfl) (by decide +kernel)
      have et := hT ht
      simp only [et]
      go_simp
      exact hK.out _ _ ⟨c, m, s, v, u, X, Y, Z, T, true, v13, v15, y12, z16, t17, .int .i64 0, hB, hX, hC, hY, hZ, hT, fun _ => rfl, rfl, by simp only [et]⟩
  · rintro listed a wz ⟨c, m, s, v, u, X, Y, Z, T, R, v13, v15, y12, z16, t17, s7, hB, hX, hC, hY, hZ, hT, hR, rfl, rfl⟩ hr
    have hall := ready_nil_md (by kernel_rfl) rfl hr
    have m0 : m 0 = true := hall 6 (by simp)
    have s0 : s 0 = true := hall 7 (by simp)
    obtain ⟨b0, n0, B0, l6, c6, C0, m6, d6, z0, q0, e0, hgk, R0, f0⟩ := hB.o 0 m0
    obtain ⟨hz0, hq0⟩ := f0 s0
    replace hz0 : z0 = 1 := hz0
    replace hq0 : q0 = 2 ^ k := hq0
    have hb3 : Below wb.heap.size wb wz := (Below.trans (by (repeat (first | exact Below.refl _ _ | refine Below.drew ?_ | refine Below.alloc ?_ (by first | (simp; done) | (simp; omega) | omega) _ | refine Below.setCell ?_ (by first | (simp; done) | (simp; omega) | omega) _))) (hB.b.mono (by simp <;> omega)))
    simp only [e0]
    have hr6 := HR5.out.move hb3
    have hne : gr ≠ b0 := by
      have h1 := HR5.out.lt
      have h2 : wb.drew.heap.size = wb.heap.size := by simp
      omega
    rw [hz0, hq0] at R0
    have HP := Lib.hid (hr6.put R0.hz R0.hq)
    have Hb8 := Hb5.out.trans (hb3.mono Hb5.out.size)
    have r0 := hr6.c0
    have r1 := hr6.c1
    have r2 := hr6.c2
    have r3 := hr6.f0
    have r4 := hr6.f1
    have r5 := hr6.f2
    have t0 := R0.c0
    have t1 := R0.c1
    have t2 := R0.c2
    clear hall m0 s0 f0 e0 hB hr hHeld hX hC hY hZ hT hR x0 x1 hr6 R0
    go_wp2
    refine bodyPost_ret (v := .agg #[.bool n0, .slice B0 l6 c6, .slice C0 m6 d6]) (by simp [results, Try.results16, go_sem, r0, r1, r2]) rfl ⟨⟨_, _, _, _, _, _, _, rfl, HP.out.hz, HP.out.hq⟩, ?_⟩
    have hgw : w.heap.size ≤ gr := by rw [Hgr.out]; exact Nat.le_refl _
    exact ((Hb8.setCell (p := ⟨gr, 0, none⟩) hgw _).setCell (p := ⟨gr, 1, none⟩) hgw _).setCell (p := ⟨gr, 2, none⟩) hgw _
  · exact ⟨fun _ => false, fun _ => false, fun _ => false, fun _ => undef, fun _ => undef, false, false, false, false, false, undef, undef, undef, undef, undef, undef, ⟨Below.refl _ _, fun _ h => (by cases h), fun _ h => (by cases h), fun _ _ _ h => (by cases h), fun _ h => (by cases h)⟩, fun h => (by cases h), fun h => (by cases h), fun h => (by cases h), fun h => (by cases h), fun h => (by cases h), fun h => (by cases h), rfl, rfl⟩
end Go.Proofs.Ytjoenabcjioncaa
