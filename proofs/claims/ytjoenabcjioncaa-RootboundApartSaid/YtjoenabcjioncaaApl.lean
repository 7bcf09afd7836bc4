/- The law RootboundApart: its walk. -/
import Derived.Test.YtjoenabcjioncaaPrw
import Derived.Test.YtjoenabcjioncaaApr
import Derived.Test.YtjoenabcjioncaaRsb
import Derived.Test.YtjoenabcjioncaaTdn
namespace Go.Proofs.Ytjoenabcjioncaa
open Go Go.RowKit

/-- A box of a pair of int8s. -/
structure Pai (W : World) (g : Nat) (x0 x1 : Int) : Prop where
  c0 : W.cell? ⟨g, 0, none⟩ = some (.int .i8 x0)
  c1 : W.cell? ⟨g, 1, none⟩ = some (.int .i8 x1)
theorem Pai.move {W W' : World} {g : Nat} {x0 x1 : Int} (h : Pai W g x0 x1) (hb : Below W.heap.size W W') : Pai W' g x0 x1 := by
  obtain ⟨hc, _⟩ := bcellS hb
  exact ⟨(hc _ (by rw [h.c0]; rfl)).trans h.c0, (hc _ (by rw [h.c1]; rfl)).trans h.c1⟩
theorem Pai.make (W : World) (x0 x1 : Int) (t : TypeId) : Pai (W.alloc (.cells #[.int .i8 x0, .int .i8 x1] t)) W.heap.size x0 x1 := ⟨by go_simp, by go_simp⟩

theorem two_sm {s : Nat} (h : s ≤ 1000) : SmI (2 ^ s) := by
  have h1 := (fit_two h).sm
  have e : ((2 ^ s : Nat) : Int) = 2 ^ s := by simp
  rw [e] at h1
  exact h1
set_option maxRecDepth 100000 in
set_option maxHeartbeats 8000000 in
theorem law_apart (p d p' d' : Int) (A : Option Addr) (len cap : Nat) (cs : List Int) (w : World) (h : I16At w A len cap cs) (hlm : len ≤ 9223372036854775807) (hp : I8 p) (hd : I8 d) (hp' : I8 p') (hd' : I8 d') :
    Calls Try.prog 3 #[.agg #[.int .i8 p, .int .i8 d], .agg #[.int .i8 p', .int .i8 d'], .slice A len cap] w fun e w' => e = .returned (.bool true) ∧ Below w.heap.size w w' := by
  have o1 := new_below w (.cells #[.int .i8 p, .int .i8 d] 23)
  have o2 := new_below (w.alloc (.cells #[.int .i8 p, .int .i8 d] 23)) (.cells #[.int .i8 p', .int .i8 d'] 23)
  have Hb := Lib.hid (o1.trans (o2.mono o1.size))
  have r0 := (Pai.make w p d 23).move o2
  have r1 := Pai.make (w.alloc (.cells #[.int .i8 p, .int .i8 d] 23)) p' d' 23
  have R0 := Lib.hid r0
  have R1 := Lib.hid (show Pai ((w.alloc (.cells #[.int .i8 p, .int .i8 d] 23)).alloc (.cells #[.int .i8 p', .int .i8 d'] 23)) (w.heap.size + 1) p' d' by simpa using r1)
  have hi2 := (h.below o1).below o2
  have Hi := Lib.hid hi2
  obtain ⟨g0, hg0⟩ : ∃ g0, g0 = w.heap.size := ⟨_, rfl⟩
  obtain ⟨g1, hg1⟩ : ∃ g1, g1 = w.heap.size + 1 := ⟨_, rfl⟩
  have hgw : w.heap.size + 1 < ((w.alloc (.cells #[.int .i8 p, .int .i8 d] 23)).alloc (.cells #[.int .i8 p', .int .i8 d'] 23)).heap.size := by simp
  have hclen := h.length
  clear o1 o2 r0 r1 hi2
  go_enter Try.func3, Try.ntmps3
  go_wp2_with fail
  refine (awake_any _).mono ?_
  rintro e wa ⟨rfl, hba⟩
  replace R0 := Lib.hid (R0.out.move hba)
  replace R1 := Lib.hid (R1.out.move hba)
  replace Hi := Lib.hid (Hi.out.below hba)
  replace Hb := Lib.hid (Hb.out.trans (hba.mono Hb.out.size))
  replace hgw := Nat.lt_of_lt_of_le hgw hba.size
  rw [← hg1] at R1 hgw
  rw [← hg0] at R0
  have hg01 : g0 < g1 := by omega
  try rw [← hg1]
  try rw [← hg0]
  have Hg0 := Lib.hid hg0
  have Hg1 := Lib.hid hg1
  clear hba h hg0 hg1
  -- the polynomials
  obtain ⟨W, hW⟩ : ∃ W, W = wl cs 5 40000 := ⟨_, rfl⟩
  have bW : ∀ j, (W.getD j 0).natAbs ≤ 40000 := by rw [hW]; exact wl_tiny cs 5 40000
  have lW : W.length ≤ 5 := by rw [hW, wl_length]; omega
  have pW : plen W ≤ 5 := Nat.le_trans (plen_le W) lW
  have hW64 : ∀ c ∈ W, I64 c := fun c hc => by
    obtain ⟨j, hj⟩ := List.getElem?_of_mem hc
    have := bW j
    rw [List.getD_eq_getElem?_getD, hj] at this
    have h2 : c.natAbs ≤ 40000 := this
    unfold I64; omega
  obtain ⟨a1, a2, a3, a4⟩ := apart_few (lin_plen2 p d) (lin_plen2 p' d') pW (lin_bd hp hd) (lin_bd hp' hd') bW
  obtain ⟨L, hL⟩ : ∃ L, L = polymul (ptrim (ptrim (lin p d))) (ptrim (ptrim (lin p' d'))) := ⟨_, rfl⟩
  obtain ⟨F, hF⟩ : ∃ F, F = polymul (ptrim L) (ptrim (ptrim W)) := ⟨_, rfl⟩
  have gL : ∀ k, L.getD k 0 = (polymul (lin p d) (lin p' d')).getD k 0 := ev_inj fun x => by rw [hL, ev_mul, ev_mul, ev_trim, ev_trim, ev_trim, ev_trim]
  have gF : ∀ k, F.getD k 0 = (polymul (polymul (lin p d) (lin p' d')) W).getD k 0 := ev_inj fun x => by rw [hF, ev_mul, ev_mul, ev_trim, ev_trim, ev_trim, ev_congr gL]
  have fit4 : ∀ {x : Int}, x.natAbs ≤ 4294967296 → Fit x := fun {x} hx => Nat.lt_of_le_of_lt hx (by rw [BB_eq]; decide +kernel)
  have fl1 : FitP (ptrim (lin p d)) := fun j => fit4 (by rw [ptrim_getD]; exact Nat.le_trans (lin_bd hp hd j) (by omega))
  have fl2 : FitP (ptrim (lin p' d')) := fun j => fit4 (by rw [ptrim_getD]; exact Nat.le_trans (lin_bd hp' hd' j) (by omega))
  have fL : FitP L := fun j => fit4 (by rw [gL]; exact Nat.le_trans (a1 j) (by omega))
  have fW : FitP (ptrim W) := fun j => fit4 (by rw [ptrim_getD]; exact Nat.le_trans (bW j) (by omega))
  have fF : FitP F := fun j => fit4 (by rw [gF]; exact a4 j)
  have pF : plen F = plen (polymul (polymul (lin p d) (lin p' d')) W) := by have := congrArg List.length (ptrim_ext gF); rw [ptrim_length, ptrim_length] at this; exact this
  have hF8 : Few8 F := ⟨by omega, fun j => by rw [gF]; exact a4 j⟩
  have lin2 : (lin p d).length = 2 := rfl
  have lin2' : (lin p' d').length = 2 := rfl
  have pl1 := lin_plen2 p d
  have pl2 := lin_plen2 p' d'
  have EL : Hid (polymul (ptrim (ptrim (lin p d))) (ptrim (ptrim (lin p' d'))) = L) := Lib.hid hL.symm
  have EF : Hid (polymul (ptrim L) (ptrim (ptrim W)) = F) := Lib.hid hF.symm
  have EW : Hid (wl cs 5 40000 = W) := Lib.hid hW.symm
  have lL : L.length ≤ 400000000 := by
    rw [hL]
    unfold polymul pmul
    split
    · simp
    · rw [List.length_map, List.length_range, ptrim_length, ptrim_length, plen_ptrim, plen_ptrim]; omega
  have lF : F.length ≤ 1000000 := by
    have hLl : plen L ≤ 3 := by have := congrArg List.length (ptrim_ext gL); rw [ptrim_length, ptrim_length] at this; omega
    rw [hF]
    unfold polymul pmul
    split
    · simp
    · rw [List.length_map, List.length_range, ptrim_length, ptrim_length, plen_ptrim]; omega
  have HgF := Lib.hid gF
  have HpF := Lib.hid pF
  clear hW hL hF gL gF a1 a2 a3 a4 pF fit4
  have j0 := R0.out.c0
  have j1 := R0.out.c1
  have j2 := R1.out.c0
  have j3 := R1.out.c1
  obtain ⟨wB, hwB⟩ : ∃ wB, wB = wa := ⟨_, rfl⟩
  rw [← hwB] at R0 R1 Hi Hb hgw j0 j1 j2 j3 ⊢
  clear hwB
  have G40 : Hid (Below wB.heap.size wB wB) := Lib.hid (Below.refl _ _)
  go_wp2_with fail
  go_region_held3 (fun w' => w'.cell? ⟨g0, 0, none⟩ = some (.int .i8 p) ∧ w'.cell? ⟨g0, 1, none⟩ = some (.int .i8 d) ∧ w'.cell? ⟨g1, 0, none⟩ = some (.int .i8 p') ∧ w'.cell? ⟨g1, 1, none⟩ = some (.int .i8 d')) (go_keep) (first
    | (go_at_call 6; (have _hx := G45); go_must (refine (polymul_any ikN ikN _ _ _ L _ _ _ (ptrim W) _ ?_ ?_ fL fW ?_ ?_).mono ?_; (exact H43''.out.below ikN (by (repeat (first | exact Below.refl _ _ | refine Below.drew ?_ | refine Below.alloc ?_ (by first | (simp; done) | (simp; omega) | omega) _ | refine Below.setCell ?_ (by first | (simp; done) | (simp; omega) | omega) _)))); (exact H45.out.below ikN (by (repeat (first | exact Below.refl _ _ | refine Below.drew ?_ | refine Below.alloc ?_ (by first | (simp; done) | (simp; omega) | omega) _ | refine Below.setCell ?_ (by first | (simp; done) | (simp; omega) | omega) _)))); (have := H43.out.length; omega); (have := H45.out.length; rw [ptrim_length] at this; have := plen_le W; omega); rintro e w46 ⟨A46, l46, c46, rfl, h46, hb46⟩; rw [EF.out] at h46; have H46 := Lib.hid h46; clear h46; have G46 : Hid (Below wB.heap.size wB w46) := Lib.hid (G45.out.trans ((Below.trans (by (repeat (first | exact Below.refl _ _ | refine Below.drew ?_ | refine Below.alloc ?_ (by first | (simp; done) | (simp; omega) | omega) _ | refine Below.setCell ?_ (by first | (simp; done) | (simp; omega) | omega) _))) (hb46.mono (by simp <;> omega))).mono G45.out.size)); have j0_46 := (R0.out.move G46.out).c0; have j1_46 := (R0.out.move G46.out).c1; have j2_46 := (R1.out.move G46.out).c0; have j3_46 := (R1.out.move G46.out).c1; clear hb46))
    | (go_at_call 8; (have _hx := G44); go_must (refine (poly_any _ _ _ W _ ?_ hW64 ?_).mono ?_; (exact H44.out.below (by (repeat (first | exact Below.refl _ _ | refine Below.drew ?_ | refine Below.alloc ?_ (by first | (simp; done) | (simp; omega) | omega) _ | refine Below.setCell ?_ (by first | (simp; done) | (simp; omega) | omega) _)))); omega; rintro e w45 ⟨A45, l45, c45, rfl, h45, hb45⟩; have H45 := Lib.hid h45; have H43'' := Lib.hid (H43'.out.below ikN (Below.trans (by (repeat (first | exact Below.refl _ _ | refine Below.drew ?_ | refine Below.alloc ?_ (by first | (simp; done) | (simp; omega) | omega) _ | refine Below.setCell ?_ (by first | (simp; done) | (simp; omega) | omega) _))) (hb45.mono (by simp <;> omega)))); clear h45; have G45 : Hid (Below wB.heap.size wB w45) := Lib.hid (G44.out.trans ((Below.trans (by (repeat (first | exact Below.refl _ _ | refine Below.drew ?_ | refine Below.alloc ?_ (by first | (simp; done) | (simp; omega) | omega) _ | refine Below.setCell ?_ (by first | (simp; done) | (simp; omega) | omega) _))) (hb45.mono (by simp <;> omega))).mono G44.out.size)); have j0_45 := (R0.out.move G45.out).c0; have j1_45 := (R0.out.move G45.out).c1; have j2_45 := (R1.out.move G45.out).c0; have j3_45 := (R1.out.move G45.out).c1; clear hb45))
    | (go_at_call 9; (have _hx := G43); go_must (refine (wide_any _ _ _ 5 40000 cs _ ?_ (by omega) (by omega) (by omega) hlm).mono ?_; (exact (Hi.out.below G43.out).below (by (repeat (first | exact Below.refl _ _ | refine Below.drew ?_ | refine Below.alloc ?_ (by first | (simp; done) | (simp; omega) | omega) _ | refine Below.setCell ?_ (by first | (simp; done) | (simp; omega) | omega) _)))); rintro e w44 ⟨A44, c44, rfl, h44, hb44⟩; rw [EW.out] at h44 ⊢; have H44 := Lib.hid h44; have H43' := Lib.hid (H43.out.below ikN (Below.trans (by (repeat (first | exact Below.refl _ _ | refine Below.drew ?_ | refine Below.alloc ?_ (by first | (simp; done) | (simp; omega) | omega) _ | refine Below.setCell ?_ (by first | (simp; done) | (simp; omega) | omega) _))) (hb44.mono (by simp <;> omega)))); clear h44; have G44 : Hid (Below wB.heap.size wB w44) := Lib.hid (G43.out.trans ((Below.trans (by (repeat (first | exact Below.refl _ _ | refine Below.drew ?_ | refine Below.alloc ?_ (by first | (simp; done) | (simp; omega) | omega) _ | refine Below.setCell ?_ (by first | (simp; done) | (simp; omega) | omega) _))) (hb44.mono (by simp <;> omega))).mono G43.out.size)); have j0_44 := (R0.out.move G44.out).c0; have j1_44 := (R0.out.move G44.out).c1; have j2_44 := (R1.out.move G44.out).c0; have j3_44 := (R1.out.move G44.out).c1; clear hb44))
    | (go_at_call 6; (have _hx := G42); go_must (refine (polymul_any ikN ikN _ _ _ (ptrim (lin p d)) _ _ _ (ptrim (lin p' d')) _ ?_ ?_ fl1 fl2 ?_ ?_).mono ?_; (exact H41'.out.below ikN (by (repeat (first | exact Below.refl _ _ | refine Below.drew ?_ | refine Below.alloc ?_ (by first | (simp; done) | (simp; omega) | omega) _ | refine Below.setCell ?_ (by first | (simp; done) | (simp; omega) | omega) _)))); (exact H42.out.below ikN (by (repeat (first | exact Below.refl _ _ | refine Below.drew ?_ | refine Below.alloc ?_ (by first | (simp; done) | (simp; omega) | omega) _ | refine Below.setCell ?_ (by first | (simp; done) | (simp; omega) | omega) _)))); (have := H41.out.length; rw [ptrim_length] at this; omega); (have := H42.out.length; rw [ptrim_length] at this; omega); rintro e w43 ⟨A43, l43, c43, rfl, h43, hb43⟩; rw [EL.out] at h43; have H43 := Lib.hid h43; clear h43; have G43 : Hid (Below wB.heap.size wB w43) := Lib.hid (G42.out.trans ((Below.trans (by (repeat (first | exact Below.refl _ _ | refine Below.drew ?_ | refine Below.alloc ?_ (by first | (simp; done) | (simp; omega) | omega) _ | refine Below.setCell ?_ (by first | (simp; done) | (simp; omega) | omega) _))) (hb43.mono (by simp <;> omega))).mono G42.out.size)); have j0_43 := (R0.out.move G43.out).c0; have j1_43 := (R0.out.move G43.out).c1; have j2_43 := (R1.out.move G43.out).c0; have j3_43 := (R1.out.move G43.out).c1; clear hb43))
    | (go_at_call 7; (have _hx := G41); go_must (refine (line_any p' d' _ hp' hd').mono ?_; rintro e w42 ⟨A42, l42, c42, rfl, h42, hb42⟩; have H42 := Lib.hid h42; have H41' := Lib.hid (H41.out.below ikN (Below.trans (by (repeat (first | exact Below.refl _ _ | refine Below.drew ?_ | refine Below.alloc ?_ (by first | (simp; done) | (simp; omega) | omega) _ | refine Below.setCell ?_ (by first | (simp; done) | (simp; omega) | omega) _))) (hb42.mono (by simp <;> omega)))); clear h42; have G42 : Hid (Below wB.heap.size wB w42) := Lib.hid (G41.out.trans ((Below.trans (by (repeat (first | exact Below.refl _ _ | refine Below.drew ?_ | refine Below.alloc ?_ (by first | (simp; done) | (simp; omega) | omega) _ | refine Below.setCell ?_ (by first | (simp; done) | (simp; omega) | omega) _))) (hb42.mono (by simp <;> omega))).mono G41.out.size)); have j0_42 := (R0.out.move G42.out).c0; have j1_42 := (R0.out.move G42.out).c1; have j2_42 := (R1.out.move G42.out).c0; have j3_42 := (R1.out.move G42.out).c1; clear hb42))
    | (go_at_call 7; (have _hx := G40); go_must (refine (line_any p d _ hp hd).mono ?_; rintro e w41 ⟨A41, l41, c41, rfl, h41, hb41⟩; have H41 := Lib.hid h41; clear h41; have G41 : Hid (Below wB.heap.size wB w41) := Lib.hid (G40.out.trans ((Below.trans (by (repeat (first | exact Below.refl _ _ | refine Below.drew ?_ | refine Below.alloc ?_ (by first | (simp; done) | (simp; omega) | omega) _ | refine Below.setCell ?_ (by first | (simp; done) | (simp; omega) | omega) _))) (hb41.mono (by simp <;> omega))).mono G40.out.size)); have j0_41 := (R0.out.move G41.out).c0; have j1_41 := (R0.out.move G41.out).c1; have j2_41 := (R1.out.move G41.out).c0; have j3_41 := (R1.out.move G41.out).c1; clear hb41)))
  rename_i hHeld
  clear hHeld
  replace R0 := Lib.hid (R0.out.move G46.out)
  replace R1 := Lib.hid (R1.out.move G46.out)
  replace Hb := Lib.hid (Hb.out.trans (G46.out.mono Hb.out.size))
  replace hgw := Nat.lt_of_lt_of_le hgw G46.out.size
  have hl46 : l46 ≤ 1000000 := by have := H46.out.length; omega
  have HF := H46
  clear H46
  clear j0_41 j1_41 j2_41 j3_41 j0_42 j1_42 j2_42 j3_42 j0_43 j1_43 j2_43 j3_43 j0_44 j1_44 j2_44 j3_44 j0_45 j1_45 j2_45 j3_45 j0_46 j1_46 j2_46 j3_46 j0 j1 j2 j3 G40 G41 G42 G43 G44 G45 G46 H41 H41' H42 H43 H43' H43'' H44 H45
  go_wp2_with fail
  have j0 := R0.out.c0
  have j1 := R0.out.c1
  have j2 := R1.out.c0
  have j3 := R1.out.c1
  refine wp_region_held_drew (S := fun w' => w'.cell? ⟨g0, 0, none⟩ = some (.int .i8 p) ∧ w'.cell? ⟨g0, 1, none⟩ = some (.int .i8 d) ∧ w'.cell? ⟨g1, 0, none⟩ = some (.int .i8 p') ∧ w'.cell? ⟨g1, 1, none⟩ = some (.int .i8 d')) (by kernel_rfl) (by (try dsimp only); go_keep) (fun hHeld => ?_)
  (refine take_at (i := 0) (oi := _) (v := ?_) rfl rfl (by kernel_rfl) (by kernel_rfl) (by kernel_rfl) (fun _ _ _ h => h) (Or.inl ⟨by rfl, ?_⟩) (by assumption) ?_; rotate_left; (focus (intro w hSw; (try dsimp only at hSw); go_simp; (try with_reducible rfl))); (simp only [put_lit, List.set]))
  (refine take_at (i := 2) (oi := _) (v := ?_) rfl rfl (by kernel_rfl) (by kernel_rfl) (by kernel_rfl) (fun _ _ _ h => h) (Or.inl ⟨by rfl, ?_⟩) (by assumption) ?_; rotate_left; (focus (intro w hSw; (try dsimp only at hSw); go_simp; (try with_reducible rfl))); (simp only [put_lit, List.set]))
  obtain ⟨gq0, gp0, _, _, q0p, _, zb0, qb0⟩ := rt_facts p d
  obtain ⟨gq1, gp1, _, _, q1p, _, zb1, qb1⟩ := rt_facts p' d'
  have lb0 := ld_bd hd
  have lb1 := ld_bd hd'
  have hpb : p.natAbs ≤ 128 := by unfold I8 at hp; omega
  have hpb' : p'.natAbs ≤ 128 := by unfold I8 at hp'; omega
  obtain ⟨Z0, hZ0⟩ : ∃ Z, Z = rtn p d := ⟨_, rfl⟩
  obtain ⟨Q0, hQ0⟩ : ∃ Q, Q = rtd p d := ⟨_, rfl⟩
  obtain ⟨Z1, hZ1⟩ : ∃ Z, Z = rtn p' d' := ⟨_, rfl⟩
  obtain ⟨Q1, hQ1⟩ : ∃ Q, Q = rtd p' d' := ⟨_, rfl⟩
  rw [← hZ0] at zb0
  rw [← hQ0] at q0p qb0
  rw [← hZ1] at zb1
  rw [← hQ1] at q1p qb1
  obtain ⟨S, hS⟩ : ∃ S, S = Z0 * (Q1 : Int) - Z1 * (Q0 : Int) := ⟨_, rfl⟩
  have hSb : S.natAbs ≤ 32768 := by
    have m1 : (Z0 * (Q1 : Int)).natAbs ≤ 128 * 128 := by rw [Int.natAbs_mul, Int.natAbs_natCast]; exact Nat.mul_le_mul (by omega) (by omega)
    have m2 : (Z1 * (Q0 : Int)).natAbs ≤ 128 * 128 := by rw [Int.natAbs_mul, Int.natAbs_natCast]; exact Nat.mul_le_mul (by omega) (by omega)
    omega
  have hQQ : 0 < Q0 * Q1 := Nat.mul_pos q0p q1p
  have hQb : Q0 * Q1 ≤ 128 * 128 := Nat.mul_le_mul (by omega) (by omega)
  have DF := dist_facts S hQQ
  obtain ⟨ZS, hZS⟩ : ∃ Z, Z = S.tdiv (Nat.gcd S.natAbs (Q0 * Q1)) := ⟨_, rfl⟩
  obtain ⟨QS, hQS⟩ : ∃ Q, Q = Q0 * Q1 / Nat.gcd S.natAbs (Q0 * Q1) := ⟨_, rfl⟩
  rw [← hZS, ← hQS] at DF
  obtain ⟨ZD, hZD⟩ : ∃ Z, Z = (ZS.natAbs : Int).tdiv (Nat.gcd ZS.natAbs QS) := ⟨_, rfl⟩
  obtain ⟨QD, hQD⟩ : ∃ Q, Q = QS / Nat.gcd ZS.natAbs QS := ⟨_, rfl⟩
  rw [← hZD, ← hQD] at DF
  have fit5 : ∀ {x : Int}, x.natAbs ≤ 32768 → Fit x := fun {x} hx => Nat.lt_of_le_of_lt hx (by rw [BB_eq]; decide +kernel)
  have fz0 : Fit Z0 := fit5 (by omega)
  have fz1 : Fit Z1 := fit5 (by omega)
  have fq0 : Fit (Q0 : Int) := fit5 (by omega)
  have fq1 : Fit (Q1 : Int) := fit5 (by omega)
  have dq0 := DF.q0
  have dzb := DF.zb
  have dqb := DF.qb
  have ddb := DF.db
  have dd0 := DF.d0
  have fzd : Fit ZD := fit5 (by omega)
  have fqd : Fit (QD : Int) := fit5 (by omega)
  have uzs : U64 ZS.natAbs := by unfold U64; rw [BB_eq]; omega
  have vqs : QS < BB := by rw [BB_eq]; omega
  have HZ0 := Lib.hid hZ0
  have HQ0 := Lib.hid hQ0
  have HZ1 := Lib.hid hZ1
  have HQ1 := Lib.hid hQ1
  have HS := Lib.hid hS
  have HZS := Lib.hid hZS
  have HQS := Lib.hid hQS
  have HZD := Lib.hid hZD
  have HQD := Lib.hid hQD
  have HDF := Lib.hid DF
  clear hZ0 hQ0 hZ1 hQ1 hS hZS hQS hZD hQD DF lb0 lb1 zb0 zb1 qb0 qb1 gp0 gp1
  refine wpAnyH_inv (Inv := fun listed a w => ∃ (c m s : Nat → Bool) (v u : Nat → Value), BI (fun i => if i = 0 then Z0 else if i = 1 then Z1 else if i = 2 then ZS else ZD) (fun i => if i = 0 then Q0 else if i = 1 then Q1 else if i = 2 then QS else QD) w46.drew w c m s v u ∧ listed = #[true, c 0, true, c 1, c 2, c 3, m 3, s 3] ∧ a = ⟨#[.agg #[.int .i8 p, .int .i8 d], .agg #[.int .i8 p', .int .i8 d'], .slice A len cap, .pointer (some ⟨g0, 0, none⟩), .pointer (some ⟨g1, 0, none⟩), undef, .bool false, .slice A46 l46 c46, u 3, .bool true, .bool false, .agg #[.int .i8 p, .int .i8 d], .slice A41 l41 c41, .agg #[.int .i8 p', .int .i8 d'], .slice A42 l42 c42, .slice A43 l43 c43, .slice A len cap, .slice A44 W.length c44, .slice A45 l45 c45, .slice A46 l46 c46, .agg #[.int .i8 p, .int .i8 d], v 0, .agg #[.int .i8 p', .int .i8 d'], v 1, v 2, v 3, undef, undef, undef, undef, undef, undef, undef, undef, undef, undef, undef, undef, undef, undef], []⟩) ?_ ?_ ?_ 6 _ _ _ (by decide +kernel) ?_
  · rintro listed a w ⟨c, m, s, v, u, hB, rfl, rfl⟩
    have hT0 := (Pai.mk hHeld.1 hHeld.2.1).move hB.b
    have hT1 := (Pai.mk hHeld.2.2.1 hHeld.2.2.2).move hB.b
    exact ⟨hT0.c0, hT0.c1, hT1.c0, hT1.c1⟩
  · rintro listed a w i o ⟨c, m, s, v, u, hB, rfl, rfl⟩ ho hl hdp K hK
    have hi : i < 8 := (Array.getElem?_eq_some_iff.1 ho).1
    have hi' : i = 0 ∨ i = 1 ∨ i = 2 ∨ i = 3 ∨ i = 4 ∨ i = 5 ∨ i = 6 ∨ i = 7 := by omega
    rcases hi' with rfl | rfl | rfl | rfl | rfl | rfl | rfl | rfl
    · cases hl
    · obtain rfl := Option.some.inj ho
      go_simp
      refine (root_any p d _ hp hd).mono ?_
      rintro e w' ⟨⟨na, B, l, da, C, K1, K2, rfl, hz, hq⟩, hb⟩
      rw [← HZ0.out] at hz
      rw [← HQ0.out] at hq
      exact hK.out _ _ ⟨_, _, _, _, _, hB.call hb 0 ⟨_, _, _, _, _, _, _, rfl, hz, hq⟩, rfl, rfl⟩
    · cases hl
    · obtain rfl := Option.some.inj ho
      go_simp
      refine (root_any p' d' _ hp' hd').mono ?_
      rintro e w' ⟨⟨na, B, l, da, C, K1, K2, rfl, hz, hq⟩, hb⟩
      rw [← HZ1.out] at hz
      rw [← HQ1.out] at hq
      exact hK.out _ _ ⟨_, _, _, _, _, hB.call hb 1 ⟨_, _, _, _, _, _, _, rfl, hz, hq⟩, rfl, rfl⟩
    · obtain rfl := Option.some.inj ho
      have hc0 := hdp ⟨1, .data⟩ (Array.mem_of_getElem? (i := 0) rfl) (by decide +kernel)
      have hc1 := hdp ⟨3, .data⟩ (Array.mem_of_getElem? (i := 1) rfl) (by decide +kernel)
      obtain ⟨n8, A8, l8, c8, B8, m8, d8, e8, h8, k8⟩ := hB.r 0 hc0
      obtain ⟨n9, A9, l9, c9, B9, m9, d9, e9, h9, k9⟩ := hB.r 1 hc1
      simp only [e8, e9]
      go_simp
      refine (rsub_any _ _ _ _ _ _ _ Q0 Z0 _ _ _ _ _ _ _ Q1 Z1 _ h8 k8 h9 k9 fz0 fq0 q0p fz1 fq1 q1p).mono ?_
      rintro e w' ⟨⟨na, B, l, da, C, K1, K2, rfl, hz, hq⟩, hb⟩
      rw [← HS.out, ← HZS.out] at hz
      rw [← HS.out, ← HQS.out] at hq
      exact hK.out _ _ ⟨_, _, _, _, _, hB.call hb 2 ⟨_, _, _, _, _, _, _, rfl, hz, hq⟩, rfl, by rw [← e8, ← e9]; rfl⟩
    · obtain rfl := Option.some.inj ho
      have hc2 := hdp ⟨4, .data⟩ (Array.mem_of_getElem? (i := 0) rfl) (by decide +kernel)
      obtain ⟨n8, A8, l8, c8, B8, m8, d8, e8, h8, k8⟩ := hB.r 2 hc2
      simp only [e8]
      go_simp
      refine (ratabs_any _ _ _ _ _ _ _ QS ZS _ h8 k8 uzs vqs dq0).mono ?_
      rintro e w' ⟨⟨na, B, l, da, C, K1, K2, rfl, hz, hq⟩, hb⟩
      rw [← HZD.out] at hz
      rw [← HQD.out] at hq
      exact hK.out _ _ ⟨_, _, _, _, _, hB.call hb 3 ⟨_, _, _, _, _, _, _, rfl, hz, hq⟩, rfl, by rw [← e8]; rfl⟩
    · obtain rfl := Option.some.inj ho
      go_simp
      exact hK.out _ _ ⟨_, _, _, _, _, hB.alloc 3 hl, rfl, rfl⟩
    · obtain rfl := Option.some.inj ho
      have hm := hdp ⟨6, .data⟩ (Array.mem_of_getElem? (i := 0) rfl) (by decide +kernel)
      have hc := hdp ⟨5, .data⟩ (Array.mem_of_getElem? (i := 1) rfl) (by decide +kernel)
      obtain ⟨n8, A8, l8, c8, B8, m8, d8, e8, h8, k8⟩ := hB.r 3 hc
      obtain ⟨g9, _, _, _, _, _, _, _, _, _, e9, hgk, hR9, _⟩ := hB.o 3 hm
      have hBs := hB.store 3 hm e9 h8 k8
      simp only [e8, e9]
      have r0 := hR9.c0
      have r1 := hR9.c1
      have r2 := hR9.c2
      have r3 := hR9.f0
      have r4 := hR9.f1
      have r5 := hR9.f2
      go_simp
      exact hK.out _ _ ⟨_, _, _, _, _, hBs, rfl, by simp only [e8, e9]⟩
  · rintro listed a wz ⟨c, m, s, v, u, hB, rfl, rfl⟩ hr
    have hall := ready_nil_md (by kernel_rfl) rfl hr
    have m3 : m 3 = true := hall 6 (by simp)
    have s3 : s 3 = true := hall 7 (by simp)
    obtain ⟨b0, n0, B0, l4, c4, C0, m0', d0, z0, q0, e0, _, T0, f0⟩ := hB.o 3 m3
    obtain ⟨hz0, hq0⟩ := f0 s3
    replace hz0 : z0 = ZD := hz0
    replace hq0 : q0 = QD := hq0
    rw [hz0, hq0] at T0
    have hb3 : Below w46.heap.size w46 wz := (Below.trans (by (repeat (first | exact Below.refl _ _ | refine Below.drew ?_ | refine Below.alloc ?_ (by first | (simp; done) | (simp; omega) | omega) _ | refine Below.setCell ?_ (by first | (simp; done) | (simp; omega) | omega) _))) (hB.b.mono (by simp <;> omega)))
    simp only [e0]
    generalize v 0 = y0
    generalize v 1 = y1
    generalize v 2 = y2
    generalize v 3 = y3
    clear hall m3 s3 f0 e0 hB hr hHeld j0 j1 j2 j3 c m s v u R0 R1 hz0 hq0
    obtain ⟨w3, hw3⟩ : ∃ w3, w3 = wz := ⟨_, rfl⟩
    rw [← hw3] at T0 hb3 ⊢
    replace HF := Lib.hid (HF.out.below ikN hb3)
    replace Hb := Lib.hid (Hb.out.trans (hb3.mono Hb.out.size))
    replace T0 := Lib.hid T0
    clear hb3 hw3
    have sF : SmP F := fF.smp
    have j0 := T0.out.c0
    have j1 := T0.out.c1
    have j2 := T0.out.c2
    go_wp2_with fail
    refine (degree_any _ _ _ F _ (HF.out.at_ ikN) sF (by omega)).mono ?_
    rintro e w5 ⟨rfl, hb5⟩
    replace T0 := Lib.hid (T0.out.move hb5)
    replace HF := Lib.hid (HF.out.below ikN hb5)
    replace Hb := Lib.hid (Hb.out.trans (hb5.mono Hb.out.size))
    replace j0 := T0.out.c0
    replace j1 := T0.out.c1
    replace j2 := T0.out.c2
    clear hb5
    by_cases F0 : plen F = 0
    · rw [F0]
      have hd0 : decide (((0 : Nat) : Int) - 1 < 0) = true := by decide
      clear F0
      go_wp2
      go_ret
      exact ⟨rfl, Hb.out⟩
    · obtain ⟨n, hn⟩ : ∃ n, plen F = n + 1 := ⟨plen F - 1, by omega⟩
      have hn1 : ((plen F : Nat) : Int) - 1 = (n : Int) := by omega
      rw [hn1]
      have hd0 : decide ((n : Int) < 0) = false := by simp
      have HF0 := Lib.hid F0
      clear F0 hn hn1
      go_wp2_with fail
      refine (rsign_any _ _ _ _ _ _ _ QD ZD _ T0.out.hz.at_ T0.out.hq.at_ fqd.smnat fzd.sm (by omega)).mono ?_
      rintro e w6 ⟨rfl, hb6⟩
      replace T0 := Lib.hid (T0.out.move hb6)
      replace HF := Lib.hid (HF.out.below ikN hb6)
      replace Hb := Lib.hid (Hb.out.trans (hb6.mono Hb.out.size))
      replace j0 := T0.out.c0
      replace j1 := T0.out.c1
      replace j2 := T0.out.c2
      clear hb6
      by_cases S0 : S = 0
      · have hz := HDF.out.ez S0
        rw [show sg ZD = 0 by rw [hz]; rfl]
        clear hz S0
        go_wp2
        go_ret
        exact ⟨rfl, Hb.out⟩
      · have hzp := HDF.out.pz S0
        rw [sg_pos hzp]
        have KEY : ∀ s : Nat, SepV F s → cmpz (ZD * ((2 ^ s : Nat) : Int)) (1 * (QD : Int)) = 1 := fun s hs => by
          have hne : rtn p d * (rtd p' d' : Int) ≠ rtn p' d' * (rtd p d : Int) := fun e => S0 (by rw [HS.out, HZ0.out, HQ0.out, HZ1.out, HQ1.out, e]; omega)
          have h1 := apart_law hp hd hp' hd' pW bW HgF.out HF0.out hne hs
          rw [← HQ0.out, ← HQ1.out] at h1
          have h2 := apart_cmp HDF.out.eq S0 hQQ dd0 h1
          unfold cmpz
          rw [Int.one_mul, if_neg (by omega), if_neg (by omega)]
        have HK := Lib.hid KEY
        clear hzp S0 KEY
        have hlF : l46 ≤ 1000000 := hl46
        obtain ⟨wD, hwD⟩ : ∃ wD, wD = w6 := ⟨_, rfl⟩
        rw [← hwD] at T0 HF Hb j0 j1 j2 ⊢
        clear hwD
        have G50 : Hid (Below wD.heap.size wD wD) := Lib.hid (Below.refl _ _)
        have fit1 : Fit 1 := fit5 (by decide)
        go_wp2_with fail
        go_region_held3 (fun w' => w'.cell? ⟨b0, 0, none⟩ = some (.bool n0) ∧ w'.cell? ⟨b0, 1, none⟩ = some (.slice B0 l4 c4) ∧ w'.cell? ⟨b0, 2, none⟩ = some (.slice C0 m0' d0)) (go_keep) (first
          | (go_at_call 15; (have _hx := G52); go_must (refine (rcmp_any _ _ _ _ _ _ _ QD ZD _ _ _ _ _ _ _ (2 ^ sp) 1 _ ?_ ?_ ?_ ?_ (by omega) (Nat.pos_iff_ne_zero.1 (Nat.pow_pos (by decide))) fzd fqd fit1 (fit_two hs1)).mono ?_; (exact ((T0.out.move G52.out).hz.below (by (repeat (first | exact Below.refl _ _ | refine Below.drew ?_ | refine Below.alloc ?_ (by first | (simp; done) | (simp; omega) | omega) _ | refine Below.setCell ?_ (by first | (simp; done) | (simp; omega) | omega) _)))).at_); (exact ((T0.out.move G52.out).hq.below (by (repeat (first | exact Below.refl _ _ | refine Below.drew ?_ | refine Below.alloc ?_ (by first | (simp; done) | (simp; omega) | omega) _ | refine Below.setCell ?_ (by first | (simp; done) | (simp; omega) | omega) _)))).at_); (exact (H52.out.below (by (repeat (first | exact Below.refl _ _ | refine Below.drew ?_ | refine Below.alloc ?_ (by first | (simp; done) | (simp; omega) | omega) _ | refine Below.setCell ?_ (by first | (simp; done) | (simp; omega) | omega) _)))).at_); (exact (K52.out.below (by (repeat (first | exact Below.refl _ _ | refine Below.drew ?_ | refine Below.alloc ?_ (by first | (simp; done) | (simp; omega) | omega) _ | refine Below.setCell ?_ (by first | (simp; done) | (simp; omega) | omega) _)))).at_); rintro e w53 ⟨rfl, hb53⟩; rw [HC.out]; have G53 : Hid (Below wD.heap.size wD w53) := Lib.hid (G52.out.trans ((Below.trans (by (repeat (first | exact Below.refl _ _ | refine Below.drew ?_ | refine Below.alloc ?_ (by first | (simp; done) | (simp; omega) | omega) _ | refine Below.setCell ?_ (by first | (simp; done) | (simp; omega) | omega) _))) (hb53.mono (by simp <;> omega))).mono G52.out.size)); have j0_53 := (T0.out.move G53.out).c0; have j1_53 := (T0.out.move G53.out).c1; have j2_53 := (T0.out.move G53.out).c2; clear hb53))
          | (go_at_call 16; (have _hx := G51); go_must (refine (two_down sp _ (by omega) (two_sm hs1)).mono ?_; rintro e w52 ⟨⟨n52, A52, l52, c52, B52, m52, d52, rfl, h52, k52⟩, hb52⟩; have H52 := Lib.hid h52; have K52 := Lib.hid k52; clear h52 k52; have G52 : Hid (Below wD.heap.size wD w52) := Lib.hid (G51.out.trans ((Below.trans (by (repeat (first | exact Below.refl _ _ | refine Below.drew ?_ | refine Below.alloc ?_ (by first | (simp; done) | (simp; omega) | omega) _ | refine Below.setCell ?_ (by first | (simp; done) | (simp; omega) | omega) _))) (hb52.mono (by simp <;> omega))).mono G51.out.size)); have j0_52 := (T0.out.move G52.out).c0; have j1_52 := (T0.out.move G52.out).c1; have j2_52 := (T0.out.move G52.out).c2; clear hb52))
          | (go_at_call 17; (have _hx := G50); go_must (refine (sep_any ikN _ _ _ F _ ?_ hF8 HF0.out hlF).mono ?_; (exact HF.out.below ikN (by (repeat (first | exact Below.refl _ _ | refine Below.drew ?_ | refine Below.alloc ?_ (by first | (simp; done) | (simp; omega) | omega) _ | refine Below.setCell ?_ (by first | (simp; done) | (simp; omega) | omega) _)))); rintro e w51 ⟨⟨sp, rfl, hsv, hs1⟩, hb51⟩; have HC := Lib.hid (HK.out sp hsv); clear hsv; have G51 : Hid (Below wD.heap.size wD w51) := Lib.hid (G50.out.trans ((Below.trans (by (repeat (first | exact Below.refl _ _ | refine Below.drew ?_ | refine Below.alloc ?_ (by first | (simp; done) | (simp; omega) | omega) _ | refine Below.setCell ?_ (by first | (simp; done) | (simp; omega) | omega) _))) (hb51.mono (by simp <;> omega))).mono G50.out.size)); have j0_51 := (T0.out.move G51.out).c0; have j1_51 := (T0.out.move G51.out).c1; have j2_51 := (T0.out.move G51.out).c2; clear hb51)))
        rename_i hHeld
        clear hHeld
        replace Hb := Lib.hid (Hb.out.trans (G53.out.mono Hb.out.size))
        have h01 : decide ((0 : Int) < 1) = true := by decide
        clear HK T0 HF
        go_wp2
        go_ret
        exact ⟨rfl, Hb.out⟩
  · exact ⟨fun _ => false, fun _ => false, fun _ => false, fun _ => undef, fun _ => undef, ⟨Below.refl _ _, fun _ h => (by cases h), fun _ h => (by cases h), fun _ _ _ h => (by cases h), fun _ h => (by cases h)⟩, rfl, rfl⟩
end Go.Proofs.Ytjoenabcjioncaa
