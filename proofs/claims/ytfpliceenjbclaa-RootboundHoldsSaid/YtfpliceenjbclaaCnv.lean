/- The walks of unipoly.convolve at Add, Mul and of unipoly.Mul. -/
import Derived.Test.YtfpliceenjbclaaSft
namespace Go.Proofs.Ytfpliceenjbclaa
open Go.RowKit

/-- the first m terms of the coefficient k of the product -/
def pcs (f g : List Int) (k : Nat) : Nat → Int
  | 0 => 0
  | m + 1 => pcs f g k m + f.getD m 0 * g.getD (k - m) 0
/-- the coefficient k of the product -/
def pc (f g : List Int) (k : Nat) : Int := pcs f g k (k + 1)
/-- the product of two polynomials that are not empty -/
def pmul (f g : List Int) : List Int := (List.range (f.length + g.length - 1)).map (pc f g)
theorem pmul_length (f g : List Int) : (pmul f g).length = f.length + g.length - 1 := by simp [pmul]
theorem pmul_get (f g : List Int) {k : Nat} (h : k < f.length + g.length - 1) : (pmul f g).getD k 0 = pc f g k := by
  rw [List.getD_eq_getElem?_getD, pmul, List.getElem?_map, List.getElem?_range h]; rfl

theorem getD_out (g : List Int) {j : Nat} (h : g.length ≤ j) : g.getD j 0 = 0 := by
  rw [List.getD_eq_getElem?_getD, List.getElem?_eq_none h]; rfl
theorem pcs_low (f g : List Int) (k : Nat) : ∀ m, m + g.length ≤ k + 1 → pcs f g k m = 0 := by
  intro m
  induction m with
  | zero => intro _; rfl
  | succ m ih =>
    intro h
    rw [pcs, ih (by omega), getD_out g (by omega)]; simp
theorem pcs_high (f g : List Int) (k : Nat) (a : Nat) (ha : f.length ≤ a) : ∀ j, pcs f g k (a + j) = pcs f g k a := by
  intro j
  induction j with
  | zero => rfl
  | succ j ih => rw [← Nat.add_assoc, pcs, ih, getD_out f (by omega)]; simp
theorem pcs_end (f g : List Int) (k : Nat) (hf : 0 < f.length) : pcs f g k (min k (f.length - 1) + 1) = pc f g k := by
  unfold pc
  rcases Nat.lt_or_ge k f.length with h | h
  · rw [Nat.min_eq_left (by omega)]
  · rw [Nat.min_eq_right (by omega)]
    have := pcs_high f g k (f.length - 1 + 1) (by omega) (k + 1 - (f.length - 1 + 1))
    rw [show f.length - 1 + 1 + (k + 1 - (f.length - 1 + 1)) = k + 1 by omega] at this
    exact this.symm

theorem take_getD' (p : List Int) {n k : Nat} (h : k < n) : (p.take n).getD k 0 = p.getD k 0 := by simp [List.getD_eq_getElem?_getD, h]

/-- all coefficients have at most 40 digits -/
def FitP (p : List Int) : Prop := ∀ k, Fit (p.getD k 0)
theorem FitP.smp {p : List Int} (h : FitP p) : SmP p := fun c hc => by
  obtain ⟨k, hk⟩ := List.getElem?_of_mem hc
  have := h k
  rw [List.getD_eq_getElem?_getD, hk] at this
  exact Fit.sm this

theorem pcs_bound {f g : List Int} (hf : FitP f) (hg : FitP g) (k : Nat) : ∀ m, (pcs f g k m).natAbs ≤ m * BB ^ 80 := by
  intro m
  induction m with
  | zero => simp [pcs]
  | succ m ih =>
    have h1 := (hf m).mul (hg (k - m))
    rw [pcs, Nat.succ_mul]
    omega
theorem pcs_sm {f g : List Int} (hf : FitP f) (hg : FitP g) (k m : Nat) (hm : m ≤ 1000000000) : SmI (pcs f g k m) := by
  have h1 := pcs_bound hf hg k m
  refine sm_pow (k := 81) ?_ (by omega)
  have h2 : m * BB ^ 80 ≤ 1000000000 * BB ^ 80 := Nat.mul_le_mul_right _ hm
  have h3 : 1000000001 * BB ^ 80 ≤ BB * BB ^ 80 := Nat.mul_le_mul_right _ (by rw [BB_eq]; omega)
  have h4 : 0 < BB ^ 80 := Nat.pow_pos BB_pos
  have e : BB ^ 81 = BB * BB ^ 80 := by rw [show 81 = 80 + 1 from rfl, Nat.pow_succ, Nat.mul_comm]
  rw [e]
  omega
theorem pcs_add {f g : List Int} (hf : FitP f) (hg : FitP g) (k m : Nat) (hm : m ≤ 1000000000) : Sm ((pcs f g k m).natAbs + (f.getD m 0 * g.getD (k - m) 0).natAbs) := by
  have h1 := pcs_bound hf hg k m
  have h5 := (hf m).mul (hg (k - m))
  refine sm_pow (k := 81) ?_ (by omega)
  have h2 : m * BB ^ 80 ≤ 1000000000 * BB ^ 80 := Nat.mul_le_mul_right _ hm
  have h3 : 1000000001 * BB ^ 80 ≤ BB * BB ^ 80 := Nat.mul_le_mul_right _ (by rw [BB_eq]; omega)
  have e : BB ^ 81 = BB * BB ^ 80 := by rw [show 81 = 80 + 1 from rfl, Nat.pow_succ, Nat.mul_comm]
  rw [e]
  omega

set_option maxRecDepth 100000 in
set_option maxHeartbeats 4000000 in
theorem convolve_any {I J : IntPred} (hI : IK I) (hJ : IK J) (A : Option Addr) (la ca : Nat) (f : List Int) (B : Option Addr) (lb cb : Nat) (g : List Int) (w : World) (hf : PolyP I w A la ca f) (hg : PolyP J w B lb cb g) (ff : FitP f) (fg : FitP g) (hla : 0 < la) (hlb : 0 < lb) (hma : la ≤ 400000000) (hmb : lb ≤ 400000000) :
    Calls Try.prog 114 #[.slice A la ca, .slice B lb cb, .agg #[.bool false, .slice none 0 0], .func (.func 88) #[] #[], .func (.func 54) #[] #[]] w fun e w' => ∃ r, e = .returned (.slice (some ⟨r, 0, none⟩) (la + lb - 1) (la + lb - 1)) ∧ PRow w' r (pmul f g) ∧ w.heap.size ≤ r ∧ Below w.heap.size w w' := by
  have hbx : Below w.heap.size w (w.alloc (ibox false none 0 0)) := (Below.refl _ _).alloc (Nat.le_refl _) _
  have hla2 := Lib.hid hf.length
  have hlb2 := Lib.hid hg.length
  have Hf0 := Lib.hid hf
  have Hg0 := Lib.hid hg
  have HZ := Lib.hid (IBox.nil w)
  have Hbx := Lib.hid hbx
  have hb1 : ((la : Int) == 0) = false := by rw [beq_eq_false_iff_ne]; omega
  have hb2 : ((lb : Int) == 0) = false := by rw [beq_eq_false_iff_ne]; omega
  obtain ⟨n, hn⟩ : ∃ n, la + lb = n + 1 := ⟨la + lb - 1, by omega⟩
  have hn2 : la + lb - 1 = n := by omega
  have hni : IntKind.i64.wrap ((la : Int) + (lb : Int) - 1) = (n : Int) := by rw [IntWalk.i64_in _ (by omega)]; omega
  have hni2 : (la : Int) + (lb : Int) - 1 = (n : Int) := by omega
  rw [hn2]
  have Hn := Lib.hid hn
  have hpl := Lib.hid (show (pmul f g).length = n by rw [pmul_length, hla2.out, hlb2.out]; exact hn2)
  have hnb : n ≤ 800000000 := by omega
  clear hf hg hbx hn hn2
  go_enter Try.func114, Try.ntmps114
  go_wp2_with (at_make; refine wpList_make_poly _ rfl (.tmp 28) (.tmp 28) rfl n rfl rfl (by omega) ?_)
  intro w1 hz hb3 hsz
  have hb3' : Below (w.alloc (ibox false none 0 0)).heap.size (w.alloc (ibox false none 0 0)) w1 := by rw [World.size_alloc]; exact hb3
  have hu := upto_zero (pmul f g) n
  rw [← hu] at hz
  have Hz := Lib.hid hz
  have Hb3 := Lib.hid (Hbx.out.trans (hb3'.mono Hbx.out.size))
  have HZ1 := Lib.hid (HZ.out.move hb3')
  have hsz2 : w.heap.size + 1 < w1.heap.size := by (try simp only [World.size_alloc] at hsz); omega
  clear hz hsz hu hni hni2 hb1 hb2 hb3 hb3' HZ Hbx
  go_wp2
  go_loopw [32] (fun s32 wr => ∃ k : Nat, k ≤ n ∧ s32 = .int .i64 (k : Int) ∧ PRow wr (w.heap.size + 1) (upto (pmul f g) k n) ∧ IBox wr w.heap.size false none 0 0 0 ∧ w1.heap.size ≤ wr.heap.size ∧ Below w.heap.size w wr) (fun s32 _ => n - (intOf s32).toNat)
  case atStart => exact ⟨0, Nat.zero_le _, rfl, Hz.out, HZ1.out, Nat.le_refl _, Hb3.out⟩
  case round =>
    clear Hz HZ1 Hb3
    obtain ⟨k, hk, rfl, hrow, hzb, hws, hbw⟩ := hrel
    obtain ⟨wo, rfl⟩ : ∃ wo : World, wo = wr := ⟨_, rfl⟩
    have Hrow := Lib.hid hrow
    have Hzb := Lib.hid hzb
    have Hf := Lib.hid (Hf0.out.below hI hbw)
    have Hg := Lib.hid (Hg0.out.below hJ hbw)
    have Hbw := Lib.hid hbw
    have z0 := hzb.c0
    have z1 := hzb.c1
    clear hrow hzb hbw
    by_cases hlt : k < n
    · obtain ⟨lo, hlo⟩ : ∃ lo : Nat, lo = k + 1 - lb := ⟨_, rfl⟩
      have hba : Below wo.heap.size wo (wo.alloc (ibox false none 0 0)) := (Below.refl _ _).alloc (Nat.le_refl _) _
      have HS := Lib.hid (IBox.nil wo)
      have Hba := Lib.hid hba
      have hkb : k + 1 ≤ lb ∨ lb < k + 1 := by omega
      have hmx : (if (0 : Int) < (k : Int) - (lb : Int) + 1 then (k : Int) - (lb : Int) + 1 else 0) = (lo : Int) := by split <;> omega
      obtain ⟨hi, hhi⟩ : ∃ hi : Nat, hi = min k (la - 1) := ⟨_, rfl⟩
      have hmn : (if (la : Int) - 1 < (k : Int) then (la : Int) - 1 else (k : Int)) = (hi : Int) := by split <;> omega
      have hlohi : lo ≤ hi + 1 := by have := Hn.out; omega
      have hhik : hi ≤ k := by omega
      have hhia : hi < la := by omega
      have hlok : k + 1 ≤ lo + lb := by omega
      have Hlo := Lib.hid (show pcs f g k lo = 0 from by
        by_cases h0 : lo = 0
        · rw [h0]; rfl
        · exact pcs_low f g k lo (by rw [hlb2.out]; omega))
      have Hhi := Lib.hid hhi
      clear hba hlo hkb hhi
      go_wp2
      go_loopw [14] (fun s14 wx => ∃ (m : Nat) (n3 : Bool) (A3 : Option Addr) (l3 c3 : Nat), lo ≤ m ∧ m ≤ hi + 1 ∧ s14 = .int .i64 (m : Int) ∧ IBox wx wo.heap.size n3 A3 l3 c3 (pcs f g k m) ∧ Below wo.heap.size wo wx) (fun s14 _ => hi + 1 - (intOf s14).toNat)
      case atStart => exact ⟨lo, _, _, _, _, Nat.le_refl _, hlohi, rfl, by rw [Hlo.out]; exact HS.out, Hba.out⟩
      case round =>
        clear HS Hba Hlo
        obtain ⟨m, n3, A3, l3, c3, hlm, hmh, rfl, hsb, hbx⟩ := hrel
        have Hsb := Lib.hid hsb
        have Hbx := Lib.hid hbx
        have s0 := hsb.c0
        have s1 := hsb.c1
        by_cases hmi : m ≤ hi
        · obtain ⟨j, hj⟩ : ∃ j, k = m + j := ⟨k - m, by omega⟩
          have hjb : j < lb := by omega
          have hma2 : m < la := by omega
          obtain ⟨b1, o1, rfl, hb1, hc1⟩ := Hf.out.get (by omega)
          obtain ⟨b2, o2, rfl, hb2, hc2⟩ := Hg.out.get (by omega)
          obtain ⟨nf, Af, lf, cf, f0, f1, zf⟩ := hc1 m hma2
          obtain ⟨ng, Ag, lg, cg, g0, g1, zg⟩ := hc2 j hjb
          have e0 := (hbx.cell (p := ⟨b1, o1 + m * 2, none⟩) hb1).trans f0
          have e1 := (hbx.cell (p := ⟨b1, o1 + m * 2 + 1, none⟩) hb1).trans f1
          have e2 := (hbx.cell (p := ⟨b2, o2 + j * 2, none⟩) hb2).trans g0
          have e3 := (hbx.cell (p := ⟨b2, o2 + j * 2 + 1, none⟩) hb2).trans g1
          have Zf := Lib.hid ((hI.at_ zf).below hbx)
          have Zg := Lib.hid ((hJ.at_ zg).below hbx)
          have Hstep := Lib.hid (show pcs f g k (m + 1) = pcs f g k m + f.getD m 0 * g.getD j 0 from by rw [pcs, hj, show m + j - m = j by omega])
          have sf := (ff m).sm
          have sgj := (fg j).sm
          have mk := (ff m).mulok (g.getD j 0)
          have sp := (ff m).sm2 (fg j)
          have ss := pcs_sm ff fg k m (by omega)
          have sa := pcs_add ff fg k m (by omega)
          rw [show k - m = j by omega] at sa
          have i1 : IntKind.i64.wrap (j : Int) = (j : Int) := IntWalk.i64_in _ (by omega)
          have i2 : (k : Int) - (m : Int) = (j : Int) := by omega
          have i3 : (m : Int) < (la : Int) := by omega
          have i4 : (j : Int) < (lb : Int) := by omega
          have t1 : (m : Int) ≤ (hi : Int) := by omega
          have nb1 : wo.heap.size ≠ b1 := by omega
          have nb2 : wo.heap.size ≠ b2 := by omega
          have fr0 := hsb.f0
          have fr1 := hsb.f1
          have Hj := Lib.hid hj
          clear hj hc1 hc2 f0 f1 zf g0 g1 zg hsb hbx hb1 hb2
          go_wp2_with fail
          refine wp_region_last (S := fun w' => w'.cell? ⟨b1, o1 + m * 2, none⟩ = some (.bool nf) ∧ w'.cell? ⟨b1, o1 + m * 2 + 1, none⟩ = some (.slice Af lf cf) ∧ w'.cell? ⟨b2, o2 + j * 2, none⟩ = some (.bool ng) ∧ w'.cell? ⟨b2, o2 + j * 2 + 1, none⟩ = some (.slice Ag lg cg) ∧ w'.cell? ⟨wo.heap.size, 0, none⟩ = some (.bool n3) ∧ w'.cell? ⟨wo.heap.size, 1, none⟩ = some (.slice A3 l3 c3)) (by kernel_rfl) (by kernel_rfl) (by (try dsimp only); go_keep) (fun hHeld => ?_)
          simp only [List.pop_toArray, List.dropLast]
          (refine take_at (i := 0) (oi := _) (v := ?_) rfl rfl (by kernel_rfl) (by kernel_rfl) (by kernel_rfl) (fun _ _ _ h => h) (Or.inl ⟨by rfl, ?_⟩) (by assumption) ?_; rotate_left; (focus (intro w hSw; (try dsimp only at hSw); go_simp; (try with_reducible rfl))); (simp only [put_lit, List.set]))
          (refine take_at (i := 1) (oi := _) (v := ?_) rfl rfl (by kernel_rfl) (by kernel_rfl) (by kernel_rfl) (fun _ _ _ h => h) (Or.inl ⟨by rfl, ?_⟩) (by assumption) ?_; rotate_left; (focus (intro w hSw; (try dsimp only at hSw); go_simp; (try with_reducible rfl))); (simp only [put_lit, List.set]))
          (refine take_at (i := 2) (oi := _) (v := ?_) rfl rfl (by kernel_rfl) (by kernel_rfl) (by kernel_rfl) (fun _ _ _ h => h) (Or.inl ⟨by rfl, ?_⟩) (by assumption) ?_; rotate_left; (focus (intro w hSw; (try dsimp only at hSw); go_simp; (try with_reducible rfl))); (simp only [put_lit, List.set]))
          (refine take_at (i := 3) (oi := _) (v := ?_) rfl rfl (by kernel_rfl) (by kernel_rfl) (by kernel_rfl) (fun _ _ _ h => h) (Or.inl ⟨by rfl, ?_⟩) (by assumption) ?_; rotate_left; (focus (intro w hSw; (try dsimp only at hSw); go_simp; (try with_reducible rfl))); (simp only [put_lit, List.set]))
          (refine take_at (i := 4) (oi := _) (v := ?_) rfl rfl (by kernel_rfl) (by kernel_rfl) (by kernel_rfl) (fun _ _ _ h => h) (Or.inl ⟨by rfl, ?_⟩) (by assumption) ?_; rotate_left; (focus (intro w hSw; (try dsimp only at hSw); go_simp; (try with_reducible rfl))); (simp only [put_lit, List.set]))
          (refine take_at (i := 5) (oi := _) (v := ?_) rfl rfl (by kernel_rfl) (by kernel_rfl) (by kernel_rfl) (fun _ _ _ h => h) (Or.inl ⟨by rfl, ?_⟩) (by assumption) ?_; rotate_left; (focus (intro w hSw; (try dsimp only at hSw); go_simp; (try with_reducible rfl))); (simp only [put_lit, List.set]))
          (refine take_at (i := 6) (oi := _) (v := ?_) rfl rfl (by kernel_rfl) (by kernel_rfl) (by kernel_rfl) (fun _ _ _ h => h) (Or.inl ⟨by rfl, ?_⟩) (by assumption) ?_; rotate_left; (focus (intro w hSw; (try dsimp only at hSw); go_simp; (try with_reducible rfl))); (simp only [put_lit, List.set]))
          (refine take_at (i := 7) (oi := _) (v := ?_) rfl rfl (by kernel_rfl) (by kernel_rfl) (by kernel_rfl) (fun _ _ _ h => h) (Or.inl ⟨by rfl, ?_⟩) (by assumption) ?_; rotate_left; (focus (intro w hSw; (try dsimp only at hSw); go_simp; (try with_reducible rfl))); (simp only [put_lit, List.set]))
          (refine take_at (i := 8) (oi := _) (v := ?_) rfl rfl (by kernel_rfl) (by kernel_rfl) (by kernel_rfl) (fun _ _ _ h => h) (Or.inl ⟨by rfl, ?_⟩) (by assumption) ?_; rotate_left; (focus (intro w hSw; (try dsimp only at hSw); go_simp; (try with_reducible rfl))); (simp only [put_lit, List.set]))
          (refine take_at (i := 9) (oi := _) (v := ?_) rfl rfl (by kernel_rfl) (by kernel_rfl) (by kernel_rfl) (fun _ _ _ h => h) (Or.inl ⟨by rfl, ?_⟩) (by assumption) ?_; rotate_left; (focus (intro w hSw; (try dsimp only at hSw); go_simp; (try with_reducible rfl))); (simp only [put_lit, List.set]))
          (refine take_at (i := 10) (oi := _) (v := ?_) rfl rfl (by kernel_rfl) (by kernel_rfl) (by kernel_rfl) (fun _ _ _ h => h) (Or.inl ⟨by rfl, ?_⟩) (by assumption) ?_; rotate_left; (focus (intro w hSw; (try dsimp only at hSw); go_simp; (try with_reducible rfl))); (simp only [put_lit, List.set]))
          (refine take_at (i := 11) (oi := _) (v := ?_) rfl rfl (by kernel_rfl) (by kernel_rfl) (by kernel_rfl) (fun _ _ _ h => h) (Or.inl ⟨by rfl, ?_⟩) (by assumption) ?_; rotate_left; (focus (intro w hSw; (try dsimp only at hSw); go_simp; (try with_reducible rfl))); (simp only [put_lit, List.set]))
          (refine take_at (i := 12) (oi := _) (v := ?_) rfl rfl (by kernel_rfl) (by kernel_rfl) (by kernel_rfl) (fun _ _ _ h => h) (Or.inl ⟨by rfl, ?_⟩) (by assumption) ?_; rotate_left; (focus (intro w hSw; (try dsimp only at hSw); go_simp; (try with_reducible rfl))); (simp only [put_lit, List.set]))
          refine wpAnyH_ready (rs := [13]) (by kernel_rfl) (by simp) ?_
          refine AllReadyH.cons rfl (fun K hK => ?_) AllReadyH.nil; go_simp
          refine (imul_any _ _ _ _ _ _ _ _ _ _ _ ?_ ?_ sf sgj mk).mono ?_
          · exact Zf.out.below (by (repeat (first | exact Below.refl _ _ | refine Below.drew ?_ | refine Below.alloc ?_ (by first | (simp; done) | (simp; omega) | omega) _ | refine Below.setCell ?_ (by first | (simp; done) | (simp; omega) | omega) _)))
          · exact Zg.out.below (by (repeat (first | exact Below.refl _ _ | refine Below.drew ?_ | refine Below.alloc ?_ (by first | (simp; done) | (simp; omega) | omega) _ | refine Below.setCell ?_ (by first | (simp; done) | (simp; omega) | omega) _)))
          rintro e w7 ⟨n8, A8, l8, c8, rfl, h8, hb8⟩
          obtain ⟨hcx, hfx⟩ := bcellS hb8
          have HS8 := Lib.hid (Hsb.out.move (Below.trans (by (repeat (first | exact Below.refl _ _ | refine Below.drew ?_ | refine Below.alloc ?_ (by first | (simp; done) | (simp; omega) | omega) _ | refine Below.setCell ?_ (by first | (simp; done) | (simp; omega) | omega) _))) (hb8.mono (by simp <;> omega))))
          have Hb8 := Lib.hid (Hbx.out.trans ((Below.trans (by (repeat (first | exact Below.refl _ _ | refine Below.drew ?_ | refine Below.alloc ?_ (by first | (simp; done) | (simp; omega) | omega) _ | refine Below.setCell ?_ (by first | (simp; done) | (simp; omega) | omega) _))) (hb8.mono (by simp <;> omega))).mono Hbx.out.size))
          refine hK.out _ _ ?_ (fun _ => ?_)
          · ((try dsimp only); repeat' apply And.intro) <;> (rw [hcx _ (by go_simp)]; go_simp)
          clear hHeld hK K hcx hfx; rename_i hHeld
          refine wpAnyH_ready (rs := [14]) (by kernel_rfl) (by simp) ?_
          refine AllReadyH.cons rfl (fun K hK => ?_) AllReadyH.nil; go_simp
          refine (iadd_any _ _ _ _ _ _ _ _ _ _ _ ?_ ?_ ss sp sa).mono ?_
          · exact HS8.out.hz.at_.below (by (repeat (first | exact Below.refl _ _ | refine Below.drew ?_ | refine Below.alloc ?_ (by first | (simp; done) | (simp; omega) | omega) _ | refine Below.setCell ?_ (by first | (simp; done) | (simp; omega) | omega) _)))
          · exact h8.at_.below (by (repeat (first | exact Below.refl _ _ | refine Below.drew ?_ | refine Below.alloc ?_ (by first | (simp; done) | (simp; omega) | omega) _ | refine Below.setCell ?_ (by first | (simp; done) | (simp; omega) | omega) _)))
          rintro e w9 ⟨n9, A9, l9, c9, rfl, h9, hb9⟩
          obtain ⟨hcx, hfx⟩ := bcellS hb9
          have hS9 := HS8.out.move (Below.trans (by (repeat (first | exact Below.refl _ _ | refine Below.drew ?_ | refine Below.alloc ?_ (by first | (simp; done) | (simp; omega) | omega) _ | refine Below.setCell ?_ (by first | (simp; done) | (simp; omega) | omega) _))) (hb9.mono (by simp <;> omega)))
          have Hb9 := Lib.hid (Hb8.out.trans ((Below.trans (by (repeat (first | exact Below.refl _ _ | refine Below.drew ?_ | refine Below.alloc ?_ (by first | (simp; done) | (simp; omega) | omega) _ | refine Below.setCell ?_ (by first | (simp; done) | (simp; omega) | omega) _))) (hb9.mono (by simp <;> omega))).mono Hb8.out.size))
          refine hK.out _ _ ?_ (fun _ => ?_)
          · ((try dsimp only); repeat' apply And.intro) <;> (rw [hcx _ (by go_simp)]; go_simp)
          clear hHeld hK K hcx hfx; rename_i hHeld
          refine wpAnyH_done (by kernel_rfl) (lastQ_list rfl ?_) _
          have HP := Lib.hid (hS9.put h9)
          have p0 := hS9.c0
          have p1 := hS9.c1
          have p2 := hS9.f0
          have p3 := hS9.f1
          clear hHeld hS9 h9 h8 hb8 hb9
          go_wp2
          go_roundw
          case rel => exact ⟨m + 1, _, _, _, _, by omega, by omega, by go_num, by rw [Hstep.out]; exact HP.out, (Hb9.out.setCell (p := ⟨wo.heap.size, 0, none⟩) (Nat.le_refl _) _).setCell (p := ⟨wo.heap.size, 1, none⟩) (Nat.le_refl _) _⟩
          case measure => simp [intOf]; omega
        · have hme : m = hi + 1 := by omega
          subst hme
          have hend : pcs f g k (hi + 1) = (pmul f g).getD k 0 := by
            rw [pmul_get f g (by rw [hla2.out, hlb2.out]; have := Hn.out; omega), Hhi.out, ← hla2.out]
            exact pcs_end f g k (by rw [hla2.out]; exact hla)
          rw [hend] at hsb
          have HS2 := Lib.hid hsb
          have hrw := Hrow.out.below hbx
          have hul : (upto (pmul f g) k n).length = n := upto_length _ _ _
          obtain ⟨n0, A0, l0, c0, d0, d1, _⟩ := hrw.elems k (by rw [hul]; exact hlt)
          have hf0 := hrw.frozen (k * 2)
          have hf1 := hrw.frozen (k * 2 + 1)
          have hst := upto_set (pmul f g) (k := k) (n := n) hlt
          have hr2 := hrw.set_ (i := k) (by rw [hul]; exact hlt) hsb.hz
          rw [hst] at hr2
          have Hr2 := Lib.hid hr2
          have HZ2 := Lib.hid ((Hzb.out.move hbx).row hrw (i := k) (by rw [hul]; exact hlt) (by omega) (.bool n3) (.slice A3 l3 c3))
          have hki : ¬ ((hi : Int) + 1 ≤ (hi : Int)) := by omega
          have s0 := hsb.c0
          have s1 := hsb.c1
          have Hbx2 := Lib.hid hbx
          have Hrw := Lib.hid hrw
          clear hend hsb hbx hrw hul hst hr2 Hsb Hbx
          go_wp2
          go_roundw
          case rel => exact ⟨k + 1, by omega, by go_num, Hr2.out, HZ2.out, Nat.le_trans hws (by have := Hbx2.out.size; simpa [World.setCell] using this), ((Hbw.out.trans (Hbx2.out.mono Hbw.out.size)).setCell (p := ⟨w.heap.size + 1, k * 2, none⟩) (by simp) _).setCell (p := ⟨w.heap.size + 1, k * 2 + 1, none⟩) (by simp) _⟩
          case measure => simp [intOf]; omega
    · have hk2 : n = k := by omega
      subst hk2
      have hup : upto (pmul f g) n n = pmul f g := by have := upto_full (pmul f g); rw [hpl.out] at this; exact this
      rw [hup] at Hrow
      clear hup
      go_wp2
      go_ret
      exact ⟨w.heap.size + 1, rfl, Hrow.out, by omega, Hbw.out⟩

/-- the product of two polynomials in normal form -/
def polymul (f g : List Int) : List Int := if f = [] ∨ g = [] then [] else pmul f g

set_option maxRecDepth 100000 in
set_option maxHeartbeats 1000000 in
theorem convolve_nil (A : Option Addr) (la ca : Nat) (B : Option Addr) (lb cb : Nat) (w : World) (h0 : la = 0 ∨ lb = 0) (hma : la ≤ 400000000) (hmb : lb ≤ 400000000) :
    Calls Try.prog 114 #[.slice A la ca, .slice B lb cb, .agg #[.bool false, .slice none 0 0], .func (.func 88) #[] #[], .func (.func 54) #[] #[]] w fun e w' => e = .returned (.slice none 0 0) ∧ Below w.heap.size w w' := by
  by_cases h1 : la = 0
  · subst h1
    clear h0
    go_enter Try.func114, Try.ntmps114
    go_wp2
    go_ret
    exact ⟨rfl, (Below.refl _ _).alloc (Nat.le_refl _) _⟩
  · have h2 : lb = 0 := by omega
    subst h2
    have hb1 : ((la : Int) == 0) = false := by rw [beq_eq_false_iff_ne]; omega
    clear h0 h1
    go_enter Try.func114, Try.ntmps114
    go_wp2
    go_ret
    exact ⟨rfl, (Below.refl _ _).alloc (Nat.le_refl _) _⟩

set_option maxRecDepth 100000 in
set_option maxHeartbeats 1000000 in
theorem polymul_any {I J : IntPred} (hI : IK I) (hJ : IK J) (A : Option Addr) (la ca : Nat) (f : List Int) (B : Option Addr) (lb cb : Nat) (g : List Int) (w : World) (hf : PolyP I w A la ca f) (hg : PolyP J w B lb cb g) (ff : FitP f) (fg : FitP g) (hma : la ≤ 400000000) (hmb : lb ≤ 400000000) :
    Calls Try.prog 48 #[.slice A la ca, .slice B lb cb] w fun e w' => ∃ A' l' c', e = .returned (.slice A' l' c') ∧ PolyN w' A' l' c' (polymul (ptrim f) (ptrim g)) ∧ Below w.heap.size w w' := by
  have hpf : plen f ≤ 400000000 := by have := plen_le f; have := hf.length; omega
  have hpg : plen g ≤ 400000000 := by have := plen_le g; have := hg.length; omega
  have fitt : ∀ {q : List Int}, FitP q → FitP (ptrim q) := fun {q} h k => by
    rcases Nat.lt_or_ge k (plen q) with h1 | h1
    · rw [ptrim, take_getD' q h1]; exact h k
    · rw [getD_out _ (by rw [ptrim_length]; exact h1)]; unfold Fit; exact Nat.pow_pos BB_pos
  have ff2 := fitt ff
  have fg2 := fitt fg
  go_enter Try.func48, Try.ntmps48
  go_wp2_with fail
  refine (ptrim_any hI _ _ _ _ _ hf ff.smp (by omega)).mono ?_
  rintro e w1 ⟨l1, rfl, h1, hl1, hb1⟩
  have hg1 := hg.below hJ hb1
  have Hb1 := Lib.hid hb1
  have H1 := Lib.hid h1
  have Hl1 := Lib.hid hl1
  have b1 : l1 ≤ 400000000 := by omega
  clear hf hg hb1 h1 hl1
  go_wp2_with fail
  refine (ptrim_any hJ _ _ _ _ _ hg1 fg.smp (by omega)).mono ?_
  rintro e w2 ⟨l2, rfl, h2, hl2, hb2⟩
  have h12 := H1.out.below hI hb2
  have Hb2 := Lib.hid (Hb1.out.trans (hb2.mono Hb1.out.size))
  have Hl2 := Lib.hid hl2
  have b2 : l2 ≤ 400000000 := by omega
  have E1 := Lib.hid (ptrim_length f)
  have E2 := Lib.hid (ptrim_length g)
  clear hb2 hg1 H1 Hb1 hl2
  by_cases h0 : l1 = 0 ∨ l2 = 0
  · have hp : polymul (ptrim f) (ptrim g) = [] := by
      unfold polymul
      rw [if_pos]
      rcases h0 with h0 | h0
      · exact .inl (List.eq_nil_of_length_eq_zero (by rw [E1.out, ← Hl1.out]; exact h0))
      · exact .inr (List.eq_nil_of_length_eq_zero (by rw [E2.out, ← Hl2.out]; exact h0))
    have Hp := Lib.hid hp
    have H0 := Lib.hid h0
    clear hp h0
    go_wp2_with fail
    refine (convolve_nil _ _ _ _ _ _ _ H0.out b1 b2).mono ?_
    rintro e w3 ⟨rfl, hb3⟩
    have Hb3 := Lib.hid (Hb2.out.trans (hb3.mono Hb2.out.size))
    clear h12 h2 hb3
    go_wp2
    go_ret
    exact ⟨_, _, _, rfl, by rw [Hp.out]; exact PolyP.nil _ _ _ _, Hb3.out⟩
  · have hp : polymul (ptrim f) (ptrim g) = pmul (ptrim f) (ptrim g) := by
      unfold polymul
      rw [if_neg]
      rintro (e | e)
      · have := E1.out; rw [e] at this; have := Hl1.out; simp at *; omega
      · have := E2.out; rw [e] at this; have := Hl2.out; simp at *; omega
    have hlp := pmul_length (ptrim f) (ptrim g)
    rw [E1.out, E2.out, ← Hl1.out, ← Hl2.out] at hlp
    have Hp := Lib.hid hp
    have Hlp := Lib.hid hlp
    have q1 : 0 < l1 := by omega
    have q2 : 0 < l2 := by omega
    clear hp h0 hlp
    go_wp2_with fail
    refine (convolve_any hI hJ _ _ _ _ _ _ _ _ _ h12 h2 ff2 fg2 q1 q2 b1 b2).mono ?_
    rintro e w3 ⟨r, rfl, hr, hle, hb3⟩
    have Hb3 := Lib.hid (Hb2.out.trans (hb3.mono Hb2.out.size))
    have hpo := hr.poly (cap := l1 + l2 - 1) (by rw [Hlp.out]; exact Nat.le_refl _)
    rw [Hlp.out] at hpo
    have Hpo := Lib.hid hpo
    clear h12 h2 hb3 hr hle hpo
    go_wp2
    go_ret
    exact ⟨_, _, _, rfl, by rw [Hp.out]; exact Hpo.out, Hb3.out⟩
end Go.Proofs.Ytfpliceenjbclaa
